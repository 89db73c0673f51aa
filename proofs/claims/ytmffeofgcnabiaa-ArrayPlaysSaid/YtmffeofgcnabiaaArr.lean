/- The array of layer 20: New, Read, Write, Trim, Clone. -/
import Derived.Test.YtmffeofgcnabiaaAgg
import Derived.Test.YtmffeofgcnabiaaErr
namespace Go.Proofs.Ytmffeofgcnabiaa
open Go.RowKit
set_option linter.unusedVariables false
/-- The cells of a type's zero value. -/
noncomputable def zcells (t : TypeId) : Array Value := (((Try.prog.info? t).bind (·.zero)).getD (.agg #[])).cells
def isU8 : Value → Bool
  | .int .u8 n => n == 0
  | _ => false
theorem isU8_eq {v : Value} (h : isU8 v = true) : v = .int .u8 0 := by
  unfold isU8 at h
  split at h
  · simp at h
    rw [h]
  · cases h
theorem arr_of_all (cs : Array Value) (N : Nat) (z : Value) (p : Value → Bool) (hp : ∀ v, p v = true → v = z) (h : (cs.toList.length == N && cs.toList.all p) = true) : cs = (Array.range N).map (fun _ => z) := by
  simp only [Bool.and_eq_true, beq_iff_eq, List.all_eq_true] at h
  apply Array.ext
  · simpa using h.1
  · intro i h1 h2
    simp only [Array.getElem_map]
    exact hp _ (h.2 _ (by simp))
theorem zarr_chk : ((zcells 54).toList.length == 3840 && (zcells 54).toList.all isU8) = true := by kernel_rfl
theorem zarr : zcells 54 = (Array.range 3840).map (fun _ => .int .u8 0) := arr_of_all _ _ _ isU8 (fun _ h => isU8_eq h) zarr_chk
theorem zsec_chk : ((zcells 51).toList.length == 160 && (zcells 51).toList.all isU8) = true := by kernel_rfl
theorem zsec : zcells 51 = (Array.range 160).map (fun _ => .int .u8 0) := arr_of_all _ _ _ isU8 (fun _ h => isU8_eq h) zsec_chk
theorem build_arr0 (w : World) : (Instr.build 54 #[]).run Try.prog w = .ok (.agg (zcells 54)) w := by kernel_rfl
theorem build_arr (w : World) : (Instr.build 54 #[]).run Try.prog w = .ok (agg 3840 (fun _ => .int .u8 0)) w := by
  rw [build_arr0, zarr]
  rfl
theorem build_sec0 (w : World) : (Instr.build 51 #[]).run Try.prog w = .ok (.agg (zcells 51)) w := by kernel_rfl
theorem build_sec (w : World) : (Instr.build 51 #[]).run Try.prog w = .ok (agg 160 (fun _ => .int .u8 0)) w := by
  rw [build_sec0, zsec]
  rfl
theorem alloc_arr0 (w : World) : (Instr.alloc 54 true (.tuple #[])).run Try.prog w = .ok (.pointer (some ⟨w.heap.size, 0, none⟩)) (w.alloc (.cells (zcells 54) 54)) := by kernel_rfl
theorem alloc_arr (w : World) : (Instr.alloc 54 true (.tuple #[])).run Try.prog w = .ok (.pointer (some ⟨w.heap.size, 0, none⟩)) (w.alloc (rowObj 3840 (fun _ => .int .u8 0) 54)) := by
  rw [alloc_arr0, zarr]
  rfl
theorem alloc_sec0 (w : World) : (Instr.alloc 51 true (.tuple #[])).run Try.prog w = .ok (.pointer (some ⟨w.heap.size, 0, none⟩)) (w.alloc (.cells (zcells 51) 51)) := by kernel_rfl
theorem alloc_sec (w : World) : (Instr.alloc 51 true (.tuple #[])).run Try.prog w = .ok (.pointer (some ⟨w.heap.size, 0, none⟩)) (w.alloc (rowObj 160 (fun _ => .int .u8 0) 51)) := by
  rw [alloc_sec0, zsec]
  rfl
theorem size_arr : (Try.prog.info? 54).map (·.size) = some 3840 := by kernel_rfl
theorem size_secs : (Try.prog.info? 52).map (·.size) = some 3840 := by kernel_rfl
theorem size_sec : (Try.prog.info? 51).map (·.size) = some 160 := by kernel_rfl
/-- The array at block g: its 3840 bytes. -/
def ArrAt (w : World) (g : Nat) (S : Nat → Int) : Prop := Row w g 54 3840 (fun j => .int .u8 (S j))
set_option maxHeartbeats 1000000 in
theorem new_ok (w : World) : Calls Try.prog 6 #[] w fun e w' => e = .returned (.pointer (some ⟨w.heap.size, 0, none⟩)) ∧ ArrAt w' w.heap.size (fun _ => 0) ∧ Keep [] w w' := by
  go_enter Try.func6, Try.ntmps6
  go_wp2_with (first
    | (with_reducible refine wpList_build0 rfl rfl build_arr ?_)
    | (with_reducible refine wpList_box0 rfl (.tmp 1) rfl rfl ?_))
  go_ret
  exact ⟨rfl, Row.obj w _ _ _, (Keep.refl _ _).alloc _⟩
set_option maxHeartbeats 1000000 in
theorem at_ok (g n : Nat) (w : World) (hn : n < 24) :
    Calls Try.prog 17 #[.pointer (some ⟨g, 0, none⟩), .int .i64 n] w fun e w' => e = .returned (.tuple #[.pointer (some ⟨g, n * 160, none⟩), .nilIface]) ∧ w = w' := by
  go_enter Try.func17, Try.ntmps17
  go_wp2
  go_ret2
  exact ⟨rfl, rfl⟩
set_option maxHeartbeats 1000000 in
theorem at_arg (g : Nat) (n : Int) (w : World) (hn : n < 0 ∨ 24 ≤ n) :
    Calls Try.prog 17 #[.pointer (some ⟨g, 0, none⟩), .int .i64 n] w fun e w' => e = .returned (.tuple #[.pointer none, .iface 37 (.int .i64 1)]) ∧ w = w' := by
  rcases hn with hn | hn
  all_goals
    go_enter Try.func17, Try.ntmps17
    go_wp2
    go_ret2
    exact ⟨rfl, rfl⟩
def ReadPost (w : World) (n : Nat) (S : Nat → Int) (e : Ending) (w' : World) : Prop :=
  ∃ X c, e = .returned (.tuple #[.slice X 160 c, .nilIface]) ∧ Ly w' 5 1 X 160 c (fun j => .int .u8 (S (n * 160 + j))) ∧ (∀ x, x ∈ blk X → w.heap.size ≤ x) ∧ Keep [] w w'
set_option maxHeartbeats 1000000 in
theorem read_ok (g n : Nat) (S : Nat → Int) (w : World) (hn : n < 24) (hr : ArrAt w g S) :
    Calls Try.prog 11 #[.pointer (some ⟨g, 0, none⟩), .int .i64 n] w (ReadPost w n S) := by
  obtain ⟨i0, hi, hz0, hz1, hz2⟩ := info_parts byte_info
  have hrd : Rd w (some ⟨g, n * 160, none⟩) 160 (fun j => .int .u8 (S (n * 160 + j))) := fun _ => ⟨g, n * 160, rfl, fun j hj => hr.cell _ (by omega)⟩
  have HRD := Lib.hid hrd
  clear hrd
  go_enter Try.func11, Try.ntmps11
  go_wp2_with (first
    | (go_at_call 17
       refine (at_ok g n _ hn).mono ?_
       rintro e w1 ⟨rfl, rfl⟩)
    | (at_builtin
       refine wpList_append_ly rfl _ (.tmp 19) 29 rfl 5 i0 _ 1 1 Try.underlying29 hi hz0 hz1 hz2 rfl (by omega) none 0 0 (fun _ => .int .u8 0) rfl (Ly.nil _ _ _ _) (some ⟨g, n * 160, none⟩) 160 160 _ rfl HRD.out (Nat.le_refl _) (fun e => by cases e) (fun _ _ => rfl) (by simp only [maxLen]; omega) (by omega) ?_
       intro X cX w1 hly hkp hat hpre
       have HY := Lib.hid hly; have HK := Lib.hid hkp; have HAT := Lib.hid hat
       clear hly hkp hat hpre))
  go_ret2
  refine ⟨X, cX, rfl, HY.out.congr (fun j hj => by simp), fun x hx => ?_, HK.out⟩
  rcases HAT.out with e | e
  · rw [e] at hx; cases hx
  · rw [e] at hx
    rw [List.mem_singleton.1 hx]
    exact Nat.le_refl _
set_option maxHeartbeats 1000000 in
theorem read_arg (g : Nat) (n : Int) (w : World) (hn : n < 0 ∨ 24 ≤ n) :
    Calls Try.prog 11 #[.pointer (some ⟨g, 0, none⟩), .int .i64 n] w fun e w' => e = .returned (.tuple #[.slice none 0 0, .iface 37 (.int .i64 1)]) ∧ w = w' := by
  go_enter Try.func11, Try.ntmps11
  go_wp2_with (go_at_call 17; refine (at_arg g n _ hn).mono ?_; rintro e w1 ⟨rfl, rfl⟩)
  go_ret2
  exact ⟨rfl, rfl⟩
/-- S, but sector n reads f. -/
def setSec (S : Nat → Int) (n : Nat) (f : Nat → Int) : Nat → Int := fun j => if n * 160 ≤ j ∧ j < n * 160 + 160 then f (j - n * 160) else S j
theorem setSec_lay (S : Nat → Int) (n : Nat) (f : Nat → Int) : lay (fun j => .int .u8 (S j)) (n * 160) 160 (fun j => .int .u8 (f j)) = fun j => .int .u8 (setSec S n f j) := by
  funext j
  unfold lay setSec
  split <;> rfl
theorem setSec_same (S : Nat → Int) (n : Nat) (f : Nat → Int) (j : Nat) (hj : j < 160) : setSec S n f (n * 160 + j) = f j := by
  unfold setSec
  rw [if_pos (by omega), show n * 160 + j - n * 160 = j from by omega]
theorem setSec_other (S : Nat → Int) (n m : Nat) (f : Nat → Int) (j : Nat) (hj : j < 160) (hm : m ≠ n) : setSec S n f (m * 160 + j) = S (m * 160 + j) := by
  unfold setSec
  rw [if_neg]
  intro ⟨h1, h2⟩
  omega
set_option maxHeartbeats 1000000 in
theorem write_ok (g n c : Nat) (A : Option Addr) (S f : Nat → Int) (w : World) (hn : n < 24) (hr : ArrAt w g S) (ha : Rd w A 160 (fun j => .int .u8 (f j))) :
    Calls Try.prog 7 #[.pointer (some ⟨g, 0, none⟩), .int .i64 n, .slice A 160 c] w fun e w' => e = .returned .nilIface ∧ ArrAt w' g (setSec S n f) ∧ Keep [g] w w' := by
  have hA : A = none → 160 = 0 ∧ c = 0 := fun e => by
    obtain ⟨b, o, e2, _⟩ := ha (by omega)
    rw [e2] at e
    cases e
  have HR : Hid (Row w g 54 3840 (fun j => .int .u8 (S j))) := hr
  have HA := Lib.hid ha; have HN := Lib.hid hA
  clear hr ha hA
  go_enter Try.func7, Try.ntmps7
  go_wp2_with (first
    | (go_at_call 17
       refine (at_ok g n _ hn).mono ?_
       rintro e w1 ⟨rfl, rfl⟩)
    | (with_reducible refine wpList_copy_rd rfl (.tmp 24) (.tmp 25) rfl Try.underlying29 byte_size (dLen := 160) (dCap := 160) (g := g) (o := n * 160) rfl HR.out A 160 c 160 rfl rfl HA.out HN.out (by omega) (fun _ _ => rfl) ?_
       intro w1 r1 k1
       have R1 := Lib.hid r1; have K1 := Lib.hid k1
       clear r1 k1))
  go_ret
  have h := R1.out
  rw [setSec_lay] at h
  exact ⟨rfl, h, K1.out⟩
set_option maxHeartbeats 1000000 in
theorem write_arg (g n c : Nat) (i : Int) (A : Option Addr) (w : World) (hi : i < 0 ∨ 24 ≤ i) :
    Calls Try.prog 7 #[.pointer (some ⟨g, 0, none⟩), .int .i64 i, .slice A n c] w fun e w' => e = .returned (.iface 37 (.int .i64 1)) ∧ w = w' := by
  go_enter Try.func7, Try.ntmps7
  go_wp2_with (go_at_call 17; refine (at_arg g i _ hi).mono ?_; rintro e w1 ⟨rfl, rfl⟩)
  go_ret
  exact ⟨rfl, rfl⟩
set_option maxHeartbeats 1000000 in
theorem write_len (g n i c : Nat) (A : Option Addr) (w : World) (hi : i < 24) (hn : n ≠ 160) (hm : n ≤ maxLen) :
    Calls Try.prog 7 #[.pointer (some ⟨g, 0, none⟩), .int .i64 i, .slice A n c] w fun e w' => e = .returned (.iface 37 (.int .i64 1)) ∧ w = w' := by
  unfold maxLen at hm
  go_enter Try.func7, Try.ntmps7
  go_wp2_with (go_at_call 17; refine (at_ok g i _ hi).mono ?_; rintro e w1 ⟨rfl, rfl⟩)
  go_ret
  exact ⟨rfl, rfl⟩
set_option maxHeartbeats 1000000 in
theorem trim_ok (g n : Nat) (S : Nat → Int) (w : World) (hn : n < 24) (hr : ArrAt w g S) :
    Calls Try.prog 10 #[.pointer (some ⟨g, 0, none⟩), .int .i64 n] w fun e w' => e = .returned .nilIface ∧ ArrAt w' g (setSec S n (fun _ => 0)) ∧ Keep [g] w w' := by
  have HR : Hid (Row w g 54 3840 (fun j => .int .u8 (S j))) := hr
  clear hr
  go_enter Try.func10, Try.ntmps10
  go_wp2_with (first
    | (go_at_call 17
       refine (at_ok g n _ hn).mono ?_
       rintro e w1 ⟨rfl, rfl⟩)
    | (with_reducible refine wpList_build0 rfl rfl build_sec ?_)
    | (with_reducible refine wpList_store_agg (ty := 51) rfl (.tmp 18) (.tmp 17) rfl rfl rfl HR.out (by omega) size_sec (fun _ _ => rfl) ?_
       intro w1 r1 k1
       have R1 := Lib.hid r1; have K1 := Lib.hid k1
       clear r1 k1))
  go_ret
  have h := R1.out
  rw [setSec_lay] at h
  exact ⟨rfl, h, K1.out⟩
set_option maxHeartbeats 1000000 in
theorem trim_arg (g : Nat) (i : Int) (w : World) (hi : i < 0 ∨ 24 ≤ i) :
    Calls Try.prog 10 #[.pointer (some ⟨g, 0, none⟩), .int .i64 i] w fun e w' => e = .returned (.iface 37 (.int .i64 1)) ∧ w = w' := by
  go_enter Try.func10, Try.ntmps10
  go_wp2_with (go_at_call 17; refine (at_arg g i _ hi).mono ?_; rintro e w1 ⟨rfl, rfl⟩)
  go_ret
  exact ⟨rfl, rfl⟩
end Go.Proofs.Ytmffeofgcnabiaa
