/- The mark of layer 3: Mark, Seal, Open; a copy of bytes. -/
import Derived.Test.YtefbmimbeimlaaaCopy
import Derived.Test.YtefbmimbeimlaaaErr
import Derived.Lib.SlBytesConst
import Derived.Lib.SliceRun
import Derived.Laws.BytesArg
namespace Go.Proofs.Ytefbmimbeimlaaa
open Go.RowKit
set_option linter.unusedVariables false
def markF : Nat → Int := fun j => ([112, 97, 116, 105, 110, 97, 48, 49] : List Int).getD j 0
/-- A body and the mark behind it. -/
def sealF (f : Nat → Int) : Nat → Int := fun j => if j < 50 then f j else markF (j - 50)
theorem byte_size : (Try.prog.info? 5).map (·.size) = some 1 := by kernel_rfl
set_option maxHeartbeats 1000000 in
theorem mark_ok (w : World) : Calls Try.prog 18 #[] w fun e w' => e = .returned (.slice (some ⟨w.heap.size, 0, none⟩) 8 8) ∧ Ly w' 5 1 (some ⟨w.heap.size, 0, none⟩) 8 8 (fun j => .int .u8 (markF j)) ∧ Keep [] w w' := by
  have kc := fun (w : World) (C : Array Value) (n c : Nat) => Lib.run_convert_bytes_const (P := Try.prog) w 24 5 C n c Try.underlying24 Try.underlying5
  go_enter Try.func18, Try.ntmps18
  go_wp2
  go_ret
  refine ⟨rfl, ⟨Nat.le_refl _, by decide, (fun e => by cases e), fun a e => ?_⟩, (Keep.refl _ _).alloc _⟩
  injection e with e
  subst e
  refine ⟨_, _, _, rfl, heap_alloc_new w _, .inr ⟨rfl, by decide⟩, by decide, fun j hj => ?_⟩
  have h : j = 0 ∨ j = 1 ∨ j = 2 ∨ j = 3 ∨ j = 4 ∨ j = 5 ∨ j = 6 ∨ j = 7 := by omega
  rcases h with rfl | rfl | rfl | rfl | rfl | rfl | rfl | rfl <;> rfl
def SealPost (w : World) (f : Nat → Int) (e : Ending) (w' : World) : Prop :=
  e = .returned (.tuple #[.slice (some ⟨w.heap.size, 0, none⟩) 58 58, .nilIface]) ∧ Row w' w.heap.size 5 58 (fun j => .int .u8 (sealF f j)) ∧ Keep [] w w'
set_option maxHeartbeats 1000000 in
theorem seal_ok (A : Option Addr) (c : Nat) (f : Nat → Int) (w : World) (r : Rd w A 50 (fun j => .int .u8 (f j))) :
    Calls Try.prog 16 #[.slice A 50 c] w (SealPost w f) := by
  have hmk : ∀ w : World, (Instr.makeSlice 24 (.int .i64 58) (.int .i64 58)).run Try.prog w = .ok (.slice (some ⟨w.heap.size, 0, none⟩) 58 58) (w.alloc (.cells (madeCells #[.int .u8 0] 58) 5)) := fun w => run_make_row' (P := Try.prog) 24 5 (.int .u8 0) 1 Try.underlying24 byte_info rfl .i64 .i64 58 (by omega) (by omega) w
  have hA : A = none → 50 = 0 ∧ c = 0 := fun e => by
    obtain ⟨b, o, e2, _⟩ := r (by omega)
    rw [e2] at e
    cases e
  have R := Lib.hid r; have HA := Lib.hid hA; clear r hA
  go_enter Try.func16, Try.ntmps16
  go_wp2_with (first
    | (with_reducible refine wpList_copy_rd rfl (.tmp 10) (.tmp 11) rfl Try.underlying24 byte_size (dLen := 58) (dCap := 58) (g := w.heap.size) (o := 0) rfl (Row.made w 5 (.int .u8 0) 58) A 50 c 50 rfl rfl (R.out.keep0 ((Keep.refl [] w).alloc _)) HA.out (by omega) (fun _ _ => rfl) ?_
       intro w1 r1 k1
       have R1 := Lib.hid r1; have K1 := Lib.hid k1
       clear r1 k1)
    | (with_reducible refine wpList_copy_str rfl (.tmp 14) _ rfl Try.underlying24 byte_size (dLen := 8) (dCap := 8) (g := w.heap.size) (o := 50) rfl R1.out _ rfl (by decide) (by decide) ?_
       intro w2 r2 k2
       have R2 := Lib.hid r2; have K2 := Lib.hid k2
       clear r2 k2))
  go_ret2
  refine ⟨rfl, R2.out.congr (fun j hj => ?_), (((Keep.refl [] w).alloc _).then K1.out (fun x hx => .inr (by rw [List.mem_singleton.1 hx]; exact Nat.le_refl _))).then K2.out (fun x hx => .inr (by rw [List.mem_singleton.1 hx]; exact Nat.le_refl _))⟩
  unfold lay sealF
  by_cases h : j < 50
  · rw [if_neg (by omega), if_pos (by omega), if_pos h]
    rfl
  · rw [if_pos ⟨by omega, by show j < 50 + 8; omega⟩, if_neg h]
    obtain ⟨q, rfl⟩ : ∃ q, j = 50 + q := ⟨j - 50, by omega⟩
    rw [show 50 + q - 50 = q from by omega]
    have hq : q = 0 ∨ q = 1 ∨ q = 2 ∨ q = 3 ∨ q = 4 ∨ q = 5 ∨ q = 6 ∨ q = 7 := by omega
    rcases hq with rfl | rfl | rfl | rfl | rfl | rfl | rfl | rfl <;> rfl
set_option maxHeartbeats 1000000 in
theorem seal_arg (A : Option Addr) (n c : Nat) (w : World) (hn : n ≠ 50) (hm : n ≤ maxLen) :
    Calls Try.prog 16 #[.slice A n c] w fun e w' => e = .returned (.tuple #[.slice none 0 0, .iface 29 (.int .i64 1)]) ∧ w = w' := by
  unfold maxLen at hm
  go_enter Try.func16, Try.ntmps16
  go_wp2
  go_ret2
  exact ⟨rfl, rfl⟩

theorem Ly.empty (w : World) (t : TypeId) (size : Nat) (f : Nat → Value) : Ly (w.alloc (.cells #[] t)) t size (some ⟨w.heap.size, 0, none⟩) 0 0 f :=
  ⟨Nat.le_refl _, by decide, (fun e => by cases e), fun a e => by
    injection e with e
    subst e
    exact ⟨_, _, _, rfl, heap_alloc_new w _, .inl rfl, by simp, fun j hj => by simp at hj⟩⟩
def ClonePost (w : World) (n : Nat) (f : Nat → Value) (e : Ending) (w' : World) : Prop :=
  ∃ X c, e = .returned (.slice X n c) ∧ Ly w' 5 1 X n c f ∧ (∀ x, x ∈ blk X → w.heap.size ≤ x) ∧ Keep [] w w'
set_option maxHeartbeats 1000000 in
theorem clone_ok (a : Addr) (n c : Nat) (f : Nat → Value) (w : World) (r : Rd w (some a) n f) (hn : n ≤ c) (hl : n ≤ 140737488351232) (h1 : ∀ j, j < n → (f j).oneCell' = true) :
    Calls Try.prog 27 #[.slice (some a) n c] w (ClonePost w n f) := by
  obtain ⟨i0, hi, hz0, hz1, hz2⟩ := info_parts byte_info
  have R := Lib.hid r; have H1 := Lib.hid h1; clear r h1
  have hnil : ∀ w : World, (binOp .eql 24 (.slice (some a) n c) (.slice none 0 0)).run Try.prog w = .ok (.bool false) w := fun w => Lib.run_eql_slice_nil w 24 5 (some a) n c 0 0 Try.underlying24
  go_enter Try.func27, Try.ntmps27
  go_wp2_with (at_builtin
               refine wpList_append_ly rfl (.tmp 5) (.tmp 6) 24 rfl 5 i0 _ 1 1 Try.underlying24 hi hz0 hz1 hz2 rfl (by omega) (some ⟨w.heap.size, 0, none⟩) 0 0 (fun _ => .int .u8 0) rfl (Ly.empty w 5 1 _) (some a) n c f rfl (by rw [Nat.mul_one]; exact R.out.keep0 ((Keep.refl [] w).alloc _)) hn (fun e => by cases e) (by rw [Nat.mul_one]; exact H1.out) (by simp only [maxLen]; omega) (by omega) ?_
               intro X cX w1 hly hkp hat hpre
               have HY := Lib.hid hly; have HK := Lib.hid hkp; have HAT := Lib.hid hat
               clear hly hkp hat hpre)
  go_ret
  refine ⟨X, cX, rfl, ?_, ?_, ((Keep.refl [] w).alloc _).then HK.out (fun x hx => .inr (by rw [List.mem_singleton.1 hx]; exact Nat.le_refl _))⟩
  · have h := HY.out
    rw [Nat.zero_add] at h
    exact h.congr (fun j hj => by simp)
  · intro x hx
    rcases HAT.out with e | e
    · rw [e] at hx
      rw [List.mem_singleton.1 hx]
      exact Nat.le_refl _
    · rw [e] at hx
      rw [List.mem_singleton.1 hx]
      simp
set_option maxHeartbeats 1000000 in
theorem clone_nil (w : World) : Calls Try.prog 27 #[.slice none 0 0] w fun e w' => e = .returned (.slice none 0 0) ∧ w = w' := by
  have hnil : ∀ w : World, (binOp .eql 24 (.slice none 0 0) (.slice none 0 0)).run Try.prog w = .ok (.bool true) w := fun w => Lib.run_eql_slice_nil w 24 5 none 0 0 0 0 Try.underlying24
  go_enter Try.func27, Try.ntmps27
  go_wp2
  go_ret
  exact ⟨rfl, rfl⟩

theorem Ly.cut3 {w : World} {t : TypeId} {A : Option Addr} {n c : Nat} {f : Nat → Value} (h : Ly w t 1 A n c f) {k : Nat} (hk : k ≤ n) : Ly w t 1 A k k f :=
  ⟨Nat.le_refl _, by have := h.1; have := h.2.1; omega, fun e => by have := h.2.2.1 e; have := h.1; omega, fun a e => by
    obtain ⟨g, cur, fr, e2, hh, hfr, hc, r⟩ := h.2.2.2 a e
    exact ⟨g, cur, fr, e2, hh, by rcases hfr with h | ⟨_, h⟩; exact .inl h; exact .inr ⟨rfl, h⟩, by have := h.1; omega, fun j hj => r j (by omega)⟩⟩
/-- Does a message of 58 bytes bear the mark? -/
def Marked (f : Nat → Int) : Prop := ∀ j, j < 8 → f (50 + j) = markF j
def tailS (f : Nat → Int) : ByteArray := strOfNums ((List.range 8).map fun j => f (50 + j))
theorem byte_inj {a b : Int} (ha : 0 ≤ a) (ha2 : a ≤ 255) (hb : 0 ≤ b) (hb2 : b ≤ 255) (h : UInt8.ofNat a.toNat = UInt8.ofNat b.toNat) : a = b := by
  have h2 := congrArg UInt8.toNat h
  simp only [UInt8.toNat_ofNat'] at h2
  omega
theorem tail_marked {f : Nat → Int} (h : Marked f) : tailS f = ⟨#[112, 97, 116, 105, 110, 97, 48, 49]⟩ := by
  unfold tailS
  rw [show ((List.range 8).map fun j => f (50 + j)) = [112, 97, 116, 105, 110, 97, 48, 49] from by
    simp only [show List.range 8 = [0, 1, 2, 3, 4, 5, 6, 7] from rfl, List.map_cons, List.map_nil]
    rw [h 0 (by omega), h 1 (by omega), h 2 (by omega), h 3 (by omega), h 4 (by omega), h 5 (by omega), h 6 (by omega), h 7 (by omega)]
    rfl]
  rfl
theorem tail_not {f : Nat → Int} (hf : ∀ j, 0 ≤ f j ∧ f j ≤ 255) (h : ¬ Marked f) : tailS f ≠ ⟨#[112, 97, 116, 105, 110, 97, 48, 49]⟩ := by
  intro e
  apply h
  unfold tailS strOfNums at e
  injection e with e
  simp only [show List.range 8 = [0, 1, 2, 3, 4, 5, 6, 7] from rfl, List.map_cons, List.map_nil] at e
  injection e with e
  simp only [List.cons.injEq] at e
  obtain ⟨e0, e1, e2, e3, e4, e5, e6, e7, _⟩ := e
  have key : ∀ (a : Int) (b : Nat), b ≤ 255 → 0 ≤ a → a ≤ 255 → UInt8.ofNat a.toNat = UInt8.ofNat b → a = b := fun a b hb h0 h1 hh => by
    have := byte_inj (b := (b : Int)) h0 h1 (by omega) (by omega) (by simpa using hh)
    exact this
  intro j hj
  have hj8 : j = 0 ∨ j = 1 ∨ j = 2 ∨ j = 3 ∨ j = 4 ∨ j = 5 ∨ j = 6 ∨ j = 7 := by omega
  rcases hj8 with rfl | rfl | rfl | rfl | rfl | rfl | rfl | rfl
  · exact key _ 112 (by omega) (hf _).1 (hf _).2 e0
  · exact key _ 97 (by omega) (hf _).1 (hf _).2 e1
  · exact key _ 116 (by omega) (hf _).1 (hf _).2 e2
  · exact key _ 105 (by omega) (hf _).1 (hf _).2 e3
  · exact key _ 110 (by omega) (hf _).1 (hf _).2 e4
  · exact key _ 97 (by omega) (hf _).1 (hf _).2 e5
  · exact key _ 48 (by omega) (hf _).1 (hf _).2 e6
  · exact key _ 49 (by omega) (hf _).1 (hf _).2 e7
def OpenPost (w : World) (f : Nat → Int) (e : Ending) (w' : World) : Prop :=
  ∃ X, e = .returned (.tuple #[.slice X 50 50, .nilIface]) ∧ Ly w' 5 1 X 50 50 (fun j => .int .u8 (f j)) ∧ (∀ x, x ∈ blk X → w.heap.size ≤ x) ∧ Keep [] w w'
def OpenAny (w : World) (f : Nat → Int) (e : Ending) (w' : World) : Prop :=
  (Marked f ∧ OpenPost w f e w') ∨ (¬ Marked f ∧ e = .returned (.tuple #[.slice none 0 0, .iface 29 (.int .i64 6)]) ∧ Keep [] w w')
set_option maxHeartbeats 1000000 in
theorem open_any (A : Option Addr) (c : Nat) (f : Nat → Int) (w : World) (r : Rd w A 58 (fun j => .int .u8 (f j))) (hc : 58 ≤ c) (hf : ∀ j, 0 ≤ f j ∧ f j ≤ 255) :
    Calls Try.prog 17 #[.slice A 58 c] w (OpenAny w f) := by
  obtain ⟨b0, o0, rfl, _⟩ := id r (by omega)
  have R := Lib.hid r; have HF := Lib.hid hf; clear r hf
  go_enter Try.func17, Try.ntmps17
  go_wp2_with fail
  refine (clone_ok _ 58 c _ w R.out hc (by omega) (fun _ _ => rfl)).mono ?_
  rintro e w1 ⟨X, cX, rfl, hly, hnew, kk⟩
  obtain ⟨g, rfl, hc0, _⟩ := hly.at1 (show 0 < 58 by omega)
  have hcx := hly.1
  have hcm := hly.2.1
  unfold maxLen at hcm
  have hcv := run_convert_bytes_arg (P := Try.prog) w1 24 5 Try.underlying24 Try.underlying5 g 50 8 (cX - 50) ((List.range 8).map fun j => f (50 + j)) (by simp) (fun i hi => by
    obtain ⟨g2, e, hcc, _⟩ := hly.at1 (show 50 + i < 58 by omega)
    injection e with e
    injection e with e
    subst e
    rw [hcc]
    have hr : (List.range 8)[i]? = some i := List.getElem?_range hi
    simp [List.getD_eq_getElem?_getD, hr])
  have HLY := Lib.hid hly; have HN := Lib.hid hnew; have HK := Lib.hid kk
  have hcv2 : ∀ dst, Try.prog.underlying dst = some .string → (convert 24 dst (.slice (some ⟨g, 50, none⟩) 8 (cX - 50))).run Try.prog w1 = .ok (.string (tailS f)) w1 := hcv
  have hcv3 := hcv2 9 Try.underlying9
  clear hly hnew kk hcv hcv2 hc0
  by_cases hm : Marked f
  · have hs : ((tailS f).toList == [112, 97, 116, 105, 110, 97, 48, 49]) = true := by rw [tail_marked hm]; simp
    have HM := Lib.hid hm; clear hm
    generalize tailS f = S at hs hcv3
    go_wp2
    go_ret2
    exact .inl ⟨HM.out, _, rfl, HLY.out.cut3 (by omega), HN.out, HK.out⟩
  · have hs : ((tailS f).toList == [112, 97, 116, 105, 110, 97, 48, 49]) = false := beq_eq_false_iff_ne.2 fun e => tail_not HF.out hm (by
      rw [ByteArray.toList_eq] at e
      generalize tailS f = S at e
      obtain ⟨d⟩ := S
      exact congrArg ByteArray.mk (Array.toList_inj.1 e))
    have HM := Lib.hid hm; clear hm
    generalize tailS f = S at hs hcv3
    go_wp2
    go_ret2
    exact .inr ⟨HM.out, rfl, HK.out⟩
set_option maxHeartbeats 1000000 in
theorem open_arg (A : Option Addr) (n c : Nat) (w : World) (hn : n ≠ 58) (hm : n ≤ maxLen) :
    Calls Try.prog 17 #[.slice A n c] w fun e w' => e = .returned (.tuple #[.slice none 0 0, .iface 29 (.int .i64 1)]) ∧ w = w' := by
  unfold maxLen at hm
  go_enter Try.func17, Try.ntmps17
  go_wp2
  go_ret2
  exact ⟨rfl, rfl⟩
end Go.Proofs.Ytefbmimbeimlaaa
