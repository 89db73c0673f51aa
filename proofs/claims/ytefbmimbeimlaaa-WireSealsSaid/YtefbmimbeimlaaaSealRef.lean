/- The references of layer 3 (the mark), and what Seal and Open answer of any bytes. -/
import Derived.Test.YtefbmimbeimlaaaSeal
namespace Go.Proofs.Ytefbmimbeimlaaa
open Go.RowKit
set_option linter.unusedVariables false
theorem cases8 {j : Nat} (h : j < 8) : j = 0 ∨ j = 1 ∨ j = 2 ∨ j = 3 ∨ j = 4 ∨ j = 5 ∨ j = 6 ∨ j = 7 := by omega
set_option maxHeartbeats 1000000 in
theorem rmark_ok (w : World) : Calls Try.prog 19 #[] w fun e w' => e = .returned (.slice (some ⟨w.heap.size, 0, none⟩) 8 8) ∧ Row w' w.heap.size 5 8 (fun j => .int .u8 (markF j)) ∧ Keep [] w w' := by
  go_enter Try.func19, Try.ntmps19
  go_wp2
  go_ret
  exact ⟨rfl, Row.of_arr (heap_alloc_new w _) (by kernel_rfl), (Keep.refl _ _).alloc _⟩
def SealedPost (w : World) (f : Nat → Int) (e : Ending) (w' : World) : Prop :=
  ∃ X c, e = .returned (.slice X 58 c) ∧ Ly w' 5 1 X 58 c (fun j => .int .u8 (sealF f j)) ∧ Keep [] w w'
set_option maxHeartbeats 1000000 in
theorem sealed_ok (A : Option Addr) (c : Nat) (f : Nat → Int) (w : World) (r : SlArg w A 50 c (fun j => .int .u8 (f j))) :
    Calls Try.prog 24 #[.slice A 50 c] w (SealedPost w f) := by
  obtain ⟨i0, hi, hz0, hz1, hz2⟩ := info_parts byte_info
  have R := Lib.hid r; clear r
  go_enter Try.func24, Try.ntmps24
  go_wp2_with (first
    | (at_builtin
       refine wpList_append_ly (w := w) rfl (.tmp 4) (.tmp 5) 24 rfl 5 i0 _ 1 1 Try.underlying24 hi hz0 hz1 hz2 rfl (by omega) none 0 0 (fun _ => .int .u8 0) rfl (Ly.nil _ _ _ _) A 50 c (fun j => .int .u8 (f j)) rfl R.out.rd R.out.le R.out.none_ (fun _ _ => rfl) (by simp only [maxLen]; omega) (by omega) ?_
       intro X cX w1 hly hkp hat hpre
       have HY := Lib.hid hly; have HK := Lib.hid hkp
       have HB : Hid (∀ x, x ∈ blk X → w.heap.size ≤ x) := fun x hx => by
         rcases hat with e | e
         · rw [e] at hx; cases hx
         · rw [e] at hx
           rw [List.mem_singleton.1 hx]
           exact Nat.le_refl _
       clear hly hkp hat hpre)
    | (go_at_call 19
       refine (rmark_ok _).mono ?_
       rintro e w2 ⟨rfl, r2, k2⟩
       have R2 := Lib.hid r2; have K2 := Lib.hid k2
       clear r2 k2)
    | (at_builtin
       refine wpList_append_ly (w := w2) rfl (.tmp 7) (.tmp 8) 24 rfl 5 i0 _ 1 1 Try.underlying24 hi hz0 hz1 hz2 rfl (by omega) X 50 cX _ rfl (HY.out.keep0 K2.out) (some ⟨w1.heap.size, 0, none⟩) 8 8 (fun j => .int .u8 (markF j)) rfl (Rd.of_row R2.out (Nat.le_refl _)) (Nat.le_refl _) (fun e => by cases e) (fun _ _ => rfl) (by simp only [maxLen]; omega) (by omega) ?_
       intro Y cY w3 hly hkp hat hpre
       have HZ := Lib.hid hly; have HKZ := Lib.hid hkp
       clear hly hkp hat hpre))
  go_ret
  refine ⟨Y, cY, rfl, HZ.out.congr (fun j hj => ?_), (HK.out.trans K2.out).then HKZ.out (fun x hx => .inr (HB.out x hx))⟩
  by_cases h : j < 50
  · have h1 : j < 50 * 1 := by omega
    have h2 : j < (0 + 50) * 1 := by omega
    have h3 : ¬ j < 0 * 1 := by omega
    unfold sealF
    simp [h]
  · unfold sealF
    simp [h]
def markedB (f : Nat → Int) : Bool := (List.range 8).all fun j => f (50 + j) == markF j
theorem markedB_iff (f : Nat → Int) : markedB f = true ↔ Marked f := by
  unfold markedB Marked
  simp
theorem markedB_no {f : Nat → Int} {k : Nat} (hk : k < 8) (h : f (50 + k) ≠ markF k) : markedB f = false := by
  rw [Bool.eq_false_iff]
  exact fun e => h ((markedB_iff f).1 e k hk)
set_option maxHeartbeats 1000000 in
theorem marked_any (A : Option Addr) (c : Nat) (f : Nat → Int) (w : World) (r : Rd w A 58 (fun j => .int .u8 (f j))) :
    Calls Try.prog 25 #[.slice A 58 c] w fun e w' => e = .returned (.bool (markedB f)) ∧ Keep [] w w' := by
  obtain ⟨b, o, rfl, _⟩ := id r (by omega)
  have R := Lib.hid r; clear r
  go_enter Try.func25, Try.ntmps25
  go_wp2_with fail
  refine (rmark_ok _).mono ?_
  rintro e w1 ⟨rfl, r1, k1⟩
  have R1 := Lib.hid r1
  clear r1
  go_wp2
  go_loopw [4] (fun i wr => ∃ k : Nat, k ≤ 8 ∧ i = .int .i64 k ∧ Keep [] w wr ∧ Row wr w.heap.size 5 8 (fun j => .int .u8 (markF j)) ∧ ∀ j, j < k → f (50 + j) = markF j) (fun i _ => 8 - (intOf i).toNat)
  case atStart => exact ⟨0, by omega, rfl, k1, R1.out, fun j hj => by omega⟩
  case round =>
    clear R1 k1
    obtain ⟨k, hk, rfl, kk, r1, hm⟩ := hrel
    have HM := Lib.hid hm
    clear hm
    by_cases hlt : k < 8
    · obtain ⟨b', o', e', d0⟩ := (R.out.keep0 kk) (by omega)
      injection e' with e'
      injection e' with e1 e2
      subst e1
      subst e2
      have c0 : wr.cell? ⟨b, o + (50 + k), none⟩ = some (.int .u8 (f (50 + k))) := d0 (50 + k) (by omega)
      have c1 := r1.cell k hlt
      have HK := Lib.hid kk; have HR := Lib.hid r1
      clear kk r1 d0
      by_cases he : f (50 + k) = markF k
      · have hb : (f (50 + k) == markF k) = true := beq_iff_eq.2 he
        have HE := Lib.hid he; clear he
        go_wp2
        go_quiet (fail)
        go_wp2
        go_roundw
        case rel => exact ⟨k + 1, by omega, by go_num, HK.out.drewN _, HR.out.drewN _, fun j hj => by
          by_cases h : j = k
          · subst h; exact HE.out
          · exact HM.out j (by omega)⟩
        case measure => simp [intOf] <;> omega
      · have hb : (f (50 + k) == markF k) = false := beq_eq_false_iff_ne.2 he
        have HS := Lib.hid (markedB_no hlt he); clear he
        go_wp2
        go_quiet (fail)
        go_wp2
        go_ret
        exact ⟨ret_eq (by rw [HS.out]; rfl), HK.out.drewN _⟩
    · obtain rfl : k = 8 := by omega
      have HS := Lib.hid ((markedB_iff f).2 (fun j hj => HM.out j hj))
      go_wp2
      go_ret
      exact ⟨ret_eq (by rw [HS.out]; rfl), kk⟩
/-! What Seal and Open answer of any n bytes: an error's number, and a list of the call's own. -/
def sealE (n : Nat) : Int := if n = 50 then 0 else 1
def sealN (n : Nat) : Nat := if n = 50 then 58 else 0
def SealAny (w : World) (n : Nat) (f : Nat → Int) (e : Ending) (w' : World) : Prop :=
  ∃ X c, e = .returned (.tuple #[.slice X (sealN n) c, errOf (sealE n)]) ∧ Ly w' 5 1 X (sealN n) c (fun j => .int .u8 (sealF f j)) ∧ (∀ x, x ∈ blk X → w.heap.size ≤ x) ∧ Keep [] w w'
theorem seal_any (A : Option Addr) (n c : Nat) (f : Nat → Int) (w : World) (r : Rd w A n (fun j => .int .u8 (f j))) (hm : n ≤ maxLen) :
    Calls Try.prog 16 #[.slice A n c] w (SealAny w n f) := by
  by_cases h : n = 50
  · subst h
    refine (seal_ok A c f w r).mono fun e w' ⟨he, hr, hk⟩ => ⟨some ⟨w.heap.size, 0, none⟩, 58, he, Ly.of_row hr (Nat.le_refl _) (Nat.le_refl _) (by decide), fun x hx => by rw [List.mem_singleton.1 hx]; exact Nat.le_refl _, hk⟩
  · have e1 : sealE n = 1 := if_neg h
    have e2 : sealN n = 0 := if_neg h
    refine (seal_arg A n c w h hm).mono fun e w' ⟨he, hw⟩ => ⟨none, 0, by rw [e1, e2]; exact he, by rw [e2]; exact Ly.nil _ _ _ _, (fun x hx => by cases hx), by rw [← hw]; exact Keep.refl _ _⟩
def openE (n : Nat) (f : Nat → Int) : Int := if n = 58 then (if markedB f then 0 else 6) else 1
def openN (n : Nat) (f : Nat → Int) : Nat := if n = 58 ∧ markedB f = true then 50 else 0
def OpenAll (w : World) (n : Nat) (f : Nat → Int) (e : Ending) (w' : World) : Prop :=
  ∃ X, e = .returned (.tuple #[.slice X (openN n f) (openN n f), errOf (openE n f)]) ∧ Ly w' 5 1 X (openN n f) (openN n f) (fun j => .int .u8 (f j)) ∧ (∀ x, x ∈ blk X → w.heap.size ≤ x) ∧ Keep [] w w'
theorem open_all (A : Option Addr) (n c : Nat) (f : Nat → Int) (w : World) (r : Rd w A n (fun j => .int .u8 (f j))) (hc : n ≤ c) (hm : n ≤ maxLen) (hf : ∀ j, 0 ≤ f j ∧ f j ≤ 255) :
    Calls Try.prog 17 #[.slice A n c] w (OpenAll w n f) := by
  by_cases h : n = 58
  · subst h
    refine (open_any A c f w r hc hf).mono fun e w' hp => ?_
    rcases hp with ⟨hM, X, he, hl, hn, hk⟩ | ⟨hM, he, hk⟩
    · have hb := (markedB_iff f).2 hM
      have e1 : openE 58 f = 0 := by unfold openE; rw [if_pos rfl, if_pos hb]
      have e2 : openN 58 f = 50 := if_pos ⟨rfl, hb⟩
      exact ⟨X, by rw [e1, e2]; exact he, by rw [e2]; exact hl, hn, hk⟩
    · have hb : ¬ markedB f = true := fun e => hM ((markedB_iff f).1 e)
      have e1 : openE 58 f = 6 := by unfold openE; rw [if_pos rfl, if_neg hb]
      have e2 : openN 58 f = 0 := if_neg (fun e => hb e.2)
      exact ⟨none, by rw [e1, e2]; exact he, by rw [e2]; exact Ly.nil _ _ _ _, (fun x hx => by cases hx), hk⟩
  · have e1 : openE n f = 1 := if_neg h
    have e2 : openN n f = 0 := if_neg (fun e => h e.1)
    refine (open_arg A n c w h hm).mono fun e w' ⟨he, hw⟩ => ⟨none, by rw [e1, e2]; exact he, by rw [e2]; exact Ly.nil _ _ _ _, (fun x hx => by cases hx), by rw [← hw]; exact Keep.refl _ _⟩
end Go.Proofs.Ytefbmimbeimlaaa
