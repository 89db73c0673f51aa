/- The reference of layer 14, and the statements' helpers. -/
import Derived.Test.YtfapagbeimgbaaaGc
import Derived.Test.YtfapagbeimgbaaaSlice
namespace Go.Proofs.Ytfapagbeimgbaaa
open Go.RowKit
set_option linter.unusedVariables false

theorem IsBest.yes {s l : Nat → Int} {m : Nat} {b : Int} (h : IsBest s l (m + 1) 12 b) (hm : m < 12) (h2 : s m = 2) (h3 : b < 0 ∨ l m ≤ l b.toNat) : IsBest s l m 12 m := by
  refine ⟨fun hn => by omega, fun _ => ⟨Int.le_refl _, by omega, by simpa using h2, fun j hj hj2 hs => ?_⟩⟩
  simp only [Int.toNat_natCast]
  by_cases e : j = m
  · subst e
    exact ⟨Int.le_refl _, fun h => by omega⟩
  · refine ⟨?_, fun h => by omega⟩
    by_cases hb : b < 0
    · exact absurd hs ((h.none_ hb).2 j (by omega) hj2)
    · have := ((h.some_ (by omega)).2.2.2 j (by omega) hj2 hs).1
      omega
theorem IsBest.no {s l : Nat → Int} {m : Nat} {b : Int} (h : IsBest s l (m + 1) 12 b) (h2 : ¬ (s m = 2 ∧ (b < 0 ∨ l m ≤ l b.toNat))) : IsBest s l m 12 b := by
  refine ⟨fun hn => ?_, fun hb => ?_⟩
  · obtain ⟨h3, h4⟩ := h.none_ hn
    refine ⟨h3, fun j hj hj2 hs => ?_⟩
    by_cases e : j = m
    · subst e
      exact h2 ⟨hs, .inl hn⟩
    · exact h4 j (by omega) hj2 hs
  · obtain ⟨h3, h4, h5, h6⟩ := h.some_ hb
    refine ⟨by omega, h4, h5, fun j hj hj2 hs => ?_⟩
    by_cases e : j = m
    · subst e
      have : ¬ l j ≤ l b.toNat := fun hl => h2 ⟨hs, .inr hl⟩
      exact ⟨by omega, fun _ => by omega⟩
    · exact h6 j (by omega) hj2 hs

def rchooseV (s l : Nat → Int) : Value :=
  .tuple #[.int .i64 (if bestOf s l 12 < 0 then 0 else bestOf s l 12), .int .i64 (if bestOf s l 12 < 0 then 11 else 0)]
theorem rchooseV_none {s l : Nat → Int} (h : bestOf s l 12 < 0) : rchooseV s l = .tuple #[.int .i64 0, .int .i64 11] := by unfold rchooseV; rw [if_pos h, if_pos h]
theorem rchooseV_some {s l : Nat → Int} (h : ¬ bestOf s l 12 < 0) : rchooseV s l = .tuple #[.int .i64 (bestOf s l 12), .int .i64 0] := by unfold rchooseV; rw [if_neg h, if_neg h]
set_option maxHeartbeats 1000000 in
theorem rchoose_ok (b0 o0 b1 o1 c0 c1 : Nat) (s l : Nat → Int) (w : World) (hs : ∀ j, j < 12 → w.cell? ⟨b0, o0 + j, none⟩ = some (.int .i64 (s j))) (hl : ∀ j, j < 12 → w.cell? ⟨b1, o1 + j, none⟩ = some (.int .i64 (l j))) :
    Calls Try.prog 8 #[.slice (some ⟨b0, o0, none⟩) 12 c0, .slice (some ⟨b1, o1, none⟩) 12 c1] w fun e w' => e = .returned (rchooseV s l) ∧ Drawn w w' := by
  go_enter Try.func8, Try.ntmps8
  go_wp2
  go_loopw [6, 7] (fun v i wr => ∃ (m : Nat) (b : Int), m ≤ 12 ∧ i = .int .i64 ((m : Int) - 1) ∧ v = .int .i64 b ∧ IsBest s l m 12 b ∧ Drawn w wr) (fun _ i _ => (intOf i + 1).toNat)
  case atStart => exact ⟨12, -1, by omega, rfl, rfl, ⟨fun _ => ⟨rfl, fun j h h' => by omega⟩, fun h => by omega⟩, Drawn.refl _⟩
  case round =>
    obtain ⟨m, b, hm, rfl, rfl, hb, n, rfl⟩ := hrel
    have hbl : b < 12 := by
      by_cases h : b < 0
      · omega
      · exact (hb.some_ (by omega)).2.1
    have HB := Lib.hid hb; clear hb
    by_cases hlt : 0 < m
    · obtain ⟨k, rfl⟩ : ∃ k, m = k + 1 := ⟨m - 1, by omega⟩
      rw [show ((k + 1 : Nat) : Int) - 1 = (k : Int) from by omega]
      have hk : k < 12 := by omega
      have hcs := hs k hk
      have hcl := hl k hk
      by_cases h2 : s k = 2
      · have h2b : (s k == 2) = true := beq_iff_eq.2 h2
        have H2 := Lib.hid h2; clear h2
        by_cases h3 : b < 0
        · go_wp2
          go_quiet (fail)
          go_wp2
          go_roundw
          case rel => exact ⟨k, k, by omega, by go_num, rfl, HB.out.yes hk H2.out (.inl h3), _, rfl⟩
          case measure => simp [intOf] <;> omega
        · have hb0 : 0 ≤ b := by omega
          have hcb := hl b.toNat (by omega)
          have h3' : decide (b < 0) = false := by simpa using h3
          by_cases h4 : l k ≤ l b.toNat
          · go_wp2
            go_quiet (fail)
            go_wp2
            go_roundw
            case rel => exact ⟨k, k, by omega, by go_num, rfl, HB.out.yes hk H2.out (.inr h4), _, rfl⟩
            case measure => simp [intOf] <;> omega
          · have h4' : decide (l k ≤ l b.toNat) = false := by simpa using h4
            go_wp2
            go_quiet (fail)
            go_wp2
            go_roundw
            case rel => exact ⟨k, b, by omega, by go_num, rfl, HB.out.no (by rintro ⟨_, h | h⟩ <;> omega), _, rfl⟩
            case measure => simp [intOf] <;> omega
      · have h2b : (s k == 2) = false := beq_eq_false_iff_ne.2 h2
        have H2 := Lib.hid h2; clear h2
        go_wp2
        go_quiet (fail)
        go_wp2
        go_roundw
        case rel => exact ⟨k, b, by omega, by go_num, rfl, HB.out.no (by rintro ⟨h, _⟩; exact H2.out h), _, rfl⟩
        case measure => simp [intOf] <;> omega
    · obtain rfl : m = 0 := by omega
      have hu := HB.out.unique (bestOf_is s l 12)
      have HU := Lib.hid hu; clear hu
      by_cases h3 : b < 0
      · go_wp2
        go_ret2
        exact ⟨ret_eq (rchooseV_none (by rw [← HU.out]; omega)).symm, _, rfl⟩
      · go_wp2
        go_ret2
        exact ⟨ret_eq (by rw [rchooseV_some (by rw [← HU.out]; omega), ← HU.out]; rfl), _, rfl⟩
set_option maxHeartbeats 1000000 in
theorem rchoose_bad (A0 A1 : Option Addr) (n0 n1 c0 c1 : Nat) (w : World) (h : ¬ (n0 = 12 ∧ n1 = 12)) (h0 : n0 ≤ maxLen) (h1 : n1 ≤ maxLen) :
    Calls Try.prog 8 #[.slice A0 n0 c0, .slice A1 n1 c1] w fun e w' => e = .returned (.tuple #[.int .i64 0, .int .i64 1]) ∧ w = w' := by
  unfold maxLen at h0 h1
  by_cases e : n0 = 12
  · have h' : ¬ n1 = 12 := fun e' => h ⟨e, e'⟩
    subst e
    clear h
    go_enter Try.func8, Try.ntmps8
    go_wp2
    go_ret2
    exact ⟨rfl, rfl⟩
  · clear h
    go_enter Try.func8, Try.ntmps8
    go_wp2
    go_ret2
    exact ⟨rfl, rfl⟩
def rgainV (s l : Nat → Int) : Value :=
  .tuple #[.int .i64 (if bestOf s l 12 < 0 then 0 else gainOf (l (bestOf s l 12).toNat)), .int .i64 (if bestOf s l 12 < 0 then 11 else 0)]
theorem rgainV_none {s l : Nat → Int} (h : bestOf s l 12 < 0) : rgainV s l = .tuple #[.int .i64 0, .int .i64 11] := by unfold rgainV; rw [if_pos h, if_pos h]
theorem rgainV_some {s l : Nat → Int} (h : ¬ bestOf s l 12 < 0) : rgainV s l = .tuple #[.int .i64 (gainOf (l (bestOf s l 12).toNat)), .int .i64 0] := by unfold rgainV; rw [if_neg h, if_neg h]
set_option maxHeartbeats 1000000 in
theorem rgain_ok (b0 o0 b1 o1 c0 c1 : Nat) (s l : Nat → Int) (w : World) (hs : ∀ j, j < 12 → w.cell? ⟨b0, o0 + j, none⟩ = some (.int .i64 (s j))) (hl : ∀ j, j < 12 → w.cell? ⟨b1, o1 + j, none⟩ = some (.int .i64 (l j))) :
    Calls Try.prog 9 #[.slice (some ⟨b0, o0, none⟩) 12 c0, .slice (some ⟨b1, o1, none⟩) 12 c1] w fun e w' => e = .returned (rgainV s l) ∧ Drawn w w' := by
  obtain ⟨g0, g1⟩ := bestOf_lt s l 12
  by_cases h3 : bestOf s l 12 < 0
  · rw [rgainV_none h3]
    go_enter Try.func9, Try.ntmps9
    go_wp2_with (go_at_call 8; refine (rchoose_ok b0 o0 b1 o1 c0 c1 s l _ hs hl).mono ?_; rintro e w' ⟨rfl, n, rfl⟩; rw [rchooseV_none h3])
    go_ret2
    exact ⟨rfl, _, rfl⟩
  · rw [rgainV_some h3]
    have hcb := hl (bestOf s l 12).toNat (by omega)
    have hb0 : 0 ≤ bestOf s l 12 := by omega
    have hb1 : bestOf s l 12 < 12 := by omega
    by_cases h4 : l (bestOf s l 12).toNat < 0
    · have hg : gainOf (l (bestOf s l 12).toNat) = 6 := by unfold gainOf; omega
      rw [hg]; clear hg
      go_enter Try.func9, Try.ntmps9
      go_wp2_with (go_at_call 8; refine (rchoose_ok b0 o0 b1 o1 c0 c1 s l _ hs hl).mono ?_; rintro e w' ⟨rfl, n, rfl⟩; rw [rchooseV_some h3])
      go_ret2
      exact ⟨rfl, _, rfl⟩
    · by_cases h5 : 6 < l (bestOf s l 12).toNat
      · have hg : gainOf (l (bestOf s l 12).toNat) = 0 := by unfold gainOf; omega
        rw [hg]; clear hg
        go_enter Try.func9, Try.ntmps9
        go_wp2_with (go_at_call 8; refine (rchoose_ok b0 o0 b1 o1 c0 c1 s l _ hs hl).mono ?_; rintro e w' ⟨rfl, n, rfl⟩; rw [rchooseV_some h3])
        go_ret2
        exact ⟨rfl, _, rfl⟩
      · have hg : gainOf (l (bestOf s l 12).toNat) = 6 - l (bestOf s l 12).toNat := by unfold gainOf; omega
        rw [hg]; clear hg
        have h4' : 0 ≤ l (bestOf s l 12).toNat := by omega
        have h5' : l (bestOf s l 12).toNat ≤ 6 := by omega
        go_enter Try.func9, Try.ntmps9
        go_wp2_with (go_at_call 8; refine (rchoose_ok b0 o0 b1 o1 c0 c1 s l _ hs hl).mono ?_; rintro e w' ⟨rfl, n, rfl⟩; rw [rchooseV_some h3])
        go_ret2
        exact ⟨rfl, _, rfl⟩
set_option maxHeartbeats 1000000 in
theorem rgain_bad (A0 A1 : Option Addr) (n0 n1 c0 c1 : Nat) (w : World) (h : ¬ (n0 = 12 ∧ n1 = 12)) (h0 : n0 ≤ maxLen) (h1 : n1 ≤ maxLen) :
    Calls Try.prog 9 #[.slice A0 n0 c0, .slice A1 n1 c1] w fun e w' => e = .returned (.tuple #[.int .i64 0, .int .i64 1]) ∧ w = w' := by
  go_enter Try.func9, Try.ntmps9
  go_wp2_with (go_at_call 8; refine (rchoose_bad _ _ _ _ _ _ _ h h0 h1).mono ?_; rintro e w' ⟨rfl, rfl⟩)
  go_ret2
  exact ⟨rfl, rfl⟩

/-- Which of n things a raw number speaks of. -/
def pickOf (c n : Int) : Int := if c < 0 then (-(c + 1)) % n else c % n
theorem pickOf_lt (c n : Int) (h : 0 < n) : 0 ≤ pickOf c n ∧ pickOf c n < n := by
  unfold pickOf
  split
  · exact ⟨Int.emod_nonneg _ (by omega), Int.emod_lt_of_pos _ h⟩
  · exact ⟨Int.emod_nonneg _ (by omega), Int.emod_lt_of_pos _ h⟩
set_option maxHeartbeats 1000000 in
theorem pick_ok (c n : Int) (w : World) (h0 : -9223372036854775808 ≤ c) (h1 : c ≤ 9223372036854775807) (h2 : 0 < n) (h3 : n < 65536) :
    Calls Try.prog 11 #[.int .i64 c, .int .i64 n] w fun e w' => e = .returned (.int .i64 (pickOf c n)) ∧ w = w' := by
  by_cases h : c < 0
  · have hv : pickOf c n = (-(c + 1)) % n := by unfold pickOf; rw [if_pos h]
    rw [hv]; clear hv
    go_enter Try.func11, Try.ntmps11
    go_wp2
    go_ret
    exact ⟨ret_eq (congrArg (Value.int .i64) (by rw [← Int.neg_tmod, Int.tmod_eq_emod_of_nonneg (by omega)])), rfl⟩
  · have hv : pickOf c n = c % n := by unfold pickOf; rw [if_neg h]
    rw [hv]; clear hv
    go_enter Try.func11, Try.ntmps11
    go_wp2
    go_ret
    exact ⟨rfl, rfl⟩

/-! What Choose and Gain answer, whatever is handed in: the error's number, and the value. -/
def chE (n0 n1 : Nat) (s l : Nat → Int) : Int := if n0 = 12 ∧ n1 = 12 then (if bestOf s l 12 < 0 then 11 else 0) else 1
def chC (n0 n1 : Nat) (s l : Nat → Int) : Int := if n0 = 12 ∧ n1 = 12 then (if bestOf s l 12 < 0 then 0 else bestOf s l 12) else 0
def gnC (n0 n1 : Nat) (s l : Nat → Int) : Int := if n0 = 12 ∧ n1 = 12 then (if bestOf s l 12 < 0 then 0 else gainOf (l (bestOf s l 12).toNat)) else 0
theorem chE_le (n0 n1 : Nat) (s l : Nat → Int) : 0 ≤ chE n0 n1 s l ∧ chE n0 n1 s l ≤ 19 := by
  unfold chE
  split
  · split <;> omega
  · omega
theorem rd_at {w : World} {A : Option Addr} {n : Nat} {f : Nat → Value} (h : Rd w A n f) (hn : n = 12) : ∃ b o, A = some ⟨b, o, none⟩ ∧ ∀ j, j < 12 → w.cell? ⟨b, o + j, none⟩ = some (f j) := by
  obtain ⟨b, o, e, hc⟩ := h (by omega)
  exact ⟨b, o, e, fun j hj => hc j (by omega)⟩
section
variable (A0 A1 : Option Addr) (n0 n1 c0 c1 : Nat) (s l : Nat → Int) (w : World) (r0 : Rd w A0 n0 (fun j => .int .i64 (s j))) (r1 : Rd w A1 n1 (fun j => .int .i64 (l j))) (h0 : n0 ≤ maxLen) (h1 : n1 ≤ maxLen)
include r0 r1 h0 h1
theorem choose_any : Calls Try.prog 6 #[.slice A0 n0 c0, .slice A1 n1 c1] w fun e w' => e = .returned (.tuple #[.int .i64 (chC n0 n1 s l), errOf (chE n0 n1 s l)]) ∧ Drawn w w' := by
  by_cases h : n0 = 12 ∧ n1 = 12
  · obtain ⟨b0, o0, rfl, k0⟩ := rd_at r0 h.1
    obtain ⟨b1, o1, rfl, k1⟩ := rd_at r1 h.2
    obtain ⟨rfl, rfl⟩ := h
    refine (choose_ok b0 o0 b1 o1 c0 c1 s l w k0 k1).mono fun e w' ⟨he, hd⟩ => ⟨he.trans (ret_eq ?_), hd⟩
    unfold chooseV chC chE errOf
    by_cases hb : bestOf s l 12 < 0 <;> simp [hb]
  · refine (choose_bad A0 A1 n0 n1 c0 c1 w h h0 h1).mono fun e w' ⟨he, hd⟩ => ⟨he.trans (ret_eq ?_), hd ▸ Drawn.refl _⟩
    unfold chC chE
    rw [if_neg h, if_neg h]
    rfl
theorem gain_any : Calls Try.prog 7 #[.slice A0 n0 c0, .slice A1 n1 c1] w fun e w' => e = .returned (.tuple #[.int .i64 (gnC n0 n1 s l), errOf (chE n0 n1 s l)]) ∧ Drawn w w' := by
  by_cases h : n0 = 12 ∧ n1 = 12
  · obtain ⟨b0, o0, rfl, k0⟩ := rd_at r0 h.1
    obtain ⟨b1, o1, rfl, k1⟩ := rd_at r1 h.2
    obtain ⟨rfl, rfl⟩ := h
    refine (gain_ok b0 o0 b1 o1 c0 c1 s l w k0 k1).mono fun e w' ⟨he, hd⟩ => ⟨he.trans (ret_eq ?_), hd⟩
    unfold gainV gnC chE errOf
    by_cases hb : bestOf s l 12 < 0 <;> simp [hb]
  · refine (gain_bad A0 A1 n0 n1 c0 c1 w h h0 h1).mono fun e w' ⟨he, hd⟩ => ⟨he.trans (ret_eq ?_), hd ▸ Drawn.refl _⟩
    unfold gnC chE
    rw [if_neg h, if_neg h]
    rfl
theorem rchoose_any : Calls Try.prog 8 #[.slice A0 n0 c0, .slice A1 n1 c1] w fun e w' => e = .returned (.tuple #[.int .i64 (chC n0 n1 s l), .int .i64 (chE n0 n1 s l)]) ∧ Drawn w w' := by
  by_cases h : n0 = 12 ∧ n1 = 12
  · obtain ⟨b0, o0, rfl, k0⟩ := rd_at r0 h.1
    obtain ⟨b1, o1, rfl, k1⟩ := rd_at r1 h.2
    obtain ⟨rfl, rfl⟩ := h
    refine (rchoose_ok b0 o0 b1 o1 c0 c1 s l w k0 k1).mono fun e w' ⟨he, hd⟩ => ⟨he.trans (ret_eq ?_), hd⟩
    unfold rchooseV chC chE
    by_cases hb : bestOf s l 12 < 0 <;> simp [hb]
  · refine (rchoose_bad A0 A1 n0 n1 c0 c1 w h h0 h1).mono fun e w' ⟨he, hd⟩ => ⟨he.trans (ret_eq ?_), hd ▸ Drawn.refl _⟩
    unfold chC chE
    rw [if_neg h, if_neg h]
theorem rgain_any : Calls Try.prog 9 #[.slice A0 n0 c0, .slice A1 n1 c1] w fun e w' => e = .returned (.tuple #[.int .i64 (gnC n0 n1 s l), .int .i64 (chE n0 n1 s l)]) ∧ Drawn w w' := by
  by_cases h : n0 = 12 ∧ n1 = 12
  · obtain ⟨b0, o0, rfl, k0⟩ := rd_at r0 h.1
    obtain ⟨b1, o1, rfl, k1⟩ := rd_at r1 h.2
    obtain ⟨rfl, rfl⟩ := h
    refine (rgain_ok b0 o0 b1 o1 c0 c1 s l w k0 k1).mono fun e w' ⟨he, hd⟩ => ⟨he.trans (ret_eq ?_), hd⟩
    unfold rgainV gnC chE
    by_cases hb : bestOf s l 12 < 0 <;> simp [hb]
  · refine (rgain_bad A0 A1 n0 n1 c0 c1 w h h0 h1).mono fun e w' ⟨he, hd⟩ => ⟨he.trans (ret_eq ?_), hd ▸ Drawn.refl _⟩
    unfold gnC chE
    rw [if_neg h, if_neg h]
end
end Go.Proofs.Ytfapagbeimgbaaa
