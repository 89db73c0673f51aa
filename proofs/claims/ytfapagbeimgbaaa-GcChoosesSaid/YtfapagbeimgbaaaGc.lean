/- gc.Choose and gc.Gain: the full block with the fewest live pages, the first of several. -/
import Derived.Test.YtfapagbeimgbaaaErr
namespace Go.Proofs.Ytfapagbeimgbaaa
open Go.RowKit
set_option linter.unusedVariables false

/-- The full block with the fewest live pages among the first k; -1: none. -/
def bestOf (s l : Nat → Int) : Nat → Int
  | 0 => -1
  | k + 1 => if s k = 2 ∧ (bestOf s l k < 0 ∨ l k < l (bestOf s l k).toNat) then k else bestOf s l k
theorem bestOf_lt (s l : Nat → Int) (k : Nat) : -1 ≤ bestOf s l k ∧ bestOf s l k < k := by
  induction k with
  | zero => simp [bestOf]
  | succ k ih => unfold bestOf; split <;> omega

/-- b is the full block with the fewest live pages among i, .., n-1, the first of several; -1: none. -/
structure IsBest (s l : Nat → Int) (i n : Nat) (b : Int) : Prop where
  none_ : b < 0 → b = -1 ∧ ∀ j, i ≤ j → j < n → s j ≠ 2
  some_ : 0 ≤ b → (i : Int) ≤ b ∧ b < n ∧ s b.toNat = 2 ∧ ∀ j, i ≤ j → j < n → s j = 2 → l b.toNat ≤ l j ∧ ((j : Int) < b → l b.toNat < l j)
theorem bestOf_is (s l : Nat → Int) (n : Nat) : IsBest s l 0 n (bestOf s l n) := by
  induction n with
  | zero => exact ⟨fun _ => ⟨rfl, fun j _ h => by omega⟩, fun h => by simp [bestOf] at h⟩
  | succ n ih =>
    obtain ⟨g0, g1⟩ := bestOf_lt s l n
    unfold bestOf
    split
    · rename_i h
      refine ⟨fun hn => by omega, fun _ => ⟨by omega, by omega, by simpa using h.1, fun j _ hj hs => ?_⟩⟩
      simp only [Int.toNat_natCast]
      by_cases hb : bestOf s l n < 0
      · obtain ⟨_, h2⟩ := ih.none_ hb
        by_cases e : j = n
        · subst e; exact ⟨Int.le_refl _, fun h => by omega⟩
        · exact absurd hs (h2 j (by omega) (by omega))
      · obtain ⟨_, _, _, h2⟩ := ih.some_ (by omega)
        have hl : l n < l (bestOf s l n).toNat := by
          rcases h.2 with h | h
          · omega
          · exact h
        by_cases e : j = n
        · subst e; exact ⟨Int.le_refl _, fun h => by omega⟩
        · have := (h2 j (by omega) (by omega) hs).1
          exact ⟨by omega, fun _ => by omega⟩
    · rename_i h
      refine ⟨fun hb => ?_, fun hb => ?_⟩
      · obtain ⟨h1, h2⟩ := ih.none_ hb
        refine ⟨h1, fun j _ hj hs => ?_⟩
        by_cases e : j = n
        · subst e; exact h ⟨hs, .inl hb⟩
        · exact h2 j (by omega) (by omega) hs
      · obtain ⟨h1, h2, h3, h4⟩ := ih.some_ hb
        refine ⟨h1, by omega, h3, fun j _ hj hs => ?_⟩
        by_cases e : j = n
        · subst e
          have : ¬ l j < l (bestOf s l j).toNat := fun hl => h ⟨hs, .inr hl⟩
          exact ⟨by omega, fun _ => by omega⟩
        · exact h4 j (by omega) (by omega) hs
theorem IsBest.unique {s l : Nat → Int} {n : Nat} {b c : Int} (hb : IsBest s l 0 n b) (hc : IsBest s l 0 n c) : b = c := by
  by_cases h1 : b < 0
  · obtain ⟨e, h⟩ := hb.none_ h1
    by_cases h2 : c < 0
    · have := (hc.none_ h2).1
      omega
    · obtain ⟨_, g1, g2, _⟩ := hc.some_ (by omega)
      exact absurd g2 (h c.toNat (by omega) (by omega))
  · obtain ⟨_, g1, g2, g3⟩ := hb.some_ (by omega)
    by_cases h2 : c < 0
    · exact absurd g2 ((hc.none_ h2).2 b.toNat (by omega) (by omega))
    · obtain ⟨_, k1, k2, k3⟩ := hc.some_ (by omega)
      have x := g3 c.toNat (by omega) (by omega) k2
      have y := k3 b.toNat (by omega) (by omega) g2
      rcases Int.lt_trichotomy b c with e | e | e
      · have := y.2 (by omega)
        omega
      · exact e
      · have := x.2 (by omega)
        omega

def chooseV (s l : Nat → Int) : Value :=
  .tuple #[.int .i64 (if bestOf s l 12 < 0 then 0 else bestOf s l 12), if bestOf s l 12 < 0 then errV 11 else .nilIface]
theorem chooseV_none {s l : Nat → Int} (h : bestOf s l 12 < 0) : chooseV s l = .tuple #[.int .i64 0, .iface 34 (.int .i64 11)] := by unfold chooseV errV; rw [if_pos h, if_pos h]
theorem chooseV_some {s l : Nat → Int} (h : ¬ bestOf s l 12 < 0) : chooseV s l = .tuple #[.int .i64 (bestOf s l 12), .nilIface] := by unfold chooseV; rw [if_neg h, if_neg h]
set_option maxHeartbeats 1000000 in
theorem choose_ok (b0 o0 b1 o1 c0 c1 : Nat) (s l : Nat → Int) (w : World) (hs : ∀ j, j < 12 → w.cell? ⟨b0, o0 + j, none⟩ = some (.int .i64 (s j))) (hl : ∀ j, j < 12 → w.cell? ⟨b1, o1 + j, none⟩ = some (.int .i64 (l j))) :
    Calls Try.prog 6 #[.slice (some ⟨b0, o0, none⟩) 12 c0, .slice (some ⟨b1, o1, none⟩) 12 c1] w fun e w' => e = .returned (chooseV s l) ∧ Drawn w w' := by
  go_enter Try.func6, Try.ntmps6
  go_wp2
  go_loopw [6, 20] (fun b i wr => ∃ k : Nat, k ≤ 12 ∧ i = .int .i64 k ∧ b = .int .i64 (bestOf s l k) ∧ Drawn w wr) (fun _ i _ => 12 - (intOf i).toNat)
  case atStart => exact ⟨0, by omega, rfl, rfl, Drawn.refl _⟩
  case round =>
    obtain ⟨k, hk, rfl, rfl, n, rfl⟩ := hrel
    obtain ⟨g0, g1⟩ := bestOf_lt s l k
    by_cases hlt : k < 12
    · have hcs := hs k hlt
      have hcl := hl k hlt
      have hsucc : bestOf s l (k + 1) = if s k = 2 ∧ (bestOf s l k < 0 ∨ l k < l (bestOf s l k).toNat) then (k : Int) else bestOf s l k := rfl
      have HS := Lib.hid hsucc; clear hsucc
      by_cases h2 : s k = 2
      · have h2b : (s k == 2) = true := beq_iff_eq.2 h2
        have H2 := Lib.hid h2; clear h2
        by_cases h3 : bestOf s l k < 0
        · go_wp2
          go_quiet (fail)
          go_wp2
          go_roundw
          case rel => exact ⟨k + 1, by omega, by go_num, by rw [HS.out, if_pos ⟨H2.out, .inl h3⟩], _, rfl⟩
          case measure => simp [intOf]; omega
        · have hb0 : 0 ≤ bestOf s l k := by omega
          have hb1 : bestOf s l k < 12 := by omega
          have hcb := hl (bestOf s l k).toNat (by omega)
          by_cases h4 : l k < l (bestOf s l k).toNat
          · go_wp2
            go_quiet (fail)
            go_wp2
            go_roundw
            case rel => exact ⟨k + 1, by omega, by go_num, by rw [HS.out, if_pos ⟨H2.out, .inr h4⟩], _, rfl⟩
            case measure => simp [intOf]; omega
          · have h3' : decide (bestOf s l k < 0) = false := by simpa using h3
            have h4' : decide (l k < l (bestOf s l k).toNat) = false := by simpa using h4
            go_wp2
            go_quiet (fail)
            go_wp2
            go_roundw
            case rel => exact ⟨k + 1, by omega, by go_num, by rw [HS.out, if_neg (by rintro ⟨_, h | h⟩ <;> omega)], _, rfl⟩
            case measure => simp [intOf]; omega
      · have h2b : (s k == 2) = false := beq_eq_false_iff_ne.2 h2
        have H2 := Lib.hid h2; clear h2
        go_wp2
        go_quiet (fail)
        go_wp2
        go_roundw
        case rel => exact ⟨k + 1, by omega, by go_num, by rw [HS.out, if_neg (by rintro ⟨h, _⟩; exact H2.out h)], _, rfl⟩
        case measure => simp [intOf]; omega
    · obtain rfl : k = 12 := by omega
      by_cases h3 : bestOf s l 12 < 0
      · go_wp2
        go_ret2
        exact ⟨ret_eq (chooseV_none h3).symm, _, rfl⟩
      · go_wp2
        go_ret2
        exact ⟨ret_eq (chooseV_some (by omega)).symm, _, rfl⟩

set_option maxHeartbeats 1000000 in
theorem choose_bad (A0 A1 : Option Addr) (n0 n1 c0 c1 : Nat) (w : World) (h : ¬ (n0 = 12 ∧ n1 = 12)) (h0 : n0 ≤ maxLen) (h1 : n1 ≤ maxLen) :
    Calls Try.prog 6 #[.slice A0 n0 c0, .slice A1 n1 c1] w fun e w' => e = .returned (.tuple #[.int .i64 0, .iface 34 (.int .i64 1)]) ∧ w = w' := by
  unfold maxLen at h0 h1
  by_cases e : n0 = 12
  · have h' : ¬ n1 = 12 := fun e' => h ⟨e, e'⟩
    subst e
    clear h
    go_enter Try.func6, Try.ntmps6
    go_wp2
    go_ret2
    exact ⟨rfl, rfl⟩
  · clear h
    go_enter Try.func6, Try.ntmps6
    go_wp2
    go_ret2
    exact ⟨rfl, rfl⟩

/-- What is won: 6 less the live pages, within 0 and 6. -/
def gainOf (n : Int) : Int := 6 - max 0 (min n 6)
def gainV (s l : Nat → Int) : Value :=
  .tuple #[.int .i64 (if bestOf s l 12 < 0 then 0 else gainOf (l (bestOf s l 12).toNat)), if bestOf s l 12 < 0 then errV 11 else .nilIface]
theorem gainV_none {s l : Nat → Int} (h : bestOf s l 12 < 0) : gainV s l = .tuple #[.int .i64 0, .iface 34 (.int .i64 11)] := by unfold gainV errV; rw [if_pos h, if_pos h]
theorem gainV_some {s l : Nat → Int} (h : ¬ bestOf s l 12 < 0) : gainV s l = .tuple #[.int .i64 (gainOf (l (bestOf s l 12).toNat)), .nilIface] := by unfold gainV; rw [if_neg h, if_neg h]
set_option maxHeartbeats 1000000 in
theorem gain_ok (b0 o0 b1 o1 c0 c1 : Nat) (s l : Nat → Int) (w : World) (hs : ∀ j, j < 12 → w.cell? ⟨b0, o0 + j, none⟩ = some (.int .i64 (s j))) (hl : ∀ j, j < 12 → w.cell? ⟨b1, o1 + j, none⟩ = some (.int .i64 (l j))) :
    Calls Try.prog 7 #[.slice (some ⟨b0, o0, none⟩) 12 c0, .slice (some ⟨b1, o1, none⟩) 12 c1] w fun e w' => e = .returned (gainV s l) ∧ Drawn w w' := by
  obtain ⟨g0, g1⟩ := bestOf_lt s l 12
  by_cases h3 : bestOf s l 12 < 0
  · rw [gainV_none h3]
    go_enter Try.func7, Try.ntmps7
    go_wp2_with (go_at_call 6; refine (choose_ok b0 o0 b1 o1 c0 c1 s l _ hs hl).mono ?_; rintro e w' ⟨rfl, n, rfl⟩; rw [chooseV_none h3])
    go_ret2
    exact ⟨rfl, _, rfl⟩
  · rw [gainV_some h3]
    have hcb := hl (bestOf s l 12).toNat (by omega)
    have hb0 : 0 ≤ bestOf s l 12 := by omega
    have hb1 : bestOf s l 12 < 12 := by omega
    go_enter Try.func7, Try.ntmps7
    go_wp2_with (go_at_call 6; refine (choose_ok b0 o0 b1 o1 c0 c1 s l _ hs hl).mono ?_; rintro e w' ⟨rfl, n, rfl⟩; rw [chooseV_some h3])
    all_goals
      go_ret2
      exact ⟨ret_eq (by unfold gainOf; congr 3; simp; omega), _, rfl⟩
set_option maxHeartbeats 1000000 in
theorem gain_bad (A0 A1 : Option Addr) (n0 n1 c0 c1 : Nat) (w : World) (h : ¬ (n0 = 12 ∧ n1 = 12)) (h0 : n0 ≤ maxLen) (h1 : n1 ≤ maxLen) :
    Calls Try.prog 7 #[.slice A0 n0 c0, .slice A1 n1 c1] w fun e w' => e = .returned (.tuple #[.int .i64 0, .iface 34 (.int .i64 1)]) ∧ w = w' := by
  go_enter Try.func7, Try.ntmps7
  go_wp2_with (go_at_call 6; refine (choose_bad _ _ _ _ _ _ _ h h0 h1).mono ?_; rintro e w' ⟨rfl, rfl⟩)
  go_ret2
  exact ⟨rfl, rfl⟩
end Go.Proofs.Ytfapagbeimgbaaa
