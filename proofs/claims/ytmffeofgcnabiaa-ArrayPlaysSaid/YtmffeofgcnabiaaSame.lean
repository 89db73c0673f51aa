/- patinaref01.Same: are two texts alike? -/
import Derived.Test.YtmffeofgcnabiaaSlice
namespace Go.Proofs.Ytmffeofgcnabiaa
open Go.RowKit
set_option linter.unusedVariables false
/-- Are n0 bytes f and n1 bytes g alike? -/
def sameB (n0 n1 : Nat) (f g : Nat → Int) : Bool := decide (n0 = n1 ∧ ∀ j, j < n0 → f j = g j)
theorem sameB_yes {n0 n1 : Nat} {f g : Nat → Int} (h : n0 = n1) (h2 : ∀ j, j < n0 → f j = g j) : sameB n0 n1 f g = true := decide_eq_true ⟨h, h2⟩
theorem sameB_no {n0 n1 : Nat} {f g : Nat → Int} (h : n0 ≠ n1) : sameB n0 n1 f g = false := decide_eq_false fun e => h e.1
theorem sameB_at {n0 n1 : Nat} {f g : Nat → Int} {j : Nat} (hj : j < n0) (h : f j ≠ g j) : sameB n0 n1 f g = false := decide_eq_false fun e => h (e.2 j hj)
set_option maxHeartbeats 1000000 in
theorem same_ok (A0 A1 : Option Addr) (n0 n1 c0 c1 : Nat) (f g : Nat → Int) (w : World) (r0 : Rd w A0 n0 (fun j => .int .u8 (f j))) (r1 : Rd w A1 n1 (fun j => .int .u8 (g j))) (h0 : n0 ≤ maxLen) (h1 : n1 ≤ maxLen) :
    Calls Try.prog 12 #[.slice A0 n0 c0, .slice A1 n1 c1] w fun e w' => e = .returned (.bool (sameB n0 n1 f g)) ∧ Drawn w w' := by
  unfold maxLen at h0 h1
  by_cases hn : n0 = n1
  · subst hn
    go_enter Try.func12, Try.ntmps12
    go_wp2
    go_loopw [5] (fun i wr => ∃ k : Nat, k ≤ n0 ∧ i = .int .i64 k ∧ (∀ j, j < k → f j = g j) ∧ Drawn w wr) (fun i _ => n0 - (intOf i).toNat)
    case atStart => exact ⟨0, by omega, rfl, fun j hj => by omega, Drawn.refl _⟩
    case round =>
      obtain ⟨k, hk, rfl, ha, m, rfl⟩ := hrel
      have HA := Lib.hid ha; clear ha
      by_cases hlt : k < n0
      · obtain ⟨b0, o0, rfl, d0⟩ := r0 (by omega)
        obtain ⟨b1, o1, rfl, d1⟩ := r1 (by omega)
        have e0 := d0 k hlt
        have e1 := d1 k hlt
        clear d0 d1 r0 r1
        by_cases he : f k = g k
        · have hb : (f k == g k) = true := beq_iff_eq.2 he
          have HE := Lib.hid he; clear he
          go_wp2
          go_quiet (fail)
          go_wp2
          go_roundw
          case rel => exact ⟨k + 1, by omega, by go_num, fun j hj => by
            by_cases e : j = k
            · subst e; exact HE.out
            · exact HA.out j (by omega), Drawn.of _ _⟩
          case measure => simp [intOf] <;> omega
        · have hb : (f k == g k) = false := beq_eq_false_iff_ne.2 he
          have HE := Lib.hid he; clear he
          have HS := Lib.hid (sameB_at (n1 := n0) hlt HE.out)
          go_wp2
          go_quiet (fail)
          go_wp2
          go_ret
          exact ⟨ret_eq (by rw [HS.out]; rfl), (by first | exact Drawn.refl _ | exact Drawn.of _ _ | exact (Drawn.of _ _).trans (Drawn.of _ _))⟩
      · obtain rfl : k = n0 := by omega
        have HS := Lib.hid (sameB_yes rfl HA.out)
        go_wp2
        go_ret
        exact ⟨ret_eq (by rw [HS.out]; rfl), (by first | exact Drawn.refl _ | exact Drawn.of _ _ | exact (Drawn.of _ _).trans (Drawn.of _ _))⟩
  · have HS := Lib.hid (sameB_no (f := f) (g := g) hn)
    go_enter Try.func12, Try.ntmps12
    go_wp2
    go_ret
    exact ⟨ret_eq (by rw [HS.out]; rfl), Drawn.refl _⟩
end Go.Proofs.Ytmffeofgcnabiaa
