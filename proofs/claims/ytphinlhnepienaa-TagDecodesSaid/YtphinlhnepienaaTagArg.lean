/- A tag that comes in; TagEncodes' row needs it. -/
import Derived.Test.YtphinlhnepienaaFlat
import Derived.Test.YtphinlhnepienaaTagUp
import Derived.ProofKit
namespace Go.Proofs.Ytphinlhnepienaa
open Go.RowKit Go.ChangeShapes Go.WideShapes
set_option linter.unusedVariables false
def boolOf : Value → Bool
  | .bool b => b
  | _ => false
theorem kd_int {k : IntKind} {v : Value} (h : (Kd.int k).ok v) : v = .int k (intOf v) ∧ (Lit.int k (intOf v)).wf = true := by
  obtain ⟨x, rfl, hw⟩ := h
  exact ⟨rfl, hw⟩
theorem kd_bool {v : Value} (h : Kd.bool.ok v) : v = .bool (boolOf v) := by
  obtain ⟨b, rfl⟩ := h
  rfl
section
variable {H : Type} {enc : TypeId × Value → H} {W : World} {base : Nat} {spare : Nat → Bool} {held : Bool}
theorem tg_arg {cs : Array Value} {d : DataW H} {ps : List MemPlace} (hs : cs.size = 5) (h : DataW.Trod enc Try.prog W base spare held 23 (.agg cs) d ps) : ∃ t : Tg, Value.agg cs = .agg t.arr ∧ t.wf := by
  obtain ⟨v0, e0, h0⟩ := arg_flat h 0 5 (.int .i64) (by omega) (by kernel_rfl)
  obtain ⟨v1, e1, h1⟩ := arg_flat h 1 5 (.int .i64) (by omega) (by kernel_rfl)
  obtain ⟨v2, e2, h2⟩ := arg_flat h 2 5 (.int .i64) (by omega) (by kernel_rfl)
  obtain ⟨v3, e3, h3⟩ := arg_flat h 3 5 (.int .i64) (by omega) (by kernel_rfl)
  obtain ⟨v4, e4, h4⟩ := arg_flat h 4 5 .bool (by omega) (by kernel_rfl)
  obtain ⟨g0, b0⟩ := kd_int h0
  obtain ⟨g1, b1⟩ := kd_int h1
  obtain ⟨g2, b2⟩ := kd_int h2
  obtain ⟨g3, b3⟩ := kd_int h3
  have g4 := kd_bool h4
  refine ⟨⟨intOf v0, intOf v1, intOf v2, intOf v3, boolOf v4⟩, ?_, bounds_i64 b0, bounds_i64 b1, bounds_i64 b2, bounds_i64 b3⟩
  congr 1
  apply Array.ext
  · simp [hs, Tg.arr]
  · intro j q1 q2
    have hj : j < 5 := by omega
    have : j = 0 ∨ j = 1 ∨ j = 2 ∨ j = 3 ∨ j = 4 := by omega
    rcases this with rfl | rfl | rfl | rfl | rfl
    · rw [Array.getElem?_eq_getElem q1] at e0; injection e0 with e0; rw [e0]; exact g0
    · rw [Array.getElem?_eq_getElem q1] at e1; injection e1 with e1; rw [e1]; exact g1
    · rw [Array.getElem?_eq_getElem q1] at e2; injection e2 with e2; rw [e2]; exact g2
    · rw [Array.getElem?_eq_getElem q1] at e3; injection e3 with e3; rw [e3]; exact g3
    · rw [Array.getElem?_eq_getElem q1] at e4; injection e4 with e4; rw [e4]; exact g4
end
end Go.Proofs.Ytphinlhnepienaa
