/- A list of Ops that comes in. -/
import Derived.Test.YtkdocaimkphooaaFlat
import Derived.Test.YtkdocaimkphooaaHealthPlays
import Derived.ProofKit
namespace Go.Proofs.Ytkdocaimkphooaa
open Go.RowKit Go.ChangeShapes Go.WideShapes
set_option linter.unusedVariables false
theorem Spec.calls {P : Program} {f : FuncId} {args : Array Value} {w : World} {V : Value} {Φ : World → Prop} (h : Spec P f args w fun v w' => v = V ∧ Φ w') : Calls P f args w fun e w' => e = .returned V ∧ Φ w' := h.2.mono fun e w' ⟨v, he, hv, hk⟩ => ⟨by rw [he, hv], hk⟩
theorem kd_int {k : IntKind} {v : Value} (h : (Kd.int k).ok v) : v = .int k (intOf v) ∧ (Lit.int k (intOf v)).wf = true := by
  obtain ⟨x, rfl, hw⟩ := h
  exact ⟨rfl, hw⟩
section
variable {H : Type} {enc : TypeId × Value → H} {W : World} {base : Nat} {spare : Nat → Bool} {held : Bool}
theorem ops_arg {a : Option Addr} {len cap : Nat} {d : DataW H} {ps : List MemPlace} (h : DataW.Trod enc Try.prog W base spare held 23 (.slice a len cap) d ps) :
    ∃ K X N : Nat → Int, Rd W a (len * 3) (opsF K X N) ∧ ∀ i, i < len → I64 (K i) ∧ I64 (X i) ∧ I64 (N i) := by
  obtain ⟨h1, h2, h3, F, hr, hk⟩ := slArg_flat (C := 3) Try.underlying23 (by kernel_rfl) h
  have g0 := fun i hi => kd_int (hk i hi 0 5 (.int .i64) (by omega) (by kernel_rfl))
  have g1 := fun i hi => kd_int (hk i hi 1 5 (.int .i64) (by omega) (by kernel_rfl))
  have g2 := fun i hi => kd_int (hk i hi 2 5 (.int .i64) (by omega) (by kernel_rfl))
  refine ⟨fun i => intOf (F i 0), fun i => intOf (F i 1), fun i => intOf (F i 2), ?_, fun i hi => ⟨bounds_i64 (g0 i hi).2, bounds_i64 (g1 i hi).2, bounds_i64 (g2 i hi).2⟩⟩
  refine hr.congr fun q hq => ?_
  have hi : q / 3 < len := by omega
  unfold opsF
  have : q % 3 = 0 ∨ q % 3 = 1 ∨ q % 3 = 2 := by omega
  rcases this with e | e | e <;> rw [e]
  · exact (g0 _ hi).1
  · exact (g1 _ hi).1
  · exact (g2 _ hi).1
end
end Go.Proofs.Ytkdocaimkphooaa
