/- ArrayPlays: for every input the law returns true and its arguments read as before. No condition. -/
import Derived.Test.YtmffeofgcnabiaaStructs
import Derived.Test.YtmffeofgcnabiaaArrPlays
import Derived.WalkKit
import Derived.ProofKit
import Derived.OpenShut
import Derived.ShutString
import Derived.ChangeOld
import Derived.Below
import Derived.SizedLaws
import Derived.Lib.SmallJoins
namespace Go.Proofs.Ytmffeofgcnabiaa.arrayPlays
open Go.ChangeShapes Go.WideShapes Go.ChangeAt Go.RowKit Go.Joins
open Go.ChangeMaps (open_string shut_string)
set_option linter.unusedVariables false
theorem own : ownKnob Try.prog.godebug = none := by kernel_rfl
theorem laidOut : laidOutB Try.prog = true := by kernel_rfl
set_option maxRecDepth 100000 in
theorem lifted (os : Os) (started : os.Started) (H : Type) (enc : TypeId × Value → H) :
    ReturnsInHanded {} Try.checked os 4 .any (Rows.arrayPlaysSpec.pre6 enc Try.prog Try.f4 Rows.arrayPlaysRow.domain false) (Rows.arrayPlaysSpec.post enc Try.prog Try.f4 false true false false) := by
  refine returnsInHanded_of_change_sized (C := Try.checked) own started (by kernel_rfl) Try.func4
    (ChangeSpec.witness6 (enc := enc) (C := Try.checked) false ⟨#[], #[.slice none 0 0], []⟩ 8 (by kernel_rfl) (by kernel_rfl) (by kernel_rfl) (by kernel_rfl)) ?_
  intro W base args ds gs before hval0 hW hcnd hsz0 _
  have hsz : (DataW.weightsEach Try.prog (Try.f4.params.toList ++ Rows.arrayPlaysSpec.plain.varTypes Try.prog) (ds ++ gs)).all (· ≤ reachBytes) = true := hsz0
  have hval : ∀ (j : Nat) t v, Try.f4.params[j]? = some t → args[j]? = some v → Value.okWide Try.prog W .any base t v := hval0
  have hW' := hW
  obtain ⟨p, q, hA0, hV, rfl, hfz, hnd⟩ := hW
  have hA : DataW.TrodAll enc Try.prog W 0 (fun _ => true) true Try.f4.params.toList args.toList ds p := hA0
  rw [Try.params4] at hA hval hsz
  obtain ⟨v0, vs0, d0, ds0, p0, q0, hargs, rfl, rfl, h0, r0⟩ := trodAll_cons hA
  obtain ⟨rfl, rfl, rfl⟩ := trodAll_nil r0
  obtain rfl : args = #[v0] := by cases args; simp_all
  obtain ⟨rfl, rfl⟩ := trodVars_none hV
  obtain ⟨a0, len0, cap0, rfl⟩ := okWide_slice Try.underlying22 (hval 0 22 v0 rfl rfl)
  have k0 := h0
  have lt0 : ∀ x ∈ p0, x.block < W.heap.size := by obtain ⟨m, hm⟩ := k0; exact DataW.trod_lt m _ _ _ hm
  obtain ⟨q0, qq0, qz0, F0, r0_, x0⟩ := slArg_structs (C := 4) Try.underlying22 Try.underlying33 (by kernel_rfl) (by kernel_rfl) rfl h0
  have y0 : len0 * 32 ≤ 140737488351232 := sized_structs hsz (j := 0) (t := 22) rfl rfl Try.underlying22 (by kernel_rfl) h0
  have o0 : ∀ i, i < len0 → OpAt F0 i := fun i hi => by
    obtain ⟨_, _, z0⟩ := x0 i hi 0 _ rfl
    obtain ⟨_, _, z1⟩ := x0 i hi 1 _ rfl
    obtain ⟨_, _, z2⟩ := x0 i hi 2 _ rfl
    obtain ⟨_, _, z3⟩ := x0 i hi 3 _ rfl
    have y0 := field_int Try.underlying3 z0
    have y1 := field_int Try.underlying3 z1
    have y2 := field_int Try.underlying3 z2
    have y3 := field_int Try.underlying5 z3
    exact ⟨_, _, _, _, y0.1, y1.1, y2.1, y3.1, bounds_i64 y0.2, bounds_i64 y1.2, bounds_i64 y2.2, bounds_u8 y3.2⟩
  clear hA0 hval0 hsz0
  refine (plays_all a0 len0 cap0 F0 W r0_ o0 y0).mono fun e W' ⟨he, hk⟩ => ?_
  have bel := hk.below (Nat.le_refl _) (fun _ h => by cases h)
  subst he
  exact ⟨_, rfl, _, _, _, [], _, [], hW', trodAll_mk1 (shut_bool Try.underlying4 _), (trodAll_cons_mk (Below.trod laidOut (by kernel_rfl) (of_decide_eq_true (by kernel_rfl)) k0 bel lt0) trodAll_mk0), rfl, bel.frame _, fun h => by cases h⟩
theorem over : Rows.arrayPlaysRow.holds Try.pinned (OpenSpec.ofChange Rows.arrayPlaysSpec) :=
  OpenClaim.holds_of_wide 4 Try.f4 rfl rfl rfl rfl rfl rfl rfl ⟨rfl, rfl, rfl, rfl, rfl⟩ rfl rfl rfl rfl rfl (by kernel_rfl) Try.func4 (by kernel_rfl)
    (of_decide_eq_true (by kernel_rfl)) (by unfold Func.isWrapper; first | (rw [if_pos (by decide +kernel)]; kernel_rfl) | (rw [if_neg (by decide +kernel)]; exact ⟨rfl, rfl⟩))
    (fun os started H enc _ => lifted os started H enc)
theorem proved : Rows.ArrayPlaysSaid := over
#print axioms proved
end Go.Proofs.Ytmffeofgcnabiaa.arrayPlays
