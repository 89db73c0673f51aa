/- TopHidden: for every input of bulk at most 1048576 the law returns true and its arguments read as before. The bound is the condition. -/
import Derived.WalkKit
import Derived.ProofKit
import Derived.OpenShut
import Derived.ShutString
import Derived.ChangeOld
import Derived.Below
import Derived.SizedLaws
import Derived.Lib.SmallJoins
import Derived.Test.YtaeikigfgfcadaaGreatMq0a
import Derived.Test.YtaeikigfgfcadaaGreatMq0b
import Derived.Test.YtaeikigfgfcadaaGreatMq0c
import Derived.Test.YtaeikigfgfcadaaGreatMq0d
import Derived.Test.YtaeikigfgfcadaaGreatMq0e
import Derived.Test.YtaeikigfgfcadaaGreatMq0f
import Derived.Test.YtaeikigfgfcadaaGreatMq0g
import Derived.Test.YtaeikigfgfcadaaGreatMq0h
namespace Go.Proofs.YtaeikigfgfcadaaGreat.topHidden
open Go.ChangeShapes Go.WideShapes Go.ChangeAt Go.RowKit Go.Joins
open Go.ChangeMaps (open_string shut_string)
set_option linter.unusedVariables false
theorem own : ownKnob Tryz.prog.godebug = none := by kernel_rfl
theorem laidOut : laidOutB Tryz.prog = true := by kernel_rfl
set_option maxRecDepth 100000 in
theorem lifted (os : Os) (started : os.Started) (H : Type) (enc : TypeId × Value → H) (F : Stop.Interp) :
    ReturnsInHanded {} Tryz.checked os 13 .any ((Rows.OpenSpec.upto Rows.topHiddenSpec).pre6 enc Tryz.prog Tryz.f13 Rows.topHiddenUptoRow.domain false) (((Rows.OpenSpec.upto Rows.topHiddenSpec).at F).post enc Tryz.prog Tryz.f13 false true false false) := by
  refine returnsInHanded_of_cond_sized (C := Tryz.checked) (s := Rows.OpenSpec.upto Rows.topHiddenSpec) (k := Rows.uptoSmall) rfl own started (by kernel_rfl) Tryz.func13
    (OpenSpec.witness (enc := enc) (C := Tryz.checked) (s := Rows.OpenSpec.upto Rows.topHiddenSpec) (k := Rows.uptoSmall) rfl false ⟨#[], #[.slice none 0 0, .slice none 0 0], []⟩ 8 (by kernel_rfl) (by kernel_rfl) (by kernel_rfl)
      (x := ([.nil, .nil], [], [])) (by kernel_rfl) rfl (by kernel_rfl)) ?_
  intro W base args ds gs before hval0 hW hcnd hk hsz0 _
  have hsz : (DataW.weightsEach Tryz.prog (Tryz.f13.params.toList ++ (Rows.OpenSpec.upto Rows.topHiddenSpec).bare.plain.varTypes Tryz.prog) (ds ++ gs)).all (· ≤ reachBytes) = true := hsz0
  have hval : ∀ (j : Nat) t v, Tryz.f13.params[j]? = some t → args[j]? = some v → Value.okWide Tryz.prog W .any base t v := hval0
  have hW' := hW
  obtain ⟨p, q, hA0, hV, rfl, hfz, hnd⟩ := hW
  have hA : DataW.TrodAll enc Tryz.prog W 0 (fun _ => true) true Tryz.f13.params.toList args.toList ds p := hA0
  rw [Tryz.params13] at hA hval hsz
  obtain ⟨v0, vs0, d0, ds0, p0, q0, hargs, rfl, rfl, h0, r0⟩ := trodAll_cons hA
  obtain ⟨v1, vs1, d1, ds1, p1, q1, rfl, rfl, rfl, h1, r1⟩ := trodAll_cons r0
  obtain ⟨rfl, rfl, rfl⟩ := trodAll_nil r1
  obtain rfl : args = #[v0, v1] := by cases args; simp_all
  obtain ⟨rfl, rfl⟩ := trodVars_none hV
  obtain ⟨a0, len0, cap0, rfl⟩ := okWide_slice Tryz.underlying22 (hval 0 22 v0 rfl rfl)
  have k0 := h0
  have lt0 : ∀ x ∈ p0, x.block < W.heap.size := by obtain ⟨m, hm⟩ := k0; exact DataW.trod_lt m _ _ _ hm
  obtain ⟨q0, qq0, qz0, F0, r0_, x0⟩ := slArg_structs (C := 3) Tryz.underlying22 Tryz.underlying36 (by kernel_rfl) (by kernel_rfl) rfl h0
  have y0 : len0 * 24 ≤ 140737488351232 := sized_structs hsz (j := 0) (t := 22) rfl rfl Tryz.underlying22 (by kernel_rfl) h0
  have b0 : len0 ≤ 1048576 := bulk_structs hk (j := 0) rfl Tryz.underlying22 h0
  obtain ⟨L0, rfl, f0, g0⟩ := cl_list r0_ fun i hi => by
    obtain ⟨_, _, z0⟩ := x0 i hi 0 _ rfl
    obtain ⟨_, _, z1⟩ := x0 i hi 1 _ rfl
    obtain ⟨_, _, z2⟩ := x0 i hi 2 _ rfl
    have y0 := field_int Tryz.underlying3 z0
    have y1 := field_int Tryz.underlying3 z1
    have y2 := field_int Tryz.underlying3 z2
    exact ⟨⟨_, _, _⟩, ⟨bounds_i64 y0.2, bounds_i64 y1.2, bounds_i64 y2.2⟩, y0.1, y1.1, y2.1⟩
  obtain ⟨a1, len1, cap1, rfl⟩ := okWide_slice Tryz.underlying23 (hval 1 23 v1 rfl rfl)
  have k1 := h1
  have lt1 : ∀ x ∈ p1, x.block < W.heap.size := by obtain ⟨m, hm⟩ := k1; exact DataW.trod_lt m _ _ _ hm
  obtain ⟨z1, w1, u1⟩ := slArg_ints Tryz.underlying23 Tryz.underlying3 (by kernel_rfl) h1
  have y1 : len1 * 8 ≤ 140737488351232 := sized_row hsz (j := 1) (t := 23) rfl rfl Tryz.underlying23 Tryz.underlying3 (by kernel_rfl) (by kernel_rfl) h1
  have b1 : len1 ≤ 1048576 := bulk_row hk (j := 1) rfl Tryz.underlying23 Tryz.underlying3 (by kernel_rfl) h1
  obtain ⟨Z1, rfl, f1, g1⟩ := in_list w1 u1
  clear hA0 hval0 hsz0
  refine ((hidden_ok f0 f1 g0 g1 b0).calls).mono fun e W' ⟨he, hk⟩ => ?_
  have bel := hk.below (Nat.le_refl _) (fun _ h => by cases h)
  subst he
  exact ⟨_, rfl, _, _, _, [], _, [], hW', trodAll_mk1 (shut_bool Tryz.underlying4 _), (trodAll_cons_mk (Below.trod laidOut (by kernel_rfl) (of_decide_eq_true (by kernel_rfl)) k0 bel lt0) (trodAll_cons_mk (Below.trod laidOut (by kernel_rfl) (of_decide_eq_true (by kernel_rfl)) k1 bel lt1) trodAll_mk0)), rfl, bel.frame _, fun h => by cases h⟩
theorem over : Rows.topHiddenUptoRow.holds Tryz.pinned (Rows.OpenSpec.upto Rows.topHiddenSpec) :=
  OpenClaim.holds_of_cond 13 Tryz.f13 rfl rfl rfl rfl rfl rfl rfl ⟨rfl, rfl, rfl, rfl, rfl⟩ rfl rfl rfl rfl rfl (by kernel_rfl) Tryz.func13 closed
    (of_decide_eq_true (by kernel_rfl)) wrap
    (fun os started H enc _ F => lifted os started H enc F)
theorem proved : Rows.TopHiddenUptoSaid := over
#print axioms proved
end Go.Proofs.YtaeikigfgfcadaaGreat.topHidden
