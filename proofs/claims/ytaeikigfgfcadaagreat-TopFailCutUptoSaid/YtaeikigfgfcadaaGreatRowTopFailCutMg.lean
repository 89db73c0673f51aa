/- TopFailCut: for every input of bulk at most 1048576 the law returns true and its arguments read as before. The bound is the condition. -/
import Derived.WalkKit
import Derived.ProofKit
import Derived.OpenShut
import Derived.ShutString
import Derived.ChangeOld
import Derived.Below
import Derived.SizedLaws
import Derived.Lib.SmallJoins
import Derived.Test.YtaeikigfgfcadaaGreatMr0a
import Derived.Test.YtaeikigfgfcadaaGreatMr0b
import Derived.Test.YtaeikigfgfcadaaGreatMr0c
import Derived.Test.YtaeikigfgfcadaaGreatMr0d
import Derived.Test.YtaeikigfgfcadaaGreatMr0e
import Derived.Test.YtaeikigfgfcadaaGreatMr0f
import Derived.Test.YtaeikigfgfcadaaGreatMr0g
import Derived.Test.YtaeikigfgfcadaaGreatMr0h
namespace Go.Proofs.YtaeikigfgfcadaaGreat.topFailCut
open Go.ChangeShapes Go.WideShapes Go.ChangeAt Go.RowKit Go.Joins
open Go.ChangeMaps (open_string shut_string)
set_option linter.unusedVariables false
theorem own : ownKnob Tryz.prog.godebug = none := by kernel_rfl
theorem laidOut : laidOutB Tryz.prog = true := by kernel_rfl
set_option maxRecDepth 100000 in
theorem lifted (os : Os) (started : os.Started) (H : Type) (enc : TypeId × Value → H) (F : Stop.Interp) :
    ReturnsInHanded {} Tryz.checked os 14 .any ((Rows.OpenSpec.upto Rows.topFailCutSpec).pre6 enc Tryz.prog Tryz.f14 Rows.topFailCutUptoRow.domain false) (((Rows.OpenSpec.upto Rows.topFailCutSpec).at F).post enc Tryz.prog Tryz.f14 false true false false) := by
  refine returnsInHanded_of_cond_sized (C := Tryz.checked) (s := Rows.OpenSpec.upto Rows.topFailCutSpec) (k := Rows.uptoSmall) rfl own started (by kernel_rfl) Tryz.func14
    (OpenSpec.witness (enc := enc) (C := Tryz.checked) (s := Rows.OpenSpec.upto Rows.topFailCutSpec) (k := Rows.uptoSmall) rfl false ⟨#[], #[.slice none 0 0, .agg #[.int .i64 0, .int .i64 0, .int .i64 0], .int .i64 0, .int .i64 0], []⟩ 8 (by kernel_rfl) (by kernel_rfl) (by kernel_rfl)
      (x := ([.nil, .agg [.lit (.int .i64 0), .lit (.int .i64 0), .lit (.int .i64 0)], .lit (.int .i64 0), .lit (.int .i64 0)], [], [])) (by kernel_rfl) rfl (by kernel_rfl)) ?_
  intro W base args ds gs before amf hW asg hk ap9 _
  have vP : (DataW.weightsEach Tryz.prog (Tryz.f14.params.toList ++ (Rows.OpenSpec.upto Rows.topFailCutSpec).bare.plain.varTypes Tryz.prog) (ds ++ gs)).all (· ≤ reachBytes) = true := ap9
  have vf : ∀ (j : Nat) t v, Tryz.f14.params[j]? = some t → args[j]? = some v → Value.okWide Tryz.prog W .any base t v := amf
  have hW' := hW
  obtain ⟨p, q, hA0, hV, rfl, hfz, hnd⟩ := hW
  have hA : DataW.TrodAll enc Tryz.prog W 0 (fun _ => true) true Tryz.f14.params.toList args.toList ds p := hA0
  rw [Tryz.params14] at hA vf vP
  obtain ⟨v0, vs0, d0, ds0, p0, q0, fT, rfl, rfl, h0, r0⟩ := trodAll_cons hA
  obtain ⟨v1, vs1, d1, ds1, p1, q1, rfl, rfl, rfl, h1, r1⟩ := trodAll_cons r0
  obtain ⟨v2, vs2, d2, ds2, p2, q2, rfl, rfl, rfl, h2, r2⟩ := trodAll_cons r1
  obtain ⟨v3, vs3, d3, ds3, p3, q3, rfl, rfl, rfl, h3, r3⟩ := trodAll_cons r2
  obtain ⟨rfl, rfl, rfl⟩ := trodAll_nil r3
  obtain rfl : args = #[v0, v1, v2, v3] := by cases args; simp_all
  obtain ⟨rfl, rfl⟩ := trodVars_none hV
  obtain ⟨a0, aqa, ash, rfl⟩ := okWide_slice Tryz.underlying22 (vf 0 22 v0 rfl rfl)
  have k0 := h0
  have lt0 : ∀ x ∈ p0, x.block < W.heap.size := by obtain ⟨m, hm⟩ := k0; exact DataW.trod_lt m _ _ _ hm
  obtain ⟨q0, qq0, qz0, F0, r0_, x0⟩ := wN (C := 3) Tryz.underlying22 Tryz.underlying36 (by kernel_rfl) (by kernel_rfl) rfl h0
  have y0 : aqa * 24 ≤ 140737488351232 := wO vP (j := 0) (t := 22) rfl rfl Tryz.underlying22 (by kernel_rfl) h0
  have b0 : aqa ≤ 1048576 := aab hk (j := 0) rfl Tryz.underlying22 h0
  obtain ⟨L0, rfl, f0, g0⟩ := alR r0_ fun i hi => by
    obtain ⟨_, _, z0⟩ := x0 i hi 0 _ rfl
    obtain ⟨_, _, z1⟩ := x0 i hi 1 _ rfl
    obtain ⟨_, _, z2⟩ := x0 i hi 2 _ rfl
    have y0 := rF Tryz.underlying3 z0
    have y1 := rF Tryz.underlying3 z1
    have y2 := rF Tryz.underlying3 z2
    exact ⟨⟨_, _, _⟩, ⟨bounds_i64 y0.2, bounds_i64 y1.2, bounds_i64 y2.2⟩, y0.1, y1.1, y2.1⟩
  obtain ⟨cs1, rfl, sz1⟩ := okWide_struct Tryz.underlying36 (vf 1 36 v1 rfl rfl)
  have k1 := h1
  have lt1 : ∀ x ∈ p1, x.block < W.heap.size := by obtain ⟨m, hm⟩ := k1; exact DataW.trod_lt m _ _ _ hm
  obtain ⟨c1, e1, g1⟩ := aof (sz1.trans (by kernel_rfl)) h1
  unfold agg at e1
  injection e1 with e1
  subst e1
  obtain ⟨a2, rfl, rfl, rfl, w2⟩ := open_int Tryz.underlying3 (vf 2 3 v2 rfl rfl) h2
  obtain ⟨a3, rfl, rfl, rfl, w3⟩ := open_int Tryz.underlying3 (vf 3 3 v3 rfl rfl) h3
  clear hA0 amf ap9
  refine ((adE f0 g0 b0 g1 (bounds_i64 w2) (bounds_i64 w3)).calls).mono fun e W' ⟨he, hk⟩ => ?_
  have bel := hk.below (Nat.le_refl _) (fun _ h => by cases h)
  subst he
  exact ⟨_, rfl, _, _, _, [], _, [], hW', trodAll_mk1 (shut_bool Tryz.underlying4 _), (trodAll_cons_mk (Below.trod laidOut (by kernel_rfl) (of_decide_eq_true (by kernel_rfl)) k0 bel lt0) (trodAll_cons_mk (Below.trod laidOut (by kernel_rfl) (of_decide_eq_true (by kernel_rfl)) k1 bel lt1) (trodAll_cons_mk (shut_int Tryz.underlying3 w2) (trodAll_cons_mk (shut_int Tryz.underlying3 w3) trodAll_mk0)))), rfl, bel.frame _, fun h => by cases h⟩
theorem over : Rows.topFailCutUptoRow.holds Tryz.pinned (Rows.OpenSpec.upto Rows.topFailCutSpec) :=
  OpenClaim.holds_of_cond 14 Tryz.f14 rfl rfl rfl rfl rfl rfl rfl ⟨rfl, rfl, rfl, rfl, rfl⟩ rfl rfl rfl rfl rfl (by kernel_rfl) Tryz.func14 closed
    (of_decide_eq_true (by kernel_rfl)) wrap
    (fun os started H enc _ F => lifted os started H enc F)
theorem proved : Rows.TopFailCutUptoSaid := over
#print axioms proved
end Go.Proofs.YtaeikigfgfcadaaGreat.topFailCut
