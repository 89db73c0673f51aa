/- TopWorn: for every input of bulk at most 1048576 the law returns true and its arguments read as before. The bound is the condition. -/
import Derived.WalkKit
import Derived.ProofKit
import Derived.OpenShut
import Derived.ShutString
import Derived.ChangeOld
import Derived.Below
import Derived.SizedLaws
import Derived.Lib.SmallJoins
import Derived.Test.YtaeikigfgfcadaaGreatMq0a
import Derived.Test.YtaeikigfgfcadaaGreatMq0b
import Derived.Test.YtaeikigfgfcadaaGreatMq0c
import Derived.Test.YtaeikigfgfcadaaGreatMq0d
import Derived.Test.YtaeikigfgfcadaaGreatMq0e
import Derived.Test.YtaeikigfgfcadaaGreatMq0f
import Derived.Test.YtaeikigfgfcadaaGreatMq0g
import Derived.Test.YtaeikigfgfcadaaGreatMq0h
namespace Go.Proofs.YtaeikigfgfcadaaGreat.topWorn
open Go.ChangeShapes Go.WideShapes Go.ChangeAt Go.RowKit Go.Joins
open Go.ChangeMaps (open_string shut_string)
set_option linter.unusedVariables false
theorem own : ownKnob Tryz.prog.godebug = none := by kernel_rfl
theorem laidOut : laidOutB Tryz.prog = true := by kernel_rfl
set_option maxRecDepth 100000 in
theorem lifted (os : Os) (started : os.Started) (H : Type) (enc : TypeId × Value → H) (F : Stop.Interp) :
    ReturnsInHanded {} Tryz.checked os 4 .any ((Rows.OpenSpec.upto Rows.topWornSpec).pre6 enc Tryz.prog Tryz.f4 Rows.topWornUptoRow.domain false) (((Rows.OpenSpec.upto Rows.topWornSpec).at F).post enc Tryz.prog Tryz.f4 false true false false) := by
  refine returnsInHanded_of_cond_sized (C := Tryz.checked) (s := Rows.OpenSpec.upto Rows.topWornSpec) (k := Rows.uptoSmall) rfl own started (by kernel_rfl) Tryz.func4
    (OpenSpec.witness (enc := enc) (C := Tryz.checked) (s := Rows.OpenSpec.upto Rows.topWornSpec) (k := Rows.uptoSmall) rfl false ⟨#[], #[.slice none 0 0, .slice none 0 0, .slice none 0 0], []⟩ 8 (by kernel_rfl) (by kernel_rfl) (by kernel_rfl)
      (x := ([.nil, .nil, .nil], [], [])) (by kernel_rfl) rfl (by kernel_rfl)) ?_
  intro W base args ds gs before alD hW arn hk apo _
  have sQ : (DataW.weightsEach Tryz.prog (Tryz.f4.params.toList ++ (Rows.OpenSpec.upto Rows.topWornSpec).bare.plain.varTypes Tryz.prog) (ds ++ gs)).all (· ≤ reachBytes) = true := apo
  have vR : ∀ (j : Nat) t v, Tryz.f4.params[j]? = some t → args[j]? = some v → Value.okWide Tryz.prog W .any base t v := alD
  have hW' := hW
  obtain ⟨p, q, hA0, hV, rfl, hfz, hnd⟩ := hW
  have hA : DataW.TrodAll enc Tryz.prog W 0 (fun _ => true) true Tryz.f4.params.toList args.toList ds p := hA0
  rw [Tryz.params4] at hA vR sQ
  obtain ⟨v0, vs0, d0, ds0, p0, q0, fV, rfl, rfl, h0, r0⟩ := trodAll_cons hA
  obtain ⟨v1, vs1, d1, ds1, p1, q1, rfl, rfl, rfl, h1, r1⟩ := trodAll_cons r0
  obtain ⟨v2, vs2, d2, ds2, p2, q2, rfl, rfl, rfl, h2, r2⟩ := trodAll_cons r1
  obtain ⟨rfl, rfl, rfl⟩ := trodAll_nil r2
  obtain rfl : args = #[v0, v1, v2] := by cases args; simp_all
  obtain ⟨rfl, rfl⟩ := trodVars_none hV
  obtain ⟨a0, apq, aro, rfl⟩ := okWide_slice Tryz.underlying22 (vR 0 22 v0 rfl rfl)
  have k0 := h0
  have lt0 : ∀ x ∈ p0, x.block < W.heap.size := by obtain ⟨m, hm⟩ := k0; exact DataW.trod_lt m _ _ _ hm
  obtain ⟨q0, qq0, qz0, F0, r0_, x0⟩ := nT (C := 3) Tryz.underlying22 Tryz.underlying36 (by kernel_rfl) (by kernel_rfl) rfl h0
  have y0 : apq * 24 ≤ 140737488351232 := nU sQ (j := 0) (t := 22) rfl rfl Tryz.underlying22 (by kernel_rfl) h0
  have b0 : apq ≤ 1048576 := pW hk (j := 0) rfl Tryz.underlying22 h0
  obtain ⟨L0, rfl, f0, g0⟩ := aeq r0_ fun i hi => by
    obtain ⟨_, _, z0⟩ := x0 i hi 0 _ rfl
    obtain ⟨_, _, z1⟩ := x0 i hi 1 _ rfl
    obtain ⟨_, _, z2⟩ := x0 i hi 2 _ rfl
    have y0 := iG Tryz.underlying3 z0
    have y1 := iG Tryz.underlying3 z1
    have y2 := iG Tryz.underlying3 z2
    exact ⟨⟨_, _, _⟩, ⟨bounds_i64 y0.2, bounds_i64 y1.2, bounds_i64 y2.2⟩, y0.1, y1.1, y2.1⟩
  obtain ⟨a1, apr, arp, rfl⟩ := okWide_slice Tryz.underlying23 (vR 1 23 v1 rfl rfl)
  have k1 := h1
  have lt1 : ∀ x ∈ p1, x.block < W.heap.size := by obtain ⟨m, hm⟩ := k1; exact DataW.trod_lt m _ _ _ hm
  obtain ⟨z1, w1, u1⟩ := abK Tryz.underlying23 Tryz.underlying3 (by kernel_rfl) h1
  have y1 : apr * 8 ≤ 140737488351232 := aeu sQ (j := 1) (t := 23) rfl rfl Tryz.underlying23 Tryz.underlying3 (by kernel_rfl) (by kernel_rfl) h1
  have b1 : apr ≤ 1048576 := ajs hk (j := 1) rfl Tryz.underlying23 Tryz.underlying3 (by kernel_rfl) h1
  obtain ⟨Z1, rfl, f1, g1⟩ := alh w1 u1
  obtain ⟨a2, aps, arq, rfl⟩ := okWide_slice Tryz.underlying22 (vR 2 22 v2 rfl rfl)
  have k2 := h2
  have lt2 : ∀ x ∈ p2, x.block < W.heap.size := by obtain ⟨m, hm⟩ := k2; exact DataW.trod_lt m _ _ _ hm
  obtain ⟨q2, qq2, qz2, F2, r2_, x2⟩ := nT (C := 3) Tryz.underlying22 Tryz.underlying36 (by kernel_rfl) (by kernel_rfl) rfl h2
  have y2 : aps * 24 ≤ 140737488351232 := nU sQ (j := 2) (t := 22) rfl rfl Tryz.underlying22 (by kernel_rfl) h2
  have b2 : aps ≤ 1048576 := pW hk (j := 2) rfl Tryz.underlying22 h2
  obtain ⟨L2, rfl, f2, g2⟩ := aeq r2_ fun i hi => by
    obtain ⟨_, _, z0⟩ := x2 i hi 0 _ rfl
    obtain ⟨_, _, z1⟩ := x2 i hi 1 _ rfl
    obtain ⟨_, _, z2⟩ := x2 i hi 2 _ rfl
    have y0 := iG Tryz.underlying3 z0
    have y1 := iG Tryz.underlying3 z1
    have y2 := iG Tryz.underlying3 z2
    exact ⟨⟨_, _, _⟩, ⟨bounds_i64 y0.2, bounds_i64 y1.2, bounds_i64 y2.2⟩, y0.1, y1.1, y2.1⟩
  clear hA0 alD apo
  refine ((ajr f0 f1 f2 g0 g1 g2 b0).calls).mono fun e W' ⟨he, hk⟩ => ?_
  have bel := hk.below (Nat.le_refl _) (fun _ h => by cases h)
  subst he
  exact ⟨_, rfl, _, _, _, [], _, [], hW', trodAll_mk1 (shut_bool Tryz.underlying4 _), (trodAll_cons_mk (Below.trod laidOut (by kernel_rfl) (of_decide_eq_true (by kernel_rfl)) k0 bel lt0) (trodAll_cons_mk (Below.trod laidOut (by kernel_rfl) (of_decide_eq_true (by kernel_rfl)) k1 bel lt1) (trodAll_cons_mk (Below.trod laidOut (by kernel_rfl) (of_decide_eq_true (by kernel_rfl)) k2 bel lt2) trodAll_mk0))), rfl, bel.frame _, fun h => by cases h⟩
theorem over : Rows.topWornUptoRow.holds Tryz.pinned (Rows.OpenSpec.upto Rows.topWornSpec) :=
  OpenClaim.holds_of_cond 4 Tryz.f4 rfl rfl rfl rfl rfl rfl rfl ⟨rfl, rfl, rfl, rfl, rfl⟩ rfl rfl rfl rfl rfl (by kernel_rfl) Tryz.func4 closed
    (of_decide_eq_true (by kernel_rfl)) wrap
    (fun os started H enc _ F => lifted os started H enc F)
theorem proved : Rows.TopWornUptoSaid := over
#print axioms proved
end Go.Proofs.YtaeikigfgfcadaaGreat.topWorn
