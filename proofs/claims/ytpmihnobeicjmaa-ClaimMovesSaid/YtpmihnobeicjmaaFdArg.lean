/- Founds and checkpoints that come in. -/
import Derived.Test.YtpmihnobeicjmaaFlat
import Derived.Test.YtpmihnobeicjmaaClaimUp
import Derived.ProofKit
namespace Go.Proofs.Ytpmihnobeicjmaa
open Go.RowKit Go.ChangeShapes Go.WideShapes
set_option linter.unusedVariables false
def boolOf : Value → Bool
  | .bool b => b
  | _ => false
theorem kd_int {k : IntKind} {v : Value} (h : (Kd.int k).ok v) : v = .int k (intOf v) ∧ (Lit.int k (intOf v)).wf = true := by
  obtain ⟨x, rfl, hw⟩ := h
  exact ⟨rfl, hw⟩
theorem kd_bool {v : Value} (h : Kd.bool.ok v) : v = .bool (boolOf v) := by
  obtain ⟨b, rfl⟩ := h
  rfl
section
variable {H : Type} {enc : TypeId × Value → H} {W : World} {base : Nat} {spare : Nat → Bool} {held : Bool}
theorem fds_arg {a : Option Addr} {len cap : Nat} {d : DataW H} {ps : List MemPlace} (h : DataW.Trod enc Try.prog W base spare held 24 (.slice a len cap) d ps) :
    len ≤ cap ∧ cap ≤ maxLen ∧ (a = none → cap = 0) ∧ ∃ L : List Fd, L.length = len ∧ Rd W a (L.length * 6) (fdF L) ∧ ∀ f, f ∈ L → f.wf := by
  obtain ⟨h1, h2, h3, F, hr, hk⟩ := slArg_flat (C := 6) Try.underlying24 (by kernel_rfl) h
  have g0 := fun i hi => kd_int (hk i hi 0 5 (.int .i64) (by omega) (by kernel_rfl))
  have g1 := fun i hi => kd_int (hk i hi 1 5 (.int .i64) (by omega) (by kernel_rfl))
  have g2 := fun i hi => kd_int (hk i hi 2 5 (.int .i64) (by omega) (by kernel_rfl))
  have g3 := fun i hi => kd_int (hk i hi 3 5 (.int .i64) (by omega) (by kernel_rfl))
  have g4 := fun i hi => kd_int (hk i hi 4 5 (.int .i64) (by omega) (by kernel_rfl))
  have g5 := fun i hi => kd_bool (hk i hi 5 5 .bool (by omega) (by kernel_rfl))
  refine ⟨h1, h2, h3, (List.range len).map fun i => ⟨intOf (F i 0), intOf (F i 1), intOf (F i 2), intOf (F i 3), intOf (F i 4), boolOf (F i 5)⟩, by simp, ?_, ?_⟩
  · rw [List.length_map, List.length_range]
    refine hr.congr fun q hq => ?_
    have hi : q / 6 < len := by omega
    unfold fdF
    rw [List.getD_eq_getElem?_getD, List.getElem?_map, List.getElem?_range hi]
    simp only [Option.map_some, Option.getD_some]
    have : q % 6 = 0 ∨ q % 6 = 1 ∨ q % 6 = 2 ∨ q % 6 = 3 ∨ q % 6 = 4 ∨ q % 6 = 5 := by omega
    rcases this with e | e | e | e | e | e <;> rw [e]
    · exact (g0 _ hi).1
    · exact (g1 _ hi).1
    · exact (g2 _ hi).1
    · exact (g3 _ hi).1
    · exact (g4 _ hi).1
    · exact g5 _ hi
  · intro f hf
    obtain ⟨i, hi, rfl⟩ := List.mem_map.1 hf
    have hi := List.mem_range.1 hi
    exact ⟨bounds_i64 (g0 i hi).2, bounds_i64 (g1 i hi).2, bounds_i64 (g2 i hi).2, bounds_i64 (g3 i hi).2, bounds_i64 (g4 i hi).2⟩
def cpKind (j : Nat) : Kd := if j < 25 then .int .i64 else if j < 37 then .bool else .int .i64
theorem cp_kinds : (List.range 62).all (fun j => decide (kindAt Try.prog 5 36 j = some (cpKind j))) = true := by kernel_rfl
theorem cp_arg {cs : Array Value} {d : DataW H} {ps : List MemPlace} (hs : cs.size = 62) (h : DataW.Trod enc Try.prog W base spare held 36 (.agg cs) d ps) : ∃ p : Cp, .agg cs = agg 62 p.cell ∧ p.wf := by
  have hk : ∀ j, j < 62 → ∃ v, cs[j]? = some v ∧ (cpKind j).ok v := fun j hj => arg_flat h j 5 (cpKind j) (by omega) (by
    have := List.all_eq_true.1 cp_kinds j (List.mem_range.2 hj)
    simpa using this)
  have hg : ∀ j, j < 62 → cs[j]? = some (cs.getD j .nilIface) ∧ (cpKind j).ok (cs.getD j .nilIface) := fun j hj => by
    obtain ⟨v, hv, ho⟩ := hk j hj
    have e : cs.getD j .nilIface = v := by rw [Array.getD_eq_getD_getElem?, hv]; rfl
    rw [e]
    exact ⟨hv, ho⟩
  have hi : ∀ j, j < 62 → (j < 25 ∨ 37 ≤ j) → cs.getD j .nilIface = .int .i64 (intOf (cs.getD j .nilIface)) ∧ (Lit.int .i64 (intOf (cs.getD j .nilIface))).wf = true := fun j hj h => kd_int (by
    have := (hg j hj).2
    unfold cpKind at this
    rcases h with h | h
    · rwa [if_pos h] at this
    · rwa [if_neg (by omega), if_neg (by omega)] at this)
  refine ⟨⟨fun j => intOf (cs.getD j .nilIface), intOf (cs.getD 24 .nilIface), fun j => boolOf (cs.getD (25 + j) .nilIface), intOf (cs.getD 37 .nilIface), fun j => intOf (cs.getD (38 + j) .nilIface), fun j => intOf (cs.getD (50 + j) .nilIface)⟩, ?_, ?_, ?_⟩
  · unfold agg
    congr 1
    apply Array.ext
    · simp [hs]
    · intro j h1 h2
      have hj : j < 62 := by omega
      have e1 := (hg j hj).1
      rw [Array.getElem?_eq_getElem h1] at e1
      injection e1 with e1
      rw [e1]
      simp only [Array.getElem_map, Array.getElem_range]
      unfold Cp.cell
      by_cases c1 : j < 24
      · rw [if_pos c1]
        exact (hi j hj (.inl (by omega))).1
      · rw [if_neg c1]
        by_cases c2 : j = 24
        · subst c2
          rw [if_pos rfl]
          exact (hi 24 hj (.inl (by omega))).1
        · rw [if_neg c2]
          by_cases c3 : j < 37
          · rw [if_pos c3]
            have := (hg j hj).2
            unfold cpKind at this
            rw [if_neg (by omega), if_pos c3] at this
            simp only
            rw [show 25 + (j - 25) = j from by omega]
            exact kd_bool this
          · rw [if_neg c3]
            by_cases c4 : j = 37
            · subst c4
              rw [if_pos rfl]
              exact (hi 37 hj (.inr (by omega))).1
            · rw [if_neg c4]
              by_cases c5 : j < 50
              · rw [if_pos c5]
                simp only
                rw [show 38 + (j - 38) = j from by omega]
                exact (hi j hj (.inr (by omega))).1
              · rw [if_neg c5]
                simp only
                rw [show 50 + (j - 50) = j from by omega]
                exact (hi j hj (.inr (by omega))).1
  · exact fun j hj => bounds_i64 (hi j (by omega) (.inl (by omega))).2
  · exact bounds_i64 (hi 24 (by omega) (.inl (by omega))).2
end
end Go.Proofs.Ytpmihnobeicjmaa
