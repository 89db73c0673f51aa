/- '==' of structs, field by field. -/
import Derived.Test.YtpmihnobeicjmaaK
import Derived.Laws.StructEq
namespace Go.Proofs.Ytpmihnobeicjmaa
set_option linter.unusedVariables false
section
variable {P : Program} {w : World} {d : Nat} {t : TypeId} {xs ys : Array Value}
theorem eqA_of {fs : Array Field} {r : Bool} (hu : P.underlying t = some (.struct fs)) (hp : P.stoodInHeld t = false) (h : (Op.eqFields d xs ys fs.toList).run P w = .ok r w) : (Op.equalIn (d + 1) t (.agg xs) (.agg ys)).run P w = .ok r w := by
  have hf : P.fieldsOf t = fs := by unfold Program.fieldsOf; rw [hu]
  rw [run_equalIn_struct w d t xs ys (by rw [hf]; exact hu) hp, hf]
  exact h
theorem eqf_nil : (Op.eqFields d xs ys []).run P w = .ok true w := rfl
theorem eqf_cons {f : Field} {fs : List Field} {a b : Value} {r s : Bool} (hn : (f.name == "_") = false) (ha : (part f.type xs f.offset).run P w = .ok a w) (hb : (part f.type ys f.offset).run P w = .ok b w) (hr : (Op.equalIn d f.type a b).run P w = .ok r w) (hs : (Op.eqFields d xs ys fs).run P w = .ok s w) :
    (Op.eqFields d xs ys (f :: fs)).run P w = .ok (r && s) w := by
  have hn' : f.name ≠ "_" := by simpa using hn
  simp only [Op.eqFields, ne_eq, hn', not_false_eq_true, if_true, Sem.run_bind, ha, hb, hr, Result.andThen_ok]
  cases r
  · simp
  · simpa using hs
theorem part_cell {e : TypeId} {cs : Array Value} {off : Nat} {v : Value} (hc : cellTy P e = true) (hv : cs[off]? = some v) : (part e cs off).run P w = .ok v w := by
  simp [part, isAgg_cell hc w, hv]
theorem part_agg {e : TypeId} {cs : Array Value} {off n : Nat} {u : TypeDesc} (hu : P.underlying e = some u) (hd : (match u with | .struct _ | .array _ _ => true | _ => false) = true) (hs : szIs P e n = true) : (part e cs off).run P w = .ok (.agg (cs.extract off (off + n))) w := by
  simp [part, run_isAgg_of hu hd w, size_of_is hs w]
theorem eq_int {k : IntKind} {e : TypeId} {a b : Int} (hu : P.underlying e = some (.int k)) : (Op.equalIn (d + 1) e (.int k a) (.int k b)).run P w = .ok (decide (a = b)) w := run_equalIn_int w d e k k a b hu
theorem eq_bool {e : TypeId} {a b : Bool} (hu : P.underlying e = some .bool) : (Op.equalIn (d + 1) e (.bool a) (.bool b)).run P w = .ok (decide (a = b)) w := by
  rw [run_equalIn_bool w d e a b hu]
  cases a <;> cases b <;> rfl
end
end Go.Proofs.Ytpmihnobeicjmaa
