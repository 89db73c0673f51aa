/- '==' of founds. -/
import Derived.Test.YtpmihnobeicjmaaEqS
import Derived.Test.YtpmihnobeicjmaaNext
namespace Go.Proofs.Ytpmihnobeicjmaa
set_option linter.unusedVariables false
theorem eq_tag (d : Nat) (f g : Fd) (w : World) : (Op.equalIn (d + 2) 26 (.agg (f.arr.extract 1 (1 + 5))) (.agg (g.arr.extract 1 (1 + 5)))).run Try.prog w = .ok (decide (f.tp = g.tp) && (decide (f.of = g.of) && (decide (f.seq = g.seq) && (decide (f.copy = g.copy) && (decide (f.lost = g.lost) && true))))) w := by
  refine eqA_of Try.underlying26 (by kernel_rfl) ?_
  refine eqf_cons (by decide +kernel) (part_cell (by kernel_rfl) rfl) (part_cell (by kernel_rfl) rfl) (eq_int Try.underlying3) ?_
  refine eqf_cons (by decide +kernel) (part_cell (by kernel_rfl) rfl) (part_cell (by kernel_rfl) rfl) (eq_int Try.underlying3) ?_
  refine eqf_cons (by decide +kernel) (part_cell (by kernel_rfl) rfl) (part_cell (by kernel_rfl) rfl) (eq_int Try.underlying2) ?_
  refine eqf_cons (by decide +kernel) (part_cell (by kernel_rfl) rfl) (part_cell (by kernel_rfl) rfl) (eq_int Try.underlying3) ?_
  refine eqf_cons (by decide +kernel) (part_cell (by kernel_rfl) rfl) (part_cell (by kernel_rfl) rfl) (eq_bool Try.underlying4) ?_
  exact eqf_nil
theorem eq_fd (d : Nat) (f g : Fd) (w : World) : (Op.equalIn (d + 3) 28 (.agg f.arr) (.agg g.arr)).run Try.prog w = .ok (decide (f = g)) w := by
  have e : decide (f = g) = (decide (f.place = g.place) && ((decide (f.tp = g.tp) && (decide (f.of = g.of) && (decide (f.seq = g.seq) && (decide (f.copy = g.copy) && (decide (f.lost = g.lost) && true))))) && true)) := by
    rw [Bool.eq_iff_iff]
    simp only [Bool.and_eq_true, decide_eq_true_eq, Bool.and_true]
    obtain ⟨a, b, c, d, e, f⟩ := f
    obtain ⟨a', b', c', d', e', f'⟩ := g
    simp
  rw [e]
  refine eqA_of Try.underlying28 (by kernel_rfl) ?_
  refine eqf_cons (by decide +kernel) (part_cell (by kernel_rfl) rfl) (part_cell (by kernel_rfl) rfl) (eq_int Try.underlying3) ?_
  refine eqf_cons (by decide +kernel) (part_agg Try.underlying26 rfl (by kernel_rfl)) (part_agg Try.underlying26 rfl (by kernel_rfl)) (eq_tag d f g w) ?_
  exact eqf_nil
theorem eql_fd (x y : Operand) (f g : Fd) (w : World) : (do eqGuard .eql 28 x y (.agg f.arr) (.agg g.arr); binOp .eql 28 (.agg f.arr) (.agg g.arr) : Sem Value).run Try.prog w = .ok (.bool (decide (f = g))) w := by
  rw [Sem.run_bind, run_eqGuard_agg w _ _ _ _ _ _ (by kernel_rfl), Result.andThen_ok, run_eql_struct, eq_fd 9997]
  rfl
theorem neq_fd (x y : Operand) (f g : Fd) (w : World) : (do eqGuard .neq 28 x y (.agg f.arr) (.agg g.arr); binOp .neq 28 (.agg f.arr) (.agg g.arr) : Sem Value).run Try.prog w = .ok (.bool (!decide (f = g))) w := by
  rw [Sem.run_bind, run_eqGuard_agg w _ _ _ _ _ _ (by kernel_rfl), Result.andThen_ok, run_neq_struct, eq_fd 9997]
  rfl
end Go.Proofs.Ytpmihnobeicjmaa
