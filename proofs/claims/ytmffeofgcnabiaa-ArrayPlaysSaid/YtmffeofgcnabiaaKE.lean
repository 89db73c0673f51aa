/- What the stepper's stops at comparisons of errors are met with. -/
import Derived.Test.YtmffeofgcnabiaaK
import Derived.Test.YtmffeofgcnabiaaErr
namespace Go.Proofs.Ytmffeofgcnabiaa
set_option linter.unusedVariables false
section
variable {w : World} {K : Value → World → Prop} {c k : Int} {vx : Value} {x y : Operand} {u : Value}
theorem Ru.eql_nil (hx : vx = errOf c) (h : K (.bool (decide (c = 0))) w) : Ru Try.prog (do eqGuard .eql 27 x (.const u) vx .nilIface; binOp .eql 27 vx .nilIface) w K := by
  subst hx
  exact ⟨_, _, by simp only [Sem.run_bind, guard_errOf_eql, Result.andThen_ok]; exact eql_errOf_nil c w, h⟩
theorem Ru.neq_nil (hx : vx = errOf c) (h : K (.bool (!decide (c = 0))) w) : Ru Try.prog (do eqGuard .neq 27 x (.const u) vx .nilIface; binOp .neq 27 vx .nilIface) w K := by
  subst hx
  exact ⟨_, _, by simp only [Sem.run_bind, guard_errOf_neq, Result.andThen_ok]; exact neq_errOf_nil c w, h⟩
theorem Ru.eql_err (hx : vx = errOf c) (hk : k ≠ 0) (h : K (.bool (decide (c = k))) w) : Ru Try.prog (do eqGuard .eql 27 x y vx (.iface 37 (.int .i64 k)); binOp .eql 27 vx (.iface 37 (.int .i64 k))) w K := by
  subst hx
  exact ⟨_, _, by simp only [Sem.run_bind, guard_errOf_err, Result.andThen_ok]; exact eql_errOf_err c k hk w, h⟩
theorem Ru.neq_err (hx : vx = errOf c) (hk : k ≠ 0) (h : K (.bool (!decide (c = k))) w) : Ru Try.prog (do eqGuard .neq 27 x y vx (.iface 37 (.int .i64 k)); binOp .neq 27 vx (.iface 37 (.int .i64 k))) w K := by
  subst hx
  exact ⟨_, _, by simp only [Sem.run_bind, guard_errOf_err, Result.andThen_ok]; exact neq_errOf_err c k hk w, h⟩
theorem Ru.neq_nil0 (h : K (.bool false) w) : Ru Try.prog (do eqGuard .neq 27 x (.const u) .nilIface .nilIface; binOp .neq 27 .nilIface .nilIface) w K := Ru.neq_nil (c := 0) rfl h
theorem Ru.neq_nil1 (hc : c ≠ 0) (h : K (.bool true) w) : Ru Try.prog (do eqGuard .neq 27 x (.const u) (.iface 37 (.int .i64 c)) .nilIface; binOp .neq 27 (.iface 37 (.int .i64 c)) .nilIface) w K := Ru.neq_nil (c := c) (errOf_pos hc).symm (by rw [show (decide (c = 0)) = false from decide_eq_false hc]; exact h)
theorem Ru.eql_nil0 (h : K (.bool true) w) : Ru Try.prog (do eqGuard .eql 27 x (.const u) .nilIface .nilIface; binOp .eql 27 .nilIface .nilIface) w K := Ru.eql_nil (c := 0) rfl h
theorem Ru.eql_nil1 (hc : c ≠ 0) (h : K (.bool false) w) : Ru Try.prog (do eqGuard .eql 27 x (.const u) (.iface 37 (.int .i64 c)) .nilIface; binOp .eql 27 (.iface 37 (.int .i64 c)) .nilIface) w K := Ru.eql_nil (c := c) (errOf_pos hc).symm (by rw [show (decide (c = 0)) = false from decide_eq_false hc]; exact h)
theorem Ru.eql_errs (hc : c ≠ 0) (hk : k ≠ 0) (h : K (.bool (decide (c = k))) w) : Ru Try.prog (do eqGuard .eql 27 x y (.iface 37 (.int .i64 c)) (.iface 37 (.int .i64 k)); binOp .eql 27 (.iface 37 (.int .i64 c)) (.iface 37 (.int .i64 k))) w K := Ru.eql_err (errOf_pos hc).symm hk h
theorem Ru.eql_err0 (hk : k ≠ 0) (h : K (.bool false) w) : Ru Try.prog (do eqGuard .eql 27 x y .nilIface (.iface 37 (.int .i64 k)); binOp .eql 27 .nilIface (.iface 37 (.int .i64 k))) w K := Ru.eql_err (c := 0) rfl hk (by rw [show (decide ((0 : Int) = k)) = false from decide_eq_false (fun e => hk e.symm)]; exact h)
theorem Ru.neq_errs (hc : c ≠ 0) (hk : k ≠ 0) (h : K (.bool (!decide (c = k))) w) : Ru Try.prog (do eqGuard .neq 27 x y (.iface 37 (.int .i64 c)) (.iface 37 (.int .i64 k)); binOp .neq 27 (.iface 37 (.int .i64 c)) (.iface 37 (.int .i64 k))) w K := Ru.neq_err (errOf_pos hc).symm hk h
theorem Ru.neq_err0 (hk : k ≠ 0) (h : K (.bool true) w) : Ru Try.prog (do eqGuard .neq 27 x y .nilIface (.iface 37 (.int .i64 k)); binOp .neq 27 .nilIface (.iface 37 (.int .i64 k))) w K := Ru.neq_err (c := 0) rfl hk (by rw [show (decide ((0 : Int) = k)) = false from decide_eq_false (fun e => hk e.symm)]; exact h)
end
theorem RuQ.from {P : Program} {C : World → Prop} {s : Sem Value} {V : Value} {K : Value → Prop} (h : ∀ w, Ru P s w fun v w' => v = V ∧ w = w') (k : K V) : RuQ P C s K := ⟨V, fun w _ => by
  obtain ⟨v, w', h1, rfl, rfl⟩ := (h w).ex
  exact h1, k⟩
section
variable {C : World → Prop} {K : Value → Prop} {c : Int} {vx : Value} {x : Operand} {u : Value}
theorem RuQ.eql_nil (hx : vx = errOf c) (h : K (.bool (decide (c = 0)))) : RuQ Try.prog C (do eqGuard .eql 27 x (.const u) vx .nilIface; binOp .eql 27 vx .nilIface) K := RuQ.from (fun w => Ru.eql_nil (K := fun v w' => v = .bool (decide (c = 0)) ∧ w = w') hx ⟨rfl, rfl⟩) h
theorem RuQ.neq_nil (hx : vx = errOf c) (h : K (.bool (!decide (c = 0)))) : RuQ Try.prog C (do eqGuard .neq 27 x (.const u) vx .nilIface; binOp .neq 27 vx .nilIface) K := RuQ.from (fun w => Ru.neq_nil (K := fun v w' => v = .bool (!decide (c = 0)) ∧ w = w') hx ⟨rfl, rfl⟩) h
theorem RuQ.eql_nil0 (h : K (.bool true)) : RuQ Try.prog C (do eqGuard .eql 27 x (.const u) .nilIface .nilIface; binOp .eql 27 .nilIface .nilIface) K := RuQ.eql_nil (c := 0) rfl h
theorem RuQ.neq_nil0 (h : K (.bool false)) : RuQ Try.prog C (do eqGuard .neq 27 x (.const u) .nilIface .nilIface; binOp .neq 27 .nilIface .nilIface) K := RuQ.neq_nil (c := 0) rfl h
end
end Go.Proofs.Ytmffeofgcnabiaa
