/- Errors: '==' between two errors that are Codes; what Code and further answer. -/
import Derived.Test.YtmffeofgcnabiaaBase
import Derived.LaidEql
import Derived.WideLaws
namespace Go.Proofs.Ytmffeofgcnabiaa
open Go.RowKit
set_option linter.unusedVariables false

/-- An error that is the Code c. -/
def errV (c : Int) : Value := .iface 37 (.int .i64 c)

theorem eq_iface_int {P : Program} (w : World) {ti tn : TypeId} {ms : Array (String × TypeId)} {i : TypeInfo} {k : IntKind} (a b : Int)
    (hi : P.underlying ti = some (.interface ms)) (hn : P.underlying tn = some (.int k)) (hinfo : P.info? tn = some i) (hcomp : i.comparable = true) :
    (binOp .eql ti (.iface tn (.int k a)) (.iface tn (.int k b))).run P w = .ok (.bool (a == b)) w := by
  have h : ∀ d : Nat, (Op.equalIn (d + 2) ti (.iface tn (.int k a)) (.iface tn (.int k b))).run P w = .ok (a == b) w := fun d => by
    simp [Op.equalIn, run_underlying hi, run_underlying hn, typeInfo, hinfo, hcomp]
  simp only [binOp]
  simp [Op.equal, Op.maxDepth, h 9998]

theorem info_code : (Try.prog.info? 37).map (fun i => i.comparable) = some true := by kernel_rfl
theorem eq_err (a b : Int) (w : World) : (binOp .eql 27 (.iface 37 (.int .i64 a)) (.iface 37 (.int .i64 b))).run Try.prog w = .ok (.bool (a == b)) w := by
  have h := info_code
  cases hi : Try.prog.info? 37 with
  | none => rw [hi] at h; simp at h
  | some i => rw [hi] at h; exact eq_iface_int w a b Try.underlying27 Try.underlying37 hi (by simpa using h)

/-- An error or none, as its number; 0: none. -/
def errOf (c : Int) : Value := if c = 0 then .nilIface else errV c
theorem errOf_zero : errOf 0 = .nilIface := rfl
theorem errOf_pos {c : Int} (h : c ≠ 0) : errOf c = .iface 37 (.int .i64 c) := by unfold errOf errV; rw [if_neg h]

theorem eql_errOf_nil (c : Int) (w : World) : (binOp .eql 27 (errOf c) .nilIface).run Try.prog w = .ok (.bool (c == 0)) w := by
  by_cases h : c = 0
  · subst h
    exact run_eql_nil_nil w 27 (by kernel_rfl)
  · rw [errOf_pos h, run_eql_held_nil w 27 _ _ (by kernel_rfl)]
    simp [h]
theorem neq_errOf_nil (c : Int) (w : World) : (binOp .neq 27 (errOf c) .nilIface).run Try.prog w = .ok (.bool (c != 0)) w := by
  by_cases h : c = 0
  · subst h
    exact run_neq_nil_nil w 27 (by kernel_rfl)
  · rw [errOf_pos h, run_neq_held_nil w 27 _ _ (by kernel_rfl)]
    simp [h]
theorem guard_errOf_eql (c : Int) (x : Operand) (v : Value) (w : World) : (eqGuard .eql 27 x (.const v) (errOf c) .nilIface).run Try.prog w = .ok () w := by
  by_cases h : c = 0
  · subst h
    simp [eqGuard, errOf_zero]
  · rw [errOf_pos h]
    simp [eqGuard]
theorem guard_errOf_neq (c : Int) (x : Operand) (v : Value) (w : World) : (eqGuard .neq 27 x (.const v) (errOf c) .nilIface).run Try.prog w = .ok () w := by
  by_cases h : c = 0
  · subst h
    simp [eqGuard, errOf_zero]
  · rw [errOf_pos h]
    simp [eqGuard]
theorem neq_err (a b : Int) (w : World) : (binOp .neq 27 (.iface 37 (.int .i64 a)) (.iface 37 (.int .i64 b))).run Try.prog w = .ok (.bool (a != b)) w := by
  have h := eq_err a b w
  simp only [binOp] at h ⊢
  cases hr : (Op.equal 27 (.iface 37 (.int .i64 a)) (.iface 37 (.int .i64 b))).run Try.prog w with
  | ok x w' =>
    simp [hr] at h
    obtain ⟨rfl, rfl⟩ := h
    simp [hr, bne]
  | halt h2 w' => simp [hr] at h
theorem eql_errOf_err (c k : Int) (hk : k ≠ 0) (w : World) : (binOp .eql 27 (errOf c) (.iface 37 (.int .i64 k))).run Try.prog w = .ok (.bool (c == k)) w := by
  by_cases h : c = 0
  · subst h
    rw [errOf_zero, run_eql_iface_nil_left w _ _ Try.underlying27]
    have : ¬ (0 : Int) = k := fun e => hk e.symm
    simp [this]
  · rw [errOf_pos h]
    exact eq_err c k w
theorem neq_errOf_err (c k : Int) (hk : k ≠ 0) (w : World) : (binOp .neq 27 (errOf c) (.iface 37 (.int .i64 k))).run Try.prog w = .ok (.bool (c != k)) w := by
  by_cases h : c = 0
  · subst h
    have h2 := run_eql_iface_nil_left (P := Try.prog) w 37 (.int .i64 k) Try.underlying27
    have h3 : ¬ (0 : Int) = k := fun e => hk e.symm
    rw [errOf_zero]
    simp only [binOp] at h2 ⊢
    cases hr : (Op.equal 27 .nilIface (.iface 37 (.int .i64 k))).run Try.prog w with
    | ok x w' =>
      simp [hr] at h2
      obtain ⟨rfl, rfl⟩ := h2
      simp [hr, h3]
    | halt h4 w' => simp [hr] at h2
  · rw [errOf_pos h]
    exact neq_err c k w
theorem guard_errOf_err (op : BinOp) (c k : Int) (x y : Operand) (w : World) : (eqGuard op 27 x y (errOf c) (.iface 37 (.int .i64 k))).run Try.prog w = .ok () w := by
  by_cases h : c = 0
  · subst h
    cases op <;> simp [eqGuard, errOf_zero]
  · rw [errOf_pos h]
    cases op <;> simp [eqGuard]
attribute [go_sem] neq_err eql_errOf_err neq_errOf_err guard_errOf_err
attribute [go_sem] eq_err eql_errOf_nil neq_errOf_nil guard_errOf_eql guard_errOf_neq
end Go.Proofs.Ytmffeofgcnabiaa
