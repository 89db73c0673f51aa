/- Errors: '==' between two errors that are Codes; what Code and further answer. -/
import Derived.Test.YtfapagbeimgbaaaBase
import Derived.LaidEql
import Derived.WideLaws
namespace Go.Proofs.Ytfapagbeimgbaaa
open Go.RowKit
set_option linter.unusedVariables false

/-- An error that is the Code c. -/
def errV (c : Int) : Value := .iface 34 (.int .i64 c)

theorem eq_iface_int {P : Program} (w : World) {ti tn : TypeId} {ms : Array (String × TypeId)} {i : TypeInfo} {k : IntKind} (a b : Int)
    (hi : P.underlying ti = some (.interface ms)) (hn : P.underlying tn = some (.int k)) (hinfo : P.info? tn = some i) (hcomp : i.comparable = true) :
    (binOp .eql ti (.iface tn (.int k a)) (.iface tn (.int k b))).run P w = .ok (.bool (a == b)) w := by
  have h : ∀ d : Nat, (Op.equalIn (d + 2) ti (.iface tn (.int k a)) (.iface tn (.int k b))).run P w = .ok (a == b) w := fun d => by
    simp [Op.equalIn, run_underlying hi, run_underlying hn, typeInfo, hinfo, hcomp]
  simp only [binOp]
  simp [Op.equal, Op.maxDepth, h 9998]

theorem info_code : (Try.prog.info? 34).map (fun i => i.comparable) = some true := by kernel_rfl
theorem eq_err (a b : Int) (w : World) : (binOp .eql 25 (.iface 34 (.int .i64 a)) (.iface 34 (.int .i64 b))).run Try.prog w = .ok (.bool (a == b)) w := by
  have h := info_code
  cases hi : Try.prog.info? 34 with
  | none => rw [hi] at h; simp at h
  | some i => rw [hi] at h; exact eq_iface_int w a b Try.underlying25 Try.underlying34 hi (by simpa using h)

set_option maxHeartbeats 1000000 in
theorem further_ok (c : Int) (h0 : 12 ≤ c) (h1 : c ≤ 19) (w : World) :
    Calls Try.prog 12 #[.iface 34 (.int .i64 c)] w fun e w' => e = .returned (.int .i64 c) ∧ w = w' := by
  have he := fun (a b : Int) (w : World) => eq_err a b w
  go_enter Try.func12, Try.ntmps12
  go_wp2
  all_goals
    go_ret
    exact ⟨ret_eq (congrArg (Value.int .i64) (by have h := ‹(c == _) = true›; simp at h; omega)), rfl⟩

set_option maxHeartbeats 1000000 in
theorem code_err (c : Int) (h0 : 1 ≤ c) (h1 : c ≤ 19) (w : World) :
    Calls Try.prog 10 #[.iface 34 (.int .i64 c)] w fun e w' => e = .returned (.int .i64 c) ∧ w = w' := by
  have he := fun (a b : Int) (w : World) => eq_err a b w
  go_enter Try.func10, Try.ntmps10
  by_cases h : 12 ≤ c
  · go_wp2_with (go_at_call 12; refine (further_ok _ (by omega) (by omega) _).mono ?_; rintro e w' ⟨rfl, rfl⟩)
    go_ret
    exact ⟨rfl, rfl⟩
  · go_wp2
    all_goals
      go_ret
      exact ⟨ret_eq (congrArg (Value.int .i64) (by have h := ‹(c == _) = true›; simp at h; omega)), rfl⟩

set_option maxHeartbeats 1000000 in
theorem code_nil (w : World) :
    Calls Try.prog 10 #[.nilIface] w fun e w' => e = .returned (.int .i64 0) ∧ w = w' := by
  go_enter Try.func10, Try.ntmps10
  go_wp2
  go_ret
  exact ⟨rfl, rfl⟩
/-- An error or none, as its number; 0: none. -/
def errOf (c : Int) : Value := if c = 0 then .nilIface else errV c
theorem errOf_zero : errOf 0 = .nilIface := rfl
theorem errOf_pos {c : Int} (h : c ≠ 0) : errOf c = .iface 34 (.int .i64 c) := by unfold errOf errV; rw [if_neg h]
theorem code_any (c : Int) (h0 : 0 ≤ c) (h1 : c ≤ 19) (w : World) :
    Calls Try.prog 10 #[errOf c] w fun e w' => e = .returned (.int .i64 c) ∧ w = w' := by
  by_cases h : c = 0
  · subst h
    exact code_nil w
  · rw [errOf_pos h]
    exact code_err c (by omega) h1 w
end Go.Proofs.Ytfapagbeimgbaaa
