/- What Code and further answer of an error. -/
import Derived.Test.YtmffeofgcnabiaaErr
namespace Go.Proofs.Ytmffeofgcnabiaa
open Go.RowKit
set_option linter.unusedVariables false

set_option maxHeartbeats 1000000 in
theorem further_ok (c : Int) (h0 : 12 ≤ c) (h1 : c ≤ 19) (w : World) :
    Calls Try.prog 31 #[.iface 37 (.int .i64 c)] w fun e w' => e = .returned (.int .i64 c) ∧ w = w' := by
  have he := fun (a b : Int) (w : World) => eq_err a b w
  go_enter Try.func31, Try.ntmps31
  go_wp2
  all_goals
    go_ret
    exact ⟨ret_eq (congrArg (Value.int .i64) (by have h := ‹(c == _) = true›; simp at h; omega)), rfl⟩

set_option maxHeartbeats 1000000 in
theorem code_err (c : Int) (h0 : 1 ≤ c) (h1 : c ≤ 19) (w : World) :
    Calls Try.prog 23 #[.iface 37 (.int .i64 c)] w fun e w' => e = .returned (.int .i64 c) ∧ w = w' := by
  have he := fun (a b : Int) (w : World) => eq_err a b w
  go_enter Try.func23, Try.ntmps23
  by_cases h : 12 ≤ c
  · go_wp2_with (go_at_call 31; refine (further_ok _ (by omega) (by omega) _).mono ?_; rintro e w' ⟨rfl, rfl⟩)
    go_ret
    exact ⟨rfl, rfl⟩
  · go_wp2
    all_goals
      go_ret
      exact ⟨ret_eq (congrArg (Value.int .i64) (by have h := ‹(c == _) = true›; simp at h; omega)), rfl⟩

set_option maxHeartbeats 1000000 in
theorem code_nil (w : World) :
    Calls Try.prog 23 #[.nilIface] w fun e w' => e = .returned (.int .i64 0) ∧ w = w' := by
  go_enter Try.func23, Try.ntmps23
  go_wp2
  go_ret
  exact ⟨rfl, rfl⟩
theorem code_any (c : Int) (h0 : 0 ≤ c) (h1 : c ≤ 19) (w : World) :
    Calls Try.prog 23 #[errOf c] w fun e w' => e = .returned (.int .i64 c) ∧ w = w' := by
  by_cases h : c = 0
  · subst h
    exact code_nil w
  · rw [errOf_pos h]
    exact code_err c (by omega) h1 w
end Go.Proofs.Ytmffeofgcnabiaa
