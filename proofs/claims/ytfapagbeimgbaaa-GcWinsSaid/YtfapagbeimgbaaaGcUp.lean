/- The examples at the head of the statements of layer 14. -/
import Derived.Test.YtfapagbeimgbaaaGcRef
namespace Go.Proofs.Ytfapagbeimgbaaa
open Go.RowKit
set_option linter.unusedVariables false
def upS : Nat → Int := fun j => ([2, 2, 1, 0, 0, 0, 0, 0, 0, 0, 0, 0] : List Int).getD j 0
def upL : Nat → Int := fun j => ([3, 1, 0, 0, 0, 0, 0, 0, 0, 0, 0, 0] : List Int).getD j 0
theorem up_choose : chooseV upS upL = .tuple #[.int .i64 1, .nilIface] := by
  have h : bestOf upS upL 12 = 1 := by decide
  rw [chooseV_some (by rw [h]; decide), h]
theorem up_gain : gainV upS upL = .tuple #[.int .i64 5, .nilIface] := by
  have h : bestOf upS upL 12 = 1 := by decide
  rw [gainV_some (by rw [h]; decide), h]
  rfl
set_option maxHeartbeats 1000000 in
theorem up_ok (w : World) : Calls Try.prog 5 #[] w fun e w' => e = .returned (.bool true) ∧ Keep [] w w' := by
  have hmk : ∀ w, (Instr.makeSlice 22 (.int .i64 12) (.int .i64 12)).run Try.prog w = .ok (.slice (some ⟨w.heap.size, 0, none⟩) 12 12) (w.alloc (.cells #[.int .i64 0, .int .i64 0, .int .i64 0, .int .i64 0, .int .i64 0, .int .i64 0, .int .i64 0, .int .i64 0, .int .i64 0, .int .i64 0, .int .i64 0, .int .i64 0] 3)) := fun w => by kernel_rfl
  go_enter Try.func5, Try.ntmps5
  go_wp2_with fail
  refine (choose_ok w.heap.size 0 (w.heap.size + 1) 0 12 12 upS upL _ (by exact fun j hj => cell_list [2, 2, 1, 0, 0, 0, 0, 0, 0, 0, 0, 0] (below2 w _ _) j hj) (by exact fun j hj => cell_list [3, 1, 0, 0, 0, 0, 0, 0, 0, 0, 0, 0] (below1 w _ _) j hj)).mono ?_
  rintro e w' ⟨rfl, n, rfl⟩
  rw [up_choose]
  go_wp2_with fail
  refine (gain_ok w.heap.size 0 (w.heap.size + 1) 0 12 12 upS upL _ (by exact fun j hj => cell_list [2, 2, 1, 0, 0, 0, 0, 0, 0, 0, 0, 0] (below2 w _ _) j hj) (by exact fun j hj => cell_list [3, 1, 0, 0, 0, 0, 0, 0, 0, 0, 0, 0] (below1 w _ _) j hj)).mono ?_
  rintro e w' ⟨rfl, n', rfl⟩
  rw [up_gain]
  go_wp2
  go_ret
  exact ⟨rfl, (((Keep.refl _ _).alloc _).alloc _).drewN _⟩
end Go.Proofs.Ytfapagbeimgbaaa
