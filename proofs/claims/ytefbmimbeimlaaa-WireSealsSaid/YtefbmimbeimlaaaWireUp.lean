/- The examples at the head of the statements of layer 3. -/
import Derived.Test.YtefbmimbeimlaaaWireRef
import Derived.Test.YtefbmimbeimlaaaSame
namespace Go.Proofs.Ytefbmimbeimlaaa
open Go.RowKit
set_option linter.unusedVariables false
theorem rd_list {w : World} {g : Nat} {t : TypeId} {k : IntKind} (l : List Int) (h : w.heap[g]? = some (.cells (l.map (Value.int k)).toArray t (0, 0))) : Rd w (some ⟨g, 0, none⟩) l.length (fun j => .int k (l.getD j 0)) := fun _ =>
  ⟨g, 0, rfl, fun j hj => cell_list l h j hj⟩
theorem list_bd (l : List Int) (h : ∀ x ∈ l, 0 ≤ x ∧ x ≤ 255) (j : Nat) : 0 ≤ l.getD j 0 ∧ l.getD j 0 ≤ 255 := by
  rw [List.getD_eq_getElem?_getD]
  by_cases hj : j < l.length
  · rw [List.getElem?_eq_getElem hj]
    exact h _ (List.getElem_mem hj)
  · rw [List.getElem?_eq_none (by omega)]
    decide
set_option maxHeartbeats 1000000 in
theorem shown_ok (w : World) : Calls Try.prog 8 #[] w fun e w' => e = .returned (.bool true) ∧ Keep [] w w' := by
  have he := fun (a b : Int) (w : World) => eq_err a b w
  have n1 : numOf (fun j => ([2, 1, 0] : List Int).getD j 0) 3 = 258 := by decide
  have n2 : apartOf (fun j => ([1, 2, 3] : List Int).getD j 0) (fun j => ([1, 5, 4] : List Int).getD j 0) 3 = 2 := by decide
  have n3 : sameB 3 3 (byteOf 258) (fun j => ([2, 1, 0] : List Int).getD j 0) = true := sameB_yes rfl (fun j hj => by
    have : j = 0 ∨ j = 1 ∨ j = 2 := by omega
    rcases this with rfl | rfl | rfl <;> decide)
  have N1 := Lib.hid n1; have N2 := Lib.hid n2; have N3 := Lib.hid n3
  clear n1 n2 n3
  go_enter Try.func8, Try.ntmps8
  go_wp2_with fail
  refine (put_any 258 3 _ (by omega) (by omega) (by omega) (by omega)).mono ?_
  rintro e w1 ⟨k1, ⟨_, rfl, R1⟩ | ⟨h, _⟩⟩
  · go_wp2_with fail
    refine (get_ok _ 3 3 (fun j => ([2, 1, 0] : List Int).getD j 0) _ (by exact rd_list [2, 1, 0] (heap_alloc_new _ _)) (list_bd _ (by decide)) (by omega) (by omega)).mono ?_
    rintro e w2 ⟨rfl, hw⟩
    rw [N1.out]
    have R2 : Row w2 w.heap.size 5 3 (fun j => .int .u8 (byteOf 258 j)) := by rw [← hw]; exact R1.alloc _
    have k2 : Keep [] w w2 := by rw [← hw]; exact k1.alloc _
    clear hw R1 k1
    go_wp2_with fail
    refine (put_any 256 1 _ (by omega) (by omega) (by omega) (by omega)).mono ?_
    rintro e w3 ⟨k3, ⟨h, _⟩ | ⟨_, rfl⟩⟩
    · exact absurd h (by decide)
    · have R3 := R2.keep k3 (by simp)
      have k4 := k2.trans k3
      clear R2 k2 k3
      go_wp2_with fail
      refine (apart_ok _ _ 3 3 3 (fun j => ([1, 2, 3] : List Int).getD j 0) (fun j => ([1, 5, 4] : List Int).getD j 0) _ (by exact rd_list [1, 2, 3] (below2 _ _ _)) (by exact rd_list [1, 5, 4] (below1 _ _ _)) (by omega)).mono ?_
      rintro e w5 ⟨rfl, hw⟩
      rw [N2.out]
      have R5 : Row w5 w.heap.size 5 3 (fun j => .int .u8 (byteOf 258 j)) := by rw [← hw]; exact (R3.alloc _).alloc _
      have k5 : Keep [] w w5 := by rw [← hw]; exact (k4.alloc _).alloc _
      clear hw R3 k4
      go_wp2_with fail
      refine (same_ok _ _ 3 3 3 3 (byteOf 258) (fun j => ([2, 1, 0] : List Int).getD j 0) _ (by exact Rd.of_row (R5.alloc _) (Nat.le_refl _)) (by exact rd_list [2, 1, 0] (heap_alloc_new _ _)) (by decide) (by decide)).mono ?_
      rintro e w6 ⟨rfl, n, rfl⟩
      rw [N3.out]
      go_wp2
      go_ret
      exact ⟨rfl, (k5.alloc _).drewN _⟩
  · exact absurd (by decide) h
end Go.Proofs.Ytefbmimbeimlaaa
