/- The builtin copy into a block that is known whole. -/
import Derived.Test.YtmffeofgcnabiaaLy
import Derived.Laws.CopyRow
import Derived.Lib.BufferWrite
namespace Go.Proofs.Ytmffeofgcnabiaa
open Go.RowKit
set_option linter.unusedVariables false
/-- f, but m cells from o on are s. -/
def lay (f : Nat → Value) (o m : Nat) (s : Nat → Value) : Nat → Value := fun j => if o ≤ j ∧ j < o + m then s (j - o) else f j
theorem lay_list (n o m : Nat) (f s : Nat → Value) (h : o + m ≤ n) :
    (((Array.range n).map f).toList.take o ++ (List.range m).map s ++ ((Array.range n).map f).toList.drop (o + m)).toArray = (Array.range n).map (lay f o m s) := by
  apply Array.ext_getElem?
  intro j
  rw [List.getElem?_toArray]
  by_cases h1 : j < o
  · rw [List.append_assoc, List.getElem?_append_left (by simp; omega), List.getElem?_take, if_pos h1]
    have hn : j < n := by omega
    simp [lay, hn]
    omega
  · by_cases h2 : j < o + m
    · rw [List.getElem?_append_left (by simp; omega), List.getElem?_append_right (by simp; omega)]
      have e1 : (((Array.range n).map f).toList.take o).length = o := by simp; omega
      rw [e1, List.getElem?_map, List.getElem?_range (by omega)]
      have hn : j < n := by omega
      have h3 : o ≤ j ∧ j < o + m := ⟨by omega, h2⟩
      simp [lay, hn, h3]
    · rw [List.getElem?_append_right (by simp; omega)]
      have e1 : (((Array.range n).map f).toList.take o ++ (List.range m).map s).length = o + m := by simp; omega
      rw [e1, List.getElem?_drop, show o + m + (j - (o + m)) = j from by omega]
      by_cases hn : j < n
      · have h3 : ¬ (o ≤ j ∧ j < o + m) := by omega
        simp [lay, hn, h3]
      · simp [hn]
section
variable {P : Program} {w : World} {dT sT ty elem : TypeId} {g o dLen dCap n : Nat} {t : TypeId} {f s : Nat → Value}
theorem run_copy_rd (hu : P.underlying dT = some (.slice elem)) (hs : (P.info? elem).map (·.size) = some 1) (hr : Row w g t n f)
    (A : Option Addr) (sLen sCap m : Nat) (hm : m = Nat.min sLen dLen) (ha : Rd w A m s) (hA : A = none → sLen = 0 ∧ sCap = 0) (hfit : o + m ≤ n) (h1 : ∀ j, j < m → (s j).oneCell' = true) :
    ∃ w', (Builtin.copy_ #[dT, sT] ty #[.slice (some ⟨g, o, none⟩) dLen dCap, .slice A sLen sCap]).run P w = .ok (goInt m) w' ∧ Row w' g t n (lay f o m s) ∧ Keep [g] w w' := by
  by_cases h0 : m = 0
  · subst h0
    refine ⟨w, run_copy_none (P := P) w dT sT ty elem _ A dLen dCap sLen sCap hu hs hm.symm, hr.congr (fun j hj => ?_), Keep.refl _ _⟩
    unfold lay
    rw [if_neg (by omega)]
  · obtain ⟨b, q, rfl, hc⟩ := ha (by omega)
    have hrun := run_copy_row (P := P) w dT sT ty elem g o dLen dCap ⟨b, q, none⟩ sLen sCap _ t ((List.range m).map s) hu hs hr (by simpa using hm) (fun j v hv => by
      have hj : j < m := by
        have := (List.getElem?_eq_some_iff.1 hv).1
        simpa using this
      rw [of_add rfl]
      have e : s j = v := by
        simp [hj] at hv
        exact hv
      rw [← e]
      exact hc j hj) (by simpa using hfit) (fun v hv => by
      simp at hv
      obtain ⟨j, hj, rfl⟩ := hv
      exact h1 j hj)
    simp only [List.length_map, List.length_range] at hrun
    rw [lay_list n o m f s hfit] at hrun
    exact ⟨_, hrun, setRow_heap w g _ _ t _ hr, ⟨rfl, rfl, rfl, by simp, fun k _ hk => setRow_other w g k _ (fun e => hk (by rw [e]; exact List.mem_singleton.2 rfl))⟩⟩
theorem run_copy_str (hu : P.underlying dT = some (.slice elem)) (hs : (P.info? elem).map (·.size) = some 1) (hr : Row w g t n f)
    (x : ByteArray) (hle : x.size ≤ dLen) (hfit : o + x.size ≤ n) :
    ∃ w', (Builtin.copy_ #[dT, sT] ty #[.slice (some ⟨g, o, none⟩) dLen dCap, .string x]).run P w = .ok (goInt x.size) w' ∧ Row w' g t n (lay f o x.size (fun j => .int .u8 ((x.data.toList.getD j 0).toNat : Int))) ∧ Keep [g] w w' := by
  have hrun := Lib.run_copy_row_string (P := P) w dT sT ty elem g o dLen dCap x _ t hu hs hr hle (by simpa using hfit)
  have e : Lib.byteCells x.data.toList = (List.range x.size).map (fun j => Value.int .u8 ((x.data.toList.getD j 0).toNat : Int)) := by
    apply List.ext_getElem?
    intro j
    have hsz : x.data.toList.length = x.size := by simp
    by_cases hj : j < x.size
    · have h2 : j < x.data.toList.length := by omega
      simp [Lib.byteCells, hj]
    · have h2 : x.data.toList.length ≤ j := by omega
      rw [List.getElem?_eq_none (by simp [Lib.byteCells]; omega), List.getElem?_eq_none (by simp; omega)]
  rw [e, lay_list n o x.size f _ hfit] at hrun
  exact ⟨_, hrun, setRow_heap w g _ _ t _ hr, ⟨rfl, rfl, rfl, by simp, fun k _ hk => setRow_other w g k _ (fun e => hk (by rw [e]; exact List.mem_singleton.2 rfl))⟩⟩
theorem wpList_copy_rd {ops : Array Oper} {rest : List Oper} {op : Oper} {a : Act} {Q : Exit → Act → World → Prop} (hgd : op.guard = none) (d x : Operand)
    (ho : op.op = .call { callee := .builtin .copy, args := #[d, x], argTypes := #[dT, sT] })
    (hu : P.underlying dT = some (.slice elem)) (hs : (P.info? elem).map (·.size) = some 1) (hd : a.eval d = .slice (some ⟨g, o, none⟩) dLen dCap) (hr : Row w g t n f)
    (A : Option Addr) (sLen sCap m : Nat) (hx : a.eval x = .slice A sLen sCap) (hm : m = Nat.min sLen dLen) (ha : Rd w A m s) (hA : A = none → sLen = 0 ∧ sCap = 0) (hfit : o + m ≤ n) (h1 : ∀ j, j < m → (s j).oneCell' = true)
    (h : ∀ w', Row w' g t n (lay f o m s) → Keep [g] w w' → wpList P ops Q rest (a.put op.dst (goInt m)) w') : wpList P ops Q (op :: rest) a w := by
  refine wpList_plain hgd fun K hK => ?_
  obtain ⟨w', hrun, h2, h3⟩ := run_copy_rd (P := P) (sT := sT) (ty := op.type) (dLen := dLen) (dCap := dCap) hu hs hr A sLen sCap m hm ha hA hfit h1
  unfold Oper.wp execOp
  simp only [ho, resolve, invoke, builtin, Sem.run_bind, Sem.run_pure, Result.andThen_ok, List.map_toArray, List.map_cons, List.map_nil, hd, hx, hrun]
  exact hK _ _ (h w' h2 h3)
theorem wpList_copy_str {ops : Array Oper} {rest : List Oper} {op : Oper} {a : Act} {Q : Exit → Act → World → Prop} (hgd : op.guard = none) (d x : Operand)
    (ho : op.op = .call { callee := .builtin .copy, args := #[d, x], argTypes := #[dT, sT] })
    (hu : P.underlying dT = some (.slice elem)) (hs : (P.info? elem).map (·.size) = some 1) (hd : a.eval d = .slice (some ⟨g, o, none⟩) dLen dCap) (hr : Row w g t n f)
    (y : ByteArray) (hx : a.eval x = .string y) (hle : y.size ≤ dLen) (hfit : o + y.size ≤ n)
    (h : ∀ w', Row w' g t n (lay f o y.size (fun j => .int .u8 ((y.data.toList.getD j 0).toNat : Int))) → Keep [g] w w' → wpList P ops Q rest (a.put op.dst (goInt y.size)) w') : wpList P ops Q (op :: rest) a w := by
  refine wpList_plain hgd fun K hK => ?_
  obtain ⟨w', hrun, h2, h3⟩ := run_copy_str (P := P) (sT := sT) (ty := op.type) (dLen := dLen) (dCap := dCap) hu hs hr y hle hfit
  unfold Oper.wp execOp
  simp only [ho, resolve, invoke, builtin, Sem.run_bind, Sem.run_pure, Result.andThen_ok, List.map_toArray, List.map_cons, List.map_nil, hd, hx, hrun]
  exact hK _ _ (h w' h2 h3)
end
theorem byte_size : (Try.prog.info? 5).map (·.size) = some 1 := by kernel_rfl
end Go.Proofs.Ytmffeofgcnabiaa
