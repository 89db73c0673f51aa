/- Arguments whose cells are whole numbers and bools (structs and arrays of such, nested): what kind each cell is. -/
import Derived.Test.YtpmihnobeicjmaaStructs
import Derived.OpenShut
namespace Go.Proofs.Ytpmihnobeicjmaa
open Go.RowKit Go.ChangeShapes Go.WideShapes Go.Deep
set_option linter.unusedVariables false
inductive Kd where
  | int (k : IntKind)
  | bool
deriving DecidableEq
def Kd.ok : Kd → Value → Prop
  | .int k, v => ∃ x, v = .int k x ∧ (Lit.int k x).wf = true
  | .bool, v => ∃ b, v = .bool b
/-- The kind of cell j of a type. -/
def kindAt (P : Program) : Nat → TypeId → Nat → Option Kd
  | 0, _, _ => none
  | n + 1, t, j => match P.underlying t with
    | some (.int k) => if j = 0 then some (.int k) else none
    | some .bool => if j = 0 then some .bool else none
    | some (.struct fs) => match fs.toList.find? (fun f => decide (f.offset ≤ j) && decide (j < f.offset + P.cellsOf f.type)) with
      | some f => kindAt P n f.type (j - f.offset)
      | none => none
    | some (.array m e) => if P.cellsOf e = 0 then none else if j / P.cellsOf e < m then kindAt P n e (j % P.cellsOf e) else none
    | _ => none
section
variable {H : Type} {enc : TypeId × Value → H} {P : Program} {W : World} {base : Nat} {spare : Nat → Bool} {held : Bool}
theorem kind_ok : ∀ (n : Nat) {t : TypeId} {j fuel : Nat} {cs : List Value} {x : DataW H × List MemPlace} {k : Kd}, DataW.trod enc P W base spare held fuel t cs = some x → kindAt P n t j = some k → j < cs.length → ∃ v, cs[j]? = some v ∧ k.ok v
  | 0, t, j, fuel, cs, x, k, h, hk, hj => by cases hk
  | n + 1, t, j, fuel, cs, x, k, h, hk, hj => by
    unfold kindAt at hk
    split at hk
    · rename_i kk hu
      split at hk
      · rename_i h0
        subst h0
        injection hk with hk
        subst hk
        obtain ⟨m, rfl, _, hw⟩ := DataW.trod_int hu h
        exact ⟨_, rfl, m, rfl, hw⟩
      · cases hk
    · rename_i hu
      split at hk
      · rename_i h0
        subst h0
        injection hk with hk
        subst hk
        obtain ⟨b, rfl, _⟩ := DataW.trod_bool hu h
        exact ⟨_, rfl, b, rfl⟩
      · cases hk
    · rename_i fs hu
      split at hk
      · rename_i f hf
        have h1 := List.find?_some hf
        simp only [Bool.and_eq_true, decide_eq_true_eq] at h1
        obtain ⟨i, hi⟩ := List.getElem?_of_mem (List.mem_of_find?_eq_some hf)
        have hi' : fs[i]? = some f := by simpa using hi
        obtain ⟨xs, m, _, _, hlen, hxl, hff⟩ := DataW.trod_struct hu h
        have h2 := hff i f hi'
        have hil : i < xs.length := by
          rw [hxl]
          exact (Array.getElem?_eq_some_iff.1 hi').1
        rw [List.getElem?_eq_getElem hil] at h2
        obtain ⟨v, hv, ho⟩ := kind_ok n h2 hk (by simp; omega)
        refine ⟨v, ?_, ho⟩
        rw [List.getElem?_take, if_pos (by omega), List.getElem?_drop] at hv
        rwa [show f.offset + (j - f.offset) = j from by omega] at hv
      · cases hk
    · rename_i m e hu
      split at hk
      · cases hk
      · rename_i hc
        split at hk
        · rename_i hjm
          obtain ⟨xs, m', _, _, hlen, hxl, hff⟩ := DataW.trod_array hu h
          have h2 := hff (j / P.cellsOf e) hjm
          rw [List.getElem?_eq_getElem (by omega)] at h2
          have hmod : j % P.cellsOf e < P.cellsOf e := Nat.mod_lt _ (by omega)
          have hdm : j / P.cellsOf e * P.cellsOf e + j % P.cellsOf e = j := by rw [Nat.mul_comm]; exact Nat.div_add_mod j _
          obtain ⟨v, hv, ho⟩ := kind_ok n h2 hk (by simp; omega)
          refine ⟨v, ?_, ho⟩
          rw [List.getElem?_take, if_pos hmod, List.getElem?_drop, hdm] at hv
          exact hv
        · cases hk
    · cases hk
/-- A slice of such elements that came in. -/
theorem slArg_flat {t e : TypeId} {a : Option Addr} {len cap C : Nat} {d : DataW H} {ps : List MemPlace} (ht : P.underlying t = some (.slice e)) (hC : P.cellsOf e = C) (h : DataW.Trod enc P W base spare held t (.slice a len cap) d ps) :
    len ≤ cap ∧ cap ≤ maxLen ∧ (a = none → cap = 0) ∧ ∃ F : Nat → Nat → Value, Rd W a (len * C) (fun q => F (q / C) (q % C)) ∧
      ∀ i, i < len → ∀ (j n : Nat) (k : Kd), j < C → kindAt P n e j = some k → k.ok (F i j) := by
  obtain ⟨fuel, hf⟩ := h
  rcases open_slice ht hf with ⟨hcs, _⟩ | ⟨x, l, c, m, n, D, Pl, hcs, _, hl, hm, hmm, _, hi⟩
  · simp [Value.cells] at hcs
    obtain ⟨rfl, rfl, rfl⟩ := hcs
    exact ⟨Nat.le_refl _, by simp [maxLen], fun _ => rfl, fun _ _ => .nilIface, by rw [Nat.zero_mul]; exact Rd.nil _ _ _, fun i h => absurd h (by omega)⟩
  · simp [Value.cells] at hcs
    obtain ⟨rfl, rfl, rfl⟩ := hcs
    have hlm : len ≤ m := by
      rw [hmm]
      split
      · exact hl
      · exact Nat.le_refl _
    refine ⟨hl, hm, fun h => by simp at h, fun i j => (W.cell? (x.add (i * C + j))).getD .nilIface, ?_, ?_⟩
    · intro hn
      have hC0 : 0 < C := by
        rcases Nat.eq_zero_or_pos C with h0 | h0
        · rw [h0] at hn; simp at hn
        · exact h0
      have hl0 : 0 < len := by
        rcases Nat.eq_zero_or_pos len with h0 | h0
        · rw [h0] at hn; simp at hn
        · exact h0
      have hsome : ∀ i, i < len → ∀ j, j < C → ∃ v, W.cell? (x.add (i * C + j)) = some v := by
        intro i h1 j h2
        obtain ⟨cs', hc, _⟩ := hi i (by omega)
        rw [hC] at hc
        obtain ⟨_, hcl, hat⟩ := World.cells?_some hc
        have := hat j h2
        rw [Go.Deep.add_add] at this
        rw [this]
        exact ⟨_, List.getElem?_eq_getElem (by omega)⟩
      obtain ⟨v0, h00⟩ := hsome 0 hl0 0 hC0
      have hs := spot_of_cell h00
      have hs2 : x.spot = none := by
        unfold Addr.add at hs
        simpa using hs
      refine ⟨x.block, x.off, ?_, fun q hq => ?_⟩
      · obtain ⟨b, o, s⟩ := x
        simp at hs2
        subst hs2
        rfl
      · have h1 : q / C < len := Nat.div_lt_of_lt_mul (by rw [Nat.mul_comm]; exact hq)
        have h2 : q % C < C := Nat.mod_lt _ hC0
        obtain ⟨v, hv⟩ := hsome (q / C) h1 (q % C) h2
        have e1 : q / C * C + q % C = q := by rw [Nat.mul_comm]; exact Nat.div_add_mod q C
        rw [e1] at hv
        rw [← of_add hs2 q]
        show _ = some ((W.cell? (x.add (q / C * C + q % C))).getD .nilIface)
        rw [e1, hv]
        rfl
    · intro i h1 j nn k hj hk
      obtain ⟨cs', hc, ht'⟩ := hi i (by omega)
      rw [hC] at hc
      obtain ⟨_, hcl, hat⟩ := World.cells?_some hc
      obtain ⟨v, hv, ho⟩ := kind_ok nn ht' hk (by omega)
      have h4 := hat j hj
      rw [Go.Deep.add_add, hv] at h4
      show k.ok ((W.cell? (x.add (i * C + j))).getD .nilIface)
      rw [h4]
      exact ho
/-- A value of such a type that came in. -/
theorem arg_flat {t : TypeId} {cs : Array Value} {d : DataW H} {ps : List MemPlace} (h : DataW.Trod enc P W base spare held t (.agg cs) d ps) : ∀ (j n : Nat) (k : Kd), j < cs.size → kindAt P n t j = some k → ∃ v, cs[j]? = some v ∧ k.ok v := by
  obtain ⟨fuel, hf⟩ := h
  intro j n k hj hk
  obtain ⟨v, hv, ho⟩ := kind_ok n hf hk (by simpa [Value.cells] using hj)
  exact ⟨v, by simpa [Value.cells] using hv, ho⟩
end
end Go.Proofs.Ytpmihnobeicjmaa
