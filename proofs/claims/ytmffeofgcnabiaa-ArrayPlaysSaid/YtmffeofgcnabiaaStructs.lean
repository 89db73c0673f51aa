/- An argument that is a slice of structs of one-cell fields: its cells by element and field; its size. -/
import Derived.Test.YtmffeofgcnabiaaSlice
import Derived.Deep.Slices
import Derived.Deep.Fields
import Derived.ChangeSame
namespace Go.Proofs.Ytmffeofgcnabiaa
open Go.RowKit Go.ChangeShapes Go.WideShapes Go.Deep
set_option linter.unusedVariables false
section
variable {H : Type} {enc : TypeId × Value → H} {P : Program} {W : World} {base : Nat} {spare : Nat → Bool} {held : Bool} {t e : TypeId} {fs : Array Field} {a : Option Addr} {len cap C : Nat} {d : DataW H} {ps : List MemPlace}
theorem slArg_structs (ht : P.underlying t = some (.slice e)) (he : P.underlying e = some (.struct fs)) (hone : oneCellFields P fs = true) (hC : P.cellsOf e = C) (hfs : fs.size = C) (h : DataW.Trod enc P W base spare held t (.slice a len cap) d ps) :
    len ≤ cap ∧ cap ≤ maxLen ∧ (a = none → cap = 0) ∧ ∃ F : Nat → Nat → Value, Rd W a (len * C) (fun q => F (q / C) (q % C)) ∧
      ∀ i, i < len → ∀ (j : Nat) (f : Field), fs[j]? = some f → ∃ n y, DataW.trod enc P W base spare held n f.type [F i j] = some y := by
  obtain ⟨fuel, hf⟩ := h
  rcases open_slice ht hf with ⟨hcs, _⟩ | ⟨x, l, c, m, n, D, Pl, hcs, _, hl, hm, hmm, _, hi⟩
  · simp [Value.cells] at hcs
    obtain ⟨rfl, rfl, rfl⟩ := hcs
    exact ⟨Nat.le_refl _, by simp [maxLen], fun _ => rfl, fun _ _ => .nilIface, by rw [Nat.zero_mul]; exact Rd.nil _ _ _, fun i h => absurd h (by omega)⟩
  · simp [Value.cells] at hcs
    obtain ⟨rfl, rfl, rfl⟩ := hcs
    have hlm : len ≤ m := by
      rw [hmm]
      split
      · exact hl
      · exact Nat.le_refl _
    refine ⟨hl, hm, fun h => by simp at h, fun i j => (W.cell? (x.add (i * C + j))).getD .nilIface, ?_, ?_⟩
    · intro hn
      have hC0 : 0 < C := by
        rcases Nat.eq_zero_or_pos C with h0 | h0
        · rw [h0] at hn; simp at hn
        · exact h0
      have hl0 : 0 < len := by
        rcases Nat.eq_zero_or_pos len with h0 | h0
        · rw [h0] at hn; simp at hn
        · exact h0
      have hsome : ∀ i, i < len → ∀ j, j < C → ∃ v, W.cell? (x.add (i * C + j)) = some v := by
        intro i h1 j h2
        obtain ⟨cs', hc, _⟩ := hi i (by omega)
        rw [hC] at hc
        obtain ⟨_, hcl, hat⟩ := World.cells?_some hc
        have := hat j h2
        rw [Go.Deep.add_add] at this
        rw [this]
        exact ⟨_, List.getElem?_eq_getElem (by omega)⟩
      obtain ⟨v0, h00⟩ := hsome 0 hl0 0 hC0
      have hs := spot_of_cell h00
      have hs2 : x.spot = none := by
        unfold Addr.add at hs
        simpa using hs
      refine ⟨x.block, x.off, ?_, fun q hq => ?_⟩
      · obtain ⟨b, o, s⟩ := x
        simp at hs2
        subst hs2
        rfl
      · have h1 : q / C < len := Nat.div_lt_of_lt_mul (by rw [Nat.mul_comm]; exact hq)
        have h2 : q % C < C := Nat.mod_lt _ hC0
        obtain ⟨v, hv⟩ := hsome (q / C) h1 (q % C) h2
        have e1 : q / C * C + q % C = q := by rw [Nat.mul_comm]; exact Nat.div_add_mod q C
        rw [e1] at hv
        rw [← of_add hs2 q]
        show _ = some ((W.cell? (x.add (q / C * C + q % C))).getD .nilIface)
        rw [e1, hv]
        rfl
    · intro i h1 j f hj
      have hjl : j < fs.size := (Array.getElem?_eq_some_iff.1 hj).1
      obtain ⟨cs', hc, ht'⟩ := hi i (by omega)
      rw [hC] at hc
      obtain ⟨ys, n', _, _, _, hyl, hff⟩ := DataW.trod_struct he ht'
      obtain ⟨_, hcl, hat⟩ := World.cells?_some hc
      obtain ⟨ho, hk⟩ := hone_of hone j f hj
      have h3 := hff j f hj
      rw [ho, hk] at h3
      have hj2 : j < cs'.length := by omega
      rw [List.drop_eq_getElem_cons hj2] at h3
      simp only [List.take_succ_cons, List.take_zero] at h3
      have h4 := hat j (by omega)
      rw [Go.Deep.add_add, List.getElem?_eq_getElem hj2] at h4
      refine ⟨n', ys[j]'(by omega), ?_⟩
      · show DataW.trod enc P W base spare held n' f.type [(W.cell? (x.add (i * C + j))).getD .nilIface] = _
        rw [h4]
        simp only [Option.getD_some]
        rw [h3]
        exact List.getElem?_eq_getElem _
theorem sized_structs {ts : List TypeId} {ds : List (DataW H)} {j B : Nat} (hsz : (DataW.weightsEach P ts ds).all (· ≤ reachBytes) = true) (hj : ts[j]? = some t) (hd : ds[j]? = some d) (ht : P.underlying t = some (.slice e)) (hB : P.bytesOf e = B)
    (h : DataW.Trod enc P W base spare held t (.slice a len cap) d ps) : len * B ≤ 140737488351232 := by
  obtain ⟨fuel, hf⟩ := h
  rcases open_slice ht hf with ⟨hcs, _⟩ | ⟨x, l, c, m, n, D, Pl, hcs, _, hl, hm, hmm, hx, hi⟩
  · simp [Value.cells] at hcs
    obtain ⟨_, rfl, _⟩ := hcs
    simp
  · simp [Value.cells] at hcs
    obtain ⟨rfl, rfl, rfl⟩ := hcs
    obtain ⟨hx, _⟩ := Prod.mk.inj hx
    subst hx
    have z := sized_slice hsz hj hd ht
    rw [hB] at z
    have h2 : len ≤ ((List.range len).map D).length + ((List.range (m - len)).map fun j => D (len + j)).length := by
      simp
    exact Nat.le_trans (Nat.mul_le_mul_right _ h2) z
/-- A field that is an integer. -/
theorem field_int {k : IntKind} {n : Nat} {v : Value} {y : DataW H × List MemPlace} (hu : P.underlying t = some (.int k)) (h : DataW.trod enc P W base spare held n t [v] = some y) : v = .int k (intOf v) ∧ (Lit.int k (intOf v)).wf = true := by
  obtain ⟨m, hm, hw⟩ := DataW.trod_int hu h
  simp at hm
  subst hm
  exact ⟨rfl, hw.2⟩
end
end Go.Proofs.Ytmffeofgcnabiaa
