/- Slices that come in: what they read; what an append onto a row of the call's own makes. -/
import Derived.Test.YtmffeofgcnabiaaBase
import Derived.ProofKit
import Derived.OpenShut
import Derived.ShutString
import Derived.ChangeOld
import Derived.SizedLaws
import Derived.ChangeSlices
import Derived.Maps.AppendAt
import Derived.Deep.AppendLies
import Derived.Deep.OwnRows
namespace Go.Proofs.Ytmffeofgcnabiaa
open Go.RowKit Go.ChangeShapes Go.WideShapes Go.ChangeAt
set_option linter.unusedVariables false

/-- A slice's n cells (each element one cell) read f 0, f 1, ..; of a slice without elements nothing is said. -/
def Rd (w : World) (A : Option Addr) (n : Nat) (f : Nat → Value) : Prop := 0 < n → ∃ b o, A = some ⟨b, o, none⟩ ∧ ∀ j, j < n → w.cell? ⟨b, o + j, none⟩ = some (f j)
section
variable {w w' : World} {A : Option Addr} {n : Nat} {f : Nat → Value}
theorem Rd.nil (w : World) (A : Option Addr) (f : Nat → Value) : Rd w A 0 f := fun h => absurd h (by omega)
theorem cell_lt {w : World} {a : Addr} {v : Value} (h : w.cell? a = some v) : a.block < w.heap.size := by
  unfold World.cell? at h
  split at h
  · rename_i heq
    exact (Array.getElem?_eq_some_iff.1 heq).1
  · cases h
theorem Rd.keep {S : List Nat} (h : Rd w A n f) (k : Keep S w w') (hA : ∀ a, A = some a → a.block ∉ S) : Rd w' A n f := fun hn => by
  obtain ⟨b, o, rfl, hc⟩ := h hn
  exact ⟨b, o, rfl, fun j hj => (k.cell (p := ⟨b, o + j, none⟩) (cell_lt (hc j hj)) (hA ⟨b, o, none⟩ rfl)).trans (hc j hj)⟩
theorem Rd.keep0 (h : Rd w A n f) (k : Keep [] w w') : Rd w' A n f := h.keep k (fun _ _ => by simp)
theorem Rd.drawn (h : Rd w A n f) (k : Drawn w w') : Rd w' A n f := by
  obtain ⟨m, rfl⟩ := k
  exact h
theorem Rd.below (h : Rd w A n f) (k : Below w.heap.size w w') : Rd w' A n f := h.keep0 (Keep.of_below k [])
theorem Rd.congr {f' : Nat → Value} (h : Rd w A n f) (hf : ∀ j, j < n → f j = f' j) : Rd w A n f' := fun hn => by
  obtain ⟨b, o, e, hc⟩ := h hn
  exact ⟨b, o, e, fun j hj => by rw [← hf j hj]; exact hc j hj⟩
theorem Rd.mono_len (h : Rd w A n f) {m : Nat} (hm : m ≤ n) : Rd w A m f := fun hn => by
  obtain ⟨b, o, e, hc⟩ := h (by omega)
  exact ⟨b, o, e, fun j hj => hc j (by omega)⟩
theorem Rd.of_row {g : Nat} {t : TypeId} {m : Nat} (h : Row w g t m f) (hn : n ≤ m) : Rd w (some ⟨g, 0, none⟩) n f := fun _ =>
  ⟨g, 0, rfl, fun j hj => by rw [Nat.zero_add]; exact h.cell j (by omega)⟩
theorem Rd.of_own {base : Nat} {e : TypeId} {c : Nat} {xs : List Value} (h : w.ownsRow base e 1 (.slice A n c) n xs) : Rd w A n (fun j => xs.getD j .nilIface) := fun hn => by
  obtain ⟨hl, h2⟩ := h
  rcases h2 with ⟨_, h0⟩ | ⟨g, cap, cur, hv, _, hh, hc, _, hs, ht⟩
  · omega
  · injection hv with hA _ _
    refine ⟨g, 0, hA, fun j hj => ?_⟩
    have hj2 : j < xs.length := by omega
    have hx : xs[j]? = cur.toList[j]? := by rw [← ht, List.getElem?_take, if_pos (by omega)]
    have hlt : j < cur.size := by omega
    simp only [World.cell?, hh, Nat.zero_add]
    rw [List.getD_eq_getElem?_getD, hx]
    simp [hlt]
end

/-- What is known of a slice that came in, of one-cell elements. -/
structure SlArg (w : World) (A : Option Addr) (len cap : Nat) (f : Nat → Value) : Prop where
  le : len ≤ cap
  cap_le : cap ≤ maxLen
  none_ : A = none → cap = 0
  rd : Rd w A len f
theorem SlArg.below {w w' : World} {A : Option Addr} {len cap : Nat} {f : Nat → Value} (h : SlArg w A len cap f) (k : Below w.heap.size w w') : SlArg w' A len cap f := ⟨h.le, h.cap_le, h.none_, h.rd.below k⟩

theorem of_add {a : Addr} (h : a.spot = none) (j : Nat) : a.add j = ⟨a.block, a.off + j, none⟩ := by
  obtain ⟨b, o, s⟩ := a
  simp at h
  subst h
  unfold Addr.add
  by_cases hj : j = 0 <;> simp [hj]
theorem spot_of_cell {w : World} {a : Addr} {v : Value} (h : w.cell? a = some v) : a.spot = none := by
  unfold World.cell? at h
  split at h
  · split at h
    · cases h
    · rename_i hs
      simpa using hs
  · cases h

/-- A slice of whole numbers that came in. -/
theorem slArg_ints {H : Type} {enc : TypeId × Value → H} {P : Program} {W : World} {base : Nat} {spare : Nat → Bool} {held : Bool} {t e : TypeId} {k : IntKind} {a : Option Addr} {len cap : Nat} {d : DataW H} {ps : List MemPlace}
    (hu : P.underlying t = some (.slice e)) (he : P.underlying e = some (.int k)) (hc : P.cellsOf e = 1) (h : DataW.Trod enc P W base spare held t (.slice a len cap) d ps) :
    ∃ f : Nat → Int, SlArg W a len cap (fun j => .int k (f j)) ∧ ∀ j, (Lit.int k (f j)).wf = true := by
  obtain ⟨fuel, hf⟩ := h
  have h0 : (Lit.int k 0).wf = true := by cases k <;> decide
  rcases open_ints hu he hc hf with ⟨hcs, _⟩ | ⟨x, l, c, zs, hcs, _, hl, hm, hz, _, hcell, hwz⟩
  · simp [Value.cells] at hcs
    obtain ⟨rfl, rfl, rfl⟩ := hcs
    exact ⟨fun _ => 0, ⟨Nat.le_refl _, by simp [maxLen], fun _ => rfl, Rd.nil _ _ _⟩, fun _ => h0⟩
  · simp [Value.cells] at hcs
    obtain ⟨rfl, rfl, rfl⟩ := hcs
    have hl2 : len ≤ zs.length := by
      rw [hz]
      split
      · exact hl
      · exact Nat.le_refl _
    refine ⟨fun j => zs.getD j 0, ⟨hl, hm, fun h => by simp at h, fun hn => ?_⟩, fun j => ?_⟩
    · have hs := spot_of_cell (hcell 0 (by omega))
      have hs2 : x.spot = none := by
        unfold Addr.add at hs
        simpa using hs
      refine ⟨x.block, x.off, ?_, fun j hj => ?_⟩
      · obtain ⟨b, o, s⟩ := x
        simp at hs2
        subst hs2
        rfl
      · rw [← of_add hs2 j]
        exact hcell j (by omega)
    · by_cases hj : j < zs.length
      · simp only [List.getD_eq_getElem?_getD, List.getElem?_eq_getElem hj, Option.getD_some]
        exact hwz _ (List.getElem_mem hj)
      · simp only [List.getD_eq_getElem?_getD]
        rw [List.getElem?_eq_none (by omega)]
        exact h0

/-- A slice that came in is no longer than its weight allows. -/
theorem sized_row {H : Type} {enc : TypeId × Value → H} {P : Program} {W : World} {base : Nat} {spare : Nat → Bool} {held : Bool} {t e : TypeId} {k : IntKind} {a : Option Addr} {len cap : Nat} {d : DataW H} {ps : List MemPlace} {ts : List TypeId} {ds : List (DataW H)} {j : Nat}
    (hsz : (DataW.weightsEach P ts ds).all (· ≤ reachBytes) = true) (ht : ts[j]? = some t) (hd : ds[j]? = some d) (hu : P.underlying t = some (.slice e)) (he : P.underlying e = some (.int k)) (hc : P.cellsOf e = 1) {B : Nat} (hB : P.bytesOf e = B)
    (h : DataW.Trod enc P W base spare held t (.slice a len cap) d ps) : len * B ≤ 140737488351232 := by
  obtain ⟨fuel, hf⟩ := h
  rcases open_ints hu he hc hf with ⟨hcs, _⟩ | ⟨x, l, c, zs, hcs, _, hl, _, hz, hx, _, _⟩
  · simp [Value.cells] at hcs
    obtain ⟨_, rfl, _⟩ := hcs
    simp
  · simp [Value.cells] at hcs
    obtain ⟨rfl, rfl, rfl⟩ := hcs
    obtain ⟨hx, _⟩ := Prod.mk.inj hx
    subst hx
    have z := sized_slice hsz ht hd hu
    rw [hB] at z
    have hl2 : len ≤ zs.length := by
      rw [hz]
      split
      · exact hl
      · exact Nat.le_refl _
    have h1 : (lits (H := H) k (zs.take len)).length + (lits (H := H) k (zs.drop len)).length = zs.length := by
      simp [lits]
      omega
    rw [h1] at z
    exact Nat.le_trans (Nat.mul_le_mul_right _ hl2) z

/-- append onto a row of the call's own, of a slice of one-cell elements that reads f. -/
theorem run_append_rd {P : Program} (w : World) (base : Nat) (t ty e : TypeId) (i : TypeInfo) (z : Value) (bytes : Nat) (ht : P.underlying t = some (.slice e)) (hi : P.info? e = some i) (hz : i.zero = some z)
    (hsize : i.size = 1) (hby : i.bytes = bytes) (hzs : z.cells.size = 1)
    (v : Value) (n : Nat) (xs : List Value) (hown : w.ownsRow base e 1 v n xs)
    (A : Option Addr) (m c : Nat) (f : Nat → Value) (hr : Rd w A m f) (hm : m ≤ c) (hA : A = none → c = 0) (h1 : ∀ j, j < m → (f j).oneCell' = true)
    (h63 : n + m ≤ maxLen) (hbytes : (n + m) * bytes ≤ 140737488355328) (hbase : base ≤ w.heap.size) :
    ∃ v' w', (Builtin.append_ #[t, t] ty #[v, .slice A m c]).run P w = .ok v' w' ∧ w'.ownsRow base e 1 v' (n + m) (xs ++ (List.range m).map f) ∧ w.grownBy w' v.ownBlock ∧
      (v'.ownBlock = v.ownBlock ∨ v'.ownBlock = some w.heap.size) := by
  rcases A with _ | ad
  · obtain rfl := hA rfl
    obtain rfl : m = 0 := by omega
    exact ⟨v, w, run_append_owned_none (P := P) (w := w) base t ty e i 1 ht hi v n xs hown, by simpa using hown, World.grownBy.refl w _, .inl rfl⟩
  · have hcells : ∀ (j : Nat) (u : Value), ((List.range m).map f)[j]? = some u → w.cell? (ad.add j) = some u := by
      intro j u hu
      have hj : j < m := by
        have := (List.getElem?_eq_some_iff.1 hu).1
        simpa using this
      obtain ⟨b, o, he, hc⟩ := hr (by omega)
      injection he with he
      subst he
      rw [of_add rfl]
      have : f j = u := by
        simp [hj] at hu
        exact hu
      rw [← this]
      exact hc j hj
    obtain ⟨v', w', hrun, h2, h3, _, h5⟩ := run_append_own_at (P := P) w base t ty e i z 1 bytes ht hi hz hsize hby hzs (by omega) v n xs hown ad m c ((List.range m).map f) (by simp) hcells (by
      intro u hu
      simp at hu
      obtain ⟨j, hj, rfl⟩ := hu
      exact h1 j hj) h63 hbytes hbase
    exact ⟨v', w', hrun, h2, h3, h5⟩

theorem wpList_append_rd {P : Program} {w : World} {ops : Array Oper} {rest : List Oper} {o : Oper} {a : Act} {Q : Exit → Act → World → Prop} (hgd : o.guard = none) (s x : Operand) (t : TypeId)
    (ho : o.op = .call { callee := .builtin .append, args := #[s, x], argTypes := #[t, t] })
    (base : Nat) (e : TypeId) (i : TypeInfo) (z : Value) (bytes : Nat) (ht : P.underlying t = some (.slice e)) (hi : P.info? e = some i) (hz : i.zero = some z)
    (hsize : i.size = 1) (hby : i.bytes = bytes) (hzs : z.cells.size = 1)
    (v : Value) (n : Nat) (xs : List Value) (hs : a.eval s = v) (hown : w.ownsRow base e 1 v n xs)
    (A : Option Addr) (m c : Nat) (f : Nat → Value) (hx : a.eval x = .slice A m c) (hr : Rd w A m f) (hm : m ≤ c) (hA : A = none → c = 0) (h1 : ∀ j, j < m → (f j).oneCell' = true)
    (h63 : n + m ≤ maxLen) (hbytes : (n + m) * bytes ≤ 140737488355328) (hbase : base ≤ w.heap.size)
    (h : ∀ v' w', w'.ownsRow base e 1 v' (n + m) (xs ++ (List.range m).map f) → w.grownBy w' v.ownBlock → (v'.ownBlock = v.ownBlock ∨ v'.ownBlock = some w.heap.size) → wpList P ops Q rest (a.put o.dst v') w') : wpList P ops Q (o :: rest) a w := by
  refine wpList_plain hgd fun K hK => ?_
  obtain ⟨v', w', hr, h2, h3, h5⟩ := run_append_rd (P := P) w base t o.type e i z bytes ht hi hz hsize hby hzs v n xs hown A m c f hr hm hA h1 h63 hbytes hbase
  unfold Oper.wp execOp
  simp only [ho, resolve, invoke, builtin, Sem.run_bind, Sem.run_pure, Result.andThen_ok, List.map_toArray, List.map_cons, List.map_nil, hs, hx, hr]
  exact hK _ _ (h v' w' h2 h3 h5)

/-- A row of the call's own, as a slice that is read. -/
theorem own_slice {w : World} {base : Nat} {e : TypeId} {v : Value} {n : Nat} {xs : List Value} (h : w.ownsRow base e 1 v n xs) :
    ∃ A c, v = .slice A n c ∧ SlArg w A n c (fun j => xs.getD j .nilIface) ∧ ∀ a, A = some a → base ≤ a.block ∧ a.block < w.heap.size := by
  have h2 := h.2
  rcases h2 with ⟨rfl, rfl⟩ | ⟨g, cap, cur, rfl, hg, hh, hc, hm, _, _⟩
  · exact ⟨none, 0, rfl, ⟨Nat.le_refl _, by simp [maxLen], fun _ => rfl, Rd.nil _ _ _⟩, fun a e => by cases e⟩
  · exact ⟨_, cap, rfl, ⟨hc, hm, (fun e => by cases e), Rd.of_own h⟩, fun a e => by
      injection e with e
      subst e
      exact ⟨hg, (Array.getElem?_eq_some_iff.1 hh).1⟩⟩
theorem own_nil (w : World) (base : Nat) (e : TypeId) : w.ownsRow base e 1 (.slice none 0 0) 0 [] := ⟨rfl, .inl ⟨rfl, rfl⟩⟩
theorem getD_range (m : Nat) (f : Nat → Value) (d : Value) (j : Nat) (hj : j < m) : (([] : List Value) ++ (List.range m).map f).getD j d = f j := by
  simp [List.getD_eq_getElem?_getD, hj]
theorem Row.made (w : World) (e : TypeId) (z : Value) (n : Nat) : Row (w.alloc (.cells (madeCells #[z] n) e)) w.heap.size e n (fun _ => z) := by
  refine Row.of_arr (heap_alloc_new w _) ?_
  unfold madeCells
  apply Array.ext
  · simp
  · intro i h1 h2
    simp [Nat.mod_one]
theorem map_range_succ (n : Nat) (f : Nat → Value) : (List.range n).map f ++ (List.range 1).map (fun _ => f n) = (List.range (n + 1)).map f := by
  rw [List.range_succ (n := n), List.map_append]
  rfl
theorem rd_one {w : World} {g : Nat} {t : TypeId} {v : Value} (h : w.heap[g]? = some (.cells #[v] t (0, 0))) : Rd w (some ⟨g, 0, none⟩) 1 (fun _ => v) := fun _ =>
  ⟨g, 0, rfl, fun j hj => by
    obtain rfl : j = 0 := by omega
    simp [World.cell?, h]⟩
theorem int_info : (Try.prog.info? 3).map (fun i => (i.zero, i.size, i.bytes)) = some (some (.int .i64 0), 1, 8) := by kernel_rfl
theorem byte_info : (Try.prog.info? 5).map (fun i => (i.zero, i.size, i.bytes)) = some (some (.int .u8 0), 1, 1) := by kernel_rfl
end Go.Proofs.Ytmffeofgcnabiaa
