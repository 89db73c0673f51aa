/- Words for blocks of memory that are known whole, and small facts that the walks of this seat share. -/
import Derived.Test.YtmffeofgcnabiaaRows
import Derived.WalkKit
import Derived.WalkSpells
import Derived.WalkLawsBesides
import Derived.Lib.Hide
import Derived.BigQuiet
import Derived.Deep.QuietTactic
import Derived.Deep.CutBlock
import Derived.Deep.DeepCutAuto
import Derived.RegionTactic
import Derived.ChangeAlike
namespace Go.Proofs.Ytmffeofgcnabiaa
open Go.RowKit
set_option linter.unusedVariables false

/-- Block g holds just the cells cs, of element type t, none of them frozen. -/
def Blk (w : World) (g : Nat) (t : TypeId) (cs : Array Value) : Prop := w.heap[g]? = some (.cells cs t (0, 0))

section
variable {w w' : World} {g : Nat} {t : TypeId} {cs : Array Value}
theorem Blk.lt (h : Blk w g t cs) : g < w.heap.size := by
  unfold Blk at h
  exact (Array.getElem?_eq_some_iff.1 h).1
theorem Blk.cell (h : Blk w g t cs) (i : Nat) : w.cell? ⟨g, i, none⟩ = cs[i]? := by
  unfold Blk at h
  simp [World.cell?, h]
theorem Blk.free (h : Blk w g t cs) (i : Nat) : w.frozen? ⟨g, i, none⟩ = false := by
  unfold Blk at h
  simp [World.frozen?, h]
theorem Blk.new (w : World) (t : TypeId) (cs : Array Value) : Blk (w.alloc (.cells cs t)) w.heap.size t cs := heap_alloc_new w _
theorem Blk.drew (h : Blk w g t cs) : Blk w.drew g t cs := h
theorem Blk.drewN (h : Blk w g t cs) (n : Nat) : Blk (w.drewN n) g t cs := h
theorem Blk.set (h : Blk w g t cs) (i : Nat) (u : Value) : Blk (w.setCell ⟨g, i, none⟩ u) g t (cs.setIfInBounds i u) := by
  unfold Blk at h ⊢
  simp [World.setCell, Array.getElem?_modify, h]
theorem Blk.ne_ {g' : Nat} {t' : TypeId} {cs' : Array Value} (h : Blk w g t cs) (h' : Blk w g' t' cs') (hne : t ≠ t') : g ≠ g' := by
  rintro rfl
  unfold Blk at h h'
  rw [h] at h'
  injection h' with h'
  injection h' with _ ht
  exact hne ht
end

/-- w' is w behind some draws: memory is the same. -/
def Drawn (w w' : World) : Prop := ∃ n, w' = w.drewN n
theorem Drawn.refl (w : World) : Drawn w w := ⟨0, rfl⟩
theorem Drawn.of (w : World) (n : Nat) : Drawn w (w.drewN n) := ⟨n, rfl⟩
theorem Drawn.one (w : World) : Drawn w w.drew := ⟨1, rfl⟩
theorem Drawn.trans {a b c : World} (h : Drawn a b) (k : Drawn b c) : Drawn a c := by
  obtain ⟨n, rfl⟩ := h
  obtain ⟨m, rfl⟩ := k
  exact ⟨n + m, by rw [World.drewN_drewN]⟩
theorem ret_eq {a b : Value} (h : a = b) : Ending.returned a = .returned b := by rw [h]

/-- w' is w with new blocks, and with other contents in the blocks of S alone. -/
structure Keep (S : List Nat) (w w' : World) : Prop where
  os : w'.os = w.os
  tape : w'.tape = w.tape
  output : w'.output = w.output
  size : w.heap.size ≤ w'.heap.size
  block : ∀ k, k < w.heap.size → k ∉ S → w'.heap[k]? = w.heap[k]?
section
variable {S : List Nat} {a b c w w' : World}
theorem Keep.refl (S : List Nat) (w : World) : Keep S w w := ⟨rfl, rfl, rfl, Nat.le_refl _, fun _ _ _ => rfl⟩
theorem Keep.trans (h : Keep S a b) (k : Keep S b c) : Keep S a c :=
  ⟨k.os.trans h.os, k.tape.trans h.tape, k.output.trans h.output, Nat.le_trans h.size k.size, fun i hi hn => (k.block i (Nat.lt_of_lt_of_le hi h.size) hn).trans (h.block i hi hn)⟩
/-- Blocks that are new behind a may be written, too. -/
theorem Keep.then {T : List Nat} (h : Keep S a b) (k : Keep T b c) (hT : ∀ x, x ∈ T → x ∈ S ∨ a.heap.size ≤ x) : Keep S a c :=
  ⟨k.os.trans h.os, k.tape.trans h.tape, k.output.trans h.output, Nat.le_trans h.size k.size, fun i hi hn =>
    (k.block i (Nat.lt_of_lt_of_le hi h.size) (fun hx => by rcases hT i hx with h1 | h1; exact hn h1; omega)).trans (h.block i hi hn)⟩
theorem Keep.mono {T : List Nat} (h : Keep S a b) (hT : ∀ x, x ∈ S → x ∈ T) : Keep T a b := ⟨h.os, h.tape, h.output, h.size, fun i hi hn => h.block i hi (fun hx => hn (hT i hx))⟩
theorem Keep.drew (h : Keep S a w) : Keep S a w.drew := h.trans ⟨rfl, rfl, rfl, Nat.le_refl _, fun _ _ _ => rfl⟩
theorem Keep.drewN (h : Keep S a w) (n : Nat) : Keep S a (w.drewN n) := h.trans ⟨rfl, rfl, rfl, Nat.le_refl _, fun _ _ _ => rfl⟩
theorem Keep.drawn (h : Keep S a w) (k : Drawn w w') : Keep S a w' := by
  obtain ⟨n, rfl⟩ := k
  exact h.drewN n
theorem Keep.alloc (h : Keep S a w) (o : Obj) : Keep S a (w.alloc o) := h.trans ⟨rfl, rfl, rfl, by simp, fun k hk _ => Below.heap_alloc _ _ _ hk⟩
theorem Keep.setCell (h : Keep S a w) (p : Addr) (u : Value) (hp : p.block ∈ S ∨ a.heap.size ≤ p.block) : Keep S a (w.setCell p u) :=
  ⟨h.os, h.tape, h.output, by simpa [World.setCell] using h.size, fun k hk hn => (Below.heap_setCell _ _ _ _ (by
    rintro rfl
    rcases hp with hp | hp
    · exact hn hp
    · omega)).trans (h.block k hk hn)⟩
theorem Keep.grown {row : Option Nat} (h : Keep S a w) (g : w.grownBy w' row) (hr : ∀ k, row = some k → k ∈ S ∨ a.heap.size ≤ k) : Keep S a w' :=
  h.then ⟨g.os, g.tape, g.output, g.size, fun k hk hn => g.block k hk (fun e => hn (by
    cases row with
    | none => cases e
    | some r => injection e with e; subst e; exact List.mem_singleton.2 rfl))⟩ (T := row.toList) (fun x hx => hr x (by
      cases row with
      | none => simp at hx
      | some r => simp at hx; rw [hx]))
theorem Keep.below (h : Keep S a b) {B : Nat} (hB : B ≤ a.heap.size) (hS : ∀ x, x ∈ S → B ≤ x) : Below B a b :=
  ⟨h.os, h.tape, h.output, h.size, fun k hk => h.block k (by omega) (fun hx => by have := hS k hx; omega)⟩
theorem Keep.of_below (h : Below a.heap.size a b) (S : List Nat) : Keep S a b := ⟨h.os, h.tape, h.output, h.size, fun k hk _ => h.block k hk⟩
theorem Keep.cell (h : Keep S a b) {p : Addr} (hp : p.block < a.heap.size) (hn : p.block ∉ S) : b.cell? p = a.cell? p := World.cell?_of_block (w := a) (h.block p.block hp hn)
theorem Keep.free (h : Keep S a b) {p : Addr} (hp : p.block < a.heap.size) (hn : p.block ∉ S) : b.frozen? p = a.frozen? p := World.frozen?_of_block (w := a) (h.block p.block hp hn)
end

/-- Block g is n cells of type t that hold f 0, f 1, .. -/
def Row (w : World) (g : Nat) (t : TypeId) (n : Nat) (f : Nat → Value) : Prop := w.heap[g]? = some (.cells ((Array.range n).map f) t (0, 0))
/-- f, but v at i. -/
def put (f : Nat → Value) (i : Nat) (v : Value) : Nat → Value := fun j => if j = i then v else f j
section
variable {w w' : World} {g : Nat} {t : TypeId} {n : Nat} {f : Nat → Value}
theorem Row.lt (h : Row w g t n f) : g < w.heap.size := by
  unfold Row at h
  exact (Array.getElem?_eq_some_iff.1 h).1
theorem Row.cell (h : Row w g t n f) (i : Nat) (hi : i < n) : w.cell? ⟨g, i, none⟩ = some (f i) := by
  unfold Row at h
  simp [World.cell?, h, hi]
theorem Row.free (h : Row w g t n f) (i : Nat) : w.frozen? ⟨g, i, none⟩ = false := by
  unfold Row at h
  simp [World.frozen?, h]
theorem Row.set (h : Row w g t n f) (i : Nat) (u : Value) : Row (w.setCell ⟨g, i, none⟩ u) g t n (put f i u) := by
  unfold Row at h ⊢
  simp only [World.setCell, Array.getElem?_modify, h, if_true, Option.map_some]
  congr 2
  apply Array.ext
  · simp
  · intro j h1 h2
    by_cases hj : i = j
    · subst hj
      simp [put]
    · have hj' : ¬ j = i := fun e => hj e.symm
      simp only [put, Array.getElem_map, Array.getElem_range, if_neg hj', Option.isSome_none, Bool.false_eq_true, if_false]
      rw [Array.getElem_setIfInBounds_ne (by simpa using h2) hj]
      simp
theorem Row.set_int {k : IntKind} {l : Nat → Int} (h : Row w g t n (fun j => .int k (l j))) (i : Nat) (v : Int) : Row (w.setCell ⟨g, i, none⟩ (.int k v)) g t n (fun j => .int k (if j = i then v else l j)) := by
  have h1 := h.set i (.int k v)
  have e : put (fun j => .int k (l j)) i (.int k v) = fun j => .int k (if j = i then v else l j) := by
    funext j
    unfold put
    split <;> rfl
  rwa [e] at h1
theorem Row.far (h : Row w g t n f) {p : Addr} (hp : g ≠ p.block) (u : Value) : Row (w.setCell p u) g t n f := (Below.heap_setCell w p u g hp).trans h
theorem Row.drewN (h : Row w g t n f) (k : Nat) : Row (w.drewN k) g t n f := h
theorem Row.drawn (h : Row w g t n f) (k : Drawn w w') : Row w' g t n f := by
  obtain ⟨m, rfl⟩ := k
  exact h
theorem Row.keep {S : List Nat} (h : Row w g t n f) (k : Keep S w w') (hg : g ∉ S) : Row w' g t n f := (k.block g h.lt hg).trans h
theorem Row.alloc (h : Row w g t n f) (o : Obj) : Row (w.alloc o) g t n f := (Below.heap_alloc w o g h.lt).trans h
theorem Row.new (w : World) (t : TypeId) (n : Nat) (f : Nat → Value) : Row (w.alloc (.cells ((Array.range n).map f) t)) w.heap.size t n f := heap_alloc_new w _
theorem Row.congr {f' : Nat → Value} (h : Row w g t n f) (hf : ∀ i, i < n → f i = f' i) : Row w g t n f' := by
  unfold Row at h ⊢
  rw [h]
  congr 2
  apply Array.ext
  · simp
  · intro i h1 h2
    simp
    exact hf i (by simpa using h1)
theorem Row.of_arr {cs : Array Value} (h : w.heap[g]? = some (.cells cs t (0, 0))) (e : cs = (Array.range n).map f) : Row w g t n f := by
  unfold Row
  rw [h, e]
theorem Row.ne_ {g' n' : Nat} {t' : TypeId} {f' : Nat → Value} (h : Row w g t n f) (h' : Row w g' t' n' f') (hne : t ≠ t') : g ≠ g' := by
  rintro rfl
  unfold Row at h h'
  rw [h] at h'
  injection h' with h'
  injection h' with _ ht
  exact hne ht
end

/-- A cell of a block whose whole numbers are listed. -/
theorem cell_list {w : World} {g : Nat} {t : TypeId} {fr : Nat × Nat} {k : IntKind} (l : List Int) (h : w.heap[g]? = some (.cells (l.map (Value.int k)).toArray t fr)) (j : Nat) (hj : j < l.length) :
    w.cell? ⟨g, 0 + j, none⟩ = some (.int k (l.getD j 0)) := by
  simp [World.cell?, h, hj]
theorem below2 (w : World) (a b : Obj) : ((w.alloc a).alloc b).heap[w.heap.size]? = some a := (Below.heap_alloc _ _ _ (by simp)).trans (heap_alloc_new w a)
theorem below1 (w : World) (a b : Obj) : ((w.alloc a).alloc b).heap[w.heap.size + 1]? = some b := by
  have h := heap_alloc_new (w.alloc a) b
  simpa using h
end Go.Proofs.Ytmffeofgcnabiaa
