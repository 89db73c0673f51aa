/- Slices that lie at the head of a block of the call's own, whatever their capacity: reading, keeping, appending. -/
import Derived.Test.YtmffeofgcnabiaaSlice
namespace Go.Proofs.Ytmffeofgcnabiaa
open Go.RowKit
set_option linter.unusedVariables false

/-- The block of a slice's array, if any. -/
def blk : Option Addr → List Nat
  | none => []
  | some a => [a.block]
/-- The slice (A, n, c) of elements of type t, size cells each: nil; or at the head of a block, whose first n * size cells are f 0, f 1, .. -/
def Ly (w : World) (t : TypeId) (size : Nat) (A : Option Addr) (n c : Nat) (f : Nat → Value) : Prop :=
  n ≤ c ∧ c ≤ maxLen ∧ (A = none → c = 0) ∧ ∀ a, A = some a → ∃ g cur fr, a = ⟨g, 0, none⟩ ∧ w.heap[g]? = some (.cells cur t fr) ∧ (fr = (0, 0) ∨ n = c ∧ cur.size ≤ fr.1) ∧ c * size ≤ cur.size ∧ ∀ j, j < n * size → cur[j]? = some (f j)
section
variable {w w' : World} {t : TypeId} {size : Nat} {A : Option Addr} {n c : Nat} {f : Nat → Value}
theorem Ly.nil (w : World) (t : TypeId) (size : Nat) (f : Nat → Value) : Ly w t size none 0 0 f := ⟨Nat.le_refl _, by simp [maxLen], fun _ => rfl, fun a e => by cases e⟩
theorem Ly.lt (h : Ly w t size A n c f) {a : Addr} (e : A = some a) : a.block < w.heap.size := by
  obtain ⟨g, cur, fr, rfl, hh, _⟩ := h.2.2.2 a e
  exact (Array.getElem?_eq_some_iff.1 hh).1
theorem Ly.keep {S : List Nat} (h : Ly w t size A n c f) (k : Keep S w w') (hS : ∀ x, x ∈ blk A → x ∉ S) : Ly w' t size A n c f :=
  ⟨h.1, h.2.1, h.2.2.1, fun a e => by
    obtain ⟨g, cur, fr, rfl, hh, r⟩ := h.2.2.2 a e
    exact ⟨g, cur, fr, rfl, (k.block g (Array.getElem?_eq_some_iff.1 hh).1 (hS g (by rw [e]; exact List.mem_singleton.2 rfl))).trans hh, r⟩⟩
theorem Ly.keep0 (h : Ly w t size A n c f) (k : Keep [] w w') : Ly w' t size A n c f := h.keep k (fun _ _ h => by cases h)
theorem Ly.congr {f' : Nat → Value} (h : Ly w t size A n c f) (hf : ∀ j, j < n * size → f j = f' j) : Ly w t size A n c f' :=
  ⟨h.1, h.2.1, h.2.2.1, fun a e => by
    obtain ⟨g, cur, fr, rfl, hh, hfr, hc, r⟩ := h.2.2.2 a e
    exact ⟨g, cur, fr, rfl, hh, hfr, hc, fun j hj => by rw [← hf j hj]; exact r j hj⟩⟩
theorem Ly.rd (h : Ly w t size A n c f) : Rd w A (n * size) f := fun hn => by
  cases A with
  | none =>
    have h0 := h.2.2.1 rfl
    have h1 := h.1
    obtain rfl : n = 0 := by omega
    simp at hn
  | some a =>
    obtain ⟨g, cur, fr, rfl, hh, _, _, r⟩ := h.2.2.2 a rfl
    refine ⟨g, 0, rfl, fun j hj => ?_⟩
    rw [Nat.zero_add]
    have := r j hj
    simp only [World.cell?, hh]
    simpa using this
theorem Ly.rd1 (h : Ly w t 1 A n c f) : Rd w A n f := by
  have := h.rd
  rwa [Nat.mul_one] at this
theorem Ly.arg (h : Ly w t 1 A n c f) : SlArg w A n c f := ⟨h.1, h.2.1, h.2.2.1, h.rd1⟩
theorem Ly.of_row {g m : Nat} (h : Row w g t m f) (hn : n ≤ c) (hc : c * size ≤ m) (hm : c ≤ maxLen) : Ly w t size (some ⟨g, 0, none⟩) n c f :=
  ⟨hn, hm, (fun e => by cases e), fun a e => by
    injection e with e
    subst e
    refine ⟨g, _, (0, 0), rfl, h, .inl rfl, by simpa using hc, fun j hj => ?_⟩
    have : n * size ≤ c * size := Nat.mul_le_mul_right _ hn
    have hjm : j < m := by omega
    simp [hjm]⟩
theorem Ly.of_arr {g : Nat} {cs : Array Value} (h : w.heap[g]? = some (.cells cs t (0, 0))) (hn : n ≤ c) (hc : c * size ≤ cs.size) (hm : c ≤ maxLen) (hf : ∀ j, j < n * size → cs[j]? = some (f j)) : Ly w t size (some ⟨g, 0, none⟩) n c f :=
  ⟨hn, hm, (fun e => by cases e), fun a e => by
    injection e with e
    subst e
    exact ⟨g, cs, (0, 0), rfl, h, .inl rfl, hc, hf⟩⟩
/-- A cell of it is written. -/
theorem Ly.set (h : Ly w t size A n c f) {g : Nat} (e : A = some ⟨g, 0, none⟩) (i : Nat) (u : Value) : Ly (w.setCell ⟨g, i, none⟩ u) t size A n c (put f i u) :=
  ⟨h.1, h.2.1, h.2.2.1, fun a e2 => by
    obtain ⟨g2, cur, fr, rfl, hh, hfr, hc, r⟩ := h.2.2.2 a e2
    rw [e] at e2
    injection e2 with e2
    injection e2 with e2
    subst e2
    refine ⟨g, cur.setIfInBounds i u, fr, rfl, ?_, by simpa using hfr, by simpa using hc, fun j hj => ?_⟩
    · simp [World.setCell, Array.getElem?_modify, hh]
    · unfold put
      by_cases hj2 : j = i
      · subst hj2
        have := r j hj
        have hlt := (Array.getElem?_eq_some_iff.1 this).1
        simp [hlt]
      · rw [if_neg hj2, Array.getElem?_setIfInBounds_ne (fun e => hj2 e.symm)]
        exact r j hj⟩
theorem Ly.set_int {k : IntKind} {l : Nat → Int} (h : Ly w t size A n c (fun j => .int k (l j))) {g : Nat} (e : A = some ⟨g, 0, none⟩) (i : Nat) (v : Int) : Ly (w.setCell ⟨g, i, none⟩ (.int k v)) t size A n c (fun j => .int k (if j = i then v else l j)) := by
  have h1 := h.set e i (.int k v)
  have e : put (fun j => .int k (l j)) i (.int k v) = fun j => .int k (if j = i then v else l j) := by
    funext j
    unfold put
    split <;> rfl
  rwa [e] at h1
theorem Ly.far (h : Ly w t size A n c f) {p : Addr} (hp : ∀ x, x ∈ blk A → x ≠ p.block) (u : Value) : Ly (w.setCell p u) t size A n c f :=
  h.keep ((Keep.refl [p.block] w).setCell p u (.inl (List.mem_singleton.2 rfl))) (fun x hx hm => hp x hx (List.mem_singleton.1 hm))
end

theorem Ly.type_ne {w : World} {t t' : TypeId} {s s' : Nat} {A A' : Option Addr} {n c n' c' : Nat} {f f' : Nat → Value} (h : Ly w t s A n c f) (h' : Ly w t' s' A' n' c' f') (ht : t ≠ t') {x : Nat} (hx : x ∈ blk A) : x ∉ blk A' := by
  intro hx'
  cases A with
  | none => cases hx
  | some a =>
    cases A' with
    | none => cases hx'
    | some a' =>
      obtain ⟨g, cur, fr, rfl, hh, _⟩ := h.2.2.2 a rfl
      obtain ⟨g', cur', fr', rfl, hh', _⟩ := h'.2.2.2 a' rfl
      obtain rfl := List.mem_singleton.1 hx
      obtain rfl := List.mem_singleton.1 hx'
      rw [hh] at hh'
      injection hh' with hh'
      injection hh' with _ e
      exact ht e
theorem Ly.blk_lt {w : World} {t : TypeId} {s : Nat} {A : Option Addr} {n c : Nat} {f : Nat → Value} (h : Ly w t s A n c f) {x : Nat} (hx : x ∈ blk A) : x < w.heap.size := by
  cases A with
  | none => cases hx
  | some a =>
    obtain rfl := List.mem_singleton.1 hx
    exact h.lt rfl
theorem Ly.at1 {w : World} {t : TypeId} {A : Option Addr} {n c : Nat} {f : Nat → Value} (h : Ly w t 1 A n c f) {j : Nat} (hj : j < n) :
    ∃ g, A = some ⟨g, 0, none⟩ ∧ w.cell? ⟨g, j, none⟩ = some (f j) ∧ w.frozen? ⟨g, j, none⟩ = false := by
  cases A with
  | none => have := h.2.2.1 rfl; have := h.1; omega
  | some a =>
    obtain ⟨g, cur, fr, rfl, hh, hfr, _, r⟩ := h.2.2.2 a rfl
    have := r j (by omega)
    have hj2 := (Array.getElem?_eq_some_iff.1 this).1
    refine ⟨g, rfl, by simp only [World.cell?, hh]; simpa using this, ?_⟩
    rcases hfr with rfl | ⟨_, hfr⟩
    · simp [World.frozen?, hh]
    · simp only [World.frozen?, hh]
      simp
      omega
/-- Of block x the first N cells are as they were, and its size. -/
def Pre (w w' : World) (x : Nat) (t : TypeId) (N : Nat) : Prop := ∀ cur fr, w.heap[x]? = some (.cells cur t fr) → ∃ cur', w'.heap[x]? = some (.cells cur' t fr) ∧ cur'.size = cur.size ∧ ∀ j, j < N → cur'[j]? = cur[j]?
theorem Pre.refl (w : World) (x : Nat) (t : TypeId) (N : Nat) : Pre w w x t N := fun cur fr h => ⟨cur, h, rfl, fun _ _ => rfl⟩
theorem Pre.of_eq {w w' : World} {x : Nat} (h : w'.heap[x]? = w.heap[x]?) (t : TypeId) (N : Nat) : Pre w w' x t N := fun cur fr hc => ⟨cur, h.trans hc, rfl, fun _ _ => rfl⟩
theorem Pre.trans {a b c : World} {x : Nat} {t : TypeId} {N : Nat} (h : Pre a b x t N) (k : Pre b c x t N) : Pre a c x t N := fun cur fr hc => by
  obtain ⟨cur1, h1, h2, h3⟩ := h cur fr hc
  obtain ⟨cur2, k1, k2, k3⟩ := k cur1 fr h1
  exact ⟨cur2, k1, k2.trans h2, fun j hj => (k3 j hj).trans (h3 j hj)⟩
theorem Pre.mono {a b : World} {x : Nat} {t : TypeId} {N M : Nat} (h : Pre a b x t N) (hM : M ≤ N) : Pre a b x t M := fun cur fr hc => by
  obtain ⟨cur1, h1, h2, h3⟩ := h cur fr hc
  exact ⟨cur1, h1, h2, fun j hj => h3 j (by omega)⟩
theorem Ly.pre {w w' : World} {t : TypeId} {size : Nat} {A : Option Addr} {n c : Nat} {f : Nat → Value} {S : List Nat} (h : Ly w t size A n c f) (k : Keep S w w') (hS : ∀ x, x ∈ blk A → x ∈ S → Pre w w' x t (n * size)) : Ly w' t size A n c f :=
  ⟨h.1, h.2.1, h.2.2.1, fun a e => by
    obtain ⟨g, cur, fr, rfl, hh, hfr, hc, r⟩ := h.2.2.2 a e
    by_cases hg : g ∈ S
    · obtain ⟨cur', h1, h2, h3⟩ := hS g (by rw [e]; exact List.mem_singleton.2 rfl) hg cur fr hh
      exact ⟨g, cur', fr, rfl, h1, by rw [h2]; exact hfr, by omega, fun j hj => (h3 j hj).trans (r j hj)⟩
    · exact ⟨g, cur, fr, rfl, (k.block g (Array.getElem?_eq_some_iff.1 hh).1 hg).trans hh, hfr, hc, r⟩⟩

theorem cells_join (xs ys : Nat → Value) (N M : Nat) (j : Nat) (hj : j < N + M) (rest : List Value) : ((List.range N).map xs ++ (List.range M).map ys ++ rest)[j]? = some (if j < N then xs j else ys (j - N)) := by
  by_cases h : j < N
  · rw [if_pos h, List.append_assoc, List.getElem?_append_left (by simpa using h)]
    simp [h]
  · rw [if_neg h, List.append_assoc, List.getElem?_append_right (by simpa using h), List.getElem?_append_left (by simp; omega)]
    rw [List.getElem?_map, List.length_map, List.length_range, List.getElem?_range (by omega)]
    rfl

theorem run_append_ly {P : Program} (w : World) (t ty e : TypeId) (i : TypeInfo) (z : Value) (size bytes : Nat) (ht : P.underlying t = some (.slice e)) (hi : P.info? e = some i) (hz : i.zero = some z)
    (hsize : i.size = size) (hby : i.bytes = bytes) (hzs : z.cells.size = size) (hpos : 0 < size)
    (A : Option Addr) (n c : Nat) (f : Nat → Value) (hl : Ly w e size A n c f)
    (B : Option Addr) (m d : Nat) (g : Nat → Value) (hr : Rd w B (m * size) g) (hm : m ≤ d) (hB : B = none → d = 0) (h1 : ∀ j, j < m * size → (g j).oneCell' = true)
    (h63 : n + m ≤ maxLen) (hbytes : (n + m) * bytes ≤ 140737488355328) :
    ∃ A' c' w', (Builtin.append_ #[t, t] ty #[.slice A n c, .slice B m d]).run P w = .ok (.slice A' (n + m) c') w' ∧ Ly w' e size A' (n + m) c' (fun j => if j < n * size then f j else g (j - n * size)) ∧ Keep (blk A) w w' ∧
      (A' = A ∨ A' = some ⟨w.heap.size, 0, none⟩) ∧ ∀ x, x ∈ blk A → Pre w w' x e (n * size) := by
  subst hsize
  subst hby
  have hmax : n + m ≤ 9223372036854775807 := by simp only [maxLen] at h63; omega
  have hadd : (n + m) * i.size = n * i.size + m * i.size := Nat.add_mul _ _ _
  -- what the growing arm leaves
  have grown : ∀ (olds : Nat → Value) (old : Nat), (∀ j, j < n * i.size → olds j = f j) →
      Ly (w.drew.alloc (.cells (((List.range (n * i.size)).map olds).toArray ++ ((List.range (m * i.size)).map g).toArray ++ Builtin.zeroCells z.cells (grownCap w (n + m) old e - (n + m))) e)) e i.size (some ⟨w.heap.size, 0, none⟩) (n + m) (grownCap w (n + m) old e) (fun j => if j < n * i.size then f j else g (j - n * i.size)) := by
    intro olds old ho
    have hge := grownCap_ge w (n + m) old e
    refine ⟨hge, grownCap_le_maxLen w (n + m) old e h63, (fun h => by cases h), fun a ha => ?_⟩
    injection ha with ha
    subst ha
    refine ⟨_, _, (0, 0), rfl, heap_alloc_new w.drew _, .inl rfl, ?_, fun j hj => ?_⟩
    · simp only [Array.size_append, List.size_toArray, List.length_map, List.length_range, size_zeroCells, hzs]
      rw [← hadd, ← Nat.add_mul]
      exact Nat.le_of_eq (by congr 1; omega)
    · have hc := cells_join olds g (n * i.size) (m * i.size) j (by omega) (Builtin.zeroCells z.cells (grownCap w (n + m) old e - (n + m))).toList
      have e1 : (((List.range (n * i.size)).map olds).toArray ++ ((List.range (m * i.size)).map g).toArray ++ Builtin.zeroCells z.cells (grownCap w (n + m) old e - (n + m)))[j]? = (((List.range (n * i.size)).map olds ++ (List.range (m * i.size)).map g ++ (Builtin.zeroCells z.cells (grownCap w (n + m) old e - (n + m))).toList))[j]? := by
        rw [← Array.getElem?_toList]
        simp
      rw [e1, hc]
      by_cases h : j < n * i.size
      · simp only [if_pos h, ho j h]
      · simp only [if_neg h]
  have kept : ∀ o : Obj, Keep (blk A) w (w.drew.alloc o) := fun o => (Keep.refl _ w).drew.alloc o
  rcases B with _ | ad
  · obtain rfl := hB rfl
    obtain rfl : m = 0 := by omega
    refine ⟨A, c, w, ?_, ⟨by have := hl.1; omega, hl.2.1, hl.2.2.1, fun a ha => ?_⟩, Keep.refl _ _, .inl rfl, fun x _ => Pre.refl _ _ _ _⟩
    · have := hl.1
      rcases A with _ | a
      · simp [Builtin.append_, run_underlying ht, sizeOf, typeInfo, hi, Builtin.lenOf, Builtin.firstCells, this]
      · simp [Builtin.append_, run_underlying ht, sizeOf, typeInfo, hi, Builtin.lenOf, Builtin.firstCells, this, storeCells]
    · obtain ⟨q, cur, fr, rfl, hh, hfr, hc, r⟩ := hl.2.2.2 a ha
      exact ⟨q, cur, fr, rfl, hh, hfr, hc, fun j hj => by
        have hj2 : j < n * i.size := by simpa using hj
        simp only [if_pos hj2]
        exact r j hj2⟩
  · have hnews : ∀ (j : Nat) (u : Value), ((List.range (m * i.size)).map g)[j]? = some u → w.cell? (ad.add j) = some u := by
      intro j u hu
      have hj : j < m * i.size := by
        have := (List.getElem?_eq_some_iff.1 hu).1
        simpa using this
      obtain ⟨b, o, he, hc⟩ := hr (by omega)
      injection he with he
      subst he
      rw [of_add rfl]
      have : g j = u := by
        simp [hj] at hu
        exact hu
      rw [← this]
      exact hc j hj
    have hone : ∀ u ∈ (List.range (m * i.size)).map g, u.oneCell' = true := by
      intro u hu
      simp at hu
      obtain ⟨j, hj, rfl⟩ := hu
      exact h1 j hj
    rcases A with _ | a
    · have hc0 := hl.2.2.1 rfl
      subst hc0
      have hn0 : n = 0 := by have := hl.1; omega
      subst hn0
      by_cases hm0 : m = 0
      · subst hm0
        refine ⟨none, 0, w, ?_, Ly.nil _ _ _ _, Keep.refl _ _, .inl rfl, fun x _ => Pre.refl _ _ _ _⟩
        simp [Builtin.append_, run_underlying ht, sizeOf, typeInfo, hi, Builtin.lenOf, Builtin.firstCells, loadCells, loadCellsFrom]
      · have hrun := run_append_nil (P := P) w t ty e i z ht hi hz ad m d ((List.range (m * i.size)).map g) (by simp) hnews (by omega) (by omega) (by have hb := hbytes; simp only [Nat.zero_add] at hb; omega)
        have hg := grown f 0 (fun _ _ => rfl)
        simp only [Nat.zero_mul, List.range_zero, List.map_nil, Nat.zero_add, Array.empty_append, Nat.not_lt_zero, if_false, Nat.sub_zero] at hg ⊢
        exact ⟨_, _, _, hrun, hg, kept _, .inr rfl, fun x hx => by cases hx⟩
    · obtain ⟨q, cur, fr, rfl, hh, hfr, hcs, r⟩ := hl.2.2.2 a rfl
      have hlen : ∀ j, j < n * i.size → j < cur.size := fun j hj => (Array.getElem?_eq_some_iff.1 (r j hj)).1
      by_cases hroom : n + m ≤ c
      · have hfit : n * i.size + ((List.range (m * i.size)).map g).length ≤ cur.size := by
          have := Nat.mul_le_mul_right i.size hroom
          simp only [List.length_map, List.length_range]
          omega
        by_cases hm0 : m = 0
        · subst hm0
          refine ⟨_, c, w, ?_, ⟨by have := hl.1; omega, hl.2.1, hl.2.2.1, fun a ha => ?_⟩, Keep.refl _ _, .inl rfl, fun x _ => Pre.refl _ _ _ _⟩
          · have := hl.1
            simp [Builtin.append_, run_underlying ht, sizeOf, typeInfo, hi, Builtin.lenOf, Builtin.firstCells, this, storeCells, loadCells, loadCellsFrom]
          · injection ha with ha
            subst ha
            exact ⟨q, cur, fr, rfl, hh, hfr, hcs, fun j hj => by
              have hj2 : j < n * i.size := by simpa using hj
              simp only [if_pos hj2]
              exact r j hj2⟩
        have hfr0 : fr = (0, 0) := by
          rcases hfr with h | ⟨h, _⟩
          · exact h
          · omega
        subst hfr0
        have hrun := run_append_room (P := P) w t ty e i ht hi q n c cur hh ad m d _ (by simp) hnews hone hroom hfit
        refine ⟨_, _, _, hrun, ⟨hroom, hl.2.1, (fun h => by cases h), fun a ha => ?_⟩, ⟨rfl, rfl, rfl, by simp, fun k _ hk => setRow_other w q k _ (fun e => hk (by rw [e]; exact List.mem_singleton.2 rfl))⟩, .inl rfl, fun x hx cur2 fr2 hc2 => ?_⟩
        rotate_left
        · obtain rfl := List.mem_singleton.1 hx
          rw [hh] at hc2
          injection hc2 with hc2
          injection hc2 with hc2 _ hf2
          subst hc2
          subst hf2
          refine ⟨_, setRow_heap w x cur _ e _ hh, ?_, fun j hj => ?_⟩
          · simp only [List.size_toArray, List.length_append, List.length_take, List.length_drop, Array.length_toList, List.length_map, List.length_range] at hfit ⊢
            omega
          · rw [List.getElem?_toArray, List.append_assoc, List.getElem?_append_left (by have := hlen j hj; simp; omega), List.getElem?_take, if_pos hj, Array.getElem?_toList]
        injection ha with ha
        subst ha
        refine ⟨q, _, (0, 0), rfl, setRow_heap w q cur _ e _ hh, .inl rfl, ?_, fun j hj => ?_⟩
        · simp only [List.size_toArray, List.length_append, List.length_take, List.length_drop, Array.length_toList, List.length_map, List.length_range] at hfit ⊢
          have := Nat.mul_le_mul_right i.size hroom
          omega
        · have htake : cur.toList.take (n * i.size) = (List.range (n * i.size)).map f := by
            apply List.ext_getElem?
            intro k
            by_cases hk : k < n * i.size
            · rw [List.getElem?_take, if_pos hk, Array.getElem?_toList, r k hk]
              simp [hk]
            · rw [List.getElem?_take, if_neg hk, List.getElem?_eq_none (by simp; omega)]
          rw [htake, List.getElem?_toArray, cells_join f g (n * i.size) (m * i.size) j (by omega)]
      · have holds : ∀ (j : Nat) (u : Value), ((List.range (n * i.size)).map f)[j]? = some u → w.cell? ((⟨q, 0, none⟩ : Addr).add j) = some u := by
          intro j u hu
          have hj : j < n * i.size := by
            have := (List.getElem?_eq_some_iff.1 hu).1
            simpa using this
          rw [of_add rfl]
          have h2 : f j = u := by
            simp [hj] at hu
            exact hu
          have := r j hj
          rw [h2] at this
          simp only [World.cell?, hh]
          simpa using this
        have hrun := run_append_grow (P := P) w t ty e i z ht hi hz ⟨q, 0, none⟩ n c ((List.range (n * i.size)).map f) (by simp) holds ad m d ((List.range (m * i.size)).map g) (by simp) hnews (by omega) (by omega) (growslice_fits (by omega) hbytes)
        exact ⟨_, _, _, hrun, grown f c (fun _ _ => rfl), kept _, .inr rfl, fun x hx => by
          obtain rfl := List.mem_singleton.1 hx
          exact Pre.of_eq (Below.heap_alloc w.drew _ _ (Array.getElem?_eq_some_iff.1 hh).1) _ _⟩

theorem wpList_append_ly {P : Program} {w : World} {ops : Array Oper} {rest : List Oper} {o : Oper} {a : Act} {Q : Exit → Act → World → Prop} (hgd : o.guard = none) (s x : Operand) (t : TypeId)
    (ho : o.op = .call { callee := .builtin .append, args := #[s, x], argTypes := #[t, t] })
    (e : TypeId) (i : TypeInfo) (z : Value) (size bytes : Nat) (ht : P.underlying t = some (.slice e)) (hi : P.info? e = some i) (hz : i.zero = some z)
    (hsize : i.size = size) (hby : i.bytes = bytes) (hzs : z.cells.size = size) (hpos : 0 < size)
    (A : Option Addr) (n c : Nat) (f : Nat → Value) (hs : a.eval s = .slice A n c) (hl : Ly w e size A n c f)
    (B : Option Addr) (m d : Nat) (g : Nat → Value) (hx : a.eval x = .slice B m d) (hr : Rd w B (m * size) g) (hm : m ≤ d) (hB : B = none → d = 0) (h1 : ∀ j, j < m * size → (g j).oneCell' = true)
    (h63 : n + m ≤ maxLen) (hbytes : (n + m) * bytes ≤ 140737488355328)
    (h : ∀ A' c' w', Ly w' e size A' (n + m) c' (fun j => if j < n * size then f j else g (j - n * size)) → Keep (blk A) w w' → (A' = A ∨ A' = some ⟨w.heap.size, 0, none⟩) → (∀ x, x ∈ blk A → Pre w w' x e (n * size)) → wpList P ops Q rest (a.put o.dst (.slice A' (n + m) c')) w') : wpList P ops Q (o :: rest) a w := by
  refine wpList_plain hgd fun K hK => ?_
  obtain ⟨A', c', w', hr, h2, h3, h5, h6⟩ := run_append_ly (P := P) w t o.type e i z size bytes ht hi hz hsize hby hzs hpos A n c f hl B m d g hr hm hB h1 h63 hbytes
  unfold Oper.wp execOp
  simp only [ho, resolve, invoke, builtin, Sem.run_bind, Sem.run_pure, Result.andThen_ok, List.map_toArray, List.map_cons, List.map_nil, hs, hx, hr]
  exact hK _ _ (h A' c' w' h2 h3 h5 h6)

theorem wp_append_ly {P : Program} {w : World} {o : Oper} {a : Act} {K : Act → World → Prop} {Q : Exit → Act → World → Prop} (s x : Operand) (t : TypeId)
    (ho : o.op = .call { callee := .builtin .append, args := #[s, x], argTypes := #[t, t] })
    (e : TypeId) (i : TypeInfo) (z : Value) (size bytes : Nat) (ht : P.underlying t = some (.slice e)) (hi : P.info? e = some i) (hz : i.zero = some z)
    (hsize : i.size = size) (hby : i.bytes = bytes) (hzs : z.cells.size = size) (hpos : 0 < size)
    (A : Option Addr) (n c : Nat) (f : Nat → Value) (hs : a.eval s = .slice A n c) (hl : Ly w e size A n c f)
    (B : Option Addr) (m d : Nat) (g : Nat → Value) (hx : a.eval x = .slice B m d) (hr : Rd w B (m * size) g) (hm : m ≤ d) (hB : B = none → d = 0) (h1 : ∀ j, j < m * size → (g j).oneCell' = true)
    (h63 : n + m ≤ maxLen) (hbytes : (n + m) * bytes ≤ 140737488355328)
    (h : ∀ A' c' w', Ly w' e size A' (n + m) c' (fun j => if j < n * size then f j else g (j - n * size)) → Keep (blk A) w w' → (A' = A ∨ A' = some ⟨w.heap.size, 0, none⟩) → (∀ x, x ∈ blk A → Pre w w' x e (n * size)) → K (a.put o.dst (.slice A' (n + m) c')) w') : o.wp P a w K Q := by
  obtain ⟨A', c', w', hr, h2, h3, h5, h6⟩ := run_append_ly (P := P) w t o.type e i z size bytes ht hi hz hsize hby hzs hpos A n c f hl B m d g hr hm hB h1 h63 hbytes
  unfold Oper.wp execOp
  simp only [ho, resolve, invoke, builtin, Sem.run_bind, Sem.run_pure, Result.andThen_ok, List.map_toArray, List.map_cons, List.map_nil, hs, hx, hr]
  exact h A' c' w' h2 h3 h5 h6
theorem step_append_ly {P : Program} {w : World} {ops : Array Oper} {o : Oper} {a : Act} {K : Act → World → Prop} {Q : Exit → Act → World → Prop} {E : Prop} (hgd : o.guard = none) (s x : Operand) (t : TypeId)
    (ho : o.op = .call { callee := .builtin .append, args := #[s, x], argTypes := #[t, t] })
    (e : TypeId) (i : TypeInfo) (z : Value) (size bytes : Nat) (ht : P.underlying t = some (.slice e)) (hi : P.info? e = some i) (hz : i.zero = some z)
    (hsize : i.size = size) (hby : i.bytes = bytes) (hzs : z.cells.size = size) (hpos : 0 < size)
    (A : Option Addr) (n c : Nat) (f : Nat → Value) (hs : a.eval s = .slice A n c) (hl : Ly w e size A n c f)
    (B : Option Addr) (m d : Nat) (g : Nat → Value) (hx : a.eval x = .slice B m d) (hr : Rd w B (m * size) g) (hm : m ≤ d) (hB : B = none → d = 0) (h1 : ∀ j, j < m * size → (g j).oneCell' = true)
    (h63 : n + m ≤ maxLen) (hbytes : (n + m) * bytes ≤ 140737488355328)
    (h : ∀ A' c' w', Ly w' e size A' (n + m) c' (fun j => if j < n * size then f j else g (j - n * size)) → Keep (blk A) w w' → (A' = A ∨ A' = some ⟨w.heap.size, 0, none⟩) → (∀ x, x ∈ blk A → Pre w w' x e (n * size)) → K (a.put o.dst (.slice A' (n + m) c')) w') :
    if Region.wanted o (yielded ops a.tmps) = true then Oper.wp P o a w K Q else E := by
  have hw : Region.wanted o (yielded ops a.tmps) = true := by simp [Region.wanted, hgd]
  rw [if_pos hw]
  exact wp_append_ly s x t ho e i z size bytes ht hi hz hsize hby hzs hpos A n c f hs hl B m d g hx hr hm hB h1 h63 hbytes h
end Go.Proofs.Ytmffeofgcnabiaa
