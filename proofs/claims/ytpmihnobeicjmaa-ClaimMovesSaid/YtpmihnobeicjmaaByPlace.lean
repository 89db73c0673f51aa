/- byPlace: the sound founds by rising place. -/
import Derived.Test.YtpmihnobeicjmaaClaim
import Derived.Test.YtpmihnobeicjmaaK
import Derived.Test.YtpmihnobeicjmaaH
namespace Go.Proofs.Ytpmihnobeicjmaa
open Go.RowKit
set_option linter.unusedVariables false
def isNilSl : Value → Bool
  | .slice none 0 0 => true
  | _ => false
theorem isNilSl_eq {v : Value} (h : isNilSl v = true) : v = .slice none 0 0 := by
  unfold isNilSl at h
  split at h
  · rfl
  · cases h
noncomputable def zcells (t : TypeId) : Array Value := (((Try.prog.info? t).bind (·.zero)).getD (.agg #[])).cells
theorem arr_of_all (cs : Array Value) (N : Nat) (z : Value) (p : Value → Bool) (hp : ∀ v, p v = true → v = z) (h : (cs.toList.length == N && cs.toList.all p) = true) : cs = (Array.range N).map (fun _ => z) := by
  simp only [Bool.and_eq_true, beq_iff_eq, List.all_eq_true] at h
  apply Array.ext
  · simpa using h.1
  · intro i h1 h2
    simp only [Array.getElem_map]
    exact hp _ (h.2 _ (by simp))
theorem zat_chk : ((zcells 47).toList.length == 96 && (zcells 47).toList.all isNilSl) = true := by kernel_rfl
theorem zat : zcells 47 = (Array.range 96).map (fun _ => .slice none 0 0) := arr_of_all _ _ _ isNilSl (fun _ h => isNilSl_eq h) zat_chk
theorem alloc_at0 (w : World) : (Instr.alloc 47 true (.tuple #[])).run Try.prog w = .ok (.pointer (some ⟨w.heap.size, 0, none⟩)) (w.alloc (.cells (zcells 47) 47)) := by kernel_rfl
theorem alloc_at (w : World) : (Instr.alloc 47 true (.tuple #[])).run Try.prog w = .ok (.pointer (some ⟨w.heap.size, 0, none⟩)) (w.alloc (rowObj 96 (fun _ => .slice none 0 0) 47)) := by
  rw [alloc_at0, zat]
  rfl
theorem size_at : (Try.prog.info? 47).map (·.size) = some 96 := by kernel_rfl
/-- The sound founds of place p. -/
def sel (L : List Fd) (p : Nat) : List Fd := L.filter fun f => f.sound && f.place == (p : Int)
theorem sel_snoc (L : List Fd) (f : Fd) (p : Nat) : sel (L ++ [f]) p = sel L p ++ if f.sound && f.place == (p : Int) then [f] else [] := by
  unfold sel
  rw [List.filter_append]
  simp only [List.filter_cons, List.filter_nil]
theorem sel_len (L : List Fd) (p : Nat) : (sel L p).length ≤ L.length := List.length_filter_le _ _
/-- The sound founds, by rising place. -/
def byP (L : List Fd) (k : Nat) : List Fd := (List.range k).flatMap fun p => sel L p
theorem take_snoc {L : List Fd} {k : Nat} (h : k < L.length) : L.take (k + 1) = L.take k ++ [L.getD k Fd.zero] := by
  rw [List.take_add_one, List.getD_eq_getElem?_getD, List.getElem?_eq_getElem h]
  rfl
/-- The cells of found k of a slice of founds. -/
theorem fd_cells {w : World} {A : Option Addr} {L : List Fd} (r : Rd w A (L.length * 6) (fdF L)) (k : Nat) (hk : k < L.length) :
    ∃ b o, A = some ⟨b, o, none⟩ ∧ ∀ m, m < 6 → w.cell? ⟨b, o + k * 6 + m, none⟩ = some ((L.getD k Fd.zero).cell m) := by
  obtain ⟨b, o, e, h⟩ := r (by omega)
  refine ⟨b, o, e, fun m hm => ?_⟩
  have h1 := h (k * 6 + m) (by omega)
  have e1 : (k * 6 + m) / 6 = k := by omega
  have e2 : (k * 6 + m) % 6 = m := by omega
  unfold fdF at h1
  rw [e1, e2] at h1
  rw [← h1, Nat.add_assoc]
theorem fd_cell6 {w : World} {b o k : Nat} {f : Fd} (h : ∀ m, m < 6 → w.cell? ⟨b, o + k * 6 + m, none⟩ = some (f.cell m)) :
    w.cell? ⟨b, o + k * 6, none⟩ = some (.int .i64 f.place) ∧ w.cell? ⟨b, o + k * 6 + 1, none⟩ = some (.int .i64 f.tp) ∧ w.cell? ⟨b, o + k * 6 + 2, none⟩ = some (.int .i64 f.of) ∧ w.cell? ⟨b, o + k * 6 + 3, none⟩ = some (.int .i64 f.seq) ∧ w.cell? ⟨b, o + k * 6 + 4, none⟩ = some (.int .i64 f.copy) ∧ w.cell? ⟨b, o + k * 6 + 5, none⟩ = some (.bool f.lost) :=
  ⟨h 0 (by omega), h 1 (by omega), h 2 (by omega), h 3 (by omega), h 4 (by omega), h 5 (by omega)⟩
/-- What holds at the head of the first loop. -/
structure ByIn (w : World) (g : Nat) (L : List Fd) (X : Nat → Option Addr) (C : Nat → Nat) (wr : World) : Prop where
  row : Row wr g 47 96 (fun p => .slice (X p) (sel L p).length (C p))
  ly : ∀ p, p < 96 → Ly wr 28 6 (X p) (sel L p).length (C p) (fdF (sel L p))
  new : ∀ p, p < 96 → ∀ x, x ∈ blk (X p) → w.heap.size ≤ x
  apart : ∀ p q, p < 96 → q < 96 → p ≠ q → ∀ x, x ∈ blk (X p) → x ∉ blk (X q)
  keep : Keep [] w wr
theorem ByIn.keep' {w : World} {g : Nat} {L : List Fd} {X : Nat → Option Addr} {C : Nat → Nat} {wr w' : World} (h : ByIn w g L X C wr) (k : Keep [] wr w') : ByIn w g L X C w' :=
  ⟨h.row.keep k (fun h => by cases h), fun p hp => (h.ly p hp).keep0 k, h.new, h.apart, h.keep.trans k⟩
theorem box_cells {w w5 : World} {t : TypeId} {cs : Array Value} (k : Keep [] (w.alloc (.cells cs t)) w5) (j : Nat) (v : Value) (h : cs[j]? = some v) : w5.cell? ⟨w.heap.size, j, none⟩ = some v := by
  rw [k.cell (p := ⟨w.heap.size, j, none⟩) (by simp) (fun h => by cases h)]
  simp only [World.cell?, heap_alloc_new]
  simpa using h
theorem Ly.row_ne {w : World} {t t' : TypeId} {s n c g m : Nat} {A : Option Addr} {f f' : Nat → Value} (h : Ly w t s A n c f) (r : Row w g t' m f') (ht : t ≠ t') : g ∉ blk A := by
  intro hx
  cases A with
  | none => cases hx
  | some a =>
    obtain ⟨b, cur, fr, rfl, hh, _⟩ := h.2.2.2 a rfl
    obtain rfl := List.mem_singleton.1 hx
    rw [r] at hh
    injection hh with hh
    injection hh with _ e
    exact ht e.symm
theorem fd_one {w : World} {g : Nat} {t : TypeId} (f : Fd) (h : w.heap[g]? = some (.cells f.arr t (0, 0))) : Rd w (some ⟨g, 0, none⟩) 6 f.cell := fun _ => ⟨g, 0, rfl, fun j hj => by
  simp only [World.cell?, h, Nat.zero_add]
  have : j = 0 ∨ j = 1 ∨ j = 2 ∨ j = 3 ∨ j = 4 ∨ j = 5 := by omega
  rcases this with rfl | rfl | rfl | rfl | rfl | rfl <;> rfl⟩
theorem fd_one_cell (f : Fd) (j : Nat) (hj : j < 1 * 6) : (f.cell j).oneCell' = true := by
  have : j = 0 ∨ j = 1 ∨ j = 2 ∨ j = 3 ∨ j = 4 ∨ j = 5 := by omega
  rcases this with rfl | rfl | rfl | rfl | rfl | rfl <;> rfl
theorem fdF_snoc (L : List Fd) (f : Fd) (j : Nat) (hj : j < (L.length + 1) * 6) : fdF (L ++ [f]) j = if j < L.length * 6 then fdF L j else f.cell (j - L.length * 6) := by
  unfold fdF
  by_cases h : j < L.length * 6
  · rw [if_pos h]
    have h2 : j / 6 < L.length := by omega
    simp [List.getElem?_append_left h2]
  · rw [if_neg h]
    have h2 : j / 6 = L.length := by omega
    have h3 : j - L.length * 6 = j % 6 := by omega
    rw [h2, h3]
    simp
def upd {α : Type} (X : Nat → α) (p : Nat) (y : α) : Nat → α := fun q => if q = p then y else X q
theorem ByIn.push {w : World} {L : List Fd} {X : Nat → Option Addr} {C : Nat → Nat} {w5 w6 : World} {f : Fd} {p0 cY : Nat} {Y : Option Addr} (h : ByIn w w.heap.size L X C w5) (hs : f.sound = true) (hp : f.place = p0) (hp1 : p0 < 96)
    (hy : Ly w6 28 6 Y ((sel L p0).length + 1) cY (fun j => if j < (sel L p0).length * 6 then fdF (sel L p0) j else f.cell (j - (sel L p0).length * 6))) (k : Keep (blk (X p0)) w5 w6) (hat : ∀ x, x ∈ blk Y → x ∈ blk (X p0) ∨ w5.heap.size ≤ x) :
    ByIn w w.heap.size (L ++ [f]) (upd X p0 Y) (upd C p0 cY) (w6.setCell ⟨w.heap.size, p0, none⟩ (.slice Y ((sel L p0).length + 1) cY)) := by
  have hnb := (h.ly p0 hp1).row_ne h.row (by decide)
  have r6 := h.row.keep k hnb
  have e0 : sel (L ++ [f]) p0 = sel L p0 ++ [f] := by rw [sel_snoc, hs, hp]; simp
  have e1 : ∀ p, p ≠ p0 → sel (L ++ [f]) p = sel L p := fun p hne => by
    rw [sel_snoc, if_neg, List.append_nil]
    rw [hp]
    simp
    omega
  have hge := h.row.lt
  refine ⟨?_, ?_, ?_, ?_, ?_⟩
  · refine (r6.set p0 _).congr (fun p hp2 => ?_)
    unfold put upd
    by_cases hq : p = p0
    · subst hq
      simp [e0]
    · simp [hq, e1 p hq]
  · intro p hp2
    by_cases hq : p = p0
    · subst hq
      have hf := hy.row_ne r6 (by decide)
      simp only [upd, if_pos, e0, List.length_append, List.length_singleton]
      exact (hy.congr (fun j hj => (fdF_snoc _ _ _ hj).symm)).far (fun x hx e => by
        have e2 : x = w.heap.size := e
        rw [e2] at hx
        exact hf hx) _
    · simp only [upd, if_neg hq, e1 p hq]
      have h1 := (h.ly p hp2).keep k (fun x hx => h.apart p p0 hp2 hp1 hq x hx)
      exact h1.far (fun x hx e => by
        have e2 : x = w.heap.size := e
        rw [e2] at hx
        exact h1.row_ne r6 (by decide) hx) _
  · intro p hp2 x hx
    by_cases hq : p = p0
    · subst hq
      simp only [upd, if_pos] at hx
      rcases hat x hx with h1 | h1
      · exact h.new p hp2 x h1
      · have := h.keep.size
        omega
    · simp only [upd, if_neg hq] at hx
      exact h.new p hp2 x hx
  · intro p q hp2 hq2 hne x hx
    by_cases h1 : p = p0
    · subst h1
      have h2 : q ≠ p := fun e => hne e.symm
      simp only [upd, if_pos, if_neg h2] at hx ⊢
      intro hx2
      rcases hat x hx with h3 | h3
      · exact h.apart p q hp2 hq2 hne x h3 hx2
      · have := (h.ly q hq2).blk_lt hx2
        omega
    · by_cases h2 : q = p0
      · subst h2
        simp only [upd, if_pos, if_neg h1] at hx ⊢
        intro hx2
        rcases hat x hx2 with h3 | h3
        · exact h.apart p q hp2 hq2 hne x hx h3
        · have := (h.ly p hp2).blk_lt hx
          omega
      · simp only [upd, if_neg h1, if_neg h2] at hx ⊢
        exact h.apart p q hp2 hq2 hne x hx
  · exact (h.keep.then k (fun x hx => .inr (h.new p0 hp1 x hx))).setCell _ _ (.inr (Nat.le_refl _))
theorem countP_split (a b c : Fd → Bool) (h : ∀ f, (a f = true ↔ False) ∧ (b f = true ↔ c f = true) ∨ (b f = true ↔ False) ∧ (a f = true ↔ c f = true)) (L : List Fd) : L.countP a + L.countP b = L.countP c := by
  induction L with
  | nil => rfl
  | cons f L ih =>
    simp only [List.countP_cons]
    rcases h f with ⟨h1, h2⟩ | ⟨h1, h2⟩
    · by_cases hc : c f = true
      · simp [h1, h2, hc]
        omega
      · simp [h1, h2, hc]
        omega
    · by_cases hc : c f = true
      · simp [h1, h2, hc]
        omega
      · simp [h1, h2, hc]
        omega
theorem byP_succ (L : List Fd) (k : Nat) : byP L (k + 1) = byP L k ++ sel L k := by
  unfold byP
  rw [List.range_succ, List.flatMap_append]
  simp
theorem byP_count (L : List Fd) (k : Nat) : (byP L k).length = L.countP (fun f => f.sound && decide (0 ≤ f.place ∧ f.place < (k : Int))) := by
  induction k with
  | zero =>
    have : (fun f : Fd => f.sound && decide (0 ≤ f.place ∧ f.place < ((0 : Nat) : Int))) = fun _ => false := by
      funext f
      have : ¬ (0 ≤ f.place ∧ f.place < ((0 : Nat) : Int)) := by omega
      simp [this]
    rw [this]
    simp [byP]
  | succ k ih =>
    rw [byP_succ, List.length_append, ih]
    show _ + (L.filter _).length = _
    rw [← List.countP_eq_length_filter]
    refine countP_split _ _ _ (fun f => ?_) L
    by_cases hs : f.sound = true
    · by_cases hk : f.place = (k : Int)
      · left
        simp [hs, hk]
        omega
      · right
        simp [hs, hk]
        omega
    · left
      simp [hs]
theorem byP_len (L : List Fd) (k : Nat) : (byP L k).length ≤ L.length := by
  rw [byP_count]
  exact List.countP_le_length
theorem fdF_one (L : List Fd) (j : Nat) : (fdF L j).oneCell' = true := fd_one_cell _ _ (by omega)
theorem fdF_append (L M : List Fd) (j : Nat) : fdF (L ++ M) j = if j < L.length * 6 then fdF L j else fdF M (j - L.length * 6) := by
  unfold fdF
  by_cases h : j < L.length * 6
  · rw [if_pos h]
    have h2 : j / 6 < L.length := by omega
    simp [List.getElem?_append_left h2]
  · rw [if_neg h]
    have h2 : L.length ≤ j / 6 := by omega
    have h3 : (j - L.length * 6) % 6 = j % 6 := by omega
    have h4 : (j - L.length * 6) / 6 = j / 6 - L.length := by omega
    rw [h3, h4]
    simp [List.getElem?_append_right h2]
theorem notAgg_founds (w : World) : (isAgg 24).run Try.prog w = .ok false w := by
  unfold isAgg
  rw [Sem.run_bind, run_underlying Try.underlying24 w]
  rfl
theorem size_founds : (Try.prog.info? 24).map (·.size) = some 1 := by kernel_rfl
theorem fd_range (f : Fd) : (Array.range 6).map f.cell = f.arr := by
  apply Array.ext
  · simp [Fd.arr]
  · intro i h1 h2
    have h3 : i < 6 := by simpa using h1
    have : i = 0 ∨ i = 1 ∨ i = 2 ∨ i = 3 ∨ i = 4 ∨ i = 5 := by omega
    rcases this with rfl | rfl | rfl | rfl | rfl | rfl <;> simp [Fd.cell, Fd.arr]
theorem arr_agg (f : Fd) : Value.agg f.arr = agg 6 f.cell := by
  unfold agg
  rw [fd_range]
theorem size_found : (Try.prog.info? 28).map (·.size) = some 6 := by kernel_rfl
theorem cell_one (f : Fd) (j : Nat) (hj : j < 6) : (f.cell j).oneCell' = true := fd_one_cell f j (by omega)
theorem Row.fd {w : World} {g : Nat} {f : Fd} (h : w.heap[g]? = some (.cells f.arr 28 (0, 0))) : Row w g 28 6 f.cell := by
  unfold Row
  rw [fd_range]
  exact h
/-- A found is made, read, written as a whole. -/
theorem Ru.allocfd {w : World} {K : Value → World → Prop} (k : ∀ g w', g = w.heap.size → w'.heap.size = w.heap.size + 1 → Row w' g 28 6 Fd.zero.cell → Keep [] w w' → K (.pointer (some ⟨g, 0, none⟩)) w') : Ru Try.prog (Instr.alloc 28 true (.tuple #[])) w K :=
  ⟨_, w.alloc (.cells Fd.zero.arr 28), by kernel_rfl, k _ _ rfl (by simp) (Row.fd (heap_alloc_new _ _)) ((Keep.refl _ _).alloc _)⟩
theorem Ru.boxfd {w : World} (f : Fd) {K : Value → World → Prop} (k : ∀ g w', g = w.heap.size → w'.heap.size = w.heap.size + 1 → Row w' g 28 6 f.cell → Keep [] w w' → K (.pointer (some ⟨g, 0, none⟩)) w') : Ru Try.prog (Instr.box 28 (.agg f.arr)) w K :=
  ⟨_, w.alloc (.cells f.arr 28), rfl, k _ _ rfl (by simp) (Row.fd (heap_alloc_new _ _)) ((Keep.refl _ _).alloc _)⟩
theorem run_fd {w : World} {g o N : Nat} {t : TypeId} {F : Nat → Value} {f : Fd} (r : Row w g t N F) (hn : o + 6 ≤ N) (hf : ∀ j, j < 6 → F (o + j) = f.cell j) : (loadVar 28 ⟨g, o, none⟩).run Try.prog w = .ok (.agg f.arr) w := by
  have h := run_load_agg (P := Try.prog) r hn Try.underlying28 rfl size_found
  rw [show agg 6 (fun j => F (o + j)) = .agg f.arr from (agg_congr hf).trans (arr_agg f).symm] at h
  exact h
theorem Ru.ldfd {w : World} {g : Nat} {t : TypeId} {f : Fd} {K : Value → World → Prop} (r : Row w g t 6 f.cell) (k : K (.agg f.arr) w) : Ru Try.prog (loadVar 28 ⟨g, 0, none⟩) w K := ⟨_, _, run_fd r (by omega) (fun j _ => by rw [Nat.zero_add]), k⟩
theorem RuQ.ldfd {C : World → Prop} {g : Nat} {t : TypeId} {f : Fd} {K : Value → Prop} (r : ∀ w, C w → Row w g t 6 f.cell) (k : K (.agg f.arr)) : RuQ Try.prog C (loadVar 28 ⟨g, 0, none⟩) K := ⟨_, fun w hw => run_fd (r w hw) (by omega) (fun j _ => by rw [Nat.zero_add]), k⟩
theorem load6 {w : World} {g o : Nat} {f : Fd} (h : ∀ m, m < 6 → w.cell? ⟨g, o + m, none⟩ = some (f.cell m)) : (loadVar 28 ⟨g, o, none⟩).run Try.prog w = .ok (.agg f.arr) w := by
  have e : ∀ m, m < 6 → (load ((⟨g, o, none⟩ : Addr).add m)).run Try.prog w = .ok (f.cell m) w := fun m hm => by
    rw [add_none]
    simp [load, Sem.run, h m hm]
  have ha : (isAgg 28).run Try.prog w = .ok true w := run_isAgg_of Try.underlying28 rfl w
  have hs : (sizeOf 28).run Try.prog w = .ok 6 w := size_of_is (by kernel_rfl) w
  simp only [loadVar, Sem.run_bind, ha, Result.andThen_ok, if_true, hs, loadCells, loadCellsFrom, e 0 (by omega), e 1 (by omega), e 2 (by omega), e 3 (by omega), e 4 (by omega), e 5 (by omega), Sem.run_pure]
  rfl
theorem Ru.ldfds {w : World} {g o : Nat} {f : Fd} {K : Value → World → Prop} (h : ∀ m, m < 6 → w.cell? ⟨g, o + m, none⟩ = some (f.cell m)) (k : K (.agg f.arr) w) : Ru Try.prog (loadVar 28 ⟨g, o, none⟩) w K := ⟨_, _, load6 h, k⟩
theorem Ru.stfd {w : World} {g : Nat} {t : TypeId} {b : Nat → Value} {f : Fd} {K : Unit → World → Prop} (r : Row w g t 6 b) (k : ∀ w', Row w' g t 6 f.cell → Keep [g] w w' → K () w') : Ru Try.prog (storeVar 28 ⟨g, 0, none⟩ (.agg f.arr)) w K := by
  rw [arr_agg]
  exact Ru.sta r size_found (by omega) (cell_one f) (fun w' r' k' => k w' (r'.congr (fun j hj => by unfold lay; rw [if_pos (by omega)]; simp)) k')
theorem sound_sp (f : Fd) (w : World) : Spec Try.prog 23 #[.agg f.arr] w fun v w' => v = .bool f.sound ∧ Keep [] w w' := Spec.of_calls (by kernel_rfl) (sound_ok f w)
theorem buildfd_run (f : Fd) (w : World) : (Instr.buildSlice 24 1 #[(0, .agg f.arr)]).run Try.prog w = .ok (.slice (some ⟨w.heap.size, 0, none⟩) 1 1) (w.alloc (.cells f.arr 28)) := by kernel_rfl
theorem Ru.buildfd {w : World} (f : Fd) {K : Value → World → Prop} (k : ∀ g w', g = w.heap.size → w'.heap.size = w.heap.size + 1 → Row w' g 28 6 f.cell → Keep [] w w' → K (.slice (some ⟨g, 0, none⟩) 1 1) w') : Ru Try.prog (Instr.buildSlice 24 1 #[(0, .agg f.arr)]) w K :=
  ⟨_, _, buildfd_run f w, k _ _ rfl (by simp) (Row.fd (heap_alloc_new _ _)) ((Keep.refl _ _).alloc _)⟩
def ByPost (L : List Fd) (w : World) (v : Value) (w' : World) : Prop := ∃ A c, v = .slice A (byP L 96).length c ∧ Ly w' 28 6 A (byP L 96).length c (fdF (byP L 96)) ∧ (∀ x, x ∈ blk A → w.heap.size ≤ x) ∧ Keep [] w w'
set_option maxHeartbeats 1000000 in
theorem byPlace_ok (A : Option Addr) (c : Nat) (L : List Fd) (w : World) (hr : Rd w A (L.length * 6) (fdF L)) (hn : L.length * 48 ≤ 140737488351232) :
    Spec Try.prog 21 #[.slice A L.length c] w (ByPost L w) := by
  obtain ⟨i0, hi, hz0, hz1, hz2⟩ := info_parts found_info
  refine spec_of_wpE (T := tt) tt_ok Try.func21 rfl (by decide +kernel) Try.ntmps21 (by simp) ?_
  conv => whnf
  repeat (first
    | ((refine HS.mk trivial ?_); conv => whnf)
    | ((refine Br.t ?_); conv => whnf)
    | ((refine Br.f ?_); conv => whnf)
    | ((refine Pk.f ?_); conv => whnf)
    | ((refine Pk.t ?_); conv => whnf)
    | ((refine Pk.and ?_); conv => whnf)
    | ((refine Pk.or ?_); conv => whnf)
    | ((refine Ix.nat (by omega) ?_); conv => whnf)
    | ((refine Ix.of _ (by rfl) (by omega) ?_); conv => whnf)
    | ((refine Ix.int (by omega) (by omega) ?_); conv => whnf)
    | ((refine Ar.i64 (by omega) (by omega) ?_); conv => whnf)
    | ((refine Ar.u8 (by omega) (by omega) ?_); conv => whnf)
    | ((refine Ar.u64 (by omega) (by omega) ?_); conv => whnf)
    | ((refine Dv.quo (by omega) (by omega) (by omega) ?_); conv => whnf)
    | ((refine Dv.rem (by omega) (by omega) ?_); conv => whnf)
    | ((refine Br.yes (by omega) ?_); conv => whnf)
    | ((refine Br.no (by omega) ?_); conv => whnf)
    | ((refine Br.nyes (by omega) ?_); conv => whnf)
    | ((refine Br.nno (by omega) ?_); conv => whnf)
    | ((refine Br.is (by assumption) ?_); conv => whnf)
    | ((refine Br.isnt (by assumption) ?_); conv => whnf)
    | ((refine Ld.of (by assumption) ?_); conv => whnf)
    | ((refine Ru.neq_nil0 ?_); conv => whnf)
    | ((refine Ru.neq_nil1 (by decide) ?_); conv => whnf)
    | ((refine Ru.eql_nil0 ?_); conv => whnf)
    | ((refine Ru.eql_nil1 (by decide) ?_); conv => whnf)
    | ((refine Ru.eql_errs (by decide) (by decide) ?_); conv => whnf)
    | ((refine Ru.eql_err0 (by decide) ?_); conv => whnf)
    | ((refine Ru.neq_errs (by decide) (by decide) ?_); conv => whnf)
    | ((refine Ru.neq_err0 (by decide) ?_); conv => whnf)
    | ((refine Ru.neq_nil rfl ?_); conv => whnf)
    | ((refine Ru.eql_nil rfl ?_); conv => whnf)
    | ((refine Ru.eql_err rfl (by decide) ?_); conv => whnf)
    | ((refine Ru.neq_err rfl (by decide) ?_); conv => whnf)
    | ((refine Ru.eqlb Try.underlying4 ?_); conv => whnf)
    | ((refine Ru.neqb Try.underlying4 ?_); conv => whnf)
    | ((refine RuQ.eqlb Try.underlying4 ?_); conv => whnf)
    | ((refine RuQ.neqb Try.underlying4 ?_); conv => whnf)
    | ((refine CW.seq tt_ok ?_); conv => whnf))
  refine Ru.of (alloc_at w) ?_
  conv => whnf
  repeat (first
    | ((refine HS.mk trivial ?_); conv => whnf)
    | ((refine Br.t ?_); conv => whnf)
    | ((refine Br.f ?_); conv => whnf)
    | ((refine Pk.f ?_); conv => whnf)
    | ((refine Pk.t ?_); conv => whnf)
    | ((refine Pk.and ?_); conv => whnf)
    | ((refine Pk.or ?_); conv => whnf)
    | ((refine Ix.nat (by omega) ?_); conv => whnf)
    | ((refine Ix.of _ (by rfl) (by omega) ?_); conv => whnf)
    | ((refine Ix.int (by omega) (by omega) ?_); conv => whnf)
    | ((refine Ar.i64 (by omega) (by omega) ?_); conv => whnf)
    | ((refine Ar.u8 (by omega) (by omega) ?_); conv => whnf)
    | ((refine Ar.u64 (by omega) (by omega) ?_); conv => whnf)
    | ((refine Dv.quo (by omega) (by omega) (by omega) ?_); conv => whnf)
    | ((refine Dv.rem (by omega) (by omega) ?_); conv => whnf)
    | ((refine Br.yes (by omega) ?_); conv => whnf)
    | ((refine Br.no (by omega) ?_); conv => whnf)
    | ((refine Br.nyes (by omega) ?_); conv => whnf)
    | ((refine Br.nno (by omega) ?_); conv => whnf)
    | ((refine Br.is (by assumption) ?_); conv => whnf)
    | ((refine Br.isnt (by assumption) ?_); conv => whnf)
    | ((refine Ld.of (by assumption) ?_); conv => whnf)
    | ((refine Ru.neq_nil0 ?_); conv => whnf)
    | ((refine Ru.neq_nil1 (by decide) ?_); conv => whnf)
    | ((refine Ru.eql_nil0 ?_); conv => whnf)
    | ((refine Ru.eql_nil1 (by decide) ?_); conv => whnf)
    | ((refine Ru.eql_errs (by decide) (by decide) ?_); conv => whnf)
    | ((refine Ru.eql_err0 (by decide) ?_); conv => whnf)
    | ((refine Ru.neq_errs (by decide) (by decide) ?_); conv => whnf)
    | ((refine Ru.neq_err0 (by decide) ?_); conv => whnf)
    | ((refine Ru.neq_nil rfl ?_); conv => whnf)
    | ((refine Ru.eql_nil rfl ?_); conv => whnf)
    | ((refine Ru.eql_err rfl (by decide) ?_); conv => whnf)
    | ((refine Ru.neq_err rfl (by decide) ?_); conv => whnf)
    | ((refine Ru.eqlb Try.underlying4 ?_); conv => whnf)
    | ((refine Ru.neqb Try.underlying4 ?_); conv => whnf)
    | ((refine RuQ.eqlb Try.underlying4 ?_); conv => whnf)
    | ((refine RuQ.neqb Try.underlying4 ?_); conv => whnf)
    | ((refine CW.seq tt_ok ?_); conv => whnf))
  refine CW.loop (ι := Nat × (Nat → Option Addr) × (Nat → Nat)) (fun i wr => i.1 ≤ L.length ∧ ByIn w w.heap.size (L.take i.1) i.2.1 i.2.2 wr) (fun i => [(0, .slice A L.length c), (2, .slice none 0 0), (3, .pointer (some ⟨w.heap.size, 0, none⟩)), (9, .slice A L.length c), (10, .int .i64 L.length), (11, .int .i64 i.1)]) (fun i => L.length - i.1) (0, fun _ => none, fun _ => 0) tt_ok ⟨by simp, Row.obj w _ _ _, fun p _ => Ly.nil _ _ _ _, (fun _ _ _ h => by cases h), (fun _ _ _ _ _ _ h => by cases h), (Keep.refl _ _).alloc _⟩ ?_ ?_
  · exact ⟨rfl, rfl, rfl, rfl, rfl, rfl, trivial⟩
  rintro ⟨k, X, C⟩ wr ⟨hk, I⟩
  simp only at hk I
  by_cases hlt : k < L.length
  · obtain ⟨b, o, rfl, hc⟩ := fd_cells (hr.keep0 I.keep) k hlt
    have htk := take_snoc hlt
    generalize L.getD k Fd.zero = f at *
    conv => whnf
    repeat (first
      | ((refine HS.mk trivial ?_); conv => whnf)
      | ((refine Br.t ?_); conv => whnf)
      | ((refine Br.f ?_); conv => whnf)
      | ((refine Pk.f ?_); conv => whnf)
      | ((refine Pk.t ?_); conv => whnf)
      | ((refine Pk.and ?_); conv => whnf)
      | ((refine Pk.or ?_); conv => whnf)
      | ((refine Ix.nat (by omega) ?_); conv => whnf)
      | ((refine Ix.of _ (by rfl) (by omega) ?_); conv => whnf)
      | ((refine Ix.int (by omega) (by omega) ?_); conv => whnf)
      | ((refine Ar.i64 (by omega) (by omega) ?_); conv => whnf)
      | ((refine Ar.u8 (by omega) (by omega) ?_); conv => whnf)
      | ((refine Ar.u64 (by omega) (by omega) ?_); conv => whnf)
      | ((refine Dv.quo (by omega) (by omega) (by omega) ?_); conv => whnf)
      | ((refine Dv.rem (by omega) (by omega) ?_); conv => whnf)
      | ((refine Br.yes (by omega) ?_); conv => whnf)
      | ((refine Br.no (by omega) ?_); conv => whnf)
      | ((refine Br.nyes (by omega) ?_); conv => whnf)
      | ((refine Br.nno (by omega) ?_); conv => whnf)
      | ((refine Br.is (by assumption) ?_); conv => whnf)
      | ((refine Br.isnt (by assumption) ?_); conv => whnf)
      | ((refine Ld.of (by assumption) ?_); conv => whnf)
      | ((refine Ru.neq_nil0 ?_); conv => whnf)
      | ((refine Ru.neq_nil1 (by decide) ?_); conv => whnf)
      | ((refine Ru.eql_nil0 ?_); conv => whnf)
      | ((refine Ru.eql_nil1 (by decide) ?_); conv => whnf)
      | ((refine Ru.eql_errs (by decide) (by decide) ?_); conv => whnf)
      | ((refine Ru.eql_err0 (by decide) ?_); conv => whnf)
      | ((refine Ru.neq_errs (by decide) (by decide) ?_); conv => whnf)
      | ((refine Ru.neq_err0 (by decide) ?_); conv => whnf)
      | ((refine Ru.neq_nil rfl ?_); conv => whnf)
      | ((refine Ru.eql_nil rfl ?_); conv => whnf)
      | ((refine Ru.eql_err rfl (by decide) ?_); conv => whnf)
      | ((refine Ru.neq_err rfl (by decide) ?_); conv => whnf)
      | ((refine Ru.eqlb Try.underlying4 ?_); conv => whnf)
      | ((refine Ru.neqb Try.underlying4 ?_); conv => whnf)
      | ((refine RuQ.eqlb Try.underlying4 ?_); conv => whnf)
      | ((refine RuQ.neqb Try.underlying4 ?_); conv => whnf)
      | ((refine CW.seq tt_ok ?_); conv => whnf))
    refine Ru.ldfds hc ?_
    conv => whnf
    repeat (first
      | ((refine HS.mk trivial ?_); conv => whnf)
      | ((refine Br.t ?_); conv => whnf)
      | ((refine Br.f ?_); conv => whnf)
      | ((refine Pk.f ?_); conv => whnf)
      | ((refine Pk.t ?_); conv => whnf)
      | ((refine Pk.and ?_); conv => whnf)
      | ((refine Pk.or ?_); conv => whnf)
      | ((refine Ix.nat (by omega) ?_); conv => whnf)
      | ((refine Ix.of _ (by rfl) (by omega) ?_); conv => whnf)
      | ((refine Ix.int (by omega) (by omega) ?_); conv => whnf)
      | ((refine Ar.i64 (by omega) (by omega) ?_); conv => whnf)
      | ((refine Ar.u8 (by omega) (by omega) ?_); conv => whnf)
      | ((refine Ar.u64 (by omega) (by omega) ?_); conv => whnf)
      | ((refine Dv.quo (by omega) (by omega) (by omega) ?_); conv => whnf)
      | ((refine Dv.rem (by omega) (by omega) ?_); conv => whnf)
      | ((refine Br.yes (by omega) ?_); conv => whnf)
      | ((refine Br.no (by omega) ?_); conv => whnf)
      | ((refine Br.nyes (by omega) ?_); conv => whnf)
      | ((refine Br.nno (by omega) ?_); conv => whnf)
      | ((refine Br.is (by assumption) ?_); conv => whnf)
      | ((refine Br.isnt (by assumption) ?_); conv => whnf)
      | ((refine Ld.of (by assumption) ?_); conv => whnf)
      | ((refine Ru.neq_nil0 ?_); conv => whnf)
      | ((refine Ru.neq_nil1 (by decide) ?_); conv => whnf)
      | ((refine Ru.eql_nil0 ?_); conv => whnf)
      | ((refine Ru.eql_nil1 (by decide) ?_); conv => whnf)
      | ((refine Ru.eql_errs (by decide) (by decide) ?_); conv => whnf)
      | ((refine Ru.eql_err0 (by decide) ?_); conv => whnf)
      | ((refine Ru.neq_errs (by decide) (by decide) ?_); conv => whnf)
      | ((refine Ru.neq_err0 (by decide) ?_); conv => whnf)
      | ((refine Ru.neq_nil rfl ?_); conv => whnf)
      | ((refine Ru.eql_nil rfl ?_); conv => whnf)
      | ((refine Ru.eql_err rfl (by decide) ?_); conv => whnf)
      | ((refine Ru.neq_err rfl (by decide) ?_); conv => whnf)
      | ((refine Ru.eqlb Try.underlying4 ?_); conv => whnf)
      | ((refine Ru.neqb Try.underlying4 ?_); conv => whnf)
      | ((refine RuQ.eqlb Try.underlying4 ?_); conv => whnf)
      | ((refine RuQ.neqb Try.underlying4 ?_); conv => whnf)
      | ((refine CW.seq tt_ok ?_); conv => whnf))
    refine Ru.allocfd ?_
    intro g1 w1 hg1 hs1 r1 k1
    conv => whnf
    repeat (first
      | ((refine HS.mk trivial ?_); conv => whnf)
      | ((refine Br.t ?_); conv => whnf)
      | ((refine Br.f ?_); conv => whnf)
      | ((refine Pk.f ?_); conv => whnf)
      | ((refine Pk.t ?_); conv => whnf)
      | ((refine Pk.and ?_); conv => whnf)
      | ((refine Pk.or ?_); conv => whnf)
      | ((refine Ix.nat (by omega) ?_); conv => whnf)
      | ((refine Ix.of _ (by rfl) (by omega) ?_); conv => whnf)
      | ((refine Ix.int (by omega) (by omega) ?_); conv => whnf)
      | ((refine Ar.i64 (by omega) (by omega) ?_); conv => whnf)
      | ((refine Ar.u8 (by omega) (by omega) ?_); conv => whnf)
      | ((refine Ar.u64 (by omega) (by omega) ?_); conv => whnf)
      | ((refine Dv.quo (by omega) (by omega) (by omega) ?_); conv => whnf)
      | ((refine Dv.rem (by omega) (by omega) ?_); conv => whnf)
      | ((refine Br.yes (by omega) ?_); conv => whnf)
      | ((refine Br.no (by omega) ?_); conv => whnf)
      | ((refine Br.nyes (by omega) ?_); conv => whnf)
      | ((refine Br.nno (by omega) ?_); conv => whnf)
      | ((refine Br.is (by assumption) ?_); conv => whnf)
      | ((refine Br.isnt (by assumption) ?_); conv => whnf)
      | ((refine Ld.of (by assumption) ?_); conv => whnf)
      | ((refine Ru.neq_nil0 ?_); conv => whnf)
      | ((refine Ru.neq_nil1 (by decide) ?_); conv => whnf)
      | ((refine Ru.eql_nil0 ?_); conv => whnf)
      | ((refine Ru.eql_nil1 (by decide) ?_); conv => whnf)
      | ((refine Ru.eql_errs (by decide) (by decide) ?_); conv => whnf)
      | ((refine Ru.eql_err0 (by decide) ?_); conv => whnf)
      | ((refine Ru.neq_errs (by decide) (by decide) ?_); conv => whnf)
      | ((refine Ru.neq_err0 (by decide) ?_); conv => whnf)
      | ((refine Ru.neq_nil rfl ?_); conv => whnf)
      | ((refine Ru.eql_nil rfl ?_); conv => whnf)
      | ((refine Ru.eql_err rfl (by decide) ?_); conv => whnf)
      | ((refine Ru.neq_err rfl (by decide) ?_); conv => whnf)
      | ((refine Ru.eqlb Try.underlying4 ?_); conv => whnf)
      | ((refine Ru.neqb Try.underlying4 ?_); conv => whnf)
      | ((refine RuQ.eqlb Try.underlying4 ?_); conv => whnf)
      | ((refine RuQ.neqb Try.underlying4 ?_); conv => whnf)
      | ((refine CW.seq tt_ok ?_); conv => whnf))
    refine Ru.stfd r1 ?_
    intro w2 r2 k2
    conv => whnf
    repeat (first
      | ((refine HS.mk trivial ?_); conv => whnf)
      | ((refine Br.t ?_); conv => whnf)
      | ((refine Br.f ?_); conv => whnf)
      | ((refine Pk.f ?_); conv => whnf)
      | ((refine Pk.t ?_); conv => whnf)
      | ((refine Pk.and ?_); conv => whnf)
      | ((refine Pk.or ?_); conv => whnf)
      | ((refine Ix.nat (by omega) ?_); conv => whnf)
      | ((refine Ix.of _ (by rfl) (by omega) ?_); conv => whnf)
      | ((refine Ix.int (by omega) (by omega) ?_); conv => whnf)
      | ((refine Ar.i64 (by omega) (by omega) ?_); conv => whnf)
      | ((refine Ar.u8 (by omega) (by omega) ?_); conv => whnf)
      | ((refine Ar.u64 (by omega) (by omega) ?_); conv => whnf)
      | ((refine Dv.quo (by omega) (by omega) (by omega) ?_); conv => whnf)
      | ((refine Dv.rem (by omega) (by omega) ?_); conv => whnf)
      | ((refine Br.yes (by omega) ?_); conv => whnf)
      | ((refine Br.no (by omega) ?_); conv => whnf)
      | ((refine Br.nyes (by omega) ?_); conv => whnf)
      | ((refine Br.nno (by omega) ?_); conv => whnf)
      | ((refine Br.is (by assumption) ?_); conv => whnf)
      | ((refine Br.isnt (by assumption) ?_); conv => whnf)
      | ((refine Ld.of (by assumption) ?_); conv => whnf)
      | ((refine Ru.neq_nil0 ?_); conv => whnf)
      | ((refine Ru.neq_nil1 (by decide) ?_); conv => whnf)
      | ((refine Ru.eql_nil0 ?_); conv => whnf)
      | ((refine Ru.eql_nil1 (by decide) ?_); conv => whnf)
      | ((refine Ru.eql_errs (by decide) (by decide) ?_); conv => whnf)
      | ((refine Ru.eql_err0 (by decide) ?_); conv => whnf)
      | ((refine Ru.neq_errs (by decide) (by decide) ?_); conv => whnf)
      | ((refine Ru.neq_err0 (by decide) ?_); conv => whnf)
      | ((refine Ru.neq_nil rfl ?_); conv => whnf)
      | ((refine Ru.eql_nil rfl ?_); conv => whnf)
      | ((refine Ru.eql_err rfl (by decide) ?_); conv => whnf)
      | ((refine Ru.neq_err rfl (by decide) ?_); conv => whnf)
      | ((refine Ru.eqlb Try.underlying4 ?_); conv => whnf)
      | ((refine Ru.neqb Try.underlying4 ?_); conv => whnf)
      | ((refine RuQ.eqlb Try.underlying4 ?_); conv => whnf)
      | ((refine RuQ.neqb Try.underlying4 ?_); conv => whnf)
      | ((refine CW.seq tt_ok ?_); conv => whnf))
    refine Ru.ldfd r2 ?_
    conv => whnf
    repeat (first
      | ((refine HS.mk trivial ?_); conv => whnf)
      | ((refine Br.t ?_); conv => whnf)
      | ((refine Br.f ?_); conv => whnf)
      | ((refine Pk.f ?_); conv => whnf)
      | ((refine Pk.t ?_); conv => whnf)
      | ((refine Pk.and ?_); conv => whnf)
      | ((refine Pk.or ?_); conv => whnf)
      | ((refine Ix.nat (by omega) ?_); conv => whnf)
      | ((refine Ix.of _ (by rfl) (by omega) ?_); conv => whnf)
      | ((refine Ix.int (by omega) (by omega) ?_); conv => whnf)
      | ((refine Ar.i64 (by omega) (by omega) ?_); conv => whnf)
      | ((refine Ar.u8 (by omega) (by omega) ?_); conv => whnf)
      | ((refine Ar.u64 (by omega) (by omega) ?_); conv => whnf)
      | ((refine Dv.quo (by omega) (by omega) (by omega) ?_); conv => whnf)
      | ((refine Dv.rem (by omega) (by omega) ?_); conv => whnf)
      | ((refine Br.yes (by omega) ?_); conv => whnf)
      | ((refine Br.no (by omega) ?_); conv => whnf)
      | ((refine Br.nyes (by omega) ?_); conv => whnf)
      | ((refine Br.nno (by omega) ?_); conv => whnf)
      | ((refine Br.is (by assumption) ?_); conv => whnf)
      | ((refine Br.isnt (by assumption) ?_); conv => whnf)
      | ((refine Ld.of (by assumption) ?_); conv => whnf)
      | ((refine Ru.neq_nil0 ?_); conv => whnf)
      | ((refine Ru.neq_nil1 (by decide) ?_); conv => whnf)
      | ((refine Ru.eql_nil0 ?_); conv => whnf)
      | ((refine Ru.eql_nil1 (by decide) ?_); conv => whnf)
      | ((refine Ru.eql_errs (by decide) (by decide) ?_); conv => whnf)
      | ((refine Ru.eql_err0 (by decide) ?_); conv => whnf)
      | ((refine Ru.neq_errs (by decide) (by decide) ?_); conv => whnf)
      | ((refine Ru.neq_err0 (by decide) ?_); conv => whnf)
      | ((refine Ru.neq_nil rfl ?_); conv => whnf)
      | ((refine Ru.eql_nil rfl ?_); conv => whnf)
      | ((refine Ru.eql_err rfl (by decide) ?_); conv => whnf)
      | ((refine Ru.neq_err rfl (by decide) ?_); conv => whnf)
      | ((refine Ru.eqlb Try.underlying4 ?_); conv => whnf)
      | ((refine Ru.neqb Try.underlying4 ?_); conv => whnf)
      | ((refine RuQ.eqlb Try.underlying4 ?_); conv => whnf)
      | ((refine RuQ.neqb Try.underlying4 ?_); conv => whnf)
      | ((refine CW.seq tt_ok ?_); conv => whnf))
    refine Ca.of (sound_sp f w2) ?_
    rintro _ w3 ⟨rfl, k3⟩
    have r3 := r2.keep k3 (by simp)
    have hG := I.row.lt
    have k23 : Keep [g1] wr w3 := ((k1.mono (by simp)).trans k2).trans (k3.mono (by simp))
    have kw : Keep [] wr w3 := (k1.then (T := [g1]) (k2.trans (k3.mono (by simp))) (fun x hx => .inr (by rw [List.mem_singleton.1 hx, hg1]; exact Nat.le_refl _)))
    have I3 := I.keep' kw
    conv => whnf
    repeat (first
      | ((refine HS.mk trivial ?_); conv => whnf)
      | ((refine Br.t ?_); conv => whnf)
      | ((refine Br.f ?_); conv => whnf)
      | ((refine Pk.f ?_); conv => whnf)
      | ((refine Pk.t ?_); conv => whnf)
      | ((refine Pk.and ?_); conv => whnf)
      | ((refine Pk.or ?_); conv => whnf)
      | ((refine Ix.nat (by omega) ?_); conv => whnf)
      | ((refine Ix.of _ (by rfl) (by omega) ?_); conv => whnf)
      | ((refine Ix.int (by omega) (by omega) ?_); conv => whnf)
      | ((refine Ar.i64 (by omega) (by omega) ?_); conv => whnf)
      | ((refine Ar.u8 (by omega) (by omega) ?_); conv => whnf)
      | ((refine Ar.u64 (by omega) (by omega) ?_); conv => whnf)
      | ((refine Dv.quo (by omega) (by omega) (by omega) ?_); conv => whnf)
      | ((refine Dv.rem (by omega) (by omega) ?_); conv => whnf)
      | ((refine Br.yes (by omega) ?_); conv => whnf)
      | ((refine Br.no (by omega) ?_); conv => whnf)
      | ((refine Br.nyes (by omega) ?_); conv => whnf)
      | ((refine Br.nno (by omega) ?_); conv => whnf)
      | ((refine Br.is (by assumption) ?_); conv => whnf)
      | ((refine Br.isnt (by assumption) ?_); conv => whnf)
      | ((refine Ld.of (by assumption) ?_); conv => whnf)
      | ((refine Ru.neq_nil0 ?_); conv => whnf)
      | ((refine Ru.neq_nil1 (by decide) ?_); conv => whnf)
      | ((refine Ru.eql_nil0 ?_); conv => whnf)
      | ((refine Ru.eql_nil1 (by decide) ?_); conv => whnf)
      | ((refine Ru.eql_errs (by decide) (by decide) ?_); conv => whnf)
      | ((refine Ru.eql_err0 (by decide) ?_); conv => whnf)
      | ((refine Ru.neq_errs (by decide) (by decide) ?_); conv => whnf)
      | ((refine Ru.neq_err0 (by decide) ?_); conv => whnf)
      | ((refine Ru.neq_nil rfl ?_); conv => whnf)
      | ((refine Ru.eql_nil rfl ?_); conv => whnf)
      | ((refine Ru.eql_err rfl (by decide) ?_); conv => whnf)
      | ((refine Ru.neq_err rfl (by decide) ?_); conv => whnf)
      | ((refine Ru.eqlb Try.underlying4 ?_); conv => whnf)
      | ((refine Ru.neqb Try.underlying4 ?_); conv => whnf)
      | ((refine RuQ.eqlb Try.underlying4 ?_); conv => whnf)
      | ((refine RuQ.neqb Try.underlying4 ?_); conv => whnf)
      | ((refine CW.seq tt_ok ?_); conv => whnf))
    refine ⟨fun hs => ?_, fun hs => ?_⟩
    · have hp : 0 ≤ f.place ∧ f.place ≤ 95 := by
        have := of_decide_eq_true hs
        omega
      have hp0 : f.place = (f.place.toNat : Int) := by omega
      have hp1 : f.place.toNat < 96 := by omega
      generalize f.place.toNat = p0 at *
      have hsl : (sel (L.take k) p0).length ≤ k := Nat.le_trans (sel_len _ _) (by simp; omega)
      have hnb := (I3.ly p0 hp1).row_ne I3.row (by decide)
      have hg1b : g1 ∉ blk (X p0) := fun hx => by have := (I.ly p0 hp1).blk_lt hx; omega
      conv => whnf
      refine CW.held (fun w' => Row w' g1 28 6 f.cell ∧ w'.cell? ⟨w.heap.size, p0, none⟩ = some (.slice (X p0) (sel (L.take k) p0).length (C p0))) [10] (.take 0 (.take 1 (.take 2 (.take 3 (.take 4 (.take 5 (.take 6 (.one 7 (.one 8 (.take 9 (.one 10 (.done)))))))))))) tt_ok (by kernel_rfl) (by kernel_rfl) (by kernel_rfl) ?_ ?_
      · exact ⟨r3.drewN 1, I3.row.cell p0 hp1⟩
      conv => whnf
      repeat (first
        | ((refine Ix.of p0 hp0 hp1 ?_); conv => whnf)
        | ((refine LdQ.row (fun _ h => h.1) (by omega) ?_); conv => whnf)
        | ((refine LdQ.at (by omega) (fun _ h => h.2) ?_); conv => whnf)
        | ((refine RuQ.ldfd (fun _ h => h.1) ?_); conv => whnf)
        | ((refine HS.mk trivial ?_); conv => whnf)
        | ((refine Br.t ?_); conv => whnf)
        | ((refine Br.f ?_); conv => whnf)
        | ((refine Pk.f ?_); conv => whnf)
        | ((refine Pk.t ?_); conv => whnf)
        | ((refine Pk.and ?_); conv => whnf)
        | ((refine Pk.or ?_); conv => whnf)
        | ((refine Ix.nat (by omega) ?_); conv => whnf)
        | ((refine Ix.of _ (by rfl) (by omega) ?_); conv => whnf)
        | ((refine Ix.int (by omega) (by omega) ?_); conv => whnf)
        | ((refine Ar.i64 (by omega) (by omega) ?_); conv => whnf)
        | ((refine Ar.u8 (by omega) (by omega) ?_); conv => whnf)
        | ((refine Ar.u64 (by omega) (by omega) ?_); conv => whnf)
        | ((refine Dv.quo (by omega) (by omega) (by omega) ?_); conv => whnf)
        | ((refine Dv.rem (by omega) (by omega) ?_); conv => whnf)
        | ((refine Br.yes (by omega) ?_); conv => whnf)
        | ((refine Br.no (by omega) ?_); conv => whnf)
        | ((refine Br.nyes (by omega) ?_); conv => whnf)
        | ((refine Br.nno (by omega) ?_); conv => whnf)
        | ((refine Br.is (by assumption) ?_); conv => whnf)
        | ((refine Br.isnt (by assumption) ?_); conv => whnf)
        | ((refine Ld.of (by assumption) ?_); conv => whnf)
        | ((refine Ru.neq_nil0 ?_); conv => whnf)
        | ((refine Ru.neq_nil1 (by decide) ?_); conv => whnf)
        | ((refine Ru.eql_nil0 ?_); conv => whnf)
        | ((refine Ru.eql_nil1 (by decide) ?_); conv => whnf)
        | ((refine Ru.eql_errs (by decide) (by decide) ?_); conv => whnf)
        | ((refine Ru.eql_err0 (by decide) ?_); conv => whnf)
        | ((refine Ru.neq_errs (by decide) (by decide) ?_); conv => whnf)
        | ((refine Ru.neq_err0 (by decide) ?_); conv => whnf)
        | ((refine Ru.neq_nil rfl ?_); conv => whnf)
        | ((refine Ru.eql_nil rfl ?_); conv => whnf)
        | ((refine Ru.eql_err rfl (by decide) ?_); conv => whnf)
        | ((refine Ru.neq_err rfl (by decide) ?_); conv => whnf)
        | ((refine Ru.eqlb Try.underlying4 ?_); conv => whnf)
        | ((refine Ru.neqb Try.underlying4 ?_); conv => whnf)
        | ((refine RuQ.eqlb Try.underlying4 ?_); conv => whnf)
        | ((refine RuQ.neqb Try.underlying4 ?_); conv => whnf)
        | ((refine CW.seq tt_ok ?_); conv => whnf))
      refine Ru.buildfd f ?_
      intro g2 w4 hg2 hs2 r4 k4
      have q4 : Keep [] w3 w4 := ((Keep.refl [] w3).drewN 1).trans k4
      have I4 := I3.keep' q4
      conv => whnf
      repeat (first
        | ((refine HS.mk trivial ?_); conv => whnf)
        | ((refine Br.t ?_); conv => whnf)
        | ((refine Br.f ?_); conv => whnf)
        | ((refine Pk.f ?_); conv => whnf)
        | ((refine Pk.t ?_); conv => whnf)
        | ((refine Pk.and ?_); conv => whnf)
        | ((refine Pk.or ?_); conv => whnf)
        | ((refine Ix.nat (by omega) ?_); conv => whnf)
        | ((refine Ix.of _ (by rfl) (by omega) ?_); conv => whnf)
        | ((refine Ix.int (by omega) (by omega) ?_); conv => whnf)
        | ((refine Ar.i64 (by omega) (by omega) ?_); conv => whnf)
        | ((refine Ar.u8 (by omega) (by omega) ?_); conv => whnf)
        | ((refine Ar.u64 (by omega) (by omega) ?_); conv => whnf)
        | ((refine Dv.quo (by omega) (by omega) (by omega) ?_); conv => whnf)
        | ((refine Dv.rem (by omega) (by omega) ?_); conv => whnf)
        | ((refine Br.yes (by omega) ?_); conv => whnf)
        | ((refine Br.no (by omega) ?_); conv => whnf)
        | ((refine Br.nyes (by omega) ?_); conv => whnf)
        | ((refine Br.nno (by omega) ?_); conv => whnf)
        | ((refine Br.is (by assumption) ?_); conv => whnf)
        | ((refine Br.isnt (by assumption) ?_); conv => whnf)
        | ((refine Ld.of (by assumption) ?_); conv => whnf)
        | ((refine Ru.neq_nil0 ?_); conv => whnf)
        | ((refine Ru.neq_nil1 (by decide) ?_); conv => whnf)
        | ((refine Ru.eql_nil0 ?_); conv => whnf)
        | ((refine Ru.eql_nil1 (by decide) ?_); conv => whnf)
        | ((refine Ru.eql_errs (by decide) (by decide) ?_); conv => whnf)
        | ((refine Ru.eql_err0 (by decide) ?_); conv => whnf)
        | ((refine Ru.neq_errs (by decide) (by decide) ?_); conv => whnf)
        | ((refine Ru.neq_err0 (by decide) ?_); conv => whnf)
        | ((refine Ru.neq_nil rfl ?_); conv => whnf)
        | ((refine Ru.eql_nil rfl ?_); conv => whnf)
        | ((refine Ru.eql_err rfl (by decide) ?_); conv => whnf)
        | ((refine Ru.neq_err rfl (by decide) ?_); conv => whnf)
        | ((refine Ru.eqlb Try.underlying4 ?_); conv => whnf)
        | ((refine Ru.neqb Try.underlying4 ?_); conv => whnf)
        | ((refine RuQ.eqlb Try.underlying4 ?_); conv => whnf)
        | ((refine RuQ.neqb Try.underlying4 ?_); conv => whnf)
        | ((refine CW.seq tt_ok ?_); conv => whnf))
      refine ⟨⟨r3.keep q4 (by simp), I4.row.cell p0 hp1⟩, ?_⟩
      conv => whnf
      repeat (first
        | ((refine HS.mk trivial ?_); conv => whnf)
        | ((refine Br.t ?_); conv => whnf)
        | ((refine Br.f ?_); conv => whnf)
        | ((refine Pk.f ?_); conv => whnf)
        | ((refine Pk.t ?_); conv => whnf)
        | ((refine Pk.and ?_); conv => whnf)
        | ((refine Pk.or ?_); conv => whnf)
        | ((refine Ix.nat (by omega) ?_); conv => whnf)
        | ((refine Ix.of _ (by rfl) (by omega) ?_); conv => whnf)
        | ((refine Ix.int (by omega) (by omega) ?_); conv => whnf)
        | ((refine Ar.i64 (by omega) (by omega) ?_); conv => whnf)
        | ((refine Ar.u8 (by omega) (by omega) ?_); conv => whnf)
        | ((refine Ar.u64 (by omega) (by omega) ?_); conv => whnf)
        | ((refine Dv.quo (by omega) (by omega) (by omega) ?_); conv => whnf)
        | ((refine Dv.rem (by omega) (by omega) ?_); conv => whnf)
        | ((refine Br.yes (by omega) ?_); conv => whnf)
        | ((refine Br.no (by omega) ?_); conv => whnf)
        | ((refine Br.nyes (by omega) ?_); conv => whnf)
        | ((refine Br.nno (by omega) ?_); conv => whnf)
        | ((refine Br.is (by assumption) ?_); conv => whnf)
        | ((refine Br.isnt (by assumption) ?_); conv => whnf)
        | ((refine Ld.of (by assumption) ?_); conv => whnf)
        | ((refine Ru.neq_nil0 ?_); conv => whnf)
        | ((refine Ru.neq_nil1 (by decide) ?_); conv => whnf)
        | ((refine Ru.eql_nil0 ?_); conv => whnf)
        | ((refine Ru.eql_nil1 (by decide) ?_); conv => whnf)
        | ((refine Ru.eql_errs (by decide) (by decide) ?_); conv => whnf)
        | ((refine Ru.eql_err0 (by decide) ?_); conv => whnf)
        | ((refine Ru.neq_errs (by decide) (by decide) ?_); conv => whnf)
        | ((refine Ru.neq_err0 (by decide) ?_); conv => whnf)
        | ((refine Ru.neq_nil rfl ?_); conv => whnf)
        | ((refine Ru.eql_nil rfl ?_); conv => whnf)
        | ((refine Ru.eql_err rfl (by decide) ?_); conv => whnf)
        | ((refine Ru.neq_err rfl (by decide) ?_); conv => whnf)
        | ((refine Ru.eqlb Try.underlying4 ?_); conv => whnf)
        | ((refine Ru.neqb Try.underlying4 ?_); conv => whnf)
        | ((refine RuQ.eqlb Try.underlying4 ?_); conv => whnf)
        | ((refine RuQ.neqb Try.underlying4 ?_); conv => whnf)
        | ((refine CW.seq tt_ok ?_); conv => whnf))
      refine Bu.append Try.underlying24 hi hz0 hz1 hz2 rfl (by omega) (I4.ly p0 hp1) _ (Rd.of_row r4 (n := 1 * 6) (by omega)) (by omega) (by simp) (fun j hj => fd_one_cell f j hj) (by simp only [maxLen]; omega) (by omega) ?_
      intro Y cY w5 hy hkp hat hpre
      conv => whnf
      repeat (first
        | ((refine HS.mk trivial ?_); conv => whnf)
        | ((refine Br.t ?_); conv => whnf)
        | ((refine Br.f ?_); conv => whnf)
        | ((refine Pk.f ?_); conv => whnf)
        | ((refine Pk.t ?_); conv => whnf)
        | ((refine Pk.and ?_); conv => whnf)
        | ((refine Pk.or ?_); conv => whnf)
        | ((refine Ix.nat (by omega) ?_); conv => whnf)
        | ((refine Ix.of _ (by rfl) (by omega) ?_); conv => whnf)
        | ((refine Ix.int (by omega) (by omega) ?_); conv => whnf)
        | ((refine Ar.i64 (by omega) (by omega) ?_); conv => whnf)
        | ((refine Ar.u8 (by omega) (by omega) ?_); conv => whnf)
        | ((refine Ar.u64 (by omega) (by omega) ?_); conv => whnf)
        | ((refine Dv.quo (by omega) (by omega) (by omega) ?_); conv => whnf)
        | ((refine Dv.rem (by omega) (by omega) ?_); conv => whnf)
        | ((refine Br.yes (by omega) ?_); conv => whnf)
        | ((refine Br.no (by omega) ?_); conv => whnf)
        | ((refine Br.nyes (by omega) ?_); conv => whnf)
        | ((refine Br.nno (by omega) ?_); conv => whnf)
        | ((refine Br.is (by assumption) ?_); conv => whnf)
        | ((refine Br.isnt (by assumption) ?_); conv => whnf)
        | ((refine Ld.of (by assumption) ?_); conv => whnf)
        | ((refine Ru.neq_nil0 ?_); conv => whnf)
        | ((refine Ru.neq_nil1 (by decide) ?_); conv => whnf)
        | ((refine Ru.eql_nil0 ?_); conv => whnf)
        | ((refine Ru.eql_nil1 (by decide) ?_); conv => whnf)
        | ((refine Ru.eql_errs (by decide) (by decide) ?_); conv => whnf)
        | ((refine Ru.eql_err0 (by decide) ?_); conv => whnf)
        | ((refine Ru.neq_errs (by decide) (by decide) ?_); conv => whnf)
        | ((refine Ru.neq_err0 (by decide) ?_); conv => whnf)
        | ((refine Ru.neq_nil rfl ?_); conv => whnf)
        | ((refine Ru.eql_nil rfl ?_); conv => whnf)
        | ((refine Ru.eql_err rfl (by decide) ?_); conv => whnf)
        | ((refine Ru.neq_err rfl (by decide) ?_); conv => whnf)
        | ((refine Ru.eqlb Try.underlying4 ?_); conv => whnf)
        | ((refine Ru.neqb Try.underlying4 ?_); conv => whnf)
        | ((refine RuQ.eqlb Try.underlying4 ?_); conv => whnf)
        | ((refine RuQ.neqb Try.underlying4 ?_); conv => whnf)
        | ((refine CW.seq tt_ok ?_); conv => whnf))
      refine ⟨⟨(r3.keep q4 (by simp)).keep hkp hg1b, (I4.row.keep hkp hnb).cell p0 hp1⟩, ?_⟩
      conv => whnf
      repeat (first
        | ((refine Ix.of p0 hp0 hp1 ?_); conv => whnf)
        | ((refine HS.mk trivial ?_); conv => whnf)
        | ((refine Br.t ?_); conv => whnf)
        | ((refine Br.f ?_); conv => whnf)
        | ((refine Pk.f ?_); conv => whnf)
        | ((refine Pk.t ?_); conv => whnf)
        | ((refine Pk.and ?_); conv => whnf)
        | ((refine Pk.or ?_); conv => whnf)
        | ((refine Ix.nat (by omega) ?_); conv => whnf)
        | ((refine Ix.of _ (by rfl) (by omega) ?_); conv => whnf)
        | ((refine Ix.int (by omega) (by omega) ?_); conv => whnf)
        | ((refine Ar.i64 (by omega) (by omega) ?_); conv => whnf)
        | ((refine Ar.u8 (by omega) (by omega) ?_); conv => whnf)
        | ((refine Ar.u64 (by omega) (by omega) ?_); conv => whnf)
        | ((refine Dv.quo (by omega) (by omega) (by omega) ?_); conv => whnf)
        | ((refine Dv.rem (by omega) (by omega) ?_); conv => whnf)
        | ((refine Br.yes (by omega) ?_); conv => whnf)
        | ((refine Br.no (by omega) ?_); conv => whnf)
        | ((refine Br.nyes (by omega) ?_); conv => whnf)
        | ((refine Br.nno (by omega) ?_); conv => whnf)
        | ((refine Br.is (by assumption) ?_); conv => whnf)
        | ((refine Br.isnt (by assumption) ?_); conv => whnf)
        | ((refine Ld.of (by assumption) ?_); conv => whnf)
        | ((refine Ru.neq_nil0 ?_); conv => whnf)
        | ((refine Ru.neq_nil1 (by decide) ?_); conv => whnf)
        | ((refine Ru.eql_nil0 ?_); conv => whnf)
        | ((refine Ru.eql_nil1 (by decide) ?_); conv => whnf)
        | ((refine Ru.eql_errs (by decide) (by decide) ?_); conv => whnf)
        | ((refine Ru.eql_err0 (by decide) ?_); conv => whnf)
        | ((refine Ru.neq_errs (by decide) (by decide) ?_); conv => whnf)
        | ((refine Ru.neq_err0 (by decide) ?_); conv => whnf)
        | ((refine Ru.neq_nil rfl ?_); conv => whnf)
        | ((refine Ru.eql_nil rfl ?_); conv => whnf)
        | ((refine Ru.eql_err rfl (by decide) ?_); conv => whnf)
        | ((refine Ru.neq_err rfl (by decide) ?_); conv => whnf)
        | ((refine Ru.eqlb Try.underlying4 ?_); conv => whnf)
        | ((refine Ru.neqb Try.underlying4 ?_); conv => whnf)
        | ((refine RuQ.eqlb Try.underlying4 ?_); conv => whnf)
        | ((refine RuQ.neqb Try.underlying4 ?_); conv => whnf)
        | ((refine CW.seq tt_ok ?_); conv => whnf))
      have rG := I4.row.keep hkp hnb
      refine Sd.setAt p0 (by omega) (rG.cell p0 hp1) (rG.free p0) rfl ?_
      have II := I4.push hs hp0 hp1 hy hkp (fun x hx => by
        rcases hat with e | e
        · rw [e] at hx
          exact .inl hx
        · rw [e] at hx
          exact .inr (by rw [List.mem_singleton.1 hx]; exact Nat.le_refl _))
      rw [← htk] at II
      conv => whnf
      repeat (first
        | ((refine HS.mk trivial ?_); conv => whnf)
        | ((refine Br.t ?_); conv => whnf)
        | ((refine Br.f ?_); conv => whnf)
        | ((refine Pk.f ?_); conv => whnf)
        | ((refine Pk.t ?_); conv => whnf)
        | ((refine Pk.and ?_); conv => whnf)
        | ((refine Pk.or ?_); conv => whnf)
        | ((refine Ix.nat (by omega) ?_); conv => whnf)
        | ((refine Ix.of _ (by rfl) (by omega) ?_); conv => whnf)
        | ((refine Ix.int (by omega) (by omega) ?_); conv => whnf)
        | ((refine Ar.i64 (by omega) (by omega) ?_); conv => whnf)
        | ((refine Ar.u8 (by omega) (by omega) ?_); conv => whnf)
        | ((refine Ar.u64 (by omega) (by omega) ?_); conv => whnf)
        | ((refine Dv.quo (by omega) (by omega) (by omega) ?_); conv => whnf)
        | ((refine Dv.rem (by omega) (by omega) ?_); conv => whnf)
        | ((refine Br.yes (by omega) ?_); conv => whnf)
        | ((refine Br.no (by omega) ?_); conv => whnf)
        | ((refine Br.nyes (by omega) ?_); conv => whnf)
        | ((refine Br.nno (by omega) ?_); conv => whnf)
        | ((refine Br.is (by assumption) ?_); conv => whnf)
        | ((refine Br.isnt (by assumption) ?_); conv => whnf)
        | ((refine Ld.of (by assumption) ?_); conv => whnf)
        | ((refine Ru.neq_nil0 ?_); conv => whnf)
        | ((refine Ru.neq_nil1 (by decide) ?_); conv => whnf)
        | ((refine Ru.eql_nil0 ?_); conv => whnf)
        | ((refine Ru.eql_nil1 (by decide) ?_); conv => whnf)
        | ((refine Ru.eql_errs (by decide) (by decide) ?_); conv => whnf)
        | ((refine Ru.eql_err0 (by decide) ?_); conv => whnf)
        | ((refine Ru.neq_errs (by decide) (by decide) ?_); conv => whnf)
        | ((refine Ru.neq_err0 (by decide) ?_); conv => whnf)
        | ((refine Ru.neq_nil rfl ?_); conv => whnf)
        | ((refine Ru.eql_nil rfl ?_); conv => whnf)
        | ((refine Ru.eql_err rfl (by decide) ?_); conv => whnf)
        | ((refine Ru.neq_err rfl (by decide) ?_); conv => whnf)
        | ((refine Ru.eqlb Try.underlying4 ?_); conv => whnf)
        | ((refine Ru.neqb Try.underlying4 ?_); conv => whnf)
        | ((refine RuQ.eqlb Try.underlying4 ?_); conv => whnf)
        | ((refine RuQ.neqb Try.underlying4 ?_); conv => whnf)
        | ((refine CW.seq tt_ok ?_); conv => whnf))
      exact ⟨(k + 1, upd X p0 Y, upd C p0 cY), ⟨hlt, II⟩, ⟨rfl, rfl, rfl, rfl, rfl, rfl, trivial⟩, by simp only; omega⟩
    · conv => whnf
      repeat (first
        | ((refine HS.mk trivial ?_); conv => whnf)
        | ((refine Br.t ?_); conv => whnf)
        | ((refine Br.f ?_); conv => whnf)
        | ((refine Pk.f ?_); conv => whnf)
        | ((refine Pk.t ?_); conv => whnf)
        | ((refine Pk.and ?_); conv => whnf)
        | ((refine Pk.or ?_); conv => whnf)
        | ((refine Ix.nat (by omega) ?_); conv => whnf)
        | ((refine Ix.of _ (by rfl) (by omega) ?_); conv => whnf)
        | ((refine Ix.int (by omega) (by omega) ?_); conv => whnf)
        | ((refine Ar.i64 (by omega) (by omega) ?_); conv => whnf)
        | ((refine Ar.u8 (by omega) (by omega) ?_); conv => whnf)
        | ((refine Ar.u64 (by omega) (by omega) ?_); conv => whnf)
        | ((refine Dv.quo (by omega) (by omega) (by omega) ?_); conv => whnf)
        | ((refine Dv.rem (by omega) (by omega) ?_); conv => whnf)
        | ((refine Br.yes (by omega) ?_); conv => whnf)
        | ((refine Br.no (by omega) ?_); conv => whnf)
        | ((refine Br.nyes (by omega) ?_); conv => whnf)
        | ((refine Br.nno (by omega) ?_); conv => whnf)
        | ((refine Br.is (by assumption) ?_); conv => whnf)
        | ((refine Br.isnt (by assumption) ?_); conv => whnf)
        | ((refine Ld.of (by assumption) ?_); conv => whnf)
        | ((refine Ru.neq_nil0 ?_); conv => whnf)
        | ((refine Ru.neq_nil1 (by decide) ?_); conv => whnf)
        | ((refine Ru.eql_nil0 ?_); conv => whnf)
        | ((refine Ru.eql_nil1 (by decide) ?_); conv => whnf)
        | ((refine Ru.eql_errs (by decide) (by decide) ?_); conv => whnf)
        | ((refine Ru.eql_err0 (by decide) ?_); conv => whnf)
        | ((refine Ru.neq_errs (by decide) (by decide) ?_); conv => whnf)
        | ((refine Ru.neq_err0 (by decide) ?_); conv => whnf)
        | ((refine Ru.neq_nil rfl ?_); conv => whnf)
        | ((refine Ru.eql_nil rfl ?_); conv => whnf)
        | ((refine Ru.eql_err rfl (by decide) ?_); conv => whnf)
        | ((refine Ru.neq_err rfl (by decide) ?_); conv => whnf)
        | ((refine Ru.eqlb Try.underlying4 ?_); conv => whnf)
        | ((refine Ru.neqb Try.underlying4 ?_); conv => whnf)
        | ((refine RuQ.eqlb Try.underlying4 ?_); conv => whnf)
        | ((refine RuQ.neqb Try.underlying4 ?_); conv => whnf)
        | ((refine CW.seq tt_ok ?_); conv => whnf))
      have e1 : ∀ p, sel (L.take (k + 1)) p = sel (L.take k) p := fun p => by rw [htk, sel_snoc, hs]; simp
      exact ⟨(k + 1, X, C), ⟨hlt, ⟨I3.row.congr (fun p _ => by rw [e1]), fun p hp => by rw [e1]; exact I3.ly p hp, I3.new, I3.apart, I3.keep⟩⟩, ⟨rfl, rfl, rfl, rfl, rfl, rfl, trivial⟩, by simp only; omega⟩
  · obtain rfl : k = L.length := by omega
    rw [List.take_length] at I
    conv => whnf
    repeat (first
      | ((refine HS.mk trivial ?_); conv => whnf)
      | ((refine Br.t ?_); conv => whnf)
      | ((refine Br.f ?_); conv => whnf)
      | ((refine Pk.f ?_); conv => whnf)
      | ((refine Pk.t ?_); conv => whnf)
      | ((refine Pk.and ?_); conv => whnf)
      | ((refine Pk.or ?_); conv => whnf)
      | ((refine Ix.nat (by omega) ?_); conv => whnf)
      | ((refine Ix.of _ (by rfl) (by omega) ?_); conv => whnf)
      | ((refine Ix.int (by omega) (by omega) ?_); conv => whnf)
      | ((refine Ar.i64 (by omega) (by omega) ?_); conv => whnf)
      | ((refine Ar.u8 (by omega) (by omega) ?_); conv => whnf)
      | ((refine Ar.u64 (by omega) (by omega) ?_); conv => whnf)
      | ((refine Dv.quo (by omega) (by omega) (by omega) ?_); conv => whnf)
      | ((refine Dv.rem (by omega) (by omega) ?_); conv => whnf)
      | ((refine Br.yes (by omega) ?_); conv => whnf)
      | ((refine Br.no (by omega) ?_); conv => whnf)
      | ((refine Br.nyes (by omega) ?_); conv => whnf)
      | ((refine Br.nno (by omega) ?_); conv => whnf)
      | ((refine Br.is (by assumption) ?_); conv => whnf)
      | ((refine Br.isnt (by assumption) ?_); conv => whnf)
      | ((refine Ld.of (by assumption) ?_); conv => whnf)
      | ((refine Ru.neq_nil0 ?_); conv => whnf)
      | ((refine Ru.neq_nil1 (by decide) ?_); conv => whnf)
      | ((refine Ru.eql_nil0 ?_); conv => whnf)
      | ((refine Ru.eql_nil1 (by decide) ?_); conv => whnf)
      | ((refine Ru.eql_errs (by decide) (by decide) ?_); conv => whnf)
      | ((refine Ru.eql_err0 (by decide) ?_); conv => whnf)
      | ((refine Ru.neq_errs (by decide) (by decide) ?_); conv => whnf)
      | ((refine Ru.neq_err0 (by decide) ?_); conv => whnf)
      | ((refine Ru.neq_nil rfl ?_); conv => whnf)
      | ((refine Ru.eql_nil rfl ?_); conv => whnf)
      | ((refine Ru.eql_err rfl (by decide) ?_); conv => whnf)
      | ((refine Ru.neq_err rfl (by decide) ?_); conv => whnf)
      | ((refine Ru.eqlb Try.underlying4 ?_); conv => whnf)
      | ((refine Ru.neqb Try.underlying4 ?_); conv => whnf)
      | ((refine RuQ.eqlb Try.underlying4 ?_); conv => whnf)
      | ((refine RuQ.neqb Try.underlying4 ?_); conv => whnf)
      | ((refine CW.seq tt_ok ?_); conv => whnf))
    refine Ru.lda I.row Try.underlying47 rfl size_at (by omega) ?_
    conv => whnf
    repeat (first
      | ((refine HS.mk trivial ?_); conv => whnf)
      | ((refine Br.t ?_); conv => whnf)
      | ((refine Br.f ?_); conv => whnf)
      | ((refine Pk.f ?_); conv => whnf)
      | ((refine Pk.t ?_); conv => whnf)
      | ((refine Pk.and ?_); conv => whnf)
      | ((refine Pk.or ?_); conv => whnf)
      | ((refine Ix.nat (by omega) ?_); conv => whnf)
      | ((refine Ix.of _ (by rfl) (by omega) ?_); conv => whnf)
      | ((refine Ix.int (by omega) (by omega) ?_); conv => whnf)
      | ((refine Ar.i64 (by omega) (by omega) ?_); conv => whnf)
      | ((refine Ar.u8 (by omega) (by omega) ?_); conv => whnf)
      | ((refine Ar.u64 (by omega) (by omega) ?_); conv => whnf)
      | ((refine Dv.quo (by omega) (by omega) (by omega) ?_); conv => whnf)
      | ((refine Dv.rem (by omega) (by omega) ?_); conv => whnf)
      | ((refine Br.yes (by omega) ?_); conv => whnf)
      | ((refine Br.no (by omega) ?_); conv => whnf)
      | ((refine Br.nyes (by omega) ?_); conv => whnf)
      | ((refine Br.nno (by omega) ?_); conv => whnf)
      | ((refine Br.is (by assumption) ?_); conv => whnf)
      | ((refine Br.isnt (by assumption) ?_); conv => whnf)
      | ((refine Ld.of (by assumption) ?_); conv => whnf)
      | ((refine Ru.neq_nil0 ?_); conv => whnf)
      | ((refine Ru.neq_nil1 (by decide) ?_); conv => whnf)
      | ((refine Ru.eql_nil0 ?_); conv => whnf)
      | ((refine Ru.eql_nil1 (by decide) ?_); conv => whnf)
      | ((refine Ru.eql_errs (by decide) (by decide) ?_); conv => whnf)
      | ((refine Ru.eql_err0 (by decide) ?_); conv => whnf)
      | ((refine Ru.neq_errs (by decide) (by decide) ?_); conv => whnf)
      | ((refine Ru.neq_err0 (by decide) ?_); conv => whnf)
      | ((refine Ru.neq_nil rfl ?_); conv => whnf)
      | ((refine Ru.eql_nil rfl ?_); conv => whnf)
      | ((refine Ru.eql_err rfl (by decide) ?_); conv => whnf)
      | ((refine Ru.neq_err rfl (by decide) ?_); conv => whnf)
      | ((refine Ru.eqlb Try.underlying4 ?_); conv => whnf)
      | ((refine Ru.neqb Try.underlying4 ?_); conv => whnf)
      | ((refine RuQ.eqlb Try.underlying4 ?_); conv => whnf)
      | ((refine RuQ.neqb Try.underlying4 ?_); conv => whnf)
      | ((refine CW.seq tt_ok ?_); conv => whnf))
    refine CW.loop (ι := Nat × Option Addr × Nat) (fun i w2 => i.1 ≤ 96 ∧ Ly w2 28 6 i.2.1 (byP L i.1).length i.2.2 (fdF (byP L i.1)) ∧ (∀ x, x ∈ blk i.2.1 → wr.heap.size ≤ x) ∧ Keep [] wr w2) (fun i => [(6, .slice i.2.1 (byP L i.1).length i.2.2), (28, agg 96 (fun j => .slice (X (0 + j)) (sel L (0 + j)).length (C (0 + j)))), (29, .int .i64 i.1)]) (fun i => 96 - i.1) (0, none, 0) tt_ok ⟨by simp, Ly.nil _ _ _ _, (fun _ h => by cases h), Keep.refl _ _⟩ ⟨rfl, rfl, rfl, trivial⟩ ?_
    rintro ⟨q, Z, cz⟩ w2 ⟨hq, hly, hnew, kk⟩
    simp only at hq hly hnew
    by_cases hlt2 : q < 96
    · have hsum : (byP L q).length + (sel L q).length ≤ L.length := by
        have := byP_len L (q + 1)
        rwa [byP_succ, List.length_append] at this
      have hx := (I.ly q hlt2).keep0 kk
      conv => whnf
      repeat (first
        | ((refine HS.mk trivial ?_); conv => whnf)
        | ((refine Br.t ?_); conv => whnf)
        | ((refine Br.f ?_); conv => whnf)
        | ((refine Pk.f ?_); conv => whnf)
        | ((refine Pk.t ?_); conv => whnf)
        | ((refine Pk.and ?_); conv => whnf)
        | ((refine Pk.or ?_); conv => whnf)
        | ((refine Ix.nat (by omega) ?_); conv => whnf)
        | ((refine Ix.of _ (by rfl) (by omega) ?_); conv => whnf)
        | ((refine Ix.int (by omega) (by omega) ?_); conv => whnf)
        | ((refine Ar.i64 (by omega) (by omega) ?_); conv => whnf)
        | ((refine Ar.u8 (by omega) (by omega) ?_); conv => whnf)
        | ((refine Ar.u64 (by omega) (by omega) ?_); conv => whnf)
        | ((refine Dv.quo (by omega) (by omega) (by omega) ?_); conv => whnf)
        | ((refine Dv.rem (by omega) (by omega) ?_); conv => whnf)
        | ((refine Br.yes (by omega) ?_); conv => whnf)
        | ((refine Br.no (by omega) ?_); conv => whnf)
        | ((refine Br.nyes (by omega) ?_); conv => whnf)
        | ((refine Br.nno (by omega) ?_); conv => whnf)
        | ((refine Br.is (by assumption) ?_); conv => whnf)
        | ((refine Br.isnt (by assumption) ?_); conv => whnf)
        | ((refine Ld.of (by assumption) ?_); conv => whnf)
        | ((refine Ru.neq_nil0 ?_); conv => whnf)
        | ((refine Ru.neq_nil1 (by decide) ?_); conv => whnf)
        | ((refine Ru.eql_nil0 ?_); conv => whnf)
        | ((refine Ru.eql_nil1 (by decide) ?_); conv => whnf)
        | ((refine Ru.eql_errs (by decide) (by decide) ?_); conv => whnf)
        | ((refine Ru.eql_err0 (by decide) ?_); conv => whnf)
        | ((refine Ru.neq_errs (by decide) (by decide) ?_); conv => whnf)
        | ((refine Ru.neq_err0 (by decide) ?_); conv => whnf)
        | ((refine Ru.neq_nil rfl ?_); conv => whnf)
        | ((refine Ru.eql_nil rfl ?_); conv => whnf)
        | ((refine Ru.eql_err rfl (by decide) ?_); conv => whnf)
        | ((refine Ru.neq_err rfl (by decide) ?_); conv => whnf)
        | ((refine Ru.eqlb Try.underlying4 ?_); conv => whnf)
        | ((refine Ru.neqb Try.underlying4 ?_); conv => whnf)
        | ((refine RuQ.eqlb Try.underlying4 ?_); conv => whnf)
        | ((refine RuQ.neqb Try.underlying4 ?_); conv => whnf)
        | ((refine CW.seq tt_ok ?_); conv => whnf))
      refine Ru.of (run_index_agg 47 24 96 q Try.underlying47 hlt2 notAgg_founds size_founds w2) ?_
      rw [Nat.zero_add]
      conv => whnf
      repeat (first
        | ((refine HS.mk trivial ?_); conv => whnf)
        | ((refine Br.t ?_); conv => whnf)
        | ((refine Br.f ?_); conv => whnf)
        | ((refine Pk.f ?_); conv => whnf)
        | ((refine Pk.t ?_); conv => whnf)
        | ((refine Pk.and ?_); conv => whnf)
        | ((refine Pk.or ?_); conv => whnf)
        | ((refine Ix.nat (by omega) ?_); conv => whnf)
        | ((refine Ix.of _ (by rfl) (by omega) ?_); conv => whnf)
        | ((refine Ix.int (by omega) (by omega) ?_); conv => whnf)
        | ((refine Ar.i64 (by omega) (by omega) ?_); conv => whnf)
        | ((refine Ar.u8 (by omega) (by omega) ?_); conv => whnf)
        | ((refine Ar.u64 (by omega) (by omega) ?_); conv => whnf)
        | ((refine Dv.quo (by omega) (by omega) (by omega) ?_); conv => whnf)
        | ((refine Dv.rem (by omega) (by omega) ?_); conv => whnf)
        | ((refine Br.yes (by omega) ?_); conv => whnf)
        | ((refine Br.no (by omega) ?_); conv => whnf)
        | ((refine Br.nyes (by omega) ?_); conv => whnf)
        | ((refine Br.nno (by omega) ?_); conv => whnf)
        | ((refine Br.is (by assumption) ?_); conv => whnf)
        | ((refine Br.isnt (by assumption) ?_); conv => whnf)
        | ((refine Ld.of (by assumption) ?_); conv => whnf)
        | ((refine Ru.neq_nil0 ?_); conv => whnf)
        | ((refine Ru.neq_nil1 (by decide) ?_); conv => whnf)
        | ((refine Ru.eql_nil0 ?_); conv => whnf)
        | ((refine Ru.eql_nil1 (by decide) ?_); conv => whnf)
        | ((refine Ru.eql_errs (by decide) (by decide) ?_); conv => whnf)
        | ((refine Ru.eql_err0 (by decide) ?_); conv => whnf)
        | ((refine Ru.neq_errs (by decide) (by decide) ?_); conv => whnf)
        | ((refine Ru.neq_err0 (by decide) ?_); conv => whnf)
        | ((refine Ru.neq_nil rfl ?_); conv => whnf)
        | ((refine Ru.eql_nil rfl ?_); conv => whnf)
        | ((refine Ru.eql_err rfl (by decide) ?_); conv => whnf)
        | ((refine Ru.neq_err rfl (by decide) ?_); conv => whnf)
        | ((refine Ru.eqlb Try.underlying4 ?_); conv => whnf)
        | ((refine Ru.neqb Try.underlying4 ?_); conv => whnf)
        | ((refine RuQ.eqlb Try.underlying4 ?_); conv => whnf)
        | ((refine RuQ.neqb Try.underlying4 ?_); conv => whnf)
        | ((refine CW.seq tt_ok ?_); conv => whnf))
      refine Bu.append Try.underlying24 hi hz0 hz1 hz2 rfl (by omega) hly _ hx.rd hx.1 hx.2.2.1 (fun j _ => fdF_one _ j) (by simp only [maxLen]; omega) (by omega) ?_
      intro Y cY w3 hy hkp hat hpre
      have e1 : (byP L (q + 1)).length = (byP L q).length + (sel L q).length := by rw [byP_succ, List.length_append]
      have k3 := kk.then hkp (fun x hx => .inr (hnew x hx))
      conv => whnf
      repeat (first
        | ((refine HS.mk trivial ?_); conv => whnf)
        | ((refine Br.t ?_); conv => whnf)
        | ((refine Br.f ?_); conv => whnf)
        | ((refine Pk.f ?_); conv => whnf)
        | ((refine Pk.t ?_); conv => whnf)
        | ((refine Pk.and ?_); conv => whnf)
        | ((refine Pk.or ?_); conv => whnf)
        | ((refine Ix.nat (by omega) ?_); conv => whnf)
        | ((refine Ix.of _ (by rfl) (by omega) ?_); conv => whnf)
        | ((refine Ix.int (by omega) (by omega) ?_); conv => whnf)
        | ((refine Ar.i64 (by omega) (by omega) ?_); conv => whnf)
        | ((refine Ar.u8 (by omega) (by omega) ?_); conv => whnf)
        | ((refine Ar.u64 (by omega) (by omega) ?_); conv => whnf)
        | ((refine Dv.quo (by omega) (by omega) (by omega) ?_); conv => whnf)
        | ((refine Dv.rem (by omega) (by omega) ?_); conv => whnf)
        | ((refine Br.yes (by omega) ?_); conv => whnf)
        | ((refine Br.no (by omega) ?_); conv => whnf)
        | ((refine Br.nyes (by omega) ?_); conv => whnf)
        | ((refine Br.nno (by omega) ?_); conv => whnf)
        | ((refine Br.is (by assumption) ?_); conv => whnf)
        | ((refine Br.isnt (by assumption) ?_); conv => whnf)
        | ((refine Ld.of (by assumption) ?_); conv => whnf)
        | ((refine Ru.neq_nil0 ?_); conv => whnf)
        | ((refine Ru.neq_nil1 (by decide) ?_); conv => whnf)
        | ((refine Ru.eql_nil0 ?_); conv => whnf)
        | ((refine Ru.eql_nil1 (by decide) ?_); conv => whnf)
        | ((refine Ru.eql_errs (by decide) (by decide) ?_); conv => whnf)
        | ((refine Ru.eql_err0 (by decide) ?_); conv => whnf)
        | ((refine Ru.neq_errs (by decide) (by decide) ?_); conv => whnf)
        | ((refine Ru.neq_err0 (by decide) ?_); conv => whnf)
        | ((refine Ru.neq_nil rfl ?_); conv => whnf)
        | ((refine Ru.eql_nil rfl ?_); conv => whnf)
        | ((refine Ru.eql_err rfl (by decide) ?_); conv => whnf)
        | ((refine Ru.neq_err rfl (by decide) ?_); conv => whnf)
        | ((refine Ru.eqlb Try.underlying4 ?_); conv => whnf)
        | ((refine Ru.neqb Try.underlying4 ?_); conv => whnf)
        | ((refine RuQ.eqlb Try.underlying4 ?_); conv => whnf)
        | ((refine RuQ.neqb Try.underlying4 ?_); conv => whnf)
        | ((refine CW.seq tt_ok ?_); conv => whnf))
      refine ⟨(q + 1, Y, cY), ⟨hlt2, ?_, fun x hx => ?_, k3⟩, ⟨congrArg (fun n => Value.slice Y n cY) e1.symm, rfl, rfl, trivial⟩, by simp only; omega⟩
      · simp only
        rw [e1]
        exact hy.congr (fun j hj => by rw [byP_succ, fdF_append])
      · rcases hat with e | e
        · exact hnew x (e ▸ hx)
        · simp only at hx
          rw [e] at hx
          obtain rfl := List.mem_singleton.1 hx
          exact kk.size
    · obtain rfl : q = 96 := by omega
      conv => whnf
      repeat (first
        | ((refine HS.mk trivial ?_); conv => whnf)
        | ((refine Br.t ?_); conv => whnf)
        | ((refine Br.f ?_); conv => whnf)
        | ((refine Pk.f ?_); conv => whnf)
        | ((refine Pk.t ?_); conv => whnf)
        | ((refine Pk.and ?_); conv => whnf)
        | ((refine Pk.or ?_); conv => whnf)
        | ((refine Ix.nat (by omega) ?_); conv => whnf)
        | ((refine Ix.of _ (by rfl) (by omega) ?_); conv => whnf)
        | ((refine Ix.int (by omega) (by omega) ?_); conv => whnf)
        | ((refine Ar.i64 (by omega) (by omega) ?_); conv => whnf)
        | ((refine Ar.u8 (by omega) (by omega) ?_); conv => whnf)
        | ((refine Ar.u64 (by omega) (by omega) ?_); conv => whnf)
        | ((refine Dv.quo (by omega) (by omega) (by omega) ?_); conv => whnf)
        | ((refine Dv.rem (by omega) (by omega) ?_); conv => whnf)
        | ((refine Br.yes (by omega) ?_); conv => whnf)
        | ((refine Br.no (by omega) ?_); conv => whnf)
        | ((refine Br.nyes (by omega) ?_); conv => whnf)
        | ((refine Br.nno (by omega) ?_); conv => whnf)
        | ((refine Br.is (by assumption) ?_); conv => whnf)
        | ((refine Br.isnt (by assumption) ?_); conv => whnf)
        | ((refine Ld.of (by assumption) ?_); conv => whnf)
        | ((refine Ru.neq_nil0 ?_); conv => whnf)
        | ((refine Ru.neq_nil1 (by decide) ?_); conv => whnf)
        | ((refine Ru.eql_nil0 ?_); conv => whnf)
        | ((refine Ru.eql_nil1 (by decide) ?_); conv => whnf)
        | ((refine Ru.eql_errs (by decide) (by decide) ?_); conv => whnf)
        | ((refine Ru.eql_err0 (by decide) ?_); conv => whnf)
        | ((refine Ru.neq_errs (by decide) (by decide) ?_); conv => whnf)
        | ((refine Ru.neq_err0 (by decide) ?_); conv => whnf)
        | ((refine Ru.neq_nil rfl ?_); conv => whnf)
        | ((refine Ru.eql_nil rfl ?_); conv => whnf)
        | ((refine Ru.eql_err rfl (by decide) ?_); conv => whnf)
        | ((refine Ru.neq_err rfl (by decide) ?_); conv => whnf)
        | ((refine Ru.eqlb Try.underlying4 ?_); conv => whnf)
        | ((refine Ru.neqb Try.underlying4 ?_); conv => whnf)
        | ((refine RuQ.eqlb Try.underlying4 ?_); conv => whnf)
        | ((refine RuQ.neqb Try.underlying4 ?_); conv => whnf)
        | ((refine CW.seq tt_ok ?_); conv => whnf))
      exact ⟨rfl, Z, cz, rfl, hly, fun x hx => Nat.le_trans I.keep.size (hnew x hx), I.keep.trans kk⟩
end Go.Proofs.Ytpmihnobeicjmaa
