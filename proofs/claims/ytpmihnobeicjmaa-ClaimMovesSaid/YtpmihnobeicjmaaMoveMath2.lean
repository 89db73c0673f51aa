/- A block is moved: the lists of the law, and what counts at each of them. -/
import Derived.Test.YtpmihnobeicjmaaMoveMath
namespace Go.Proofs.Ytpmihnobeicjmaa
open Go.RowKit
set_option linter.unusedVariables false
attribute [local irreducible] ahead Fd.sound
theorem nodup_len : ∀ (n : Nat) (l : List Nat), l.Nodup → (∀ x, x ∈ l → x < n) → l.length ≤ n
  | 0, l, _, hb => by
    cases l with
    | nil => simp
    | cons x l => have := hb x (by simp); omega
  | n + 1, l, h, hb => by
    by_cases hm : n ∈ l
    · have h1 := nodup_len n (l.erase n) (h.erase n) (fun x hx => by
        have h2 := (List.Nodup.mem_erase_iff h).1 hx
        have := hb x h2.2
        have := h2.1
        omega)
      rw [List.length_erase_of_mem hm] at h1
      omega
    · have := nodup_len n l h (fun x hx => by
        have h2 := hb x hx
        have : x ≠ n := fun e => hm (e ▸ hx)
        omega)
      omega
/-- The law's list: sound, each in a place of its own, each number and seq once. -/
def twB (O : List Fd) (f : Fd) : Bool := O.any fun g => decide (g.of = f.of) && decide (g.seq = f.seq)
def hadB (O : List Fd) (q : Int) : Bool := O.any fun g => decide (g.place = q)
def plStep (O : List Fd) (f : Fd) : List Fd := if f.sound = true ∧ hadB O f.place = false ∧ twB O f = false then O ++ [f] else O
def placedF (L : List Fd) : List Fd := L.foldl plStep []
theorem placedF_snoc (L : List Fd) (f : Fd) : placedF (L ++ [f]) = plStep (placedF L) f := by
  unfold placedF
  rw [List.foldl_append]
  rfl
theorem hadB_f {O : List Fd} {q : Int} (h : hadB O q = false) {g : Fd} (hg : g ∈ O) : g.place ≠ q := fun e => by
  unfold hadB at h
  rw [List.any_eq_false] at h
  exact h g hg (by simp [e])
theorem twB_f {O : List Fd} {f : Fd} (h : twB O f = false) {g : Fd} (hg : g ∈ O) : ¬ (g.of = f.of ∧ g.seq = f.seq) := fun e => by
  unfold twB at h
  rw [List.any_eq_false] at h
  exact h g hg (by simp [e.1, e.2])
theorem placed_is (L : List Fd) : Apart2 (placedF L) ∧ ((placedF L).map fun f => f.place.toNat).Nodup := by
  induction L using snoc_rec with
  | h0 => exact ⟨⟨fun f h => (by cases h), fun f g h => (by cases h), fun f g h => (by cases h)⟩, by simp [placedF]⟩
  | h1 l f ih =>
    rw [placedF_snoc]
    unfold plStep
    split
    · rename_i hc
      obtain ⟨h1, h2, h3⟩ := hc
      generalize placedF l = O at *
      obtain ⟨ha, hn⟩ := ih
      have hfs := sound_parts h1
      refine ⟨⟨fun x hx => ?_, fun x y hx hy e => ?_, fun x y hx hy e1 e2 => ?_⟩, ?_⟩
      · rcases List.mem_append.1 hx with hx | hx
        · exact ha.sound x hx
        · rw [List.mem_singleton.1 hx]; exact h1
      · rcases List.mem_append.1 hx with hx | hx <;> rcases List.mem_append.1 hy with hy | hy
        · exact ha.place x y hx hy e
        · rw [List.mem_singleton.1 hy] at e
          exact absurd e (hadB_f h2 hx)
        · rw [List.mem_singleton.1 hx] at e
          exact absurd e.symm (hadB_f h2 hy)
        · rw [List.mem_singleton.1 hx, List.mem_singleton.1 hy]
      · rcases List.mem_append.1 hx with hx | hx <;> rcases List.mem_append.1 hy with hy | hy
        · exact ha.pair x y hx hy e1 e2
        · rw [List.mem_singleton.1 hy] at e1 e2
          exact absurd ⟨e1, e2⟩ (twB_f h3 hx)
        · rw [List.mem_singleton.1 hx] at e1 e2
          exact absurd ⟨e1.symm, e2.symm⟩ (twB_f h3 hy)
        · rw [List.mem_singleton.1 hx, List.mem_singleton.1 hy]
      · rw [List.map_append, List.nodup_append]
        refine ⟨hn, by simp, ?_⟩
        intro a ha2 b hb2 e
        obtain ⟨x, hx, rfl⟩ := List.mem_map.1 ha2
        simp only [List.map_cons, List.map_nil, List.mem_singleton] at hb2
        subst hb2
        have hp := (sound_parts (ha.sound x hx)).1
        exact hadB_f h2 hx (by omega)
    · exact ih
theorem placed_len (L : List Fd) : (placedF L).length ≤ 96 := by
  obtain ⟨ha, hn⟩ := placed_is L
  have := nodup_len 96 _ hn (fun x hx => by
    obtain ⟨f, hf, rfl⟩ := List.mem_map.1 hx
    have := (sound_parts (ha.sound f hf)).1
    omega)
  simpa using this
section
variable (S : List Fd) (v : Nat → Int) (fr tb : Nat)
def hitB (k : Nat) : Bool := decide (0 ≤ v k ∧ v k / 8 = fr)
def atF (k : Nat) : Nat := tb * 8 + (List.range k).countP (hitB v fr)
def hereB (q : Int) (k : Nat) (f : Fd) : Bool := decide (f.place = q) && decide (f.of = k)
def begF : Nat → List Fd
  | 0 => S
  | k + 1 => if hitB v fr k = true then begF k ++ (S.filter (hereB (v k) k)).map (mv (atF v fr tb k)) else begF k
def overF (k : Nat) : Int := if hitB v fr k = true then atF v fr tb k else v k
def leaveB (f : Fd) : Bool := decide (f.place / 8 ≠ fr)
theorem atF_succ (k : Nat) : atF v fr tb (k + 1) = if hitB v fr k = true then atF v fr tb k + 1 else atF v fr tb k := by
  unfold atF
  rw [List.range_succ, List.countP_append, List.countP_cons, List.countP_nil]
  split <;> omega
theorem beg_len (k : Nat) : S.length ≤ (begF S v fr tb k).length ∧ (begF S v fr tb k).length ≤ S.length + k * S.length := by
  induction k with
  | zero => simp [begF]
  | succ k ih =>
    unfold begF
    have hl := List.length_filter_le (hereB (v k) k) S
    rw [Nat.succ_mul]
    split
    · rw [List.length_append, List.length_map]
      omega
    · omega
theorem mem_beg (k : Nat) (g : Fd) : g ∈ begF S v fr tb k ↔ g ∈ S ∨ ∃ j b, j < k ∧ hitB v fr j = true ∧ b ∈ S ∧ b.place = v j ∧ b.of = j ∧ g = mv (atF v fr tb j) b := by
  induction k with
  | zero =>
    unfold begF
    refine ⟨.inl, ?_⟩
    rintro (h | ⟨j, b, h, _⟩)
    · exact h
    · omega
  | succ k ih =>
    unfold begF
    split
    · rename_i hh
      rw [List.mem_append, ih, List.mem_map]
      constructor
      · rintro ((h | ⟨j, b, h1, h2⟩) | ⟨b, hb, rfl⟩)
        · exact .inl h
        · exact .inr ⟨j, b, by omega, h2⟩
        · rw [List.mem_filter] at hb
          obtain ⟨h1, h2⟩ := hb
          unfold hereB at h2
          simp only [Bool.and_eq_true, decide_eq_true_eq] at h2
          exact .inr ⟨k, b, by omega, hh, h1, h2.1, h2.2, rfl⟩
      · rintro (h | ⟨j, b, h1, h2, h3, h4, h5, h6⟩)
        · exact .inl (.inl h)
        · by_cases e : j = k
          · subst e
            refine .inr ⟨b, List.mem_filter.2 ⟨h3, ?_⟩, h6.symm⟩
            unfold hereB
            simp [h4, h5]
          · exact .inl (.inr ⟨j, b, by omega, h2, h3, h4, h5, h6⟩)
    · rename_i hh
      rw [ih]
      constructor
      · rintro (h | ⟨j, b, h1, h2⟩)
        · exact .inl h
        · exact .inr ⟨j, b, by omega, h2⟩
      · rintro (h | ⟨j, b, h1, h2, h3⟩)
        · exact .inl h
        · have : j ≠ k := fun e => hh (e ▸ h2)
          exact .inr ⟨j, b, by omega, h2, h3⟩
end
/-- What the law sets up. -/
structure Moving (S : List Fd) (p : Cp) (fr tb : Nat) : Prop where
  apart : Apart2 S
  free : ∀ f, f ∈ S → f.place / 8 ≠ tb
  badFr : p.bad fr = false
  badTo : p.bad tb = false
  ne : fr ≠ tb
  fr12 : fr < 12
  tb12 : tb < 12
section
variable {S : List Fd} {p : Cp} {fr tb : Nat} (h : Moving S p fr tb)
include h
theorem hit_one {k : Nat} (hk : hitB (liveF S p) fr k = true) : ∃ b, Cand S p k b ∧ (∀ g, Cand S p k g → g ≠ b → g.seq < b.seq) ∧ liveF S p k = b.place ∧ b.place / 8 = fr ∧ ∀ f, f ∈ S → f.place = liveF S p k → f = b := by
  unfold hitB at hk
  have hk := of_decide_eq_true hk
  rcases live_cases h.apart p k with ⟨_, h2⟩ | ⟨b, hb, hd, h2⟩
  · omega
  · exact ⟨b, hb, hd, h2, by rw [← h2]; exact hk.2, fun f hf e => h.apart.place f b hf hb.mem (e.trans h2)⟩
theorem hits_le (k : Nat) (hk : k ≤ 25) : (List.range k).countP (hitB (liveF S p) fr) ≤ 8 := by
  rw [List.countP_eq_length_filter]
  have hn : (((List.range k).filter (hitB (liveF S p) fr)).map fun j => (liveF S p j).toNat - fr * 8).Nodup := by
    rw [List.Nodup, List.pairwise_map]
    refine (List.Pairwise.and_mem.1 (List.Pairwise.filter _ List.nodup_range)).imp ?_
    rintro a b ⟨ha, hb, hne⟩ e
    rw [List.mem_filter] at ha hb
    obtain ⟨x, hx, _, hx2, hx3, hx4⟩ := hit_one h ha.2
    obtain ⟨y, hy, _, hy2, hy3, hy4⟩ := hit_one h hb.2
    have s1 := (sound_parts hx.sound).1
    have s2 := (sound_parts hy.sound).1
    have : x = y := hy4 x hx.mem (by omega)
    have h1 := hx.num
    have h2 := hy.num
    rw [this] at h1
    omega
  have := nodup_len 8 _ hn (fun x hx => by
    obtain ⟨j, hj, rfl⟩ := List.mem_map.1 hx
    rw [List.mem_filter] at hj
    obtain ⟨b, hb, _, h2, h3, _⟩ := hit_one h hj.2
    have s1 := (sound_parts hb.sound).1
    omega)
  simpa using this
theorem at_in {k : Nat} (hk : k < 25) (hh : hitB (liveF S p) fr k = true) : tb * 8 ≤ atF (liveF S p) fr tb k ∧ atF (liveF S p) fr tb k < tb * 8 + 8 := by
  have := hits_le h (k + 1) (by omega)
  rw [List.range_succ, List.countP_append, List.countP_cons, List.countP_nil, if_pos hh] at this
  unfold atF
  omega
/-- As long as the elder copies are there nothing changes. -/
theorem beg_live (k : Nat) (of : Nat) : liveF (begF S (liveF S p) fr tb k) p of = liveF S p of := by
  rcases live_cases h.apart p of with ⟨hn, h2⟩ | ⟨b, hb, hd, h2⟩
  · rw [h2]
    refine live_none (fun g hg => ?_)
    rcases (mem_beg S (liveF S p) fr tb k g).1 hg.mem with hm | ⟨j, b, h1, h3, h4, h5, h6, rfl⟩
    · exact hn g ⟨hm, hg.sound, hg.ok, hg.num, hg.new⟩
    · have e : b.of = of := hg.num
      have : j = of := by omega
      subst this
      unfold hitB at h3
      have := of_decide_eq_true h3
      omega
  · rw [h2]
    refine live_best ⟨(mem_beg S (liveF S p) fr tb k b).2 (.inl hb.mem), hb.sound, hb.ok, hb.num, hb.new⟩ (fun g hg hne => ?_)
    rcases (mem_beg S (liveF S p) fr tb k g).1 hg.mem with hm | ⟨j, c, h1, h3, h4, h5, h6, rfl⟩
    · exact .inl (hd g ⟨hm, hg.sound, hg.ok, hg.num, hg.new⟩ hne)
    · have e : c.of = of := hg.num
      have : j = of := by omega
      subst this
      have : c = b := h.apart.place c b h4 hb.mem (h5.trans h2)
      subst this
      exact mv_dom hb.sound _
/-- When they are away the younger ones count. -/
theorem end_live {E : List Fd} (hE : ∀ g, g ∈ E ↔ g ∈ begF S (liveF S p) fr tb 25 ∧ g.place / 8 ≠ fr) (of : Nat) (hof : of < 25) : liveF E p of = overF (liveF S p) fr tb of := by
  unfold overF
  rcases live_cases h.apart p of with ⟨hn, h2⟩ | ⟨b, hb, hd, h2⟩
  · rw [if_neg (fun e => by unfold hitB at e; have := of_decide_eq_true e; omega), h2]
    refine live_none (fun g hg => ?_)
    rcases (mem_beg S (liveF S p) fr tb 25 g).1 ((hE g).1 hg.mem).1 with hm | ⟨j, b, h1, h3, h4, h5, h6, rfl⟩
    · exact hn g ⟨hm, hg.sound, hg.ok, hg.num, hg.new⟩
    · have e : b.of = of := hg.num
      have : j = of := by omega
      subst this
      unfold hitB at h3
      have := of_decide_eq_true h3
      omega
  · have hs := sound_parts hb.sound
    by_cases hh : hitB (liveF S p) fr of = true
    · rw [if_pos hh]
      have ha := at_in h hof hh
      have h12 := h.tb12
      have hne := h.ne
      have hfr : b.place / 8 = fr := by
        unfold hitB at hh
        rw [← h2]
        exact (of_decide_eq_true hh).2
      generalize hat : atF (liveF S p) fr tb of = a at *
      have hpl : (mv a b).place = a := rfl
      refine live_best (b := mv a b) ⟨(hE _).2 ⟨(mem_beg S (liveF S p) fr tb 25 _).2 (.inr ⟨of, b, hof, hh, hb.mem, h2.symm, hb.num, by rw [hat]⟩), by rw [hpl]; omega⟩, mv_sound hb.sound (by omega), ?_, hb.num, hb.new⟩ (fun g hg hne => ?_)
      · unfold okB
        rw [hpl, show ((a : Int) / 8).toNat = tb by omega, h.badTo]
        rfl
      · obtain ⟨hm, hlv⟩ := (hE g).1 hg.mem
        rcases (mem_beg S (liveF S p) fr tb 25 g).1 hm with hm | ⟨j, c, h1, h3, h4, h5, h6, rfl⟩
        · refine .inl (hd g ⟨hm, hg.sound, hg.ok, hg.num, hg.new⟩ (fun e => ?_))
          rw [e] at hlv
          exact hlv hfr
        · have e : c.of = of := hg.num
          have : j = of := by omega
          subst this
          have : c = b := h.apart.place c b h4 hb.mem (h5.trans h2)
          subst this
          rw [hat] at hne
          exact absurd rfl hne
    · rw [if_neg hh, h2]
      have hfr : b.place / 8 ≠ fr := fun e => hh (by
        unfold hitB
        exact decide_eq_true ⟨by omega, by rw [h2]; exact e⟩)
      refine live_best ⟨(hE _).2 ⟨(mem_beg S (liveF S p) fr tb 25 _).2 (.inl hb.mem), hfr⟩, hb.sound, hb.ok, hb.num, hb.new⟩ (fun g hg hne => ?_)
      rcases (mem_beg S (liveF S p) fr tb 25 g).1 ((hE g).1 hg.mem).1 with hm | ⟨j, c, h1, h3, h4, h5, h6, rfl⟩
      · exact .inl (hd g ⟨hm, hg.sound, hg.ok, hg.num, hg.new⟩ hne)
      · have e : c.of = of := hg.num
        have : j = of := by omega
        subst this
        exact absurd h3 hh
end
end Go.Proofs.Ytpmihnobeicjmaa
