/- A block is moved: what counts, in plain lists. -/
import Derived.Test.YtpmihnobeicjmaaLive
namespace Go.Proofs.Ytpmihnobeicjmaa
open Go.RowKit
set_option linter.unusedVariables false
attribute [local irreducible] ahead Fd.sound
/-- b counts before g. -/
def dom (b g : Fd) : Prop := g.seq < b.seq ∨ (g.seq = b.seq ∧ ahead b.copy g.copy = true ∧ ahead g.copy b.copy = false)
theorem ahead_self (a : Int) : ahead a a = false := by
  unfold ahead
  exact decide_eq_false (by omega)
theorem newestF_best (M : List Fd) (of above : Int) (b : Fd) (h1 : b.of = of) (h2 : above < b.seq) (hd : ∀ g, g ∈ M → g ≠ b → g.of = of → above < g.seq → dom b g) : (b ∈ M → newestF M of above = (b, true)) ∧ (b ∉ M → (newestF M of above).2 = true → dom b (newestF M of above).1) := by
  induction M using snoc_rec with
  | h0 => exact ⟨fun h => (by cases h), fun _ h => (by cases h)⟩
  | h1 l f ih =>
    obtain ⟨i1, i2⟩ := ih (fun g hg => hd g (List.mem_append_left _ hg))
    rw [newestF_snoc]
    have hf := hd f (by simp)
    generalize hs : newestF l of above = s at *
    obtain ⟨c, h⟩ := s
    by_cases e : f = b
    · subst e
      refine ⟨fun _ => ?_, fun hn => absurd (by simp) hn⟩
      by_cases hm : f ∈ l
      · rw [i1 hm]
        exact newStep_skip (.inr (.inr ⟨rfl, Int.le_refl _, .inr (ahead_self _)⟩))
      · refine newStep_take h1 h2 ?_
        cases h with
        | false => exact .inl rfl
        | true => rcases i2 hm rfl with h3 | ⟨h3, h4, _⟩
                  · exact .inr (.inl h3)
                  · exact .inr (.inr ⟨h3.symm, h4⟩)
    · by_cases hm : b ∈ l
      · refine ⟨fun _ => ?_, fun hn => absurd (List.mem_append_left _ hm) hn⟩
        rw [i1 hm]
        refine newStep_skip ?_
        by_cases c1 : f.of = of
        · by_cases c2 : above < f.seq
          · rcases hf e c1 c2 with h3 | ⟨h3, _, h4⟩
            · exact .inr (.inr ⟨rfl, by omega, .inl (by omega)⟩)
            · exact .inr (.inr ⟨rfl, by omega, .inr h4⟩)
          · exact .inr (.inl (by omega))
        · exact .inl c1
      · refine ⟨fun hb => ?_, fun _ => ?_⟩
        · rcases List.mem_append.1 hb with hb | hb
          · exact absurd hb hm
          · exact absurd (List.mem_singleton.1 hb).symm e
        · unfold newStep
          split
          · exact i2 hm
          · rename_i hn
            split
            · exact fun _ => hf e (by omega) (by omega)
            · exact i2 hm
theorem newestF_none (M : List Fd) (of above : Int) (hd : ∀ g, g ∈ M → ¬ (g.of = of ∧ above < g.seq)) : newestF M of above = (Fd.zero, false) := by
  induction M using snoc_rec with
  | h0 => rfl
  | h1 l f ih =>
    rw [newestF_snoc, ih (fun g hg => hd g (List.mem_append_left _ hg))]
    have := hd f (by simp)
    exact newStep_skip (by omega)
/-- A found that may count for a number. -/
structure Cand (L : List Fd) (p : Cp) (n : Nat) (f : Fd) : Prop where
  mem : f ∈ L
  sound : f.sound = true
  ok : okB p f = true
  num : f.of = n
  new : aboveF p n < f.seq
theorem mem_good {L : List Fd} {p : Cp} {f : Fd} : f ∈ goodF (byP L 96) p ↔ f ∈ L ∧ f.sound = true ∧ okB p f = true := by
  unfold goodF
  rw [List.mem_filter]
  constructor
  · rintro ⟨h1, h2⟩
    have hs := byP_sound h1
    exact ⟨(mem_byP hs).1 h1, hs, h2⟩
  · rintro ⟨h1, h2, h3⟩
    exact ⟨(mem_byP h2).2 h1, h3⟩
theorem live_best {L : List Fd} {p : Cp} {of : Nat} {b : Fd} (hb : Cand L p of b) (hd : ∀ g, Cand L p of g → g ≠ b → dom b g) : liveF L p of = b.place := by
  unfold liveF
  rw [(newestF_best _ of (aboveF p of) b hb.num hb.new (fun g hg hne h1 h2 => by
    obtain ⟨h3, h4, h5⟩ := mem_good.1 hg
    exact hd g ⟨h3, h4, h5, h1, h2⟩ hne)).1 (mem_good.2 ⟨hb.mem, hb.sound, hb.ok⟩)]
  rfl
theorem live_none {L : List Fd} {p : Cp} {of : Nat} (h : ∀ g, ¬ Cand L p of g) : liveF L p of = -1 := by
  unfold liveF
  rw [newestF_none _ of (aboveF p of) (fun g hg h1 => by
    obtain ⟨h3, h4, h5⟩ := mem_good.1 hg
    exact h g ⟨h3, h4, h5, h1.1, h1.2⟩)]
  rfl
/-- Founds in places of their own, each number and seq once. -/
structure Apart2 (L : List Fd) : Prop where
  sound : ∀ f, f ∈ L → f.sound = true
  place : ∀ f g, f ∈ L → g ∈ L → f.place = g.place → f = g
  pair : ∀ f g, f ∈ L → g ∈ L → f.of = g.of → f.seq = g.seq → f = g
theorem Apart2.sub {L M : List Fd} (h : Apart2 L) (hs : ∀ f, f ∈ M → f ∈ L) : Apart2 M := ⟨fun f hf => h.sound f (hs f hf), fun f g hf hg => h.place f g (hs f hf) (hs g hg), fun f g hf hg => h.pair f g (hs f hf) (hs g hg)⟩
/-- Of founds that may count one has the greatest seq. -/
theorem top_ex (P : Fd → Prop) [DecidablePred P] (L : List Fd) : (∀ f, f ∈ L → ¬ P f) ∨ ∃ b, b ∈ L ∧ P b ∧ ∀ g, g ∈ L → P g → g.seq ≤ b.seq := by
  induction L with
  | nil => exact .inl (fun f hf => by cases hf)
  | cons f L ih =>
    by_cases hf : P f
    · rcases ih with h | ⟨b, h1, h2, h3⟩
      · exact .inr ⟨f, by simp, hf, fun g hg hp => by
          rcases List.mem_cons.1 hg with rfl | hg
          · exact Int.le_refl _
          · exact absurd hp (h g hg)⟩
      · by_cases hb : b.seq ≤ f.seq
        · exact .inr ⟨f, by simp, hf, fun g hg hp => by
            rcases List.mem_cons.1 hg with rfl | hg
            · exact Int.le_refl _
            · exact Int.le_trans (h3 g hg hp) hb⟩
        · exact .inr ⟨b, List.mem_cons_of_mem _ h1, h2, fun g hg hp => by
            rcases List.mem_cons.1 hg with rfl | hg
            · omega
            · exact h3 g hg hp⟩
    · rcases ih with h | ⟨b, h1, h2, h3⟩
      · exact .inl (fun g hg => by
          rcases List.mem_cons.1 hg with rfl | hg
          · exact hf
          · exact h g hg)
      · exact .inr ⟨b, List.mem_cons_of_mem _ h1, h2, fun g hg hp => by
          rcases List.mem_cons.1 hg with rfl | hg
          · exact absurd hp hf
          · exact h3 g hg hp⟩
/-- What counts for a number, where each number and seq lies once. -/
theorem live_cases {L : List Fd} (hL : Apart2 L) (p : Cp) (of : Nat) : ((∀ g, ¬ Cand L p of g) ∧ liveF L p of = -1) ∨ ∃ b, Cand L p of b ∧ (∀ g, Cand L p of g → g ≠ b → g.seq < b.seq) ∧ liveF L p of = b.place := by
  rcases top_ex (fun f => f.sound = true ∧ okB p f = true ∧ f.of = of ∧ aboveF p of < f.seq) L with h | ⟨b, h1, ⟨h2, h3, h4, h5⟩, h6⟩
  · have hn : ∀ g, ¬ Cand L p of g := fun g hg => h g hg.mem ⟨hg.sound, hg.ok, hg.num, hg.new⟩
    exact .inl ⟨hn, live_none hn⟩
  · have hb : Cand L p of b := ⟨h1, h2, h3, h4, h5⟩
    have hd : ∀ g, Cand L p of g → g ≠ b → g.seq < b.seq := fun g hg hne => by
      have hle := h6 g hg.mem ⟨hg.sound, hg.ok, hg.num, hg.new⟩
      have hne2 : g.seq ≠ b.seq := fun e => hne (hL.pair g b hg.mem h1 (hg.num.trans h4.symm) e)
      omega
    exact .inr ⟨b, hb, hd, live_best hb (fun g hg hne => .inl (hd g hg hne))⟩
/-- A found in another place, a copy younger. -/
def mv (a : Nat) (f : Fd) : Fd := { f with place := a, copy := (f.copy + 1) % 256 }
theorem sound_parts {f : Fd} (h : f.sound = true) : (0 ≤ f.place ∧ f.place ≤ 95) ∧ (0 ≤ f.of ∧ f.of ≤ 24) ∧ (0 ≤ f.seq ∧ f.seq ≤ 1099511627775) ∧ 0 ≤ f.copy ∧ f.copy ≤ 255 := by
  unfold Fd.sound at h
  have := of_decide_eq_true h
  omega
theorem sound_mk {f : Fd} (h : (0 ≤ f.place ∧ f.place ≤ 95) ∧ (0 ≤ f.of ∧ f.of ≤ 24) ∧ (0 ≤ f.seq ∧ f.seq ≤ 1099511627775) ∧ 0 ≤ f.copy ∧ f.copy ≤ 255) : f.sound = true := by
  unfold Fd.sound
  exact decide_eq_true (by omega)
theorem mv_sound {f : Fd} (h : f.sound = true) {a : Nat} (ha : a ≤ 95) : (mv a f).sound = true := by
  have := sound_parts h
  refine sound_mk ⟨?_, this.2.1, this.2.2.1, ?_⟩
  · show 0 ≤ (a : Int) ∧ (a : Int) ≤ 95
    omega
  · show 0 ≤ (f.copy + 1) % 256 ∧ (f.copy + 1) % 256 ≤ 255
    omega
theorem mv_dom {f : Fd} (h : f.sound = true) (a : Nat) : dom f (mv a f) := by
  have := sound_parts h
  refine .inr ⟨rfl, ?_, ?_⟩
  · show ahead f.copy ((f.copy + 1) % 256) = true
    unfold ahead
    exact decide_eq_true (by omega)
  · show ahead ((f.copy + 1) % 256) f.copy = false
    unfold ahead
    exact decide_eq_false (by omega)
end Go.Proofs.Ytpmihnobeicjmaa
