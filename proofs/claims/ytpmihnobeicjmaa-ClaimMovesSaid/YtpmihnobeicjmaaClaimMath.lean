/- The plain law: the newest of the founds by rising place is the document's. -/
import Derived.Test.YtpmihnobeicjmaaClaim4
namespace Go.Proofs.Ytpmihnobeicjmaa
set_option linter.unusedVariables false
/-- What tops are: no lesser than any that may count, and one of them, or -1. -/
structure IsTop (L : List Fd) (of above t : Int) : Prop where
  le : ∀ f, f ∈ L → f.sound = true → f.of = of → above < f.seq → f.seq ≤ t
  at_ : t = -1 ∨ (0 ≤ t ∧ above < t ∧ ∃ f, f ∈ L ∧ f.sound = true ∧ f.of = of ∧ f.seq = t)
theorem sound_seq {f : Fd} (h : f.sound = true) : 0 ≤ f.seq := by
  unfold Fd.sound at h
  have := of_decide_eq_true h
  omega
theorem snoc_rec {α : Type} {p : List α → Prop} (h0 : p []) (h1 : ∀ l a, p l → p (l ++ [a])) (l : List α) : p l := by
  have : ∀ l : List α, p l.reverse := fun l => by
    induction l with
    | nil => exact h0
    | cons a l ih => rw [List.reverse_cons]; exact h1 _ _ ih
  have h := this l.reverse
  rwa [List.reverse_reverse] at h
theorem topF_is (L : List Fd) (of above : Int) : IsTop L of above (topF L of above) := by
  induction L using snoc_rec with
  | h0 => exact ⟨fun f h => by simp at h, .inl rfl⟩
  | h1 L f ih =>
    rw [topF_snoc]
    generalize topF L of above = t at *
    unfold topStep
    split
    · rename_i h
      have hs := sound_seq h.1
      refine ⟨fun g hg h1 h2 h3 => ?_, .inr ⟨hs, h.2.2.1, f, by simp, h.1, h.2.1, rfl⟩⟩
      rcases List.mem_append.1 hg with hg | hg
      · have := ih.le g hg h1 h2 h3
        omega
      · rw [List.mem_singleton.1 hg]
        exact Int.le_refl _
    · rename_i h
      refine ⟨fun g hg h1 h2 h3 => ?_, ?_⟩
      · rcases List.mem_append.1 hg with hg | hg
        · exact ih.le g hg h1 h2 h3
        · obtain rfl := List.mem_singleton.1 hg
          rcases Int.lt_or_le t g.seq with h4 | h4
          · exact absurd ⟨h1, h2, h3, h4⟩ h
          · exact h4
      · rcases ih.at_ with h1 | ⟨h1, h2, g, hg, h3⟩
        · exact .inl h1
        · exact .inr ⟨h1, h2, g, by simp [hg], h3⟩
theorem IsTop.uniq {L M : List Fd} {of above t u : Int} (h : IsTop L of above t) (k : IsTop M of above u) (hm : ∀ f, f.sound = true → (f ∈ L ↔ f ∈ M)) : t = u := by
  rcases h.at_ with h1 | ⟨h1, h2, f, hf, h3, h4, h5⟩
  · rcases k.at_ with k1 | ⟨k1, k2, g, hg, k3, k4, k5⟩
    · omega
    · have := h.le g ((hm g k3).2 hg) k3 k4 (by omega)
      omega
  · rcases k.at_ with k1 | ⟨k1, k2, g, hg, k3, k4, k5⟩
    · have := k.le f ((hm f h3).1 hf) h3 h4 (by omega)
      omega
    · have a := h.le g ((hm g k3).2 hg) k3 k4 (by omega)
      have b := k.le f ((hm f h3).1 hf) h3 h4 (by omega)
      omega
theorem mem_byP {L : List Fd} {f : Fd} (hs : f.sound = true) : f ∈ byP L 96 ↔ f ∈ L := by
  unfold byP sel
  simp only [List.mem_flatMap, List.mem_range, List.mem_filter, Bool.and_eq_true, beq_iff_eq]
  constructor
  · rintro ⟨p, _, h, _⟩
    exact h
  · intro h
    have : 0 ≤ f.place ∧ f.place ≤ 95 := by
      unfold Fd.sound at hs
      have := of_decide_eq_true hs
      omega
    exact ⟨f.place.toNat, by omega, h, hs, by omega⟩
theorem byP_sound {L : List Fd} {f : Fd} {k : Nat} (h : f ∈ byP L k) : f.sound = true := by
  unfold byP sel at h
  simp only [List.mem_flatMap, List.mem_range, List.mem_filter, Bool.and_eq_true, beq_iff_eq] at h
  obtain ⟨p, _, _, h, _⟩ := h
  exact h
theorem byP_cand (L : List Fd) (of top : Int) (k : Nat) : byP (candF L of top) k = candF (byP L k) of top := by
  unfold byP candF
  rw [List.filter_flatMap]
  congr 1
  funext p
  unfold sel
  rw [List.filter_filter, List.filter_filter]
  congr 1
  funext f
  exact Bool.and_comm _ _
theorem bestF_snoc {l : List Fd} (h : l ≠ []) (f : Fd) : bestF (l ++ [f]) = elder (bestF l) f := by
  cases l with
  | nil => exact absurd rfl h
  | cons x l => simp [bestF]
theorem bestF_mem : ∀ {l : List Fd}, l ≠ [] → bestF l ∈ l := fun {l} => by
  induction l using snoc_rec with
  | h0 => intro h; exact absurd rfl h
  | h1 l f ih =>
    intro _
    by_cases h : l = []
    · subst h
      simp [bestF]
    · rw [bestF_snoc h]
      unfold elder
      split
      · simp
      · exact List.mem_append_left _ (ih h)
theorem cand_of {S : List Fd} {of top : Int} {f : Fd} : f ∈ candF S of top ↔ f ∈ S ∧ f.sound = true ∧ f.of = of ∧ f.seq = top := by
  unfold candF isCand
  simp [and_assoc]
theorem cand_ne {S : List Fd} {of above t : Int} (h : IsTop S of above t) (h0 : 0 ≤ t) : candF S of t ≠ [] := by
  rcases h.at_ with h1 | ⟨h1, h2, f, hf, h3, h4, h5⟩
  · omega
  · exact List.ne_nil_of_mem (cand_of.2 ⟨hf, h3, h4, h5⟩)
/-- The search over sound founds, step by step. -/
theorem newestF_is (S : List Fd) (of above : Int) (hs : ∀ f, f ∈ S → f.sound = true) : newestF S of above = if topF S of above < 0 then (Fd.zero, false) else (bestF (candF S of (topF S of above)), true) := by
  induction S using snoc_rec with
  | h0 => rfl
  | h1 S f ih =>
    have ih := ih (fun g hg => hs g (by simp [hg]))
    have hf := hs f (by simp)
    have ht := topF_is S of above
    have hq := sound_seq hf
    rw [newestF_snoc, ih, topF_snoc]
    generalize topF S of above = t at *
    have hge : -1 ≤ t := by rcases ht.at_ with h | h <;> omega
    by_cases hm : f.of = of ∧ above < f.seq
    · obtain ⟨h1, h2⟩ := hm
      by_cases h3 : t < f.seq
      · rw [top_yes hf h1 h2 h3, if_neg (show ¬ f.seq < 0 by omega)]
        have hc : candF (S ++ [f]) of f.seq = [f] := by
          rw [candF_snoc, if_pos (by simp [isCand, hf, h1])]
          have : candF S of f.seq = [] := by
            rw [List.eq_nil_iff_forall_not_mem]
            intro g hg
            obtain ⟨k1, k2, k3, k4⟩ := cand_of.1 hg
            have := ht.le g k1 k2 k3 (by omega)
            omega
          rw [this]
          rfl
        rw [hc]
        by_cases h4 : t < 0
        · rw [if_pos h4]
          exact newStep_take h1 h2 (.inl rfl)
        · rw [if_neg h4]
          have hb := bestF_mem (cand_ne ht (by omega))
          exact newStep_take h1 h2 (.inr (.inl (by rw [(cand_of.1 hb).2.2.2]; exact h3)))
      · rw [top_no (by omega)]
        rw [if_neg (show ¬ t < 0 by omega), if_neg (show ¬ t < 0 by omega)]
        have hne := cand_ne ht (by omega)
        have hb := (cand_of.1 (bestF_mem hne)).2.2.2
        by_cases h4 : f.seq = t
        · have hc : candF (S ++ [f]) of t = candF S of t ++ [f] := by rw [candF_snoc, if_pos (by simp [isCand, hf, h1, h4])]
          rw [hc, bestF_snoc hne]
          unfold elder
          by_cases ha : ahead f.copy (bestF (candF S of t)).copy = true
          · rw [if_pos ha]
            exact newStep_take h1 h2 (.inr (.inr ⟨by omega, ha⟩))
          · rw [if_neg ha]
            exact newStep_skip (.inr (.inr ⟨rfl, by omega, .inr (by simpa using ha)⟩))
        · have hc : candF (S ++ [f]) of t = candF S of t := by rw [candF_snoc, if_neg (by simp [isCand, h4]), List.append_nil]
          rw [hc]
          exact newStep_skip (.inr (.inr ⟨rfl, by omega, .inl (by omega)⟩))
    · have hno : f.of ≠ of ∨ f.seq ≤ above := by
        by_cases h : f.of = of
        · exact .inr (by rcases Int.lt_or_le above f.seq with h2 | h2; exact absurd ⟨h, h2⟩ hm; exact h2)
        · exact .inl h
      rw [top_no (by rcases hno with h | h; exact .inr (.inl h); exact .inr (.inr (.inl h)))]
      rw [newStep_skip (by rcases hno with h | h; exact .inl h; exact .inr (.inl h))]
      by_cases h4 : t < 0
      · rw [if_pos h4, if_pos h4]
      · rw [if_neg h4, if_neg h4]
        have : ¬ isCand of t f = true := by
          intro h
          simp only [isCand, Bool.and_eq_true, decide_eq_true_eq] at h
          rcases ht.at_ with h5 | ⟨h5, h6, _⟩
          · omega
          · rcases hno with h7 | h7
            · exact h7 h.1.2
            · omega
        rw [candF_snoc, if_neg this, List.append_nil]
theorem top_byP (L : List Fd) (of above : Int) : topF (byP L 96) of above = topF L of above := (topF_is _ of above).uniq (topF_is _ of above) (fun f hf => mem_byP hf)
/-- What newest finds is what the document says. -/
theorem newest_ref (L : List Fd) (of above : Int) : newestF (byP L 96) of above = refNewest L of above := by
  rw [newestF_is _ _ _ (fun f h => byP_sound h), top_byP]
  unfold refNewest
  rw [byP_cand]
theorem ref_ne (L : List Fd) (of above : Int) (h : 0 ≤ topF L of above) : byP (candF L of (topF L of above)) 96 ≠ [] := by
  rw [byP_cand, ← top_byP]
  rw [← top_byP] at h
  exact cand_ne (topF_is _ of above) h
end Go.Proofs.Ytpmihnobeicjmaa
