/- patinaref01.Apart: lists in blocks of their own are written over and grown: none meets another. -/
import Derived.Test.YtmffeofgcnabiaaLy
namespace Go.Proofs.Ytmffeofgcnabiaa
open Go.RowKit
set_option linter.unusedVariables false
def pat (k j : Nat) : Int := (37 * (k : Int) + j) % 256
def pat2 (k j : Nat) : Int := (100 + 37 * (k : Int) + j) % 256
def slv (A : Nat → Option Addr) (n c : Nat → Nat) : Nat → Value := fun k => .slice (A k) (n k) (c k)
/-- The blocks of the lists. -/
def allBlk (A : Nat → Option Addr) (m : Nat) : List Nat := (List.range m).flatMap fun k => blk (A k)
theorem mem_allBlk {A : Nat → Option Addr} {m k x : Nat} (hk : k < m) (hx : x ∈ blk (A k)) : x ∈ allBlk A m := List.mem_flatMap.2 ⟨k, List.mem_range.2 hk, hx⟩
/-- What holds at the head of the first loop. -/
structure ApIn (w : World) (A : Nat → Option Addr) (n c : Nat → Nat) (f : Nat → Nat → Value) (m : Nat) (i : Nat) (GA : Option Addr) (gc : Nat) (HA : Nat → Option Addr) (hc : Nat → Nat) (wr : World) : Prop where
  grown : Ly wr 29 1 GA i gc (slv HA (fun k => n k + 7) hc)
  gnew : ∀ x, x ∈ blk GA → w.heap.size ≤ x
  done : ∀ k, k < i → Ly wr 5 1 (A k) (n k) (c k) (fun j => .int .u8 (pat k j))
  more : ∀ k, k < i → Ly wr 5 1 (HA k) (n k + 7) (hc k) (fun j => .int .u8 (if j < n k then pat k j else pat2 k (j - n k)))
  at_ : ∀ k, k < i → ∀ x, x ∈ blk (HA k) → x ∈ blk (A k) ∨ w.heap.size ≤ x
  todo : ∀ k, i ≤ k → k < m → Ly wr 5 1 (A k) (n k) (c k) (f k)
  keep : Keep (allBlk A m) w wr
theorem bytes_info : (Try.prog.info? 29).map (fun i => (i.zero, i.size, i.bytes)) = some (some (.slice none 0 0), 1, 24) := by kernel_rfl
set_option maxHeartbeats 4000000 in
set_option maxRecDepth 100000 in
theorem apart_all (AL : Option Addr) (m cL : Nat) (A : Nat → Option Addr) (n c : Nat → Nat) (f : Nat → Nat → Value) (w : World)
    (hL : Ly w 29 1 AL m cL (slv A n c)) (hf : ∀ k, k < m → Ly w 5 1 (A k) (n k) (c k) (f k)) (hn : ∀ k, n k ≤ 140737488351232) (hm : m ≤ 5864062014805)
    (hd : ∀ k k', k < m → k' < m → k ≠ k' → ∀ x, x ∈ blk (A k) → x ∉ blk (A k')) :
    Calls Try.prog 15 #[.slice AL m cL] w fun e w' => e = .returned (.bool true) ∧ Keep (allBlk A m) w w' := by
  obtain ⟨i0, hi, hz0, hz1, hz2⟩ := info_parts byte_info
  obtain ⟨j0, hj, hy0, hy1, hy2⟩ := info_parts bytes_info
  have HL := Lib.hid hL; have HD := Lib.hid hd; have HF := Lib.hid hf; have HN := Lib.hid hn
  clear hL hd hf hn
  go_enter Try.func15, Try.ntmps15
  go_wp2
  go_loopw [3, 4, 5, 6, 7] (fun g i _ _ _ wr => ∃ (k : Nat) (GA : Option Addr) (gc : Nat) (HA : Nat → Option Addr) (hc : Nat → Nat), k ≤ m ∧ i = .int .i64 k ∧ g = .slice GA k gc ∧ ApIn w A n c f m k GA gc HA hc wr) (fun _ i _ _ _ _ => m - (intOf i).toNat)
  case atStart => exact ⟨0, none, 0, fun _ => none, fun _ => 0, by omega, rfl, rfl, ⟨Ly.nil _ _ _ _, (fun x h => by cases h), (fun k h => by omega), (fun k h => by omega), (fun k h => by omega), fun k _ hk => HF.out k hk, Keep.refl _ _⟩⟩
  case round =>
    obtain ⟨k, GA, gc, HA, hc, hk, rfl, rfl, I⟩ := hrel
    by_cases hlt : k < m
    · have hLr := HL.out.keep I.keep (fun x hx hm => by
        obtain ⟨j, hj, hx2⟩ := List.mem_flatMap.1 hm
        exact HL.out.type_ne (HF.out j (List.mem_range.1 hj)) (by decide) hx hx2)
      have hI := I.todo k (Nat.le_refl _) hlt
      have hnk := HN.out k
      have II := Lib.hid I; clear I
      obtain ⟨gl, rfl, cl0, _⟩ := hLr.at1 hlt
      have HLr := Lib.hid hLr; clear hLr
      have HT : Hid (∀ x, x ∈ blk (A k) → x ≠ gl) := fun x hx e => hI.type_ne HLr.out (by decide) hx (by rw [e]; exact List.mem_singleton.2 rfl)
      go_wp2
      have HI := Lib.hid hI; clear hI
      have hgl := HLr.out.lt (a := ⟨gl, 0, none⟩) rfl
      have hnl : gl ∉ blk (A k) := fun h => HT.out gl h rfl
      obtain ⟨wo, rfl⟩ : ∃ wo : World, wo = wr := ⟨_, rfl⟩
      go_loopw [5] (fun j wq => ∃ (q : Nat), q ≤ n k ∧ j = .int .i64 q ∧ Ly wq 5 1 (A k) (n k) (c k) (fun j => if j < q then .int .u8 (pat k j) else f k j) ∧ Keep (blk (A k)) wo wq) (fun j _ => n k - (intOf j).toNat)
      case atStart => exact ⟨0, by omega, rfl, HI.out.congr (fun j hj => by simp), Keep.refl _ _⟩
      case round =>
        obtain ⟨q, hq, rfl, hI, hK⟩ := hrel
        have cl1 : wr.cell? ⟨gl, k, none⟩ = some (.slice (A k) (n k) (c k)) := (hK.cell (p := ⟨gl, k, none⟩) hgl hnl).trans cl0
        by_cases hq2 : q < n k
        · obtain ⟨g, hA, ca, fa⟩ := hI.at1 hq2
          have cl : wr.cell? ⟨gl, k, none⟩ = some (.slice (some ⟨g, 0, none⟩) (n k) (c k)) := by rw [cl1, hA]
          have HAe := Lib.hid hA; have HK := Lib.hid hK; have HI2 := Lib.hid hI
          clear cl1 cl0 hA hK hI
          go_wp2
          go_roundw
          case rel => exact ⟨q + 1, by omega, by go_num, (HI2.out.set HAe.out q _).congr (fun j hj => by
            unfold put
            by_cases h : j = q
            · subst h
              rw [if_pos rfl, if_pos (by omega)]
              rfl
            · rw [if_neg h]
              by_cases h2 : j < q
              · have h3 : j < q + 1 := by omega
                simp only [if_pos h2, if_pos h3]
              · have h3 : ¬ j < q + 1 := by omega
                simp only [if_neg h2, if_neg h3]), HK.out.setCell _ _ (.inl (by rw [HAe.out]; exact List.mem_singleton.2 rfl))⟩
          case measure => simp [intOf] <;> omega
        · obtain rfl : q = n k := by omega
          have hP : Ly wr 5 1 (A k) (n k) (c k) (fun j => .int .u8 (pat k j)) := hI.congr (fun j hj => by rw [if_pos (by omega)])
          have HP := Lib.hid hP; have HK := Lib.hid hK
          clear hP hI hK cl0 hq2
          go_wp2
          clear cl1
          obtain ⟨wq, rfl⟩ : ∃ wq : World, wq = wr := ⟨_, rfl⟩
          go_loopw [6, 7] (fun s j wb => ∃ (q : Nat) (X : Option Addr) (xc : Nat), q ≤ 7 ∧ j = .int .i64 q ∧ s = .slice X (n k + q : Nat) xc ∧ Ly wb 5 1 X (n k + q) xc (fun j => .int .u8 (if j < n k then pat k j else pat2 k (j - n k))) ∧ (∀ x, x ∈ blk X → x ∈ blk (A k) ∨ wo.heap.size ≤ x) ∧ Ly wb 5 1 (A k) (n k) (c k) (fun j => .int .u8 (pat k j)) ∧ Keep (blk (A k)) wo wb) (fun _ j _ => 7 - (intOf j).toNat)
          case atStart => exact ⟨0, A k, c k, by omega, rfl, rfl, HP.out.congr (fun j hj => by rw [if_pos (by omega)]), fun x hx => .inl hx, HP.out, HK.out⟩
          case round =>
            clear HP HK
            obtain ⟨q, X, xc, hq, rfl, rfl, hX, hb, hP, hK⟩ := hrel
            have hwr := II.out.keep.size
            have hwq := hK.size
            have HX := Lib.hid hX; have HB := Lib.hid hb; have HP := Lib.hid hP; have HK := Lib.hid hK
            clear hX hb hP hK
            by_cases hq2 : q < 7
            · go_wp2_with (at_builtin
                           refine wpList_append_ly rfl (.tmp 46) (.tmp 53) 29 rfl 5 i0 _ 1 1 Try.underlying29 hi hz0 hz1 hz2 rfl (by omega) X (n k + q) xc _ rfl (HX.out.keep0 ((Keep.refl [] wr).alloc _)) (some ⟨wr.heap.size, 0, none⟩) 1 1 (fun _ => .int .u8 (pat2 k q)) rfl (rd_one (heap_alloc_new _ _)) (Nat.le_refl _) (fun e => by cases e) (fun _ _ => rfl) (by simp only [maxLen]; omega) (by omega) ?_
                           intro X' xc' w' hly hkp hat hpre
                           have HY := Lib.hid hly; have HKP := Lib.hid hkp; have HAT := Lib.hid hat; have HPRE := Lib.hid hpre
                           clear hly hkp hat hpre)
              go_roundw
              case rel => exact ⟨q + 1, X', xc', by omega, by go_num, rfl, HY.out.congr (fun j hj => by
                by_cases h : j < (n k + q) * 1
                · simp only [if_pos h]
                · have h2 : ¬ j < n k := by omega
                  have h3 : j - n k = q := by omega
                  simp only [if_neg h, if_neg h2, h3]), fun x hx => by
                  rcases HAT.out with e | e
                  · exact HB.out x (by rwa [e] at hx)
                  · rw [e] at hx
                    obtain rfl := List.mem_singleton.1 hx
                    right
                    simp
                    omega, (HP.out.keep0 ((Keep.refl [] wr).alloc _)).pre HKP.out (fun x hx hx2 => (HPRE.out x hx2).mono (by omega)), (HK.out.alloc _).then HKP.out HB.out⟩
              case measure => simp [intOf] <;> omega
            · obtain rfl : q = 7 := by omega
              have hGk : ∀ (a b : World) (S : List Nat), S = blk (A k) → Ly a 29 1 GA k gc (slv HA (fun k => n k + 7) hc) → Ly a 5 1 (A k) (n k) (c k) (f k) → Keep S a b → Ly b 29 1 GA k gc (slv HA (fun k => n k + 7) hc) := fun a b S e h1 h2 hk => by
                subst e
                exact h1.keep hk (fun x hx hm => h1.type_ne h2 (by decide) hx hm)
              have HG := Lib.hid (hGk wo wr _ rfl II.out.grown HI.out HK.out)
              clear hGk
              have hk9 : k + 1 ≤ 5864062014805 := by omega
              go_wp2_with (at_builtin
                           refine wpList_append_ly rfl (.tmp 55) (.tmp 57) 43 rfl 29 j0 _ 1 24 Try.underlying43 hj hy0 hy1 hy2 rfl (by omega) GA k gc _ rfl (HG.out.keep0 ((Keep.refl [] wr).alloc _)) (some ⟨wr.heap.size, 0, none⟩) 1 1 (fun _ => .slice X (n k + 7 : Nat) xc) rfl (rd_one (heap_alloc_new _ _)) (Nat.le_refl _) (fun e => by cases e) (fun _ _ => rfl) (by simp only [maxLen]; omega) (by omega) ?_
                           intro GA' gc' w' hly hkp hat hpre
                           have HY := Lib.hid hly; have HKP := Lib.hid hkp; have HAT := Lib.hid hat
                           clear hly hkp hat hpre)
              go_roundw
              case measure => simp [intOf] <;> omega
              case rel =>
                have hG := HG.out
                have kA : Keep [] wr (wr.alloc (.cells #[.slice X (n k + 7 : Nat) xc] 29)) := (Keep.refl [] wr).alloc _
                -- what lies in bytes is kept by the last append
                have kept : ∀ {B : Option Addr} {N C : Nat} {F : Nat → Value}, Ly wr 5 1 B N C F → Ly w' 5 1 B N C F := fun h => (h.keep0 kA).keep HKP.out (fun x hx hm => (hG.keep0 kA).type_ne (h.keep0 kA) (by decide) hm hx)
                have other : ∀ j, j < m → j ≠ k → ∀ x, x ∈ blk (A j) → x ∉ blk (A k) := fun j hj hne x hx => HD.out j k hj hlt hne x hx
                have low : ∀ x, x ∈ blk (A k) → x < w.heap.size := fun x hx => (HF.out k hlt).blk_lt hx
                refine ⟨k + 1, GA', gc', fun j => if j = k then X else HA j, fun j => if j = k then xc else hc j, by omega, by go_num, rfl, ⟨HY.out.congr (fun j hj => ?_), fun x hx => ?_, fun j hj => ?_, fun j hj => ?_, fun j hj x hx => ?_, fun j hj1 hj2 => ?_, ?_⟩⟩
                · by_cases h : j < k * 1
                  · have h2 : ¬ j = k := by omega
                    simp only [if_pos h, slv, if_neg h2]
                  · obtain rfl : j = k := by omega
                    simp only [if_neg h, slv, if_true]
                · rcases HAT.out with e | e
                  · exact II.out.gnew x (by rwa [e] at hx)
                  · rw [e] at hx
                    obtain rfl := List.mem_singleton.1 hx
                    simp
                    omega
                · by_cases h : j = k
                  · subst h
                    exact kept HP.out
                  · exact kept ((II.out.done j (by omega)).keep HK.out (other j (by omega) h))
                · by_cases h : j = k
                  · subst h
                    simp only [if_true]
                    exact kept HX.out
                  · simp only [if_neg h]
                    refine kept ((II.out.more j (by omega)).keep HK.out (fun x hx hm => ?_))
                    rcases II.out.at_ j (by omega) x hx with h2 | h2
                    · exact other j (by omega) h x h2 hm
                    · have := low x hm
                      omega
                · by_cases h : j = k
                  · subst h
                    simp only [if_true] at hx
                    rcases HB.out x hx with h2 | h2
                    · exact .inl h2
                    · exact .inr (by omega)
                  · simp only [if_neg h] at hx
                    exact II.out.at_ j (by omega) x hx
                · exact kept ((II.out.todo j (by omega) hj2).keep HK.out (other j hj2 (by omega)))
                · exact ((II.out.keep.then HK.out (fun x hx => .inl (mem_allBlk hlt hx))).alloc _).then HKP.out (fun x hx => .inr (II.out.gnew x hx))
    · obtain rfl : k = m := by omega
      have hLr := HL.out.keep I.keep (fun x hx hm => by
        obtain ⟨j, hj, hx2⟩ := List.mem_flatMap.1 hm
        exact HL.out.type_ne (HF.out j (List.mem_range.1 hj)) (by decide) hx hx2)
      have HLr := Lib.hid hLr; have II := Lib.hid I
      clear hLr I hlt hi hz0 hz1 hz2 hj hy0 hy1 hy2
      go_wp2
      go_loop [8, 9, 10, 11] (fun i _ _ _ => ∃ j : Nat, j ≤ k ∧ i = .int .i64 j) (fun i _ _ _ => k - (intOf i).toNat)
      case atStart => exact ⟨0, by omega, rfl⟩
      case round =>
        obtain ⟨j, hj, rfl⟩ := hrel
        by_cases hlt : j < k
        · obtain ⟨gl, rfl, cl, _⟩ := HLr.out.at1 hlt
          obtain ⟨gg, rfl, cg, _⟩ := II.out.grown.at1 hlt
          have hnj := HN.out j
          have cl' : wr.cell? ⟨gl, j, none⟩ = some (.slice (A j) (n j) (c j)) := cl
          have cg' : wr.cell? ⟨gg, j, none⟩ = some (.slice (HA j) (n j + 7 : Nat) (hc j)) := cg
          clear cl cg
          go_wp2
          go_loop [10] (fun i => ∃ q : Nat, q ≤ n j ∧ i = .int .i64 q) (fun i => n j - (intOf i).toNat)
          case atStart => exact ⟨0, by omega, rfl⟩
          case round =>
            obtain ⟨q, hq, rfl⟩ := hrel
            by_cases hq2 : q < n j
            · obtain ⟨g1, e1, c1, _⟩ := (II.out.done j hlt).at1 hq2
              obtain ⟨g2, e2, c2, _⟩ := (II.out.more j hlt).at1 (show q < n j + 7 by omega)
              have c1' : wr.cell? ⟨g1, q, none⟩ = some (.int .u8 ((37 * (j : Int) + q) % 256)) := c1
              have c2' : wr.cell? ⟨g2, q, none⟩ = some (.int .u8 ((37 * (j : Int) + q) % 256)) := by rw [c2]; simp only [if_pos hq2]; rfl
              have cl2 : wr.cell? ⟨gl, j, none⟩ = some (.slice (some ⟨g1, 0, none⟩) (n j) (c j)) := by rw [cl', e1]
              have cg2 : wr.cell? ⟨gg, j, none⟩ = some (.slice (some ⟨g2, 0, none⟩) (n j + 7 : Nat) (hc j)) := by rw [cg', e2]
              clear c1 c2 e1 e2 cl' cg'
              go_wp2
              go_round
              case rel => exact ⟨q + 1, by omega, by go_num⟩
              case measure => simp [intOf] <;> omega
            · go_wp2
              go_loop [11] (fun i => ∃ q : Nat, q ≤ 7 ∧ i = .int .i64 q) (fun i => 7 - (intOf i).toNat)
              case atStart => exact ⟨0, by omega, rfl⟩
              case round =>
                obtain ⟨p, hp, rfl⟩ := hrel
                by_cases hp2 : p < 7
                · obtain ⟨g2, e2, c2, _⟩ := (II.out.more j hlt).at1 (show n j + p < n j + 7 by omega)
                  have c2' : wr.cell? ⟨g2, n j + p, none⟩ = some (.int .u8 ((100 + 37 * (j : Int) + p) % 256)) := by
                    rw [c2]
                    have h1 : ¬ n j + p < n j := by omega
                    have h2 : n j + p - n j = p := by omega
                    simp only [if_neg h1, h2]
                    rfl
                  have cg2 : wr.cell? ⟨gg, j, none⟩ = some (.slice (some ⟨g2, 0, none⟩) (n j + 7 : Nat) (hc j)) := by rw [cg', e2]
                  clear c2 e2 cg'
                  go_wp2
                  go_round
                  case rel => exact ⟨p + 1, by omega, by go_num⟩
                  case measure => simp [intOf] <;> omega
                · go_wp2
                  go_round
                  case rel => exact ⟨j + 1, by omega, by go_num⟩
                  case measure => simp [intOf] <;> omega
        · go_wp2
          go_ret
          exact ⟨rfl, II.out.keep⟩
end Go.Proofs.Ytmffeofgcnabiaa
