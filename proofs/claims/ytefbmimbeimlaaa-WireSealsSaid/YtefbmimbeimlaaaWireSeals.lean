/- The walk of WireSeals: Mark, Seal and Open of any bytes; what comes out is its owner's. -/
import Derived.Test.YtefbmimbeimlaaaSealRef
import Derived.Test.YtefbmimbeimlaaaLent
import Derived.Test.YtefbmimbeimlaaaApart
import Derived.Test.YtefbmimbeimlaaaWireUp
namespace Go.Proofs.Ytefbmimbeimlaaa
open Go.RowKit
set_option linter.unusedVariables false
theorem sameB_refl (n : Nat) (f : Nat → Int) : sameB n n f f = true := sameB_yes rfl (fun _ _ => rfl)
theorem lendF_bd (n : Nat) (hn : n ≤ 100) (f : Nat → Int) (hf : ∀ j, 0 ≤ f j ∧ f j ≤ 255) (j : Nat) (hj : j < n) : 0 ≤ lendF n f j ∧ lendF n f j ≤ 255 := by
  rw [lendF_lt hj]
  exact hf j
theorem markedB_congr {f g : Nat → Int} (h : ∀ j, j < 58 → f j = g j) : markedB f = markedB g := by
  unfold markedB
  rw [Bool.eq_iff_iff]
  simp only [List.all_eq_true, List.mem_range]
  exact ⟨fun k j hj => by rw [← h (50 + j) (by omega)]; exact k j hj, fun k j hj => by rw [h (50 + j) (by omega)]; exact k j hj⟩
/-- Three lists. -/
def sA (g : Nat) (S O : Option Addr) : Nat → Option Addr := fun k => if k = 0 then some ⟨g, 0, none⟩ else if k = 1 then S else O
def sN (a b c : Nat) : Nat → Nat := fun k => if k = 0 then a else if k = 1 then b else c
def sF (a b c : Nat → Int) : Nat → Nat → Value := fun k j => .int .u8 (if k = 0 then a j else if k = 1 then b j else c j)
theorem sealed_at (A : Option Addr) (n c : Nat) (f : Nat → Int) (w : World) (hn : n = 50) (r : SlArg w A n c (fun j => .int .u8 (f j))) :
    Calls Try.prog 24 #[.slice A n c] w (SealedPost w f) := by
  subst hn
  exact sealed_ok A c f w r
theorem marked_at (A : Option Addr) (n c : Nat) (f : Nat → Int) (w : World) (hn : n = 58) (r : Rd w A n (fun j => .int .u8 (f j))) :
    Calls Try.prog 25 #[.slice A n c] w fun e w' => e = .returned (.bool (markedB f)) ∧ Keep [] w w' := by
  subst hn
  exact marked_any A c f w r
set_option maxHeartbeats 8000000 in
set_option maxRecDepth 100000 in
theorem seals_walk (A : Option Addr) (n c : Nat) (f : Nat → Int) (w : World) (r : SlArg w A n c (fun j => .int .u8 (f j))) (hf : ∀ j, 0 ≤ f j ∧ f j ≤ 255) (hl : n * 1 ≤ 140737488351232) :
    Calls Try.prog 7 #[.slice A n c] w fun e w' => e = .returned (.bool true) ∧ Keep [] w w' := by
  have HR := Lib.hid r; have HF := Lib.hid hf
  have hnm : n ≤ maxLen := by unfold maxLen; omega
  have HS8 := Lib.hid (sameB_refl 8 markF)
  have HSL := Lib.hid (sameB_refl (n + 5) (lendF n f))
  clear r hf
  go_enter Try.func7, Try.ntmps7
  go_wp2_with fail
  refine (shown_ok _).mono ?_
  rintro e w1 ⟨rfl, k1⟩
  go_wp2_with fail
  refine (mark_ok _).mono ?_
  rintro e w2 ⟨rfl, lm, k2⟩
  go_wp2_with fail
  refine (rmark_ok _).mono ?_
  rintro e w3 ⟨rfl, rm, k3⟩
  have hgm := lm.blk_lt (List.mem_singleton.2 rfl)
  have hgw := k1.size
  have lm3 := lm.keep0 k3
  generalize w1.heap.size = gm at lm hgm lm3 hgw
  have ka := (k1.trans k2).trans k3
  clear lm k1 k2 k3
  go_wp2_with fail
  refine (same_ok _ _ 8 8 8 8 markF markF _ (by exact lm3.rd1) (by exact Rd.of_row rm (Nat.le_refl _)) (by decide) (by decide)).mono ?_
  rintro e w4 ⟨rfl, n4, rfl⟩
  rw [HS8.out]
  clear rm
  go_wp2_with fail
  have hgm2 : gm < (w3.drewN n4).heap.size := lm3.blk_lt (List.mem_singleton.2 rfl)
  refine (lend_ok A n c f _ (by exact HR.out.rd.keep0 (ka.drewN _)) HR.out.le HR.out.none_ (by omega)).mono ?_
  rintro e w5 ⟨p, F, cF, V, cV, rfl, L, k5⟩
  have lm5 := lm3.keep0 ((Keep.refl [] w3).drewN n4 |>.trans k5)
  have kb := (ka.drewN n4).trans k5
  have hBw := (ka.drewN n4).size
  generalize (w3.drewN n4).heap.size = B at L hgm2 hBw
  clear lm3 ka k5
  go_wp2_with fail
  refine (bytes_ok _ L (by omega)).mono ?_
  rintro e w6 ⟨rfl, n6, rfl⟩
  have hFc := L.full.1
  go_wp2_with fail
  refine (seal_any F n cF f _ (by exact (L.full.rd1.mono_len (by omega)).congr (fun j hj => by rw [lendF_lt hj])) hnm).mono ?_
  rintro e w7 ⟨S, cS, rfl, lS, hS, k7⟩
  have L7 := (L.keep0 ((Keep.refl [] w5).drewN n6)).keep0 k7
  have hS2 : ∀ x, x ∈ blk S → gm < x ∧ (∀ y, y ∈ blk F ++ blk V → y < x) := fun x hx => by
    have h1 := hS x hx
    refine ⟨Nat.lt_of_lt_of_le (lm5.blk_lt (List.mem_singleton.2 rfl)) h1, fun y hy => ?_⟩
    rcases List.mem_append.1 hy with hy | hy
    · exact Nat.lt_of_lt_of_le (L.full.blk_lt hy) h1
    · exact Nat.lt_of_lt_of_le (L.was.blk_lt hy) h1
  have lm7 := (lm5.keep0 ((Keep.refl [] w5).drewN n6)).keep0 k7
  have kc := (kb.drewN n6).trans k7
  clear L lm5 kb k7 hS
  go_wp2_with fail
  refine (bytes_ok _ L7 (by omega)).mono ?_
  rintro e w8 ⟨rfl, n8, rfl⟩
  go_wp2_with fail
  refine (open_all F n cF f _ (by exact (L7.full.rd1.mono_len (by omega)).congr (fun j hj => by rw [lendF_lt hj])) (by omega) hnm HF.out).mono ?_
  rintro e w9 ⟨O, rfl, lO, hO, k9⟩
  have L9 := (L7.keep0 ((Keep.refl [] w7).drewN n8)).keep0 k9
  have hO2 : ∀ x, x ∈ blk O → gm < x ∧ (∀ y, y ∈ blk F ++ blk V → y < x) ∧ ∀ y, y ∈ blk S → y < x := fun x hx => by
    have h1 := hO x hx
    refine ⟨Nat.lt_of_lt_of_le (lm7.blk_lt (List.mem_singleton.2 rfl)) h1, fun y hy => ?_, fun y hy => Nat.lt_of_lt_of_le (lS.blk_lt hy) h1⟩
    rcases List.mem_append.1 hy with hy | hy
    · exact Nat.lt_of_lt_of_le (L7.full.blk_lt hy) h1
    · exact Nat.lt_of_lt_of_le (L7.was.blk_lt hy) h1
  have lm9 := (lm7.keep0 ((Keep.refl [] w7).drewN n8)).keep0 k9
  have lS9 := (lS.keep0 ((Keep.refl [] w7).drewN n8)).keep0 k9
  have kd := (kc.drewN n8).trans k9
  clear L7 lm7 lS kc k9 hO
  go_wp2_with fail
  refine (kept_ok _ L9 (by omega)).mono ?_
  rintro e wa ⟨rfl, na, rfl⟩
  rw [HSL.out]
  go_wp2_with fail
  refine (turn_ok _ (L9.keep0 ((Keep.refl [] w9).drewN na)) (by omega)).mono ?_
  rintro e wb ⟨rfl, Lb, kt⟩
  have kt2 : Keep (blk F ++ blk V) w9 wb := ((Keep.refl _ w9).drewN na).trans kt
  have hFV : ∀ y, y ∈ blk F ++ blk V → B ≤ y := fun y hy => by
    rcases List.mem_append.1 hy with hy | hy
    · exact L9.new.2.1 y hy
    · exact L9.new.2.2 y hy
  have lmb := lm9.keep kt2 (fun x hx hm => by
    have h1 := List.mem_singleton.1 hx
    have h2 := hFV x hm
    have h3 : x = gm := h1
    omega)
  have lSb := lS9.keep kt2 (fun x hx hm => Nat.lt_irrefl _ ((hS2 x hx).2 x hm))
  have lOb := lO.keep kt2 (fun x hx hm => Nat.lt_irrefl _ ((hO2 x hx).2.1 x hm))
  have ke := kd.then kt2 (fun x hx => .inr (by have := hFV x hx; omega))
  have HLb := Lib.hid Lb; have HM := Lib.hid lmb; have HS := Lib.hid lSb; have HO := Lib.hid lOb; have HK := Lib.hid ke; have HS2 := Lib.hid hS2; have HO2 := Lib.hid hO2
  clear L9 lm9 lS9 lO kd kt kt2 hFV Lb lmb lSb lOb ke hS2 hO2
  go_upto_region 9 with (fail)
  go_cut [69] (fun v wc => v = .bool false ∧ wb = wc)
  case first =>
    by_cases h50 : n = 50
    · have a1 : ((n : Int) != 50) = false := by rw [bne_eq_false_iff_eq]; omega
      have a2 : ((n : Int) != 58) = true := by rw [bne_iff_ne]; omega
      have b1 : (openE n f != 1) = false := by rw [bne_eq_false_iff_eq]; exact if_neg (by omega)
      have b2 : ((openN n f : Int) != 0) = false := by rw [bne_eq_false_iff_eq, show openN n f = 0 from if_neg (by omega)]; rfl
      clear h50
      go_wp2
      go_meet
      case rel => exact ⟨rfl, rfl⟩
    · have a1 : ((n : Int) != 50) = true := by rw [bne_iff_ne]; omega
      have c1 : (sealE n != 1) = false := by rw [bne_eq_false_iff_eq]; exact if_neg h50
      have c2 : ((sealN n : Int) != 0) = false := by rw [bne_eq_false_iff_eq, show sealN n = 0 from if_neg h50]; rfl
      by_cases h58 : n = 58
      · have a2 : ((n : Int) != 58) = false := by rw [bne_eq_false_iff_eq]; omega
        clear h50 h58
        go_wp2
        go_meet
        case rel => exact ⟨rfl, rfl⟩
      · have a2 : ((n : Int) != 58) = true := by rw [bne_iff_ne]; omega
        have b1 : (openE n f != 1) = false := by rw [bne_eq_false_iff_eq]; exact if_neg h58
        have b2 : ((openN n f : Int) != 0) = false := by rw [bne_eq_false_iff_eq, show openN n f = 0 from if_neg (fun e => h58 e.1)]; rfl
        clear h50 h58
        go_wp2
        go_meet
        case rel => exact ⟨rfl, rfl⟩
  case rest =>
    obtain ⟨rfl, rfl⟩ := hcut
    go_upto_if 72 with (fail)
    go_cut [12] (fun _ wc => Keep [] wb wc)
    case first =>
      by_cases h50 : n = 50
      · have a1 : ((n : Int) == 50) = true := by rw [beq_iff_eq]; omega
        have c1 : (sealE n != 0) = false := by rw [bne_eq_false_iff_eq]; exact if_pos h50
        have hN : sealN n = 58 := if_pos h50
        have hSS : sameB (sealN n) 58 (sealF f) (sealF f) = true := sameB_yes hN (fun _ _ => rfl)
        have HSS := Lib.hid hSS
        have rA : SlArg wb A n c (fun j => .int .u8 (f j)) := ⟨HR.out.le, HR.out.cap_le, HR.out.none_, HR.out.rd.keep0 HK.out⟩
        have hNm : sealN n ≤ maxLen := by rw [hN]; decide
        have HC := Lib.hid (fun W (h : SlArg W A n c (fun j => .int .u8 (f j))) => sealed_at A n c f W h50 h)
        clear h50 hN hSS
        go_wp2_with fail
        refine (HC.out _ rA).mono ?_
        rintro e w1 ⟨X, cX, rfl, lX, k1⟩
        go_wp2_with fail
        refine (same_ok _ _ (sealN n) 58 cS cX (sealF f) (sealF f) _ (by exact (HS.out.keep0 k1).rd1) (by exact lX.rd1) hNm (by decide)).mono ?_
        rintro e w2 ⟨rfl, n2, rfl⟩
        rw [HSS.out]
        go_wp2
        go_meet
        case rel => exact k1.drewN _
      · have a1 : ((n : Int) == 50) = false := by rw [beq_eq_false_iff_ne]; omega
        clear h50
        go_wp2
        go_meet
        case rel => exact Keep.refl _ _
    case rest =>
      have hk1 := Lib.hid hcut
      clear hcut
      obtain ⟨w1, rfl⟩ : ∃ w1 : World, w1 = wc := ⟨_, rfl⟩
      go_upto_if 85 with (fail)
      go_cut [13, 14] (fun _ _ wc => Keep [] w1 wc)
      case first =>
        by_cases h58 : n = 58
        · have a1 : ((n : Int) == 58) = true := by rw [beq_iff_eq]; omega
          have rA : Rd w1 A n (fun j => .int .u8 (f j)) := (HR.out.rd.keep0 HK.out).keep0 hk1.out
          have HC := Lib.hid (fun W (h : Rd W A n (fun j => .int .u8 (f j))) => marked_at A n c f W h58 h)
          have hOE : openE n f = if markedB f then 0 else 6 := if_pos h58
          have hle := HR.out.le
          have hcm := HR.out.cap_le
          unfold maxLen at hcm
          cases hb : markedB f with
          | true =>
            have b1 : (openE n f != 0) = false := by rw [bne_eq_false_iff_eq, hOE, hb]; rfl
            have hN : openN n f = 50 := if_pos ⟨h58, hb⟩
            have HSS := Lib.hid (sameB_yes (n0 := openN n f) (n1 := 50) (f := f) (g := f) hN (fun _ _ => rfl))
            have hNm : openN n f ≤ maxLen := by rw [hN]; decide
            have hn50 : 50 ≤ n := by omega
            have HB := Lib.hid hb
            clear hOE hN hb h58
            go_wp2_with fail
            refine (HC.out _ rA).mono ?_
            rintro e w2 ⟨rfl, k2⟩
            rw [HB.out]
            go_wp2_with (go_at_call 11
                         refine (same_ok O A (openN n f) 50 (openN n f) c f f _ (by exact ((HO.out.keep0 hk1.out).keep0 k2).rd1) (by exact (rA.keep0 k2).mono_len hn50) hNm (by decide)).mono ?_
                         rintro e w3 ⟨rfl, n3, rfl⟩
                         rw [HSS.out])
            go_meet
            case rel => exact k2.drewN _
          | false =>
            have b1 : (openE n f != 6) = false := by rw [bne_eq_false_iff_eq, hOE, hb]; rfl
            have b2 : ((openN n f : Int) != 0) = false := by rw [bne_eq_false_iff_eq, show openN n f = 0 from if_neg (fun e => by rw [hb] at e; cases e.2)]; rfl
            have HB := Lib.hid hb
            clear hOE hb h58
            go_wp2_with fail
            refine (HC.out _ rA).mono ?_
            rintro e w2 ⟨rfl, k2⟩
            rw [HB.out]
            go_wp2
            go_meet
            case rel => exact k2
        · have a1 : ((n : Int) == 58) = false := by rw [beq_eq_false_iff_ne]; omega
          clear h58
          go_wp2
          go_meet
          case rel => exact Keep.refl _ _
      case rest =>
        have kk : Keep [] wb wc := hk1.out.trans hcut
        have HLb2 := Lib.hid (HLb.out.keep0 kk); have HM2 := Lib.hid (HM.out.keep0 kk); have HS3 := Lib.hid (HS.out.keep0 kk); have HO3 := Lib.hid (HO.out.keep0 kk); have HK2 := Lib.hid (HK.out.trans kk)
        clear hcut kk hk1
        go_wp2_with fail
        have hkw := HK2.out.size
        have kA : Keep [] wc (wc.alloc (.cells #[.slice (some ⟨gm, 0, none⟩) 8 8, .slice S (sealN n) cS, .slice O (openN n f) (openN n f)] 24)) := (Keep.refl [] wc).alloc _
        have hall : ∀ x, x ∈ allBlk (sA gm S O) 3 → x = gm ∨ x ∈ blk S ∨ x ∈ blk O := fun x hx => by
          obtain ⟨k, hk, hx⟩ := List.mem_flatMap.1 hx
          have hk3 : k = 0 ∨ k = 1 ∨ k = 2 := by have := List.mem_range.1 hk; omega
          rcases hk3 with rfl | rfl | rfl
          · exact .inl (List.mem_singleton.1 hx)
          · exact .inr (.inl hx)
          · exact .inr (.inr hx)
        refine (apart_all _ 3 3 (sA gm S O) (sN 8 (sealN n) (openN n f)) (sN 8 cS (openN n f)) (sF markF (sealF f) f) _ (by exact Ly.of_arr (heap_alloc_new wc _) (Nat.le_refl _) (by simp) (by decide) (fun j hj => by
          have hk3 : j = 0 ∨ j = 1 ∨ j = 2 := by omega
          rcases hk3 with rfl | rfl | rfl <;> rfl)) (fun k hk => by
          have hk3 : k = 0 ∨ k = 1 ∨ k = 2 := by omega
          rcases hk3 with rfl | rfl | rfl
          · exact HM2.out.keep0 kA
          · exact HS3.out.keep0 kA
          · exact HO3.out.keep0 kA) (fun k => by
          have h1 : sealN n ≤ 58 := by unfold sealN; split <;> omega
          have h2 : openN n f ≤ 58 := by unfold openN; split <;> omega
          unfold sN
          split
          · omega
          · split <;> omega) (by omega) (fun k k' hk hk' hne x hx hx' => by
          have hk3 : k = 0 ∨ k = 1 ∨ k = 2 := by omega
          have hk4 : k' = 0 ∨ k' = 1 ∨ k' = 2 := by omega
          rcases hk3 with rfl | rfl | rfl <;> rcases hk4 with rfl | rfl | rfl
          · exact hne rfl
          · have h1 : x = gm := List.mem_singleton.1 hx
            have h2 := (HS2.out x hx').1
            omega
          · have h1 : x = gm := List.mem_singleton.1 hx
            have h2 := (HO2.out x hx').1
            omega
          · have h1 : x = gm := List.mem_singleton.1 hx'
            have h2 := (HS2.out x hx).1
            omega
          · exact hne rfl
          · exact Nat.lt_irrefl _ ((HO2.out x hx').2.2 x hx)
          · have h1 : x = gm := List.mem_singleton.1 hx'
            have h2 := (HO2.out x hx).1
            omega
          · exact Nat.lt_irrefl _ ((HO2.out x hx).2.2 x hx')
          · exact hne rfl)).mono ?_
        rintro e wd ⟨rfl, kd⟩
        have kD : Keep (allBlk (sA gm S O) 3) wc wd := (kA.mono (fun _ h => by cases h)).trans kd
        have Ld := HLb2.out.keep' kD (fun x hx => by
          rcases hall x hx with rfl | h | h
          · refine ⟨fun e => box_ne HLb2.out.box HM2.out (by decide) (e ▸ List.mem_singleton.2 rfl), fun h => ?_, fun h => ?_⟩
            · have := HLb2.out.new.2.1 _ h; omega
            · have := HLb2.out.new.2.2 _ h; omega
          · refine ⟨fun e => box_ne HLb2.out.box HS3.out (by decide) (e ▸ h), fun h2 => ?_, fun h2 => ?_⟩
            · exact Nat.lt_irrefl _ ((HS2.out x h).2 x (List.mem_append.2 (.inl h2)))
            · exact Nat.lt_irrefl _ ((HS2.out x h).2 x (List.mem_append.2 (.inr h2)))
          · refine ⟨fun e => box_ne HLb2.out.box HO3.out (by decide) (e ▸ h), fun h2 => ?_, fun h2 => ?_⟩
            · exact Nat.lt_irrefl _ ((HO2.out x h).2.1 x (List.mem_append.2 (.inl h2)))
            · exact Nat.lt_irrefl _ ((HO2.out x h).2.1 x (List.mem_append.2 (.inr h2))))
        have kE : Keep [] w wd := HK2.out.then kD (fun x hx => by
          right
          rcases hall x hx with rfl | h | h
          · exact hgw
          · have := (HS2.out x h).1; omega
          · have := (HO2.out x h).1; omega)
        have HLd := Lib.hid Ld; have HKE := Lib.hid kE
        have HST := Lib.hid (sameB_refl (n + 5) (turnF (n + 5) (lendF n f)))
        clear hall kA kD kd Ld kE
        go_wp2_with fail
        refine (kept_ok _ HLd.out (by omega)).mono ?_
        rintro e we ⟨rfl, ne, rfl⟩
        rw [HST.out]
        go_wp2_with fail
        refine (mark_ok _).mono ?_
        rintro e wf ⟨rfl, lmf, kf⟩
        have HLM := Lib.hid lmf; have HKF := Lib.hid ((HKE.out.drewN ne).trans kf)
        clear lmf kf
        go_wp2_with fail
        refine (rmark_ok _).mono ?_
        rintro e wg ⟨rfl, rmg, kg⟩
        have HLG := Lib.hid (HLM.out.keep0 kg); have HRG := Lib.hid rmg; have HKG := Lib.hid (HKF.out.trans kg)
        clear rmg kg
        go_wp2_with fail
        refine (same_ok _ _ 8 8 8 8 markF markF _ (by exact HLG.out.rd1) (by exact Rd.of_row HRG.out (Nat.le_refl _)) (by decide) (by decide)).mono ?_
        rintro e wh ⟨rfl, nh, rfl⟩
        rw [HS8.out]
        go_wp2
        go_ret
        exact ⟨rfl, HKG.out.drewN _⟩
end Go.Proofs.Ytefbmimbeimlaaa
