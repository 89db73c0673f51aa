/- The walk of GcWins: with at most 25 live pages and seven full blocks three pages and more are won. -/
import Derived.Test.YtfapagbeimgbaaaGcUp
namespace Go.Proofs.Ytfapagbeimgbaaa
open Go.RowKit
set_option linter.unusedVariables false
/-- The states behind k rounds: k blocks from f on are full. -/
def stOf (f k : Nat) : Nat → Int := fun j => if (j + 12 - f) % 12 < k then 2 else 0
theorem stOf_step (f k : Nat) (hf : f < 12) (hk : k < 7) (i : Nat) (hi : i = (f + k) % 12) (j : Nat) (hj : j < 12) : (if j = i then (2 : Int) else stOf f k j) = stOf f (k + 1) j := by
  unfold stOf
  subst hi
  by_cases h1 : j = (f + k) % 12
  · rw [if_pos h1, if_pos (by omega)]
  · rw [if_neg h1]
    by_cases h2 : (j + 12 - f) % 12 < k
    · rw [if_pos h2, if_pos (by omega)]
    · rw [if_neg h2, if_neg (by omega)]
def sum12 (l : Nat → Int) : Int := l 0 + l 1 + l 2 + l 3 + l 4 + l 5 + l 6 + l 7 + l 8 + l 9 + l 10 + l 11
theorem cases12 {j : Nat} (h : j < 12) : j = 0 ∨ j = 1 ∨ j = 2 ∨ j = 3 ∨ j = 4 ∨ j = 5 ∨ j = 6 ∨ j = 7 ∨ j = 8 ∨ j = 9 ∨ j = 10 ∨ j = 11 := by omega
theorem sum12_inc (l : Nat → Int) (b : Nat) (hb : b < 12) : sum12 (fun j => if j = b then l b + 1 else l j) = sum12 l + 1 := by
  rcases cases12 hb with rfl | rfl | rfl | rfl | rfl | rfl | rfl | rfl | rfl | rfl | rfl | rfl <;> simp [sum12] <;> omega
theorem few (f : Nat) (hf : f < 12) (l : Nat → Int) (h0 : ∀ j, j < 12 → 0 ≤ l j) (hs : sum12 l ≤ 25) (m : Int) (hm : ∀ j, j < 12 → stOf f 7 j = 2 → m ≤ l j) : m ≤ 3 := by
  refine Int.not_lt.1 fun h4 => ?_
  have a0 := h0 0 (by omega); have a1 := h0 1 (by omega); have a2 := h0 2 (by omega); have a3 := h0 3 (by omega)
  have a4 := h0 4 (by omega); have a5 := h0 5 (by omega); have a6 := h0 6 (by omega); have a7 := h0 7 (by omega)
  have a8 := h0 8 (by omega); have a9 := h0 9 (by omega); have a10 := h0 10 (by omega); have a11 := h0 11 (by omega)
  have b0 := hm 0 (by omega); have b1 := hm 1 (by omega); have b2 := hm 2 (by omega); have b3 := hm 3 (by omega)
  have b4 := hm 4 (by omega); have b5 := hm 5 (by omega); have b6 := hm 6 (by omega); have b7 := hm 7 (by omega)
  have b8 := hm 8 (by omega); have b9 := hm 9 (by omega); have b10 := hm 10 (by omega); have b11 := hm 11 (by omega)
  clear h0 hm
  unfold sum12 at hs
  rcases cases12 hf with rfl | rfl | rfl | rfl | rfl | rfl | rfl | rfl | rfl | rfl | rfl | rfl <;> simp [stOf] at b0 b1 b2 b3 b4 b5 b6 b7 b8 b9 b10 b11 <;> omega
theorem has_best (f : Nat) (hf : f < 12) (l : Nat → Int) : 0 ≤ bestOf (stOf f 7) l 12 := by
  refine Int.not_lt.1 fun h => ?_
  have := ((bestOf_is (stOf f 7) l 12).none_ h).2 f (by omega) hf
  unfold stOf at this
  rw [if_pos (by omega)] at this
  exact this rfl
theorem IsBest.turn {s l l' : Nat → Int} {b : Int} (h : IsBest s l 0 12 b) (e : ∀ j, j < 12 → s j = 2 → l' j = l j) : IsBest s l' 0 12 b := by
  refine ⟨h.none_, fun hb => ?_⟩
  obtain ⟨h1, h2, h3, h4⟩ := h.some_ hb
  refine ⟨h1, h2, h3, fun j hj hj2 hs => ?_⟩
  rw [e j hj2 hs, e b.toNat (by omega) h3]
  exact h4 j hj hj2 hs

set_option maxHeartbeats 2000000 in
theorem wins_walk (A0 : Option Addr) (n0 c0 : Nat) (r : Nat → Int) (off : Int) (w : World) (r0 : SlArg w A0 n0 c0 (fun j => .int .i64 (r j))) (hr : ∀ j, -9223372036854775808 ≤ r j ∧ r j ≤ 9223372036854775807)
    (h0 : n0 * 8 ≤ 140737488351232) (ho : -9223372036854775808 ≤ off) (ho' : off ≤ 9223372036854775807) :
    Calls Try.prog 4 #[.slice A0 n0 c0, .int .i64 off] w fun e w' => e = .returned (.bool true) ∧ Keep [] w w' := by
  obtain ⟨p0, p1⟩ := pickOf_lt off 12 (by omega)
  have hn0 : n0 ≤ 17592186044416 := by omega
  have hmk : ∀ w, (Instr.makeSlice 22 (.int .i64 12) (.int .i64 12)).run Try.prog w = .ok (.slice (some ⟨w.heap.size, 0, none⟩) 12 12) (w.alloc (.cells ((Array.range 12).map fun _ => .int .i64 0) 3)) := fun w => by kernel_rfl
  go_enter Try.func4, Try.ntmps4
  go_wp2_with fail
  refine (up_ok _).mono ?_
  rintro e w1 ⟨rfl, k1⟩
  go_wp2_with fail
  refine (pick_ok off 12 _ (by omega) (by omega) (by omega) (by omega)).mono ?_
  rintro e wa ⟨rfl, hw⟩
  have R0 : Row wa w1.heap.size 3 12 (fun _ => .int .i64 0) := by rw [← hw]; exact Row.of_arr (below2 _ _ _) (by kernel_rfl)
  have R1 : Row wa (w1.heap.size + 1) 3 12 (fun _ => .int .i64 0) := by rw [← hw]; exact Row.of_arr (below1 _ _ _) (by kernel_rfl)
  have ka : Keep [] w wa := by rw [← hw]; exact (k1.alloc _).alloc _
  have kh : w.heap.size ≤ w1.heap.size := k1.size
  clear hw hmk k1
  generalize pickOf off 12 = F at p0 p1
  obtain ⟨f, rfl⟩ := Int.eq_ofNat_of_zero_le p0
  generalize w1.heap.size = g0 at R0 R1 kh
  have hf : f < 12 := by omega
  go_wp2
  go_loopw [9] (fun i wr => ∃ k : Nat, k ≤ 7 ∧ i = .int .i64 k ∧ Keep [] w wr ∧ Row wr g0 3 12 (fun j => .int .i64 (stOf f k j)) ∧ Row wr (g0 + 1) 3 12 (fun _ => .int .i64 0)) (fun i _ => 7 - (intOf i).toNat)
  case atStart => exact ⟨0, by omega, rfl, ka, R0.congr (fun j hj => by simp [stOf]), R1⟩
  case round =>
    clear R0 R1 ka
    obtain ⟨k, hk, rfl, kk, R0, R1⟩ := hrel
    by_cases hlt : k < 7
    · have hc := R0.cell ((f + k) % 12) (by omega)
      have hz := R0.free ((f + k) % 12)
      go_wp2
      go_roundw
      case rel => exact ⟨k + 1, by omega, by go_num, kk.setCell _ _ (.inr kh), (R0.set_int _ _).congr (fun j hj => by rw [← stOf_step f k hf hlt _ rfl j hj]), R1.far (by simp) _⟩
      case measure => simp [intOf] <;> omega
    · obtain rfl : k = 7 := by omega
      rw [show ((7 : Nat) : Int) = 7 from rfl]
      go_wp2
      clear hlt
      go_loopw [10, 11] (fun i _ wr => ∃ (k : Nat) (l : Nat → Int), k ≤ 25 ∧ k ≤ n0 ∧ i = .int .i64 k ∧ Keep [] w wr ∧ Row wr g0 3 12 (fun j => .int .i64 (stOf f 7 j)) ∧ Row wr (g0 + 1) 3 12 (fun j => .int .i64 (l j)) ∧ (∀ j, j < 12 → 0 ≤ l j ∧ l j ≤ 7) ∧ sum12 l ≤ k) (fun i _ _ => 25 - (intOf i).toNat)
      case atStart => exact ⟨0, fun _ => 0, by omega, by omega, rfl, kk, R0, R1, fun j hj => ⟨Int.le_refl _, by show (0 : Int) ≤ 7; omega⟩, by simp [sum12]⟩
      case round =>
        clear R0 R1 kk
        obtain ⟨k, l, hk, hk2, rfl, kk, R0, R1, hl, hs⟩ := hrel
        have HL := Lib.hid hl; have HS := Lib.hid hs; clear hl hs
        by_cases hlt : k < n0 ∧ k < 25
        · obtain ⟨hlt, hlt2⟩ := hlt
          have t0 := r0.rd.keep0 kk
          obtain ⟨bb, o0, rfl, d0⟩ := t0 (by omega)
          have e0 := d0 k hlt
          clear d0
          obtain ⟨q0, q1⟩ := pickOf_lt (r k) 7 (by omega)
          go_wp2_with fail
          refine (pick_ok (r k) 7 _ (hr k).1 (hr k).2 (by omega) (by omega)).mono ?_
          rintro e w3 ⟨rfl, rfl⟩
          generalize pickOf (r k) 7 = P at q0 q1
          obtain ⟨p, rfl⟩ := Int.eq_ofNat_of_zero_le q0
          have hc := R1.cell ((f + p) % 12) (by omega)
          have hz := R1.free ((f + p) % 12)
          have hb := HL.out ((f + p) % 12) (by omega)
          obtain ⟨hb0, hb1⟩ := hb
          by_cases hfull : l ((f + p) % 12) < 7
          · go_wp2
            go_roundw
            case rel => exact ⟨k + 1, fun j => if j = (f + p) % 12 then l ((f + p) % 12) + 1 else l j, by omega, by omega, by go_num, kk.setCell _ _ (.inr (by simp; omega)), R0.far (by simp) _, R1.set_int _ _, fun j hj => by
                have := HL.out j hj
                simp only []
                split <;> omega, by
                rw [sum12_inc l _ (by omega)]
                have := HS.out
                omega⟩
            case measure => simp [intOf] <;> omega
          · go_wp2
            go_roundw
            case rel => exact ⟨k + 1, l, by omega, by omega, by go_num, kk, R0, R1, HL.out, by have := HS.out; omega⟩
            case measure => simp [intOf] <;> omega
        · obtain ⟨hb0, hb1, hb2, hb3⟩ := (bestOf_is (stOf f 7) l 12).some_ (has_best f hf l)
          have hn := has_best f hf l
          have hV := chooseV_some (s := stOf f 7) (l := l) (by omega)
          have hG := gainV_some (s := stOf f 7) (l := l) (by omega)
          have his := bestOf_is (stOf f 7) l 12
          generalize bestOf (stOf f 7) l 12 = B at hb0 hb1 hb2 hb3 hn hV hG his
          obtain ⟨b, rfl⟩ := Int.eq_ofNat_of_zero_le hn
          simp only [Int.toNat_natCast] at hb2 hb3 hG
          have hb12 : b < 12 := by omega
          have h3 := few f hf l (fun j hj => (HL.out j hj).1) (by have := HS.out; omega) (l b) (fun j hj hs => (hb3 j (by omega) hj hs).1)
          have hg : 3 ≤ gainOf (l b) := by unfold gainOf; omega
          have hg2 : gainOf (l b) ≤ 6 := by unfold gainOf; omega
          generalize gainOf (l b) = G at hG hg hg2
          have cb : wr.cell? ⟨g0, b, none⟩ = some (.int .i64 2) := by rw [R0.cell b hb12, hb2]
          have HB2 := Lib.hid hb2; have HB := Lib.hid hb3; have HV := Lib.hid hV; have HG := Lib.hid hG; have HI := Lib.hid his
          clear hb3 hV hG his hb2 hb0 hb1
          go_wp2_with fail
          all_goals
            refine (choose_ok g0 0 (g0 + 1) 0 12 12 (stOf f 7) l _ (by exact fun j hj => by rw [Nat.zero_add]; exact R0.cell j hj) (by exact fun j hj => by rw [Nat.zero_add]; exact R1.cell j hj)).mono ?_
            rintro e w4 ⟨rfl, n4, rfl⟩
            rw [HV.out]
            go_wp2_with fail
            refine (gain_ok g0 0 (g0 + 1) 0 12 12 (stOf f 7) l _ (by exact fun j hj => by rw [Nat.zero_add]; exact R0.cell j hj) (by exact fun j hj => by rw [Nat.zero_add]; exact R1.cell j hj)).mono ?_
            rintro e w4 ⟨rfl, n5, rfl⟩
            rw [HG.out]
            go_wp2_with fail
            clear cb
            go_loopw [16] (fun i wr => ∃ (k : Nat) (l' : Nat → Int), k ≤ 12 ∧ i = .int .i64 k ∧ Keep [] w wr ∧ Row wr g0 3 12 (fun j => .int .i64 (stOf f 7 j)) ∧ Row wr (g0 + 1) 3 12 (fun j => .int .i64 (l' j)) ∧ (∀ j, j < 12 → stOf f 7 j = 2 → l' j = l j)) (fun i _ => 12 - (intOf i).toNat)
            case atStart => exact ⟨0, l, by omega, rfl, kk.drewN _, R0, R1, fun _ _ _ => rfl⟩
            case round =>
              clear R0 R1 kk
              obtain ⟨k, l', hk, rfl, kk, R0, R1, hl⟩ := hrel
              have HE := Lib.hid hl; clear hl
              have c0 : wr.cell? ⟨g0, b, none⟩ = some (.int .i64 2) := by rw [R0.cell b hb12, HB2.out]
              by_cases hlt : k < 12
              · have ck := R1.cell k hlt
                have cb := R1.cell b hb12
                have hz := R1.free k
                by_cases h2 : stOf f 7 k = 2
                · have cs : wr.cell? ⟨g0, k, none⟩ = some (.int .i64 2) := by rw [R0.cell k hlt, h2]
                  have hle : l' b ≤ l' k := by rw [HE.out k hlt h2, HE.out b hb12 HB2.out]; exact (HB.out k (by omega) hlt h2).1
                  have hd : decide (l' k < l' b) = false := by simpa using hle
                  clear hle h2
                  go_wp2
                  go_quiet (fail)
                  go_wp2
                  go_roundw
                  case rel => exact ⟨k + 1, l', by omega, by go_num, kk.drewN _, R0, R1, HE.out⟩
                  case measure => simp [intOf] <;> omega
                · have cs := R0.cell k hlt
                  have h2b : (stOf f 7 k == 2) = false := beq_eq_false_iff_ne.2 h2
                  have H2 := Lib.hid h2; clear h2
                  go_wp2
                  go_quiet (fail)
                  go_wp2
                  go_roundw
                  case rel => exact ⟨k + 1, fun j => if j = k then -5 else l' j, by omega, by go_num, (kk.drewN _).setCell _ _ (.inr (by simp; omega)), (R0.drewN _).far (by simp) _, (R1.drewN _).set_int _ _, fun j hj hs => by
                    have : j ≠ k := fun e => H2.out (e ▸ hs)
                    simp only [if_neg this]
                    exact HE.out j hj hs⟩
                  case measure => simp [intOf] <;> omega
              · obtain rfl : k = 12 := by omega
                have hu := (bestOf_is (stOf f 7) l' 12).unique (HI.out.turn HE.out)
                have hV2 := chooseV_some (s := stOf f 7) (l := l') (by omega)
                rw [hu] at hV2
                have HV2 := Lib.hid hV2; clear hu hV2
                go_wp2_with fail
                refine (choose_ok g0 0 (g0 + 1) 0 12 12 (stOf f 7) l' _ (by exact fun j hj => by rw [Nat.zero_add]; exact R0.cell j hj) (by exact fun j hj => by rw [Nat.zero_add]; exact R1.cell j hj)).mono ?_
                rintro e w4 ⟨rfl, n6, rfl⟩
                rw [HV2.out]
                go_wp2
                go_ret
                exact ⟨rfl, kk.drewN _⟩
end Go.Proofs.Ytfapagbeimgbaaa
