/- The walk of WireBack: numbers and messages come back. -/
import Derived.Test.YtefbmimbeimlaaaWireUp
import Derived.Test.YtefbmimbeimlaaaSeal
namespace Go.Proofs.Ytefbmimbeimlaaa
open Go.RowKit
set_option linter.unusedVariables false
theorem numOf_byte (v : Int) (hv : 0 ≤ v) (n : Nat) : numOf (byteOf v) n = v % 256 ^ n := by
  induction n with
  | zero => simp [numOf]
  | succ n ih =>
    rw [numOf_snoc, ih]
    unfold byteOf
    have hp : (0 : Int) < 256 ^ n := Int.pow_pos (by omega)
    have h1 := Int.emod_add_mul_ediv v (256 ^ n)
    have h2 := Int.emod_add_mul_ediv (v / 256 ^ n) 256
    have h3 := Int.emod_add_mul_ediv v (256 ^ (n + 1))
    rw [Int.pow_succ] at h3 ⊢
    rw [← Int.ediv_ediv_of_nonneg (Int.le_of_lt hp)] at h3
    generalize v / 256 ^ n = x at *
    have e : 256 ^ n * 256 * (x / 256) = 256 ^ n * (256 * (x / 256)) := Int.mul_assoc _ _ _
    rw [e] at h3
    have e2 : 256 ^ n * x = 256 ^ n * (x % 256) + 256 ^ n * (256 * (x / 256)) := by rw [← Int.mul_add, h2]
    have e3 : x % 256 * 256 ^ n = 256 ^ n * (x % 256) := Int.mul_comm _ _
    omega
theorem numOf_back (v : Int) (hv : 0 ≤ v) (n : Nat) (h : v / 256 ^ n = 0) : numOf (byteOf v) n = v := by
  rw [numOf_byte v hv]
  have h1 := Int.emod_add_mul_ediv v (256 ^ n)
  rw [h, Int.mul_zero, Int.add_zero] at h1
  exact h1
theorem byte_back (f : Nat → Int) (hf : ∀ j, 0 ≤ f j ∧ f j ≤ 255) (n : Nat) : ∀ j, j < n → byteOf (numOf f n) j = f j := by
  induction n generalizing f with
  | zero => intro j hj; omega
  | succ n ih =>
    intro j hj
    have h0 := hf 0
    cases j with
    | zero =>
      rw [numOf_succ]
      unfold byteOf
      simp
      omega
    | succ j =>
      have h := ih (fun j => f (j + 1)) (fun j => hf _) j (by omega)
      rw [← h, numOf_succ]
      unfold byteOf
      rw [Int.pow_succ, Int.mul_comm (256 ^ j) 256, ← Int.ediv_ediv_of_nonneg (by omega)]
      congr 2
      omega
theorem numOf_fits (f : Nat → Int) (hf : ∀ j, 0 ≤ f j ∧ f j ≤ 255) (n : Nat) : numOf f n / 256 ^ n = 0 := Int.ediv_eq_zero_of_lt (numOf_bd f hf n).1 (numOf_bd f hf n).2
theorem apart_far (f : Nat → Int) : 8 ≤ apartOf (sealF f) (fun _ => 255) 58 := by
  obtain ⟨h0, _⟩ := apartOf_bd (sealF f) (fun _ => 255) 50
  have st : ∀ q, q < 8 → apartOf (sealF f) (fun _ => 255) (50 + q + 1) = apartOf (sealF f) (fun _ => 255) (50 + q) + 1 := by
    intro q hq
    have e : sealF f (50 + q) = markF q := by
      unfold sealF
      rw [if_neg (by omega), show 50 + q - 50 = q from by omega]
    show apartOf _ _ (50 + q) + (if (255 : Int) = sealF f (50 + q) then 0 else 1) = _
    rw [e, if_neg]
    have hq8 : q = 0 ∨ q = 1 ∨ q = 2 ∨ q = 3 ∨ q = 4 ∨ q = 5 ∨ q = 6 ∨ q = 7 := by omega
    rcases hq8 with rfl | rfl | rfl | rfl | rfl | rfl | rfl | rfl <;> decide
  have s0 := st 0 (by omega); have s1 := st 1 (by omega); have s2 := st 2 (by omega); have s3 := st 3 (by omega)
  have s4 := st 4 (by omega); have s5 := st 5 (by omega); have s6 := st 6 (by omega); have s7 := st 7 (by omega)
  simp only [Nat.reduceAdd] at s0 s1 s2 s3 s4 s5 s6 s7
  omega
theorem marked_seal (f : Nat → Int) : Marked (sealF f) := fun j hj => by
  unfold sealF
  rw [if_neg (by omega), show 50 + j - 50 = j from by omega]
theorem sealF_bd (f : Nat → Int) (hf : ∀ j, 0 ≤ f j ∧ f j ≤ 255) (j : Nat) : 0 ≤ sealF f j ∧ sealF f j ≤ 255 := by
  unfold sealF
  split
  · exact hf j
  · exact list_bd _ (by decide) _
/-- The body: the first 50 bytes of b, noughts behind them. -/
def bodyF (n : Nat) (f : Nat → Int) : Nat → Int := fun j => if j < n then f j else 0
theorem bodyF_bd (n : Nat) (f : Nat → Int) (hf : ∀ j, 0 ≤ f j ∧ f j ≤ 255) (j : Nat) : 0 ≤ bodyF n f j ∧ bodyF n f j ≤ 255 := by
  unfold bodyF
  split
  · exact hf j
  · omega
def getC (n : Nat) (f : Nat → Int) : Int := if 1 ≤ n ∧ n ≤ 8 then numOf f n else 0
def getE (n : Nat) : Int := if 1 ≤ n ∧ n ≤ 8 then 0 else 1
theorem get_any (A : Option Addr) (n c : Nat) (f : Nat → Int) (w : World) (r : Rd w A n (fun j => .int .u8 (f j))) (hf : ∀ j, 0 ≤ f j ∧ f j ≤ 255) (hm : n ≤ maxLen) :
    Calls Try.prog 12 #[.slice A n c] w fun e w' => e = .returned (.tuple #[.int .u64 (getC n f), errOf (getE n)]) ∧ w = w' := by
  unfold getC getE
  by_cases h : 1 ≤ n ∧ n ≤ 8
  · rw [if_pos h, if_pos h]
    exact get_ok A n c f w r hf h.1 h.2
  · rw [if_neg h, if_neg h]
    exact get_arg A n c w (by omega) hm
set_option maxHeartbeats 4000000 in
set_option maxRecDepth 100000 in
theorem back_walk (v : Int) (A : Option Addr) (n c : Nat) (f : Nat → Int) (w : World) (h0 : 0 ≤ v) (h1 : v ≤ 18446744073709551615) (r : SlArg w A n c (fun j => .int .u8 (f j))) (hf : ∀ j, 0 ≤ f j ∧ f j ≤ 255) (hl : n * 1 ≤ 140737488351232) :
    Calls Try.prog 6 #[.int .u64 v, .slice A n c] w fun e w' => e = .returned (.bool true) ∧ Keep [] w w' := by
  have HR := Lib.hid r; have HF := Lib.hid hf
  clear r hf
  go_enter Try.func6, Try.ntmps6
  go_wp2_with fail
  refine (shown_ok _).mono ?_
  rintro e w1 ⟨rfl, k1⟩
  go_wp2
  go_loopw [6, 7, 8, 9, 10] (fun i _ _ _ _ wr => ∃ k : Nat, 1 ≤ k ∧ k ≤ 9 ∧ i = .int .i64 k ∧ Keep [] w wr) (fun i _ _ _ _ _ => 9 - (intOf i).toNat)
  case atStart => exact ⟨1, by omega, by omega, rfl, k1⟩
  case round =>
    clear k1
    obtain ⟨k, hk, hk2, rfl, kk⟩ := hrel
    by_cases hlt : k ≤ 8
    · go_wp2_with fail
      refine (put_any v k _ h0 h1 hk hlt).mono ?_
      rintro e w2 ⟨k2, ⟨hv, rfl, R⟩ | ⟨hv, rfl⟩⟩
      · have HB := Lib.hid (numOf_back v h0 k hv)
        have k3 := kk.trans k2
        clear hv kk k2
        go_wp2_with fail
        refine (get_ok _ k k (byteOf v) _ (by exact Rd.of_row R (Nat.le_refl _)) (byteOf_bd v) hk hlt).mono ?_
        rintro e w3 ⟨rfl, rfl⟩
        rw [HB.out]
        go_wp2
        go_roundw
        case rel => exact ⟨k + 1, by omega, by omega, by go_num, k3⟩
        case measure => simp [intOf] <;> omega
      · have k3 := kk.trans k2
        clear hv kk k2
        go_wp2
        go_roundw
        case rel => exact ⟨k + 1, by omega, by omega, by go_num, k3⟩
        case measure => simp [intOf] <;> omega
    · obtain rfl : k = 9 := by omega
      rw [show ((9 : Nat) : Int) = 9 from rfl]
      clear hlt hk hk2
      have rr := HR.out.rd.keep0 kk
      go_wp2_with fail
      refine (get_any A n c f _ (by exact rr) HF.out (by unfold maxLen; omega)).mono ?_
      rintro e w3 ⟨rfl, rfl⟩
      go_upto_if 63 with (fail)
      go_cut [11, 12, 13, 14, 15] (fun _ _ _ _ _ wc => Keep [] w wc)
      case first =>
        by_cases hn : 1 ≤ n ∧ n ≤ 8
        · have e1 : getC n f = numOf f n := if_pos hn
          have e2 : getE n = 0 := if_pos hn
          obtain ⟨hn0, hn8⟩ := hn
          rw [e1, e2, errOf_zero]
          clear e1 e2
          obtain ⟨x0, x1⟩ := numOf_bd f HF.out n
          have x2 : (256 : Int) ^ n ≤ 18446744073709551616 := by
            have hn9 : n = 1 ∨ n = 2 ∨ n = 3 ∨ n = 4 ∨ n = 5 ∨ n = 6 ∨ n = 7 ∨ n = 8 := by omega
            rcases hn9 with rfl | rfl | rfl | rfl | rfl | rfl | rfl | rfl <;> decide
          have x3 : numOf f n ≤ 18446744073709551615 := by omega
          have HE := Lib.hid (numOf_fits f HF.out n)
          have HB := Lib.hid (byte_back f HF.out n)
          clear x1 x2
          generalize numOf f n = x at x0 x3 HE HB
          go_wp2_with fail
          refine (put_any x n _ x0 x3 hn0 hn8).mono ?_
          rintro e w2 ⟨k2, ⟨hv, rfl, R⟩ | ⟨hv, rfl⟩⟩
          · have k3 := kk.trans k2
            have r3 := HR.out.rd.keep0 k3
            have HS := Lib.hid (sameB_yes (n0 := n) (n1 := n) (f := byteOf x) (g := f) rfl HB.out)
            clear hv kk k2 rr
            go_wp2_with fail
            refine (same_ok _ _ n n n c (byteOf x) f _ (by exact Rd.of_row R (Nat.le_refl _)) (by exact r3) (by unfold maxLen; omega) (by unfold maxLen; omega)).mono ?_
            rintro e w4 ⟨rfl, m, rfl⟩
            rw [HS.out]
            go_wp2
            go_meet
            case rel => exact k3.drewN _
          · exact absurd HE.out hv
        · have e2 : getE n = 1 := if_neg hn
          rw [e2]
          have e3 : errOf 1 = .iface 29 (.int .i64 1) := rfl
          rw [e3]
          clear e2 e3 hn
          go_wp2
          go_meet
          case rel => exact kk
      case rest =>
        clear kk rr
        have kk := hcut
        clear hcut
        have hmk : ∀ w : World, (Instr.makeSlice 24 (.int .i64 50) (.int .i64 50)).run Try.prog w = .ok (.slice (some ⟨w.heap.size, 0, none⟩) 50 50) (w.alloc (.cells (madeCells #[.int .u8 0] 50) 5)) := fun w => run_make_row' (P := Try.prog) 24 5 (.int .u8 0) 1 Try.underlying24 byte_info rfl .i64 .i64 50 (by omega) (by omega) w
        have hmk2 : ∀ w : World, (Instr.makeSlice 24 (.int .i64 58) (.int .i64 58)).run Try.prog w = .ok (.slice (some ⟨w.heap.size, 0, none⟩) 58 58) (w.alloc (.cells (madeCells #[.int .u8 0] 58) 5)) := fun w => run_make_row' (P := Try.prog) 24 5 (.int .u8 0) 1 Try.underlying24 byte_info rfl .i64 .i64 58 (by omega) (by omega) w
        have hsz := kk.size
        have HK := Lib.hid kk
        clear kk
        go_wp2
        generalize hg0 : wc.heap.size = g0 at hsz
        have R0 : Row (wc.alloc (.cells (madeCells #[.int .u8 0] 50) 5)) g0 5 50 (fun _ => .int .u8 0) := by rw [← hg0]; exact Row.made wc _ _ _
        have HR0 := Lib.hid R0; clear R0 hg0
        go_loopw [17] (fun i wr => ∃ k : Nat, k ≤ 50 ∧ k ≤ n ∧ i = .int .i64 k ∧ Keep [] w wr ∧ Row wr g0 5 50 (fun j => .int .u8 (if j < k then f j else 0))) (fun i _ => 50 - (intOf i).toNat)
        case atStart => exact ⟨0, by omega, by omega, rfl, HK.out.alloc _, HR0.out.congr (fun j hj => by simp)⟩
        case round =>
          clear HR0 HK
          obtain ⟨k, hk, hk2, rfl, kk, R⟩ := hrel
          by_cases hlt : k < 50 ∧ k < n
          · obtain ⟨hlt, hlt2⟩ := hlt
            have rr := HR.out.rd.keep0 kk
            obtain ⟨b0, o0, rfl, d0⟩ := rr (by omega)
            have e0 : wr.cell? ⟨b0, o0 + k, none⟩ = some (.int .u8 (f k)) := d0 k hlt2
            have c0 := R.cell k hlt
            have z0 := R.free k
            have HKK := Lib.hid kk; have HRR := Lib.hid R
            clear d0 kk R
            go_wp2
            go_roundw
            case rel => exact ⟨k + 1, by omega, by omega, by go_num, HKK.out.setCell _ _ (.inr hsz), (HRR.out.set_int k (f k)).congr (fun j hj => by
              by_cases h : j = k
              · subst h
                rw [if_pos rfl, if_pos (by omega)]
              · rw [if_neg h]
                by_cases h2 : j < k
                · rw [if_pos h2, if_pos (by omega)]
                · rw [if_neg h2, if_neg (by omega)])⟩
            case measure => simp [intOf] <;> omega
          · have R1 : Row wr g0 5 50 (fun j => .int .u8 (bodyF n f j)) := R.congr (fun j hj => by
              unfold bodyF
              by_cases h2 : j < k
              · rw [if_pos h2, if_pos (by omega)]
              · rw [if_neg h2, if_neg (by omega)])
            have HB := Lib.hid (bodyF_bd n f HF.out)
            have HR1 := Lib.hid R1; have HKK := Lib.hid kk
            clear R R1 kk
            go_wp2_with fail
            all_goals
              refine (seal_ok (some ⟨g0, 0, none⟩) 50 (bodyF n f) _ (by exact Rd.of_row HR1.out (Nat.le_refl _))).mono ?_
              rintro e w5 ⟨rfl, R5, k5⟩
              have HR5 := Lib.hid R5; have HR1' := Lib.hid (HR1.out.keep k5 (by simp)); have HK5 := Lib.hid (HKK.out.trans k5)
              clear R5 k5
              go_wp2_with fail
              refine (open_any _ 58 (sealF (bodyF n f)) _ (by exact Rd.of_row HR5.out (Nat.le_refl _)) (by omega) (sealF_bd _ HB.out)).mono ?_
              rintro e w6 (⟨_, X, rfl, L6, _, k6⟩ | ⟨h, _⟩)
              · have HL6 := Lib.hid L6; have HR5' := Lib.hid (HR5.out.keep k6 (by simp)); have HR1'' := Lib.hid (HR1'.out.keep k6 (by simp)); have HK6 := Lib.hid (HK5.out.trans k6)
                clear L6 k6
                go_wp2
                have hs6 := HK6.out.size
                generalize hg2 : w6.heap.size = g2 at hs6
                have R0 : Row (w6.alloc (.cells (madeCells #[.int .u8 0] 58) 5)) g2 5 58 (fun _ => .int .u8 0) := by rw [← hg2]; exact Row.made w6 _ _ _
                have HR0 := Lib.hid R0
                have HA5 := Lib.hid (HR5'.out.alloc (.cells (madeCells #[.int .u8 0] 58) 5)); have HA1 := Lib.hid (HR1''.out.alloc (.cells (madeCells #[.int .u8 0] 58) 5)); have HA6 := Lib.hid (HL6.out.keep0 ((Keep.refl [] w6).alloc (.cells (madeCells #[.int .u8 0] 58) 5))); have HAK := Lib.hid (HK6.out.alloc (.cells (madeCells #[.int .u8 0] 58) 5))
                have hg5 : wr.heap.size < g2 := by rw [← hg2]; exact HR5'.out.lt
                have hg0 : g0 < g2 := by rw [← hg2]; exact HR1''.out.lt
                have HX : Hid (∀ x, x ∈ blk X → x < g2) := fun x hx => by rw [← hg2]; exact HL6.out.blk_lt hx
                clear R0 hg2
                obtain ⟨wo, rfl⟩ : ∃ wo : World, wo = wr := ⟨_, rfl⟩
                go_loopw [22] (fun i wr => ∃ k : Nat, k ≤ 58 ∧ i = .int .i64 k ∧ Keep [] w wr ∧ Row wr g2 5 58 (fun j => .int .u8 (if j < k then 255 else 0)) ∧ Row wr wo.heap.size 5 58 (fun j => .int .u8 (sealF (bodyF n f) j)) ∧ Row wr g0 5 50 (fun j => .int .u8 (bodyF n f j)) ∧ Ly wr 5 1 X 50 50 (fun j => .int .u8 (sealF (bodyF n f) j))) (fun i _ => 58 - (intOf i).toNat)
                case atStart => exact ⟨0, by omega, rfl, HAK.out, HR0.out.congr (fun j hj => by simp), HA5.out, HA1.out, HA6.out⟩
                case round =>
                  clear HR0 HA5 HA1 HA6 HAK
                  obtain ⟨q, hq, rfl, kk, R2, RS, RB, LX⟩ := hrel
                  have HKK := Lib.hid kk; have HR2 := Lib.hid R2; have HRS := Lib.hid RS; have HRB := Lib.hid RB; have HLX := Lib.hid LX
                  by_cases hlt : q < 58
                  · have c0 := R2.cell q hlt
                    have z0 := R2.free q
                    clear kk R2 RS RB LX
                    go_wp2
                    go_roundw
                    case rel => exact ⟨q + 1, by omega, by go_num, HKK.out.setCell _ _ (.inr hs6), (HR2.out.set_int q 255).congr (fun j hj => by
                      by_cases h : j = q
                      · subst h
                        rw [if_pos rfl, if_pos (by omega)]
                      · rw [if_neg h]
                        by_cases h2 : j < q
                        · rw [if_pos h2, if_pos (by omega)]
                        · rw [if_neg h2, if_neg (by omega)]), HRS.out.far (by simp; omega) _, HRB.out.far (by simp; omega) _, HLX.out.far (fun x hx e => by
                        have := HX.out x hx
                        have e2 : x = g2 := e
                        omega) _⟩
                    case measure => simp [intOf] <;> omega
                  · obtain rfl : q = 58 := by omega
                    have HR3 := Lib.hid (R2.congr (f' := fun j => .int .u8 255) (fun j hj => by rw [if_pos hj]))
                    have hge := apart_far (bodyF n f)
                    have hS := sameB_yes (n0 := 50) (n1 := 50) (f := sealF (bodyF n f)) (g := bodyF n f) rfl (fun j hj => by unfold sealF; rw [if_pos hj])
                    have HS := Lib.hid hS
                    clear kk R2 RS RB LX hS
                    go_wp2_with fail
                    refine (apart_ok _ _ 58 58 58 (sealF (bodyF n f)) (fun _ => 255) _ (by exact Rd.of_row HRS.out (Nat.le_refl _)) (by exact Rd.of_row HR3.out (Nat.le_refl _)) (by omega)).mono ?_
                    rintro e w7 ⟨rfl, rfl⟩
                    generalize apartOf (sealF (bodyF n f)) (fun _ => 255) 58 = y at hge
                    go_wp2_with fail
                    refine (same_ok _ _ 50 50 50 50 (sealF (bodyF n f)) (bodyF n f) _ (by exact HLX.out.rd1) (by exact Rd.of_row HRB.out (Nat.le_refl _)) (by decide) (by decide)).mono ?_
                    rintro e w8 ⟨rfl, n8, rfl⟩
                    rw [HS.out]
                    go_wp2
                    go_ret
                    exact ⟨rfl, HKK.out.drewN _⟩
              · exact absurd (marked_seal _) h
end Go.Proofs.Ytefbmimbeimlaaa
