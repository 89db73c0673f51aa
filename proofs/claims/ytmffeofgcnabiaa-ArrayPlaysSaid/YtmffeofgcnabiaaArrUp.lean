/- The parts of law 20: some, pick, Differ(nil), ints, the examples. -/
import Derived.Test.YtmffeofgcnabiaaDiffer
import Derived.Test.YtmffeofgcnabiaaSame
namespace Go.Proofs.Ytmffeofgcnabiaa
open Go.RowKit
set_option linter.unusedVariables false
set_option maxHeartbeats 2000000 in
set_option maxRecDepth 20000 in
theorem differ_nil (g : Nat) (S : Nat → Int) (w : World) (hr : ArrAt w g S) :
    Calls Try.prog 16 #[.pointer (some ⟨g, 0, none⟩), .pointer none] w (DifPost w S (fun _ => 0)) := by
  obtain ⟨i0, hi, hz0, hz1, hz2⟩ := info_parts int_info
  have HR : Hid (Row w g 54 3840 (fun j => .int .u8 (S j))) := hr
  clear hr
  go_enter Try.func16, Try.ntmps16
  go_wp2_with (first
    | (go_at_call 6
       refine (new_ok _).mono ?_
       rintro e w0 ⟨rfl, r0, k0⟩
       have HR2 : Hid (Row w0 w.heap.size 54 3840 (fun _ => .int .u8 0)) := r0
       have HRS : Hid (Row w0 g 54 3840 (fun j => .int .u8 (S j))) := Row.keep HR.out k0 (fun h => by cases h)
       have K0 := Lib.hid k0
       clear r0 k0)
    | (with_reducible refine wpList_load_agg rfl (.tmp 13) rfl rfl HRS.out (o := 0) (n := 3840) (by omega) Try.underlying52 rfl size_secs ?_))
  go_loopw [5, 6, 7, 15] (fun l _ _ i wr => ∃ (k : Nat) (X : Option Addr) (c : Nat), k ≤ 24 ∧ i = .int .i64 k ∧ l = .slice X (difOf S (fun _ => 0) k).length c ∧ Ly wr 3 1 X (difOf S (fun _ => 0) k).length c (fun j => .int .i64 ((difOf S (fun _ => 0) k).getD j 0)) ∧ (∀ x, x ∈ blk X → w0.heap.size ≤ x) ∧ Keep [] w0 wr) (fun _ _ _ i _ => 24 - (intOf i).toNat)
  case atStart => exact ⟨0, none, 0, by omega, rfl, rfl, Ly.nil _ _ _ _, (fun _ h => by cases h), Keep.refl _ _⟩
  case round =>
    obtain ⟨k, G, cG, hk, rfl, rfl, hly, hnew, kk⟩ := hrel
    have HLY := Lib.hid hly; have HF := Lib.hid hnew; have HK := Lib.hid kk
    have hn := difOf_len S (fun _ => 0) k
    have h2 : Hid (Row wr w.heap.size 54 3840 (fun _ => .int .u8 0)) := Row.keep HR2.out kk (fun h => by cases h)
    clear hly hnew kk
    by_cases hlt : k < 24
    · go_wp2_with (first
        | (with_reducible refine wpList_index_aggs rfl (.tmp 14) (.tmp 15) rfl 24 160 k rfl rfl Try.underlying52 hlt Try.underlying51 rfl size_sec ?_)
        | (with_reducible refine wpList_alloc0 rfl rfl alloc_sec ?_)
        | (with_reducible refine wpList_store_agg (ty := 51) rfl (.tmp 7) (.tmp 18) rfl rfl rfl (Row.obj wr _ _ _) (by omega) size_sec (fun _ _ => rfl) ?_
           intro w1 r1 k1
           have k2 : Keep [] wr w1 := ((Keep.refl [] wr).alloc _).then k1 (fun x hx => .inr (by rw [List.mem_singleton.1 hx]; exact Nat.le_refl _))
           have t2 : Row w1 w.heap.size 54 3840 (fun _ => .int .u8 0) := Row.keep h2.out k2 (fun h => by cases h)
           have R1 := Lib.hid r1; have K1 := Lib.hid k2; have T1 := Lib.hid t2
           clear r1 k1 k2 t2))
      refine wp_region_still_lit (by kernel_rfl) (by kernel_rfl) ?_
      refine (show wpStill _ _ (World.drew _) _ _ _ from ?_)
      repeat (first
        | (refine still_load_agg rfl (.tmp 7) rfl rfl R1.out (o := 0) (n := 160) (by omega) Try.underlying51 rfl size_sec ?_)
        | (refine still_load_agg rfl (.tmp 24) rfl rfl T1.out (o := k * 160) (n := 160) (by omega) Try.underlying51 rfl size_sec ?_)
        | (refine still_neq_arr (k := .u8) (u := fun j => S (k * 160 + j)) (v := fun j => 0) (len := 160) rfl (.tmp 19) (.tmp 25) rfl (by change agg 160 (fun j => lay (fun _ => Value.int .u8 0) 0 160 (fun j => .int .u8 (S (k * 160 + j))) j) = _; exact agg_congr (fun j hj => by unfold lay; rw [if_pos (by omega)]; simp)) rfl Try.underlying51 Try.underlying5 (by kernel_rfl) (by kernel_rfl) ?_)
        | still_step)
      refine wpStill_nil ?_
      refine (show Exit.then _ _ _ _ (World.drew _) from ?_)
      cases hB : (List.range 160).all (fun j => S (k * 160 + j) == 0) with
      | true =>
        have hd : difOf S (fun _ => 0) (k + 1) = difOf S (fun _ => 0) k := by
          show difOf S (fun _ => 0) k ++ (if _ then _ else _) = _
          rw [if_pos hB, List.append_nil]
        clear hB
        have HD := Lib.hid hd
        clear hd
        go_wp2
        go_roundw
        case rel => exact ⟨k + 1, G, cG, by omega, by go_num, by rw [HD.out], by rw [HD.out]; exact HLY.out.keep0 (K1.out.drew), HF.out, HK.out.trans K1.out.drew⟩
        case measure => simp [intOf] <;> omega
      | false =>
        have hd : difOf S (fun _ => 0) (k + 1) = difOf S (fun _ => 0) k ++ [(k : Int)] := by
          show difOf S (fun _ => 0) k ++ (if _ then _ else _) = _
          rw [if_neg (by rw [hB]; exact Bool.false_ne_true)]
        clear hB
        have HD := Lib.hid hd
        have k3 := HK.out.trans K1.out.drew
        have l3 := HLY.out.keep0 (K1.out.drew)
        have K3 := Lib.hid k3; have L3 := Lib.hid l3
        clear hd HLY HK K1 R1 T1 k3 l3
        generalize w1.drew = w2 at *
        go_wp2_with (at_builtin
                     refine wpList_append_ly rfl (.tmp 27) (.tmp 29) 49 rfl 3 i0 _ 1 8 Try.underlying49 hi hz0 hz1 hz2 rfl (by omega) G (difOf S (fun _ => 0) k).length cG _ rfl (L3.out.keep0 ((Keep.refl [] w2).alloc _)) (some ⟨w2.heap.size, 0, none⟩) 1 1 (fun _ => .int .i64 (k : Int)) rfl (rd_one (heap_alloc_new _ _)) (Nat.le_refl _) (fun e => by cases e) (fun _ _ => rfl) (by simp only [maxLen]; omega) (by omega) ?_
                     intro X cX w3 hly hkp hat hpre
                     have HX := Lib.hid hly; have HAT := Lib.hid hat; have HKP := Lib.hid hkp
                     clear hly hkp hat hpre)
        go_roundw
        case measure => simp [intOf] <;> omega
        case rel =>
          have e1 : (difOf S (fun _ => 0) (k + 1)).length = (difOf S (fun _ => 0) k).length + 1 := by rw [HD.out]; simp
          refine ⟨k + 1, X, cX, by omega, by go_num, by rw [e1], ?_, fun x hx => ?_, ((K3.out.alloc _).then HKP.out (fun x hx => .inr (HF.out x hx)))⟩
          · rw [e1]
            refine HX.out.congr (fun j hj => ?_)
            rw [HD.out]
            by_cases h : j < (difOf S (fun _ => 0) k).length
            · simp [h, List.getElem?_append_left h]
            · obtain rfl : j = (difOf S (fun _ => 0) k).length := by omega
              simp
          · rcases HAT.out with e | e
            · exact HF.out x (e ▸ hx)
            · rw [e] at hx
              obtain rfl := List.mem_singleton.1 hx
              have := K3.out.size
              simp
              omega
    · obtain rfl : k = 24 := by omega
      go_wp2
      go_ret
      exact ⟨G, cG, rfl, HLY.out, fun x hx => Nat.le_trans K0.out.size (HF.out x hx), K0.out.trans HK.out⟩

/-- The bytes that some makes of one. -/
def someF (v : Int) (j : Nat) : Int := (v + 3 * (j : Int)) % 256
set_option maxHeartbeats 1000000 in
theorem some_ok (v : Int) (n : Nat) (w : World) (h0 : 0 ≤ v) (h1 : v ≤ 255) (hn : n ≤ 499) :
    Calls Try.prog 8 #[.int .i64 n, .int .u8 v] w fun e w' => e = .returned (.slice (some ⟨w.heap.size, 0, none⟩) n n) ∧ Row w' w.heap.size 5 n (fun j => .int .u8 (someF v j)) ∧ Keep [] w w' := by
  have hmk := run_make_row' (P := Try.prog) 29 5 (.int .u8 0) 1 Try.underlying29 byte_info rfl .i64 .i64 n (by omega) (by omega)
  go_enter Try.func8, Try.ntmps8
  go_wp2
  have R := Row.made w 5 (.int .u8 0) n
  have kk := (Keep.refl [] w).alloc (.cells (madeCells #[.int .u8 0] n) 5)
  go_loopw [6] (fun i wr => ∃ k : Nat, k ≤ n ∧ i = .int .i64 k ∧ Keep [] w wr ∧ Row wr w.heap.size 5 n (fun j => .int .u8 (if j < k then someF v j else 0))) (fun i _ => n - (intOf i).toNat)
  case atStart => exact ⟨0, by omega, rfl, kk, R.congr (fun j hj => by simp)⟩
  case round =>
    clear R kk
    obtain ⟨k, hk, rfl, kk, R⟩ := hrel
    have HB : Hid (someF v k = (v + 3 * (k : Int)) % 256) := rfl
    by_cases hlt : k < n
    · have hc := R.cell k hlt
      have hz := R.free k
      go_wp2
      go_roundw
      case rel => exact ⟨k + 1, by omega, by go_num, kk.setCell _ _ (.inr (Nat.le_refl _)), (R.set_int _ _).congr (fun j hj => by
        by_cases h : j = k
        · subst h
          rw [if_pos rfl, if_pos (by omega), HB.out]
        · rw [if_neg h]
          by_cases h2 : j < k
          · rw [if_pos h2, if_pos (by omega)]
          · rw [if_neg h2, if_neg (by omega)])⟩
      case measure => simp [intOf] <;> omega
    · obtain rfl : k = n := by omega
      go_wp2
      go_ret
      exact ⟨rfl, R.congr (fun j hj => by rw [if_pos hj]), kk⟩
/-- Which of n things a raw number speaks of. -/
def pickN (c : Int) (n : Nat) : Nat := ((if c < 0 then -(c + 1) else c) % n).toNat
theorem pickN_lt (c : Int) (n : Nat) (hn : 0 < n) : pickN c n < n := by
  unfold pickN
  have := Int.emod_lt_of_pos (if c < 0 then -(c + 1) else c) (show (0 : Int) < n by omega)
  have := Int.emod_nonneg (if c < 0 then -(c + 1) else c) (show (n : Int) ≠ 0 by omega)
  omega
set_option maxHeartbeats 1000000 in
theorem pick_ok (c : Int) (n : Nat) (w : World) (h0 : -9223372036854775808 ≤ c) (h1 : c ≤ 9223372036854775807) (hn : 0 < n) (hn2 : n ≤ 100) :
    Calls Try.prog 9 #[.int .i64 c, .int .i64 n] w fun e w' => e = .returned (.int .i64 (pickN c n)) ∧ w = w' := by
  have hp : ((pickN c n : Nat) : Int) = (if c < 0 then -(c + 1) else c) % n := Int.toNat_of_nonneg (Int.emod_nonneg _ (show (n : Int) ≠ 0 by omega))
  rw [hp]
  clear hp
  by_cases hc : c < 0
  · rw [if_pos hc]
    go_enter Try.func9, Try.ntmps9
    go_wp2
    have e2 : -(c + 1).tmod (n : Int) = -(c + 1) % (n : Int) := by rw [← Int.neg_tmod, Int.tmod_eq_emod_of_nonneg (by omega)]
    go_ret
    exact ⟨by rw [← e2]; rfl, rfl⟩
  · rw [if_neg hc]
    go_enter Try.func9, Try.ntmps9
    go_wp2
    go_ret
    exact ⟨rfl, rfl⟩

theorem difOf_one : difOf (setSec (fun _ => 0) 3 (someF 7)) (fun _ => 0) 24 = [3] := by decide +kernel
set_option maxHeartbeats 2000000 in
theorem shown_ok (w : World) : Calls Try.prog 5 #[] w fun e w' => e = .returned (.bool true) ∧ Keep [] w w' := by
  have hs : sameB 160 160 (fun j => setSec (fun _ => 0) 3 (someF 7) (3 * 160 + j)) (someF 7) = true := sameB_yes rfl (fun j hj => setSec_same _ _ _ _ hj)
  have HS := Lib.hid hs; clear hs
  have he := fun (a b : Int) (w : World) => eq_err a b w
  go_enter Try.func5, Try.ntmps5
  go_wp2_with fail
  refine (new_ok _).mono ?_
  rintro e w1 ⟨rfl, r1, k1⟩
  have R1 := Lib.hid r1; have K1 := Lib.hid k1
  clear r1 k1
  go_wp2_with fail
  refine (some_ok 7 160 _ (by omega) (by omega) (by omega)).mono ?_
  rintro e w2 ⟨rfl, r2, k2⟩
  have R2 := Lib.hid (Rd.of_row r2 (Nat.le_refl _)); have T2 : Hid (ArrAt w2 w.heap.size (fun _ => 0)) := Row.keep R1.out k2 (fun h => by cases h); have K2 := Lib.hid (K1.out.trans k2)
  clear r2 k2 R1
  go_wp2_with fail
  refine (write_ok _ 3 160 _ _ _ _ (by omega) T2.out R2.out).mono ?_
  rintro e w3 ⟨rfl, r3, k3⟩
  have T3 := Lib.hid r3; have K3 := Lib.hid (K2.out.then k3 (fun x hx => .inr (by rw [List.mem_singleton.1 hx]; exact Nat.le_refl _)))
  clear r3 k3 R2 T2
  go_wp2_with fail
  refine (read_ok _ 3 _ _ (by omega) T3.out).mono ?_
  rintro e w4 ⟨X, c, rfl, ly, hn, k4⟩
  have L4 := Lib.hid ly; have K4 := Lib.hid (K3.out.trans k4); have T4 : Hid (ArrAt w4 w.heap.size _) := Row.keep T3.out k4 (fun h => by cases h)
  clear ly hn k4 T3
  go_wp2_with fail
  refine (read_arg _ 24 _ (by omega)).mono ?_
  rintro e w5 ⟨rfl, rfl⟩
  go_wp2_with fail
  refine (some_ok 7 160 _ (by omega) (by omega) (by omega)).mono ?_
  rintro e w6 ⟨rfl, r6, k6⟩
  have R6 := Lib.hid (Rd.of_row r6 (Nat.le_refl _)); have T6 : Hid (ArrAt w6 w.heap.size _) := Row.keep T4.out k6 (fun h => by cases h); have K6 := Lib.hid (K4.out.trans k6)
  have L6 := Lib.hid (L4.out.keep0 k6)
  clear r6 k6 T4 L4
  go_wp2_with fail
  refine (same_ok _ _ 160 160 _ _ _ _ _ L6.out.rd1 R6.out (by decide) (by decide)).mono ?_
  rintro e w7 ⟨rfl, m, rfl⟩
  rw [HS.out]
  go_wp2_with fail
  refine (differ_nil _ _ _ (Row.drewN T6.out m)).mono ?_
  rintro e w8 ⟨Y, d, rfl, ly, hn, k8⟩
  rw [difOf_one] at ly ⊢
  have ca := ly.at1 (j := 0) (by simp)
  obtain ⟨g, rfl, c0, _⟩ := ca
  have c1 : w8.cell? ⟨g, 0, none⟩ = some (.int .i64 3) := c0
  have K8 := Lib.hid (K6.out.drewN m |>.trans k8)
  clear c0 ly hn k8
  go_wp2
  go_ret
  exact ⟨rfl, K8.out⟩
end Go.Proofs.Ytmffeofgcnabiaa
