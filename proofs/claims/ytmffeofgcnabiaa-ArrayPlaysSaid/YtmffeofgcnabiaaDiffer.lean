/- Clone and Differ of the array of layer 20. -/
import Derived.Test.YtmffeofgcnabiaaArr
namespace Go.Proofs.Ytmffeofgcnabiaa
open Go.RowKit
set_option linter.unusedVariables false
set_option maxHeartbeats 1000000 in
theorem aclone_ok (g : Nat) (S : Nat → Int) (w : World) (hr : ArrAt w g S) :
    Calls Try.prog 27 #[.pointer (some ⟨g, 0, none⟩)] w fun e w' => e = .returned (.pointer (some ⟨w.heap.size, 0, none⟩)) ∧ ArrAt w' w.heap.size S ∧ Keep [] w w' := by
  have HR : Hid (Row w g 54 3840 (fun j => .int .u8 (S j))) := hr
  clear hr
  go_enter Try.func27, Try.ntmps27
  go_wp2_with (first
    | (with_reducible refine wpList_load_agg rfl (.tmp 5) rfl rfl HR.out (o := 0) (n := 3840) (by omega) Try.underlying54 rfl size_arr ?_)
    | (with_reducible refine wpList_alloc0 rfl rfl alloc_arr ?_)
    | (with_reducible refine wpList_store_agg (ty := 54) rfl (.tmp 3) (.tmp 6) rfl rfl rfl (Row.obj w _ _ _) (by omega) size_arr (fun _ _ => rfl) ?_
       intro w1 r1 k1
       have R1 := Lib.hid r1; have K1 := Lib.hid k1
       clear r1 k1))
  go_ret
  refine ⟨rfl, R1.out.congr (fun j hj => ?_), ((Keep.refl [] w).alloc _).then K1.out (fun x hx => .inr (by rw [List.mem_singleton.1 hx]; exact Nat.le_refl _))⟩
  unfold lay
  rw [if_pos (by omega)]
  simp
/-- In which of the first k sectors two arrays differ. -/
def difOf (S T : Nat → Int) : Nat → List Int
  | 0 => []
  | k + 1 => difOf S T k ++ if (List.range 160).all (fun j => S (k * 160 + j) == T (k * 160 + j)) then [] else [(k : Int)]
theorem difOf_len (S T : Nat → Int) (k : Nat) : (difOf S T k).length ≤ k := by
  induction k with
  | zero => simp [difOf]
  | succ k ih =>
    unfold difOf
    split <;> simp <;> omega
def DifPost (w : World) (S T : Nat → Int) (e : Ending) (w' : World) : Prop :=
  ∃ X c, e = .returned (.slice X (difOf S T 24).length c) ∧ Ly w' 3 1 X (difOf S T 24).length c (fun j => .int .i64 ((difOf S T 24).getD j 0)) ∧ (∀ x, x ∈ blk X → w.heap.size ≤ x) ∧ Keep [] w w'
set_option maxHeartbeats 2000000 in
set_option maxRecDepth 20000 in
theorem differ_ok (g h : Nat) (S T : Nat → Int) (w : World) (hr : ArrAt w g S) (hr2 : ArrAt w h T) :
    Calls Try.prog 16 #[.pointer (some ⟨g, 0, none⟩), .pointer (some ⟨h, 0, none⟩)] w (DifPost w S T) := by
  obtain ⟨i0, hi, hz0, hz1, hz2⟩ := info_parts int_info
  have HR : Hid (Row w g 54 3840 (fun j => .int .u8 (S j))) := hr
  have HR2 : Hid (Row w h 54 3840 (fun j => .int .u8 (T j))) := hr2
  clear hr hr2
  go_enter Try.func16, Try.ntmps16
  go_wp2_with (first
    | (with_reducible refine wpList_load_agg rfl (.tmp 13) rfl rfl HR.out (o := 0) (n := 3840) (by omega) Try.underlying52 rfl size_secs ?_))
  go_loopw [5, 6, 7, 15] (fun l _ _ i wr => ∃ (k : Nat) (X : Option Addr) (c : Nat), k ≤ 24 ∧ i = .int .i64 k ∧ l = .slice X (difOf S T k).length c ∧ Ly wr 3 1 X (difOf S T k).length c (fun j => .int .i64 ((difOf S T k).getD j 0)) ∧ (∀ x, x ∈ blk X → w.heap.size ≤ x) ∧ Keep [] w wr) (fun _ _ _ i _ => 24 - (intOf i).toNat)
  case atStart => exact ⟨0, none, 0, by omega, rfl, rfl, Ly.nil _ _ _ _, (fun _ h => by cases h), Keep.refl _ _⟩
  case round =>
    obtain ⟨k, G, cG, hk, rfl, rfl, hly, hnew, kk⟩ := hrel
    have HLY := Lib.hid hly; have HF := Lib.hid hnew; have HK := Lib.hid kk
    have hn := difOf_len S T k
    have h2 : Hid (Row wr h 54 3840 (fun j => .int .u8 (T j))) := Row.keep HR2.out kk (fun h => by cases h)
    clear hly hnew kk
    by_cases hlt : k < 24
    · go_wp2_with (first
        | (with_reducible refine wpList_index_aggs rfl (.tmp 14) (.tmp 15) rfl 24 160 k rfl rfl Try.underlying52 hlt Try.underlying51 rfl size_sec ?_)
        | (with_reducible refine wpList_alloc0 rfl rfl alloc_sec ?_)
        | (with_reducible refine wpList_store_agg (ty := 51) rfl (.tmp 7) (.tmp 18) rfl rfl rfl (Row.obj wr _ _ _) (by omega) size_sec (fun _ _ => rfl) ?_
           intro w1 r1 k1
           have k2 : Keep [] wr w1 := ((Keep.refl [] wr).alloc _).then k1 (fun x hx => .inr (by rw [List.mem_singleton.1 hx]; exact Nat.le_refl _))
           have t2 : Row w1 h 54 3840 (fun j => .int .u8 (T j)) := Row.keep h2.out k2 (fun h => by cases h)
           have R1 := Lib.hid r1; have K1 := Lib.hid k2; have T1 := Lib.hid t2
           clear r1 k1 k2 t2))
      refine wp_region_still_lit (by kernel_rfl) (by kernel_rfl) ?_
      refine (show wpStill _ _ (World.drew _) _ _ _ from ?_)
      repeat (first
        | (refine still_load_agg rfl (.tmp 7) rfl rfl R1.out (o := 0) (n := 160) (by omega) Try.underlying51 rfl size_sec ?_)
        | (refine still_load_agg rfl (.tmp 24) rfl rfl T1.out (o := k * 160) (n := 160) (by omega) Try.underlying51 rfl size_sec ?_)
        | (refine still_neq_arr (k := .u8) (u := fun j => S (k * 160 + j)) (v := fun j => T (k * 160 + j)) (len := 160) rfl (.tmp 19) (.tmp 25) rfl (by change agg 160 (fun j => lay (fun _ => Value.int .u8 0) 0 160 (fun j => .int .u8 (S (k * 160 + j))) j) = _; exact agg_congr (fun j hj => by unfold lay; rw [if_pos (by omega)]; simp)) rfl Try.underlying51 Try.underlying5 (by kernel_rfl) (by kernel_rfl) ?_)
        | still_step)
      refine wpStill_nil ?_
      refine (show Exit.then _ _ _ _ (World.drew _) from ?_)
      cases hB : (List.range 160).all (fun j => S (k * 160 + j) == T (k * 160 + j)) with
      | true =>
        have hd : difOf S T (k + 1) = difOf S T k := by
          show difOf S T k ++ (if _ then _ else _) = _
          rw [if_pos hB, List.append_nil]
        clear hB
        have HD := Lib.hid hd
        clear hd
        go_wp2
        go_roundw
        case rel => exact ⟨k + 1, G, cG, by omega, by go_num, by rw [HD.out], by rw [HD.out]; exact HLY.out.keep0 (K1.out.drew), HF.out, HK.out.trans K1.out.drew⟩
        case measure => simp [intOf] <;> omega
      | false =>
        have hd : difOf S T (k + 1) = difOf S T k ++ [(k : Int)] := by
          show difOf S T k ++ (if _ then _ else _) = _
          rw [if_neg (by rw [hB]; exact Bool.false_ne_true)]
        clear hB
        have HD := Lib.hid hd
        have k3 := HK.out.trans K1.out.drew
        have l3 := HLY.out.keep0 (K1.out.drew)
        have K3 := Lib.hid k3; have L3 := Lib.hid l3
        clear hd HLY HK K1 R1 T1 k3 l3
        generalize w1.drew = w2 at *
        go_wp2_with (at_builtin
                     refine wpList_append_ly rfl (.tmp 27) (.tmp 29) 49 rfl 3 i0 _ 1 8 Try.underlying49 hi hz0 hz1 hz2 rfl (by omega) G (difOf S T k).length cG _ rfl (L3.out.keep0 ((Keep.refl [] w2).alloc _)) (some ⟨w2.heap.size, 0, none⟩) 1 1 (fun _ => .int .i64 (k : Int)) rfl (rd_one (heap_alloc_new _ _)) (Nat.le_refl _) (fun e => by cases e) (fun _ _ => rfl) (by simp only [maxLen]; omega) (by omega) ?_
                     intro X cX w3 hly hkp hat hpre
                     have HX := Lib.hid hly; have HAT := Lib.hid hat; have HKP := Lib.hid hkp
                     clear hly hkp hat hpre)
        go_roundw
        case measure => simp [intOf] <;> omega
        case rel =>
          have e1 : (difOf S T (k + 1)).length = (difOf S T k).length + 1 := by rw [HD.out]; simp
          refine ⟨k + 1, X, cX, by omega, by go_num, by rw [e1], ?_, fun x hx => ?_, ((K3.out.alloc _).then HKP.out (fun x hx => .inr (HF.out x hx)))⟩
          · rw [e1]
            refine HX.out.congr (fun j hj => ?_)
            rw [HD.out]
            by_cases h : j < (difOf S T k).length
            · simp [h, List.getElem?_append_left h]
            · obtain rfl : j = (difOf S T k).length := by omega
              simp
          · rcases HAT.out with e | e
            · exact HF.out x (e ▸ hx)
            · rw [e] at hx
              obtain rfl := List.mem_singleton.1 hx
              have := K3.out.size
              simp
              omega
    · obtain rfl : k = 24 := by omega
      go_wp2
      go_ret
      exact ⟨G, cG, rfl, HLY.out, HF.out, HK.out⟩
end Go.Proofs.Ytmffeofgcnabiaa
