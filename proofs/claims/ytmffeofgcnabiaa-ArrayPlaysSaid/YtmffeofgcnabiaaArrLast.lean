/- ArrayLast: the walk. -/
import Derived.Test.YtmffeofgcnabiaaArrUp
import Derived.Test.YtmffeofgcnabiaaStructs
namespace Go.Proofs.Ytmffeofgcnabiaa
open Go.RowKit
set_option linter.unusedVariables false
/-- An Op of law 20, its four fields. -/
def OpAt (F : Nat → Nat → Value) (i : Nat) : Prop := ∃ K A B V : Int, F i 0 = .int .i64 K ∧ F i 1 = .int .i64 A ∧ F i 2 = .int .i64 B ∧ F i 3 = .int .u8 V ∧
  (-9223372036854775808 ≤ K ∧ K ≤ 9223372036854775807) ∧ (-9223372036854775808 ≤ A ∧ A ≤ 9223372036854775807) ∧ (-9223372036854775808 ≤ B ∧ B ≤ 9223372036854775807) ∧ (0 ≤ V ∧ V ≤ 255)
/-- The cells of element i of a slice of Ops. -/
theorem op_cells {w : World} {A : Option Addr} {n : Nat} {F : Nat → Nat → Value} (r : Rd w A (n * 4) (fun q => F (q / 4) (q % 4))) (i : Nat) (hi : i < n) :
    ∃ b o, A = some ⟨b, o, none⟩ ∧ w.cell? ⟨b, o + i * 4, none⟩ = some (F i 0) ∧ w.cell? ⟨b, o + i * 4 + 1, none⟩ = some (F i 1) ∧ w.cell? ⟨b, o + i * 4 + 2, none⟩ = some (F i 2) ∧ w.cell? ⟨b, o + i * 4 + 3, none⟩ = some (F i 3) := by
  obtain ⟨b, o, e, h⟩ := r (by omega)
  have g : ∀ m, m < 4 → w.cell? ⟨b, o + i * 4 + m, none⟩ = some (F i m) := fun m hm => by
    have h1 := h (i * 4 + m) (by omega)
    have e1 : (i * 4 + m) / 4 = i := by omega
    have e2 : (i * 4 + m) % 4 = m := by omega
    simp only [e1, e2] at h1
    rw [← h1, Nat.add_assoc]
  exact ⟨b, o, e, g 0 (by omega), g 1 (by omega), g 2 (by omega), g 3 (by omega)⟩
/-- What a write to sector s answers. -/
def errS (s : Int) : Value := if 0 ≤ s ∧ s < 24 then .nilIface else .iface 37 (.int .i64 1)
/-- Sector s of S reads as v made it. -/
def Holds (s v : Int) (S : Nat → Int) : Prop := ∀ n : Nat, s = n → n < 24 → ∀ j, j < 160 → S (n * 160 + j) = someF v j
def FirstPost (s v : Int) (g : Nat) (w : World) (e : Ending) (w' : World) : Prop := ∃ S, e = .returned (errS s) ∧ ArrAt w' g S ∧ Holds s v S ∧ Keep [g] w w'
theorem write_first (g c : Nat) (A : Option Addr) (S : Nat → Int) (s v : Int) (w : World) (hr : ArrAt w g S) (ha : Rd w A 160 (fun j => .int .u8 (someF v j))) :
    Calls Try.prog 7 #[.pointer (some ⟨g, 0, none⟩), .int .i64 s, .slice A 160 c] w (FirstPost s v g w) := by
  by_cases h : 0 ≤ s ∧ s < 24
  · obtain ⟨n, rfl⟩ : ∃ n : Nat, s = n := ⟨s.toNat, by omega⟩
    refine (write_ok g n c A S (someF v) w (by omega) hr ha).mono ?_
    rintro e w' ⟨rfl, h1, h2⟩
    exact ⟨_, by rw [errS, if_pos h], h1, (fun m hm _ j hj => by
      have e : n = m := (by omega)
      subst e
      exact setSec_same _ _ _ _ hj), h2⟩
  · refine (write_arg g 160 c s A w (by omega)).mono ?_
    rintro e w' ⟨rfl, rfl⟩
    exact ⟨S, by rw [errS, if_neg h], hr, fun m hm _ => by omega, Keep.refl _ _⟩
theorem holds_set {s v : Int} {S : Nat → Int} (h : Holds s v S) (p : Nat) (hp : (p : Int) ≠ s) (f : Nat → Int) : Holds s v (setSec S p f) := fun n hn hn2 j hj => by
  rw [setSec_other _ _ _ _ _ hj (by omega)]
  exact h n hn hn2 j hj
set_option maxRecDepth 100000 in
set_option maxHeartbeats 4000000 in
theorem last_ok (A : Option Addr) (n c : Nat) (F : Nat → Nat → Value) (s v : Int) (w : World) (r : Rd w A (n * 4) (fun q => F (q / 4) (q % 4))) (hF : ∀ i, i < n → OpAt F i) (hn : n * 32 ≤ 140737488351232)
    (hs0 : -9223372036854775808 ≤ s) (hs1 : s ≤ 9223372036854775807) (hv0 : 0 ≤ v) (hv1 : v ≤ 255) :
    Calls Try.prog 3 #[.slice A n c, .int .i64 s, .int .u8 v] w fun e w' => e = .returned (.bool true) ∧ Keep [] w w' := by
  have he := fun (a b : Int) (w : World) => eq_err a b w
  have HR := Lib.hid r; have HF := Lib.hid hF
  clear r hF
  go_enter Try.func3, Try.ntmps3
  go_wp2_with fail
  refine (shown_ok _).mono ?_
  rintro e w0 ⟨rfl, k0⟩
  have K0 := Lib.hid k0; clear k0
  go_wp2_with fail
  refine (new_ok _).mono ?_
  rintro e w1 ⟨rfl, r1, k1⟩
  have R1 := Lib.hid r1; have K1 := Lib.hid (K0.out.trans k1); have G0 : w.heap.size ≤ w0.heap.size := K0.out.size
  clear r1 k1 K0
  generalize w0.heap.size = g at *
  go_wp2_with fail
  refine (some_ok v 160 _ (by omega) (by omega) (by omega)).mono ?_
  rintro e w2 ⟨rfl, r2, k2⟩
  have R2 := Lib.hid (Rd.of_row r2 (Nat.le_refl _)); have T2 : Hid (ArrAt w2 g (fun _ => 0)) := Row.keep R1.out k2 (fun h => by cases h); have K2 := Lib.hid (K1.out.trans k2)
  clear r2 k2 R1 K1
  go_wp2_with fail
  refine (write_first _ 160 _ _ s v _ T2.out R2.out).mono ?_
  rintro e w3 ⟨S3, rfl, r3, h3, k3⟩
  have T3 := Lib.hid r3; have H3 := Lib.hid h3; have K3 := Lib.hid (K2.out.then k3 (fun x hx => .inr (by rw [List.mem_singleton.1 hx]; exact G0)))
  clear r3 k3 h3 R2 T2 K2
  go_wp2_with fail
  go_loopw [10, 11, 12] (fun i _ _ wr => ∃ (k : Nat) (S : Nat → Int), k ≤ n ∧ i = .int .i64 k ∧ ArrAt wr g S ∧ Holds s v S ∧ Keep [] w wr) (fun i _ _ _ => n - (intOf i).toNat)
  case atStart => exact ⟨0, S3, by omega, rfl, T3.out, H3.out, K3.out⟩
  case round =>
    clear T3 H3 K3
    obtain ⟨k, S, hk, rfl, hr, hh, kk⟩ := hrel
    have TR := Lib.hid hr; have HH := Lib.hid hh; have KK := Lib.hid kk
    clear hr hh kk
    by_cases hlt : k < n
    · obtain ⟨b, o, rfl, c0, c1, c2, c3⟩ := op_cells (HR.out.keep0 KK.out) k hlt
      obtain ⟨K, A, B, V, f0, f1, f2, f3, hK, hA, hB, hV⟩ := HF.out k hlt
      rw [f0] at c0; rw [f1] at c1; rw [f3] at c3
      clear f0 f1 f2 f3 c2 hB B
      have hp := pickN_lt A 24 (by omega)
      go_wp2_with fail
      refine (pick_ok A 24 _ hA.1 hA.2 (by omega) (by omega)).mono ?_
      rintro e wp ⟨rfl, rfl⟩
      generalize pickN A 24 = p at *
      by_cases hps : (p : Int) = s
      · subst hps
        go_wp2
        go_roundw
        case rel => exact ⟨k + 1, S, by omega, by go_num, TR.out, HH.out, KK.out⟩
        case measure => simp [intOf] <;> omega
      · have hpb : ((p : Int) == s) = false := by simpa using hps
        have HP := Lib.hid hps
        clear hps
        by_cases hk2 : K.tmod 2 = 0
        · have hkb : (K.tmod 2 == 0) = true := by simpa using hk2
          clear hk2
          go_wp2_with (first
            | (go_at_call 8
               refine (some_ok V 160 _ hV.1 hV.2 (by omega)).mono ?_
               rintro e wa ⟨rfl, ra, ka⟩
               have RA := Lib.hid (Rd.of_row ra (Nat.le_refl _)); have TA : Hid (ArrAt wa g S) := Row.keep TR.out ka (fun h => by cases h); have KA := Lib.hid (KK.out.trans ka)
               clear ra ka)
            | (go_at_call 7
               refine (write_ok _ p 160 _ _ _ _ hp TA.out RA.out).mono ?_
               rintro e wb ⟨rfl, rb, kb⟩
               have TB := Lib.hid rb; have KB := Lib.hid (KA.out.then kb (fun x hx => .inr (by rw [List.mem_singleton.1 hx]; exact G0)))
               clear rb kb))
          go_roundw
          case rel => exact ⟨k + 1, _, by omega, by go_num, TB.out, holds_set HH.out p HP.out _, KB.out⟩
          case measure => simp [intOf] <;> omega
        · have hkb : (K.tmod 2 == 0) = false := by simpa using hk2
          clear hk2
          go_wp2_with (first
            | (go_at_call 10
               refine (trim_ok _ p _ _ hp TR.out).mono ?_
               rintro e wb ⟨rfl, rb, kb⟩
               have TB := Lib.hid rb; have KB := Lib.hid (KK.out.then kb (fun x hx => .inr (by rw [List.mem_singleton.1 hx]; exact G0)))
               clear rb kb))
          go_roundw
          case rel => exact ⟨k + 1, _, by omega, by go_num, TB.out, holds_set HH.out p HP.out _, KB.out⟩
          case measure => simp [intOf] <;> omega
    · obtain rfl : k = n := by omega
      by_cases hs : 0 ≤ s ∧ s < 24
      · have he9 : errS s = .nilIface := by rw [errS, if_pos hs]
        obtain ⟨q, rfl⟩ : ∃ q : Nat, s = q := ⟨s.toNat, by omega⟩
        have hq : q < 24 := by omega
        have hsm : sameB 160 160 (fun j => S (q * 160 + j)) (someF v) = true := sameB_yes rfl (fun j hj => HH.out q rfl hq j hj)
        have HS := Lib.hid hsm
        clear hs hsm
        rw [he9]
        go_wp2_with fail
        refine (read_ok _ q _ _ hq TR.out).mono ?_
        rintro e w4 ⟨X, c4, rfl, ly, hn4, k4⟩
        have L4 := Lib.hid ly; have K4 := Lib.hid (KK.out.trans k4)
        clear ly hn4 k4 TR KK
        go_wp2_with fail
        refine (some_ok v 160 _ (by omega) (by omega) (by omega)).mono ?_
        rintro e w6 ⟨rfl, r6, k6⟩
        have R6 := Lib.hid (Rd.of_row r6 (Nat.le_refl _)); have K6 := Lib.hid (K4.out.trans k6)
        have L6 := Lib.hid (L4.out.keep0 k6)
        clear r6 k6 K4 L4
        go_wp2_with fail
        refine (same_ok _ _ 160 160 _ _ _ _ _ L6.out.rd1 R6.out (by decide) (by decide)).mono ?_
        rintro e w7 ⟨rfl, m, rfl⟩
        rw [HS.out]
        go_wp2
        go_ret
        exact ⟨rfl, K6.out.drewN m⟩
      · have he9 : errS s = .iface 37 (.int .i64 1) := by rw [errS, if_neg hs]
        have hs2 : s < 0 ∨ 24 ≤ s := by omega
        clear hs
        rw [he9]
        rcases hs2 with hs2 | hs2
        all_goals
          go_wp2_with fail
          refine (read_arg _ _ _ (by omega)).mono ?_
          rintro e w4 ⟨rfl, rfl⟩
          go_wp2
          go_ret
          exact ⟨rfl, KK.out⟩
end Go.Proofs.Ytmffeofgcnabiaa
