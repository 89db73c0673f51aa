/- The walks of WirePuts, WireGets, WireAparts. -/
import Derived.Test.YtefbmimbeimlaaaWireUp
namespace Go.Proofs.Ytefbmimbeimlaaa
open Go.RowKit
set_option linter.unusedVariables false
set_option maxHeartbeats 2000000 in
theorem puts_walk (v n : Int) (w : World) (h0 : 0 ≤ v) (h1 : v ≤ 18446744073709551615) (hn0 : -9223372036854775808 ≤ n) (hn1 : n ≤ 9223372036854775807) :
    Calls Try.prog 3 #[.int .u64 v, .int .i64 n] w fun e w' => e = .returned (.bool true) ∧ Keep [] w w' := by
  have he := fun (a b : Int) (w : World) => eq_err a b w
  by_cases hn : n < 1 ∨ 8 < n
  · rcases hn with hn' | hn'
    all_goals
      have hn : n < 1 ∨ 8 < n := by omega
      go_enter Try.func3, Try.ntmps3
      go_wp2_with fail
      refine (shown_ok _).mono ?_
      rintro e w1 ⟨rfl, k1⟩
      go_wp2_with fail
      refine (put_arg v n _ hn).mono ?_
      rintro e w2 ⟨rfl, rfl⟩
      clear hn
      go_wp2
      go_ret
      exact ⟨rfl, k1⟩
  · obtain ⟨m, rfl⟩ := Int.eq_ofNat_of_zero_le (show 0 ≤ n by omega)
    have hm0 : 1 ≤ m := by omega
    have hm1 : m ≤ 8 := by omega
    clear hn
    go_enter Try.func3, Try.ntmps3
    go_wp2_with fail
    refine (shown_ok _).mono ?_
    rintro e w1 ⟨rfl, k1⟩
    go_wp2_with fail
    refine (put_any v m _ h0 h1 hm0 hm1).mono ?_
    rintro e w2 ⟨k2, ⟨hv, rfl, R⟩ | ⟨hv, rfl⟩⟩
    · have hv2 : (v / 256 ^ m == 0) = true := beq_iff_eq.2 hv
      have HV := Lib.hid hv2; clear hv hv2
      have k12 := k1.trans k2
      have hsz := k1.size
      clear k1 k2
      go_wp2_with fail
      refine (rput_ok v m _ h0 h1 hm1).mono ?_
      rintro e w3 ⟨x, rfl, own, k3⟩
      rw [HV.out]
      obtain ⟨A, c, rfl, q, _⟩ := own_slice own
      have R3 := R.keep k3 (by simp)
      have k13 := k12.trans k3
      have r2 : Rd w3 A m (fun j => .int .u8 (byteOf v j)) := q.rd.congr (fun j hj => by
        have := getD_range m (fun j => Value.int .u8 (byteOf v j)) .nilIface j hj
        simpa using this)
      have HS := Lib.hid (sameB_yes (n0 := m) (n1 := m) (f := byteOf v) (g := byteOf v) rfl (fun _ _ => rfl))
      clear own q R k3 k12
      go_wp2_with fail
      refine (same_ok _ _ m m m c (byteOf v) (byteOf v) _ (by exact Rd.of_row R3 (Nat.le_refl _)) (by exact r2) (by unfold maxLen; omega) (by unfold maxLen; omega)).mono ?_
      rintro e w6 ⟨rfl, n, rfl⟩
      rw [HS.out]
      go_wp2
      go_ret
      exact ⟨rfl, k13.drewN _⟩
    · have hv2 : (v / 256 ^ m == 0) = false := beq_eq_false_iff_ne.2 hv
      have HV := Lib.hid hv2; clear hv hv2
      have k12 := k1.trans k2
      clear k1 k2
      go_wp2_with fail
      refine (rput_ok v m _ h0 h1 hm1).mono ?_
      rintro e w3 ⟨x, rfl, own, k3⟩
      rw [HV.out]
      have k13 := k12.trans k3
      clear own k12 k3
      go_wp2
      go_ret
      exact ⟨rfl, k13⟩
set_option maxHeartbeats 2000000 in
theorem gets_walk (A : Option Addr) (n c : Nat) (f : Nat → Int) (w : World) (r : SlArg w A n c (fun j => .int .u8 (f j))) (hf : ∀ j, 0 ≤ f j ∧ f j ≤ 255) (hl : n * 1 ≤ 140737488351232) :
    Calls Try.prog 4 #[.slice A n c] w fun e w' => e = .returned (.bool true) ∧ Keep [] w w' := by
  have he := fun (a b : Int) (w : World) => eq_err a b w
  by_cases hn : n < 1 ∨ 8 < n
  · rcases hn with hn' | hn'
    all_goals
      have hn : n < 1 ∨ 8 < n := by omega
      go_enter Try.func4, Try.ntmps4
      go_wp2_with fail
      refine (shown_ok _).mono ?_
      rintro e w1 ⟨rfl, k1⟩
      go_wp2_with fail
      refine (get_arg A n c _ hn (by unfold maxLen; omega)).mono ?_
      rintro e w2 ⟨rfl, rfl⟩
      clear hn
      go_wp2
      go_ret
      exact ⟨rfl, k1⟩
  · have hm0 : 1 ≤ n := by omega
    have hm1 : n ≤ 8 := by omega
    clear hn
    go_enter Try.func4, Try.ntmps4
    go_wp2_with fail
    refine (shown_ok _).mono ?_
    rintro e w1 ⟨rfl, k1⟩
    have r1 := r.rd.keep0 k1
    go_wp2_with fail
    refine (get_ok A n c f _ (by exact r1) hf hm0 hm1).mono ?_
    rintro e w2 ⟨rfl, rfl⟩
    go_wp2_with (go_at_call 13; refine (rget_ok A n c f _ (by exact r1) hf hm1).mono ?_; rintro e w3 ⟨rfl, rfl⟩)
    go_ret
    exact ⟨rfl, k1⟩
set_option maxHeartbeats 2000000 in
theorem aparts_walk (A0 A1 : Option Addr) (n0 n1 c0 c1 : Nat) (f g : Nat → Int) (w : World) (r0 : SlArg w A0 n0 c0 (fun j => .int .u8 (f j))) (r1 : SlArg w A1 n1 c1 (fun j => .int .u8 (g j))) (h0 : n0 * 1 ≤ 140737488351232) (h1 : n1 * 1 ≤ 140737488351232) :
    Calls Try.prog 5 #[.slice A0 n0 c0, .slice A1 n1 c1] w fun e w' => e = .returned (.bool true) ∧ Keep [] w w' := by
  have he := fun (a b : Int) (w : World) => eq_err a b w
  by_cases hn : n0 = n1
  · subst hn
    have hc := apartOf_comm g f n0
    have HC := Lib.hid hc; clear hc
    go_enter Try.func5, Try.ntmps5
    go_wp2_with fail
    refine (shown_ok _).mono ?_
    rintro e w1 ⟨rfl, k1⟩
    have s0 := r0.rd.keep0 k1
    have s1 := r1.rd.keep0 k1
    go_wp2_with fail
    refine (apart_ok A0 A1 n0 c0 c1 f g _ (by exact s0) (by exact s1) (by omega)).mono ?_
    rintro e w2 ⟨rfl, rfl⟩
    go_wp2_with fail
    refine (apart_ok A1 A0 n0 c1 c0 g f _ (by exact s1) (by exact s0) (by omega)).mono ?_
    rintro e w2 ⟨rfl, rfl⟩
    rw [HC.out]
    go_wp2_with (go_at_call 15; refine (rapart_ok A0 A1 n0 c0 c1 f g _ (by exact s0) (by exact s1) (by omega)).mono ?_; rintro e w3 ⟨rfl, m, rfl⟩)
    go_ret
    exact ⟨rfl, k1.drewN _⟩
  · go_enter Try.func5, Try.ntmps5
    go_wp2_with fail
    refine (shown_ok _).mono ?_
    rintro e w1 ⟨rfl, k1⟩
    go_wp2_with fail
    refine (apart_arg A0 A1 n0 n1 c0 c1 _ (by unfold maxLen; omega) (by unfold maxLen; omega) hn).mono ?_
    rintro e w2 ⟨rfl, rfl⟩
    go_wp2
    go_ret
    exact ⟨rfl, k1⟩
end Go.Proofs.Ytefbmimbeimlaaa
