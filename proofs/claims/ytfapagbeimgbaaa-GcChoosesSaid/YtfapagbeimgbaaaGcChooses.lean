/- The walk of GcChooses: any lists. -/
import Derived.Test.YtfapagbeimgbaaaGcUp
namespace Go.Proofs.Ytfapagbeimgbaaa
open Go.RowKit
set_option linter.unusedVariables false
set_option maxHeartbeats 2000000 in
theorem chooses_walk (A0 A1 : Option Addr) (n0 n1 c0 c1 : Nat) (s l : Nat → Int) (w : World) (r0 : SlArg w A0 n0 c0 (fun j => .int .i64 (s j))) (r1 : SlArg w A1 n1 c1 (fun j => .int .i64 (l j)))
    (h0 : n0 * 8 ≤ 140737488351232) (h1 : n1 * 8 ≤ 140737488351232) :
    Calls Try.prog 3 #[.slice A0 n0 c0, .slice A1 n1 c1] w fun e w' => e = .returned (.bool true) ∧ Keep [] w w' := by
  obtain ⟨i0, hi, hz0, hz1, hz2⟩ := info_parts int_info
  have HE := Lib.hid (chE_le n0 n1 s l)
  have h0m : n0 ≤ maxLen := by unfold maxLen; omega
  have h1m : n1 ≤ maxLen := by unfold maxLen; omega
  go_enter Try.func3, Try.ntmps3
  go_wp2_with fail
  refine (up_ok _).mono ?_
  rintro e w1 ⟨rfl, k1⟩
  have s0 := r0.rd.keep0 k1
  have s1 := r1.rd.keep0 k1
  go_wp2_with (first
    | (at_builtin
       refine wpList_append_rd (w := w1) rfl (.tmp 19) (.tmp 20) 22 rfl w.heap.size 3 i0 _ 8 Try.underlying22 hi hz0 hz1 hz2 rfl (.slice none 0 0) 0 [] rfl (own_nil _ _ _) A0 n0 c0 _ rfl s0 r0.le r0.none_ (fun _ _ => rfl) (by omega) (by omega) k1.size ?_
       intro v2 w2 own2 g2 at2
       have k2 := k1.grown g2 (by simp [Value.ownBlock]))
    | (at_builtin
       refine wpList_append_rd (w := w2) rfl (.tmp 22) (.tmp 23) 22 rfl w.heap.size 3 i0 _ 8 Try.underlying22 hi hz0 hz1 hz2 rfl (.slice none 0 0) 0 [] rfl (own_nil _ _ _) A1 n1 c1 _ rfl (r1.rd.keep0 k2) r1.le r1.none_ (fun _ _ => rfl) (by omega) (by omega) k2.size ?_
       intro v3 w3 own3 g3 at3
       have k3 := k2.grown g3 (by simp [Value.ownBlock])
       clear k1 s0 s1
       obtain ⟨A2, c2, rfl, q2, _⟩ := own_slice own2
       obtain ⟨A3, c3, rfl, q3, _⟩ := own_slice own3
       have t2 : Rd w3 A2 (0 + n0) (fun j => .int .i64 (s j)) := (q2.rd.congr (fun j hj => getD_range n0 _ _ j (by omega))).keep0 ((Keep.refl [] w2).grown g3 (by simp [Value.ownBlock]))
       have t3 : Rd w3 A3 (0 + n1) (fun j => .int .i64 (l j)) := q3.rd.congr (fun j hj => getD_range n1 _ _ j (by omega))
       have t0 := r0.rd.keep0 k3
       have t1 := r1.rd.keep0 k3
       clear own2 own3 g2 g3 at2 at3 q2 q3 k2
       rw [Nat.zero_add] at t2 t3)
    | (go_at_call 6
       refine (choose_any A2 A3 n0 n1 c2 c3 s l _ (by exact t2) (by exact t3) h0m h1m).mono ?_
       rintro e w4 ⟨rfl, n4, rfl⟩)
    | (go_at_call 7
       refine (gain_any A2 A3 n0 n1 c2 c3 s l _ (by exact t2) (by exact t3) h0m h1m).mono ?_
       rintro e w4 ⟨rfl, n5, rfl⟩)
    | (go_at_call 8
       refine (rchoose_any A0 A1 n0 n1 c0 c1 s l _ (by exact t0) (by exact t1) h0m h1m).mono ?_
       rintro e w4 ⟨rfl, n6, rfl⟩)
    | (go_at_call 9
       refine (rgain_any A0 A1 n0 n1 c0 c1 s l _ (by exact t0) (by exact t1) h0m h1m).mono ?_
       rintro e w4 ⟨rfl, n7, rfl⟩))
  have hn0 : n0 ≤ 17592186044416 := by omega
  have hn1 : n1 ≤ 17592186044416 := by omega
  clear r0 r1 h0 h1 h0m h1m hi hz0 hz1 hz2
  go_loopw [16] (fun i wr => ∃ k : Nat, k ≤ n0 ∧ i = .int .i64 k ∧ Drawn w3 wr) (fun i _ => n0 - (intOf i).toNat)
  case atStart => exact ⟨0, by omega, rfl, Drawn.of _ _⟩
  case round =>
    obtain ⟨k, hk, rfl, m, rfl⟩ := hrel
    by_cases hlt : k < n0
    · obtain ⟨b0, o0, rfl, d0⟩ := t0 (by omega)
      obtain ⟨b2, o2, rfl, d2⟩ := t2 (by omega)
      have e0 := d0 k hlt
      have e2 := d2 k hlt
      go_wp2
      go_quiet (fail)
      go_wp2
      go_roundw
      case rel => exact ⟨k + 1, by omega, by go_num, Drawn.of _ _⟩
      case measure => simp [intOf] <;> omega
    · go_wp2
      go_loopw [17] (fun i wr => ∃ k : Nat, k ≤ n1 ∧ i = .int .i64 k ∧ Drawn w3 wr) (fun i _ => n1 - (intOf i).toNat)
      case atStart => exact ⟨0, by omega, rfl, Drawn.of _ _⟩
      case round =>
        obtain ⟨j, hj, rfl, m', rfl⟩ := hrel
        by_cases hlt' : j < n1
        · obtain ⟨b0, o0, rfl, d0⟩ := t1 (by omega)
          obtain ⟨b2, o2, rfl, d2⟩ := t3 (by omega)
          have e0 := d0 j hlt'
          have e2 := d2 j hlt'
          go_wp2
          go_quiet (fail)
          go_wp2
          go_roundw
          case rel => exact ⟨j + 1, by omega, by go_num, Drawn.of _ _⟩
          case measure => simp [intOf] <;> omega
        · go_wp2_with (go_at_call 10; refine (code_any _ HE.out.1 HE.out.2 _).mono ?_; rintro e w' ⟨rfl, rfl⟩)
          go_ret
          exact ⟨rfl, k3.drewN _⟩
end Go.Proofs.Ytfapagbeimgbaaa
