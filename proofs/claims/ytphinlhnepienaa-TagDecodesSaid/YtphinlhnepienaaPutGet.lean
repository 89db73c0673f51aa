/- The numbers of layer 3 as bytes: Put, Get, Apart of the program, and of the references. -/
import Derived.Test.YtphinlhnepienaaErr
import Derived.Test.YtphinlhnepienaaSlice
namespace Go.Proofs.Ytphinlhnepienaa
open Go.RowKit
set_option linter.unusedVariables false

/-- The j-th byte of a number. -/
def byteOf (v : Int) (j : Nat) : Int := v / 256 ^ j % 256
theorem byteOf_bd (v : Int) (j : Nat) : 0 ≤ byteOf v j ∧ byteOf v j ≤ 255 := by unfold byteOf; omega
theorem pow_step (v : Int) (k : Nat) : v / 256 ^ (k + 1) = v / 256 ^ k / 256 := by
  rw [Int.pow_succ, Int.ediv_ediv_of_nonneg (by exact Int.le_of_lt (Int.pow_pos (by omega)))]

/-- What Put answers, of a size from 1 to 8. -/
def PutPost (v : Int) (n : Nat) (w : World) (e : Ending) (w' : World) : Prop :=
  Keep [] w w' ∧ ((v / 256 ^ n = 0 ∧ e = .returned (.tuple #[.slice (some ⟨w.heap.size, 0, none⟩) n n, .nilIface]) ∧ Row w' w.heap.size 5 n (fun j => .int .u8 (byteOf v j)))
    ∨ (v / 256 ^ n ≠ 0 ∧ e = .returned (.tuple #[.slice none 0 0, .iface 32 (.int .i64 2)])))
set_option maxHeartbeats 1000000 in
theorem put_any (v : Int) (n : Nat) (w : World) (h0 : 0 ≤ v) (h1 : v ≤ 18446744073709551615) (hn : 1 ≤ n) (hn8 : n ≤ 8) :
    Calls Try.prog 28 #[.int .u64 v, .int .i64 n] w (PutPost v n w) := by
  have hmk := run_make_row' (P := Try.prog) 28 5 (.int .u8 0) 1 Try.underlying28 byte_info rfl .i64 .i64 n (by omega) (by omega)
  go_enter Try.func28, Try.ntmps28
  go_wp2
  have R := Row.made w 5 (.int .u8 0) n
  have kk := (Keep.refl [] w).alloc (.cells (madeCells #[.int .u8 0] n) 5)
  have hp : v = v / 256 ^ 0 := by simp
  have HP := Lib.hid hp; clear hp
  go_loopw [0, 19] (fun x i wr => ∃ k : Nat, k ≤ n ∧ i = .int .i64 k ∧ x = .int .u64 (v / 256 ^ k) ∧ Keep [] w wr ∧ Row wr w.heap.size 5 n (fun j => .int .u8 (if j < k then byteOf v j else 0))) (fun _ i _ => n - (intOf i).toNat)
  case atStart => exact ⟨0, by omega, rfl, by rw [← HP.out], kk, R.congr (fun j hj => by simp)⟩
  case round =>
    clear R kk HP
    obtain ⟨k, hk, rfl, rfl, kk, R⟩ := hrel
    have hx0 : 0 ≤ v / 256 ^ k := Int.ediv_nonneg h0 (Int.le_of_lt (Int.pow_pos (by omega)))
    have hx1 : v / 256 ^ k ≤ 18446744073709551615 := Int.le_trans (Int.ediv_le_self _ h0) h1
    have HS := Lib.hid (pow_step v k)
    have HB : Hid (byteOf v k = v / 256 ^ k % 256) := rfl
    by_cases hlt : k < n
    · have hc := R.cell k hlt
      have hz := R.free k
      generalize v / 256 ^ k = x at hx0 hx1 HS HB
      go_wp2
      go_roundw
      case rel => exact ⟨k + 1, by omega, by go_num, by rw [HS.out], kk.setCell _ _ (.inr (Nat.le_refl _)), (R.set_int _ _).congr (fun j hj => by
        by_cases h : j = k
        · subst h
          rw [if_pos rfl, if_pos (by omega), HB.out]
        · rw [if_neg h]
          by_cases h2 : j < k
          · rw [if_pos h2, if_pos (by omega)]
          · rw [if_neg h2, if_neg (by omega)])⟩
      case measure => simp [intOf] <;> omega
    · obtain rfl : k = n := by omega
      by_cases hv : v / 256 ^ k = 0
      · have HV := Lib.hid hv
        rw [hv]
        clear hv
        go_wp2
        go_ret2
        exact ⟨kk, .inl ⟨HV.out, rfl, R.congr (fun j hj => by rw [if_pos hj])⟩⟩
      · have HV := Lib.hid hv
        have hb : (v / 256 ^ k == 0) = false := beq_eq_false_iff_ne.2 hv
        clear hv
        generalize v / 256 ^ k = x at hx0 hx1 hb
        go_wp2
        go_ret2
        exact ⟨kk, .inr ⟨HV.out, rfl⟩⟩
set_option maxHeartbeats 1000000 in
theorem put_arg (v n : Int) (w : World) (hn : n < 1 ∨ 8 < n) :
    Calls Try.prog 28 #[.int .u64 v, .int .i64 n] w fun e w' => e = .returned (.tuple #[.slice none 0 0, .iface 32 (.int .i64 1)]) ∧ w = w' := by
  rcases hn with hn | hn
  · go_enter Try.func28, Try.ntmps28
    go_wp2
    go_ret2
    exact ⟨rfl, rfl⟩
  · go_enter Try.func28, Try.ntmps28
    go_wp2
    go_ret2
    exact ⟨rfl, rfl⟩

/-- The number of n bytes, the lowest first. -/
def numOf (f : Nat → Int) : Nat → Int
  | 0 => 0
  | n + 1 => f 0 + 256 * numOf (fun j => f (j + 1)) n
theorem numOf_bd (f : Nat → Int) (hf : ∀ j, 0 ≤ f j ∧ f j ≤ 255) (n : Nat) : 0 ≤ numOf f n ∧ numOf f n < 256 ^ n := by
  induction n generalizing f with
  | zero => simp [numOf]
  | succ n ih =>
    have := ih (fun j => f (j + 1)) (fun j => hf (j + 1))
    have := hf 0
    rw [Int.pow_succ]
    unfold numOf
    omega
theorem numOf_succ (f : Nat → Int) (n : Nat) : numOf f (n + 1) = f 0 + 256 * numOf (fun j => f (j + 1)) n := rfl
theorem numOf_snoc (f : Nat → Int) (n : Nat) : numOf f (n + 1) = numOf f n + f n * 256 ^ n := by
  induction n generalizing f with
  | zero => simp [numOf]
  | succ n ih =>
    have h := ih (fun j => f (j + 1))
    rw [numOf_succ f (n + 1), numOf_succ f n, h, Int.pow_succ, ← Int.mul_assoc]
    generalize f (n + 1) * 256 ^ n = y
    omega
theorem or_disj (a b : Nat) (k : Nat) (ha : a < 2 ^ k) : a ||| (b * 2 ^ k) = a + b * 2 ^ k := by
  rw [Nat.or_comm, ← Nat.shiftLeft_eq, ← Nat.shiftLeft_add_eq_or_of_lt ha, Nat.add_comm]

theorem wraps_u64 (n : Int) (h₀ : 0 ≤ n) (h₁ : n < 2 ^ 64) : IntKind.u64.wrap n = n := by
  have : (2 : Int) ^ 64 = 18446744073709551616 := by decide
  simp only [IntKind.wrap, IntKind.bits, IntKind.signed]
  simp
  omega
theorem get_step (x y : Int) (k : Nat) (hk : k ≤ 7) (hx : 0 ≤ x) (hx1 : x < 256 ^ k) (hy : 0 ≤ y) (hy1 : y ≤ 255) :
    bits .or .u64 x (IntKind.u64.wrap (y * 2 ^ (8 * k))) = x + y * 256 ^ k := by
  have e64 : (2 : Int) ^ 64 = 18446744073709551616 := by decide
  obtain ⟨a, rfl⟩ := Int.eq_ofNat_of_zero_le hx
  obtain ⟨b, rfl⟩ := Int.eq_ofNat_of_zero_le hy
  have hp : (256 : Int) ^ k = 2 ^ (8 * k) := by rw [Int.pow_mul]; rfl
  rw [hp] at hx1 ⊢
  have ha : a < 2 ^ (8 * k) := by exact_mod_cast hx1
  have hle : 2 ^ (8 * k) ≤ 2 ^ 56 := Nat.pow_le_pow_right (by omega) (by omega)
  have hb : b * 2 ^ (8 * k) < 2 ^ 64 := by
    have h1 : b * 2 ^ (8 * k) ≤ 255 * 2 ^ (8 * k) := Nat.mul_le_mul_right _ (by omega)
    have : (2 : Nat) ^ 56 = 72057594037927936 := by decide
    have : (2 : Nat) ^ 64 = 18446744073709551616 := by decide
    omega
  have hlt : a < 2 ^ 64 := by
    have : (2 : Nat) ^ 56 = 72057594037927936 := by decide
    have : (2 : Nat) ^ 64 = 18446744073709551616 := by decide
    omega
  have hc : ((b : Int) * 2 ^ (8 * k)) = ((b * 2 ^ (8 * k) : Nat) : Int) := by simp
  rw [hc, wraps_u64 _ (by omega) (by rw [e64]; have : (2 : Nat) ^ 64 = 18446744073709551616 := by decide
                                     omega)]
  rw [(bits_nat .u64 64 (by decide) wraps_u64 a _ hlt hb).2, or_disj a b (8 * k) ha]
  simp
set_option maxHeartbeats 1000000 in
theorem get_ok (A : Option Addr) (n c : Nat) (f : Nat → Int) (w : World) (r : Rd w A n (fun j => .int .u8 (f j))) (hf : ∀ j, 0 ≤ f j ∧ f j ≤ 255) (hn : 1 ≤ n) (hn8 : n ≤ 8) :
    Calls Try.prog 24 #[.slice A n c] w fun e w' => e = .returned (.tuple #[.int .u64 (numOf f n), .nilIface]) ∧ w = w' := by
  obtain ⟨b, o, rfl, hc⟩ := r (by omega)
  go_enter Try.func24, Try.ntmps24
  go_wp2
  go_loop [4, 18] (fun x i => ∃ k : Nat, k ≤ n ∧ i = .int .i64 k ∧ x = .int .u64 (numOf f k)) (fun _ i => n - (intOf i).toNat)
  case atStart => exact ⟨0, by omega, rfl, rfl⟩
  case round =>
    obtain ⟨k, hk, rfl, rfl⟩ := hrel
    by_cases hlt : k < n
    · have hck := hc k hlt
      obtain ⟨f0, f1⟩ := hf k
      obtain ⟨x0, x1⟩ := numOf_bd f hf k
      have HX := Lib.hid x1; clear x1
      have HN := Lib.hid (numOf_snoc f k)
      have HS := Lib.hid (get_step (numOf f k) (f k) k (by omega) x0 HX.out f0 f1)
      generalize numOf f k = x at x0 HX HN HS
      clear hc
      generalize f k = y at f0 f1 HN hck HS
      go_wp2
      go_round
      case rel => exact ⟨k + 1, by omega, by go_num, by rw [HN.out, HS.out]⟩
      case measure => simp [intOf] <;> omega
    · obtain rfl : k = n := by omega
      go_wp2
      go_ret2
      exact ⟨rfl, rfl⟩

set_option maxHeartbeats 1000000 in
theorem get_arg (A : Option Addr) (n c : Nat) (w : World) (hn : n < 1 ∨ 8 < n) (hm : n ≤ maxLen) :
    Calls Try.prog 24 #[.slice A n c] w fun e w' => e = .returned (.tuple #[.int .u64 0, .iface 32 (.int .i64 1)]) ∧ w = w' := by
  unfold maxLen at hm
  rcases hn with hn | hn
  · obtain rfl : n = 0 := by omega
    go_enter Try.func24, Try.ntmps24
    go_wp2
    go_ret2
    exact ⟨rfl, rfl⟩
  · go_enter Try.func24, Try.ntmps24
    go_wp2
    go_ret2
    exact ⟨rfl, rfl⟩
end Go.Proofs.Ytphinlhnepienaa
