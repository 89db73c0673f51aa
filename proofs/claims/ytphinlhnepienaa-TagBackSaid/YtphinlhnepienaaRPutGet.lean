/- The references of layer 3 (numbers) and the helpers of the statements. -/
import Derived.Test.YtphinlhnepienaaPutGet
namespace Go.Proofs.Ytphinlhnepienaa
open Go.RowKit
set_option linter.unusedVariables false

/-- What the reference's Put answers. -/
def RPutPost (v : Int) (n : Nat) (w : World) (e : Ending) (w' : World) : Prop :=
  ∃ x, e = .returned (.tuple #[x, .bool (v / 256 ^ n == 0)]) ∧ w'.ownsRow w.heap.size 5 1 x n ((List.range n).map fun j => .int .u8 (byteOf v j)) ∧ Keep [] w w'
set_option maxHeartbeats 1000000 in
theorem rput_ok (v : Int) (n : Nat) (w : World) (h0 : 0 ≤ v) (h1 : v ≤ 18446744073709551615) (hn8 : n ≤ 8) :
    Calls Try.prog 23 #[.int .u64 v, .int .i64 n] w (RPutPost v n w) := by
  obtain ⟨i0, hi, hz0, hz1, hz2⟩ := info_parts byte_info
  have hp : v = v / 256 ^ 0 := by simp
  have HP := Lib.hid hp; clear hp
  go_enter Try.func23, Try.ntmps23
  go_wp2
  go_loopw [0, 6, 7] (fun x vl i wr => ∃ (k : Nat) (l : Value), k ≤ n ∧ l = vl ∧ i = .int .i64 k ∧ x = .int .u64 (v / 256 ^ k) ∧ Keep [] w wr ∧ wr.ownsRow w.heap.size 5 1 l k ((List.range k).map fun j => .int .u8 (byteOf v j))) (fun _ _ i _ => n - (intOf i).toNat)
  case atStart => exact ⟨0, _, by omega, rfl, rfl, by rw [← HP.out], Keep.refl _ _, own_nil _ _ _⟩
  case round =>
    clear HP
    obtain ⟨k, l, hk, rfl, rfl, rfl, kk, own⟩ := hrel
    have hx0 : 0 ≤ v / 256 ^ k := Int.ediv_nonneg h0 (Int.le_of_lt (Int.pow_pos (by omega)))
    have hx1 : v / 256 ^ k ≤ 18446744073709551615 := Int.le_trans (Int.ediv_le_self _ h0) h1
    have HS := Lib.hid (pow_step v k)
    have HB : Hid (byteOf v k = v / 256 ^ k % 256) := rfl
    by_cases hlt : k < n
    · generalize v / 256 ^ k = x at hx0 hx1 HS HB
      have hsz := kk.size
      go_wp2_with (at_builtin
                   refine wpList_append_rd rfl (.tmp 13) (.tmp 17) 28 rfl w.heap.size 5 i0 _ 1 Try.underlying28 hi hz0 hz1 hz2 rfl l k _ rfl (own.alloc _) (some ⟨wr.heap.size, 0, none⟩) 1 1 (fun _ => .int .u8 (x % 256)) rfl (rd_one (heap_alloc_new _ _)) (Nat.le_refl _) (fun e => by cases e) (fun _ _ => rfl) (by simp only [maxLen]; omega) (by omega) (by simp; omega) ?_
                   intro v2 w2 own2 g2 at2
                   have k2 := (kk.alloc _).grown g2 (by
                     intro q hq
                     right
                     obtain ⟨A, c, rfl, _, ha⟩ := own_slice own
                     cases A with
                     | none => cases hq
                     | some a => injection hq with hq; subst hq; exact (ha a rfl).1)
                   clear own g2 at2 kk hsz)
      go_roundw
      case rel => exact ⟨k + 1, v2, by omega, rfl, by go_num, by rw [HS.out], k2, by
        have e := map_range_succ k (fun j => .int .u8 (byteOf v j))
        rw [← e, show (fun (_ : Nat) => Value.int .u8 (byteOf v k)) = fun _ => .int .u8 (x % 256) from by rw [HB.out]]
        exact own2⟩
      case measure => simp [intOf] <;> omega
    · obtain rfl : k = n := by omega
      generalize hx : v / 256 ^ k = x at hx0 hx1
      have HX := Lib.hid hx; clear hx
      go_wp2
      go_ret2
      exact ⟨l, ret_eq (by rw [HX.out]; rfl), own, kk⟩

theorem pow_le7 (k : Nat) (hk : k ≤ 7) : (256 : Int) ^ k ≤ 72057594037927936 := by
  have h : k = 0 ∨ k = 1 ∨ k = 2 ∨ k = 3 ∨ k = 4 ∨ k = 5 ∨ k = 6 ∨ k = 7 := by omega
  rcases h with rfl | rfl | rfl | rfl | rfl | rfl | rfl | rfl <;> decide
theorem numOf_ext (f g : Nat → Int) (n : Nat) (h : ∀ j, j < n → f j = g j) : numOf f n = numOf g n := by
  induction n generalizing f g with
  | zero => rfl
  | succ n ih => rw [numOf_succ, numOf_succ, h 0 (by omega), ih _ _ (fun j hj => h (j + 1) (by omega))]
set_option maxHeartbeats 1000000 in
theorem rget_ok (A : Option Addr) (n c : Nat) (f : Nat → Int) (w : World) (r : Rd w A n (fun j => .int .u8 (f j))) (hf : ∀ j, 0 ≤ f j ∧ f j ≤ 255) (hn8 : n ≤ 8) :
    Calls Try.prog 26 #[.slice A n c] w fun e w' => e = .returned (.int .u64 (numOf f n)) ∧ w = w' := by
  go_enter Try.func26, Try.ntmps26
  go_wp2
  go_loop [3, 4] (fun x i => ∃ m : Nat, m ≤ n ∧ i = .int .i64 ((m : Int) - 1) ∧ x = .int .u64 (numOf (fun j => f (m + j)) (n - m))) (fun _ i => (intOf i + 1).toNat)
  case atStart => exact ⟨n, by omega, rfl, by rw [Nat.sub_self]; rfl⟩
  case round =>
    obtain ⟨m, hm, rfl, rfl⟩ := hrel
    by_cases hlt : 0 < m
    · obtain ⟨k, rfl⟩ : ∃ k, m = k + 1 := ⟨m - 1, by omega⟩
      rw [show ((k + 1 : Nat) : Int) - 1 = (k : Int) from by omega]
      obtain ⟨b, o, rfl, hc⟩ := r (by omega)
      have hck : w.cell? ⟨b, o + k, none⟩ = some (.int .u8 (f k)) := hc k (by omega)
      clear hc r
      obtain ⟨f0, f1⟩ := hf k
      obtain ⟨x0, x1⟩ := numOf_bd (fun j => f (k + 1 + j)) (fun j => hf _) (n - (k + 1))
      have hx : numOf (fun j => f (k + 1 + j)) (n - (k + 1)) < 72057594037927936 := Int.lt_of_lt_of_le x1 (pow_le7 _ (by omega))
      have hs : numOf (fun j => f (k + j)) (n - k) = f k + 256 * numOf (fun j => f (k + 1 + j)) (n - (k + 1)) := by
        rw [show n - k = (n - (k + 1)) + 1 from by omega, numOf_succ]
        rw [numOf_ext (fun j => f (k + (j + 1))) (fun j => f (k + 1 + j)) _ (fun j _ => by rw [show k + (j + 1) = k + 1 + j from by omega])]
        rfl
      have HS := Lib.hid hs
      clear x1 hs
      generalize numOf (fun j => f (k + 1 + j)) (n - (k + 1)) = x at x0 hx HS
      generalize f k = y at f0 f1 hck HS
      go_wp2
      go_round
      case rel => exact ⟨k, by omega, by go_num, by rw [HS.out]; congr 1; omega⟩
      case measure => simp [intOf] <;> omega
    · obtain rfl : m = 0 := by omega
      have hs : numOf (fun j => f (0 + j)) (n - 0) = numOf f n := by
        rw [Nat.sub_zero]
        exact numOf_ext _ _ _ (fun j _ => by rw [Nat.zero_add])
      rw [hs]
      go_wp2
      go_ret
      exact ⟨rfl, rfl⟩
end Go.Proofs.Ytphinlhnepienaa
