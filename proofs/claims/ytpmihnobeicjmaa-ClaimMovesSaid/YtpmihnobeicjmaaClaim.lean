/- Layer 10: founds as cells; sound, Ahead. -/
import Derived.Test.YtpmihnobeicjmaaAgg
import Derived.Deep.RegionHeld3
namespace Go.Proofs.Ytpmihnobeicjmaa
open Go.RowKit
set_option linter.unusedVariables false
/-- A found: its place, its tag's place, number, seq and copy, and whether the tag was lost. -/
structure Fd where
  place : Int
  tp : Int
  of : Int
  seq : Int
  copy : Int
  lost : Bool
deriving DecidableEq
def Fd.zero : Fd := ⟨0, 0, 0, 0, 0, false⟩
instance : Inhabited Fd := ⟨Fd.zero⟩
/-- Its value: six cells. -/
def Fd.arr (f : Fd) : Array Value := #[.int .i64 f.place, .int .i64 f.tp, .int .i64 f.of, .int .i64 f.seq, .int .i64 f.copy, .bool f.lost]
def Fd.cell (f : Fd) (j : Nat) : Value := f.arr.getD j .nilIface
/-- The cells of a list of founds. -/
def fdF (L : List Fd) (q : Nat) : Value := (L.getD (q / 6) Fd.zero).cell (q % 6)
/-- Is a found sound? -/
def Fd.sound (f : Fd) : Bool := decide (0 ≤ f.place ∧ f.place ≤ 95 ∧ 0 ≤ f.of ∧ f.of ≤ 24 ∧ 0 ≤ f.seq ∧ f.seq ≤ 1099511627775 ∧ 0 ≤ f.copy ∧ f.copy ≤ 255)
/-- Its numbers are i64's. -/
def Fd.wf (f : Fd) : Prop := (-9223372036854775808 ≤ f.place ∧ f.place ≤ 9223372036854775807) ∧ (-9223372036854775808 ≤ f.tp ∧ f.tp ≤ 9223372036854775807) ∧ (-9223372036854775808 ≤ f.of ∧ f.of ≤ 9223372036854775807) ∧ (-9223372036854775808 ≤ f.seq ∧ f.seq ≤ 9223372036854775807) ∧ (-9223372036854775808 ≤ f.copy ∧ f.copy ≤ 9223372036854775807)
theorem found_info : (Try.prog.info? 28).map (fun i => (i.zero, i.size, i.bytes)) = some (some (.agg Fd.zero.arr), 6, 48) := by kernel_rfl
set_option maxHeartbeats 4000000 in
theorem sound_ok (f : Fd) (w : World) : Calls Try.prog 23 #[.agg f.arr] w fun e w' => e = .returned (.bool f.sound) ∧ Keep [] w w' := by
  unfold Fd.arr Fd.sound
  have hc : (0 ≤ f.place ∧ f.place ≤ 95 ∧ 0 ≤ f.of ∧ f.of ≤ 24 ∧ 0 ≤ f.seq ∧ f.seq ≤ 1099511627775 ∧ 0 ≤ f.copy ∧ f.copy ≤ 255) ∨ (0 ≤ f.place ∧ f.place ≤ 95 ∧ 0 ≤ f.of ∧ f.of ≤ 24 ∧ 0 ≤ f.seq ∧ f.seq ≤ 1099511627775 ∧ 0 ≤ f.copy ∧ 255 < f.copy) ∨
      (0 ≤ f.place ∧ f.place ≤ 95 ∧ 0 ≤ f.of ∧ f.of ≤ 24 ∧ 0 ≤ f.seq ∧ f.seq ≤ 1099511627775 ∧ f.copy < 0 ∧ (0 : Int) ≤ 0) ∨ (0 ≤ f.place ∧ f.place ≤ 95 ∧ 0 ≤ f.of ∧ f.of ≤ 24 ∧ 0 ≤ f.seq ∧ 1099511627775 < f.seq ∧ (0 : Int) ≤ 0 ∧ (0 : Int) ≤ 0) ∨
      (0 ≤ f.place ∧ f.place ≤ 95 ∧ 0 ≤ f.of ∧ f.of ≤ 24 ∧ f.seq < 0 ∧ (0 : Int) ≤ 0 ∧ (0 : Int) ≤ 0 ∧ (0 : Int) ≤ 0) ∨ (0 ≤ f.place ∧ f.place ≤ 95 ∧ 0 ≤ f.of ∧ 24 < f.of ∧ (0 : Int) ≤ 0 ∧ (0 : Int) ≤ 0 ∧ (0 : Int) ≤ 0 ∧ (0 : Int) ≤ 0) ∨
      (0 ≤ f.place ∧ f.place ≤ 95 ∧ f.of < 0 ∧ (0 : Int) ≤ 0 ∧ (0 : Int) ≤ 0 ∧ (0 : Int) ≤ 0 ∧ (0 : Int) ≤ 0 ∧ (0 : Int) ≤ 0) ∨ (0 ≤ f.place ∧ 95 < f.place ∧ (0 : Int) ≤ 0 ∧ (0 : Int) ≤ 0 ∧ (0 : Int) ≤ 0 ∧ (0 : Int) ≤ 0 ∧ (0 : Int) ≤ 0 ∧ (0 : Int) ≤ 0) ∨ (f.place < 0 ∧ (0 : Int) ≤ 0 ∧ (0 : Int) ≤ 0 ∧ (0 : Int) ≤ 0 ∧ (0 : Int) ≤ 0 ∧ (0 : Int) ≤ 0 ∧ (0 : Int) ≤ 0 ∧ (0 : Int) ≤ 0) := by omega
  rcases hc with ⟨h1, h2, h3, h4, h5, h6, h7, h8⟩ | ⟨h1, h2, h3, h4, h5, h6, h7, h8⟩ | ⟨h1, h2, h3, h4, h5, h6, h7, h8⟩ | ⟨h1, h2, h3, h4, h5, h6, h7, h8⟩ | ⟨h1, h2, h3, h4, h5, h6, h7, h8⟩ | ⟨h1, h2, h3, h4, h5, h6, h7, h8⟩ | ⟨h1, h2, h3, h4, h5, h6, h7, h8⟩ | ⟨h1, h2, h3, h4, h5, h6, h7, h8⟩ | ⟨h1, h2, h3, h4, h5, h6, h7, h8⟩
  all_goals
    first
      | rw [decide_eq_true (p := 0 ≤ f.place ∧ _) (by omega)]
      | rw [decide_eq_false (p := 0 ≤ f.place ∧ _) (by omega)]
    go_enter Try.func23, Try.ntmps23
    go_wp2
    go_ret
    refine ⟨?_, (Keep.refl _ _).alloc _⟩
    first
      | rfl
      | (simp; omega)
/-- Which of two copies is the elder. -/
def ahead (a b : Int) : Bool := decide (0 ≤ a ∧ a ≤ 255 ∧ 0 ≤ b ∧ b ≤ 255 ∧ 1 ≤ (b - a) % 256 ∧ (b - a) % 256 ≤ 127)
set_option maxHeartbeats 4000000 in
theorem ahead_ok (a b : Int) (w : World) : Calls Try.prog 9 #[.int .i64 a, .int .i64 b] w fun e w' => e = .returned (.bool (ahead a b)) ∧ w = w' := by
  unfold ahead
  have hc : (0 ≤ a ∧ a ≤ 255 ∧ 0 ≤ b ∧ b ≤ 255) ∨ (0 ≤ a ∧ a ≤ 255 ∧ 0 ≤ b ∧ 255 < b) ∨ (0 ≤ a ∧ a ≤ 255 ∧ b < 0 ∧ (0 : Int) ≤ 0) ∨ (0 ≤ a ∧ 255 < a ∧ (0 : Int) ≤ 0 ∧ (0 : Int) ≤ 0) ∨ (a < 0 ∧ (0 : Int) ≤ 0 ∧ (0 : Int) ≤ 0 ∧ (0 : Int) ≤ 0) := by omega
  rcases hc with ⟨h1, h2, h3, h4⟩ | hc
  · have hd : (b - a) % 256 < 1 ∨ (1 ≤ (b - a) % 256 ∧ (b - a) % 256 ≤ 127) ∨ (127 < (b - a) % 256 ∧ 1 ≤ (b - a) % 256) := by omega
    rcases hd with hd | ⟨hd, hd2⟩ | ⟨hd, hd2⟩
    all_goals
      first
        | rw [decide_eq_true (p := 0 ≤ a ∧ _) (by omega)]
        | rw [decide_eq_false (p := 0 ≤ a ∧ _) (by omega)]
      go_enter Try.func9, Try.ntmps9
      go_wp2
      go_ret
      refine ⟨?_, rfl⟩
      first
        | rfl
        | (simp; omega)
  · rcases hc with ⟨h1, h2, h3, h4⟩ | ⟨h1, h2, h3, h4⟩ | ⟨h1, h2, h3, h4⟩ | ⟨h1, h2, h3, h4⟩
    all_goals
      rw [decide_eq_false (p := 0 ≤ a ∧ _) (by omega)]
      go_enter Try.func9, Try.ntmps9
      go_wp2
      go_ret
      refine ⟨?_, rfl⟩
      first
        | rfl
        | (simp; omega)
end Go.Proofs.Ytpmihnobeicjmaa
