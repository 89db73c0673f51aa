/- once.Do(f.make): the tables are filled once. -/
import Derived.Test.YtikjedefbflklaaField
import Derived.Test.YtikjedefbflklaaOnce
namespace Go.Proofs.Ytikjedefbflklaa
open Go.RowKit
set_option linter.unusedVariables false
attribute [local irreducible] GF.pw GF.lg GF.mul GF.inv GF.xt
theorem put_st (d st : Int) (ke kl : Nat) (s : Int) (j : Nat) : put (mcell d st ke kl) 1 (.int .i32 s) j = mcell d s ke kl j := by
  unfold put
  by_cases h : j = 1
  · subst h; rfl
  · rw [if_neg h]
    unfold mcell
    by_cases h0 : j = 0
    · rw [if_pos h0, if_pos h0]
    · rw [if_neg h0, if_neg h0, if_neg h, if_neg h]
theorem put_d (d st : Int) (ke kl : Nat) (s : Int) (j : Nat) : put (mcell d st ke kl) 0 (.int .u32 s) j = mcell s st ke kl j := by
  unfold put
  by_cases h : j = 0
  · subst h; rfl
  · rw [if_neg h]
    unfold mcell
    rw [if_neg h, if_neg h]
def SlowPost (g : Nat) (w : World) (e : Ending) (w' : World) : Prop := e = .returned (.tuple #[]) ∧ Fr9 w' g 1 0 255 255 ∧ Keep [g] w w'
set_option maxRecDepth 100000 in
set_option maxHeartbeats 1600000 in
theorem slow_first (g : Nat) (w : World) (r : Fr9 w g 0 0 0 0) : Calls Try.prog 33 #[.pointer (some ⟨g, 0, none⟩), .func (.func 31) #[.pointer (some ⟨g, 0, none⟩)] #[]] w (SlowPost g w) := by
  have r1 : Fr9 (w.setCell ⟨g, 1, none⟩ (.int .i32 1)) g 0 1 0 0 := (r.set 1 (.int .i32 1)).congr (fun j _ => put_st 0 0 0 0 1 j)
  have k1 : Keep [g] w (w.setCell ⟨g, 1, none⟩ (.int .i32 1)) := Keep.set g 1 _
  have c1 : w.cell? ⟨g, 1, none⟩ = some (.int .i32 0) := r.cell 1 (by omega)
  have z1 : w.frozen? ⟨g, 1, none⟩ = false := r.free 1
  have c0 : (w.setCell ⟨g, 1, none⟩ (.int .i32 1)).cell? ⟨g, 0, none⟩ = some (.int .u32 0) := r1.cell 0 (by omega)
  have hl := run_call_load (P := Try.prog) Try.func34 (by kernel_rfl) (by kernel_rfl) (by kernel_rfl) .u32 (by kernel_rfl) c0
  have hnot : ∀ (x : Bool) (w : World), (Op.unary .not (.bool x)).run Try.prog w = .ok (.bool (!x)) w := fun _ _ => rfl
  have R := Lib.hid r; have R1 := Lib.hid r1; have K1 := Lib.hid k1
  clear r r1 k1
  go_enter_defers Try.func33, Try.ntmps33
  go_wp2_with (first
    | (go_at_call 35; refine (lock_free ⟨g, 1, none⟩ _ c1 z1).mono ?_; rintro e w' ⟨rfl, rfl⟩)
    | (go_at_call 31; refine ((make_ok _ g 0 1 R1.out).2).mono ?_; rintro e w2 ⟨v, rfl, rfl, r2, k2⟩)
    | (go_at_call 32; go_in))
  have c20 : w2.cell? ⟨g, 0, none⟩ = some (.int .u32 0) := r2.cell 0 (by omega)
  have z20 : w2.frozen? ⟨g, 0, none⟩ = false := r2.free 0
  have r3 : Fr9 (w2.drew.setCell ⟨g, 0, none⟩ (.int .u32 1)) g 1 1 255 255 := ((r2.drewN 1).set 0 (.int .u32 1)).congr (fun j _ => put_d 0 1 255 255 1 j)
  have c31 : (w2.drew.setCell ⟨g, 0, none⟩ (.int .u32 1)).cell? ⟨g, 1, none⟩ = some (.int .i32 1) := r3.cell 1 (by omega)
  have z31 : (w2.drew.setCell ⟨g, 0, none⟩ (.int .u32 1)).frozen? ⟨g, 1, none⟩ = false := r3.free 1
  have r4 : Fr9 ((w2.drew.setCell ⟨g, 0, none⟩ (.int .u32 1)).setCell ⟨g, 1, none⟩ (.int .i32 0)) g 1 0 255 255 := (r3.set 1 (.int .i32 0)).congr (fun j _ => put_st 1 1 255 255 0 j)
  have k4 : Keep [g] w ((w2.drew.setCell ⟨g, 0, none⟩ (.int .u32 1)).setCell ⟨g, 1, none⟩ (.int .i32 0)) := (((K1.out.trans k2).drewN 1).trans (Keep.set g 0 _)).trans (Keep.set g 1 _)
  have R4 := Lib.hid r4; have K4 := Lib.hid k4
  clear r4 k4 r3 r2 k2
  refine leaves_cons (f := 37) (args := #[.pointer (some ⟨g, 0, none⟩), .bool true]) (by simp) (by simp [go_sem]) ?_
  refine (store_deferred ⟨g, 0, none⟩ (.int .u32 0) .returning _ c20 z20).mono ?_
  rintro e u' w'' ⟨rfl, rfl, rfl⟩
  refine leaves_cons (f := 36) (args := #[.pointer (some ⟨g, 1, none⟩)]) (by simp [settle]) (by simp [go_sem]) ?_
  refine (unlock_deferred ⟨g, 1, none⟩ _ _ c31 z31).mono ?_
  rintro e u' w'' ⟨rfl, rfl, rfl⟩
  exact ⟨_, results_none rfl _ _ _, rfl, R4.out, K4.out⟩
def DoPost (g : Nat) (w : World) (v : Value) (w' : World) : Prop := v = .tuple #[] ∧ Fr9 w' g 1 0 255 255 ∧ Keep [g] w w'
set_option maxHeartbeats 1600000 in
theorem do_first (g : Nat) (w : World) (r : Fr9 w g 0 0 0 0) : Spec Try.prog 30 #[.pointer (some ⟨g, 0, none⟩), .func (.func 31) #[.pointer (some ⟨g, 0, none⟩)] #[]] w (DoPost g w) := by
  refine ⟨by kernel_rfl, ?_⟩
  have c0 : w.cell? ⟨g, 0, none⟩ = some (.int .u32 0) := r.cell 0 (by omega)
  have hl := run_call_load (P := Try.prog) Try.func34 (by kernel_rfl) (by kernel_rfl) (by kernel_rfl) .u32 (by kernel_rfl) c0
  have hnot : ∀ (x : Bool) (w : World), (Op.unary .not (.bool x)).run Try.prog w = .ok (.bool (!x)) w := fun _ _ => rfl
  have R := Lib.hid r
  clear r
  go_enter Try.func30, Try.ntmps30
  go_wp2_with (first
    | (go_at_call 33; refine (slow_first g _ R.out).mono ?_; rintro e w' ⟨rfl, r2, k2⟩)
    | (go_at_call 32; go_in))
  go_end0
  exact ⟨_, rfl, rfl, r2, k2⟩
set_option maxHeartbeats 1600000 in
theorem do_done (g : Nat) (w : World) (st : Int) (ke kl : Nat) (r : Fr9 w g 1 st ke kl) (fv : Value) : Spec Try.prog 30 #[.pointer (some ⟨g, 0, none⟩), fv] w fun v w' => v = .tuple #[] ∧ w = w' := by
  refine ⟨by kernel_rfl, ?_⟩
  have c0 : w.cell? ⟨g, 0, none⟩ = some (.int .u32 1) := r.cell 0 (by omega)
  have hl := run_call_load (P := Try.prog) Try.func34 (by kernel_rfl) (by kernel_rfl) (by kernel_rfl) .u32 (by kernel_rfl) c0
  have hnot : ∀ (x : Bool) (w : World), (Op.unary .not (.bool x)).run Try.prog w = .ok (.bool (!x)) w := fun _ _ => rfl
  clear r
  go_enter Try.func30, Try.ntmps30
  go_wp2
  go_end0
  exact ⟨_, rfl, rfl, rfl⟩
end Go.Proofs.Ytikjedefbflklaa
