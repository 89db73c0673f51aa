/- Layer 1: the tables, as 769 cells; make. -/
import Derived.Test.YtikjedefbflklaaFBits
import Derived.Test.YtikjedefbflklaaKE
namespace Go.Proofs.Ytikjedefbflklaa
open Go.RowKit
set_option linter.unusedVariables false
attribute [local irreducible] GF.pw GF.lg GF.mul GF.inv GF.xt
/-- The field's cells: once's three, the powers (those below ke, and 255 behind), the logarithms (those below kl). -/
def mcell (d st : Int) (ke kl : Nat) (j : Nat) : Value :=
  if j = 0 then .int .u32 d else if j = 1 then .int .i32 st else if j = 2 then .int .u32 0
  else if j < 513 then .int .u8 ((if (j - 3) % 255 < ke then GF.pw (j - 3) else 0 : Nat) : Int)
  else .int .i64 ((if j - 513 ≠ 0 ∧ GF.lg (j - 513) < kl then GF.lg (j - 513) else 0 : Nat) : Int)
section
variable (d st : Int) (ke kl : Nat)
theorem mcell_exp {j : Nat} (h : j < 510) : mcell d st ke kl (3 + j) = .int .u8 ((if j % 255 < ke then GF.pw j else 0 : Nat) : Int) := by
  unfold mcell
  rw [if_neg (by omega), if_neg (by omega), if_neg (by omega), if_pos (by omega), show 3 + j - 3 = j by omega]
theorem mcell_log {a : Nat} (h : a < 256) : mcell d st ke kl (513 + a) = .int .i64 ((if a ≠ 0 ∧ GF.lg a < kl then GF.lg a else 0 : Nat) : Int) := by
  unfold mcell
  rw [if_neg (by omega), if_neg (by omega), if_neg (by omega), if_neg (by omega), show 513 + a - 513 = a by omega]
theorem mcell_one {j : Nat} : (mcell d st ke kl j).oneCell' = true := by
  unfold mcell
  split
  · rfl
  split
  · rfl
  split
  · rfl
  split <;> rfl
theorem put_exp1 {k : Nat} (hk : k < 255) {j : Nat} : put (put (mcell d st k kl) (3 + k) (.int .u8 (GF.pw k : Int))) (3 + (k + 255)) (.int .u8 (GF.pw k : Int)) j = mcell d st (k + 1) kl j := by
  unfold put
  by_cases h1 : j = 3 + (k + 255)
  · rw [if_pos h1, h1, mcell_exp _ _ _ _ (by omega), if_pos (by omega), GF.pw_add255]
  rw [if_neg h1]
  by_cases h2 : j = 3 + k
  · rw [if_pos h2, h2, mcell_exp _ _ _ _ (by omega), if_pos (by omega)]
  rw [if_neg h2]
  unfold mcell
  split
  · rfl
  split
  · rfl
  split
  · rfl
  split
  · refine vi (congrArg Nat.cast ?_)
    by_cases h : (j - 3) % 255 < k
    · rw [if_pos h, if_pos (by omega)]
    · rw [if_neg h, if_neg (by omega)]
  · rfl
theorem put_exp2 {k : Nat} (hk : k < 255) {j : Nat} : put (put (mcell d st k kl) (3 + (k + 255)) (.int .u8 (GF.pw k : Int))) (3 + k) (.int .u8 (GF.pw k : Int)) j = mcell d st (k + 1) kl j := by
  rw [← put_exp1 d st kl hk]
  unfold put
  by_cases h1 : j = 3 + k
  · rw [if_pos h1, if_neg (by omega), if_pos h1]
  · rw [if_neg h1, if_neg h1]
theorem put_log {k : Nat} (hk : k < 255) {j : Nat} (hj : j < 769) : put (mcell d st ke k) (513 + GF.pw k) (.int .i64 (k : Int)) j = mcell d st ke (k + 1) j := by
  unfold put
  by_cases h1 : j = 513 + GF.pw k
  · rw [if_pos h1, h1, mcell_log _ _ _ _ (GF.pw_lt k), GF.lg_pw1 k hk, if_pos ⟨GF.pw_ne0 k, by omega⟩]
  rw [if_neg h1]
  unfold mcell
  split
  · rfl
  split
  · rfl
  split
  · rfl
  split
  · rfl
  · refine vi (congrArg Nat.cast ?_)
    by_cases h0 : j - 513 = 0
    · rw [if_neg (fun h => h.1 h0), if_neg (fun h => h.1 h0)]
    · have hs := GF.lg_spec (j - 513) (by omega) h0
      have hne : GF.lg (j - 513) ≠ k := fun e => by
        rw [e] at hs
        have := hs.2
        omega
      by_cases h : GF.lg (j - 513) < k
      · rw [if_pos ⟨h0, h⟩, if_pos ⟨h0, by omega⟩]
      · rw [if_neg (fun e => h e.2), if_neg (fun e => by have := e.2; omega)]
end
theorem Sh.dbl {p : Nat} {K : Value → Prop} (h : p < 256) (k : K (.int .i64 (2 * (p : Int)))) : Sh .shl .i64 (p : Int) 1 K := by
  refine Sh.shl64 (n := 1) ?_ (by decide) ?_
  · rw [Nat.shiftLeft_eq]; omega
  · rw [Nat.shiftLeft_eq, show ((p * 2 ^ 1 : Nat) : Int) = 2 * (p : Int) by omega]
    exact k
abbrev Fr9 (w : World) (g : Nat) (d st : Int) (ke kl : Nat) : Prop := Row w g 66 769 (mcell d st ke kl)
set_option maxRecDepth 20000 in
set_option maxHeartbeats 1000000 in
theorem make_ok (w : World) (g : Nat) (d st : Int) (r : Fr9 w g d st 0 0) : Spec Try.prog 31 #[.pointer (some ⟨g, 0, none⟩)] w fun v w' => v = .tuple #[] ∧ Fr9 w' g d st 255 255 ∧ Keep [g] w w' := by
  refine spec_of_wpE (T := tt) tt_ok Try.func31 rfl (by decide +kernel) Try.ntmps31 (by simp) ?_
  conv => whnf
  repeat (first
    | ((refine HS.mk trivial ?_); conv => whnf)
    | ((refine Br.t ?_); conv => whnf)
    | ((refine Br.f ?_); conv => whnf)
    | ((refine Pk.f ?_); conv => whnf)
    | ((refine Pk.t ?_); conv => whnf)
    | ((refine Pk.and ?_); conv => whnf)
    | ((refine Pk.or ?_); conv => whnf)
    | ((refine Ix.nat (by omega) ?_); conv => whnf)
    | ((refine Ix.of _ (by rfl) (by omega) ?_); conv => whnf)
    | ((refine Ix.int (by omega) (by omega) ?_); conv => whnf)
    | ((refine Ar.i64 (by omega) (by omega) ?_); conv => whnf)
    | ((refine Ar.u8 (by omega) (by omega) ?_); conv => whnf)
    | ((refine Ar.u64 (by omega) (by omega) ?_); conv => whnf)
    | ((refine Dv.quo (by omega) (by omega) (by omega) ?_); conv => whnf)
    | ((refine Dv.rem (by omega) (by omega) ?_); conv => whnf)
    | ((refine Br.yes (by omega) ?_); conv => whnf)
    | ((refine Br.no (by omega) ?_); conv => whnf)
    | ((refine Br.nyes (by omega) ?_); conv => whnf)
    | ((refine Br.nno (by omega) ?_); conv => whnf)
    | ((refine Br.is (by assumption) ?_); conv => whnf)
    | ((refine Br.isnt (by assumption) ?_); conv => whnf)
    | ((refine Ld.of (by assumption) ?_); conv => whnf)
    | ((refine Ru.neq_nil0 ?_); conv => whnf)
    | ((refine Ru.neq_nil1 (by decide) ?_); conv => whnf)
    | ((refine Ru.eql_nil0 ?_); conv => whnf)
    | ((refine Ru.eql_nil1 (by decide) ?_); conv => whnf)
    | ((refine Ru.eql_errs (by decide) (by decide) ?_); conv => whnf)
    | ((refine Ru.eql_err0 (by decide) ?_); conv => whnf)
    | ((refine Ru.neq_errs (by decide) (by decide) ?_); conv => whnf)
    | ((refine Ru.neq_err0 (by decide) ?_); conv => whnf)
    | ((refine Ru.neq_nil rfl ?_); conv => whnf)
    | ((refine Ru.eql_nil rfl ?_); conv => whnf)
    | ((refine Ru.eql_err rfl (by decide) ?_); conv => whnf)
    | ((refine Ru.neq_err rfl (by decide) ?_); conv => whnf)
    | ((refine Ru.eqlb Try.underlying4 ?_); conv => whnf)
    | ((refine Ru.neqb Try.underlying4 ?_); conv => whnf)
    | ((refine RuQ.eqlb Try.underlying4 ?_); conv => whnf)
    | ((refine RuQ.neqb Try.underlying4 ?_); conv => whnf)
    | ((refine CW.seq tt_ok ?_); conv => whnf))
  refine CW.loop (ι := Nat) (fun i w' => i ≤ 255 ∧ Fr9 w' g d st i i ∧ Keep [g] w w') (fun i => [(0, .pointer (some ⟨g, 0, none⟩)), (2, .int .i64 (GF.pw i)), (4, .int .i64 i)]) (fun i => 255 - i) 0 tt_ok ⟨by omega, r, Keep.refl _ _⟩ ⟨rfl, vi (by decide +kernel), rfl, trivial⟩ ?_
  rintro k wr ⟨hk, r, kk⟩
  by_cases hlt : k < 255
  · have hp := GF.pw_lt k
    have hst : GF.pw (k + 1) = GF.xt (GF.pw k) := GF.pw_succ k
    rw [GF.xt_def] at hst
    generalize hq : GF.pw k = p at *
    conv => whnf
    repeat (first
      | ((refine HS.mk trivial ?_); conv => whnf)
      | ((refine Br.t ?_); conv => whnf)
      | ((refine Br.f ?_); conv => whnf)
      | ((refine Pk.f ?_); conv => whnf)
      | ((refine Pk.t ?_); conv => whnf)
      | ((refine Pk.and ?_); conv => whnf)
      | ((refine Pk.or ?_); conv => whnf)
      | ((refine Ix.nat (by omega) ?_); conv => whnf)
      | ((refine Ix.of _ (by rfl) (by omega) ?_); conv => whnf)
      | ((refine Ix.int (by omega) (by omega) ?_); conv => whnf)
      | ((refine Ar.i64 (by omega) (by omega) ?_); conv => whnf)
      | ((refine Ar.u8 (by omega) (by omega) ?_); conv => whnf)
      | ((refine Ar.u64 (by omega) (by omega) ?_); conv => whnf)
      | ((refine Dv.quo (by omega) (by omega) (by omega) ?_); conv => whnf)
      | ((refine Dv.rem (by omega) (by omega) ?_); conv => whnf)
      | ((refine Br.yes (by omega) ?_); conv => whnf)
      | ((refine Br.no (by omega) ?_); conv => whnf)
      | ((refine Br.nyes (by omega) ?_); conv => whnf)
      | ((refine Br.nno (by omega) ?_); conv => whnf)
      | ((refine Br.is (by assumption) ?_); conv => whnf)
      | ((refine Br.isnt (by assumption) ?_); conv => whnf)
      | ((refine Ld.of (by assumption) ?_); conv => whnf)
      | ((refine Ru.neq_nil0 ?_); conv => whnf)
      | ((refine Ru.neq_nil1 (by decide) ?_); conv => whnf)
      | ((refine Ru.eql_nil0 ?_); conv => whnf)
      | ((refine Ru.eql_nil1 (by decide) ?_); conv => whnf)
      | ((refine Ru.eql_errs (by decide) (by decide) ?_); conv => whnf)
      | ((refine Ru.eql_err0 (by decide) ?_); conv => whnf)
      | ((refine Ru.neq_errs (by decide) (by decide) ?_); conv => whnf)
      | ((refine Ru.neq_err0 (by decide) ?_); conv => whnf)
      | ((refine Ru.neq_nil rfl ?_); conv => whnf)
      | ((refine Ru.eql_nil rfl ?_); conv => whnf)
      | ((refine Ru.eql_err rfl (by decide) ?_); conv => whnf)
      | ((refine Ru.neq_err rfl (by decide) ?_); conv => whnf)
      | ((refine Ru.eqlb Try.underlying4 ?_); conv => whnf)
      | ((refine Ru.neqb Try.underlying4 ?_); conv => whnf)
      | ((refine RuQ.eqlb Try.underlying4 ?_); conv => whnf)
      | ((refine RuQ.neqb Try.underlying4 ?_); conv => whnf)
      | ((refine CW.seq tt_ok ?_); conv => whnf))
    refine CW.held (fun _ => True) [] (.take 0 (.take 1 (.take 2 (.take 3 (.take 4 (.take 5 (.take 6 (.take 7 (.take 8 (.take 9 (.take 10 (.take 11 (.take 13 (.take 14 (.one 12 (.take 15 (.one 16 (.done)))))))))))))))))) tt_ok (by kernel_rfl) (by kernel_rfl) (by kernel_rfl) trivial ?_
    conv => whnf
    repeat (first
      | ((refine HS.mk trivial ?_); conv => whnf)
      | ((refine Br.t ?_); conv => whnf)
      | ((refine Br.f ?_); conv => whnf)
      | ((refine Pk.f ?_); conv => whnf)
      | ((refine Pk.t ?_); conv => whnf)
      | ((refine Pk.and ?_); conv => whnf)
      | ((refine Pk.or ?_); conv => whnf)
      | ((refine Ix.nat (by omega) ?_); conv => whnf)
      | ((refine Ix.of _ (by rfl) (by omega) ?_); conv => whnf)
      | ((refine Ix.int (by omega) (by omega) ?_); conv => whnf)
      | ((refine Ar.i64 (by omega) (by omega) ?_); conv => whnf)
      | ((refine Ar.u8 (by omega) (by omega) ?_); conv => whnf)
      | ((refine Ar.u64 (by omega) (by omega) ?_); conv => whnf)
      | ((refine Dv.quo (by omega) (by omega) (by omega) ?_); conv => whnf)
      | ((refine Dv.rem (by omega) (by omega) ?_); conv => whnf)
      | ((refine Br.yes (by omega) ?_); conv => whnf)
      | ((refine Br.no (by omega) ?_); conv => whnf)
      | ((refine Br.nyes (by omega) ?_); conv => whnf)
      | ((refine Br.nno (by omega) ?_); conv => whnf)
      | ((refine Br.is (by assumption) ?_); conv => whnf)
      | ((refine Br.isnt (by assumption) ?_); conv => whnf)
      | ((refine Ld.of (by assumption) ?_); conv => whnf)
      | ((refine Ru.neq_nil0 ?_); conv => whnf)
      | ((refine Ru.neq_nil1 (by decide) ?_); conv => whnf)
      | ((refine Ru.eql_nil0 ?_); conv => whnf)
      | ((refine Ru.eql_nil1 (by decide) ?_); conv => whnf)
      | ((refine Ru.eql_errs (by decide) (by decide) ?_); conv => whnf)
      | ((refine Ru.eql_err0 (by decide) ?_); conv => whnf)
      | ((refine Ru.neq_errs (by decide) (by decide) ?_); conv => whnf)
      | ((refine Ru.neq_err0 (by decide) ?_); conv => whnf)
      | ((refine Ru.neq_nil rfl ?_); conv => whnf)
      | ((refine Ru.eql_nil rfl ?_); conv => whnf)
      | ((refine Ru.eql_err rfl (by decide) ?_); conv => whnf)
      | ((refine Ru.neq_err rfl (by decide) ?_); conv => whnf)
      | ((refine Ru.eqlb Try.underlying4 ?_); conv => whnf)
      | ((refine Ru.neqb Try.underlying4 ?_); conv => whnf)
      | ((refine RuQ.eqlb Try.underlying4 ?_); conv => whnf)
      | ((refine RuQ.neqb Try.underlying4 ?_); conv => whnf)
      | ((refine CW.seq tt_ok ?_); conv => whnf))
    refine Sd.rowAt (r.drewN 1) (3 + k) (by omega) (by omega) rfl ?_
    intro w2 r2 k2
    conv => whnf
    repeat (first
      | ((refine HS.mk trivial ?_); conv => whnf)
      | ((refine Br.t ?_); conv => whnf)
      | ((refine Br.f ?_); conv => whnf)
      | ((refine Pk.f ?_); conv => whnf)
      | ((refine Pk.t ?_); conv => whnf)
      | ((refine Pk.and ?_); conv => whnf)
      | ((refine Pk.or ?_); conv => whnf)
      | ((refine Ix.nat (by omega) ?_); conv => whnf)
      | ((refine Ix.of _ (by rfl) (by omega) ?_); conv => whnf)
      | ((refine Ix.int (by omega) (by omega) ?_); conv => whnf)
      | ((refine Ar.i64 (by omega) (by omega) ?_); conv => whnf)
      | ((refine Ar.u8 (by omega) (by omega) ?_); conv => whnf)
      | ((refine Ar.u64 (by omega) (by omega) ?_); conv => whnf)
      | ((refine Dv.quo (by omega) (by omega) (by omega) ?_); conv => whnf)
      | ((refine Dv.rem (by omega) (by omega) ?_); conv => whnf)
      | ((refine Br.yes (by omega) ?_); conv => whnf)
      | ((refine Br.no (by omega) ?_); conv => whnf)
      | ((refine Br.nyes (by omega) ?_); conv => whnf)
      | ((refine Br.nno (by omega) ?_); conv => whnf)
      | ((refine Br.is (by assumption) ?_); conv => whnf)
      | ((refine Br.isnt (by assumption) ?_); conv => whnf)
      | ((refine Ld.of (by assumption) ?_); conv => whnf)
      | ((refine Ru.neq_nil0 ?_); conv => whnf)
      | ((refine Ru.neq_nil1 (by decide) ?_); conv => whnf)
      | ((refine Ru.eql_nil0 ?_); conv => whnf)
      | ((refine Ru.eql_nil1 (by decide) ?_); conv => whnf)
      | ((refine Ru.eql_errs (by decide) (by decide) ?_); conv => whnf)
      | ((refine Ru.eql_err0 (by decide) ?_); conv => whnf)
      | ((refine Ru.neq_errs (by decide) (by decide) ?_); conv => whnf)
      | ((refine Ru.neq_err0 (by decide) ?_); conv => whnf)
      | ((refine Ru.neq_nil rfl ?_); conv => whnf)
      | ((refine Ru.eql_nil rfl ?_); conv => whnf)
      | ((refine Ru.eql_err rfl (by decide) ?_); conv => whnf)
      | ((refine Ru.neq_err rfl (by decide) ?_); conv => whnf)
      | ((refine Ru.eqlb Try.underlying4 ?_); conv => whnf)
      | ((refine Ru.neqb Try.underlying4 ?_); conv => whnf)
      | ((refine RuQ.eqlb Try.underlying4 ?_); conv => whnf)
      | ((refine RuQ.neqb Try.underlying4 ?_); conv => whnf)
      | ((refine CW.seq tt_ok ?_); conv => whnf))
    refine Sd.rowAt r2 (3 + (k + 255)) (by omega) (by omega) rfl ?_
    intro w3 r3 k3
    rw [← hq] at r3
    have r3 := r3.congr (fun j _ => put_exp1 d st k hlt)
    have kk3 : Keep [g] w w3 := ((kk.drewN 1).trans k2).trans k3
    conv => whnf
    repeat (first
      | ((refine HS.mk trivial ?_); conv => whnf)
      | ((refine Br.t ?_); conv => whnf)
      | ((refine Br.f ?_); conv => whnf)
      | ((refine Pk.f ?_); conv => whnf)
      | ((refine Pk.t ?_); conv => whnf)
      | ((refine Pk.and ?_); conv => whnf)
      | ((refine Pk.or ?_); conv => whnf)
      | ((refine Ix.nat (by omega) ?_); conv => whnf)
      | ((refine Ix.of _ (by rfl) (by omega) ?_); conv => whnf)
      | ((refine Ix.int (by omega) (by omega) ?_); conv => whnf)
      | ((refine Ar.i64 (by omega) (by omega) ?_); conv => whnf)
      | ((refine Ar.u8 (by omega) (by omega) ?_); conv => whnf)
      | ((refine Ar.u64 (by omega) (by omega) ?_); conv => whnf)
      | ((refine Dv.quo (by omega) (by omega) (by omega) ?_); conv => whnf)
      | ((refine Dv.rem (by omega) (by omega) ?_); conv => whnf)
      | ((refine Br.yes (by omega) ?_); conv => whnf)
      | ((refine Br.no (by omega) ?_); conv => whnf)
      | ((refine Br.nyes (by omega) ?_); conv => whnf)
      | ((refine Br.nno (by omega) ?_); conv => whnf)
      | ((refine Br.is (by assumption) ?_); conv => whnf)
      | ((refine Br.isnt (by assumption) ?_); conv => whnf)
      | ((refine Ld.of (by assumption) ?_); conv => whnf)
      | ((refine Ru.neq_nil0 ?_); conv => whnf)
      | ((refine Ru.neq_nil1 (by decide) ?_); conv => whnf)
      | ((refine Ru.eql_nil0 ?_); conv => whnf)
      | ((refine Ru.eql_nil1 (by decide) ?_); conv => whnf)
      | ((refine Ru.eql_errs (by decide) (by decide) ?_); conv => whnf)
      | ((refine Ru.eql_err0 (by decide) ?_); conv => whnf)
      | ((refine Ru.neq_errs (by decide) (by decide) ?_); conv => whnf)
      | ((refine Ru.neq_err0 (by decide) ?_); conv => whnf)
      | ((refine Ru.neq_nil rfl ?_); conv => whnf)
      | ((refine Ru.eql_nil rfl ?_); conv => whnf)
      | ((refine Ru.eql_err rfl (by decide) ?_); conv => whnf)
      | ((refine Ru.neq_err rfl (by decide) ?_); conv => whnf)
      | ((refine Ru.eqlb Try.underlying4 ?_); conv => whnf)
      | ((refine Ru.neqb Try.underlying4 ?_); conv => whnf)
      | ((refine RuQ.eqlb Try.underlying4 ?_); conv => whnf)
      | ((refine RuQ.neqb Try.underlying4 ?_); conv => whnf)
      | ((refine CW.seq tt_ok ?_); conv => whnf))
    refine Sd.rowAt r3 (513 + p) (by omega) (by omega) rfl ?_
    intro w4 r4 k4
    rw [← hq] at r4
    have r4 := r4.congr (fun j hj => put_log d st (k + 1) hlt hj)
    have kk4 := kk3.trans k4
    conv => whnf
    repeat (first
      | ((refine HS.mk trivial ?_); conv => whnf)
      | ((refine Br.t ?_); conv => whnf)
      | ((refine Br.f ?_); conv => whnf)
      | ((refine Pk.f ?_); conv => whnf)
      | ((refine Pk.t ?_); conv => whnf)
      | ((refine Pk.and ?_); conv => whnf)
      | ((refine Pk.or ?_); conv => whnf)
      | ((refine Ix.nat (by omega) ?_); conv => whnf)
      | ((refine Ix.of _ (by rfl) (by omega) ?_); conv => whnf)
      | ((refine Ix.int (by omega) (by omega) ?_); conv => whnf)
      | ((refine Ar.i64 (by omega) (by omega) ?_); conv => whnf)
      | ((refine Ar.u8 (by omega) (by omega) ?_); conv => whnf)
      | ((refine Ar.u64 (by omega) (by omega) ?_); conv => whnf)
      | ((refine Dv.quo (by omega) (by omega) (by omega) ?_); conv => whnf)
      | ((refine Dv.rem (by omega) (by omega) ?_); conv => whnf)
      | ((refine Br.yes (by omega) ?_); conv => whnf)
      | ((refine Br.no (by omega) ?_); conv => whnf)
      | ((refine Br.nyes (by omega) ?_); conv => whnf)
      | ((refine Br.nno (by omega) ?_); conv => whnf)
      | ((refine Br.is (by assumption) ?_); conv => whnf)
      | ((refine Br.isnt (by assumption) ?_); conv => whnf)
      | ((refine Ld.of (by assumption) ?_); conv => whnf)
      | ((refine Ru.neq_nil0 ?_); conv => whnf)
      | ((refine Ru.neq_nil1 (by decide) ?_); conv => whnf)
      | ((refine Ru.eql_nil0 ?_); conv => whnf)
      | ((refine Ru.eql_nil1 (by decide) ?_); conv => whnf)
      | ((refine Ru.eql_errs (by decide) (by decide) ?_); conv => whnf)
      | ((refine Ru.eql_err0 (by decide) ?_); conv => whnf)
      | ((refine Ru.neq_errs (by decide) (by decide) ?_); conv => whnf)
      | ((refine Ru.neq_err0 (by decide) ?_); conv => whnf)
      | ((refine Ru.neq_nil rfl ?_); conv => whnf)
      | ((refine Ru.eql_nil rfl ?_); conv => whnf)
      | ((refine Ru.eql_err rfl (by decide) ?_); conv => whnf)
      | ((refine Ru.neq_err rfl (by decide) ?_); conv => whnf)
      | ((refine Ru.eqlb Try.underlying4 ?_); conv => whnf)
      | ((refine Ru.neqb Try.underlying4 ?_); conv => whnf)
      | ((refine RuQ.eqlb Try.underlying4 ?_); conv => whnf)
      | ((refine RuQ.neqb Try.underlying4 ?_); conv => whnf)
      | ((refine CW.seq tt_ok ?_); conv => whnf))
    refine Sh.dbl hp ?_
    by_cases h2 : 255 < 2 * p
    · rw [if_pos h2] at hst
      conv => whnf
      repeat (first
        | ((refine HS.mk trivial ?_); conv => whnf)
        | ((refine Br.t ?_); conv => whnf)
        | ((refine Br.f ?_); conv => whnf)
        | ((refine Pk.f ?_); conv => whnf)
        | ((refine Pk.t ?_); conv => whnf)
        | ((refine Pk.and ?_); conv => whnf)
        | ((refine Pk.or ?_); conv => whnf)
        | ((refine Ix.nat (by omega) ?_); conv => whnf)
        | ((refine Ix.of _ (by rfl) (by omega) ?_); conv => whnf)
        | ((refine Ix.int (by omega) (by omega) ?_); conv => whnf)
        | ((refine Ar.i64 (by omega) (by omega) ?_); conv => whnf)
        | ((refine Ar.u8 (by omega) (by omega) ?_); conv => whnf)
        | ((refine Ar.u64 (by omega) (by omega) ?_); conv => whnf)
        | ((refine Dv.quo (by omega) (by omega) (by omega) ?_); conv => whnf)
        | ((refine Dv.rem (by omega) (by omega) ?_); conv => whnf)
        | ((refine Br.yes (by omega) ?_); conv => whnf)
        | ((refine Br.no (by omega) ?_); conv => whnf)
        | ((refine Br.nyes (by omega) ?_); conv => whnf)
        | ((refine Br.nno (by omega) ?_); conv => whnf)
        | ((refine Br.is (by assumption) ?_); conv => whnf)
        | ((refine Br.isnt (by assumption) ?_); conv => whnf)
        | ((refine Ld.of (by assumption) ?_); conv => whnf)
        | ((refine Ru.neq_nil0 ?_); conv => whnf)
        | ((refine Ru.neq_nil1 (by decide) ?_); conv => whnf)
        | ((refine Ru.eql_nil0 ?_); conv => whnf)
        | ((refine Ru.eql_nil1 (by decide) ?_); conv => whnf)
        | ((refine Ru.eql_errs (by decide) (by decide) ?_); conv => whnf)
        | ((refine Ru.eql_err0 (by decide) ?_); conv => whnf)
        | ((refine Ru.neq_errs (by decide) (by decide) ?_); conv => whnf)
        | ((refine Ru.neq_err0 (by decide) ?_); conv => whnf)
        | ((refine Ru.neq_nil rfl ?_); conv => whnf)
        | ((refine Ru.eql_nil rfl ?_); conv => whnf)
        | ((refine Ru.eql_err rfl (by decide) ?_); conv => whnf)
        | ((refine Ru.neq_err rfl (by decide) ?_); conv => whnf)
        | ((refine Ru.eqlb Try.underlying4 ?_); conv => whnf)
        | ((refine Ru.neqb Try.underlying4 ?_); conv => whnf)
        | ((refine RuQ.eqlb Try.underlying4 ?_); conv => whnf)
        | ((refine RuQ.neqb Try.underlying4 ?_); conv => whnf)
        | ((refine CW.seq tt_ok ?_); conv => whnf))
      refine ⟨k + 1, ⟨hlt, r4, kk4⟩, ⟨rfl, vi ?_, rfl, trivial⟩, by simp only; omega⟩
      rw [hst]
      exact bitv_xor64 (a := 2 * p) (b := 285) (by omega) (by omega)
    · rw [if_neg h2] at hst
      conv => whnf
      repeat (first
        | ((refine HS.mk trivial ?_); conv => whnf)
        | ((refine Br.t ?_); conv => whnf)
        | ((refine Br.f ?_); conv => whnf)
        | ((refine Pk.f ?_); conv => whnf)
        | ((refine Pk.t ?_); conv => whnf)
        | ((refine Pk.and ?_); conv => whnf)
        | ((refine Pk.or ?_); conv => whnf)
        | ((refine Ix.nat (by omega) ?_); conv => whnf)
        | ((refine Ix.of _ (by rfl) (by omega) ?_); conv => whnf)
        | ((refine Ix.int (by omega) (by omega) ?_); conv => whnf)
        | ((refine Ar.i64 (by omega) (by omega) ?_); conv => whnf)
        | ((refine Ar.u8 (by omega) (by omega) ?_); conv => whnf)
        | ((refine Ar.u64 (by omega) (by omega) ?_); conv => whnf)
        | ((refine Dv.quo (by omega) (by omega) (by omega) ?_); conv => whnf)
        | ((refine Dv.rem (by omega) (by omega) ?_); conv => whnf)
        | ((refine Br.yes (by omega) ?_); conv => whnf)
        | ((refine Br.no (by omega) ?_); conv => whnf)
        | ((refine Br.nyes (by omega) ?_); conv => whnf)
        | ((refine Br.nno (by omega) ?_); conv => whnf)
        | ((refine Br.is (by assumption) ?_); conv => whnf)
        | ((refine Br.isnt (by assumption) ?_); conv => whnf)
        | ((refine Ld.of (by assumption) ?_); conv => whnf)
        | ((refine Ru.neq_nil0 ?_); conv => whnf)
        | ((refine Ru.neq_nil1 (by decide) ?_); conv => whnf)
        | ((refine Ru.eql_nil0 ?_); conv => whnf)
        | ((refine Ru.eql_nil1 (by decide) ?_); conv => whnf)
        | ((refine Ru.eql_errs (by decide) (by decide) ?_); conv => whnf)
        | ((refine Ru.eql_err0 (by decide) ?_); conv => whnf)
        | ((refine Ru.neq_errs (by decide) (by decide) ?_); conv => whnf)
        | ((refine Ru.neq_err0 (by decide) ?_); conv => whnf)
        | ((refine Ru.neq_nil rfl ?_); conv => whnf)
        | ((refine Ru.eql_nil rfl ?_); conv => whnf)
        | ((refine Ru.eql_err rfl (by decide) ?_); conv => whnf)
        | ((refine Ru.neq_err rfl (by decide) ?_); conv => whnf)
        | ((refine Ru.eqlb Try.underlying4 ?_); conv => whnf)
        | ((refine Ru.neqb Try.underlying4 ?_); conv => whnf)
        | ((refine RuQ.eqlb Try.underlying4 ?_); conv => whnf)
        | ((refine RuQ.neqb Try.underlying4 ?_); conv => whnf)
        | ((refine CW.seq tt_ok ?_); conv => whnf))
      refine ⟨k + 1, ⟨hlt, r4, kk4⟩, ⟨rfl, vi ?_, rfl, trivial⟩, by simp only; omega⟩
      rw [hst]
      omega
  · obtain rfl : k = 255 := by omega
    conv => whnf
    repeat (first
      | ((refine HS.mk trivial ?_); conv => whnf)
      | ((refine Br.t ?_); conv => whnf)
      | ((refine Br.f ?_); conv => whnf)
      | ((refine Pk.f ?_); conv => whnf)
      | ((refine Pk.t ?_); conv => whnf)
      | ((refine Pk.and ?_); conv => whnf)
      | ((refine Pk.or ?_); conv => whnf)
      | ((refine Ix.nat (by omega) ?_); conv => whnf)
      | ((refine Ix.of _ (by rfl) (by omega) ?_); conv => whnf)
      | ((refine Ix.int (by omega) (by omega) ?_); conv => whnf)
      | ((refine Ar.i64 (by omega) (by omega) ?_); conv => whnf)
      | ((refine Ar.u8 (by omega) (by omega) ?_); conv => whnf)
      | ((refine Ar.u64 (by omega) (by omega) ?_); conv => whnf)
      | ((refine Dv.quo (by omega) (by omega) (by omega) ?_); conv => whnf)
      | ((refine Dv.rem (by omega) (by omega) ?_); conv => whnf)
      | ((refine Br.yes (by omega) ?_); conv => whnf)
      | ((refine Br.no (by omega) ?_); conv => whnf)
      | ((refine Br.nyes (by omega) ?_); conv => whnf)
      | ((refine Br.nno (by omega) ?_); conv => whnf)
      | ((refine Br.is (by assumption) ?_); conv => whnf)
      | ((refine Br.isnt (by assumption) ?_); conv => whnf)
      | ((refine Ld.of (by assumption) ?_); conv => whnf)
      | ((refine Ru.neq_nil0 ?_); conv => whnf)
      | ((refine Ru.neq_nil1 (by decide) ?_); conv => whnf)
      | ((refine Ru.eql_nil0 ?_); conv => whnf)
      | ((refine Ru.eql_nil1 (by decide) ?_); conv => whnf)
      | ((refine Ru.eql_errs (by decide) (by decide) ?_); conv => whnf)
      | ((refine Ru.eql_err0 (by decide) ?_); conv => whnf)
      | ((refine Ru.neq_errs (by decide) (by decide) ?_); conv => whnf)
      | ((refine Ru.neq_err0 (by decide) ?_); conv => whnf)
      | ((refine Ru.neq_nil rfl ?_); conv => whnf)
      | ((refine Ru.eql_nil rfl ?_); conv => whnf)
      | ((refine Ru.eql_err rfl (by decide) ?_); conv => whnf)
      | ((refine Ru.neq_err rfl (by decide) ?_); conv => whnf)
      | ((refine Ru.eqlb Try.underlying4 ?_); conv => whnf)
      | ((refine Ru.neqb Try.underlying4 ?_); conv => whnf)
      | ((refine RuQ.eqlb Try.underlying4 ?_); conv => whnf)
      | ((refine RuQ.neqb Try.underlying4 ?_); conv => whnf)
      | ((refine CW.seq tt_ok ?_); conv => whnf))
    exact ⟨rfl, rfl, r, kk⟩
end Go.Proofs.Ytikjedefbflklaa
