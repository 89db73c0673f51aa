/- Layer 16's law: the head, step. -/
import Derived.Test.YtkdocaimkphooaaHealth4
namespace Go.Proofs.Ytkdocaimkphooaa
open Go.RowKit
set_option linter.unusedVariables false
theorem Ru.mki {w : World} {n : Nat} {K : Value → World → Prop} (hn : 8 * n ≤ 281474976710656) (k : ∀ g w', g = w.heap.size → w'.heap.size = w.heap.size + 1 → Row w' g 3 n (fun _ => .int .i64 0) → Keep [] w w' → K (.slice (some ⟨g, 0, none⟩) n n) w') : Ru Try.prog (Instr.makeSlice 22 (.int .i64 (n : Int)) (.int .i64 (n : Int))) w K :=
  ⟨_, _, run_make_row' (P := Try.prog) 22 3 (.int .i64 0) 8 Try.underlying22 int_info rfl .i64 .i64 n (by omega) (by omega) w, k _ _ rfl (by simp) (Row.made _ _ _ _) ((Keep.refl _ _).alloc _)⟩
def upA : Nat → Int := fun j => if j = 0 then 511 else 0
def upB : Nat → Int := fun j => if j = 0 then 2 else 0
theorem up_new : newOk 12 12 upA upB := ⟨rfl, rfl, fun j _ => by unfold upA upB; split <;> omega⟩
theorem one_put (v : Int) : put (fun _ => Value.int .i64 0) 0 (.int .i64 v) = fun j => .int .i64 (if j = 0 then v else 0) := by
  funext j
  unfold put
  split <;> rfl
theorem h_err0 (e : Int) : errOf 0 = Value.nilIface := rfl
set_option maxHeartbeats 2000000 in
theorem up_ok (w : World) : Spec Try.prog 5 #[] w fun v w' => v = .bool true ∧ Keep [] w w' := by
  refine spec_of_wpE (T := tt) tt_ok Try.func5 rfl (by decide +kernel) Try.ntmps5 (by simp) ?_
  conv => whnf
  repeat (first
    | ((refine HS.mk trivial ?_); conv => whnf)
    | ((refine Br.t ?_); conv => whnf)
    | ((refine Br.f ?_); conv => whnf)
    | ((refine Pk.f ?_); conv => whnf)
    | ((refine Pk.t ?_); conv => whnf)
    | ((refine Pk.and ?_); conv => whnf)
    | ((refine Pk.or ?_); conv => whnf)
    | ((refine Ix.nat (by omega) ?_); conv => whnf)
    | ((refine Ix.of _ (by rfl) (by omega) ?_); conv => whnf)
    | ((refine Ix.int (by omega) (by omega) ?_); conv => whnf)
    | ((refine Ar.i64 (by omega) (by omega) ?_); conv => whnf)
    | ((refine Ar.u8 (by omega) (by omega) ?_); conv => whnf)
    | ((refine Ar.u64 (by omega) (by omega) ?_); conv => whnf)
    | ((refine Dv.quo (by omega) (by omega) (by omega) ?_); conv => whnf)
    | ((refine Dv.rem (by omega) (by omega) ?_); conv => whnf)
    | ((refine Br.yes (by omega) ?_); conv => whnf)
    | ((refine Br.no (by omega) ?_); conv => whnf)
    | ((refine Br.nyes (by omega) ?_); conv => whnf)
    | ((refine Br.nno (by omega) ?_); conv => whnf)
    | ((refine Br.is (by assumption) ?_); conv => whnf)
    | ((refine Br.isnt (by assumption) ?_); conv => whnf)
    | ((refine Ld.of (by assumption) ?_); conv => whnf)
    | ((refine Ru.neq_nil0 ?_); conv => whnf)
    | ((refine Ru.neq_nil1 (by decide) ?_); conv => whnf)
    | ((refine Ru.eql_nil0 ?_); conv => whnf)
    | ((refine Ru.eql_nil1 (by decide) ?_); conv => whnf)
    | ((refine Ru.eql_errs (by decide) (by decide) ?_); conv => whnf)
    | ((refine Ru.eql_err0 (by decide) ?_); conv => whnf)
    | ((refine Ru.neq_errs (by decide) (by decide) ?_); conv => whnf)
    | ((refine Ru.neq_err0 (by decide) ?_); conv => whnf)
    | ((refine Ru.neq_nil rfl ?_); conv => whnf)
    | ((refine Ru.eql_nil rfl ?_); conv => whnf)
    | ((refine Ru.eql_err rfl (by decide) ?_); conv => whnf)
    | ((refine Ru.neq_err rfl (by decide) ?_); conv => whnf)
    | ((refine Ru.eqlb Try.underlying4 ?_); conv => whnf)
    | ((refine Ru.neqb Try.underlying4 ?_); conv => whnf)
    | ((refine RuQ.eqlb Try.underlying4 ?_); conv => whnf)
    | ((refine RuQ.neqb Try.underlying4 ?_); conv => whnf)
    | ((refine CW.seq tt_ok ?_); conv => whnf))
  refine Ru.mki (n := 12) (by omega) ?_
  intro g1 w1 hg1 hs1 r1 k1
  conv => whnf
  repeat (first
    | ((refine HS.mk trivial ?_); conv => whnf)
    | ((refine Br.t ?_); conv => whnf)
    | ((refine Br.f ?_); conv => whnf)
    | ((refine Pk.f ?_); conv => whnf)
    | ((refine Pk.t ?_); conv => whnf)
    | ((refine Pk.and ?_); conv => whnf)
    | ((refine Pk.or ?_); conv => whnf)
    | ((refine Ix.nat (by omega) ?_); conv => whnf)
    | ((refine Ix.of _ (by rfl) (by omega) ?_); conv => whnf)
    | ((refine Ix.int (by omega) (by omega) ?_); conv => whnf)
    | ((refine Ar.i64 (by omega) (by omega) ?_); conv => whnf)
    | ((refine Ar.u8 (by omega) (by omega) ?_); conv => whnf)
    | ((refine Ar.u64 (by omega) (by omega) ?_); conv => whnf)
    | ((refine Dv.quo (by omega) (by omega) (by omega) ?_); conv => whnf)
    | ((refine Dv.rem (by omega) (by omega) ?_); conv => whnf)
    | ((refine Br.yes (by omega) ?_); conv => whnf)
    | ((refine Br.no (by omega) ?_); conv => whnf)
    | ((refine Br.nyes (by omega) ?_); conv => whnf)
    | ((refine Br.nno (by omega) ?_); conv => whnf)
    | ((refine Br.is (by assumption) ?_); conv => whnf)
    | ((refine Br.isnt (by assumption) ?_); conv => whnf)
    | ((refine Ld.of (by assumption) ?_); conv => whnf)
    | ((refine Ru.neq_nil0 ?_); conv => whnf)
    | ((refine Ru.neq_nil1 (by decide) ?_); conv => whnf)
    | ((refine Ru.eql_nil0 ?_); conv => whnf)
    | ((refine Ru.eql_nil1 (by decide) ?_); conv => whnf)
    | ((refine Ru.eql_errs (by decide) (by decide) ?_); conv => whnf)
    | ((refine Ru.eql_err0 (by decide) ?_); conv => whnf)
    | ((refine Ru.neq_errs (by decide) (by decide) ?_); conv => whnf)
    | ((refine Ru.neq_err0 (by decide) ?_); conv => whnf)
    | ((refine Ru.neq_nil rfl ?_); conv => whnf)
    | ((refine Ru.eql_nil rfl ?_); conv => whnf)
    | ((refine Ru.eql_err rfl (by decide) ?_); conv => whnf)
    | ((refine Ru.neq_err rfl (by decide) ?_); conv => whnf)
    | ((refine Ru.eqlb Try.underlying4 ?_); conv => whnf)
    | ((refine Ru.neqb Try.underlying4 ?_); conv => whnf)
    | ((refine RuQ.eqlb Try.underlying4 ?_); conv => whnf)
    | ((refine RuQ.neqb Try.underlying4 ?_); conv => whnf)
    | ((refine CW.seq tt_ok ?_); conv => whnf))
  refine Ru.mki (n := 12) (by omega) ?_
  intro g2 w2 hg2 hs2 r2 k2
  have r1 := r1.keep k2 (by simp)
  have hne : g1 ≠ g2 := by omega
  conv => whnf
  repeat (first
    | ((refine Ix.of 0 rfl (by omega) ?_); conv => whnf)
    | ((refine HS.mk trivial ?_); conv => whnf)
    | ((refine Br.t ?_); conv => whnf)
    | ((refine Br.f ?_); conv => whnf)
    | ((refine Pk.f ?_); conv => whnf)
    | ((refine Pk.t ?_); conv => whnf)
    | ((refine Pk.and ?_); conv => whnf)
    | ((refine Pk.or ?_); conv => whnf)
    | ((refine Ix.nat (by omega) ?_); conv => whnf)
    | ((refine Ix.of _ (by rfl) (by omega) ?_); conv => whnf)
    | ((refine Ix.int (by omega) (by omega) ?_); conv => whnf)
    | ((refine Ar.i64 (by omega) (by omega) ?_); conv => whnf)
    | ((refine Ar.u8 (by omega) (by omega) ?_); conv => whnf)
    | ((refine Ar.u64 (by omega) (by omega) ?_); conv => whnf)
    | ((refine Dv.quo (by omega) (by omega) (by omega) ?_); conv => whnf)
    | ((refine Dv.rem (by omega) (by omega) ?_); conv => whnf)
    | ((refine Br.yes (by omega) ?_); conv => whnf)
    | ((refine Br.no (by omega) ?_); conv => whnf)
    | ((refine Br.nyes (by omega) ?_); conv => whnf)
    | ((refine Br.nno (by omega) ?_); conv => whnf)
    | ((refine Br.is (by assumption) ?_); conv => whnf)
    | ((refine Br.isnt (by assumption) ?_); conv => whnf)
    | ((refine Ld.of (by assumption) ?_); conv => whnf)
    | ((refine Ru.neq_nil0 ?_); conv => whnf)
    | ((refine Ru.neq_nil1 (by decide) ?_); conv => whnf)
    | ((refine Ru.eql_nil0 ?_); conv => whnf)
    | ((refine Ru.eql_nil1 (by decide) ?_); conv => whnf)
    | ((refine Ru.eql_errs (by decide) (by decide) ?_); conv => whnf)
    | ((refine Ru.eql_err0 (by decide) ?_); conv => whnf)
    | ((refine Ru.neq_errs (by decide) (by decide) ?_); conv => whnf)
    | ((refine Ru.neq_err0 (by decide) ?_); conv => whnf)
    | ((refine Ru.neq_nil rfl ?_); conv => whnf)
    | ((refine Ru.eql_nil rfl ?_); conv => whnf)
    | ((refine Ru.eql_err rfl (by decide) ?_); conv => whnf)
    | ((refine Ru.neq_err rfl (by decide) ?_); conv => whnf)
    | ((refine Ru.eqlb Try.underlying4 ?_); conv => whnf)
    | ((refine Ru.neqb Try.underlying4 ?_); conv => whnf)
    | ((refine RuQ.eqlb Try.underlying4 ?_); conv => whnf)
    | ((refine RuQ.neqb Try.underlying4 ?_); conv => whnf)
    | ((refine CW.seq tt_ok ?_); conv => whnf))
  refine Sd.rowAt r1 0 (by omega) (by omega) rfl ?_
  rw [one_put]
  intro w3 r1 k3
  have r2 := r2.keep k3 (by simp; omega)
  have kk : Keep [] w w3 := (k1.trans k2).then k3 (fun x hx => .inr (by rw [List.mem_singleton.1 hx, hg1]; exact Nat.le_refl _))
  conv => whnf
  repeat (first
    | ((refine Ix.of 0 rfl (by omega) ?_); conv => whnf)
    | ((refine HS.mk trivial ?_); conv => whnf)
    | ((refine Br.t ?_); conv => whnf)
    | ((refine Br.f ?_); conv => whnf)
    | ((refine Pk.f ?_); conv => whnf)
    | ((refine Pk.t ?_); conv => whnf)
    | ((refine Pk.and ?_); conv => whnf)
    | ((refine Pk.or ?_); conv => whnf)
    | ((refine Ix.nat (by omega) ?_); conv => whnf)
    | ((refine Ix.of _ (by rfl) (by omega) ?_); conv => whnf)
    | ((refine Ix.int (by omega) (by omega) ?_); conv => whnf)
    | ((refine Ar.i64 (by omega) (by omega) ?_); conv => whnf)
    | ((refine Ar.u8 (by omega) (by omega) ?_); conv => whnf)
    | ((refine Ar.u64 (by omega) (by omega) ?_); conv => whnf)
    | ((refine Dv.quo (by omega) (by omega) (by omega) ?_); conv => whnf)
    | ((refine Dv.rem (by omega) (by omega) ?_); conv => whnf)
    | ((refine Br.yes (by omega) ?_); conv => whnf)
    | ((refine Br.no (by omega) ?_); conv => whnf)
    | ((refine Br.nyes (by omega) ?_); conv => whnf)
    | ((refine Br.nno (by omega) ?_); conv => whnf)
    | ((refine Br.is (by assumption) ?_); conv => whnf)
    | ((refine Br.isnt (by assumption) ?_); conv => whnf)
    | ((refine Ld.of (by assumption) ?_); conv => whnf)
    | ((refine Ru.neq_nil0 ?_); conv => whnf)
    | ((refine Ru.neq_nil1 (by decide) ?_); conv => whnf)
    | ((refine Ru.eql_nil0 ?_); conv => whnf)
    | ((refine Ru.eql_nil1 (by decide) ?_); conv => whnf)
    | ((refine Ru.eql_errs (by decide) (by decide) ?_); conv => whnf)
    | ((refine Ru.eql_err0 (by decide) ?_); conv => whnf)
    | ((refine Ru.neq_errs (by decide) (by decide) ?_); conv => whnf)
    | ((refine Ru.neq_err0 (by decide) ?_); conv => whnf)
    | ((refine Ru.neq_nil rfl ?_); conv => whnf)
    | ((refine Ru.eql_nil rfl ?_); conv => whnf)
    | ((refine Ru.eql_err rfl (by decide) ?_); conv => whnf)
    | ((refine Ru.neq_err rfl (by decide) ?_); conv => whnf)
    | ((refine Ru.eqlb Try.underlying4 ?_); conv => whnf)
    | ((refine Ru.neqb Try.underlying4 ?_); conv => whnf)
    | ((refine RuQ.eqlb Try.underlying4 ?_); conv => whnf)
    | ((refine RuQ.neqb Try.underlying4 ?_); conv => whnf)
    | ((refine CW.seq tt_ok ?_); conv => whnf))
  refine Sd.rowAt r2 0 (by omega) (by omega) rfl ?_
  rw [one_put]
  intro w4 r2 k4
  have r1 := r1.keep k4 (by simp; omega)
  have kk : Keep [] w w4 := kk.then k4 (fun x hx => .inr (by rw [List.mem_singleton.1 hx]; omega))
  conv => whnf
  repeat (first
    | ((refine HS.mk trivial ?_); conv => whnf)
    | ((refine Br.t ?_); conv => whnf)
    | ((refine Br.f ?_); conv => whnf)
    | ((refine Pk.f ?_); conv => whnf)
    | ((refine Pk.t ?_); conv => whnf)
    | ((refine Pk.and ?_); conv => whnf)
    | ((refine Pk.or ?_); conv => whnf)
    | ((refine Ix.nat (by omega) ?_); conv => whnf)
    | ((refine Ix.of _ (by rfl) (by omega) ?_); conv => whnf)
    | ((refine Ix.int (by omega) (by omega) ?_); conv => whnf)
    | ((refine Ar.i64 (by omega) (by omega) ?_); conv => whnf)
    | ((refine Ar.u8 (by omega) (by omega) ?_); conv => whnf)
    | ((refine Ar.u64 (by omega) (by omega) ?_); conv => whnf)
    | ((refine Dv.quo (by omega) (by omega) (by omega) ?_); conv => whnf)
    | ((refine Dv.rem (by omega) (by omega) ?_); conv => whnf)
    | ((refine Br.yes (by omega) ?_); conv => whnf)
    | ((refine Br.no (by omega) ?_); conv => whnf)
    | ((refine Br.nyes (by omega) ?_); conv => whnf)
    | ((refine Br.nno (by omega) ?_); conv => whnf)
    | ((refine Br.is (by assumption) ?_); conv => whnf)
    | ((refine Br.isnt (by assumption) ?_); conv => whnf)
    | ((refine Ld.of (by assumption) ?_); conv => whnf)
    | ((refine Ru.neq_nil0 ?_); conv => whnf)
    | ((refine Ru.neq_nil1 (by decide) ?_); conv => whnf)
    | ((refine Ru.eql_nil0 ?_); conv => whnf)
    | ((refine Ru.eql_nil1 (by decide) ?_); conv => whnf)
    | ((refine Ru.eql_errs (by decide) (by decide) ?_); conv => whnf)
    | ((refine Ru.eql_err0 (by decide) ?_); conv => whnf)
    | ((refine Ru.neq_errs (by decide) (by decide) ?_); conv => whnf)
    | ((refine Ru.neq_err0 (by decide) ?_); conv => whnf)
    | ((refine Ru.neq_nil rfl ?_); conv => whnf)
    | ((refine Ru.eql_nil rfl ?_); conv => whnf)
    | ((refine Ru.eql_err rfl (by decide) ?_); conv => whnf)
    | ((refine Ru.neq_err rfl (by decide) ?_); conv => whnf)
    | ((refine Ru.eqlb Try.underlying4 ?_); conv => whnf)
    | ((refine Ru.neqb Try.underlying4 ?_); conv => whnf)
    | ((refine RuQ.eqlb Try.underlying4 ?_); conv => whnf)
    | ((refine RuQ.neqb Try.underlying4 ?_); conv => whnf)
    | ((refine CW.seq tt_ok ?_); conv => whnf))
  refine Ca.of (new_ok (some ⟨g1, 0, none⟩) (some ⟨g2, 0, none⟩) 12 12 12 12 upA upB w4 (Rd.of_row r1 (Nat.le_refl _)) (Rd.of_row r2 (Nat.le_refl _)) (fun j => by unfold upA; split <;> omega) (fun j => by unfold upB; split <;> omega)) ?_
  rintro _ w5 ⟨k5, ⟨_, h, rfl, hr, hn⟩ | ⟨hno, _⟩⟩
  case inr => exact absurd up_new hno
  have B := HB.new up_new.2.2
  have kk := kk.trans k5
  have hnw : w.heap.size ≤ h := Nat.le_trans (by have := k1.size; have := k2.size; have := k3.size; have := k4.size; omega) hn
  conv => whnf
  repeat (first
    | ((refine HS.mk trivial ?_); conv => whnf)
    | ((refine Br.t ?_); conv => whnf)
    | ((refine Br.f ?_); conv => whnf)
    | ((refine Pk.f ?_); conv => whnf)
    | ((refine Pk.t ?_); conv => whnf)
    | ((refine Pk.and ?_); conv => whnf)
    | ((refine Pk.or ?_); conv => whnf)
    | ((refine Ix.nat (by omega) ?_); conv => whnf)
    | ((refine Ix.of _ (by rfl) (by omega) ?_); conv => whnf)
    | ((refine Ix.int (by omega) (by omega) ?_); conv => whnf)
    | ((refine Ar.i64 (by omega) (by omega) ?_); conv => whnf)
    | ((refine Ar.u8 (by omega) (by omega) ?_); conv => whnf)
    | ((refine Ar.u64 (by omega) (by omega) ?_); conv => whnf)
    | ((refine Dv.quo (by omega) (by omega) (by omega) ?_); conv => whnf)
    | ((refine Dv.rem (by omega) (by omega) ?_); conv => whnf)
    | ((refine Br.yes (by omega) ?_); conv => whnf)
    | ((refine Br.no (by omega) ?_); conv => whnf)
    | ((refine Br.nyes (by omega) ?_); conv => whnf)
    | ((refine Br.nno (by omega) ?_); conv => whnf)
    | ((refine Br.is (by assumption) ?_); conv => whnf)
    | ((refine Br.isnt (by assumption) ?_); conv => whnf)
    | ((refine Ld.of (by assumption) ?_); conv => whnf)
    | ((refine Ru.neq_nil0 ?_); conv => whnf)
    | ((refine Ru.neq_nil1 (by decide) ?_); conv => whnf)
    | ((refine Ru.eql_nil0 ?_); conv => whnf)
    | ((refine Ru.eql_nil1 (by decide) ?_); conv => whnf)
    | ((refine Ru.eql_errs (by decide) (by decide) ?_); conv => whnf)
    | ((refine Ru.eql_err0 (by decide) ?_); conv => whnf)
    | ((refine Ru.neq_errs (by decide) (by decide) ?_); conv => whnf)
    | ((refine Ru.neq_err0 (by decide) ?_); conv => whnf)
    | ((refine Ru.neq_nil rfl ?_); conv => whnf)
    | ((refine Ru.eql_nil rfl ?_); conv => whnf)
    | ((refine Ru.eql_err rfl (by decide) ?_); conv => whnf)
    | ((refine Ru.neq_err rfl (by decide) ?_); conv => whnf)
    | ((refine Ru.eqlb Try.underlying4 ?_); conv => whnf)
    | ((refine Ru.neqb Try.underlying4 ?_); conv => whnf)
    | ((refine RuQ.eqlb Try.underlying4 ?_); conv => whnf)
    | ((refine RuQ.neqb Try.underlying4 ?_); conv => whnf)
    | ((refine CW.seq tt_ok ?_); conv => whnf))
  refine Ru.of (ptr_no _ _ _) ?_
  conv => whnf
  repeat (first
    | ((refine HS.mk trivial ?_); conv => whnf)
    | ((refine Br.t ?_); conv => whnf)
    | ((refine Br.f ?_); conv => whnf)
    | ((refine Pk.f ?_); conv => whnf)
    | ((refine Pk.t ?_); conv => whnf)
    | ((refine Pk.and ?_); conv => whnf)
    | ((refine Pk.or ?_); conv => whnf)
    | ((refine Ix.nat (by omega) ?_); conv => whnf)
    | ((refine Ix.of _ (by rfl) (by omega) ?_); conv => whnf)
    | ((refine Ix.int (by omega) (by omega) ?_); conv => whnf)
    | ((refine Ar.i64 (by omega) (by omega) ?_); conv => whnf)
    | ((refine Ar.u8 (by omega) (by omega) ?_); conv => whnf)
    | ((refine Ar.u64 (by omega) (by omega) ?_); conv => whnf)
    | ((refine Dv.quo (by omega) (by omega) (by omega) ?_); conv => whnf)
    | ((refine Dv.rem (by omega) (by omega) ?_); conv => whnf)
    | ((refine Br.yes (by omega) ?_); conv => whnf)
    | ((refine Br.no (by omega) ?_); conv => whnf)
    | ((refine Br.nyes (by omega) ?_); conv => whnf)
    | ((refine Br.nno (by omega) ?_); conv => whnf)
    | ((refine Br.is (by assumption) ?_); conv => whnf)
    | ((refine Br.isnt (by assumption) ?_); conv => whnf)
    | ((refine Ld.of (by assumption) ?_); conv => whnf)
    | ((refine Ru.neq_nil0 ?_); conv => whnf)
    | ((refine Ru.neq_nil1 (by decide) ?_); conv => whnf)
    | ((refine Ru.eql_nil0 ?_); conv => whnf)
    | ((refine Ru.eql_nil1 (by decide) ?_); conv => whnf)
    | ((refine Ru.eql_errs (by decide) (by decide) ?_); conv => whnf)
    | ((refine Ru.eql_err0 (by decide) ?_); conv => whnf)
    | ((refine Ru.neq_errs (by decide) (by decide) ?_); conv => whnf)
    | ((refine Ru.neq_err0 (by decide) ?_); conv => whnf)
    | ((refine Ru.neq_nil rfl ?_); conv => whnf)
    | ((refine Ru.eql_nil rfl ?_); conv => whnf)
    | ((refine Ru.eql_err rfl (by decide) ?_); conv => whnf)
    | ((refine Ru.neq_err rfl (by decide) ?_); conv => whnf)
    | ((refine Ru.eqlb Try.underlying4 ?_); conv => whnf)
    | ((refine Ru.neqb Try.underlying4 ?_); conv => whnf)
    | ((refine RuQ.eqlb Try.underlying4 ?_); conv => whnf)
    | ((refine RuQ.neqb Try.underlying4 ?_); conv => whnf)
    | ((refine CW.seq tt_ok ?_); conv => whnf))
  refine Ca.of (tired_ok w5 h _ hr 0 (by omega)) ?_
  rintro _ _ ⟨rfl, rfl⟩
  have e1 : decide (newF upA upB 0 ≥ 512) = false := by decide +kernel
  rw [e1]
  conv => whnf
  repeat (first
    | ((refine HS.mk trivial ?_); conv => whnf)
    | ((refine Br.t ?_); conv => whnf)
    | ((refine Br.f ?_); conv => whnf)
    | ((refine Pk.f ?_); conv => whnf)
    | ((refine Pk.t ?_); conv => whnf)
    | ((refine Pk.and ?_); conv => whnf)
    | ((refine Pk.or ?_); conv => whnf)
    | ((refine Ix.nat (by omega) ?_); conv => whnf)
    | ((refine Ix.of _ (by rfl) (by omega) ?_); conv => whnf)
    | ((refine Ix.int (by omega) (by omega) ?_); conv => whnf)
    | ((refine Ar.i64 (by omega) (by omega) ?_); conv => whnf)
    | ((refine Ar.u8 (by omega) (by omega) ?_); conv => whnf)
    | ((refine Ar.u64 (by omega) (by omega) ?_); conv => whnf)
    | ((refine Dv.quo (by omega) (by omega) (by omega) ?_); conv => whnf)
    | ((refine Dv.rem (by omega) (by omega) ?_); conv => whnf)
    | ((refine Br.yes (by omega) ?_); conv => whnf)
    | ((refine Br.no (by omega) ?_); conv => whnf)
    | ((refine Br.nyes (by omega) ?_); conv => whnf)
    | ((refine Br.nno (by omega) ?_); conv => whnf)
    | ((refine Br.is (by assumption) ?_); conv => whnf)
    | ((refine Br.isnt (by assumption) ?_); conv => whnf)
    | ((refine Ld.of (by assumption) ?_); conv => whnf)
    | ((refine Ru.neq_nil0 ?_); conv => whnf)
    | ((refine Ru.neq_nil1 (by decide) ?_); conv => whnf)
    | ((refine Ru.eql_nil0 ?_); conv => whnf)
    | ((refine Ru.eql_nil1 (by decide) ?_); conv => whnf)
    | ((refine Ru.eql_errs (by decide) (by decide) ?_); conv => whnf)
    | ((refine Ru.eql_err0 (by decide) ?_); conv => whnf)
    | ((refine Ru.neq_errs (by decide) (by decide) ?_); conv => whnf)
    | ((refine Ru.neq_err0 (by decide) ?_); conv => whnf)
    | ((refine Ru.neq_nil rfl ?_); conv => whnf)
    | ((refine Ru.eql_nil rfl ?_); conv => whnf)
    | ((refine Ru.eql_err rfl (by decide) ?_); conv => whnf)
    | ((refine Ru.neq_err rfl (by decide) ?_); conv => whnf)
    | ((refine Ru.eqlb Try.underlying4 ?_); conv => whnf)
    | ((refine Ru.neqb Try.underlying4 ?_); conv => whnf)
    | ((refine RuQ.eqlb Try.underlying4 ?_); conv => whnf)
    | ((refine RuQ.neqb Try.underlying4 ?_); conv => whnf)
    | ((refine CW.seq tt_ok ?_); conv => whnf))
  refine Ca.of (read_ok w5 h _ hr B 0 (by omega)) ?_
  rintro _ w6 ⟨rfl, hr, k6⟩
  have B := B.rd (k := 0) (by omega)
  have kk := kk.then k6 (fun x hx => .inr (by rw [List.mem_singleton.1 hx]; exact hnw))
  conv => whnf
  repeat (first
    | ((refine HS.mk trivial ?_); conv => whnf)
    | ((refine Br.t ?_); conv => whnf)
    | ((refine Br.f ?_); conv => whnf)
    | ((refine Pk.f ?_); conv => whnf)
    | ((refine Pk.t ?_); conv => whnf)
    | ((refine Pk.and ?_); conv => whnf)
    | ((refine Pk.or ?_); conv => whnf)
    | ((refine Ix.nat (by omega) ?_); conv => whnf)
    | ((refine Ix.of _ (by rfl) (by omega) ?_); conv => whnf)
    | ((refine Ix.int (by omega) (by omega) ?_); conv => whnf)
    | ((refine Ar.i64 (by omega) (by omega) ?_); conv => whnf)
    | ((refine Ar.u8 (by omega) (by omega) ?_); conv => whnf)
    | ((refine Ar.u64 (by omega) (by omega) ?_); conv => whnf)
    | ((refine Dv.quo (by omega) (by omega) (by omega) ?_); conv => whnf)
    | ((refine Dv.rem (by omega) (by omega) ?_); conv => whnf)
    | ((refine Br.yes (by omega) ?_); conv => whnf)
    | ((refine Br.no (by omega) ?_); conv => whnf)
    | ((refine Br.nyes (by omega) ?_); conv => whnf)
    | ((refine Br.nno (by omega) ?_); conv => whnf)
    | ((refine Br.is (by assumption) ?_); conv => whnf)
    | ((refine Br.isnt (by assumption) ?_); conv => whnf)
    | ((refine Ld.of (by assumption) ?_); conv => whnf)
    | ((refine Ru.neq_nil0 ?_); conv => whnf)
    | ((refine Ru.neq_nil1 (by decide) ?_); conv => whnf)
    | ((refine Ru.eql_nil0 ?_); conv => whnf)
    | ((refine Ru.eql_nil1 (by decide) ?_); conv => whnf)
    | ((refine Ru.eql_errs (by decide) (by decide) ?_); conv => whnf)
    | ((refine Ru.eql_err0 (by decide) ?_); conv => whnf)
    | ((refine Ru.neq_errs (by decide) (by decide) ?_); conv => whnf)
    | ((refine Ru.neq_err0 (by decide) ?_); conv => whnf)
    | ((refine Ru.neq_nil rfl ?_); conv => whnf)
    | ((refine Ru.eql_nil rfl ?_); conv => whnf)
    | ((refine Ru.eql_err rfl (by decide) ?_); conv => whnf)
    | ((refine Ru.neq_err rfl (by decide) ?_); conv => whnf)
    | ((refine Ru.eqlb Try.underlying4 ?_); conv => whnf)
    | ((refine Ru.neqb Try.underlying4 ?_); conv => whnf)
    | ((refine RuQ.eqlb Try.underlying4 ?_); conv => whnf)
    | ((refine RuQ.neqb Try.underlying4 ?_); conv => whnf)
    | ((refine CW.seq tt_ok ?_); conv => whnf))
  refine Ca.of (tired_ok w6 h _ hr 0 (by omega)) ?_
  rintro _ _ ⟨rfl, rfl⟩
  have e1 : decide (rdF (newF upA upB) 0 0 ≥ 512) = true := by decide +kernel
  rw [e1]
  conv => whnf
  repeat (first
    | ((refine HS.mk trivial ?_); conv => whnf)
    | ((refine Br.t ?_); conv => whnf)
    | ((refine Br.f ?_); conv => whnf)
    | ((refine Pk.f ?_); conv => whnf)
    | ((refine Pk.t ?_); conv => whnf)
    | ((refine Pk.and ?_); conv => whnf)
    | ((refine Pk.or ?_); conv => whnf)
    | ((refine Ix.nat (by omega) ?_); conv => whnf)
    | ((refine Ix.of _ (by rfl) (by omega) ?_); conv => whnf)
    | ((refine Ix.int (by omega) (by omega) ?_); conv => whnf)
    | ((refine Ar.i64 (by omega) (by omega) ?_); conv => whnf)
    | ((refine Ar.u8 (by omega) (by omega) ?_); conv => whnf)
    | ((refine Ar.u64 (by omega) (by omega) ?_); conv => whnf)
    | ((refine Dv.quo (by omega) (by omega) (by omega) ?_); conv => whnf)
    | ((refine Dv.rem (by omega) (by omega) ?_); conv => whnf)
    | ((refine Br.yes (by omega) ?_); conv => whnf)
    | ((refine Br.no (by omega) ?_); conv => whnf)
    | ((refine Br.nyes (by omega) ?_); conv => whnf)
    | ((refine Br.nno (by omega) ?_); conv => whnf)
    | ((refine Br.is (by assumption) ?_); conv => whnf)
    | ((refine Br.isnt (by assumption) ?_); conv => whnf)
    | ((refine Ld.of (by assumption) ?_); conv => whnf)
    | ((refine Ru.neq_nil0 ?_); conv => whnf)
    | ((refine Ru.neq_nil1 (by decide) ?_); conv => whnf)
    | ((refine Ru.eql_nil0 ?_); conv => whnf)
    | ((refine Ru.eql_nil1 (by decide) ?_); conv => whnf)
    | ((refine Ru.eql_errs (by decide) (by decide) ?_); conv => whnf)
    | ((refine Ru.eql_err0 (by decide) ?_); conv => whnf)
    | ((refine Ru.neq_errs (by decide) (by decide) ?_); conv => whnf)
    | ((refine Ru.neq_err0 (by decide) ?_); conv => whnf)
    | ((refine Ru.neq_nil rfl ?_); conv => whnf)
    | ((refine Ru.eql_nil rfl ?_); conv => whnf)
    | ((refine Ru.eql_err rfl (by decide) ?_); conv => whnf)
    | ((refine Ru.neq_err rfl (by decide) ?_); conv => whnf)
    | ((refine Ru.eqlb Try.underlying4 ?_); conv => whnf)
    | ((refine Ru.neqb Try.underlying4 ?_); conv => whnf)
    | ((refine RuQ.eqlb Try.underlying4 ?_); conv => whnf)
    | ((refine RuQ.neqb Try.underlying4 ?_); conv => whnf)
    | ((refine CW.seq tt_ok ?_); conv => whnf))
  refine Ca.of (weak_ok w6 h _ hr 0 (by omega)) ?_
  rintro _ _ ⟨rfl, rfl⟩
  have e1 : decide (rdF (newF upA upB) 0 (12 + 0) ≥ 3) = false := by decide +kernel
  rw [e1]
  conv => whnf
  repeat (first
    | ((refine HS.mk trivial ?_); conv => whnf)
    | ((refine Br.t ?_); conv => whnf)
    | ((refine Br.f ?_); conv => whnf)
    | ((refine Pk.f ?_); conv => whnf)
    | ((refine Pk.t ?_); conv => whnf)
    | ((refine Pk.and ?_); conv => whnf)
    | ((refine Pk.or ?_); conv => whnf)
    | ((refine Ix.nat (by omega) ?_); conv => whnf)
    | ((refine Ix.of _ (by rfl) (by omega) ?_); conv => whnf)
    | ((refine Ix.int (by omega) (by omega) ?_); conv => whnf)
    | ((refine Ar.i64 (by omega) (by omega) ?_); conv => whnf)
    | ((refine Ar.u8 (by omega) (by omega) ?_); conv => whnf)
    | ((refine Ar.u64 (by omega) (by omega) ?_); conv => whnf)
    | ((refine Dv.quo (by omega) (by omega) (by omega) ?_); conv => whnf)
    | ((refine Dv.rem (by omega) (by omega) ?_); conv => whnf)
    | ((refine Br.yes (by omega) ?_); conv => whnf)
    | ((refine Br.no (by omega) ?_); conv => whnf)
    | ((refine Br.nyes (by omega) ?_); conv => whnf)
    | ((refine Br.nno (by omega) ?_); conv => whnf)
    | ((refine Br.is (by assumption) ?_); conv => whnf)
    | ((refine Br.isnt (by assumption) ?_); conv => whnf)
    | ((refine Ld.of (by assumption) ?_); conv => whnf)
    | ((refine Ru.neq_nil0 ?_); conv => whnf)
    | ((refine Ru.neq_nil1 (by decide) ?_); conv => whnf)
    | ((refine Ru.eql_nil0 ?_); conv => whnf)
    | ((refine Ru.eql_nil1 (by decide) ?_); conv => whnf)
    | ((refine Ru.eql_errs (by decide) (by decide) ?_); conv => whnf)
    | ((refine Ru.eql_err0 (by decide) ?_); conv => whnf)
    | ((refine Ru.neq_errs (by decide) (by decide) ?_); conv => whnf)
    | ((refine Ru.neq_err0 (by decide) ?_); conv => whnf)
    | ((refine Ru.neq_nil rfl ?_); conv => whnf)
    | ((refine Ru.eql_nil rfl ?_); conv => whnf)
    | ((refine Ru.eql_err rfl (by decide) ?_); conv => whnf)
    | ((refine Ru.neq_err rfl (by decide) ?_); conv => whnf)
    | ((refine Ru.eqlb Try.underlying4 ?_); conv => whnf)
    | ((refine Ru.neqb Try.underlying4 ?_); conv => whnf)
    | ((refine RuQ.eqlb Try.underlying4 ?_); conv => whnf)
    | ((refine RuQ.neqb Try.underlying4 ?_); conv => whnf)
    | ((refine CW.seq tt_ok ?_); conv => whnf))
  refine Ca.of (report_ok w6 h _ hr B 0 (by omega)) ?_
  rintro _ w7 ⟨rfl, hr, k7⟩
  have kk := kk.then k7 (fun x hx => .inr (by rw [List.mem_singleton.1 hx]; exact hnw))
  conv => whnf
  repeat (first
    | ((refine HS.mk trivial ?_); conv => whnf)
    | ((refine Br.t ?_); conv => whnf)
    | ((refine Br.f ?_); conv => whnf)
    | ((refine Pk.f ?_); conv => whnf)
    | ((refine Pk.t ?_); conv => whnf)
    | ((refine Pk.and ?_); conv => whnf)
    | ((refine Pk.or ?_); conv => whnf)
    | ((refine Ix.nat (by omega) ?_); conv => whnf)
    | ((refine Ix.of _ (by rfl) (by omega) ?_); conv => whnf)
    | ((refine Ix.int (by omega) (by omega) ?_); conv => whnf)
    | ((refine Ar.i64 (by omega) (by omega) ?_); conv => whnf)
    | ((refine Ar.u8 (by omega) (by omega) ?_); conv => whnf)
    | ((refine Ar.u64 (by omega) (by omega) ?_); conv => whnf)
    | ((refine Dv.quo (by omega) (by omega) (by omega) ?_); conv => whnf)
    | ((refine Dv.rem (by omega) (by omega) ?_); conv => whnf)
    | ((refine Br.yes (by omega) ?_); conv => whnf)
    | ((refine Br.no (by omega) ?_); conv => whnf)
    | ((refine Br.nyes (by omega) ?_); conv => whnf)
    | ((refine Br.nno (by omega) ?_); conv => whnf)
    | ((refine Br.is (by assumption) ?_); conv => whnf)
    | ((refine Br.isnt (by assumption) ?_); conv => whnf)
    | ((refine Ld.of (by assumption) ?_); conv => whnf)
    | ((refine Ru.neq_nil0 ?_); conv => whnf)
    | ((refine Ru.neq_nil1 (by decide) ?_); conv => whnf)
    | ((refine Ru.eql_nil0 ?_); conv => whnf)
    | ((refine Ru.eql_nil1 (by decide) ?_); conv => whnf)
    | ((refine Ru.eql_errs (by decide) (by decide) ?_); conv => whnf)
    | ((refine Ru.eql_err0 (by decide) ?_); conv => whnf)
    | ((refine Ru.neq_errs (by decide) (by decide) ?_); conv => whnf)
    | ((refine Ru.neq_err0 (by decide) ?_); conv => whnf)
    | ((refine Ru.neq_nil rfl ?_); conv => whnf)
    | ((refine Ru.eql_nil rfl ?_); conv => whnf)
    | ((refine Ru.eql_err rfl (by decide) ?_); conv => whnf)
    | ((refine Ru.neq_err rfl (by decide) ?_); conv => whnf)
    | ((refine Ru.eqlb Try.underlying4 ?_); conv => whnf)
    | ((refine Ru.neqb Try.underlying4 ?_); conv => whnf)
    | ((refine RuQ.eqlb Try.underlying4 ?_); conv => whnf)
    | ((refine RuQ.neqb Try.underlying4 ?_); conv => whnf)
    | ((refine CW.seq tt_ok ?_); conv => whnf))
  refine Ca.of (weak_ok w7 h _ hr 0 (by omega)) ?_
  rintro _ _ ⟨rfl, rfl⟩
  have e1 : decide (rpF (rdF (newF upA upB) 0) 0 (12 + 0) ≥ 3) = true := by decide +kernel
  rw [e1]
  conv => whnf
  repeat (first
    | ((refine HS.mk trivial ?_); conv => whnf)
    | ((refine Br.t ?_); conv => whnf)
    | ((refine Br.f ?_); conv => whnf)
    | ((refine Pk.f ?_); conv => whnf)
    | ((refine Pk.t ?_); conv => whnf)
    | ((refine Pk.and ?_); conv => whnf)
    | ((refine Pk.or ?_); conv => whnf)
    | ((refine Ix.nat (by omega) ?_); conv => whnf)
    | ((refine Ix.of _ (by rfl) (by omega) ?_); conv => whnf)
    | ((refine Ix.int (by omega) (by omega) ?_); conv => whnf)
    | ((refine Ar.i64 (by omega) (by omega) ?_); conv => whnf)
    | ((refine Ar.u8 (by omega) (by omega) ?_); conv => whnf)
    | ((refine Ar.u64 (by omega) (by omega) ?_); conv => whnf)
    | ((refine Dv.quo (by omega) (by omega) (by omega) ?_); conv => whnf)
    | ((refine Dv.rem (by omega) (by omega) ?_); conv => whnf)
    | ((refine Br.yes (by omega) ?_); conv => whnf)
    | ((refine Br.no (by omega) ?_); conv => whnf)
    | ((refine Br.nyes (by omega) ?_); conv => whnf)
    | ((refine Br.nno (by omega) ?_); conv => whnf)
    | ((refine Br.is (by assumption) ?_); conv => whnf)
    | ((refine Br.isnt (by assumption) ?_); conv => whnf)
    | ((refine Ld.of (by assumption) ?_); conv => whnf)
    | ((refine Ru.neq_nil0 ?_); conv => whnf)
    | ((refine Ru.neq_nil1 (by decide) ?_); conv => whnf)
    | ((refine Ru.eql_nil0 ?_); conv => whnf)
    | ((refine Ru.eql_nil1 (by decide) ?_); conv => whnf)
    | ((refine Ru.eql_errs (by decide) (by decide) ?_); conv => whnf)
    | ((refine Ru.eql_err0 (by decide) ?_); conv => whnf)
    | ((refine Ru.neq_errs (by decide) (by decide) ?_); conv => whnf)
    | ((refine Ru.neq_err0 (by decide) ?_); conv => whnf)
    | ((refine Ru.neq_nil rfl ?_); conv => whnf)
    | ((refine Ru.eql_nil rfl ?_); conv => whnf)
    | ((refine Ru.eql_err rfl (by decide) ?_); conv => whnf)
    | ((refine Ru.neq_err rfl (by decide) ?_); conv => whnf)
    | ((refine Ru.eqlb Try.underlying4 ?_); conv => whnf)
    | ((refine Ru.neqb Try.underlying4 ?_); conv => whnf)
    | ((refine RuQ.eqlb Try.underlying4 ?_); conv => whnf)
    | ((refine RuQ.neqb Try.underlying4 ?_); conv => whnf)
    | ((refine CW.seq tt_ok ?_); conv => whnf))
  exact ⟨rfl, rfl, kk⟩
theorem ofE_cases (a : Int) : (∃ k : Nat, k < 12 ∧ a = k ∧ ofE a = 0) ∨ (¬ (0 ≤ a ∧ a < 12) ∧ ofE a = 1) := by
  by_cases h : 0 ≤ a ∧ a < 12
  · exact .inl ⟨a.toNat, by omega, by omega, if_pos h⟩
  · exact .inr ⟨h, if_neg h⟩
def readA (F : Nat → Int) (a : Int) : Nat → Int := if 0 ≤ a ∧ a < 12 then rdF F a.toNat else F
theorem readA_in (F : Nat → Int) {k : Nat} (hk : k < 12) : readA F (k : Int) = rdF F k := by
  unfold readA
  rw [if_pos (by omega), Int.toNat_natCast]
theorem HB.readX {F : Nat → Int} (h : HB F) (a : Int) : HB (readA F a) := by
  rcases ofE_cases a with ⟨k, hk, rfl, _⟩ | ⟨hn, _⟩
  · rw [readA_in F hk]
    exact h.rd hk
  · have e : readA F a = F := if_neg hn
    rw [e]
    exact h
theorem read_any (w : World) (h : Nat) (F : Nat → Int) (r : Hr w h F) (B : HB F) (a : Int) : Spec Try.prog 15 #[.pointer (some ⟨h, 0, none⟩), .int .i64 a] w fun v w' => v = errOf (ofE a) ∧ Hr w' h (readA F a) ∧ Keep [h] w w' := by
  rcases ofE_cases a with ⟨k, hk, rfl, e⟩ | ⟨hn, e⟩
  · rw [e, readA_in F hk]
    exact read_ok w h F r B k hk
  · have e2 : readA F a = F := if_neg hn
    rw [e, e2]
    refine ⟨(read_out w h a e).1, (read_out w h a e).2.mono ?_⟩
    rintro _ w' ⟨v, rfl, rfl, rfl⟩
    exact ⟨_, rfl, rfl, r, Keep.refl _ _⟩
theorem rread_any (w : World) (h : Nat) (F : Nat → Int) (r : Rr w h F) (B : HB F) (a : Int) : Spec Try.prog 23 #[.pointer (some ⟨h, 0, none⟩), .int .i64 a] w fun v w' => v = .int .i64 (ofE a) ∧ Rr w' h (readA F a) ∧ Keep [h] w w' := by
  rcases ofE_cases a with ⟨k, hk, rfl, e⟩ | ⟨hn, e⟩
  · rw [e, readA_in F hk]
    exact rread_ok w h F r B k hk
  · have e2 : readA F a = F := if_neg hn
    rw [e, e2]
    refine ⟨(rread_out w h a e).1, (rread_out w h a e).2.mono ?_⟩
    rintro _ w' ⟨v, rfl, rfl, rfl⟩
    exact ⟨_, rfl, rfl, r, Keep.refl _ _⟩
def reportA (F : Nat → Int) (a : Int) : Nat → Int := if 0 ≤ a ∧ a < 12 then rpF F a.toNat else F
theorem reportA_in (F : Nat → Int) {k : Nat} (hk : k < 12) : reportA F (k : Int) = rpF F k := by
  unfold reportA
  rw [if_pos (by omega), Int.toNat_natCast]
theorem HB.reportX {F : Nat → Int} (h : HB F) (a : Int) : HB (reportA F a) := by
  rcases ofE_cases a with ⟨k, hk, rfl, _⟩ | ⟨hn, _⟩
  · rw [reportA_in F hk]
    exact h.rp hk
  · have e : reportA F a = F := if_neg hn
    rw [e]
    exact h
theorem report_any (w : World) (h : Nat) (F : Nat → Int) (r : Hr w h F) (B : HB F) (a : Int) : Spec Try.prog 16 #[.pointer (some ⟨h, 0, none⟩), .int .i64 a] w fun v w' => v = errOf (ofE a) ∧ Hr w' h (reportA F a) ∧ Keep [h] w w' := by
  rcases ofE_cases a with ⟨k, hk, rfl, e⟩ | ⟨hn, e⟩
  · rw [e, reportA_in F hk]
    exact report_ok w h F r B k hk
  · have e2 : reportA F a = F := if_neg hn
    rw [e, e2]
    refine ⟨(report_out w h a e).1, (report_out w h a e).2.mono ?_⟩
    rintro _ w' ⟨v, rfl, rfl, rfl⟩
    exact ⟨_, rfl, rfl, r, Keep.refl _ _⟩
theorem rreport_any (w : World) (h : Nat) (F : Nat → Int) (r : Rr w h F) (B : HB F) (a : Int) : Spec Try.prog 24 #[.pointer (some ⟨h, 0, none⟩), .int .i64 a] w fun v w' => v = .int .i64 (ofE a) ∧ Rr w' h (reportA F a) ∧ Keep [h] w w' := by
  rcases ofE_cases a with ⟨k, hk, rfl, e⟩ | ⟨hn, e⟩
  · rw [e, reportA_in F hk]
    exact rreport_ok w h F r B k hk
  · have e2 : reportA F a = F := if_neg hn
    rw [e, e2]
    refine ⟨(rreport_out w h a e).1, (rreport_out w h a e).2.mono ?_⟩
    rintro _ w' ⟨v, rfl, rfl, rfl⟩
    exact ⟨_, rfl, rfl, r, Keep.refl _ _⟩
def erasedA (F : Nat → Int) (a : Int) : Nat → Int := if 0 ≤ a ∧ a < 12 then erF F a.toNat else F
theorem erasedA_in (F : Nat → Int) {k : Nat} (hk : k < 12) : erasedA F (k : Int) = erF F k := by
  unfold erasedA
  rw [if_pos (by omega), Int.toNat_natCast]
theorem HB.erasedX {F : Nat → Int} (h : HB F) (a : Int) : HB (erasedA F a) := by
  rcases ofE_cases a with ⟨k, hk, rfl, _⟩ | ⟨hn, _⟩
  · rw [erasedA_in F hk]
    exact h.er hk
  · have e : erasedA F a = F := if_neg hn
    rw [e]
    exact h
theorem erased_any (w : World) (h : Nat) (F : Nat → Int) (r : Hr w h F) (B : HB F) (a : Int) : Spec Try.prog 17 #[.pointer (some ⟨h, 0, none⟩), .int .i64 a] w fun v w' => v = errOf (ofE a) ∧ Hr w' h (erasedA F a) ∧ Keep [h] w w' := by
  rcases ofE_cases a with ⟨k, hk, rfl, e⟩ | ⟨hn, e⟩
  · rw [e, erasedA_in F hk]
    exact erased_ok w h F r k hk
  · have e2 : erasedA F a = F := if_neg hn
    rw [e, e2]
    refine ⟨(erased_out w h a e).1, (erased_out w h a e).2.mono ?_⟩
    rintro _ w' ⟨v, rfl, rfl, rfl⟩
    exact ⟨_, rfl, rfl, r, Keep.refl _ _⟩
theorem rerased_any (w : World) (h : Nat) (F : Nat → Int) (r : Rr w h F) (B : HB F) (a : Int) : Spec Try.prog 25 #[.pointer (some ⟨h, 0, none⟩), .int .i64 a] w fun v w' => v = .int .i64 (ofE a) ∧ Rr w' h (erasedA F a) ∧ Keep [h] w w' := by
  rcases ofE_cases a with ⟨k, hk, rfl, e⟩ | ⟨hn, e⟩
  · rw [e, erasedA_in F hk]
    exact rerased_ok w h F r k hk
  · have e2 : erasedA F a = F := if_neg hn
    rw [e, e2]
    refine ⟨(rerased_out w h a e).1, (rerased_out w h a e).2.mono ?_⟩
    rintro _ w' ⟨v, rfl, rfl, rfl⟩
    exact ⟨_, rfl, rfl, r, Keep.refl _ _⟩
theorem code_sp (c : Int) (h0 : 0 ≤ c) (h1 : c ≤ 19) (w : World) : Spec Try.prog 22 #[errOf c] w fun v w' => v = .int .i64 c ∧ w = w' := Spec.of_calls (by kernel_rfl) (code_any c h0 h1 w)
theorem ofE_bd (a : Int) : 0 ≤ ofE a ∧ ofE a ≤ 19 := by
  unfold ofE
  split <;> omega
def opc (a b c : Int) (j : Nat) : Value := (#[.int .i64 a, .int .i64 b, .int .i64 c] : Array Value).getD j .nilIface
theorem op_range (a b c : Int) : (Array.range 3).map (opc a b c) = #[.int .i64 a, .int .i64 b, .int .i64 c] := by
  apply Array.ext
  · simp
  · intro i h1 h2
    have h3 : i < 3 := by simpa using h1
    have : i = 0 ∨ i = 1 ∨ i = 2 := by omega
    rcases this with rfl | rfl | rfl <;> simp [opc]
theorem Ru.boxop {a b c : Int} {w : World} {K : Value → World → Prop} (k : ∀ g w', g = w.heap.size → w'.heap.size = w.heap.size + 1 → Row w' g 36 3 (opc a b c) → Keep [] w w' → K (.pointer (some ⟨g, 0, none⟩)) w') : Ru Try.prog (Instr.box 36 (.agg #[.int .i64 a, .int .i64 b, .int .i64 c])) w K :=
  ⟨_, w.alloc (.cells #[.int .i64 a, .int .i64 b, .int .i64 c] 36), rfl, k _ _ rfl (by simp) (by
    unfold Row
    rw [op_range]
    exact heap_alloc_new _ _) ((Keep.refl _ _).alloc _)⟩
def I64 (x : Int) : Prop := -9223372036854775808 ≤ x ∧ x ≤ 9223372036854775807
/-- Both stand alike. -/
def Both (w0 w : World) (h r : Nat) : Prop := ∃ F, HB F ∧ Hr w h F ∧ Rr w r F ∧ Keep [h, r] w0 w
end Go.Proofs.Ytkdocaimkphooaa
