/- Layer 16's law: pick, stands, step. -/
import Derived.Test.YtkdocaimkphooaaHealth3
namespace Go.Proofs.Ytkdocaimkphooaa
open Go.RowKit
set_option linter.unusedVariables false
theorem Ly.row_ne {w : World} {t t' : TypeId} {s n c g m : Nat} {A : Option Addr} {f f' : Nat → Value} (h : Ly w t s A n c f) (r : Row w g t' m f') (ht : t ≠ t') : g ∉ blk A := by
  intro hx
  cases A with
  | none => cases hx
  | some a =>
    obtain ⟨b, cur, fr, rfl, hh, _⟩ := h.2.2.2 a rfl
    obtain rfl := List.mem_singleton.1 hx
    rw [r] at hh
    injection hh with hh
    injection hh with _ e
    exact ht e.symm
theorem Ly.drewN {w : World} {t : TypeId} {s : Nat} {X : Option Addr} {n c : Nat} {f : Nat → Value} (h : Ly w t s X n c f) (k : Nat) : Ly (w.drewN k) t s X n c f := h.keep0 ((Keep.refl [] w).drewN k)
theorem Sd.ly {w : World} {t : TypeId} {X : Option Addr} {n c : Nat} {f : Nat → Value} (h : Ly w t 1 X n c f) {g i : Nat} (e : X = some ⟨g, 0, none⟩) (j : Nat) (ei : i = j) (hj : j < n) {v : Value} {K : World → Prop} (h1 : v.oneCell' = true)
    (k : ∀ w', Ly w' t 1 X n c (put f j v) → Keep [g] w w' → K w') : Sd w ⟨g, i, none⟩ v K := by
  subst ei
  obtain ⟨g', e', hc, hf⟩ := h.at1 hj
  rw [e] at e'
  injection e' with e'
  injection e' with e'
  subst e'
  exact ⟨⟨_, hc⟩, hf, h1, k _ (h.set e i v) (Keep.set g i v)⟩
theorem Ly.some {w : World} {t : TypeId} {X : Option Addr} {n c : Nat} {f : Nat → Value} (h : Ly w t 1 X n c f) (hn : 0 < n) : ∃ g, X = some ⟨g, 0, none⟩ ∧ ∀ j, j < n → w.cell? ⟨g, j, none⟩ = some (f j) := by
  obtain ⟨g, e, _, _⟩ := h.at1 hn
  refine ⟨g, e, fun j hj => ?_⟩
  obtain ⟨g', e', hc, _⟩ := h.at1 hj
  rw [e] at e'
  injection e' with e'
  injection e' with e'
  subst e'
  exact hc
def pickF (c n : Int) : Int := (if c < 0 then -(c + 1) else c) % n
theorem pickF_bd (c : Int) {n : Int} (h : 0 < n) : 0 ≤ pickF c n ∧ pickF c n < n := ⟨Int.emod_nonneg _ (by omega), Int.emod_lt_of_pos _ h⟩
theorem pick_ok (c n : Int) (w : World) (hc : -9223372036854775808 ≤ c ∧ c ≤ 9223372036854775807) (hn : 0 < n) : Spec Try.prog 12 #[.int .i64 c, .int .i64 n] w fun v w' => v = .int .i64 (pickF c n) ∧ w = w' := by
  have hp : ∀ d, d = (if c < 0 then -(c + 1) else c) → d % n = pickF c n := fun d h => by rw [h]; rfl
  generalize pickF c n = p at *
  refine spec_of_wpE (T := tt) tt_ok Try.func12 rfl (by decide +kernel) Try.ntmps12 (by simp) ?_
  by_cases h : c < 0
  · have e := hp (-(c + 1)) (by rw [if_pos h])
    conv => whnf
    repeat (first
      | ((refine Ar.i64 (x := 0 - (c + 1)) (by omega) (by omega) ?_); conv => whnf)
      | ((refine HS.mk trivial ?_); conv => whnf)
      | ((refine Br.t ?_); conv => whnf)
      | ((refine Br.f ?_); conv => whnf)
      | ((refine Pk.f ?_); conv => whnf)
      | ((refine Pk.t ?_); conv => whnf)
      | ((refine Pk.and ?_); conv => whnf)
      | ((refine Pk.or ?_); conv => whnf)
      | ((refine Ix.nat (by omega) ?_); conv => whnf)
      | ((refine Ix.of _ (by rfl) (by omega) ?_); conv => whnf)
      | ((refine Ix.int (by omega) (by omega) ?_); conv => whnf)
      | ((refine Ar.i64 (by omega) (by omega) ?_); conv => whnf)
      | ((refine Ar.u8 (by omega) (by omega) ?_); conv => whnf)
      | ((refine Ar.u64 (by omega) (by omega) ?_); conv => whnf)
      | ((refine Dv.quo (by omega) (by omega) (by omega) ?_); conv => whnf)
      | ((refine Dv.rem (by omega) (by omega) ?_); conv => whnf)
      | ((refine Br.yes (by omega) ?_); conv => whnf)
      | ((refine Br.no (by omega) ?_); conv => whnf)
      | ((refine Br.nyes (by omega) ?_); conv => whnf)
      | ((refine Br.nno (by omega) ?_); conv => whnf)
      | ((refine Br.is (by assumption) ?_); conv => whnf)
      | ((refine Br.isnt (by assumption) ?_); conv => whnf)
      | ((refine Ld.of (by assumption) ?_); conv => whnf)
      | ((refine Ru.neq_nil0 ?_); conv => whnf)
      | ((refine Ru.neq_nil1 (by decide) ?_); conv => whnf)
      | ((refine Ru.eql_nil0 ?_); conv => whnf)
      | ((refine Ru.eql_nil1 (by decide) ?_); conv => whnf)
      | ((refine Ru.eql_errs (by decide) (by decide) ?_); conv => whnf)
      | ((refine Ru.eql_err0 (by decide) ?_); conv => whnf)
      | ((refine Ru.neq_errs (by decide) (by decide) ?_); conv => whnf)
      | ((refine Ru.neq_err0 (by decide) ?_); conv => whnf)
      | ((refine Ru.neq_nil rfl ?_); conv => whnf)
      | ((refine Ru.eql_nil rfl ?_); conv => whnf)
      | ((refine Ru.eql_err rfl (by decide) ?_); conv => whnf)
      | ((refine Ru.neq_err rfl (by decide) ?_); conv => whnf)
      | ((refine Ru.eqlb Try.underlying4 ?_); conv => whnf)
      | ((refine Ru.neqb Try.underlying4 ?_); conv => whnf)
      | ((refine RuQ.eqlb Try.underlying4 ?_); conv => whnf)
      | ((refine RuQ.neqb Try.underlying4 ?_); conv => whnf)
      | ((refine CW.seq tt_ok ?_); conv => whnf))
    exact ⟨rfl, vi (by rw [← e]; congr 1; omega), rfl⟩
  · have e := hp c (by rw [if_neg h])
    conv => whnf
    repeat (first
      | ((refine HS.mk trivial ?_); conv => whnf)
      | ((refine Br.t ?_); conv => whnf)
      | ((refine Br.f ?_); conv => whnf)
      | ((refine Pk.f ?_); conv => whnf)
      | ((refine Pk.t ?_); conv => whnf)
      | ((refine Pk.and ?_); conv => whnf)
      | ((refine Pk.or ?_); conv => whnf)
      | ((refine Ix.nat (by omega) ?_); conv => whnf)
      | ((refine Ix.of _ (by rfl) (by omega) ?_); conv => whnf)
      | ((refine Ix.int (by omega) (by omega) ?_); conv => whnf)
      | ((refine Ar.i64 (by omega) (by omega) ?_); conv => whnf)
      | ((refine Ar.u8 (by omega) (by omega) ?_); conv => whnf)
      | ((refine Ar.u64 (by omega) (by omega) ?_); conv => whnf)
      | ((refine Dv.quo (by omega) (by omega) (by omega) ?_); conv => whnf)
      | ((refine Dv.rem (by omega) (by omega) ?_); conv => whnf)
      | ((refine Br.yes (by omega) ?_); conv => whnf)
      | ((refine Br.no (by omega) ?_); conv => whnf)
      | ((refine Br.nyes (by omega) ?_); conv => whnf)
      | ((refine Br.nno (by omega) ?_); conv => whnf)
      | ((refine Br.is (by assumption) ?_); conv => whnf)
      | ((refine Br.isnt (by assumption) ?_); conv => whnf)
      | ((refine Ld.of (by assumption) ?_); conv => whnf)
      | ((refine Ru.neq_nil0 ?_); conv => whnf)
      | ((refine Ru.neq_nil1 (by decide) ?_); conv => whnf)
      | ((refine Ru.eql_nil0 ?_); conv => whnf)
      | ((refine Ru.eql_nil1 (by decide) ?_); conv => whnf)
      | ((refine Ru.eql_errs (by decide) (by decide) ?_); conv => whnf)
      | ((refine Ru.eql_err0 (by decide) ?_); conv => whnf)
      | ((refine Ru.neq_errs (by decide) (by decide) ?_); conv => whnf)
      | ((refine Ru.neq_err0 (by decide) ?_); conv => whnf)
      | ((refine Ru.neq_nil rfl ?_); conv => whnf)
      | ((refine Ru.eql_nil rfl ?_); conv => whnf)
      | ((refine Ru.eql_err rfl (by decide) ?_); conv => whnf)
      | ((refine Ru.neq_err rfl (by decide) ?_); conv => whnf)
      | ((refine Ru.eqlb Try.underlying4 ?_); conv => whnf)
      | ((refine Ru.neqb Try.underlying4 ?_); conv => whnf)
      | ((refine RuQ.eqlb Try.underlying4 ?_); conv => whnf)
      | ((refine RuQ.neqb Try.underlying4 ?_); conv => whnf)
      | ((refine CW.seq tt_ok ?_); conv => whnf))
    exact ⟨rfl, vi e, rfl⟩
theorem ptr_no (w : World) (x : Operand) (a : Addr) : (do eqGuard .eql 25 x (.const (.pointer none)) (.pointer (some a)) (.pointer none); binOp .eql 25 (.pointer (some a)) (.pointer none) : Sem Value).run Try.prog w = .ok (.bool false) w := by kernel_rfl
theorem ptr_yes (w : World) (x : Operand) : (do eqGuard .eql 25 x (.const (.pointer none)) (.pointer none) (.pointer none); binOp .eql 25 (.pointer none) (.pointer none) : Sem Value).run Try.prog w = .ok (.bool true) w := by kernel_rfl
def wr3 (i : Nat) (f : Nat → Int) : Nat → Int := fun j => if j < i then -3 else f j
theorem wr3_put (i : Nat) (f : Nat → Int) : put (fun j => Value.int .i64 (wr3 i f j)) i (.int .i64 (-3)) = fun j => .int .i64 (wr3 (i + 1) f j) := by
  funext j
  unfold put wr3
  by_cases h : j = i
  · subst h
    rw [if_pos rfl, if_pos (by omega)]
  · rw [if_neg h]
    show Value.int .i64 (if j < i then -3 else f j) = _
    by_cases h2 : j < i
    · rw [if_pos h2, if_pos (by omega)]
    · rw [if_neg h2, if_neg (by omega)]
set_option maxHeartbeats 2000000 in
theorem stands_ok (w : World) (h r : Nat) (F : Nat → Int) (hr : Hr w h F) (rr : Rr w r F) : Spec Try.prog 11 #[.pointer (some ⟨h, 0, none⟩), .pointer (some ⟨r, 0, none⟩)] w fun v w' => v = .bool true ∧ Keep [] w w' := by
  refine spec_of_wpE (T := tt) tt_ok Try.func11 rfl (by decide +kernel) Try.ntmps11 (by simp) ?_
  conv => whnf
  repeat (first
    | ((refine HS.mk trivial ?_); conv => whnf)
    | ((refine Br.t ?_); conv => whnf)
    | ((refine Br.f ?_); conv => whnf)
    | ((refine Pk.f ?_); conv => whnf)
    | ((refine Pk.t ?_); conv => whnf)
    | ((refine Pk.and ?_); conv => whnf)
    | ((refine Pk.or ?_); conv => whnf)
    | ((refine Ix.nat (by omega) ?_); conv => whnf)
    | ((refine Ix.of _ (by rfl) (by omega) ?_); conv => whnf)
    | ((refine Ix.int (by omega) (by omega) ?_); conv => whnf)
    | ((refine Ar.i64 (by omega) (by omega) ?_); conv => whnf)
    | ((refine Ar.u8 (by omega) (by omega) ?_); conv => whnf)
    | ((refine Ar.u64 (by omega) (by omega) ?_); conv => whnf)
    | ((refine Dv.quo (by omega) (by omega) (by omega) ?_); conv => whnf)
    | ((refine Dv.rem (by omega) (by omega) ?_); conv => whnf)
    | ((refine Br.yes (by omega) ?_); conv => whnf)
    | ((refine Br.no (by omega) ?_); conv => whnf)
    | ((refine Br.nyes (by omega) ?_); conv => whnf)
    | ((refine Br.nno (by omega) ?_); conv => whnf)
    | ((refine Br.is (by assumption) ?_); conv => whnf)
    | ((refine Br.isnt (by assumption) ?_); conv => whnf)
    | ((refine Ld.of (by assumption) ?_); conv => whnf)
    | ((refine Ru.neq_nil0 ?_); conv => whnf)
    | ((refine Ru.neq_nil1 (by decide) ?_); conv => whnf)
    | ((refine Ru.eql_nil0 ?_); conv => whnf)
    | ((refine Ru.eql_nil1 (by decide) ?_); conv => whnf)
    | ((refine Ru.eql_errs (by decide) (by decide) ?_); conv => whnf)
    | ((refine Ru.eql_err0 (by decide) ?_); conv => whnf)
    | ((refine Ru.neq_errs (by decide) (by decide) ?_); conv => whnf)
    | ((refine Ru.neq_err0 (by decide) ?_); conv => whnf)
    | ((refine Ru.neq_nil rfl ?_); conv => whnf)
    | ((refine Ru.eql_nil rfl ?_); conv => whnf)
    | ((refine Ru.eql_err rfl (by decide) ?_); conv => whnf)
    | ((refine Ru.neq_err rfl (by decide) ?_); conv => whnf)
    | ((refine Ru.eqlb Try.underlying4 ?_); conv => whnf)
    | ((refine Ru.neqb Try.underlying4 ?_); conv => whnf)
    | ((refine RuQ.eqlb Try.underlying4 ?_); conv => whnf)
    | ((refine RuQ.neqb Try.underlying4 ?_); conv => whnf)
    | ((refine CW.seq tt_ok ?_); conv => whnf))
  refine Ca.of (reads_ok w h F hr) ?_
  rintro _ w1 ⟨Y, e, rfl, OY⟩
  have hr := hr.keep OY.keep (by simp)
  have rr := rr.keep OY.keep (by simp)
  conv => whnf
  repeat (first
    | ((refine HS.mk trivial ?_); conv => whnf)
    | ((refine Br.t ?_); conv => whnf)
    | ((refine Br.f ?_); conv => whnf)
    | ((refine Pk.f ?_); conv => whnf)
    | ((refine Pk.t ?_); conv => whnf)
    | ((refine Pk.and ?_); conv => whnf)
    | ((refine Pk.or ?_); conv => whnf)
    | ((refine Ix.nat (by omega) ?_); conv => whnf)
    | ((refine Ix.of _ (by rfl) (by omega) ?_); conv => whnf)
    | ((refine Ix.int (by omega) (by omega) ?_); conv => whnf)
    | ((refine Ar.i64 (by omega) (by omega) ?_); conv => whnf)
    | ((refine Ar.u8 (by omega) (by omega) ?_); conv => whnf)
    | ((refine Ar.u64 (by omega) (by omega) ?_); conv => whnf)
    | ((refine Dv.quo (by omega) (by omega) (by omega) ?_); conv => whnf)
    | ((refine Dv.rem (by omega) (by omega) ?_); conv => whnf)
    | ((refine Br.yes (by omega) ?_); conv => whnf)
    | ((refine Br.no (by omega) ?_); conv => whnf)
    | ((refine Br.nyes (by omega) ?_); conv => whnf)
    | ((refine Br.nno (by omega) ?_); conv => whnf)
    | ((refine Br.is (by assumption) ?_); conv => whnf)
    | ((refine Br.isnt (by assumption) ?_); conv => whnf)
    | ((refine Ld.of (by assumption) ?_); conv => whnf)
    | ((refine Ru.neq_nil0 ?_); conv => whnf)
    | ((refine Ru.neq_nil1 (by decide) ?_); conv => whnf)
    | ((refine Ru.eql_nil0 ?_); conv => whnf)
    | ((refine Ru.eql_nil1 (by decide) ?_); conv => whnf)
    | ((refine Ru.eql_errs (by decide) (by decide) ?_); conv => whnf)
    | ((refine Ru.eql_err0 (by decide) ?_); conv => whnf)
    | ((refine Ru.neq_errs (by decide) (by decide) ?_); conv => whnf)
    | ((refine Ru.neq_err0 (by decide) ?_); conv => whnf)
    | ((refine Ru.neq_nil rfl ?_); conv => whnf)
    | ((refine Ru.eql_nil rfl ?_); conv => whnf)
    | ((refine Ru.eql_err rfl (by decide) ?_); conv => whnf)
    | ((refine Ru.neq_err rfl (by decide) ?_); conv => whnf)
    | ((refine Ru.eqlb Try.underlying4 ?_); conv => whnf)
    | ((refine Ru.neqb Try.underlying4 ?_); conv => whnf)
    | ((refine RuQ.eqlb Try.underlying4 ?_); conv => whnf)
    | ((refine RuQ.neqb Try.underlying4 ?_); conv => whnf)
    | ((refine CW.seq tt_ok ?_); conv => whnf))
  refine Ca.of (scores_ok w1 h F hr) ?_
  rintro _ w2 ⟨Z, d, rfl, OZ⟩
  have rr := rr.keep OZ.keep (by simp)
  have ly := OY.ly.keep0 OZ.keep
  have lz := OZ.ly
  obtain ⟨gy, hY, _⟩ := ly.some (by omega)
  obtain ⟨gz, hZ, _⟩ := lz.some (by omega)
  subst hY
  subst hZ
  have ny : w.heap.size ≤ gy := OY.new gy (List.mem_singleton.2 rfl)
  have nz : w.heap.size ≤ gz := Nat.le_trans OY.keep.size (OZ.new gz (List.mem_singleton.2 rfl))
  have hne : gy ≠ gz := fun e => by
    have h1 := OY.ly.blk_lt (x := gy) (List.mem_singleton.2 rfl)
    have h2 := OZ.new gz (List.mem_singleton.2 rfl)
    omega
  have kk := OY.keep.trans OZ.keep
  have hry : r ≠ gy := fun e => by have := rr.lt; subst e; exact Ly.row_ne ly rr (by decide) (List.mem_singleton.2 rfl)
  have hrz : r ≠ gz := fun e => by have := rr.lt; subst e; exact Ly.row_ne lz rr (by decide) (List.mem_singleton.2 rfl)
  have ly : Ly w2 3 1 (some ⟨gy, 0, none⟩) 12 e (fun j => .int .i64 (wr3 0 F j)) := ly.congr (fun j _ => by unfold wr3; rw [if_neg (by omega)])
  have lz : Ly w2 3 1 (some ⟨gz, 0, none⟩) 12 d (fun j => .int .i64 (wr3 0 (fun j => F (12 + j)) j)) := lz.congr (fun j _ => by unfold wr3; rw [if_neg (by omega)])
  clear OY OZ hr
  conv => whnf
  repeat (first
    | ((refine HS.mk trivial ?_); conv => whnf)
    | ((refine Br.t ?_); conv => whnf)
    | ((refine Br.f ?_); conv => whnf)
    | ((refine Pk.f ?_); conv => whnf)
    | ((refine Pk.t ?_); conv => whnf)
    | ((refine Pk.and ?_); conv => whnf)
    | ((refine Pk.or ?_); conv => whnf)
    | ((refine Ix.nat (by omega) ?_); conv => whnf)
    | ((refine Ix.of _ (by rfl) (by omega) ?_); conv => whnf)
    | ((refine Ix.int (by omega) (by omega) ?_); conv => whnf)
    | ((refine Ar.i64 (by omega) (by omega) ?_); conv => whnf)
    | ((refine Ar.u8 (by omega) (by omega) ?_); conv => whnf)
    | ((refine Ar.u64 (by omega) (by omega) ?_); conv => whnf)
    | ((refine Dv.quo (by omega) (by omega) (by omega) ?_); conv => whnf)
    | ((refine Dv.rem (by omega) (by omega) ?_); conv => whnf)
    | ((refine Br.yes (by omega) ?_); conv => whnf)
    | ((refine Br.no (by omega) ?_); conv => whnf)
    | ((refine Br.nyes (by omega) ?_); conv => whnf)
    | ((refine Br.nno (by omega) ?_); conv => whnf)
    | ((refine Br.is (by assumption) ?_); conv => whnf)
    | ((refine Br.isnt (by assumption) ?_); conv => whnf)
    | ((refine Ld.of (by assumption) ?_); conv => whnf)
    | ((refine Ru.neq_nil0 ?_); conv => whnf)
    | ((refine Ru.neq_nil1 (by decide) ?_); conv => whnf)
    | ((refine Ru.eql_nil0 ?_); conv => whnf)
    | ((refine Ru.eql_nil1 (by decide) ?_); conv => whnf)
    | ((refine Ru.eql_errs (by decide) (by decide) ?_); conv => whnf)
    | ((refine Ru.eql_err0 (by decide) ?_); conv => whnf)
    | ((refine Ru.neq_errs (by decide) (by decide) ?_); conv => whnf)
    | ((refine Ru.neq_err0 (by decide) ?_); conv => whnf)
    | ((refine Ru.neq_nil rfl ?_); conv => whnf)
    | ((refine Ru.eql_nil rfl ?_); conv => whnf)
    | ((refine Ru.eql_err rfl (by decide) ?_); conv => whnf)
    | ((refine Ru.neq_err rfl (by decide) ?_); conv => whnf)
    | ((refine Ru.eqlb Try.underlying4 ?_); conv => whnf)
    | ((refine Ru.neqb Try.underlying4 ?_); conv => whnf)
    | ((refine RuQ.eqlb Try.underlying4 ?_); conv => whnf)
    | ((refine RuQ.neqb Try.underlying4 ?_); conv => whnf)
    | ((refine CW.seq tt_ok ?_); conv => whnf))
  refine CW.loop (ι := Nat) (fun i w' => i ≤ 12 ∧ Ly w' 3 1 (some ⟨gy, 0, none⟩) 12 e (fun j => .int .i64 (wr3 i F j)) ∧ Ly w' 3 1 (some ⟨gz, 0, none⟩) 12 d (fun j => .int .i64 (wr3 i (fun j => F (12 + j)) j)) ∧ Rr w' r F ∧ Keep [] w w') (fun i => [(1, .pointer (some ⟨r, 0, none⟩)), (5, .slice (some ⟨gy, 0, none⟩) 12 e), (6, .slice (some ⟨gz, 0, none⟩) 12 d), (7, .int .i64 i)]) (fun i => 12 - i) 0 tt_ok ⟨by omega, ly, lz, rr, kk⟩ ⟨rfl, rfl, rfl, rfl, trivial⟩ ?_
  clear ly lz rr kk
  rintro k wr ⟨hk, ly, lz, rr, kk⟩
  by_cases hlt : k < 12
  · obtain ⟨_, e1, cy⟩ := ly.some (by omega)
    injection e1 with e1
    injection e1 with e1
    subst e1
    obtain ⟨_, e1, cz⟩ := lz.some (by omega)
    injection e1 with e1
    injection e1 with e1
    subst e1
    have fy : wr.cell? ⟨gy, k, none⟩ = some (.int .i64 (F k)) := by
      rw [cy k hlt]
      unfold wr3
      rw [if_neg (by omega)]
    have fz : wr.cell? ⟨gz, k, none⟩ = some (.int .i64 (F (12 + k))) := by
      rw [cz k hlt]
      unfold wr3
      rw [if_neg (by omega)]
    have c0 : wr.cell? ⟨r, k, none⟩ = some (.int .i64 (F k)) := rr.cell k (by omega)
    have c1 : wr.cell? ⟨r, 12 + k, none⟩ = some (.int .i64 (F (12 + k))) := rr.cell (12 + k) (by omega)
    clear cy cz
    conv => whnf
    repeat (first
      | ((refine HS.mk trivial ?_); conv => whnf)
      | ((refine Br.t ?_); conv => whnf)
      | ((refine Br.f ?_); conv => whnf)
      | ((refine Pk.f ?_); conv => whnf)
      | ((refine Pk.t ?_); conv => whnf)
      | ((refine Pk.and ?_); conv => whnf)
      | ((refine Pk.or ?_); conv => whnf)
      | ((refine Ix.nat (by omega) ?_); conv => whnf)
      | ((refine Ix.of _ (by rfl) (by omega) ?_); conv => whnf)
      | ((refine Ix.int (by omega) (by omega) ?_); conv => whnf)
      | ((refine Ar.i64 (by omega) (by omega) ?_); conv => whnf)
      | ((refine Ar.u8 (by omega) (by omega) ?_); conv => whnf)
      | ((refine Ar.u64 (by omega) (by omega) ?_); conv => whnf)
      | ((refine Dv.quo (by omega) (by omega) (by omega) ?_); conv => whnf)
      | ((refine Dv.rem (by omega) (by omega) ?_); conv => whnf)
      | ((refine Br.yes (by omega) ?_); conv => whnf)
      | ((refine Br.no (by omega) ?_); conv => whnf)
      | ((refine Br.nyes (by omega) ?_); conv => whnf)
      | ((refine Br.nno (by omega) ?_); conv => whnf)
      | ((refine Br.is (by assumption) ?_); conv => whnf)
      | ((refine Br.isnt (by assumption) ?_); conv => whnf)
      | ((refine Ld.of (by assumption) ?_); conv => whnf)
      | ((refine Ru.neq_nil0 ?_); conv => whnf)
      | ((refine Ru.neq_nil1 (by decide) ?_); conv => whnf)
      | ((refine Ru.eql_nil0 ?_); conv => whnf)
      | ((refine Ru.eql_nil1 (by decide) ?_); conv => whnf)
      | ((refine Ru.eql_errs (by decide) (by decide) ?_); conv => whnf)
      | ((refine Ru.eql_err0 (by decide) ?_); conv => whnf)
      | ((refine Ru.neq_errs (by decide) (by decide) ?_); conv => whnf)
      | ((refine Ru.neq_err0 (by decide) ?_); conv => whnf)
      | ((refine Ru.neq_nil rfl ?_); conv => whnf)
      | ((refine Ru.eql_nil rfl ?_); conv => whnf)
      | ((refine Ru.eql_err rfl (by decide) ?_); conv => whnf)
      | ((refine Ru.neq_err rfl (by decide) ?_); conv => whnf)
      | ((refine Ru.eqlb Try.underlying4 ?_); conv => whnf)
      | ((refine Ru.neqb Try.underlying4 ?_); conv => whnf)
      | ((refine RuQ.eqlb Try.underlying4 ?_); conv => whnf)
      | ((refine RuQ.neqb Try.underlying4 ?_); conv => whnf)
      | ((refine CW.seq tt_ok ?_); conv => whnf))
    refine CW.quiet (fun w' => w' = wr.drewN 1) tt_ok (by kernel_rfl) (by kernel_rfl) ?_ ?_
    · rfl
    conv => whnf
    repeat (first
      | ((refine LdQ.at (i := 0 + k) (j := k) (by omega) (fun _ h => by subst h; first | exact fy | exact fz) ?_); conv => whnf)
      | ((refine LdQ.at (i := 0 + 0 + k) (j := k) (by omega) (fun _ h => by subst h; exact c0) ?_); conv => whnf)
      | ((refine LdQ.at (j := 12 + k) (by omega) (fun _ h => by subst h; exact c1) ?_); conv => whnf)
      | ((refine Br.nyes rfl ?_); conv => whnf)
      | ((refine HS.mk trivial ?_); conv => whnf)
      | ((refine Br.t ?_); conv => whnf)
      | ((refine Br.f ?_); conv => whnf)
      | ((refine Pk.f ?_); conv => whnf)
      | ((refine Pk.t ?_); conv => whnf)
      | ((refine Pk.and ?_); conv => whnf)
      | ((refine Pk.or ?_); conv => whnf)
      | ((refine Ix.nat (by omega) ?_); conv => whnf)
      | ((refine Ix.of _ (by rfl) (by omega) ?_); conv => whnf)
      | ((refine Ix.int (by omega) (by omega) ?_); conv => whnf)
      | ((refine Ar.i64 (by omega) (by omega) ?_); conv => whnf)
      | ((refine Ar.u8 (by omega) (by omega) ?_); conv => whnf)
      | ((refine Ar.u64 (by omega) (by omega) ?_); conv => whnf)
      | ((refine Dv.quo (by omega) (by omega) (by omega) ?_); conv => whnf)
      | ((refine Dv.rem (by omega) (by omega) ?_); conv => whnf)
      | ((refine Br.yes (by omega) ?_); conv => whnf)
      | ((refine Br.no (by omega) ?_); conv => whnf)
      | ((refine Br.nyes (by omega) ?_); conv => whnf)
      | ((refine Br.nno (by omega) ?_); conv => whnf)
      | ((refine Br.is (by assumption) ?_); conv => whnf)
      | ((refine Br.isnt (by assumption) ?_); conv => whnf)
      | ((refine Ld.of (by assumption) ?_); conv => whnf)
      | ((refine Ru.neq_nil0 ?_); conv => whnf)
      | ((refine Ru.neq_nil1 (by decide) ?_); conv => whnf)
      | ((refine Ru.eql_nil0 ?_); conv => whnf)
      | ((refine Ru.eql_nil1 (by decide) ?_); conv => whnf)
      | ((refine Ru.eql_errs (by decide) (by decide) ?_); conv => whnf)
      | ((refine Ru.eql_err0 (by decide) ?_); conv => whnf)
      | ((refine Ru.neq_errs (by decide) (by decide) ?_); conv => whnf)
      | ((refine Ru.neq_err0 (by decide) ?_); conv => whnf)
      | ((refine Ru.neq_nil rfl ?_); conv => whnf)
      | ((refine Ru.eql_nil rfl ?_); conv => whnf)
      | ((refine Ru.eql_err rfl (by decide) ?_); conv => whnf)
      | ((refine Ru.neq_err rfl (by decide) ?_); conv => whnf)
      | ((refine Ru.eqlb Try.underlying4 ?_); conv => whnf)
      | ((refine Ru.neqb Try.underlying4 ?_); conv => whnf)
      | ((refine RuQ.eqlb Try.underlying4 ?_); conv => whnf)
      | ((refine RuQ.neqb Try.underlying4 ?_); conv => whnf)
      | ((refine CW.seq tt_ok ?_); conv => whnf))
    rintro w3 rfl
    conv => whnf
    repeat (first
      | ((refine Br.nyes rfl ?_); conv => whnf)
      | ((refine HS.mk trivial ?_); conv => whnf)
      | ((refine Br.t ?_); conv => whnf)
      | ((refine Br.f ?_); conv => whnf)
      | ((refine Pk.f ?_); conv => whnf)
      | ((refine Pk.t ?_); conv => whnf)
      | ((refine Pk.and ?_); conv => whnf)
      | ((refine Pk.or ?_); conv => whnf)
      | ((refine Ix.nat (by omega) ?_); conv => whnf)
      | ((refine Ix.of _ (by rfl) (by omega) ?_); conv => whnf)
      | ((refine Ix.int (by omega) (by omega) ?_); conv => whnf)
      | ((refine Ar.i64 (by omega) (by omega) ?_); conv => whnf)
      | ((refine Ar.u8 (by omega) (by omega) ?_); conv => whnf)
      | ((refine Ar.u64 (by omega) (by omega) ?_); conv => whnf)
      | ((refine Dv.quo (by omega) (by omega) (by omega) ?_); conv => whnf)
      | ((refine Dv.rem (by omega) (by omega) ?_); conv => whnf)
      | ((refine Br.yes (by omega) ?_); conv => whnf)
      | ((refine Br.no (by omega) ?_); conv => whnf)
      | ((refine Br.nyes (by omega) ?_); conv => whnf)
      | ((refine Br.nno (by omega) ?_); conv => whnf)
      | ((refine Br.is (by assumption) ?_); conv => whnf)
      | ((refine Br.isnt (by assumption) ?_); conv => whnf)
      | ((refine Ld.of (by assumption) ?_); conv => whnf)
      | ((refine Ru.neq_nil0 ?_); conv => whnf)
      | ((refine Ru.neq_nil1 (by decide) ?_); conv => whnf)
      | ((refine Ru.eql_nil0 ?_); conv => whnf)
      | ((refine Ru.eql_nil1 (by decide) ?_); conv => whnf)
      | ((refine Ru.eql_errs (by decide) (by decide) ?_); conv => whnf)
      | ((refine Ru.eql_err0 (by decide) ?_); conv => whnf)
      | ((refine Ru.neq_errs (by decide) (by decide) ?_); conv => whnf)
      | ((refine Ru.neq_err0 (by decide) ?_); conv => whnf)
      | ((refine Ru.neq_nil rfl ?_); conv => whnf)
      | ((refine Ru.eql_nil rfl ?_); conv => whnf)
      | ((refine Ru.eql_err rfl (by decide) ?_); conv => whnf)
      | ((refine Ru.neq_err rfl (by decide) ?_); conv => whnf)
      | ((refine Ru.eqlb Try.underlying4 ?_); conv => whnf)
      | ((refine Ru.neqb Try.underlying4 ?_); conv => whnf)
      | ((refine RuQ.eqlb Try.underlying4 ?_); conv => whnf)
      | ((refine RuQ.neqb Try.underlying4 ?_); conv => whnf)
      | ((refine CW.seq tt_ok ?_); conv => whnf))
    refine Sd.ly (Ly.drewN ly 1) rfl k (by omega) (by omega) rfl ?_
    rw [wr3_put]
    intro w4 ly k4
    have lz := (Ly.drewN lz 1).keep k4 (by intro x hx hm; rw [List.mem_singleton.1 hx] at hm; exact hne (List.mem_singleton.1 hm).symm)
    have rr := (rr.drewN 1).keep k4 (by simp [hry])
    have kk := (kk.drewN 1).then k4 (fun x hx => .inr (by rw [List.mem_singleton.1 hx]; exact ny))
    conv => whnf
    repeat (first
      | ((refine HS.mk trivial ?_); conv => whnf)
      | ((refine Br.t ?_); conv => whnf)
      | ((refine Br.f ?_); conv => whnf)
      | ((refine Pk.f ?_); conv => whnf)
      | ((refine Pk.t ?_); conv => whnf)
      | ((refine Pk.and ?_); conv => whnf)
      | ((refine Pk.or ?_); conv => whnf)
      | ((refine Ix.nat (by omega) ?_); conv => whnf)
      | ((refine Ix.of _ (by rfl) (by omega) ?_); conv => whnf)
      | ((refine Ix.int (by omega) (by omega) ?_); conv => whnf)
      | ((refine Ar.i64 (by omega) (by omega) ?_); conv => whnf)
      | ((refine Ar.u8 (by omega) (by omega) ?_); conv => whnf)
      | ((refine Ar.u64 (by omega) (by omega) ?_); conv => whnf)
      | ((refine Dv.quo (by omega) (by omega) (by omega) ?_); conv => whnf)
      | ((refine Dv.rem (by omega) (by omega) ?_); conv => whnf)
      | ((refine Br.yes (by omega) ?_); conv => whnf)
      | ((refine Br.no (by omega) ?_); conv => whnf)
      | ((refine Br.nyes (by omega) ?_); conv => whnf)
      | ((refine Br.nno (by omega) ?_); conv => whnf)
      | ((refine Br.is (by assumption) ?_); conv => whnf)
      | ((refine Br.isnt (by assumption) ?_); conv => whnf)
      | ((refine Ld.of (by assumption) ?_); conv => whnf)
      | ((refine Ru.neq_nil0 ?_); conv => whnf)
      | ((refine Ru.neq_nil1 (by decide) ?_); conv => whnf)
      | ((refine Ru.eql_nil0 ?_); conv => whnf)
      | ((refine Ru.eql_nil1 (by decide) ?_); conv => whnf)
      | ((refine Ru.eql_errs (by decide) (by decide) ?_); conv => whnf)
      | ((refine Ru.eql_err0 (by decide) ?_); conv => whnf)
      | ((refine Ru.neq_errs (by decide) (by decide) ?_); conv => whnf)
      | ((refine Ru.neq_err0 (by decide) ?_); conv => whnf)
      | ((refine Ru.neq_nil rfl ?_); conv => whnf)
      | ((refine Ru.eql_nil rfl ?_); conv => whnf)
      | ((refine Ru.eql_err rfl (by decide) ?_); conv => whnf)
      | ((refine Ru.neq_err rfl (by decide) ?_); conv => whnf)
      | ((refine Ru.eqlb Try.underlying4 ?_); conv => whnf)
      | ((refine Ru.neqb Try.underlying4 ?_); conv => whnf)
      | ((refine RuQ.eqlb Try.underlying4 ?_); conv => whnf)
      | ((refine RuQ.neqb Try.underlying4 ?_); conv => whnf)
      | ((refine CW.seq tt_ok ?_); conv => whnf))
    refine Sd.ly lz rfl k (by omega) (by omega) rfl ?_
    rw [wr3_put]
    intro w5 lz k5
    have ly := ly.keep k5 (by intro x hx hm; rw [List.mem_singleton.1 hx] at hm; exact hne (List.mem_singleton.1 hm))
    have rr := rr.keep k5 (by simp [hrz])
    have kk := kk.then k5 (fun x hx => .inr (by rw [List.mem_singleton.1 hx]; exact nz))
    conv => whnf
    repeat (first
      | ((refine HS.mk trivial ?_); conv => whnf)
      | ((refine Br.t ?_); conv => whnf)
      | ((refine Br.f ?_); conv => whnf)
      | ((refine Pk.f ?_); conv => whnf)
      | ((refine Pk.t ?_); conv => whnf)
      | ((refine Pk.and ?_); conv => whnf)
      | ((refine Pk.or ?_); conv => whnf)
      | ((refine Ix.nat (by omega) ?_); conv => whnf)
      | ((refine Ix.of _ (by rfl) (by omega) ?_); conv => whnf)
      | ((refine Ix.int (by omega) (by omega) ?_); conv => whnf)
      | ((refine Ar.i64 (by omega) (by omega) ?_); conv => whnf)
      | ((refine Ar.u8 (by omega) (by omega) ?_); conv => whnf)
      | ((refine Ar.u64 (by omega) (by omega) ?_); conv => whnf)
      | ((refine Dv.quo (by omega) (by omega) (by omega) ?_); conv => whnf)
      | ((refine Dv.rem (by omega) (by omega) ?_); conv => whnf)
      | ((refine Br.yes (by omega) ?_); conv => whnf)
      | ((refine Br.no (by omega) ?_); conv => whnf)
      | ((refine Br.nyes (by omega) ?_); conv => whnf)
      | ((refine Br.nno (by omega) ?_); conv => whnf)
      | ((refine Br.is (by assumption) ?_); conv => whnf)
      | ((refine Br.isnt (by assumption) ?_); conv => whnf)
      | ((refine Ld.of (by assumption) ?_); conv => whnf)
      | ((refine Ru.neq_nil0 ?_); conv => whnf)
      | ((refine Ru.neq_nil1 (by decide) ?_); conv => whnf)
      | ((refine Ru.eql_nil0 ?_); conv => whnf)
      | ((refine Ru.eql_nil1 (by decide) ?_); conv => whnf)
      | ((refine Ru.eql_errs (by decide) (by decide) ?_); conv => whnf)
      | ((refine Ru.eql_err0 (by decide) ?_); conv => whnf)
      | ((refine Ru.neq_errs (by decide) (by decide) ?_); conv => whnf)
      | ((refine Ru.neq_err0 (by decide) ?_); conv => whnf)
      | ((refine Ru.neq_nil rfl ?_); conv => whnf)
      | ((refine Ru.eql_nil rfl ?_); conv => whnf)
      | ((refine Ru.eql_err rfl (by decide) ?_); conv => whnf)
      | ((refine Ru.neq_err rfl (by decide) ?_); conv => whnf)
      | ((refine Ru.eqlb Try.underlying4 ?_); conv => whnf)
      | ((refine Ru.neqb Try.underlying4 ?_); conv => whnf)
      | ((refine RuQ.eqlb Try.underlying4 ?_); conv => whnf)
      | ((refine RuQ.neqb Try.underlying4 ?_); conv => whnf)
      | ((refine CW.seq tt_ok ?_); conv => whnf))
    exact ⟨k + 1, ⟨hlt, ly, lz, rr, kk⟩, ⟨rfl, rfl, rfl, rfl, trivial⟩, by simp only; omega⟩
  · obtain rfl : k = 12 := by omega
    conv => whnf
    repeat (first
      | ((refine HS.mk trivial ?_); conv => whnf)
      | ((refine Br.t ?_); conv => whnf)
      | ((refine Br.f ?_); conv => whnf)
      | ((refine Pk.f ?_); conv => whnf)
      | ((refine Pk.t ?_); conv => whnf)
      | ((refine Pk.and ?_); conv => whnf)
      | ((refine Pk.or ?_); conv => whnf)
      | ((refine Ix.nat (by omega) ?_); conv => whnf)
      | ((refine Ix.of _ (by rfl) (by omega) ?_); conv => whnf)
      | ((refine Ix.int (by omega) (by omega) ?_); conv => whnf)
      | ((refine Ar.i64 (by omega) (by omega) ?_); conv => whnf)
      | ((refine Ar.u8 (by omega) (by omega) ?_); conv => whnf)
      | ((refine Ar.u64 (by omega) (by omega) ?_); conv => whnf)
      | ((refine Dv.quo (by omega) (by omega) (by omega) ?_); conv => whnf)
      | ((refine Dv.rem (by omega) (by omega) ?_); conv => whnf)
      | ((refine Br.yes (by omega) ?_); conv => whnf)
      | ((refine Br.no (by omega) ?_); conv => whnf)
      | ((refine Br.nyes (by omega) ?_); conv => whnf)
      | ((refine Br.nno (by omega) ?_); conv => whnf)
      | ((refine Br.is (by assumption) ?_); conv => whnf)
      | ((refine Br.isnt (by assumption) ?_); conv => whnf)
      | ((refine Ld.of (by assumption) ?_); conv => whnf)
      | ((refine Ru.neq_nil0 ?_); conv => whnf)
      | ((refine Ru.neq_nil1 (by decide) ?_); conv => whnf)
      | ((refine Ru.eql_nil0 ?_); conv => whnf)
      | ((refine Ru.eql_nil1 (by decide) ?_); conv => whnf)
      | ((refine Ru.eql_errs (by decide) (by decide) ?_); conv => whnf)
      | ((refine Ru.eql_err0 (by decide) ?_); conv => whnf)
      | ((refine Ru.neq_errs (by decide) (by decide) ?_); conv => whnf)
      | ((refine Ru.neq_err0 (by decide) ?_); conv => whnf)
      | ((refine Ru.neq_nil rfl ?_); conv => whnf)
      | ((refine Ru.eql_nil rfl ?_); conv => whnf)
      | ((refine Ru.eql_err rfl (by decide) ?_); conv => whnf)
      | ((refine Ru.neq_err rfl (by decide) ?_); conv => whnf)
      | ((refine Ru.eqlb Try.underlying4 ?_); conv => whnf)
      | ((refine Ru.neqb Try.underlying4 ?_); conv => whnf)
      | ((refine RuQ.eqlb Try.underlying4 ?_); conv => whnf)
      | ((refine RuQ.neqb Try.underlying4 ?_); conv => whnf)
      | ((refine CW.seq tt_ok ?_); conv => whnf))
    exact ⟨rfl, rfl, kk⟩
end Go.Proofs.Ytkdocaimkphooaa
