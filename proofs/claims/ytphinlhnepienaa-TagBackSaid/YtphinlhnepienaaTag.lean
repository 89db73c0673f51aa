/- Layer 7: tags as cells; Check, the writer. -/
import Derived.Test.YtphinlhnepienaaKE
import Derived.Test.YtphinlhnepienaaPutGet
import Derived.Test.YtphinlhnepienaaApp0
import Derived.Test.YtphinlhnepienaaEqS
namespace Go.Proofs.Ytphinlhnepienaa
open Go.RowKit
set_option linter.unusedVariables false
structure Tg where
  place : Int
  of : Int
  seq : Int
  copy : Int
  lost : Bool
deriving DecidableEq
def Tg.zero : Tg := ⟨0, 0, 0, 0, false⟩
def Tg.arr (t : Tg) : Array Value := #[.int .i64 t.place, .int .i64 t.of, .int .i64 t.seq, .int .i64 t.copy, .bool t.lost]
def Tg.cell (t : Tg) (j : Nat) : Value := t.arr.getD j .nilIface
/-- May a tag be? -/
def Tg.ok (t : Tg) : Prop := 0 ≤ t.place ∧ t.place ≤ 95 ∧ 0 ≤ t.of ∧ t.of ≤ 24 ∧ 1 ≤ t.seq ∧ t.seq ≤ 1099511627775 ∧ 0 ≤ t.copy ∧ t.copy ≤ 255 ∧ (t.of = 24 → t.lost = false) ∧ (t.of ≠ 24 → t.place % 8 ≤ 5)
instance (t : Tg) : Decidable t.ok := by unfold Tg.ok; infer_instance
def Tg.wf (t : Tg) : Prop := (-9223372036854775808 ≤ t.place ∧ t.place ≤ 9223372036854775807) ∧ (-9223372036854775808 ≤ t.of ∧ t.of ≤ 9223372036854775807) ∧ (-9223372036854775808 ≤ t.seq ∧ t.seq ≤ 9223372036854775807) ∧ (-9223372036854775808 ≤ t.copy ∧ t.copy ≤ 9223372036854775807)
def Tg.err (t : Tg) : Int := if t.ok then 0 else 1
theorem Tg.err_no {t : Tg} (h : ¬ t.ok) : Value.iface 32 (.int .i64 1) = errOf t.err := by unfold Tg.err; rw [if_neg h, errOf_pos (by decide)]
theorem Tg.err_yes {t : Tg} (h : t.ok) : Value.nilIface = errOf t.err := by unfold Tg.err; rw [if_pos h]; rfl
theorem tg_range (t : Tg) : (Array.range 5).map t.cell = t.arr := by
  apply Array.ext
  · simp [Tg.arr]
  · intro i h1 h2
    have h3 : i < 5 := by simpa using h1
    have : i = 0 ∨ i = 1 ∨ i = 2 ∨ i = 3 ∨ i = 4 := by omega
    rcases this with rfl | rfl | rfl | rfl | rfl <;> simp [Tg.cell, Tg.arr]
theorem tg_agg (t : Tg) : Value.agg t.arr = agg 5 t.cell := by
  unfold agg
  rw [tg_range]
theorem size_tag : (Try.prog.info? 23).map (·.size) = some 5 := by kernel_rfl
theorem tg_one (t : Tg) (j : Nat) (hj : j < 5) : (t.cell j).oneCell' = true := by
  have : j = 0 ∨ j = 1 ∨ j = 2 ∨ j = 3 ∨ j = 4 := by omega
  rcases this with rfl | rfl | rfl | rfl | rfl <;> rfl
theorem Row.tg {w : World} {g : Nat} {t : Tg} (h : w.heap[g]? = some (.cells t.arr 23 (0, 0))) : Row w g 23 5 t.cell := by
  unfold Row
  rw [tg_range]
  exact h
/-- A tag is made, read, written as a whole. -/
theorem Ru.alloctg {w : World} {K : Value → World → Prop} (k : ∀ g w', g = w.heap.size → w'.heap.size = w.heap.size + 1 → Row w' g 23 5 Tg.zero.cell → Keep [] w w' → K (.pointer (some ⟨g, 0, none⟩)) w') : Ru Try.prog (Instr.alloc 23 true (.tuple #[])) w K :=
  ⟨_, w.alloc (.cells Tg.zero.arr 23), by kernel_rfl, k _ _ rfl (by simp) (Row.tg (heap_alloc_new _ _)) ((Keep.refl _ _).alloc _)⟩
theorem Ru.boxtg {w : World} {t : Tg} {K : Value → World → Prop} (k : ∀ g w', g = w.heap.size → w'.heap.size = w.heap.size + 1 → Row w' g 23 5 t.cell → Keep [] w w' → K (.pointer (some ⟨g, 0, none⟩)) w') : Ru Try.prog (Instr.box 23 (.agg t.arr)) w K :=
  ⟨_, w.alloc (.cells t.arr 23), rfl, k _ _ rfl (by simp) (Row.tg (heap_alloc_new _ _)) ((Keep.refl _ _).alloc _)⟩
theorem run_tg {w : World} {g o N : Nat} {ty : TypeId} {F : Nat → Value} {t : Tg} (r : Row w g ty N F) (hn : o + 5 ≤ N) (hf : ∀ j, j < 5 → F (o + j) = t.cell j) : (loadVar 23 ⟨g, o, none⟩).run Try.prog w = .ok (.agg t.arr) w := by
  have h := run_load_agg (P := Try.prog) r hn Try.underlying23 rfl size_tag
  rw [show agg 5 (fun j => F (o + j)) = .agg t.arr from (agg_congr hf).trans (tg_agg t).symm] at h
  exact h
theorem Ru.ldtg {w : World} {g : Nat} {ty : TypeId} {t : Tg} {K : Value → World → Prop} (r : Row w g ty 5 t.cell) (k : K (.agg t.arr) w) : Ru Try.prog (loadVar 23 ⟨g, 0, none⟩) w K := ⟨_, _, run_tg r (by omega) (fun j _ => by rw [Nat.zero_add]), k⟩
theorem Ru.sttg {w : World} {g : Nat} {ty : TypeId} {b : Nat → Value} {t : Tg} {K : Unit → World → Prop} (r : Row w g ty 5 b) (k : ∀ w', Row w' g ty 5 t.cell → Keep [g] w w' → K () w') : Ru Try.prog (storeVar 23 ⟨g, 0, none⟩ (.agg t.arr)) w K := by
  rw [tg_agg]
  exact Ru.sta r size_tag (by omega) (tg_one t) (fun w' r' k' => k w' (r'.congr (fun j hj => by unfold lay; rw [if_pos (by omega)]; simp)) k')
set_option maxHeartbeats 1000000 in
theorem check_ok (t : Tg) (w : World) : Spec Try.prog 7 #[.agg t.arr] w fun v w' => v = errOf t.err ∧ Keep [] w w' := by
  have h0 : ∀ {g : Nat} {w : World}, Row w g 23 5 t.cell → w.cell? ⟨g, 0, none⟩ = some (.int .i64 t.place) ∧ w.cell? ⟨g, 1, none⟩ = some (.int .i64 t.of) ∧ w.cell? ⟨g, 2, none⟩ = some (.int .i64 t.seq) ∧ w.cell? ⟨g, 3, none⟩ = some (.int .i64 t.copy) ∧ w.cell? ⟨g, 4, none⟩ = some (.bool t.lost) := fun r => ⟨r.cell 0 (by omega), r.cell 1 (by omega), r.cell 2 (by omega), r.cell 3 (by omega), r.cell 4 (by omega)⟩
  have hno := t.err_no
  have hyes := t.err_yes
  unfold Tg.ok at hno hyes
  generalize hx : t.err = x at hno hyes ⊢
  refine spec_of_wpE (T := tt) tt_ok Try.func7 rfl (by decide +kernel) Try.ntmps7 (by simp) ?_
  conv => whnf
  repeat (first
    | ((refine Br.t ?_); conv => whnf)
    | ((refine Br.f ?_); conv => whnf)
    | ((refine Pk.f ?_); conv => whnf)
    | ((refine Pk.t ?_); conv => whnf)
    | ((refine Pk.and ?_); conv => whnf)
    | ((refine Pk.or ?_); conv => whnf)
    | ((refine Ix.nat (by omega) ?_); conv => whnf)
    | ((refine Ix.of _ (by rfl) (by omega) ?_); conv => whnf)
    | ((refine Ix.int (by omega) (by omega) ?_); conv => whnf)
    | ((refine Ar.i64 (by omega) (by omega) ?_); conv => whnf)
    | ((refine Ar.u8 (by omega) (by omega) ?_); conv => whnf)
    | ((refine Ar.u64 (by omega) (by omega) ?_); conv => whnf)
    | ((refine Dv.quo (by omega) (by omega) (by omega) ?_); conv => whnf)
    | ((refine Dv.rem (by omega) (by omega) ?_); conv => whnf)
    | ((refine Br.yes (by omega) ?_); conv => whnf)
    | ((refine Br.no (by omega) ?_); conv => whnf)
    | ((refine Br.nyes (by omega) ?_); conv => whnf)
    | ((refine Br.nno (by omega) ?_); conv => whnf)
    | ((refine Br.is (by assumption) ?_); conv => whnf)
    | ((refine Br.isnt (by assumption) ?_); conv => whnf)
    | ((refine Ld.of (by assumption) ?_); conv => whnf)
    | ((refine Ru.neq_nil0 ?_); conv => whnf)
    | ((refine Ru.neq_nil1 (by decide) ?_); conv => whnf)
    | ((refine Ru.eql_nil0 ?_); conv => whnf)
    | ((refine Ru.eql_nil1 (by decide) ?_); conv => whnf)
    | ((refine Ru.eql_errs (by decide) (by decide) ?_); conv => whnf)
    | ((refine Ru.eql_err0 (by decide) ?_); conv => whnf)
    | ((refine Ru.neq_errs (by decide) (by decide) ?_); conv => whnf)
    | ((refine Ru.neq_err0 (by decide) ?_); conv => whnf)
    | ((refine Ru.neq_nil rfl ?_); conv => whnf)
    | ((refine Ru.eql_nil rfl ?_); conv => whnf)
    | ((refine Ru.eql_err rfl (by decide) ?_); conv => whnf)
    | ((refine Ru.neq_err rfl (by decide) ?_); conv => whnf)
    | ((refine Ru.eqlb Try.underlying4 ?_); conv => whnf)
    | ((refine Ru.neqb Try.underlying4 ?_); conv => whnf)
    | ((refine RuQ.eqlb Try.underlying4 ?_); conv => whnf)
    | ((refine RuQ.neqb Try.underlying4 ?_); conv => whnf)
    | ((refine CW.seq tt_ok ?_); conv => whnf))
  refine Ru.boxtg ?_
  intro g w1 hg hs r k1
  obtain ⟨c0, c1, c2, c3, c4⟩ := h0 r
  clear h0 r
  generalize t.place = a0 at *
  generalize t.of = a1 at *
  generalize t.seq = a2 at *
  generalize t.copy = a3 at *
  cases hl : t.lost <;> rw [hl] at c4 hno hyes
  all_goals
    conv => whnf
    repeat' (first
      | ((refine Br.t ?_) <;> conv => whnf)
      | ((refine Br.f ?_) <;> conv => whnf)
      | ((refine Pk.f ?_) <;> conv => whnf)
      | ((refine Pk.t ?_) <;> conv => whnf)
      | ((refine Pk.and ?_) <;> conv => whnf)
      | ((refine Pk.or ?_) <;> conv => whnf)
      | ((refine Ix.nat (by omega) ?_) <;> conv => whnf)
      | ((refine Ix.of _ (by rfl) (by omega) ?_) <;> conv => whnf)
      | ((refine Ix.int (by omega) (by omega) ?_) <;> conv => whnf)
      | ((refine Ar.i64 (by omega) (by omega) ?_) <;> conv => whnf)
      | ((refine Ar.u8 (by omega) (by omega) ?_) <;> conv => whnf)
      | ((refine Ar.u64 (by omega) (by omega) ?_) <;> conv => whnf)
      | ((refine Dv.quo (by omega) (by omega) (by omega) ?_) <;> conv => whnf)
      | ((refine Dv.rem (by omega) (by omega) ?_) <;> conv => whnf)
      | ((refine Br.yes (by omega) ?_) <;> conv => whnf)
      | ((refine Br.no (by omega) ?_) <;> conv => whnf)
      | ((refine Br.nyes (by omega) ?_) <;> conv => whnf)
      | ((refine Br.nno (by omega) ?_) <;> conv => whnf)
      | ((refine Br.is (by assumption) ?_) <;> conv => whnf)
      | ((refine Br.isnt (by assumption) ?_) <;> conv => whnf)
      | ((refine Ld.of (by assumption) ?_) <;> conv => whnf)
      | ((refine Ru.neq_nil0 ?_) <;> conv => whnf)
      | ((refine Ru.neq_nil1 (by decide) ?_) <;> conv => whnf)
      | ((refine Ru.eql_nil0 ?_) <;> conv => whnf)
      | ((refine Ru.eql_nil1 (by decide) ?_) <;> conv => whnf)
      | ((refine Ru.eql_errs (by decide) (by decide) ?_) <;> conv => whnf)
      | ((refine Ru.eql_err0 (by decide) ?_) <;> conv => whnf)
      | ((refine Ru.neq_errs (by decide) (by decide) ?_) <;> conv => whnf)
      | ((refine Ru.neq_err0 (by decide) ?_) <;> conv => whnf)
      | ((refine Ru.neq_nil rfl ?_) <;> conv => whnf)
      | ((refine Ru.eql_nil rfl ?_) <;> conv => whnf)
      | ((refine Ru.eql_err rfl (by decide) ?_) <;> conv => whnf)
      | ((refine Ru.neq_err rfl (by decide) ?_) <;> conv => whnf)
      | ((refine Ru.eqlb Try.underlying4 ?_) <;> conv => whnf)
      | ((refine Ru.neqb Try.underlying4 ?_) <;> conv => whnf)
      | ((refine RuQ.eqlb Try.underlying4 ?_) <;> conv => whnf)
      | ((refine RuQ.neqb Try.underlying4 ?_) <;> conv => whnf)
      | ((refine CW.seq tt_ok ?_) <;> conv => whnf)
      | ((refine Br.d (fun _ => ?_) (fun _ => ?_)) <;> conv => whnf)
      | ((refine Br.nd (fun _ => ?_) (fun _ => ?_)) <;> conv => whnf)
      | ((refine Br.mk (fun _ => ?_) (fun _ => ?_)) <;> conv => whnf))
    all_goals
      first
        | exact ⟨rfl, hno (fun h => by simp at h; omega), k1⟩
        | exact ⟨rfl, hyes (by simp; omega), k1⟩
end Go.Proofs.Ytphinlhnepienaa
