/- Layer 1: New, Mul, Inv, Div, Exp, Log. -/
import Derived.Test.YtikjedefbflklaaOnceDo
namespace Go.Proofs.Ytikjedefbflklaa
open Go.RowKit
set_option linter.unusedVariables false
attribute [local irreducible] GF.pw GF.lg GF.mul GF.inv GF.xt
/-- A field: its tables are empty, or filled. -/
def FS (w : World) (g : Nat) : Prop := Fr9 w g 0 0 0 0 ∨ Fr9 w g 1 0 255 255
theorem FS.keep {S : List Nat} {w w' : World} {g : Nat} (h : FS w g) (k : Keep S w w') (hg : g ∉ S) : FS w' g := h.elim (fun h => .inl (h.keep k hg)) (fun h => .inr (h.keep k hg))
theorem FS.keep0 {w w' : World} {g : Nat} (h : FS w g) (k : Keep [] w w') : FS w' g := h.keep k (by simp)
theorem FS.drewN {w : World} {g : Nat} (h : FS w g) (n : Nat) : FS (w.drewN n) g := h.keep0 ((Keep.refl _ _).drewN n)
theorem FS.lt {w : World} {g : Nat} (h : FS w g) : g < w.heap.size := h.elim (fun h => h.lt) (fun h => h.lt)
theorem do_ok (g : Nat) (w : World) (r : FS w g) : Spec Try.prog 30 #[.pointer (some ⟨g, 0, none⟩), .func (.func 31) #[.pointer (some ⟨g, 0, none⟩)] #[]] w (DoPost g w) := by
  rcases r with r | r
  · exact do_first g w r
  · obtain ⟨h1, h2⟩ := do_done g w 0 255 255 r (.func (.func 31) #[.pointer (some ⟨g, 0, none⟩)] #[])
    refine ⟨h1, h2.mono ?_⟩
    rintro e w' ⟨v, rfl, rfl, rfl⟩
    exact ⟨_, rfl, rfl, r, Keep.refl _ _⟩
/-- Which value is the zero cell j. -/
def isZ (j : Nat) : Value → Bool
  | .int .u32 n => (j == 0 || j == 2) && n == 0
  | .int .i32 n => j == 1 && n == 0
  | .int .u8 n => !(j < 3) && decide (j < 513) && n == 0
  | .int .i64 n => !(j < 513) && n == 0
  | _ => false
def allZ : Nat → List Value → Bool
  | _, [] => true
  | j, v :: l => isZ j v && allZ (j + 1) l
theorem isZ_eq {j : Nat} {v : Value} (h : isZ j v = true) : v = mcell 0 0 0 0 j := by
  have he : ∀ p q : Nat, (if p % 255 < 0 then q else 0) = 0 := fun p q => if_neg (by omega)
  unfold isZ at h
  split at h <;> try simp only [Bool.and_eq_true, Bool.or_eq_true, beq_iff_eq, Bool.not_eq_true', decide_eq_true_eq, decide_eq_false_iff_not] at h
  · obtain ⟨h | h, rfl⟩ := h <;> subst h <;> rfl
  · obtain ⟨h, rfl⟩ := h
    subst h
    rfl
  · obtain ⟨⟨h1, h2⟩, rfl⟩ := h
    unfold mcell
    rw [if_neg (by omega), if_neg (by omega), if_neg (by omega), if_pos (by omega), if_neg (by omega)]
    rfl
  · obtain ⟨h1, rfl⟩ := h
    unfold mcell
    rw [if_neg (by omega), if_neg (by omega), if_neg (by omega), if_neg (by omega), if_neg (fun e => by have := e.2; omega)]
    rfl
  · cases h
theorem allZ_get : ∀ (l : List Value) (j : Nat), allZ j l = true → ∀ i v, l[i]? = some v → v = mcell 0 0 0 0 (j + i)
  | [], j, _, i, v, hv => by simp at hv
  | u :: l, j, h, i, v, hv => by
    unfold allZ at h
    rw [Bool.and_eq_true] at h
    cases i with
    | zero =>
      simp at hv
      rw [← hv]
      exact isZ_eq h.1
    | succ i =>
      have := allZ_get l (j + 1) h.2 i v (by simpa using hv)
      rw [this]
      congr 1
      omega
noncomputable def zcellsF : Array Value := (((Try.prog.info? 66).bind (·.zero)).getD (.agg #[])).cells
theorem zF_chk : (zcellsF.toList.length == 769 && allZ 0 zcellsF.toList) = true := by kernel_rfl
theorem zF : zcellsF = (Array.range 769).map (mcell 0 0 0 0) := by
  have h := zF_chk
  simp only [Bool.and_eq_true, beq_iff_eq] at h
  apply Array.ext
  · simpa using h.1
  · intro i h1 h2
    simp only [Array.getElem_map, Array.getElem_range]
    have := allZ_get _ 0 h.2 i (zcellsF[i]'h1) (by rw [Array.getElem?_toList]; exact Array.getElem?_eq_getElem h1)
    rw [this, Nat.zero_add]
theorem build_F0 (w : World) : (Instr.build 66 #[]).run Try.prog w = .ok (.agg zcellsF) w := by kernel_rfl
theorem build_F (w : World) : (Instr.build 66 #[]).run Try.prog w = .ok (agg 769 (mcell 0 0 0 0)) w := by
  rw [build_F0, zF]
  rfl
theorem new_ok (w : World) : Spec Try.prog 10 #[] w fun v w' => v = .pointer (some ⟨w.heap.size, 0, none⟩) ∧ FS w' w.heap.size ∧ Keep [] w w' := by
  refine spec_of_wpE (T := tt) tt_ok Try.func10 rfl (by decide +kernel) Try.ntmps10 (by simp) ?_
  conv => whnf
  repeat (first
    | ((refine HS.mk trivial ?_); conv => whnf)
    | ((refine Br.t ?_); conv => whnf)
    | ((refine Br.f ?_); conv => whnf)
    | ((refine Pk.f ?_); conv => whnf)
    | ((refine Pk.t ?_); conv => whnf)
    | ((refine Pk.and ?_); conv => whnf)
    | ((refine Pk.or ?_); conv => whnf)
    | ((refine Ix.nat (by omega) ?_); conv => whnf)
    | ((refine Ix.of _ (by rfl) (by omega) ?_); conv => whnf)
    | ((refine Ix.int (by omega) (by omega) ?_); conv => whnf)
    | ((refine Ar.i64 (by omega) (by omega) ?_); conv => whnf)
    | ((refine Ar.u8 (by omega) (by omega) ?_); conv => whnf)
    | ((refine Ar.u64 (by omega) (by omega) ?_); conv => whnf)
    | ((refine Dv.quo (by omega) (by omega) (by omega) ?_); conv => whnf)
    | ((refine Dv.rem (by omega) (by omega) ?_); conv => whnf)
    | ((refine Br.yes (by omega) ?_); conv => whnf)
    | ((refine Br.no (by omega) ?_); conv => whnf)
    | ((refine Br.nyes (by omega) ?_); conv => whnf)
    | ((refine Br.nno (by omega) ?_); conv => whnf)
    | ((refine Br.is (by assumption) ?_); conv => whnf)
    | ((refine Br.isnt (by assumption) ?_); conv => whnf)
    | ((refine Ld.of (by assumption) ?_); conv => whnf)
    | ((refine Ru.neq_nil0 ?_); conv => whnf)
    | ((refine Ru.neq_nil1 (by decide) ?_); conv => whnf)
    | ((refine Ru.eql_nil0 ?_); conv => whnf)
    | ((refine Ru.eql_nil1 (by decide) ?_); conv => whnf)
    | ((refine Ru.eql_errs (by decide) (by decide) ?_); conv => whnf)
    | ((refine Ru.eql_err0 (by decide) ?_); conv => whnf)
    | ((refine Ru.neq_errs (by decide) (by decide) ?_); conv => whnf)
    | ((refine Ru.neq_err0 (by decide) ?_); conv => whnf)
    | ((refine Ru.neq_nil rfl ?_); conv => whnf)
    | ((refine Ru.eql_nil rfl ?_); conv => whnf)
    | ((refine Ru.eql_err rfl (by decide) ?_); conv => whnf)
    | ((refine Ru.neq_err rfl (by decide) ?_); conv => whnf)
    | ((refine Ru.eqlb Try.underlying4 ?_); conv => whnf)
    | ((refine Ru.neqb Try.underlying4 ?_); conv => whnf)
    | ((refine RuQ.eqlb Try.underlying4 ?_); conv => whnf)
    | ((refine RuQ.neqb Try.underlying4 ?_); conv => whnf)
    | ((refine CW.seq tt_ok ?_); conv => whnf))
  refine Ru.of (build_F w) ?_
  conv => whnf
  repeat (first
    | ((refine HS.mk trivial ?_); conv => whnf)
    | ((refine Br.t ?_); conv => whnf)
    | ((refine Br.f ?_); conv => whnf)
    | ((refine Pk.f ?_); conv => whnf)
    | ((refine Pk.t ?_); conv => whnf)
    | ((refine Pk.and ?_); conv => whnf)
    | ((refine Pk.or ?_); conv => whnf)
    | ((refine Ix.nat (by omega) ?_); conv => whnf)
    | ((refine Ix.of _ (by rfl) (by omega) ?_); conv => whnf)
    | ((refine Ix.int (by omega) (by omega) ?_); conv => whnf)
    | ((refine Ar.i64 (by omega) (by omega) ?_); conv => whnf)
    | ((refine Ar.u8 (by omega) (by omega) ?_); conv => whnf)
    | ((refine Ar.u64 (by omega) (by omega) ?_); conv => whnf)
    | ((refine Dv.quo (by omega) (by omega) (by omega) ?_); conv => whnf)
    | ((refine Dv.rem (by omega) (by omega) ?_); conv => whnf)
    | ((refine Br.yes (by omega) ?_); conv => whnf)
    | ((refine Br.no (by omega) ?_); conv => whnf)
    | ((refine Br.nyes (by omega) ?_); conv => whnf)
    | ((refine Br.nno (by omega) ?_); conv => whnf)
    | ((refine Br.is (by assumption) ?_); conv => whnf)
    | ((refine Br.isnt (by assumption) ?_); conv => whnf)
    | ((refine Ld.of (by assumption) ?_); conv => whnf)
    | ((refine Ru.neq_nil0 ?_); conv => whnf)
    | ((refine Ru.neq_nil1 (by decide) ?_); conv => whnf)
    | ((refine Ru.eql_nil0 ?_); conv => whnf)
    | ((refine Ru.eql_nil1 (by decide) ?_); conv => whnf)
    | ((refine Ru.eql_errs (by decide) (by decide) ?_); conv => whnf)
    | ((refine Ru.eql_err0 (by decide) ?_); conv => whnf)
    | ((refine Ru.neq_errs (by decide) (by decide) ?_); conv => whnf)
    | ((refine Ru.neq_err0 (by decide) ?_); conv => whnf)
    | ((refine Ru.neq_nil rfl ?_); conv => whnf)
    | ((refine Ru.eql_nil rfl ?_); conv => whnf)
    | ((refine Ru.eql_err rfl (by decide) ?_); conv => whnf)
    | ((refine Ru.neq_err rfl (by decide) ?_); conv => whnf)
    | ((refine Ru.eqlb Try.underlying4 ?_); conv => whnf)
    | ((refine Ru.neqb Try.underlying4 ?_); conv => whnf)
    | ((refine RuQ.eqlb Try.underlying4 ?_); conv => whnf)
    | ((refine RuQ.neqb Try.underlying4 ?_); conv => whnf)
    | ((refine CW.seq tt_ok ?_); conv => whnf))
  refine Ru.boxa ?_
  rintro h w1 rfl hs1 r k1
  conv => whnf
  repeat (first
    | ((refine HS.mk trivial ?_); conv => whnf)
    | ((refine Br.t ?_); conv => whnf)
    | ((refine Br.f ?_); conv => whnf)
    | ((refine Pk.f ?_); conv => whnf)
    | ((refine Pk.t ?_); conv => whnf)
    | ((refine Pk.and ?_); conv => whnf)
    | ((refine Pk.or ?_); conv => whnf)
    | ((refine Ix.nat (by omega) ?_); conv => whnf)
    | ((refine Ix.of _ (by rfl) (by omega) ?_); conv => whnf)
    | ((refine Ix.int (by omega) (by omega) ?_); conv => whnf)
    | ((refine Ar.i64 (by omega) (by omega) ?_); conv => whnf)
    | ((refine Ar.u8 (by omega) (by omega) ?_); conv => whnf)
    | ((refine Ar.u64 (by omega) (by omega) ?_); conv => whnf)
    | ((refine Dv.quo (by omega) (by omega) (by omega) ?_); conv => whnf)
    | ((refine Dv.rem (by omega) (by omega) ?_); conv => whnf)
    | ((refine Br.yes (by omega) ?_); conv => whnf)
    | ((refine Br.no (by omega) ?_); conv => whnf)
    | ((refine Br.nyes (by omega) ?_); conv => whnf)
    | ((refine Br.nno (by omega) ?_); conv => whnf)
    | ((refine Br.is (by assumption) ?_); conv => whnf)
    | ((refine Br.isnt (by assumption) ?_); conv => whnf)
    | ((refine Ld.of (by assumption) ?_); conv => whnf)
    | ((refine Ru.neq_nil0 ?_); conv => whnf)
    | ((refine Ru.neq_nil1 (by decide) ?_); conv => whnf)
    | ((refine Ru.eql_nil0 ?_); conv => whnf)
    | ((refine Ru.eql_nil1 (by decide) ?_); conv => whnf)
    | ((refine Ru.eql_errs (by decide) (by decide) ?_); conv => whnf)
    | ((refine Ru.eql_err0 (by decide) ?_); conv => whnf)
    | ((refine Ru.neq_errs (by decide) (by decide) ?_); conv => whnf)
    | ((refine Ru.neq_err0 (by decide) ?_); conv => whnf)
    | ((refine Ru.neq_nil rfl ?_); conv => whnf)
    | ((refine Ru.eql_nil rfl ?_); conv => whnf)
    | ((refine Ru.eql_err rfl (by decide) ?_); conv => whnf)
    | ((refine Ru.neq_err rfl (by decide) ?_); conv => whnf)
    | ((refine Ru.eqlb Try.underlying4 ?_); conv => whnf)
    | ((refine Ru.neqb Try.underlying4 ?_); conv => whnf)
    | ((refine RuQ.eqlb Try.underlying4 ?_); conv => whnf)
    | ((refine RuQ.neqb Try.underlying4 ?_); conv => whnf)
    | ((refine CW.seq tt_ok ?_); conv => whnf))
  exact ⟨rfl, rfl, .inl r, k1⟩
set_option maxRecDepth 20000 in
theorem exp_cell {j : Nat} (h : j < 510) : mcell 1 0 255 255 (3 + j) = .int .u8 (GF.pw j : Int) := by
  rw [mcell_exp _ _ _ _ h, if_pos (Nat.mod_lt _ (by omega))]
set_option maxRecDepth 20000 in
theorem log_cell {a : Nat} (h : a < 256) (h0 : a ≠ 0) : mcell 1 0 255 255 (513 + a) = .int .i64 (GF.lg a : Int) := by
  rw [mcell_log _ _ _ _ h, if_pos ⟨h0, (GF.lg_spec a h h0).1⟩]
def OpPost (g : Nat) (w : World) (u : Value) (v : Value) (w' : World) : Prop := v = u ∧ FS w' g ∧ Keep [g] w w'
set_option maxRecDepth 20000 in
set_option maxHeartbeats 1000000 in
theorem mul_ok (w : World) (g a b : Nat) (ha : a < 256) (hb : b < 256) (r : FS w g) : Spec Try.prog 11 #[.pointer (some ⟨g, 0, none⟩), .int .u8 a, .int .u8 b] w (OpPost g w (.int .u8 (GF.mul a b : Nat))) := by
  by_cases ha0 : a = 0
  · subst ha0
    rw [GF.mul_zero_l]
    refine spec_of_wpE (T := tt) tt_ok Try.func11 rfl (by decide +kernel) Try.ntmps11 (by simp) ?_
    conv => whnf
    repeat (first
      | ((refine HS.mk trivial ?_); conv => whnf)
      | ((refine Br.t ?_); conv => whnf)
      | ((refine Br.f ?_); conv => whnf)
      | ((refine Pk.f ?_); conv => whnf)
      | ((refine Pk.t ?_); conv => whnf)
      | ((refine Pk.and ?_); conv => whnf)
      | ((refine Pk.or ?_); conv => whnf)
      | ((refine Ix.nat (by omega) ?_); conv => whnf)
      | ((refine Ix.of _ (by rfl) (by omega) ?_); conv => whnf)
      | ((refine Ix.int (by omega) (by omega) ?_); conv => whnf)
      | ((refine Ar.i64 (by omega) (by omega) ?_); conv => whnf)
      | ((refine Ar.u8 (by omega) (by omega) ?_); conv => whnf)
      | ((refine Ar.u64 (by omega) (by omega) ?_); conv => whnf)
      | ((refine Dv.quo (by omega) (by omega) (by omega) ?_); conv => whnf)
      | ((refine Dv.rem (by omega) (by omega) ?_); conv => whnf)
      | ((refine Br.yes (by omega) ?_); conv => whnf)
      | ((refine Br.no (by omega) ?_); conv => whnf)
      | ((refine Br.nyes (by omega) ?_); conv => whnf)
      | ((refine Br.nno (by omega) ?_); conv => whnf)
      | ((refine Br.is (by assumption) ?_); conv => whnf)
      | ((refine Br.isnt (by assumption) ?_); conv => whnf)
      | ((refine Ld.of (by assumption) ?_); conv => whnf)
      | ((refine Ru.neq_nil0 ?_); conv => whnf)
      | ((refine Ru.neq_nil1 (by decide) ?_); conv => whnf)
      | ((refine Ru.eql_nil0 ?_); conv => whnf)
      | ((refine Ru.eql_nil1 (by decide) ?_); conv => whnf)
      | ((refine Ru.eql_errs (by decide) (by decide) ?_); conv => whnf)
      | ((refine Ru.eql_err0 (by decide) ?_); conv => whnf)
      | ((refine Ru.neq_errs (by decide) (by decide) ?_); conv => whnf)
      | ((refine Ru.neq_err0 (by decide) ?_); conv => whnf)
      | ((refine Ru.neq_nil rfl ?_); conv => whnf)
      | ((refine Ru.eql_nil rfl ?_); conv => whnf)
      | ((refine Ru.eql_err rfl (by decide) ?_); conv => whnf)
      | ((refine Ru.neq_err rfl (by decide) ?_); conv => whnf)
      | ((refine Ru.eqlb Try.underlying4 ?_); conv => whnf)
      | ((refine Ru.neqb Try.underlying4 ?_); conv => whnf)
      | ((refine RuQ.eqlb Try.underlying4 ?_); conv => whnf)
      | ((refine RuQ.neqb Try.underlying4 ?_); conv => whnf)
      | ((refine CW.seq tt_ok ?_); conv => whnf))
    exact ⟨rfl, rfl, r, Keep.refl _ _⟩
  by_cases hb0 : b = 0
  · subst hb0
    rw [GF.mul_zero_r]
    refine spec_of_wpE (T := tt) tt_ok Try.func11 rfl (by decide +kernel) Try.ntmps11 (by simp) ?_
    conv => whnf
    repeat (first
      | ((refine HS.mk trivial ?_); conv => whnf)
      | ((refine Br.t ?_); conv => whnf)
      | ((refine Br.f ?_); conv => whnf)
      | ((refine Pk.f ?_); conv => whnf)
      | ((refine Pk.t ?_); conv => whnf)
      | ((refine Pk.and ?_); conv => whnf)
      | ((refine Pk.or ?_); conv => whnf)
      | ((refine Ix.nat (by omega) ?_); conv => whnf)
      | ((refine Ix.of _ (by rfl) (by omega) ?_); conv => whnf)
      | ((refine Ix.int (by omega) (by omega) ?_); conv => whnf)
      | ((refine Ar.i64 (by omega) (by omega) ?_); conv => whnf)
      | ((refine Ar.u8 (by omega) (by omega) ?_); conv => whnf)
      | ((refine Ar.u64 (by omega) (by omega) ?_); conv => whnf)
      | ((refine Dv.quo (by omega) (by omega) (by omega) ?_); conv => whnf)
      | ((refine Dv.rem (by omega) (by omega) ?_); conv => whnf)
      | ((refine Br.yes (by omega) ?_); conv => whnf)
      | ((refine Br.no (by omega) ?_); conv => whnf)
      | ((refine Br.nyes (by omega) ?_); conv => whnf)
      | ((refine Br.nno (by omega) ?_); conv => whnf)
      | ((refine Br.is (by assumption) ?_); conv => whnf)
      | ((refine Br.isnt (by assumption) ?_); conv => whnf)
      | ((refine Ld.of (by assumption) ?_); conv => whnf)
      | ((refine Ru.neq_nil0 ?_); conv => whnf)
      | ((refine Ru.neq_nil1 (by decide) ?_); conv => whnf)
      | ((refine Ru.eql_nil0 ?_); conv => whnf)
      | ((refine Ru.eql_nil1 (by decide) ?_); conv => whnf)
      | ((refine Ru.eql_errs (by decide) (by decide) ?_); conv => whnf)
      | ((refine Ru.eql_err0 (by decide) ?_); conv => whnf)
      | ((refine Ru.neq_errs (by decide) (by decide) ?_); conv => whnf)
      | ((refine Ru.neq_err0 (by decide) ?_); conv => whnf)
      | ((refine Ru.neq_nil rfl ?_); conv => whnf)
      | ((refine Ru.eql_nil rfl ?_); conv => whnf)
      | ((refine Ru.eql_err rfl (by decide) ?_); conv => whnf)
      | ((refine Ru.neq_err rfl (by decide) ?_); conv => whnf)
      | ((refine Ru.eqlb Try.underlying4 ?_); conv => whnf)
      | ((refine Ru.neqb Try.underlying4 ?_); conv => whnf)
      | ((refine RuQ.eqlb Try.underlying4 ?_); conv => whnf)
      | ((refine RuQ.neqb Try.underlying4 ?_); conv => whnf)
      | ((refine CW.seq tt_ok ?_); conv => whnf))
    exact ⟨rfl, rfl, r, Keep.refl _ _⟩
  have hla := (GF.lg_spec a ha ha0).1
  have hlb := (GF.lg_spec b hb hb0).1
  have ea := log_cell ha ha0
  have eb := log_cell hb hb0
  have ee := exp_cell (j := GF.lg a + GF.lg b) (by omega)
  rw [GF.mul_lg ha hb ha0 hb0]
  generalize GF.lg a = x at *
  generalize GF.lg b = y at *
  refine spec_of_wpE (T := tt) tt_ok Try.func11 rfl (by decide +kernel) Try.ntmps11 (by simp) ?_
  conv => whnf
  repeat (first
    | ((refine HS.mk trivial ?_); conv => whnf)
    | ((refine Br.t ?_); conv => whnf)
    | ((refine Br.f ?_); conv => whnf)
    | ((refine Pk.f ?_); conv => whnf)
    | ((refine Pk.t ?_); conv => whnf)
    | ((refine Pk.and ?_); conv => whnf)
    | ((refine Pk.or ?_); conv => whnf)
    | ((refine Ix.nat (by omega) ?_); conv => whnf)
    | ((refine Ix.of _ (by rfl) (by omega) ?_); conv => whnf)
    | ((refine Ix.int (by omega) (by omega) ?_); conv => whnf)
    | ((refine Ar.i64 (by omega) (by omega) ?_); conv => whnf)
    | ((refine Ar.u8 (by omega) (by omega) ?_); conv => whnf)
    | ((refine Ar.u64 (by omega) (by omega) ?_); conv => whnf)
    | ((refine Dv.quo (by omega) (by omega) (by omega) ?_); conv => whnf)
    | ((refine Dv.rem (by omega) (by omega) ?_); conv => whnf)
    | ((refine Br.yes (by omega) ?_); conv => whnf)
    | ((refine Br.no (by omega) ?_); conv => whnf)
    | ((refine Br.nyes (by omega) ?_); conv => whnf)
    | ((refine Br.nno (by omega) ?_); conv => whnf)
    | ((refine Br.is (by assumption) ?_); conv => whnf)
    | ((refine Br.isnt (by assumption) ?_); conv => whnf)
    | ((refine Ld.of (by assumption) ?_); conv => whnf)
    | ((refine Ru.neq_nil0 ?_); conv => whnf)
    | ((refine Ru.neq_nil1 (by decide) ?_); conv => whnf)
    | ((refine Ru.eql_nil0 ?_); conv => whnf)
    | ((refine Ru.eql_nil1 (by decide) ?_); conv => whnf)
    | ((refine Ru.eql_errs (by decide) (by decide) ?_); conv => whnf)
    | ((refine Ru.eql_err0 (by decide) ?_); conv => whnf)
    | ((refine Ru.neq_errs (by decide) (by decide) ?_); conv => whnf)
    | ((refine Ru.neq_err0 (by decide) ?_); conv => whnf)
    | ((refine Ru.neq_nil rfl ?_); conv => whnf)
    | ((refine Ru.eql_nil rfl ?_); conv => whnf)
    | ((refine Ru.eql_err rfl (by decide) ?_); conv => whnf)
    | ((refine Ru.neq_err rfl (by decide) ?_); conv => whnf)
    | ((refine Ru.eqlb Try.underlying4 ?_); conv => whnf)
    | ((refine Ru.neqb Try.underlying4 ?_); conv => whnf)
    | ((refine RuQ.eqlb Try.underlying4 ?_); conv => whnf)
    | ((refine RuQ.neqb Try.underlying4 ?_); conv => whnf)
    | ((refine CW.seq tt_ok ?_); conv => whnf))
  refine Ca.of (do_ok g w r) ?_
  rintro _ w2 ⟨rfl, r2, k2⟩
  conv => whnf
  repeat (first
    | ((refine HS.mk trivial ?_); conv => whnf)
    | ((refine Br.t ?_); conv => whnf)
    | ((refine Br.f ?_); conv => whnf)
    | ((refine Pk.f ?_); conv => whnf)
    | ((refine Pk.t ?_); conv => whnf)
    | ((refine Pk.and ?_); conv => whnf)
    | ((refine Pk.or ?_); conv => whnf)
    | ((refine Ix.nat (by omega) ?_); conv => whnf)
    | ((refine Ix.of _ (by rfl) (by omega) ?_); conv => whnf)
    | ((refine Ix.int (by omega) (by omega) ?_); conv => whnf)
    | ((refine Ar.i64 (by omega) (by omega) ?_); conv => whnf)
    | ((refine Ar.u8 (by omega) (by omega) ?_); conv => whnf)
    | ((refine Ar.u64 (by omega) (by omega) ?_); conv => whnf)
    | ((refine Dv.quo (by omega) (by omega) (by omega) ?_); conv => whnf)
    | ((refine Dv.rem (by omega) (by omega) ?_); conv => whnf)
    | ((refine Br.yes (by omega) ?_); conv => whnf)
    | ((refine Br.no (by omega) ?_); conv => whnf)
    | ((refine Br.nyes (by omega) ?_); conv => whnf)
    | ((refine Br.nno (by omega) ?_); conv => whnf)
    | ((refine Br.is (by assumption) ?_); conv => whnf)
    | ((refine Br.isnt (by assumption) ?_); conv => whnf)
    | ((refine Ld.of (by assumption) ?_); conv => whnf)
    | ((refine Ru.neq_nil0 ?_); conv => whnf)
    | ((refine Ru.neq_nil1 (by decide) ?_); conv => whnf)
    | ((refine Ru.eql_nil0 ?_); conv => whnf)
    | ((refine Ru.eql_nil1 (by decide) ?_); conv => whnf)
    | ((refine Ru.eql_errs (by decide) (by decide) ?_); conv => whnf)
    | ((refine Ru.eql_err0 (by decide) ?_); conv => whnf)
    | ((refine Ru.neq_errs (by decide) (by decide) ?_); conv => whnf)
    | ((refine Ru.neq_err0 (by decide) ?_); conv => whnf)
    | ((refine Ru.neq_nil rfl ?_); conv => whnf)
    | ((refine Ru.eql_nil rfl ?_); conv => whnf)
    | ((refine Ru.eql_err rfl (by decide) ?_); conv => whnf)
    | ((refine Ru.neq_err rfl (by decide) ?_); conv => whnf)
    | ((refine Ru.eqlb Try.underlying4 ?_); conv => whnf)
    | ((refine Ru.neqb Try.underlying4 ?_); conv => whnf)
    | ((refine RuQ.eqlb Try.underlying4 ?_); conv => whnf)
    | ((refine RuQ.neqb Try.underlying4 ?_); conv => whnf)
    | ((refine CW.seq tt_ok ?_); conv => whnf))
  refine CW.quiet (fun w' => w' = w2.drewN 1) tt_ok (by kernel_rfl) (by kernel_rfl) ?_ ?_
  · rfl
  conv => whnf
  repeat (first
    | ((refine LdQ.at (j := 513 + a) (by omega) (fun _ h => by subst h; exact (r2.cell _ (by omega)).trans (congrArg some ea)) ?_); conv => whnf)
    | ((refine LdQ.at (j := 513 + b) (by omega) (fun _ h => by subst h; exact (r2.cell _ (by omega)).trans (congrArg some eb)) ?_); conv => whnf)
    | ((refine Ix.of (x + y) (by omega) (by omega) ?_); conv => whnf)
    | ((refine LdQ.at (j := 3 + (x + y)) (by omega) (fun _ h => by subst h; exact (r2.cell _ (by omega)).trans (congrArg some ee)) ?_); conv => whnf)
    | ((refine HS.mk trivial ?_); conv => whnf)
    | ((refine Br.t ?_); conv => whnf)
    | ((refine Br.f ?_); conv => whnf)
    | ((refine Pk.f ?_); conv => whnf)
    | ((refine Pk.t ?_); conv => whnf)
    | ((refine Pk.and ?_); conv => whnf)
    | ((refine Pk.or ?_); conv => whnf)
    | ((refine Ix.nat (by omega) ?_); conv => whnf)
    | ((refine Ix.of _ (by rfl) (by omega) ?_); conv => whnf)
    | ((refine Ix.int (by omega) (by omega) ?_); conv => whnf)
    | ((refine Ar.i64 (by omega) (by omega) ?_); conv => whnf)
    | ((refine Ar.u8 (by omega) (by omega) ?_); conv => whnf)
    | ((refine Ar.u64 (by omega) (by omega) ?_); conv => whnf)
    | ((refine Dv.quo (by omega) (by omega) (by omega) ?_); conv => whnf)
    | ((refine Dv.rem (by omega) (by omega) ?_); conv => whnf)
    | ((refine Br.yes (by omega) ?_); conv => whnf)
    | ((refine Br.no (by omega) ?_); conv => whnf)
    | ((refine Br.nyes (by omega) ?_); conv => whnf)
    | ((refine Br.nno (by omega) ?_); conv => whnf)
    | ((refine Br.is (by assumption) ?_); conv => whnf)
    | ((refine Br.isnt (by assumption) ?_); conv => whnf)
    | ((refine Ld.of (by assumption) ?_); conv => whnf)
    | ((refine Ru.neq_nil0 ?_); conv => whnf)
    | ((refine Ru.neq_nil1 (by decide) ?_); conv => whnf)
    | ((refine Ru.eql_nil0 ?_); conv => whnf)
    | ((refine Ru.eql_nil1 (by decide) ?_); conv => whnf)
    | ((refine Ru.eql_errs (by decide) (by decide) ?_); conv => whnf)
    | ((refine Ru.eql_err0 (by decide) ?_); conv => whnf)
    | ((refine Ru.neq_errs (by decide) (by decide) ?_); conv => whnf)
    | ((refine Ru.neq_err0 (by decide) ?_); conv => whnf)
    | ((refine Ru.neq_nil rfl ?_); conv => whnf)
    | ((refine Ru.eql_nil rfl ?_); conv => whnf)
    | ((refine Ru.eql_err rfl (by decide) ?_); conv => whnf)
    | ((refine Ru.neq_err rfl (by decide) ?_); conv => whnf)
    | ((refine Ru.eqlb Try.underlying4 ?_); conv => whnf)
    | ((refine Ru.neqb Try.underlying4 ?_); conv => whnf)
    | ((refine RuQ.eqlb Try.underlying4 ?_); conv => whnf)
    | ((refine RuQ.neqb Try.underlying4 ?_); conv => whnf)
    | ((refine CW.seq tt_ok ?_); conv => whnf))
  rintro w3 rfl
  conv => whnf
  repeat (first
    | ((refine HS.mk trivial ?_); conv => whnf)
    | ((refine Br.t ?_); conv => whnf)
    | ((refine Br.f ?_); conv => whnf)
    | ((refine Pk.f ?_); conv => whnf)
    | ((refine Pk.t ?_); conv => whnf)
    | ((refine Pk.and ?_); conv => whnf)
    | ((refine Pk.or ?_); conv => whnf)
    | ((refine Ix.nat (by omega) ?_); conv => whnf)
    | ((refine Ix.of _ (by rfl) (by omega) ?_); conv => whnf)
    | ((refine Ix.int (by omega) (by omega) ?_); conv => whnf)
    | ((refine Ar.i64 (by omega) (by omega) ?_); conv => whnf)
    | ((refine Ar.u8 (by omega) (by omega) ?_); conv => whnf)
    | ((refine Ar.u64 (by omega) (by omega) ?_); conv => whnf)
    | ((refine Dv.quo (by omega) (by omega) (by omega) ?_); conv => whnf)
    | ((refine Dv.rem (by omega) (by omega) ?_); conv => whnf)
    | ((refine Br.yes (by omega) ?_); conv => whnf)
    | ((refine Br.no (by omega) ?_); conv => whnf)
    | ((refine Br.nyes (by omega) ?_); conv => whnf)
    | ((refine Br.nno (by omega) ?_); conv => whnf)
    | ((refine Br.is (by assumption) ?_); conv => whnf)
    | ((refine Br.isnt (by assumption) ?_); conv => whnf)
    | ((refine Ld.of (by assumption) ?_); conv => whnf)
    | ((refine Ru.neq_nil0 ?_); conv => whnf)
    | ((refine Ru.neq_nil1 (by decide) ?_); conv => whnf)
    | ((refine Ru.eql_nil0 ?_); conv => whnf)
    | ((refine Ru.eql_nil1 (by decide) ?_); conv => whnf)
    | ((refine Ru.eql_errs (by decide) (by decide) ?_); conv => whnf)
    | ((refine Ru.eql_err0 (by decide) ?_); conv => whnf)
    | ((refine Ru.neq_errs (by decide) (by decide) ?_); conv => whnf)
    | ((refine Ru.neq_err0 (by decide) ?_); conv => whnf)
    | ((refine Ru.neq_nil rfl ?_); conv => whnf)
    | ((refine Ru.eql_nil rfl ?_); conv => whnf)
    | ((refine Ru.eql_err rfl (by decide) ?_); conv => whnf)
    | ((refine Ru.neq_err rfl (by decide) ?_); conv => whnf)
    | ((refine Ru.eqlb Try.underlying4 ?_); conv => whnf)
    | ((refine Ru.neqb Try.underlying4 ?_); conv => whnf)
    | ((refine RuQ.eqlb Try.underlying4 ?_); conv => whnf)
    | ((refine RuQ.neqb Try.underlying4 ?_); conv => whnf)
    | ((refine CW.seq tt_ok ?_); conv => whnf))
  exact ⟨rfl, rfl, (FS.drewN (.inr r2) 1), k2.drewN 1⟩
end Go.Proofs.Ytikjedefbflklaa
