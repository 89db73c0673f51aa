/- Parts of slices; bytes.Equal. -/
import Derived.Test.YtphinlhnepienaaK
import Derived.Test.YtphinlhnepienaaSame
import Derived.Laws.BytesArg
import Derived.Lib.Bytes
namespace Go.Proofs.Ytphinlhnepienaa
open Go.RowKit
set_option linter.unusedVariables false
section
variable {P : Program} {w : World}
theorem size_elem {t e : TypeId} {n : Nat} (hu : P.underlying t = some (.slice e)) (hs : szIs P e n = true) : P.underlying t = some (.slice (P.elem t)) ∧ (sizeOf (P.elem t)).run P w = .ok n w := by
  have he : P.elem t = e := by simp [Program.elem, hu]
  rw [he]
  exact ⟨hu, size_of_is hs w⟩
theorem Ru.sl_lh {t e : TypeId} {b o n c l h : Nat} {K : Value → World → Prop} (hu : P.underlying t = some (.slice e)) (hs : szIs P e 1 = true) (hl : l ≤ h) (hh : h ≤ c) (hc : l < c) (k : K (.slice (some ⟨b, o + l, none⟩) (h - l) (c - l)) w) :
    Ru P (Instr.sliceAt t (.slice (some ⟨b, o, none⟩) n c) (some (.int .i64 (l : Int))) (some (.int .i64 (h : Int))) none) w K := by
  obtain ⟨h1, h2⟩ := size_elem (w := w) hu hs
  refine ⟨_, _, ?_, k⟩
  rw [run_sliceAt_slice w t _ _ _ _ h1, run_slice_lh w t _ n c h1 .i64 .i64 l h (by omega) (by omega) (by omega), h2]
  simp only [Result.andThen_ok, Int.toNat_natCast, sliced, if_neg (show ¬ c = l by omega), Option.map_some, of_add, Nat.mul_one]
theorem Ru.sl_h {t e : TypeId} {b o n c h : Nat} {K : Value → World → Prop} (hu : P.underlying t = some (.slice e)) (hs : szIs P e 1 = true) (hh : h ≤ c) (k : K (.slice (some ⟨b, o, none⟩) h c) w) :
    Ru P (Instr.sliceAt t (.slice (some ⟨b, o, none⟩) n c) none (some (.int .i64 (h : Int))) none) w K := by
  obtain ⟨h1, h2⟩ := size_elem (w := w) hu hs
  refine ⟨_, _, ?_, k⟩
  rw [run_sliceAt_slice w t _ _ _ _ h1, run_slice_h w t _ n c h1 .i64 h (by omega) (by omega), h2]
  by_cases hc : c = 0 <;> simp [sliced, hc, of_add]
theorem RuQ.sl_lh {C : World → Prop} {t e : TypeId} {b o n c l h : Nat} {K : Value → Prop} (hu : P.underlying t = some (.slice e)) (hs : szIs P e 1 = true) (hl : l ≤ h) (hh : h ≤ c) (hc : l < c) (k : K (.slice (some ⟨b, o + l, none⟩) (h - l) (c - l))) :
    RuQ P C (Instr.sliceAt t (.slice (some ⟨b, o, none⟩) n c) (some (.int .i64 (l : Int))) (some (.int .i64 (h : Int))) none) K := ⟨_, fun w _ => by
  obtain ⟨v, w', h1, h2⟩ := Ru.sl_lh (w := w) (K := fun v w' => v = _ ∧ w' = w) hu hs hl hh hc ⟨rfl, rfl⟩
  rw [h1, h2.1, h2.2], k⟩
theorem RuQ.sl_h {C : World → Prop} {t e : TypeId} {b o n c h : Nat} {K : Value → Prop} (hu : P.underlying t = some (.slice e)) (hs : szIs P e 1 = true) (hh : h ≤ c) (k : K (.slice (some ⟨b, o, none⟩) h c)) :
    RuQ P C (Instr.sliceAt t (.slice (some ⟨b, o, none⟩) n c) none (some (.int .i64 (h : Int))) none) K := ⟨_, fun w _ => by
  obtain ⟨v, w', h1, h2⟩ := Ru.sl_h (w := w) (K := fun v w' => v = _ ∧ w' = w) hu hs hh ⟨rfl, rfl⟩
  rw [h1, h2.1, h2.2], k⟩
theorem Ru.bytesStr {src dst e : TypeId} {A : Option Addr} {n c : Nat} {f : Nat → Int} {K : Value → World → Prop} (hs : P.underlying src = some (.slice e)) (he : P.underlying e = some (.int .u8)) (hd : P.underlying dst = some .string) (r : Rd w A n (fun j => .int .u8 (f j))) (k : K (.string (strOfNums ((List.range n).map f))) w) :
    Ru P (convert src dst (.slice A n c)) w K := by
  refine ⟨_, _, ?_, k⟩
  by_cases hn : 0 < n
  · obtain ⟨b, o, rfl, hc⟩ := r hn
    exact run_convert_bytes_arg w src e hs he b o n c _ (by simp) (fun i hi => by rw [hc i hi, List.getD_eq_getElem?_getD, List.getElem?_map, List.getElem?_range hi]; rfl) dst hd
  · obtain rfl : n = 0 := by omega
    cases A with
    | none => exact run_convert_bytes_nil w src e hs he 0 c dst hd
    | some a =>
      rw [run_convert_bytes_string w src dst e _ 0 c hs he hd, run_bytesToString w a 0 c [] rfl]
      rfl
theorem Ru.eqlStr {t : TypeId} {x y : Operand} {a b : ByteArray} {K : Value → World → Prop} (hu : P.underlying t = some .string) (k : K (.bool (a.toList == b.toList)) w) : Ru P (do eqGuard .eql t x y (.string a) (.string b); binOp .eql t (.string a) (.string b)) w K := by
  refine ⟨_, _, ?_, k⟩
  simp [eqGuard, binOp_string_eql]
end
theorem ofNat_inj {a b : Int} (ha : 0 ≤ a ∧ a ≤ 255) (hb : 0 ≤ b ∧ b ≤ 255) (h : UInt8.ofNat a.toNat = UInt8.ofNat b.toNat) : a = b := by
  have := congrArg UInt8.toNat h
  simp only [UInt8.toNat_ofNat'] at this
  omega
theorem str_same {n m : Nat} {f g : Nat → Int} (hf : ∀ j, 0 ≤ f j ∧ f j ≤ 255) (hg : ∀ j, 0 ≤ g j ∧ g j ≤ 255) : ((strOfNums ((List.range n).map f)).toList == (strOfNums ((List.range m).map g)).toList) = sameB n m f g := by
  rw [Bool.eq_iff_iff, sameB, beq_iff_eq, decide_eq_true_eq, Lib.strOfNums_toList, Lib.strOfNums_toList]
  unfold Lib.bytesOf
  constructor
  · intro h
    have hl := congrArg List.length h
    simp at hl
    subst hl
    refine ⟨rfl, fun j hj => ?_⟩
    have := congrArg (fun l => l[j]?) h
    simp [hj] at this
    exact ofNat_inj (hf j) (hg j) this
  · rintro ⟨rfl, h⟩
    congr 1
    exact List.map_congr_left (fun j hj => h j (List.mem_range.1 hj))
theorem bytesEqual_ok (A B : Option Addr) (n m c d : Nat) (f g : Nat → Int) (w : World) (r0 : Rd w A n (fun j => .int .u8 (f j))) (r1 : Rd w B m (fun j => .int .u8 (g j))) (hf : ∀ j, 0 ≤ f j ∧ f j ≤ 255) (hg : ∀ j, 0 ≤ g j ∧ g j ≤ 255) :
    Spec Try.prog 25 #[.slice A n c, .slice B m d] w fun v w' => v = .bool (sameB n m f g) ∧ w = w' := by
  rw [← str_same hf hg]
  refine spec_of_wpE (T := tt) tt_ok Try.func25 rfl (by decide +kernel) Try.ntmps25 (by simp) ?_
  conv => whnf
  repeat (first
    | ((refine Br.t ?_); conv => whnf)
    | ((refine Br.f ?_); conv => whnf)
    | ((refine Pk.f ?_); conv => whnf)
    | ((refine Pk.t ?_); conv => whnf)
    | ((refine Pk.and ?_); conv => whnf)
    | ((refine Pk.or ?_); conv => whnf)
    | ((refine Ix.nat (by omega) ?_); conv => whnf)
    | ((refine Ix.of _ (by rfl) (by omega) ?_); conv => whnf)
    | ((refine Ix.int (by omega) (by omega) ?_); conv => whnf)
    | ((refine Ar.i64 (by omega) (by omega) ?_); conv => whnf)
    | ((refine Ar.u8 (by omega) (by omega) ?_); conv => whnf)
    | ((refine Ar.u64 (by omega) (by omega) ?_); conv => whnf)
    | ((refine Dv.quo (by omega) (by omega) (by omega) ?_); conv => whnf)
    | ((refine Dv.rem (by omega) (by omega) ?_); conv => whnf)
    | ((refine Br.yes (by omega) ?_); conv => whnf)
    | ((refine Br.no (by omega) ?_); conv => whnf)
    | ((refine Br.nyes (by omega) ?_); conv => whnf)
    | ((refine Br.nno (by omega) ?_); conv => whnf)
    | ((refine Br.is (by assumption) ?_); conv => whnf)
    | ((refine Br.isnt (by assumption) ?_); conv => whnf)
    | ((refine Ld.of (by assumption) ?_); conv => whnf)
    | ((refine Ru.neq_nil0 ?_); conv => whnf)
    | ((refine Ru.neq_nil1 (by decide) ?_); conv => whnf)
    | ((refine Ru.eql_nil0 ?_); conv => whnf)
    | ((refine Ru.eql_nil1 (by decide) ?_); conv => whnf)
    | ((refine Ru.eql_errs (by decide) (by decide) ?_); conv => whnf)
    | ((refine Ru.eql_err0 (by decide) ?_); conv => whnf)
    | ((refine Ru.neq_errs (by decide) (by decide) ?_); conv => whnf)
    | ((refine Ru.neq_err0 (by decide) ?_); conv => whnf)
    | ((refine Ru.neq_nil rfl ?_); conv => whnf)
    | ((refine Ru.eql_nil rfl ?_); conv => whnf)
    | ((refine Ru.eql_err rfl (by decide) ?_); conv => whnf)
    | ((refine Ru.neq_err rfl (by decide) ?_); conv => whnf)
    | ((refine Ru.eqlb Try.underlying4 ?_); conv => whnf)
    | ((refine Ru.neqb Try.underlying4 ?_); conv => whnf)
    | ((refine RuQ.eqlb Try.underlying4 ?_); conv => whnf)
    | ((refine RuQ.neqb Try.underlying4 ?_); conv => whnf)
    | ((refine CW.seq tt_ok ?_); conv => whnf))
  refine Ru.bytesStr Try.underlying28 Try.underlying5 Try.underlying9 r0 ?_
  generalize strOfNums ((List.range n).map f) = x
  conv => whnf
  repeat (first
    | ((refine Br.t ?_); conv => whnf)
    | ((refine Br.f ?_); conv => whnf)
    | ((refine Pk.f ?_); conv => whnf)
    | ((refine Pk.t ?_); conv => whnf)
    | ((refine Pk.and ?_); conv => whnf)
    | ((refine Pk.or ?_); conv => whnf)
    | ((refine Ix.nat (by omega) ?_); conv => whnf)
    | ((refine Ix.of _ (by rfl) (by omega) ?_); conv => whnf)
    | ((refine Ix.int (by omega) (by omega) ?_); conv => whnf)
    | ((refine Ar.i64 (by omega) (by omega) ?_); conv => whnf)
    | ((refine Ar.u8 (by omega) (by omega) ?_); conv => whnf)
    | ((refine Ar.u64 (by omega) (by omega) ?_); conv => whnf)
    | ((refine Dv.quo (by omega) (by omega) (by omega) ?_); conv => whnf)
    | ((refine Dv.rem (by omega) (by omega) ?_); conv => whnf)
    | ((refine Br.yes (by omega) ?_); conv => whnf)
    | ((refine Br.no (by omega) ?_); conv => whnf)
    | ((refine Br.nyes (by omega) ?_); conv => whnf)
    | ((refine Br.nno (by omega) ?_); conv => whnf)
    | ((refine Br.is (by assumption) ?_); conv => whnf)
    | ((refine Br.isnt (by assumption) ?_); conv => whnf)
    | ((refine Ld.of (by assumption) ?_); conv => whnf)
    | ((refine Ru.neq_nil0 ?_); conv => whnf)
    | ((refine Ru.neq_nil1 (by decide) ?_); conv => whnf)
    | ((refine Ru.eql_nil0 ?_); conv => whnf)
    | ((refine Ru.eql_nil1 (by decide) ?_); conv => whnf)
    | ((refine Ru.eql_errs (by decide) (by decide) ?_); conv => whnf)
    | ((refine Ru.eql_err0 (by decide) ?_); conv => whnf)
    | ((refine Ru.neq_errs (by decide) (by decide) ?_); conv => whnf)
    | ((refine Ru.neq_err0 (by decide) ?_); conv => whnf)
    | ((refine Ru.neq_nil rfl ?_); conv => whnf)
    | ((refine Ru.eql_nil rfl ?_); conv => whnf)
    | ((refine Ru.eql_err rfl (by decide) ?_); conv => whnf)
    | ((refine Ru.neq_err rfl (by decide) ?_); conv => whnf)
    | ((refine Ru.eqlb Try.underlying4 ?_); conv => whnf)
    | ((refine Ru.neqb Try.underlying4 ?_); conv => whnf)
    | ((refine RuQ.eqlb Try.underlying4 ?_); conv => whnf)
    | ((refine RuQ.neqb Try.underlying4 ?_); conv => whnf)
    | ((refine CW.seq tt_ok ?_); conv => whnf))
  refine Ru.bytesStr Try.underlying28 Try.underlying5 Try.underlying9 r1 ?_
  generalize strOfNums ((List.range m).map g) = y
  conv => whnf
  repeat (first
    | ((refine Br.t ?_); conv => whnf)
    | ((refine Br.f ?_); conv => whnf)
    | ((refine Pk.f ?_); conv => whnf)
    | ((refine Pk.t ?_); conv => whnf)
    | ((refine Pk.and ?_); conv => whnf)
    | ((refine Pk.or ?_); conv => whnf)
    | ((refine Ix.nat (by omega) ?_); conv => whnf)
    | ((refine Ix.of _ (by rfl) (by omega) ?_); conv => whnf)
    | ((refine Ix.int (by omega) (by omega) ?_); conv => whnf)
    | ((refine Ar.i64 (by omega) (by omega) ?_); conv => whnf)
    | ((refine Ar.u8 (by omega) (by omega) ?_); conv => whnf)
    | ((refine Ar.u64 (by omega) (by omega) ?_); conv => whnf)
    | ((refine Dv.quo (by omega) (by omega) (by omega) ?_); conv => whnf)
    | ((refine Dv.rem (by omega) (by omega) ?_); conv => whnf)
    | ((refine Br.yes (by omega) ?_); conv => whnf)
    | ((refine Br.no (by omega) ?_); conv => whnf)
    | ((refine Br.nyes (by omega) ?_); conv => whnf)
    | ((refine Br.nno (by omega) ?_); conv => whnf)
    | ((refine Br.is (by assumption) ?_); conv => whnf)
    | ((refine Br.isnt (by assumption) ?_); conv => whnf)
    | ((refine Ld.of (by assumption) ?_); conv => whnf)
    | ((refine Ru.neq_nil0 ?_); conv => whnf)
    | ((refine Ru.neq_nil1 (by decide) ?_); conv => whnf)
    | ((refine Ru.eql_nil0 ?_); conv => whnf)
    | ((refine Ru.eql_nil1 (by decide) ?_); conv => whnf)
    | ((refine Ru.eql_errs (by decide) (by decide) ?_); conv => whnf)
    | ((refine Ru.eql_err0 (by decide) ?_); conv => whnf)
    | ((refine Ru.neq_errs (by decide) (by decide) ?_); conv => whnf)
    | ((refine Ru.neq_err0 (by decide) ?_); conv => whnf)
    | ((refine Ru.neq_nil rfl ?_); conv => whnf)
    | ((refine Ru.eql_nil rfl ?_); conv => whnf)
    | ((refine Ru.eql_err rfl (by decide) ?_); conv => whnf)
    | ((refine Ru.neq_err rfl (by decide) ?_); conv => whnf)
    | ((refine Ru.eqlb Try.underlying4 ?_); conv => whnf)
    | ((refine Ru.neqb Try.underlying4 ?_); conv => whnf)
    | ((refine RuQ.eqlb Try.underlying4 ?_); conv => whnf)
    | ((refine RuQ.neqb Try.underlying4 ?_); conv => whnf)
    | ((refine CW.seq tt_ok ?_); conv => whnf))
  refine Ru.eqlStr Try.underlying9 ?_
  conv => whnf
  repeat (first
    | ((refine Br.t ?_); conv => whnf)
    | ((refine Br.f ?_); conv => whnf)
    | ((refine Pk.f ?_); conv => whnf)
    | ((refine Pk.t ?_); conv => whnf)
    | ((refine Pk.and ?_); conv => whnf)
    | ((refine Pk.or ?_); conv => whnf)
    | ((refine Ix.nat (by omega) ?_); conv => whnf)
    | ((refine Ix.of _ (by rfl) (by omega) ?_); conv => whnf)
    | ((refine Ix.int (by omega) (by omega) ?_); conv => whnf)
    | ((refine Ar.i64 (by omega) (by omega) ?_); conv => whnf)
    | ((refine Ar.u8 (by omega) (by omega) ?_); conv => whnf)
    | ((refine Ar.u64 (by omega) (by omega) ?_); conv => whnf)
    | ((refine Dv.quo (by omega) (by omega) (by omega) ?_); conv => whnf)
    | ((refine Dv.rem (by omega) (by omega) ?_); conv => whnf)
    | ((refine Br.yes (by omega) ?_); conv => whnf)
    | ((refine Br.no (by omega) ?_); conv => whnf)
    | ((refine Br.nyes (by omega) ?_); conv => whnf)
    | ((refine Br.nno (by omega) ?_); conv => whnf)
    | ((refine Br.is (by assumption) ?_); conv => whnf)
    | ((refine Br.isnt (by assumption) ?_); conv => whnf)
    | ((refine Ld.of (by assumption) ?_); conv => whnf)
    | ((refine Ru.neq_nil0 ?_); conv => whnf)
    | ((refine Ru.neq_nil1 (by decide) ?_); conv => whnf)
    | ((refine Ru.eql_nil0 ?_); conv => whnf)
    | ((refine Ru.eql_nil1 (by decide) ?_); conv => whnf)
    | ((refine Ru.eql_errs (by decide) (by decide) ?_); conv => whnf)
    | ((refine Ru.eql_err0 (by decide) ?_); conv => whnf)
    | ((refine Ru.neq_errs (by decide) (by decide) ?_); conv => whnf)
    | ((refine Ru.neq_err0 (by decide) ?_); conv => whnf)
    | ((refine Ru.neq_nil rfl ?_); conv => whnf)
    | ((refine Ru.eql_nil rfl ?_); conv => whnf)
    | ((refine Ru.eql_err rfl (by decide) ?_); conv => whnf)
    | ((refine Ru.neq_err rfl (by decide) ?_); conv => whnf)
    | ((refine Ru.eqlb Try.underlying4 ?_); conv => whnf)
    | ((refine Ru.neqb Try.underlying4 ?_); conv => whnf)
    | ((refine RuQ.eqlb Try.underlying4 ?_); conv => whnf)
    | ((refine RuQ.neqb Try.underlying4 ?_); conv => whnf)
    | ((refine CW.seq tt_ok ?_); conv => whnf))
  exact ⟨rfl, rfl, rfl⟩
end Go.Proofs.Ytphinlhnepienaa
