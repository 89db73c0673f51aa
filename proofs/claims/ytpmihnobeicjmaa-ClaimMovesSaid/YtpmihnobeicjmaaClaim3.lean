/- The document's sorted and Newest. -/
import Derived.Test.YtpmihnobeicjmaaClaim2
namespace Go.Proofs.Ytpmihnobeicjmaa
open Go.RowKit
set_option linter.unusedVariables false
attribute [local irreducible] ahead Fd.sound
theorem fd_keep {w w' : World} {g o : Nat} {f : Fd} (h : ∀ m, m < 6 → w.cell? ⟨g, o + m, none⟩ = some (f.cell m)) (k : Keep [] w w') : ∀ m, m < 6 → w'.cell? ⟨g, o + m, none⟩ = some (f.cell m) := fun m hm =>
  (k.cell (p := ⟨g, o + m, none⟩) (cell_lt (h m hm)) (by simp)).trans (h m hm)
/-- The founds of place p, whether sound or not. -/
def plc (L : List Fd) (p : Nat) : List Fd := L.filter fun f => f.place == (p : Int)
def srt (L : List Fd) (k : Nat) : List Fd := (List.range k).flatMap fun p => plc L p
theorem srt_succ (L : List Fd) (k : Nat) : srt L (k + 1) = srt L k ++ plc L k := by
  unfold srt
  rw [List.range_succ, List.flatMap_append]
  simp
theorem plc_snoc (L : List Fd) (f : Fd) (p : Nat) : plc (L ++ [f]) p = plc L p ++ if f.place == (p : Int) then [f] else [] := by
  unfold plc
  rw [List.filter_append]
  simp only [List.filter_cons, List.filter_nil]
theorem srt_sound {L : List Fd} (h : ∀ f, f ∈ L → f.sound = true) (k : Nat) : srt L k = byP L k := by
  unfold srt byP
  congr 1
  funext p
  unfold plc sel
  refine List.filter_congr fun f hf => ?_
  rw [h f hf]
  rfl
theorem plc_len (L : List Fd) (p i : Nat) : (plc (L.take i) p).length ≤ (plc L p).length := by
  unfold plc
  rw [← List.countP_eq_length_filter, ← List.countP_eq_length_filter]
  exact (List.take_sublist i L).countP_le
theorem srt_len {L : List Fd} (h : ∀ f, f ∈ L → f.sound = true) (p i : Nat) : (srt L p).length + (plc (L.take i) p).length ≤ L.length := by
  have h1 := byP_len L (p + 1)
  rw [← srt_sound h, srt_succ, List.length_append] at h1
  have := plc_len L p i
  omega
set_option maxHeartbeats 1000000 in
theorem sorted_ok (A : Option Addr) (c : Nat) (L : List Fd) (w : World) (hr : Rd w A (L.length * 6) (fdF L)) (hn : L.length * 48 ≤ 140737488351232) (hs : ∀ f, f ∈ L → f.sound = true) :
    Spec Try.prog 22 #[.slice A L.length c] w (ByPost L w) := by
  obtain ⟨i0, hi, hz0, hz1, hz2⟩ := info_parts found_info
  refine spec_of_wpE (T := tt) tt_ok Try.func22 rfl (by decide +kernel) Try.ntmps22 (by simp) ?_
  conv => whnf
  repeat (first
    | ((refine HS.mk trivial ?_); conv => whnf)
    | ((refine Br.t ?_); conv => whnf)
    | ((refine Br.f ?_); conv => whnf)
    | ((refine Pk.f ?_); conv => whnf)
    | ((refine Pk.t ?_); conv => whnf)
    | ((refine Pk.and ?_); conv => whnf)
    | ((refine Pk.or ?_); conv => whnf)
    | ((refine Ix.nat (by omega) ?_); conv => whnf)
    | ((refine Ix.of _ (by rfl) (by omega) ?_); conv => whnf)
    | ((refine Ix.int (by omega) (by omega) ?_); conv => whnf)
    | ((refine Ar.i64 (by omega) (by omega) ?_); conv => whnf)
    | ((refine Ar.u8 (by omega) (by omega) ?_); conv => whnf)
    | ((refine Ar.u64 (by omega) (by omega) ?_); conv => whnf)
    | ((refine Dv.quo (by omega) (by omega) (by omega) ?_); conv => whnf)
    | ((refine Dv.rem (by omega) (by omega) ?_); conv => whnf)
    | ((refine Br.yes (by omega) ?_); conv => whnf)
    | ((refine Br.no (by omega) ?_); conv => whnf)
    | ((refine Br.nyes (by omega) ?_); conv => whnf)
    | ((refine Br.nno (by omega) ?_); conv => whnf)
    | ((refine Br.is (by assumption) ?_); conv => whnf)
    | ((refine Br.isnt (by assumption) ?_); conv => whnf)
    | ((refine Ld.of (by assumption) ?_); conv => whnf)
    | ((refine Ru.neq_nil0 ?_); conv => whnf)
    | ((refine Ru.neq_nil1 (by decide) ?_); conv => whnf)
    | ((refine Ru.eql_nil0 ?_); conv => whnf)
    | ((refine Ru.eql_nil1 (by decide) ?_); conv => whnf)
    | ((refine Ru.eql_errs (by decide) (by decide) ?_); conv => whnf)
    | ((refine Ru.eql_err0 (by decide) ?_); conv => whnf)
    | ((refine Ru.neq_errs (by decide) (by decide) ?_); conv => whnf)
    | ((refine Ru.neq_err0 (by decide) ?_); conv => whnf)
    | ((refine Ru.neq_nil rfl ?_); conv => whnf)
    | ((refine Ru.eql_nil rfl ?_); conv => whnf)
    | ((refine Ru.eql_err rfl (by decide) ?_); conv => whnf)
    | ((refine Ru.neq_err rfl (by decide) ?_); conv => whnf)
    | ((refine Ru.eqlb Try.underlying4 ?_); conv => whnf)
    | ((refine Ru.neqb Try.underlying4 ?_); conv => whnf)
    | ((refine RuQ.eqlb Try.underlying4 ?_); conv => whnf)
    | ((refine RuQ.neqb Try.underlying4 ?_); conv => whnf)
    | ((refine CW.seq tt_ok ?_); conv => whnf))
  refine CW.loop (ι := Nat × Option Addr × Nat) (fun i w2 => i.1 ≤ 96 ∧ Ly w2 28 6 i.2.1 (srt L i.1).length i.2.2 (fdF (srt L i.1)) ∧ (∀ x, x ∈ blk i.2.1 → w.heap.size ≤ x) ∧ Keep [] w w2) (fun i => [(0, .slice A L.length c), (3, .slice i.2.1 (srt L i.1).length i.2.2), (4, .int .i64 i.1)]) (fun i => 96 - i.1) (0, none, 0) tt_ok ⟨by simp, Ly.nil _ _ _ _, (fun _ h => by cases h), Keep.refl _ _⟩ ⟨rfl, rfl, rfl, trivial⟩ ?_
  rintro ⟨p, Z, cz⟩ w2 ⟨hp, hly, hnew, kk⟩
  simp only at hp hly hnew
  by_cases hlt : p < 96
  · conv => whnf
    repeat (first
      | ((refine HS.mk trivial ?_); conv => whnf)
      | ((refine Br.t ?_); conv => whnf)
      | ((refine Br.f ?_); conv => whnf)
      | ((refine Pk.f ?_); conv => whnf)
      | ((refine Pk.t ?_); conv => whnf)
      | ((refine Pk.and ?_); conv => whnf)
      | ((refine Pk.or ?_); conv => whnf)
      | ((refine Ix.nat (by omega) ?_); conv => whnf)
      | ((refine Ix.of _ (by rfl) (by omega) ?_); conv => whnf)
      | ((refine Ix.int (by omega) (by omega) ?_); conv => whnf)
      | ((refine Ar.i64 (by omega) (by omega) ?_); conv => whnf)
      | ((refine Ar.u8 (by omega) (by omega) ?_); conv => whnf)
      | ((refine Ar.u64 (by omega) (by omega) ?_); conv => whnf)
      | ((refine Dv.quo (by omega) (by omega) (by omega) ?_); conv => whnf)
      | ((refine Dv.rem (by omega) (by omega) ?_); conv => whnf)
      | ((refine Br.yes (by omega) ?_); conv => whnf)
      | ((refine Br.no (by omega) ?_); conv => whnf)
      | ((refine Br.nyes (by omega) ?_); conv => whnf)
      | ((refine Br.nno (by omega) ?_); conv => whnf)
      | ((refine Br.is (by assumption) ?_); conv => whnf)
      | ((refine Br.isnt (by assumption) ?_); conv => whnf)
      | ((refine Ld.of (by assumption) ?_); conv => whnf)
      | ((refine Ru.neq_nil0 ?_); conv => whnf)
      | ((refine Ru.neq_nil1 (by decide) ?_); conv => whnf)
      | ((refine Ru.eql_nil0 ?_); conv => whnf)
      | ((refine Ru.eql_nil1 (by decide) ?_); conv => whnf)
      | ((refine Ru.eql_errs (by decide) (by decide) ?_); conv => whnf)
      | ((refine Ru.eql_err0 (by decide) ?_); conv => whnf)
      | ((refine Ru.neq_errs (by decide) (by decide) ?_); conv => whnf)
      | ((refine Ru.neq_err0 (by decide) ?_); conv => whnf)
      | ((refine Ru.neq_nil rfl ?_); conv => whnf)
      | ((refine Ru.eql_nil rfl ?_); conv => whnf)
      | ((refine Ru.eql_err rfl (by decide) ?_); conv => whnf)
      | ((refine Ru.neq_err rfl (by decide) ?_); conv => whnf)
      | ((refine Ru.eqlb Try.underlying4 ?_); conv => whnf)
      | ((refine Ru.neqb Try.underlying4 ?_); conv => whnf)
      | ((refine RuQ.eqlb Try.underlying4 ?_); conv => whnf)
      | ((refine RuQ.neqb Try.underlying4 ?_); conv => whnf)
      | ((refine CW.seq tt_ok ?_); conv => whnf))
    refine CW.loop (ι := Nat × Option Addr × Nat) (fun i w3 => i.1 ≤ L.length ∧ Ly w3 28 6 i.2.1 (srt L p ++ plc (L.take i.1) p).length i.2.2 (fdF (srt L p ++ plc (L.take i.1) p)) ∧ (∀ x, x ∈ blk i.2.1 → w.heap.size ≤ x) ∧ Keep [] w w3) (fun i => [(0, .slice A L.length c), (3, .slice i.2.1 (srt L p ++ plc (L.take i.1) p).length i.2.2), (4, .int .i64 p), (5, .int .i64 i.1)]) (fun i => L.length - i.1) (0, Z, cz) tt_ok ⟨by simp, by simpa [plc] using hly, hnew, kk⟩ ⟨rfl, by simp [plc, lk], rfl, rfl, trivial⟩ ?_
    rintro ⟨k, X, cx⟩ w3 ⟨hk, hly, hnew, kk⟩
    simp only at hk hly hnew
    by_cases hlt2 : k < L.length
    · obtain ⟨b, o, rfl, hc⟩ := fd_cells (hr.keep0 kk) k hlt2
      have htk := take_snoc hlt2
      have hsum := srt_len hs p k
      have hsum2 := srt_len hs p (k + 1)
      generalize L.getD k Fd.zero = f at *
      obtain ⟨c0, c1, c2, c3, c4, c5⟩ := fd_cell6 hc
      by_cases hf : f.place = (p : Int)
      · have e1 : plc (L.take (k + 1)) p = plc (L.take k) p ++ [f] := by rw [htk, plc_snoc, if_pos (by simpa using hf)]
        have e2 : (srt L p ++ plc (L.take (k + 1)) p).length = (srt L p ++ plc (L.take k) p).length + 1 := by rw [e1]; simp; omega
        conv => whnf
        repeat (first
          | ((refine HS.mk trivial ?_); conv => whnf)
          | ((refine Br.t ?_); conv => whnf)
          | ((refine Br.f ?_); conv => whnf)
          | ((refine Pk.f ?_); conv => whnf)
          | ((refine Pk.t ?_); conv => whnf)
          | ((refine Pk.and ?_); conv => whnf)
          | ((refine Pk.or ?_); conv => whnf)
          | ((refine Ix.nat (by omega) ?_); conv => whnf)
          | ((refine Ix.of _ (by rfl) (by omega) ?_); conv => whnf)
          | ((refine Ix.int (by omega) (by omega) ?_); conv => whnf)
          | ((refine Ar.i64 (by omega) (by omega) ?_); conv => whnf)
          | ((refine Ar.u8 (by omega) (by omega) ?_); conv => whnf)
          | ((refine Ar.u64 (by omega) (by omega) ?_); conv => whnf)
          | ((refine Dv.quo (by omega) (by omega) (by omega) ?_); conv => whnf)
          | ((refine Dv.rem (by omega) (by omega) ?_); conv => whnf)
          | ((refine Br.yes (by omega) ?_); conv => whnf)
          | ((refine Br.no (by omega) ?_); conv => whnf)
          | ((refine Br.nyes (by omega) ?_); conv => whnf)
          | ((refine Br.nno (by omega) ?_); conv => whnf)
          | ((refine Br.is (by assumption) ?_); conv => whnf)
          | ((refine Br.isnt (by assumption) ?_); conv => whnf)
          | ((refine Ld.of (by assumption) ?_); conv => whnf)
          | ((refine Ru.neq_nil0 ?_); conv => whnf)
          | ((refine Ru.neq_nil1 (by decide) ?_); conv => whnf)
          | ((refine Ru.eql_nil0 ?_); conv => whnf)
          | ((refine Ru.eql_nil1 (by decide) ?_); conv => whnf)
          | ((refine Ru.eql_errs (by decide) (by decide) ?_); conv => whnf)
          | ((refine Ru.eql_err0 (by decide) ?_); conv => whnf)
          | ((refine Ru.neq_errs (by decide) (by decide) ?_); conv => whnf)
          | ((refine Ru.neq_err0 (by decide) ?_); conv => whnf)
          | ((refine Ru.neq_nil rfl ?_); conv => whnf)
          | ((refine Ru.eql_nil rfl ?_); conv => whnf)
          | ((refine Ru.eql_err rfl (by decide) ?_); conv => whnf)
          | ((refine Ru.neq_err rfl (by decide) ?_); conv => whnf)
          | ((refine Ru.eqlb Try.underlying4 ?_); conv => whnf)
          | ((refine Ru.neqb Try.underlying4 ?_); conv => whnf)
          | ((refine RuQ.eqlb Try.underlying4 ?_); conv => whnf)
          | ((refine RuQ.neqb Try.underlying4 ?_); conv => whnf)
          | ((refine CW.seq tt_ok ?_); conv => whnf))
        refine Ru.ldfds hc ?_
        conv => whnf
        repeat (first
          | ((refine HS.mk trivial ?_); conv => whnf)
          | ((refine Br.t ?_); conv => whnf)
          | ((refine Br.f ?_); conv => whnf)
          | ((refine Pk.f ?_); conv => whnf)
          | ((refine Pk.t ?_); conv => whnf)
          | ((refine Pk.and ?_); conv => whnf)
          | ((refine Pk.or ?_); conv => whnf)
          | ((refine Ix.nat (by omega) ?_); conv => whnf)
          | ((refine Ix.of _ (by rfl) (by omega) ?_); conv => whnf)
          | ((refine Ix.int (by omega) (by omega) ?_); conv => whnf)
          | ((refine Ar.i64 (by omega) (by omega) ?_); conv => whnf)
          | ((refine Ar.u8 (by omega) (by omega) ?_); conv => whnf)
          | ((refine Ar.u64 (by omega) (by omega) ?_); conv => whnf)
          | ((refine Dv.quo (by omega) (by omega) (by omega) ?_); conv => whnf)
          | ((refine Dv.rem (by omega) (by omega) ?_); conv => whnf)
          | ((refine Br.yes (by omega) ?_); conv => whnf)
          | ((refine Br.no (by omega) ?_); conv => whnf)
          | ((refine Br.nyes (by omega) ?_); conv => whnf)
          | ((refine Br.nno (by omega) ?_); conv => whnf)
          | ((refine Br.is (by assumption) ?_); conv => whnf)
          | ((refine Br.isnt (by assumption) ?_); conv => whnf)
          | ((refine Ld.of (by assumption) ?_); conv => whnf)
          | ((refine Ru.neq_nil0 ?_); conv => whnf)
          | ((refine Ru.neq_nil1 (by decide) ?_); conv => whnf)
          | ((refine Ru.eql_nil0 ?_); conv => whnf)
          | ((refine Ru.eql_nil1 (by decide) ?_); conv => whnf)
          | ((refine Ru.eql_errs (by decide) (by decide) ?_); conv => whnf)
          | ((refine Ru.eql_err0 (by decide) ?_); conv => whnf)
          | ((refine Ru.neq_errs (by decide) (by decide) ?_); conv => whnf)
          | ((refine Ru.neq_err0 (by decide) ?_); conv => whnf)
          | ((refine Ru.neq_nil rfl ?_); conv => whnf)
          | ((refine Ru.eql_nil rfl ?_); conv => whnf)
          | ((refine Ru.eql_err rfl (by decide) ?_); conv => whnf)
          | ((refine Ru.neq_err rfl (by decide) ?_); conv => whnf)
          | ((refine Ru.eqlb Try.underlying4 ?_); conv => whnf)
          | ((refine Ru.neqb Try.underlying4 ?_); conv => whnf)
          | ((refine RuQ.eqlb Try.underlying4 ?_); conv => whnf)
          | ((refine RuQ.neqb Try.underlying4 ?_); conv => whnf)
          | ((refine CW.seq tt_ok ?_); conv => whnf))
        refine Ru.buildfd f ?_
        intro g2 w4 hg2 hs2 r4 k4
        conv => whnf
        repeat (first
          | ((refine HS.mk trivial ?_); conv => whnf)
          | ((refine Br.t ?_); conv => whnf)
          | ((refine Br.f ?_); conv => whnf)
          | ((refine Pk.f ?_); conv => whnf)
          | ((refine Pk.t ?_); conv => whnf)
          | ((refine Pk.and ?_); conv => whnf)
          | ((refine Pk.or ?_); conv => whnf)
          | ((refine Ix.nat (by omega) ?_); conv => whnf)
          | ((refine Ix.of _ (by rfl) (by omega) ?_); conv => whnf)
          | ((refine Ix.int (by omega) (by omega) ?_); conv => whnf)
          | ((refine Ar.i64 (by omega) (by omega) ?_); conv => whnf)
          | ((refine Ar.u8 (by omega) (by omega) ?_); conv => whnf)
          | ((refine Ar.u64 (by omega) (by omega) ?_); conv => whnf)
          | ((refine Dv.quo (by omega) (by omega) (by omega) ?_); conv => whnf)
          | ((refine Dv.rem (by omega) (by omega) ?_); conv => whnf)
          | ((refine Br.yes (by omega) ?_); conv => whnf)
          | ((refine Br.no (by omega) ?_); conv => whnf)
          | ((refine Br.nyes (by omega) ?_); conv => whnf)
          | ((refine Br.nno (by omega) ?_); conv => whnf)
          | ((refine Br.is (by assumption) ?_); conv => whnf)
          | ((refine Br.isnt (by assumption) ?_); conv => whnf)
          | ((refine Ld.of (by assumption) ?_); conv => whnf)
          | ((refine Ru.neq_nil0 ?_); conv => whnf)
          | ((refine Ru.neq_nil1 (by decide) ?_); conv => whnf)
          | ((refine Ru.eql_nil0 ?_); conv => whnf)
          | ((refine Ru.eql_nil1 (by decide) ?_); conv => whnf)
          | ((refine Ru.eql_errs (by decide) (by decide) ?_); conv => whnf)
          | ((refine Ru.eql_err0 (by decide) ?_); conv => whnf)
          | ((refine Ru.neq_errs (by decide) (by decide) ?_); conv => whnf)
          | ((refine Ru.neq_err0 (by decide) ?_); conv => whnf)
          | ((refine Ru.neq_nil rfl ?_); conv => whnf)
          | ((refine Ru.eql_nil rfl ?_); conv => whnf)
          | ((refine Ru.eql_err rfl (by decide) ?_); conv => whnf)
          | ((refine Ru.neq_err rfl (by decide) ?_); conv => whnf)
          | ((refine Ru.eqlb Try.underlying4 ?_); conv => whnf)
          | ((refine Ru.neqb Try.underlying4 ?_); conv => whnf)
          | ((refine RuQ.eqlb Try.underlying4 ?_); conv => whnf)
          | ((refine RuQ.neqb Try.underlying4 ?_); conv => whnf)
          | ((refine CW.seq tt_ok ?_); conv => whnf))
        refine Bu.append Try.underlying24 hi hz0 hz1 hz2 rfl (by omega) (hly.keep0 k4) _ (Rd.of_row r4 (n := 1 * 6) (by omega)) (by omega) (by simp) (fun j hj => fd_one_cell f j hj) (by simp only [maxLen, List.length_append]; omega) (by simp only [List.length_append]; omega) ?_
        intro Y cY w5 hy hkp hat hpre
        conv => whnf
        repeat (first
          | ((refine HS.mk trivial ?_); conv => whnf)
          | ((refine Br.t ?_); conv => whnf)
          | ((refine Br.f ?_); conv => whnf)
          | ((refine Pk.f ?_); conv => whnf)
          | ((refine Pk.t ?_); conv => whnf)
          | ((refine Pk.and ?_); conv => whnf)
          | ((refine Pk.or ?_); conv => whnf)
          | ((refine Ix.nat (by omega) ?_); conv => whnf)
          | ((refine Ix.of _ (by rfl) (by omega) ?_); conv => whnf)
          | ((refine Ix.int (by omega) (by omega) ?_); conv => whnf)
          | ((refine Ar.i64 (by omega) (by omega) ?_); conv => whnf)
          | ((refine Ar.u8 (by omega) (by omega) ?_); conv => whnf)
          | ((refine Ar.u64 (by omega) (by omega) ?_); conv => whnf)
          | ((refine Dv.quo (by omega) (by omega) (by omega) ?_); conv => whnf)
          | ((refine Dv.rem (by omega) (by omega) ?_); conv => whnf)
          | ((refine Br.yes (by omega) ?_); conv => whnf)
          | ((refine Br.no (by omega) ?_); conv => whnf)
          | ((refine Br.nyes (by omega) ?_); conv => whnf)
          | ((refine Br.nno (by omega) ?_); conv => whnf)
          | ((refine Br.is (by assumption) ?_); conv => whnf)
          | ((refine Br.isnt (by assumption) ?_); conv => whnf)
          | ((refine Ld.of (by assumption) ?_); conv => whnf)
          | ((refine Ru.neq_nil0 ?_); conv => whnf)
          | ((refine Ru.neq_nil1 (by decide) ?_); conv => whnf)
          | ((refine Ru.eql_nil0 ?_); conv => whnf)
          | ((refine Ru.eql_nil1 (by decide) ?_); conv => whnf)
          | ((refine Ru.eql_errs (by decide) (by decide) ?_); conv => whnf)
          | ((refine Ru.eql_err0 (by decide) ?_); conv => whnf)
          | ((refine Ru.neq_errs (by decide) (by decide) ?_); conv => whnf)
          | ((refine Ru.neq_err0 (by decide) ?_); conv => whnf)
          | ((refine Ru.neq_nil rfl ?_); conv => whnf)
          | ((refine Ru.eql_nil rfl ?_); conv => whnf)
          | ((refine Ru.eql_err rfl (by decide) ?_); conv => whnf)
          | ((refine Ru.neq_err rfl (by decide) ?_); conv => whnf)
          | ((refine Ru.eqlb Try.underlying4 ?_); conv => whnf)
          | ((refine Ru.neqb Try.underlying4 ?_); conv => whnf)
          | ((refine RuQ.eqlb Try.underlying4 ?_); conv => whnf)
          | ((refine RuQ.neqb Try.underlying4 ?_); conv => whnf)
          | ((refine CW.seq tt_ok ?_); conv => whnf))
        refine ⟨(k + 1, Y, cY), ⟨hlt2, ?_, fun x hx => ?_, (kk.trans k4).then hkp (fun x hx => .inr (hnew x hx))⟩, ⟨rfl, congrArg (fun n => Value.slice Y n cY) e2.symm, rfl, rfl, trivial⟩, by simp only; omega⟩
        · simp only
          rw [e2]
          refine hy.congr (fun j hj => ?_)
          rw [e1, ← List.append_assoc]
          exact (fdF_snoc _ _ _ hj).symm
        · rcases hat with e | e
          · exact hnew x (e ▸ hx)
          · simp only at hx
            rw [e] at hx
            obtain rfl := List.mem_singleton.1 hx
            exact Nat.le_trans kk.size k4.size
      · have e1 : plc (L.take (k + 1)) p = plc (L.take k) p := by rw [htk, plc_snoc, if_neg (by simpa using hf), List.append_nil]
        conv => whnf
        repeat (first
          | ((refine HS.mk trivial ?_); conv => whnf)
          | ((refine Br.t ?_); conv => whnf)
          | ((refine Br.f ?_); conv => whnf)
          | ((refine Pk.f ?_); conv => whnf)
          | ((refine Pk.t ?_); conv => whnf)
          | ((refine Pk.and ?_); conv => whnf)
          | ((refine Pk.or ?_); conv => whnf)
          | ((refine Ix.nat (by omega) ?_); conv => whnf)
          | ((refine Ix.of _ (by rfl) (by omega) ?_); conv => whnf)
          | ((refine Ix.int (by omega) (by omega) ?_); conv => whnf)
          | ((refine Ar.i64 (by omega) (by omega) ?_); conv => whnf)
          | ((refine Ar.u8 (by omega) (by omega) ?_); conv => whnf)
          | ((refine Ar.u64 (by omega) (by omega) ?_); conv => whnf)
          | ((refine Dv.quo (by omega) (by omega) (by omega) ?_); conv => whnf)
          | ((refine Dv.rem (by omega) (by omega) ?_); conv => whnf)
          | ((refine Br.yes (by omega) ?_); conv => whnf)
          | ((refine Br.no (by omega) ?_); conv => whnf)
          | ((refine Br.nyes (by omega) ?_); conv => whnf)
          | ((refine Br.nno (by omega) ?_); conv => whnf)
          | ((refine Br.is (by assumption) ?_); conv => whnf)
          | ((refine Br.isnt (by assumption) ?_); conv => whnf)
          | ((refine Ld.of (by assumption) ?_); conv => whnf)
          | ((refine Ru.neq_nil0 ?_); conv => whnf)
          | ((refine Ru.neq_nil1 (by decide) ?_); conv => whnf)
          | ((refine Ru.eql_nil0 ?_); conv => whnf)
          | ((refine Ru.eql_nil1 (by decide) ?_); conv => whnf)
          | ((refine Ru.eql_errs (by decide) (by decide) ?_); conv => whnf)
          | ((refine Ru.eql_err0 (by decide) ?_); conv => whnf)
          | ((refine Ru.neq_errs (by decide) (by decide) ?_); conv => whnf)
          | ((refine Ru.neq_err0 (by decide) ?_); conv => whnf)
          | ((refine Ru.neq_nil rfl ?_); conv => whnf)
          | ((refine Ru.eql_nil rfl ?_); conv => whnf)
          | ((refine Ru.eql_err rfl (by decide) ?_); conv => whnf)
          | ((refine Ru.neq_err rfl (by decide) ?_); conv => whnf)
          | ((refine Ru.eqlb Try.underlying4 ?_); conv => whnf)
          | ((refine Ru.neqb Try.underlying4 ?_); conv => whnf)
          | ((refine RuQ.eqlb Try.underlying4 ?_); conv => whnf)
          | ((refine RuQ.neqb Try.underlying4 ?_); conv => whnf)
          | ((refine CW.seq tt_ok ?_); conv => whnf))
        exact ⟨(k + 1, X, cx), ⟨hlt2, by simp only; rw [e1]; exact hly, hnew, kk⟩, ⟨rfl, by rw [e1]; rfl, rfl, rfl, trivial⟩, by simp only; omega⟩
    · obtain rfl : k = L.length := by omega
      rw [List.take_length, ← srt_succ] at hly
      conv => whnf
      repeat (first
        | ((refine HS.mk trivial ?_); conv => whnf)
        | ((refine Br.t ?_); conv => whnf)
        | ((refine Br.f ?_); conv => whnf)
        | ((refine Pk.f ?_); conv => whnf)
        | ((refine Pk.t ?_); conv => whnf)
        | ((refine Pk.and ?_); conv => whnf)
        | ((refine Pk.or ?_); conv => whnf)
        | ((refine Ix.nat (by omega) ?_); conv => whnf)
        | ((refine Ix.of _ (by rfl) (by omega) ?_); conv => whnf)
        | ((refine Ix.int (by omega) (by omega) ?_); conv => whnf)
        | ((refine Ar.i64 (by omega) (by omega) ?_); conv => whnf)
        | ((refine Ar.u8 (by omega) (by omega) ?_); conv => whnf)
        | ((refine Ar.u64 (by omega) (by omega) ?_); conv => whnf)
        | ((refine Dv.quo (by omega) (by omega) (by omega) ?_); conv => whnf)
        | ((refine Dv.rem (by omega) (by omega) ?_); conv => whnf)
        | ((refine Br.yes (by omega) ?_); conv => whnf)
        | ((refine Br.no (by omega) ?_); conv => whnf)
        | ((refine Br.nyes (by omega) ?_); conv => whnf)
        | ((refine Br.nno (by omega) ?_); conv => whnf)
        | ((refine Br.is (by assumption) ?_); conv => whnf)
        | ((refine Br.isnt (by assumption) ?_); conv => whnf)
        | ((refine Ld.of (by assumption) ?_); conv => whnf)
        | ((refine Ru.neq_nil0 ?_); conv => whnf)
        | ((refine Ru.neq_nil1 (by decide) ?_); conv => whnf)
        | ((refine Ru.eql_nil0 ?_); conv => whnf)
        | ((refine Ru.eql_nil1 (by decide) ?_); conv => whnf)
        | ((refine Ru.eql_errs (by decide) (by decide) ?_); conv => whnf)
        | ((refine Ru.eql_err0 (by decide) ?_); conv => whnf)
        | ((refine Ru.neq_errs (by decide) (by decide) ?_); conv => whnf)
        | ((refine Ru.neq_err0 (by decide) ?_); conv => whnf)
        | ((refine Ru.neq_nil rfl ?_); conv => whnf)
        | ((refine Ru.eql_nil rfl ?_); conv => whnf)
        | ((refine Ru.eql_err rfl (by decide) ?_); conv => whnf)
        | ((refine Ru.neq_err rfl (by decide) ?_); conv => whnf)
        | ((refine Ru.eqlb Try.underlying4 ?_); conv => whnf)
        | ((refine Ru.neqb Try.underlying4 ?_); conv => whnf)
        | ((refine RuQ.eqlb Try.underlying4 ?_); conv => whnf)
        | ((refine RuQ.neqb Try.underlying4 ?_); conv => whnf)
        | ((refine CW.seq tt_ok ?_); conv => whnf))
      exact ⟨(p + 1, X, cx), ⟨hlt, hly, hnew, kk⟩, ⟨rfl, by rw [List.take_length, ← srt_succ]; rfl, rfl, trivial⟩, by simp only; omega⟩
  · obtain rfl : p = 96 := by omega
    rw [srt_sound hs] at hly
    conv => whnf
    repeat (first
      | ((refine HS.mk trivial ?_); conv => whnf)
      | ((refine Br.t ?_); conv => whnf)
      | ((refine Br.f ?_); conv => whnf)
      | ((refine Pk.f ?_); conv => whnf)
      | ((refine Pk.t ?_); conv => whnf)
      | ((refine Pk.and ?_); conv => whnf)
      | ((refine Pk.or ?_); conv => whnf)
      | ((refine Ix.nat (by omega) ?_); conv => whnf)
      | ((refine Ix.of _ (by rfl) (by omega) ?_); conv => whnf)
      | ((refine Ix.int (by omega) (by omega) ?_); conv => whnf)
      | ((refine Ar.i64 (by omega) (by omega) ?_); conv => whnf)
      | ((refine Ar.u8 (by omega) (by omega) ?_); conv => whnf)
      | ((refine Ar.u64 (by omega) (by omega) ?_); conv => whnf)
      | ((refine Dv.quo (by omega) (by omega) (by omega) ?_); conv => whnf)
      | ((refine Dv.rem (by omega) (by omega) ?_); conv => whnf)
      | ((refine Br.yes (by omega) ?_); conv => whnf)
      | ((refine Br.no (by omega) ?_); conv => whnf)
      | ((refine Br.nyes (by omega) ?_); conv => whnf)
      | ((refine Br.nno (by omega) ?_); conv => whnf)
      | ((refine Br.is (by assumption) ?_); conv => whnf)
      | ((refine Br.isnt (by assumption) ?_); conv => whnf)
      | ((refine Ld.of (by assumption) ?_); conv => whnf)
      | ((refine Ru.neq_nil0 ?_); conv => whnf)
      | ((refine Ru.neq_nil1 (by decide) ?_); conv => whnf)
      | ((refine Ru.eql_nil0 ?_); conv => whnf)
      | ((refine Ru.eql_nil1 (by decide) ?_); conv => whnf)
      | ((refine Ru.eql_errs (by decide) (by decide) ?_); conv => whnf)
      | ((refine Ru.eql_err0 (by decide) ?_); conv => whnf)
      | ((refine Ru.neq_errs (by decide) (by decide) ?_); conv => whnf)
      | ((refine Ru.neq_err0 (by decide) ?_); conv => whnf)
      | ((refine Ru.neq_nil rfl ?_); conv => whnf)
      | ((refine Ru.eql_nil rfl ?_); conv => whnf)
      | ((refine Ru.eql_err rfl (by decide) ?_); conv => whnf)
      | ((refine Ru.neq_err rfl (by decide) ?_); conv => whnf)
      | ((refine Ru.eqlb Try.underlying4 ?_); conv => whnf)
      | ((refine Ru.neqb Try.underlying4 ?_); conv => whnf)
      | ((refine RuQ.eqlb Try.underlying4 ?_); conv => whnf)
      | ((refine RuQ.neqb Try.underlying4 ?_); conv => whnf)
      | ((refine CW.seq tt_ok ?_); conv => whnf))
    exact ⟨rfl, Z, cz, by rw [srt_sound hs]; rfl, hly, hnew, kk⟩
end Go.Proofs.Ytpmihnobeicjmaa
