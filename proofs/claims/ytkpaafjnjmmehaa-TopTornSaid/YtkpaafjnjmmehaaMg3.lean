/- Texts behind one another: Frm, EIn, Pieces, Lay, Data, PutGet, App0, EqS, Tag, TagEnc, TagDec. -/
import Derived.Test.YtkpaafjnjmmehaaMg2
import Derived.Test.YtkpaafjnjmmehaaMg1
import Derived.Test.YtkpaafjnjmmehaaMg0
import Derived.RangeFuncNested
import Derived.RangeFuncBound
import Derived.RangeFuncCalls
import Derived.RangeFuncLeaves
import Derived.OwnWalkIn
import Derived.RangeFuncBox
import Derived.Shelf.Abstract
import Derived.TacticsInMore
import Derived.LoopNIn
import Derived.LoopIn
import Derived.Deep.AppendSrc
import Derived.Laws.CopyRow
import Derived.Laws.StructEq
/- Layer 6: Message, Body. -/
namespace Go.Proofs.Ytkpaafjnjmmehaa
open Go.RowKit
set_option linter.unusedVariables false
set_option maxRecDepth 20000
attribute [local irreducible] GF.pw GF.lg GF.mul GF.inv GF.xt
theorem RuQ.sl_lhI {P : Program} {C : World → Prop} {t e : TypeId} {b o n c l h : Nat} {x y : Int} {K : Value → Prop} (ex : x = (l : Int)) (ey : y = (h : Int)) (hu : P.underlying t = some (.slice e)) (hs : szIs P e 1 = true) (hl : l ≤ h) (hh : h ≤ c) (hc : l < c) (k : K (.slice (some ⟨b, o + l, none⟩) (h - l) (c - l))) :
    RuQ P C (Instr.sliceAt t (.slice (some ⟨b, o, none⟩) n c) (some (.int .i64 x)) (some (.int .i64 y)) none) K := by
  subst ex ey
  exact RuQ.sl_lh hu hs hl hh hc k
/-- A frame: its own cell, its codec. -/
structure Frm (w : World) (f c g h : Nat) : Prop where
  row : Row w f 91 1 (fun _ => .pointer (some ⟨c, 0, none⟩))
  cod : Cod w c g h
  fg : f ≠ g
theorem Frm.of {w w' : World} {f c g h : Nat} (H : Frm w f c g h) (k : FK w g w') : Frm w' f c g h := ⟨H.row.keep k.kp (by simpa using H.fg), H.cod.of k, H.fg⟩
theorem Frm.keep0 {S : List Nat} {w w' : World} {f c g h : Nat} (H : Frm w f c g h) (k : Keep S w w') (hf : f ∉ S) (hc : c ∉ S) (hg : g ∉ S) (hh : h ∉ S) : Frm w' f c g h := ⟨H.row.keep k hf, H.cod.keep0 k hc hg hh, H.fg⟩
theorem Frm.drewN {w : World} {f c g h : Nat} (H : Frm w f c g h) (n : Nat) : Frm (w.drewN n) f c g h := H.keep0 ((Keep.refl [] w).drewN n) (by simp) (by simp) (by simp) (by simp)
def chk (p : Nat → Nat) (k : Nat) : Nat → Nat := fun i => p (k * 64 + i)
set_option maxHeartbeats 2000000 in
theorem msg_ok (w : World) (f c g h d : Nat) (A : Option Addr) (p : Nat → Nat) (hp : ∀ j, p j < 256) (r : RdB w A 256 p) (hd : 256 ≤ d) (hA : ∀ a, A = some a → a.block ≠ g) (H : Frm w f c g h) (k : Nat) (hk : k < 4) :
    Spec Try.prog 27 #[.pointer (some ⟨f, 0, none⟩), .slice A 256 d, .int .i64 k] w (DecEnd w g (chk p k)) := by
  obtain ⟨b, o, rfl, hc⟩ := r (by omega)
  have hbg : b ≠ g := hA _ rfl
  refine spec_of_wpE (T := tt) tt_ok Try.func27 rfl (by decide +kernel) Try.ntmps27 (by simp) ?_
  conv => whnf
  repeat ((first
    | refine HS.t ?_|refine Br.t ?_|refine Br.f ?_|refine Pk.f ?_|refine Pk.t ?_|refine Pk.and ?_|refine Pk.or ?_|refine Ix.n ?_|refine Ix.of _ (by rfl) (by omega) ?_|refine Ix.i ?_|refine Ar.la ?_|refine Ar.lb ?_|refine Ar.lc ?_|refine Dv.q ?_|refine Dv.r ?_|refine Br.y ?_|refine Br.n ?_|refine Br.ny ?_|refine Br.nn ?_|refine Br.is (by assumption) ?_|refine Br.isnt (by assumption) ?_|refine Ld.of (by assumption) ?_|refine Ru.neq_nil0 ?_|refine Ru.n1 ?_|refine Ru.eql_nil0 ?_|refine Ru.e1 ?_|refine Ru.e2 ?_|refine Ru.e3 ?_|refine Ru.n2 ?_|refine Ru.n3 ?_|refine Ru.neq_nil rfl ?_|refine Ru.eql_nil rfl ?_|refine Ru.eql_err rfl (by decide) ?_|refine Ru.neq_err rfl (by decide) ?_|refine Ru.be ?_|refine Ru.bn ?_|refine RuQ.be ?_|refine RuQ.bn ?_|refine CW.s ?_); conv => whnf)
  refine CW.held (fun w' => Row w' f 91 1 (fun _ => .pointer (some ⟨c, 0, none⟩))) [] (.take 0 (.take 1 (.take 2 (.take 3 (.take 4 (.take 5 (.take 6 (.take 7 (.take 8 (.take 9 (.take 10 (.one 11 (.take 12 (.take 13 (.take 14 (.take 15 (.take 16 (.take 17 (.done))))))))))))))))))) tt_ok (by kernel_rfl) (by kernel_rfl) (by kernel_rfl) ?_ ?_
  · exact H.row.drewN 1
  have H1 := H.drewN 1
  have r1 : RdB (w.drewN 1) (some ⟨b, o, none⟩) 256 p := r.keep0 ((Keep.refl _ _).drewN 1)
  conv => whnf
  repeat ((first
    | (refine LdQ.row (fun _ h => h) (by decide) ?_)
    | (refine RuQ.sl_lhI (l := k * 64) (h := k * 64 + 64) (by omega) (by omega) Try.underlying22 byte_sz (by omega) (by omega) (by omega) ?_)
    | refine HS.t ?_|refine Br.t ?_|refine Br.f ?_|refine Pk.f ?_|refine Pk.t ?_|refine Pk.and ?_|refine Pk.or ?_|refine Ix.n ?_|refine Ix.of _ (by rfl) (by omega) ?_|refine Ix.i ?_|refine Ar.la ?_|refine Ar.lb ?_|refine Ar.lc ?_|refine Dv.q ?_|refine Dv.r ?_|refine Br.y ?_|refine Br.n ?_|refine Br.ny ?_|refine Br.nn ?_|refine Br.is (by assumption) ?_|refine Br.isnt (by assumption) ?_|refine Ld.of (by assumption) ?_|refine Ru.neq_nil0 ?_|refine Ru.n1 ?_|refine Ru.eql_nil0 ?_|refine Ru.e1 ?_|refine Ru.e2 ?_|refine Ru.e3 ?_|refine Ru.n2 ?_|refine Ru.n3 ?_|refine Ru.neq_nil rfl ?_|refine Ru.eql_nil rfl ?_|refine Ru.eql_err rfl (by decide) ?_|refine Ru.neq_err rfl (by decide) ?_|refine Ru.be ?_|refine Ru.bn ?_|refine RuQ.be ?_|refine RuQ.bn ?_|refine CW.s ?_); conv => whnf)
  have rk : RdB (w.drewN 1) (some ⟨b, o + k * 64, none⟩) 64 (chk p k) := fun _ => ⟨b, o + k * 64, rfl, fun j hj => by
    have := hc (k * 64 + j) (by omega)
    rw [← Nat.add_assoc] at this
    exact this⟩
  have f1 : FK w g (w.drewN 1) := ⟨H1.cod.fs, (Keep.refl _ _).drewN 1⟩
  have hks : k * 64 + 64 - k * 64 = 64 := by omega
  rw [hks]
  refine Ca.of (dec_ok (w.drewN 1) c g h (d - k * 64) (some ⟨b, o + k * 64, none⟩) (chk p k) (fun j => hp _) rk (by omega) (fun a e => by cases e; exact hbg) H1.cod) ?_
  rintro v w2 ⟨f2, hv⟩
  have f12 : FK w g w2 := ⟨f2.fs, f1.kp.trans f2.kp⟩
  have H2 := H1.of f2
  rcases hv with ⟨b2, e2, V, hb2, hV, hcw, hdst, rfl, hwd⟩ | ⟨rfl, hbad⟩
  · conv => whnf
    repeat ((first
      | refine HS.t ?_|refine Br.t ?_|refine Br.f ?_|refine Pk.f ?_|refine Pk.t ?_|refine Pk.and ?_|refine Pk.or ?_|refine Ix.n ?_|refine Ix.of _ (by rfl) (by omega) ?_|refine Ix.i ?_|refine Ar.la ?_|refine Ar.lb ?_|refine Ar.lc ?_|refine Dv.q ?_|refine Dv.r ?_|refine Br.y ?_|refine Br.n ?_|refine Br.ny ?_|refine Br.nn ?_|refine Br.is (by assumption) ?_|refine Br.isnt (by assumption) ?_|refine Ld.of (by assumption) ?_|refine Ru.neq_nil0 ?_|refine Ru.n1 ?_|refine Ru.eql_nil0 ?_|refine Ru.e1 ?_|refine Ru.e2 ?_|refine Ru.e3 ?_|refine Ru.n2 ?_|refine Ru.n3 ?_|refine Ru.neq_nil rfl ?_|refine Ru.eql_nil rfl ?_|refine Ru.eql_err rfl (by decide) ?_|refine Ru.neq_err rfl (by decide) ?_|refine Ru.be ?_|refine Ru.bn ?_|refine RuQ.be ?_|refine RuQ.bn ?_|refine CW.s ?_); conv => whnf)
    refine ⟨H2.row, ?_⟩
    conv => whnf
    repeat ((first
      | refine HS.t ?_|refine Br.t ?_|refine Br.f ?_|refine Pk.f ?_|refine Pk.t ?_|refine Pk.and ?_|refine Pk.or ?_|refine Ix.n ?_|refine Ix.of _ (by rfl) (by omega) ?_|refine Ix.i ?_|refine Ar.la ?_|refine Ar.lb ?_|refine Ar.lc ?_|refine Dv.q ?_|refine Dv.r ?_|refine Br.y ?_|refine Br.n ?_|refine Br.ny ?_|refine Br.nn ?_|refine Br.is (by assumption) ?_|refine Br.isnt (by assumption) ?_|refine Ld.of (by assumption) ?_|refine Ru.neq_nil0 ?_|refine Ru.n1 ?_|refine Ru.eql_nil0 ?_|refine Ru.e1 ?_|refine Ru.e2 ?_|refine Ru.e3 ?_|refine Ru.n2 ?_|refine Ru.n3 ?_|refine Ru.neq_nil rfl ?_|refine Ru.eql_nil rfl ?_|refine Ru.eql_err rfl (by decide) ?_|refine Ru.neq_err rfl (by decide) ?_|refine Ru.be ?_|refine Ru.bn ?_|refine RuQ.be ?_|refine RuQ.bn ?_|refine CW.s ?_); conv => whnf)
    exact ⟨rfl, f12, .inl ⟨b2, e2, V, hb2, hV, hcw, hdst, rfl, hwd⟩⟩
  · conv => whnf
    repeat ((first
      | refine HS.t ?_|refine Br.t ?_|refine Br.f ?_|refine Pk.f ?_|refine Pk.t ?_|refine Pk.and ?_|refine Pk.or ?_|refine Ix.n ?_|refine Ix.of _ (by rfl) (by omega) ?_|refine Ix.i ?_|refine Ar.la ?_|refine Ar.lb ?_|refine Ar.lc ?_|refine Dv.q ?_|refine Dv.r ?_|refine Br.y ?_|refine Br.n ?_|refine Br.ny ?_|refine Br.nn ?_|refine Br.is (by assumption) ?_|refine Br.isnt (by assumption) ?_|refine Ld.of (by assumption) ?_|refine Ru.neq_nil0 ?_|refine Ru.n1 ?_|refine Ru.eql_nil0 ?_|refine Ru.e1 ?_|refine Ru.e2 ?_|refine Ru.e3 ?_|refine Ru.n2 ?_|refine Ru.n3 ?_|refine Ru.neq_nil rfl ?_|refine Ru.eql_nil rfl ?_|refine Ru.eql_err rfl (by decide) ?_|refine Ru.neq_err rfl (by decide) ?_|refine Ru.be ?_|refine Ru.bn ?_|refine RuQ.be ?_|refine RuQ.bn ?_|refine CW.s ?_); conv => whnf)
    refine ⟨H2.row, ?_⟩
    conv => whnf
    repeat ((first
      | refine HS.t ?_|refine Br.t ?_|refine Br.f ?_|refine Pk.f ?_|refine Pk.t ?_|refine Pk.and ?_|refine Pk.or ?_|refine Ix.n ?_|refine Ix.of _ (by rfl) (by omega) ?_|refine Ix.i ?_|refine Ar.la ?_|refine Ar.lb ?_|refine Ar.lc ?_|refine Dv.q ?_|refine Dv.r ?_|refine Br.y ?_|refine Br.n ?_|refine Br.ny ?_|refine Br.nn ?_|refine Br.is (by assumption) ?_|refine Br.isnt (by assumption) ?_|refine Ld.of (by assumption) ?_|refine Ru.neq_nil0 ?_|refine Ru.n1 ?_|refine Ru.eql_nil0 ?_|refine Ru.e1 ?_|refine Ru.e2 ?_|refine Ru.e3 ?_|refine Ru.n2 ?_|refine Ru.n3 ?_|refine Ru.neq_nil rfl ?_|refine Ru.eql_nil rfl ?_|refine Ru.eql_err rfl (by decide) ?_|refine Ru.neq_err rfl (by decide) ?_|refine Ru.be ?_|refine Ru.bn ?_|refine RuQ.be ?_|refine RuQ.bn ?_|refine CW.s ?_); conv => whnf)
    exact ⟨rfl, f12, .inr ⟨rfl, hbad⟩⟩
theorem Spec.of_ret {P : Program} {f : FuncId} {args : Array Value} {w : World} {Ψ : Ending → World → Prop} {Φ : Value → World → Prop} (hf : fnOk P f = true) (h : Calls P f args w Ψ) (k : ∀ e w', Ψ e w' → ∃ v, e = .returned v ∧ Φ v w') : Spec P f args w Φ := ⟨hf, h.mono k⟩
def natI (V : Nat → Nat) : Nat → Int := fun j => (V j : Int)
/-- What Body answers at a page p. -/
def BodyEnd (w : World) (g : Nat) (p : Nat → Nat) (v : Value) (w' : World) : Prop :=
  FK w g w' ∧ ((∃ X V, (∀ x, x ∈ blk X → w.heap.size ≤ x) ∧ (∀ i, V i < 256) ∧ GF.IsCw V ∧ GF.dist V (chk p 3) ≤ 2 ∧ Marked (natI V) ∧ v = .tuple #[.slice X 50 50, .int .i64 (GF.dist V (chk p 3) : Nat), errOf 0] ∧ Ly w' 5 1 X 50 50 (fun j => .int .u8 (V j : Nat))) ∨
    (∃ e, (e = 5 ∨ e = 6) ∧ v = .tuple #[.slice none 0 0, .int .i64 0, errOf e] ∧ ∀ C : Nat → Nat, (∀ i, C i < 256) → GF.IsCw C → GF.dist C (chk p 3) ≤ 2 → ¬ Marked (natI C)))
/-- Codewords near one word are one. -/
theorem near_same {C V p : Nat → Nat} (hC : ∀ i, C i < 256) (hV : ∀ i, V i < 256) (cC : GF.IsCw C) (cV : GF.IsCw V) (h : GF.dist C p + GF.dist V p ≤ 6) : ∀ i, i < 64 → C i = V i := GF.cw_apart hC hV cC cV (by
  have := GF.dist_tri C p V
  rw [GF.dist_comm p V] at this
  omega)
theorem open_sp (A : Option Addr) (c : Nat) (f : Nat → Int) (w : World) (r : Rd w A 58 (fun j => .int .u8 (f j))) (hc : 58 ≤ c) (hf : ∀ j, 0 ≤ f j ∧ f j ≤ 255) :
    Spec Try.prog 47 #[.slice A 58 c] w fun v w' => (Marked f ∧ ∃ X, v = .tuple #[.slice X 50 50, errOf 0] ∧ Ly w' 5 1 X 50 50 (fun j => .int .u8 (f j)) ∧ (∀ x, x ∈ blk X → w.heap.size ≤ x) ∧ Keep [] w w') ∨ (¬ Marked f ∧ v = .tuple #[.slice none 0 0, errOf 6] ∧ Keep [] w w') :=
  Spec.of_ret (by kernel_rfl) (open_any A c f w r hc hf) fun e w' h => by
    rcases h with ⟨hm, X, rfl, h1, h2, h3⟩ | ⟨hm, rfl, h3⟩
    · exact ⟨_, rfl, .inl ⟨hm, X, rfl, h1, h2, h3⟩⟩
    · exact ⟨_, rfl, .inr ⟨hm, rfl, h3⟩⟩
set_option maxHeartbeats 2000000 in
theorem body_ok (w : World) (f c g h d : Nat) (A : Option Addr) (p : Nat → Nat) (hp : ∀ j, p j < 256) (r : RdB w A 256 p) (hd : 256 ≤ d) (hA : ∀ a, A = some a → a.block ≠ g) (H : Frm w f c g h) :
    Spec Try.prog 28 #[.pointer (some ⟨f, 0, none⟩), .slice A 256 d] w (BodyEnd w g p) := by
  refine spec_of_wpE (T := tt) tt_ok Try.func28 rfl (by decide +kernel) Try.ntmps28 (by simp) ?_
  conv => whnf
  repeat ((first
    | refine HS.t ?_|refine Br.t ?_|refine Br.f ?_|refine Pk.f ?_|refine Pk.t ?_|refine Pk.and ?_|refine Pk.or ?_|refine Ix.n ?_|refine Ix.of _ (by rfl) (by omega) ?_|refine Ix.i ?_|refine Ar.la ?_|refine Ar.lb ?_|refine Ar.lc ?_|refine Dv.q ?_|refine Dv.r ?_|refine Br.y ?_|refine Br.n ?_|refine Br.ny ?_|refine Br.nn ?_|refine Br.is (by assumption) ?_|refine Br.isnt (by assumption) ?_|refine Ld.of (by assumption) ?_|refine Ru.neq_nil0 ?_|refine Ru.n1 ?_|refine Ru.eql_nil0 ?_|refine Ru.e1 ?_|refine Ru.e2 ?_|refine Ru.e3 ?_|refine Ru.n2 ?_|refine Ru.n3 ?_|refine Ru.neq_nil rfl ?_|refine Ru.eql_nil rfl ?_|refine Ru.eql_err rfl (by decide) ?_|refine Ru.neq_err rfl (by decide) ?_|refine Ru.be ?_|refine Ru.bn ?_|refine RuQ.be ?_|refine RuQ.bn ?_|refine CW.s ?_); conv => whnf)
  refine Ca.of (msg_ok w f c g h d A p hp r hd hA H 3 (by omega)) ?_
  rintro v w2 ⟨f2, hv⟩
  have H2 := H.of f2
  rcases hv with ⟨b, e, V, hb, hV, hcw, hdst, rfl, hwd⟩ | ⟨rfl, hbad⟩
  · have r2 : Rd w2 (some ⟨b, 0, none⟩) 58 (fun j => .int .u8 (natI V j)) := Rd.mono_len hwd.rd1 (by omega)
    conv => whnf
    repeat ((first
      | refine HS.t ?_|refine Br.t ?_|refine Br.f ?_|refine Pk.f ?_|refine Pk.t ?_|refine Pk.and ?_|refine Pk.or ?_|refine Ix.n ?_|refine Ix.of _ (by rfl) (by omega) ?_|refine Ix.i ?_|refine Ar.la ?_|refine Ar.lb ?_|refine Ar.lc ?_|refine Dv.q ?_|refine Dv.r ?_|refine Br.y ?_|refine Br.n ?_|refine Br.ny ?_|refine Br.nn ?_|refine Br.is (by assumption) ?_|refine Br.isnt (by assumption) ?_|refine Ld.of (by assumption) ?_|refine Ru.neq_nil0 ?_|refine Ru.n1 ?_|refine Ru.eql_nil0 ?_|refine Ru.e1 ?_|refine Ru.e2 ?_|refine Ru.e3 ?_|refine Ru.n2 ?_|refine Ru.n3 ?_|refine Ru.neq_nil rfl ?_|refine Ru.eql_nil rfl ?_|refine Ru.eql_err rfl (by decide) ?_|refine Ru.neq_err rfl (by decide) ?_|refine Ru.be ?_|refine Ru.bn ?_|refine RuQ.be ?_|refine RuQ.bn ?_|refine CW.s ?_); conv => whnf)
    refine Ca.of (open_sp (some ⟨b, 0, none⟩) 58 (natI V) w2 r2 (by omega) (fun j => by have := hV j; unfold natI; omega)) ?_
    rintro v w3 hv
    rcases hv with ⟨hm, X, rfl, hly, hX, k3⟩ | ⟨hm, rfl, k3⟩
    · conv => whnf
      repeat ((first
        | refine HS.t ?_|refine Br.t ?_|refine Br.f ?_|refine Pk.f ?_|refine Pk.t ?_|refine Pk.and ?_|refine Pk.or ?_|refine Ix.n ?_|refine Ix.of _ (by rfl) (by omega) ?_|refine Ix.i ?_|refine Ar.la ?_|refine Ar.lb ?_|refine Ar.lc ?_|refine Dv.q ?_|refine Dv.r ?_|refine Br.y ?_|refine Br.n ?_|refine Br.ny ?_|refine Br.nn ?_|refine Br.is (by assumption) ?_|refine Br.isnt (by assumption) ?_|refine Ld.of (by assumption) ?_|refine Ru.neq_nil0 ?_|refine Ru.n1 ?_|refine Ru.eql_nil0 ?_|refine Ru.e1 ?_|refine Ru.e2 ?_|refine Ru.e3 ?_|refine Ru.n2 ?_|refine Ru.n3 ?_|refine Ru.neq_nil rfl ?_|refine Ru.eql_nil rfl ?_|refine Ru.eql_err rfl (by decide) ?_|refine Ru.neq_err rfl (by decide) ?_|refine Ru.be ?_|refine Ru.bn ?_|refine RuQ.be ?_|refine RuQ.bn ?_|refine CW.s ?_); conv => whnf)
      exact ⟨rfl, ⟨f2.fs.keep0 k3, f2.kp.trans (k3.mono (by simp))⟩, .inl ⟨X, V, fun x hx => Nat.le_trans f2.kp.size (hX x hx), hV, hcw, hdst, hm, rfl, hly⟩⟩
    · conv => whnf
      repeat ((first
        | refine HS.t ?_|refine Br.t ?_|refine Br.f ?_|refine Pk.f ?_|refine Pk.t ?_|refine Pk.and ?_|refine Pk.or ?_|refine Ix.n ?_|refine Ix.of _ (by rfl) (by omega) ?_|refine Ix.i ?_|refine Ar.la ?_|refine Ar.lb ?_|refine Ar.lc ?_|refine Dv.q ?_|refine Dv.r ?_|refine Br.y ?_|refine Br.n ?_|refine Br.ny ?_|refine Br.nn ?_|refine Br.is (by assumption) ?_|refine Br.isnt (by assumption) ?_|refine Ld.of (by assumption) ?_|refine Ru.neq_nil0 ?_|refine Ru.n1 ?_|refine Ru.eql_nil0 ?_|refine Ru.e1 ?_|refine Ru.e2 ?_|refine Ru.e3 ?_|refine Ru.n2 ?_|refine Ru.n3 ?_|refine Ru.neq_nil rfl ?_|refine Ru.eql_nil rfl ?_|refine Ru.eql_err rfl (by decide) ?_|refine Ru.neq_err rfl (by decide) ?_|refine Ru.be ?_|refine Ru.bn ?_|refine RuQ.be ?_|refine RuQ.bn ?_|refine CW.s ?_); conv => whnf)
      refine ⟨rfl, ⟨f2.fs.keep0 k3, f2.kp.trans (k3.mono (by simp))⟩, .inr ⟨6, .inr rfl, rfl, fun C hC cC hdC hmC => hm (fun j hj => ?_)⟩⟩
      have e := near_same hC hV cC hcw (p := chk p 3) (by omega) (50 + j) (by omega)
      have := hmC j hj
      unfold natI at this ⊢
      rw [← e]
      exact this
  · conv => whnf
    repeat ((first
      | refine HS.t ?_|refine Br.t ?_|refine Br.f ?_|refine Pk.f ?_|refine Pk.t ?_|refine Pk.and ?_|refine Pk.or ?_|refine Ix.n ?_|refine Ix.of _ (by rfl) (by omega) ?_|refine Ix.i ?_|refine Ar.la ?_|refine Ar.lb ?_|refine Ar.lc ?_|refine Dv.q ?_|refine Dv.r ?_|refine Br.y ?_|refine Br.n ?_|refine Br.ny ?_|refine Br.nn ?_|refine Br.is (by assumption) ?_|refine Br.isnt (by assumption) ?_|refine Ld.of (by assumption) ?_|refine Ru.neq_nil0 ?_|refine Ru.n1 ?_|refine Ru.eql_nil0 ?_|refine Ru.e1 ?_|refine Ru.e2 ?_|refine Ru.e3 ?_|refine Ru.n2 ?_|refine Ru.n3 ?_|refine Ru.neq_nil rfl ?_|refine Ru.eql_nil rfl ?_|refine Ru.eql_err rfl (by decide) ?_|refine Ru.neq_err rfl (by decide) ?_|refine Ru.be ?_|refine Ru.bn ?_|refine RuQ.be ?_|refine RuQ.bn ?_|refine CW.s ?_); conv => whnf)
    exact ⟨rfl, f2, .inr ⟨5, .inl rfl, rfl, fun C hC cC hdC => by have := hbad C hC cC; omega⟩⟩
end Go.Proofs.Ytkpaafjnjmmehaa
/- The stepper in a round of a range over a function, and behind such a loop: XE's words for the fenced walk, and for an act that has something deferred. -/
namespace Go.Proofs.Ytkpaafjnjmmehaa
open Go.RowKit
set_option linter.unusedVariables false
set_option linter.unusedSimpArgs false
/-- A fence that lets everything pass. -/
structure FOk (F : Fence) (P : Program) : Prop where
  fn : ∀ f, F.fn f
  depth : F.depth = none
  calls : ∀ {m f args w R}, Calls P f args w R → CallsIn F m P f args w R
theorem fok_wide {P : Program} : FOk Fence.wide P := ⟨fun _ => trivial, rfl, fun h => callsIn_wide.2 h⟩
theorem fok_round {P : Program} (l : Nat) : FOk (Fence.wide.inRound l) P := ⟨fun _ => trivial, rfl, fun h => CallsIn.inRound l (callsIn_wide.2 h)⟩
def QD (n : Nat) (Q : Exit → Fr → List Deferred → World → Prop) : Exit → Act → World → Prop := fun e a w => noPanic e ∧ ∃ f ds, Agr n f a ds ∧ Q e f ds w
structure CWI (F : Fence) (m : Nat) (P : Program) (n : Nat) (c : Code) (Q : Exit → Fr → List Deferred → World → Prop) (f : Fr) (ds : List Deferred) (w : World) : Prop where
  go : ∀ a, Agr n f a ds → Code.wpIn F m P c (QD n Q) a w
def wpI (F : Fence) (m : Nat) (P : Program) (T : TT) (n : Nat) (c : Code) : Fr → List Deferred → World → (Exit → Fr → List Deferred → World → Prop) → Prop :=
  Code.rec (motive := fun _ => Fr → List Deferred → World → (Exit → Fr → List Deferred → World → Prop) → Prop)
    (fun f ds w Q => Q .normal f ds w)
    (fun id ops d f ds w Q => match d with
      | false => evOps P T n ops.toList ops.toList f w fun f w => Q .normal f ds w
      | true => CWI F m P n (.region id ops true) Q f ds w)
    (fun a b iha ihb f ds w Q => cond (joins a) (CWI F m P n (.seq a b) Q f ds w) (iha f ds w fun e f ds w => (match e with
        | .normal => ihb f ds w Q
        | e => Q e f ds w)))
    (fun c _ _ iha ihb f ds w Q => opd f c fun v => (match v with
      | .bool t => Br t (iha f ds w Q) (ihb f ds w Q)
      | _ => False))
    (fun id _ ih f ds w Q => ih f ds w fun e f ds w => (match e with
      | .exit i => cond (Nat.beq i id) (Q .normal f ds w) (Q (.exit i) f ds w)
      | e => Q e f ds w))
    (fun c _ f ds w Q => CWI F m P n (.loop c) Q f ds w)
    (fun g ps a b _ _ f ds w Q => CWI F m P n (.rangeFunc g ps a b) Q f ds w)
    (fun id f ds w Q => Q (.exit id) f ds w)
    (fun _ _ _ _ _ _ => False)
    (fun _ f ds w Q => Q .normal f ds w)
    (fun _ _ _ _ _ => False)
    (fun f ds w Q => Q .ret f ds w)
    (fun _ _ _ _ _ => False) c
theorem wpI_seq (F : Fence) (m : Nat) (P : Program) (T : TT) (n : Nat) (x y : Code) (f : Fr) (ds : List Deferred) (w : World) (Q : Exit → Fr → List Deferred → World → Prop) : wpI F m P T n (.seq x y) f ds w Q = cond (joins x) (CWI F m P n (.seq x y) Q f ds w) (wpI F m P T n x f ds w fun e f ds w => (match e with
        | .normal => wpI F m P T n y f ds w Q
        | e => Q e f ds w)) := rfl
section sound
variable {P : Program} {T : TT} {n m : Nat} {F : Fence} {ds : List Deferred}
theorem OpGo.wpIn (hF : FOk F P) {o : Oper} {a : Act} {w : World} {N : Act → World → Prop} {Q' : Exit → Act → World → Prop} (h : OpGo P o a w N) : o.wpIn F m P a w N Q' := by
  obtain ⟨hd, h⟩ := h
  refine ⟨fun f _ => hF.fn f, ?_⟩
  rw [Oper.semAt_eq _ _ _ hd]
  rcases h with ⟨v, w', h, hn⟩ | ⟨w', h, hn⟩ | ⟨f, args, w1, h, hc⟩
  · rw [h]
    exact hn
  · rw [h]
    exact hn
  · rw [h, Oper.uponIn_enter]
    refine ⟨fun e => (by rw [hF.depth] at e; cases e), hF.calls (hc.mono fun e w' ⟨v, he, hk⟩ => ?_)⟩
    subst he
    exact hk
theorem evOpsI_sound (hT : TT.ok P T = true) (hF : FOk F P) {ops : Array Oper} {Q : Exit → Act → World → Prop} : ∀ (l : List Oper) {f : Fr} {w : World} {K : Fr → World → Prop} {a : Act}, evOps P T n ops.toList l f w K → Agr n f a ds →
    (∀ f' a' w', K f' w' → Agr n f' a' ds → Q .normal a' w') → wpListIn F m P ops Q l a w
  | [], f, w, K, a, h, ha, hQ => hQ _ _ _ h ha
  | o :: l, f, w, K, a, h, ha, hQ => by
    rw [evOps_cons] at h
    split at h
    · rename_i hg
      have hw : Region.wanted o (yielded ops a.tmps) = true := by simp [Region.wanted, hg]
      unfold wpListIn
      rw [if_pos hw]
      refine (OpGo.wpIn hF (evOp_go hT h ha fun v w' hk => ?_))
      obtain ⟨f', ha', hk'⟩ := pt_sound hk ha
      exact evOpsI_sound hT hF l hk' ha' hQ
    · rename_i j b hg
      obtain ⟨oj, hj, h⟩ := lnth_get h
      split at h
      · rename_i t ht
        obtain ⟨vg, hvg, h⟩ := lk_get h
        have hga := ha.get t vg hvg
        split at h
        · rename_i g
          have hy : yielded ops a.tmps j = some g := by
            have hj' : ops[j]? = some oj := by simpa using hj
            unfold yielded
            simp only [hj', Option.bind_some, ht, getD_some hga]
          unfold wpListIn
          have h : Br (g == b) (cond (Nat.ble n t) False (evOp P T o ((t, .bool b) :: f) w fun v w' => pt n ((t, .bool b) :: f) o.dst v fun f' => evOps P T n ops.toList l f' w' K))
              (cond (Nat.ble n t) False (pt n ((t, .bool (!b)) :: f) o.dst undef fun f' => evOps P T n ops.toList l f' w K)) := by
            cases b with
            | true => exact ⟨fun hb => Br.tt h (by simpa using hb), fun hb => Br.ff h (by simpa using hb)⟩
            | false => exact ⟨fun hb => Br.ff h (by simpa using hb), fun hb => Br.tt h (by simpa using hb)⟩
          by_cases hgb : (g == b) = true
          · have hw : Region.wanted o (yielded ops a.tmps) = true := by
              simp only [Region.wanted, hg, hy]
              simpa using hgb
            rw [if_pos hw]
            have h := h.tt hgb
            cases hb : Nat.ble n t with
            | true => rw [hb] at h; exact h.elim
            | false =>
              rw [hb] at h
              simp only [cond_false] at h
              have ha' := ha.cons t (.bool b) (by rw [hga]; simpa using hgb)
              refine (OpGo.wpIn hF (evOp_go hT h ha' fun v w' hk => ?_))
              obtain ⟨f', hf', hk'⟩ := pt_sound hk ha'
              exact evOpsI_sound hT hF l hk' hf' hQ
          · have hgb' : (g == b) = false := by simpa using hgb
            have hw : ¬ Region.wanted o (yielded ops a.tmps) = true := by
              simp only [Region.wanted, hg, hy]
              simpa using hgb
            rw [if_neg hw]
            refine ⟨fun f _ => hF.fn f, ?_⟩
            have h := h.ff hgb'
            cases hb : Nat.ble n t with
            | true => rw [hb] at h; exact h.elim
            | false =>
              rw [hb] at h
              simp only [cond_false] at h
              have ha' := ha.cons t (.bool (!b)) (by rw [hga]; congr 1; revert hgb'; cases g <;> cases b <;> simp)
              obtain ⟨f', hf', hk'⟩ := pt_sound h ha'
              exact evOpsI_sound hT hF l hk' hf' hQ
        · rename_i vs
          have hw : ¬ Region.wanted o (yielded ops a.tmps) = true := by
            rw [wanted_tuple hg hj ht hga]
            simp
          unfold wpListIn
          rw [if_neg hw]
          refine ⟨fun f _ => hF.fn f, ?_⟩
          obtain ⟨f', hf', hk'⟩ := pt_sound h ha
          exact evOpsI_sound hT hF l hk' hf' hQ
        · exact h.elim
      · exact h.elim
theorem wpI_sound (hT : TT.ok P T = true) (hF : FOk F P) : ∀ (c : Code) {f : Fr} {ds : List Deferred} {w : World} {Q : Exit → Fr → List Deferred → World → Prop} {a : Act}, wpI F m P T n c f ds w Q → Agr n f a ds → Code.wpIn F m P c (QD n Q) a w
  | .skip, f, ds, w, Q, a, h, ha => wpIn_skip ⟨trivial, f, ds, ha, h⟩
  | .region id ops d, f, ds, w, Q, a, h, ha => by
    cases d with
    | false => exact wpIn_region_list (evOpsI_sound hT hF ops.toList h ha fun f' a' w' hk hf => ⟨trivial, f', ds, hf, hk⟩)
    | true => exact CWI.go h a ha
  | .seq x y, f, ds, w, Q, a, h, ha => by
    rw [wpI_seq] at h
    cases hj : joins x with
    | true =>
      rw [hj] at h
      exact CWI.go h a ha
    | false =>
      rw [hj] at h
      simp only [cond_false] at h
      refine wpIn_seq (wpIn_mono (wpI_sound hT hF x h ha) fun e a' w' ⟨np, f', ds', hf, hq⟩ => ?_)
      cases e with
      | normal => exact wpI_sound hT hF y hq hf
      | _ => exact ⟨np, f', ds', hf, hq⟩
  | .cond c x y, f, ds, w, Q, a, h, ha => by
    have h : opd f c fun v => (match v with
      | .bool t => Br t (wpI F m P T n x f ds w Q) (wpI F m P T n y f ds w Q)
      | _ => False) := h
    have h := opd_sound h ha
    split at h
    · rename_i t hc
      cases t with
      | true => exact wpIn_cond_true hc (wpI_sound hT hF x (h.tt rfl) ha)
      | false => exact wpIn_cond_false hc (wpI_sound hT hF y (h.ff rfl) ha)
    · exact h.elim
  | .block id c, f, ds, w, Q, a, h, ha => by
    have h : wpI F m P T n c f ds w fun e f ds w => (match e with
      | .exit i => cond (Nat.beq i id) (Q .normal f ds w) (Q (.exit i) f ds w)
      | e => Q e f ds w) := h
    refine wpIn_block (wpIn_mono (wpI_sound hT hF c h ha) fun e a' w' ⟨np, f', ds', hf, hq⟩ => ?_)
    cases e with
    | exit i =>
      simp only [Exit.inBlock]
      by_cases hi : i = id
      · subst hi
        simp only [if_true]
        have hb : Nat.beq i i = true := Nat.beq_refl i
        simp only [hb] at hq
        exact ⟨trivial, f', ds', hf, hq⟩
      · simp only [if_neg hi]
        have hb : Nat.beq i id = false := by
          cases hb : Nat.beq i id with
          | true => exact absurd (Nat.eq_of_beq_eq_true hb) hi
          | false => rfl
        simp only [hb] at hq
        exact ⟨trivial, f', ds', hf, hq⟩
    | _ => exact ⟨np, f', ds', hf, hq⟩
  | .loop c, f, ds, w, Q, a, h, ha => CWI.go h a ha
  | .rangeFunc .., f, ds, w, Q, a, h, ha => CWI.go h a ha
  | .exit id, f, ds, w, Q, a, h, ha => wpIn_exit ⟨trivial, f, ds, ha, h⟩
  | .scope c, f, ds, w, Q, a, h, ha => h.elim
  | .label l, f, ds, w, Q, a, h, ha => wpIn_label ⟨trivial, f, ds, ha, h⟩
  | .goto l, f, ds, w, Q, a, h, ha => h.elim
  | .ret, f, ds, w, Q, a, h, ha => wpIn_ret ⟨trivial, f, ds, ha, h⟩
  | .refuse s, f, ds, w, Q, a, h, ha => h.elim
theorem CWI.of {c : Code} {f : Fr} {ds : List Deferred} {w : World} {Q : Exit → Fr → List Deferred → World → Prop} (hT : TT.ok P T = true) (hF : FOk F P) (h : wpI F m P T n c f ds w Q) : CWI F m P n c Q f ds w := ⟨fun a ha => wpI_sound hT hF c h ha⟩
theorem CWI.seq {x y : Code} {f : Fr} {ds : List Deferred} {w : World} {Q : Exit → Fr → List Deferred → World → Prop} (hT : TT.ok P T = true) (hF : FOk F P) (h : wpI F m P T n x f ds w fun e f ds w => (match e with
    | .normal => wpI F m P T n y f ds w Q
    | e => Q e f ds w)) : CWI F m P n (.seq x y) Q f ds w := ⟨fun a ha => by
  refine wpIn_seq (wpIn_mono (wpI_sound hT hF x h ha) fun e a' w' ⟨np, f', ds', hf, hq⟩ => ?_)
  cases e with
  | normal => exact wpI_sound hT hF y hq hf
  | _ => exact ⟨np, f', ds', hf, hq⟩⟩
/-- What a function's act has deferred is taken out: nothing, or what the rounds of one loop gathered. -/
def took : List Deferred → World → World → Prop
  | [], w, w2 => w2 = w
  | [d], w, w2 => ∃ D, d = { target := .collected D, args := #[] } ∧ w.heap[D]? = some (.deferred (some [])) ∧ w2 = w.putObj D (.deferred none)
  | _, _, _ => False
def leaveE (P : Program) (rs : List ResultVar) (Φ : Value → World → Prop) (f : Fr) (ds : List Deferred) (w : World) : Prop := ∃ w2, took ds w w2 ∧ resE P rs f w2 fun vs w' => w' = w2 ∧ Φ (oneOf vs) w'
/-- A function with a range over a function is met. -/
theorem spec_of_wpI {fid : FuncId} {fn : Func} {c : Code} {args : List Value} {w : World} {Φ : Value → World → Prop} (m : Nat) (hT : TT.ok P T = true) (hf : P.funcs[fid]? = some fn) (hb : fn.body = some c) (hnm : (fn.name == "runtime.NumGoroutine") = false) (hn : fn.ntmps = n) (ha : args.length ≤ n)
    (h : wpI Fence.wide m P T n c (fr0 0 args) [] w fun e f ds w => (match e with
      | .normal => leaveE P fn.results.toList Φ f ds w
      | .ret => leaveE P fn.results.toList Φ f ds w
      | _ => False)) : Spec P fid args.toArray w Φ := by
  refine ⟨by simp [fnOk, hf, hb, hnm], ?_⟩
  refine (callsIn_wide (n := m)).1 (callsIn_of_wp_marks hf hb trivial ?_ rfl)
  have hagr : Agr n (fr0 0 args) { tmps := args.toArray ++ Array.replicate (fn.ntmps - args.toArray.size) undef, defers := [] } := by
    refine ⟨by simp [hn]; omega, rfl, fun d v hd => ?_⟩
    obtain ⟨_, h1⟩ := fr0_get args 0 d v hd
    simp only [Nat.sub_zero] at h1
    rw [Array.getD_eq_getD_getElem?, Array.getElem?_append_left (by simpa using (List.getElem?_eq_some_iff.1 h1).1)]
    simp [h1]
  have res : ∀ (f : Fr) (a : Act) (ds : List Deferred) (w : World), Agr n f a ds → (resE P fn.results.toList f w fun vs w' => w' = w ∧ Φ (oneOf vs) w') → ∃ v, (results fn a.tmps).run P w = .ok v w ∧ ∃ u, Ending.returned v = .returned u ∧ Φ u w := by
    intro f a ds w hag hr
    have hag0 : Agr n f { a with defers := [] } := ⟨hag.size, rfl, hag.get⟩
    obtain ⟨vs, w', h1, rfl, h2⟩ := resE_sound hag0 (g := fun x => match x with | .tmp t => pure (a.tmps.getD t undef) | .cell b t => do loadVar t (← asAddr (a.tmps.getD b undef))) (fun _ => rfl) (fun _ _ => rfl) hr
    refine ⟨oneOf vs, ?_, _, rfl, h2⟩
    have e : results fn a.tmps = (do
      let vs ← fn.results.mapM (fun x => match x with | .tmp t => pure (a.tmps.getD t undef) | .cell b t => do loadVar t (← asAddr (a.tmps.getD b undef)) : ResultVar → Sem Value)
      pure (if h : vs.size = 1 then vs[0] else .tuple vs)) := rfl
    rw [e, Array.mapM_eq_mapM_toList]
    simp only [map_eq_pure_bind, Sem.run_bind, Sem.run_pure]
    rw [h1]
    simp only [Result.andThen_ok]
    cases vs with
    | nil => simp [oneOf]
    | cons v vs => cases vs with
      | nil => simp [oneOf]
      | cons u vs => simp [oneOf]
  have key : ∀ (f : Fr) (ds : List Deferred) (a : Act) (w : World), Agr n f a ds → leaveE P fn.results.toList Φ f ds w → LeavesInM Fence.wide m P fn a.tmps (fun e w' => ∃ v, e = .returned v ∧ Φ v w') a.defers .returning w := by
    intro f ds a w hag ⟨w2, ht, hr⟩
    have hd := hag.defers
    match ds, ht with
    | [], ht =>
      obtain rfl : w2 = w := ht
      rw [hd]
      exact res f a _ _ hag hr
    | [d], ht =>
      obtain ⟨D, rfl, hD, rfl⟩ := ht
      rw [hd]
      exact ⟨by simp, .inl ⟨D, _, rfl, run_takeDeferred hD, res f a _ _ hag hr⟩⟩
  refine wpIn_mono (wpI_sound hT fok_wide c h hagr) fun e a w' ⟨np, f, ds, hag, hq⟩ => ?_
  cases e with
  | normal => exact key f ds a w' hag hq
  | ret => exact key f ds a w' hag hq
  | _ => exact hq.elim
/-- How a round may be left. -/
def roundE {α : Type} (B : Nat) (Kp : World → World → Prop) (I : List α → World → Prop) (Ix : List α → World → Prop) (xs : List α) (W : World) : Exit → Fr → List Deferred → World → Prop
  | .normal, _, _, W' => KeepsFrom B W W' ∧ Kp W W' ∧ I xs W'
  | .ret, _, _, W' => KeepsFrom B W W' ∧ Ix xs W'
  | _, _, _, _ => False
/-- A range over a function. -/
theorem CWI.range {α : Type} {g : Operand} {ps : Array Tmp} {assign body : Code} {f : Fr} {ds : List Deferred} {w : World} {Q : Exit → Fr → List Deferred → World → Prop} (hT : TT.ok P T = true) (h1 : 1 ≤ m) {gf : Nat} {lb : Array Value} (hg : opd f g fun v => v = .func (.func gf) #[] lb) (eg : ∀ args w, (callFunc gf args).run P w = .ok (.enter gf args) w)
    {encs : α → Array Value} {Kp : World → World → Prop} {S Sp : List α → Prop} {N : Nat} (hseq : SeqStopsK Fence.wide (m - 1) P gf lb encs Kp S Sp N w)
    (hKt : ∀ {A B C : World}, Kp A B → Kp B C → Kp A C) (hKb : ∀ (W : World) (l : Nat) (o o' : Obj), w.heap.size ≤ l → W.heap[l]? = some o → o.isCells = false → o.isWalk = false → Kp W (W.putObj l o')) (hps : ∀ x, (encs x).size = ps.size)
    (I : List α → World → Prop) (Ix : List α → World → Prop) (hI : OwnFrom w.heap.size I) (hIx : OwnFrom w.heap.size Ix) (h0 : I [] w) (a₁ : Act → α → Act) (fb : α → Fr) (hag : ∀ a x, Agr n f a ds → Agr n (fb x) (a₁ a x))
    (hassign : ∀ (a : Act), Agr n f a ds → ∀ (l : Nat) (x : α) (W : World) (K : Act → World → Prop), K (a₁ a x) W →
      assign.wpIn (Fence.wide.inRound l) (m - 1 - 1) P (Exit.then K (fun _ _ _ => False)) { tmps := (ps.zip (encs x)).foldl (fun t (p, v) => t.setIfInBounds p v) a.tmps, defers := [] } W)
    (hbody : ∀ (l : Nat) (pre : List α) (x : α) (W : World), I pre W → pre.length < N → wpI (Fence.wide.inRound l) (m - 1 - 1) P T n body (fb x) [] W (roundE w.heap.size Kp I Ix (pre ++ [x]) W))
    (hdone : ∀ (D : Nat) (xs : List α) (W : World), w.heap.size ≤ D → S xs → I xs W → W.heap[D]? = some (.deferred (some [])) → Q .normal f ({ target := .collected D, args := #[] } :: ds) W)
    (hstop : ∀ (D : Nat) (pre : List α) (W : World), w.heap.size ≤ D → Sp pre → Ix pre W → W.heap[D]? = some (.deferred (some [])) → Q .ret f ({ target := .collected D, args := #[] } :: ds) W) :
    CWI Fence.wide m P n (.rangeFunc g ps assign body) Q f ds w := ⟨fun a ha => by
  have hga : a.eval g = .func (.func gf) #[] lb := opd_sound hg ha
  have hup : ∀ D, Agr n f { a with defers := { target := .collected D, args := #[] } :: a.defers } ({ target := .collected D, args := #[] } :: ds) := fun D => ⟨ha.size, by rw [← ha.defers], ha.get⟩
  refine wpIn_rangeFunc_ownG rfl h1 hga trivial eg hseq hKt hKb (Below.refl _ _) hps I (fun c pre W => c = .ret ∧ Ix pre W) hI
    (fun c s W W' row hs hgr hr => ⟨hs.1, hIx s W W' row hs.2 hgr hr⟩) h0 (a₁ a) (hassign a ha)
    (fun l pre x W hi hl => wpIn_mono (wpI_sound hT (fok_round l) body (hbody l pre x W hi hl) (hag a x ha)) fun e a' W' ⟨np, f', ds', hf, hq⟩ => ?_)
    (fun D xs W hD hS hi hK => ⟨trivial, f, _, hup D, hdone D xs W hD hS hi hK⟩)
    (fun D c pre W hD hS hi hK => ?_)
  · cases e with
    | normal => exact hq
    | ret => exact ⟨hq.1, rfl, hq.2⟩
    | _ => exact hq.elim
  · obtain ⟨rfl, hi⟩ := hi
    exact wpIn_ret ⟨trivial, f, _, hup D, hstop D pre W hD hS hi hK⟩⟩
end sound
end Go.Proofs.Ytkpaafjnjmmehaa
/- frame.pieces: what it hands back, and its iterator's contract (58 * 4 and 64 * 3 bytes). Written by wip/pieces.py. -/
namespace Go.Proofs.Ytkpaafjnjmmehaa
open Go.RowKit Go.Shelf
set_option linter.unusedVariables false
attribute [local go_sem] Oper.semAt_some
/-- The iterator's own two cells are as they were. -/
def KpP (xb xs : Nat) (W W' : World) : Prop := W'.cell? ⟨xb, 0, none⟩ = W.cell? ⟨xb, 0, none⟩ ∧ W'.cell? ⟨xs, 0, none⟩ = W.cell? ⟨xs, 0, none⟩
theorem KpP.trans {xb xs : Nat} {A B C : World} (h : KpP xb xs A B) (k : KpP xb xs B C) : KpP xb xs A C := ⟨k.1.trans h.1, k.2.trans h.2⟩
/-- Piece j, of so many. -/
def pcs (N : Nat) (hN : 0 < N) (j : Nat) : Fin N := ⟨min j (N - 1), by omega⟩
def upto (N : Nat) (hN : 0 < N) (k : Nat) : List (Fin N) := (List.range k).map (pcs N hN)
theorem upto_succ (N : Nat) (hN : 0 < N) (k : Nat) : upto N hN (k + 1) = upto N hN k ++ [pcs N hN k] := by simp [upto, List.range_succ]
theorem upto_length (N : Nat) (hN : 0 < N) (k : Nat) : (upto N hN k).length = k := by simp [upto]
set_option maxRecDepth 100000 in
theorem pieces_ok (w : World) (A : Option Addr) (n c : Nat) (sz : Int) : Spec Try.prog 42 #[.slice A n c, .int .i64 sz] w fun v w' => v = .func (.func 54) #[] #[.pointer (some ⟨w.heap.size + 1, 0, none⟩), .pointer (some ⟨w.heap.size, 0, none⟩)] ∧ w' = (w.alloc (.cells #[.slice A n c] 22)).alloc (.cells #[.int .i64 sz] 3) := by
  refine ⟨by kernel_rfl, ?_⟩
  go_enter Try.func42, Try.ntmps42
  go_wp2
  go_ret
  exact ⟨_, rfl, rfl, rfl⟩
def enc64 (b o c : Nat) (x : Fin 3) : Array Value := #[.int .i64 (x.1 : Int), .slice (some ⟨b, o + x.1 * 64, none⟩) ((x.1 + 1) * 64 - x.1 * 64) (c - x.1 * 64)]
theorem enc64_eq (b o c : Nat) (x : Fin 3) : enc64 b o c x = #[.int .i64 (x.1 : Int), .slice (some ⟨b, o + x.1 * 64, none⟩) 64 (c - x.1 * 64)] := by
  unfold enc64
  rw [show (x.1 + 1) * 64 - x.1 * 64 = 64 by omega]
set_option maxRecDepth 100000 in
set_option maxHeartbeats 4000000 in
theorem pieces64_in (F : Fence) (n : Nat) (h7 : F.fn 54) (hro : F.round = none) (hn : 1 ≤ n) (l xb xs b o c : Nat) (hc : 192 ≤ c) (J Jx : List (Fin 3) → World → Prop)
    (hY : ∀ pre x W, J pre W → pre.length < 3 → YieldAt F (n - 1) Try.prog l (enc64 b o c x) W fun e W' =>
      (e = .returned (.bool true) ∧ J (pre ++ [x]) W' ∧ KpP xb xs W W') ∨ (e = .returned (.bool false) ∧ Jx (pre ++ [x]) W'))
    (W : World) (hB : W.cell? ⟨xb, 0, none⟩ = some (.slice (some ⟨b, o, none⟩) 192 c)) (hS : W.cell? ⟨xs, 0, none⟩ = some (.int .i64 64)) (h0 : J [] W) :
    CallsIn F n Try.prog 54 #[.func (.yield l) #[] #[], .pointer (some ⟨xs, 0, none⟩), .pointer (some ⟨xb, 0, none⟩)] W fun e W' => (∃ v, e = .returned v) ∧
      ((∃ ys, ys = upto 3 (by decide) 3 ∧ J ys W') ∨ (∃ pre, (∃ k, k ≤ 3 ∧ pre = upto 3 (by decide) k) ∧ Jx pre W')) := by
  refine callsIn_of_wp Try.func54 rfl h7 ?_ hro
  simp only [Try.ntmps54, List.size_toArray, List.length_cons, List.length_nil, Nat.reduceAdd, Nat.reduceSub, Array.replicate_succ, Array.replicate_zero, List.push_toArray, List.append_toArray, List.nil_append, List.cons_append]
  gi_wp2
  gi_loopw [4] (fun i wr => ∃ k : Nat, k ≤ 3 ∧ i = .int .i64 k ∧ J (upto 3 (by decide) k) wr ∧ wr.cell? ⟨xb, 0, none⟩ = some (.slice (some ⟨b, o, none⟩) 192 c) ∧ wr.cell? ⟨xs, 0, none⟩ = some (.int .i64 64))
    (fun i _ => 3 - (intOf i).toNat)
  case atStart => exact ⟨0, Nat.zero_le _, rfl, h0, hB, hS⟩
  case round =>
    obtain ⟨k, hk, rfl, hJs, hB, hS⟩ := hrel
    by_cases hlt : k < 3
    · obtain ⟨fn, tmps, assign, body, hy, hR⟩ := hY _ (pcs 3 (by decide) k) wr hJs (by rw [upto_length]; exact hlt)
      have hp : (pcs 3 (by decide) k).1 = k := by show min k (3 - 1) = k; omega
      unfold enc64 at hy
      rw [hp] at hy
      gi_wp2
      refine hR.mono ?_
      rintro e W3 (⟨rfl, hJ3, hk3⟩ | ⟨rfl, hJx3⟩)
      · gi_wp2
        go_roundw
        case rel => exact ⟨k + 1, by omega, by simp, by rw [upto_succ]; exact hJ3, hk3.1.trans hB, hk3.2.trans hS⟩
        case measure => simp [intOf]; omega
      · gi_wp2
        refine bodyPost_ret (results_none rfl _ _ _) rfl ?_
        exact ⟨⟨_, rfl⟩, .inr ⟨_, ⟨k + 1, by omega, (upto_succ _ _ _).symm⟩, hJx3⟩⟩
    · obtain rfl : k = 3 := by omega
      gi_wp2
      go_end0
      exact ⟨⟨_, rfl⟩, .inl ⟨_, rfl, hJs⟩⟩
theorem upto_pre64 (k : Nat) (hk : k ≤ 3) : upto 3 (by decide) k <+: upto 3 (by decide) 3 := by
  have h : ∀ k, k ≤ 3 → upto 3 (by decide) k <+: upto 3 (by decide) 3 := by decide
  exact h k hk
/-- The iterator's word. -/
theorem pieces64_stops (F : Fence) (n : Nat) (h7 : F.fn 54) (hro : F.round = none) (hn : 1 ≤ n) (xb xs b o c : Nat) (hc : 192 ≤ c) (w : World) (hxb : xb < w.heap.size) (hxs : xs < w.heap.size)
    (hB : w.cell? ⟨xb, 0, none⟩ = some (.slice (some ⟨b, o, none⟩) 192 c)) (hS : w.cell? ⟨xs, 0, none⟩ = some (.int .i64 64)) :
    SeqStopsK F n Try.prog 54 #[.pointer (some ⟨xs, 0, none⟩), .pointer (some ⟨xb, 0, none⟩)] (enc64 b o c) (KpP xb xs) (fun ys => ys = upto 3 (by decide) 3) (fun pre => pre <+: upto 3 (by decide) 3) 3 w := fun l J Jx W hW _ _ hY h0 => by
  have hB' := (hW.cell (p := ⟨xb, 0, none⟩) hxb).trans hB
  have hS' := (hW.cell (p := ⟨xs, 0, none⟩) hxs).trans hS
  refine (pieces64_in F n h7 hro hn l xb xs b o c hc J Jx hY W hB' hS' h0).mono ?_
  rintro e W' ⟨he, ⟨ys, rfl, hj⟩ | ⟨pre, ⟨k, hk, rfl⟩, hj⟩⟩
  · exact ⟨he, .inl ⟨_, rfl, hj⟩⟩
  · exact ⟨he, .inr ⟨_, upto_pre64 k hk, hj⟩⟩
def enc58 (b o c : Nat) (x : Fin 4) : Array Value := #[.int .i64 (x.1 : Int), .slice (some ⟨b, o + x.1 * 58, none⟩) ((x.1 + 1) * 58 - x.1 * 58) (c - x.1 * 58)]
theorem enc58_eq (b o c : Nat) (x : Fin 4) : enc58 b o c x = #[.int .i64 (x.1 : Int), .slice (some ⟨b, o + x.1 * 58, none⟩) 58 (c - x.1 * 58)] := by
  unfold enc58
  rw [show (x.1 + 1) * 58 - x.1 * 58 = 58 by omega]
set_option maxRecDepth 100000 in
set_option maxHeartbeats 4000000 in
theorem pieces58_in (F : Fence) (n : Nat) (h7 : F.fn 54) (hro : F.round = none) (hn : 1 ≤ n) (l xb xs b o c : Nat) (hc : 232 ≤ c) (J Jx : List (Fin 4) → World → Prop)
    (hY : ∀ pre x W, J pre W → pre.length < 4 → YieldAt F (n - 1) Try.prog l (enc58 b o c x) W fun e W' =>
      (e = .returned (.bool true) ∧ J (pre ++ [x]) W' ∧ KpP xb xs W W') ∨ (e = .returned (.bool false) ∧ Jx (pre ++ [x]) W'))
    (W : World) (hB : W.cell? ⟨xb, 0, none⟩ = some (.slice (some ⟨b, o, none⟩) 232 c)) (hS : W.cell? ⟨xs, 0, none⟩ = some (.int .i64 58)) (h0 : J [] W) :
    CallsIn F n Try.prog 54 #[.func (.yield l) #[] #[], .pointer (some ⟨xs, 0, none⟩), .pointer (some ⟨xb, 0, none⟩)] W fun e W' => (∃ v, e = .returned v) ∧
      ((∃ ys, ys = upto 4 (by decide) 4 ∧ J ys W') ∨ (∃ pre, (∃ k, k ≤ 4 ∧ pre = upto 4 (by decide) k) ∧ Jx pre W')) := by
  refine callsIn_of_wp Try.func54 rfl h7 ?_ hro
  simp only [Try.ntmps54, List.size_toArray, List.length_cons, List.length_nil, Nat.reduceAdd, Nat.reduceSub, Array.replicate_succ, Array.replicate_zero, List.push_toArray, List.append_toArray, List.nil_append, List.cons_append]
  gi_wp2
  gi_loopw [4] (fun i wr => ∃ k : Nat, k ≤ 4 ∧ i = .int .i64 k ∧ J (upto 4 (by decide) k) wr ∧ wr.cell? ⟨xb, 0, none⟩ = some (.slice (some ⟨b, o, none⟩) 232 c) ∧ wr.cell? ⟨xs, 0, none⟩ = some (.int .i64 58))
    (fun i _ => 4 - (intOf i).toNat)
  case atStart => exact ⟨0, Nat.zero_le _, rfl, h0, hB, hS⟩
  case round =>
    obtain ⟨k, hk, rfl, hJs, hB, hS⟩ := hrel
    by_cases hlt : k < 4
    · obtain ⟨fn, tmps, assign, body, hy, hR⟩ := hY _ (pcs 4 (by decide) k) wr hJs (by rw [upto_length]; exact hlt)
      have hp : (pcs 4 (by decide) k).1 = k := by show min k (4 - 1) = k; omega
      unfold enc58 at hy
      rw [hp] at hy
      gi_wp2
      refine hR.mono ?_
      rintro e W3 (⟨rfl, hJ3, hk3⟩ | ⟨rfl, hJx3⟩)
      · gi_wp2
        go_roundw
        case rel => exact ⟨k + 1, by omega, by simp, by rw [upto_succ]; exact hJ3, hk3.1.trans hB, hk3.2.trans hS⟩
        case measure => simp [intOf]; omega
      · gi_wp2
        refine bodyPost_ret (results_none rfl _ _ _) rfl ?_
        exact ⟨⟨_, rfl⟩, .inr ⟨_, ⟨k + 1, by omega, (upto_succ _ _ _).symm⟩, hJx3⟩⟩
    · obtain rfl : k = 4 := by omega
      gi_wp2
      go_end0
      exact ⟨⟨_, rfl⟩, .inl ⟨_, rfl, hJs⟩⟩
theorem upto_pre58 (k : Nat) (hk : k ≤ 4) : upto 4 (by decide) k <+: upto 4 (by decide) 4 := by
  have h : ∀ k, k ≤ 4 → upto 4 (by decide) k <+: upto 4 (by decide) 4 := by decide
  exact h k hk
/-- The iterator's word. -/
theorem pieces58_stops (F : Fence) (n : Nat) (h7 : F.fn 54) (hro : F.round = none) (hn : 1 ≤ n) (xb xs b o c : Nat) (hc : 232 ≤ c) (w : World) (hxb : xb < w.heap.size) (hxs : xs < w.heap.size)
    (hB : w.cell? ⟨xb, 0, none⟩ = some (.slice (some ⟨b, o, none⟩) 232 c)) (hS : w.cell? ⟨xs, 0, none⟩ = some (.int .i64 58)) :
    SeqStopsK F n Try.prog 54 #[.pointer (some ⟨xs, 0, none⟩), .pointer (some ⟨xb, 0, none⟩)] (enc58 b o c) (KpP xb xs) (fun ys => ys = upto 4 (by decide) 4) (fun pre => pre <+: upto 4 (by decide) 4) 4 w := fun l J Jx W hW _ _ hY h0 => by
  have hB' := (hW.cell (p := ⟨xb, 0, none⟩) hxb).trans hB
  have hS' := (hW.cell (p := ⟨xs, 0, none⟩) hxs).trans hS
  refine (pieces58_in F n h7 hro hn l xb xs b o c hc J Jx hY W hB' hS' h0).mono ?_
  rintro e W' ⟨he, ⟨ys, rfl, hj⟩ | ⟨pre, ⟨k, hk, rfl⟩, hj⟩⟩
  · exact ⟨he, .inl ⟨_, rfl, hj⟩⟩
  · exact ⟨he, .inr ⟨_, upto_pre58 k hk, hj⟩⟩
end Go.Proofs.Ytkpaafjnjmmehaa
/- Layer 6: Lay. -/
namespace Go.Proofs.Ytkpaafjnjmmehaa
open Go.RowKit
set_option linter.unusedVariables false
set_option maxRecDepth 20000
attribute [local irreducible] GF.pw GF.lg GF.mul GF.inv GF.xt
theorem row1 (w : World) (t : TypeId) (v : Value) : Row (w.alloc (.cells #[v] t)) w.heap.size t 1 (fun _ => v) := Row.of_arr (heap_alloc_new w _) (by simp [Array.range, Array.ofFn_succ])
/-- A variable of one cell is made. -/
theorem Ru.new1 {P : Program} {w : World} {s : Sem Value} {t : TypeId} {v : Value} {K : Value → World → Prop} (h : s.run P w = .ok (.pointer (some ⟨w.heap.size, 0, none⟩)) (w.alloc (.cells #[v] t))) (k : ∀ g w', g = w.heap.size → w'.heap.size = w.heap.size + 1 → Row w' g t 1 (fun _ => v) → Keep [] w w' → K (.pointer (some ⟨g, 0, none⟩)) w') : Ru P s w K :=
  ⟨_, _, h, k _ _ rfl (by simp) (row1 w t v) ((Keep.refl _ _).alloc _)⟩
theorem new_frm (a : Addr) (w : World) : (Instr.box 63 (.pointer (some a))).run Try.prog w = .ok (.pointer (some ⟨w.heap.size, 0, none⟩)) (w.alloc (.cells #[.pointer (some a)] 63)) := by kernel_rfl
theorem new_ss (w : World) : (Instr.alloc 69 true (.tuple #[])).run Try.prog w = .ok (.pointer (some ⟨w.heap.size, 0, none⟩)) (w.alloc (.cells #[.slice none 0 0] 69)) := by kernel_rfl
theorem new_err (w : World) : (Instr.alloc 32 true (.tuple #[])).run Try.prog w = .ok (.pointer (some ⟨w.heap.size, 0, none⟩)) (w.alloc (.cells #[.nilIface] 32)) := by kernel_rfl
/-- A page's bytes ahead of the code: its data, the body, the mark. -/
def layF (D B : Nat → Nat) : Nat → Nat := fun j => if j < 174 then D j else if j < 224 then B (j - 174) else (markF (j - 224)).toNat
def msg58 (q : Nat → Nat) (k : Nat) : Nat → Nat := fun i => q (k * 58 + i)
theorem seal_sp (A : Option Addr) (c : Nat) (f : Nat → Int) (w : World) (r : Rd w A 50 (fun j => .int .u8 (f j))) : Spec Try.prog 41 #[.slice A 50 c] w fun v w' => v = .tuple #[.slice (some ⟨w.heap.size, 0, none⟩) 58 58, errOf 0] ∧ Row w' w.heap.size 5 58 (fun j => .int .u8 (sealF f j)) ∧ Keep [] w w' :=
  Spec.of_ret (by kernel_rfl) (seal_ok A c f w r) fun e w' h => by
    obtain ⟨rfl, h1, h2⟩ := h
    exact ⟨_, rfl, rfl, h1, h2⟩
theorem markF_nat (i : Nat) : ((markF i).toNat : Int) = markF i := by
  have h : 0 ≤ markF i := by
    by_cases hi : i < 8
    · have : ∀ i, i < 8 → 0 ≤ markF i := by decide
      exact this i hi
    · unfold markF
      rw [List.getD_eq_getElem?_getD, List.getElem?_eq_none (by simp; omega)]
      decide
  omega
theorem layF_val (D B : Nat → Nat) (j : Nat) : (if j < 174 then natI D j else sealF (natI B) (j - 174)) = (layF D B j : Int) := by
  unfold layF sealF natI
  by_cases h1 : j < 174
  · rw [if_pos h1, if_pos h1]
  · rw [if_neg h1, if_neg h1]
    by_cases h2 : j < 224
    · rw [if_pos (by omega), if_pos h2]
    · rw [if_neg (by omega), if_neg h2, markF_nat, show j - 174 - 50 = j - 224 by omega]
theorem build_ss (A : Option Addr) (n c : Nat) (w : World) : (Instr.buildSlice 69 1 #[(0, .slice A n c)]).run Try.prog w = .ok (.slice (some ⟨w.heap.size, 0, none⟩) 1 1) (w.alloc (.cells #[.slice A n c] 22)) := by kernel_rfl
theorem ss_info : (Try.prog.info? 22).map (fun i => (i.zero, i.size, i.bytes)) = some (some (.slice none 0 0), 1, 24) := by kernel_rfl
theorem row_cells {W : World} {x : Nat} {t : TypeId} {n : Nat} {F : Nat → Value} (r : Row W x t n F) : ∀ o, W.heap[x]? = some o → o.isCells = true := fun o h => by
  rw [r] at h
  cases h
  rfl
theorem ly_cells {W : World} {t : TypeId} {s n c : Nat} {A : Option Addr} {F : Nat → Value} (r : Ly W t s A n c F) : ∀ x, x ∈ blk A → ∀ o, W.heap[x]? = some o → o.isCells = true := fun x hx o h => by
  cases A with
  | none => cases hx
  | some a =>
    obtain ⟨b, cur, fr, rfl, hh, _⟩ := r.2.2.2 a rfl
    obtain rfl := List.mem_singleton.1 hx
    rw [hh] at h
    cases h
    rfl
theorem FS.cells {W : World} {g : Nat} (r : FS W g) : ∀ o, W.heap[g]? = some o → o.isCells = true := by
  rcases r with r | r
  · exact row_cells r
  · exact row_cells r
theorem keepsFrom_of {S : List Nat} {W W' : World} (B : Nat) (k : Keep S W W') (h : ∀ x, x ∈ S → ∀ o, W.heap[x]? = some o → o.isCells = true) : KeepsFrom B W W' := ⟨k.size, fun i o _ hi ho => by
  have hl := (Array.getElem?_eq_some_iff.1 hi).1
  rw [k.block i hl (fun hx => by rw [h i hx o hi] at ho; cases ho)]
  exact hi⟩
structure LayI (w : World) (N0 f c g h xf xr xe xo qb e : Nat) (q : Nat → Nat) (pre : List (Fin 4)) (W : World) : Prop where
  sz : N0 ≤ W.heap.size
  fk : FK w g W
  frm : Frm W f c g h
  rxf : Row W xf 63 1 (fun _ => .pointer (some ⟨f, 0, none⟩))
  rxr : Row W xr 69 1 (fun _ => .slice none 0 0)
  rxe : Row W xe 32 1 (fun _ => .nilIface)
  rq : Ly W 5 1 (some ⟨qb, 0, none⟩) 232 e (fun j => .int .u8 (q j : Nat))
  out : ∃ (O : Option Addr) (oc : Nat) (bk ek : Nat → Nat), Row W xo 69 1 (fun _ => .slice O pre.length oc) ∧ Ly W 22 1 O pre.length oc (fun k => .slice (some ⟨bk k, 0, none⟩) 64 (ek k)) ∧ (∀ x, x ∈ blk O → N0 ≤ x) ∧ ∀ k (hk : k < pre.length), w.heap.size ≤ bk k ∧ Wd W (bk k) (ek k) (GF.encW (msg58 q pre[k].1))
/-- A variable of one cell is read. -/
theorem Ru.ldc {P : Program} {w : World} {t : TypeId} {a : Addr} {v : Value} {K : Value → World → Prop} (hc : cellTy P t = true) (h : w.cell? a = some v) (k : K v w) : Ru P (loadVar t a) w K := ⟨v, w, load_run hc h, k⟩
/-- What Lay answers. -/
def LayEnd (w : World) (g : Nat) (q : Nat → Nat) (v : Value) (w' : World) : Prop :=
  FK w g w' ∧ ∃ (O : Option Addr) (oc : Nat) (bk ek : Nat → Nat), v = .tuple #[.slice O 4 oc, errOf 0] ∧ Ly w' 22 1 O 4 oc (fun k => .slice (some ⟨bk k, 0, none⟩) 64 (ek k)) ∧ ∀ k, k < 4 → w.heap.size ≤ bk k ∧ Wd w' (bk k) (ek k) (GF.encW (msg58 q k))
theorem upto4 : ∀ k (hk : k < 4), ((upto 4 (by decide) 4)[k]'(by rw [upto_length]; exact hk)).1 = k := by decide
theorem markF_lt (i : Nat) : (markF i).toNat < 256 := by
  by_cases hi : i < 8
  · have : ∀ i, i < 8 → (markF i).toNat < 256 := by decide
    exact this i hi
  · unfold markF
    rw [List.getD_eq_getElem?_getD, List.getElem?_eq_none (by simp; omega)]
    decide
theorem layF_lt {D B : Nat → Nat} (hD : ∀ j, D j < 256) (hB : ∀ j, B j < 256) (j : Nat) : layF D B j < 256 := by
  unfold layF
  split
  · exact hD j
  · split
    · exact hB _
    · exact markF_lt _
/-- The block r holds no cells. -/
def NoCells (W : World) (r : Nat) : Prop := ∃ o : Obj, W.heap[r]? = some o ∧ o.isCells = false
theorem NoCells.ne {W : World} {r x : Nat} {t : TypeId} {n : Nat} {F : Nat → Value} (h : NoCells W r) (k : Row W x t n F) : x ≠ r := fun e => by
  obtain ⟨o, h1, h2⟩ := h
  subst e
  rw [k] at h1
  cases h1
  cases h2
theorem NoCells.nely {W : World} {r : Nat} {t : TypeId} {s n c : Nat} {A : Option Addr} {F : Nat → Value} (h : NoCells W r) (k : Ly W t s A n c F) : ∀ x, x ∈ blk A → x ∉ [r] := fun x hx e => by
  obtain ⟨o, h1, h2⟩ := h
  cases A with
  | none => cases hx
  | some a =>
    obtain ⟨b, cur, fr, rfl, hh, _⟩ := k.2.2.2 a rfl
    obtain rfl := List.mem_singleton.1 hx
    rw [List.mem_singleton.1 e, h1] at hh
    cases hh
    cases h2
theorem keep_grown {W W' : World} {row : Option Nat} (g : W.grownBy W' row) : Keep row.toList W W' := (Keep.refl _ W).grown g (fun k e => .inl (by rw [e]; simp))
set_option maxHeartbeats 4000000 in
theorem lay_ok (w : World) (f c g h dd db : Nat) (A X : Option Addr) (D B : Nat → Nat) (hD : ∀ j, D j < 256) (hB : ∀ j, B j < 256) (rD : RdB w A 174 D) (rB : RdB w X 50 B) (hdd : 174 ≤ dd) (H : Frm w f c g h) :
    Spec Try.prog 21 #[.pointer (some ⟨f, 0, none⟩), .slice A 174 dd, .slice X 50 db] w (LayEnd w g (layF D B)) := by
  refine spec_of_wpI (T := tt) 3 tt_ok Try.func21 rfl (by decide +kernel) Try.ntmps21 (by simp) ?_
  have hAn : A = none → dd = 0 := fun e => by
    obtain ⟨b, o, e2, _⟩ := rD (by omega)
    rw [e] at e2
    cases e2
  conv => whnf
  repeat ((first
    | refine HS.t ?_|refine Br.t ?_|refine Br.f ?_|refine Pk.f ?_|refine Pk.t ?_|refine Pk.and ?_|refine Pk.or ?_|refine Ix.n ?_|refine Ix.of _ (by rfl) (by omega) ?_|refine Ix.i ?_|refine Ar.la ?_|refine Ar.lb ?_|refine Ar.lc ?_|refine Dv.q ?_|refine Dv.r ?_|refine Br.y ?_|refine Br.n ?_|refine Br.ny ?_|refine Br.nn ?_|refine Br.is (by assumption) ?_|refine Br.isnt (by assumption) ?_|refine Ld.of (by assumption) ?_|refine Ru.neq_nil0 ?_|refine Ru.n1 ?_|refine Ru.eql_nil0 ?_|refine Ru.e1 ?_|refine Ru.e2 ?_|refine Ru.e3 ?_|refine Ru.n2 ?_|refine Ru.n3 ?_|refine Ru.neq_nil rfl ?_|refine Ru.eql_nil rfl ?_|refine Ru.eql_err rfl (by decide) ?_|refine Ru.neq_err rfl (by decide) ?_|refine Ru.be ?_|refine Ru.bn ?_|refine RuQ.be ?_|refine RuQ.bn ?_|refine CW.s ?_); conv => whnf)
  refine Ru.new1 (new_frm _ _) ?_
  intro xf w1 hxf hs1 rxf k1
  conv => whnf
  repeat ((first
    | refine HS.t ?_|refine Br.t ?_|refine Br.f ?_|refine Pk.f ?_|refine Pk.t ?_|refine Pk.and ?_|refine Pk.or ?_|refine Ix.n ?_|refine Ix.of _ (by rfl) (by omega) ?_|refine Ix.i ?_|refine Ar.la ?_|refine Ar.lb ?_|refine Ar.lc ?_|refine Dv.q ?_|refine Dv.r ?_|refine Br.y ?_|refine Br.n ?_|refine Br.ny ?_|refine Br.nn ?_|refine Br.is (by assumption) ?_|refine Br.isnt (by assumption) ?_|refine Ld.of (by assumption) ?_|refine Ru.neq_nil0 ?_|refine Ru.n1 ?_|refine Ru.eql_nil0 ?_|refine Ru.e1 ?_|refine Ru.e2 ?_|refine Ru.e3 ?_|refine Ru.n2 ?_|refine Ru.n3 ?_|refine Ru.neq_nil rfl ?_|refine Ru.eql_nil rfl ?_|refine Ru.eql_err rfl (by decide) ?_|refine Ru.neq_err rfl (by decide) ?_|refine Ru.be ?_|refine Ru.bn ?_|refine RuQ.be ?_|refine RuQ.bn ?_|refine CW.s ?_); conv => whnf)
  refine Ru.new1 (new_ss _) ?_
  intro xr w2 hxr hs2 rxr k2
  conv => whnf
  repeat ((first
    | refine HS.t ?_|refine Br.t ?_|refine Br.f ?_|refine Pk.f ?_|refine Pk.t ?_|refine Pk.and ?_|refine Pk.or ?_|refine Ix.n ?_|refine Ix.of _ (by rfl) (by omega) ?_|refine Ix.i ?_|refine Ar.la ?_|refine Ar.lb ?_|refine Ar.lc ?_|refine Dv.q ?_|refine Dv.r ?_|refine Br.y ?_|refine Br.n ?_|refine Br.ny ?_|refine Br.nn ?_|refine Br.is (by assumption) ?_|refine Br.isnt (by assumption) ?_|refine Ld.of (by assumption) ?_|refine Ru.neq_nil0 ?_|refine Ru.n1 ?_|refine Ru.eql_nil0 ?_|refine Ru.e1 ?_|refine Ru.e2 ?_|refine Ru.e3 ?_|refine Ru.n2 ?_|refine Ru.n3 ?_|refine Ru.neq_nil rfl ?_|refine Ru.eql_nil rfl ?_|refine Ru.eql_err rfl (by decide) ?_|refine Ru.neq_err rfl (by decide) ?_|refine Ru.be ?_|refine Ru.bn ?_|refine RuQ.be ?_|refine RuQ.bn ?_|refine CW.s ?_); conv => whnf)
  refine Ru.new1 (new_err _) ?_
  intro xe w3 hxe hs3 rxe k3
  have k123 := (k1.trans k2).trans k3
  conv => whnf
  repeat ((first
    | (refine CWI.seq tt_ok fok_wide ?_)
    | refine HS.t ?_|refine Br.t ?_|refine Br.f ?_|refine Pk.f ?_|refine Pk.t ?_|refine Pk.and ?_|refine Pk.or ?_|refine Ix.n ?_|refine Ix.of _ (by rfl) (by omega) ?_|refine Ix.i ?_|refine Ar.la ?_|refine Ar.lb ?_|refine Ar.lc ?_|refine Dv.q ?_|refine Dv.r ?_|refine Br.y ?_|refine Br.n ?_|refine Br.ny ?_|refine Br.nn ?_|refine Br.is (by assumption) ?_|refine Br.isnt (by assumption) ?_|refine Ld.of (by assumption) ?_|refine Ru.neq_nil0 ?_|refine Ru.n1 ?_|refine Ru.eql_nil0 ?_|refine Ru.e1 ?_|refine Ru.e2 ?_|refine Ru.e3 ?_|refine Ru.n2 ?_|refine Ru.n3 ?_|refine Ru.neq_nil rfl ?_|refine Ru.eql_nil rfl ?_|refine Ru.eql_err rfl (by decide) ?_|refine Ru.neq_err rfl (by decide) ?_|refine Ru.be ?_|refine Ru.bn ?_|refine RuQ.be ?_|refine RuQ.bn ?_|refine CW.s ?_); conv => whnf)
  refine Ca.of (seal_sp X db (natI B) w3 (rB.keep0 k123)) ?_
  rintro _ w4 ⟨rfl, rs4, k4⟩
  conv => whnf
  repeat ((first
    | (refine CWI.seq tt_ok fok_wide ?_)
    | refine HS.t ?_|refine Br.t ?_|refine Br.f ?_|refine Pk.f ?_|refine Pk.t ?_|refine Pk.and ?_|refine Pk.or ?_|refine Ix.n ?_|refine Ix.of _ (by rfl) (by omega) ?_|refine Ix.i ?_|refine Ar.la ?_|refine Ar.lb ?_|refine Ar.lc ?_|refine Dv.q ?_|refine Dv.r ?_|refine Br.y ?_|refine Br.n ?_|refine Br.ny ?_|refine Br.nn ?_|refine Br.is (by assumption) ?_|refine Br.isnt (by assumption) ?_|refine Ld.of (by assumption) ?_|refine Ru.neq_nil0 ?_|refine Ru.n1 ?_|refine Ru.eql_nil0 ?_|refine Ru.e1 ?_|refine Ru.e2 ?_|refine Ru.e3 ?_|refine Ru.n2 ?_|refine Ru.n3 ?_|refine Ru.neq_nil rfl ?_|refine Ru.eql_nil rfl ?_|refine Ru.eql_err rfl (by decide) ?_|refine Ru.neq_err rfl (by decide) ?_|refine Ru.be ?_|refine Ru.bn ?_|refine RuQ.be ?_|refine RuQ.bn ?_|refine CW.s ?_); conv => whnf)
  refine Ru.new1 (new_ss _) ?_
  intro xo w5 hxo hs5 rxo k5
  have k45 := k4.trans k5
  have k35 := k123.trans k45
  conv => whnf
  repeat ((first
    | (refine CWI.seq tt_ok fok_wide ?_)
    | refine HS.t ?_|refine Br.t ?_|refine Br.f ?_|refine Pk.f ?_|refine Pk.t ?_|refine Pk.and ?_|refine Pk.or ?_|refine Ix.n ?_|refine Ix.of _ (by rfl) (by omega) ?_|refine Ix.i ?_|refine Ar.la ?_|refine Ar.lb ?_|refine Ar.lc ?_|refine Dv.q ?_|refine Dv.r ?_|refine Br.y ?_|refine Br.n ?_|refine Br.ny ?_|refine Br.nn ?_|refine Br.is (by assumption) ?_|refine Br.isnt (by assumption) ?_|refine Ld.of (by assumption) ?_|refine Ru.neq_nil0 ?_|refine Ru.n1 ?_|refine Ru.eql_nil0 ?_|refine Ru.e1 ?_|refine Ru.e2 ?_|refine Ru.e3 ?_|refine Ru.n2 ?_|refine Ru.n3 ?_|refine Ru.neq_nil rfl ?_|refine Ru.eql_nil rfl ?_|refine Ru.eql_err rfl (by decide) ?_|refine Ru.neq_err rfl (by decide) ?_|refine Ru.be ?_|refine Ru.bn ?_|refine RuQ.be ?_|refine RuQ.bn ?_|refine CW.s ?_); conv => whnf)
  refine Bu.grow (Own.start w5 (fun _ => 0)) (natI D) (rD.keep0 k35) hdd hAn (by omega) ?_
  intro Y1 e1 w6 O1 k6
  conv => whnf
  repeat ((first
    | refine HS.t ?_|refine Br.t ?_|refine Br.f ?_|refine Pk.f ?_|refine Pk.t ?_|refine Pk.and ?_|refine Pk.or ?_|refine Ix.n ?_|refine Ix.of _ (by rfl) (by omega) ?_|refine Ix.i ?_|refine Ar.la ?_|refine Ar.lb ?_|refine Ar.lc ?_|refine Dv.q ?_|refine Dv.r ?_|refine Br.y ?_|refine Br.n ?_|refine Br.ny ?_|refine Br.nn ?_|refine Br.is (by assumption) ?_|refine Br.isnt (by assumption) ?_|refine Ld.of (by assumption) ?_|refine Ru.neq_nil0 ?_|refine Ru.n1 ?_|refine Ru.eql_nil0 ?_|refine Ru.e1 ?_|refine Ru.e2 ?_|refine Ru.e3 ?_|refine Ru.n2 ?_|refine Ru.n3 ?_|refine Ru.neq_nil rfl ?_|refine Ru.eql_nil rfl ?_|refine Ru.eql_err rfl (by decide) ?_|refine Ru.neq_err rfl (by decide) ?_|refine Ru.be ?_|refine Ru.bn ?_|refine RuQ.be ?_|refine RuQ.bn ?_|refine CW.s ?_); conv => whnf)
  refine Bu.grow O1 (sealF (natI B)) (Rd.of_row (Row.keep (Row.keep rs4 k5 (by simp)) O1.keep (by simp)) (Nat.le_refl _)) (by omega) (fun e => by cases e) (by omega) ?_
  intro Y2 e2 w7 O2 k7
  obtain ⟨qb, rfl, -, -⟩ := O2.ly.at1 (j := 0) (by omega)
  have hqb := O2.new qb (List.mem_singleton.2 rfl)
  have rq : Ly w7 5 1 (some ⟨qb, 0, none⟩) 232 e2 (fun j => .int .u8 (layF D B j : Nat)) := O2.ly.congr (fun j hj => by
    rw [← layF_val]
    by_cases h1 : j < 174
    · simp [h1]
    · simp [h1])
  have k57 := O2.keep
  have k37 := k35.trans k57
  clear O1 O2 k6 k7
  conv => whnf
  repeat ((first
    | refine HS.t ?_|refine Br.t ?_|refine Br.f ?_|refine Pk.f ?_|refine Pk.t ?_|refine Pk.and ?_|refine Pk.or ?_|refine Ix.n ?_|refine Ix.of _ (by rfl) (by omega) ?_|refine Ix.i ?_|refine Ar.la ?_|refine Ar.lb ?_|refine Ar.lc ?_|refine Dv.q ?_|refine Dv.r ?_|refine Br.y ?_|refine Br.n ?_|refine Br.ny ?_|refine Br.nn ?_|refine Br.is (by assumption) ?_|refine Br.isnt (by assumption) ?_|refine Ld.of (by assumption) ?_|refine Ru.neq_nil0 ?_|refine Ru.n1 ?_|refine Ru.eql_nil0 ?_|refine Ru.e1 ?_|refine Ru.e2 ?_|refine Ru.e3 ?_|refine Ru.n2 ?_|refine Ru.n3 ?_|refine Ru.neq_nil rfl ?_|refine Ru.eql_nil rfl ?_|refine Ru.eql_err rfl (by decide) ?_|refine Ru.neq_err rfl (by decide) ?_|refine Ru.be ?_|refine Ru.bn ?_|refine RuQ.be ?_|refine RuQ.bn ?_|refine CW.s ?_); conv => whnf)
  refine Ca.of (pieces_ok w7 _ _ _ _) ?_
  rintro _ w8 ⟨rfl, hw8⟩
  conv => whnf
  repeat ((first
    | refine HS.t ?_|refine Br.t ?_|refine Br.f ?_|refine Pk.f ?_|refine Pk.t ?_|refine Pk.and ?_|refine Pk.or ?_|refine Ix.n ?_|refine Ix.of _ (by rfl) (by omega) ?_|refine Ix.i ?_|refine Ar.la ?_|refine Ar.lb ?_|refine Ar.lc ?_|refine Dv.q ?_|refine Dv.r ?_|refine Br.y ?_|refine Br.n ?_|refine Br.ny ?_|refine Br.nn ?_|refine Br.is (by assumption) ?_|refine Br.isnt (by assumption) ?_|refine Ld.of (by assumption) ?_|refine Ru.neq_nil0 ?_|refine Ru.n1 ?_|refine Ru.eql_nil0 ?_|refine Ru.e1 ?_|refine Ru.e2 ?_|refine Ru.e3 ?_|refine Ru.n2 ?_|refine Ru.n3 ?_|refine Ru.neq_nil rfl ?_|refine Ru.eql_nil rfl ?_|refine Ru.eql_err rfl (by decide) ?_|refine Ru.neq_err rfl (by decide) ?_|refine Ru.be ?_|refine Ru.bn ?_|refine RuQ.be ?_|refine RuQ.bn ?_|refine CW.s ?_); conv => whnf)
  have hsz3 : w3.heap.size = w.heap.size + 3 := by omega
  have hs35 := k35.size
  have hs57 := k57.size
  have hs34 := (k123.trans k4).size
  have hs44 := k4.size
  have hgl := H.cod.fs.lt
  have hs7 := k37.size
  have hsz8 : w8.heap.size = w7.heap.size + 2 := by rw [hw8]; simp
  have rb : Row w8 w7.heap.size 22 1 (fun _ => .slice (some ⟨qb, 0, none⟩) 232 e2) := by
    rw [hw8]
    exact (row1 w7 _ _).keep ((Keep.refl [] _).alloc _) (by simp)
  have rs : Row w8 (w7.heap.size + 1) 3 1 (fun _ => .int .i64 58) := by
    rw [hw8]
    have := row1 (w7.alloc (.cells #[.slice (some ⟨qb, 0, none⟩) 232 e2] 22)) 3 (.int .i64 58)
    simpa using this
  have k78 : Keep [] w7 w8 := by
    rw [hw8]
    exact ((Keep.refl [] _).alloc _).alloc _
  clear hw8
  have k08 := k37.trans k78
  have hec : 232 ≤ e2 := rq.1
  have hin : LayI w w8.heap.size f c g h xf xr xe xo qb e2 (layF D B) [] w8 := by
    have H8 := H.keep0 k08 (by simp) (by simp) (by simp) (by simp)
    have k5e : Keep [] w5 w8 := k57.trans k78
    have k2e : Keep [] w2 w8 := k3.trans (k45.trans k5e)
    exact ⟨Nat.le_refl _, ⟨H8.cod.fs, k08.mono (by simp)⟩, H8, rxf.keep (k2.trans k2e) (by simp), rxr.keep k2e (by simp), rxe.keep (k45.trans k5e) (by simp), rq.keep0 k78, none, 0, fun _ => 0, fun _ => 0, rxo.keep k5e (by simp), Ly.nil _ _ _ _, (fun x hx => by cases hx), fun i hi => absurd hi (by simp)⟩
  refine CWI.range (α := Fin 4) tt_ok (by omega) (gf := 54) (lb := #[.pointer (some ⟨w7.heap.size + 1, 0, none⟩), .pointer (some ⟨w7.heap.size, 0, none⟩)]) rfl (enters_of Try.func54 (by kernel_rfl) rfl)
    (pieces58_stops Fence.wide 2 trivial rfl (by omega) w7.heap.size (w7.heap.size + 1) qb 0 e2 hec w8 (by omega) (by omega) (rb.cell 0 (by omega)) (rs.cell 0 (by omega)))
    (fun h k => KpP.trans h k) ?kb (fun x => rfl) (LayI w w8.heap.size f c g h xf xr xe xo qb e2 (layF D B)) (fun _ _ => False) ?own (fun s W W' row hs _ _ => hs) hin
    (fun a x => ((({ a with defers := [] } : Act).put (some 32) (.int .i64 (x.1 : Int))).put (some 33) (.slice (some ⟨qb, 0 + x.1 * 58, none⟩) ((x.1 + 1) * 58 - x.1 * 58) (e2 - x.1 * 58))).put (some 12) (.slice (some ⟨qb, 0 + x.1 * 58, none⟩) ((x.1 + 1) * 58 - x.1 * 58) (e2 - x.1 * 58)))
    (fun x => [(12, .slice (some ⟨qb, 0 + x.1 * 58, none⟩) ((x.1 + 1) * 58 - x.1 * 58) (e2 - x.1 * 58)), (3, .pointer (some ⟨xf, 0, none⟩)), (6, .pointer (some ⟨xr, 0, none⟩)), (7, .pointer (some ⟨xe, 0, none⟩)), (10, .pointer (some ⟨xo, 0, none⟩))])
    ?agr ?assign ?body ?done (fun D pre W _ _ hf _ => hf.elim)
  case kb =>
    intro W l o o' hl _ _ _
    have h1 : ∀ i, i < l → (W.putObj l o').cell? ⟨i, 0, none⟩ = W.cell? ⟨i, 0, none⟩ := fun i hi => World.cell?_of_block (w := W) (World.putObj_heap_other (by show _ ≠ _; first | exact Nat.ne_of_lt hi | exact Nat.ne_of_gt hi))
    exact ⟨h1 w7.heap.size (by omega), h1 (w7.heap.size + 1) (by omega)⟩
  case own =>
    intro pre W W' row hI hg hr
    have k := keep_grown hg
    have hnc : ∀ {x}, (∀ o, W.heap[x]? = some o → o.isCells = true) → x ∉ row.toList := fun {x} hx hm => by
      cases row with
      | none => cases hm
      | some r =>
        obtain rfl : x = r := by simpa using hm
        obtain ⟨_, o, h1, h2⟩ := hr _ rfl
        rw [hx o h1] at h2
        cases h2
    have hB : ∀ x, x ∈ row.toList → w.heap.size ≤ x := fun x hx => by
      cases row with
      | none => cases hx
      | some r =>
        obtain rfl : x = r := by simpa using hx
        have := (hr _ rfl).1
        omega
    obtain ⟨O, oc, bk, ek, ro, lo, hO, hw⟩ := hI.out
    have hg' := hnc (FS.cells hI.fk.fs)
    exact ⟨Nat.le_trans hI.sz k.size, ⟨hI.fk.fs.keep k hg', hI.fk.kp.then k (fun x hx => .inr (hB x hx))⟩, hI.frm.keep0 k (hnc (row_cells hI.frm.row)) (hnc (row_cells hI.frm.cod.row)) hg' (hnc (row_cells hI.frm.cod.gen)), hI.rxf.keep k (hnc (row_cells hI.rxf)), hI.rxr.keep k (hnc (row_cells hI.rxr)), hI.rxe.keep k (hnc (row_cells hI.rxe)), hI.rq.keep k (fun x hx => hnc (ly_cells hI.rq x hx)),
      O, oc, bk, ek, ro.keep k (hnc (row_cells ro)), lo.keep k (fun x hx => hnc (ly_cells lo x hx)), hO, fun i hi => ⟨(hw i hi).1, Ly.keep (hw i hi).2 k (fun x hx => hnc (ly_cells (hw i hi).2 x hx))⟩⟩
  case agr =>
    intro a x ha
    have h0 : Agr 51 _ { a with defers := [] } := ⟨ha.size, rfl, ha.get⟩
    refine ((((h0.put 32 (by decide) _).put 33 (by decide) _).put 12 (by decide) _)).forget (sub_get ?_)
    exact ⟨rfl, rfl, rfl, rfl, rfl, trivial⟩
  case assign =>
    intro a ha l x W K hK
    have hsz : 33 < a.tmps.size := by rw [ha.size]; decide
    have hfo : Array.foldl (fun (t : Array Value) (x : Tmp × Value) => match x with | (p, v) => t.setIfInBounds p v) a.tmps (#[32, 33].zip (enc58 qb 0 e2 x)) = (a.tmps.setIfInBounds 32 (.int .i64 (x.1 : Int))).setIfInBounds 33 (.slice (some ⟨qb, 0 + x.1 * 58, none⟩) ((x.1 + 1) * 58 - x.1 * 58) (e2 - x.1 * 58)) := by
      unfold enc58
      simp
    rw [hfo]
    refine wpIn_region_list ?_
    unfold wpListIn
    rw [if_pos (by rfl)]
    refine OpGo.wpIn (fok_round l) (go_of_run (v := .slice (some ⟨qb, 0 + x.1 * 58, none⟩) ((x.1 + 1) * 58 - x.1 * 58) (e2 - x.1 * 58)) (w' := W) (by simp) ?_ ?_)
    · have e : ((a.tmps.setIfInBounds 32 (.int .i64 (x.1 : Int))).setIfInBounds 33 (.slice (some ⟨qb, 0 + x.1 * 58, none⟩) ((x.1 + 1) * 58 - x.1 * 58) (e2 - x.1 * 58))).getD 33 undef = .slice (some ⟨qb, 0 + x.1 * 58, none⟩) ((x.1 + 1) * 58 - x.1 * 58) (e2 - x.1 * 58) := by
        rw [Array.getD_eq_getD_getElem?, Array.getElem?_setIfInBounds_self_of_lt (by simpa using hsz)]
        rfl
      exact congrArg (fun v => Result.ok (Next.value v) W) e
    · exact hK
  case body =>
    intro l pre x W hI hl
    obtain ⟨O, oc, bk, ek, ro, lo, hO, hw⟩ := hI.out
    have hx4 := x.2
    have hqg : qb ≠ g := by omega
    have rx : RdB W (some ⟨qb, 0 + x.1 * 58, none⟩) 58 (msg58 (layF D B) x.1) := fun _ => ⟨qb, 0 + x.1 * 58, rfl, fun j hj => by
      obtain ⟨b2, o2, e3, hc⟩ := hI.rq.rd1 (by omega)
      cases e3
      have := hc (x.1 * 58 + j) (by omega)
      rw [show 0 + x.1 * 58 + j = 0 + (x.1 * 58 + j) by omega]
      exact this⟩
    have hlay : ∀ j, layF D B j < 256 := layF_lt hD hB
    rw [show (x.1 + 1) * 58 - x.1 * 58 = 58 by omega]
    conv => whnf
    repeat ((first
      | (refine Ld.row hI.rxf (by decide) ?_)
      | (refine Ld.row hI.frm.row (by decide) ?_)
      | refine HS.t ?_|refine Br.t ?_|refine Br.f ?_|refine Pk.f ?_|refine Pk.t ?_|refine Pk.and ?_|refine Pk.or ?_|refine Ix.n ?_|refine Ix.of _ (by rfl) (by omega) ?_|refine Ix.i ?_|refine Ar.la ?_|refine Ar.lb ?_|refine Ar.lc ?_|refine Dv.q ?_|refine Dv.r ?_|refine Br.y ?_|refine Br.n ?_|refine Br.ny ?_|refine Br.nn ?_|refine Br.is (by assumption) ?_|refine Br.isnt (by assumption) ?_|refine Ld.of (by assumption) ?_|refine Ru.neq_nil0 ?_|refine Ru.n1 ?_|refine Ru.eql_nil0 ?_|refine Ru.e1 ?_|refine Ru.e2 ?_|refine Ru.e3 ?_|refine Ru.n2 ?_|refine Ru.n3 ?_|refine Ru.neq_nil rfl ?_|refine Ru.eql_nil rfl ?_|refine Ru.eql_err rfl (by decide) ?_|refine Ru.neq_err rfl (by decide) ?_|refine Ru.be ?_|refine Ru.bn ?_|refine RuQ.be ?_|refine RuQ.bn ?_|refine CW.s ?_); conv => whnf)
    refine Ca.of (enc_ok W c g h (e2 - x.1 * 58) (some ⟨qb, 0 + x.1 * 58, none⟩) (msg58 (layF D B) x.1) (fun j => hlay _) rx (by omega) (fun a e => by cases e; exact hqg) hI.frm.cod) ?_
    rintro v W1 ⟨f1, b1, e1', hb1, rfl, wd1⟩
    conv => whnf
    repeat ((first
      | (refine CWI.seq tt_ok (fok_round l) ?_)
      | refine HS.t ?_|refine Br.t ?_|refine Br.f ?_|refine Pk.f ?_|refine Pk.t ?_|refine Pk.and ?_|refine Pk.or ?_|refine Ix.n ?_|refine Ix.of _ (by rfl) (by omega) ?_|refine Ix.i ?_|refine Ar.la ?_|refine Ar.lb ?_|refine Ar.lc ?_|refine Dv.q ?_|refine Dv.r ?_|refine Br.y ?_|refine Br.n ?_|refine Br.ny ?_|refine Br.nn ?_|refine Br.is (by assumption) ?_|refine Br.isnt (by assumption) ?_|refine Ld.of (by assumption) ?_|refine Ru.neq_nil0 ?_|refine Ru.n1 ?_|refine Ru.eql_nil0 ?_|refine Ru.e1 ?_|refine Ru.e2 ?_|refine Ru.e3 ?_|refine Ru.n2 ?_|refine Ru.n3 ?_|refine Ru.neq_nil rfl ?_|refine Ru.eql_nil rfl ?_|refine Ru.eql_err rfl (by decide) ?_|refine Ru.neq_err rfl (by decide) ?_|refine Ru.be ?_|refine Ru.bn ?_|refine RuQ.be ?_|refine RuQ.bn ?_|refine CW.s ?_); conv => whnf)
    have xog : xo ≠ g := by omega
    refine Ld.row (ro.keep f1.kp (by simpa using xog)) (by decide) ?_
    conv => whnf
    repeat ((first
      | refine HS.t ?_|refine Br.t ?_|refine Br.f ?_|refine Pk.f ?_|refine Pk.t ?_|refine Pk.and ?_|refine Pk.or ?_|refine Ix.n ?_|refine Ix.of _ (by rfl) (by omega) ?_|refine Ix.i ?_|refine Ar.la ?_|refine Ar.lb ?_|refine Ar.lc ?_|refine Dv.q ?_|refine Dv.r ?_|refine Br.y ?_|refine Br.n ?_|refine Br.ny ?_|refine Br.nn ?_|refine Br.is (by assumption) ?_|refine Br.isnt (by assumption) ?_|refine Ld.of (by assumption) ?_|refine Ru.neq_nil0 ?_|refine Ru.n1 ?_|refine Ru.eql_nil0 ?_|refine Ru.e1 ?_|refine Ru.e2 ?_|refine Ru.e3 ?_|refine Ru.n2 ?_|refine Ru.n3 ?_|refine Ru.neq_nil rfl ?_|refine Ru.eql_nil rfl ?_|refine Ru.eql_err rfl (by decide) ?_|refine Ru.neq_err rfl (by decide) ?_|refine Ru.be ?_|refine Ru.bn ?_|refine RuQ.be ?_|refine RuQ.bn ?_|refine CW.s ?_); conv => whnf)
    refine Ru.of (build_ss _ _ _ _) ?_
    have ka : Keep [] W1 (W1.alloc (.cells #[.slice (some ⟨b1, 0, none⟩) 64 e1'] 22)) := (Keep.refl [] _).alloc _
    have rn := row1 W1 22 (.slice (some ⟨b1, 0, none⟩) 64 e1')
    generalize hW2 : W1.alloc (.cells #[.slice (some ⟨b1, 0, none⟩) 64 e1'] 22) = W2 at *
    have hOg : ∀ y, y ∈ blk O → y ∉ [g] := fun y hy e => by
      have := hO y hy
      rw [List.mem_singleton.1 e] at this
      omega
    have lo2 := (lo.keep f1.kp hOg).keep0 ka
    have hWs := f1.kp.size
    obtain ⟨i0, hi, hz0, hz1, hz2⟩ := info_parts ss_info
    conv => whnf
    repeat ((first
      | refine HS.t ?_|refine Br.t ?_|refine Br.f ?_|refine Pk.f ?_|refine Pk.t ?_|refine Pk.and ?_|refine Pk.or ?_|refine Ix.n ?_|refine Ix.of _ (by rfl) (by omega) ?_|refine Ix.i ?_|refine Ar.la ?_|refine Ar.lb ?_|refine Ar.lc ?_|refine Dv.q ?_|refine Dv.r ?_|refine Br.y ?_|refine Br.n ?_|refine Br.ny ?_|refine Br.nn ?_|refine Br.is (by assumption) ?_|refine Br.isnt (by assumption) ?_|refine Ld.of (by assumption) ?_|refine Ru.neq_nil0 ?_|refine Ru.n1 ?_|refine Ru.eql_nil0 ?_|refine Ru.e1 ?_|refine Ru.e2 ?_|refine Ru.e3 ?_|refine Ru.n2 ?_|refine Ru.n3 ?_|refine Ru.neq_nil rfl ?_|refine Ru.eql_nil rfl ?_|refine Ru.eql_err rfl (by decide) ?_|refine Ru.neq_err rfl (by decide) ?_|refine Ru.be ?_|refine Ru.bn ?_|refine RuQ.be ?_|refine RuQ.bn ?_|refine CW.s ?_); conv => whnf)
    refine Bu.append Try.underlying69 hi hz0 hz1 hz2 rfl (by omega) lo2 (B := some ⟨W1.heap.size, 0, none⟩) (m := 1) (d := 1) (fun _ => .slice (some ⟨b1, 0, none⟩) 64 e1') (by simpa using Rd.of_row rn (Nat.le_refl _)) (by omega) (fun e => by cases e) (fun j hj => rfl) (by simp only [maxLen]; omega) (by omega) ?_
    intro O' oc' W3 lo3 k3' hat hpre
    have ro3 : Row W3 xo 69 1 (fun _ => .slice O pre.length oc) := by
      refine Row.keep (Row.keep (ro.keep f1.kp (by simpa using xog)) ka (by simp)) k3' ?_
      exact Ly.row_ne lo2 (Row.keep (ro.keep f1.kp (by simpa using xog)) ka (by simp)) (by decide)
    conv => whnf
    repeat ((first
      | refine HS.t ?_|refine Br.t ?_|refine Br.f ?_|refine Pk.f ?_|refine Pk.t ?_|refine Pk.and ?_|refine Pk.or ?_|refine Ix.n ?_|refine Ix.of _ (by rfl) (by omega) ?_|refine Ix.i ?_|refine Ar.la ?_|refine Ar.lb ?_|refine Ar.lc ?_|refine Dv.q ?_|refine Dv.r ?_|refine Br.y ?_|refine Br.n ?_|refine Br.ny ?_|refine Br.nn ?_|refine Br.is (by assumption) ?_|refine Br.isnt (by assumption) ?_|refine Ld.of (by assumption) ?_|refine Ru.neq_nil0 ?_|refine Ru.n1 ?_|refine Ru.eql_nil0 ?_|refine Ru.e1 ?_|refine Ru.e2 ?_|refine Ru.e3 ?_|refine Ru.n2 ?_|refine Ru.n3 ?_|refine Ru.neq_nil rfl ?_|refine Ru.eql_nil rfl ?_|refine Ru.eql_err rfl (by decide) ?_|refine Ru.neq_err rfl (by decide) ?_|refine Ru.be ?_|refine Ru.bn ?_|refine RuQ.be ?_|refine RuQ.bn ?_|refine CW.s ?_); conv => whnf)
    refine Sd.rowAt ro3 0 (by omega) (by omega) rfl ?_
    intro W4 ro4 k4'
    conv => whnf
    repeat ((first
      | refine HS.t ?_|refine Br.t ?_|refine Br.f ?_|refine Pk.f ?_|refine Pk.t ?_|refine Pk.and ?_|refine Pk.or ?_|refine Ix.n ?_|refine Ix.of _ (by rfl) (by omega) ?_|refine Ix.i ?_|refine Ar.la ?_|refine Ar.lb ?_|refine Ar.lc ?_|refine Dv.q ?_|refine Dv.r ?_|refine Br.y ?_|refine Br.n ?_|refine Br.ny ?_|refine Br.nn ?_|refine Br.is (by assumption) ?_|refine Br.isnt (by assumption) ?_|refine Ld.of (by assumption) ?_|refine Ru.neq_nil0 ?_|refine Ru.n1 ?_|refine Ru.eql_nil0 ?_|refine Ru.e1 ?_|refine Ru.e2 ?_|refine Ru.e3 ?_|refine Ru.n2 ?_|refine Ru.n3 ?_|refine Ru.neq_nil rfl ?_|refine Ru.eql_nil rfl ?_|refine Ru.eql_err rfl (by decide) ?_|refine Ru.neq_err rfl (by decide) ?_|refine Ru.be ?_|refine Ru.bn ?_|refine RuQ.be ?_|refine RuQ.bn ?_|refine CW.s ?_); conv => whnf)
    have hsW := hI.sz
    have kW := f1.kp
    have hs2' := ka.size
    have hs3' := k3'.size
    have kall : Keep (g :: xo :: blk O) W W4 := (((kW.mono (by simp)).trans (ka.mono (by simp))).trans (k3'.mono (by intro x hx; simp [hx]))).trans (k4'.mono (by simp))
    have nS : ∀ y, y ≠ g → y ≠ xo → y < w8.heap.size → y ∉ g :: xo :: blk O := fun y h1 h2 h3 hm => by
      rcases List.mem_cons.1 hm with e | hm
      · exact h1 e
      · rcases List.mem_cons.1 hm with e | hm
        · exact h2 e
        · have := hO y hm
          omega
    have fcl := H.row.lt
    have ccl := H.cod.row.lt
    have hcl := H.cod.gen.lt
    have nO : ∀ y, y < w8.heap.size → y ∉ blk O := fun y h1 h2 => by have := hO y h2; omega
    have rq8 := rq.lt rfl
    simp only at rq8
    have frm4 : Frm W4 f c g h := ((((hI.frm.of f1).keep0 ka (by simp) (by simp) (by simp) (by simp)).keep0 k3' (nO f (by omega)) (nO c (by omega)) (nO g (by omega)) (nO h (by omega))).keep0 k4' (by simp; omega) (by simp; omega) (by simp; omega) (by simp; omega))
    refine ⟨?_, ⟨kall.cell (p := ⟨w7.heap.size, 0, none⟩) (by simp only; omega) (nS w7.heap.size (by omega) (by omega) (by omega)), kall.cell (p := ⟨w7.heap.size + 1, 0, none⟩) (by simp only; omega) (nS (w7.heap.size + 1) (by omega) (by omega) (by omega))⟩, ?_⟩
    · exact (keepsFrom_of _ kW (fun y hy => by rw [List.mem_singleton.1 hy]; exact FS.cells hI.fk.fs)).trans ((keepsFrom_of _ ka (by simp)).trans ((keepsFrom_of _ k3' (ly_cells lo2)).trans (keepsFrom_of _ k4' (fun y hy => by rw [List.mem_singleton.1 hy]; exact row_cells ro3))))
    · refine ⟨Nat.le_trans hsW kall.size, ⟨frm4.cod.fs, hI.fk.kp.then kall (fun y hy => ?_)⟩, frm4, hI.rxf.keep kall (nS xf (by omega) (by omega) (by omega)), hI.rxr.keep kall (nS xr (by omega) (by omega) (by omega)), hI.rxe.keep kall (nS xe (by omega) (by omega) (by omega)), hI.rq.keep kall (fun y hy => by rw [List.mem_singleton.1 hy]; exact nS qb hqg (by omega) (by omega)),
        O', oc', (fun i => if i < pre.length then bk i else b1), (fun i => if i < pre.length then ek i else e1'), ?_, ?_, ?_, ?_⟩
      · rcases List.mem_cons.1 hy with e | hy
        · exact .inl (by simp [e])
        · rcases List.mem_cons.1 hy with e | hy
          · exact .inr (by omega)
          · exact .inr (by have := hO y hy; omega)
      · rw [List.length_append]
        exact ro4.congr (fun i hi => by
          obtain rfl : i = 0 := by omega
          rfl)
      · rw [List.length_append]
        refine (lo3.keep k4' (fun y hy e => Ly.row_ne lo3 ro3 (by decide) (by rw [List.mem_singleton.1 e] at hy; exact hy))).congr (fun i hi => ?_)
        simp only [Nat.mul_one]
        by_cases hi2 : i < pre.length
        · simp only [if_pos hi2]
        · simp only [if_neg hi2]
      · intro y hy
        rcases hat with e | e
        · rw [e] at hy
          exact hO y hy
        · rw [e] at hy
          rw [List.mem_singleton.1 hy]
          simp only
          omega
      · intro i hi
        rw [List.length_append] at hi
        simp only [List.length_singleton] at hi
        by_cases hi2 : i < pre.length
        · simp only [if_pos hi2]
          obtain ⟨h1, h2⟩ := hw i hi2
          rw [List.getElem_append_left hi2]
          refine ⟨h1, h2.keepS kall (fun hm => ?_)⟩
          rcases List.mem_cons.1 hm with e | hm
          · omega
          · rcases List.mem_cons.1 hm with e | hm
            · exact Ly.row_ne h2 ro (by decide) (by rw [e]; exact List.mem_singleton.2 rfl)
            · exact Ly.type_ne h2 lo (by decide) (List.mem_singleton.2 rfl) hm
        · simp only [if_neg hi2]
          obtain rfl : i = pre.length := by omega
          have e : (pre ++ [x])[pre.length]'(by simp) = x := by simp
          rw [e]
          have rol := ro.lt
          refine ⟨by have := hI.fk.kp.size; omega, ((wd1.keepS ka (by simp)).keepS k3' (fun hm => ?_)).keepS k4' (by simp; omega)⟩
          have := Ly.blk_lt lo hm
          omega
  case done =>
    rintro Dn xs W hDn rfl hI hK
    obtain ⟨O, oc, bk, ek, ro, lo, hO, hw⟩ := hI.out
    rw [upto_length] at ro lo
    conv => whnf
    repeat ((first
      | refine HS.t ?_|refine Br.t ?_|refine Br.f ?_|refine Pk.f ?_|refine Pk.t ?_|refine Pk.and ?_|refine Pk.or ?_|refine Ix.n ?_|refine Ix.of _ (by rfl) (by omega) ?_|refine Ix.i ?_|refine Ar.la ?_|refine Ar.lb ?_|refine Ar.lc ?_|refine Dv.q ?_|refine Dv.r ?_|refine Br.y ?_|refine Br.n ?_|refine Br.ny ?_|refine Br.nn ?_|refine Br.is (by assumption) ?_|refine Br.isnt (by assumption) ?_|refine Ld.of (by assumption) ?_|refine Ru.neq_nil0 ?_|refine Ru.n1 ?_|refine Ru.eql_nil0 ?_|refine Ru.e1 ?_|refine Ru.e2 ?_|refine Ru.e3 ?_|refine Ru.n2 ?_|refine Ru.n3 ?_|refine Ru.neq_nil rfl ?_|refine Ru.eql_nil rfl ?_|refine Ru.eql_err rfl (by decide) ?_|refine Ru.neq_err rfl (by decide) ?_|refine Ru.be ?_|refine Ru.bn ?_|refine RuQ.be ?_|refine RuQ.bn ?_|refine CW.s ?_); conv => whnf)
    refine Ld.row ro (by decide) ?_
    conv => whnf
    repeat ((first
      | refine HS.t ?_|refine Br.t ?_|refine Br.f ?_|refine Pk.f ?_|refine Pk.t ?_|refine Pk.and ?_|refine Pk.or ?_|refine Ix.n ?_|refine Ix.of _ (by rfl) (by omega) ?_|refine Ix.i ?_|refine Ar.la ?_|refine Ar.lb ?_|refine Ar.lc ?_|refine Dv.q ?_|refine Dv.r ?_|refine Br.y ?_|refine Br.n ?_|refine Br.ny ?_|refine Br.nn ?_|refine Br.is (by assumption) ?_|refine Br.isnt (by assumption) ?_|refine Ld.of (by assumption) ?_|refine Ru.neq_nil0 ?_|refine Ru.n1 ?_|refine Ru.eql_nil0 ?_|refine Ru.e1 ?_|refine Ru.e2 ?_|refine Ru.e3 ?_|refine Ru.n2 ?_|refine Ru.n3 ?_|refine Ru.neq_nil rfl ?_|refine Ru.eql_nil rfl ?_|refine Ru.eql_err rfl (by decide) ?_|refine Ru.neq_err rfl (by decide) ?_|refine Ru.be ?_|refine Ru.bn ?_|refine RuQ.be ?_|refine RuQ.bn ?_|refine CW.s ?_); conv => whnf)
    refine Sd.rowAt hI.rxr 0 (by omega) (by omega) rfl ?_
    intro W1 rxr1 kA
    have rxe1 := hI.rxe.keep kA (by simp; omega)
    conv => whnf
    repeat ((first
      | refine HS.t ?_|refine Br.t ?_|refine Br.f ?_|refine Pk.f ?_|refine Pk.t ?_|refine Pk.and ?_|refine Pk.or ?_|refine Ix.n ?_|refine Ix.of _ (by rfl) (by omega) ?_|refine Ix.i ?_|refine Ar.la ?_|refine Ar.lb ?_|refine Ar.lc ?_|refine Dv.q ?_|refine Dv.r ?_|refine Br.y ?_|refine Br.n ?_|refine Br.ny ?_|refine Br.nn ?_|refine Br.is (by assumption) ?_|refine Br.isnt (by assumption) ?_|refine Ld.of (by assumption) ?_|refine Ru.neq_nil0 ?_|refine Ru.n1 ?_|refine Ru.eql_nil0 ?_|refine Ru.e1 ?_|refine Ru.e2 ?_|refine Ru.e3 ?_|refine Ru.n2 ?_|refine Ru.n3 ?_|refine Ru.neq_nil rfl ?_|refine Ru.eql_nil rfl ?_|refine Ru.eql_err rfl (by decide) ?_|refine Ru.neq_err rfl (by decide) ?_|refine Ru.be ?_|refine Ru.bn ?_|refine RuQ.be ?_|refine RuQ.bn ?_|refine CW.s ?_); conv => whnf)
    refine Sd.rowAt rxe1 0 (by omega) (by omega) rfl ?_
    intro W2 rxe2 kB
    have rxr2 := rxr1.keep kB (by simp; omega)
    have nD : NoCells W Dn := ⟨_, hK, rfl⟩
    have hDl := (Array.getElem?_eq_some_iff.1 hK).1
    have dxr := nD.ne hI.rxr
    have hD1 : W1.heap[Dn]? = some (.deferred (some [])) := (kA.block Dn hDl (by simpa using dxr.symm)).trans hK
    have nD1 : NoCells W1 Dn := ⟨_, hD1, rfl⟩
    have dxe := nD1.ne rxe1
    have hDW : W2.heap[Dn]? = some (.deferred (some [])) := (kB.block Dn (Array.getElem?_eq_some_iff.1 hD1).1 (by simpa using dxe.symm)).trans hD1
    have nD2 : NoCells W2 Dn := ⟨_, hDW, rfl⟩
    conv => whnf
    repeat ((first
      | refine HS.t ?_|refine Br.t ?_|refine Br.f ?_|refine Pk.f ?_|refine Pk.t ?_|refine Pk.and ?_|refine Pk.or ?_|refine Ix.n ?_|refine Ix.of _ (by rfl) (by omega) ?_|refine Ix.i ?_|refine Ar.la ?_|refine Ar.lb ?_|refine Ar.lc ?_|refine Dv.q ?_|refine Dv.r ?_|refine Br.y ?_|refine Br.n ?_|refine Br.ny ?_|refine Br.nn ?_|refine Br.is (by assumption) ?_|refine Br.isnt (by assumption) ?_|refine Ld.of (by assumption) ?_|refine Ru.neq_nil0 ?_|refine Ru.n1 ?_|refine Ru.eql_nil0 ?_|refine Ru.e1 ?_|refine Ru.e2 ?_|refine Ru.e3 ?_|refine Ru.n2 ?_|refine Ru.n3 ?_|refine Ru.neq_nil rfl ?_|refine Ru.eql_nil rfl ?_|refine Ru.eql_err rfl (by decide) ?_|refine Ru.neq_err rfl (by decide) ?_|refine Ru.be ?_|refine Ru.bn ?_|refine RuQ.be ?_|refine RuQ.bn ?_|refine CW.s ?_); conv => whnf)
    refine ⟨W2.putObj Dn (.deferred none), ⟨Dn, rfl, hDW, rfl⟩, ?_⟩
    have kD : Keep [Dn] W2 (W2.putObj Dn (.deferred none)) := keep_grown (grownBy_putObj' W2 Dn _)
    have rxr3 := rxr2.keep kD (by simpa using dxr)
    have rxe3 := rxe2.keep kD (by simpa using dxe)
    have hsW := hI.sz
    have fs := ((hI.fk.fs.keep kA (by simp; omega)).keep kB (by simp; omega)).keep kD (by simp; omega)
    have kp := ((hI.fk.kp.then kA (fun y hy => .inr (by rw [List.mem_singleton.1 hy]; omega))).then kB (fun y hy => .inr (by rw [List.mem_singleton.1 hy]; omega))).then kD (fun y hy => .inr (by rw [List.mem_singleton.1 hy]; omega))
    have lo3 := ((lo.keep kA (fun y hy e => by have := hO y hy; rw [List.mem_singleton.1 e] at this; omega)).keep kB (fun y hy e => by have := hO y hy; rw [List.mem_singleton.1 e] at this; omega))
    have lo4 := lo3.keep kD (nD2.nely lo3)
    have hw4 : ∀ k, k < 4 → w.heap.size ≤ bk k ∧ Wd (W2.putObj Dn (.deferred none)) (bk k) (ek k) (GF.encW (msg58 (layF D B) k)) := fun k hk => by
      obtain ⟨h1, h2⟩ := hw k (by rw [upto_length]; exact hk)
      rw [upto4 k hk] at h2
      have a1 := h2.keepS kA (fun e => Ly.row_ne h2 hI.rxr (by decide) (by rw [← List.mem_singleton.1 e]; exact List.mem_singleton.2 rfl))
      have a2 := a1.keepS kB (fun e => Ly.row_ne a1 rxe1 (by decide) (by rw [← List.mem_singleton.1 e]; exact List.mem_singleton.2 rfl))
      exact ⟨h1, Ly.keep a2 kD (nD2.nely a2)⟩
    generalize W2.putObj Dn (.deferred none) = W3 at *
    conv => whnf
    repeat ((first
      | refine HS.t ?_|refine Br.t ?_|refine Br.f ?_|refine Pk.f ?_|refine Pk.t ?_|refine Pk.and ?_|refine Pk.or ?_|refine Ix.n ?_|refine Ix.of _ (by rfl) (by omega) ?_|refine Ix.i ?_|refine Ar.la ?_|refine Ar.lb ?_|refine Ar.lc ?_|refine Dv.q ?_|refine Dv.r ?_|refine Br.y ?_|refine Br.n ?_|refine Br.ny ?_|refine Br.nn ?_|refine Br.is (by assumption) ?_|refine Br.isnt (by assumption) ?_|refine Ld.of (by assumption) ?_|refine Ru.neq_nil0 ?_|refine Ru.n1 ?_|refine Ru.eql_nil0 ?_|refine Ru.e1 ?_|refine Ru.e2 ?_|refine Ru.e3 ?_|refine Ru.n2 ?_|refine Ru.n3 ?_|refine Ru.neq_nil rfl ?_|refine Ru.eql_nil rfl ?_|refine Ru.eql_err rfl (by decide) ?_|refine Ru.neq_err rfl (by decide) ?_|refine Ru.be ?_|refine Ru.bn ?_|refine RuQ.be ?_|refine RuQ.bn ?_|refine CW.s ?_); conv => whnf)
    refine Ru.ldc (by decide +kernel) (rxr3.cell 0 (by omega)) ?_
    conv => whnf
    repeat ((first
      | refine HS.t ?_|refine Br.t ?_|refine Br.f ?_|refine Pk.f ?_|refine Pk.t ?_|refine Pk.and ?_|refine Pk.or ?_|refine Ix.n ?_|refine Ix.of _ (by rfl) (by omega) ?_|refine Ix.i ?_|refine Ar.la ?_|refine Ar.lb ?_|refine Ar.lc ?_|refine Dv.q ?_|refine Dv.r ?_|refine Br.y ?_|refine Br.n ?_|refine Br.ny ?_|refine Br.nn ?_|refine Br.is (by assumption) ?_|refine Br.isnt (by assumption) ?_|refine Ld.of (by assumption) ?_|refine Ru.neq_nil0 ?_|refine Ru.n1 ?_|refine Ru.eql_nil0 ?_|refine Ru.e1 ?_|refine Ru.e2 ?_|refine Ru.e3 ?_|refine Ru.n2 ?_|refine Ru.n3 ?_|refine Ru.neq_nil rfl ?_|refine Ru.eql_nil rfl ?_|refine Ru.eql_err rfl (by decide) ?_|refine Ru.neq_err rfl (by decide) ?_|refine Ru.be ?_|refine Ru.bn ?_|refine RuQ.be ?_|refine RuQ.bn ?_|refine CW.s ?_); conv => whnf)
    refine Ru.ldc (by decide +kernel) (rxe3.cell 0 (by omega)) ?_
    conv => whnf
    repeat ((first
      | refine HS.t ?_|refine Br.t ?_|refine Br.f ?_|refine Pk.f ?_|refine Pk.t ?_|refine Pk.and ?_|refine Pk.or ?_|refine Ix.n ?_|refine Ix.of _ (by rfl) (by omega) ?_|refine Ix.i ?_|refine Ar.la ?_|refine Ar.lb ?_|refine Ar.lc ?_|refine Dv.q ?_|refine Dv.r ?_|refine Br.y ?_|refine Br.n ?_|refine Br.ny ?_|refine Br.nn ?_|refine Br.is (by assumption) ?_|refine Br.isnt (by assumption) ?_|refine Ld.of (by assumption) ?_|refine Ru.neq_nil0 ?_|refine Ru.n1 ?_|refine Ru.eql_nil0 ?_|refine Ru.e1 ?_|refine Ru.e2 ?_|refine Ru.e3 ?_|refine Ru.n2 ?_|refine Ru.n3 ?_|refine Ru.neq_nil rfl ?_|refine Ru.eql_nil rfl ?_|refine Ru.eql_err rfl (by decide) ?_|refine Ru.neq_err rfl (by decide) ?_|refine Ru.be ?_|refine Ru.bn ?_|refine RuQ.be ?_|refine RuQ.bn ?_|refine CW.s ?_); conv => whnf)
    exact ⟨rfl, ⟨fs, kp⟩, O, oc, bk, ek, rfl, lo4, hw4⟩
end Go.Proofs.Ytkpaafjnjmmehaa
/- Layer 6: Data. -/
namespace Go.Proofs.Ytkpaafjnjmmehaa
open Go.RowKit
set_option linter.unusedVariables false
set_option maxRecDepth 20000
attribute [local irreducible] GF.pw GF.lg GF.mul GF.inv GF.xt
theorem new_b (w : World) : (Instr.alloc 22 true (.tuple #[])).run Try.prog w = .ok (.pointer (some ⟨w.heap.size, 0, none⟩)) (w.alloc (.cells #[.slice none 0 0] 22)) := by kernel_rfl
theorem new_i (w : World) : (Instr.alloc 3 true (.tuple #[])).run Try.prog w = .ok (.pointer (some ⟨w.heap.size, 0, none⟩)) (w.alloc (.cells #[.int .i64 0] 3)) := by kernel_rfl
/-- A codeword near W. -/
def Near (V W : Nat → Nat) : Prop := (∀ i, V i < 256) ∧ GF.IsCw V ∧ GF.dist V W ≤ 2
def Far (W : Nat → Nat) : Prop := ∀ C : Nat → Nat, (∀ i, C i < 256) → GF.IsCw C → 2 < GF.dist C W
/-- What Data answers. -/
def DataEnd (w : World) (g : Nat) (p : Nat → Nat) (v : Value) (w' : World) : Prop :=
  FK w g w' ∧ ((∃ (O : Option Addr) (oc : Nat) (V : Nat → Nat → Nat) (m : Int), (∀ k, k < 3 → Near (V k) (chk p k)) ∧ v = .tuple #[.slice O 174 oc, .int .i64 m, errOf 0] ∧ (∀ x, x ∈ blk O → w.heap.size ≤ x) ∧ Ly w' 5 1 O 174 oc (fun j => .int .u8 (V (j / 58) (j % 58) : Nat))) ∨
    (v = .tuple #[.slice none 0 0, .int .i64 0, errOf 5] ∧ ∃ k, k < 3 ∧ Far (chk p k)))
structure DataI (w : World) (N0 f c g h xf xr xn xe xo xm pb o d : Nat) (p : Nat → Nat) (pre : List (Fin 3)) (W : World) : Prop where
  sz : N0 ≤ W.heap.size
  fk : FK w g W
  frm : Frm W f c g h
  rxf : Row W xf 63 1 (fun _ => .pointer (some ⟨f, 0, none⟩))
  rxr : Row W xr 22 1 (fun _ => .slice none 0 0)
  rxn : Row W xn 3 1 (fun _ => .int .i64 0)
  rxe : Row W xe 32 1 (fun _ => .nilIface)
  rq : RdB W (some ⟨pb, o, none⟩) 192 p
  out : ∃ (O : Option Addr) (oc : Nat) (V : Nat → Nat → Nat) (m : Int), Row W xo 22 1 (fun _ => .slice O (pre.length * 58) oc) ∧ Ly W 5 1 O (pre.length * 58) oc (fun j => .int .u8 (V (j / 58) (j % 58) : Nat)) ∧ (∀ x, x ∈ blk O → N0 ≤ x) ∧ Row W xm 3 1 (fun _ => .int .i64 m) ∧ ∀ k (hk : k < pre.length), Near (V k) (chk p pre[k].1)
/-- A round has ended the call. -/
structure DataX (w : World) (N0 g xr xn xe : Nat) (p : Nat → Nat) (pre : List (Fin 3)) (W : World) : Prop where
  sz : N0 ≤ W.heap.size
  fk : FK w g W
  rxr : Row W xr 22 1 (fun _ => .slice none 0 0)
  rxn : Row W xn 3 1 (fun _ => .int .i64 0)
  rxe : Row W xe 32 1 (fun _ => errOf 5)
  far : ∃ k, k < 3 ∧ Far (chk p k)
/-- A region that draws its order, behind a range over a function. -/
theorem CWI.held {P : Program} {T : TT} {n m : Nat} (S : World → Prop) (D : List Nat) (p : Plan) {id : Nat} {l : List Oper} {f : Fr} {ds : List Deferred} {w : World} {Q : Exit → Fr → List Deferred → World → Prop} (hT : TT.ok P T = true) (hm : P.follows .mixedOrders = true) (hs : Region.noSelect l.toArray = true)
    (hp : planOk l.toArray D true p l.length (Array.replicate l.length false) = true) (hS : S (w.drewN 1)) (h : evP P T n S D l p f (w.drewN 1) fun f' w' => Q .normal f' ds w') : CWI Fence.wide m P n (.region id l.toArray true) Q f ds w := ⟨fun a ha => wpIn_wide.2 (by
  refine wp_region_any hm (wpAny_of_g (S := S) (D := D) _ _ _ _ ?_)
  have e : l.toArray.size = l.length := by simp
  rw [e]
  exact evP_sound (ops := l.toArray) hT hs (fun c a w hq => hq.1) p _ _ hp h ha (fun _ => hS) fun f' a' w' hk hf => ⟨trivial, f', ds, hf, hk⟩)⟩
theorem upto3 : ∀ k (hk : k < 3), ((upto 3 (by decide) 3)[k]'(by rw [upto_length]; exact hk)).1 = k := by decide
theorem own_nc {W : World} {row : Option Nat} {B x : Nat} (hr : ∀ r, row = some r → B ≤ r ∧ ∃ o : Obj, W.heap[r]? = some o ∧ o.isCells = false) (hx : ∀ o, W.heap[x]? = some o → o.isCells = true) : x ∉ row.toList := fun hm => by
  cases row with
  | none => cases hm
  | some r =>
    obtain rfl : x = r := by simpa using hm
    obtain ⟨_, o, h1, h2⟩ := hr _ rfl
    rw [hx o h1] at h2
    cases h2
theorem own_ge {W : World} {row : Option Nat} {B : Nat} (hr : ∀ r, row = some r → B ≤ r ∧ ∃ o : Obj, W.heap[r]? = some o ∧ o.isCells = false) : ∀ x, x ∈ row.toList → B ≤ x := fun x hx => by
  cases row with
  | none => cases hx
  | some r =>
    obtain rfl : x = r := by simpa using hx
    exact (hr _ rfl).1
theorem rd_cells {W : World} {b o n : Nat} {F : Nat → Value} (r : Rd W (some ⟨b, o, none⟩) n F) (hn : 0 < n) : ∀ q, W.heap[b]? = some q → q.isCells = true := fun q hq => by
  obtain ⟨b2, o2, e, hc⟩ := r hn
  cases e
  obtain ⟨q2, h1, h2⟩ := cells_of_cell (hc 0 hn)
  rw [hq] at h1
  cases h1
  exact h2
set_option maxHeartbeats 4000000 in
theorem data_ok (w : World) (f c g h d : Nat) (A : Option Addr) (p : Nat → Nat) (hp : ∀ j, p j < 256) (r : RdB w A 256 p) (hd : 256 ≤ d) (hA : ∀ a, A = some a → a.block ≠ g) (H : Frm w f c g h) :
    Spec Try.prog 30 #[.pointer (some ⟨f, 0, none⟩), .slice A 256 d] w (DataEnd w g p) := by
  obtain ⟨pb, o, rfl, hpc⟩ := r (by omega)
  have hpg : pb ≠ g := hA _ rfl
  have hpl : pb < w.heap.size := cell_lt (hpc 0 (by omega))
  refine spec_of_wpI (T := tt) 3 tt_ok Try.func30 rfl (by decide +kernel) Try.ntmps30 (by simp) ?_
  conv => whnf
  repeat ((first
    | refine HS.t ?_|refine Br.t ?_|refine Br.f ?_|refine Pk.f ?_|refine Pk.t ?_|refine Pk.and ?_|refine Pk.or ?_|refine Ix.n ?_|refine Ix.of _ (by rfl) (by omega) ?_|refine Ix.i ?_|refine Ar.la ?_|refine Ar.lb ?_|refine Ar.lc ?_|refine Dv.q ?_|refine Dv.r ?_|refine Br.y ?_|refine Br.n ?_|refine Br.ny ?_|refine Br.nn ?_|refine Br.is (by assumption) ?_|refine Br.isnt (by assumption) ?_|refine Ld.of (by assumption) ?_|refine Ru.neq_nil0 ?_|refine Ru.n1 ?_|refine Ru.eql_nil0 ?_|refine Ru.e1 ?_|refine Ru.e2 ?_|refine Ru.e3 ?_|refine Ru.n2 ?_|refine Ru.n3 ?_|refine Ru.neq_nil rfl ?_|refine Ru.eql_nil rfl ?_|refine Ru.eql_err rfl (by decide) ?_|refine Ru.neq_err rfl (by decide) ?_|refine Ru.be ?_|refine Ru.bn ?_|refine RuQ.be ?_|refine RuQ.bn ?_|refine CW.s ?_); conv => whnf)
  refine Ru.new1 (new_frm _ _) ?_
  intro xf w1 hxf hs1 rxf k1
  conv => whnf
  repeat ((first
    | refine HS.t ?_|refine Br.t ?_|refine Br.f ?_|refine Pk.f ?_|refine Pk.t ?_|refine Pk.and ?_|refine Pk.or ?_|refine Ix.n ?_|refine Ix.of _ (by rfl) (by omega) ?_|refine Ix.i ?_|refine Ar.la ?_|refine Ar.lb ?_|refine Ar.lc ?_|refine Dv.q ?_|refine Dv.r ?_|refine Br.y ?_|refine Br.n ?_|refine Br.ny ?_|refine Br.nn ?_|refine Br.is (by assumption) ?_|refine Br.isnt (by assumption) ?_|refine Ld.of (by assumption) ?_|refine Ru.neq_nil0 ?_|refine Ru.n1 ?_|refine Ru.eql_nil0 ?_|refine Ru.e1 ?_|refine Ru.e2 ?_|refine Ru.e3 ?_|refine Ru.n2 ?_|refine Ru.n3 ?_|refine Ru.neq_nil rfl ?_|refine Ru.eql_nil rfl ?_|refine Ru.eql_err rfl (by decide) ?_|refine Ru.neq_err rfl (by decide) ?_|refine Ru.be ?_|refine Ru.bn ?_|refine RuQ.be ?_|refine RuQ.bn ?_|refine CW.s ?_); conv => whnf)
  refine Ru.new1 (new_b _) ?_
  intro xr w2 hxr hs2 rxr k2
  conv => whnf
  repeat ((first
    | refine HS.t ?_|refine Br.t ?_|refine Br.f ?_|refine Pk.f ?_|refine Pk.t ?_|refine Pk.and ?_|refine Pk.or ?_|refine Ix.n ?_|refine Ix.of _ (by rfl) (by omega) ?_|refine Ix.i ?_|refine Ar.la ?_|refine Ar.lb ?_|refine Ar.lc ?_|refine Dv.q ?_|refine Dv.r ?_|refine Br.y ?_|refine Br.n ?_|refine Br.ny ?_|refine Br.nn ?_|refine Br.is (by assumption) ?_|refine Br.isnt (by assumption) ?_|refine Ld.of (by assumption) ?_|refine Ru.neq_nil0 ?_|refine Ru.n1 ?_|refine Ru.eql_nil0 ?_|refine Ru.e1 ?_|refine Ru.e2 ?_|refine Ru.e3 ?_|refine Ru.n2 ?_|refine Ru.n3 ?_|refine Ru.neq_nil rfl ?_|refine Ru.eql_nil rfl ?_|refine Ru.eql_err rfl (by decide) ?_|refine Ru.neq_err rfl (by decide) ?_|refine Ru.be ?_|refine Ru.bn ?_|refine RuQ.be ?_|refine RuQ.bn ?_|refine CW.s ?_); conv => whnf)
  refine Ru.new1 (new_i _) ?_
  intro xn w3 hxn hs3 rxn k3
  conv => whnf
  repeat ((first
    | refine HS.t ?_|refine Br.t ?_|refine Br.f ?_|refine Pk.f ?_|refine Pk.t ?_|refine Pk.and ?_|refine Pk.or ?_|refine Ix.n ?_|refine Ix.of _ (by rfl) (by omega) ?_|refine Ix.i ?_|refine Ar.la ?_|refine Ar.lb ?_|refine Ar.lc ?_|refine Dv.q ?_|refine Dv.r ?_|refine Br.y ?_|refine Br.n ?_|refine Br.ny ?_|refine Br.nn ?_|refine Br.is (by assumption) ?_|refine Br.isnt (by assumption) ?_|refine Ld.of (by assumption) ?_|refine Ru.neq_nil0 ?_|refine Ru.n1 ?_|refine Ru.eql_nil0 ?_|refine Ru.e1 ?_|refine Ru.e2 ?_|refine Ru.e3 ?_|refine Ru.n2 ?_|refine Ru.n3 ?_|refine Ru.neq_nil rfl ?_|refine Ru.eql_nil rfl ?_|refine Ru.eql_err rfl (by decide) ?_|refine Ru.neq_err rfl (by decide) ?_|refine Ru.be ?_|refine Ru.bn ?_|refine RuQ.be ?_|refine RuQ.bn ?_|refine CW.s ?_); conv => whnf)
  refine Ru.new1 (new_err _) ?_
  intro xe w4 hxe hs4 rxe k4
  conv => whnf
  repeat ((first
    | (refine CWI.seq tt_ok fok_wide ?_)
    | refine HS.t ?_|refine Br.t ?_|refine Br.f ?_|refine Pk.f ?_|refine Pk.t ?_|refine Pk.and ?_|refine Pk.or ?_|refine Ix.n ?_|refine Ix.of _ (by rfl) (by omega) ?_|refine Ix.i ?_|refine Ar.la ?_|refine Ar.lb ?_|refine Ar.lc ?_|refine Dv.q ?_|refine Dv.r ?_|refine Br.y ?_|refine Br.n ?_|refine Br.ny ?_|refine Br.nn ?_|refine Br.is (by assumption) ?_|refine Br.isnt (by assumption) ?_|refine Ld.of (by assumption) ?_|refine Ru.neq_nil0 ?_|refine Ru.n1 ?_|refine Ru.eql_nil0 ?_|refine Ru.e1 ?_|refine Ru.e2 ?_|refine Ru.e3 ?_|refine Ru.n2 ?_|refine Ru.n3 ?_|refine Ru.neq_nil rfl ?_|refine Ru.eql_nil rfl ?_|refine Ru.eql_err rfl (by decide) ?_|refine Ru.neq_err rfl (by decide) ?_|refine Ru.be ?_|refine Ru.bn ?_|refine RuQ.be ?_|refine RuQ.bn ?_|refine CW.s ?_); conv => whnf)
  refine Ru.new1 (new_b _) ?_
  intro xo w5 hxo hs5 rxo k5
  conv => whnf
  repeat ((first
    | refine HS.t ?_|refine Br.t ?_|refine Br.f ?_|refine Pk.f ?_|refine Pk.t ?_|refine Pk.and ?_|refine Pk.or ?_|refine Ix.n ?_|refine Ix.of _ (by rfl) (by omega) ?_|refine Ix.i ?_|refine Ar.la ?_|refine Ar.lb ?_|refine Ar.lc ?_|refine Dv.q ?_|refine Dv.r ?_|refine Br.y ?_|refine Br.n ?_|refine Br.ny ?_|refine Br.nn ?_|refine Br.is (by assumption) ?_|refine Br.isnt (by assumption) ?_|refine Ld.of (by assumption) ?_|refine Ru.neq_nil0 ?_|refine Ru.n1 ?_|refine Ru.eql_nil0 ?_|refine Ru.e1 ?_|refine Ru.e2 ?_|refine Ru.e3 ?_|refine Ru.n2 ?_|refine Ru.n3 ?_|refine Ru.neq_nil rfl ?_|refine Ru.eql_nil rfl ?_|refine Ru.eql_err rfl (by decide) ?_|refine Ru.neq_err rfl (by decide) ?_|refine Ru.be ?_|refine Ru.bn ?_|refine RuQ.be ?_|refine RuQ.bn ?_|refine CW.s ?_); conv => whnf)
  refine Ru.new1 (new_i _) ?_
  intro xm w6 hxm hs6 rxm k6
  conv => whnf
  repeat ((first
    | refine HS.t ?_|refine Br.t ?_|refine Br.f ?_|refine Pk.f ?_|refine Pk.t ?_|refine Pk.and ?_|refine Pk.or ?_|refine Ix.n ?_|refine Ix.of _ (by rfl) (by omega) ?_|refine Ix.i ?_|refine Ar.la ?_|refine Ar.lb ?_|refine Ar.lc ?_|refine Dv.q ?_|refine Dv.r ?_|refine Br.y ?_|refine Br.n ?_|refine Br.ny ?_|refine Br.nn ?_|refine Br.is (by assumption) ?_|refine Br.isnt (by assumption) ?_|refine Ld.of (by assumption) ?_|refine Ru.neq_nil0 ?_|refine Ru.n1 ?_|refine Ru.eql_nil0 ?_|refine Ru.e1 ?_|refine Ru.e2 ?_|refine Ru.e3 ?_|refine Ru.n2 ?_|refine Ru.n3 ?_|refine Ru.neq_nil rfl ?_|refine Ru.eql_nil rfl ?_|refine Ru.eql_err rfl (by decide) ?_|refine Ru.neq_err rfl (by decide) ?_|refine Ru.be ?_|refine Ru.bn ?_|refine RuQ.be ?_|refine RuQ.bn ?_|refine CW.s ?_); conv => whnf)
  refine Sd.rowAt rxm 0 (by omega) (by omega) rfl ?_
  intro w6b rxm2 k6b
  conv => whnf
  repeat ((first
    | (refine CWI.seq tt_ok fok_wide ?_)
    | (refine Ru.sl_h Try.underlying22 byte_sz (h := 192) (by omega) ?_)
    | refine HS.t ?_|refine Br.t ?_|refine Br.f ?_|refine Pk.f ?_|refine Pk.t ?_|refine Pk.and ?_|refine Pk.or ?_|refine Ix.n ?_|refine Ix.of _ (by rfl) (by omega) ?_|refine Ix.i ?_|refine Ar.la ?_|refine Ar.lb ?_|refine Ar.lc ?_|refine Dv.q ?_|refine Dv.r ?_|refine Br.y ?_|refine Br.n ?_|refine Br.ny ?_|refine Br.nn ?_|refine Br.is (by assumption) ?_|refine Br.isnt (by assumption) ?_|refine Ld.of (by assumption) ?_|refine Ru.neq_nil0 ?_|refine Ru.n1 ?_|refine Ru.eql_nil0 ?_|refine Ru.e1 ?_|refine Ru.e2 ?_|refine Ru.e3 ?_|refine Ru.n2 ?_|refine Ru.n3 ?_|refine Ru.neq_nil rfl ?_|refine Ru.eql_nil rfl ?_|refine Ru.eql_err rfl (by decide) ?_|refine Ru.neq_err rfl (by decide) ?_|refine Ru.be ?_|refine Ru.bn ?_|refine RuQ.be ?_|refine RuQ.bn ?_|refine CW.s ?_); conv => whnf)
  refine Ca.of (pieces_ok w6b _ _ _ _) ?_
  rintro _ w8 ⟨rfl, hw8⟩
  conv => whnf
  repeat ((first
    | refine HS.t ?_|refine Br.t ?_|refine Br.f ?_|refine Pk.f ?_|refine Pk.t ?_|refine Pk.and ?_|refine Pk.or ?_|refine Ix.n ?_|refine Ix.of _ (by rfl) (by omega) ?_|refine Ix.i ?_|refine Ar.la ?_|refine Ar.lb ?_|refine Ar.lc ?_|refine Dv.q ?_|refine Dv.r ?_|refine Br.y ?_|refine Br.n ?_|refine Br.ny ?_|refine Br.nn ?_|refine Br.is (by assumption) ?_|refine Br.isnt (by assumption) ?_|refine Ld.of (by assumption) ?_|refine Ru.neq_nil0 ?_|refine Ru.n1 ?_|refine Ru.eql_nil0 ?_|refine Ru.e1 ?_|refine Ru.e2 ?_|refine Ru.e3 ?_|refine Ru.n2 ?_|refine Ru.n3 ?_|refine Ru.neq_nil rfl ?_|refine Ru.eql_nil rfl ?_|refine Ru.eql_err rfl (by decide) ?_|refine Ru.neq_err rfl (by decide) ?_|refine Ru.be ?_|refine Ru.bn ?_|refine RuQ.be ?_|refine RuQ.bn ?_|refine CW.s ?_); conv => whnf)
  have k06 := ((((k1.trans k2).trans k3).trans k4).trans k5).trans k6
  have hs6b := k6b.size
  have hgl := H.cod.fs.lt
  have hfl := H.row.lt
  have hcl := H.cod.row.lt
  have hhl := H.cod.gen.lt
  have k0b : Keep [] w w6b := k06.then k6b (fun x hx => .inr (by rw [List.mem_singleton.1 hx]; omega))
  have hsz8 : w8.heap.size = w6b.heap.size + 2 := by rw [hw8]; simp
  have rb : Row w8 w6b.heap.size 22 1 (fun _ => .slice (some ⟨pb, o, none⟩) 192 d) := by
    rw [hw8]
    exact (row1 w6b _ _).keep ((Keep.refl [] _).alloc _) (by simp)
  have rs : Row w8 (w6b.heap.size + 1) 3 1 (fun _ => .int .i64 64) := by
    rw [hw8]
    have := row1 (w6b.alloc (.cells #[.slice (some ⟨pb, o, none⟩) 192 d] 22)) 3 (.int .i64 64)
    simpa using this
  have kb8 : Keep [] w6b w8 := by
    rw [hw8]
    exact ((Keep.refl [] _).alloc _).alloc _
  clear hw8
  have k08 := k0b.trans kb8
  have hin : DataI w w8.heap.size f c g h xf xr xn xe xo xm pb o d p [] w8 := by
    have H8 := H.keep0 k08 (by simp) (by simp) (by simp) (by simp)
    have k5b : Keep [xm] w5 w8 := ((k6.mono (by simp)).trans k6b).trans (kb8.mono (by simp))
    have k4b : Keep [xm] w4 w8 := (k5.mono (by simp)).trans k5b
    have k3b : Keep [xm] w3 w8 := (k4.mono (by simp)).trans k4b
    have k2b : Keep [xm] w2 w8 := (k3.mono (by simp)).trans k3b
    have k1b : Keep [xm] w1 w8 := (k2.mono (by simp)).trans k2b
    exact ⟨Nat.le_refl _, ⟨H8.cod.fs, k08.mono (by simp)⟩, H8, rxf.keep k1b (by simp; omega), rxr.keep k2b (by simp; omega), rxn.keep k3b (by simp; omega), rxe.keep k4b (by simp; omega), (Rd.mono_len r (by omega)).keep0 k08, none, 0, fun _ _ => 0, 0, rxo.keep k5b (by simp; omega), Ly.nil _ _ _ _, (fun x hx => by cases hx), (rxm2.keep kb8 (by simp)).congr (fun i hi => by
      obtain rfl : i = 0 := by omega
      rfl), fun i hi => absurd hi (by simp)⟩
  refine CWI.range (α := Fin 3) tt_ok (by omega) (gf := 54) (lb := #[.pointer (some ⟨w6b.heap.size + 1, 0, none⟩), .pointer (some ⟨w6b.heap.size, 0, none⟩)]) rfl (enters_of Try.func54 (by kernel_rfl) rfl)
    (pieces64_stops Fence.wide 2 trivial rfl (by omega) w6b.heap.size (w6b.heap.size + 1) pb o d (by omega) w8 (by omega) (by omega) (rb.cell 0 (by omega)) (rs.cell 0 (by omega)))
    (fun h k => KpP.trans h k) ?kb (fun x => rfl) (DataI w w8.heap.size f c g h xf xr xn xe xo xm pb o d p) (DataX w w8.heap.size g xr xn xe p) ?own ?ownx hin
    (fun a x => ((({ a with defers := [] } : Act).put (some 21) (.int .i64 (x.1 : Int))).put (some 22) (.slice (some ⟨pb, o + x.1 * 64, none⟩) ((x.1 + 1) * 64 - x.1 * 64) (d - x.1 * 64))).put (some 10) (.slice (some ⟨pb, o + x.1 * 64, none⟩) ((x.1 + 1) * 64 - x.1 * 64) (d - x.1 * 64)))
    (fun x => [(10, .slice (some ⟨pb, o + x.1 * 64, none⟩) ((x.1 + 1) * 64 - x.1 * 64) (d - x.1 * 64)), (2, .pointer (some ⟨xf, 0, none⟩)), (4, .pointer (some ⟨xr, 0, none⟩)), (5, .pointer (some ⟨xn, 0, none⟩)), (6, .pointer (some ⟨xe, 0, none⟩)), (7, .pointer (some ⟨xo, 0, none⟩)), (8, .pointer (some ⟨xm, 0, none⟩))])
    ?agr ?assign ?body ?done ?stop
  case kb =>
    intro W l o o' hl _ _ _
    have h1 : ∀ i, i < l → (W.putObj l o').cell? ⟨i, 0, none⟩ = W.cell? ⟨i, 0, none⟩ := fun i hi => World.cell?_of_block (w := W) (World.putObj_heap_other (by show _ ≠ _; first | exact Nat.ne_of_lt hi | exact Nat.ne_of_gt hi))
    exact ⟨h1 w6b.heap.size (by omega), h1 (w6b.heap.size + 1) (by omega)⟩
  case own =>
    intro pre W W' row hI hg hr
    have k := keep_grown hg
    have hB := own_ge hr
    obtain ⟨O, oc, V, m, ro, lo, hO, rm, hw⟩ := hI.out
    have hg' := own_nc hr (FS.cells hI.fk.fs)
    exact ⟨Nat.le_trans hI.sz k.size, ⟨hI.fk.fs.keep k hg', hI.fk.kp.then k (fun x hx => .inr (by have := hB x hx; omega))⟩, hI.frm.keep0 k (own_nc hr (row_cells hI.frm.row)) (own_nc hr (row_cells hI.frm.cod.row)) hg' (own_nc hr (row_cells hI.frm.cod.gen)), hI.rxf.keep k (own_nc hr (row_cells hI.rxf)), hI.rxr.keep k (own_nc hr (row_cells hI.rxr)), hI.rxn.keep k (own_nc hr (row_cells hI.rxn)), hI.rxe.keep k (own_nc hr (row_cells hI.rxe)), hI.rq.keep k (fun a e => by cases e; exact own_nc hr (rd_cells hI.rq (by omega))),
      O, oc, V, m, ro.keep k (own_nc hr (row_cells ro)), lo.keep k (fun x hx => own_nc hr (ly_cells lo x hx)), hO, rm.keep k (own_nc hr (row_cells rm)), hw⟩
  case ownx =>
    intro pre W W' row hI hg hr
    have k := keep_grown hg
    have hB := own_ge hr
    exact ⟨Nat.le_trans hI.sz k.size, ⟨hI.fk.fs.keep k (own_nc hr (FS.cells hI.fk.fs)), hI.fk.kp.then k (fun x hx => .inr (by have := hB x hx; omega))⟩, hI.rxr.keep k (own_nc hr (row_cells hI.rxr)), hI.rxn.keep k (own_nc hr (row_cells hI.rxn)), hI.rxe.keep k (own_nc hr (row_cells hI.rxe)), hI.far⟩
  case agr =>
    intro a x ha
    have h0 : Agr 44 _ { a with defers := [] } := ⟨ha.size, rfl, ha.get⟩
    refine ((((h0.put 21 (by decide) _).put 22 (by decide) _).put 10 (by decide) _)).forget (sub_get ?_)
    exact ⟨rfl, rfl, rfl, rfl, rfl, rfl, rfl, trivial⟩
  case assign =>
    intro a ha l x W K hK
    have hsz : 22 < a.tmps.size := by rw [ha.size]; decide
    have hfo : Array.foldl (fun (t : Array Value) (x : Tmp × Value) => match x with | (p, v) => t.setIfInBounds p v) a.tmps (#[21, 22].zip (enc64 pb o d x)) = (a.tmps.setIfInBounds 21 (.int .i64 (x.1 : Int))).setIfInBounds 22 (.slice (some ⟨pb, o + x.1 * 64, none⟩) ((x.1 + 1) * 64 - x.1 * 64) (d - x.1 * 64)) := by
      unfold enc64
      simp
    rw [hfo]
    refine wpIn_region_list ?_
    unfold wpListIn
    rw [if_pos (by rfl)]
    refine OpGo.wpIn (fok_round l) (go_of_run (v := .slice (some ⟨pb, o + x.1 * 64, none⟩) ((x.1 + 1) * 64 - x.1 * 64) (d - x.1 * 64)) (w' := W) (by simp) ?_ ?_)
    · have e : ((a.tmps.setIfInBounds 21 (.int .i64 (x.1 : Int))).setIfInBounds 22 (.slice (some ⟨pb, o + x.1 * 64, none⟩) ((x.1 + 1) * 64 - x.1 * 64) (d - x.1 * 64))).getD 22 undef = .slice (some ⟨pb, o + x.1 * 64, none⟩) ((x.1 + 1) * 64 - x.1 * 64) (d - x.1 * 64) := by
        rw [Array.getD_eq_getD_getElem?, Array.getElem?_setIfInBounds_self_of_lt (by simpa using hsz)]
        rfl
      exact congrArg (fun v => Result.ok (Next.value v) W) e
    · exact hK
  case body =>
    intro l pre x W hI hl
    obtain ⟨O, oc, V, m, ro, lo, hO, rm, hw⟩ := hI.out
    have hx3 := x.2
    have rx : RdB W (some ⟨pb, o + x.1 * 64, none⟩) 64 (chk p x.1) := fun _ => ⟨pb, o + x.1 * 64, rfl, fun j hj => by
      obtain ⟨b2, o2, e3, hc⟩ := hI.rq (by omega)
      cases e3
      have := hc (x.1 * 64 + j) (by omega)
      rw [← Nat.add_assoc] at this
      exact this⟩
    rw [show (x.1 + 1) * 64 - x.1 * 64 = 64 by omega]
    conv => whnf
    repeat ((first
      | (refine Ld.row hI.rxf (by decide) ?_)
      | (refine Ld.row hI.frm.row (by decide) ?_)
      | refine HS.t ?_|refine Br.t ?_|refine Br.f ?_|refine Pk.f ?_|refine Pk.t ?_|refine Pk.and ?_|refine Pk.or ?_|refine Ix.n ?_|refine Ix.of _ (by rfl) (by omega) ?_|refine Ix.i ?_|refine Ar.la ?_|refine Ar.lb ?_|refine Ar.lc ?_|refine Dv.q ?_|refine Dv.r ?_|refine Br.y ?_|refine Br.n ?_|refine Br.ny ?_|refine Br.nn ?_|refine Br.is (by assumption) ?_|refine Br.isnt (by assumption) ?_|refine Ld.of (by assumption) ?_|refine Ru.neq_nil0 ?_|refine Ru.n1 ?_|refine Ru.eql_nil0 ?_|refine Ru.e1 ?_|refine Ru.e2 ?_|refine Ru.e3 ?_|refine Ru.n2 ?_|refine Ru.n3 ?_|refine Ru.neq_nil rfl ?_|refine Ru.eql_nil rfl ?_|refine Ru.eql_err rfl (by decide) ?_|refine Ru.neq_err rfl (by decide) ?_|refine Ru.be ?_|refine Ru.bn ?_|refine RuQ.be ?_|refine RuQ.bn ?_|refine CW.s ?_); conv => whnf)
    refine Ca.of (dec_ok W c g h (d - x.1 * 64) (some ⟨pb, o + x.1 * 64, none⟩) (chk p x.1) (fun j => hp _) rx (by omega) (fun a e => by cases e; exact hpg) hI.frm.cod) ?_
    rintro v W1 ⟨f1, hv⟩
    rcases hv with ⟨b1, e1, Vn, hb1, hV, hcw, hdst, rfl, wd1⟩ | ⟨rfl, hbad⟩
    · conv => whnf
      repeat ((first
        | (refine CWI.seq tt_ok (fok_round l) ?_)
        | refine HS.t ?_|refine Br.t ?_|refine Br.f ?_|refine Pk.f ?_|refine Pk.t ?_|refine Pk.and ?_|refine Pk.or ?_|refine Ix.n ?_|refine Ix.of _ (by rfl) (by omega) ?_|refine Ix.i ?_|refine Ar.la ?_|refine Ar.lb ?_|refine Ar.lc ?_|refine Dv.q ?_|refine Dv.r ?_|refine Br.y ?_|refine Br.n ?_|refine Br.ny ?_|refine Br.nn ?_|refine Br.is (by assumption) ?_|refine Br.isnt (by assumption) ?_|refine Ld.of (by assumption) ?_|refine Ru.neq_nil0 ?_|refine Ru.n1 ?_|refine Ru.eql_nil0 ?_|refine Ru.e1 ?_|refine Ru.e2 ?_|refine Ru.e3 ?_|refine Ru.n2 ?_|refine Ru.n3 ?_|refine Ru.neq_nil rfl ?_|refine Ru.eql_nil rfl ?_|refine Ru.eql_err rfl (by decide) ?_|refine Ru.neq_err rfl (by decide) ?_|refine Ru.be ?_|refine Ru.bn ?_|refine RuQ.be ?_|refine RuQ.bn ?_|refine CW.s ?_); conv => whnf)
      have ro1 := ro.keep f1.kp (by simp; omega)
      have rm1 := rm.keep f1.kp (by simp; omega)
      have hOg : ∀ y, y ∈ blk O → y ∉ [g] := fun y hy e => by
        have := hO y hy
        rw [List.mem_singleton.1 e] at this
        omega
      have lo1 := lo.keep f1.kp hOg
      refine Ld.row ro1 (by decide) ?_
      obtain ⟨i0, hi, hz0, hz1, hz2⟩ := info_parts byte_info
      conv => whnf
      repeat ((first
        | refine HS.t ?_|refine Br.t ?_|refine Br.f ?_|refine Pk.f ?_|refine Pk.t ?_|refine Pk.and ?_|refine Pk.or ?_|refine Ix.n ?_|refine Ix.of _ (by rfl) (by omega) ?_|refine Ix.i ?_|refine Ar.la ?_|refine Ar.lb ?_|refine Ar.lc ?_|refine Dv.q ?_|refine Dv.r ?_|refine Br.y ?_|refine Br.n ?_|refine Br.ny ?_|refine Br.nn ?_|refine Br.is (by assumption) ?_|refine Br.isnt (by assumption) ?_|refine Ld.of (by assumption) ?_|refine Ru.neq_nil0 ?_|refine Ru.n1 ?_|refine Ru.eql_nil0 ?_|refine Ru.e1 ?_|refine Ru.e2 ?_|refine Ru.e3 ?_|refine Ru.n2 ?_|refine Ru.n3 ?_|refine Ru.neq_nil rfl ?_|refine Ru.eql_nil rfl ?_|refine Ru.eql_err rfl (by decide) ?_|refine Ru.neq_err rfl (by decide) ?_|refine Ru.be ?_|refine Ru.bn ?_|refine RuQ.be ?_|refine RuQ.bn ?_|refine CW.s ?_); conv => whnf)
      refine Bu.append Try.underlying22 hi hz0 hz1 hz2 rfl (by omega) lo1 (B := some ⟨b1, 0, none⟩) (m := 58) (d := 58) (fun j => .int .u8 (Vn j : Nat)) (by rw [Nat.mul_one]; exact Rd.mono_len wd1.rd1 (by omega)) (by omega) (fun e => by cases e) (fun j hj => rfl) (by simp only [maxLen]; omega) (by omega) ?_
      intro O' oc' W2 lo2 kA hat hpre
      have ro2 := ro1.keep kA (Ly.row_ne lo1 ro1 (by decide))
      have rm2 := rm1.keep kA (Ly.row_ne lo1 rm1 (by decide))
      conv => whnf
      repeat ((first
        | refine HS.t ?_|refine Br.t ?_|refine Br.f ?_|refine Pk.f ?_|refine Pk.t ?_|refine Pk.and ?_|refine Pk.or ?_|refine Ix.n ?_|refine Ix.of _ (by rfl) (by omega) ?_|refine Ix.i ?_|refine Ar.la ?_|refine Ar.lb ?_|refine Ar.lc ?_|refine Dv.q ?_|refine Dv.r ?_|refine Br.y ?_|refine Br.n ?_|refine Br.ny ?_|refine Br.nn ?_|refine Br.is (by assumption) ?_|refine Br.isnt (by assumption) ?_|refine Ld.of (by assumption) ?_|refine Ru.neq_nil0 ?_|refine Ru.n1 ?_|refine Ru.eql_nil0 ?_|refine Ru.e1 ?_|refine Ru.e2 ?_|refine Ru.e3 ?_|refine Ru.n2 ?_|refine Ru.n3 ?_|refine Ru.neq_nil rfl ?_|refine Ru.eql_nil rfl ?_|refine Ru.eql_err rfl (by decide) ?_|refine Ru.neq_err rfl (by decide) ?_|refine Ru.be ?_|refine Ru.bn ?_|refine RuQ.be ?_|refine RuQ.bn ?_|refine CW.s ?_); conv => whnf)
      refine Sd.rowAt ro2 0 (by omega) (by omega) rfl ?_
      intro W3 ro3 kB
      have rm3 := rm2.keep kB (by simp; omega)
      conv => whnf
      repeat ((first
        | refine HS.t ?_|refine Br.t ?_|refine Br.f ?_|refine Pk.f ?_|refine Pk.t ?_|refine Pk.and ?_|refine Pk.or ?_|refine Ix.n ?_|refine Ix.of _ (by rfl) (by omega) ?_|refine Ix.i ?_|refine Ar.la ?_|refine Ar.lb ?_|refine Ar.lc ?_|refine Dv.q ?_|refine Dv.r ?_|refine Br.y ?_|refine Br.n ?_|refine Br.ny ?_|refine Br.nn ?_|refine Br.is (by assumption) ?_|refine Br.isnt (by assumption) ?_|refine Ld.of (by assumption) ?_|refine Ru.neq_nil0 ?_|refine Ru.n1 ?_|refine Ru.eql_nil0 ?_|refine Ru.e1 ?_|refine Ru.e2 ?_|refine Ru.e3 ?_|refine Ru.n2 ?_|refine Ru.n3 ?_|refine Ru.neq_nil rfl ?_|refine Ru.eql_nil rfl ?_|refine Ru.eql_err rfl (by decide) ?_|refine Ru.neq_err rfl (by decide) ?_|refine Ru.be ?_|refine Ru.bn ?_|refine RuQ.be ?_|refine RuQ.bn ?_|refine CW.s ?_); conv => whnf)
      refine Ld.row rm3 (by decide) ?_
      conv => whnf
      repeat ((first
        | refine HS.t ?_|refine Br.t ?_|refine Br.f ?_|refine Pk.f ?_|refine Pk.t ?_|refine Pk.and ?_|refine Pk.or ?_|refine Ix.n ?_|refine Ix.of _ (by rfl) (by omega) ?_|refine Ix.i ?_|refine Ar.la ?_|refine Ar.lb ?_|refine Ar.lc ?_|refine Dv.q ?_|refine Dv.r ?_|refine Br.y ?_|refine Br.n ?_|refine Br.ny ?_|refine Br.nn ?_|refine Br.is (by assumption) ?_|refine Br.isnt (by assumption) ?_|refine Ld.of (by assumption) ?_|refine Ru.neq_nil0 ?_|refine Ru.n1 ?_|refine Ru.eql_nil0 ?_|refine Ru.e1 ?_|refine Ru.e2 ?_|refine Ru.e3 ?_|refine Ru.n2 ?_|refine Ru.n3 ?_|refine Ru.neq_nil rfl ?_|refine Ru.eql_nil rfl ?_|refine Ru.eql_err rfl (by decide) ?_|refine Ru.neq_err rfl (by decide) ?_|refine Ru.be ?_|refine Ru.bn ?_|refine RuQ.be ?_|refine RuQ.bn ?_|refine CW.s ?_); conv => whnf)
      refine Sd.rowAt rm3 0 (by omega) (by omega) rfl ?_
      intro W4 rm4 kC
      have ro4 := ro3.keep kC (by simp; omega)
      conv => whnf
      repeat ((first
        | refine HS.t ?_|refine Br.t ?_|refine Br.f ?_|refine Pk.f ?_|refine Pk.t ?_|refine Pk.and ?_|refine Pk.or ?_|refine Ix.n ?_|refine Ix.of _ (by rfl) (by omega) ?_|refine Ix.i ?_|refine Ar.la ?_|refine Ar.lb ?_|refine Ar.lc ?_|refine Dv.q ?_|refine Dv.r ?_|refine Br.y ?_|refine Br.n ?_|refine Br.ny ?_|refine Br.nn ?_|refine Br.is (by assumption) ?_|refine Br.isnt (by assumption) ?_|refine Ld.of (by assumption) ?_|refine Ru.neq_nil0 ?_|refine Ru.n1 ?_|refine Ru.eql_nil0 ?_|refine Ru.e1 ?_|refine Ru.e2 ?_|refine Ru.e3 ?_|refine Ru.n2 ?_|refine Ru.n3 ?_|refine Ru.neq_nil rfl ?_|refine Ru.eql_nil rfl ?_|refine Ru.eql_err rfl (by decide) ?_|refine Ru.neq_err rfl (by decide) ?_|refine Ru.be ?_|refine Ru.bn ?_|refine RuQ.be ?_|refine RuQ.bn ?_|refine CW.s ?_); conv => whnf)
      have hsW := hI.sz
      have z1 := f1.kp.size
      have z2 := kA.size
      have z3 := kB.size
      have z4 := kC.size
      have c0 : ∀ i : Nat, i < 1 → i = 0 := fun i hi => by omega
      have kall : Keep (g :: xo :: xm :: blk O) W W4 := (((f1.kp.mono (by simp)).trans (kA.mono (by intro x hx; simp [hx]))).trans (kB.mono (by simp))).trans (kC.mono (by simp))
      have nS : ∀ y, y ≠ g → y ≠ xo → y ≠ xm → y < w8.heap.size → y ∉ g :: xo :: xm :: blk O := fun y h1 h2 h3 h4 hm => by
        rcases List.mem_cons.1 hm with e | hm
        · exact h1 e
        · rcases List.mem_cons.1 hm with e | hm
          · exact h2 e
          · rcases List.mem_cons.1 hm with e | hm
            · exact h3 e
            · have := hO y hm
              omega
      have nO : ∀ y, y < w8.heap.size → y ∉ blk O := fun y h1 h2 => by have := hO y h2; omega
      have frm4 : Frm W4 f c g h := ((((hI.frm.of f1).keep0 kA (nO f (by omega)) (nO c (by omega)) (nO g (by omega)) (nO h (by omega))).keep0 kB (by simp; omega) (by simp; omega) (by simp; omega) (by simp; omega)).keep0 kC (by simp; omega) (by simp; omega) (by simp; omega) (by simp; omega))
      refine ⟨?_, ⟨kall.cell (p := ⟨w6b.heap.size, 0, none⟩) (by simp only; omega) (nS w6b.heap.size (by omega) (by omega) (by omega) (by omega)), kall.cell (p := ⟨w6b.heap.size + 1, 0, none⟩) (by simp only; omega) (nS (w6b.heap.size + 1) (by omega) (by omega) (by omega) (by omega))⟩, ?_⟩
      · exact (keepsFrom_of _ f1.kp (fun y hy => by rw [List.mem_singleton.1 hy]; exact FS.cells hI.fk.fs)).trans ((keepsFrom_of _ kA (ly_cells lo1)).trans ((keepsFrom_of _ kB (fun y hy => by rw [List.mem_singleton.1 hy]; exact row_cells ro2)).trans (keepsFrom_of _ kC (fun y hy => by rw [List.mem_singleton.1 hy]; exact row_cells rm3))))
      · refine ⟨by omega, ⟨frm4.cod.fs, hI.fk.kp.then kall (fun y hy => ?_)⟩, frm4, hI.rxf.keep kall (nS xf (by omega) (by omega) (by omega) (by omega)), hI.rxr.keep kall (nS xr (by omega) (by omega) (by omega) (by omega)), hI.rxn.keep kall (nS xn (by omega) (by omega) (by omega) (by omega)), hI.rxe.keep kall (nS xe (by omega) (by omega) (by omega) (by omega)), hI.rq.keep kall (fun a e => by cases e; exact nS pb hpg (by omega) (by omega) (by omega)),
          O', oc', (fun k => if k = pre.length then Vn else V k), _, ?_, ?_, ?_, rm4.congr (fun i hi => by rw [c0 i hi]; rfl), ?_⟩
        · rcases List.mem_cons.1 hy with e | hy
          · exact .inl (by simp [e])
          · rcases List.mem_cons.1 hy with e | hy
            · exact .inr (by omega)
            · rcases List.mem_cons.1 hy with e | hy
              · exact .inr (by omega)
              · exact .inr (by have := hO y hy; omega)
        · rw [List.length_append, show (pre.length + [x].length) * 58 = pre.length * 58 + 58 by simp; omega]
          exact ro4.congr (fun i hi => by rw [c0 i hi]; rfl)
        · rw [List.length_append, show (pre.length + [x].length) * 58 = pre.length * 58 + 58 by simp; omega]
          refine ((lo2.keep kB (fun y hy e => Ly.row_ne lo2 ro2 (by decide) (by rw [List.mem_singleton.1 e] at hy; exact hy))).keep kC (fun y hy e => Ly.row_ne lo2 rm2 (by decide) (by rw [List.mem_singleton.1 e] at hy; exact hy))).congr (fun i hi => ?_)
          simp only [Nat.mul_one] at hi ⊢
          by_cases hi2 : i < pre.length * 58
          · rw [if_pos hi2, if_neg (by omega)]
          · rw [if_neg hi2, if_pos (by omega), show i % 58 = i - pre.length * 58 by omega]
        · intro y hy
          rcases hat with e | e
          · rw [e] at hy
            exact hO y hy
          · rw [e] at hy
            rw [List.mem_singleton.1 hy]
            simp only
            omega
        · intro k hk
          rw [List.length_append] at hk
          simp only [List.length_singleton] at hk
          by_cases hk2 : k = pre.length
          · subst hk2
            have e : (pre ++ [x])[pre.length]'(by simp) = x := by simp
            rw [e]
            show Near (if pre.length = pre.length then Vn else V pre.length) _
            rw [if_pos rfl]
            exact ⟨hV, hcw, hdst⟩
          · show Near (if k = pre.length then Vn else V k) _
            rw [if_neg hk2, List.getElem_append_left (by omega)]
            exact hw k (by omega)
    · conv => whnf
      repeat ((first
        | (refine CWI.seq tt_ok (fok_round l) ?_)
        | refine HS.t ?_|refine Br.t ?_|refine Br.f ?_|refine Pk.f ?_|refine Pk.t ?_|refine Pk.and ?_|refine Pk.or ?_|refine Ix.n ?_|refine Ix.of _ (by rfl) (by omega) ?_|refine Ix.i ?_|refine Ar.la ?_|refine Ar.lb ?_|refine Ar.lc ?_|refine Dv.q ?_|refine Dv.r ?_|refine Br.y ?_|refine Br.n ?_|refine Br.ny ?_|refine Br.nn ?_|refine Br.is (by assumption) ?_|refine Br.isnt (by assumption) ?_|refine Ld.of (by assumption) ?_|refine Ru.neq_nil0 ?_|refine Ru.n1 ?_|refine Ru.eql_nil0 ?_|refine Ru.e1 ?_|refine Ru.e2 ?_|refine Ru.e3 ?_|refine Ru.n2 ?_|refine Ru.n3 ?_|refine Ru.neq_nil rfl ?_|refine Ru.eql_nil rfl ?_|refine Ru.eql_err rfl (by decide) ?_|refine Ru.neq_err rfl (by decide) ?_|refine Ru.be ?_|refine Ru.bn ?_|refine RuQ.be ?_|refine RuQ.bn ?_|refine CW.s ?_); conv => whnf)
      have r1 := hI.rxr.keep f1.kp (by simp; omega)
      have n1 := hI.rxn.keep f1.kp (by simp; omega)
      have e1 := hI.rxe.keep f1.kp (by simp; omega)
      refine Sd.rowAt r1 0 (by omega) (by omega) rfl ?_
      intro W2 r2 kA
      have n2 := n1.keep kA (by simp; omega)
      have e2 := e1.keep kA (by simp; omega)
      conv => whnf
      repeat ((first
        | refine HS.t ?_|refine Br.t ?_|refine Br.f ?_|refine Pk.f ?_|refine Pk.t ?_|refine Pk.and ?_|refine Pk.or ?_|refine Ix.n ?_|refine Ix.of _ (by rfl) (by omega) ?_|refine Ix.i ?_|refine Ar.la ?_|refine Ar.lb ?_|refine Ar.lc ?_|refine Dv.q ?_|refine Dv.r ?_|refine Br.y ?_|refine Br.n ?_|refine Br.ny ?_|refine Br.nn ?_|refine Br.is (by assumption) ?_|refine Br.isnt (by assumption) ?_|refine Ld.of (by assumption) ?_|refine Ru.neq_nil0 ?_|refine Ru.n1 ?_|refine Ru.eql_nil0 ?_|refine Ru.e1 ?_|refine Ru.e2 ?_|refine Ru.e3 ?_|refine Ru.n2 ?_|refine Ru.n3 ?_|refine Ru.neq_nil rfl ?_|refine Ru.eql_nil rfl ?_|refine Ru.eql_err rfl (by decide) ?_|refine Ru.neq_err rfl (by decide) ?_|refine Ru.be ?_|refine Ru.bn ?_|refine RuQ.be ?_|refine RuQ.bn ?_|refine CW.s ?_); conv => whnf)
      refine Sd.rowAt n2 0 (by omega) (by omega) rfl ?_
      intro W3 n3 kB
      have r3 := r2.keep kB (by simp; omega)
      have e3 := e2.keep kB (by simp; omega)
      conv => whnf
      repeat ((first
        | refine HS.t ?_|refine Br.t ?_|refine Br.f ?_|refine Pk.f ?_|refine Pk.t ?_|refine Pk.and ?_|refine Pk.or ?_|refine Ix.n ?_|refine Ix.of _ (by rfl) (by omega) ?_|refine Ix.i ?_|refine Ar.la ?_|refine Ar.lb ?_|refine Ar.lc ?_|refine Dv.q ?_|refine Dv.r ?_|refine Br.y ?_|refine Br.n ?_|refine Br.ny ?_|refine Br.nn ?_|refine Br.is (by assumption) ?_|refine Br.isnt (by assumption) ?_|refine Ld.of (by assumption) ?_|refine Ru.neq_nil0 ?_|refine Ru.n1 ?_|refine Ru.eql_nil0 ?_|refine Ru.e1 ?_|refine Ru.e2 ?_|refine Ru.e3 ?_|refine Ru.n2 ?_|refine Ru.n3 ?_|refine Ru.neq_nil rfl ?_|refine Ru.eql_nil rfl ?_|refine Ru.eql_err rfl (by decide) ?_|refine Ru.neq_err rfl (by decide) ?_|refine Ru.be ?_|refine Ru.bn ?_|refine RuQ.be ?_|refine RuQ.bn ?_|refine CW.s ?_); conv => whnf)
      refine Sd.rowAt e3 0 (by omega) (by omega) rfl ?_
      intro W4 e4 kC
      have r4 := r3.keep kC (by simp; omega)
      have n4 := n3.keep kC (by simp; omega)
      conv => whnf
      repeat ((first
        | refine HS.t ?_|refine Br.t ?_|refine Br.f ?_|refine Pk.f ?_|refine Pk.t ?_|refine Pk.and ?_|refine Pk.or ?_|refine Ix.n ?_|refine Ix.of _ (by rfl) (by omega) ?_|refine Ix.i ?_|refine Ar.la ?_|refine Ar.lb ?_|refine Ar.lc ?_|refine Dv.q ?_|refine Dv.r ?_|refine Br.y ?_|refine Br.n ?_|refine Br.ny ?_|refine Br.nn ?_|refine Br.is (by assumption) ?_|refine Br.isnt (by assumption) ?_|refine Ld.of (by assumption) ?_|refine Ru.neq_nil0 ?_|refine Ru.n1 ?_|refine Ru.eql_nil0 ?_|refine Ru.e1 ?_|refine Ru.e2 ?_|refine Ru.e3 ?_|refine Ru.n2 ?_|refine Ru.n3 ?_|refine Ru.neq_nil rfl ?_|refine Ru.eql_nil rfl ?_|refine Ru.eql_err rfl (by decide) ?_|refine Ru.neq_err rfl (by decide) ?_|refine Ru.be ?_|refine Ru.bn ?_|refine RuQ.be ?_|refine RuQ.bn ?_|refine CW.s ?_); conv => whnf)
      have c0 : ∀ i : Nat, i < 1 → i = 0 := fun i hi => by omega
      have hsz := hI.sz
      have z1 := f1.kp.size
      have z2 := kA.size
      have z3 := kB.size
      have z4 := kC.size
      refine ⟨(keepsFrom_of _ f1.kp (fun y hy => by rw [List.mem_singleton.1 hy]; exact FS.cells hI.fk.fs)).trans ((keepsFrom_of _ kA (fun y hy => by rw [List.mem_singleton.1 hy]; exact row_cells r1)).trans ((keepsFrom_of _ kB (fun y hy => by rw [List.mem_singleton.1 hy]; exact row_cells n2)).trans (keepsFrom_of _ kC (fun y hy => by rw [List.mem_singleton.1 hy]; exact row_cells e3)))), by omega, ⟨((f1.fs.keep kA (by simp; omega)).keep kB (by simp; omega)).keep kC (by simp; omega), (((hI.fk.kp.trans f1.kp).then kA (fun y hy => .inr (by rw [List.mem_singleton.1 hy]; omega))).then kB (fun y hy => .inr (by rw [List.mem_singleton.1 hy]; omega))).then kC (fun y hy => .inr (by rw [List.mem_singleton.1 hy]; omega))⟩, r4.congr (fun i hi => by rw [c0 i hi]; rfl), n4.congr (fun i hi => by rw [c0 i hi]; rfl), e4.congr (fun i hi => by rw [c0 i hi]; rfl), x.1, hx3, hbad⟩
  case done =>
    rintro Dn xs W hDn rfl hI hK
    obtain ⟨O, oc, V, m, ro, lo, hO, rm, hw⟩ := hI.out
    rw [upto_length] at ro lo
    conv => whnf
    repeat ((first
      | refine HS.t ?_|refine Br.t ?_|refine Br.f ?_|refine Pk.f ?_|refine Pk.t ?_|refine Pk.and ?_|refine Pk.or ?_|refine Ix.n ?_|refine Ix.of _ (by rfl) (by omega) ?_|refine Ix.i ?_|refine Ar.la ?_|refine Ar.lb ?_|refine Ar.lc ?_|refine Dv.q ?_|refine Dv.r ?_|refine Br.y ?_|refine Br.n ?_|refine Br.ny ?_|refine Br.nn ?_|refine Br.is (by assumption) ?_|refine Br.isnt (by assumption) ?_|refine Ld.of (by assumption) ?_|refine Ru.neq_nil0 ?_|refine Ru.n1 ?_|refine Ru.eql_nil0 ?_|refine Ru.e1 ?_|refine Ru.e2 ?_|refine Ru.e3 ?_|refine Ru.n2 ?_|refine Ru.n3 ?_|refine Ru.neq_nil rfl ?_|refine Ru.eql_nil rfl ?_|refine Ru.eql_err rfl (by decide) ?_|refine Ru.neq_err rfl (by decide) ?_|refine Ru.be ?_|refine Ru.bn ?_|refine RuQ.be ?_|refine RuQ.bn ?_|refine CW.s ?_); conv => whnf)
    refine CWI.held (fun w' => Row w' xo 22 1 (fun _ => .slice O (3 * 58) oc) ∧ Row w' xm 3 1 (fun _ => .int .i64 m)) [4] (.take 0 (.take 1 (.one 2 (.one 3 (.one 4 .done))))) tt_ok (by kernel_rfl) (by kernel_rfl) (by kernel_rfl) ⟨ro.drewN 1, rm.drewN 1⟩ ?_
    have k0 : Keep [] W (W.drewN 1) := (Keep.refl _ _).drewN 1
    have hK' : (W.drewN 1).heap[Dn]? = some (.deferred (some [])) := hK
    have fk' : FK w g (W.drewN 1) := ⟨hI.fk.fs.drewN 1, hI.fk.kp.drewN 1⟩
    have ro' := ro.drewN 1
    have rm' := rm.drewN 1
    have rr' := hI.rxr.drewN 1
    have rn' := hI.rxn.drewN 1
    have re' := hI.rxe.drewN 1
    have lo' := lo.keep0 k0
    have hsW := hI.sz
    generalize W.drewN 1 = Wa at *
    conv => whnf
    repeat ((first
      | (refine LdQ.row (fun _ h => h.1) (by decide) ?_)
      | (refine LdQ.row (fun _ h => h.2) (by decide) ?_)
      | refine HS.t ?_|refine Br.t ?_|refine Br.f ?_|refine Pk.f ?_|refine Pk.t ?_|refine Pk.and ?_|refine Pk.or ?_|refine Ix.n ?_|refine Ix.of _ (by rfl) (by omega) ?_|refine Ix.i ?_|refine Ar.la ?_|refine Ar.lb ?_|refine Ar.lc ?_|refine Dv.q ?_|refine Dv.r ?_|refine Br.y ?_|refine Br.n ?_|refine Br.ny ?_|refine Br.nn ?_|refine Br.is (by assumption) ?_|refine Br.isnt (by assumption) ?_|refine Ld.of (by assumption) ?_|refine Ru.neq_nil0 ?_|refine Ru.n1 ?_|refine Ru.eql_nil0 ?_|refine Ru.e1 ?_|refine Ru.e2 ?_|refine Ru.e3 ?_|refine Ru.n2 ?_|refine Ru.n3 ?_|refine Ru.neq_nil rfl ?_|refine Ru.eql_nil rfl ?_|refine Ru.eql_err rfl (by decide) ?_|refine Ru.neq_err rfl (by decide) ?_|refine Ru.be ?_|refine Ru.bn ?_|refine RuQ.be ?_|refine RuQ.bn ?_|refine CW.s ?_); conv => whnf)
    refine Sd.rowAt rr' 0 (by omega) (by omega) rfl ?_
    intro W1 r1 kA
    have ro1 := ro'.keep kA (by simp; omega)
    have rm1 := rm'.keep kA (by simp; omega)
    have n1 := rn'.keep kA (by simp; omega)
    have e1 := re'.keep kA (by simp; omega)
    conv => whnf
    repeat ((first
      | refine HS.t ?_|refine Br.t ?_|refine Br.f ?_|refine Pk.f ?_|refine Pk.t ?_|refine Pk.and ?_|refine Pk.or ?_|refine Ix.n ?_|refine Ix.of _ (by rfl) (by omega) ?_|refine Ix.i ?_|refine Ar.la ?_|refine Ar.lb ?_|refine Ar.lc ?_|refine Dv.q ?_|refine Dv.r ?_|refine Br.y ?_|refine Br.n ?_|refine Br.ny ?_|refine Br.nn ?_|refine Br.is (by assumption) ?_|refine Br.isnt (by assumption) ?_|refine Ld.of (by assumption) ?_|refine Ru.neq_nil0 ?_|refine Ru.n1 ?_|refine Ru.eql_nil0 ?_|refine Ru.e1 ?_|refine Ru.e2 ?_|refine Ru.e3 ?_|refine Ru.n2 ?_|refine Ru.n3 ?_|refine Ru.neq_nil rfl ?_|refine Ru.eql_nil rfl ?_|refine Ru.eql_err rfl (by decide) ?_|refine Ru.neq_err rfl (by decide) ?_|refine Ru.be ?_|refine Ru.bn ?_|refine RuQ.be ?_|refine RuQ.bn ?_|refine CW.s ?_); conv => whnf)
    refine ⟨⟨ro1, rm1⟩, ?_⟩
    conv => whnf
    repeat ((first
      | refine HS.t ?_|refine Br.t ?_|refine Br.f ?_|refine Pk.f ?_|refine Pk.t ?_|refine Pk.and ?_|refine Pk.or ?_|refine Ix.n ?_|refine Ix.of _ (by rfl) (by omega) ?_|refine Ix.i ?_|refine Ar.la ?_|refine Ar.lb ?_|refine Ar.lc ?_|refine Dv.q ?_|refine Dv.r ?_|refine Br.y ?_|refine Br.n ?_|refine Br.ny ?_|refine Br.nn ?_|refine Br.is (by assumption) ?_|refine Br.isnt (by assumption) ?_|refine Ld.of (by assumption) ?_|refine Ru.neq_nil0 ?_|refine Ru.n1 ?_|refine Ru.eql_nil0 ?_|refine Ru.e1 ?_|refine Ru.e2 ?_|refine Ru.e3 ?_|refine Ru.n2 ?_|refine Ru.n3 ?_|refine Ru.neq_nil rfl ?_|refine Ru.eql_nil rfl ?_|refine Ru.eql_err rfl (by decide) ?_|refine Ru.neq_err rfl (by decide) ?_|refine Ru.be ?_|refine Ru.bn ?_|refine RuQ.be ?_|refine RuQ.bn ?_|refine CW.s ?_); conv => whnf)
    refine Sd.rowAt n1 0 (by omega) (by omega) rfl ?_
    intro W2 n2 kB
    have ro2 := ro1.keep kB (by simp; omega)
    have rm2 := rm1.keep kB (by simp; omega)
    have r2 := r1.keep kB (by simp; omega)
    have e2 := e1.keep kB (by simp; omega)
    conv => whnf
    repeat ((first
      | refine HS.t ?_|refine Br.t ?_|refine Br.f ?_|refine Pk.f ?_|refine Pk.t ?_|refine Pk.and ?_|refine Pk.or ?_|refine Ix.n ?_|refine Ix.of _ (by rfl) (by omega) ?_|refine Ix.i ?_|refine Ar.la ?_|refine Ar.lb ?_|refine Ar.lc ?_|refine Dv.q ?_|refine Dv.r ?_|refine Br.y ?_|refine Br.n ?_|refine Br.ny ?_|refine Br.nn ?_|refine Br.is (by assumption) ?_|refine Br.isnt (by assumption) ?_|refine Ld.of (by assumption) ?_|refine Ru.neq_nil0 ?_|refine Ru.n1 ?_|refine Ru.eql_nil0 ?_|refine Ru.e1 ?_|refine Ru.e2 ?_|refine Ru.e3 ?_|refine Ru.n2 ?_|refine Ru.n3 ?_|refine Ru.neq_nil rfl ?_|refine Ru.eql_nil rfl ?_|refine Ru.eql_err rfl (by decide) ?_|refine Ru.neq_err rfl (by decide) ?_|refine Ru.be ?_|refine Ru.bn ?_|refine RuQ.be ?_|refine RuQ.bn ?_|refine CW.s ?_); conv => whnf)
    refine ⟨⟨ro2, rm2⟩, ?_⟩
    conv => whnf
    repeat ((first
      | refine HS.t ?_|refine Br.t ?_|refine Br.f ?_|refine Pk.f ?_|refine Pk.t ?_|refine Pk.and ?_|refine Pk.or ?_|refine Ix.n ?_|refine Ix.of _ (by rfl) (by omega) ?_|refine Ix.i ?_|refine Ar.la ?_|refine Ar.lb ?_|refine Ar.lc ?_|refine Dv.q ?_|refine Dv.r ?_|refine Br.y ?_|refine Br.n ?_|refine Br.ny ?_|refine Br.nn ?_|refine Br.is (by assumption) ?_|refine Br.isnt (by assumption) ?_|refine Ld.of (by assumption) ?_|refine Ru.neq_nil0 ?_|refine Ru.n1 ?_|refine Ru.eql_nil0 ?_|refine Ru.e1 ?_|refine Ru.e2 ?_|refine Ru.e3 ?_|refine Ru.n2 ?_|refine Ru.n3 ?_|refine Ru.neq_nil rfl ?_|refine Ru.eql_nil rfl ?_|refine Ru.eql_err rfl (by decide) ?_|refine Ru.neq_err rfl (by decide) ?_|refine Ru.be ?_|refine Ru.bn ?_|refine RuQ.be ?_|refine RuQ.bn ?_|refine CW.s ?_); conv => whnf)
    refine Sd.rowAt e2 0 (by omega) (by omega) rfl ?_
    intro W3 e3 kC
    have r3 := r2.keep kC (by simp; omega)
    have n3 := n2.keep kC (by simp; omega)
    conv => whnf
    repeat ((first
      | refine HS.t ?_|refine Br.t ?_|refine Br.f ?_|refine Pk.f ?_|refine Pk.t ?_|refine Pk.and ?_|refine Pk.or ?_|refine Ix.n ?_|refine Ix.of _ (by rfl) (by omega) ?_|refine Ix.i ?_|refine Ar.la ?_|refine Ar.lb ?_|refine Ar.lc ?_|refine Dv.q ?_|refine Dv.r ?_|refine Br.y ?_|refine Br.n ?_|refine Br.ny ?_|refine Br.nn ?_|refine Br.is (by assumption) ?_|refine Br.isnt (by assumption) ?_|refine Ld.of (by assumption) ?_|refine Ru.neq_nil0 ?_|refine Ru.n1 ?_|refine Ru.eql_nil0 ?_|refine Ru.e1 ?_|refine Ru.e2 ?_|refine Ru.e3 ?_|refine Ru.n2 ?_|refine Ru.n3 ?_|refine Ru.neq_nil rfl ?_|refine Ru.eql_nil rfl ?_|refine Ru.eql_err rfl (by decide) ?_|refine Ru.neq_err rfl (by decide) ?_|refine Ru.be ?_|refine Ru.bn ?_|refine RuQ.be ?_|refine RuQ.bn ?_|refine CW.s ?_); conv => whnf)
    have nD0 : NoCells Wa Dn := ⟨_, hK', rfl⟩
    have d1 := nD0.ne rr'
    have hK1 : W1.heap[Dn]? = some (.deferred (some [])) := (kA.block Dn (Array.getElem?_eq_some_iff.1 hK').1 (by simpa using d1.symm)).trans hK'
    have nD1 : NoCells W1 Dn := ⟨_, hK1, rfl⟩
    have d2 := nD1.ne n1
    have hK2 : W2.heap[Dn]? = some (.deferred (some [])) := (kB.block Dn (Array.getElem?_eq_some_iff.1 hK1).1 (by simpa using d2.symm)).trans hK1
    have nD2 : NoCells W2 Dn := ⟨_, hK2, rfl⟩
    have d3 := nD2.ne e2
    have hK3 : W3.heap[Dn]? = some (.deferred (some [])) := (kC.block Dn (Array.getElem?_eq_some_iff.1 hK2).1 (by simpa using d3.symm)).trans hK2
    have nD3 : NoCells W3 Dn := ⟨_, hK3, rfl⟩
    have kD : Keep [Dn] W3 (W3.putObj Dn (.deferred none)) := keep_grown (grownBy_putObj' W3 Dn _)
    refine ⟨W3.putObj Dn (.deferred none), ⟨Dn, rfl, hK3, rfl⟩, ?_⟩
    have r4 := r3.keep kD (by simpa using d1)
    have n4 := n3.keep kD (by simpa using d2)
    have e4 := e3.keep kD (by simpa using d3)
    have fs := (((fk'.fs.keep kA (by simp; omega)).keep kB (by simp; omega)).keep kC (by simp; omega)).keep kD (by simp; omega)
    have kp := (((fk'.kp.then kA (fun y hy => .inr (by rw [List.mem_singleton.1 hy]; omega))).then kB (fun y hy => .inr (by rw [List.mem_singleton.1 hy]; omega))).then kC (fun y hy => .inr (by rw [List.mem_singleton.1 hy]; omega))).then kD (fun y hy => .inr (by rw [List.mem_singleton.1 hy]; omega))
    have hOx : ∀ z, z < w8.heap.size → ∀ y, y ∈ blk O → y ∉ [z] := fun z hz y hy e => by
      have := hO y hy
      rw [List.mem_singleton.1 e] at this
      omega
    have lo3 := ((lo'.keep kA (hOx _ (by omega))).keep kB (hOx _ (by omega))).keep kC (hOx _ (by omega))
    have lo4 := lo3.keep kD (nD3.nely lo3)
    generalize W3.putObj Dn (.deferred none) = W4 at *
    conv => whnf
    repeat ((first
      | refine HS.t ?_|refine Br.t ?_|refine Br.f ?_|refine Pk.f ?_|refine Pk.t ?_|refine Pk.and ?_|refine Pk.or ?_|refine Ix.n ?_|refine Ix.of _ (by rfl) (by omega) ?_|refine Ix.i ?_|refine Ar.la ?_|refine Ar.lb ?_|refine Ar.lc ?_|refine Dv.q ?_|refine Dv.r ?_|refine Br.y ?_|refine Br.n ?_|refine Br.ny ?_|refine Br.nn ?_|refine Br.is (by assumption) ?_|refine Br.isnt (by assumption) ?_|refine Ld.of (by assumption) ?_|refine Ru.neq_nil0 ?_|refine Ru.n1 ?_|refine Ru.eql_nil0 ?_|refine Ru.e1 ?_|refine Ru.e2 ?_|refine Ru.e3 ?_|refine Ru.n2 ?_|refine Ru.n3 ?_|refine Ru.neq_nil rfl ?_|refine Ru.eql_nil rfl ?_|refine Ru.eql_err rfl (by decide) ?_|refine Ru.neq_err rfl (by decide) ?_|refine Ru.be ?_|refine Ru.bn ?_|refine RuQ.be ?_|refine RuQ.bn ?_|refine CW.s ?_); conv => whnf)
    refine Ru.ldc (by decide +kernel) (r4.cell 0 (by omega)) ?_
    conv => whnf
    repeat ((first
      | refine HS.t ?_|refine Br.t ?_|refine Br.f ?_|refine Pk.f ?_|refine Pk.t ?_|refine Pk.and ?_|refine Pk.or ?_|refine Ix.n ?_|refine Ix.of _ (by rfl) (by omega) ?_|refine Ix.i ?_|refine Ar.la ?_|refine Ar.lb ?_|refine Ar.lc ?_|refine Dv.q ?_|refine Dv.r ?_|refine Br.y ?_|refine Br.n ?_|refine Br.ny ?_|refine Br.nn ?_|refine Br.is (by assumption) ?_|refine Br.isnt (by assumption) ?_|refine Ld.of (by assumption) ?_|refine Ru.neq_nil0 ?_|refine Ru.n1 ?_|refine Ru.eql_nil0 ?_|refine Ru.e1 ?_|refine Ru.e2 ?_|refine Ru.e3 ?_|refine Ru.n2 ?_|refine Ru.n3 ?_|refine Ru.neq_nil rfl ?_|refine Ru.eql_nil rfl ?_|refine Ru.eql_err rfl (by decide) ?_|refine Ru.neq_err rfl (by decide) ?_|refine Ru.be ?_|refine Ru.bn ?_|refine RuQ.be ?_|refine RuQ.bn ?_|refine CW.s ?_); conv => whnf)
    refine Ru.ldc (by decide +kernel) (n4.cell 0 (by omega)) ?_
    conv => whnf
    repeat ((first
      | refine HS.t ?_|refine Br.t ?_|refine Br.f ?_|refine Pk.f ?_|refine Pk.t ?_|refine Pk.and ?_|refine Pk.or ?_|refine Ix.n ?_|refine Ix.of _ (by rfl) (by omega) ?_|refine Ix.i ?_|refine Ar.la ?_|refine Ar.lb ?_|refine Ar.lc ?_|refine Dv.q ?_|refine Dv.r ?_|refine Br.y ?_|refine Br.n ?_|refine Br.ny ?_|refine Br.nn ?_|refine Br.is (by assumption) ?_|refine Br.isnt (by assumption) ?_|refine Ld.of (by assumption) ?_|refine Ru.neq_nil0 ?_|refine Ru.n1 ?_|refine Ru.eql_nil0 ?_|refine Ru.e1 ?_|refine Ru.e2 ?_|refine Ru.e3 ?_|refine Ru.n2 ?_|refine Ru.n3 ?_|refine Ru.neq_nil rfl ?_|refine Ru.eql_nil rfl ?_|refine Ru.eql_err rfl (by decide) ?_|refine Ru.neq_err rfl (by decide) ?_|refine Ru.be ?_|refine Ru.bn ?_|refine RuQ.be ?_|refine RuQ.bn ?_|refine CW.s ?_); conv => whnf)
    refine Ru.ldc (by decide +kernel) (e4.cell 0 (by omega)) ?_
    conv => whnf
    repeat ((first
      | refine HS.t ?_|refine Br.t ?_|refine Br.f ?_|refine Pk.f ?_|refine Pk.t ?_|refine Pk.and ?_|refine Pk.or ?_|refine Ix.n ?_|refine Ix.of _ (by rfl) (by omega) ?_|refine Ix.i ?_|refine Ar.la ?_|refine Ar.lb ?_|refine Ar.lc ?_|refine Dv.q ?_|refine Dv.r ?_|refine Br.y ?_|refine Br.n ?_|refine Br.ny ?_|refine Br.nn ?_|refine Br.is (by assumption) ?_|refine Br.isnt (by assumption) ?_|refine Ld.of (by assumption) ?_|refine Ru.neq_nil0 ?_|refine Ru.n1 ?_|refine Ru.eql_nil0 ?_|refine Ru.e1 ?_|refine Ru.e2 ?_|refine Ru.e3 ?_|refine Ru.n2 ?_|refine Ru.n3 ?_|refine Ru.neq_nil rfl ?_|refine Ru.eql_nil rfl ?_|refine Ru.eql_err rfl (by decide) ?_|refine Ru.neq_err rfl (by decide) ?_|refine Ru.be ?_|refine Ru.bn ?_|refine RuQ.be ?_|refine RuQ.bn ?_|refine CW.s ?_); conv => whnf)
    exact ⟨rfl, ⟨fs, kp⟩, .inl ⟨O, oc, V, m, fun k hk => by
      have := hw k (by rw [upto_length]; exact hk)
      rw [upto3 k hk] at this
      exact this, rfl, fun y hy => by have := hO y hy; omega, lo4⟩⟩
  case stop =>
    rintro Dn pre W hDn - hI hK
    have nD : NoCells W Dn := ⟨_, hK, rfl⟩
    refine ⟨W.putObj Dn (.deferred none), ⟨Dn, rfl, hK, rfl⟩, ?_⟩
    have kD : Keep [Dn] W (W.putObj Dn (.deferred none)) := keep_grown (grownBy_putObj' W Dn _)
    have r3 := hI.rxr.keep kD (by simpa using nD.ne hI.rxr)
    have n3 := hI.rxn.keep kD (by simpa using nD.ne hI.rxn)
    have e3 := hI.rxe.keep kD (by simpa using nD.ne hI.rxe)
    have fs := hI.fk.fs.keep kD (by simp; omega)
    have kp := hI.fk.kp.then kD (fun y hy => .inr (by rw [List.mem_singleton.1 hy]; omega))
    generalize W.putObj Dn (.deferred none) = W3 at *
    conv => whnf
    repeat ((first
      | refine HS.t ?_|refine Br.t ?_|refine Br.f ?_|refine Pk.f ?_|refine Pk.t ?_|refine Pk.and ?_|refine Pk.or ?_|refine Ix.n ?_|refine Ix.of _ (by rfl) (by omega) ?_|refine Ix.i ?_|refine Ar.la ?_|refine Ar.lb ?_|refine Ar.lc ?_|refine Dv.q ?_|refine Dv.r ?_|refine Br.y ?_|refine Br.n ?_|refine Br.ny ?_|refine Br.nn ?_|refine Br.is (by assumption) ?_|refine Br.isnt (by assumption) ?_|refine Ld.of (by assumption) ?_|refine Ru.neq_nil0 ?_|refine Ru.n1 ?_|refine Ru.eql_nil0 ?_|refine Ru.e1 ?_|refine Ru.e2 ?_|refine Ru.e3 ?_|refine Ru.n2 ?_|refine Ru.n3 ?_|refine Ru.neq_nil rfl ?_|refine Ru.eql_nil rfl ?_|refine Ru.eql_err rfl (by decide) ?_|refine Ru.neq_err rfl (by decide) ?_|refine Ru.be ?_|refine Ru.bn ?_|refine RuQ.be ?_|refine RuQ.bn ?_|refine CW.s ?_); conv => whnf)
    refine Ru.ldc (by decide +kernel) (r3.cell 0 (by omega)) ?_
    conv => whnf
    repeat ((first
      | refine HS.t ?_|refine Br.t ?_|refine Br.f ?_|refine Pk.f ?_|refine Pk.t ?_|refine Pk.and ?_|refine Pk.or ?_|refine Ix.n ?_|refine Ix.of _ (by rfl) (by omega) ?_|refine Ix.i ?_|refine Ar.la ?_|refine Ar.lb ?_|refine Ar.lc ?_|refine Dv.q ?_|refine Dv.r ?_|refine Br.y ?_|refine Br.n ?_|refine Br.ny ?_|refine Br.nn ?_|refine Br.is (by assumption) ?_|refine Br.isnt (by assumption) ?_|refine Ld.of (by assumption) ?_|refine Ru.neq_nil0 ?_|refine Ru.n1 ?_|refine Ru.eql_nil0 ?_|refine Ru.e1 ?_|refine Ru.e2 ?_|refine Ru.e3 ?_|refine Ru.n2 ?_|refine Ru.n3 ?_|refine Ru.neq_nil rfl ?_|refine Ru.eql_nil rfl ?_|refine Ru.eql_err rfl (by decide) ?_|refine Ru.neq_err rfl (by decide) ?_|refine Ru.be ?_|refine Ru.bn ?_|refine RuQ.be ?_|refine RuQ.bn ?_|refine CW.s ?_); conv => whnf)
    refine Ru.ldc (by decide +kernel) (n3.cell 0 (by omega)) ?_
    conv => whnf
    repeat ((first
      | refine HS.t ?_|refine Br.t ?_|refine Br.f ?_|refine Pk.f ?_|refine Pk.t ?_|refine Pk.and ?_|refine Pk.or ?_|refine Ix.n ?_|refine Ix.of _ (by rfl) (by omega) ?_|refine Ix.i ?_|refine Ar.la ?_|refine Ar.lb ?_|refine Ar.lc ?_|refine Dv.q ?_|refine Dv.r ?_|refine Br.y ?_|refine Br.n ?_|refine Br.ny ?_|refine Br.nn ?_|refine Br.is (by assumption) ?_|refine Br.isnt (by assumption) ?_|refine Ld.of (by assumption) ?_|refine Ru.neq_nil0 ?_|refine Ru.n1 ?_|refine Ru.eql_nil0 ?_|refine Ru.e1 ?_|refine Ru.e2 ?_|refine Ru.e3 ?_|refine Ru.n2 ?_|refine Ru.n3 ?_|refine Ru.neq_nil rfl ?_|refine Ru.eql_nil rfl ?_|refine Ru.eql_err rfl (by decide) ?_|refine Ru.neq_err rfl (by decide) ?_|refine Ru.be ?_|refine Ru.bn ?_|refine RuQ.be ?_|refine RuQ.bn ?_|refine CW.s ?_); conv => whnf)
    refine Ru.ldc (by decide +kernel) (e3.cell 0 (by omega)) ?_
    conv => whnf
    repeat ((first
      | refine HS.t ?_|refine Br.t ?_|refine Br.f ?_|refine Pk.f ?_|refine Pk.t ?_|refine Pk.and ?_|refine Pk.or ?_|refine Ix.n ?_|refine Ix.of _ (by rfl) (by omega) ?_|refine Ix.i ?_|refine Ar.la ?_|refine Ar.lb ?_|refine Ar.lc ?_|refine Dv.q ?_|refine Dv.r ?_|refine Br.y ?_|refine Br.n ?_|refine Br.ny ?_|refine Br.nn ?_|refine Br.is (by assumption) ?_|refine Br.isnt (by assumption) ?_|refine Ld.of (by assumption) ?_|refine Ru.neq_nil0 ?_|refine Ru.n1 ?_|refine Ru.eql_nil0 ?_|refine Ru.e1 ?_|refine Ru.e2 ?_|refine Ru.e3 ?_|refine Ru.n2 ?_|refine Ru.n3 ?_|refine Ru.neq_nil rfl ?_|refine Ru.eql_nil rfl ?_|refine Ru.eql_err rfl (by decide) ?_|refine Ru.neq_err rfl (by decide) ?_|refine Ru.be ?_|refine Ru.bn ?_|refine RuQ.be ?_|refine RuQ.bn ?_|refine CW.s ?_); conv => whnf)
    exact ⟨rfl, ⟨fs, kp⟩, .inr ⟨rfl, hI.far⟩⟩
end Go.Proofs.Ytkpaafjnjmmehaa
/- The numbers of layer 3 as bytes: Put, Get, Apart of the program, and of the references. -/
namespace Go.Proofs.Ytkpaafjnjmmehaa
open Go.RowKit
set_option linter.unusedVariables false

/-- The j-th byte of a number. -/
def byteOf (v : Int) (j : Nat) : Int := v / 256 ^ j % 256
theorem byteOf_bd (v : Int) (j : Nat) : 0 ≤ byteOf v j ∧ byteOf v j ≤ 255 := by unfold byteOf; omega
theorem pow_step (v : Int) (k : Nat) : v / 256 ^ (k + 1) = v / 256 ^ k / 256 := by
  rw [Int.pow_succ, Int.ediv_ediv_of_nonneg (by exact Int.le_of_lt (Int.pow_pos (by omega)))]

/-- What Put answers, of a size from 1 to 8. -/
def PutPost (v : Int) (n : Nat) (w : World) (e : Ending) (w' : World) : Prop :=
  Keep [] w w' ∧ ((v / 256 ^ n = 0 ∧ e = .returned (.tuple #[.slice (some ⟨w.heap.size, 0, none⟩) n n, .nilIface]) ∧ Row w' w.heap.size 5 n (fun j => .int .u8 (byteOf v j)))
    ∨ (v / 256 ^ n ≠ 0 ∧ e = .returned (.tuple #[.slice none 0 0, .iface 44 (.int .i64 2)])))
set_option maxHeartbeats 1000000 in
theorem put_any (v : Int) (n : Nat) (w : World) (h0 : 0 ≤ v) (h1 : v ≤ 18446744073709551615) (hn : 1 ≤ n) (hn8 : n ≤ 8) :
    Calls Try.prog 62 #[.int .u64 v, .int .i64 n] w (PutPost v n w) := by
  have hmk := run_make_row' (P := Try.prog) 22 5 (.int .u8 0) 1 Try.underlying22 byte_info rfl .i64 .i64 n (by omega) (by omega)
  go_enter Try.func62, Try.ntmps62
  go_wp2
  have R := Row.made w 5 (.int .u8 0) n
  have kk := (Keep.refl [] w).alloc (.cells (madeCells #[.int .u8 0] n) 5)
  have hp : v = v / 256 ^ 0 := by simp
  have HP := Lib.hid hp; clear hp
  go_loopw [0, 19] (fun x i wr => ∃ k : Nat, k ≤ n ∧ i = .int .i64 k ∧ x = .int .u64 (v / 256 ^ k) ∧ Keep [] w wr ∧ Row wr w.heap.size 5 n (fun j => .int .u8 (if j < k then byteOf v j else 0))) (fun _ i _ => n - (intOf i).toNat)
  case atStart => exact ⟨0, by omega, rfl, by rw [← HP.out], kk, R.congr (fun j hj => by simp)⟩
  case round =>
    clear R kk HP
    obtain ⟨k, hk, rfl, rfl, kk, R⟩ := hrel
    have hx0 : 0 ≤ v / 256 ^ k := Int.ediv_nonneg h0 (Int.le_of_lt (Int.pow_pos (by omega)))
    have hx1 : v / 256 ^ k ≤ 18446744073709551615 := Int.le_trans (Int.ediv_le_self _ h0) h1
    have HS := Lib.hid (pow_step v k)
    have HB : Hid (byteOf v k = v / 256 ^ k % 256) := rfl
    by_cases hlt : k < n
    · have hc := R.cell k hlt
      have hz := R.free k
      generalize v / 256 ^ k = x at hx0 hx1 HS HB
      go_wp2
      go_roundw
      case rel => exact ⟨k + 1, by omega, by go_num, by rw [HS.out], kk.setCell _ _ (.inr (Nat.le_refl _)), (R.set_int _ _).congr (fun j hj => by
        by_cases h : j = k
        · subst h
          rw [if_pos rfl, if_pos (by omega), HB.out]
        · rw [if_neg h]
          by_cases h2 : j < k
          · rw [if_pos h2, if_pos (by omega)]
          · rw [if_neg h2, if_neg (by omega)])⟩
      case measure => simp [intOf] <;> omega
    · obtain rfl : k = n := by omega
      by_cases hv : v / 256 ^ k = 0
      · have HV := Lib.hid hv
        rw [hv]
        clear hv
        go_wp2
        go_ret2
        exact ⟨kk, .inl ⟨HV.out, rfl, R.congr (fun j hj => by rw [if_pos hj])⟩⟩
      · have HV := Lib.hid hv
        have hb : (v / 256 ^ k == 0) = false := beq_eq_false_iff_ne.2 hv
        clear hv
        generalize v / 256 ^ k = x at hx0 hx1 hb
        go_wp2
        go_ret2
        exact ⟨kk, .inr ⟨HV.out, rfl⟩⟩
set_option maxHeartbeats 1000000 in
theorem put_arg (v n : Int) (w : World) (hn : n < 1 ∨ 8 < n) :
    Calls Try.prog 62 #[.int .u64 v, .int .i64 n] w fun e w' => e = .returned (.tuple #[.slice none 0 0, .iface 44 (.int .i64 1)]) ∧ w = w' := by
  rcases hn with hn | hn
  · go_enter Try.func62, Try.ntmps62
    go_wp2
    go_ret2
    exact ⟨rfl, rfl⟩
  · go_enter Try.func62, Try.ntmps62
    go_wp2
    go_ret2
    exact ⟨rfl, rfl⟩

/-- The number of n bytes, the lowest first. -/
def numOf (f : Nat → Int) : Nat → Int
  | 0 => 0
  | n + 1 => f 0 + 256 * numOf (fun j => f (j + 1)) n
theorem numOf_bd (f : Nat → Int) (hf : ∀ j, 0 ≤ f j ∧ f j ≤ 255) (n : Nat) : 0 ≤ numOf f n ∧ numOf f n < 256 ^ n := by
  induction n generalizing f with
  | zero => simp [numOf]
  | succ n ih =>
    have := ih (fun j => f (j + 1)) (fun j => hf (j + 1))
    have := hf 0
    rw [Int.pow_succ]
    unfold numOf
    omega
theorem numOf_succ (f : Nat → Int) (n : Nat) : numOf f (n + 1) = f 0 + 256 * numOf (fun j => f (j + 1)) n := rfl
theorem numOf_snoc (f : Nat → Int) (n : Nat) : numOf f (n + 1) = numOf f n + f n * 256 ^ n := by
  induction n generalizing f with
  | zero => simp [numOf]
  | succ n ih =>
    have h := ih (fun j => f (j + 1))
    rw [numOf_succ f (n + 1), numOf_succ f n, h, Int.pow_succ, ← Int.mul_assoc]
    generalize f (n + 1) * 256 ^ n = y
    omega
theorem or_disj (a b : Nat) (k : Nat) (ha : a < 2 ^ k) : a ||| (b * 2 ^ k) = a + b * 2 ^ k := by
  rw [Nat.or_comm, ← Nat.shiftLeft_eq, ← Nat.shiftLeft_add_eq_or_of_lt ha, Nat.add_comm]

theorem wraps_u64 (n : Int) (h₀ : 0 ≤ n) (h₁ : n < 2 ^ 64) : IntKind.u64.wrap n = n := by
  have : (2 : Int) ^ 64 = 18446744073709551616 := by decide
  simp only [IntKind.wrap, IntKind.bits, IntKind.signed]
  simp
  omega
theorem get_step (x y : Int) (k : Nat) (hk : k ≤ 7) (hx : 0 ≤ x) (hx1 : x < 256 ^ k) (hy : 0 ≤ y) (hy1 : y ≤ 255) :
    bits .or .u64 x (IntKind.u64.wrap (y * 2 ^ (8 * k))) = x + y * 256 ^ k := by
  have e64 : (2 : Int) ^ 64 = 18446744073709551616 := by decide
  obtain ⟨a, rfl⟩ := Int.eq_ofNat_of_zero_le hx
  obtain ⟨b, rfl⟩ := Int.eq_ofNat_of_zero_le hy
  have hp : (256 : Int) ^ k = 2 ^ (8 * k) := by rw [Int.pow_mul]; rfl
  rw [hp] at hx1 ⊢
  have ha : a < 2 ^ (8 * k) := by exact_mod_cast hx1
  have hle : 2 ^ (8 * k) ≤ 2 ^ 56 := Nat.pow_le_pow_right (by omega) (by omega)
  have hb : b * 2 ^ (8 * k) < 2 ^ 64 := by
    have h1 : b * 2 ^ (8 * k) ≤ 255 * 2 ^ (8 * k) := Nat.mul_le_mul_right _ (by omega)
    have : (2 : Nat) ^ 56 = 72057594037927936 := by decide
    have : (2 : Nat) ^ 64 = 18446744073709551616 := by decide
    omega
  have hlt : a < 2 ^ 64 := by
    have : (2 : Nat) ^ 56 = 72057594037927936 := by decide
    have : (2 : Nat) ^ 64 = 18446744073709551616 := by decide
    omega
  have hc : ((b : Int) * 2 ^ (8 * k)) = ((b * 2 ^ (8 * k) : Nat) : Int) := by simp
  rw [hc, wraps_u64 _ (by omega) (by rw [e64]; have : (2 : Nat) ^ 64 = 18446744073709551616 := by decide
                                     omega)]
  rw [(bits_nat .u64 64 (by decide) wraps_u64 a _ hlt hb).2, or_disj a b (8 * k) ha]
  simp
set_option maxHeartbeats 1000000 in
theorem get_ok (A : Option Addr) (n c : Nat) (f : Nat → Int) (w : World) (r : Rd w A n (fun j => .int .u8 (f j))) (hf : ∀ j, 0 ≤ f j ∧ f j ≤ 255) (hn : 1 ≤ n) (hn8 : n ≤ 8) :
    Calls Try.prog 48 #[.slice A n c] w fun e w' => e = .returned (.tuple #[.int .u64 (numOf f n), .nilIface]) ∧ w = w' := by
  obtain ⟨b, o, rfl, hc⟩ := r (by omega)
  go_enter Try.func48, Try.ntmps48
  go_wp2
  go_loop [4, 18] (fun x i => ∃ k : Nat, k ≤ n ∧ i = .int .i64 k ∧ x = .int .u64 (numOf f k)) (fun _ i => n - (intOf i).toNat)
  case atStart => exact ⟨0, by omega, rfl, rfl⟩
  case round =>
    obtain ⟨k, hk, rfl, rfl⟩ := hrel
    by_cases hlt : k < n
    · have hck := hc k hlt
      obtain ⟨f0, f1⟩ := hf k
      obtain ⟨x0, x1⟩ := numOf_bd f hf k
      have HX := Lib.hid x1; clear x1
      have HN := Lib.hid (numOf_snoc f k)
      have HS := Lib.hid (get_step (numOf f k) (f k) k (by omega) x0 HX.out f0 f1)
      generalize numOf f k = x at x0 HX HN HS
      clear hc
      generalize f k = y at f0 f1 HN hck HS
      go_wp2
      go_round
      case rel => exact ⟨k + 1, by omega, by go_num, by rw [HN.out, HS.out]⟩
      case measure => simp [intOf] <;> omega
    · obtain rfl : k = n := by omega
      go_wp2
      go_ret2
      exact ⟨rfl, rfl⟩

set_option maxHeartbeats 1000000 in
theorem get_arg (A : Option Addr) (n c : Nat) (w : World) (hn : n < 1 ∨ 8 < n) (hm : n ≤ maxLen) :
    Calls Try.prog 48 #[.slice A n c] w fun e w' => e = .returned (.tuple #[.int .u64 0, .iface 44 (.int .i64 1)]) ∧ w = w' := by
  unfold maxLen at hm
  rcases hn with hn | hn
  · obtain rfl : n = 0 := by omega
    go_enter Try.func48, Try.ntmps48
    go_wp2
    go_ret2
    exact ⟨rfl, rfl⟩
  · go_enter Try.func48, Try.ntmps48
    go_wp2
    go_ret2
    exact ⟨rfl, rfl⟩
end Go.Proofs.Ytkpaafjnjmmehaa
/- append(s, make([]byte, m)...). -/
namespace Go.Proofs.Ytkpaafjnjmmehaa
open Go.RowKit
set_option linter.unusedVariables false
set_option linter.unusedSimpArgs false
theorem wrap_nat {m : Nat} (h : m ≤ 9223372036854775807) : IntKind.i64.wrap (m : Int) = (m : Int) := IntWalk.i64_in _ ⟨by omega, by omega⟩
theorem run_append0_ly {P : Program} (w : World) (t tn ty e : TypeId) (i : TypeInfo) (ht : P.underlying t = some (.slice e)) (hn : P.underlying tn = some (.int .i64)) (hi : P.info? e = some i) (hz : i.zero = some (.int .u8 0)) (hsize : i.size = 1) (hby : i.bytes = 1)
    (A : Option Addr) (n c : Nat) (f : Nat → Value) (hl : Ly w e 1 A n c f) (hn0 : 0 < n) (m : Nat) (hm : 0 < m) (hbytes : n + m ≤ 140737488355328) :
    ∃ A' c' w', (Builtin.append_ #[t, tn] ty #[.slice A n c, .int .i64 (m : Int)]).run P w = .ok (.slice A' (n + m) c') w' ∧ Ly w' e 1 A' (n + m) c' (fun j => if j < n then f j else .int .u8 0) ∧ Keep (blk A) w w' ∧ (A' = A ∨ A' = some ⟨w.heap.size, 0, none⟩) := by
  have hw := wrap_nat (m := m) (by omega)
  have h0 : ¬ ((m : Int) < 0) := by omega
  have h48 : ¬ (281474976710656 < (m : Int)) := by omega
  have hzc : ∀ k, Builtin.zeroCells #[.int .u8 0] k = ((List.range k).map fun _ => (Value.int .u8 0)).toArray := fun k => by
    apply Array.ext
    · simp [Builtin.zeroCells]
    · intro j h1 h2
      simp [Builtin.zeroCells]
      have : j % 1 = 0 := Nat.mod_one j
      simp [this]
  have hzs : (Value.int .u8 0).cells = #[Value.int .u8 0] := rfl
  cases A with
  | none =>
    have := hl.2.2.1 rfl
    have := hl.1
    omega
  | some a =>
    obtain ⟨q, cur, fr, rfl, hh, hfr, hcs, r⟩ := hl.2.2.2 a rfl
    have hmax : (n + m : Int) ≤ 9223372036854775807 := by omega
    by_cases hroom : n + m ≤ c
    · have hfr0 : fr = (0, 0) := by
        rcases hfr with h | ⟨h, _⟩
        · exact h
        · omega
      subst hfr0
      have hst := run_storeCells_at (P := P) q n e ((List.range m).map fun _ => (Value.int .u8 0)) 0 cur w hh (by simp; omega) (fun v hv => by
        simp at hv
        rw [← hv.2]
        rfl)
      simp only [Nat.add_zero, List.length_map, List.length_range] at hst
      refine ⟨some ⟨q, 0, none⟩, c, w.setRow q (cur.toList.take n ++ ((List.range m).map fun _ => (Value.int .u8 0)) ++ cur.toList.drop (n + m)).toArray, ?_, ⟨hroom, hl.2.1, (fun h => by cases h), fun a ha => ?_⟩, ⟨rfl, rfl, rfl, by simp, fun k _ hk => setRow_other w q k _ (fun e => hk (by rw [e]; exact List.mem_singleton.2 rfl))⟩, .inl rfl⟩
      · have hadd : (⟨q, 0, none⟩ : Addr).add n = ⟨q, n, none⟩ := by rw [of_add rfl, Nat.zero_add]
        simp [Builtin.append_, run_underlying ht, run_underlying hn, sizeOf, typeInfo, zeroValue, hi, hz, hsize, hby, asInt, asIntOf, hw, h0, h48, hroom, hzs, hzc, hadd, Nat.ne_of_gt hm, hst]
      · injection ha with ha
        subst ha
        refine ⟨q, _, (0, 0), rfl, setRow_heap w q cur _ e _ hh, .inl rfl, ?_, fun j hj => ?_⟩
        · simp
          omega
        · have hcl : n + m ≤ cur.size := by omega
          rw [List.getElem?_toArray]
          simp only
          by_cases h : j < n
          · rw [if_pos h, List.append_assoc, List.getElem?_append_left (by simp; omega), List.getElem?_take, if_pos h, Array.getElem?_toList]
            exact r j (by omega)
          · rw [if_neg h, List.append_assoc, List.getElem?_append_right (by simp; omega), List.getElem?_append_left (by simp; omega)]
            simp only [List.getElem?_map, List.length_take, Array.length_toList, List.length_map, List.length_range]
            rw [List.getElem?_range (by omega)]
            rfl
    · have holds : ∀ (j : Nat) (u : Value), ((List.range n).map f)[j]? = some u → w.drew.cell? ((⟨q, 0, none⟩ : Addr).add j) = some u := by
        intro j u hu
        have hj : j < n := by
          have := (List.getElem?_eq_some_iff.1 hu).1
          simpa using this
        rw [of_add rfl]
        have h2 : f j = u := by
          simp [hj] at hu
          exact hu
        have := r j (by omega)
        rw [h2] at this
        rw [World.cell?_drew]
        simp only [World.cell?, hh]
        simpa using this
      have hold := run_firstCells_some (P := P) w.drew 1 n ⟨q, 0, none⟩ n c ((List.range n).map f) (by simp) holds
      have hfit := growslice_fits (old := c) (need := n + m) (bytes := 1) (by omega) (by omega)
      have h63' : ¬ (9223372036854775807 < ((n : Int) + (m : Int))) := by omega
      have h48' : ¬ (281474976710656 < Builtin.nextslicecap (n + m) c) := by omega
      have hge := grownCap_ge w (n + m) c e
      refine ⟨some ⟨w.heap.size, 0, none⟩, grownCap w (n + m) c e, w.drew.alloc (.cells (((List.range n).map f).toArray ++ ((List.range m).map fun _ => (Value.int .u8 0)).toArray ++ Builtin.zeroCells #[.int .u8 0] (grownCap w (n + m) c e - (n + m))) e), ?_, ⟨hge, grownCap_le_maxLen w (n + m) c e (by simp only [maxLen]; omega), (fun h => by cases h), fun a ha => ?_⟩, (Keep.refl _ w).drew.alloc _, .inr rfl⟩
      · simp [Builtin.append_, run_underlying ht, run_underlying hn, sizeOf, typeInfo, zeroValue, hi, hz, hsize, hby, asInt, asIntOf, hw, h0, h48, hroom, hzs, hzc, Nat.ne_of_gt hm, h63', h48', Question.forced, hold, newRow, grownCap]
      · injection ha with ha
        subst ha
        refine ⟨_, _, (0, 0), rfl, heap_alloc_new w.drew _, .inl rfl, ?_, fun j hj => ?_⟩
        · simp [size_zeroCells]
          omega
        · rw [← Array.getElem?_toList]
          simp only [Array.toList_append]
          by_cases h : j < n
          · rw [if_pos h, List.append_assoc, List.getElem?_append_left (by simp; omega)]
            simp [h]
          · rw [if_neg h, List.append_assoc, List.getElem?_append_right (by simp; omega), List.getElem?_append_left (by simp; omega)]
            simp only [List.getElem?_map, List.length_take, Array.length_toList, List.length_map, List.length_range]
            rw [List.getElem?_range (by omega)]
            rfl
end Go.Proofs.Ytkpaafjnjmmehaa
/- '==' of structs, field by field. -/
namespace Go.Proofs.Ytkpaafjnjmmehaa
set_option linter.unusedVariables false
section
variable {P : Program} {w : World} {d : Nat} {t : TypeId} {xs ys : Array Value}
theorem eqA_of {fs : Array Field} {r : Bool} (hu : P.underlying t = some (.struct fs)) (hp : P.stoodInHeld t = false) (h : (Op.eqFields d xs ys fs.toList).run P w = .ok r w) : (Op.equalIn (d + 1) t (.agg xs) (.agg ys)).run P w = .ok r w := by
  have hf : P.fieldsOf t = fs := by unfold Program.fieldsOf; rw [hu]
  rw [run_equalIn_struct w d t xs ys (by rw [hf]; exact hu) hp, hf]
  exact h
theorem eqf_nil : (Op.eqFields d xs ys []).run P w = .ok true w := rfl
theorem eqf_cons {f : Field} {fs : List Field} {a b : Value} {r s : Bool} (hn : (f.name == "_") = false) (ha : (part f.type xs f.offset).run P w = .ok a w) (hb : (part f.type ys f.offset).run P w = .ok b w) (hr : (Op.equalIn d f.type a b).run P w = .ok r w) (hs : (Op.eqFields d xs ys fs).run P w = .ok s w) :
    (Op.eqFields d xs ys (f :: fs)).run P w = .ok (r && s) w := by
  have hn' : f.name ≠ "_" := by simpa using hn
  simp only [Op.eqFields, ne_eq, hn', not_false_eq_true, if_true, Sem.run_bind, ha, hb, hr, Result.andThen_ok]
  cases r
  · simp
  · simpa using hs
theorem part_cell {e : TypeId} {cs : Array Value} {off : Nat} {v : Value} (hc : cellTy P e = true) (hv : cs[off]? = some v) : (part e cs off).run P w = .ok v w := by
  simp [part, isAgg_cell hc w, hv]
theorem part_agg {e : TypeId} {cs : Array Value} {off n : Nat} {u : TypeDesc} (hu : P.underlying e = some u) (hd : (match u with | .struct _ | .array _ _ => true | _ => false) = true) (hs : szIs P e n = true) : (part e cs off).run P w = .ok (.agg (cs.extract off (off + n))) w := by
  simp [part, run_isAgg_of hu hd w, size_of_is hs w]
theorem eq_int {k : IntKind} {e : TypeId} {a b : Int} (hu : P.underlying e = some (.int k)) : (Op.equalIn (d + 1) e (.int k a) (.int k b)).run P w = .ok (decide (a = b)) w := run_equalIn_int w d e k k a b hu
theorem eq_bool {e : TypeId} {a b : Bool} (hu : P.underlying e = some .bool) : (Op.equalIn (d + 1) e (.bool a) (.bool b)).run P w = .ok (decide (a = b)) w := by
  rw [run_equalIn_bool w d e a b hu]
  cases a <;> cases b <;> rfl
end
end Go.Proofs.Ytkpaafjnjmmehaa
/- Layer 7: tags as cells; Check, the writer. -/
namespace Go.Proofs.Ytkpaafjnjmmehaa
open Go.RowKit
set_option linter.unusedVariables false
structure Tg where
  place : Int
  of : Int
  seq : Int
  copy : Int
  lost : Bool
deriving DecidableEq
def Tg.zero : Tg := ⟨0, 0, 0, 0, false⟩
def Tg.arr (t : Tg) : Array Value := #[.int .i64 t.place, .int .i64 t.of, .int .i64 t.seq, .int .i64 t.copy, .bool t.lost]
def Tg.cell (t : Tg) (j : Nat) : Value := t.arr.getD j .nilIface
/-- May a tag be? -/
def Tg.ok (t : Tg) : Prop := 0 ≤ t.place ∧ t.place ≤ 95 ∧ 0 ≤ t.of ∧ t.of ≤ 24 ∧ 1 ≤ t.seq ∧ t.seq ≤ 1099511627775 ∧ 0 ≤ t.copy ∧ t.copy ≤ 255 ∧ (t.of = 24 → t.lost = false) ∧ (t.of ≠ 24 → t.place % 8 ≤ 5)
instance (t : Tg) : Decidable t.ok := by unfold Tg.ok; infer_instance
def Tg.wf (t : Tg) : Prop := (-9223372036854775808 ≤ t.place ∧ t.place ≤ 9223372036854775807) ∧ (-9223372036854775808 ≤ t.of ∧ t.of ≤ 9223372036854775807) ∧ (-9223372036854775808 ≤ t.seq ∧ t.seq ≤ 9223372036854775807) ∧ (-9223372036854775808 ≤ t.copy ∧ t.copy ≤ 9223372036854775807)
def Tg.err (t : Tg) : Int := if t.ok then 0 else 1
theorem Tg.err_no {t : Tg} (h : ¬ t.ok) : Value.iface 44 (.int .i64 1) = errOf t.err := by unfold Tg.err; rw [if_neg h, errOf_pos (by decide)]
theorem Tg.err_yes {t : Tg} (h : t.ok) : Value.nilIface = errOf t.err := by unfold Tg.err; rw [if_pos h]; rfl
theorem tg_range (t : Tg) : (Array.range 5).map t.cell = t.arr := by
  apply Array.ext
  · simp [Tg.arr]
  · intro i h1 h2
    have h3 : i < 5 := by simpa using h1
    have : i = 0 ∨ i = 1 ∨ i = 2 ∨ i = 3 ∨ i = 4 := by omega
    rcases this with rfl | rfl | rfl | rfl | rfl <;> simp [Tg.cell, Tg.arr]
theorem tg_agg (t : Tg) : Value.agg t.arr = agg 5 t.cell := by
  unfold agg
  rw [tg_range]
theorem size_tag : (Try.prog.info? 29).map (·.size) = some 5 := by kernel_rfl
theorem tg_one (t : Tg) (j : Nat) (hj : j < 5) : (t.cell j).oneCell' = true := by
  have : j = 0 ∨ j = 1 ∨ j = 2 ∨ j = 3 ∨ j = 4 := by omega
  rcases this with rfl | rfl | rfl | rfl | rfl <;> rfl
theorem Row.tg {w : World} {g : Nat} {t : Tg} (h : w.heap[g]? = some (.cells t.arr 29 (0, 0))) : Row w g 29 5 t.cell := by
  unfold Row
  rw [tg_range]
  exact h
/-- A tag is made, read, written as a whole. -/
theorem Ru.alloctg {w : World} {K : Value → World → Prop} (k : ∀ g w', g = w.heap.size → w'.heap.size = w.heap.size + 1 → Row w' g 29 5 Tg.zero.cell → Keep [] w w' → K (.pointer (some ⟨g, 0, none⟩)) w') : Ru Try.prog (Instr.alloc 29 true (.tuple #[])) w K :=
  ⟨_, w.alloc (.cells Tg.zero.arr 29), by kernel_rfl, k _ _ rfl (by simp) (Row.tg (heap_alloc_new _ _)) ((Keep.refl _ _).alloc _)⟩
theorem Ru.boxtg {w : World} {t : Tg} {K : Value → World → Prop} (k : ∀ g w', g = w.heap.size → w'.heap.size = w.heap.size + 1 → Row w' g 29 5 t.cell → Keep [] w w' → K (.pointer (some ⟨g, 0, none⟩)) w') : Ru Try.prog (Instr.box 29 (.agg t.arr)) w K :=
  ⟨_, w.alloc (.cells t.arr 29), rfl, k _ _ rfl (by simp) (Row.tg (heap_alloc_new _ _)) ((Keep.refl _ _).alloc _)⟩
theorem run_tg {w : World} {g o N : Nat} {ty : TypeId} {F : Nat → Value} {t : Tg} (r : Row w g ty N F) (hn : o + 5 ≤ N) (hf : ∀ j, j < 5 → F (o + j) = t.cell j) : (loadVar 29 ⟨g, o, none⟩).run Try.prog w = .ok (.agg t.arr) w := by
  have h := run_load_agg (P := Try.prog) r hn Try.underlying29 rfl size_tag
  rw [show agg 5 (fun j => F (o + j)) = .agg t.arr from (agg_congr hf).trans (tg_agg t).symm] at h
  exact h
theorem Ru.ldtg {w : World} {g : Nat} {ty : TypeId} {t : Tg} {K : Value → World → Prop} (r : Row w g ty 5 t.cell) (k : K (.agg t.arr) w) : Ru Try.prog (loadVar 29 ⟨g, 0, none⟩) w K := ⟨_, _, run_tg r (by omega) (fun j _ => by rw [Nat.zero_add]), k⟩
theorem Ru.sttg {w : World} {g : Nat} {ty : TypeId} {b : Nat → Value} {t : Tg} {K : Unit → World → Prop} (r : Row w g ty 5 b) (k : ∀ w', Row w' g ty 5 t.cell → Keep [g] w w' → K () w') : Ru Try.prog (storeVar 29 ⟨g, 0, none⟩ (.agg t.arr)) w K := by
  rw [tg_agg]
  exact Ru.sta r size_tag (by omega) (tg_one t) (fun w' r' k' => k w' (r'.congr (fun j hj => by unfold lay; rw [if_pos (by omega)]; simp)) k')
set_option maxHeartbeats 1000000 in
theorem check_ok (t : Tg) (w : World) : Spec Try.prog 35 #[.agg t.arr] w fun v w' => v = errOf t.err ∧ Keep [] w w' := by
  have h0 : ∀ {g : Nat} {w : World}, Row w g 29 5 t.cell → w.cell? ⟨g, 0, none⟩ = some (.int .i64 t.place) ∧ w.cell? ⟨g, 1, none⟩ = some (.int .i64 t.of) ∧ w.cell? ⟨g, 2, none⟩ = some (.int .i64 t.seq) ∧ w.cell? ⟨g, 3, none⟩ = some (.int .i64 t.copy) ∧ w.cell? ⟨g, 4, none⟩ = some (.bool t.lost) := fun r => ⟨r.cell 0 (by omega), r.cell 1 (by omega), r.cell 2 (by omega), r.cell 3 (by omega), r.cell 4 (by omega)⟩
  have hno := t.err_no
  have hyes := t.err_yes
  unfold Tg.ok at hno hyes
  generalize hx : t.err = x at hno hyes ⊢
  refine spec_of_wpE (T := tt) tt_ok Try.func35 rfl (by decide +kernel) Try.ntmps35 (by simp) ?_
  conv => whnf
  repeat ((first
    | refine HS.t ?_|refine Br.t ?_|refine Br.f ?_|refine Pk.f ?_|refine Pk.t ?_|refine Pk.and ?_|refine Pk.or ?_|refine Ix.n ?_|refine Ix.of _ (by rfl) (by omega) ?_|refine Ix.i ?_|refine Ar.la ?_|refine Ar.lb ?_|refine Ar.lc ?_|refine Dv.q ?_|refine Dv.r ?_|refine Br.y ?_|refine Br.n ?_|refine Br.ny ?_|refine Br.nn ?_|refine Br.is (by assumption) ?_|refine Br.isnt (by assumption) ?_|refine Ld.of (by assumption) ?_|refine Ru.neq_nil0 ?_|refine Ru.n1 ?_|refine Ru.eql_nil0 ?_|refine Ru.e1 ?_|refine Ru.e2 ?_|refine Ru.e3 ?_|refine Ru.n2 ?_|refine Ru.n3 ?_|refine Ru.neq_nil rfl ?_|refine Ru.eql_nil rfl ?_|refine Ru.eql_err rfl (by decide) ?_|refine Ru.neq_err rfl (by decide) ?_|refine Ru.be ?_|refine Ru.bn ?_|refine RuQ.be ?_|refine RuQ.bn ?_|refine CW.s ?_); conv => whnf)
  refine Ru.boxtg ?_
  intro g w1 hg hs r k1
  obtain ⟨c0, c1, c2, c3, c4⟩ := h0 r
  clear h0 r
  generalize t.place = a0 at *
  generalize t.of = a1 at *
  generalize t.seq = a2 at *
  generalize t.copy = a3 at *
  cases hl : t.lost <;> rw [hl] at c4 hno hyes
  all_goals
    conv => whnf
    repeat' ((first
      | refine HS.t ?_|refine Br.t ?_|refine Br.f ?_|refine Pk.f ?_|refine Pk.t ?_|refine Pk.and ?_|refine Pk.or ?_|refine Ix.n ?_|refine Ix.of _ (by rfl) (by omega) ?_|refine Ix.i ?_|refine Ar.la ?_|refine Ar.lb ?_|refine Ar.lc ?_|refine Dv.q ?_|refine Dv.r ?_|refine Br.y ?_|refine Br.n ?_|refine Br.ny ?_|refine Br.nn ?_|refine Br.is (by assumption) ?_|refine Br.isnt (by assumption) ?_|refine Ld.of (by assumption) ?_|refine Ru.neq_nil0 ?_|refine Ru.n1 ?_|refine Ru.eql_nil0 ?_|refine Ru.e1 ?_|refine Ru.e2 ?_|refine Ru.e3 ?_|refine Ru.n2 ?_|refine Ru.n3 ?_|refine Ru.neq_nil rfl ?_|refine Ru.eql_nil rfl ?_|refine Ru.eql_err rfl (by decide) ?_|refine Ru.neq_err rfl (by decide) ?_|refine Ru.be ?_|refine Ru.bn ?_|refine RuQ.be ?_|refine RuQ.bn ?_|refine CW.s ?_|refine Br.d (fun _ => ?_) (fun _ => ?_)|refine Br.nd (fun _ => ?_) (fun _ => ?_)|refine Br.mk (fun _ => ?_) (fun _ => ?_)) <;> conv => whnf)
    all_goals
      first
        | exact ⟨rfl, hno (fun h => by simp at h; omega), k1⟩
        | exact ⟨rfl, hyes (by simp; omega), k1⟩
end Go.Proofs.Ytkpaafjnjmmehaa
/- Layer 7: the writer; Encode. -/
namespace Go.Proofs.Ytkpaafjnjmmehaa
open Go.RowKit
set_option linter.unusedVariables false
set_option maxRecDepth 20000
theorem pow8 {n : Nat} (hn : n ≤ 8) : (256 : Int) ^ n ≤ 18446744073709551616 := by
  have h : n = 0 ∨ n = 1 ∨ n = 2 ∨ n = 3 ∨ n = 4 ∨ n = 5 ∨ n = 6 ∨ n = 7 ∨ n = 8 := by omega
  rcases h with rfl | rfl | rfl | rfl | rfl | rfl | rfl | rfl | rfl <;> decide
theorem put_sp (v : Int) (n : Nat) (w : World) (h0 : 0 ≤ v) (h1 : v < 256 ^ n) (hn : 1 ≤ n) (hn8 : n ≤ 8) :
    Spec Try.prog 62 #[.int .u64 v, .int .i64 n] w fun u w' => ∃ g, u = .tuple #[.slice (some ⟨g, 0, none⟩) n n, .nilIface] ∧ g = w.heap.size ∧ Row w' g 5 n (fun j => .int .u8 (byteOf v j)) ∧ Keep [] w w' := by
  have h8 := pow8 hn8
  refine ⟨by kernel_rfl, (put_any v n w h0 (by omega) hn hn8).mono ?_⟩
  rintro e w' ⟨k, h⟩
  have hz : v / 256 ^ n = 0 := Int.ediv_eq_zero_of_lt h0 h1
  rcases h with ⟨_, rfl, r⟩ | ⟨h, _⟩
  · exact ⟨_, rfl, _, rfl, rfl, r, k⟩
  · exact absurd hz h
theorem Bu.append0 {P : Program} {w : World} {t tn ty e : TypeId} {i : TypeInfo} {cs : Array Bool} {K : Value → World → Prop} (ht : P.underlying t = some (.slice e)) (hn : P.underlying tn = some (.int .i64)) (hi : P.info? e = some i) (hz : i.zero = some (.int .u8 0)) (hsize : i.size = 1) (hby : i.bytes = 1)
    {A : Option Addr} {n c : Nat} {f : Nat → Value} (hl : Ly w e 1 A n c f) (hn0 : 0 < n) {m : Nat} (hm : 0 < m) (hbytes : n + m ≤ 140737488355328)
    (k : ∀ A' c' w', Ly w' e 1 A' (n + m) c' (fun j => if j < n then f j else .int .u8 0) → Keep (blk A) w w' → (A' = A ∨ A' = some ⟨w.heap.size, 0, none⟩) → K (.slice A' (n + m) c') w') :
    Bu P .append #[t, tn] ty cs #[.slice A n c, .int .i64 (m : Int)] w K := by
  obtain ⟨A', c', w', hr, h2, h3, h5⟩ := run_append0_ly (P := P) w t tn ty e i ht hn hi hz hsize hby A n c f hl hn0 m hm hbytes
  exact ⟨_, w', by simp only [builtin, Sem.run_bind, hr]; rfl, k A' c' w' h2 h3 h5⟩
/-- The bytes of a tag's body. -/
def bodyF (t : Tg) (j : Nat) : Int := if j < 2 then byteOf t.place j else if j < 3 then byteOf t.of (j - 2) else if j < 8 then byteOf t.seq (j - 3) else if j < 9 then byteOf t.copy (j - 8) else if j < 10 then byteOf (if t.lost then 1 else 0) (j - 9) else 0
theorem bodyF_bd (t : Tg) (j : Nat) : 0 ≤ bodyF t j ∧ bodyF t j ≤ 255 := by
  unfold bodyF
  split
  · exact byteOf_bd _ _
  split
  · exact byteOf_bd _ _
  split
  · exact byteOf_bd _ _
  split
  · exact byteOf_bd _ _
  split
  · exact byteOf_bd _ _
  omega
/-- The writer's cells. -/
def wrc (t : Tg) (x : Value) (j : Nat) : Value := if j < 5 then t.cell j else x
/-- A writer that laid n bytes of the body. -/
structure Wr (w : World) (g : Nat) (t : Tg) (X : Option Addr) (n c : Nat) : Prop where
  row : Row w g 95 6 (wrc t (.slice X n c))
  ly : Ly w 5 1 X n c (fun j => .int .u8 (bodyF t j))
theorem Wr.keep {w w' : World} {g : Nat} {t : Tg} {X : Option Addr} {n c : Nat} {S : List Nat} (h : Wr w g t X n c) (k : Keep S w w') (hg : g ∉ S) (hX : ∀ x, x ∈ blk X → x ∉ S) : Wr w' g t X n c := ⟨h.row.keep k hg, h.ly.keep k hX⟩
def WrPost (w : World) (g : Nat) (t : Tg) (X : Option Addr) (m : Nat) (v : Value) (w' : World) : Prop := v = .nilIface ∧ ∃ Y d, Wr w' g t Y m d ∧ Keep (g :: blk X) w w' ∧ ∀ x, x ∈ blk Y → x ∈ blk X ∨ w.heap.size ≤ x
set_option maxHeartbeats 1000000 in
theorem wput_ok (w : World) (g : Nat) (t : Tg) (X : Option Addr) (n c : Nat) (h : Wr w g t X n c) (v : Int) (k : Nat) (h0 : 0 ≤ v) (h1 : v < 256 ^ k) (hk : 1 ≤ k) (hk8 : k ≤ 8) (hn : n ≤ 50) (hb : ∀ j, j < k → byteOf v j = bodyF t (n + j)) :
    Spec Try.prog 53 #[.pointer (some ⟨g, 0, none⟩), .int .i64 v, .int .i64 k] w (WrPost w g t X (n + k)) := by
  obtain ⟨i0, hi, hz0, hz1, hz2⟩ := info_parts byte_info
  have h8 := pow8 hk8
  refine spec_of_wpE (T := tt) tt_ok Try.func53 rfl (by decide +kernel) Try.ntmps53 (by simp) ?_
  conv => whnf
  repeat ((first
    | refine HS.t ?_|refine Br.t ?_|refine Br.f ?_|refine Pk.f ?_|refine Pk.t ?_|refine Pk.and ?_|refine Pk.or ?_|refine Ix.n ?_|refine Ix.of _ (by rfl) (by omega) ?_|refine Ix.i ?_|refine Ar.la ?_|refine Ar.lb ?_|refine Ar.lc ?_|refine Dv.q ?_|refine Dv.r ?_|refine Br.y ?_|refine Br.n ?_|refine Br.ny ?_|refine Br.nn ?_|refine Br.is (by assumption) ?_|refine Br.isnt (by assumption) ?_|refine Ld.of (by assumption) ?_|refine Ru.neq_nil0 ?_|refine Ru.n1 ?_|refine Ru.eql_nil0 ?_|refine Ru.e1 ?_|refine Ru.e2 ?_|refine Ru.e3 ?_|refine Ru.n2 ?_|refine Ru.n3 ?_|refine Ru.neq_nil rfl ?_|refine Ru.eql_nil rfl ?_|refine Ru.eql_err rfl (by decide) ?_|refine Ru.neq_err rfl (by decide) ?_|refine Ru.be ?_|refine Ru.bn ?_|refine RuQ.be ?_|refine RuQ.bn ?_|refine CW.s ?_); conv => whnf)
  refine Ca.of (put_sp v k w h0 h1 hk hk8) ?_
  rintro _ w1 ⟨p, rfl, hp, rp, k1⟩
  have h1 := h.keep k1 (by simp) (by simp)
  have hgX : g ∉ blk X := h1.ly.row_ne h1.row (by decide)
  conv => whnf
  repeat ((first
    | (refine Ld.rowAt h1.row 5 (by omega) (by omega) ?_)
    | refine HS.t ?_|refine Br.t ?_|refine Br.f ?_|refine Pk.f ?_|refine Pk.t ?_|refine Pk.and ?_|refine Pk.or ?_|refine Ix.n ?_|refine Ix.of _ (by rfl) (by omega) ?_|refine Ix.i ?_|refine Ar.la ?_|refine Ar.lb ?_|refine Ar.lc ?_|refine Dv.q ?_|refine Dv.r ?_|refine Br.y ?_|refine Br.n ?_|refine Br.ny ?_|refine Br.nn ?_|refine Br.is (by assumption) ?_|refine Br.isnt (by assumption) ?_|refine Ld.of (by assumption) ?_|refine Ru.neq_nil0 ?_|refine Ru.n1 ?_|refine Ru.eql_nil0 ?_|refine Ru.e1 ?_|refine Ru.e2 ?_|refine Ru.e3 ?_|refine Ru.n2 ?_|refine Ru.n3 ?_|refine Ru.neq_nil rfl ?_|refine Ru.eql_nil rfl ?_|refine Ru.eql_err rfl (by decide) ?_|refine Ru.neq_err rfl (by decide) ?_|refine Ru.be ?_|refine Ru.bn ?_|refine RuQ.be ?_|refine RuQ.bn ?_|refine CW.s ?_); conv => whnf)
  show Bu _ _ _ _ _ #[.slice X n c, _] _ _
  refine Bu.append Try.underlying22 hi hz0 hz1 hz2 rfl (by omega) h1.ly _ (Rd.of_row rp (n := k * 1) (by omega)) (by omega) (by simp) (fun j hj => rfl) (by simp only [maxLen]; omega) (by omega) ?_
  intro Y d w2 hy k2 hat hpre
  have r2 := h1.row.keep k2 hgX
  have hY : g ∉ blk Y := hy.row_ne r2 (by decide)
  conv => whnf
  repeat ((first
    | refine HS.t ?_|refine Br.t ?_|refine Br.f ?_|refine Pk.f ?_|refine Pk.t ?_|refine Pk.and ?_|refine Pk.or ?_|refine Ix.n ?_|refine Ix.of _ (by rfl) (by omega) ?_|refine Ix.i ?_|refine Ar.la ?_|refine Ar.lb ?_|refine Ar.lc ?_|refine Dv.q ?_|refine Dv.r ?_|refine Br.y ?_|refine Br.n ?_|refine Br.ny ?_|refine Br.nn ?_|refine Br.is (by assumption) ?_|refine Br.isnt (by assumption) ?_|refine Ld.of (by assumption) ?_|refine Ru.neq_nil0 ?_|refine Ru.n1 ?_|refine Ru.eql_nil0 ?_|refine Ru.e1 ?_|refine Ru.e2 ?_|refine Ru.e3 ?_|refine Ru.n2 ?_|refine Ru.n3 ?_|refine Ru.neq_nil rfl ?_|refine Ru.eql_nil rfl ?_|refine Ru.eql_err rfl (by decide) ?_|refine Ru.neq_err rfl (by decide) ?_|refine Ru.be ?_|refine Ru.bn ?_|refine RuQ.be ?_|refine RuQ.bn ?_|refine CW.s ?_); conv => whnf)
  refine Sd.rowAt r2 5 (by omega) (by omega) rfl ?_
  intro w3 r3 k3
  have hy3 := hy.keep k3 (by intro x hx hm; rw [List.mem_singleton.1 hm] at hx; exact hY hx)
  conv => whnf
  repeat ((first
    | refine HS.t ?_|refine Br.t ?_|refine Br.f ?_|refine Pk.f ?_|refine Pk.t ?_|refine Pk.and ?_|refine Pk.or ?_|refine Ix.n ?_|refine Ix.of _ (by rfl) (by omega) ?_|refine Ix.i ?_|refine Ar.la ?_|refine Ar.lb ?_|refine Ar.lc ?_|refine Dv.q ?_|refine Dv.r ?_|refine Br.y ?_|refine Br.n ?_|refine Br.ny ?_|refine Br.nn ?_|refine Br.is (by assumption) ?_|refine Br.isnt (by assumption) ?_|refine Ld.of (by assumption) ?_|refine Ru.neq_nil0 ?_|refine Ru.n1 ?_|refine Ru.eql_nil0 ?_|refine Ru.e1 ?_|refine Ru.e2 ?_|refine Ru.e3 ?_|refine Ru.n2 ?_|refine Ru.n3 ?_|refine Ru.neq_nil rfl ?_|refine Ru.eql_nil rfl ?_|refine Ru.eql_err rfl (by decide) ?_|refine Ru.neq_err rfl (by decide) ?_|refine Ru.be ?_|refine Ru.bn ?_|refine RuQ.be ?_|refine RuQ.bn ?_|refine CW.s ?_); conv => whnf)
  refine ⟨rfl, rfl, Y, d, ⟨r3.congr (fun j hj => ?_), hy3.congr (fun j hj => ?_)⟩, ?_, ?_⟩
  · unfold put wrc
    by_cases h5 : j = 5
    · subst h5; rfl
    · rw [if_neg h5, if_pos (by omega), if_pos (by omega)]
  · simp only [Nat.mul_one]
    by_cases hj2 : j < n
    · rw [if_pos hj2]
    · rw [if_neg hj2, hb (j - n) (by omega), show n + (j - n) = j from by omega]
  · exact ((k1.mono (by simp)).trans (k2.mono (fun x hx => List.mem_cons_of_mem _ hx))).trans (k3.mono (fun x hx => by rw [List.mem_singleton.1 hx]; exact List.mem_cons_self ..))
  · intro x hx
    rcases hat with e | e
    · rw [e] at hx; exact .inl hx
    · rw [e] at hx
      rw [List.mem_singleton.1 hx]
      exact .inr k1.size

def preN (i : Nat) : Nat := if i = 0 then 0 else if i = 1 then 2 else if i = 2 then 3 else if i = 3 then 8 else if i = 4 then 9 else 10
section
variable (w : World) (g : Nat) (t : Tg) (X : Option Addr) (c : Nat)
theorem byte0 {v : Int} (h0 : 0 ≤ v) (h1 : v ≤ 255) : byteOf v 0 = v := by unfold byteOf; simp; omega
set_option maxHeartbeats 1000000 in
theorem place_ok (h : Wr w g t X 0 c) (ht : t.ok) : Spec Try.prog 36 #[.pointer (some ⟨g, 0, none⟩)] w (WrPost w g t X 2) := by
  unfold Tg.ok at ht
  refine spec_of_wpE (T := tt) tt_ok Try.func36 rfl (by decide +kernel) Try.ntmps36 (by simp) ?_
  conv => whnf
  repeat ((first
    | (refine Ld.rowAt h.row 0 (by omega) (by omega) ?_)
    | refine HS.t ?_|refine Br.t ?_|refine Br.f ?_|refine Pk.f ?_|refine Pk.t ?_|refine Pk.and ?_|refine Pk.or ?_|refine Ix.n ?_|refine Ix.of _ (by rfl) (by omega) ?_|refine Ix.i ?_|refine Ar.la ?_|refine Ar.lb ?_|refine Ar.lc ?_|refine Dv.q ?_|refine Dv.r ?_|refine Br.y ?_|refine Br.n ?_|refine Br.ny ?_|refine Br.nn ?_|refine Br.is (by assumption) ?_|refine Br.isnt (by assumption) ?_|refine Ld.of (by assumption) ?_|refine Ru.neq_nil0 ?_|refine Ru.n1 ?_|refine Ru.eql_nil0 ?_|refine Ru.e1 ?_|refine Ru.e2 ?_|refine Ru.e3 ?_|refine Ru.n2 ?_|refine Ru.n3 ?_|refine Ru.neq_nil rfl ?_|refine Ru.eql_nil rfl ?_|refine Ru.eql_err rfl (by decide) ?_|refine Ru.neq_err rfl (by decide) ?_|refine Ru.be ?_|refine Ru.bn ?_|refine RuQ.be ?_|refine RuQ.bn ?_|refine CW.s ?_); conv => whnf)
  refine Ca.of (wput_ok w g t X 0 c h t.place 2 (by omega) (by omega) (by omega) (by omega) (by omega) (fun j hj => by unfold bodyF; rw [if_pos (by omega), Nat.zero_add])) ?_
  intro v w1 hp
  conv => whnf
  repeat ((first
    | refine HS.t ?_|refine Br.t ?_|refine Br.f ?_|refine Pk.f ?_|refine Pk.t ?_|refine Pk.and ?_|refine Pk.or ?_|refine Ix.n ?_|refine Ix.of _ (by rfl) (by omega) ?_|refine Ix.i ?_|refine Ar.la ?_|refine Ar.lb ?_|refine Ar.lc ?_|refine Dv.q ?_|refine Dv.r ?_|refine Br.y ?_|refine Br.n ?_|refine Br.ny ?_|refine Br.nn ?_|refine Br.is (by assumption) ?_|refine Br.isnt (by assumption) ?_|refine Ld.of (by assumption) ?_|refine Ru.neq_nil0 ?_|refine Ru.n1 ?_|refine Ru.eql_nil0 ?_|refine Ru.e1 ?_|refine Ru.e2 ?_|refine Ru.e3 ?_|refine Ru.n2 ?_|refine Ru.n3 ?_|refine Ru.neq_nil rfl ?_|refine Ru.eql_nil rfl ?_|refine Ru.eql_err rfl (by decide) ?_|refine Ru.neq_err rfl (by decide) ?_|refine Ru.be ?_|refine Ru.bn ?_|refine RuQ.be ?_|refine RuQ.bn ?_|refine CW.s ?_); conv => whnf)
  exact ⟨rfl, hp⟩
set_option maxHeartbeats 1000000 in
theorem of_ok (h : Wr w g t X 2 c) (ht : t.ok) : Spec Try.prog 37 #[.pointer (some ⟨g, 0, none⟩)] w (WrPost w g t X 3) := by
  unfold Tg.ok at ht
  refine spec_of_wpE (T := tt) tt_ok Try.func37 rfl (by decide +kernel) Try.ntmps37 (by simp) ?_
  conv => whnf
  repeat ((first
    | (refine Ld.rowAt h.row 1 (by omega) (by omega) ?_)
    | refine HS.t ?_|refine Br.t ?_|refine Br.f ?_|refine Pk.f ?_|refine Pk.t ?_|refine Pk.and ?_|refine Pk.or ?_|refine Ix.n ?_|refine Ix.of _ (by rfl) (by omega) ?_|refine Ix.i ?_|refine Ar.la ?_|refine Ar.lb ?_|refine Ar.lc ?_|refine Dv.q ?_|refine Dv.r ?_|refine Br.y ?_|refine Br.n ?_|refine Br.ny ?_|refine Br.nn ?_|refine Br.is (by assumption) ?_|refine Br.isnt (by assumption) ?_|refine Ld.of (by assumption) ?_|refine Ru.neq_nil0 ?_|refine Ru.n1 ?_|refine Ru.eql_nil0 ?_|refine Ru.e1 ?_|refine Ru.e2 ?_|refine Ru.e3 ?_|refine Ru.n2 ?_|refine Ru.n3 ?_|refine Ru.neq_nil rfl ?_|refine Ru.eql_nil rfl ?_|refine Ru.eql_err rfl (by decide) ?_|refine Ru.neq_err rfl (by decide) ?_|refine Ru.be ?_|refine Ru.bn ?_|refine RuQ.be ?_|refine RuQ.bn ?_|refine CW.s ?_); conv => whnf)
  refine Ca.of (wput_ok w g t X 2 c h t.of 1 (by omega) (by omega) (by omega) (by omega) (by omega) (fun j hj => by unfold bodyF; rw [if_neg (by omega), if_pos (by omega)]; congr 1; omega)) ?_
  intro v w1 hp
  conv => whnf
  repeat ((first
    | refine HS.t ?_|refine Br.t ?_|refine Br.f ?_|refine Pk.f ?_|refine Pk.t ?_|refine Pk.and ?_|refine Pk.or ?_|refine Ix.n ?_|refine Ix.of _ (by rfl) (by omega) ?_|refine Ix.i ?_|refine Ar.la ?_|refine Ar.lb ?_|refine Ar.lc ?_|refine Dv.q ?_|refine Dv.r ?_|refine Br.y ?_|refine Br.n ?_|refine Br.ny ?_|refine Br.nn ?_|refine Br.is (by assumption) ?_|refine Br.isnt (by assumption) ?_|refine Ld.of (by assumption) ?_|refine Ru.neq_nil0 ?_|refine Ru.n1 ?_|refine Ru.eql_nil0 ?_|refine Ru.e1 ?_|refine Ru.e2 ?_|refine Ru.e3 ?_|refine Ru.n2 ?_|refine Ru.n3 ?_|refine Ru.neq_nil rfl ?_|refine Ru.eql_nil rfl ?_|refine Ru.eql_err rfl (by decide) ?_|refine Ru.neq_err rfl (by decide) ?_|refine Ru.be ?_|refine Ru.bn ?_|refine RuQ.be ?_|refine RuQ.bn ?_|refine CW.s ?_); conv => whnf)
  exact ⟨rfl, hp⟩
set_option maxHeartbeats 1000000 in
theorem seq_ok (h : Wr w g t X 3 c) (ht : t.ok) : Spec Try.prog 38 #[.pointer (some ⟨g, 0, none⟩)] w (WrPost w g t X 8) := by
  unfold Tg.ok at ht
  refine spec_of_wpE (T := tt) tt_ok Try.func38 rfl (by decide +kernel) Try.ntmps38 (by simp) ?_
  conv => whnf
  repeat ((first
    | (refine Ld.rowAt h.row 2 (by omega) (by omega) ?_)
    | refine HS.t ?_|refine Br.t ?_|refine Br.f ?_|refine Pk.f ?_|refine Pk.t ?_|refine Pk.and ?_|refine Pk.or ?_|refine Ix.n ?_|refine Ix.of _ (by rfl) (by omega) ?_|refine Ix.i ?_|refine Ar.la ?_|refine Ar.lb ?_|refine Ar.lc ?_|refine Dv.q ?_|refine Dv.r ?_|refine Br.y ?_|refine Br.n ?_|refine Br.ny ?_|refine Br.nn ?_|refine Br.is (by assumption) ?_|refine Br.isnt (by assumption) ?_|refine Ld.of (by assumption) ?_|refine Ru.neq_nil0 ?_|refine Ru.n1 ?_|refine Ru.eql_nil0 ?_|refine Ru.e1 ?_|refine Ru.e2 ?_|refine Ru.e3 ?_|refine Ru.n2 ?_|refine Ru.n3 ?_|refine Ru.neq_nil rfl ?_|refine Ru.eql_nil rfl ?_|refine Ru.eql_err rfl (by decide) ?_|refine Ru.neq_err rfl (by decide) ?_|refine Ru.be ?_|refine Ru.bn ?_|refine RuQ.be ?_|refine RuQ.bn ?_|refine CW.s ?_); conv => whnf)
  refine Ca.of (wput_ok w g t X 3 c h t.seq 5 (by omega) (by omega) (by omega) (by omega) (by omega) (fun j hj => by unfold bodyF; rw [if_neg (by omega), if_neg (by omega), if_pos (by omega)]; congr 1; omega)) ?_
  intro v w1 hp
  conv => whnf
  repeat ((first
    | refine HS.t ?_|refine Br.t ?_|refine Br.f ?_|refine Pk.f ?_|refine Pk.t ?_|refine Pk.and ?_|refine Pk.or ?_|refine Ix.n ?_|refine Ix.of _ (by rfl) (by omega) ?_|refine Ix.i ?_|refine Ar.la ?_|refine Ar.lb ?_|refine Ar.lc ?_|refine Dv.q ?_|refine Dv.r ?_|refine Br.y ?_|refine Br.n ?_|refine Br.ny ?_|refine Br.nn ?_|refine Br.is (by assumption) ?_|refine Br.isnt (by assumption) ?_|refine Ld.of (by assumption) ?_|refine Ru.neq_nil0 ?_|refine Ru.n1 ?_|refine Ru.eql_nil0 ?_|refine Ru.e1 ?_|refine Ru.e2 ?_|refine Ru.e3 ?_|refine Ru.n2 ?_|refine Ru.n3 ?_|refine Ru.neq_nil rfl ?_|refine Ru.eql_nil rfl ?_|refine Ru.eql_err rfl (by decide) ?_|refine Ru.neq_err rfl (by decide) ?_|refine Ru.be ?_|refine Ru.bn ?_|refine RuQ.be ?_|refine RuQ.bn ?_|refine CW.s ?_); conv => whnf)
  exact ⟨rfl, hp⟩
set_option maxHeartbeats 1000000 in
theorem copies_ok (h : Wr w g t X 8 c) (ht : t.ok) : Spec Try.prog 39 #[.pointer (some ⟨g, 0, none⟩)] w (WrPost w g t X 9) := by
  unfold Tg.ok at ht
  refine spec_of_wpE (T := tt) tt_ok Try.func39 rfl (by decide +kernel) Try.ntmps39 (by simp) ?_
  conv => whnf
  repeat ((first
    | (refine Ld.rowAt h.row 3 (by omega) (by omega) ?_)
    | refine HS.t ?_|refine Br.t ?_|refine Br.f ?_|refine Pk.f ?_|refine Pk.t ?_|refine Pk.and ?_|refine Pk.or ?_|refine Ix.n ?_|refine Ix.of _ (by rfl) (by omega) ?_|refine Ix.i ?_|refine Ar.la ?_|refine Ar.lb ?_|refine Ar.lc ?_|refine Dv.q ?_|refine Dv.r ?_|refine Br.y ?_|refine Br.n ?_|refine Br.ny ?_|refine Br.nn ?_|refine Br.is (by assumption) ?_|refine Br.isnt (by assumption) ?_|refine Ld.of (by assumption) ?_|refine Ru.neq_nil0 ?_|refine Ru.n1 ?_|refine Ru.eql_nil0 ?_|refine Ru.e1 ?_|refine Ru.e2 ?_|refine Ru.e3 ?_|refine Ru.n2 ?_|refine Ru.n3 ?_|refine Ru.neq_nil rfl ?_|refine Ru.eql_nil rfl ?_|refine Ru.eql_err rfl (by decide) ?_|refine Ru.neq_err rfl (by decide) ?_|refine Ru.be ?_|refine Ru.bn ?_|refine RuQ.be ?_|refine RuQ.bn ?_|refine CW.s ?_); conv => whnf)
  refine Ca.of (wput_ok w g t X 8 c h t.copy 1 (by omega) (by omega) (by omega) (by omega) (by omega) (fun j hj => by unfold bodyF; rw [if_neg (by omega), if_neg (by omega), if_neg (by omega), if_pos (by omega)]; congr 1; omega)) ?_
  intro v w1 hp
  conv => whnf
  repeat ((first
    | refine HS.t ?_|refine Br.t ?_|refine Br.f ?_|refine Pk.f ?_|refine Pk.t ?_|refine Pk.and ?_|refine Pk.or ?_|refine Ix.n ?_|refine Ix.of _ (by rfl) (by omega) ?_|refine Ix.i ?_|refine Ar.la ?_|refine Ar.lb ?_|refine Ar.lc ?_|refine Dv.q ?_|refine Dv.r ?_|refine Br.y ?_|refine Br.n ?_|refine Br.ny ?_|refine Br.nn ?_|refine Br.is (by assumption) ?_|refine Br.isnt (by assumption) ?_|refine Ld.of (by assumption) ?_|refine Ru.neq_nil0 ?_|refine Ru.n1 ?_|refine Ru.eql_nil0 ?_|refine Ru.e1 ?_|refine Ru.e2 ?_|refine Ru.e3 ?_|refine Ru.n2 ?_|refine Ru.n3 ?_|refine Ru.neq_nil rfl ?_|refine Ru.eql_nil rfl ?_|refine Ru.eql_err rfl (by decide) ?_|refine Ru.neq_err rfl (by decide) ?_|refine Ru.be ?_|refine Ru.bn ?_|refine RuQ.be ?_|refine RuQ.bn ?_|refine CW.s ?_); conv => whnf)
  exact ⟨rfl, hp⟩
set_option maxHeartbeats 1000000 in
theorem lost_ok (h : Wr w g t X 9 c) : Spec Try.prog 40 #[.pointer (some ⟨g, 0, none⟩)] w (WrPost w g t X 10) := by
  have hb : ∀ j, j < 1 → byteOf (if t.lost then 1 else 0) j = bodyF t (9 + j) := fun j hj => by
    obtain rfl : j = 0 := by omega
    rfl
  have hc : w.cell? ⟨g, 4, none⟩ = some (.bool t.lost) := h.row.cell 4 (by omega)
  refine spec_of_wpE (T := tt) tt_ok Try.func40 rfl (by decide +kernel) Try.ntmps40 (by simp) ?_
  cases hl : t.lost <;> rw [hl] at hb hc
  · conv => whnf
    repeat ((first
      | (refine Ld.at (by omega) hc ?_)
      | refine HS.t ?_|refine Br.t ?_|refine Br.f ?_|refine Pk.f ?_|refine Pk.t ?_|refine Pk.and ?_|refine Pk.or ?_|refine Ix.n ?_|refine Ix.of _ (by rfl) (by omega) ?_|refine Ix.i ?_|refine Ar.la ?_|refine Ar.lb ?_|refine Ar.lc ?_|refine Dv.q ?_|refine Dv.r ?_|refine Br.y ?_|refine Br.n ?_|refine Br.ny ?_|refine Br.nn ?_|refine Br.is (by assumption) ?_|refine Br.isnt (by assumption) ?_|refine Ld.of (by assumption) ?_|refine Ru.neq_nil0 ?_|refine Ru.n1 ?_|refine Ru.eql_nil0 ?_|refine Ru.e1 ?_|refine Ru.e2 ?_|refine Ru.e3 ?_|refine Ru.n2 ?_|refine Ru.n3 ?_|refine Ru.neq_nil rfl ?_|refine Ru.eql_nil rfl ?_|refine Ru.eql_err rfl (by decide) ?_|refine Ru.neq_err rfl (by decide) ?_|refine Ru.be ?_|refine Ru.bn ?_|refine RuQ.be ?_|refine RuQ.bn ?_|refine CW.s ?_); conv => whnf)
    refine Ca.of (wput_ok w g t X 9 c h 0 1 (by omega) (by omega) (by omega) (by omega) (by omega) hb) ?_
    intro v w1 hp
    conv => whnf
    repeat ((first
      | refine HS.t ?_|refine Br.t ?_|refine Br.f ?_|refine Pk.f ?_|refine Pk.t ?_|refine Pk.and ?_|refine Pk.or ?_|refine Ix.n ?_|refine Ix.of _ (by rfl) (by omega) ?_|refine Ix.i ?_|refine Ar.la ?_|refine Ar.lb ?_|refine Ar.lc ?_|refine Dv.q ?_|refine Dv.r ?_|refine Br.y ?_|refine Br.n ?_|refine Br.ny ?_|refine Br.nn ?_|refine Br.is (by assumption) ?_|refine Br.isnt (by assumption) ?_|refine Ld.of (by assumption) ?_|refine Ru.neq_nil0 ?_|refine Ru.n1 ?_|refine Ru.eql_nil0 ?_|refine Ru.e1 ?_|refine Ru.e2 ?_|refine Ru.e3 ?_|refine Ru.n2 ?_|refine Ru.n3 ?_|refine Ru.neq_nil rfl ?_|refine Ru.eql_nil rfl ?_|refine Ru.eql_err rfl (by decide) ?_|refine Ru.neq_err rfl (by decide) ?_|refine Ru.be ?_|refine Ru.bn ?_|refine RuQ.be ?_|refine RuQ.bn ?_|refine CW.s ?_); conv => whnf)
    exact ⟨rfl, hp⟩
  · conv => whnf
    repeat ((first
      | (refine Ld.at (by omega) hc ?_)
      | refine HS.t ?_|refine Br.t ?_|refine Br.f ?_|refine Pk.f ?_|refine Pk.t ?_|refine Pk.and ?_|refine Pk.or ?_|refine Ix.n ?_|refine Ix.of _ (by rfl) (by omega) ?_|refine Ix.i ?_|refine Ar.la ?_|refine Ar.lb ?_|refine Ar.lc ?_|refine Dv.q ?_|refine Dv.r ?_|refine Br.y ?_|refine Br.n ?_|refine Br.ny ?_|refine Br.nn ?_|refine Br.is (by assumption) ?_|refine Br.isnt (by assumption) ?_|refine Ld.of (by assumption) ?_|refine Ru.neq_nil0 ?_|refine Ru.n1 ?_|refine Ru.eql_nil0 ?_|refine Ru.e1 ?_|refine Ru.e2 ?_|refine Ru.e3 ?_|refine Ru.n2 ?_|refine Ru.n3 ?_|refine Ru.neq_nil rfl ?_|refine Ru.eql_nil rfl ?_|refine Ru.eql_err rfl (by decide) ?_|refine Ru.neq_err rfl (by decide) ?_|refine Ru.be ?_|refine Ru.bn ?_|refine RuQ.be ?_|refine RuQ.bn ?_|refine CW.s ?_); conv => whnf)
    refine Ca.of (wput_ok w g t X 9 c h 1 1 (by omega) (by omega) (by omega) (by omega) (by omega) hb) ?_
    intro v w1 hp
    conv => whnf
    repeat ((first
      | refine HS.t ?_|refine Br.t ?_|refine Br.f ?_|refine Pk.f ?_|refine Pk.t ?_|refine Pk.and ?_|refine Pk.or ?_|refine Ix.n ?_|refine Ix.of _ (by rfl) (by omega) ?_|refine Ix.i ?_|refine Ar.la ?_|refine Ar.lb ?_|refine Ar.lc ?_|refine Dv.q ?_|refine Dv.r ?_|refine Br.y ?_|refine Br.n ?_|refine Br.ny ?_|refine Br.nn ?_|refine Br.is (by assumption) ?_|refine Br.isnt (by assumption) ?_|refine Ld.of (by assumption) ?_|refine Ru.neq_nil0 ?_|refine Ru.n1 ?_|refine Ru.eql_nil0 ?_|refine Ru.e1 ?_|refine Ru.e2 ?_|refine Ru.e3 ?_|refine Ru.n2 ?_|refine Ru.n3 ?_|refine Ru.neq_nil rfl ?_|refine Ru.eql_nil rfl ?_|refine Ru.eql_err rfl (by decide) ?_|refine Ru.neq_err rfl (by decide) ?_|refine Ru.be ?_|refine Ru.bn ?_|refine RuQ.be ?_|refine RuQ.bn ?_|refine CW.s ?_); conv => whnf)
    exact ⟨rfl, hp⟩
end
/-- The five methods. -/
def fnF (g : Nat) (j : Nat) : Value := (#[.func (.func 36) #[.pointer (some ⟨g, 0, none⟩)] #[], .func (.func 37) #[.pointer (some ⟨g, 0, none⟩)] #[], .func (.func 38) #[.pointer (some ⟨g, 0, none⟩)] #[], .func (.func 39) #[.pointer (some ⟨g, 0, none⟩)] #[], .func (.func 40) #[.pointer (some ⟨g, 0, none⟩)] #[]] : Array Value).getD j .nilIface
theorem build_fns (g : Nat) (w : World) : (Instr.buildSlice 97 5 #[(0, fnF g 0), (1, fnF g 1), (2, fnF g 2), (3, fnF g 3), (4, fnF g 4)]).run Try.prog w = .ok (.slice (some ⟨w.heap.size, 0, none⟩) 5 5) (w.alloc (.cells ((Array.range 5).map (fnF g)) 96)) := by kernel_rfl
theorem build_wr (t : Tg) (w : World) : (Instr.build 95 #[(0, .agg t.arr)]).run Try.prog w = .ok (.agg #[.int .i64 t.place, .int .i64 t.of, .int .i64 t.seq, .int .i64 t.copy, .bool t.lost, .slice none 0 0]) w := by kernel_rfl
theorem wr_range (t : Tg) : (Array.range 6).map (wrc t (.slice none 0 0)) = #[.int .i64 t.place, .int .i64 t.of, .int .i64 t.seq, .int .i64 t.copy, .bool t.lost, .slice none 0 0] := by
  apply Array.ext
  · simp
  · intro i h1 h2
    have h3 : i < 6 := by simpa using h1
    have : i = 0 ∨ i = 1 ∨ i = 2 ∨ i = 3 ∨ i = 4 ∨ i = 5 := by omega
    rcases this with rfl | rfl | rfl | rfl | rfl | rfl <;> simp [Tg.cell, Tg.arr, wrc]
structure EncIn (w : World) (g gs : Nat) (t : Tg) (i : Nat) (X : Option Addr) (c : Nat) (w' : World) : Prop where
  wr : Wr w' g t X (preN i) c
  fns : Row w' gs 96 5 (fnF g)
  new : w.heap.size ≤ g ∧ ∀ x, x ∈ blk X → w.heap.size ≤ x
  keep : Keep [] w w'
theorem EncIn.step {w : World} {g gs : Nat} {t : Tg} {i : Nat} {X : Option Addr} {c : Nat} {wr w1 : World} {v : Value} (I : EncIn w g gs t i X c wr) (h : WrPost wr g t X (preN (i + 1)) v w1) : v = .nilIface ∧ ∃ Y d, EncIn w g gs t (i + 1) Y d w1 := by
  obtain ⟨rfl, Y, d, h1, k, hn⟩ := h
  have hg : gs ∉ blk X := I.wr.ly.row_ne I.fns (by decide)
  have hg2 : gs ≠ g := I.fns.ne_ I.wr.row (by decide)
  refine ⟨rfl, Y, d, h1, I.fns.keep k (by simp [hg, hg2]), ⟨I.new.1, fun x hx => ?_⟩, I.keep.then k (fun x hx => ?_)⟩
  · rcases hn x hx with h | h
    · exact I.new.2 x h
    · have := I.keep.size; omega
  · rcases List.mem_cons.1 hx with rfl | hx
    · exact .inr I.new.1
    · exact .inr (I.new.2 x hx)
/-- What Encode answers. -/
def EncPost (t : Tg) (w : World) (v : Value) (w' : World) : Prop := Keep [] w w' ∧ ((t.ok ∧ ∃ Y d, v = .tuple #[.slice Y 50 d, .nilIface] ∧ Ly w' 5 1 Y 50 d (fun j => .int .u8 (bodyF t j)) ∧ ∀ x, x ∈ blk Y → w.heap.size ≤ x) ∨ (¬ t.ok ∧ v = .tuple #[.slice none 0 0, errOf 1]))
set_option maxHeartbeats 4000000 in
theorem encode_ok (t : Tg) (w : World) : Spec Try.prog 20 #[.agg t.arr] w (EncPost t w) := by
  obtain ⟨i0, hi, hz0, hz1, hz2⟩ := info_parts byte_info
  refine spec_of_wpE (T := tt) tt_ok Try.func20 rfl (by decide +kernel) Try.ntmps20 (by simp) ?_
  conv => whnf
  repeat ((first
    | refine HS.t ?_|refine Br.t ?_|refine Br.f ?_|refine Pk.f ?_|refine Pk.t ?_|refine Pk.and ?_|refine Pk.or ?_|refine Ix.n ?_|refine Ix.of _ (by rfl) (by omega) ?_|refine Ix.i ?_|refine Ar.la ?_|refine Ar.lb ?_|refine Ar.lc ?_|refine Dv.q ?_|refine Dv.r ?_|refine Br.y ?_|refine Br.n ?_|refine Br.ny ?_|refine Br.nn ?_|refine Br.is (by assumption) ?_|refine Br.isnt (by assumption) ?_|refine Ld.of (by assumption) ?_|refine Ru.neq_nil0 ?_|refine Ru.n1 ?_|refine Ru.eql_nil0 ?_|refine Ru.e1 ?_|refine Ru.e2 ?_|refine Ru.e3 ?_|refine Ru.n2 ?_|refine Ru.n3 ?_|refine Ru.neq_nil rfl ?_|refine Ru.eql_nil rfl ?_|refine Ru.eql_err rfl (by decide) ?_|refine Ru.neq_err rfl (by decide) ?_|refine Ru.be ?_|refine Ru.bn ?_|refine RuQ.be ?_|refine RuQ.bn ?_|refine CW.s ?_); conv => whnf)
  refine Ru.boxtg ?_
  intro g1 w1 hg1 hs1 r1 k1
  conv => whnf
  repeat ((first
    | refine HS.t ?_|refine Br.t ?_|refine Br.f ?_|refine Pk.f ?_|refine Pk.t ?_|refine Pk.and ?_|refine Pk.or ?_|refine Ix.n ?_|refine Ix.of _ (by rfl) (by omega) ?_|refine Ix.i ?_|refine Ar.la ?_|refine Ar.lb ?_|refine Ar.lc ?_|refine Dv.q ?_|refine Dv.r ?_|refine Br.y ?_|refine Br.n ?_|refine Br.ny ?_|refine Br.nn ?_|refine Br.is (by assumption) ?_|refine Br.isnt (by assumption) ?_|refine Ld.of (by assumption) ?_|refine Ru.neq_nil0 ?_|refine Ru.n1 ?_|refine Ru.eql_nil0 ?_|refine Ru.e1 ?_|refine Ru.e2 ?_|refine Ru.e3 ?_|refine Ru.n2 ?_|refine Ru.n3 ?_|refine Ru.neq_nil rfl ?_|refine Ru.eql_nil rfl ?_|refine Ru.eql_err rfl (by decide) ?_|refine Ru.neq_err rfl (by decide) ?_|refine Ru.be ?_|refine Ru.bn ?_|refine RuQ.be ?_|refine RuQ.bn ?_|refine CW.s ?_); conv => whnf)
  refine Ru.ldtg r1 ?_
  conv => whnf
  repeat ((first
    | refine HS.t ?_|refine Br.t ?_|refine Br.f ?_|refine Pk.f ?_|refine Pk.t ?_|refine Pk.and ?_|refine Pk.or ?_|refine Ix.n ?_|refine Ix.of _ (by rfl) (by omega) ?_|refine Ix.i ?_|refine Ar.la ?_|refine Ar.lb ?_|refine Ar.lc ?_|refine Dv.q ?_|refine Dv.r ?_|refine Br.y ?_|refine Br.n ?_|refine Br.ny ?_|refine Br.nn ?_|refine Br.is (by assumption) ?_|refine Br.isnt (by assumption) ?_|refine Ld.of (by assumption) ?_|refine Ru.neq_nil0 ?_|refine Ru.n1 ?_|refine Ru.eql_nil0 ?_|refine Ru.e1 ?_|refine Ru.e2 ?_|refine Ru.e3 ?_|refine Ru.n2 ?_|refine Ru.n3 ?_|refine Ru.neq_nil rfl ?_|refine Ru.eql_nil rfl ?_|refine Ru.eql_err rfl (by decide) ?_|refine Ru.neq_err rfl (by decide) ?_|refine Ru.be ?_|refine Ru.bn ?_|refine RuQ.be ?_|refine RuQ.bn ?_|refine CW.s ?_); conv => whnf)
  refine Ca.of (check_ok t w1) ?_
  rintro _ w2 ⟨rfl, k2⟩
  have r2 := r1.keep k2 (by simp)
  have k12 := k1.trans k2
  by_cases ht : t.ok
  case neg =>
    have he : t.err = 1 := by unfold Tg.err; rw [if_neg ht]
    rw [he]
    conv => whnf
    repeat ((first
      | (refine Br.nyes (by omega) ?_)
      | refine HS.t ?_|refine Br.t ?_|refine Br.f ?_|refine Pk.f ?_|refine Pk.t ?_|refine Pk.and ?_|refine Pk.or ?_|refine Ix.n ?_|refine Ix.of _ (by rfl) (by omega) ?_|refine Ix.i ?_|refine Ar.la ?_|refine Ar.lb ?_|refine Ar.lc ?_|refine Dv.q ?_|refine Dv.r ?_|refine Br.y ?_|refine Br.n ?_|refine Br.ny ?_|refine Br.nn ?_|refine Br.is (by assumption) ?_|refine Br.isnt (by assumption) ?_|refine Ld.of (by assumption) ?_|refine Ru.neq_nil0 ?_|refine Ru.n1 ?_|refine Ru.eql_nil0 ?_|refine Ru.e1 ?_|refine Ru.e2 ?_|refine Ru.e3 ?_|refine Ru.n2 ?_|refine Ru.n3 ?_|refine Ru.neq_nil rfl ?_|refine Ru.eql_nil rfl ?_|refine Ru.eql_err rfl (by decide) ?_|refine Ru.neq_err rfl (by decide) ?_|refine Ru.be ?_|refine Ru.bn ?_|refine RuQ.be ?_|refine RuQ.bn ?_|refine CW.s ?_); conv => whnf)
    exact ⟨rfl, k12, .inr ⟨ht, rfl⟩⟩
  have he : t.err = 0 := by unfold Tg.err; rw [if_pos ht]
  rw [he]
  conv => whnf
  repeat ((first
    | refine HS.t ?_|refine Br.t ?_|refine Br.f ?_|refine Pk.f ?_|refine Pk.t ?_|refine Pk.and ?_|refine Pk.or ?_|refine Ix.n ?_|refine Ix.of _ (by rfl) (by omega) ?_|refine Ix.i ?_|refine Ar.la ?_|refine Ar.lb ?_|refine Ar.lc ?_|refine Dv.q ?_|refine Dv.r ?_|refine Br.y ?_|refine Br.n ?_|refine Br.ny ?_|refine Br.nn ?_|refine Br.is (by assumption) ?_|refine Br.isnt (by assumption) ?_|refine Ld.of (by assumption) ?_|refine Ru.neq_nil0 ?_|refine Ru.n1 ?_|refine Ru.eql_nil0 ?_|refine Ru.e1 ?_|refine Ru.e2 ?_|refine Ru.e3 ?_|refine Ru.n2 ?_|refine Ru.n3 ?_|refine Ru.neq_nil rfl ?_|refine Ru.eql_nil rfl ?_|refine Ru.eql_err rfl (by decide) ?_|refine Ru.neq_err rfl (by decide) ?_|refine Ru.be ?_|refine Ru.bn ?_|refine RuQ.be ?_|refine RuQ.bn ?_|refine CW.s ?_); conv => whnf)
  refine Ru.ldtg r2 ?_
  conv => whnf
  repeat ((first
    | refine HS.t ?_|refine Br.t ?_|refine Br.f ?_|refine Pk.f ?_|refine Pk.t ?_|refine Pk.and ?_|refine Pk.or ?_|refine Ix.n ?_|refine Ix.of _ (by rfl) (by omega) ?_|refine Ix.i ?_|refine Ar.la ?_|refine Ar.lb ?_|refine Ar.lc ?_|refine Dv.q ?_|refine Dv.r ?_|refine Br.y ?_|refine Br.n ?_|refine Br.ny ?_|refine Br.nn ?_|refine Br.is (by assumption) ?_|refine Br.isnt (by assumption) ?_|refine Ld.of (by assumption) ?_|refine Ru.neq_nil0 ?_|refine Ru.n1 ?_|refine Ru.eql_nil0 ?_|refine Ru.e1 ?_|refine Ru.e2 ?_|refine Ru.e3 ?_|refine Ru.n2 ?_|refine Ru.n3 ?_|refine Ru.neq_nil rfl ?_|refine Ru.eql_nil rfl ?_|refine Ru.eql_err rfl (by decide) ?_|refine Ru.neq_err rfl (by decide) ?_|refine Ru.be ?_|refine Ru.bn ?_|refine RuQ.be ?_|refine RuQ.bn ?_|refine CW.s ?_); conv => whnf)
  refine Ru.of (build_wr t w2) ?_
  rw [← wr_range t]
  conv => whnf
  repeat ((first
    | refine HS.t ?_|refine Br.t ?_|refine Br.f ?_|refine Pk.f ?_|refine Pk.t ?_|refine Pk.and ?_|refine Pk.or ?_|refine Ix.n ?_|refine Ix.of _ (by rfl) (by omega) ?_|refine Ix.i ?_|refine Ar.la ?_|refine Ar.lb ?_|refine Ar.lc ?_|refine Dv.q ?_|refine Dv.r ?_|refine Br.y ?_|refine Br.n ?_|refine Br.ny ?_|refine Br.nn ?_|refine Br.is (by assumption) ?_|refine Br.isnt (by assumption) ?_|refine Ld.of (by assumption) ?_|refine Ru.neq_nil0 ?_|refine Ru.n1 ?_|refine Ru.eql_nil0 ?_|refine Ru.e1 ?_|refine Ru.e2 ?_|refine Ru.e3 ?_|refine Ru.n2 ?_|refine Ru.n3 ?_|refine Ru.neq_nil rfl ?_|refine Ru.eql_nil rfl ?_|refine Ru.eql_err rfl (by decide) ?_|refine Ru.neq_err rfl (by decide) ?_|refine Ru.be ?_|refine Ru.bn ?_|refine RuQ.be ?_|refine RuQ.bn ?_|refine CW.s ?_); conv => whnf)
  refine Ru.boxa (n := 6) (s := wrc t (.slice none 0 0)) ?_
  intro g w3 hg hs3 r3 k3
  conv => whnf
  repeat ((first
    | refine HS.t ?_|refine Br.t ?_|refine Br.f ?_|refine Pk.f ?_|refine Pk.t ?_|refine Pk.and ?_|refine Pk.or ?_|refine Ix.n ?_|refine Ix.of _ (by rfl) (by omega) ?_|refine Ix.i ?_|refine Ar.la ?_|refine Ar.lb ?_|refine Ar.lc ?_|refine Dv.q ?_|refine Dv.r ?_|refine Br.y ?_|refine Br.n ?_|refine Br.ny ?_|refine Br.nn ?_|refine Br.is (by assumption) ?_|refine Br.isnt (by assumption) ?_|refine Ld.of (by assumption) ?_|refine Ru.neq_nil0 ?_|refine Ru.n1 ?_|refine Ru.eql_nil0 ?_|refine Ru.e1 ?_|refine Ru.e2 ?_|refine Ru.e3 ?_|refine Ru.n2 ?_|refine Ru.n3 ?_|refine Ru.neq_nil rfl ?_|refine Ru.eql_nil rfl ?_|refine Ru.eql_err rfl (by decide) ?_|refine Ru.neq_err rfl (by decide) ?_|refine Ru.be ?_|refine Ru.bn ?_|refine RuQ.be ?_|refine RuQ.bn ?_|refine CW.s ?_); conv => whnf)
  refine Ru.of (build_fns g w3) ?_
  have r4 : Row (w3.alloc (.cells ((Array.range 5).map (fnF g)) 96)) w3.heap.size 96 5 (fnF g) := Row.new _ _ _ _
  have k4 : Keep [] w3 (w3.alloc (.cells ((Array.range 5).map (fnF g)) 96)) := (Keep.refl _ _).alloc _
  have r34 := r3.keep k4 (by simp)
  generalize w3.alloc (.cells ((Array.range 5).map (fnF g)) 96) = w4 at *
  generalize w3.heap.size = gs at *
  have I0 : EncIn w g gs t 0 none 0 w4 := ⟨⟨r34, Ly.nil _ _ _ _⟩, r4, ⟨by rw [hg]; exact k12.size, fun x hx => by cases hx⟩, (k12.trans k3).trans k4⟩
  conv => whnf
  repeat ((first
    | refine HS.t ?_|refine Br.t ?_|refine Br.f ?_|refine Pk.f ?_|refine Pk.t ?_|refine Pk.and ?_|refine Pk.or ?_|refine Ix.n ?_|refine Ix.of _ (by rfl) (by omega) ?_|refine Ix.i ?_|refine Ar.la ?_|refine Ar.lb ?_|refine Ar.lc ?_|refine Dv.q ?_|refine Dv.r ?_|refine Br.y ?_|refine Br.n ?_|refine Br.ny ?_|refine Br.nn ?_|refine Br.is (by assumption) ?_|refine Br.isnt (by assumption) ?_|refine Ld.of (by assumption) ?_|refine Ru.neq_nil0 ?_|refine Ru.n1 ?_|refine Ru.eql_nil0 ?_|refine Ru.e1 ?_|refine Ru.e2 ?_|refine Ru.e3 ?_|refine Ru.n2 ?_|refine Ru.n3 ?_|refine Ru.neq_nil rfl ?_|refine Ru.eql_nil rfl ?_|refine Ru.eql_err rfl (by decide) ?_|refine Ru.neq_err rfl (by decide) ?_|refine Ru.be ?_|refine Ru.bn ?_|refine RuQ.be ?_|refine RuQ.bn ?_|refine CW.s ?_); conv => whnf)
  refine CW.loop (ι := Nat × Option Addr × Nat) (fun i wr => i.1 ≤ 5 ∧ EncIn w g gs t i.1 i.2.1 i.2.2 wr) (fun i => [(5, .pointer (some ⟨g, 0, none⟩)), (27, .slice (some ⟨gs, 0, none⟩) 5 5), (28, .int .i64 5), (29, .int .i64 i.1)]) (fun i => 5 - i.1) (0, none, 0) tt_ok ⟨by simp, I0⟩ ⟨rfl, rfl, rfl, rfl, trivial⟩ ?_
  rintro ⟨i, X, c⟩ wr ⟨hi5, I⟩
  simp only at hi5 I
  have : i = 0 ∨ i = 1 ∨ i = 2 ∨ i = 3 ∨ i = 4 ∨ i = 5 := by omega
  have ff : ∀ j, j < 5 → wr.cell? ⟨gs, j, none⟩ = some (fnF g j) := fun j hj => I.fns.cell j hj
  rcases this with rfl | rfl | rfl | rfl | rfl | rfl
  · have f0 := ff 0 (by omega)
    conv => whnf
    repeat ((first
      | (refine Ld.at (by omega) f0 ?_)
      | refine HS.t ?_|refine Br.t ?_|refine Br.f ?_|refine Pk.f ?_|refine Pk.t ?_|refine Pk.and ?_|refine Pk.or ?_|refine Ix.n ?_|refine Ix.of _ (by rfl) (by omega) ?_|refine Ix.i ?_|refine Ar.la ?_|refine Ar.lb ?_|refine Ar.lc ?_|refine Dv.q ?_|refine Dv.r ?_|refine Br.y ?_|refine Br.n ?_|refine Br.ny ?_|refine Br.nn ?_|refine Br.is (by assumption) ?_|refine Br.isnt (by assumption) ?_|refine Ld.of (by assumption) ?_|refine Ru.neq_nil0 ?_|refine Ru.n1 ?_|refine Ru.eql_nil0 ?_|refine Ru.e1 ?_|refine Ru.e2 ?_|refine Ru.e3 ?_|refine Ru.n2 ?_|refine Ru.n3 ?_|refine Ru.neq_nil rfl ?_|refine Ru.eql_nil rfl ?_|refine Ru.eql_err rfl (by decide) ?_|refine Ru.neq_err rfl (by decide) ?_|refine Ru.be ?_|refine Ru.bn ?_|refine RuQ.be ?_|refine RuQ.bn ?_|refine CW.s ?_); conv => whnf)
    refine Ca.of (place_ok wr g t X c I.wr ht) ?_
    intro v w5 hp
    obtain ⟨rfl, Y, d, I⟩ := I.step hp
    conv => whnf
    repeat ((first
      | refine HS.t ?_|refine Br.t ?_|refine Br.f ?_|refine Pk.f ?_|refine Pk.t ?_|refine Pk.and ?_|refine Pk.or ?_|refine Ix.n ?_|refine Ix.of _ (by rfl) (by omega) ?_|refine Ix.i ?_|refine Ar.la ?_|refine Ar.lb ?_|refine Ar.lc ?_|refine Dv.q ?_|refine Dv.r ?_|refine Br.y ?_|refine Br.n ?_|refine Br.ny ?_|refine Br.nn ?_|refine Br.is (by assumption) ?_|refine Br.isnt (by assumption) ?_|refine Ld.of (by assumption) ?_|refine Ru.neq_nil0 ?_|refine Ru.n1 ?_|refine Ru.eql_nil0 ?_|refine Ru.e1 ?_|refine Ru.e2 ?_|refine Ru.e3 ?_|refine Ru.n2 ?_|refine Ru.n3 ?_|refine Ru.neq_nil rfl ?_|refine Ru.eql_nil rfl ?_|refine Ru.eql_err rfl (by decide) ?_|refine Ru.neq_err rfl (by decide) ?_|refine Ru.be ?_|refine Ru.bn ?_|refine RuQ.be ?_|refine RuQ.bn ?_|refine CW.s ?_); conv => whnf)
    exact ⟨(1, Y, d), ⟨by simp, I⟩, ⟨rfl, rfl, rfl, rfl, trivial⟩, by simp only; omega⟩
  · have f0 := ff 1 (by omega)
    conv => whnf
    repeat ((first
      | (refine Ld.at (by omega) f0 ?_)
      | refine HS.t ?_|refine Br.t ?_|refine Br.f ?_|refine Pk.f ?_|refine Pk.t ?_|refine Pk.and ?_|refine Pk.or ?_|refine Ix.n ?_|refine Ix.of _ (by rfl) (by omega) ?_|refine Ix.i ?_|refine Ar.la ?_|refine Ar.lb ?_|refine Ar.lc ?_|refine Dv.q ?_|refine Dv.r ?_|refine Br.y ?_|refine Br.n ?_|refine Br.ny ?_|refine Br.nn ?_|refine Br.is (by assumption) ?_|refine Br.isnt (by assumption) ?_|refine Ld.of (by assumption) ?_|refine Ru.neq_nil0 ?_|refine Ru.n1 ?_|refine Ru.eql_nil0 ?_|refine Ru.e1 ?_|refine Ru.e2 ?_|refine Ru.e3 ?_|refine Ru.n2 ?_|refine Ru.n3 ?_|refine Ru.neq_nil rfl ?_|refine Ru.eql_nil rfl ?_|refine Ru.eql_err rfl (by decide) ?_|refine Ru.neq_err rfl (by decide) ?_|refine Ru.be ?_|refine Ru.bn ?_|refine RuQ.be ?_|refine RuQ.bn ?_|refine CW.s ?_); conv => whnf)
    refine Ca.of (of_ok wr g t X c I.wr ht) ?_
    intro v w5 hp
    obtain ⟨rfl, Y, d, I⟩ := I.step hp
    conv => whnf
    repeat ((first
      | refine HS.t ?_|refine Br.t ?_|refine Br.f ?_|refine Pk.f ?_|refine Pk.t ?_|refine Pk.and ?_|refine Pk.or ?_|refine Ix.n ?_|refine Ix.of _ (by rfl) (by omega) ?_|refine Ix.i ?_|refine Ar.la ?_|refine Ar.lb ?_|refine Ar.lc ?_|refine Dv.q ?_|refine Dv.r ?_|refine Br.y ?_|refine Br.n ?_|refine Br.ny ?_|refine Br.nn ?_|refine Br.is (by assumption) ?_|refine Br.isnt (by assumption) ?_|refine Ld.of (by assumption) ?_|refine Ru.neq_nil0 ?_|refine Ru.n1 ?_|refine Ru.eql_nil0 ?_|refine Ru.e1 ?_|refine Ru.e2 ?_|refine Ru.e3 ?_|refine Ru.n2 ?_|refine Ru.n3 ?_|refine Ru.neq_nil rfl ?_|refine Ru.eql_nil rfl ?_|refine Ru.eql_err rfl (by decide) ?_|refine Ru.neq_err rfl (by decide) ?_|refine Ru.be ?_|refine Ru.bn ?_|refine RuQ.be ?_|refine RuQ.bn ?_|refine CW.s ?_); conv => whnf)
    exact ⟨(2, Y, d), ⟨by simp, I⟩, ⟨rfl, rfl, rfl, rfl, trivial⟩, by simp only; omega⟩
  · have f0 := ff 2 (by omega)
    conv => whnf
    repeat ((first
      | (refine Ld.at (by omega) f0 ?_)
      | refine HS.t ?_|refine Br.t ?_|refine Br.f ?_|refine Pk.f ?_|refine Pk.t ?_|refine Pk.and ?_|refine Pk.or ?_|refine Ix.n ?_|refine Ix.of _ (by rfl) (by omega) ?_|refine Ix.i ?_|refine Ar.la ?_|refine Ar.lb ?_|refine Ar.lc ?_|refine Dv.q ?_|refine Dv.r ?_|refine Br.y ?_|refine Br.n ?_|refine Br.ny ?_|refine Br.nn ?_|refine Br.is (by assumption) ?_|refine Br.isnt (by assumption) ?_|refine Ld.of (by assumption) ?_|refine Ru.neq_nil0 ?_|refine Ru.n1 ?_|refine Ru.eql_nil0 ?_|refine Ru.e1 ?_|refine Ru.e2 ?_|refine Ru.e3 ?_|refine Ru.n2 ?_|refine Ru.n3 ?_|refine Ru.neq_nil rfl ?_|refine Ru.eql_nil rfl ?_|refine Ru.eql_err rfl (by decide) ?_|refine Ru.neq_err rfl (by decide) ?_|refine Ru.be ?_|refine Ru.bn ?_|refine RuQ.be ?_|refine RuQ.bn ?_|refine CW.s ?_); conv => whnf)
    refine Ca.of (seq_ok wr g t X c I.wr ht) ?_
    intro v w5 hp
    obtain ⟨rfl, Y, d, I⟩ := I.step hp
    conv => whnf
    repeat ((first
      | refine HS.t ?_|refine Br.t ?_|refine Br.f ?_|refine Pk.f ?_|refine Pk.t ?_|refine Pk.and ?_|refine Pk.or ?_|refine Ix.n ?_|refine Ix.of _ (by rfl) (by omega) ?_|refine Ix.i ?_|refine Ar.la ?_|refine Ar.lb ?_|refine Ar.lc ?_|refine Dv.q ?_|refine Dv.r ?_|refine Br.y ?_|refine Br.n ?_|refine Br.ny ?_|refine Br.nn ?_|refine Br.is (by assumption) ?_|refine Br.isnt (by assumption) ?_|refine Ld.of (by assumption) ?_|refine Ru.neq_nil0 ?_|refine Ru.n1 ?_|refine Ru.eql_nil0 ?_|refine Ru.e1 ?_|refine Ru.e2 ?_|refine Ru.e3 ?_|refine Ru.n2 ?_|refine Ru.n3 ?_|refine Ru.neq_nil rfl ?_|refine Ru.eql_nil rfl ?_|refine Ru.eql_err rfl (by decide) ?_|refine Ru.neq_err rfl (by decide) ?_|refine Ru.be ?_|refine Ru.bn ?_|refine RuQ.be ?_|refine RuQ.bn ?_|refine CW.s ?_); conv => whnf)
    exact ⟨(3, Y, d), ⟨by simp, I⟩, ⟨rfl, rfl, rfl, rfl, trivial⟩, by simp only; omega⟩
  · have f0 := ff 3 (by omega)
    conv => whnf
    repeat ((first
      | (refine Ld.at (by omega) f0 ?_)
      | refine HS.t ?_|refine Br.t ?_|refine Br.f ?_|refine Pk.f ?_|refine Pk.t ?_|refine Pk.and ?_|refine Pk.or ?_|refine Ix.n ?_|refine Ix.of _ (by rfl) (by omega) ?_|refine Ix.i ?_|refine Ar.la ?_|refine Ar.lb ?_|refine Ar.lc ?_|refine Dv.q ?_|refine Dv.r ?_|refine Br.y ?_|refine Br.n ?_|refine Br.ny ?_|refine Br.nn ?_|refine Br.is (by assumption) ?_|refine Br.isnt (by assumption) ?_|refine Ld.of (by assumption) ?_|refine Ru.neq_nil0 ?_|refine Ru.n1 ?_|refine Ru.eql_nil0 ?_|refine Ru.e1 ?_|refine Ru.e2 ?_|refine Ru.e3 ?_|refine Ru.n2 ?_|refine Ru.n3 ?_|refine Ru.neq_nil rfl ?_|refine Ru.eql_nil rfl ?_|refine Ru.eql_err rfl (by decide) ?_|refine Ru.neq_err rfl (by decide) ?_|refine Ru.be ?_|refine Ru.bn ?_|refine RuQ.be ?_|refine RuQ.bn ?_|refine CW.s ?_); conv => whnf)
    refine Ca.of (copies_ok wr g t X c I.wr ht) ?_
    intro v w5 hp
    obtain ⟨rfl, Y, d, I⟩ := I.step hp
    conv => whnf
    repeat ((first
      | refine HS.t ?_|refine Br.t ?_|refine Br.f ?_|refine Pk.f ?_|refine Pk.t ?_|refine Pk.and ?_|refine Pk.or ?_|refine Ix.n ?_|refine Ix.of _ (by rfl) (by omega) ?_|refine Ix.i ?_|refine Ar.la ?_|refine Ar.lb ?_|refine Ar.lc ?_|refine Dv.q ?_|refine Dv.r ?_|refine Br.y ?_|refine Br.n ?_|refine Br.ny ?_|refine Br.nn ?_|refine Br.is (by assumption) ?_|refine Br.isnt (by assumption) ?_|refine Ld.of (by assumption) ?_|refine Ru.neq_nil0 ?_|refine Ru.n1 ?_|refine Ru.eql_nil0 ?_|refine Ru.e1 ?_|refine Ru.e2 ?_|refine Ru.e3 ?_|refine Ru.n2 ?_|refine Ru.n3 ?_|refine Ru.neq_nil rfl ?_|refine Ru.eql_nil rfl ?_|refine Ru.eql_err rfl (by decide) ?_|refine Ru.neq_err rfl (by decide) ?_|refine Ru.be ?_|refine Ru.bn ?_|refine RuQ.be ?_|refine RuQ.bn ?_|refine CW.s ?_); conv => whnf)
    exact ⟨(4, Y, d), ⟨by simp, I⟩, ⟨rfl, rfl, rfl, rfl, trivial⟩, by simp only; omega⟩
  · have f0 := ff 4 (by omega)
    conv => whnf
    repeat ((first
      | (refine Ld.at (by omega) f0 ?_)
      | refine HS.t ?_|refine Br.t ?_|refine Br.f ?_|refine Pk.f ?_|refine Pk.t ?_|refine Pk.and ?_|refine Pk.or ?_|refine Ix.n ?_|refine Ix.of _ (by rfl) (by omega) ?_|refine Ix.i ?_|refine Ar.la ?_|refine Ar.lb ?_|refine Ar.lc ?_|refine Dv.q ?_|refine Dv.r ?_|refine Br.y ?_|refine Br.n ?_|refine Br.ny ?_|refine Br.nn ?_|refine Br.is (by assumption) ?_|refine Br.isnt (by assumption) ?_|refine Ld.of (by assumption) ?_|refine Ru.neq_nil0 ?_|refine Ru.n1 ?_|refine Ru.eql_nil0 ?_|refine Ru.e1 ?_|refine Ru.e2 ?_|refine Ru.e3 ?_|refine Ru.n2 ?_|refine Ru.n3 ?_|refine Ru.neq_nil rfl ?_|refine Ru.eql_nil rfl ?_|refine Ru.eql_err rfl (by decide) ?_|refine Ru.neq_err rfl (by decide) ?_|refine Ru.be ?_|refine Ru.bn ?_|refine RuQ.be ?_|refine RuQ.bn ?_|refine CW.s ?_); conv => whnf)
    refine Ca.of (lost_ok wr g t X c I.wr) ?_
    intro v w5 hp
    obtain ⟨rfl, Y, d, I⟩ := I.step hp
    conv => whnf
    repeat ((first
      | refine HS.t ?_|refine Br.t ?_|refine Br.f ?_|refine Pk.f ?_|refine Pk.t ?_|refine Pk.and ?_|refine Pk.or ?_|refine Ix.n ?_|refine Ix.of _ (by rfl) (by omega) ?_|refine Ix.i ?_|refine Ar.la ?_|refine Ar.lb ?_|refine Ar.lc ?_|refine Dv.q ?_|refine Dv.r ?_|refine Br.y ?_|refine Br.n ?_|refine Br.ny ?_|refine Br.nn ?_|refine Br.is (by assumption) ?_|refine Br.isnt (by assumption) ?_|refine Ld.of (by assumption) ?_|refine Ru.neq_nil0 ?_|refine Ru.n1 ?_|refine Ru.eql_nil0 ?_|refine Ru.e1 ?_|refine Ru.e2 ?_|refine Ru.e3 ?_|refine Ru.n2 ?_|refine Ru.n3 ?_|refine Ru.neq_nil rfl ?_|refine Ru.eql_nil rfl ?_|refine Ru.eql_err rfl (by decide) ?_|refine Ru.neq_err rfl (by decide) ?_|refine Ru.be ?_|refine Ru.bn ?_|refine RuQ.be ?_|refine RuQ.bn ?_|refine CW.s ?_); conv => whnf)
    exact ⟨(5, Y, d), ⟨by simp, I⟩, ⟨rfl, rfl, rfl, rfl, trivial⟩, by simp only; omega⟩
  · clear ff
    have c5 : wr.cell? ⟨g, 5, none⟩ = some (.slice X 10 c) := I.wr.row.cell 5 (by omega)
    conv => whnf
    repeat ((first
      | refine HS.t ?_|refine Br.t ?_|refine Br.f ?_|refine Pk.f ?_|refine Pk.t ?_|refine Pk.and ?_|refine Pk.or ?_|refine Ix.n ?_|refine Ix.of _ (by rfl) (by omega) ?_|refine Ix.i ?_|refine Ar.la ?_|refine Ar.lb ?_|refine Ar.lc ?_|refine Dv.q ?_|refine Dv.r ?_|refine Br.y ?_|refine Br.n ?_|refine Br.ny ?_|refine Br.nn ?_|refine Br.is (by assumption) ?_|refine Br.isnt (by assumption) ?_|refine Ld.of (by assumption) ?_|refine Ru.neq_nil0 ?_|refine Ru.n1 ?_|refine Ru.eql_nil0 ?_|refine Ru.e1 ?_|refine Ru.e2 ?_|refine Ru.e3 ?_|refine Ru.n2 ?_|refine Ru.n3 ?_|refine Ru.neq_nil rfl ?_|refine Ru.eql_nil rfl ?_|refine Ru.eql_err rfl (by decide) ?_|refine Ru.neq_err rfl (by decide) ?_|refine Ru.be ?_|refine Ru.bn ?_|refine RuQ.be ?_|refine RuQ.bn ?_|refine CW.s ?_); conv => whnf)
    refine CW.held (fun w' => w'.cell? ⟨g, 5, none⟩ = some (.slice X 10 c)) [] (.take 0 (.take 1 (.take 2 (.take 3 (.take 4 (.take 5 (.take 6 (.take 7 (.take 8 (.take 9 (.one 10 (.take 11 (.take 12 (.done)))))))))))))) tt_ok (by kernel_rfl) (by kernel_rfl) (by kernel_rfl) ?_ ?_
    · exact c5
    conv => whnf
    repeat ((first
      | (refine LdQ.at (by omega) (fun _ h => h) ?_)
      | refine HS.t ?_|refine Br.t ?_|refine Br.f ?_|refine Pk.f ?_|refine Pk.t ?_|refine Pk.and ?_|refine Pk.or ?_|refine Ix.n ?_|refine Ix.of _ (by rfl) (by omega) ?_|refine Ix.i ?_|refine Ar.la ?_|refine Ar.lb ?_|refine Ar.lc ?_|refine Dv.q ?_|refine Dv.r ?_|refine Br.y ?_|refine Br.n ?_|refine Br.ny ?_|refine Br.nn ?_|refine Br.is (by assumption) ?_|refine Br.isnt (by assumption) ?_|refine Ld.of (by assumption) ?_|refine Ru.neq_nil0 ?_|refine Ru.n1 ?_|refine Ru.eql_nil0 ?_|refine Ru.e1 ?_|refine Ru.e2 ?_|refine Ru.e3 ?_|refine Ru.n2 ?_|refine Ru.n3 ?_|refine Ru.neq_nil rfl ?_|refine Ru.eql_nil rfl ?_|refine Ru.eql_err rfl (by decide) ?_|refine Ru.neq_err rfl (by decide) ?_|refine Ru.be ?_|refine Ru.bn ?_|refine RuQ.be ?_|refine RuQ.bn ?_|refine CW.s ?_); conv => whnf)
    have hgX : g ∉ blk X := I.wr.ly.row_ne I.wr.row (by decide)
    refine Bu.append0 Try.underlying22 Try.underlying3 hi hz0 hz1 hz2 (I.wr.ly.keep0 ((Keep.refl [] wr).drewN 1)) (by decide) (m := 40) (by omega) (by decide) ?_
    intro Y d w5 hy k5 hat
    conv => whnf
    repeat ((first
      | refine HS.t ?_|refine Br.t ?_|refine Br.f ?_|refine Pk.f ?_|refine Pk.t ?_|refine Pk.and ?_|refine Pk.or ?_|refine Ix.n ?_|refine Ix.of _ (by rfl) (by omega) ?_|refine Ix.i ?_|refine Ar.la ?_|refine Ar.lb ?_|refine Ar.lc ?_|refine Dv.q ?_|refine Dv.r ?_|refine Br.y ?_|refine Br.n ?_|refine Br.ny ?_|refine Br.nn ?_|refine Br.is (by assumption) ?_|refine Br.isnt (by assumption) ?_|refine Ld.of (by assumption) ?_|refine Ru.neq_nil0 ?_|refine Ru.n1 ?_|refine Ru.eql_nil0 ?_|refine Ru.e1 ?_|refine Ru.e2 ?_|refine Ru.e3 ?_|refine Ru.n2 ?_|refine Ru.n3 ?_|refine Ru.neq_nil rfl ?_|refine Ru.eql_nil rfl ?_|refine Ru.eql_err rfl (by decide) ?_|refine Ru.neq_err rfl (by decide) ?_|refine Ru.be ?_|refine Ru.bn ?_|refine RuQ.be ?_|refine RuQ.bn ?_|refine CW.s ?_); conv => whnf)
    have k5' : Keep (blk X) wr w5 := ((Keep.refl _ wr).drewN 1).trans k5
    refine ⟨(k5'.cell (p := ⟨g, 5, none⟩) I.wr.row.lt hgX).trans c5, ?_⟩
    conv => whnf
    repeat ((first
      | refine HS.t ?_|refine Br.t ?_|refine Br.f ?_|refine Pk.f ?_|refine Pk.t ?_|refine Pk.and ?_|refine Pk.or ?_|refine Ix.n ?_|refine Ix.of _ (by rfl) (by omega) ?_|refine Ix.i ?_|refine Ar.la ?_|refine Ar.lb ?_|refine Ar.lc ?_|refine Dv.q ?_|refine Dv.r ?_|refine Br.y ?_|refine Br.n ?_|refine Br.ny ?_|refine Br.nn ?_|refine Br.is (by assumption) ?_|refine Br.isnt (by assumption) ?_|refine Ld.of (by assumption) ?_|refine Ru.neq_nil0 ?_|refine Ru.n1 ?_|refine Ru.eql_nil0 ?_|refine Ru.e1 ?_|refine Ru.e2 ?_|refine Ru.e3 ?_|refine Ru.n2 ?_|refine Ru.n3 ?_|refine Ru.neq_nil rfl ?_|refine Ru.eql_nil rfl ?_|refine Ru.eql_err rfl (by decide) ?_|refine Ru.neq_err rfl (by decide) ?_|refine Ru.be ?_|refine Ru.bn ?_|refine RuQ.be ?_|refine RuQ.bn ?_|refine CW.s ?_); conv => whnf)
    refine ⟨rfl, I.keep.then k5' (fun x hx => .inr (I.new.2 x hx)), .inl ⟨ht, Y, d, rfl, hy.congr (fun j hj => ?_), fun x hx => ?_⟩⟩
    · by_cases h : j < preN 5
      · rw [if_pos h]
      · rw [if_neg h]
        have h : ¬ j < 10 := h
        unfold bodyF
        rw [if_neg (by omega), if_neg (by omega), if_neg (by omega), if_neg (by omega), if_neg (by omega)]
    · rcases hat with e | e
      · rw [e] at hx; exact I.new.2 x hx
      · rw [e] at hx
        rw [List.mem_singleton.1 hx]
        exact I.keep.size
end Go.Proofs.Ytkpaafjnjmmehaa
/- Layer 7: Decode. -/
namespace Go.Proofs.Ytkpaafjnjmmehaa
open Go.RowKit
set_option linter.unusedVariables false
set_option maxRecDepth 20000
/-- The tag that bytes tell. -/
def decT (f : Nat → Int) : Tg := ⟨numOf f 2, f 2, numOf (fun j => f (3 + j)) 5, f 8, decide (f 9 = 1)⟩
def decOk (f : Nat → Int) : Prop := (decT f).ok ∧ ∀ j, j < 50 → bodyF (decT f) j = f j
open Classical in
noncomputable def decV (n : Nat) (f : Nat → Int) : Tg × Int := if n = 50 then (if decOk f then (decT f, 0) else (Tg.zero, 3)) else (Tg.zero, 1)
theorem decV_no {n : Nat} {f : Nat → Int} (h : n ≠ 50) : decV n f = (Tg.zero, 1) := if_neg h
theorem decV_bad {f : Nat → Int} (h : ¬ decOk f) : decV 50 f = (Tg.zero, 3) := by unfold decV; rw [if_pos rfl, if_neg h]
theorem decV_ok {f : Nat → Int} (h : decOk f) : decV 50 f = (decT f, 0) := by unfold decV; rw [if_pos rfl, if_pos h]
theorem build_tg (a b c d : Int) (l : Bool) (w : World) : (Instr.build 29 #[(0, .int .i64 a), (1, .int .i64 b), (2, .int .i64 c), (3, .int .i64 d), (4, .bool l)]).run Try.prog w = .ok (.agg (Tg.mk a b c d l).arr) w := by kernel_rfl
theorem build_tg0 (w : World) : (Instr.build 29 #[]).run Try.prog w = .ok (.agg Tg.zero.arr) w := by kernel_rfl
theorem byte_is : szIs Try.prog 5 1 = true := by kernel_rfl
theorem get_sp (A : Option Addr) (n c : Nat) (f : Nat → Int) (w : World) (r : Rd w A n (fun j => .int .u8 (f j))) (hf : ∀ j, 0 ≤ f j ∧ f j ≤ 255) (hn : 1 ≤ n) (hn8 : n ≤ 8) :
    Spec Try.prog 48 #[.slice A n c] w fun v w' => v = .tuple #[.int .u64 (numOf f n), .nilIface] ∧ w = w' := Spec.of_calls (by kernel_rfl) (get_ok A n c f w r hf hn hn8)
theorem Rd.part {w : World} {b o n m k : Nat} {f : Nat → Value} (r : Rd w (some ⟨b, o, none⟩) n f) (h : k + m ≤ n) : Rd w (some ⟨b, o + k, none⟩) m (fun j => f (k + j)) := fun hm => by
  obtain ⟨b', o', e, hc⟩ := r (by omega)
  injection e with e
  injection e with e1 e2 _
  subst e1
  subst e2
  exact ⟨_, _, rfl, fun j hj => by rw [Nat.add_assoc]; exact hc (k + j) (by omega)⟩
set_option maxHeartbeats 4000000 in
theorem decode_ok (A : Option Addr) (n c : Nat) (f : Nat → Int) (w : World) (r : Rd w A n (fun j => .int .u8 (f j))) (hf : ∀ j, 0 ≤ f j ∧ f j ≤ 255) (hn : n ≤ c) :
    Spec Try.prog 29 #[.slice A n c] w fun v w' => v = .tuple #[.agg (decV n f).1.arr, errOf (decV n f).2] ∧ Keep [] w w' := by
  refine spec_of_wpE (T := tt) tt_ok Try.func29 rfl (by decide +kernel) Try.ntmps29 (by simp) ?_
  conv => whnf
  repeat ((first
    | refine HS.t ?_|refine Br.t ?_|refine Br.f ?_|refine Pk.f ?_|refine Pk.t ?_|refine Pk.and ?_|refine Pk.or ?_|refine Ix.n ?_|refine Ix.of _ (by rfl) (by omega) ?_|refine Ix.i ?_|refine Ar.la ?_|refine Ar.lb ?_|refine Ar.lc ?_|refine Dv.q ?_|refine Dv.r ?_|refine Br.y ?_|refine Br.n ?_|refine Br.ny ?_|refine Br.nn ?_|refine Br.is (by assumption) ?_|refine Br.isnt (by assumption) ?_|refine Ld.of (by assumption) ?_|refine Ru.neq_nil0 ?_|refine Ru.n1 ?_|refine Ru.eql_nil0 ?_|refine Ru.e1 ?_|refine Ru.e2 ?_|refine Ru.e3 ?_|refine Ru.n2 ?_|refine Ru.n3 ?_|refine Ru.neq_nil rfl ?_|refine Ru.eql_nil rfl ?_|refine Ru.eql_err rfl (by decide) ?_|refine Ru.neq_err rfl (by decide) ?_|refine Ru.be ?_|refine Ru.bn ?_|refine RuQ.be ?_|refine RuQ.bn ?_|refine CW.s ?_); conv => whnf)
  refine Ru.alloctg ?_
  intro g w1 hg hs1 r1 k1
  by_cases h50 : n = 50
  case neg =>
    rw [decV_no h50]
    conv => whnf
    repeat ((first
      | refine HS.t ?_|refine Br.t ?_|refine Br.f ?_|refine Pk.f ?_|refine Pk.t ?_|refine Pk.and ?_|refine Pk.or ?_|refine Ix.n ?_|refine Ix.of _ (by rfl) (by omega) ?_|refine Ix.i ?_|refine Ar.la ?_|refine Ar.lb ?_|refine Ar.lc ?_|refine Dv.q ?_|refine Dv.r ?_|refine Br.y ?_|refine Br.n ?_|refine Br.ny ?_|refine Br.nn ?_|refine Br.is (by assumption) ?_|refine Br.isnt (by assumption) ?_|refine Ld.of (by assumption) ?_|refine Ru.neq_nil0 ?_|refine Ru.n1 ?_|refine Ru.eql_nil0 ?_|refine Ru.e1 ?_|refine Ru.e2 ?_|refine Ru.e3 ?_|refine Ru.n2 ?_|refine Ru.n3 ?_|refine Ru.neq_nil rfl ?_|refine Ru.eql_nil rfl ?_|refine Ru.eql_err rfl (by decide) ?_|refine Ru.neq_err rfl (by decide) ?_|refine Ru.be ?_|refine Ru.bn ?_|refine RuQ.be ?_|refine RuQ.bn ?_|refine CW.s ?_); conv => whnf)
    refine Ru.of (build_tg0 _) ?_
    conv => whnf
    repeat ((first
      | refine HS.t ?_|refine Br.t ?_|refine Br.f ?_|refine Pk.f ?_|refine Pk.t ?_|refine Pk.and ?_|refine Pk.or ?_|refine Ix.n ?_|refine Ix.of _ (by rfl) (by omega) ?_|refine Ix.i ?_|refine Ar.la ?_|refine Ar.lb ?_|refine Ar.lc ?_|refine Dv.q ?_|refine Dv.r ?_|refine Br.y ?_|refine Br.n ?_|refine Br.ny ?_|refine Br.nn ?_|refine Br.is (by assumption) ?_|refine Br.isnt (by assumption) ?_|refine Ld.of (by assumption) ?_|refine Ru.neq_nil0 ?_|refine Ru.n1 ?_|refine Ru.eql_nil0 ?_|refine Ru.e1 ?_|refine Ru.e2 ?_|refine Ru.e3 ?_|refine Ru.n2 ?_|refine Ru.n3 ?_|refine Ru.neq_nil rfl ?_|refine Ru.eql_nil rfl ?_|refine Ru.eql_err rfl (by decide) ?_|refine Ru.neq_err rfl (by decide) ?_|refine Ru.be ?_|refine Ru.bn ?_|refine RuQ.be ?_|refine RuQ.bn ?_|refine CW.s ?_); conv => whnf)
    refine Ru.sttg (t := Tg.zero) r1 ?_
    intro w2 r2 k2
    conv => whnf
    repeat ((first
      | refine HS.t ?_|refine Br.t ?_|refine Br.f ?_|refine Pk.f ?_|refine Pk.t ?_|refine Pk.and ?_|refine Pk.or ?_|refine Ix.n ?_|refine Ix.of _ (by rfl) (by omega) ?_|refine Ix.i ?_|refine Ar.la ?_|refine Ar.lb ?_|refine Ar.lc ?_|refine Dv.q ?_|refine Dv.r ?_|refine Br.y ?_|refine Br.n ?_|refine Br.ny ?_|refine Br.nn ?_|refine Br.is (by assumption) ?_|refine Br.isnt (by assumption) ?_|refine Ld.of (by assumption) ?_|refine Ru.neq_nil0 ?_|refine Ru.n1 ?_|refine Ru.eql_nil0 ?_|refine Ru.e1 ?_|refine Ru.e2 ?_|refine Ru.e3 ?_|refine Ru.n2 ?_|refine Ru.n3 ?_|refine Ru.neq_nil rfl ?_|refine Ru.eql_nil rfl ?_|refine Ru.eql_err rfl (by decide) ?_|refine Ru.neq_err rfl (by decide) ?_|refine Ru.be ?_|refine Ru.bn ?_|refine RuQ.be ?_|refine RuQ.bn ?_|refine CW.s ?_); conv => whnf)
    refine Ru.ldtg r2 ?_
    exact ⟨rfl, rfl, k1.then k2 (fun x hx => .inr (by rw [List.mem_singleton.1 hx, hg]; exact Nat.le_refl _))⟩
  subst h50
  obtain ⟨b, o, rfl, hc⟩ := r (by omega)
  have R1 := r.keep0 k1
  have n2 : numOf f 2 < 65536 := (numOf_bd f hf 2).2
  have n5 : numOf (fun j => f (3 + j)) 5 < 1099511627776 := (numOf_bd (fun j => f (3 + j)) (fun j => hf _) 5).2
  have m2 := (numOf_bd f hf 2).1
  have m5 := (numOf_bd (fun j => f (3 + j)) (fun j => hf _) 5).1
  conv => whnf
  repeat ((first
    | refine HS.t ?_|refine Br.t ?_|refine Br.f ?_|refine Pk.f ?_|refine Pk.t ?_|refine Pk.and ?_|refine Pk.or ?_|refine Ix.n ?_|refine Ix.of _ (by rfl) (by omega) ?_|refine Ix.i ?_|refine Ar.la ?_|refine Ar.lb ?_|refine Ar.lc ?_|refine Dv.q ?_|refine Dv.r ?_|refine Br.y ?_|refine Br.n ?_|refine Br.ny ?_|refine Br.nn ?_|refine Br.is (by assumption) ?_|refine Br.isnt (by assumption) ?_|refine Ld.of (by assumption) ?_|refine Ru.neq_nil0 ?_|refine Ru.n1 ?_|refine Ru.eql_nil0 ?_|refine Ru.e1 ?_|refine Ru.e2 ?_|refine Ru.e3 ?_|refine Ru.n2 ?_|refine Ru.n3 ?_|refine Ru.neq_nil rfl ?_|refine Ru.eql_nil rfl ?_|refine Ru.eql_err rfl (by decide) ?_|refine Ru.neq_err rfl (by decide) ?_|refine Ru.be ?_|refine Ru.bn ?_|refine RuQ.be ?_|refine RuQ.bn ?_|refine CW.s ?_); conv => whnf)
  refine Ru.sl_h Try.underlying22 byte_is (h := 2) (by omega) ?_
  conv => whnf
  repeat ((first
    | refine HS.t ?_|refine Br.t ?_|refine Br.f ?_|refine Pk.f ?_|refine Pk.t ?_|refine Pk.and ?_|refine Pk.or ?_|refine Ix.n ?_|refine Ix.of _ (by rfl) (by omega) ?_|refine Ix.i ?_|refine Ar.la ?_|refine Ar.lb ?_|refine Ar.lc ?_|refine Dv.q ?_|refine Dv.r ?_|refine Br.y ?_|refine Br.n ?_|refine Br.ny ?_|refine Br.nn ?_|refine Br.is (by assumption) ?_|refine Br.isnt (by assumption) ?_|refine Ld.of (by assumption) ?_|refine Ru.neq_nil0 ?_|refine Ru.n1 ?_|refine Ru.eql_nil0 ?_|refine Ru.e1 ?_|refine Ru.e2 ?_|refine Ru.e3 ?_|refine Ru.n2 ?_|refine Ru.n3 ?_|refine Ru.neq_nil rfl ?_|refine Ru.eql_nil rfl ?_|refine Ru.eql_err rfl (by decide) ?_|refine Ru.neq_err rfl (by decide) ?_|refine Ru.be ?_|refine Ru.bn ?_|refine RuQ.be ?_|refine RuQ.bn ?_|refine CW.s ?_); conv => whnf)
  refine Ca.of (get_sp _ 2 c f w1 (R1.mono_len (by omega)) hf (by omega) (by omega)) ?_
  rintro _ _ ⟨rfl, rfl⟩
  conv => whnf
  repeat ((first
    | refine HS.t ?_|refine Br.t ?_|refine Br.f ?_|refine Pk.f ?_|refine Pk.t ?_|refine Pk.and ?_|refine Pk.or ?_|refine Ix.n ?_|refine Ix.of _ (by rfl) (by omega) ?_|refine Ix.i ?_|refine Ar.la ?_|refine Ar.lb ?_|refine Ar.lc ?_|refine Dv.q ?_|refine Dv.r ?_|refine Br.y ?_|refine Br.n ?_|refine Br.ny ?_|refine Br.nn ?_|refine Br.is (by assumption) ?_|refine Br.isnt (by assumption) ?_|refine Ld.of (by assumption) ?_|refine Ru.neq_nil0 ?_|refine Ru.n1 ?_|refine Ru.eql_nil0 ?_|refine Ru.e1 ?_|refine Ru.e2 ?_|refine Ru.e3 ?_|refine Ru.n2 ?_|refine Ru.n3 ?_|refine Ru.neq_nil rfl ?_|refine Ru.eql_nil rfl ?_|refine Ru.eql_err rfl (by decide) ?_|refine Ru.neq_err rfl (by decide) ?_|refine Ru.be ?_|refine Ru.bn ?_|refine RuQ.be ?_|refine RuQ.bn ?_|refine CW.s ?_); conv => whnf)
  refine Ru.sl_lh Try.underlying22 byte_is (l := 3) (h := 8) (by omega) (by omega) (by omega) ?_
  conv => whnf
  repeat ((first
    | refine HS.t ?_|refine Br.t ?_|refine Br.f ?_|refine Pk.f ?_|refine Pk.t ?_|refine Pk.and ?_|refine Pk.or ?_|refine Ix.n ?_|refine Ix.of _ (by rfl) (by omega) ?_|refine Ix.i ?_|refine Ar.la ?_|refine Ar.lb ?_|refine Ar.lc ?_|refine Dv.q ?_|refine Dv.r ?_|refine Br.y ?_|refine Br.n ?_|refine Br.ny ?_|refine Br.nn ?_|refine Br.is (by assumption) ?_|refine Br.isnt (by assumption) ?_|refine Ld.of (by assumption) ?_|refine Ru.neq_nil0 ?_|refine Ru.n1 ?_|refine Ru.eql_nil0 ?_|refine Ru.e1 ?_|refine Ru.e2 ?_|refine Ru.e3 ?_|refine Ru.n2 ?_|refine Ru.n3 ?_|refine Ru.neq_nil rfl ?_|refine Ru.eql_nil rfl ?_|refine Ru.eql_err rfl (by decide) ?_|refine Ru.neq_err rfl (by decide) ?_|refine Ru.be ?_|refine Ru.bn ?_|refine RuQ.be ?_|refine RuQ.bn ?_|refine CW.s ?_); conv => whnf)
  refine Ca.of (get_sp _ 5 (c - 3) (fun j => f (3 + j)) w1 (R1.part (k := 3) (m := 5) (by omega)) (fun j => hf _) (by omega) (by omega)) ?_
  rintro _ _ ⟨rfl, rfl⟩
  conv => whnf
  repeat ((first
    | refine HS.t ?_|refine Br.t ?_|refine Br.f ?_|refine Pk.f ?_|refine Pk.t ?_|refine Pk.and ?_|refine Pk.or ?_|refine Ix.n ?_|refine Ix.of _ (by rfl) (by omega) ?_|refine Ix.i ?_|refine Ar.la ?_|refine Ar.lb ?_|refine Ar.lc ?_|refine Dv.q ?_|refine Dv.r ?_|refine Br.y ?_|refine Br.n ?_|refine Br.ny ?_|refine Br.nn ?_|refine Br.is (by assumption) ?_|refine Br.isnt (by assumption) ?_|refine Ld.of (by assumption) ?_|refine Ru.neq_nil0 ?_|refine Ru.n1 ?_|refine Ru.eql_nil0 ?_|refine Ru.e1 ?_|refine Ru.e2 ?_|refine Ru.e3 ?_|refine Ru.n2 ?_|refine Ru.n3 ?_|refine Ru.neq_nil rfl ?_|refine Ru.eql_nil rfl ?_|refine Ru.eql_err rfl (by decide) ?_|refine Ru.neq_err rfl (by decide) ?_|refine Ru.be ?_|refine Ru.bn ?_|refine RuQ.be ?_|refine RuQ.bn ?_|refine CW.s ?_); conv => whnf)
  have hc1 : ∀ j, j < 50 → w1.cell? ⟨b, o + j, none⟩ = some (.int .u8 (f j)) := fun j hj => (k1.cell (p := ⟨b, o + j, none⟩) (cell_lt (hc j hj)) (by simp)).trans (hc j hj)
  refine CW.held (fun w' => ∀ j, j < 50 → w'.cell? ⟨b, o + j, none⟩ = some (.int .u8 (f j))) [18] (.take 0 (.take 1 (.take 2 (.take 3 (.take 4 (.take 5 (.take 6 (.take 7 (.take 8 (.take 9 (.take 10 (.take 11 (.take 12 (.take 13 (.take 14 (.take 15 (.take 16 (.one 17 (.one 18 (.done)))))))))))))))))))) tt_ok (by kernel_rfl) (by kernel_rfl) (by kernel_rfl) ?_ ?_
  · exact hc1
  have f2 := hf 2
  have f8 := hf 8
  have f9 := hf 9
  conv => whnf
  repeat ((first
    | (refine LdQ.at rfl (fun _ h => h _ (by omega)) ?_)
    | (refine Ix.of 2 rfl (by omega) ?_)
    | (refine Ix.of 8 rfl (by omega) ?_)
    | (refine Ix.of 9 rfl (by omega) ?_)
    | refine HS.t ?_|refine Br.t ?_|refine Br.f ?_|refine Pk.f ?_|refine Pk.t ?_|refine Pk.and ?_|refine Pk.or ?_|refine Ix.n ?_|refine Ix.of _ (by rfl) (by omega) ?_|refine Ix.i ?_|refine Ar.la ?_|refine Ar.lb ?_|refine Ar.lc ?_|refine Dv.q ?_|refine Dv.r ?_|refine Br.y ?_|refine Br.n ?_|refine Br.ny ?_|refine Br.nn ?_|refine Br.is (by assumption) ?_|refine Br.isnt (by assumption) ?_|refine Ld.of (by assumption) ?_|refine Ru.neq_nil0 ?_|refine Ru.n1 ?_|refine Ru.eql_nil0 ?_|refine Ru.e1 ?_|refine Ru.e2 ?_|refine Ru.e3 ?_|refine Ru.n2 ?_|refine Ru.n3 ?_|refine Ru.neq_nil rfl ?_|refine Ru.eql_nil rfl ?_|refine Ru.eql_err rfl (by decide) ?_|refine Ru.neq_err rfl (by decide) ?_|refine Ru.be ?_|refine Ru.bn ?_|refine RuQ.be ?_|refine RuQ.bn ?_|refine CW.s ?_); conv => whnf)
  refine RuQ.of (fun _ _ => build_tg _ _ _ _ _ _) ?_
  have ht : Tg.mk (numOf f 2) (f 2) (numOf (fun j => f (3 + j)) 5) (f 8) (decide (f 9 = 1)) = decT f := rfl
  rw [ht]
  clear ht
  have hbad : ¬ ((decT f).ok ∧ ∀ j, j < 50 → bodyF (decT f) j = f j) → decV 50 f = (Tg.zero, 3) := decV_bad
  have hgood : ((decT f).ok ∧ ∀ j, j < 50 → bodyF (decT f) j = f j) → decV 50 f = (decT f, 0) := decV_ok
  generalize decT f = t at *
  conv => whnf
  repeat ((first
    | refine HS.t ?_|refine Br.t ?_|refine Br.f ?_|refine Pk.f ?_|refine Pk.t ?_|refine Pk.and ?_|refine Pk.or ?_|refine Ix.n ?_|refine Ix.of _ (by rfl) (by omega) ?_|refine Ix.i ?_|refine Ar.la ?_|refine Ar.lb ?_|refine Ar.lc ?_|refine Dv.q ?_|refine Dv.r ?_|refine Br.y ?_|refine Br.n ?_|refine Br.ny ?_|refine Br.nn ?_|refine Br.is (by assumption) ?_|refine Br.isnt (by assumption) ?_|refine Ld.of (by assumption) ?_|refine Ru.neq_nil0 ?_|refine Ru.n1 ?_|refine Ru.eql_nil0 ?_|refine Ru.e1 ?_|refine Ru.e2 ?_|refine Ru.e3 ?_|refine Ru.n2 ?_|refine Ru.n3 ?_|refine Ru.neq_nil rfl ?_|refine Ru.eql_nil rfl ?_|refine Ru.eql_err rfl (by decide) ?_|refine Ru.neq_err rfl (by decide) ?_|refine Ru.be ?_|refine Ru.bn ?_|refine RuQ.be ?_|refine RuQ.bn ?_|refine CW.s ?_); conv => whnf)
  refine Ru.alloctg ?_
  intro g7 w2 hg7 hs2 r7 k2
  have k2' : Keep [] w1 w2 := ((Keep.refl [] w1).drewN 1).trans k2
  have hc2 : ∀ j, j < 50 → w2.cell? ⟨b, o + j, none⟩ = some (.int .u8 (f j)) := fun j hj => (k2'.cell (p := ⟨b, o + j, none⟩) (cell_lt (hc1 j hj)) (by simp)).trans (hc1 j hj)
  conv => whnf
  repeat ((first
    | refine HS.t ?_|refine Br.t ?_|refine Br.f ?_|refine Pk.f ?_|refine Pk.t ?_|refine Pk.and ?_|refine Pk.or ?_|refine Ix.n ?_|refine Ix.of _ (by rfl) (by omega) ?_|refine Ix.i ?_|refine Ar.la ?_|refine Ar.lb ?_|refine Ar.lc ?_|refine Dv.q ?_|refine Dv.r ?_|refine Br.y ?_|refine Br.n ?_|refine Br.ny ?_|refine Br.nn ?_|refine Br.is (by assumption) ?_|refine Br.isnt (by assumption) ?_|refine Ld.of (by assumption) ?_|refine Ru.neq_nil0 ?_|refine Ru.n1 ?_|refine Ru.eql_nil0 ?_|refine Ru.e1 ?_|refine Ru.e2 ?_|refine Ru.e3 ?_|refine Ru.n2 ?_|refine Ru.n3 ?_|refine Ru.neq_nil rfl ?_|refine Ru.eql_nil rfl ?_|refine Ru.eql_err rfl (by decide) ?_|refine Ru.neq_err rfl (by decide) ?_|refine Ru.be ?_|refine Ru.bn ?_|refine RuQ.be ?_|refine RuQ.bn ?_|refine CW.s ?_); conv => whnf)
  refine ⟨hc2, ?_⟩
  conv => whnf
  repeat ((first
    | refine HS.t ?_|refine Br.t ?_|refine Br.f ?_|refine Pk.f ?_|refine Pk.t ?_|refine Pk.and ?_|refine Pk.or ?_|refine Ix.n ?_|refine Ix.of _ (by rfl) (by omega) ?_|refine Ix.i ?_|refine Ar.la ?_|refine Ar.lb ?_|refine Ar.lc ?_|refine Dv.q ?_|refine Dv.r ?_|refine Br.y ?_|refine Br.n ?_|refine Br.ny ?_|refine Br.nn ?_|refine Br.is (by assumption) ?_|refine Br.isnt (by assumption) ?_|refine Ld.of (by assumption) ?_|refine Ru.neq_nil0 ?_|refine Ru.n1 ?_|refine Ru.eql_nil0 ?_|refine Ru.e1 ?_|refine Ru.e2 ?_|refine Ru.e3 ?_|refine Ru.n2 ?_|refine Ru.n3 ?_|refine Ru.neq_nil rfl ?_|refine Ru.eql_nil rfl ?_|refine Ru.eql_err rfl (by decide) ?_|refine Ru.neq_err rfl (by decide) ?_|refine Ru.be ?_|refine Ru.bn ?_|refine RuQ.be ?_|refine RuQ.bn ?_|refine CW.s ?_); conv => whnf)
  refine Ru.sttg (t := t) r7 ?_
  intro w3 r7 k3
  have k13 : Keep [] w1 w3 := k2'.then k3 (fun x hx => .inr (by rw [List.mem_singleton.1 hx, hg7]; exact Nat.le_refl _))
  conv => whnf
  repeat ((first
    | refine HS.t ?_|refine Br.t ?_|refine Br.f ?_|refine Pk.f ?_|refine Pk.t ?_|refine Pk.and ?_|refine Pk.or ?_|refine Ix.n ?_|refine Ix.of _ (by rfl) (by omega) ?_|refine Ix.i ?_|refine Ar.la ?_|refine Ar.lb ?_|refine Ar.lc ?_|refine Dv.q ?_|refine Dv.r ?_|refine Br.y ?_|refine Br.n ?_|refine Br.ny ?_|refine Br.nn ?_|refine Br.is (by assumption) ?_|refine Br.isnt (by assumption) ?_|refine Ld.of (by assumption) ?_|refine Ru.neq_nil0 ?_|refine Ru.n1 ?_|refine Ru.eql_nil0 ?_|refine Ru.e1 ?_|refine Ru.e2 ?_|refine Ru.e3 ?_|refine Ru.n2 ?_|refine Ru.n3 ?_|refine Ru.neq_nil rfl ?_|refine Ru.eql_nil rfl ?_|refine Ru.eql_err rfl (by decide) ?_|refine Ru.neq_err rfl (by decide) ?_|refine Ru.be ?_|refine Ru.bn ?_|refine RuQ.be ?_|refine RuQ.bn ?_|refine CW.s ?_); conv => whnf)
  refine Ru.ldtg r7 ?_
  conv => whnf
  repeat ((first
    | refine HS.t ?_|refine Br.t ?_|refine Br.f ?_|refine Pk.f ?_|refine Pk.t ?_|refine Pk.and ?_|refine Pk.or ?_|refine Ix.n ?_|refine Ix.of _ (by rfl) (by omega) ?_|refine Ix.i ?_|refine Ar.la ?_|refine Ar.lb ?_|refine Ar.lc ?_|refine Dv.q ?_|refine Dv.r ?_|refine Br.y ?_|refine Br.n ?_|refine Br.ny ?_|refine Br.nn ?_|refine Br.is (by assumption) ?_|refine Br.isnt (by assumption) ?_|refine Ld.of (by assumption) ?_|refine Ru.neq_nil0 ?_|refine Ru.n1 ?_|refine Ru.eql_nil0 ?_|refine Ru.e1 ?_|refine Ru.e2 ?_|refine Ru.e3 ?_|refine Ru.n2 ?_|refine Ru.n3 ?_|refine Ru.neq_nil rfl ?_|refine Ru.eql_nil rfl ?_|refine Ru.eql_err rfl (by decide) ?_|refine Ru.neq_err rfl (by decide) ?_|refine Ru.be ?_|refine Ru.bn ?_|refine RuQ.be ?_|refine RuQ.bn ?_|refine CW.s ?_); conv => whnf)
  refine Ca.of (encode_ok t w3) ?_
  rintro v w4 ⟨k4, hv⟩
  have k14 := k13.trans k4
  have r1 := r1.keep k14 (by simp)
  have r7 := r7.keep k4 (by simp)
  have R4 := R1.keep0 k14
  have kend : ∀ w9, Keep [g] w4 w9 → Keep [] w w9 := fun w9 k9 => (k1.trans k14).then k9 (fun x hx => .inr (by rw [List.mem_singleton.1 hx, hg]; exact Nat.le_refl _))
  rcases hv with ⟨hok, Y, d, rfl, hy, hnew⟩ | ⟨hok, rfl⟩
  · conv => whnf
    repeat ((first
      | refine HS.t ?_|refine Br.t ?_|refine Br.f ?_|refine Pk.f ?_|refine Pk.t ?_|refine Pk.and ?_|refine Pk.or ?_|refine Ix.n ?_|refine Ix.of _ (by rfl) (by omega) ?_|refine Ix.i ?_|refine Ar.la ?_|refine Ar.lb ?_|refine Ar.lc ?_|refine Dv.q ?_|refine Dv.r ?_|refine Br.y ?_|refine Br.n ?_|refine Br.ny ?_|refine Br.nn ?_|refine Br.is (by assumption) ?_|refine Br.isnt (by assumption) ?_|refine Ld.of (by assumption) ?_|refine Ru.neq_nil0 ?_|refine Ru.n1 ?_|refine Ru.eql_nil0 ?_|refine Ru.e1 ?_|refine Ru.e2 ?_|refine Ru.e3 ?_|refine Ru.n2 ?_|refine Ru.n3 ?_|refine Ru.neq_nil rfl ?_|refine Ru.eql_nil rfl ?_|refine Ru.eql_err rfl (by decide) ?_|refine Ru.neq_err rfl (by decide) ?_|refine Ru.be ?_|refine Ru.bn ?_|refine RuQ.be ?_|refine RuQ.bn ?_|refine CW.s ?_); conv => whnf)
    refine Ca.of (bytesEqual_ok Y (some ⟨b, o, none⟩) 50 50 d c (bodyF t) f w4 hy.rd1 R4 (bodyF_bd t) hf) ?_
    rintro _ _ ⟨rfl, rfl⟩
    by_cases hs : ∀ j, j < 50 → bodyF t j = f j
    · rw [hgood ⟨hok, hs⟩, sameB_yes rfl hs]
      conv => whnf
      repeat ((first
        | refine HS.t ?_|refine Br.t ?_|refine Br.f ?_|refine Pk.f ?_|refine Pk.t ?_|refine Pk.and ?_|refine Pk.or ?_|refine Ix.n ?_|refine Ix.of _ (by rfl) (by omega) ?_|refine Ix.i ?_|refine Ar.la ?_|refine Ar.lb ?_|refine Ar.lc ?_|refine Dv.q ?_|refine Dv.r ?_|refine Br.y ?_|refine Br.n ?_|refine Br.ny ?_|refine Br.nn ?_|refine Br.is (by assumption) ?_|refine Br.isnt (by assumption) ?_|refine Ld.of (by assumption) ?_|refine Ru.neq_nil0 ?_|refine Ru.n1 ?_|refine Ru.eql_nil0 ?_|refine Ru.e1 ?_|refine Ru.e2 ?_|refine Ru.e3 ?_|refine Ru.n2 ?_|refine Ru.n3 ?_|refine Ru.neq_nil rfl ?_|refine Ru.eql_nil rfl ?_|refine Ru.eql_err rfl (by decide) ?_|refine Ru.neq_err rfl (by decide) ?_|refine Ru.be ?_|refine Ru.bn ?_|refine RuQ.be ?_|refine RuQ.bn ?_|refine CW.s ?_); conv => whnf)
      refine Ru.ldtg r7 ?_
      conv => whnf
      repeat ((first
        | refine HS.t ?_|refine Br.t ?_|refine Br.f ?_|refine Pk.f ?_|refine Pk.t ?_|refine Pk.and ?_|refine Pk.or ?_|refine Ix.n ?_|refine Ix.of _ (by rfl) (by omega) ?_|refine Ix.i ?_|refine Ar.la ?_|refine Ar.lb ?_|refine Ar.lc ?_|refine Dv.q ?_|refine Dv.r ?_|refine Br.y ?_|refine Br.n ?_|refine Br.ny ?_|refine Br.nn ?_|refine Br.is (by assumption) ?_|refine Br.isnt (by assumption) ?_|refine Ld.of (by assumption) ?_|refine Ru.neq_nil0 ?_|refine Ru.n1 ?_|refine Ru.eql_nil0 ?_|refine Ru.e1 ?_|refine Ru.e2 ?_|refine Ru.e3 ?_|refine Ru.n2 ?_|refine Ru.n3 ?_|refine Ru.neq_nil rfl ?_|refine Ru.eql_nil rfl ?_|refine Ru.eql_err rfl (by decide) ?_|refine Ru.neq_err rfl (by decide) ?_|refine Ru.be ?_|refine Ru.bn ?_|refine RuQ.be ?_|refine RuQ.bn ?_|refine CW.s ?_); conv => whnf)
      refine Ru.sttg (t := t) r1 ?_
      intro w5 r5 k5
      conv => whnf
      repeat ((first
        | refine HS.t ?_|refine Br.t ?_|refine Br.f ?_|refine Pk.f ?_|refine Pk.t ?_|refine Pk.and ?_|refine Pk.or ?_|refine Ix.n ?_|refine Ix.of _ (by rfl) (by omega) ?_|refine Ix.i ?_|refine Ar.la ?_|refine Ar.lb ?_|refine Ar.lc ?_|refine Dv.q ?_|refine Dv.r ?_|refine Br.y ?_|refine Br.n ?_|refine Br.ny ?_|refine Br.nn ?_|refine Br.is (by assumption) ?_|refine Br.isnt (by assumption) ?_|refine Ld.of (by assumption) ?_|refine Ru.neq_nil0 ?_|refine Ru.n1 ?_|refine Ru.eql_nil0 ?_|refine Ru.e1 ?_|refine Ru.e2 ?_|refine Ru.e3 ?_|refine Ru.n2 ?_|refine Ru.n3 ?_|refine Ru.neq_nil rfl ?_|refine Ru.eql_nil rfl ?_|refine Ru.eql_err rfl (by decide) ?_|refine Ru.neq_err rfl (by decide) ?_|refine Ru.be ?_|refine Ru.bn ?_|refine RuQ.be ?_|refine RuQ.bn ?_|refine CW.s ?_); conv => whnf)
      refine Ru.ldtg r5 ?_
      exact ⟨rfl, rfl, kend _ k5⟩
    · have hs2 : sameB 50 50 (bodyF t) f = false := decide_eq_false (fun h => hs h.2)
      rw [hbad (fun h => hs h.2), hs2]
      conv => whnf
      repeat ((first
        | refine HS.t ?_|refine Br.t ?_|refine Br.f ?_|refine Pk.f ?_|refine Pk.t ?_|refine Pk.and ?_|refine Pk.or ?_|refine Ix.n ?_|refine Ix.of _ (by rfl) (by omega) ?_|refine Ix.i ?_|refine Ar.la ?_|refine Ar.lb ?_|refine Ar.lc ?_|refine Dv.q ?_|refine Dv.r ?_|refine Br.y ?_|refine Br.n ?_|refine Br.ny ?_|refine Br.nn ?_|refine Br.is (by assumption) ?_|refine Br.isnt (by assumption) ?_|refine Ld.of (by assumption) ?_|refine Ru.neq_nil0 ?_|refine Ru.n1 ?_|refine Ru.eql_nil0 ?_|refine Ru.e1 ?_|refine Ru.e2 ?_|refine Ru.e3 ?_|refine Ru.n2 ?_|refine Ru.n3 ?_|refine Ru.neq_nil rfl ?_|refine Ru.eql_nil rfl ?_|refine Ru.eql_err rfl (by decide) ?_|refine Ru.neq_err rfl (by decide) ?_|refine Ru.be ?_|refine Ru.bn ?_|refine RuQ.be ?_|refine RuQ.bn ?_|refine CW.s ?_); conv => whnf)
      refine Ru.of (build_tg0 _) ?_
      conv => whnf
      repeat ((first
        | refine HS.t ?_|refine Br.t ?_|refine Br.f ?_|refine Pk.f ?_|refine Pk.t ?_|refine Pk.and ?_|refine Pk.or ?_|refine Ix.n ?_|refine Ix.of _ (by rfl) (by omega) ?_|refine Ix.i ?_|refine Ar.la ?_|refine Ar.lb ?_|refine Ar.lc ?_|refine Dv.q ?_|refine Dv.r ?_|refine Br.y ?_|refine Br.n ?_|refine Br.ny ?_|refine Br.nn ?_|refine Br.is (by assumption) ?_|refine Br.isnt (by assumption) ?_|refine Ld.of (by assumption) ?_|refine Ru.neq_nil0 ?_|refine Ru.n1 ?_|refine Ru.eql_nil0 ?_|refine Ru.e1 ?_|refine Ru.e2 ?_|refine Ru.e3 ?_|refine Ru.n2 ?_|refine Ru.n3 ?_|refine Ru.neq_nil rfl ?_|refine Ru.eql_nil rfl ?_|refine Ru.eql_err rfl (by decide) ?_|refine Ru.neq_err rfl (by decide) ?_|refine Ru.be ?_|refine Ru.bn ?_|refine RuQ.be ?_|refine RuQ.bn ?_|refine CW.s ?_); conv => whnf)
      refine Ru.sttg (t := Tg.zero) r1 ?_
      intro w5 r5 k5
      conv => whnf
      repeat ((first
        | refine HS.t ?_|refine Br.t ?_|refine Br.f ?_|refine Pk.f ?_|refine Pk.t ?_|refine Pk.and ?_|refine Pk.or ?_|refine Ix.n ?_|refine Ix.of _ (by rfl) (by omega) ?_|refine Ix.i ?_|refine Ar.la ?_|refine Ar.lb ?_|refine Ar.lc ?_|refine Dv.q ?_|refine Dv.r ?_|refine Br.y ?_|refine Br.n ?_|refine Br.ny ?_|refine Br.nn ?_|refine Br.is (by assumption) ?_|refine Br.isnt (by assumption) ?_|refine Ld.of (by assumption) ?_|refine Ru.neq_nil0 ?_|refine Ru.n1 ?_|refine Ru.eql_nil0 ?_|refine Ru.e1 ?_|refine Ru.e2 ?_|refine Ru.e3 ?_|refine Ru.n2 ?_|refine Ru.n3 ?_|refine Ru.neq_nil rfl ?_|refine Ru.eql_nil rfl ?_|refine Ru.eql_err rfl (by decide) ?_|refine Ru.neq_err rfl (by decide) ?_|refine Ru.be ?_|refine Ru.bn ?_|refine RuQ.be ?_|refine RuQ.bn ?_|refine CW.s ?_); conv => whnf)
      refine Ru.ldtg r5 ?_
      exact ⟨rfl, rfl, kend _ k5⟩
  · rw [hbad (fun h => hok h.1)]
    conv => whnf
    repeat ((first
      | (refine Br.nyes (by decide) ?_)
      | refine HS.t ?_|refine Br.t ?_|refine Br.f ?_|refine Pk.f ?_|refine Pk.t ?_|refine Pk.and ?_|refine Pk.or ?_|refine Ix.n ?_|refine Ix.of _ (by rfl) (by omega) ?_|refine Ix.i ?_|refine Ar.la ?_|refine Ar.lb ?_|refine Ar.lc ?_|refine Dv.q ?_|refine Dv.r ?_|refine Br.y ?_|refine Br.n ?_|refine Br.ny ?_|refine Br.nn ?_|refine Br.is (by assumption) ?_|refine Br.isnt (by assumption) ?_|refine Ld.of (by assumption) ?_|refine Ru.neq_nil0 ?_|refine Ru.n1 ?_|refine Ru.eql_nil0 ?_|refine Ru.e1 ?_|refine Ru.e2 ?_|refine Ru.e3 ?_|refine Ru.n2 ?_|refine Ru.n3 ?_|refine Ru.neq_nil rfl ?_|refine Ru.eql_nil rfl ?_|refine Ru.eql_err rfl (by decide) ?_|refine Ru.neq_err rfl (by decide) ?_|refine Ru.be ?_|refine Ru.bn ?_|refine RuQ.be ?_|refine RuQ.bn ?_|refine CW.s ?_); conv => whnf)
    refine Ru.of (build_tg0 _) ?_
    conv => whnf
    repeat ((first
      | refine HS.t ?_|refine Br.t ?_|refine Br.f ?_|refine Pk.f ?_|refine Pk.t ?_|refine Pk.and ?_|refine Pk.or ?_|refine Ix.n ?_|refine Ix.of _ (by rfl) (by omega) ?_|refine Ix.i ?_|refine Ar.la ?_|refine Ar.lb ?_|refine Ar.lc ?_|refine Dv.q ?_|refine Dv.r ?_|refine Br.y ?_|refine Br.n ?_|refine Br.ny ?_|refine Br.nn ?_|refine Br.is (by assumption) ?_|refine Br.isnt (by assumption) ?_|refine Ld.of (by assumption) ?_|refine Ru.neq_nil0 ?_|refine Ru.n1 ?_|refine Ru.eql_nil0 ?_|refine Ru.e1 ?_|refine Ru.e2 ?_|refine Ru.e3 ?_|refine Ru.n2 ?_|refine Ru.n3 ?_|refine Ru.neq_nil rfl ?_|refine Ru.eql_nil rfl ?_|refine Ru.eql_err rfl (by decide) ?_|refine Ru.neq_err rfl (by decide) ?_|refine Ru.be ?_|refine Ru.bn ?_|refine RuQ.be ?_|refine RuQ.bn ?_|refine CW.s ?_); conv => whnf)
    refine Ru.sttg (t := Tg.zero) r1 ?_
    intro w5 r5 k5
    conv => whnf
    repeat ((first
      | refine HS.t ?_|refine Br.t ?_|refine Br.f ?_|refine Pk.f ?_|refine Pk.t ?_|refine Pk.and ?_|refine Pk.or ?_|refine Ix.n ?_|refine Ix.of _ (by rfl) (by omega) ?_|refine Ix.i ?_|refine Ar.la ?_|refine Ar.lb ?_|refine Ar.lc ?_|refine Dv.q ?_|refine Dv.r ?_|refine Br.y ?_|refine Br.n ?_|refine Br.ny ?_|refine Br.nn ?_|refine Br.is (by assumption) ?_|refine Br.isnt (by assumption) ?_|refine Ld.of (by assumption) ?_|refine Ru.neq_nil0 ?_|refine Ru.n1 ?_|refine Ru.eql_nil0 ?_|refine Ru.e1 ?_|refine Ru.e2 ?_|refine Ru.e3 ?_|refine Ru.n2 ?_|refine Ru.n3 ?_|refine Ru.neq_nil rfl ?_|refine Ru.eql_nil rfl ?_|refine Ru.eql_err rfl (by decide) ?_|refine Ru.neq_err rfl (by decide) ?_|refine Ru.be ?_|refine Ru.bn ?_|refine RuQ.be ?_|refine RuQ.bn ?_|refine CW.s ?_); conv => whnf)
    refine Ru.ldtg r5 ?_
    exact ⟨rfl, rfl, kend _ k5⟩
end Go.Proofs.Ytkpaafjnjmmehaa
