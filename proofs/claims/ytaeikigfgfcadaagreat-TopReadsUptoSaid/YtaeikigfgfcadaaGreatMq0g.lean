/- Texts behind one another: View, Reads, Bulk, Structs, BulkS, TopArg, JnTopReads. -/
import Derived.Deep.CondSized
import Derived.Deep.Slices
import Derived.Deep.Fields
import Derived.ChangeSame
import Derived.OpenShut
import Derived.WalkKit
import Derived.ProofKit
import Derived.ChangeOld
import Derived.SizedLaws
import Derived.JoinedCond
import Derived.Lib.SmallJoins
import Derived.Test.YtaeikigfgfcadaaGreatMq0a
import Derived.Test.YtaeikigfgfcadaaGreatMq0b
import Derived.Test.YtaeikigfgfcadaaGreatMq0c
import Derived.Test.YtaeikigfgfcadaaGreatMq0d
import Derived.Test.YtaeikigfgfcadaaGreatMq0e
import Derived.Test.YtaeikigfgfcadaaGreatMq0f
set_option linter.unusedVariables false
set_option linter.unusedSimpArgs false
set_option linter.unnecessarySimpa false
namespace Go.Proofs.YtaeikigfgfcadaaGreat
open Go.RowKit
set_option maxRecDepth 20000
def plcL (L:Nat→Nat) (o:Nat):Int:=if L o=0 then -1 else ((L o - 1:Nat):Int)
def vw0 (nx cu ca re mo ms:Int) (j:Nat):Value:=cond (Nat.beq j 37) (.int .i64 nx) (cond (Nat.beq j 38) (.int .i64 cu) (cond (Nat.beq j 39) (.int .i64 ca) (cond (Nat.beq j 64) (.int .i64 re) (cond (Nat.beq j 65) (.int .i64 mo) (cond (Nat.beq j 66) (.int .i64 ms) (.int .i64 0))))))
theorem vw0_one (nx cu ca re mo ms:Int) (j:Nat):(vw0 nx cu ca re mo ms j).oneCell'=true:=by
 unfold vw0
 cases Nat.beq j 37<;>cases Nat.beq j 38<;>cases Nat.beq j 39<;>cases Nat.beq j 64<;>cases Nat.beq j 65<;>cases Nat.beq j 66<;>rfl
theorem build_vw (nx cu ca re mo ms:Int) (w:World):(Instr.build 72 #[(2,.int .i64 nx),(3,.int .i64 cu),(4,.int .i64 ca),(7,.int .i64 re),(8,.int .i64 mo),(9,.int .i64 ms)]).run Tryz.prog w = .ok (.agg ((Array.range 67).map (vw0 nx cu ca re mo ms))) w:=by kernel_rfl
theorem alloc_vw (w:World):(Instr.alloc 72 true (.tuple #[])).run Tryz.prog w = .ok (.pointer (some ⟨w.heap.size,0,none⟩)) (w.alloc (rowObj 67 (fun _=>.int .i64 0) 72)):=by kernel_rfl
theorem size_vw:(Tryz.prog.info? 72).map (·.size)=some 67:=by kernel_rfl
def vwB (K:KS) (j:Nat):Value:=vw0 K.next K.cur K.calls K.reports K.moved K.moves j
def vwS (K:KS) (i j:Nat):Value:=if j<12 then .int .i64 (K.st j:Nat) else if j<12+i then .int .i64 (plcL K.at_ (j - 12)) else vwB K j
def vwF (K:KS) (j:Nat):Value:=if j<37 then vwS K 25 j else if j<40 then vwB K j else if j<52 then .int .i64 (K.F (j - 40)) else if j<64 then .int .i64 (K.F (12+(j - 52))) else vwB K j
theorem vwB_one (K:KS) (j:Nat):(vwB K j).oneCell'=true:=vw0_one ..
theorem vwS_one (K:KS) (i j:Nat):(vwS K i j).oneCell'=true:=by
 unfold vwS
 split
 ·rfl
 ·split
  ·rfl
  ·exact vwB_one K j
theorem vwF_one (K:KS) (j:Nat):(vwF K j).oneCell'=true:=by
 unfold vwF
 split
 ·exact vwS_one ..
 ·split
  ·exact vwB_one ..
  ·split
   ·rfl
   ·split
    ·rfl
    ·exact vwB_one ..
theorem vwS_zero (K:KS) (f:Nat→Value) (hf:∀ j,j<67→f j=vwB K j) (j:Nat) (hj:j<67):lay f 0 12 (fun j=>.int .i64 (K.st j:Nat)) j=vwS K 0 j:=by
 unfold lay vwS
 by_cases h:j<12
 ·rw [if_pos (by omega),if_pos h,Nat.sub_zero]
 ·rw [if_neg (by omega),if_neg h,if_neg (by omega),hf j hj]
theorem vwS_put (K:KS) {i:Nat} (hi:i<25) (j:Nat):put (vwS K i) (12+i) (.int .i64 (plcL K.at_ i)) j=vwS K (i+1) j:=by
 unfold put vwS
 by_cases h:j=12+i
 ·rw [if_pos h,if_neg (by omega),if_pos (by omega),h,Nat.add_sub_cancel_left]
 ·rw [if_neg h]
  by_cases h1:j<12
  ·rw [if_pos h1,if_pos h1]
  ·rw [if_neg h1,if_neg h1]
   by_cases h2:j<12+i
   ·rw [if_pos h2,if_pos (by omega)]
   ·rw [if_neg h2,if_neg (by omega)]
theorem vwF_end (K:KS) (j:Nat) (hj:j<67):lay (lay (vwS K 25) 40 12 (fun j=>.int .i64 (K.F j))) 52 12 (fun j=>.int .i64 (K.F (12+j))) j=vwF K j:=by
 unfold lay vwF
 by_cases h1:j<37
 ·rw [if_neg (by omega),if_neg (by omega),if_pos h1]
 ·rw [if_neg h1]
  by_cases h2:j<40
  ·rw [if_neg (by omega),if_neg (by omega),if_pos h2]
   unfold vwS
   rw [if_neg (by omega),if_neg (by omega)]
  ·rw [if_neg h2]
   by_cases h3:j<52
   ·rw [if_neg (by omega),if_pos (by omega),if_pos h3]
   ·rw [if_neg h3]
    by_cases h4:j<64
    ·rw [if_pos (by omega),if_pos h4]
    ·rw [if_neg (by omega),if_neg (by omega),if_neg h4]
     unfold vwS
     rw [if_neg (by omega),if_neg (by omega)]
theorem vwF_live (K:KS) {o:Nat} (h:o<25):vwF K (12+o) = .int .i64 (plcL K.at_ o):=by
 unfold vwF vwS
 rw [if_pos (by omega),if_neg (by omega),if_pos (by omega),Nat.add_sub_cancel_left]
section
variable {w w':World} {N:Cr} {K:KS} {X:Option Addr} {c:Nat} {P:CS} {b:Option Nat} {n:Int}
theorem CoreAt.c107 (h:CoreAt w N K X c):w.cell? ⟨N.k,107,none⟩=some (.int .i64 K.reports):=h.row.cell 107 (by omega)
theorem CoreAt.c108 (h:CoreAt w N K X c):w.cell? ⟨N.k,108,none⟩=some (.int .i64 K.moved):=h.row.cell 108 (by omega)
theorem CoreAt.c109 (h:CoreAt w N K X c):w.cell? ⟨N.k,109,none⟩=some (.int .i64 K.moves):=h.row.cell 109 (by omega)
set_option maxHeartbeats 8000000 in
theorem view_ok (h:On w N K P b n X c) (hat:∀ o,o<25→K.at_ o≤96):Spec Tryz.prog 56 #[.pointer (some ⟨N.k,0,none⟩)] w fun v w'=>v=agg 67 (vwF K)∧Keep [] w w':=by
 refine spec_of_wpE (T:=tt) tt_ok Tryz.func56 rfl (by decide +kernel) Tryz.ntmps56 (by simp) ?_
 conv=>whnf
 refine Ru.alloca (alloc_vw w) ?_
 intro x2 w1 hx2 hs1 r2 k1
 have h1:=h.keep0 k1
 conv=>whnf
 refine CW.held (fun w'=>CoreAt w' N K X c) [28] (.take 0 (.take 1 (.take 2 (.take 3 (.take 4 (.take 5 (.take 6 (.take 7 (.take 9 (.take 10 (.take 11 (.take 12 (.take 14 (.take 15 (.take 16 (.take 17 (.take 18 (.take 19 (.take 20 (.take 21 (.take 22 (.take 23 (.take 24 (.take 25 (.two 8 (.two 13 (.take 26 (.one 27 (.one 28 (.done)))) 27 (.one 13 (.take 26 (.one 28 (.done))))) 27 (.one 8 (.one 13 (.take 26 (.one 28 (.done)))))))))))))))))))))))))))))) tt_ok (by kernel_rfl) (by kernel_rfl) (by kernel_rfl) ?_ ?_
 ·exact h1.core.keep0 ((Keep.refl _ _).drewN 1)
 have q1:=(Keep.refl [] w1).drewN 1
 have h2:=h1.keep0 q1
 have r22:=r2.keep q1 (by simp)
 have k2:Keep [] w (w1.drewN 1):=k1.trans q1
 clear h1 r2 k1 q1
 have hs2:(w1.drewN 1).heap.size=w1.heap.size:=rfl
 generalize w1.drewN 1=w2 at *
 conv=>whnf
 repeat' ((first
  | (refine And.intro ?_ ?_)
  | (refine LdQ.of (fun _ h=>h.c5) ?_)
  | (refine LdQ.of (fun _ h=>h.c106) ?_)
  | (refine LdQ.of (fun _ h=>h.c107) ?_)
  | (refine LdQ.of (fun _ h=>h.c108) ?_)
  | (refine LdQ.of (fun _ h=>h.c109) ?_)
  | (refine RuQ.of (fun w _=>build_vw _ _ _ _ _ _ w) ?_)
  | refine HS.t ?_|refine Br.t ?_|refine Br.f ?_|refine Pk.f ?_|refine Pk.t ?_|refine Pk.and ?_|refine Pk.or ?_|refine Ix.n ?_|refine Ix.of _ (by rfl) (by omega) ?_|refine Ix.i ?_|refine Ar.la ?_|refine Ar.lb ?_|refine Ar.lc ?_|refine Dv.q ?_|refine Dv.r ?_|refine Br.y ?_|refine Br.n ?_|refine Br.ny ?_|refine Br.nn ?_|refine Br.is (by assumption) ?_|refine Br.isnt (by assumption) ?_|refine Ld.of (by assumption) ?_|refine Ru.neq_nil0 ?_|refine Ru.n1 ?_|refine Ru.eql_nil0 ?_|refine Ru.e1 ?_|refine Ru.e2 ?_|refine Ru.e3 ?_|refine Ru.n2 ?_|refine Ru.n3 ?_|refine Ru.neq_nil rfl ?_|refine Ru.eql_nil rfl ?_|refine Ru.eql_err rfl (by decide) ?_|refine Ru.neq_err rfl (by decide) ?_|refine Ru.be ?_|refine Ru.bn ?_|refine RuQ.be ?_|refine RuQ.bn ?_|refine CW.s ?_|refine Br.d (fun _=>?_) (fun _=>?_)|refine Br.nd (fun _=>?_) (fun _=>?_)|refine Br.mk (fun _=>?_) (fun _=>?_))<;>conv=>whnf)
 case' refine_2.refine_2 =>
  refine Ru.alloca (alloc_vw w2) ?_
  intro x3 w3 hx3 hs3 r3 k3
  have h3:=h2.keep0 k3
  refine ⟨h3.core,?_⟩
  conv=>whnf
  refine Ca.of (pcursor_ok h3.core.pat) ?_
  rintro _ _ ⟨rfl,rfl⟩
  refine ⟨h3.core,?_⟩
  conv=>whnf
  refine Ca.of (pcalls_ok h3.core.pat) ?_
  rintro _ _ ⟨rfl,rfl⟩
  refine ⟨h3.core,?_⟩
  conv=>whnf
  repeat ((first
   | (refine RuQ.of (fun w _=>build_vw _ _ _ _ _ _ w) ?_));conv=>whnf)
 case' refine_2.refine_1 =>
  refine Ca.of (pcursor_ok h2.core.pat) ?_
  rintro _ _ ⟨rfl,rfl⟩
  refine ⟨h2.core,?_⟩
  conv=>whnf
  repeat' ((first
   | (refine And.intro ?_ ?_)
   | (refine RuQ.of (fun w _=>build_vw _ _ _ _ _ _ w) ?_)
   | refine HS.t ?_|refine Br.t ?_|refine Br.f ?_|refine Pk.f ?_|refine Pk.t ?_|refine Pk.and ?_|refine Pk.or ?_|refine Ix.n ?_|refine Ix.of _ (by rfl) (by omega) ?_|refine Ix.i ?_|refine Ar.la ?_|refine Ar.lb ?_|refine Ar.lc ?_|refine Dv.q ?_|refine Dv.r ?_|refine Br.y ?_|refine Br.n ?_|refine Br.ny ?_|refine Br.nn ?_|refine Br.is (by assumption) ?_|refine Br.isnt (by assumption) ?_|refine Ld.of (by assumption) ?_|refine Ru.neq_nil0 ?_|refine Ru.n1 ?_|refine Ru.eql_nil0 ?_|refine Ru.e1 ?_|refine Ru.e2 ?_|refine Ru.e3 ?_|refine Ru.n2 ?_|refine Ru.n3 ?_|refine Ru.neq_nil rfl ?_|refine Ru.eql_nil rfl ?_|refine Ru.eql_err rfl (by decide) ?_|refine Ru.neq_err rfl (by decide) ?_|refine Ru.be ?_|refine Ru.bn ?_|refine RuQ.be ?_|refine RuQ.bn ?_|refine CW.s ?_|refine Br.d (fun _=>?_) (fun _=>?_)|refine Br.nd (fun _=>?_) (fun _=>?_)|refine Br.mk (fun _=>?_) (fun _=>?_))<;>conv=>whnf)
 case' refine_2.refine_1.refine_1 =>
  refine Ca.of (pcalls_ok h2.core.pat) ?_
  rintro _ _ ⟨rfl,rfl⟩
  refine ⟨h2.core,?_⟩
  conv=>whnf
  repeat ((first
   | (refine RuQ.of (fun w _=>build_vw _ _ _ _ _ _ w) ?_));conv=>whnf)
  refine Ru.alloca (alloc_vw w2) ?_
  intro x3 w3 hx3 hs3 r3 k3
  have h3:=h2.keep0 k3
  refine ⟨h3.core,?_⟩
  conv=>whnf
 case' refine_2.refine_1.refine_2 =>
  refine Ru.alloca (alloc_vw w2) ?_
  intro x3 w3 hx3 hs3 r3 k3
  have h3:=h2.keep0 k3
  refine ⟨h3.core,?_⟩
  conv=>whnf
  refine Ca.of (pcalls_ok h3.core.pat) ?_
  rintro _ _ ⟨rfl,rfl⟩
  refine ⟨h3.core,?_⟩
  conv=>whnf
  repeat ((first
   | (refine RuQ.of (fun w _=>build_vw _ _ _ _ _ _ w) ?_));conv=>whnf)
 all_goals
  refine Ru.sta r3 size_vw (by omega) (fun j _=>vw0_one ..) ?_
  intro w4 r34 k4
  have k34:Keep [] w2 w4:=k3.then k4 (fun x hx=>.inr (by rw [List.mem_singleton.1 hx,hx3];exact Nat.le_refl _))
  have h4:=h2.keep0 k34
  have r24:=r22.keep k34 (by simp)
  have kk4:=k2.trans k34
  have h23:x2≠x3:=by have:=r22.lt;omega
  have hw2:w.heap.size≤x2:=by omega
  have hw3:w.heap.size≤x3:=by have:=k2.size;omega
  have rs:Row w4 x3 72 67 (vwB K):=r34.congr (fun j hj=>by unfold lay;rw [if_pos (by omega),Nat.sub_zero];rfl)
  clear r34 k4 k34 r3 k3 r22 h2 k2 hs2 hs1 hs3 hx2 hx3 h3 w3 w2 w1
  conv=>whnf
  refine CW.held (fun w'=>CoreAt w' N K X c) [] (.take 0 (.take 1 (.take 2 (.take 3 (.take 4 (.take 5 (.one 6 (.one 7 (.done))))))))) tt_ok (by kernel_rfl) (by kernel_rfl) (by kernel_rfl) ?_ ?_
  ·exact h4.core.keep0 ((Keep.refl _ _).drewN 1)
  have q5:=(Keep.refl [] w4).drewN 1
  have h5:=h4.keep0 q5
  have r25:=r24.keep q5 (by simp)
  have r35:=rs.keep q5 (by simp)
  have k5:Keep [] w (w4.drewN 1):=kk4.trans q5
  clear h4 r24 rs kk4 q5
  generalize w4.drewN 1=w5 at *
  conv=>whnf
  repeat ((first
   | (refine LdQ.of (fun _ h=>h.c1) ?_)
   | (refine RuQ.of (fun w _=>sl12_run x3 0 w) ?_));conv=>whnf)
  refine Ca.of (cstates_ok h5) ?_
  rintro _ w6 ⟨Z6,ez6,rfl,O6⟩
  have h6:=h5.keep0 O6.keep
  have r26:=r25.keep O6.keep (by simp)
  have r36:=r35.keep O6.keep (by simp)
  have k6:=k5.trans O6.keep
  refine ⟨h6.core,?_⟩
  conv=>whnf
  refine Bu.copy Tryz.underlying23 (by kernel_rfl) r36 Z6 12 ez6 12 rfl (O6.ly.rd1) (fun e=>?_) (by omega) (fun _ _=>rfl) ?_
  ·have:=O6.ly.2.2.1 e
   have:=O6.ly.1
   omega
  intro w7 r3x kx
  have hx:=h6.away r36 (by decide) kx
  have r2x:=r26.keep kx (by simpa using h23)
  have kkx:=k6.fresh hw3 kx
  clear h5 r25 r35 k5 h6 r26 r36 k6 O6 kx
  refine ⟨hx.core,?_⟩
  conv=>whnf
  repeat ((first
   | refine CW.s ?_);conv=>whnf)
  have rv:Row w7 x3 72 67 (vwS K 0):=r3x.congr (fun j hj=>vwS_zero K (vwB K) (fun _ _=>rfl) j hj)
  clear r3x
  refine CW.loop (ι:=Nat) (fun i w'=>i≤25∧On w' N K P b n X c∧Row w' x2 72 67 (fun _=>.int .i64 0)∧Row w' x3 72 67 (vwS K i)∧Keep [] w w') (fun i=>[(0,.pointer (some ⟨N.k,0,none⟩)),(2,.pointer (some ⟨x2,0,none⟩)),(3,.pointer (some ⟨x3,0,none⟩)),(42,.int .i64 i)]) (fun i=>25 - i) 0 tt_ok ⟨by omega,hx,r2x,rv,kkx⟩ ⟨rfl,rfl,rfl,rfl,trivial⟩ ?_
  clear hx r2x rv kkx w7
  rintro i wr ⟨hi,hh,r2,r3,kk⟩
  rcases Nat.lt_or_ge i 25 with hlt | hge
  ·have hp:=vwS_put K hlt
   have h96:=hat i hlt
   conv=>whnf
   repeat ((first
    | (refine Ix.of i (by omega) (by omega) ?_)
    | refine Br.y ?_|refine CW.s ?_);conv=>whnf)
   refine Sd.rowAt r3 (12+i) (by omega) (by omega) rfl ?_
   intro wa r3a ka
   have ha:=hh.away r3 (by decide) ka
   have r2a:=r2.keep ka (by simpa using h23)
   have kka:=kk.fresh hw3 ka
   conv=>whnf
   repeat ((first
    | (refine Ld.of ha.core.c2 ?_));conv=>whnf)
   refine Ca.of (mat_ok ha.core.map i (by omega) h96) ?_
   by_cases h0:K.at_ i=0
   ·rw [if_pos h0]
    rintro _ _ ⟨rfl,rfl⟩
    conv=>whnf
    repeat ((first
     | refine Br.f ?_|refine Ar.la ?_|refine Ru.e1 ?_);conv=>whnf)
    refine ⟨i+1,⟨hlt,ha,r2a,r3a.congr (fun j _=>?_),kka⟩,⟨rfl,rfl,rfl,vi (by first | omega | (simp only;omega)),trivial⟩,by simp only;omega⟩
    rw [← hp j]
    unfold plcL
    rw [if_pos h0]
   ·rw [if_neg h0]
    rintro _ _ ⟨rfl,rfl⟩
    conv=>whnf
    repeat ((first
     | (refine Ix.of i (by omega) (by omega) ?_)
     | refine Br.t ?_|refine Ru.eql_nil0 ?_);conv=>whnf)
    refine Sd.rowAt r3a (12+i) (by omega) (by omega) rfl ?_
    intro wb r3b kb
    conv=>whnf
    repeat ((first
     | refine Ar.la ?_);conv=>whnf)
    refine ⟨i+1,⟨hlt,ha.away r3a (by decide) kb,r2a.keep kb (by simpa using h23),r3b.congr (fun j _=>?_),kka.fresh hw3 kb⟩,⟨rfl,rfl,rfl,vi (by first | omega | (simp only;omega)),trivial⟩,by simp only;omega⟩
    rw [put_put, ← hp j]
    unfold plcL
    rw [if_neg h0]
  obtain rfl:i=25:=by omega
  clear hge hi
  conv=>whnf
  repeat ((first
   | refine Br.f ?_|refine CW.s ?_);conv=>whnf)
  refine CW.held (fun w'=>CoreAt w' N K X c) [] (.take 0 (.take 1 (.take 2 (.take 3 (.take 4 (.take 5 (.one 6 (.one 7 (.done))))))))) tt_ok (by kernel_rfl) (by kernel_rfl) (by kernel_rfl) ?_ ?_
  ·exact hh.core.keep0 ((Keep.refl _ _).drewN 1)
  have q8:=(Keep.refl [] wr).drewN 1
  have h8:=hh.keep0 q8
  have r28:=r2.keep q8 (by simp)
  have r38:=r3.keep q8 (by simp)
  have k8:Keep [] w (wr.drewN 1):=kk.trans q8
  clear hh r2 r3 kk q8
  generalize wr.drewN 1=w8 at *
  conv=>whnf
  repeat ((first
   | (refine LdQ.of (fun _ h=>h.c4) ?_)
   | (refine RuQ.of (fun w _=>sl12_run x3 40 w) ?_));conv=>whnf)
  refine Ca.of (Hl.reads_ok w8 N.e K.F h8.core.health) ?_
  rintro _ w9 ⟨Z9,ez9,rfl,O9⟩
  have h9:=h8.keep0 O9.keep
  have r29:=r28.keep O9.keep (by simp)
  have r39:=r38.keep O9.keep (by simp)
  have k9:=k8.trans O9.keep
  refine ⟨h9.core,?_⟩
  conv=>whnf
  refine Bu.copy Tryz.underlying23 (by kernel_rfl) r39 Z9 12 ez9 12 rfl (O9.ly.rd1) (fun e=>?_) (by omega) (fun _ _=>rfl) ?_
  ·have:=O9.ly.2.2.1 e
   have:=O9.ly.1
   omega
  intro wc r3x kx
  have hx:=h9.away r39 (by decide) kx
  have r2x:=r29.keep kx (by simpa using h23)
  have kkx:=k9.fresh hw3 kx
  clear h8 r28 r38 k8 h9 r29 r39 k9 O9 kx
  refine ⟨hx.core,?_⟩
  conv=>whnf
  have r3c:=r3x
  clear r3x
  refine CW.held (fun w'=>CoreAt w' N K X c) [] (.take 0 (.take 1 (.take 2 (.take 3 (.take 4 (.take 5 (.one 6 (.one 7 (.done))))))))) tt_ok (by kernel_rfl) (by kernel_rfl) (by kernel_rfl) ?_ ?_
  ·exact hx.core.keep0 ((Keep.refl _ _).drewN 1)
  have qd:=(Keep.refl [] wc).drewN 1
  have hd:=hx.keep0 qd
  have r2d:=r2x.keep qd (by simp)
  have r3d:=r3c.keep qd (by simp)
  have kd:Keep [] w (wc.drewN 1):=kkx.trans qd
  clear hx r2x r3c kkx qd
  generalize wc.drewN 1=wd at *
  conv=>whnf
  repeat ((first
   | (refine LdQ.of (fun _ h=>h.c4) ?_)
   | (refine RuQ.of (fun w _=>sl12_run x3 52 w) ?_));conv=>whnf)
  refine Ca.of (Hl.scores_ok wd N.e K.F hd.core.health) ?_
  rintro _ we ⟨Ze,eze,rfl,Oe⟩
  have he:=hd.keep0 Oe.keep
  have r2e:=r2d.keep Oe.keep (by simp)
  have r3e:=r3d.keep Oe.keep (by simp)
  have ke:=kd.trans Oe.keep
  refine ⟨he.core,?_⟩
  conv=>whnf
  refine Bu.copy Tryz.underlying23 (by kernel_rfl) r3e Ze 12 eze 12 rfl (Oe.ly.rd1) (fun e=>?_) (by omega) (fun _ _=>rfl) ?_
  ·have:=Oe.ly.2.2.1 e
   have:=Oe.ly.1
   omega
  intro wf r3x kx
  have hx:=he.away r3e (by decide) kx
  have r2x:=r2e.keep kx (by simpa using h23)
  have kkx:=ke.fresh hw3 kx
  clear hd r2d r3d kd he r2e r3e ke Oe kx
  refine ⟨hx.core,?_⟩
  conv=>whnf
  have rv:Row wf x3 72 67 (vwF K):=r3x.congr (fun j hj=>vwF_end K j hj)
  refine Ru.ldaC (q:=vwF K) rv Tryz.underlying72 rfl size_vw (by omega) (fun j hj=>by rw [Nat.zero_add]) ?_
  conv=>whnf
  refine Ru.sta r2x size_vw (by omega) (fun j _=>vwF_one K j) ?_
  intro wg r2g kg
  conv=>whnf
  refine Ru.ldaC (q:=vwF K) r2g Tryz.underlying72 rfl size_vw (by omega) (fun j hj=>by unfold lay;rw [if_pos (by omega),Nat.zero_add,Nat.sub_zero]) ?_
  conv=>whnf
  exact ⟨rfl,rfl,kkx.fresh hw2 kg⟩
set_option maxHeartbeats 2000000 in
theorem report_ok {own:List Nat} {d ch:Nat} (D:DvOn w own d ch K P b) (hat:∀ o,o<25→K.at_ o≤96):Spec Tryz.prog 36 #[.pointer (some ⟨d,0,none⟩)] w fun v w'=>v = .tuple #[agg 67 (vwF K),errOf 0]∧Keep [] w w':=by
 obtain ⟨N,X,c,n,rfl,r,h,eC,hq⟩:=D
 refine spec_of_wpE (T:=tt) tt_ok Tryz.func36 rfl (by decide +kernel) Tryz.ntmps36 (by simp) ?_
 conv=>whnf
 refine Ru.alloca (alloc_vw w) ?_
 intro x2 w1 hx2 hs1 r2 k1
 have h1:=h.keep0 k1
 have c1:w1.cell? ⟨d,1,none⟩=some (.pointer (some ⟨N.k,0,none⟩)):=Row.cell (Row.keep r k1 (by simp)) 1 (by omega)
 conv=>whnf
 repeat ((first
  | (refine Ld.of c1 ?_)
  | (refine Ru.of (core_some _ _ _) ?_)
  | refine Br.f ?_|refine CW.s ?_);conv=>whnf)
 refine Ca.of (view_ok h1 hat) ?_
 rintro _ w2 ⟨rfl,k2⟩
 have r22:=r2.keep k2 (by simp)
 conv=>whnf
 refine Ru.sta r22 size_vw (by omega) (fun j _=>vwF_one K j) ?_
 intro w3 r3 k3
 conv=>whnf
 refine Ru.ldaC (q:=vwF K) r3 Tryz.underlying72 rfl size_vw (by omega) (fun j hj=>by unfold lay;rw [if_pos (by omega),Nat.zero_add,Nat.sub_zero]) ?_
 conv=>whnf
 exact ⟨rfl,rfl,(k1.trans k2).fresh (by omega) k3⟩
end
structure RdI (w0:World) (ch x9:Nat) (Z:List Int) (C:Option Addr) (l i d mn:Nat) (own:List Nat) (K:KS) (P:CS) (k:Cp) (a:Nat→Nat) (w:World):Prop where
 on:DvOn w own d ch K P none
 inv:Inv K P k (2+2 * (l:Int)+2 * (i:Int))
 qu:K.qu=[]
 sh:Shows P K.at_ (arB a)
 je:JE mn K P
 nt:NT 0 K P
 mi:mn≤i
 due:Hl.dueB K.F=false
 c0:0≤K.calls
 new:∀ x,x∈own→w0.heap.size≤x
 r9:Row w x9 28 24 (arF a)
 hZ:Rd w C Z.length (inF Z)
 kk:Keep [] w0 w
set_option maxHeartbeats 16000000 in
theorem reads_ok {w:World} {L:List Cl} {of:Int} {Z:List Int} {A C:Option Addr} {cA cC:Nat} (hL:Rd w A (L.length * 3) (clF L)) (hof:i64R of) (hZ:Rd w C Z.length (inF Z)) (hLw:∀ c,c∈L→c.wf) (hZw:∀ z,z∈Z→i64R z) (hL1:L.length≤1048576) :
  Spec Tryz.prog 10 #[.slice A L.length cA,.int .i64 of,.slice C Z.length cC] w fun v w'=>v = .bool true∧Keep [] w w':=by
 refine spec_of_wpE (T:=tt) tt_ok Tryz.func10 rfl (by decide +kernel) Tryz.ntmps10 (by simp) ?_
 conv=>whnf
 refine Ca.of (begun_okC hL hLw hL1) ?_
 rintro _ w1 ⟨ch,d,own,K,P,k,rfl,Bg,K0,P0,tr0,k0,M0,I0,fa0,hz⟩
 obtain ⟨D,I,q,s,nw,kb⟩:=Bg
 have hc0:=mounts_calls M0
 obtain ⟨⟨cl0,cl8⟩,hst⟩:=hz.go (by omega) (by omega)
 obtain ⟨je0,nt0⟩:=first_je fa0
 have due0:Hl.dueB K0.F=false:=by
  obtain ⟨K1,e1,-⟩:=fa0
  rw [e1,lyK_F,if_pos rfl]
  exact due_nt _
 have nt:=hst NT nt_stab _ nt0
 obtain ⟨je,due⟩:=hz.did (fun K P=>JE 0 K P∧Hl.dueB K.F=false) (fun K P K' P' h j=>⟨j.1.did (by omega) h,did_due h⟩) ⟨je0,due0⟩
 have I:Inv K P k (2+2 * (L.length:Int)+2 * ((0:Nat):Int)):=by simpa using I
 have ha:∀ o,playA (fun _=>0) L o≤1000000:=playA_le (fun _=>by omega) _
 clear hz M0 I0 hc0 fa0 je0 nt0 due0 hst
 generalize playA (fun _=>0) L=a at *
 conv=>whnf
 refine Ru.alloca (alloc_ar w1) ?_
 intro x9 w2 hx9 hs2 r9 k2
 conv=>whnf
 refine Ru.sta r9 size_ar (by omega) (fun j hj=>arF_one _ j) ?_
 intro w3 r93 k3
 have r93:Row w3 x9 28 24 (arF a):=r93.congr (fun j hj=>by unfold lay;rw [if_pos (by omega),Nat.sub_zero])
 have q3:Keep [] w1 w3:=k2.then k3 (fun x hx=>.inr (by rw [List.mem_singleton.1 hx,hx9];exact Nat.le_refl _))
 have kk3:=kb.trans q3
 have hx9w:w.heap.size≤x9:=by have:=kb.size;omega
 have S3:RdI w ch x9 Z C L.length 0 d 0 own K P k a w3:=⟨D.keep0 q3,I,q,s,je,nt,Nat.le_refl _,due,cl0,nw,r93,hZ.keep0 kk3,kk3⟩
 clear D I q s nw kb je nt due cl0 cl8 r9 r93 k2 k3 q3 kk3 hs2 hx9 hL
 conv=>whnf
 repeat ((first
  | refine CW.s ?_);conv=>whnf)
 refine Ru.of (chip_eq w3 _ _) ?_
 conv=>whnf
 repeat ((first
  | refine Br.f ?_);conv=>whnf)
 refine Ca.of (some_ok of 24 hof (by omega) w3) ?_
 rintro _ _ ⟨rfl,rfl⟩
 have hsl:someN of 24<24:=someN_lt _ (by omega)
 generalize someN of 24=sx at *
 conv=>whnf
 repeat ((first
  | refine CW.s ?_);conv=>whnf)
 refine CW.loop (ι:=Nat × Nat × List Nat × KS × CS × Cp × Nat) (fun i w'=>i.1≤Z.length∧i.1≤700∧RdI w ch x9 Z C L.length i.1 i.2.1 i.2.2.2.2.2.2 i.2.2.1 i.2.2.2.1 i.2.2.2.2.1 i.2.2.2.2.2.1 a w')
  (fun i=>[(2,.slice C Z.length cC),(7,.pointer (some ⟨ch,0,none⟩)),(8,.pointer (some ⟨i.2.1,0,none⟩)),(9,.pointer (some ⟨x9,0,none⟩)),(10,.int .i64 sx),(11,.int .i64 i.2.2.2.2.2.2),(12,.int .i64 i.1)]) (fun i=>Z.length - i.1) (0,d,own,K,P,k,0) tt_ok
  ⟨by omega,by omega,S3⟩ ⟨rfl,rfl,rfl,rfl,rfl,rfl,rfl,trivial⟩ ?_
 clear S3
 rintro ⟨i,d,own,K,P,k,mn⟩ wr ⟨hi,hi7,⟨D,I,q,s,je,nt,mi,due,cl0,nw,r9,hZr,kk⟩⟩
 simp only at hi hi7 D I q s je nt mi due cl0 nw r9 hZr kk ⊢
 have cl8:=je.calls
 by_cases hgo:i<Z.length∧i<700
 ·obtain ⟨hlt,hlt7⟩:=hgo
  obtain ⟨gz,oz,rfl,hcz⟩:=hZr (by omega)
  have hZr:Rd wr (some ⟨gz,oz,none⟩) Z.length (inF Z):=fun _=>⟨gz,oz,rfl,hcz⟩
  have hzw:=hZw _ (lst_mem hlt)
  have cz:wr.cell? ⟨gz,oz+i,none⟩=some (.int .i64 (Z.getD i 0)):=hcz i hlt
  conv=>whnf
  repeat ((first
   | (refine Ix.of i (by omega) (by omega) ?_)
   | (refine Ld.at (by omega) cz ?_)
   | refine Br.t ?_|refine Pk.t ?_|refine Br.y ?_|refine CW.s ?_);conv=>whnf)
  refine Ca.of (some_ok _ 40 hzw (by omega) wr) ?_
  rintro _ _ ⟨rfl,rfl⟩
  by_cases h40:someN (Z.getD i 0) 40=0
  case' neg =>
   have hb2:decide (((someN (Z.getD i 0) 40:Nat):Int)=0)=false:=decide_eq_false (by omega)
   conv=>whnf
   repeat ((first
    | refine Br.n ?_);conv=>whnf)
   obtain ⟨w5,ew⟩:∃ w5,w5=wr:=⟨_,rfl⟩
   rw [← ew] at D r9 hZr kk ⊢
   obtain ⟨m2,hm2,em2,je⟩:∃ m2:Nat,m2≤i+1∧m2=mn∧JE m2 K P:=⟨mn,by omega,rfl,je⟩
   subst em2
   clear ew cz hcz due mi hb2
  case' pos =>
   have hb2:decide (((someN (Z.getD i 0) 40:Nat):Int)=0)=true:=decide_eq_true (by omega)
   conv=>whnf
   repeat ((first
    | refine Br.y ?_);conv=>whnf)
   obtain ⟨C1,H1,hA1,hl1⟩:=D.chip
   obtain ⟨K5,P5,tr5,M5,I5,q5,c5,je5,nt5,hs5⟩:=mount_je I (by omega) je nt (by omega) due
   have s5:=hs5 _ s
   clear hs5
   refine Ca.of (onchip_ok H1 hA1 hl1 I.l.ok.gd.calm M5 q5) ?_
   rintro _ w5 ⟨k5,hr5⟩
   rcases hr5 with ⟨f5,d5,own5,rfl,D5,ho5⟩ | ⟨y,hy,hyb,-⟩
   case inr=>cases hyb
   have hcho:=D.in_own.2
   have hchw:=nw ch hcho
   have r95:=r9.keep k5 (fun hm=>D.far r9 (by decide) (by rw [List.mem_singleton.1 hm];exact hcho))
   have hZ5:=rd_far hZ hZr k5 (fun x hx=>by rw [List.mem_singleton.1 hx];exact hchw)
   have kk5:=kk.fresh hchw k5
   have hsr:=kk.size
   have nw5:∀ x,x∈own5→w.heap.size≤x:=fun x hx=>by
    rcases ho5 x hx with h | h
    ·rw [h];exact hchw
    ·omega
   have cl05:0≤K5.calls:=by omega
   have cl85:K5.calls<8:=by omega
   clear k5 H1 hA1 hl1 M5 c5 ho5 hcho hchw hsr D r9 hZr kk I q s je nt cl0 cl8 nw due cz hcz hb2
   obtain ⟨m2,hm2,em2,je⟩:∃ m2:Nat,m2≤i+1∧m2=mn+1∧JE m2 K5 P5:=⟨mn+1,by omega,rfl,je5⟩
   obtain ⟨D,I,q,s,nt,cl0,cl8,nw,r9,hZr,kk⟩:DvOn w5 own5 d5 ch K5 P5 none∧Inv K5 P5 k (2+2 * (L.length:Int)+2 * (i:Int))∧K5.qu=[]∧Shows P5 K5.at_ (arB a)∧NT 0 K5 P5∧0≤K5.calls∧K5.calls<8∧(∀ x,x∈own5→w.heap.size≤x)∧Row w5 x9 28 24 (arF a)∧Rd w5 (some ⟨gz,oz,none⟩) Z.length (inF Z)∧Keep [] w w5:=⟨D5,I5,q5,s5,nt5,cl05,cl85,nw5,r95,hZ5,kk5⟩
   clear D5 I5 q5 s5 nt5 je5 cl05 cl85 nw5 r95 hZ5 kk5
   generalize K5=K at *
   generalize P5=P at *
   generalize own5=own at *
   generalize d5=d at *
   conv=>whnf
   repeat ((first
    | (refine Ru.of (dev_none w5 _ _) ?_)
    | refine Br.f ?_|refine Ar.la ?_);conv=>whnf)
   rw [show ((mn:Nat):Int)+1=((mn+1:Nat):Int) by omega]
   rw [← em2]
  all_goals
   obtain ⟨K2,P2,k2,t2,F,h2,hcall⟩:=dev_read I q (by omega) (s:=sx) hsl
   obtain ⟨CE,hF⟩:=h2 _ s
   obtain ⟨⟨cl02,cl82,due2⟩,hJ2⟩:=CE.st cl0 cl8
   have nt2:=hJ2 NT nt_stab _ nt
   have je2:=je.did (by omega) CE.did
   clear h2 hJ2
   conv=>whnf
   refine Ca.of (hcall D) ?_
   rintro u w2 ⟨k2',hr2⟩
   rcases hr2 with ⟨f2,⟨Y,e,rfl,hY,hYn⟩,own2,D2,h2'⟩ | ⟨y,hy,hyb,-⟩
   case inr=>cases hyb
   have r92:=r9.keep k2' (D.far r9 (by decide))
   have hZ2:=rd_far hZ hZr k2' nw
   have ca:w2.cell? ⟨x9,sx,none⟩=some (.int .i64 (a sx:Nat)):=r92.cell sx (by omega)
   have hYr:Rd w2 Y 160 (fun j=>.int .u8 ((byF (a sx) j:Nat):Int)):=by
    have h3:=hY.rd
    rw [Nat.mul_one] at h3
    intro hp
    obtain ⟨g1,o1,e1,h4⟩:=h3 hp
    refine ⟨g1,o1,e1,fun j hj=>?_⟩
    rw [h4 j hj]
    show some (Value.int .u8 ((F j:Nat):Int))=_
    rw [hF j hj]
    rfl
   have ha1:=ha sx
   have hs2:=kk.size
   have kk2:Keep [] w w2:=kk.then k2' (fun x hx=>.inr (nw x hx))
   have nw2:∀ x,x∈own2→w.heap.size≤x:=fun x hx=>by
    rcases h2' x hx with h | h
    ·exact nw x h
    ·omega
   clear D r9 hZr kk k2' h2' hY hYn I q s je nt cl0 cl8 nw hcall
   conv=>whnf
   repeat ((first
    | (refine Ix.of sx (by omega) (by omega) ?_)
    | (refine Ld.at (by omega) ca ?_)
    | refine Br.f ?_|refine Ru.neq_nil0 ?_|refine CW.s ?_);conv=>whnf)
   refine Ca.of (tbytes_ok _ (by omega) w2) ?_
   rintro _ w3 ⟨gb,rfl,hgb,rb,k3⟩
   conv=>whnf
   repeat ((first
    | refine Br.f ?_);conv=>whnf)
   refine Ca.of (same17_ok _ _ 160 160 _ _ (fun j=>((byF (a sx) j:Nat):Int)) (fun j=>((byF (a sx) j:Nat):Int)) w3 (hYr.keep0 k3) (Rd.of_row rb (n:=160) (by omega)) (fun j=>by have:=byF_lt (a sx) j;omega) (fun j=>by have:=byF_lt (a sx) j;omega)) ?_
   rintro _ _ ⟨rfl,rfl⟩
   rw [sameB_yes rfl (fun _ _=>rfl)]
   have I3:=CE.inv
   have D3:=D2.keep0 k3
   have r93:=r92.keep k3 (by simp)
   have hZ3:=hZ2.keep0 k3
   have kk3:=kk2.trans k3
   clear D2 r92 hZ2 kk2 k3 rb hYr ca
   conv=>whnf
   repeat ((first
    | refine Br.f ?_|refine Pk.f ?_);conv=>whnf)
   refine Ca.of (report_ok D3 (fun o ho=>I3.l.ok.led.lt ho)) ?_
   rintro _ w4 ⟨rfl,k4⟩
   conv=>whnf
   refine Ru.alloca (alloc_vw w4) ?_
   intro x15 w6 hx15 hs6 r15 k6
   conv=>whnf
   refine Ru.sta r15 size_vw (by omega) (fun j _=>vwF_one K2 j) ?_
   intro w7 r157 k7
   have r157:Row w7 x15 72 67 (vwF K2):=r157.congr (fun j hj=>by unfold lay;rw [if_pos (by omega),Nat.sub_zero])
   have q7:Keep [] w3 w7:=(k4.trans k6).then k7 (fun x hx=>.inr (by rw [List.mem_singleton.1 hx,hx15];exact k4.size))
   have D7:=D3.keep0 q7
   have r97:=r93.keep q7 (by simp)
   have hZ7:=hZ3.keep0 q7
   have kk7:=kk3.trans q7
   clear D3 r93 hZ3 kk3 k4 k6 k7 q7 r15 hs6 hx15
   conv=>whnf
   repeat ((first
    | refine Br.f ?_|refine Ru.neq_nil0 ?_|refine CW.s ?_);conv=>whnf)
   obtain ⟨C7,H7,hA7,hl7⟩:=D7.chip
   have hrd7:=hA7.rd
   refine CW.loop (ι:=Nat) (fun n w'=>n≤25∧Keep [] w7 w') (fun n=>[(2,.slice (some ⟨gz,oz,none⟩) Z.length cC),(7,.pointer (some ⟨ch,0,none⟩)),(8,.pointer (some ⟨d,0,none⟩)),(9,.pointer (some ⟨x9,0,none⟩)),(10,.int .i64 sx),(11,.int .i64 _),(12,.int .i64 i),(15,.pointer (some ⟨x15,0,none⟩)),(17,.int .i64 n)]) (fun n=>25 - n) 0 tt_ok
    ⟨by omega,Keep.refl _ _⟩ ⟨rfl,rfl,rfl,rfl,rfl,rfl,rfl,rfl,rfl,trivial⟩ ?_
   rintro n w8 ⟨hn,k8⟩
   rcases Nat.lt_or_ge n 25 with hnlt | hnge
   case' inl =>
    have cl:w8.cell? ⟨x15,12+n,none⟩=some (.int .i64 (plcL K2.at_ n)):=by
     rw [← vwF_live K2 hnlt]
     exact (r157.keep k8 (by simp)).cell (12+n) (by omega)
    by_cases hz0:K2.at_ n=0
    case' pos =>
     have hpl:plcL K2.at_ n = -1:=if_pos hz0
     rw [hpl] at cl
     conv=>whnf
     repeat ((first
      | (refine Ix.of n (by omega) (by omega) ?_)
      | (refine Ld.at (by omega) cl ?_)
      | refine Br.t ?_|refine Ar.la ?_|refine Br.y ?_|refine CW.s ?_);conv=>whnf)
     exact ⟨n+1,⟨hnlt,k8⟩,⟨rfl,rfl,rfl,rfl,rfl,rfl,rfl,rfl,vi (by first | omega | (simp only;omega)),trivial⟩,by simp only;omega⟩
    case' neg =>
     have hpl:plcL K2.at_ n=((K2.at_ n - 1:Nat):Int):=if_neg hz0
     rw [hpl] at cl
     have h96:=I3.l.ok.led.lt (o:=n) hnlt
     obtain ⟨few1,few2⟩:=je2.few hnlt hz0 h96
     have eC:=congrFun hrd7 ((K2.at_ n - 1) / 8)
     conv=>whnf
     repeat ((first
      | (refine Ix.of n (by omega) (by omega) ?_)
      | (refine Ld.at (by omega) cl ?_)
      | (refine Dv.q ?_)
      | refine Br.f ?_|refine Br.y ?_|refine CW.s ?_);conv=>whnf)
     rw [show ((K2.at_ n - 1:Nat):Int) / 8=(((K2.at_ n - 1) / 8:Nat):Int) by omega]
     refine Ca.of (nreads_ok (H7.keep k8 (by simp)) (by omega)) ?_
     rintro _ _ ⟨rfl,rfl⟩
     rw [eC]
     conv=>whnf
     repeat ((first
      | refine Br.f ?_|refine Pk.f ?_|refine Ar.la ?_|refine Br.n ?_|refine Ru.neq_nil0 ?_);conv=>whnf)
     exact ⟨n+1,⟨hnlt,k8⟩,⟨rfl,rfl,rfl,rfl,rfl,rfl,rfl,rfl,vi (by first | omega | (simp only;omega)),trivial⟩,by simp only;omega⟩
   case' inr =>
    obtain rfl:n=25:=by omega
    conv=>whnf
    repeat ((first
     | refine Br.f ?_|refine Ar.la ?_|refine CW.s ?_);conv=>whnf)
    rw [show 2+2 * (L.length:Int)+2 * ((i:Nat):Int)+2=2+2 * (L.length:Int)+2 * ((i+1:Nat):Int) by omega] at I3
    exact ⟨(i+1,d,own2,K2,P2,k2,_),⟨hlt,by simp only;omega,⟨D7.keep0 k8,I3,CE.qu,CE.sh,je2,nt2,hm2,due2,cl02,nw2,r97.keep k8 (by simp),hZ7.keep0 k8,kk7.trans k8⟩⟩,⟨rfl,rfl,rfl,rfl,rfl,rfl,vi (by first | omega | (simp only;omega)),trivial⟩,by simp only;omega⟩
 ·by_cases hlt:i<Z.length
  case' pos =>
   have h700:¬ i<700:=fun x=>hgo ⟨hlt,x⟩
   conv=>whnf
   repeat ((first
    | refine Br.t ?_|refine Pk.t ?_|refine Br.y ?_|refine Br.n ?_|refine CW.s ?_);conv=>whnf)
  case' neg =>
   conv=>whnf
   repeat ((first
    | refine Br.f ?_|refine Pk.f ?_|refine Br.n ?_|refine CW.s ?_);conv=>whnf)
  all_goals
   exact ⟨rfl,rfl,kk⟩
end Go.Proofs.YtaeikigfgfcadaaGreat
namespace Go.Proofs.YtaeikigfgfcadaaGreat
open Go.RowKit Go.ChangeShapes Go.WideShapes Go.ChangeAt
namespace Bulk
theorem one_le {H:Type} (d:DataW H):1≤Rows.uptoBulk d:=by
 cases d with
 | lit l=>cases l<;>simp [Rows.uptoBulk]
 | nil=>simp [Rows.uptoBulk]
 | ptr d=>simp [Rows.uptoBulk]
 | slice elems spare=>simp [Rows.uptoBulk]
 | agg parts=>simp [Rows.uptoBulk]
 | iface t d=>simp [Rows.uptoBulk]
 | map entries=>simp [Rows.uptoBulk]
 | held h=>simp [Rows.uptoBulk]
theorem part_le {H:Type} {d:DataW H} {l:List (DataW H)} (h:d∈l):Rows.uptoBulk d≤Rows.uptoBulkAll l:=by
 induction l with
 | nil=>cases h
 | cons x r ih =>
  simp only [Rows.uptoBulkAll]
  cases List.mem_cons.1 h with
  | inl e=>subst e;omega
  | inr e=>have:=ih e;omega
theorem length_le {H:Type} (l:List (DataW H)):l.length≤Rows.uptoBulkAll l:=by
 induction l with
 | nil=>simp [Rows.uptoBulkAll]
 | cons x r ih=>have:=one_le x;simp only [Rows.uptoBulkAll,List.length_cons];omega
theorem slice_le {H:Type} (elems spare:List (DataW H)):elems.length+spare.length+1≤Rows.uptoBulk (.slice elems spare):=by
 have h1:=length_le elems
 have h2:=length_le spare
 simp only [Rows.uptoBulk]
 omega
theorem bound {H:Type} {l:List (DataW H)} (hk:Rows.uptoSmall H l=true):Rows.uptoBulkAll l≤1048576:=of_decide_eq_true hk
end Bulk
theorem bulk_row {H:Type} {enc:TypeId × Value→H} {P:Program} {W:World} {base:Nat} {spare:Nat→Bool} {held:Bool} {t e:TypeId} {k:IntKind} {a:Option Addr} {len cap:Nat} {d:DataW H} {ps:List MemPlace} {ds:List (DataW H)} {j:Nat}
  (hk:Rows.uptoSmall H ds=true) (hd:ds[j]?=some d) (hu:P.underlying t=some (.slice e)) (he:P.underlying e=some (.int k)) (hc:P.cellsOf e=1)
  (h:DataW.Trod enc P W base spare held t (.slice a len cap) d ps):len≤1048576:=by
 obtain ⟨fuel,hf⟩:=h
 rcases open_ints hu he hc hf with ⟨hcs,_⟩ | ⟨x,l,c,zs,hcs,_,hl,_,hz,hx,_,_⟩
 ·simp [Value.cells] at hcs
  obtain ⟨_,rfl,_⟩:=hcs
  simp
 ·simp [Value.cells] at hcs
  obtain ⟨rfl,rfl,rfl⟩:=hcs
  obtain ⟨hx,_⟩:=Prod.mk.inj hx
  subst hx
  have hl2:len≤zs.length:=by
   rw [hz]
   split
   ·exact hl
   ·exact Nat.le_refl _
  have h1:(lits (H:=H) k (zs.take len)).length+(lits (H:=H) k (zs.drop len)).length=zs.length:=by
   simp [lits]
   omega
  have h2:=Bulk.slice_le (lits (H:=H) k (zs.take len)) (lits (H:=H) k (zs.drop len))
  have h3:=Bulk.part_le (List.mem_of_getElem? hd)
  have h4:=Bulk.bound hk
  omega
end Go.Proofs.YtaeikigfgfcadaaGreat
namespace Go.Proofs.YtaeikigfgfcadaaGreat
open Go.RowKit Go.ChangeShapes Go.WideShapes Go.Deep
section
variable {H:Type} {enc:TypeId × Value→H} {P:Program} {W:World} {base:Nat} {spare:Nat→Bool} {held:Bool} {t e:TypeId} {fs:Array Field} {a:Option Addr} {len cap C:Nat} {d:DataW H} {ps:List MemPlace}
theorem slArg_structs (ht:P.underlying t=some (.slice e)) (he:P.underlying e=some (.struct fs)) (hone:oneCellFields P fs=true) (hC:P.cellsOf e=C) (hfs:fs.size=C) (h:DataW.Trod enc P W base spare held t (.slice a len cap) d ps) :
  len≤cap∧cap≤maxLen∧(a=none→cap=0)∧∃ F:Nat→Nat→Value,Rd W a (len * C) (fun q=>F (q / C) (q % C)) ∧
   ∀ i,i<len→∀ (j:Nat) (f:Field),fs[j]?=some f→∃ n y,DataW.trod enc P W base spare held n f.type [F i j]=some y:=by
 obtain ⟨fuel,hf⟩:=h
 rcases open_slice ht hf with ⟨hcs,_⟩ | ⟨x,l,c,m,n,D,Pl,hcs,_,hl,hm,hmm,_,hi⟩
 ·simp [Value.cells] at hcs
  obtain ⟨rfl,rfl,rfl⟩:=hcs
  exact ⟨Nat.le_refl _,by simp [maxLen],fun _=>rfl,fun _ _=>.nilIface,by rw [Nat.zero_mul];exact Rd.nil _ _ _,fun i h=>absurd h (by omega)⟩
 ·simp [Value.cells] at hcs
  obtain ⟨rfl,rfl,rfl⟩:=hcs
  have hlm:len≤m:=by
   rw [hmm]
   split
   ·exact hl
   ·exact Nat.le_refl _
  refine ⟨hl,hm,fun h=>by simp at h,fun i j=>(W.cell? (x.add (i * C+j))).getD .nilIface,?_,?_⟩
  ·intro hn
   have hC0:0<C:=by
    rcases Nat.eq_zero_or_pos C with h0 | h0
    ·rw [h0] at hn;simp at hn
    ·exact h0
   have hl0:0<len:=by
    rcases Nat.eq_zero_or_pos len with h0 | h0
    ·rw [h0] at hn;simp at hn
    ·exact h0
   have hsome:∀ i,i<len→∀ j,j<C→∃ v,W.cell? (x.add (i * C+j))=some v:=by
    intro i h1 j h2
    obtain ⟨cs',hc,_⟩:=hi i (by omega)
    rw [hC] at hc
    obtain ⟨_,hcl,hat⟩:=World.cells?_some hc
    have:=hat j h2
    rw [Go.Deep.add_add] at this
    rw [this]
    exact ⟨_,List.getElem?_eq_getElem (by omega)⟩
   obtain ⟨v0,h00⟩:=hsome 0 hl0 0 hC0
   have hs:=spot_of_cell h00
   have hs2:x.spot=none:=by
    unfold Addr.add at hs
    simpa using hs
   refine ⟨x.block,x.off,?_,fun q hq=>?_⟩
   ·obtain ⟨b,o,s⟩:=x
    simp at hs2
    subst hs2
    rfl
   ·have h1:q / C<len:=Nat.div_lt_of_lt_mul (by rw [Nat.mul_comm];exact hq)
    have h2:q % C<C:=Nat.mod_lt _ hC0
    obtain ⟨v,hv⟩:=hsome (q / C) h1 (q % C) h2
    have e1:q / C * C+q % C=q:=by rw [Nat.mul_comm];exact Nat.div_add_mod q C
    rw [e1] at hv
    rw [← of_add hs2 q]
    show _=some ((W.cell? (x.add (q / C * C+q % C))).getD .nilIface)
    rw [e1,hv]
    rfl
  ·intro i h1 j f hj
   have hjl:j<fs.size:=(Array.getElem?_eq_some_iff.1 hj).1
   obtain ⟨cs',hc,ht'⟩:=hi i (by omega)
   rw [hC] at hc
   obtain ⟨ys,n',_,_,_,hyl,hff⟩:=DataW.trod_struct he ht'
   obtain ⟨_,hcl,hat⟩:=World.cells?_some hc
   obtain ⟨ho,hk⟩:=hone_of hone j f hj
   have h3:=hff j f hj
   rw [ho,hk] at h3
   have hj2:j<cs'.length:=by omega
   rw [List.drop_eq_getElem_cons hj2] at h3
   simp only [List.take_succ_cons,List.take_zero] at h3
   have h4:=hat j (by omega)
   rw [Go.Deep.add_add,List.getElem?_eq_getElem hj2] at h4
   refine ⟨n',ys[j]'(by omega),?_⟩
   ·show DataW.trod enc P W base spare held n' f.type [(W.cell? (x.add (i * C+j))).getD .nilIface]=_
    rw [h4]
    simp only [Option.getD_some]
    rw [h3]
    exact List.getElem?_eq_getElem _
theorem sized_structs {ts:List TypeId} {ds:List (DataW H)} {j B:Nat} (hsz:(DataW.weightsEach P ts ds).all (· ≤ reachBytes)=true) (hj:ts[j]?=some t) (hd:ds[j]?=some d) (ht:P.underlying t=some (.slice e)) (hB:P.bytesOf e=B)
  (h:DataW.Trod enc P W base spare held t (.slice a len cap) d ps):len * B≤140737488351232:=by
 obtain ⟨fuel,hf⟩:=h
 rcases open_slice ht hf with ⟨hcs,_⟩ | ⟨x,l,c,m,n,D,Pl,hcs,_,hl,hm,hmm,hx,hi⟩
 ·simp [Value.cells] at hcs
  obtain ⟨_,rfl,_⟩:=hcs
  simp
 ·simp [Value.cells] at hcs
  obtain ⟨rfl,rfl,rfl⟩:=hcs
  obtain ⟨hx,_⟩:=Prod.mk.inj hx
  subst hx
  have z:=sized_slice hsz hj hd ht
  rw [hB] at z
  have h2:len≤((List.range len).map D).length+((List.range (m - len)).map fun j=>D (len+j)).length:=by
   simp
  exact Nat.le_trans (Nat.mul_le_mul_right _ h2) z
theorem field_int {k:IntKind} {n:Nat} {v:Value} {y:DataW H × List MemPlace} (hu:P.underlying t=some (.int k)) (h:DataW.trod enc P W base spare held n t [v]=some y):v = .int k (intOf v)∧(Lit.int k (intOf v)).wf=true:=by
 obtain ⟨m,hm,hw⟩:=DataW.trod_int hu h
 simp at hm
 subst hm
 exact ⟨rfl,hw.2⟩
end
end Go.Proofs.YtaeikigfgfcadaaGreat
namespace Go.Proofs.YtaeikigfgfcadaaGreat
open Go.RowKit Go.ChangeShapes Go.WideShapes Go.ChangeAt Go.Deep
theorem bulk_structs {H:Type} {enc:TypeId × Value→H} {P:Program} {W:World} {base:Nat} {spare:Nat→Bool} {held:Bool} {t e:TypeId} {a:Option Addr} {len cap:Nat} {d:DataW H} {ps:List MemPlace} {ds:List (DataW H)} {j:Nat}
  (hk:Rows.uptoSmall H ds=true) (hd:ds[j]?=some d) (ht:P.underlying t=some (.slice e))
  (h:DataW.Trod enc P W base spare held t (.slice a len cap) d ps):len≤1048576:=by
 obtain ⟨fuel,hf⟩:=h
 rcases open_slice ht hf with ⟨hcs,_⟩ | ⟨x,l,c,m,n,D,Pl,hcs,_,hl,hm,hmm,hx,hi⟩
 ·simp [Value.cells] at hcs
  obtain ⟨_,rfl,_⟩:=hcs
  simp
 ·simp [Value.cells] at hcs
  obtain ⟨rfl,rfl,rfl⟩:=hcs
  obtain ⟨hx,_⟩:=Prod.mk.inj hx
  subst hx
  have h2:=Bulk.slice_le ((List.range len).map D) ((List.range (m - len)).map fun j=>D (len+j))
  have h3:=Bulk.part_le (List.mem_of_getElem? hd)
  have h4:=Bulk.bound hk
  have h5:((List.range len).map D).length=len:=by simp
  omega
theorem Spec.calls {P:Program} {f:FuncId} {args:Array Value} {w:World} {V:Value} {Φ:World→Prop} (h:Spec P f args w fun v w'=>v=V∧Φ w'):Calls P f args w fun e w'=>e = .returned V∧Φ w':=h.2.mono fun e w' ⟨v,he,hv,hk⟩=>⟨by rw [he,hv],hk⟩
end Go.Proofs.YtaeikigfgfcadaaGreat
namespace Go.Proofs.YtaeikigfgfcadaaGreat
open Go.RowKit Go.ChangeShapes Go.WideShapes Go.ChangeAt Go.Deep
theorem cl_list {w:World} {A:Option Addr} {len:Nat} {F:Nat→Nat→Value} (r:Rd w A (len * 3) (fun q=>F (q / 3) (q % 3)))
  (h:∀ i,i<len→∃ c:Cl,c.wf∧F i 0 = .int .i64 c.kind∧F i 1 = .int .i64 c.a∧F i 2 = .int .i64 c.x) :
  ∃ L:List Cl,L.length=len∧Rd w A (L.length * 3) (clF L)∧∀ c,c∈L→c.wf:=by
 let g:Nat→Cl:=fun i=>⟨intOf (F i 0),intOf (F i 1),intOf (F i 2)⟩
 have hg:∀ i,i<len→(g i).wf∧F i 0 = .int .i64 (g i).kind∧F i 1 = .int .i64 (g i).a∧F i 2 = .int .i64 (g i).x:=by
  intro i hi
  obtain ⟨c,hw,h0,h1,h2⟩:=h i hi
  have e:g i=c:=by
   show Cl.mk (intOf (F i 0)) (intOf (F i 1)) (intOf (F i 2))=c
   rw [h0,h1,h2]
   rfl
  rw [e]
  exact ⟨hw,h0,h1,h2⟩
 refine ⟨(List.range len).map g,by simp,?_,?_⟩
 ·rw [List.length_map,List.length_range]
  refine r.congr fun q hq=>?_
  have h1:q / 3<len:=by omega
  have e:((List.range len).map g).getD (q / 3) ⟨0,0,0⟩=g (q / 3):=by
   rw [List.getD_eq_getElem?_getD,List.getElem?_map,List.getElem?_range h1]
   rfl
  unfold clF
  rw [e]
  obtain ⟨-,k0,k1,k2⟩:=hg _ h1
  unfold Cl.cell
  have hm:q % 3<3:=Nat.mod_lt _ (by omega)
  rcases (by omega:q % 3=0∨q % 3=1∨q % 3=2) with e | e | e
  ·rw [e,k0];rfl
  ·rw [e,k1];rfl
  ·rw [e,k2];rfl
 ·intro c hc
  obtain ⟨i,hi,rfl⟩:=List.mem_map.1 hc
  exact (hg i (List.mem_range.1 hi)).1
theorem in_list {w:World} {A:Option Addr} {len cap:Nat} {f:Nat→Int} (h:SlArg w A len cap (fun j=>.int .i64 (f j))) (hw:∀ j,(Lit.int .i64 (f j)).wf=true) :
  ∃ Z:List Int,Z.length=len∧Rd w A Z.length (inF Z)∧∀ z,z∈Z→i64R z:=by
 refine ⟨(List.range len).map f,by simp,?_,?_⟩
 ·rw [List.length_map,List.length_range]
  refine h.rd.congr fun q hq=>?_
  unfold inF
  rw [List.getD_eq_getElem?_getD,List.getElem?_map,List.getElem?_range hq]
  rfl
 ·intro z hz
  obtain ⟨i,hi,rfl⟩:=List.mem_map.1 hz
  exact bounds_i64 (hw i)
end Go.Proofs.YtaeikigfgfcadaaGreat
namespace Go.Proofs.YtaeikigfgfcadaaGreat.topReads
open Go.RowKit Go.Joins Go.ChangeAt
theorem and_ {a b:Bool} (h:a=true) (k:b=true):(a && b)=true:=by rw [h,k];rfl
theorem j0:(Rows.topReadsUptoRow.wf (OpenSpec.ofChange (Rows.OpenSpec.upto Rows.topReadsSpec).bare):Bool)=true:=by kernel_rfl
theorem j1:(laidOutB Tryz.pinned.checked.prog:Bool)=true:=by kernel_rfl
theorem j2:(mapsRowed Tryz.pinned.checked.prog:Bool)=true:=by kernel_rfl
theorem j3:((Tryz.f10).params.all (Tryz.pinned.checked.prog.readableRec ·):Bool)=true:=by kernel_rfl
theorem j4:(namedTie Tryz.pinned.checked.prog Rows.topReadsUptoRow.named (Rows.OpenSpec.upto Rows.topReadsSpec).bare.vars:Bool)=true:=by kernel_rfl
theorem j5:((Rows.topReadsUptoRow.stops == []):Bool)=true:=by kernel_rfl
theorem j6:((Tryz.pinned.checked.prog.stops == []):Bool)=true:=by kernel_rfl
theorem j7:((Rows.topReadsUptoRow.knobs == []):Bool)=true:=by kernel_rfl
theorem j8:((Tryz.pinned.checked.prog.stopKnobs == []):Bool)=true:=by kernel_rfl
theorem j9:((Rows.topReadsUptoRow.inPlace == Tryz.pinned.checked.prog.inPlace 10):Bool)=true:=by kernel_rfl
theorem j10:((Rows.topReadsUptoRow.unfollowed == Tryz.pinned.checked.prog.unfollowed 10):Bool)=true:=by kernel_rfl
theorem j11:((Rows.topReadsUptoRow.recurses == Tryz.pinned.checked.prog.recurses 10):Bool)=true:=by kernel_rfl
theorem j12:((Rows.topReadsUptoRow.named == Tryz.pinned.checked.prog.varsNamed 10):Bool)=true:=by kernel_rfl
theorem j13:((Rows.topReadsUptoRow.maps == ((Tryz.f10).params.toList ++ (Rows.OpenSpec.upto Rows.topReadsSpec).bare.plain.varTypes Tryz.pinned.checked.prog).any (Tryz.pinned.checked.prog.mapsRec ·)):Bool)=true:=by kernel_rfl
theorem j14:((Rows.topReadsUptoRow.ifaces == ((Tryz.f10).params.toList ++ (Rows.OpenSpec.upto Rows.topReadsSpec).bare.plain.varTypes Tryz.pinned.checked.prog).any (Tryz.pinned.checked.prog.ifacesRec ·)):Bool)=true:=by kernel_rfl
theorem j15:((Rows.topReadsUptoRow.mapsOut == Tryz.pinned.checked.prog.mapsAmong (Tryz.f10).resultTypes.toList):Bool)=true:=by kernel_rfl
theorem j16:((Rows.topReadsUptoRow.loops == ((Tryz.f10).params.toList ++ (Rows.OpenSpec.upto Rows.topReadsSpec).bare.plain.varTypes Tryz.pinned.checked.prog).any (Tryz.pinned.checked.prog.loopsFrom ·)):Bool)=true:=by kernel_rfl
theorem j17:((Rows.topReadsUptoRow.wideKeys == ((Tryz.f10).params.toList ++ (Rows.OpenSpec.upto Rows.topReadsSpec).bare.plain.varTypes Tryz.pinned.checked.prog ++ (Tryz.f10).resultTypes.toList).any (Tryz.pinned.checked.prog.wideKeysFrom ·)):Bool)=true:=by kernel_rfl
theorem j18:((Rows.OpenSpec.upto Rows.topReadsSpec).bare.vars.all (Tryz.pinned.checked.prog.varReadable ·):Bool)=true:=by kernel_rfl
theorem j19:((Tryz.f10).resultTypes.all (fun t=>Tryz.pinned.checked.prog.readableRec t && decide (t<Tryz.pinned.checked.prog.types.size)):Bool)=true:=by kernel_rfl
theorem j20:((Rows.topReadsUptoRow.ifacesOut == (Tryz.f10).resultTypes.toList.any (Tryz.pinned.checked.prog.ifacesRec ·)):Bool)=true:=by kernel_rfl
theorem j21:((Rows.topReadsUptoRow.loopsOut == (Tryz.f10).resultTypes.toList.any (Tryz.pinned.checked.prog.loopsFrom ·)):Bool)=true:=by kernel_rfl
theorem j22:((Rows.topReadsUptoRow.plainKeys == Tryz.pinned.checked.prog.plainKeys):Bool)=true:=by kernel_rfl
theorem j23:(Rows.topReadsUptoRow.shortTexts.isNone:Bool)=true:=by kernel_rfl
theorem j24:(Tryz.pinned.checked.prog.stopsHeard:Bool)=true:=by kernel_rfl
theorem j25:(Tryz.pinned.checked.prog.mayEnter:Bool)=true:=by kernel_rfl
theorem j26:((Rows.topReadsUptoRow.lifted == Tryz.pinned.checked.prog.liftsFinal):Bool)=true:=by kernel_rfl
theorem j27:((Tryz.pinned.checked.prog.make == some Rows.topReadsUptoRow.make):Bool)=true:=by kernel_rfl
theorem j28:((Rows.topReadsUptoRow.kinds == (if Rows.topReadsUptoRow.domain.isEmpty then [] else (Tryz.f10).params.toList.map fun t=>match Tryz.pinned.checked.prog.underlying t with | some (.int k)=>some k | _=>none)):Bool)=true:=by kernel_rfl
theorem j29:((Rows.topReadsUptoRow.pinned == Rows.topReadsUptoRow.pinnedBy):Bool)=true:=by kernel_rfl
theorem j30:((Rows.topReadsUptoRow.veiled == ((Tryz.f10).params.toList ++ (Rows.OpenSpec.upto Rows.topReadsSpec).bare.plain.varTypes Tryz.pinned.checked.prog ++ (Tryz.f10).resultTypes.toList).any (Tryz.pinned.checked.prog.veiledRec ·)):Bool)=true:=by kernel_rfl
theorem j31:(Rows.topReadsUptoRow.veiledFits Tryz.pinned.checked.prog (Tryz.f10).params.toList ((Tryz.f10).params.toList ++ (Rows.OpenSpec.upto Rows.topReadsSpec).bare.plain.varTypes Tryz.pinned.checked.prog ++ (Tryz.f10).resultTypes.toList):Bool)=true:=by kernel_rfl
set_option maxRecDepth 20000 in
theorem closed:joinedFacts Tryz.pinned.checked.prog 10 Tryz.f10 (Rows.OpenSpec.upto Rows.topReadsSpec).bare Rows.topReadsUptoRow=true:=(and_ (and_ (and_ (and_ (and_ (and_ (and_ (and_ (and_ (and_ (and_ (and_ (and_ (and_ (and_ (and_ (and_ (and_ (and_ (and_ (and_ (and_ (and_ (and_ (and_ (and_ (and_ (and_ (and_ (and_ (and_ j0 j1) j2) j3) j4) j5) j6) j7) j8) j9) j10) j11) j12) j13) j14) j15) j16) j17) j18) j19) j20) j21) j22) j23) j24) j25) j26) j27) j28) j29) j30) j31)
theorem wrap:(Tryz.f10).isWrapper Tryz.pinned.checked.prog Rows.topReadsUptoRow.wrapper Rows.topReadsUptoRow.mainSum:=by unfold Func.isWrapper;first | (rw [if_pos (by decide +kernel)];kernel_rfl) | (rw [if_neg (by decide +kernel)];exact ⟨rfl,rfl⟩)
end Go.Proofs.YtaeikigfgfcadaaGreat.topReads
