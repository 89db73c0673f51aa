/- Texts behind one another: W18, Flip, W19, NewW, MtW, CleanW, MountW, DevMW, Fail, FailCut, Structs, Flat, Bulk, BulkS, TopArg, ClArg, JnTopFailCut. -/
import Derived.Deep.Slices
import Derived.Deep.Fields
import Derived.ChangeSame
import Derived.OpenShut
import Derived.Deep.CondSized
import Derived.ProofKit
import Derived.WalkKit
import Derived.ChangeOld
import Derived.SizedLaws
import Derived.JoinedCond
import Derived.Lib.SmallJoins
import Derived.Test.YtaeikigfgfcadaaGreatMr0a
import Derived.Test.YtaeikigfgfcadaaGreatMr0b
import Derived.Test.YtaeikigfgfcadaaGreatMr0c
import Derived.Test.YtaeikigfgfcadaaGreatMr0d
import Derived.Test.YtaeikigfgfcadaaGreatMr0e
import Derived.Test.YtaeikigfgfcadaaGreatMr0f
import Derived.Test.YtaeikigfgfcadaaGreatMr0g
namespace Go.Proofs.YtaeikigfgfcadaaGreat
open Go.Proofs.Tryz
set_option maxHeartbeats 16000000
set_option maxRecDepth 20000
set_option linter.unusedVariables false
set_option linter.unusedSimpArgs false
set_option linter.unnecessarySimpa false
section
open Go.RowKit
section
variable{w w':World}{own:List Nat}{d ch:Nat}{K:KS}{P:CS}{b:Option Nat}{kk:Cp}{a':Nat->Nat->Nat}{ok:Value->KS->CS->Prop}{dead:Value->CS->Prop}
theorem abW(D:Ae w own d ch K P b){c:Cl}(hw:c.wf)(hk:c.kd<=2){a:Nat->Nat}
  (gJ:∀ {w1:World} {A:Option Addr} {e:Nat},Ae w1 own d ch K P b->AI w1 A 160 (yq c.n)->160<=e->Spec Tryz.prog 45 #[.pointer (some ⟨d,0,none⟩),.int .i64 c.of,.slice A 160 e] w1 fun v w'=>Av own d ch b w1 w' (ok v) (dead v)) :
  Spec Tryz.prog 19 #[.pointer (some ⟨d,0,none⟩),agg 24 (cO a),agg 3 c.cell] w fun v w'=>∃u,v=.tuple #[agg 24 (cO (ah a c.of c.n)),.slice none 0 0,u]/\Av own d ch b w w' (ok u) (dead u):=by
 have jK:=c.of_lt;have hn:=c.adq;have e1:bD c.a 24=c.of:=rfl;have e2:1+bD c.x 1000000=c.n:=rfl;have e3:bD c.kind 6=c.kd:=rfl;refine spec_of_wpE (T:=tt) ai func19 rfl (by decide +kernel) ntmps19 (by simp) ?_;conv=>whnf
 refine Ru.dr ?_;intro x4 w1 qj dj r4 k1;conv=>whnf
 refine Ru.dr ?_;intro x5 w2 hx5 gO r5 k2;conv=>whnf
 refine Ru.aE (di w2) ?_;intro x6 w3 hx6 gg r6 k3;have fS:=r4.ab (k2.trans k3) (by simp);have oC:=r5.ab k3 (by simp);have bG:=(k1.trans k2).trans k3;have D3:=D.aj bG;have nV:w.heap.size<=x4:=by omega
 have rA:w.heap.size<=x6:=by omega
 have h46:x4≠x6:=by omega
 clear r4 r5 k1 k2 k3 dj gO gg qj hx5 hx6 w1 w2 D;have c0:w3.cell? ⟨x5,0,none⟩=some (.int .i64 c.kind):=oC.cell 0 (by omega);have c1:w3.cell? ⟨x5,1,none⟩=some (.int .i64 c.a):=oC.cell 1 (by omega);have c2:w3.cell? ⟨x5,2,none⟩=some (.int .i64 c.x):=oC.cell 2 (by omega);conv=>whnf
 repeat ((refine Ld.at (by omega) c1 ?_);conv=>whnf)
 refine Ca.of (bL c.a 24 hw.2.1 (by omega) w3) ?_;rintro _ _ ⟨rfl,rfl⟩;rw[e1];conv=>whnf
 repeat ((refine Ld.at (by omega) c2 ?_);conv=>whnf)
 refine Ca.of (bL c.x 1000000 hw.2.2 (by omega) w3) ?_;rintro _ _ ⟨rfl,rfl⟩;have e2':(1:Int)+((bD c.x 1000000:Nat):Int)=(c.n:Nat):=by rw[<-e2];omega
 have hb:=dP c.x (n:=1000000) (by omega);conv=>whnf
 repeat ((first|(refine Ld.at (by omega) c0 ?_)|refine Ar.la ?_|refine CW.s ?_);conv=>whnf)
 rw[e2'];refine Ca.of (bL c.kind 6 hw.1 (by omega) w3) ?_;rintro _ _ ⟨rfl,rfl⟩;rw[e3];have hk3:c.kd=0\/c.kd=1\/c.kd=2:=by omega
 rcases hk3 with h|h|h
 all_goals
  rw[h];conv=>whnf
  repeat ((first|(refine Ix.of c.of (by omega) (by omega) ?_)|refine Br.t ?_|refine Br.f ?_|refine CW.s ?_);conv=>whnf)
  rw[show 0+0+c.of=c.of by omega];refine Sd.rowAt fS c.of (by omega) (by omega) rfl ?_;intro w4 ia k4;have ia:Row w4 x4 28 24 (cO (ah a c.of c.n)):=ia.congr (fun j hj=>zU a c.of c.n j);have D4:=D3.iz fS (by decide) k4;have vY:=r6.ab k4 (by simpa using h46.symm);have bU:=bG.fresh nV k4;have qB:=bU.size;clear D3 fS r6 k4 bG c0 c1 c2 oC;conv=>whnf
  refine CW.held (fun w'=>Row w' x4 28 24 (cO (ah a c.of c.n))) [] (.take 0 (.take 1 (.take 2 (.take 3 (.one 4 (.one 5 (.one 6 (.take 7 (.take 8 (.done)))))))))) ai (by kernel_rfl) (by kernel_rfl) (by kernel_rfl) ?_ ?_
  ·exact Row.drewN ia 1
  have q4:=(Aa.refl [] w4).drewN 1;have D5:=D4.aj q4;have iJ:=ia.ab q4 (by simp);have qI:=vY.ab q4 (by simp);have dL:=bU.trans q4;clear D4 ia vY bU q4;generalize w4.drewN 1=w5 at *;conv=>whnf
  repeat ((refine Am.of (fun w hS=>ei (q:=cO (ah a c.of c.n)) hS underlying28 rfl aB (by omega) (fun j hj=>by rw[Nat.zero_add])) ?_);conv=>whnf)
  refine Ca.of (nQ c.n (by omega) w5) ?_;rintro _ w6 ⟨g,rfl,hg,rg,k6⟩;have D6:=D5.aj k6;have nT:=iJ.ab k6 (by simp);have r66:=qI.ab k6 (by simp);have gG:=dL.trans k6;clear D5 iJ qI dL k6 hg;refine⟨nT,?_⟩;conv=>whnf
  refine Ca.of (gJ D6 (Rd.dq rg (n:=160) (by omega)) (by omega)) ?_;rintro u w7 ⟨k7,hr7⟩;have wL:=nT.ab k7 (D6.bW nT (by decide));have ue:=r66.ab k7 (D6.bW r66 (by decide));have hs6:=gG.size;have av:=D6.lJ;refine⟨wL,?_⟩;conv=>whnf
  refine Ru.im ue aB (by omega) (fun j hj=>cM _ j) ?_;intro w8 oZ k8;have oZ:Row w8 x6 28 24 (cO (ah a c.of c.n)):=oZ.congr (fun j hj=>by unfold lay;rw[if_pos (by omega),Nat.sub_zero]);refine⟨wL.ab k8 (by simpa using h46),?_⟩;conv=>whnf
  refine Ru.cx (q:=cO (ah a c.of c.n)) oZ underlying28 rfl aB (by omega) (fun j hj=>by rw[Nat.zero_add]) ?_;conv=>whnf
  have mY:=D6.bW r66 (by decide);have jd:=D6.rv;refine⟨rfl,u,rfl,((gG.mono (T:=own) (by simp)).trans k7).then k8 (fun x hx=>.inr (by rw[List.mem_singleton.1 hx];exact rA)),?_⟩;rcases hr7 with⟨K7,P7,b7,dW,wM,D7,h7,mi⟩|⟨wM,Q,cj,hd7⟩
  ·refine .inl ⟨K7,P7,b7,dW,wM,D7.iz ue (by decide) k8,fun x hx=>?_,mi⟩;rcases h7 x hx with h|h
   ·exact .inl h
   ·exact .inr (Nat.le_trans hs6 h)
  ·exact .inr ⟨wM,Q,cj.ab k8 (fun hm=>mY (by rw[<-List.mem_singleton.1 hm];exact jd.1)) (fun hm=>mY (by rw[<-List.mem_singleton.1 hm];exact jd.2)),hd7⟩
theorem adC(D:Ae w own d ch K P b){c:Cl}(hw:c.wf)(hk:c.kd=3){a:Nat->Nat}
  (gJ:∀ {w1:World},Ae w1 own d ch K P b->Spec Tryz.prog 17 #[.pointer (some ⟨d,0,none⟩),.int .i64 c.of] w1 fun v w'=>Av own d ch b w1 w' (ok v) (dead v)) :
  Spec Tryz.prog 19 #[.pointer (some ⟨d,0,none⟩),agg 24 (cO a),agg 3 c.cell] w fun v w'=>∃u,v=.tuple #[agg 24 (cO (ah a c.of 0)),.slice none 0 0,u]/\Av own d ch b w w' (ok u) (dead u):=by
 have jK:=c.of_lt;have hn:=c.adq;have e1:bD c.a 24=c.of:=rfl;have e2:1+bD c.x 1000000=c.n:=rfl;have e3:bD c.kind 6=c.kd:=rfl;refine spec_of_wpE (T:=tt) ai func19 rfl (by decide +kernel) ntmps19 (by simp) ?_;conv=>whnf
 refine Ru.dr ?_;intro x4 w1 qj dj r4 k1;conv=>whnf
 refine Ru.dr ?_;intro x5 w2 hx5 gO r5 k2;conv=>whnf
 refine Ru.aE (di w2) ?_;intro x6 w3 hx6 gg r6 k3;have fS:=r4.ab (k2.trans k3) (by simp);have oC:=r5.ab k3 (by simp);have bG:=(k1.trans k2).trans k3;have D3:=D.aj bG;have nV:w.heap.size<=x4:=by omega
 have rA:w.heap.size<=x6:=by omega
 have h46:x4≠x6:=by omega
 clear r4 r5 k1 k2 k3 dj gO gg qj hx5 hx6 w1 w2 D;have c0:w3.cell? ⟨x5,0,none⟩=some (.int .i64 c.kind):=oC.cell 0 (by omega);have c1:w3.cell? ⟨x5,1,none⟩=some (.int .i64 c.a):=oC.cell 1 (by omega);have c2:w3.cell? ⟨x5,2,none⟩=some (.int .i64 c.x):=oC.cell 2 (by omega);conv=>whnf
 repeat ((refine Ld.at (by omega) c1 ?_);conv=>whnf)
 refine Ca.of (bL c.a 24 hw.2.1 (by omega) w3) ?_;rintro _ _ ⟨rfl,rfl⟩;rw[e1];conv=>whnf
 repeat ((refine Ld.at (by omega) c2 ?_);conv=>whnf)
 refine Ca.of (bL c.x 1000000 hw.2.2 (by omega) w3) ?_;rintro _ _ ⟨rfl,rfl⟩;have e2':(1:Int)+((bD c.x 1000000:Nat):Int)=(c.n:Nat):=by rw[<-e2];omega
 have hb:=dP c.x (n:=1000000) (by omega);conv=>whnf
 repeat ((first|(refine Ld.at (by omega) c0 ?_)|refine Ar.la ?_|refine CW.s ?_);conv=>whnf)
 rw[e2'];refine Ca.of (bL c.kind 6 hw.1 (by omega) w3) ?_;rintro _ _ ⟨rfl,rfl⟩;rw[e3];rw[hk];conv=>whnf
 repeat ((first|(refine Ix.of c.of (by omega) (by omega) ?_)|refine Br.t ?_|refine Br.f ?_|refine CW.s ?_);conv=>whnf)
 rw[show 0+0+c.of=c.of by omega];refine Sd.rowAt fS c.of (by omega) (by omega) rfl ?_;intro w4 ia k4;have ia:Row w4 x4 28 24 (cO (ah a c.of 0)):=ia.congr (fun j hj=>zU a c.of 0 j);have D4:=D3.iz fS (by decide) k4;have vY:=r6.ab k4 (by simpa using h46.symm);have bU:=bG.fresh nV k4;have qB:=bU.size;clear D3 fS r6 k4 bG c0 c1 c2 oC;conv=>whnf
 refine CW.held (fun w'=>Row w' x4 28 24 (cO (ah a c.of 0))) [] (.take 0 (.take 1 (.take 2 (.one 3 (.one 4 (.take 5 (.take 6 (.done)))))))) ai (by kernel_rfl) (by kernel_rfl) (by kernel_rfl) ?_ ?_
 ·exact Row.drewN ia 1
 have q4:=(Aa.refl [] w4).drewN 1;have D5:=D4.aj q4;have iJ:=ia.ab q4 (by simp);have qI:=vY.ab q4 (by simp);have dL:=bU.trans q4;clear D4 ia vY bU q4;generalize w4.drewN 1=w6 at *;conv=>whnf
 repeat ((refine Am.of (fun w hS=>ei (q:=cO (ah a c.of 0)) hS underlying28 rfl aB (by omega) (fun j hj=>by rw[Nat.zero_add])) ?_);conv=>whnf)
 have D6:=D5;have nT:=iJ;have r66:=qI;have gG:=dL;clear D5 iJ qI dL;refine Ca.of (gJ D6) ?_;rintro u w7 ⟨k7,hr7⟩;have wL:=nT.ab k7 (D6.bW nT (by decide));have ue:=r66.ab k7 (D6.bW r66 (by decide));have hs6:=gG.size;have av:=D6.lJ;refine⟨wL,?_⟩;conv=>whnf
 refine Ru.im ue aB (by omega) (fun j hj=>cM _ j) ?_;intro w8 oZ k8;have oZ:Row w8 x6 28 24 (cO (ah a c.of 0)):=oZ.congr (fun j hj=>by unfold lay;rw[if_pos (by omega),Nat.sub_zero]);refine⟨wL.ab k8 (by simpa using h46),?_⟩;conv=>whnf
 refine Ru.cx (q:=cO (ah a c.of 0)) oZ underlying28 rfl aB (by omega) (fun j hj=>by rw[Nat.zero_add]) ?_;conv=>whnf
 have mY:=D6.bW r66 (by decide);have jd:=D6.rv;refine⟨rfl,u,rfl,((gG.mono (T:=own) (by simp)).trans k7).then k8 (fun x hx=>.inr (by rw[List.mem_singleton.1 hx];exact rA)),?_⟩;rcases hr7 with⟨K7,P7,b7,dW,wM,D7,h7,mi⟩|⟨wM,Q,cj,hd7⟩
 ·refine .inl ⟨K7,P7,b7,dW,wM,D7.iz ue (by decide) k8,fun x hx=>?_,mi⟩;rcases h7 x hx with h|h
  ·exact .inl h
  ·exact .inr (Nat.le_trans hs6 h)
 ·exact .inr ⟨wM,Q,cj.ab k8 (fun hm=>mY (by rw[<-List.mem_singleton.1 hm];exact jd.1)) (fun hm=>mY (by rw[<-List.mem_singleton.1 hm];exact jd.2)),hd7⟩
theorem adD(D:Ae w own d ch K P b){c:Cl}(hw:c.wf)(hk:4<=c.kd){a:Nat->Nat}
  (gJ:∀ {w1:World},Ae w1 own d ch K P b->Spec Tryz.prog 22 #[.pointer (some ⟨d,0,none⟩),.int .i64 c.of] w1 fun v w'=>CG a' c.of K P own d ch b w1 v w') :
  Spec Tryz.prog 19 #[.pointer (some ⟨d,0,none⟩),agg 24 (cO a),agg 3 c.cell] w fun v w'=>Av own d ch b w w' (fun K' P'=>(∃(Y:Option Addr) (e:Nat) (f:Nat->Nat),v=.tuple #[agg 24 (cO a),.slice Y 160 e,al 0]/\Ly w' 5 1 Y 160 e (fun j=>.int .u8 (f j:Nat))/\(∀x,x∈aK Y->w.heap.size<=x)/\∀j,j<160->f j=a' c.of j)/\A3 a' K P K' P') (fun Q=>v=.tuple #[agg 24 (cO a),.slice none 0 0,al 7]/\Tw Q 1099511627775 a'):=by
 have jK:=c.of_lt;have hn:=c.adq;have e1:bD c.a 24=c.of:=rfl;have e2:1+bD c.x 1000000=c.n:=rfl;have e3:bD c.kind 6=c.kd:=rfl;refine spec_of_wpE (T:=tt) ai func19 rfl (by decide +kernel) ntmps19 (by simp) ?_;conv=>whnf
 refine Ru.dr ?_;intro x4 w1 qj dj r4 k1;conv=>whnf
 refine Ru.dr ?_;intro x5 w2 hx5 gO r5 k2;conv=>whnf
 refine Ru.aE (di w2) ?_;intro x6 w3 hx6 gg r6 k3;have fS:=r4.ab (k2.trans k3) (by simp);have oC:=r5.ab k3 (by simp);have bG:=(k1.trans k2).trans k3;have D3:=D.aj bG;have nV:w.heap.size<=x4:=by omega
 have rA:w.heap.size<=x6:=by omega
 have h46:x4≠x6:=by omega
 clear r4 r5 k1 k2 k3 dj gO gg qj hx5 hx6 w1 w2 D;have c0:w3.cell? ⟨x5,0,none⟩=some (.int .i64 c.kind):=oC.cell 0 (by omega);have c1:w3.cell? ⟨x5,1,none⟩=some (.int .i64 c.a):=oC.cell 1 (by omega);have c2:w3.cell? ⟨x5,2,none⟩=some (.int .i64 c.x):=oC.cell 2 (by omega);conv=>whnf
 repeat ((refine Ld.at (by omega) c1 ?_);conv=>whnf)
 refine Ca.of (bL c.a 24 hw.2.1 (by omega) w3) ?_;rintro _ _ ⟨rfl,rfl⟩;rw[e1];conv=>whnf
 repeat ((refine Ld.at (by omega) c2 ?_);conv=>whnf)
 refine Ca.of (bL c.x 1000000 hw.2.2 (by omega) w3) ?_;rintro _ _ ⟨rfl,rfl⟩;have e2':(1:Int)+((bD c.x 1000000:Nat):Int)=(c.n:Nat):=by rw[<-e2];omega
 have hb:=dP c.x (n:=1000000) (by omega);conv=>whnf
 repeat ((first|(refine Ld.at (by omega) c0 ?_)|refine Ar.la ?_|refine CW.s ?_);conv=>whnf)
 rw[e2'];refine Ca.of (bL c.kind 6 hw.1 (by omega) w3) ?_;rintro _ _ ⟨rfl,rfl⟩;rw[e3];have anh:c.kd<6:=dP _ (by omega);have hk3:c.kd=4\/c.kd=5:=by omega
 rcases hk3 with h|h
 all_goals
  rw[h];conv=>whnf
  repeat ((first|refine Br.f ?_|refine CW.s ?_);conv=>whnf)
  refine Ca.of (gJ D3) ?_;rintro u w7 ⟨k7,hr7⟩;have wL:=fS.ab k7 (D3.bW fS (by decide));have ue:=r6.ab k7 (D3.bW r6 (by decide));have mY:=D3.bW r6 (by decide);have jd:=D3.rv;have av:=D3.lJ;have gg:=bG.size;have hs7:=k7.size;have ari:=r6.lt;have fin:∀w8,Aa [x6] w7 w8->Aa own w w8:=fun w8 k8=>((bG.mono (T:=own) (by simp)).trans k7).then k8 (fun x hx=>.inr (by rw[List.mem_singleton.1 hx];exact rA));rcases hr7 with⟨K7,P7,b7,dW,wM,D7,h7,⟨Y,e,f,rfl,hY,hYn,hf⟩,hC⟩|⟨wM,Q,cj,rfl,ml⟩
  ·conv=>whnf
   refine Ru.cx (q:=cO a) wL underlying28 rfl aB (by omega) (fun j hj=>by rw[Nat.zero_add]) ?_;conv=>whnf
   refine Ru.im ue aB (by omega) (fun j hj=>cM _ j) ?_;intro w8 oZ k8;have oZ:Row w8 x6 28 24 (cO a):=oZ.congr (fun j hj=>by unfold lay;rw[if_pos (by omega),Nat.sub_zero]);conv=>whnf
   refine Ru.cx (q:=cO a) oZ underlying28 rfl aB (by omega) (fun j hj=>by rw[Nat.zero_add]) ?_;conv=>whnf
   refine⟨rfl,fin w8 k8,.inl ⟨K7,P7,b7,dW,wM,D7.iz ue (by decide) k8,fun x hx=>?_,⟨Y,e,f,rfl,hY.ab k8 (fun x hx hm=>?_),fun x hx=>Nat.le_trans gg (hYn x hx),hf⟩,hC⟩⟩
   ·rcases h7 x hx with h|h
    ·exact .inl h
    ·exact .inr (Nat.le_trans gg h)
   ·have:=hYn x hx;rw[List.mem_singleton.1 hm] at this;omega
  ·conv=>whnf
   refine Ru.cx (q:=cO a) wL underlying28 rfl aB (by omega) (fun j hj=>by rw[Nat.zero_add]) ?_;conv=>whnf
   refine Ru.im ue aB (by omega) (fun j hj=>cM _ j) ?_;intro w8 oZ k8;have oZ:Row w8 x6 28 24 (cO a):=oZ.congr (fun j hj=>by unfold lay;rw[if_pos (by omega),Nat.sub_zero]);conv=>whnf
   refine Ru.cx (q:=cO a) oZ underlying28 rfl aB (by omega) (fun j hj=>by rw[Nat.zero_add]) ?_;conv=>whnf
   exact⟨rfl,fin w8 k8,.inr ⟨wM,Q,cj.ab k8 (fun hm=>mY (by rw[<-List.mem_singleton.1 hm];exact jd.1)) (fun hm=>mY (by rw[<-List.mem_singleton.1 hm];exact jd.2)),rfl,ml⟩⟩
inductive De (a:Nat->Nat) (c:Cl) (K:KS) (P:CS) (w w':World) (v:Value) (K':KS) (P':CS):Prop
 |done:c.kd<=3->v=.tuple #[agg 24 (cO (c.arr a)),.slice none 0 0,al 0]->A3 (mZ (c.arr a)) K P K' P'->De a c K P w w' v K' P'
 |not:c.kd<=3->v=.tuple #[agg 24 (cO (c.arr a)),.slice none 0 0,al 14]->A3 (mZ a) K P K' P'->(AF K P->K.next+120<=1099511627775->False)->De a c K P w w' v K' P'
 |read {Y:Option Addr} {e:Nat} {f:Nat->Nat}:4<=c.kd->v=.tuple #[agg 24 (cO a),.slice Y 160 e,al 0]->Ly w' 5 1 Y 160 e (fun j=>.int .u8 (f j:Nat))->(∀x,x∈aK Y->w.heap.size<=x)->(∀j,j<160->f j=mZ a c.of j)->A3 (mZ a) K P K' P'->De a c K P w w' v K' P'
theorem ajM(D:Ae w own d ch K P b){c:Cl}(hw:c.wf){a:Nat->Nat}(W:Wi (mZ a) kk K P) :
  Spec Tryz.prog 19 #[.pointer (some ⟨d,0,none⟩),agg 24 (cO a),agg 3 c.cell] w fun v w'=>Av own d ch b w w' (De a c K P w w' v) (fun Q=>v=.tuple #[agg 24 (cO (c.arr a)),.slice none 0 0,al 7]/\(Tw Q 1099511627775 (mZ a)\/Tw Q 1099511627775 (mZ (c.arr a)))):=by
 by_cases h1:c.kd<=2
 ·have e:c.arr a=ah a c.of c.n:=if_pos h1;refine(abW D hw h1 (fun D1 hA he=>adB D1 W c.of_lt (ru _) hA he)).mono ?_;rintro v w' ⟨u,rfl,hu⟩;rw[s8] at hu;rw[e];refine hu.mono (fun K' P' h=>?_) (fun Q h=>?_)
  ·rcases h with⟨rfl,h⟩|⟨rfl,h,hr⟩
   ·exact .done (by omega) (by rw[e]) (by rw[e];exact h)
   ·exact .not (by omega) (by rw[e]) h hr
  ·obtain⟨rfl,h⟩:=h;exact⟨rfl,h⟩
 ·by_cases h3:c.kd=3
  ·have e:c.arr a=ah a c.of 0:=by
    unfold Cl.arr;rw[if_neg h1,if_pos h3]
   refine(adC D hw h3 (fun D1=>agd D1 W c.of_lt)).mono ?_;rintro v w' ⟨u,rfl,hu⟩;have e0:gV (mZ a) c.of (fun _=>0)=mZ (ah a c.of 0):=s8 a c.of 0;rw[e0] at hu;rw[e];refine hu.mono (fun K' P' h=>?_) (fun Q h=>?_)
   ·rcases h with⟨rfl,h⟩|⟨rfl,h,hr⟩
    ·exact .done (by omega) (by rw[e]) (by rw[e];exact h)
    ·exact .not (by omega) (by rw[e]) h hr
   ·obtain⟨rfl,h⟩:=h;exact⟨rfl,h⟩
  ·have e:c.arr a=a:=by
    unfold Cl.arr;rw[if_neg h1,if_neg h3]
   refine(adD D hw (by omega) (fun D1=>age D1 W c.of_lt)).mono ?_;rintro v w' hu;rw[e];refine hu.mono (fun K' P' h=>?_) (fun Q h=>?_)
   ·obtain⟨⟨Y,e',f,rfl,h2,h3',h4⟩,h5⟩:=h;exact .read (by omega) rfl h2 h3' h4 h5
   ·exact⟨h.1,.inl h.2⟩
end
theorem Inv.wi{K:KS}{P:CS}{k:Cp}{m:Int}(I:Inv K P k m){a:Nat->Nat->Nat}(hs:Ac P K.at_ a)(hm:m<=1099511627775):Wi a k K P/\AF K P/\∀B,¬P.may B:=by
 have gd:=I.l.ok.gd;have cG:=I.l.ok.cG;have nx:=I.l.next;have ajN:∀B,¬P.may B:=fun B h=>by
  rcases h with h|h|h
  ·rw[gd.calm.f] at h;cases h
  ·have:=gd.calm.b B;omega
  ·rw[gd.calm.e] at h;cases h
 refine⟨⟨⟨⟨gd.val,fun p q t t' D D' hp hq e e' hs=>?_,nx.1⟩,cG.pt,cG.data,cG.told,fun o ho=>by rw[I.l.fl o ho];exact nx.2.2.2 o ho,fun o ho e=>?_,fun o ho e q t D hq h1 h2 _=>?_⟩,hs,I.l.en,I.l.fl,by omega,I.l.eZ,I.h.hb,I.h.cur,fun b hb=>by have:=I.b.st b hb;omega,I.b.pn,I.b.fb,I.b.fi,I.b.bl,I.b.fst,I.b.fr,fun b hb e=>?_,fun _ o ho e=>?_⟩,⟨I.b.mT,by rw[abx I.b];omega,by rw[abx I.b];have:=I.free;omega,0,fun B _ h=>absurd h (ajN B),fun _ h=>absurd h (ajN 0)⟩,ajN⟩
 ·by_cases hpq:p=q
  ·subst hpq;rw[e] at e'
   cases e'
   exact⟨rfl,rfl⟩
  ·obtain⟨g1,g2,_⟩:=gd.seq p q t t' D D' hp hq hpq e e' hs;exact⟨g1,g2⟩
 ·obtain⟨hp,t,D,e1,e2,e3,e4⟩:=cG.yes o ho e;refine⟨t.seq,⟨hp,cG.bad _ (by omega),⟨t,D,e1,e2,rfl⟩,fun q t' D' hq h1 h2 _=>?_⟩,e3⟩;by_cases hqp:q=K.at_ o-1
  ·subst hqp;rw[e1] at h1
   cases h1
   exact Int.le_refl _
  ·rcases e4 q t' D' hq hqp h1 h2 with x|⟨x,_⟩<;>omega
 ·have:=cG.no o (by omega) e q t D hq h1 h2;rw[fQ k ho] at this;exact this
 ·rw[cG.bad b hb] at e
  cases e
 ·obtain⟨hp,t,D,e1,_⟩:=cG.yes o ho e;have h2:=I.b.st ((K.at_ o-1)/8) (by omega);have h0:K.st ((K.at_ o-1)/8)≠0:=fun h=>by
   have:=I.b.bl ((K.at_ o-1)/8) ((K.at_ o-1)%8) (by omega) h (by omega);rw[show(K.at_ o-1)/8*8+(K.at_ o-1)%8=K.at_ o-1 by omega,e1] at this
   cases this
  by_cases h1:K.st ((K.at_ o-1)/8)=1
  ·exact .inr (I.b.mT _ (by omega) h1)
  ·exact .inl (by omega)
section
variable{w w':World}{own:List Nat}{d ch:Nat}{K:KS}{P:CS}{b:Option Nat}
theorem Ae.ajO(D:Ae w own d ch K P b){C':Chip}{P':CS}{b':Option Nat}(k:Aa [ch] w w')(H:Ab w' ch C')(hA:Abs C' P')(hl:C'.left b'):Ae w' own d ch K P' b':=by
 obtain⟨N,X,c,n,e,r,h,eC,hq⟩:=D;obtain⟨C,M,hA0,hl0⟩:=h.o9;have hd:d≠ch:=Row.ed r (show Ab w ch C by rw[<-eC];exact M.cH) (by decide);subst eC;exact⟨N,X,c,n,e,Row.ab r k (by simpa using hd),h.cH (k.mono (fun x hx=>by rw[List.mem_singleton.1 hx];simp[Pt.l])) ⟨C',M.uc k H,hA,hl⟩,rfl,hq⟩
structure Eg(w0:World)(ajp:List Nat)(d ch:Nat)(a:Nat->Nat)(K:KS)(P:CS)(own:List Nat)(w:World):Prop where
 on:Ae w own d ch K P none
 wi:∃k,Wi (mZ a) k K P
 sub:∀x,x∈own->x∈ajp\/w0.heap.size<=x
 kk:Aa ajp w0 w
end
def qn(k:Cp)(K:KS):Nat->KS
 |0=>K
 |b+1=>if k.bad b=true then { qn k K b with st:=aD (qn k K b).st b 3 } else if 0<lv K.at_ b then { qn k K b with st:=aD (qn k K b).st b 2 } else qn k K b
theorem abX(k:Cp)(K:KS):qn k K 0=K:=rfl
theorem abY(k:Cp)(K:KS)(b:Nat):qn k K (b+1)=if k.bad b=true then { qn k K b with st:=aD (qn k K b).st b 3 } else if 0<lv K.at_ b then { qn k K b with st:=aD (qn k K b).st b 2 } else qn k K b:=rfl
theorem abZ(k:Cp)(K:KS):∀b,∃st,qn k K b={ K with st:=st }
 |0=>⟨K.st,rfl⟩
 | b+1=>by
  obtain⟨st,h⟩:=abZ k K b;unfold qn;split
  ·rw[h];exact⟨_,rfl⟩
  ·split
   ·rw[h];exact⟨_,rfl⟩
   ·exact⟨st,h⟩
theorem ajP(k:Cp){K:KS}(h0:K.st=fun _=>0):∀n b,(qn k K n).st b=if b<n then (if k.bad b=true then 3 else if 0<lv K.at_ b then 2 else 0) else 0
 | 0,b=>by
  rw[abX,h0,if_neg (by omega)]
 | n+1,b=>by
  have ih:=ajP k h0 n;have en:(qn k K n).st n=0:=by rw[ih n,if_neg (by omega)]
  have s3:aD (qn k K n).st n 3=ah (qn k K n).st n 3:=if_neg (fun x=>x.2 rfl);have s2:aD (qn k K n).st n 2=ah (qn k K n).st n 2:=if_neg (fun x=>by omega);rw[abY];by_cases eU:b=n
  ·subst eU;rw[if_pos (show b<b+1 by omega)];by_cases hb:k.bad b=true
   ·rw[if_pos hb,if_pos hb];show aD (qn k K b).st b 3 b=3;rw[s3];exact if_pos rfl
   ·rw[if_neg hb,if_neg hb];by_cases hl:0<lv K.at_ b
    ·rw[if_pos hl,if_pos hl];show aD (qn k K b).st b 2 b=2;rw[s2];exact if_pos rfl
    ·rw[if_neg hl,if_neg hl];exact en
  ·have e:(if b<n+1 then (if k.bad b=true then 3 else if 0<lv K.at_ b then 2 else 0) else 0)=(qn k K n).st b:=by
    rw[ih b];by_cases h:b<n
    ·rw[if_pos h,if_pos (by omega)]
    ·rw[if_neg h,if_neg (by omega)]
   rw[e];split
   ·show aD (qn k K n).st n 3 b=_;rw[s3];exact if_neg eU
   ·split
    ·show aD (qn k K n).st n 2 b=_;rw[s2];exact if_neg eU
    ·rfl
def nwW(k:Cp)(L:List Fd):KS:=qn k (cu k L 25) 12
structure B8(k:Cp)(L:List Fd):Prop where
 told:k.told
 mw:∀i,i<=25->AL (cu k L i).at_ (cu k L i).ow
 set:∀i,i<25->0<=bp L k i->bp L k i<96/\ie (cu k L i).ow i (bp L k i).toNat=0
section
variable{w w':World}{N:Cr}{K:KS}{X:Option Addr}{c:Nat}{P:CS}{b:Option Nat}{n:Int}
attribute [local irreducible] cu qn bp ky lv dG
theorem agf{C:Chip}{ch:Nat}(H:Ab w ch C)(hA:Abs C P)(hl:C.left b){k:Cp}{L:List Fd}(Hk:B8 k L){A:Option Addr}{cA:Nat}(hr:Rd w A (L.length*6) (ju L))(hn:L.length*48<=140737488351232) :
  Spec Tryz.prog 76 #[.pointer (some ⟨ch,0,none⟩),agg 62 k.cell,.slice A L.length cA] w fun v w'=>∃N:Cr,v=.tuple #[.pointer (some ⟨N.k,0,none⟩),al 0]/\On w' N (nwW k L) P b 0 none 0/\N.N.c=ch/\(∀x,x∈N.all->x=ch\/w.heap.size<=x)/\Aa [] w w':=by
 have acI:∀(w1 w2:World) (x:Nat),w.heap.size<=x->Aa [x] w1 w2->Rd w1 A (L.length*6) (ju L)->Rd w2 A (L.length*6) (ju L):=fun w1 w2 x hx k' h' hn0=>by
  obtain⟨b0,o0,rfl,yG⟩:=hr hn0;have:=aZ (yG 0 hn0);exact h'.ab k' (fun a e hm=>by
   cases e
   have:=List.mem_singleton.1 hm;simp only at *;omega) hn0
 have ht:=Hk.told;have aiW:ch<w.heap.size:=Row.lt H;refine spec_of_wpE (T:=tt) ai func76 rfl (by decide +kernel) ntmps76 (by simp) ?_;conv=>whnf
 refine Ru.dr ?_;intro x4 w1 qj dj r4 k1;conv=>whnf
 repeat (refine CW.s ?_;conv=>whnf)
 refine Ru.of (mU w1 _ _) ?_;conv=>whnf
 repeat ((first|refine Br.f ?_|refine CW.s ?_);conv=>whnf)
 refine Ru.vR r4 underlying116 rfl bu (by omega) ?_;rw[br (fun j _=>by rw[Nat.zero_add]:∀j,j<62->k.cell (0+j)=k.cell j)];conv=>whnf
 refine Ca.of (iK w1 k ht) ?_;rintro _ w2 ⟨y,hy,rfl,ry,k2⟩;have l8:=r4.ab k2 (by simp);have H2:=H.ab (k1.trans k2) (by simp);have sQ:=hr.aj (k1.trans k2);have dh:=k1.trans k2;have nV:w.heap.size<=x4:=by omega
 clear r4 H hr k1 k2 ry hy dj qj w1;conv=>whnf
 repeat ((first|refine Br.f ?_|refine Ru.ak ?_);conv=>whnf)
 refine CW.held (fun w'=>Row w' x4 116 62 k.cell) [] (.take 0 (.take 1 (.take 2 (.take 3 (.one 4 (.take 5 (.take 6 (.take 7 (.take 8 (.take 9 (.done))))))))))) ai (by kernel_rfl) (by kernel_rfl) (by kernel_rfl) ?_ ?_
 ·exact Row.drewN l8 1
 have q2:=(Aa.refl [] w2).drewN 1;have H3:=H2.ab q2 (by simp);have fS:=l8.ab q2 (by simp);have hr3:=sQ.aj q2;have bG:=dh.trans q2;clear H2 l8 sQ dh q2;generalize w2.drewN 1=w3 at *;have rdr:Rd w3 (some ⟨x4,38,none⟩) 12 (fun j=>.int .i64 (ig k j)):=fun _=>⟨x4,38,rfl,fun j hj=>by
  rw[fS.cell (38+j) (by omega),k.nA hj];unfold ig;simp only[if_pos hj]⟩
 have rds:Rd w3 (some ⟨x4,50,none⟩) 12 (fun j=>.int .i64 (gA k j)):=fun _=>⟨x4,50,rfl,fun j hj=>by
  rw[fS.cell (50+j) (by omega),k.nB hj];unfold gA;simp only[if_pos hj]⟩
 have anR:Hl.aea 12 12 (ig k) (gA k):=⟨rfl,rfl,fun j hj=>by
  unfold ig gA;rw[if_pos hj,if_pos hj];exact⟨(ht.rd j hj).1,(ht.sc j hj).1⟩⟩
 conv=>whnf
 refine Am.of (fun w _=>km x4 38 w) ?_;conv=>whnf
 refine Am.of (fun w _=>km x4 50 w) ?_;conv=>whnf
 refine Ca.of (Hl.yV _ _ 12 12 12 12 (ig k) (gA k) w3 rdr rds (fun j=>?_) (fun j=>?_)) ?_
 ·unfold ig;split
  ·have:=ht.rd j ‹_›;omega
  ·omega
 ·unfold gA;split
  ·have:=ht.sc j ‹_›;omega
  ·omega
 rintro _ w4 ⟨k4,gN⟩;rcases gN with⟨-,h,rfl,rh,hh⟩|⟨lW,-⟩
 case inr=>exact absurd anR lW
 have ia:=fS.ab k4 (by simp);have H4:=H3.ab k4 (by simp);have hr4:=hr3.aj k4;have bU:=bG.trans k4;have hhw:w.heap.size<=h:=Nat.le_trans bG.size hh;clear fS H3 hr3 bG k4 rdr rds;refine⟨ia,?_⟩;have uB:=ht.cur;obtain⟨cur,aiX⟩:∃cur:Nat,k.cur=cur:=⟨k.cur.toNat,by omega⟩;have c37:w4.cell? ⟨x4,37,none⟩=some (.int .i64 cur):=by
  rw[<-aiX];exact ia.cell 37 (by omega)
 conv=>whnf
 repeat ((first|(refine Ld.at (by omega) c37 ?_)|refine Br.f ?_|refine Ru.ak ?_|refine CW.s ?_);conv=>whnf)
 refine Ca.of (xL (cur:=cur) (by omega)) ?_;rintro _ w5 ⟨q,rfl,rq,hq,k5⟩;have iJ:=ia.ab k5 (by simp);have H5:=H4.ab k5 (by simp);have hr5:=hr4.aj k5;have rh5:=Row.ab rh k5 (by simp);have dL:=bU.trans k5;have hqw:w.heap.size<=q:=Nat.le_trans bU.size hq;clear ia H4 hr4 rh bU k5;conv=>whnf
 repeat ((first|refine Br.f ?_|refine Ru.ak ?_|refine CW.s ?_);conv=>whnf)
 refine CW.held (fun w'=>Row w' x4 116 62 k.cell) [] (.take 0 (.take 4 (.take 6 (.take 7 (.take 8 (.take 9 (.take 10 (.take 11 (.two 1 (.two 2 (.two 3 (.two 5 (.one 12 (.take 13 (.one 14 (.take 15 (.done))))) 12 (.one 5 (.take 13 (.one 14 (.take 15 (.done)))))) 5 (.one 3 (.one 12 (.take 13 (.one 14 (.take 15 (.done))))))) 5 (.one 2 (.one 3 (.one 12 (.take 13 (.one 14 (.take 15 (.done)))))))) 5 (.one 1 (.one 2 (.one 3 (.one 12 (.take 13 (.one 14 (.take 15 (.done))))))))))))))))) ai (by kernel_rfl) (by kernel_rfl) (by kernel_rfl) ?_ ?_
 ·exact Row.drewN iJ 1
 have q5:=(Aa.refl [] w5).drewN 1;have hS:Bh w x4 ch h q k C A L (Hl.ld (ig k) (gA k)) cur none none none none (w5.drewN 1):=⟨dL.trans q5,iJ.ab q5 (by simp),H5.ab q5 (by simp),hr5.aj q5,Row.ab rh5 q5 (by simp),Row.ab rq q5 (by simp),(fun _ h=>nomatch h),(fun _ h=>nomatch h),(fun _ h=>nomatch h),(fun _ h=>nomatch h)⟩;clear H5 iJ hr5 rh5 rq dL q5;generalize w5.drewN 1=w6 at *;have hwf:=aeu ht;conv=>whnf
 repeat' ((first|(refine And.intro ?_ ?_)|(refine Am.of (fun w _=>pZ w) ?_)|(refine Am.of (fun w hS=>ei (q:=fun j=>.int .i64 (k.fl j)) hS underlying114 rfl gm (by omega) (fun j hj=>by rw[show 0+0+j=j by omega];exact k.iy hj)) ?_)|(refine Am.of (fun w hS=>ei (q:=k.cell) hS underlying116 rfl bu (by omega) (fun j hj=>by rw[Nat.zero_add])) ?_)|(refine Ca.of (zj _ ch C hS.chp) ?_;rintro _ w7 ⟨m,f,cd,g,hh',hmw,hfw,pH,hgw,ara,rfl,M7,k7⟩;replace hS:=(hS.ab k7).apl M7 (Nat.le_trans hS.kk.size hmw) (Nat.le_trans hS.kk.size hgw);refine⟨hS.s,?_⟩)|(refine Ca.of (uA (w:=_)) ?_;rintro _ w8 ⟨p,rfl,rp,hp,k8⟩;replace hS:=(hS.ab k8).apm rp (Nat.le_trans hS.kk.size hp);refine⟨hS.s,?_⟩)|(refine Ca.of (xG (w:=_)) ?_;rintro _ w9 ⟨a,rfl,ra,ha,k9⟩;replace hS:=(hS.ab k9).apn ra (Nat.le_trans hS.kk.size ha);refine⟨hS.s,?_⟩)|(refine Ru.dr ?_;intro r tP hrr hs10 rr vV;replace hS:=(hS.ab vV).apo rr (by have:=hS.kk.size;omega);refine⟨hS.s,?_⟩)|(refine Ca.of (ad8 A cA L k _ hS.hr hn hwf) ?_;rintro _ zc ⟨rfl,jJ⟩;replace hS:=hS.ab jJ;refine⟨hS.s,?_⟩)|refine HS.t ?_|refine Br.t ?_|refine Br.f ?_|refine Pk.f ?_|refine Pk.t ?_|refine Pk.and ?_|refine Pk.or ?_|refine Ix.n ?_|refine Ix.of _ (by rfl) (by omega) ?_|refine Ix.i ?_|refine Ar.la ?_|refine Ar.lb ?_|refine Ar.lc ?_|refine Dv.q ?_|refine Dv.r ?_|refine Br.y ?_|refine Br.n ?_|refine Br.ny ?_|refine Br.nn ?_|refine Br.is (by assumption) ?_|refine Br.jB (by assumption) ?_|refine Ld.of (by assumption) ?_|refine Ru.ak ?_|refine Ru.n1 ?_|refine Ru.bh ?_|refine Ru.e1 ?_|refine Ru.e2 ?_|refine Ru.e3 ?_|refine Ru.n2 ?_|refine Ru.n3 ?_|refine Ru.js rfl ?_|refine Ru.pj rfl ?_|refine Ru.aem rfl (by decide) ?_|refine Ru.kT rfl (by decide) ?_|refine Ru.be ?_|refine Ru.bn ?_|refine Am.be ?_|refine Am.bn ?_|refine CW.s ?_|refine Br.d (fun _=>?_) (fun _=>?_)|refine Br.nd (fun _=>?_) (fun _=>?_)|refine Br.mk (fun _=>?_) (fun _=>?_))<;>conv=>whnf)
 all_goals
  refine Am.of (fun w _=>ve ⟨0,⟨m,ch,f,cd,g,hh'⟩,p,a,r,h,q⟩ k L w) ?_;conv=>whnf
  refine Ru.dr ?_;intro z wz hz vP rz kz;have hzw:w.heap.size<=z:=by have:=hS.kk.size;omega
  replace hS:=hS.ab kz;refine⟨hS.s,?_⟩;have hcc:k.cur.toNat=cur:=by omega
  rw[<-hcc] at hS;have hON:=hS.on hA hl rz;have cq:∀x,x∈(⟨z,⟨m,ch,f,cd,g,hh'⟩,p,a,r,h,q⟩:Cr).all->x=ch\/w.heap.size<=x:=fun x hx=>by
   have h1:w.heap.size<=m/\w.heap.size<=g:=(hS.m _ rfl).2.2;have h2:=(hS.p _ rfl).2;have h3:=(hS.a _ rfl).2;have h4:=(hS.r _ rfl).2;simp only[Cr.all,Cr.own,Pt.l,List.cons_append,List.nil_append,List.mem_cons,List.not_mem_nil,or_false] at hx;omega
  have mV:∀x,x∈(⟨z,⟨m,ch,f,cd,g,hh'⟩,p,a,r,h,q⟩:Cr).own->w.heap.size<=x:=fun x hx=>by
   have h2:=(hS.p _ rfl).2;have h3:=(hS.a _ rfl).2;have h4:=(hS.r _ rfl).2;simp only[Cr.own,List.mem_cons,List.not_mem_nil,or_false] at hx;omega
  have r4z:=hS.r4;have hrz:=hS.hr;have kkz:=hS.kk;generalize hN:(⟨z,⟨m,ch,f,cd,g,hh'⟩,p,a,r,h,q⟩:Cr)=N at *;have eN:z=N.k:=by rw[<-hN]
  have eC:N.N.c=ch:=by rw[<-hN]
  subst eN;clear hS rz kz vP hN;conv=>whnf
  repeat (refine CW.s ?_;conv=>whnf)
  refine Ru.vR r4z underlying116 rfl bu (by omega) ?_;rw[br (fun j _=>by rw[Nat.zero_add]:∀j,j<62->k.cell (0+j)=k.cell j)];conv=>whnf
  refine Ca.of (aej A cA L k wz hrz hn) ?_;rintro _ v1 ⟨rfl,kv⟩;have on0:On v1 N (cu k L 0) P b 0 none 0:=by
   rw[kE];exact hON.aj kv
  have r4v:=r4z.ab kv (by simp);have hrv:=hrz.aj kv;have kkv:=kkz.trans kv;clear hON r4z hrz kkz kv;conv=>whnf
  refine CW.loop (ι:=Nat) (fun i w'=>i<=25/\On w' N (cu k L i) P b 0 none 0/\Row w' x4 116 62 k.cell/\Rd w' A (L.length*6) (ju L)/\Aa [] w w')
   (fun i=>[(2,.slice A L.length cA),(4,.pointer (some ⟨x4,0,none⟩)),(13,.pointer (some ⟨N.k,0,none⟩)),(68,agg 25 (fun j=>.int .i64 (bp L k j))),(69,.int .i64 i)]) (fun i=>25-i) 0 ai ⟨by omega,on0,r4v,hrv,kkv⟩ ⟨rfl,rfl,rfl,rfl,rfl,trivial⟩ ?_;clear on0 r4v hrv kkv;rintro i wr ⟨hi,hr,r4,zD,kk⟩;rcases Nat.lt_or_ge i 25 with av|wg
  ·have hmw:=Hk.mw i hi;have bq:=kF k L i;by_cases adg:bp L k i<0
   ·rw[if_pos adg] at bq;conv=>whnf
    repeat ((first|(refine Ru.idx underlying59 av (by kernel_rfl) ?_)|refine Ar.la ?_|refine Br.y ?_|refine CW.s ?_);conv=>whnf)
    exact⟨i+1,⟨av,by rw[bq];exact hr,r4,zD,kk⟩,⟨rfl,rfl,rfl,rfl,vi (by omega),trivial⟩,by simp only;omega⟩
   ·rw[if_neg adg] at bq;obtain⟨h96,za⟩:=Hk.set i av (by omega);obtain⟨pl,hpl⟩:∃pl:Nat,bp L k i=pl:=⟨(bp L k i).toNat,by omega⟩;have acH:(bp L k i).toNat=pl:=by omega
    rw[acH] at bq za;rw[hpl] at adg h96 bq;have vf:(Value.int .i64 (bp L k i))=.int .i64 (pl:Int):=by rw[hpl]
    have hfn:ky L (i:Int) (pl:Int)=ky L i (pl:Nat):=rfl;conv=>whnf
    repeat ((first|(refine Ru.idx underlying59 av (by kernel_rfl) ?_;rw[vf])|(refine Ld.of hr.core.c2 ?_)|refine Br.f ?_|refine Br.y ?_|refine CW.s ?_);conv=>whnf)
    refine Ca.of (zz hr.core.map hmw i pl (by omega) (by omega)) ?_;rintro _ w3 ⟨rfl,m3,k3⟩;have h3:=hr.map k3 m3;rw[za];have bG:=kk.fresh (mV N.a (by simp[Cr.own])) k3;have fS:=r4.ab k3 (by
     have:=Row.ed hr.core.map r4 (by decide);simpa using this.symm)
    have adh:=acI _ _ _ (mV N.a (by simp[Cr.own])) k3 zD;clear hr r4 zD kk m3 k3;conv=>whnf
    repeat ((first|refine Br.f ?_|refine Ru.ak ?_);conv=>whnf)
    refine CW.held (fun w'=>Rd w' A (L.length*6) (ju L)) [] (.take 0 (.take 1 (.take 2 (.take 3 (.take 4 (.take 6 (.take 7 (.one 5 (.take 8 (.one 9 (.done))))))))))) ai (by kernel_rfl) (by kernel_rfl) (by kernel_rfl) ?_ ?_
    ·exact adh.aj ((Aa.refl [] w3).drewN 1)
    have q3:=(Aa.refl [] w3).drewN 1;have h4:=h3.aj q3;have ia:=fS.ab q3 (by simp);have adi:=adh.aj q3;have bU:=bG.trans q3;clear h3 fS adh bG q3;generalize w3.drewN 1=w4 at *;conv=>whnf
    refine Ca.of (abz A cA L i pl w4 adi hn) ?_;rintro _ w5 ⟨rfl,k5⟩;have h5:=h4.aj k5;have iJ:=ia.ab k5 (by simp);have aiY:=adi.aj k5;have dL:=bU.trans k5;clear h4 ia adi bU k5;refine⟨aiY,?_⟩;conv=>whnf
    repeat ((refine Ix.of i (by omega) (by omega) ?_);conv=>whnf)
    rw[show 0+7+i*3=7+3*i by omega];refine Ru.im h5.core.row dK (by omega) (fun j _=>En.bj _) ?_;intro w6 r6 k6;have h6:=h5.row (K':={ cu k L i with at_:=(setAt (cu k L i).at_ (cu k L i).ow i pl).1,ow:=(setAt (cu k L i).at_ (cu k L i).ow i pl).2,en:=ah (cu k L i).en i (ky L i pl) }) k6 r6 (fun j hj=>uM i (by omega) _ j hj) rfl;have aiZ:Rd w6 A (L.length*6) (ju L):=acI _ _ _ (mV N.k (by simp[Cr.own])) k6 aiY;refine⟨aiZ,?_⟩;conv=>whnf
    repeat (refine Ar.la ?_;conv=>whnf)
    refine⟨i+1,⟨av,?_,iJ.ab k6 (by
     have:=h5.core.row.ed iJ (by decide);simpa using this.symm),aiZ,dL.fresh (mV N.k (by simp[Cr.own])) k6⟩,⟨rfl,rfl,rfl,rfl,vi (by omega),trivial⟩,by simp only;omega⟩
    rw[bq];exact h6
  ·obtain rfl:i=25:=by omega
   conv=>whnf
   repeat ((first|(refine Ld.of hr.core.c2 ?_)|refine Br.f ?_|refine CW.s ?_);conv=>whnf)
   refine Ca.of (fj hr.core.map (Hk.mw 25 (Nat.le_refl _)).la) ?_;rintro _ v2 ⟨gl,rfl,rgl,qz,kl⟩;have h2:=hr.aj kl;have l8:=r4.ab kl (by simp);have dh:=kk.trans kl;have arb:w.heap.size<=gl:=Nat.le_trans kk.size qz;clear hr r4 zD kk kl;conv=>whnf
   repeat (refine CW.s ?_;conv=>whnf)
   refine Ru.cx (q:=fun j=>.bool (k.bad j)) l8 underlying63 rfl (by kernel_rfl:(Tryz.prog.info? 63).map (·.size)=some 12) (by omega) (fun j hj=>by rw[show 0+25+j=25+j by omega];exact k.jZ hj) ?_;conv=>whnf
   refine CW.loop (ι:=Nat) (fun i w'=>i<=12/\On w' N (qn k (cu k L 25) i) P b 0 none 0/\Row w' gl 3 12 (fun b=>.int .i64 (lv (cu k L 25).at_ b:Nat))/\Aa [] w w')
    (fun i=>[(13,.pointer (some ⟨N.k,0,none⟩)),(17,.slice (some ⟨gl,0,none⟩) 12 12),(101,agg 12 (fun j=>.bool (k.bad j))),(102,.int .i64 i)]) (fun i=>12-i) 0 ai ⟨by omega,by rw[abX];exact h2,rgl,dh⟩ ⟨rfl,rfl,rfl,rfl,trivial⟩ ?_;clear h2 l8 rgl dh;rintro i wr ⟨hi,hr,rg,kk⟩;rcases Nat.lt_or_ge i 12 with av|wg
   ·have ci:=rg.cell i av;have bq:=abY k (cu k L 25) i;by_cases cN:k.bad i=true
    ·have mC:(Value.bool (k.bad i))=.bool true:=by rw[cN]
     rw[if_pos cN] at bq;conv=>whnf
     repeat ((first|(refine Ru.idx underlying63 av (by kernel_rfl) ?_;rw[mC])|(refine Ld.of hr.core.c1 ?_)|refine Br.t ?_|refine Br.y ?_|refine CW.s ?_);conv=>whnf)
     refine Ca.of (eO hr.core.aV i 3 av (by omega)) ?_;rintro _ w3 ⟨⟨e,rfl⟩,r3,k3⟩;have h3:=hr.aV k3 r3;conv=>whnf
     repeat (refine Ar.la ?_;conv=>whnf)
     refine⟨i+1,⟨av,?_,rg.ab k3 (by
      have:=Row.ed hr.core.aV rg (by decide);simpa using this.symm),kk.fresh (mV N.p (by simp[Cr.own])) k3⟩,⟨rfl,rfl,rfl,vi (by omega),trivial⟩,by simp only;omega⟩
     rw[bq];exact h3
    have hb:k.bad i=false:=by simpa using cN
    have mC:(Value.bool (k.bad i))=.bool false:=by rw[hb]
    rw[if_neg cN] at bq;by_cases sO:0<lv (cu k L 25).at_ i
    ·rw[if_pos sO] at bq;conv=>whnf
     repeat ((first|(refine Ru.idx underlying63 av (by kernel_rfl) ?_;rw[mC])|(refine Ld.at (by omega) ci ?_)|(refine Ld.of hr.core.c1 ?_)|refine Br.f ?_|refine Ix.n ?_|refine Br.y ?_|refine CW.s ?_);conv=>whnf)
     refine Ca.of (eO hr.core.aV i 2 av (by omega)) ?_;rintro _ w3 ⟨⟨e,rfl⟩,r3,k3⟩;have h3:=hr.aV k3 r3;conv=>whnf
     repeat (refine Ar.la ?_;conv=>whnf)
     refine⟨i+1,⟨av,?_,rg.ab k3 (by
      have:=Row.ed hr.core.aV rg (by decide);simpa using this.symm),kk.fresh (mV N.p (by simp[Cr.own])) k3⟩,⟨rfl,rfl,rfl,vi (by omega),trivial⟩,by simp only;omega⟩
     rw[bq];exact h3
    ·rw[if_neg sO] at bq;conv=>whnf
     repeat ((first|(refine Ru.idx underlying63 av (by kernel_rfl) ?_;rw[mC])|(refine Ld.at (by omega) ci ?_)|refine Br.f ?_|refine Ix.n ?_|refine Ar.la ?_|refine Br.y ?_|refine Br.n ?_|refine CW.s ?_);conv=>whnf)
     exact⟨i+1,⟨av,by rw[bq];exact hr,rg,kk⟩,⟨rfl,rfl,rfl,vi (by omega),trivial⟩,by simp only;omega⟩
   ·obtain rfl:i=12:=by omega
    conv=>whnf
    repeat ((first|refine Br.f ?_|refine CW.s ?_);conv=>whnf)
    exact⟨rfl,N,rfl,hr,eC,cq,kk⟩
end
theorem qh{of above:Int}(L:List Fd):((az L of above).2=false->az L of above=(Fd.zero,false)/\∀f,f∈L->f.of=of->f.seq<=above) /\
  ((az L of above).2=true->(az L of above).1∈L/\(az L of above).1.of=of/\above<(az L of above).1.seq/\∀f,f∈L->f.of=of->f.seq<=above\/f.seq<=(az L of above).1.seq):=by
 induction L using eA with
 |h0=>exact⟨fun _=>⟨rfl,fun _ h=>(nomatch h)⟩,fun h=>(by cases h)⟩
 | h1 L f ih =>
  rw[pO];obtain⟨zp,ph⟩:=ih;generalize az L of above=s at *;unfold gF;by_cases h1:f.of≠of\/f.seq<=above
  ·rw[if_pos h1];refine⟨fun h=>⟨(zp h).1,fun g hg ho=>?_⟩,fun h=>⟨List.mem_append_left _ (ph h).1,(ph h).2.1,(ph h).2.2.1,fun g hg ho=>?_⟩⟩
   ·rcases List.mem_append.1 hg with hg|hg
    ·exact(zp h).2 g hg ho
    ·rw[List.mem_singleton.1 hg] at ho ⊢;rcases h1 with x|x
     ·exact absurd ho x
     ·exact x
   ·rcases List.mem_append.1 hg with hg|hg
    ·exact(ph h).2.2.2 g hg ho
    ·rw[List.mem_singleton.1 hg] at ho ⊢;rcases h1 with x|x
     ·exact absurd ho x
     ·exact .inl x
  ·rw[if_neg h1];have ho:f.of=of:=Classical.byContradiction fun x=>h1 (.inl x);have hab:above<f.seq:=by
    have:¬f.seq<=above:=fun x=>h1 (.inr x);omega
   by_cases h2:s.2=false\/s.1.seq<f.seq\/(f.seq=s.1.seq/\ahead f.copy s.1.copy=true)
   ·rw[if_pos h2];refine⟨fun h=>(by cases h),fun _=>⟨List.mem_append_right _ (List.mem_singleton.2 rfl),ho,hab,fun g hg hgo=>?_⟩⟩;rcases List.mem_append.1 hg with hg|hg
    ·cases hs:s.2
     ·exact .inl ((zp hs).2 g hg hgo)
     ·rcases(ph hs).2.2.2 g hg hgo with x|x
      ·exact .inl x
      ·refine .inr ?_;show g.seq<=f.seq;rcases h2 with y|y|y
       ·rw[hs] at y;cases y
       ·omega
       ·omega
    ·rw[List.mem_singleton.1 hg];exact .inr (Int.le_refl _)
   ·rw[if_neg h2];have hs:s.2=true:=by
     cases h:s.2
     ·exact absurd (.inl h) h2
     ·rfl
    refine⟨fun h=>(by rw[hs] at h;cases h),fun _=>⟨List.mem_append_left _ (ph hs).1,(ph hs).2.1,(ph hs).2.2.1,fun g hg hgo=>?_⟩⟩;rcases List.mem_append.1 hg with hg|hg
    ·exact(ph hs).2.2.2 g hg hgo
    ·rw[List.mem_singleton.1 hg];refine .inr ?_;have:¬s.1.seq<f.seq:=fun x=>h2 (.inr (.inl x));omega
theorem qi{P:CS}{p:Nat}{t:Tg}{D:Nat->Nat}(hp:P.pg p=.full t D):∀ {n:Nat},p<n->iD p t∈an P n
 |0,h=>by omega
 | n+1,h=>by
  rw[eG];by_cases h3:p=n
  ·subst h3;rw[ji hp];exact List.mem_append_right _ (List.mem_singleton.2 rfl)
  ·exact List.mem_append_left _ (qi hp (by omega))
section
variable{P:CS}{k:Cp}{L:Nat->Nat}{m:Int}
def atW(P:CS)(k:Cp)(o:Nat):Nat:=if bp (an P 96) k o<0 then 0 else (bp (an P 96) k o).toNat+1
theorem Mt.found(h:Mt P k L m){o:Nat}(ho:o<25):(L o=0->bp (an P 96) k o = -1) /\
  (L o≠0->∃p t t0 D,bp (an P 96) k o=((p:Nat):Int)/\p<96/\k.bad (p/8)=false/\P.pg p=.full t D/\P.pg (L o-1)=.full t0 D/\t.of=o/\t.of=t0.of/\t.seq=t0.seq):=by
 have ajQ:=qh (of:=(o:Nat)) (above:=lB k o) (cK (mK (an P 96) 96) k);unfold bp;rw[nP h.pv.val (Nat.le_refl _),rZ k ho] at *;obtain⟨s1,s2⟩:=ajQ;have aoa:∀f,f∈cK (an P 96) k↔∃p t D,p<96/\P.pg p=.full t D/\f=iD p t/\k.bad (p/8)=false:=fun f=>by
  unfold cK;constructor
  ·intro hf;obtain⟨h1,h2⟩:=List.mem_filter.1 hf;obtain⟨p,t,D,a,b,rfl⟩:=iM h1;unfold okB at h2;rw[show((iD p t).place/8).toNat=p/8 by rw[kI];omega] at h2;refine⟨p,t,D,a,b,rfl,?_⟩;simpa using h2
  ·rintro⟨p,t,D,a,b,rfl,hb⟩;refine List.mem_filter.2 ⟨qi b a,?_⟩;unfold okB;rw[show((iD p t).place/8).toNat=p/8 by rw[kI];omega,hb];rfl
 constructor
 ·intro e;have vD:o<24:=by
   by_cases jo:o=24
   ·rw[jo] at e;exact absurd e h.pt
   ·omega
  have lW:(az (cK (an P 96) k) o (floor k o)).2=false:=by
   cases hs:(az (cK (an P 96) k) o (floor k o)).2
   ·rfl
   ·obtain⟨a1,a2,a3,_⟩:=s2 hs;obtain⟨p,t,D,b1,b2,b3,b4⟩:=(aoa _).1 a1;rw[b3] at a2 a3;have:=h.no o vD e p t D b1 b2 a2 b4;rw[fQ k vD] at a3;have a3:k.fl o<t.seq:=a3;omega
  rw[(s1 lW).1];rfl
 ·intro e;obtain⟨s,T,hf⟩:=h.yes o ho e;obtain⟨t0,D0,c1,c2,c3⟩:=T.is;have wC:iD (L o-1) t0∈cK (an P 96) k:=(aoa _).2 ⟨_,t0,D0,T.lt,c1,rfl,T.bad⟩;have qC:(az (cK (an P 96) k) o (floor k o)).2=true:=by
   cases hs:(az (cK (an P 96) k) o (floor k o)).2
   ·have:t0.seq<=floor k o:=(s1 hs).2 _ wC c2;omega
   ·rfl
  obtain⟨a1,a2,a3,a4⟩:=s2 qC;obtain⟨p,t,D,b1,b2,b3,b4⟩:=(aoa _).1 a1;have h1:t0.seq<=floor k o\/t0.seq<=(az (cK (an P 96) k) o (floor k o)).1.seq:=a4 _ wC c2;rw[b3] at a2 a3 h1;have a2:t.of=o:=a2;have a3:floor k o<t.seq:=a3;have h1:t0.seq<=floor k o\/t0.seq<=t.seq:=h1;have h2:=T.max p t D b1 b2 a2 (.inr b4);have mE:t.seq=t0.seq:=by omega
  obtain⟨g1,g2⟩:=h.pv.same p (L o-1) t t0 D D0 b1 T.lt b2 c1 mE;subst g2;refine⟨p,t,t0,D,?_,b1,b4,b2,c1,a2,g1,mE⟩;unfold placeOf;rw[if_pos qC,b3];rfl
theorem Mt.atw(h:Mt P k L m){o:Nat}(ho:o<25):(L o=0->atW P k o=0)/\(L o≠0->∃p t t0 D,atW P k o=p+1/\bp (an P 96) k o=((p:Nat):Int)/\p<96/\k.bad (p/8)=false/\P.pg p=.full t D/\P.pg (L o-1)=.full t0 D/\t.of=o/\t.of=t0.of/\t.seq=t0.seq):=by
 obtain⟨h1,h2⟩:=h.found ho;unfold atW;refine⟨fun e=>by rw[h1 e];rfl,fun e=>?_⟩;obtain⟨p,t,t0,D,a1,a2⟩:=h2 e;refine⟨p,t,t0,D,?_,a1,a2⟩;rw[a1,if_neg (by omega)];rfl
theorem Mt.apY(h:Mt P k L m):Mt P k (atW P k) m/\∀a,Ac P L a->Ac P (atW P k) a:=by
 refine h.ajz (fun o ho e=>?_) (fun o ho e=>(h.atw ho).1 e);obtain⟨p,t,t0,D,a0,a1,a2,a3,a4,a5,a6,a7,a8⟩:=(h.atw ho).2 e;rw[a0,Nat.add_sub_cancel];exact⟨by omega,a2,a3,t0,t,D,a5,a4,a7,a8⟩
theorem Mt.aob(h:Mt P k L m):∃f p t D,az (mK (an P 96) 96) 24 (-1)=(f,true)/\f.place=((p:Nat):Int)/\p<96/\P.pg p=.full t D/\t.of=24/\D=sV k:=by
 have ajQ:=qh (of:=24) (above:=-1) (an P 96);rw[nP h.pv.val (Nat.le_refl _)];obtain⟨s1,s2⟩:=ajQ;obtain⟨s,T,hf⟩:=h.yes 24 (by omega) h.pt;obtain⟨t0,D0,c1,c2,c3⟩:=T.is;have wC:=qi c1 T.lt;rw[uV] at hf;have qC:(az (an P 96) 24 (-1)).2=true:=by
  cases hs:(az (an P 96) 24 (-1)).2
  ·have:t0.seq<=-1:=(s1 hs).2 _ wC c2;omega
  ·rfl
 obtain⟨a1,a2,a3,a4⟩:=s2 qC;obtain⟨p,t,D,b1,b2,b3⟩:=iM a1;have h1:t0.seq<=-1\/t0.seq<=(az (an P 96) 24 (-1)).1.seq:=a4 _ wC c2;rw[b3] at a2 h1;have a2:t.of=24:=a2;have h1:t0.seq<=-1\/t0.seq<=t.seq:=h1;have h2:=T.max p t D b1 b2 a2 (.inl rfl);obtain⟨g1,g2⟩:=h.pv.same p (L 24-1) t t0 D D0 b1 T.lt b2 c1 (by omega);subst g2;refine⟨(az (an P 96) 24 (-1)).1,p,t,D,Prod.ext rfl qC,(by rw[b3];rfl),b1,b2,a2,?_⟩;rw[<-h.data,bF c1]
theorem Mt.apZ(h:Mt P k L m)(hm:m<=1099511627775):(∀p t D,p<96->P.pg p=.full t D->t.seq<dG (an P 96) k)/\1<=dG (an P 96) k/\dG (an P 96) k<=1099511627775/\∀o,o<24->k.fl o<dG (an P 96) k:=by
 have h0:=h.told.next;have t1:dY k (max k.next 0-1) 24<1099511627775:=vz (by omega) (fun j hj=>by have:=h.fl j hj;omega);have t2:mM (an P 96) k<1099511627775:=yo t1 _ (fun f hf=>by
  obtain⟨p,t,D,a,b,rfl⟩:=iM hf;have:=h.pv.sq p t D a b;show t.seq<_;omega)
 obtain⟨g1,g2⟩:=yn (dY k (max k.next 0-1) 24) (an P 96);obtain⟨g3,g4⟩:=vw k (max k.next 0-1) 24;have e:dG (an P 96) k=mM (an P 96) k+1:=by
  unfold dG;omega
 have mE:∀p t D,p<96->P.pg p=.full t D->t.seq<dG (an P 96) k:=fun p t D hp bA=>by
  have:=g2 _ (qi bA hp) (vu (h.pv.val p t D hp bA).1 hp);have h9:t.seq<=mM (an P 96) k:=this;omega
 refine⟨mE,?_,by omega,fun o ho=>?_⟩
 ·obtain⟨s,T,_⟩:=h.yes 24 (by omega) h.pt;obtain⟨t,D,c1,c2,c3⟩:=T.is;have:=mE _ t D T.lt c1;have h7:=(h.pv.val _ t D T.lt c1).1;unfold Tg.ok at h7;omega
 ·have:=g4 o ho;have h9:dY k (max k.next 0-1) 24<=mM (an P 96) k:=g1;omega
theorem aoc(h:Mt P k L m):∀i,i<=25 ->
  AM (cu k (an P 96) i).at_ (cu k (an P 96) i).ow/\(∀o,o<25->(cu k (an P 96) i).at_ o=if o<i then atW P k o else 0) /\
  (∀o,o<i->atW P k o≠0->∃t D,P.pg (atW P k o-1)=.full t D/\(cu k (an P 96) i).en o=⟨t.seq,t.copy,false⟩)/\(∃A O E,cu k (an P 96) i={ n0K k (an P 96) with at_:=A,ow:=O,en:=E }) /\
  (i<25->0<=bp (an P 96) k i->bp (an P 96) k i<96/\ie (cu k (an P 96) i).ow i (bp (an P 96) k i).toNat=0):=by
 have step:∀i,i<25->AM (cu k (an P 96) i).at_ (cu k (an P 96) i).ow->(∀o,o<25->(cu k (an P 96) i).at_ o=if o<i then atW P k o else 0)->L i≠0->∃p t D,atW P k i=p+1/\bp (an P 96) k i=((p:Nat):Int)/\p<96/\P.pg p=.full t D/\t.of=i/\t.lost=false/\0<=t.seq/\(cu k (an P 96) i).ow p=0/\aR p i=true:=fun i hi h1 h2 e=>by
  obtain⟨p,t,t0,D,a0,a1,a2,a3,a4,a5,a6,a7,a8⟩:=(h.atw hi).2 e;obtain⟨v1,v2,v3,v4,v5⟩:=h.pv.val p t D a2 a4;refine⟨p,t,D,a0,a1,a2,a4,a6,v3,by unfold Tg.ok at v1;omega,?_,?_⟩
  ·by_cases hz:(cu k (an P 96) i).ow p=0
   ·exact hz
   ·obtain⟨c1,c2⟩:=h1.o _ a2 hz;have c3:=h2 ((cu k (an P 96) i).ow p-1) (by omega);generalize (cu k (an P 96) i).ow p-1=o' at *;by_cases ho:o'<i
    ·rw[if_pos ho] at c3;have hL':L o'≠0:=fun z=>by rw[(h.atw (by omega)).1 z] at c3;omega
     obtain⟨p',t',t0',D',b0,b1,b2,b3,b4,b5,b6,_⟩:=(h.atw (o:=o') (by omega)).2 hL';have:p'=p:=by omega
     subst this;rw[a4] at b4
     cases b4
     omega
    ·rw[if_neg ho] at c3;omega
  ·unfold aR;unfold Tg.ok at v1;by_cases hi4:i=24
   ·simp[hi4]
   ·have:=v1.2.2.2.2.2.2.2.2.2 (by omega);rw[v2] at this;simp;omega
 have fin:∀i,AM (cu k (an P 96) i).at_ (cu k (an P 96) i).ow->(∀o,o<25->(cu k (an P 96) i).at_ o=if o<i then atW P k o else 0)->(i<25->0<=bp (an P 96) k i->bp (an P 96) k i<96/\ie (cu k (an P 96) i).ow i (bp (an P 96) k i).toNat=0):=fun i h1 h2 hi hl=>by
  by_cases e:L i=0
  ·rw[(h.found hi).1 e] at hl;omega
  ·obtain⟨p,t,D,a0,a1,a2,a4,a6,v3,v4,zM,hh⟩:=step i hi h1 h2 e;rw[a1];refine⟨by omega,?_⟩;rw[show((p:Nat):Int).toNat=p by omega];unfold ie;rw[hh,zM];rfl
 intro i
 induction i with
 | zero =>
  intro _;have c0:AM (cu k (an P 96) 0).at_ (cu k (an P 96) 0).ow:=by
   rw[kE];exact⟨fun p hp e=>absurd rfl e,fun o ho e=>absurd rfl e⟩
  have a0:∀o,o<25->(cu k (an P 96) 0).at_ o=if o<0 then atW P k o else 0:=fun o ho=>by
   rw[kE];rfl
  exact⟨c0,a0,fun o ho=>by omega,⟨_,_,_,by rw[kE]⟩,fin 0 c0 a0⟩
 | succ i ih =>
  intro hi;obtain⟨h1,h2,h3,⟨A,O,E,h4⟩,_⟩:=ih (by omega);by_cases e:L i=0
  ·have hl:=(h.found (o:=i) (by omega)).1 e;have bq:=kF k (an P 96) i;rw[if_pos (by rw[hl];decide)] at bq;have c0:AM (cu k (an P 96) (i+1)).at_ (cu k (an P 96) (i+1)).ow:=by rw[bq];exact h1
   have a0:∀o,o<25->(cu k (an P 96) (i+1)).at_ o=if o<i+1 then atW P k o else 0:=fun o ho=>by
    rw[bq,h2 o ho];by_cases ho2:o<i
    ·rw[if_pos ho2,if_pos (by omega)]
    ·rw[if_neg ho2];by_cases vA:o=i
     ·rw[if_pos (by omega),vA,(h.atw (by omega)).1 e]
     ·rw[if_neg (by omega)]
   refine⟨c0,a0,fun o ho e'=>?_,⟨A,O,E,by rw[bq];exact h4⟩,fin _ c0 a0⟩;by_cases vA:o=i
   ·rw[vA,(h.atw (by omega)).1 e] at e';exact absurd rfl e'
   ·rw[bq];exact h3 o (by omega) e'
  ·obtain⟨p,t,D,a0,a1,a2,a4,a6,v3,v4,zM,hh⟩:=step i (by omega) h1 h2 e;have bq:=kF k (an P 96) i;rw[if_neg (by rw[a1];omega)] at bq;obtain⟨s1,s2⟩:=h1.set (o:=i) (by omega) a2 zM hh;have hf:=(zP (o:=i) a4 a6 v4 96).2 a2;rw[a1,show((p:Nat):Int).toNat=p by omega,hf] at bq;simp only[s2] at bq;rw[s2] at s1;have c0:AM (cu k (an P 96) (i+1)).at_ (cu k (an P 96) (i+1)).ow:=by rw[bq];exact s1
   have aa:∀o,o<25->(cu k (an P 96) (i+1)).at_ o=if o<i+1 then atW P k o else 0:=fun o ho=>by
    rw[bq];show ah (cu k (an P 96) i).at_ i (p+1) o=_;unfold ah;by_cases vA:o=i
    ·rw[if_pos vA,if_pos (by omega),vA,a0]
    ·rw[if_neg vA,h2 o ho];by_cases ho2:o<i
     ·rw[if_pos ho2,if_pos (by omega)]
     ·rw[if_neg ho2,if_neg (by omega)]
   refine⟨c0,aa,fun o ho e'=>?_,⟨_,_,_,by rw[bq,h4]⟩,fin _ c0 aa⟩;rw[bq];show ∃t' D',_/\ah (cu k (an P 96) i).en i ⟨t.seq,t.copy,t.lost⟩ o=_;unfold ah;by_cases vA:o=i
   ·rw[if_pos vA,vA,a0,Nat.add_sub_cancel];exact⟨t,D,a4,by rw[v3]⟩
   ·rw[if_neg vA];exact h3 o (by omega) e'
theorem Mt.hyp(h:Mt P k L m):B8 k (an P 96):=⟨h.told,fun i hi=>(aoc h i hi).1.mw,fun i hi=>(aoc h i (by omega)).2.2.2.2 hi⟩
def z8(K:KS)(i:Nat):KS:={ K with st:=fun b=>if K.st b=0/\i<=b/\b<12 then 2 else K.st b }
def mtW(k:Cp)(L:List Fd):KS:=fK (nwW k L) (wK (nwW k L).F 12)
theorem aod{A:Nat->Nat}{b o:Nat}(ho:o<25)(e:A o≠0)(h:(A o-1)/8=b):0<lv A b:=by
 by_cases hz:lv A b=0
 ·exact absurd h (fw.1 hz o ho e)
 ·omega
theorem Mt.wi(h:Mt P k L m)(hm:m<=1099511627775){a:Nat->Nat->Nat}(hs:Ac P L a){P':CS}(bA:P'.pg=P.pg):Wi a k (z8 (mtW k (an P 96)) 0) P'/\(mtW k (an P 96)).qu=[]/\(mtW k (an P 96)).at_ 24≠0/\Hl.HB (nwW k (an P 96)).F/\(mtW k (an P 96)).fo=false/\∀o,o<25->(mtW k (an P 96)).at_ o≠0->(mtW k (an P 96)).st (((mtW k (an P 96)).at_ o-1)/8)≠0:=by
 obtain⟨M,S⟩:=h.apY;obtain⟨nx1,nx2,nx3,nx4⟩:=h.apZ hm;obtain⟨c1,c2,c3,⟨A,O,E,c4⟩,_⟩:=aoc h 25 (Nat.le_refl _);obtain⟨st,e⟩:=abZ k (cu k (an P 96) 25) 12;have bq:=ajP k (K:=cu k (an P 96) 25) (by rw[c4];rfl) 12;have e0:nwW k (an P 96)={ cu k (an P 96) 25 with st:=st }:=e;have bq:∀b,st b=if b<12 then (if k.bad b=true then 3 else if 0<lv (cu k (an P 96) 25).at_ b then 2 else 0) else 0:=fun b=>by
  rw[<-bq b,e]
 have hHB:Hl.HB (nwW k (an P 96)).F:=by
  rw[e0,c4];exact Hl.HB.new (fun j hj=>by
   unfold ig gA;rw[if_pos hj,if_pos hj];exact⟨(h.told.rd j hj).1,(h.told.sc j hj).1⟩)
 have arA:=u9 hHB 12 (Nat.le_refl _);have da:∀o,o<25->(cu k (an P 96) 25).at_ o=atW P k o:=fun o ho=>by rw[c2 o ho,if_pos ho]
 have uB:k.cur.toNat<96:=by have:=h.told.cur;omega
 have em:mtW k (an P 96)={ n0K k (an P 96) with at_:=A,ow:=O,en:=E,st:=st,F:=wK (nwW k (an P 96)).F 12 }:=by
  unfold mtW fK;rw[e0,c4]
 have da:∀o,o<25->A o=atW P k o:=fun o ho=>by
  have:=da o ho;rw[c4] at this;exact this
 rw[c4] at c1 c3 bq;have c1:AM A O:=c1;have c3:∀o,o<25->atW P k o≠0->∃t D,P.pg (atW P k o-1)=.full t D/\E o=⟨t.seq,t.copy,false⟩:=c3;have bq:∀b,st b=if b<12 then (if k.bad b=true then 3 else if 0<lv A b then 2 else 0) else 0:=bq;have alG:∀o,o<25->A o≠0->st ((A o-1)/8)=2/\(A o-1)/8<12:=fun o ho e=>by
  rw[da o ho] at e;obtain⟨s,T,_⟩:=M.yes o ho e;have:=T.lt;rw[da o ho,bq,if_pos (by omega),if_neg (by rw[T.bad];decide),if_pos (aod ho (by rw[da o ho];exact e) (by rw[da o ho]))];exact⟨rfl,by omega⟩
 rw[em];have M':Mt P' k A (dG (an P 96) k):=by
  have M2:Mt P k A (dG (an P 96) k):=by
   refine⟨⟨M.pv.val,M.pv.same,nx1⟩,by rw[da 24 (by omega)];exact M.pt,by rw[da 24 (by omega)];exact M.data,M.told,nx4,fun o ho e=>?_,fun o ho e=>?_⟩
   ·rw[da o ho] at e ⊢;exact M.yes o ho e
   ·rw[da o (by omega)] at e;exact M.no o ho e
  exact M2.ext (fun q t D _ e=>.inl (by rw[<-bA];exact e)) (fun o _ _=>by rw[bA])
 refine⟨⟨M',fun o j ho hj=>?_,fun o ho e=>?_,fun _ _=>rfl,⟨nx2,nx3⟩,c1,arA,uB,fun b hb=>?_,by show 0<=12;omega,by show 0<12;omega,by show 0<=8;omega,fun b i hb e hi=>?_,fun x=>(by cases x),fun x=>(by cases x),fun b hb e=>?_,fun _ o ho e=>?_⟩,rfl,?_,hHB,rfl,fun o ho e=>?_⟩
 ·rw[<-S a hs o j ho hj];show arr P' A o j=_;unfold arr;rw[da o (by omega)];split
  ·rfl
  ·exact congrFun (dH (by rw[bA])) j
 ·have e:A o≠0:=e;show ∃t D,P'.pg (A o-1)=.full t D/\E o=_;rw[bA,da o ho];exact c3 o ho (by rw[<-da o ho];exact e)
 ·show(if st b=0/\0<=b/\b<12 then 2 else st b)<=3;split
  ·omega
  ·rw[bq];split
   ·split
    ·omega
    ·split<;>omega
   ·omega
 ·have e:(if st b=0/\0<=b/\b<12 then 2 else st b)=0:=e;split at e
  ·omega
  ·rename_i h1
   exact absurd ⟨e,Nat.zero_le _,hb⟩ h1
 ·show(if st b=0/\0<=b/\b<12 then 2 else st b)=3;have h3:st b=3:=by rw[bq,if_pos hb,if_pos e]
  rw[if_neg (by omega)];exact h3
 ·left;have e:A o≠0:=e;show(if st ((A o-1)/8)=0/\0<=(A o-1)/8/\(A o-1)/8<12 then 2 else st ((A o-1)/8))=2;rw[(alG o ho e).1];rfl
 ·show A 24≠0;rw[da 24 (by omega)];exact M.pt
 ·have e:A o≠0:=e;show st ((A o-1)/8)≠0;rw[(alG o ho e).1];omega
end
section
variable{a:Nat->Nat->Nat}{k:Cp}{K K0 K':KS}{P P0 P':CS}{i:Nat}
theorem Wi.ap0(h:Wi a k K P){b:Nat}(hb:b<12)(h2:K.st b=2)(hf:K.fo=false)(hd:∀o,o<25->K.at_ o≠0->(K.at_ o-1)/8≠b)(F:Nat->Int)(hF:Hl.HB F):Wi a k { K with st:=ah K.st b 0,F:=F } (P.dE b):=by
 have ne:∀x,x≠b->ah K.st b 0 x=K.st x:=fun x hx=>if_neg hx;have eq:ah K.st b 0 b=0:=if_pos rfl;have bA:∀p,p/8≠b->(P.dE b).pg p=P.pg p:=fun p hp=>if_neg hp;have hpb:∀p,p/8=b->(P.dE b).pg p=.blank:=fun p hp=>if_pos hp;have oB:∀o,o<25->K.at_ o≠0->(P.dE b).pg (K.at_ o-1)=P.pg (K.at_ o-1):=fun o ho e=>bA _ (hd o ho e);refine⟨h.mt.ext (fun q t D hq e=>?_) oB,h.sh.abL (fun o ho e=>oB o (by omega) e),fun o ho e=>?_,h.fl,h.nx,h.eZ,hF,h.cur,fun x hx=>?_,h.pn,h.fb,h.fi,fun x i hx e hi=>?_,fun x=>?_,fun x=>?_,fun x hx e=>?_,fun hw o ho e=>?_⟩
 ·by_cases hqb:q/8=b
  ·rw[hpb q hqb] at e
   cases e
  ·exact .inl (by rw[<-bA q hqb];exact e)
 ·obtain⟨t,D,e1,e2⟩:=h.en o ho e;have e3:=oB o ho e;exact⟨t,D,e3.trans e1,e2⟩
 ·show ah K.st b 0 x<=3;by_cases pI:x=b
  ·rw[pI,eq];omega
  ·rw[ne x pI];exact h.st x hx
 ·have e:ah K.st b 0 x=0:=e;by_cases pI:x=b
  ·exact hpb _ (by omega)
  ·rw[ne x pI] at e;rw[bA _ (by omega)];exact h.bl x i hx e hi
 ·have x:K.fo=true:=x;rw[hf] at x;cases x
 ·have x:K.fo=true:=x;rw[hf] at x;cases x
 ·show ah K.st b 0 x=3;have:=h.bad x hx e;rw[ne _ (fun y=>by rw[y] at this;omega)];exact this
 ·have hw':ax K.st=false:=kJ (fun x hx e=>by
   show ah K.st b 0 x=3;rw[ne x (fun y=>by rw[y] at e;omega)];exact e) hw
  have:=h.live hw' o ho e;show ah K.st b 0 ((K.at_ o-1)/8)=2\/_;rw[ne _ (hd o ho e)];exact this
structure BK(a:Nat->Nat->Nat)(k:Cp)(K0:KS)(P0:CS)(i:Nat)(K:KS)(P:CS):Prop where
 w:Wi a k (z8 K i) P
 st:∀b,i<=b->K.st b=K0.st b
 dead:∀o,o<25->K.at_ o≠0->K.st ((K.at_ o-1)/8)≠0
 fo:K.fo=false
 may:∀B,P.may B->P0.may B
 qu:K.qu=K0.qu
theorem ajR(h:K.st i≠0):z8 K (i+1)=z8 K i:=by
 unfold z8;congr 1;funext b;by_cases e:b=i
 ·rw[e,if_neg (fun x=>h x.1),if_neg (fun x=>h x.1)]
 ·by_cases h2:K.st b=0/\i<=b/\b<12
  ·rw[if_pos h2,if_pos ⟨h2.1,by omega,h2.2.2⟩]
  ·rw[if_neg h2,if_neg (fun x=>h2 ⟨x.1,by omega,x.2.2⟩)]
theorem aeK(x:Nat)(hx:x≠0\/True):(fun b=>if ah K.st i x b=0/\i+1<=b/\b<12 then 2 else ah K.st i x b)=ah (z8 K i).st i x:=by
 funext b;unfold ah z8;simp only;by_cases e:b=i
 ·rw[if_pos e,if_pos e,if_neg (fun y=>by omega)]
 ·rw[if_neg e,if_neg e];by_cases h2:K.st b=0/\i<=b/\b<12
  ·rw[if_pos h2,if_pos ⟨h2.1,by omega,h2.2.2⟩]
  ·rw[if_neg h2,if_neg (fun x=>h2 ⟨x.1,by omega,x.2.2⟩)]
theorem ajS(h:K.st i=0):ah K.st i 0=K.st:=by
 funext b;unfold ah;by_cases e:b=i
 ·rw[if_pos e,e,h]
 ·rw[if_neg e]
theorem BK.skip(I:BK a k K0 P0 i K P)(h:K.st i≠0):BK a k K0 P0 (i+1) K P :=
 ⟨by rw[ajR h];exact I.w,fun b hb=>I.st b (by omega),I.dead,I.fo,I.may,I.qu⟩
theorem BK.er(I:BK a k K0 P0 i K P)(hi:i<12)(h:K.st i=0)(hm:∀b,(P.dE i).may b->P.may b):BK a k K0 P0 (i+1) { K with F:=Hl.ux K.F i } (P.dE i):=by
 have hd:∀o,o<25->K.at_ o≠0->(K.at_ o-1)/8≠i:=fun o ho e x=>I.dead o ho e (by rw[x];exact h);have W:=I.w.ap0 hi (show(z8 K i).st i=2 from if_pos ⟨h,Nat.le_refl _,hi⟩) I.fo hd (Hl.ux K.F i) (I.w.hb.er hi);refine⟨?_,fun b hb=>I.st b (by omega),I.dead,I.fo,fun B hB=>I.may B (hm B hB),I.qu⟩;have e:=aeK (K:=K) (i:=i) 0 (.inr trivial);rw[ajS h] at e;have e2:z8 { K with F:=Hl.ux K.F i } (i+1)={ z8 K i with st:=ah (z8 K i).st i 0,F:=Hl.ux K.F i }:=by
  rw[<-e];rfl
 rw[e2];exact W
theorem BK.bad(I:BK a k K0 P0 i K P)(hi:i<12)(h:K.st i=0)(bA:P'.pg=P.pg)(hm:∀b,P'.may b->P.may b):BK a k K0 P0 (i+1) { K with st:=aD K.st i 3 } P':=by
 have hd:∀o,o<25->K.at_ o≠0->(K.at_ o-1)/8≠i:=fun o ho e x=>I.dead o ho e (by rw[x];exact h);have hs:aD K.st i 3=ah K.st i 3:=if_neg (fun x=>x.2 rfl);have W:=(I.w.same (K':=z8 K i) (P':=P') bA I.w.hb I.w.cur rfl).agb hi (fun x=>by rw[show(z8 K i).fo=false from I.fo] at x;cases x) (.inl hd) (z8 K i).F I.w.hb;rw[hs];refine⟨?_,fun b hb=>?_,fun o ho e=>?_,I.fo,fun B hB=>I.may B (hm B hB),I.qu⟩
 ·have e:=aeK (K:=K) (i:=i) 3 (.inr trivial);have e2:z8 { K with st:=ah K.st i 3 } (i+1)={ z8 K i with st:=ah (z8 K i).st i 3,F:=(z8 K i).F }:=by
   rw[<-e];rfl
  rw[e2];exact W
 ·show ah K.st i 3 b=_;unfold ah;rw[if_neg (by omega)];exact I.st b (by omega)
 ·have e:K.at_ o≠0:=e;show ah K.st i 3 ((K.at_ o-1)/8)≠0;unfold ah;rw[if_neg (hd o ho e)];exact I.dead o ho e
theorem BK.done(I:BK a k K0 P0 12 K P):Wi a k K P:=by
 have e:z8 K 12=K:=by
  show { K with st:=fun b=>if K.st b=0/\12<=b/\b<12 then 2 else K.st b }=K;have:(fun b=>if K.st b=0/\12<=b/\b<12 then 2 else K.st b)=K.st:=funext fun b=>if_neg (by omega);rw[this]
 rw[<-e];exact I.w
end
section
variable{w w':World}{N:Cr}{K:KS}{X:Option Addr}{c:Nat}{P:CS}{b:Option Nat}{n:Int}{a:Nat->Nat->Nat}{k:Cp}
structure Ed(a:Nat->Nat->Nat)(K:KS)(P:CS)(K':KS)(P':CS):Prop where
 w:∃k,Wi a k K' P'
 may:∀B,P'.may B->P.may B
 qu:K'.qu=K.qu
theorem agh(h:On w N K P none n X c)(I0:BK a k K P 0 K P)(ha:K.at_ 24<=96) :
  Spec Tryz.prog 78 #[.pointer (some ⟨N.k,0,none⟩)] w fun u w'=>u=al 0/\Aa N.all w w'/\∃K' P' n',On w' N K' P' none n' X c/\Ed a K P K' P':=by
 have bW:∀x,w.heap.size<=x->x∉N.all:=fun x hx hm=>by
  have h3:x<w.heap.size:=by
   rcases List.mem_append.1 hm with hm|hm
   ·exact h.core.lt (List.mem_append_left _ hm)
   ·exact h.gn _ hm
  omega
 refine spec_of_wpE (T:=tt) ai func78 rfl (by decide +kernel) ntmps78 (by simp) ?_;conv=>whnf
 repeat ((refine Ld.of h.core.c2 ?_);conv=>whnf)
 refine Ca.of (iW h.core.map 24 (by omega) ha) ?_;rintro _ _ ⟨rfl,rfl⟩;obtain⟨m,a',e,hv,he⟩:∃(m:Bool) (a' e:Int),(if K.at_ 24=0 then Value.tuple #[.int .i64 0,al 11] else .tuple #[.int .i64 ((K.at_ 24-1:Nat):Int),al 0])=.tuple #[.int .i64 a',al e]/\((m=true/\e=11)\/(m=false/\e=0)):=by
  by_cases h0:K.at_ 24=0
  ·exact⟨true,0,11,if_pos h0,.inl ⟨rfl,rfl⟩⟩
  ·exact⟨false,_,0,if_neg h0,.inr ⟨rfl,rfl⟩⟩
 rw[hv];rcases he with⟨hm,rfl⟩|⟨hm,rfl⟩
 all_goals
  conv=>whnf
  repeat ((first|(refine Ld.of h.core.c1 ?_)|refine Ru.ak ?_|refine Ru.n1 ?_|refine CW.s ?_);conv=>whnf)
  refine Ca.of (jb h) ?_;rintro _ w1 ⟨Y,e,rfl,hY⟩;have h1:=h.aj hY.ab;obtain⟨lY,nY,kY⟩:=hY;conv=>whnf
  refine CW.loop (ι:=Nat×KS×CS×Bool×Int) (fun i w'=>i.1<=12/\BK a k K P i.1 i.2.1 i.2.2.1/\On w' N i.2.1 i.2.2.1 none i.2.2.2.2 X c/\Ly w' 3 1 Y 12 e (fun j=>.int .i64 (K.st j:Nat))/\Aa N.all w w')
   (fun i=>[(0,.pointer (some ⟨N.k,0,none⟩)),(5,.bool i.2.2.2.1),(24,.slice Y 12 e),(25,.int .i64 12),(26,.int .i64 i.1)]) (fun i=>12-i.1) (0,K,P,m,n) ai ⟨by omega,I0,h1,lY,Aa.eh kY⟩ ⟨rfl,congrArg Value.bool hm.symm,rfl,rfl,rfl,trivial⟩ ?_;clear h1 lY kY hm hv;rintro⟨i,K1,P1,m1,n1⟩ wr ⟨hi,I,hr,ly,kk⟩;simp only at hi I hr ly kk ⊢;rcases Nat.lt_or_ge i 12 with av|av
  ·have rd:=ly.rd;rw[Nat.mul_one] at rd;obtain⟨gy,oy,rfl,bM⟩:=rd (by omega);have ci:wr.cell? ⟨gy,oy+i,none⟩=some (.int .i64 (K.st i:Nat)):=bM i av;by_cases hs:K.st i=0
   ·rw[hs] at ci;have dj:K1.st i=0:=(I.st i (Nat.le_refl _)).trans hs;conv=>whnf
    repeat ((first|(refine Ld.at (by omega) ci ?_)|(refine Ld.of hr.core.c0 ?_)|refine Br.f ?_|refine Ix.n ?_|refine Br.y ?_|refine CW.s ?_);conv=>whnf)
    refine Ca.of (nr hr.o9 (B:=i) av) ?_;rintro _ w4 ⟨k4,hr4⟩;have kc4:Aa N.N.l wr w4:=k4.mono (fun x hx=>by rw[List.mem_singleton.1 hx];simp[Pt.l]);have bU:=kk.trans (Aa.ofl kc4);have zk:=ly.ab (Aa.ofl kc4) (fun x hx=>bW x (nY x hx));rcases hr4.two with⟨b4,hb4,rfl,M4⟩|⟨hb4,_⟩
    case inr=>exact absurd rfl hb4
    obtain rfl:=hb4 rfl;have h4:=hr.cH kc4 M4;rcases aeD P1 i with⟨e1,e2,e3⟩|⟨e1,e2,e3,e4⟩
    ·rw[e1];rw[e2] at h4;conv=>whnf
     repeat ((first|(refine Ld.of h4.core.c4 ?_)|refine Br.t ?_|refine Ru.bh ?_);conv=>whnf)
     refine Ca.of (Hl.nv w4 N.e _ h4.core.aH i av) ?_;rintro _ w5 ⟨rfl,r5,k5⟩;have h5:=h4.aH k5 r5;conv=>whnf
     repeat (refine Ar.la ?_;conv=>whnf)
     exact⟨(i+1,_,_,m1,n1),⟨av,I.er av dj e3,h5,zk.ab k5 (fun x hx hm=>bW x (nY x hx) (bg (by rw[List.mem_singleton.1 hm];simp[Cr.own]))),bU.trans (Aa.jl (by simp[Cr.own]) k5)⟩,⟨rfl,rfl,rfl,rfl,vi (by simp only;omega),trivial⟩,by simp only;omega⟩
    ·rw[e1];conv=>whnf
     repeat ((first|refine Br.f ?_|refine Ru.e1 ?_);conv=>whnf)
     refine Ca.of (aU 8 8 (by decide) w4) ?_;rintro _ _ ⟨rfl,rfl⟩;conv=>whnf
     repeat ((first|(refine Ld.of h4.core.c1 ?_)|refine Br.t ?_);conv=>whnf)
     refine Ca.of (eO h4.core.aV i 3 av (by omega)) ?_;rintro _ w5 ⟨⟨e5,rfl⟩,q5,k5⟩;have h5:=h4.aV k5 q5;conv=>whnf
     repeat (refine Ar.la ?_;conv=>whnf)
     exact⟨(i+1,_,_,true,n1),⟨av,I.bad av dj e2 e4,h5,zk.ab k5 (fun x hx hm=>bW x (nY x hx) (bg (by rw[List.mem_singleton.1 hm];simp[Cr.own]))),bU.trans (Aa.jl (by simp[Cr.own]) k5)⟩,⟨rfl,rfl,rfl,rfl,vi (by simp only;omega),trivial⟩,by simp only;omega⟩
   ·have dj:decide (((K.st i:Nat):Int)=0)=false:=decide_eq_false (by omega);conv=>whnf
    repeat ((first|(refine Ld.at (by omega) ci ?_)|refine Ix.n ?_|refine Ar.la ?_|refine Br.y ?_|refine Br.nn ?_|refine CW.s ?_);conv=>whnf)
    exact⟨(i+1,K1,P1,m1,n1),⟨av,I.skip (by rw[I.st i (Nat.le_refl _)];exact hs),hr,ly,kk⟩,⟨rfl,rfl,rfl,rfl,vi (by simp only;omega),trivial⟩,by simp only;omega⟩
  ·obtain rfl:i=12:=by omega
   have W:=I.done
   cases m1
   ·conv=>whnf
    repeat ((first|refine Br.t ?_|refine Br.f ?_|refine Pk.t ?_|refine CW.s ?_);conv=>whnf)
    exact⟨rfl,rfl,kk,K1,P1,n1,hr,⟨k,W⟩,I.may,I.qu⟩
   ·conv=>whnf
    repeat ((first|(refine Ld.of hr.core.c1 ?_)|refine Br.f ?_|refine CW.s ?_);conv=>whnf)
    refine Ca.of (eQ hr.core.aV) ?_;rintro _ _ ⟨rfl,rfl⟩;by_cases hw:ax K1.st=true
    ·rw[hw];conv=>whnf
     repeat ((first|refine Br.t ?_|refine Pk.f ?_);conv=>whnf)
     exact⟨rfl,rfl,kk,K1,P1,n1,hr,⟨k,W⟩,I.may,I.qu⟩
    ·have hw:ax K1.st=false:=by simpa using hw
     rw[hw];conv=>whnf
     repeat ((first|refine Br.f ?_|refine Pk.f ?_|refine CW.s ?_);conv=>whnf)
     refine Ca.of (abT hr W) ?_;rintro _ w5 ⟨k5,⟨K2,P2,b2,n2,tC,h2,⟨rfl,K3,P3,L⟩|⟨rfl,L⟩⟩|⟨tC,_⟩⟩
     ·obtain rfl:=tC rfl;have L:=L.vH;conv=>whnf
      refine Ca.of (aU 0 14 (by decide) _) ?_;rintro _ _ ⟨rfl,rfl⟩;conv=>whnf
      repeat (refine Br.t ?_;conv=>whnf)
      exact⟨rfl,rfl,kk.trans k5,K2,P2,n2,h2,L.w,fun B hB=>I.may B (L.may B hB),L.qu.trans I.qu⟩
     ·obtain rfl:=tC rfl;conv=>whnf
      refine Ca.of (aU 14 14 (by decide) _) ?_;rintro _ _ ⟨rfl,rfl⟩;conv=>whnf
      repeat (refine Br.f ?_;conv=>whnf)
      exact⟨rfl,rfl,kk.trans k5,K2,P2,n2,h2,L.w,fun B hB=>I.may B (L.may B hB),L.qu.trans I.qu⟩
     ·exact absurd rfl tC
end
end
section
open Go.RowKit
theorem aeL(P:CS):∀n B,(jE P n).may B->P.may B
 |0,_,h=>h
 |n+1,B,h=>aeL P n B h
def Da(a:Nat->Nat->Nat)(ch:Nat)(P:CS)(w:World)(v:Value)(w':World):Prop :=
 Aa [ch] w w'/\∃(N:Cr) (K':KS) (P':CS) (n:Int),v=.tuple #[.pointer (some ⟨N.k,0,none⟩),al 0]/\N.N.c=ch/\On w' N K' P' none n none 0/\(∀x,x∈N.all->x=ch\/w.heap.size<=x)/\(∃k,Wi a k K' P')/\(∀B,P'.may B->P.may B)/\K'.qu=[]
attribute [local irreducible] an jE nwW wK
theorem agi{w:World}{C:Chip}{ch:Nat}{P:CS}(H:Ab w ch C)(hA:Abs C P)(hl:C.left none){a:Nat->Nat->Nat}(T:Tw P 1099511627775 a) :
  Spec Tryz.prog 50 #[.pointer (some ⟨ch,0,none⟩)] w (Da a ch P w):=by
 have hlen:=nN P 96;have aiW:ch<w.heap.size:=Row.lt H;obtain⟨k,L0,DC,S0⟩:=T;have hN:=DC.hyp;obtain⟨W0,hq,jo,hB,fR,fU⟩:=DC.wi (Int.le_refl _) S0 (P':=jE P 96) (vj P 96).1;obtain⟨f,p,t,D,hn1,hn2,hn3,hn4,hn5,hn6⟩:=DC.aob;obtain⟨L,hL⟩:∃L,L=an P 96:=⟨_,rfl⟩;refine spec_of_wpE (T:=tt) ai func50 rfl (by decide +kernel) ntmps50 (by simp) ?_;conv=>whnf
 repeat (refine CW.s ?_;conv=>whnf)
 refine Ru.of (mU w _ _) ?_;conv=>whnf
 repeat (refine Br.f ?_;conv=>whnf)
 refine Ca.of (aew H hA hl) ?_;rintro _ w1 ⟨A,cA,r,ps,C1,rfl,oK,ly,rm,hps,H1,hA1,hl1,k1⟩;have uK:(an P 96).length<=cA:=ly.1;have gN:Spec Tryz.prog 75 #[.slice A (an P 96).length cA,.map (some r)] w1 fun v w'=>v=.tuple #[agg 62 k.cell,.bool true]/\Aa [] w1 w':=by
  obtain⟨O,oc,D',a1,a2,a3,a4⟩:=hps.yes p t D hn3 hn4 hn5;refine yi ly.rd oK uK hlen ⟨hN.told,rm,f,p,hn1,hn2,O,oc,a1,a4.congr (fun j hj=>?_)⟩;have h7:D' j=D j:=by
   rw[<-a3];unfold cm;rw[if_pos (by omega)]
  rw[h7,hn6,nJ]
 conv=>whnf
 repeat ((first|refine Br.f ?_|refine Ru.ak ?_|refine CW.s ?_);conv=>whnf)
 refine Ca.of gN ?_;rintro _ w2 ⟨rfl,k2⟩;have H2:=H1.ab k2 (by simp);have ly2:=ly.aj k2;have dh:=k1.trans (k2.mono (T:=[ch]) (by simp));clear H1 ly k1 k2 rm hps gN H;conv=>whnf
 refine Ru.aE (eD w2) ?_;intro x7 w3 hx7 gg r7 k3;conv=>whnf
 refine Ru.im r7 bu (by omega) (fun j hj=>Cp.bj _ j) ?_;intro w4 r74 k4;have r74:Row w4 x7 116 62 k.cell:=r74.congr (fun j hj=>sZ _ _ j hj);have q4:Aa [] w2 w4:=k3.then k4 (fun x hx=>.inr (by rw[List.mem_singleton.1 hx,hx7];exact Nat.le_refl _));have H4:=H2.ab q4 (by simp);have zk:=ly2.aj q4;have bU:=dh.trans (q4.mono (T:=[ch]) (by simp));clear H2 ly2 dh q4 k3 k4 r7 gg;have yk:∀A' cA',Rd w4 A' (L.length*6) (ju L)->Spec Tryz.prog 76 #[.pointer (some ⟨ch,0,none⟩),agg 62 k.cell,.slice A' L.length cA'] w4 fun v w'=>∃N:Cr,v=.tuple #[.pointer (some ⟨N.k,0,none⟩),al 0]/\On w' N (nwW k L) (jE P 96) none 0 none 0/\N.N.c=ch/\(∀x,x∈N.all->x=ch\/w4.heap.size<=x)/\Aa [] w4 w' :=
  fun A' cA' hr=>agf H4 hA1 hl1 (by rw[hL];exact hN) hr (by rw[hL];omega);subst hL;conv=>whnf
 repeat ((first|refine Br.f ?_|refine CW.s ?_);conv=>whnf)
 refine Ru.cx (q:=k.cell) r74 underlying116 rfl bu (by omega) (fun j hj=>by rw[Nat.zero_add]) ?_;conv=>whnf
 refine Ca.of (yk A cA zk.rd) ?_
 all_goals
  rintro _ w5 ⟨N,rfl,h5,eC,cq,k5⟩;have dL:=bU.trans (k5.mono (T:=[ch]) (by simp));conv=>whnf
  repeat ((first|refine Br.f ?_|refine Ru.ak ?_|refine CW.s ?_);conv=>whnf)
  refine Ru.of (yj w5) ?_;have ry:=Row.made w5 3 (.int .i64 0) 12;have k6:Aa [] w5 (w5.alloc (.cells (madeCells #[.int .i64 0] 12) 3)):=(Aa.refl _ _).alloc _;have h6:=h5.aj k6;have gG:=dL.trans (k6.mono (T:=[ch]) (by simp));have lN:N.N.m<w5.heap.size/\N.N.c<w5.heap.size/\N.N.f<w5.heap.size/\N.N.cd<w5.heap.size/\N.N.g<w5.heap.size/\N.N.h<w5.heap.size:=by
   obtain⟨C5,M5,q5⟩:=h5.o9;exact M5.lt
  have qz:∀y,y<w5.heap.size->y∉[w5.heap.size]:=fun y hy hm=>by
   rw[List.mem_singleton.1 hm] at hy;omega
  have ai8:∀x,x∈N.all->x<w5.heap.size:=fun x hx=>by
   rcases List.mem_append.1 hx with hm|hm
   ·exact h5.core.lt (List.mem_append_left _ hm)
   ·exact h5.gn _ hm
  have hgw:w.heap.size<=w5.heap.size:=dL.size;have hgN:w5.heap.size∉N.all:=fun hx=>by have:=ai8 _ hx;omega
  have abG:∀x,x∈N.all->x=ch\/w.heap.size<=x:=fun x hx=>by
   rcases cq x hx with h|h
   ·exact .inl h
   ·exact .inr (Nat.le_trans bU.size h)
  clear h5 k5 k6 dL yk r74 zk H4 bU cq ai8;generalize w5.alloc _=w6 at *;generalize w5.heap.size=g at *;conv=>whnf
  repeat (refine CW.s ?_;conv=>whnf)
  refine CW.loop (ι:=Nat) (fun i w'=>i<=12/\On w' N (nwW k (an P 96)) (jE P 96) none 0 none 0/\Row w' g 3 12 (fun j=>if j<i then .int .i64 8 else .int .i64 0)/\Aa [ch] w w')
   (fun i=>[(9,.pointer (some ⟨N.k,0,none⟩)),(10,.slice (some ⟨g,0,none⟩) 12 12),(44,.slice (some ⟨g,0,none⟩) 12 12),(45,.int .i64 12),(46,.int .i64 i)]) (fun i=>12-i) 0 ai ⟨by omega,h6,ry.congr (fun j hj=>by simp),gG⟩ ⟨rfl,rfl,rfl,rfl,rfl,trivial⟩ ?_;clear h6 ry gG;rintro i wr ⟨hi,hr,rg,kk⟩;rcases Nat.lt_or_ge i 12 with av|wg
  ·conv=>whnf
   repeat ((first|(refine Ix.of i (by omega) (by omega) ?_)|refine Br.y ?_|refine CW.s ?_);conv=>whnf)
   rw[show 0+i=i by omega];refine Sd.rowAt rg i (by omega) (by omega) rfl ?_;intro w7 rg7 k7;have h7:=hr.al7 k7 hgN (qz N.N.m lN.1) (qz N.N.c lN.2.1) (qz N.N.f lN.2.2.1) (qz N.N.cd lN.2.2.2.1) (qz N.N.g lN.2.2.2.2.1) (qz N.N.h lN.2.2.2.2.2);conv=>whnf
   repeat (refine Ar.la ?_;conv=>whnf)
   refine⟨i+1,⟨av,h7,rg7.congr (fun j hj=>?_),kk.then k7 (fun x hx=>.inr (by rw[List.mem_singleton.1 hx];exact hgw))⟩,⟨rfl,rfl,rfl,rfl,vi (by omega),trivial⟩,by simp only;omega⟩;unfold put;by_cases vQ:j=i
   ·rw[if_pos vQ,if_pos (by omega)]
   ·rw[if_neg vQ];simp only;by_cases kL:j<i
    ·rw[if_pos kL,if_pos (by omega)]
    ·rw[if_neg kL,if_neg (by omega)]
  ·obtain rfl:i=12:=by omega
   have rg:Row wr g 3 12 (fun _=>.int .i64 8):=rg.congr (fun j hj=>by simp only[if_pos hj]);conv=>whnf
   repeat ((first|refine Br.f ?_|refine CW.s ?_);conv=>whnf)
   refine Ca.of (aet hr hB rg hgN) ?_;rintro _ w7 ⟨rfl,h7,k7⟩;conv=>whnf
   repeat (refine CW.s ?_;conv=>whnf)
   refine Ca.of (agh h7 ⟨W0,fun _ _=>rfl,fU,fR,fun _ h=>h,rfl⟩ (W0.lt (o:=24) (by omega))) ?_;rintro _ w8 ⟨rfl,k8,K8,P8,n8,h8,O8⟩;have qW:Aa [ch] w w8:=kk.then (k7.trans k8) (fun x hx=>by
    rcases abG x hx with h|h
    ·exact .inl (List.mem_singleton.2 h)
    ·exact .inr h)
   conv=>whnf
   repeat ((first|refine Br.f ?_|refine Ru.ak ?_);conv=>whnf)
   exact⟨rfl,qW,N,K8,P8,n8,rfl,eC,h8,abG,O8.w,fun B hB=>aeL P 96 B (O8.may B hB),O8.qu.trans hq⟩
end
section
open Go.RowKit
def Ee(a:Nat->Nat->Nat)(N:Cr)(X:Option Addr)(w w':World):Prop:=∃K' P' n' Y c',On w' N K' P' none n' Y c'/\(∃k,Wi a k K' P')/\Aq K'.qu/\Aa (N.all++aK X) w w'/\∀x,x∈aK Y->x∈aK X\/w.heap.size<=x
theorem ajT{w:World}{N:Cr}{K:KS}{P:CS}{n:Int}{c:Nat}{X:Option Addr}{a:Nat->Nat->Nat}(h:On w N K P none n X c){k:Cp}(W:Wi a k K P)(nM:Aq K.qu){o:Nat}(ho:o<24) :
  Spec Tryz.prog 46 #[.pointer (some ⟨N.k,0,none⟩),.int .i64 o] w fun v w'=>∃Y e D,v=.tuple #[.slice Y 160 e,al 0]/\B5 w w' Y 160 e D/\(∀j,j<160->D j=a o j)/\Ee a N X w w':=by
 by_cases h0:K.at_ o=0
 ·refine(qT h ho h0).mono ?_;rintro v w' ⟨Y,e,rfl,G,kk⟩;refine⟨Y,e,_,rfl,G,fun j hj=>?_,K,P,n,X,c,h.aj kk,⟨k,W⟩,nM,kk.mono (by simp),fun x hx=>.inl hx⟩;have:=W.sh o j ho hj;unfold arr at this;rw[if_pos h0] at this;exact this
 ·obtain⟨hp,t,D,a2,a3,a4,a5,a6,a7,a8,a9⟩:=W.cI (o:=o) (by omega) h0;refine(abV h W.hb nM ho h0 (W.lt (by omega)) (W.eZ.mw.lo _ hp) a2 a4 a3).mono ?_;rintro v w' ⟨Y,e,rfl,G,F,q,Z,d,n',h2,hF,wS,kk,hZ⟩;refine⟨Y,e,D,rfl,G,fun j hj=>?_,_,_,n',Z,d,h2,⟨k,W.same (P':=P.bC (K.at_ o-1)) rfl hF W.cur rfl⟩,wS,kk,hZ⟩;have:=W.sh o j ho hj;unfold arr aS at this;rw[if_neg h0,a2] at this;exact this
theorem On.ap1{w w1 w2:World}{N:Cr}{K K0:KS}{P P0:CS}{b b0:Option Nat}{n n0:Int}{X X0:Option Addr}{c c0:Nat}{S:List Nat}(h0:On w N K0 P0 b0 n0 X0 c0)(h:On w1 N K P b n X c)(k:Aa S w1 w2)(hS:∀x,x∈S->w.heap.size<=x)(hX:∀x,x∈aK X->x∉S):On w2 N K P b n X c:=by
 obtain⟨C0,M0,-⟩:=h0.o9;obtain⟨C,M,q⟩:=h.o9;have hl:=M0.lt;have no:∀y,y<w.heap.size->y∉S:=fun y hy hm=>by have:=hS y hm;omega
 refine⟨h.core.ab k (fun x hx=>?_),C,M.ab k (no _ hl.1) (no _ hl.2.1) (no _ hl.2.2.1) (no _ hl.2.2.2.1) (no _ hl.2.2.2.2.1) (no _ hl.2.2.2.2.2),q⟩;rcases List.mem_append.1 hx with hx|hx
 ·exact no x (h0.core.lt (List.mem_append_left _ hx))
 ·exact hX x hx
theorem A2.aeH{w0 w w':World}{Z X:Option Addr}{cz n m' c':Nat}{f':Nat->Value}{a:Nat->Nat->Nat}{S:List Nat}(h:A2 w0 w Z cz n a)(lX:Ly w 3 1 X m' c' f')(k:Aa S w w')(hS:∀x,x∈S->x<w0.heap.size\/x∈aK X):A2 w0 w' Z cz n a:=by
 obtain⟨Y,e,h1,h2,h3⟩:=h;refine⟨Y,e,h1.ab k (fun x hx hm=>?_),h2,fun j hj=>⟨(h3 j hj).1.ab k (fun x hx hm=>?_),(h3 j hj).2⟩⟩
 ·have:=h2 x hx;rcases hS x hm with y|y
  ·omega
  ·exact h1.gD lX (by decide) hx y
 ·have:=(h3 j hj).2 x hx;rcases hS x hm with y|y
  ·omega
  ·exact(h3 j hj).1.gD lX (by decide) hx y
theorem agj{w:World}{ch:Nat}{a:Nat->Nat->Nat}(h:∃C P,Ab w ch C/\Abs C P/\C.left none/\Tw P 1099511627775 a) :
  Spec Tryz.prog 29 #[.pointer (some ⟨ch,0,none⟩)] w fun v w'=>∃Z cz,v=.slice Z 24 cz/\A2 w w' Z cz 24 a/\Aa [ch] w w':=by
 obtain⟨C,P,H,hA,hl,T⟩:=h;refine spec_of_wpE (T:=tt) ai func29 rfl (by decide +kernel) ntmps29 (by simp) ?_;conv=>whnf
 refine Ca.of (agi H hA hl T) ?_;rintro _ w1 ⟨k1,N,K',P',n1,rfl,eC,h1,cq,W1,hm1,hq⟩;conv=>whnf
 repeat (refine CW.s ?_;conv=>whnf)
 refine Ru.of (adu w1 _ _) ?_;conv=>whnf
 repeat ((first|refine Br.f ?_|refine Pk.f ?_|refine Ru.ak ?_|refine CW.s ?_);conv=>whnf)
 have arC:∀x,x∈N.all->x<w1.heap.size:=fun x hx=>by
  rcases List.mem_append.1 hx with hx|hx
  ·exact h1.core.lt (List.mem_append_left _ hx)
  ·exact h1.gn _ hx
 refine CW.loop (ι:=Nat×KS×CS×Int×Option Addr×Nat×Option Addr×Nat) (fun i w'=>i.1<=24/\On w' N i.2.1 i.2.2.1 none i.2.2.2.1 i.2.2.2.2.1 i.2.2.2.2.2.1/\(∃k,Wi a k i.2.1 i.2.2.1)/\Aq i.2.1.qu/\(∀x,x∈aK i.2.2.2.2.1->w1.heap.size<=x)/\A2 w1 w' i.2.2.2.2.2.2.1 i.2.2.2.2.2.2.2 i.1 a/\Aa N.all w1 w')
  (fun i=>[(3,.pointer (some ⟨N.k,0,none⟩)),(5,.slice i.2.2.2.2.2.2.1 i.1 i.2.2.2.2.2.2.2),(6,.int .i64 i.1)]) (fun i=>24-i.1) (0,K',P',n1,none,0,none,0) ai
  ⟨by omega,h1,W1,by rw[hq];exact Aq.nil,(fun _ h=>nomatch h),⟨fun _=>none,fun _=>0,Ly.nil _ _ _ _,(fun _ h=>nomatch h),fun j hj=>by omega⟩,Aa.refl _ _⟩ ⟨rfl,rfl,rfl,trivial⟩ ?_;have vX:=h1;clear h1 W1 hq hm1;rintro⟨i,K,P2,n,X,c,Z,cz⟩ wr ⟨hi,h1,⟨k,W⟩,nM,hX,Sl,kk⟩;simp only at hi h1 W nM hX Sl kk ⊢;rcases Nat.lt_or_ge i 24 with av|wg
 ·conv=>whnf
  repeat ((first|refine Br.y ?_|refine CW.s ?_);conv=>whnf)
  refine Ca.of (ajT h1 W nM av) ?_;rintro _ w2 ⟨Y,e,D,rfl,G,hD,K2,P3,n2,X2,c2,h2,W2,q2,k2,hX2⟩;conv=>whnf
  repeat ((first|refine Br.f ?_|refine Ru.ak ?_|refine CW.s ?_);conv=>whnf)
  refine Ru.of (aga Y 160 e w2) ?_;have r3:=Row.obj w2 37 1 (fun _=>.slice Y 160 e);have k3:Aa [] w2 (w2.alloc (eS 1 (fun _=>.slice Y 160 e) 37)):=(Aa.refl _ _).alloc _;have hw2:w1.heap.size<=wr.heap.size:=kk.size;have Ef:=(Sl.aeH h1.core.qu k2 (fun x hx=>by
   rcases List.mem_append.1 hx with hx|hx
   ·exact .inl (arC x hx)
   ·exact .inr hx)).ab k3 (by simp)
  have arD:∀x,x∈aK X2->w1.heap.size<=x:=fun x hx=>by
   rcases hX2 x hx with y|y
   ·exact hX x y
   ·omega
  have hY:Ly w2 5 1 Y 160 e (fun j=>.int .u8 (a i j:Nat)):=G.ly.congr (fun j hj=>by rw[hD j (by omega)]);have hY2:=hY.aj k3;have h3:=h2.aj k3;have dh:Aa N.all w1 w2:=kk.then k2 (fun x hx=>by
   rcases List.mem_append.1 hx with hx|hx
   ·exact .inl hx
   ·exact .inr (hX x hx))
  have bG:=dh.trans (Aa.eh (N:=N) k3);clear Sl k2 hY h2 k3 dh hX2;generalize w2.alloc _=w3 at *;obtain⟨Ys,es,g1,g2,g3⟩:=Ef;obtain⟨i0,hi0,lZ,lR,l4⟩:=info_parts ajv;conv=>whnf
  refine Bu.append underlying51 hi0 lZ lR l4 rfl (by omega) g1 _ (Rd.dq r3 (n:=1*1) (by omega)) (by omega) (by simp) (fun _ _=>rfl) (by simp only[maxLen];omega) (by omega) ?_;intro Z' cz' w4 hl4 k4 da gZ;conv=>whnf
  repeat (refine Ar.la ?_;conv=>whnf)
  have hw3:w1.heap.size<=w3.heap.size:=bG.size;have hYn:∀x,x∈aK Y->w1.heap.size<=x:=fun x hx=>Nat.le_trans hw2 (G.new x hx);have bW:∀ {B:Option Addr} {c:Nat} {f:Nat->Value},Ly w3 5 1 B 160 c f->Ly w4 5 1 B 160 c f:=fun hB=>hB.ab k4 (fun x hx=>hB.gD g1 (by decide) hx);have h4:=On.ap1 vX h3 k4 g2 (fun x hx=>h3.core.qu.gD g1 (by decide) hx);refine⟨(i+1,K2,P3,n2,X2,c2,Z',cz'),⟨av,h4,W2,q2,arD,⟨fun j=>if j=i then Y else Ys j,fun j=>if j=i then e else es j,hl4.congr (fun j hj=>?_),fun x hx=>?_,fun j hj=>?_⟩,bG.then k4 (fun x hx=>.inr (g2 x hx))⟩,⟨rfl,rfl,vi (by simp only;omega),trivial⟩,by simp only;omega⟩
  ·by_cases kL:j=i
   ·simp only[kL,if_true];rw[if_neg (by omega)]
   ·rw[if_pos (by omega)];simp only[if_neg kL]
  ·rcases da with e1|e1
   ·rw[e1] at hx;exact g2 x hx
   ·rw[e1] at hx;rw[List.mem_singleton.1 hx];exact hw3
  ·by_cases kL:j=i
   ·simp only[kL,if_true];exact⟨bW hY2,hYn⟩
   ·simp only[if_neg kL];have:=g3 j (by omega);exact⟨bW this.1,this.2⟩
 ·obtain rfl:i=24:=by omega
  conv=>whnf
  repeat ((first|refine Br.f ?_|refine CW.s ?_);conv=>whnf)
  refine⟨rfl,Z,cz,rfl,?_,k1.then kk (fun x hx=>by
   rcases cq x hx with h|h
   ·exact .inl (List.mem_singleton.2 h)
   ·exact .inr h)⟩
  obtain⟨Y,e,g1,g2,g3⟩:=Sl;have:=k1.size;exact⟨Y,e,g1,fun x hx=>Nat.le_trans this (g2 x hx),fun j hj=>⟨(g3 j hj).1,fun x hx=>Nat.le_trans this ((g3 j hj).2 x hx)⟩⟩
theorem ajU{w:World}{c B n:Nat}{C:Chip}(H:Ab w c C)(hB:B<12)(hn:n<=1000):Spec Tryz.prog 26 #[.pointer (some ⟨c,0,none⟩),.int .i64 B,.int .i64 n] w fun v w'=>v=al 0/\Ab w' c { C with before:=ah C.before B ((n:Int)+1) }/\Aa [c] w w':=by
 refine spec_of_wpE (T:=tt) ai func26 rfl (by decide +kernel) ntmps26 (by simp) ?_;conv=>whnf
 refine Ca.of (uh w c B hB) ?_;rintro _ _ ⟨rfl,rfl⟩;conv=>whnf
 repeat ((first|refine Br.f ?_|refine Ar.la ?_|refine Ru.ak ?_|refine CW.s ?_);conv=>whnf)
 rw[show min (n:Int) 9223372036854775806+1=(n:Int)+1 by omega];refine Sd.setAt _ (fM (i:=2) rfl) (H.lj hB) (Row.free H _) rfl ?_;have H2:=H.xj hB ((n:Int)+1);have k2:=Aa.set (w:=w) c (aQ B+2) (.int .i64 ((n:Int)+1));generalize w.setCell _ _=w2 at *;conv=>whnf
 exact⟨rfl,rfl,H2,k2⟩
theorem agk{w:World}{c B:Nat}{C:Chip}(H:Ab w c C)(hB:B<12):Spec Tryz.prog 27 #[.pointer (some ⟨c,0,none⟩),.int .i64 B] w fun v w'=>v=al 0/\Ab w' c { C with aC:=ah C.aC B true }/\Aa [c] w w':=by
 refine spec_of_wpE (T:=tt) ai func27 rfl (by decide +kernel) ntmps27 (by simp) ?_;conv=>whnf
 refine Ca.of (uh w c B hB) ?_;rintro _ _ ⟨rfl,rfl⟩;conv=>whnf
 repeat ((first|refine Br.f ?_|refine Ru.ak ?_|refine CW.s ?_);conv=>whnf)
 refine Sd.setAt _ (fM (i:=3) rfl) (H.pF hB) (Row.free H _) rfl ?_;have H2:=H.acp hB true;have k2:=Aa.set (w:=w) c (aQ B+3) (.bool true);generalize w.setCell _ _=w2 at *;conv=>whnf
 exact⟨rfl,rfl,H2,k2⟩
theorem Abs.ap2{C:Chip}{A:CS}(h:Abs C A)(B n:Nat)(hn:n<=1000):Abs { C with before:=ah C.before B ((n:Int)+1) } { A with before:=ah A.before B ((n:Int)+1) } :=
 ⟨⟨h.wf.b0,h.wf.b1,fun b=>by
  show ah C.before B _ b<=_;unfold ah;split
  ·omega
  ·exact h.wf.bf b,h.wf.now,h.wf.cy⟩,fun p hp=>(h.cI p hp).congr (fun k hk=>⟨rfl,rfl⟩),h.few,h.dm,h.rd,h.failed,by show ah C.before B _=ah A.before B _;rw[h.before],h.aC,h.wst⟩
theorem Abs.ap3{C:Chip}{A:CS}(h:Abs C A)(B:Nat):Abs { C with aC:=ah C.aC B true } { A with aC:=ah A.aC B true } :=
 ⟨⟨h.wf.b0,h.wf.b1,h.wf.bf,h.wf.now,h.wf.cy⟩,fun p hp=>(h.cI p hp).congr (fun k hk=>⟨rfl,rfl⟩),h.few,h.dm,h.rd,h.failed,h.before,by show ah C.aC B _=ah A.aC B _;rw[h.aC],h.wst⟩
def CS.fail(P:CS)(B n:Nat):CS:={ P with before:=ah P.before B ((n:Int)+1),aC:=ah P.aC B true }
theorem ajV{P:CS}{B n x:Nat}(h:(P.fail B n).may x):P.may x\/x=B:=by
 by_cases e:x=B
 ·exact .inr e
 ·unfold CS.may CS.fail ah at h;simp only[if_neg e] at h;exact .inl h
section
variable{w w':World}{own:List Nat}{d ch:Nat}{K:KS}{P:CS}{b:Option Nat}{B n:Nat}
theorem ajW(D:Ae w own d ch K P b)(hB:B<12)(hn:n<=1000):Spec Tryz.prog 26 #[.pointer (some ⟨ch,0,none⟩),.int .i64 B,.int .i64 n] w fun v w'=>v=al 0/\Ae w' own d ch K { P with before:=ah P.before B ((n:Int)+1) } b/\Aa [ch] w w':=by
 obtain⟨C,H,hA,hl⟩:=D.cH;refine(ajU H hB hn).mono ?_;rintro v w' ⟨rfl,H',k⟩;exact⟨rfl,D.ajO k H' (hA.ap2 B n hn) hl,k⟩
theorem agl(D:Ae w own d ch K { P with before:=ah P.before B ((n:Int)+1) } b)(hB:B<12):Spec Tryz.prog 27 #[.pointer (some ⟨ch,0,none⟩),.int .i64 B] w fun v w'=>v=al 0/\Ae w' own d ch K (P.fail B n) b/\Aa [ch] w w':=by
 obtain⟨C,H,hA,hl⟩:=D.cH;refine(agk H hB).mono ?_;rintro v w' ⟨rfl,H',k⟩;exact⟨rfl,D.ajO k H' (hA.ap3 B) hl,k⟩
def Bv(w:World)(ch:Nat)(a:Nat->Nat->Nat):Prop:=∃C P,Ab w ch C/\Abs C P/\Tw P 1099511627775 a
theorem Bv.ab{a:Nat->Nat->Nat}{S:List Nat}(h:Bv w ch a)(k:Aa S w w')(hc:ch∉S):Bv w' ch a:=by
 obtain⟨C,P,H,hA,hT⟩:=h;exact⟨C,P,H.ab k hc,hA,hT⟩
theorem ajX{a:Nat->Nat->Nat}(h:Bv w ch a):Spec Tryz.prog 20 #[.pointer (some ⟨ch,0,none⟩)] w fun v w'=>v=.tuple #[]/\(∃C P,Ab w' ch C/\Abs C P/\C.left none/\Tw P 1099511627775 a)/\Aa [ch] w w':=by
 obtain⟨C,P,H,hA,hT⟩:=h;refine(ahc w ch C H).mono ?_;rintro v w' ⟨rfl,H',k⟩;obtain⟨hA',hl'⟩:=af8 hA;exact⟨rfl,⟨_,P,H',hA',hl',hT⟩,k⟩
theorem Wi.tw{k:Cp}{a:Nat->Nat->Nat}(W:Wi a k K P):Tw P 1099511627775 a:=⟨k,K.at_,W.mt.mono W.nx.2,W.sh⟩
theorem Ae.tw{a:Nat->Nat->Nat}(D:Ae w own d ch K P b)(h:Tw P 1099511627775 a):Bv w ch a:=by
 obtain⟨C,H,hA,hl⟩:=D.cH;exact⟨C,P,H,hA,h⟩
theorem A0.tw{Q:CS}{a:Nat->Nat->Nat}(D:A0 w d ch Q)(h:Tw Q 1099511627775 a):Bv w ch a:=by
 obtain⟨r,C,H,hD⟩:=D;exact⟨C,Q,H,hD.2,h⟩
end
theorem aeM{aa a b:Nat->Nat}(h:aa=a\/aa=b):(od (mZ aa) a||od (mZ aa) b)=true:=by
 rcases h with rfl|rfl
 ·rw[rC];rfl
 ·rw[rC,Bool.or_true]
theorem AF.fail{K:KS}{P:CS}(R:AF K P)(nm:∀B,¬P.may B)(h3:au K.st 3<=1)(B n:Nat):AF K (P.fail B n) :=
 ⟨R.mT,R.bd,R.free,B,fun x _ h=>(ajV h).resolve_left (nm x),fun _ _=>.inr h3⟩
theorem adE{w:World}{L:List Cl}{A:Option Addr}{cA:Nat}{c:Cl}{bl af:Int}(hL:Rd w A (L.length*3) (clF L))(hLw:∀c,c∈L->c.wf)(hL1:L.length<=1048576)(pH:c.wf)(na:af3 bl)(haf:af3 af) :
  Spec Tryz.prog 14 #[.slice A L.length cA,agg 3 c.cell,.int .i64 bl,.int .i64 af] w fun v w'=>v=.bool true/\Aa [] w w':=by
 refine spec_of_wpE (T:=tt) ai func14 rfl (by decide +kernel) ntmps14 (by simp) ?_;conv=>whnf
 refine Ru.dr ?_;intro x3 w1 hx3 dj r3 k1;conv=>whnf
 refine Ca.of (aju (hL.aj k1) hLw hL1) ?_;rintro _ w2 ⟨ch,d,own,K,P,k,rfl,Bg⟩;have oL:=abK (a:=fun _=>0) (fun _=>by omega) L;obtain⟨D,I,q,s,nw,kb⟩:=Bg;generalize bE (fun _=>0) L=a at *;have arE:w.heap.size<=x3:=by omega
 have arG:x3<w2.heap.size:=by have:=kb.size;omega
 have r32:=r3.ab kb (by simp);have dh:=k1.trans kb;obtain⟨C,H,hA,hl⟩:=D.cH;have abr:=I.l.ok.gd.calm;obtain⟨K1,P1,tr1,M,I1,q1,ap4⟩:=afZ I.l.ok (by omega);have sh1:=(ap4 _ s).2;obtain⟨W1,R1,nm1⟩:=I1.wi sh1 (by omega);have fc:K1.next+120<=1099511627775:=by
  have:=I1.l.next.2.2.1;omega
 have zV:au K1.st 3<=1:=by rw[abx I1.b];omega
 have ha2:∀o,c.arr a o<=1000000:=ajl oL c;have arH:ch<w2.heap.size:=Row.lt H;clear ap4 sh1 q s nw D I I1;conv=>whnf
 refine Ru.aE (di w2) ?_;intro x7 w3 hx7 gg r7 k3;conv=>whnf
 refine Ru.im r7 aB (by omega) (fun j hj=>cM _ j) ?_;intro w4 r74 k4;have r74:Row w4 x7 28 24 (cO a):=r74.congr (fun j hj=>by unfold lay;rw[if_pos (by omega),Nat.sub_zero]);have q4:Aa [] w2 w4:=k3.then k4 (fun x hx=>.inr (by rw[List.mem_singleton.1 hx,hx7];exact Nat.le_refl _));have qB:w2.heap.size+1<=w4.heap.size:=by have:=k4.size;omega
 have LI:B6 w w4 ch C x3 c x7 a (w2.heap.size+1):=⟨H.ab q4 (by simp),r32.ab q4 (by simp),r74,dh.trans q4,by omega,by omega,by omega,by have:=dh.size;omega,qB⟩;have hB2:w.heap.size<=w2.heap.size+1:=LI.hB;generalize w2.heap.size+1=B at *;clear r3 r32 r7 r74 k3 k4 q4 H k1 kb dj gg qB dh hx3 hx7 arE arG arH;conv=>whnf
 repeat (refine CW.s ?_;conv=>whnf)
 refine Ru.of (zW w4 _ _) ?_;conv=>whnf
 repeat ((first|refine Br.f ?_|refine CW.s ?_);conv=>whnf)
 refine CW.loop (ι:=Nat) (fun i w'=>i<=400/\B6 w w' ch C x3 c x7 a B)
  (fun i=>[(2,.int .i64 bl),(3,.int .i64 af),(5,.pointer (some ⟨x3,0,none⟩)),(9,.pointer (some ⟨ch,0,none⟩)),(11,.pointer (some ⟨x7,0,none⟩)),(12,.int .i64 i)]) (fun i=>400-i) 0 ai
  ⟨by omega,LI⟩ ⟨rfl,rfl,rfl,rfl,rfl,rfl,trivial⟩ ?_;clear LI;rintro n wr ⟨hn,J⟩;rcases Nat.lt_or_ge n 400 with av|wg
 ·have asd:=J.sz;conv=>whnf
  repeat ((first|refine Br.y ?_|refine CW.s ?_);conv=>whnf)
  refine Ca.of (afs J.cH) ?_;rintro _ w5 ⟨rfl,Hx,k5⟩;have J5:=J.aj k5;obtain⟨x,hx⟩:∃x,x=wr.heap.size:=⟨_,rfl⟩;rw[<-hx] at Hx ⊢;have hxB:B<=x:=by omega
  clear J;conv=>whnf
  repeat (refine CW.s ?_;conv=>whnf)
  refine Ru.of (zW w5 _ _) ?_;conv=>whnf
  repeat (refine Br.f ?_;conv=>whnf)
  refine Ca.of (yu Hx hA hl abr M q1) ?_;rintro _ w6 ⟨k6,hr6⟩;rcases hr6 with⟨f6,d6,alF,rfl,D6,ho6⟩|⟨y,hy,jq,-⟩
  case inr=>cases jq
  have J6:=J5.new k6 hxB;have ap5:∀y,y∈alF->B<=y:=fun y hy=>by
   have:=J5.sz;rcases ho6 y hy with h|h<;>omega
  clear Hx J5 f6 ho6;conv=>whnf
  repeat (refine CW.s ?_;conv=>whnf)
  refine Ru.of (vF w6 _ _) ?_;conv=>whnf
  repeat (refine Br.f ?_;conv=>whnf)
  refine Ca.of (bL bl 12 na (by omega) w6) ?_;rintro _ _ ⟨rfl,rfl⟩;conv=>whnf
  refine Ca.of (bL af 12 haf (by omega) w6) ?_;rintro _ _ ⟨rfl,rfl⟩;have ac0:bD bl 12<12:=dP _ (by omega);have ase:bD af 12<12:=dP _ (by omega);conv=>whnf
  refine Ca.of (ajW D6 ac0 (n:=bD af 12) (by omega)) ?_;rintro _ w6a ⟨rfl,DP,k6a⟩;conv=>whnf
  refine Ca.of (bL bl 12 na (by omega) w6a) ?_;rintro _ _ ⟨rfl,rfl⟩;conv=>whnf
  refine Ca.of (agl DP ac0) ?_;rintro _ zh ⟨rfl,DQ,k6b⟩;have DR:=(J6.new k6a hxB).new k6b hxB;have W6:Wi (mZ a) k K1 (P1.fail (bD bl 12) (bD af 12)):=W1.same rfl W1.hb W1.cur rfl;have R6:=R1.fail nm1 zV (bD bl 12) (bD af 12);generalize P1.fail (bD bl 12) (bD af 12)=P6 at *;clear D6 DP J6 k6a k6b k6;conv=>whnf
  refine Ca.of (an1 DQ n (by omega)) ?_;rintro _ w7 ⟨rfl,D7,k7⟩;have J7:=DR.new k7 hxB;clear DQ DR k7;conv=>whnf
  refine Ru.cx (q:=cO a) J7.r7 underlying28 rfl aB (by omega) (fun j hj=>by rw[Nat.zero_add]) ?_;conv=>whnf
  refine Ru.cx (q:=c.cell) J7.r3 underlying36 rfl alD (by omega) (fun j hj=>by rw[Nat.zero_add]) ?_;conv=>whnf
  refine Ca.of (ajM D7 pH W6) ?_;rintro u w8 ⟨k8,⟨K8,P8,b8,asf,tD,D8,ap6,hds⟩|⟨tD,Q,cj,rfl,ml⟩⟩
  case' inl =>
   obtain⟨Y,n8,e8,rfl,hW8⟩:∃Y n8 e8,u=.tuple #[agg 24 (cO (c.arr a)),.slice Y n8 e8,al 0]/\∃k',Wi (mZ (c.arr a)) k' K8 P8:=by
    cases hds with
    |done h1 h2 h3=>exact⟨none,0,0,h2,h3.w⟩
    |not h1 h2 h3 h4=>exact(h4 R6 fc).elim
    | read h1 h2 h3 h4 h5 h6 =>
     have e:c.arr a=a:=by
      unfold Cl.arr;rw[if_neg (by omega),if_neg (by omega)]
     rw[e];exact⟨_,_,_,h2,h6.w⟩
   have J8:=J7.bW k8 ap5;have hT:Bv w8 x (mZ (c.arr a)):=by
    obtain⟨k',W8⟩:=hW8;exact D8.tw W8.tw
   obtain⟨aa,haa⟩:∃aa,aa=c.arr a:=⟨_,rfl⟩;rw[<-haa] at hT;have arI:od (mZ aa) (c.arr a)=true:=by rw[haa];exact rC _
   clear D7 J7 k8 D8 ap6 hds hW8 tD
  case' inr =>
   have J8:=J7.bW k8 ap5;obtain⟨aa,hor,hT⟩:∃aa,(od (mZ aa) a||od (mZ aa) (c.arr a))=true/\Bv w8 x (mZ aa):=by
    rcases ml with h|h
    ·exact⟨a,aeM (.inl rfl),cj.tw h⟩
    ·exact⟨c.arr a,aeM (.inr rfl),cj.tw h⟩
   clear D7 J7 k8 cj ml tD
  all_goals
   conv=>whnf
   refine Ru.aE (di w8) ?_;intro x12 w9 hx12 hs9 r12 k9;conv=>whnf
   refine Ru.im r12 aB (by omega) (fun j hj=>cM _ j) ?_;intro tP ab0 vV;have ab0:Row tP x12 28 24 (cO (c.arr a)):=ab0.congr (fun j hj=>by unfold lay;rw[if_pos (by omega),Nat.sub_zero]);have q10:Aa [] w8 tP:=k9.then vV (fun x hx=>.inr (by rw[List.mem_singleton.1 hx,hx12];exact Nat.le_refl _));have DS:=J8.aj q10;have aoe:=hT.ab q10 (by simp);have ap7:x12∉[x]:=fun hm=>by
    obtain⟨C8,P8,H8,-⟩:=aoe;exact Row.ed H8 ab0 (by decide) (List.mem_singleton.1 hm).symm
   clear J8 hT r12 k9 vV q10 hs9;conv=>whnf
   repeat ((first|refine Br.t ?_|refine Br.f ?_|refine Pk.f ?_|refine Pk.t ?_|refine Ru.ak ?_|refine Ru.n1 ?_|refine Ru.n2 ?_|refine CW.s ?_);conv=>whnf)
   refine Ca.of (ajX aoe) ?_;rintro _ zc ⟨rfl,ap8,jJ⟩;have DT:=DS.new jJ hxB;have amc:=ab0.ab jJ ap7;clear DS aoe ab0 jJ;conv=>whnf
   refine Ca.of (agj ap8) ?_;rintro _ w12 ⟨Z,cz,rfl,Sl,so⟩;have DD:=DT.new so hxB;have amd:=amc.ab so ap7;clear DT ap8 amc so;conv=>whnf
   refine Ru.cx (q:=cO a) DD.r7 underlying28 rfl aB (by omega) (fun j hj=>by rw[Nat.zero_add]) ?_;conv=>whnf
   refine Ca.of (ajw Sl (ajy _) oL) ?_;rintro _ w13 ⟨rfl,vS⟩;have DU:=DD.aj vS;have ame:=amd.ab vS (by simp);have Db:=Sl.ab vS (fun _ h=>nomatch h);clear DD amd Sl vS;conv=>whnf
   refine Ru.cx (q:=cO (c.arr a)) ame underlying28 rfl aB (by omega) (fun j hj=>by rw[Nat.zero_add]) ?_;conv=>whnf
   refine Ca.of (ajw Db (ajy _) ha2) ?_;rintro _ w14 ⟨rfl,k14⟩;have DE:=DU.aj k14;clear DU ame Db k14
  case inl =>
   rw[arI];generalize od (mZ aa) a=bf
   cases bf
   all_goals
    conv=>whnf
    repeat ((first|refine Br.t ?_|refine Br.f ?_|refine Pk.f ?_|refine Pk.t ?_|refine Ru.bh ?_|refine CW.s ?_);conv=>whnf)
    exact⟨rfl,rfl,DE.kk⟩
  case inr =>
   generalize od (mZ aa) a=bf at *;generalize od (mZ aa) (c.arr a)=af at *
   cases bf
   case false =>
    obtain rfl:af=true:=by simpa using hor
    conv=>whnf
    repeat ((first|refine Br.t ?_|refine Br.f ?_|refine Pk.f ?_|refine Pk.t ?_|refine Ar.la ?_|refine Ru.e1 ?_|refine CW.s ?_);conv=>whnf)
    exact⟨n+1,⟨av,DE⟩,⟨rfl,rfl,rfl,rfl,rfl,vi (by omega),trivial⟩,by simp only;omega⟩
   case true =>
    cases af
    all_goals
     conv=>whnf
     repeat ((first|refine Br.f ?_|refine Pk.f ?_|refine Ar.la ?_|refine Ru.e1 ?_|refine CW.s ?_);conv=>whnf)
     exact⟨n+1,⟨av,DE⟩,⟨rfl,rfl,rfl,rfl,rfl,vi (by omega),trivial⟩,by simp only;omega⟩
 ·conv=>whnf
  repeat ((first|refine Br.n ?_|refine CW.s ?_);conv=>whnf)
  exact⟨rfl,rfl,J.kk⟩
end
section
open Go.RowKit Go.ChangeShapes Go.WideShapes Go.Deep
section
variable{H:Type}{enc:TypeId×Value->H}{P:Program}{W:World}{base:Nat}{spare:Nat->Bool}{held:Bool}{t e:TypeId}{fs:Array Field}{a:Option Addr}{len cap C:Nat}{d:DataW H}{ps:List MemPlace}
theorem wN(ht:P.underlying t=some (.slice e))(he:P.underlying e=some (.struct fs))(ami:oneCellFields P fs=true)(hC:P.cellsOf e=C)(hfs:fs.size=C)(h:DataW.Trod enc P W base spare held t (.slice a len cap) d ps) :
  len<=cap/\cap<=maxLen/\(a=none->cap=0)/\∃F:Nat->Nat->Value,Rd W a (len*C) (fun q=>F (q/C) (q%C)) /\
   ∀i,i<len->∀(j:Nat) (f:Field),fs[j]?=some f->∃n y,DataW.trod enc P W base spare held n f.type [F i j]=some y:=by
 obtain⟨fuel,hf⟩:=h;rcases open_slice ht hf with⟨wT,_⟩|⟨x,l,c,m,n,D,Pl,wT,_,hl,hm,hmm,_,hi⟩
 ·simp[Value.cells] at wT;obtain⟨rfl,rfl,rfl⟩:=wT;exact⟨Nat.le_refl _,by simp[maxLen],fun _=>rfl,fun _ _=>.nilIface,by rw[Nat.zero_mul];exact Rd.nil _ _ _,fun i h=>absurd h (by omega)⟩
 ·simp[Value.cells] at wT;obtain⟨rfl,rfl,rfl⟩:=wT;have hlm:len<=m:=by
   rw[hmm];split
   ·exact hl
   ·exact Nat.le_refl _
  refine⟨hl,hm,fun h=>by simp at h,fun i j=>(W.cell? (x.add (i*C+j))).getD .nilIface,?_,?_⟩
  ·intro hn;have hC0:0<C:=by
    rcases Nat.eq_zero_or_pos C with h0|h0
    ·rw[h0] at hn;simp at hn
    ·exact h0
   have hl0:0<len:=by
    rcases Nat.eq_zero_or_pos len with h0|h0
    ·rw[h0] at hn;simp at hn
    ·exact h0
   have ad3:∀i,i<len->∀j,j<C->∃v,W.cell? (x.add (i*C+j))=some v:=by
    intro i h1 j h2;obtain⟨cs',hc,_⟩:=hi i (by omega);rw[hC] at hc;obtain⟨_,hcl,da⟩:=World.cells?_some hc;have:=da j h2;rw[Go.Deep.add_add] at this;rw[this];exact⟨_,List.getElem?_eq_getElem (by omega)⟩
   obtain⟨v0,h00⟩:=ad3 0 hl0 0 hC0;have hs:=yE h00;have gO:x.spot=none:=by
    unfold Addr.add at hs;simpa using hs
   refine⟨x.block,x.off,?_,fun q hq=>?_⟩
   ·obtain⟨b,o,s⟩:=x;simp at gO;subst gO;rfl
   ·have h1:q/C<len:=Nat.div_lt_of_lt_mul (by rw[Nat.mul_comm];exact hq);have h2:q%C<C:=Nat.mod_lt _ hC0;obtain⟨v,hv⟩:=ad3 (q/C) h1 (q%C) h2;have e1:q/C*C+q%C=q:=by rw[Nat.mul_comm];exact Nat.div_add_mod q C
    rw[e1] at hv;rw[<-fW gO q];show _=some ((W.cell? (x.add (q/C*C+q%C))).getD .nilIface);rw[e1,hv];rfl
  ·intro i h1 j f hj;have hjl:j<fs.size:=(Array.getElem?_eq_some_iff.1 hj).1;obtain⟨cs',hc,ht'⟩:=hi i (by omega);rw[hC] at hc;obtain⟨ys,n',_,_,_,hyl,hff⟩:=DataW.trod_struct he ht';obtain⟨_,hcl,da⟩:=World.cells?_some hc;obtain⟨ho,hk⟩:=hone_of ami j f hj;have h3:=hff j f hj;rw[ho,hk] at h3;have kL:j<cs'.length:=by omega
   rw[List.drop_eq_getElem_cons kL] at h3;simp only[List.take_succ_cons,List.take_zero] at h3;have h4:=da j (by omega);rw[Go.Deep.add_add,List.getElem?_eq_getElem kL] at h4;refine⟨n',ys[j]'(by omega),?_⟩
   ·show DataW.trod enc P W base spare held n' f.type [(W.cell? (x.add (i*C+j))).getD .nilIface]=_;rw[h4];simp only[Option.getD_some];rw[h3];exact List.getElem?_eq_getElem _
theorem wO{ts:List TypeId}{ds:List (DataW H)}{j B:Nat}(vP:(DataW.weightsEach P ts ds).all (· <= reachBytes)=true)(hj:ts[j]?=some t)(hd:ds[j]?=some d)(ht:P.underlying t=some (.slice e))(hB:P.bytesOf e=B)
  (h:DataW.Trod enc P W base spare held t (.slice a len cap) d ps):len*B<=140737488351232:=by
 obtain⟨fuel,hf⟩:=h;rcases open_slice ht hf with⟨wT,_⟩|⟨x,l,c,m,n,D,Pl,wT,_,hl,hm,hmm,hx,hi⟩
 ·simp[Value.cells] at wT;obtain⟨_,rfl,_⟩:=wT;simp
 ·simp[Value.cells] at wT;obtain⟨rfl,rfl,rfl⟩:=wT;obtain⟨hx,_⟩:=Prod.mk.inj hx;subst hx;have z:=sized_slice vP hj hd ht;rw[hB] at z;have h2:len<=((List.range len).map D).length+((List.range (m-len)).map fun j=>D (len+j)).length:=by
   simp
  exact Nat.le_trans (Nat.mul_le_mul_right _ h2) z
theorem rF{k:IntKind}{n:Nat}{v:Value}{y:DataW H×List MemPlace}(hu:P.underlying t=some (.int k))(h:DataW.trod enc P W base spare held n t [v]=some y):v=.int k (intOf v)/\(Lit.int k (intOf v)).wf=true:=by
 obtain⟨m,hm,hw⟩:=DataW.trod_int hu h;simp at hm;subst hm;exact⟨rfl,hw.2⟩
end
end
section
open Go.RowKit Go.ChangeShapes Go.WideShapes Go.Deep
inductive Kd where
 |int (k:IntKind)
 |bool
deriving DecidableEq
def Kd.ok:Kd->Value->Prop
 |.int k,v=>∃x,v=.int k x/\(Lit.int k x).wf=true
 |.bool,v=>∃b,v=.bool b
def vL(P:Program):Nat->TypeId->Nat->Option Kd
 |0,_,_=>none
 | n+1,t,j=>match P.underlying t with
  |some (.int k)=>if j=0 then some (.int k) else none
  |some .bool=>if j=0 then some .bool else none
  | some (.struct fs)=>match fs.toList.find? (fun f=>decide (f.offset<=j)&&decide (j<f.offset+P.cellsOf f.type)) with
   |some f=>vL P n f.type (j-f.offset)
   |none=>none
  |some (.array m e)=>if P.cellsOf e=0 then none else if j/P.cellsOf e<m then vL P n e (j%P.cellsOf e) else none
  |_=>none
section
variable{H:Type}{enc:TypeId×Value->H}{P:Program}{W:World}{base:Nat}{spare:Nat->Bool}{held:Bool}
theorem aaa:∀(n:Nat) {t:TypeId} {j fuel:Nat} {cs:List Value} {x:DataW H×List MemPlace} {k:Kd},DataW.trod enc P W base spare held fuel t cs=some x->vL P n t j=some k->j<cs.length->∃v,cs[j]?=some v/\k.ok v
 |0,t,j,fuel,cs,x,k,h,hk,hj=>by cases hk
 | n+1,t,j,fuel,cs,x,k,h,hk,hj=>by
  unfold vL at hk;split at hk
  ·rename_i kk hu
   split at hk
   ·rename_i h0
    subst h0;injection hk with hk;subst hk;obtain⟨m,rfl,_,hw⟩:=DataW.trod_int hu h;exact⟨_,rfl,m,rfl,hw⟩
   ·cases hk
  ·rename_i hu
   split at hk
   ·rename_i h0
    subst h0;injection hk with hk;subst hk;obtain⟨b,rfl,_⟩:=DataW.trod_bool hu h;exact⟨_,rfl,b,rfl⟩
   ·cases hk
  ·rename_i fs hu
   split at hk
   ·rename_i f hf
    have h1:=List.find?_some hf;simp only[Bool.and_eq_true,decide_eq_true_eq] at h1;obtain⟨i,hi⟩:=List.getElem?_of_mem (List.mem_of_find?_eq_some hf);have jH:fs[i]?=some f:=by simpa using hi
    obtain⟨xs,m,_,_,hlen,hxl,hff⟩:=DataW.trod_struct hu h;have h2:=hff i f jH;have hil:i<xs.length:=by
     rw[hxl];exact(Array.getElem?_eq_some_iff.1 jH).1
    rw[List.getElem?_eq_getElem hil] at h2;obtain⟨v,hv,ho⟩:=aaa n h2 hk (by simp;omega);refine⟨v,?_,ho⟩;rw[List.getElem?_take,if_pos (by omega),List.getElem?_drop] at hv
    rwa [show f.offset+(j-f.offset)=j from by omega] at hv
   ·cases hk
  ·rename_i m e hu
   split at hk
   ·cases hk
   ·rename_i hc
    split at hk
    ·rename_i hjm
     obtain⟨xs,m',_,_,hlen,hxl,hff⟩:=DataW.trod_array hu h;have h2:=hff (j/P.cellsOf e) hjm;rw[List.getElem?_eq_getElem (by omega)] at h2;have arJ:j%P.cellsOf e<P.cellsOf e:=Nat.mod_lt _ (by omega);have hdm:j/P.cellsOf e*P.cellsOf e+j%P.cellsOf e=j:=by rw[Nat.mul_comm];exact Nat.div_add_mod j _
     obtain⟨v,hv,ho⟩:=aaa n h2 hk (by simp;omega);refine⟨v,?_,ho⟩;rw[List.getElem?_take,if_pos arJ,List.getElem?_drop,hdm] at hv;exact hv
    ·cases hk
  ·cases hk
theorem vM{t:TypeId}{cs:Array Value}{d:DataW H}{ps:List MemPlace}(h:DataW.Trod enc P W base spare held t (.agg cs) d ps):∀(j n:Nat) (k:Kd),j<cs.size->vL P n t j=some k->∃v,cs[j]?=some v/\k.ok v:=by
 obtain⟨fuel,hf⟩:=h;intro j n k hj hk;obtain⟨v,hv,ho⟩:=aaa n hf hk (by simpa[Value.cells] using hj);exact⟨v,by simpa[Value.cells] using hv,ho⟩
end
end
section
open Go.RowKit Go.ChangeShapes Go.WideShapes Go.ChangeAt
namespace Bulk
theorem one_le{H:Type}(d:DataW H):1<=Rows.uptoBulk d:=by
 cases d with
 |lit l=>cases l<;>simp[Rows.uptoBulk]
 |nil=>simp[Rows.uptoBulk]
 |ptr d=>simp[Rows.uptoBulk]
 |slice elems spare=>simp[Rows.uptoBulk]
 |agg parts=>simp[Rows.uptoBulk]
 |iface t d=>simp[Rows.uptoBulk]
 |map entries=>simp[Rows.uptoBulk]
 |held h=>simp[Rows.uptoBulk]
theorem alQ{H:Type}{d:DataW H}{l:List (DataW H)}(h:d∈l):Rows.uptoBulk d<=Rows.uptoBulkAll l:=by
 induction l with
 |nil=>cases h
 | cons x r ih =>
  simp only[Rows.uptoBulkAll]
  cases List.mem_cons.1 h with
  |inl e=>subst e;omega
  |inr e=>have:=ih e;omega
theorem length_le{H:Type}(l:List (DataW H)):l.length<=Rows.uptoBulkAll l:=by
 induction l with
 |nil=>simp[Rows.uptoBulkAll]
 |cons x r ih=>have:=one_le x;simp only[Rows.uptoBulkAll,List.length_cons];omega
theorem ajY{H:Type}(elems spare:List (DataW H)):elems.length+spare.length+1<=Rows.uptoBulk (.slice elems spare):=by
 have h1:=length_le elems;have h2:=length_le spare;simp only[Rows.uptoBulk];omega
theorem bound{H:Type}{l:List (DataW H)}(hk:Rows.uptoSmall H l=true):Rows.uptoBulkAll l<=1048576:=of_decide_eq_true hk
end Bulk
end
section
open Go.RowKit Go.ChangeShapes Go.WideShapes Go.ChangeAt Go.Deep
theorem aab{H:Type}{enc:TypeId×Value->H}{P:Program}{W:World}{base:Nat}{spare:Nat->Bool}{held:Bool}{t e:TypeId}{a:Option Addr}{len cap:Nat}{d:DataW H}{ps:List MemPlace}{ds:List (DataW H)}{j:Nat}
  (hk:Rows.uptoSmall H ds=true) (hd:ds[j]?=some d) (ht:P.underlying t=some (.slice e))
  (h:DataW.Trod enc P W base spare held t (.slice a len cap) d ps):len<=1048576:=by
 obtain⟨fuel,hf⟩:=h;rcases open_slice ht hf with⟨wT,_⟩|⟨x,l,c,m,n,D,Pl,wT,_,hl,hm,hmm,hx,hi⟩
 ·simp[Value.cells] at wT;obtain⟨_,rfl,_⟩:=wT;simp
 ·simp[Value.cells] at wT;obtain⟨rfl,rfl,rfl⟩:=wT;obtain⟨hx,_⟩:=Prod.mk.inj hx;subst hx;have h2:=Bulk.ajY ((List.range len).map D) ((List.range (m-len)).map fun j=>D (len+j));have h3:=Bulk.alQ (List.mem_of_getElem? hd);have h4:=Bulk.bound hk;have h5:((List.range len).map D).length=len:=by simp
  omega
theorem Spec.calls{P:Program}{f:FuncId}{args:Array Value}{w:World}{V:Value}{Φ:World->Prop}(h:Spec P f args w fun v w'=>v=V/\Φ w'):Calls P f args w fun e w'=>e=.returned V/\Φ w':=h.2.mono fun e w' ⟨v,he,hv,hk⟩=>⟨by rw[he,hv],hk⟩
end
section
open Go.RowKit Go.ChangeShapes Go.WideShapes Go.ChangeAt Go.Deep
theorem alR{w:World}{A:Option Addr}{len:Nat}{F:Nat->Nat->Value}(r:Rd w A (len*3) (fun q=>F (q/3) (q%3)))
  (h:∀i,i<len->∃c:Cl,c.wf/\F i 0=.int .i64 c.kind/\F i 1=.int .i64 c.a/\F i 2=.int .i64 c.x) :
  ∃L:List Cl,L.length=len/\Rd w A (L.length*3) (clF L)/\∀c,c∈L->c.wf:=by
 let g:Nat->Cl:=fun i=>⟨intOf (F i 0),intOf (F i 1),intOf (F i 2)⟩
 have hg:∀i,i<len->(g i).wf/\F i 0=.int .i64 (g i).kind/\F i 1=.int .i64 (g i).a/\F i 2=.int .i64 (g i).x:=by
  intro i hi;obtain⟨c,hw,h0,h1,h2⟩:=h i hi;have e:g i=c:=by
   show Cl.mk (intOf (F i 0)) (intOf (F i 1)) (intOf (F i 2))=c;rw[h0,h1,h2];rfl
  rw[e];exact⟨hw,h0,h1,h2⟩
 refine⟨(List.range len).map g,by simp,?_,?_⟩
 ·rw[List.length_map,List.length_range];refine r.congr fun q hq=>?_;have h1:q/3<len:=by omega
  have e:((List.range len).map g).getD (q/3) ⟨0,0,0⟩=g (q/3):=by
   rw[List.getD_eq_getElem?_getD,List.getElem?_map,List.getElem?_range h1];rfl
  unfold clF;rw[e];obtain⟨-,k0,k1,k2⟩:=hg _ h1;unfold Cl.cell;have hm:q%3<3:=Nat.mod_lt _ (by omega);rcases(by omega:q%3=0\/q%3=1\/q%3=2) with e|e|e
  ·rw[e,k0];rfl
  ·rw[e,k1];rfl
  ·rw[e,k2];rfl
 ·intro c hc;obtain⟨i,hi,rfl⟩:=List.mem_map.1 hc;exact(hg i (List.mem_range.1 hi)).1
end
section
open Go.RowKit Go.ChangeShapes Go.WideShapes
theorem adF{v:Value}(h:(Kd.int .i64).ok v):v=.int .i64 (intOf v)/\af3 (intOf v):=by
 obtain⟨x,rfl,hw⟩:=h;exact⟨rfl,bounds_i64 hw⟩
section
variable{H:Type}{enc:TypeId×Value->H}{W:World}{base:Nat}{spare:Nat->Bool}{held:Bool}
theorem aof{cs:Array Value}{d:DataW H}{ps:List MemPlace}(hs:cs.size=3)(h:DataW.Trod enc Tryz.prog W base spare held 36 (.agg cs) d ps):∃c:Cl,Value.agg cs=agg 3 c.cell/\c.wf:=by
 obtain⟨v0,e0,h0⟩:=vM h 0 5 (.int .i64) (by omega) (by kernel_rfl);obtain⟨v1,e1,h1⟩:=vM h 1 5 (.int .i64) (by omega) (by kernel_rfl);obtain⟨v2,e2,h2⟩:=vM h 2 5 (.int .i64) (by omega) (by kernel_rfl);obtain⟨g0,b0⟩:=adF h0;obtain⟨g1,b1⟩:=adF h1;obtain⟨g2,b2⟩:=adF h2;refine⟨⟨intOf v0,intOf v1,intOf v2⟩,?_,b0,b1,b2⟩;unfold agg;congr 1;apply Array.ext
 ·simp[hs]
 ·intro j q1 q2;have hj:j<3:=by omega
  have:j=0\/j=1\/j=2:=by omega
  simp only[Array.getElem_map,Array.getElem_range];rcases this with rfl|rfl|rfl
  ·rw[Array.getElem?_eq_getElem q1] at e0;injection e0 with e0;rw[e0];exact g0
  ·rw[Array.getElem?_eq_getElem q1] at e1;injection e1 with e1;rw[e1];exact g1
  ·rw[Array.getElem?_eq_getElem q1] at e2;injection e2 with e2;rw[e2];exact g2
end
end
namespace topFailCut
open Go.RowKit Go.Joins Go.ChangeAt
theorem fC{a b:Bool}(h:a=true)(k:b=true):(a&&b)=true:=by rw[h,k];rfl
theorem j0:(Rows.topFailCutUptoRow.wf (OpenSpec.ofChange (Rows.OpenSpec.upto Rows.topFailCutSpec).bare):Bool)=true:=by kernel_rfl
theorem j1:(laidOutB Tryz.pinned.checked.prog:Bool)=true:=by kernel_rfl
theorem j2:(mapsRowed Tryz.pinned.checked.prog:Bool)=true:=by kernel_rfl
theorem j3:((Tryz.f14).params.all (Tryz.pinned.checked.prog.readableRec ·):Bool)=true:=by kernel_rfl
theorem j4:(namedTie Tryz.pinned.checked.prog Rows.topFailCutUptoRow.named (Rows.OpenSpec.upto Rows.topFailCutSpec).bare.vars:Bool)=true:=by kernel_rfl
theorem j5:((Rows.topFailCutUptoRow.stops == []):Bool)=true:=by kernel_rfl
theorem j6:((Tryz.pinned.checked.prog.stops == []):Bool)=true:=by kernel_rfl
theorem j7:((Rows.topFailCutUptoRow.knobs == []):Bool)=true:=by kernel_rfl
theorem j8:((Tryz.pinned.checked.prog.stopKnobs == []):Bool)=true:=by kernel_rfl
theorem j9:((Rows.topFailCutUptoRow.inPlace == Tryz.pinned.checked.prog.inPlace 14):Bool)=true:=by kernel_rfl
theorem j10:((Rows.topFailCutUptoRow.unfollowed == Tryz.pinned.checked.prog.unfollowed 14):Bool)=true:=by kernel_rfl
theorem j11:((Rows.topFailCutUptoRow.recurses == Tryz.pinned.checked.prog.recurses 14):Bool)=true:=by kernel_rfl
theorem j12:((Rows.topFailCutUptoRow.named == Tryz.pinned.checked.prog.varsNamed 14):Bool)=true:=by kernel_rfl
theorem j13:((Rows.topFailCutUptoRow.maps == ((Tryz.f14).params.toList++(Rows.OpenSpec.upto Rows.topFailCutSpec).bare.plain.varTypes Tryz.pinned.checked.prog).any (Tryz.pinned.checked.prog.mapsRec ·)):Bool)=true:=by kernel_rfl
theorem j14:((Rows.topFailCutUptoRow.ifaces == ((Tryz.f14).params.toList++(Rows.OpenSpec.upto Rows.topFailCutSpec).bare.plain.varTypes Tryz.pinned.checked.prog).any (Tryz.pinned.checked.prog.ifacesRec ·)):Bool)=true:=by kernel_rfl
theorem j15:((Rows.topFailCutUptoRow.mapsOut == Tryz.pinned.checked.prog.mapsAmong (Tryz.f14).resultTypes.toList):Bool)=true:=by kernel_rfl
theorem j16:((Rows.topFailCutUptoRow.loops == ((Tryz.f14).params.toList++(Rows.OpenSpec.upto Rows.topFailCutSpec).bare.plain.varTypes Tryz.pinned.checked.prog).any (Tryz.pinned.checked.prog.loopsFrom ·)):Bool)=true:=by kernel_rfl
theorem j17:((Rows.topFailCutUptoRow.wideKeys == ((Tryz.f14).params.toList++(Rows.OpenSpec.upto Rows.topFailCutSpec).bare.plain.varTypes Tryz.pinned.checked.prog++(Tryz.f14).resultTypes.toList).any (Tryz.pinned.checked.prog.wideKeysFrom ·)):Bool)=true:=by kernel_rfl
theorem j18:((Rows.OpenSpec.upto Rows.topFailCutSpec).bare.vars.all (Tryz.pinned.checked.prog.varReadable ·):Bool)=true:=by kernel_rfl
theorem j19:((Tryz.f14).resultTypes.all (fun t=>Tryz.pinned.checked.prog.readableRec t&&decide (t<Tryz.pinned.checked.prog.types.size)):Bool)=true:=by kernel_rfl
theorem j20:((Rows.topFailCutUptoRow.ifacesOut == (Tryz.f14).resultTypes.toList.any (Tryz.pinned.checked.prog.ifacesRec ·)):Bool)=true:=by kernel_rfl
theorem j21:((Rows.topFailCutUptoRow.loopsOut == (Tryz.f14).resultTypes.toList.any (Tryz.pinned.checked.prog.loopsFrom ·)):Bool)=true:=by kernel_rfl
theorem j22:((Rows.topFailCutUptoRow.plainKeys == Tryz.pinned.checked.prog.plainKeys):Bool)=true:=by kernel_rfl
theorem j23:(Rows.topFailCutUptoRow.shortTexts.isNone:Bool)=true:=by kernel_rfl
theorem j24:(Tryz.pinned.checked.prog.stopsHeard:Bool)=true:=by kernel_rfl
theorem j25:(Tryz.pinned.checked.prog.mayEnter:Bool)=true:=by kernel_rfl
theorem j26:((Rows.topFailCutUptoRow.lifted == Tryz.pinned.checked.prog.liftsFinal):Bool)=true:=by kernel_rfl
theorem j27:((Tryz.pinned.checked.prog.make == some Rows.topFailCutUptoRow.make):Bool)=true:=by kernel_rfl
theorem j28:((Rows.topFailCutUptoRow.kinds == (if Rows.topFailCutUptoRow.domain.isEmpty then [] else (Tryz.f14).params.toList.map fun t=>match Tryz.pinned.checked.prog.underlying t with|some (.int k)=>some k|_=>none)):Bool)=true:=by kernel_rfl
theorem j29:((Rows.topFailCutUptoRow.pinned == Rows.topFailCutUptoRow.pinnedBy):Bool)=true:=by kernel_rfl
theorem j30:((Rows.topFailCutUptoRow.veiled == ((Tryz.f14).params.toList++(Rows.OpenSpec.upto Rows.topFailCutSpec).bare.plain.varTypes Tryz.pinned.checked.prog++(Tryz.f14).resultTypes.toList).any (Tryz.pinned.checked.prog.veiledRec ·)):Bool)=true:=by kernel_rfl
theorem j31:(Rows.topFailCutUptoRow.veiledFits Tryz.pinned.checked.prog (Tryz.f14).params.toList ((Tryz.f14).params.toList++(Rows.OpenSpec.upto Rows.topFailCutSpec).bare.plain.varTypes Tryz.pinned.checked.prog++(Tryz.f14).resultTypes.toList):Bool)=true:=by kernel_rfl
theorem closed:joinedFacts Tryz.pinned.checked.prog 14 Tryz.f14 (Rows.OpenSpec.upto Rows.topFailCutSpec).bare Rows.topFailCutUptoRow=true:=(fC (fC (fC (fC (fC (fC (fC (fC (fC (fC (fC (fC (fC (fC (fC (fC (fC (fC (fC (fC (fC (fC (fC (fC (fC (fC (fC (fC (fC (fC (fC j0 j1) j2) j3) j4) j5) j6) j7) j8) j9) j10) j11) j12) j13) j14) j15) j16) j17) j18) j19) j20) j21) j22) j23) j24) j25) j26) j27) j28) j29) j30) j31)
theorem wrap:(Tryz.f14).isWrapper Tryz.pinned.checked.prog Rows.topFailCutUptoRow.wrapper Rows.topFailCutUptoRow.mainSum:=by unfold Func.isWrapper;first|(rw[if_pos (by decide +kernel)];kernel_rfl)|(rw[if_neg (by decide +kernel)];exact⟨rfl,rfl⟩)
end topFailCut
end Go.Proofs.YtaeikigfgfcadaaGreat
