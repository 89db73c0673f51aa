/- Texts behind one another: Clean, Mount, Dev, DevM, Call, W1, W2, W3, W4, W5, W6, W7, W8, W9, W10. -/
import Derived.Test.YtaeikigfgfcadaaGreatMq0a
import Derived.Test.YtaeikigfgfcadaaGreatMq0b
import Derived.Test.YtaeikigfgfcadaaGreatMq0c
import Derived.Test.YtaeikigfgfcadaaGreatMq0d
import Derived.Test.YtaeikigfgfcadaaGreatMq0e
namespace Go.Proofs.YtaeikigfgfcadaaGreat
open Go.Proofs.Tryz
set_option maxHeartbeats 8000000
set_option maxRecDepth 20000
set_option linter.unusedVariables false
set_option linter.unusedSimpArgs false
set_option linter.unnecessarySimpa false
section
open Go.RowKit
def nC(K:KS):Nat->KS
 |0=>K
 |b+1=>if K.st b=0 then { nC K b with F:=Hl.ua (nC K b).F b } else nC K b
def oM(K:KS)(P:CS):Nat->CS
 |0=>P
 |b+1=>if K.st b=0 then (oM K P b).dD b else oM K P b
def vS(K:KS)(P:CS):Nat->List CS
 |0=>[]
 |b+1=>if K.st b=0 then vS K P b++[oM K P b] else vS K P b
theorem uT(K:KS)(b:Nat):nC K (b+1)=if K.st b=0 then { nC K b with F:=Hl.ua (nC K b).F b } else nC K b:=rfl
theorem uU(K:KS)(P:CS)(b:Nat):oM K P (b+1)=if K.st b=0 then (oM K P b).dD b else oM K P b:=rfl
theorem uV(K:KS)(P:CS)(b:Nat):vS K P (b+1)=if K.st b=0 then vS K P b++[oM K P b] else vS K P b:=rfl
theorem abc(K:KS):nC K 0=K:=rfl
theorem abd(K:KS)(P:CS):oM K P 0=P:=rfl
theorem abe(K:KS)(P:CS):vS K P 0=[]:=rfl
theorem pP(K:KS):∀b,ux K (nC K b)
 |0=>⟨K.F,rfl⟩
 | b+1=>by
  obtain⟨F,h⟩:=pP K b;unfold nC;split
  ·rw[h];exact⟨_,rfl⟩
  ·exact⟨F,h⟩
theorem pQ(K:KS){P:CS}(h:P.calm):∀b,(oM K P b).calm
 |0=>h
 | b+1=>by
  unfold oM;split
  ·exact CS.xc (pQ K h b) b
  ·exact pQ K h b
theorem ad8(K:KS)(P:CS):∀n m,n<=m->∃T,vS K P m=vS K P n++T
 | n,0,h=>by
  obtain rfl:n=0:=by omega
  exact⟨[],by simp⟩
 | n,m+1,h=>by
  by_cases e:n=m+1
  ·subst e;exact⟨[],by simp⟩
  ·obtain⟨T,hT⟩:=ad8 K P n m (by omega);rw[uV];split
   ·exact⟨T++[oM K P m],by rw[hT,List.append_assoc]⟩
   ·exact⟨T,hT⟩
inductive AE (K:KS) (P:CS):KS->CS->List CS->Prop
 |done:K.at_ 24≠0->AE K P (nC K 12) (oM K P 12) (vS K P 12)
 |note {K1:KS} {P1:CS} {t1:List CS}:K.at_ 24=0->AO 24 aZ (nC K 12) (oM K P 12) K1 P1 t1->(iv (bS K1) K1.next (-1)).told->AE K P (cy K1 24) (jr K1 P1 24 aZ) (vS K P 12++za K1 P1 t1)
theorem AE.len{K:KS}{P:CS}{K':KS}{P':CS}{tr:List CS}(h:AE K P K' P' tr):∃T,tr=vS K P 12++T:=by
 cases h
 ·exact⟨[],by simp⟩
 ·exact⟨_,rfl⟩
attribute [local irreducible] nC oM vS
section
variable{w w':World}{N:Cr}{K:KS}{X:Option Addr}{c:Nat}{P:CS}{b:Option Nat}{n:Int}
theorem aiJ(h:On w N K P b n X c)(hc:P.calm)(ha:K.at_ 24<=96)(hwo:aA K.st=false){K':KS}{P':CS}{tr:List CS}(H:AE K P K' P' tr) :
  Spec Tryz.prog 78 #[.pointer (some ⟨N.k,0,none⟩)] w fun u w'=>AD N X c K' P' b tr w w' (u=ak 0) (u=ak 7):=by
 have ck:∀x,w.heap.size<=x->x∉N.all:=fun x hx hm=>by
  have h3:x<w.heap.size:=by
   rcases List.mem_append.1 hm with hm|hm
   ·exact h.core.lt (List.mem_append_left _ hm)
   ·exact h.gT _ hm
  omega
 have iq:=H.len;refine spec_of_wpE (T:=tt) ah func78 rfl (by decide +kernel) ntmps78 (by simp) ?_;conv=>whnf
 repeat ((refine Ld.of h.core.c2 ?_);conv=>whnf)
 refine Ca.of (iS h.core.map 24 (by omega) ha) ?_;rintro _ _ ⟨rfl,rfl⟩;obtain⟨m,a,e,hv,he⟩:∃(m:Bool) (a e:Int),(if K.at_ 24=0 then Value.tuple #[.int .i64 0,ak 11] else .tuple #[.int .i64 ((K.at_ 24-1:Nat):Int),ak 0])=.tuple #[.int .i64 a,ak e] /\
   ((m=true/\e=11/\∃K1 P1 t1,AO 24 aZ (nC K 12) (oM K P 12) K1 P1 t1/\(iv (bS K1) K1.next (-1)).told/\K'=cy K1 24/\P'=jr K1 P1 24 aZ/\tr=vS K P 12++za K1 P1 t1)\/(m=false/\e=0/\K'=nC K 12/\P'=oM K P 12/\tr=vS K P 12)):=by
  cases H with
  |done h0=>exact⟨false,_,0,if_neg h0,.inr ⟨rfl,rfl,rfl,rfl,rfl⟩⟩
  |note h0 h1 h2=>exact⟨true,0,11,if_pos h0,.inl ⟨rfl,rfl,_,_,_,h1,h2,rfl,rfl,rfl⟩⟩
 rw[hv];rcases he with⟨hm,rfl,lJ⟩|⟨hm,rfl,lJ⟩
 all_goals
  conv=>whnf
  repeat ((first|(refine Ld.of h.core.c1 ?_)|refine Ru.ai ?_|refine Ru.n1 ?_|refine CW.s ?_);conv=>whnf)
  refine Ca.of (iW h) ?_;rintro _ w1 ⟨Y,e,rfl,hY⟩;have h1:=h.aj hY.ab;obtain⟨lY,nY,kY⟩:=hY;conv=>whnf
  refine CW.loop (ι:=Nat) (fun i w'=>i<=12/\fits b (vS K P i).length/\On w' N (nC K i) (oM K P i) (less b (vS K P i).length) n X c/\Ly w' 3 1 Y 12 e (fun j=>.int .i64 (K.st j:Nat))/\Aa N.all w w')
   (fun i=>[(0,.pointer (some ⟨N.k,0,none⟩)),(5,.bool m),(24,.slice Y 12 e),(25,.int .i64 12),(26,.int .i64 i)]) (fun i=>12-i) 0 ah ⟨by omega,(fun x hx=>by rw[abe];exact Nat.zero_le _),by rw[abe,abc,abd,show(([]:List CS)).length=0 from rfl,fC];exact h1,lY,Aa.eA kY⟩ ⟨rfl,congrArg Value.bool hm.symm,rfl,rfl,rfl,trivial⟩ ?_;clear h1 lY kY;rintro i wr ⟨hi,dZ,hr,ly,kk⟩;obtain⟨F,fe⟩:=pP K i;have afv:=pQ K hc i;rcases Nat.lt_or_ge i 12 with av|av
  ·have rd:=ly.rd;rw[Nat.mul_one] at rd;obtain⟨gy,oy,rfl,bu⟩:=rd (by omega);have ci:wr.cell? ⟨gy,oy+i,none⟩=some (.int .i64 (K.st i:Nat)):=bu i av;by_cases hs:K.st i=0
   ·rw[hs] at ci;obtain⟨T,hT⟩:=ad8 K P (i+1) 12 (by omega);have eT:vS K P (i+1)=vS K P i++[oM K P i]:=by rw[uV,if_pos hs]
    conv=>whnf
    repeat ((first|(refine Ld.at (by omega) ci ?_)|(refine Ld.of hr.core.c0 ?_)|refine Br.f ?_|refine Ix.n ?_|refine Br.y ?_|refine CW.s ?_);conv=>whnf)
    refine Ca.of (mV hr.qC (B:=i) av) ?_;rintro _ w4 ⟨k4,hr4⟩;have k4a:Aa N.all wr w4:=k4.mono (fun x hx=>iV (by rw[List.mem_singleton.1 hx];simp[Pt.l]));have bT:=kk.trans k4a;have yH:=ly.ab k4a (fun x hx=>ck x (nY x hx));rw[CS.uw afv] at hr4;rcases hr4 with⟨hf4,rfl,M4⟩|⟨y,hy,jy,rfl,M4⟩
    ·have h4:=hr.dz (k4.mono (fun x hx=>by rw[List.mem_singleton.1 hx];simp[Pt.l])) M4;conv=>whnf
     repeat ((first|(refine Ld.of h4.core.c4 ?_)|refine Br.t ?_|refine Ru.au ?_);conv=>whnf)
     refine Ca.of (Hl.mZ w4 N.e _ h4.core.aL i av) ?_;rintro _ w5 ⟨rfl,r5,k5⟩;have h5:=h4.aL k5 r5;conv=>whnf
     repeat (refine Ar.la ?_;conv=>whnf)
     refine⟨i+1,⟨av,?_,?_,yH.ab k5 (fun x hx hm=>?_),bT.trans (Aa.jg (by simp[Cr.own]) k5)⟩,⟨rfl,rfl,rfl,rfl,vi (by omega),trivial⟩,by simp only;omega⟩
     ·rw[eT];exact Ag.fits dZ hf4
     ·rw[eT,uT,uU,if_pos hs,if_pos hs,List.length_append, <-gn];exact h5
     ·exact ck x (nY x hx) (bh (by rw[List.mem_singleton.1 hm];simp[Cr.own]))
    ·conv=>whnf
     repeat ((first|refine Br.f ?_|refine Ru.e1 ?_);conv=>whnf)
     refine Ca.of (aW 7 8 (by decide) _) ?_;rintro _ _ ⟨rfl,rfl⟩;conv=>whnf
     repeat (refine Br.f ?_;conv=>whnf)
     refine⟨rfl,bT,?_⟩;obtain⟨T2,hT2⟩:=iq;rw[hT2,hT,eT,List.append_assoc,List.append_assoc];exact Ag.then dZ (Ag.gone hy jy ⟨rfl,n,M4⟩)
   ·have du:decide (((K.st i:Nat):Int)=0)=false:=decide_eq_false (by omega);have eT:vS K P (i+1)=vS K P i:=by rw[uV,if_neg hs]
    conv=>whnf
    repeat ((first|(refine Ld.at (by omega) ci ?_)|refine Ix.n ?_|refine Ar.la ?_|refine Br.y ?_|refine Br.nn ?_|refine CW.s ?_);conv=>whnf)
    refine⟨i+1,⟨av,by rw[eT];exact dZ,?_,ly,kk⟩,⟨rfl,rfl,rfl,rfl,vi (by omega),trivial⟩,by simp only;omega⟩;rw[eT,uT,uU,if_neg hs,if_neg hs];exact hr
 ·obtain rfl:i=12:=by omega
  obtain⟨F,fe⟩:=pP K 12;have hw:aA (nC K 12).st=false:=by rw[fe];exact hwo
  subst hm;obtain⟨K1,P1,t1,h1,h2,rfl,rfl,rfl⟩:=lJ;conv=>whnf
  repeat ((first|(refine Ld.of hr.core.c1 ?_)|refine Br.f ?_|refine CW.s ?_);conv=>whnf)
  refine Ca.of (eM hr.core.aY) ?_;rintro _ _ ⟨rfl,rfl⟩;rw[hw];conv=>whnf
  repeat ((first|refine Br.f ?_|refine Pk.f ?_|refine CW.s ?_);conv=>whnf)
  refine Ca.of (adW hr h1 h2) ?_;rintro _ w5 ⟨k5,hr5⟩;rcases hr5 with⟨f5,rfl,n5,h5⟩|⟨y,hy,jy,rfl,n5,h5⟩
  ·conv=>whnf
   refine Ca.of (aW 0 14 (by decide) _) ?_;rintro _ _ ⟨rfl,rfl⟩;conv=>whnf
   repeat (refine Br.t ?_;conv=>whnf)
   exact⟨rfl,kk.trans k5,Ag.then dZ (.inl ⟨f5,rfl,n5,h5⟩)⟩
  ·conv=>whnf
   refine Ca.of (aW 7 14 (by decide) _) ?_;rintro _ _ ⟨rfl,rfl⟩;conv=>whnf
   repeat (refine Br.t ?_;conv=>whnf)
   exact⟨rfl,kk.trans k5,Ag.then dZ (.inr ⟨y,hy,jy,rfl,n5,h5⟩)⟩
 ·obtain rfl:i=12:=by omega
  subst hm;obtain⟨rfl,rfl,rfl⟩:=lJ;conv=>whnf
  repeat ((first|refine Br.t ?_|refine Br.f ?_|refine Pk.t ?_|refine CW.s ?_);conv=>whnf)
  exact⟨rfl,kk,.inl ⟨dZ,rfl,n,hr⟩⟩
end
end
section
open Go.RowKit
def zl(k:Cp)(L:List Fd):KS:=fK (nwK k L) (zi (nwK k L).F 12)
inductive AV (P:CS):KS->CS->List CS->Prop
 |new {K':KS} {P':CS} {tr:List CS}:aQ (mW (ao P 96) 96) 24 (-1)=(Fd.zero,false)->Bs Cp.zero []->Hl.HB (nwK Cp.zero []).F->(zl Cp.zero []).at_ 24<=96->aA (zl Cp.zero []).st=false->AE (zl Cp.zero []) (nB P 96) K' P' tr->AV P K' P' tr
 | old {k:Cp} {f:Fd} {p:Nat} {t:Tg} {D:Nat->Nat} {K':KS} {P':CS} {tr:List CS}:aQ (mW (ao P 96) 96) 24 (-1)=(f,true)->f.place=p->p<96->P.pg p=.full t D->t.of=24->(∀j,j<174->D j=uC k j)->Bs k (ao P 96)->Hl.HB (nwK k (ao P 96)).F->(zl k (ao P 96)).at_ 24<=96->aA (zl k (ao P 96)).st=false ->
   AE (zl k (ao P 96)) (nB P 96) K' P' tr->AV P K' P' tr
theorem xB(w:World):(Instr.makeSlice 23 (.int .i64 12) (.int .i64 12)).run Tryz.prog w=.ok (.slice (some ⟨w.heap.size,0,none⟩) 12 12) (w.alloc (.cells (madeCells #[.int .i64 0] 12) 3)):=by kernel_rfl
attribute [local irreducible] ao nB nwK zi
theorem On.aly{w w':World}{N:Cr}{K:KS}{P:CS}{b:Option Nat}{n:Int}{c g:Nat}(h:On w N K P b n none c)(k:Aa [g] w w')(hg:g∉N.all)(h1:N.N.m∉[g])(h2:N.N.c∉[g])(h3:N.N.f∉[g])(h4:N.N.cd∉[g])(h5:N.N.g∉[g])(h6:N.N.h∉[g]):On w' N K P b n none c:=by
 obtain⟨C,M,q⟩:=h.qC;exact⟨h.core.ab k (fun x hx hm=>by
  rcases List.mem_append.1 hx with hx|hx
  ·exact hg (bh (by rw[<-List.mem_singleton.1 hm];exact hx))
  ·cases hx),C,M.ab k h1 h2 h3 h4 h5 h6,q⟩
def CY(ch:Nat)(K':KS)(P':CS)(b:Option Nat)(tr:List CS)(w:World)(v:Value)(w':World):Prop :=
 Aa [ch] w w'/\Ag b tr (fun b'=>∃(N:Cr) (n:Int),v=.tuple #[.pointer (some ⟨N.k,0,none⟩),ak 0]/\N.N.c=ch/\On w' N K' P' b' n none 0/\∀x,x∈N.all->x=ch\/w.heap.size<=x) (fun Q=>v=.tuple #[.pointer none,ak 7]/\∃C',Ab w' ch C'/\AT C' Q)
theorem aiK{w:World}{C:Chip}{ch:Nat}{P:CS}{b:Option Nat}(H:Ab w ch C)(hA:Abs C P)(hl:C.left b)(hc:P.calm){K':KS}{P':CS}{tr:List CS}(M:AV P K' P' tr) :
  Spec Tryz.prog 50 #[.pointer (some ⟨ch,0,none⟩)] w (CY ch K' P' b tr w):=by
 have hlen:=nm P 96;have afv:=uS hc 96;have sb:ch<w.heap.size:=Row.lt H;obtain⟨k,L,is,hN,hB,jj,hwo,hCl,aiL⟩:∃(k:Cp) (L:List Fd) (is:Bool),Bs k L/\Hl.HB (nwK k L).F/\(zl k L).at_ 24<=96/\aA (zl k L).st=false/\AE (zl k L) (nB P 96) K' P' tr /\
   ((is=false/\L=[]/\k=Cp.zero/\aQ (mW (ao P 96) 96) 24 (-1)=(Fd.zero,false))\/(is=true/\L=ao P 96/\∃f p t D,aQ (mW (ao P 96) 96) 24 (-1)=(f,true)/\f.place=(p:Nat)/\p<96/\P.pg p=.full t D/\t.of=24/\∀j,j<174->D j=uC k j)):=by
  cases M with
  |new h1 h2 h3 h4 h5 h6=>exact⟨_,_,false,h2,h3,h4,h5,h6,.inl ⟨rfl,rfl,rfl,h1⟩⟩
  |old h1 h2 h3 h4 h5 h6 h7 h8 h9 wZ sA=>exact⟨_,_,true,h7,h8,h9,wZ,sA,.inr ⟨rfl,rfl,_,_,_,_,h1,h2,h3,h4,h5,h6⟩⟩
 clear M;refine spec_of_wpE (T:=tt) ah func50 rfl (by decide +kernel) ntmps50 (by simp) ?_;conv=>whnf
 repeat (refine CW.s ?_;conv=>whnf)
 refine Ru.of (mB w _ _) ?_;conv=>whnf
 repeat (refine Br.f ?_;conv=>whnf)
 refine Ca.of (ad6 H hA hl) ?_;rintro _ w1 ⟨A,cA,r,ps,C1,rfl,om,ly,rm,hps,H1,hA1,hl1,k1⟩;have uo:(ao P 96).length<=cA:=ly.1;have gN:Spec Tryz.prog 75 #[.slice A (ao P 96).length cA,.map (some r)] w1 fun v w'=>v=.tuple #[agg 62 k.cell,.bool is]/\Aa [] w1 w':=by
  rcases aiL with⟨rfl,-,rfl,h1⟩|⟨rfl,-,f,p,t,D,h1,h2,h3,h4,h5,h6⟩
  ·exact afw ly.rd om uo hlen h1
  ·obtain⟨O,oc,D',a1,a2,a3,a4⟩:=hps.yes p t D h3 h4 h5;refine xA ly.rd om uo hlen ⟨hN.told,rm,f,p,h1,h2,O,oc,a1,a4.congr (fun j hj=>?_)⟩;have h7:D' j=D j:=by
    rw[<-a3];unfold cq;rw[if_pos (by omega)]
   rw[h7,h6 j (by omega),nh]
 conv=>whnf
 repeat ((first|refine Br.f ?_|refine Ru.ai ?_|refine CW.s ?_);conv=>whnf)
 refine Ca.of gN ?_;rintro _ w2 ⟨rfl,k2⟩;have H2:=H1.ab k2 (by simp);have ly2:=ly.aj k2;have dJ:=k1.trans (k2.mono (T:=[ch]) (by simp));clear H1 ly k1 k2 rm hps gN H;conv=>whnf
 refine Ru.aF (ew w2) ?_;intro x7 w3 hx7 gG r7 k3;conv=>whnf
 refine Ru.gY r7 bz (by omega) (fun j hj=>Cp.bH _ j) ?_;intro w4 r74 k4;have r74:Row w4 x7 116 62 k.cell:=r74.congr (fun j hj=>sI _ _ j hj);have q4:Aa [] w2 w4:=k3.then k4 (fun x hx=>.inr (by rw[List.mem_singleton.1 hx,hx7];exact Nat.le_refl _));have H4:=H2.ab q4 (by simp);have yH:=ly2.aj q4;have bT:=dJ.trans (q4.mono (T:=[ch]) (by simp));clear H2 ly2 dJ q4 k3 k4 r7 gG;have xC:∀A' cA',Rd w4 A' (L.length*6) (jn L)->Spec Tryz.prog 76 #[.pointer (some ⟨ch,0,none⟩),agg 62 k.cell,.slice A' L.length cA'] w4 fun v w'=>∃N:Cr,v=.tuple #[.pointer (some ⟨N.k,0,none⟩),ak 0]/\On w' N (nwK k L) (nB P 96) b 0 none 0/\N.N.c=ch/\(∀x,x∈N.all->x=ch\/w4.heap.size<=x)/\Aa [] w4 w' :=
  fun A' cA' hr=>aiA H4 hA1 hl1 hN hr (by rcases aiL with⟨-,rfl,-⟩|⟨-,rfl,-⟩;simp;omega);rcases aiL with⟨rfl,rfl,-,-⟩|⟨rfl,rfl,-⟩
 rotate_left
 all_goals
  conv=>whnf
  repeat ((first|refine Br.t ?_|refine Br.f ?_|refine CW.s ?_);conv=>whnf)
  refine Ru.cG (q:=k.cell) r74 underlying116 rfl bz (by omega) (fun j hj=>by rw[Nat.zero_add]) ?_;conv=>whnf
 refine Ca.of (xC A cA yH.rd) ?_
 rotate_left
 refine Ca.of (xC none 0 (fun h=>by simp at h)) ?_
 all_goals
  rintro _ w5 ⟨N,rfl,h5,eC,cu,k5⟩;have dE:=bT.trans (k5.mono (T:=[ch]) (by simp));conv=>whnf
  repeat ((first|refine Br.f ?_|refine Ru.ai ?_|refine CW.s ?_);conv=>whnf)
  refine Ru.of (xB w5) ?_;have ry:=Row.made w5 3 (.int .i64 0) 12;have k6:Aa [] w5 (w5.alloc (.cells (madeCells #[.int .i64 0] 12) 3)):=(Aa.refl _ _).alloc _;have h6:=h5.aj k6;have fX:=dE.trans (k6.mono (T:=[ch]) (by simp));have lN:N.N.m<w5.heap.size/\N.N.c<w5.heap.size/\N.N.f<w5.heap.size/\N.N.cd<w5.heap.size/\N.N.g<w5.heap.size/\N.N.h<w5.heap.size:=by
   obtain⟨C5,M5,q5⟩:=h5.qC;exact M5.lt
  have qm:∀y,y<w5.heap.size->y∉[w5.heap.size]:=fun y hy hm=>by
   rw[List.mem_singleton.1 hm] at hy;omega
  have aiM:∀x,x∈N.all->x<w5.heap.size:=fun x hx=>by
   rcases List.mem_append.1 hx with hm|hm
   ·exact h5.core.lt (List.mem_append_left _ hm)
   ·exact h5.gT _ hm
  have hgw:w.heap.size<=w5.heap.size:=dE.size;have hgN:w5.heap.size∉N.all:=fun hx=>by have:=aiM _ hx;omega
  have abf:∀x,x∈N.all->x=ch\/w.heap.size<=x:=fun x hx=>by
   rcases cu x hx with h|h
   ·exact .inl h
   ·exact .inr (Nat.le_trans bT.size h)
  clear h5 k5 k6 dE xC r74 yH H4 bT cu aiM;generalize w5.alloc _=w6 at *;generalize w5.heap.size=g at *;conv=>whnf
  repeat (refine CW.s ?_;conv=>whnf)
  refine CW.loop (ι:=Nat) (fun i w'=>i<=12/\On w' N (nwK k _) (nB P 96) b 0 none 0/\Row w' g 3 12 (fun j=>if j<i then .int .i64 8 else .int .i64 0)/\Aa [ch] w w')
   (fun i=>[(9,.pointer (some ⟨N.k,0,none⟩)),(10,.slice (some ⟨g,0,none⟩) 12 12),(44,.slice (some ⟨g,0,none⟩) 12 12),(45,.int .i64 12),(46,.int .i64 i)]) (fun i=>12-i) 0 ah ⟨by omega,h6,ry.congr (fun j hj=>by simp),fX⟩ ⟨rfl,rfl,rfl,rfl,rfl,trivial⟩ ?_;clear h6 ry fX;rintro i wr ⟨hi,hr,rg,kk⟩;rcases Nat.lt_or_ge i 12 with av|xP
  ·conv=>whnf
   repeat ((first|(refine Ix.of i (by omega) (by omega) ?_)|refine Br.y ?_|refine CW.s ?_);conv=>whnf)
   rw[show 0+i=i by omega];refine Sd.rowAt rg i (by omega) (by omega) rfl ?_;intro w7 rg7 k7;have h7:=hr.aly k7 hgN (qm N.N.m lN.1) (qm N.N.c lN.2.1) (qm N.N.f lN.2.2.1) (qm N.N.cd lN.2.2.2.1) (qm N.N.g lN.2.2.2.2.1) (qm N.N.h lN.2.2.2.2.2);conv=>whnf
   repeat (refine Ar.la ?_;conv=>whnf)
   refine⟨i+1,⟨av,h7,rg7.congr (fun j hj=>?_),kk.then k7 (fun x hx=>.inr (by rw[List.mem_singleton.1 hx];exact hgw))⟩,⟨rfl,rfl,rfl,rfl,vi (by omega),trivial⟩,by simp only;omega⟩;unfold put;by_cases vd:j=i
   ·rw[if_pos vd,if_pos (by omega)]
   ·rw[if_neg vd];simp only;by_cases mK:j<i
    ·rw[if_pos mK,if_pos (by omega)]
    ·rw[if_neg mK,if_neg (by omega)]
  ·obtain rfl:i=12:=by omega
   have rg:Row wr g 3 12 (fun _=>.int .i64 8):=rg.congr (fun j hj=>by simp only[if_pos hj]);conv=>whnf
   repeat ((first|refine Br.f ?_|refine CW.s ?_);conv=>whnf)
   refine Ca.of (ad3 hr hB rg hgN) ?_;rintro _ w7 ⟨rfl,h7,k7⟩;conv=>whnf
   repeat (refine CW.s ?_;conv=>whnf)
   refine Ca.of (aiJ h7 afv jj hwo hCl) ?_;rintro _ w8 ⟨k8,hr8⟩;have pK:Aa [ch] w w8:=kk.then (k7.trans k8) (fun x hx=>by
    rcases abf x hx with h|h
    ·exact .inl (List.mem_singleton.2 h)
    ·exact .inr h)
   rcases hr8 with⟨f8,rfl,n8,h8⟩|⟨y,hy,jy,rfl,n8,C8,M8,D8⟩
   ·conv=>whnf
    repeat ((first|refine Br.f ?_|refine Ru.ai ?_);conv=>whnf)
    exact⟨rfl,pK,.inl ⟨f8,N,n8,rfl,eC,h8,abf⟩⟩
   ·conv=>whnf
    repeat ((first|refine Br.t ?_|refine Ru.n1 ?_);conv=>whnf)
    exact⟨rfl,pK,.inr ⟨y,hy,jy,rfl,C8,by rw[<-eC];exact M8.dz,D8⟩⟩
end
section
open Go.RowKit
def dvF(ch:Nat)(core:Option Addr)(j:Nat):Value:=if j=0 then ptr ch else .pointer core
def Ak(w:World)(d ch:Nat)(core:Option Addr):Prop:=Row w d 87 2 (dvF ch core)
theorem jC(s:Nat)(hs:s<24)(w:World):Spec Tryz.prog 42 #[.int .i64 s] w fun v w'=>v=.bool true/\w=w':=by
 refine spec_of_wpE (T:=tt) ah func42 rfl (by decide +kernel) ntmps42 (by simp) ?_;conv=>whnf
 repeat ((first|refine Br.t ?_|refine Pk.t ?_);conv=>whnf)
 exact⟨rfl,vb (decide_eq_true (by omega)),rfl⟩
theorem dU(w:World)(x:Operand)(a:Addr):(do eqGuard .eql 85 x (.const (.pointer none)) (.pointer (some a)) (.pointer none);binOp .eql 85 (.pointer (some a)) (.pointer none):Sem Value).run Tryz.prog w=.ok (.bool false) w:=by kernel_rfl
theorem xD(w:World)(x:Operand):(do eqGuard .neq 85 x (.const (.pointer none)) (.pointer none) (.pointer none);binOp .neq 85 (.pointer none) (.pointer none):Sem Value).run Tryz.prog w=.ok (.bool false) w:=by kernel_rfl
theorem afx(ch:Nat)(w:World):(Instr.build 87 #[(0,.pointer (some ⟨ch,0,none⟩))]).run Tryz.prog w=.ok (agg 2 (dvF ch none)) w:=by kernel_rfl
theorem ad9(ch:Nat)(w:World):Spec Tryz.prog 31 #[.pointer (some ⟨ch,0,none⟩)] w fun v w'=>∃d,v=.tuple #[.pointer (some ⟨d,0,none⟩),ak 0]/\d=w.heap.size/\Ak w' d ch none/\Aa [] w w':=by
 refine spec_of_wpE (T:=tt) ah func31 rfl (by decide +kernel) ntmps31 (by simp) ?_;conv=>whnf
 repeat (refine CW.s ?_;conv=>whnf)
 refine Ru.of (mB w _ _) ?_;conv=>whnf
 repeat (refine Br.f ?_;conv=>whnf)
 refine Ru.of (afx ch w) ?_;conv=>whnf
 refine Ru.dt ?_;intro d w1 hd hs r k;conv=>whnf
 exact⟨rfl,d,rfl,hd,r,k⟩
def Af(w:World)(own:List Nat)(d ch:Nat)(K:KS)(P:CS)(b:Option Nat):Prop :=
 ∃N X c n,own=d::(N.all++aR X)/\Ak w d ch (some ⟨N.k,0,none⟩)/\On w N K P b n X c/\N.N.c=ch/\K.qu=[]
def Be(w:World)(d ch:Nat)(Q:CS):Prop:=Ak w d ch none/\∃C,Ab w ch C/\AT C Q
def Am(own:List Nat)(d ch:Nat)(K':KS)(P':CS)(b:Option Nat)(tr:List CS)(w w':World)(ok dead:Prop):Prop :=
 Aa own w w'/\Ag b tr (fun b'=>ok/\∃bP,Af w' bP d ch K' P' b'/\∀x,x∈bP->x∈own\/w.heap.size<=x) (fun Q=>dead/\Be w' d ch Q)
structure A7(K:KS)(P:CS):Prop where
 hb:Hl.HB K.F
 cur:K.cur<96
 uA:∀o,o<25->K.at_ o<=96
 ana:Cj K P
theorem pR(ch:Nat)(a:Option Addr)(a':Option Addr)(j:Nat)(hj:j<2):put (dvF ch a) 1 (.pointer a') j=dvF ch a' j:=by
 unfold put dvF;have:j=0\/j=1:=by omega
 rcases this with rfl|rfl<;>rfl
section
variable{w w':World}{N:Cr}{K:KS}{X:Option Addr}{c d ch:Nat}{P:CS}{b:Option Nat}{n:Int}
theorem Ak.ne(r:Ak w d ch (some ⟨N.k,0,none⟩))(h:On w N K P b n X c):d∉N.all++aR X:=fun hm=>by
 obtain⟨C,M,q⟩:=h.qC;obtain⟨F,rg⟩:=M.jf.iB.fs.ty;rcases List.mem_append.1 hm with hm|hm
 ·simp only[Cr.all,Cr.own,Pt.l,List.cons_append,List.nil_append,List.mem_cons,List.not_mem_nil,or_false] at hm;rcases hm with e|e|e|e|e|e|e|e|e
  ·exact Row.ed r h.core.row (by decide) e
  ·exact Row.ed r h.core.aY (by decide) e
  ·exact Row.ed r h.core.map (by decide) e
  ·exact Row.ed r h.core.front (by decide) e
  ·exact Row.ed r h.core.aL (by decide) e
  ·exact Row.ed r h.core.pat (by decide) e
  ·exact Row.ed r M.row (by decide) e
  ·exact Row.ed r M.dz (by decide) e
  ·exact Row.ed r rg (by decide) e
 ·exact h.core.qu.aP r (by decide) hm
theorem afy(r:Ak w d ch (some ⟨N.k,0,none⟩))(h:On w N K P b n X c)(eC:N.N.c=ch)(hq:K.qu=[])(T:A7 K P){K':KS}{P':CS}{tr:List CS}(H:Av K P K' P' tr)(gW:K'.qu=[]) :
  Spec Tryz.prog 43 #[.pointer (some ⟨d,0,none⟩),ak 0] w fun v w'=>Am (d::(N.all++aR X)) d ch K' P' b tr w w' (v=ak 0) (v=ak 7):=by
 have ct:=r.ne h;refine spec_of_wpE (T:=tt) ah func43 rfl (by decide +kernel) ntmps43 (by simp) ?_;conv=>whnf
 repeat (refine CW.s ?_;conv=>whnf)
 refine Ca.of (aW 0 7 (by decide) _) ?_;rintro _ _ ⟨rfl,rfl⟩;have c1:w.cell? ⟨d,1,none⟩=some (.pointer (some ⟨N.k,0,none⟩)):=Row.cell r 1 (by omega);conv=>whnf
 repeat ((first|(refine Ld.of c1 ?_)|refine Br.t ?_);conv=>whnf)
 refine Ca.of (akV h hq T.hb T.cur T.uA T.ana H) ?_;rintro _ w1 ⟨k1,hr1⟩;have r1:Ak w1 d ch (some ⟨N.k,0,none⟩):=Row.ab r k1 ct;have kk:Aa (d::(N.all++aR X)) w w1:=k1.mono (fun x hx=>List.mem_cons_of_mem _ hx);rcases hr1 with⟨f1,rfl,Y,e,n1,h1,hY⟩|⟨y,hy,jy,rfl,n1,M1⟩
 ·conv=>whnf
  repeat ((first|refine Br.f ?_|refine Ru.ai ?_|refine CW.s ?_);conv=>whnf)
  refine Ca.of (aW 0 7 (by decide) _) ?_;rintro _ _ ⟨rfl,rfl⟩;conv=>whnf
  repeat (refine Br.f ?_;conv=>whnf)
  refine⟨rfl,kk,.inl ⟨f1,rfl,_,⟨N,Y,e,n1,rfl,r1,h1,eC,gW⟩,fun x hx=>?_⟩⟩;rcases List.mem_cons.1 hx with rfl|hx
  ·exact .inl (List.mem_cons_self ..)
  ·rcases List.mem_append.1 hx with hx|hx
   ·exact .inl (List.mem_cons_of_mem _ (List.mem_append_left _ hx))
   ·rcases hY x hx with h|h
    ·exact .inl (List.mem_cons_of_mem _ (List.mem_append_right _ h))
    ·exact .inr h
 ·conv=>whnf
  repeat ((first|refine Br.t ?_|refine Ru.n1 ?_|refine CW.s ?_);conv=>whnf)
  refine Ca.of (aW 7 7 (by decide) _) ?_;rintro _ _ ⟨rfl,rfl⟩;conv=>whnf
  repeat (refine Br.t ?_;conv=>whnf)
  refine Sd.rowAt r1 1 (by omega) (by omega) rfl ?_;intro w2 r2 k2;have r2:Ak w2 d ch none:=r2.congr (fun j hj=>pR ch _ _ j hj);conv=>whnf
  obtain⟨C1,M1,D1⟩:=M1;have hcd:N.N.c∉[d]:=fun hm=>ct (by
   rw[<-List.mem_singleton.1 hm];exact List.mem_append_left _ (iV (by simp[Pt.l])))
  exact⟨rfl,kk.trans (k2.mono (fun x hx=>by rw[List.mem_singleton.1 hx];exact List.mem_cons_self ..)),.inr ⟨y,hy,jy,rfl,r2,C1,by rw[<-eC];exact M1.dz.ab k2 hcd,D1⟩⟩
theorem qO(r:Ak w d ch (some ⟨N.k,0,none⟩)){Q:CS}(h:AU w N.N Q n)(eC:N.N.c=ch) :
  Spec Tryz.prog 43 #[.pointer (some ⟨d,0,none⟩),ak 7] w fun v w'=>v=ak 7/\Be w' d ch Q/\Aa [d] w w':=by
 refine spec_of_wpE (T:=tt) ah func43 rfl (by decide +kernel) ntmps43 (by simp) ?_;conv=>whnf
 repeat (refine CW.s ?_;conv=>whnf)
 refine Ca.of (aW 7 7 (by decide) _) ?_;rintro _ _ ⟨rfl,rfl⟩;conv=>whnf
 repeat ((first|refine Br.f ?_|refine CW.s ?_);conv=>whnf)
 refine Ca.of (aW 7 7 (by decide) _) ?_;rintro _ _ ⟨rfl,rfl⟩;conv=>whnf
 repeat (refine Br.t ?_;conv=>whnf)
 refine Sd.rowAt r 1 (by omega) (by omega) rfl ?_;intro w2 r2 k2;have r2:Ak w2 d ch none:=r2.congr (fun j hj=>pR ch _ _ j hj);conv=>whnf
 obtain⟨C1,M1,D1⟩:=h;have hcd:N.N.c∉[d]:=fun hm=>by
  have:=Row.ed M1.dz r (by decide);exact this (List.mem_singleton.1 hm)
 exact⟨rfl,rfl,⟨r2,C1,by rw[<-eC];exact M1.dz.ab k2 hcd,D1⟩,k2⟩
theorem Am.of{K1:KS}{P1:CS}{t1:List CS}{K':KS}{P':CS}{t2:List CS}{w1:World}
  (r:Ak w d ch (some ⟨N.k,0,none⟩)) (h:On w N K P b n X c) (eC:N.N.c=ch) (hq:K1.qu=[]) (T:A7 K1 P1) (H:Av K1 P1 K' P' t2) (gW:K'.qu=[]) {e:Value} (hE:AD N X c K1 P1 b t1 w w1 (e=ak 0) (e=ak 7)) :
  Spec Tryz.prog 43 #[.pointer (some ⟨d,0,none⟩),e] w1 fun v w'=>Aa (d::(N.all++aR X)) w1 w'/\Am (d::(N.all++aR X)) d ch K' P' b (t1++t2) w w' (v=ak 0) (v=ak 7):=by
 obtain⟨k1,hr1⟩:=hE;have ct:=r.ne h;have r1:Ak w1 d ch (some ⟨N.k,0,none⟩):=Row.ab r k1 (fun hm=>ct (List.mem_append_left _ hm));have zB:Aa (d::(N.all++aR X)) w w1:=k1.mono (fun x hx=>List.mem_cons_of_mem _ (List.mem_append_left _ hx));rcases hr1 with⟨f1,rfl,n1,h1⟩|⟨y,hy,jy,rfl,n1,M1⟩
 ·refine(afy r1 h1 eC hq T H gW).mono ?_;rintro v w2 ⟨k2,sB⟩;refine⟨k2,zB.trans k2,Ag.then f1 (sB.mono (fun b' ⟨a1,bP,a2,a3⟩=>⟨a1,bP,a2,fun x hx=>?_⟩) (fun _ h=>h))⟩;rcases a3 x hx with h|h
  ·exact .inl h
  ·exact .inr (Nat.le_trans k1.size h)
 ·refine(qO r1 M1 eC).mono ?_;rintro v w2 ⟨rfl,a1,k2⟩;have k2:=k2.mono (T:=d::(N.all++aR X)) (fun x hx=>by rw[List.mem_singleton.1 hx];exact List.mem_cons_self ..);exact⟨k2,zB.trans k2,Ag.gone hy jy ⟨rfl,a1⟩⟩
theorem afz{own:List Nat}(D:Af w own d ch K P b){s e:Nat}(hs:s<24){A:Option Addr}{f:Nat->Nat}(hA:AH w A 160 f)(he:160<=e){K1:KS}{P1:CS}{t1:List CS}(L:AO s (dO f) K P K1 P1 t1)
  (hq:(cy K1 s).qu=[]) (T:A7 (cy K1 s) (jr K1 P1 s (dO f))) {K':KS} {P':CS} {t2:List CS} (H:Av (cy K1 s) (jr K1 P1 s (dO f)) K' P' t2) (gW:K'.qu=[]) :
  Spec Tryz.prog 45 #[.pointer (some ⟨d,0,none⟩),.int .i64 s,.slice A 160 e] w fun v w'=>Am own d ch K' P' b (za K1 P1 t1++t2) w w' (v=ak 0) (v=ak 7):=by
 obtain⟨N,X,c,n,rfl,r,h,eC,p7⟩:=D;have c1:w.cell? ⟨d,1,none⟩=some (.pointer (some ⟨N.k,0,none⟩)):=Row.cell r 1 (by omega);refine spec_of_wpE (T:=tt) ah func45 rfl (by decide +kernel) ntmps45 (by simp) ?_;conv=>whnf
 repeat ((first|(refine Ld.of c1 ?_)|refine CW.s ?_);conv=>whnf)
 refine Ru.of (dU w _ _) ?_;conv=>whnf
 repeat (refine Br.f ?_;conv=>whnf)
 refine Ca.of (jC s hs w) ?_;rintro _ _ ⟨rfl,rfl⟩;conv=>whnf
 repeat ((first|(refine Ld.of c1 ?_)|refine Br.f ?_|refine Pk.f ?_);conv=>whnf)
 refine Ca.of (amZ h hs hA he L) ?_;intro u w1 hu;conv=>whnf
 refine Ca.of (Am.of r h eC hq T H gW hu) ?_;rintro v w2 ⟨-,hv⟩;conv=>whnf
 exact⟨rfl,hv⟩
theorem aiN{own:List Nat}(D:Af w own d ch K P b){s:Nat}(hs:s<24)(h0:K.at_ s≠0)(h96:K.at_ s<=96){K1:KS}{P1:CS}{t1:List CS}(L:AO 24 (dp s (K.en s).seq) K P K1 P1 t1)(ht:(vQ (bS K1) s (K.en s).seq K1.next).told)(h1:(cy K1 24).at_ s≠0)(h2:(cy K1 24).at_ s<=96)
  (hq:(zf (sH (cy K1 24) s (K.en s).seq) s).qu=[]) (T:A7 (zf (sH (cy K1 24) s (K.en s).seq) s) (jr K1 P1 24 (dp s (K.en s).seq))) {K':KS} {P':CS} {t2:List CS} (H:Av (zf (sH (cy K1 24) s (K.en s).seq) s) (jr K1 P1 24 (dp s (K.en s).seq)) K' P' t2) (gW:K'.qu=[]) :
  Spec Tryz.prog 17 #[.pointer (some ⟨d,0,none⟩),.int .i64 s] w fun v w'=>Am own d ch K' P' b (za K1 P1 t1++t2) w w' (v=ak 0) (v=ak 7):=by
 obtain⟨N,X,c,n,rfl,r,h,eC,p7⟩:=D;have c1:w.cell? ⟨d,1,none⟩=some (.pointer (some ⟨N.k,0,none⟩)):=Row.cell r 1 (by omega);refine spec_of_wpE (T:=tt) ah func17 rfl (by decide +kernel) ntmps17 (by simp) ?_;conv=>whnf
 repeat ((first|(refine Ld.of c1 ?_)|refine CW.s ?_);conv=>whnf)
 refine Ru.of (dU w _ _) ?_;conv=>whnf
 repeat (refine Br.f ?_;conv=>whnf)
 refine Ca.of (jC s hs w) ?_;rintro _ _ ⟨rfl,rfl⟩;conv=>whnf
 repeat ((first|(refine Ld.of c1 ?_)|refine Br.f ?_);conv=>whnf)
 refine Ca.of (akW h hs h0 h96 L ht h1 h2) ?_;intro u w1 hu;conv=>whnf
 refine Ca.of (Am.of r h eC hq T H gW hu) ?_;rintro v w2 ⟨-,hv⟩;conv=>whnf
 exact⟨rfl,hv⟩
theorem afA{own:List Nat}(D:Af w own d ch K P b){s:Nat}(hs:s<24)(h0:K.at_ s=0)(T:A7 K P){K':KS}{P':CS}{t2:List CS}(H:Av K P K' P' t2)(gW:K'.qu=[]) :
  Spec Tryz.prog 17 #[.pointer (some ⟨d,0,none⟩),.int .i64 s] w fun v w'=>Am own d ch K' P' b t2 w w' (v=ak 0) (v=ak 7):=by
 obtain⟨N,X,c,n,rfl,r,h,eC,p7⟩:=D;have c1:w.cell? ⟨d,1,none⟩=some (.pointer (some ⟨N.k,0,none⟩)):=Row.cell r 1 (by omega);refine spec_of_wpE (T:=tt) ah func17 rfl (by decide +kernel) ntmps17 (by simp) ?_;conv=>whnf
 repeat ((first|(refine Ld.of c1 ?_)|refine CW.s ?_);conv=>whnf)
 refine Ru.of (dU w _ _) ?_;conv=>whnf
 repeat (refine Br.f ?_;conv=>whnf)
 refine Ca.of (jC s hs w) ?_;rintro _ _ ⟨rfl,rfl⟩;conv=>whnf
 repeat ((first|(refine Ld.of c1 ?_)|refine Br.f ?_);conv=>whnf)
 refine Ca.of (xv h hs h0) ?_;intro u w1 hu;conv=>whnf
 refine Ca.of (Am.of (t1:=[]) r h eC p7 T H gW hu) ?_;rintro v w2 ⟨-,hv⟩;conv=>whnf
 exact⟨rfl,hv⟩
def Bl(own:List Nat)(d ch:Nat)(K':KS)(P':CS)(b:Option Nat)(tr:List CS)(f:Nat->Nat)(w:World)(v:Value)(w':World):Prop :=
 Am own d ch K' P' b tr w w' (∃Y e,v=.tuple #[.slice Y 160 e,ak 0]/\Ly w' 5 1 Y 160 e (fun j=>.int .u8 (f j:Nat))/\∀x,x∈aR Y->w.heap.size<=x) (v=.tuple #[.slice none 0 0,ak 7])
theorem Af.lp{own:List Nat}(D:Af w own d ch K P b):∀x,x∈own->x<w.heap.size:=by
 obtain⟨N,X,c,n,rfl,r,h,eC,p7⟩:=D;intro x hx;rcases List.mem_cons.1 hx with rfl|hx
 ·exact Row.lt r
 ·rcases List.mem_append.1 hx with hx|hx
  ·rcases List.mem_append.1 hx with hx|hx
   ·exact h.core.lt (List.mem_append_left _ hx)
   ·exact h.gT _ hx
  ·exact h.core.lt (List.mem_append_right _ hx)
theorem afB{own:List Nat}(D:Af w own d ch K P b){s:Nat}(hs:s<24)(h0:K.at_ s=0)(T:A7 K P){K':KS}{P':CS}{t2:List CS}(H:Av K P K' P' t2)(gW:K'.qu=[]) :
  Spec Tryz.prog 22 #[.pointer (some ⟨d,0,none⟩),.int .i64 s] w fun v w'=>Bl own d ch K' P' b t2 (fun _=>0) w v w':=by
 have av:=D.lp;obtain⟨N,X,c,n,rfl,r,h,eC,p7⟩:=D;have c1:w.cell? ⟨d,1,none⟩=some (.pointer (some ⟨N.k,0,none⟩)):=Row.cell r 1 (by omega);refine spec_of_wpE (T:=tt) ah func22 rfl (by decide +kernel) ntmps22 (by simp) ?_;conv=>whnf
 repeat ((first|(refine Ld.of c1 ?_)|refine CW.s ?_);conv=>whnf)
 refine Ru.of (dU w _ _) ?_;conv=>whnf
 repeat (refine Br.f ?_;conv=>whnf)
 refine Ca.of (jC s hs w) ?_;rintro _ _ ⟨rfl,rfl⟩;conv=>whnf
 repeat ((first|(refine Ld.of c1 ?_)|refine Br.f ?_);conv=>whnf)
 refine Ca.of (xq h hs h0) ?_;rintro _ w1 ⟨Y,e,rfl,hY,k1⟩;conv=>whnf
 repeat (refine CW.s ?_;conv=>whnf)
 refine Ca.of (Am.of (t1:=[]) r h eC p7 T H gW (e:=ak 0) (w1:=w1) ⟨Aa.eA k1,Ag.nil ⟨rfl,n,h.aj k1⟩⟩) ?_;rintro v w2 ⟨vG,k2,sB⟩;have hY2:Ly w2 5 1 Y 160 e (fun _=>.int .u8 ((0:Nat):Int)):=hY.ly.ab vG (fun x hx hm=>by
  have:=hY.new x hx;have:=av x hm;omega)
 rcases sB with⟨f2,rfl,h2⟩|⟨y,hy,jy,rfl,h2⟩
 ·conv=>whnf
  repeat ((first|refine Br.f ?_|refine Ru.ai ?_);conv=>whnf)
  exact⟨rfl,k2,.inl ⟨f2,⟨Y,e,rfl,hY2,hY.new⟩,h2⟩⟩
 ·conv=>whnf
  repeat ((first|refine Br.t ?_|refine Ru.n1 ?_);conv=>whnf)
  exact⟨rfl,k2,.inr ⟨y,hy,jy,rfl,h2⟩⟩
theorem aiO{own:List Nat}(D:Af w own d ch K P b){s:Nat}(hs:s<24)(B:Hl.HB K.F)(h0:K.at_ s≠0)(h96:K.at_ s<=96)(hl:K.ow (K.at_ s-1)<=25){t:Tg}{F:Nat->Nat}(hp:P.pg (K.at_ s-1)=.full t F)(vM:t.of=s)(hen:K.en s=⟨t.seq,t.copy,false⟩)(hdm:P.dm (K.at_ s-1)<2)
  (T:A7 (pG K (K.at_ s-1)) (P.bL (K.at_ s-1))) {K':KS} {P':CS} {t2:List CS} (H:Av (pG K (K.at_ s-1)) (P.bL (K.at_ s-1)) K' P' t2) (gW:K'.qu=[]) :
  Spec Tryz.prog 22 #[.pointer (some ⟨d,0,none⟩),.int .i64 s] w fun v w'=>Bl own d ch K' P' b t2 F w v w':=by
 have av:=D.lp;obtain⟨N,X,c,n,rfl,r,h,eC,p7⟩:=D;have c1:w.cell? ⟨d,1,none⟩=some (.pointer (some ⟨N.k,0,none⟩)):=Row.cell r 1 (by omega);refine spec_of_wpE (T:=tt) ah func22 rfl (by decide +kernel) ntmps22 (by simp) ?_;conv=>whnf
 repeat ((first|(refine Ld.of c1 ?_)|refine CW.s ?_);conv=>whnf)
 refine Ru.of (dU w _ _) ?_;conv=>whnf
 repeat (refine Br.f ?_;conv=>whnf)
 refine Ca.of (jC s hs w) ?_;rintro _ _ ⟨rfl,rfl⟩;conv=>whnf
 repeat ((first|(refine Ld.of c1 ?_)|refine Br.f ?_);conv=>whnf)
 refine Ca.of (akU h B hs h0 h96 hl hp vM hen hdm) ?_;rintro _ w1 ⟨Y,e,rfl,hY,h1,k1⟩;conv=>whnf
 repeat (refine CW.s ?_;conv=>whnf)
 refine Ca.of (Am.of (t1:=[]) r h eC (K1:=pG K (K.at_ s-1)) p7 T H gW (e:=ak 0) (w1:=w1) ⟨k1,Ag.nil ⟨rfl,_,h1⟩⟩) ?_;rintro v w2 ⟨vG,k2,sB⟩;have hY2:Ly w2 5 1 Y 160 e (fun j=>.int .u8 (F j:Nat)):=hY.ly.ab vG (fun x hx hm=>by
  have:=hY.new x hx;have:=av x hm;omega)
 rcases sB with⟨f2,rfl,h2⟩|⟨y,hy,jy,rfl,h2⟩
 ·conv=>whnf
  repeat ((first|refine Br.f ?_|refine Ru.ai ?_);conv=>whnf)
  exact⟨rfl,k2,.inl ⟨f2,⟨Y,e,rfl,hY2,hY.new⟩,h2⟩⟩
 ·conv=>whnf
  repeat ((first|refine Br.t ?_|refine Ru.n1 ?_);conv=>whnf)
  exact⟨rfl,k2,.inr ⟨y,hy,jy,rfl,h2⟩⟩
end
def CL(d ch:Nat)(K':KS)(P':CS)(b:Option Nat)(tr:List CS)(w:World)(v:Value)(w':World):Prop :=
 Aa [d,ch] w w'/\Ag b tr (fun b'=>v=ak 0/\∃bP,Af w' bP d ch K' P' b'/\∀x,x∈bP->x=d\/x=ch\/w.heap.size<=x) (fun Q=>v=ak 7/\Be w' d ch Q)
theorem afC{w:World}{d ch:Nat}{C:Chip}{P:CS}{b:Option Nat}(r:Ak w d ch none)(H:Ab w ch C)(hA:Abs C P)(hl:C.left b)(hc:P.calm){K':KS}{P':CS}{tr:List CS}(M:AV P K' P' tr)(hq:K'.qu=[]) :
  Spec Tryz.prog 32 #[.pointer (some ⟨d,0,none⟩)] w (CL d ch K' P' b tr w):=by
 have c0:w.cell? ⟨d,0,none⟩=some (.pointer (some ⟨ch,0,none⟩)):=Row.cell r 0 (by omega);have c1:w.cell? ⟨d,1,none⟩=some (.pointer none):=Row.cell r 1 (by omega);have hdc:d≠ch:=Row.ed r H (by decide);have hdl:d<w.heap.size:=Row.lt r;refine spec_of_wpE (T:=tt) ah func32 rfl (by decide +kernel) ntmps32 (by simp) ?_;conv=>whnf
 repeat ((first|(refine Ld.of c1 ?_)|refine CW.s ?_);conv=>whnf)
 refine Ru.of (xD w _) ?_;conv=>whnf
 repeat ((first|(refine Ld.of c0 ?_)|refine Br.f ?_);conv=>whnf)
 refine Ca.of (aiK H hA hl hc M) ?_;rintro _ w1 ⟨k1,hr1⟩;have r1:Ak w1 d ch none:=Row.ab r k1 (by simpa using hdc);have kk:Aa [d,ch] w w1:=k1.mono (by simp);rcases hr1 with⟨f1,N,n1,rfl,eC,h1,cu⟩|⟨y,hy,jy,rfl,C1,H1,D1⟩
 ·conv=>whnf
  repeat ((first|refine Br.f ?_|refine Ru.ai ?_|refine CW.s ?_);conv=>whnf)
  refine Sd.rowAt r1 1 (by omega) (by omega) rfl ?_;intro w2 r2 k2;have r2:Ak w2 d ch (some ⟨N.k,0,none⟩):=r2.congr (fun j hj=>pR ch _ _ j hj);have h2:=h1.gr r1 (by decide) k2;conv=>whnf
  refine⟨rfl,kk.trans (k2.mono (by simp)),.inl ⟨f1,rfl,_,⟨N,none,0,n1,rfl,r2,h2,eC,hq⟩,fun x hx=>?_⟩⟩;rcases List.mem_cons.1 hx with rfl|hx
  ·exact .inl rfl
  ·rcases List.mem_append.1 hx with hx|hx
   ·exact .inr (cu x hx)
   ·cases hx
 ·conv=>whnf
  repeat ((first|refine Br.t ?_|refine Ru.n1 ?_|refine CW.s ?_);conv=>whnf)
  exact⟨rfl,kk,.inr ⟨y,hy,jy,rfl,r1,C1,H1,D1⟩⟩
theorem Inv.tdh{K:KS}{P:CS}{k:Cp}{m:Int}(I:Inv K P k m):A7 K P:=⟨I.zh.1,I.zh.2.1,I.zh.2.2.1,I.zh.2.2.2⟩
inductive Act (K:KS) (P:CS):KS->CS->Prop
 |idle:Act K P K P
 |read {o:Nat}:o<25->K.at_ o≠0->Act K P (pG K (K.at_ o-1)) (P.bL (K.at_ o-1))
 |put {s:Nat} {f:Nat->Nat} {K1:KS} {P1:CS} {t1:List CS}:s<24->AO s (dO f) K P K1 P1 t1->Act K P (cy K1 s) (jr K1 P1 s (dO f))
 |trim {s:Nat} {q:Int} {K1:KS} {P1:CS} {t1:List CS}:s<24->AO 24 (dp s q) K P K1 P1 t1->Act K P (zf (sH (cy K1 24) s q) s) (jr K1 P1 24 (dp s q))
inductive Dj (K:KS) (P:CS) (K':KS) (P':CS):Prop
 |mk {k k1:Cp} {m:Int} {K1:KS} {P1:CS} {tr:List CS}:Inv K P k m->m+1<1099511627775->Act K P K1 P1->Inv K1 P1 k1 (m+1)->Av K1 P1 K' P' tr->Dj K P K' P'
structure A0(K:KS)(P:CS)(m:Int)(a a':Nat->Nat->Nat)(K':KS)(P':CS)(k':Cp)(t1 t2:List CS):Prop where
 inv:Inv K' P' k' (m+2)
 qu:K'.qu=[]
 next:K.next<=K'.next
 t1:∀T,T∈t1->Tl T (m+2) a
 t2:∀T,T∈t2->Tl T (m+2) a'
 sh:Ac P' K'.at_ a'
 st:0<=K.calls->K.calls<8->(0<=K'.calls/\K'.calls<8/\Hl.kU K'.F=false)/\∀J,Bc J->∀n,J n K P->J (n+130) K' P'
 did:Dj K P K' P'
theorem afD{K:KS}{P:CS}{k:Cp}{m:Int}(I:Inv K P k m)(hq:K.qu=[])(hm:m+1<1099511627775){s:Nat}(hs:s<24){f:Nat->Nat}(hf:∀j,f j<256):∃K' P' k' t1 t2,(∀a,Ac P K.at_ a->A0 K P m a (gU a s f) K' P' k' t1 t2) /\
  ∀ {w:World} {own:List Nat} {d ch:Nat} {b:Option Nat} {A:Option Addr} {e:Nat},Af w own d ch K P b->AH w A 160 f->160<=e->Spec Tryz.prog 45 #[.pointer (some ⟨d,0,none⟩),.int .i64 s,.slice A 160 e] w fun v w'=>Am own d ch K' P' b (t1++t2) w w' (v=ak 0) (v=ak 7):=by
 obtain⟨K1,P1,t1,L,I1,q1,s1,n1,_,c1,z1⟩:=akY I (by omega) hs hf;obtain⟨K',P',t2,k',T2,I2,q2,n2,z2,s2⟩:=uQ I1 hm;refine⟨K',P',k',za K1 P1 t1,t2,fun a lK=>?_,fun D hA he=>afz D hs hA he L (q1.trans hq) I1.tdh T2 q2⟩;obtain⟨b1,b2⟩:=s1 a lK;obtain⟨d1,d2⟩:=s2 _ b2;exact⟨I2.mono (by omega),q2,by omega,fun T hT=>(b1 T hT).tl (by omega),fun T hT=>(d1 T hT).mono (by omega),d2,fun h0 h8=>⟨(z2 (by rw[c1];omega) (by rw[c1];omega)).1,fun J S n j=>S.mono (by omega) ((z2 (by rw[c1];omega) (by rw[c1];omega)).2 J S (n+9) (z1 J S n j))⟩,.mk I hm (.put hs L) I1 T2⟩
theorem aiP{K:KS}{P:CS}{k:Cp}{m:Int}(I:Inv K P k m)(hq:K.qu=[])(hm:m+1<1099511627775){s:Nat}(hs:s<24):∃K' P' k' t1 t2,(∀a,Ac P K.at_ a->A0 K P m a (gU a s (fun _=>0)) K' P' k' t1 t2) /\
  ∀ {w:World} {own:List Nat} {d ch:Nat} {b:Option Nat},Af w own d ch K P b->Spec Tryz.prog 17 #[.pointer (some ⟨d,0,none⟩),.int .i64 s] w fun v w'=>Am own d ch K' P' b (t1++t2) w w' (v=ak 0) (v=ak 7):=by
 by_cases h0:K.at_ s=0
 ·obtain⟨K',P',t2,k',T2,I2,q2,n2,z2,s2⟩:=uQ I (by omega);refine⟨K',P',k',[],t2,fun a lK=>?_,fun D=>afA D hs h0 I.tdh T2 q2⟩;have aqv:Ac P K.at_ (gU a s (fun _=>0)):=fun o j ho hj=>by
   unfold gU;by_cases jh:o=s
   ·rw[if_pos jh,jh];unfold arr;rw[if_pos h0]
   ·rw[if_neg jh];exact lK o j ho hj
  obtain⟨d1,d2⟩:=s2 _ aqv;exact⟨I2.mono (by omega),q2,n2,(fun _ h=>nomatch h),fun T hT=>(d1 T hT).mono (by omega),d2,fun h0 h8=>⟨(z2 h0 h8).1,fun J S n j=>S.mono (by omega) ((z2 h0 h8).2 J S n j)⟩,.mk I hm .idle (I.mono (by omega)) T2⟩
 ·obtain⟨K1,P1,t1,k1,L,w1,h1,h2,I1,q1,s1,n1,_,c1,z1⟩:=aiu I (by omega) hs h0;obtain⟨K',P',t2,k',T2,I2,q2,n2,z2,s2⟩:=uQ I1 hm;refine⟨K',P',k',za K1 P1 t1,t2,fun a lK=>?_,fun D=>aiN D hs h0 (I.l.ok.eV.lt (by omega)) L w1 h1 h2 (q1.trans hq) I1.tdh T2 q2⟩;obtain⟨b1,b2⟩:=s1 a lK;obtain⟨d1,d2⟩:=s2 _ b2;exact⟨I2.mono (by omega),q2,by omega,fun T hT=>(b1 T hT).tl (by omega),fun T hT=>(d1 T hT).mono (by omega),d2,fun h0 h8=>⟨(z2 (by rw[c1];omega) (by rw[c1];omega)).1,fun J S n j=>S.mono (by omega) ((z2 (by rw[c1];omega) (by rw[c1];omega)).2 J S (n+9) (z1 J S n j))⟩,.mk I hm (.trim hs L) I1 T2⟩
theorem aiQ{K:KS}{P:CS}{k:Cp}{m:Int}(I:Inv K P k m)(hq:K.qu=[])(hm:m+1<1099511627775){s:Nat}(hs:s<24):∃K' P' k' t2 F,(∀a,Ac P K.at_ a->A0 K P m a a K' P' k' [] t2/\∀j,j<160->F j=a s j) /\
  ∀ {w:World} {own:List Nat} {d ch:Nat} {b:Option Nat},Af w own d ch K P b->Spec Tryz.prog 22 #[.pointer (some ⟨d,0,none⟩),.int .i64 s] w fun v w'=>Bl own d ch K' P' b t2 F w v w':=by
 by_cases h0:K.at_ s=0
 ·obtain⟨K',P',t2,k',T2,I2,q2,n2,z2,s2⟩:=uQ I (by omega);refine⟨K',P',k',t2,fun _=>0,fun a lK=>⟨?_,fun j hj=>?_⟩,fun D=>afB D hs h0 I.tdh T2 q2⟩
  ·obtain⟨d1,d2⟩:=s2 _ lK;exact⟨I2.mono (by omega),q2,n2,(fun _ h=>nomatch h),fun T hT=>(d1 T hT).mono (by omega),d2,fun h0 h8=>⟨(z2 h0 h8).1,fun J S n j=>S.mono (by omega) ((z2 h0 h8).2 J S n j)⟩,.mk I hm .idle (I.mono (by omega)) T2⟩
  ·have:=lK s j hs hj;unfold arr at this;rw[if_pos h0] at this;exact this
 ·obtain⟨hp,t,D,a2,a3,a4,a5,a6,a7,a8⟩:=I.l.cM (o:=s) (by omega) h0;have I1:=I.read hp;obtain⟨K',P',t2,k',T2,I2,q2,n2,z2,s2⟩:=uQ I1 (by omega);refine⟨K',P',k',t2,D,fun a lK=>⟨?_,fun j hj=>?_⟩,fun Dv=>aiO Dv hs I.h.hb h0 (I.l.ok.eV.lt (by omega)) (I.l.fh.mw.lo _ hp) a2 a4 a3 (by rw[I.l.ok.gd.calm.d];omega) I1.tdh T2 q2⟩
  ·obtain⟨d1,d2⟩:=s2 a (Ac.same (P':=P.bL (K.at_ s-1)) lK (fun o _ _=>rfl));exact⟨I2.mono (by omega),q2,n2,(fun _ h=>nomatch h),fun T hT=>(d1 T hT).mono (by omega),d2,fun h0 h8=>⟨(z2 h0 h8).1,fun J S n j=>S.mono (by omega) ((z2 h0 h8).2 J S (n+1) (S.rd hp j))⟩,.mk I hm (.read (by omega) h0) (I1.mono (by omega)) T2⟩
  ·have:=lK s j hs hj;unfold arr bj at this;rw[if_neg h0,a2] at this;exact this
def CS.may(P:CS)(B:Nat):Prop:=P.failed B=true\/0<P.before B\/P.aH B=true
def nf(x:Pg):Prop:=∀t D,x≠.full t D
structure Lk(P Q:CS)(p:Nat):Prop where
 pg:∀q,q≠p->Q.pg q=P.pg q
 may:∀B,Q.may B->P.may B
theorem Lk.refl(P:CS)(p:Nat):Lk P P p:=⟨fun _ _=>rfl,fun _ h=>h⟩
theorem Lk.trans{P Q R:CS}{p:Nat}(h:Lk P Q p)(g:Lk Q R p):Lk P R p:=⟨fun q hq=>(g.pg q hq).trans (h.pg q hq),fun B hB=>h.may B (g.may B hB)⟩
def Good(t:Tg)(p:Nat)(D:Nat->Nat):Prop:=t.ok/\t.place=p/\t.lost=false/\(∀j,D j<256)/\cq D=D
structure Pv(P:CS)(m:Int):Prop where
 val:P.val
 same:∀p q t t' D D',p<96->q<96->P.pg p=.full t D->P.pg q=.full t' D'->t.seq=t'.seq->t.of=t'.of/\D=D'
 sq:∀p t D,p<96->P.pg p=.full t D->t.seq<m
structure DI(P:CS)(k:Cp)(o p:Nat)(s:Int):Prop where
 lt:p<96
 bad:k.bad (p/8)=false
 is:∃t D,P.pg p=.full t D/\t.of=o/\t.seq=s
 max:∀q t D,q<96->P.pg q=.full t D->t.of=o->(o=24\/k.bad (q/8)=false)->t.seq<=s
structure Mt(P:CS)(k:Cp)(L:Nat->Nat)(m:Int):Prop where
 pv:Pv P m
 pt:L 24≠0
 data:bj P (L 24-1)=uC k
 told:k.told
 fl:∀o,o<24->k.fl o<m
 yes:∀o,o<25->L o≠0->∃s,DI P k o (L o-1) s/\floor k o<s
 no:∀o,o<24->L o=0->∀q t D,q<96->P.pg q=.full t D->t.of=o->k.bad (q/8)=false->t.seq<=k.fl o
theorem Mt.lt{P:CS}{k:Cp}{L:Nat->Nat}{m:Int}(h:Mt P k L m){o:Nat}(ho:o<25):L o<=96:=by
 by_cases e:L o=0
 ·omega
 ·obtain⟨s,T,_⟩:=h.yes o ho e;have:=T.lt;omega
theorem bI{P:CS}{p:Nat}{t:Tg}{D:Nat->Nat}(h:P.pg p=.full t D):bj P p=D:=by
 unfold bj;rw[h]
theorem dG{P P':CS}{p:Nat}(h:P'.pg p=P.pg p):bj P' p=bj P p:=by
 unfold bj;rw[h]
theorem Ac.abg{P P':CS}{L:Nat->Nat}{a:Nat->Nat->Nat}(h:Ac P L a)(h2:∀o,o<24->L o≠0->P'.pg (L o-1)=P.pg (L o-1)):Ac P' L a:=fun o j ho hj=>by
 rw[<-h o j ho hj];unfold arr;split
 ·rfl
 ·rename_i e
  rw[dG (h2 o ho e)]
theorem Mt.mono{P:CS}{k:Cp}{L:Nat->Nat}{m m':Int}(h:Mt P k L m)(hm:m<=m'):Mt P k L m' :=
 ⟨⟨h.pv.val,h.pv.same,fun p t D hp e=>Int.lt_of_lt_of_le (h.pv.sq p t D hp e) hm⟩,h.pt,h.data,h.told,fun o ho=>Int.lt_of_lt_of_le (h.fl o ho) hm,h.yes,h.no⟩
theorem Mt.ext{P P':CS}{k:Cp}{L:Nat->Nat}{m:Int}(h:Mt P k L m)
  (h1:∀q t D,q<96->P'.pg q=.full t D->P.pg q=.full t D\/(t.ok/\t.place=q/\t.lost=false)/\∃o t0,o<25/\L o≠0/\P.pg (L o-1)=.full t0 D/\t0.of=t.of/\t0.seq=t.seq)
  (h2:∀o,o<25->L o≠0->P'.pg (L o-1)=P.pg (L o-1)):Mt P' k L m:=by
 have old:∀q t D,q<96->P'.pg q=.full t D->∃q0 t0,q0<96/\P.pg q0=.full t0 D/\t0.of=t.of/\t0.seq=t.seq:=fun q t D hq e=>by
  rcases h1 q t D hq e with e|⟨_,o,t0,ho,hL,e,e1,e2⟩
  ·exact⟨q,t,hq,e,rfl,rfl⟩
  ·obtain⟨s,T,_⟩:=h.yes o ho hL;exact⟨_,t0,T.lt,e,e1,e2⟩
 have aqw:∀o q t D,q<96->P'.pg q=.full t D->t.of=(o:Nat)->(o=24\/k.bad (q/8)=false)->∃q0 t0,q0<96/\P.pg q0=.full t0 D/\t0.of=o/\t0.seq=t.seq/\(o=24\/k.bad (q0/8)=false):=fun o q t D hq e ho hb=>by
  rcases h1 q t D hq e with e|⟨_,i,t0,hi,hL,e,e1,e2⟩
  ·exact⟨q,t,hq,e,ho,rfl,hb⟩
  ·obtain⟨s,T,_⟩:=h.yes i hi hL;exact⟨_,t0,T.lt,e,e1.trans ho,e2,.inr T.bad⟩
 refine⟨⟨fun q t D hq e=>?_,fun p q t t' D D' hp hq e e' hs=>?_,fun q t D hq e=>?_⟩,h.pt,?_,h.told,h.fl,fun o ho hL=>?_,fun o ho hL q t D hq e js hb=>?_⟩
 ·obtain⟨q0,t0,qL,e0,_,_⟩:=old q t D hq e;obtain⟨v1,v2,v3,v4,v5⟩:=h.pv.val q0 t0 D qL e0;rcases h1 q t D hq e with e|⟨⟨g1,g2,g3⟩,_⟩
  ·exact h.pv.val q t D hq e
  ·exact⟨g1,g2,g3,v4,v5⟩
 ·obtain⟨p0,t0,hp0,e0,a1,a2⟩:=old p t D hp e;obtain⟨q0,u0,qL,f0,b1,b2⟩:=old q t' D' hq e';obtain⟨c1,c2⟩:=h.pv.same p0 q0 t0 u0 D D' hp0 qL e0 f0 (by omega);exact⟨by omega,c2⟩
 ·obtain⟨q0,t0,qL,e0,a1,a2⟩:=old q t D hq e;have:=h.pv.sq q0 t0 D qL e0;omega
 ·rw[<-h.data];exact dG (h2 24 (by omega) h.pt)
 ·obtain⟨s,T,hf⟩:=h.yes o ho hL;refine⟨s,⟨T.lt,T.bad,by rw[h2 o ho hL];exact T.is,fun q t D hq e js hb=>?_⟩,hf⟩;obtain⟨q0,t0,qL,e0,a1,a2,a3⟩:=aqw o q t D hq e js hb;have:=T.max q0 t0 D qL e0 a1 a3;omega
 ·rcases h1 q t D hq e with e|⟨_,i,t0,hi,hLi,e,e1,e2⟩
  ·exact h.no o ho hL q t D hq e js hb
  ·obtain⟨s,T,_⟩:=h.yes i hi hLi;obtain⟨t1,D1,f1,f2,_⟩:=T.is;rw[e] at f1
   cases f1
   have:i=o:=by omega
   rw[this] at hLi;exact absurd hL hLi
theorem Mt.aiR{P:CS}{k:Cp}{L L':Nat->Nat}{m:Int}(h:Mt P k L m)
  (h1:∀o,o<25->L o≠0->L' o≠0/\L' o-1<96/\k.bad ((L' o-1)/8)=false/\∃t t' D,P.pg (L o-1)=.full t D/\P.pg (L' o-1)=.full t' D/\t'.of=t.of/\t'.seq=t.seq)
  (h0:∀o,o<25->L o=0->L' o=0):Mt P k L' m/\∀a,Ac P L a->Ac P L' a:=by
 have back:∀o,o<25->L' o≠0->L o≠0:=fun o ho h e=>h (h0 o ho e);refine⟨⟨h.pv,(h1 24 (by omega) h.pt).1,?_,h.told,h.fl,fun o ho hL=>?_,fun o ho hL=>h.no o ho ?_⟩,fun a hs o j ho hj=>?_⟩
 ·obtain⟨_,_,_,t,t',D,e,e',_⟩:=h1 24 (by omega) h.pt;rw[bI e', <-bI e];exact h.data
 ·obtain⟨a1,a2,a3,t,t',D,e,e',e1,e2⟩:=h1 o ho (back o ho hL);obtain⟨s,T,hf⟩:=h.yes o ho (back o ho hL);obtain⟨t1,D1,f1,f2,f3⟩:=T.is;rw[e] at f1
  cases f1
  exact⟨s,⟨a2,a3,⟨t',D,e',by omega,by omega⟩,T.max⟩,hf⟩
 ·by_cases e:L o=0
  ·exact e
  ·exact absurd hL (h1 o (by omega) e).1
 ·rw[<-hs o j ho hj];unfold arr;by_cases e:L o=0
  ·rw[if_pos e,if_pos (h0 o (by omega) e)]
  ·obtain⟨a1,a2,a3,t,t',D,e1,e2,_⟩:=h1 o (by omega) e;rw[if_neg e,if_neg a1,bI e1,bI e2]
section
variable{P P':CS}{k:Cp}{L:Nat->Nat}{m s:Int}{p:Nat}{t:Tg}{D:Nat->Nat}
theorem Pv.new(h:Pv P m)(hs:m<=s)(hq:∀q,q≠p->P'.pg q=P.pg q)(hp:P'.pg p=.full t D)(g:Good t p D)(ht:t.seq=s):Pv P' (s+1):=by
 have cs:∀q t' D',q<96->P'.pg q=.full t' D'->(q=p/\t'=t/\D'=D)\/P.pg q=.full t' D':=fun q t' D' _ e=>by
  by_cases hn:q=p
  ·subst hn;rw[hp] at e
   cases e
   exact .inl ⟨rfl,rfl,rfl⟩
  ·exact .inr (by rw[<-hq q hn];exact e)
 refine⟨fun q t' D' gW e=>?_,fun q1 q2 t1 t2 D1 D2 h1 h2 e1 e2 he=>?_,fun q t' D' gW e=>?_⟩
 ·rcases cs q t' D' gW e with⟨rfl,rfl,rfl⟩|e
  ·exact g
  ·exact h.val q t' D' gW e
 ·rcases cs q1 t1 D1 h1 e1 with⟨rfl,rfl,rfl⟩|f1<;>rcases cs q2 t2 D2 h2 e2 with⟨r1,r2,r3⟩|f2
  ·exact⟨by rw[r2],r3.symm⟩
  ·have:=h.sq q2 t2 D2 h2 f2;omega
  ·subst r2;have:=h.sq q1 t1 D1 h1 f1;omega
  ·exact h.same q1 q2 t1 t2 D1 D2 h1 h2 f1 f2 he
 ·rcases cs q t' D' gW e with⟨rfl,rfl,rfl⟩|e
  ·omega
  ·have:=h.sq q t' D' gW e;omega
theorem Mt.old(h:Mt P k L m)(hn:nf (P.pg p)){o:Nat}(ho:o<25)(e:L o≠0):L o-1≠p:=fun x=>by
 obtain⟨s,T,_⟩:=h.yes o ho e;obtain⟨t,D,e1,_⟩:=T.is;rw[x] at e1;exact hn t D e1
theorem Mt.new(h:Mt P k L m)(hs:m<=s)(oJ:p<96)(hb:k.bad (p/8)=false)(hn:nf (P.pg p))(hq:∀q,q≠p->P'.pg q=P.pg q)(hp:P'.pg p=.full t D)(g:Good t p D)(ht:t.seq=s){o:Nat}(ho:o<24)(js:t.of=o) :
  Mt P' k (af L o (p+1)) (s+1)/\∀a f,Ac P L a->(∀j,j<160->D j=f j)->Ac P' (af L o (p+1)) (gU a o f):=by
 have hpv:=h.pv.new hs hq hp g ht;have hold:=fun {i:Nat} (hi:i<25) (e:L i≠0)=>h.old hn hi e;have ne:∀i,i≠o->af L o (p+1) i=L i:=fun i hi=>if_neg hi;have eq:af L o (p+1) o=p+1:=if_pos rfl;have cs:∀q t' D',P'.pg q=.full t' D'->(q=p/\t'=t/\D'=D)\/P.pg q=.full t' D':=fun q t' D' e=>by
  by_cases hn:q=p
  ·subst hn;rw[hp] at e
   cases e
   exact .inl ⟨rfl,rfl,rfl⟩
  ·exact .inr (by rw[<-hq q hn];exact e)
 refine⟨⟨hpv,by rw[ne 24 (by omega)];exact h.pt,?_,h.told,fun i hi=>by have:=h.fl i hi;omega,fun i hi hL=>?_,fun i hi hL q t' D' gW e vO hb'=>?_⟩,fun a f lK hDf i j hi hj=>?_⟩
 ·rw[ne 24 (by omega),dG (hq _ (hold (by omega) h.pt))];exact h.data
 ·by_cases iY:i=o
  ·subst iY;rw[eq,Nat.add_sub_cancel];refine⟨s,⟨oJ,hb,⟨t,D,hp,js,ht⟩,fun q t' D' gW e _ _=>?_⟩,?_⟩
   ·have:=hpv.sq q t' D' gW e;omega
   ·rw[fR k ho];have:=h.fl i ho;omega
  ·rw[ne i iY] at hL ⊢;obtain⟨s',T,hf⟩:=h.yes i hi hL;refine⟨s',⟨T.lt,T.bad,by rw[hq _ (hold hi hL)];exact T.is,fun q t' D' gW e vO hb'=>?_⟩,hf⟩;rcases cs q t' D' e with⟨rfl,rfl,rfl⟩|e
   ·omega
   ·exact T.max q t' D' gW e vO hb'
 ·by_cases iY:i=o
  ·subst iY;rw[eq] at hL;omega
  ·rw[ne i iY] at hL;rcases cs q t' D' e with⟨rfl,rfl,rfl⟩|e
   ·omega
   ·exact h.no i hi hL q t' D' gW e vO hb'
 ·unfold gU arr;by_cases iY:i=o
  ·subst iY;rw[if_pos rfl,eq,if_neg (by omega),Nat.add_sub_cancel,bI hp];exact hDf j hj
  ·rw[if_neg iY,ne i iY, <-lK i j hi hj];unfold arr;by_cases e:L i=0
   ·rw[if_pos e,if_pos e]
   ·rw[if_neg e,if_neg e,dG (hq _ (hold (by omega) e))]
theorem Mt.aiS{k':Cp}{L':Nat->Nat}(h:Mt P k L m)(hs:m<=s)(oJ:p<96)(hn:nf (P.pg p))(hq:∀q,q≠p->P'.pg q=P.pg q)(hp:P'.pg p=.full t (uC k'))(g:Good t p (uC k'))(ht:t.seq=s)(js:t.of=24)
  (kn:k'.told) (ft:k'.next<=s) (hbm:∀b,b<12->k.bad b=true->k'.bad b=true) (hpb:k'.bad (p/8)=false) (ani:L' 24=p+1)
  (hL:∀o,o<24->(L' o=L o/\k'.fl o=k.fl o/\(L o≠0->k'.bad ((L o-1)/8)=false))\/(L' o=0/\L o≠0/\∃t0 D0,P.pg (L o-1)=.full t0 D0/\k'.fl o=t0.seq)) :
  Mt P' k' L' (s+1)/\∀a a',Ac P L a->(∀o,o<24->(L' o=L o->∀j,j<160->a' o j=a o j)/\(L' o=0->L o≠0->∀j,j<160->a' o j=0))->Ac P' L' a':=by
 have hpv:=h.pv.new hs hq hp g ht;have hold:=fun {i:Nat} (hi:i<25) (e:L i≠0)=>h.old hn hi e;have cs:∀q t' D',P'.pg q=.full t' D'->(q=p/\t'=t/\D'=uC k')\/P.pg q=.full t' D':=fun q t' D' e=>by
  by_cases hn:q=p
  ·subst hn;rw[hp] at e
   cases e
   exact .inl ⟨rfl,rfl,rfl⟩
  ·exact .inr (by rw[<-hq q hn];exact e)
 have nb:∀b,b<12->k'.bad b=false->k.bad b=false:=fun b pC hb=>by
  cases hk:k.bad b
  ·rfl
  ·rw[hbm b pC hk] at hb
   cases hb
 refine⟨⟨hpv,by rw[ani];omega,by rw[ani,Nat.add_sub_cancel,bI hp],kn,fun o ho=>?_,fun o ho hLo=>?_,fun o ho hLo q t' D' gW e vO hb'=>?_⟩,fun a a' lK ha o j ho hj=>?_⟩
 ·rcases hL o ho with⟨_,e,_⟩|⟨_,e0,t0,D0,e1,e2⟩
  ·have:=h.fl o ho;omega
  ·obtain⟨s',T,_⟩:=h.yes o (by omega) e0;have:=h.pv.sq _ _ _ T.lt e1;omega
 ·by_cases jj:o=24
  ·subst jj;rw[ani,Nat.add_sub_cancel];refine⟨s,⟨oJ,hpb,⟨t,_,hp,js,ht⟩,fun q t' D' gW e _ _=>?_⟩,?_⟩
   ·have:=hpv.sq q t' D' gW e;omega
   ·rw[uF];have:=g.1;unfold Tg.ok at this;omega
  ·rcases hL o (by omega) with⟨e1,e2,e3⟩|⟨e1,_⟩
   ·rw[e1] at hLo ⊢;obtain⟨s',T,hf⟩:=h.yes o ho hLo;refine⟨s',⟨T.lt,e3 hLo,by rw[hq _ (hold ho hLo)];exact T.is,fun q t' D' gW e vO hb'=>?_⟩,?_⟩
    ·rcases cs q t' D' e with⟨rfl,rfl,rfl⟩|e
     ·omega
     ·exact T.max q t' D' gW e vO (hb'.imp id (nb _ (by omega)))
    ·rw[fR k' (by omega),e2, <-fR k (by omega)];exact hf
   ·exact absurd e1 hLo
 ·rcases hL o ho with⟨e1,e2,e3⟩|⟨e1,e0,t0,D0,e2,e3⟩
  ·rcases cs q t' D' e with⟨rfl,rfl,rfl⟩|e
   ·omega
   ·rw[e2];exact h.no o ho (by rw[<-e1];exact hLo) q t' D' gW e vO (nb _ (by omega) hb')
  ·rcases cs q t' D' e with⟨rfl,rfl,rfl⟩|e
   ·omega
   ·obtain⟨s',T,hf⟩:=h.yes o (by omega) e0;obtain⟨t1,D1,f1,f2,f3⟩:=T.is;rw[e2] at f1
    cases f1
    have:=T.max q t' D' gW e vO (.inr (nb _ (by omega) hb'));omega
 ·obtain⟨b1,b2⟩:=ha o ho;rcases hL o ho with⟨e1,e2,e3⟩|⟨e1,e0,_⟩
  ·rw[b1 e1 j hj, <-lK o j ho hj];unfold arr;rw[e1];by_cases e:L o=0
   ·rw[if_pos e,if_pos e]
   ·rw[if_neg e,if_neg e,dG (hq _ (hold (by omega) e))]
  ·rw[b2 e1 e0 j hj];unfold arr;rw[if_pos e1]
end
def Tw(T:CS)(m:Int)(a:Nat->Nat->Nat):Prop:=∃k L,Mt T k L m/\Ac T L a
structure Wi(a:Nat->Nat->Nat)(k:Cp)(K:KS)(P:CS):Prop where
 mt:Mt P k K.at_ K.next
 sh:Ac P K.at_ a
 en:∀o,o<25->K.at_ o≠0->∃t D,P.pg (K.at_ o-1)=.full t D/\K.en o=⟨t.seq,t.copy,false⟩
 fl:∀o,o<24->k.fl o=K.fl o
 nx:1<=K.next/\K.next<=1099511627775
 fh:AM K.at_ K.ow
 hb:Hl.HB K.F
 cur:K.cur<96
 st:∀b,b<12->K.st b<=3
 pn:K.pn<=12
 fb:K.fb<12
 fi:K.fi<=8
 bl:∀b i,b<12->K.st b=0->i<8->P.pg (b*8+i)=.blank
 f1:K.fo=true->K.st K.fb=1
 fr:K.fo=true->∀i,K.fi<=i->i<8->P.pg (K.fb*8+i)=.blank
 bad:∀b,b<12->k.bad b=true->K.st b=3
 live:aA K.st=false->∀o,o<25->K.at_ o≠0->K.st ((K.at_ o-1)/8)=2\/K.fo=true/\K.fb=(K.at_ o-1)/8
section
variable{a:Nat->Nat->Nat}{k:Cp}{K K':KS}{P P':CS}
theorem Wi.cM(h:Wi a k K P){o:Nat}(ho:o<25)(e:K.at_ o≠0):K.at_ o-1<96/\∃t D,P.pg (K.at_ o-1)=.full t D/\K.en o=⟨t.seq,t.copy,false⟩/\t.of=o/\t.ok/\t.place=(K.at_ o-1:Nat)/\t.lost=false/\cq D=D/\∀j,D j<256:=by
 obtain⟨s,T,_⟩:=h.mt.yes o ho e;obtain⟨t,D,e1,e2,e3⟩:=T.is;obtain⟨t',D',e1',e4⟩:=h.en o ho e;rw[e1] at e1'
 cases e1'
 obtain⟨v1,v2,v3,v4,v5⟩:=h.mt.pv.val _ _ _ T.lt e1;exact⟨T.lt,t,D,e1,e4,e2,v1,v2,v3,v5,v4⟩
theorem Wi.lt(h:Wi a k K P){o:Nat}(ho:o<25):K.at_ o<=96:=h.mt.lt ho
theorem Wi.fge(h:Wi a k K P):∀o,o<24->0<=K.fl o/\K.fl o<=1099511627775:=fun o ho=>by
 rw[<-h.fl o ho];exact h.mt.told.fl o ho
theorem Wi.dead(h:Wi a k K P){b:Nat}(hb:∀i,i<8->P.pg (b*8+i)=.blank):∀o,o<25->K.at_ o≠0->(K.at_ o-1)/8≠b:=fun o ho e hh=>by
 obtain⟨_,t,D,e1,_⟩:=h.cM ho e;have:=hb ((K.at_ o-1)%8) (Nat.mod_lt _ (by omega));rw[show b*8+(K.at_ o-1)%8=K.at_ o-1 by omega,e1] at this
 cases this
theorem Wi.same(h:Wi a k K P)(bG:P'.pg=P.pg)(hF:Hl.HB K'.F)(hc:K'.cur<96)(e:K'={ K with F:=K'.F,cur:=K'.cur,calls:=K'.calls,qu:=K'.qu,fq:=K'.fq,jX:=K'.jX,dY:=K'.dY }):Wi a k K' P':=by
 rw[e]
 exact⟨h.mt.ext (fun q t D hq e=>.inl (by rw[<-bG];exact e)) (fun o _ _=>by rw[bG]),h.sh.abg (fun o _ _=>by rw[bG]),fun o ho e=>by
  obtain⟨t,D,e1,e2⟩:=h.en o ho e;exact⟨t,D,by rw[bG];exact e1,e2⟩,h.fl,h.nx,h.fh,hF,hc,h.st,h.pn,h.fb,h.fi,by rw[bG];exact h.bl,h.f1,by rw[bG];exact h.fr,h.bad,h.live⟩
structure Bx(K:KS)(P:CS)(d n:Nat):Prop where
 lt:d<12
 st:K.st d=1
 fr:K.fo=true->K.fb≠d
 bl:∀i,n<=i->i<8->P.pg (d*8+i)=.blank
 dead:∀o,o<25->K.at_ o≠0->(K.at_ o-1)/8≠d
theorem fD{st rH:Nat->Nat}(h:∀b,rH b=st b\/st b=1/\rH b=2):an rH 0=an st 0/\an rH 3=an st 3:=by
 have g:∀s,s=0\/s=3->an rH s=an st s:=fun s hs=>Nat.le_antisymm (gA (fun b _ e=>by
  rcases h b with x|x
  ·rw[<-x];exact e
  ·omega)) (gA (fun b _ e=>by
  rcases h b with x|x
  ·rw[x];exact e
  ·omega))
 exact⟨g 0 (.inl rfl),g 3 (.inr rfl)⟩
theorem kt{st rH:Nat->Nat}(h:∀b,b<12->st b=3->rH b=3)(hw:aA rH=false):aA st=false:=by
 unfold aA at *;have:an st 3<=an rH 3:=gA h;simp at hw ⊢;omega
theorem Wi.take(h:Wi a k K P){d:Nat}(ht:takeN K.st K.pn=some d):Wi a k { K with st:=af K.st d 1,pn:=d+1 } P/\Bx { K with st:=af K.st d 1,pn:=d+1 } P d 0:=by
 obtain⟨hd,h0⟩:=da ht;have ox:=fun i hi=>h.bl d i hd h0 hi;have fY:=h.dead ox;have ne:∀b,b≠d->af K.st d 1 b=K.st b:=fun b hb=>if_neg hb;have eq:af K.st d 1 d=1:=if_pos rfl;refine⟨⟨h.mt,h.sh,h.en,h.fl,h.nx,h.fh,h.hb,h.cur,fun b hb=>?_,by show d+1<=12;omega,h.fb,h.fi,fun b i hb e hi=>?_,fun hf=>?_,h.fr,fun b hb e=>?_,fun hw o ho e=>?_⟩,⟨hd,eq,fun hf e=>?_,fun i _ hi=>ox i hi,fY⟩⟩
 ·show af K.st d 1 b<=3;by_cases uO:b=d
  ·rw[uO,eq];omega
  ·rw[ne b uO];exact h.st b hb
 ·have e:af K.st d 1 b=0:=e;by_cases uO:b=d
  ·rw[uO,eq] at e;omega
  ·rw[ne b uO] at e;exact h.bl b i hb e hi
 ·have:=h.f1 hf;show af K.st d 1 K.fb=1;rw[ne _ (fun e=>by rw[e] at this;omega)];exact this
 ·have:=h.bad b hb e;show af K.st d 1 b=3;rw[ne _ (fun e=>by rw[e] at this;omega)];exact this
 ·have hw':aA K.st=false:=kt (fun b hb e=>by
   show af K.st d 1 b=3;rw[ne b (fun x=>by rw[x] at e;omega)];exact e) hw
  have:=h.live hw' o ho e;show af K.st d 1 ((K.at_ o-1)/8)=2\/_;rw[ne _ (fY o ho e)];exact this
 ·have:=h.f1 hf;have e:K.fb=d:=e;rw[e] at this;omega
theorem Wi.cell(h:Wi a k K P){p:Nat}(hp:p<96)(bt:K.st (p/8)=1)(ox:P.pg p=.blank)(qU:K.fo=true->K.fb=p/8->p%8<K.fi)(hq:∀q,q≠p->P'.pg q=P.pg q)
  (bG:nf (P'.pg p)\/∃t D,P'.pg p=.full t D/\(t.ok/\t.place=p/\t.lost=false)/\∃o t0,o<25/\K.at_ o≠0/\P.pg (K.at_ o-1)=.full t0 D/\t0.of=t.of/\t0.seq=t.seq):Wi a k K P':=by
 have hold:∀o,o<25->K.at_ o≠0->K.at_ o-1≠p:=fun o ho e=>h.mt.old (by rw[ox];intro t D x;cases x) ho e;refine⟨h.mt.ext (fun q t D gW e=>?_) (fun o ho e=>hq _ (hold o ho e)),h.sh.abg (fun o ho e=>hq _ (hold o (by omega) e)),fun o ho e=>?_,h.fl,h.nx,h.fh,h.hb,h.cur,h.st,h.pn,h.fb,h.fi,fun b i hb e hi=>?_,h.f1,fun hf i h1 h2=>?_,h.bad,h.live⟩
 ·by_cases hn:q=p
  ·subst hn;rcases bG with bG|⟨t',D',e',g,o,t0,c⟩
   ·exact absurd e (bG t D)
   ·rw[e'] at e
    cases e
    exact .inr ⟨g,o,t0,c⟩
  ·exact .inl (by rw[<-hq q hn];exact e)
 ·obtain⟨t,D,e1,e2⟩:=h.en o ho e;exact⟨t,D,by rw[hq _ (hold o ho e)];exact e1,e2⟩
 ·rw[hq _ (fun x=>by rw[<-x,show(b*8+i)/8=b by omega] at bt;omega)];exact h.bl b i hb e hi
 ·rw[hq _ (fun x=>by
   have:=qU hf (by rw[<-x];omega);rw[<-x] at this;omega)]
  exact h.fr hf i h1 h2
structure BY(K K0:KS):Prop where
 eq:∃st fo fb fi,K0={ K with st:=st,fo:=fo,fb:=fb,fi:=fi }
 fo:K0.fo=false
 st:∀b,K0.st b=K.st b\/K.st b=1/\K0.st b=2
 front:K.fo=true->K0.st K.fb=2
 off:K.fo=false->K0=K
theorem Wi.shut(h:Wi a k K P):Wi a k (aV K) P/\BY K (aV K):=by
 unfold aV;by_cases hf:K.fo=true
 ·rw[if_pos hf];have h1:=h.f1 hf;have hs:aG K.st K.fb 2=af K.st K.fb 2:=by
   unfold aG;rw[if_neg (fun x=>by rw[h1] at x;omega)]
  rw[hs];have ne:∀b,b≠K.fb->af K.st K.fb 2 b=K.st b:=fun b hb=>if_neg hb;have eq:af K.st K.fb 2 K.fb=2:=if_pos rfl;have bt:∀b,af K.st K.fb 2 b=K.st b\/K.st b=1/\af K.st K.fb 2 b=2:=fun b=>by
   by_cases hb:b=K.fb
   ·rw[hb];exact .inr ⟨h1,eq⟩
   ·exact .inl (ne b hb)
  refine⟨⟨h.mt,h.sh,h.en,h.fl,h.nx,h.fh,h.hb,h.cur,fun b hb=>?_,h.pn,by show 0<12;omega,by show 0<=8;omega,fun b i hb e hi=>?_,fun x=>(by cases x),fun x=>(by cases x),fun b hb e=>?_,fun hw o ho e=>?_⟩,⟨⟨_,_,_,_,rfl⟩,rfl,bt,fun _=>eq,fun x=>(by rw[hf] at x;cases x)⟩⟩
  ·have:=h.st b hb;show af K.st K.fb 2 b<=3;rcases bt b with x|x<;>omega
  ·have e:af K.st K.fb 2 b=0:=e;refine h.bl b i hb ?_ hi;rcases bt b with x|x<;>omega
  ·have:=h.bad b hb e;show af K.st K.fb 2 b=3;rcases bt b with x|x<;>omega
  ·have hw':aA K.st=false:=kt (fun b hb e=>by
    show af K.st K.fb 2 b=3;rcases bt b with x|x<;>omega) hw
   show af K.st K.fb 2 ((K.at_ o-1)/8)=2\/_;rcases h.live hw' o ho e with x|⟨_,x⟩
   ·rcases bt ((K.at_ o-1)/8) with y|y
    ·exact .inl (y.trans x)
    ·exact .inl y.2
   ·rw[<-x];exact .inl eq
 ·have hf:K.fo=false:=by simpa using hf
  rw[if_neg (by rw[hf];decide)];exact⟨h,⟨⟨_,_,_,_,rfl⟩,hf,fun b=>.inl rfl,fun x=>(by rw[hf] at x;cases x),fun _=>rfl⟩⟩
end
structure Ck(K2 K':KS)(d n:Nat):Prop where
 st:∀b,K'.st b=K2.st b\/K2.st b=1/\K'.st b=2
 std:K'.st d=2\/K'.fo=true/\K'.fb=d
 fb:K'.fb<12
 fi:K'.fi<=8
 f1:K'.fo=true->K'.st K'.fb=1
 fr:(K'.fo=true/\K'.fb=K2.fb/\K'.fi=K2.fi/\K2.fo=true/\aJ K2.fo K2.fi 0=true)\/(K'.fo=true/\K'.fb=d/\K'.fi=n/\(K2.fo=true->K'.st K2.fb=2)/\aJ K2.fo K2.fi 0=false)
theorem aea{K2:KS}{d:Nat}{l:List Tg}(hd:d<12)(h1:K2.st d=1)(hf:K2.fo=true->K2.st K2.fb=1/\K2.fb≠d)(pZ:K2.fb<12)(hfi:K2.fi<=8)(hl:l.length<=8) :
  (∃st fo fb fi,jk K2 d l={ eU K2 l with st:=st,fo:=fo,fb:=fb,fi:=fi })/\Ck K2 (jk K2 d l) d l.length:=by
 obtain⟨A,O,E,M,e⟩:=nk K2 l;unfold jk;rw[e];simp only;by_cases hr:aJ K2.fo K2.fi 0=true
 ·rw[if_pos hr];have fT:K2.fo=true:=by
   unfold aJ at hr;simp at hr;exact hr.1
  have hs:aG K2.st d 2=af K2.st d 2:=by
   unfold aG;rw[if_neg (fun x=>by omega)]
  rw[hs];have ne:∀b,b≠d->af K2.st d 2 b=K2.st b:=fun b hb=>if_neg hb;have eq:af K2.st d 2 d=2:=if_pos rfl;refine⟨⟨_,_,_,_,rfl⟩,⟨fun b=>?_,.inl eq,pZ,hfi,fun _=>?_,.inl ⟨fT,rfl,rfl,fT,hr⟩⟩⟩
  ·by_cases hb:b=d
   ·rw[hb];exact .inr ⟨h1,eq⟩
   ·exact .inl (ne b hb)
  ·show af K2.st d 2 K2.fb=1;rw[ne _ (hf fT).2];exact(hf fT).1
 ·have hr':aJ K2.fo K2.fi 0=false:=by simpa using hr
  rw[if_neg hr];unfold aV;by_cases fT:K2.fo=true
  ·rw[if_pos (by exact fT)];have hs:aG K2.st K2.fb 2=af K2.st K2.fb 2:=by
    unfold aG;rw[if_neg (fun x=>by have:=(hf fT).1;omega)]
   simp only[hs];have ne:∀b,b≠K2.fb->af K2.st K2.fb 2 b=K2.st b:=fun b hb=>if_neg hb;have eq:af K2.st K2.fb 2 K2.fb=2:=if_pos rfl;refine⟨⟨_,_,_,_,rfl⟩,⟨fun b=>?_,.inr ⟨rfl,rfl⟩,hd,hl,fun _=>?_,.inr ⟨rfl,rfl,rfl,fun _=>eq,hr'⟩⟩⟩
   ·show af K2.st K2.fb 2 b=_\/_;by_cases hb:b=K2.fb
    ·rw[hb];exact .inr ⟨(hf fT).1,eq⟩
    ·exact .inl (ne b hb)
   ·show af K2.st K2.fb 2 d=1;rw[ne _ (fun x=>(hf fT).2 x.symm)];exact h1
  ·have fT:K2.fo=false:=by simpa using fT
   rw[if_neg (by rw[fT];decide)];exact⟨⟨_,_,_,_,rfl⟩,⟨fun b=>.inl rfl,.inr ⟨rfl,rfl⟩,hd,hl,fun _=>h1,.inr ⟨rfl,rfl,rfl,fun x=>(by rw[fT] at x;cases x),hr'⟩⟩⟩
structure Bh(K:KS)(P:CS)(v d:Nat)(os:List Nat)(l:List Tg):Prop where
 nd:os.Nodup
 o8:os.length<=8
 mem:∀o,o∈os->o<25/\K.at_ o≠0/\(K.at_ o-1)/8=v
 len:l.length=os.length
 tag:∀i,i<os.length->l.getD i Tg.zero=bm K d i (os.getD i 0)/\bp (d*8+i) (os.getD i 0)=true
 pg:∀i,i<os.length->P.pg (d*8+i)=.full (bm K d i (os.getD i 0)) (bj P (K.at_ (os.getD i 0)-1))
section
variable{a:Nat->Nat->Nat}{k:Cp}{K:KS}{P:CS}{v d:Nat}{os:List Nat}{l:List Tg}
structure Db(K K':KS)(d:Nat)(os:List Nat):Prop where
 fh:AM K'.at_ K'.ow
 go:∀i,i<os.length->K'.at_ (os.getD i 0)=d*8+i+1/\K'.en (os.getD i 0)=⟨(K.en (os.getD i 0)).seq,((K.en (os.getD i 0)).copy+1)%256,(K.en (os.getD i 0)).lost⟩
 stay:∀o,o∉os->K'.at_ o=K.at_ o/\K'.en o=K.en o
theorem Bh.mv(C:Bh K P v d os l)(hc:AM K.at_ K.ow)(hd:d<12)(fY:∀o,o<25->K.at_ o≠0->(K.at_ o-1)/8≠d){K2:KS}(e1:K2.at_=K.at_)(e2:K2.ow=K.ow)(e3:K2.en=K.en):Db K (eU K2 l) d os:=by
 have H:BA K2 d os l (fun o=>⟨(K.en o).seq,((K.en o).copy+1)%256,(K.en o).lost⟩):=by
  refine⟨by rw[e1,e2];exact hc,hd,C.o8,C.nd,C.len,fun i hi=>⟨(C.mem _ ?_).1,(C.tag i hi).2⟩,by rw[e1];exact fY,fun i hi=>?_⟩
  ·rw[bM hi];exact List.getElem_mem hi
  ·rw[(C.tag i hi).1];exact⟨rfl,rfl,rfl⟩
 obtain⟨h1,h2,h3⟩:=uI H os.length (Nat.le_refl _);rw[show l.take os.length=l by rw[<-C.len,List.take_length]] at h1 h2 h3;refine⟨h1,h2,fun o ho=>?_⟩;rw[<-e1, <-e3];refine h3 o (fun j hj e=>ho ?_);rw[<-e,bM hj];exact List.getElem_mem hj
theorem Bh.all(C:Bh K P v d os l)(h:Wi a k K P)(D:Bx K P d os.length){K':KS}(M:Db K K' d os):∀o,o<25->K.at_ o≠0->K'.at_ o≠0/\K'.at_ o-1<96/\(∃t t' D,P.pg (K.at_ o-1)=.full t D/\P.pg (K'.at_ o-1)=.full t' D/\t'.of=t.of/\t'.seq=t.seq/\K'.en o=⟨t'.seq,t'.copy,false⟩)/\((o∈os/\(K'.at_ o-1)/8=d)\/(o∉os/\K'.at_ o=K.at_ o)):=fun o ho e=>by
 obtain⟨hp,t,D0,a1,a2,a3,a4,a5,a6,a7,a8⟩:=h.cM ho e;by_cases hm:o∈os
 ·obtain⟨i,hi,rfl⟩:=List.getElem_of_mem hm;rw[<-bM hi (x:=0)] at *;obtain⟨g1,g2⟩:=M.go i hi;have bG:=C.pg i hi;have:=D.lt;have h8:=C.o8;refine⟨by omega,by omega,⟨t,bm K d i (os.getD i 0),D0,a1,?_,?_,?_,?_⟩,.inl ⟨hm,by omega⟩⟩
  ·rw[g1,Nat.add_sub_cancel,bG,bI a1]
  ·exact a3.symm
  ·show(K.en (os.getD i 0)).seq=t.seq;rw[a2]
  ·rw[g2];unfold bm;rw[a2]
 ·obtain⟨g1,g2⟩:=M.stay o hm;rw[g1,g2];exact⟨e,hp,⟨t,t,D0,a1,a1,rfl,rfl,a2⟩,.inr ⟨hm,rfl⟩⟩
theorem Bh.zero(C:Bh K P v d os l){K':KS}(M:Db K K' d os):∀o,o<25->K.at_ o=0->K'.at_ o=0:=fun o ho e=>by
 rw[(M.stay o (fun hm=>(C.mem o hm).2.1 e)).1];exact e
theorem Bh.aoL(C:Bh K P v d os l){K':KS}(M:Db K K' d os):∀o,o<25->K.at_ o≠0->K'.at_ o≠0/\(K'.en o).seq=(K.en o).seq:=fun o ho e=>by
 by_cases hm:o∈os
 ·obtain⟨i,hi,rfl⟩:=List.getElem_of_mem hm;rw[<-bM hi (x:=0)] at *;obtain⟨g1,g2⟩:=M.go i hi;exact⟨by omega,by rw[g2]⟩
 ·obtain⟨g1,g2⟩:=M.stay o hm;exact⟨by rw[g1];exact e,by rw[g2]⟩
theorem Wi.acV(h:Wi a k K P){b:Nat}(hb:b<12)(hs:K.st b≠3):k.bad b=false:=by
 cases e:k.bad b
 ·rfl
 ·exact absurd (h.bad b hb e) hs
theorem Wi.erased(h:Wi a k K P)(hv:v<12)(rU:K.st v=2)(D:Bx K P d os.length)(C:Bh K P v d os l)(cu:∀o,o<25->K.at_ o≠0->(K.at_ o-1)/8=v->o∈os) :
  Wi a k (jk (oH K v) d l) (P.dD v)/\Ck (oH K v) (jk (oH K v) d l) d l.length/\(∃st fo fb fi A O E M,jk (oH K v) d l={ oH K v with st:=st,fo:=fo,fb:=fb,fi:=fi,at_:=A,ow:=O,en:=E,dY:=M })/\(oH K v).st=af K.st v 0/\∀o,o<25->K.at_ o≠0->(jk (oH K v) d l).at_ o≠0/\((jk (oH K v) d l).en o).seq=(K.en o).seq:=by
 have hs:aG K.st v 0=af K.st v 0:=by
  unfold aG;rw[if_neg (fun x=>by omega)]
 have ji:d≠v:=fun e=>by have:=D.st;rw[e] at this;omega
 have hfv:K.fo=true->K.fb≠v:=fun hf e=>by have:=h.f1 hf;rw[e] at this;omega
 have ne:∀b,b≠v->af K.st v 0 b=K.st b:=fun b hb=>if_neg hb;have eqv:af K.st v 0 v=0:=if_pos rfl;have vK:(oH K v).st=af K.st v 0:=hs;have M:=C.mv h.fh D.lt D.dead (K2:=oH K v) rfl rfl rfl;obtain⟨⟨st,fo,fb,fi,ee⟩,EF⟩:=aea (K2:=oH K v) (l:=l) D.lt (by rw[vK,ne d ji];exact D.st) (fun hf=>⟨by rw[vK];show af K.st v 0 K.fb=1;rw[ne _ (hfv hf)];exact h.f1 hf,D.fr hf⟩) h.fb h.fi (by rw[C.len];exact C.o8);obtain⟨A,O,E,Mo,em⟩:=nk (oH K v) l;rw[em] at M ee;rw[ee] at EF ⊢;have ku:=C.all h D M;have hz:=C.zero M;have hnv:∀o,o<25->K.at_ o≠0->(A o-1)/8≠v:=fun o ho e=>by
  rcases(ku o ho e).2.2.2 with⟨_,x⟩|⟨x,y⟩
  ·have x:(A o-1)/8=d:=x;omega
  ·have y:A o=K.at_ o:=y;rw[y];exact fun z=>x (cu o ho e z)
 have pS:∀o,o<25->A o≠0->K.at_ o≠0:=fun o ho hA e=>hA (hz o ho e);have hkd:k.bad d=false:=h.acV D.lt (by rw[D.st];omega);obtain⟨mt1,sh1⟩:=h.mt.aiR (L':=A) (fun o ho e=>by
  obtain⟨x1,x2,⟨t,t',D0,y1,y2,y3,y4,_⟩,x3⟩:=ku o ho e;refine⟨x1,x2,?_,t,t',D0,y1,y2,y3,y4⟩;rcases x3 with⟨_,z⟩|⟨_,z⟩
  ·have z:(A o-1)/8=d:=z;rw[z];exact hkd
  ·have z:A o=K.at_ o:=z;rw[z];obtain⟨s,T,_⟩:=h.mt.yes o ho e;exact T.bad) hz
 have wne:∀q,q/8≠v->(P.dD v).pg q=P.pg q:=fun q hq=>by
  unfold CS.dD;simp only;rw[if_neg hq]
 have weq:∀q,q/8=v->(P.dD v).pg q=.blank:=fun q hq=>by
  unfold CS.dD;simp only;rw[if_pos hq]
 refine⟨⟨mt1.ext (fun q t D hq e=>?_) (fun o ho e=>wne _ (hnv o ho (pS o ho e))),(sh1 a h.sh).abg (fun o ho e=>wne _ (hnv o (by omega) (pS o (by omega) e))),fun o ho e=>?_,h.fl,h.nx,M.fh,?_,h.cur,fun b hb=>?_,h.pn,EF.fb,EF.fi,fun b i hb e hi=>?_,EF.f1,fun hf i h1 h2=>?_,fun b hb e=>?_,fun hw o ho e=>?_⟩,EF,⟨_,_,_,_,_,_,_,_,rfl⟩,vK,fun o ho e=>C.aoL M o ho e⟩
 ·by_cases hqv:q/8=v
  ·rw[weq q hqv] at e;cases e
  ·rw[wne q hqv] at e;exact .inl e
 ·obtain⟨_,_,⟨t,t',D0,y1,y2,y3,y4,y5⟩,_⟩:=ku o ho (pS o ho e);exact⟨t',D0,by show(P.dD v).pg (A o-1)=_;rw[wne _ (hnv o ho (pS o ho e))];exact y2,y5⟩
 ·exact h.hb.er hv
 ·have h1:=h.st b hb;have h2:=EF.st b;show st b<=3;have h3:af K.st v 0 b<=3:=by
   by_cases l8:b=v
   ·rw[l8,eqv];omega
   ·rw[ne b l8];exact h1
  rw[vK] at h2;rcases h2 with x|x
  ·have x:st b=af K.st v 0 b:=x;omega
  ·have x:st b=2:=x.2;omega
 ·have e:st b=0:=e;by_cases l8:b=v
  ·exact weq _ (by omega)
  ·rw[wne _ (by omega)];refine h.bl b i hb ?_ hi;have h2:=EF.st b;rw[vK,ne b l8] at h2;rcases h2 with x|x
   ·have x:st b=K.st b:=x;omega
   ·have x:st b=2:=x.2;omega
 ·have hf:fo=true:=hf;rcases EF.fr with⟨_,f2,f3,f4,_⟩|⟨_,f2,f3,_⟩
  ·have f2:fb=K.fb:=f2;have f3:fi=K.fi:=f3;have f4:K.fo=true:=f4;show(P.dD v).pg (fb*8+i)=_;rw[f2,wne _ (by have:=hfv f4;omega)];exact h.fr f4 i (by have h1:fi<=i:=h1;omega) h2
  ·have f2:fb=d:=f2;have f3:fi=l.length:=f3;show(P.dD v).pg (fb*8+i)=_;rw[f2,wne _ (by omega)];exact D.bl i (by have h1:fi<=i:=h1;rw[<-C.len];omega) h2
 ·have h1:=h.bad b hb e;have h2:=EF.st b;rw[vK,ne b (fun x=>by rw[x] at h1;omega)] at h2;rcases h2 with x|x
  ·exact x.trans h1
  ·omega
 ·have hw':aA K.st=false:=kt (fun b hb e=>by
   have h2:=EF.st b;rw[vK,ne b (fun x=>by rw[x] at e;omega)] at h2;rcases h2 with x|x
   ·exact x.trans e
   ·omega) hw
  have hA:=pS o ho e;rcases(ku o ho hA).2.2.2 with⟨_,x⟩|⟨x,y⟩
  ·have x:(A o-1)/8=d:=x;show st ((A o-1)/8)=2\/fo=true/\fb=(A o-1)/8;rw[x];rcases EF.std with z|⟨z1,z2⟩
   ·exact .inl z
   ·exact .inr ⟨z1,z2⟩
  ·have y:A o=K.at_ o:=y;have l8:(K.at_ o-1)/8≠v:=fun z=>x (cu o ho hA z);show st ((A o-1)/8)=2\/fo=true/\fb=(A o-1)/8;rw[y];have h2:=EF.st ((K.at_ o-1)/8);rw[vK,ne _ l8] at h2;have h2:st ((K.at_ o-1)/8)=K.st ((K.at_ o-1)/8)\/K.st ((K.at_ o-1)/8)=1/\st ((K.at_ o-1)/8)=2:=h2;rcases h.live hw' o ho hA with z|⟨z1,z2⟩
   ·exact .inl (by omega)
   ·rcases EF.fr with⟨f1,f2,f3,f4,_⟩|⟨f1,f2,f3,f4,_⟩
    ·have f1:fo=true:=f1;have f2:fb=K.fb:=f2;exact .inr ⟨f1,by rw[f2];exact z2⟩
    ·have f4:st K.fb=2:=f4 z1;exact .inl (by rw[<-z2];exact f4)
end
theorem AM.again{at_ ow:Nat->Nat}(h:AM at_ ow){o p:Nat}(ho:o<25)(hp:p<96)(e:at_ o=p+1)(hh:bp p o=true):(setAt at_ ow o p).1=at_/\(setAt at_ ow o p).2=ow:=by
 have h1:=(h.a o ho (by omega)).2;rw[e,Nat.add_sub_cancel] at h1;have es:setAt at_ ow o p=(af at_ o (p+1),af (if at_ o≠0 then af ow (at_ o-1) 0 else ow) p (o+1)):=by
  unfold setAt;rw[hh,if_neg (by decide),if_neg (fun x=>x.2 h1)]
 rw[es];constructor
 ·funext i;unfold af;simp only;by_cases hi:i=o
  ·rw[if_pos hi,hi,e]
  ·rw[if_neg hi]
 ·funext i;show af (if at_ o≠0 then af ow (at_ o-1) 0 else ow) p (o+1) i=ow i;rw[if_pos (show at_ o≠0 by omega),e,Nat.add_sub_cancel];unfold af;by_cases hi:i=p
  ·rw[if_pos hi,hi,h1]
  ·rw[if_neg hi,if_neg hi]
section
variable{a:Nat->Nat->Nat}{k:Cp}{K:KS}{P P':CS}{v d:Nat}{os:List Nat}{l:List Tg}
theorem jd(h:Wi a k K P){s:Int}(hs:0<=s/\s<=1099511627775)(also:Int):(iv (bS K) s also).told :=
 ⟨hs,by have:=h.cur;show(0:Int)<=(K.cur:Nat)/\((K.cur:Nat):Int)<=95;omega,h.fge,fun j hj=>(h.hb j hj).1,fun j hj=>(h.hb j hj).2.1⟩
def dP(K:KS)(p:Nat):Tg:=⟨(p:Int),24,K.next,0,false⟩
theorem abh{K:KS}{p:Nat}(hp:p<96)(hn:1<=K.next/\K.next<1099511627775):(dP K p).ok:=by
 unfold Tg.ok dP;simp only;exact⟨by omega,by omega,by omega,by omega,by omega,by omega,by omega,by omega,fun _=>trivial,fun h=>absurd rfl h⟩
def syK(K:KS)(F:Nat->Int)(v d n:Nat)(l:List Tg):KS:=anK (jk { K with next:=K.next+1,F:=F,st:=aG K.st v 3 } d (l++[dP K (d*8+n)])) (dP K (d*8+n)) 24 (d*8+n)
theorem Wi.said(h:Wi a k K P)(hw:aA K.st=false)(hv:v<12)(rU:K.st v=2)(D:Bx K P d os.length)(C:Bh K P v d os l)(h7:os.length<=7)(cu:∀o,o<24->K.at_ o≠0->(K.at_ o-1)/8=v->o∈os)(hn:K.next<1099511627775)
  {F:Nat->Int} (hF:Hl.HB F) (hq:∀q,q≠d*8+os.length->P'.pg q=P.pg q) (hp:P'.pg (d*8+os.length)=.full (dP K (d*8+os.length)) (uC (iv (bS K) K.next v))) :
  Wi a (iv (bS K) K.next v) (syK K F v d os.length l) P'/\Ck { K with st:=af K.st v 3 } (syK K F v d os.length l) d (os.length+1) /\
   (∃st fo fb fi A O E M G,syK K F v d os.length l={ K with st:=st,fo:=fo,fb:=fb,fi:=fi,at_:=A,ow:=O,en:=E,dY:=M,F:=G,calls:=0,next:=K.next+1 }) /\
   AK (jk { K with next:=K.next+1,F:=F,st:=aG K.st v 3 } d (l++[dP K (d*8+os.length)])).at_ (jk { K with next:=K.next+1,F:=F,st:=aG K.st v 3 } d (l++[dP K (d*8+os.length)])).ow/\∀o,o<24->K.at_ o≠0->(syK K F v d os.length l).at_ o≠0/\((syK K F v d os.length l).en o).seq=(K.en o).seq:=by
 have hd:=D.lt;have oJ:d*8+os.length<96:=by omega
 have ji:d≠v:=fun e=>by have:=D.st;rw[e] at this;omega
 have hfv:K.fo=true->K.fb≠v:=fun hf e=>by have:=h.f1 hf;rw[e] at this;omega
 have hs:aG K.st v 3=af K.st v 3:=by
  unfold aG;rw[if_neg (fun x=>x.2 rfl)]
 have ne:∀b,b≠v->af K.st v 3 b=K.st b:=fun b hb=>if_neg hb;have eqv:af K.st v 3 v=3:=if_pos rfl;unfold syK;rw[hs];have M:=C.mv h.fh D.lt D.dead (K2:={ K with next:=K.next+1,F:=F,st:=af K.st v 3 }) rfl rfl rfl;obtain⟨⟨st,fo,fb,fi,ee⟩,EF⟩:=aea (K2:={ K with next:=K.next+1,F:=F,st:=af K.st v 3 }) (l:=l++[dP K (d*8+os.length)]) D.lt (by show af K.st v 3 d=1;rw[ne d ji];exact D.st) (fun hf=>⟨by show af K.st v 3 K.fb=1;rw[ne _ (hfv hf)];exact h.f1 hf,D.fr hf⟩) h.fb h.fi (by rw[List.length_append,C.len,List.length_singleton];omega);rw[kj] at ee;obtain⟨A,O,E,Mo,em⟩:=nk { K with next:=K.next+1,F:=F,st:=af K.st v 3 } l;rw[em] at M ee;have ku:=C.all h D M;have hz:=C.zero M;have hold:∀o,o<25->A o≠d*8+os.length+1:=fun o ho e=>by
  have hK:K.at_ o≠0:=fun x=>by have:A o=0:=hz o ho x;omega
  by_cases hm:o∈os
  ·obtain⟨i,hi,rfl⟩:=List.getElem_of_mem hm;rw[<-bM hi (x:=0)] at e;have:A (os.getD i 0)=d*8+i+1:=(M.go i hi).1;omega
  ·have:A o=K.at_ o:=(M.stay o hm).1;exact D.dead o ho hK (by rw[<-this,e];omega)
 have how:O (d*8+os.length)=0:=by
  by_cases hx:O (d*8+os.length)=0
  ·exact hx
  ·obtain⟨y1,y2⟩:=M.fh.o _ oJ hx;exact absurd y2 (hold _ (by omega))
 have aoM:bp (d*8+os.length) 24=true:=by unfold bp;rfl
 have jz:AM A O:=M.fh;obtain⟨c1,c2⟩:=jz.set (o:=24) (by omega) oJ how aoM;have e3:mvK { K with next:=K.next+1,F:=F,st:=af K.st v 3,at_:=A,ow:=O,en:=E,dY:=Mo } (dP K (d*8+os.length))={ K with next:=K.next+1,F:=F,st:=af K.st v 3,at_:=af A 24 (d*8+os.length+1),ow:=(setAt A O 24 (d*8+os.length)).2,en:=af E 24 ⟨K.next,0,false⟩,dY:=iz (Mo+1) }:=by
  unfold mvK stK;simp only;rw[show(dP K (d*8+os.length)).of.toNat=24 from rfl,show(dP K (d*8+os.length)).place.toNat=d*8+os.length from Int.toNat_natCast _,c2];rfl
 rw[e3] at ee;rw[ee] at EF ⊢;rw[c2] at c1;generalize (setAt A O 24 (d*8+os.length)).2=O3 at *;obtain⟨g1,g2⟩:=c1.again (o:=24) (p:=d*8+os.length) (by omega) oJ (if_pos rfl) aoM;have e4:anK ({ K with next:=K.next+1,F:=F,st:=st,fo:=fo,fb:=fb,fi:=fi,at_:=af A 24 (d*8+os.length+1),ow:=O3,en:=af E 24 ⟨K.next,0,false⟩,dY:=iz (Mo+1) }:KS) (dP K (d*8+os.length)) 24 (d*8+os.length)={ K with next:=K.next+1,F:=Hl.ntF F,calls:=0,st:=st,fo:=fo,fb:=fb,fi:=fi,at_:=af A 24 (d*8+os.length+1),ow:=O3,en:=af (af E 24 ⟨K.next,0,false⟩) 24 ⟨K.next,0,false⟩,dY:=iz (Mo+1) }:=by
  unfold anK stK;rw[if_pos rfl];simp only;rw[g1,g2];rfl
 have e4':af (af E 24 ⟨K.next,0,false⟩) 24 ⟨K.next,0,false⟩=af E 24 (⟨K.next,0,false⟩:En):=by
  funext i;unfold af;split<;>rfl
 rw[e4'] at e4;have e5:∀x:KS,x={ K with next:=K.next+1,F:=F,st:=st,fo:=fo,fb:=fb,fi:=fi,at_:=af A 24 (d*8+os.length+1),ow:=O3,en:=af E 24 ⟨K.next,0,false⟩,dY:=iz (Mo+1) }->anK x (dP K (d*8+os.length)) 24 (d*8+os.length)={ K with next:=K.next+1,F:=Hl.ntF F,calls:=0,st:=st,fo:=fo,fb:=fb,fi:=fi,at_:=af A 24 (d*8+os.length+1),ow:=O3,en:=af E 24 ⟨K.next,0,false⟩,dY:=iz (Mo+1) }:=fun x hx=>by rw[hx];exact e4
 rw[e5 _ rfl];have hnv:∀o,o<24->K.at_ o≠0->(A o-1)/8≠v:=fun o ho e=>by
  rcases(ku o (by omega) e).2.2.2 with⟨_,x⟩|⟨x,y⟩
  ·have x:(A o-1)/8=d:=x;omega
  ·have y:A o=K.at_ o:=y;rw[y];exact fun z=>x (cu o ho e z)
 have pS:∀o,o<25->A o≠0->K.at_ o≠0:=fun o ho hA e=>hA (hz o ho e);have hkd:k.bad d=false:=h.acV D.lt (by rw[D.st];omega);obtain⟨mt1,sh1⟩:=h.mt.aiR (L':=A) (fun o ho e=>by
  obtain⟨x1,x2,⟨t,t',D0,y1,y2,y3,y4,_⟩,x3⟩:=ku o ho e;refine⟨x1,x2,?_,t,t',D0,y1,y2,y3,y4⟩;rcases x3 with⟨_,z⟩|⟨_,z⟩
  ·have z:(A o-1)/8=d:=z;rw[z];exact hkd
  ·have z:A o=K.at_ o:=z;rw[z];obtain⟨s,T,_⟩:=h.mt.yes o ho e;exact T.bad) hz
 have ak1:P.pg (d*8+os.length)=.blank:=D.bl _ (Nat.le_refl _) (by omega);have zm:nf (P.pg (d*8+os.length)):=by rw[ak1];intro t D x;cases x
 have aoN:∀b,(iv (bS K) K.next v).bad b=(decide (K.st b=3)||decide ((b:Int)=(v:Nat))):=fun b=>rfl;have xE:=h.live hw;have knb:∀b,b≠v->K.st b≠3->(iv (bS K) K.next v).bad b=false:=fun b hb h3=>by
  rw[aoN];simp;exact⟨h3,by omega⟩
 have aoO:∀o,o<25->K.at_ o≠0->K.st ((K.at_ o-1)/8)≠3:=fun o ho e x=>by
  rcases xE o ho e with y|⟨y1,y2⟩
  ·omega
  ·have:=h.f1 y1;rw[y2] at this;omega
 have zu:∀q,q≠d*8+os.length->P'.pg q=P.pg q:=hq;obtain⟨mt2,sh2⟩:=mt1.aiS (p:=d*8+os.length) (s:=K.next) (k':=iv (bS K) K.next v) (L':=af A 24 (d*8+os.length+1)) (Int.le_refl _) oJ zm hq hp
  ⟨abh oJ ⟨h.nx.1,hn⟩,rfl,rfl,iX _,gI _⟩ rfl rfl (jd h (by have:=h.nx;omega) _) (Int.le_refl _) (fun b hb e=>by rw[aoN,h.bad b hb e];rfl)
  (knb _ (by rw[show(d*8+os.length)/8=d by omega];exact ji) (by rw[show(d*8+os.length)/8=d by omega,D.st];omega)) (if_pos rfl)
  (fun o ho=>.inl ⟨if_neg (by omega),(h.fl o ho).symm,fun e=>by
   have hA:=pS o (by omega) e;refine knb _ (hnv o ho hA) ?_;rcases(ku o (by omega) hA).2.2.2 with⟨_,x⟩|⟨x,y⟩
   ·have x:(A o-1)/8=d:=x;rw[x,D.st];omega
   ·have y:A o=K.at_ o:=y;rw[y];exact aoO o (by omega) hA⟩)
 have hoA:∀o,o<25->A o≠0->A o-1≠d*8+os.length:=fun o ho e x=>hold o ho (by omega);have uW:∀b,st b=af K.st v 3 b\/af K.st v 3 b=1/\st b=2:=EF.st;refine⟨⟨mt2,sh2 a a (sh1 a h.sh) (fun o ho=>⟨fun _ j hj=>rfl,fun x y j hj=>?_⟩),fun o ho e=>?_,fun _ _=>rfl,by have:=h.nx;show 1<=K.next+1/\K.next+1<=_;omega,c1,hF.nt,h.cur,fun b hb=>?_,h.pn,EF.fb,EF.fi,fun b i hb e hi=>?_,EF.f1,fun hf i h1 h2=>?_,fun b hb e=>?_,fun hwn o ho e=>?_⟩,⟨uW,EF.std,EF.fb,EF.fi,EF.f1,?_⟩,⟨_,_,_,_,_,_,_,_,_,rfl⟩,c1.mw,fun o ho e=>?_⟩
 ·have x:af A 24 (d*8+os.length+1) o=0:=x;unfold af at x;rw[if_neg (by omega)] at x;exact absurd x y
 ·have e:af A 24 (d*8+os.length+1) o≠0:=e;show ∃t D,P'.pg (af A 24 (d*8+os.length+1) o-1)=.full t D/\af E 24 ⟨K.next,0,false⟩ o=_;unfold af at e ⊢;by_cases jj:o=24
  ·rw[if_pos jj,if_pos jj,Nat.add_sub_cancel];exact⟨_,_,hp,rfl⟩
  ·rw[if_neg jj] at e ⊢;rw[if_neg jj];obtain⟨_,_,⟨t,t',D0,y1,y2,y3,y4,y5⟩,_⟩:=ku o ho (pS o ho e);exact⟨t',D0,by rw[hq _ (hoA o ho e)];exact y2,y5⟩
 ·have h1:=h.st b hb;show st b<=3;have h3:af K.st v 3 b<=3:=by
   by_cases l8:b=v
   ·rw[l8,eqv];omega
   ·rw[ne b l8];exact h1
  rcases uW b with x|x<;>omega
 ·have e:st b=0:=e;have l8:b≠v:=fun x=>by
   subst x;rcases uW b with y|y<;>omega
  have jK:K.st b=0:=by
   rcases uW b with x|x
   ·rw[ne b l8] at x;omega
   ·omega
  have uO:b≠d:=fun x=>by rw[x,D.st] at jK;omega
  rw[hq _ (by omega)];exact h.bl b i hb jK hi
 ·have hf:fo=true:=hf;rcases EF.fr with⟨_,f2,f3,f4,_⟩|⟨_,f2,f3,_⟩
  ·have f2:fb=K.fb:=f2;have f3:fi=K.fi:=f3;have f4:K.fo=true:=f4;show P'.pg (fb*8+i)=_;rw[f2,hq _ (by have:=D.fr f4;omega)];exact h.fr f4 i (by have h1:fi<=i:=h1;omega) h2
  ·have f2:fb=d:=f2;have f3:fi=(l++[dP K (d*8+os.length)]).length:=f3;rw[List.length_append,C.len,List.length_singleton] at f3;have h1:fi<=i:=h1;show P'.pg (fb*8+i)=_;rw[f2,hq _ (by omega)];exact D.bl i (by omega) h2
 ·have e:(decide (K.st b=3)||decide ((b:Int)=(v:Nat)))=true:=e;show st b=3;simp at e;rcases e with e|e
  ·have l8:b≠v:=fun x=>by rw[x] at e;omega
   rcases uW b with x|x
   ·rw[ne b l8] at x;omega
   ·rw[ne b l8] at x;omega
  ·have l8:b=v:=by omega
   rw[l8];rcases uW v with x|x
   ·omega
   ·omega
 ·have e:af A 24 (d*8+os.length+1) o≠0:=e;show st ((af A 24 (d*8+os.length+1) o-1)/8)=2\/fo=true/\fb=(af A 24 (d*8+os.length+1) o-1)/8;have aoP:st d=2\/fo=true/\fb=d:=EF.std;unfold af at e ⊢;by_cases jj:o=24
  ·rw[if_pos jj,Nat.add_sub_cancel,show(d*8+os.length)/8=d by omega];exact aoP
  ·rw[if_neg jj] at e ⊢;have hA:=pS o ho e;rcases(ku o ho hA).2.2.2 with⟨_,x⟩|⟨x,y⟩
   ·have x:(A o-1)/8=d:=x;rw[x];exact aoP
   ·have y:A o=K.at_ o:=y;have l8:(K.at_ o-1)/8≠v:=fun z=>x (cu o (by omega) hA z);rw[y];have h2:=uW ((K.at_ o-1)/8);rw[ne _ l8] at h2;rcases xE o ho hA with z|⟨z1,z2⟩
    ·exact .inl (by omega)
    ·rcases EF.fr with⟨f1,f2,f3,f4,_⟩|⟨f1,f2,f3,f4,_⟩
     ·have f1:fo=true:=f1;have f2:fb=K.fb:=f2;exact .inr ⟨f1,by rw[f2];exact z2⟩
     ·have f4:st K.fb=2:=f4 z1;exact .inl (by rw[<-z2];exact f4)
 ·have fr:=EF.fr;rw[List.length_append,C.len,List.length_singleton] at fr;exact fr
 ·have:=C.aoL M o (by omega) e;show af A 24 (d*8+os.length+1) o≠0/\(af E 24 ⟨K.next,0,false⟩ o).seq=(K.en o).seq;unfold af;rw[if_neg (by omega),if_neg (by omega)];exact this
end
section
variable{P:CS}{p:Nat}{t:Tg}{D:Nat->Nat}
theorem Lk.ie(P:CS)(p B:Nat):Lk P (P.ie B) p/\(P.ie B).pg=P.pg:=by
 unfold CS.ie;by_cases h:0<P.before B
 ·rw[if_pos h];refine⟨⟨fun _ _=>rfl,fun b hb=>?_⟩,rfl⟩;by_cases e:b=B
  ·rw[e];exact .inr (.inl h)
  ·unfold CS.may af at hb;simp only[if_neg e] at hb;exact hb
 ·rw[if_neg h];exact⟨Lk.refl P p,rfl⟩
theorem Lk.bZ(P:CS)(p:Nat)(x:Pg):Lk P (P.bZ p x) p:=⟨fun q hq=>CS.cJ P x hq,fun _ h=>h⟩
theorem ak2{P:CS}{B:Nat}(h:(P.ie B).failed B=true):P.may B:=by
 unfold CS.ie at h;by_cases e:0<P.before B
 ·exact .inr (.inl e)
 ·rw[if_neg e] at h;exact .inl h
theorem abi(hb:P.pg p=.blank):∀n,n<=4->Lk P (P.aO p t D n).1 p/\((P.aO p t D n).2=0/\(P.aO p t D n).1.pg p=(if n=0 then .blank else if n=4 then .full t (cq D) else .cB n)\/(P.aO p t D n).2=8/\nf ((P.aO p t D n).1.pg p)/\P.may (p/8)/\(P.aO p t D n).1.may (p/8))/\∀Q,Q∈P.bC p t D n->Lk P Q p/\nf (Q.pg p)
 |0,_=>⟨Lk.refl P p,.inl ⟨rfl,hb⟩,fun Q h=>by cases h⟩
 | n+1,hn=>by
  obtain⟨h1,h2,h3⟩:=abi hb n (by omega);rcases h2 with⟨e,h2⟩|⟨e,h2,hm⟩
  case inr =>
   have e1:P.aO p t D (n+1)=P.aO p t D n:=if_neg (by rw[e];decide);have e2:P.bC p t D (n+1)=P.bC p t D n:=if_neg (by rw[e];decide);rw[e1,e2];exact⟨h1,.inr ⟨e,h2,hm⟩,h3⟩
  have e1:P.aO p t D (n+1)=(P.aO p t D n).1.wr p n t D:=if_pos e;have e2:P.bC p t D (n+1)=P.bC p t D n++[(P.aO p t D n).1]:=if_pos e;rw[e1,e2];have zm:nf ((P.aO p t D n).1.pg p):=by
   rw[h2];intro t D x;by_cases n0:n=0
   ·rw[if_pos n0] at x;cases x
   ·rw[if_neg n0,if_neg (by omega)] at x;cases x
  obtain⟨k1,k2⟩:=Lk.ie (P.aO p t D n).1 p (p/8);have htr:∀Q,Q∈P.bC p t D n++[(P.aO p t D n).1]->Lk P Q p/\nf (Q.pg p):=fun Q hQ=>by
   rcases List.mem_append.1 hQ with hQ|hQ
   ·exact h3 Q hQ
   ·rw[List.mem_singleton.1 hQ];exact⟨h1,zm⟩
  unfold CS.wr;by_cases hf:((P.aO p t D n).1.ie (p/8)).failed (p/8)=true
  ·rw[if_pos hf];exact⟨h1.trans k1,.inr ⟨rfl,by rw[k2];exact zm,h1.may _ (ak2 hf),.inl hf⟩,htr⟩
  ·rw[if_neg hf];refine⟨(h1.trans k1).trans (Lk.bZ _ _ _),.inl ⟨rfl,?_⟩,htr⟩;rw[CS.dI];by_cases h3:n=3
   ·subst h3;rfl
   ·rw[if_neg h3,if_neg (show ¬n+1=0 by omega),if_neg (show ¬n+1=4 by omega)]
theorem aoQ(hb:P.pg p=.blank):Lk P (P.vo p t D).1 p/\((P.vo p t D).2.1=0/\(P.vo p t D).1.pg p=.full t (cq D)\/(P.vo p t D).2.1=8/\nf ((P.vo p t D).1.pg p)/\P.may (p/8)/\(P.vo p t D).1.may (p/8))/\∀Q,Q∈(P.vo p t D).2.2->Lk P Q p/\nf (Q.pg p):=by
 obtain⟨h1,h2,h3⟩:=abi (P:=P) (p:=p) (t:=t) (D:=D) hb 4 (by omega);have e:P.prog p t D=((P.aO p t D 4).1,(P.aO p t D 4).2,P.bC p t D 4):=by
  unfold CS.prog;rw[hb]
 unfold CS.vo;rw[e];dsimp only;rcases h2 with⟨e,h2⟩|⟨e,h2,hm⟩
 ·rw[if_pos e];exact⟨⟨h1.pg,h1.may⟩,.inl ⟨rfl,h2⟩,h3⟩
 ·rw[if_neg (show ¬(P.aO p t D 4).2=0 by rw[e];decide)];exact⟨h1,.inr ⟨e,h2,hm⟩,h3⟩
theorem aeb(P:CS)(B:Nat):((P.erase B).2=0/\(P.erase B).1=P.dD B/\(∀b,(P.dD B).may b->P.may b))\/((P.erase B).2=8/\(P.erase B).1.pg=P.pg/\P.may B/\∀b,(P.erase B).1.may b->P.may b):=by
 unfold CS.erase;by_cases h:(P.failed B||P.aH B)=true
 ·rw[if_pos h];have hm:P.may B:=by
   rcases Bool.or_eq_true_iff.1 h with h|h
   ·exact .inl h
   ·exact .inr (.inr h)
  refine .inr ⟨rfl,rfl,hm,fun b hb=>?_⟩;by_cases e:b=B
  ·rw[e];exact hm
  ·unfold CS.may af at hb;simp only[if_neg e] at hb;exact hb
 ·rw[if_neg h];refine .inl ⟨rfl,rfl,fun b hb=>?_⟩;by_cases e:b=B
  ·unfold CS.may CS.dD af at hb;simp only[if_pos e] at hb;rcases hb with hb|hb
   ·cases hb
   ·exact .inr hb
  ·unfold CS.may CS.dD af at hb;simp only[if_neg e] at hb;exact hb
end
section
variable{w w':World}{N:Cr}{K:KS}{X:Option Addr}{c:Nat}{P:CS}{b:Option Nat}{n:Int}
def Fin(N:Cr)(X:Option Addr)(c:Nat)(b:Option Nat)(w w':World)(ok:KS->CS->Prop)(dead:CS->Prop):Prop :=
 Aa N.all w w'/\((∃K' P' b' n',(b=none->b'=none)/\On w' N K' P' b' n' X c/\ok K' P')\/(b≠none/\∃Q n',AU w' N.N Q n'/\dead Q))
theorem Ag.two{b:Option Nat}{tr:List CS}{ok:Option Nat->Prop}{dead:CS->Prop}(h:Ag b tr ok dead):(∃b',(b=none->b'=none)/\ok b')\/(b≠none/\∃Q,Q∈tr/\dead Q):=by
 rcases h with⟨_,h⟩|⟨x,hx,e,h⟩
 ·exact .inl ⟨_,fun e=>by rw[e];rfl,h⟩
 ·exact .inr ⟨by rw[e];simp,_,List.getElem_mem hx,h⟩
theorem zn(h:On w N K P b n X c)(B:Hl.HB K.F){p d:Nat}{A:Option Addr}{D:Nat->Nat}{t:Tg}(hp:p<96)(hD:∀j,D j<256)(hl:Ly w 5 1 A 174 d (fun j=>.int .u8 (D j:Nat)))(ht:t.ok)(qw:t.place=p)(hb:P.pg p=.blank) :
  Spec Tryz.prog 109 #[.pointer (some ⟨N.k,0,none⟩),.agg t.arr,.slice A 174 d] w fun v w' =>
   Fin N X c b w w' (fun K' P'=>Lk P P' p/\(v=ak 0/\K'=pG K p/\P'.pg p=.full t (cq D)\/v=ak 8/\K'=K/\nf (P'.pg p)/\P.may (p/8)/\P'.may (p/8))) (fun Q=>v=ak 7/\Lk P Q p/\nf (Q.pg p)):=by
 obtain⟨g1,g2,g3⟩:=aoQ (P:=P) (p:=p) (t:=t) (D:=D) hb;refine Spec.mono (rF h B hp hD hl ht qw) ?_;rintro v w' ⟨k,hr⟩;refine⟨k,?_⟩;rcases hr.two with⟨b',hb',hv,n',h'⟩|⟨hb',Q,hQ,hv,n',h'⟩
 ·refine .inl ⟨_,_,b',n',hb',h',g1,?_⟩;rcases g2 with⟨e,g⟩|⟨e,g,hm⟩
  ·rw[e] at hv ⊢;exact .inl ⟨hv,rfl,g⟩
  ·rw[e] at hv ⊢;exact .inr ⟨hv,rfl,g,hm⟩
 ·exact .inr ⟨hb',Q,n',h',hv,g3 Q hQ⟩
def ic(bad:Bool)(L:List Nat):List Nat:=L.filter fun o => !(bad&&decide (o=24))
theorem aiT(bad:Bool)(L:List Nat)(o:Nat):ic bad (L++[o])=if bad=true/\o=24 then ic bad L else ic bad L++[o]:=by
 unfold ic;rw[List.filter_append];by_cases h:bad=true/\o=24
 ·rw[if_pos h,h.1,h.2];simp
 ·rw[if_neg h];congr 1;have:(!(bad&&decide (o=24)))=true:=by
   cases bad
   ·rfl
   ·have:o≠24:=fun e=>h ⟨rfl,e⟩;simp[this]
  simp[List.filter,this]
theorem ak3{bad:Bool}{L:List Nat}{o:Nat}(h:o∈ic bad L):o∈L:=(List.mem_filter.1 h).1
theorem acW(bad:Bool)(L:List Nat):(ic bad L).length<=L.length:=List.length_filter_le _ _
theorem anj{bad:Bool}{L:List Nat}{o:Nat}(h:o∈L)(hb:bad=false\/o≠24):o∈ic bad L:=List.mem_filter.2 ⟨h,by
 rcases hb with e|e
 ·simp[e]
 ·simp[e]⟩
def tgL(K:KS)(d:Nat)(os:List Nat):List Tg:=(List.range os.length).map fun i=>bm K d i (os.getD i 0)
theorem sJ(K:KS)(d:Nat)(os:List Nat):(tgL K d os).length=os.length:=by simp[tgL]
theorem aiU(K:KS)(d:Nat)(os:List Nat)(o:Nat):tgL K d (os++[o])=tgL K d os++[bm K d os.length o]:=by
 unfold tgL;rw[List.length_append,List.length_singleton,List.range_succ,List.map_append];congr 1
 ·refine List.map_congr_left (fun i hi=>?_);rw[qJ (List.mem_range.1 hi)]
 ·simp only[List.map_cons,List.map_nil,nj]
theorem ak4(K:KS)(d:Nat)(os:List Nat){i:Nat}(hi:i<os.length):(tgL K d os).getD i Tg.zero=bm K d i (os.getD i 0):=by
 unfold tgL;simp[List.getD,hi]
structure Dk(K:KS)(P:CS)(v d:Nat)(bad:Bool):Prop where
 hb:Hl.HB K.F
 uA:∀o,o<25->K.at_ o<=96
 amS:∀p,p<96->K.ow p<=25
 hv:v<12
 hd:d<12
 live:∀o,o∈cc K.ow v->o<=24/\K.at_ o≠0/\(0<=(K.en o).copy/\(K.en o).copy<=255)/\(K.at_ o-1)/8≠d/\∃t D,P.pg (K.at_ o-1)=.full t D/\t.of=o/\t.seq=(K.en o).seq
 blank:∀i,i<8->P.pg (d*8+i)=.blank
 ok:∀i,i<(ic bad (cc K.ow v)).length->(bm K d i ((ic bad (cc K.ow v)).getD i 0)).ok
def Part(K:KS)(P:CS)(d:Nat)(os:List Nat)(Q:CS):Prop:=∃j,j<os.length/\(∀q,q≠d*8+j->Q.pg q=gC K P d (os.take j) q)/\nf (Q.pg (d*8+j))
theorem aec(bad:Bool)(L:List Nat)(i:Nat):ic bad (L.take i)=(ic bad L).take (ic bad (L.take i)).length:=by
 have e:ic bad L=ic bad (L.take i)++ic bad (L.drop i):=by
  unfold ic;rw[<-List.filter_append,List.take_append_drop]
 rw[e,List.take_left]
theorem ak5(h:On w N K P b n X c){v d:Nat}{bad:Bool}(H:Dk K P v d bad) :
  Spec Tryz.prog 148 #[.pointer (some ⟨N.k,0,none⟩),.int .i64 v,.int .i64 d,.bool bad] w fun u w' =>
   Fin N X c b w w' (fun K' P'=>ux K K'/\Hl.HB K'.F/\(∀B,P'.may B->P.may B)/\(Bz (tgL K d (ic bad (cc K.ow v))) w u w'/\(∀q,P'.pg q=gC K P d (ic bad (cc K.ow v)) q)\/u=.tuple #[.slice none 0 0,ak 8]/\P.may d/\Part K P d (ic bad (cc K.ow v)) P')) (fun Q=>u=.tuple #[.slice none 0 0,ak 7]/\Part K P d (ic bad (cc K.ow v)) Q):=by
 obtain⟨i0,hi,lZ,lP,l4⟩:=info_parts uz;have hL8:=oG K.ow v;refine spec_of_wpE (T:=tt) ah func148 rfl (by decide +kernel) ntmps148 (by simp) ?_;conv=>whnf
 repeat ((refine Ld.of h.core.c2 ?_);conv=>whnf)
 refine Ca.of (ahJ h.core.map v H.hv H.amS) ?_;rintro _ w1 ⟨u,rfl,Y,e,rfl,ls,hY,k1⟩;have h1:=h.aj k1;have ari:=acW bad (cc K.ow v);generalize hL:cc K.ow v=L at *;conv=>whnf
 repeat ((first|refine Br.f ?_|refine Ru.ai ?_|refine CW.s ?_);conv=>whnf)
 refine CW.loop (ι:=Nat×Option Addr×Nat×Int×KS×CS×Option Nat) (fun i w'=>i.1<=L.length/\(b=none->i.2.2.2.2.2.2=none)/\ux K i.2.2.2.2.1/\Hl.HB i.2.2.2.2.1.F/\(∀B,i.2.2.2.2.2.1.may B->P.may B)/\(∀q,i.2.2.2.2.2.1.pg q=gC K P d (ic bad (L.take i.1)) q)/\On w' N i.2.2.2.2.1 i.2.2.2.2.2.1 i.2.2.2.2.2.2 i.2.2.2.1 X c /\
   Ls w' Y e L/\Ly w' 67 5 i.2.1 (ic bad (L.take i.1)).length i.2.2.1 (uy (tgL K d (ic bad (L.take i.1))))/\(∀x,x∈aR i.2.1->w.heap.size<=x)/\Aa N.all w w')
  (fun i=>[(0,.pointer (some ⟨N.k,0,none⟩)),(2,.int .i64 d),(3,.bool bad),(12,.slice i.2.1 (ic bad (L.take i.1)).length i.2.2.1),(34,.slice Y L.length e),(35,.int .i64 L.length),(36,.int .i64 i.1)]) (fun i=>L.length-i.1) (0,none,0,n,K,P,b) ah
  ⟨by simp,fun x=>x,⟨K.F,rfl⟩,H.hb,fun _ x=>x,fun q=>by simp only[List.take_zero];exact(if_neg (by simp[ic])).symm,h1,ls,Ly.nil _ _ _ _,by simp[aR],Aa.eA k1⟩ ⟨rfl,rfl,rfl,rfl,rfl,rfl,rfl,trivial⟩ ?_;rintro⟨i,Z,cz,n',K2,P2,b2⟩ wr ⟨hil,eQ,⟨F,fe⟩,hhb,se,bG,hr,hls,hz,hZ,kk⟩;simp only at hil eQ fe hhb se bG hr hls hz hZ kk ⊢;have ck:∀x,w.heap.size<=x->x∉N.all:=fun x hx hm=>by
  have h3:x<w.heap.size:=by
   rcases List.mem_append.1 hm with hm|hm
   ·exact h.core.lt (List.mem_append_left _ hm)
   ·exact h.gT _ hm
  omega
 by_cases av:i<L.length
 ·have ky:L.take (i+1)=L.take i++[L[i]]:=by rw[List.take_add_one,List.getElem?_eq_getElem av];rfl
  have mO:=aiT bad (L.take i) L[i];rw[<-ky] at mO;have iq:=aec bad L (i+1);have alz:=aec bad L i;have ank:=acW bad (L.take i);rw[List.length_take,Nat.min_eq_left hil] at ank;have qE:=H.hd;have wP:=H.live L[i] (by rw[hL];exact List.getElem_mem av);have rv:=H.ok;rw[hL] at rv;have ox:=H.blank (ic bad (L.take i)).length (by omega);have dC:=H.uA L[i] (by omega);have bu:=hls.u9 (by omega);obtain⟨gy,oy,rfl,bu⟩:=bu;have ci:=bu i av;have elf:lf L i=.int .i64 ((L[i]:Nat):Int):=by
   unfold lf;rw[kV L av]
  rw[elf] at ci;generalize jh:ic bad (L.take i)=os at *;generalize hos1:ic bad (L.take (i+1))=os1 at *;generalize L[i]=o at *;obtain⟨ho,h0,hcp,hpd,t,D,ah7,vM,hts⟩:=wP;have eat:K2.at_=K.at_:=by rw[fe]
  have een:K2.en=K.en:=by rw[fe]
  have sa:P2.pg (K.at_ o-1)=.full t D:=by rw[bG,fj hpd];exact ah7
  have aft:P2.pg (d*8+os.length)=.blank:=by
   rw[bG];unfold gC;rw[if_neg (by omega)];exact ox
  clear ox ah7 bu elf;have etg:Tg.mk ((d:Int)*8+os.length) o (K.en o).seq (((K.en o).copy+1)%256) (K.en o).lost=bm K d os.length o:=by
   unfold bm;congr 1
  by_cases abj:bad=true/\o=24
  ·rw[if_pos abj] at mO;subst mO;obtain⟨rfl,rfl⟩:=abj;conv=>whnf
   repeat ((first|(refine Ld.at (by omega) ci ?_)|refine Br.t ?_|refine Pk.t ?_|refine Ix.n ?_|refine Ar.la ?_|refine Br.y ?_|refine CW.s ?_);conv=>whnf)
   exact⟨(i+1,Z,cz,n',K2,P2,b2),⟨av,eQ,⟨F,fe⟩,hhb,se,by simp only[hos1];exact bG,hr,hls,by simp only[hos1];exact hz,hZ,kk⟩,⟨rfl,rfl,rfl,by simp only[hos1];exact rfl,rfl,rfl,vi (by simp only;omega),trivial⟩,by simp only;omega⟩
  rw[if_neg abj] at mO;subst mO;have amE:os.length<(ic bad L).length:=by
   have:=congrArg List.length iq;rw[List.length_take,List.length_append,List.length_singleton] at this;omega
  have hgd:(ic bad L).getD os.length 0=o:=by
   have h2:(os++[o]).getD os.length 0=o:=nj;rw[iq] at h2;rw[<-h2];simp[List.getD,List.getElem?_take]
  have aoR:=rv os.length amE;rw[hgd] at aoR;clear rv;have aoS:os=(ic bad L).take os.length:=alz;clear alz;have qk:bad=false\/bad=true/\¬((o:Nat):Int)=24:=by
   cases bad
   ·exact .inl rfl
   ·exact .inr ⟨rfl,fun x=>abj ⟨rfl,by omega⟩⟩
  clear abj;rcases qk with rfl|⟨rfl,jj⟩
  case' inl =>
   conv=>whnf
   repeat' ((first|(refine Ld.at (by omega) ci ?_)|refine Br.f ?_|refine Pk.f ?_|refine Pk.t ?_|refine Ix.n ?_|refine Br.y ?_|refine CW.s ?_|refine Br.d (fun _=>?_) (fun _=>?_))<;>conv=>whnf)
  case' inr =>
   conv=>whnf
   repeat ((first|(refine Ld.at (by omega) ci ?_)|(refine Br.bF (decide_eq_false jj) ?_)|refine Br.f ?_|refine Pk.f ?_|refine Ix.n ?_|refine Br.y ?_|refine CW.s ?_);conv=>whnf)
  all_goals
   conv=>whnf
   repeat ((refine Ld.of hr.core.c2 ?_);conv=>whnf)
   refine Ca.of (iS hr.core.map o ho (by rw[eat];exact dC)) ?_;rintro _ _ ⟨rfl,rfl⟩;rw[if_neg (by rw[eat];exact h0),eat];conv=>whnf
   repeat ((first|refine Br.f ?_|refine Ru.ai ?_|refine CW.s ?_);conv=>whnf)
   refine Ca.of (jY hr hhb (p:=K.at_ o-1) (by omega)) ?_;rintro _ w2 ⟨R,dv,hR,ji,rfl,h2,k2⟩;unfold Az at hR;rw[sa] at hR;obtain⟨hR1,rfl,hR3,hR4,hR5⟩:=hR;rcases ji with⟨-,O,oc,rfl,hO,zA⟩|⟨hs,-⟩
   case inr=>rw[hR3] at hs;cases hs
   rw[hR1,hR3];have c2:w2.cell? ⟨gy,oy+i,none⟩=some (.int .i64 (o:Nat)):=by
    rw[k2.cell (aI ci) (ck gy (hY gy (List.mem_singleton.2 rfl)))];exact ci
   conv=>whnf
   refine Ru.aF (cv w2) ?_;intro x17 w3 hx17 gG r17a k3;conv=>whnf
   refine Ru.eS r17a (fun j hj=>gH rfl j hj) ?_;intro w4 r17 k4;have q4:Aa [] w2 w4:=k3.then k4 (fun x hx=>.inr (by rw[List.mem_singleton.1 hx,hx17];exact Nat.le_refl _));have h4:=h2.aj q4;have yH:=zA.aj q4;have k2:=k2.trans (Aa.eA q4);clear k3 k4 q4 h2 zA gG r17a hx17 c2 w3;conv=>whnf
   repeat ((first|(refine Ix.of o (by omega) (by omega) ?_)|refine Br.f ?_|refine Ru.ai ?_|refine CW.s ?_);conv=>whnf)
   rw[show 0+7+o*3=7+3*o by omega];refine Ru.cG (q:=(K.en o).cell) h4.core.row underlying140 rfl dK (by omega) (fun j hj=>by rw[iF ho hj, <-een];rfl) ?_;conv=>whnf
   refine Ru.aF (kh w4) ?_;intro x18 w5 hx18 wu r18a k5;conv=>whnf
   refine Ru.gY r18a dK (by omega) (fun j hj=>En.bH _) ?_;intro w6 r18b k6;have r18:Row w6 x18 140 3 (K.en o).cell:=r18b.congr (fun j hj=>by unfold lay;rw[if_pos (by omega),Nat.sub_zero]);have q6:Aa [] w4 w6:=k5.then k6 (fun x hx=>.inr (by rw[List.mem_singleton.1 hx,hx18];exact Nat.le_refl _));have h6:=h4.aj q6;have ly6:=yH.aj q6;have ah8:=r17.ab q6 (by simp);have k2:=k2.trans (Aa.eA q6);clear k5 k6 q6 h4 yH wu r18a r18b hx18 r17 w5;have e0:(K.en o).cell 0=.int .i64 (K.en o).seq:=rfl;have e1:(K.en o).cell 1=.int .i64 (K.en o).copy:=rfl;have e2:(K.en o).cell 2=.bool (K.en o).lost:=rfl;have d0:w6.cell? ⟨x18,0,none⟩=some (.int .i64 (K.en o).seq):=r18.cell 0 (by omega);have d1:w6.cell? ⟨x18,1,none⟩=some (.int .i64 (K.en o).copy):=r18.cell 1 (by omega);have d2:w6.cell? ⟨x18,2,none⟩=some (.bool (K.en o).lost):=r18.cell 2 (by omega);conv=>whnf
   repeat ((first|(refine Ld.of d0 ?_)|(refine Ld.of d1 ?_)|(refine Ld.of d2 ?_)|refine Ar.la ?_);conv=>whnf)
   refine Ru.of (tK _ _ _ _ _ _) ?_;rw[ah5 hcp,etg];conv=>whnf
   refine Ru.fp ?_;intro x19 w7 hx19 hs7 r19a k7;conv=>whnf
   refine Ru.kQ r19a ?_;intro w8 r19 k8;have q8:Aa [] w6 w8:=k7.then k8 (fun x hx=>.inr (by rw[List.mem_singleton.1 hx,hx19];exact Nat.le_refl _));have h8:=h6.aj q8;have ly8:=ly6.aj q8;have y8:=ah8.ab q8 (by simp);have amT:=r18.ab q8 (by simp);have ah9:w.heap.size<=x19:=by
    rw[hx19];have:=k2.size;have:=kk.size;omega
   have k2:=k2.trans (Aa.eA q8);clear k7 k8 q8 h6 ly6 hs7 r19a hx19 ah8 r18 d0 d1 d2 w7;have p1:w8.cell? ⟨x17,2,none⟩=some (.int .i64 R.tag.of):=y8.cell 2 (by omega);have p2:w8.cell? ⟨x17,3,none⟩=some (.int .i64 R.tag.seq):=y8.cell 3 (by omega);have p3:w8.cell? ⟨x17,6,none⟩=some (.bool true):=y8.cell 6 (by omega);have p4:w8.cell? ⟨x17,7,none⟩=some (.slice O 174 oc):=y8.cell 7 (by omega);have d0:w8.cell? ⟨x18,0,none⟩=some (.int .i64 (K.en o).seq):=amT.cell 0 (by omega);rw[vM] at p1;rw[hts] at p2;conv=>whnf
   repeat ((first|(refine Ld.at (by omega) p4 ?_)|(refine Ld.at (by omega) p1 ?_)|(refine Ld.at (by omega) p2 ?_)|(refine Ld.at (by omega) p3 ?_)|(refine Ld.at (by omega) d0 ?_)|refine Br.t ?_|refine Pk.t ?_|refine Br.y ?_|refine CW.s ?_);conv=>whnf)
   refine Ru.fF r19 ?_;conv=>whnf
   obtain⟨-,-,hD,hDc⟩:=hr.full (p:=K.at_ o-1) (by omega) sa;have lyD:Ly w8 5 1 O 174 oc (fun j=>.int .u8 (D j:Nat)):=ly8.congr (fun j hj=>by
    rw[<-hR4];unfold cq;rw[if_pos (by omega)])
   refine Ca.of (zn h8 (hhb.rd (by omega)) (p:=d*8+os.length) (by omega) hD lyD aoR rfl aft) ?_;rintro _ w9 ⟨k9,hr9⟩;have k29:=k2.trans k9;have z9:=hz.ab k29 (fun x hx=>ck x (hZ x hx));have ls9:=hls.ab k29 (fun x hx=>ck x (hY x hx));have amU:bj P2 (K.at_ o-1)=D:=bI sa;have aoT:bj P (K.at_ o-1)=D:=by
    rw[<-amU];exact dG (by rw[bG,fj hpd])
   have amV:=r19.ab k9 (ck x19 ah9);have abk:∀Q:CS,Lk (P2.bL (K.at_ o-1)) Q (d*8+os.length)->nf (Q.pg (d*8+os.length))->Part K P d (ic _ L) Q:=fun Q g1 g2=>⟨os.length,amE,fun q hq=>by rw[<-aoS,g1.pg q hq];exact bG q,g2⟩
   rcases hr9 with⟨K9,P9,b9,n9,hb9,h9,g1,⟨rfl,rfl,g2⟩|⟨rfl,rfl,g2,g3,-⟩⟩|⟨hb9,Q,n9,h9,rfl,g1,g2⟩
   ·conv=>whnf
    repeat ((first|refine Br.f ?_|refine Ru.ai ?_);conv=>whnf)
    refine Ru.fF amV ?_;conv=>whnf
    refine Ru.of (uB _ _) ?_;have ka:Aa [] w9 (w9.alloc (.cells (bm K d os.length o).arr 67)):=(Aa.refl _ _).alloc _;have ha:Rd (w9.alloc (.cells (bm K d os.length o).arr 67)) (some ⟨w9.heap.size,0,none⟩) (1*5) (bm K d os.length o).cell:=fun _=>⟨w9.heap.size,0,rfl,fun j hj=>(Row.tg (heap_alloc_new _ _)).ah6 j hj⟩
    generalize w9.alloc _=yy at *;conv=>whnf
    refine Bu.append underlying239 hi lZ lP l4 rfl (by omega) (z9.aj ka) _ ha (by omega) (by simp) (fun j hj=>tH _ j hj) (by simp only[maxLen];omega) (by omega) ?_;intro Z2 cz2 zy hz11 lD hat11 hpre11;have aia:=ls9.aj ka;have z10:=z9.aj ka;have sA:=h.dN (h9.aj ka) lD hZ;have amW:=aia.ab lD (fun x hx hm=>(aia.mL z10 (by decide) hx) hm);have qG:Aa N.all w yy:=(kk.trans k29).trans (Aa.eA ka);have aib:Aa N.all w zy:=qG.then lD (fun x hx=>.inr (hZ x hx));conv=>whnf
    repeat (refine Ar.la ?_;conv=>whnf)
    refine⟨(i+1,Z2,cz2,n9,pG (pG K2 (K.at_ o-1)) (d*8+os.length),P9,b9),⟨av,fun x=>hb9 (eQ x),⟨Hl.qB (Hl.qB F ((K.at_ o-1)/8)) ((d*8+os.length)/8),by simp only[fe];rfl⟩,(hhb.rd (by omega)).rd (by omega),fun B hB=>se B (g1.may B hB),fun q=>?_,sA,amW,?_,?_,aib⟩,⟨rfl,rfl,rfl,?_,rfl,rfl,vi (by simp only;omega),trivial⟩,by simp only;omega⟩
    ·simp only[hos1];rw[xk (by omega)];by_cases hq:q=d*8+os.length
     ·rw[if_pos hq,hq,g2,aoT]
     ·rw[if_neg hq,g1.pg q hq];exact bG q
    ·simp only[hos1];rw[aiU,List.length_append,List.length_singleton];exact hz11.congr (fun j hj=>qD (sJ K d os) j hj)
    ·intro x hx;rcases hat11 with e'|e'
     ·rw[e'] at hx;exact hZ x hx
     ·rw[e'] at hx;rw[List.mem_singleton.1 hx];exact qG.size
    ·simp only[hos1,List.length_append,List.length_singleton];exact rfl
   ·conv=>whnf
    repeat ((first|refine Br.t ?_|refine Ru.n1 ?_);conv=>whnf)
    exact⟨rfl,kk.trans k29,.inl ⟨_,P9,b9,n9,fun x=>hb9 (eQ x),h9,⟨Hl.qB F ((K.at_ o-1)/8),by rw[fe];rfl⟩,hhb.rd (by omega),fun B hB=>se B (g1.may B hB),.inr ⟨rfl,by
     have:=se _ g3;rw[show(d*8+os.length)/8=d by omega] at this;exact this,abk P9 g1 g2⟩⟩⟩
   ·conv=>whnf
    repeat ((first|refine Br.t ?_|refine Ru.n1 ?_);conv=>whnf)
    exact⟨rfl,kk.trans k29,.inr ⟨fun x=>hb9 (eQ x),Q,n9,h9,rfl,abk Q g1 g2⟩⟩
 ·obtain rfl:i=L.length:=by omega
  rw[List.take_length] at *;conv=>whnf
  repeat ((first|refine Br.n ?_|refine CW.s ?_);conv=>whnf)
  exact⟨rfl,kk,.inl ⟨K2,P2,b2,n',eQ,hr,⟨F,fe⟩,hhb,se,.inl ⟨⟨Z,cz,by rw[sJ];rfl,by rw[sJ];exact hz,hZ⟩,bG⟩⟩⟩
end
section
variable{a a':Nat->Nat->Nat}{k k':Cp}{K K':KS}{P P':CS}
theorem Wi.afE(h:Wi a k K P){b:Nat}(hb:b<12)(hf:K.fo=true->K.fb≠b)(hd:(∀o,o<25->K.at_ o≠0->(K.at_ o-1)/8≠b)\/aA (af K.st b 3)=true)(F:Nat->Int)(hF:Hl.HB F):Wi a k { K with st:=af K.st b 3,F:=F } P:=by
 have ne:∀x,x≠b->af K.st b 3 x=K.st x:=fun x hx=>if_neg hx;have eq:af K.st b 3 b=3:=if_pos rfl;refine⟨h.mt,h.sh,h.en,h.fl,h.nx,h.fh,hF,h.cur,fun x hx=>?_,h.pn,h.fb,h.fi,fun x i hx e hi=>?_,fun fT=>?_,h.fr,fun x hx e=>?_,fun hw o ho e=>?_⟩
 ·show af K.st b 3 x<=3;by_cases po:x=b
  ·rw[po,eq];omega
  ·rw[ne x po];exact h.st x hx
 ·have e:af K.st b 3 x=0:=e;by_cases po:x=b
  ·rw[po,eq] at e;omega
  ·rw[ne x po] at e;exact h.bl x i hx e hi
 ·show af K.st b 3 K.fb=1;rw[ne _ (hf fT)];exact h.f1 fT
 ·show af K.st b 3 x=3;by_cases po:x=b
  ·rw[po,eq]
  ·rw[ne x po];exact h.bad x hx e
 ·have hw2:aA (af K.st b 3)=false:=hw;rcases hd with hd|hd
  ·show af K.st b 3 ((K.at_ o-1)/8)=2\/_;rw[ne _ (hd o ho e)];exact h.live (kt (fun x hx e=>by
    by_cases po:x=b
    ·rw[po,eq]
    ·rw[ne x po];exact e) hw2) o ho e
  ·rw[hd] at hw2
   cases hw2
theorem Wi.aqx(h:Wi a k K P){d:Nat}(hd:d<12)(h1:K.st d=1)(hf:K.fo=true->K.fb≠d):Wi a k { K with st:=af K.st d 2 } P:=by
 have ne:∀x,x≠d->af K.st d 2 x=K.st x:=fun x hx=>if_neg hx;have eq:af K.st d 2 d=2:=if_pos rfl;refine⟨h.mt,h.sh,h.en,h.fl,h.nx,h.fh,h.hb,h.cur,fun x hx=>?_,h.pn,h.fb,h.fi,fun x i hx e hi=>?_,fun fT=>?_,h.fr,fun x hx e=>?_,fun hw o ho e=>?_⟩
 ·show af K.st d 2 x<=3;by_cases po:x=d
  ·rw[po,eq];omega
  ·rw[ne x po];exact h.st x hx
 ·have e:af K.st d 2 x=0:=e;by_cases po:x=d
  ·rw[po,eq] at e;omega
  ·rw[ne x po] at e;exact h.bl x i hx e hi
 ·show af K.st d 2 K.fb=1;rw[ne _ (hf fT)];exact h.f1 fT
 ·have:=h.bad x hx e;show af K.st d 2 x=3;rw[ne x (fun y=>by rw[y] at this;omega)];exact this
 ·have hw':aA K.st=false:=kt (fun x hx e=>by
   show af K.st d 2 x=3;rw[ne x (fun y=>by rw[y] at e;omega)];exact e) hw
  show af K.st d 2 ((K.at_ o-1)/8)=2\/_;by_cases po:(K.at_ o-1)/8=d
  ·rw[po,eq];exact .inl rfl
  ·rw[ne _ po];exact h.live hw' o ho e
theorem Wi.seq(h:Wi a k K P)(hn:K.next<1099511627775):Wi a k (bS K) P :=
 ⟨h.mt.mono (by show K.next<=K.next+1;omega),h.sh,h.en,h.fl,by have:=h.nx;show 1<=K.next+1/\K.next+1<=_;omega,h.fh,h.hb,h.cur,h.st,h.pn,h.fb,h.fi,h.bl,h.f1,h.fr,h.bad,h.live⟩
theorem Wi.next(h:Wi a k K P){of:Nat}(hr:aJ K.fo K.fi of=true):Wi a k (tkK K) P:=by
 have h8:K.fi<8:=by
  unfold aJ at hr;simp at hr;exact hr.2.1
 exact⟨h.mt,h.sh,h.en,h.fl,h.nx,h.fh,h.hb,h.cur,h.st,h.pn,h.fb,by show K.fi+1<=8;omega,h.bl,h.f1,fun hf i h1 h2=>h.fr hf i (by have h1:K.fi+1<=i:=h1;omega) h2,h.bad,h.live⟩
theorem Wi.ni(h:Wi a k K P)(hf:K.fo=false){d:Nat}(ht:takeN K.st K.pn=some d):Wi a k { K with st:=af K.st d 1,pn:=d+1,fo:=true,fb:=d,fi:=0 } P:=by
 obtain⟨T,D⟩:=h.take ht
 exact⟨T.mt,T.sh,T.en,T.fl,T.nx,T.fh,T.hb,T.cur,T.st,T.pn,D.lt,by show 0<=8;omega,T.bl,fun _=>D.st,fun _ i h1 h2=>D.bl i (Nat.zero_le _) h2,T.bad,fun hw o ho e=>by
  rcases T.live hw o ho e with x|⟨x,_⟩
  ·exact .inl x
  ·have x:K.fo=true:=x;rw[hf] at x;cases x⟩
theorem Wi.close(h:Wi a k K P)(hd:∀o,o<25->K.at_ o≠0->(K.at_ o-1)/8≠K.fb):Wi a k { K with fo:=false,fb:=0,fi:=0 } P :=
 ⟨h.mt,h.sh,h.en,h.fl,h.nx,h.fh,h.hb,h.cur,h.st,h.pn,by show 0<12;omega,by show 0<=8;omega,h.bl,fun x=>(by cases x),fun x=>(by cases x),h.bad,fun hw o ho e=>by
  rcases h.live hw o ho e with x|⟨x,y⟩
  ·exact .inl x
  ·exact absurd y.symm (hd o ho e)⟩
structure Cx(K:KS)(P:CS)(of:Nat):Prop where
 fo:K.fo=true
 fi:K.fi<8
 lt:K.fb*8+K.fi<96
 bl:P.pg (K.fb*8+K.fi)=.blank
 hh:bp (K.fb*8+K.fi) of=true
 st:K.st K.fb=1
theorem Wi.fresh(h:Wi a k K P){of:Nat}(ho:of<=24)(hr:aJ K.fo K.fi of=true):Cx K P of:=by
 unfold aJ at hr;simp only[Bool.and_eq_true,decide_eq_true_eq] at hr;obtain⟨h1,h2,h3⟩:=hr;have pZ:=h.fb;exact⟨h1,h2,by omega,h.fr h1 _ (Nat.le_refl _) h2,by rw[wT _ _ _ h2];exact h3,h.f1 h1⟩
theorem mD{K:KS}{P:CS}{of:Nat}(ho:of<=24)(F:Cx K P of)(hn:1<=K.next/\K.next<1099511627775):(dk K of).ok:=by
 have h1:=F.lt;have h2:=F.hh;unfold bp at h2;unfold Tg.ok dk;simp only;refine⟨by omega,by omega,by omega,by omega,by omega,by omega,by omega,by omega,fun x=>trivial,fun hx=>?_⟩;simp at h2;omega
theorem Wi.ly(h:Wi a k K P){of:Nat}(ho:of<=24)(hr:aJ K.fo K.fi of=true)(hn:K.next<1099511627775)(hq:∀q,q≠K.fb*8+K.fi->P'.pg q=P.pg q){D:Nat->Nat}(hp:P'.pg (K.fb*8+K.fi)=.full (dk K of) D)
  (mt:Mt P' k' (af K.at_ of (K.fb*8+K.fi+1)) (K.next+1)) (sh:Ac P' (af K.at_ of (K.fb*8+K.fi+1)) a') (hk:∀o,o<24->k'.fl o=K.fl o) (cL:∀b,b<12->k'.bad b=true->K.st b=3) :
  Wi a' k' (cy K of) P'/\∃ow F calls,cy K of={ K with next:=K.next+1,fi:=K.fi+1,at_:=af K.at_ of (K.fb*8+K.fi+1),ow:=ow,en:=af K.en of ⟨K.next,0,false⟩,F:=F,calls:=calls }:=by
 have Fr:=h.fresh ho hr;have h96:=Fr.lt;have how:K.ow (K.fb*8+K.fi)=0:=by
  by_cases hx:K.ow (K.fb*8+K.fi)=0
  ·exact hx
  ·obtain⟨y1,y2⟩:=h.fh.o _ h96 hx;obtain⟨_,t,D,e1,_⟩:=h.cM (o:=K.ow (K.fb*8+K.fi)-1) (by omega) (by omega);rw[y2,Nat.add_sub_cancel,Fr.bl] at e1
   cases e1
 obtain⟨c1,c2⟩:=h.fh.set (o:=of) (by omega) h96 how Fr.hh;have ee:∃F calls,Hl.HB F/\cy K of={ K with next:=K.next+1,fi:=K.fi+1,at_:=af K.at_ of (K.fb*8+K.fi+1),ow:=(setAt K.at_ K.ow of (K.fb*8+K.fi)).2,en:=af K.en of ⟨K.next,0,false⟩,F:=F,calls:=calls }:=by
  have hF:Hl.HB (Hl.qB K.F ((K.fb*8+K.fi)/8)):=h.hb.rd (by omega);unfold cy anK;by_cases jj:of=24
  ·rw[if_pos jj];refine⟨Hl.ntF (Hl.qB K.F ((K.fb*8+K.fi)/8)),0,hF.nt,?_⟩;unfold stK;simp only[<-c2];rfl
  ·rw[if_neg jj];refine⟨_,K.calls,hF,?_⟩;unfold stK;simp only[<-c2];rfl
 obtain⟨F,calls,hF,ee⟩:=ee;rw[ee];rw[c2] at c1;generalize (setAt K.at_ K.ow of (K.fb*8+K.fi)).2=ow at *;refine⟨⟨mt,sh,fun o jE e=>?_,hk,by have:=h.nx;show 1<=K.next+1/\K.next+1<=_;omega,c1,hF,h.cur,h.st,h.pn,h.fb,by have:=Fr.fi;show K.fi+1<=8;omega,fun b i hb e hi=>?_,h.f1,fun hf i h1 h2=>?_,cL,fun hw o jE e=>?_⟩,_,_,_,rfl⟩
 ·have e:af K.at_ of (K.fb*8+K.fi+1) o≠0:=e;show ∃t D,P'.pg (af K.at_ of (K.fb*8+K.fi+1) o-1)=.full t D/\af K.en of ⟨K.next,0,false⟩ o=_;unfold af at e ⊢;by_cases hoo:o=of
  ·rw[if_pos hoo,if_pos hoo,Nat.add_sub_cancel];exact⟨_,_,hp,rfl⟩
  ·rw[if_neg hoo] at e ⊢;rw[if_neg hoo];obtain⟨t,D',e1,e2⟩:=h.en o jE e;exact⟨t,D',by rw[hq _ (fun x=>by rw[x,Fr.bl] at e1;cases e1)];exact e1,e2⟩
 ·have e:K.st b=0:=e;rw[hq _ (fun x=>by
   have h1:=Fr.st;have h2:=Fr.fi;rw[show K.fb=b by omega] at h1;omega)]
  exact h.bl b i hb e hi
 ·have h1:K.fi+1<=i:=h1;rw[show({ K with next:=K.next+1,fi:=K.fi+1,at_:=af K.at_ of (K.fb*8+K.fi+1),ow:=ow,en:=af K.en of ⟨K.next,0,false⟩,F:=F,calls:=calls }:KS).fb=K.fb from rfl,hq _ (by omega)];exact h.fr Fr.fo i (by omega) h2
 ·have e:af K.at_ of (K.fb*8+K.fi+1) o≠0:=e;show K.st ((af K.at_ of (K.fb*8+K.fi+1) o-1)/8)=2\/K.fo=true/\K.fb=(af K.at_ of (K.fb*8+K.fi+1) o-1)/8;unfold af at e ⊢;by_cases hoo:o=of
  ·rw[if_pos hoo,Nat.add_sub_cancel];exact .inr ⟨Fr.fo,by have:=Fr.fi;omega⟩
  ·rw[if_neg hoo] at e ⊢;exact h.live hw o jE e
theorem aed(h:Wi a k K P)(hw:aA K.st=false){o:Nat}(ho:o<25)(e:K.at_ o≠0):K.st ((K.at_ o-1)/8)≠3:=fun x=>by
 rcases h.live hw o ho e with y|⟨y1,y2⟩
 ·omega
 ·have:=h.f1 y1;rw[y2] at this;omega
theorem pT(K:KS)(s:Int){b:Nat}(h:K.st b≠3):(iv K s (-1)).bad b=false:=by
 show(decide (K.st b=3)||decide ((b:Int) = -1))=false;simp;first|exact h|exact⟨h,by omega⟩
theorem xF(K:KS)(s:Int){b:Nat}(h:(iv K s (-1)).bad b=true):K.st b=3:=by
 have h:(decide (K.st b=3)||decide ((b:Int) = -1))=true:=h;simp at h;first|exact h|omega
theorem Wi.uX(h:Wi a k K P)(hw:aA K.st=false)(hr:aJ K.fo K.fi 24=true)(hn:K.next<1099511627775)(hq:∀q,q≠K.fb*8+K.fi->P'.pg q=P.pg q)(hp:P'.pg (K.fb*8+K.fi)=.full (dk K 24) (aZ (bS K) K.next)) :
  Wi a (iv (bS K) K.next (-1)) (cy K 24) P'/\∃ow F calls,cy K 24={ K with next:=K.next+1,fi:=K.fi+1,at_:=af K.at_ 24 (K.fb*8+K.fi+1),ow:=ow,en:=af K.en 24 ⟨K.next,0,false⟩,F:=F,calls:=calls }:=by
 have Fr:=h.fresh (Nat.le_refl 24) hr;have zm:nf (P.pg (K.fb*8+K.fi)):=by rw[Fr.bl];intro t D x;cases x
 have pZ:(K.fb*8+K.fi)/8=K.fb:=by have:=Fr.fi;omega
 obtain⟨mt,sh⟩:=h.mt.aiS (p:=K.fb*8+K.fi) (s:=K.next) (k':=iv (bS K) K.next (-1)) (L':=af K.at_ 24 (K.fb*8+K.fi+1)) (Int.le_refl _) Fr.lt zm hq hp
  ⟨mD (Nat.le_refl _) Fr ⟨h.nx.1,hn⟩,rfl,rfl,iX _,gI _⟩ rfl rfl (jd h (by have:=h.nx;omega) _) (Int.le_refl _) (fun b hb e=>by
   show(decide (K.st b=3)||_)=true;rw[h.bad b hb e];rfl)
  (pT (bS K) _ (by rw[pZ];show K.st K.fb≠3;rw[Fr.st];omega)) (if_pos rfl)
  (fun o ho=>.inl ⟨if_neg (by omega),(h.fl o ho).symm,fun e=>pT (bS K) _ (aed h hw (by omega) e)⟩)
 exact h.ly (Nat.le_refl _) hr hn hq hp mt (sh a a h.sh (fun o ho=>⟨fun _ j hj=>rfl,fun x y j hj=>by
  unfold af at x;rw[if_neg (by omega)] at x;exact absurd x y⟩)) (fun _ _=>rfl) (fun b hb e=>xF (bS K) _ e)
theorem Wi.put(h:Wi a k K P){s:Nat}(hs:s<24)(hr:aJ K.fo K.fi s=true)(hn:K.next<1099511627775){f:Nat->Nat}(hf:∀j,f j<256)(hq:∀q,q≠K.fb*8+K.fi->P'.pg q=P.pg q)(hp:P'.pg (K.fb*8+K.fi)=.full (dk K s) (dO f (bS K) K.next)) :
  Wi (gU a s f) k (cy K s) P'/\∃ow F calls,cy K s={ K with next:=K.next+1,fi:=K.fi+1,at_:=af K.at_ s (K.fb*8+K.fi+1),ow:=ow,en:=af K.en s ⟨K.next,0,false⟩,F:=F,calls:=calls }:=by
 have Fr:=h.fresh (of:=s) (by omega) hr;have zm:nf (P.pg (K.fb*8+K.fi)):=by rw[Fr.bl];intro t D x;cases x
 have pZ:(K.fb*8+K.fi)/8=K.fb:=by have:=Fr.fi;omega
 obtain⟨mt,sh⟩:=h.mt.new (p:=K.fb*8+K.fi) (s:=K.next) (Int.le_refl _) Fr.lt (by rw[pZ];exact h.acV h.fb (by rw[Fr.st];omega)) zm hq hp
  ⟨mD (by omega) Fr ⟨h.nx.1,hn⟩,rfl,rfl,fun j=>by
   unfold dO;split
   ·exact hf j
   ·omega,by
   funext j;unfold cq dO;by_cases h:j<174
   ·rw[if_pos h]
   ·rw[if_neg h,if_neg (by omega)]⟩ rfl hs rfl
 exact h.ly (by omega) hr hn hq hp mt (sh a f h.sh (fun j hj=>if_pos hj)) h.fl h.bad
theorem Wi.trimmed(h:Wi a k K P)(hw:aA K.st=false){s:Nat}(hs:s<24)(h0:K.at_ s≠0)(hr:aJ K.fo K.fi 24=true)(hn:K.next<1099511627775)(hq:∀q,q≠K.fb*8+K.fi->P'.pg q=P.pg q)(hp:P'.pg (K.fb*8+K.fi)=.full (dk K 24) (dp s (K.en s).seq (bS K) K.next)) :
  Wi (gU a s (fun _=>0)) (vQ (bS K) s (K.en s).seq K.next) (zf (sH (cy K 24) s (K.en s).seq) s) P':=by
 have Fr:=h.fresh (Nat.le_refl 24) hr;have zm:nf (P.pg (K.fb*8+K.fi)):=by rw[Fr.bl];intro t D x;cases x
 have pZ:(K.fb*8+K.fi)/8=K.fb:=by have:=Fr.fi;omega
 obtain⟨hp0,t0,D0,a2,a3,a4,a5,a6,a7,a8,a9⟩:=h.cM (o:=s) (by omega) h0;have pk:(K.en s).seq=t0.seq:=by rw[a3]
 have hsb:0<=(K.en s).seq/\(K.en s).seq<=1099511627775:=by
  rw[pk];unfold Tg.ok at a5;omega
 have anl:∀o,af K.fl s (K.en s).seq o=if o=s then (K.en s).seq else K.fl o:=fun o=>rfl;have told:(vQ (bS K) s (K.en s).seq K.next).told:=by
  have T:=jd h (s:=K.next) (by have:=h.nx;omega) (-1);exact⟨T.next,T.cur,fun o ho=>by
   show 0<=af K.fl s (K.en s).seq o/\af K.fl s (K.en s).seq o<=_;rw[anl];split
   ·exact hsb
   ·exact h.fge o ho,T.rd,T.sc⟩
 have pt:∀L':Nat->Nat,L' 24=K.fb*8+K.fi+1->(∀o,o<24->(o≠s->L' o=K.at_ o)/\(o=s->L' o=0))->Mt P' (vQ (bS K) s (K.en s).seq K.next) L' (K.next+1)/\Ac P' L' (gU a s (fun _=>0)):=fun L' jj hL=>by
  obtain⟨mt,sh⟩:=h.mt.aiS (p:=K.fb*8+K.fi) (s:=K.next) (k':=vQ (bS K) s (K.en s).seq K.next) (L':=L') (Int.le_refl _) Fr.lt zm hq hp
   ⟨mD (Nat.le_refl _) Fr ⟨h.nx.1,hn⟩,rfl,rfl,iX _,gI _⟩ rfl rfl told (Int.le_refl _) (fun b hb e=>by
    show(decide (K.st b=3)||_)=true;rw[h.bad b hb e];rfl)
   (pT (bS K) K.next (by rw[pZ];show K.st K.fb≠3;rw[Fr.st];omega)) jj
   (fun o ho=>by
    by_cases jh:o=s
    ·exact .inr ⟨(hL o ho).2 jh,by rw[jh];exact h0,t0,D0,by rw[jh];exact a2,by
      show af K.fl s (K.en s).seq o=t0.seq;rw[anl,if_pos jh,pk]⟩
    ·exact .inl ⟨(hL o ho).1 jh,by
      show af K.fl s (K.en s).seq o=k.fl o;rw[anl,if_neg jh,h.fl o ho],fun e=>pT (bS K) K.next (aed h hw (by omega) e)⟩)
  refine⟨mt,sh a _ h.sh (fun o ho=>⟨fun x j hj=>?_,fun x y j hj=>?_⟩)⟩
  ·unfold gU;by_cases jh:o=s
   ·have:=(hL o ho).2 jh;rw[jh] at this x;exact absurd (this ▸ x).symm h0
   ·rw[if_neg jh]
  ·unfold gU;by_cases jh:o=s
   ·rw[if_pos jh]
   ·rw[(hL o ho).1 jh] at x;exact absurd x y
 -- what the core knows
 have N:=h.seq hn;have how:K.ow (K.fb*8+K.fi)=0:=by
  by_cases hx:K.ow (K.fb*8+K.fi)=0
  ·exact hx
  ·obtain⟨y1,y2⟩:=h.fh.o _ Fr.lt hx;obtain⟨_,t,D,e1,_⟩:=h.cM (o:=K.ow (K.fb*8+K.fi)-1) (by omega) (by omega);rw[y2,Nat.add_sub_cancel,Fr.bl] at e1
   cases e1
 obtain⟨c1,c2⟩:=h.fh.set (o:=24) (by omega) Fr.lt how Fr.hh;have hF:Hl.HB (Hl.ntF (Hl.qB K.F ((K.fb*8+K.fi)/8))):=(h.hb.rd (by have:=Fr.lt;omega)).nt;have ee:cy K 24={ K with next:=K.next+1,fi:=K.fi+1,at_:=af K.at_ 24 (K.fb*8+K.fi+1),ow:=(setAt K.at_ K.ow 24 (K.fb*8+K.fi)).2,en:=af K.en 24 ⟨K.next,0,false⟩,F:=Hl.ntF (Hl.qB K.F ((K.fb*8+K.fi)/8)),calls:=0 }:=by
  unfold cy anK;rw[if_pos rfl];unfold stK;simp only[<-c2];rfl
 rw[c2] at c1;generalize (setAt K.at_ K.ow 24 (K.fb*8+K.fi)).2=ow at *;have hss:af K.at_ 24 (K.fb*8+K.fi+1) s≠0:=by
  unfold af;rw[if_neg (by omega)];exact h0
 have c3:=c1.drop (o:=s) (by omega) hss;unfold zf sH;rw[ee];obtain⟨mt,sh⟩:=pt (af (af K.at_ 24 (K.fb*8+K.fi+1)) s 0) (by unfold af;rw[if_neg (by omega),if_pos rfl]) (fun o ho=>⟨fun x=>by unfold af;rw[if_neg x,if_neg (by omega)],fun x=>by unfold af;rw[if_pos x]⟩);have back:∀o,af (af K.at_ 24 (K.fb*8+K.fi+1)) s 0 o≠0->(o=24/\af (af K.at_ 24 (K.fb*8+K.fi+1)) s 0 o=K.fb*8+K.fi+1)\/(o≠24/\af (af K.at_ 24 (K.fb*8+K.fi+1)) s 0 o=K.at_ o/\K.at_ o≠0):=fun o e=>by
  unfold af at e ⊢;by_cases e1:o=s
  ·rw[if_pos e1] at e;exact absurd rfl e
  ·rw[if_neg e1] at e ⊢;by_cases e2:o=24
   ·rw[if_pos e2];exact .inl ⟨e2,rfl⟩
   ·rw[if_neg e2] at e ⊢;exact .inr ⟨e2,rfl,e⟩
 refine⟨mt,sh,fun o ho e=>?_,fun _ _=>rfl,by have:=h.nx;show 1<=K.next+1/\K.next+1<=_;omega,c3,hF,h.cur,h.st,h.pn,h.fb,by have:=Fr.fi;show K.fi+1<=8;omega,fun b i hb e hi=>?_,h.f1,fun hf i h1 h2=>?_,fun b hb e=>xF (bS K) K.next e,fun hw o ho e=>?_⟩
 ·show ∃t D,P'.pg (af (af K.at_ 24 (K.fb*8+K.fi+1)) s 0 o-1)=.full t D/\af K.en 24 ⟨K.next,0,false⟩ o=_;rcases back o e with⟨e1,e2⟩|⟨e1,e2,e3⟩
  ·rw[e2,Nat.add_sub_cancel];exact⟨_,_,hp,by unfold af;rw[if_pos e1];rfl⟩
  ·rw[e2];obtain⟨t,D',f1,f2⟩:=h.en o ho e3;exact⟨t,D',by rw[hq _ (fun x=>by rw[x,Fr.bl] at f1;cases f1)];exact f1,by unfold af;rw[if_neg e1];exact f2⟩
 ·have e:K.st b=0:=e;rw[hq _ (fun x=>by
   have h1:=Fr.st;have h2:=Fr.fi;rw[show K.fb=b by omega] at h1;omega)]
  exact h.bl b i hb e hi
 ·have h1:K.fi+1<=i:=h1;show P'.pg (K.fb*8+i)=_;rw[hq _ (by omega)];exact h.fr Fr.fo i (by omega) h2
 ·show K.st ((af (af K.at_ 24 (K.fb*8+K.fi+1)) s 0 o-1)/8)=2\/K.fo=true/\K.fb=(af (af K.at_ 24 (K.fb*8+K.fi+1)) s 0 o-1)/8;rcases back o e with⟨e1,e2⟩|⟨e1,e2,e3⟩
  ·rw[e2,Nat.add_sub_cancel];exact .inr ⟨Fr.fo,by have:=Fr.fi;omega⟩
  ·rw[e2];exact h.live hw o ho e3
end
def Ax(K K':KS):Prop:=∀o,o<24->K.at_ o≠0->K'.at_ o≠0/\(K'.en o).seq=(K.en o).seq
theorem Ax.refl(K:KS):Ax K K:=fun _ _ h=>⟨h,rfl⟩
theorem Ax.trans{K K1 K2:KS}(h:Ax K K1)(g:Ax K1 K2):Ax K K2:=fun o ho e=>by
 obtain⟨a1,a2⟩:=h o ho e;obtain⟨b1,b2⟩:=g o ho a1;exact⟨b1,b2.trans a2⟩
theorem Ax.same{K K':KS}(e1:K'.at_=K.at_)(e2:K'.en=K.en):Ax K K':=fun o _ h=>⟨by rw[e1];exact h,by rw[e2]⟩
structure Rm(β:Int)(K:KS)(P:CS):Prop where
 ni:∀b,b<12->K.st b=1->K.fo=true/\K.fb=b
 bd:an K.st 3<=2
 free:1+2*(2-an K.st 3)<=an K.st 0
 x:∃x,(∀B,B<12->P.may B->B=x)/\(x<12->P.may x->K.st x=3\/an K.st 3<=1)
 nx:K.next-3*(an K.st 3:Nat)<=β
 lim:β+20<=1099511627775
structure Rb(β:Int)(K:KS)(P:CS):Prop where
 ni:∀b,b<12->K.st b=1->K.fo=true/\K.fb=b
 bd:an K.st 3<=2
 may:∀B,B<12->P.may B->K.st B=3
 free:aJ K.fo K.fi 24=true\/1<=an K.st 0
 nx:K.next-3*(an K.st 3:Nat)<=β
 lim:β+10<=1099511627775
structure AW(a:Nat->Nat->Nat)(v:Nat)(f r:Bool)(K:KS)(P:CS)(K':KS)(P':CS)(e:Int):Prop where
 er:e=0\/e=14
 w:∃k,Wi a k K' P'
 uY:∀u,u<12->u≠v->K.st u=2->K'.st u=2
 jc:∀u,u<12->K.st u=3->K'.st u=3
 vb:e=0->f=true->K'.st v=3/\K.st v≠3
 may:∀B,P'.may B->P.may B
 nx:K'.next-3*(an K'.st 3:Nat)<=K.next-3*(an K.st 3:Nat)
 le:K.next<=K'.next
 qu:K'.qu=K.qu
 cur:K'.cur=K.cur
 tg:Ax K K'
 nw:e=0->aA K'.st=false
 room:∀β,Rm β K P->(f=true->P.may v)->(r=true->∀B,B<12->¬P.may B)->e=0/\Rm β K' P'/\(K.fo=false->(cc K.ow v).length<=4->K'.fo=true/\K'.fi<=5)
structure By(a:Nat->Nat->Nat)(K:KS)(P:CS)(K':KS)(P':CS)(e:Int):Prop where
 er:e=0\/e=14
 w:∃k,Wi a k K' P'
 uY:∀u,u<12->K.st u=2->K'.st u=2
 jc:∀u,u<12->K.st u=3->K'.st u=3
 may:∀B,P'.may B->P.may B
 nx:K'.next-3*(an K'.st 3:Nat)<=K.next-3*(an K.st 3:Nat)+1
 le:K.next<=K'.next
 qu:K'.qu=K.qu
 cur:K'.cur=K.cur
 tg:Ax K K'
 nw:e=0->aA K'.st=false
 room:∀β,Rb β K P->e=0/\(∀b,b<12->K'.st b=1->K'.fo=true/\K'.fb=b)/\an K'.st 3=an K.st 3/\an K.st 0<=an K'.st 0+1/\(K.fo=false->K'.fo=true/\K'.fi<=5)
structure VI(a:Nat->Nat->Nat)(v:Nat)(f0 r0:Bool)(K0:KS)(P0:CS)(f r:Bool)(K:KS)(P:CS):Prop where
 hv:v<12
 v0:K0.st v≠3
 w:∃k,Wi a k K P
 v2:K.st v=2
 uY:∀u,u<12->u≠v->K0.st u=2->K.st u=2
 jc:∀u,u<12->K0.st u=3->K.st u=3
 may:∀B,P.may B->P0.may B
 nx:K.next-3*(an K.st 3:Nat)<=K0.next-3*(an K0.st 3:Nat)
 le:K0.next<=K.next
 qu:K.qu=K0.qu
 cur:K.cur=K0.cur
 tg:Ax K0 K
 ff:f0=true->f=true
 room:∀β,Rm β K0 P0->(f0=true->P0.may v)->(r0=true->∀B,B<12->¬P0.may B)->Rm β K P/\(f=true->P.may v)/\(r=true->∀B,B<12->¬P.may B)/\(K0.fo=false->(K.fo=false/\K.ow=K0.ow)\/(K.fo=true/\K.fi<=5/\∀B,B<12->P.may B->K.st B=3))
theorem ix{st rH:Nat->Nat}(h:∀u,u<12->st u=3->rH u=3):an st 3<=an rH 3:=gA h
theorem gV{st:Nat->Nat}{b:Nat}(hb:b<12)(h:st b≠3):an (af st b 3) 3=an st 3+1:=by
 have:=bV st 3 3 hb;rw[if_neg h,if_pos rfl] at this;omega
theorem abl{st:Nat->Nat}{b x:Nat}(hb:b<12)(h:st b≠0)(hx:x≠0):an (af st b x) 0=an st 0:=by
 have:=bV st x 0 hb;rw[if_neg h,if_neg hx] at this;omega
section
variable{a:Nat->Nat->Nat}{v:Nat}{f0 r0 f r:Bool}{K0 K:KS}{P0 P:CS}
theorem aoU{k:Cp}(h:Wi a k K P)(hv:K.st v=2\/K.fo=true/\K.fb=v):(∃k,Wi a k (lh K v) P)/\(lh K v).st v=2/\(∃st fo fb fi,lh K v={ K with st:=st,fo:=fo,fb:=fb,fi:=fi })/\(∀b,(lh K v).st b=K.st b\/K.st b=1/\(lh K v).st b=2) /\
  ((∀b,b<12->K.st b=1->K.fo=true/\K.fb=b)->∀b,b<12->(lh K v).st b=1->(lh K v).fo=true/\(lh K v).fb=b)/\(K.fo=false->lh K v=K):=by
 unfold lh;by_cases hf:K.fo=true/\K.fb=v
 ·rw[if_pos (by rw[if_pos hf.1,hf.2])];obtain⟨w,S⟩:=h.shut;refine⟨⟨k,w⟩,by rw[<-hf.2];exact S.front hf.1,S.eq,S.st,fun ho b hb e=>?_,fun x=>(by rw[hf.1] at x;cases x)⟩;rcases S.st b with x|x
  ·obtain⟨y1,y2⟩:=ho b hb (by omega);have:=S.front y1;rw[y2] at this;omega
  ·omega
 ·rw[if_neg (fun x=>hf (by
   by_cases fT:K.fo=true
   ·rw[if_pos fT] at x;exact⟨fT,by omega⟩
   ·rw[if_neg fT] at x;omega))]
  refine⟨⟨k,h⟩,?_,⟨_,_,_,_,rfl⟩,fun b=>.inl rfl,fun ho=>ho,fun _=>rfl⟩;rcases hv with x|x
  ·exact x
  ·exact absurd x hf
theorem VI.start{k:Cp}(h:Wi a k K P)(pC:v<12)(hv:K.st v=2\/K.fo=true/\K.fb=v)(f r:Bool):VI a v f r K P f r (lh K v) P:=by
 obtain⟨w,v2,⟨st,fo,fb,fi,e⟩,bt,ho,cO⟩:=aoU h hv;obtain⟨c0,c3⟩:=fD bt;refine⟨pC,?_,w,v2,fun u hu hn h2=>?_,fun u hu h3=>?_,fun _ x=>x,by rw[c3,e];exact Int.le_refl _,by rw[e];exact Int.le_refl _,by rw[e],by rw[e],Ax.same (by rw[e]) (by rw[e]),fun x=>x,fun β R hf hr=>⟨⟨ho R.ni,by rw[c3];exact R.bd,by rw[c3,c0];exact R.free,?_,by rw[c3,e];exact R.nx,R.lim⟩,hf,hr,fun x=>.inl ⟨by rw[cO x];exact x,by rw[cO x]⟩⟩⟩
 ·rcases hv with x|⟨x,y⟩
  ·omega
  ·have:=h.f1 x;rw[y] at this;omega
 ·rcases bt u with x|x
  ·rw[x];exact h2
  ·omega
 ·rcases bt u with x|x
  ·rw[x];exact h3
  ·omega
 ·obtain⟨x,x1,x2⟩:=R.x;refine⟨x,x1,fun hx hm=>?_⟩;rw[c3];rcases x2 hx hm with y|y
  ·rcases bt x with z|z
   ·exact .inl (by rw[z];exact y)
   ·omega
  ·exact .inr y
section
variable(I:VI a v f0 r0 K0 P0 f r K P)
include I
theorem VI.aaZ(hw:aA K.st=true):AW a v f0 r0 K0 P0 K P 14 :=
 ⟨.inr rfl,I.w,I.uY,I.jc,fun x=>(by cases x),I.may,I.nx,I.le,I.qu,I.cur,I.tg,fun x=>(by cases x),fun β R hf hr=>by
  have:=(I.room β R hf hr).1.bd;unfold aA at hw;have:=of_decide_eq_true hw;omega⟩
theorem VI.none(ht:takeN K.st K.pn=none):AW a v f0 r0 K0 P0 K P 14 :=
 ⟨.inr rfl,I.w,I.uY,I.jc,fun x=>(by cases x),I.may,I.nx,I.le,I.qu,I.cur,I.tg,fun x=>(by cases x),fun β R hf hr=>by
  have h1:=(I.room β R hf hr).1.free;obtain⟨k,w⟩:=I.w;obtain⟨d,hd,_⟩:=iZ w.pn (st:=K.st) (by omega);rw[ht] at hd
  cases hd⟩
theorem VI.last(hf:f=true)(hl:2<=an K.st 3):AW a v f0 r0 K0 P0 { K with st:=aG K.st v 3 } P 14:=by
 obtain⟨k,w⟩:=I.w;have hv:=I.hv;have v2:=I.v2;have hs:aG K.st v 3=af K.st v 3:=if_neg (fun x=>x.2 rfl);have c3:=gV (st:=K.st) hv (by omega);rw[hs];have ne:∀b,b≠v->af K.st v 3 b=K.st b:=fun b hb=>if_neg hb;refine⟨.inr rfl,⟨k,w.afE hv (fun fT e=>by have:=w.f1 fT;rw[e] at this;omega) (.inr ?_) K.F w.hb⟩,fun u hu hn h2=>(ne u hn).trans (I.uY u hu hn h2),fun u hu h3=>?_,fun x=>(by cases x),I.may,?_,I.le,I.qu,I.cur,I.tg,fun x=>(by cases x),fun β R gX hr=>?_⟩
 ·unfold aA;rw[c3];exact decide_eq_true (by omega)
 ·show af K.st v 3 u=3;by_cases hu':u=v
  ·rw[hu'];exact if_pos rfl
  ·rw[ne u hu'];exact I.jc u hu h3
 ·have:=I.nx;show K.next-3*(an (af K.st v 3) 3:Nat)<=_;rw[c3];omega
 ·obtain⟨R',m,_⟩:=I.room β R gX hr;obtain⟨x,x1,x2⟩:=R'.x;have hm:=m hf;have:=x1 v hv hm;subst this;rcases x2 hv hm with y|y<;>omega
end
structure VM(a:Nat->Nat->Nat)(v:Nat)(K:KS)(P:CS)(d n:Nat)(K3:KS)(P3:CS):Prop where
 w:∃k,Wi a k K3 P3
 tk:takeN K.st K.pn=some d
 eq:∃F nx,K3={ K with st:=af K.st d 1,pn:=d+1,F:=F,next:=nx }/\K.next<=nx/\nx<=K.next+1
 dst:Bx K3 P3 d n
 dv:d≠v
 may:∀B,P3.may B->P.may B
theorem VM.jA{d n:Nat}{K3:KS}{P3:CS}(M:VM a v K P d n K3 P3):d<12/\K.st d=0:=da M.tk
theorem VM.cnt{d n:Nat}{K3:KS}{P3:CS}(M:VM a v K P d n K3 P3):an K3.st 3=an K.st 3/\an K3.st 0+1=an K.st 0:=by
 obtain⟨hd,h0⟩:=M.jA;obtain⟨F,nx,e,_⟩:=M.eq;rw[e];have h1:=bV K.st 1 3 hd;have h2:=bV K.st 1 0 hd;rw[if_neg (by omega),if_neg (by omega)] at h1;rw[if_pos h0,if_neg (by omega)] at h2;exact⟨h1,h2⟩
theorem Wi.cells{k:Cp}{P':CS}(h:Wi a k K P){d:Nat}(bt:K.st d=1)(qU:K.fo=true->K.fb≠d)(fY:∀o,o<25->K.at_ o≠0->(K.at_ o-1)/8≠d)(hq:∀q,q/8≠d->P'.pg q=P.pg q)
  (bG:∀q t D,q/8=d->q<96->P'.pg q=.full t D->P.pg q=.full t D\/(t.ok/\t.place=q/\t.lost=false)/\∃o t0,o<25/\K.at_ o≠0/\P.pg (K.at_ o-1)=.full t0 D/\t0.of=t.of/\t0.seq=t.seq):Wi a k K P':=by
 refine⟨h.mt.ext (fun q t D gW e=>?_) (fun o ho e=>hq _ (fY o ho e)),h.sh.abg (fun o ho e=>hq _ (fY o (by omega) e)),fun o ho e=>?_,h.fl,h.nx,h.fh,h.hb,h.cur,h.st,h.pn,h.fb,h.fi,fun b i hb e hi=>?_,h.f1,fun hf i h1 h2=>?_,h.bad,h.live⟩
 ·by_cases hd:q/8=d
  ·exact bG q t D hd gW e
  ·exact .inl (by rw[<-hq q hd];exact e)
 ·obtain⟨t,D,e1,e2⟩:=h.en o ho e;exact⟨t,D,by rw[hq _ (fY o ho e)];exact e1,e2⟩
 ·rw[hq _ (fun x=>by rw[<-x,show(b*8+i)/8=b by omega] at bt;omega)];exact h.bl b i hb e hi
 ·rw[hq _ (fun x=>qU hf (by omega))];exact h.fr hf i h1 h2
theorem oN{p:Nat->Bool}:∀(L:List Nat) (i:Nat),i<(L.filter p).length->∃j,i<=j/\j<L.length/\(L.filter p).getD i 0=L.getD j 0
 | [],i,h=>by simp at h
 | x::xs,i,h=>by
  by_cases hp:p x=true
  ·rw[List.filter_cons_of_pos hp] at h ⊢
   cases i with
   |zero=>exact⟨0,Nat.le_refl _,by simp,rfl⟩
   | succ i =>
    obtain⟨j,h1,h2,h3⟩:=oN xs i (by simpa using h);exact⟨j+1,by omega,by simpa using h2,by simpa using h3⟩
  ·rw[List.filter_cons_of_neg hp] at h ⊢;obtain⟨j,h1,h2,h3⟩:=oN xs i h;exact⟨j+1,by omega,by simpa using h2,by simpa using h3⟩
structure Dl(K:KS)(v d:Nat)(os:List Nat)(bad:Bool):Prop where
 nd:os.Nodup
 mem:∀o,o∈os->o<25/\K.at_ o≠0/\(K.at_ o-1)/8=v
 len:os.length<=7/\os.length<=(cc K.ow v).length
 all:∀o,o<25->K.at_ o≠0->(K.at_ o-1)/8=v->bad=false\/o≠24->o∈os
 ok:∀i,i<os.length->(bm K d i (os.getD i 0)).ok/\bp (d*8+i) (os.getD i 0)=true
theorem Wi.osl{k:Cp}(h:Wi a k K P)(hv:v<12){d:Nat}(hd:d<12)(bad:Bool):Dl K v d (ic bad (cc K.ow v)) bad:=by
 have hnd:(cc K.ow v).Nodup:=jb h.fh hv (Nat.le_refl 8);have nd:(ic bad (cc K.ow v)).Nodup:=hnd.filter _;have mem:∀o,o∈ic bad (cc K.ow v)->o<25/\K.at_ o≠0/\(K.at_ o-1)/8=v:=fun o ho=>(jt h.fh hv).1 (ak3 ho);have h8:=oG K.ow v;have hle:=acW bad (cc K.ow v);have ok:∀i,i<(ic bad (cc K.ow v)).length->(bm K d i ((ic bad (cc K.ow v)).getD i 0)).ok/\bp (d*8+i) ((ic bad (cc K.ow v)).getD i 0)=true/\((ic bad (cc K.ow v)).getD i 0≠24->i<=5):=fun i hi=>by
  obtain⟨j,j1,j2,j3⟩:=oN (cc K.ow v) i hi;obtain⟨m,m1,m2,m3,m4⟩:=pJ (ow:=K.ow) (b:=v) (n:=8) (i:=j) j2;have m4:(cc K.ow v)[j]=K.ow (8*v+m)-1:=m4;have e:(ic bad (cc K.ow v)).getD i 0=K.ow (8*v+m)-1:=by
   show((cc K.ow v).filter _).getD i 0=_;rw[j3,bM j2];exact m4
  have jz:=h.fh.o (8*v+m) (by omega) m3;rw[e];generalize hoo:K.ow (8*v+m)-1=o at *;obtain⟨a1,t0,D0,a2,a3,a4,a5,a6,a7,a8,a9⟩:=h.cM (o:=o) (by omega) (by omega);have h5:o≠24->i<=5:=fun hn=>by
   have:=a5;unfold Tg.ok at this;have:=this.2.2.2.2.2.2.2.2.2 (by omega);rw[a6] at this;omega
  have h6:t0.of≠24->(d*8+i)%8<=5:=fun hn=>by
   have:=h5 (by omega);omega
  refine⟨?_,?_,h5⟩
  ·have:=sG a5 (q:=d*8+i) (by omega) h6;unfold bm;rw[a3];rw[a4,a7] at this;exact this
  ·unfold bp;by_cases ho:o=24
   ·simp[ho]
   ·have:=h5 ho;simp;omega
 refine⟨nd,mem,⟨?_,hle⟩,fun o ho e hb cL=>anj ((jt h.fh hv).2 ⟨ho,e,hb⟩) cL,fun i hi=>⟨(ok i hi).1,(ok i hi).2.1⟩⟩;by_cases h7:(ic bad (cc K.ow v)).length<=7
 ·exact h7
 ·have o6:=(ok 6 (by omega)).2.2;have o7:=(ok 7 (by omega)).2.2;rw[bM (by omega)] at o6 o7;have e6:(ic bad (cc K.ow v))[6]=24:=Classical.byContradiction fun x=>by have:=o6 x;omega
  have e7:(ic bad (cc K.ow v))[7]=24:=Classical.byContradiction fun x=>by have:=o7 x;omega
  have:=(List.getElem_inj (h₀:=by omega) (h₁:=by omega) nd).1 (e6.trans e7.symm);omega
theorem ak6{d i:Nat}{os:List Nat}(hd:i<os.length)(h8:os.length<=8):gC K P d os (d*8+i)=.full (bm K d i (os.getD i 0)) (cq (bj P (K.at_ (os.getD i 0)-1))):=by
 unfold gC;rw[if_pos ⟨by omega,by omega⟩,show(d*8+i)%8=i by omega]
theorem Wi.part{k:Cp}{P':CS}(h:Wi a k K P){d:Nat}(D:Bx K P d 0){os:List Nat}{bad:Bool}(O:Dl K v d os bad){os':List Nat}(iq:∃j,os'=os.take j)(bG:∀q,P'.pg q=gC K P d os' q\/(q/8=d/\nf (P'.pg q))):Wi a k K P':=by
 have h7:=O.len.1;have hle:os'.length<=os.length:=by
  obtain⟨j,rfl⟩:=iq;simp;omega
 refine h.cells D.st D.fr D.dead (fun q hq=>?_) (fun q t D0 hq arj e=>?_)
 ·rcases bG q with x|x
  ·rw[x,fj hq]
  ·exact absurd x.1 hq
 ·rcases bG q with x|x
  ·rw[x] at e;unfold gC at e;by_cases hc:q/8=d/\q%8<os'.length
   ·rw[if_pos hc] at e;injection e with e1 e2;have hgd:os'.getD (q%8) 0=os.getD (q%8) 0:=by
     obtain⟨j,rfl⟩:=iq;have:q%8<j:=by
      have:=hc.2;simp at this;omega
     simp[List.getD,List.getElem?_take,this]
    rw[hgd] at e1 e2;have hm:=O.mem (os.getD (q%8) 0) (by rw[bM (by omega)];exact List.getElem_mem _);obtain⟨rv,_⟩:=O.ok (q%8) (by omega);obtain⟨a1,t0,D1,a2,a3,a4,a5,a6,a7,a8,a9⟩:=h.cM hm.1 hm.2.1;rw[bI a2,a8] at e2;subst e2;rw[<-e1];refine .inr ⟨⟨rv,?_,?_⟩,os.getD (q%8) 0,t0,hm.1,hm.2.1,a2,a4,?_⟩
    ·show((d*8+q%8:Nat):Int)=q;omega
    ·show(K.en (os.getD (q%8) 0)).lost=false;rw[a3]
    ·show t0.seq=(K.en (os.getD (q%8) 0)).seq;rw[a3]
   ·rw[if_neg hc] at e;exact .inl e
  ·exact absurd e (x.2 t D0)
theorem Wi.cpg{k:Cp}(h:Wi a k K P)(hv:v<12){d:Nat}(D:Bx K P d 0)(bad:Bool):Dk K P v d bad:=by
 have O:=h.osl hv D.lt bad;refine⟨h.hb,fun o ho=>h.lt ho,h.fh.mw.lo,hv,D.lt,fun o ho=>?_,fun i hi=>D.bl i (Nat.zero_le _) hi,fun i hi=>(O.ok i hi).1⟩;have hm:=(jt h.fh hv).1 ho;obtain⟨a1,t0,D0,a2,a3,a4,a5,a6,a7,a8,a9⟩:=h.cM hm.1 hm.2.1;have:=a5;unfold Tg.ok at this;exact⟨by omega,hm.2.1,by rw[a3];exact⟨this.2.2.2.2.2.2.1,this.2.2.2.2.2.2.2.1⟩,D.dead o hm.1 hm.2.1,t0,D0,a2,a4,by rw[a3]⟩
theorem copied{k:Cp}(h:Wi a k K P)(hv:v<12)(v2:K.st v=2){d:Nat}(ht:takeN K.st K.pn=some d){K1:KS}(e1:K1={ K with st:=af K.st d 1,pn:=d+1 })(bad:Bool) :
  Dk K1 P v d bad/\Dl K1 v d (ic bad (cc K1.ow v)) bad /\
  (∀K3 P3,ux K1 K3->Hl.HB K3.F->(∀B,P3.may B->P.may B) ->
   ((∀q,P3.pg q=gC K1 P d (ic bad (cc K1.ow v)) q)->VM a v K P d (ic bad (cc K1.ow v)).length K3 P3/\Bh K3 P3 v d (ic bad (cc K1.ow v)) (tgL K1 d (ic bad (cc K1.ow v)))/\K3.next=K.next) /\
   (Part K1 P d (ic bad (cc K1.ow v)) P3->VM a v K P d 8 K3 P3/\K3.next=K.next)) /\
  (∀Q,Part K1 P d (ic bad (cc K1.ow v)) Q->Tw Q 1099511627775 a):=by
 obtain⟨w1,D1⟩:=h.take ht;rw[<-e1] at w1 D1;have O:=w1.osl hv D1.lt bad;have h7:=O.len.1;have ji:d≠v:=fun x=>by
  have:=(da ht).2;rw[x] at this;omega
 generalize jh:ic bad (cc K1.ow v)=os at *;have abk:∀Q,Part K1 P d os Q->Wi a k K1 Q:=fun Q ⟨j,hj,q1,q2⟩=>w1.part D1 O ⟨j,rfl⟩ (fun q=>by
  by_cases hq:q=d*8+j
  ·exact .inr ⟨by omega,by rw[hq];exact q2⟩
  ·exact .inl (q1 q hq))
 have hK:∀K3 P3,ux K1 K3->Hl.HB K3.F->Wi a k K1 P3->(∃k,Wi a k K3 P3)/\(∃F nx,K3={ K with st:=af K.st d 1,pn:=d+1,F:=F,next:=nx }/\K.next<=nx/\nx<=K.next+1)/\K3.next=K.next/\K3.st=K1.st/\K3.at_=K1.at_/\K3.en=K1.en/\K3.fo=K1.fo/\K3.fb=K1.fb:=fun K3 P3 hs hb w=>by
  obtain⟨F,rfl⟩:=hs;refine⟨⟨k,w.same rfl hb w.cur rfl⟩,⟨F,K.next,by rw[e1],Int.le_refl _,by omega⟩,by rw[e1],rfl,rfl,rfl,rfl,rfl⟩
 refine⟨w1.cpg hv D1 bad,O,fun K3 P3 hs hb hm=>⟨fun bG=>?_,fun hp=>?_⟩,fun Q hQ=>?_⟩
 ·have w3:=w1.part (P':=P3) D1 O ⟨os.length,(List.take_length).symm⟩ (fun q=>.inl (bG q));obtain⟨b1,b2,b3,b4,b5,b6,b7,b8⟩:=hK K3 P3 hs hb w3;refine⟨⟨b1,ht,b2,⟨D1.lt,by rw[b4];exact D1.st,by rw[b7,b8];exact D1.fr,fun i hi h8=>?_,by rw[b5];exact D1.dead⟩,ji,hm⟩,⟨O.nd,by omega,by rw[b5];exact O.mem,sJ _ _ _,fun i hi=>?_,fun i hi=>?_⟩,b3⟩
  ·rw[bG];unfold gC;rw[if_neg (by omega)];exact D1.bl i (Nat.zero_le _) h8
  ·rw[ak4 _ _ _ hi];exact⟨by unfold bm;rw[b6],(O.ok i hi).2⟩
  ·have hm:=O.mem (os.getD i 0) (by rw[bM hi];exact List.getElem_mem _);obtain⟨a1,t0,D0,a2,a3,a4,a5,a6,a7,a8,a9⟩:=w1.cM hm.1 hm.2.1;rw[bG,ak6 hi (by omega),b5,bI a2,a8];have e3:P3.pg (K1.at_ (os.getD i 0)-1)=.full t0 D0:=by
    rw[bG,fj (D1.dead _ hm.1 hm.2.1)];exact a2
   rw[bI e3];unfold bm;rw[b6]
 ·have w3:=abk P3 hp;obtain⟨b1,b2,b3,b4,b5,b6,b7,b8⟩:=hK K3 P3 hs hb w3;exact⟨⟨b1,ht,b2,⟨D1.lt,by rw[b4];exact D1.st,by rw[b7,b8];exact D1.fr,fun i hi h8=>by omega,by rw[b5];exact D1.dead⟩,ji,hm⟩,b3⟩
 ·have w3:=abk Q hQ;have:=w3.nx;exact⟨k,_,w3.mt.mono this.2,w3.sh⟩
section
variable{d n:Nat}{K3 K':KS}{P3 P':CS}
theorem VI.room_end(I:VI a v f0 r0 K0 P0 f r K P)(M:VM a v K P d n K3 P3){K2:KS}(vK:K2.st=af K3.st v 0\/(K2.st=af K3.st v 3/\(f=true\/(r=true/\an K.st 3<=1)\/P.may v)))(acX:K2.fo=K3.fo/\K2.fb=K3.fb/\K2.fi=K3.fi){n':Nat}(E:Ck K2 K' d n')(hn:n'<=(cc K.ow v).length+1)
  (hm:∀B,P'.may B->P.may B) (ft:K'.next-3*(an K'.st 3:Nat)<=K.next-3*(an K.st 3:Nat)):∀β,Rm β K0 P0->(f0=true->P0.may v)->(r0=true->∀B,B<12->¬P0.may B)->Rm β K' P'/\(K0.fo=false->(cc K0.ow v).length<=4->K'.fo=true/\K'.fi<=5):=by
 intro β R hf hr;obtain⟨R1,m1,r1,o1⟩:=I.room β R hf hr;obtain⟨hd,h0⟩:=M.jA;obtain⟨c3,c0⟩:=M.cnt;obtain⟨F,nx,e3,_⟩:=M.eq;have hv:=I.hv;have v2:=I.v2;have ji:=M.dv;have e3v:K3.st v=2:=by rw[e3];show af K.st d 1 v=2;unfold af;rw[if_neg (fun x=>ji x.symm)];exact v2
 have e3s:K3.st=af K.st d 1:=by rw[e3]
 have e3f:K3.fo=K.fo/\K3.fb=K.fb/\K3.fi=K.fi:=by rw[e3];exact⟨rfl,rfl,rfl⟩
 obtain⟨s0,s3⟩:=fD E.st;obtain⟨x,x1,x2⟩:=R1.x;have lU:=R1.free;have uO:=R1.bd;have bound:1+2*(2-an K'.st 3)<=an K'.st 0/\an K'.st 3<=2/\(x<12->P'.may x->K'.st x=3\/an K'.st 3<=1):=by
  rcases vK with h2|⟨h2,anm⟩
  ·have q3:=bV K3.st 0 3 hv;have q0:=bV K3.st 0 0 hv;rw[if_neg (by omega),if_neg (by omega)] at q3;rw[if_neg (by omega),if_pos rfl] at q0;rw[s3,s0,h2];refine⟨by omega,by omega,fun hx hmx=>?_⟩;rcases x2 hx (hm x hmx) with y|y
   ·have hxv:x≠v:=fun z=>by rw[z] at y;omega
    have hxd:x≠d:=fun z=>by rw[z] at y;omega
    refine .inl ?_;rcases E.st x with z|z
    ·rw[z,h2,e3s];unfold af;rw[if_neg hxv,if_neg hxd];exact y
    ·rw[h2,e3s] at z;unfold af at z;rw[if_neg hxv,if_neg hxd] at z;omega
   ·exact .inr (by omega)
  ·have q3:=gV (st:=K3.st) hv (by omega);have q0:=abl (st:=K3.st) (x:=3) hv (by omega) (by omega);have ank:an K.st 3<=1/\(x<12->P'.may x->x=v):=by
    have aiV:P.may v->an K.st 3<=1/\(x<12->P'.may x->x=v):=fun hmv=>by
     have hxv:=x1 v hv hmv;subst hxv;refine⟨?_,fun _ _=>rfl⟩;rcases x2 hv hmv with y|y
     ·omega
     ·exact y
    rcases anm with y|y|y
    ·exact aiV (m1 y)
    ·exact⟨y.2,fun hx hmx=>absurd (hm x hmx) (r1 y.1 x hx)⟩
    ·exact aiV y
   rw[s3,s0,h2];refine⟨by omega,by omega,fun hx hmx=>.inl ?_⟩;have hxv:=ank.2 hx hmx;rw[hxv];rcases E.st v with z|z
   ·rw[z,h2];exact if_pos rfl
   ·rw[h2] at z;have:af K3.st v 3 v=3:=if_pos rfl;omega
 have yU:∀b,b<12->K'.st b=1->K'.fo=true/\K'.fb=b:=fun b hb eb=>by
  have qk:K2.st b=1:=by
   rcases E.st b with z|z<;>omega
  have l8:b≠v:=fun z=>by
   rcases vK with h2|⟨h2,_⟩
   ·rw[z,h2] at qk;have:af K3.st v 0 v=0:=if_pos rfl;omega
   ·rw[z,h2] at qk;have:af K3.st v 3 v=3:=if_pos rfl;omega
  have p9:af K.st d 1 b=1:=by
   rw[<-e3s];rcases vK with h2|⟨h2,_⟩<;>(rw[h2] at qk;unfold af at qk;rw[if_neg l8] at qk;exact qk)
  by_cases aoV:b=d
  ·subst aoV;rcases E.std with z|z
   ·omega
   ·exact z
  ·unfold af at p9;rw[if_neg aoV] at p9;obtain⟨y1,y2⟩:=R1.ni b hb p9;rcases E.fr with⟨g1,g2,g3,g4,_⟩|⟨g1,g2,g3,g4,_⟩
   ·exact⟨g1,by rw[g2,acX.2.1,e3f.2.1];exact y2⟩
   ·have:=g4 (by rw[acX.1,e3f.1];exact y1);rw[acX.2.1,e3f.2.1,y2] at this;omega
 refine⟨⟨yU,bound.2.1,bound.1,⟨x,fun B hB h=>x1 B hB (hm B h),bound.2.2⟩,by have:=R1.nx;omega,R1.lim⟩,fun fT h4=>?_⟩;rcases o1 fT with⟨y1,y2⟩|⟨y1,y2,_⟩
 ·rcases E.fr with⟨g1,g2,g3,g4,_⟩|⟨g1,g2,g3,g4,_⟩
  ·rw[acX.1,e3f.1,y1] at g4;cases g4
  ·rw[y2] at hn;exact⟨g1,by omega⟩
 ·rcases E.fr with⟨g1,g2,g3,g4,g5⟩|⟨g1,g2,g3,g4,g5⟩
  ·exact⟨g1,by rw[g3,acX.2.2,e3f.2.2];exact y2⟩
  ·rw[acX.1,acX.2.2,e3f.1,e3f.2.2,y1] at g5;unfold aJ bp at g5;simp at g5;omega
end
end
section
variable{a:Nat->Nat->Nat}{v:Nat}{f0 r0 f r:Bool}{K0 K:KS}{P0 P:CS}{d n:Nat}{K3 K':KS}{P3 P':CS}{os:List Nat}{l:List Tg}
theorem VM.ne(M:VM a v K P d n K3 P3){u:Nat}(hu:u≠d):K3.st u=K.st u:=by
 obtain⟨F,nx,e,_⟩:=M.eq;rw[e];exact if_neg hu
theorem VM.old(M:VM a v K P d n K3 P3){u:Nat}(h:K.st u≠0):K3.st u=K.st u:=M.ne fun x=>by
 have:=M.jA.2;rw[x] at h;exact h this
theorem VM.sd(M:VM a v K P d n K3 P3):K3.st d=1:=M.dst.st
theorem VM.rest(M:VM a v K P d n K3 P3):K3.qu=K.qu/\K3.cur=K.cur/\K3.fo=K.fo/\K3.fb=K.fb/\K3.fi=K.fi/\K.next<=K3.next/\K3.next<=K.next+1/\K3.ow=K.ow/\K3.at_=K.at_:=by
 obtain⟨F,nx,e,h⟩:=M.eq;rw[e];exact⟨rfl,rfl,rfl,rfl,rfl,h.1,h.2,rfl,rfl⟩
theorem VM.tgk(M:VM a v K P d n K3 P3):Ax K K3:=by
 obtain⟨F,nx,e,_⟩:=M.eq;exact .same (by rw[e]) (by rw[e])
theorem VM.again(M:VM a v K P d n K3 P3)(bG:P'.pg=P3.pg)(hm:∀B,P'.may B->P3.may B):VM a v K P d n K3 P':=by
 obtain⟨k,w⟩:=M.w;exact⟨⟨k,w.same bG w.hb w.cur rfl⟩,M.tk,M.eq,⟨M.dst.lt,M.dst.st,M.dst.fr,by rw[bG];exact M.dst.bl,M.dst.dead⟩,M.dv,fun B h=>M.may B (hm B h)⟩
theorem VI.erased(I:VI a v f0 r0 K0 P0 f r K P)(hw:aA K.st=false)(M:VM a v K P d os.length K3 P3)(C:Bh K3 P3 v d os l)(hf:f=false)(cu:∀o,o<25->K3.at_ o≠0->(K3.at_ o-1)/8=v->o∈os)(hlen:os.length<=(cc K.ow v).length)(ft:K3.next=K.next)(hm:∀B,(P3.dD v).may B->P3.may B) :
  AW a v f0 r0 K0 P0 (jk (oH K3 v) d l) (P3.dD v) 0:=by
 obtain⟨k,w3⟩:=M.w;have hv:=I.hv;have v2:=I.v2;have v3:K3.st v=2:=by rw[M.old (by omega)];exact v2
 obtain⟨W,E,⟨st,fo,fb,fi,A,O,En,Mo,e⟩,bt,htg0⟩:=w3.erased hv v3 M.dst C cu;have htg:Ax K3 (jk (oH K3 v) d l):=fun o ho=>htg0 o (by omega);obtain⟨r1,r2,r3,r4,r5,r6,r7,_⟩:=M.rest;obtain⟨c3,c0⟩:=M.cnt;obtain⟨s0,s3⟩:=fD E.st;have q3:=bV K3.st 0 3 hv;rw[if_neg (by omega),if_neg (by omega)] at q3;have h3:an (jk (oH K3 v) d l).st 3=an K.st 3:=by rw[s3,bt];omega
 have hn':(jk (oH K3 v) d l).next=K.next:=by rw[e];exact ft
 have ab:∀u,u≠v->K.st u=2\/K.st u=3->(jk (oH K3 v) d l).st u=K.st u:=fun u hn h=>by
  have h2:(oH K3 v).st u=K.st u:=by
   rw[bt, <-M.old (u:=u) (by omega)];exact if_neg hn
  rcases E.st u with x|x<;>omega
 have se:∀B,(P3.dD v).may B->P.may B:=fun B h=>M.may B (hm B h);have nx:(jk (oH K3 v) d l).next-3*(an (jk (oH K3 v) d l).st 3:Nat)<=K.next-3*(an K.st 3:Nat):=by rw[h3,hn'];exact Int.le_refl _
 refine⟨.inl rfl,⟨k,W⟩,fun u hu hn h=>?_,fun u hu h=>?_,fun _ x=>?_,fun B h=>I.may B (se B h),Int.le_trans nx I.nx,by rw[hn'];exact I.le,by rw[e];exact r1.trans I.qu,by rw[e];exact r2.trans I.cur,I.tg.trans (M.tgk.trans htg),fun _=>(by unfold aA at hw ⊢;rw[h3];exact hw),fun β R gX hr=>?_⟩
 ·have:=I.uY u hu hn h;rw[ab u hn (.inl this)];exact this
 ·have:=I.jc u hu h;rw[ab u (fun x=>by rw[x] at this;omega) (.inr this)];exact this
 ·have:=I.ff x;rw[hf] at this
  cases this
 ·exact⟨rfl,I.room_end M (K2:=oH K3 v) (.inl bt) ⟨rfl,rfl,rfl⟩ E (by rw[C.len];omega) se nx β R gX hr⟩
theorem VI.said(I:VI a v f0 r0 K0 P0 f r K P)(hle:an K.st 3<=1)(M:VM a v K P d os.length K3 P3)(C:Bh K3 P3 v d os l)(anm:f=true\/(r=true/\an K.st 3<=1)\/P.may v)(hw:aA K.st=false)(h7:os.length<=7)(cu:∀o,o<24->K3.at_ o≠0->(K3.at_ o-1)/8=v->o∈os)(hlen:os.length<=(cc K.ow v).length)(ft:K3.next=K.next)(hn:K3.next<1099511627775)
  {F:Nat->Int} (hF:Hl.HB F) (hq:∀q,q≠d*8+os.length->P'.pg q=P3.pg q) (hp:P'.pg (d*8+os.length)=.full (dP K3 (d*8+os.length)) (uC (iv (bS K3) K3.next v))) (hm:∀B,P'.may B->P3.may B):AW a v f0 r0 K0 P0 (syK K3 F v d os.length l) P' 0:=by
 obtain⟨k,w3⟩:=M.w;have hv:=I.hv;have v2:=I.v2;have v3:K3.st v=2:=by rw[M.old (by omega)];exact v2
 obtain⟨c3,c0⟩:=M.cnt;have hw3:aA K3.st=false:=by
  unfold aA at hw ⊢;rw[c3];exact hw
 obtain⟨W,E,⟨st,fo,fb,fi,A,O,En,Mo,G,e⟩,-,htg0⟩:=w3.said hw3 hv v3 M.dst C h7 cu hn hF hq hp;have htg:Ax K3 (syK K3 F v d os.length l):=fun o ho=>htg0 o ho;obtain⟨r1,r2,r3,r4,r5,r6,r7,_⟩:=M.rest;obtain⟨s0,s3⟩:=fD E.st;have q3:=gV (st:=K3.st) hv (by omega);have h3:an (syK K3 F v d os.length l).st 3=an K.st 3+1:=by rw[s3];show an (af K3.st v 3) 3=_;omega
 have hn':(syK K3 F v d os.length l).next=K.next+1:=by rw[e];show K3.next+1=_;rw[ft]
 have hvb:(syK K3 F v d os.length l).st v=3:=by
  have x3:af K3.st v 3 v=3:=if_pos rfl;rcases E.st v with x|x
  ·exact x.trans x3
  ·have x1:af K3.st v 3 v=1:=x.1;omega
 have ab:∀u,u≠v->K.st u=2\/K.st u=3->(syK K3 F v d os.length l).st u=K.st u:=fun u hn h=>by
  have h2:af K3.st v 3 u=K.st u:=by
   rw[<-M.old (u:=u) (by omega)];exact if_neg hn
  rcases E.st u with x|x
  ·exact x.trans h2
  ·have x1:af K3.st v 3 u=1:=x.1;omega
 have se:∀B,P'.may B->P.may B:=fun B h=>M.may B (hm B h);have nx:(syK K3 F v d os.length l).next-3*(an (syK K3 F v d os.length l).st 3:Nat)<=K.next-3*(an K.st 3:Nat):=by rw[h3,hn'];omega
 refine⟨.inl rfl,⟨_,W⟩,fun u hu hn h=>?_,fun u hu h=>?_,fun _ x=>⟨hvb,I.v0⟩,fun B h=>I.may B (se B h),Int.le_trans nx I.nx,by rw[hn'];have:=I.le;omega,by rw[e];exact r1.trans I.qu,by rw[e];exact r2.trans I.cur,I.tg.trans (M.tgk.trans htg),fun _=>(by unfold aA;rw[h3];exact decide_eq_false (by omega)),fun β R gX hr=>?_⟩
 ·have:=I.uY u hu hn h;rw[ab u hn (.inl this)];exact this
 ·have:=I.jc u hu h;rw[ab u (fun x=>by rw[x] at this;omega) (.inr this)];exact this
 ·exact⟨rfl,I.room_end M (K2:={ K3 with st:=af K3.st v 3 }) (.inr ⟨rfl,anm⟩) ⟨rfl,rfl,rfl⟩ E (by omega) se nx β R gX hr⟩
theorem VI.out(I:VI a v f0 r0 K0 P0 f r K P)(M:VM a v K P d n K3 P3)(ft:K3.next=K.next)(xP:1099511627775<=K3.next):AW a v f0 r0 K0 P0 K3 P3 14:=by
 obtain⟨r1,r2,r3,r4,r5,r6,r7,_⟩:=M.rest;obtain⟨c3,c0⟩:=M.cnt;refine⟨.inr rfl,M.w,fun u hu hn h=>?_,fun u hu h=>?_,fun x=>(by cases x),fun B h=>I.may B (M.may B h),by rw[c3,ft];exact I.nx,by rw[ft];exact I.le,r1.trans I.qu,r2.trans I.cur,I.tg.trans M.tgk,fun x=>(by cases x),fun β R gX hr=>?_⟩
 ·have:=I.uY u hu hn h;rw[M.old (by omega)];exact this
 ·have:=I.jc u hu h;rw[M.old (by omega)];exact this
 ·obtain⟨R1,_⟩:=I.room β R gX hr;have:=R1.nx;have:=R1.lim;have:=R1.bd;omega
theorem VI.aoW(I:VI a v f0 r0 K0 P0 f r K P)(M:VM a v K P d n K3 P3)(ft:K3.next=K.next)(hl:2<=an K.st 3)(hmv:P.may v):AW a v f0 r0 K0 P0 { K3 with st:=aG (aG K3.st d 2) v 3 } P3 14:=by
 obtain⟨r1,r2,r3,r4,r5,r6,r7,_⟩:=M.rest;obtain⟨c3,c0⟩:=M.cnt;obtain⟨k,w3⟩:=M.w;have hv:=I.hv;have v2:=I.v2;have ji:=M.dv;have hd:=M.jA.1;have v3:K3.st v=2:=by rw[M.old (by omega)];exact v2
 have sd:=M.sd;have e1:aG K3.st d 2=af K3.st d 2:=if_neg (fun x=>by omega);have e2:∀s:Nat->Nat,aG s v 3=af s v 3:=fun s=>if_neg (fun x=>x.2 rfl);rw[e1,e2];have w4:=w3.aqx hd sd M.dst.fr;have s2v:af K3.st d 2 v=2:=by unfold af;rw[if_neg (fun x=>ji x.symm)];exact v3
 have q3:=bV K3.st 2 3 hd;rw[if_neg (by omega),if_neg (by omega)] at q3;have q4:=gV (st:=af K3.st d 2) hv (by omega);have ab:∀u,u≠v->K.st u=2\/K.st u=3->af (af K3.st d 2) v 3 u=K.st u:=fun u hn h=>by
  have hud:u≠d:=fun x=>by have:=M.jA.2;rw[x] at h;omega
  have h2:=M.old (u:=u) (by omega);unfold af;rw[if_neg hn,if_neg hud];exact h2
 refine⟨.inr rfl,⟨k,w4.afE hv (fun fT e=>?_) (.inr ?_) K3.F w3.hb⟩,fun u hu hn h=>?_,fun u hu h=>?_,fun x=>(by cases x),fun B h=>I.may B (M.may B h),?_,by show K0.next<=K3.next;rw[ft];exact I.le,r1.trans I.qu,r2.trans I.cur,I.tg.trans M.tgk,fun x=>(by cases x),fun β R gX hr=>?_⟩
 ·have h1:=w3.f1 fT;have e:K3.fb=v:=e;rw[e] at h1;omega
 ·unfold aA;exact decide_eq_true (by show 2<an (af (af K3.st d 2) v 3) 3;omega)
 ·have:=I.uY u hu hn h;show af (af K3.st d 2) v 3 u=2;rw[ab u hn (.inl this)];exact this
 ·have:=I.jc u hu h;show af (af K3.st d 2) v 3 u=3;rw[ab u (fun x=>by rw[x] at this;omega) (.inr this)];exact this
 ·have:=I.nx;show K3.next-3*(an (af (af K3.st d 2) v 3) 3:Nat)<=_;omega
 ·obtain⟨R1,_⟩:=I.room β R gX hr;obtain⟨x,x1,x2⟩:=R1.x;have:=x1 v hv hmv;subst this;rcases x2 hv hmv with y|y<;>omega
theorem VI.aoX(I:VI a v f0 r0 K0 P0 f r K P)(M:VM a v K P d n K3 P3)(zC:P.may d){f' r':Bool}(hff:f=true->f'=true)(gX:f'=true->f=true\/P.may v)(hr':r'=true->r=true) :
  (∃k,Wi a k { K3 with st:=aG K3.st d 3 } P3)/\an (aG K3.st d 3) 3=an K.st 3+1 /\
  (f'=true->2<=an (aG K3.st d 3) 3->AW a v f0 r0 K0 P0 { K3 with st:=aG (aG K3.st d 3) v 3 } P3 14) /\
  ∀K5 P5 e,By a { K3 with st:=aG K3.st d 3 } P3 K5 P5 e->(e=0->VI a v f0 r0 K0 P0 f' r' K5 P5/\an K.st 3<an K5.st 3)/\(e=14->AW a v f0 r0 K0 P0 K5 P5 14):=by
 obtain⟨r1,r2,r3,r4,r5,r6,r7,r8,r9⟩:=M.rest;obtain⟨c3,c0⟩:=M.cnt;obtain⟨k,w3⟩:=M.w;have hv:=I.hv;have v2:=I.v2;have ji:=M.dv;have hd:=M.jA.1;have vf:=M.jA.2;have v3:K3.st v=2:=by rw[M.old (by omega)];exact v2
 have sd:=M.sd;have e2:∀(s:Nat->Nat) (b:Nat),aG s b 3=af s b 3:=fun s b=>if_neg (fun x=>x.2 rfl);rw[e2,e2];have q3:=gV (st:=K3.st) hd (by omega);have q0:=abl (st:=K3.st) (b:=d) (x:=3) hd (by omega) (by omega);have w4:=w3.afE hd M.dst.fr (.inl M.dst.dead) K3.F w3.hb;have w4:Wi a k { K3 with st:=af K3.st d 3 } P3:=w4;have s4v:af K3.st d 3 v=2:=by unfold af;rw[if_neg (fun x=>ji x.symm)];exact v3
 have q4:=gV (st:=af K3.st d 3) hv (by omega);have ab:∀u,K.st u=2\/K.st u=3->af K3.st d 3 u=K.st u:=fun u h=>by
  have hud:u≠d:=fun x=>by rw[x] at h;omega
  have h2:=M.old (u:=u) (by omega);unfold af;rw[if_neg hud];exact h2
 have ffr:∀β,Rm β K0 P0->(f0=true->P0.may v)->(r0=true->∀B,B<12->¬P0.may B)->f'=false/\r'=false/\an K.st 3<=1/\(∀B,B<12->P.may B->B=d):=fun β R hf hr=>by
  obtain⟨R1,m1,n1,_⟩:=I.room β R hf hr;obtain⟨x,x1,x2⟩:=R1.x;have hxd:=x1 d hd zC;subst hxd;refine⟨?_,?_,?_,x1⟩
  ·cases hfe:f'
   ·rfl
   ·have hmv:P.may v:=by
     rcases gX hfe with y|y
     ·exact m1 y
     ·exact y
    exact absurd (x1 v hv hmv).symm ji
  ·cases hre:r'
   ·rfl
   ·exact absurd zC (n1 (hr' hre) _ hd)
  ·rcases x2 hd zC with y|y<;>omega
 refine⟨⟨k,w4⟩,by omega,fun hf hl=>?_,fun K5 P5 e B=>⟨fun he=>?_,fun he=>?_⟩⟩
 ·refine⟨.inr rfl,⟨k,w4.afE hv (fun fT e=>?_) (.inr ?_) K3.F w3.hb⟩,fun u hu hn h=>?_,fun u hu h=>?_,fun x=>(by cases x),fun B h=>I.may B (M.may B h),?_,by show K0.next<=K3.next;have:=I.le;omega,r1.trans I.qu,r2.trans I.cur,I.tg.trans M.tgk,fun x=>(by cases x),fun β R hf2 hr=>?_⟩
  ·have h1:=w3.f1 fT;have e:K3.fb=v:=e;rw[e] at h1;omega
  ·unfold aA;exact decide_eq_true (by show 2<an (af (af K3.st d 3) v 3) 3;omega)
  ·have:=I.uY u hu hn h;show af (af K3.st d 3) v 3 u=2;rw[show af (af K3.st d 3) v 3 u=af K3.st d 3 u from if_neg hn,ab u (.inl this)];exact this
  ·have:=I.jc u hu h;show af (af K3.st d 3) v 3 u=3;rw[show af (af K3.st d 3) v 3 u=af K3.st d 3 u from if_neg (fun x=>by rw[x] at this;omega),ab u (.inr this)];exact this
  ·have:=I.nx;show K3.next-3*(an (af (af K3.st d 3) v 3) 3:Nat)<=_;omega
  ·rw[(ffr β R hf2 hr).1] at hf
   cases hf
 ·subst he;have s3:∀u,u<12->K.st u=3->K5.st u=3:=fun u hu h=>B.jc u hu (by show af K3.st d 3 u=3;rw[ab u (.inr h)];exact h);have c5:an K.st 3+1<=an K5.st 3:=by
   have:=ix B.jc;have:an (af K3.st d 3) 3<=an K5.st 3:=this;omega
  have nx5:=B.nx;have nx5:K5.next-3*(an K5.st 3:Nat)<=K3.next-3*(an (af K3.st d 3) 3:Nat)+1:=nx5;have le5:K3.next<=K5.next:=B.le;have ann:K5.next-3*(an K5.st 3:Nat)<=K.next-3*(an K.st 3:Nat):=by omega
  refine⟨⟨hv,I.v0,B.w,B.uY v hv s4v,fun u hu hn h=>B.uY u hu ?_,fun u hu h=>s3 u hu (I.jc u hu h),fun b h=>I.may b (M.may b (B.may b h)),Int.le_trans ann I.nx,by have:=I.le;omega,B.qu.trans (r1.trans I.qu),B.cur.trans (r2.trans I.cur),I.tg.trans (M.tgk.trans B.tg),fun x=>hff (I.ff x),fun β R hf hr=>?_⟩,by omega⟩
  ·have:=I.uY u hu hn h;show af K3.st d 3 u=2;rw[ab u (.inl this)];exact this
  ·obtain⟨g1,g2,g3,g4⟩:=ffr β R hf hr;obtain⟨R1,m1,n1,o1⟩:=I.room β R hf hr;have lU:=R1.free;have Dm:Rb (β-2) { K3 with st:=af K3.st d 3 } P3:=by
    refine⟨fun b hb e=>?_,by show an (af K3.st d 3) 3<=2;omega,fun b hb hm=>?_,.inr (by show 1<=an (af K3.st d 3) 0;omega),by have:=R1.nx;show K3.next-3*(an (af K3.st d 3) 3:Nat)<=β-2;omega,by have:=R1.lim;omega⟩
    ·have e:af K3.st d 3 b=1:=e;have uO:b≠d:=fun x=>by
      rw[x] at e;have:af K3.st d 3 d=3:=if_pos rfl;omega
     unfold af at e;rw[if_neg uO,M.ne uO] at e;have:=R1.ni b hb e;exact⟨r3.trans this.1,r4.trans this.2⟩
    ·rw[g4 b hb (M.may b hm)];exact if_pos rfl
   obtain⟨_,b1,b2,b3,b4⟩:=B.room _ Dm;have b2:an K5.st 3=an (af K3.st d 3) 3:=b2;have b3:an (af K3.st d 3) 0<=an K5.st 0+1:=b3;have hd5:K5.st d=3:=B.jc d hd (if_pos rfl);refine⟨⟨b1,by omega,by omega,⟨d,fun b hb hm=>g4 b hb (M.may b (B.may b hm)),fun _ _=>.inl hd5⟩,by have:=R1.nx;omega,R1.lim⟩,fun x=>(by rw[g1] at x;cases x),fun x=>(by rw[g2] at x;cases x),fun fT=>?_⟩;rcases o1 fT with⟨y1,y2⟩|⟨y1,y2,y3⟩
   ·obtain⟨z1,z2⟩:=b4 (r3.trans y1);exact .inr ⟨z1,z2,fun b hb hm=>by rw[g4 b hb (M.may b (B.may b hm))];exact hd5⟩
   ·have:=y3 d hd zC;omega
 ·subst he;have s3:∀u,u<12->K.st u=3->K5.st u=3:=fun u hu h=>B.jc u hu (by show af K3.st d 3 u=3;rw[ab u (.inr h)];exact h);have nx5:K5.next-3*(an K5.st 3:Nat)<=K3.next-3*(an (af K3.st d 3) 3:Nat)+1:=B.nx;have le5:K3.next<=K5.next:=B.le;have ann:K5.next-3*(an K5.st 3:Nat)<=K.next-3*(an K.st 3:Nat):=by omega
  refine⟨.inr rfl,B.w,fun u hu hn h=>B.uY u hu ?_,fun u hu h=>s3 u hu (I.jc u hu h),fun x=>(by cases x),fun b h=>I.may b (M.may b (B.may b h)),Int.le_trans ann I.nx,by have:=I.le;omega,B.qu.trans (r1.trans I.qu),B.cur.trans (r2.trans I.cur),I.tg.trans (M.tgk.trans B.tg),fun x=>(by cases x),fun β R hf hr=>?_⟩
  ·have:=I.uY u hu hn h;show af K3.st d 3 u=2;rw[ab u (.inl this)];exact this
  ·obtain⟨g1,g2,g3,g4⟩:=ffr β R hf hr;obtain⟨R1,m1,n1,o1⟩:=I.room β R hf hr;have lU:=R1.free;have Dm:Rb (β-2) { K3 with st:=af K3.st d 3 } P3:=by
    refine⟨fun b hb e=>?_,by show an (af K3.st d 3) 3<=2;omega,fun b hb hm=>?_,.inr (by show 1<=an (af K3.st d 3) 0;omega),by have:=R1.nx;show K3.next-3*(an (af K3.st d 3) 3:Nat)<=β-2;omega,by have:=R1.lim;omega⟩
    ·have e:af K3.st d 3 b=1:=e;have uO:b≠d:=fun x=>by
      rw[x] at e;have:af K3.st d 3 d=3:=if_pos rfl;omega
     unfold af at e;rw[if_neg uO,M.ne uO] at e;have:=R1.ni b hb e;exact⟨r3.trans this.1,r4.trans this.2⟩
    ·rw[g4 b hb (M.may b hm)];exact if_pos rfl
   have:=(B.room _ Dm).1;omega
end
section
variable{a:Nat->Nat->Nat}{k:Cp}{K:KS}{P P':CS}
theorem Wi.cB(h:Wi a k K P){of:Nat}(ho:of<=24)(hr:aJ K.fo K.fi of=true)(hn:K.next<1099511627775)(hL:Lk P P' (K.fb*8+K.fi))(zm:nf (P'.pg (K.fb*8+K.fi))):Wi a k (tkK (bS K)) P':=by
 have Fr:=h.fresh ho hr;have h8:=Fr.fi;have pZ:(K.fb*8+K.fi)/8=K.fb:=by omega
 exact((h.seq hn).next (of:=of) hr).cell Fr.lt (by rw[pZ];exact Fr.st) Fr.bl (fun _ _=>by show(K.fb*8+K.fi)%8<K.fi+1;omega) hL.pg (.inl zm)
theorem Wi.aee(h:Wi a k K P){of:Nat}(ho:of<=24)(hr:aJ K.fo K.fi of=true)(hn:K.next<1099511627775)(hL:Lk P P' (K.fb*8+K.fi))(zm:nf (P'.pg (K.fb*8+K.fi))):Tw P' 1099511627775 a:=by
 have w:=h.cB ho hr hn hL zm;exact⟨k,_,w.mt.mono w.nx.2,w.sh⟩
end
structure BI(a:Nat->Nat->Nat)(K0:KS)(P0:CS)(K:KS)(P:CS):Prop where
 w:∃k,Wi a k K P
 uY:∀u,u<12->K0.st u=2->K.st u=2
 jc:∀u,u<12->K0.st u=3->K.st u=3
 may:∀B,P.may B->P0.may B
 nx:K.next-3*(an K.st 3:Nat)<=K0.next-3*(an K0.st 3:Nat)
 le:K0.next<=K.next
 qu:K.qu=K0.qu
 cur:K.cur=K0.cur
 tg:Ax K0 K
 room:∀β,Rb β K0 P0->K=K0
structure BO(a:Nat->Nat->Nat)(K Kf:KS)(P:CS):Prop where
 w:∃k,Wi a k Kf P
 room:aJ Kf.fo Kf.fi 24=true
 eq:∃st pn fo fb fi,Kf={ K with st:=st,pn:=pn,fo:=fo,fb:=fb,fi:=fi }
 st:∀u,u<12->K.st u=2\/K.st u=3->Kf.st u=K.st u
 c3:an Kf.st 3=an K.st 3
 c0:an K.st 0<=an Kf.st 0+1
 ni:(∀b,b<12->K.st b=1->K.fo=true/\K.fb=b)->∀b,b<12->Kf.st b=1->Kf.fo=true/\Kf.fb=b
 fi:K.fo=false->Kf.fi=0
section
variable{a:Nat->Nat->Nat}{K0 K Kf K':KS}{P0 P P' P6:CS}
theorem BO.same{k:Cp}(h:Wi a k K P)(hr:aJ K.fo K.fi 24=true):BO a K K P :=
 ⟨⟨k,h⟩,hr,⟨_,_,_,_,_,rfl⟩,fun _ _ _=>rfl,rfl,by omega,fun x=>x,fun x=>by
  unfold aJ at hr;rw[x] at hr
  cases hr⟩
theorem BO.taken{k:Cp}(h:Wi a k K P){e:Nat}(ht:takeN (aV K).st (aV K).pn=some e):BO a K { aV K with st:=af (aV K).st e 1,pn:=e+1,fo:=true,fb:=e,fi:=0 } P:=by
 obtain⟨w,S⟩:=h.shut;obtain⟨hd,h0⟩:=da ht;obtain⟨s0,s3⟩:=fD S.st;have h1:=bV (aV K).st 1 3 hd;have h2:=bV (aV K).st 1 0 hd;rw[if_neg (by omega),if_neg (by omega)] at h1;rw[if_pos h0,if_neg (by omega)] at h2;obtain⟨st,fo,fb,fi,ee⟩:=S.eq;refine⟨⟨k,w.ni S.fo ht⟩,rfl,⟨_,_,_,_,_,by rw[ee]⟩,fun u hu hs=>?_,?_,?_,fun ho b hb e1=>⟨rfl,?_⟩,fun _=>rfl⟩
 ·have hue:u≠e:=fun x=>by
   rw[<-x] at h0;rcases S.st u with y|y<;>omega
  show af (aV K).st e 1 u=_;unfold af;rw[if_neg hue];rcases S.st u with y|y
  ·exact y
  ·omega
 ·show an (af (aV K).st e 1) 3=_;omega
 ·show an K.st 0<=an (af (aV K).st e 1) 0+1;omega
 ·have e1:af (aV K).st e 1 b=1:=e1;show e=b;by_cases hbe:b=e
  ·exact hbe.symm
  ·unfold af at e1;rw[if_neg hbe] at e1;have nr:K.st b=1:=by
    rcases S.st b with y|y<;>omega
   obtain⟨y1,y2⟩:=ho b hb nr;have:=S.front y1;rw[y2] at this;omega
theorem BO.tgk(O:BO a K Kf P):Ax K Kf:=by
 obtain⟨st,pn,fo,fb,fi,e⟩:=O.eq;exact .same (by rw[e]) (by rw[e])
theorem BI.start{k:Cp}(h:Wi a k K P):BI a K P K P:=⟨⟨k,h⟩,fun _ _ x=>x,fun _ _ x=>x,fun _ x=>x,Int.le_refl _,Int.le_refl _,rfl,rfl,Ax.refl K,fun _ _=>rfl⟩
section
variable(I:BI a K0 P0 K P)
include I
theorem BI.aaZ(hw:aA K.st=true):By a K0 P0 K P 14 :=
 ⟨.inr rfl,I.w,I.uY,I.jc,I.may,by have:=I.nx;omega,I.le,I.qu,I.cur,I.tg,fun x=>(by cases x),fun β R=>by
  have:=I.room β R;subst this;have:=R.bd;unfold aA at hw;have:=of_decide_eq_true hw;omega⟩
theorem BI.none(hr:aJ K.fo K.fi 24=false)(ht:takeN (aV K).st (aV K).pn=none):By a K0 P0 (aV K) P 14:=by
 obtain⟨k,w⟩:=I.w;obtain⟨w',S⟩:=w.shut;obtain⟨s0,s3⟩:=fD S.st;obtain⟨st,fo,fb,fi,ee⟩:=S.eq;have ab:∀u,K.st u=2\/K.st u=3->(aV K).st u=K.st u:=fun u h=>by
  rcases S.st u with y|y
  ·exact y
  ·omega
 refine⟨.inr rfl,⟨k,w'⟩,fun u hu h=>?_,fun u hu h=>?_,I.may,?_,by rw[ee];exact I.le,by rw[ee];exact I.qu,by rw[ee];exact I.cur,I.tg.trans (.same (by rw[ee]) (by rw[ee])),fun x=>(by cases x),fun β R=>?_⟩
 ·have:=I.uY u hu h;rw[ab u (.inl this)];exact this
 ·have:=I.jc u hu h;rw[ab u (.inr this)];exact this
 ·have e:(aV K).next=K.next:=by rw[ee]
  rw[s3,e];have:=I.nx;omega
 ·have:=I.room β R;subst this;rcases R.free with y|y
  ·rw[hr] at y;cases y
  ·obtain⟨d,hd,_⟩:=iZ w'.pn (st:=(aV K).st) (by omega);rw[ht] at hd
   cases hd
variable(O:BO a K Kf P)
include O
theorem BI.out(xP:1099511627775<=Kf.next):By a K0 P0 (tkK Kf) P 14:=by
 obtain⟨k,w⟩:=O.w;obtain⟨_,_,_,_,_,e⟩:=O.eq;have ft:Kf.next=K.next/\Kf.qu=K.qu/\Kf.cur=K.cur:=by rw[e];exact⟨rfl,rfl,rfl⟩
 refine⟨.inr rfl,⟨k,w.next O.room⟩,fun u hu h=>?_,fun u hu h=>?_,I.may,?_,by show K0.next<=Kf.next;rw[ft.1];exact I.le,ft.2.1.trans I.qu,ft.2.2.trans I.cur,I.tg.trans O.tgk,fun x=>(by cases x),fun β R=>?_⟩
 ·have:=I.uY u hu h;exact(O.st u hu (.inl this)).trans this
 ·have:=I.jc u hu h;exact(O.st u hu (.inr this)).trans this
 ·have:=I.nx;show Kf.next-3*(an Kf.st 3:Nat)<=_;rw[O.c3,ft.1];omega
 ·have:=I.room β R;subst this;have:=R.nx;have:=R.lim;have:=R.bd;omega
theorem BI.uX(hw:aA K.st=false)(hn:Kf.next<1099511627775)(hL:Lk P P' (Kf.fb*8+Kf.fi))(hp:P'.pg (Kf.fb*8+Kf.fi)=.full (dk Kf 24) (aZ (bS Kf) Kf.next)):By a K0 P0 (cy Kf 24) P' 0:=by
 obtain⟨k,w⟩:=O.w;obtain⟨_,_,_,_,_,e⟩:=O.eq;have ft:Kf.next=K.next/\Kf.qu=K.qu/\Kf.cur=K.cur:=by rw[e];exact⟨rfl,rfl,rfl⟩
 have hwf:aA Kf.st=false:=by
  unfold aA at hw ⊢;rw[O.c3];exact hw
 obtain⟨W,ow,F,calls,ee⟩:=w.uX hwf O.room hn hL.pg hp;have bt:(cy Kf 24).st=Kf.st:=by rw[ee]
 refine⟨.inl rfl,⟨_,W⟩,fun u hu h=>?_,fun u hu h=>?_,fun B h=>I.may B (hL.may B h),?_,?_,?_,?_,I.tg.trans (O.tgk.trans ?_),fun _=>(by rw[bt];exact hwf),fun β R=>⟨rfl,?_,?_,?_,fun hf=>?_⟩⟩
 ·have:=I.uY u hu h;rw[bt];exact(O.st u hu (.inl this)).trans this
 ·have:=I.jc u hu h;rw[bt];exact(O.st u hu (.inr this)).trans this
 ·have:=I.nx;rw[bt,O.c3,show(cy Kf 24).next=Kf.next+1 by rw[ee],ft.1];omega
 ·rw[show(cy Kf 24).next=Kf.next+1 by rw[ee],ft.1];have:=I.le;omega
 ·rw[show(cy Kf 24).qu=Kf.qu by rw[ee]];exact ft.2.1.trans I.qu
 ·rw[show(cy Kf 24).cur=Kf.cur by rw[ee]];exact ft.2.2.trans I.cur
 ·intro o ho e;rw[ee];show af Kf.at_ 24 (Kf.fb*8+Kf.fi+1) o≠0/\(af Kf.en 24 ⟨Kf.next,0,false⟩ o).seq=(Kf.en o).seq;unfold af;rw[if_neg (by omega),if_neg (by omega)];exact⟨e,rfl⟩
 ·have:=I.room β R;subst this;intro b hb e1;rw[bt] at e1;rw[show(cy Kf 24).fo=Kf.fo by rw[ee],show(cy Kf 24).fb=Kf.fb by rw[ee]];exact O.ni R.ni b hb e1
 ·have:=I.room β R;subst this;rw[bt];exact O.c3
 ·have:=I.room β R;subst this;rw[bt];exact O.c0
 ·have:=I.room β R;subst this;rw[show(cy Kf 24).fo=Kf.fo by rw[ee],show(cy Kf 24).fi=Kf.fi+1 by rw[ee],O.fi hf];have:=O.room;unfold aJ at this;simp only[Bool.and_eq_true] at this;exact⟨this.1,by omega⟩
theorem BI.vac(hm6:∀B,P6.may B->P.may B)(hmf:P.may Kf.fb){e:Int}(V:AW a Kf.fb true false (tkK (bS Kf)) P6 K' P' e):By a K0 P0 K' P' e:=by
 obtain⟨k,w⟩:=O.w;obtain⟨_,_,_,_,_,ee⟩:=O.eq;have ft:Kf.next=K.next/\Kf.qu=K.qu/\Kf.cur=K.cur:=by rw[ee];exact⟨rfl,rfl,rfl⟩
 have Fr:=w.fresh (Nat.le_refl 24) O.room;have ne:∀u,u<12->K.st u=2->u≠Kf.fb:=fun u hu h x=>by
  have h1:=O.st u hu (.inl h);have h2:=Fr.st;rw[x] at h1;rw[x] at h;omega
 refine⟨V.er,V.w,fun u hu h=>?_,fun u hu h=>?_,fun B h=>I.may B (hm6 B (V.may B h)),?_,?_,V.qu.trans (ft.2.1.trans I.qu),V.cur.trans (ft.2.2.trans I.cur),I.tg.trans (O.tgk.trans V.tg),V.nw,fun β R=>?_⟩
 ·have h1:=I.uY u hu h;exact V.uY u hu (ne u hu h1) ((O.st u hu (.inl h1)).trans h1)
 ·have h1:=I.jc u hu h;exact V.jc u hu ((O.st u hu (.inr h1)).trans h1)
 ·have h1:=V.nx;have h1:K'.next-3*(an K'.st 3:Nat)<=Kf.next+1-3*(an Kf.st 3:Nat):=h1;have:=I.nx;rw[O.c3,ft.1] at h1;omega
 ·have h1:Kf.next+1<=K'.next:=V.le;have:=I.le;omega
 ·have:=I.room β R;subst this;have h1:=R.may Kf.fb w.fb (I.may _ hmf);have h2:=O.st Kf.fb w.fb (.inr h1);have:=Fr.st;omega
theorem BI.again(hn:Kf.next<1099511627775)(hL:Lk P P6 (Kf.fb*8+Kf.fi))(zm:nf (P6.pg (Kf.fb*8+Kf.fi)))(hmf:P.may Kf.fb)(hl:lv Kf.at_ Kf.fb=0) :
  BI a K0 P0 { bS Kf with fo:=false,fb:=0,fi:=0,st:=aG Kf.st Kf.fb 3 } P6/\an (aG Kf.st Kf.fb 3) 3=an K.st 3+1:=by
 obtain⟨k,w⟩:=O.w;obtain⟨_,_,_,_,_,ee⟩:=O.eq;have ft:Kf.next=K.next/\Kf.qu=K.qu/\Kf.cur=K.cur:=by rw[ee];exact⟨rfl,rfl,rfl⟩
 have Fr:=w.fresh (Nat.le_refl 24) O.room;have w6:=w.cB (Nat.le_refl _) O.room hn hL zm;have w7:=w6.close (fS.1 hl);have pZ:=w.fb;have w8:=w7.afE pZ (fun x=>(by cases x)) (.inl (fS.1 hl)) Kf.F w.hb;have e3:aG Kf.st Kf.fb 3=af Kf.st Kf.fb 3:=if_neg (fun x=>x.2 rfl);have hs:=Fr.st;have c3:=gV (st:=Kf.st) pZ (by omega);rw[e3];have ab:∀u,u<12->K.st u=2\/K.st u=3->af Kf.st Kf.fb 3 u=K.st u:=fun u hu h=>by
  have h1:=O.st u hu h;unfold af;rw[if_neg (fun x=>by rw[x] at h1 h;omega)];exact h1
 have hc:=O.c3;refine⟨⟨⟨k,w8⟩,fun u hu h=>?_,fun u hu h=>?_,fun B h=>I.may B (hL.may B h),?_,?_,ft.2.1.trans I.qu,ft.2.2.trans I.cur,I.tg.trans O.tgk,fun β R=>?_⟩,by omega⟩
 ·have h1:=I.uY u hu h;exact(ab u hu (.inl h1)).trans h1
 ·have h1:=I.jc u hu h;exact(ab u hu (.inr h1)).trans h1
 ·have:=I.nx;show Kf.next+1-3*(an (af Kf.st Kf.fb 3) 3:Nat)<=_;omega
 ·have:=I.le;show K0.next<=Kf.next+1;omega
 ·have:=I.room β R;subst this;have h1:=R.may Kf.fb w.fb (I.may _ hmf);have h2:=O.st Kf.fb w.fb (.inr h1);omega
end
end
section
variable{w w':World}{N:Cr}{K:KS}{X:Option Addr}{c:Nat}{P:CS}{b:Option Nat}{n:Int}
theorem On.alA{w1 w2:World}{K0:KS}{P0:CS}{b0:Option Nat}{n0:Int}{S:List Nat}(h0:On w N K0 P0 b0 n0 X c)(h:AU w1 N.N P n)(k:Aa S w1 w2)(hS:∀x,x∈S->w.heap.size<=x):AU w2 N.N P n:=by
 obtain⟨C0,M0,-⟩:=h0.qC;have hl:=M0.lt;have no:∀y,y<w.heap.size->y∉S:=fun y hy hm=>by have:=hS y hm;omega
 exact h.ab k ⟨no _ hl.1,no _ hl.2.1,no _ hl.2.2.1,no _ hl.2.2.2.1,no _ hl.2.2.2.2.1,no _ hl.2.2.2.2.2⟩
theorem qP(h:On w N K P b n X c)(hn:1099511627775<=K.next):Spec Tryz.prog 107 #[.pointer (some ⟨N.k,0,none⟩)] w fun v w'=>v=.tuple #[.int .i64 0,ak 14]/\w=w':=by
 refine spec_of_wpE (T:=tt) ah func107 rfl (by decide +kernel) ntmps107 (by simp) ?_;conv=>whnf
 repeat ((first|(refine Ld.of h.core.amR ?_)|refine Br.y ?_|refine CW.s ?_);conv=>whnf)
 exact⟨rfl,rfl,rfl⟩
theorem uZ(h:On w N K P b n X c){v:Nat}(hv:v<12):Spec Tryz.prog 146 #[.pointer (some ⟨N.k,0,none⟩),.int .i64 v] w fun u w'=>u=ak 14/\On w' N { K with st:=aG K.st v 3 } P b n X c/\Aa N.all w w':=by
 refine spec_of_wpE (T:=tt) ah func146 rfl (by decide +kernel) ntmps146 (by simp) ?_;conv=>whnf
 repeat ((refine Ld.of h.core.c1 ?_);conv=>whnf)
 refine Ca.of (eK h.core.aY v 3 hv (by omega)) ?_;rintro _ w2 ⟨⟨e,rfl⟩,r2,k2⟩;have h2:=h.aY k2 r2;conv=>whnf
 exact⟨rfl,rfl,h2,Aa.jg (by simp[Cr.own]) k2⟩
def Cm(K:KS)(P:CS)(v p:Nat)(u:Value)(K':KS)(P':CS):Prop :=
 (1099511627775<=K.next/\u=.tuple #[.agg Tg.zero.arr,ak 14]/\K'=K/\P'=P) \/
 (K.next<1099511627775/\Lk P P' p/\(u=.tuple #[.agg (dP K p).arr,ak 0]/\K'=pG (bS K) p/\P'.pg p=.full (dP K p) (uC (iv (bS K) K.next v))\/u=.tuple #[.agg (dP K p).arr,ak 8]/\K'=bS K/\nf (P'.pg p)/\P.may (p/8)))
theorem ak7(h:On w N K P b n X c){v d i:Nat}(hv:v<12)(hd:d<12)(hi:i<8)(B:Hl.HB K.F)(hn1:1<=K.next)(ht:K.next<1099511627775->(iv (bS K) K.next v).told)(ox:P.pg (d*8+i)=.blank) :
  Spec Tryz.prog 150 #[.pointer (some ⟨N.k,0,none⟩),.int .i64 v,.int .i64 d,.int .i64 i] w fun u w' =>
   Fin N X c b w w' (Cm K P v (d*8+i) u) (fun Q=>u=.tuple #[.agg (dP K (d*8+i)).arr,ak 7]/\K.next<1099511627775/\Lk P Q (d*8+i)/\nf (Q.pg (d*8+i))):=by
 refine spec_of_wpE (T:=tt) ah func150 rfl (by decide +kernel) ntmps150 (by simp) ?_;conv=>whnf
 refine Ru.fp ?_;intro x8 w1 hx8 du r8 k1;have h1:=h.aj k1;by_cases hn:K.next<1099511627775
 case neg =>
  conv=>whnf
  refine Ca.of (qP h1 (by omega)) ?_;rintro _ _ ⟨rfl,rfl⟩;conv=>whnf
  repeat ((first|refine Br.t ?_|refine Ru.n1 ?_|refine CW.s ?_);conv=>whnf)
  refine Ru.of (mT _) ?_;conv=>whnf
  refine Ru.kQ r8 ?_;intro w2 r82 k2;have q2:Aa [] w w2:=k1.then k2 (fun x hx=>.inr (by rw[List.mem_singleton.1 hx,hx8];exact Nat.le_refl _));conv=>whnf
  refine Ru.fF r82 ?_;conv=>whnf
  exact⟨rfl,Aa.eA q2,.inl ⟨K,P,b,n,id,h.aj q2,.inl ⟨by omega,rfl,rfl,rfl⟩⟩⟩
 have ht:=ht hn;conv=>whnf
 refine Ca.of (sC h1 ⟨by omega,hn⟩) ?_;rintro _ w2 ⟨rfl,h2,k2⟩;have ck:∀x,w.heap.size<=x->x∉N.all:=fun x hx hm=>by
  have h3:x<w.heap.size:=by
   rcases List.mem_append.1 hm with hm|hm
   ·exact h.core.lt (List.mem_append_left _ hm)
   ·exact h.gT _ hm
  omega
 have r82:=r8.ab k2 (ck x8 (by omega));have dJ:Aa N.all w w2:=(Aa.eA k1).trans k2;conv=>whnf
 repeat ((first|refine Br.f ?_|refine Ru.ai ?_|refine CW.s ?_);conv=>whnf)
 refine Ca.of (nc h2 K.next v) ?_;rintro _ w3 ⟨rfl,k3⟩;have h3:=h2.aj k3;have r83:=r82.ab k3 (by simp);conv=>whnf
 refine Ca.of (iE w3 _ ht) ?_;rintro _ w4 ⟨y,hy,rfl,r4,k4⟩;have h4:=h3.aj k4;have r84:=r83.ab k4 (by simp);have bT:Aa N.all w w4:=(dJ.trans (Aa.eA k3)).trans (Aa.eA k4);clear k3 k4 h3 h2 r82 r83 r8;conv=>whnf
 repeat ((first|refine Br.f ?_|refine Ar.la ?_|refine Ru.ai ?_|refine CW.s ?_);conv=>whnf)
 refine Ru.of (ng _ _ _ _) ?_;rw[show Tg.mk ((d:Int)*8+i) 24 K.next 0 false=dP K (d*8+i) by unfold dP;congr 1];conv=>whnf
 refine Ru.fp ?_;intro x13 w5 hx13 wu r13a k5;conv=>whnf
 refine Ru.kQ r13a ?_;intro w6 r13 k6;have q6:Aa [] w4 w6:=k5.then k6 (fun x hx=>.inr (by rw[List.mem_singleton.1 hx,hx13];exact Nat.le_refl _));have h6:=h4.aj q6;have r86:=r84.ab q6 (by simp);have ry6:=r4.ab q6 (by simp);have fX:=bT.trans (Aa.eA q6);have aoY:w.heap.size<=x13:=by
  rw[hx13];exact bT.size
 have aoZ:x8≠x13:=by
  rw[hx13];have:=r84.lt;omega
 clear k5 k6 q6 h4 wu r13a r84 r4;conv=>whnf
 refine CW.held (fun w'=>Row w' x13 67 5 (dP K (d*8+i)).cell) [] (.take 0 (.take 1 (.take 2 (.take 3 (.one 4 (.one 5 (.take 6 (.done)))))))) ah (by kernel_rfl) (by kernel_rfl) (by kernel_rfl) ?_ ?_
 ·exact Row.drewN r13 1
 have q7:=(Aa.refl [] w6).drewN 1;have h7:=h6.aj q7;have r87:=r86.ab q7 (by simp);have ry7:=ry6.ab q7 (by simp);have aqy:=r13.ab q7 (by simp);have nz:=fX.trans (Aa.eA q7);clear h6 r86 ry6 r13 q7;generalize w6.drewN 1=w7 at *;have ly7:Ly w7 5 1 (some ⟨y,0,none⟩) 174 174 (fun j=>.int .u8 (uC (iv (bS K) K.next v) j:Nat)):=(Ly.dh ry7 (by omega) (by omega) (by simp[maxLen])).congr (fun j hj=>by rw[nh]);conv=>whnf
 repeat ((refine Ad.fF (fun _ h=>h) ?_);conv=>whnf)
 refine Ca.of (zn h7 B (p:=d*8+i) (by omega) (iX _) ly7 (abh (by omega) ⟨hn1,hn⟩) rfl ox) ?_;rintro _ w8 ⟨k8,hr8⟩;have r88:=r87.ab k8 (ck x8 (by omega));have ao0:=aqy.ab k8 (ck x13 aoY);have pK:=nz.trans k8;rw[gI] at hr8;rcases hr8 with⟨K8,P8,b8,n8,ya,h8,g1,⟨rfl,rfl,g2⟩|⟨rfl,rfl,g2,g3,-⟩⟩|⟨ya,Q,n8,h8,rfl,g1,g2⟩
 all_goals
  refine⟨ao0,?_⟩;conv=>whnf
  refine Ru.kQ r88 ?_;intro w9 r89 k9;have hS9:∀x,x∈[x8]->w.heap.size<=x:=fun x hx=>by rw[List.mem_singleton.1 hx];omega
  have q9:Aa N.all w w9:=pK.then k9 (fun x hx=>.inr (by rw[List.mem_singleton.1 hx];omega));refine⟨ao0.ab k9 (by simpa using aoZ.symm),?_⟩;conv=>whnf
  refine Ru.fF r89 ?_;conv=>whnf
 ·exact⟨rfl,q9,.inl ⟨_,P8,b8,n8,ya,h.dN h8 k9 hS9,.inr ⟨hn,g1,.inl ⟨rfl,rfl,g2⟩⟩⟩⟩
 ·exact⟨rfl,q9,.inl ⟨_,P8,b8,n8,ya,h.dN h8 k9 hS9,.inr ⟨hn,g1,.inr ⟨rfl,rfl,g2,g3⟩⟩⟩⟩
 ·exact⟨rfl,q9,.inr ⟨ya,Q,n8,h.alA h8 k9 hS9,rfl,hn,g1,g2⟩⟩
end
section
variable{a:Nat->Nat->Nat}{v:Nat}{K:KS}{P:CS}{d:Nat}{os:List Nat}{l:List Tg}
theorem Bh.wf(C:Bh K P v d os l)(hc:AM K.at_ K.ow)(hd:d<12)(fY:∀o,o<25->K.at_ o≠0->(K.at_ o-1)/8≠d){K2:KS}(e1:K2.at_=K.at_)(e2:K2.ow=K.ow)(e3:K2.en=K.en)(i:Nat)(hi:i<=l.length):AK (eU K2 (l.take i)).at_ (eU K2 (l.take i)).ow:=by
 have H:BA K2 d os l (fun o=>⟨(K.en o).seq,((K.en o).copy+1)%256,(K.en o).lost⟩):=by
  refine⟨by rw[e1,e2];exact hc,hd,C.o8,C.nd,C.len,fun i hi=>⟨(C.mem _ ?_).1,(C.tag i hi).2⟩,by rw[e1];exact fY,fun i hi=>?_⟩
  ·rw[bM hi];exact List.getElem_mem hi
  ·rw[(C.tag i hi).1];exact⟨rfl,rfl,rfl⟩
 exact((uI H i (by have:=C.len;omega)).1).mw
theorem Bh.tgs(C:Bh K P v d os l)(hd:d<12):∀t,t∈l->(0<=t.of/\t.of<=24)/\0<=t.place/\t.place<96:=fun t ht=>by
 obtain⟨i,hi,rfl⟩:=List.getElem_of_mem ht;have hl:=C.len;have h8:=C.o8;rw[<-bM hi (x:=Tg.zero),(C.tag i (by omega)).1];have hm:=(C.mem (os.getD i 0) (by rw[bM (by omega)];exact List.getElem_mem _)).1;unfold bm;simp only;omega
structure CZ(a:Nat->Nat->Nat)(N:Cr)(X:Option Addr)(c:Nat)(b:Option Nat)(w:World)(v:Nat)(f:Bool)(K:KS)(P:CS)(d:Nat)(bad:Bool)(why:Prop)(f2:Bool)(e:Int)(K3:KS)(P3:CS)(b3:Option Nat)(n3:Int)(Z:Option Addr)(m cz:Nat)(w':World):Prop where
 k:Aa N.all w w'
 ff:f=true->f2=true
 fv:f2=true->f=true\/P.may v
 cs:(e=0/\(b=none->b3=none)/\On w' N K3 P3 b3 n3 X c/\why/\∃os l,VM a v K P d os.length K3 P3/\Bh K3 P3 v d os l/\Ly w' 67 5 Z l.length cz (uy l)/\(∀x,x∈aR Z->w.heap.size<=x)/\m=l.length/\os.length<=7/\(∀o,o<25->K3.at_ o≠0->(K3.at_ o-1)/8=v->bad=false\/o≠24->o∈os)/\os.length<=(cc K.ow v).length/\K3.next=K.next) \/
  (e=8/\(b=none->b3=none)/\On w' N K3 P3 b3 n3 X c/\VM a v K P d 8 K3 P3/\P.may d) \/
  (e=7/\b≠none/\AU w' N.N P3 n3/\Tw P3 1099511627775 a)
structure Dp(a:Nat->Nat->Nat)(N:Cr)(X:Option Addr)(c:Nat)(b:Option Nat)(w:World)(v:Nat)(f0 r0:Bool)(K0:KS)(P0:CS)(f:Bool)(K:KS)(P:CS)(d:Nat)(f2:Bool)(e:Int)(K3:KS)(P3:CS)(b3:Option Nat)(n3:Int)(w':World):Prop where
 k:Aa N.all w w'
 ff:f=true->f2=true
 fv:f2=true->f=true\/P.may v
 cs:(e=14/\(b=none->b3=none)/\On w' N K3 P3 b3 n3 X c/\AW a v f0 r0 K0 P0 K3 P3 14) \/
  (e=8/\(b=none->b3=none)/\On w' N K3 P3 b3 n3 X c/\VM a v K P d 8 K3 P3/\P.may d) \/
  (e=7/\b≠none/\AU w' N.N P3 n3/\Tw P3 1099511627775 a)
theorem Bh.again{P':CS}(C:Bh K P v d os l)(h:P'.pg=P.pg):Bh K P' v d os l :=
 ⟨C.nd,C.o8,C.mem,C.len,C.tag,fun i hi=>by
  rw[h,C.pg i hi];congr 1;exact(dG (by rw[h])).symm⟩
theorem VM.ao1{n:Nat}{K3:KS}{P3 P4:CS}(M:VM a v K P d n K3 P3)(h8:n<8)(ft:K3.next=K.next)(hn:K3.next<1099511627775)(hL:Lk P3 P4 (d*8+n))(zm:nf (P4.pg (d*8+n))):VM a v K P d 8 (bS K3) P4/\Tw P4 1099511627775 a:=by
 obtain⟨k,w⟩:=M.w;have hd:=M.jA.1;have w4:=(w.seq hn).cell (P':=P4) (p:=d*8+n) (by omega) (by rw[show(d*8+n)/8=d by omega];exact M.dst.st) (M.dst.bl n (Nat.le_refl _) h8) (fun hf e=>absurd (by have e:K3.fb=(d*8+n)/8:=e;omega) (M.dst.fr hf)) hL.pg (.inl zm);obtain⟨F,nx,e,e1,e2⟩:=M.eq;refine⟨⟨⟨k,w4⟩,M.tk,⟨F,K.next+1,?_,by omega,by omega⟩,⟨hd,M.dst.st,M.dst.fr,fun i hi h8=>by omega,M.dst.dead⟩,M.dv,fun B hB=>M.may B (hL.may B hB)⟩,⟨k,_,w4.mt.mono w4.nx.2,w4.sh⟩⟩;unfold bS;rw[ft,e]
theorem VM.tw{n:Nat}{K3:KS}{P3:CS}(M:VM a v K P d n K3 P3):Tw P3 1099511627775 a:=by
 obtain⟨k,w⟩:=M.w;exact⟨k,_,w.mt.mono w.nx.2,w.sh⟩
def Co(a:Nat->Nat->Nat)(μ:Nat):Prop:=∀(w:World) (N:Cr) (K:KS) (X:Option Addr) (c:Nat) (P:CS) (b:Option Nat) (n:Int) (v:Nat) (f r:Bool),On w N K P b n X c->(∃k,Wi a k K P)->v<12->(K.st v=2\/K.fo=true/\K.fb=v)->12-an K.st 3<=μ ->
 Spec Tryz.prog 102 #[.pointer (some ⟨N.k,0,none⟩),.int .i64 v,.bool f,.bool r] w fun u w'=>Fin N X c b w w' (fun K' P'=>∃e,u=ak e/\AW a v f r K P K' P' e) (fun Q=>u=ak 7/\Tw Q 1099511627775 a)
def CM(a:Nat->Nat->Nat)(μ:Nat):Prop:=∀(w:World) (N:Cr) (K:KS) (X:Option Addr) (c:Nat) (P:CS) (b:Option Nat) (n:Int),On w N K P b n X c->(∃k,Wi a k K P)->12-an K.st 3<=μ ->
 Spec Tryz.prog 151 #[.pointer (some ⟨N.k,0,none⟩)] w fun u w'=>Fin N X c b w w' (fun K' P'=>∃e,u=ak e/\By a K P K' P' e) (fun Q=>u=ak 7/\Tw Q 1099511627775 a)
end
theorem Bz.ab{l:List Tg}{w w2 w':World}{u:Value}(h:Bz l w2 u w')(hs:w.heap.size<=w2.heap.size):∃Z cz,u=.tuple #[.slice Z l.length cz,ak 0]/\Ly w' 67 5 Z l.length cz (uy l)/\∀x,x∈aR Z->w.heap.size<=x:=by
 obtain⟨Z,cz,h1,h2,h3⟩:=h;exact⟨Z,cz,h1,h2,fun x hx=>by have:=h3 x hx;omega⟩
theorem aiW{a:Nat->Nat->Nat}{w w2:World}{N:Cr}{K1:KS}{P1:CS}{X:Option Addr}{c:Nat}{b b1:Option Nat}{n1:Int}{v d:Nat}{k:Cp}{F1 bad:Bool}(h2:On w2 N { K1 with st:=af K1.st d 1,pn:=d+1 } P1 b1 n1 X c)(dJ:Aa N.all w w2)(W1:Wi a k K1 P1)(hv:v<12)(v2:K1.st v=2)(ky:takeN K1.st K1.pn=some d)(eQ:b=none->b1=none) :
  Spec Tryz.prog 148 #[.pointer (some ⟨N.k,0,none⟩),.int .i64 v,.int .i64 d,.bool bad] w2 fun u w'=>∃Z m cz e K3 P3 b3 n3,u=.tuple #[.slice Z m cz,ak e]/\CZ a N X c b w v F1 K1 P1 d bad True F1 e K3 P3 b3 n3 Z m cz w':=by
 obtain⟨G1,O1,G2,G3⟩:=copied W1 hv v2 ky (K1:={ K1 with st:=af K1.st d 1,pn:=d+1 }) rfl bad;refine Spec.mono (ak5 h2 G1) ?_;rintro u w3 ⟨k3,⟨K3,P3,b3,n3,p9,h3,hs,hF,hm,⟨hu,bG⟩|⟨rfl,zC,hp⟩⟩|⟨p9,Q,n3,h3,rfl,hp⟩⟩
 ·obtain⟨Z,cz,rfl,hz,hZ⟩:=hu.ab dJ.size;obtain⟨M,C,ft⟩:=(G2 K3 P3 hs hF hm).1 bG;have hl:=C.len;have dC:K3.at_=K1.at_:=M.eq.elim fun F ⟨nx,e,_⟩=>by rw[e]
  refine⟨Z,_,cz,0,K3,P3,b3,n3,rfl,⟨dJ.trans k3,id,.inl,.inl ⟨rfl,fun x=>p9 (eQ x),h3,trivial,_,_,M,C,hz,hZ,rfl,O1.len.1,fun o ho e hb=>?_,O1.len.2,ft⟩⟩⟩;rw[dC] at e hb;exact O1.all o (by omega) e hb
 ·obtain⟨M,ft⟩:=(G2 K3 P3 hs hF hm).2 hp;exact⟨none,0,0,8,K3,P3,b3,n3,rfl,⟨dJ.trans k3,id,.inl,.inr (.inl ⟨rfl,fun x=>p9 (eQ x),h3,M,zC⟩)⟩⟩
 ·exact⟨none,0,0,7,K1,Q,b1,n3,rfl,⟨dJ.trans k3,id,.inl,.inr (.inr ⟨rfl,fun x=>p9 (eQ x),h3,G3 Q hp⟩)⟩⟩
theorem aiX{a:Nat->Nat->Nat}{μ:Nat}(hB:∀x,x<μ->CM a x):Co a μ:=by
 intro w N K X c P b n v f r h hW hv rU hμ;obtain⟨i0,hi,lZ,lP,l4⟩:=info_parts uz;obtain⟨k0,hW⟩:=hW;have hI:=VI.start hW hv rU f r;refine spec_of_wpE (T:=tt) ah func102 rfl (by decide +kernel) ntmps102 (by simp) ?_;conv=>whnf
 refine CW.cut (ι:=Unit) (fun _ w'=>On w' N (lh K v) P b n X c/\Aa N.all w w') (fun _=>[(0,.pointer (some ⟨N.k,0,none⟩)),(1,.int .i64 v),(2,.bool f),(3,.bool r)]) ah ?_ ?_
 ·conv=>whnf
  repeat ((refine Ld.of h.core.c3 ?_);conv=>whnf)
  refine Ca.of (jW h.core.front) ?_;rintro _ _ ⟨rfl,rfl⟩;have fb:=hW.fb;unfold lh;by_cases hv:(if K.fo=true then (K.fb:Int) else -1)=v
  ·rw[if_pos hv,hv];conv=>whnf
   repeat (refine Br.y ?_;conv=>whnf)
   refine Ca.of (ld h fb) ?_;rintro _ w2 ⟨rfl,h2,k2⟩;conv=>whnf
   exact⟨(),⟨h2,k2⟩,⟨rfl,rfl,rfl,rfl,trivial⟩⟩
  ·rw[if_neg hv];conv=>whnf
   repeat ((refine Br.bF (decide_eq_false hv) ?_);conv=>whnf)
   exact⟨(),⟨h,Aa.refl _ _⟩,⟨rfl,rfl,rfl,rfl,trivial⟩⟩
 rintro _ w1 ⟨h1,k1⟩;have ck:∀x,w.heap.size<=x->x∉N.all:=fun x hx hm=>by
  have h3:x<w.heap.size:=by
   rcases List.mem_append.1 hm with hm|hm
   ·exact h.core.lt (List.mem_append_left _ hm)
   ·exact h.gT _ hm
  omega
 refine CW.loop (ι:=Bool×Bool×KS×CS×Option Nat×Int) (fun i w'=>(b=none->i.2.2.2.2.1=none)/\VI a v f r K P i.1 i.2.1 i.2.2.1 i.2.2.2.1/\On w' N i.2.2.1 i.2.2.2.1 i.2.2.2.2.1 i.2.2.2.2.2 X c/\Aa N.all w w')
  (fun i=>[(0,.pointer (some ⟨N.k,0,none⟩)),(1,.int .i64 v),(2,.bool i.1),(3,.bool i.2.1)]) (fun i=>12-an i.2.2.1.st 3) (f,r,lh K v,P,b,n) ah ⟨id,hI,h1,k1⟩ ⟨rfl,rfl,rfl,rfl,trivial⟩ ?_;clear h1 k1 hI;rintro⟨f1,r1,K1,P1,b1,n1⟩ wr ⟨eQ,I,h1,k1⟩;simp only at eQ I h1 k1 ⊢;obtain⟨kk,W1⟩:=I.w;have aqz:an K1.st 3<=12:=cZ _ _ _;have hcμ:12-an K1.st 3<=μ:=by
  have:an K.st 3<=an K1.st 3:=ix I.jc;omega
 have hpn:=W1.pn
 -- the switch
 conv=>whnf
 repeat ((refine Ld.of h1.core.c1 ?_);conv=>whnf)
 refine Ca.of (iQ h1.core.aY 3) ?_;rintro _ _ ⟨rfl,rfl⟩;conv=>whnf
 generalize hlb:decide (((an K1.st 3:Nat):Int)≥2)=lb at *;refine CW.cut (ι:=Bool) (fun r2 w'=>w'=wr/\(r2=true->r1=true/\lb=false)/\¬(f1=true/\lb=true)/\aA K1.st=false) (fun r2=>[(0,.pointer (some ⟨N.k,0,none⟩)),(1,.int .i64 v),(2,.bool f1),(3,.bool r2),(9,.bool lb)]) ah ?_ ?_
 ·by_cases tC:f1=true/\lb=true
  ·obtain⟨rfl,rfl⟩:=tC;have hl2:=of_decide_eq_true hlb;conv=>whnf
   repeat ((first|refine Br.t ?_|refine Pk.t ?_);conv=>whnf)
   refine Ca.of (uZ h1 hv) ?_;rintro _ w2 ⟨rfl,h2,k2⟩;conv=>whnf
   exact⟨rfl,k1.trans k2,.inl ⟨_,P1,b1,n1,eQ,h2,14,rfl,I.last rfl (by omega)⟩⟩
  ·have ao2:lb=true->2<=an K1.st 3:=fun x=>by rw[x] at hlb;have:=of_decide_eq_true hlb;omega
   have afF:lb=false->an K1.st 3<=1:=fun x=>by rw[x] at hlb;have:=of_decide_eq_false hlb;omega
   have h3:(f1=false/\lb=false)\/(f1=false/\lb=true)\/(f1=true/\lb=false):=by
    revert tC
    cases f1<;>cases lb<;>simp
   by_cases hw:aA K1.st=true
   ·rcases h3 with⟨rfl,rfl⟩|⟨rfl,rfl⟩|⟨rfl,rfl⟩
    all_goals
     conv=>whnf
     repeat ((first|(refine Ld.of h1.core.c1 ?_)|refine Br.t ?_|refine Br.f ?_|refine Pk.f ?_|refine Pk.t ?_);conv=>whnf)
     refine Ca.of (eM h1.core.aY) ?_;rintro _ _ ⟨rfl,rfl⟩;rw[hw];conv=>whnf
     repeat (refine Br.t ?_;conv=>whnf)
     exact⟨rfl,k1,.inl ⟨K1,P1,b1,n1,eQ,h1,14,rfl,I.aaZ hw⟩⟩
   ·have hw:aA K1.st=false:=by simpa using hw
    rcases h3 with⟨rfl,rfl⟩|⟨rfl,rfl⟩|⟨rfl,rfl⟩
    all_goals
     conv=>whnf
     repeat ((first|(refine Ld.of h1.core.c1 ?_)|refine Br.t ?_|refine Br.f ?_|refine Pk.f ?_|refine Pk.t ?_);conv=>whnf)
     refine Ca.of (eM h1.core.aY) ?_;rintro _ _ ⟨rfl,rfl⟩;rw[hw];conv=>whnf
     repeat ((first|refine Br.t ?_|refine Br.f ?_);conv=>whnf)
    ·exact⟨r1,⟨rfl,fun x=>⟨x,rfl⟩,tC,by first|exact hw|rfl⟩,⟨rfl,rfl,rfl,rfl,rfl,trivial⟩⟩
    ·exact⟨false,⟨rfl,fun x=>(by cases x),tC,by first|exact hw|rfl⟩,⟨rfl,rfl,rfl,rfl,rfl,trivial⟩⟩
    ·exact⟨r1,⟨rfl,fun x=>⟨x,rfl⟩,tC,by first|exact hw|rfl⟩,⟨rfl,rfl,rfl,rfl,rfl,trivial⟩⟩
 rintro r2 _ ⟨rfl,sB,tC,hw⟩;have ao2:lb=true->2<=an K1.st 3:=fun x=>by rw[x] at hlb;have:=of_decide_eq_true hlb;omega
 have afF:lb=false->an K1.st 3<=1:=fun x=>by rw[x] at hlb;have:=of_decide_eq_false hlb;omega
 clear hlb;have h3:(f1=true/\lb=false)\/(f1=false/\r2=true/\lb=false)\/(f1=false/\r2=false):=by
  revert tC sB
  cases f1<;>cases lb<;>cases r2<;>simp
 obtain⟨F1,ze⟩:∃F1,F1=f1:=⟨_,rfl⟩;obtain⟨R2,hR2⟩:∃R2,R2=r2:=⟨_,rfl⟩;have J:VI a v f r K P F1 r1 K1 P1:=by rw[ze];exact I
 have hrr:R2=true->r1=true/\an K1.st 3<=1:=fun x=>⟨(sB (by rw[<-hR2];exact x)).1,afF (sB (by rw[<-hR2];exact x)).2⟩
 have v12:=J.v2;rcases h3 with⟨rfl,rfl⟩|⟨rfl,rfl,rfl⟩|⟨rfl,rfl⟩
 all_goals
  conv=>whnf
  repeat ((first|(refine Ld.of h1.core.c1 ?_)|refine Br.t ?_|refine Br.f ?_|refine Pk.f ?_|refine Pk.t ?_);conv=>whnf)
  refine Ca.of (mn h1.core.aY hpn) ?_;intro u w2 hu;unfold AB at hu;by_cases htn:takeN K1.st K1.pn=none
  case' pos =>
   rw[htn] at hu;obtain⟨rfl,rfl⟩:=hu;conv=>whnf
   repeat ((first|refine Br.t ?_|refine Ru.n1 ?_|refine CW.s ?_);conv=>whnf)
   exact⟨rfl,k1,.inl ⟨K1,P1,b1,n1,eQ,h1,14,rfl,I.none htn⟩⟩
  obtain⟨d,ky⟩:=Option.ne_none_iff_exists'.1 htn;rw[ky] at hu;obtain⟨rfl,q2,k2⟩:=hu;have h2:=h1.aY k2 q2;have dJ:=k1.trans (Aa.jg (by simp[Cr.own]) k2);have qE:=(da ky).1;conv=>whnf
  repeat ((first|refine Br.f ?_|refine Ru.ai ?_|refine CW.s ?_);conv=>whnf)
  refine Ca.of (aiW (F1:=F1) h2 dJ W1 hv v12 ky eQ) ?_;rintro _ w3 ⟨Z,m,cz,e,K3,P3,b3,n3,rfl,B3⟩;conv=>whnf
  refine CW.cut (ι:=Bool×Int×KS×CS×Option Nat×Int×Option Addr×Nat×Nat) (fun i w'=>CZ a N X c b w v F1 K1 P1 d true ((i.1=true\/(R2=true/\an K1.st 3<=1)\/P1.may v)/\an K1.st 3<=1) i.1 i.2.1 i.2.2.1 i.2.2.2.1 i.2.2.2.2.1 i.2.2.2.2.2.1 i.2.2.2.2.2.2.1 i.2.2.2.2.2.2.2.1 i.2.2.2.2.2.2.2.2 w')
   (fun i=>[(0,.pointer (some ⟨N.k,0,none⟩)),(1,.int .i64 v),(2,.bool i.1),(3,.bool R2),(11,.int .i64 d),(12,ak i.2.1),(13,.slice i.2.2.2.2.2.2.1 i.2.2.2.2.2.2.2.1 i.2.2.2.2.2.2.2.2)]) ah ?_ ?_
  case' refine_2 =>
   clear B3;rintro⟨f2,e2,K4,P4,b4,n4,Z4,m4,cz4⟩ w4 B4;simp only at B4 ⊢;conv=>whnf
   refine CW.cut (ι:=Int×KS×CS×Option Nat×Int) (fun i w'=>Dp a N X c b w v f r K P F1 K1 P1 d f2 i.1 i.2.1 i.2.2.1 i.2.2.2.1 i.2.2.2.2 w')
    (fun i=>[(0,.pointer (some ⟨N.k,0,none⟩)),(1,.int .i64 v),(2,.bool f2),(3,.bool R2),(11,.int .i64 d),(12,ak i.1)]) ah ?_ ?_
   ·rcases B4.cs with⟨rfl,hb4,h4,why,os,l,M,C,hz,hZ,rfl,h7,cu,hlen,ft⟩|⟨rfl,hb4,h4,M,zC⟩|⟨rfl,hbb,h4,nF⟩
    ·obtain⟨k4,W4⟩:=M.w;have hcl:=C.len;have hmy:=fun B hB=>M.may B hB;conv=>whnf
     repeat ((first|refine Br.t ?_|refine Ru.au ?_);conv=>whnf)
     refine Ru.fp ?_;intro x14 w5 hx14 wu r14 k5;have h5:=h4.aj k5;have hz5:=hz.aj k5;have dE:=B4.k.trans (Aa.eA k5);have aef:w.heap.size<=x14:=by
      rw[hx14];exact B4.k.size
     conv=>whnf
     refine Ca.of (ak7 h5 hv qE (i:=l.length) (by omega) W4.hb W4.nx.1 (fun hn=>jd W4 (by have:=W4.nx;omega) v) (by rw[hcl];exact M.dst.bl _ (Nat.le_refl _) (by omega))) ?_;rintro _ w6 ⟨k6,hr6⟩;have ak8:=r14.ab k6 (ck x14 aef);have hz6:=hz5.ab k6 (fun x hx=>ck x (hZ x hx));have fX:=dE.trans k6;have rL:∀x,x∈[x14]->w.heap.size<=x:=fun x hx=>by rw[List.mem_singleton.1 hx];exact aef
     rw[hcl] at hr6;rcases hr6 with⟨K6,P6,b6,n6,hb6,h6,⟨xP,rfl,rfl,rfl⟩|⟨hn,g1,⟨rfl,rfl,g2⟩|⟨rfl,rfl,g2,g3⟩⟩⟩|⟨hb6,Q,n6,h6,rfl,hn,g1,g2⟩
     ·conv=>whnf
      refine Ru.kQ ak8 ?_;intro w7 r147 k7;have nz:Aa N.all w w7:=fX.then k7 (fun x hx=>.inr (rL x hx));conv=>whnf
      repeat ((first|refine Br.f ?_|refine Ru.e1 ?_);conv=>whnf)
      exact⟨(14,_,_,b6,n6),⟨nz,B4.ff,B4.fv,.inl ⟨rfl,fun x=>hb6 (hb4 x),h.dN h6 k7 rL,J.out M ft xP⟩⟩,⟨rfl,rfl,rfl,rfl,rfl,rfl,trivial⟩⟩
     ·have bt:∀x,x∈aR Z4->x<x14:=fun x hx=>by rw[hx14];exact hz.kI hx
      conv=>whnf
      refine Ru.kQ ak8 ?_;intro w7 r147 k7;have nz:Aa N.all w w7:=fX.then k7 (fun x hx=>.inr (rL x hx));have h7':=h.dN h6 k7 rL;have hz7:=hz6.ab k7 (fun x hx hm=>by have:=bt x hx;rw[List.mem_singleton.1 hm] at this;omega);conv=>whnf
      repeat ((first|(refine Ld.of h7'.core.c1 ?_)|refine Br.t ?_|refine Ru.au ?_);conv=>whnf)
      refine Ca.of (eK h7'.core.aY v 3 hv (by omega)) ?_;rintro _ w8 ⟨⟨e8,rfl⟩,q8,k8⟩;have h8:=h7'.aY k8 q8;have kp8:Aa N.all w7 w8:=Aa.jg (by simp[Cr.own]) k8;have hz8:=hz7.ab kp8 (fun x hx=>ck x (hZ x hx));have ao3:=r147.ab kp8 (ck x14 aef);have pK:=nz.trans kp8;generalize hT:dP K4 (d*8+os.length)=T at *;conv=>whnf
      refine Ru.fF ao3 ?_;conv=>whnf
      refine Ru.of (uB _ _) ?_;have ka:Aa [] w8 (w8.alloc (.cells T.arr 67)):=(Aa.refl _ _).alloc _;have ha:Rd (w8.alloc (.cells T.arr 67)) (some ⟨w8.heap.size,0,none⟩) (1*5) T.cell:=fun _=>⟨w8.heap.size,0,rfl,fun j hj=>(Row.tg (heap_alloc_new _ _)).ah6 j hj⟩
      generalize w8.alloc _=w9 at *;conv=>whnf
      refine Bu.append underlying239 hi lZ lP l4 rfl (by omega) (hz8.aj ka) _ ha (by omega) (by simp) (fun j hj=>tH _ j hj) (by simp only[maxLen];omega) (by omega) ?_;intro Z2 cz2 zy hz11 lD hat11 hpre11;have sA:=h.dN (h8.aj ka) lD hZ;have ao4:=(ao3.ab ka (by simp)).ab lD (fun hm=>by have:=bt x14 hm;omega);have aib:Aa N.all w zy:=(pK.trans (Aa.eA ka)).then lD (fun x hx=>.inr (hZ x hx));have z11:Ly zy 67 5 Z2 (l++[T]).length cz2 (uy (l++[T])):=by
       rw[List.length_append,List.length_singleton];exact hz11.congr (fun j hj=>qD rfl j hj)
      have hTp:(0<=T.of/\T.of<=24)/\0<=T.place/\T.place<96:=by
       rw[<-hT];unfold dP;simp only;omega
      have v4:K4.st v=2:=by rw[M.old (by omega)];exact v12
      have hw4:aA K4.st=false:=by
       unfold aA at hw ⊢;rw[M.cnt.1];exact hw
      have ku:∀o,o<24->K4.at_ o≠0->(K4.at_ o-1)/8=v->o∈os:=fun o ho e hb=>cu o (by omega) e hb (.inr (by omega));have hF:Hl.HB (Hl.qB K4.F ((d*8+os.length)/8)):=W4.hb.rd (by omega);have g2':P6.pg (d*8+os.length)=.full (dP K4 (d*8+os.length)) (uC (iv (bS K4) K4.next v)):=by rw[hT];exact g2
      have hsd:=(W4.said hw4 hv v4 M.dst C h7 ku hn hF g1.pg g2').2.2.2.1;rw[hT] at hsd;conv=>whnf
      rw[show l.length+1=(l++[T]).length by simp];refine Ca.of (y9 sA qE z11 (by simp;omega) (fun t ht=>?_) (fun i hi=>?_) W4.fb W4.fi) ?_
      ·rcases List.mem_append.1 ht with ht|ht
       ·exact C.tgs qE t ht
       ·rw[List.mem_singleton.1 ht];exact hTp
      ·have oh:i<=l.length:=by simp at hi;omega
       rw[List.take_append_of_le_length oh];exact C.wf (K2:={ pG (bS K4) (d*8+os.length) with st:=aG (pG (bS K4) (d*8+os.length)).st v 3 }) W4.fh qE M.dst.dead rfl rfl rfl i oh
      rintro _ w12 ⟨rfl,pC,vG⟩;have ao5:=ao4.ab vG (ck x14 aef);conv=>whnf
      refine Ru.fF ao5 ?_;conv=>whnf
      refine Ca.of (sD pC hsd (t:=T) (o:=24) (p:=d*8+os.length) (by omega) (by omega) (by rw[<-hT];rfl) (by rw[<-hT];rfl)) ?_;rintro _ w13 ⟨rfl,h13,zZ⟩;conv=>whnf
      have aqA:On w13 N (syK K4 (Hl.qB K4.F ((d*8+os.length)/8)) v d os.length l) P6 b6 n6 X c:=by
       unfold syK;rw[hT];exact h13
      refine⟨rfl,(aib.trans vG).trans zZ,.inl ⟨_,P6,b6,n6,fun x=>hb6 (hb4 x),aqA,0,rfl,J.said why.2 M C ?_ hw h7 ku hlen ft hn hF g1.pg g2' g1.may⟩⟩;rcases why.1 with x|x|x
      ·rcases B4.fv x with y|y
       ·exact .inl y
       ·exact .inr (.inr y)
      ·exact .inr (.inl (hrr x.1))
      ·exact .inr (.inr x)
     ·conv=>whnf
      refine Ru.kQ ak8 ?_;intro w7 r147 k7;have nz:Aa N.all w w7:=fX.then k7 (fun x hx=>.inr (rL x hx));obtain⟨M6,_⟩:=M.ao1 (by omega) ft hn g1 g2;have zC:P1.may d:=by
       have:=M.may _ g3;rw[show(d*8+os.length)/8=d by omega] at this;exact this
      conv=>whnf
      repeat ((first|refine Br.f ?_|refine Ru.e1 ?_);conv=>whnf)
      exact⟨(8,_,_,b6,n6),⟨nz,B4.ff,B4.fv,.inr (.inl ⟨rfl,fun x=>hb6 (hb4 x),h.dN h6 k7 rL,M6,zC⟩)⟩,⟨rfl,rfl,rfl,rfl,rfl,rfl,trivial⟩⟩
     ·conv=>whnf
      refine Ru.kQ ak8 ?_;intro w7 r147 k7;have nz:Aa N.all w w7:=fX.then k7 (fun x hx=>.inr (rL x hx));obtain⟨_,T6⟩:=M.ao1 (by omega) ft hn g1 g2;conv=>whnf
      repeat ((first|refine Br.f ?_|refine Ru.e1 ?_);conv=>whnf)
      exact⟨(7,K4,Q,b4,n6),⟨nz,B4.ff,B4.fv,.inr (.inr ⟨rfl,fun x=>hb6 (hb4 x),h.alA h6 k7 rL,T6⟩)⟩,⟨rfl,rfl,rfl,rfl,rfl,rfl,trivial⟩⟩
    ·conv=>whnf
     repeat ((first|refine Br.f ?_|refine Ru.e1 ?_);conv=>whnf)
     exact⟨(8,K4,P4,b4,n4),⟨B4.k,B4.ff,B4.fv,.inr (.inl ⟨rfl,hb4,h4,M,zC⟩)⟩,⟨rfl,rfl,rfl,rfl,rfl,rfl,trivial⟩⟩
    ·conv=>whnf
     repeat ((first|refine Br.f ?_|refine Ru.e1 ?_);conv=>whnf)
     exact⟨(7,K4,P4,b4,n4),⟨B4.k,B4.ff,B4.fv,.inr (.inr ⟨rfl,hbb,h4,nF⟩)⟩,⟨rfl,rfl,rfl,rfl,rfl,rfl,trivial⟩⟩
   ·clear B4;rintro⟨e5,K5,P5,b5,n5⟩ w5 C5;simp only at C5 ⊢;rcases C5.cs with⟨rfl,hb5,h5,hV⟩|⟨rfl,hb5,h5,M,zC⟩|⟨rfl,hbb,h5,nF⟩
    ·conv=>whnf
     repeat (refine CW.s ?_;conv=>whnf)
     refine Ca.of (aW 14 8 (by decide) w5) ?_;rintro _ _ ⟨rfl,rfl⟩;conv=>whnf
     repeat (refine Br.t ?_;conv=>whnf)
     exact⟨rfl,C5.k,.inl ⟨K5,P5,b5,n5,hb5,h5,14,rfl,hV⟩⟩
    ·obtain⟨⟨k6,W6⟩,c6,hlast,hbads⟩:=J.aoX M zC C5.ff C5.fv (fun x=>(hrr x).1);have hc6:an (aG K5.st d 3) 3<=12:=cZ _ _ _;conv=>whnf
     repeat (refine CW.s ?_;conv=>whnf)
     refine Ca.of (aW 8 8 (by decide) w5) ?_;rintro _ _ ⟨rfl,rfl⟩;conv=>whnf
     repeat ((first|(refine Ld.of h5.core.c1 ?_)|refine Br.f ?_);conv=>whnf)
     refine Ca.of (eK h5.core.aY d 3 qE (by omega)) ?_;rintro _ w6 ⟨⟨e6,rfl⟩,q6,k6'⟩;have h6:On w6 N { K5 with st:=aG K5.st d 3 } P5 b5 n5 X c:=h5.aY k6' q6;have fX:=C5.k.trans (Aa.jg (by simp[Cr.own]) k6');have cL:=hB (12-an (aG K5.st d 3) 3) (by omega) w6 N { K5 with st:=aG K5.st d 3 } X c P5 b5 n5 h6 ⟨k6,W6⟩ (Nat.le_refl _);have hf2:(f2=true/\2<=an (aG K5.st d 3) 3)\/(f2=true/\¬2<=an (aG K5.st d 3) 3)\/f2=false:=by
      cases f2
      ·exact .inr (.inr rfl)
      ·by_cases x:2<=an (aG K5.st d 3) 3
       ·exact .inl ⟨rfl,x⟩
       ·exact .inr (.inl ⟨rfl,x⟩)
     rcases hf2 with⟨rfl,hl2⟩|⟨rfl,hl2⟩|rfl
     case' inl =>
      conv=>whnf
      repeat ((first|(refine Ld.of h6.core.c1 ?_)|refine Br.t ?_|refine CW.s ?_);conv=>whnf)
      refine Ca.of (iQ h6.core.aY 3) ?_;rintro _ _ ⟨rfl,rfl⟩;conv=>whnf
      repeat ((first|(refine Br.is (decide_eq_true (by show((an (aG K5.st d 3) 3:Nat):Int)≥2;omega)) ?_)|refine Br.t ?_|refine Pk.t ?_);conv=>whnf)
      refine Ca.of (uZ h6 hv) ?_;rintro _ w7 ⟨rfl,h7,k7⟩;conv=>whnf
      exact⟨rfl,fX.trans k7,.inl ⟨_,P5,b5,n5,hb5,h7,14,rfl,hlast rfl hl2⟩⟩
     case' inr.inl =>
      conv=>whnf
      repeat ((first|(refine Ld.of h6.core.c1 ?_)|refine Br.t ?_|refine CW.s ?_);conv=>whnf)
      refine Ca.of (iQ h6.core.aY 3) ?_;rintro _ _ ⟨rfl,rfl⟩;conv=>whnf
      repeat ((first|(refine Br.bF (decide_eq_false (by show ¬((an (aG K5.st d 3) 3:Nat):Int)≥2;omega)) ?_)|refine Br.t ?_|refine Pk.t ?_);conv=>whnf)
     case' inr.inr =>
      conv=>whnf
      repeat ((first|refine Br.f ?_|refine Pk.f ?_|refine CW.s ?_);conv=>whnf)
     all_goals
      refine Ca.of cL ?_;rintro _ w7 ⟨k7,⟨K7,P7,b7,n7,vT,h7,e7,rfl,hV⟩|⟨vT,Q,n7,h7,rfl,nF⟩⟩
      case' inr =>
       conv=>whnf
       repeat ((first|refine Br.t ?_|refine Ru.n1 ?_);conv=>whnf)
       exact⟨rfl,fX.trans k7,.inr ⟨fun x=>vT (hb5 x),Q,n7,h7,rfl,nF⟩⟩
      obtain⟨o1,o2⟩:=hbads K7 P7 e7 hV;rcases hV.er with rfl|rfl
      case' inr =>
       conv=>whnf
       repeat ((first|refine Br.t ?_|refine Ru.n1 ?_);conv=>whnf)
       exact⟨rfl,fX.trans k7,.inl ⟨K7,P7,b7,n7,fun x=>vT (hb5 x),h7,14,rfl,o2 rfl⟩⟩
      obtain⟨o3,o4⟩:=o1 rfl;have hc7:an K7.st 3<=12:=cZ _ _ _;conv=>whnf
      repeat ((first|refine Br.f ?_|refine Ru.ai ?_);conv=>whnf)
      exact⟨(_,R2,K7,P7,b7,n7),⟨fun x=>vT (hb5 x),o3,h7,fX.trans k7⟩,⟨rfl,rfl,rfl,rfl,trivial⟩,by simp only;omega⟩
    ·conv=>whnf
     repeat (refine CW.s ?_;conv=>whnf)
     refine Ca.of (aW 7 8 (by decide) w5) ?_;rintro _ _ ⟨rfl,rfl⟩;conv=>whnf
     repeat (refine Br.t ?_;conv=>whnf)
     exact⟨rfl,C5.k,.inr ⟨hbb,P5,n5,h5,rfl,nF⟩⟩
 ·rcases B3.cs with⟨rfl,p9,h3,-,os,l,M,C,hz,hZ,rfl,h7,cu,hlen,ft⟩|⟨rfl,p9,h3,M,zC⟩|⟨rfl,hbb,h3,nF⟩
  all_goals
   conv=>whnf
   repeat ((first|refine Br.t ?_|refine Br.f ?_|refine Pk.f ?_|refine Pk.t ?_|refine Ru.au ?_|refine Ru.e1 ?_);conv=>whnf)
  ·exact⟨(true,0,K3,P3,b3,n3,Z,l.length,cz),⟨B3.k,fun _=>rfl,fun _=>.inl ze,.inl ⟨rfl,p9,h3,⟨.inl rfl,afF rfl⟩,os,l,M,C,hz,hZ,rfl,h7,cu,hlen,ft⟩⟩,⟨rfl,rfl,rfl,congrArg Value.bool hR2.symm,rfl,rfl,rfl,trivial⟩⟩
  ·exact⟨(true,8,K3,P3,b3,n3,Z,m,cz),⟨B3.k,fun _=>rfl,fun _=>.inl ze,.inr (.inl ⟨rfl,p9,h3,M,zC⟩)⟩,⟨rfl,rfl,rfl,congrArg Value.bool hR2.symm,rfl,rfl,rfl,trivial⟩⟩
  ·exact⟨(true,7,K3,P3,b3,n3,Z,m,cz),⟨B3.k,fun _=>rfl,fun _=>.inl ze,.inr (.inr ⟨rfl,hbb,h3,nF⟩)⟩,⟨rfl,rfl,rfl,congrArg Value.bool hR2.symm,rfl,rfl,rfl,trivial⟩⟩
 ·rcases B3.cs with⟨rfl,p9,h3,-,os,l,M,C,hz,hZ,rfl,h7,cu,hlen,ft⟩|⟨rfl,p9,h3,M,zC⟩|⟨rfl,hbb,h3,nF⟩
  all_goals
   conv=>whnf
   repeat ((first|refine Br.t ?_|refine Br.f ?_|refine Pk.f ?_|refine Pk.t ?_|refine Ru.au ?_|refine Ru.e1 ?_);conv=>whnf)
  ·exact⟨(false,0,K3,P3,b3,n3,Z,l.length,cz),⟨B3.k,fun x=>(by rw[ze] at x;exact x),fun x=>(by cases x),.inl ⟨rfl,p9,h3,⟨.inr (.inl ⟨hR2,afF rfl⟩),afF rfl⟩,os,l,M,C,hz,hZ,rfl,h7,cu,hlen,ft⟩⟩,⟨rfl,rfl,rfl,congrArg Value.bool hR2.symm,rfl,rfl,rfl,trivial⟩⟩
  ·exact⟨(false,8,K3,P3,b3,n3,Z,m,cz),⟨B3.k,fun x=>(by rw[ze] at x;exact x),fun x=>(by cases x),.inr (.inl ⟨rfl,p9,h3,M,zC⟩)⟩,⟨rfl,rfl,rfl,congrArg Value.bool hR2.symm,rfl,rfl,rfl,trivial⟩⟩
  ·exact⟨(false,7,K3,P3,b3,n3,Z,m,cz),⟨B3.k,fun x=>(by rw[ze] at x;exact x),fun x=>(by cases x),.inr (.inr ⟨rfl,hbb,h3,nF⟩)⟩,⟨rfl,rfl,rfl,congrArg Value.bool hR2.symm,rfl,rfl,rfl,trivial⟩⟩
 ·rcases B3.cs with⟨rfl,p9,h3,-,os,l,M,C,hz,hZ,rfl,h7,cu,hlen,ft⟩|⟨rfl,p9,h3,M,zC⟩|⟨rfl,hbb,h3,nF⟩
  ·obtain⟨k4,W3⟩:=M.w;have alB:∀o,o<25->K3.at_ o≠0->(K3.at_ o-1)/8=v->o∈os:=fun o ho e hb=>cu o ho e hb (.inl rfl);conv=>whnf
   repeat ((first|(refine Ld.of h3.core.c0 ?_)|refine Br.t ?_|refine Pk.t ?_|refine Ru.au ?_);conv=>whnf)
   refine Ca.of (mV h3.qC (B:=v) hv) ?_;rintro _ w4 ⟨k4,hr4⟩;have kc4:Aa N.N.l w3 w4:=k4.mono (fun x hx=>by rw[List.mem_singleton.1 hx];simp[Pt.l]);have bT:=B3.k.trans (Aa.ofl kc4);have hz4:=hz.ab (Aa.ofl kc4) (h3.gv hz);rcases hr4.two with⟨b4,hb4,rfl,M4⟩|⟨hb4,Q,hQ,rfl,M4⟩
   ·have h4:=h3.dz kc4 M4;rcases aeb P3 v with⟨e1,e2,e3⟩|⟨e1,e2,e3,e4⟩
    ·rw[e1];rw[e2] at h4;conv=>whnf
     repeat ((first|(refine Ld.of h4.core.c1 ?_)|refine Br.t ?_|refine Ru.au ?_|refine CW.s ?_);conv=>whnf)
     refine Ca.of (eK h4.core.aY v 0 hv (by omega)) ?_;rintro _ w5 ⟨⟨e5,rfl⟩,q5,k5⟩;have h5:=h4.aY k5 q5;have z5:=hz4.ab (Aa.jg (by simp[Cr.own]) k5) (h4.gv hz4);conv=>whnf
     repeat ((refine Ld.of h5.core.c4 ?_);conv=>whnf)
     refine Ca.of (Hl.mZ w5 N.e _ h5.core.aL v hv) ?_;rintro _ w6 ⟨rfl,q6,k6⟩;have h6:On w6 N (oH K3 v) (P3.dD v) b4 n3 X c:=h5.aL k6 q6;have z6:=z5.ab (Aa.jg (by simp[Cr.own]) k6) (h5.gv z5);have fX:=(bT.trans (Aa.jg (by simp[Cr.own]) k5)).trans (Aa.jg (by simp[Cr.own]) k6);conv=>whnf
     refine Ca.of (y9 h6 qE z6 (by have:=C.len;omega) (C.tgs qE) (fun i hi=>C.wf (K2:=oH K3 v) W3.fh qE M.dst.dead rfl rfl rfl i (by omega)) W3.fb W3.fi) ?_;rintro _ w7 ⟨rfl,h7',k7⟩;conv=>whnf
     exact⟨rfl,fX.trans k7,.inl ⟨_,_,b4,n3,fun x=>hb4 (p9 x),h7',0,rfl,J.erased hw M C ze alB hlen ft e3⟩⟩
    ·rw[e1];have DB:=M.again e2 e4;have C4:=C.again e2;have hmv:=M.may v e3;conv=>whnf
     repeat ((first|refine Br.f ?_|refine Ru.e1 ?_|refine CW.s ?_);conv=>whnf)
     refine Ca.of (aW 8 8 (by decide) w4) ?_;rintro _ _ ⟨rfl,rfl⟩
     cases lb
     ·conv=>whnf
      repeat ((first|refine Br.t ?_|refine Br.f ?_);conv=>whnf)
      exact⟨(true,0,K3,_,b4,n3,Z,l.length,cz),⟨bT,fun _=>rfl,fun _=>.inr hmv,.inl ⟨rfl,fun x=>hb4 (p9 x),h4,⟨.inl rfl,afF rfl⟩,os,l,DB,C4,hz4,hZ,rfl,h7,fun o ho e hb _=>alB o ho e hb,hlen,ft⟩⟩,⟨rfl,rfl,rfl,congrArg Value.bool hR2.symm,rfl,rfl,rfl,trivial⟩⟩
     ·conv=>whnf
      repeat ((first|(refine Ld.of h4.core.c1 ?_)|refine Br.t ?_);conv=>whnf)
      refine Ca.of (eK h4.core.aY d 2 qE (by omega)) ?_;rintro _ w5 ⟨⟨e5,rfl⟩,q5,k5⟩;have h5:=h4.aY k5 q5;conv=>whnf
      refine Ca.of (uZ h5 hv) ?_;rintro _ w6 ⟨rfl,h6,k6⟩;conv=>whnf
      exact⟨rfl,(bT.trans (Aa.jg (by simp[Cr.own]) k5)).trans k6,.inl ⟨_,_,b4,n3,fun x=>hb4 (p9 x),h6,14,rfl,J.aoW DB ft (ao2 rfl) hmv⟩⟩
   ·conv=>whnf
    repeat ((first|refine Br.f ?_|refine Ru.e1 ?_|refine CW.s ?_);conv=>whnf)
    refine Ca.of (aW 7 8 (by decide) w4) ?_;rintro _ _ ⟨rfl,rfl⟩;conv=>whnf
    repeat (refine Br.f ?_;conv=>whnf)
    rw[List.mem_singleton.1 hQ] at M4;exact⟨(false,7,K3,P3,b3,n3,Z,l.length,cz),⟨bT,fun x=>(by rw[ze] at x;exact x),fun x=>(by cases x),.inr (.inr ⟨rfl,fun x=>hb4 (p9 x),M4,M.tw⟩)⟩,⟨rfl,rfl,rfl,congrArg Value.bool hR2.symm,rfl,rfl,rfl,trivial⟩⟩
  all_goals
   conv=>whnf
   repeat ((first|refine Br.f ?_|refine Pk.f ?_|refine Ru.e1 ?_);conv=>whnf)
  ·exact⟨(false,8,K3,P3,b3,n3,Z,m,cz),⟨B3.k,fun x=>(by rw[ze] at x;exact x),fun x=>(by cases x),.inr (.inl ⟨rfl,p9,h3,M,zC⟩)⟩,⟨rfl,rfl,rfl,congrArg Value.bool hR2.symm,rfl,rfl,rfl,trivial⟩⟩
  ·exact⟨(false,7,K3,P3,b3,n3,Z,m,cz),⟨B3.k,fun x=>(by rw[ze] at x;exact x),fun x=>(by cases x),.inr (.inr ⟨rfl,hbb,h3,nF⟩)⟩,⟨rfl,rfl,rfl,congrArg Value.bool hR2.symm,rfl,rfl,rfl,trivial⟩⟩
end
end Go.Proofs.YtaeikigfgfcadaaGreat
