/- Texts behind one another: W11, W12, W13, W14, W15, W16, W17, Pl10, Pl11, Pl12, Top1, Top2, Top3, Top4, Top5, Top6, W18, Flip, W19, NewW. -/
import Derived.Test.YtaeikigfgfcadaaGreatMq0a
import Derived.Test.YtaeikigfgfcadaaGreatMq0b
import Derived.Test.YtaeikigfgfcadaaGreatMq0c
import Derived.Test.YtaeikigfgfcadaaGreatMq0d
import Derived.Test.YtaeikigfgfcadaaGreatMq0e
import Derived.Test.YtaeikigfgfcadaaGreatMq0f
namespace Go.Proofs.YtaeikigfgfcadaaGreat
open Go.Proofs.Tryz
set_option maxHeartbeats 8000000
set_option maxRecDepth 20000
set_option linter.unusedVariables false
set_option linter.unusedSimpArgs false
set_option linter.unnecessarySimpa false
section
open Go.RowKit
theorem aiY{a:Nat->Nat->Nat}{μ:Nat}(hV:∀x,x<=μ->Co a x):CM a μ:=by
 intro w N K X c P b n h hW hμ;obtain⟨k0,hW⟩:=hW;have hI:=BI.start hW;have ck:∀x,w.heap.size<=x->x∉N.all:=fun x hx hm=>by
  have h3:x<w.heap.size:=by
   rcases List.mem_append.1 hm with hm|hm
   ·exact h.core.lt (List.mem_append_left _ hm)
   ·exact h.gT _ hm
  omega
 refine spec_of_wpE (T:=tt) ah func151 rfl (by decide +kernel) ntmps151 (by simp) ?_;refine CW.loop (ι:=KS×CS×Option Nat×Int) (fun i w'=>(b=none->i.2.2.1=none)/\BI a K P i.1 i.2.1/\On w' N i.1 i.2.1 i.2.2.1 i.2.2.2 X c/\Aa N.all w w')
  (fun i=>[(0,.pointer (some ⟨N.k,0,none⟩))]) (fun i=>12-an i.1.st 3) (K,P,b,n) ah ⟨id,hI,h,Aa.refl _ _⟩ ⟨rfl,trivial⟩ ?_;clear hI;rintro⟨K1,P1,b1,n1⟩ wr ⟨eQ,I,h1,k1⟩;simp only at eQ I h1 k1 ⊢;obtain⟨kk,W1⟩:=I.w;have aqz:an K1.st 3<=12:=cZ _ _ _;have hcμ:an K.st 3<=an K1.st 3:=ix I.jc;conv=>whnf
 repeat ((first|(refine Ld.of h1.core.c1 ?_)|refine CW.s ?_);conv=>whnf)
 refine Ca.of (eM h1.core.aY) ?_;rintro _ _ ⟨rfl,rfl⟩;by_cases hw:aA K1.st=true
 ·rw[hw];conv=>whnf
  repeat (refine Br.t ?_;conv=>whnf)
  exact⟨rfl,k1,.inl ⟨K1,P1,b1,n1,eQ,h1,14,rfl,I.aaZ hw⟩⟩
 have hw:aA K1.st=false:=by simpa using hw
 rw[hw];conv=>whnf
 repeat (refine Br.f ?_;conv=>whnf)
 refine CW.cut (ι:=KS×CS) (fun i w'=>i.2=P1/\BO a K1 i.1 P1/\On w' N i.1 P1 b1 n1 X c/\Aa N.all w w') (fun i=>[(0,.pointer (some ⟨N.k,0,none⟩))]) ah ?_ ?_
 ·conv=>whnf
  repeat ((refine Ld.of h1.core.c3 ?_);conv=>whnf)
  refine Ca.of (mr h1.core.front 24 W1.fb W1.fi (Nat.le_refl _)) ?_;rintro _ w2 ⟨rfl,q2,k2⟩;have h2:=h1.aj k2;have dJ:=k1.trans (Aa.eA k2);by_cases hr:aJ K1.fo K1.fi 24=true
  ·rw[hr];conv=>whnf
   repeat (refine Br.f ?_;conv=>whnf)
   exact⟨(K1,P1),⟨rfl,BO.same W1 hr,h2,dJ⟩,⟨rfl,trivial⟩⟩
  ·have hr:aJ K1.fo K1.fi 24=false:=by simpa using hr
   rw[hr];conv=>whnf
   repeat (refine Br.t ?_;conv=>whnf)
   refine Ca.of (ld h2 W1.fb) ?_;rintro _ w3 ⟨rfl,h3,k3⟩;have bK:=dJ.trans k3;conv=>whnf
   repeat ((refine Ld.of h3.core.c1 ?_);conv=>whnf)
   refine Ca.of (mn h3.core.aY W1.shut.1.pn) ?_;intro u w4 hu;unfold AB at hu;by_cases htn:takeN (aV K1).st (aV K1).pn=none
   ·rw[htn] at hu;obtain⟨rfl,rfl⟩:=hu;conv=>whnf
    repeat ((first|refine Br.t ?_|refine Ru.n1 ?_|refine CW.s ?_);conv=>whnf)
    exact⟨rfl,bK,.inl ⟨_,P1,b1,n1,eQ,h3,14,rfl,I.none hr htn⟩⟩
   ·obtain⟨d,ky⟩:=Option.ne_none_iff_exists'.1 htn;rw[ky] at hu;obtain⟨rfl,q4,k4⟩:=hu;have h4:=h3.aY k4 q4;conv=>whnf
    repeat ((first|(refine Ld.of h4.core.c3 ?_)|refine Br.f ?_|refine Ru.ai ?_|refine CW.s ?_);conv=>whnf)
    refine Ca.of (pE h4.core.front d 0 (da ky).1 (by omega)) ?_;rintro _ w5 ⟨rfl,q5,k5⟩;have h5:=h4.front k5 q5;conv=>whnf
    exact⟨(_,P1),⟨rfl,BO.taken W1 ky,h5,(bK.trans (Aa.jg (by simp[Cr.own]) k4)).trans (Aa.jg (by simp[Cr.own]) k5)⟩,⟨rfl,trivial⟩⟩
 clear h1 k1;rintro⟨Kf,P2⟩ w2 ⟨rfl,O,h2,k2⟩;simp only at O h2 k2 ⊢;obtain⟨kf,Wf⟩:=O.w;have ma:=O.room;have Fr:=Wf.fresh (Nat.le_refl 24) ma;have hwf:aA Kf.st=false:=by
  unfold aA at hw ⊢;rw[O.c3];exact hw
 have hcf:=O.c3;have abm:=Wf.fb;conv=>whnf
 repeat ((refine Ld.of h2.core.c3 ?_);conv=>whnf)
 refine Ca.of (jW h2.core.front) ?_;rintro _ _ ⟨rfl,rfl⟩;rw[if_pos Fr.fo];conv=>whnf
 repeat ((refine Ld.of h2.core.c3 ?_);conv=>whnf)
 refine Ca.of (ui h2.core.front 24 Wf.fb Wf.fi (Nat.le_refl _) ma) ?_;rintro _ w3 ⟨rfl,q3,k3⟩;have h3:On w3 N (tkK Kf) P2 b1 n1 X c:=h2.front k3 q3;have bK:=k2.trans (Aa.jg (by simp[Cr.own]) k3);by_cases hn:Kf.next<1099511627775
 case neg =>
  conv=>whnf
  repeat ((first|refine Br.f ?_|refine Ru.ai ?_|refine CW.s ?_);conv=>whnf)
  refine Ca.of (qP h3 (by show 1099511627775<=Kf.next;omega)) ?_;rintro _ _ ⟨rfl,rfl⟩;conv=>whnf
  repeat ((first|refine Br.t ?_|refine Ru.n1 ?_|refine CW.s ?_);conv=>whnf)
  exact⟨rfl,bK,.inl ⟨_,P2,b1,n1,eQ,h3,14,rfl,I.out O (by omega)⟩⟩
 conv=>whnf
 repeat ((first|refine Br.f ?_|refine Ru.ai ?_|refine CW.s ?_);conv=>whnf)
 refine Ca.of (sC h3 ⟨by have:=Wf.nx;show 0<=Kf.next;omega,hn⟩) ?_;rintro _ w4 ⟨rfl,h4,k4⟩;have h4:On w4 N (tkK (bS Kf)) P2 b1 n1 X c:=h4;have bT:=bK.trans k4;conv=>whnf
 repeat ((first|refine Br.f ?_|refine Ru.ai ?_|refine CW.s ?_);conv=>whnf)
 refine Ca.of (nc h4 (tkK Kf).next (-1)) ?_;rintro _ w5 ⟨rfl,k5⟩;have h5:=h4.aj k5;conv=>whnf
 refine Ca.of (iE w5 _ (show(iv (bS Kf) Kf.next (-1)).told from jd Wf (by have:=Wf.nx;omega) (-1))) ?_;rintro _ w6 ⟨y,hy,rfl,r6,k6⟩;have h6:=h5.aj k6;have fX:=(bT.trans (Aa.eA k5)).trans (Aa.eA k6);clear k5 k6 h5;conv=>whnf
 repeat ((first|refine Br.f ?_|refine Ru.ai ?_|refine CW.s ?_);conv=>whnf)
 refine Ru.of (ng _ _ _ _) ?_;rw[show Tg.mk ((Kf.fb*8+Kf.fi:Nat):Int) 24 (tkK Kf).next 0 false=dk Kf 24 from rfl];conv=>whnf
 refine Ru.fp ?_;intro x10 w7 hx10 hs7 r10a k7;conv=>whnf
 refine Ru.kQ r10a ?_;intro w8 r10 k8;have q8:Aa [] w6 w8:=k7.then k8 (fun x hx=>.inr (by rw[List.mem_singleton.1 hx,hx10];exact Nat.le_refl _));have h8:=h6.aj q8;have ry8:=r6.ab q8 (by simp);have pK:=fX.trans (Aa.eA q8);have ao6:w.heap.size<=x10:=by
  rw[hx10];exact fX.size
 clear k7 k8 q8 h6 hs7 r10a r6
 have ly8:Ly w8 5 1 (some ⟨y,0,none⟩) 174 174 (fun j=>.int .u8 (aZ (bS Kf) Kf.next j:Nat)):=(Ly.dh ry8 (by omega) (by omega) (by simp[maxLen])).congr (fun j hj=>by
  unfold aZ;rw[nh];rfl)
 conv=>whnf
 refine Ru.fF r10 ?_;conv=>whnf
 refine Ca.of (zn h8 Wf.hb (D:=aZ (bS Kf) Kf.next) (p:=Kf.fb*8+Kf.fi) Fr.lt (fun j=>iX _ j) ly8 (mD (Nat.le_refl 24) Fr ⟨Wf.nx.1,hn⟩) rfl Fr.bl) ?_;rintro _ w9 ⟨k9,hr9⟩;have aqB:=r10.ab k9 (ck x10 ao6);have kk9:=pK.trans k9;rw[show cq (aZ (bS Kf) Kf.next)=aZ (bS Kf) Kf.next from gI _] at hr9;rcases hr9 with⟨K9,P9,b9,n9,hb9,h9,g1,⟨rfl,rfl,g2⟩|⟨rfl,rfl,g2,g3,-⟩⟩|⟨hb9,Q,n9,h9,rfl,g1,g2⟩
 ·conv=>whnf
  repeat ((first|refine Br.t ?_|refine Ru.au ?_|refine CW.s ?_);conv=>whnf)
  refine Ru.fF aqB ?_;conv=>whnf
  refine Ca.of (sD h9 Wf.fh.mw (t:=dk Kf 24) (o:=24) (p:=Kf.fb*8+Kf.fi) (by omega) Fr.lt rfl rfl) ?_;rintro _ yy ⟨rfl,wZ,yK⟩;conv=>whnf
  have aqC:On yy N (cy Kf 24) P9 b9 n9 X c:=wZ;exact⟨rfl,kk9.trans yK,.inl ⟨_,P9,b9,n9,fun x=>hb9 (eQ x),aqC,0,rfl,I.uX O hw hn g1 g2⟩⟩
 ·have W9:=Wf.cB (Nat.le_refl 24) ma hn g1 g2;have hmf:P2.may Kf.fb:=by
   have:=Fr.fi;rw[show(Kf.fb*8+Kf.fi)/8=Kf.fb by omega] at g3;exact g3
  conv=>whnf
  repeat ((first|refine Br.f ?_|refine Ru.e1 ?_|refine CW.s ?_);conv=>whnf)
  refine Ca.of (aW 8 8 (by decide) w9) ?_;rintro _ _ ⟨rfl,rfl⟩;conv=>whnf
  repeat ((first|(refine Ld.of h9.core.c2 ?_)|refine Br.f ?_|refine CW.s ?_);conv=>whnf)
  refine Ca.of (fc h9.core.map (fun o ho=>Wf.lt ho)) ?_;rintro _ yy ⟨g,rfl,rg,hg,yK⟩;have wZ:=h9.aj yK;have qG:=kk9.trans (Aa.eA yK);have cg:yy.cell? ⟨g,0+Kf.fb,none⟩=some (.int .i64 (lv Kf.at_ Kf.fb:Nat)):=by
   rw[Nat.zero_add];exact rg.cell Kf.fb abm
  by_cases hl:lv Kf.at_ Kf.fb=0
  ·conv=>whnf
   repeat ((first|(refine Ix.of Kf.fb (by omega) (by omega) ?_)|(refine Ld.at (by omega) cg ?_)|(refine Br.bF (decide_eq_false (by omega)) ?_)|(refine Ld.of wZ.core.c3 ?_));conv=>whnf)
   refine Ca.of (wU wZ.core.front) ?_;rintro _ zy ⟨rfl,q11,lD⟩;have sA:=wZ.front lD q11;conv=>whnf
   repeat ((refine Ld.of sA.core.c1 ?_);conv=>whnf)
   refine Ca.of (eK sA.core.aY Kf.fb 3 abm (by omega)) ?_;rintro _ w12 ⟨⟨e12,rfl⟩,q12,vG⟩;have pC:=sA.aY vG q12;obtain⟨I2,c2⟩:=I.again O hn g1 g2 hmf hl;have lT:an (aG Kf.st Kf.fb 3) 3<=12:=cZ _ _ _;conv=>whnf
   exact⟨(_,P9,b9,n9),⟨fun x=>hb9 (eQ x),I2,pC,(qG.trans (Aa.jg (by simp[Cr.own]) lD)).trans (Aa.jg (by simp[Cr.own]) vG)⟩,⟨rfl,trivial⟩,by simp only;omega⟩
  ·conv=>whnf
   repeat ((first|(refine Ix.of Kf.fb (by omega) (by omega) ?_)|(refine Ld.at (by omega) cg ?_)|(refine Br.is (decide_eq_true (by omega)) ?_));conv=>whnf)
   refine Ca.of (hV (12-an Kf.st 3) (by omega) yy N _ X c P9 b9 n9 Kf.fb true false wZ ⟨kf,W9⟩ abm (.inr ⟨Fr.fo,rfl⟩) (Nat.le_refl _)) ?_;rintro _ zy ⟨lD,⟨DJ,DK,b11,n11,ano,sA,e11,rfl,hVe⟩|⟨ano,Q,n11,sA,rfl,nF⟩⟩
   ·conv=>whnf
    exact⟨rfl,qG.trans lD,.inl ⟨DJ,DK,b11,n11,fun x=>ano (hb9 (eQ x)),sA,e11,rfl,I.vac O g1.may hmf hVe⟩⟩
   ·conv=>whnf
    exact⟨rfl,qG.trans lD,.inr ⟨fun x=>ano (hb9 (eQ x)),Q,n11,sA,rfl,nF⟩⟩
 ·conv=>whnf
  repeat ((first|refine Br.f ?_|refine Ru.e1 ?_|refine CW.s ?_);conv=>whnf)
  refine Ca.of (aW 7 8 (by decide) w9) ?_;rintro _ _ ⟨rfl,rfl⟩;conv=>whnf
  repeat (refine Br.t ?_;conv=>whnf)
  exact⟨rfl,kk9,.inr ⟨fun x=>hb9 (eQ x),Q,n9,h9,rfl,Wf.aee (Nat.le_refl 24) ma hn g1 g2⟩⟩
theorem ak9(a:Nat->Nat->Nat)(μ:Nat):Co a μ/\CM a μ:=by
 induction μ using Nat.strongRecOn with
 | _ μ ih =>
  have hv:Co a μ:=aiX (fun x hx=>(ih x hx).2);refine⟨hv,aiY (fun x hx=>?_)⟩;by_cases e:x=μ
  ·rw[e];exact hv
  ·exact(ih x (by omega)).1
section
variable{w w':World}{N:Cr}{K:KS}{X:Option Addr}{c:Nat}{P:CS}{b:Option Nat}{n:Int}{a:Nat->Nat->Nat}{k:Cp}
theorem zo(h:On w N K P b n X c)(W:Wi a k K P){v:Nat}(hv:v<12)(rU:K.st v=2\/K.fo=true/\K.fb=v)(f r:Bool) :
  Spec Tryz.prog 102 #[.pointer (some ⟨N.k,0,none⟩),.int .i64 v,.bool f,.bool r] w fun u w'=>Fin N X c b w w' (fun K' P'=>∃e,u=ak e/\AW a v f r K P K' P' e) (fun Q=>u=ak 7/\Tw Q 1099511627775 a) :=
 (ak9 a _).1 w N K X c P b n v f r h ⟨k,W⟩ hv rU (Nat.le_refl _)
end
structure AI(K:KS)(P:CS):Prop where
 ni:∀b,b<12->K.st b=1->K.fo=true/\K.fb=b
 bd:an K.st 3<=2
 free:1+2*(2-an K.st 3)<=an K.st 0
 x:∃x,(∀B,B<12->P.may B->B=x)/\(x<12->P.may x->K.st x=3\/an K.st 3<=1)
theorem Rm.to0{β:Int}{K:KS}{P:CS}(h:Rm β K P):AI K P:=⟨h.ni,h.bd,h.free,h.x⟩
theorem AI.to{K:KS}{P:CS}(h:AI K P)(hn:K.next+20<=1099511627775):Rm K.next K P:=⟨h.ni,h.bd,h.free,h.x,by omega,hn⟩
theorem AI.same{K K':KS}{P P':CS}(h:AI K P)(e1:K'.st=K.st)(e2:K'.fo=K.fo)(e3:K'.fb=K.fb)(hm:∀B,P'.may B->P.may B):AI K' P':=by
 obtain⟨x,x1,x2⟩:=h.x;exact⟨by rw[e1,e2,e3];exact h.ni,by rw[e1];exact h.bd,by rw[e1];exact h.free,⟨x,fun B hB hb=>x1 B hB (hm B hb),fun hx hb=>by rw[e1];exact x2 hx (hm x hb)⟩⟩
theorem AI.shut{K K0:KS}{P:CS}(h:AI K P)(S:BY K K0):AI K0 P/\∀b,b<12->K0.st b≠1:=by
 obtain⟨c0,c3⟩:=fD S.st;have no:∀b,b<12->K0.st b≠1:=fun b hb e=>by
  rcases S.st b with x|x
  ·obtain⟨y1,y2⟩:=h.ni b hb (by omega);have:=S.front y1;rw[y2] at this;omega
  ·omega
 obtain⟨x,x1,x2⟩:=h.x;refine⟨⟨fun b hb e=>absurd e (no b hb),by rw[c3];exact h.bd,by rw[c3,c0];exact h.free,⟨x,x1,fun hx hm=>?_⟩⟩,no⟩;rw[c3];rcases x2 hx hm with y|y
 ·rcases S.st x with z|z
  ·exact .inl (by rw[z];exact y)
  ·omega
 ·exact .inr y
theorem u2{st:Nat->Nat}:∀ {n:Nat},(∀b,b<n->st b<=3/\st b≠1)->cN st 0 n+cN st 2 n+cN st 3 n=n
 |0,_=>rfl
 | n+1,h=>by
  have ih:=u2 (st:=st) (n:=n) (fun b hb=>h b (by omega));have:=h n (by omega);unfold cN;by_cases h0:st n=0
  ·simp only[h0];simp;omega
  ·by_cases h2:st n=2
   ·simp only[h2];simp;omega
   ·have h3:st n=3:=by omega
    simp only[h3];simp;omega
theorem abn{a:Nat->Nat->Nat}{k:Cp}{K:KS}{P:CS}(h:Wi a k K P)(R:AI K P)(no:∀b,b<12->K.st b≠1)(hs:fP K.st=false):∃v:Nat,pI K=v/\v<12/\K.st v=2/\(cc K.ow v).length<=4:=by
 have uO:=R.bd;have lU:=R.free;have hb:an K.st 0<=1+2*(2-an K.st 3):=by
  unfold fP kT aA at hs;have:=of_decide_eq_false hs;rw[if_neg (by simp;omega)] at this;omega
 have cu:an K.st 0+an K.st 2+an K.st 3=12:=u2 (fun b hb=>⟨h.st b hb,no b hb⟩);have h7:7<=an K.st 2:=by omega
 have aku:=acL K.at_ 25;obtain⟨b0,jK,wP⟩:∃b0,b0<12/\K.st b0=2/\lv K.at_ b0<=3:=Classical.byContradiction fun lV=>by
  have:=zc (st:=K.st) (f:=lv K.at_) (s:=2) (x:=4) (n:=12) (fun b hb e=>Classical.byContradiction fun hx=>lV ⟨b,hb,e,by omega⟩);have aku:ja (lv K.at_) 12<=25:=aku;have:an K.st 2*4<=ja (lv K.at_) 12:=this;omega
 obtain⟨m1,m2⟩:=lj (s:=fun j=>(K.st j:Nat)) (l:=fun j=>(lv K.at_ j:Nat)) (n:=12);obtain⟨p1,p2⟩:=m1 b0 jK (by have:=wP.1;omega);have av:=(m9 (fun j=>(K.st j:Nat)) (fun j=>(lv K.at_ j:Nat)) 12).2;have m2:=m2 p1;have hbe:pI K=bs (fun j=>(K.st j:Nat)) (fun j=>(lv K.at_ j:Nat)) 12:=rfl;generalize bs (fun j=>((K.st j:Nat):Int)) (fun j=>((lv K.at_ j:Nat):Int)) 12=z at *;refine⟨z.toNat,by rw[hbe];omega,by omega,by omega,?_⟩;have:=adY h.fh (b:=z.toNat) (by omega);have:=wP.2;omega
structure Dq(a:Nat->Nat->Nat)(of:Nat)(K:KS)(P:CS)(K':KS)(P':CS)(e:Int):Prop where
 er:e=0\/e=14
 w:∃k,Wi a k K' P'
 jc:∀u,u<12->K.st u=3->K'.st u=3
 may:∀B,P'.may B->P.may B
 nx:K'.next-3*(an K'.st 3:Nat)<=K.next-3*(an K.st 3:Nat)
 le:K.next<=K'.next
 qu:K'.qu=K.qu
 cur:K'.cur=K.cur
 tg:Ax K K'
 nw:e=0->aA K'.st=false
 room:e=0->aJ K'.fo K'.fi of=true
 rm:AI K P->K.next+60<=1099511627775->e=0/\AI K' P'
structure OI(a:Nat->Nat->Nat)(of i:Nat)(K:KS)(P:CS)(K':KS)(P':CS):Prop where
 w:∃k,Wi a k K' P'
 jc:∀u,u<12->K.st u=3->K'.st u=3
 may:∀B,P'.may B->P.may B
 nx:K'.next-3*(an K'.st 3:Nat)<=K.next-3*(an K.st 3:Nat)
 le:K.next<=K'.next
 qu:K'.qu=K.qu
 cur:K'.cur=K.cur
 tg:Ax K K'
 nw:aA K'.st=false
 rm:AI K P->K.next+60<=1099511627775->AI K' P'/\(i=0\/i=1/\aJ K'.fo K'.fi of=true)
section
variable{a:Nat->Nat->Nat}{of i:Nat}{K K1 K':KS}{P P1 P':CS}{e:Int}
theorem OI.out(I:OI a of i K P K1 P1)(h:∃k,Wi a k K' P1)(e:∃st pn fo fb fi,K'={ K1 with st:=st,pn:=pn,fo:=fo,fb:=fb,fi:=fi })(h3:∀u,u<12->K1.st u=3->K'.st u=3)(lV:AI K1 P1->(i=0\/i=1/\aJ K1.fo K1.fi of=true)->False):Dq a of K P K' P1 14:=by
 have hc:an K1.st 3<=an K'.st 3:=ix h3;obtain⟨_,_,_,_,_,ee⟩:=e;have e1:K'.next=K1.next/\K'.qu=K1.qu/\K'.cur=K1.cur:=by rw[ee];exact⟨rfl,rfl,rfl⟩
 refine⟨.inr rfl,h,fun u hu h=>h3 u hu (I.jc u hu h),I.may,?_,?_,e1.2.1.trans I.qu,e1.2.2.trans I.cur,I.tg.trans (.same (by rw[ee]) (by rw[ee])),fun x=>(by cases x),fun x=>(by cases x),fun R hn=>?_⟩
 ·have:=I.nx;rw[e1.1];omega
 ·rw[e1.1];exact I.le
 ·obtain⟨R1,hi⟩:=I.rm R hn;exact(lV R1 hi).elim
theorem OI.shut(I:OI a of i K P K1 P1)(hr:aJ K1.fo K1.fi of=false)(S:BY K1 (aV K1))(hRm:AI K P)(hn:K.next+60<=1099511627775):AI (aV K1) P1/\(∀b,b<12->(aV K1).st b≠1)/\i=0:=by
 obtain⟨R1,hi⟩:=I.rm hRm hn;obtain⟨R2,no⟩:=R1.shut S;refine⟨R2,no,?_⟩;rcases hi with x|⟨_,x⟩
 ·exact x
 ·rw[hr] at x;cases x
end
section
variable{w w':World}{N:Cr}{K:KS}{X:Option Addr}{c:Nat}{P:CS}{b:Option Nat}{n:Int}{a:Nat->Nat->Nat}{k:Cp}
theorem aiZ(h:On w N K P b n X c)(W:Wi a k K P)(hw:aA K.st=false){of:Nat}(ho:of<=24) :
  Spec Tryz.prog 106 #[.pointer (some ⟨N.k,0,none⟩),.int .i64 of] w fun u w'=>Fin N X c b w w' (fun K' P'=>∃e,u=ak e/\Dq a of K P K' P' e) (fun Q=>u=ak 7/\Tw Q 1099511627775 a):=by
 refine spec_of_wpE (T:=tt) ah func106 rfl (by decide +kernel) ntmps106 (by simp) ?_;conv=>whnf
 repeat (refine CW.s ?_;conv=>whnf)
 refine CW.loop (ι:=Nat×KS×CS×Option Nat×Int) (fun i w'=>i.1<=48/\(b=none->i.2.2.2.1=none)/\OI a of i.1 K P i.2.1 i.2.2.1/\On w' N i.2.1 i.2.2.1 i.2.2.2.1 i.2.2.2.2 X c/\Aa N.all w w')
  (fun i=>[(0,.pointer (some ⟨N.k,0,none⟩)),(1,.int .i64 of),(10,.int .i64 i.1)]) (fun i=>48-i.1) (0,K,P,b,n) ah ⟨by simp,id,⟨⟨k,W⟩,fun _ _ x=>x,fun _ x=>x,Int.le_refl _,Int.le_refl _,rfl,rfl,Ax.refl K,hw,fun R _=>⟨R,.inl rfl⟩⟩,h,Aa.refl _ _⟩ ⟨rfl,rfl,rfl,trivial⟩ ?_;rintro⟨i,K1,P1,b1,n1⟩ wr ⟨hi,eQ,I,h1,kk⟩;simp only at hi eQ I h1 kk ⊢;obtain⟨k1,W1⟩:=I.w;by_cases av:i<48
 ·conv=>whnf
  repeat ((first|(refine Ld.of h1.core.c3 ?_)|refine Br.y ?_|refine CW.s ?_);conv=>whnf)
  refine Ca.of (mr h1.core.front of W1.fb W1.fi ho) ?_;rintro _ w2 ⟨rfl,r2,k2⟩;have h2:=h1.aj k2;have dJ:=kk.trans (Aa.eA k2);by_cases hr:aJ K1.fo K1.fi of=true
  ·rw[hr];conv=>whnf
   repeat (refine Br.t ?_;conv=>whnf)
   exact⟨rfl,dJ,.inl ⟨K1,P1,b1,n1,eQ,h2,0,rfl,⟨.inl rfl,I.w,I.jc,I.may,I.nx,I.le,I.qu,I.cur,I.tg,fun _=>I.nw,fun _=>hr,fun R hn=>⟨rfl,(I.rm R hn).1⟩⟩⟩⟩
  have hr:aJ K1.fo K1.fi of=false:=by simpa using hr
  obtain⟨Ws,S⟩:=W1.shut;obtain⟨s0,s3⟩:=fD S.st;have uW:∀u,u<12->K1.st u=3->(aV K1).st u=3:=fun u _ e=>by
   rcases S.st u with x|x
   ·rw[x];exact e
   ·omega
  have mO:(aV K1).next=K1.next/\(aV K1).qu=K1.qu/\(aV K1).cur=K1.cur/\(aV K1).at_=K1.at_:=by
   obtain⟨st,fo,fb,fi,e⟩:=S.eq;rw[e];exact⟨rfl,rfl,rfl,rfl⟩
  have stg:Ax K1 (aV K1):=by
   obtain⟨st,fo,fb,fi,e⟩:=S.eq;exact .same (by rw[e]) (by rw[e])
  rw[hr];conv=>whnf
  repeat (refine Br.f ?_;conv=>whnf)
  refine Ca.of (ld h2 W1.fb) ?_;rintro _ w3 ⟨rfl,h3,k3⟩;have bK:=dJ.trans k3;conv=>whnf
  repeat ((first|(refine Ld.of h3.core.c1 ?_)|refine CW.s ?_);conv=>whnf)
  refine Ca.of (tZ h3.core.aY) ?_;rintro _ _ ⟨rfl,rfl⟩;by_cases hs:fP (aV K1).st=true
  ·rw[hs];conv=>whnf
   repeat ((first|(refine Ld.of h3.core.c1 ?_)|refine Br.t ?_);conv=>whnf)
   refine Ca.of (mn h3.core.aY Ws.pn) ?_;intro u w4 hu;unfold AB at hu;have hbc:kT (aV K1).st<an (aV K1).st 0:=by
    unfold fP at hs;exact of_decide_eq_true hs
   obtain⟨d,ky,hd,vf⟩:=iZ (st:=(aV K1).st) Ws.pn (by omega);rw[ky] at hu;obtain⟨rfl,r4,k4⟩:=hu;have h4:=h3.aY k4 r4;conv=>whnf
   repeat ((first|(refine Ld.of h4.core.c3 ?_)|refine Br.f ?_|refine Ru.ai ?_|refine CW.s ?_);conv=>whnf)
   refine Ca.of (pE h4.core.front d 0 hd (by omega)) ?_;rintro _ w5 ⟨rfl,r5,k5⟩;have h5:On w5 N (opK K1 d) P1 b1 n1 X c:=h4.front k5 r5;have Wo:Wi a k1 (opK K1 d) P1:=Ws.ni S.fo ky;have hc3:an (af (aV K1).st d 1) 3=an (aV K1).st 3:=by
    have:=bV (aV K1).st 1 3 hd;rw[if_neg (by omega),if_neg (by omega)] at this;exact this
   have xQ:an (af (aV K1).st d 1) 0+1=an (aV K1).st 0:=by
    have:=bV (aV K1).st 1 0 hd;rw[if_pos vf,if_neg (by omega)] at this;exact this
   conv=>whnf
   repeat (refine Ar.la ?_;conv=>whnf)
   refine⟨(i+1,opK K1 d,P1,b1,n1),⟨av,eQ,⟨⟨k1,Wo⟩,fun u hu e=>?_,I.may,?_,?_,mO.2.1.trans I.qu,mO.2.2.1.trans I.cur,I.tg.trans stg,(by have:=I.nw;unfold aA at this ⊢;show decide (2<an (af (aV K1).st d 1) 3)=false;rw[hc3,s3];exact this),fun R hn=>?_⟩,h5,(bK.trans (Aa.jg (by simp[Cr.own]) k4)).trans (Aa.jg (by simp[Cr.own]) k5)⟩,⟨rfl,rfl,vi (by simp only;omega),trivial⟩,by simp only;omega⟩
   ·have:=uW u hu (I.jc u hu e);show af (aV K1).st d 1 u=3;unfold af;rw[if_neg (fun x=>by rw[x] at this;omega)];exact this
   ·have:=I.nx;show(aV K1).next-3*(an (af (aV K1).st d 1) 3:Nat)<=_;rw[hc3,s3,mO.1];exact this
   ·show K.next<=(aV K1).next;rw[mO.1];exact I.le
   ·obtain⟨R2,no,hi0⟩:=I.shut hr S R hn;have qk:=R2.bd;obtain⟨x,x1,x2⟩:=R2.x;have hbound:kT (aV K1).st=1+2*(2-an (aV K1).st 3):=by
     unfold kT aA;rw[if_neg (by simp;omega)]
    refine⟨⟨fun b hb e=>?_,?_,?_,x,x1,fun hx hm=>?_⟩,.inr ⟨by omega,?_⟩⟩
    ·have e:af (aV K1).st d 1 b=1:=e;refine⟨rfl,?_⟩;show d=b;by_cases uO:b=d
     ·exact uO.symm
     ·unfold af at e;rw[if_neg uO] at e;exact absurd e (no b hb)
    ·show an (af (aV K1).st d 1) 3<=2;omega
    ·show 1+2*(2-an (af (aV K1).st d 1) 3)<=an (af (aV K1).st d 1) 0;omega
    ·show af (aV K1).st d 1 x=3\/an (af (aV K1).st d 1) 3<=1;rcases x2 hx hm with y|y
     ·left;unfold af;rw[if_neg (fun z=>by rw[z] at y;omega)];exact y
     ·right;omega
    ·show aJ true 0 of=true;unfold aJ bp;simp
  ·have hs:fP (aV K1).st=false:=by simpa using hs
   rw[hs];conv=>whnf
   repeat (refine Br.f ?_;conv=>whnf)
   refine CW.held (fun w'=>Ae w' N (aV K1) X c) [] (.take 0 (.take 1 (.take 2 (.take 3 (.take 5 (.take 6 (.take 7 (.take 8 (.one 4 (.one 9 (.one 10 (.take 11 (.take 12 (.take 13 (.take 14 (.take 15 (.done))))))))))))))))) ah (by kernel_rfl) (by kernel_rfl) (by kernel_rfl) ?_ ?_
   ·exact h3.core.aj ((Aa.refl _ _).drewN 1)
   have q3:=(Aa.refl [] w3).drewN 1;have h4:=h3.aj q3;have bT:=bK.trans (Aa.eA q3);generalize w3.drewN 1=w4 at *;conv=>whnf
   repeat ((first|(refine Ah.of (fun _ h=>h.c1) ?_)|(refine Ah.of (fun _ h=>h.c2) ?_));conv=>whnf)
   refine Ca.of (iW h4) ?_;rintro _ w5 ⟨Y,e,rfl,O⟩;have h5:=h4.aj O.ab;refine⟨h5.core,?_⟩;conv=>whnf
   refine Ca.of (fc h5.core.map (fun o ho=>Ws.lt ho)) ?_;rintro _ w6 ⟨g,rfl,rg,hg,k6⟩;have h6:=h5.aj k6;refine⟨h6.core,?_⟩;conv=>whnf
   refine Ca.of (wW w6 Y (some ⟨g,0,none⟩) e 12 (fun j=>((aV K1).st j:Nat)) (fun j=>(lv (aV K1).at_ j:Nat)) ((O.ly.aj k6).u9) (fun _=>⟨g,0,rfl,fun j hj=>by rw[Nat.zero_add];exact rg.cell j hj⟩)) ?_;rintro _ w7 ⟨rfl,k7⟩;have h7:=h6.aj k7;refine⟨h7.core,?_⟩;have nz:=((bT.trans (Aa.eA O.ab)).trans (Aa.eA k6)).trans (Aa.eA k7);have aqD:=m9 (fun j=>((aV K1).st j:Nat)) (fun j=>(lv (aV K1).at_ j:Nat)) 12;by_cases hv0:bs (fun j=>((aV K1).st j:Nat)) (fun j=>(lv (aV K1).at_ j:Nat)) 12 = -1
   ·rw[hv0,if_pos (by omega),if_pos (by omega)];conv=>whnf
    repeat ((first|refine Br.t ?_|refine Ru.n1 ?_|refine CW.s ?_);conv=>whnf)
    refine⟨rfl,nz,.inl ⟨_,P1,b1,n1,eQ,h7,14,rfl,I.out ⟨k1,Ws⟩ ?_ uW (fun R1 hi=>?_)⟩⟩
    ·obtain⟨st,fo,fb,fi,e⟩:=S.eq;exact⟨st,K1.pn,fo,fb,fi,by rw[e]⟩
    ·obtain⟨R2,no⟩:=R1.shut S;obtain⟨v,l8,_⟩:=abn Ws R2 no hs;unfold pI at l8;omega
   ·obtain⟨v,l8⟩:∃v:Nat,bs (fun j=>((aV K1).st j:Nat)) (fun j=>(lv (aV K1).at_ j:Nat)) 12=v:=⟨(bs (fun j=>((aV K1).st j:Nat)) (fun j=>(lv (aV K1).at_ j:Nat)) 12).toNat,by omega⟩;have rU:=(lj (s:=fun j=>((aV K1).st j:Nat)) (l:=fun j=>(lv (aV K1).at_ j:Nat)) (n:=12)).2 (by omega);rw[l8] at rU aqD;have rU:(aV K1).st v=2:=by
     have:((v:Nat):Int).toNat=v:=by omega
     rw[this] at rU;omega
    rw[l8,if_neg (by omega),if_neg (by omega)];conv=>whnf
    repeat ((first|refine Br.f ?_|refine Ru.ai ?_|refine CW.s ?_);conv=>whnf)
    refine Ca.of (zo h7 Ws (v:=v) (by omega) (.inl rU) false false) ?_;rintro _ w8 ⟨k8,⟨K8,P8,b8,n8,ya,h8,e8,rfl,V⟩|⟨ya,Q,n8,h8,rfl,nF⟩⟩
    case inr =>
     conv=>whnf
     repeat ((first|refine Br.t ?_|refine Ru.n1 ?_);conv=>whnf)
     exact⟨rfl,nz.trans k8,.inr ⟨fun x=>ya (eQ x),Q,n8,h8,rfl,nF⟩⟩
    have ao7:∀u,u<12->K.st u=3->K8.st u=3:=fun u hu e=>V.jc u hu (uW u hu (I.jc u hu e));have vnx:K8.next-3*(an K8.st 3:Nat)<=K.next-3*(an K.st 3:Nat):=by
     have h1:=V.nx;have h2:=I.nx;rw[s3,mO.1] at h1;omega
    have vle:K.next<=K8.next:=by
     have h1:=V.le;have h2:=I.le;rw[mO.1] at h1;omega
    have vrm:AI K P->K.next+60<=1099511627775->e8=0/\AI K8 P8/\i=0/\aJ K8.fo K8.fi of=true:=fun R hn=>by
     obtain⟨R2,no,hi0⟩:=I.shut hr S R hn;obtain⟨v',aqE,_,_,h4⟩:=abn Ws R2 no hs;unfold pI at aqE;have:v'=v:=by omega
     subst this;have aqF:(aV K1).next+20<=1099511627775:=by
      have h1:=I.nx;have h2:an K1.st 3<=12:=cZ _ _ _;rw[mO.1];omega
     obtain⟨g1,g2,g3⟩:=V.room _ (R2.to aqF) (fun x=>by cases x) (fun x=>by cases x);obtain⟨g4,g5⟩:=g3 S.fo h4;refine⟨g1,g2.to0,hi0,?_⟩;rw[g4];unfold aJ bp;simp;omega
    rcases V.er with rfl|rfl
    ·conv=>whnf
     repeat ((first|refine Br.f ?_|refine Ar.la ?_|refine Ru.ai ?_);conv=>whnf)
     exact⟨(i+1,K8,P8,b8,n8),⟨av,fun x=>ya (eQ x),⟨V.w,ao7,fun B hB=>I.may B (V.may B hB),vnx,vle,V.qu.trans (mO.2.1.trans I.qu),V.cur.trans (mO.2.2.1.trans I.cur),I.tg.trans (stg.trans V.tg),V.nw rfl,fun R hn=>⟨(vrm R hn).2.1,.inr ⟨by have:=(vrm R hn).2.2.1;omega,(vrm R hn).2.2.2⟩⟩⟩,h8,nz.trans k8⟩,⟨rfl,rfl,vi (by simp only;omega),trivial⟩,by simp only;omega⟩
    ·conv=>whnf
     repeat ((first|refine Br.t ?_|refine Ru.n1 ?_);conv=>whnf)
     exact⟨rfl,nz.trans k8,.inl ⟨K8,P8,b8,n8,fun x=>ya (eQ x),h8,14,rfl,⟨.inr rfl,V.w,ao7,fun B hB=>I.may B (V.may B hB),vnx,vle,V.qu.trans (mO.2.1.trans I.qu),V.cur.trans (mO.2.2.1.trans I.cur),I.tg.trans (stg.trans V.tg),fun x=>(by cases x),fun x=>(by cases x),fun R hn=>⟨(vrm R hn).1,(vrm R hn).2.1⟩⟩⟩⟩
 ·obtain rfl:i=48:=by omega
  conv=>whnf
  repeat ((first|refine Br.f ?_|refine CW.s ?_);conv=>whnf)
  exact⟨rfl,kk,.inl ⟨K1,P1,b1,n1,eQ,h1,14,rfl,I.out ⟨k1,W1⟩ ⟨_,_,_,_,_,rfl⟩ (fun _ _ x=>x) (fun _ hi=>by omega)⟩⟩
end
structure Bo(a:Nat->Nat->Nat)(K:KS)(P:CS)(K':KS)(P':CS):Prop where
 w:∃k,Wi a k K' P'
 may:∀B,P'.may B->P.may B
 c3:an K.st 3<=an K'.st 3
 nx:K'.next-4*(an K'.st 3:Nat)<=K.next-4*(an K.st 3:Nat)
 le:K.next<=K'.next
 qu:K'.qu=K.qu
 cur:K'.cur=K.cur
 tg:Ax K K'
 rm:AI K P->K.next+120<=1099511627775->AI K' P'
structure Cz(a:Nat->Nat->Nat)(K:KS)(P:CS)(K':KS)(P':CS):Prop where
 w:∃k,Wi a k K' P'
 may:∀B,P'.may B->P.may B
 c3:an K.st 3<=an K'.st 3
 nx:K'.next-4*(an K'.st 3:Nat)<=K.next-4*(an K.st 3:Nat)+1
 le:K.next<=K'.next
 qu:K'.qu=K.qu
 cur:K'.cur=K.cur
 rm:AI K P->K.next+120<=1099511627775->False
structure B7(a:Nat->Nat->Nat)(of:Nat)(D:KS->Int->Nat->Nat)(K:KS)(P:CS)(K1:KS)(P1:CS)(K':KS)(P':CS):Prop where
 i:Bo a K P K1 P1
 aaZ:aA K1.st=false
 room:aJ K1.fo K1.fi of=true
 next:K1.next<1099511627775
 eq:K'=cy K1 of
 lk:Lk P1 P' (K1.fb*8+K1.fi)
 pg:P'.pg (K1.fb*8+K1.fi)=.full (dk K1 of) (cq (D (bS K1) K1.next))
section
variable{a:Nat->Nat->Nat}{of:Nat}{K K1 K2 K':KS}{P P1 P2 P':CS}{e:Int}
theorem Bo.start{k:Cp}(h:Wi a k K P):Bo a K P K P:=⟨⟨k,h⟩,fun _ x=>x,Nat.le_refl _,Int.le_refl _,Int.le_refl _,rfl,rfl,Ax.refl K,fun R _=>R⟩
theorem Bo.lim(I:Bo a K P K1 P1)(h:K.next+120<=1099511627775):K1.next+72<=1099511627775:=by
 have:=I.nx;have:an K1.st 3<=12:=cZ _ _ _;omega
theorem Bo.ni(I:Bo a K P K1 P1)(O:Dq a of K1 P1 K2 P2 e):Bo a K P K2 P2:=by
 have hc:an K1.st 3<=an K2.st 3:=ix O.jc;refine⟨O.w,fun B h=>I.may B (O.may B h),Nat.le_trans I.c3 hc,?_,Int.le_trans I.le O.le,O.qu.trans I.qu,O.cur.trans I.cur,I.tg.trans O.tg,fun R hn=>?_⟩
 ·have h1:=I.nx;have h2:=O.nx;omega
 ·exact(O.rm (I.rm R hn) (by have:=I.lim hn;omega)).2
theorem Bo.no(I:Bo a K P K1 P1)(lV:AI K1 P1->K1.next+72<=1099511627775->False):Cz a K P K1 P1 :=
 ⟨I.w,I.may,I.c3,by have:=I.nx;omega,I.le,I.qu,I.cur,fun R hn=>lV (I.rm R hn) (I.lim hn)⟩
theorem Bo.fail(I:Bo a K P K1 P1){k1:Cp}(W1:Wi a k1 K1 P1)(ho:of<=24)(hr:aJ K1.fo K1.fi of=true)(hn:K1.next<1099511627775)(hL:Lk P1 P2 (K1.fb*8+K1.fi))(zm:nf (P2.pg (K1.fb*8+K1.fi)))(hm:P2.may ((K1.fb*8+K1.fi)/8)){P':CS}(V:AW a K1.fb true false (tkK (bS K1)) P2 K' P' e) :
  (e=0->Bo a K P K' P'/\an K1.st 3<an K'.st 3)/\(e=14->Cz a K P K' P'):=by
 have Fr:=W1.fresh ho hr;have h8:=Fr.fi;rw[show(K1.fb*8+K1.fi)/8=K1.fb by omega] at hm;have pZ:=W1.fb;have hc:an K1.st 3<=an K'.st 3:=ix V.jc;have vnx:K'.next-3*(an K'.st 3:Nat)<=K1.next+1-3*(an K1.st 3:Nat):=V.nx;have vle:K1.next+1<=K'.next:=V.le;have ft:=I.nx;have vrm:AI K1 P1->K1.next+72<=1099511627775->e=0/\AI K' P':=fun R hn=>by
  have R2:AI (tkK (bS K1)) P2:=R.same rfl rfl rfl hL.may;obtain⟨g1,g2,_⟩:=V.room _ (R2.to (by show K1.next+1+20<=_;omega)) (fun _=>hm) (fun x=>by cases x);exact⟨g1,g2.to0⟩
 refine⟨fun he=>?_,fun he=>?_⟩
 ·have hvb:=V.vb he rfl;have av:an K1.st 3<an K'.st 3:=by
   have h1:=qI K1.st K1.fb 3 3 12;have h2:=gV (st:=K1.st) pZ hvb.2;have h3:an (af K1.st K1.fb 3) 3<=an K'.st 3:=ix (fun u hu e=>by
    by_cases hx:u=K1.fb
    ·rw[hx];exact hvb.1
    ·unfold af at e;rw[if_neg hx] at e;exact V.jc u hu e)
   omega
  exact⟨⟨V.w,fun B h=>I.may B (hL.may B (V.may B h)),Nat.le_trans I.c3 hc,by omega,by have:=I.le;omega,V.qu.trans I.qu,V.cur.trans I.cur,I.tg.trans V.tg,fun R hn=>(vrm (I.rm R hn) (I.lim hn)).2⟩,av⟩
 ·exact⟨V.w,fun B h=>I.may B (hL.may B (V.may B h)),Nat.le_trans I.c3 hc,by omega,by have:=I.le;omega,V.qu.trans I.qu,V.cur.trans I.cur,fun R hn=>by
   have:=(vrm (I.rm R hn) (I.lim hn)).1;omega⟩
end
section
variable{w w':World}{N:Cr}{K:KS}{X:Option Addr}{c:Nat}{P:CS}{b:Option Nat}{n:Int}{a:Nat->Nat->Nat}{k:Cp}
theorem zp(h:On w N K P b n X c)(W:Wi a k K P){of:Nat}(ho:of<=24){D:KS->Int->Nat->Nat}(g:FuncId)(cap:Array Value)
  (hg:∀K1 P1 k1,Wi a k1 K1 P1->K1.next<1099511627775->Bo a K P K1 P1->Cv N X c w g cap D K1 P1/\∀j,D (bS K1) K1.next j<256) :
  Spec Tryz.prog 63 #[.pointer (some ⟨N.k,0,none⟩),.int .i64 of,.func (.func g) #[] cap] w fun u w' =>
   Fin N X c b w w' (fun K' P'=>(u=ak 0/\∃K1 P1,B7 a of D K P K1 P1 K' P')\/(u=ak 14/\Cz a K P K' P')) (fun Q=>u=ak 7/\Tw Q 1099511627775 a):=by
 have ck:∀x,w.heap.size<=x->x∉N.all:=fun x hx hm=>by
  have h3:x<w.heap.size:=by
   rcases List.mem_append.1 hm with hm|hm
   ·exact h.core.lt (List.mem_append_left _ hm)
   ·exact h.gT _ hm
  omega
 refine spec_of_wpE (T:=tt) ah func63 rfl (by decide +kernel) ntmps63 (by simp) ?_;refine CW.loop (ι:=KS×CS×Option Nat×Int) (fun i w'=>(b=none->i.2.2.1=none)/\Bo a K P i.1 i.2.1/\On w' N i.1 i.2.1 i.2.2.1 i.2.2.2 X c/\Aa N.all w w') (fun _=>[(0,.pointer (some ⟨N.k,0,none⟩)),(1,.int .i64 of),(2,.func (.func g) #[] cap)]) (fun i=>12-an i.1.st 3) (K,P,b,n) ah ⟨id,Bo.start W,h,Aa.refl _ _⟩ ⟨rfl,rfl,rfl,trivial⟩ ?_;rintro⟨K1,P1,b1,n1⟩ wr ⟨eQ,I,h1,kk⟩;simp only at eQ I h1 kk ⊢;obtain⟨k1,W1⟩:=I.w;conv=>whnf
 repeat ((first|(refine Ld.of h1.core.c1 ?_)|refine CW.s ?_);conv=>whnf)
 refine Ca.of (eM h1.core.aY) ?_;rintro _ _ ⟨rfl,rfl⟩;by_cases hw:aA K1.st=true
 ·rw[hw];conv=>whnf
  repeat (refine Br.t ?_;conv=>whnf)
  refine⟨rfl,kk,.inl ⟨K1,P1,b1,n1,eQ,h1,.inr ⟨rfl,I.no (fun R _=>?_)⟩⟩⟩;have:=R.bd;unfold aA at hw;have:=of_decide_eq_true hw;omega
 have hw:aA K1.st=false:=by simpa using hw
 rw[hw];conv=>whnf
 repeat ((first|refine Br.f ?_|refine CW.s ?_);conv=>whnf)
 refine Ca.of (aiZ h1 W1 hw ho) ?_;rintro _ w2 ⟨k2,⟨K2,P2,b2,n2,qk,h2,e2,rfl,O⟩|⟨qk,Q,n2,h2,rfl,nF⟩⟩
 case inr =>
  conv=>whnf
  repeat ((first|refine Br.t ?_|refine Ru.n1 ?_);conv=>whnf)
  exact⟨rfl,kk.trans k2,.inr ⟨fun x=>qk (eQ x),Q,n2,h2,rfl,nF⟩⟩
 have dJ:=kk.trans k2;have acY:=fun x=>qk (eQ x);have I2:=I.ni O;rcases O.er with rfl|rfl
 case inr =>
  conv=>whnf
  repeat ((first|refine Br.t ?_|refine Ru.n1 ?_);conv=>whnf)
  refine⟨rfl,dJ,.inl ⟨K2,P2,b2,n2,acY,h2,.inr ⟨rfl,?_⟩⟩⟩;refine⟨I2.w,I2.may,I2.c3,by have:=I2.nx;omega,I2.le,I2.qu,I2.cur,fun R hn=>?_⟩;have:=(O.rm (I.rm R hn) (by have:=I.lim hn;omega)).1;omega
 have ma:=O.room rfl;have hw2:=O.nw rfl;obtain⟨k2',W2⟩:=O.w;have Fr:=W2.fresh ho ma;have abm:=W2.fb;by_cases hn:K2.next<1099511627775
 case neg =>
  conv=>whnf
  repeat ((first|refine Br.f ?_|refine Ru.ai ?_);conv=>whnf)
  refine Ca.of (qP h2 (by omega)) ?_;rintro _ _ ⟨rfl,rfl⟩;conv=>whnf
  repeat ((first|refine Br.t ?_|refine Ru.n1 ?_|refine CW.s ?_);conv=>whnf)
  exact⟨rfl,dJ,.inl ⟨K2,P2,b2,n2,acY,h2,.inr ⟨rfl,I2.no (fun _ hx=>by omega)⟩⟩⟩
 obtain⟨hmk,vw⟩:=hg K2 P2 k2' W2 hn I2;conv=>whnf
 repeat ((first|refine Br.f ?_|refine Ru.ai ?_);conv=>whnf)
 refine Ca.of (sC h2 ⟨by have:=W2.nx;omega,hn⟩) ?_;rintro _ w3 ⟨rfl,h3,k3⟩;have bK:=dJ.trans k3;conv=>whnf
 repeat ((first|refine Br.f ?_|refine Ru.ai ?_|refine CW.s ?_);conv=>whnf)
 refine Ca.args (args' := #[.int .i64 K2.next]++cap) (by simp) ?_;refine Ca.of (hmk w3 _ _ bK h3) ?_;rintro _ w4 ⟨A,dd,rfl,hl,k4⟩;have h4:=h3.aj k4;have bT:=bK.trans (Aa.eA k4);conv=>whnf
 repeat ((first|(refine Ld.of h4.core.c3 ?_)|refine Br.f ?_|refine Ru.ai ?_|refine CW.s ?_);conv=>whnf)
 refine Ca.of (ui h4.core.front of W2.fb W2.fi ho ma) ?_;rintro _ w5 ⟨rfl,r5,k5⟩;have h5:On w5 N (tkK (bS K2)) P2 b2 n2 X c:=h4.front k5 r5;have dE:=bT.trans (Aa.jg (by simp[Cr.own]) k5);have hl5:=hl.ab k5 (fun x hx hm=>hl.aP h4.core.front (by decide) (List.mem_singleton.1 hm ▸ hx));conv=>whnf
 repeat ((first|refine Br.f ?_|refine Ru.ai ?_|refine CW.s ?_);conv=>whnf)
 refine Ru.of (ng _ _ _ _) ?_;rw[show(Tg.mk (((bS K2).fb*8+(bS K2).fi:Nat):Int) (of:Nat) K2.next 0 false)=dk K2 of from rfl];conv=>whnf
 refine Ru.fp ?_;intro x12 w6 hx12 hs6 r12a k6;conv=>whnf
 refine Ru.kQ r12a ?_;intro w7 r12 k7;have q7:Aa [] w5 w7:=k6.then k7 (fun x hx=>.inr (by rw[List.mem_singleton.1 hx,hx12];exact Nat.le_refl _));have h7:=h5.aj q7;have hl7:=hl5.aj q7;have nz:=dE.trans (Aa.eA q7);have alv:w.heap.size<=x12:=by
  rw[hx12];exact dE.size
 clear k6 k7 q7 hs6 r12a hx12 w6;conv=>whnf
 refine Ru.fF r12 ?_;conv=>whnf
 refine Ca.of (zn h7 W2.hb (p:=K2.fb*8+K2.fi) Fr.lt vw hl7 (mD ho Fr ⟨W2.nx.1,hn⟩) rfl Fr.bl) ?_;rintro _ w8 ⟨k8,hr8⟩;have aqG:=r12.ab k8 (ck x12 alv);have pK:=nz.trans k8;rcases hr8 with⟨K8,P8,b8,n8,ya,h8,g1,⟨rfl,rfl,g2⟩|⟨rfl,rfl,g2,g3,g4⟩⟩|⟨ya,Q,n8,h8,rfl,g1,g2⟩
 ·conv=>whnf
  repeat ((first|refine Br.t ?_|refine Ru.au ?_|refine CW.s ?_);conv=>whnf)
  refine Ru.fF aqG ?_;conv=>whnf
  refine Ca.of (sD h8 W2.fh.mw (t:=dk K2 of) ho Fr.lt rfl rfl) ?_;rintro _ w9 ⟨rfl,h9,k9⟩;conv=>whnf
  have h9':On w9 N (cy K2 of) P8 b8 n8 X c:=h9;exact⟨rfl,pK.trans k9,.inl ⟨_,P8,b8,n8,fun x=>ya (acY x),h9',.inl ⟨rfl,K2,P2,I2,hw2,ma,hn,rfl,g1,g2⟩⟩⟩
 ·have W8:=W2.cB ho ma hn g1 g2;conv=>whnf
  repeat ((first|refine Br.f ?_|refine Ru.e1 ?_|refine CW.s ?_);conv=>whnf)
  refine Ca.of (aW 8 8 (by decide) w8) ?_;rintro _ _ ⟨rfl,rfl⟩;conv=>whnf
  repeat ((first|(refine Ld.of h8.core.c3 ?_)|refine Br.f ?_);conv=>whnf)
  refine Ca.of (jW h8.core.front) ?_;rintro _ _ ⟨rfl,rfl⟩;rw[if_pos (show(tkK (bS K2)).fo=true from Fr.fo)];conv=>whnf
  refine Ca.of (zo h8 W8 abm (.inr ⟨Fr.fo,rfl⟩) true false) ?_;rintro _ w9 ⟨k9,⟨K9,P9,b9,n9,hb9,h9,e9,rfl,V⟩|⟨hb9,Q,n9,h9,rfl,nF⟩⟩
  ·obtain⟨v1,v2⟩:=I2.fail W2 ho ma hn g1 g2 g4 V;rcases V.er with rfl|rfl
   ·obtain⟨v3,v4⟩:=v1 rfl;have hc9:an K9.st 3<=12:=cZ _ _ _;have lT:an K1.st 3<=an K2.st 3:=ix O.jc;conv=>whnf
    repeat ((first|refine Br.f ?_|refine Ru.ai ?_);conv=>whnf)
    exact⟨(K9,P9,b9,n9),⟨fun x=>hb9 (ya (acY x)),v3,h9,pK.trans k9⟩,⟨rfl,rfl,rfl,trivial⟩,by simp only;omega⟩
   ·conv=>whnf
    repeat ((first|refine Br.t ?_|refine Ru.n1 ?_);conv=>whnf)
    exact⟨rfl,pK.trans k9,.inl ⟨K9,P9,b9,n9,fun x=>hb9 (ya (acY x)),h9,.inr ⟨rfl,v2 rfl⟩⟩⟩
  ·conv=>whnf
   repeat ((first|refine Br.t ?_|refine Ru.n1 ?_);conv=>whnf)
   exact⟨rfl,pK.trans k9,.inr ⟨fun x=>hb9 (ya (acY x)),Q,n9,h9,rfl,nF⟩⟩
 ·conv=>whnf
  repeat ((first|refine Br.f ?_|refine Ru.e1 ?_|refine CW.s ?_);conv=>whnf)
  refine Ca.of (aW 7 8 (by decide) w8) ?_;rintro _ _ ⟨rfl,rfl⟩;conv=>whnf
  repeat (refine Br.t ?_;conv=>whnf)
  exact⟨rfl,pK,.inr ⟨fun x=>ya (acY x),Q,n8,h8,rfl,W2.aee ho ma hn g1 g2⟩⟩
end
section
variable{w w':World}{N:Cr}{K:KS}{X:Option Addr}{c:Nat}{P:CS}{b:Option Nat}{n:Int}{a:Nat->Nat->Nat}{k:Cp}
theorem Wi.aqH(h:Wi a k K P){of:Nat}(ho:of<=24)(hr:aJ K.fo K.fi of=true):(cy K of).at_=af K.at_ of (K.fb*8+K.fi+1):=by
 have Fr:=h.fresh ho hr;have h96:=Fr.lt;have how:K.ow (K.fb*8+K.fi)=0:=by
  by_cases hx:K.ow (K.fb*8+K.fi)=0
  ·exact hx
  ·obtain⟨y1,y2⟩:=h.fh.o _ h96 hx;obtain⟨_,t,D,e1,_⟩:=h.cM (o:=K.ow (K.fb*8+K.fi)-1) (by omega) (by omega);rw[y2,Nat.add_sub_cancel,Fr.bl] at e1
   cases e1
 obtain⟨c1,c2⟩:=h.fh.set (o:=of) (by omega) h96 how Fr.hh;unfold cy anK;split
 ·exact c2
 ·exact c2
theorem abo(h:On w N K P b n X c)(W:Wi a k K P) :
  Spec Tryz.prog 105 #[.pointer (some ⟨N.k,0,none⟩)] w fun u w'=>Fin N X c b w w' (fun K' P'=>(u=ak 0/\∃K1 P1,B7 a 24 aZ K P K1 P1 K' P')\/(u=ak 14/\Cz a K P K' P')) (fun Q=>u=ak 7/\Tw Q 1099511627775 a):=by
 refine spec_of_wpE (T:=tt) ah func105 rfl (by decide +kernel) ntmps105 (by simp) ?_;conv=>whnf
 refine Ru.aid ?_;intro x w1 hx hs r k1;have h1:=h.aj k1;have ck:x∉N.all:=fun hm=>by
  have h3:x<w.heap.size:=by
   rcases List.mem_append.1 hm with hm|hm
   ·exact h.core.lt (List.mem_append_left _ hm)
   ·exact h.gT _ hm
  omega
 conv=>whnf
 repeat ((refine Ld.row r (by omega) ?_);conv=>whnf)
 refine Ca.of (zp h1 W (of:=24) (by omega) 152 #[.pointer (some ⟨x,0,none⟩)] (fun K1 P1 k1' W1 hn I=>⟨fun w2 b2 n2 k2 h2=>aa0 h2 ((r.ab k2 ck).cell 0 (by omega)) K1.next (jd W1 (by have:=W1.nx;omega) (-1)),fun j=>iX _ j⟩)) ?_;rintro _ w2 ⟨k2,hr⟩;conv=>whnf
 exact⟨rfl,(Aa.eA k1).trans k2,hr⟩
theorem ala(h:On w N K P b n X c)(W:Wi a k K P){of d:Nat}(ho:of<24){A:Option Addr}{f:Nat->Nat}(hf:∀j,f j<256)(hA:AH w A 160 f)(hd:160<=d) :
  Spec Tryz.prog 68 #[.pointer (some ⟨N.k,0,none⟩),.int .i64 of,.slice A 160 d] w fun u w'=>Fin N X c b w w' (fun K' P'=>(u=ak 0/\∃K1 P1,B7 a of (dO f) K P K1 P1 K' P')\/(u=ak 14/\Cz a K P K' P')) (fun Q=>u=ak 7/\Tw Q 1099511627775 a):=by
 have ck:∀x,w.heap.size<=x->x∉N.all:=fun x hx hm=>by
  have h3:x<w.heap.size:=by
   rcases List.mem_append.1 hm with hm|hm
   ·exact h.core.lt (List.mem_append_left _ hm)
   ·exact h.gT _ hm
  omega
 refine spec_of_wpE (T:=tt) ah func68 rfl (by decide +kernel) ntmps68 (by simp) ?_;conv=>whnf
 repeat ((first|refine Br.f ?_|refine Pk.f ?_|refine Br.n ?_|refine CW.s ?_);conv=>whnf)
 refine Ru.of (uD w) ?_;have ry:=Row.made w 5 (.int .u8 0) 174;have k1:Aa [] w (w.alloc (.cells (madeCells #[.int .u8 0] 174) 5)):=(Aa.refl _ _).alloc _;have du:(w.alloc (.cells (madeCells #[.int .u8 0] 174) 5)).heap.size=w.heap.size+1:=by simp
 generalize w.alloc _=w1 at *;conv=>whnf
 refine Ru.of (aa1 w1) ?_;have rx:=qH (heap_alloc_new w1 (.cells #[.slice none 0 0] 37));have k2:Aa [] w1 (w1.alloc (.cells #[.slice none 0 0] 37)):=(Aa.refl _ _).alloc _;have ry2:=ry.ab k2 (by simp);generalize w1.alloc _=w2 at *;conv=>whnf
 refine Sd.rowAt rx 0 (by omega) (by omega) rfl ?_;intro w3 rx3 k3;have hxy:w1.heap.size≠w.heap.size:=by omega
 have hxw:w.heap.size<=w1.heap.size:=by omega
 have ry3:=ry2.ab k3 (by simpa using hxy.symm);have bK:Aa [] w w3:=(k1.trans k2).fresh hxw k3;have rx3:Row w3 w1.heap.size 37 1 (fun _=>.slice (some ⟨w.heap.size,0,none⟩) 174 174):=rx3.congr (fun j hj=>by rw[c1 hj];rfl);generalize hxx:w1.heap.size=x at *;generalize hyy:w.heap.size=y at *;conv=>whnf
 repeat ((refine Ld.row rx3 (by omega) ?_);conv=>whnf)
 refine Bu.copy underlying37 l6 ry3 A 160 d 160 rfl (hA.aj bK) (fun e=>?_) (by omega) (fun _ _=>rfl) ?_
 ·obtain⟨b1,o1,e1,_⟩:=hA (by omega);rw[e] at e1
  cases e1
 intro w4 ry4 k4;have rx4:=rx3.ab k4 (by simpa using hxy);have bT:Aa [] w w4:=bK.fresh (by omega) k4;have ry4:Row w4 y 5 174 (fun j=>.int .u8 (dO f K 0 j:Nat)):=ry4.congr (fun j hj=>by
  unfold lay dO;by_cases h:j<160
  ·rw[if_pos (by omega),if_pos h,Nat.sub_zero]
  ·rw[if_neg (by omega),if_neg h];rfl)
 have h4:=h.aj bT;conv=>whnf
 refine Ca.of (zp h4 W (of:=of) (by omega) (D:=dO f) 114 #[.pointer (some ⟨x,0,none⟩)] (fun K1 P1 k1' W1 hn I=>⟨fun w2 b2 n2 k2 h2=>adX (D:=dO f (bS K1) K1.next) ((rx4.ab k2 (ck x (by omega))).cell 0 (by omega)) (ry4.ab k2 (ck y (by omega))) K1.next,fun j=>by
  unfold dO;split
  ·exact hf j
  ·omega⟩)) ?_
 rintro _ w5 ⟨k5,hr⟩;conv=>whnf
 exact⟨rfl,(Aa.eA bT).trans k5,hr⟩
theorem acZ{k:Cp}(h:Wi a k K P){o:Nat}{q:Int}(hq:0<=q/\q<=1099511627775)(hn:K.next<1099511627775):(vQ (bS K) o q K.next).told:=by
 have T:=jd h (s:=K.next) (by have:=h.nx;omega) (-1);refine⟨T.next,T.cur,fun i hi=>?_,T.rd,T.sc⟩;show 0<=af K.fl o q i/\af K.fl o q i<=_;unfold af;split
 ·exact hq
 ·exact h.fge i hi
theorem ai0(h:On w N K P b n X c)(W:Wi a k K P){o:Nat}(ho:o<24)(h0:K.at_ o≠0) :
  Spec Tryz.prog 44 #[.pointer (some ⟨N.k,0,none⟩),.int .i64 o] w fun u w'=>Fin N X c b w w' (fun K' P'=>(u=ak 0/\∃K1 P1,B7 a 24 (dp o (K.en o).seq) K P K1 P1 (cy K1 24) P'/\K'=zf (sH (cy K1 24) o (K.en o).seq) o)\/(u=ak 14/\Cz a K P K' P')) (fun Q=>u=ak 7/\Tw Q 1099511627775 a):=by
 have h96:=W.lt (o:=o) (by omega);have hsq:0<=(K.en o).seq/\(K.en o).seq<=1099511627775:=by
  obtain⟨_,t,D,_,e2,_,e4,_⟩:=W.cM (o:=o) (by omega) h0;rw[e2];unfold Tg.ok at e4;show 0<=t.seq/\t.seq<=_;omega
 have ck:∀x,w.heap.size<=x->x∉N.all:=fun x hx hm=>by
  have h3:x<w.heap.size:=by
   rcases List.mem_append.1 hm with hm|hm
   ·exact h.core.lt (List.mem_append_left _ hm)
   ·exact h.gT _ hm
  omega
 refine spec_of_wpE (T:=tt) ah func44 rfl (by decide +kernel) ntmps44 (by simp) ?_;conv=>whnf
 refine Ru.aid ?_;intro x2 w1 hx2 du r2 k1;conv=>whnf
 refine Ru.amY ?_;intro x3 w2 hx3 fE r3 k2;have r22:=r2.ab k2 (by simp);have hh2:=(h.aj k1).aj k2;have kk:=k1.trans k2;have x2w:w.heap.size<=x2:=by omega
 have x3w:w.heap.size<=x3:=by omega
 clear hx2 du r2 k1 k2 fE hx3 w1;conv=>whnf
 repeat ((first|(refine Ld.row r3 (by omega) ?_)|refine Br.f ?_|refine Pk.f ?_|refine Br.n ?_|refine CW.s ?_);conv=>whnf)
 refine CW.held (fun w'=>Ae w' N K X c/\Row w' x2 85 1 (fun _=>.pointer (some ⟨N.k,0,none⟩))/\Row w' x3 3 1 (fun _=>.int .i64 o)) [] (.take 0 (.take 1 (.take 2 (.take 3 (.take 4 (.one 5 (.take 6 (.take 7 (.take 8 (.take 9 (.take 10 (.done)))))))))))) ah (by kernel_rfl) (by kernel_rfl) (by kernel_rfl) ?_ ?_
 ·exact⟨hh2.core.aj ((Aa.refl _ _).drewN 1),Row.drewN r22 1,Row.drewN r3 1⟩
 have q2:=(Aa.refl [] w2).drewN 1;have h3:=hh2.aj q2;have r23:=r22.ab q2 (by simp);have r33:=r3.ab q2 (by simp);have bK:=kk.trans q2;clear hh2 r22 r3 kk q2;generalize w2.drewN 1=w3 at *;conv=>whnf
 repeat ((first|(refine Ah.of (fun _ h=>h.1.c2) ?_)|(refine Ah.of (fun _ h=>h.2.1.cell 0 (by omega)) ?_)|(refine Ah.of (fun _ h=>h.2.2.cell 0 (by omega)) ?_));conv=>whnf)
 refine Ca.of (iS h3.core.map o (by omega) (by omega)) ?_;rintro _ _ ⟨rfl,rfl⟩;rw[if_neg h0];refine⟨⟨h3.core,r23,r33⟩,?_⟩;conv=>whnf
 repeat ((first|refine Br.f ?_|refine Ru.ai ?_);conv=>whnf)
 refine CW.held (fun w'=>Ae w' N K X c/\Row w' x2 85 1 (fun _=>.pointer (some ⟨N.k,0,none⟩))/\Row w' x3 3 1 (fun _=>.int .i64 o)) [8] (.take 0 (.take 1 (.take 2 (.take 3 (.take 4 (.take 5 (.take 6 (.one 7 (.one 8 (.done)))))))))) ah (by kernel_rfl) (by kernel_rfl) (by kernel_rfl) ?_ ?_
 ·exact⟨h3.core.aj ((Aa.refl _ _).drewN 1),Row.drewN r23 1,Row.drewN r33 1⟩
 have q2:=(Aa.refl [] w3).drewN 1;have h4:=h3.aj q2;have r24:=r23.ab q2 (by simp);have r34:=r33.ab q2 (by simp);have bT:=bK.trans q2;clear h3 r23 r33 bK q2;generalize w3.drewN 1=w4 at *;have een:cj N K X c (7+3*o)=.int .i64 (K.en o).seq:=iF (j:=0) (by omega) (by omega);conv=>whnf
 repeat ((first|(refine Ah.of (fun _ h=>h.2.1.cell 0 (by omega)) ?_)|(refine Ah.of (fun _ h=>h.2.2.cell 0 (by omega)) ?_)|(refine Ix.of o (by omega) (by omega) ?_)|(refine Ah.at (j:=7+3*o) (by omega) (fun _ h=>(h.1.row.cell (7+3*o) (by omega)).trans (congrArg some een)) ?_));conv=>whnf)
 refine Ru.of (xw w4) ?_;have r7:=qH (heap_alloc_new w4 (.cells #[.int .i64 0] 2));have k5:Aa [] w4 (w4.alloc (.cells #[.int .i64 0] 2)):=(Aa.refl _ _).alloc _;have h5:=h4.aj k5;have r25:=r24.ab k5 (by simp);have r35:=r34.ab k5 (by simp);have dE:=bT.trans k5;have l2:=r24.lt;have l3:=r34.lt;have x7w:=bT.size;clear k5 h4 r24 r34 bT;generalize w4.alloc _=w5 at *;generalize w4.heap.size=x7 at *;refine⟨⟨h5.core,r25,r35⟩,?_⟩;conv=>whnf
 refine Sd.rowAt r7 0 (by omega) (by omega) rfl ?_;intro w6 r76 k6;have h6:=h5.gr r7 (by decide) k6;have r26:=r25.ab k6 (by simp;omega);have r36:=r35.ab k6 (by simp;omega);have fX:=dE.fresh x7w k6;have r76:Row w6 x7 2 1 (fun _=>.int .i64 (K.en o).seq):=r76.congr (fun j hj=>by rw[c1 hj];rfl);clear r7 h5 r25 r35 dE k6 l2 l3 w5;conv=>whnf
 repeat ((refine Ld.row r26 (by omega) ?_);conv=>whnf)
 refine Ca.of (zp h6 W (of:=24) (by omega) (D:=dp o (K.en o).seq) 64 #[.pointer (some ⟨x2,0,none⟩),.pointer (some ⟨x7,0,none⟩),.pointer (some ⟨x3,0,none⟩)] (fun K1 P1 k1' W1 hn I=>⟨fun w2 b2 n2 k2 h2=>aa6 h2 ho ((r26.ab k2 (ck _ x2w)).cell 0 (by omega)) ((r76.ab k2 (ck _ x7w)).cell 0 (by omega)) ((r36.ab k2 (ck _ x3w)).cell 0 (by omega)) K1.next (acZ W1 hsq hn),fun j=>iX _ j⟩)) ?_;rintro _ w7 ⟨k7,hr⟩;have nz:=(Aa.eA (N:=N) fX).trans k7;rcases hr with⟨K7,P7,b7,n7,vT,h7,hr⟩|⟨vT,Q,n7,h7,rfl,nF⟩
 case inr =>
  conv=>whnf
  repeat ((first|refine Br.t ?_|refine Ru.n1 ?_|refine CW.s ?_);conv=>whnf)
  exact⟨rfl,nz,.inr ⟨vT,Q,n7,h7,rfl,nF⟩⟩
 rcases hr with⟨rfl,K1,P1,L⟩|⟨rfl,E⟩
 case inr =>
  conv=>whnf
  repeat ((first|refine Br.t ?_|refine Ru.n1 ?_|refine CW.s ?_);conv=>whnf)
  exact⟨rfl,nz,.inl ⟨K7,P7,b7,n7,vT,h7,.inr ⟨rfl,E⟩⟩⟩
 obtain⟨k1',W1⟩:=L.i.w;have dC:=W1.aqH (Nat.le_refl 24) L.room;have ht1:=(L.i.tg o ho h0).1;have h1:(cy K1 24).at_ o≠0:=by
  rw[dC];unfold af;rw[if_neg (by omega)];exact ht1
 have h2:(cy K1 24).at_ o<=96:=by
  rw[dC];unfold af;rw[if_neg (by omega)];exact W1.lt (by omega)
 obtain rfl:=L.eq;have r27:=r26.ab k7 (ck _ x2w);have r37:=r36.ab k7 (ck _ x3w);have r77:=r76.ab k7 (ck _ x7w);clear h6 r26 r36 r76 k7 fX;conv=>whnf
 repeat ((first|refine Br.f ?_|refine Ru.ai ?_|refine CW.s ?_);conv=>whnf)
 refine CW.held (fun w'=>Row w' x2 85 1 (fun _=>.pointer (some ⟨N.k,0,none⟩))/\Row w' x3 3 1 (fun _=>.int .i64 o)/\Row w' x7 2 1 (fun _=>.int .i64 (K.en o).seq)) [] (.take 0 (.take 1 (.take 2 (.take 3 (.take 4 (.take 5 (.one 6 (.done)))))))) ah (by kernel_rfl) (by kernel_rfl) (by kernel_rfl) ?_ ?_
 ·exact⟨Row.drewN r27 1,Row.drewN r37 1,Row.drewN r77 1⟩
 have q7:=(Aa.refl [] w7).drewN 1;have h8:=h7.aj q7;have r28:=r27.ab q7 (by simp);have r38:=r37.ab q7 (by simp);have r78:=r77.ab q7 (by simp);have pK:=nz.trans (Aa.eA (N:=N) q7);clear h7 r27 r37 r77 nz q7;generalize w7.drewN 1=w8 at *;conv=>whnf
 repeat ((first|(refine Ah.of (fun _ h=>h.1.cell 0 (by omega)) ?_)|(refine Ah.of (fun _ h=>h.2.1.cell 0 (by omega)) ?_)|(refine Ah.of (fun _ h=>h.2.2.cell 0 (by omega)) ?_)|(refine Ix.of o (by omega) (by omega) ?_));conv=>whnf)
 rw[show 0+82+o=82+o by omega];refine Sd.rowAt h8.core.row (82+o) (by omega) (by omega) rfl ?_;intro w9 r9 k9;have h9:On w9 N (sH (cy K1 24) o (K.en o).seq) P7 _ n7 X c:=h8.row k9 r9 (fun j hj=>rJ o ho _ j hj) rfl;have r29:=r28.ab k9 (by
  have:=h8.core.row.lt;have:=h8.core.row.ed r28 (by decide);simpa using this.symm)
 have r39:=r38.ab k9 (by
  have:=h8.core.row.ed r38 (by decide);simpa using this.symm)
 have r79:=r78.ab k9 (by
  have:=h8.core.row.ed r78 (by decide);simpa using this.symm)
 have kk9:=pK.trans (Aa.jg (N:=N) (by simp[Cr.own]) k9);clear h8 r28 r38 r78 pK r9 k9;refine⟨⟨r29,r39,r79⟩,?_⟩;conv=>whnf
 refine CW.held (fun w'=>Row w' x2 85 1 (fun _=>.pointer (some ⟨N.k,0,none⟩))/\Row w' x3 3 1 (fun _=>.int .i64 o)/\w'.cell? ⟨N.k,2,none⟩=some (.pointer (some ⟨N.a,0,none⟩))) [] (.take 0 (.take 1 (.take 2 (.take 3 (.take 4 (.one 5 (.take 6 (.done)))))))) ah (by kernel_rfl) (by kernel_rfl) (by kernel_rfl) ?_ ?_
 ·exact⟨Row.drewN r29 1,Row.drewN r39 1,(h9.aj ((Aa.refl [] w9).drewN 1)).core.c2⟩
 have q9:=(Aa.refl [] w9).drewN 1;have wZ:=h9.aj q9;have aiq:=r29.ab q9 (by simp);have air:=r39.ab q9 (by simp);have qG:=kk9.trans (Aa.eA (N:=N) q9);clear h9 r29 r39 kk9 q9;generalize w9.drewN 1=yy at *;conv=>whnf
 repeat ((first|(refine Ah.of (fun _ h=>h.1.cell 0 (by omega)) ?_)|(refine Ah.of (fun _ h=>h.2.1.cell 0 (by omega)) ?_)|(refine Ah.of (fun _ h=>h.2.2) ?_));conv=>whnf)
 refine Ca.of (aaK wZ.core.map o (by omega) h2 h1) ?_;rintro _ zy ⟨rfl,r11,lD⟩;have sA:=wZ.map lD r11;refine⟨⟨aiq.ab lD (by
  have:=Row.ed wZ.core.map aiq (by decide);simpa using this.symm),air.ab lD (by
  have:=Row.ed wZ.core.map air (by decide);simpa using this.symm),sA.core.c2⟩,?_⟩
 conv=>whnf
 exact⟨rfl,qG.trans (Aa.jg (by simp[Cr.own]) lD),.inl ⟨_,P7,b7,n7,vT,sA,.inl ⟨rfl,K1,P1,L,rfl⟩⟩⟩
end
structure At(q:List Nat):Prop where
 nd:q.Nodup
 lt:∀x,x∈q->x<12
theorem abp:∀ {n:Nat} {l:List Nat},l.Nodup->(∀x,x∈l->x<n)->l.length<=n
 | 0,l,_,h=>by
  cases l with
  |nil=>exact Nat.le_refl _
  |cons x xs=>exact absurd (h x (List.mem_cons_self ..)) (by omega)
 | n+1,l,hn,h=>by
  have h1:=gB (n:=n) hn
  have h2:=abp (n:=n) (l:=l.filter (· ≠ n)) (hn.filter _) (fun x hx=>by
   obtain⟨m1,m2⟩:=List.mem_filter.1 hx;have:=h x m1;have:x≠n:=by simpa using m2
   omega)
  omega
theorem At.len{q:List Nat}(h:At q):q.length<=12:=abp h.nd h.lt
theorem At.nil:At []:=⟨List.nodup_nil,fun _ h=>by cases h⟩
theorem At.add{q:List Nat}(h:At q){b:Nat}(hb:b<12):At (rZ q b):=by
 unfold rZ;split
 ·exact h
 ·rename_i hn
  refine⟨?_,fun x hx=>?_⟩
  ·rw[List.nodup_append];refine⟨h.nd,by simp,fun x hx y hy=>?_⟩;rw[List.mem_singleton.1 hy];intro e;exact hn (e ▸ hx)
  ·rcases List.mem_append.1 hx with hx|hx
   ·exact h.lt x hx
   ·rw[List.mem_singleton.1 hx];exact hb
theorem At.tail{q:List Nat}{v:Nat}(h:At (v::q)):v<12/\At q:=⟨h.lt v (List.mem_cons_self ..),(List.nodup_cons.1 h.nd).2,fun x hx=>h.lt x (List.mem_cons_of_mem _ hx)⟩
section
variable{w w':World}{N:Cr}{K:KS}{X:Option Addr}{c:Nat}{P:CS}{b:Option Nat}{n:Int}{a:Nat->Nat->Nat}{k:Cp}
def Seen(N:Cr)(X:Option Addr)(K:KS)(P:CS)(b:Option Nat)(w w':World):Prop:=∃F q Y d n',On w' N { K with F:=F,qu:=q } P b n' Y d/\Hl.HB F/\At q/\Aa (N.all++aR X) w w'/\∀x,x∈aR Y->x∈aR X\/w.heap.size<=x
theorem Seen.aj{w2:World}(h:Seen N X K P b w w')(k:Aa [] w' w2):Seen N X K P b w w2:=by
 obtain⟨F,q,Y,d,n',h1,h2,h3,h4,h5⟩:=h;exact⟨F,q,Y,d,n',h1.aj k,h2,h3,h4.trans (k.mono (by simp)),h5⟩
theorem Seen.first{w0:World}(h:Seen N X K P b w w')(k:Aa N.all w0 w):Seen N X K P b w0 w':=by
 obtain⟨F,q,Y,d,n',h1,h2,h3,h4,h5⟩:=h;refine⟨F,q,Y,d,n',h1,h2,h3,(k.mono (fun x hx=>List.mem_append_left _ hx)).trans h4,fun x hx=>?_⟩;rcases h5 x hx with e|e
 ·exact .inl e
 ·exact .inr (Nat.le_trans k.size e)
theorem aeg(h:On w N K P b n X c){p:Nat}(hp:p<96)(hl:K.ow p<=25)(B:Hl.HB K.F)(hq:At K.qu){R:AP}{dv:Value}(hs:K.ow p≠0->R.sound=true) :
  Spec Tryz.prog 70 #[.pointer (some ⟨N.k,0,none⟩),.int .i64 p,agg 9 (rC R.tagged R.tag R.sound dv (R.iP:Nat))] w fun v w'=>v=.tuple #[]/\Seen N X K P b w w':=by
 refine spec_of_wpE (T:=tt) ah func70 rfl (by decide +kernel) ntmps70 (by simp) ?_;conv=>whnf
 refine Ru.dt ?_;intro x5 w1 hx5 du r5 k1;have h1:=h.aj k1;conv=>whnf
 repeat ((first|(refine Ld.of h1.core.c2 ?_)|refine CW.s ?_);conv=>whnf)
 refine Ca.of (wO h1.core.map p hp hl) ?_;rintro _ _ ⟨rfl,rfl⟩;by_cases h0:K.ow p=0
 ·rw[if_pos h0];conv=>whnf
  repeat ((first|refine Br.t ?_|refine Pk.t ?_|refine Ru.n1 ?_);conv=>whnf)
  exact⟨rfl,rfl,K.F,K.qu,X,c,n,h1,B,hq,k1.mono (by simp),fun x hx=>.inl hx⟩
 ·rw[if_neg h0];have hs:=hs h0;have p6:w1.cell? ⟨x5,6,none⟩=some (.bool R.sound):=r5.cell 6 (by omega);have p8:w1.cell? ⟨x5,8,none⟩=some (.int .i64 (R.iP:Nat)):=r5.cell 8 (by omega);rw[hs] at p6;by_cases hd:R.iP<2
  ·conv=>whnf
   repeat ((first|(refine Ld.at (by omega) p6 ?_)|(refine Ld.at (by omega) p8 ?_)|refine Br.t ?_|refine Br.f ?_|refine Pk.f ?_|refine Pk.t ?_|refine Br.y ?_|refine Ru.ai ?_);conv=>whnf)
   exact⟨rfl,rfl,K.F,K.qu,X,c,n,h1,B,hq,k1.mono (by simp),fun x hx=>.inl hx⟩
  ·conv=>whnf
   repeat ((first|(refine Ld.at (by omega) p6 ?_)|(refine Ld.at (by omega) p8 ?_)|(refine Ld.of h1.core.c4 ?_)|(refine Dv.q ?_)|refine Br.t ?_|refine Br.f ?_|refine Pk.f ?_|refine Pk.t ?_|refine Br.n ?_|refine Ru.ai ?_);conv=>whnf)
   rw[show((p:Int)/8)=((p/8:Nat):Int) by omega];refine Ca.of (Hl.afe _ N.e _ h1.core.aL B (p/8) (by omega)) ?_;rintro _ w2 ⟨rfl,r2,k2⟩;have h2:=h1.aL k2 r2;have vu:=h2.uN;conv=>whnf
   refine Ca.of (y6 vu (by omega) (by decide) hq.len (p/8) (by omega)) ?_;rintro _ w3 ⟨rfl,xu⟩;obtain⟨Y,d,h3,k3,hY⟩:=h2.queue xu;conv=>whnf
   refine⟨rfl,rfl,Hl.rpF K.F (p/8),rZ K.qu (p/8),Y,d,n,h3,B.rp (by omega),hq.add (by omega),?_,fun x hx=>?_⟩
   ·refine((k1.mono (by simp)).trans (k2.mono (fun x hx=>?_))).trans (k3.mono (fun x hx=>?_))
    ·rw[List.mem_singleton.1 hx];exact List.mem_append_left _ (bh (by simp[Cr.own]))
    ·rcases List.mem_cons.1 hx with e|e
     ·rw[e];exact List.mem_append_left _ (bh (by simp[Cr.own]))
     ·exact List.mem_append_right _ e
   ·have s1:=k1.size;have s2:=k2.size;rcases hY x hx with e|e
    ·exact .inl e
    ·exact .inr (by omega)
theorem ai1(h:On w N K P b n X c)(B:Hl.HB K.F)(p7:At K.qu){o:Nat}(ho:o<24)(h0:K.at_ o≠0)(h96:K.at_ o<=96)(hl:K.ow (K.at_ o-1)<=25){t:Tg}{D:Nat->Nat}(hp:P.pg (K.at_ o-1)=.full t D)(vM:t.of=o)(hen:K.en o=⟨t.seq,t.copy,false⟩) :
  Spec Tryz.prog 46 #[.pointer (some ⟨N.k,0,none⟩),.int .i64 o] w fun v w'=>∃Y e,v=.tuple #[.slice Y 160 e,ak 0]/\Ci w w' Y 160 e D/\Seen N X K (P.bL (K.at_ o-1)) b w w':=by
 refine spec_of_wpE (T:=tt) ah func46 rfl (by decide +kernel) ntmps46 (by simp) ?_;conv=>whnf
 repeat ((first|(refine Ld.of h.core.c2 ?_)|refine Br.f ?_|refine Pk.f ?_|refine Br.n ?_|refine CW.s ?_);conv=>whnf)
 refine Ca.of (iS h.core.map o (by omega) (by omega)) ?_;rintro _ _ ⟨rfl,rfl⟩;rw[if_neg h0];have ee:∀j,j<3->cj N K X c (7+3*o+j)=(⟨t.seq,t.copy,false⟩:En).cell j:=fun j hj=>by rw[iF (by omega) hj,hen]
 have oJ:K.at_ o-1<96:=by omega
 generalize K.at_ o-1=p at *;conv=>whnf
 repeat ((first|(refine Ix.of o (by omega) (by omega) ?_)|refine Br.f ?_|refine Ru.ai ?_|refine CW.s ?_);conv=>whnf)
 rw[show 0+7+o*3=7+3*o by omega];refine Ru.cG (q:=(⟨t.seq,t.copy,false⟩:En).cell) h.core.row underlying140 rfl dK (by omega) (fun j hj=>ee j hj) ?_;conv=>whnf
 refine Ru.aF (kh w) ?_;intro x8 w1 hx8 du r8 k1;conv=>whnf
 refine Ru.gY r8 dK (by omega) (fun j hj=>En.bH _) ?_;intro w2 r82 k2;have r82:Row w2 x8 140 3 (⟨t.seq,t.copy,false⟩:En).cell:=r82.congr (fun j hj=>by unfold lay;rw[if_pos (by omega),Nat.sub_zero]);have q2:Aa [] w w2:=k1.then k2 (fun x hx=>.inr (by rw[List.mem_singleton.1 hx,hx8];exact Nat.le_refl _));have h2:=h.aj q2;have s0:w2.cell? ⟨x8,0,none⟩=some (.int .i64 t.seq):=r82.cell 0 (by omega);have s2:w2.cell? ⟨x8,2,none⟩=some (.bool false):=r82.cell 2 (by omega);clear k1 r8 k2 du w1;conv=>whnf
 repeat ((first|(refine Ld.at (by omega) s2 ?_)|refine Br.f ?_|refine CW.s ?_);conv=>whnf)
 refine Ca.of (jY h2 B oJ) ?_;rintro _ w3 ⟨R,dv,hR,ji,rfl,h3,k3⟩;unfold Az at hR;rw[hp] at hR;obtain⟨hR1,rfl,hR3,hR4,hR5⟩:=hR;have ck:x8∉N.all:=fun hm=>by
  have h4:x8<w.heap.size:=by
   rcases List.mem_append.1 hm with hm|hm
   ·exact h.core.lt (List.mem_append_left _ hm)
   ·exact h.gT _ hm
  omega
 have r83:=r82.ab k3 ck;have bK:=(Aa.eA (N:=N) q2).trans k3;have gG:=k3.size;have fE:=q2.size;conv=>whnf
 refine Ru.aF (cv w3) ?_;intro x9 w4 hx9 ru r9 k4;conv=>whnf
 refine Ru.eS r9 (iU R ji _) ?_;intro w5 rI k5;have q5:Aa [] w3 w5:=k4.then k5 (fun x hx=>.inr (by rw[List.mem_singleton.1 hx,hx9];exact Nat.le_refl _));have h5:=h3.aj q5;have r85:=r83.ab q5 (by simp);have dE:=bK.trans (Aa.eA (N:=N) q5);have aih:=ji.ab q5 (by simp);clear k4 k5 q5 h3 r83 r9 ru w4;conv=>whnf
 repeat ((first|refine Br.f ?_|refine Ru.ai ?_|refine CW.s ?_);conv=>whnf)
 refine Ru.ei rI ?_;refine Ca.of (aeg h5 oJ hl (B.rd (by omega)) p7 (fun _=>hR3)) ?_;rintro _ w6 ⟨rfl,S6⟩;have S6:Seen N X K (P.bL p) b w5 w6:=by
  obtain⟨F,q,Y,d,n',z⟩:=S6;exact⟨F,q,Y,d,n',z⟩
 have k6:Aa (N.all++aR X) w5 w6:=by
  obtain⟨F,q,Y,d,n',_,_,_,z,_⟩:=S6;exact z
 have SS:=S6.first dE;have ai2:∀x,w.heap.size<=x->x∉N.all++aR X:=fun x hx hm=>by
  rcases List.mem_append.1 hm with hm|hm
  ·rcases List.mem_append.1 hm with hm|hm
   ·have:=h.core.lt (List.mem_append_left _ hm);omega
   ·have:=h.gT _ hm;omega
  ·have:=h.core.lt (List.mem_append_right _ hm);omega
 have r86:=r85.ab k6 (ai2 _ (by omega));have r96:=rI.ab k6 (ai2 _ (by omega));have am7:=aih.ab k6 (fun x hx=>Classical.byContradiction fun hn=>ai2 x (by omega) hx);have aqI:=SS.elim fun F ⟨q,Y,d,n',_,_,_,z,_⟩=>z.size;rcases am7 with⟨-,O,oc,rfl,hO,zA⟩|⟨hs,-⟩
 case inr=>rw[hR3] at hs;cases hs
 have p1:w6.cell? ⟨x9,2,none⟩=some (.int .i64 R.tag.of):=r96.cell 2 (by omega);have p2:w6.cell? ⟨x9,3,none⟩=some (.int .i64 R.tag.seq):=r96.cell 3 (by omega);have p3:w6.cell? ⟨x9,6,none⟩=some (.bool R.sound):=r96.cell 6 (by omega);have p4:w6.cell? ⟨x9,7,none⟩=some (.slice O 174 oc):=r96.cell 7 (by omega);have s0:w6.cell? ⟨x8,0,none⟩=some (.int .i64 R.tag.seq):=r86.cell 0 (by omega);rw[vM] at p1;rw[hR3] at p3;conv=>whnf
 repeat ((first|(refine Ld.at (by omega) p4 ?_)|(refine Ld.at (by omega) p1 ?_)|(refine Ld.at (by omega) p2 ?_)|(refine Ld.at (by omega) p3 ?_)|(refine Ld.at (by omega) s0 ?_)|refine Br.f ?_|refine Pk.f ?_|refine Br.ny ?_|refine CW.s ?_);conv=>whnf)
 have y7:=zA.rd;rw[Nat.mul_one] at y7;obtain⟨g,oo,rfl,hc⟩:=y7 (by omega);have uo:174<=oc:=zA.1;have am8:Rd w6 (some ⟨g,oo,none⟩) 160 (fun j=>.int .u8 (D j:Nat)):=fun _=>⟨g,oo,rfl,fun j hj=>by
  rw[hc j (by omega), <-hR4];unfold cq;simp only[if_pos (show j<174 by omega)]⟩
 refine Ru.aeN underlying37 (by kernel_rfl) (h:=160) (by omega) ?_;conv=>whnf
 refine Ca.of (xl ⟨g,oo,none⟩ 160 oc D w6 am8 (by omega) (by omega)) ?_;rintro _ w7 ⟨Y,e,rfl,hY,k7⟩;conv=>whnf
 exact⟨rfl,Y,e,rfl,⟨hY.ly,fun x hx=>Nat.le_trans aqI (hY.new x hx)⟩,SS.aj k7⟩
end
structure CA(a:Nat->Nat->Nat)(K:KS)(P:CS)(K':KS)(P':CS):Prop where
 w:∃k,Wi a k K' P'
 may:∀B,P'.may B->P.may B
 c3:an K.st 3<=an K'.st 3
 nx:K'.next-4*(an K'.st 3:Nat)<=K.next-4*(an K.st 3:Nat)+1
 le:K.next<=K'.next
 qu:K'.qu=K.qu
 cur:K'.cur=K.cur
 rm:AI K P->K.next+120<=1099511627775->AI K' P'
section
variable{a:Nat->Nat->Nat}{K K1 K':KS}{P P1 P':CS}
theorem Cz.n(h:Cz a K P K' P'):CA a K P K' P':=⟨h.w,h.may,h.c3,h.nx,h.le,h.qu,h.cur,fun R hn=>(h.rm R hn).elim⟩
theorem Bo.n(I:Bo a K P K1 P1){a':Nat->Nat->Nat}(h:∃k,Wi a' k K' P')(hm:∀B,P'.may B->P1.may B)(e1:K'.st=K1.st)(e2:K'.next=K1.next+1)(e3:K'.qu=K1.qu)(e4:K'.cur=K1.cur)(e5:K'.fo=K1.fo)(e6:K'.fb=K1.fb):CA a' K P K' P':=by
 have:=I.nx;have:=I.le;exact⟨h,fun B x=>I.may B (hm B x),by rw[e1];exact I.c3,by rw[e1,e2];omega,by rw[e2];omega,e3.trans I.qu,e4.trans I.cur,fun R hn=>(I.rm R hn).same e1 e5 e6 hm⟩
theorem B7.uX(L:B7 a 24 aZ K P K1 P1 K' P'):CA a K P K' P':=by
 obtain⟨k1,W1⟩:=L.i.w;have hp:=L.pg;rw[show cq (aZ (bS K1) K1.next)=aZ (bS K1) K1.next from gI _] at hp;obtain⟨W,ow,F,calls,e⟩:=W1.uX L.aaZ L.room L.next L.lk.pg hp;rw[L.eq];exact L.i.n ⟨_,W⟩ L.lk.may (by rw[e]) (by rw[e]) (by rw[e]) (by rw[e]) (by rw[e]) (by rw[e])
theorem ai3(f:Nat->Nat)(K:KS)(s:Int):cq (dO f K s)=dO f K s:=by
 funext j;unfold cq dO;by_cases h:j<174
 ·rw[if_pos h]
 ·rw[if_neg h,if_neg (by omega)]
theorem B7.put{s:Nat}{f:Nat->Nat}(L:B7 a s (dO f) K P K1 P1 K' P')(hs:s<24)(hf:∀j,f j<256):CA (gU a s f) K P K' P':=by
 obtain⟨k1,W1⟩:=L.i.w;have hp:=L.pg;rw[ai3] at hp;obtain⟨W,ow,F,calls,e⟩:=W1.put hs L.room L.next hf L.lk.pg hp;rw[L.eq];exact L.i.n ⟨_,W⟩ L.lk.may (by rw[e]) (by rw[e]) (by rw[e]) (by rw[e]) (by rw[e]) (by rw[e])
theorem anp(K1:KS)(of:Nat):(cy K1 of).st=K1.st/\(cy K1 of).next=K1.next+1/\(cy K1 of).qu=K1.qu/\(cy K1 of).cur=K1.cur/\(cy K1 of).fo=K1.fo/\(cy K1 of).fb=K1.fb:=by
 unfold cy anK;split
 ·exact⟨rfl,rfl,rfl,rfl,rfl,rfl⟩
 ·exact⟨rfl,rfl,rfl,rfl,rfl,rfl⟩
theorem B7.trimmed{o:Nat}(L:B7 a 24 (dp o (K.en o).seq) K P K1 P1 (cy K1 24) P')(ho:o<24)(h0:K.at_ o≠0):CA (gU a o (fun _=>0)) K P (zf (sH (cy K1 24) o (K.en o).seq) o) P':=by
 obtain⟨k1,W1⟩:=L.i.w;obtain⟨t1,t2⟩:=L.i.tg o ho h0;have hp:=L.pg;rw[show cq (dp o (K.en o).seq (bS K1) K1.next)=dp o (K.en o).seq (bS K1) K1.next from gI _] at hp;rw[<-t2] at hp ⊢;have W:=W1.trimmed L.aaZ ho t1 L.room L.next L.lk.pg hp;obtain⟨e1,e2,e3,e4,e5,e6⟩:=anp K1 24;exact L.i.n ⟨_,W⟩ L.lk.may e1 e2 e3 e4 e5 e6
structure BB(a:Nat->Nat->Nat)(K:KS)(P:CS)(K':KS)(P':CS):Prop where
 w:∃k,Wi a k K' P'
 may:∀B,P'.may B->P.may B
 c3:an K.st 3<=an K'.st 3
 nx:K'.next-4*(an K'.st 3:Nat)<=K.next-4*(an K.st 3:Nat)
 le:K.next<=K'.next
 qo:At K'.qu
 rm:AI K P->(∀B,B<12->¬P.may B)->K.next+200<=1099511627775->AI K' P'
structure CB(a:Nat->Nat->Nat)(K:KS)(P:CS)(K':KS)(P':CS):Prop where
 w:∃k,Wi a k K' P'
 may:∀B,P'.may B->P.may B
 c3:an K.st 3<=an K'.st 3
 nx:K'.next-4*(an K'.st 3:Nat)<=K.next-4*(an K.st 3:Nat)+1
 le:K.next<=K'.next
 qu:K'.qu=[]
 rm:AI K P->(∀B,B<12->¬P.may B)->K.next+200<=1099511627775->AI K' P'
theorem BB.e(I:BB a K P K1 P1)(hq:K1.qu=[]):CB a K P K1 P1:=⟨I.w,I.may,I.c3,by have:=I.nx;omega,I.le,hq,I.rm⟩
theorem BB.note(I:BB a K P K1 P1)(hq:K1.qu=[])(L:CA a K1 P1 K' P'):CB a K P K' P':=by
 have h1:=I.nx;have h2:=L.nx;have h3:=I.le;have h4:=L.le;refine⟨L.w,fun B h=>I.may B (L.may B h),Nat.le_trans I.c3 L.c3,by omega,by omega,L.qu.trans hq,fun R hm hn=>L.rm (I.rm R hm hn) ?_⟩;have:an K1.st 3<=12:=cZ _ _ _;omega
theorem BB.pop(I:BB a K P K1 P1){v:Nat}{t:List Nat}(hq:K1.qu=v::t):BB a K P (dA K1 t) P1:=by
 obtain⟨k,W⟩:=I.w;have:=I.qo;rw[hq] at this;exact⟨⟨k,W.same rfl W.hb W.cur rfl⟩,I.may,I.c3,I.nx,I.le,this.tail.2,fun R hm hn=>(I.rm R hm hn).same rfl rfl rfl (fun _ x=>x)⟩
theorem BB.vac(I:BB a K P K1 P1){v:Nat}{r:Bool}{e:Int}(V:AW a v false r K1 P1 K' P' e)(x:Nat):BB a K P K' P'/\BB a K P (mdK K' x) P':=by
 have hc:an K1.st 3<=an K'.st 3:=ix V.jc;have h1:=I.nx;have h2:=V.nx;have rm:AI K P->(∀B,B<12->¬P.may B)->K.next+200<=1099511627775->AI K' P':=fun R hm hn=>by
  have:an K1.st 3<=12:=cZ _ _ _;exact(V.room _ ((I.rm R hm hn).to (by omega)) (fun x=>by cases x) (fun _ B hB h=>hm B hB (I.may B h))).2.1.to0
 obtain⟨k,W⟩:=V.w;have T:BB a K P K' P':=⟨⟨k,W⟩,fun B h=>I.may B (V.may B h),Nat.le_trans I.c3 hc,by omega,Int.le_trans I.le V.le,by rw[V.qu];exact I.qo,rm⟩;exact⟨T,⟨⟨k,W.same rfl W.hb W.cur rfl⟩,T.may,T.c3,T.nx,T.le,T.qo,fun R hm hn=>(rm R hm hn).same rfl rfl rfl (fun _ x=>x)⟩⟩
theorem Wi.holds{k:Cp}(W:Wi a k K P)(hw:aA K.st=false){v:Nat}(hl:lv K.at_ v≠0):K.st v=2\/K.fo=true/\K.fb=v:=by
 obtain⟨o,ho,e1,e2⟩:∃o,o<25/\K.at_ o≠0/\(K.at_ o-1)/8=v:=Classical.byContradiction fun lV=>hl (fS.2 fun o ho e1 e2=>lV ⟨o,ho,e1,e2⟩);have:=W.live hw o ho e1;rw[e2] at this;exact this
end
section
variable{w w':World}{N:Cr}{K:KS}{X:Option Addr}{c:Nat}{P:CS}{b:Option Nat}{n:Int}{a:Nat->Nat->Nat}{k:Cp}
def Dr(N:Cr)(X:Option Addr)(b:Option Nat)(w w':World)(ok:KS->CS->Prop)(dead:CS->Prop):Prop :=
 Aa (N.all++aR X) w w'/\((∃K' P' b' n' Y d,(b=none->b'=none)/\On w' N K' P' b' n' Y d/\(∀x,x∈aR Y->x∈aR X\/w.heap.size<=x)/\ok K' P')\/(b≠none/\∃Q n',AU w' N.N Q n'/\dead Q))
theorem ai4(h:On w N K P b n X c)(W:Wi a k K P)(hq:At K.qu) :
  Spec Tryz.prog 61 #[.pointer (some ⟨N.k,0,none⟩)] w fun u w'=>Dr N X b w w' (fun K' P'=>u=ak 0/\CB a K P K' P') (fun Q=>u=ak 7/\Tw Q 1099511627775 a):=by
 have ck:∀x,w.heap.size<=x->x∉N.all:=fun x hx hm=>by
  have h3:x<w.heap.size:=by
   rcases List.mem_append.1 hm with hm|hm
   ·exact h.core.lt (List.mem_append_left _ hm)
   ·exact h.gT _ hm
  omega
 have ai2:∀x,w.heap.size<=x->x∉N.all++aR X:=fun x hx hm=>by
  rcases List.mem_append.1 hm with hm|hm
  ·exact ck x hx hm
  ·have:=h.core.lt (List.mem_append_right _ hm);omega
 have ue:=W.cur;refine spec_of_wpE (T:=tt) ah func61 rfl (by decide +kernel) ntmps61 (by simp) ?_;conv=>whnf
 repeat ((first|(refine Ld.of h.core.c5 ?_)|refine CW.s ?_);conv=>whnf)
 refine Ca.of (aaP h.core.pat ue) ?_;rintro _ w1 ⟨g,rfl,rg,hg,rp,k1⟩;have h1:On w1 N { ptK K with F:=K.F,qu:=K.qu } (qK K P 0) b n X c:=h.pat k1 rp;have zB:Aa (N.all++aR X) w w1:=k1.mono (fun x hx=>by rw[List.mem_singleton.1 hx];exact List.mem_append_left _ (bh (by simp[Cr.own])));conv=>whnf
 refine CW.loop (ι:=Nat×Int×(Nat->Int)×List Nat×Option Addr×Nat) (fun i w'=>i.1<=8/\On w' N { ptK K with F:=i.2.2.1,qu:=i.2.2.2.1 } (qK K P i.1) b i.2.1 i.2.2.2.2.1 i.2.2.2.2.2/\Hl.HB i.2.2.1/\At i.2.2.2.1/\Row w' g 3 8 (fun j=>.int .i64 (((K.cur+j)%96:Nat):Int))/\Aa (N.all++aR X) w w'/\(g∉aR i.2.2.2.2.1)/\∀x,x∈aR i.2.2.2.2.1->x∈aR X\/w.heap.size<=x)
  (fun i=>[(0,.pointer (some ⟨N.k,0,none⟩)),(22,.slice (some ⟨g,0,none⟩) 8 8),(23,.int .i64 8),(24,.int .i64 i.1)]) (fun i=>8-i.1) (0,n,K.F,K.qu,X,c) ah ⟨by simp,h1,W.hb,hq,rg,zB,fun hm=>ai2 g hg (List.mem_append_right _ hm),fun x hx=>.inl hx⟩ ⟨rfl,rfl,rfl,rfl,trivial⟩ ?_;clear h1 rg rp k1 zB;rintro⟨i,n1,F1,q1,X1,c1⟩ wr ⟨hi,hr,hB,hQ,rg,kk,vj,vP⟩;simp only at hi hr hB hQ rg kk vj vP ⊢;by_cases av:i<8
 ·have bG:=uM K P i;have hp:(K.cur+i)%96<96:=Nat.mod_lt _ (by omega);have how:K.ow ((K.cur+i)%96)<=25:=W.fh.mw.lo _ hp;have ci:=rg.cell i av;have aqV:∀x,wr.heap.size<=x->x∉N.all++aR X1:=fun x hx hm=>by
   have s1:=kk.size;rcases List.mem_append.1 hm with hm|hm
   ·exact ck x (by omega) hm
   ·have:=hr.core.lt (List.mem_append_right _ hm);omega
  conv=>whnf
  repeat ((first|(refine Ld.at (by omega) ci ?_)|refine Ix.n ?_|refine Br.y ?_|refine CW.s ?_);conv=>whnf)
  refine Ca.of (jY hr hB hp) ?_;rintro _ w3 ⟨R,dv,hR,ji,rfl,h3,k3⟩;have rg3:=rg.ab k3 (ck g hg);have bK:=kk.trans (k3.mono (fun x hx=>List.mem_append_left _ hx));conv=>whnf
  refine Ru.aF (cv w3) ?_;intro x9 w4 hx9 ru r9 k4;conv=>whnf
  refine Ru.eS r9 (iU R ji _) ?_;intro w5 rI k5;have q5:Aa [] w3 w5:=k4.then k5 (fun x hx=>.inr (by rw[List.mem_singleton.1 hx,hx9];exact Nat.le_refl _));have h5:=h3.aj q5;have rg5:=rg3.ab q5 (by simp);have dE:=bK.trans (q5.mono (by simp));clear k4 k5 q5 h3 rg3 r9 ru w4;conv=>whnf
  repeat ((first|refine Br.f ?_|refine Ru.ai ?_|refine CW.s ?_);conv=>whnf)
  refine Ru.ei rI ?_
  refine Ca.of (aeg h5 hp how (hB.rd (by omega)) hQ (fun h0=>by
   have h0:K.ow ((K.cur+i)%96)≠0:=h0;obtain⟨y1,y2⟩:=W.fh.o _ hp h0;obtain⟨_,t,D,e1,_⟩:=W.cM (o:=K.ow ((K.cur+i)%96)-1) (by omega) (by omega);rw[y2,Nat.add_sub_cancel] at e1;unfold Az at hR;rw[bG.1,e1] at hR;exact hR.2.2.1)) ?_
  rintro _ w6 ⟨rfl,F6,q6,Y6,d6,n6,h6,hB6,hQ6,k6,hY6⟩;have s5:wr.heap.size<=w5.heap.size:=by
   have:=k3.size;have:=(Aa.refl [] w5).size;have h35:w3.heap.size<=w5.heap.size:=by
    rw[<-hx9];have:=rI.lt;omega
   omega
  have hXX:∀x,x∈N.all++aR X1->x∈N.all++aR X\/w.heap.size<=x:=fun x hx=>by
   rcases List.mem_append.1 hx with hx|hx
   ·exact .inl (List.mem_append_left _ hx)
   ·rcases vP x hx with e|e
    ·exact .inl (List.mem_append_right _ e)
    ·exact .inr e
  have rg6:=rg5.ab k6 (fun hm=>by
   rcases List.mem_append.1 hm with hm|hm
   ·exact ck g hg hm
   ·exact vj hm)
  have qm:=rg.lt;conv=>whnf
  repeat (refine Ar.la ?_;conv=>whnf)
  exact⟨(i+1,n6,F6,q6,Y6,d6),⟨av,h6,hB6,hQ6,rg6,dE.then k6 hXX,fun hm=>by
   rcases hY6 g hm with e|e
   ·exact vj e
   ·omega,fun x hx=>by
   rcases hY6 x hx with e|e
   ·exact vP x e
   ·exact .inr (by have:=kk.size;omega)⟩,⟨rfl,rfl,rfl,vi (by simp only;omega),trivial⟩,by simp only;omega⟩
 obtain rfl:i=8:=by omega
 have bG:=uM K P 8;have tdm:∀i B,(qK K P i).may B->P.may B:=fun i B hm=>by
  induction i with
  |zero=>exact hm
  |succ i ih=>exact ih hm
 have I8:∀q,At q->BB a K P { ptK K with F:=F1,qu:=q } (qK K P 8):=fun q hq=>⟨⟨k,W.same bG.1 hB (Nat.mod_lt _ (by omega)) rfl⟩,tdm 8,Nat.le_refl _,Int.le_refl _,Int.le_refl _,hq,fun R _ _=>R.same rfl rfl rfl (tdm 8)⟩
 conv=>whnf
 repeat ((first|(refine Ld.of hr.core.c2 ?_)|refine Br.f ?_|refine CW.s ?_);conv=>whnf)
 refine Ca.of (fc hr.core.map (fun o ho=>W.lt ho)) ?_;rintro _ w2 ⟨g2,rfl,rg2,hg2,k2⟩;have h2:=hr.aj k2;have dJ:Aa (N.all++aR X) w w2:=kk.trans (k2.mono (by simp));have aim:w.heap.size<=g2:=Nat.le_trans kk.size hg2;have ain:g2∉aR X1:=fun hm=>by
  have:=hr.core.lt (List.mem_append_right _ hm);omega
 clear hr rg kk k2 vj;generalize qK K P 8=P8 at *;conv=>whnf
 refine CW.loop (ι:=Nat×List Nat×Option Addr×Nat) (fun i w'=>i.1<=12/\On w' N { ptK K with F:=F1,qu:=i.2.1 } P8 b n1 i.2.2.1 i.2.2.2/\At i.2.1/\Row w' g2 3 12 (fun b=>.int .i64 (lv K.at_ b:Nat))/\Aa (N.all++aR X) w w'/\g2∉aR i.2.2.1/\∀x,x∈aR i.2.2.1->x∈aR X\/w.heap.size<=x)
  (fun i=>[(0,.pointer (some ⟨N.k,0,none⟩)),(46,.slice (some ⟨g2,0,none⟩) 12 12),(47,.int .i64 12),(48,.int .i64 i.1)]) (fun i=>12-i.1) (0,q1,X1,c1) ah ⟨by simp,h2,hQ,rg2,dJ,ain,vP⟩ ⟨rfl,rfl,rfl,rfl,trivial⟩ ?_;clear h2 rg2 dJ vP ain hQ;rintro⟨i,q2,X2,c2⟩ wr ⟨hi,hr,hQ,rg,kk,vj,vP⟩;simp only at hi hr hQ rg kk vj vP ⊢;by_cases av:i<12
 ·have ci:=rg.cell i av;have vu:=hr.uN;conv=>whnf
  repeat ((first|(refine Ld.at (by omega) ci ?_)|(refine Ld.of hr.core.c4 ?_)|refine Ix.n ?_|refine Br.y ?_|refine CW.s ?_);conv=>whnf)
  refine Ca.of (Hl.aaL wr N.e _ hr.core.aL i av) ?_;rintro _ _ ⟨rfl,rfl⟩;by_cases h1:F1 i≥512
  ·have nr:decide (({ ptK K with F:=F1,qu:=q2 }:KS).F i≥512)=true:=decide_eq_true h1;rw[nr];by_cases h2:0<lv K.at_ i
   ·conv=>whnf
    repeat ((first|refine Br.t ?_|refine Pk.t ?_|refine Br.y ?_);conv=>whnf)
    refine Ca.of (y6 vu (by omega) (by decide) hQ.len i av) ?_;rintro _ w3 ⟨rfl,xu⟩;obtain⟨Y,d,h3,k3,hY⟩:=hr.queue xu;have rg3:=rg.ab k3 (fun hm=>by
     rcases List.mem_cons.1 hm with e|hm
     ·exact ck g2 aim (bh (by simp[Cr.own,e]))
     ·exact vj hm)
    have qm:=rg.lt;conv=>whnf
    repeat (refine Ar.la ?_;conv=>whnf)
    refine⟨(i+1,rZ q2 i,Y,d),⟨av,h3,hQ.add av,rg3,?_,fun hm=>by rcases hY g2 hm with h|h;exact vj h;omega,?_⟩,⟨rfl,rfl,rfl,vi (by simp only;omega),trivial⟩,by simp only;omega⟩
    ·exact kk.then k3 (fun x hx=>by
      rcases List.mem_cons.1 hx with rfl|hx
      ·exact .inl (List.mem_append_left _ (bh (by simp[Cr.own])))
      ·rcases vP x hx with h|h
       ·exact .inl (List.mem_append_right _ h)
       ·exact .inr h)
    ·intro x hx;rcases hY x hx with h|h
     ·exact vP x h
     ·exact .inr (Nat.le_trans kk.size h)
   ·conv=>whnf
    repeat ((first|refine Br.t ?_|refine Pk.t ?_|refine Ar.la ?_|refine Br.n ?_);conv=>whnf)
    exact⟨(i+1,q2,X2,c2),⟨av,hr,hQ,rg,kk,vj,vP⟩,⟨rfl,rfl,rfl,vi (by simp only;omega),trivial⟩,by simp only;omega⟩
  ·have nr:decide (({ ptK K with F:=F1,qu:=q2 }:KS).F i≥512)=false:=decide_eq_false h1;rw[nr];conv=>whnf
   repeat ((first|refine Br.f ?_|refine Pk.f ?_|refine Ar.la ?_);conv=>whnf)
   exact⟨(i+1,q2,X2,c2),⟨av,hr,hQ,rg,kk,vj,vP⟩,⟨rfl,rfl,rfl,vi (by simp only;omega),trivial⟩,by simp only;omega⟩
 obtain rfl:i=12:=by omega
 have IQ:=I8 q2 hQ;clear rg vj aim hg2 hi av I8 hQ tdm bG;generalize hKq:({ ptK K with F:=F1,qu:=q2 }:KS)=Kq at *;clear hKq;conv=>whnf
 repeat ((first|refine Br.f ?_|refine CW.s ?_);conv=>whnf)
 refine CW.loop (ι:=KS×CS×Option Nat×Option Addr×Nat×Int) (fun i w'=>(b=none->i.2.2.1=none)/\BB a K P i.1 i.2.1/\On w' N i.1 i.2.1 i.2.2.1 i.2.2.2.2.2 i.2.2.2.1 i.2.2.2.2.1/\Aa (N.all++aR X) w w'/\∀x,x∈aR i.2.2.2.1->x∈aR X\/w.heap.size<=x)
  (fun _=>[(0,.pointer (some ⟨N.k,0,none⟩))]) (fun i=>i.1.qu.length) (Kq,P8,b,X2,c2,n1) ah ⟨id,IQ,hr,kk,vP⟩ ⟨rfl,trivial⟩ ?_;clear hr kk vP IQ;rintro⟨K1,P1,b1,X3,c3,n2⟩ wr ⟨eQ,I,hr,kk,hX⟩;simp only at eQ I hr kk hX ⊢;obtain⟨k1,W1⟩:=I.w;have vu:=hr.uN;have hQo:=I.qo
 cases qL:K1.qu with
 | nil =>
  rw[qL] at vu;conv=>whnf
  refine Ca.of (uk vu (by omega)) ?_;rintro _ _ ⟨rfl,rfl⟩;conv=>whnf
  repeat ((first|(refine Ld.of hr.core.c1 ?_)|refine Br.t ?_|refine CW.s ?_);conv=>whnf)
  refine Ca.of (eM hr.core.aY) ?_;rintro _ _ ⟨rfl,rfl⟩;by_cases hw:aA K1.st=true
  ·rw[hw];conv=>whnf
   repeat ((first|refine Br.t ?_|refine Pk.t ?_);conv=>whnf)
   exact⟨rfl,kk,.inl ⟨K1,P1,b1,n2,X3,c3,eQ,hr,hX,rfl,I.e qL⟩⟩
  have hw:aA K1.st=false:=by simpa using hw
  rw[hw];conv=>whnf
  repeat ((first|(refine Ld.of hr.core.c5 ?_)|refine Br.f ?_);conv=>whnf)
  refine Ca.of (adR hr.core.pat) ?_;rintro _ _ ⟨rfl,rfl⟩;have h3:K1.calls≥8\/(¬K1.calls≥8/\Hl.kU K1.F=true)\/(¬K1.calls≥8/\Hl.kU K1.F=false):=by
   by_cases h8:K1.calls≥8
   ·exact .inl h8
   ·cases hd:Hl.kU K1.F
    ·exact .inr (.inr ⟨h8,rfl⟩)
    ·exact .inr (.inl ⟨h8,rfl⟩)
  rcases h3 with h8|⟨h8,hd⟩|⟨h8,hd⟩
  case' inl =>
   rw[decide_eq_true h8];conv=>whnf
   repeat ((first|refine Br.f ?_|refine Pk.f ?_|refine CW.s ?_);conv=>whnf)
  case' inr.inl =>
   rw[decide_eq_false h8];conv=>whnf
   repeat ((first|(refine Ld.of hr.core.c4 ?_)|refine Br.t ?_|refine Br.f ?_);conv=>whnf)
   refine Ca.of (Hl.yZ _ _ _ hr.core.aL W1.hb) ?_;rintro _ _ ⟨rfl,rfl⟩;rw[hd];conv=>whnf
   repeat ((first|refine Br.t ?_|refine Br.f ?_|refine Pk.f ?_|refine Pk.t ?_|refine CW.s ?_);conv=>whnf)
  case' inr.inr =>
   rw[decide_eq_false h8];conv=>whnf
   repeat ((first|(refine Ld.of hr.core.c4 ?_)|refine Br.t ?_|refine Br.f ?_);conv=>whnf)
   refine Ca.of (Hl.yZ _ _ _ hr.core.aL W1.hb) ?_;rintro _ _ ⟨rfl,rfl⟩;rw[hd];conv=>whnf
   repeat ((first|refine Br.t ?_|refine Br.f ?_|refine Pk.f ?_|refine Pk.t ?_);conv=>whnf)
   exact⟨rfl,kk,.inl ⟨K1,P1,b1,n2,X3,c3,eQ,hr,hX,rfl,I.e qL⟩⟩
  all_goals
   refine Ca.of (abo hr W1) ?_;rintro _ w3 ⟨k3,⟨K3,P3,b3,n3,p9,h3,⟨rfl,K4,P4,L⟩|⟨rfl,E⟩⟩|⟨p9,Q,n3,h3,rfl,nF⟩⟩
   all_goals have bK:=kk.trans (k3.mono (fun x hx=>List.mem_append_left _ hx))
   ·conv=>whnf
    refine Ca.of (aW 0 7 (by decide) _) ?_;rintro _ _ ⟨rfl,rfl⟩;conv=>whnf
    repeat (refine Br.f ?_;conv=>whnf)
    exact⟨rfl,bK,.inl ⟨K3,P3,b3,n3,X3,c3,fun x=>p9 (eQ x),h3,hX,rfl,I.note qL L.uX⟩⟩
   ·conv=>whnf
    refine Ca.of (aW 14 7 (by decide) _) ?_;rintro _ _ ⟨rfl,rfl⟩;conv=>whnf
    repeat (refine Br.f ?_;conv=>whnf)
    exact⟨rfl,bK,.inl ⟨K3,P3,b3,n3,X3,c3,fun x=>p9 (eQ x),h3,hX,rfl,I.note qL E.n⟩⟩
   ·conv=>whnf
    refine Ca.of (aW 7 7 (by decide) _) ?_;rintro _ _ ⟨rfl,rfl⟩;conv=>whnf
    repeat (refine Br.t ?_;conv=>whnf)
    exact⟨rfl,bK,.inr ⟨fun x=>p9 (eQ x),Q,n3,h3,rfl,nF⟩⟩
 | cons v t =>
  have I2:=I.pop qL;rw[qL] at vu hQo;obtain⟨hv,hQt⟩:=hQo.tail;conv=>whnf
  refine Ca.of (um vu (by omega) (by decide) hQt.len) ?_;rintro _ w3 ⟨rfl,xu⟩;have xu:Bk wr N.k 143 110 6 (cj N K1 X3 c3) X3 t w3:=xu;obtain⟨Y,d,h3,k3,hY⟩:=hr.queue xu;have bK:=kk.then k3 (fun x hx=>by
   rcases List.mem_cons.1 hx with rfl|hx
   ·exact .inl (List.mem_append_left _ (bh (by simp[Cr.own])))
   ·rcases hX x hx with h|h
    ·exact .inl (List.mem_append_right _ h)
    ·exact .inr h)
  have hY3:∀x,x∈aR Y->x∈aR X\/w.heap.size<=x:=fun x hx=>by
   rcases hY x hx with h|h
   ·exact hX x h
   ·exact .inr (Nat.le_trans kk.size h)
  clear kk hX xu vu hY k3;conv=>whnf
  repeat ((first|(refine Ld.of h3.core.c2 ?_)|refine Br.f ?_|refine CW.s ?_);conv=>whnf)
  refine Ca.of (fc h3.core.map (fun o ho=>W1.lt ho)) ?_;rintro _ w4 ⟨g4,rfl,rg4,hg4,k4⟩;have h4:On w4 N (dA K1 t) P1 b1 n2 Y d:=h3.aj k4;have bT:=bK.trans (k4.mono (by simp));have c4:w4.cell? ⟨g4,v,none⟩=some (.int .i64 (lv K1.at_ v:Nat)):=rg4.cell v hv;by_cases wP:lv K1.at_ v=0
  ·rw[wP] at c4;conv=>whnf
   repeat ((first|(refine Ld.at (by omega) c4 ?_)|refine Br.t ?_|refine Pk.t ?_|refine Ix.n ?_|refine CW.s ?_);conv=>whnf)
   exact⟨(dA K1 t,P1,b1,Y,d,n2),⟨eQ,I2,h4,bT,hY3⟩,⟨rfl,trivial⟩,by simp only[dA,qL,List.length_cons];omega⟩
  conv=>whnf
  repeat ((first|(refine Ld.at (by omega) c4 ?_)|(refine Br.bF (decide_eq_false (by omega)) ?_)|(refine Ld.of h4.core.c1 ?_)|refine Br.f ?_|refine Ix.n ?_|refine CW.s ?_);conv=>whnf)
  refine Ca.of (eM h4.core.aY) ?_;rintro _ _ ⟨rfl,rfl⟩;by_cases hw:aA K1.st=true
  ·have hw1:aA (dA K1 t).st=true:=hw;rw[hw1];conv=>whnf
   repeat ((first|refine Br.t ?_|refine Pk.f ?_);conv=>whnf)
   exact⟨(dA K1 t,P1,b1,Y,d,n2),⟨eQ,I2,h4,bT,hY3⟩,⟨rfl,trivial⟩,by simp only[dA,qL,List.length_cons];omega⟩
  have hw:aA K1.st=false:=by simpa using hw
  have hw1:aA (dA K1 t).st=false:=hw;rw[hw1];conv=>whnf
  repeat ((first|(refine Ld.of h4.core.c4 ?_)|refine Br.f ?_|refine Pk.f ?_);conv=>whnf)
  refine Ca.of (Hl.adJ _ _ _ h4.core.aL v hv) ?_;rintro _ _ ⟨rfl,rfl⟩;obtain⟨k2',W2⟩:=I2.w;conv=>whnf
  refine Ca.of (zo h4 W2 hv (W2.holds hw wP) false _) ?_;rintro u w5 ⟨k5,⟨K5,P5,b5,n5,hb5,h5,e5,rfl,V⟩|⟨hb5,Q,n5,h5,rfl,nF⟩⟩
  ·have dE:=bT.trans (k5.mono (fun x hx=>List.mem_append_left _ hx));obtain⟨T1,T2⟩:=I2.vac V (lv K1.at_ v);have p7:K5.qu=t:=V.qu;rcases V.er with rfl|rfl
   ·conv=>whnf
    repeat (refine CW.s ?_;conv=>whnf)
    refine Ca.of (aW 0 7 (by decide) _) ?_;rintro _ _ ⟨rfl,rfl⟩;have am9:w5.cell? ⟨N.k,107,none⟩=some (.int .i64 K5.fq):=h5.core.row.cell 107 (by omega);conv=>whnf
    repeat ((first|(refine Ld.at (by omega) am9 ?_)|(refine Ar.s9 ?_)|refine Br.t ?_|refine Br.f ?_|refine Ru.au ?_);conv=>whnf)
    refine Sd.rowAt h5.core.row 107 (by omega) (by omega) rfl ?_;intro w6 r6 k6;have aio:w6.cell? ⟨N.k,108,none⟩=some (.int .i64 K5.jX):=r6.cell 108 (by omega);conv=>whnf
    repeat ((first|(refine Ld.at (by omega) aio ?_)|(refine Ar.s9 ?_));conv=>whnf)
    refine Sd.rowAt r6 108 (by omega) (by omega) rfl ?_;intro w7 r7 k7;have h7:=h5.row (K':=mdK K5 (lv K1.at_ v)) (k6.trans k7) r7 (fun j hj=>aa4 _ _ j hj) rfl;conv=>whnf
    refine⟨(mdK K5 (lv K1.at_ v),P5,b5,Y,d,n5),⟨fun x=>hb5 (eQ x),T2,h7,dE.trans ((k6.trans k7).mono (fun x hx=>by rw[List.mem_singleton.1 hx];exact List.mem_append_left _ (bh (by simp[Cr.own])))),hY3⟩,⟨rfl,trivial⟩,?_⟩;show K5.qu.length<K1.qu.length;rw[p7,qL];simp
   ·conv=>whnf
    repeat (refine CW.s ?_;conv=>whnf)
    refine Ca.of (aW 14 7 (by decide) _) ?_;rintro _ _ ⟨rfl,rfl⟩;conv=>whnf
    repeat ((first|refine Br.f ?_|refine Ru.e1 ?_);conv=>whnf)
    refine⟨(K5,P5,b5,Y,d,n5),⟨fun x=>hb5 (eQ x),T1,h5,dE,hY3⟩,⟨rfl,trivial⟩,?_⟩;show K5.qu.length<K1.qu.length;rw[p7,qL];simp
  ·have dE:=bT.trans (k5.mono (fun x hx=>List.mem_append_left _ hx));conv=>whnf
   repeat (refine CW.s ?_;conv=>whnf)
   refine Ca.of (aW 7 7 (by decide) _) ?_;rintro _ _ ⟨rfl,rfl⟩;conv=>whnf
   repeat (refine Br.t ?_;conv=>whnf)
   exact⟨rfl,dE,.inr ⟨fun x=>hb5 (eQ x),Q,n5,h5,rfl,nF⟩⟩
end
structure A1(a:Nat->Nat->Nat)(K:KS)(P:CS)(K':KS)(P':CS):Prop where
 w:∃k,Wi a k K' P'
 may:∀B,P'.may B->P.may B
 c3:an K.st 3<=an K'.st 3
 nx:K'.next-4*(an K'.st 3:Nat)<=K.next-4*(an K.st 3:Nat)+2
 le:K.next<=K'.next
 rm:AI K P->(∀B,B<12->¬P.may B)->K.next+300<=1099511627775->AI K' P'
theorem CA.call{a:Nat->Nat->Nat}{K K1 K':KS}{P P1 P':CS}(L:CA a K P K1 P1)(T:CB a K1 P1 K' P'):A1 a K P K' P':=by
 have h1:=L.nx;have h2:=T.nx;have h3:=L.le;have h4:=T.le;refine⟨T.w,fun B h=>L.may B (T.may B h),Nat.le_trans L.c3 T.c3,by omega,by omega,fun R hm hn=>T.rm (L.rm R (by omega)) (fun B hB h=>hm B hB (L.may B h)) ?_⟩;have:an K1.st 3<=12:=cZ _ _ _;omega
theorem ac0{a:Nat->Nat->Nat}{k:Cp}{K:KS}{P P':CS}(W:Wi a k K P)(bG:P'.pg=P.pg)(hm:∀B,P'.may B->P.may B){F:Nat->Int}(hF:Hl.HB F)(q:List Nat):Wi a k { K with F:=F,qu:=q } P'/\(∀K' Ds,CB a { K with F:=F,qu:=q } P' K' Ds->A1 a K P K' Ds):=by
 have W':Wi a k { K with F:=F,qu:=q } P':=W.same bG hF W.cur rfl;refine⟨W',fun K' Ds T=>?_⟩;have h2:=T.nx;exact⟨T.w,fun B h=>hm B (T.may B h),T.c3,by have h2:K'.next-4*(an K'.st 3:Nat)<=K.next-4*(an K.st 3:Nat)+1:=h2;omega,T.le,fun R hmm hn=>T.rm (R.same rfl rfl rfl hm) (fun B hB h=>hmm B hB (hm B h)) (by show K.next+200<=_;omega)⟩
def Au(own:List Nat)(d ch:Nat)(b:Option Nat)(w w':World)(ok:KS->CS->Prop)(dead:CS->Prop):Prop :=
 Aa own w w'/\((∃K' P' b' bP,(b=none->b'=none)/\Af w' bP d ch K' P' b'/\(∀x,x∈bP->x∈own\/w.heap.size<=x)/\ok K' P')\/(b≠none/\∃Q,Be w' d ch Q/\dead Q))
theorem Au.mono{own:List Nat}{d ch:Nat}{b:Option Nat}{w w':World}{ok ok':KS->CS->Prop}{dead aaA:CS->Prop}(h:Au own d ch b w w' ok dead)(h1:∀K P,ok K P->ok' K P)(h2:∀Q,dead Q->aaA Q):Au own d ch b w w' ok' aaA:=by
 obtain⟨k,⟨K',P',b',bP,a1,a2,a3,a4⟩|⟨a1,Q,a2,a3⟩⟩:=h
 ·exact⟨k,.inl ⟨K',P',b',bP,a1,a2,a3,h1 _ _ a4⟩⟩
 ·exact⟨k,.inr ⟨a1,Q,a2,h2 _ a3⟩⟩
section
variable{w w':World}{N:Cr}{K:KS}{X Y:Option Addr}{c d ch:Nat}{P:CS}{b:Option Nat}{n:Int}{a:Nat->Nat->Nat}{k:Cp}
theorem gF{e:Int}(he:e=0\/e=14)(r:Ak w d ch (some ⟨N.k,0,none⟩))(h:On w N K P b n X c)(eC:N.N.c=ch)(W:Wi a k K P)(hq:At K.qu) :
  Spec Tryz.prog 43 #[.pointer (some ⟨d,0,none⟩),ak e] w fun v w'=>Au (d::(N.all++aR X)) d ch b w w' (fun K' P'=>v=ak e/\CB a K P K' P') (fun Q=>v=ak 7/\Tw Q 1099511627775 a):=by
 have ct:=r.ne h;have c1:w.cell? ⟨d,1,none⟩=some (.pointer (some ⟨N.k,0,none⟩)):=Row.cell r 1 (by omega);rcases he with rfl|rfl
 all_goals
  refine spec_of_wpE (T:=tt) ah func43 rfl (by decide +kernel) ntmps43 (by simp) ?_;conv=>whnf
  repeat (refine CW.s ?_;conv=>whnf)
  refine Ca.of (aW _ 7 (by decide) _) ?_;rintro _ _ ⟨rfl,rfl⟩;conv=>whnf
  repeat ((first|(refine Ld.of c1 ?_)|refine Br.t ?_);conv=>whnf)
  refine Ca.of (ai4 h W hq) ?_;rintro _ w1 ⟨k1,⟨K1,P1,b1,n1,Y,e,nr,h1,hY,rfl,T⟩|⟨nr,Q,n1,M1,rfl,nF⟩⟩
  all_goals
   have r1:Ak w1 d ch (some ⟨N.k,0,none⟩):=Row.ab r k1 ct;have kk:Aa (d::(N.all++aR X)) w w1:=k1.mono (fun x hx=>List.mem_cons_of_mem _ hx)
  ·conv=>whnf
   repeat ((first|refine Br.f ?_|refine Ru.ai ?_|refine CW.s ?_);conv=>whnf)
   refine Ca.of (aW _ 7 (by decide) _) ?_;rintro _ _ ⟨rfl,rfl⟩;conv=>whnf
   repeat (refine Br.f ?_;conv=>whnf)
   refine⟨rfl,kk,.inl ⟨K1,P1,b1,_,nr,⟨N,Y,e,n1,rfl,r1,h1,eC,T.qu⟩,fun x hx=>?_,rfl,T⟩⟩;rcases List.mem_cons.1 hx with rfl|hx
   ·exact .inl (List.mem_cons_self ..)
   ·rcases List.mem_append.1 hx with hx|hx
    ·exact .inl (List.mem_cons_of_mem _ (List.mem_append_left _ hx))
    ·rcases hY x hx with h|h
     ·exact .inl (List.mem_cons_of_mem _ (List.mem_append_right _ h))
     ·exact .inr h
  ·conv=>whnf
   repeat ((first|refine Br.t ?_|refine Ru.n1 ?_|refine CW.s ?_);conv=>whnf)
   refine Ca.of (aW 7 7 (by decide) _) ?_;rintro _ _ ⟨rfl,rfl⟩;conv=>whnf
   repeat (refine Br.t ?_;conv=>whnf)
   refine Sd.rowAt r1 1 (by omega) (by omega) rfl ?_;intro w2 r2 k2;have r2:Ak w2 d ch none:=r2.congr (fun j hj=>pR ch _ _ j hj);conv=>whnf
   obtain⟨C1,M1,D1⟩:=M1;have hcd:N.N.c∉[d]:=fun hm=>ct (by
    rw[<-List.mem_singleton.1 hm];exact List.mem_append_left _ (iV (by simp[Pt.l])))
   exact⟨rfl,kk.trans (k2.mono (fun x hx=>by rw[List.mem_singleton.1 hx];exact List.mem_cons_self ..)),.inr ⟨nr,Q,⟨r2,C1,by rw[<-eC];exact M1.dz.ab k2 hcd,D1⟩,rfl,nF⟩⟩
theorem Au.first{w1:World}{ac1 own:List Nat}{b1:Option Nat}{ok:KS->CS->Prop}{dead:CS->Prop}(h:Au ac1 d ch b1 w1 w' ok dead)(k:Aa own w w1)(hb:b=none->b1=none)(ho:∀x,x∈ac1->x∈own\/w.heap.size<=x):Au own d ch b w w' ok dead:=by
 obtain⟨k2,h⟩:=h;refine⟨k.then k2 ho,?_⟩;rcases h with⟨K',P',b',bP,a1,a2,a3,a4⟩|⟨a1,Q,a2,a3⟩
 ·refine .inl ⟨K',P',b',bP,fun x=>a1 (hb x),a2,fun x hx=>?_,a4⟩;rcases a3 x hx with e|e
  ·exact ho x e
  ·exact .inr (Nat.le_trans k.size e)
 ·exact .inr ⟨fun x=>a1 (hb x),Q,a2,a3⟩
def CC(a a':Nat->Nat->Nat)(K:KS)(P:CS)(own:List Nat)(d ch:Nat)(b:Option Nat)(w:World)(v:Value)(w':World):Prop :=
 Au own d ch b w w' (fun K' P'=>(v=ak 0/\A1 a' K P K' P')\/(v=ak 14/\A1 a K P K' P'/\(AI K P->K.next+120<=1099511627775->False))) (fun Q=>v=ak 7/\(Tw Q 1099511627775 a\/Tw Q 1099511627775 a'))
theorem ac2{own:List Nat}(D:Af w own d ch K P b)(W:Wi a k K P){s e:Nat}(hs:s<24){A:Option Addr}{f:Nat->Nat}(hf:∀j,f j<256)(hA:AH w A 160 f)(he:160<=e) :
  Spec Tryz.prog 45 #[.pointer (some ⟨d,0,none⟩),.int .i64 s,.slice A 160 e] w fun v w'=>CC a (gU a s f) K P own d ch b w v w':=by
 obtain⟨N,X,c,n,rfl,r,h,eC,p7⟩:=D;have c1:w.cell? ⟨d,1,none⟩=some (.pointer (some ⟨N.k,0,none⟩)):=Row.cell r 1 (by omega);have ct:=r.ne h;refine spec_of_wpE (T:=tt) ah func45 rfl (by decide +kernel) ntmps45 (by simp) ?_;conv=>whnf
 repeat ((first|(refine Ld.of c1 ?_)|refine CW.s ?_);conv=>whnf)
 refine Ru.of (dU w _ _) ?_;conv=>whnf
 repeat (refine Br.f ?_;conv=>whnf)
 refine Ca.of (jC s hs w) ?_;rintro _ _ ⟨rfl,rfl⟩;conv=>whnf
 repeat ((first|(refine Ld.of c1 ?_)|refine Br.f ?_|refine Pk.f ?_);conv=>whnf)
 refine Ca.of (ala h W hs hf hA he) ?_;rintro u w1 ⟨k1,hu⟩;have r1:Ak w1 d ch (some ⟨N.k,0,none⟩):=Row.ab r k1 (fun hm=>ct (List.mem_append_left _ hm));have zB:Aa (d::(N.all++aR X)) w w1:=k1.mono (fun x hx=>List.mem_cons_of_mem _ (List.mem_append_left _ hx));rcases hu with⟨K1,P1,b1,n1,nr,h1,⟨rfl,K2,P2,L⟩|⟨rfl,E⟩⟩|⟨nr,Q,n1,M1,rfl,nF⟩
 ·have LN:=L.put hs hf;obtain⟨k1',W1⟩:=LN.w;conv=>whnf
  refine Ca.of (gF (.inl rfl) r1 h1 eC W1 (by rw[LN.qu,p7];exact At.nil)) ?_;rintro v w2 hv;conv=>whnf
  exact⟨rfl,(hv.first zB nr (fun x hx=>.inl hx)).mono (fun _ _ ⟨e1,T⟩=>.inl ⟨e1,LN.call T⟩) (fun _ ⟨e1,t⟩=>⟨e1,.inr t⟩)⟩
 ·have LN:=E.n;obtain⟨k1',W1⟩:=LN.w;conv=>whnf
  refine Ca.of (gF (.inr rfl) r1 h1 eC W1 (by rw[LN.qu,p7];exact At.nil)) ?_;rintro v w2 hv;conv=>whnf
  exact⟨rfl,(hv.first zB nr (fun x hx=>.inl hx)).mono (fun _ _ ⟨e1,T⟩=>.inr ⟨e1,LN.call T,E.rm⟩) (fun _ ⟨e1,t⟩=>⟨e1,.inl t⟩)⟩
 ·conv=>whnf
  refine Ca.of (qO r1 M1 eC) ?_;rintro v w2 ⟨rfl,a1,k2⟩;conv=>whnf
  exact⟨rfl,zB.trans (k2.mono (fun x hx=>by rw[List.mem_singleton.1 hx];exact List.mem_cons_self ..)),.inr ⟨nr,Q,a1,rfl,.inl nF⟩⟩
theorem afG{own:List Nat}(D:Af w own d ch K P b)(W:Wi a k K P){s:Nat}(hs:s<24) :
  Spec Tryz.prog 17 #[.pointer (some ⟨d,0,none⟩),.int .i64 s] w fun v w'=>CC a (gU a s (fun _=>0)) K P own d ch b w v w':=by
 obtain⟨N,X,c,n,rfl,r,h,eC,p7⟩:=D;have c1:w.cell? ⟨d,1,none⟩=some (.pointer (some ⟨N.k,0,none⟩)):=Row.cell r 1 (by omega);have ct:=r.ne h;by_cases h0:K.at_ s=0
 ·have Wz:Wi (gU a s (fun _=>0)) k K P:=by
   refine⟨W.mt,fun o j ho hj=>?_,W.en,W.fl,W.nx,W.fh,W.hb,W.cur,W.st,W.pn,W.fb,W.fi,W.bl,W.f1,W.fr,W.bad,W.live⟩;unfold gU;by_cases jh:o=s
   ·rw[if_pos jh,jh];unfold arr;rw[if_pos h0]
   ·rw[if_neg jh];exact W.sh o j ho hj
  refine spec_of_wpE (T:=tt) ah func17 rfl (by decide +kernel) ntmps17 (by simp) ?_;conv=>whnf
  repeat ((first|(refine Ld.of c1 ?_)|refine CW.s ?_);conv=>whnf)
  refine Ru.of (dU w _ _) ?_;conv=>whnf
  repeat (refine Br.f ?_;conv=>whnf)
  refine Ca.of (jC s hs w) ?_;rintro _ _ ⟨rfl,rfl⟩;conv=>whnf
  repeat ((first|(refine Ld.of c1 ?_)|refine Br.f ?_);conv=>whnf)
  refine Ca.of (xv h hs h0) ?_;rintro u w1 ⟨k1,hu⟩;have r1:Ak w1 d ch (some ⟨N.k,0,none⟩):=Row.ab r k1 (fun hm=>ct (List.mem_append_left _ hm));have zB:Aa (d::(N.all++aR X)) w w1:=k1.mono (fun x hx=>List.mem_cons_of_mem _ (List.mem_append_left _ hx));rcases hu.two with⟨b1,nr,rfl,n1,h1⟩|⟨_,Q,hQ,_⟩
  case inr=>cases hQ
  conv=>whnf
  refine Ca.of (gF (.inl rfl) r1 h1 eC Wz (by rw[p7];exact At.nil)) ?_;rintro v w2 hv;conv=>whnf
  refine⟨rfl,(hv.first zB nr (fun x hx=>.inl hx)).mono (fun K' P' ⟨e1,T⟩=>.inl ⟨e1,?_⟩) (fun _ ⟨e1,t⟩=>⟨e1,.inr t⟩)⟩;have T:CB (gU a s (fun _=>0)) { K with F:=K.F,qu:=K.qu } P K' P':=T;exact(ac0 Wz rfl (fun _ x=>x) W.hb K.qu).2 _ _ T
 refine spec_of_wpE (T:=tt) ah func17 rfl (by decide +kernel) ntmps17 (by simp) ?_;conv=>whnf
 repeat ((first|(refine Ld.of c1 ?_)|refine CW.s ?_);conv=>whnf)
 refine Ru.of (dU w _ _) ?_;conv=>whnf
 repeat (refine Br.f ?_;conv=>whnf)
 refine Ca.of (jC s hs w) ?_;rintro _ _ ⟨rfl,rfl⟩;conv=>whnf
 repeat ((first|(refine Ld.of c1 ?_)|refine Br.f ?_);conv=>whnf)
 refine Ca.of (ai0 h W hs h0) ?_;rintro u w1 ⟨k1,hu⟩;have r1:Ak w1 d ch (some ⟨N.k,0,none⟩):=Row.ab r k1 (fun hm=>ct (List.mem_append_left _ hm));have zB:Aa (d::(N.all++aR X)) w w1:=k1.mono (fun x hx=>List.mem_cons_of_mem _ (List.mem_append_left _ hx));rcases hu with⟨K1,P1,b1,n1,nr,h1,⟨rfl,K2,P2,L,rfl⟩|⟨rfl,E⟩⟩|⟨nr,Q,n1,M1,rfl,nF⟩
 ·have LN:=L.trimmed hs h0;obtain⟨k1',W1⟩:=LN.w;conv=>whnf
  refine Ca.of (gF (.inl rfl) r1 h1 eC W1 (by rw[LN.qu,p7];exact At.nil)) ?_;rintro v w2 hv;conv=>whnf
  exact⟨rfl,(hv.first zB nr (fun x hx=>.inl hx)).mono (fun _ _ ⟨e1,T⟩=>.inl ⟨e1,LN.call T⟩) (fun _ ⟨e1,t⟩=>⟨e1,.inr t⟩)⟩
 ·have LN:=E.n;obtain⟨k1',W1⟩:=LN.w;conv=>whnf
  refine Ca.of (gF (.inr rfl) r1 h1 eC W1 (by rw[LN.qu,p7];exact At.nil)) ?_;rintro v w2 hv;conv=>whnf
  exact⟨rfl,(hv.first zB nr (fun x hx=>.inl hx)).mono (fun _ _ ⟨e1,T⟩=>.inr ⟨e1,LN.call T,E.rm⟩) (fun _ ⟨e1,t⟩=>⟨e1,.inl t⟩)⟩
 ·conv=>whnf
  refine Ca.of (qO r1 M1 eC) ?_;rintro v w2 ⟨rfl,a1,k2⟩;conv=>whnf
  exact⟨rfl,zB.trans (k2.mono (fun x hx=>by rw[List.mem_singleton.1 hx];exact List.mem_cons_self ..)),.inr ⟨nr,Q,a1,rfl,.inl nF⟩⟩
def CD(a:Nat->Nat->Nat)(s:Nat)(K:KS)(P:CS)(own:List Nat)(d ch:Nat)(b:Option Nat)(w:World)(v:Value)(w':World):Prop :=
 Au own d ch b w w' (fun K' P'=>(∃(Y:Option Addr) (e:Nat) (f:Nat->Nat),v=.tuple #[.slice Y 160 e,ak 0]/\Ly w' 5 1 Y 160 e (fun j=>.int .u8 (f j:Nat))/\(∀x,x∈aR Y->w.heap.size<=x)/\∀j,j<160->f j=a s j)/\A1 a K P K' P') (fun Q=>v=.tuple #[.slice none 0 0,ak 7]/\Tw Q 1099511627775 a)
theorem xG{own:List Nat}(D:Af w own d ch K P b)(W:Wi a k K P){s:Nat}(hs:s<24) :
  Spec Tryz.prog 22 #[.pointer (some ⟨d,0,none⟩),.int .i64 s] w fun v w'=>CD a s K P own d ch b w v w':=by
 have av:=D.lp;obtain⟨N,X,c,n,rfl,r,h,eC,p7⟩:=D;have c1:w.cell? ⟨d,1,none⟩=some (.pointer (some ⟨N.k,0,none⟩)):=Row.cell r 1 (by omega);have ct:=r.ne h;have lK:=W.sh s;by_cases h0:K.at_ s=0
 ·refine spec_of_wpE (T:=tt) ah func22 rfl (by decide +kernel) ntmps22 (by simp) ?_;conv=>whnf
  repeat ((first|(refine Ld.of c1 ?_)|refine CW.s ?_);conv=>whnf)
  refine Ru.of (dU w _ _) ?_;conv=>whnf
  repeat (refine Br.f ?_;conv=>whnf)
  refine Ca.of (jC s hs w) ?_;rintro _ _ ⟨rfl,rfl⟩;conv=>whnf
  repeat ((first|(refine Ld.of c1 ?_)|refine Br.f ?_);conv=>whnf)
  refine Ca.of (xq h hs h0) ?_;rintro _ w1 ⟨Y,e,rfl,hY,k1⟩;have r1:Ak w1 d ch (some ⟨N.k,0,none⟩):=Row.ab r k1 (by simp);conv=>whnf
  repeat (refine CW.s ?_;conv=>whnf)
  refine Ca.of (gF (.inl rfl) r1 (h.aj k1) eC W (by rw[p7];exact At.nil)) ?_;rintro v w2 ⟨vG,sB⟩;have hv:=Au.first (w:=w) (b:=b) (own:=d::(N.all++aR X)) (w1:=w1) ⟨vG,sB⟩ (k1.mono (by simp)) id (fun x hx=>.inl hx);have hY2:Ly w2 5 1 Y 160 e (fun _=>.int .u8 ((0:Nat):Int)):=hY.ly.ab vG (fun x hx hm=>by
   have:=hY.new x hx;have:=av x hm;omega)
  obtain⟨kk,⟨K',P',b',bP,a1,a2,a3,rfl,T⟩|⟨a1,Q,a2,rfl,t⟩⟩:=hv
  ·conv=>whnf
   repeat ((first|refine Br.f ?_|refine Ru.ai ?_);conv=>whnf)
   have T:CB a { K with F:=K.F,qu:=K.qu } P K' P':=T;exact⟨rfl,kk,.inl ⟨K',P',b',bP,a1,a2,a3,⟨Y,e,fun _=>0,rfl,hY2,hY.new,fun j hj=>by
    have:=lK j hs hj;unfold arr at this;rw[if_pos h0] at this;exact this⟩,(ac0 W rfl (fun _ x=>x) W.hb K.qu).2 _ _ T⟩⟩
  ·conv=>whnf
   repeat ((first|refine Br.t ?_|refine Ru.n1 ?_);conv=>whnf)
   exact⟨rfl,kk,.inr ⟨a1,Q,a2,rfl,t⟩⟩
 obtain⟨hp,t,F,e1,e2,e3,e4,e5,e6,e7,e8⟩:=W.cM (o:=s) (by omega) h0;refine spec_of_wpE (T:=tt) ah func22 rfl (by decide +kernel) ntmps22 (by simp) ?_;conv=>whnf
 repeat ((first|(refine Ld.of c1 ?_)|refine CW.s ?_);conv=>whnf)
 refine Ru.of (dU w _ _) ?_;conv=>whnf
 repeat (refine Br.f ?_;conv=>whnf)
 refine Ca.of (jC s hs w) ?_;rintro _ _ ⟨rfl,rfl⟩;conv=>whnf
 repeat ((first|(refine Ld.of c1 ?_)|refine Br.f ?_);conv=>whnf)
 refine Ca.of (ai1 h W.hb (by rw[p7];exact At.nil) hs h0 (W.lt (by omega)) (W.fh.mw.lo _ hp) e1 e3 e2) ?_;rintro _ w1 ⟨Y,e,rfl,hY,G,q,Y1,c1',n1,h1,hG,hQ,k1,hY1⟩;have r1:Ak w1 d ch (some ⟨N.k,0,none⟩):=Row.ab r k1 ct;obtain⟨W1,hT⟩:=ac0 W (P':=P.bL (K.at_ s-1)) rfl (fun _ x=>x) hG q;conv=>whnf
 repeat (refine CW.s ?_;conv=>whnf)
 refine Ca.of (gF (.inl rfl) r1 h1 eC W1 hQ) ?_;rintro v w2 ⟨vG,sB⟩;have mC:∀x,x∈d::(N.all++aR Y1)->x∈d::(N.all++aR X)\/w.heap.size<=x:=fun x hx=>by
  rcases List.mem_cons.1 hx with rfl|hx
  ·exact .inl (List.mem_cons_self ..)
  ·rcases List.mem_append.1 hx with hx|hx
   ·exact .inl (List.mem_cons_of_mem _ (List.mem_append_left _ hx))
   ·rcases hY1 x hx with h|h
    ·exact .inl (List.mem_cons_of_mem _ (List.mem_append_right _ h))
    ·exact .inr h
 have hv:=Au.first (w:=w) (b:=b) (own:=d::(N.all++aR X)) (w1:=w1) ⟨vG,sB⟩ (k1.mono (fun x hx=>List.mem_cons_of_mem _ hx)) id mC;have hY2:Ly w2 5 1 Y 160 e (fun j=>.int .u8 (F j:Nat)):=hY.ly.ab vG (fun x hx hm=>by
  have h2:=hY.new x hx;rcases List.mem_cons.1 hm with rfl|hm
  ·have:=av x (List.mem_cons_self ..);omega
  ·rcases List.mem_append.1 hm with hm|hm
   ·have:=av x (List.mem_cons_of_mem _ (List.mem_append_left _ hm));omega
   ·exact(hY.ly.mL h1.core.qu (by decide) hx) hm)
 obtain⟨kk,⟨K',P',b',bP,a1,a2,a3,rfl,T⟩|⟨a1,Q,a2,rfl,t⟩⟩:=hv
 ·conv=>whnf
  repeat ((first|refine Br.f ?_|refine Ru.ai ?_);conv=>whnf)
  exact⟨rfl,kk,.inl ⟨K',P',b',bP,a1,a2,a3,⟨Y,e,F,rfl,hY2,hY.new,fun j hj=>by
   have:=lK j hs hj;unfold arr at this;rw[if_neg h0,bI e1] at this;exact this⟩,hT _ _ T⟩⟩
 ·conv=>whnf
  repeat ((first|refine Br.t ?_|refine Ru.n1 ?_);conv=>whnf)
  exact⟨rfl,kk,.inr ⟨a1,Q,a2,rfl,t⟩⟩
end
theorem abq{t:Tg}{p:Nat}(h:t.ok)(hp:p<96):(lL p t).sound=true:=by
 unfold Fd.sound lL;unfold Tg.ok at h;refine decide_eq_true ?_;simp only;omega
theorem mE(p:Nat)(t:Tg):(lL p t).place=(p:Nat):=rfl
def fd1(P:CS)(p:Nat):List Fd:=match P.pg p with
 |.full t D=>[lL p t]
 |_=>[]
theorem je(P:CS)(p:Nat):ao P (p+1)=ao P p++fd1 P p:=by
 unfold fd1
 cases e:P.pg p with
 |full t D=>exact oL e
 |blank=>rw[ks (fun t D h=>by rw[e] at h;cases h),List.append_nil]
 |cB n=>rw[ks (fun t D h=>by rw[e] at h;cases h),List.append_nil]
theorem u3{P:CS}{p:Nat}{t:Tg}{D:Nat->Nat}(h:P.pg p=.full t D):fd1 P p=[lL p t]:=by
 unfold fd1;rw[h]
theorem alb{P:CS}{p:Nat}{f:Fd}(h:f∈fd1 P p):∃t D,P.pg p=.full t D/\f=lL p t:=by
 unfold fd1 at h
 cases e:P.pg p with
 | full t D =>
  rw[e] at h;exact⟨t,D,rfl,List.mem_singleton.1 h⟩
 |blank=>rw[e] at h;cases h
 |cB n=>rw[e] at h;cases h
theorem nq{P:CS}:∀ {n:Nat} {f:Fd},f∈ao P n->∃p t D,p<n/\P.pg p=.full t D/\f=lL p t
 |0,f,h=>by rw[gE] at h;cases h
 | n+1,f,h=>by
  rw[je] at h;rcases List.mem_append.1 h with h|h
  ·obtain⟨p,t,D,a,b⟩:=nq h;exact⟨p,t,D,by omega,b⟩
  ·obtain⟨t,D,a,b⟩:=alb h;exact⟨n,t,D,by omega,a,b⟩
theorem ac3(L M:List Fd)(p:Nat):mj (L++M) p=mj L p++mj M p:=by
 unfold mj;rw[List.filter_append]
theorem alc{P:CS}(hv:P.val){n p:Nat}(hn:n<96):mj (fd1 P n) p=if n=p then fd1 P n else []:=by
 unfold fd1
 cases e:P.pg n with
 | full t D =>
  have hs:=abq (hv n t D hn e).1 hn;unfold mj;by_cases h:n=p
  ·subst h;simp[hs,mE]
  ·have:((n:Int) == (p:Int))=false:=by
    simp;omega
   simp[hs,mE,h,this]
 |blank=>simp[mj]
 |cB k=>simp[mj]
theorem aeh{P:CS}(hv:P.val){p:Nat}:∀ {n:Nat},n<=96->mj (ao P n) p=if p<n then fd1 P p else []
 |0,_=>by rw[gE];rfl
 | n+1,hn=>by
  rw[je,ac3,aeh hv (n:=n) (by omega),alc hv (by omega)];by_cases h:p<n
  ·rw[if_pos h,if_neg (show ¬n=p by omega),if_pos (show p<n+1 by omega),List.append_nil]
  ·rw[if_neg h];by_cases h2:n=p
   ·subst h2;rw[if_pos rfl,if_pos (show n<n+1 by omega),List.nil_append]
   ·rw[if_neg h2,if_neg (show ¬p<n+1 by omega),List.nil_append]
theorem sK{P:CS}(hv:P.val):∀ {k:Nat},k<=96->mW (ao P 96) k=ao P k
 |0,_=>by rw[gE];rfl
 | k+1,hk=>by
  have ih:=sK hv (k:=k) (by omega);unfold mW at ih ⊢;rw[List.range_succ,List.flatMap_append,ih,je P k,List.flatMap_singleton,aeh hv (by omega),if_pos (by omega)]
theorem abr(k:Cp){o:Nat}(ho:o<25):kZ k o=floor k o:=by
 unfold kZ floor;by_cases h:o=24
 ·subst h;rfl
 ·rw[if_pos (by omega),if_neg h]
theorem aei{P:CS}{o p:Nat}{t:Tg}{D:Nat->Nat}(hp:P.pg p=.full t D)(vM:t.of=o)(hs:0<=t.seq):∀n,(n<=p->ko (ao P n) o p=En.zero)/\(p<n->ko (ao P n) o p=⟨t.seq,t.copy,t.lost⟩)
 |0=>⟨fun _=>by rw[gE];rfl,fun h=>by omega⟩
 | n+1=>by
  obtain⟨ih1,vA⟩:=aei hp vM hs n;rw[je];by_cases hn:n=p
  ·subst hn;rw[u3 hp,qN,ih1 (Nat.le_refl _)];refine⟨fun h=>by omega,fun _=>if_pos ⟨rfl,vM,hs⟩⟩
  ·have bt:ko (ao P n++fd1 P n) o p=ko (ao P n) o p:=by
    cases hq:P.pg n with
    | blank =>
     have:fd1 P n=[]:=by unfold fd1;rw[hq]
     rw[this,List.append_nil]
    | cB k =>
     have:fd1 P n=[]:=by unfold fd1;rw[hq]
     rw[this,List.append_nil]
    | full t1 D1 =>
     rw[u3 hq,qN];exact if_neg (fun h=>hn (by have:=h.1;rw[mE] at this;omega))
   rw[bt];exact⟨fun h=>ih1 (by omega),fun h=>vA (by omega)⟩
theorem abt(c:Cp)(t:Int):∀n,t<=eZ c t n/\∀j,j<n->c.fl j<=eZ c t n
 |0=>⟨Int.le_refl _,fun j h=>by omega⟩
 | n+1=>by
  obtain⟨h1,h2⟩:=abt c t n;unfold eZ;refine⟨by omega,fun j hj=>?_⟩;by_cases h:j=n
  ·subst h;omega
  ·have:=h2 j (by omega);omega
theorem abu{c:Cp}{t x:Int}(ht:t<x):∀ {n},(∀j,j<n->c.fl j<x)->eZ c t n<x
 |0,_=>ht
 | n+1,h=>by
  have h1:=abu ht (n:=n) (fun j hj=>h j (by omega));have h2:=h n (by omega);unfold eZ;omega
theorem afH(t:Int)(L:List Fd):t<=eu L t/\∀f,f∈L->f.sound=true->f.seq<=eu L t:=by
 induction L using ep with
 |h0=>exact⟨Int.le_refl _,(fun _ h=>nomatch h)⟩
 | h1 L f ih =>
  rw[jq];unfold mX;constructor
  ·split<;>omega
  ·intro g hg hs;rcases List.mem_append.1 hg with hg|hg
   ·have:=ih.2 g hg hs;split<;>omega
   ·rw[List.mem_singleton.1 hg] at hs ⊢;rw[if_pos hs];omega
theorem afI{t x:Int}(ht:t<x)(L:List Fd)(h:∀f,f∈L->f.seq<x):eu L t<x:=by
 induction L using ep with
 |h0=>exact ht
 | h1 L f ih =>
  rw[jq];have h1:=ih (fun g hg=>h g (List.mem_append_left _ hg));have h2:=h f (List.mem_append_right _ (List.mem_singleton.2 rfl));unfold mX;split<;>omega
end
section
open Go.RowKit
theorem aej{F:Nat->Int}(h:∀b,b<12->F (12+b)=0):∀n,n<=12->∀b,b<12->zi F n (12+b)=0
 |0,_,b,hb=>h b hb
 | n+1,hn,b,hb=>by
  have ih:=aej h n (by omega);have:∀k,∀b,b<12->rdN (zi F n) n k (12+b)=0:=fun k=>by
   induction k with
   |zero=>exact ih
   |succ k ihk=>exact ad2 (by omega) ihk
  exact this 8 b hb
theorem ai5(K:KS)(P:CS):∀n q,(oM K P n).pg q=if q/8<n/\K.st (q/8)=0 then .blank else P.pg q
 |0,q=>by rw[abd,if_neg (by omega)]
 | n+1,q=>by
  have ih:=ai5 K P n q;rw[uU];by_cases h:K.st n=0
  ·rw[if_pos h];show(if q/8=n then Pg.blank else (oM K P n).pg q)=_;by_cases hq:q/8=n
   ·rw[if_pos hq,if_pos ⟨by omega,by rw[hq];exact h⟩]
   ·rw[if_neg hq,ih];by_cases h2:q/8<n/\K.st (q/8)=0
    ·rw[if_pos h2,if_pos ⟨by omega,h2.2⟩]
    ·rw[if_neg h2,if_neg (fun x=>h2 ⟨by omega,x.2⟩)]
  ·rw[if_neg h,ih];by_cases h2:q/8<n/\K.st (q/8)=0
   ·rw[if_pos h2,if_pos ⟨by omega,h2.2⟩]
   ·rw[if_neg h2,if_neg (fun x=>h2 ⟨by
     by_cases hb:q/8=n
     ·rw[hb] at x;exact absurd x.2 h
     ·omega,x.2⟩)]
theorem ao8{F:Nat->Int}(h:Hl.HB F)(v:Nat):Hl.HB (Hl.ua F v):=fun b hb=>by
 have h1:=h b hb;unfold Hl.ua Hl.nu;refine⟨?_,?_,?_⟩
 ·split
  ·omega
  ·split
   ·omega
   ·exact h1.1
 ·split
  ·omega
  ·split
   ·omega
   ·exact h1.2.1
 ·split
  ·omega
  ·split
   ·omega
   ·exact h1.2.2
theorem ald{F:Nat->Int}(h:∀b,b<12->F (12+b)=0){v:Nat}:∀b,b<12->Hl.ua F v (12+b)=0:=fun b hb=>by
 unfold Hl.ua Hl.nu;split
 ·rfl
 ·split
  ·rfl
  ·exact h b hb
theorem ao9{K:KS}(h:Hl.HB K.F)(h0:∀b,b<12->K.F (12+b)=0):∀n,Hl.HB (nC K n).F/\∀b,b<12->(nC K n).F (12+b)=0
 |0=>by rw[abc];exact⟨h,h0⟩
 | n+1=>by
  obtain⟨a,b⟩:=ao9 h h0 n;rw[uT];split
  ·exact⟨ao8 a n,ald b⟩
  ·exact⟨a,b⟩
attribute [local irreducible] dq n2K zi oM nC vS nB ao fW
end
section
open Go.RowKit
theorem aek:∀k,mW [] k=[]
 |0=>rfl
 | k+1=>by
  have:=aek k;unfold mW at this ⊢;rw[List.range_succ,List.flatMap_append,this];rfl
theorem abv(k:Cp)(o:Nat):bw [] k o = -1:=by
 unfold bw;rw[aek];rfl
theorem ac4(k:Cp):∀i,dq k [] i=n0K k []
 |0=>rfl
 | i+1=>by
  rw[mA,abv,if_pos (by decide),ac4 k i]
theorem ael(b:Nat):∀n,jV (fun _=>0) n b=0
 |0=>rfl
 | n+1=>by
  unfold jV;rw[ael b n,if_neg (fun h=>h.1 rfl)]
theorem ai6{K:KS}(h:K.at_=fun _=>0):∀b,n2K K b=K
 |0=>rfl
 | b+1=>by
  rw[aa9,if_neg (by
   rw[h];have:lv (fun _=>0) b=0:=ael b 25;omega),ai6 h b]
theorem flz:∀n,eZ Cp.zero (-1) n=if n=0 then -1 else 0
 |0=>rfl
 | n+1=>by
  unfold eZ;rw[flz n];show max (if n=0 then -1 else 0) (0:Int)=_;by_cases h:n=0
  ·rw[if_pos h,if_neg (by omega)];rfl
  ·rw[if_neg h,if_neg (by omega)];rfl
theorem ai7:fW [] Cp.zero=1:=by
 have h:tW [] Cp.zero=0:=by
  show eZ Cp.zero (max 0 0-1) 24=0;rw[show(max (0:Int) 0-1) = -1 by omega,flz,if_neg (by omega)]
 unfold fW;rw[h];rfl
theorem afJ:Cp.zero.told:=⟨by decide,by decide,fun _ _=>⟨Int.le_refl 0,by show(0:Int)<=1099511627775;omega⟩,fun _ _=>⟨Int.le_refl 0,by show(0:Int)<=65535;omega⟩,fun _ _=>⟨Int.le_refl 0,by show(0:Int)<=255;omega⟩⟩
theorem anq:Bs Cp.zero []:=by
 refine⟨afJ,fun _ _=>rfl,fun i _=>?_,fun i _ h=>?_⟩
 ·rw[ac4];exact⟨fun _ _=>by show 0<=96;omega,fun _ _=>by show 0<=25;omega⟩
 ·rw[abv] at h;omega
def CS.bare(P:CS):Prop:=P.calm/\∀p,P.pg p=.blank
theorem abw{P:CS}(h:P.bare):∀n,ao P n=[]
 |0=>rfl
 | n+1=>by
  rw[ks (fun t D e=>by rw[h.2] at e;cases e),abw h n]
def Bm(P:CS)(K':KS)(P':CS):Prop:=∃K1,K'=cy K1 24/\P'=jr K1 (oM (zl Cp.zero []) (nB P 96) 12) 24 aZ/\A4 24 aZ K1 (oM (zl Cp.zero []) (nB P 96) 12)/\(iv (bS K1) K1.next (-1)).told/\Hl.HB K1.F/\K1.F=(nC (zl Cp.zero []) 12).F/\((zl Cp.zero []).st=fun _=>0)/\K1.cur=0/\K1.qu=[]
theorem afK{P:CS}(h:P.bare):∃K' P' tr k',AV P K' P' tr/\Inv K' P' k' 2/\K'.qu=[]/\Bm P K' P'/\Ac P' K'.at_ (fun _ _=>0):=by
 have vR:P.val:=fun p t D _ e=>by rw[h.2] at e;cases e
 have ze:Hl.HB (Hl.ot (jB Cp.zero) (jl Cp.zero)):=Hl.HB.new (fun j hj=>by
  unfold jB jl;rw[if_pos hj,if_pos hj];exact⟨Int.le_refl 0,Int.le_refl 0⟩)
 have hF0:∀b,b<12->Hl.ot (jB Cp.zero) (jl Cp.zero) (12+b)=0:=fun b hb=>by
  unfold Hl.ot jl;rw[if_neg (by omega),if_pos (by omega),show 12+b-12=b by omega,if_pos hb];rfl
 have hnw:nwK Cp.zero []=n0K Cp.zero []:=by
  unfold nwK;rw[ac4,ai6 rfl]
 have hnF:(nwK Cp.zero []).F=Hl.ot (jB Cp.zero) (jl Cp.zero):=by rw[hnw];rfl
 have hmF:Hl.HB (zl Cp.zero []).F:=by
  show Hl.HB (zi (nwK Cp.zero []).F 12);rw[hnF];exact zj ze 12 (Nat.le_refl _)
 have hm0:∀b,b<12->(zl Cp.zero []).F (12+b)=0:=fun b hb=>by
  show zi (nwK Cp.zero []).F 12 (12+b)=0;rw[hnF];exact aej hF0 12 (Nat.le_refl _) b hb
 have hmt:zl Cp.zero []={ n0K Cp.zero [] with F:=(zl Cp.zero []).F }:=by
  show({ nwK Cp.zero [] with F:=(zl Cp.zero []).F }:KS)=_;rw[hnw]
 generalize hKm:zl Cp.zero []=Km at *;obtain⟨F3,h6⟩:=pP Km 12;obtain⟨hFB,hFz⟩:=ao9 hmF hm0 12;have h7:nC Km 12={ n0K Cp.zero [] with F:=F3 }:=by rw[h6,hmt]
 rw[h7] at hFB hFz;have apa:=uS h.1 96;have xQ:=pQ Km apa 12;have bG:∀q,(oM Km (nB P 96) 12).pg q=.blank:=fun q=>by
  rw[ai5];split
  ·rfl
  ·rw[(zk P 96).1,h.2]
 -- a block is taken
 obtain⟨K1,hK1⟩:∃K1,K1=opK (nC Km 12) 0:=⟨_,rfl⟩;have lK:aV (nC Km 12)=nC Km 12:=by
  rw[h7];rfl
 have e1:K1={ n0K Cp.zero [] with F:=F3,st:=af (fun _=>0) 0 1,pn:=1,fo:=true,fb:=0,fi:=0 }:=by
  rw[hK1];unfold opK;rw[lK,h7];rfl
 have f1:K1.st=af (fun _=>0) 0 1/\K1.fo=true/\K1.fb=0/\K1.fi=0/\K1.fl=fun _=>0:=by
  rw[e1];exact⟨rfl,rfl,rfl,rfl,rfl⟩
 obtain⟨f1,f2,f3,f4,f5⟩:=f1;have g0:(nC Km 12).st=(fun _=>0)/\(nC Km 12).pn=0/\(nC Km 12).fo=false/\(nC Km 12).fi=0:=by
  rw[h7];exact⟨rfl,rfl,rfl,rfl⟩
 obtain⟨g1,g2,g3,g4⟩:=g0;have ma:aJ K1.fo K1.fi 24=true:=by rw[f2,f4];decide
 have hsp:fP (aV (nC Km 12)).st=true:=by
  rw[lK,g1];decide
 have ky:takeN (aV (nC Km 12)).st (aV (nC Km 12)).pn=some 0:=by
  rw[lK,g1,g2];decide
 have hop:AQ 24 48 (nC Km 12) (oM Km (nB P 96) 12) K1 (oM Km (nB P 96) 12) []:=by
  rw[hK1];refine .spare (n:=47) (by rw[h7];show 0<12;omega) (by rw[h7];show 0<=8;omega) (by rw[g3,g4];decide) hsp (by rw[lK,h7];show 0<=12;omega) ky (.room (n:=46) ?_ ?_ ?_)
  ·rw[<-hK1,e1];show 0<12;omega
  ·rw[<-hK1,e1];show 0<=8;omega
  ·rw[<-hK1];exact ma
 have B1:AN K1 (oM Km (nB P 96) 12):=by
  rw[e1];refine⟨fun b hb=>?_,fun b hb e=>?_,fun _=>rfl,fun b i _ _ _=>bG _,fun _ i _ _=>bG _,by show 0<12;omega,by show 0<=8;omega,by show 1<=12;omega⟩
  ·show af (fun _:Nat=>(0:Nat)) 0 1 b<=2;unfold af;split
   ·omega
   ·show 0<=2;omega
  ·have e:af (fun _:Nat=>(0:Nat)) 0 1 b=1:=e;unfold af at e;by_cases jK:b=0
   ·exact⟨rfl,jK.symm⟩
   ·rw[if_neg jK] at e;have e:0=1:=e;omega
 have H1:Bv K1:=by
  rw[e1];exact⟨hFB,hFz,by show(0:Int).toNat<96;decide⟩
 have C1:AM K1.at_ K1.ow:=by
  rw[e1];exact⟨fun p hp e=>absurd rfl e,fun o ho e=>absurd rfl e⟩
 have n1:K1.next=1:=by
  rw[e1];exact ai7
 have lU:5<=an K1.st 0:=by
  rw[f1];decide
 have a1:K1.at_=fun _=>0:=by rw[e1];rfl
 have E:=xx B1 H1 C1 xQ ⟨by omega,by omega⟩ (fun o ho e=>by rw[a1] at e;exact absurd rfl e) lU (of:=24) (by omega) ma aZ;obtain⟨ow,F,calls,he,jz,hc1,lT⟩:=E.eq
 have kn:(iv (bS K1) K1.next (-1)).told:=aa7 (K:=bS K1) (by omega) H1.hb H1.cur (fun o ho=>by
  show 0<=K1.fl o/\K1.fl o<=_;rw[f5];exact⟨Int.le_refl 0,by show(0:Int)<=1099511627775;omega⟩)
 have iL:cq (aZ (bS K1) K1.next)=aZ (bS K1) K1.next:=gI _;have hfa:Bm P (cy K1 24) (jr K1 (oM Km (nB P 96) 12) 24 aZ):=⟨K1,rfl,by rw[hKm],by rw[hKm];exact E,kn,H1.hb,by rw[hKm,h7,e1],by rw[hKm,hmt];rfl,by rw[e1];rfl,by rw[e1];rfl⟩;have hpN:=E.pg;rw[iL] at hpN;have apb:=E.ne;have apc:K1.fb*8+K1.fi=0:=by rw[f3,f4]
 rw[apc] at hpN apb he jz
 refine⟨_,_,_,iv (bS K1) K1.next (-1),.new (by rw[sK vR (Nat.le_refl _),abw h];rfl) anq (by rw[hnF];exact ze) ?_ ?_ (by
  rw[hKm];exact .note (by rw[hmt];rfl) ⟨by rw[g1];decide,hop,E.fb,E.fi,ma,E.next,E.hb,E.mw,E.calm,E.blank,E.ok,fun j=>iX _ j⟩ kn),⟨?_,E.b,E.h,E.free⟩,by rw[he,e1];rfl,hfa,?_⟩
 ·rw[hKm,hmt];show 0<=96;omega
 ·rw[hKm,hmt];show aA (fun _=>0)=false;decide
 ·have only:∀q t D,(jr K1 (oM Km (nB P 96) 12) 24 aZ).pg q=.full t D->q=0/\t=dk K1 24/\D=aZ (bS K1) K1.next:=fun q t D e=>by
   by_cases hq:q=0
   ·rw[hq,hpN] at e
    cases e
    exact⟨hq,rfl,rfl⟩
   ·rw[apb q hq,bG] at e
    cases e
  have xH:af K1.at_ 24 (0+1) 24=1:=by simp[af]
  have dC:∀o,o≠24->af K1.at_ 24 (0+1) o=0:=fun o ho=>by
   unfold af;rw[if_neg ho,a1]
  have apd:=E.ok;rw[he];refine⟨⟨⟨CS.mu E.calm _ _ _,fun p t D hp e=>?_,fun p q t t' D D' hp hq hn e e' _=>?_⟩,⟨?_,?_,kn,zg (K:=bS K1) (P:=oM Km (nB P 96) 12) ⟨B1.st,B1.ni,B1.fst,B1.bl,B1.fr,B1.fb,B1.fi,B1.pn⟩ K1.next,H1.sc,fun o ho e=>?_,fun o ho e q t D hq hf js=>?_⟩,?_,fun p q t t' D D' hp hq hn e e' _=>?_,fun p t D hp e=>?_,?_⟩,fun p q t t' D D' hp hq e e' _=>?_,fun o ho e=>?_,fun o ho=>rfl,⟨fun p t D hp e=>?_,?_,?_,fun o ho=>?_⟩,jz⟩
  ·obtain⟨rfl,rfl,rfl⟩:=only p t D e;exact⟨apd,by show((K1.fb*8+K1.fi:Nat):Int)=_;rw[apc],rfl,fun j=>iX _ j,iL⟩
  ·exact absurd ((only p t D e).1.trans (only q t' D' e').1.symm) hn
  ·show af K1.at_ 24 (0+1) 24≠0;rw[xH];omega
  ·show bj _ (af K1.at_ 24 (0+1) 24-1)=_;rw[xH];unfold bj;rw[show 1-1=0 from rfl,hpN];rfl
  ·have e:af K1.at_ 24 (0+1) o≠0:=e;by_cases u4:o=24
   ·subst u4;show CV _ 24 (floor _ 24) (af K1.at_ 24 (0+1) 24-1);rw[xH];refine⟨by omega,dk K1 24,aZ (bS K1) K1.next,hpN,rfl,?_,fun q t' D' hq hn e _=>absurd (only q t' D' e).1 hn⟩;show(-1:Int)<K1.next;omega
   ·exact absurd (dC o u4) e
  ·obtain⟨rfl,rfl,rfl⟩:=only q t D hf;have e:af K1.at_ 24 (0+1) o=0:=e;have js:(24:Int)=o:=js;have:o=24:=by omega
   rw[this,xH] at e;omega
  ·show 5<=an (lv (af K1.at_ 24 (0+1))) 0;refine zd (st:=K1.st) (fun b hb e=>fS.2 fun o ho g1 g2=>?_) lU;by_cases u4:o=24
   ·rw[u4,xH] at g2;have jK:b=0:=by omega
    rw[jK,e1] at e;simp[af] at e
   ·exact g1 (dC o u4)
  ·exact absurd ((only p t D e).1.trans (only q t' D' e').1.symm) hn
  ·obtain⟨rfl,rfl,rfl⟩:=only p t D e;show K1.next<2;omega
  ·refine⟨by show K1.next<2;omega,fun o ho=>?_⟩;show K1.fl o<2;rw[f5];show(0:Int)<2;omega
  ·exact(only p t D e).1.trans (only q t' D' e').1.symm
  ·have e:af K1.at_ 24 (0+1) o≠0:=e;by_cases u4:o=24
   ·subst u4;refine⟨dk K1 24,aZ (bS K1) K1.next,?_,?_⟩
    ·show(jr K1 (oM Km (nB P 96) 12) 24 aZ).pg (af K1.at_ 24 (0+1) 24-1)=_;rw[xH];exact hpN
    ·show af K1.en 24 _ 24=_;exact if_pos rfl
   ·exact absurd (dC o u4) e
  ·obtain⟨rfl,rfl,rfl⟩:=only p t D e;show K1.next<K1.next+1;omega
  ·show 1<=K1.next+1;omega
  ·show K1.next+1<=2;omega
  ·show K1.fl o<K1.next+1;rw[n1,f5];show(0:Int)<1+1;omega
 ·intro o j ho hj;rw[he];show arr _ (af K1.at_ 24 (0+1)) o j=0;unfold arr;rw[if_pos (by unfold af;rw[if_neg (by omega),a1])]
end
section
open Go.RowKit
def bA(c:Int)(n:Nat):Nat:=((if c<0 then 0-(c+1) else c)%(n:Int)).toNat
theorem dB(c:Int){n:Nat}(h:0<n):bA c n<n:=by
 unfold bA;have:=Int.emod_lt_of_pos (if c<0 then 0-(c+1) else c) (show(0:Int)<n by omega);omega
theorem bQ(c:Int)(n:Nat)(h1 : -9223372036854775808<=c/\c<=9223372036854775807)(hn:0<n)(w:World):Spec Tryz.prog 16 #[.int .i64 c,.int .i64 n] w fun v w'=>v=.int .i64 (bA c n:Nat)/\w=w':=by
 have key:∀x:Int,0<=x->((x%(n:Int)).toNat:Int)=x%(n:Int):=fun x hx=>by
  have:=Int.emod_nonneg x (show(n:Int)≠0 by omega);omega
 unfold bA;refine spec_of_wpE (T:=tt) ah func16 rfl (by decide +kernel) ntmps16 (by simp) ?_;by_cases hc:c<0
 ·rw[if_pos hc,key _ (by omega)];conv=>whnf
  repeat ((first|refine Ar.la ?_|refine Dv.r ?_|refine Br.y ?_|refine CW.s ?_);conv=>whnf)
  exact⟨rfl,rfl,rfl⟩
 ·rw[if_neg hc,key _ (by omega)];conv=>whnf
  repeat ((first|refine Dv.r ?_|refine Br.n ?_|refine CW.s ?_);conv=>whnf)
  exact⟨rfl,rfl,rfl⟩
theorem Dv.ape{a b:Int}{K:Value->Prop}(h1:0<=a)(h2:0<b)(h3:a<=18446744073709551615)(h:K (.int .u64 (a/b))):Dv .quo .u64 a b K:=⟨by omega,by
 have e:a.tdiv b=a/b:=Int.tdiv_eq_ediv_of_nonneg h1;have h4:0<=a/b:=Int.ediv_nonneg h1 (by omega);have h5:a/b<=a:=Int.ediv_le_self b h1;simp only[e];rw[show IntKind.u64.wrap (a/b)=a/b from by unfold IntKind.wrap;simp[IntKind.signed,IntKind.bits];omega];exact h⟩
def lcg(x:Nat):Nat->Nat
 |0=>x
 |j+1=>(lcg x j*6364136223846793005+1442695040888963407)%18446744073709551616
def xI(x j:Nat):Nat:=if x=0 then 0 else (lcg x (j+1)/1099511627776)%256
theorem mF(x j:Nat):xI x j<256:=by
 unfold xI;split
 ·omega
 ·exact Nat.mod_lt _ (by omega)
theorem ai8{x:Nat}(h:x<18446744073709551616):∀j,lcg x j<18446744073709551616
 |0=>h
 |j+1=>Nat.mod_lt _ (by omega)
theorem ai9(x j:Nat):lcg x (j+1)=(lcg x j*6364136223846793005+1442695040888963407)%18446744073709551616:=rfl
theorem aja(x:Nat):lcg x 0=x:=rfl
attribute [local irreducible] lcg
theorem kx(x:Nat)(hx:x<=9223372036854775807)(w:World):Spec Tryz.prog 24 #[.int .i64 x] w fun v w'=>∃g,v=.slice (some ⟨g,0,none⟩) 160 160/\g=w.heap.size/\Row w' g 5 160 (fun j=>.int .u8 (xI x j:Nat))/\Aa [] w w':=by
 refine spec_of_wpE (T:=tt) ah func24 rfl (by decide +kernel) ntmps24 (by simp) ?_;conv=>whnf
 refine Ru.of (xp w) ?_;have ry:=Row.made w 5 (.int .u8 0) 160;have k1:Aa [] w (w.alloc (.cells (madeCells #[.int .u8 0] 160) 5)):=(Aa.refl _ _).alloc _;generalize w.alloc _=w1 at *;by_cases h0:x=0
 ·subst h0;conv=>whnf
  repeat ((first|refine Br.t ?_|refine CW.s ?_);conv=>whnf)
  exact⟨rfl,_,rfl,rfl,ry,k1⟩
 ·have hx0:decide ((x:Int)=0)=false:=decide_eq_false (by omega);conv=>whnf
  repeat ((first|refine Ar.lc ?_|refine Br.n ?_|refine CW.s ?_);conv=>whnf)
  refine CW.loop (ι:=Nat) (fun i w'=>i<=160/\Row w' w.heap.size 5 160 (fun j=>if j<i then .int .u8 (xI x j:Nat) else .int .u8 0)/\Aa [] w w')
   (fun i=>[(3,.slice (some ⟨w.heap.size,0,none⟩) 160 160),(4,.int .u64 (lcg x i:Nat)),(5,.int .i64 i)]) (fun i=>160-i) 0 ah ⟨by omega,ry.congr (fun j hj=>by simp),k1⟩ ⟨rfl,by rw[aja];rfl,rfl,trivial⟩ ?_;clear ry k1;rintro i wr ⟨hi,rg,kk⟩;have hl:=ai8 (x:=x) (by omega) i;rcases Nat.lt_or_ge i 160 with av|xP
  ·conv=>whnf
   repeat ((first|(refine Ar.apv ?_)|refine Br.y ?_|refine CW.s ?_);conv=>whnf)
   have hv:(((lcg x i:Nat):Int)*6364136223846793005%18446744073709551616+1442695040888963407)%18446744073709551616=((lcg x (i+1):Nat):Int):=by
    rw[ai9];omega
   rw[hv];have hl2:=ai8 (x:=x) (by omega) (i+1);refine Dv.ape (by omega) (by omega) (by omega) ?_;conv=>whnf
   repeat ((first|(refine Ar.u8m ?_)|(refine Ix.of i (by omega) (by omega) ?_));conv=>whnf)
   rw[show 0+i=i by omega];refine Sd.rowAt rg i (by omega) (by omega) rfl ?_;intro w7 rg7 k7;conv=>whnf
   repeat (refine Ar.la ?_;conv=>whnf)
   refine⟨i+1,⟨av,rg7.congr (fun j hj=>?_),kk.fresh (Nat.le_refl _) k7⟩,⟨rfl,rfl,vi (by omega),trivial⟩,by simp only;omega⟩;unfold put;by_cases vd:j=i
   ·rw[if_pos vd,if_pos (by omega),vd];unfold xI;rw[if_neg h0];exact congrArg (Value.int .u8) (by omega)
   ·rw[if_neg vd];simp only;by_cases mK:j<i
    ·rw[if_pos mK,if_pos (by omega)]
    ·rw[if_neg mK,if_neg (by omega)]
  ·obtain rfl:i=160:=by omega
   conv=>whnf
   repeat ((first|refine Br.f ?_|refine CW.s ?_);conv=>whnf)
   exact⟨rfl,_,rfl,rfl,rg.congr (fun j hj=>by simp only[if_pos hj]),kk⟩
theorem qQ(A B:Option Addr)(n m c d:Nat)(f g:Nat->Int)(w:World)(r0:Rd w A n (fun j=>.int .u8 (f j)))(r1:Rd w B m (fun j=>.int .u8 (g j)))(hf:∀j,0<=f j/\f j<=255)(hg:∀j,0<=g j/\g j<=255) :
  Spec Tryz.prog 23 #[.slice A n c,.slice B m d] w fun v w'=>v=.bool (wm n m f g)/\w=w':=by
 rw[<-aah hf hg];refine spec_of_wpE (T:=tt) ah func23 rfl (by decide +kernel) ntmps23 (by simp) ?_;conv=>whnf
 refine Ru.pd underlying37 underlying5 underlying9 r0 ?_;generalize strOfNums ((List.range n).map f)=x;conv=>whnf
 refine Ru.pd underlying37 underlying5 underlying9 r1 ?_;generalize strOfNums ((List.range m).map g)=y;conv=>whnf
 refine Ru.agI underlying9 ?_;conv=>whnf
 exact⟨rfl,rfl,rfl⟩
end
section
open Go.RowKit
def ac5(T:TypeId):Bool := !(Nat.beq T 143||Nat.beq T 220||Nat.beq T 188||Nat.beq T 210||Nat.beq T 223||Nat.beq T 217||Nat.beq T 3||Nat.beq T 250||Nat.beq T 104||Nat.beq T 274||Nat.beq T 297||Nat.beq T 318||Nat.beq T 5||Nat.beq T 87)
section
variable{w w':World}{own:List Nat}{d ch:Nat}{K:KS}{P:CS}{b:Option Nat}
theorem zq{T U:TypeId}(h:ac5 T=true)(hU:ac5 U=false):T≠U:=fun e=>by
 rw[e,hU] at h
 cases h
theorem afL{T:TypeId}(h:ac5 T=true):(Nat.beq T 143||Nat.beq T 220||Nat.beq T 188||Nat.beq T 210||Nat.beq T 223||Nat.beq T 217||Nat.beq T 3||Nat.beq T 250||Nat.beq T 104||Nat.beq T 274||Nat.beq T 297||Nat.beq T 318||Nat.beq T 5)=false:=by
 unfold ac5 at h;rw[Bool.not_eq_true',Bool.or_eq_false_iff] at h;exact h.1
theorem Af.aj(D:Af w own d ch K P b)(k:Aa [] w w'):Af w' own d ch K P b:=by
 obtain⟨N,X,c,n,e,r,h,eC,hq⟩:=D;exact⟨N,X,c,n,e,Row.ab r k (by simp),h.aj k,eC,hq⟩
theorem Af.gr(D:Af w own d ch K P b){x m:Nat}{T:TypeId}{f:Nat->Value}(rx:Row w x T m f)(hT:ac5 T=true)(k:Aa [x] w w'):Af w' own d ch K P b:=by
 obtain⟨N,X,c,n,e,r,h,eC,hq⟩:=D;have hd:d≠x:=Row.ed r rx (zq hT (by decide)).symm;exact⟨N,X,c,n,e,Row.ab r k (by simpa using hd),h.gr rx (afL hT) k,eC,hq⟩
theorem Af.ck(D:Af w own d ch K P b){x m:Nat}{T:TypeId}{f:Nat->Value}(rx:Row w x T m f)(hT:ac5 T=true):x∉own:=fun hx=>by
 obtain⟨N,X,c,n,e,r,h,eC,hq⟩:=D;rw[e] at hx;obtain⟨C,M,q⟩:=h.qC;obtain⟨F,rg⟩:=M.jf.iB.fs.ty;have nn:∀ {y m':Nat} {U:TypeId} {f':Nat->Value},Row w y U m' f'->ac5 U=false->x≠y:=fun ry hU=>Row.ed rx ry (zq hT hU);rcases List.mem_cons.1 hx with e|hm
 ·exact nn r (by decide) e
 rcases List.mem_append.1 hm with hm|hm
 ·simp only[Cr.all,Cr.own,Pt.l,List.cons_append,List.nil_append,List.mem_cons,List.not_mem_nil,or_false] at hm;rcases hm with e|e|e|e|e|e|e|e|e
  ·exact nn h.core.row (by decide) e
  ·exact nn h.core.aY (by decide) e
  ·exact nn h.core.map (by decide) e
  ·exact nn h.core.front (by decide) e
  ·exact nn h.core.aL (by decide) e
  ·exact nn h.core.pat (by decide) e
  ·exact nn M.row (by decide) e
  ·exact nn M.dz (by decide) e
  ·exact nn rg (by decide) e
 ·exact h.core.qu.aP rx (zq hT (by decide)).symm hm
theorem Af.jD(D:Af w own d ch K P b):d∈own/\ch∈own:=by
 obtain⟨N,X,c,n,e,r,h,eC,hq⟩:=D;rw[e];exact⟨List.mem_cons_self ..,List.mem_cons_of_mem _ (List.mem_append_left _ (iV (by rw[<-eC];simp[Pt.l])))⟩
theorem Be.ab{Q:CS}{S:List Nat}(D:Be w d ch Q)(k:Aa S w w')(hd:d∉S)(hc:ch∉S):Be w' d ch Q:=by
 obtain⟨r,C,H,h⟩:=D;exact⟨Row.ab r k hd,C,H.ab k hc,h⟩
end
theorem mG(w:World)(x:Operand)(a:Addr):(do eqGuard .eql 25 x (.const (.pointer none)) (.pointer (some a)) (.pointer none);binOp .eql 25 (.pointer (some a)) (.pointer none):Sem Value).run Tryz.prog w=.ok (.bool false) w:=by kernel_rfl
def CN(ch:Nat)(K':KS)(P':CS)(b:Option Nat)(tr:List CS)(w:World)(v:Value)(w':World):Prop :=
 Aa [ch] w w'/\Ag b tr (fun b'=>∃d bP,v=.pointer (some ⟨d,0,none⟩)/\Af w' bP d ch K' P' b'/\∀x,x∈bP->x=ch\/w.heap.size<=x) (fun Q=>v=.pointer none/\∃C,Ab w' ch C/\AT C Q)
theorem afM{w:World}{ch:Nat}{C:Chip}{P:CS}{b:Option Nat}(H:Ab w ch C)(hA:Abs C P)(hl:C.left b)(hc:P.calm){K':KS}{P':CS}{tr:List CS}(M:AV P K' P' tr)(hq:K'.qu=[]) :
  Spec Tryz.prog 21 #[.pointer (some ⟨ch,0,none⟩)] w (CN ch K' P' b tr w):=by
 refine spec_of_wpE (T:=tt) ah func21 rfl (by decide +kernel) ntmps21 (by simp) ?_;conv=>whnf
 refine Ca.of (ad9 ch w) ?_;rintro _ w1 ⟨d,rfl,hd,r1,k1⟩;have H1:=H.ab k1 (by simp);conv=>whnf
 repeat (refine CW.s ?_;conv=>whnf)
 refine Ru.of (mG w1 _ _) ?_;conv=>whnf
 repeat ((first|refine Br.f ?_|refine Pk.f ?_|refine Ru.ai ?_);conv=>whnf)
 refine Ca.of (afC r1 H1 hA hl hc M hq) ?_;rintro _ w2 ⟨k2,sB⟩
 have kk:Aa [ch] w w2:=(k1.mono (by simp)).then k2 (fun x hx=>by
  rcases List.mem_cons.1 hx with rfl|hx
  ·exact .inr (by omega)
  ·exact .inl hx)
 rcases sB with⟨f2,rfl,bP,D2,h2⟩|⟨y,hy,jy,rfl,D2⟩
 ·conv=>whnf
  repeat ((first|refine Br.f ?_|refine Ru.ai ?_|refine CW.s ?_);conv=>whnf)
  refine⟨rfl,kk,.inl ⟨f2,d,bP,rfl,D2,fun x hx=>?_⟩⟩;rcases h2 x hx with h|h|h
  ·exact .inr (by omega)
  ·exact .inl h
  ·exact .inr (Nat.le_trans k1.size h)
 ·conv=>whnf
  repeat ((first|refine Br.t ?_|refine Ru.n1 ?_|refine CW.s ?_);conv=>whnf)
  exact⟨rfl,kk,.inr ⟨y,hy,jy,rfl,D2.2⟩⟩
def cH(a:Nat->Nat)(j:Nat):Value:=.int .i64 (a j:Nat)
structure Cl where
 kind:Int
 a:Int
 x:Int
def Cl.cell(c:Cl)(j:Nat):Value:=if j=0 then .int .i64 c.kind else if j=1 then .int .i64 c.a else .int .i64 c.x
def ac6(x:Int):Prop:=-9223372036854775808<=x/\x<=9223372036854775807
def Cl.wf(c:Cl):Prop:=ac6 c.kind/\ac6 c.a/\ac6 c.x
def Cl.of(c:Cl):Nat:=bA c.a 24
def Cl.n(c:Cl):Nat:=1+bA c.x 1000000
def Cl.kd(c:Cl):Nat:=bA c.kind 6
def Cl.arr(c:Cl)(a:Nat->Nat):Nat->Nat:=if c.kd<=2 then af a c.of c.n else if c.kd=3 then af a c.of 0 else a
theorem Cl.of_lt(c:Cl):c.of<24:=dB _ (by omega)
theorem Cl.ac7(c:Cl):c.n<=1000000:=by
 have:=dB c.x (n:=1000000) (by omega);unfold Cl.n;omega
theorem cK(w:World):(Instr.alloc 28 true (.tuple #[])).run Tryz.prog w=.ok (.pointer (some ⟨w.heap.size,0,none⟩)) (w.alloc (fH 24 (cH fun _=>0) 28)):=by kernel_rfl
theorem aB:(Tryz.prog.info? 28).map (·.size)=some 24:=by kernel_rfl
theorem cr(a:Nat->Nat)(j:Nat):(cH a j).oneCell'=true:=rfl
theorem zr(a:Nat->Nat)(o x:Nat)(j:Nat):put (cH a) o (.int .i64 (x:Nat)) j=cH (af a o x) j:=by
 unfold put cH af;split<;>rfl
def Bn(own:List Nat)(d ch:Nat)(K':KS)(P':CS)(b:Option Nat)(tr:List CS)(a':Nat->Nat)(rd:Option (Nat->Nat))(w:World)(v:Value)(w':World):Prop :=
 Am own d ch K' P' b tr w w' (∃Y n e f,v=.tuple #[agg 24 (cH a'),.slice Y n e,ak 0]/\(match rd with|none=>Y=none/\n=0/\e=0|some F=>n=160/\f=F)/\(rd=none\/Ly w' 5 1 Y n e (fun j=>.int .u8 (f j:Nat))/\∀x,x∈aR Y->w.heap.size<=x)) (v=.tuple #[agg 24 (cH a'),.slice none 0 0,ak 7])
section
variable{w w':World}{own:List Nat}{d ch:Nat}{K:KS}{P:CS}{b:Option Nat}{K':KS}{P':CS}{tr:List CS}
theorem ac8(D:Af w own d ch K P b){c:Cl}(hw:c.wf)(hk:c.kd<=2){a:Nat->Nat}
  (gK:∀ {w1:World} {A:Option Addr} {e:Nat},Af w1 own d ch K P b->AH w1 A 160 (xI c.n)->160<=e->Spec Tryz.prog 45 #[.pointer (some ⟨d,0,none⟩),.int .i64 c.of,.slice A 160 e] w1 fun v w'=>Am own d ch K' P' b tr w1 w' (v=ak 0) (v=ak 7)) :
  Spec Tryz.prog 19 #[.pointer (some ⟨d,0,none⟩),agg 24 (cH a),agg 3 c.cell] w fun v w'=>Bn own d ch K' P' b tr (af a c.of c.n) none w v w':=by
 have js:=c.of_lt;have hn:=c.ac7;have e1:bA c.a 24=c.of:=rfl;have e2:1+bA c.x 1000000=c.n:=rfl;have e3:bA c.kind 6=c.kd:=rfl;refine spec_of_wpE (T:=tt) ah func19 rfl (by decide +kernel) ntmps19 (by simp) ?_;conv=>whnf
 refine Ru.dt ?_;intro x4 w1 pY du r4 k1;conv=>whnf
 refine Ru.dt ?_;intro x5 w2 hx5 fE r5 k2;conv=>whnf
 refine Ru.aF (cK w2) ?_;intro x6 w3 hx6 gG r6 k3;have fU:=r4.ab (k2.trans k3) (by simp);have nR:=r5.ab k3 (by simp);have bK:=(k1.trans k2).trans k3;have D3:=D.aj bK;have nv:w.heap.size<=x4:=by omega
 have qR:w.heap.size<=x6:=by omega
 have h46:x4≠x6:=by omega
 clear r4 r5 k1 k2 k3 du fE gG pY hx5 hx6 w1 w2 D;have c0:w3.cell? ⟨x5,0,none⟩=some (.int .i64 c.kind):=nR.cell 0 (by omega);have c1:w3.cell? ⟨x5,1,none⟩=some (.int .i64 c.a):=nR.cell 1 (by omega);have c2:w3.cell? ⟨x5,2,none⟩=some (.int .i64 c.x):=nR.cell 2 (by omega);conv=>whnf
 repeat ((refine Ld.at (by omega) c1 ?_);conv=>whnf)
 refine Ca.of (bQ c.a 24 hw.2.1 (by omega) w3) ?_;rintro _ _ ⟨rfl,rfl⟩;rw[e1];conv=>whnf
 repeat ((refine Ld.at (by omega) c2 ?_);conv=>whnf)
 refine Ca.of (bQ c.x 1000000 hw.2.2 (by omega) w3) ?_;rintro _ _ ⟨rfl,rfl⟩;have e2':(1:Int)+((bA c.x 1000000:Nat):Int)=(c.n:Nat):=by rw[<-e2];omega
 have hb:=dB c.x (n:=1000000) (by omega);conv=>whnf
 repeat ((first|(refine Ld.at (by omega) c0 ?_)|refine Ar.la ?_|refine CW.s ?_);conv=>whnf)
 rw[e2'];refine Ca.of (bQ c.kind 6 hw.1 (by omega) w3) ?_;rintro _ _ ⟨rfl,rfl⟩;rw[e3];have hk3:c.kd=0\/c.kd=1\/c.kd=2:=by omega
 rcases hk3 with h|h|h
 all_goals
  rw[h];conv=>whnf
  repeat ((first|(refine Ix.of c.of (by omega) (by omega) ?_)|refine Br.t ?_|refine Br.f ?_|refine CW.s ?_);conv=>whnf)
  rw[show 0+0+c.of=c.of by omega];refine Sd.rowAt fU c.of (by omega) (by omega) rfl ?_;intro w4 hJ k4;have hJ:Row w4 x4 28 24 (cH (af a c.of c.n)):=hJ.congr (fun j hj=>zr a c.of c.n j);have D4:=D3.gr fU (by decide) k4;have vp:=r6.ab k4 (by simpa using h46.symm);have bT:=bK.fresh nv k4;have ru:=bT.size;clear D3 fU r6 k4 bK c0 c1 c2 nR;conv=>whnf
  refine CW.held (fun w'=>Row w' x4 28 24 (cH (af a c.of c.n))) [] (.take 0 (.take 1 (.take 2 (.take 3 (.one 4 (.one 5 (.one 6 (.take 7 (.take 8 (.done)))))))))) ah (by kernel_rfl) (by kernel_rfl) (by kernel_rfl) ?_ ?_
  ·exact Row.drewN hJ 1
  have q4:=(Aa.refl [] w4).drewN 1;have D5:=D4.aj q4;have iD:=hJ.ab q4 (by simp);have qx:=vp.ab q4 (by simp);have dE:=bT.trans q4;clear D4 hJ vp bT q4;generalize w4.drewN 1=w5 at *;conv=>whnf
  repeat ((refine Ad.of (fun w hS=>dL (q:=cH (af a c.of c.n)) hS underlying28 rfl aB (by omega) (fun j hj=>by rw[Nat.zero_add])) ?_);conv=>whnf)
  refine Ca.of (kx c.n (by omega) w5) ?_;rintro _ w6 ⟨g,rfl,hg,rg,k6⟩;have D6:=D5.aj k6;have ns:=iD.ab k6 (by simp);have r66:=qx.ab k6 (by simp);have fX:=dE.trans k6;clear D5 iD qx dE k6 hg;refine⟨ns,?_⟩;conv=>whnf
  refine Ca.of (gK D6 (Rd.dh rg (n:=160) (by omega)) (by omega)) ?_;rintro u w7 ⟨k7,hr7⟩;have vU:=ns.ab k7 (D6.ck ns (by decide));have tM:=r66.ab k7 (D6.ck r66 (by decide));have hs6:=fX.size;have av:=D6.lp;refine⟨vU,?_⟩;conv=>whnf
  refine Ru.gY tM aB (by omega) (fun j hj=>cr _ j) ?_;intro w8 oO k8;have oO:Row w8 x6 28 24 (cH (af a c.of c.n)):=oO.congr (fun j hj=>by unfold lay;rw[if_pos (by omega),Nat.sub_zero]);refine⟨vU.ab k8 (by simpa using h46),?_⟩;conv=>whnf
  refine Ru.cG (q:=cH (af a c.of c.n)) oO underlying28 rfl aB (by omega) (fun j hj=>by rw[Nat.zero_add]) ?_;conv=>whnf
  have mH:=D6.ck r66 (by decide);have iY:=D6.jD;refine⟨rfl,((fX.mono (T:=own) (by simp)).trans k7).then k8 (fun x hx=>.inr (by rw[List.mem_singleton.1 hx];exact qR)),hr7.mono (fun b' hh=>?_) (fun Q hh=>?_)⟩
  ·obtain⟨rfl,bP,D7,h7⟩:=hh;refine⟨⟨none,0,0,fun _=>0,rfl,⟨rfl,rfl,rfl⟩,.inl rfl⟩,bP,D7.gr tM (by decide) k8,fun x hx=>?_⟩;rcases h7 x hx with h|h
   ·exact .inl h
   ·exact .inr (Nat.le_trans hs6 h)
  ·obtain⟨rfl,cO⟩:=hh;exact⟨rfl,cO.ab k8 (fun hm=>mH (by rw[<-List.mem_singleton.1 hm];exact iY.1)) (fun hm=>mH (by rw[<-List.mem_singleton.1 hm];exact iY.2))⟩
theorem afN(D:Af w own d ch K P b){c:Cl}(hw:c.wf)(hk:c.kd=3){a:Nat->Nat}
  (gK:∀ {w1:World},Af w1 own d ch K P b->Spec Tryz.prog 17 #[.pointer (some ⟨d,0,none⟩),.int .i64 c.of] w1 fun v w'=>Am own d ch K' P' b tr w1 w' (v=ak 0) (v=ak 7)) :
  Spec Tryz.prog 19 #[.pointer (some ⟨d,0,none⟩),agg 24 (cH a),agg 3 c.cell] w fun v w'=>Bn own d ch K' P' b tr (af a c.of 0) none w v w':=by
 have js:=c.of_lt;have hn:=c.ac7;have e1:bA c.a 24=c.of:=rfl;have e2:1+bA c.x 1000000=c.n:=rfl;have e3:bA c.kind 6=c.kd:=rfl;refine spec_of_wpE (T:=tt) ah func19 rfl (by decide +kernel) ntmps19 (by simp) ?_;conv=>whnf
 refine Ru.dt ?_;intro x4 w1 pY du r4 k1;conv=>whnf
 refine Ru.dt ?_;intro x5 w2 hx5 fE r5 k2;conv=>whnf
 refine Ru.aF (cK w2) ?_;intro x6 w3 hx6 gG r6 k3;have fU:=r4.ab (k2.trans k3) (by simp);have nR:=r5.ab k3 (by simp);have bK:=(k1.trans k2).trans k3;have D3:=D.aj bK;have nv:w.heap.size<=x4:=by omega
 have qR:w.heap.size<=x6:=by omega
 have h46:x4≠x6:=by omega
 clear r4 r5 k1 k2 k3 du fE gG pY hx5 hx6 w1 w2 D;have c0:w3.cell? ⟨x5,0,none⟩=some (.int .i64 c.kind):=nR.cell 0 (by omega);have c1:w3.cell? ⟨x5,1,none⟩=some (.int .i64 c.a):=nR.cell 1 (by omega);have c2:w3.cell? ⟨x5,2,none⟩=some (.int .i64 c.x):=nR.cell 2 (by omega);conv=>whnf
 repeat ((refine Ld.at (by omega) c1 ?_);conv=>whnf)
 refine Ca.of (bQ c.a 24 hw.2.1 (by omega) w3) ?_;rintro _ _ ⟨rfl,rfl⟩;rw[e1];conv=>whnf
 repeat ((refine Ld.at (by omega) c2 ?_);conv=>whnf)
 refine Ca.of (bQ c.x 1000000 hw.2.2 (by omega) w3) ?_;rintro _ _ ⟨rfl,rfl⟩;have e2':(1:Int)+((bA c.x 1000000:Nat):Int)=(c.n:Nat):=by rw[<-e2];omega
 have hb:=dB c.x (n:=1000000) (by omega);conv=>whnf
 repeat ((first|(refine Ld.at (by omega) c0 ?_)|refine Ar.la ?_|refine CW.s ?_);conv=>whnf)
 rw[e2'];refine Ca.of (bQ c.kind 6 hw.1 (by omega) w3) ?_;rintro _ _ ⟨rfl,rfl⟩;rw[e3];rw[hk];conv=>whnf
 repeat ((first|(refine Ix.of c.of (by omega) (by omega) ?_)|refine Br.t ?_|refine Br.f ?_|refine CW.s ?_);conv=>whnf)
 rw[show 0+0+c.of=c.of by omega];refine Sd.rowAt fU c.of (by omega) (by omega) rfl ?_;intro w4 hJ k4;have hJ:Row w4 x4 28 24 (cH (af a c.of 0)):=hJ.congr (fun j hj=>zr a c.of 0 j);have D4:=D3.gr fU (by decide) k4;have vp:=r6.ab k4 (by simpa using h46.symm);have bT:=bK.fresh nv k4;have ru:=bT.size;clear D3 fU r6 k4 bK c0 c1 c2 nR;conv=>whnf
 refine CW.held (fun w'=>Row w' x4 28 24 (cH (af a c.of 0))) [] (.take 0 (.take 1 (.take 2 (.one 3 (.one 4 (.take 5 (.take 6 (.done)))))))) ah (by kernel_rfl) (by kernel_rfl) (by kernel_rfl) ?_ ?_
 ·exact Row.drewN hJ 1
 have q4:=(Aa.refl [] w4).drewN 1;have D5:=D4.aj q4;have iD:=hJ.ab q4 (by simp);have qx:=vp.ab q4 (by simp);have dE:=bT.trans q4;clear D4 hJ vp bT q4;generalize w4.drewN 1=w6 at *;conv=>whnf
 repeat ((refine Ad.of (fun w hS=>dL (q:=cH (af a c.of 0)) hS underlying28 rfl aB (by omega) (fun j hj=>by rw[Nat.zero_add])) ?_);conv=>whnf)
 have D6:=D5;have ns:=iD;have r66:=qx;have fX:=dE;clear D5 iD qx dE;refine Ca.of (gK D6) ?_;rintro u w7 ⟨k7,hr7⟩;have vU:=ns.ab k7 (D6.ck ns (by decide));have tM:=r66.ab k7 (D6.ck r66 (by decide));have hs6:=fX.size;have av:=D6.lp;refine⟨vU,?_⟩;conv=>whnf
 refine Ru.gY tM aB (by omega) (fun j hj=>cr _ j) ?_;intro w8 oO k8;have oO:Row w8 x6 28 24 (cH (af a c.of 0)):=oO.congr (fun j hj=>by unfold lay;rw[if_pos (by omega),Nat.sub_zero]);refine⟨vU.ab k8 (by simpa using h46),?_⟩;conv=>whnf
 refine Ru.cG (q:=cH (af a c.of 0)) oO underlying28 rfl aB (by omega) (fun j hj=>by rw[Nat.zero_add]) ?_;conv=>whnf
 have mH:=D6.ck r66 (by decide);have iY:=D6.jD;refine⟨rfl,((fX.mono (T:=own) (by simp)).trans k7).then k8 (fun x hx=>.inr (by rw[List.mem_singleton.1 hx];exact qR)),hr7.mono (fun b' hh=>?_) (fun Q hh=>?_)⟩
 ·obtain⟨rfl,bP,D7,h7⟩:=hh;refine⟨⟨none,0,0,fun _=>0,rfl,⟨rfl,rfl,rfl⟩,.inl rfl⟩,bP,D7.gr tM (by decide) k8,fun x hx=>?_⟩;rcases h7 x hx with h|h
  ·exact .inl h
  ·exact .inr (Nat.le_trans hs6 h)
 ·obtain⟨rfl,cO⟩:=hh;exact⟨rfl,cO.ab k8 (fun hm=>mH (by rw[<-List.mem_singleton.1 hm];exact iY.1)) (fun hm=>mH (by rw[<-List.mem_singleton.1 hm];exact iY.2))⟩
theorem afO(D:Af w own d ch K P b){c:Cl}(hw:c.wf)(hk:4<=c.kd){a:Nat->Nat}{F:Nat->Nat}
  (gK:∀ {w1:World},Af w1 own d ch K P b->Spec Tryz.prog 22 #[.pointer (some ⟨d,0,none⟩),.int .i64 c.of] w1 fun v w'=>Bl own d ch K' P' b tr F w1 v w') :
  Spec Tryz.prog 19 #[.pointer (some ⟨d,0,none⟩),agg 24 (cH a),agg 3 c.cell] w fun v w'=>Bn own d ch K' P' b tr a (some F) w v w':=by
 have js:=c.of_lt;have hn:=c.ac7;have e1:bA c.a 24=c.of:=rfl;have e2:1+bA c.x 1000000=c.n:=rfl;have e3:bA c.kind 6=c.kd:=rfl;refine spec_of_wpE (T:=tt) ah func19 rfl (by decide +kernel) ntmps19 (by simp) ?_;conv=>whnf
 refine Ru.dt ?_;intro x4 w1 pY du r4 k1;conv=>whnf
 refine Ru.dt ?_;intro x5 w2 hx5 fE r5 k2;conv=>whnf
 refine Ru.aF (cK w2) ?_;intro x6 w3 hx6 gG r6 k3;have fU:=r4.ab (k2.trans k3) (by simp);have nR:=r5.ab k3 (by simp);have bK:=(k1.trans k2).trans k3;have D3:=D.aj bK;have nv:w.heap.size<=x4:=by omega
 have qR:w.heap.size<=x6:=by omega
 have h46:x4≠x6:=by omega
 clear r4 r5 k1 k2 k3 du fE gG pY hx5 hx6 w1 w2 D;have c0:w3.cell? ⟨x5,0,none⟩=some (.int .i64 c.kind):=nR.cell 0 (by omega);have c1:w3.cell? ⟨x5,1,none⟩=some (.int .i64 c.a):=nR.cell 1 (by omega);have c2:w3.cell? ⟨x5,2,none⟩=some (.int .i64 c.x):=nR.cell 2 (by omega);conv=>whnf
 repeat ((refine Ld.at (by omega) c1 ?_);conv=>whnf)
 refine Ca.of (bQ c.a 24 hw.2.1 (by omega) w3) ?_;rintro _ _ ⟨rfl,rfl⟩;rw[e1];conv=>whnf
 repeat ((refine Ld.at (by omega) c2 ?_);conv=>whnf)
 refine Ca.of (bQ c.x 1000000 hw.2.2 (by omega) w3) ?_;rintro _ _ ⟨rfl,rfl⟩;have e2':(1:Int)+((bA c.x 1000000:Nat):Int)=(c.n:Nat):=by rw[<-e2];omega
 have hb:=dB c.x (n:=1000000) (by omega);conv=>whnf
 repeat ((first|(refine Ld.at (by omega) c0 ?_)|refine Ar.la ?_|refine CW.s ?_);conv=>whnf)
 rw[e2'];refine Ca.of (bQ c.kind 6 hw.1 (by omega) w3) ?_;rintro _ _ ⟨rfl,rfl⟩;rw[e3];have amF:c.kd<6:=dB _ (by omega);have hk3:c.kd=4\/c.kd=5:=by omega
 rcases hk3 with h|h
 all_goals
  rw[h];conv=>whnf
  repeat ((first|refine Br.f ?_|refine CW.s ?_);conv=>whnf)
  refine Ca.of (gK D3) ?_;rintro u w7 ⟨k7,hr7⟩;have vU:=fU.ab k7 (D3.ck fU (by decide));have tM:=r6.ab k7 (D3.ck r6 (by decide));have mH:=D3.ck r6 (by decide);have iY:=D3.jD;have av:=D3.lp;have gG:=bK.size;have hs7:=k7.size;have aqJ:=r6.lt;have fin:∀w8,Aa [x6] w7 w8->Aa own w w8:=fun w8 k8=>((bK.mono (T:=own) (by simp)).trans k7).then k8 (fun x hx=>.inr (by rw[List.mem_singleton.1 hx];exact qR));rcases hr7 with⟨f7,⟨Y,e,rfl,hY,hYn⟩,bP,D7,h7⟩|⟨y,hy,jy,rfl,cO⟩
  ·conv=>whnf
   refine Ru.cG (q:=cH a) vU underlying28 rfl aB (by omega) (fun j hj=>by rw[Nat.zero_add]) ?_;conv=>whnf
   refine Ru.gY tM aB (by omega) (fun j hj=>cr _ j) ?_;intro w8 oO k8;have oO:Row w8 x6 28 24 (cH a):=oO.congr (fun j hj=>by unfold lay;rw[if_pos (by omega),Nat.sub_zero]);conv=>whnf
   refine Ru.cG (q:=cH a) oO underlying28 rfl aB (by omega) (fun j hj=>by rw[Nat.zero_add]) ?_;conv=>whnf
   refine⟨rfl,fin w8 k8,.inl ⟨f7,⟨Y,160,e,F,rfl,⟨rfl,rfl⟩,.inr ⟨hY.ab k8 (fun x hx hm=>?_),fun x hx=>Nat.le_trans gG (hYn x hx)⟩⟩,bP,D7.gr tM (by decide) k8,fun x hx=>?_⟩⟩
   ·have:=hYn x hx;rw[List.mem_singleton.1 hm] at this;omega
   ·rcases h7 x hx with h|h
    ·exact .inl h
    ·exact .inr (Nat.le_trans gG h)
  ·conv=>whnf
   refine Ru.cG (q:=cH a) vU underlying28 rfl aB (by omega) (fun j hj=>by rw[Nat.zero_add]) ?_;conv=>whnf
   refine Ru.gY tM aB (by omega) (fun j hj=>cr _ j) ?_;intro w8 oO k8;have oO:Row w8 x6 28 24 (cH a):=oO.congr (fun j hj=>by unfold lay;rw[if_pos (by omega),Nat.sub_zero]);conv=>whnf
   refine Ru.cG (q:=cH a) oO underlying28 rfl aB (by omega) (fun j hj=>by rw[Nat.zero_add]) ?_;conv=>whnf
   exact⟨rfl,fin w8 k8,.inr ⟨y,hy,jy,rfl,cO.ab k8 (fun hm=>mH (by rw[<-List.mem_singleton.1 hm];exact iY.1)) (fun hm=>mH (by rw[<-List.mem_singleton.1 hm];exact iY.2))⟩⟩
end
def qS(a:Nat->Nat)(o j:Nat):Nat:=xI (a o) j
theorem sL(a:Nat->Nat)(s x:Nat):gU (qS a) s (xI x)=qS (af a s x):=by
 funext o j;unfold gU qS af;split<;>rfl
structure Cq(c:Cl)(a:Nat->Nat)(rd:Option (Nat->Nat)):Prop where
 none:c.kd<=3->rd=none
 some:4<=c.kd->∃F,rd=some F/\∀j,j<160->F j=qS a c.of j
theorem afP{K:KS}{P:CS}{k:Cp}{m:Int}(I:Inv K P k m)(hq:K.qu=[])(hm:m+1<1099511627775){c:Cl}(hw:c.wf){a:Nat->Nat}(hs:Ac P K.at_ (qS a)):∃K' P' k' t1 t2 rd,A0 K P m (qS a) (qS (c.arr a)) K' P' k' t1 t2/\Cq c a rd /\
  ∀ {w:World} {own:List Nat} {d ch:Nat} {b:Option Nat},Af w own d ch K P b->Spec Tryz.prog 19 #[.pointer (some ⟨d,0,none⟩),agg 24 (cH a),agg 3 c.cell] w fun v w'=>Bn own d ch K' P' b (t1++t2) (c.arr a) rd w v w':=by
 by_cases h1:c.kd<=2
 ·obtain⟨K',P',k',t1,t2,h,hc⟩:=afD I hq hm c.of_lt (f:=xI c.n) (mF _);have e:c.arr a=af a c.of c.n:=if_pos h1;refine⟨K',P',k',t1,t2,none,?_,⟨fun _=>rfl,fun h=>by omega⟩,fun D=>?_⟩
  ·rw[e, <-sL];exact h _ hs
  ·rw[e];exact ac8 D hw h1 (fun D1 hA he=>hc D1 hA he)
 ·by_cases h3:c.kd=3
  ·obtain⟨K',P',k',t1,t2,h,hc⟩:=aiP I hq hm c.of_lt;have e:c.arr a=af a c.of 0:=by
    unfold Cl.arr;rw[if_neg h1,if_pos h3]
   refine⟨K',P',k',t1,t2,none,?_,⟨fun _=>rfl,fun h=>by omega⟩,fun D=>?_⟩
   ·rw[e, <-sL];exact h _ hs
   ·rw[e];exact afN D hw h3 (fun D1=>hc D1)
  ·obtain⟨K',P',k',t2,F,h,hc⟩:=aiQ I hq hm c.of_lt;have e:c.arr a=a:=by
    unfold Cl.arr;rw[if_neg h1,if_neg h3]
   obtain⟨h4,h5⟩:=h _ hs;refine⟨K',P',k',[],t2,some F,?_,⟨fun h=>by omega,fun _=>⟨F,rfl,h5⟩⟩,fun D=>?_⟩
   ·rw[e];exact h4
   ·rw[e];exact afO D hw (by omega) (fun D1=>hc D1)
structure Aq(K K':KS)(P P':CS)(c:Nat):Prop where
 nil:c=0->K'=K/\P'=P
 go:0<=K.calls->K.calls<8->(0<=K'.calls/\K'.calls<8)/\∀J,Bc J->∀n,J n K P->J (n+c) K' P'
 did:∀J:KS->CS->Prop,(∀K P K' P',Dj K P K' P'->J K P->J K' P')->J K P->J K' P'
theorem Aq.refl(K:KS)(P:CS):Aq K K P P (130*0):=⟨fun _=>⟨rfl,rfl⟩,fun h0 h8=>⟨⟨h0,h8⟩,fun J S n j=>j⟩,fun J _ j=>j⟩
theorem Aq.step{K K1 K':KS}{P P1 P':CS}{m:Int}{a a':Nat->Nat->Nat}{k':Cp}{t1 t2:List CS}{i:Nat}(h:Aq K K1 P P1 (130*i))(E:A0 K1 P1 m a a' K' P' k' t1 t2):Aq K K' P P' (130*(i+1)):=⟨fun e=>by omega,fun h0 h8=>by
 obtain⟨⟨a1,a2⟩,a3⟩:=h.go h0 h8;obtain⟨⟨b1,b2,-⟩,b3⟩:=E.st a1 a2;exact⟨⟨b1,b2⟩,fun J S n j=>S.mono (by omega) (b3 J S _ (a3 J S n j))⟩,fun J st j=>st _ _ _ _ E.did (h.did J st j)⟩
def clF(L:List Cl)(q:Nat):Value:=(L.getD (q/3) ⟨0,0,0⟩).cell (q%3)
def bJ(a:Nat->Nat)(L:List Cl):Nat->Nat:=L.foldl (fun a c=>c.arr a) a
theorem u5(a:Nat->Nat)(L:List Cl)(c:Cl):bJ a (L++[c])=c.arr (bJ a L):=by
 unfold bJ;rw[List.foldl_append];rfl
theorem ajb{a:Nat->Nat}(h:∀o,a o<=1000000)(c:Cl):∀o,c.arr a o<=1000000:=fun o=>by
 have:=c.ac7;unfold Cl.arr;split
 ·unfold af;split
  ·exact this
  ·exact h o
 ·split
  ·unfold af;split
   ·omega
   ·exact h o
  ·exact h o
theorem abx{a:Nat->Nat}(h:∀o,a o<=1000000)(L:List Cl):∀o,bJ a L o<=1000000:=by
 induction L using ep with
 |h0=>exact h
 | h1 L c ih =>
  rw[u5];exact ajb ih c
theorem ale{L:List Cl}{i:Nat}(h:i<L.length):L.take (i+1)=L.take i++[L.getD i ⟨0,0,0⟩]:=by
 rw[List.take_add_one,List.getD_eq_getElem?_getD,List.getElem?_eq_getElem h];rfl
theorem ajc{L:List Cl}{i:Nat}(h:i<L.length):L.getD i ⟨0,0,0⟩∈L:=by
 rw[List.getD_eq_getElem?_getD,List.getElem?_eq_getElem h];exact List.getElem_mem h
theorem aby{w:World}{A:Option Addr}{L:List Cl}(r:Rd w A (L.length*3) (clF L)){i:Nat}(hi:i<L.length):∃g o,A=some ⟨g,o,none⟩/\∀j,j<3->w.cell? ⟨g,o+i*3+j,none⟩=some ((L.getD i ⟨0,0,0⟩).cell j):=by
 obtain⟨g,o,e,h⟩:=r (by omega);refine⟨g,o,e,fun j hj=>?_⟩;have:=h (i*3+j) (by omega);rw[<-Nat.add_assoc] at this;rw[this];unfold clF;rw[show(i*3+j)/3=i by omega,show(i*3+j)%3=j by omega]
theorem abz{w:World}{g o:Nat}{c:Cl}(h:∀j,j<3->w.cell? ⟨g,o+j,none⟩=some (c.cell j)):(loadVar 36 ⟨g,o,none⟩).run Tryz.prog w=.ok (agg 3 c.cell) w:=by
 have e:∀m,m<3->(load ((⟨g,o,none⟩:Addr).add m)).run Tryz.prog w=.ok (c.cell m) w:=fun m hm=>by
  rw[gJ];simp[load,Sem.run,h m hm]
 have ha:(isAgg 36).run Tryz.prog w=.ok true w:=ij underlying36 rfl w;have hs:(sizeOf 36).run Tryz.prog w=.ok 3 w:=df (by kernel_rfl) w;simp only[loadVar,Sem.run_bind,ha,Result.andThen_ok,if_true,hs,loadCells,loadCellsFrom,e 0 (by omega),e 1 (by omega),e 2 (by omega),Sem.run_pure];rw[show agg 3 c.cell=.agg #[c.cell 0,c.cell 1,c.cell 2] by unfold agg;simp[Array.range,Array.ofFn_succ]];rfl
theorem ajd(w:World)(x:Operand)(A:Option Addr)(n c:Nat):(do eqGuard .neq 37 x (.const (.slice none 0 0)) (.slice A n c) (.slice none 0 0);binOp .neq 37 (.slice A n c) (.slice none 0 0):Sem Value).run Tryz.prog w=.ok (.bool A.isSome) w:=by
 cases A<;>kernel_rfl
section
variable{w w':World}{own:List Nat}{d ch:Nat}{K:KS}{P:CS}{k:Cp}{m:Int}
structure Dt(w0:World)(afQ:List Nat)(d ch:Nat)(K:KS)(P:CS)(k:Cp)(m:Int)(a:Nat->Nat)(own:List Nat)(w:World):Prop where
 on:Af w own d ch K P none
 inv:Inv K P k m
 qu:K.qu=[]
 sh:Ac P K.at_ (qS a)
 sub:∀x,x∈own->x∈afQ\/w0.heap.size<=x
 kk:Aa afQ w0 w
theorem aje(D:Af w own d ch K P none)(I:Inv K P k m)(hq:K.qu=[]){a:Nat->Nat}(hs:Ac P K.at_ (qS a)){L:List Cl}{A:Option Addr}{cA:Nat}(hL:Rd w A (L.length*3) (clF L))(hw:∀c,c∈L->c.wf)(hA:0<L.length->∀x,A=some x->x.block∉own)(hm:m+2*L.length<1099511627775)(ha:∀o,a o<=1000000) :
  Spec Tryz.prog 41 #[.pointer (some ⟨d,0,none⟩),agg 24 (cH a),.slice A L.length cA] w fun v w'=>v=.tuple #[agg 24 (cH (bJ a L)),.bool true]/\∃K' P' k' bP,Dt w own d ch K' P' k' (m+2*L.length) (bJ a L) bP w'/\Aq K K' P P' (130*L.length):=by
 have aqW:1<=m:=by
  have:=I.l.next;omega
 have alC:∀(w1 w2:World),Aa [w.heap.size] w1 w2->Rd w1 A (L.length*3) (clF L)->Rd w2 A (L.length*3) (clF L):=fun w1 w2 k' h' zw=>by
  obtain⟨b0,o0,rfl,xQ⟩:=hL zw;have h9:b0<w.heap.size:=aI (xQ 0 zw);exact h'.ab k' (fun a e hm=>by
   cases e
   have h8:b0=w.heap.size:=List.mem_singleton.1 hm;omega) zw
 refine spec_of_wpE (T:=tt) ah func41 rfl (by decide +kernel) ntmps41 (by simp) ?_;conv=>whnf
 refine Ru.dt ?_;intro x4 w1 pY du r4 k1;conv=>whnf
 refine Ru.aF (cK w1) ?_;intro x6 w2 hx6 fE r6 k2;have lH:=r4.ab k2 (by simp);have dJ:=k1.trans k2;have D2:=D.aj dJ;have hL2:=hL.aj dJ;have nv:w.heap.size<=x4:=by omega
 have qR:w.heap.size<=x6:=by omega
 have h46:x4≠x6:=by omega
 rw[<-pY] at alC;clear r4 k1 k2 du fE pY hx6 w1;conv=>whnf
 repeat (refine CW.s ?_;conv=>whnf)
 refine CW.loop (ι:=Nat×KS×CS×Cp×List Nat) (fun i w'=>i.1<=L.length/\Dt w own d ch i.2.1 i.2.2.1 i.2.2.2.1 (m+2*i.1) (bJ a (L.take i.1)) i.2.2.2.2 w'/\Row w' x4 28 24 (cH (bJ a (L.take i.1)))/\Row w' x6 28 24 (cH fun _=>0)/\Rd w' A (L.length*3) (clF L)/\Aq K i.2.1 P i.2.2.1 (130*i.1))
  (fun i=>[(0,.pointer (some ⟨d,0,none⟩)),(2,.slice A L.length cA),(4,.pointer (some ⟨x4,0,none⟩)),(6,.pointer (some ⟨x6,0,none⟩)),(8,.int .i64 i.1)]) (fun i=>L.length-i.1) (0,K,P,k,own) ah
  ⟨by omega,⟨D2,by simpa using I,hq,hs,fun x hx=>.inl hx,dJ.mono (by simp)⟩,lH,r6,hL2,Aq.refl K P⟩ ⟨rfl,rfl,rfl,rfl,rfl,trivial⟩ ?_;clear D2 lH r6 hL2 dJ;rintro⟨i,K1,P1,k1,ac1⟩ wr ⟨hi,⟨D1,I1,q1,s1,sf,kk⟩,r4,r6,hLr,hz⟩;simp only at hi D1 I1 q1 s1 sf kk r4 r6 hLr hz ⊢;rcases Nat.lt_or_ge i L.length with av|xP
 ·obtain⟨g,o,rfl,bu⟩:=aby hLr av;have ky:=ale av;have oA:=hw _ (ajc av);have hgo:g∉ac1:=fun hx=>by
   rcases sf g hx with h|h
   ·exact hA (by omega) _ rfl h
   ·obtain⟨g',o',e',h'⟩:=hL (by omega)
    cases e'
    have h9:g<w.heap.size:=aI (h' 0 (by omega));omega
  generalize L.getD i ⟨0,0,0⟩=c at *;conv=>whnf
  repeat ((first|refine Br.y ?_|refine CW.s ?_);conv=>whnf)
  refine CW.held (fun w'=>Row w' x4 28 24 (cH (bJ a (L.take i)))/\∀j,j<3->w'.cell? ⟨g,o+i*3+j,none⟩=some (c.cell j)) [] (.take 0 (.take 1 (.take 2 (.take 3 (.take 4 (.take 5 (.two 6 (.take 7 (.take 8 (.take 9 (.take 10 (.one 11 (.one 12 (.take 13 (.take 14 (.done))))))))) 11 (.one 6 (.take 7 (.take 8 (.take 9 (.take 10 (.one 12 (.take 13 (.take 14 (.done)))))))))))))))) ah (by kernel_rfl) (by kernel_rfl) (by kernel_rfl) ?_ ?_
  ·exact⟨Row.drewN r4 1,bu⟩
  have q2:=(Aa.refl [] wr).drewN 1;have D2:=D1.aj q2;have lH:=r4.ab q2 (by simp);have yM:=r6.ab q2 (by simp);have hL2:=hLr.aj q2;have lT:∀j,j<3->(wr.drewN 1).cell? ⟨g,o+i*3+j,none⟩=some (c.cell j):=bu;have dJ:=kk.trans (q2.mono (T:=own) (by simp));clear D1 r4 r6 hLr bu kk q2;generalize wr.drewN 1=w2 at *;obtain⟨K2,P2,k2,t1,t2,rd,CE,An,gK⟩:=afP I1 q1 (by omega) oA s1;conv=>whnf
  repeat ((first|(refine Ad.of (fun w hS=>dL (q:=cH (bJ a (L.take i))) hS.1 underlying28 rfl aB (by omega) (fun j hj=>by rw[Nat.zero_add])) ?_)|(refine Ix.of i (by omega) (by omega) ?_)|(refine Ad.of (fun w hS=>abz hS.2) ?_));conv=>whnf)
  refine And.intro ?_ ?_
  case' refine_1 =>
   refine Ca.of (gK D2) ?_;rintro u w3 ⟨k3,hr3⟩;rcases hr3 with⟨f3,⟨Y,n,e,f,rfl,hm1,hm2⟩,own3,D3,h3⟩|⟨y,hy,jy,-⟩
   case inr=>cases jy
   have fU:=lH.ab k3 (D2.ck lH (by decide));have r63:=yM.ab k3 (D2.ck yM (by decide));have hL3:=hL2.ab k3 (fun x ex hm=>by cases ex;exact hgo hm);have hc3:∀j,j<3->w3.cell? ⟨g,o+i*3+j,none⟩=some (c.cell j):=fun j hj=>(k3.cell (aI (lT j hj)) hgo).trans (lT j hj);have bK:Aa own w w3:=dJ.then k3 sf;have fE:=dJ.size;have apf:∀x,x∈own3->x∈own\/w.heap.size<=x:=fun x hx=>by
    rcases h3 x hx with h|h
    ·exact sf x h
    ·exact .inr (Nat.le_trans fE h)
   have gG:=k3.size;clear D2 lH yM hL2 lT k3 h3;refine⟨⟨fU,hc3⟩,?_⟩;conv=>whnf
   refine Ru.aF (cK w3) ?_;intro x9 w4 hx9 ru r9 k4;refine⟨⟨fU.ab k4 (by simp),fun j hj=>(k4.cell (aI (hc3 j hj)) (by simp)).trans (hc3 j hj)⟩,?_⟩;conv=>whnf
   refine Ru.gY r9 aB (by omega) (fun j hj=>cr _ j) ?_;intro w5 rI k5;have rI:Row w5 x9 28 24 (cH (c.arr (bJ a (L.take i)))):=rI.congr (fun j hj=>by unfold lay;rw[if_pos (by omega),Nat.sub_zero]);have q5:Aa [] w3 w5:=k4.then k5 (fun x hx=>.inr (by rw[List.mem_singleton.1 hx,hx9];exact Nat.le_refl _));have hY5:rd=none\/Ly w5 5 1 Y n e (fun j=>.int .u8 (f j:Nat)):=by
    rcases hm2 with h|⟨h,-⟩
    ·exact .inl h
    ·exact .inr (h.aj q5)
   have D5:=D3.aj q5;have iD:=fU.ab q5 (by simp);have qx:=r63.ab q5 (by simp);have hL5:=hL3.aj q5;have hc5:∀j,j<3->w5.cell? ⟨g,o+i*3+j,none⟩=some (c.cell j):=fun j hj=>(q5.cell (aI (hc3 j hj)) (by simp)).trans (hc3 j hj);have dE:=bK.trans (q5.mono (T:=own) (by simp));have h49:x4≠x9:=by
    have:=fU.lt;omega
   clear D3 fU r63 hL3 hc3 k4 k5 r9 ru bK q5 hm2 hx9;refine⟨⟨iD,hc5⟩,?_⟩;conv=>whnf
   repeat ((first|refine Br.f ?_|refine Ru.ai ?_|refine CW.s ?_);conv=>whnf)
  case' refine_2 =>
   refine Ru.aF (cK w2) ?_;intro x9 w3 hx9 ru r9 k4;have h49:x4≠x9:=by
    have:=lH.lt;omega
   have h69:x6≠x9:=by
    have:=yM.lt;omega
   have hg9:g≠x9:=by
    have h9:g<w2.heap.size:=aI (lT 0 (by omega));omega
   have h9w:w.heap.size<=x9:=by
    have:=dJ.size;omega
   have D3:=D2.aj k4;have fU:=lH.ab k4 (by simp);have r63:=yM.ab k4 (by simp);have hL3:=hL2.aj k4;have hc3:∀j,j<3->w3.cell? ⟨g,o+i*3+j,none⟩=some (c.cell j):=fun j hj=>(k4.cell (aI (lT j hj)) (by simp)).trans (lT j hj);have bK:=dJ.trans (k4.mono (T:=own) (by simp));clear D2 lH yM hL2 lT dJ k4 ru hx9;refine⟨⟨fU,hc3⟩,?_⟩;conv=>whnf
   refine Ca.of (gK D3) ?_;rintro u w4 ⟨k3,hr3⟩;rcases hr3 with⟨f3,⟨Y,n,e,f,rfl,hm1,hm2⟩,own3,D4,h3⟩|⟨y,hy,jy,-⟩
   case inr=>cases jy
   have hJ:=fU.ab k3 (D3.ck fU (by decide));have vp:=r63.ab k3 (D3.ck r63 (by decide));have r94:=r9.ab k3 (D3.ck r9 (by decide));have hL4:=hL3.ab k3 (fun x ex hm=>by cases ex;exact hgo hm);have hc4:∀j,j<3->w4.cell? ⟨g,o+i*3+j,none⟩=some (c.cell j):=fun j hj=>(k3.cell (aI (hc3 j hj)) hgo).trans (hc3 j hj);have bT:Aa own w w4:=bK.then k3 sf;have fE:=bK.size;have apf:∀x,x∈own3->x∈own\/w.heap.size<=x:=fun x hx=>by
    rcases h3 x hx with h|h
    ·exact sf x h
    ·exact .inr (Nat.le_trans fE h)
   have gG:=k3.size;have h9l:=r9.lt;clear D3 fU r63 r9 hL3 hc3 k3 h3 bK;refine⟨⟨hJ,hc4⟩,?_⟩;conv=>whnf
   refine Ru.gY r94 aB (by omega) (fun j hj=>cr _ j) ?_;intro w5 rI k5;have rI:Row w5 x9 28 24 (cH (c.arr (bJ a (L.take i)))):=rI.congr (fun j hj=>by unfold lay;rw[if_pos (by omega),Nat.sub_zero]);have hY5:rd=none\/Ly w5 5 1 Y n e (fun j=>.int .u8 (f j:Nat)):=by
    rcases hm2 with h|⟨h,h'⟩
    ·exact .inl h
    ·exact .inr (h.ab k5 (fun x hx hm=>by
      have:=h' x hx;rw[List.mem_singleton.1 hm] at this;omega))
   have D5:=D4.gr r94 (by decide) k5;have iD:=hJ.ab k5 (by simpa using h49);have qx:=vp.ab k5 (by simpa using h69);have hL5:=hL4.ab k5 (fun x ex hm=>by cases ex;exact hg9 (List.mem_singleton.1 hm));have hc5:∀j,j<3->w5.cell? ⟨g,o+i*3+j,none⟩=some (c.cell j):=fun j hj=>(k5.cell (aI (hc4 j hj)) (by simpa using hg9)).trans (hc4 j hj);have dE:=bT.then k5 (fun x hx=>.inr (by rw[List.mem_singleton.1 hx];exact h9w));clear D4 hJ vp r94 hL4 hc4 k5 bT hm2 h69 hg9 h9w h9l;refine⟨⟨iD,hc5⟩,?_⟩;conv=>whnf
   repeat ((first|refine Br.f ?_|refine Ru.ai ?_|refine CW.s ?_);conv=>whnf)
  all_goals
   refine Ru.of (ajd w5 _ _ _ _) ?_;have bt:bJ a (L.take (i+1))=c.arr (bJ a (L.take i)):=by rw[ky,u5]
   have fin:∀w6,Aa [x4] w5 w6->Row w6 x4 28 24 (cH (c.arr (bJ a (L.take i))))->(i+1<=L.length/\Dt w own d ch K2 P2 k2 (m+2*(i+1:Nat)) (bJ a (L.take (i+1))) own3 w6/\Row w6 x4 28 24 (cH (bJ a (L.take (i+1))))/\Row w6 x6 28 24 (cH fun _=>0)/\Rd w6 (some ⟨g,o,none⟩) (L.length*3) (clF L)/\Aq K K2 P P2 (130*(i+1))):=fun w6 k6 ns=>by
    rw[bt];have I6:=CE.inv;rw[show m+2*((i:Nat):Int)+2=m+2*((i+1:Nat):Int) by omega] at I6;refine⟨av,⟨D5.gr iD (by decide) k6,I6,CE.qu,CE.sh,apf,dE.then k6 (fun x hx=>.inr (by rw[List.mem_singleton.1 hx];exact nv))⟩,ns,qx.ab k6 (by simpa using h46.symm),alC _ _ k6 hL5,hz.step CE⟩
   cases rd with
   | none =>
    obtain⟨rfl,rfl,rfl⟩:=hm1;conv=>whnf
    repeat ((first|refine Br.f ?_|refine Pk.f ?_);conv=>whnf)
    refine Ru.cG (q:=cH (c.arr (bJ a (L.take i)))) rI underlying28 rfl aB (by omega) (fun j hj=>by rw[Nat.zero_add]) ?_;conv=>whnf
    refine Ru.gY iD aB (by omega) (fun j hj=>cr _ j) ?_;intro w6 ns k6;have ns:Row w6 x4 28 24 (cH (c.arr (bJ a (L.take i)))):=ns.congr (fun j hj=>by unfold lay;rw[if_pos (by omega),Nat.sub_zero]);conv=>whnf
    repeat (refine Ar.la ?_;conv=>whnf)
    exact⟨(i+1,K2,P2,k2,own3),fin w6 k6 ns,⟨rfl,rfl,rfl,rfl,vi (by simp only;omega),trivial⟩,by simp only;omega⟩
   | some F =>
    obtain⟨apg,hfF⟩:=hm1;subst apg;have hkd:4<=c.kd:=by
     by_cases h:c.kd<=3
     ·have:=An.none h
      cases this
     ·omega
    obtain⟨F',hF',hFe⟩:=An.some hkd
    cases hF'
    have js:=c.of_lt;have hY6:Rd w5 Y 160 (fun j=>.int .u8 ((xI (bJ a (L.take i) c.of) j:Nat):Int)):=by
     rcases hY5 with h|h
     ·cases h
     ·have h2:=h.rd;rw[Nat.mul_one] at h2;intro hp;obtain⟨g1,o1,e1,h3⟩:=h2 hp;refine⟨g1,o1,e1,fun j hj=>?_⟩;rw[h3 j hj,hfF];show some (Value.int .u8 ((F j:Nat):Int))=_;rw[hFe j hj];rfl
    obtain⟨gy,oy,rfl,hcy⟩:=hY6 (by omega);have hY6:Rd w5 (some ⟨gy,oy,none⟩) 160 (fun j=>.int .u8 ((xI (bJ a (L.take i) c.of) j:Nat):Int)):=fun _=>⟨gy,oy,rfl,hcy⟩
    have ha1:=abx ha (L.take i) c.of;have c1:w5.cell? ⟨g,o+i*3+1,none⟩=some (.int .i64 c.a):=hc5 1 (by omega);have ca:w5.cell? ⟨x4,c.of,none⟩=some (.int .i64 (bJ a (L.take i) c.of:Nat)):=iD.cell c.of (by omega);have aqK:bA c.a 24=c.of:=rfl;conv=>whnf
    repeat ((first|(refine Ix.of i (by omega) (by omega) ?_)|(refine Ld.at (by omega) c1 ?_)|refine Br.t ?_|refine Br.f ?_);conv=>whnf)
    refine Ca.of (bQ c.a 24 oA.2.1 (by omega) w5) ?_;rintro _ _ ⟨rfl,rfl⟩;rw[aqK];conv=>whnf
    repeat ((first|(refine Ix.of c.of (by omega) (by omega) ?_)|(refine Ld.at (by omega) ca ?_)|refine Br.t ?_);conv=>whnf)
    refine Ca.of (kx _ (by omega) w5) ?_;rintro _ w6 ⟨gb,rfl,sP,rb,k6⟩;conv=>whnf
    repeat (refine Br.t ?_;conv=>whnf)
    refine Ca.of (qQ _ _ 160 160 _ _ (fun j=>((xI (bJ a (L.take i) c.of) j:Nat):Int)) (fun j=>((xI (bJ a (L.take i) c.of) j:Nat):Int)) w6 (hY6.aj k6) (Rd.dh rb (n:=160) (by omega)) (fun j=>by have:=mF (bJ a (L.take i) c.of) j;omega) (fun j=>by have:=mF (bJ a (L.take i) c.of) j;omega)) ?_;rintro _ _ ⟨rfl,rfl⟩;rw[jM rfl (fun _ _=>rfl)];have r96:=rI.ab k6 (by simp);have ns:=iD.ab k6 (by simp);conv=>whnf
    repeat ((first|refine Br.t ?_|refine Br.f ?_|refine Pk.f ?_|refine Pk.t ?_);conv=>whnf)
    refine Ru.cG (q:=cH (c.arr (bJ a (L.take i)))) r96 underlying28 rfl aB (by omega) (fun j hj=>by rw[Nat.zero_add]) ?_;conv=>whnf
    refine Ru.gY ns aB (by omega) (fun j hj=>cr _ j) ?_;intro w7 vU k7;have vU:Row w7 x4 28 24 (cH (c.arr (bJ a (L.take i)))):=vU.congr (fun j hj=>by unfold lay;rw[if_pos (by omega),Nat.sub_zero]);conv=>whnf
    repeat (refine Ar.la ?_;conv=>whnf)
    exact⟨(i+1,K2,P2,k2,own3),fin w7 ((k6.mono (by simp)).trans k7) vU,⟨rfl,rfl,rfl,rfl,vi (by simp only;omega),trivial⟩,by simp only;omega⟩
 ·obtain rfl:i=L.length:=by omega
  rw[List.take_length] at *;conv=>whnf
  repeat ((first|refine Br.n ?_|refine CW.s ?_);conv=>whnf)
  refine Ru.cG (q:=cH (bJ a L)) r4 underlying28 rfl aB (by omega) (fun j hj=>by rw[Nat.zero_add]) ?_;conv=>whnf
  refine Ru.gY r6 aB (by omega) (fun j hj=>cr _ j) ?_;intro w5 qx k5;have qx:Row w5 x6 28 24 (cH (bJ a L)):=qx.congr (fun j hj=>by unfold lay;rw[if_pos (by omega),Nat.sub_zero]);conv=>whnf
  refine Ru.cG (q:=cH (bJ a L)) qx underlying28 rfl aB (by omega) (fun j hj=>by rw[Nat.zero_add]) ?_;conv=>whnf
  exact⟨rfl,rfl,K1,P1,k1,ac1,⟨D1.gr r6 (by decide) k5,I1,q1,s1,sf,kk.then k5 (fun x hx=>.inr (by rw[List.mem_singleton.1 hx];exact qR))⟩,hz⟩
end
def CS.zero:CS:=⟨fun _=>.blank,fun _=>0,fun _=>0,fun _=>false,fun _=>0,fun _=>false⟩
theorem xJ:CS.zero.bare:=⟨⟨fun _=>rfl,fun _=>Int.le_refl 0,fun _=>rfl,fun _=>rfl⟩,fun _=>rfl⟩
theorem afR:Abs Chip.fresh CS.zero:=by
 refine⟨⟨Int.le_refl 0,by show(0:Int)<=9223372036854775807;omega,fun _=>by show(0:Int)<=9223372036854775807;omega,fun _ _ _=>by show 255<256;omega,fun _ _ _=>by show 255<256;omega⟩,fun p hp k hk=>⟨rfl,rfl⟩,fun p k hp hk=>?_,fun p t D hp e=>(by cases e),rfl,rfl,rfl,rfl,fun p k hp hk=>?_⟩
 ·rw[show Chip.fresh.ch p k=Chunk.blank from rfl];unfold Chunk.blank;rw[gP];omega
 ·rw[show Chip.fresh.ch p k=Chunk.blank from rfl];unfold Chunk.blank;rw[gP];exact Int.le_refl 0
theorem ac9:Chip.fresh.left none:=⟨rfl,rfl⟩
theorem ajf(w:World):(Instr.build 28 #[]).run Tryz.prog w=.ok (agg 24 (cH fun _=>0)) w:=by kernel_rfl
theorem aem(w:World)(x:Operand)(a:Addr):(do eqGuard .eql 24 x (.const (.pointer none)) (.pointer (some a)) (.pointer none);binOp .eql 24 (.pointer (some a)) (.pointer none):Sem Value).run Tryz.prog w=.ok (.bool false) w:=by kernel_rfl
structure CF(w0 w:World)(ch d:Nat)(own:List Nat)(K:KS)(P:CS)(k:Cp)(m:Int)(a:Nat->Nat):Prop where
 on:Af w own d ch K P none
 inv:Inv K P k m
 qu:K.qu=[]
 sh:Ac P K.at_ (qS a)
 new:∀x,x∈own->w0.heap.size<=x
 kk:Aa [] w0 w
theorem afS{w:World}{L:List Cl}{A:Option Addr}{cA:Nat}(hL:Rd w A (L.length*3) (clF L))(hw:∀c,c∈L->c.wf)(hn:L.length<=1048576) :
  Spec Tryz.prog 15 #[.slice A L.length cA] w fun v w'=>∃ch d own K P k,v=.tuple #[.pointer (some ⟨ch,0,none⟩),.pointer (some ⟨d,0,none⟩),agg 24 (cH (bJ (fun _=>0) L))]/\CF w w' ch d own K P k (2+2*L.length) (bJ (fun _=>0) L)/\∃K0 P0 tr0 k0,AV CS.zero K0 P0 tr0/\Inv K0 P0 k0 2/\Bm CS.zero K0 P0/\Aq K0 K P0 P (130*L.length):=by
 obtain⟨K0,P0,t0,k0,M0,I0,q0,fa0,s0⟩:=afK xJ;have s0:Ac P0 K0.at_ (qS fun _=>0):=s0;refine spec_of_wpE (T:=tt) ah func15 rfl (by decide +kernel) ntmps15 (by simp) ?_;conv=>whnf
 refine Ru.aF (cK w) ?_;intro x4 w1 pY du r4 k1;conv=>whnf
 refine Ru.of (ajf w1) ?_;conv=>whnf
 refine Ru.aF (cK w1) ?_;intro x5 w2 hx5 fE r5 k2;conv=>whnf
 refine Ru.gY r5 aB (by omega) (fun j hj=>cr _ j) ?_;intro w3 nR k3;have nR:Row w3 x5 28 24 (cH fun _=>0):=nR.congr (fun j hj=>by unfold lay;rw[if_pos (by omega),Nat.sub_zero]);have q3:Aa [] w1 w3:=k2.then k3 (fun x hx=>.inr (by rw[List.mem_singleton.1 hx,hx5];exact Nat.le_refl _));have fU:=r4.ab q3 (by simp);have bK:=k1.trans q3;have nv:w.heap.size<=x4:=by omega
 clear r4 r5 k1 k2 k3 q3 du fE pY hx5 w1 w2;conv=>whnf
 refine Ca.of (abU w3) ?_;rintro _ w4 ⟨rfl,H4,k4⟩;have hJ:=fU.ab k4 (by simp);have r54:=nR.ab k4 (by simp);have bT:=bK.trans k4;have sb:w.heap.size<=w3.heap.size:=bK.size;clear fU nR bK k4;generalize w3.heap.size=ch at *;conv=>whnf
 repeat (refine CW.s ?_;conv=>whnf)
 refine Ru.of (aem w4 _ _) ?_;conv=>whnf
 repeat (refine Br.f ?_;conv=>whnf)
 refine Ca.of (afM H4 afR ac9 xJ.1 M0 q0) ?_;rintro _ w5 ⟨k5,hr5⟩;rcases hr5 with⟨f5,d,own,rfl,D5,mC⟩|⟨y,hy,jy,-⟩
 case inr=>cases jy
 have iD:=hJ.ab k5 (by
  have:=Row.ed H4 hJ (by decide);simpa using this.symm)
 have r55:=r54.ab k5 (by
  have:=Row.ed H4 r54 (by decide);simpa using this.symm)
 have dE:Aa [] w w5:=bT.then k5 (fun x hx=>.inr (by rw[List.mem_singleton.1 hx];exact sb));have ru:=bT.size;have ajg:∀x,x∈own->w.heap.size<=x:=fun x hx=>by
  rcases mC x hx with h|h
  ·omega
  ·omega
 have hL5:=hL.aj dE;clear hJ r54 H4 k5 bT mC;conv=>whnf
 repeat (refine CW.s ?_;conv=>whnf)
 refine Ru.of (mG w5 _ _) ?_;conv=>whnf
 repeat (refine Br.f ?_;conv=>whnf)
 refine Ru.cG (q:=cH fun _=>0) r55 underlying28 rfl aB (by omega) (fun j hj=>by rw[Nat.zero_add]) ?_;conv=>whnf
 refine Ca.of (aje D5 I0 q0 s0 hL5 hw (fun hp x e hx=>?_) (by omega) (fun _=>by omega)) ?_
 ·obtain⟨g,o,e',h'⟩:=hL (by omega);rw[e'] at e
  cases e
  have h9:g<w.heap.size:=aI (h' 0 (by omega));have:=ajg _ hx;simp only at this;omega
 rintro _ w6 ⟨rfl,K6,P6,k6,anr,PI,hz⟩;have D6:=PI.on;have ns:=iD.ab PI.kk (D5.ck iD (by decide));have fX:Aa [] w w6:=dE.then PI.kk (fun x hx=>.inr (ajg x hx));have wu:=dE.size;have aph:∀x,x∈anr->w.heap.size<=x:=fun x hx=>by
  rcases PI.sub x hx with h|h
  ·exact ajg x h
  ·omega
 conv=>whnf
 refine Ru.aF (cK w6) ?_;intro x8 w7 hx8 hs7 r8 k7;conv=>whnf
 refine Ru.gY r8 aB (by omega) (fun j hj=>cr _ j) ?_;intro w8 r88 k8;have r88:Row w8 x8 28 24 (cH (bJ (fun _=>0) L)):=r88.congr (fun j hj=>by unfold lay;rw[if_pos (by omega),Nat.sub_zero]);have q8:Aa [] w6 w8:=k7.then k8 (fun x hx=>.inr (by rw[List.mem_singleton.1 hx,hx8];exact Nat.le_refl _));have D8:=D6.aj q8;have r48:=ns.ab q8 (by simp);have pK:=fX.trans q8;clear k7 k8 r8 hs7;conv=>whnf
 repeat ((first|refine Br.f ?_|refine CW.s ?_);conv=>whnf)
 refine CW.held (fun w'=>Row w' x8 28 24 (cH (bJ (fun _=>0) L))) [5] (.take 0 (.take 1 (.take 2 (.take 3 (.take 4 (.one 5 (.done))))))) ah (by kernel_rfl) (by kernel_rfl) (by kernel_rfl) ?_ ?_
 ·exact Row.drewN r88 1
 have q9:=(Aa.refl [] w8).drewN 1;have D9:=D8.aj q9;have r49:=r48.ab q9 (by simp);have r89:=r88.ab q9 (by simp);have kk9:=pK.trans q9;have h48:x8≠x4:=by
  have:=ns.lt;omega
 clear D8 r48 r88 pK q9;generalize w8.drewN 1=w9 at *;conv=>whnf
 repeat ((refine Ad.of (fun w hS=>dL (q:=cH (bJ (fun _=>0) L)) hS underlying28 rfl aB (by omega) (fun j hj=>by rw[Nat.zero_add])) ?_);conv=>whnf)
 refine Ru.gY r49 aB (by omega) (fun j hj=>cr _ j) ?_;intro yy ans yK;have ans:Row yy x4 28 24 (cH (bJ (fun _=>0) L)):=ans.congr (fun j hj=>by unfold lay;rw[if_pos (by omega),Nat.sub_zero]);refine Ru.cG (q:=cH (bJ (fun _=>0) L)) ans underlying28 rfl aB (by omega) (fun j hj=>by rw[Nat.zero_add]) ?_;conv=>whnf
 exact⟨rfl,ch,d,anr,K6,P6,k6,rfl,⟨D9.gr r49 (by decide) yK,PI.inv,PI.qu,PI.sh,aph,kk9.then yK (fun x hx=>.inr (by rw[List.mem_singleton.1 hx];exact nv))⟩,K0,P0,t0,k0,M0,I0,fa0,hz⟩
theorem ajh{w:World}{L:List Cl}{A:Option Addr}{cA:Nat}(hL:Rd w A (L.length*3) (clF L))(hw:∀c,c∈L->c.wf)(hn:L.length<=1048576) :
  Spec Tryz.prog 15 #[.slice A L.length cA] w fun v w'=>∃ch d own K P k,v=.tuple #[.pointer (some ⟨ch,0,none⟩),.pointer (some ⟨d,0,none⟩),agg 24 (cH (bJ (fun _=>0) L))]/\CF w w' ch d own K P k (2+2*L.length) (bJ (fun _=>0) L) :=
 (afS hL hw hn).mono fun v w' h=>by
  obtain⟨ch,d,own,K,P,k,e,B,-⟩:=h;exact⟨ch,d,own,K,P,k,e,B⟩
section
variable{w w':World}{own:List Nat}{d ch:Nat}{K:KS}{P:CS}{b:Option Nat}
theorem Af.dz(D:Af w own d ch K P b):∃C,Ab w ch C/\Abs C P/\C.left b:=by
 obtain⟨N,X,c,n,e,r,h,eC,hq⟩:=D;obtain⟨C,M,hA,hl⟩:=h.qC;exact⟨C,by rw[<-eC];exact M.dz,hA,hl⟩
end
def inF(L:List Int)(q:Nat):Value:=.int .i64 (L.getD q 0)
theorem alf{L:List Int}{i:Nat}(h:i<L.length):L.getD i 0∈L:=by
 rw[List.getD_eq_getElem?_getD,List.getElem?_eq_getElem h];exact List.getElem_mem h
section
variable{w w':World}{own:List Nat}{d ch:Nat}{K:KS}{P:CS}{b:Option Nat}{kk:Cp}{a':Nat->Nat->Nat}{ok:Value->KS->CS->Prop}{dead:Value->CS->Prop}
theorem abA(D:Af w own d ch K P b){c:Cl}(hw:c.wf)(hk:c.kd<=2){a:Nat->Nat}
  (gK:∀ {w1:World} {A:Option Addr} {e:Nat},Af w1 own d ch K P b->AH w1 A 160 (xI c.n)->160<=e->Spec Tryz.prog 45 #[.pointer (some ⟨d,0,none⟩),.int .i64 c.of,.slice A 160 e] w1 fun v w'=>Au own d ch b w1 w' (ok v) (dead v)) :
  Spec Tryz.prog 19 #[.pointer (some ⟨d,0,none⟩),agg 24 (cH a),agg 3 c.cell] w fun v w'=>∃u,v=.tuple #[agg 24 (cH (af a c.of c.n)),.slice none 0 0,u]/\Au own d ch b w w' (ok u) (dead u):=by
 have js:=c.of_lt;have hn:=c.ac7;have e1:bA c.a 24=c.of:=rfl;have e2:1+bA c.x 1000000=c.n:=rfl;have e3:bA c.kind 6=c.kd:=rfl;refine spec_of_wpE (T:=tt) ah func19 rfl (by decide +kernel) ntmps19 (by simp) ?_;conv=>whnf
 refine Ru.dt ?_;intro x4 w1 pY du r4 k1;conv=>whnf
 refine Ru.dt ?_;intro x5 w2 hx5 fE r5 k2;conv=>whnf
 refine Ru.aF (cK w2) ?_;intro x6 w3 hx6 gG r6 k3;have fU:=r4.ab (k2.trans k3) (by simp);have nR:=r5.ab k3 (by simp);have bK:=(k1.trans k2).trans k3;have D3:=D.aj bK;have nv:w.heap.size<=x4:=by omega
 have qR:w.heap.size<=x6:=by omega
 have h46:x4≠x6:=by omega
 clear r4 r5 k1 k2 k3 du fE gG pY hx5 hx6 w1 w2 D;have c0:w3.cell? ⟨x5,0,none⟩=some (.int .i64 c.kind):=nR.cell 0 (by omega);have c1:w3.cell? ⟨x5,1,none⟩=some (.int .i64 c.a):=nR.cell 1 (by omega);have c2:w3.cell? ⟨x5,2,none⟩=some (.int .i64 c.x):=nR.cell 2 (by omega);conv=>whnf
 repeat ((refine Ld.at (by omega) c1 ?_);conv=>whnf)
 refine Ca.of (bQ c.a 24 hw.2.1 (by omega) w3) ?_;rintro _ _ ⟨rfl,rfl⟩;rw[e1];conv=>whnf
 repeat ((refine Ld.at (by omega) c2 ?_);conv=>whnf)
 refine Ca.of (bQ c.x 1000000 hw.2.2 (by omega) w3) ?_;rintro _ _ ⟨rfl,rfl⟩;have e2':(1:Int)+((bA c.x 1000000:Nat):Int)=(c.n:Nat):=by rw[<-e2];omega
 have hb:=dB c.x (n:=1000000) (by omega);conv=>whnf
 repeat ((first|(refine Ld.at (by omega) c0 ?_)|refine Ar.la ?_|refine CW.s ?_);conv=>whnf)
 rw[e2'];refine Ca.of (bQ c.kind 6 hw.1 (by omega) w3) ?_;rintro _ _ ⟨rfl,rfl⟩;rw[e3];have hk3:c.kd=0\/c.kd=1\/c.kd=2:=by omega
 rcases hk3 with h|h|h
 all_goals
  rw[h];conv=>whnf
  repeat ((first|(refine Ix.of c.of (by omega) (by omega) ?_)|refine Br.t ?_|refine Br.f ?_|refine CW.s ?_);conv=>whnf)
  rw[show 0+0+c.of=c.of by omega];refine Sd.rowAt fU c.of (by omega) (by omega) rfl ?_;intro w4 hJ k4;have hJ:Row w4 x4 28 24 (cH (af a c.of c.n)):=hJ.congr (fun j hj=>zr a c.of c.n j);have D4:=D3.gr fU (by decide) k4;have vp:=r6.ab k4 (by simpa using h46.symm);have bT:=bK.fresh nv k4;have ru:=bT.size;clear D3 fU r6 k4 bK c0 c1 c2 nR;conv=>whnf
  refine CW.held (fun w'=>Row w' x4 28 24 (cH (af a c.of c.n))) [] (.take 0 (.take 1 (.take 2 (.take 3 (.one 4 (.one 5 (.one 6 (.take 7 (.take 8 (.done)))))))))) ah (by kernel_rfl) (by kernel_rfl) (by kernel_rfl) ?_ ?_
  ·exact Row.drewN hJ 1
  have q4:=(Aa.refl [] w4).drewN 1;have D5:=D4.aj q4;have iD:=hJ.ab q4 (by simp);have qx:=vp.ab q4 (by simp);have dE:=bT.trans q4;clear D4 hJ vp bT q4;generalize w4.drewN 1=w5 at *;conv=>whnf
  repeat ((refine Ad.of (fun w hS=>dL (q:=cH (af a c.of c.n)) hS underlying28 rfl aB (by omega) (fun j hj=>by rw[Nat.zero_add])) ?_);conv=>whnf)
  refine Ca.of (kx c.n (by omega) w5) ?_;rintro _ w6 ⟨g,rfl,hg,rg,k6⟩;have D6:=D5.aj k6;have ns:=iD.ab k6 (by simp);have r66:=qx.ab k6 (by simp);have fX:=dE.trans k6;clear D5 iD qx dE k6 hg;refine⟨ns,?_⟩;conv=>whnf
  refine Ca.of (gK D6 (Rd.dh rg (n:=160) (by omega)) (by omega)) ?_;rintro u w7 ⟨k7,hr7⟩;have vU:=ns.ab k7 (D6.ck ns (by decide));have tM:=r66.ab k7 (D6.ck r66 (by decide));have hs6:=fX.size;have av:=D6.lp;refine⟨vU,?_⟩;conv=>whnf
  refine Ru.gY tM aB (by omega) (fun j hj=>cr _ j) ?_;intro w8 oO k8;have oO:Row w8 x6 28 24 (cH (af a c.of c.n)):=oO.congr (fun j hj=>by unfold lay;rw[if_pos (by omega),Nat.sub_zero]);refine⟨vU.ab k8 (by simpa using h46),?_⟩;conv=>whnf
  refine Ru.cG (q:=cH (af a c.of c.n)) oO underlying28 rfl aB (by omega) (fun j hj=>by rw[Nat.zero_add]) ?_;conv=>whnf
  have mH:=D6.ck r66 (by decide);have iY:=D6.jD;refine⟨rfl,u,rfl,((fX.mono (T:=own) (by simp)).trans k7).then k8 (fun x hx=>.inr (by rw[List.mem_singleton.1 hx];exact qR)),?_⟩;rcases hr7 with⟨K7,P7,b7,bP,vT,D7,h7,rv⟩|⟨vT,Q,cO,hd7⟩
  ·refine .inl ⟨K7,P7,b7,bP,vT,D7.gr tM (by decide) k8,fun x hx=>?_,rv⟩;rcases h7 x hx with h|h
   ·exact .inl h
   ·exact .inr (Nat.le_trans hs6 h)
  ·exact .inr ⟨vT,Q,cO.ab k8 (fun hm=>mH (by rw[<-List.mem_singleton.1 hm];exact iY.1)) (fun hm=>mH (by rw[<-List.mem_singleton.1 hm];exact iY.2)),hd7⟩
theorem ada(D:Af w own d ch K P b){c:Cl}(hw:c.wf)(hk:c.kd=3){a:Nat->Nat}
  (gK:∀ {w1:World},Af w1 own d ch K P b->Spec Tryz.prog 17 #[.pointer (some ⟨d,0,none⟩),.int .i64 c.of] w1 fun v w'=>Au own d ch b w1 w' (ok v) (dead v)) :
  Spec Tryz.prog 19 #[.pointer (some ⟨d,0,none⟩),agg 24 (cH a),agg 3 c.cell] w fun v w'=>∃u,v=.tuple #[agg 24 (cH (af a c.of 0)),.slice none 0 0,u]/\Au own d ch b w w' (ok u) (dead u):=by
 have js:=c.of_lt;have hn:=c.ac7;have e1:bA c.a 24=c.of:=rfl;have e2:1+bA c.x 1000000=c.n:=rfl;have e3:bA c.kind 6=c.kd:=rfl;refine spec_of_wpE (T:=tt) ah func19 rfl (by decide +kernel) ntmps19 (by simp) ?_;conv=>whnf
 refine Ru.dt ?_;intro x4 w1 pY du r4 k1;conv=>whnf
 refine Ru.dt ?_;intro x5 w2 hx5 fE r5 k2;conv=>whnf
 refine Ru.aF (cK w2) ?_;intro x6 w3 hx6 gG r6 k3;have fU:=r4.ab (k2.trans k3) (by simp);have nR:=r5.ab k3 (by simp);have bK:=(k1.trans k2).trans k3;have D3:=D.aj bK;have nv:w.heap.size<=x4:=by omega
 have qR:w.heap.size<=x6:=by omega
 have h46:x4≠x6:=by omega
 clear r4 r5 k1 k2 k3 du fE gG pY hx5 hx6 w1 w2 D;have c0:w3.cell? ⟨x5,0,none⟩=some (.int .i64 c.kind):=nR.cell 0 (by omega);have c1:w3.cell? ⟨x5,1,none⟩=some (.int .i64 c.a):=nR.cell 1 (by omega);have c2:w3.cell? ⟨x5,2,none⟩=some (.int .i64 c.x):=nR.cell 2 (by omega);conv=>whnf
 repeat ((refine Ld.at (by omega) c1 ?_);conv=>whnf)
 refine Ca.of (bQ c.a 24 hw.2.1 (by omega) w3) ?_;rintro _ _ ⟨rfl,rfl⟩;rw[e1];conv=>whnf
 repeat ((refine Ld.at (by omega) c2 ?_);conv=>whnf)
 refine Ca.of (bQ c.x 1000000 hw.2.2 (by omega) w3) ?_;rintro _ _ ⟨rfl,rfl⟩;have e2':(1:Int)+((bA c.x 1000000:Nat):Int)=(c.n:Nat):=by rw[<-e2];omega
 have hb:=dB c.x (n:=1000000) (by omega);conv=>whnf
 repeat ((first|(refine Ld.at (by omega) c0 ?_)|refine Ar.la ?_|refine CW.s ?_);conv=>whnf)
 rw[e2'];refine Ca.of (bQ c.kind 6 hw.1 (by omega) w3) ?_;rintro _ _ ⟨rfl,rfl⟩;rw[e3];rw[hk];conv=>whnf
 repeat ((first|(refine Ix.of c.of (by omega) (by omega) ?_)|refine Br.t ?_|refine Br.f ?_|refine CW.s ?_);conv=>whnf)
 rw[show 0+0+c.of=c.of by omega];refine Sd.rowAt fU c.of (by omega) (by omega) rfl ?_;intro w4 hJ k4;have hJ:Row w4 x4 28 24 (cH (af a c.of 0)):=hJ.congr (fun j hj=>zr a c.of 0 j);have D4:=D3.gr fU (by decide) k4;have vp:=r6.ab k4 (by simpa using h46.symm);have bT:=bK.fresh nv k4;have ru:=bT.size;clear D3 fU r6 k4 bK c0 c1 c2 nR;conv=>whnf
 refine CW.held (fun w'=>Row w' x4 28 24 (cH (af a c.of 0))) [] (.take 0 (.take 1 (.take 2 (.one 3 (.one 4 (.take 5 (.take 6 (.done)))))))) ah (by kernel_rfl) (by kernel_rfl) (by kernel_rfl) ?_ ?_
 ·exact Row.drewN hJ 1
 have q4:=(Aa.refl [] w4).drewN 1;have D5:=D4.aj q4;have iD:=hJ.ab q4 (by simp);have qx:=vp.ab q4 (by simp);have dE:=bT.trans q4;clear D4 hJ vp bT q4;generalize w4.drewN 1=w6 at *;conv=>whnf
 repeat ((refine Ad.of (fun w hS=>dL (q:=cH (af a c.of 0)) hS underlying28 rfl aB (by omega) (fun j hj=>by rw[Nat.zero_add])) ?_);conv=>whnf)
 have D6:=D5;have ns:=iD;have r66:=qx;have fX:=dE;clear D5 iD qx dE;refine Ca.of (gK D6) ?_;rintro u w7 ⟨k7,hr7⟩;have vU:=ns.ab k7 (D6.ck ns (by decide));have tM:=r66.ab k7 (D6.ck r66 (by decide));have hs6:=fX.size;have av:=D6.lp;refine⟨vU,?_⟩;conv=>whnf
 refine Ru.gY tM aB (by omega) (fun j hj=>cr _ j) ?_;intro w8 oO k8;have oO:Row w8 x6 28 24 (cH (af a c.of 0)):=oO.congr (fun j hj=>by unfold lay;rw[if_pos (by omega),Nat.sub_zero]);refine⟨vU.ab k8 (by simpa using h46),?_⟩;conv=>whnf
 refine Ru.cG (q:=cH (af a c.of 0)) oO underlying28 rfl aB (by omega) (fun j hj=>by rw[Nat.zero_add]) ?_;conv=>whnf
 have mH:=D6.ck r66 (by decide);have iY:=D6.jD;refine⟨rfl,u,rfl,((fX.mono (T:=own) (by simp)).trans k7).then k8 (fun x hx=>.inr (by rw[List.mem_singleton.1 hx];exact qR)),?_⟩;rcases hr7 with⟨K7,P7,b7,bP,vT,D7,h7,rv⟩|⟨vT,Q,cO,hd7⟩
 ·refine .inl ⟨K7,P7,b7,bP,vT,D7.gr tM (by decide) k8,fun x hx=>?_,rv⟩;rcases h7 x hx with h|h
  ·exact .inl h
  ·exact .inr (Nat.le_trans hs6 h)
 ·exact .inr ⟨vT,Q,cO.ab k8 (fun hm=>mH (by rw[<-List.mem_singleton.1 hm];exact iY.1)) (fun hm=>mH (by rw[<-List.mem_singleton.1 hm];exact iY.2)),hd7⟩
theorem adb(D:Af w own d ch K P b){c:Cl}(hw:c.wf)(hk:4<=c.kd){a:Nat->Nat}
  (gK:∀ {w1:World},Af w1 own d ch K P b->Spec Tryz.prog 22 #[.pointer (some ⟨d,0,none⟩),.int .i64 c.of] w1 fun v w'=>CD a' c.of K P own d ch b w1 v w') :
  Spec Tryz.prog 19 #[.pointer (some ⟨d,0,none⟩),agg 24 (cH a),agg 3 c.cell] w fun v w'=>Au own d ch b w w' (fun K' P'=>(∃(Y:Option Addr) (e:Nat) (f:Nat->Nat),v=.tuple #[agg 24 (cH a),.slice Y 160 e,ak 0]/\Ly w' 5 1 Y 160 e (fun j=>.int .u8 (f j:Nat))/\(∀x,x∈aR Y->w.heap.size<=x)/\∀j,j<160->f j=a' c.of j)/\A1 a' K P K' P') (fun Q=>v=.tuple #[agg 24 (cH a),.slice none 0 0,ak 7]/\Tw Q 1099511627775 a'):=by
 have js:=c.of_lt;have hn:=c.ac7;have e1:bA c.a 24=c.of:=rfl;have e2:1+bA c.x 1000000=c.n:=rfl;have e3:bA c.kind 6=c.kd:=rfl;refine spec_of_wpE (T:=tt) ah func19 rfl (by decide +kernel) ntmps19 (by simp) ?_;conv=>whnf
 refine Ru.dt ?_;intro x4 w1 pY du r4 k1;conv=>whnf
 refine Ru.dt ?_;intro x5 w2 hx5 fE r5 k2;conv=>whnf
 refine Ru.aF (cK w2) ?_;intro x6 w3 hx6 gG r6 k3;have fU:=r4.ab (k2.trans k3) (by simp);have nR:=r5.ab k3 (by simp);have bK:=(k1.trans k2).trans k3;have D3:=D.aj bK;have nv:w.heap.size<=x4:=by omega
 have qR:w.heap.size<=x6:=by omega
 have h46:x4≠x6:=by omega
 clear r4 r5 k1 k2 k3 du fE gG pY hx5 hx6 w1 w2 D;have c0:w3.cell? ⟨x5,0,none⟩=some (.int .i64 c.kind):=nR.cell 0 (by omega);have c1:w3.cell? ⟨x5,1,none⟩=some (.int .i64 c.a):=nR.cell 1 (by omega);have c2:w3.cell? ⟨x5,2,none⟩=some (.int .i64 c.x):=nR.cell 2 (by omega);conv=>whnf
 repeat ((refine Ld.at (by omega) c1 ?_);conv=>whnf)
 refine Ca.of (bQ c.a 24 hw.2.1 (by omega) w3) ?_;rintro _ _ ⟨rfl,rfl⟩;rw[e1];conv=>whnf
 repeat ((refine Ld.at (by omega) c2 ?_);conv=>whnf)
 refine Ca.of (bQ c.x 1000000 hw.2.2 (by omega) w3) ?_;rintro _ _ ⟨rfl,rfl⟩;have e2':(1:Int)+((bA c.x 1000000:Nat):Int)=(c.n:Nat):=by rw[<-e2];omega
 have hb:=dB c.x (n:=1000000) (by omega);conv=>whnf
 repeat ((first|(refine Ld.at (by omega) c0 ?_)|refine Ar.la ?_|refine CW.s ?_);conv=>whnf)
 rw[e2'];refine Ca.of (bQ c.kind 6 hw.1 (by omega) w3) ?_;rintro _ _ ⟨rfl,rfl⟩;rw[e3];have amF:c.kd<6:=dB _ (by omega);have hk3:c.kd=4\/c.kd=5:=by omega
 rcases hk3 with h|h
 all_goals
  rw[h];conv=>whnf
  repeat ((first|refine Br.f ?_|refine CW.s ?_);conv=>whnf)
  refine Ca.of (gK D3) ?_;rintro u w7 ⟨k7,hr7⟩;have vU:=fU.ab k7 (D3.ck fU (by decide));have tM:=r6.ab k7 (D3.ck r6 (by decide));have mH:=D3.ck r6 (by decide);have iY:=D3.jD;have av:=D3.lp;have gG:=bK.size;have hs7:=k7.size;have aqJ:=r6.lt;have fin:∀w8,Aa [x6] w7 w8->Aa own w w8:=fun w8 k8=>((bK.mono (T:=own) (by simp)).trans k7).then k8 (fun x hx=>.inr (by rw[List.mem_singleton.1 hx];exact qR));rcases hr7 with⟨K7,P7,b7,bP,vT,D7,h7,⟨Y,e,f,rfl,hY,hYn,hf⟩,hC⟩|⟨vT,Q,cO,rfl,nF⟩
  ·conv=>whnf
   refine Ru.cG (q:=cH a) vU underlying28 rfl aB (by omega) (fun j hj=>by rw[Nat.zero_add]) ?_;conv=>whnf
   refine Ru.gY tM aB (by omega) (fun j hj=>cr _ j) ?_;intro w8 oO k8;have oO:Row w8 x6 28 24 (cH a):=oO.congr (fun j hj=>by unfold lay;rw[if_pos (by omega),Nat.sub_zero]);conv=>whnf
   refine Ru.cG (q:=cH a) oO underlying28 rfl aB (by omega) (fun j hj=>by rw[Nat.zero_add]) ?_;conv=>whnf
   refine⟨rfl,fin w8 k8,.inl ⟨K7,P7,b7,bP,vT,D7.gr tM (by decide) k8,fun x hx=>?_,⟨Y,e,f,rfl,hY.ab k8 (fun x hx hm=>?_),fun x hx=>Nat.le_trans gG (hYn x hx),hf⟩,hC⟩⟩
   ·rcases h7 x hx with h|h
    ·exact .inl h
    ·exact .inr (Nat.le_trans gG h)
   ·have:=hYn x hx;rw[List.mem_singleton.1 hm] at this;omega
  ·conv=>whnf
   refine Ru.cG (q:=cH a) vU underlying28 rfl aB (by omega) (fun j hj=>by rw[Nat.zero_add]) ?_;conv=>whnf
   refine Ru.gY tM aB (by omega) (fun j hj=>cr _ j) ?_;intro w8 oO k8;have oO:Row w8 x6 28 24 (cH a):=oO.congr (fun j hj=>by unfold lay;rw[if_pos (by omega),Nat.sub_zero]);conv=>whnf
   refine Ru.cG (q:=cH a) oO underlying28 rfl aB (by omega) (fun j hj=>by rw[Nat.zero_add]) ?_;conv=>whnf
   exact⟨rfl,fin w8 k8,.inr ⟨vT,Q,cO.ab k8 (fun hm=>mH (by rw[<-List.mem_singleton.1 hm];exact iY.1)) (fun hm=>mH (by rw[<-List.mem_singleton.1 hm];exact iY.2)),rfl,nF⟩⟩
inductive Dc (a:Nat->Nat) (c:Cl) (K:KS) (P:CS) (w w':World) (v:Value) (K':KS) (P':CS):Prop
 |done:c.kd<=3->v=.tuple #[agg 24 (cH (c.arr a)),.slice none 0 0,ak 0]->A1 (qS (c.arr a)) K P K' P'->Dc a c K P w w' v K' P'
 |not:c.kd<=3->v=.tuple #[agg 24 (cH (c.arr a)),.slice none 0 0,ak 14]->A1 (qS a) K P K' P'->(AI K P->K.next+120<=1099511627775->False)->Dc a c K P w w' v K' P'
 |read {Y:Option Addr} {e:Nat} {f:Nat->Nat}:4<=c.kd->v=.tuple #[agg 24 (cH a),.slice Y 160 e,ak 0]->Ly w' 5 1 Y 160 e (fun j=>.int .u8 (f j:Nat))->(∀x,x∈aR Y->w.heap.size<=x)->(∀j,j<160->f j=qS a c.of j)->A1 (qS a) K P K' P'->Dc a c K P w w' v K' P'
theorem aji(D:Af w own d ch K P b){c:Cl}(hw:c.wf){a:Nat->Nat}(W:Wi (qS a) kk K P) :
  Spec Tryz.prog 19 #[.pointer (some ⟨d,0,none⟩),agg 24 (cH a),agg 3 c.cell] w fun v w'=>Au own d ch b w w' (Dc a c K P w w' v) (fun Q=>v=.tuple #[agg 24 (cH (c.arr a)),.slice none 0 0,ak 7]/\(Tw Q 1099511627775 (qS a)\/Tw Q 1099511627775 (qS (c.arr a)))):=by
 by_cases h1:c.kd<=2
 ·have e:c.arr a=af a c.of c.n:=if_pos h1;refine(abA D hw h1 (fun D1 hA he=>ac2 D1 W c.of_lt (mF _) hA he)).mono ?_;rintro v w' ⟨u,rfl,hu⟩;rw[sL] at hu;rw[e];refine hu.mono (fun K' P' h=>?_) (fun Q h=>?_)
  ·rcases h with⟨rfl,h⟩|⟨rfl,h,hr⟩
   ·exact .done (by omega) (by rw[e]) (by rw[e];exact h)
   ·exact .not (by omega) (by rw[e]) h hr
  ·obtain⟨rfl,h⟩:=h;exact⟨rfl,h⟩
 ·by_cases h3:c.kd=3
  ·have e:c.arr a=af a c.of 0:=by
    unfold Cl.arr;rw[if_neg h1,if_pos h3]
   refine(ada D hw h3 (fun D1=>afG D1 W c.of_lt)).mono ?_;rintro v w' ⟨u,rfl,hu⟩;have e0:gU (qS a) c.of (fun _=>0)=qS (af a c.of 0):=sL a c.of 0;rw[e0] at hu;rw[e];refine hu.mono (fun K' P' h=>?_) (fun Q h=>?_)
   ·rcases h with⟨rfl,h⟩|⟨rfl,h,hr⟩
    ·exact .done (by omega) (by rw[e]) (by rw[e];exact h)
    ·exact .not (by omega) (by rw[e]) h hr
   ·obtain⟨rfl,h⟩:=h;exact⟨rfl,h⟩
  ·have e:c.arr a=a:=by
    unfold Cl.arr;rw[if_neg h1,if_neg h3]
   refine(adb D hw (by omega) (fun D1=>xG D1 W c.of_lt)).mono ?_;rintro v w' hu;rw[e];refine hu.mono (fun K' P' h=>?_) (fun Q h=>?_)
   ·obtain⟨⟨Y,e',f,rfl,h2,h3',h4⟩,h5⟩:=h;exact .read (by omega) rfl h2 h3' h4 h5
   ·exact⟨h.1,.inl h.2⟩
end
theorem Inv.wi{K:KS}{P:CS}{k:Cp}{m:Int}(I:Inv K P k m){a:Nat->Nat->Nat}(hs:Ac P K.at_ a)(hm:m<=1099511627775):Wi a k K P/\AI K P/\∀B,¬P.may B:=by
 have gd:=I.l.ok.gd;have eV:=I.l.ok.eV;have nx:=I.l.next;have ajj:∀B,¬P.may B:=fun B h=>by
  rcases h with h|h|h
  ·rw[gd.calm.f] at h;cases h
  ·have:=gd.calm.b B;omega
  ·rw[gd.calm.e] at h;cases h
 refine⟨⟨⟨⟨gd.val,fun p q t t' D D' hp hq e e' hs=>?_,nx.1⟩,eV.pt,eV.data,eV.told,fun o ho=>by rw[I.l.fl o ho];exact nx.2.2.2 o ho,fun o ho e=>?_,fun o ho e q t D hq h1 h2 _=>?_⟩,hs,I.l.en,I.l.fl,by omega,I.l.fh,I.h.hb,I.h.cur,fun b hb=>by have:=I.b.st b hb;omega,I.b.pn,I.b.fb,I.b.fi,I.b.bl,I.b.fst,I.b.fr,fun b hb e=>?_,fun _ o ho e=>?_⟩,⟨I.b.ni,by rw[ad1 I.b];omega,by rw[ad1 I.b];have:=I.free;omega,0,fun B _ h=>absurd h (ajj B),fun _ h=>absurd h (ajj 0)⟩,ajj⟩
 ·by_cases hpq:p=q
  ·subst hpq;rw[e] at e'
   cases e'
   exact⟨rfl,rfl⟩
  ·obtain⟨g1,g2,_⟩:=gd.seq p q t t' D D' hp hq hpq e e' hs;exact⟨g1,g2⟩
 ·obtain⟨hp,t,D,e1,e2,e3,e4⟩:=eV.yes o ho e;refine⟨t.seq,⟨hp,eV.bad _ (by omega),⟨t,D,e1,e2,rfl⟩,fun q t' D' hq h1 h2 _=>?_⟩,e3⟩;by_cases hqp:q=K.at_ o-1
  ·subst hqp;rw[e1] at h1
   cases h1
   exact Int.le_refl _
  ·rcases e4 q t' D' hq hqp h1 h2 with x|⟨x,_⟩<;>omega
 ·have:=eV.no o (by omega) e q t D hq h1 h2;rw[fR k ho] at this;exact this
 ·rw[eV.bad b hb] at e
  cases e
 ·obtain⟨hp,t,D,e1,_⟩:=eV.yes o ho e;have h2:=I.b.st ((K.at_ o-1)/8) (by omega);have h0:K.st ((K.at_ o-1)/8)≠0:=fun h=>by
   have:=I.b.bl ((K.at_ o-1)/8) ((K.at_ o-1)%8) (by omega) h (by omega);rw[show(K.at_ o-1)/8*8+(K.at_ o-1)%8=K.at_ o-1 by omega,e1] at this
   cases this
  by_cases h1:K.st ((K.at_ o-1)/8)=1
  ·exact .inr (I.b.ni _ (by omega) h1)
  ·exact .inl (by omega)
section
variable{w w':World}{own:List Nat}{d ch:Nat}{K:KS}{P:CS}{b:Option Nat}
theorem Af.ajk(D:Af w own d ch K P b){C':Chip}{P':CS}{b':Option Nat}(k:Aa [ch] w w')(H:Ab w' ch C')(hA:Abs C' P')(hl:C'.left b'):Af w' own d ch K P' b':=by
 obtain⟨N,X,c,n,e,r,h,eC,hq⟩:=D;obtain⟨C,M,hA0,hl0⟩:=h.qC;have hd:d≠ch:=Row.ed r (show Ab w ch C by rw[<-eC];exact M.dz) (by decide);subst eC;exact⟨N,X,c,n,e,Row.ab r k (by simpa using hd),h.dz (k.mono (fun x hx=>by rw[List.mem_singleton.1 hx];simp[Pt.l])) ⟨C',M.yF k H,hA,hl⟩,rfl,hq⟩
structure DC(w0:World)(afQ:List Nat)(d ch:Nat)(a:Nat->Nat)(K:KS)(P:CS)(own:List Nat)(w:World):Prop where
 on:Af w own d ch K P none
 wi:∃k,Wi (qS a) k K P
 sub:∀x,x∈own->x∈afQ\/w0.heap.size<=x
 kk:Aa afQ w0 w
theorem rM{w:World}{k:Cp}(D:Af w own d ch K P none){a:Nat->Nat}(W:Wi (qS a) k K P)(ha:∀o,a o<=1000000) :
  Spec Tryz.prog 25 #[.pointer (some ⟨d,0,none⟩),agg 24 (cH a)] w fun v w'=>v=.bool true/\∃K' P' bP,DC w own d ch a K' P' bP w':=by
 refine spec_of_wpE (T:=tt) ah func25 rfl (by decide +kernel) ntmps25 (by simp) ?_;conv=>whnf
 refine Ru.dt ?_;intro x3 w1 hx3 du r3 k1;have D1:=D.aj k1;conv=>whnf
 repeat (refine CW.s ?_;conv=>whnf)
 refine CW.loop (ι:=Nat×KS×CS×List Nat) (fun i w'=>i.1<=24/\DC w own d ch a i.2.1 i.2.2.1 i.2.2.2 w'/\Row w' x3 28 24 (cH a))
  (fun i=>[(0,.pointer (some ⟨d,0,none⟩)),(3,.pointer (some ⟨x3,0,none⟩)),(5,.int .i64 i.1)]) (fun i=>24-i.1) (0,K,P,own) ah
  ⟨by omega,⟨D1,⟨k,W⟩,fun x hx=>.inl hx,k1.mono (by simp)⟩,r3⟩ ⟨rfl,rfl,rfl,trivial⟩ ?_;clear D1 r3 k1;rintro⟨i,K1,P1,ac1⟩ wr ⟨hi,⟨D1,⟨k1,W1⟩,sf,kk⟩,r3⟩;simp only at hi D1 W1 sf kk r3 ⊢;rcases Nat.lt_or_ge i 24 with av|xP
 ·conv=>whnf
  repeat ((first|refine Br.y ?_|refine CW.s ?_);conv=>whnf)
  refine Ca.of (xG D1 W1 (s:=i) av) ?_;rintro u w2 ⟨k2',⟨K2,P2,b2,aqL,qk,D2,h2',⟨Y,e,F,rfl,hY,hYn,hF⟩,hC⟩|⟨qk,_⟩⟩
  case inr=>exact absurd rfl qk
  obtain rfl:=qk rfl;have r32:=r3.ab k2' (D1.ck r3 (by decide));have ca:w2.cell? ⟨x3,i,none⟩=some (.int .i64 (a i:Nat)):=r32.cell i (by omega);have hYr:Rd w2 Y 160 (fun j=>.int .u8 ((xI (a i) j:Nat):Int)):=by
   have h3:=hY.rd;rw[Nat.mul_one] at h3;intro hp;obtain⟨g1,o1,e1,h4⟩:=h3 hp;refine⟨g1,o1,e1,fun j hj=>?_⟩;rw[h4 j hj];show some (Value.int .u8 ((F j:Nat):Int))=_;rw[hF j hj];rfl
  have ha1:=ha i;have fE:=kk.size;conv=>whnf
  repeat ((first|(refine Ix.of i (by omega) (by omega) ?_)|(refine Ld.at (by omega) ca ?_)|refine Br.f ?_|refine Ru.ai ?_);conv=>whnf)
  refine Ca.of (kx _ (by omega) w2) ?_;rintro _ w3 ⟨gb,rfl,sP,rb,k3⟩;conv=>whnf
  repeat (refine Br.f ?_;conv=>whnf)
  refine Ca.of (qQ _ _ 160 160 _ _ (fun j=>((xI (a i) j:Nat):Int)) (fun j=>((xI (a i) j:Nat):Int)) w3 (hYr.aj k3) (Rd.dh rb (n:=160) (by omega)) (fun j=>by have:=mF (a i) j;omega) (fun j=>by have:=mF (a i) j;omega)) ?_;rintro _ _ ⟨rfl,rfl⟩;rw[jM rfl (fun _ _=>rfl)];conv=>whnf
  repeat ((first|refine Br.f ?_|refine Pk.f ?_|refine Ar.la ?_);conv=>whnf)
  refine⟨(i+1,K2,P2,aqL),⟨av,⟨D2.aj k3,hC.w,fun x hx=>?_,(kk.then k2' sf).trans (k3.mono (by simp))⟩,r32.ab k3 (by simp)⟩,⟨rfl,rfl,vi (by simp only;omega),trivial⟩,by simp only;omega⟩;rcases h2' x hx with h|h
  ·exact sf x h
  ·exact .inr (Nat.le_trans fE h)
 ·obtain rfl:i=24:=by omega
  conv=>whnf
  repeat ((first|refine Br.f ?_|refine CW.s ?_);conv=>whnf)
  exact⟨rfl,rfl,K1,P1,ac1,D1,⟨k1,W1⟩,sf,kk⟩
end
def qc(k:Cp)(K:KS):Nat->KS
 |0=>K
 |b+1=>if k.bad b=true then { qc k K b with st:=aG (qc k K b).st b 3 } else if 0<lv K.at_ b then { qc k K b with st:=aG (qc k K b).st b 2 } else qc k K b
theorem abB(k:Cp)(K:KS):qc k K 0=K:=rfl
theorem abC(k:Cp)(K:KS)(b:Nat):qc k K (b+1)=if k.bad b=true then { qc k K b with st:=aG (qc k K b).st b 3 } else if 0<lv K.at_ b then { qc k K b with st:=aG (qc k K b).st b 2 } else qc k K b:=rfl
theorem abD(k:Cp)(K:KS):∀b,∃st,qc k K b={ K with st:=st }
 |0=>⟨K.st,rfl⟩
 | b+1=>by
  obtain⟨st,h⟩:=abD k K b;unfold qc;split
  ·rw[h];exact⟨_,rfl⟩
  ·split
   ·rw[h];exact⟨_,rfl⟩
   ·exact⟨st,h⟩
theorem ajl(k:Cp){K:KS}(h0:K.st=fun _=>0):∀n b,(qc k K n).st b=if b<n then (if k.bad b=true then 3 else if 0<lv K.at_ b then 2 else 0) else 0
 | 0,b=>by
  rw[abB,h0,if_neg (by omega)]
 | n+1,b=>by
  have ih:=ajl k h0 n;have en:(qc k K n).st n=0:=by rw[ih n,if_neg (by omega)]
  have s3:aG (qc k K n).st n 3=af (qc k K n).st n 3:=if_neg (fun x=>x.2 rfl);have s2:aG (qc k K n).st n 2=af (qc k K n).st n 2:=if_neg (fun x=>by omega);rw[abC];by_cases eQ:b=n
  ·subst eQ;rw[if_pos (show b<b+1 by omega)];by_cases hb:k.bad b=true
   ·rw[if_pos hb,if_pos hb];show aG (qc k K b).st b 3 b=3;rw[s3];exact if_pos rfl
   ·rw[if_neg hb,if_neg hb];by_cases hl:0<lv K.at_ b
    ·rw[if_pos hl,if_pos hl];show aG (qc k K b).st b 2 b=2;rw[s2];exact if_pos rfl
    ·rw[if_neg hl,if_neg hl];exact en
  ·have e:(if b<n+1 then (if k.bad b=true then 3 else if 0<lv K.at_ b then 2 else 0) else 0)=(qc k K n).st b:=by
    rw[ih b];by_cases h:b<n
    ·rw[if_pos h,if_pos (by omega)]
    ·rw[if_neg h,if_neg (by omega)]
   rw[e];split
   ·show aG (qc k K n).st n 3 b=_;rw[s3];exact if_neg eQ
   ·split
    ·show aG (qc k K n).st n 2 b=_;rw[s2];exact if_neg eQ
    ·rfl
def nwW(k:Cp)(L:List Fd):KS:=qc k (dq k L 25) 12
structure BZ(k:Cp)(L:List Fd):Prop where
 told:k.told
 mw:∀i,i<=25->AK (dq k L i).at_ (dq k L i).ow
 set:∀i,i<25->0<=bw L k i->bw L k i<96/\iR (dq k L i).ow i (bw L k i).toNat=0
section
variable{w w':World}{N:Cr}{K:KS}{X:Option Addr}{c:Nat}{P:CS}{b:Option Nat}{n:Int}
attribute [local irreducible] dq qc bw ko lv fW
theorem afT{C:Chip}{ch:Nat}(H:Ab w ch C)(hA:Abs C P)(hl:C.left b){k:Cp}{L:List Fd}(Hk:BZ k L){A:Option Addr}{cA:Nat}(hr:Rd w A (L.length*6) (jn L))(hn:L.length*48<=140737488351232) :
  Spec Tryz.prog 76 #[.pointer (some ⟨ch,0,none⟩),agg 62 k.cell,.slice A L.length cA] w fun v w'=>∃N:Cr,v=.tuple #[.pointer (some ⟨N.k,0,none⟩),ak 0]/\On w' N (nwW k L) P b 0 none 0/\N.N.c=ch/\(∀x,x∈N.all->x=ch\/w.heap.size<=x)/\Aa [] w w':=by
 have acm:∀(w1 w2:World) (x:Nat),w.heap.size<=x->Aa [x] w1 w2->Rd w1 A (L.length*6) (jn L)->Rd w2 A (L.length*6) (jn L):=fun w1 w2 x hx k' h' zw=>by
  obtain⟨b0,o0,rfl,xQ⟩:=hr zw;have:=aI (xQ 0 zw);exact h'.ab k' (fun a e hm=>by
   cases e
   have:=List.mem_singleton.1 hm;simp only at *;omega) zw
 have ht:=Hk.told;have sb:ch<w.heap.size:=Row.lt H;refine spec_of_wpE (T:=tt) ah func76 rfl (by decide +kernel) ntmps76 (by simp) ?_;conv=>whnf
 refine Ru.dt ?_;intro x4 w1 pY du r4 k1;conv=>whnf
 repeat (refine CW.s ?_;conv=>whnf)
 refine Ru.of (mB w1 _ _) ?_;conv=>whnf
 repeat ((first|refine Br.f ?_|refine CW.s ?_);conv=>whnf)
 refine Ru.ve r4 underlying116 rfl bz (by omega) ?_;rw[br (fun j _=>by rw[Nat.zero_add]:∀j,j<62->k.cell (0+j)=k.cell j)];conv=>whnf
 refine Ca.of (iE w1 k ht) ?_;rintro _ w2 ⟨y,hy,rfl,ry,k2⟩;have lH:=r4.ab k2 (by simp);have H2:=H.ab (k1.trans k2) (by simp);have sB:=hr.aj (k1.trans k2);have dJ:=k1.trans k2;have nv:w.heap.size<=x4:=by omega
 clear r4 H hr k1 k2 ry hy du pY w1;conv=>whnf
 repeat ((first|refine Br.f ?_|refine Ru.ai ?_);conv=>whnf)
 refine CW.held (fun w'=>Row w' x4 116 62 k.cell) [] (.take 0 (.take 1 (.take 2 (.take 3 (.one 4 (.take 5 (.take 6 (.take 7 (.take 8 (.take 9 (.done))))))))))) ah (by kernel_rfl) (by kernel_rfl) (by kernel_rfl) ?_ ?_
 ·exact Row.drewN lH 1
 have q2:=(Aa.refl [] w2).drewN 1;have H3:=H2.ab q2 (by simp);have fU:=lH.ab q2 (by simp);have hr3:=sB.aj q2;have bK:=dJ.trans q2;clear H2 lH sB dJ q2;generalize w2.drewN 1=w3 at *;have rdr:Rd w3 (some ⟨x4,38,none⟩) 12 (fun j=>.int .i64 (jB k j)):=fun _=>⟨x4,38,rfl,fun j hj=>by
  rw[fU.cell (38+j) (by omega),k.m6 hj];unfold jB;simp only[if_pos hj]⟩
 have rds:Rd w3 (some ⟨x4,50,none⟩) 12 (fun j=>.int .i64 (jl k j)):=fun _=>⟨x4,50,rfl,fun j hj=>by
  rw[fU.cell (50+j) (by omega),k.m7 hj];unfold jl;simp only[if_pos hj]⟩
 have ane:Hl.adK 12 12 (jB k) (jl k):=⟨rfl,rfl,fun j hj=>by
  unfold jB jl;rw[if_pos hj,if_pos hj];exact⟨(ht.rd j hj).1,(ht.sc j hj).1⟩⟩
 conv=>whnf
 refine Ad.of (fun w _=>jZ x4 38 w) ?_;conv=>whnf
 refine Ad.of (fun w _=>jZ x4 50 w) ?_;conv=>whnf
 refine Ca.of (Hl.yj _ _ 12 12 12 12 (jB k) (jl k) w3 rdr rds (fun j=>?_) (fun j=>?_)) ?_
 ·unfold jB;split
  ·have:=ht.rd j ‹_›;omega
  ·omega
 ·unfold jl;split
  ·have:=ht.sc j ‹_›;omega
  ·omega
 rintro _ w4 ⟨k4,gN⟩;rcases gN with⟨-,h,rfl,rh,hh⟩|⟨lV,-⟩
 case inr=>exact absurd ane lV
 have hJ:=fU.ab k4 (by simp);have H4:=H3.ab k4 (by simp);have hr4:=hr3.aj k4;have bT:=bK.trans k4;have hhw:w.heap.size<=h:=Nat.le_trans bK.size hh;clear fU H3 hr3 bK k4 rdr rds;refine⟨hJ,?_⟩;have ue:=ht.cur;obtain⟨cur,aiB⟩:∃cur:Nat,k.cur=cur:=⟨k.cur.toNat,by omega⟩;have c37:w4.cell? ⟨x4,37,none⟩=some (.int .i64 cur):=by
  rw[<-aiB];exact hJ.cell 37 (by omega)
 conv=>whnf
 repeat ((first|(refine Ld.at (by omega) c37 ?_)|refine Br.f ?_|refine Ru.ai ?_|refine CW.s ?_);conv=>whnf)
 refine Ca.of (wV (cur:=cur) (by omega)) ?_;rintro _ w5 ⟨q,rfl,rq,hq,k5⟩;have iD:=hJ.ab k5 (by simp);have H5:=H4.ab k5 (by simp);have hr5:=hr4.aj k5;have rh5:=Row.ab rh k5 (by simp);have dE:=bT.trans k5;have hqw:w.heap.size<=q:=Nat.le_trans bT.size hq;clear hJ H4 hr4 rh bT k5;conv=>whnf
 repeat ((first|refine Br.f ?_|refine Ru.ai ?_|refine CW.s ?_);conv=>whnf)
 refine CW.held (fun w'=>Row w' x4 116 62 k.cell) [] (.take 0 (.take 4 (.take 6 (.take 7 (.take 8 (.take 9 (.take 10 (.take 11 (.two 1 (.two 2 (.two 3 (.two 5 (.one 12 (.take 13 (.one 14 (.take 15 (.done))))) 12 (.one 5 (.take 13 (.one 14 (.take 15 (.done)))))) 5 (.one 3 (.one 12 (.take 13 (.one 14 (.take 15 (.done))))))) 5 (.one 2 (.one 3 (.one 12 (.take 13 (.one 14 (.take 15 (.done)))))))) 5 (.one 1 (.one 2 (.one 3 (.one 12 (.take 13 (.one 14 (.take 15 (.done))))))))))))))))) ah (by kernel_rfl) (by kernel_rfl) (by kernel_rfl) ?_ ?_
 ·exact Row.drewN iD 1
 have q5:=(Aa.refl [] w5).drewN 1;have hS:Bf w x4 ch h q k C A L (Hl.ot (jB k) (jl k)) cur none none none none (w5.drewN 1):=⟨dE.trans q5,iD.ab q5 (by simp),H5.ab q5 (by simp),hr5.aj q5,Row.ab rh5 q5 (by simp),Row.ab rq q5 (by simp),(fun _ h=>nomatch h),(fun _ h=>nomatch h),(fun _ h=>nomatch h),(fun _ h=>nomatch h)⟩;clear H5 iD hr5 rh5 rq dE q5;generalize w5.drewN 1=w6 at *;have hwf:=ad4 ht;conv=>whnf
 repeat' ((first|(refine And.intro ?_ ?_)|(refine Ad.of (fun w _=>pM w) ?_)|(refine Ad.of (fun w hS=>dL (q:=fun j=>.int .i64 (k.fl j)) hS underlying114 rfl gq (by omega) (fun j hj=>by rw[show 0+0+j=j by omega];exact k.iu hj)) ?_)|(refine Ad.of (fun w hS=>dL (q:=k.cell) hS underlying116 rfl bz (by omega) (fun j hj=>by rw[Nat.zero_add])) ?_)|(refine Ca.of (yG _ ch C hS.chp) ?_;rintro _ w7 ⟨m,f,cd,g,hh',hmw,hfw,oA,hgw,aqq,rfl,M7,k7⟩;replace hS:=(hS.ab k7).aoF M7 (Nat.le_trans hS.kk.size hmw) (Nat.le_trans hS.kk.size hgw);refine⟨hS.s,?_⟩)|(refine Ca.of (ud (w:=_)) ?_;rintro _ w8 ⟨p,rfl,rp,hp,k8⟩;replace hS:=(hS.ab k8).aoG rp (Nat.le_trans hS.kk.size hp);refine⟨hS.s,?_⟩)|(refine Ca.of (wQ (w:=_)) ?_;rintro _ w9 ⟨a,rfl,ra,ha,k9⟩;replace hS:=(hS.ab k9).aoH ra (Nat.le_trans hS.kk.size ha);refine⟨hS.s,?_⟩)|(refine Ru.dt ?_;intro r yy hrr hs10 rr yK;replace hS:=(hS.ab yK).aoI rr (by have:=hS.kk.size;omega);refine⟨hS.s,?_⟩)|(refine Ca.of (adI A cA L k _ hS.hr hn hwf) ?_;rintro _ zy ⟨rfl,lD⟩;replace hS:=hS.ab lD;refine⟨hS.s,?_⟩)|refine HS.t ?_|refine Br.t ?_|refine Br.f ?_|refine Pk.f ?_|refine Pk.t ?_|refine Pk.and ?_|refine Pk.or ?_|refine Ix.n ?_|refine Ix.of _ (by rfl) (by omega) ?_|refine Ix.i ?_|refine Ar.la ?_|refine Ar.lb ?_|refine Ar.lc ?_|refine Dv.q ?_|refine Dv.r ?_|refine Br.y ?_|refine Br.n ?_|refine Br.ny ?_|refine Br.nn ?_|refine Br.is (by assumption) ?_|refine Br.bF (by assumption) ?_|refine Ld.of (by assumption) ?_|refine Ru.ai ?_|refine Ru.n1 ?_|refine Ru.au ?_|refine Ru.e1 ?_|refine Ru.e2 ?_|refine Ru.e3 ?_|refine Ru.n2 ?_|refine Ru.n3 ?_|refine Ru.ax rfl ?_|refine Ru.aC rfl ?_|refine Ru.aE rfl (by decide) ?_|refine Ru.ay rfl (by decide) ?_|refine Ru.be ?_|refine Ru.bn ?_|refine Ad.be ?_|refine Ad.bn ?_|refine CW.s ?_|refine Br.d (fun _=>?_) (fun _=>?_)|refine Br.nd (fun _=>?_) (fun _=>?_)|refine Br.mk (fun _=>?_) (fun _=>?_))<;>conv=>whnf)
 all_goals
  refine Ad.of (fun w _=>uR ⟨0,⟨m,ch,f,cd,g,hh'⟩,p,a,r,h,q⟩ k L w) ?_;conv=>whnf
  refine Ru.dt ?_;intro z wz hz sQ rz kz;have hzw:w.heap.size<=z:=by have:=hS.kk.size;omega
  replace hS:=hS.ab kz;refine⟨hS.s,?_⟩;have hcc:k.cur.toNat=cur:=by omega
  rw[<-hcc] at hS;have hON:=hS.on hA hl rz;have cu:∀x,x∈(⟨z,⟨m,ch,f,cd,g,hh'⟩,p,a,r,h,q⟩:Cr).all->x=ch\/w.heap.size<=x:=fun x hx=>by
   have h1:w.heap.size<=m/\w.heap.size<=g:=(hS.m _ rfl).2.2;have h2:=(hS.p _ rfl).2;have h3:=(hS.a _ rfl).2;have h4:=(hS.r _ rfl).2;simp only[Cr.all,Cr.own,Pt.l,List.cons_append,List.nil_append,List.mem_cons,List.not_mem_nil,or_false] at hx;omega
  have mC:∀x,x∈(⟨z,⟨m,ch,f,cd,g,hh'⟩,p,a,r,h,q⟩:Cr).own->w.heap.size<=x:=fun x hx=>by
   have h2:=(hS.p _ rfl).2;have h3:=(hS.a _ rfl).2;have h4:=(hS.r _ rfl).2;simp only[Cr.own,List.mem_cons,List.not_mem_nil,or_false] at hx;omega
  have r4z:=hS.r4;have hrz:=hS.hr;have kkz:=hS.kk;generalize hN:(⟨z,⟨m,ch,f,cd,g,hh'⟩,p,a,r,h,q⟩:Cr)=N at *;have eN:z=N.k:=by rw[<-hN]
  have eC:N.N.c=ch:=by rw[<-hN]
  subst eN;clear hS rz kz sQ hN;conv=>whnf
  repeat (refine CW.s ?_;conv=>whnf)
  refine Ru.ve r4z underlying116 rfl bz (by omega) ?_;rw[br (fun j _=>by rw[Nat.zero_add]:∀j,j<62->k.cell (0+j)=k.cell j)];conv=>whnf
  refine Ca.of (adT A cA L k wz hrz hn) ?_;rintro _ v1 ⟨rfl,kv⟩;have on0:On v1 N (dq k L 0) P b 0 none 0:=by
   rw[mz];exact hON.aj kv
  have r4v:=r4z.ab kv (by simp);have hrv:=hrz.aj kv;have kkv:=kkz.trans kv;clear hON r4z hrz kkz kv;conv=>whnf
  refine CW.loop (ι:=Nat) (fun i w'=>i<=25/\On w' N (dq k L i) P b 0 none 0/\Row w' x4 116 62 k.cell/\Rd w' A (L.length*6) (jn L)/\Aa [] w w')
   (fun i=>[(2,.slice A L.length cA),(4,.pointer (some ⟨x4,0,none⟩)),(13,.pointer (some ⟨N.k,0,none⟩)),(68,agg 25 (fun j=>.int .i64 (bw L k j))),(69,.int .i64 i)]) (fun i=>25-i) 0 ah ⟨by omega,on0,r4v,hrv,kkv⟩ ⟨rfl,rfl,rfl,rfl,rfl,trivial⟩ ?_;clear on0 r4v hrv kkv;rintro i wr ⟨hi,hr,r4,y7,kk⟩;rcases Nat.lt_or_ge i 25 with av|xP
  ·have hmw:=Hk.mw i hi;have bt:=mA k L i;by_cases acQ:bw L k i<0
   ·rw[if_pos acQ] at bt;conv=>whnf
    repeat ((first|(refine Ru.idx underlying59 av (by kernel_rfl) ?_)|refine Ar.la ?_|refine Br.y ?_|refine CW.s ?_);conv=>whnf)
    exact⟨i+1,⟨av,by rw[bt];exact hr,r4,y7,kk⟩,⟨rfl,rfl,rfl,rfl,vi (by omega),trivial⟩,by simp only;omega⟩
   ·rw[if_neg acQ] at bt;obtain⟨h96,yu⟩:=Hk.set i av (by omega);obtain⟨pl,hpl⟩:∃pl:Nat,bw L k i=pl:=⟨(bw L k i).toNat,by omega⟩;have ack:(bw L k i).toNat=pl:=by omega
    rw[ack] at bt yu;rw[hpl] at acQ h96 bt;have vR:(Value.int .i64 (bw L k i))=.int .i64 (pl:Int):=by rw[hpl]
    have hfn:ko L (i:Int) (pl:Int)=ko L i (pl:Nat):=rfl;conv=>whnf
    repeat ((first|(refine Ru.idx underlying59 av (by kernel_rfl) ?_;rw[vR])|(refine Ld.of hr.core.c2 ?_)|refine Br.f ?_|refine Br.y ?_|refine CW.s ?_);conv=>whnf)
    refine Ca.of (yX hr.core.map hmw i pl (by omega) (by omega)) ?_;rintro _ w3 ⟨rfl,m3,k3⟩;have h3:=hr.map k3 m3;rw[yu];have bK:=kk.fresh (mC N.a (by simp[Cr.own])) k3;have fU:=r4.ab k3 (by
     have:=Row.ed hr.core.map r4 (by decide);simpa using this.symm)
    have acR:=acm _ _ _ (mC N.a (by simp[Cr.own])) k3 y7;clear hr r4 y7 kk m3 k3;conv=>whnf
    repeat ((first|refine Br.f ?_|refine Ru.ai ?_);conv=>whnf)
    refine CW.held (fun w'=>Rd w' A (L.length*6) (jn L)) [] (.take 0 (.take 1 (.take 2 (.take 3 (.take 4 (.take 6 (.take 7 (.one 5 (.take 8 (.one 9 (.done))))))))))) ah (by kernel_rfl) (by kernel_rfl) (by kernel_rfl) ?_ ?_
    ·exact acR.aj ((Aa.refl [] w3).drewN 1)
    have q3:=(Aa.refl [] w3).drewN 1;have h4:=h3.aj q3;have hJ:=fU.ab q3 (by simp);have acS:=acR.aj q3;have bT:=bK.trans q3;clear h3 fU acR bK q3;generalize w3.drewN 1=w4 at *;conv=>whnf
    refine Ca.of (aa8 A cA L i pl w4 acS hn) ?_;rintro _ w5 ⟨rfl,k5⟩;have h5:=h4.aj k5;have iD:=hJ.ab k5 (by simp);have aiC:=acS.aj k5;have dE:=bT.trans k5;clear h4 hJ acS bT k5;refine⟨aiC,?_⟩;conv=>whnf
    repeat ((refine Ix.of i (by omega) (by omega) ?_);conv=>whnf)
    rw[show 0+7+i*3=7+3*i by omega];refine Ru.gY h5.core.row dK (by omega) (fun j _=>En.bH _) ?_;intro w6 r6 k6;have h6:=h5.row (K':={ dq k L i with at_:=(setAt (dq k L i).at_ (dq k L i).ow i pl).1,ow:=(setAt (dq k L i).at_ (dq k L i).ow i pl).2,en:=af (dq k L i).en i (ko L i pl) }) k6 r6 (fun j hj=>uu i (by omega) _ j hj) rfl;have aiD:Rd w6 A (L.length*6) (jn L):=acm _ _ _ (mC N.k (by simp[Cr.own])) k6 aiC;refine⟨aiD,?_⟩;conv=>whnf
    repeat (refine Ar.la ?_;conv=>whnf)
    refine⟨i+1,⟨av,?_,iD.ab k6 (by
     have:=h5.core.row.ed iD (by decide);simpa using this.symm),aiD,dE.fresh (mC N.k (by simp[Cr.own])) k6⟩,⟨rfl,rfl,rfl,rfl,vi (by omega),trivial⟩,by simp only;omega⟩
    rw[bt];exact h6
  ·obtain rfl:i=25:=by omega
   conv=>whnf
   repeat ((first|(refine Ld.of hr.core.c2 ?_)|refine Br.f ?_|refine CW.s ?_);conv=>whnf)
   refine Ca.of (fc hr.core.map (Hk.mw 25 (Nat.le_refl _)).la) ?_;rintro _ v2 ⟨gl,rfl,rgl,qm,kl⟩;have h2:=hr.aj kl;have lH:=r4.ab kl (by simp);have dJ:=kk.trans kl;have aqr:w.heap.size<=gl:=Nat.le_trans kk.size qm;clear hr r4 y7 kk kl;conv=>whnf
   repeat (refine CW.s ?_;conv=>whnf)
   refine Ru.cG (q:=fun j=>.bool (k.bad j)) lH underlying63 rfl (by kernel_rfl:(Tryz.prog.info? 63).map (·.size)=some 12) (by omega) (fun j hj=>by rw[show 0+25+j=25+j by omega];exact k.jT hj) ?_;conv=>whnf
   refine CW.loop (ι:=Nat) (fun i w'=>i<=12/\On w' N (qc k (dq k L 25) i) P b 0 none 0/\Row w' gl 3 12 (fun b=>.int .i64 (lv (dq k L 25).at_ b:Nat))/\Aa [] w w')
    (fun i=>[(13,.pointer (some ⟨N.k,0,none⟩)),(17,.slice (some ⟨gl,0,none⟩) 12 12),(101,agg 12 (fun j=>.bool (k.bad j))),(102,.int .i64 i)]) (fun i=>12-i) 0 ah ⟨by omega,by rw[abB];exact h2,rgl,dJ⟩ ⟨rfl,rfl,rfl,rfl,trivial⟩ ?_;clear h2 lH rgl dJ;rintro i wr ⟨hi,hr,rg,kk⟩;rcases Nat.lt_or_ge i 12 with av|xP
   ·have ci:=rg.cell i av;have bt:=abC k (dq k L 25) i;by_cases cL:k.bad i=true
    ·have l8:(Value.bool (k.bad i))=.bool true:=by rw[cL]
     rw[if_pos cL] at bt;conv=>whnf
     repeat ((first|(refine Ru.idx underlying63 av (by kernel_rfl) ?_;rw[l8])|(refine Ld.of hr.core.c1 ?_)|refine Br.t ?_|refine Br.y ?_|refine CW.s ?_);conv=>whnf)
     refine Ca.of (eK hr.core.aY i 3 av (by omega)) ?_;rintro _ w3 ⟨⟨e,rfl⟩,r3,k3⟩;have h3:=hr.aY k3 r3;conv=>whnf
     repeat (refine Ar.la ?_;conv=>whnf)
     refine⟨i+1,⟨av,?_,rg.ab k3 (by
      have:=Row.ed hr.core.aY rg (by decide);simpa using this.symm),kk.fresh (mC N.p (by simp[Cr.own])) k3⟩,⟨rfl,rfl,rfl,vi (by omega),trivial⟩,by simp only;omega⟩
     rw[bt];exact h3
    have hb:k.bad i=false:=by simpa using cL
    have l8:(Value.bool (k.bad i))=.bool false:=by rw[hb]
    rw[if_neg cL] at bt;by_cases wP:0<lv (dq k L 25).at_ i
    ·rw[if_pos wP] at bt;conv=>whnf
     repeat ((first|(refine Ru.idx underlying63 av (by kernel_rfl) ?_;rw[l8])|(refine Ld.at (by omega) ci ?_)|(refine Ld.of hr.core.c1 ?_)|refine Br.f ?_|refine Ix.n ?_|refine Br.y ?_|refine CW.s ?_);conv=>whnf)
     refine Ca.of (eK hr.core.aY i 2 av (by omega)) ?_;rintro _ w3 ⟨⟨e,rfl⟩,r3,k3⟩;have h3:=hr.aY k3 r3;conv=>whnf
     repeat (refine Ar.la ?_;conv=>whnf)
     refine⟨i+1,⟨av,?_,rg.ab k3 (by
      have:=Row.ed hr.core.aY rg (by decide);simpa using this.symm),kk.fresh (mC N.p (by simp[Cr.own])) k3⟩,⟨rfl,rfl,rfl,vi (by omega),trivial⟩,by simp only;omega⟩
     rw[bt];exact h3
    ·rw[if_neg wP] at bt;conv=>whnf
     repeat ((first|(refine Ru.idx underlying63 av (by kernel_rfl) ?_;rw[l8])|(refine Ld.at (by omega) ci ?_)|refine Br.f ?_|refine Ix.n ?_|refine Ar.la ?_|refine Br.y ?_|refine Br.n ?_|refine CW.s ?_);conv=>whnf)
     exact⟨i+1,⟨av,by rw[bt];exact hr,rg,kk⟩,⟨rfl,rfl,rfl,vi (by omega),trivial⟩,by simp only;omega⟩
   ·obtain rfl:i=12:=by omega
    conv=>whnf
    repeat ((first|refine Br.f ?_|refine CW.s ?_);conv=>whnf)
    exact⟨rfl,N,rfl,hr,eC,cu,kk⟩
end
end
end Go.Proofs.YtaeikigfgfcadaaGreat
