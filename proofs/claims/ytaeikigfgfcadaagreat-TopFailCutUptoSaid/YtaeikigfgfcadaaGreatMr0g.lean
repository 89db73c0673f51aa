/- Texts behind one another: W5, W6, W7, W8, W9, W10, W11, W12, W13, W14, W15, W16, W17. -/
import Derived.Test.YtaeikigfgfcadaaGreatMr0a
import Derived.Test.YtaeikigfgfcadaaGreatMr0b
import Derived.Test.YtaeikigfgfcadaaGreatMr0c
import Derived.Test.YtaeikigfgfcadaaGreatMr0d
import Derived.Test.YtaeikigfgfcadaaGreatMr0e
import Derived.Test.YtaeikigfgfcadaaGreatMr0f
namespace Go.Proofs.YtaeikigfgfcadaaGreat
open Go.Proofs.Tryz
set_option maxHeartbeats 8000000
set_option maxRecDepth 20000
set_option linter.unusedVariables false
set_option linter.unusedSimpArgs false
set_option linter.unnecessarySimpa false
section
open Go.RowKit
section
variable{a a':Nat->Nat->Nat}{k k':Cp}{K K':KS}{P P':CS}
theorem Wi.agb(h:Wi a k K P){b:Nat}(hb:b<12)(hf:K.fo=true->K.fb≠b)(hd:(∀o,o<25->K.at_ o≠0->(K.at_ o-1)/8≠b)\/ax (ah K.st b 3)=true)(F:Nat->Int)(hF:Hl.HB F):Wi a k { K with st:=ah K.st b 3,F:=F } P:=by
 have ne:∀x,x≠b->ah K.st b 3 x=K.st x:=fun x hx=>if_neg hx;have eq:ah K.st b 3 b=3:=if_pos rfl;refine⟨h.mt,h.sh,h.en,h.fl,h.nx,h.eZ,hF,h.cur,fun x hx=>?_,h.pn,h.fb,h.fi,fun x i hx e hi=>?_,fun fR=>?_,h.fr,fun x hx e=>?_,fun hw o ho e=>?_⟩
 ·show ah K.st b 3 x<=3;by_cases pI:x=b
  ·rw[pI,eq];omega
  ·rw[ne x pI];exact h.st x hx
 ·have e:ah K.st b 3 x=0:=e;by_cases pI:x=b
  ·rw[pI,eq] at e;omega
  ·rw[ne x pI] at e;exact h.bl x i hx e hi
 ·show ah K.st b 3 K.fb=1;rw[ne _ (hf fR)];exact h.f1 fR
 ·show ah K.st b 3 x=3;by_cases pI:x=b
  ·rw[pI,eq]
  ·rw[ne x pI];exact h.bad x hx e
 ·have hw2:ax (ah K.st b 3)=false:=hw;rcases hd with hd|hd
  ·show ah K.st b 3 ((K.at_ o-1)/8)=2\/_;rw[ne _ (hd o ho e)];exact h.live (kJ (fun x hx e=>by
    by_cases pI:x=b
    ·rw[pI,eq]
    ·rw[ne x pI];exact e) hw2) o ho e
  ·rw[hd] at hw2
   cases hw2
theorem Wi.arn(h:Wi a k K P){d:Nat}(hd:d<12)(h1:K.st d=1)(hf:K.fo=true->K.fb≠d):Wi a k { K with st:=ah K.st d 2 } P:=by
 have ne:∀x,x≠d->ah K.st d 2 x=K.st x:=fun x hx=>if_neg hx;have eq:ah K.st d 2 d=2:=if_pos rfl;refine⟨h.mt,h.sh,h.en,h.fl,h.nx,h.eZ,h.hb,h.cur,fun x hx=>?_,h.pn,h.fb,h.fi,fun x i hx e hi=>?_,fun fR=>?_,h.fr,fun x hx e=>?_,fun hw o ho e=>?_⟩
 ·show ah K.st d 2 x<=3;by_cases pI:x=d
  ·rw[pI,eq];omega
  ·rw[ne x pI];exact h.st x hx
 ·have e:ah K.st d 2 x=0:=e;by_cases pI:x=d
  ·rw[pI,eq] at e;omega
  ·rw[ne x pI] at e;exact h.bl x i hx e hi
 ·show ah K.st d 2 K.fb=1;rw[ne _ (hf fR)];exact h.f1 fR
 ·have:=h.bad x hx e;show ah K.st d 2 x=3;rw[ne x (fun y=>by rw[y] at this;omega)];exact this
 ·have hw':ax K.st=false:=kJ (fun x hx e=>by
   show ah K.st d 2 x=3;rw[ne x (fun y=>by rw[y] at e;omega)];exact e) hw
  show ah K.st d 2 ((K.at_ o-1)/8)=2\/_;by_cases pI:(K.at_ o-1)/8=d
  ·rw[pI,eq];exact .inl rfl
  ·rw[ne _ pI];exact h.live hw' o ho e
theorem Wi.seq(h:Wi a k K P)(hn:K.next<1099511627775):Wi a k (bJ K) P :=
 ⟨h.mt.mono (by show K.next<=K.next+1;omega),h.sh,h.en,h.fl,by have:=h.nx;show 1<=K.next+1/\K.next+1<=_;omega,h.eZ,h.hb,h.cur,h.st,h.pn,h.fb,h.fi,h.bl,h.f1,h.fr,h.bad,h.live⟩
theorem Wi.next(h:Wi a k K P){of:Nat}(hr:aF K.fo K.fi of=true):Wi a k (tkK K) P:=by
 have h8:K.fi<8:=by
  unfold aF at hr;simp at hr;exact hr.2.1
 exact⟨h.mt,h.sh,h.en,h.fl,h.nx,h.eZ,h.hb,h.cur,h.st,h.pn,h.fb,by show K.fi+1<=8;omega,h.bl,h.f1,fun hf i h1 h2=>h.fr hf i (by have h1:K.fi+1<=i:=h1;omega) h2,h.bad,h.live⟩
theorem Wi.mT(h:Wi a k K P)(hf:K.fo=false){d:Nat}(ht:takeN K.st K.pn=some d):Wi a k { K with st:=ah K.st d 1,pn:=d+1,fo:=true,fb:=d,fi:=0 } P:=by
 obtain⟨T,D⟩:=h.take ht
 exact⟨T.mt,T.sh,T.en,T.fl,T.nx,T.eZ,T.hb,T.cur,T.st,T.pn,D.lt,by show 0<=8;omega,T.bl,fun _=>D.st,fun _ i h1 h2=>D.bl i (Nat.zero_le _) h2,T.bad,fun hw o ho e=>by
  rcases T.live hw o ho e with x|⟨x,_⟩
  ·exact .inl x
  ·have x:K.fo=true:=x;rw[hf] at x;cases x⟩
theorem Wi.close(h:Wi a k K P)(hd:∀o,o<25->K.at_ o≠0->(K.at_ o-1)/8≠K.fb):Wi a k { K with fo:=false,fb:=0,fi:=0 } P :=
 ⟨h.mt,h.sh,h.en,h.fl,h.nx,h.eZ,h.hb,h.cur,h.st,h.pn,by show 0<12;omega,by show 0<=8;omega,h.bl,fun x=>(by cases x),fun x=>(by cases x),h.bad,fun hw o ho e=>by
  rcases h.live hw o ho e with x|⟨x,y⟩
  ·exact .inl x
  ·exact absurd y.symm (hd o ho e)⟩
structure CA(K:KS)(P:CS)(of:Nat):Prop where
 fo:K.fo=true
 fi:K.fi<8
 lt:K.fb*8+K.fi<96
 bl:P.pg (K.fb*8+K.fi)=.blank
 hh:aR (K.fb*8+K.fi) of=true
 st:K.st K.fb=1
theorem Wi.fresh(h:Wi a k K P){of:Nat}(ho:of<=24)(hr:aF K.fo K.fi of=true):CA K P of:=by
 unfold aF at hr;simp only[Bool.and_eq_true,decide_eq_true_eq] at hr;obtain⟨h1,h2,h3⟩:=hr;have qk:=h.fb;exact⟨h1,h2,by omega,h.fr h1 _ (Nat.le_refl _) h2,by rw[xJ _ _ _ h2];exact h3,h.f1 h1⟩
theorem m0{K:KS}{P:CS}{of:Nat}(ho:of<=24)(F:CA K P of)(hn:1<=K.next/\K.next<1099511627775):(dw K of).ok:=by
 have h1:=F.lt;have h2:=F.hh;unfold aR at h2;unfold Tg.ok dw;simp only;refine⟨by omega,by omega,by omega,by omega,by omega,by omega,by omega,by omega,fun x=>trivial,fun hx=>?_⟩;simp at h2;omega
theorem Wi.ly(h:Wi a k K P){of:Nat}(ho:of<=24)(hr:aF K.fo K.fi of=true)(hn:K.next<1099511627775)(hq:∀q,q≠K.fb*8+K.fi->P'.pg q=P.pg q){D:Nat->Nat}(hp:P'.pg (K.fb*8+K.fi)=.full (dw K of) D)
  (mt:Mt P' k' (ah K.at_ of (K.fb*8+K.fi+1)) (K.next+1)) (sh:Ac P' (ah K.at_ of (K.fb*8+K.fi+1)) a') (hk:∀o,o<24->k'.fl o=K.fl o) (cN:∀b,b<12->k'.bad b=true->K.st b=3) :
  Wi a' k' (cB K of) P'/\∃ow F calls,cB K of={ K with next:=K.next+1,fi:=K.fi+1,at_:=ah K.at_ of (K.fb*8+K.fi+1),ow:=ow,en:=ah K.en of ⟨K.next,0,false⟩,F:=F,calls:=calls }:=by
 have Fr:=h.fresh ho hr;have h96:=Fr.lt;have zM:K.ow (K.fb*8+K.fi)=0:=by
  by_cases hx:K.ow (K.fb*8+K.fi)=0
  ·exact hx
  ·obtain⟨y1,y2⟩:=h.eZ.o _ h96 hx;obtain⟨_,t,D,e1,_⟩:=h.cI (o:=K.ow (K.fb*8+K.fi)-1) (by omega) (by omega);rw[y2,Nat.add_sub_cancel,Fr.bl] at e1
   cases e1
 obtain⟨c1,c2⟩:=h.eZ.set (o:=of) (by omega) h96 zM Fr.hh;have ee:∃F calls,Hl.HB F/\cB K of={ K with next:=K.next+1,fi:=K.fi+1,at_:=ah K.at_ of (K.fb*8+K.fi+1),ow:=(setAt K.at_ K.ow of (K.fb*8+K.fi)).2,en:=ah K.en of ⟨K.next,0,false⟩,F:=F,calls:=calls }:=by
  have hF:Hl.HB (Hl.qM K.F ((K.fb*8+K.fi)/8)):=h.hb.rd (by omega);unfold cB anK;by_cases jo:of=24
  ·rw[if_pos jo];refine⟨Hl.ntF (Hl.qM K.F ((K.fb*8+K.fi)/8)),0,hF.nt,?_⟩;unfold stK;simp only[<-c2];rfl
  ·rw[if_neg jo];refine⟨_,K.calls,hF,?_⟩;unfold stK;simp only[<-c2];rfl
 obtain⟨F,calls,hF,ee⟩:=ee;rw[ee];rw[c2] at c1;generalize (setAt K.at_ K.ow of (K.fb*8+K.fi)).2=ow at *;refine⟨⟨mt,sh,fun o jG e=>?_,hk,by have:=h.nx;show 1<=K.next+1/\K.next+1<=_;omega,c1,hF,h.cur,h.st,h.pn,h.fb,by have:=Fr.fi;show K.fi+1<=8;omega,fun b i hb e hi=>?_,h.f1,fun hf i h1 h2=>?_,cN,fun hw o jG e=>?_⟩,_,_,_,rfl⟩
 ·have e:ah K.at_ of (K.fb*8+K.fi+1) o≠0:=e;show ∃t D,P'.pg (ah K.at_ of (K.fb*8+K.fi+1) o-1)=.full t D/\ah K.en of ⟨K.next,0,false⟩ o=_;unfold ah at e ⊢;by_cases hoo:o=of
  ·rw[if_pos hoo,if_pos hoo,Nat.add_sub_cancel];exact⟨_,_,hp,rfl⟩
  ·rw[if_neg hoo] at e ⊢;rw[if_neg hoo];obtain⟨t,D',e1,e2⟩:=h.en o jG e;exact⟨t,D',by rw[hq _ (fun x=>by rw[x,Fr.bl] at e1;cases e1)];exact e1,e2⟩
 ·have e:K.st b=0:=e;rw[hq _ (fun x=>by
   have h1:=Fr.st;have h2:=Fr.fi;rw[show K.fb=b by omega] at h1;omega)]
  exact h.bl b i hb e hi
 ·have h1:K.fi+1<=i:=h1;rw[show({ K with next:=K.next+1,fi:=K.fi+1,at_:=ah K.at_ of (K.fb*8+K.fi+1),ow:=ow,en:=ah K.en of ⟨K.next,0,false⟩,F:=F,calls:=calls }:KS).fb=K.fb from rfl,hq _ (by omega)];exact h.fr Fr.fo i (by omega) h2
 ·have e:ah K.at_ of (K.fb*8+K.fi+1) o≠0:=e;show K.st ((ah K.at_ of (K.fb*8+K.fi+1) o-1)/8)=2\/K.fo=true/\K.fb=(ah K.at_ of (K.fb*8+K.fi+1) o-1)/8;unfold ah at e ⊢;by_cases hoo:o=of
  ·rw[if_pos hoo,Nat.add_sub_cancel];exact .inr ⟨Fr.fo,by have:=Fr.fi;omega⟩
  ·rw[if_neg hoo] at e ⊢;exact h.live hw o jG e
theorem aeF(h:Wi a k K P)(hw:ax K.st=false){o:Nat}(ho:o<25)(e:K.at_ o≠0):K.st ((K.at_ o-1)/8)≠3:=fun x=>by
 rcases h.live hw o ho e with y|⟨y1,y2⟩
 ·omega
 ·have:=h.f1 y1;rw[y2] at this;omega
theorem qg(K:KS)(s:Int){b:Nat}(h:K.st b≠3):(iA K s (-1)).bad b=false:=by
 show(decide (K.st b=3)||decide ((b:Int) = -1))=false;simp;first|exact h|exact⟨h,by omega⟩
theorem yy(K:KS)(s:Int){b:Nat}(h:(iA K s (-1)).bad b=true):K.st b=3:=by
 have h:(decide (K.st b=3)||decide ((b:Int) = -1))=true:=h;simp at h;first|exact h|omega
theorem Wi.vH(h:Wi a k K P)(hw:ax K.st=false)(hr:aF K.fo K.fi 24=true)(hn:K.next<1099511627775)(hq:∀q,q≠K.fb*8+K.fi->P'.pg q=P.pg q)(hp:P'.pg (K.fb*8+K.fi)=.full (dw K 24) (aW (bJ K) K.next)) :
  Wi a (iA (bJ K) K.next (-1)) (cB K 24) P'/\∃ow F calls,cB K 24={ K with next:=K.next+1,fi:=K.fi+1,at_:=ah K.at_ 24 (K.fb*8+K.fi+1),ow:=ow,en:=ah K.en 24 ⟨K.next,0,false⟩,F:=F,calls:=calls }:=by
 have Fr:=h.fresh (Nat.le_refl 24) hr;have zX:nf (P.pg (K.fb*8+K.fi)):=by rw[Fr.bl];intro t D x;cases x
 have qk:(K.fb*8+K.fi)/8=K.fb:=by have:=Fr.fi;omega
 obtain⟨mt,sh⟩:=h.mt.ajA (p:=K.fb*8+K.fi) (s:=K.next) (k':=iA (bJ K) K.next (-1)) (L':=ah K.at_ 24 (K.fb*8+K.fi+1)) (Int.le_refl _) Fr.lt zX hq hp
  ⟨m0 (Nat.le_refl _) Fr ⟨h.nx.1,hn⟩,rfl,rfl,jc _,gH _⟩ rfl rfl (jj h (by have:=h.nx;omega) _) (Int.le_refl _) (fun b hb e=>by
   show(decide (K.st b=3)||_)=true;rw[h.bad b hb e];rfl)
  (qg (bJ K) _ (by rw[qk];show K.st K.fb≠3;rw[Fr.st];omega)) (if_pos rfl)
  (fun o ho=>.inl ⟨if_neg (by omega),(h.fl o ho).symm,fun e=>qg (bJ K) _ (aeF h hw (by omega) e)⟩)
 exact h.ly (Nat.le_refl _) hr hn hq hp mt (sh a a h.sh (fun o ho=>⟨fun _ j hj=>rfl,fun x y j hj=>by
  unfold ah at x;rw[if_neg (by omega)] at x;exact absurd x y⟩)) (fun _ _=>rfl) (fun b hb e=>yy (bJ K) _ e)
theorem Wi.put(h:Wi a k K P){s:Nat}(hs:s<24)(hr:aF K.fo K.fi s=true)(hn:K.next<1099511627775){f:Nat->Nat}(hf:∀j,f j<256)(hq:∀q,q≠K.fb*8+K.fi->P'.pg q=P.pg q)(hp:P'.pg (K.fb*8+K.fi)=.full (dw K s) (dO f (bJ K) K.next)) :
  Wi (gV a s f) k (cB K s) P'/\∃ow F calls,cB K s={ K with next:=K.next+1,fi:=K.fi+1,at_:=ah K.at_ s (K.fb*8+K.fi+1),ow:=ow,en:=ah K.en s ⟨K.next,0,false⟩,F:=F,calls:=calls }:=by
 have Fr:=h.fresh (of:=s) (by omega) hr;have zX:nf (P.pg (K.fb*8+K.fi)):=by rw[Fr.bl];intro t D x;cases x
 have qk:(K.fb*8+K.fi)/8=K.fb:=by have:=Fr.fi;omega
 obtain⟨mt,sh⟩:=h.mt.new (p:=K.fb*8+K.fi) (s:=K.next) (Int.le_refl _) Fr.lt (by rw[qk];exact h.adv h.fb (by rw[Fr.st];omega)) zX hq hp
  ⟨m0 (by omega) Fr ⟨h.nx.1,hn⟩,rfl,rfl,fun j=>by
   unfold dO;split
   ·exact hf j
   ·omega,by
   funext j;unfold cm dO;by_cases h:j<174
   ·rw[if_pos h]
   ·rw[if_neg h,if_neg (by omega)]⟩ rfl hs rfl
 exact h.ly (by omega) hr hn hq hp mt (sh a f h.sh (fun j hj=>if_pos hj)) h.fl h.bad
theorem Wi.trimmed(h:Wi a k K P)(hw:ax K.st=false){s:Nat}(hs:s<24)(h0:K.at_ s≠0)(hr:aF K.fo K.fi 24=true)(hn:K.next<1099511627775)(hq:∀q,q≠K.fb*8+K.fi->P'.pg q=P.pg q)(hp:P'.pg (K.fb*8+K.fi)=.full (dw K 24) (dy s (K.en s).seq (bJ K) K.next)) :
  Wi (gV a s (fun _=>0)) (wJ (bJ K) s (K.en s).seq K.next) (zL (sY (cB K 24) s (K.en s).seq) s) P':=by
 have Fr:=h.fresh (Nat.le_refl 24) hr;have zX:nf (P.pg (K.fb*8+K.fi)):=by rw[Fr.bl];intro t D x;cases x
 have qk:(K.fb*8+K.fi)/8=K.fb:=by have:=Fr.fi;omega
 obtain⟨hp0,t0,D0,a2,a3,a4,a5,a6,a7,a8,a9⟩:=h.cI (o:=s) (by omega) h0;have mE:(K.en s).seq=t0.seq:=by rw[a3]
 have hsb:0<=(K.en s).seq/\(K.en s).seq<=1099511627775:=by
  rw[mE];unfold Tg.ok at a5;omega
 have an5:∀o,ah K.fl s (K.en s).seq o=if o=s then (K.en s).seq else K.fl o:=fun o=>rfl;have told:(wJ (bJ K) s (K.en s).seq K.next).told:=by
  have T:=jj h (s:=K.next) (by have:=h.nx;omega) (-1);exact⟨T.next,T.cur,fun o ho=>by
   show 0<=ah K.fl s (K.en s).seq o/\ah K.fl s (K.en s).seq o<=_;rw[an5];split
   ·exact hsb
   ·exact h.fge o ho,T.rd,T.sc⟩
 have pt:∀L':Nat->Nat,L' 24=K.fb*8+K.fi+1->(∀o,o<24->(o≠s->L' o=K.at_ o)/\(o=s->L' o=0))->Mt P' (wJ (bJ K) s (K.en s).seq K.next) L' (K.next+1)/\Ac P' L' (gV a s (fun _=>0)):=fun L' jo hL=>by
  obtain⟨mt,sh⟩:=h.mt.ajA (p:=K.fb*8+K.fi) (s:=K.next) (k':=wJ (bJ K) s (K.en s).seq K.next) (L':=L') (Int.le_refl _) Fr.lt zX hq hp
   ⟨m0 (Nat.le_refl _) Fr ⟨h.nx.1,hn⟩,rfl,rfl,jc _,gH _⟩ rfl rfl told (Int.le_refl _) (fun b hb e=>by
    show(decide (K.st b=3)||_)=true;rw[h.bad b hb e];rfl)
   (qg (bJ K) K.next (by rw[qk];show K.st K.fb≠3;rw[Fr.st];omega)) jo
   (fun o ho=>by
    by_cases jm:o=s
    ·exact .inr ⟨(hL o ho).2 jm,by rw[jm];exact h0,t0,D0,by rw[jm];exact a2,by
      show ah K.fl s (K.en s).seq o=t0.seq;rw[an5,if_pos jm,mE]⟩
    ·exact .inl ⟨(hL o ho).1 jm,by
      show ah K.fl s (K.en s).seq o=k.fl o;rw[an5,if_neg jm,h.fl o ho],fun e=>qg (bJ K) K.next (aeF h hw (by omega) e)⟩)
  refine⟨mt,sh a _ h.sh (fun o ho=>⟨fun x j hj=>?_,fun x y j hj=>?_⟩)⟩
  ·unfold gV;by_cases jm:o=s
   ·have:=(hL o ho).2 jm;rw[jm] at this x;exact absurd (this ▸ x).symm h0
   ·rw[if_neg jm]
  ·unfold gV;by_cases jm:o=s
   ·rw[if_pos jm]
   ·rw[(hL o ho).1 jm] at x;exact absurd x y
 -- what the core knows
 have N:=h.seq hn;have zM:K.ow (K.fb*8+K.fi)=0:=by
  by_cases hx:K.ow (K.fb*8+K.fi)=0
  ·exact hx
  ·obtain⟨y1,y2⟩:=h.eZ.o _ Fr.lt hx;obtain⟨_,t,D,e1,_⟩:=h.cI (o:=K.ow (K.fb*8+K.fi)-1) (by omega) (by omega);rw[y2,Nat.add_sub_cancel,Fr.bl] at e1
   cases e1
 obtain⟨c1,c2⟩:=h.eZ.set (o:=24) (by omega) Fr.lt zM Fr.hh;have hF:Hl.HB (Hl.ntF (Hl.qM K.F ((K.fb*8+K.fi)/8))):=(h.hb.rd (by have:=Fr.lt;omega)).nt;have ee:cB K 24={ K with next:=K.next+1,fi:=K.fi+1,at_:=ah K.at_ 24 (K.fb*8+K.fi+1),ow:=(setAt K.at_ K.ow 24 (K.fb*8+K.fi)).2,en:=ah K.en 24 ⟨K.next,0,false⟩,F:=Hl.ntF (Hl.qM K.F ((K.fb*8+K.fi)/8)),calls:=0 }:=by
  unfold cB anK;rw[if_pos rfl];unfold stK;simp only[<-c2];rfl
 rw[c2] at c1;generalize (setAt K.at_ K.ow 24 (K.fb*8+K.fi)).2=ow at *;have hss:ah K.at_ 24 (K.fb*8+K.fi+1) s≠0:=by
  unfold ah;rw[if_neg (by omega)];exact h0
 have c3:=c1.drop (o:=s) (by omega) hss;unfold zL sY;rw[ee];obtain⟨mt,sh⟩:=pt (ah (ah K.at_ 24 (K.fb*8+K.fi+1)) s 0) (by unfold ah;rw[if_neg (by omega),if_pos rfl]) (fun o ho=>⟨fun x=>by unfold ah;rw[if_neg x,if_neg (by omega)],fun x=>by unfold ah;rw[if_pos x]⟩);have back:∀o,ah (ah K.at_ 24 (K.fb*8+K.fi+1)) s 0 o≠0->(o=24/\ah (ah K.at_ 24 (K.fb*8+K.fi+1)) s 0 o=K.fb*8+K.fi+1)\/(o≠24/\ah (ah K.at_ 24 (K.fb*8+K.fi+1)) s 0 o=K.at_ o/\K.at_ o≠0):=fun o e=>by
  unfold ah at e ⊢;by_cases e1:o=s
  ·rw[if_pos e1] at e;exact absurd rfl e
  ·rw[if_neg e1] at e ⊢;by_cases e2:o=24
   ·rw[if_pos e2];exact .inl ⟨e2,rfl⟩
   ·rw[if_neg e2] at e ⊢;exact .inr ⟨e2,rfl,e⟩
 refine⟨mt,sh,fun o ho e=>?_,fun _ _=>rfl,by have:=h.nx;show 1<=K.next+1/\K.next+1<=_;omega,c3,hF,h.cur,h.st,h.pn,h.fb,by have:=Fr.fi;show K.fi+1<=8;omega,fun b i hb e hi=>?_,h.f1,fun hf i h1 h2=>?_,fun b hb e=>yy (bJ K) K.next e,fun hw o ho e=>?_⟩
 ·show ∃t D,P'.pg (ah (ah K.at_ 24 (K.fb*8+K.fi+1)) s 0 o-1)=.full t D/\ah K.en 24 ⟨K.next,0,false⟩ o=_;rcases back o e with⟨e1,e2⟩|⟨e1,e2,e3⟩
  ·rw[e2,Nat.add_sub_cancel];exact⟨_,_,hp,by unfold ah;rw[if_pos e1];rfl⟩
  ·rw[e2];obtain⟨t,D',f1,f2⟩:=h.en o ho e3;exact⟨t,D',by rw[hq _ (fun x=>by rw[x,Fr.bl] at f1;cases f1)];exact f1,by unfold ah;rw[if_neg e1];exact f2⟩
 ·have e:K.st b=0:=e;rw[hq _ (fun x=>by
   have h1:=Fr.st;have h2:=Fr.fi;rw[show K.fb=b by omega] at h1;omega)]
  exact h.bl b i hb e hi
 ·have h1:K.fi+1<=i:=h1;show P'.pg (K.fb*8+i)=_;rw[hq _ (by omega)];exact h.fr Fr.fo i (by omega) h2
 ·show K.st ((ah (ah K.at_ 24 (K.fb*8+K.fi+1)) s 0 o-1)/8)=2\/K.fo=true/\K.fb=(ah (ah K.at_ 24 (K.fb*8+K.fi+1)) s 0 o-1)/8;rcases back o e with⟨e1,e2⟩|⟨e1,e2,e3⟩
  ·rw[e2,Nat.add_sub_cancel];exact .inr ⟨Fr.fo,by have:=Fr.fi;omega⟩
  ·rw[e2];exact h.live hw o ho e3
end
def Ay(K K':KS):Prop:=∀o,o<24->K.at_ o≠0->K'.at_ o≠0/\(K'.en o).seq=(K.en o).seq
theorem Ay.refl(K:KS):Ay K K:=fun _ _ h=>⟨h,rfl⟩
theorem Ay.trans{K K1 K2:KS}(h:Ay K K1)(g:Ay K1 K2):Ay K K2:=fun o ho e=>by
 obtain⟨a1,a2⟩:=h o ho e;obtain⟨b1,b2⟩:=g o ho a1;exact⟨b1,b2.trans a2⟩
theorem Ay.same{K K':KS}(e1:K'.at_=K.at_)(e2:K'.en=K.en):Ay K K':=fun o _ h=>⟨by rw[e1];exact h,by rw[e2]⟩
structure Rm(β:Int)(K:KS)(P:CS):Prop where
 mT:∀b,b<12->K.st b=1->K.fo=true/\K.fb=b
 bd:au K.st 3<=2
 free:1+2*(2-au K.st 3)<=au K.st 0
 x:∃x,(∀B,B<12->P.may B->B=x)/\(x<12->P.may x->K.st x=3\/au K.st 3<=1)
 nx:K.next-3*(au K.st 3:Nat)<=β
 lim:β+20<=1099511627775
structure Rb(β:Int)(K:KS)(P:CS):Prop where
 mT:∀b,b<12->K.st b=1->K.fo=true/\K.fb=b
 bd:au K.st 3<=2
 may:∀B,B<12->P.may B->K.st B=3
 free:aF K.fo K.fi 24=true\/1<=au K.st 0
 nx:K.next-3*(au K.st 3:Nat)<=β
 lim:β+10<=1099511627775
structure AX(a:Nat->Nat->Nat)(v:Nat)(f r:Bool)(K:KS)(P:CS)(K':KS)(P':CS)(e:Int):Prop where
 er:e=0\/e=14
 w:∃k,Wi a k K' P'
 vI:∀u,u<12->u≠v->K.st u=2->K'.st u=2
 jh:∀u,u<12->K.st u=3->K'.st u=3
 vb:e=0->f=true->K'.st v=3/\K.st v≠3
 may:∀B,P'.may B->P.may B
 nx:K'.next-3*(au K'.st 3:Nat)<=K.next-3*(au K.st 3:Nat)
 le:K.next<=K'.next
 qu:K'.qu=K.qu
 cur:K'.cur=K.cur
 tg:Ay K K'
 nw:e=0->ax K'.st=false
 room:∀β,Rm β K P->(f=true->P.may v)->(r=true->∀B,B<12->¬P.may B)->e=0/\Rm β K' P'/\(K.fo=false->(bY K.ow v).length<=4->K'.fo=true/\K'.fi<=5)
structure BA(a:Nat->Nat->Nat)(K:KS)(P:CS)(K':KS)(P':CS)(e:Int):Prop where
 er:e=0\/e=14
 w:∃k,Wi a k K' P'
 vI:∀u,u<12->K.st u=2->K'.st u=2
 jh:∀u,u<12->K.st u=3->K'.st u=3
 may:∀B,P'.may B->P.may B
 nx:K'.next-3*(au K'.st 3:Nat)<=K.next-3*(au K.st 3:Nat)+1
 le:K.next<=K'.next
 qu:K'.qu=K.qu
 cur:K'.cur=K.cur
 tg:Ay K K'
 nw:e=0->ax K'.st=false
 room:∀β,Rb β K P->e=0/\(∀b,b<12->K'.st b=1->K'.fo=true/\K'.fb=b)/\au K'.st 3=au K.st 3/\au K.st 0<=au K'.st 0+1/\(K.fo=false->K'.fo=true/\K'.fi<=5)
structure VI(a:Nat->Nat->Nat)(v:Nat)(f0 r0:Bool)(K0:KS)(P0:CS)(f r:Bool)(K:KS)(P:CS):Prop where
 hv:v<12
 v0:K0.st v≠3
 w:∃k,Wi a k K P
 v2:K.st v=2
 vI:∀u,u<12->u≠v->K0.st u=2->K.st u=2
 jh:∀u,u<12->K0.st u=3->K.st u=3
 may:∀B,P.may B->P0.may B
 nx:K.next-3*(au K.st 3:Nat)<=K0.next-3*(au K0.st 3:Nat)
 le:K0.next<=K.next
 qu:K.qu=K0.qu
 cur:K.cur=K0.cur
 tg:Ay K0 K
 ff:f0=true->f=true
 room:∀β,Rm β K0 P0->(f0=true->P0.may v)->(r0=true->∀B,B<12->¬P0.may B)->Rm β K P/\(f=true->P.may v)/\(r=true->∀B,B<12->¬P.may B)/\(K0.fo=false->(K.fo=false/\K.ow=K0.ow)\/(K.fo=true/\K.fi<=5/\∀B,B<12->P.may B->K.st B=3))
theorem iE{st rU:Nat->Nat}(h:∀u,u<12->st u=3->rU u=3):au st 3<=au rU 3:=fB h
theorem gW{st:Nat->Nat}{b:Nat}(hb:b<12)(h:st b≠3):au (ah st b 3) 3=au st 3+1:=by
 have:=bQ st 3 3 hb;rw[if_neg h,if_pos rfl] at this;omega
theorem abQ{st:Nat->Nat}{b x:Nat}(hb:b<12)(h:st b≠0)(hx:x≠0):au (ah st b x) 0=au st 0:=by
 have:=bQ st x 0 hb;rw[if_neg h,if_neg hx] at this;omega
section
variable{a:Nat->Nat->Nat}{v:Nat}{f0 r0 f r:Bool}{K0 K:KS}{P0 P:CS}
theorem apK{k:Cp}(h:Wi a k K P)(hv:K.st v=2\/K.fo=true/\K.fb=v):(∃k,Wi a k (lD K v) P)/\(lD K v).st v=2/\(∃st fo fb fi,lD K v={ K with st:=st,fo:=fo,fb:=fb,fi:=fi })/\(∀b,(lD K v).st b=K.st b\/K.st b=1/\(lD K v).st b=2) /\
  ((∀b,b<12->K.st b=1->K.fo=true/\K.fb=b)->∀b,b<12->(lD K v).st b=1->(lD K v).fo=true/\(lD K v).fb=b)/\(K.fo=false->lD K v=K):=by
 unfold lD;by_cases hf:K.fo=true/\K.fb=v
 ·rw[if_pos (by rw[if_pos hf.1,hf.2])];obtain⟨w,S⟩:=h.shut;refine⟨⟨k,w⟩,by rw[<-hf.2];exact S.front hf.1,S.eq,S.st,fun ho b hb e=>?_,fun x=>(by rw[hf.1] at x;cases x)⟩;rcases S.st b with x|x
  ·obtain⟨y1,y2⟩:=ho b hb (by omega);have:=S.front y1;rw[y2] at this;omega
  ·omega
 ·rw[if_neg (fun x=>hf (by
   by_cases fR:K.fo=true
   ·rw[if_pos fR] at x;exact⟨fR,by omega⟩
   ·rw[if_neg fR] at x;omega))]
  refine⟨⟨k,h⟩,?_,⟨_,_,_,_,rfl⟩,fun b=>.inl rfl,fun ho=>ho,fun _=>rfl⟩;rcases hv with x|x
  ·exact x
  ·exact absurd x hf
theorem VI.start{k:Cp}(h:Wi a k K P)(ox:v<12)(hv:K.st v=2\/K.fo=true/\K.fb=v)(f r:Bool):VI a v f r K P f r (lD K v) P:=by
 obtain⟨w,v2,⟨st,fo,fb,fi,e⟩,bq,ho,cj⟩:=apK h hv;obtain⟨c0,c3⟩:=fF bq;refine⟨ox,?_,w,v2,fun u hu hn h2=>?_,fun u hu h3=>?_,fun _ x=>x,by rw[c3,e];exact Int.le_refl _,by rw[e];exact Int.le_refl _,by rw[e],by rw[e],Ay.same (by rw[e]) (by rw[e]),fun x=>x,fun β R hf hr=>⟨⟨ho R.mT,by rw[c3];exact R.bd,by rw[c3,c0];exact R.free,?_,by rw[c3,e];exact R.nx,R.lim⟩,hf,hr,fun x=>.inl ⟨by rw[cj x];exact x,by rw[cj x]⟩⟩⟩
 ·rcases hv with x|⟨x,y⟩
  ·omega
  ·have:=h.f1 x;rw[y] at this;omega
 ·rcases bq u with x|x
  ·rw[x];exact h2
  ·omega
 ·rcases bq u with x|x
  ·rw[x];exact h3
  ·omega
 ·obtain⟨x,x1,x2⟩:=R.x;refine⟨x,x1,fun hx hm=>?_⟩;rw[c3];rcases x2 hx hm with y|y
  ·rcases bq x with z|z
   ·exact .inl (by rw[z];exact y)
   ·omega
  ·exact .inr y
section
variable(I:VI a v f0 r0 K0 P0 f r K P)
include I
theorem VI.abn(hw:ax K.st=true):AX a v f0 r0 K0 P0 K P 14 :=
 ⟨.inr rfl,I.w,I.vI,I.jh,fun x=>(by cases x),I.may,I.nx,I.le,I.qu,I.cur,I.tg,fun x=>(by cases x),fun β R hf hr=>by
  have:=(I.room β R hf hr).1.bd;unfold ax at hw;have:=of_decide_eq_true hw;omega⟩
theorem VI.none(ht:takeN K.st K.pn=none):AX a v f0 r0 K0 P0 K P 14 :=
 ⟨.inr rfl,I.w,I.vI,I.jh,fun x=>(by cases x),I.may,I.nx,I.le,I.qu,I.cur,I.tg,fun x=>(by cases x),fun β R hf hr=>by
  have h1:=(I.room β R hf hr).1.free;obtain⟨k,w⟩:=I.w;obtain⟨d,hd,_⟩:=je w.pn (st:=K.st) (by omega);rw[ht] at hd
  cases hd⟩
theorem VI.last(hf:f=true)(hl:2<=au K.st 3):AX a v f0 r0 K0 P0 { K with st:=aD K.st v 3 } P 14:=by
 obtain⟨k,w⟩:=I.w;have hv:=I.hv;have v2:=I.v2;have hs:aD K.st v 3=ah K.st v 3:=if_neg (fun x=>x.2 rfl);have c3:=gW (st:=K.st) hv (by omega);rw[hs];have ne:∀b,b≠v->ah K.st v 3 b=K.st b:=fun b hb=>if_neg hb;refine⟨.inr rfl,⟨k,w.agb hv (fun fR e=>by have:=w.f1 fR;rw[e] at this;omega) (.inr ?_) K.F w.hb⟩,fun u hu hn h2=>(ne u hn).trans (I.vI u hu hn h2),fun u hu h3=>?_,fun x=>(by cases x),I.may,?_,I.le,I.qu,I.cur,I.tg,fun x=>(by cases x),fun β R gY hr=>?_⟩
 ·unfold ax;rw[c3];exact decide_eq_true (by omega)
 ·show ah K.st v 3 u=3;by_cases hu':u=v
  ·rw[hu'];exact if_pos rfl
  ·rw[ne u hu'];exact I.jh u hu h3
 ·have:=I.nx;show K.next-3*(au (ah K.st v 3) 3:Nat)<=_;rw[c3];omega
 ·obtain⟨R',m,_⟩:=I.room β R gY hr;obtain⟨x,x1,x2⟩:=R'.x;have hm:=m hf;have:=x1 v hv hm;subst this;rcases x2 hv hm with y|y<;>omega
end
structure VM(a:Nat->Nat->Nat)(v:Nat)(K:KS)(P:CS)(d n:Nat)(K3:KS)(P3:CS):Prop where
 w:∃k,Wi a k K3 P3
 tk:takeN K.st K.pn=some d
 eq:∃F nx,K3={ K with st:=ah K.st d 1,pn:=d+1,F:=F,next:=nx }/\K.next<=nx/\nx<=K.next+1
 dst:Bz K3 P3 d n
 dv:d≠v
 may:∀B,P3.may B->P.may B
theorem VM.jD{d n:Nat}{K3:KS}{P3:CS}(M:VM a v K P d n K3 P3):d<12/\K.st d=0:=df M.tk
theorem VM.cnt{d n:Nat}{K3:KS}{P3:CS}(M:VM a v K P d n K3 P3):au K3.st 3=au K.st 3/\au K3.st 0+1=au K.st 0:=by
 obtain⟨hd,h0⟩:=M.jD;obtain⟨F,nx,e,_⟩:=M.eq;rw[e];have h1:=bQ K.st 1 3 hd;have h2:=bQ K.st 1 0 hd;rw[if_neg (by omega),if_neg (by omega)] at h1;rw[if_pos h0,if_neg (by omega)] at h2;exact⟨h1,h2⟩
theorem Wi.cells{k:Cp}{P':CS}(h:Wi a k K P){d:Nat}(bq:K.st d=1)(rI:K.fo=true->K.fb≠d)(fU:∀o,o<25->K.at_ o≠0->(K.at_ o-1)/8≠d)(hq:∀q,q/8≠d->P'.pg q=P.pg q)
  (bA:∀q t D,q/8=d->q<96->P'.pg q=.full t D->P.pg q=.full t D\/(t.ok/\t.place=q/\t.lost=false)/\∃o t0,o<25/\K.at_ o≠0/\P.pg (K.at_ o-1)=.full t0 D/\t0.of=t.of/\t0.seq=t.seq):Wi a k K P':=by
 refine⟨h.mt.ext (fun q t D gX e=>?_) (fun o ho e=>hq _ (fU o ho e)),h.sh.abL (fun o ho e=>hq _ (fU o (by omega) e)),fun o ho e=>?_,h.fl,h.nx,h.eZ,h.hb,h.cur,h.st,h.pn,h.fb,h.fi,fun b i hb e hi=>?_,h.f1,fun hf i h1 h2=>?_,h.bad,h.live⟩
 ·by_cases hd:q/8=d
  ·exact bA q t D hd gX e
  ·exact .inl (by rw[<-hq q hd];exact e)
 ·obtain⟨t,D,e1,e2⟩:=h.en o ho e;exact⟨t,D,by rw[hq _ (fU o ho e)];exact e1,e2⟩
 ·rw[hq _ (fun x=>by rw[<-x,show(b*8+i)/8=b by omega] at bq;omega)];exact h.bl b i hb e hi
 ·rw[hq _ (fun x=>rI hf (by omega))];exact h.fr hf i h1 h2
theorem o5{p:Nat->Bool}:∀(L:List Nat) (i:Nat),i<(L.filter p).length->∃j,i<=j/\j<L.length/\(L.filter p).getD i 0=L.getD j 0
 | [],i,h=>by simp at h
 | x::xs,i,h=>by
  by_cases hp:p x=true
  ·rw[List.filter_cons_of_pos hp] at h ⊢
   cases i with
   |zero=>exact⟨0,Nat.le_refl _,by simp,rfl⟩
   | succ i =>
    obtain⟨j,h1,h2,h3⟩:=o5 xs i (by simpa using h);exact⟨j+1,by omega,by simpa using h2,by simpa using h3⟩
  ·rw[List.filter_cons_of_neg hp] at h ⊢;obtain⟨j,h1,h2,h3⟩:=o5 xs i h;exact⟨j+1,by omega,by simpa using h2,by simpa using h3⟩
structure Dw(K:KS)(v d:Nat)(os:List Nat)(bad:Bool):Prop where
 nd:os.Nodup
 mem:∀o,o∈os->o<25/\K.at_ o≠0/\(K.at_ o-1)/8=v
 len:os.length<=7/\os.length<=(bY K.ow v).length
 all:∀o,o<25->K.at_ o≠0->(K.at_ o-1)/8=v->bad=false\/o≠24->o∈os
 ok:∀i,i<os.length->(bm K d i (os.getD i 0)).ok/\aR (d*8+i) (os.getD i 0)=true
theorem Wi.osl{k:Cp}(h:Wi a k K P)(hv:v<12){d:Nat}(hd:d<12)(bad:Bool):Dw K v d (ij bad (bY K.ow v)) bad:=by
 have hnd:(bY K.ow v).Nodup:=jg h.eZ hv (Nat.le_refl 8);have nd:(ij bad (bY K.ow v)).Nodup:=hnd.filter _;have mem:∀o,o∈ij bad (bY K.ow v)->o<25/\K.at_ o≠0/\(K.at_ o-1)/8=v:=fun o ho=>(jx h.eZ hv).1 (alI ho);have h8:=oU K.ow v;have hle:=adw bad (bY K.ow v);have ok:∀i,i<(ij bad (bY K.ow v)).length->(bm K d i ((ij bad (bY K.ow v)).getD i 0)).ok/\aR (d*8+i) ((ij bad (bY K.ow v)).getD i 0)=true/\((ij bad (bY K.ow v)).getD i 0≠24->i<=5):=fun i hi=>by
  obtain⟨j,j1,j2,j3⟩:=o5 (bY K.ow v) i hi;obtain⟨m,m1,m2,m3,m4⟩:=pW (ow:=K.ow) (b:=v) (n:=8) (i:=j) j2;have m4:(bY K.ow v)[j]=K.ow (8*v+m)-1:=m4;have e:(ij bad (bY K.ow v)).getD i 0=K.ow (8*v+m)-1:=by
   show((bY K.ow v).filter _).getD i 0=_;rw[j3,bH j2];exact m4
  have iB:=h.eZ.o (8*v+m) (by omega) m3;rw[e];generalize hoo:K.ow (8*v+m)-1=o at *;obtain⟨a1,t0,D0,a2,a3,a4,a5,a6,a7,a8,a9⟩:=h.cI (o:=o) (by omega) (by omega);have h5:o≠24->i<=5:=fun hn=>by
   have:=a5;unfold Tg.ok at this;have:=this.2.2.2.2.2.2.2.2.2 (by omega);rw[a6] at this;omega
  have h6:t0.of≠24->(d*8+i)%8<=5:=fun hn=>by
   have:=h5 (by omega);omega
  refine⟨?_,?_,h5⟩
  ·have:=sW a5 (q:=d*8+i) (by omega) h6;unfold bm;rw[a3];rw[a4,a7] at this;exact this
  ·unfold aR;by_cases ho:o=24
   ·simp[ho]
   ·have:=h5 ho;simp;omega
 refine⟨nd,mem,⟨?_,hle⟩,fun o ho e hb cN=>an3 ((jx h.eZ hv).2 ⟨ho,e,hb⟩) cN,fun i hi=>⟨(ok i hi).1,(ok i hi).2.1⟩⟩;by_cases h7:(ij bad (bY K.ow v)).length<=7
 ·exact h7
 ·have o6:=(ok 6 (by omega)).2.2;have o7:=(ok 7 (by omega)).2.2;rw[bH (by omega)] at o6 o7;have e6:(ij bad (bY K.ow v))[6]=24:=Classical.byContradiction fun x=>by have:=o6 x;omega
  have e7:(ij bad (bY K.ow v))[7]=24:=Classical.byContradiction fun x=>by have:=o7 x;omega
  have:=(List.getElem_inj (h₀:=by omega) (h₁:=by omega) nd).1 (e6.trans e7.symm);omega
theorem alL{d i:Nat}{os:List Nat}(hd:i<os.length)(h8:os.length<=8):gv K P d os (d*8+i)=.full (bm K d i (os.getD i 0)) (cm (aS P (K.at_ (os.getD i 0)-1))):=by
 unfold gv;rw[if_pos ⟨by omega,by omega⟩,show(d*8+i)%8=i by omega]
theorem Wi.part{k:Cp}{P':CS}(h:Wi a k K P){d:Nat}(D:Bz K P d 0){os:List Nat}{bad:Bool}(O:Dw K v d os bad){os':List Nat}(gZ:∃j,os'=os.take j)(bA:∀q,P'.pg q=gv K P d os' q\/(q/8=d/\nf (P'.pg q))):Wi a k K P':=by
 have h7:=O.len.1;have hle:os'.length<=os.length:=by
  obtain⟨j,rfl⟩:=gZ;simp;omega
 refine h.cells D.st D.fr D.dead (fun q hq=>?_) (fun q t D0 hq asc e=>?_)
 ·rcases bA q with x|x
  ·rw[x,fp hq]
  ·exact absurd x.1 hq
 ·rcases bA q with x|x
  ·rw[x] at e;unfold gv at e;by_cases hc:q/8=d/\q%8<os'.length
   ·rw[if_pos hc] at e;injection e with e1 e2;have hgd:os'.getD (q%8) 0=os.getD (q%8) 0:=by
     obtain⟨j,rfl⟩:=gZ;have:q%8<j:=by
      have:=hc.2;simp at this;omega
     simp[List.getD,List.getElem?_take,this]
    rw[hgd] at e1 e2;have hm:=O.mem (os.getD (q%8) 0) (by rw[bH (by omega)];exact List.getElem_mem _);obtain⟨mi,_⟩:=O.ok (q%8) (by omega);obtain⟨a1,t0,D1,a2,a3,a4,a5,a6,a7,a8,a9⟩:=h.cI hm.1 hm.2.1;rw[bF a2,a8] at e2;subst e2;rw[<-e1];refine .inr ⟨⟨mi,?_,?_⟩,os.getD (q%8) 0,t0,hm.1,hm.2.1,a2,a4,?_⟩
    ·show((d*8+q%8:Nat):Int)=q;omega
    ·show(K.en (os.getD (q%8) 0)).lost=false;rw[a3]
    ·show t0.seq=(K.en (os.getD (q%8) 0)).seq;rw[a3]
   ·rw[if_neg hc] at e;exact .inl e
  ·exact absurd e (x.2 t D0)
theorem Wi.cpg{k:Cp}(h:Wi a k K P)(hv:v<12){d:Nat}(D:Bz K P d 0)(bad:Bool):Du K P v d bad:=by
 have O:=h.osl hv D.lt bad;refine⟨h.hb,fun o ho=>h.lt ho,h.eZ.mw.lo,hv,D.lt,fun o ho=>?_,fun i hi=>D.bl i (Nat.zero_le _) hi,fun i hi=>(O.ok i hi).1⟩;have hm:=(jx h.eZ hv).1 ho;obtain⟨a1,t0,D0,a2,a3,a4,a5,a6,a7,a8,a9⟩:=h.cI hm.1 hm.2.1;have:=a5;unfold Tg.ok at this;exact⟨by omega,hm.2.1,by rw[a3];exact⟨this.2.2.2.2.2.2.1,this.2.2.2.2.2.2.2.1⟩,D.dead o hm.1 hm.2.1,t0,D0,a2,a4,by rw[a3]⟩
theorem copied{k:Cp}(h:Wi a k K P)(hv:v<12)(v2:K.st v=2){d:Nat}(ht:takeN K.st K.pn=some d){K1:KS}(e1:K1={ K with st:=ah K.st d 1,pn:=d+1 })(bad:Bool) :
  Du K1 P v d bad/\Dw K1 v d (ij bad (bY K1.ow v)) bad /\
  (∀K3 P3,uP K1 K3->Hl.HB K3.F->(∀B,P3.may B->P.may B) ->
   ((∀q,P3.pg q=gv K1 P d (ij bad (bY K1.ow v)) q)->VM a v K P d (ij bad (bY K1.ow v)).length K3 P3/\Bi K3 P3 v d (ij bad (bY K1.ow v)) (tgL K1 d (ij bad (bY K1.ow v)))/\K3.next=K.next) /\
   (Part K1 P d (ij bad (bY K1.ow v)) P3->VM a v K P d 8 K3 P3/\K3.next=K.next)) /\
  (∀Q,Part K1 P d (ij bad (bY K1.ow v)) Q->Tw Q 1099511627775 a):=by
 obtain⟨w1,D1⟩:=h.take ht;rw[<-e1] at w1 D1;have O:=w1.osl hv D1.lt bad;have h7:=O.len.1;have jn:d≠v:=fun x=>by
  have:=(df ht).2;rw[x] at this;omega
 generalize jm:ij bad (bY K1.ow v)=os at *;have abP:∀Q,Part K1 P d os Q->Wi a k K1 Q:=fun Q ⟨j,hj,q1,q2⟩=>w1.part D1 O ⟨j,rfl⟩ (fun q=>by
  by_cases hq:q=d*8+j
  ·exact .inr ⟨by omega,by rw[hq];exact q2⟩
  ·exact .inl (q1 q hq))
 have hK:∀K3 P3,uP K1 K3->Hl.HB K3.F->Wi a k K1 P3->(∃k,Wi a k K3 P3)/\(∃F nx,K3={ K with st:=ah K.st d 1,pn:=d+1,F:=F,next:=nx }/\K.next<=nx/\nx<=K.next+1)/\K3.next=K.next/\K3.st=K1.st/\K3.at_=K1.at_/\K3.en=K1.en/\K3.fo=K1.fo/\K3.fb=K1.fb:=fun K3 P3 hs hb w=>by
  obtain⟨F,rfl⟩:=hs;refine⟨⟨k,w.same rfl hb w.cur rfl⟩,⟨F,K.next,by rw[e1],Int.le_refl _,by omega⟩,by rw[e1],rfl,rfl,rfl,rfl,rfl⟩
 refine⟨w1.cpg hv D1 bad,O,fun K3 P3 hs hb hm=>⟨fun bA=>?_,fun hp=>?_⟩,fun Q hQ=>?_⟩
 ·have w3:=w1.part (P':=P3) D1 O ⟨os.length,(List.take_length).symm⟩ (fun q=>.inl (bA q));obtain⟨b1,b2,b3,b4,b5,b6,b7,b8⟩:=hK K3 P3 hs hb w3;refine⟨⟨b1,ht,b2,⟨D1.lt,by rw[b4];exact D1.st,by rw[b7,b8];exact D1.fr,fun i hi h8=>?_,by rw[b5];exact D1.dead⟩,jn,hm⟩,⟨O.nd,by omega,by rw[b5];exact O.mem,s9 _ _ _,fun i hi=>?_,fun i hi=>?_⟩,b3⟩
  ·rw[bA];unfold gv;rw[if_neg (by omega)];exact D1.bl i (Nat.zero_le _) h8
  ·rw[alJ _ _ _ hi];exact⟨by unfold bm;rw[b6],(O.ok i hi).2⟩
  ·have hm:=O.mem (os.getD i 0) (by rw[bH hi];exact List.getElem_mem _);obtain⟨a1,t0,D0,a2,a3,a4,a5,a6,a7,a8,a9⟩:=w1.cI hm.1 hm.2.1;rw[bA,alL hi (by omega),b5,bF a2,a8];have e3:P3.pg (K1.at_ (os.getD i 0)-1)=.full t0 D0:=by
    rw[bA,fp (D1.dead _ hm.1 hm.2.1)];exact a2
   rw[bF e3];unfold bm;rw[b6]
 ·have w3:=abP P3 hp;obtain⟨b1,b2,b3,b4,b5,b6,b7,b8⟩:=hK K3 P3 hs hb w3;exact⟨⟨b1,ht,b2,⟨D1.lt,by rw[b4];exact D1.st,by rw[b7,b8];exact D1.fr,fun i hi h8=>by omega,by rw[b5];exact D1.dead⟩,jn,hm⟩,b3⟩
 ·have w3:=abP Q hQ;have:=w3.nx;exact⟨k,_,w3.mt.mono this.2,w3.sh⟩
section
variable{d n:Nat}{K3 K':KS}{P3 P':CS}
theorem VI.room_end(I:VI a v f0 r0 K0 P0 f r K P)(M:VM a v K P d n K3 P3){K2:KS}(wD:K2.st=ah K3.st v 0\/(K2.st=ah K3.st v 3/\(f=true\/(r=true/\au K.st 3<=1)\/P.may v)))(adx:K2.fo=K3.fo/\K2.fb=K3.fb/\K2.fi=K3.fi){n':Nat}(E:Cq K2 K' d n')(hn:n'<=(bY K.ow v).length+1)
  (hm:∀B,P'.may B->P.may B) (fc:K'.next-3*(au K'.st 3:Nat)<=K.next-3*(au K.st 3:Nat)):∀β,Rm β K0 P0->(f0=true->P0.may v)->(r0=true->∀B,B<12->¬P0.may B)->Rm β K' P'/\(K0.fo=false->(bY K0.ow v).length<=4->K'.fo=true/\K'.fi<=5):=by
 intro β R hf hr;obtain⟨R1,m1,r1,o1⟩:=I.room β R hf hr;obtain⟨hd,h0⟩:=M.jD;obtain⟨c3,c0⟩:=M.cnt;obtain⟨F,nx,e3,_⟩:=M.eq;have hv:=I.hv;have v2:=I.v2;have jn:=M.dv;have e3v:K3.st v=2:=by rw[e3];show ah K.st d 1 v=2;unfold ah;rw[if_neg (fun x=>jn x.symm)];exact v2
 have e3s:K3.st=ah K.st d 1:=by rw[e3]
 have e3f:K3.fo=K.fo/\K3.fb=K.fb/\K3.fi=K.fi:=by rw[e3];exact⟨rfl,rfl,rfl⟩
 obtain⟨s0,s3⟩:=fF E.st;obtain⟨x,x1,x2⟩:=R1.x;have mu:=R1.free;have u5:=R1.bd;have bound:1+2*(2-au K'.st 3)<=au K'.st 0/\au K'.st 3<=2/\(x<12->P'.may x->K'.st x=3\/au K'.st 3<=1):=by
  rcases wD with h2|⟨h2,an6⟩
  ·have q3:=bQ K3.st 0 3 hv;have q0:=bQ K3.st 0 0 hv;rw[if_neg (by omega),if_neg (by omega)] at q3;rw[if_neg (by omega),if_pos rfl] at q0;rw[s3,s0,h2];refine⟨by omega,by omega,fun hx hmx=>?_⟩;rcases x2 hx (hm x hmx) with y|y
   ·have hxv:x≠v:=fun z=>by rw[z] at y;omega
    have hxd:x≠d:=fun z=>by rw[z] at y;omega
    refine .inl ?_;rcases E.st x with z|z
    ·rw[z,h2,e3s];unfold ah;rw[if_neg hxv,if_neg hxd];exact y
    ·rw[h2,e3s] at z;unfold ah at z;rw[if_neg hxv,if_neg hxd] at z;omega
   ·exact .inr (by omega)
  ·have q3:=gW (st:=K3.st) hv (by omega);have q0:=abQ (st:=K3.st) (x:=3) hv (by omega) (by omega);have an4:au K.st 3<=1/\(x<12->P'.may x->x=v):=by
    have ajD:P.may v->au K.st 3<=1/\(x<12->P'.may x->x=v):=fun hmv=>by
     have hxv:=x1 v hv hmv;subst hxv;refine⟨?_,fun _ _=>rfl⟩;rcases x2 hv hmv with y|y
     ·omega
     ·exact y
    rcases an6 with y|y|y
    ·exact ajD (m1 y)
    ·exact⟨y.2,fun hx hmx=>absurd (hm x hmx) (r1 y.1 x hx)⟩
    ·exact ajD y
   rw[s3,s0,h2];refine⟨by omega,by omega,fun hx hmx=>.inl ?_⟩;have hxv:=an4.2 hx hmx;rw[hxv];rcases E.st v with z|z
   ·rw[z,h2];exact if_pos rfl
   ·rw[h2] at z;have:ah K3.st v 3 v=3:=if_pos rfl;omega
 have zw:∀b,b<12->K'.st b=1->K'.fo=true/\K'.fb=b:=fun b hb eb=>by
  have tC:K2.st b=1:=by
   rcases E.st b with z|z<;>omega
  have mC:b≠v:=fun z=>by
   rcases wD with h2|⟨h2,_⟩
   ·rw[z,h2] at tC;have:ah K3.st v 0 v=0:=if_pos rfl;omega
   ·rw[z,h2] at tC;have:ah K3.st v 3 v=3:=if_pos rfl;omega
  have qm:ah K.st d 1 b=1:=by
   rw[<-e3s];rcases wD with h2|⟨h2,_⟩<;>(rw[h2] at tC;unfold ah at tC;rw[if_neg mC] at tC;exact tC)
  by_cases apL:b=d
  ·subst apL;rcases E.std with z|z
   ·omega
   ·exact z
  ·unfold ah at qm;rw[if_neg apL] at qm;obtain⟨y1,y2⟩:=R1.mT b hb qm;rcases E.fr with⟨g1,g2,g3,g4,_⟩|⟨g1,g2,g3,g4,_⟩
   ·exact⟨g1,by rw[g2,adx.2.1,e3f.2.1];exact y2⟩
   ·have:=g4 (by rw[adx.1,e3f.1];exact y1);rw[adx.2.1,e3f.2.1,y2] at this;omega
 refine⟨⟨zw,bound.2.1,bound.1,⟨x,fun B hB h=>x1 B hB (hm B h),bound.2.2⟩,by have:=R1.nx;omega,R1.lim⟩,fun fR h4=>?_⟩;rcases o1 fR with⟨y1,y2⟩|⟨y1,y2,_⟩
 ·rcases E.fr with⟨g1,g2,g3,g4,_⟩|⟨g1,g2,g3,g4,_⟩
  ·rw[adx.1,e3f.1,y1] at g4;cases g4
  ·rw[y2] at hn;exact⟨g1,by omega⟩
 ·rcases E.fr with⟨g1,g2,g3,g4,g5⟩|⟨g1,g2,g3,g4,g5⟩
  ·exact⟨g1,by rw[g3,adx.2.2,e3f.2.2];exact y2⟩
  ·rw[adx.1,adx.2.2,e3f.1,e3f.2.2,y1] at g5;unfold aF aR at g5;simp at g5;omega
end
end
section
variable{a:Nat->Nat->Nat}{v:Nat}{f0 r0 f r:Bool}{K0 K:KS}{P0 P:CS}{d n:Nat}{K3 K':KS}{P3 P':CS}{os:List Nat}{l:List Tg}
theorem VM.ne(M:VM a v K P d n K3 P3){u:Nat}(hu:u≠d):K3.st u=K.st u:=by
 obtain⟨F,nx,e,_⟩:=M.eq;rw[e];exact if_neg hu
theorem VM.old(M:VM a v K P d n K3 P3){u:Nat}(h:K.st u≠0):K3.st u=K.st u:=M.ne fun x=>by
 have:=M.jD.2;rw[x] at h;exact h this
theorem VM.sd(M:VM a v K P d n K3 P3):K3.st d=1:=M.dst.st
theorem VM.rest(M:VM a v K P d n K3 P3):K3.qu=K.qu/\K3.cur=K.cur/\K3.fo=K.fo/\K3.fb=K.fb/\K3.fi=K.fi/\K.next<=K3.next/\K3.next<=K.next+1/\K3.ow=K.ow/\K3.at_=K.at_:=by
 obtain⟨F,nx,e,h⟩:=M.eq;rw[e];exact⟨rfl,rfl,rfl,rfl,rfl,h.1,h.2,rfl,rfl⟩
theorem VM.tgk(M:VM a v K P d n K3 P3):Ay K K3:=by
 obtain⟨F,nx,e,_⟩:=M.eq;exact .same (by rw[e]) (by rw[e])
theorem VM.again(M:VM a v K P d n K3 P3)(bA:P'.pg=P3.pg)(hm:∀B,P'.may B->P3.may B):VM a v K P d n K3 P':=by
 obtain⟨k,w⟩:=M.w;exact⟨⟨k,w.same bA w.hb w.cur rfl⟩,M.tk,M.eq,⟨M.dst.lt,M.dst.st,M.dst.fr,by rw[bA];exact M.dst.bl,M.dst.dead⟩,M.dv,fun B h=>M.may B (hm B h)⟩
theorem VI.erased(I:VI a v f0 r0 K0 P0 f r K P)(hw:ax K.st=false)(M:VM a v K P d os.length K3 P3)(C:Bi K3 P3 v d os l)(hf:f=false)(cq:∀o,o<25->K3.at_ o≠0->(K3.at_ o-1)/8=v->o∈os)(hlen:os.length<=(bY K.ow v).length)(fc:K3.next=K.next)(hm:∀B,(P3.dE v).may B->P3.may B) :
  AX a v f0 r0 K0 P0 (jr (oV K3 v) d l) (P3.dE v) 0:=by
 obtain⟨k,w3⟩:=M.w;have hv:=I.hv;have v2:=I.v2;have v3:K3.st v=2:=by rw[M.old (by omega)];exact v2
 obtain⟨W,E,⟨st,fo,fb,fi,A,O,En,Mo,e⟩,bq,htg0⟩:=w3.erased hv v3 M.dst C cq;have htg:Ay K3 (jr (oV K3 v) d l):=fun o ho=>htg0 o (by omega);obtain⟨r1,r2,r3,r4,r5,r6,r7,_⟩:=M.rest;obtain⟨c3,c0⟩:=M.cnt;obtain⟨s0,s3⟩:=fF E.st;have q3:=bQ K3.st 0 3 hv;rw[if_neg (by omega),if_neg (by omega)] at q3;have h3:au (jr (oV K3 v) d l).st 3=au K.st 3:=by rw[s3,bq];omega
 have hn':(jr (oV K3 v) d l).next=K.next:=by rw[e];exact fc
 have ab:∀u,u≠v->K.st u=2\/K.st u=3->(jr (oV K3 v) d l).st u=K.st u:=fun u hn h=>by
  have h2:(oV K3 v).st u=K.st u:=by
   rw[bq, <-M.old (u:=u) (by omega)];exact if_neg hn
  rcases E.st u with x|x<;>omega
 have sA:∀B,(P3.dE v).may B->P.may B:=fun B h=>M.may B (hm B h);have nx:(jr (oV K3 v) d l).next-3*(au (jr (oV K3 v) d l).st 3:Nat)<=K.next-3*(au K.st 3:Nat):=by rw[h3,hn'];exact Int.le_refl _
 refine⟨.inl rfl,⟨k,W⟩,fun u hu hn h=>?_,fun u hu h=>?_,fun _ x=>?_,fun B h=>I.may B (sA B h),Int.le_trans nx I.nx,by rw[hn'];exact I.le,by rw[e];exact r1.trans I.qu,by rw[e];exact r2.trans I.cur,I.tg.trans (M.tgk.trans htg),fun _=>(by unfold ax at hw ⊢;rw[h3];exact hw),fun β R gY hr=>?_⟩
 ·have:=I.vI u hu hn h;rw[ab u hn (.inl this)];exact this
 ·have:=I.jh u hu h;rw[ab u (fun x=>by rw[x] at this;omega) (.inr this)];exact this
 ·have:=I.ff x;rw[hf] at this
  cases this
 ·exact⟨rfl,I.room_end M (K2:=oV K3 v) (.inl bq) ⟨rfl,rfl,rfl⟩ E (by rw[C.len];omega) sA nx β R gY hr⟩
theorem VI.said(I:VI a v f0 r0 K0 P0 f r K P)(hle:au K.st 3<=1)(M:VM a v K P d os.length K3 P3)(C:Bi K3 P3 v d os l)(an6:f=true\/(r=true/\au K.st 3<=1)\/P.may v)(hw:ax K.st=false)(h7:os.length<=7)(cq:∀o,o<24->K3.at_ o≠0->(K3.at_ o-1)/8=v->o∈os)(hlen:os.length<=(bY K.ow v).length)(fc:K3.next=K.next)(hn:K3.next<1099511627775)
  {F:Nat->Int} (hF:Hl.HB F) (hq:∀q,q≠d*8+os.length->P'.pg q=P3.pg q) (hp:P'.pg (d*8+os.length)=.full (dQ K3 (d*8+os.length)) (sV (iA (bJ K3) K3.next v))) (hm:∀B,P'.may B->P3.may B):AX a v f0 r0 K0 P0 (syK K3 F v d os.length l) P' 0:=by
 obtain⟨k,w3⟩:=M.w;have hv:=I.hv;have v2:=I.v2;have v3:K3.st v=2:=by rw[M.old (by omega)];exact v2
 obtain⟨c3,c0⟩:=M.cnt;have hw3:ax K3.st=false:=by
  unfold ax at hw ⊢;rw[c3];exact hw
 obtain⟨W,E,⟨st,fo,fb,fi,A,O,En,Mo,G,e⟩,-,htg0⟩:=w3.said hw3 hv v3 M.dst C h7 cq hn hF hq hp;have htg:Ay K3 (syK K3 F v d os.length l):=fun o ho=>htg0 o ho;obtain⟨r1,r2,r3,r4,r5,r6,r7,_⟩:=M.rest;obtain⟨s0,s3⟩:=fF E.st;have q3:=gW (st:=K3.st) hv (by omega);have h3:au (syK K3 F v d os.length l).st 3=au K.st 3+1:=by rw[s3];show au (ah K3.st v 3) 3=_;omega
 have hn':(syK K3 F v d os.length l).next=K.next+1:=by rw[e];show K3.next+1=_;rw[fc]
 have hvb:(syK K3 F v d os.length l).st v=3:=by
  have x3:ah K3.st v 3 v=3:=if_pos rfl;rcases E.st v with x|x
  ·exact x.trans x3
  ·have x1:ah K3.st v 3 v=1:=x.1;omega
 have ab:∀u,u≠v->K.st u=2\/K.st u=3->(syK K3 F v d os.length l).st u=K.st u:=fun u hn h=>by
  have h2:ah K3.st v 3 u=K.st u:=by
   rw[<-M.old (u:=u) (by omega)];exact if_neg hn
  rcases E.st u with x|x
  ·exact x.trans h2
  ·have x1:ah K3.st v 3 u=1:=x.1;omega
 have sA:∀B,P'.may B->P.may B:=fun B h=>M.may B (hm B h);have nx:(syK K3 F v d os.length l).next-3*(au (syK K3 F v d os.length l).st 3:Nat)<=K.next-3*(au K.st 3:Nat):=by rw[h3,hn'];omega
 refine⟨.inl rfl,⟨_,W⟩,fun u hu hn h=>?_,fun u hu h=>?_,fun _ x=>⟨hvb,I.v0⟩,fun B h=>I.may B (sA B h),Int.le_trans nx I.nx,by rw[hn'];have:=I.le;omega,by rw[e];exact r1.trans I.qu,by rw[e];exact r2.trans I.cur,I.tg.trans (M.tgk.trans htg),fun _=>(by unfold ax;rw[h3];exact decide_eq_false (by omega)),fun β R gY hr=>?_⟩
 ·have:=I.vI u hu hn h;rw[ab u hn (.inl this)];exact this
 ·have:=I.jh u hu h;rw[ab u (fun x=>by rw[x] at this;omega) (.inr this)];exact this
 ·exact⟨rfl,I.room_end M (K2:={ K3 with st:=ah K3.st v 3 }) (.inr ⟨rfl,an6⟩) ⟨rfl,rfl,rfl⟩ E (by omega) sA nx β R gY hr⟩
theorem VI.out(I:VI a v f0 r0 K0 P0 f r K P)(M:VM a v K P d n K3 P3)(fc:K3.next=K.next)(wg:1099511627775<=K3.next):AX a v f0 r0 K0 P0 K3 P3 14:=by
 obtain⟨r1,r2,r3,r4,r5,r6,r7,_⟩:=M.rest;obtain⟨c3,c0⟩:=M.cnt;refine⟨.inr rfl,M.w,fun u hu hn h=>?_,fun u hu h=>?_,fun x=>(by cases x),fun B h=>I.may B (M.may B h),by rw[c3,fc];exact I.nx,by rw[fc];exact I.le,r1.trans I.qu,r2.trans I.cur,I.tg.trans M.tgk,fun x=>(by cases x),fun β R gY hr=>?_⟩
 ·have:=I.vI u hu hn h;rw[M.old (by omega)];exact this
 ·have:=I.jh u hu h;rw[M.old (by omega)];exact this
 ·obtain⟨R1,_⟩:=I.room β R gY hr;have:=R1.nx;have:=R1.lim;have:=R1.bd;omega
theorem VI.apM(I:VI a v f0 r0 K0 P0 f r K P)(M:VM a v K P d n K3 P3)(fc:K3.next=K.next)(hl:2<=au K.st 3)(hmv:P.may v):AX a v f0 r0 K0 P0 { K3 with st:=aD (aD K3.st d 2) v 3 } P3 14:=by
 obtain⟨r1,r2,r3,r4,r5,r6,r7,_⟩:=M.rest;obtain⟨c3,c0⟩:=M.cnt;obtain⟨k,w3⟩:=M.w;have hv:=I.hv;have v2:=I.v2;have jn:=M.dv;have hd:=M.jD.1;have v3:K3.st v=2:=by rw[M.old (by omega)];exact v2
 have sd:=M.sd;have e1:aD K3.st d 2=ah K3.st d 2:=if_neg (fun x=>by omega);have e2:∀s:Nat->Nat,aD s v 3=ah s v 3:=fun s=>if_neg (fun x=>x.2 rfl);rw[e1,e2];have w4:=w3.arn hd sd M.dst.fr;have s2v:ah K3.st d 2 v=2:=by unfold ah;rw[if_neg (fun x=>jn x.symm)];exact v3
 have q3:=bQ K3.st 2 3 hd;rw[if_neg (by omega),if_neg (by omega)] at q3;have q4:=gW (st:=ah K3.st d 2) hv (by omega);have ab:∀u,u≠v->K.st u=2\/K.st u=3->ah (ah K3.st d 2) v 3 u=K.st u:=fun u hn h=>by
  have hud:u≠d:=fun x=>by have:=M.jD.2;rw[x] at h;omega
  have h2:=M.old (u:=u) (by omega);unfold ah;rw[if_neg hn,if_neg hud];exact h2
 refine⟨.inr rfl,⟨k,w4.agb hv (fun fR e=>?_) (.inr ?_) K3.F w3.hb⟩,fun u hu hn h=>?_,fun u hu h=>?_,fun x=>(by cases x),fun B h=>I.may B (M.may B h),?_,by show K0.next<=K3.next;rw[fc];exact I.le,r1.trans I.qu,r2.trans I.cur,I.tg.trans M.tgk,fun x=>(by cases x),fun β R gY hr=>?_⟩
 ·have h1:=w3.f1 fR;have e:K3.fb=v:=e;rw[e] at h1;omega
 ·unfold ax;exact decide_eq_true (by show 2<au (ah (ah K3.st d 2) v 3) 3;omega)
 ·have:=I.vI u hu hn h;show ah (ah K3.st d 2) v 3 u=2;rw[ab u hn (.inl this)];exact this
 ·have:=I.jh u hu h;show ah (ah K3.st d 2) v 3 u=3;rw[ab u (fun x=>by rw[x] at this;omega) (.inr this)];exact this
 ·have:=I.nx;show K3.next-3*(au (ah (ah K3.st d 2) v 3) 3:Nat)<=_;omega
 ·obtain⟨R1,_⟩:=I.room β R gY hr;obtain⟨x,x1,x2⟩:=R1.x;have:=x1 v hv hmv;subst this;rcases x2 hv hmv with y|y<;>omega
theorem VI.apN(I:VI a v f0 r0 K0 P0 f r K P)(M:VM a v K P d n K3 P3)(hmd:P.may d){f' r':Bool}(hff:f=true->f'=true)(gY:f'=true->f=true\/P.may v)(hr':r'=true->r=true) :
  (∃k,Wi a k { K3 with st:=aD K3.st d 3 } P3)/\au (aD K3.st d 3) 3=au K.st 3+1 /\
  (f'=true->2<=au (aD K3.st d 3) 3->AX a v f0 r0 K0 P0 { K3 with st:=aD (aD K3.st d 3) v 3 } P3 14) /\
  ∀K5 P5 e,BA a { K3 with st:=aD K3.st d 3 } P3 K5 P5 e->(e=0->VI a v f0 r0 K0 P0 f' r' K5 P5/\au K.st 3<au K5.st 3)/\(e=14->AX a v f0 r0 K0 P0 K5 P5 14):=by
 obtain⟨r1,r2,r3,r4,r5,r6,r7,r8,r9⟩:=M.rest;obtain⟨c3,c0⟩:=M.cnt;obtain⟨k,w3⟩:=M.w;have hv:=I.hv;have v2:=I.v2;have jn:=M.dv;have hd:=M.jD.1;have vT:=M.jD.2;have v3:K3.st v=2:=by rw[M.old (by omega)];exact v2
 have sd:=M.sd;have e2:∀(s:Nat->Nat) (b:Nat),aD s b 3=ah s b 3:=fun s b=>if_neg (fun x=>x.2 rfl);rw[e2,e2];have q3:=gW (st:=K3.st) hd (by omega);have q0:=abQ (st:=K3.st) (b:=d) (x:=3) hd (by omega) (by omega);have w4:=w3.agb hd M.dst.fr (.inl M.dst.dead) K3.F w3.hb;have w4:Wi a k { K3 with st:=ah K3.st d 3 } P3:=w4;have s4v:ah K3.st d 3 v=2:=by unfold ah;rw[if_neg (fun x=>jn x.symm)];exact v3
 have q4:=gW (st:=ah K3.st d 3) hv (by omega);have ab:∀u,K.st u=2\/K.st u=3->ah K3.st d 3 u=K.st u:=fun u h=>by
  have hud:u≠d:=fun x=>by rw[x] at h;omega
  have h2:=M.old (u:=u) (by omega);unfold ah;rw[if_neg hud];exact h2
 have ffr:∀β,Rm β K0 P0->(f0=true->P0.may v)->(r0=true->∀B,B<12->¬P0.may B)->f'=false/\r'=false/\au K.st 3<=1/\(∀B,B<12->P.may B->B=d):=fun β R hf hr=>by
  obtain⟨R1,m1,n1,_⟩:=I.room β R hf hr;obtain⟨x,x1,x2⟩:=R1.x;have hxd:=x1 d hd hmd;subst hxd;refine⟨?_,?_,?_,x1⟩
  ·cases hfe:f'
   ·rfl
   ·have hmv:P.may v:=by
     rcases gY hfe with y|y
     ·exact m1 y
     ·exact y
    exact absurd (x1 v hv hmv).symm jn
  ·cases hre:r'
   ·rfl
   ·exact absurd hmd (n1 (hr' hre) _ hd)
  ·rcases x2 hd hmd with y|y<;>omega
 refine⟨⟨k,w4⟩,by omega,fun hf hl=>?_,fun K5 P5 e B=>⟨fun he=>?_,fun he=>?_⟩⟩
 ·refine⟨.inr rfl,⟨k,w4.agb hv (fun fR e=>?_) (.inr ?_) K3.F w3.hb⟩,fun u hu hn h=>?_,fun u hu h=>?_,fun x=>(by cases x),fun B h=>I.may B (M.may B h),?_,by show K0.next<=K3.next;have:=I.le;omega,r1.trans I.qu,r2.trans I.cur,I.tg.trans M.tgk,fun x=>(by cases x),fun β R hf2 hr=>?_⟩
  ·have h1:=w3.f1 fR;have e:K3.fb=v:=e;rw[e] at h1;omega
  ·unfold ax;exact decide_eq_true (by show 2<au (ah (ah K3.st d 3) v 3) 3;omega)
  ·have:=I.vI u hu hn h;show ah (ah K3.st d 3) v 3 u=2;rw[show ah (ah K3.st d 3) v 3 u=ah K3.st d 3 u from if_neg hn,ab u (.inl this)];exact this
  ·have:=I.jh u hu h;show ah (ah K3.st d 3) v 3 u=3;rw[show ah (ah K3.st d 3) v 3 u=ah K3.st d 3 u from if_neg (fun x=>by rw[x] at this;omega),ab u (.inr this)];exact this
  ·have:=I.nx;show K3.next-3*(au (ah (ah K3.st d 3) v 3) 3:Nat)<=_;omega
  ·rw[(ffr β R hf2 hr).1] at hf
   cases hf
 ·subst he;have s3:∀u,u<12->K.st u=3->K5.st u=3:=fun u hu h=>B.jh u hu (by show ah K3.st d 3 u=3;rw[ab u (.inr h)];exact h);have c5:au K.st 3+1<=au K5.st 3:=by
   have:=iE B.jh;have:au (ah K3.st d 3) 3<=au K5.st 3:=this;omega
  have nx5:=B.nx;have nx5:K5.next-3*(au K5.st 3:Nat)<=K3.next-3*(au (ah K3.st d 3) 3:Nat)+1:=nx5;have le5:K3.next<=K5.next:=B.le;have an7:K5.next-3*(au K5.st 3:Nat)<=K.next-3*(au K.st 3:Nat):=by omega
  refine⟨⟨hv,I.v0,B.w,B.vI v hv s4v,fun u hu hn h=>B.vI u hu ?_,fun u hu h=>s3 u hu (I.jh u hu h),fun b h=>I.may b (M.may b (B.may b h)),Int.le_trans an7 I.nx,by have:=I.le;omega,B.qu.trans (r1.trans I.qu),B.cur.trans (r2.trans I.cur),I.tg.trans (M.tgk.trans B.tg),fun x=>hff (I.ff x),fun β R hf hr=>?_⟩,by omega⟩
  ·have:=I.vI u hu hn h;show ah K3.st d 3 u=2;rw[ab u (.inl this)];exact this
  ·obtain⟨g1,g2,g3,g4⟩:=ffr β R hf hr;obtain⟨R1,m1,n1,o1⟩:=I.room β R hf hr;have mu:=R1.free;have Dx:Rb (β-2) { K3 with st:=ah K3.st d 3 } P3:=by
    refine⟨fun b hb e=>?_,by show au (ah K3.st d 3) 3<=2;omega,fun b hb hm=>?_,.inr (by show 1<=au (ah K3.st d 3) 0;omega),by have:=R1.nx;show K3.next-3*(au (ah K3.st d 3) 3:Nat)<=β-2;omega,by have:=R1.lim;omega⟩
    ·have e:ah K3.st d 3 b=1:=e;have u5:b≠d:=fun x=>by
      rw[x] at e;have:ah K3.st d 3 d=3:=if_pos rfl;omega
     unfold ah at e;rw[if_neg u5,M.ne u5] at e;have:=R1.mT b hb e;exact⟨r3.trans this.1,r4.trans this.2⟩
    ·rw[g4 b hb (M.may b hm)];exact if_pos rfl
   obtain⟨_,b1,b2,b3,b4⟩:=B.room _ Dx;have b2:au K5.st 3=au (ah K3.st d 3) 3:=b2;have b3:au (ah K3.st d 3) 0<=au K5.st 0+1:=b3;have hd5:K5.st d=3:=B.jh d hd (if_pos rfl);refine⟨⟨b1,by omega,by omega,⟨d,fun b hb hm=>g4 b hb (M.may b (B.may b hm)),fun _ _=>.inl hd5⟩,by have:=R1.nx;omega,R1.lim⟩,fun x=>(by rw[g1] at x;cases x),fun x=>(by rw[g2] at x;cases x),fun fR=>?_⟩;rcases o1 fR with⟨y1,y2⟩|⟨y1,y2,y3⟩
   ·obtain⟨z1,z2⟩:=b4 (r3.trans y1);exact .inr ⟨z1,z2,fun b hb hm=>by rw[g4 b hb (M.may b (B.may b hm))];exact hd5⟩
   ·have:=y3 d hd hmd;omega
 ·subst he;have s3:∀u,u<12->K.st u=3->K5.st u=3:=fun u hu h=>B.jh u hu (by show ah K3.st d 3 u=3;rw[ab u (.inr h)];exact h);have nx5:K5.next-3*(au K5.st 3:Nat)<=K3.next-3*(au (ah K3.st d 3) 3:Nat)+1:=B.nx;have le5:K3.next<=K5.next:=B.le;have an7:K5.next-3*(au K5.st 3:Nat)<=K.next-3*(au K.st 3:Nat):=by omega
  refine⟨.inr rfl,B.w,fun u hu hn h=>B.vI u hu ?_,fun u hu h=>s3 u hu (I.jh u hu h),fun x=>(by cases x),fun b h=>I.may b (M.may b (B.may b h)),Int.le_trans an7 I.nx,by have:=I.le;omega,B.qu.trans (r1.trans I.qu),B.cur.trans (r2.trans I.cur),I.tg.trans (M.tgk.trans B.tg),fun x=>(by cases x),fun β R hf hr=>?_⟩
  ·have:=I.vI u hu hn h;show ah K3.st d 3 u=2;rw[ab u (.inl this)];exact this
  ·obtain⟨g1,g2,g3,g4⟩:=ffr β R hf hr;obtain⟨R1,m1,n1,o1⟩:=I.room β R hf hr;have mu:=R1.free;have Dx:Rb (β-2) { K3 with st:=ah K3.st d 3 } P3:=by
    refine⟨fun b hb e=>?_,by show au (ah K3.st d 3) 3<=2;omega,fun b hb hm=>?_,.inr (by show 1<=au (ah K3.st d 3) 0;omega),by have:=R1.nx;show K3.next-3*(au (ah K3.st d 3) 3:Nat)<=β-2;omega,by have:=R1.lim;omega⟩
    ·have e:ah K3.st d 3 b=1:=e;have u5:b≠d:=fun x=>by
      rw[x] at e;have:ah K3.st d 3 d=3:=if_pos rfl;omega
     unfold ah at e;rw[if_neg u5,M.ne u5] at e;have:=R1.mT b hb e;exact⟨r3.trans this.1,r4.trans this.2⟩
    ·rw[g4 b hb (M.may b hm)];exact if_pos rfl
   have:=(B.room _ Dx).1;omega
end
section
variable{a:Nat->Nat->Nat}{k:Cp}{K:KS}{P P':CS}
theorem Wi.ct(h:Wi a k K P){of:Nat}(ho:of<=24)(hr:aF K.fo K.fi of=true)(hn:K.next<1099511627775)(hL:Lk P P' (K.fb*8+K.fi))(zX:nf (P'.pg (K.fb*8+K.fi))):Wi a k (tkK (bJ K)) P':=by
 have Fr:=h.fresh ho hr;have h8:=Fr.fi;have qk:(K.fb*8+K.fi)/8=K.fb:=by omega
 exact((h.seq hn).next (of:=of) hr).cell Fr.lt (by rw[qk];exact Fr.st) Fr.bl (fun _ _=>by show(K.fb*8+K.fi)%8<K.fi+1;omega) hL.pg (.inl zX)
theorem Wi.aeG(h:Wi a k K P){of:Nat}(ho:of<=24)(hr:aF K.fo K.fi of=true)(hn:K.next<1099511627775)(hL:Lk P P' (K.fb*8+K.fi))(zX:nf (P'.pg (K.fb*8+K.fi))):Tw P' 1099511627775 a:=by
 have w:=h.ct ho hr hn hL zX;exact⟨k,_,w.mt.mono w.nx.2,w.sh⟩
end
structure BI(a:Nat->Nat->Nat)(K0:KS)(P0:CS)(K:KS)(P:CS):Prop where
 w:∃k,Wi a k K P
 vI:∀u,u<12->K0.st u=2->K.st u=2
 jh:∀u,u<12->K0.st u=3->K.st u=3
 may:∀B,P.may B->P0.may B
 nx:K.next-3*(au K.st 3:Nat)<=K0.next-3*(au K0.st 3:Nat)
 le:K0.next<=K.next
 qu:K.qu=K0.qu
 cur:K.cur=K0.cur
 tg:Ay K0 K
 room:∀β,Rb β K0 P0->K=K0
structure BO(a:Nat->Nat->Nat)(K Kf:KS)(P:CS):Prop where
 w:∃k,Wi a k Kf P
 room:aF Kf.fo Kf.fi 24=true
 eq:∃st pn fo fb fi,Kf={ K with st:=st,pn:=pn,fo:=fo,fb:=fb,fi:=fi }
 st:∀u,u<12->K.st u=2\/K.st u=3->Kf.st u=K.st u
 c3:au Kf.st 3=au K.st 3
 c0:au K.st 0<=au Kf.st 0+1
 mT:(∀b,b<12->K.st b=1->K.fo=true/\K.fb=b)->∀b,b<12->Kf.st b=1->Kf.fo=true/\Kf.fb=b
 fi:K.fo=false->Kf.fi=0
section
variable{a:Nat->Nat->Nat}{K0 K Kf K':KS}{P0 P P' P6:CS}
theorem BO.same{k:Cp}(h:Wi a k K P)(hr:aF K.fo K.fi 24=true):BO a K K P :=
 ⟨⟨k,h⟩,hr,⟨_,_,_,_,_,rfl⟩,fun _ _ _=>rfl,rfl,by omega,fun x=>x,fun x=>by
  unfold aF at hr;rw[x] at hr
  cases hr⟩
theorem BO.taken{k:Cp}(h:Wi a k K P){e:Nat}(ht:takeN (aT K).st (aT K).pn=some e):BO a K { aT K with st:=ah (aT K).st e 1,pn:=e+1,fo:=true,fb:=e,fi:=0 } P:=by
 obtain⟨w,S⟩:=h.shut;obtain⟨hd,h0⟩:=df ht;obtain⟨s0,s3⟩:=fF S.st;have h1:=bQ (aT K).st 1 3 hd;have h2:=bQ (aT K).st 1 0 hd;rw[if_neg (by omega),if_neg (by omega)] at h1;rw[if_pos h0,if_neg (by omega)] at h2;obtain⟨st,fo,fb,fi,ee⟩:=S.eq;refine⟨⟨k,w.mT S.fo ht⟩,rfl,⟨_,_,_,_,_,by rw[ee]⟩,fun u hu hs=>?_,?_,?_,fun ho b hb e1=>⟨rfl,?_⟩,fun _=>rfl⟩
 ·have hue:u≠e:=fun x=>by
   rw[<-x] at h0;rcases S.st u with y|y<;>omega
  show ah (aT K).st e 1 u=_;unfold ah;rw[if_neg hue];rcases S.st u with y|y
  ·exact y
  ·omega
 ·show au (ah (aT K).st e 1) 3=_;omega
 ·show au K.st 0<=au (ah (aT K).st e 1) 0+1;omega
 ·have e1:ah (aT K).st e 1 b=1:=e1;show e=b;by_cases hbe:b=e
  ·exact hbe.symm
  ·unfold ah at e1;rw[if_neg hbe] at e1;have nR:K.st b=1:=by
    rcases S.st b with y|y<;>omega
   obtain⟨y1,y2⟩:=ho b hb nR;have:=S.front y1;rw[y2] at this;omega
theorem BO.tgk(O:BO a K Kf P):Ay K Kf:=by
 obtain⟨st,pn,fo,fb,fi,e⟩:=O.eq;exact .same (by rw[e]) (by rw[e])
theorem BI.start{k:Cp}(h:Wi a k K P):BI a K P K P:=⟨⟨k,h⟩,fun _ _ x=>x,fun _ _ x=>x,fun _ x=>x,Int.le_refl _,Int.le_refl _,rfl,rfl,Ay.refl K,fun _ _=>rfl⟩
section
variable(I:BI a K0 P0 K P)
include I
theorem BI.abn(hw:ax K.st=true):BA a K0 P0 K P 14 :=
 ⟨.inr rfl,I.w,I.vI,I.jh,I.may,by have:=I.nx;omega,I.le,I.qu,I.cur,I.tg,fun x=>(by cases x),fun β R=>by
  have:=I.room β R;subst this;have:=R.bd;unfold ax at hw;have:=of_decide_eq_true hw;omega⟩
theorem BI.none(hr:aF K.fo K.fi 24=false)(ht:takeN (aT K).st (aT K).pn=none):BA a K0 P0 (aT K) P 14:=by
 obtain⟨k,w⟩:=I.w;obtain⟨w',S⟩:=w.shut;obtain⟨s0,s3⟩:=fF S.st;obtain⟨st,fo,fb,fi,ee⟩:=S.eq;have ab:∀u,K.st u=2\/K.st u=3->(aT K).st u=K.st u:=fun u h=>by
  rcases S.st u with y|y
  ·exact y
  ·omega
 refine⟨.inr rfl,⟨k,w'⟩,fun u hu h=>?_,fun u hu h=>?_,I.may,?_,by rw[ee];exact I.le,by rw[ee];exact I.qu,by rw[ee];exact I.cur,I.tg.trans (.same (by rw[ee]) (by rw[ee])),fun x=>(by cases x),fun β R=>?_⟩
 ·have:=I.vI u hu h;rw[ab u (.inl this)];exact this
 ·have:=I.jh u hu h;rw[ab u (.inr this)];exact this
 ·have e:(aT K).next=K.next:=by rw[ee]
  rw[s3,e];have:=I.nx;omega
 ·have:=I.room β R;subst this;rcases R.free with y|y
  ·rw[hr] at y;cases y
  ·obtain⟨d,hd,_⟩:=je w'.pn (st:=(aT K).st) (by omega);rw[ht] at hd
   cases hd
variable(O:BO a K Kf P)
include O
theorem BI.out(wg:1099511627775<=Kf.next):BA a K0 P0 (tkK Kf) P 14:=by
 obtain⟨k,w⟩:=O.w;obtain⟨_,_,_,_,_,e⟩:=O.eq;have fc:Kf.next=K.next/\Kf.qu=K.qu/\Kf.cur=K.cur:=by rw[e];exact⟨rfl,rfl,rfl⟩
 refine⟨.inr rfl,⟨k,w.next O.room⟩,fun u hu h=>?_,fun u hu h=>?_,I.may,?_,by show K0.next<=Kf.next;rw[fc.1];exact I.le,fc.2.1.trans I.qu,fc.2.2.trans I.cur,I.tg.trans O.tgk,fun x=>(by cases x),fun β R=>?_⟩
 ·have:=I.vI u hu h;exact(O.st u hu (.inl this)).trans this
 ·have:=I.jh u hu h;exact(O.st u hu (.inr this)).trans this
 ·have:=I.nx;show Kf.next-3*(au Kf.st 3:Nat)<=_;rw[O.c3,fc.1];omega
 ·have:=I.room β R;subst this;have:=R.nx;have:=R.lim;have:=R.bd;omega
theorem BI.vH(hw:ax K.st=false)(hn:Kf.next<1099511627775)(hL:Lk P P' (Kf.fb*8+Kf.fi))(hp:P'.pg (Kf.fb*8+Kf.fi)=.full (dw Kf 24) (aW (bJ Kf) Kf.next)):BA a K0 P0 (cB Kf 24) P' 0:=by
 obtain⟨k,w⟩:=O.w;obtain⟨_,_,_,_,_,e⟩:=O.eq;have fc:Kf.next=K.next/\Kf.qu=K.qu/\Kf.cur=K.cur:=by rw[e];exact⟨rfl,rfl,rfl⟩
 have hwf:ax Kf.st=false:=by
  unfold ax at hw ⊢;rw[O.c3];exact hw
 obtain⟨W,ow,F,calls,ee⟩:=w.vH hwf O.room hn hL.pg hp;have bq:(cB Kf 24).st=Kf.st:=by rw[ee]
 refine⟨.inl rfl,⟨_,W⟩,fun u hu h=>?_,fun u hu h=>?_,fun B h=>I.may B (hL.may B h),?_,?_,?_,?_,I.tg.trans (O.tgk.trans ?_),fun _=>(by rw[bq];exact hwf),fun β R=>⟨rfl,?_,?_,?_,fun hf=>?_⟩⟩
 ·have:=I.vI u hu h;rw[bq];exact(O.st u hu (.inl this)).trans this
 ·have:=I.jh u hu h;rw[bq];exact(O.st u hu (.inr this)).trans this
 ·have:=I.nx;rw[bq,O.c3,show(cB Kf 24).next=Kf.next+1 by rw[ee],fc.1];omega
 ·rw[show(cB Kf 24).next=Kf.next+1 by rw[ee],fc.1];have:=I.le;omega
 ·rw[show(cB Kf 24).qu=Kf.qu by rw[ee]];exact fc.2.1.trans I.qu
 ·rw[show(cB Kf 24).cur=Kf.cur by rw[ee]];exact fc.2.2.trans I.cur
 ·intro o ho e;rw[ee];show ah Kf.at_ 24 (Kf.fb*8+Kf.fi+1) o≠0/\(ah Kf.en 24 ⟨Kf.next,0,false⟩ o).seq=(Kf.en o).seq;unfold ah;rw[if_neg (by omega),if_neg (by omega)];exact⟨e,rfl⟩
 ·have:=I.room β R;subst this;intro b hb e1;rw[bq] at e1;rw[show(cB Kf 24).fo=Kf.fo by rw[ee],show(cB Kf 24).fb=Kf.fb by rw[ee]];exact O.mT R.mT b hb e1
 ·have:=I.room β R;subst this;rw[bq];exact O.c3
 ·have:=I.room β R;subst this;rw[bq];exact O.c0
 ·have:=I.room β R;subst this;rw[show(cB Kf 24).fo=Kf.fo by rw[ee],show(cB Kf 24).fi=Kf.fi+1 by rw[ee],O.fi hf];have:=O.room;unfold aF at this;simp only[Bool.and_eq_true] at this;exact⟨this.1,by omega⟩
theorem BI.vac(hm6:∀B,P6.may B->P.may B)(hmf:P.may Kf.fb){e:Int}(V:AX a Kf.fb true false (tkK (bJ Kf)) P6 K' P' e):BA a K0 P0 K' P' e:=by
 obtain⟨k,w⟩:=O.w;obtain⟨_,_,_,_,_,ee⟩:=O.eq;have fc:Kf.next=K.next/\Kf.qu=K.qu/\Kf.cur=K.cur:=by rw[ee];exact⟨rfl,rfl,rfl⟩
 have Fr:=w.fresh (Nat.le_refl 24) O.room;have ne:∀u,u<12->K.st u=2->u≠Kf.fb:=fun u hu h x=>by
  have h1:=O.st u hu (.inl h);have h2:=Fr.st;rw[x] at h1;rw[x] at h;omega
 refine⟨V.er,V.w,fun u hu h=>?_,fun u hu h=>?_,fun B h=>I.may B (hm6 B (V.may B h)),?_,?_,V.qu.trans (fc.2.1.trans I.qu),V.cur.trans (fc.2.2.trans I.cur),I.tg.trans (O.tgk.trans V.tg),V.nw,fun β R=>?_⟩
 ·have h1:=I.vI u hu h;exact V.vI u hu (ne u hu h1) ((O.st u hu (.inl h1)).trans h1)
 ·have h1:=I.jh u hu h;exact V.jh u hu ((O.st u hu (.inr h1)).trans h1)
 ·have h1:=V.nx;have h1:K'.next-3*(au K'.st 3:Nat)<=Kf.next+1-3*(au Kf.st 3:Nat):=h1;have:=I.nx;rw[O.c3,fc.1] at h1;omega
 ·have h1:Kf.next+1<=K'.next:=V.le;have:=I.le;omega
 ·have:=I.room β R;subst this;have h1:=R.may Kf.fb w.fb (I.may _ hmf);have h2:=O.st Kf.fb w.fb (.inr h1);have:=Fr.st;omega
theorem BI.again(hn:Kf.next<1099511627775)(hL:Lk P P6 (Kf.fb*8+Kf.fi))(zX:nf (P6.pg (Kf.fb*8+Kf.fi)))(hmf:P.may Kf.fb)(hl:lv Kf.at_ Kf.fb=0) :
  BI a K0 P0 { bJ Kf with fo:=false,fb:=0,fi:=0,st:=aD Kf.st Kf.fb 3 } P6/\au (aD Kf.st Kf.fb 3) 3=au K.st 3+1:=by
 obtain⟨k,w⟩:=O.w;obtain⟨_,_,_,_,_,ee⟩:=O.eq;have fc:Kf.next=K.next/\Kf.qu=K.qu/\Kf.cur=K.cur:=by rw[ee];exact⟨rfl,rfl,rfl⟩
 have Fr:=w.fresh (Nat.le_refl 24) O.room;have w6:=w.ct (Nat.le_refl _) O.room hn hL zX;have w7:=w6.close (fw.1 hl);have qk:=w.fb;have w8:=w7.agb qk (fun x=>(by cases x)) (.inl (fw.1 hl)) Kf.F w.hb;have e3:aD Kf.st Kf.fb 3=ah Kf.st Kf.fb 3:=if_neg (fun x=>x.2 rfl);have hs:=Fr.st;have c3:=gW (st:=Kf.st) qk (by omega);rw[e3];have ab:∀u,u<12->K.st u=2\/K.st u=3->ah Kf.st Kf.fb 3 u=K.st u:=fun u hu h=>by
  have h1:=O.st u hu h;unfold ah;rw[if_neg (fun x=>by rw[x] at h1 h;omega)];exact h1
 have hc:=O.c3;refine⟨⟨⟨k,w8⟩,fun u hu h=>?_,fun u hu h=>?_,fun B h=>I.may B (hL.may B h),?_,?_,fc.2.1.trans I.qu,fc.2.2.trans I.cur,I.tg.trans O.tgk,fun β R=>?_⟩,by omega⟩
 ·have h1:=I.vI u hu h;exact(ab u hu (.inl h1)).trans h1
 ·have h1:=I.jh u hu h;exact(ab u hu (.inr h1)).trans h1
 ·have:=I.nx;show Kf.next+1-3*(au (ah Kf.st Kf.fb 3) 3:Nat)<=_;omega
 ·have:=I.le;show K0.next<=Kf.next+1;omega
 ·have:=I.room β R;subst this;have h1:=R.may Kf.fb w.fb (I.may _ hmf);have h2:=O.st Kf.fb w.fb (.inr h1);omega
end
end
section
variable{w w':World}{N:Cr}{K:KS}{X:Option Addr}{c:Nat}{P:CS}{b:Option Nat}{n:Int}
theorem On.aeH{w1 w2:World}{K0:KS}{P0:CS}{b0:Option Nat}{n0:Int}{S:List Nat}(h0:On w N K0 P0 b0 n0 X c)(h:AW w1 N.N P n)(k:Aa S w1 w2)(hS:∀x,x∈S->w.heap.size<=x):AW w2 N.N P n:=by
 obtain⟨C0,M0,-⟩:=h0.o9;have hl:=M0.lt;have no:∀y,y<w.heap.size->y∉S:=fun y hy hm=>by have:=hS y hm;omega
 exact h.ab k ⟨no _ hl.1,no _ hl.2.1,no _ hl.2.2.1,no _ hl.2.2.2.1,no _ hl.2.2.2.2.1,no _ hl.2.2.2.2.2⟩
theorem rE(h:On w N K P b n X c)(hn:1099511627775<=K.next):Spec Tryz.prog 107 #[.pointer (some ⟨N.k,0,none⟩)] w fun v w'=>v=.tuple #[.int .i64 0,al 14]/\w=w':=by
 refine spec_of_wpE (T:=tt) ai func107 rfl (by decide +kernel) ntmps107 (by simp) ?_;conv=>whnf
 repeat ((first|(refine Ld.of h.core.ant ?_)|refine Br.y ?_|refine CW.s ?_);conv=>whnf)
 exact⟨rfl,rfl,rfl⟩
theorem vJ(h:On w N K P b n X c){v:Nat}(hv:v<12):Spec Tryz.prog 146 #[.pointer (some ⟨N.k,0,none⟩),.int .i64 v] w fun u w'=>u=al 14/\On w' N { K with st:=aD K.st v 3 } P b n X c/\Aa N.all w w':=by
 refine spec_of_wpE (T:=tt) ai func146 rfl (by decide +kernel) ntmps146 (by simp) ?_;conv=>whnf
 repeat ((refine Ld.of h.core.c1 ?_);conv=>whnf)
 refine Ca.of (eO h.core.aV v 3 hv (by omega)) ?_;rintro _ w2 ⟨⟨e,rfl⟩,r2,k2⟩;have h2:=h.aV k2 r2;conv=>whnf
 exact⟨rfl,rfl,h2,Aa.jl (by simp[Cr.own]) k2⟩
def Cs(K:KS)(P:CS)(v p:Nat)(u:Value)(K':KS)(P':CS):Prop :=
 (1099511627775<=K.next/\u=.tuple #[.agg Tg.zero.arr,al 14]/\K'=K/\P'=P) \/
 (K.next<1099511627775/\Lk P P' p/\(u=.tuple #[.agg (dQ K p).arr,al 0]/\K'=pT (bJ K) p/\P'.pg p=.full (dQ K p) (sV (iA (bJ K) K.next v))\/u=.tuple #[.agg (dQ K p).arr,al 8]/\K'=bJ K/\nf (P'.pg p)/\P.may (p/8)))
theorem alM(h:On w N K P b n X c){v d i:Nat}(hv:v<12)(hd:d<12)(hi:i<8)(B:Hl.HB K.F)(hn1:1<=K.next)(ht:K.next<1099511627775->(iA (bJ K) K.next v).told)(na:P.pg (d*8+i)=.blank) :
  Spec Tryz.prog 150 #[.pointer (some ⟨N.k,0,none⟩),.int .i64 v,.int .i64 d,.int .i64 i] w fun u w' =>
   Fin N X c b w w' (Cs K P v (d*8+i) u) (fun Q=>u=.tuple #[.agg (dQ K (d*8+i)).arr,al 7]/\K.next<1099511627775/\Lk P Q (d*8+i)/\nf (Q.pg (d*8+i))):=by
 refine spec_of_wpE (T:=tt) ai func150 rfl (by decide +kernel) ntmps150 (by simp) ?_;conv=>whnf
 refine Ru.ft ?_;intro x8 w1 hx8 dj r8 k1;have h1:=h.aj k1;by_cases hn:K.next<1099511627775
 case neg =>
  conv=>whnf
  refine Ca.of (rE h1 (by omega)) ?_;rintro _ _ ⟨rfl,rfl⟩;conv=>whnf
  repeat ((first|refine Br.t ?_|refine Ru.n1 ?_|refine CW.s ?_);conv=>whnf)
  refine Ru.of (nk _) ?_;conv=>whnf
  refine Ru.ln r8 ?_;intro w2 r82 k2;have q2:Aa [] w w2:=k1.then k2 (fun x hx=>.inr (by rw[List.mem_singleton.1 hx,hx8];exact Nat.le_refl _));conv=>whnf
  refine Ru.fG r82 ?_;conv=>whnf
  exact⟨rfl,Aa.eh q2,.inl ⟨K,P,b,n,id,h.aj q2,.inl ⟨by omega,rfl,rfl,rfl⟩⟩⟩
 have ht:=ht hn;conv=>whnf
 refine Ca.of (sR h1 ⟨by omega,hn⟩) ?_;rintro _ w2 ⟨rfl,h2,k2⟩;have bW:∀x,w.heap.size<=x->x∉N.all:=fun x hx hm=>by
  have h3:x<w.heap.size:=by
   rcases List.mem_append.1 hm with hm|hm
   ·exact h.core.lt (List.mem_append_left _ hm)
   ·exact h.gn _ hm
  omega
 have r82:=r8.ab k2 (bW x8 (by omega));have dh:Aa N.all w w2:=(Aa.eh k1).trans k2;conv=>whnf
 repeat ((first|refine Br.f ?_|refine Ru.ak ?_|refine CW.s ?_);conv=>whnf)
 refine Ca.of (nH h2 K.next v) ?_;rintro _ w3 ⟨rfl,k3⟩;have h3:=h2.aj k3;have r83:=r82.ab k3 (by simp);conv=>whnf
 refine Ca.of (iK w3 _ ht) ?_;rintro _ w4 ⟨y,hy,rfl,r4,k4⟩;have h4:=h3.aj k4;have r84:=r83.ab k4 (by simp);have bU:Aa N.all w w4:=(dh.trans (Aa.eh k3)).trans (Aa.eh k4);clear k3 k4 h3 h2 r82 r83 r8;conv=>whnf
 repeat ((first|refine Br.f ?_|refine Ar.la ?_|refine Ru.ak ?_|refine CW.s ?_);conv=>whnf)
 refine Ru.of (nI _ _ _ _) ?_;rw[show Tg.mk ((d:Int)*8+i) 24 K.next 0 false=dQ K (d*8+i) by unfold dQ;congr 1];conv=>whnf
 refine Ru.ft ?_;intro x13 w5 hx13 hs5 r13a k5;conv=>whnf
 refine Ru.ln r13a ?_;intro w6 r13 k6;have q6:Aa [] w4 w6:=k5.then k6 (fun x hx=>.inr (by rw[List.mem_singleton.1 hx,hx13];exact Nat.le_refl _));have h6:=h4.aj q6;have r86:=r84.ab q6 (by simp);have ry6:=r4.ab q6 (by simp);have gG:=bU.trans (Aa.eh q6);have apO:w.heap.size<=x13:=by
  rw[hx13];exact bU.size
 have apP:x8≠x13:=by
  rw[hx13];have:=r84.lt;omega
 clear k5 k6 q6 h4 hs5 r13a r84 r4;conv=>whnf
 refine CW.held (fun w'=>Row w' x13 67 5 (dQ K (d*8+i)).cell) [] (.take 0 (.take 1 (.take 2 (.take 3 (.one 4 (.one 5 (.take 6 (.done)))))))) ai (by kernel_rfl) (by kernel_rfl) (by kernel_rfl) ?_ ?_
 ·exact Row.drewN r13 1
 have q7:=(Aa.refl [] w6).drewN 1;have h7:=h6.aj q7;have r87:=r86.ab q7 (by simp);have ry7:=ry6.ab q7 (by simp);have aro:=r13.ab q7 (by simp);have nW:=gG.trans (Aa.eh q7);clear h6 r86 ry6 r13 q7;generalize w6.drewN 1=w7 at *;have ly7:Ly w7 5 1 (some ⟨y,0,none⟩) 174 174 (fun j=>.int .u8 (sV (iA (bJ K) K.next v) j:Nat)):=(Ly.dq ry7 (by omega) (by omega) (by simp[maxLen])).congr (fun j hj=>by rw[nJ]);conv=>whnf
 repeat ((refine Am.fG (fun _ h=>h) ?_);conv=>whnf)
 refine Ca.of (zY h7 B (p:=d*8+i) (by omega) (jc _) ly7 (abM (by omega) ⟨hn1,hn⟩) rfl na) ?_;rintro _ w8 ⟨k8,hr8⟩;have r88:=r87.ab k8 (bW x8 (by omega));have apQ:=aro.ab k8 (bW x13 apO);have qW:=nW.trans k8;rw[gH] at hr8;rcases hr8 with⟨K8,P8,b8,n8,tD,h8,g1,⟨rfl,rfl,g2⟩|⟨rfl,rfl,g2,g3,-⟩⟩|⟨tD,Q,n8,h8,rfl,g1,g2⟩
 all_goals
  refine⟨apQ,?_⟩;conv=>whnf
  refine Ru.ln r88 ?_;intro w9 r89 k9;have hS9:∀x,x∈[x8]->w.heap.size<=x:=fun x hx=>by rw[List.mem_singleton.1 hx];omega
  have q9:Aa N.all w w9:=qW.then k9 (fun x hx=>.inr (by rw[List.mem_singleton.1 hx];omega));refine⟨apQ.ab k9 (by simpa using apP.symm),?_⟩;conv=>whnf
  refine Ru.fG r89 ?_;conv=>whnf
 ·exact⟨rfl,q9,.inl ⟨_,P8,b8,n8,tD,h.dN h8 k9 hS9,.inr ⟨hn,g1,.inl ⟨rfl,rfl,g2⟩⟩⟩⟩
 ·exact⟨rfl,q9,.inl ⟨_,P8,b8,n8,tD,h.dN h8 k9 hS9,.inr ⟨hn,g1,.inr ⟨rfl,rfl,g2,g3⟩⟩⟩⟩
 ·exact⟨rfl,q9,.inr ⟨tD,Q,n8,h.aeH h8 k9 hS9,rfl,hn,g1,g2⟩⟩
end
section
variable{a:Nat->Nat->Nat}{v:Nat}{K:KS}{P:CS}{d:Nat}{os:List Nat}{l:List Tg}
theorem Bi.wf(C:Bi K P v d os l)(hc:AM K.at_ K.ow)(hd:d<12)(fU:∀o,o<25->K.at_ o≠0->(K.at_ o-1)/8≠d){K2:KS}(e1:K2.at_=K.at_)(e2:K2.ow=K.ow)(e3:K2.en=K.en)(i:Nat)(hi:i<=l.length):AL (eY K2 (l.take i)).at_ (eY K2 (l.take i)).ow:=by
 have H:BD K2 d os l (fun o=>⟨(K.en o).seq,((K.en o).copy+1)%256,(K.en o).lost⟩):=by
  refine⟨by rw[e1,e2];exact hc,hd,C.o8,C.nd,C.len,fun i hi=>⟨(C.mem _ ?_).1,(C.tag i hi).2⟩,by rw[e1];exact fU,fun i hi=>?_⟩
  ·rw[bH hi];exact List.getElem_mem hi
  ·rw[(C.tag i hi).1];exact⟨rfl,rfl,rfl⟩
 exact((uY H i (by have:=C.len;omega)).1).mw
theorem Bi.tgs(C:Bi K P v d os l)(hd:d<12):∀t,t∈l->(0<=t.of/\t.of<=24)/\0<=t.place/\t.place<96:=fun t ht=>by
 obtain⟨i,hi,rfl⟩:=List.getElem_of_mem ht;have hl:=C.len;have h8:=C.o8;rw[<-bH hi (x:=Tg.zero),(C.tag i (by omega)).1];have hm:=(C.mem (os.getD i 0) (by rw[bH (by omega)];exact List.getElem_mem _)).1;unfold bm;simp only;omega
structure C9(a:Nat->Nat->Nat)(N:Cr)(X:Option Addr)(c:Nat)(b:Option Nat)(w:World)(v:Nat)(f:Bool)(K:KS)(P:CS)(d:Nat)(bad:Bool)(why:Prop)(f2:Bool)(e:Int)(K3:KS)(P3:CS)(b3:Option Nat)(n3:Int)(Z:Option Addr)(m cz:Nat)(w':World):Prop where
 k:Aa N.all w w'
 ff:f=true->f2=true
 fv:f2=true->f=true\/P.may v
 cs:(e=0/\(b=none->b3=none)/\On w' N K3 P3 b3 n3 X c/\why/\∃os l,VM a v K P d os.length K3 P3/\Bi K3 P3 v d os l/\Ly w' 67 5 Z l.length cz (uQ l)/\(∀x,x∈aK Z->w.heap.size<=x)/\m=l.length/\os.length<=7/\(∀o,o<25->K3.at_ o≠0->(K3.at_ o-1)/8=v->bad=false\/o≠24->o∈os)/\os.length<=(bY K.ow v).length/\K3.next=K.next) \/
  (e=8/\(b=none->b3=none)/\On w' N K3 P3 b3 n3 X c/\VM a v K P d 8 K3 P3/\P.may d) \/
  (e=7/\b≠none/\AW w' N.N P3 n3/\Tw P3 1099511627775 a)
structure Dy(a:Nat->Nat->Nat)(N:Cr)(X:Option Addr)(c:Nat)(b:Option Nat)(w:World)(v:Nat)(f0 r0:Bool)(K0:KS)(P0:CS)(f:Bool)(K:KS)(P:CS)(d:Nat)(f2:Bool)(e:Int)(K3:KS)(P3:CS)(b3:Option Nat)(n3:Int)(w':World):Prop where
 k:Aa N.all w w'
 ff:f=true->f2=true
 fv:f2=true->f=true\/P.may v
 cs:(e=14/\(b=none->b3=none)/\On w' N K3 P3 b3 n3 X c/\AX a v f0 r0 K0 P0 K3 P3 14) \/
  (e=8/\(b=none->b3=none)/\On w' N K3 P3 b3 n3 X c/\VM a v K P d 8 K3 P3/\P.may d) \/
  (e=7/\b≠none/\AW w' N.N P3 n3/\Tw P3 1099511627775 a)
theorem Bi.again{P':CS}(C:Bi K P v d os l)(h:P'.pg=P.pg):Bi K P' v d os l :=
 ⟨C.nd,C.o8,C.mem,C.len,C.tag,fun i hi=>by
  rw[h,C.pg i hi];congr 1;exact(dH (by rw[h])).symm⟩
theorem VM.apR{n:Nat}{K3:KS}{P3 P4:CS}(M:VM a v K P d n K3 P3)(h8:n<8)(fc:K3.next=K.next)(hn:K3.next<1099511627775)(hL:Lk P3 P4 (d*8+n))(zX:nf (P4.pg (d*8+n))):VM a v K P d 8 (bJ K3) P4/\Tw P4 1099511627775 a:=by
 obtain⟨k,w⟩:=M.w;have hd:=M.jD.1;have w4:=(w.seq hn).cell (P':=P4) (p:=d*8+n) (by omega) (by rw[show(d*8+n)/8=d by omega];exact M.dst.st) (M.dst.bl n (Nat.le_refl _) h8) (fun hf e=>absurd (by have e:K3.fb=(d*8+n)/8:=e;omega) (M.dst.fr hf)) hL.pg (.inl zX);obtain⟨F,nx,e,e1,e2⟩:=M.eq;refine⟨⟨⟨k,w4⟩,M.tk,⟨F,K.next+1,?_,by omega,by omega⟩,⟨hd,M.dst.st,M.dst.fr,fun i hi h8=>by omega,M.dst.dead⟩,M.dv,fun B hB=>M.may B (hL.may B hB)⟩,⟨k,_,w4.mt.mono w4.nx.2,w4.sh⟩⟩;unfold bJ;rw[fc,e]
theorem VM.tw{n:Nat}{K3:KS}{P3:CS}(M:VM a v K P d n K3 P3):Tw P3 1099511627775 a:=by
 obtain⟨k,w⟩:=M.w;exact⟨k,_,w.mt.mono w.nx.2,w.sh⟩
def Ct(a:Nat->Nat->Nat)(μ:Nat):Prop:=∀(w:World) (N:Cr) (K:KS) (X:Option Addr) (c:Nat) (P:CS) (b:Option Nat) (n:Int) (v:Nat) (f r:Bool),On w N K P b n X c->(∃k,Wi a k K P)->v<12->(K.st v=2\/K.fo=true/\K.fb=v)->12-au K.st 3<=μ ->
 Spec Tryz.prog 102 #[.pointer (some ⟨N.k,0,none⟩),.int .i64 v,.bool f,.bool r] w fun u w'=>Fin N X c b w w' (fun K' P'=>∃e,u=al e/\AX a v f r K P K' P' e) (fun Q=>u=al 7/\Tw Q 1099511627775 a)
def CO(a:Nat->Nat->Nat)(μ:Nat):Prop:=∀(w:World) (N:Cr) (K:KS) (X:Option Addr) (c:Nat) (P:CS) (b:Option Nat) (n:Int),On w N K P b n X c->(∃k,Wi a k K P)->12-au K.st 3<=μ ->
 Spec Tryz.prog 151 #[.pointer (some ⟨N.k,0,none⟩)] w fun u w'=>Fin N X c b w w' (fun K' P'=>∃e,u=al e/\BA a K P K' P' e) (fun Q=>u=al 7/\Tw Q 1099511627775 a)
end
theorem BB.ab{l:List Tg}{w w2 w':World}{u:Value}(h:BB l w2 u w')(hs:w.heap.size<=w2.heap.size):∃Z cz,u=.tuple #[.slice Z l.length cz,al 0]/\Ly w' 67 5 Z l.length cz (uQ l)/\∀x,x∈aK Z->w.heap.size<=x:=by
 obtain⟨Z,cz,h1,h2,h3⟩:=h;exact⟨Z,cz,h1,h2,fun x hx=>by have:=h3 x hx;omega⟩
theorem ajE{a:Nat->Nat->Nat}{w w2:World}{N:Cr}{K1:KS}{P1:CS}{X:Option Addr}{c:Nat}{b b1:Option Nat}{n1:Int}{v d:Nat}{k:Cp}{F1 bad:Bool}(h2:On w2 N { K1 with st:=ah K1.st d 1,pn:=d+1 } P1 b1 n1 X c)(dh:Aa N.all w w2)(W1:Wi a k K1 P1)(hv:v<12)(v2:K1.st v=2)(kM:takeN K1.st K1.pn=some d)(eU:b=none->b1=none) :
  Spec Tryz.prog 148 #[.pointer (some ⟨N.k,0,none⟩),.int .i64 v,.int .i64 d,.bool bad] w2 fun u w'=>∃Z m cz e K3 P3 b3 n3,u=.tuple #[.slice Z m cz,al e]/\C9 a N X c b w v F1 K1 P1 d bad True F1 e K3 P3 b3 n3 Z m cz w':=by
 obtain⟨G1,O1,G2,G3⟩:=copied W1 hv v2 kM (K1:={ K1 with st:=ah K1.st d 1,pn:=d+1 }) rfl bad;refine Spec.mono (alK h2 G1) ?_;rintro u w3 ⟨k3,⟨K3,P3,b3,n3,qm,h3,hs,hF,hm,⟨hu,bA⟩|⟨rfl,hmd,hp⟩⟩|⟨qm,Q,n3,h3,rfl,hp⟩⟩
 ·obtain⟨Z,cz,rfl,hz,hZ⟩:=hu.ab dh.size;obtain⟨M,C,fc⟩:=(G2 K3 P3 hs hF hm).1 bA;have hl:=C.len;have da:K3.at_=K1.at_:=M.eq.elim fun F ⟨nx,e,_⟩=>by rw[e]
  refine⟨Z,_,cz,0,K3,P3,b3,n3,rfl,⟨dh.trans k3,id,.inl,.inl ⟨rfl,fun x=>qm (eU x),h3,trivial,_,_,M,C,hz,hZ,rfl,O1.len.1,fun o ho e hb=>?_,O1.len.2,fc⟩⟩⟩;rw[da] at e hb;exact O1.all o (by omega) e hb
 ·obtain⟨M,fc⟩:=(G2 K3 P3 hs hF hm).2 hp;exact⟨none,0,0,8,K3,P3,b3,n3,rfl,⟨dh.trans k3,id,.inl,.inr (.inl ⟨rfl,fun x=>qm (eU x),h3,M,hmd⟩)⟩⟩
 ·exact⟨none,0,0,7,K1,Q,b1,n3,rfl,⟨dh.trans k3,id,.inl,.inr (.inr ⟨rfl,fun x=>qm (eU x),h3,G3 Q hp⟩)⟩⟩
theorem ajF{a:Nat->Nat->Nat}{μ:Nat}(hB:∀x,x<μ->CO a x):Ct a μ:=by
 intro w N K X c P b n v f r h hW hv sn hμ;obtain⟨i0,hi,lZ,lR,l4⟩:=info_parts uR;obtain⟨k0,hW⟩:=hW;have hI:=VI.start hW hv sn f r;refine spec_of_wpE (T:=tt) ai func102 rfl (by decide +kernel) ntmps102 (by simp) ?_;conv=>whnf
 refine CW.cut (ι:=Unit) (fun _ w'=>On w' N (lD K v) P b n X c/\Aa N.all w w') (fun _=>[(0,.pointer (some ⟨N.k,0,none⟩)),(1,.int .i64 v),(2,.bool f),(3,.bool r)]) ai ?_ ?_
 ·conv=>whnf
  repeat ((refine Ld.of h.core.c3 ?_);conv=>whnf)
  refine Ca.of (kg h.core.front) ?_;rintro _ _ ⟨rfl,rfl⟩;have fb:=hW.fb;unfold lD;by_cases hv:(if K.fo=true then (K.fb:Int) else -1)=v
  ·rw[if_pos hv,hv];conv=>whnf
   repeat (refine Br.y ?_;conv=>whnf)
   refine Ca.of (lC h fb) ?_;rintro _ w2 ⟨rfl,h2,k2⟩;conv=>whnf
   exact⟨(),⟨h2,k2⟩,⟨rfl,rfl,rfl,rfl,trivial⟩⟩
  ·rw[if_neg hv];conv=>whnf
   repeat ((refine Br.jB (decide_eq_false hv) ?_);conv=>whnf)
   exact⟨(),⟨h,Aa.refl _ _⟩,⟨rfl,rfl,rfl,rfl,trivial⟩⟩
 rintro _ w1 ⟨h1,k1⟩;have bW:∀x,w.heap.size<=x->x∉N.all:=fun x hx hm=>by
  have h3:x<w.heap.size:=by
   rcases List.mem_append.1 hm with hm|hm
   ·exact h.core.lt (List.mem_append_left _ hm)
   ·exact h.gn _ hm
  omega
 refine CW.loop (ι:=Bool×Bool×KS×CS×Option Nat×Int) (fun i w'=>(b=none->i.2.2.2.2.1=none)/\VI a v f r K P i.1 i.2.1 i.2.2.1 i.2.2.2.1/\On w' N i.2.2.1 i.2.2.2.1 i.2.2.2.2.1 i.2.2.2.2.2 X c/\Aa N.all w w')
  (fun i=>[(0,.pointer (some ⟨N.k,0,none⟩)),(1,.int .i64 v),(2,.bool i.1),(3,.bool i.2.1)]) (fun i=>12-au i.2.2.1.st 3) (f,r,lD K v,P,b,n) ai ⟨id,hI,h1,k1⟩ ⟨rfl,rfl,rfl,rfl,trivial⟩ ?_;clear h1 k1 hI;rintro⟨f1,r1,K1,P1,b1,n1⟩ wr ⟨eU,I,h1,k1⟩;simp only at eU I h1 k1 ⊢;obtain⟨kk,W1⟩:=I.w;have arp:au K1.st 3<=12:=de _ _ _;have hcμ:12-au K1.st 3<=μ:=by
  have:au K.st 3<=au K1.st 3:=iE I.jh;omega
 have hpn:=W1.pn
 -- the switch
 conv=>whnf
 repeat ((refine Ld.of h1.core.c1 ?_);conv=>whnf)
 refine Ca.of (iV h1.core.aV 3) ?_;rintro _ _ ⟨rfl,rfl⟩;conv=>whnf
 generalize hlb:decide (((au K1.st 3:Nat):Int)≥2)=lb at *;refine CW.cut (ι:=Bool) (fun r2 w'=>w'=wr/\(r2=true->r1=true/\lb=false)/\¬(f1=true/\lb=true)/\ax K1.st=false) (fun r2=>[(0,.pointer (some ⟨N.k,0,none⟩)),(1,.int .i64 v),(2,.bool f1),(3,.bool r2),(9,.bool lb)]) ai ?_ ?_
 ·by_cases sr:f1=true/\lb=true
  ·obtain⟨rfl,rfl⟩:=sr;have hl2:=of_decide_eq_true hlb;conv=>whnf
   repeat ((first|refine Br.t ?_|refine Pk.t ?_);conv=>whnf)
   refine Ca.of (vJ h1 hv) ?_;rintro _ w2 ⟨rfl,h2,k2⟩;conv=>whnf
   exact⟨rfl,k1.trans k2,.inl ⟨_,P1,b1,n1,eU,h2,14,rfl,I.last rfl (by omega)⟩⟩
  ·have apS:lb=true->2<=au K1.st 3:=fun x=>by rw[x] at hlb;have:=of_decide_eq_true hlb;omega
   have agc:lb=false->au K1.st 3<=1:=fun x=>by rw[x] at hlb;have:=of_decide_eq_false hlb;omega
   have h3:(f1=false/\lb=false)\/(f1=false/\lb=true)\/(f1=true/\lb=false):=by
    revert sr
    cases f1<;>cases lb<;>simp
   by_cases hw:ax K1.st=true
   ·rcases h3 with⟨rfl,rfl⟩|⟨rfl,rfl⟩|⟨rfl,rfl⟩
    all_goals
     conv=>whnf
     repeat ((first|(refine Ld.of h1.core.c1 ?_)|refine Br.t ?_|refine Br.f ?_|refine Pk.f ?_|refine Pk.t ?_);conv=>whnf)
     refine Ca.of (eQ h1.core.aV) ?_;rintro _ _ ⟨rfl,rfl⟩;rw[hw];conv=>whnf
     repeat (refine Br.t ?_;conv=>whnf)
     exact⟨rfl,k1,.inl ⟨K1,P1,b1,n1,eU,h1,14,rfl,I.abn hw⟩⟩
   ·have hw:ax K1.st=false:=by simpa using hw
    rcases h3 with⟨rfl,rfl⟩|⟨rfl,rfl⟩|⟨rfl,rfl⟩
    all_goals
     conv=>whnf
     repeat ((first|(refine Ld.of h1.core.c1 ?_)|refine Br.t ?_|refine Br.f ?_|refine Pk.f ?_|refine Pk.t ?_);conv=>whnf)
     refine Ca.of (eQ h1.core.aV) ?_;rintro _ _ ⟨rfl,rfl⟩;rw[hw];conv=>whnf
     repeat ((first|refine Br.t ?_|refine Br.f ?_);conv=>whnf)
    ·exact⟨r1,⟨rfl,fun x=>⟨x,rfl⟩,sr,by first|exact hw|rfl⟩,⟨rfl,rfl,rfl,rfl,rfl,trivial⟩⟩
    ·exact⟨false,⟨rfl,fun x=>(by cases x),sr,by first|exact hw|rfl⟩,⟨rfl,rfl,rfl,rfl,rfl,trivial⟩⟩
    ·exact⟨r1,⟨rfl,fun x=>⟨x,rfl⟩,sr,by first|exact hw|rfl⟩,⟨rfl,rfl,rfl,rfl,rfl,trivial⟩⟩
 rintro r2 _ ⟨rfl,sQ,sr,hw⟩;have apS:lb=true->2<=au K1.st 3:=fun x=>by rw[x] at hlb;have:=of_decide_eq_true hlb;omega
 have agc:lb=false->au K1.st 3<=1:=fun x=>by rw[x] at hlb;have:=of_decide_eq_false hlb;omega
 clear hlb;have h3:(f1=true/\lb=false)\/(f1=false/\r2=true/\lb=false)\/(f1=false/\r2=false):=by
  revert sr sQ
  cases f1<;>cases lb<;>cases r2<;>simp
 obtain⟨F1,v9⟩:∃F1,F1=f1:=⟨_,rfl⟩;obtain⟨R2,hR2⟩:∃R2,R2=r2:=⟨_,rfl⟩;have J:VI a v f r K P F1 r1 K1 P1:=by rw[v9];exact I
 have hrr:R2=true->r1=true/\au K1.st 3<=1:=fun x=>⟨(sQ (by rw[<-hR2];exact x)).1,agc (sQ (by rw[<-hR2];exact x)).2⟩
 have v12:=J.v2;rcases h3 with⟨rfl,rfl⟩|⟨rfl,rfl,rfl⟩|⟨rfl,rfl⟩
 all_goals
  conv=>whnf
  repeat ((first|(refine Ld.of h1.core.c1 ?_)|refine Br.t ?_|refine Br.f ?_|refine Pk.f ?_|refine Pk.t ?_);conv=>whnf)
  refine Ca.of (mN h1.core.aV hpn) ?_;intro u w2 hu;unfold AB at hu;by_cases htn:takeN K1.st K1.pn=none
  case' pos =>
   rw[htn] at hu;obtain⟨rfl,rfl⟩:=hu;conv=>whnf
   repeat ((first|refine Br.t ?_|refine Ru.n1 ?_|refine CW.s ?_);conv=>whnf)
   exact⟨rfl,k1,.inl ⟨K1,P1,b1,n1,eU,h1,14,rfl,I.none htn⟩⟩
  obtain⟨d,kM⟩:=Option.ne_none_iff_exists'.1 htn;rw[kM] at hu;obtain⟨rfl,q2,k2⟩:=hu;have h2:=h1.aV k2 q2;have dh:=k1.trans (Aa.jl (by simp[Cr.own]) k2);have qO:=(df kM).1;conv=>whnf
  repeat ((first|refine Br.f ?_|refine Ru.ak ?_|refine CW.s ?_);conv=>whnf)
  refine Ca.of (ajE (F1:=F1) h2 dh W1 hv v12 kM eU) ?_;rintro _ w3 ⟨Z,m,cz,e,K3,P3,b3,n3,rfl,B3⟩;conv=>whnf
  refine CW.cut (ι:=Bool×Int×KS×CS×Option Nat×Int×Option Addr×Nat×Nat) (fun i w'=>C9 a N X c b w v F1 K1 P1 d true ((i.1=true\/(R2=true/\au K1.st 3<=1)\/P1.may v)/\au K1.st 3<=1) i.1 i.2.1 i.2.2.1 i.2.2.2.1 i.2.2.2.2.1 i.2.2.2.2.2.1 i.2.2.2.2.2.2.1 i.2.2.2.2.2.2.2.1 i.2.2.2.2.2.2.2.2 w')
   (fun i=>[(0,.pointer (some ⟨N.k,0,none⟩)),(1,.int .i64 v),(2,.bool i.1),(3,.bool R2),(11,.int .i64 d),(12,al i.2.1),(13,.slice i.2.2.2.2.2.2.1 i.2.2.2.2.2.2.2.1 i.2.2.2.2.2.2.2.2)]) ai ?_ ?_
  case' refine_2 =>
   clear B3;rintro⟨f2,e2,K4,P4,b4,n4,Z4,m4,cz4⟩ w4 B4;simp only at B4 ⊢;conv=>whnf
   refine CW.cut (ι:=Int×KS×CS×Option Nat×Int) (fun i w'=>Dy a N X c b w v f r K P F1 K1 P1 d f2 i.1 i.2.1 i.2.2.1 i.2.2.2.1 i.2.2.2.2 w')
    (fun i=>[(0,.pointer (some ⟨N.k,0,none⟩)),(1,.int .i64 v),(2,.bool f2),(3,.bool R2),(11,.int .i64 d),(12,al i.1)]) ai ?_ ?_
   ·rcases B4.cs with⟨rfl,hb4,h4,why,os,l,M,C,hz,hZ,rfl,h7,cq,hlen,fc⟩|⟨rfl,hb4,h4,M,hmd⟩|⟨rfl,hbb,h4,ml⟩
    ·obtain⟨k4,W4⟩:=M.w;have hcl:=C.len;have hmy:=fun B hB=>M.may B hB;conv=>whnf
     repeat ((first|refine Br.t ?_|refine Ru.bh ?_);conv=>whnf)
     refine Ru.ft ?_;intro x14 w5 hx14 hs5 r14 k5;have h5:=h4.aj k5;have hz5:=hz.aj k5;have dL:=B4.k.trans (Aa.eh k5);have aeI:w.heap.size<=x14:=by
      rw[hx14];exact B4.k.size
     conv=>whnf
     refine Ca.of (alM h5 hv qO (i:=l.length) (by omega) W4.hb W4.nx.1 (fun hn=>jj W4 (by have:=W4.nx;omega) v) (by rw[hcl];exact M.dst.bl _ (Nat.le_refl _) (by omega))) ?_;rintro _ w6 ⟨k6,hr6⟩;have alN:=r14.ab k6 (bW x14 aeI);have hz6:=hz5.ab k6 (fun x hx=>bW x (hZ x hx));have gG:=dL.trans k6;have sa:∀x,x∈[x14]->w.heap.size<=x:=fun x hx=>by rw[List.mem_singleton.1 hx];exact aeI
     rw[hcl] at hr6;rcases hr6 with⟨K6,P6,b6,n6,hb6,h6,⟨wg,rfl,rfl,rfl⟩|⟨hn,g1,⟨rfl,rfl,g2⟩|⟨rfl,rfl,g2,g3⟩⟩⟩|⟨hb6,Q,n6,h6,rfl,hn,g1,g2⟩
     ·conv=>whnf
      refine Ru.ln alN ?_;intro w7 r147 k7;have nW:Aa N.all w w7:=gG.then k7 (fun x hx=>.inr (sa x hx));conv=>whnf
      repeat ((first|refine Br.f ?_|refine Ru.e1 ?_);conv=>whnf)
      exact⟨(14,_,_,b6,n6),⟨nW,B4.ff,B4.fv,.inl ⟨rfl,fun x=>hb6 (hb4 x),h.dN h6 k7 sa,J.out M fc wg⟩⟩,⟨rfl,rfl,rfl,rfl,rfl,rfl,trivial⟩⟩
     ·have bq:∀x,x∈aK Z4->x<x14:=fun x hx=>by rw[hx14];exact hz.kR hx
      conv=>whnf
      refine Ru.ln alN ?_;intro w7 r147 k7;have nW:Aa N.all w w7:=gG.then k7 (fun x hx=>.inr (sa x hx));have h7':=h.dN h6 k7 sa;have hz7:=hz6.ab k7 (fun x hx hm=>by have:=bq x hx;rw[List.mem_singleton.1 hm] at this;omega);conv=>whnf
      repeat ((first|(refine Ld.of h7'.core.c1 ?_)|refine Br.t ?_|refine Ru.bh ?_);conv=>whnf)
      refine Ca.of (eO h7'.core.aV v 3 hv (by omega)) ?_;rintro _ w8 ⟨⟨e8,rfl⟩,q8,k8⟩;have h8:=h7'.aV k8 q8;have kp8:Aa N.all w7 w8:=Aa.jl (by simp[Cr.own]) k8;have hz8:=hz7.ab kp8 (fun x hx=>bW x (hZ x hx));have apT:=r147.ab kp8 (bW x14 aeI);have qW:=nW.trans kp8;generalize hT:dQ K4 (d*8+os.length)=T at *;conv=>whnf
      refine Ru.fG apT ?_;conv=>whnf
      refine Ru.of (uT _ _) ?_;have ka:Aa [] w8 (w8.alloc (.cells T.arr 67)):=(Aa.refl _ _).alloc _;have ha:Rd (w8.alloc (.cells T.arr 67)) (some ⟨w8.heap.size,0,none⟩) (1*5) T.cell:=fun _=>⟨w8.heap.size,0,rfl,fun j hj=>(Row.tg (heap_alloc_new _ _)).ait j hj⟩
      generalize w8.alloc _=w9 at *;conv=>whnf
      refine Bu.append underlying239 hi lZ lR l4 rfl (by omega) (hz8.aj ka) _ ha (by omega) (by simp) (fun j hj=>tY _ j hj) (by simp only[maxLen];omega) (by omega) ?_;intro Z2 cz2 zc hz11 jJ hat11 hpre11;have sP:=h.dN (h8.aj ka) jJ hZ;have apU:=(apT.ab ka (by simp)).ab jJ (fun hm=>by have:=bq x14 hm;omega);have aiy:Aa N.all w zc:=(qW.trans (Aa.eh ka)).then jJ (fun x hx=>.inr (hZ x hx));have z11:Ly zc 67 5 Z2 (l++[T]).length cz2 (uQ (l++[T])):=by
       rw[List.length_append,List.length_singleton];exact hz11.congr (fun j hj=>qN rfl j hj)
      have hTp:(0<=T.of/\T.of<=24)/\0<=T.place/\T.place<96:=by
       rw[<-hT];unfold dQ;simp only;omega
      have v4:K4.st v=2:=by rw[M.old (by omega)];exact v12
      have hw4:ax K4.st=false:=by
       unfold ax at hw ⊢;rw[M.cnt.1];exact hw
      have kK:∀o,o<24->K4.at_ o≠0->(K4.at_ o-1)/8=v->o∈os:=fun o ho e hb=>cq o (by omega) e hb (.inr (by omega));have hF:Hl.HB (Hl.qM K4.F ((d*8+os.length)/8)):=W4.hb.rd (by omega);have g2':P6.pg (d*8+os.length)=.full (dQ K4 (d*8+os.length)) (sV (iA (bJ K4) K4.next v)):=by rw[hT];exact g2
      have hsd:=(W4.said hw4 hv v4 M.dst C h7 kK hn hF g1.pg g2').2.2.2.1;rw[hT] at hsd;conv=>whnf
      rw[show l.length+1=(l++[T]).length by simp];refine Ca.of (zG sP qO z11 (by simp;omega) (fun t ht=>?_) (fun i hi=>?_) W4.fb W4.fi) ?_
      ·rcases List.mem_append.1 ht with ht|ht
       ·exact C.tgs qO t ht
       ·rw[List.mem_singleton.1 ht];exact hTp
      ·have jH:i<=l.length:=by simp at hi;omega
       rw[List.take_append_of_le_length jH];exact C.wf (K2:={ pT (bJ K4) (d*8+os.length) with st:=aD (pT (bJ K4) (d*8+os.length)).st v 3 }) W4.eZ qO M.dst.dead rfl rfl rfl i jH
      rintro _ w12 ⟨rfl,ox,so⟩;have apV:=apU.ab so (bW x14 aeI);conv=>whnf
      refine Ru.fG apV ?_;conv=>whnf
      refine Ca.of (sS ox hsd (t:=T) (o:=24) (p:=d*8+os.length) (by omega) (by omega) (by rw[<-hT];rfl) (by rw[<-hT];rfl)) ?_;rintro _ w13 ⟨rfl,h13,vS⟩;conv=>whnf
      have arq:On w13 N (syK K4 (Hl.qM K4.F ((d*8+os.length)/8)) v d os.length l) P6 b6 n6 X c:=by
       unfold syK;rw[hT];exact h13
      refine⟨rfl,(aiy.trans so).trans vS,.inl ⟨_,P6,b6,n6,fun x=>hb6 (hb4 x),arq,0,rfl,J.said why.2 M C ?_ hw h7 kK hlen fc hn hF g1.pg g2' g1.may⟩⟩;rcases why.1 with x|x|x
      ·rcases B4.fv x with y|y
       ·exact .inl y
       ·exact .inr (.inr y)
      ·exact .inr (.inl (hrr x.1))
      ·exact .inr (.inr x)
     ·conv=>whnf
      refine Ru.ln alN ?_;intro w7 r147 k7;have nW:Aa N.all w w7:=gG.then k7 (fun x hx=>.inr (sa x hx));obtain⟨M6,_⟩:=M.apR (by omega) fc hn g1 g2;have hmd:P1.may d:=by
       have:=M.may _ g3;rw[show(d*8+os.length)/8=d by omega] at this;exact this
      conv=>whnf
      repeat ((first|refine Br.f ?_|refine Ru.e1 ?_);conv=>whnf)
      exact⟨(8,_,_,b6,n6),⟨nW,B4.ff,B4.fv,.inr (.inl ⟨rfl,fun x=>hb6 (hb4 x),h.dN h6 k7 sa,M6,hmd⟩)⟩,⟨rfl,rfl,rfl,rfl,rfl,rfl,trivial⟩⟩
     ·conv=>whnf
      refine Ru.ln alN ?_;intro w7 r147 k7;have nW:Aa N.all w w7:=gG.then k7 (fun x hx=>.inr (sa x hx));obtain⟨_,T6⟩:=M.apR (by omega) fc hn g1 g2;conv=>whnf
      repeat ((first|refine Br.f ?_|refine Ru.e1 ?_);conv=>whnf)
      exact⟨(7,K4,Q,b4,n6),⟨nW,B4.ff,B4.fv,.inr (.inr ⟨rfl,fun x=>hb6 (hb4 x),h.aeH h6 k7 sa,T6⟩)⟩,⟨rfl,rfl,rfl,rfl,rfl,rfl,trivial⟩⟩
    ·conv=>whnf
     repeat ((first|refine Br.f ?_|refine Ru.e1 ?_);conv=>whnf)
     exact⟨(8,K4,P4,b4,n4),⟨B4.k,B4.ff,B4.fv,.inr (.inl ⟨rfl,hb4,h4,M,hmd⟩)⟩,⟨rfl,rfl,rfl,rfl,rfl,rfl,trivial⟩⟩
    ·conv=>whnf
     repeat ((first|refine Br.f ?_|refine Ru.e1 ?_);conv=>whnf)
     exact⟨(7,K4,P4,b4,n4),⟨B4.k,B4.ff,B4.fv,.inr (.inr ⟨rfl,hbb,h4,ml⟩)⟩,⟨rfl,rfl,rfl,rfl,rfl,rfl,trivial⟩⟩
   ·clear B4;rintro⟨e5,K5,P5,b5,n5⟩ w5 C5;simp only at C5 ⊢;rcases C5.cs with⟨rfl,hb5,h5,hV⟩|⟨rfl,hb5,h5,M,hmd⟩|⟨rfl,hbb,h5,ml⟩
    ·conv=>whnf
     repeat (refine CW.s ?_;conv=>whnf)
     refine Ca.of (aU 14 8 (by decide) w5) ?_;rintro _ _ ⟨rfl,rfl⟩;conv=>whnf
     repeat (refine Br.t ?_;conv=>whnf)
     exact⟨rfl,C5.k,.inl ⟨K5,P5,b5,n5,hb5,h5,14,rfl,hV⟩⟩
    ·obtain⟨⟨k6,W6⟩,c6,hlast,hbads⟩:=J.apN M hmd C5.ff C5.fv (fun x=>(hrr x).1);have hc6:au (aD K5.st d 3) 3<=12:=de _ _ _;conv=>whnf
     repeat (refine CW.s ?_;conv=>whnf)
     refine Ca.of (aU 8 8 (by decide) w5) ?_;rintro _ _ ⟨rfl,rfl⟩;conv=>whnf
     repeat ((first|(refine Ld.of h5.core.c1 ?_)|refine Br.f ?_);conv=>whnf)
     refine Ca.of (eO h5.core.aV d 3 qO (by omega)) ?_;rintro _ w6 ⟨⟨e6,rfl⟩,q6,k6'⟩;have h6:On w6 N { K5 with st:=aD K5.st d 3 } P5 b5 n5 X c:=h5.aV k6' q6;have gG:=C5.k.trans (Aa.jl (by simp[Cr.own]) k6');have cN:=hB (12-au (aD K5.st d 3) 3) (by omega) w6 N { K5 with st:=aD K5.st d 3 } X c P5 b5 n5 h6 ⟨k6,W6⟩ (Nat.le_refl _);have hf2:(f2=true/\2<=au (aD K5.st d 3) 3)\/(f2=true/\¬2<=au (aD K5.st d 3) 3)\/f2=false:=by
      cases f2
      ·exact .inr (.inr rfl)
      ·by_cases x:2<=au (aD K5.st d 3) 3
       ·exact .inl ⟨rfl,x⟩
       ·exact .inr (.inl ⟨rfl,x⟩)
     rcases hf2 with⟨rfl,hl2⟩|⟨rfl,hl2⟩|rfl
     case' inl =>
      conv=>whnf
      repeat ((first|(refine Ld.of h6.core.c1 ?_)|refine Br.t ?_|refine CW.s ?_);conv=>whnf)
      refine Ca.of (iV h6.core.aV 3) ?_;rintro _ _ ⟨rfl,rfl⟩;conv=>whnf
      repeat ((first|(refine Br.is (decide_eq_true (by show((au (aD K5.st d 3) 3:Nat):Int)≥2;omega)) ?_)|refine Br.t ?_|refine Pk.t ?_);conv=>whnf)
      refine Ca.of (vJ h6 hv) ?_;rintro _ w7 ⟨rfl,h7,k7⟩;conv=>whnf
      exact⟨rfl,gG.trans k7,.inl ⟨_,P5,b5,n5,hb5,h7,14,rfl,hlast rfl hl2⟩⟩
     case' inr.inl =>
      conv=>whnf
      repeat ((first|(refine Ld.of h6.core.c1 ?_)|refine Br.t ?_|refine CW.s ?_);conv=>whnf)
      refine Ca.of (iV h6.core.aV 3) ?_;rintro _ _ ⟨rfl,rfl⟩;conv=>whnf
      repeat ((first|(refine Br.jB (decide_eq_false (by show ¬((au (aD K5.st d 3) 3:Nat):Int)≥2;omega)) ?_)|refine Br.t ?_|refine Pk.t ?_);conv=>whnf)
     case' inr.inr =>
      conv=>whnf
      repeat ((first|refine Br.f ?_|refine Pk.f ?_|refine CW.s ?_);conv=>whnf)
     all_goals
      refine Ca.of cN ?_;rintro _ w7 ⟨k7,⟨K7,P7,b7,n7,wM,h7,e7,rfl,hV⟩|⟨wM,Q,n7,h7,rfl,ml⟩⟩
      case' inr =>
       conv=>whnf
       repeat ((first|refine Br.t ?_|refine Ru.n1 ?_);conv=>whnf)
       exact⟨rfl,gG.trans k7,.inr ⟨fun x=>wM (hb5 x),Q,n7,h7,rfl,ml⟩⟩
      obtain⟨o1,o2⟩:=hbads K7 P7 e7 hV;rcases hV.er with rfl|rfl
      case' inr =>
       conv=>whnf
       repeat ((first|refine Br.t ?_|refine Ru.n1 ?_);conv=>whnf)
       exact⟨rfl,gG.trans k7,.inl ⟨K7,P7,b7,n7,fun x=>wM (hb5 x),h7,14,rfl,o2 rfl⟩⟩
      obtain⟨o3,o4⟩:=o1 rfl;have hc7:au K7.st 3<=12:=de _ _ _;conv=>whnf
      repeat ((first|refine Br.f ?_|refine Ru.ak ?_);conv=>whnf)
      exact⟨(_,R2,K7,P7,b7,n7),⟨fun x=>wM (hb5 x),o3,h7,gG.trans k7⟩,⟨rfl,rfl,rfl,rfl,trivial⟩,by simp only;omega⟩
    ·conv=>whnf
     repeat (refine CW.s ?_;conv=>whnf)
     refine Ca.of (aU 7 8 (by decide) w5) ?_;rintro _ _ ⟨rfl,rfl⟩;conv=>whnf
     repeat (refine Br.t ?_;conv=>whnf)
     exact⟨rfl,C5.k,.inr ⟨hbb,P5,n5,h5,rfl,ml⟩⟩
 ·rcases B3.cs with⟨rfl,qm,h3,-,os,l,M,C,hz,hZ,rfl,h7,cq,hlen,fc⟩|⟨rfl,qm,h3,M,hmd⟩|⟨rfl,hbb,h3,ml⟩
  all_goals
   conv=>whnf
   repeat ((first|refine Br.t ?_|refine Br.f ?_|refine Pk.f ?_|refine Pk.t ?_|refine Ru.bh ?_|refine Ru.e1 ?_);conv=>whnf)
  ·exact⟨(true,0,K3,P3,b3,n3,Z,l.length,cz),⟨B3.k,fun _=>rfl,fun _=>.inl v9,.inl ⟨rfl,qm,h3,⟨.inl rfl,agc rfl⟩,os,l,M,C,hz,hZ,rfl,h7,cq,hlen,fc⟩⟩,⟨rfl,rfl,rfl,congrArg Value.bool hR2.symm,rfl,rfl,rfl,trivial⟩⟩
  ·exact⟨(true,8,K3,P3,b3,n3,Z,m,cz),⟨B3.k,fun _=>rfl,fun _=>.inl v9,.inr (.inl ⟨rfl,qm,h3,M,hmd⟩)⟩,⟨rfl,rfl,rfl,congrArg Value.bool hR2.symm,rfl,rfl,rfl,trivial⟩⟩
  ·exact⟨(true,7,K3,P3,b3,n3,Z,m,cz),⟨B3.k,fun _=>rfl,fun _=>.inl v9,.inr (.inr ⟨rfl,hbb,h3,ml⟩)⟩,⟨rfl,rfl,rfl,congrArg Value.bool hR2.symm,rfl,rfl,rfl,trivial⟩⟩
 ·rcases B3.cs with⟨rfl,qm,h3,-,os,l,M,C,hz,hZ,rfl,h7,cq,hlen,fc⟩|⟨rfl,qm,h3,M,hmd⟩|⟨rfl,hbb,h3,ml⟩
  all_goals
   conv=>whnf
   repeat ((first|refine Br.t ?_|refine Br.f ?_|refine Pk.f ?_|refine Pk.t ?_|refine Ru.bh ?_|refine Ru.e1 ?_);conv=>whnf)
  ·exact⟨(false,0,K3,P3,b3,n3,Z,l.length,cz),⟨B3.k,fun x=>(by rw[v9] at x;exact x),fun x=>(by cases x),.inl ⟨rfl,qm,h3,⟨.inr (.inl ⟨hR2,agc rfl⟩),agc rfl⟩,os,l,M,C,hz,hZ,rfl,h7,cq,hlen,fc⟩⟩,⟨rfl,rfl,rfl,congrArg Value.bool hR2.symm,rfl,rfl,rfl,trivial⟩⟩
  ·exact⟨(false,8,K3,P3,b3,n3,Z,m,cz),⟨B3.k,fun x=>(by rw[v9] at x;exact x),fun x=>(by cases x),.inr (.inl ⟨rfl,qm,h3,M,hmd⟩)⟩,⟨rfl,rfl,rfl,congrArg Value.bool hR2.symm,rfl,rfl,rfl,trivial⟩⟩
  ·exact⟨(false,7,K3,P3,b3,n3,Z,m,cz),⟨B3.k,fun x=>(by rw[v9] at x;exact x),fun x=>(by cases x),.inr (.inr ⟨rfl,hbb,h3,ml⟩)⟩,⟨rfl,rfl,rfl,congrArg Value.bool hR2.symm,rfl,rfl,rfl,trivial⟩⟩
 ·rcases B3.cs with⟨rfl,qm,h3,-,os,l,M,C,hz,hZ,rfl,h7,cq,hlen,fc⟩|⟨rfl,qm,h3,M,hmd⟩|⟨rfl,hbb,h3,ml⟩
  ·obtain⟨k4,W3⟩:=M.w;have amb:∀o,o<25->K3.at_ o≠0->(K3.at_ o-1)/8=v->o∈os:=fun o ho e hb=>cq o ho e hb (.inl rfl);conv=>whnf
   repeat ((first|(refine Ld.of h3.core.c0 ?_)|refine Br.t ?_|refine Pk.t ?_|refine Ru.bh ?_);conv=>whnf)
   refine Ca.of (nr h3.o9 (B:=v) hv) ?_;rintro _ w4 ⟨k4,hr4⟩;have kc4:Aa N.N.l w3 w4:=k4.mono (fun x hx=>by rw[List.mem_singleton.1 hx];simp[Pt.l]);have bU:=B3.k.trans (Aa.ofl kc4);have hz4:=hz.ab (Aa.ofl kc4) (h3.gr hz);rcases hr4.two with⟨b4,hb4,rfl,M4⟩|⟨hb4,Q,hQ,rfl,M4⟩
   ·have h4:=h3.cH kc4 M4;rcases aeD P3 v with⟨e1,e2,e3⟩|⟨e1,e2,e3,e4⟩
    ·rw[e1];rw[e2] at h4;conv=>whnf
     repeat ((first|(refine Ld.of h4.core.c1 ?_)|refine Br.t ?_|refine Ru.bh ?_|refine CW.s ?_);conv=>whnf)
     refine Ca.of (eO h4.core.aV v 0 hv (by omega)) ?_;rintro _ w5 ⟨⟨e5,rfl⟩,q5,k5⟩;have h5:=h4.aV k5 q5;have z5:=hz4.ab (Aa.jl (by simp[Cr.own]) k5) (h4.gr hz4);conv=>whnf
     repeat ((refine Ld.of h5.core.c4 ?_);conv=>whnf)
     refine Ca.of (Hl.nv w5 N.e _ h5.core.aH v hv) ?_;rintro _ w6 ⟨rfl,q6,k6⟩;have h6:On w6 N (oV K3 v) (P3.dE v) b4 n3 X c:=h5.aH k6 q6;have z6:=z5.ab (Aa.jl (by simp[Cr.own]) k6) (h5.gr z5);have gG:=(bU.trans (Aa.jl (by simp[Cr.own]) k5)).trans (Aa.jl (by simp[Cr.own]) k6);conv=>whnf
     refine Ca.of (zG h6 qO z6 (by have:=C.len;omega) (C.tgs qO) (fun i hi=>C.wf (K2:=oV K3 v) W3.eZ qO M.dst.dead rfl rfl rfl i (by omega)) W3.fb W3.fi) ?_;rintro _ w7 ⟨rfl,h7',k7⟩;conv=>whnf
     exact⟨rfl,gG.trans k7,.inl ⟨_,_,b4,n3,fun x=>hb4 (qm x),h7',0,rfl,J.erased hw M C v9 amb hlen fc e3⟩⟩
    ·rw[e1];have DO:=M.again e2 e4;have C4:=C.again e2;have hmv:=M.may v e3;conv=>whnf
     repeat ((first|refine Br.f ?_|refine Ru.e1 ?_|refine CW.s ?_);conv=>whnf)
     refine Ca.of (aU 8 8 (by decide) w4) ?_;rintro _ _ ⟨rfl,rfl⟩
     cases lb
     ·conv=>whnf
      repeat ((first|refine Br.t ?_|refine Br.f ?_);conv=>whnf)
      exact⟨(true,0,K3,_,b4,n3,Z,l.length,cz),⟨bU,fun _=>rfl,fun _=>.inr hmv,.inl ⟨rfl,fun x=>hb4 (qm x),h4,⟨.inl rfl,agc rfl⟩,os,l,DO,C4,hz4,hZ,rfl,h7,fun o ho e hb _=>amb o ho e hb,hlen,fc⟩⟩,⟨rfl,rfl,rfl,congrArg Value.bool hR2.symm,rfl,rfl,rfl,trivial⟩⟩
     ·conv=>whnf
      repeat ((first|(refine Ld.of h4.core.c1 ?_)|refine Br.t ?_);conv=>whnf)
      refine Ca.of (eO h4.core.aV d 2 qO (by omega)) ?_;rintro _ w5 ⟨⟨e5,rfl⟩,q5,k5⟩;have h5:=h4.aV k5 q5;conv=>whnf
      refine Ca.of (vJ h5 hv) ?_;rintro _ w6 ⟨rfl,h6,k6⟩;conv=>whnf
      exact⟨rfl,(bU.trans (Aa.jl (by simp[Cr.own]) k5)).trans k6,.inl ⟨_,_,b4,n3,fun x=>hb4 (qm x),h6,14,rfl,J.apM DO fc (apS rfl) hmv⟩⟩
   ·conv=>whnf
    repeat ((first|refine Br.f ?_|refine Ru.e1 ?_|refine CW.s ?_);conv=>whnf)
    refine Ca.of (aU 7 8 (by decide) w4) ?_;rintro _ _ ⟨rfl,rfl⟩;conv=>whnf
    repeat (refine Br.f ?_;conv=>whnf)
    rw[List.mem_singleton.1 hQ] at M4;exact⟨(false,7,K3,P3,b3,n3,Z,l.length,cz),⟨bU,fun x=>(by rw[v9] at x;exact x),fun x=>(by cases x),.inr (.inr ⟨rfl,fun x=>hb4 (qm x),M4,M.tw⟩)⟩,⟨rfl,rfl,rfl,congrArg Value.bool hR2.symm,rfl,rfl,rfl,trivial⟩⟩
  all_goals
   conv=>whnf
   repeat ((first|refine Br.f ?_|refine Pk.f ?_|refine Ru.e1 ?_);conv=>whnf)
  ·exact⟨(false,8,K3,P3,b3,n3,Z,m,cz),⟨B3.k,fun x=>(by rw[v9] at x;exact x),fun x=>(by cases x),.inr (.inl ⟨rfl,qm,h3,M,hmd⟩)⟩,⟨rfl,rfl,rfl,congrArg Value.bool hR2.symm,rfl,rfl,rfl,trivial⟩⟩
  ·exact⟨(false,7,K3,P3,b3,n3,Z,m,cz),⟨B3.k,fun x=>(by rw[v9] at x;exact x),fun x=>(by cases x),.inr (.inr ⟨rfl,hbb,h3,ml⟩)⟩,⟨rfl,rfl,rfl,congrArg Value.bool hR2.symm,rfl,rfl,rfl,trivial⟩⟩
theorem ajG{a:Nat->Nat->Nat}{μ:Nat}(hV:∀x,x<=μ->Ct a x):CO a μ:=by
 intro w N K X c P b n h hW hμ;obtain⟨k0,hW⟩:=hW;have hI:=BI.start hW;have bW:∀x,w.heap.size<=x->x∉N.all:=fun x hx hm=>by
  have h3:x<w.heap.size:=by
   rcases List.mem_append.1 hm with hm|hm
   ·exact h.core.lt (List.mem_append_left _ hm)
   ·exact h.gn _ hm
  omega
 refine spec_of_wpE (T:=tt) ai func151 rfl (by decide +kernel) ntmps151 (by simp) ?_;refine CW.loop (ι:=KS×CS×Option Nat×Int) (fun i w'=>(b=none->i.2.2.1=none)/\BI a K P i.1 i.2.1/\On w' N i.1 i.2.1 i.2.2.1 i.2.2.2 X c/\Aa N.all w w')
  (fun i=>[(0,.pointer (some ⟨N.k,0,none⟩))]) (fun i=>12-au i.1.st 3) (K,P,b,n) ai ⟨id,hI,h,Aa.refl _ _⟩ ⟨rfl,trivial⟩ ?_;clear hI;rintro⟨K1,P1,b1,n1⟩ wr ⟨eU,I,h1,k1⟩;simp only at eU I h1 k1 ⊢;obtain⟨kk,W1⟩:=I.w;have arp:au K1.st 3<=12:=de _ _ _;have hcμ:au K.st 3<=au K1.st 3:=iE I.jh;conv=>whnf
 repeat ((first|(refine Ld.of h1.core.c1 ?_)|refine CW.s ?_);conv=>whnf)
 refine Ca.of (eQ h1.core.aV) ?_;rintro _ _ ⟨rfl,rfl⟩;by_cases hw:ax K1.st=true
 ·rw[hw];conv=>whnf
  repeat (refine Br.t ?_;conv=>whnf)
  exact⟨rfl,k1,.inl ⟨K1,P1,b1,n1,eU,h1,14,rfl,I.abn hw⟩⟩
 have hw:ax K1.st=false:=by simpa using hw
 rw[hw];conv=>whnf
 repeat (refine Br.f ?_;conv=>whnf)
 refine CW.cut (ι:=KS×CS) (fun i w'=>i.2=P1/\BO a K1 i.1 P1/\On w' N i.1 P1 b1 n1 X c/\Aa N.all w w') (fun i=>[(0,.pointer (some ⟨N.k,0,none⟩))]) ai ?_ ?_
 ·conv=>whnf
  repeat ((refine Ld.of h1.core.c3 ?_);conv=>whnf)
  refine Ca.of (mP h1.core.front 24 W1.fb W1.fi (Nat.le_refl _)) ?_;rintro _ w2 ⟨rfl,q2,k2⟩;have h2:=h1.aj k2;have dh:=k1.trans (Aa.eh k2);by_cases hr:aF K1.fo K1.fi 24=true
  ·rw[hr];conv=>whnf
   repeat (refine Br.f ?_;conv=>whnf)
   exact⟨(K1,P1),⟨rfl,BO.same W1 hr,h2,dh⟩,⟨rfl,trivial⟩⟩
  ·have hr:aF K1.fo K1.fi 24=false:=by simpa using hr
   rw[hr];conv=>whnf
   repeat (refine Br.t ?_;conv=>whnf)
   refine Ca.of (lC h2 W1.fb) ?_;rintro _ w3 ⟨rfl,h3,k3⟩;have bG:=dh.trans k3;conv=>whnf
   repeat ((refine Ld.of h3.core.c1 ?_);conv=>whnf)
   refine Ca.of (mN h3.core.aV W1.shut.1.pn) ?_;intro u w4 hu;unfold AB at hu;by_cases htn:takeN (aT K1).st (aT K1).pn=none
   ·rw[htn] at hu;obtain⟨rfl,rfl⟩:=hu;conv=>whnf
    repeat ((first|refine Br.t ?_|refine Ru.n1 ?_|refine CW.s ?_);conv=>whnf)
    exact⟨rfl,bG,.inl ⟨_,P1,b1,n1,eU,h3,14,rfl,I.none hr htn⟩⟩
   ·obtain⟨d,kM⟩:=Option.ne_none_iff_exists'.1 htn;rw[kM] at hu;obtain⟨rfl,q4,k4⟩:=hu;have h4:=h3.aV k4 q4;conv=>whnf
    repeat ((first|(refine Ld.of h4.core.c3 ?_)|refine Br.f ?_|refine Ru.ak ?_|refine CW.s ?_);conv=>whnf)
    refine Ca.of (pR h4.core.front d 0 (df kM).1 (by omega)) ?_;rintro _ w5 ⟨rfl,q5,k5⟩;have h5:=h4.front k5 q5;conv=>whnf
    exact⟨(_,P1),⟨rfl,BO.taken W1 kM,h5,(bG.trans (Aa.jl (by simp[Cr.own]) k4)).trans (Aa.jl (by simp[Cr.own]) k5)⟩,⟨rfl,trivial⟩⟩
 clear h1 k1;rintro⟨Kf,P2⟩ w2 ⟨rfl,O,h2,k2⟩;simp only at O h2 k2 ⊢;obtain⟨kf,Wf⟩:=O.w;have mF:=O.room;have Fr:=Wf.fresh (Nat.le_refl 24) mF;have hwf:ax Kf.st=false:=by
  unfold ax at hw ⊢;rw[O.c3];exact hw
 have hcf:=O.c3;have abR:=Wf.fb;conv=>whnf
 repeat ((refine Ld.of h2.core.c3 ?_);conv=>whnf)
 refine Ca.of (kg h2.core.front) ?_;rintro _ _ ⟨rfl,rfl⟩;rw[if_pos Fr.fo];conv=>whnf
 repeat ((refine Ld.of h2.core.c3 ?_);conv=>whnf)
 refine Ca.of (uG h2.core.front 24 Wf.fb Wf.fi (Nat.le_refl _) mF) ?_;rintro _ w3 ⟨rfl,q3,k3⟩;have h3:On w3 N (tkK Kf) P2 b1 n1 X c:=h2.front k3 q3;have bG:=k2.trans (Aa.jl (by simp[Cr.own]) k3);by_cases hn:Kf.next<1099511627775
 case neg =>
  conv=>whnf
  repeat ((first|refine Br.f ?_|refine Ru.ak ?_|refine CW.s ?_);conv=>whnf)
  refine Ca.of (rE h3 (by show 1099511627775<=Kf.next;omega)) ?_;rintro _ _ ⟨rfl,rfl⟩;conv=>whnf
  repeat ((first|refine Br.t ?_|refine Ru.n1 ?_|refine CW.s ?_);conv=>whnf)
  exact⟨rfl,bG,.inl ⟨_,P2,b1,n1,eU,h3,14,rfl,I.out O (by omega)⟩⟩
 conv=>whnf
 repeat ((first|refine Br.f ?_|refine Ru.ak ?_|refine CW.s ?_);conv=>whnf)
 refine Ca.of (sR h3 ⟨by have:=Wf.nx;show 0<=Kf.next;omega,hn⟩) ?_;rintro _ w4 ⟨rfl,h4,k4⟩;have h4:On w4 N (tkK (bJ Kf)) P2 b1 n1 X c:=h4;have bU:=bG.trans k4;conv=>whnf
 repeat ((first|refine Br.f ?_|refine Ru.ak ?_|refine CW.s ?_);conv=>whnf)
 refine Ca.of (nH h4 (tkK Kf).next (-1)) ?_;rintro _ w5 ⟨rfl,k5⟩;have h5:=h4.aj k5;conv=>whnf
 refine Ca.of (iK w5 _ (show(iA (bJ Kf) Kf.next (-1)).told from jj Wf (by have:=Wf.nx;omega) (-1))) ?_;rintro _ w6 ⟨y,hy,rfl,r6,k6⟩;have h6:=h5.aj k6;have gG:=(bU.trans (Aa.eh k5)).trans (Aa.eh k6);clear k5 k6 h5;conv=>whnf
 repeat ((first|refine Br.f ?_|refine Ru.ak ?_|refine CW.s ?_);conv=>whnf)
 refine Ru.of (nI _ _ _ _) ?_;rw[show Tg.mk ((Kf.fb*8+Kf.fi:Nat):Int) 24 (tkK Kf).next 0 false=dw Kf 24 from rfl];conv=>whnf
 refine Ru.ft ?_;intro x10 w7 hx10 hs7 r10a k7;conv=>whnf
 refine Ru.ln r10a ?_;intro w8 r10 k8;have q8:Aa [] w6 w8:=k7.then k8 (fun x hx=>.inr (by rw[List.mem_singleton.1 hx,hx10];exact Nat.le_refl _));have h8:=h6.aj q8;have ry8:=r6.ab q8 (by simp);have qW:=gG.trans (Aa.eh q8);have apW:w.heap.size<=x10:=by
  rw[hx10];exact gG.size
 clear k7 k8 q8 h6 hs7 r10a r6
 have ly8:Ly w8 5 1 (some ⟨y,0,none⟩) 174 174 (fun j=>.int .u8 (aW (bJ Kf) Kf.next j:Nat)):=(Ly.dq ry8 (by omega) (by omega) (by simp[maxLen])).congr (fun j hj=>by
  unfold aW;rw[nJ];rfl)
 conv=>whnf
 refine Ru.fG r10 ?_;conv=>whnf
 refine Ca.of (zY h8 Wf.hb (D:=aW (bJ Kf) Kf.next) (p:=Kf.fb*8+Kf.fi) Fr.lt (fun j=>jc _ j) ly8 (m0 (Nat.le_refl 24) Fr ⟨Wf.nx.1,hn⟩) rfl Fr.bl) ?_;rintro _ w9 ⟨k9,hr9⟩;have ars:=r10.ab k9 (bW x10 apW);have kk9:=qW.trans k9;rw[show cm (aW (bJ Kf) Kf.next)=aW (bJ Kf) Kf.next from gH _] at hr9;rcases hr9 with⟨K9,P9,b9,n9,hb9,h9,g1,⟨rfl,rfl,g2⟩|⟨rfl,rfl,g2,g3,-⟩⟩|⟨hb9,Q,n9,h9,rfl,g1,g2⟩
 ·conv=>whnf
  repeat ((first|refine Br.t ?_|refine Ru.bh ?_|refine CW.s ?_);conv=>whnf)
  refine Ru.fG ars ?_;conv=>whnf
  refine Ca.of (sS h9 Wf.eZ.mw (t:=dw Kf 24) (o:=24) (p:=Kf.fb*8+Kf.fi) (by omega) Fr.lt rfl rfl) ?_;rintro _ tP ⟨rfl,vX,vV⟩;conv=>whnf
  have art:On tP N (cB Kf 24) P9 b9 n9 X c:=vX;exact⟨rfl,kk9.trans vV,.inl ⟨_,P9,b9,n9,fun x=>hb9 (eU x),art,0,rfl,I.vH O hw hn g1 g2⟩⟩
 ·have W9:=Wf.ct (Nat.le_refl 24) mF hn g1 g2;have hmf:P2.may Kf.fb:=by
   have:=Fr.fi;rw[show(Kf.fb*8+Kf.fi)/8=Kf.fb by omega] at g3;exact g3
  conv=>whnf
  repeat ((first|refine Br.f ?_|refine Ru.e1 ?_|refine CW.s ?_);conv=>whnf)
  refine Ca.of (aU 8 8 (by decide) w9) ?_;rintro _ _ ⟨rfl,rfl⟩;conv=>whnf
  repeat ((first|(refine Ld.of h9.core.c2 ?_)|refine Br.f ?_|refine CW.s ?_);conv=>whnf)
  refine Ca.of (fj h9.core.map (fun o ho=>Wf.lt ho)) ?_;rintro _ tP ⟨g,rfl,rg,hg,vV⟩;have vX:=h9.aj vV;have qP:=kk9.trans (Aa.eh vV);have cg:tP.cell? ⟨g,0+Kf.fb,none⟩=some (.int .i64 (lv Kf.at_ Kf.fb:Nat)):=by
   rw[Nat.zero_add];exact rg.cell Kf.fb abR
  by_cases hl:lv Kf.at_ Kf.fb=0
  ·conv=>whnf
   repeat ((first|(refine Ix.of Kf.fb (by omega) (by omega) ?_)|(refine Ld.at (by omega) cg ?_)|(refine Br.jB (decide_eq_false (by omega)) ?_)|(refine Ld.of vX.core.c3 ?_));conv=>whnf)
   refine Ca.of (xK vX.core.front) ?_;rintro _ zc ⟨rfl,q11,jJ⟩;have sP:=vX.front jJ q11;conv=>whnf
   repeat ((refine Ld.of sP.core.c1 ?_);conv=>whnf)
   refine Ca.of (eO sP.core.aV Kf.fb 3 abR (by omega)) ?_;rintro _ w12 ⟨⟨e12,rfl⟩,q12,so⟩;have ox:=sP.aV so q12;obtain⟨I2,c2⟩:=I.again O hn g1 g2 hmf hl;have lU:au (aD Kf.st Kf.fb 3) 3<=12:=de _ _ _;conv=>whnf
   exact⟨(_,P9,b9,n9),⟨fun x=>hb9 (eU x),I2,ox,(qP.trans (Aa.jl (by simp[Cr.own]) jJ)).trans (Aa.jl (by simp[Cr.own]) so)⟩,⟨rfl,trivial⟩,by simp only;omega⟩
  ·conv=>whnf
   repeat ((first|(refine Ix.of Kf.fb (by omega) (by omega) ?_)|(refine Ld.at (by omega) cg ?_)|(refine Br.is (decide_eq_true (by omega)) ?_));conv=>whnf)
   refine Ca.of (hV (12-au Kf.st 3) (by omega) tP N _ X c P9 b9 n9 Kf.fb true false vX ⟨kf,W9⟩ abR (.inr ⟨Fr.fo,rfl⟩) (Nat.le_refl _)) ?_;rintro _ zc ⟨jJ,⟨Eb,Ec,b11,n11,an8,sP,e11,rfl,hVe⟩|⟨an8,Q,n11,sP,rfl,ml⟩⟩
   ·conv=>whnf
    exact⟨rfl,qP.trans jJ,.inl ⟨Eb,Ec,b11,n11,fun x=>an8 (hb9 (eU x)),sP,e11,rfl,I.vac O g1.may hmf hVe⟩⟩
   ·conv=>whnf
    exact⟨rfl,qP.trans jJ,.inr ⟨fun x=>an8 (hb9 (eU x)),Q,n11,sP,rfl,ml⟩⟩
 ·conv=>whnf
  repeat ((first|refine Br.f ?_|refine Ru.e1 ?_|refine CW.s ?_);conv=>whnf)
  refine Ca.of (aU 7 8 (by decide) w9) ?_;rintro _ _ ⟨rfl,rfl⟩;conv=>whnf
  repeat (refine Br.t ?_;conv=>whnf)
  exact⟨rfl,kk9,.inr ⟨fun x=>hb9 (eU x),Q,n9,h9,rfl,Wf.aeG (Nat.le_refl 24) mF hn g1 g2⟩⟩
theorem alO(a:Nat->Nat->Nat)(μ:Nat):Ct a μ/\CO a μ:=by
 induction μ using Nat.strongRecOn with
 | _ μ ih =>
  have hv:Ct a μ:=ajF (fun x hx=>(ih x hx).2);refine⟨hv,ajG (fun x hx=>?_)⟩;by_cases e:x=μ
  ·rw[e];exact hv
  ·exact(ih x (by omega)).1
section
variable{w w':World}{N:Cr}{K:KS}{X:Option Addr}{c:Nat}{P:CS}{b:Option Nat}{n:Int}{a:Nat->Nat->Nat}{k:Cp}
theorem zZ(h:On w N K P b n X c)(W:Wi a k K P){v:Nat}(hv:v<12)(sn:K.st v=2\/K.fo=true/\K.fb=v)(f r:Bool) :
  Spec Tryz.prog 102 #[.pointer (some ⟨N.k,0,none⟩),.int .i64 v,.bool f,.bool r] w fun u w'=>Fin N X c b w w' (fun K' P'=>∃e,u=al e/\AX a v f r K P K' P' e) (fun Q=>u=al 7/\Tw Q 1099511627775 a) :=
 (alO a _).1 w N K X c P b n v f r h ⟨k,W⟩ hv sn (Nat.le_refl _)
end
structure AF(K:KS)(P:CS):Prop where
 mT:∀b,b<12->K.st b=1->K.fo=true/\K.fb=b
 bd:au K.st 3<=2
 free:1+2*(2-au K.st 3)<=au K.st 0
 x:∃x,(∀B,B<12->P.may B->B=x)/\(x<12->P.may x->K.st x=3\/au K.st 3<=1)
theorem Rm.to0{β:Int}{K:KS}{P:CS}(h:Rm β K P):AF K P:=⟨h.mT,h.bd,h.free,h.x⟩
theorem AF.to{K:KS}{P:CS}(h:AF K P)(hn:K.next+20<=1099511627775):Rm K.next K P:=⟨h.mT,h.bd,h.free,h.x,by omega,hn⟩
theorem AF.same{K K':KS}{P P':CS}(h:AF K P)(e1:K'.st=K.st)(e2:K'.fo=K.fo)(e3:K'.fb=K.fb)(hm:∀B,P'.may B->P.may B):AF K' P':=by
 obtain⟨x,x1,x2⟩:=h.x;exact⟨by rw[e1,e2,e3];exact h.mT,by rw[e1];exact h.bd,by rw[e1];exact h.free,⟨x,fun B hB hb=>x1 B hB (hm B hb),fun hx hb=>by rw[e1];exact x2 hx (hm x hb)⟩⟩
theorem AF.shut{K K0:KS}{P:CS}(h:AF K P)(S:B7 K K0):AF K0 P/\∀b,b<12->K0.st b≠1:=by
 obtain⟨c0,c3⟩:=fF S.st;have no:∀b,b<12->K0.st b≠1:=fun b hb e=>by
  rcases S.st b with x|x
  ·obtain⟨y1,y2⟩:=h.mT b hb (by omega);have:=S.front y1;rw[y2] at this;omega
  ·omega
 obtain⟨x,x1,x2⟩:=h.x;refine⟨⟨fun b hb e=>absurd e (no b hb),by rw[c3];exact h.bd,by rw[c3,c0];exact h.free,⟨x,x1,fun hx hm=>?_⟩⟩,no⟩;rw[c3];rcases x2 hx hm with y|y
 ·rcases S.st x with z|z
  ·exact .inl (by rw[z];exact y)
  ·omega
 ·exact .inr y
theorem vK{st:Nat->Nat}:∀ {n:Nat},(∀b,b<n->st b<=3/\st b≠1)->cP st 0 n+cP st 2 n+cP st 3 n=n
 |0,_=>rfl
 | n+1,h=>by
  have ih:=vK (st:=st) (n:=n) (fun b hb=>h b (by omega));have:=h n (by omega);unfold cP;by_cases h0:st n=0
  ·simp only[h0];simp;omega
  ·by_cases h2:st n=2
   ·simp only[h2];simp;omega
   ·have h3:st n=3:=by omega
    simp only[h3];simp;omega
theorem abS{a:Nat->Nat->Nat}{k:Cp}{K:KS}{P:CS}(h:Wi a k K P)(R:AF K P)(no:∀b,b<12->K.st b≠1)(hs:fO K.st=false):∃v:Nat,pV K=v/\v<12/\K.st v=2/\(bY K.ow v).length<=4:=by
 have u5:=R.bd;have mu:=R.free;have hb:au K.st 0<=1+2*(2-au K.st 3):=by
  unfold fO lx ax at hs;have:=of_decide_eq_false hs;rw[if_neg (by simp;omega)] at this;omega
 have cq:au K.st 0+au K.st 2+au K.st 3=12:=vK (fun b hb=>⟨h.st b hb,no b hb⟩);have h7:7<=au K.st 2:=by omega
 have ak0:=ac9 K.at_ 25;obtain⟨b0,jR,sO⟩:∃b0,b0<12/\K.st b0=2/\lv K.at_ b0<=3:=Classical.byContradiction fun lW=>by
  have:=zJ (st:=K.st) (f:=lv K.at_) (s:=2) (x:=4) (n:=12) (fun b hb e=>Classical.byContradiction fun hx=>lW ⟨b,hb,e,by omega⟩);have ak0:jf (lv K.at_) 12<=25:=ak0;have:au K.st 2*4<=jf (lv K.at_) 12:=this;omega
 obtain⟨m1,m2⟩:=lE (s:=fun j=>(K.st j:Nat)) (l:=fun j=>(lv K.at_ j:Nat)) (n:=12);obtain⟨p1,p2⟩:=m1 b0 jR (by have:=sO.1;omega);have av:=(nF (fun j=>(K.st j:Nat)) (fun j=>(lv K.at_ j:Nat)) 12).2;have m2:=m2 p1;have hbe:pV K=bs (fun j=>(K.st j:Nat)) (fun j=>(lv K.at_ j:Nat)) 12:=rfl;generalize bs (fun j=>((K.st j:Nat):Int)) (fun j=>((lv K.at_ j:Nat):Int)) 12=z at *;refine⟨z.toNat,by rw[hbe];omega,by omega,by omega,?_⟩;have:=aep h.eZ (b:=z.toNat) (by omega);have:=sO.2;omega
structure Dz(a:Nat->Nat->Nat)(of:Nat)(K:KS)(P:CS)(K':KS)(P':CS)(e:Int):Prop where
 er:e=0\/e=14
 w:∃k,Wi a k K' P'
 jh:∀u,u<12->K.st u=3->K'.st u=3
 may:∀B,P'.may B->P.may B
 nx:K'.next-3*(au K'.st 3:Nat)<=K.next-3*(au K.st 3:Nat)
 le:K.next<=K'.next
 qu:K'.qu=K.qu
 cur:K'.cur=K.cur
 tg:Ay K K'
 nw:e=0->ax K'.st=false
 room:e=0->aF K'.fo K'.fi of=true
 rm:AF K P->K.next+60<=1099511627775->e=0/\AF K' P'
structure OI(a:Nat->Nat->Nat)(of i:Nat)(K:KS)(P:CS)(K':KS)(P':CS):Prop where
 w:∃k,Wi a k K' P'
 jh:∀u,u<12->K.st u=3->K'.st u=3
 may:∀B,P'.may B->P.may B
 nx:K'.next-3*(au K'.st 3:Nat)<=K.next-3*(au K.st 3:Nat)
 le:K.next<=K'.next
 qu:K'.qu=K.qu
 cur:K'.cur=K.cur
 tg:Ay K K'
 nw:ax K'.st=false
 rm:AF K P->K.next+60<=1099511627775->AF K' P'/\(i=0\/i=1/\aF K'.fo K'.fi of=true)
section
variable{a:Nat->Nat->Nat}{of i:Nat}{K K1 K':KS}{P P1 P':CS}{e:Int}
theorem OI.out(I:OI a of i K P K1 P1)(h:∃k,Wi a k K' P1)(e:∃st pn fo fb fi,K'={ K1 with st:=st,pn:=pn,fo:=fo,fb:=fb,fi:=fi })(h3:∀u,u<12->K1.st u=3->K'.st u=3)(lW:AF K1 P1->(i=0\/i=1/\aF K1.fo K1.fi of=true)->False):Dz a of K P K' P1 14:=by
 have hc:au K1.st 3<=au K'.st 3:=iE h3;obtain⟨_,_,_,_,_,ee⟩:=e;have e1:K'.next=K1.next/\K'.qu=K1.qu/\K'.cur=K1.cur:=by rw[ee];exact⟨rfl,rfl,rfl⟩
 refine⟨.inr rfl,h,fun u hu h=>h3 u hu (I.jh u hu h),I.may,?_,?_,e1.2.1.trans I.qu,e1.2.2.trans I.cur,I.tg.trans (.same (by rw[ee]) (by rw[ee])),fun x=>(by cases x),fun x=>(by cases x),fun R hn=>?_⟩
 ·have:=I.nx;rw[e1.1];omega
 ·rw[e1.1];exact I.le
 ·obtain⟨R1,hi⟩:=I.rm R hn;exact(lW R1 hi).elim
theorem OI.shut(I:OI a of i K P K1 P1)(hr:aF K1.fo K1.fi of=false)(S:B7 K1 (aT K1))(hRm:AF K P)(hn:K.next+60<=1099511627775):AF (aT K1) P1/\(∀b,b<12->(aT K1).st b≠1)/\i=0:=by
 obtain⟨R1,hi⟩:=I.rm hRm hn;obtain⟨R2,no⟩:=R1.shut S;refine⟨R2,no,?_⟩;rcases hi with x|⟨_,x⟩
 ·exact x
 ·rw[hr] at x;cases x
end
section
variable{w w':World}{N:Cr}{K:KS}{X:Option Addr}{c:Nat}{P:CS}{b:Option Nat}{n:Int}{a:Nat->Nat->Nat}{k:Cp}
theorem ajH(h:On w N K P b n X c)(W:Wi a k K P)(hw:ax K.st=false){of:Nat}(ho:of<=24) :
  Spec Tryz.prog 106 #[.pointer (some ⟨N.k,0,none⟩),.int .i64 of] w fun u w'=>Fin N X c b w w' (fun K' P'=>∃e,u=al e/\Dz a of K P K' P' e) (fun Q=>u=al 7/\Tw Q 1099511627775 a):=by
 refine spec_of_wpE (T:=tt) ai func106 rfl (by decide +kernel) ntmps106 (by simp) ?_;conv=>whnf
 repeat (refine CW.s ?_;conv=>whnf)
 refine CW.loop (ι:=Nat×KS×CS×Option Nat×Int) (fun i w'=>i.1<=48/\(b=none->i.2.2.2.1=none)/\OI a of i.1 K P i.2.1 i.2.2.1/\On w' N i.2.1 i.2.2.1 i.2.2.2.1 i.2.2.2.2 X c/\Aa N.all w w')
  (fun i=>[(0,.pointer (some ⟨N.k,0,none⟩)),(1,.int .i64 of),(10,.int .i64 i.1)]) (fun i=>48-i.1) (0,K,P,b,n) ai ⟨by simp,id,⟨⟨k,W⟩,fun _ _ x=>x,fun _ x=>x,Int.le_refl _,Int.le_refl _,rfl,rfl,Ay.refl K,hw,fun R _=>⟨R,.inl rfl⟩⟩,h,Aa.refl _ _⟩ ⟨rfl,rfl,rfl,trivial⟩ ?_;rintro⟨i,K1,P1,b1,n1⟩ wr ⟨hi,eU,I,h1,kk⟩;simp only at hi eU I h1 kk ⊢;obtain⟨k1,W1⟩:=I.w;by_cases av:i<48
 ·conv=>whnf
  repeat ((first|(refine Ld.of h1.core.c3 ?_)|refine Br.y ?_|refine CW.s ?_);conv=>whnf)
  refine Ca.of (mP h1.core.front of W1.fb W1.fi ho) ?_;rintro _ w2 ⟨rfl,r2,k2⟩;have h2:=h1.aj k2;have dh:=kk.trans (Aa.eh k2);by_cases hr:aF K1.fo K1.fi of=true
  ·rw[hr];conv=>whnf
   repeat (refine Br.t ?_;conv=>whnf)
   exact⟨rfl,dh,.inl ⟨K1,P1,b1,n1,eU,h2,0,rfl,⟨.inl rfl,I.w,I.jh,I.may,I.nx,I.le,I.qu,I.cur,I.tg,fun _=>I.nw,fun _=>hr,fun R hn=>⟨rfl,(I.rm R hn).1⟩⟩⟩⟩
  have hr:aF K1.fo K1.fi of=false:=by simpa using hr
  obtain⟨Ws,S⟩:=W1.shut;obtain⟨s0,s3⟩:=fF S.st;have nZ:∀u,u<12->K1.st u=3->(aT K1).st u=3:=fun u _ e=>by
   rcases S.st u with x|x
   ·rw[x];exact e
   ·omega
  have ng:(aT K1).next=K1.next/\(aT K1).qu=K1.qu/\(aT K1).cur=K1.cur/\(aT K1).at_=K1.at_:=by
   obtain⟨st,fo,fb,fi,e⟩:=S.eq;rw[e];exact⟨rfl,rfl,rfl,rfl⟩
  have stg:Ay K1 (aT K1):=by
   obtain⟨st,fo,fb,fi,e⟩:=S.eq;exact .same (by rw[e]) (by rw[e])
  rw[hr];conv=>whnf
  repeat (refine Br.f ?_;conv=>whnf)
  refine Ca.of (lC h2 W1.fb) ?_;rintro _ w3 ⟨rfl,h3,k3⟩;have bG:=dh.trans k3;conv=>whnf
  repeat ((first|(refine Ld.of h3.core.c1 ?_)|refine CW.s ?_);conv=>whnf)
  refine Ca.of (uw h3.core.aV) ?_;rintro _ _ ⟨rfl,rfl⟩;by_cases hs:fO (aT K1).st=true
  ·rw[hs];conv=>whnf
   repeat ((first|(refine Ld.of h3.core.c1 ?_)|refine Br.t ?_);conv=>whnf)
   refine Ca.of (mN h3.core.aV Ws.pn) ?_;intro u w4 hu;unfold AB at hu;have hbc:lx (aT K1).st<au (aT K1).st 0:=by
    unfold fO at hs;exact of_decide_eq_true hs
   obtain⟨d,kM,hd,vT⟩:=je (st:=(aT K1).st) Ws.pn (by omega);rw[kM] at hu;obtain⟨rfl,r4,k4⟩:=hu;have h4:=h3.aV k4 r4;conv=>whnf
   repeat ((first|(refine Ld.of h4.core.c3 ?_)|refine Br.f ?_|refine Ru.ak ?_|refine CW.s ?_);conv=>whnf)
   refine Ca.of (pR h4.core.front d 0 hd (by omega)) ?_;rintro _ w5 ⟨rfl,r5,k5⟩;have h5:On w5 N (opK K1 d) P1 b1 n1 X c:=h4.front k5 r5;have Wo:Wi a k1 (opK K1 d) P1:=Ws.mT S.fo kM;have zV:au (ah (aT K1).st d 1) 3=au (aT K1).st 3:=by
    have:=bQ (aT K1).st 1 3 hd;rw[if_neg (by omega),if_neg (by omega)] at this;exact this
   have yG:au (ah (aT K1).st d 1) 0+1=au (aT K1).st 0:=by
    have:=bQ (aT K1).st 1 0 hd;rw[if_pos vT,if_neg (by omega)] at this;exact this
   conv=>whnf
   repeat (refine Ar.la ?_;conv=>whnf)
   refine⟨(i+1,opK K1 d,P1,b1,n1),⟨av,eU,⟨⟨k1,Wo⟩,fun u hu e=>?_,I.may,?_,?_,ng.2.1.trans I.qu,ng.2.2.1.trans I.cur,I.tg.trans stg,(by have:=I.nw;unfold ax at this ⊢;show decide (2<au (ah (aT K1).st d 1) 3)=false;rw[zV,s3];exact this),fun R hn=>?_⟩,h5,(bG.trans (Aa.jl (by simp[Cr.own]) k4)).trans (Aa.jl (by simp[Cr.own]) k5)⟩,⟨rfl,rfl,vi (by simp only;omega),trivial⟩,by simp only;omega⟩
   ·have:=nZ u hu (I.jh u hu e);show ah (aT K1).st d 1 u=3;unfold ah;rw[if_neg (fun x=>by rw[x] at this;omega)];exact this
   ·have:=I.nx;show(aT K1).next-3*(au (ah (aT K1).st d 1) 3:Nat)<=_;rw[zV,s3,ng.1];exact this
   ·show K.next<=(aT K1).next;rw[ng.1];exact I.le
   ·obtain⟨R2,no,hi0⟩:=I.shut hr S R hn;have tC:=R2.bd;obtain⟨x,x1,x2⟩:=R2.x;have hbound:lx (aT K1).st=1+2*(2-au (aT K1).st 3):=by
     unfold lx ax;rw[if_neg (by simp;omega)]
    refine⟨⟨fun b hb e=>?_,?_,?_,x,x1,fun hx hm=>?_⟩,.inr ⟨by omega,?_⟩⟩
    ·have e:ah (aT K1).st d 1 b=1:=e;refine⟨rfl,?_⟩;show d=b;by_cases u5:b=d
     ·exact u5.symm
     ·unfold ah at e;rw[if_neg u5] at e;exact absurd e (no b hb)
    ·show au (ah (aT K1).st d 1) 3<=2;omega
    ·show 1+2*(2-au (ah (aT K1).st d 1) 3)<=au (ah (aT K1).st d 1) 0;omega
    ·show ah (aT K1).st d 1 x=3\/au (ah (aT K1).st d 1) 3<=1;rcases x2 hx hm with y|y
     ·left;unfold ah;rw[if_neg (fun z=>by rw[z] at y;omega)];exact y
     ·right;omega
    ·show aF true 0 of=true;unfold aF aR;simp
  ·have hs:fO (aT K1).st=false:=by simpa using hs
   rw[hs];conv=>whnf
   repeat (refine Br.f ?_;conv=>whnf)
   refine CW.held (fun w'=>Ad w' N (aT K1) X c) [] (.take 0 (.take 1 (.take 2 (.take 3 (.take 5 (.take 6 (.take 7 (.take 8 (.one 4 (.one 9 (.one 10 (.take 11 (.take 12 (.take 13 (.take 14 (.take 15 (.done))))))))))))))))) ai (by kernel_rfl) (by kernel_rfl) (by kernel_rfl) ?_ ?_
   ·exact h3.core.aj ((Aa.refl _ _).drewN 1)
   have q3:=(Aa.refl [] w3).drewN 1;have h4:=h3.aj q3;have bU:=bG.trans (Aa.eh q3);generalize w3.drewN 1=w4 at *;conv=>whnf
   repeat ((first|(refine Ag.of (fun _ h=>h.c1) ?_)|(refine Ag.of (fun _ h=>h.c2) ?_));conv=>whnf)
   refine Ca.of (jb h4) ?_;rintro _ w5 ⟨Y,e,rfl,O⟩;have h5:=h4.aj O.ab;refine⟨h5.core,?_⟩;conv=>whnf
   refine Ca.of (fj h5.core.map (fun o ho=>Ws.lt ho)) ?_;rintro _ w6 ⟨g,rfl,rg,hg,k6⟩;have h6:=h5.aj k6;refine⟨h6.core,?_⟩;conv=>whnf
   refine Ca.of (xM w6 Y (some ⟨g,0,none⟩) e 12 (fun j=>((aT K1).st j:Nat)) (fun j=>(lv (aT K1).at_ j:Nat)) ((O.ly.aj k6).th) (fun _=>⟨g,0,rfl,fun j hj=>by rw[Nat.zero_add];exact rg.cell j hj⟩)) ?_;rintro _ w7 ⟨rfl,k7⟩;have h7:=h6.aj k7;refine⟨h7.core,?_⟩;have nW:=((bU.trans (Aa.eh O.ab)).trans (Aa.eh k6)).trans (Aa.eh k7);have aru:=nF (fun j=>((aT K1).st j:Nat)) (fun j=>(lv (aT K1).at_ j:Nat)) 12;by_cases hv0:bs (fun j=>((aT K1).st j:Nat)) (fun j=>(lv (aT K1).at_ j:Nat)) 12 = -1
   ·rw[hv0,if_pos (by omega),if_pos (by omega)];conv=>whnf
    repeat ((first|refine Br.t ?_|refine Ru.n1 ?_|refine CW.s ?_);conv=>whnf)
    refine⟨rfl,nW,.inl ⟨_,P1,b1,n1,eU,h7,14,rfl,I.out ⟨k1,Ws⟩ ?_ nZ (fun R1 hi=>?_)⟩⟩
    ·obtain⟨st,fo,fb,fi,e⟩:=S.eq;exact⟨st,K1.pn,fo,fb,fi,by rw[e]⟩
    ·obtain⟨R2,no⟩:=R1.shut S;obtain⟨v,mC,_⟩:=abS Ws R2 no hs;unfold pV at mC;omega
   ·obtain⟨v,mC⟩:∃v:Nat,bs (fun j=>((aT K1).st j:Nat)) (fun j=>(lv (aT K1).at_ j:Nat)) 12=v:=⟨(bs (fun j=>((aT K1).st j:Nat)) (fun j=>(lv (aT K1).at_ j:Nat)) 12).toNat,by omega⟩;have sn:=(lE (s:=fun j=>((aT K1).st j:Nat)) (l:=fun j=>(lv (aT K1).at_ j:Nat)) (n:=12)).2 (by omega);rw[mC] at sn aru;have sn:(aT K1).st v=2:=by
     have:((v:Nat):Int).toNat=v:=by omega
     rw[this] at sn;omega
    rw[mC,if_neg (by omega),if_neg (by omega)];conv=>whnf
    repeat ((first|refine Br.f ?_|refine Ru.ak ?_|refine CW.s ?_);conv=>whnf)
    refine Ca.of (zZ h7 Ws (v:=v) (by omega) (.inl sn) false false) ?_;rintro _ w8 ⟨k8,⟨K8,P8,b8,n8,tD,h8,e8,rfl,V⟩|⟨tD,Q,n8,h8,rfl,ml⟩⟩
    case inr =>
     conv=>whnf
     repeat ((first|refine Br.t ?_|refine Ru.n1 ?_);conv=>whnf)
     exact⟨rfl,nW.trans k8,.inr ⟨fun x=>tD (eU x),Q,n8,h8,rfl,ml⟩⟩
    have apX:∀u,u<12->K.st u=3->K8.st u=3:=fun u hu e=>V.jh u hu (nZ u hu (I.jh u hu e));have vnx:K8.next-3*(au K8.st 3:Nat)<=K.next-3*(au K.st 3:Nat):=by
     have h1:=V.nx;have h2:=I.nx;rw[s3,ng.1] at h1;omega
    have vle:K.next<=K8.next:=by
     have h1:=V.le;have h2:=I.le;rw[ng.1] at h1;omega
    have vrm:AF K P->K.next+60<=1099511627775->e8=0/\AF K8 P8/\i=0/\aF K8.fo K8.fi of=true:=fun R hn=>by
     obtain⟨R2,no,hi0⟩:=I.shut hr S R hn;obtain⟨v',arv,_,_,h4⟩:=abS Ws R2 no hs;unfold pV at arv;have:v'=v:=by omega
     subst this;have arw:(aT K1).next+20<=1099511627775:=by
      have h1:=I.nx;have h2:au K1.st 3<=12:=de _ _ _;rw[ng.1];omega
     obtain⟨g1,g2,g3⟩:=V.room _ (R2.to arw) (fun x=>by cases x) (fun x=>by cases x);obtain⟨g4,g5⟩:=g3 S.fo h4;refine⟨g1,g2.to0,hi0,?_⟩;rw[g4];unfold aF aR;simp;omega
    rcases V.er with rfl|rfl
    ·conv=>whnf
     repeat ((first|refine Br.f ?_|refine Ar.la ?_|refine Ru.ak ?_);conv=>whnf)
     exact⟨(i+1,K8,P8,b8,n8),⟨av,fun x=>tD (eU x),⟨V.w,apX,fun B hB=>I.may B (V.may B hB),vnx,vle,V.qu.trans (ng.2.1.trans I.qu),V.cur.trans (ng.2.2.1.trans I.cur),I.tg.trans (stg.trans V.tg),V.nw rfl,fun R hn=>⟨(vrm R hn).2.1,.inr ⟨by have:=(vrm R hn).2.2.1;omega,(vrm R hn).2.2.2⟩⟩⟩,h8,nW.trans k8⟩,⟨rfl,rfl,vi (by simp only;omega),trivial⟩,by simp only;omega⟩
    ·conv=>whnf
     repeat ((first|refine Br.t ?_|refine Ru.n1 ?_);conv=>whnf)
     exact⟨rfl,nW.trans k8,.inl ⟨K8,P8,b8,n8,fun x=>tD (eU x),h8,14,rfl,⟨.inr rfl,V.w,apX,fun B hB=>I.may B (V.may B hB),vnx,vle,V.qu.trans (ng.2.1.trans I.qu),V.cur.trans (ng.2.2.1.trans I.cur),I.tg.trans (stg.trans V.tg),fun x=>(by cases x),fun x=>(by cases x),fun R hn=>⟨(vrm R hn).1,(vrm R hn).2.1⟩⟩⟩⟩
 ·obtain rfl:i=48:=by omega
  conv=>whnf
  repeat ((first|refine Br.f ?_|refine CW.s ?_);conv=>whnf)
  exact⟨rfl,kk,.inl ⟨K1,P1,b1,n1,eU,h1,14,rfl,I.out ⟨k1,W1⟩ ⟨_,_,_,_,_,rfl⟩ (fun _ _ x=>x) (fun _ hi=>by omega)⟩⟩
end
structure Bq(a:Nat->Nat->Nat)(K:KS)(P:CS)(K':KS)(P':CS):Prop where
 w:∃k,Wi a k K' P'
 may:∀B,P'.may B->P.may B
 c3:au K.st 3<=au K'.st 3
 nx:K'.next-4*(au K'.st 3:Nat)<=K.next-4*(au K.st 3:Nat)
 le:K.next<=K'.next
 qu:K'.qu=K.qu
 cur:K'.cur=K.cur
 tg:Ay K K'
 rm:AF K P->K.next+120<=1099511627775->AF K' P'
structure CB(a:Nat->Nat->Nat)(K:KS)(P:CS)(K':KS)(P':CS):Prop where
 w:∃k,Wi a k K' P'
 may:∀B,P'.may B->P.may B
 c3:au K.st 3<=au K'.st 3
 nx:K'.next-4*(au K'.st 3:Nat)<=K.next-4*(au K.st 3:Nat)+1
 le:K.next<=K'.next
 qu:K'.qu=K.qu
 cur:K'.cur=K.cur
 rm:AF K P->K.next+120<=1099511627775->False
structure Cc(a:Nat->Nat->Nat)(of:Nat)(D:KS->Int->Nat->Nat)(K:KS)(P:CS)(K1:KS)(P1:CS)(K':KS)(P':CS):Prop where
 i:Bq a K P K1 P1
 abn:ax K1.st=false
 room:aF K1.fo K1.fi of=true
 next:K1.next<1099511627775
 eq:K'=cB K1 of
 lk:Lk P1 P' (K1.fb*8+K1.fi)
 pg:P'.pg (K1.fb*8+K1.fi)=.full (dw K1 of) (cm (D (bJ K1) K1.next))
section
variable{a:Nat->Nat->Nat}{of:Nat}{K K1 K2 K':KS}{P P1 P2 P':CS}{e:Int}
theorem Bq.start{k:Cp}(h:Wi a k K P):Bq a K P K P:=⟨⟨k,h⟩,fun _ x=>x,Nat.le_refl _,Int.le_refl _,Int.le_refl _,rfl,rfl,Ay.refl K,fun R _=>R⟩
theorem Bq.lim(I:Bq a K P K1 P1)(h:K.next+120<=1099511627775):K1.next+72<=1099511627775:=by
 have:=I.nx;have:au K1.st 3<=12:=de _ _ _;omega
theorem Bq.mT(I:Bq a K P K1 P1)(O:Dz a of K1 P1 K2 P2 e):Bq a K P K2 P2:=by
 have hc:au K1.st 3<=au K2.st 3:=iE O.jh;refine⟨O.w,fun B h=>I.may B (O.may B h),Nat.le_trans I.c3 hc,?_,Int.le_trans I.le O.le,O.qu.trans I.qu,O.cur.trans I.cur,I.tg.trans O.tg,fun R hn=>?_⟩
 ·have h1:=I.nx;have h2:=O.nx;omega
 ·exact(O.rm (I.rm R hn) (by have:=I.lim hn;omega)).2
theorem Bq.no(I:Bq a K P K1 P1)(lW:AF K1 P1->K1.next+72<=1099511627775->False):CB a K P K1 P1 :=
 ⟨I.w,I.may,I.c3,by have:=I.nx;omega,I.le,I.qu,I.cur,fun R hn=>lW (I.rm R hn) (I.lim hn)⟩
theorem Bq.fail(I:Bq a K P K1 P1){k1:Cp}(W1:Wi a k1 K1 P1)(ho:of<=24)(hr:aF K1.fo K1.fi of=true)(hn:K1.next<1099511627775)(hL:Lk P1 P2 (K1.fb*8+K1.fi))(zX:nf (P2.pg (K1.fb*8+K1.fi)))(hm:P2.may ((K1.fb*8+K1.fi)/8)){P':CS}(V:AX a K1.fb true false (tkK (bJ K1)) P2 K' P' e) :
  (e=0->Bq a K P K' P'/\au K1.st 3<au K'.st 3)/\(e=14->CB a K P K' P'):=by
 have Fr:=W1.fresh ho hr;have h8:=Fr.fi;rw[show(K1.fb*8+K1.fi)/8=K1.fb by omega] at hm;have qk:=W1.fb;have hc:au K1.st 3<=au K'.st 3:=iE V.jh;have vnx:K'.next-3*(au K'.st 3:Nat)<=K1.next+1-3*(au K1.st 3:Nat):=V.nx;have vle:K1.next+1<=K'.next:=V.le;have fc:=I.nx;have vrm:AF K1 P1->K1.next+72<=1099511627775->e=0/\AF K' P':=fun R hn=>by
  have R2:AF (tkK (bJ K1)) P2:=R.same rfl rfl rfl hL.may;obtain⟨g1,g2,_⟩:=V.room _ (R2.to (by show K1.next+1+20<=_;omega)) (fun _=>hm) (fun x=>by cases x);exact⟨g1,g2.to0⟩
 refine⟨fun he=>?_,fun he=>?_⟩
 ·have hvb:=V.vb he rfl;have av:au K1.st 3<au K'.st 3:=by
   have h1:=qR K1.st K1.fb 3 3 12;have h2:=gW (st:=K1.st) qk hvb.2;have h3:au (ah K1.st K1.fb 3) 3<=au K'.st 3:=iE (fun u hu e=>by
    by_cases hx:u=K1.fb
    ·rw[hx];exact hvb.1
    ·unfold ah at e;rw[if_neg hx] at e;exact V.jh u hu e)
   omega
  exact⟨⟨V.w,fun B h=>I.may B (hL.may B (V.may B h)),Nat.le_trans I.c3 hc,by omega,by have:=I.le;omega,V.qu.trans I.qu,V.cur.trans I.cur,I.tg.trans V.tg,fun R hn=>(vrm (I.rm R hn) (I.lim hn)).2⟩,av⟩
 ·exact⟨V.w,fun B h=>I.may B (hL.may B (V.may B h)),Nat.le_trans I.c3 hc,by omega,by have:=I.le;omega,V.qu.trans I.qu,V.cur.trans I.cur,fun R hn=>by
   have:=(vrm (I.rm R hn) (I.lim hn)).1;omega⟩
end
section
variable{w w':World}{N:Cr}{K:KS}{X:Option Addr}{c:Nat}{P:CS}{b:Option Nat}{n:Int}{a:Nat->Nat->Nat}{k:Cp}
theorem z7(h:On w N K P b n X c)(W:Wi a k K P){of:Nat}(ho:of<=24){D:KS->Int->Nat->Nat}(g:FuncId)(cap:Array Value)
  (hg:∀K1 P1 k1,Wi a k1 K1 P1->K1.next<1099511627775->Bq a K P K1 P1->Cw N X c w g cap D K1 P1/\∀j,D (bJ K1) K1.next j<256) :
  Spec Tryz.prog 63 #[.pointer (some ⟨N.k,0,none⟩),.int .i64 of,.func (.func g) #[] cap] w fun u w' =>
   Fin N X c b w w' (fun K' P'=>(u=al 0/\∃K1 P1,Cc a of D K P K1 P1 K' P')\/(u=al 14/\CB a K P K' P')) (fun Q=>u=al 7/\Tw Q 1099511627775 a):=by
 have bW:∀x,w.heap.size<=x->x∉N.all:=fun x hx hm=>by
  have h3:x<w.heap.size:=by
   rcases List.mem_append.1 hm with hm|hm
   ·exact h.core.lt (List.mem_append_left _ hm)
   ·exact h.gn _ hm
  omega
 refine spec_of_wpE (T:=tt) ai func63 rfl (by decide +kernel) ntmps63 (by simp) ?_;refine CW.loop (ι:=KS×CS×Option Nat×Int) (fun i w'=>(b=none->i.2.2.1=none)/\Bq a K P i.1 i.2.1/\On w' N i.1 i.2.1 i.2.2.1 i.2.2.2 X c/\Aa N.all w w') (fun _=>[(0,.pointer (some ⟨N.k,0,none⟩)),(1,.int .i64 of),(2,.func (.func g) #[] cap)]) (fun i=>12-au i.1.st 3) (K,P,b,n) ai ⟨id,Bq.start W,h,Aa.refl _ _⟩ ⟨rfl,rfl,rfl,trivial⟩ ?_;rintro⟨K1,P1,b1,n1⟩ wr ⟨eU,I,h1,kk⟩;simp only at eU I h1 kk ⊢;obtain⟨k1,W1⟩:=I.w;conv=>whnf
 repeat ((first|(refine Ld.of h1.core.c1 ?_)|refine CW.s ?_);conv=>whnf)
 refine Ca.of (eQ h1.core.aV) ?_;rintro _ _ ⟨rfl,rfl⟩;by_cases hw:ax K1.st=true
 ·rw[hw];conv=>whnf
  repeat (refine Br.t ?_;conv=>whnf)
  refine⟨rfl,kk,.inl ⟨K1,P1,b1,n1,eU,h1,.inr ⟨rfl,I.no (fun R _=>?_)⟩⟩⟩;have:=R.bd;unfold ax at hw;have:=of_decide_eq_true hw;omega
 have hw:ax K1.st=false:=by simpa using hw
 rw[hw];conv=>whnf
 repeat ((first|refine Br.f ?_|refine CW.s ?_);conv=>whnf)
 refine Ca.of (ajH h1 W1 hw ho) ?_;rintro _ w2 ⟨k2,⟨K2,P2,b2,n2,tC,h2,e2,rfl,O⟩|⟨tC,Q,n2,h2,rfl,ml⟩⟩
 case inr =>
  conv=>whnf
  repeat ((first|refine Br.t ?_|refine Ru.n1 ?_);conv=>whnf)
  exact⟨rfl,kk.trans k2,.inr ⟨fun x=>tC (eU x),Q,n2,h2,rfl,ml⟩⟩
 have dh:=kk.trans k2;have ady:=fun x=>tC (eU x);have I2:=I.mT O;rcases O.er with rfl|rfl
 case inr =>
  conv=>whnf
  repeat ((first|refine Br.t ?_|refine Ru.n1 ?_);conv=>whnf)
  refine⟨rfl,dh,.inl ⟨K2,P2,b2,n2,ady,h2,.inr ⟨rfl,?_⟩⟩⟩;refine⟨I2.w,I2.may,I2.c3,by have:=I2.nx;omega,I2.le,I2.qu,I2.cur,fun R hn=>?_⟩;have:=(O.rm (I.rm R hn) (by have:=I.lim hn;omega)).1;omega
 have mF:=O.room rfl;have hw2:=O.nw rfl;obtain⟨k2',W2⟩:=O.w;have Fr:=W2.fresh ho mF;have abR:=W2.fb;by_cases hn:K2.next<1099511627775
 case neg =>
  conv=>whnf
  repeat ((first|refine Br.f ?_|refine Ru.ak ?_);conv=>whnf)
  refine Ca.of (rE h2 (by omega)) ?_;rintro _ _ ⟨rfl,rfl⟩;conv=>whnf
  repeat ((first|refine Br.t ?_|refine Ru.n1 ?_|refine CW.s ?_);conv=>whnf)
  exact⟨rfl,dh,.inl ⟨K2,P2,b2,n2,ady,h2,.inr ⟨rfl,I2.no (fun _ hx=>by omega)⟩⟩⟩
 obtain⟨hmk,we⟩:=hg K2 P2 k2' W2 hn I2;conv=>whnf
 repeat ((first|refine Br.f ?_|refine Ru.ak ?_);conv=>whnf)
 refine Ca.of (sR h2 ⟨by have:=W2.nx;omega,hn⟩) ?_;rintro _ w3 ⟨rfl,h3,k3⟩;have bG:=dh.trans k3;conv=>whnf
 repeat ((first|refine Br.f ?_|refine Ru.ak ?_|refine CW.s ?_);conv=>whnf)
 refine Ca.args (args' := #[.int .i64 K2.next]++cap) (by simp) ?_;refine Ca.of (hmk w3 _ _ bG h3) ?_;rintro _ w4 ⟨A,dd,rfl,hl,k4⟩;have h4:=h3.aj k4;have bU:=bG.trans (Aa.eh k4);conv=>whnf
 repeat ((first|(refine Ld.of h4.core.c3 ?_)|refine Br.f ?_|refine Ru.ak ?_|refine CW.s ?_);conv=>whnf)
 refine Ca.of (uG h4.core.front of W2.fb W2.fi ho mF) ?_;rintro _ w5 ⟨rfl,r5,k5⟩;have h5:On w5 N (tkK (bJ K2)) P2 b2 n2 X c:=h4.front k5 r5;have dL:=bU.trans (Aa.jl (by simp[Cr.own]) k5);have hl5:=hl.ab k5 (fun x hx hm=>hl.aL h4.core.front (by decide) (List.mem_singleton.1 hm ▸ hx));conv=>whnf
 repeat ((first|refine Br.f ?_|refine Ru.ak ?_|refine CW.s ?_);conv=>whnf)
 refine Ru.of (nI _ _ _ _) ?_;rw[show(Tg.mk (((bJ K2).fb*8+(bJ K2).fi:Nat):Int) (of:Nat) K2.next 0 false)=dw K2 of from rfl];conv=>whnf
 refine Ru.ft ?_;intro x12 w6 hx12 hs6 r12a k6;conv=>whnf
 refine Ru.ln r12a ?_;intro w7 r12 k7;have q7:Aa [] w5 w7:=k6.then k7 (fun x hx=>.inr (by rw[List.mem_singleton.1 hx,hx12];exact Nat.le_refl _));have h7:=h5.aj q7;have hl7:=hl5.aj q7;have nW:=dL.trans (Aa.eh q7);have al4:w.heap.size<=x12:=by
  rw[hx12];exact dL.size
 clear k6 k7 q7 hs6 r12a hx12 w6;conv=>whnf
 refine Ru.fG r12 ?_;conv=>whnf
 refine Ca.of (zY h7 W2.hb (p:=K2.fb*8+K2.fi) Fr.lt we hl7 (m0 ho Fr ⟨W2.nx.1,hn⟩) rfl Fr.bl) ?_;rintro _ w8 ⟨k8,hr8⟩;have arx:=r12.ab k8 (bW x12 al4);have qW:=nW.trans k8;rcases hr8 with⟨K8,P8,b8,n8,tD,h8,g1,⟨rfl,rfl,g2⟩|⟨rfl,rfl,g2,g3,g4⟩⟩|⟨tD,Q,n8,h8,rfl,g1,g2⟩
 ·conv=>whnf
  repeat ((first|refine Br.t ?_|refine Ru.bh ?_|refine CW.s ?_);conv=>whnf)
  refine Ru.fG arx ?_;conv=>whnf
  refine Ca.of (sS h8 W2.eZ.mw (t:=dw K2 of) ho Fr.lt rfl rfl) ?_;rintro _ w9 ⟨rfl,h9,k9⟩;conv=>whnf
  have h9':On w9 N (cB K2 of) P8 b8 n8 X c:=h9;exact⟨rfl,qW.trans k9,.inl ⟨_,P8,b8,n8,fun x=>tD (ady x),h9',.inl ⟨rfl,K2,P2,I2,hw2,mF,hn,rfl,g1,g2⟩⟩⟩
 ·have W8:=W2.ct ho mF hn g1 g2;conv=>whnf
  repeat ((first|refine Br.f ?_|refine Ru.e1 ?_|refine CW.s ?_);conv=>whnf)
  refine Ca.of (aU 8 8 (by decide) w8) ?_;rintro _ _ ⟨rfl,rfl⟩;conv=>whnf
  repeat ((first|(refine Ld.of h8.core.c3 ?_)|refine Br.f ?_);conv=>whnf)
  refine Ca.of (kg h8.core.front) ?_;rintro _ _ ⟨rfl,rfl⟩;rw[if_pos (show(tkK (bJ K2)).fo=true from Fr.fo)];conv=>whnf
  refine Ca.of (zZ h8 W8 abR (.inr ⟨Fr.fo,rfl⟩) true false) ?_;rintro _ w9 ⟨k9,⟨K9,P9,b9,n9,hb9,h9,e9,rfl,V⟩|⟨hb9,Q,n9,h9,rfl,ml⟩⟩
  ·obtain⟨v1,v2⟩:=I2.fail W2 ho mF hn g1 g2 g4 V;rcases V.er with rfl|rfl
   ·obtain⟨v3,v4⟩:=v1 rfl;have hc9:au K9.st 3<=12:=de _ _ _;have lU:au K1.st 3<=au K2.st 3:=iE O.jh;conv=>whnf
    repeat ((first|refine Br.f ?_|refine Ru.ak ?_);conv=>whnf)
    exact⟨(K9,P9,b9,n9),⟨fun x=>hb9 (tD (ady x)),v3,h9,qW.trans k9⟩,⟨rfl,rfl,rfl,trivial⟩,by simp only;omega⟩
   ·conv=>whnf
    repeat ((first|refine Br.t ?_|refine Ru.n1 ?_);conv=>whnf)
    exact⟨rfl,qW.trans k9,.inl ⟨K9,P9,b9,n9,fun x=>hb9 (tD (ady x)),h9,.inr ⟨rfl,v2 rfl⟩⟩⟩
  ·conv=>whnf
   repeat ((first|refine Br.t ?_|refine Ru.n1 ?_);conv=>whnf)
   exact⟨rfl,qW.trans k9,.inr ⟨fun x=>hb9 (tD (ady x)),Q,n9,h9,rfl,ml⟩⟩
 ·conv=>whnf
  repeat ((first|refine Br.f ?_|refine Ru.e1 ?_|refine CW.s ?_);conv=>whnf)
  refine Ca.of (aU 7 8 (by decide) w8) ?_;rintro _ _ ⟨rfl,rfl⟩;conv=>whnf
  repeat (refine Br.t ?_;conv=>whnf)
  exact⟨rfl,qW,.inr ⟨fun x=>tD (ady x),Q,n8,h8,rfl,W2.aeG ho mF hn g1 g2⟩⟩
end
section
variable{w w':World}{N:Cr}{K:KS}{X:Option Addr}{c:Nat}{P:CS}{b:Option Nat}{n:Int}{a:Nat->Nat->Nat}{k:Cp}
theorem Wi.ary(h:Wi a k K P){of:Nat}(ho:of<=24)(hr:aF K.fo K.fi of=true):(cB K of).at_=ah K.at_ of (K.fb*8+K.fi+1):=by
 have Fr:=h.fresh ho hr;have h96:=Fr.lt;have zM:K.ow (K.fb*8+K.fi)=0:=by
  by_cases hx:K.ow (K.fb*8+K.fi)=0
  ·exact hx
  ·obtain⟨y1,y2⟩:=h.eZ.o _ h96 hx;obtain⟨_,t,D,e1,_⟩:=h.cI (o:=K.ow (K.fb*8+K.fi)-1) (by omega) (by omega);rw[y2,Nat.add_sub_cancel,Fr.bl] at e1
   cases e1
 obtain⟨c1,c2⟩:=h.eZ.set (o:=of) (by omega) h96 zM Fr.hh;unfold cB anK;split
 ·exact c2
 ·exact c2
theorem abT(h:On w N K P b n X c)(W:Wi a k K P) :
  Spec Tryz.prog 105 #[.pointer (some ⟨N.k,0,none⟩)] w fun u w'=>Fin N X c b w w' (fun K' P'=>(u=al 0/\∃K1 P1,Cc a 24 aW K P K1 P1 K' P')\/(u=al 14/\CB a K P K' P')) (fun Q=>u=al 7/\Tw Q 1099511627775 a):=by
 refine spec_of_wpE (T:=tt) ai func105 rfl (by decide +kernel) ntmps105 (by simp) ?_;conv=>whnf
 refine Ru.aiA ?_;intro x w1 hx hs r k1;have h1:=h.aj k1;have bW:x∉N.all:=fun hm=>by
  have h3:x<w.heap.size:=by
   rcases List.mem_append.1 hm with hm|hm
   ·exact h.core.lt (List.mem_append_left _ hm)
   ·exact h.gn _ hm
  omega
 conv=>whnf
 repeat ((refine Ld.row r (by omega) ?_);conv=>whnf)
 refine Ca.of (z7 h1 W (of:=24) (by omega) 152 #[.pointer (some ⟨x,0,none⟩)] (fun K1 P1 k1' W1 hn I=>⟨fun w2 b2 n2 k2 h2=>abo h2 ((r.ab k2 bW).cell 0 (by omega)) K1.next (jj W1 (by have:=W1.nx;omega) (-1)),fun j=>jc _ j⟩)) ?_;rintro _ w2 ⟨k2,hr⟩;conv=>whnf
 exact⟨rfl,(Aa.eh k1).trans k2,hr⟩
theorem alP(h:On w N K P b n X c)(W:Wi a k K P){of d:Nat}(ho:of<24){A:Option Addr}{f:Nat->Nat}(hf:∀j,f j<256)(hA:AI w A 160 f)(hd:160<=d) :
  Spec Tryz.prog 68 #[.pointer (some ⟨N.k,0,none⟩),.int .i64 of,.slice A 160 d] w fun u w'=>Fin N X c b w w' (fun K' P'=>(u=al 0/\∃K1 P1,Cc a of (dO f) K P K1 P1 K' P')\/(u=al 14/\CB a K P K' P')) (fun Q=>u=al 7/\Tw Q 1099511627775 a):=by
 have bW:∀x,w.heap.size<=x->x∉N.all:=fun x hx hm=>by
  have h3:x<w.heap.size:=by
   rcases List.mem_append.1 hm with hm|hm
   ·exact h.core.lt (List.mem_append_left _ hm)
   ·exact h.gn _ hm
  omega
 refine spec_of_wpE (T:=tt) ai func68 rfl (by decide +kernel) ntmps68 (by simp) ?_;conv=>whnf
 repeat ((first|refine Br.f ?_|refine Pk.f ?_|refine Br.n ?_|refine CW.s ?_);conv=>whnf)
 refine Ru.of (uU w) ?_;have ry:=Row.made w 5 (.int .u8 0) 174;have k1:Aa [] w (w.alloc (.cells (madeCells #[.int .u8 0] 174) 5)):=(Aa.refl _ _).alloc _;have dj:(w.alloc (.cells (madeCells #[.int .u8 0] 174) 5)).heap.size=w.heap.size+1:=by simp
 generalize w.alloc _=w1 at *;conv=>whnf
 refine Ru.of (abp w1) ?_;have rx:=qQ (heap_alloc_new w1 (.cells #[.slice none 0 0] 37));have k2:Aa [] w1 (w1.alloc (.cells #[.slice none 0 0] 37)):=(Aa.refl _ _).alloc _;have ry2:=ry.ab k2 (by simp);generalize w1.alloc _=w2 at *;conv=>whnf
 refine Sd.rowAt rx 0 (by omega) (by omega) rfl ?_;intro w3 rx3 k3;have hxy:w1.heap.size≠w.heap.size:=by omega
 have hxw:w.heap.size<=w1.heap.size:=by omega
 have ry3:=ry2.ab k3 (by simpa using hxy.symm);have bG:Aa [] w w3:=(k1.trans k2).fresh hxw k3;have rx3:Row w3 w1.heap.size 37 1 (fun _=>.slice (some ⟨w.heap.size,0,none⟩) 174 174):=rx3.congr (fun j hj=>by rw[c1 hj];rfl);generalize hxx:w1.heap.size=x at *;generalize hyy:w.heap.size=y at *;conv=>whnf
 repeat ((refine Ld.row rx3 (by omega) ?_);conv=>whnf)
 refine Bu.copy underlying37 mB ry3 A 160 d 160 rfl (hA.aj bG) (fun e=>?_) (by omega) (fun _ _=>rfl) ?_
 ·obtain⟨b1,o1,e1,_⟩:=hA (by omega);rw[e] at e1
  cases e1
 intro w4 ry4 k4;have rx4:=rx3.ab k4 (by simpa using hxy);have bU:Aa [] w w4:=bG.fresh (by omega) k4;have ry4:Row w4 y 5 174 (fun j=>.int .u8 (dO f K 0 j:Nat)):=ry4.congr (fun j hj=>by
  unfold lay dO;by_cases h:j<160
  ·rw[if_pos (by omega),if_pos h,Nat.sub_zero]
  ·rw[if_neg (by omega),if_neg h];rfl)
 have h4:=h.aj bU;conv=>whnf
 refine Ca.of (z7 h4 W (of:=of) (by omega) (D:=dO f) 114 #[.pointer (some ⟨x,0,none⟩)] (fun K1 P1 k1' W1 hn I=>⟨fun w2 b2 n2 k2 h2=>aeo (D:=dO f (bJ K1) K1.next) ((rx4.ab k2 (bW x (by omega))).cell 0 (by omega)) (ry4.ab k2 (bW y (by omega))) K1.next,fun j=>by
  unfold dO;split
  ·exact hf j
  ·omega⟩)) ?_
 rintro _ w5 ⟨k5,hr⟩;conv=>whnf
 exact⟨rfl,(Aa.eh bU).trans k5,hr⟩
theorem adz{k:Cp}(h:Wi a k K P){o:Nat}{q:Int}(hq:0<=q/\q<=1099511627775)(hn:K.next<1099511627775):(wJ (bJ K) o q K.next).told:=by
 have T:=jj h (s:=K.next) (by have:=h.nx;omega) (-1);refine⟨T.next,T.cur,fun i hi=>?_,T.rd,T.sc⟩;show 0<=ah K.fl o q i/\ah K.fl o q i<=_;unfold ah;split
 ·exact hq
 ·exact h.fge i hi
theorem ajI(h:On w N K P b n X c)(W:Wi a k K P){o:Nat}(ho:o<24)(h0:K.at_ o≠0) :
  Spec Tryz.prog 44 #[.pointer (some ⟨N.k,0,none⟩),.int .i64 o] w fun u w'=>Fin N X c b w w' (fun K' P'=>(u=al 0/\∃K1 P1,Cc a 24 (dy o (K.en o).seq) K P K1 P1 (cB K1 24) P'/\K'=zL (sY (cB K1 24) o (K.en o).seq) o)\/(u=al 14/\CB a K P K' P')) (fun Q=>u=al 7/\Tw Q 1099511627775 a):=by
 have h96:=W.lt (o:=o) (by omega);have hsq:0<=(K.en o).seq/\(K.en o).seq<=1099511627775:=by
  obtain⟨_,t,D,_,e2,_,e4,_⟩:=W.cI (o:=o) (by omega) h0;rw[e2];unfold Tg.ok at e4;show 0<=t.seq/\t.seq<=_;omega
 have bW:∀x,w.heap.size<=x->x∉N.all:=fun x hx hm=>by
  have h3:x<w.heap.size:=by
   rcases List.mem_append.1 hm with hm|hm
   ·exact h.core.lt (List.mem_append_left _ hm)
   ·exact h.gn _ hm
  omega
 refine spec_of_wpE (T:=tt) ai func44 rfl (by decide +kernel) ntmps44 (by simp) ?_;conv=>whnf
 refine Ru.aiA ?_;intro x2 w1 hx2 dj r2 k1;conv=>whnf
 refine Ru.anB ?_;intro x3 w2 hx3 gO r3 k2;have r22:=r2.ab k2 (by simp);have hh2:=(h.aj k1).aj k2;have kk:=k1.trans k2;have x2w:w.heap.size<=x2:=by omega
 have x3w:w.heap.size<=x3:=by omega
 clear hx2 dj r2 k1 k2 gO hx3 w1;conv=>whnf
 repeat ((first|(refine Ld.row r3 (by omega) ?_)|refine Br.f ?_|refine Pk.f ?_|refine Br.n ?_|refine CW.s ?_);conv=>whnf)
 refine CW.held (fun w'=>Ad w' N K X c/\Row w' x2 85 1 (fun _=>.pointer (some ⟨N.k,0,none⟩))/\Row w' x3 3 1 (fun _=>.int .i64 o)) [] (.take 0 (.take 1 (.take 2 (.take 3 (.take 4 (.one 5 (.take 6 (.take 7 (.take 8 (.take 9 (.take 10 (.done)))))))))))) ai (by kernel_rfl) (by kernel_rfl) (by kernel_rfl) ?_ ?_
 ·exact⟨hh2.core.aj ((Aa.refl _ _).drewN 1),Row.drewN r22 1,Row.drewN r3 1⟩
 have q2:=(Aa.refl [] w2).drewN 1;have h3:=hh2.aj q2;have r23:=r22.ab q2 (by simp);have xQ:=r3.ab q2 (by simp);have bG:=kk.trans q2;clear hh2 r22 r3 kk q2;generalize w2.drewN 1=w3 at *;conv=>whnf
 repeat ((first|(refine Ag.of (fun _ h=>h.1.c2) ?_)|(refine Ag.of (fun _ h=>h.2.1.cell 0 (by omega)) ?_)|(refine Ag.of (fun _ h=>h.2.2.cell 0 (by omega)) ?_));conv=>whnf)
 refine Ca.of (iW h3.core.map o (by omega) (by omega)) ?_;rintro _ _ ⟨rfl,rfl⟩;rw[if_neg h0];refine⟨⟨h3.core,r23,xQ⟩,?_⟩;conv=>whnf
 repeat ((first|refine Br.f ?_|refine Ru.ak ?_);conv=>whnf)
 refine CW.held (fun w'=>Ad w' N K X c/\Row w' x2 85 1 (fun _=>.pointer (some ⟨N.k,0,none⟩))/\Row w' x3 3 1 (fun _=>.int .i64 o)) [8] (.take 0 (.take 1 (.take 2 (.take 3 (.take 4 (.take 5 (.take 6 (.one 7 (.one 8 (.done)))))))))) ai (by kernel_rfl) (by kernel_rfl) (by kernel_rfl) ?_ ?_
 ·exact⟨h3.core.aj ((Aa.refl _ _).drewN 1),Row.drewN r23 1,Row.drewN xQ 1⟩
 have q2:=(Aa.refl [] w3).drewN 1;have h4:=h3.aj q2;have r24:=r23.ab q2 (by simp);have r34:=xQ.ab q2 (by simp);have bU:=bG.trans q2;clear h3 r23 xQ bG q2;generalize w3.drewN 1=w4 at *;have een:bZ N K X c (7+3*o)=.int .i64 (K.en o).seq:=iL (j:=0) (by omega) (by omega);conv=>whnf
 repeat ((first|(refine Ag.of (fun _ h=>h.2.1.cell 0 (by omega)) ?_)|(refine Ag.of (fun _ h=>h.2.2.cell 0 (by omega)) ?_)|(refine Ix.of o (by omega) (by omega) ?_)|(refine Ag.at (j:=7+3*o) (by omega) (fun _ h=>(h.1.row.cell (7+3*o) (by omega)).trans (congrArg some een)) ?_));conv=>whnf)
 refine Ru.of (yd w4) ?_;have r7:=qQ (heap_alloc_new w4 (.cells #[.int .i64 0] 2));have k5:Aa [] w4 (w4.alloc (.cells #[.int .i64 0] 2)):=(Aa.refl _ _).alloc _;have h5:=h4.aj k5;have r25:=r24.ab k5 (by simp);have r35:=r34.ab k5 (by simp);have dL:=bU.trans k5;have l2:=r24.lt;have l3:=r34.lt;have x7w:=bU.size;clear k5 h4 r24 r34 bU;generalize w4.alloc _=w5 at *;generalize w4.heap.size=x7 at *;refine⟨⟨h5.core,r25,r35⟩,?_⟩;conv=>whnf
 refine Sd.rowAt r7 0 (by omega) (by omega) rfl ?_;intro w6 r76 k6;have h6:=h5.iz r7 (by decide) k6;have r26:=r25.ab k6 (by simp;omega);have r36:=r35.ab k6 (by simp;omega);have gG:=dL.fresh x7w k6;have r76:Row w6 x7 2 1 (fun _=>.int .i64 (K.en o).seq):=r76.congr (fun j hj=>by rw[c1 hj];rfl);clear r7 h5 r25 r35 dL k6 l2 l3 w5;conv=>whnf
 repeat ((refine Ld.row r26 (by omega) ?_);conv=>whnf)
 refine Ca.of (z7 h6 W (of:=24) (by omega) (D:=dy o (K.en o).seq) 64 #[.pointer (some ⟨x2,0,none⟩),.pointer (some ⟨x7,0,none⟩),.pointer (some ⟨x3,0,none⟩)] (fun K1 P1 k1' W1 hn I=>⟨fun w2 b2 n2 k2 h2=>abw h2 ho ((r26.ab k2 (bW _ x2w)).cell 0 (by omega)) ((r76.ab k2 (bW _ x7w)).cell 0 (by omega)) ((r36.ab k2 (bW _ x3w)).cell 0 (by omega)) K1.next (adz W1 hsq hn),fun j=>jc _ j⟩)) ?_;rintro _ w7 ⟨k7,hr⟩;have nW:=(Aa.eh (N:=N) gG).trans k7;rcases hr with⟨K7,P7,b7,n7,wM,h7,hr⟩|⟨wM,Q,n7,h7,rfl,ml⟩
 case inr =>
  conv=>whnf
  repeat ((first|refine Br.t ?_|refine Ru.n1 ?_|refine CW.s ?_);conv=>whnf)
  exact⟨rfl,nW,.inr ⟨wM,Q,n7,h7,rfl,ml⟩⟩
 rcases hr with⟨rfl,K1,P1,L⟩|⟨rfl,E⟩
 case inr =>
  conv=>whnf
  repeat ((first|refine Br.t ?_|refine Ru.n1 ?_|refine CW.s ?_);conv=>whnf)
  exact⟨rfl,nW,.inl ⟨K7,P7,b7,n7,wM,h7,.inr ⟨rfl,E⟩⟩⟩
 obtain⟨k1',W1⟩:=L.i.w;have da:=W1.ary (Nat.le_refl 24) L.room;have ht1:=(L.i.tg o ho h0).1;have h1:(cB K1 24).at_ o≠0:=by
  rw[da];unfold ah;rw[if_neg (by omega)];exact ht1
 have h2:(cB K1 24).at_ o<=96:=by
  rw[da];unfold ah;rw[if_neg (by omega)];exact W1.lt (by omega)
 obtain rfl:=L.eq;have r27:=r26.ab k7 (bW _ x2w);have r37:=r36.ab k7 (bW _ x3w);have r77:=r76.ab k7 (bW _ x7w);clear h6 r26 r36 r76 k7 gG;conv=>whnf
 repeat ((first|refine Br.f ?_|refine Ru.ak ?_|refine CW.s ?_);conv=>whnf)
 refine CW.held (fun w'=>Row w' x2 85 1 (fun _=>.pointer (some ⟨N.k,0,none⟩))/\Row w' x3 3 1 (fun _=>.int .i64 o)/\Row w' x7 2 1 (fun _=>.int .i64 (K.en o).seq)) [] (.take 0 (.take 1 (.take 2 (.take 3 (.take 4 (.take 5 (.one 6 (.done)))))))) ai (by kernel_rfl) (by kernel_rfl) (by kernel_rfl) ?_ ?_
 ·exact⟨Row.drewN r27 1,Row.drewN r37 1,Row.drewN r77 1⟩
 have q7:=(Aa.refl [] w7).drewN 1;have h8:=h7.aj q7;have r28:=r27.ab q7 (by simp);have r38:=r37.ab q7 (by simp);have r78:=r77.ab q7 (by simp);have qW:=nW.trans (Aa.eh (N:=N) q7);clear h7 r27 r37 r77 nW q7;generalize w7.drewN 1=w8 at *;conv=>whnf
 repeat ((first|(refine Ag.of (fun _ h=>h.1.cell 0 (by omega)) ?_)|(refine Ag.of (fun _ h=>h.2.1.cell 0 (by omega)) ?_)|(refine Ag.of (fun _ h=>h.2.2.cell 0 (by omega)) ?_)|(refine Ix.of o (by omega) (by omega) ?_));conv=>whnf)
 rw[show 0+82+o=82+o by omega];refine Sd.rowAt h8.core.row (82+o) (by omega) (by omega) rfl ?_;intro w9 r9 k9;have h9:On w9 N (sY (cB K1 24) o (K.en o).seq) P7 _ n7 X c:=h8.row k9 r9 (fun j hj=>rV o ho _ j hj) rfl;have r29:=r28.ab k9 (by
  have:=h8.core.row.lt;have:=h8.core.row.ed r28 (by decide);simpa using this.symm)
 have r39:=r38.ab k9 (by
  have:=h8.core.row.ed r38 (by decide);simpa using this.symm)
 have r79:=r78.ab k9 (by
  have:=h8.core.row.ed r78 (by decide);simpa using this.symm)
 have kk9:=qW.trans (Aa.jl (N:=N) (by simp[Cr.own]) k9);clear h8 r28 r38 r78 qW r9 k9;refine⟨⟨r29,r39,r79⟩,?_⟩;conv=>whnf
 refine CW.held (fun w'=>Row w' x2 85 1 (fun _=>.pointer (some ⟨N.k,0,none⟩))/\Row w' x3 3 1 (fun _=>.int .i64 o)/\w'.cell? ⟨N.k,2,none⟩=some (.pointer (some ⟨N.a,0,none⟩))) [] (.take 0 (.take 1 (.take 2 (.take 3 (.take 4 (.one 5 (.take 6 (.done)))))))) ai (by kernel_rfl) (by kernel_rfl) (by kernel_rfl) ?_ ?_
 ·exact⟨Row.drewN r29 1,Row.drewN r39 1,(h9.aj ((Aa.refl [] w9).drewN 1)).core.c2⟩
 have q9:=(Aa.refl [] w9).drewN 1;have vX:=h9.aj q9;have aiM:=r29.ab q9 (by simp);have aiN:=r39.ab q9 (by simp);have qP:=kk9.trans (Aa.eh (N:=N) q9);clear h9 r29 r39 kk9 q9;generalize w9.drewN 1=tP at *;conv=>whnf
 repeat ((first|(refine Ag.of (fun _ h=>h.1.cell 0 (by omega)) ?_)|(refine Ag.of (fun _ h=>h.2.1.cell 0 (by omega)) ?_)|(refine Ag.of (fun _ h=>h.2.2) ?_));conv=>whnf)
 refine Ca.of (aa8 vX.core.map o (by omega) h2 h1) ?_;rintro _ zc ⟨rfl,r11,jJ⟩;have sP:=vX.map jJ r11;refine⟨⟨aiM.ab jJ (by
  have:=Row.ed vX.core.map aiM (by decide);simpa using this.symm),aiN.ab jJ (by
  have:=Row.ed vX.core.map aiN (by decide);simpa using this.symm),sP.core.c2⟩,?_⟩
 conv=>whnf
 exact⟨rfl,qP.trans (Aa.jl (by simp[Cr.own]) jJ),.inl ⟨_,P7,b7,n7,wM,sP,.inl ⟨rfl,K1,P1,L,rfl⟩⟩⟩
end
structure Aq(q:List Nat):Prop where
 nd:q.Nodup
 lt:∀x,x∈q->x<12
theorem abU:∀ {n:Nat} {l:List Nat},l.Nodup->(∀x,x∈l->x<n)->l.length<=n
 | 0,l,_,h=>by
  cases l with
  |nil=>exact Nat.le_refl _
  |cons x xs=>exact absurd (h x (List.mem_cons_self ..)) (by omega)
 | n+1,l,hn,h=>by
  have h1:=gu (n:=n) hn
  have h2:=abU (n:=n) (l:=l.filter (· ≠ n)) (hn.filter _) (fun x hx=>by
   obtain⟨m1,m2⟩:=List.mem_filter.1 hx;have:=h x m1;have:x≠n:=by simpa using m2
   omega)
  omega
theorem Aq.len{q:List Nat}(h:Aq q):q.length<=12:=abU h.nd h.lt
theorem Aq.nil:Aq []:=⟨List.nodup_nil,fun _ h=>by cases h⟩
theorem Aq.add{q:List Nat}(h:Aq q){b:Nat}(hb:b<12):Aq (sx q b):=by
 unfold sx;split
 ·exact h
 ·rename_i hn
  refine⟨?_,fun x hx=>?_⟩
  ·rw[List.nodup_append];refine⟨h.nd,by simp,fun x hx y hy=>?_⟩;rw[List.mem_singleton.1 hy];intro e;exact hn (e ▸ hx)
  ·rcases List.mem_append.1 hx with hx|hx
   ·exact h.lt x hx
   ·rw[List.mem_singleton.1 hx];exact hb
theorem Aq.tail{q:List Nat}{v:Nat}(h:Aq (v::q)):v<12/\Aq q:=⟨h.lt v (List.mem_cons_self ..),(List.nodup_cons.1 h.nd).2,fun x hx=>h.lt x (List.mem_cons_of_mem _ hx)⟩
section
variable{w w':World}{N:Cr}{K:KS}{X:Option Addr}{c:Nat}{P:CS}{b:Option Nat}{n:Int}{a:Nat->Nat->Nat}{k:Cp}
def Seen(N:Cr)(X:Option Addr)(K:KS)(P:CS)(b:Option Nat)(w w':World):Prop:=∃F q Y d n',On w' N { K with F:=F,qu:=q } P b n' Y d/\Hl.HB F/\Aq q/\Aa (N.all++aK X) w w'/\∀x,x∈aK Y->x∈aK X\/w.heap.size<=x
theorem Seen.aj{w2:World}(h:Seen N X K P b w w')(k:Aa [] w' w2):Seen N X K P b w w2:=by
 obtain⟨F,q,Y,d,n',h1,h2,h3,h4,h5⟩:=h;exact⟨F,q,Y,d,n',h1.aj k,h2,h3,h4.trans (k.mono (by simp)),h5⟩
theorem Seen.first{w0:World}(h:Seen N X K P b w w')(k:Aa N.all w0 w):Seen N X K P b w0 w':=by
 obtain⟨F,q,Y,d,n',h1,h2,h3,h4,h5⟩:=h;refine⟨F,q,Y,d,n',h1,h2,h3,(k.mono (fun x hx=>List.mem_append_left _ hx)).trans h4,fun x hx=>?_⟩;rcases h5 x hx with e|e
 ·exact .inl e
 ·exact .inr (Nat.le_trans k.size e)
theorem aeJ(h:On w N K P b n X c){p:Nat}(hp:p<96)(hl:K.ow p<=25)(B:Hl.HB K.F)(hq:Aq K.qu){R:AR}{dv:Value}(hs:K.ow p≠0->R.sound=true) :
  Spec Tryz.prog 70 #[.pointer (some ⟨N.k,0,none⟩),.int .i64 p,agg 9 (rR R.tagged R.tag R.sound dv (R.iU:Nat))] w fun v w'=>v=.tuple #[]/\Seen N X K P b w w':=by
 refine spec_of_wpE (T:=tt) ai func70 rfl (by decide +kernel) ntmps70 (by simp) ?_;conv=>whnf
 refine Ru.dr ?_;intro x5 w1 hx5 dj r5 k1;have h1:=h.aj k1;conv=>whnf
 repeat ((first|(refine Ld.of h1.core.c2 ?_)|refine CW.s ?_);conv=>whnf)
 refine Ca.of (xF h1.core.map p hp hl) ?_;rintro _ _ ⟨rfl,rfl⟩;by_cases h0:K.ow p=0
 ·rw[if_pos h0];conv=>whnf
  repeat ((first|refine Br.t ?_|refine Pk.t ?_|refine Ru.n1 ?_);conv=>whnf)
  exact⟨rfl,rfl,K.F,K.qu,X,c,n,h1,B,hq,k1.mono (by simp),fun x hx=>.inl hx⟩
 ·rw[if_neg h0];have hs:=hs h0;have p6:w1.cell? ⟨x5,6,none⟩=some (.bool R.sound):=r5.cell 6 (by omega);have p8:w1.cell? ⟨x5,8,none⟩=some (.int .i64 (R.iU:Nat)):=r5.cell 8 (by omega);rw[hs] at p6;by_cases hd:R.iU<2
  ·conv=>whnf
   repeat ((first|(refine Ld.at (by omega) p6 ?_)|(refine Ld.at (by omega) p8 ?_)|refine Br.t ?_|refine Br.f ?_|refine Pk.f ?_|refine Pk.t ?_|refine Br.y ?_|refine Ru.ak ?_);conv=>whnf)
   exact⟨rfl,rfl,K.F,K.qu,X,c,n,h1,B,hq,k1.mono (by simp),fun x hx=>.inl hx⟩
  ·conv=>whnf
   repeat ((first|(refine Ld.at (by omega) p6 ?_)|(refine Ld.at (by omega) p8 ?_)|(refine Ld.of h1.core.c4 ?_)|(refine Dv.q ?_)|refine Br.t ?_|refine Br.f ?_|refine Pk.f ?_|refine Pk.t ?_|refine Br.n ?_|refine Ru.ak ?_);conv=>whnf)
   rw[show((p:Int)/8)=((p/8:Nat):Int) by omega];refine Ca.of (Hl.afz _ N.e _ h1.core.aH B (p/8) (by omega)) ?_;rintro _ w2 ⟨rfl,r2,k2⟩;have h2:=h1.aH k2 r2;have v8:=h2.u4;conv=>whnf
   refine Ca.of (zC v8 (by omega) (by decide) hq.len (p/8) (by omega)) ?_;rintro _ w3 ⟨rfl,yb⟩;obtain⟨Y,d,h3,k3,hY⟩:=h2.queue yb;conv=>whnf
   refine⟨rfl,rfl,Hl.rpF K.F (p/8),sx K.qu (p/8),Y,d,n,h3,B.rp (by omega),hq.add (by omega),?_,fun x hx=>?_⟩
   ·refine((k1.mono (by simp)).trans (k2.mono (fun x hx=>?_))).trans (k3.mono (fun x hx=>?_))
    ·rw[List.mem_singleton.1 hx];exact List.mem_append_left _ (bg (by simp[Cr.own]))
    ·rcases List.mem_cons.1 hx with e|e
     ·rw[e];exact List.mem_append_left _ (bg (by simp[Cr.own]))
     ·exact List.mem_append_right _ e
   ·have s1:=k1.size;have s2:=k2.size;rcases hY x hx with e|e
    ·exact .inl e
    ·exact .inr (by omega)
theorem abV(h:On w N K P b n X c)(B:Hl.HB K.F)(nM:Aq K.qu){o:Nat}(ho:o<24)(h0:K.at_ o≠0)(h96:K.at_ o<=96)(hl:K.ow (K.at_ o-1)<=25){t:Tg}{D:Nat->Nat}(hp:P.pg (K.at_ o-1)=.full t D)(wF:t.of=o)(hen:K.en o=⟨t.seq,t.copy,false⟩) :
  Spec Tryz.prog 46 #[.pointer (some ⟨N.k,0,none⟩),.int .i64 o] w fun v w'=>∃Y e,v=.tuple #[.slice Y 160 e,al 0]/\B5 w w' Y 160 e D/\Seen N X K (P.bC (K.at_ o-1)) b w w':=by
 refine spec_of_wpE (T:=tt) ai func46 rfl (by decide +kernel) ntmps46 (by simp) ?_;conv=>whnf
 repeat ((first|(refine Ld.of h.core.c2 ?_)|refine Br.f ?_|refine Pk.f ?_|refine Br.n ?_|refine CW.s ?_);conv=>whnf)
 refine Ca.of (iW h.core.map o (by omega) (by omega)) ?_;rintro _ _ ⟨rfl,rfl⟩;rw[if_neg h0];have ee:∀j,j<3->bZ N K X c (7+3*o+j)=(⟨t.seq,t.copy,false⟩:En).cell j:=fun j hj=>by rw[iL (by omega) hj,hen]
 have mb:K.at_ o-1<96:=by omega
 generalize K.at_ o-1=p at *;conv=>whnf
 repeat ((first|(refine Ix.of o (by omega) (by omega) ?_)|refine Br.f ?_|refine Ru.ak ?_|refine CW.s ?_);conv=>whnf)
 rw[show 0+7+o*3=7+3*o by omega];refine Ru.cx (q:=(⟨t.seq,t.copy,false⟩:En).cell) h.core.row underlying140 rfl dK (by omega) (fun j hj=>ee j hj) ?_;conv=>whnf
 refine Ru.aE (ks w) ?_;intro x8 w1 hx8 dj r8 k1;conv=>whnf
 refine Ru.im r8 dK (by omega) (fun j hj=>En.bj _) ?_;intro w2 r82 k2;have r82:Row w2 x8 140 3 (⟨t.seq,t.copy,false⟩:En).cell:=r82.congr (fun j hj=>by unfold lay;rw[if_pos (by omega),Nat.sub_zero]);have q2:Aa [] w w2:=k1.then k2 (fun x hx=>.inr (by rw[List.mem_singleton.1 hx,hx8];exact Nat.le_refl _));have h2:=h.aj q2;have s0:w2.cell? ⟨x8,0,none⟩=some (.int .i64 t.seq):=r82.cell 0 (by omega);have s2:w2.cell? ⟨x8,2,none⟩=some (.bool false):=r82.cell 2 (by omega);clear k1 r8 k2 dj w1;conv=>whnf
 repeat ((first|(refine Ld.at (by omega) s2 ?_)|refine Br.f ?_|refine CW.s ?_);conv=>whnf)
 refine Ca.of (kj h2 B mb) ?_;rintro _ w3 ⟨R,dv,hR,jn,rfl,h3,k3⟩;unfold AA at hR;rw[hp] at hR;obtain⟨hR1,rfl,hR3,hR4,hR5⟩:=hR;have bW:x8∉N.all:=fun hm=>by
  have h4:x8<w.heap.size:=by
   rcases List.mem_append.1 hm with hm|hm
   ·exact h.core.lt (List.mem_append_left _ hm)
   ·exact h.gn _ hm
  omega
 have r83:=r82.ab k3 bW;have bG:=(Aa.eh (N:=N) q2).trans k3;have gg:=k3.size;have gO:=q2.size;conv=>whnf
 refine Ru.aE (cr w3) ?_;intro x9 w4 hx9 qB r9 k4;conv=>whnf
 refine Ru.eW r9 (iZ R jn _) ?_;intro w5 sX k5;have q5:Aa [] w3 w5:=k4.then k5 (fun x hx=>.inr (by rw[List.mem_singleton.1 hx,hx9];exact Nat.le_refl _));have h5:=h3.aj q5;have r85:=r83.ab q5 (by simp);have dL:=bG.trans (Aa.eh (N:=N) q5);have aiD:=jn.ab q5 (by simp);clear k4 k5 q5 h3 r83 r9 qB w4;conv=>whnf
 repeat ((first|refine Br.f ?_|refine Ru.ak ?_|refine CW.s ?_);conv=>whnf)
 refine Ru.ew sX ?_;refine Ca.of (aeJ h5 mb hl (B.rd (by omega)) nM (fun _=>hR3)) ?_;rintro _ w6 ⟨rfl,S6⟩;have S6:Seen N X K (P.bC p) b w5 w6:=by
  obtain⟨F,q,Y,d,n',z⟩:=S6;exact⟨F,q,Y,d,n',z⟩
 have k6:Aa (N.all++aK X) w5 w6:=by
  obtain⟨F,q,Y,d,n',_,_,_,z,_⟩:=S6;exact z
 have SS:=S6.first dL;have ajJ:∀x,w.heap.size<=x->x∉N.all++aK X:=fun x hx hm=>by
  rcases List.mem_append.1 hm with hm|hm
  ·rcases List.mem_append.1 hm with hm|hm
   ·have:=h.core.lt (List.mem_append_left _ hm);omega
   ·have:=h.gn _ hm;omega
  ·have:=h.core.lt (List.mem_append_right _ hm);omega
 have r86:=r85.ab k6 (ajJ _ (by omega));have r96:=sX.ab k6 (ajJ _ (by omega));have anL:=aiD.ab k6 (fun x hx=>Classical.byContradiction fun hn=>ajJ x (by omega) hx);have arz:=SS.elim fun F ⟨q,Y,d,n',_,_,_,z,_⟩=>z.size;rcases anL with⟨-,O,oc,rfl,hO,lyO⟩|⟨hs,-⟩
 case inr=>rw[hR3] at hs;cases hs
 have p1:w6.cell? ⟨x9,2,none⟩=some (.int .i64 R.tag.of):=r96.cell 2 (by omega);have p2:w6.cell? ⟨x9,3,none⟩=some (.int .i64 R.tag.seq):=r96.cell 3 (by omega);have p3:w6.cell? ⟨x9,6,none⟩=some (.bool R.sound):=r96.cell 6 (by omega);have p4:w6.cell? ⟨x9,7,none⟩=some (.slice O 174 oc):=r96.cell 7 (by omega);have s0:w6.cell? ⟨x8,0,none⟩=some (.int .i64 R.tag.seq):=r86.cell 0 (by omega);rw[wF] at p1;rw[hR3] at p3;conv=>whnf
 repeat ((first|(refine Ld.at (by omega) p4 ?_)|(refine Ld.at (by omega) p1 ?_)|(refine Ld.at (by omega) p2 ?_)|(refine Ld.at (by omega) p3 ?_)|(refine Ld.at (by omega) s0 ?_)|refine Br.f ?_|refine Pk.f ?_|refine Br.ny ?_|refine CW.s ?_);conv=>whnf)
 have zD:=lyO.rd;rw[Nat.mul_one] at zD;obtain⟨g,oo,rfl,hc⟩:=zD (by omega);have uK:174<=oc:=lyO.1;have anM:Rd w6 (some ⟨g,oo,none⟩) 160 (fun j=>.int .u8 (D j:Nat)):=fun _=>⟨g,oo,rfl,fun j hj=>by
  rw[hc j (by omega), <-hR4];unfold cm;simp only[if_pos (show j<174 by omega)]⟩
 refine Ru.ae6 underlying37 (by kernel_rfl) (h:=160) (by omega) ?_;conv=>whnf
 refine Ca.of (xZ ⟨g,oo,none⟩ 160 oc D w6 anM (by omega) (by omega)) ?_;rintro _ w7 ⟨Y,e,rfl,hY,k7⟩;conv=>whnf
 exact⟨rfl,Y,e,rfl,⟨hY.ly,fun x hx=>Nat.le_trans arz (hY.new x hx)⟩,SS.aj k7⟩
end
structure CC(a:Nat->Nat->Nat)(K:KS)(P:CS)(K':KS)(P':CS):Prop where
 w:∃k,Wi a k K' P'
 may:∀B,P'.may B->P.may B
 c3:au K.st 3<=au K'.st 3
 nx:K'.next-4*(au K'.st 3:Nat)<=K.next-4*(au K.st 3:Nat)+1
 le:K.next<=K'.next
 qu:K'.qu=K.qu
 cur:K'.cur=K.cur
 rm:AF K P->K.next+120<=1099511627775->AF K' P'
section
variable{a:Nat->Nat->Nat}{K K1 K':KS}{P P1 P':CS}
theorem CB.n(h:CB a K P K' P'):CC a K P K' P':=⟨h.w,h.may,h.c3,h.nx,h.le,h.qu,h.cur,fun R hn=>(h.rm R hn).elim⟩
theorem Bq.n(I:Bq a K P K1 P1){a':Nat->Nat->Nat}(h:∃k,Wi a' k K' P')(hm:∀B,P'.may B->P1.may B)(e1:K'.st=K1.st)(e2:K'.next=K1.next+1)(e3:K'.qu=K1.qu)(e4:K'.cur=K1.cur)(e5:K'.fo=K1.fo)(e6:K'.fb=K1.fb):CC a' K P K' P':=by
 have:=I.nx;have:=I.le;exact⟨h,fun B x=>I.may B (hm B x),by rw[e1];exact I.c3,by rw[e1,e2];omega,by rw[e2];omega,e3.trans I.qu,e4.trans I.cur,fun R hn=>(I.rm R hn).same e1 e5 e6 hm⟩
theorem Cc.vH(L:Cc a 24 aW K P K1 P1 K' P'):CC a K P K' P':=by
 obtain⟨k1,W1⟩:=L.i.w;have hp:=L.pg;rw[show cm (aW (bJ K1) K1.next)=aW (bJ K1) K1.next from gH _] at hp;obtain⟨W,ow,F,calls,e⟩:=W1.vH L.abn L.room L.next L.lk.pg hp;rw[L.eq];exact L.i.n ⟨_,W⟩ L.lk.may (by rw[e]) (by rw[e]) (by rw[e]) (by rw[e]) (by rw[e]) (by rw[e])
theorem ajK(f:Nat->Nat)(K:KS)(s:Int):cm (dO f K s)=dO f K s:=by
 funext j;unfold cm dO;by_cases h:j<174
 ·rw[if_pos h]
 ·rw[if_neg h,if_neg (by omega)]
theorem Cc.put{s:Nat}{f:Nat->Nat}(L:Cc a s (dO f) K P K1 P1 K' P')(hs:s<24)(hf:∀j,f j<256):CC (gV a s f) K P K' P':=by
 obtain⟨k1,W1⟩:=L.i.w;have hp:=L.pg;rw[ajK] at hp;obtain⟨W,ow,F,calls,e⟩:=W1.put hs L.room L.next hf L.lk.pg hp;rw[L.eq];exact L.i.n ⟨_,W⟩ L.lk.may (by rw[e]) (by rw[e]) (by rw[e]) (by rw[e]) (by rw[e]) (by rw[e])
theorem an9(K1:KS)(of:Nat):(cB K1 of).st=K1.st/\(cB K1 of).next=K1.next+1/\(cB K1 of).qu=K1.qu/\(cB K1 of).cur=K1.cur/\(cB K1 of).fo=K1.fo/\(cB K1 of).fb=K1.fb:=by
 unfold cB anK;split
 ·exact⟨rfl,rfl,rfl,rfl,rfl,rfl⟩
 ·exact⟨rfl,rfl,rfl,rfl,rfl,rfl⟩
theorem Cc.trimmed{o:Nat}(L:Cc a 24 (dy o (K.en o).seq) K P K1 P1 (cB K1 24) P')(ho:o<24)(h0:K.at_ o≠0):CC (gV a o (fun _=>0)) K P (zL (sY (cB K1 24) o (K.en o).seq) o) P':=by
 obtain⟨k1,W1⟩:=L.i.w;obtain⟨t1,t2⟩:=L.i.tg o ho h0;have hp:=L.pg;rw[show cm (dy o (K.en o).seq (bJ K1) K1.next)=dy o (K.en o).seq (bJ K1) K1.next from gH _] at hp;rw[<-t2] at hp ⊢;have W:=W1.trimmed L.abn ho t1 L.room L.next L.lk.pg hp;obtain⟨e1,e2,e3,e4,e5,e6⟩:=an9 K1 24;exact L.i.n ⟨_,W⟩ L.lk.may e1 e2 e3 e4 e5 e6
structure BE(a:Nat->Nat->Nat)(K:KS)(P:CS)(K':KS)(P':CS):Prop where
 w:∃k,Wi a k K' P'
 may:∀B,P'.may B->P.may B
 c3:au K.st 3<=au K'.st 3
 nx:K'.next-4*(au K'.st 3:Nat)<=K.next-4*(au K.st 3:Nat)
 le:K.next<=K'.next
 qo:Aq K'.qu
 rm:AF K P->(∀B,B<12->¬P.may B)->K.next+200<=1099511627775->AF K' P'
structure CD(a:Nat->Nat->Nat)(K:KS)(P:CS)(K':KS)(P':CS):Prop where
 w:∃k,Wi a k K' P'
 may:∀B,P'.may B->P.may B
 c3:au K.st 3<=au K'.st 3
 nx:K'.next-4*(au K'.st 3:Nat)<=K.next-4*(au K.st 3:Nat)+1
 le:K.next<=K'.next
 qu:K'.qu=[]
 rm:AF K P->(∀B,B<12->¬P.may B)->K.next+200<=1099511627775->AF K' P'
theorem BE.e(I:BE a K P K1 P1)(hq:K1.qu=[]):CD a K P K1 P1:=⟨I.w,I.may,I.c3,by have:=I.nx;omega,I.le,hq,I.rm⟩
theorem BE.note(I:BE a K P K1 P1)(hq:K1.qu=[])(L:CC a K1 P1 K' P'):CD a K P K' P':=by
 have h1:=I.nx;have h2:=L.nx;have h3:=I.le;have h4:=L.le;refine⟨L.w,fun B h=>I.may B (L.may B h),Nat.le_trans I.c3 L.c3,by omega,by omega,L.qu.trans hq,fun R hm hn=>L.rm (I.rm R hm hn) ?_⟩;have:au K1.st 3<=12:=de _ _ _;omega
theorem BE.pop(I:BE a K P K1 P1){v:Nat}{t:List Nat}(hq:K1.qu=v::t):BE a K P (dC K1 t) P1:=by
 obtain⟨k,W⟩:=I.w;have:=I.qo;rw[hq] at this;exact⟨⟨k,W.same rfl W.hb W.cur rfl⟩,I.may,I.c3,I.nx,I.le,this.tail.2,fun R hm hn=>(I.rm R hm hn).same rfl rfl rfl (fun _ x=>x)⟩
theorem BE.vac(I:BE a K P K1 P1){v:Nat}{r:Bool}{e:Int}(V:AX a v false r K1 P1 K' P' e)(x:Nat):BE a K P K' P'/\BE a K P (mdK K' x) P':=by
 have hc:au K1.st 3<=au K'.st 3:=iE V.jh;have h1:=I.nx;have h2:=V.nx;have rm:AF K P->(∀B,B<12->¬P.may B)->K.next+200<=1099511627775->AF K' P':=fun R hm hn=>by
  have:au K1.st 3<=12:=de _ _ _;exact(V.room _ ((I.rm R hm hn).to (by omega)) (fun x=>by cases x) (fun _ B hB h=>hm B hB (I.may B h))).2.1.to0
 obtain⟨k,W⟩:=V.w;have T:BE a K P K' P':=⟨⟨k,W⟩,fun B h=>I.may B (V.may B h),Nat.le_trans I.c3 hc,by omega,Int.le_trans I.le V.le,by rw[V.qu];exact I.qo,rm⟩;exact⟨T,⟨⟨k,W.same rfl W.hb W.cur rfl⟩,T.may,T.c3,T.nx,T.le,T.qo,fun R hm hn=>(rm R hm hn).same rfl rfl rfl (fun _ x=>x)⟩⟩
theorem Wi.holds{k:Cp}(W:Wi a k K P)(hw:ax K.st=false){v:Nat}(hl:lv K.at_ v≠0):K.st v=2\/K.fo=true/\K.fb=v:=by
 obtain⟨o,ho,e1,e2⟩:∃o,o<25/\K.at_ o≠0/\(K.at_ o-1)/8=v:=Classical.byContradiction fun lW=>hl (fw.2 fun o ho e1 e2=>lW ⟨o,ho,e1,e2⟩);have:=W.live hw o ho e1;rw[e2] at this;exact this
end
section
variable{w w':World}{N:Cr}{K:KS}{X:Option Addr}{c:Nat}{P:CS}{b:Option Nat}{n:Int}{a:Nat->Nat->Nat}{k:Cp}
def DA(N:Cr)(X:Option Addr)(b:Option Nat)(w w':World)(ok:KS->CS->Prop)(dead:CS->Prop):Prop :=
 Aa (N.all++aK X) w w'/\((∃K' P' b' n' Y d,(b=none->b'=none)/\On w' N K' P' b' n' Y d/\(∀x,x∈aK Y->x∈aK X\/w.heap.size<=x)/\ok K' P')\/(b≠none/\∃Q n',AW w' N.N Q n'/\dead Q))
theorem ajL(h:On w N K P b n X c)(W:Wi a k K P)(hq:Aq K.qu) :
  Spec Tryz.prog 61 #[.pointer (some ⟨N.k,0,none⟩)] w fun u w'=>DA N X b w w' (fun K' P'=>u=al 0/\CD a K P K' P') (fun Q=>u=al 7/\Tw Q 1099511627775 a):=by
 have bW:∀x,w.heap.size<=x->x∉N.all:=fun x hx hm=>by
  have h3:x<w.heap.size:=by
   rcases List.mem_append.1 hm with hm|hm
   ·exact h.core.lt (List.mem_append_left _ hm)
   ·exact h.gn _ hm
  omega
 have ajJ:∀x,w.heap.size<=x->x∉N.all++aK X:=fun x hx hm=>by
  rcases List.mem_append.1 hm with hm|hm
  ·exact bW x hx hm
  ·have:=h.core.lt (List.mem_append_right _ hm);omega
 have uB:=W.cur;refine spec_of_wpE (T:=tt) ai func61 rfl (by decide +kernel) ntmps61 (by simp) ?_;conv=>whnf
 repeat ((first|(refine Ld.of h.core.c5 ?_)|refine CW.s ?_);conv=>whnf)
 refine Ca.of (abd h.core.pat uB) ?_;rintro _ w1 ⟨g,rfl,rg,hg,rp,k1⟩;have h1:On w1 N { ptK K with F:=K.F,qu:=K.qu } (qU K P 0) b n X c:=h.pat k1 rp;have kk1:Aa (N.all++aK X) w w1:=k1.mono (fun x hx=>by rw[List.mem_singleton.1 hx];exact List.mem_append_left _ (bg (by simp[Cr.own])));conv=>whnf
 refine CW.loop (ι:=Nat×Int×(Nat->Int)×List Nat×Option Addr×Nat) (fun i w'=>i.1<=8/\On w' N { ptK K with F:=i.2.2.1,qu:=i.2.2.2.1 } (qU K P i.1) b i.2.1 i.2.2.2.2.1 i.2.2.2.2.2/\Hl.HB i.2.2.1/\Aq i.2.2.2.1/\Row w' g 3 8 (fun j=>.int .i64 (((K.cur+j)%96:Nat):Int))/\Aa (N.all++aK X) w w'/\(g∉aK i.2.2.2.2.1)/\∀x,x∈aK i.2.2.2.2.1->x∈aK X\/w.heap.size<=x)
  (fun i=>[(0,.pointer (some ⟨N.k,0,none⟩)),(22,.slice (some ⟨g,0,none⟩) 8 8),(23,.int .i64 8),(24,.int .i64 i.1)]) (fun i=>8-i.1) (0,n,K.F,K.qu,X,c) ai ⟨by simp,h1,W.hb,hq,rg,kk1,fun hm=>ajJ g hg (List.mem_append_right _ hm),fun x hx=>.inl hx⟩ ⟨rfl,rfl,rfl,rfl,trivial⟩ ?_;clear h1 rg rp k1 kk1;rintro⟨i,n1,F1,q1,X1,c1⟩ wr ⟨hi,hr,hB,hQ,rg,kk,vU,wI⟩;simp only at hi hr hB hQ rg kk vU wI ⊢;by_cases av:i<8
 ·have bA:=u3 K P i;have hp:(K.cur+i)%96<96:=Nat.mod_lt _ (by omega);have zM:K.ow ((K.cur+i)%96)<=25:=W.eZ.mw.lo _ hp;have ci:=rg.cell i av;have arQ:∀x,wr.heap.size<=x->x∉N.all++aK X1:=fun x hx hm=>by
   have s1:=kk.size;rcases List.mem_append.1 hm with hm|hm
   ·exact bW x (by omega) hm
   ·have:=hr.core.lt (List.mem_append_right _ hm);omega
  conv=>whnf
  repeat ((first|(refine Ld.at (by omega) ci ?_)|refine Ix.n ?_|refine Br.y ?_|refine CW.s ?_);conv=>whnf)
  refine Ca.of (kj hr hB hp) ?_;rintro _ w3 ⟨R,dv,hR,jn,rfl,h3,k3⟩;have rg3:=rg.ab k3 (bW g hg);have bG:=kk.trans (k3.mono (fun x hx=>List.mem_append_left _ hx));conv=>whnf
  refine Ru.aE (cr w3) ?_;intro x9 w4 hx9 qB r9 k4;conv=>whnf
  refine Ru.eW r9 (iZ R jn _) ?_;intro w5 sX k5;have q5:Aa [] w3 w5:=k4.then k5 (fun x hx=>.inr (by rw[List.mem_singleton.1 hx,hx9];exact Nat.le_refl _));have h5:=h3.aj q5;have rg5:=rg3.ab q5 (by simp);have dL:=bG.trans (q5.mono (by simp));clear k4 k5 q5 h3 rg3 r9 qB w4;conv=>whnf
  repeat ((first|refine Br.f ?_|refine Ru.ak ?_|refine CW.s ?_);conv=>whnf)
  refine Ru.ew sX ?_
  refine Ca.of (aeJ h5 hp zM (hB.rd (by omega)) hQ (fun h0=>by
   have h0:K.ow ((K.cur+i)%96)≠0:=h0;obtain⟨y1,y2⟩:=W.eZ.o _ hp h0;obtain⟨_,t,D,e1,_⟩:=W.cI (o:=K.ow ((K.cur+i)%96)-1) (by omega) (by omega);rw[y2,Nat.add_sub_cancel] at e1;unfold AA at hR;rw[bA.1,e1] at hR;exact hR.2.2.1)) ?_
  rintro _ w6 ⟨rfl,F6,q6,Y6,d6,n6,h6,hB6,hQ6,k6,hY6⟩;have s5:wr.heap.size<=w5.heap.size:=by
   have:=k3.size;have:=(Aa.refl [] w5).size;have h35:w3.heap.size<=w5.heap.size:=by
    rw[<-hx9];have:=sX.lt;omega
   omega
  have hXX:∀x,x∈N.all++aK X1->x∈N.all++aK X\/w.heap.size<=x:=fun x hx=>by
   rcases List.mem_append.1 hx with hx|hx
   ·exact .inl (List.mem_append_left _ hx)
   ·rcases wI x hx with e|e
    ·exact .inl (List.mem_append_right _ e)
    ·exact .inr e
  have rg6:=rg5.ab k6 (fun hm=>by
   rcases List.mem_append.1 hm with hm|hm
   ·exact bW g hg hm
   ·exact vU hm)
  have qz:=rg.lt;conv=>whnf
  repeat (refine Ar.la ?_;conv=>whnf)
  exact⟨(i+1,n6,F6,q6,Y6,d6),⟨av,h6,hB6,hQ6,rg6,dL.then k6 hXX,fun hm=>by
   rcases hY6 g hm with e|e
   ·exact vU e
   ·omega,fun x hx=>by
   rcases hY6 x hx with e|e
   ·exact wI x e
   ·exact .inr (by have:=kk.size;omega)⟩,⟨rfl,rfl,rfl,vi (by simp only;omega),trivial⟩,by simp only;omega⟩
 obtain rfl:i=8:=by omega
 have bA:=u3 K P 8;have tdm:∀i B,(qU K P i).may B->P.may B:=fun i B hm=>by
  induction i with
  |zero=>exact hm
  |succ i ih=>exact ih hm
 have I8:∀q,Aq q->BE a K P { ptK K with F:=F1,qu:=q } (qU K P 8):=fun q hq=>⟨⟨k,W.same bA.1 hB (Nat.mod_lt _ (by omega)) rfl⟩,tdm 8,Nat.le_refl _,Int.le_refl _,Int.le_refl _,hq,fun R _ _=>R.same rfl rfl rfl (tdm 8)⟩
 conv=>whnf
 repeat ((first|(refine Ld.of hr.core.c2 ?_)|refine Br.f ?_|refine CW.s ?_);conv=>whnf)
 refine Ca.of (fj hr.core.map (fun o ho=>W.lt ho)) ?_;rintro _ w2 ⟨g2,rfl,rg2,hg2,k2⟩;have h2:=hr.aj k2;have dh:Aa (N.all++aK X) w w2:=kk.trans (k2.mono (by simp));have aiI:w.heap.size<=g2:=Nat.le_trans kk.size hg2;have aiJ:g2∉aK X1:=fun hm=>by
  have:=hr.core.lt (List.mem_append_right _ hm);omega
 clear hr rg kk k2 vU;generalize qU K P 8=P8 at *;conv=>whnf
 refine CW.loop (ι:=Nat×List Nat×Option Addr×Nat) (fun i w'=>i.1<=12/\On w' N { ptK K with F:=F1,qu:=i.2.1 } P8 b n1 i.2.2.1 i.2.2.2/\Aq i.2.1/\Row w' g2 3 12 (fun b=>.int .i64 (lv K.at_ b:Nat))/\Aa (N.all++aK X) w w'/\g2∉aK i.2.2.1/\∀x,x∈aK i.2.2.1->x∈aK X\/w.heap.size<=x)
  (fun i=>[(0,.pointer (some ⟨N.k,0,none⟩)),(46,.slice (some ⟨g2,0,none⟩) 12 12),(47,.int .i64 12),(48,.int .i64 i.1)]) (fun i=>12-i.1) (0,q1,X1,c1) ai ⟨by simp,h2,hQ,rg2,dh,aiJ,wI⟩ ⟨rfl,rfl,rfl,rfl,trivial⟩ ?_;clear h2 rg2 dh wI aiJ hQ;rintro⟨i,q2,X2,c2⟩ wr ⟨hi,hr,hQ,rg,kk,vU,wI⟩;simp only at hi hr hQ rg kk vU wI ⊢;by_cases av:i<12
 ·have ci:=rg.cell i av;have v8:=hr.u4;conv=>whnf
  repeat ((first|(refine Ld.at (by omega) ci ?_)|(refine Ld.of hr.core.c4 ?_)|refine Ix.n ?_|refine Br.y ?_|refine CW.s ?_);conv=>whnf)
  refine Ca.of (Hl.aa9 wr N.e _ hr.core.aH i av) ?_;rintro _ _ ⟨rfl,rfl⟩;by_cases h1:F1 i≥512
  ·have nR:decide (({ ptK K with F:=F1,qu:=q2 }:KS).F i≥512)=true:=decide_eq_true h1;rw[nR];by_cases h2:0<lv K.at_ i
   ·conv=>whnf
    repeat ((first|refine Br.t ?_|refine Pk.t ?_|refine Br.y ?_);conv=>whnf)
    refine Ca.of (zC v8 (by omega) (by decide) hQ.len i av) ?_;rintro _ w3 ⟨rfl,yb⟩;obtain⟨Y,d,h3,k3,hY⟩:=hr.queue yb;have rg3:=rg.ab k3 (fun hm=>by
     rcases List.mem_cons.1 hm with e|hm
     ·exact bW g2 aiI (bg (by simp[Cr.own,e]))
     ·exact vU hm)
    have qz:=rg.lt;conv=>whnf
    repeat (refine Ar.la ?_;conv=>whnf)
    refine⟨(i+1,sx q2 i,Y,d),⟨av,h3,hQ.add av,rg3,?_,fun hm=>by rcases hY g2 hm with h|h;exact vU h;omega,?_⟩,⟨rfl,rfl,rfl,vi (by simp only;omega),trivial⟩,by simp only;omega⟩
    ·exact kk.then k3 (fun x hx=>by
      rcases List.mem_cons.1 hx with rfl|hx
      ·exact .inl (List.mem_append_left _ (bg (by simp[Cr.own])))
      ·rcases wI x hx with h|h
       ·exact .inl (List.mem_append_right _ h)
       ·exact .inr h)
    ·intro x hx;rcases hY x hx with h|h
     ·exact wI x h
     ·exact .inr (Nat.le_trans kk.size h)
   ·conv=>whnf
    repeat ((first|refine Br.t ?_|refine Pk.t ?_|refine Ar.la ?_|refine Br.n ?_);conv=>whnf)
    exact⟨(i+1,q2,X2,c2),⟨av,hr,hQ,rg,kk,vU,wI⟩,⟨rfl,rfl,rfl,vi (by simp only;omega),trivial⟩,by simp only;omega⟩
  ·have nR:decide (({ ptK K with F:=F1,qu:=q2 }:KS).F i≥512)=false:=decide_eq_false h1;rw[nR];conv=>whnf
   repeat ((first|refine Br.f ?_|refine Pk.f ?_|refine Ar.la ?_);conv=>whnf)
   exact⟨(i+1,q2,X2,c2),⟨av,hr,hQ,rg,kk,vU,wI⟩,⟨rfl,rfl,rfl,vi (by simp only;omega),trivial⟩,by simp only;omega⟩
 obtain rfl:i=12:=by omega
 have IQ:=I8 q2 hQ;clear rg vU aiI hg2 hi av I8 hQ tdm bA;generalize hKq:({ ptK K with F:=F1,qu:=q2 }:KS)=Kq at *;clear hKq;conv=>whnf
 repeat ((first|refine Br.f ?_|refine CW.s ?_);conv=>whnf)
 refine CW.loop (ι:=KS×CS×Option Nat×Option Addr×Nat×Int) (fun i w'=>(b=none->i.2.2.1=none)/\BE a K P i.1 i.2.1/\On w' N i.1 i.2.1 i.2.2.1 i.2.2.2.2.2 i.2.2.2.1 i.2.2.2.2.1/\Aa (N.all++aK X) w w'/\∀x,x∈aK i.2.2.2.1->x∈aK X\/w.heap.size<=x)
  (fun _=>[(0,.pointer (some ⟨N.k,0,none⟩))]) (fun i=>i.1.qu.length) (Kq,P8,b,X2,c2,n1) ai ⟨id,IQ,hr,kk,wI⟩ ⟨rfl,trivial⟩ ?_;clear hr kk wI IQ;rintro⟨K1,P1,b1,X3,c3,n2⟩ wr ⟨eU,I,hr,kk,hX⟩;simp only at eU I hr kk hX ⊢;obtain⟨k1,W1⟩:=I.w;have v8:=hr.u4;have hQo:=I.qo
 cases qV:K1.qu with
 | nil =>
  rw[qV] at v8;conv=>whnf
  refine Ca.of (uI v8 (by omega)) ?_;rintro _ _ ⟨rfl,rfl⟩;conv=>whnf
  repeat ((first|(refine Ld.of hr.core.c1 ?_)|refine Br.t ?_|refine CW.s ?_);conv=>whnf)
  refine Ca.of (eQ hr.core.aV) ?_;rintro _ _ ⟨rfl,rfl⟩;by_cases hw:ax K1.st=true
  ·rw[hw];conv=>whnf
   repeat ((first|refine Br.t ?_|refine Pk.t ?_);conv=>whnf)
   exact⟨rfl,kk,.inl ⟨K1,P1,b1,n2,X3,c3,eU,hr,hX,rfl,I.e qV⟩⟩
  have hw:ax K1.st=false:=by simpa using hw
  rw[hw];conv=>whnf
  repeat ((first|(refine Ld.of hr.core.c5 ?_)|refine Br.f ?_);conv=>whnf)
  refine Ca.of (aeh hr.core.pat) ?_;rintro _ _ ⟨rfl,rfl⟩;have h3:K1.calls≥8\/(¬K1.calls≥8/\Hl.lz K1.F=true)\/(¬K1.calls≥8/\Hl.lz K1.F=false):=by
   by_cases h8:K1.calls≥8
   ·exact .inl h8
   ·cases hd:Hl.lz K1.F
    ·exact .inr (.inr ⟨h8,rfl⟩)
    ·exact .inr (.inl ⟨h8,rfl⟩)
  rcases h3 with h8|⟨h8,hd⟩|⟨h8,hd⟩
  case' inl =>
   rw[decide_eq_true h8];conv=>whnf
   repeat ((first|refine Br.f ?_|refine Pk.f ?_|refine CW.s ?_);conv=>whnf)
  case' inr.inl =>
   rw[decide_eq_false h8];conv=>whnf
   repeat ((first|(refine Ld.of hr.core.c4 ?_)|refine Br.t ?_|refine Br.f ?_);conv=>whnf)
   refine Ca.of (Hl.zB _ _ _ hr.core.aH W1.hb) ?_;rintro _ _ ⟨rfl,rfl⟩;rw[hd];conv=>whnf
   repeat ((first|refine Br.t ?_|refine Br.f ?_|refine Pk.f ?_|refine Pk.t ?_|refine CW.s ?_);conv=>whnf)
  case' inr.inr =>
   rw[decide_eq_false h8];conv=>whnf
   repeat ((first|(refine Ld.of hr.core.c4 ?_)|refine Br.t ?_|refine Br.f ?_);conv=>whnf)
   refine Ca.of (Hl.zB _ _ _ hr.core.aH W1.hb) ?_;rintro _ _ ⟨rfl,rfl⟩;rw[hd];conv=>whnf
   repeat ((first|refine Br.t ?_|refine Br.f ?_|refine Pk.f ?_|refine Pk.t ?_);conv=>whnf)
   exact⟨rfl,kk,.inl ⟨K1,P1,b1,n2,X3,c3,eU,hr,hX,rfl,I.e qV⟩⟩
  all_goals
   refine Ca.of (abT hr W1) ?_;rintro _ w3 ⟨k3,⟨K3,P3,b3,n3,qm,h3,⟨rfl,K4,P4,L⟩|⟨rfl,E⟩⟩|⟨qm,Q,n3,h3,rfl,ml⟩⟩
   all_goals have bG:=kk.trans (k3.mono (fun x hx=>List.mem_append_left _ hx))
   ·conv=>whnf
    refine Ca.of (aU 0 7 (by decide) _) ?_;rintro _ _ ⟨rfl,rfl⟩;conv=>whnf
    repeat (refine Br.f ?_;conv=>whnf)
    exact⟨rfl,bG,.inl ⟨K3,P3,b3,n3,X3,c3,fun x=>qm (eU x),h3,hX,rfl,I.note qV L.vH⟩⟩
   ·conv=>whnf
    refine Ca.of (aU 14 7 (by decide) _) ?_;rintro _ _ ⟨rfl,rfl⟩;conv=>whnf
    repeat (refine Br.f ?_;conv=>whnf)
    exact⟨rfl,bG,.inl ⟨K3,P3,b3,n3,X3,c3,fun x=>qm (eU x),h3,hX,rfl,I.note qV E.n⟩⟩
   ·conv=>whnf
    refine Ca.of (aU 7 7 (by decide) _) ?_;rintro _ _ ⟨rfl,rfl⟩;conv=>whnf
    repeat (refine Br.t ?_;conv=>whnf)
    exact⟨rfl,bG,.inr ⟨fun x=>qm (eU x),Q,n3,h3,rfl,ml⟩⟩
 | cons v t =>
  have I2:=I.pop qV;rw[qV] at v8 hQo;obtain⟨hv,hQt⟩:=hQo.tail;conv=>whnf
  refine Ca.of (uJ v8 (by omega) (by decide) hQt.len) ?_;rintro _ w3 ⟨rfl,yb⟩;have yb:Bl wr N.k 143 110 6 (bZ N K1 X3 c3) X3 t w3:=yb;obtain⟨Y,d,h3,k3,hY⟩:=hr.queue yb;have bG:=kk.then k3 (fun x hx=>by
   rcases List.mem_cons.1 hx with rfl|hx
   ·exact .inl (List.mem_append_left _ (bg (by simp[Cr.own])))
   ·rcases hX x hx with h|h
    ·exact .inl (List.mem_append_right _ h)
    ·exact .inr h)
  have hY3:∀x,x∈aK Y->x∈aK X\/w.heap.size<=x:=fun x hx=>by
   rcases hY x hx with h|h
   ·exact hX x h
   ·exact .inr (Nat.le_trans kk.size h)
  clear kk hX yb v8 hY k3;conv=>whnf
  repeat ((first|(refine Ld.of h3.core.c2 ?_)|refine Br.f ?_|refine CW.s ?_);conv=>whnf)
  refine Ca.of (fj h3.core.map (fun o ho=>W1.lt ho)) ?_;rintro _ w4 ⟨g4,rfl,rg4,hg4,k4⟩;have h4:On w4 N (dC K1 t) P1 b1 n2 Y d:=h3.aj k4;have bU:=bG.trans (k4.mono (by simp));have c4:w4.cell? ⟨g4,v,none⟩=some (.int .i64 (lv K1.at_ v:Nat)):=rg4.cell v hv;by_cases sO:lv K1.at_ v=0
  ·rw[sO] at c4;conv=>whnf
   repeat ((first|(refine Ld.at (by omega) c4 ?_)|refine Br.t ?_|refine Pk.t ?_|refine Ix.n ?_|refine CW.s ?_);conv=>whnf)
   exact⟨(dC K1 t,P1,b1,Y,d,n2),⟨eU,I2,h4,bU,hY3⟩,⟨rfl,trivial⟩,by simp only[dC,qV,List.length_cons];omega⟩
  conv=>whnf
  repeat ((first|(refine Ld.at (by omega) c4 ?_)|(refine Br.jB (decide_eq_false (by omega)) ?_)|(refine Ld.of h4.core.c1 ?_)|refine Br.f ?_|refine Ix.n ?_|refine CW.s ?_);conv=>whnf)
  refine Ca.of (eQ h4.core.aV) ?_;rintro _ _ ⟨rfl,rfl⟩;by_cases hw:ax K1.st=true
  ·have hw1:ax (dC K1 t).st=true:=hw;rw[hw1];conv=>whnf
   repeat ((first|refine Br.t ?_|refine Pk.f ?_);conv=>whnf)
   exact⟨(dC K1 t,P1,b1,Y,d,n2),⟨eU,I2,h4,bU,hY3⟩,⟨rfl,trivial⟩,by simp only[dC,qV,List.length_cons];omega⟩
  have hw:ax K1.st=false:=by simpa using hw
  have hw1:ax (dC K1 t).st=false:=hw;rw[hw1];conv=>whnf
  repeat ((first|(refine Ld.of h4.core.c4 ?_)|refine Br.f ?_|refine Pk.f ?_);conv=>whnf)
  refine Ca.of (Hl.ad9 _ _ _ h4.core.aH v hv) ?_;rintro _ _ ⟨rfl,rfl⟩;obtain⟨k2',W2⟩:=I2.w;conv=>whnf
  refine Ca.of (zZ h4 W2 hv (W2.holds hw sO) false _) ?_;rintro u w5 ⟨k5,⟨K5,P5,b5,n5,hb5,h5,e5,rfl,V⟩|⟨hb5,Q,n5,h5,rfl,ml⟩⟩
  ·have dL:=bU.trans (k5.mono (fun x hx=>List.mem_append_left _ hx));obtain⟨T1,T2⟩:=I2.vac V (lv K1.at_ v);have nM:K5.qu=t:=V.qu;rcases V.er with rfl|rfl
   ·conv=>whnf
    repeat (refine CW.s ?_;conv=>whnf)
    refine Ca.of (aU 0 7 (by decide) _) ?_;rintro _ _ ⟨rfl,rfl⟩;have anN:w5.cell? ⟨N.k,107,none⟩=some (.int .i64 K5.fu):=h5.core.row.cell 107 (by omega);conv=>whnf
    repeat ((first|(refine Ld.at (by omega) anN ?_)|(refine Ar.tB ?_)|refine Br.t ?_|refine Br.f ?_|refine Ru.bh ?_);conv=>whnf)
    refine Sd.rowAt h5.core.row 107 (by omega) (by omega) rfl ?_;intro w6 r6 k6;have aiK:w6.cell? ⟨N.k,108,none⟩=some (.int .i64 K5.kh):=r6.cell 108 (by omega);conv=>whnf
    repeat ((first|(refine Ld.at (by omega) aiK ?_)|(refine Ar.tB ?_));conv=>whnf)
    refine Sd.rowAt r6 108 (by omega) (by omega) rfl ?_;intro w7 r7 k7;have h7:=h5.row (K':=mdK K5 (lv K1.at_ v)) (k6.trans k7) r7 (fun j hj=>abu _ _ j hj) rfl;conv=>whnf
    refine⟨(mdK K5 (lv K1.at_ v),P5,b5,Y,d,n5),⟨fun x=>hb5 (eU x),T2,h7,dL.trans ((k6.trans k7).mono (fun x hx=>by rw[List.mem_singleton.1 hx];exact List.mem_append_left _ (bg (by simp[Cr.own])))),hY3⟩,⟨rfl,trivial⟩,?_⟩;show K5.qu.length<K1.qu.length;rw[nM,qV];simp
   ·conv=>whnf
    repeat (refine CW.s ?_;conv=>whnf)
    refine Ca.of (aU 14 7 (by decide) _) ?_;rintro _ _ ⟨rfl,rfl⟩;conv=>whnf
    repeat ((first|refine Br.f ?_|refine Ru.e1 ?_);conv=>whnf)
    refine⟨(K5,P5,b5,Y,d,n5),⟨fun x=>hb5 (eU x),T1,h5,dL,hY3⟩,⟨rfl,trivial⟩,?_⟩;show K5.qu.length<K1.qu.length;rw[nM,qV];simp
  ·have dL:=bU.trans (k5.mono (fun x hx=>List.mem_append_left _ hx));conv=>whnf
   repeat (refine CW.s ?_;conv=>whnf)
   refine Ca.of (aU 7 7 (by decide) _) ?_;rintro _ _ ⟨rfl,rfl⟩;conv=>whnf
   repeat (refine Br.t ?_;conv=>whnf)
   exact⟨rfl,dL,.inr ⟨fun x=>hb5 (eU x),Q,n5,h5,rfl,ml⟩⟩
end
structure A3(a:Nat->Nat->Nat)(K:KS)(P:CS)(K':KS)(P':CS):Prop where
 w:∃k,Wi a k K' P'
 may:∀B,P'.may B->P.may B
 c3:au K.st 3<=au K'.st 3
 nx:K'.next-4*(au K'.st 3:Nat)<=K.next-4*(au K.st 3:Nat)+2
 le:K.next<=K'.next
 rm:AF K P->(∀B,B<12->¬P.may B)->K.next+300<=1099511627775->AF K' P'
theorem CC.call{a:Nat->Nat->Nat}{K K1 K':KS}{P P1 P':CS}(L:CC a K P K1 P1)(T:CD a K1 P1 K' P'):A3 a K P K' P':=by
 have h1:=L.nx;have h2:=T.nx;have h3:=L.le;have h4:=T.le;refine⟨T.w,fun B h=>L.may B (T.may B h),Nat.le_trans L.c3 T.c3,by omega,by omega,fun R hm hn=>T.rm (L.rm R (by omega)) (fun B hB h=>hm B hB (L.may B h)) ?_⟩;have:au K1.st 3<=12:=de _ _ _;omega
theorem adA{a:Nat->Nat->Nat}{k:Cp}{K:KS}{P P':CS}(W:Wi a k K P)(bA:P'.pg=P.pg)(hm:∀B,P'.may B->P.may B){F:Nat->Int}(hF:Hl.HB F)(q:List Nat):Wi a k { K with F:=F,qu:=q } P'/\(∀K' DB,CD a { K with F:=F,qu:=q } P' K' DB->A3 a K P K' DB):=by
 have W':Wi a k { K with F:=F,qu:=q } P':=W.same bA hF W.cur rfl;refine⟨W',fun K' DB T=>?_⟩;have h2:=T.nx;exact⟨T.w,fun B h=>hm B (T.may B h),T.c3,by have h2:K'.next-4*(au K'.st 3:Nat)<=K.next-4*(au K.st 3:Nat)+1:=h2;omega,T.le,fun R hmm hn=>T.rm (R.same rfl rfl rfl hm) (fun B hB h=>hmm B hB (hm B h)) (by show K.next+200<=_;omega)⟩
def Av(own:List Nat)(d ch:Nat)(b:Option Nat)(w w':World)(ok:KS->CS->Prop)(dead:CS->Prop):Prop :=
 Aa own w w'/\((∃K' P' b' dW,(b=none->b'=none)/\Ae w' dW d ch K' P' b'/\(∀x,x∈dW->x∈own\/w.heap.size<=x)/\ok K' P')\/(b≠none/\∃Q,A0 w' d ch Q/\dead Q))
theorem Av.mono{own:List Nat}{d ch:Nat}{b:Option Nat}{w w':World}{ok ok':KS->CS->Prop}{dead aaY:CS->Prop}(h:Av own d ch b w w' ok dead)(h1:∀K P,ok K P->ok' K P)(h2:∀Q,dead Q->aaY Q):Av own d ch b w w' ok' aaY:=by
 obtain⟨k,⟨K',P',b',dW,a1,a2,a3,a4⟩|⟨a1,Q,a2,a3⟩⟩:=h
 ·exact⟨k,.inl ⟨K',P',b',dW,a1,a2,a3,h1 _ _ a4⟩⟩
 ·exact⟨k,.inr ⟨a1,Q,a2,h2 _ a3⟩⟩
section
variable{w w':World}{N:Cr}{K:KS}{X Y:Option Addr}{c d ch:Nat}{P:CS}{b:Option Nat}{n:Int}{a:Nat->Nat->Nat}{k:Cp}
theorem gC{e:Int}(he:e=0\/e=14)(r:Ak w d ch (some ⟨N.k,0,none⟩))(h:On w N K P b n X c)(eC:N.N.c=ch)(W:Wi a k K P)(hq:Aq K.qu) :
  Spec Tryz.prog 43 #[.pointer (some ⟨d,0,none⟩),al e] w fun v w'=>Av (d::(N.all++aK X)) d ch b w w' (fun K' P'=>v=al e/\CD a K P K' P') (fun Q=>v=al 7/\Tw Q 1099511627775 a):=by
 have cn:=r.ne h;have c1:w.cell? ⟨d,1,none⟩=some (.pointer (some ⟨N.k,0,none⟩)):=Row.cell r 1 (by omega);rcases he with rfl|rfl
 all_goals
  refine spec_of_wpE (T:=tt) ai func43 rfl (by decide +kernel) ntmps43 (by simp) ?_;conv=>whnf
  repeat (refine CW.s ?_;conv=>whnf)
  refine Ca.of (aU _ 7 (by decide) _) ?_;rintro _ _ ⟨rfl,rfl⟩;conv=>whnf
  repeat ((first|(refine Ld.of c1 ?_)|refine Br.t ?_);conv=>whnf)
  refine Ca.of (ajL h W hq) ?_;rintro _ w1 ⟨k1,⟨K1,P1,b1,n1,Y,e,nR,h1,hY,rfl,T⟩|⟨nR,Q,n1,M1,rfl,ml⟩⟩
  all_goals
   have r1:Ak w1 d ch (some ⟨N.k,0,none⟩):=Row.ab r k1 cn;have kk:Aa (d::(N.all++aK X)) w w1:=k1.mono (fun x hx=>List.mem_cons_of_mem _ hx)
  ·conv=>whnf
   repeat ((first|refine Br.f ?_|refine Ru.ak ?_|refine CW.s ?_);conv=>whnf)
   refine Ca.of (aU _ 7 (by decide) _) ?_;rintro _ _ ⟨rfl,rfl⟩;conv=>whnf
   repeat (refine Br.f ?_;conv=>whnf)
   refine⟨rfl,kk,.inl ⟨K1,P1,b1,_,nR,⟨N,Y,e,n1,rfl,r1,h1,eC,T.qu⟩,fun x hx=>?_,rfl,T⟩⟩;rcases List.mem_cons.1 hx with rfl|hx
   ·exact .inl (List.mem_cons_self ..)
   ·rcases List.mem_append.1 hx with hx|hx
    ·exact .inl (List.mem_cons_of_mem _ (List.mem_append_left _ hx))
    ·rcases hY x hx with h|h
     ·exact .inl (List.mem_cons_of_mem _ (List.mem_append_right _ h))
     ·exact .inr h
  ·conv=>whnf
   repeat ((first|refine Br.t ?_|refine Ru.n1 ?_|refine CW.s ?_);conv=>whnf)
   refine Ca.of (aU 7 7 (by decide) _) ?_;rintro _ _ ⟨rfl,rfl⟩;conv=>whnf
   repeat (refine Br.t ?_;conv=>whnf)
   refine Sd.rowAt r1 1 (by omega) (by omega) rfl ?_;intro w2 r2 k2;have r2:Ak w2 d ch none:=r2.congr (fun j hj=>s6 ch _ _ j hj);conv=>whnf
   obtain⟨C1,M1,D1⟩:=M1;have hcd:N.N.c∉[d]:=fun hm=>cn (by
    rw[<-List.mem_singleton.1 hm];exact List.mem_append_left _ (ja (by simp[Pt.l])))
   exact⟨rfl,kk.trans (k2.mono (fun x hx=>by rw[List.mem_singleton.1 hx];exact List.mem_cons_self ..)),.inr ⟨nR,Q,⟨r2,C1,by rw[<-eC];exact M1.cH.ab k2 hcd,D1⟩,rfl,ml⟩⟩
theorem Av.first{w1:World}{ajr own:List Nat}{b1:Option Nat}{ok:KS->CS->Prop}{dead:CS->Prop}(h:Av ajr d ch b1 w1 w' ok dead)(k:Aa own w w1)(hb:b=none->b1=none)(ho:∀x,x∈ajr->x∈own\/w.heap.size<=x):Av own d ch b w w' ok dead:=by
 obtain⟨k2,h⟩:=h;refine⟨k.then k2 ho,?_⟩;rcases h with⟨K',P',b',dW,a1,a2,a3,a4⟩|⟨a1,Q,a2,a3⟩
 ·refine .inl ⟨K',P',b',dW,fun x=>a1 (hb x),a2,fun x hx=>?_,a4⟩;rcases a3 x hx with e|e
  ·exact ho x e
  ·exact .inr (Nat.le_trans k.size e)
 ·exact .inr ⟨fun x=>a1 (hb x),Q,a2,a3⟩
def CF(a a':Nat->Nat->Nat)(K:KS)(P:CS)(own:List Nat)(d ch:Nat)(b:Option Nat)(w:World)(v:Value)(w':World):Prop :=
 Av own d ch b w w' (fun K' P'=>(v=al 0/\A3 a' K P K' P')\/(v=al 14/\A3 a K P K' P'/\(AF K P->K.next+120<=1099511627775->False))) (fun Q=>v=al 7/\(Tw Q 1099511627775 a\/Tw Q 1099511627775 a'))
theorem adB{own:List Nat}(D:Ae w own d ch K P b)(W:Wi a k K P){s e:Nat}(hs:s<24){A:Option Addr}{f:Nat->Nat}(hf:∀j,f j<256)(hA:AI w A 160 f)(he:160<=e) :
  Spec Tryz.prog 45 #[.pointer (some ⟨d,0,none⟩),.int .i64 s,.slice A 160 e] w fun v w'=>CF a (gV a s f) K P own d ch b w v w':=by
 obtain⟨N,X,c,n,rfl,r,h,eC,nM⟩:=D;have c1:w.cell? ⟨d,1,none⟩=some (.pointer (some ⟨N.k,0,none⟩)):=Row.cell r 1 (by omega);have cn:=r.ne h;refine spec_of_wpE (T:=tt) ai func45 rfl (by decide +kernel) ntmps45 (by simp) ?_;conv=>whnf
 repeat ((first|(refine Ld.of c1 ?_)|refine CW.s ?_);conv=>whnf)
 refine Ru.of (dD w _ _) ?_;conv=>whnf
 repeat (refine Br.f ?_;conv=>whnf)
 refine Ca.of (jF s hs w) ?_;rintro _ _ ⟨rfl,rfl⟩;conv=>whnf
 repeat ((first|(refine Ld.of c1 ?_)|refine Br.f ?_|refine Pk.f ?_);conv=>whnf)
 refine Ca.of (alP h W hs hf hA he) ?_;rintro u w1 ⟨k1,hu⟩;have r1:Ak w1 d ch (some ⟨N.k,0,none⟩):=Row.ab r k1 (fun hm=>cn (List.mem_append_left _ hm));have kk1:Aa (d::(N.all++aK X)) w w1:=k1.mono (fun x hx=>List.mem_cons_of_mem _ (List.mem_append_left _ hx));rcases hu with⟨K1,P1,b1,n1,nR,h1,⟨rfl,K2,P2,L⟩|⟨rfl,E⟩⟩|⟨nR,Q,n1,M1,rfl,ml⟩
 ·have LN:=L.put hs hf;obtain⟨k1',W1⟩:=LN.w;conv=>whnf
  refine Ca.of (gC (.inl rfl) r1 h1 eC W1 (by rw[LN.qu,nM];exact Aq.nil)) ?_;rintro v w2 hv;conv=>whnf
  exact⟨rfl,(hv.first kk1 nR (fun x hx=>.inl hx)).mono (fun _ _ ⟨e1,T⟩=>.inl ⟨e1,LN.call T⟩) (fun _ ⟨e1,t⟩=>⟨e1,.inr t⟩)⟩
 ·have LN:=E.n;obtain⟨k1',W1⟩:=LN.w;conv=>whnf
  refine Ca.of (gC (.inr rfl) r1 h1 eC W1 (by rw[LN.qu,nM];exact Aq.nil)) ?_;rintro v w2 hv;conv=>whnf
  exact⟨rfl,(hv.first kk1 nR (fun x hx=>.inl hx)).mono (fun _ _ ⟨e1,T⟩=>.inr ⟨e1,LN.call T,E.rm⟩) (fun _ ⟨e1,t⟩=>⟨e1,.inl t⟩)⟩
 ·conv=>whnf
  refine Ca.of (rj r1 M1 eC) ?_;rintro v w2 ⟨rfl,a1,k2⟩;conv=>whnf
  exact⟨rfl,kk1.trans (k2.mono (fun x hx=>by rw[List.mem_singleton.1 hx];exact List.mem_cons_self ..)),.inr ⟨nR,Q,a1,rfl,.inl ml⟩⟩
theorem agd{own:List Nat}(D:Ae w own d ch K P b)(W:Wi a k K P){s:Nat}(hs:s<24) :
  Spec Tryz.prog 17 #[.pointer (some ⟨d,0,none⟩),.int .i64 s] w fun v w'=>CF a (gV a s (fun _=>0)) K P own d ch b w v w':=by
 obtain⟨N,X,c,n,rfl,r,h,eC,nM⟩:=D;have c1:w.cell? ⟨d,1,none⟩=some (.pointer (some ⟨N.k,0,none⟩)):=Row.cell r 1 (by omega);have cn:=r.ne h;by_cases h0:K.at_ s=0
 ·have Wz:Wi (gV a s (fun _=>0)) k K P:=by
   refine⟨W.mt,fun o j ho hj=>?_,W.en,W.fl,W.nx,W.eZ,W.hb,W.cur,W.st,W.pn,W.fb,W.fi,W.bl,W.f1,W.fr,W.bad,W.live⟩;unfold gV;by_cases jm:o=s
   ·rw[if_pos jm,jm];unfold arr;rw[if_pos h0]
   ·rw[if_neg jm];exact W.sh o j ho hj
  refine spec_of_wpE (T:=tt) ai func17 rfl (by decide +kernel) ntmps17 (by simp) ?_;conv=>whnf
  repeat ((first|(refine Ld.of c1 ?_)|refine CW.s ?_);conv=>whnf)
  refine Ru.of (dD w _ _) ?_;conv=>whnf
  repeat (refine Br.f ?_;conv=>whnf)
  refine Ca.of (jF s hs w) ?_;rintro _ _ ⟨rfl,rfl⟩;conv=>whnf
  repeat ((first|(refine Ld.of c1 ?_)|refine Br.f ?_);conv=>whnf)
  refine Ca.of (yc h hs h0) ?_;rintro u w1 ⟨k1,hu⟩;have r1:Ak w1 d ch (some ⟨N.k,0,none⟩):=Row.ab r k1 (fun hm=>cn (List.mem_append_left _ hm));have kk1:Aa (d::(N.all++aK X)) w w1:=k1.mono (fun x hx=>List.mem_cons_of_mem _ (List.mem_append_left _ hx));rcases hu.two with⟨b1,nR,rfl,n1,h1⟩|⟨_,Q,hQ,_⟩
  case inr=>cases hQ
  conv=>whnf
  refine Ca.of (gC (.inl rfl) r1 h1 eC Wz (by rw[nM];exact Aq.nil)) ?_;rintro v w2 hv;conv=>whnf
  refine⟨rfl,(hv.first kk1 nR (fun x hx=>.inl hx)).mono (fun K' P' ⟨e1,T⟩=>.inl ⟨e1,?_⟩) (fun _ ⟨e1,t⟩=>⟨e1,.inr t⟩)⟩;have T:CD (gV a s (fun _=>0)) { K with F:=K.F,qu:=K.qu } P K' P':=T;exact(adA Wz rfl (fun _ x=>x) W.hb K.qu).2 _ _ T
 refine spec_of_wpE (T:=tt) ai func17 rfl (by decide +kernel) ntmps17 (by simp) ?_;conv=>whnf
 repeat ((first|(refine Ld.of c1 ?_)|refine CW.s ?_);conv=>whnf)
 refine Ru.of (dD w _ _) ?_;conv=>whnf
 repeat (refine Br.f ?_;conv=>whnf)
 refine Ca.of (jF s hs w) ?_;rintro _ _ ⟨rfl,rfl⟩;conv=>whnf
 repeat ((first|(refine Ld.of c1 ?_)|refine Br.f ?_);conv=>whnf)
 refine Ca.of (ajI h W hs h0) ?_;rintro u w1 ⟨k1,hu⟩;have r1:Ak w1 d ch (some ⟨N.k,0,none⟩):=Row.ab r k1 (fun hm=>cn (List.mem_append_left _ hm));have kk1:Aa (d::(N.all++aK X)) w w1:=k1.mono (fun x hx=>List.mem_cons_of_mem _ (List.mem_append_left _ hx));rcases hu with⟨K1,P1,b1,n1,nR,h1,⟨rfl,K2,P2,L,rfl⟩|⟨rfl,E⟩⟩|⟨nR,Q,n1,M1,rfl,ml⟩
 ·have LN:=L.trimmed hs h0;obtain⟨k1',W1⟩:=LN.w;conv=>whnf
  refine Ca.of (gC (.inl rfl) r1 h1 eC W1 (by rw[LN.qu,nM];exact Aq.nil)) ?_;rintro v w2 hv;conv=>whnf
  exact⟨rfl,(hv.first kk1 nR (fun x hx=>.inl hx)).mono (fun _ _ ⟨e1,T⟩=>.inl ⟨e1,LN.call T⟩) (fun _ ⟨e1,t⟩=>⟨e1,.inr t⟩)⟩
 ·have LN:=E.n;obtain⟨k1',W1⟩:=LN.w;conv=>whnf
  refine Ca.of (gC (.inr rfl) r1 h1 eC W1 (by rw[LN.qu,nM];exact Aq.nil)) ?_;rintro v w2 hv;conv=>whnf
  exact⟨rfl,(hv.first kk1 nR (fun x hx=>.inl hx)).mono (fun _ _ ⟨e1,T⟩=>.inr ⟨e1,LN.call T,E.rm⟩) (fun _ ⟨e1,t⟩=>⟨e1,.inl t⟩)⟩
 ·conv=>whnf
  refine Ca.of (rj r1 M1 eC) ?_;rintro v w2 ⟨rfl,a1,k2⟩;conv=>whnf
  exact⟨rfl,kk1.trans (k2.mono (fun x hx=>by rw[List.mem_singleton.1 hx];exact List.mem_cons_self ..)),.inr ⟨nR,Q,a1,rfl,.inl ml⟩⟩
def CG(a:Nat->Nat->Nat)(s:Nat)(K:KS)(P:CS)(own:List Nat)(d ch:Nat)(b:Option Nat)(w:World)(v:Value)(w':World):Prop :=
 Av own d ch b w w' (fun K' P'=>(∃(Y:Option Addr) (e:Nat) (f:Nat->Nat),v=.tuple #[.slice Y 160 e,al 0]/\Ly w' 5 1 Y 160 e (fun j=>.int .u8 (f j:Nat))/\(∀x,x∈aK Y->w.heap.size<=x)/\∀j,j<160->f j=a s j)/\A3 a K P K' P') (fun Q=>v=.tuple #[.slice none 0 0,al 7]/\Tw Q 1099511627775 a)
theorem age{own:List Nat}(D:Ae w own d ch K P b)(W:Wi a k K P){s:Nat}(hs:s<24) :
  Spec Tryz.prog 22 #[.pointer (some ⟨d,0,none⟩),.int .i64 s] w fun v w'=>CG a s K P own d ch b w v w':=by
 have av:=D.lJ;obtain⟨N,X,c,n,rfl,r,h,eC,nM⟩:=D;have c1:w.cell? ⟨d,1,none⟩=some (.pointer (some ⟨N.k,0,none⟩)):=Row.cell r 1 (by omega);have cn:=r.ne h;have lG:=W.sh s;by_cases h0:K.at_ s=0
 ·refine spec_of_wpE (T:=tt) ai func22 rfl (by decide +kernel) ntmps22 (by simp) ?_;conv=>whnf
  repeat ((first|(refine Ld.of c1 ?_)|refine CW.s ?_);conv=>whnf)
  refine Ru.of (dD w _ _) ?_;conv=>whnf
  repeat (refine Br.f ?_;conv=>whnf)
  refine Ca.of (jF s hs w) ?_;rintro _ _ ⟨rfl,rfl⟩;conv=>whnf
  repeat ((first|(refine Ld.of c1 ?_)|refine Br.f ?_);conv=>whnf)
  refine Ca.of (qT h hs h0) ?_;rintro _ w1 ⟨Y,e,rfl,hY,k1⟩;have r1:Ak w1 d ch (some ⟨N.k,0,none⟩):=Row.ab r k1 (by simp);conv=>whnf
  repeat (refine CW.s ?_;conv=>whnf)
  refine Ca.of (gC (.inl rfl) r1 (h.aj k1) eC W (by rw[nM];exact Aq.nil)) ?_;rintro v w2 ⟨so,sQ⟩;have hv:=Av.first (w:=w) (b:=b) (own:=d::(N.all++aK X)) (w1:=w1) ⟨so,sQ⟩ (k1.mono (by simp)) id (fun x hx=>.inl hx);have hY2:Ly w2 5 1 Y 160 e (fun _=>.int .u8 ((0:Nat):Int)):=hY.ly.ab so (fun x hx hm=>by
   have:=hY.new x hx;have:=av x hm;omega)
  obtain⟨kk,⟨K',P',b',dW,a1,a2,a3,rfl,T⟩|⟨a1,Q,a2,rfl,t⟩⟩:=hv
  ·conv=>whnf
   repeat ((first|refine Br.f ?_|refine Ru.ak ?_);conv=>whnf)
   have T:CD a { K with F:=K.F,qu:=K.qu } P K' P':=T;exact⟨rfl,kk,.inl ⟨K',P',b',dW,a1,a2,a3,⟨Y,e,fun _=>0,rfl,hY2,hY.new,fun j hj=>by
    have:=lG j hs hj;unfold arr at this;rw[if_pos h0] at this;exact this⟩,(adA W rfl (fun _ x=>x) W.hb K.qu).2 _ _ T⟩⟩
  ·conv=>whnf
   repeat ((first|refine Br.t ?_|refine Ru.n1 ?_);conv=>whnf)
   exact⟨rfl,kk,.inr ⟨a1,Q,a2,rfl,t⟩⟩
 obtain⟨hp,t,F,e1,e2,e3,e4,e5,e6,e7,e8⟩:=W.cI (o:=s) (by omega) h0;refine spec_of_wpE (T:=tt) ai func22 rfl (by decide +kernel) ntmps22 (by simp) ?_;conv=>whnf
 repeat ((first|(refine Ld.of c1 ?_)|refine CW.s ?_);conv=>whnf)
 refine Ru.of (dD w _ _) ?_;conv=>whnf
 repeat (refine Br.f ?_;conv=>whnf)
 refine Ca.of (jF s hs w) ?_;rintro _ _ ⟨rfl,rfl⟩;conv=>whnf
 repeat ((first|(refine Ld.of c1 ?_)|refine Br.f ?_);conv=>whnf)
 refine Ca.of (abV h W.hb (by rw[nM];exact Aq.nil) hs h0 (W.lt (by omega)) (W.eZ.mw.lo _ hp) e1 e3 e2) ?_;rintro _ w1 ⟨Y,e,rfl,hY,G,q,Y1,c1',n1,h1,hG,hQ,k1,hY1⟩;have r1:Ak w1 d ch (some ⟨N.k,0,none⟩):=Row.ab r k1 cn;obtain⟨W1,hT⟩:=adA W (P':=P.bC (K.at_ s-1)) rfl (fun _ x=>x) hG q;conv=>whnf
 repeat (refine CW.s ?_;conv=>whnf)
 refine Ca.of (gC (.inl rfl) r1 h1 eC W1 hQ) ?_;rintro v w2 ⟨so,sQ⟩;have mV:∀x,x∈d::(N.all++aK Y1)->x∈d::(N.all++aK X)\/w.heap.size<=x:=fun x hx=>by
  rcases List.mem_cons.1 hx with rfl|hx
  ·exact .inl (List.mem_cons_self ..)
  ·rcases List.mem_append.1 hx with hx|hx
   ·exact .inl (List.mem_cons_of_mem _ (List.mem_append_left _ hx))
   ·rcases hY1 x hx with h|h
    ·exact .inl (List.mem_cons_of_mem _ (List.mem_append_right _ h))
    ·exact .inr h
 have hv:=Av.first (w:=w) (b:=b) (own:=d::(N.all++aK X)) (w1:=w1) ⟨so,sQ⟩ (k1.mono (fun x hx=>List.mem_cons_of_mem _ hx)) id mV;have hY2:Ly w2 5 1 Y 160 e (fun j=>.int .u8 (F j:Nat)):=hY.ly.ab so (fun x hx hm=>by
  have h2:=hY.new x hx;rcases List.mem_cons.1 hm with rfl|hm
  ·have:=av x (List.mem_cons_self ..);omega
  ·rcases List.mem_append.1 hm with hm|hm
   ·have:=av x (List.mem_cons_of_mem _ (List.mem_append_left _ hm));omega
   ·exact(hY.ly.gD h1.core.qu (by decide) hx) hm)
 obtain⟨kk,⟨K',P',b',dW,a1,a2,a3,rfl,T⟩|⟨a1,Q,a2,rfl,t⟩⟩:=hv
 ·conv=>whnf
  repeat ((first|refine Br.f ?_|refine Ru.ak ?_);conv=>whnf)
  exact⟨rfl,kk,.inl ⟨K',P',b',dW,a1,a2,a3,⟨Y,e,F,rfl,hY2,hY.new,fun j hj=>by
   have:=lG j hs hj;unfold arr at this;rw[if_neg h0,bF e1] at this;exact this⟩,hT _ _ T⟩⟩
 ·conv=>whnf
  repeat ((first|refine Br.t ?_|refine Ru.n1 ?_);conv=>whnf)
  exact⟨rfl,kk,.inr ⟨a1,Q,a2,rfl,t⟩⟩
end
end
end Go.Proofs.YtaeikigfgfcadaaGreat
