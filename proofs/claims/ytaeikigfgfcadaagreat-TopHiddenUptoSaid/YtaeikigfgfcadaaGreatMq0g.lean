/- Texts behind one another: W10, W11, W12, W13, W14, W15, W16, W17, Pl10, Pl11, Pl12, Top1, Top2, Top3, Top4, Top5, Top6, W18. -/
import Derived.Test.YtaeikigfgfcadaaGreatMq0a
import Derived.Test.YtaeikigfgfcadaaGreatMq0b
import Derived.Test.YtaeikigfgfcadaaGreatMq0c
import Derived.Test.YtaeikigfgfcadaaGreatMq0d
import Derived.Test.YtaeikigfgfcadaaGreatMq0e
import Derived.Test.YtaeikigfgfcadaaGreatMq0f
namespace Go.Proofs.YtaeikigfgfcadaaGreat
set_option maxHeartbeats 8000000
set_option maxRecDepth 20000
set_option linter.unusedVariables false
set_option linter.unusedSimpArgs false
set_option linter.unnecessarySimpa false
section
open Go.RowKit
section
variable{a:Nat->Nat->Nat}{v:Nat}{K:KS}{P:CS}{d:Nat}{os:List Nat}{l:List Tg}
theorem Cpd.wf(C:Cpd K P v d os l)(hc:Con K.at_ K.ow)(hd:d<12)(hdead:∀o,o<25->K.at_ o≠0->(K.at_ o-1)/8≠d){K2:KS}(e1:K2.at_=K.at_)(e2:K2.ow=K.ow)(e3:K2.en=K.en)(i:Nat)(hi:i<=l.length):MapWf (mvTo K2 (l.take i)).at_ (mvTo K2 (l.take i)).ow:=by
 have H:MvHyp K2 d os l (fun o=>⟨(K.en o).seq,((K.en o).copy+1)%256,(K.en o).lost⟩):=by
  refine⟨by rw[e1,e2];exact hc,hd,C.o8,C.nd,C.len,fun i hi=>⟨(C.mem _ ?_).1,(C.tag i hi).2⟩,by rw[e1];exact hdead,fun i hi=>?_⟩
  ·rw[getD_get hi];exact List.getElem_mem hi
  ·rw[(C.tag i hi).1];exact⟨rfl,rfl,rfl⟩
 exact((mv_all H i (by have:=C.len;omega)).1).mw
theorem Cpd.tgs(C:Cpd K P v d os l)(hd:d<12):∀t,t∈l->(0<=t.of/\t.of<=24)/\0<=t.place/\t.place<96:=fun t ht=>by
 obtain⟨i,hi,rfl⟩:=List.getElem_of_mem ht;have hl:=C.len;have h8:=C.o8;rw[<-getD_get hi (x:=Tg.zero),(C.tag i (by omega)).1];have hm:=(C.mem (os.getD i 0) (by rw[getD_get (by omega)];exact List.getElem_mem _)).1;unfold cpTag;simp only;omega
structure CutB(a:Nat->Nat->Nat)(N:Cr)(X:Option Addr)(c:Nat)(b:Option Nat)(w:World)(v:Nat)(f:Bool)(K:KS)(P:CS)(d:Nat)(bad:Bool)(why:Prop)(f2:Bool)(e:Int)(K3:KS)(P3:CS)(b3:Option Nat)(n3:Int)(Z:Option Addr)(m cz:Nat)(w':World):Prop where
 k:Keep N.all w w'
 ff:f=true->f2=true
 fv:f2=true->f=true\/P.may v
 cs:(e=0/\(b=none->b3=none)/\On w' N K3 P3 b3 n3 X c/\why/\∃os l,VM a v K P d os.length K3 P3/\Cpd K3 P3 v d os l/\Ly w' 67 5 Z l.length cz (tgsF l)/\(∀x,x∈blk Z->w.heap.size<=x)/\m=l.length/\os.length<=7/\(∀o,o<25->K3.at_ o≠0->(K3.at_ o-1)/8=v->bad=false\/o≠24->o∈os)/\os.length<=(ofL K.ow v).length/\K3.next=K.next) \/
  (e=8/\(b=none->b3=none)/\On w' N K3 P3 b3 n3 X c/\VM a v K P d 8 K3 P3/\P.may d) \/
  (e=7/\b≠none/\MedX w' N.N P3 n3/\Tw P3 1099511627775 a)
structure CutC(a:Nat->Nat->Nat)(N:Cr)(X:Option Addr)(c:Nat)(b:Option Nat)(w:World)(v:Nat)(f0 r0:Bool)(K0:KS)(P0:CS)(f:Bool)(K:KS)(P:CS)(d:Nat)(f2:Bool)(e:Int)(K3:KS)(P3:CS)(b3:Option Nat)(n3:Int)(w':World):Prop where
 k:Keep N.all w w'
 ff:f=true->f2=true
 fv:f2=true->f=true\/P.may v
 cs:(e=14/\(b=none->b3=none)/\On w' N K3 P3 b3 n3 X c/\VacW a v f0 r0 K0 P0 K3 P3 14) \/
  (e=8/\(b=none->b3=none)/\On w' N K3 P3 b3 n3 X c/\VM a v K P d 8 K3 P3/\P.may d) \/
  (e=7/\b≠none/\MedX w' N.N P3 n3/\Tw P3 1099511627775 a)
theorem Cpd.again{P':CS}(C:Cpd K P v d os l)(h:P'.pg=P.pg):Cpd K P' v d os l :=
 ⟨C.nd,C.o8,C.mem,C.len,C.tag,fun i hi=>by
  rw[h,C.pg i hi];congr 1;exact(dataAt_same (by rw[h])).symm⟩
theorem VM.seqd{n:Nat}{K3:KS}{P3 P4:CS}(M:VM a v K P d n K3 P3)(h8:n<8)(hnx:K3.next=K.next)(hn:K3.next<1099511627775)(hL:Lk P3 P4 (d*8+n))(hnf:nf (P4.pg (d*8+n))):VM a v K P d 8 (sqK K3) P4/\Tw P4 1099511627775 a:=by
 obtain⟨k,w⟩:=M.w;have hd:=M.st0.1;have w4:=(w.seq hn).cell (P':=P4) (p:=d*8+n) (by omega) (by rw[show(d*8+n)/8=d by omega];exact M.dst.st) (M.dst.bl n (Nat.le_refl _) h8) (fun hf e=>absurd (by have e:K3.fb=(d*8+n)/8:=e;omega) (M.dst.fr hf)) hL.pg (.inl hnf);obtain⟨F,nx,e,e1,e2⟩:=M.eq;refine⟨⟨⟨k,w4⟩,M.tk,⟨F,K.next+1,?_,by omega,by omega⟩,⟨hd,M.dst.st,M.dst.fr,fun i hi h8=>by omega,M.dst.dead⟩,M.dv,fun B hB=>M.may B (hL.may B hB)⟩,⟨k,_,w4.mt.mono w4.nx.2,w4.sh⟩⟩;unfold sqK;rw[hnx,e]
theorem VM.tw{n:Nat}{K3:KS}{P3:CS}(M:VM a v K P d n K3 P3):Tw P3 1099511627775 a:=by
 obtain⟨k,w⟩:=M.w;exact⟨k,_,w.mt.mono w.nx.2,w.sh⟩
def VacC(a:Nat->Nat->Nat)(μ:Nat):Prop:=∀(w:World) (N:Cr) (K:KS) (X:Option Addr) (c:Nat) (P:CS) (b:Option Nat) (n:Int) (v:Nat) (f r:Bool),On w N K P b n X c->(∃k,Wi a k K P)->v<12->(K.st v=2\/K.fo=true/\K.fb=v)->12-cntS K.st 3<=μ ->
 Spec Tryz.prog 102 #[.pointer (some ⟨N.k,0,none⟩),.int .i64 v,.bool f,.bool r] w fun u w'=>Fin N X c b w w' (fun K' P'=>∃e,u=errOf e/\VacW a v f r K P K' P' e) (fun Q=>u=errOf 7/\Tw Q 1099511627775 a)
def BadC(a:Nat->Nat->Nat)(μ:Nat):Prop:=∀(w:World) (N:Cr) (K:KS) (X:Option Addr) (c:Nat) (P:CS) (b:Option Nat) (n:Int),On w N K P b n X c->(∃k,Wi a k K P)->12-cntS K.st 3<=μ ->
 Spec Tryz.prog 151 #[.pointer (some ⟨N.k,0,none⟩)] w fun u w'=>Fin N X c b w w' (fun K' P'=>∃e,u=errOf e/\BadW a K P K' P' e) (fun Q=>u=errOf 7/\Tw Q 1099511627775 a)
end
theorem CpsOk.keep{l:List Tg}{w w2 w':World}{u:Value}(h:CpsOk l w2 u w')(hs:w.heap.size<=w2.heap.size):∃Z cz,u=.tuple #[.slice Z l.length cz,errOf 0]/\Ly w' 67 5 Z l.length cz (tgsF l)/\∀x,x∈blk Z->w.heap.size<=x:=by
 obtain⟨Z,cz,h1,h2,h3⟩:=h;exact⟨Z,cz,h1,h2,fun x hx=>by have:=h3 x hx;omega⟩
theorem copies_w{a:Nat->Nat->Nat}{w w2:World}{N:Cr}{K1:KS}{P1:CS}{X:Option Addr}{c:Nat}{b b1:Option Nat}{n1:Int}{v d:Nat}{k:Cp}{F1 bad:Bool}(h2:On w2 N { K1 with st:=updf K1.st d 1,pn:=d+1 } P1 b1 n1 X c)(kk2:Keep N.all w w2)(W1:Wi a k K1 P1)(hv:v<12)(v2:K1.st v=2)(htk:takeN K1.st K1.pn=some d)(hbn:b=none->b1=none) :
  Spec Tryz.prog 148 #[.pointer (some ⟨N.k,0,none⟩),.int .i64 v,.int .i64 d,.bool bad] w2 fun u w'=>∃Z m cz e K3 P3 b3 n3,u=.tuple #[.slice Z m cz,errOf e]/\CutB a N X c b w v F1 K1 P1 d bad True F1 e K3 P3 b3 n3 Z m cz w':=by
 obtain⟨G1,O1,G2,G3⟩:=copied W1 hv v2 htk (K1:={ K1 with st:=updf K1.st d 1,pn:=d+1 }) rfl bad;refine Spec.mono (ccps_ok h2 G1) ?_;rintro u w3 ⟨k3,⟨K3,P3,b3,n3,hb3,h3,hs,hF,hm,⟨hu,hpg⟩|⟨rfl,hmd,hp⟩⟩|⟨hb3,Q,n3,h3,rfl,hp⟩⟩
 ·obtain⟨Z,cz,rfl,hz,hZ⟩:=hu.keep kk2.size;obtain⟨M,C,hnx⟩:=(G2 K3 P3 hs hF hm).1 hpg;have hl:=C.len;have hat:K3.at_=K1.at_:=M.eq.elim fun F ⟨nx,e,_⟩=>by rw[e]
  refine⟨Z,_,cz,0,K3,P3,b3,n3,rfl,⟨kk2.trans k3,id,.inl,.inl ⟨rfl,fun x=>hb3 (hbn x),h3,trivial,_,_,M,C,hz,hZ,rfl,O1.len.1,fun o ho e hb=>?_,O1.len.2,hnx⟩⟩⟩;rw[hat] at e hb;exact O1.all o (by omega) e hb
 ·obtain⟨M,hnx⟩:=(G2 K3 P3 hs hF hm).2 hp;exact⟨none,0,0,8,K3,P3,b3,n3,rfl,⟨kk2.trans k3,id,.inl,.inr (.inl ⟨rfl,fun x=>hb3 (hbn x),h3,M,hmd⟩)⟩⟩
 ·exact⟨none,0,0,7,K1,Q,b1,n3,rfl,⟨kk2.trans k3,id,.inl,.inr (.inr ⟨rfl,fun x=>hb3 (hbn x),h3,G3 Q hp⟩)⟩⟩
theorem vac_step{a:Nat->Nat->Nat}{μ:Nat}(hB:∀x,x<μ->BadC a x):VacC a μ:=by
 intro w N K X c P b n v f r h hW hv hv2 hμ;obtain⟨i0,hi,hz0,hz1,hz2⟩:=info_parts tag_info;obtain⟨k0,hW⟩:=hW;have hI:=VI.start hW hv hv2 f r;refine spec_of_wpE (T:=tt) tt_ok Tryz.func102 rfl (by decide +kernel) Tryz.ntmps102 (by simp) ?_;conv=>whnf
 refine CW.cut (ι:=Unit) (fun _ w'=>On w' N (vc0 K v) P b n X c/\Keep N.all w w') (fun _=>[(0,.pointer (some ⟨N.k,0,none⟩)),(1,.int .i64 v),(2,.bool f),(3,.bool r)]) tt_ok ?_ ?_
 ·conv=>whnf
  repeat ((first|(refine Ld.of h.core.c3 ?_));conv=>whnf)
  refine Ca.of (fblock_ok h.core.front) ?_;rintro _ _ ⟨rfl,rfl⟩;have fb:=hW.fb;unfold vc0;by_cases hv:(if K.fo=true then (K.fb:Int) else -1)=v
  ·rw[if_pos hv,hv];conv=>whnf
   repeat ((first|refine Br.y ?_);conv=>whnf)
   refine Ca.of (shut_ok h fb) ?_;rintro _ w2 ⟨rfl,h2,k2⟩;conv=>whnf
   exact⟨(),⟨h2,k2⟩,⟨rfl,rfl,rfl,rfl,trivial⟩⟩
  ·rw[if_neg hv];conv=>whnf
   repeat ((first|(refine Br.isnt (decide_eq_false hv) ?_));conv=>whnf)
   exact⟨(),⟨h,Keep.refl _ _⟩,⟨rfl,rfl,rfl,rfl,trivial⟩⟩
 rintro _ w1 ⟨h1,k1⟩;have far:∀x,w.heap.size<=x->x∉N.all:=fun x hx hm=>by
  have h3:x<w.heap.size:=by
   rcases List.mem_append.1 hm with hm|hm
   ·exact h.core.lt (List.mem_append_left _ hm)
   ·exact h.l_lt _ hm
  omega
 refine CW.loop (ι:=Bool×Bool×KS×CS×Option Nat×Int) (fun i w'=>(b=none->i.2.2.2.2.1=none)/\VI a v f r K P i.1 i.2.1 i.2.2.1 i.2.2.2.1/\On w' N i.2.2.1 i.2.2.2.1 i.2.2.2.2.1 i.2.2.2.2.2 X c/\Keep N.all w w')
  (fun i=>[(0,.pointer (some ⟨N.k,0,none⟩)),(1,.int .i64 v),(2,.bool i.1),(3,.bool i.2.1)]) (fun i=>12-cntS i.2.2.1.st 3) (f,r,vc0 K v,P,b,n) tt_ok ⟨id,hI,h1,k1⟩ ⟨rfl,rfl,rfl,rfl,trivial⟩ ?_;clear h1 k1 hI;rintro⟨f1,r1,K1,P1,b1,n1⟩ wr ⟨hbn,I,h1,k1⟩;simp only at hbn I h1 k1 ⊢;obtain⟨kk,W1⟩:=I.w;have hc12:cntS K1.st 3<=12:=cntTo_le _ _ _;have hcμ:12-cntS K1.st 3<=μ:=by
  have:cntS K.st 3<=cntS K1.st 3:=cnt3_le I.st3;omega
 have hpn:=W1.pn
 -- the switch
 conv=>whnf
 repeat ((first|(refine Ld.of h1.core.c1 ?_));conv=>whnf)
 refine Ca.of (count_ok h1.core.pool 3) ?_;rintro _ _ ⟨rfl,rfl⟩;conv=>whnf
 generalize hlb:decide (((cntS K1.st 3:Nat):Int)≥2)=lb at *;refine CW.cut (ι:=Bool) (fun r2 w'=>w'=wr/\(r2=true->r1=true/\lb=false)/\¬(f1=true/\lb=true)/\wornB K1.st=false) (fun r2=>[(0,.pointer (some ⟨N.k,0,none⟩)),(1,.int .i64 v),(2,.bool f1),(3,.bool r2),(9,.bool lb)]) tt_ok ?_ ?_
 ·by_cases hfl:f1=true/\lb=true
  ·obtain⟨rfl,rfl⟩:=hfl;have hl2:=of_decide_eq_true hlb;conv=>whnf
   repeat ((first|refine Br.t ?_|refine Pk.t ?_);conv=>whnf)
   refine Ca.of (worn'_ok h1 hv) ?_;rintro _ w2 ⟨rfl,h2,k2⟩;conv=>whnf
   exact⟨rfl,k1.trans k2,.inl ⟨_,P1,b1,n1,hbn,h2,14,rfl,I.last rfl (by omega)⟩⟩
  ·have hlb1:lb=true->2<=cntS K1.st 3:=fun x=>by rw[x] at hlb;have:=of_decide_eq_true hlb;omega
   have hlb0:lb=false->cntS K1.st 3<=1:=fun x=>by rw[x] at hlb;have:=of_decide_eq_false hlb;omega
   have h3:(f1=false/\lb=false)\/(f1=false/\lb=true)\/(f1=true/\lb=false):=by
    revert hfl
    cases f1<;>cases lb<;>simp
   by_cases hw:wornB K1.st=true
   ·rcases h3 with⟨rfl,rfl⟩|⟨rfl,rfl⟩|⟨rfl,rfl⟩
    all_goals
     conv=>whnf
     repeat ((first|(refine Ld.of h1.core.c1 ?_)|refine Br.t ?_|refine Br.f ?_|refine Pk.f ?_|refine Pk.t ?_);conv=>whnf)
     refine Ca.of (worn_ok h1.core.pool) ?_;rintro _ _ ⟨rfl,rfl⟩;rw[hw];conv=>whnf
     repeat ((first|refine Br.t ?_);conv=>whnf)
     exact⟨rfl,k1,.inl ⟨K1,P1,b1,n1,hbn,h1,14,rfl,I.worn hw⟩⟩
   ·have hw:wornB K1.st=false:=by simpa using hw
    rcases h3 with⟨rfl,rfl⟩|⟨rfl,rfl⟩|⟨rfl,rfl⟩
    all_goals
     conv=>whnf
     repeat ((first|(refine Ld.of h1.core.c1 ?_)|refine Br.t ?_|refine Br.f ?_|refine Pk.f ?_|refine Pk.t ?_);conv=>whnf)
     refine Ca.of (worn_ok h1.core.pool) ?_;rintro _ _ ⟨rfl,rfl⟩;rw[hw];conv=>whnf
     repeat ((first|refine Br.t ?_|refine Br.f ?_);conv=>whnf)
    ·exact⟨r1,⟨rfl,fun x=>⟨x,rfl⟩,hfl,by first|exact hw|rfl⟩,⟨rfl,rfl,rfl,rfl,rfl,trivial⟩⟩
    ·exact⟨false,⟨rfl,fun x=>(by cases x),hfl,by first|exact hw|rfl⟩,⟨rfl,rfl,rfl,rfl,rfl,trivial⟩⟩
    ·exact⟨r1,⟨rfl,fun x=>⟨x,rfl⟩,hfl,by first|exact hw|rfl⟩,⟨rfl,rfl,rfl,rfl,rfl,trivial⟩⟩
 rintro r2 _ ⟨rfl,hr2,hfl,hw⟩;have hlb1:lb=true->2<=cntS K1.st 3:=fun x=>by rw[x] at hlb;have:=of_decide_eq_true hlb;omega
 have hlb0:lb=false->cntS K1.st 3<=1:=fun x=>by rw[x] at hlb;have:=of_decide_eq_false hlb;omega
 clear hlb;have h3:(f1=true/\lb=false)\/(f1=false/\r2=true/\lb=false)\/(f1=false/\r2=false):=by
  revert hfl hr2
  cases f1<;>cases lb<;>cases r2<;>simp
 obtain⟨F1,hF1⟩:∃F1,F1=f1:=⟨_,rfl⟩;obtain⟨R2,hR2⟩:∃R2,R2=r2:=⟨_,rfl⟩;have J:VI a v f r K P F1 r1 K1 P1:=by rw[hF1];exact I
 have hrr:R2=true->r1=true/\cntS K1.st 3<=1:=fun x=>⟨(hr2 (by rw[<-hR2];exact x)).1,hlb0 (hr2 (by rw[<-hR2];exact x)).2⟩
 have v12:=J.v2;rcases h3 with⟨rfl,rfl⟩|⟨rfl,rfl,rfl⟩|⟨rfl,rfl⟩
 all_goals
  conv=>whnf
  repeat ((first|(refine Ld.of h1.core.c1 ?_)|refine Br.t ?_|refine Br.f ?_|refine Pk.f ?_|refine Pk.t ?_);conv=>whnf)
  refine Ca.of (ptake_ok h1.core.pool hpn) ?_;intro u w2 hu;unfold TakeEnd at hu;by_cases htn:takeN K1.st K1.pn=none
  case' pos =>
   rw[htn] at hu;obtain⟨rfl,rfl⟩:=hu;conv=>whnf
   repeat ((first|refine Br.t ?_|refine Ru.n1 ?_|refine CW.s ?_);conv=>whnf)
   exact⟨rfl,k1,.inl ⟨K1,P1,b1,n1,hbn,h1,14,rfl,I.none htn⟩⟩
  obtain⟨d,htk⟩:=Option.ne_none_iff_exists'.1 htn;rw[htk] at hu;obtain⟨rfl,q2,k2⟩:=hu;have h2:=h1.pool k2 q2;have kk2:=k1.trans (Keep.of1 (by simp[Cr.own]) k2);have hd12:=(takeFrom_lt htk).1;conv=>whnf
  repeat ((first|refine Br.f ?_|refine Ru.neq_nil0 ?_|refine CW.s ?_);conv=>whnf)
  refine Ca.of (copies_w (F1:=F1) h2 kk2 W1 hv v12 htk hbn) ?_;rintro _ w3 ⟨Z,m,cz,e,K3,P3,b3,n3,rfl,B3⟩;conv=>whnf
  refine CW.cut (ι:=Bool×Int×KS×CS×Option Nat×Int×Option Addr×Nat×Nat) (fun i w'=>CutB a N X c b w v F1 K1 P1 d true ((i.1=true\/(R2=true/\cntS K1.st 3<=1)\/P1.may v)/\cntS K1.st 3<=1) i.1 i.2.1 i.2.2.1 i.2.2.2.1 i.2.2.2.2.1 i.2.2.2.2.2.1 i.2.2.2.2.2.2.1 i.2.2.2.2.2.2.2.1 i.2.2.2.2.2.2.2.2 w')
   (fun i=>[(0,.pointer (some ⟨N.k,0,none⟩)),(1,.int .i64 v),(2,.bool i.1),(3,.bool R2),(11,.int .i64 d),(12,errOf i.2.1),(13,.slice i.2.2.2.2.2.2.1 i.2.2.2.2.2.2.2.1 i.2.2.2.2.2.2.2.2)]) tt_ok ?_ ?_
  case' refine_2 =>
   clear B3;rintro⟨f2,e2,K4,P4,b4,n4,Z4,m4,cz4⟩ w4 B4;simp only at B4 ⊢;conv=>whnf
   refine CW.cut (ι:=Int×KS×CS×Option Nat×Int) (fun i w'=>CutC a N X c b w v f r K P F1 K1 P1 d f2 i.1 i.2.1 i.2.2.1 i.2.2.2.1 i.2.2.2.2 w')
    (fun i=>[(0,.pointer (some ⟨N.k,0,none⟩)),(1,.int .i64 v),(2,.bool f2),(3,.bool R2),(11,.int .i64 d),(12,errOf i.1)]) tt_ok ?_ ?_
   ·rcases B4.cs with⟨rfl,hb4,h4,why,os,l,M,C,hz,hZ,rfl,h7,hall,hlen,hnx⟩|⟨rfl,hb4,h4,M,hmd⟩|⟨rfl,hbb,h4,htw⟩
    ·obtain⟨k4,W4⟩:=M.w;have hcl:=C.len;have hmy:=fun B hB=>M.may B hB;conv=>whnf
     repeat ((first|refine Br.t ?_|refine Ru.eql_nil0 ?_);conv=>whnf)
     refine Ru.alloctg ?_;intro x14 w5 hx14 hs5 r14 k5;have h5:=h4.keep0 k5;have hz5:=hz.keep0 k5;have kk5:=B4.k.trans (Keep.of0 k5);have hx14w:w.heap.size<=x14:=by
      rw[hx14];exact B4.k.size
     conv=>whnf
     refine Ca.of (says_ok h5 hv hd12 (i:=l.length) (by omega) W4.hb W4.nx.1 (fun hn=>stW_told W4 (by have:=W4.nx;omega) v) (by rw[hcl];exact M.dst.bl _ (Nat.le_refl _) (by omega))) ?_;rintro _ w6 ⟨k6,hr6⟩;have r146:=r14.keep k6 (far x14 hx14w);have hz6:=hz5.keep k6 (fun x hx=>far x (hZ x hx));have kk6:=kk5.trans k6;have far14:∀x,x∈[x14]->w.heap.size<=x:=fun x hx=>by rw[List.mem_singleton.1 hx];exact hx14w
     rw[hcl] at hr6;rcases hr6 with⟨K6,P6,b6,n6,hb6,h6,⟨hge,rfl,rfl,rfl⟩|⟨hn,g1,⟨rfl,rfl,g2⟩|⟨rfl,rfl,g2,g3⟩⟩⟩|⟨hb6,Q,n6,h6,rfl,hn,g1,g2⟩
     ·conv=>whnf
      refine Ru.sttg r146 ?_;intro w7 r147 k7;have kk7:Keep N.all w w7:=kk6.then k7 (fun x hx=>.inr (far14 x hx));conv=>whnf
      repeat ((first|refine Br.f ?_|refine Ru.e1 ?_);conv=>whnf)
      exact⟨(14,_,_,b6,n6),⟨kk7,B4.ff,B4.fv,.inl ⟨rfl,fun x=>hb6 (hb4 x),h.keepS h6 k7 far14,J.out M hnx hge⟩⟩,⟨rfl,rfl,rfl,rfl,rfl,rfl,trivial⟩⟩
     ·have hst:∀x,x∈blk Z4->x<x14:=fun x hx=>by rw[hx14];exact hz.blk_lt hx
      conv=>whnf
      refine Ru.sttg r146 ?_;intro w7 r147 k7;have kk7:Keep N.all w w7:=kk6.then k7 (fun x hx=>.inr (far14 x hx));have h7':=h.keepS h6 k7 far14;have hz7:=hz6.keep k7 (fun x hx hm=>by have:=hst x hx;rw[List.mem_singleton.1 hm] at this;omega);conv=>whnf
      repeat ((first|(refine Ld.of h7'.core.c1 ?_)|refine Br.t ?_|refine Ru.eql_nil0 ?_);conv=>whnf)
      refine Ca.of (pset_ok h7'.core.pool v 3 hv (by omega)) ?_;rintro _ w8 ⟨⟨e8,rfl⟩,q8,k8⟩;have h8:=h7'.pool k8 q8;have kp8:Keep N.all w7 w8:=Keep.of1 (by simp[Cr.own]) k8;have hz8:=hz7.keep kp8 (fun x hx=>far x (hZ x hx));have r148:=r147.keep kp8 (far x14 hx14w);have kk8:=kk7.trans kp8;generalize hT:syTag K4 (d*8+os.length)=T at *;conv=>whnf
      refine Ru.ldtg r148 ?_;conv=>whnf
      refine Ru.of (build_t1 _ _) ?_;have ka:Keep [] w8 (w8.alloc (.cells T.arr 67)):=(Keep.refl _ _).alloc _;have ha:Rd (w8.alloc (.cells T.arr 67)) (some ⟨w8.heap.size,0,none⟩) (1*5) T.cell:=fun _=>⟨w8.heap.size,0,rfl,fun j hj=>(Row.tg (heap_alloc_new _ _)).cell' j hj⟩
      generalize w8.alloc _=w9 at *;conv=>whnf
      refine Bu.append Tryz.underlying239 hi hz0 hz1 hz2 rfl (by omega) (hz8.keep0 ka) _ ha (by omega) (by simp) (fun j hj=>tg_one _ j hj) (by simp only[maxLen];omega) (by omega) ?_;intro Z2 cz2 w11 hz11 k11 hat11 hpre11;have h11:=h.keepS (h8.keep0 ka) k11 hZ;have r1411:=(r148.keep ka (by simp)).keep k11 (fun hm=>by have:=hst x14 hm;omega);have kk11:Keep N.all w w11:=(kk8.trans (Keep.of0 ka)).then k11 (fun x hx=>.inr (hZ x hx));have z11:Ly w11 67 5 Z2 (l++[T]).length cz2 (tgsF (l++[T])):=by
       rw[List.length_append,List.length_singleton];exact hz11.congr (fun j hj=>tgsF_push rfl j hj)
      have hTp:(0<=T.of/\T.of<=24)/\0<=T.place/\T.place<96:=by
       rw[<-hT];unfold syTag;simp only;omega
      have v4:K4.st v=2:=by rw[M.old (by omega)];exact v12
      have hw4:wornB K4.st=false:=by
       unfold wornB at hw ⊢;rw[M.cnt.1];exact hw
      have hall':∀o,o<24->K4.at_ o≠0->(K4.at_ o-1)/8=v->o∈os:=fun o ho e hb=>hall o (by omega) e hb (.inr (by omega));have hF:Hl.HB (Hl.rdF K4.F ((d*8+os.length)/8)):=W4.hb.rd (by omega);have g2':P6.pg (d*8+os.length)=.full (syTag K4 (d*8+os.length)) (ptN (stC (sqK K4) K4.next v)):=by rw[hT];exact g2
      have hsd:=(W4.said hw4 hv v4 M.dst C h7 hall' hn hF g1.pg g2').2.2.2.1;rw[hT] at hsd;conv=>whnf
      rw[show l.length+1=(l++[T]).length by simp];refine Ca.of (ends_ok h11 hd12 z11 (by simp;omega) (fun t ht=>?_) (fun i hi=>?_) W4.fb W4.fi) ?_
      ·rcases List.mem_append.1 ht with ht|ht
       ·exact C.tgs hd12 t ht
       ·rw[List.mem_singleton.1 ht];exact hTp
      ·have hi':i<=l.length:=by simp at hi;omega
       rw[List.take_append_of_le_length hi'];exact C.wf (K2:={ rdK (sqK K4) (d*8+os.length) with st:=setSt (rdK (sqK K4) (d*8+os.length)).st v 3 }) W4.con hd12 M.dst.dead rfl rfl rfl i hi'
      rintro _ w12 ⟨rfl,h12,k12⟩;have r1412:=r1411.keep k12 (far x14 hx14w);conv=>whnf
      refine Ru.ldtg r1412 ?_;conv=>whnf
      refine Ca.of (anew_ok h12 hsd (t:=T) (o:=24) (p:=d*8+os.length) (by omega) (by omega) (by rw[<-hT];rfl) (by rw[<-hT];rfl)) ?_;rintro _ w13 ⟨rfl,h13,k13⟩;conv=>whnf
      have h13':On w13 N (syK K4 (Hl.rdF K4.F ((d*8+os.length)/8)) v d os.length l) P6 b6 n6 X c:=by
       unfold syK;rw[hT];exact h13
      refine⟨rfl,(kk11.trans k12).trans k13,.inl ⟨_,P6,b6,n6,fun x=>hb6 (hb4 x),h13',0,rfl,J.said why.2 M C ?_ hw h7 hall' hlen hnx hn hF g1.pg g2' g1.may⟩⟩;rcases why.1 with x|x|x
      ·rcases B4.fv x with y|y
       ·exact .inl y
       ·exact .inr (.inr y)
      ·exact .inr (.inl (hrr x.1))
      ·exact .inr (.inr x)
     ·conv=>whnf
      refine Ru.sttg r146 ?_;intro w7 r147 k7;have kk7:Keep N.all w w7:=kk6.then k7 (fun x hx=>.inr (far14 x hx));obtain⟨M6,_⟩:=M.seqd (by omega) hnx hn g1 g2;have hmd:P1.may d:=by
       have:=M.may _ g3;rw[show(d*8+os.length)/8=d by omega] at this;exact this
      conv=>whnf
      repeat ((first|refine Br.f ?_|refine Ru.e1 ?_);conv=>whnf)
      exact⟨(8,_,_,b6,n6),⟨kk7,B4.ff,B4.fv,.inr (.inl ⟨rfl,fun x=>hb6 (hb4 x),h.keepS h6 k7 far14,M6,hmd⟩)⟩,⟨rfl,rfl,rfl,rfl,rfl,rfl,trivial⟩⟩
     ·conv=>whnf
      refine Ru.sttg r146 ?_;intro w7 r147 k7;have kk7:Keep N.all w w7:=kk6.then k7 (fun x hx=>.inr (far14 x hx));obtain⟨_,T6⟩:=M.seqd (by omega) hnx hn g1 g2;conv=>whnf
      repeat ((first|refine Br.f ?_|refine Ru.e1 ?_);conv=>whnf)
      exact⟨(7,K4,Q,b4,n6),⟨kk7,B4.ff,B4.fv,.inr (.inr ⟨rfl,fun x=>hb6 (hb4 x),h.keepX h6 k7 far14,T6⟩)⟩,⟨rfl,rfl,rfl,rfl,rfl,rfl,trivial⟩⟩
    ·conv=>whnf
     repeat ((first|refine Br.f ?_|refine Ru.e1 ?_);conv=>whnf)
     exact⟨(8,K4,P4,b4,n4),⟨B4.k,B4.ff,B4.fv,.inr (.inl ⟨rfl,hb4,h4,M,hmd⟩)⟩,⟨rfl,rfl,rfl,rfl,rfl,rfl,trivial⟩⟩
    ·conv=>whnf
     repeat ((first|refine Br.f ?_|refine Ru.e1 ?_);conv=>whnf)
     exact⟨(7,K4,P4,b4,n4),⟨B4.k,B4.ff,B4.fv,.inr (.inr ⟨rfl,hbb,h4,htw⟩)⟩,⟨rfl,rfl,rfl,rfl,rfl,rfl,trivial⟩⟩
   ·clear B4;rintro⟨e5,K5,P5,b5,n5⟩ w5 C5;simp only at C5 ⊢;rcases C5.cs with⟨rfl,hb5,h5,hV⟩|⟨rfl,hb5,h5,M,hmd⟩|⟨rfl,hbb,h5,htw⟩
    ·conv=>whnf
     repeat ((first|refine CW.s ?_);conv=>whnf)
     refine Ca.of (eis_ok 14 8 (by decide) w5) ?_;rintro _ _ ⟨rfl,rfl⟩;conv=>whnf
     repeat ((first|refine Br.t ?_);conv=>whnf)
     exact⟨rfl,C5.k,.inl ⟨K5,P5,b5,n5,hb5,h5,14,rfl,hV⟩⟩
    ·obtain⟨⟨k6,W6⟩,c6,hlast,hbads⟩:=J.dfail M hmd C5.ff C5.fv (fun x=>(hrr x).1);have hc6:cntS (setSt K5.st d 3) 3<=12:=cntTo_le _ _ _;conv=>whnf
     repeat ((first|refine CW.s ?_);conv=>whnf)
     refine Ca.of (eis_ok 8 8 (by decide) w5) ?_;rintro _ _ ⟨rfl,rfl⟩;conv=>whnf
     repeat ((first|(refine Ld.of h5.core.c1 ?_)|refine Br.f ?_);conv=>whnf)
     refine Ca.of (pset_ok h5.core.pool d 3 hd12 (by omega)) ?_;rintro _ w6 ⟨⟨e6,rfl⟩,q6,k6'⟩;have h6:On w6 N { K5 with st:=setSt K5.st d 3 } P5 b5 n5 X c:=h5.pool k6' q6;have kk6:=C5.k.trans (Keep.of1 (by simp[Cr.own]) k6');have hbad:=hB (12-cntS (setSt K5.st d 3) 3) (by omega) w6 N { K5 with st:=setSt K5.st d 3 } X c P5 b5 n5 h6 ⟨k6,W6⟩ (Nat.le_refl _);have hf2:(f2=true/\2<=cntS (setSt K5.st d 3) 3)\/(f2=true/\¬2<=cntS (setSt K5.st d 3) 3)\/f2=false:=by
      cases f2
      ·exact .inr (.inr rfl)
      ·by_cases x:2<=cntS (setSt K5.st d 3) 3
       ·exact .inl ⟨rfl,x⟩
       ·exact .inr (.inl ⟨rfl,x⟩)
     rcases hf2 with⟨rfl,hl2⟩|⟨rfl,hl2⟩|rfl
     case' inl =>
      conv=>whnf
      repeat ((first|(refine Ld.of h6.core.c1 ?_)|refine Br.t ?_|refine CW.s ?_);conv=>whnf)
      refine Ca.of (count_ok h6.core.pool 3) ?_;rintro _ _ ⟨rfl,rfl⟩;conv=>whnf
      repeat ((first|(refine Br.is (decide_eq_true (by show((cntS (setSt K5.st d 3) 3:Nat):Int)≥2;omega)) ?_)|refine Br.t ?_|refine Pk.t ?_);conv=>whnf)
      refine Ca.of (worn'_ok h6 hv) ?_;rintro _ w7 ⟨rfl,h7,k7⟩;conv=>whnf
      exact⟨rfl,kk6.trans k7,.inl ⟨_,P5,b5,n5,hb5,h7,14,rfl,hlast rfl hl2⟩⟩
     case' inr.inl =>
      conv=>whnf
      repeat ((first|(refine Ld.of h6.core.c1 ?_)|refine Br.t ?_|refine CW.s ?_);conv=>whnf)
      refine Ca.of (count_ok h6.core.pool 3) ?_;rintro _ _ ⟨rfl,rfl⟩;conv=>whnf
      repeat ((first|(refine Br.isnt (decide_eq_false (by show ¬((cntS (setSt K5.st d 3) 3:Nat):Int)≥2;omega)) ?_)|refine Br.t ?_|refine Pk.t ?_);conv=>whnf)
     case' inr.inr =>
      conv=>whnf
      repeat ((first|refine Br.f ?_|refine Pk.f ?_|refine CW.s ?_);conv=>whnf)
     all_goals
      refine Ca.of hbad ?_;rintro _ w7 ⟨k7,⟨K7,P7,b7,n7,hb7,h7,e7,rfl,hV⟩|⟨hb7,Q,n7,h7,rfl,htw⟩⟩
      case' inr =>
       conv=>whnf
       repeat ((first|refine Br.t ?_|refine Ru.n1 ?_);conv=>whnf)
       exact⟨rfl,kk6.trans k7,.inr ⟨fun x=>hb7 (hb5 x),Q,n7,h7,rfl,htw⟩⟩
      obtain⟨o1,o2⟩:=hbads K7 P7 e7 hV;rcases hV.er with rfl|rfl
      case' inr =>
       conv=>whnf
       repeat ((first|refine Br.t ?_|refine Ru.n1 ?_);conv=>whnf)
       exact⟨rfl,kk6.trans k7,.inl ⟨K7,P7,b7,n7,fun x=>hb7 (hb5 x),h7,14,rfl,o2 rfl⟩⟩
      obtain⟨o3,o4⟩:=o1 rfl;have hc7:cntS K7.st 3<=12:=cntTo_le _ _ _;conv=>whnf
      repeat ((first|refine Br.f ?_|refine Ru.neq_nil0 ?_);conv=>whnf)
      exact⟨(_,R2,K7,P7,b7,n7),⟨fun x=>hb7 (hb5 x),o3,h7,kk6.trans k7⟩,⟨rfl,rfl,rfl,rfl,trivial⟩,by simp only;omega⟩
    ·conv=>whnf
     repeat ((first|refine CW.s ?_);conv=>whnf)
     refine Ca.of (eis_ok 7 8 (by decide) w5) ?_;rintro _ _ ⟨rfl,rfl⟩;conv=>whnf
     repeat ((first|refine Br.t ?_);conv=>whnf)
     exact⟨rfl,C5.k,.inr ⟨hbb,P5,n5,h5,rfl,htw⟩⟩
 ·rcases B3.cs with⟨rfl,hb3,h3,-,os,l,M,C,hz,hZ,rfl,h7,hall,hlen,hnx⟩|⟨rfl,hb3,h3,M,hmd⟩|⟨rfl,hbb,h3,htw⟩
  all_goals
   conv=>whnf
   repeat ((first|refine Br.t ?_|refine Br.f ?_|refine Pk.f ?_|refine Pk.t ?_|refine Ru.eql_nil0 ?_|refine Ru.e1 ?_);conv=>whnf)
  ·exact⟨(true,0,K3,P3,b3,n3,Z,l.length,cz),⟨B3.k,fun _=>rfl,fun _=>.inl hF1,.inl ⟨rfl,hb3,h3,⟨.inl rfl,hlb0 rfl⟩,os,l,M,C,hz,hZ,rfl,h7,hall,hlen,hnx⟩⟩,⟨rfl,rfl,rfl,congrArg Value.bool hR2.symm,rfl,rfl,rfl,trivial⟩⟩
  ·exact⟨(true,8,K3,P3,b3,n3,Z,m,cz),⟨B3.k,fun _=>rfl,fun _=>.inl hF1,.inr (.inl ⟨rfl,hb3,h3,M,hmd⟩)⟩,⟨rfl,rfl,rfl,congrArg Value.bool hR2.symm,rfl,rfl,rfl,trivial⟩⟩
  ·exact⟨(true,7,K3,P3,b3,n3,Z,m,cz),⟨B3.k,fun _=>rfl,fun _=>.inl hF1,.inr (.inr ⟨rfl,hbb,h3,htw⟩)⟩,⟨rfl,rfl,rfl,congrArg Value.bool hR2.symm,rfl,rfl,rfl,trivial⟩⟩
 ·rcases B3.cs with⟨rfl,hb3,h3,-,os,l,M,C,hz,hZ,rfl,h7,hall,hlen,hnx⟩|⟨rfl,hb3,h3,M,hmd⟩|⟨rfl,hbb,h3,htw⟩
  all_goals
   conv=>whnf
   repeat ((first|refine Br.t ?_|refine Br.f ?_|refine Pk.f ?_|refine Pk.t ?_|refine Ru.eql_nil0 ?_|refine Ru.e1 ?_);conv=>whnf)
  ·exact⟨(false,0,K3,P3,b3,n3,Z,l.length,cz),⟨B3.k,fun x=>(by rw[hF1] at x;exact x),fun x=>(by cases x),.inl ⟨rfl,hb3,h3,⟨.inr (.inl ⟨hR2,hlb0 rfl⟩),hlb0 rfl⟩,os,l,M,C,hz,hZ,rfl,h7,hall,hlen,hnx⟩⟩,⟨rfl,rfl,rfl,congrArg Value.bool hR2.symm,rfl,rfl,rfl,trivial⟩⟩
  ·exact⟨(false,8,K3,P3,b3,n3,Z,m,cz),⟨B3.k,fun x=>(by rw[hF1] at x;exact x),fun x=>(by cases x),.inr (.inl ⟨rfl,hb3,h3,M,hmd⟩)⟩,⟨rfl,rfl,rfl,congrArg Value.bool hR2.symm,rfl,rfl,rfl,trivial⟩⟩
  ·exact⟨(false,7,K3,P3,b3,n3,Z,m,cz),⟨B3.k,fun x=>(by rw[hF1] at x;exact x),fun x=>(by cases x),.inr (.inr ⟨rfl,hbb,h3,htw⟩)⟩,⟨rfl,rfl,rfl,congrArg Value.bool hR2.symm,rfl,rfl,rfl,trivial⟩⟩
 ·rcases B3.cs with⟨rfl,hb3,h3,-,os,l,M,C,hz,hZ,rfl,h7,hall,hlen,hnx⟩|⟨rfl,hb3,h3,M,hmd⟩|⟨rfl,hbb,h3,htw⟩
  ·obtain⟨k4,W3⟩:=M.w;have hall0:∀o,o<25->K3.at_ o≠0->(K3.at_ o-1)/8=v->o∈os:=fun o ho e hb=>hall o ho e hb (.inl rfl);conv=>whnf
   repeat ((first|(refine Ld.of h3.core.c0 ?_)|refine Br.t ?_|refine Pk.t ?_|refine Ru.eql_nil0 ?_);conv=>whnf)
   refine Ca.of (aerase_ok h3.med (B:=v) hv) ?_;rintro _ w4 ⟨k4,hr4⟩;have kc4:Keep N.N.l w3 w4:=k4.mono (fun x hx=>by rw[List.mem_singleton.1 hx];simp[Pt.l]);have kk4:=B3.k.trans (Keep.ofl kc4);have hz4:=hz.keep (Keep.ofl kc4) (h3.tagsApart hz);rcases hr4.two with⟨b4,hb4,rfl,M4⟩|⟨hb4,Q,hQ,rfl,M4⟩
   ·have h4:=h3.chip kc4 M4;rcases erase_w P3 v with⟨e1,e2,e3⟩|⟨e1,e2,e3,e4⟩
    ·rw[e1];rw[e2] at h4;conv=>whnf
     repeat ((first|(refine Ld.of h4.core.c1 ?_)|refine Br.t ?_|refine Ru.eql_nil0 ?_|refine CW.s ?_);conv=>whnf)
     refine Ca.of (pset_ok h4.core.pool v 0 hv (by omega)) ?_;rintro _ w5 ⟨⟨e5,rfl⟩,q5,k5⟩;have h5:=h4.pool k5 q5;have z5:=hz4.keep (Keep.of1 (by simp[Cr.own]) k5) (h4.tagsApart hz4);conv=>whnf
     repeat ((first|(refine Ld.of h5.core.c4 ?_));conv=>whnf)
     refine Ca.of (Hl.erased_ok w5 N.e _ h5.core.health v hv) ?_;rintro _ w6 ⟨rfl,q6,k6⟩;have h6:On w6 N (vc2 K3 v) (P3.wipe v) b4 n3 X c:=h5.health k6 q6;have z6:=z5.keep (Keep.of1 (by simp[Cr.own]) k6) (h5.tagsApart z5);have kk6:=(kk4.trans (Keep.of1 (by simp[Cr.own]) k5)).trans (Keep.of1 (by simp[Cr.own]) k6);conv=>whnf
     refine Ca.of (ends_ok h6 hd12 z6 (by have:=C.len;omega) (C.tgs hd12) (fun i hi=>C.wf (K2:=vc2 K3 v) W3.con hd12 M.dst.dead rfl rfl rfl i (by omega)) W3.fb W3.fi) ?_;rintro _ w7 ⟨rfl,h7',k7⟩;conv=>whnf
     exact⟨rfl,kk6.trans k7,.inl ⟨_,_,b4,n3,fun x=>hb4 (hb3 x),h7',0,rfl,J.erased hw M C hF1 hall0 hlen hnx e3⟩⟩
    ·rw[e1];have M4':=M.again e2 e4;have C4:=C.again e2;have hmv:=M.may v e3;conv=>whnf
     repeat ((first|refine Br.f ?_|refine Ru.e1 ?_|refine CW.s ?_);conv=>whnf)
     refine Ca.of (eis_ok 8 8 (by decide) w4) ?_;rintro _ _ ⟨rfl,rfl⟩
     cases lb
     ·conv=>whnf
      repeat ((first|refine Br.t ?_|refine Br.f ?_);conv=>whnf)
      exact⟨(true,0,K3,_,b4,n3,Z,l.length,cz),⟨kk4,fun _=>rfl,fun _=>.inr hmv,.inl ⟨rfl,fun x=>hb4 (hb3 x),h4,⟨.inl rfl,hlb0 rfl⟩,os,l,M4',C4,hz4,hZ,rfl,h7,fun o ho e hb _=>hall0 o ho e hb,hlen,hnx⟩⟩,⟨rfl,rfl,rfl,congrArg Value.bool hR2.symm,rfl,rfl,rfl,trivial⟩⟩
     ·conv=>whnf
      repeat ((first|(refine Ld.of h4.core.c1 ?_)|refine Br.t ?_);conv=>whnf)
      refine Ca.of (pset_ok h4.core.pool d 2 hd12 (by omega)) ?_;rintro _ w5 ⟨⟨e5,rfl⟩,q5,k5⟩;have h5:=h4.pool k5 q5;conv=>whnf
      refine Ca.of (worn'_ok h5 hv) ?_;rintro _ w6 ⟨rfl,h6,k6⟩;conv=>whnf
      exact⟨rfl,(kk4.trans (Keep.of1 (by simp[Cr.own]) k5)).trans k6,.inl ⟨_,_,b4,n3,fun x=>hb4 (hb3 x),h6,14,rfl,J.efail M4' hnx (hlb1 rfl) hmv⟩⟩
   ·conv=>whnf
    repeat ((first|refine Br.f ?_|refine Ru.e1 ?_|refine CW.s ?_);conv=>whnf)
    refine Ca.of (eis_ok 7 8 (by decide) w4) ?_;rintro _ _ ⟨rfl,rfl⟩;conv=>whnf
    repeat ((first|refine Br.f ?_);conv=>whnf)
    rw[List.mem_singleton.1 hQ] at M4;exact⟨(false,7,K3,P3,b3,n3,Z,l.length,cz),⟨kk4,fun x=>(by rw[hF1] at x;exact x),fun x=>(by cases x),.inr (.inr ⟨rfl,fun x=>hb4 (hb3 x),M4,M.tw⟩)⟩,⟨rfl,rfl,rfl,congrArg Value.bool hR2.symm,rfl,rfl,rfl,trivial⟩⟩
  all_goals
   conv=>whnf
   repeat ((first|refine Br.f ?_|refine Pk.f ?_|refine Ru.e1 ?_);conv=>whnf)
  ·exact⟨(false,8,K3,P3,b3,n3,Z,m,cz),⟨B3.k,fun x=>(by rw[hF1] at x;exact x),fun x=>(by cases x),.inr (.inl ⟨rfl,hb3,h3,M,hmd⟩)⟩,⟨rfl,rfl,rfl,congrArg Value.bool hR2.symm,rfl,rfl,rfl,trivial⟩⟩
  ·exact⟨(false,7,K3,P3,b3,n3,Z,m,cz),⟨B3.k,fun x=>(by rw[hF1] at x;exact x),fun x=>(by cases x),.inr (.inr ⟨rfl,hbb,h3,htw⟩)⟩,⟨rfl,rfl,rfl,congrArg Value.bool hR2.symm,rfl,rfl,rfl,trivial⟩⟩
theorem bad_step{a:Nat->Nat->Nat}{μ:Nat}(hV:∀x,x<=μ->VacC a x):BadC a μ:=by
 intro w N K X c P b n h hW hμ;obtain⟨k0,hW⟩:=hW;have hI:=BI.start hW;have far:∀x,w.heap.size<=x->x∉N.all:=fun x hx hm=>by
  have h3:x<w.heap.size:=by
   rcases List.mem_append.1 hm with hm|hm
   ·exact h.core.lt (List.mem_append_left _ hm)
   ·exact h.l_lt _ hm
  omega
 refine spec_of_wpE (T:=tt) tt_ok Tryz.func151 rfl (by decide +kernel) Tryz.ntmps151 (by simp) ?_;refine CW.loop (ι:=KS×CS×Option Nat×Int) (fun i w'=>(b=none->i.2.2.1=none)/\BI a K P i.1 i.2.1/\On w' N i.1 i.2.1 i.2.2.1 i.2.2.2 X c/\Keep N.all w w')
  (fun i=>[(0,.pointer (some ⟨N.k,0,none⟩))]) (fun i=>12-cntS i.1.st 3) (K,P,b,n) tt_ok ⟨id,hI,h,Keep.refl _ _⟩ ⟨rfl,trivial⟩ ?_;clear hI;rintro⟨K1,P1,b1,n1⟩ wr ⟨hbn,I,h1,k1⟩;simp only at hbn I h1 k1 ⊢;obtain⟨kk,W1⟩:=I.w;have hc12:cntS K1.st 3<=12:=cntTo_le _ _ _;have hcμ:cntS K.st 3<=cntS K1.st 3:=cnt3_le I.st3;conv=>whnf
 repeat ((first|(refine Ld.of h1.core.c1 ?_)|refine CW.s ?_);conv=>whnf)
 refine Ca.of (worn_ok h1.core.pool) ?_;rintro _ _ ⟨rfl,rfl⟩;by_cases hw:wornB K1.st=true
 ·rw[hw];conv=>whnf
  repeat ((first|refine Br.t ?_);conv=>whnf)
  exact⟨rfl,k1,.inl ⟨K1,P1,b1,n1,hbn,h1,14,rfl,I.worn hw⟩⟩
 have hw:wornB K1.st=false:=by simpa using hw
 rw[hw];conv=>whnf
 repeat ((first|refine Br.f ?_);conv=>whnf)
 refine CW.cut (ι:=KS×CS) (fun i w'=>i.2=P1/\BO a K1 i.1 P1/\On w' N i.1 P1 b1 n1 X c/\Keep N.all w w') (fun i=>[(0,.pointer (some ⟨N.k,0,none⟩))]) tt_ok ?_ ?_
 ·conv=>whnf
  repeat ((first|(refine Ld.of h1.core.c3 ?_));conv=>whnf)
  refine Ca.of (froom_ok h1.core.front 24 W1.fb W1.fi (Nat.le_refl _)) ?_;rintro _ w2 ⟨rfl,q2,k2⟩;have h2:=h1.keep0 k2;have kk2:=k1.trans (Keep.of0 k2);by_cases hr:roomB K1.fo K1.fi 24=true
  ·rw[hr];conv=>whnf
   repeat ((first|refine Br.f ?_);conv=>whnf)
   exact⟨(K1,P1),⟨rfl,BO.same W1 hr,h2,kk2⟩,⟨rfl,trivial⟩⟩
  ·have hr:roomB K1.fo K1.fi 24=false:=by simpa using hr
   rw[hr];conv=>whnf
   repeat ((first|refine Br.t ?_);conv=>whnf)
   refine Ca.of (shut_ok h2 W1.fb) ?_;rintro _ w3 ⟨rfl,h3,k3⟩;have kk3:=kk2.trans k3;conv=>whnf
   repeat ((first|(refine Ld.of h3.core.c1 ?_));conv=>whnf)
   refine Ca.of (ptake_ok h3.core.pool W1.shut.1.pn) ?_;intro u w4 hu;unfold TakeEnd at hu;by_cases htn:takeN (shK K1).st (shK K1).pn=none
   ·rw[htn] at hu;obtain⟨rfl,rfl⟩:=hu;conv=>whnf
    repeat ((first|refine Br.t ?_|refine Ru.n1 ?_|refine CW.s ?_);conv=>whnf)
    exact⟨rfl,kk3,.inl ⟨_,P1,b1,n1,hbn,h3,14,rfl,I.none hr htn⟩⟩
   ·obtain⟨d,htk⟩:=Option.ne_none_iff_exists'.1 htn;rw[htk] at hu;obtain⟨rfl,q4,k4⟩:=hu;have h4:=h3.pool k4 q4;conv=>whnf
    repeat ((first|(refine Ld.of h4.core.c3 ?_)|refine Br.f ?_|refine Ru.neq_nil0 ?_|refine CW.s ?_);conv=>whnf)
    refine Ca.of (fopen_ok h4.core.front d 0 (takeFrom_lt htk).1 (by omega)) ?_;rintro _ w5 ⟨rfl,q5,k5⟩;have h5:=h4.front k5 q5;conv=>whnf
    exact⟨(_,P1),⟨rfl,BO.taken W1 htk,h5,(kk3.trans (Keep.of1 (by simp[Cr.own]) k4)).trans (Keep.of1 (by simp[Cr.own]) k5)⟩,⟨rfl,trivial⟩⟩
 clear h1 k1;rintro⟨Kf,P2⟩ w2 ⟨rfl,O,h2,k2⟩;simp only at O h2 k2 ⊢;obtain⟨kf,Wf⟩:=O.w;have hro:=O.room;have Fr:=Wf.fresh (Nat.le_refl 24) hro;have hwf:wornB Kf.st=false:=by
  unfold wornB at hw ⊢;rw[O.c3];exact hw
 have hcf:=O.c3;have hfb12:=Wf.fb;conv=>whnf
 repeat ((first|(refine Ld.of h2.core.c3 ?_));conv=>whnf)
 refine Ca.of (fblock_ok h2.core.front) ?_;rintro _ _ ⟨rfl,rfl⟩;rw[if_pos Fr.fo];conv=>whnf
 repeat ((first|(refine Ld.of h2.core.c3 ?_));conv=>whnf)
 refine Ca.of (ftake_ok h2.core.front 24 Wf.fb Wf.fi (Nat.le_refl _) hro) ?_;rintro _ w3 ⟨rfl,q3,k3⟩;have h3:On w3 N (tkK Kf) P2 b1 n1 X c:=h2.front k3 q3;have kk3:=k2.trans (Keep.of1 (by simp[Cr.own]) k3);by_cases hn:Kf.next<1099511627775
 case neg =>
  conv=>whnf
  repeat ((first|refine Br.f ?_|refine Ru.neq_nil0 ?_|refine CW.s ?_);conv=>whnf)
  refine Ca.of (cseq14_ok h3 (by show 1099511627775<=Kf.next;omega)) ?_;rintro _ _ ⟨rfl,rfl⟩;conv=>whnf
  repeat ((first|refine Br.t ?_|refine Ru.n1 ?_|refine CW.s ?_);conv=>whnf)
  exact⟨rfl,kk3,.inl ⟨_,P2,b1,n1,hbn,h3,14,rfl,I.out O (by omega)⟩⟩
 conv=>whnf
 repeat ((first|refine Br.f ?_|refine Ru.neq_nil0 ?_|refine CW.s ?_);conv=>whnf)
 refine Ca.of (cseq_ok h3 ⟨by have:=Wf.nx;show 0<=Kf.next;omega,hn⟩) ?_;rintro _ w4 ⟨rfl,h4,k4⟩;have h4:On w4 N (tkK (sqK Kf)) P2 b1 n1 X c:=h4;have kk4:=kk3.trans k4;conv=>whnf
 repeat ((first|refine Br.f ?_|refine Ru.neq_nil0 ?_|refine CW.s ?_);conv=>whnf)
 refine Ca.of (cstate_ok h4 (tkK Kf).next (-1)) ?_;rintro _ w5 ⟨rfl,k5⟩;have h5:=h4.keep0 k5;conv=>whnf
 refine Ca.of (pwrite_ok w5 _ (show(stC (sqK Kf) Kf.next (-1)).told from stW_told Wf (by have:=Wf.nx;omega) (-1))) ?_;rintro _ w6 ⟨y,hy,rfl,r6,k6⟩;have h6:=h5.keep0 k6;have kk6:=(kk4.trans (Keep.of0 k5)).trans (Keep.of0 k6);clear k5 k6 h5;conv=>whnf
 repeat ((first|refine Br.f ?_|refine Ru.neq_nil0 ?_|refine CW.s ?_);conv=>whnf)
 refine Ru.of (build_tg3 _ _ _ _) ?_;rw[show Tg.mk ((Kf.fb*8+Kf.fi:Nat):Int) 24 (tkK Kf).next 0 false=nwTag Kf 24 from rfl];conv=>whnf
 refine Ru.alloctg ?_;intro x10 w7 hx10 hs7 r10a k7;conv=>whnf
 refine Ru.sttg r10a ?_;intro w8 r10 k8;have q8:Keep [] w6 w8:=k7.then k8 (fun x hx=>.inr (by rw[List.mem_singleton.1 hx,hx10];exact Nat.le_refl _));have h8:=h6.keep0 q8;have ry8:=r6.keep q8 (by simp);have kk8:=kk6.trans (Keep.of0 q8);have hx10w:w.heap.size<=x10:=by
  rw[hx10];exact kk6.size
 clear k7 k8 q8 h6 hs7 r10a r6
 have ly8:Ly w8 5 1 (some ⟨y,0,none⟩) 174 174 (fun j=>.int .u8 (noteD (sqK Kf) Kf.next j:Nat)):=(Ly.of_row ry8 (by omega) (by omega) (by simp[maxLen])).congr (fun j hj=>by
  unfold noteD;rw[ptN_int];rfl)
 conv=>whnf
 refine Ru.ldtg r10 ?_;conv=>whnf
 refine Ca.of (cpg_ok h8 Wf.hb (D:=noteD (sqK Kf) Kf.next) (p:=Kf.fb*8+Kf.fi) Fr.lt (fun j=>ptN_lt _ j) ly8 (nwTag_ok (Nat.le_refl 24) Fr ⟨Wf.nx.1,hn⟩) rfl Fr.bl) ?_;rintro _ w9 ⟨k9,hr9⟩;have r109:=r10.keep k9 (far x10 hx10w);have kk9:=kk8.trans k9;rw[show cutD (noteD (sqK Kf) Kf.next)=noteD (sqK Kf) Kf.next from ptN_cut _] at hr9;rcases hr9 with⟨K9,P9,b9,n9,hb9,h9,g1,⟨rfl,rfl,g2⟩|⟨rfl,rfl,g2,g3,-⟩⟩|⟨hb9,Q,n9,h9,rfl,g1,g2⟩
 ·conv=>whnf
  repeat ((first|refine Br.t ?_|refine Ru.eql_nil0 ?_|refine CW.s ?_);conv=>whnf)
  refine Ru.ldtg r109 ?_;conv=>whnf
  refine Ca.of (anew_ok h9 Wf.con.mw (t:=nwTag Kf 24) (o:=24) (p:=Kf.fb*8+Kf.fi) (by omega) Fr.lt rfl rfl) ?_;rintro _ w10 ⟨rfl,h10,k10⟩;conv=>whnf
  have h10':On w10 N (lyK Kf 24) P9 b9 n9 X c:=h10;exact⟨rfl,kk9.trans k10,.inl ⟨_,P9,b9,n9,fun x=>hb9 (hbn x),h10',0,rfl,I.noted O hw hn g1 g2⟩⟩
 ·have W9:=Wf.torn (Nat.le_refl 24) hro hn g1 g2;have hmf:P2.may Kf.fb:=by
   have:=Fr.fi;rw[show(Kf.fb*8+Kf.fi)/8=Kf.fb by omega] at g3;exact g3
  conv=>whnf
  repeat ((first|refine Br.f ?_|refine Ru.e1 ?_|refine CW.s ?_);conv=>whnf)
  refine Ca.of (eis_ok 8 8 (by decide) w9) ?_;rintro _ _ ⟨rfl,rfl⟩;conv=>whnf
  repeat ((first|(refine Ld.of h9.core.c2 ?_)|refine Br.f ?_|refine CW.s ?_);conv=>whnf)
  refine Ca.of (mlive_ok h9.core.map (fun o ho=>Wf.lt ho)) ?_;rintro _ w10 ⟨g,rfl,rg,hg,k10⟩;have h10:=h9.keep0 k10;have kk10:=kk9.trans (Keep.of0 k10);have cg:w10.cell? ⟨g,0+Kf.fb,none⟩=some (.int .i64 (lv Kf.at_ Kf.fb:Nat)):=by
   rw[Nat.zero_add];exact rg.cell Kf.fb hfb12
  by_cases hl:lv Kf.at_ Kf.fb=0
  ·conv=>whnf
   repeat ((first|(refine Ix.of Kf.fb (by omega) (by omega) ?_)|(refine Ld.at (by omega) cg ?_)|(refine Br.isnt (decide_eq_false (by omega)) ?_)|(refine Ld.of h10.core.c3 ?_));conv=>whnf)
   refine Ca.of (fclose_ok h10.core.front) ?_;rintro _ w11 ⟨rfl,q11,k11⟩;have h11:=h10.front k11 q11;conv=>whnf
   repeat ((first|(refine Ld.of h11.core.c1 ?_));conv=>whnf)
   refine Ca.of (pset_ok h11.core.pool Kf.fb 3 hfb12 (by omega)) ?_;rintro _ w12 ⟨⟨e12,rfl⟩,q12,k12⟩;have h12:=h11.pool k12 q12;obtain⟨I2,c2⟩:=I.again O hn g1 g2 hmf hl;have hc2:cntS (setSt Kf.st Kf.fb 3) 3<=12:=cntTo_le _ _ _;conv=>whnf
   exact⟨(_,P9,b9,n9),⟨fun x=>hb9 (hbn x),I2,h12,(kk10.trans (Keep.of1 (by simp[Cr.own]) k11)).trans (Keep.of1 (by simp[Cr.own]) k12)⟩,⟨rfl,trivial⟩,by simp only;omega⟩
  ·conv=>whnf
   repeat ((first|(refine Ix.of Kf.fb (by omega) (by omega) ?_)|(refine Ld.at (by omega) cg ?_)|(refine Br.is (decide_eq_true (by omega)) ?_));conv=>whnf)
   refine Ca.of (hV (12-cntS Kf.st 3) (by omega) w10 N _ X c P9 b9 n9 Kf.fb true false h10 ⟨kf,W9⟩ hfb12 (.inr ⟨Fr.fo,rfl⟩) (Nat.le_refl _)) ?_;rintro _ w11 ⟨k11,⟨K11,P11,b11,n11,hb11,h11,e11,rfl,hVe⟩|⟨hb11,Q,n11,h11,rfl,htw⟩⟩
   ·conv=>whnf
    exact⟨rfl,kk10.trans k11,.inl ⟨K11,P11,b11,n11,fun x=>hb11 (hb9 (hbn x)),h11,e11,rfl,I.vac O g1.may hmf hVe⟩⟩
   ·conv=>whnf
    exact⟨rfl,kk10.trans k11,.inr ⟨fun x=>hb11 (hb9 (hbn x)),Q,n11,h11,rfl,htw⟩⟩
 ·conv=>whnf
  repeat ((first|refine Br.f ?_|refine Ru.e1 ?_|refine CW.s ?_);conv=>whnf)
  refine Ca.of (eis_ok 7 8 (by decide) w9) ?_;rintro _ _ ⟨rfl,rfl⟩;conv=>whnf
  repeat ((first|refine Br.t ?_);conv=>whnf)
  exact⟨rfl,kk9,.inr ⟨fun x=>hb9 (hbn x),Q,n9,h9,rfl,Wf.torn_tw (Nat.le_refl 24) hro hn g1 g2⟩⟩
theorem both_ok(a:Nat->Nat->Nat)(μ:Nat):VacC a μ/\BadC a μ:=by
 induction μ using Nat.strongRecOn with
 | _ μ ih =>
  have hv:VacC a μ:=vac_step (fun x hx=>(ih x hx).2);refine⟨hv,bad_step (fun x hx=>?_)⟩;by_cases e:x=μ
  ·rw[e];exact hv
  ·exact(ih x (by omega)).1
section
variable{w w':World}{N:Cr}{K:KS}{X:Option Addr}{c:Nat}{P:CS}{b:Option Nat}{n:Int}{a:Nat->Nat->Nat}{k:Cp}
theorem vacw_ok(h:On w N K P b n X c)(W:Wi a k K P){v:Nat}(hv:v<12)(hv2:K.st v=2\/K.fo=true/\K.fb=v)(f r:Bool) :
  Spec Tryz.prog 102 #[.pointer (some ⟨N.k,0,none⟩),.int .i64 v,.bool f,.bool r] w fun u w'=>Fin N X c b w w' (fun K' P'=>∃e,u=errOf e/\VacW a v f r K P K' P' e) (fun Q=>u=errOf 7/\Tw Q 1099511627775 a) :=
 (both_ok a _).1 w N K X c P b n v f r h ⟨k,W⟩ hv hv2 (Nat.le_refl _)
end
structure Rm0(K:KS)(P:CS):Prop where
 opn:∀b,b<12->K.st b=1->K.fo=true/\K.fb=b
 bd:cntS K.st 3<=2
 free:1+2*(2-cntS K.st 3)<=cntS K.st 0
 x:∃x,(∀B,B<12->P.may B->B=x)/\(x<12->P.may x->K.st x=3\/cntS K.st 3<=1)
theorem Rm.to0{β:Int}{K:KS}{P:CS}(h:Rm β K P):Rm0 K P:=⟨h.opn,h.bd,h.free,h.x⟩
theorem Rm0.to{K:KS}{P:CS}(h:Rm0 K P)(hn:K.next+20<=1099511627775):Rm K.next K P:=⟨h.opn,h.bd,h.free,h.x,by omega,hn⟩
theorem Rm0.same{K K':KS}{P P':CS}(h:Rm0 K P)(e1:K'.st=K.st)(e2:K'.fo=K.fo)(e3:K'.fb=K.fb)(hm:∀B,P'.may B->P.may B):Rm0 K' P':=by
 obtain⟨x,x1,x2⟩:=h.x;exact⟨by rw[e1,e2,e3];exact h.opn,by rw[e1];exact h.bd,by rw[e1];exact h.free,⟨x,fun B hB hb=>x1 B hB (hm B hb),fun hx hb=>by rw[e1];exact x2 hx (hm x hb)⟩⟩
theorem Rm0.shut{K K0:KS}{P:CS}(h:Rm0 K P)(S:ShutW K K0):Rm0 K0 P/\∀b,b<12->K0.st b≠1:=by
 obtain⟨c0,c3⟩:=cntS_same S.st;have no:∀b,b<12->K0.st b≠1:=fun b hb e=>by
  rcases S.st b with x|x
  ·obtain⟨y1,y2⟩:=h.opn b hb (by omega);have:=S.front y1;rw[y2] at this;omega
  ·omega
 obtain⟨x,x1,x2⟩:=h.x;refine⟨⟨fun b hb e=>absurd e (no b hb),by rw[c3];exact h.bd,by rw[c3,c0];exact h.free,⟨x,x1,fun hx hm=>?_⟩⟩,no⟩;rw[c3];rcases x2 hx hm with y|y
 ·rcases S.st x with z|z
  ·exact .inl (by rw[z];exact y)
  ·omega
 ·exact .inr y
theorem cntTo_all3{st:Nat->Nat}:∀ {n:Nat},(∀b,b<n->st b<=3/\st b≠1)->cntTo st 0 n+cntTo st 2 n+cntTo st 3 n=n
 |0,_=>rfl
 | n+1,h=>by
  have ih:=cntTo_all3 (st:=st) (n:=n) (fun b hb=>h b (by omega));have:=h n (by omega);unfold cntTo;by_cases h0:st n=0
  ·simp only[h0];simp;omega
  ·by_cases h2:st n=2
   ·simp only[h2];simp;omega
   ·have h3:st n=3:=by omega
    simp only[h3];simp;omega
theorem few_live{a:Nat->Nat->Nat}{k:Cp}{K:KS}{P:CS}(h:Wi a k K P)(R:Rm0 K P)(no:∀b,b<12->K.st b≠1)(hs:spareB K.st=false):∃v:Nat,bestK K=v/\v<12/\K.st v=2/\(ofL K.ow v).length<=4:=by
 have hbd:=R.bd;have hfree:=R.free;have hb:cntS K.st 0<=1+2*(2-cntS K.st 3):=by
  unfold spareB boundN wornB at hs;have:=of_decide_eq_false hs;rw[if_neg (by simp;omega)] at this;omega
 have hall:cntS K.st 0+cntS K.st 2+cntS K.st 3=12:=cntTo_all3 (fun b hb=>⟨h.st b hb,no b hb⟩);have h7:7<=cntS K.st 2:=by omega
 have hsum:=sum_lv K.at_ 25;obtain⟨b0,hb0,hlv⟩:∃b0,b0<12/\K.st b0=2/\lv K.at_ b0<=3:=Classical.byContradiction fun hno=>by
  have:=cnt_mul (st:=K.st) (f:=lv K.at_) (s:=2) (x:=4) (n:=12) (fun b hb e=>Classical.byContradiction fun hx=>hno ⟨b,hb,e,by omega⟩);have hsum:sumTo (lv K.at_) 12<=25:=hsum;have:cntS K.st 2*4<=sumTo (lv K.at_) 12:=this;omega
 obtain⟨m1,m2⟩:=bestOf_min (s:=fun j=>(K.st j:Nat)) (l:=fun j=>(lv K.at_ j:Nat)) (n:=12);obtain⟨p1,p2⟩:=m1 b0 hb0 (by have:=hlv.1;omega);have hlt:=(bestOf_lt (fun j=>(K.st j:Nat)) (fun j=>(lv K.at_ j:Nat)) 12).2;have m2:=m2 p1;have hbe:bestK K=bestOf (fun j=>(K.st j:Nat)) (fun j=>(lv K.at_ j:Nat)) 12:=rfl;generalize bestOf (fun j=>((K.st j:Nat):Int)) (fun j=>((lv K.at_ j:Nat):Int)) 12=z at *;refine⟨z.toNat,by rw[hbe];omega,by omega,by omega,?_⟩;have:=ofL_len h.con (b:=z.toNat) (by omega);have:=hlv.2;omega
structure OpW(a:Nat->Nat->Nat)(of:Nat)(K:KS)(P:CS)(K':KS)(P':CS)(e:Int):Prop where
 er:e=0\/e=14
 w:∃k,Wi a k K' P'
 st3:∀u,u<12->K.st u=3->K'.st u=3
 may:∀B,P'.may B->P.may B
 nx:K'.next-3*(cntS K'.st 3:Nat)<=K.next-3*(cntS K.st 3:Nat)
 le:K.next<=K'.next
 qu:K'.qu=K.qu
 cur:K'.cur=K.cur
 tg:TagK K K'
 nw:e=0->wornB K'.st=false
 room:e=0->roomB K'.fo K'.fi of=true
 rm:Rm0 K P->K.next+60<=1099511627775->e=0/\Rm0 K' P'
structure OI(a:Nat->Nat->Nat)(of i:Nat)(K:KS)(P:CS)(K':KS)(P':CS):Prop where
 w:∃k,Wi a k K' P'
 st3:∀u,u<12->K.st u=3->K'.st u=3
 may:∀B,P'.may B->P.may B
 nx:K'.next-3*(cntS K'.st 3:Nat)<=K.next-3*(cntS K.st 3:Nat)
 le:K.next<=K'.next
 qu:K'.qu=K.qu
 cur:K'.cur=K.cur
 tg:TagK K K'
 nw:wornB K'.st=false
 rm:Rm0 K P->K.next+60<=1099511627775->Rm0 K' P'/\(i=0\/i=1/\roomB K'.fo K'.fi of=true)
section
variable{a:Nat->Nat->Nat}{of i:Nat}{K K1 K':KS}{P P1 P':CS}{e:Int}
theorem OI.out(I:OI a of i K P K1 P1)(h:∃k,Wi a k K' P1)(e:∃st pn fo fb fi,K'={ K1 with st:=st,pn:=pn,fo:=fo,fb:=fb,fi:=fi })(h3:∀u,u<12->K1.st u=3->K'.st u=3)(hno:Rm0 K1 P1->(i=0\/i=1/\roomB K1.fo K1.fi of=true)->False):OpW a of K P K' P1 14:=by
 have hc:cntS K1.st 3<=cntS K'.st 3:=cnt3_le h3;obtain⟨_,_,_,_,_,ee⟩:=e;have e1:K'.next=K1.next/\K'.qu=K1.qu/\K'.cur=K1.cur:=by rw[ee];exact⟨rfl,rfl,rfl⟩
 refine⟨.inr rfl,h,fun u hu h=>h3 u hu (I.st3 u hu h),I.may,?_,?_,e1.2.1.trans I.qu,e1.2.2.trans I.cur,I.tg.trans (.same (by rw[ee]) (by rw[ee])),fun x=>(by cases x),fun x=>(by cases x),fun R hn=>?_⟩
 ·have:=I.nx;rw[e1.1];omega
 ·rw[e1.1];exact I.le
 ·obtain⟨R1,hi⟩:=I.rm R hn;exact(hno R1 hi).elim
theorem OI.shut(I:OI a of i K P K1 P1)(hr:roomB K1.fo K1.fi of=false)(S:ShutW K1 (shK K1))(hRm:Rm0 K P)(hn:K.next+60<=1099511627775):Rm0 (shK K1) P1/\(∀b,b<12->(shK K1).st b≠1)/\i=0:=by
 obtain⟨R1,hi⟩:=I.rm hRm hn;obtain⟨R2,no⟩:=R1.shut S;refine⟨R2,no,?_⟩;rcases hi with x|⟨_,x⟩
 ·exact x
 ·rw[hr] at x;cases x
end
section
variable{w w':World}{N:Cr}{K:KS}{X:Option Addr}{c:Nat}{P:CS}{b:Option Nat}{n:Int}{a:Nat->Nat->Nat}{k:Cp}
theorem openw_ok(h:On w N K P b n X c)(W:Wi a k K P)(hw:wornB K.st=false){of:Nat}(ho:of<=24) :
  Spec Tryz.prog 106 #[.pointer (some ⟨N.k,0,none⟩),.int .i64 of] w fun u w'=>Fin N X c b w w' (fun K' P'=>∃e,u=errOf e/\OpW a of K P K' P' e) (fun Q=>u=errOf 7/\Tw Q 1099511627775 a):=by
 refine spec_of_wpE (T:=tt) tt_ok Tryz.func106 rfl (by decide +kernel) Tryz.ntmps106 (by simp) ?_;conv=>whnf
 repeat ((first|refine CW.s ?_);conv=>whnf)
 refine CW.loop (ι:=Nat×KS×CS×Option Nat×Int) (fun i w'=>i.1<=48/\(b=none->i.2.2.2.1=none)/\OI a of i.1 K P i.2.1 i.2.2.1/\On w' N i.2.1 i.2.2.1 i.2.2.2.1 i.2.2.2.2 X c/\Keep N.all w w')
  (fun i=>[(0,.pointer (some ⟨N.k,0,none⟩)),(1,.int .i64 of),(10,.int .i64 i.1)]) (fun i=>48-i.1) (0,K,P,b,n) tt_ok ⟨by simp,id,⟨⟨k,W⟩,fun _ _ x=>x,fun _ x=>x,Int.le_refl _,Int.le_refl _,rfl,rfl,TagK.refl K,hw,fun R _=>⟨R,.inl rfl⟩⟩,h,Keep.refl _ _⟩ ⟨rfl,rfl,rfl,trivial⟩ ?_;rintro⟨i,K1,P1,b1,n1⟩ wr ⟨hi,hbn,I,h1,kk⟩;simp only at hi hbn I h1 kk ⊢;obtain⟨k1,W1⟩:=I.w;by_cases hlt:i<48
 ·conv=>whnf
  repeat ((first|(refine Ld.of h1.core.c3 ?_)|refine Br.y ?_|refine CW.s ?_);conv=>whnf)
  refine Ca.of (froom_ok h1.core.front of W1.fb W1.fi ho) ?_;rintro _ w2 ⟨rfl,r2,k2⟩;have h2:=h1.keep0 k2;have kk2:=kk.trans (Keep.of0 k2);by_cases hr:roomB K1.fo K1.fi of=true
  ·rw[hr];conv=>whnf
   repeat ((first|refine Br.t ?_);conv=>whnf)
   exact⟨rfl,kk2,.inl ⟨K1,P1,b1,n1,hbn,h2,0,rfl,⟨.inl rfl,I.w,I.st3,I.may,I.nx,I.le,I.qu,I.cur,I.tg,fun _=>I.nw,fun _=>hr,fun R hn=>⟨rfl,(I.rm R hn).1⟩⟩⟩⟩
  have hr:roomB K1.fo K1.fi of=false:=by simpa using hr
  obtain⟨Ws,S⟩:=W1.shut;obtain⟨s0,s3⟩:=cntS_same S.st;have hst3:∀u,u<12->K1.st u=3->(shK K1).st u=3:=fun u _ e=>by
   rcases S.st u with x|x
   ·rw[x];exact e
   ·omega
  have hsn:(shK K1).next=K1.next/\(shK K1).qu=K1.qu/\(shK K1).cur=K1.cur/\(shK K1).at_=K1.at_:=by
   obtain⟨st,fo,fb,fi,e⟩:=S.eq;rw[e];exact⟨rfl,rfl,rfl,rfl⟩
  have stg:TagK K1 (shK K1):=by
   obtain⟨st,fo,fb,fi,e⟩:=S.eq;exact .same (by rw[e]) (by rw[e])
  rw[hr];conv=>whnf
  repeat ((first|refine Br.f ?_);conv=>whnf)
  refine Ca.of (shut_ok h2 W1.fb) ?_;rintro _ w3 ⟨rfl,h3,k3⟩;have kk3:=kk2.trans k3;conv=>whnf
  repeat ((first|(refine Ld.of h3.core.c1 ?_)|refine CW.s ?_);conv=>whnf)
  refine Ca.of (spare_ok h3.core.pool) ?_;rintro _ _ ⟨rfl,rfl⟩;by_cases hs:spareB (shK K1).st=true
  ·rw[hs];conv=>whnf
   repeat ((first|(refine Ld.of h3.core.c1 ?_)|refine Br.t ?_);conv=>whnf)
   refine Ca.of (ptake_ok h3.core.pool Ws.pn) ?_;intro u w4 hu;unfold TakeEnd at hu;have hbc:boundN (shK K1).st<cntS (shK K1).st 0:=by
    unfold spareB at hs;exact of_decide_eq_true hs
   obtain⟨d,htk,hd,hd0⟩:=takeN_some (st:=(shK K1).st) Ws.pn (by omega);rw[htk] at hu;obtain⟨rfl,r4,k4⟩:=hu;have h4:=h3.pool k4 r4;conv=>whnf
   repeat ((first|(refine Ld.of h4.core.c3 ?_)|refine Br.f ?_|refine Ru.neq_nil0 ?_|refine CW.s ?_);conv=>whnf)
   refine Ca.of (fopen_ok h4.core.front d 0 hd (by omega)) ?_;rintro _ w5 ⟨rfl,r5,k5⟩;have h5:On w5 N (opK K1 d) P1 b1 n1 X c:=h4.front k5 r5;have Wo:Wi a k1 (opK K1 d) P1:=Ws.opn S.fo htk;have hc3:cntS (updf (shK K1).st d 1) 3=cntS (shK K1).st 3:=by
    have:=cntS_upd (shK K1).st 1 3 hd;rw[if_neg (by omega),if_neg (by omega)] at this;exact this
   have hc0:cntS (updf (shK K1).st d 1) 0+1=cntS (shK K1).st 0:=by
    have:=cntS_upd (shK K1).st 1 0 hd;rw[if_pos hd0,if_neg (by omega)] at this;exact this
   conv=>whnf
   repeat ((first|refine Ar.la ?_);conv=>whnf)
   refine⟨(i+1,opK K1 d,P1,b1,n1),⟨hlt,hbn,⟨⟨k1,Wo⟩,fun u hu e=>?_,I.may,?_,?_,hsn.2.1.trans I.qu,hsn.2.2.1.trans I.cur,I.tg.trans stg,(by have:=I.nw;unfold wornB at this ⊢;show decide (2<cntS (updf (shK K1).st d 1) 3)=false;rw[hc3,s3];exact this),fun R hn=>?_⟩,h5,(kk3.trans (Keep.of1 (by simp[Cr.own]) k4)).trans (Keep.of1 (by simp[Cr.own]) k5)⟩,⟨rfl,rfl,vi (by simp only;omega),trivial⟩,by simp only;omega⟩
   ·have:=hst3 u hu (I.st3 u hu e);show updf (shK K1).st d 1 u=3;unfold updf;rw[if_neg (fun x=>by rw[x] at this;omega)];exact this
   ·have:=I.nx;show(shK K1).next-3*(cntS (updf (shK K1).st d 1) 3:Nat)<=_;rw[hc3,s3,hsn.1];exact this
   ·show K.next<=(shK K1).next;rw[hsn.1];exact I.le
   ·obtain⟨R2,no,hi0⟩:=I.shut hr S R hn;have hb2:=R2.bd;obtain⟨x,x1,x2⟩:=R2.x;have hbound:boundN (shK K1).st=1+2*(2-cntS (shK K1).st 3):=by
     unfold boundN wornB;rw[if_neg (by simp;omega)]
    refine⟨⟨fun b hb e=>?_,?_,?_,x,x1,fun hx hm=>?_⟩,.inr ⟨by omega,?_⟩⟩
    ·have e:updf (shK K1).st d 1 b=1:=e;refine⟨rfl,?_⟩;show d=b;by_cases hbd:b=d
     ·exact hbd.symm
     ·unfold updf at e;rw[if_neg hbd] at e;exact absurd e (no b hb)
    ·show cntS (updf (shK K1).st d 1) 3<=2;omega
    ·show 1+2*(2-cntS (updf (shK K1).st d 1) 3)<=cntS (updf (shK K1).st d 1) 0;omega
    ·show updf (shK K1).st d 1 x=3\/cntS (updf (shK K1).st d 1) 3<=1;rcases x2 hx hm with y|y
     ·left;unfold updf;rw[if_neg (fun z=>by rw[z] at y;omega)];exact y
     ·right;omega
    ·show roomB true 0 of=true;unfold roomB holdsB;simp
  ·have hs:spareB (shK K1).st=false:=by simpa using hs
   rw[hs];conv=>whnf
   repeat ((first|refine Br.f ?_);conv=>whnf)
   refine CW.held (fun w'=>CoreAt w' N (shK K1) X c) [] (.take 0 (.take 1 (.take 2 (.take 3 (.take 5 (.take 6 (.take 7 (.take 8 (.one 4 (.one 9 (.one 10 (.take 11 (.take 12 (.take 13 (.take 14 (.take 15 (.done))))))))))))))))) tt_ok (by kernel_rfl) (by kernel_rfl) (by kernel_rfl) ?_ ?_
   ·exact h3.core.keep0 ((Keep.refl _ _).drewN 1)
   have q3:=(Keep.refl [] w3).drewN 1;have h4:=h3.keep0 q3;have kk4:=kk3.trans (Keep.of0 q3);generalize w3.drewN 1=w4 at *;conv=>whnf
   repeat ((first|(refine LdQ.of (fun _ h=>h.c1) ?_)|(refine LdQ.of (fun _ h=>h.c2) ?_));conv=>whnf)
   refine Ca.of (cstates_ok h4) ?_;rintro _ w5 ⟨Y,e,rfl,O⟩;have h5:=h4.keep0 O.keep;refine⟨h5.core,?_⟩;conv=>whnf
   refine Ca.of (mlive_ok h5.core.map (fun o ho=>Ws.lt ho)) ?_;rintro _ w6 ⟨g,rfl,rg,hg,k6⟩;have h6:=h5.keep0 k6;refine⟨h6.core,?_⟩;conv=>whnf
   refine Ca.of (choose_ok w6 Y (some ⟨g,0,none⟩) e 12 (fun j=>((shK K1).st j:Nat)) (fun j=>(lv (shK K1).at_ j:Nat)) ((O.ly.keep0 k6).rd1) (fun _=>⟨g,0,rfl,fun j hj=>by rw[Nat.zero_add];exact rg.cell j hj⟩)) ?_;rintro _ w7 ⟨rfl,k7⟩;have h7:=h6.keep0 k7;refine⟨h7.core,?_⟩;have kk7:=((kk4.trans (Keep.of0 O.keep)).trans (Keep.of0 k6)).trans (Keep.of0 k7);have hblt:=bestOf_lt (fun j=>((shK K1).st j:Nat)) (fun j=>(lv (shK K1).at_ j:Nat)) 12;by_cases hv0:bestOf (fun j=>((shK K1).st j:Nat)) (fun j=>(lv (shK K1).at_ j:Nat)) 12 = -1
   ·rw[hv0,if_pos (by omega),if_pos (by omega)];conv=>whnf
    repeat ((first|refine Br.t ?_|refine Ru.n1 ?_|refine CW.s ?_);conv=>whnf)
    refine⟨rfl,kk7,.inl ⟨_,P1,b1,n1,hbn,h7,14,rfl,I.out ⟨k1,Ws⟩ ?_ hst3 (fun R1 hi=>?_)⟩⟩
    ·obtain⟨st,fo,fb,fi,e⟩:=S.eq;exact⟨st,K1.pn,fo,fb,fi,by rw[e]⟩
    ·obtain⟨R2,no⟩:=R1.shut S;obtain⟨v,hbv,_⟩:=few_live Ws R2 no hs;unfold bestK at hbv;omega
   ·obtain⟨v,hbv⟩:∃v:Nat,bestOf (fun j=>((shK K1).st j:Nat)) (fun j=>(lv (shK K1).at_ j:Nat)) 12=v:=⟨(bestOf (fun j=>((shK K1).st j:Nat)) (fun j=>(lv (shK K1).at_ j:Nat)) 12).toNat,by omega⟩;have hv2:=(bestOf_min (s:=fun j=>((shK K1).st j:Nat)) (l:=fun j=>(lv (shK K1).at_ j:Nat)) (n:=12)).2 (by omega);rw[hbv] at hv2 hblt;have hv2:(shK K1).st v=2:=by
     have:((v:Nat):Int).toNat=v:=by omega
     rw[this] at hv2;omega
    rw[hbv,if_neg (by omega),if_neg (by omega)];conv=>whnf
    repeat ((first|refine Br.f ?_|refine Ru.neq_nil0 ?_|refine CW.s ?_);conv=>whnf)
    refine Ca.of (vacw_ok h7 Ws (v:=v) (by omega) (.inl hv2) false false) ?_;rintro _ w8 ⟨k8,⟨K8,P8,b8,n8,hb8,h8,e8,rfl,V⟩|⟨hb8,Q,n8,h8,rfl,htw⟩⟩
    case inr =>
     conv=>whnf
     repeat ((first|refine Br.t ?_|refine Ru.n1 ?_);conv=>whnf)
     exact⟨rfl,kk7.trans k8,.inr ⟨fun x=>hb8 (hbn x),Q,n8,h8,rfl,htw⟩⟩
    have vst3:∀u,u<12->K.st u=3->K8.st u=3:=fun u hu e=>V.st3 u hu (hst3 u hu (I.st3 u hu e));have vnx:K8.next-3*(cntS K8.st 3:Nat)<=K.next-3*(cntS K.st 3:Nat):=by
     have h1:=V.nx;have h2:=I.nx;rw[s3,hsn.1] at h1;omega
    have vle:K.next<=K8.next:=by
     have h1:=V.le;have h2:=I.le;rw[hsn.1] at h1;omega
    have vrm:Rm0 K P->K.next+60<=1099511627775->e8=0/\Rm0 K8 P8/\i=0/\roomB K8.fo K8.fi of=true:=fun R hn=>by
     obtain⟨R2,no,hi0⟩:=I.shut hr S R hn;obtain⟨v',hbv',_,_,h4⟩:=few_live Ws R2 no hs;unfold bestK at hbv';have:v'=v:=by omega
     subst this;have hnx1:(shK K1).next+20<=1099511627775:=by
      have h1:=I.nx;have h2:cntS K1.st 3<=12:=cntTo_le _ _ _;rw[hsn.1];omega
     obtain⟨g1,g2,g3⟩:=V.room _ (R2.to hnx1) (fun x=>by cases x) (fun x=>by cases x);obtain⟨g4,g5⟩:=g3 S.fo h4;refine⟨g1,g2.to0,hi0,?_⟩;rw[g4];unfold roomB holdsB;simp;omega
    rcases V.er with rfl|rfl
    ·conv=>whnf
     repeat ((first|refine Br.f ?_|refine Ar.la ?_|refine Ru.neq_nil0 ?_);conv=>whnf)
     exact⟨(i+1,K8,P8,b8,n8),⟨hlt,fun x=>hb8 (hbn x),⟨V.w,vst3,fun B hB=>I.may B (V.may B hB),vnx,vle,V.qu.trans (hsn.2.1.trans I.qu),V.cur.trans (hsn.2.2.1.trans I.cur),I.tg.trans (stg.trans V.tg),V.nw rfl,fun R hn=>⟨(vrm R hn).2.1,.inr ⟨by have:=(vrm R hn).2.2.1;omega,(vrm R hn).2.2.2⟩⟩⟩,h8,kk7.trans k8⟩,⟨rfl,rfl,vi (by simp only;omega),trivial⟩,by simp only;omega⟩
    ·conv=>whnf
     repeat ((first|refine Br.t ?_|refine Ru.n1 ?_);conv=>whnf)
     exact⟨rfl,kk7.trans k8,.inl ⟨K8,P8,b8,n8,fun x=>hb8 (hbn x),h8,14,rfl,⟨.inr rfl,V.w,vst3,fun B hB=>I.may B (V.may B hB),vnx,vle,V.qu.trans (hsn.2.1.trans I.qu),V.cur.trans (hsn.2.2.1.trans I.cur),I.tg.trans (stg.trans V.tg),fun x=>(by cases x),fun x=>(by cases x),fun R hn=>⟨(vrm R hn).1,(vrm R hn).2.1⟩⟩⟩⟩
 ·obtain rfl:i=48:=by omega
  conv=>whnf
  repeat ((first|refine Br.f ?_|refine CW.s ?_);conv=>whnf)
  exact⟨rfl,kk,.inl ⟨K1,P1,b1,n1,hbn,h1,14,rfl,I.out ⟨k1,W1⟩ ⟨_,_,_,_,_,rfl⟩ (fun _ _ x=>x) (fun _ hi=>by omega)⟩⟩
end
structure LwI(a:Nat->Nat->Nat)(K:KS)(P:CS)(K':KS)(P':CS):Prop where
 w:∃k,Wi a k K' P'
 may:∀B,P'.may B->P.may B
 c3:cntS K.st 3<=cntS K'.st 3
 nx:K'.next-4*(cntS K'.st 3:Nat)<=K.next-4*(cntS K.st 3:Nat)
 le:K.next<=K'.next
 qu:K'.qu=K.qu
 cur:K'.cur=K.cur
 tg:TagK K K'
 rm:Rm0 K P->K.next+120<=1099511627775->Rm0 K' P'
structure LwE(a:Nat->Nat->Nat)(K:KS)(P:CS)(K':KS)(P':CS):Prop where
 w:∃k,Wi a k K' P'
 may:∀B,P'.may B->P.may B
 c3:cntS K.st 3<=cntS K'.st 3
 nx:K'.next-4*(cntS K'.st 3:Nat)<=K.next-4*(cntS K.st 3:Nat)+1
 le:K.next<=K'.next
 qu:K'.qu=K.qu
 cur:K'.cur=K.cur
 rm:Rm0 K P->K.next+120<=1099511627775->False
structure LwO(a:Nat->Nat->Nat)(of:Nat)(D:KS->Int->Nat->Nat)(K:KS)(P:CS)(K1:KS)(P1:CS)(K':KS)(P':CS):Prop where
 i:LwI a K P K1 P1
 worn:wornB K1.st=false
 room:roomB K1.fo K1.fi of=true
 next:K1.next<1099511627775
 eq:K'=lyK K1 of
 lk:Lk P1 P' (K1.fb*8+K1.fi)
 pg:P'.pg (K1.fb*8+K1.fi)=.full (nwTag K1 of) (cutD (D (sqK K1) K1.next))
section
variable{a:Nat->Nat->Nat}{of:Nat}{K K1 K2 K':KS}{P P1 P2 P':CS}{e:Int}
theorem LwI.start{k:Cp}(h:Wi a k K P):LwI a K P K P:=⟨⟨k,h⟩,fun _ x=>x,Nat.le_refl _,Int.le_refl _,Int.le_refl _,rfl,rfl,TagK.refl K,fun R _=>R⟩
theorem LwI.lim(I:LwI a K P K1 P1)(h:K.next+120<=1099511627775):K1.next+72<=1099511627775:=by
 have:=I.nx;have:cntS K1.st 3<=12:=cntTo_le _ _ _;omega
theorem LwI.opn(I:LwI a K P K1 P1)(O:OpW a of K1 P1 K2 P2 e):LwI a K P K2 P2:=by
 have hc:cntS K1.st 3<=cntS K2.st 3:=cnt3_le O.st3;refine⟨O.w,fun B h=>I.may B (O.may B h),Nat.le_trans I.c3 hc,?_,Int.le_trans I.le O.le,O.qu.trans I.qu,O.cur.trans I.cur,I.tg.trans O.tg,fun R hn=>?_⟩
 ·have h1:=I.nx;have h2:=O.nx;omega
 ·exact(O.rm (I.rm R hn) (by have:=I.lim hn;omega)).2
theorem LwI.no(I:LwI a K P K1 P1)(hno:Rm0 K1 P1->K1.next+72<=1099511627775->False):LwE a K P K1 P1 :=
 ⟨I.w,I.may,I.c3,by have:=I.nx;omega,I.le,I.qu,I.cur,fun R hn=>hno (I.rm R hn) (I.lim hn)⟩
theorem LwI.fail(I:LwI a K P K1 P1){k1:Cp}(W1:Wi a k1 K1 P1)(ho:of<=24)(hr:roomB K1.fo K1.fi of=true)(hn:K1.next<1099511627775)(hL:Lk P1 P2 (K1.fb*8+K1.fi))(hnf:nf (P2.pg (K1.fb*8+K1.fi)))(hm:P2.may ((K1.fb*8+K1.fi)/8)){P':CS}(V:VacW a K1.fb true false (tkK (sqK K1)) P2 K' P' e) :
  (e=0->LwI a K P K' P'/\cntS K1.st 3<cntS K'.st 3)/\(e=14->LwE a K P K' P'):=by
 have Fr:=W1.fresh ho hr;have h8:=Fr.fi;rw[show(K1.fb*8+K1.fi)/8=K1.fb by omega] at hm;have hfb:=W1.fb;have hc:cntS K1.st 3<=cntS K'.st 3:=cnt3_le V.st3;have vnx:K'.next-3*(cntS K'.st 3:Nat)<=K1.next+1-3*(cntS K1.st 3:Nat):=V.nx;have vle:K1.next+1<=K'.next:=V.le;have hnx:=I.nx;have vrm:Rm0 K1 P1->K1.next+72<=1099511627775->e=0/\Rm0 K' P':=fun R hn=>by
  have R2:Rm0 (tkK (sqK K1)) P2:=R.same rfl rfl rfl hL.may;obtain⟨g1,g2,_⟩:=V.room _ (R2.to (by show K1.next+1+20<=_;omega)) (fun _=>hm) (fun x=>by cases x);exact⟨g1,g2.to0⟩
 refine⟨fun he=>?_,fun he=>?_⟩
 ·have hvb:=V.vb he rfl;have hlt:cntS K1.st 3<cntS K'.st 3:=by
   have h1:=cntTo_upd K1.st K1.fb 3 3 12;have h2:=cnt3_upd (st:=K1.st) hfb hvb.2;have h3:cntS (updf K1.st K1.fb 3) 3<=cntS K'.st 3:=cnt3_le (fun u hu e=>by
    by_cases hx:u=K1.fb
    ·rw[hx];exact hvb.1
    ·unfold updf at e;rw[if_neg hx] at e;exact V.st3 u hu e)
   omega
  exact⟨⟨V.w,fun B h=>I.may B (hL.may B (V.may B h)),Nat.le_trans I.c3 hc,by omega,by have:=I.le;omega,V.qu.trans I.qu,V.cur.trans I.cur,I.tg.trans V.tg,fun R hn=>(vrm (I.rm R hn) (I.lim hn)).2⟩,hlt⟩
 ·exact⟨V.w,fun B h=>I.may B (hL.may B (V.may B h)),Nat.le_trans I.c3 hc,by omega,by have:=I.le;omega,V.qu.trans I.qu,V.cur.trans I.cur,fun R hn=>by
   have:=(vrm (I.rm R hn) (I.lim hn)).1;omega⟩
end
section
variable{w w':World}{N:Cr}{K:KS}{X:Option Addr}{c:Nat}{P:CS}{b:Option Nat}{n:Int}{a:Nat->Nat->Nat}{k:Cp}
theorem layw_ok(h:On w N K P b n X c)(W:Wi a k K P){of:Nat}(ho:of<=24){D:KS->Int->Nat->Nat}(g:FuncId)(cap:Array Value)
  (hg:∀K1 P1 k1,Wi a k1 K1 P1->K1.next<1099511627775->LwI a K P K1 P1->Makes N X c w g cap D K1 P1/\∀j,D (sqK K1) K1.next j<256) :
  Spec Tryz.prog 63 #[.pointer (some ⟨N.k,0,none⟩),.int .i64 of,.func (.func g) #[] cap] w fun u w' =>
   Fin N X c b w w' (fun K' P'=>(u=errOf 0/\∃K1 P1,LwO a of D K P K1 P1 K' P')\/(u=errOf 14/\LwE a K P K' P')) (fun Q=>u=errOf 7/\Tw Q 1099511627775 a):=by
 have far:∀x,w.heap.size<=x->x∉N.all:=fun x hx hm=>by
  have h3:x<w.heap.size:=by
   rcases List.mem_append.1 hm with hm|hm
   ·exact h.core.lt (List.mem_append_left _ hm)
   ·exact h.l_lt _ hm
  omega
 refine spec_of_wpE (T:=tt) tt_ok Tryz.func63 rfl (by decide +kernel) Tryz.ntmps63 (by simp) ?_;refine CW.loop (ι:=KS×CS×Option Nat×Int) (fun i w'=>(b=none->i.2.2.1=none)/\LwI a K P i.1 i.2.1/\On w' N i.1 i.2.1 i.2.2.1 i.2.2.2 X c/\Keep N.all w w') (fun _=>[(0,.pointer (some ⟨N.k,0,none⟩)),(1,.int .i64 of),(2,.func (.func g) #[] cap)]) (fun i=>12-cntS i.1.st 3) (K,P,b,n) tt_ok ⟨id,LwI.start W,h,Keep.refl _ _⟩ ⟨rfl,rfl,rfl,trivial⟩ ?_;rintro⟨K1,P1,b1,n1⟩ wr ⟨hbn,I,h1,kk⟩;simp only at hbn I h1 kk ⊢;obtain⟨k1,W1⟩:=I.w;conv=>whnf
 repeat ((first|(refine Ld.of h1.core.c1 ?_)|refine CW.s ?_);conv=>whnf)
 refine Ca.of (worn_ok h1.core.pool) ?_;rintro _ _ ⟨rfl,rfl⟩;by_cases hw:wornB K1.st=true
 ·rw[hw];conv=>whnf
  repeat ((first|refine Br.t ?_);conv=>whnf)
  refine⟨rfl,kk,.inl ⟨K1,P1,b1,n1,hbn,h1,.inr ⟨rfl,I.no (fun R _=>?_)⟩⟩⟩;have:=R.bd;unfold wornB at hw;have:=of_decide_eq_true hw;omega
 have hw:wornB K1.st=false:=by simpa using hw
 rw[hw];conv=>whnf
 repeat ((first|refine Br.f ?_|refine CW.s ?_);conv=>whnf)
 refine Ca.of (openw_ok h1 W1 hw ho) ?_;rintro _ w2 ⟨k2,⟨K2,P2,b2,n2,hb2,h2,e2,rfl,O⟩|⟨hb2,Q,n2,h2,rfl,htw⟩⟩
 case inr =>
  conv=>whnf
  repeat ((first|refine Br.t ?_|refine Ru.n1 ?_);conv=>whnf)
  exact⟨rfl,kk.trans k2,.inr ⟨fun x=>hb2 (hbn x),Q,n2,h2,rfl,htw⟩⟩
 have kk2:=kk.trans k2;have hbn2:=fun x=>hb2 (hbn x);have I2:=I.opn O;rcases O.er with rfl|rfl
 case inr =>
  conv=>whnf
  repeat ((first|refine Br.t ?_|refine Ru.n1 ?_);conv=>whnf)
  refine⟨rfl,kk2,.inl ⟨K2,P2,b2,n2,hbn2,h2,.inr ⟨rfl,?_⟩⟩⟩;refine⟨I2.w,I2.may,I2.c3,by have:=I2.nx;omega,I2.le,I2.qu,I2.cur,fun R hn=>?_⟩;have:=(O.rm (I.rm R hn) (by have:=I.lim hn;omega)).1;omega
 have hro:=O.room rfl;have hw2:=O.nw rfl;obtain⟨k2',W2⟩:=O.w;have Fr:=W2.fresh ho hro;have hfb12:=W2.fb;by_cases hn:K2.next<1099511627775
 case neg =>
  conv=>whnf
  repeat ((first|refine Br.f ?_|refine Ru.neq_nil0 ?_);conv=>whnf)
  refine Ca.of (cseq14_ok h2 (by omega)) ?_;rintro _ _ ⟨rfl,rfl⟩;conv=>whnf
  repeat ((first|refine Br.t ?_|refine Ru.n1 ?_|refine CW.s ?_);conv=>whnf)
  exact⟨rfl,kk2,.inl ⟨K2,P2,b2,n2,hbn2,h2,.inr ⟨rfl,I2.no (fun _ hx=>by omega)⟩⟩⟩
 obtain⟨hmk,hby⟩:=hg K2 P2 k2' W2 hn I2;conv=>whnf
 repeat ((first|refine Br.f ?_|refine Ru.neq_nil0 ?_);conv=>whnf)
 refine Ca.of (cseq_ok h2 ⟨by have:=W2.nx;omega,hn⟩) ?_;rintro _ w3 ⟨rfl,h3,k3⟩;have kk3:=kk2.trans k3;conv=>whnf
 repeat ((first|refine Br.f ?_|refine Ru.neq_nil0 ?_|refine CW.s ?_);conv=>whnf)
 refine Ca.args (args' := #[.int .i64 K2.next]++cap) (by simp) ?_;refine Ca.of (hmk w3 _ _ kk3 h3) ?_;rintro _ w4 ⟨A,dd,rfl,hl,k4⟩;have h4:=h3.keep0 k4;have kk4:=kk3.trans (Keep.of0 k4);conv=>whnf
 repeat ((first|(refine Ld.of h4.core.c3 ?_)|refine Br.f ?_|refine Ru.neq_nil0 ?_|refine CW.s ?_);conv=>whnf)
 refine Ca.of (ftake_ok h4.core.front of W2.fb W2.fi ho hro) ?_;rintro _ w5 ⟨rfl,r5,k5⟩;have h5:On w5 N (tkK (sqK K2)) P2 b2 n2 X c:=h4.front k5 r5;have kk5:=kk4.trans (Keep.of1 (by simp[Cr.own]) k5);have hl5:=hl.keep k5 (fun x hx hm=>hl.row_ne h4.core.front (by decide) (List.mem_singleton.1 hm ▸ hx));conv=>whnf
 repeat ((first|refine Br.f ?_|refine Ru.neq_nil0 ?_|refine CW.s ?_);conv=>whnf)
 refine Ru.of (build_tg3 _ _ _ _) ?_;rw[show(Tg.mk (((sqK K2).fb*8+(sqK K2).fi:Nat):Int) (of:Nat) K2.next 0 false)=nwTag K2 of from rfl];conv=>whnf
 refine Ru.alloctg ?_;intro x12 w6 hx12 hs6 r12a k6;conv=>whnf
 refine Ru.sttg r12a ?_;intro w7 r12 k7;have q7:Keep [] w5 w7:=k6.then k7 (fun x hx=>.inr (by rw[List.mem_singleton.1 hx,hx12];exact Nat.le_refl _));have h7:=h5.keep0 q7;have hl7:=hl5.keep0 q7;have kk7:=kk5.trans (Keep.of0 q7);have hx12w:w.heap.size<=x12:=by
  rw[hx12];exact kk5.size
 clear k6 k7 q7 hs6 r12a hx12 w6;conv=>whnf
 refine Ru.ldtg r12 ?_;conv=>whnf
 refine Ca.of (cpg_ok h7 W2.hb (p:=K2.fb*8+K2.fi) Fr.lt hby hl7 (nwTag_ok ho Fr ⟨W2.nx.1,hn⟩) rfl Fr.bl) ?_;rintro _ w8 ⟨k8,hr8⟩;have r128:=r12.keep k8 (far x12 hx12w);have kk8:=kk7.trans k8;rcases hr8 with⟨K8,P8,b8,n8,hb8,h8,g1,⟨rfl,rfl,g2⟩|⟨rfl,rfl,g2,g3,g4⟩⟩|⟨hb8,Q,n8,h8,rfl,g1,g2⟩
 ·conv=>whnf
  repeat ((first|refine Br.t ?_|refine Ru.eql_nil0 ?_|refine CW.s ?_);conv=>whnf)
  refine Ru.ldtg r128 ?_;conv=>whnf
  refine Ca.of (anew_ok h8 W2.con.mw (t:=nwTag K2 of) ho Fr.lt rfl rfl) ?_;rintro _ w9 ⟨rfl,h9,k9⟩;conv=>whnf
  have h9':On w9 N (lyK K2 of) P8 b8 n8 X c:=h9;exact⟨rfl,kk8.trans k9,.inl ⟨_,P8,b8,n8,fun x=>hb8 (hbn2 x),h9',.inl ⟨rfl,K2,P2,I2,hw2,hro,hn,rfl,g1,g2⟩⟩⟩
 ·have W8:=W2.torn ho hro hn g1 g2;conv=>whnf
  repeat ((first|refine Br.f ?_|refine Ru.e1 ?_|refine CW.s ?_);conv=>whnf)
  refine Ca.of (eis_ok 8 8 (by decide) w8) ?_;rintro _ _ ⟨rfl,rfl⟩;conv=>whnf
  repeat ((first|(refine Ld.of h8.core.c3 ?_)|refine Br.f ?_);conv=>whnf)
  refine Ca.of (fblock_ok h8.core.front) ?_;rintro _ _ ⟨rfl,rfl⟩;rw[if_pos (show(tkK (sqK K2)).fo=true from Fr.fo)];conv=>whnf
  refine Ca.of (vacw_ok h8 W8 hfb12 (.inr ⟨Fr.fo,rfl⟩) true false) ?_;rintro _ w9 ⟨k9,⟨K9,P9,b9,n9,hb9,h9,e9,rfl,V⟩|⟨hb9,Q,n9,h9,rfl,htw⟩⟩
  ·obtain⟨v1,v2⟩:=I2.fail W2 ho hro hn g1 g2 g4 V;rcases V.er with rfl|rfl
   ·obtain⟨v3,v4⟩:=v1 rfl;have hc9:cntS K9.st 3<=12:=cntTo_le _ _ _;have hc2:cntS K1.st 3<=cntS K2.st 3:=cnt3_le O.st3;conv=>whnf
    repeat ((first|refine Br.f ?_|refine Ru.neq_nil0 ?_);conv=>whnf)
    exact⟨(K9,P9,b9,n9),⟨fun x=>hb9 (hb8 (hbn2 x)),v3,h9,kk8.trans k9⟩,⟨rfl,rfl,rfl,trivial⟩,by simp only;omega⟩
   ·conv=>whnf
    repeat ((first|refine Br.t ?_|refine Ru.n1 ?_);conv=>whnf)
    exact⟨rfl,kk8.trans k9,.inl ⟨K9,P9,b9,n9,fun x=>hb9 (hb8 (hbn2 x)),h9,.inr ⟨rfl,v2 rfl⟩⟩⟩
  ·conv=>whnf
   repeat ((first|refine Br.t ?_|refine Ru.n1 ?_);conv=>whnf)
   exact⟨rfl,kk8.trans k9,.inr ⟨fun x=>hb9 (hb8 (hbn2 x)),Q,n9,h9,rfl,htw⟩⟩
 ·conv=>whnf
  repeat ((first|refine Br.f ?_|refine Ru.e1 ?_|refine CW.s ?_);conv=>whnf)
  refine Ca.of (eis_ok 7 8 (by decide) w8) ?_;rintro _ _ ⟨rfl,rfl⟩;conv=>whnf
  repeat ((first|refine Br.t ?_);conv=>whnf)
  exact⟨rfl,kk8,.inr ⟨fun x=>hb8 (hbn2 x),Q,n8,h8,rfl,W2.torn_tw ho hro hn g1 g2⟩⟩
end
section
variable{w w':World}{N:Cr}{K:KS}{X:Option Addr}{c:Nat}{P:CS}{b:Option Nat}{n:Int}{a:Nat->Nat->Nat}{k:Cp}
theorem Wi.lyat(h:Wi a k K P){of:Nat}(ho:of<=24)(hr:roomB K.fo K.fi of=true):(lyK K of).at_=updf K.at_ of (K.fb*8+K.fi+1):=by
 have Fr:=h.fresh ho hr;have h96:=Fr.lt;have how:K.ow (K.fb*8+K.fi)=0:=by
  by_cases hx:K.ow (K.fb*8+K.fi)=0
  ·exact hx
  ·obtain⟨y1,y2⟩:=h.con.o _ h96 hx;obtain⟨_,t,D,e1,_⟩:=h.page (o:=K.ow (K.fb*8+K.fi)-1) (by omega) (by omega);rw[y2,Nat.add_sub_cancel,Fr.bl] at e1
   cases e1
 obtain⟨c1,c2⟩:=h.con.set (o:=of) (by omega) h96 how Fr.hh;unfold lyK anK;split
 ·exact c2
 ·exact c2
theorem notew_ok(h:On w N K P b n X c)(W:Wi a k K P) :
  Spec Tryz.prog 105 #[.pointer (some ⟨N.k,0,none⟩)] w fun u w'=>Fin N X c b w w' (fun K' P'=>(u=errOf 0/\∃K1 P1,LwO a 24 noteD K P K1 P1 K' P')\/(u=errOf 14/\LwE a K P K' P')) (fun Q=>u=errOf 7/\Tw Q 1099511627775 a):=by
 refine spec_of_wpE (T:=tt) tt_ok Tryz.func105 rfl (by decide +kernel) Tryz.ntmps105 (by simp) ?_;conv=>whnf
 refine Ru.boxp ?_;intro x w1 hx hs r k1;have h1:=h.keep0 k1;have far:x∉N.all:=fun hm=>by
  have h3:x<w.heap.size:=by
   rcases List.mem_append.1 hm with hm|hm
   ·exact h.core.lt (List.mem_append_left _ hm)
   ·exact h.l_lt _ hm
  omega
 conv=>whnf
 repeat ((first|(refine Ld.row r (by omega) ?_));conv=>whnf)
 refine Ca.of (layw_ok h1 W (of:=24) (by omega) 152 #[.pointer (some ⟨x,0,none⟩)] (fun K1 P1 k1' W1 hn I=>⟨fun w2 b2 n2 k2 h2=>note1_ok h2 ((r.keep k2 far).cell 0 (by omega)) K1.next (stW_told W1 (by have:=W1.nx;omega) (-1)),fun j=>ptN_lt _ j⟩)) ?_;rintro _ w2 ⟨k2,hr⟩;conv=>whnf
 exact⟨rfl,(Keep.of0 k1).trans k2,hr⟩
theorem putw_ok(h:On w N K P b n X c)(W:Wi a k K P){of d:Nat}(ho:of<24){A:Option Addr}{f:Nat->Nat}(hf:∀j,f j<256)(hA:RdB w A 160 f)(hd:160<=d) :
  Spec Tryz.prog 68 #[.pointer (some ⟨N.k,0,none⟩),.int .i64 of,.slice A 160 d] w fun u w'=>Fin N X c b w w' (fun K' P'=>(u=errOf 0/\∃K1 P1,LwO a of (putD f) K P K1 P1 K' P')\/(u=errOf 14/\LwE a K P K' P')) (fun Q=>u=errOf 7/\Tw Q 1099511627775 a):=by
 have far:∀x,w.heap.size<=x->x∉N.all:=fun x hx hm=>by
  have h3:x<w.heap.size:=by
   rcases List.mem_append.1 hm with hm|hm
   ·exact h.core.lt (List.mem_append_left _ hm)
   ·exact h.l_lt _ hm
  omega
 refine spec_of_wpE (T:=tt) tt_ok Tryz.func68 rfl (by decide +kernel) Tryz.ntmps68 (by simp) ?_;conv=>whnf
 repeat ((first|refine Br.f ?_|refine Pk.f ?_|refine Br.n ?_|refine CW.s ?_);conv=>whnf)
 refine Ru.of (mk174f_run w) ?_;have ry:=Row.made w 5 (.int .u8 0) 174;have k1:Keep [] w (w.alloc (.cells (madeCells #[.int .u8 0] 174) 5)):=(Keep.refl _ _).alloc _;have hs1:(w.alloc (.cells (madeCells #[.int .u8 0] 174) 5)).heap.size=w.heap.size+1:=by simp
 generalize w.alloc _=w1 at *;conv=>whnf
 refine Ru.of (alloc_sl w1) ?_;have rx:=rowOne (heap_alloc_new w1 (.cells #[.slice none 0 0] 37));have k2:Keep [] w1 (w1.alloc (.cells #[.slice none 0 0] 37)):=(Keep.refl _ _).alloc _;have ry2:=ry.keep k2 (by simp);generalize w1.alloc _=w2 at *;conv=>whnf
 refine Sd.rowAt rx 0 (by omega) (by omega) rfl ?_;intro w3 rx3 k3;have hxy:w1.heap.size≠w.heap.size:=by omega
 have hxw:w.heap.size<=w1.heap.size:=by omega
 have ry3:=ry2.keep k3 (by simpa using hxy.symm);have kk3:Keep [] w w3:=(k1.trans k2).fresh hxw k3;have rx3:Row w3 w1.heap.size 37 1 (fun _=>.slice (some ⟨w.heap.size,0,none⟩) 174 174):=rx3.congr (fun j hj=>by rw[c1 hj];rfl);generalize hxx:w1.heap.size=x at *;generalize hyy:w.heap.size=y at *;conv=>whnf
 repeat ((first|(refine Ld.row rx3 (by omega) ?_));conv=>whnf)
 refine Bu.copy Tryz.underlying37 byte_sz1 ry3 A 160 d 160 rfl (hA.keep0 kk3) (fun e=>?_) (by omega) (fun _ _=>rfl) ?_
 ·obtain⟨b1,o1,e1,_⟩:=hA (by omega);rw[e] at e1
  cases e1
 intro w4 ry4 k4;have rx4:=rx3.keep k4 (by simpa using hxy);have kk4:Keep [] w w4:=kk3.fresh (by omega) k4;have ry4:Row w4 y 5 174 (fun j=>.int .u8 (putD f K 0 j:Nat)):=ry4.congr (fun j hj=>by
  unfold lay putD;by_cases h:j<160
  ·rw[if_pos (by omega),if_pos h,Nat.sub_zero]
  ·rw[if_neg (by omega),if_neg h];rfl)
 have h4:=h.keep0 kk4;conv=>whnf
 refine Ca.of (layw_ok h4 W (of:=of) (by omega) (D:=putD f) 114 #[.pointer (some ⟨x,0,none⟩)] (fun K1 P1 k1' W1 hn I=>⟨fun w2 b2 n2 k2 h2=>put1_ok (D:=putD f (sqK K1) K1.next) ((rx4.keep k2 (far x (by omega))).cell 0 (by omega)) (ry4.keep k2 (far y (by omega))) K1.next,fun j=>by
  unfold putD;split
  ·exact hf j
  ·omega⟩)) ?_
 rintro _ w5 ⟨k5,hr⟩;conv=>whnf
 exact⟨rfl,(Keep.of0 kk4).trans k5,hr⟩
theorem trimw_told{k:Cp}(h:Wi a k K P){o:Nat}{q:Int}(hq:0<=q/\q<=1099511627775)(hn:K.next<1099511627775):(trC (sqK K) o q K.next).told:=by
 have T:=stW_told h (s:=K.next) (by have:=h.nx;omega) (-1);refine⟨T.next,T.cur,fun i hi=>?_,T.rd,T.sc⟩;show 0<=updf K.fl o q i/\updf K.fl o q i<=_;unfold updf;split
 ·exact hq
 ·exact h.fge i hi
theorem trimw_ok(h:On w N K P b n X c)(W:Wi a k K P){o:Nat}(ho:o<24)(h0:K.at_ o≠0) :
  Spec Tryz.prog 44 #[.pointer (some ⟨N.k,0,none⟩),.int .i64 o] w fun u w'=>Fin N X c b w w' (fun K' P'=>(u=errOf 0/\∃K1 P1,LwO a 24 (trimD o (K.en o).seq) K P K1 P1 (lyK K1 24) P'/\K'=drK (flK (lyK K1 24) o (K.en o).seq) o)\/(u=errOf 14/\LwE a K P K' P')) (fun Q=>u=errOf 7/\Tw Q 1099511627775 a):=by
 have h96:=W.lt (o:=o) (by omega);have hsq:0<=(K.en o).seq/\(K.en o).seq<=1099511627775:=by
  obtain⟨_,t,D,_,e2,_,e4,_⟩:=W.page (o:=o) (by omega) h0;rw[e2];unfold Tg.ok at e4;show 0<=t.seq/\t.seq<=_;omega
 have far:∀x,w.heap.size<=x->x∉N.all:=fun x hx hm=>by
  have h3:x<w.heap.size:=by
   rcases List.mem_append.1 hm with hm|hm
   ·exact h.core.lt (List.mem_append_left _ hm)
   ·exact h.l_lt _ hm
  omega
 refine spec_of_wpE (T:=tt) tt_ok Tryz.func44 rfl (by decide +kernel) Tryz.ntmps44 (by simp) ?_;conv=>whnf
 refine Ru.boxp ?_;intro x2 w1 hx2 hs1 r2 k1;conv=>whnf
 refine Ru.boxi ?_;intro x3 w2 hx3 hs2 r3 k2;have r22:=r2.keep k2 (by simp);have hh2:=(h.keep0 k1).keep0 k2;have kk:=k1.trans k2;have x2w:w.heap.size<=x2:=by omega
 have x3w:w.heap.size<=x3:=by omega
 clear hx2 hs1 r2 k1 k2 hs2 hx3 w1;conv=>whnf
 repeat ((first|(refine Ld.row r3 (by omega) ?_)|refine Br.f ?_|refine Pk.f ?_|refine Br.n ?_|refine CW.s ?_);conv=>whnf)
 refine CW.held (fun w'=>CoreAt w' N K X c/\Row w' x2 85 1 (fun _=>.pointer (some ⟨N.k,0,none⟩))/\Row w' x3 3 1 (fun _=>.int .i64 o)) [] (.take 0 (.take 1 (.take 2 (.take 3 (.take 4 (.one 5 (.take 6 (.take 7 (.take 8 (.take 9 (.take 10 (.done)))))))))))) tt_ok (by kernel_rfl) (by kernel_rfl) (by kernel_rfl) ?_ ?_
 ·exact⟨hh2.core.keep0 ((Keep.refl _ _).drewN 1),Row.drewN r22 1,Row.drewN r3 1⟩
 have q2:=(Keep.refl [] w2).drewN 1;have h3:=hh2.keep0 q2;have r23:=r22.keep q2 (by simp);have r33:=r3.keep q2 (by simp);have kk3:=kk.trans q2;clear hh2 r22 r3 kk q2;generalize w2.drewN 1=w3 at *;conv=>whnf
 repeat ((first|(refine LdQ.of (fun _ h=>h.1.c2) ?_)|(refine LdQ.of (fun _ h=>h.2.1.cell 0 (by omega)) ?_)|(refine LdQ.of (fun _ h=>h.2.2.cell 0 (by omega)) ?_));conv=>whnf)
 refine Ca.of (mat_ok h3.core.map o (by omega) (by omega)) ?_;rintro _ _ ⟨rfl,rfl⟩;rw[if_neg h0];refine⟨⟨h3.core,r23,r33⟩,?_⟩;conv=>whnf
 repeat ((first|refine Br.f ?_|refine Ru.neq_nil0 ?_);conv=>whnf)
 refine CW.held (fun w'=>CoreAt w' N K X c/\Row w' x2 85 1 (fun _=>.pointer (some ⟨N.k,0,none⟩))/\Row w' x3 3 1 (fun _=>.int .i64 o)) [8] (.take 0 (.take 1 (.take 2 (.take 3 (.take 4 (.take 5 (.take 6 (.one 7 (.one 8 (.done)))))))))) tt_ok (by kernel_rfl) (by kernel_rfl) (by kernel_rfl) ?_ ?_
 ·exact⟨h3.core.keep0 ((Keep.refl _ _).drewN 1),Row.drewN r23 1,Row.drewN r33 1⟩
 have q2:=(Keep.refl [] w3).drewN 1;have h4:=h3.keep0 q2;have r24:=r23.keep q2 (by simp);have r34:=r33.keep q2 (by simp);have kk4:=kk3.trans q2;clear h3 r23 r33 kk3 q2;generalize w3.drewN 1=w4 at *;have een:coreF N K X c (7+3*o)=.int .i64 (K.en o).seq:=coreF_en' (j:=0) (by omega) (by omega);conv=>whnf
 repeat ((first|(refine LdQ.of (fun _ h=>h.2.1.cell 0 (by omega)) ?_)|(refine LdQ.of (fun _ h=>h.2.2.cell 0 (by omega)) ?_)|(refine Ix.of o (by omega) (by omega) ?_)|(refine LdQ.at (j:=7+3*o) (by omega) (fun _ h=>(h.1.row.cell (7+3*o) (by omega)).trans (congrArg some een)) ?_));conv=>whnf)
 refine Ru.of (alloc_i64 w4) ?_;have r7:=rowOne (heap_alloc_new w4 (.cells #[.int .i64 0] 2));have k5:Keep [] w4 (w4.alloc (.cells #[.int .i64 0] 2)):=(Keep.refl _ _).alloc _;have h5:=h4.keep0 k5;have r25:=r24.keep k5 (by simp);have r35:=r34.keep k5 (by simp);have kk5:=kk4.trans k5;have l2:=r24.lt;have l3:=r34.lt;have x7w:=kk4.size;clear k5 h4 r24 r34 kk4;generalize w4.alloc _=w5 at *;generalize w4.heap.size=x7 at *;refine⟨⟨h5.core,r25,r35⟩,?_⟩;conv=>whnf
 refine Sd.rowAt r7 0 (by omega) (by omega) rfl ?_;intro w6 r76 k6;have h6:=h5.away r7 (by decide) k6;have r26:=r25.keep k6 (by simp;omega);have r36:=r35.keep k6 (by simp;omega);have kk6:=kk5.fresh x7w k6;have r76:Row w6 x7 2 1 (fun _=>.int .i64 (K.en o).seq):=r76.congr (fun j hj=>by rw[c1 hj];rfl);clear r7 h5 r25 r35 kk5 k6 l2 l3 w5;conv=>whnf
 repeat ((first|(refine Ld.row r26 (by omega) ?_));conv=>whnf)
 refine Ca.of (layw_ok h6 W (of:=24) (by omega) (D:=trimD o (K.en o).seq) 64 #[.pointer (some ⟨x2,0,none⟩),.pointer (some ⟨x7,0,none⟩),.pointer (some ⟨x3,0,none⟩)] (fun K1 P1 k1' W1 hn I=>⟨fun w2 b2 n2 k2 h2=>trim1_ok h2 ho ((r26.keep k2 (far _ x2w)).cell 0 (by omega)) ((r76.keep k2 (far _ x7w)).cell 0 (by omega)) ((r36.keep k2 (far _ x3w)).cell 0 (by omega)) K1.next (trimw_told W1 hsq hn),fun j=>ptN_lt _ j⟩)) ?_;rintro _ w7 ⟨k7,hr⟩;have kk7:=(Keep.of0 (N:=N) kk6).trans k7;rcases hr with⟨K7,P7,b7,n7,hb7,h7,hr⟩|⟨hb7,Q,n7,h7,rfl,htw⟩
 case inr =>
  conv=>whnf
  repeat ((first|refine Br.t ?_|refine Ru.n1 ?_|refine CW.s ?_);conv=>whnf)
  exact⟨rfl,kk7,.inr ⟨hb7,Q,n7,h7,rfl,htw⟩⟩
 rcases hr with⟨rfl,K1,P1,L⟩|⟨rfl,E⟩
 case inr =>
  conv=>whnf
  repeat ((first|refine Br.t ?_|refine Ru.n1 ?_|refine CW.s ?_);conv=>whnf)
  exact⟨rfl,kk7,.inl ⟨K7,P7,b7,n7,hb7,h7,.inr ⟨rfl,E⟩⟩⟩
 obtain⟨k1',W1⟩:=L.i.w;have hat:=W1.lyat (Nat.le_refl 24) L.room;have ht1:=(L.i.tg o ho h0).1;have h1:(lyK K1 24).at_ o≠0:=by
  rw[hat];unfold updf;rw[if_neg (by omega)];exact ht1
 have h2:(lyK K1 24).at_ o<=96:=by
  rw[hat];unfold updf;rw[if_neg (by omega)];exact W1.lt (by omega)
 obtain rfl:=L.eq;have r27:=r26.keep k7 (far _ x2w);have r37:=r36.keep k7 (far _ x3w);have r77:=r76.keep k7 (far _ x7w);clear h6 r26 r36 r76 k7 kk6;conv=>whnf
 repeat ((first|refine Br.f ?_|refine Ru.neq_nil0 ?_|refine CW.s ?_);conv=>whnf)
 refine CW.held (fun w'=>Row w' x2 85 1 (fun _=>.pointer (some ⟨N.k,0,none⟩))/\Row w' x3 3 1 (fun _=>.int .i64 o)/\Row w' x7 2 1 (fun _=>.int .i64 (K.en o).seq)) [] (.take 0 (.take 1 (.take 2 (.take 3 (.take 4 (.take 5 (.one 6 (.done)))))))) tt_ok (by kernel_rfl) (by kernel_rfl) (by kernel_rfl) ?_ ?_
 ·exact⟨Row.drewN r27 1,Row.drewN r37 1,Row.drewN r77 1⟩
 have q7:=(Keep.refl [] w7).drewN 1;have h8:=h7.keep0 q7;have r28:=r27.keep q7 (by simp);have r38:=r37.keep q7 (by simp);have r78:=r77.keep q7 (by simp);have kk8:=kk7.trans (Keep.of0 (N:=N) q7);clear h7 r27 r37 r77 kk7 q7;generalize w7.drewN 1=w8 at *;conv=>whnf
 repeat ((first|(refine LdQ.of (fun _ h=>h.1.cell 0 (by omega)) ?_)|(refine LdQ.of (fun _ h=>h.2.1.cell 0 (by omega)) ?_)|(refine LdQ.of (fun _ h=>h.2.2.cell 0 (by omega)) ?_)|(refine Ix.of o (by omega) (by omega) ?_));conv=>whnf)
 rw[show 0+82+o=82+o by omega];refine Sd.rowAt h8.core.row (82+o) (by omega) (by omega) rfl ?_;intro w9 r9 k9;have h9:On w9 N (flK (lyK K1 24) o (K.en o).seq) P7 _ n7 X c:=h8.row k9 r9 (fun j hj=>coreF_floor o ho _ j hj) rfl;have r29:=r28.keep k9 (by
  have:=h8.core.row.lt;have:=h8.core.row.ne_ r28 (by decide);simpa using this.symm)
 have r39:=r38.keep k9 (by
  have:=h8.core.row.ne_ r38 (by decide);simpa using this.symm)
 have r79:=r78.keep k9 (by
  have:=h8.core.row.ne_ r78 (by decide);simpa using this.symm)
 have kk9:=kk8.trans (Keep.of1 (N:=N) (by simp[Cr.own]) k9);clear h8 r28 r38 r78 kk8 r9 k9;refine⟨⟨r29,r39,r79⟩,?_⟩;conv=>whnf
 refine CW.held (fun w'=>Row w' x2 85 1 (fun _=>.pointer (some ⟨N.k,0,none⟩))/\Row w' x3 3 1 (fun _=>.int .i64 o)/\w'.cell? ⟨N.k,2,none⟩=some (.pointer (some ⟨N.a,0,none⟩))) [] (.take 0 (.take 1 (.take 2 (.take 3 (.take 4 (.one 5 (.take 6 (.done)))))))) tt_ok (by kernel_rfl) (by kernel_rfl) (by kernel_rfl) ?_ ?_
 ·exact⟨Row.drewN r29 1,Row.drewN r39 1,(h9.keep0 ((Keep.refl [] w9).drewN 1)).core.c2⟩
 have q9:=(Keep.refl [] w9).drewN 1;have h10:=h9.keep0 q9;have r210:=r29.keep q9 (by simp);have r310:=r39.keep q9 (by simp);have kk10:=kk9.trans (Keep.of0 (N:=N) q9);clear h9 r29 r39 kk9 q9;generalize w9.drewN 1=w10 at *;conv=>whnf
 repeat ((first|(refine LdQ.of (fun _ h=>h.1.cell 0 (by omega)) ?_)|(refine LdQ.of (fun _ h=>h.2.1.cell 0 (by omega)) ?_)|(refine LdQ.of (fun _ h=>h.2.2) ?_));conv=>whnf)
 refine Ca.of (mdrop_ok h10.core.map o (by omega) h2 h1) ?_;rintro _ w11 ⟨rfl,r11,k11⟩;have h11:=h10.map k11 r11;refine⟨⟨r210.keep k11 (by
  have:=Row.ne_ h10.core.map r210 (by decide);simpa using this.symm),r310.keep k11 (by
  have:=Row.ne_ h10.core.map r310 (by decide);simpa using this.symm),h11.core.c2⟩,?_⟩
 conv=>whnf
 exact⟨rfl,kk10.trans (Keep.of1 (by simp[Cr.own]) k11),.inl ⟨_,P7,b7,n7,hb7,h11,.inl ⟨rfl,K1,P1,L,rfl⟩⟩⟩
end
structure QuOk(q:List Nat):Prop where
 nd:q.Nodup
 lt:∀x,x∈q->x<12
theorem nodup_lt:∀ {n:Nat} {l:List Nat},l.Nodup->(∀x,x∈l->x<n)->l.length<=n
 | 0,l,_,h=>by
  cases l with
  |nil=>exact Nat.le_refl _
  |cons x xs=>exact absurd (h x (List.mem_cons_self ..)) (by omega)
 | n+1,l,hn,h=>by
  have h1:=nodup_filter_len (n:=n) hn
  have h2:=nodup_lt (n:=n) (l:=l.filter (· ≠ n)) (hn.filter _) (fun x hx=>by
   obtain⟨m1,m2⟩:=List.mem_filter.1 hx;have:=h x m1;have:x≠n:=by simpa using m2
   omega)
  omega
theorem QuOk.len{q:List Nat}(h:QuOk q):q.length<=12:=nodup_lt h.nd h.lt
theorem QuOk.nil:QuOk []:=⟨List.nodup_nil,fun _ h=>by cases h⟩
theorem QuOk.add{q:List Nat}(h:QuOk q){b:Nat}(hb:b<12):QuOk (addQ q b):=by
 unfold addQ;split
 ·exact h
 ·rename_i hn
  refine⟨?_,fun x hx=>?_⟩
  ·rw[List.nodup_append];refine⟨h.nd,by simp,fun x hx y hy=>?_⟩;rw[List.mem_singleton.1 hy];intro e;exact hn (e ▸ hx)
  ·rcases List.mem_append.1 hx with hx|hx
   ·exact h.lt x hx
   ·rw[List.mem_singleton.1 hx];exact hb
theorem QuOk.tail{q:List Nat}{v:Nat}(h:QuOk (v::q)):v<12/\QuOk q:=⟨h.lt v (List.mem_cons_self ..),(List.nodup_cons.1 h.nd).2,fun x hx=>h.lt x (List.mem_cons_of_mem _ hx)⟩
section
variable{w w':World}{N:Cr}{K:KS}{X:Option Addr}{c:Nat}{P:CS}{b:Option Nat}{n:Int}{a:Nat->Nat->Nat}{k:Cp}
def Seen(N:Cr)(X:Option Addr)(K:KS)(P:CS)(b:Option Nat)(w w':World):Prop:=∃F q Y d n',On w' N { K with F:=F,qu:=q } P b n' Y d/\Hl.HB F/\QuOk q/\Keep (N.all++blk X) w w'/\∀x,x∈blk Y->x∈blk X\/w.heap.size<=x
theorem Seen.keep0{w2:World}(h:Seen N X K P b w w')(k:Keep [] w' w2):Seen N X K P b w w2:=by
 obtain⟨F,q,Y,d,n',h1,h2,h3,h4,h5⟩:=h;exact⟨F,q,Y,d,n',h1.keep0 k,h2,h3,h4.trans (k.mono (by simp)),h5⟩
theorem Seen.first{w0:World}(h:Seen N X K P b w w')(k:Keep N.all w0 w):Seen N X K P b w0 w':=by
 obtain⟨F,q,Y,d,n',h1,h2,h3,h4,h5⟩:=h;refine⟨F,q,Y,d,n',h1,h2,h3,(k.mono (fun x hx=>List.mem_append_left _ hx)).trans h4,fun x hx=>?_⟩;rcases h5 x hx with e|e
 ·exact .inl e
 ·exact .inr (Nat.le_trans k.size e)
theorem obsw_ok(h:On w N K P b n X c){p:Nat}(hp:p<96)(hl:K.ow p<=25)(B:Hl.HB K.F)(hq:QuOk K.qu){R:PageR}{dv:Value}(hs:K.ow p≠0->R.sound=true) :
  Spec Tryz.prog 70 #[.pointer (some ⟨N.k,0,none⟩),.int .i64 p,agg 9 (pgc R.tagged R.tag R.sound dv (R.damage:Nat))] w fun v w'=>v=.tuple #[]/\Seen N X K P b w w':=by
 refine spec_of_wpE (T:=tt) tt_ok Tryz.func70 rfl (by decide +kernel) Tryz.ntmps70 (by simp) ?_;conv=>whnf
 refine Ru.boxa ?_;intro x5 w1 hx5 hs1 r5 k1;have h1:=h.keep0 k1;conv=>whnf
 repeat ((first|(refine Ld.of h1.core.c2 ?_)|refine CW.s ?_);conv=>whnf)
 refine Ca.of (mowner_ok h1.core.map p hp hl) ?_;rintro _ _ ⟨rfl,rfl⟩;by_cases h0:K.ow p=0
 ·rw[if_pos h0];conv=>whnf
  repeat ((first|refine Br.t ?_|refine Pk.t ?_|refine Ru.n1 ?_);conv=>whnf)
  exact⟨rfl,rfl,K.F,K.qu,X,c,n,h1,B,hq,k1.mono (by simp),fun x hx=>.inl hx⟩
 ·rw[if_neg h0];have hs:=hs h0;have p6:w1.cell? ⟨x5,6,none⟩=some (.bool R.sound):=r5.cell 6 (by omega);have p8:w1.cell? ⟨x5,8,none⟩=some (.int .i64 (R.damage:Nat)):=r5.cell 8 (by omega);rw[hs] at p6;by_cases hd:R.damage<2
  ·conv=>whnf
   repeat ((first|(refine Ld.at (by omega) p6 ?_)|(refine Ld.at (by omega) p8 ?_)|refine Br.t ?_|refine Br.f ?_|refine Pk.f ?_|refine Pk.t ?_|refine Br.y ?_|refine Ru.neq_nil0 ?_);conv=>whnf)
   exact⟨rfl,rfl,K.F,K.qu,X,c,n,h1,B,hq,k1.mono (by simp),fun x hx=>.inl hx⟩
  ·conv=>whnf
   repeat ((first|(refine Ld.at (by omega) p6 ?_)|(refine Ld.at (by omega) p8 ?_)|(refine Ld.of h1.core.c4 ?_)|(refine Dv.q ?_)|refine Br.t ?_|refine Br.f ?_|refine Pk.f ?_|refine Pk.t ?_|refine Br.n ?_|refine Ru.neq_nil0 ?_);conv=>whnf)
   rw[show((p:Int)/8)=((p/8:Nat):Int) by omega];refine Ca.of (Hl.report_ok _ N.e _ h1.core.health B (p/8) (by omega)) ?_;rintro _ w2 ⟨rfl,r2,k2⟩;have h2:=h1.health k2 r2;have hQe:=h2.qu_at;conv=>whnf
   refine Ca.of (qadd_ok hQe (by omega) (by decide) hq.len (p/8) (by omega)) ?_;rintro _ w3 ⟨rfl,hqe⟩;obtain⟨Y,d,h3,k3,hY⟩:=h2.queue hqe;conv=>whnf
   refine⟨rfl,rfl,Hl.rpF K.F (p/8),addQ K.qu (p/8),Y,d,n,h3,B.rp (by omega),hq.add (by omega),?_,fun x hx=>?_⟩
   ·refine((k1.mono (by simp)).trans (k2.mono (fun x hx=>?_))).trans (k3.mono (fun x hx=>?_))
    ·rw[List.mem_singleton.1 hx];exact List.mem_append_left _ (in_all_own (by simp[Cr.own]))
    ·rcases List.mem_cons.1 hx with e|e
     ·rw[e];exact List.mem_append_left _ (in_all_own (by simp[Cr.own]))
     ·exact List.mem_append_right _ e
   ·have s1:=k1.size;have s2:=k2.size;rcases hY x hx with e|e
    ·exact .inl e
    ·exact .inr (by omega)
theorem cgetw_ok(h:On w N K P b n X c)(B:Hl.HB K.F)(hqu:QuOk K.qu){o:Nat}(ho:o<24)(h0:K.at_ o≠0)(h96:K.at_ o<=96)(hl:K.ow (K.at_ o-1)<=25){t:Tg}{D:Nat->Nat}(hp:P.pg (K.at_ o-1)=.full t D)(hto:t.of=o)(hen:K.en o=⟨t.seq,t.copy,false⟩) :
  Spec Tryz.prog 46 #[.pointer (some ⟨N.k,0,none⟩),.int .i64 o] w fun v w'=>∃Y e,v=.tuple #[.slice Y 160 e,errOf 0]/\GotB w w' Y 160 e D/\Seen N X K (P.readE (K.at_ o-1)) b w w':=by
 refine spec_of_wpE (T:=tt) tt_ok Tryz.func46 rfl (by decide +kernel) Tryz.ntmps46 (by simp) ?_;conv=>whnf
 repeat ((first|(refine Ld.of h.core.c2 ?_)|refine Br.f ?_|refine Pk.f ?_|refine Br.n ?_|refine CW.s ?_);conv=>whnf)
 refine Ca.of (mat_ok h.core.map o (by omega) (by omega)) ?_;rintro _ _ ⟨rfl,rfl⟩;rw[if_neg h0];have ee:∀j,j<3->coreF N K X c (7+3*o+j)=(⟨t.seq,t.copy,false⟩:En).cell j:=fun j hj=>by rw[coreF_en' (by omega) hj,hen]
 have hp96:K.at_ o-1<96:=by omega
 generalize K.at_ o-1=p at *;conv=>whnf
 repeat ((first|(refine Ix.of o (by omega) (by omega) ?_)|refine Br.f ?_|refine Ru.neq_nil0 ?_|refine CW.s ?_);conv=>whnf)
 rw[show 0+7+o*3=7+3*o by omega];refine Ru.ldaC (q:=(⟨t.seq,t.copy,false⟩:En).cell) h.core.row Tryz.underlying140 rfl size_en (by omega) (fun j hj=>ee j hj) ?_;conv=>whnf
 refine Ru.alloca (alloc_en w) ?_;intro x8 w1 hx8 hs1 r8 k1;conv=>whnf
 refine Ru.sta r8 size_en (by omega) (fun j hj=>En.cell_one _) ?_;intro w2 r82 k2;have r82:Row w2 x8 140 3 (⟨t.seq,t.copy,false⟩:En).cell:=r82.congr (fun j hj=>by unfold lay;rw[if_pos (by omega),Nat.sub_zero]);have q2:Keep [] w w2:=k1.then k2 (fun x hx=>.inr (by rw[List.mem_singleton.1 hx,hx8];exact Nat.le_refl _));have h2:=h.keep0 q2;have s0:w2.cell? ⟨x8,0,none⟩=some (.int .i64 t.seq):=r82.cell 0 (by omega);have s2:w2.cell? ⟨x8,2,none⟩=some (.bool false):=r82.cell 2 (by omega);clear k1 r8 k2 hs1 w1;conv=>whnf
 repeat ((first|(refine Ld.at (by omega) s2 ?_)|refine Br.f ?_|refine CW.s ?_);conv=>whnf)
 refine Ca.of (cread_ok h2 B hp96) ?_;rintro _ w3 ⟨R,dv,hR,hdv,rfl,h3,k3⟩;unfold PgRead at hR;rw[hp] at hR;obtain⟨hR1,rfl,hR3,hR4,hR5⟩:=hR;have far:x8∉N.all:=fun hm=>by
  have h4:x8<w.heap.size:=by
   rcases List.mem_append.1 hm with hm|hm
   ·exact h.core.lt (List.mem_append_left _ hm)
   ·exact h.l_lt _ hm
  omega
 have r83:=r82.keep k3 far;have kk3:=(Keep.of0 (N:=N) q2).trans k3;have hs3:=k3.size;have hs2:=q2.size;conv=>whnf
 refine Ru.alloca (alloc_page w3) ?_;intro x9 w4 hx9 hs4 r9 k4;conv=>whnf
 refine Ru.stpage r9 (pgc_one' R hdv _) ?_;intro w5 r95 k5;have q5:Keep [] w3 w5:=k4.then k5 (fun x hx=>.inr (by rw[List.mem_singleton.1 hx,hx9];exact Nat.le_refl _));have h5:=h3.keep0 q5;have r85:=r83.keep q5 (by simp);have kk5:=kk3.trans (Keep.of0 (N:=N) q5);have hdv5:=hdv.keep q5 (by simp);clear k4 k5 q5 h3 r83 r9 hs4 w4;conv=>whnf
 repeat ((first|refine Br.f ?_|refine Ru.neq_nil0 ?_|refine CW.s ?_);conv=>whnf)
 refine Ru.ldpage r95 ?_;refine Ca.of (obsw_ok h5 hp96 hl (B.rd (by omega)) hqu (fun _=>hR3)) ?_;rintro _ w6 ⟨rfl,S6⟩;have S6:Seen N X K (P.readE p) b w5 w6:=by
  obtain⟨F,q,Y,d,n',z⟩:=S6;exact⟨F,q,Y,d,n',z⟩
 have k6:Keep (N.all++blk X) w5 w6:=by
  obtain⟨F,q,Y,d,n',_,_,_,z,_⟩:=S6;exact z
 have SS:=S6.first kk5;have farX:∀x,w.heap.size<=x->x∉N.all++blk X:=fun x hx hm=>by
  rcases List.mem_append.1 hm with hm|hm
  ·rcases List.mem_append.1 hm with hm|hm
   ·have:=h.core.lt (List.mem_append_left _ hm);omega
   ·have:=h.l_lt _ hm;omega
  ·have:=h.core.lt (List.mem_append_right _ hm);omega
 have r86:=r85.keep k6 (farX _ (by omega));have r96:=r95.keep k6 (farX _ (by omega));have hdv6:=hdv5.keep k6 (fun x hx=>Classical.byContradiction fun hn=>farX x (by omega) hx);have hsz6:=SS.elim fun F ⟨q,Y,d,n',_,_,_,z,_⟩=>z.size;rcases hdv6 with⟨-,O,oc,rfl,hO,lyO⟩|⟨hs,-⟩
 case inr=>rw[hR3] at hs;cases hs
 have p1:w6.cell? ⟨x9,2,none⟩=some (.int .i64 R.tag.of):=r96.cell 2 (by omega);have p2:w6.cell? ⟨x9,3,none⟩=some (.int .i64 R.tag.seq):=r96.cell 3 (by omega);have p3:w6.cell? ⟨x9,6,none⟩=some (.bool R.sound):=r96.cell 6 (by omega);have p4:w6.cell? ⟨x9,7,none⟩=some (.slice O 174 oc):=r96.cell 7 (by omega);have s0:w6.cell? ⟨x8,0,none⟩=some (.int .i64 R.tag.seq):=r86.cell 0 (by omega);rw[hto] at p1;rw[hR3] at p3;conv=>whnf
 repeat ((first|(refine Ld.at (by omega) p4 ?_)|(refine Ld.at (by omega) p1 ?_)|(refine Ld.at (by omega) p2 ?_)|(refine Ld.at (by omega) p3 ?_)|(refine Ld.at (by omega) s0 ?_)|refine Br.f ?_|refine Pk.f ?_|refine Br.ny ?_|refine CW.s ?_);conv=>whnf)
 have hrd:=lyO.rd;rw[Nat.mul_one] at hrd;obtain⟨g,oo,rfl,hc⟩:=hrd (by omega);have hcap:174<=oc:=lyO.1;have hrd2:Rd w6 (some ⟨g,oo,none⟩) 160 (fun j=>.int .u8 (D j:Nat)):=fun _=>⟨g,oo,rfl,fun j hj=>by
  rw[hc j (by omega), <-hR4];unfold cutD;simp only[if_pos (show j<174 by omega)]⟩
 refine Ru.sl_h Tryz.underlying37 (by kernel_rfl) (h:=160) (by omega) ?_;conv=>whnf
 refine Ca.of (bclone_ok ⟨g,oo,none⟩ 160 oc D w6 hrd2 (by omega) (by omega)) ?_;rintro _ w7 ⟨Y,e,rfl,hY,k7⟩;conv=>whnf
 exact⟨rfl,Y,e,rfl,⟨hY.ly,fun x hx=>Nat.le_trans hsz6 (hY.new x hx)⟩,SS.keep0 k7⟩
end
structure LwN(a:Nat->Nat->Nat)(K:KS)(P:CS)(K':KS)(P':CS):Prop where
 w:∃k,Wi a k K' P'
 may:∀B,P'.may B->P.may B
 c3:cntS K.st 3<=cntS K'.st 3
 nx:K'.next-4*(cntS K'.st 3:Nat)<=K.next-4*(cntS K.st 3:Nat)+1
 le:K.next<=K'.next
 qu:K'.qu=K.qu
 cur:K'.cur=K.cur
 rm:Rm0 K P->K.next+120<=1099511627775->Rm0 K' P'
section
variable{a:Nat->Nat->Nat}{K K1 K':KS}{P P1 P':CS}
theorem LwE.n(h:LwE a K P K' P'):LwN a K P K' P':=⟨h.w,h.may,h.c3,h.nx,h.le,h.qu,h.cur,fun R hn=>(h.rm R hn).elim⟩
theorem LwI.n(I:LwI a K P K1 P1){a':Nat->Nat->Nat}(h:∃k,Wi a' k K' P')(hm:∀B,P'.may B->P1.may B)(e1:K'.st=K1.st)(e2:K'.next=K1.next+1)(e3:K'.qu=K1.qu)(e4:K'.cur=K1.cur)(e5:K'.fo=K1.fo)(e6:K'.fb=K1.fb):LwN a' K P K' P':=by
 have:=I.nx;have:=I.le;exact⟨h,fun B x=>I.may B (hm B x),by rw[e1];exact I.c3,by rw[e1,e2];omega,by rw[e2];omega,e3.trans I.qu,e4.trans I.cur,fun R hn=>(I.rm R hn).same e1 e5 e6 hm⟩
theorem LwO.noted(L:LwO a 24 noteD K P K1 P1 K' P'):LwN a K P K' P':=by
 obtain⟨k1,W1⟩:=L.i.w;have hp:=L.pg;rw[show cutD (noteD (sqK K1) K1.next)=noteD (sqK K1) K1.next from ptN_cut _] at hp;obtain⟨W,ow,F,calls,e⟩:=W1.noted L.worn L.room L.next L.lk.pg hp;rw[L.eq];exact L.i.n ⟨_,W⟩ L.lk.may (by rw[e]) (by rw[e]) (by rw[e]) (by rw[e]) (by rw[e]) (by rw[e])
theorem putD_cut(f:Nat->Nat)(K:KS)(s:Int):cutD (putD f K s)=putD f K s:=by
 funext j;unfold cutD putD;by_cases h:j<174
 ·rw[if_pos h]
 ·rw[if_neg h,if_neg (by omega)]
theorem LwO.put{s:Nat}{f:Nat->Nat}(L:LwO a s (putD f) K P K1 P1 K' P')(hs:s<24)(hf:∀j,f j<256):LwN (setA a s f) K P K' P':=by
 obtain⟨k1,W1⟩:=L.i.w;have hp:=L.pg;rw[putD_cut] at hp;obtain⟨W,ow,F,calls,e⟩:=W1.put hs L.room L.next hf L.lk.pg hp;rw[L.eq];exact L.i.n ⟨_,W⟩ L.lk.may (by rw[e]) (by rw[e]) (by rw[e]) (by rw[e]) (by rw[e]) (by rw[e])
theorem lyK_fr(K1:KS)(of:Nat):(lyK K1 of).st=K1.st/\(lyK K1 of).next=K1.next+1/\(lyK K1 of).qu=K1.qu/\(lyK K1 of).cur=K1.cur/\(lyK K1 of).fo=K1.fo/\(lyK K1 of).fb=K1.fb:=by
 unfold lyK anK;split
 ·exact⟨rfl,rfl,rfl,rfl,rfl,rfl⟩
 ·exact⟨rfl,rfl,rfl,rfl,rfl,rfl⟩
theorem LwO.trimmed{o:Nat}(L:LwO a 24 (trimD o (K.en o).seq) K P K1 P1 (lyK K1 24) P')(ho:o<24)(h0:K.at_ o≠0):LwN (setA a o (fun _=>0)) K P (drK (flK (lyK K1 24) o (K.en o).seq) o) P':=by
 obtain⟨k1,W1⟩:=L.i.w;obtain⟨t1,t2⟩:=L.i.tg o ho h0;have hp:=L.pg;rw[show cutD (trimD o (K.en o).seq (sqK K1) K1.next)=trimD o (K.en o).seq (sqK K1) K1.next from ptN_cut _] at hp;rw[<-t2] at hp ⊢;have W:=W1.trimmed L.worn ho t1 L.room L.next L.lk.pg hp;obtain⟨e1,e2,e3,e4,e5,e6⟩:=lyK_fr K1 24;exact L.i.n ⟨_,W⟩ L.lk.may e1 e2 e3 e4 e5 e6
structure TdI(a:Nat->Nat->Nat)(K:KS)(P:CS)(K':KS)(P':CS):Prop where
 w:∃k,Wi a k K' P'
 may:∀B,P'.may B->P.may B
 c3:cntS K.st 3<=cntS K'.st 3
 nx:K'.next-4*(cntS K'.st 3:Nat)<=K.next-4*(cntS K.st 3:Nat)
 le:K.next<=K'.next
 qo:QuOk K'.qu
 rm:Rm0 K P->(∀B,B<12->¬P.may B)->K.next+200<=1099511627775->Rm0 K' P'
structure TdE(a:Nat->Nat->Nat)(K:KS)(P:CS)(K':KS)(P':CS):Prop where
 w:∃k,Wi a k K' P'
 may:∀B,P'.may B->P.may B
 c3:cntS K.st 3<=cntS K'.st 3
 nx:K'.next-4*(cntS K'.st 3:Nat)<=K.next-4*(cntS K.st 3:Nat)+1
 le:K.next<=K'.next
 qu:K'.qu=[]
 rm:Rm0 K P->(∀B,B<12->¬P.may B)->K.next+200<=1099511627775->Rm0 K' P'
theorem TdI.e(I:TdI a K P K1 P1)(hq:K1.qu=[]):TdE a K P K1 P1:=⟨I.w,I.may,I.c3,by have:=I.nx;omega,I.le,hq,I.rm⟩
theorem TdI.note(I:TdI a K P K1 P1)(hq:K1.qu=[])(L:LwN a K1 P1 K' P'):TdE a K P K' P':=by
 have h1:=I.nx;have h2:=L.nx;have h3:=I.le;have h4:=L.le;refine⟨L.w,fun B h=>I.may B (L.may B h),Nat.le_trans I.c3 L.c3,by omega,by omega,L.qu.trans hq,fun R hm hn=>L.rm (I.rm R hm hn) ?_⟩;have:cntS K1.st 3<=12:=cntTo_le _ _ _;omega
theorem TdI.pop(I:TdI a K P K1 P1){v:Nat}{t:List Nat}(hq:K1.qu=v::t):TdI a K P (popK K1 t) P1:=by
 obtain⟨k,W⟩:=I.w;have:=I.qo;rw[hq] at this;exact⟨⟨k,W.same rfl W.hb W.cur rfl⟩,I.may,I.c3,I.nx,I.le,this.tail.2,fun R hm hn=>(I.rm R hm hn).same rfl rfl rfl (fun _ x=>x)⟩
theorem TdI.vac(I:TdI a K P K1 P1){v:Nat}{r:Bool}{e:Int}(V:VacW a v false r K1 P1 K' P' e)(x:Nat):TdI a K P K' P'/\TdI a K P (mdK K' x) P':=by
 have hc:cntS K1.st 3<=cntS K'.st 3:=cnt3_le V.st3;have h1:=I.nx;have h2:=V.nx;have rm:Rm0 K P->(∀B,B<12->¬P.may B)->K.next+200<=1099511627775->Rm0 K' P':=fun R hm hn=>by
  have:cntS K1.st 3<=12:=cntTo_le _ _ _;exact(V.room _ ((I.rm R hm hn).to (by omega)) (fun x=>by cases x) (fun _ B hB h=>hm B hB (I.may B h))).2.1.to0
 obtain⟨k,W⟩:=V.w;have T:TdI a K P K' P':=⟨⟨k,W⟩,fun B h=>I.may B (V.may B h),Nat.le_trans I.c3 hc,by omega,Int.le_trans I.le V.le,by rw[V.qu];exact I.qo,rm⟩;exact⟨T,⟨⟨k,W.same rfl W.hb W.cur rfl⟩,T.may,T.c3,T.nx,T.le,T.qo,fun R hm hn=>(rm R hm hn).same rfl rfl rfl (fun _ x=>x)⟩⟩
theorem Wi.holds{k:Cp}(W:Wi a k K P)(hw:wornB K.st=false){v:Nat}(hl:lv K.at_ v≠0):K.st v=2\/K.fo=true/\K.fb=v:=by
 obtain⟨o,ho,e1,e2⟩:∃o,o<25/\K.at_ o≠0/\(K.at_ o-1)/8=v:=Classical.byContradiction fun hno=>hl (lv_zero.2 fun o ho e1 e2=>hno ⟨o,ho,e1,e2⟩);have:=W.live hw o ho e1;rw[e2] at this;exact this
end
section
variable{w w':World}{N:Cr}{K:KS}{X:Option Addr}{c:Nat}{P:CS}{b:Option Nat}{n:Int}{a:Nat->Nat->Nat}{k:Cp}
def FinQ(N:Cr)(X:Option Addr)(b:Option Nat)(w w':World)(ok:KS->CS->Prop)(dead:CS->Prop):Prop :=
 Keep (N.all++blk X) w w'/\((∃K' P' b' n' Y d,(b=none->b'=none)/\On w' N K' P' b' n' Y d/\(∀x,x∈blk Y->x∈blk X\/w.heap.size<=x)/\ok K' P')\/(b≠none/\∃Q n',MedX w' N.N Q n'/\dead Q))
theorem tendw_ok(h:On w N K P b n X c)(W:Wi a k K P)(hq:QuOk K.qu) :
  Spec Tryz.prog 61 #[.pointer (some ⟨N.k,0,none⟩)] w fun u w'=>FinQ N X b w w' (fun K' P'=>u=errOf 0/\TdE a K P K' P') (fun Q=>u=errOf 7/\Tw Q 1099511627775 a):=by
 have far:∀x,w.heap.size<=x->x∉N.all:=fun x hx hm=>by
  have h3:x<w.heap.size:=by
   rcases List.mem_append.1 hm with hm|hm
   ·exact h.core.lt (List.mem_append_left _ hm)
   ·exact h.l_lt _ hm
  omega
 have farX:∀x,w.heap.size<=x->x∉N.all++blk X:=fun x hx hm=>by
  rcases List.mem_append.1 hm with hm|hm
  ·exact far x hx hm
  ·have:=h.core.lt (List.mem_append_right _ hm);omega
 have hcur:=W.cur;refine spec_of_wpE (T:=tt) tt_ok Tryz.func61 rfl (by decide +kernel) Tryz.ntmps61 (by simp) ?_;conv=>whnf
 repeat ((first|(refine Ld.of h.core.c5 ?_)|refine CW.s ?_);conv=>whnf)
 refine Ca.of (pstep_ok h.core.pat hcur) ?_;rintro _ w1 ⟨g,rfl,rg,hg,rp,k1⟩;have h1:On w1 N { ptK K with F:=K.F,qu:=K.qu } (tdP K P 0) b n X c:=h.pat k1 rp;have kk1:Keep (N.all++blk X) w w1:=k1.mono (fun x hx=>by rw[List.mem_singleton.1 hx];exact List.mem_append_left _ (in_all_own (by simp[Cr.own])));conv=>whnf
 refine CW.loop (ι:=Nat×Int×(Nat->Int)×List Nat×Option Addr×Nat) (fun i w'=>i.1<=8/\On w' N { ptK K with F:=i.2.2.1,qu:=i.2.2.2.1 } (tdP K P i.1) b i.2.1 i.2.2.2.2.1 i.2.2.2.2.2/\Hl.HB i.2.2.1/\QuOk i.2.2.2.1/\Row w' g 3 8 (fun j=>.int .i64 (((K.cur+j)%96:Nat):Int))/\Keep (N.all++blk X) w w'/\(g∉blk i.2.2.2.2.1)/\∀x,x∈blk i.2.2.2.2.1->x∈blk X\/w.heap.size<=x)
  (fun i=>[(0,.pointer (some ⟨N.k,0,none⟩)),(22,.slice (some ⟨g,0,none⟩) 8 8),(23,.int .i64 8),(24,.int .i64 i.1)]) (fun i=>8-i.1) (0,n,K.F,K.qu,X,c) tt_ok ⟨by simp,h1,W.hb,hq,rg,kk1,fun hm=>farX g hg (List.mem_append_right _ hm),fun x hx=>.inl hx⟩ ⟨rfl,rfl,rfl,rfl,trivial⟩ ?_;clear h1 rg rp k1 kk1;rintro⟨i,n1,F1,q1,X1,c1⟩ wr ⟨hi,hr,hB,hQ,rg,kk,hgX,hX1⟩;simp only at hi hr hB hQ rg kk hgX hX1 ⊢;by_cases hlt:i<8
 ·have hpg:=tdP_pg K P i;have hp:(K.cur+i)%96<96:=Nat.mod_lt _ (by omega);have how:K.ow ((K.cur+i)%96)<=25:=W.con.mw.lo _ hp;have ci:=rg.cell i hlt;have farX1:∀x,wr.heap.size<=x->x∉N.all++blk X1:=fun x hx hm=>by
   have s1:=kk.size;rcases List.mem_append.1 hm with hm|hm
   ·exact far x (by omega) hm
   ·have:=hr.core.lt (List.mem_append_right _ hm);omega
  conv=>whnf
  repeat ((first|(refine Ld.at (by omega) ci ?_)|refine Ix.n ?_|refine Br.y ?_|refine CW.s ?_);conv=>whnf)
  refine Ca.of (cread_ok hr hB hp) ?_;rintro _ w3 ⟨R,dv,hR,hdv,rfl,h3,k3⟩;have rg3:=rg.keep k3 (far g hg);have kk3:=kk.trans (k3.mono (fun x hx=>List.mem_append_left _ hx));conv=>whnf
  refine Ru.alloca (alloc_page w3) ?_;intro x9 w4 hx9 hs4 r9 k4;conv=>whnf
  refine Ru.stpage r9 (pgc_one' R hdv _) ?_;intro w5 r95 k5;have q5:Keep [] w3 w5:=k4.then k5 (fun x hx=>.inr (by rw[List.mem_singleton.1 hx,hx9];exact Nat.le_refl _));have h5:=h3.keep0 q5;have rg5:=rg3.keep q5 (by simp);have kk5:=kk3.trans (q5.mono (by simp));clear k4 k5 q5 h3 rg3 r9 hs4 w4;conv=>whnf
  repeat ((first|refine Br.f ?_|refine Ru.neq_nil0 ?_|refine CW.s ?_);conv=>whnf)
  refine Ru.ldpage r95 ?_
  refine Ca.of (obsw_ok h5 hp how (hB.rd (by omega)) hQ (fun h0=>by
   have h0:K.ow ((K.cur+i)%96)≠0:=h0;obtain⟨y1,y2⟩:=W.con.o _ hp h0;obtain⟨_,t,D,e1,_⟩:=W.page (o:=K.ow ((K.cur+i)%96)-1) (by omega) (by omega);rw[y2,Nat.add_sub_cancel] at e1;unfold PgRead at hR;rw[hpg.1,e1] at hR;exact hR.2.2.1)) ?_
  rintro _ w6 ⟨rfl,F6,q6,Y6,d6,n6,h6,hB6,hQ6,k6,hY6⟩;have s5:wr.heap.size<=w5.heap.size:=by
   have:=k3.size;have:=(Keep.refl [] w5).size;have h35:w3.heap.size<=w5.heap.size:=by
    rw[<-hx9];have:=r95.lt;omega
   omega
  have hXX:∀x,x∈N.all++blk X1->x∈N.all++blk X\/w.heap.size<=x:=fun x hx=>by
   rcases List.mem_append.1 hx with hx|hx
   ·exact .inl (List.mem_append_left _ hx)
   ·rcases hX1 x hx with e|e
    ·exact .inl (List.mem_append_right _ e)
    ·exact .inr e
  have rg6:=rg5.keep k6 (fun hm=>by
   rcases List.mem_append.1 hm with hm|hm
   ·exact far g hg hm
   ·exact hgX hm)
  have hgl:=rg.lt;conv=>whnf
  repeat ((first|refine Ar.la ?_);conv=>whnf)
  exact⟨(i+1,n6,F6,q6,Y6,d6),⟨hlt,h6,hB6,hQ6,rg6,kk5.then k6 hXX,fun hm=>by
   rcases hY6 g hm with e|e
   ·exact hgX e
   ·omega,fun x hx=>by
   rcases hY6 x hx with e|e
   ·exact hX1 x e
   ·exact .inr (by have:=kk.size;omega)⟩,⟨rfl,rfl,rfl,vi (by simp only;omega),trivial⟩,by simp only;omega⟩
 obtain rfl:i=8:=by omega
 have hpg:=tdP_pg K P 8;have tdm:∀i B,(tdP K P i).may B->P.may B:=fun i B hm=>by
  induction i with
  |zero=>exact hm
  |succ i ih=>exact ih hm
 have I8:∀q,QuOk q->TdI a K P { ptK K with F:=F1,qu:=q } (tdP K P 8):=fun q hq=>⟨⟨k,W.same hpg.1 hB (Nat.mod_lt _ (by omega)) rfl⟩,tdm 8,Nat.le_refl _,Int.le_refl _,Int.le_refl _,hq,fun R _ _=>R.same rfl rfl rfl (tdm 8)⟩
 conv=>whnf
 repeat ((first|(refine Ld.of hr.core.c2 ?_)|refine Br.f ?_|refine CW.s ?_);conv=>whnf)
 refine Ca.of (mlive_ok hr.core.map (fun o ho=>W.lt ho)) ?_;rintro _ w2 ⟨g2,rfl,rg2,hg2,k2⟩;have h2:=hr.keep0 k2;have kk2:Keep (N.all++blk X) w w2:=kk.trans (k2.mono (by simp));have hg2w:w.heap.size<=g2:=Nat.le_trans kk.size hg2;have hg2X:g2∉blk X1:=fun hm=>by
  have:=hr.core.lt (List.mem_append_right _ hm);omega
 clear hr rg kk k2 hgX;generalize tdP K P 8=P8 at *;conv=>whnf
 refine CW.loop (ι:=Nat×List Nat×Option Addr×Nat) (fun i w'=>i.1<=12/\On w' N { ptK K with F:=F1,qu:=i.2.1 } P8 b n1 i.2.2.1 i.2.2.2/\QuOk i.2.1/\Row w' g2 3 12 (fun b=>.int .i64 (lv K.at_ b:Nat))/\Keep (N.all++blk X) w w'/\g2∉blk i.2.2.1/\∀x,x∈blk i.2.2.1->x∈blk X\/w.heap.size<=x)
  (fun i=>[(0,.pointer (some ⟨N.k,0,none⟩)),(46,.slice (some ⟨g2,0,none⟩) 12 12),(47,.int .i64 12),(48,.int .i64 i.1)]) (fun i=>12-i.1) (0,q1,X1,c1) tt_ok ⟨by simp,h2,hQ,rg2,kk2,hg2X,hX1⟩ ⟨rfl,rfl,rfl,rfl,trivial⟩ ?_;clear h2 rg2 kk2 hX1 hg2X hQ;rintro⟨i,q2,X2,c2⟩ wr ⟨hi,hr,hQ,rg,kk,hgX,hX1⟩;simp only at hi hr hQ rg kk hgX hX1 ⊢;by_cases hlt:i<12
 ·have ci:=rg.cell i hlt;have hQe:=hr.qu_at;conv=>whnf
  repeat ((first|(refine Ld.at (by omega) ci ?_)|(refine Ld.of hr.core.c4 ?_)|refine Ix.n ?_|refine Br.y ?_|refine CW.s ?_);conv=>whnf)
  refine Ca.of (Hl.tired_ok wr N.e _ hr.core.health i hlt) ?_;rintro _ _ ⟨rfl,rfl⟩;by_cases h1:F1 i≥512
  ·have hb1:decide (({ ptK K with F:=F1,qu:=q2 }:KS).F i≥512)=true:=decide_eq_true h1;rw[hb1];by_cases h2:0<lv K.at_ i
   ·conv=>whnf
    repeat ((first|refine Br.t ?_|refine Pk.t ?_|refine Br.y ?_);conv=>whnf)
    refine Ca.of (qadd_ok hQe (by omega) (by decide) hQ.len i hlt) ?_;rintro _ w3 ⟨rfl,hqe⟩;obtain⟨Y,d,h3,k3,hY⟩:=hr.queue hqe;have rg3:=rg.keep k3 (fun hm=>by
     rcases List.mem_cons.1 hm with e|hm
     ·exact far g2 hg2w (in_all_own (by simp[Cr.own,e]))
     ·exact hgX hm)
    have hgl:=rg.lt;conv=>whnf
    repeat ((first|refine Ar.la ?_);conv=>whnf)
    refine⟨(i+1,addQ q2 i,Y,d),⟨hlt,h3,hQ.add hlt,rg3,?_,fun hm=>by rcases hY g2 hm with h|h;exact hgX h;omega,?_⟩,⟨rfl,rfl,rfl,vi (by simp only;omega),trivial⟩,by simp only;omega⟩
    ·exact kk.then k3 (fun x hx=>by
      rcases List.mem_cons.1 hx with rfl|hx
      ·exact .inl (List.mem_append_left _ (in_all_own (by simp[Cr.own])))
      ·rcases hX1 x hx with h|h
       ·exact .inl (List.mem_append_right _ h)
       ·exact .inr h)
    ·intro x hx;rcases hY x hx with h|h
     ·exact hX1 x h
     ·exact .inr (Nat.le_trans kk.size h)
   ·conv=>whnf
    repeat ((first|refine Br.t ?_|refine Pk.t ?_|refine Ar.la ?_|refine Br.n ?_);conv=>whnf)
    exact⟨(i+1,q2,X2,c2),⟨hlt,hr,hQ,rg,kk,hgX,hX1⟩,⟨rfl,rfl,rfl,vi (by simp only;omega),trivial⟩,by simp only;omega⟩
  ·have hb1:decide (({ ptK K with F:=F1,qu:=q2 }:KS).F i≥512)=false:=decide_eq_false h1;rw[hb1];conv=>whnf
   repeat ((first|refine Br.f ?_|refine Pk.f ?_|refine Ar.la ?_);conv=>whnf)
   exact⟨(i+1,q2,X2,c2),⟨hlt,hr,hQ,rg,kk,hgX,hX1⟩,⟨rfl,rfl,rfl,vi (by simp only;omega),trivial⟩,by simp only;omega⟩
 obtain rfl:i=12:=by omega
 have IQ:=I8 q2 hQ;clear rg hgX hg2w hg2 hi hlt I8 hQ tdm hpg;generalize hKq:({ ptK K with F:=F1,qu:=q2 }:KS)=Kq at *;clear hKq;conv=>whnf
 repeat ((first|refine Br.f ?_|refine CW.s ?_);conv=>whnf)
 refine CW.loop (ι:=KS×CS×Option Nat×Option Addr×Nat×Int) (fun i w'=>(b=none->i.2.2.1=none)/\TdI a K P i.1 i.2.1/\On w' N i.1 i.2.1 i.2.2.1 i.2.2.2.2.2 i.2.2.2.1 i.2.2.2.2.1/\Keep (N.all++blk X) w w'/\∀x,x∈blk i.2.2.2.1->x∈blk X\/w.heap.size<=x)
  (fun _=>[(0,.pointer (some ⟨N.k,0,none⟩))]) (fun i=>i.1.qu.length) (Kq,P8,b,X2,c2,n1) tt_ok ⟨id,IQ,hr,kk,hX1⟩ ⟨rfl,trivial⟩ ?_;clear hr kk hX1 IQ;rintro⟨K1,P1,b1,X3,c3,n2⟩ wr ⟨hbn,I,hr,kk,hX⟩;simp only at hbn I hr kk hX ⊢;obtain⟨k1,W1⟩:=I.w;have hQe:=hr.qu_at;have hQo:=I.qo
 cases hq0:K1.qu with
 | nil =>
  rw[hq0] at hQe;conv=>whnf
  refine Ca.of (qnext_none hQe (by omega)) ?_;rintro _ _ ⟨rfl,rfl⟩;conv=>whnf
  repeat ((first|(refine Ld.of hr.core.c1 ?_)|refine Br.t ?_|refine CW.s ?_);conv=>whnf)
  refine Ca.of (worn_ok hr.core.pool) ?_;rintro _ _ ⟨rfl,rfl⟩;by_cases hw:wornB K1.st=true
  ·rw[hw];conv=>whnf
   repeat ((first|refine Br.t ?_|refine Pk.t ?_);conv=>whnf)
   exact⟨rfl,kk,.inl ⟨K1,P1,b1,n2,X3,c3,hbn,hr,hX,rfl,I.e hq0⟩⟩
  have hw:wornB K1.st=false:=by simpa using hw
  rw[hw];conv=>whnf
  repeat ((first|(refine Ld.of hr.core.c5 ?_)|refine Br.f ?_);conv=>whnf)
  refine Ca.of (pdue_ok hr.core.pat) ?_;rintro _ _ ⟨rfl,rfl⟩;have h3:K1.calls≥8\/(¬K1.calls≥8/\Hl.dueB K1.F=true)\/(¬K1.calls≥8/\Hl.dueB K1.F=false):=by
   by_cases h8:K1.calls≥8
   ·exact .inl h8
   ·cases hd:Hl.dueB K1.F
    ·exact .inr (.inr ⟨h8,rfl⟩)
    ·exact .inr (.inl ⟨h8,rfl⟩)
  rcases h3 with h8|⟨h8,hd⟩|⟨h8,hd⟩
  case' inl =>
   rw[decide_eq_true h8];conv=>whnf
   repeat ((first|refine Br.f ?_|refine Pk.f ?_|refine CW.s ?_);conv=>whnf)
  case' inr.inl =>
   rw[decide_eq_false h8];conv=>whnf
   repeat ((first|(refine Ld.of hr.core.c4 ?_)|refine Br.t ?_|refine Br.f ?_);conv=>whnf)
   refine Ca.of (Hl.due_ok _ _ _ hr.core.health W1.hb) ?_;rintro _ _ ⟨rfl,rfl⟩;rw[hd];conv=>whnf
   repeat ((first|refine Br.t ?_|refine Br.f ?_|refine Pk.f ?_|refine Pk.t ?_|refine CW.s ?_);conv=>whnf)
  case' inr.inr =>
   rw[decide_eq_false h8];conv=>whnf
   repeat ((first|(refine Ld.of hr.core.c4 ?_)|refine Br.t ?_|refine Br.f ?_);conv=>whnf)
   refine Ca.of (Hl.due_ok _ _ _ hr.core.health W1.hb) ?_;rintro _ _ ⟨rfl,rfl⟩;rw[hd];conv=>whnf
   repeat ((first|refine Br.t ?_|refine Br.f ?_|refine Pk.f ?_|refine Pk.t ?_);conv=>whnf)
   exact⟨rfl,kk,.inl ⟨K1,P1,b1,n2,X3,c3,hbn,hr,hX,rfl,I.e hq0⟩⟩
  all_goals
   refine Ca.of (notew_ok hr W1) ?_;rintro _ w3 ⟨k3,⟨K3,P3,b3,n3,hb3,h3,⟨rfl,K4,P4,L⟩|⟨rfl,E⟩⟩|⟨hb3,Q,n3,h3,rfl,htw⟩⟩
   all_goals have kk3:=kk.trans (k3.mono (fun x hx=>List.mem_append_left _ hx))
   ·conv=>whnf
    refine Ca.of (eis_ok 0 7 (by decide) _) ?_;rintro _ _ ⟨rfl,rfl⟩;conv=>whnf
    repeat ((first|refine Br.f ?_);conv=>whnf)
    exact⟨rfl,kk3,.inl ⟨K3,P3,b3,n3,X3,c3,fun x=>hb3 (hbn x),h3,hX,rfl,I.note hq0 L.noted⟩⟩
   ·conv=>whnf
    refine Ca.of (eis_ok 14 7 (by decide) _) ?_;rintro _ _ ⟨rfl,rfl⟩;conv=>whnf
    repeat ((first|refine Br.f ?_);conv=>whnf)
    exact⟨rfl,kk3,.inl ⟨K3,P3,b3,n3,X3,c3,fun x=>hb3 (hbn x),h3,hX,rfl,I.note hq0 E.n⟩⟩
   ·conv=>whnf
    refine Ca.of (eis_ok 7 7 (by decide) _) ?_;rintro _ _ ⟨rfl,rfl⟩;conv=>whnf
    repeat ((first|refine Br.t ?_);conv=>whnf)
    exact⟨rfl,kk3,.inr ⟨fun x=>hb3 (hbn x),Q,n3,h3,rfl,htw⟩⟩
 | cons v t =>
  have I2:=I.pop hq0;rw[hq0] at hQe hQo;obtain⟨hv,hQt⟩:=hQo.tail;conv=>whnf
  refine Ca.of (qnext_ok hQe (by omega) (by decide) hQt.len) ?_;rintro _ w3 ⟨rfl,hqe⟩;have hqe:QuEnd wr N.k 143 110 6 (coreF N K1 X3 c3) X3 t w3:=hqe;obtain⟨Y,d,h3,k3,hY⟩:=hr.queue hqe;have kk3:=kk.then k3 (fun x hx=>by
   rcases List.mem_cons.1 hx with rfl|hx
   ·exact .inl (List.mem_append_left _ (in_all_own (by simp[Cr.own])))
   ·rcases hX x hx with h|h
    ·exact .inl (List.mem_append_right _ h)
    ·exact .inr h)
  have hY3:∀x,x∈blk Y->x∈blk X\/w.heap.size<=x:=fun x hx=>by
   rcases hY x hx with h|h
   ·exact hX x h
   ·exact .inr (Nat.le_trans kk.size h)
  clear kk hX hqe hQe hY k3;conv=>whnf
  repeat ((first|(refine Ld.of h3.core.c2 ?_)|refine Br.f ?_|refine CW.s ?_);conv=>whnf)
  refine Ca.of (mlive_ok h3.core.map (fun o ho=>W1.lt ho)) ?_;rintro _ w4 ⟨g4,rfl,rg4,hg4,k4⟩;have h4:On w4 N (popK K1 t) P1 b1 n2 Y d:=h3.keep0 k4;have kk4:=kk3.trans (k4.mono (by simp));have c4:w4.cell? ⟨g4,v,none⟩=some (.int .i64 (lv K1.at_ v:Nat)):=rg4.cell v hv;by_cases hlv:lv K1.at_ v=0
  ·rw[hlv] at c4;conv=>whnf
   repeat ((first|(refine Ld.at (by omega) c4 ?_)|refine Br.t ?_|refine Pk.t ?_|refine Ix.n ?_|refine CW.s ?_);conv=>whnf)
   exact⟨(popK K1 t,P1,b1,Y,d,n2),⟨hbn,I2,h4,kk4,hY3⟩,⟨rfl,trivial⟩,by simp only[popK,hq0,List.length_cons];omega⟩
  conv=>whnf
  repeat ((first|(refine Ld.at (by omega) c4 ?_)|(refine Br.isnt (decide_eq_false (by omega)) ?_)|(refine Ld.of h4.core.c1 ?_)|refine Br.f ?_|refine Ix.n ?_|refine CW.s ?_);conv=>whnf)
  refine Ca.of (worn_ok h4.core.pool) ?_;rintro _ _ ⟨rfl,rfl⟩;by_cases hw:wornB K1.st=true
  ·have hw1:wornB (popK K1 t).st=true:=hw;rw[hw1];conv=>whnf
   repeat ((first|refine Br.t ?_|refine Pk.f ?_);conv=>whnf)
   exact⟨(popK K1 t,P1,b1,Y,d,n2),⟨hbn,I2,h4,kk4,hY3⟩,⟨rfl,trivial⟩,by simp only[popK,hq0,List.length_cons];omega⟩
  have hw:wornB K1.st=false:=by simpa using hw
  have hw1:wornB (popK K1 t).st=false:=hw;rw[hw1];conv=>whnf
  repeat ((first|(refine Ld.of h4.core.c4 ?_)|refine Br.f ?_|refine Pk.f ?_);conv=>whnf)
  refine Ca.of (Hl.weak_ok _ _ _ h4.core.health v hv) ?_;rintro _ _ ⟨rfl,rfl⟩;obtain⟨k2',W2⟩:=I2.w;conv=>whnf
  refine Ca.of (vacw_ok h4 W2 hv (W2.holds hw hlv) false _) ?_;rintro u w5 ⟨k5,⟨K5,P5,b5,n5,hb5,h5,e5,rfl,V⟩|⟨hb5,Q,n5,h5,rfl,htw⟩⟩
  ·have kk5:=kk4.trans (k5.mono (fun x hx=>List.mem_append_left _ hx));obtain⟨T1,T2⟩:=I2.vac V (lv K1.at_ v);have hqu:K5.qu=t:=V.qu;rcases V.er with rfl|rfl
   ·conv=>whnf
    repeat ((first|refine CW.s ?_);conv=>whnf)
    refine Ca.of (eis_ok 0 7 (by decide) _) ?_;rintro _ _ ⟨rfl,rfl⟩;have c107:w5.cell? ⟨N.k,107,none⟩=some (.int .i64 K5.reports):=h5.core.row.cell 107 (by omega);conv=>whnf
    repeat ((first|(refine Ld.at (by omega) c107 ?_)|(refine Ar.i64w ?_)|refine Br.t ?_|refine Br.f ?_|refine Ru.eql_nil0 ?_);conv=>whnf)
    refine Sd.rowAt h5.core.row 107 (by omega) (by omega) rfl ?_;intro w6 r6 k6;have c108':w6.cell? ⟨N.k,108,none⟩=some (.int .i64 K5.moved):=r6.cell 108 (by omega);conv=>whnf
    repeat ((first|(refine Ld.at (by omega) c108' ?_)|(refine Ar.i64w ?_));conv=>whnf)
    refine Sd.rowAt r6 108 (by omega) (by omega) rfl ?_;intro w7 r7 k7;have h7:=h5.row (K':=mdK K5 (lv K1.at_ v)) (k6.trans k7) r7 (fun j hj=>coreF_md _ _ j hj) rfl;conv=>whnf
    refine⟨(mdK K5 (lv K1.at_ v),P5,b5,Y,d,n5),⟨fun x=>hb5 (hbn x),T2,h7,kk5.trans ((k6.trans k7).mono (fun x hx=>by rw[List.mem_singleton.1 hx];exact List.mem_append_left _ (in_all_own (by simp[Cr.own])))),hY3⟩,⟨rfl,trivial⟩,?_⟩;show K5.qu.length<K1.qu.length;rw[hqu,hq0];simp
   ·conv=>whnf
    repeat ((first|refine CW.s ?_);conv=>whnf)
    refine Ca.of (eis_ok 14 7 (by decide) _) ?_;rintro _ _ ⟨rfl,rfl⟩;conv=>whnf
    repeat ((first|refine Br.f ?_|refine Ru.e1 ?_);conv=>whnf)
    refine⟨(K5,P5,b5,Y,d,n5),⟨fun x=>hb5 (hbn x),T1,h5,kk5,hY3⟩,⟨rfl,trivial⟩,?_⟩;show K5.qu.length<K1.qu.length;rw[hqu,hq0];simp
  ·have kk5:=kk4.trans (k5.mono (fun x hx=>List.mem_append_left _ hx));conv=>whnf
   repeat ((first|refine CW.s ?_);conv=>whnf)
   refine Ca.of (eis_ok 7 7 (by decide) _) ?_;rintro _ _ ⟨rfl,rfl⟩;conv=>whnf
   repeat ((first|refine Br.t ?_);conv=>whnf)
   exact⟨rfl,kk5,.inr ⟨fun x=>hb5 (hbn x),Q,n5,h5,rfl,htw⟩⟩
end
structure CallW(a:Nat->Nat->Nat)(K:KS)(P:CS)(K':KS)(P':CS):Prop where
 w:∃k,Wi a k K' P'
 may:∀B,P'.may B->P.may B
 c3:cntS K.st 3<=cntS K'.st 3
 nx:K'.next-4*(cntS K'.st 3:Nat)<=K.next-4*(cntS K.st 3:Nat)+2
 le:K.next<=K'.next
 rm:Rm0 K P->(∀B,B<12->¬P.may B)->K.next+300<=1099511627775->Rm0 K' P'
theorem LwN.call{a:Nat->Nat->Nat}{K K1 K':KS}{P P1 P':CS}(L:LwN a K P K1 P1)(T:TdE a K1 P1 K' P'):CallW a K P K' P':=by
 have h1:=L.nx;have h2:=T.nx;have h3:=L.le;have h4:=T.le;refine⟨T.w,fun B h=>L.may B (T.may B h),Nat.le_trans L.c3 T.c3,by omega,by omega,fun R hm hn=>T.rm (L.rm R (by omega)) (fun B hB h=>hm B hB (L.may B h)) ?_⟩;have:cntS K1.st 3<=12:=cntTo_le _ _ _;omega
theorem seen_n{a:Nat->Nat->Nat}{k:Cp}{K:KS}{P P':CS}(W:Wi a k K P)(hpg:P'.pg=P.pg)(hm:∀B,P'.may B->P.may B){F:Nat->Int}(hF:Hl.HB F)(q:List Nat):Wi a k { K with F:=F,qu:=q } P'/\(∀K' P'',TdE a { K with F:=F,qu:=q } P' K' P''->CallW a K P K' P''):=by
 have W':Wi a k { K with F:=F,qu:=q } P':=W.same hpg hF W.cur rfl;refine⟨W',fun K' P'' T=>?_⟩;have h2:=T.nx;exact⟨T.w,fun B h=>hm B (T.may B h),T.c3,by have h2:K'.next-4*(cntS K'.st 3:Nat)<=K.next-4*(cntS K.st 3:Nat)+1:=h2;omega,T.le,fun R hmm hn=>T.rm (R.same rfl rfl rfl hm) (fun B hB h=>hmm B hB (hm B h)) (by show K.next+200<=_;omega)⟩
def DvFin(own:List Nat)(d ch:Nat)(b:Option Nat)(w w':World)(ok:KS->CS->Prop)(dead:CS->Prop):Prop :=
 Keep own w w'/\((∃K' P' b' own',(b=none->b'=none)/\DvOn w' own' d ch K' P' b'/\(∀x,x∈own'->x∈own\/w.heap.size<=x)/\ok K' P')\/(b≠none/\∃Q,DvOff w' d ch Q/\dead Q))
theorem DvFin.mono{own:List Nat}{d ch:Nat}{b:Option Nat}{w w':World}{ok ok':KS->CS->Prop}{dead dead':CS->Prop}(h:DvFin own d ch b w w' ok dead)(h1:∀K P,ok K P->ok' K P)(h2:∀Q,dead Q->dead' Q):DvFin own d ch b w w' ok' dead':=by
 obtain⟨k,⟨K',P',b',own',a1,a2,a3,a4⟩|⟨a1,Q,a2,a3⟩⟩:=h
 ·exact⟨k,.inl ⟨K',P',b',own',a1,a2,a3,h1 _ _ a4⟩⟩
 ·exact⟨k,.inr ⟨a1,Q,a2,h2 _ a3⟩⟩
section
variable{w w':World}{N:Cr}{K:KS}{X Y:Option Addr}{c d ch:Nat}{P:CS}{b:Option Nat}{n:Int}{a:Nat->Nat->Nat}{k:Cp}
theorem endedw_ok{e:Int}(he:e=0\/e=14)(r:DvRow w d ch (some ⟨N.k,0,none⟩))(h:On w N K P b n X c)(eC:N.N.c=ch)(W:Wi a k K P)(hq:QuOk K.qu) :
  Spec Tryz.prog 43 #[.pointer (some ⟨d,0,none⟩),errOf e] w fun v w'=>DvFin (d::(N.all++blk X)) d ch b w w' (fun K' P'=>v=errOf e/\TdE a K P K' P') (fun Q=>v=errOf 7/\Tw Q 1099511627775 a):=by
 have hne:=r.ne h;have c1:w.cell? ⟨d,1,none⟩=some (.pointer (some ⟨N.k,0,none⟩)):=Row.cell r 1 (by omega);rcases he with rfl|rfl
 all_goals
  refine spec_of_wpE (T:=tt) tt_ok Tryz.func43 rfl (by decide +kernel) Tryz.ntmps43 (by simp) ?_;conv=>whnf
  repeat ((first|refine CW.s ?_);conv=>whnf)
  refine Ca.of (eis_ok _ 7 (by decide) _) ?_;rintro _ _ ⟨rfl,rfl⟩;conv=>whnf
  repeat ((first|(refine Ld.of c1 ?_)|refine Br.t ?_);conv=>whnf)
  refine Ca.of (tendw_ok h W hq) ?_;rintro _ w1 ⟨k1,⟨K1,P1,b1,n1,Y,e,hb1,h1,hY,rfl,T⟩|⟨hb1,Q,n1,M1,rfl,htw⟩⟩
  all_goals
   have r1:DvRow w1 d ch (some ⟨N.k,0,none⟩):=Row.keep r k1 hne;have kk:Keep (d::(N.all++blk X)) w w1:=k1.mono (fun x hx=>List.mem_cons_of_mem _ hx)
  ·conv=>whnf
   repeat ((first|refine Br.f ?_|refine Ru.neq_nil0 ?_|refine CW.s ?_);conv=>whnf)
   refine Ca.of (eis_ok _ 7 (by decide) _) ?_;rintro _ _ ⟨rfl,rfl⟩;conv=>whnf
   repeat ((first|refine Br.f ?_);conv=>whnf)
   refine⟨rfl,kk,.inl ⟨K1,P1,b1,_,hb1,⟨N,Y,e,n1,rfl,r1,h1,eC,T.qu⟩,fun x hx=>?_,rfl,T⟩⟩;rcases List.mem_cons.1 hx with rfl|hx
   ·exact .inl (List.mem_cons_self ..)
   ·rcases List.mem_append.1 hx with hx|hx
    ·exact .inl (List.mem_cons_of_mem _ (List.mem_append_left _ hx))
    ·rcases hY x hx with h|h
     ·exact .inl (List.mem_cons_of_mem _ (List.mem_append_right _ h))
     ·exact .inr h
  ·conv=>whnf
   repeat ((first|refine Br.t ?_|refine Ru.n1 ?_|refine CW.s ?_);conv=>whnf)
   refine Ca.of (eis_ok 7 7 (by decide) _) ?_;rintro _ _ ⟨rfl,rfl⟩;conv=>whnf
   repeat ((first|refine Br.t ?_);conv=>whnf)
   refine Sd.rowAt r1 1 (by omega) (by omega) rfl ?_;intro w2 r2 k2;have r2:DvRow w2 d ch none:=r2.congr (fun j hj=>dvF_set ch _ _ j hj);conv=>whnf
   obtain⟨C1,M1,D1⟩:=M1;have hcd:N.N.c∉[d]:=fun hm=>hne (by
    rw[<-List.mem_singleton.1 hm];exact List.mem_append_left _ (in_all_l (by simp[Pt.l])))
   exact⟨rfl,kk.trans (k2.mono (fun x hx=>by rw[List.mem_singleton.1 hx];exact List.mem_cons_self ..)),.inr ⟨hb1,Q,⟨r2,C1,by rw[<-eC];exact M1.chip.keep k2 hcd,D1⟩,rfl,htw⟩⟩
theorem DvFin.first{w1:World}{own1 own:List Nat}{b1:Option Nat}{ok:KS->CS->Prop}{dead:CS->Prop}(h:DvFin own1 d ch b1 w1 w' ok dead)(k:Keep own w w1)(hb:b=none->b1=none)(ho:∀x,x∈own1->x∈own\/w.heap.size<=x):DvFin own d ch b w w' ok dead:=by
 obtain⟨k2,h⟩:=h;refine⟨k.then k2 ho,?_⟩;rcases h with⟨K',P',b',own',a1,a2,a3,a4⟩|⟨a1,Q,a2,a3⟩
 ·refine .inl ⟨K',P',b',own',fun x=>a1 (hb x),a2,fun x hx=>?_,a4⟩;rcases a3 x hx with e|e
  ·exact ho x e
  ·exact .inr (Nat.le_trans k.size e)
 ·exact .inr ⟨fun x=>a1 (hb x),Q,a2,a3⟩
def WrEnd(a a':Nat->Nat->Nat)(K:KS)(P:CS)(own:List Nat)(d ch:Nat)(b:Option Nat)(w:World)(v:Value)(w':World):Prop :=
 DvFin own d ch b w w' (fun K' P'=>(v=errOf 0/\CallW a' K P K' P')\/(v=errOf 14/\CallW a K P K' P'/\(Rm0 K P->K.next+120<=1099511627775->False))) (fun Q=>v=errOf 7/\(Tw Q 1099511627775 a\/Tw Q 1099511627775 a'))
theorem dwritew_ok{own:List Nat}(D:DvOn w own d ch K P b)(W:Wi a k K P){s e:Nat}(hs:s<24){A:Option Addr}{f:Nat->Nat}(hf:∀j,f j<256)(hA:RdB w A 160 f)(he:160<=e) :
  Spec Tryz.prog 45 #[.pointer (some ⟨d,0,none⟩),.int .i64 s,.slice A 160 e] w fun v w'=>WrEnd a (setA a s f) K P own d ch b w v w':=by
 obtain⟨N,X,c,n,rfl,r,h,eC,hqu⟩:=D;have c1:w.cell? ⟨d,1,none⟩=some (.pointer (some ⟨N.k,0,none⟩)):=Row.cell r 1 (by omega);have hne:=r.ne h;refine spec_of_wpE (T:=tt) tt_ok Tryz.func45 rfl (by decide +kernel) Tryz.ntmps45 (by simp) ?_;conv=>whnf
 repeat ((first|(refine Ld.of c1 ?_)|refine CW.s ?_);conv=>whnf)
 refine Ru.of (core_some w _ _) ?_;conv=>whnf
 repeat ((first|refine Br.f ?_);conv=>whnf)
 refine Ca.of (dis_ok s hs w) ?_;rintro _ _ ⟨rfl,rfl⟩;conv=>whnf
 repeat ((first|(refine Ld.of c1 ?_)|refine Br.f ?_|refine Pk.f ?_);conv=>whnf)
 refine Ca.of (putw_ok h W hs hf hA he) ?_;rintro u w1 ⟨k1,hu⟩;have r1:DvRow w1 d ch (some ⟨N.k,0,none⟩):=Row.keep r k1 (fun hm=>hne (List.mem_append_left _ hm));have kk1:Keep (d::(N.all++blk X)) w w1:=k1.mono (fun x hx=>List.mem_cons_of_mem _ (List.mem_append_left _ hx));rcases hu with⟨K1,P1,b1,n1,hb1,h1,⟨rfl,K2,P2,L⟩|⟨rfl,E⟩⟩|⟨hb1,Q,n1,M1,rfl,htw⟩
 ·have LN:=L.put hs hf;obtain⟨k1',W1⟩:=LN.w;conv=>whnf
  refine Ca.of (endedw_ok (.inl rfl) r1 h1 eC W1 (by rw[LN.qu,hqu];exact QuOk.nil)) ?_;rintro v w2 hv;conv=>whnf
  exact⟨rfl,(hv.first kk1 hb1 (fun x hx=>.inl hx)).mono (fun _ _ ⟨e1,T⟩=>.inl ⟨e1,LN.call T⟩) (fun _ ⟨e1,t⟩=>⟨e1,.inr t⟩)⟩
 ·have LN:=E.n;obtain⟨k1',W1⟩:=LN.w;conv=>whnf
  refine Ca.of (endedw_ok (.inr rfl) r1 h1 eC W1 (by rw[LN.qu,hqu];exact QuOk.nil)) ?_;rintro v w2 hv;conv=>whnf
  exact⟨rfl,(hv.first kk1 hb1 (fun x hx=>.inl hx)).mono (fun _ _ ⟨e1,T⟩=>.inr ⟨e1,LN.call T,E.rm⟩) (fun _ ⟨e1,t⟩=>⟨e1,.inl t⟩)⟩
 ·conv=>whnf
  refine Ca.of (ended7_ok r1 M1 eC) ?_;rintro v w2 ⟨rfl,a1,k2⟩;conv=>whnf
  exact⟨rfl,kk1.trans (k2.mono (fun x hx=>by rw[List.mem_singleton.1 hx];exact List.mem_cons_self ..)),.inr ⟨hb1,Q,a1,rfl,.inl htw⟩⟩
theorem dtrimw_ok{own:List Nat}(D:DvOn w own d ch K P b)(W:Wi a k K P){s:Nat}(hs:s<24) :
  Spec Tryz.prog 17 #[.pointer (some ⟨d,0,none⟩),.int .i64 s] w fun v w'=>WrEnd a (setA a s (fun _=>0)) K P own d ch b w v w':=by
 obtain⟨N,X,c,n,rfl,r,h,eC,hqu⟩:=D;have c1:w.cell? ⟨d,1,none⟩=some (.pointer (some ⟨N.k,0,none⟩)):=Row.cell r 1 (by omega);have hne:=r.ne h;by_cases h0:K.at_ s=0
 ·have Wz:Wi (setA a s (fun _=>0)) k K P:=by
   refine⟨W.mt,fun o j ho hj=>?_,W.en,W.fl,W.nx,W.con,W.hb,W.cur,W.st,W.pn,W.fb,W.fi,W.bl,W.f1,W.fr,W.bad,W.live⟩;unfold setA;by_cases hos:o=s
   ·rw[if_pos hos,hos];unfold arr;rw[if_pos h0]
   ·rw[if_neg hos];exact W.sh o j ho hj
  refine spec_of_wpE (T:=tt) tt_ok Tryz.func17 rfl (by decide +kernel) Tryz.ntmps17 (by simp) ?_;conv=>whnf
  repeat ((first|(refine Ld.of c1 ?_)|refine CW.s ?_);conv=>whnf)
  refine Ru.of (core_some w _ _) ?_;conv=>whnf
  repeat ((first|refine Br.f ?_);conv=>whnf)
  refine Ca.of (dis_ok s hs w) ?_;rintro _ _ ⟨rfl,rfl⟩;conv=>whnf
  repeat ((first|(refine Ld.of c1 ?_)|refine Br.f ?_);conv=>whnf)
  refine Ca.of (trim_none h hs h0) ?_;rintro u w1 ⟨k1,hu⟩;have r1:DvRow w1 d ch (some ⟨N.k,0,none⟩):=Row.keep r k1 (fun hm=>hne (List.mem_append_left _ hm));have kk1:Keep (d::(N.all++blk X)) w w1:=k1.mono (fun x hx=>List.mem_cons_of_mem _ (List.mem_append_left _ hx));rcases hu.two with⟨b1,hb1,rfl,n1,h1⟩|⟨_,Q,hQ,_⟩
  case inr=>cases hQ
  conv=>whnf
  refine Ca.of (endedw_ok (.inl rfl) r1 h1 eC Wz (by rw[hqu];exact QuOk.nil)) ?_;rintro v w2 hv;conv=>whnf
  refine⟨rfl,(hv.first kk1 hb1 (fun x hx=>.inl hx)).mono (fun K' P' ⟨e1,T⟩=>.inl ⟨e1,?_⟩) (fun _ ⟨e1,t⟩=>⟨e1,.inr t⟩)⟩;have T:TdE (setA a s (fun _=>0)) { K with F:=K.F,qu:=K.qu } P K' P':=T;exact(seen_n Wz rfl (fun _ x=>x) W.hb K.qu).2 _ _ T
 refine spec_of_wpE (T:=tt) tt_ok Tryz.func17 rfl (by decide +kernel) Tryz.ntmps17 (by simp) ?_;conv=>whnf
 repeat ((first|(refine Ld.of c1 ?_)|refine CW.s ?_);conv=>whnf)
 refine Ru.of (core_some w _ _) ?_;conv=>whnf
 repeat ((first|refine Br.f ?_);conv=>whnf)
 refine Ca.of (dis_ok s hs w) ?_;rintro _ _ ⟨rfl,rfl⟩;conv=>whnf
 repeat ((first|(refine Ld.of c1 ?_)|refine Br.f ?_);conv=>whnf)
 refine Ca.of (trimw_ok h W hs h0) ?_;rintro u w1 ⟨k1,hu⟩;have r1:DvRow w1 d ch (some ⟨N.k,0,none⟩):=Row.keep r k1 (fun hm=>hne (List.mem_append_left _ hm));have kk1:Keep (d::(N.all++blk X)) w w1:=k1.mono (fun x hx=>List.mem_cons_of_mem _ (List.mem_append_left _ hx));rcases hu with⟨K1,P1,b1,n1,hb1,h1,⟨rfl,K2,P2,L,rfl⟩|⟨rfl,E⟩⟩|⟨hb1,Q,n1,M1,rfl,htw⟩
 ·have LN:=L.trimmed hs h0;obtain⟨k1',W1⟩:=LN.w;conv=>whnf
  refine Ca.of (endedw_ok (.inl rfl) r1 h1 eC W1 (by rw[LN.qu,hqu];exact QuOk.nil)) ?_;rintro v w2 hv;conv=>whnf
  exact⟨rfl,(hv.first kk1 hb1 (fun x hx=>.inl hx)).mono (fun _ _ ⟨e1,T⟩=>.inl ⟨e1,LN.call T⟩) (fun _ ⟨e1,t⟩=>⟨e1,.inr t⟩)⟩
 ·have LN:=E.n;obtain⟨k1',W1⟩:=LN.w;conv=>whnf
  refine Ca.of (endedw_ok (.inr rfl) r1 h1 eC W1 (by rw[LN.qu,hqu];exact QuOk.nil)) ?_;rintro v w2 hv;conv=>whnf
  exact⟨rfl,(hv.first kk1 hb1 (fun x hx=>.inl hx)).mono (fun _ _ ⟨e1,T⟩=>.inr ⟨e1,LN.call T,E.rm⟩) (fun _ ⟨e1,t⟩=>⟨e1,.inl t⟩)⟩
 ·conv=>whnf
  refine Ca.of (ended7_ok r1 M1 eC) ?_;rintro v w2 ⟨rfl,a1,k2⟩;conv=>whnf
  exact⟨rfl,kk1.trans (k2.mono (fun x hx=>by rw[List.mem_singleton.1 hx];exact List.mem_cons_self ..)),.inr ⟨hb1,Q,a1,rfl,.inl htw⟩⟩
def ReEnd(a:Nat->Nat->Nat)(s:Nat)(K:KS)(P:CS)(own:List Nat)(d ch:Nat)(b:Option Nat)(w:World)(v:Value)(w':World):Prop :=
 DvFin own d ch b w w' (fun K' P'=>(∃(Y:Option Addr) (e:Nat) (f:Nat->Nat),v=.tuple #[.slice Y 160 e,errOf 0]/\Ly w' 5 1 Y 160 e (fun j=>.int .u8 (f j:Nat))/\(∀x,x∈blk Y->w.heap.size<=x)/\∀j,j<160->f j=a s j)/\CallW a K P K' P') (fun Q=>v=.tuple #[.slice none 0 0,errOf 7]/\Tw Q 1099511627775 a)
theorem dreadw_ok{own:List Nat}(D:DvOn w own d ch K P b)(W:Wi a k K P){s:Nat}(hs:s<24) :
  Spec Tryz.prog 22 #[.pointer (some ⟨d,0,none⟩),.int .i64 s] w fun v w'=>ReEnd a s K P own d ch b w v w':=by
 have hlt:=D.own_lt;obtain⟨N,X,c,n,rfl,r,h,eC,hqu⟩:=D;have c1:w.cell? ⟨d,1,none⟩=some (.pointer (some ⟨N.k,0,none⟩)):=Row.cell r 1 (by omega);have hne:=r.ne h;have hsh:=W.sh s;by_cases h0:K.at_ s=0
 ·refine spec_of_wpE (T:=tt) tt_ok Tryz.func22 rfl (by decide +kernel) Tryz.ntmps22 (by simp) ?_;conv=>whnf
  repeat ((first|(refine Ld.of c1 ?_)|refine CW.s ?_);conv=>whnf)
  refine Ru.of (core_some w _ _) ?_;conv=>whnf
  repeat ((first|refine Br.f ?_);conv=>whnf)
  refine Ca.of (dis_ok s hs w) ?_;rintro _ _ ⟨rfl,rfl⟩;conv=>whnf
  repeat ((first|(refine Ld.of c1 ?_)|refine Br.f ?_);conv=>whnf)
  refine Ca.of (cget_none h hs h0) ?_;rintro _ w1 ⟨Y,e,rfl,hY,k1⟩;have r1:DvRow w1 d ch (some ⟨N.k,0,none⟩):=Row.keep r k1 (by simp);conv=>whnf
  repeat ((first|refine CW.s ?_);conv=>whnf)
  refine Ca.of (endedw_ok (.inl rfl) r1 (h.keep0 k1) eC W (by rw[hqu];exact QuOk.nil)) ?_;rintro v w2 ⟨k12,hr2⟩;have hv:=DvFin.first (w:=w) (b:=b) (own:=d::(N.all++blk X)) (w1:=w1) ⟨k12,hr2⟩ (k1.mono (by simp)) id (fun x hx=>.inl hx);have hY2:Ly w2 5 1 Y 160 e (fun _=>.int .u8 ((0:Nat):Int)):=hY.ly.keep k12 (fun x hx hm=>by
   have:=hY.new x hx;have:=hlt x hm;omega)
  obtain⟨kk,⟨K',P',b',own',a1,a2,a3,rfl,T⟩|⟨a1,Q,a2,rfl,t⟩⟩:=hv
  ·conv=>whnf
   repeat ((first|refine Br.f ?_|refine Ru.neq_nil0 ?_);conv=>whnf)
   have T:TdE a { K with F:=K.F,qu:=K.qu } P K' P':=T;exact⟨rfl,kk,.inl ⟨K',P',b',own',a1,a2,a3,⟨Y,e,fun _=>0,rfl,hY2,hY.new,fun j hj=>by
    have:=hsh j hs hj;unfold arr at this;rw[if_pos h0] at this;exact this⟩,(seen_n W rfl (fun _ x=>x) W.hb K.qu).2 _ _ T⟩⟩
  ·conv=>whnf
   repeat ((first|refine Br.t ?_|refine Ru.n1 ?_);conv=>whnf)
   exact⟨rfl,kk,.inr ⟨a1,Q,a2,rfl,t⟩⟩
 obtain⟨hp,t,F,e1,e2,e3,e4,e5,e6,e7,e8⟩:=W.page (o:=s) (by omega) h0;refine spec_of_wpE (T:=tt) tt_ok Tryz.func22 rfl (by decide +kernel) Tryz.ntmps22 (by simp) ?_;conv=>whnf
 repeat ((first|(refine Ld.of c1 ?_)|refine CW.s ?_);conv=>whnf)
 refine Ru.of (core_some w _ _) ?_;conv=>whnf
 repeat ((first|refine Br.f ?_);conv=>whnf)
 refine Ca.of (dis_ok s hs w) ?_;rintro _ _ ⟨rfl,rfl⟩;conv=>whnf
 repeat ((first|(refine Ld.of c1 ?_)|refine Br.f ?_);conv=>whnf)
 refine Ca.of (cgetw_ok h W.hb (by rw[hqu];exact QuOk.nil) hs h0 (W.lt (by omega)) (W.con.mw.lo _ hp) e1 e3 e2) ?_;rintro _ w1 ⟨Y,e,rfl,hY,G,q,Y1,c1',n1,h1,hG,hQ,k1,hY1⟩;have r1:DvRow w1 d ch (some ⟨N.k,0,none⟩):=Row.keep r k1 hne;obtain⟨W1,hT⟩:=seen_n W (P':=P.readE (K.at_ s-1)) rfl (fun _ x=>x) hG q;conv=>whnf
 repeat ((first|refine CW.s ?_);conv=>whnf)
 refine Ca.of (endedw_ok (.inl rfl) r1 h1 eC W1 hQ) ?_;rintro v w2 ⟨k12,hr2⟩;have hown:∀x,x∈d::(N.all++blk Y1)->x∈d::(N.all++blk X)\/w.heap.size<=x:=fun x hx=>by
  rcases List.mem_cons.1 hx with rfl|hx
  ·exact .inl (List.mem_cons_self ..)
  ·rcases List.mem_append.1 hx with hx|hx
   ·exact .inl (List.mem_cons_of_mem _ (List.mem_append_left _ hx))
   ·rcases hY1 x hx with h|h
    ·exact .inl (List.mem_cons_of_mem _ (List.mem_append_right _ h))
    ·exact .inr h
 have hv:=DvFin.first (w:=w) (b:=b) (own:=d::(N.all++blk X)) (w1:=w1) ⟨k12,hr2⟩ (k1.mono (fun x hx=>List.mem_cons_of_mem _ hx)) id hown;have hY2:Ly w2 5 1 Y 160 e (fun j=>.int .u8 (F j:Nat)):=hY.ly.keep k12 (fun x hx hm=>by
  have h2:=hY.new x hx;rcases List.mem_cons.1 hm with rfl|hm
  ·have:=hlt x (List.mem_cons_self ..);omega
  ·rcases List.mem_append.1 hm with hm|hm
   ·have:=hlt x (List.mem_cons_of_mem _ (List.mem_append_left _ hm));omega
   ·exact(hY.ly.type_ne h1.core.qu (by decide) hx) hm)
 obtain⟨kk,⟨K',P',b',own',a1,a2,a3,rfl,T⟩|⟨a1,Q,a2,rfl,t⟩⟩:=hv
 ·conv=>whnf
  repeat ((first|refine Br.f ?_|refine Ru.neq_nil0 ?_);conv=>whnf)
  exact⟨rfl,kk,.inl ⟨K',P',b',own',a1,a2,a3,⟨Y,e,F,rfl,hY2,hY.new,fun j hj=>by
   have:=hsh j hs hj;unfold arr at this;rw[if_neg h0,dataAt_full e1] at this;exact this⟩,hT _ _ T⟩⟩
 ·conv=>whnf
  repeat ((first|refine Br.t ?_|refine Ru.n1 ?_);conv=>whnf)
  exact⟨rfl,kk,.inr ⟨a1,Q,a2,rfl,t⟩⟩
end
theorem fd_sound{t:Tg}{p:Nat}(h:t.ok)(hp:p<96):(fdOf p t).sound=true:=by
 unfold Fd.sound fdOf;unfold Tg.ok at h;refine decide_eq_true ?_;simp only;omega
theorem fd_place(p:Nat)(t:Tg):(fdOf p t).place=(p:Nat):=rfl
def fd1(P:CS)(p:Nat):List Fd:=match P.pg p with
 |.full t D=>[fdOf p t]
 |_=>[]
theorem fdsTo_succ(P:CS)(p:Nat):fdsTo P (p+1)=fdsTo P p++fd1 P p:=by
 unfold fd1
 cases e:P.pg p with
 |full t D=>exact fdsTo_full e
 |blank=>rw[fdsTo_not (fun t D h=>by rw[e] at h;cases h),List.append_nil]
 |torn n=>rw[fdsTo_not (fun t D h=>by rw[e] at h;cases h),List.append_nil]
theorem sel_append(L M:List Fd)(p:Nat):sel (L++M) p=sel L p++sel M p:=by
 unfold sel;rw[List.filter_append]
theorem sel_fd1{P:CS}(hv:P.val){n p:Nat}(hn:n<96):sel (fd1 P n) p=if n=p then fd1 P n else []:=by
 unfold fd1
 cases e:P.pg n with
 | full t D =>
  have hs:=fd_sound (hv n t D hn e).1 hn;unfold sel;by_cases h:n=p
  ·subst h;simp[hs,fd_place]
  ·have:((n:Int) == (p:Int))=false:=by
    simp;omega
   simp[hs,fd_place,h,this]
 |blank=>simp[sel]
 |torn k=>simp[sel]
theorem sel_fds{P:CS}(hv:P.val){p:Nat}:∀ {n:Nat},n<=96->sel (fdsTo P n) p=if p<n then fd1 P p else []
 |0,_=>by rw[fdsTo_zero];rfl
 | n+1,hn=>by
  rw[fdsTo_succ,sel_append,sel_fds hv (n:=n) (by omega),sel_fd1 hv (by omega)];by_cases h:p<n
  ·rw[if_pos h,if_neg (show ¬n=p by omega),if_pos (show p<n+1 by omega),List.append_nil]
  ·rw[if_neg h];by_cases h2:n=p
   ·subst h2;rw[if_pos rfl,if_pos (show n<n+1 by omega),List.nil_append]
   ·rw[if_neg h2,if_neg (show ¬p<n+1 by omega),List.nil_append]
theorem byP_fds{P:CS}(hv:P.val):∀ {k:Nat},k<=96->byP (fdsTo P 96) k=fdsTo P k
 |0,_=>by rw[fdsTo_zero];rfl
 | k+1,hk=>by
  have ih:=byP_fds hv (k:=k) (by omega);unfold byP at ih ⊢;rw[List.range_succ,List.flatMap_append,ih,fdsTo_succ P k,List.flatMap_singleton,sel_fds hv (by omega),if_pos (by omega)]
end
section
open Go.RowKit
theorem sn_zero{F:Nat->Int}(h:∀b,b<12->F (12+b)=0):∀n,n<=12->∀b,b<12->snF F n (12+b)=0
 |0,_,b,hb=>h b hb
 | n+1,hn,b,hb=>by
  have ih:=sn_zero h n (by omega);have:∀k,∀b,b<12->rdN (snF F n) n k (12+b)=0:=fun k=>by
   induction k with
   |zero=>exact ih
   |succ k ihk=>exact rd_zero (by omega) ihk
  exact this 8 b hb
theorem clP_pg(K:KS)(P:CS):∀n q,(clP K P n).pg q=if q/8<n/\K.st (q/8)=0 then .blank else P.pg q
 |0,q=>by rw[clP_zero,if_neg (by omega)]
 | n+1,q=>by
  have ih:=clP_pg K P n q;rw[clP_succ];by_cases h:K.st n=0
  ·rw[if_pos h];show(if q/8=n then Pg.blank else (clP K P n).pg q)=_;by_cases hq:q/8=n
   ·rw[if_pos hq,if_pos ⟨by omega,by rw[hq];exact h⟩]
   ·rw[if_neg hq,ih];by_cases h2:q/8<n/\K.st (q/8)=0
    ·rw[if_pos h2,if_pos ⟨by omega,h2.2⟩]
    ·rw[if_neg h2,if_neg (fun x=>h2 ⟨by omega,x.2⟩)]
  ·rw[if_neg h,ih];by_cases h2:q/8<n/\K.st (q/8)=0
   ·rw[if_pos h2,if_pos ⟨by omega,h2.2⟩]
   ·rw[if_neg h2,if_neg (fun x=>h2 ⟨by
     by_cases hb:q/8=n
     ·rw[hb] at x;exact absurd x.2 h
     ·omega,x.2⟩)]
theorem er_hb{F:Nat->Int}(h:Hl.HB F)(v:Nat):Hl.HB (Hl.erF F v):=fun b hb=>by
 have h1:=h b hb;unfold Hl.erF Hl.upd;refine⟨?_,?_,?_⟩
 ·split
  ·omega
  ·split
   ·omega
   ·exact h1.1
 ·split
  ·omega
  ·split
   ·omega
   ·exact h1.2.1
 ·split
  ·omega
  ·split
   ·omega
   ·exact h1.2.2
theorem er_zero{F:Nat->Int}(h:∀b,b<12->F (12+b)=0){v:Nat}:∀b,b<12->Hl.erF F v (12+b)=0:=fun b hb=>by
 unfold Hl.erF Hl.upd;split
 ·rfl
 ·split
  ·rfl
  ·exact h b hb
theorem cl_F{K:KS}(h:Hl.HB K.F)(h0:∀b,b<12->K.F (12+b)=0):∀n,Hl.HB (clK K n).F/\∀b,b<12->(clK K n).F (12+b)=0
 |0=>by rw[clK_zero];exact⟨h,h0⟩
 | n+1=>by
  obtain⟨a,b⟩:=cl_F h h0 n;rw[clK_succ];split
  ·exact⟨er_hb a n,er_zero b⟩
  ·exact⟨a,b⟩
attribute [local irreducible] n1K n2K snF clP clK clT scP fdsTo nextF
end
section
open Go.RowKit
theorem byP_nil:∀k,byP [] k=[]
 |0=>rfl
 | k+1=>by
  have:=byP_nil k;unfold byP at this ⊢;rw[List.range_succ,List.flatMap_append,this];rfl
theorem live_nil(k:Cp)(o:Nat):liveF [] k o = -1:=by
 unfold liveF;rw[byP_nil];rfl
theorem n1_nil(k:Cp):∀i,n1K k [] i=n0K k []
 |0=>rfl
 | i+1=>by
  rw[n1K_succ,live_nil,if_pos (by decide),n1_nil k i]
theorem lv_none(b:Nat):∀n,lvTo (fun _=>0) n b=0
 |0=>rfl
 | n+1=>by
  unfold lvTo;rw[lv_none b n,if_neg (fun h=>h.1 rfl)]
theorem n2_nil{K:KS}(h:K.at_=fun _=>0):∀b,n2K K b=K
 |0=>rfl
 | b+1=>by
  rw[n2K_succ,if_neg (by
   rw[h];have:lv (fun _=>0) b=0:=lv_none b 25;omega),n2_nil h b]
theorem flz:∀n,flTop Cp.zero (-1) n=if n=0 then -1 else 0
 |0=>rfl
 | n+1=>by
  unfold flTop;rw[flz n];show max (if n=0 then -1 else 0) (0:Int)=_;by_cases h:n=0
  ·rw[if_pos h,if_neg (by omega)];rfl
  ·rw[if_neg h,if_neg (by omega)];rfl
theorem next_nil:nextF [] Cp.zero=1:=by
 have h:topOf [] Cp.zero=0:=by
  show flTop Cp.zero (max 0 0-1) 24=0;rw[show(max (0:Int) 0-1) = -1 by omega,flz,if_neg (by omega)]
 unfold nextF;rw[h];rfl
theorem zero_told:Cp.zero.told:=⟨by decide,by decide,fun _ _=>⟨Int.le_refl 0,by show(0:Int)<=1099511627775;omega⟩,fun _ _=>⟨Int.le_refl 0,by show(0:Int)<=65535;omega⟩,fun _ _=>⟨Int.le_refl 0,by show(0:Int)<=255;omega⟩⟩
theorem nw_nil:NwHyp Cp.zero []:=by
 refine⟨zero_told,fun _ _=>rfl,fun i _=>?_,fun i _ h=>?_⟩
 ·rw[n1_nil];exact⟨fun _ _=>by show 0<=96;omega,fun _ _=>by show 0<=25;omega⟩
 ·rw[live_nil] at h;omega
def CS.bare(P:CS):Prop:=P.calm/\∀p,P.pg p=.blank
theorem fds_bare{P:CS}(h:P.bare):∀n,fdsTo P n=[]
 |0=>rfl
 | n+1=>by
  rw[fdsTo_not (fun t D e=>by rw[h.2] at e;cases e),fds_bare h n]
def FirstAt(P:CS)(K':KS)(P':CS):Prop:=∃K1,K'=lyK K1 24/\P'=lyP K1 (clP (mtK Cp.zero []) (scP P 96) 12) 24 noteD/\LyCore 24 noteD K1 (clP (mtK Cp.zero []) (scP P 96) 12)/\(stC (sqK K1) K1.next (-1)).told/\Hl.HB K1.F/\K1.F=(clK (mtK Cp.zero []) 12).F/\((mtK Cp.zero []).st=fun _=>0)/\K1.cur=0/\K1.qu=[]
theorem first_end{P:CS}(h:P.bare):∃K' P' tr k',Mounts P K' P' tr/\Inv K' P' k' 2/\K'.qu=[]/\FirstAt P K' P'/\Shows P' K'.at_ (fun _ _=>0):=by
 have hval:P.val:=fun p t D _ e=>by rw[h.2] at e;cases e
 have hF1:Hl.HB (Hl.newF (rdsF Cp.zero) (scsF Cp.zero)):=Hl.HB.new (fun j hj=>by
  unfold rdsF scsF;rw[if_pos hj,if_pos hj];exact⟨Int.le_refl 0,Int.le_refl 0⟩)
 have hF0:∀b,b<12->Hl.newF (rdsF Cp.zero) (scsF Cp.zero) (12+b)=0:=fun b hb=>by
  unfold Hl.newF scsF;rw[if_neg (by omega),if_pos (by omega),show 12+b-12=b by omega,if_pos hb];rfl
 have hnw:nwK Cp.zero []=n0K Cp.zero []:=by
  unfold nwK;rw[n1_nil,n2_nil rfl]
 have hnF:(nwK Cp.zero []).F=Hl.newF (rdsF Cp.zero) (scsF Cp.zero):=by rw[hnw];rfl
 have hmF:Hl.HB (mtK Cp.zero []).F:=by
  show Hl.HB (snF (nwK Cp.zero []).F 12);rw[hnF];exact snF_hb hF1 12 (Nat.le_refl _)
 have hm0:∀b,b<12->(mtK Cp.zero []).F (12+b)=0:=fun b hb=>by
  show snF (nwK Cp.zero []).F 12 (12+b)=0;rw[hnF];exact sn_zero hF0 12 (Nat.le_refl _) b hb
 have hmt:mtK Cp.zero []={ n0K Cp.zero [] with F:=(mtK Cp.zero []).F }:=by
  show({ nwK Cp.zero [] with F:=(mtK Cp.zero []).F }:KS)=_;rw[hnw]
 generalize hKm:mtK Cp.zero []=Km at *;obtain⟨F3,h6⟩:=clK_same Km 12;obtain⟨hFB,hFz⟩:=cl_F hmF hm0 12;have h7:clK Km 12={ n0K Cp.zero [] with F:=F3 }:=by rw[h6,hmt]
 rw[h7] at hFB hFz;have hscal:=scP_calm h.1 96;have hc0:=clP_calm Km hscal 12;have hpg:∀q,(clP Km (scP P 96) 12).pg q=.blank:=fun q=>by
  rw[clP_pg];split
  ·rfl
  ·rw[(scP_pg P 96).1,h.2]
 -- a block is taken
 obtain⟨K1,hK1⟩:∃K1,K1=opK (clK Km 12) 0:=⟨_,rfl⟩;have hsh:shK (clK Km 12)=clK Km 12:=by
  rw[h7];rfl
 have e1:K1={ n0K Cp.zero [] with F:=F3,st:=updf (fun _=>0) 0 1,pn:=1,fo:=true,fb:=0,fi:=0 }:=by
  rw[hK1];unfold opK;rw[hsh,h7];rfl
 have f1:K1.st=updf (fun _=>0) 0 1/\K1.fo=true/\K1.fb=0/\K1.fi=0/\K1.fl=fun _=>0:=by
  rw[e1];exact⟨rfl,rfl,rfl,rfl,rfl⟩
 obtain⟨f1,f2,f3,f4,f5⟩:=f1;have g0:(clK Km 12).st=(fun _=>0)/\(clK Km 12).pn=0/\(clK Km 12).fo=false/\(clK Km 12).fi=0:=by
  rw[h7];exact⟨rfl,rfl,rfl,rfl⟩
 obtain⟨g1,g2,g3,g4⟩:=g0;have hro:roomB K1.fo K1.fi 24=true:=by rw[f2,f4];decide
 have hsp:spareB (shK (clK Km 12)).st=true:=by
  rw[hsh,g1];decide
 have htk:takeN (shK (clK Km 12)).st (shK (clK Km 12)).pn=some 0:=by
  rw[hsh,g1,g2];decide
 have hop:Opens 24 48 (clK Km 12) (clP Km (scP P 96) 12) K1 (clP Km (scP P 96) 12) []:=by
  rw[hK1];refine .spare (n:=47) (by rw[h7];show 0<12;omega) (by rw[h7];show 0<=8;omega) (by rw[g3,g4];decide) hsp (by rw[hsh,h7];show 0<=12;omega) htk (.room (n:=46) ?_ ?_ ?_)
  ·rw[<-hK1,e1];show 0<12;omega
  ·rw[<-hK1,e1];show 0<=8;omega
  ·rw[<-hK1];exact hro
 have B1:InvB K1 (clP Km (scP P 96) 12):=by
  rw[e1];refine⟨fun b hb=>?_,fun b hb e=>?_,fun _=>rfl,fun b i _ _ _=>hpg _,fun _ i _ _=>hpg _,by show 0<12;omega,by show 0<=8;omega,by show 1<=12;omega⟩
  ·show updf (fun _:Nat=>(0:Nat)) 0 1 b<=2;unfold updf;split
   ·omega
   ·show 0<=2;omega
  ·have e:updf (fun _:Nat=>(0:Nat)) 0 1 b=1:=e;unfold updf at e;by_cases hb0:b=0
   ·exact⟨rfl,hb0.symm⟩
   ·rw[if_neg hb0] at e;have e:0=1:=e;omega
 have H1:InvH K1:=by
  rw[e1];exact⟨hFB,hFz,by show(0:Int).toNat<96;decide⟩
 have C1:Con K1.at_ K1.ow:=by
  rw[e1];exact⟨fun p hp e=>absurd rfl e,fun o ho e=>absurd rfl e⟩
 have n1:K1.next=1:=by
  rw[e1];exact next_nil
 have hfree:5<=cntS K1.st 0:=by
  rw[f1];decide
 have a1:K1.at_=fun _=>0:=by rw[e1];rfl
 have E:=lay_core0 B1 H1 C1 hc0 ⟨by omega,by omega⟩ (fun o ho e=>by rw[a1] at e;exact absurd rfl e) hfree (of:=24) (by omega) hro noteD;obtain⟨ow,F,calls,he,hcon,hc1,hc2⟩:=E.eq
 have htold:(stC (sqK K1) K1.next (-1)).told:=stC_told (K:=sqK K1) (by omega) H1.hb H1.cur (fun o ho=>by
  show 0<=K1.fl o/\K1.fl o<=_;rw[f5];exact⟨Int.le_refl 0,by show(0:Int)<=1099511627775;omega⟩)
 have hcut:cutD (noteD (sqK K1) K1.next)=noteD (sqK K1) K1.next:=ptN_cut _;have hfa:FirstAt P (lyK K1 24) (lyP K1 (clP Km (scP P 96) 12) 24 noteD):=⟨K1,rfl,by rw[hKm],by rw[hKm];exact E,htold,H1.hb,by rw[hKm,h7,e1],by rw[hKm,hmt];rfl,by rw[e1];rfl,by rw[e1];rfl⟩;have hpN:=E.pg;rw[hcut] at hpN;have hpne:=E.ne;have hfb0:K1.fb*8+K1.fi=0:=by rw[f3,f4]
 rw[hfb0] at hpN hpne he hcon
 refine⟨_,_,_,stC (sqK K1) K1.next (-1),.new (by rw[byP_fds hval (Nat.le_refl _),fds_bare h];rfl) nw_nil (by rw[hnF];exact hF1) ?_ ?_ (by
  rw[hKm];exact .note (by rw[hmt];rfl) ⟨by rw[g1];decide,hop,E.fb,E.fi,hro,E.next,E.hb,E.mw,E.calm,E.blank,E.ok,fun j=>ptN_lt _ j⟩ htold),⟨?_,E.b,E.h,E.free⟩,by rw[he,e1];rfl,hfa,?_⟩
 ·rw[hKm,hmt];show 0<=96;omega
 ·rw[hKm,hmt];show wornB (fun _=>0)=false;decide
 ·have only:∀q t D,(lyP K1 (clP Km (scP P 96) 12) 24 noteD).pg q=.full t D->q=0/\t=nwTag K1 24/\D=noteD (sqK K1) K1.next:=fun q t D e=>by
   by_cases hq:q=0
   ·rw[hq,hpN] at e
    cases e
    exact⟨hq,rfl,rfl⟩
   ·rw[hpne q hq,hpg] at e
    cases e
  have hat24:updf K1.at_ 24 (0+1) 24=1:=by simp[updf]
  have hat:∀o,o≠24->updf K1.at_ 24 (0+1) o=0:=fun o ho=>by
   unfold updf;rw[if_neg ho,a1]
  have hok24:=E.ok;rw[he];refine⟨⟨⟨CS.lay_calm E.calm _ _ _,fun p t D hp e=>?_,fun p q t t' D D' hp hq hn e e' _=>?_⟩,⟨?_,?_,htold,stC_bad (K:=sqK K1) (P:=clP Km (scP P 96) 12) ⟨B1.st,B1.opn,B1.fst,B1.bl,B1.fr,B1.fb,B1.fi,B1.pn⟩ K1.next,H1.sc,fun o ho e=>?_,fun o ho e q t D hq hf hof=>?_⟩,?_,fun p q t t' D D' hp hq hn e e' _=>?_,fun p t D hp e=>?_,?_⟩,fun p q t t' D D' hp hq e e' _=>?_,fun o ho e=>?_,fun o ho=>rfl,⟨fun p t D hp e=>?_,?_,?_,fun o ho=>?_⟩,hcon⟩
  ·obtain⟨rfl,rfl,rfl⟩:=only p t D e;exact⟨hok24,by show((K1.fb*8+K1.fi:Nat):Int)=_;rw[hfb0],rfl,fun j=>ptN_lt _ j,hcut⟩
  ·exact absurd ((only p t D e).1.trans (only q t' D' e').1.symm) hn
  ·show updf K1.at_ 24 (0+1) 24≠0;rw[hat24];omega
  ·show dataAt _ (updf K1.at_ 24 (0+1) 24-1)=_;rw[hat24];unfold dataAt;rw[show 1-1=0 from rfl,hpN];rfl
  ·have e:updf K1.at_ 24 (0+1) o≠0:=e;by_cases ho24:o=24
   ·subst ho24;show Cnt _ 24 (floor _ 24) (updf K1.at_ 24 (0+1) 24-1);rw[hat24];refine⟨by omega,nwTag K1 24,noteD (sqK K1) K1.next,hpN,rfl,?_,fun q t' D' hq hn e _=>absurd (only q t' D' e).1 hn⟩;show(-1:Int)<K1.next;omega
   ·exact absurd (hat o ho24) e
  ·obtain⟨rfl,rfl,rfl⟩:=only q t D hf;have e:updf K1.at_ 24 (0+1) o=0:=e;have hof:(24:Int)=o:=hof;have:o=24:=by omega
   rw[this,hat24] at e;omega
  ·show 5<=cntS (lv (updf K1.at_ 24 (0+1))) 0;refine room_of (st:=K1.st) (fun b hb e=>lv_zero.2 fun o ho g1 g2=>?_) hfree;by_cases ho24:o=24
   ·rw[ho24,hat24] at g2;have hb0:b=0:=by omega
    rw[hb0,e1] at e;simp[updf] at e
   ·exact g1 (hat o ho24)
  ·exact absurd ((only p t D e).1.trans (only q t' D' e').1.symm) hn
  ·obtain⟨rfl,rfl,rfl⟩:=only p t D e;show K1.next<2;omega
  ·refine⟨by show K1.next<2;omega,fun o ho=>?_⟩;show K1.fl o<2;rw[f5];show(0:Int)<2;omega
  ·exact(only p t D e).1.trans (only q t' D' e').1.symm
  ·have e:updf K1.at_ 24 (0+1) o≠0:=e;by_cases ho24:o=24
   ·subst ho24;refine⟨nwTag K1 24,noteD (sqK K1) K1.next,?_,?_⟩
    ·show(lyP K1 (clP Km (scP P 96) 12) 24 noteD).pg (updf K1.at_ 24 (0+1) 24-1)=_;rw[hat24];exact hpN
    ·show updf K1.en 24 _ 24=_;exact if_pos rfl
   ·exact absurd (hat o ho24) e
  ·obtain⟨rfl,rfl,rfl⟩:=only p t D e;show K1.next<K1.next+1;omega
  ·show 1<=K1.next+1;omega
  ·show K1.next+1<=2;omega
  ·show K1.fl o<K1.next+1;rw[n1,f5];show(0:Int)<1+1;omega
 ·intro o j ho hj;rw[he];show arr _ (updf K1.at_ 24 (0+1)) o j=0;unfold arr;rw[if_pos (by unfold updf;rw[if_neg (by omega),a1])]
end
section
open Go.RowKit
def someN(c:Int)(n:Nat):Nat:=((if c<0 then 0-(c+1) else c)%(n:Int)).toNat
theorem someN_lt(c:Int){n:Nat}(h:0<n):someN c n<n:=by
 unfold someN;have:=Int.emod_lt_of_pos (if c<0 then 0-(c+1) else c) (show(0:Int)<n by omega);omega
theorem some_ok(c:Int)(n:Nat)(h1 : -9223372036854775808<=c/\c<=9223372036854775807)(hn:0<n)(w:World):Spec Tryz.prog 16 #[.int .i64 c,.int .i64 n] w fun v w'=>v=.int .i64 (someN c n:Nat)/\w=w':=by
 have key:∀x:Int,0<=x->((x%(n:Int)).toNat:Int)=x%(n:Int):=fun x hx=>by
  have:=Int.emod_nonneg x (show(n:Int)≠0 by omega);omega
 unfold someN;refine spec_of_wpE (T:=tt) tt_ok Tryz.func16 rfl (by decide +kernel) Tryz.ntmps16 (by simp) ?_;by_cases hc:c<0
 ·rw[if_pos hc,key _ (by omega)];conv=>whnf
  repeat ((first|refine Ar.la ?_|refine Dv.r ?_|refine Br.y ?_|refine CW.s ?_);conv=>whnf)
  exact⟨rfl,rfl,rfl⟩
 ·rw[if_neg hc,key _ (by omega)];conv=>whnf
  repeat ((first|refine Dv.r ?_|refine Br.n ?_|refine CW.s ?_);conv=>whnf)
  exact⟨rfl,rfl,rfl⟩
theorem Dv.quo64{a b:Int}{K:Value->Prop}(h1:0<=a)(h2:0<b)(h3:a<=18446744073709551615)(h:K (.int .u64 (a/b))):Dv .quo .u64 a b K:=⟨by omega,by
 have e:a.tdiv b=a/b:=Int.tdiv_eq_ediv_of_nonneg h1;have h4:0<=a/b:=Int.ediv_nonneg h1 (by omega);have h5:a/b<=a:=Int.ediv_le_self b h1;simp only[e];rw[show IntKind.u64.wrap (a/b)=a/b from by unfold IntKind.wrap;simp[IntKind.signed,IntKind.bits];omega];exact h⟩
def lcg(x:Nat):Nat->Nat
 |0=>x
 |j+1=>(lcg x j*6364136223846793005+1442695040888963407)%18446744073709551616
def byF(x j:Nat):Nat:=if x=0 then 0 else (lcg x (j+1)/1099511627776)%256
theorem byF_lt(x j:Nat):byF x j<256:=by
 unfold byF;split
 ·omega
 ·exact Nat.mod_lt _ (by omega)
theorem lcg_lt{x:Nat}(h:x<18446744073709551616):∀j,lcg x j<18446744073709551616
 |0=>h
 |j+1=>Nat.mod_lt _ (by omega)
theorem lcg_succ(x j:Nat):lcg x (j+1)=(lcg x j*6364136223846793005+1442695040888963407)%18446744073709551616:=rfl
theorem lcg_zero(x:Nat):lcg x 0=x:=rfl
attribute [local irreducible] lcg
theorem tbytes_ok(x:Nat)(hx:x<=9223372036854775807)(w:World):Spec Tryz.prog 24 #[.int .i64 x] w fun v w'=>∃g,v=.slice (some ⟨g,0,none⟩) 160 160/\g=w.heap.size/\Row w' g 5 160 (fun j=>.int .u8 (byF x j:Nat))/\Keep [] w w':=by
 refine spec_of_wpE (T:=tt) tt_ok Tryz.func24 rfl (by decide +kernel) Tryz.ntmps24 (by simp) ?_;conv=>whnf
 refine Ru.of (mk160_run w) ?_;have ry:=Row.made w 5 (.int .u8 0) 160;have k1:Keep [] w (w.alloc (.cells (madeCells #[.int .u8 0] 160) 5)):=(Keep.refl _ _).alloc _;generalize w.alloc _=w1 at *;by_cases h0:x=0
 ·subst h0;conv=>whnf
  repeat ((first|refine Br.t ?_|refine CW.s ?_);conv=>whnf)
  exact⟨rfl,_,rfl,rfl,ry,k1⟩
 ·have hx0:decide ((x:Int)=0)=false:=decide_eq_false (by omega);conv=>whnf
  repeat ((first|refine Ar.lc ?_|refine Br.n ?_|refine CW.s ?_);conv=>whnf)
  refine CW.loop (ι:=Nat) (fun i w'=>i<=160/\Row w' w.heap.size 5 160 (fun j=>if j<i then .int .u8 (byF x j:Nat) else .int .u8 0)/\Keep [] w w')
   (fun i=>[(3,.slice (some ⟨w.heap.size,0,none⟩) 160 160),(4,.int .u64 (lcg x i:Nat)),(5,.int .i64 i)]) (fun i=>160-i) 0 tt_ok ⟨by omega,ry.congr (fun j hj=>by simp),k1⟩ ⟨rfl,by rw[lcg_zero];rfl,rfl,trivial⟩ ?_;clear ry k1;rintro i wr ⟨hi,rg,kk⟩;have hl:=lcg_lt (x:=x) (by omega) i;rcases Nat.lt_or_ge i 160 with hlt|hge
  ·conv=>whnf
   repeat ((first|(refine Ar.u64m ?_)|refine Br.y ?_|refine CW.s ?_);conv=>whnf)
   have hv:(((lcg x i:Nat):Int)*6364136223846793005%18446744073709551616+1442695040888963407)%18446744073709551616=((lcg x (i+1):Nat):Int):=by
    rw[lcg_succ];omega
   rw[hv];have hl2:=lcg_lt (x:=x) (by omega) (i+1);refine Dv.quo64 (by omega) (by omega) (by omega) ?_;conv=>whnf
   repeat ((first|(refine Ar.u8m ?_)|(refine Ix.of i (by omega) (by omega) ?_));conv=>whnf)
   rw[show 0+i=i by omega];refine Sd.rowAt rg i (by omega) (by omega) rfl ?_;intro w7 rg7 k7;conv=>whnf
   repeat ((first|refine Ar.la ?_);conv=>whnf)
   refine⟨i+1,⟨hlt,rg7.congr (fun j hj=>?_),kk.fresh (Nat.le_refl _) k7⟩,⟨rfl,rfl,vi (by omega),trivial⟩,by simp only;omega⟩;unfold put;by_cases hji:j=i
   ·rw[if_pos hji,if_pos (by omega),hji];unfold byF;rw[if_neg h0];exact congrArg (Value.int .u8) (by omega)
   ·rw[if_neg hji];simp only;by_cases hj2:j<i
    ·rw[if_pos hj2,if_pos (by omega)]
    ·rw[if_neg hj2,if_neg (by omega)]
  ·obtain rfl:i=160:=by omega
   conv=>whnf
   repeat ((first|refine Br.f ?_|refine CW.s ?_);conv=>whnf)
   exact⟨rfl,_,rfl,rfl,rg.congr (fun j hj=>by simp only[if_pos hj]),kk⟩
theorem same17_ok(A B:Option Addr)(n m c d:Nat)(f g:Nat->Int)(w:World)(r0:Rd w A n (fun j=>.int .u8 (f j)))(r1:Rd w B m (fun j=>.int .u8 (g j)))(hf:∀j,0<=f j/\f j<=255)(hg:∀j,0<=g j/\g j<=255) :
  Spec Tryz.prog 23 #[.slice A n c,.slice B m d] w fun v w'=>v=.bool (sameB n m f g)/\w=w':=by
 rw[<-str_same hf hg];refine spec_of_wpE (T:=tt) tt_ok Tryz.func23 rfl (by decide +kernel) Tryz.ntmps23 (by simp) ?_;conv=>whnf
 refine Ru.bytesStr Tryz.underlying37 Tryz.underlying5 Tryz.underlying9 r0 ?_;generalize strOfNums ((List.range n).map f)=x;conv=>whnf
 refine Ru.bytesStr Tryz.underlying37 Tryz.underlying5 Tryz.underlying9 r1 ?_;generalize strOfNums ((List.range m).map g)=y;conv=>whnf
 refine Ru.eqlStr Tryz.underlying9 ?_;conv=>whnf
 exact⟨rfl,rfl,rfl⟩
end
section
open Go.RowKit
def farT(T:TypeId):Bool := !(Nat.beq T 143||Nat.beq T 220||Nat.beq T 188||Nat.beq T 210||Nat.beq T 223||Nat.beq T 217||Nat.beq T 3||Nat.beq T 250||Nat.beq T 104||Nat.beq T 274||Nat.beq T 297||Nat.beq T 318||Nat.beq T 5||Nat.beq T 87)
section
variable{w w':World}{own:List Nat}{d ch:Nat}{K:KS}{P:CS}{b:Option Nat}
theorem farT_ne{T U:TypeId}(h:farT T=true)(hU:farT U=false):T≠U:=fun e=>by
 rw[e,hU] at h
 cases h
theorem farT_core{T:TypeId}(h:farT T=true):(Nat.beq T 143||Nat.beq T 220||Nat.beq T 188||Nat.beq T 210||Nat.beq T 223||Nat.beq T 217||Nat.beq T 3||Nat.beq T 250||Nat.beq T 104||Nat.beq T 274||Nat.beq T 297||Nat.beq T 318||Nat.beq T 5)=false:=by
 unfold farT at h;rw[Bool.not_eq_true',Bool.or_eq_false_iff] at h;exact h.1
theorem DvOn.keep0(D:DvOn w own d ch K P b)(k:Keep [] w w'):DvOn w' own d ch K P b:=by
 obtain⟨N,X,c,n,e,r,h,eC,hq⟩:=D;exact⟨N,X,c,n,e,Row.keep r k (by simp),h.keep0 k,eC,hq⟩
theorem DvOn.away(D:DvOn w own d ch K P b){x m:Nat}{T:TypeId}{f:Nat->Value}(rx:Row w x T m f)(hT:farT T=true)(k:Keep [x] w w'):DvOn w' own d ch K P b:=by
 obtain⟨N,X,c,n,e,r,h,eC,hq⟩:=D;have hd:d≠x:=Row.ne_ r rx (farT_ne hT (by decide)).symm;exact⟨N,X,c,n,e,Row.keep r k (by simpa using hd),h.away rx (farT_core hT) k,eC,hq⟩
theorem DvOn.far(D:DvOn w own d ch K P b){x m:Nat}{T:TypeId}{f:Nat->Value}(rx:Row w x T m f)(hT:farT T=true):x∉own:=fun hx=>by
 obtain⟨N,X,c,n,e,r,h,eC,hq⟩:=D;rw[e] at hx;obtain⟨C,M,q⟩:=h.med;obtain⟨F,rg⟩:=M.frm.cod.fs.ty;have nn:∀ {y m':Nat} {U:TypeId} {f':Nat->Value},Row w y U m' f'->farT U=false->x≠y:=fun ry hU=>Row.ne_ rx ry (farT_ne hT hU);rcases List.mem_cons.1 hx with e|hm
 ·exact nn r (by decide) e
 rcases List.mem_append.1 hm with hm|hm
 ·simp only[Cr.all,Cr.own,Pt.l,List.cons_append,List.nil_append,List.mem_cons,List.not_mem_nil,or_false] at hm;rcases hm with e|e|e|e|e|e|e|e|e
  ·exact nn h.core.row (by decide) e
  ·exact nn h.core.pool (by decide) e
  ·exact nn h.core.map (by decide) e
  ·exact nn h.core.front (by decide) e
  ·exact nn h.core.health (by decide) e
  ·exact nn h.core.pat (by decide) e
  ·exact nn M.row (by decide) e
  ·exact nn M.chip (by decide) e
  ·exact nn rg (by decide) e
 ·exact h.core.qu.row_ne rx (farT_ne hT (by decide)).symm hm
theorem DvOn.in_own(D:DvOn w own d ch K P b):d∈own/\ch∈own:=by
 obtain⟨N,X,c,n,e,r,h,eC,hq⟩:=D;rw[e];exact⟨List.mem_cons_self ..,List.mem_cons_of_mem _ (List.mem_append_left _ (in_all_l (by rw[<-eC];simp[Pt.l])))⟩
theorem DvOff.keep{Q:CS}{S:List Nat}(D:DvOff w d ch Q)(k:Keep S w w')(hd:d∉S)(hc:ch∉S):DvOff w' d ch Q:=by
 obtain⟨r,C,H,h⟩:=D;exact⟨Row.keep r k hd,C,H.keep k hc,h⟩
end
theorem dev_none(w:World)(x:Operand)(a:Addr):(do eqGuard .eql 25 x (.const (.pointer none)) (.pointer (some a)) (.pointer none);binOp .eql 25 (.pointer (some a)) (.pointer none):Sem Value).run Tryz.prog w=.ok (.bool false) w:=by kernel_rfl
def OcEnds(ch:Nat)(K':KS)(P':CS)(b:Option Nat)(tr:List CS)(w:World)(v:Value)(w':World):Prop :=
 Keep [ch] w w'/\Runs b tr (fun b'=>∃d own',v=.pointer (some ⟨d,0,none⟩)/\DvOn w' own' d ch K' P' b'/\∀x,x∈own'->x=ch\/w.heap.size<=x) (fun Q=>v=.pointer none/\∃C,ChipAt w' ch C/\DeadAs C Q)
theorem onchip_ok{w:World}{ch:Nat}{C:Chip}{P:CS}{b:Option Nat}(H:ChipAt w ch C)(hA:Abs C P)(hl:C.left b)(hc:P.calm){K':KS}{P':CS}{tr:List CS}(M:Mounts P K' P' tr)(hq:K'.qu=[]) :
  Spec Tryz.prog 21 #[.pointer (some ⟨ch,0,none⟩)] w (OcEnds ch K' P' b tr w):=by
 refine spec_of_wpE (T:=tt) tt_ok Tryz.func21 rfl (by decide +kernel) Tryz.ntmps21 (by simp) ?_;conv=>whnf
 refine Ca.of (dnew_ok ch w) ?_;rintro _ w1 ⟨d,rfl,hd,r1,k1⟩;have H1:=H.keep k1 (by simp);conv=>whnf
 repeat ((first|refine CW.s ?_);conv=>whnf)
 refine Ru.of (dev_none w1 _ _) ?_;conv=>whnf
 repeat ((first|refine Br.f ?_|refine Pk.f ?_|refine Ru.neq_nil0 ?_);conv=>whnf)
 refine Ca.of (dmount_ok r1 H1 hA hl hc M hq) ?_;rintro _ w2 ⟨k2,hr2⟩
 have kk:Keep [ch] w w2:=(k1.mono (by simp)).then k2 (fun x hx=>by
  rcases List.mem_cons.1 hx with rfl|hx
  ·exact .inr (by omega)
  ·exact .inl hx)
 rcases hr2 with⟨f2,rfl,own',D2,h2⟩|⟨y,hy,hyb,rfl,D2⟩
 ·conv=>whnf
  repeat ((first|refine Br.f ?_|refine Ru.neq_nil0 ?_|refine CW.s ?_);conv=>whnf)
  refine⟨rfl,kk,.inl ⟨f2,d,own',rfl,D2,fun x hx=>?_⟩⟩;rcases h2 x hx with h|h|h
  ·exact .inr (by omega)
  ·exact .inl h
  ·exact .inr (Nat.le_trans k1.size h)
 ·conv=>whnf
  repeat ((first|refine Br.t ?_|refine Ru.n1 ?_|refine CW.s ?_);conv=>whnf)
  exact⟨rfl,kk,.inr ⟨y,hy,hyb,rfl,D2.2⟩⟩
def arF(a:Nat->Nat)(j:Nat):Value:=.int .i64 (a j:Nat)
structure Cl where
 kind:Int
 a:Int
 x:Int
def Cl.cell(c:Cl)(j:Nat):Value:=if j=0 then .int .i64 c.kind else if j=1 then .int .i64 c.a else .int .i64 c.x
def i64R(x:Int):Prop:=-9223372036854775808<=x/\x<=9223372036854775807
def Cl.wf(c:Cl):Prop:=i64R c.kind/\i64R c.a/\i64R c.x
def Cl.of(c:Cl):Nat:=someN c.a 24
def Cl.n(c:Cl):Nat:=1+someN c.x 1000000
def Cl.kd(c:Cl):Nat:=someN c.kind 6
def Cl.arr(c:Cl)(a:Nat->Nat):Nat->Nat:=if c.kd<=2 then updf a c.of c.n else if c.kd=3 then updf a c.of 0 else a
theorem Cl.of_lt(c:Cl):c.of<24:=someN_lt _ (by omega)
theorem Cl.n_lt(c:Cl):c.n<=1000000:=by
 have:=someN_lt c.x (n:=1000000) (by omega);unfold Cl.n;omega
theorem alloc_ar(w:World):(Instr.alloc 28 true (.tuple #[])).run Tryz.prog w=.ok (.pointer (some ⟨w.heap.size,0,none⟩)) (w.alloc (rowObj 24 (arF fun _=>0) 28)):=by kernel_rfl
theorem size_ar:(Tryz.prog.info? 28).map (·.size)=some 24:=by kernel_rfl
theorem arF_one(a:Nat->Nat)(j:Nat):(arF a j).oneCell'=true:=rfl
theorem put_ar(a:Nat->Nat)(o x:Nat)(j:Nat):put (arF a) o (.int .i64 (x:Nat)) j=arF (updf a o x) j:=by
 unfold put arF updf;split<;>rfl
def DsEnds(own:List Nat)(d ch:Nat)(K':KS)(P':CS)(b:Option Nat)(tr:List CS)(a':Nat->Nat)(rd:Option (Nat->Nat))(w:World)(v:Value)(w':World):Prop :=
 DvEnds own d ch K' P' b tr w w' (∃Y n e f,v=.tuple #[agg 24 (arF a'),.slice Y n e,errOf 0]/\(match rd with|none=>Y=none/\n=0/\e=0|some F=>n=160/\f=F)/\(rd=none\/Ly w' 5 1 Y n e (fun j=>.int .u8 (f j:Nat))/\∀x,x∈blk Y->w.heap.size<=x)) (v=.tuple #[agg 24 (arF a'),.slice none 0 0,errOf 7])
section
variable{w w':World}{own:List Nat}{d ch:Nat}{K:KS}{P:CS}{b:Option Nat}{K':KS}{P':CS}{tr:List CS}
theorem does_write(D:DvOn w own d ch K P b){c:Cl}(hw:c.wf)(hk:c.kd<=2){a:Nat->Nat}
  (hcall:∀ {w1:World} {A:Option Addr} {e:Nat},DvOn w1 own d ch K P b->RdB w1 A 160 (byF c.n)->160<=e->Spec Tryz.prog 45 #[.pointer (some ⟨d,0,none⟩),.int .i64 c.of,.slice A 160 e] w1 fun v w'=>DvEnds own d ch K' P' b tr w1 w' (v=errOf 0) (v=errOf 7)) :
  Spec Tryz.prog 19 #[.pointer (some ⟨d,0,none⟩),agg 24 (arF a),agg 3 c.cell] w fun v w'=>DsEnds own d ch K' P' b tr (updf a c.of c.n) none w v w':=by
 have hof:=c.of_lt;have hn:=c.n_lt;have e1:someN c.a 24=c.of:=rfl;have e2:1+someN c.x 1000000=c.n:=rfl;have e3:someN c.kind 6=c.kd:=rfl;refine spec_of_wpE (T:=tt) tt_ok Tryz.func19 rfl (by decide +kernel) Tryz.ntmps19 (by simp) ?_;conv=>whnf
 refine Ru.boxa ?_;intro x4 w1 hx4 hs1 r4 k1;conv=>whnf
 refine Ru.boxa ?_;intro x5 w2 hx5 hs2 r5 k2;conv=>whnf
 refine Ru.alloca (alloc_ar w2) ?_;intro x6 w3 hx6 hs3 r6 k3;have r43:=r4.keep (k2.trans k3) (by simp);have r53:=r5.keep k3 (by simp);have kk3:=(k1.trans k2).trans k3;have D3:=D.keep0 kk3;have hx4w:w.heap.size<=x4:=by omega
 have hx6w:w.heap.size<=x6:=by omega
 have h46:x4≠x6:=by omega
 clear r4 r5 k1 k2 k3 hs1 hs2 hs3 hx4 hx5 hx6 w1 w2 D;have c0:w3.cell? ⟨x5,0,none⟩=some (.int .i64 c.kind):=r53.cell 0 (by omega);have c1:w3.cell? ⟨x5,1,none⟩=some (.int .i64 c.a):=r53.cell 1 (by omega);have c2:w3.cell? ⟨x5,2,none⟩=some (.int .i64 c.x):=r53.cell 2 (by omega);conv=>whnf
 repeat ((first|(refine Ld.at (by omega) c1 ?_));conv=>whnf)
 refine Ca.of (some_ok c.a 24 hw.2.1 (by omega) w3) ?_;rintro _ _ ⟨rfl,rfl⟩;rw[e1];conv=>whnf
 repeat ((first|(refine Ld.at (by omega) c2 ?_));conv=>whnf)
 refine Ca.of (some_ok c.x 1000000 hw.2.2 (by omega) w3) ?_;rintro _ _ ⟨rfl,rfl⟩;have e2':(1:Int)+((someN c.x 1000000:Nat):Int)=(c.n:Nat):=by rw[<-e2];omega
 have hb:=someN_lt c.x (n:=1000000) (by omega);conv=>whnf
 repeat ((first|(refine Ld.at (by omega) c0 ?_)|refine Ar.la ?_|refine CW.s ?_);conv=>whnf)
 rw[e2'];refine Ca.of (some_ok c.kind 6 hw.1 (by omega) w3) ?_;rintro _ _ ⟨rfl,rfl⟩;rw[e3];have hk3:c.kd=0\/c.kd=1\/c.kd=2:=by omega
 rcases hk3 with h|h|h
 all_goals
  rw[h];conv=>whnf
  repeat ((first|(refine Ix.of c.of (by omega) (by omega) ?_)|refine Br.t ?_|refine Br.f ?_|refine CW.s ?_);conv=>whnf)
  rw[show 0+0+c.of=c.of by omega];refine Sd.rowAt r43 c.of (by omega) (by omega) rfl ?_;intro w4 r44 k4;have r44:Row w4 x4 28 24 (arF (updf a c.of c.n)):=r44.congr (fun j hj=>put_ar a c.of c.n j);have D4:=D3.away r43 (by decide) k4;have r64:=r6.keep k4 (by simpa using h46.symm);have kk4:=kk3.fresh hx4w k4;have hs4:=kk4.size;clear D3 r43 r6 k4 kk3 c0 c1 c2 r53;conv=>whnf
  refine CW.held (fun w'=>Row w' x4 28 24 (arF (updf a c.of c.n))) [] (.take 0 (.take 1 (.take 2 (.take 3 (.one 4 (.one 5 (.one 6 (.take 7 (.take 8 (.done)))))))))) tt_ok (by kernel_rfl) (by kernel_rfl) (by kernel_rfl) ?_ ?_
  ·exact Row.drewN r44 1
  have q4:=(Keep.refl [] w4).drewN 1;have D5:=D4.keep0 q4;have r45:=r44.keep q4 (by simp);have r65:=r64.keep q4 (by simp);have kk5:=kk4.trans q4;clear D4 r44 r64 kk4 q4;generalize w4.drewN 1=w5 at *;conv=>whnf
  repeat ((first|(refine RuQ.of (fun w hS=>run_ldaC (q:=arF (updf a c.of c.n)) hS Tryz.underlying28 rfl size_ar (by omega) (fun j hj=>by rw[Nat.zero_add])) ?_));conv=>whnf)
  refine Ca.of (tbytes_ok c.n (by omega) w5) ?_;rintro _ w6 ⟨g,rfl,hg,rg,k6⟩;have D6:=D5.keep0 k6;have r46:=r45.keep k6 (by simp);have r66:=r65.keep k6 (by simp);have kk6:=kk5.trans k6;clear D5 r45 r65 kk5 k6 hg;refine⟨r46,?_⟩;conv=>whnf
  refine Ca.of (hcall D6 (Rd.of_row rg (n:=160) (by omega)) (by omega)) ?_;rintro u w7 ⟨k7,hr7⟩;have r47:=r46.keep k7 (D6.far r46 (by decide));have r67:=r66.keep k7 (D6.far r66 (by decide));have hs6:=kk6.size;have hlt:=D6.own_lt;refine⟨r47,?_⟩;conv=>whnf
  refine Ru.sta r67 size_ar (by omega) (fun j hj=>arF_one _ j) ?_;intro w8 r68 k8;have r68:Row w8 x6 28 24 (arF (updf a c.of c.n)):=r68.congr (fun j hj=>by unfold lay;rw[if_pos (by omega),Nat.sub_zero]);refine⟨r47.keep k8 (by simpa using h46),?_⟩;conv=>whnf
  refine Ru.ldaC (q:=arF (updf a c.of c.n)) r68 Tryz.underlying28 rfl size_ar (by omega) (fun j hj=>by rw[Nat.zero_add]) ?_;conv=>whnf
  have hx6o:=D6.far r66 (by decide);have hio:=D6.in_own;refine⟨rfl,((kk6.mono (T:=own) (by simp)).trans k7).then k8 (fun x hx=>.inr (by rw[List.mem_singleton.1 hx];exact hx6w)),hr7.mono (fun b' hh=>?_) (fun Q hh=>?_)⟩
  ·obtain⟨rfl,own',D7,h7⟩:=hh;refine⟨⟨none,0,0,fun _=>0,rfl,⟨rfl,rfl,rfl⟩,.inl rfl⟩,own',D7.away r67 (by decide) k8,fun x hx=>?_⟩;rcases h7 x hx with h|h
   ·exact .inl h
   ·exact .inr (Nat.le_trans hs6 h)
  ·obtain⟨rfl,hoff⟩:=hh;exact⟨rfl,hoff.keep k8 (fun hm=>hx6o (by rw[<-List.mem_singleton.1 hm];exact hio.1)) (fun hm=>hx6o (by rw[<-List.mem_singleton.1 hm];exact hio.2))⟩
theorem does_trim(D:DvOn w own d ch K P b){c:Cl}(hw:c.wf)(hk:c.kd=3){a:Nat->Nat}
  (hcall:∀ {w1:World},DvOn w1 own d ch K P b->Spec Tryz.prog 17 #[.pointer (some ⟨d,0,none⟩),.int .i64 c.of] w1 fun v w'=>DvEnds own d ch K' P' b tr w1 w' (v=errOf 0) (v=errOf 7)) :
  Spec Tryz.prog 19 #[.pointer (some ⟨d,0,none⟩),agg 24 (arF a),agg 3 c.cell] w fun v w'=>DsEnds own d ch K' P' b tr (updf a c.of 0) none w v w':=by
 have hof:=c.of_lt;have hn:=c.n_lt;have e1:someN c.a 24=c.of:=rfl;have e2:1+someN c.x 1000000=c.n:=rfl;have e3:someN c.kind 6=c.kd:=rfl;refine spec_of_wpE (T:=tt) tt_ok Tryz.func19 rfl (by decide +kernel) Tryz.ntmps19 (by simp) ?_;conv=>whnf
 refine Ru.boxa ?_;intro x4 w1 hx4 hs1 r4 k1;conv=>whnf
 refine Ru.boxa ?_;intro x5 w2 hx5 hs2 r5 k2;conv=>whnf
 refine Ru.alloca (alloc_ar w2) ?_;intro x6 w3 hx6 hs3 r6 k3;have r43:=r4.keep (k2.trans k3) (by simp);have r53:=r5.keep k3 (by simp);have kk3:=(k1.trans k2).trans k3;have D3:=D.keep0 kk3;have hx4w:w.heap.size<=x4:=by omega
 have hx6w:w.heap.size<=x6:=by omega
 have h46:x4≠x6:=by omega
 clear r4 r5 k1 k2 k3 hs1 hs2 hs3 hx4 hx5 hx6 w1 w2 D;have c0:w3.cell? ⟨x5,0,none⟩=some (.int .i64 c.kind):=r53.cell 0 (by omega);have c1:w3.cell? ⟨x5,1,none⟩=some (.int .i64 c.a):=r53.cell 1 (by omega);have c2:w3.cell? ⟨x5,2,none⟩=some (.int .i64 c.x):=r53.cell 2 (by omega);conv=>whnf
 repeat ((first|(refine Ld.at (by omega) c1 ?_));conv=>whnf)
 refine Ca.of (some_ok c.a 24 hw.2.1 (by omega) w3) ?_;rintro _ _ ⟨rfl,rfl⟩;rw[e1];conv=>whnf
 repeat ((first|(refine Ld.at (by omega) c2 ?_));conv=>whnf)
 refine Ca.of (some_ok c.x 1000000 hw.2.2 (by omega) w3) ?_;rintro _ _ ⟨rfl,rfl⟩;have e2':(1:Int)+((someN c.x 1000000:Nat):Int)=(c.n:Nat):=by rw[<-e2];omega
 have hb:=someN_lt c.x (n:=1000000) (by omega);conv=>whnf
 repeat ((first|(refine Ld.at (by omega) c0 ?_)|refine Ar.la ?_|refine CW.s ?_);conv=>whnf)
 rw[e2'];refine Ca.of (some_ok c.kind 6 hw.1 (by omega) w3) ?_;rintro _ _ ⟨rfl,rfl⟩;rw[e3];rw[hk];conv=>whnf
 repeat ((first|(refine Ix.of c.of (by omega) (by omega) ?_)|refine Br.t ?_|refine Br.f ?_|refine CW.s ?_);conv=>whnf)
 rw[show 0+0+c.of=c.of by omega];refine Sd.rowAt r43 c.of (by omega) (by omega) rfl ?_;intro w4 r44 k4;have r44:Row w4 x4 28 24 (arF (updf a c.of 0)):=r44.congr (fun j hj=>put_ar a c.of 0 j);have D4:=D3.away r43 (by decide) k4;have r64:=r6.keep k4 (by simpa using h46.symm);have kk4:=kk3.fresh hx4w k4;have hs4:=kk4.size;clear D3 r43 r6 k4 kk3 c0 c1 c2 r53;conv=>whnf
 refine CW.held (fun w'=>Row w' x4 28 24 (arF (updf a c.of 0))) [] (.take 0 (.take 1 (.take 2 (.one 3 (.one 4 (.take 5 (.take 6 (.done)))))))) tt_ok (by kernel_rfl) (by kernel_rfl) (by kernel_rfl) ?_ ?_
 ·exact Row.drewN r44 1
 have q4:=(Keep.refl [] w4).drewN 1;have D5:=D4.keep0 q4;have r45:=r44.keep q4 (by simp);have r65:=r64.keep q4 (by simp);have kk5:=kk4.trans q4;clear D4 r44 r64 kk4 q4;generalize w4.drewN 1=w6 at *;conv=>whnf
 repeat ((first|(refine RuQ.of (fun w hS=>run_ldaC (q:=arF (updf a c.of 0)) hS Tryz.underlying28 rfl size_ar (by omega) (fun j hj=>by rw[Nat.zero_add])) ?_));conv=>whnf)
 have D6:=D5;have r46:=r45;have r66:=r65;have kk6:=kk5;clear D5 r45 r65 kk5;refine Ca.of (hcall D6) ?_;rintro u w7 ⟨k7,hr7⟩;have r47:=r46.keep k7 (D6.far r46 (by decide));have r67:=r66.keep k7 (D6.far r66 (by decide));have hs6:=kk6.size;have hlt:=D6.own_lt;refine⟨r47,?_⟩;conv=>whnf
 refine Ru.sta r67 size_ar (by omega) (fun j hj=>arF_one _ j) ?_;intro w8 r68 k8;have r68:Row w8 x6 28 24 (arF (updf a c.of 0)):=r68.congr (fun j hj=>by unfold lay;rw[if_pos (by omega),Nat.sub_zero]);refine⟨r47.keep k8 (by simpa using h46),?_⟩;conv=>whnf
 refine Ru.ldaC (q:=arF (updf a c.of 0)) r68 Tryz.underlying28 rfl size_ar (by omega) (fun j hj=>by rw[Nat.zero_add]) ?_;conv=>whnf
 have hx6o:=D6.far r66 (by decide);have hio:=D6.in_own;refine⟨rfl,((kk6.mono (T:=own) (by simp)).trans k7).then k8 (fun x hx=>.inr (by rw[List.mem_singleton.1 hx];exact hx6w)),hr7.mono (fun b' hh=>?_) (fun Q hh=>?_)⟩
 ·obtain⟨rfl,own',D7,h7⟩:=hh;refine⟨⟨none,0,0,fun _=>0,rfl,⟨rfl,rfl,rfl⟩,.inl rfl⟩,own',D7.away r67 (by decide) k8,fun x hx=>?_⟩;rcases h7 x hx with h|h
  ·exact .inl h
  ·exact .inr (Nat.le_trans hs6 h)
 ·obtain⟨rfl,hoff⟩:=hh;exact⟨rfl,hoff.keep k8 (fun hm=>hx6o (by rw[<-List.mem_singleton.1 hm];exact hio.1)) (fun hm=>hx6o (by rw[<-List.mem_singleton.1 hm];exact hio.2))⟩
theorem does_read(D:DvOn w own d ch K P b){c:Cl}(hw:c.wf)(hk:4<=c.kd){a:Nat->Nat}{F:Nat->Nat}
  (hcall:∀ {w1:World},DvOn w1 own d ch K P b->Spec Tryz.prog 22 #[.pointer (some ⟨d,0,none⟩),.int .i64 c.of] w1 fun v w'=>RdEnds own d ch K' P' b tr F w1 v w') :
  Spec Tryz.prog 19 #[.pointer (some ⟨d,0,none⟩),agg 24 (arF a),agg 3 c.cell] w fun v w'=>DsEnds own d ch K' P' b tr a (some F) w v w':=by
 have hof:=c.of_lt;have hn:=c.n_lt;have e1:someN c.a 24=c.of:=rfl;have e2:1+someN c.x 1000000=c.n:=rfl;have e3:someN c.kind 6=c.kd:=rfl;refine spec_of_wpE (T:=tt) tt_ok Tryz.func19 rfl (by decide +kernel) Tryz.ntmps19 (by simp) ?_;conv=>whnf
 refine Ru.boxa ?_;intro x4 w1 hx4 hs1 r4 k1;conv=>whnf
 refine Ru.boxa ?_;intro x5 w2 hx5 hs2 r5 k2;conv=>whnf
 refine Ru.alloca (alloc_ar w2) ?_;intro x6 w3 hx6 hs3 r6 k3;have r43:=r4.keep (k2.trans k3) (by simp);have r53:=r5.keep k3 (by simp);have kk3:=(k1.trans k2).trans k3;have D3:=D.keep0 kk3;have hx4w:w.heap.size<=x4:=by omega
 have hx6w:w.heap.size<=x6:=by omega
 have h46:x4≠x6:=by omega
 clear r4 r5 k1 k2 k3 hs1 hs2 hs3 hx4 hx5 hx6 w1 w2 D;have c0:w3.cell? ⟨x5,0,none⟩=some (.int .i64 c.kind):=r53.cell 0 (by omega);have c1:w3.cell? ⟨x5,1,none⟩=some (.int .i64 c.a):=r53.cell 1 (by omega);have c2:w3.cell? ⟨x5,2,none⟩=some (.int .i64 c.x):=r53.cell 2 (by omega);conv=>whnf
 repeat ((first|(refine Ld.at (by omega) c1 ?_));conv=>whnf)
 refine Ca.of (some_ok c.a 24 hw.2.1 (by omega) w3) ?_;rintro _ _ ⟨rfl,rfl⟩;rw[e1];conv=>whnf
 repeat ((first|(refine Ld.at (by omega) c2 ?_));conv=>whnf)
 refine Ca.of (some_ok c.x 1000000 hw.2.2 (by omega) w3) ?_;rintro _ _ ⟨rfl,rfl⟩;have e2':(1:Int)+((someN c.x 1000000:Nat):Int)=(c.n:Nat):=by rw[<-e2];omega
 have hb:=someN_lt c.x (n:=1000000) (by omega);conv=>whnf
 repeat ((first|(refine Ld.at (by omega) c0 ?_)|refine Ar.la ?_|refine CW.s ?_);conv=>whnf)
 rw[e2'];refine Ca.of (some_ok c.kind 6 hw.1 (by omega) w3) ?_;rintro _ _ ⟨rfl,rfl⟩;rw[e3];have hlt6:c.kd<6:=someN_lt _ (by omega);have hk3:c.kd=4\/c.kd=5:=by omega
 rcases hk3 with h|h
 all_goals
  rw[h];conv=>whnf
  repeat ((first|refine Br.f ?_|refine CW.s ?_);conv=>whnf)
  refine Ca.of (hcall D3) ?_;rintro u w7 ⟨k7,hr7⟩;have r47:=r43.keep k7 (D3.far r43 (by decide));have r67:=r6.keep k7 (D3.far r6 (by decide));have hx6o:=D3.far r6 (by decide);have hio:=D3.in_own;have hlt:=D3.own_lt;have hs3:=kk3.size;have hs7:=k7.size;have hx6l:=r6.lt;have fin:∀w8,Keep [x6] w7 w8->Keep own w w8:=fun w8 k8=>((kk3.mono (T:=own) (by simp)).trans k7).then k8 (fun x hx=>.inr (by rw[List.mem_singleton.1 hx];exact hx6w));rcases hr7 with⟨f7,⟨Y,e,rfl,hY,hYn⟩,own',D7,h7⟩|⟨y,hy,hyb,rfl,hoff⟩
  ·conv=>whnf
   refine Ru.ldaC (q:=arF a) r47 Tryz.underlying28 rfl size_ar (by omega) (fun j hj=>by rw[Nat.zero_add]) ?_;conv=>whnf
   refine Ru.sta r67 size_ar (by omega) (fun j hj=>arF_one _ j) ?_;intro w8 r68 k8;have r68:Row w8 x6 28 24 (arF a):=r68.congr (fun j hj=>by unfold lay;rw[if_pos (by omega),Nat.sub_zero]);conv=>whnf
   refine Ru.ldaC (q:=arF a) r68 Tryz.underlying28 rfl size_ar (by omega) (fun j hj=>by rw[Nat.zero_add]) ?_;conv=>whnf
   refine⟨rfl,fin w8 k8,.inl ⟨f7,⟨Y,160,e,F,rfl,⟨rfl,rfl⟩,.inr ⟨hY.keep k8 (fun x hx hm=>?_),fun x hx=>Nat.le_trans hs3 (hYn x hx)⟩⟩,own',D7.away r67 (by decide) k8,fun x hx=>?_⟩⟩
   ·have:=hYn x hx;rw[List.mem_singleton.1 hm] at this;omega
   ·rcases h7 x hx with h|h
    ·exact .inl h
    ·exact .inr (Nat.le_trans hs3 h)
  ·conv=>whnf
   refine Ru.ldaC (q:=arF a) r47 Tryz.underlying28 rfl size_ar (by omega) (fun j hj=>by rw[Nat.zero_add]) ?_;conv=>whnf
   refine Ru.sta r67 size_ar (by omega) (fun j hj=>arF_one _ j) ?_;intro w8 r68 k8;have r68:Row w8 x6 28 24 (arF a):=r68.congr (fun j hj=>by unfold lay;rw[if_pos (by omega),Nat.sub_zero]);conv=>whnf
   refine Ru.ldaC (q:=arF a) r68 Tryz.underlying28 rfl size_ar (by omega) (fun j hj=>by rw[Nat.zero_add]) ?_;conv=>whnf
   exact⟨rfl,fin w8 k8,.inr ⟨y,hy,hyb,rfl,hoff.keep k8 (fun hm=>hx6o (by rw[<-List.mem_singleton.1 hm];exact hio.1)) (fun hm=>hx6o (by rw[<-List.mem_singleton.1 hm];exact hio.2))⟩⟩
end
def arB(a:Nat->Nat)(o j:Nat):Nat:=byF (a o) j
theorem arB_set(a:Nat->Nat)(s x:Nat):setA (arB a) s (byF x)=arB (updf a s x):=by
 funext o j;unfold setA arB updf;split<;>rfl
structure Answers(c:Cl)(a:Nat->Nat)(rd:Option (Nat->Nat)):Prop where
 none:c.kd<=3->rd=none
 some:4<=c.kd->∃F,rd=some F/\∀j,j<160->F j=arB a c.of j
theorem does_call{K:KS}{P:CS}{k:Cp}{m:Int}(I:Inv K P k m)(hq:K.qu=[])(hm:m+1<1099511627775){c:Cl}(hw:c.wf){a:Nat->Nat}(hs:Shows P K.at_ (arB a)):∃K' P' k' t1 t2 rd,CallEnd K P m (arB a) (arB (c.arr a)) K' P' k' t1 t2/\Answers c a rd /\
  ∀ {w:World} {own:List Nat} {d ch:Nat} {b:Option Nat},DvOn w own d ch K P b->Spec Tryz.prog 19 #[.pointer (some ⟨d,0,none⟩),agg 24 (arF a),agg 3 c.cell] w fun v w'=>DsEnds own d ch K' P' b (t1++t2) (c.arr a) rd w v w':=by
 by_cases h1:c.kd<=2
 ·obtain⟨K',P',k',t1,t2,h,hc⟩:=dev_write I hq hm c.of_lt (f:=byF c.n) (byF_lt _);have e:c.arr a=updf a c.of c.n:=if_pos h1;refine⟨K',P',k',t1,t2,none,?_,⟨fun _=>rfl,fun h=>by omega⟩,fun D=>?_⟩
  ·rw[e, <-arB_set];exact h _ hs
  ·rw[e];exact does_write D hw h1 (fun D1 hA he=>hc D1 hA he)
 ·by_cases h3:c.kd=3
  ·obtain⟨K',P',k',t1,t2,h,hc⟩:=dev_trim I hq hm c.of_lt;have e:c.arr a=updf a c.of 0:=by
    unfold Cl.arr;rw[if_neg h1,if_pos h3]
   refine⟨K',P',k',t1,t2,none,?_,⟨fun _=>rfl,fun h=>by omega⟩,fun D=>?_⟩
   ·rw[e, <-arB_set];exact h _ hs
   ·rw[e];exact does_trim D hw h3 (fun D1=>hc D1)
  ·obtain⟨K',P',k',t2,F,h,hc⟩:=dev_read I hq hm c.of_lt;have e:c.arr a=a:=by
    unfold Cl.arr;rw[if_neg h1,if_neg h3]
   obtain⟨h4,h5⟩:=h _ hs;refine⟨K',P',k',[],t2,some F,?_,⟨fun h=>by omega,fun _=>⟨F,rfl,h5⟩⟩,fun D=>?_⟩
   ·rw[e];exact h4
   ·rw[e];exact does_read D hw (by omega) (fun D1=>hc D1)
structure Carries(K K':KS)(P P':CS)(c:Nat):Prop where
 nil:c=0->K'=K/\P'=P
 go:0<=K.calls->K.calls<8->(0<=K'.calls/\K'.calls<8)/\∀J,Stab J->∀n,J n K P->J (n+c) K' P'
 did:∀J:KS->CS->Prop,(∀K P K' P',Did K P K' P'->J K P->J K' P')->J K P->J K' P'
theorem Carries.refl(K:KS)(P:CS):Carries K K P P (130*0):=⟨fun _=>⟨rfl,rfl⟩,fun h0 h8=>⟨⟨h0,h8⟩,fun J S n j=>j⟩,fun J _ j=>j⟩
theorem Carries.step{K K1 K':KS}{P P1 P':CS}{m:Int}{a a':Nat->Nat->Nat}{k':Cp}{t1 t2:List CS}{i:Nat}(h:Carries K K1 P P1 (130*i))(E:CallEnd K1 P1 m a a' K' P' k' t1 t2):Carries K K' P P' (130*(i+1)):=⟨fun e=>by omega,fun h0 h8=>by
 obtain⟨⟨a1,a2⟩,a3⟩:=h.go h0 h8;obtain⟨⟨b1,b2,-⟩,b3⟩:=E.st a1 a2;exact⟨⟨b1,b2⟩,fun J S n j=>S.mono (by omega) (b3 J S _ (a3 J S n j))⟩,fun J st j=>st _ _ _ _ E.did (h.did J st j)⟩
def clF(L:List Cl)(q:Nat):Value:=(L.getD (q/3) ⟨0,0,0⟩).cell (q%3)
def playA(a:Nat->Nat)(L:List Cl):Nat->Nat:=L.foldl (fun a c=>c.arr a) a
theorem playA_snoc(a:Nat->Nat)(L:List Cl)(c:Cl):playA a (L++[c])=c.arr (playA a L):=by
 unfold playA;rw[List.foldl_append];rfl
theorem arr_le{a:Nat->Nat}(h:∀o,a o<=1000000)(c:Cl):∀o,c.arr a o<=1000000:=fun o=>by
 have:=c.n_lt;unfold Cl.arr;split
 ·unfold updf;split
  ·exact this
  ·exact h o
 ·split
  ·unfold updf;split
   ·omega
   ·exact h o
  ·exact h o
theorem playA_le{a:Nat->Nat}(h:∀o,a o<=1000000)(L:List Cl):∀o,playA a L o<=1000000:=by
 induction L using snoc_rec with
 |h0=>exact h
 | h1 L c ih =>
  rw[playA_snoc];exact arr_le ih c
theorem cl_take{L:List Cl}{i:Nat}(h:i<L.length):L.take (i+1)=L.take i++[L.getD i ⟨0,0,0⟩]:=by
 rw[List.take_add_one,List.getD_eq_getElem?_getD,List.getElem?_eq_getElem h];rfl
theorem cl_mem{L:List Cl}{i:Nat}(h:i<L.length):L.getD i ⟨0,0,0⟩∈L:=by
 rw[List.getD_eq_getElem?_getD,List.getElem?_eq_getElem h];exact List.getElem_mem h
theorem cl_cells{w:World}{A:Option Addr}{L:List Cl}(r:Rd w A (L.length*3) (clF L)){i:Nat}(hi:i<L.length):∃g o,A=some ⟨g,o,none⟩/\∀j,j<3->w.cell? ⟨g,o+i*3+j,none⟩=some ((L.getD i ⟨0,0,0⟩).cell j):=by
 obtain⟨g,o,e,h⟩:=r (by omega);refine⟨g,o,e,fun j hj=>?_⟩;have:=h (i*3+j) (by omega);rw[<-Nat.add_assoc] at this;rw[this];unfold clF;rw[show(i*3+j)/3=i by omega,show(i*3+j)%3=j by omega]
theorem run_ldcl{w:World}{g o:Nat}{c:Cl}(h:∀j,j<3->w.cell? ⟨g,o+j,none⟩=some (c.cell j)):(loadVar 36 ⟨g,o,none⟩).run Tryz.prog w=.ok (agg 3 c.cell) w:=by
 have e:∀m,m<3->(load ((⟨g,o,none⟩:Addr).add m)).run Tryz.prog w=.ok (c.cell m) w:=fun m hm=>by
  rw[add_none];simp[load,Sem.run,h m hm]
 have ha:(isAgg 36).run Tryz.prog w=.ok true w:=run_isAgg_of Tryz.underlying36 rfl w;have hs:(sizeOf 36).run Tryz.prog w=.ok 3 w:=size_of_is (by kernel_rfl) w;simp only[loadVar,Sem.run_bind,ha,Result.andThen_ok,if_true,hs,loadCells,loadCellsFrom,e 0 (by omega),e 1 (by omega),e 2 (by omega),Sem.run_pure];rw[show agg 3 c.cell=.agg #[c.cell 0,c.cell 1,c.cell 2] by unfold agg;simp[Array.range,Array.ofFn_succ]];rfl
theorem ne_slice(w:World)(x:Operand)(A:Option Addr)(n c:Nat):(do eqGuard .neq 37 x (.const (.slice none 0 0)) (.slice A n c) (.slice none 0 0);binOp .neq 37 (.slice A n c) (.slice none 0 0):Sem Value).run Tryz.prog w=.ok (.bool A.isSome) w:=by
 cases A<;>kernel_rfl
section
variable{w w':World}{own:List Nat}{d ch:Nat}{K:KS}{P:CS}{k:Cp}{m:Int}
structure PlI(w0:World)(own0:List Nat)(d ch:Nat)(K:KS)(P:CS)(k:Cp)(m:Int)(a:Nat->Nat)(own:List Nat)(w:World):Prop where
 on:DvOn w own d ch K P none
 inv:Inv K P k m
 qu:K.qu=[]
 sh:Shows P K.at_ (arB a)
 sub:∀x,x∈own->x∈own0\/w0.heap.size<=x
 kk:Keep own0 w0 w
theorem plays_ok(D:DvOn w own d ch K P none)(I:Inv K P k m)(hq:K.qu=[]){a:Nat->Nat}(hs:Shows P K.at_ (arB a)){L:List Cl}{A:Option Addr}{cA:Nat}(hL:Rd w A (L.length*3) (clF L))(hw:∀c,c∈L->c.wf)(hA:0<L.length->∀x,A=some x->x.block∉own)(hm:m+2*L.length<1099511627775)(ha:∀o,a o<=1000000) :
  Spec Tryz.prog 41 #[.pointer (some ⟨d,0,none⟩),agg 24 (arF a),.slice A L.length cA] w fun v w'=>v=.tuple #[agg 24 (arF (playA a L)),.bool true]/\∃K' P' k' own',PlI w own d ch K' P' k' (m+2*L.length) (playA a L) own' w'/\Carries K K' P P' (130*L.length):=by
 have hmpos:1<=m:=by
  have:=I.l.next;omega
 have hfarL:∀(w1 w2:World),Keep [w.heap.size] w1 w2->Rd w1 A (L.length*3) (clF L)->Rd w2 A (L.length*3) (clF L):=fun w1 w2 k' h' hn0=>by
  obtain⟨b0,o0,rfl,hc0⟩:=hL hn0;have h9:b0<w.heap.size:=cell_lt (hc0 0 hn0);exact h'.keep k' (fun a e hm=>by
   cases e
   have h8:b0=w.heap.size:=List.mem_singleton.1 hm;omega) hn0
 refine spec_of_wpE (T:=tt) tt_ok Tryz.func41 rfl (by decide +kernel) Tryz.ntmps41 (by simp) ?_;conv=>whnf
 refine Ru.boxa ?_;intro x4 w1 hx4 hs1 r4 k1;conv=>whnf
 refine Ru.alloca (alloc_ar w1) ?_;intro x6 w2 hx6 hs2 r6 k2;have r42:=r4.keep k2 (by simp);have kk2:=k1.trans k2;have D2:=D.keep0 kk2;have hL2:=hL.keep0 kk2;have hx4w:w.heap.size<=x4:=by omega
 have hx6w:w.heap.size<=x6:=by omega
 have h46:x4≠x6:=by omega
 rw[<-hx4] at hfarL;clear r4 k1 k2 hs1 hs2 hx4 hx6 w1;conv=>whnf
 repeat ((first|refine CW.s ?_);conv=>whnf)
 refine CW.loop (ι:=Nat×KS×CS×Cp×List Nat) (fun i w'=>i.1<=L.length/\PlI w own d ch i.2.1 i.2.2.1 i.2.2.2.1 (m+2*i.1) (playA a (L.take i.1)) i.2.2.2.2 w'/\Row w' x4 28 24 (arF (playA a (L.take i.1)))/\Row w' x6 28 24 (arF fun _=>0)/\Rd w' A (L.length*3) (clF L)/\Carries K i.2.1 P i.2.2.1 (130*i.1))
  (fun i=>[(0,.pointer (some ⟨d,0,none⟩)),(2,.slice A L.length cA),(4,.pointer (some ⟨x4,0,none⟩)),(6,.pointer (some ⟨x6,0,none⟩)),(8,.int .i64 i.1)]) (fun i=>L.length-i.1) (0,K,P,k,own) tt_ok
  ⟨by omega,⟨D2,by simpa using I,hq,hs,fun x hx=>.inl hx,kk2.mono (by simp)⟩,r42,r6,hL2,Carries.refl K P⟩ ⟨rfl,rfl,rfl,rfl,rfl,trivial⟩ ?_;clear D2 r42 r6 hL2 kk2;rintro⟨i,K1,P1,k1,own1⟩ wr ⟨hi,⟨D1,I1,q1,s1,sub1,kk⟩,r4,r6,hLr,hz⟩;simp only at hi D1 I1 q1 s1 sub1 kk r4 r6 hLr hz ⊢;rcases Nat.lt_or_ge i L.length with hlt|hge
 ·obtain⟨g,o,rfl,hcell⟩:=cl_cells hLr hlt;have htk:=cl_take hlt;have hcw:=hw _ (cl_mem hlt);have hgo:g∉own1:=fun hx=>by
   rcases sub1 g hx with h|h
   ·exact hA (by omega) _ rfl h
   ·obtain⟨g',o',e',h'⟩:=hL (by omega)
    cases e'
    have h9:g<w.heap.size:=cell_lt (h' 0 (by omega));omega
  generalize L.getD i ⟨0,0,0⟩=c at *;conv=>whnf
  repeat ((first|refine Br.y ?_|refine CW.s ?_);conv=>whnf)
  refine CW.held (fun w'=>Row w' x4 28 24 (arF (playA a (L.take i)))/\∀j,j<3->w'.cell? ⟨g,o+i*3+j,none⟩=some (c.cell j)) [] (.take 0 (.take 1 (.take 2 (.take 3 (.take 4 (.take 5 (.two 6 (.take 7 (.take 8 (.take 9 (.take 10 (.one 11 (.one 12 (.take 13 (.take 14 (.done))))))))) 11 (.one 6 (.take 7 (.take 8 (.take 9 (.take 10 (.one 12 (.take 13 (.take 14 (.done)))))))))))))))) tt_ok (by kernel_rfl) (by kernel_rfl) (by kernel_rfl) ?_ ?_
  ·exact⟨Row.drewN r4 1,hcell⟩
  have q2:=(Keep.refl [] wr).drewN 1;have D2:=D1.keep0 q2;have r42:=r4.keep q2 (by simp);have r62:=r6.keep q2 (by simp);have hL2:=hLr.keep0 q2;have hc2:∀j,j<3->(wr.drewN 1).cell? ⟨g,o+i*3+j,none⟩=some (c.cell j):=hcell;have kk2:=kk.trans (q2.mono (T:=own) (by simp));clear D1 r4 r6 hLr hcell kk q2;generalize wr.drewN 1=w2 at *;obtain⟨K2,P2,k2,t1,t2,rd,CE,An,hcall⟩:=does_call I1 q1 (by omega) hcw s1;conv=>whnf
  repeat ((first|(refine RuQ.of (fun w hS=>run_ldaC (q:=arF (playA a (L.take i))) hS.1 Tryz.underlying28 rfl size_ar (by omega) (fun j hj=>by rw[Nat.zero_add])) ?_)|(refine Ix.of i (by omega) (by omega) ?_)|(refine RuQ.of (fun w hS=>run_ldcl hS.2) ?_));conv=>whnf)
  refine And.intro ?_ ?_
  case' refine_1 =>
   refine Ca.of (hcall D2) ?_;rintro u w3 ⟨k3,hr3⟩;rcases hr3 with⟨f3,⟨Y,n,e,f,rfl,hm1,hm2⟩,own3,D3,h3⟩|⟨y,hy,hyb,-⟩
   case inr=>cases hyb
   have r43:=r42.keep k3 (D2.far r42 (by decide));have r63:=r62.keep k3 (D2.far r62 (by decide));have hL3:=hL2.keep k3 (fun x ex hm=>by cases ex;exact hgo hm);have hc3:∀j,j<3->w3.cell? ⟨g,o+i*3+j,none⟩=some (c.cell j):=fun j hj=>(k3.cell (cell_lt (hc2 j hj)) hgo).trans (hc2 j hj);have kk3:Keep own w w3:=kk2.then k3 sub1;have hs2:=kk2.size;have sub3:∀x,x∈own3->x∈own\/w.heap.size<=x:=fun x hx=>by
    rcases h3 x hx with h|h
    ·exact sub1 x h
    ·exact .inr (Nat.le_trans hs2 h)
   have hs3:=k3.size;clear D2 r42 r62 hL2 hc2 k3 h3;refine⟨⟨r43,hc3⟩,?_⟩;conv=>whnf
   refine Ru.alloca (alloc_ar w3) ?_;intro x9 w4 hx9 hs4 r9 k4;refine⟨⟨r43.keep k4 (by simp),fun j hj=>(k4.cell (cell_lt (hc3 j hj)) (by simp)).trans (hc3 j hj)⟩,?_⟩;conv=>whnf
   refine Ru.sta r9 size_ar (by omega) (fun j hj=>arF_one _ j) ?_;intro w5 r95 k5;have r95:Row w5 x9 28 24 (arF (c.arr (playA a (L.take i)))):=r95.congr (fun j hj=>by unfold lay;rw[if_pos (by omega),Nat.sub_zero]);have q5:Keep [] w3 w5:=k4.then k5 (fun x hx=>.inr (by rw[List.mem_singleton.1 hx,hx9];exact Nat.le_refl _));have hY5:rd=none\/Ly w5 5 1 Y n e (fun j=>.int .u8 (f j:Nat)):=by
    rcases hm2 with h|⟨h,-⟩
    ·exact .inl h
    ·exact .inr (h.keep0 q5)
   have D5:=D3.keep0 q5;have r45:=r43.keep q5 (by simp);have r65:=r63.keep q5 (by simp);have hL5:=hL3.keep0 q5;have hc5:∀j,j<3->w5.cell? ⟨g,o+i*3+j,none⟩=some (c.cell j):=fun j hj=>(q5.cell (cell_lt (hc3 j hj)) (by simp)).trans (hc3 j hj);have kk5:=kk3.trans (q5.mono (T:=own) (by simp));have h49:x4≠x9:=by
    have:=r43.lt;omega
   clear D3 r43 r63 hL3 hc3 k4 k5 r9 hs4 kk3 q5 hm2 hx9;refine⟨⟨r45,hc5⟩,?_⟩;conv=>whnf
   repeat ((first|refine Br.f ?_|refine Ru.neq_nil0 ?_|refine CW.s ?_);conv=>whnf)
  case' refine_2 =>
   refine Ru.alloca (alloc_ar w2) ?_;intro x9 w3 hx9 hs4 r9 k4;have h49:x4≠x9:=by
    have:=r42.lt;omega
   have h69:x6≠x9:=by
    have:=r62.lt;omega
   have hg9:g≠x9:=by
    have h9:g<w2.heap.size:=cell_lt (hc2 0 (by omega));omega
   have h9w:w.heap.size<=x9:=by
    have:=kk2.size;omega
   have D3:=D2.keep0 k4;have r43:=r42.keep k4 (by simp);have r63:=r62.keep k4 (by simp);have hL3:=hL2.keep0 k4;have hc3:∀j,j<3->w3.cell? ⟨g,o+i*3+j,none⟩=some (c.cell j):=fun j hj=>(k4.cell (cell_lt (hc2 j hj)) (by simp)).trans (hc2 j hj);have kk3:=kk2.trans (k4.mono (T:=own) (by simp));clear D2 r42 r62 hL2 hc2 kk2 k4 hs4 hx9;refine⟨⟨r43,hc3⟩,?_⟩;conv=>whnf
   refine Ca.of (hcall D3) ?_;rintro u w4 ⟨k3,hr3⟩;rcases hr3 with⟨f3,⟨Y,n,e,f,rfl,hm1,hm2⟩,own3,D4,h3⟩|⟨y,hy,hyb,-⟩
   case inr=>cases hyb
   have r44:=r43.keep k3 (D3.far r43 (by decide));have r64:=r63.keep k3 (D3.far r63 (by decide));have r94:=r9.keep k3 (D3.far r9 (by decide));have hL4:=hL3.keep k3 (fun x ex hm=>by cases ex;exact hgo hm);have hc4:∀j,j<3->w4.cell? ⟨g,o+i*3+j,none⟩=some (c.cell j):=fun j hj=>(k3.cell (cell_lt (hc3 j hj)) hgo).trans (hc3 j hj);have kk4:Keep own w w4:=kk3.then k3 sub1;have hs2:=kk3.size;have sub3:∀x,x∈own3->x∈own\/w.heap.size<=x:=fun x hx=>by
    rcases h3 x hx with h|h
    ·exact sub1 x h
    ·exact .inr (Nat.le_trans hs2 h)
   have hs3:=k3.size;have h9l:=r9.lt;clear D3 r43 r63 r9 hL3 hc3 k3 h3 kk3;refine⟨⟨r44,hc4⟩,?_⟩;conv=>whnf
   refine Ru.sta r94 size_ar (by omega) (fun j hj=>arF_one _ j) ?_;intro w5 r95 k5;have r95:Row w5 x9 28 24 (arF (c.arr (playA a (L.take i)))):=r95.congr (fun j hj=>by unfold lay;rw[if_pos (by omega),Nat.sub_zero]);have hY5:rd=none\/Ly w5 5 1 Y n e (fun j=>.int .u8 (f j:Nat)):=by
    rcases hm2 with h|⟨h,h'⟩
    ·exact .inl h
    ·exact .inr (h.keep k5 (fun x hx hm=>by
      have:=h' x hx;rw[List.mem_singleton.1 hm] at this;omega))
   have D5:=D4.away r94 (by decide) k5;have r45:=r44.keep k5 (by simpa using h49);have r65:=r64.keep k5 (by simpa using h69);have hL5:=hL4.keep k5 (fun x ex hm=>by cases ex;exact hg9 (List.mem_singleton.1 hm));have hc5:∀j,j<3->w5.cell? ⟨g,o+i*3+j,none⟩=some (c.cell j):=fun j hj=>(k5.cell (cell_lt (hc4 j hj)) (by simpa using hg9)).trans (hc4 j hj);have kk5:=kk4.then k5 (fun x hx=>.inr (by rw[List.mem_singleton.1 hx];exact h9w));clear D4 r44 r64 r94 hL4 hc4 k5 kk4 hm2 h69 hg9 h9w h9l;refine⟨⟨r45,hc5⟩,?_⟩;conv=>whnf
   repeat ((first|refine Br.f ?_|refine Ru.neq_nil0 ?_|refine CW.s ?_);conv=>whnf)
  all_goals
   refine Ru.of (ne_slice w5 _ _ _ _) ?_;have hst:playA a (L.take (i+1))=c.arr (playA a (L.take i)):=by rw[htk,playA_snoc]
   have fin:∀w6,Keep [x4] w5 w6->Row w6 x4 28 24 (arF (c.arr (playA a (L.take i))))->(i+1<=L.length/\PlI w own d ch K2 P2 k2 (m+2*(i+1:Nat)) (playA a (L.take (i+1))) own3 w6/\Row w6 x4 28 24 (arF (playA a (L.take (i+1))))/\Row w6 x6 28 24 (arF fun _=>0)/\Rd w6 (some ⟨g,o,none⟩) (L.length*3) (clF L)/\Carries K K2 P P2 (130*(i+1))):=fun w6 k6 r46=>by
    rw[hst];have I6:=CE.inv;rw[show m+2*((i:Nat):Int)+2=m+2*((i+1:Nat):Int) by omega] at I6;refine⟨hlt,⟨D5.away r45 (by decide) k6,I6,CE.qu,CE.sh,sub3,kk5.then k6 (fun x hx=>.inr (by rw[List.mem_singleton.1 hx];exact hx4w))⟩,r46,r65.keep k6 (by simpa using h46.symm),hfarL _ _ k6 hL5,hz.step CE⟩
   cases rd with
   | none =>
    obtain⟨rfl,rfl,rfl⟩:=hm1;conv=>whnf
    repeat ((first|refine Br.f ?_|refine Pk.f ?_);conv=>whnf)
    refine Ru.ldaC (q:=arF (c.arr (playA a (L.take i)))) r95 Tryz.underlying28 rfl size_ar (by omega) (fun j hj=>by rw[Nat.zero_add]) ?_;conv=>whnf
    refine Ru.sta r45 size_ar (by omega) (fun j hj=>arF_one _ j) ?_;intro w6 r46 k6;have r46:Row w6 x4 28 24 (arF (c.arr (playA a (L.take i)))):=r46.congr (fun j hj=>by unfold lay;rw[if_pos (by omega),Nat.sub_zero]);conv=>whnf
    repeat ((first|refine Ar.la ?_);conv=>whnf)
    exact⟨(i+1,K2,P2,k2,own3),fin w6 k6 r46,⟨rfl,rfl,rfl,rfl,vi (by simp only;omega),trivial⟩,by simp only;omega⟩
   | some F =>
    obtain⟨hn160,hfF⟩:=hm1;subst hn160;have hkd:4<=c.kd:=by
     by_cases h:c.kd<=3
     ·have:=An.none h
      cases this
     ·omega
    obtain⟨F',hF',hFe⟩:=An.some hkd
    cases hF'
    have hof:=c.of_lt;have hY6:Rd w5 Y 160 (fun j=>.int .u8 ((byF (playA a (L.take i) c.of) j:Nat):Int)):=by
     rcases hY5 with h|h
     ·cases h
     ·have h2:=h.rd;rw[Nat.mul_one] at h2;intro hp;obtain⟨g1,o1,e1,h3⟩:=h2 hp;refine⟨g1,o1,e1,fun j hj=>?_⟩;rw[h3 j hj,hfF];show some (Value.int .u8 ((F j:Nat):Int))=_;rw[hFe j hj];rfl
    obtain⟨gy,oy,rfl,hcy⟩:=hY6 (by omega);have hY6:Rd w5 (some ⟨gy,oy,none⟩) 160 (fun j=>.int .u8 ((byF (playA a (L.take i) c.of) j:Nat):Int)):=fun _=>⟨gy,oy,rfl,hcy⟩
    have ha1:=playA_le ha (L.take i) c.of;have c1:w5.cell? ⟨g,o+i*3+1,none⟩=some (.int .i64 c.a):=hc5 1 (by omega);have ca:w5.cell? ⟨x4,c.of,none⟩=some (.int .i64 (playA a (L.take i) c.of:Nat)):=r45.cell c.of (by omega);have ecof:someN c.a 24=c.of:=rfl;conv=>whnf
    repeat ((first|(refine Ix.of i (by omega) (by omega) ?_)|(refine Ld.at (by omega) c1 ?_)|refine Br.t ?_|refine Br.f ?_);conv=>whnf)
    refine Ca.of (some_ok c.a 24 hcw.2.1 (by omega) w5) ?_;rintro _ _ ⟨rfl,rfl⟩;rw[ecof];conv=>whnf
    repeat ((first|(refine Ix.of c.of (by omega) (by omega) ?_)|(refine Ld.at (by omega) ca ?_)|refine Br.t ?_);conv=>whnf)
    refine Ca.of (tbytes_ok _ (by omega) w5) ?_;rintro _ w6 ⟨gb,rfl,hgb,rb,k6⟩;conv=>whnf
    repeat ((first|refine Br.t ?_);conv=>whnf)
    refine Ca.of (same17_ok _ _ 160 160 _ _ (fun j=>((byF (playA a (L.take i) c.of) j:Nat):Int)) (fun j=>((byF (playA a (L.take i) c.of) j:Nat):Int)) w6 (hY6.keep0 k6) (Rd.of_row rb (n:=160) (by omega)) (fun j=>by have:=byF_lt (playA a (L.take i) c.of) j;omega) (fun j=>by have:=byF_lt (playA a (L.take i) c.of) j;omega)) ?_;rintro _ _ ⟨rfl,rfl⟩;rw[sameB_yes rfl (fun _ _=>rfl)];have r96:=r95.keep k6 (by simp);have r46:=r45.keep k6 (by simp);conv=>whnf
    repeat ((first|refine Br.t ?_|refine Br.f ?_|refine Pk.f ?_|refine Pk.t ?_);conv=>whnf)
    refine Ru.ldaC (q:=arF (c.arr (playA a (L.take i)))) r96 Tryz.underlying28 rfl size_ar (by omega) (fun j hj=>by rw[Nat.zero_add]) ?_;conv=>whnf
    refine Ru.sta r46 size_ar (by omega) (fun j hj=>arF_one _ j) ?_;intro w7 r47 k7;have r47:Row w7 x4 28 24 (arF (c.arr (playA a (L.take i)))):=r47.congr (fun j hj=>by unfold lay;rw[if_pos (by omega),Nat.sub_zero]);conv=>whnf
    repeat ((first|refine Ar.la ?_);conv=>whnf)
    exact⟨(i+1,K2,P2,k2,own3),fin w7 ((k6.mono (by simp)).trans k7) r47,⟨rfl,rfl,rfl,rfl,vi (by simp only;omega),trivial⟩,by simp only;omega⟩
 ·obtain rfl:i=L.length:=by omega
  rw[List.take_length] at *;conv=>whnf
  repeat ((first|refine Br.n ?_|refine CW.s ?_);conv=>whnf)
  refine Ru.ldaC (q:=arF (playA a L)) r4 Tryz.underlying28 rfl size_ar (by omega) (fun j hj=>by rw[Nat.zero_add]) ?_;conv=>whnf
  refine Ru.sta r6 size_ar (by omega) (fun j hj=>arF_one _ j) ?_;intro w5 r65 k5;have r65:Row w5 x6 28 24 (arF (playA a L)):=r65.congr (fun j hj=>by unfold lay;rw[if_pos (by omega),Nat.sub_zero]);conv=>whnf
  refine Ru.ldaC (q:=arF (playA a L)) r65 Tryz.underlying28 rfl size_ar (by omega) (fun j hj=>by rw[Nat.zero_add]) ?_;conv=>whnf
  exact⟨rfl,rfl,K1,P1,k1,own1,⟨D1.away r6 (by decide) k5,I1,q1,s1,sub1,kk.then k5 (fun x hx=>.inr (by rw[List.mem_singleton.1 hx];exact hx6w))⟩,hz⟩
end
def CS.zero:CS:=⟨fun _=>.blank,fun _=>0,fun _=>0,fun _=>false,fun _=>0,fun _=>false⟩
theorem zero_bare:CS.zero.bare:=⟨⟨fun _=>rfl,fun _=>Int.le_refl 0,fun _=>rfl,fun _=>rfl⟩,fun _=>rfl⟩
theorem abs_fresh:Abs Chip.fresh CS.zero:=by
 refine⟨⟨Int.le_refl 0,by show(0:Int)<=9223372036854775807;omega,fun _=>by show(0:Int)<=9223372036854775807;omega,fun _ _ _=>by show 255<256;omega,fun _ _ _=>by show 255<256;omega⟩,fun p hp k hk=>⟨rfl,rfl⟩,fun p k hp hk=>?_,fun p t D hp e=>(by cases e),rfl,rfl,rfl,rfl,fun p k hp hk=>?_⟩
 ·rw[show Chip.fresh.ch p k=Chunk.blank from rfl];unfold Chunk.blank;rw[dmg_self];omega
 ·rw[show Chip.fresh.ch p k=Chunk.blank from rfl];unfold Chunk.blank;rw[dmg_self];exact Int.le_refl 0
theorem left_fresh:Chip.fresh.left none:=⟨rfl,rfl⟩
theorem build_ar(w:World):(Instr.build 28 #[]).run Tryz.prog w=.ok (agg 24 (arF fun _=>0)) w:=by kernel_rfl
theorem chip_eq(w:World)(x:Operand)(a:Addr):(do eqGuard .eql 24 x (.const (.pointer none)) (.pointer (some a)) (.pointer none);binOp .eql 24 (.pointer (some a)) (.pointer none):Sem Value).run Tryz.prog w=.ok (.bool false) w:=by kernel_rfl
structure Begun(w0 w:World)(ch d:Nat)(own:List Nat)(K:KS)(P:CS)(k:Cp)(m:Int)(a:Nat->Nat):Prop where
 on:DvOn w own d ch K P none
 inv:Inv K P k m
 qu:K.qu=[]
 sh:Shows P K.at_ (arB a)
 new:∀x,x∈own->w0.heap.size<=x
 kk:Keep [] w0 w
theorem begun_okC{w:World}{L:List Cl}{A:Option Addr}{cA:Nat}(hL:Rd w A (L.length*3) (clF L))(hw:∀c,c∈L->c.wf)(hn:L.length<=1048576) :
  Spec Tryz.prog 15 #[.slice A L.length cA] w fun v w'=>∃ch d own K P k,v=.tuple #[.pointer (some ⟨ch,0,none⟩),.pointer (some ⟨d,0,none⟩),agg 24 (arF (playA (fun _=>0) L))]/\Begun w w' ch d own K P k (2+2*L.length) (playA (fun _=>0) L)/\∃K0 P0 tr0 k0,Mounts CS.zero K0 P0 tr0/\Inv K0 P0 k0 2/\FirstAt CS.zero K0 P0/\Carries K0 K P0 P (130*L.length):=by
 obtain⟨K0,P0,t0,k0,M0,I0,q0,fa0,s0⟩:=first_end zero_bare;have s0:Shows P0 K0.at_ (arB fun _=>0):=s0;refine spec_of_wpE (T:=tt) tt_ok Tryz.func15 rfl (by decide +kernel) Tryz.ntmps15 (by simp) ?_;conv=>whnf
 refine Ru.alloca (alloc_ar w) ?_;intro x4 w1 hx4 hs1 r4 k1;conv=>whnf
 refine Ru.of (build_ar w1) ?_;conv=>whnf
 refine Ru.alloca (alloc_ar w1) ?_;intro x5 w2 hx5 hs2 r5 k2;conv=>whnf
 refine Ru.sta r5 size_ar (by omega) (fun j hj=>arF_one _ j) ?_;intro w3 r53 k3;have r53:Row w3 x5 28 24 (arF fun _=>0):=r53.congr (fun j hj=>by unfold lay;rw[if_pos (by omega),Nat.sub_zero]);have q3:Keep [] w1 w3:=k2.then k3 (fun x hx=>.inr (by rw[List.mem_singleton.1 hx,hx5];exact Nat.le_refl _));have r43:=r4.keep q3 (by simp);have kk3:=k1.trans q3;have hx4w:w.heap.size<=x4:=by omega
 clear r4 r5 k1 k2 k3 q3 hs1 hs2 hx4 hx5 w1 w2;conv=>whnf
 refine Ca.of (nandnew_ok w3) ?_;rintro _ w4 ⟨rfl,H4,k4⟩;have r44:=r43.keep k4 (by simp);have r54:=r53.keep k4 (by simp);have kk4:=kk3.trans k4;have hchw:w.heap.size<=w3.heap.size:=kk3.size;clear r43 r53 kk3 k4;generalize w3.heap.size=ch at *;conv=>whnf
 repeat ((first|refine CW.s ?_);conv=>whnf)
 refine Ru.of (chip_eq w4 _ _) ?_;conv=>whnf
 repeat ((first|refine Br.f ?_);conv=>whnf)
 refine Ca.of (onchip_ok H4 abs_fresh left_fresh zero_bare.1 M0 q0) ?_;rintro _ w5 ⟨k5,hr5⟩;rcases hr5 with⟨f5,d,own,rfl,D5,hown⟩|⟨y,hy,hyb,-⟩
 case inr=>cases hyb
 have r45:=r44.keep k5 (by
  have:=Row.ne_ H4 r44 (by decide);simpa using this.symm)
 have r55:=r54.keep k5 (by
  have:=Row.ne_ H4 r54 (by decide);simpa using this.symm)
 have kk5:Keep [] w w5:=kk4.then k5 (fun x hx=>.inr (by rw[List.mem_singleton.1 hx];exact hchw));have hs4:=kk4.size;have hown':∀x,x∈own->w.heap.size<=x:=fun x hx=>by
  rcases hown x hx with h|h
  ·omega
  ·omega
 have hL5:=hL.keep0 kk5;clear r44 r54 H4 k5 kk4 hown;conv=>whnf
 repeat ((first|refine CW.s ?_);conv=>whnf)
 refine Ru.of (dev_none w5 _ _) ?_;conv=>whnf
 repeat ((first|refine Br.f ?_);conv=>whnf)
 refine Ru.ldaC (q:=arF fun _=>0) r55 Tryz.underlying28 rfl size_ar (by omega) (fun j hj=>by rw[Nat.zero_add]) ?_;conv=>whnf
 refine Ca.of (plays_ok D5 I0 q0 s0 hL5 hw (fun hp x e hx=>?_) (by omega) (fun _=>by omega)) ?_
 ·obtain⟨g,o,e',h'⟩:=hL (by omega);rw[e'] at e
  cases e
  have h9:g<w.heap.size:=cell_lt (h' 0 (by omega));have:=hown' _ hx;simp only at this;omega
 rintro _ w6 ⟨rfl,K6,P6,k6,own6,PI,hz⟩;have D6:=PI.on;have r46:=r45.keep PI.kk (D5.far r45 (by decide));have kk6:Keep [] w w6:=kk5.then PI.kk (fun x hx=>.inr (hown' x hx));have hs5:=kk5.size;have hown6:∀x,x∈own6->w.heap.size<=x:=fun x hx=>by
  rcases PI.sub x hx with h|h
  ·exact hown' x h
  ·omega
 conv=>whnf
 refine Ru.alloca (alloc_ar w6) ?_;intro x8 w7 hx8 hs7 r8 k7;conv=>whnf
 refine Ru.sta r8 size_ar (by omega) (fun j hj=>arF_one _ j) ?_;intro w8 r88 k8;have r88:Row w8 x8 28 24 (arF (playA (fun _=>0) L)):=r88.congr (fun j hj=>by unfold lay;rw[if_pos (by omega),Nat.sub_zero]);have q8:Keep [] w6 w8:=k7.then k8 (fun x hx=>.inr (by rw[List.mem_singleton.1 hx,hx8];exact Nat.le_refl _));have D8:=D6.keep0 q8;have r48:=r46.keep q8 (by simp);have kk8:=kk6.trans q8;clear k7 k8 r8 hs7;conv=>whnf
 repeat ((first|refine Br.f ?_|refine CW.s ?_);conv=>whnf)
 refine CW.held (fun w'=>Row w' x8 28 24 (arF (playA (fun _=>0) L))) [5] (.take 0 (.take 1 (.take 2 (.take 3 (.take 4 (.one 5 (.done))))))) tt_ok (by kernel_rfl) (by kernel_rfl) (by kernel_rfl) ?_ ?_
 ·exact Row.drewN r88 1
 have q9:=(Keep.refl [] w8).drewN 1;have D9:=D8.keep0 q9;have r49:=r48.keep q9 (by simp);have r89:=r88.keep q9 (by simp);have kk9:=kk8.trans q9;have h48:x8≠x4:=by
  have:=r46.lt;omega
 clear D8 r48 r88 kk8 q9;generalize w8.drewN 1=w9 at *;conv=>whnf
 repeat ((first|(refine RuQ.of (fun w hS=>run_ldaC (q:=arF (playA (fun _=>0) L)) hS Tryz.underlying28 rfl size_ar (by omega) (fun j hj=>by rw[Nat.zero_add])) ?_));conv=>whnf)
 refine Ru.sta r49 size_ar (by omega) (fun j hj=>arF_one _ j) ?_;intro w10 r410 k10;have r410:Row w10 x4 28 24 (arF (playA (fun _=>0) L)):=r410.congr (fun j hj=>by unfold lay;rw[if_pos (by omega),Nat.sub_zero]);refine Ru.ldaC (q:=arF (playA (fun _=>0) L)) r410 Tryz.underlying28 rfl size_ar (by omega) (fun j hj=>by rw[Nat.zero_add]) ?_;conv=>whnf
 exact⟨rfl,ch,d,own6,K6,P6,k6,rfl,⟨D9.away r49 (by decide) k10,PI.inv,PI.qu,PI.sh,hown6,kk9.then k10 (fun x hx=>.inr (by rw[List.mem_singleton.1 hx];exact hx4w))⟩,K0,P0,t0,k0,M0,I0,fa0,hz⟩
theorem begun_ok{w:World}{L:List Cl}{A:Option Addr}{cA:Nat}(hL:Rd w A (L.length*3) (clF L))(hw:∀c,c∈L->c.wf)(hn:L.length<=1048576) :
  Spec Tryz.prog 15 #[.slice A L.length cA] w fun v w'=>∃ch d own K P k,v=.tuple #[.pointer (some ⟨ch,0,none⟩),.pointer (some ⟨d,0,none⟩),agg 24 (arF (playA (fun _=>0) L))]/\Begun w w' ch d own K P k (2+2*L.length) (playA (fun _=>0) L) :=
 (begun_okC hL hw hn).mono fun v w' h=>by
  obtain⟨ch,d,own,K,P,k,e,B,-⟩:=h;exact⟨ch,d,own,K,P,k,e,B⟩
section
variable{w w':World}{own:List Nat}{d ch:Nat}{K:KS}{P:CS}{b:Option Nat}
theorem DvOn.chip(D:DvOn w own d ch K P b):∃C,ChipAt w ch C/\Abs C P/\C.left b:=by
 obtain⟨N,X,c,n,e,r,h,eC,hq⟩:=D;obtain⟨C,M,hA,hl⟩:=h.med;exact⟨C,by rw[<-eC];exact M.chip,hA,hl⟩
end
def inF(L:List Int)(q:Nat):Value:=.int .i64 (L.getD q 0)
theorem lst_mem{L:List Int}{i:Nat}(h:i<L.length):L.getD i 0∈L:=by
 rw[List.getD_eq_getElem?_getD,List.getElem?_eq_getElem h];exact List.getElem_mem h
section
variable{w w':World}{own:List Nat}{d ch:Nat}{K:KS}{P:CS}{b:Option Nat}{kk:Cp}{a':Nat->Nat->Nat}{ok:Value->KS->CS->Prop}{dead:Value->CS->Prop}
theorem doesw_write(D:DvOn w own d ch K P b){c:Cl}(hw:c.wf)(hk:c.kd<=2){a:Nat->Nat}
  (hcall:∀ {w1:World} {A:Option Addr} {e:Nat},DvOn w1 own d ch K P b->RdB w1 A 160 (byF c.n)->160<=e->Spec Tryz.prog 45 #[.pointer (some ⟨d,0,none⟩),.int .i64 c.of,.slice A 160 e] w1 fun v w'=>DvFin own d ch b w1 w' (ok v) (dead v)) :
  Spec Tryz.prog 19 #[.pointer (some ⟨d,0,none⟩),agg 24 (arF a),agg 3 c.cell] w fun v w'=>∃u,v=.tuple #[agg 24 (arF (updf a c.of c.n)),.slice none 0 0,u]/\DvFin own d ch b w w' (ok u) (dead u):=by
 have hof:=c.of_lt;have hn:=c.n_lt;have e1:someN c.a 24=c.of:=rfl;have e2:1+someN c.x 1000000=c.n:=rfl;have e3:someN c.kind 6=c.kd:=rfl;refine spec_of_wpE (T:=tt) tt_ok Tryz.func19 rfl (by decide +kernel) Tryz.ntmps19 (by simp) ?_;conv=>whnf
 refine Ru.boxa ?_;intro x4 w1 hx4 hs1 r4 k1;conv=>whnf
 refine Ru.boxa ?_;intro x5 w2 hx5 hs2 r5 k2;conv=>whnf
 refine Ru.alloca (alloc_ar w2) ?_;intro x6 w3 hx6 hs3 r6 k3;have r43:=r4.keep (k2.trans k3) (by simp);have r53:=r5.keep k3 (by simp);have kk3:=(k1.trans k2).trans k3;have D3:=D.keep0 kk3;have hx4w:w.heap.size<=x4:=by omega
 have hx6w:w.heap.size<=x6:=by omega
 have h46:x4≠x6:=by omega
 clear r4 r5 k1 k2 k3 hs1 hs2 hs3 hx4 hx5 hx6 w1 w2 D;have c0:w3.cell? ⟨x5,0,none⟩=some (.int .i64 c.kind):=r53.cell 0 (by omega);have c1:w3.cell? ⟨x5,1,none⟩=some (.int .i64 c.a):=r53.cell 1 (by omega);have c2:w3.cell? ⟨x5,2,none⟩=some (.int .i64 c.x):=r53.cell 2 (by omega);conv=>whnf
 repeat ((first|(refine Ld.at (by omega) c1 ?_));conv=>whnf)
 refine Ca.of (some_ok c.a 24 hw.2.1 (by omega) w3) ?_;rintro _ _ ⟨rfl,rfl⟩;rw[e1];conv=>whnf
 repeat ((first|(refine Ld.at (by omega) c2 ?_));conv=>whnf)
 refine Ca.of (some_ok c.x 1000000 hw.2.2 (by omega) w3) ?_;rintro _ _ ⟨rfl,rfl⟩;have e2':(1:Int)+((someN c.x 1000000:Nat):Int)=(c.n:Nat):=by rw[<-e2];omega
 have hb:=someN_lt c.x (n:=1000000) (by omega);conv=>whnf
 repeat ((first|(refine Ld.at (by omega) c0 ?_)|refine Ar.la ?_|refine CW.s ?_);conv=>whnf)
 rw[e2'];refine Ca.of (some_ok c.kind 6 hw.1 (by omega) w3) ?_;rintro _ _ ⟨rfl,rfl⟩;rw[e3];have hk3:c.kd=0\/c.kd=1\/c.kd=2:=by omega
 rcases hk3 with h|h|h
 all_goals
  rw[h];conv=>whnf
  repeat ((first|(refine Ix.of c.of (by omega) (by omega) ?_)|refine Br.t ?_|refine Br.f ?_|refine CW.s ?_);conv=>whnf)
  rw[show 0+0+c.of=c.of by omega];refine Sd.rowAt r43 c.of (by omega) (by omega) rfl ?_;intro w4 r44 k4;have r44:Row w4 x4 28 24 (arF (updf a c.of c.n)):=r44.congr (fun j hj=>put_ar a c.of c.n j);have D4:=D3.away r43 (by decide) k4;have r64:=r6.keep k4 (by simpa using h46.symm);have kk4:=kk3.fresh hx4w k4;have hs4:=kk4.size;clear D3 r43 r6 k4 kk3 c0 c1 c2 r53;conv=>whnf
  refine CW.held (fun w'=>Row w' x4 28 24 (arF (updf a c.of c.n))) [] (.take 0 (.take 1 (.take 2 (.take 3 (.one 4 (.one 5 (.one 6 (.take 7 (.take 8 (.done)))))))))) tt_ok (by kernel_rfl) (by kernel_rfl) (by kernel_rfl) ?_ ?_
  ·exact Row.drewN r44 1
  have q4:=(Keep.refl [] w4).drewN 1;have D5:=D4.keep0 q4;have r45:=r44.keep q4 (by simp);have r65:=r64.keep q4 (by simp);have kk5:=kk4.trans q4;clear D4 r44 r64 kk4 q4;generalize w4.drewN 1=w5 at *;conv=>whnf
  repeat ((first|(refine RuQ.of (fun w hS=>run_ldaC (q:=arF (updf a c.of c.n)) hS Tryz.underlying28 rfl size_ar (by omega) (fun j hj=>by rw[Nat.zero_add])) ?_));conv=>whnf)
  refine Ca.of (tbytes_ok c.n (by omega) w5) ?_;rintro _ w6 ⟨g,rfl,hg,rg,k6⟩;have D6:=D5.keep0 k6;have r46:=r45.keep k6 (by simp);have r66:=r65.keep k6 (by simp);have kk6:=kk5.trans k6;clear D5 r45 r65 kk5 k6 hg;refine⟨r46,?_⟩;conv=>whnf
  refine Ca.of (hcall D6 (Rd.of_row rg (n:=160) (by omega)) (by omega)) ?_;rintro u w7 ⟨k7,hr7⟩;have r47:=r46.keep k7 (D6.far r46 (by decide));have r67:=r66.keep k7 (D6.far r66 (by decide));have hs6:=kk6.size;have hlt:=D6.own_lt;refine⟨r47,?_⟩;conv=>whnf
  refine Ru.sta r67 size_ar (by omega) (fun j hj=>arF_one _ j) ?_;intro w8 r68 k8;have r68:Row w8 x6 28 24 (arF (updf a c.of c.n)):=r68.congr (fun j hj=>by unfold lay;rw[if_pos (by omega),Nat.sub_zero]);refine⟨r47.keep k8 (by simpa using h46),?_⟩;conv=>whnf
  refine Ru.ldaC (q:=arF (updf a c.of c.n)) r68 Tryz.underlying28 rfl size_ar (by omega) (fun j hj=>by rw[Nat.zero_add]) ?_;conv=>whnf
  have hx6o:=D6.far r66 (by decide);have hio:=D6.in_own;refine⟨rfl,u,rfl,((kk6.mono (T:=own) (by simp)).trans k7).then k8 (fun x hx=>.inr (by rw[List.mem_singleton.1 hx];exact hx6w)),?_⟩;rcases hr7 with⟨K7,P7,b7,own',hb7,D7,h7,hok⟩|⟨hb7,Q,hoff,hd7⟩
  ·refine .inl ⟨K7,P7,b7,own',hb7,D7.away r67 (by decide) k8,fun x hx=>?_,hok⟩;rcases h7 x hx with h|h
   ·exact .inl h
   ·exact .inr (Nat.le_trans hs6 h)
  ·exact .inr ⟨hb7,Q,hoff.keep k8 (fun hm=>hx6o (by rw[<-List.mem_singleton.1 hm];exact hio.1)) (fun hm=>hx6o (by rw[<-List.mem_singleton.1 hm];exact hio.2)),hd7⟩
theorem doesw_trim(D:DvOn w own d ch K P b){c:Cl}(hw:c.wf)(hk:c.kd=3){a:Nat->Nat}
  (hcall:∀ {w1:World},DvOn w1 own d ch K P b->Spec Tryz.prog 17 #[.pointer (some ⟨d,0,none⟩),.int .i64 c.of] w1 fun v w'=>DvFin own d ch b w1 w' (ok v) (dead v)) :
  Spec Tryz.prog 19 #[.pointer (some ⟨d,0,none⟩),agg 24 (arF a),agg 3 c.cell] w fun v w'=>∃u,v=.tuple #[agg 24 (arF (updf a c.of 0)),.slice none 0 0,u]/\DvFin own d ch b w w' (ok u) (dead u):=by
 have hof:=c.of_lt;have hn:=c.n_lt;have e1:someN c.a 24=c.of:=rfl;have e2:1+someN c.x 1000000=c.n:=rfl;have e3:someN c.kind 6=c.kd:=rfl;refine spec_of_wpE (T:=tt) tt_ok Tryz.func19 rfl (by decide +kernel) Tryz.ntmps19 (by simp) ?_;conv=>whnf
 refine Ru.boxa ?_;intro x4 w1 hx4 hs1 r4 k1;conv=>whnf
 refine Ru.boxa ?_;intro x5 w2 hx5 hs2 r5 k2;conv=>whnf
 refine Ru.alloca (alloc_ar w2) ?_;intro x6 w3 hx6 hs3 r6 k3;have r43:=r4.keep (k2.trans k3) (by simp);have r53:=r5.keep k3 (by simp);have kk3:=(k1.trans k2).trans k3;have D3:=D.keep0 kk3;have hx4w:w.heap.size<=x4:=by omega
 have hx6w:w.heap.size<=x6:=by omega
 have h46:x4≠x6:=by omega
 clear r4 r5 k1 k2 k3 hs1 hs2 hs3 hx4 hx5 hx6 w1 w2 D;have c0:w3.cell? ⟨x5,0,none⟩=some (.int .i64 c.kind):=r53.cell 0 (by omega);have c1:w3.cell? ⟨x5,1,none⟩=some (.int .i64 c.a):=r53.cell 1 (by omega);have c2:w3.cell? ⟨x5,2,none⟩=some (.int .i64 c.x):=r53.cell 2 (by omega);conv=>whnf
 repeat ((first|(refine Ld.at (by omega) c1 ?_));conv=>whnf)
 refine Ca.of (some_ok c.a 24 hw.2.1 (by omega) w3) ?_;rintro _ _ ⟨rfl,rfl⟩;rw[e1];conv=>whnf
 repeat ((first|(refine Ld.at (by omega) c2 ?_));conv=>whnf)
 refine Ca.of (some_ok c.x 1000000 hw.2.2 (by omega) w3) ?_;rintro _ _ ⟨rfl,rfl⟩;have e2':(1:Int)+((someN c.x 1000000:Nat):Int)=(c.n:Nat):=by rw[<-e2];omega
 have hb:=someN_lt c.x (n:=1000000) (by omega);conv=>whnf
 repeat ((first|(refine Ld.at (by omega) c0 ?_)|refine Ar.la ?_|refine CW.s ?_);conv=>whnf)
 rw[e2'];refine Ca.of (some_ok c.kind 6 hw.1 (by omega) w3) ?_;rintro _ _ ⟨rfl,rfl⟩;rw[e3];rw[hk];conv=>whnf
 repeat ((first|(refine Ix.of c.of (by omega) (by omega) ?_)|refine Br.t ?_|refine Br.f ?_|refine CW.s ?_);conv=>whnf)
 rw[show 0+0+c.of=c.of by omega];refine Sd.rowAt r43 c.of (by omega) (by omega) rfl ?_;intro w4 r44 k4;have r44:Row w4 x4 28 24 (arF (updf a c.of 0)):=r44.congr (fun j hj=>put_ar a c.of 0 j);have D4:=D3.away r43 (by decide) k4;have r64:=r6.keep k4 (by simpa using h46.symm);have kk4:=kk3.fresh hx4w k4;have hs4:=kk4.size;clear D3 r43 r6 k4 kk3 c0 c1 c2 r53;conv=>whnf
 refine CW.held (fun w'=>Row w' x4 28 24 (arF (updf a c.of 0))) [] (.take 0 (.take 1 (.take 2 (.one 3 (.one 4 (.take 5 (.take 6 (.done)))))))) tt_ok (by kernel_rfl) (by kernel_rfl) (by kernel_rfl) ?_ ?_
 ·exact Row.drewN r44 1
 have q4:=(Keep.refl [] w4).drewN 1;have D5:=D4.keep0 q4;have r45:=r44.keep q4 (by simp);have r65:=r64.keep q4 (by simp);have kk5:=kk4.trans q4;clear D4 r44 r64 kk4 q4;generalize w4.drewN 1=w6 at *;conv=>whnf
 repeat ((first|(refine RuQ.of (fun w hS=>run_ldaC (q:=arF (updf a c.of 0)) hS Tryz.underlying28 rfl size_ar (by omega) (fun j hj=>by rw[Nat.zero_add])) ?_));conv=>whnf)
 have D6:=D5;have r46:=r45;have r66:=r65;have kk6:=kk5;clear D5 r45 r65 kk5;refine Ca.of (hcall D6) ?_;rintro u w7 ⟨k7,hr7⟩;have r47:=r46.keep k7 (D6.far r46 (by decide));have r67:=r66.keep k7 (D6.far r66 (by decide));have hs6:=kk6.size;have hlt:=D6.own_lt;refine⟨r47,?_⟩;conv=>whnf
 refine Ru.sta r67 size_ar (by omega) (fun j hj=>arF_one _ j) ?_;intro w8 r68 k8;have r68:Row w8 x6 28 24 (arF (updf a c.of 0)):=r68.congr (fun j hj=>by unfold lay;rw[if_pos (by omega),Nat.sub_zero]);refine⟨r47.keep k8 (by simpa using h46),?_⟩;conv=>whnf
 refine Ru.ldaC (q:=arF (updf a c.of 0)) r68 Tryz.underlying28 rfl size_ar (by omega) (fun j hj=>by rw[Nat.zero_add]) ?_;conv=>whnf
 have hx6o:=D6.far r66 (by decide);have hio:=D6.in_own;refine⟨rfl,u,rfl,((kk6.mono (T:=own) (by simp)).trans k7).then k8 (fun x hx=>.inr (by rw[List.mem_singleton.1 hx];exact hx6w)),?_⟩;rcases hr7 with⟨K7,P7,b7,own',hb7,D7,h7,hok⟩|⟨hb7,Q,hoff,hd7⟩
 ·refine .inl ⟨K7,P7,b7,own',hb7,D7.away r67 (by decide) k8,fun x hx=>?_,hok⟩;rcases h7 x hx with h|h
  ·exact .inl h
  ·exact .inr (Nat.le_trans hs6 h)
 ·exact .inr ⟨hb7,Q,hoff.keep k8 (fun hm=>hx6o (by rw[<-List.mem_singleton.1 hm];exact hio.1)) (fun hm=>hx6o (by rw[<-List.mem_singleton.1 hm];exact hio.2)),hd7⟩
theorem doesw_read(D:DvOn w own d ch K P b){c:Cl}(hw:c.wf)(hk:4<=c.kd){a:Nat->Nat}
  (hcall:∀ {w1:World},DvOn w1 own d ch K P b->Spec Tryz.prog 22 #[.pointer (some ⟨d,0,none⟩),.int .i64 c.of] w1 fun v w'=>ReEnd a' c.of K P own d ch b w1 v w') :
  Spec Tryz.prog 19 #[.pointer (some ⟨d,0,none⟩),agg 24 (arF a),agg 3 c.cell] w fun v w'=>DvFin own d ch b w w' (fun K' P'=>(∃(Y:Option Addr) (e:Nat) (f:Nat->Nat),v=.tuple #[agg 24 (arF a),.slice Y 160 e,errOf 0]/\Ly w' 5 1 Y 160 e (fun j=>.int .u8 (f j:Nat))/\(∀x,x∈blk Y->w.heap.size<=x)/\∀j,j<160->f j=a' c.of j)/\CallW a' K P K' P') (fun Q=>v=.tuple #[agg 24 (arF a),.slice none 0 0,errOf 7]/\Tw Q 1099511627775 a'):=by
 have hof:=c.of_lt;have hn:=c.n_lt;have e1:someN c.a 24=c.of:=rfl;have e2:1+someN c.x 1000000=c.n:=rfl;have e3:someN c.kind 6=c.kd:=rfl;refine spec_of_wpE (T:=tt) tt_ok Tryz.func19 rfl (by decide +kernel) Tryz.ntmps19 (by simp) ?_;conv=>whnf
 refine Ru.boxa ?_;intro x4 w1 hx4 hs1 r4 k1;conv=>whnf
 refine Ru.boxa ?_;intro x5 w2 hx5 hs2 r5 k2;conv=>whnf
 refine Ru.alloca (alloc_ar w2) ?_;intro x6 w3 hx6 hs3 r6 k3;have r43:=r4.keep (k2.trans k3) (by simp);have r53:=r5.keep k3 (by simp);have kk3:=(k1.trans k2).trans k3;have D3:=D.keep0 kk3;have hx4w:w.heap.size<=x4:=by omega
 have hx6w:w.heap.size<=x6:=by omega
 have h46:x4≠x6:=by omega
 clear r4 r5 k1 k2 k3 hs1 hs2 hs3 hx4 hx5 hx6 w1 w2 D;have c0:w3.cell? ⟨x5,0,none⟩=some (.int .i64 c.kind):=r53.cell 0 (by omega);have c1:w3.cell? ⟨x5,1,none⟩=some (.int .i64 c.a):=r53.cell 1 (by omega);have c2:w3.cell? ⟨x5,2,none⟩=some (.int .i64 c.x):=r53.cell 2 (by omega);conv=>whnf
 repeat ((first|(refine Ld.at (by omega) c1 ?_));conv=>whnf)
 refine Ca.of (some_ok c.a 24 hw.2.1 (by omega) w3) ?_;rintro _ _ ⟨rfl,rfl⟩;rw[e1];conv=>whnf
 repeat ((first|(refine Ld.at (by omega) c2 ?_));conv=>whnf)
 refine Ca.of (some_ok c.x 1000000 hw.2.2 (by omega) w3) ?_;rintro _ _ ⟨rfl,rfl⟩;have e2':(1:Int)+((someN c.x 1000000:Nat):Int)=(c.n:Nat):=by rw[<-e2];omega
 have hb:=someN_lt c.x (n:=1000000) (by omega);conv=>whnf
 repeat ((first|(refine Ld.at (by omega) c0 ?_)|refine Ar.la ?_|refine CW.s ?_);conv=>whnf)
 rw[e2'];refine Ca.of (some_ok c.kind 6 hw.1 (by omega) w3) ?_;rintro _ _ ⟨rfl,rfl⟩;rw[e3];have hlt6:c.kd<6:=someN_lt _ (by omega);have hk3:c.kd=4\/c.kd=5:=by omega
 rcases hk3 with h|h
 all_goals
  rw[h];conv=>whnf
  repeat ((first|refine Br.f ?_|refine CW.s ?_);conv=>whnf)
  refine Ca.of (hcall D3) ?_;rintro u w7 ⟨k7,hr7⟩;have r47:=r43.keep k7 (D3.far r43 (by decide));have r67:=r6.keep k7 (D3.far r6 (by decide));have hx6o:=D3.far r6 (by decide);have hio:=D3.in_own;have hlt:=D3.own_lt;have hs3:=kk3.size;have hs7:=k7.size;have hx6l:=r6.lt;have fin:∀w8,Keep [x6] w7 w8->Keep own w w8:=fun w8 k8=>((kk3.mono (T:=own) (by simp)).trans k7).then k8 (fun x hx=>.inr (by rw[List.mem_singleton.1 hx];exact hx6w));rcases hr7 with⟨K7,P7,b7,own',hb7,D7,h7,⟨Y,e,f,rfl,hY,hYn,hf⟩,hC⟩|⟨hb7,Q,hoff,rfl,htw⟩
  ·conv=>whnf
   refine Ru.ldaC (q:=arF a) r47 Tryz.underlying28 rfl size_ar (by omega) (fun j hj=>by rw[Nat.zero_add]) ?_;conv=>whnf
   refine Ru.sta r67 size_ar (by omega) (fun j hj=>arF_one _ j) ?_;intro w8 r68 k8;have r68:Row w8 x6 28 24 (arF a):=r68.congr (fun j hj=>by unfold lay;rw[if_pos (by omega),Nat.sub_zero]);conv=>whnf
   refine Ru.ldaC (q:=arF a) r68 Tryz.underlying28 rfl size_ar (by omega) (fun j hj=>by rw[Nat.zero_add]) ?_;conv=>whnf
   refine⟨rfl,fin w8 k8,.inl ⟨K7,P7,b7,own',hb7,D7.away r67 (by decide) k8,fun x hx=>?_,⟨Y,e,f,rfl,hY.keep k8 (fun x hx hm=>?_),fun x hx=>Nat.le_trans hs3 (hYn x hx),hf⟩,hC⟩⟩
   ·rcases h7 x hx with h|h
    ·exact .inl h
    ·exact .inr (Nat.le_trans hs3 h)
   ·have:=hYn x hx;rw[List.mem_singleton.1 hm] at this;omega
  ·conv=>whnf
   refine Ru.ldaC (q:=arF a) r47 Tryz.underlying28 rfl size_ar (by omega) (fun j hj=>by rw[Nat.zero_add]) ?_;conv=>whnf
   refine Ru.sta r67 size_ar (by omega) (fun j hj=>arF_one _ j) ?_;intro w8 r68 k8;have r68:Row w8 x6 28 24 (arF a):=r68.congr (fun j hj=>by unfold lay;rw[if_pos (by omega),Nat.sub_zero]);conv=>whnf
   refine Ru.ldaC (q:=arF a) r68 Tryz.underlying28 rfl size_ar (by omega) (fun j hj=>by rw[Nat.zero_add]) ?_;conv=>whnf
   exact⟨rfl,fin w8 k8,.inr ⟨hb7,Q,hoff.keep k8 (fun hm=>hx6o (by rw[<-List.mem_singleton.1 hm];exact hio.1)) (fun hm=>hx6o (by rw[<-List.mem_singleton.1 hm];exact hio.2)),rfl,htw⟩⟩
inductive DsW (a:Nat->Nat) (c:Cl) (K:KS) (P:CS) (w w':World) (v:Value) (K':KS) (P':CS):Prop
 |done:c.kd<=3->v=.tuple #[agg 24 (arF (c.arr a)),.slice none 0 0,errOf 0]->CallW (arB (c.arr a)) K P K' P'->DsW a c K P w w' v K' P'
 |not:c.kd<=3->v=.tuple #[agg 24 (arF (c.arr a)),.slice none 0 0,errOf 14]->CallW (arB a) K P K' P'->(Rm0 K P->K.next+120<=1099511627775->False)->DsW a c K P w w' v K' P'
 |read {Y:Option Addr} {e:Nat} {f:Nat->Nat}:4<=c.kd->v=.tuple #[agg 24 (arF a),.slice Y 160 e,errOf 0]->Ly w' 5 1 Y 160 e (fun j=>.int .u8 (f j:Nat))->(∀x,x∈blk Y->w.heap.size<=x)->(∀j,j<160->f j=arB a c.of j)->CallW (arB a) K P K' P'->DsW a c K P w w' v K' P'
theorem doesw_ok(D:DvOn w own d ch K P b){c:Cl}(hw:c.wf){a:Nat->Nat}(W:Wi (arB a) kk K P) :
  Spec Tryz.prog 19 #[.pointer (some ⟨d,0,none⟩),agg 24 (arF a),agg 3 c.cell] w fun v w'=>DvFin own d ch b w w' (DsW a c K P w w' v) (fun Q=>v=.tuple #[agg 24 (arF (c.arr a)),.slice none 0 0,errOf 7]/\(Tw Q 1099511627775 (arB a)\/Tw Q 1099511627775 (arB (c.arr a)))):=by
 by_cases h1:c.kd<=2
 ·have e:c.arr a=updf a c.of c.n:=if_pos h1;refine(doesw_write D hw h1 (fun D1 hA he=>dwritew_ok D1 W c.of_lt (byF_lt _) hA he)).mono ?_;rintro v w' ⟨u,rfl,hu⟩;rw[arB_set] at hu;rw[e];refine hu.mono (fun K' P' h=>?_) (fun Q h=>?_)
  ·rcases h with⟨rfl,h⟩|⟨rfl,h,hr⟩
   ·exact .done (by omega) (by rw[e]) (by rw[e];exact h)
   ·exact .not (by omega) (by rw[e]) h hr
  ·obtain⟨rfl,h⟩:=h;exact⟨rfl,h⟩
 ·by_cases h3:c.kd=3
  ·have e:c.arr a=updf a c.of 0:=by
    unfold Cl.arr;rw[if_neg h1,if_pos h3]
   refine(doesw_trim D hw h3 (fun D1=>dtrimw_ok D1 W c.of_lt)).mono ?_;rintro v w' ⟨u,rfl,hu⟩;have e0:setA (arB a) c.of (fun _=>0)=arB (updf a c.of 0):=arB_set a c.of 0;rw[e0] at hu;rw[e];refine hu.mono (fun K' P' h=>?_) (fun Q h=>?_)
   ·rcases h with⟨rfl,h⟩|⟨rfl,h,hr⟩
    ·exact .done (by omega) (by rw[e]) (by rw[e];exact h)
    ·exact .not (by omega) (by rw[e]) h hr
   ·obtain⟨rfl,h⟩:=h;exact⟨rfl,h⟩
  ·have e:c.arr a=a:=by
    unfold Cl.arr;rw[if_neg h1,if_neg h3]
   refine(doesw_read D hw (by omega) (fun D1=>dreadw_ok D1 W c.of_lt)).mono ?_;rintro v w' hu;rw[e];refine hu.mono (fun K' P' h=>?_) (fun Q h=>?_)
   ·obtain⟨⟨Y,e',f,rfl,h2,h3',h4⟩,h5⟩:=h;exact .read (by omega) rfl h2 h3' h4 h5
   ·exact⟨h.1,.inl h.2⟩
end
end
end Go.Proofs.YtaeikigfgfcadaaGreat
