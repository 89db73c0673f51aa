/- Texts behind one another: Vacate, Open, LayF, PutF, Pl1, Pl2, Pl3, Pl4, Pl5, Get, Tend1, Tend2, Trim, Pl6, Pl7, Pl8, Pl9, Found, New, Mp. -/
import Derived.Test.YtaeikigfgfcadaaGreatMq0a
import Derived.Test.YtaeikigfgfcadaaGreatMq0b
import Derived.Test.YtaeikigfgfcadaaGreatMq0c
import Derived.Test.YtaeikigfgfcadaaGreatMq0d
namespace Go.Proofs.YtaeikigfgfcadaaGreat
set_option maxHeartbeats 8000000
set_option maxRecDepth 20000
set_option linter.unusedVariables false
set_option linter.unusedSimpArgs false
set_option linter.unnecessarySimpa false
section
open Go.RowKit
def vc0(K:KS)(v:Nat):KS:=if (if K.fo then (K.fb:Int) else -1)=v then shK K else K
def vc1(K:KS)(v d:Nat):KS:={ vc0 K v with st:=updf (vc0 K v).st d 1,pn:=d+1 }
def vcS(K:KS)(P:CS)(v d:Nat):Cy:=cpTo (vc1 K v d) P d (ofL (vc1 K v d).ow v)
def vc2(K:KS)(v:Nat):KS:={ K with st:=setSt K.st v 0,F:=Hl.erF K.F v }
def vcK(K:KS)(P:CS)(v d:Nat):KS:=endK (vc2 (vcS K P v d).K v) d (vcS K P v d).l
def vcP(K:KS)(P:CS)(v d:Nat):CS:=(vcS K P v d).P.wipe v
def vcT(K:KS)(P:CS)(v d:Nat):List CS:=(vcS K P v d).tr++[(vcS K P v d).P]
structure VcHyp(K:KS)(P:CS)(v d:Nat):Prop where
 bad:cntS (vc0 K v).st 3=0
 pn:(vc0 K v).pn<=12
 fb:K.fb<12
 fi:K.fi<=8
 tk:takeN (vc0 K v).st (vc0 K v).pn=some d
 cp:CpHyp (vc1 K v d) P v d
 mw:∀i,i<(vcS K P v d).l.length->MapWf (mvTo (vc2 (vcS K P v d).K v) ((vcS K P v d).l.take i)).at_ (mvTo (vc2 (vcS K P v d).K v) ((vcS K P v d).l.take i)).ow
theorem cpTo_tags{K:KS}{P:CS}{d:Nat}(hb:Hl.HB K.F)(hc:P.calm)(hd:d<12)(hat:∀o,o<25->K.at_ o<=96)(os:List Nat)(ho:∀o,o∈os->o<25/\K.at_ o≠0)(h8:os.length<=8)(t:Tg)(ht:t∈(cpTo K P d os).l):∃i,∃h:i<os.length,t=cpTag K d i os[i]:=by
 induction os using snoc_rec with
 |h0=>cases ht
 | h1 os o ih =>
  have h7:os.length<=8:=by simp at h8;omega
  have ho':∀x,x∈os->x<25/\K.at_ x≠0:=fun x hx=>ho x (List.mem_append_left _ hx);have hi:=cpTo_inv hb hc hd hat os ho' h7;rw[cpTo_snoc] at ht;unfold cpStep at ht;simp only at ht;rcases List.mem_append.1 ht with h|h
  ·obtain⟨i,hi,e⟩:=ih ho' h7 h;exact⟨i,by simp;omega,by rw[List.getElem_append_left hi];exact e⟩
  ·obtain⟨F,hF⟩:=hi.same;refine⟨os.length,by simp,?_⟩;rw[List.mem_singleton.1 h,hi.len];simp only[List.getElem_append_right (Nat.le_refl _),Nat.sub_self,List.getElem_singleton];unfold cpTag;rw[hF]
section
variable{w w':World}{N:Cr}{K:KS}{X:Option Addr}{c:Nat}{P:CS}{b:Option Nat}{n:Int}
theorem vacate_ok(h:On w N K P b n X c){v d:Nat}(H:VcHyp K P v d) :
  Spec Tryz.prog 102 #[.pointer (some ⟨N.k,0,none⟩),.int .i64 v,.bool false,.bool false] w fun u w' =>
   EndsX N X c (vcK K P v d) (vcP K P v d) b (vcT K P v d) w w' (u=errOf 0) (u=errOf 7):=by
 refine spec_of_wpE (T:=tt) tt_ok Tryz.func102 rfl (by decide +kernel) Tryz.ntmps102 (by simp) ?_;conv=>whnf
 refine CW.cut (ι:=Unit) (fun _ w'=>On w' N (vc0 K v) P b n X c/\Keep N.all w w') (fun _=>[(0,.pointer (some ⟨N.k,0,none⟩)),(1,.int .i64 v),(2,.bool false),(3,.bool false)]) tt_ok ?_ ?_
 ·conv=>whnf
  repeat ((first|(refine Ld.of h.core.c3 ?_));conv=>whnf)
  refine Ca.of (fblock_ok h.core.front) ?_;rintro _ _ ⟨rfl,rfl⟩;have fb:=H.fb;unfold vc0;by_cases hv:(if K.fo=true then (K.fb:Int) else -1)=v
  ·rw[if_pos hv,hv];conv=>whnf
   repeat ((first|refine Br.y ?_);conv=>whnf)
   refine Ca.of (shut_ok h fb) ?_;rintro _ w2 ⟨rfl,h2,k2⟩;conv=>whnf
   exact⟨(),⟨h2,k2⟩,⟨rfl,rfl,rfl,rfl,trivial⟩⟩
  ·rw[if_neg hv];conv=>whnf
   repeat ((first|(refine Br.isnt (decide_eq_false hv) ?_));conv=>whnf)
   exact⟨(),⟨h,Keep.refl _ _⟩,⟨rfl,rfl,rfl,rfl,trivial⟩⟩
 rintro _ w1 ⟨h1,k1⟩;have hbad:=H.bad;have hpn:=H.pn;have htk:=H.tk;have hwo:wornB (vc0 K v).st=false:=by
  unfold wornB;rw[hbad];rfl
 refine CW.loop (ι:=Unit) (fun _ w'=>w'=w1) (fun _=>[(0,.pointer (some ⟨N.k,0,none⟩)),(1,.int .i64 v),(2,.bool false),(3,.bool false)]) (fun _=>0) () tt_ok rfl ⟨rfl,rfl,rfl,rfl,trivial⟩ ?_;rintro _ wr rfl;conv=>whnf
 repeat ((first|(refine Ld.of h1.core.c1 ?_));conv=>whnf)
 refine Ca.of (count_ok h1.core.pool 3) ?_;rintro _ _ ⟨rfl,rfl⟩;rw[hbad];conv=>whnf
 repeat ((first|(refine Ld.of h1.core.c1 ?_)|refine Br.f ?_|refine Pk.f ?_|refine CW.s ?_);conv=>whnf)
 refine Ca.of (worn_ok h1.core.pool) ?_;rintro _ _ ⟨rfl,rfl⟩;rw[hwo];conv=>whnf
 repeat ((first|(refine Ld.of h1.core.c1 ?_)|refine Br.f ?_|refine Pk.f ?_);conv=>whnf)
 refine Ca.of (ptake_ok h1.core.pool hpn) ?_;intro u w2 hu;unfold TakeEnd at hu;rw[htk] at hu;obtain⟨rfl,r2,k2⟩:=hu;have h2:On w2 N (vc1 K v d) P b n X c:=h1.pool k2 r2;have kk2:=k1.trans (Keep.of1 (by simp[Cr.own]) k2);conv=>whnf
 repeat ((first|refine Br.f ?_|refine Ru.neq_nil0 ?_|refine CW.s ?_);conv=>whnf)
 refine Ca.of (ccopies_ok h2 H.cp) ?_;rintro _ w3 ⟨k3,hr3⟩;have kk3:=kk2.trans k3;have hmw:=H.mw;have hinv:=cpTo_inv H.cp.hb H.cp.calm H.cp.hd H.cp.at96 (ofL (vc1 K v d).ow v) (fun o ho=>⟨by have:=(H.cp.live o ho).1;omega,(H.cp.live o ho).2.1⟩) (ofL_le _ _);have hlen:=hinv.len;have hL8:=ofL_le (vc1 K v d).ow v;have hcalm:=hinv.calm;obtain⟨F,hsame⟩:=hinv.same;have hv12:=H.cp.hv;have hd12:=H.cp.hd;unfold vcK vcP vcT;unfold vcS at hmw ⊢;have hfb:(cpTo (vc1 K v d) P d (ofL (vc1 K v d).ow v)).K.fb<12/\(cpTo (vc1 K v d) P d (ofL (vc1 K v d).ow v)).K.fi<=8:=by
  rw[hsame];show(vc0 K v).fb<12/\(vc0 K v).fi<=8;have:=H.fb;have:=H.fi;unfold vc0 shK;split
  ·split
   ·exact⟨by simp only;omega,by simp only;omega⟩
   ·exact⟨H.fb,H.fi⟩
  ·exact⟨H.fb,H.fi⟩
 have htags:∀t,t∈(cpTo (vc1 K v d) P d (ofL (vc1 K v d).ow v)).l->(0<=t.of/\t.of<=24)/\0<=t.place/\t.place<96:=fun t ht=>by
  obtain⟨i,hi,rfl⟩:=cpTo_tags H.cp.hb H.cp.calm H.cp.hd H.cp.at96 _ (fun o ho=>⟨by have:=(H.cp.live o ho).1;omega,(H.cp.live o ho).2.1⟩) (ofL_le _ _) t ht;have:=H.cp.ok i hi;unfold Tg.ok at this;omega
 generalize cpTo (vc1 K v d) P d (ofL (vc1 K v d).ow v)=S at *;rcases hr3 with⟨hf3,⟨Z,cz,rfl,hz,hZ⟩,n3,h3⟩|⟨y,hy,hyb,rfl,n3,h3⟩
 ·conv=>whnf
  repeat ((first|(refine Ld.of h3.core.c0 ?_)|refine Br.t ?_|refine Pk.t ?_|refine Ru.eql_nil0 ?_|refine CW.s ?_);conv=>whnf)
  refine Ca.of (aerase_ok h3.med (B:=v) hv12) ?_;rintro _ w4 ⟨k4,hr4⟩;have kk4:=kk3.trans (k4.mono (fun x hx=>in_all_l (by rw[List.mem_singleton.1 hx];simp[Pt.l])));have z4:=hz.keep (k4.mono (T:=N.all) (fun x hx=>in_all_l (by rw[List.mem_singleton.1 hx];simp[Pt.l]))) (h3.tagsApart hz);rw[CS.erase_calm hcalm] at hr4;rcases hr4 with⟨hf4,rfl,M4⟩|⟨y,hy,hyb,rfl,M4⟩
  ·have h4:=h3.chip (k4.mono (fun x hx=>by rw[List.mem_singleton.1 hx];simp[Pt.l])) M4;conv=>whnf
   repeat ((first|(refine Ld.of h4.core.c1 ?_)|refine Br.t ?_|refine Ru.eql_nil0 ?_|refine CW.s ?_);conv=>whnf)
   refine Ca.of (pset_ok h4.core.pool v 0 hv12 (by omega)) ?_;rintro _ w5 ⟨⟨e,rfl⟩,r5,k5⟩;have h5:=h4.pool k5 r5;have z5:=z4.keep (Keep.of1 (by simp[Cr.own]) k5) (h4.tagsApart z4);conv=>whnf
   repeat ((first|(refine Ld.of h5.core.c4 ?_));conv=>whnf)
   refine Ca.of (Hl.erased_ok w5 N.e _ h5.core.health v hv12) ?_;rintro _ w6 ⟨rfl,r6,k6⟩;have h6:On w6 N (vc2 S.K v) (S.P.wipe v) (less (less b S.tr.length) 1) n3 X c:=h5.health k6 r6;have z6:=z5.keep (Keep.of1 (by simp[Cr.own]) k6) (h5.tagsApart z5);have kk6:=(kk4.trans (Keep.of1 (by simp[Cr.own]) k5)).trans (Keep.of1 (by simp[Cr.own]) k6);conv=>whnf
   refine Ca.of (ends_ok h6 hd12 z6 (by omega) htags hmw hfb.1 hfb.2) ?_;rintro _ w7 ⟨rfl,h7,k7⟩;conv=>whnf
   exact⟨rfl,kk6.trans k7,Runs.then hf3 (.inl ⟨hf4,rfl,n3,h7⟩)⟩
  ·conv=>whnf
   repeat ((first|refine Br.f ?_|refine Ru.e1 ?_|refine CW.s ?_);conv=>whnf)
   refine Ca.of (eis_ok 7 8 (by decide) w4) ?_;rintro _ _ ⟨rfl,rfl⟩;conv=>whnf
   repeat ((first|refine Br.f ?_|refine Ru.e1 ?_|refine CW.s ?_);conv=>whnf)
   refine Ca.of (eis_ok 7 8 (by decide) w4) ?_;rintro _ _ ⟨rfl,rfl⟩;conv=>whnf
   repeat ((first|refine Br.t ?_);conv=>whnf)
   exact⟨rfl,kk4,Runs.then hf3 (.inr ⟨y,hy,hyb,rfl,n3,M4⟩)⟩
 ·conv=>whnf
  repeat ((first|refine Br.f ?_|refine Pk.f ?_|refine Ru.e1 ?_|refine CW.s ?_);conv=>whnf)
  refine Ca.of (eis_ok 7 8 (by decide) w3) ?_;rintro _ _ ⟨rfl,rfl⟩;conv=>whnf
  repeat ((first|refine Br.t ?_);conv=>whnf)
  exact⟨rfl,kk3,Runs.gone hy hyb ⟨rfl,n3,h3⟩⟩
end
def opK(K:KS)(d:Nat):KS:={ shK K with st:=updf (shK K).st d 1,pn:=d+1,fo:=true,fb:=d,fi:=0 }
def bestK(K:KS):Int:=bestOf (fun j=>(K.st j:Nat)) (fun j=>(lv K.at_ j:Nat)) 12
inductive Opens (of:Nat):Nat->KS->CS->KS->CS->List CS->Prop
 |room {n:Nat} {K:KS} {P:CS}:K.fb<12->K.fi<=8->roomB K.fo K.fi of=true->Opens of (n+1) K P K P []
 |spare {n:Nat} {K:KS} {P:CS} {d:Nat} {K':KS} {P':CS} {tr:List CS}:K.fb<12->K.fi<=8->roomB K.fo K.fi of=false->spareB (shK K).st=true->(shK K).pn<=12->takeN (shK K).st (shK K).pn=some d->Opens of n (opK K d) P K' P' tr->Opens of (n+1) K P K' P' tr
 |move {n:Nat} {K:KS} {P:CS} {v d:Nat} {K':KS} {P':CS} {tr:List CS}:K.fb<12->K.fi<=8->roomB K.fo K.fi of=false->spareB (shK K).st=false->(∀o,o<25->K.at_ o<=96)->bestK (shK K)=v->VcHyp (shK K) P v d->Opens of n (vcK (shK K) P v d) (vcP (shK K) P v d) K' P' tr->Opens of (n+1) K P K' P' (vcT (shK K) P v d++tr)
section
variable{w w':World}{N:Cr}{K:KS}{X:Option Addr}{c:Nat}{P:CS}{b:Option Nat}{n:Int}
theorem open_ok(h:On w N K P b n X c){of:Nat}(ho:of<=24){K':KS}{P':CS}{tr:List CS}(H:Opens of 48 K P K' P' tr) :
  Spec Tryz.prog 106 #[.pointer (some ⟨N.k,0,none⟩),.int .i64 of] w fun u w'=>EndsX N X c K' P' b tr w w' (u=errOf 0) (u=errOf 7):=by
 refine spec_of_wpE (T:=tt) tt_ok Tryz.func106 rfl (by decide +kernel) Tryz.ntmps106 (by simp) ?_;conv=>whnf
 repeat ((first|refine CW.s ?_);conv=>whnf)
 refine CW.loop (ι:=Nat×KS×CS×List CS×List CS) (fun i w'=>i.1<=48/\Opens of (48-i.1) i.2.1 i.2.2.1 K' P' i.2.2.2.2/\tr=i.2.2.2.1++i.2.2.2.2/\fits b i.2.2.2.1.length/\(∃n',On w' N i.2.1 i.2.2.1 (less b i.2.2.2.1.length) n' X c)/\Keep N.all w w')
  (fun i=>[(0,.pointer (some ⟨N.k,0,none⟩)),(1,.int .i64 of),(10,.int .i64 i.1)]) (fun i=>48-i.1) (0,K,P,[],tr) tt_ok ⟨by simp,H,rfl,(fun x hx=>by simp),⟨n,by rw[show(([]:List CS)).length=0 from rfl,less_zero];exact h⟩,Keep.refl _ _⟩ ⟨rfl,rfl,rfl,trivial⟩ ?_;rintro⟨i,K1,P1,t1,t2⟩ wr ⟨hi,hop,htr,hf,⟨n1,h1⟩,kk⟩;simp only at hi hop htr hf h1 kk ⊢;by_cases hlt:i<48
 ·obtain⟨m,hm⟩:∃m,48-i=m+1:=⟨47-i,by omega⟩;rw[hm] at hop;have hm2:48-(i+1)=m:=by omega
  have hb:K1.fb<12/\K1.fi<=8:=by cases hop<;>exact⟨by assumption,by assumption⟩
  conv=>whnf
  repeat ((first|(refine Ld.of h1.core.c3 ?_)|refine Br.y ?_|refine CW.s ?_);conv=>whnf)
  refine Ca.of (froom_ok h1.core.front of hb.1 hb.2 ho) ?_;rintro _ w2 ⟨rfl,r2,k2⟩;have h2:=h1.keep0 k2;have kk2:=kk.trans (Keep.of0 k2);generalize hZ:m+1=M at hop
  cases hop with
  | room b1 b2 hr =>
   rw[hr];conv=>whnf
   repeat ((first|refine Br.t ?_);conv=>whnf)
   refine⟨rfl,kk2,.inl ?_⟩;rw[htr,List.append_nil];exact⟨hf,rfl,n1,h2⟩
  | spare b1 b2 hr hs hp ht hn =>
   rename_i m' d'
   obtain rfl:m=m':=by omega
   rw[hr];conv=>whnf
   repeat ((first|refine Br.f ?_);conv=>whnf)
   refine Ca.of (shut_ok h2 hb.1) ?_;rintro _ w3 ⟨rfl,h3,k3⟩;conv=>whnf
   repeat ((first|(refine Ld.of h3.core.c1 ?_)|refine CW.s ?_);conv=>whnf)
   refine Ca.of (spare_ok h3.core.pool) ?_;rintro _ _ ⟨rfl,rfl⟩;rw[hs];conv=>whnf
   repeat ((first|(refine Ld.of h3.core.c1 ?_)|refine Br.t ?_);conv=>whnf)
   refine Ca.of (ptake_ok h3.core.pool hp) ?_;intro u w4 hu;unfold TakeEnd at hu;rw[ht] at hu;obtain⟨rfl,r4,k4⟩:=hu;have h4:=h3.pool k4 r4;conv=>whnf
   repeat ((first|(refine Ld.of h4.core.c3 ?_)|refine Br.f ?_|refine Ru.neq_nil0 ?_|refine CW.s ?_);conv=>whnf)
   refine Ca.of (fopen_ok h4.core.front d' 0 (takeFrom_lt ht).1 (by omega)) ?_;rintro _ w5 ⟨rfl,r5,k5⟩;have h5:On w5 N (opK K1 d') P1 (less b t1.length) n1 X c:=h4.front k5 r5;conv=>whnf
   repeat ((first|refine Ar.la ?_);conv=>whnf)
   exact⟨(i+1,opK K1 d',P1,t1,t2),⟨hlt,by simp only;rw[hm2];exact hn,htr,hf,⟨n1,h5⟩,((kk2.trans k3).trans (Keep.of1 (by simp[Cr.own]) k4)).trans (Keep.of1 (by simp[Cr.own]) k5)⟩,⟨rfl,rfl,vi (by simp only;omega),trivial⟩,by simp only;omega⟩
  | move b1 b2 hr hs ha hv hV hn =>
   rename_i m' v' d' tr'
   obtain rfl:m=m':=by omega
   rw[hr];conv=>whnf
   repeat ((first|refine Br.f ?_);conv=>whnf)
   refine Ca.of (shut_ok h2 hb.1) ?_;rintro _ w3 ⟨rfl,h3,k3⟩;conv=>whnf
   repeat ((first|(refine Ld.of h3.core.c1 ?_)|refine CW.s ?_);conv=>whnf)
   refine Ca.of (spare_ok h3.core.pool) ?_;rintro _ _ ⟨rfl,rfl⟩;rw[hs];conv=>whnf
   repeat ((first|refine Br.f ?_);conv=>whnf)
   refine CW.held (fun w'=>CoreAt w' N (shK K1) X c) [] (.take 0 (.take 1 (.take 2 (.take 3 (.take 5 (.take 6 (.take 7 (.take 8 (.one 4 (.one 9 (.one 10 (.take 11 (.take 12 (.take 13 (.take 14 (.take 15 (.done))))))))))))))))) tt_ok (by kernel_rfl) (by kernel_rfl) (by kernel_rfl) ?_ ?_
   ·exact h3.core.keep0 ((Keep.refl _ _).drewN 1)
   have q3:=(Keep.refl [] w3).drewN 1;have h4:=h3.keep0 q3;have kk4:=(kk2.trans k3).trans (Keep.of0 q3);generalize w3.drewN 1=w4 at *;conv=>whnf
   repeat ((first|(refine LdQ.of (fun _ h=>h.c1) ?_)|(refine LdQ.of (fun _ h=>h.c2) ?_));conv=>whnf)
   refine Ca.of (cstates_ok h4) ?_;rintro _ w5 ⟨Y,e,rfl,O⟩;have h5:=h4.keep0 O.keep;refine⟨h5.core,?_⟩;conv=>whnf
   refine Ca.of (mlive_ok h5.core.map (by
    show ∀o,o<25->(shK K1).at_ o<=96;rw[show(shK K1).at_=K1.at_ by unfold shK;split<;>rfl];exact ha)) ?_
   rintro _ w6 ⟨g,rfl,rg,hg,k6⟩;have h6:=h5.keep0 k6;refine⟨h6.core,?_⟩;conv=>whnf
   refine Ca.of (choose_ok w6 Y (some ⟨g,0,none⟩) e 12 (fun j=>((shK K1).st j:Nat)) (fun j=>(lv (shK K1).at_ j:Nat)) ((O.ly.keep0 k6).rd1) (fun _=>⟨g,0,rfl,fun j hj=>by rw[Nat.zero_add];exact rg.cell j hj⟩)) ?_;rintro _ w7 ⟨rfl,k7⟩;have h7:=h6.keep0 k7;refine⟨h7.core,?_⟩;unfold bestK at hv;rw[hv,if_neg (by omega),if_neg (by omega)];have kk7:=((kk4.trans (Keep.of0 O.keep)).trans (Keep.of0 k6)).trans (Keep.of0 k7);conv=>whnf
   repeat ((first|refine Br.f ?_|refine Ru.neq_nil0 ?_|refine CW.s ?_);conv=>whnf)
   refine Ca.of (vacate_ok h7 hV) ?_;rintro _ w8 ⟨k8,hr8⟩;rcases hr8 with⟨hf8,rfl,n8,h8⟩|⟨y,hy,hyb,rfl,n8,h8⟩
   ·conv=>whnf
    repeat ((first|refine Br.f ?_|refine Ar.la ?_|refine Ru.neq_nil0 ?_);conv=>whnf)
    rw[less_less, <-List.length_append] at h8;exact⟨(i+1,vcK (shK K1) P1 v' d',vcP (shK K1) P1 v' d',t1++vcT (shK K1) P1 v' d',tr'),⟨hlt,by simp only;rw[hm2];exact hn,by simp only;rw[htr,List.append_assoc],Runs.fits hf hf8,⟨n8,h8⟩,kk7.trans k8⟩,⟨rfl,rfl,vi (by simp only;omega),trivial⟩,by simp only;omega⟩
   ·conv=>whnf
    repeat ((first|refine Br.t ?_|refine Ru.n1 ?_);conv=>whnf)
    refine⟨rfl,kk7.trans k8,?_⟩;rw[htr];exact Runs.then hf (Runs.gone hy hyb ⟨rfl,n8,h8⟩)
 ·obtain rfl:i=48:=by omega
  rw[Nat.sub_self] at hop
  cases hop
end
def nwTag(K:KS)(of:Nat):Tg:=⟨((K.fb*8+K.fi:Nat):Int),of,K.next,0,false⟩
def tkK(K:KS):KS:={ K with fi:=K.fi+1 }
structure Lays(of:Nat)(D:KS->Int->Nat->Nat)(K:KS)(P:CS)(K1:KS)(P1:CS)(t1:List CS):Prop where
 worn:wornB K.st=false
 op:Opens of 48 K P K1 P1 t1
 fb:K1.fb<12
 fi:K1.fi<=8
 room:roomB K1.fo K1.fi of=true
 next:0<=K1.next/\K1.next<1099511627775
 hb:Hl.HB K1.F
 mw:MapWf K1.at_ K1.ow
 calm:P1.calm
 blank:P1.pg (K1.fb*8+K1.fi)=.blank
 ok:(nwTag K1 of).ok
 byte:∀j,D (sqK K1) K1.next j<256
def lyK(K1:KS)(of:Nat):KS:=anK (rdK (tkK (sqK K1)) (K1.fb*8+K1.fi)) (nwTag K1 of) of (K1.fb*8+K1.fi)
def lyP(K1:KS)(P1:CS)(of:Nat)(D:KS->Int->Nat->Nat):CS:=P1.lay (K1.fb*8+K1.fi) (nwTag K1 of) (D (sqK K1) K1.next)
def lyT(K1:KS)(P1:CS)(t1:List CS):List CS:=t1++P1.layT (K1.fb*8+K1.fi)
section
variable{w w':World}{N:Cr}{K:KS}{X:Option Addr}{c:Nat}{P:CS}{b:Option Nat}{n:Int}
def Makes(N:Cr)(X:Option Addr)(c:Nat)(w0:World)(g:FuncId)(cap:Array Value)(D:KS->Int->Nat->Nat)(K1:KS)(P1:CS):Prop :=
 ∀w b n,Keep N.all w0 w->On w N (sqK K1) P1 b n X c->Spec Tryz.prog g (#[.int .i64 K1.next]++cap) w fun v w'=>∃A d,v=.tuple #[.slice A 174 d,errOf 0]/\Ly w' 5 1 A 174 d (fun j=>.int .u8 (D (sqK K1) K1.next j:Nat))/\Keep [] w w'
theorem build_tg3(a b c:Int)(w:World):(Instr.build 67 #[(0,.int .i64 a),(1,.int .i64 b),(2,.int .i64 c)]).run Tryz.prog w=.ok (.agg (Tg.mk a b c 0 false).arr) w:=by kernel_rfl
theorem lay_ok'(h:On w N K P b n X c){of:Nat}(ho:of<=24){D:KS->Int->Nat->Nat}{K1:KS}{P1:CS}{t1:List CS}(H:Lays of D K P K1 P1 t1)(g:FuncId)(cap:Array Value)(hg:Makes N X c w g cap D K1 P1) :
  Spec Tryz.prog 63 #[.pointer (some ⟨N.k,0,none⟩),.int .i64 of,.func (.func g) #[] cap] w fun u w'=>EndsX N X c (lyK K1 of) (lyP K1 P1 of D) b (lyT K1 P1 t1) w w' (u=errOf 0) (u=errOf 7):=by
 have hwo:=H.worn;have hfb:=H.fb;have hfi:=H.fi;have hro:=H.room;refine spec_of_wpE (T:=tt) tt_ok Tryz.func63 rfl (by decide +kernel) Tryz.ntmps63 (by simp) ?_;refine CW.loop (ι:=Unit) (fun _ w'=>w'=w) (fun _=>[(0,.pointer (some ⟨N.k,0,none⟩)),(1,.int .i64 of),(2,.func (.func g) #[] cap)]) (fun _=>0) () tt_ok rfl ⟨rfl,rfl,rfl,trivial⟩ ?_;rintro _ wr rfl;conv=>whnf
 repeat ((first|(refine Ld.of h.core.c1 ?_)|refine CW.s ?_);conv=>whnf)
 refine Ca.of (worn_ok h.core.pool) ?_;rintro _ _ ⟨rfl,rfl⟩;rw[hwo];conv=>whnf
 repeat ((first|refine Br.f ?_|refine CW.s ?_);conv=>whnf)
 refine Ca.of (open_ok h ho H.op) ?_;rintro _ w1 ⟨k1,hr1⟩;rcases hr1 with⟨hf1,rfl,n1,h1⟩|⟨y,hy,hyb,rfl,n1,h1⟩
 case inr =>
  conv=>whnf
  repeat ((first|refine Br.t ?_|refine Ru.n1 ?_);conv=>whnf)
  exact⟨rfl,k1,Runs.gone hy hyb ⟨rfl,n1,h1⟩⟩
 conv=>whnf
 repeat ((first|refine Br.f ?_|refine Ru.neq_nil0 ?_);conv=>whnf)
 refine Ca.of (cseq_ok h1 H.next) ?_;rintro _ w2 ⟨rfl,h2,k2⟩;have kk2:=k1.trans k2;conv=>whnf
 repeat ((first|refine Br.f ?_|refine Ru.neq_nil0 ?_|refine CW.s ?_);conv=>whnf)
 refine Ca.args (args' := #[.int .i64 K1.next]++cap) (by simp) ?_;refine Ca.of (hg w2 _ _ kk2 h2) ?_;rintro _ w3 ⟨A,dd,rfl,hl,k3⟩;have h3:=h2.keep0 k3;have kk3:=kk2.trans (Keep.of0 k3);conv=>whnf
 repeat ((first|(refine Ld.of h3.core.c3 ?_)|refine Br.f ?_|refine Ru.neq_nil0 ?_|refine CW.s ?_);conv=>whnf)
 refine Ca.of (ftake_ok h3.core.front of hfb hfi ho hro) ?_;rintro _ w4 ⟨rfl,r4,k4⟩;have h4:On w4 N (tkK (sqK K1)) P1 (less b t1.length) n1 X c:=h3.front k4 r4;have kk4:=kk3.trans (Keep.of1 (by simp[Cr.own]) k4);have hl4:=hl.keep k4 (fun x hx hm=>hl.row_ne h3.core.front (by decide) (List.mem_singleton.1 hm ▸ hx));conv=>whnf
 repeat ((first|refine Br.f ?_|refine Ru.neq_nil0 ?_|refine CW.s ?_);conv=>whnf)
 refine Ru.of (build_tg3 _ _ _ _) ?_;rw[show(Tg.mk (((sqK K1).fb*8+(sqK K1).fi:Nat):Int) (of:Nat) K1.next 0 false)=nwTag K1 of from rfl];conv=>whnf
 refine Ru.alloctg ?_;intro x12 w5 hx12 hs5 r12a k5;conv=>whnf
 refine Ru.sttg r12a ?_;intro w6 r12 k6;have q6:Keep [] w4 w6:=k5.then k6 (fun x hx=>.inr (by rw[List.mem_singleton.1 hx,hx12];exact Nat.le_refl _));have h6:=h4.keep0 q6;have hl6:=hl4.keep0 q6;have kk6:=kk4.trans (Keep.of0 q6);have hx12w:wr.heap.size<=x12:=by
  rw[hx12];exact kk4.size
 have far:x12∉N.all:=fun hm=>by
  have h3:x12<wr.heap.size:=by
   rcases List.mem_append.1 hm with hm|hm
   ·exact h.core.lt (List.mem_append_left _ hm)
   ·exact h.l_lt _ hm
  omega
 clear k5 k6 q6 hs5 r12a hx12 w5;conv=>whnf
 refine Ru.ldtg r12 ?_;conv=>whnf
 have hpl:K1.fb*8+K1.fi<96:=by
  have:=H.room;unfold roomB at this;simp only[Bool.and_eq_true,decide_eq_true_eq] at this;omega
 refine Ca.of (program_calm h6 H.hb H.calm (p:=K1.fb*8+K1.fi) hpl H.byte hl6 H.ok rfl H.blank) ?_;rintro _ w7 ⟨k7,hr7⟩;have r127:=r12.keep k7 far;rcases hr7 with⟨hf7,rfl,n7,h7⟩|⟨y,hy,hyb,rfl,n7,h7⟩
 ·conv=>whnf
  repeat ((first|refine Br.t ?_|refine Ru.eql_nil0 ?_|refine CW.s ?_);conv=>whnf)
  refine Ru.ldtg r127 ?_;conv=>whnf
  refine Ca.of (anew_ok h7 H.mw (t:=nwTag K1 of) ho hpl rfl rfl) ?_;rintro _ w8 ⟨rfl,h8,k8⟩;conv=>whnf
  rw[less_less, <-List.length_append] at h8;exact⟨rfl,(kk6.trans k7).trans k8,.inl ⟨Runs.fits hf1 hf7,rfl,n7,h8⟩⟩
 ·conv=>whnf
  repeat ((first|refine Br.f ?_|refine Ru.e1 ?_|refine CW.s ?_);conv=>whnf)
  refine Ca.of (eis_ok 7 8 (by decide) w7) ?_;rintro _ _ ⟨rfl,rfl⟩;conv=>whnf
  repeat ((first|refine Br.t ?_);conv=>whnf)
  exact⟨rfl,kk6.trans k7,Runs.then hf1 (.inr ⟨y,hy,hyb,rfl,n7,h7⟩)⟩
end
theorem rowOne{w:World}{g:Nat}{t:TypeId}{v:Value}(h:w.heap[g]?=some (.cells #[v] t (0,0))):Row w g t 1 (fun _=>v):=by
 unfold Row;rw[h];simp[Array.range,Array.ofFn_succ]
theorem Ru.boxp{t:TypeId}{A:Option Addr}{w:World}{K:Value->World->Prop}(k:∀g w',g=w.heap.size->w'.heap.size=w.heap.size+1->Row w' g t 1 (fun _=>.pointer A)->Keep [] w w'->K (.pointer (some ⟨g,0,none⟩)) w'):Ru Tryz.prog (Instr.box t (.pointer A)) w K :=
 ⟨_,w.alloc (.cells #[.pointer A] t),rfl,k _ _ rfl (by simp) (rowOne (heap_alloc_new _ _)) ((Keep.refl _ _).alloc _)⟩
theorem Ru.boxi{t:TypeId}{v:Int}{w:World}{K:Value->World->Prop}(k:∀g w',g=w.heap.size->w'.heap.size=w.heap.size+1->Row w' g t 1 (fun _=>.int .i64 v)->Keep [] w w'->K (.pointer (some ⟨g,0,none⟩)) w'):Ru Tryz.prog (Instr.box t (.int .i64 v)) w K :=
 ⟨_,w.alloc (.cells #[.int .i64 v] t),rfl,k _ _ rfl (by simp) (rowOne (heap_alloc_new _ _)) ((Keep.refl _ _).alloc _)⟩
def ptN(p:Cp)(j:Nat):Nat:=(ptF p j).toNat
theorem ptN_int(p:Cp)(j:Nat):((ptN p j:Nat):Int)=ptF p j:=by
 have:=ptF_bd p j;unfold ptN;omega
theorem ptN_lt(p:Cp)(j:Nat):ptN p j<256:=by
 have:=ptF_bd p j;unfold ptN;omega
def noteD(K:KS)(s:Int):Nat->Nat:=ptN (stC K s (-1))
section
variable{w w':World}{N:Cr}{K:KS}{X:Option Addr}{c:Nat}{P:CS}{b:Option Nat}{n:Int}
theorem note1_ok(h:On w N K P b n X c){x:Nat}(hx:w.cell? ⟨x,0,none⟩=some (.pointer (some ⟨N.k,0,none⟩)))(s:Int)(ht:(stC K s (-1)).told) :
  Spec Tryz.prog 152 #[.int .i64 s,.pointer (some ⟨x,0,none⟩)] w fun v w'=>∃A d,v=.tuple #[.slice A 174 d,errOf 0]/\Ly w' 5 1 A 174 d (fun j=>.int .u8 (noteD K s j:Nat))/\Keep [] w w':=by
 refine spec_of_wpE (T:=tt) tt_ok Tryz.func152 rfl (by decide +kernel) Tryz.ntmps152 (by simp) ?_;conv=>whnf
 repeat ((first|(refine Ld.of hx ?_));conv=>whnf)
 refine Ca.of (cstate_ok h s (-1)) ?_;rintro _ w2 ⟨rfl,k2⟩;conv=>whnf
 refine Ca.of (pwrite_ok w2 _ ht) ?_;rintro _ w3 ⟨y,hy,rfl,r3,k3⟩;conv=>whnf
 refine⟨rfl,some ⟨y,0,none⟩,174,rfl,(Ly.of_row r3 (by omega) (by omega) (by simp[maxLen])).congr (fun j hj=>?_),k2.trans k3⟩;unfold noteD;rw[ptN_int]
theorem note_ok(h:On w N K P b n X c){K1:KS}{P1:CS}{t1:List CS}(H:Lays 24 noteD K P K1 P1 t1)(ht:(stC (sqK K1) K1.next (-1)).told) :
  Spec Tryz.prog 105 #[.pointer (some ⟨N.k,0,none⟩)] w fun u w'=>EndsX N X c (lyK K1 24) (lyP K1 P1 24 noteD) b (lyT K1 P1 t1) w w' (u=errOf 0) (u=errOf 7):=by
 refine spec_of_wpE (T:=tt) tt_ok Tryz.func105 rfl (by decide +kernel) Tryz.ntmps105 (by simp) ?_;conv=>whnf
 refine Ru.boxp ?_;intro x w1 hx hs r k1;have h1:=h.keep0 k1;have far:x∉N.all:=fun hm=>by
  have h3:x<w.heap.size:=by
   rcases List.mem_append.1 hm with hm|hm
   ·exact h.core.lt (List.mem_append_left _ hm)
   ·exact h.l_lt _ hm
  omega
 conv=>whnf
 repeat ((first|(refine Ld.row r (by omega) ?_));conv=>whnf)
 refine Ca.of (lay_ok' h1 (of:=24) (by omega) H 152 #[.pointer (some ⟨x,0,none⟩)] (fun w2 b2 n2 k2 h2=>note1_ok h2 ((r.keep k2 far).cell 0 (by omega)) K1.next ht)) ?_;rintro _ w2 ⟨k2,hr⟩;conv=>whnf
 exact⟨rfl,(Keep.of0 k1).trans k2,hr⟩
def putD(f:Nat->Nat)(K:KS)(s:Int)(j:Nat):Nat:=if j<160 then f j else 0
theorem alloc_sl(w:World):(Instr.alloc 37 true (.tuple #[])).run Tryz.prog w=.ok (.pointer (some ⟨w.heap.size,0,none⟩)) (w.alloc (.cells #[.slice none 0 0] 37)):=by kernel_rfl
theorem mk174f_run(w:World):(Instr.makeSlice 37 (.int .i64 174) (.int .i64 174)).run Tryz.prog w=.ok (.slice (some ⟨w.heap.size,0,none⟩) 174 174) (w.alloc (.cells (madeCells #[.int .u8 0] 174) 5)):=by kernel_rfl
theorem put1_ok{x y:Nat}{D:Nat->Nat}(hx:w.cell? ⟨x,0,none⟩=some (.slice (some ⟨y,0,none⟩) 174 174))(hy:Row w y 5 174 (fun j=>.int .u8 (D j:Nat)))(s:Int) :
  Spec Tryz.prog 114 #[.int .i64 s,.pointer (some ⟨x,0,none⟩)] w fun v w'=>∃A d,v=.tuple #[.slice A 174 d,errOf 0]/\Ly w' 5 1 A 174 d (fun j=>.int .u8 (D j:Nat))/\Keep [] w w':=by
 refine spec_of_wpE (T:=tt) tt_ok Tryz.func114 rfl (by decide +kernel) Tryz.ntmps114 (by simp) ?_;conv=>whnf
 repeat ((first|(refine Ld.of hx ?_));conv=>whnf)
 exact⟨rfl,_,174,rfl,Ly.of_row hy (by omega) (by omega) (by simp[maxLen]),Keep.refl _ _⟩
theorem put_ok(h:On w N K P b n X c){of d:Nat}(ho:of<24){A:Option Addr}{f:Nat->Nat}(hA:RdB w A 160 f)(hd:160<=d){K1:KS}{P1:CS}{t1:List CS}(H:Lays of (putD f) K P K1 P1 t1) :
  Spec Tryz.prog 68 #[.pointer (some ⟨N.k,0,none⟩),.int .i64 of,.slice A 160 d] w fun u w'=>EndsX N X c (lyK K1 of) (lyP K1 P1 of (putD f)) b (lyT K1 P1 t1) w w' (u=errOf 0) (u=errOf 7):=by
 have far:∀x,w.heap.size<=x->x∉N.all:=fun x hx hm=>by
  have h3:x<w.heap.size:=by
   rcases List.mem_append.1 hm with hm|hm
   ·exact h.core.lt (List.mem_append_left _ hm)
   ·exact h.l_lt _ hm
  omega
 refine spec_of_wpE (T:=tt) tt_ok Tryz.func68 rfl (by decide +kernel) Tryz.ntmps68 (by simp) ?_;conv=>whnf
 repeat ((first|refine Br.f ?_|refine Pk.f ?_|refine Br.n ?_|refine CW.s ?_);conv=>whnf)
 refine Ru.of (mk174f_run w) ?_;have ry:=Row.made w 5 (.int .u8 0) 174;have k1:Keep [] w (w.alloc (.cells (madeCells #[.int .u8 0] 174) 5)):=(Keep.refl _ _).alloc _;have hs1:(w.alloc (.cells (madeCells #[.int .u8 0] 174) 5)).heap.size=w.heap.size+1:=by simp
 generalize w.alloc _=w1 at *;conv=>whnf
 refine Ru.of (alloc_sl w1) ?_;have rx:=rowOne (heap_alloc_new w1 (.cells #[.slice none 0 0] 37));have k2:Keep [] w1 (w1.alloc (.cells #[.slice none 0 0] 37)):=(Keep.refl _ _).alloc _;have ry2:=ry.keep k2 (by simp);generalize w1.alloc _=w2 at *;conv=>whnf
 refine Sd.rowAt rx 0 (by omega) (by omega) rfl ?_;intro w3 rx3 k3;have hxy:w1.heap.size≠w.heap.size:=by omega
 have hxw:w.heap.size<=w1.heap.size:=by omega
 have ry3:=ry2.keep k3 (by simpa using hxy.symm);have kk3:Keep [] w w3:=(k1.trans k2).fresh hxw k3;have rx3:Row w3 w1.heap.size 37 1 (fun _=>.slice (some ⟨w.heap.size,0,none⟩) 174 174):=rx3.congr (fun j hj=>by rw[c1 hj];rfl);generalize hxx:w1.heap.size=x at *;generalize hyy:w.heap.size=y at *;conv=>whnf
 repeat ((first|(refine Ld.row rx3 (by omega) ?_));conv=>whnf)
 refine Bu.copy Tryz.underlying37 byte_sz1 ry3 A 160 d 160 rfl (hA.keep0 kk3) (fun e=>?_) (by omega) (fun _ _=>rfl) ?_
 ·obtain⟨b1,o1,e1,_⟩:=hA (by omega);rw[e] at e1
  cases e1
 intro w4 ry4 k4;have rx4:=rx3.keep k4 (by simpa using hxy);have kk4:Keep [] w w4:=kk3.fresh (by omega) k4;have ry4:Row w4 y 5 174 (fun j=>.int .u8 (putD f (sqK K1) K1.next j:Nat)):=ry4.congr (fun j hj=>by
  unfold lay putD;by_cases h:j<160
  ·rw[if_pos (by omega),if_pos h,Nat.sub_zero]
  ·rw[if_neg (by omega),if_neg h];rfl)
 have h4:=h.keep0 kk4;conv=>whnf
 refine Ca.of (lay_ok' h4 (of:=of) (by omega) H 114 #[.pointer (some ⟨x,0,none⟩)] (fun w2 b2 n2 k2 h2=>put1_ok ((rx4.keep k2 (far x (by omega))).cell 0 (by omega)) (ry4.keep k2 (far y (by omega))) K1.next)) ?_;rintro _ w5 ⟨k5,hr⟩;conv=>whnf
 exact⟨rfl,(Keep.of0 kk4).trans k5,hr⟩
end
def CS.val(P:CS):Prop:=∀p t D,p<96->P.pg p=.full t D->t.ok/\t.place=p/\t.lost=false/\(∀j,D j<256)/\cutD D=D
def Twin(t t':Tg):Prop:=t'.copy=(t.copy+1)%256\/t.copy=(t'.copy+1)%256
structure Gd(P:CS):Prop where
 calm:P.calm
 val:P.val
 seq:∀p q t t' D D',p<96->q<96->p≠q->P.pg p=.full t D->P.pg q=.full t' D'->t.seq=t'.seq->t.of=t'.of/\D=D'/\Twin t t'
def Cnt(P:CS)(o:Nat)(fl:Int)(p:Nat):Prop:=p<96/\∃t D,P.pg p=.full t D/\t.of=o/\fl<t.seq/\∀q t' D',q<96->q≠p->P.pg q=.full t' D'->t'.of=o->t'.seq<t.seq\/t'.seq=t.seq/\t'.copy=(t.copy+1)%256
def NoCnt(P:CS)(o:Nat)(fl:Int):Prop:=∀q t D,q<96->P.pg q=.full t D->t.of=o->t.seq<=fl
def floor(k:Cp)(o:Nat):Int:=if o=24 then -1 else k.fl o
theorem floor_24(k:Cp):floor k 24 = -1:=rfl
theorem floor_lt(k:Cp){o:Nat}(h:o<24):floor k o=k.fl o:=if_neg (by omega)
structure Led(P:CS)(k:Cp)(L:Nat->Nat):Prop where
 pt:L 24≠0
 data:dataAt P (L 24-1)=ptN k
 told:k.told
 bad:∀b,b<12->k.bad b=false
 scs:∀b,b<12->k.scores b=0
 yes:∀o,o<25->L o≠0->Cnt P o (floor k o) (L o-1)
 no:∀o,o<25->L o=0->NoCnt P o (floor k o)
theorem Led.lt{P:CS}{k:Cp}{L:Nat->Nat}(h:Led P k L){o:Nat}(ho:o<25):L o<=96:=by
 by_cases e:L o=0
 ·omega
 ·have:=(h.yes o ho e).1;omega
theorem Led.page{P:CS}{k:Cp}{L:Nat->Nat}(h:Led P k L){o:Nat}(ho:o<25)(e:L o≠0):∃t D,P.pg (L o-1)=.full t D/\t.of=o:=by
 obtain⟨_,t,D,h1,h2,_⟩:=h.yes o ho e;exact⟨t,D,h1,h2⟩
def arr(P:CS)(L:Nat->Nat)(o j:Nat):Nat:=if L o=0 then 0 else dataAt P (L o-1) j
def Shows(P:CS)(L:Nat->Nat)(a:Nat->Nat->Nat):Prop:=∀o j,o<24->j<160->arr P L o j=a o j
theorem lvTo_zero{L:Nat->Nat}{b:Nat}:∀ {n:Nat},lvTo L n b=0↔∀o,o<n->L o≠0->(L o-1)/8≠b
 |0=>by simp[lvTo]
 | n+1=>by
  have ih:=@lvTo_zero L b n;unfold lvTo;constructor
  ·intro h o ho e1 e2;by_cases h1:o=n
   ·subst h1;rw[if_pos ⟨e1,e2⟩] at h;omega
   ·exact ih.1 (by omega) o (by omega) e1 e2
  ·intro h;rw[if_neg (fun e=>h n (by omega) e.1 e.2),ih.2 (fun o ho=>h o (by omega))]
theorem lv_zero{L:Nat->Nat}{b:Nat}:lv L b=0↔∀o,o<25->L o≠0->(L o-1)/8≠b:=lvTo_zero
structure Okay(P:CS)(k:Cp)(L:Nat->Nat)(m:Int):Prop where
 gd:Gd P
 led:Led P k L
 room:5<=cntS (lv L) 0
 tw:∀p q t t' D D',p<96->q<96->p≠q->P.pg p=.full t D->P.pg q=.full t' D'->t.seq=t'.seq->lv L (p/8)=0\/lv L (q/8)=0
 sq:∀p t D,p<96->P.pg p=.full t D->t.seq<m
 fl:k.next<m/\∀o,o<24->k.fl o<m
theorem Okay.sub{P P':CS}{k:Cp}{L:Nat->Nat}{m:Int}(h:Okay P k L m)(hc:P'.calm)(h1:∀q t D,q<96->P'.pg q=.full t D->P.pg q=.full t D)(h2:∀o,o<25->L o≠0->P'.pg (L o-1)=P.pg (L o-1)):Okay P' k L m:=by
 refine⟨⟨hc,fun p t D hp e=>h.gd.val p t D hp (h1 p t D hp e),fun p q t t' D D' hp hq hn e e'=>h.gd.seq p q t t' D D' hp hq hn (h1 p t D hp e) (h1 q t' D' hq e')⟩,
  ⟨h.led.pt,?_,h.led.told,h.led.bad,h.led.scs,fun o ho e=>?_,fun o ho e q t D hq hf=>h.led.no o ho e q t D hq (h1 q t D hq hf)⟩,h.room,
  fun p q t t' D D' hp hq hn e e'=>h.tw p q t t' D D' hp hq hn (h1 p t D hp e) (h1 q t' D' hq e'),fun p t D hp e=>h.sq p t D hp (h1 p t D hp e),h.fl⟩
 ·rw[<-h.led.data];unfold dataAt;rw[h2 24 (by omega) h.led.pt]
 ·obtain⟨hp,t,D,e1,e2,e3,e4⟩:=h.led.yes o ho e;exact⟨hp,t,D,by rw[h2 o ho e];exact e1,e2,e3,fun q t' D' hq hn hf=>e4 q t' D' hq hn (h1 q t' D' hq hf)⟩
theorem Shows.same{P P':CS}{L:Nat->Nat}{a:Nat->Nat->Nat}(h:Shows P L a)(h2:∀o,o<25->L o≠0->P'.pg (L o-1)=P.pg (L o-1)):Shows P' L a:=fun o j ho hj=>by
 rw[<-h o j ho hj];unfold arr;split
 ·rfl
 ·rename_i e
  unfold dataAt;rw[h2 o (by omega) e]
def isCopy(P:CS)(p q:Nat)(t:Tg)(D:Nat->Nat):Prop:=∃t0,P.pg p=.full t0 D/\t=⟨(q:Int),t0.of,t0.seq,(t0.copy+1)%256,t0.lost⟩
def CS.uniq(P:CS):Prop:=∀p q t t' D D',p<96->q<96->P.pg p=.full t D->P.pg q=.full t' D'->t.seq=t'.seq->p=q
theorem copy_ok{t:Tg}(h:t.ok){q:Nat}(hq:q<96)(h6:t.of≠24->q%8<=5):(⟨(q:Int),t.of,t.seq,(t.copy+1)%256,t.lost⟩:Tg).ok:=by
 unfold Tg.ok at *;refine⟨by simp only;omega,by simp only;omega,h.2.2.1,h.2.2.2.1,h.2.2.2.2.1,h.2.2.2.2.2.1,by simp only;omega,by simp only;omega,h.2.2.2.2.2.2.2.2.1,fun hn=>?_⟩;have:=h6 hn;simp only;omega
theorem Okay.copies{P P':CS}{k:Cp}{L:Nat->Nat}{m:Int}{d:Nat}(h:Okay P k L m)(hu:P.uniq)(hd:lv L d=0)(hc:P'.calm)
  (h1:∀q t D,q<96->P'.pg q=.full t D->P.pg q=.full t D\/q/8=d/\(t.of≠24->q%8<=5)/\∃o,o<25/\L o≠0/\isCopy P (L o-1) q t D/\∀q' t' D',q'<96->P'.pg q'=.full t' D'->t'.seq=t.seq->q'=q\/q'=L o-1)
  (h2:∀o,o<25->L o≠0->P'.pg (L o-1)=P.pg (L o-1)):Okay P' k L m:=by
 have hL:∀o,o<25->L o≠0->L o-1<96:=fun o ho e=>(h.led.yes o ho e).1;have hne:∀o q,o<25->L o≠0->q/8=d->q≠L o-1:=fun o q ho e hq hh=>lv_zero.1 hd o ho e (by rw[<-hh];exact hq);have old:∀q t D,q<96->P'.pg q=.full t D->∃p t0,p<96/\P.pg p=.full t0 D/\t0.seq=t.seq/\t0.of=t.of:=fun q t D hq e=>by
  rcases h1 q t D hq e with e|⟨_,_,o,ho,e0,⟨t0,ht0,rfl⟩,_⟩
  ·exact⟨q,t,hq,e,rfl,rfl⟩
  ·exact⟨L o-1,t0,hL o ho e0,ht0,rfl,rfl⟩
 refine⟨⟨hc,fun p t D hp e=>?_,fun p q t t' D D' hp hq hn e e' hs=>?_⟩,⟨h.led.pt,?_,h.led.told,h.led.bad,h.led.scs,fun o ho e=>?_,fun o ho e q t D hq hf hof=>?_⟩,h.room,fun p q t t' D D' hp hq hn e e' hs=>?_,fun p t D hp e=>?_,h.fl⟩
 ·rcases h1 p t D hp e with e|⟨_,h6,o,ho,e0,⟨t0,ht0,rfl⟩,_⟩
  ·exact h.gd.val p t D hp e
  ·obtain⟨v1,v2,v3,v4,v5⟩:=h.gd.val _ _ _ (hL o ho e0) ht0;exact⟨copy_ok v1 hp h6,rfl,v3,v4,v5⟩
 ·rcases h1 p t D hp e with e1|⟨b1,_,o,ho,e0,⟨t0,ht0,et⟩,hm⟩
  ·rcases h1 q t' D' hq e' with e2|⟨b2,_,o,ho,e0,⟨t0,ht0,et⟩,hm⟩
   ·exact absurd (hu p q t t' D D' hp hq e1 e2 hs) hn
   ·rcases hm p t D hp e hs with rfl|rfl
    ·exact absurd rfl hn
    ·rw[e1] at ht0
     cases ht0
     rw[et];exact⟨rfl,rfl,.inl rfl⟩
  ·rcases hm q t' D' hq e' hs.symm with rfl|rfl
   ·exact absurd rfl hn
   ·rw[h2 o ho e0,ht0] at e'
    cases e'
    rw[et];exact⟨rfl,rfl,.inr rfl⟩
 ·rw[<-h.led.data];unfold dataAt;rw[h2 24 (by omega) h.led.pt]
 ·obtain⟨hp,t,D,e1,e2,e3,e4⟩:=h.led.yes o ho e;refine⟨hp,t,D,by rw[h2 o ho e];exact e1,e2,e3,fun q t' D' hq hn hf hof=>?_⟩;rcases h1 q t' D' hq hf with hf|⟨b1,_,o',ho',e0,⟨t0,ht0,et⟩,hm⟩
  ·exact e4 q t' D' hq hn hf hof
  ·by_cases hx:L o'-1=L o-1
   ·rw[hx,e1] at ht0
    cases ht0
    rw[et];exact .inr ⟨rfl,rfl⟩
   ·have:=e4 (L o'-1) t0 D' (hL o' ho' e0) hx ht0 (by rw[et] at hof;exact hof);rcases this with this|⟨this,_⟩
    ·rw[et];exact .inl this
    ·exact absurd (hu _ _ _ _ _ _ (hL o' ho' e0) hp ht0 e1 this) hx
 ·obtain⟨p,t0,hp,e1,e2,e3⟩:=old q t D hq hf;rw[<-e2];exact h.led.no o ho e p t0 D hp e1 (by rw[e3];exact hof)
 ·rcases h1 p t D hp e with e1|⟨b1,_⟩
  ·rcases h1 q t' D' hq e' with e2|⟨b2,_⟩
   ·exact absurd (hu p q t t' D D' hp hq e1 e2 hs) hn
   ·rw[b2];exact .inr hd
  ·rw[b1];exact .inl hd
 ·obtain⟨p',t0,hp',e1,e2,e3⟩:=old p t D hp e;rw[<-e2];exact h.sq p' t0 D hp' e1
structure Moved(P P':CS)(L L':Nat->Nat)(v:Nat):Prop where
 from_:∀q t D,q<96->P'.pg q=.full t D->(P.pg q=.full t D/\q/8≠v)\/(t.of≠24->q%8<=5)/\∃o,o<25/\L o≠0/\(L o-1)/8=v/\L' o=q+1/\isCopy P (L o-1) q t D
 stay:∀o,o<25->L o≠0->(L o-1)/8≠v->L' o=L o/\P'.pg (L o-1)=P.pg (L o-1)
 none:∀o,o<25->L o=0->L' o=0
 go:∀o,o<25->L o≠0->(L o-1)/8=v->L' o≠0/\L' o-1<96/\∃t D,P'.pg (L' o-1)=.full t D/\isCopy P (L o-1) (L' o-1) t D
theorem Moved.iff{P P':CS}{L L':Nat->Nat}{v:Nat}(h:Moved P P' L L' v){o:Nat}(ho:o<25):L' o=0↔L o=0:=by
 constructor
 ·intro e;by_cases e0:L o=0
  ·exact e0
  ·by_cases e1:(L o-1)/8=v
   ·exact absurd e (h.go o ho e0 e1).1
   ·rw[(h.stay o ho e0 e1).1] at e;exact e
 ·exact h.none o ho
theorem Moved.page{P P':CS}{L L':Nat->Nat}{v:Nat}(h:Moved P P' L L' v){o:Nat}(ho:o<25)(e:L o≠0){t0:Tg}{D:Nat->Nat}(hp:P.pg (L o-1)=.full t0 D):∃t,P'.pg (L' o-1)=.full t D/\t.of=t0.of/\t.seq=t0.seq/\t.lost=t0.lost/\(t.copy=t0.copy\/t.copy=(t0.copy+1)%256):=by
 by_cases e1:(L o-1)/8=v
 ·obtain⟨_,_,t,D',h1,t1,h2,h3⟩:=h.go o ho e e1;rw[hp] at h2
  cases h2
  exact⟨t,h1,by rw[h3],by rw[h3],by rw[h3],.inr (by rw[h3])⟩
 ·obtain⟨h1,h2⟩:=h.stay o ho e e1;rw[h1,h2];exact⟨t0,hp,rfl,rfl,rfl,.inl rfl⟩
theorem Moved.old{P P':CS}{L L':Nat->Nat}{v:Nat}(h:Moved P P' L L' v)(hL:∀o,o<25->L o≠0->L o-1<96){q:Nat}{t:Tg}{D:Nat->Nat}(hq:q<96)(e:P'.pg q=.full t D):∃p t0,p<96/\P.pg p=.full t0 D/\t0.seq=t.seq/\t0.of=t.of/\(p=q/\q/8≠v\/p/8=v/\∃o,o<25/\L o≠0/\L o-1=p/\L' o=q+1):=by
 rcases h.from_ q t D hq e with⟨e,hv⟩|⟨_,o,ho,e0,ev,eL,t0,ht0,et⟩
 ·exact⟨q,t,hq,e,rfl,rfl,.inl ⟨rfl,hv⟩⟩
 ·exact⟨L o-1,t0,hL o ho e0,ht0,by rw[et],by rw[et],.inr ⟨ev,o,ho,e0,rfl,eL⟩⟩
theorem Moved.uniq{P P':CS}{L L':Nat->Nat}{v:Nat}(h:Moved P P' L L' v)(hL:∀o,o<25->L o≠0->L o-1<96)(hj:∀o o',o<25->o'<25->L o≠0->L o=L o'->o=o')(hu:P.uniq):P'.uniq:=fun p q t t' D D' hp hq e e' hs=>by
 obtain⟨p1,t1,b1,c1,d1,_,f1⟩:=h.old hL hp e;obtain⟨p2,t2,b2,c2,d2,_,f2⟩:=h.old hL hq e';have hpp:p1=p2:=hu p1 p2 t1 t2 D D' b1 b2 c1 c2 (by rw[d1,d2,hs]);subst hpp;rcases f1 with⟨rfl,g1⟩|⟨g1,o,ho,e0,eo,eL⟩
 ·rcases f2 with⟨rfl,g2⟩|⟨g2,_⟩
  ·rfl
  ·exact absurd g2 g1
 ·rcases f2 with⟨rfl,g2⟩|⟨g2,o',ho',e0',eo',eL'⟩
  ·exact absurd g1 g2
  ·have:=hj o o' ho ho' e0 (by omega);subst this;omega
theorem Moved.okay{P P':CS}{k:Cp}{L L':Nat->Nat}{m:Int}{v:Nat}(M:Moved P P' L L' v)(h:Okay P k L m)(hu:P.uniq)(hj:∀o o',o<25->o'<25->L o≠0->L o=L o'->o=o')(hc:P'.calm)(hr:5<=cntS (lv L') 0):Okay P' k L' m:=by
 have hL:∀o,o<25->L o≠0->L o-1<96:=fun o ho e=>(h.led.yes o ho e).1;have hu':=M.uniq hL hj hu;refine⟨⟨hc,fun p t D hp e=>?_,fun p q t t' D D' hp hq hn e e' hs=>absurd (hu' p q t t' D D' hp hq e e' hs) hn⟩,⟨fun e=>h.led.pt ((M.iff (by omega)).1 e),?_,h.led.told,h.led.bad,h.led.scs,fun o ho e=>?_,fun o ho e q t D hq hf hof=>?_⟩,hr,fun p q t t' D D' hp hq hn e e' hs=>absurd (hu' p q t t' D D' hp hq e e' hs) hn,fun p t D hp e=>?_,h.fl⟩
 ·rcases M.from_ p t D hp e with⟨e,_⟩|⟨h6,o,ho,e0,ev,eL,t0,ht0,et⟩
  ·exact h.gd.val p t D hp e
  ·obtain⟨v1,v2,v3,v4,v5⟩:=h.gd.val _ _ _ (hL o ho e0) ht0;rw[et] at h6 ⊢;exact⟨copy_ok v1 hp h6,rfl,v3,v4,v5⟩
 ·rw[<-h.led.data];obtain⟨t0,D,hp,_⟩:=h.led.page (by omega:24<25) h.led.pt;obtain⟨t,ht,_⟩:=M.page (by omega) h.led.pt hp;unfold dataAt;rw[ht,hp]
 ·have e0:L o≠0:=fun x=>e ((M.iff ho).2 x);obtain⟨hp,t0,D,e1,e2,e3,e4⟩:=h.led.yes o ho e0;obtain⟨t,ht,hof,hsq,_,_⟩:=M.page ho e0 e1;have hp':L' o-1<96:=by
   by_cases e5:(L o-1)/8=v
   ·exact(M.go o ho e0 e5).2.1
   ·rw[(M.stay o ho e0 e5).1];exact hp
  refine⟨hp',t,D,ht,by rw[hof];exact e2,by rw[hsq];exact e3,fun q t' D' hq hn hf hof'=>?_⟩;obtain⟨p1,t1,b1,c1,d1,g1,f1⟩:=M.old hL hq hf;by_cases hx:p1=L o-1
  ·subst hx;rw[e1] at c1
   cases c1
   exact absurd (hu' _ _ _ _ _ _ hq hp' hf ht (by rw[<-d1,hsq])) hn
  ·rcases e4 p1 t1 D' b1 hx c1 (by rw[g1];exact hof') with this|⟨this,_⟩
   ·rw[hsq, <-d1];exact .inl this
   ·exact absurd (hu _ _ _ _ _ _ b1 hp c1 e1 this) hx
 ·obtain⟨p1,t1,b1,c1,d1,g1,f1⟩:=M.old hL hq hf;rw[<-d1];exact h.led.no o ho ((M.iff ho).1 e) p1 t1 D b1 c1 (by rw[g1];exact hof)
 ·obtain⟨p1,t1,b1,c1,d1,g1,f1⟩:=M.old hL hp e;rw[<-d1];exact h.sq p1 t1 D b1 c1
theorem Moved.shows{P P':CS}{k:Cp}{L L':Nat->Nat}{v:Nat}{a:Nat->Nat->Nat}(M:Moved P P' L L' v)(h:Led P k L)(hs:Shows P L a):Shows P' L' a:=fun o j ho hj=>by
 rw[<-hs o j ho hj];unfold arr;by_cases e:L o=0
 ·rw[if_pos e,if_pos (M.none o (by omega) e)]
 ·rw[if_neg e,if_neg (fun x=>e ((M.iff (by omega)).1 x))];obtain⟨t0,D,hp,_⟩:=h.page (by omega) e;obtain⟨t,ht,_⟩:=M.page (by omega) e hp;unfold dataAt;rw[ht,hp]
theorem Okay.new{P P':CS}{k k':Cp}{L L':Nat->Nat}{m m':Int}{p o:Nat}{t:Tg}{D:Nat->Nat}(h:Okay P k L m)(hu:P.uniq)(hc:P'.calm)(hp:p<96)(ho:o<25)(hto:t.of=o)
  (hv:t.ok/\t.place=p/\t.lost=false/\(∀j,D j<256)/\cutD D=D) (hpg:P'.pg p=.full t D) (hb:P.pg p=.blank) (h1:∀q,q<96->q≠p->P'.pg q=P.pg q) (hs:∀q t' D',q<96->P.pg q=.full t' D'->t'.seq<t.seq)
  (hL:L' o=p+1) (hk:o<24->k'=k/\k.fl o<t.seq/\∀i,i<25->i≠o->L' i=L i)
  (hk2:o=24->D=ptN k'/\k'.told/\(∀b,b<12->k'.bad b=false)/\(∀b,b<12->k'.scores b=0)/\∀i,i<24->(L' i=L i/\k'.fl i=k.fl i)\/(L' i=0/\L i≠0/\∃t' D',P.pg (L i-1)=.full t' D'/\k'.fl i=t'.seq))
  (hr:5<=cntS (lv L') 0) (hm:t.seq<m'/\m<=m'/\k'.next<m'/\∀i,i<24->k'.fl i<m'):Okay P' k' L' m'/\P'.uniq:=by
 have cases_:∀q t' D',q<96->P'.pg q=.full t' D'->(q=p/\t'=t/\D'=D)\/(q≠p/\P.pg q=.full t' D'):=fun q t' D' hq e=>by
  by_cases hqp:q=p
  ·subst hqp;rw[hpg] at e
   cases e
   exact .inl ⟨rfl,rfl,rfl⟩
  ·rw[h1 q hq hqp] at e;exact .inr ⟨hqp,e⟩
 have hu':P'.uniq:=fun q q' t1 t2 D1 D2 hq hq' e e' hss=>by
  rcases cases_ q t1 D1 hq e with⟨a1,a2,_⟩|⟨a1,a2⟩
  ·rcases cases_ q' t2 D2 hq' e' with⟨b1,b2,_⟩|⟨b1,b2⟩
   ·rw[a1,b1]
   ·have:=hs q' t2 D2 hq' b2;rw[<-hss,a2] at this;omega
  ·rcases cases_ q' t2 D2 hq' e' with⟨b1,b2,_⟩|⟨b1,b2⟩
   ·have:=hs q t1 D1 hq a2;rw[hss,b2] at this;omega
   ·exact hu q q' t1 t2 D1 D2 hq hq' a2 b2 hss
 have keep:∀i,i<25->L i≠0->P'.pg (L i-1)=P.pg (L i-1):=fun i hi e=>by
  obtain⟨hq,t1,D1,e1,_⟩:=h.led.yes i hi e;refine h1 _ hq (fun x=>?_);rw[x,hb] at e1
  cases e1
 have hnew:∀f,f<t.seq->Cnt P' o f p:=fun f hf=>⟨hp,t,D,hpg,hto,hf,fun q t' D' hq hn e hof=>by
  rcases cases_ q t' D' hq e with⟨a1,_⟩|⟨a1,a2⟩
  ·exact absurd a1 hn
  ·exact .inl (hs q t' D' hq a2)⟩
 have hyes:∀i f,i<25->i≠o->L i≠0->Cnt P i f (L i-1)->Cnt P' i f (L i-1):=fun i f hi hio e ⟨hq,t1,D1,e1,e2,e3,e4⟩ =>
  ⟨hq,t1,D1,by rw[keep i hi e];exact e1,e2,e3,fun q t' D' hq' hn e' hof=>by
   rcases cases_ q t' D' hq' e' with⟨a1,a2,_⟩|⟨a1,a2⟩
   ·rw[a2,hto] at hof;omega
   ·exact e4 q t' D' hq' hn a2 hof⟩
 have hno:∀i f,i<25->i≠o->NoCnt P i f->NoCnt P' i f:=fun i f hi hio hh q t' D' hq' e' hof=>by
  rcases cases_ q t' D' hq' e' with⟨a1,a2,_⟩|⟨a1,a2⟩
  ·rw[a2,hto] at hof;omega
  ·exact hh q t' D' hq' a2 hof
 have h24:L' 24≠0:=by
  by_cases e:o=24
  ·rw[<-e,hL];omega
  ·rw[(hk (by omega)).2.2 24 (by omega) (fun x=>e x.symm)];exact h.led.pt
 refine⟨⟨⟨hc,fun q t' D' hq e=>?_,fun q q' t1 t2 D1 D2 hq hq' hn e e' hss=>absurd (hu' q q' t1 t2 D1 D2 hq hq' e e' hss) hn⟩,⟨h24,?_,?_,?_,?_,fun i hi e=>?_,fun i hi e=>?_⟩,hr,fun q q' t1 t2 D1 D2 hq hq' hn e e' hss=>absurd (hu' q q' t1 t2 D1 D2 hq hq' e e' hss) hn,fun q t' D' hq e=>?_,?_⟩,hu'⟩
 ·rcases cases_ q t' D' hq e with⟨a1,a2,a3⟩|⟨a1,a2⟩
  ·rw[a1,a2,a3];exact hv
  ·exact h.gd.val q t' D' hq a2
 ·by_cases e:o=24
  ·subst e;rw[hL];unfold dataAt;rw[Nat.add_sub_cancel,hpg];exact(hk2 rfl).1
  ·obtain⟨rfl,_,hh⟩:=hk (by omega);rw[hh 24 (by omega) (fun x=>e x.symm), <-h.led.data];unfold dataAt;rw[keep 24 (by omega) h.led.pt]
 ·by_cases e:o=24
  ·exact(hk2 e).2.1
  ·rw[(hk (by omega)).1];exact h.led.told
 ·by_cases e:o=24
  ·exact(hk2 e).2.2.1
  ·rw[(hk (by omega)).1];exact h.led.bad
 ·by_cases e:o=24
  ·exact(hk2 e).2.2.2.1
  ·rw[(hk (by omega)).1];exact h.led.scs
 ·by_cases hio:i=o
  ·subst hio;rw[hL,Nat.add_sub_cancel];refine hnew _ ?_;by_cases e:i=24
   ·subst e;rw[floor_24];have:=hv.1;unfold Tg.ok at this;omega
   ·rw[(hk (by omega)).1,floor_lt _ (by omega)];exact(hk (by omega)).2.1
  ·by_cases e2:o=24
   ·subst e2;rcases(hk2 rfl).2.2.2.2 i (by omega) with⟨a1,a2⟩|⟨a1,_⟩
    ·rw[a1] at e ⊢;refine hyes i _ hi hio e ?_;have:=h.led.yes i hi e;rw[floor_lt _ (by omega)] at this ⊢;rw[a2];exact this
    ·exact absurd a1 e
   ·obtain⟨rfl,_,hh⟩:=hk (by omega);rw[hh i hi hio] at e ⊢;exact hyes i _ hi hio e (h.led.yes i hi e)
 ·have hio:i≠o:=fun x=>by
   subst x;rw[hL] at e;omega
  by_cases e2:o=24
  ·subst e2;rcases(hk2 rfl).2.2.2.2 i (by omega) with⟨a1,a2⟩|⟨a1,a2,t1,D1,a3,a4⟩
   ·rw[a1] at e;have:=h.led.no i hi e;rw[floor_lt _ (by omega)] at this ⊢;rw[a2];exact hno i _ hi hio this
   ·refine hno i _ hi hio (fun q t' D' hq e' hof=>?_);obtain⟨hp3,t3,D3,e3,_,_,e4⟩:=h.led.yes i hi a2;rw[e3] at a3
    cases a3
    rw[floor_lt _ (by omega),a4];by_cases hx:q=L i-1
    ·subst hx;rw[e3] at e'
     cases e'
     omega
    ·rcases e4 q t' D' hq hx e' hof with hh|⟨hh,_⟩
     ·omega
     ·omega
  ·obtain⟨rfl,_,hh⟩:=hk (by omega);rw[hh i hi hio] at e;exact hno i _ hi hio (h.led.no i hi e)
 ·rcases cases_ q t' D' hq e with⟨a1,a2,a3⟩|⟨a1,a2⟩
  ·rw[a2];exact hm.1
  ·have:=h.sq q t' D' hq a2;omega
 ·exact⟨hm.2.2.1,hm.2.2.2⟩
theorem cntTo_upd(st:Nat->Nat)(b x s:Nat):∀n,cntTo (updf st b x) s n+(if b<n/\st b=s then 1 else 0)=cntTo st s n+(if b<n/\x=s then 1 else 0)
 |0=>by simp[cntTo]
 | n+1=>by
  have ih:=cntTo_upd st b x s n;unfold cntTo updf;unfold updf at ih;by_cases e:n=b
  ·subst e;simp only[if_true,Nat.lt_irrefl,false_and,if_false,Nat.lt_succ_self,true_and] at ih ⊢;omega
  ·have h1:b<n+1↔b<n:=by omega
   rw[if_neg e];simp only[h1];omega
theorem cntS_upd(st:Nat->Nat){b:Nat}(x s:Nat)(hb:b<12):cntS (updf st b x) s+(if st b=s then 1 else 0)=cntS st s+(if x=s then 1 else 0):=by
 have:=cntTo_upd st b x s 12;simp only[hb,true_and] at this;exact this
theorem cntTo_mono{st st':Nat->Nat}{s s':Nat}:∀ {n:Nat},(∀b,b<n->st b=s->st' b=s')->cntTo st s n<=cntTo st' s' n
 |0,_=>Nat.le_refl _
 | n+1,h=>by
  have ih:=cntTo_mono (n:=n) (fun b hb=>h b (by omega));have:=h n (by omega);unfold cntTo;by_cases e:st n=s
  ·rw[if_pos e,if_pos (this e)];omega
  ·rw[if_neg e];split<;>omega
theorem cntTo_all{st:Nat->Nat}:∀ {n:Nat},(∀b,b<n->st b=0\/st b=2)->cntTo st 0 n+cntTo st 2 n=n
 |0,_=>rfl
 | n+1,h=>by
  have ih:=cntTo_all (n:=n) (fun b hb=>h b (by omega));unfold cntTo;rcases h n (by omega) with e|e<;>rw[e]<;>simp<;>omega
theorem cntTo_ex{st:Nat->Nat}{s:Nat}:∀ {n:Nat},cntTo st s n≠0->∃b,b<n/\st b=s
 |0,h=>absurd rfl h
 | n+1,h=>by
  unfold cntTo at h;by_cases e:st n=s
  ·exact⟨n,by omega,e⟩
  ·rw[if_neg e] at h;obtain⟨b,h1,h2⟩:=cntTo_ex (n:=n) (by omega);exact⟨b,by omega,h2⟩
theorem takeFrom_some{st:Nat->Nat}{pn:Nat}:∀ {n:Nat},n<=12->(∃i,12-n<=i/\i<12/\st ((pn+i)%12)=0)->∃d,takeFrom st pn n=some d
 |0,hn,⟨i,h1,h2,h3⟩=>by omega
 | n+1,hn,⟨i,h1,h2,h3⟩=>by
  unfold takeFrom;by_cases e:st ((pn+(12-(n+1)))%12)=0
  ·exact⟨_,if_pos e⟩
  ·rw[if_neg e];refine takeFrom_some (by omega) ⟨i,?_,h2,h3⟩;have:i≠12-(n+1):=fun x=>by rw[x] at h3;exact e h3
   omega
theorem takeN_some{st:Nat->Nat}{pn:Nat}(hp:pn<=12)(h:cntS st 0≠0):∃d,takeN st pn=some d/\d<12/\st d=0:=by
 obtain⟨b,hb,e⟩:=cntTo_ex h
 obtain⟨d,hd⟩:=takeFrom_some (st:=st) (pn:=pn) (n:=12) (by omega) ⟨(b+24-pn)%12,by omega,Nat.mod_lt _ (by omega),by
  rw[show(pn+(b+24-pn)%12)%12=b by omega];exact e⟩
 exact⟨d,hd,takeFrom_lt hd⟩
def sumTo(f:Nat->Nat):Nat->Nat
 |0=>0
 |n+1=>sumTo f n+f n
theorem sumTo_add(f g:Nat->Nat):∀n,sumTo (fun b=>f b+g b) n=sumTo f n+sumTo g n
 |0=>rfl
 | n+1=>by
  unfold sumTo;rw[sumTo_add f g n];omega
theorem sumTo_one(x y:Nat):∀n,sumTo (fun b=>if x≠0/\y=b then 1 else 0) n<=1/\(n<=y->sumTo (fun b=>if x≠0/\y=b then 1 else 0) n=0)
 |0=>⟨Nat.zero_le _,fun _=>rfl⟩
 | n+1=>by
  obtain⟨h1,h2⟩:=sumTo_one x y n;unfold sumTo;constructor
  ·by_cases e:y=n
   ·rw[h2 (by omega)];split<;>omega
   ·rw[if_neg (fun h=>e h.2)];omega
  ·intro h;rw[h2 (by omega),if_neg (fun h3=>by omega)]
theorem sum_lv(at_:Nat->Nat):∀n,sumTo (lvTo at_ n) 12<=n
 | 0=>by
  have:∀k,sumTo (lvTo at_ 0) k=0:=fun k=>by
   induction k with
   |zero=>rfl
   |succ k ih=>unfold sumTo;rw[ih];rfl
  rw[this];exact Nat.le_refl _
 | n+1=>by
  have ih:=sum_lv at_ n;have e:lvTo at_ (n+1)=fun b=>lvTo at_ n b+(if at_ n≠0/\(at_ n-1)/8=b then 1 else 0):=by
   funext b;rfl
  rw[e,sumTo_add];have:=(sumTo_one (at_ n) ((at_ n-1)/8) 12).1;omega
theorem cnt_mul{st f:Nat->Nat}{s x:Nat}:∀ {n:Nat},(∀b,b<n->st b=s->x<=f b)->cntTo st s n*x<=sumTo f n
 |0,_=>by simp[cntTo]
 | n+1,h=>by
  have ih:=cnt_mul (n:=n) (fun b hb=>h b (by omega));have hn:=h n (by omega);unfold cntTo sumTo;split
  ·rename_i e
   have:=hn e;rw[Nat.add_mul,Nat.one_mul];omega
  ·rw[Nat.add_zero];omega
theorem bestOf_min{s l:Nat->Int}:∀ {n:Nat},(∀b,b<n->s b=2->0<=bestOf s l n/\l (bestOf s l n).toNat<=l b)/\(0<=bestOf s l n->s (bestOf s l n).toNat=2)
 |0=>⟨fun b hb=>by omega,fun h=>by simp[bestOf] at h⟩
 | n+1=>by
  obtain⟨h1,h2⟩:=@bestOf_min s l n;unfold bestOf;by_cases e:s n=2/\(bestOf s l n<0\/l n<l (bestOf s l n).toNat)
  ·rw[if_pos e];refine⟨fun b hb hs=>⟨by omega,?_⟩,fun _=>by simpa using e.1⟩;simp only[Int.toNat_natCast];by_cases hbn:b=n
   ·rw[hbn];exact Int.le_refl _
   ·obtain⟨a1,a2⟩:=h1 b (by omega) hs;rcases e.2 with e2|e2<;>omega
  ·rw[if_neg e];refine⟨fun b hb hs=>?_,h2⟩;by_cases hbn:b=n
   ·subst hbn;have:¬(bestOf s l b<0\/l b<l (bestOf s l b).toNat):=fun x=>e ⟨hs,x⟩;omega
   ·exact h1 b (by omega) hs
theorem nodup_filter_len{n:Nat}:∀ {l:List Nat},l.Nodup->l.length<=(l.filter (· ≠ n)).length+1
 | [],_=>by simp
 | x::l,h=>by
  rw[List.nodup_cons] at h;by_cases e:x=n
  ·subst e
   have:l.filter (· ≠ x)=l:=List.filter_eq_self.2 (fun y hy=>by
    have:y≠x:=fun z=>h.1 (z ▸ hy);simpa using this)
   rw[List.filter_cons_of_neg (by simp),this];exact Nat.le_refl _
  ·have ih:=nodup_filter_len (n:=n) h.2;simp[e];simpa using ih
theorem nodup_lv{at_:Nat->Nat}{v:Nat}:∀ {n:Nat} {l:List Nat},l.Nodup->(∀o,o∈l->o<n/\at_ o≠0/\(at_ o-1)/8=v)->l.length<=lvTo at_ n v
 | 0,l,h,hl=>by
  cases l with
  |nil=>exact Nat.le_refl _
  |cons x l=>exact absurd (hl x (by simp)).1 (by omega)
 | n+1,l,h,hl=>by
  have ih:=nodup_lv (at_:=at_) (v:=v) (n:=n) (l:=l.filter (· ≠ n)) (h.filter _) (fun o ho=>by
   simp only[List.mem_filter,ne_eq,decide_eq_true_eq,decide_not,Bool.not_eq_true',decide_eq_false_iff_not] at ho;have:=hl o ho.1;exact⟨by omega,this.2⟩)
  have h2:=nodup_filter_len (n:=n) h;unfold lvTo;by_cases e:n∈l
  ·have:=hl n e;rw[if_pos this.2];omega
  ·have:l.filter (· ≠ n)=l:=List.filter_eq_self.2 (fun y hy=>by
    have:y≠n:=fun z=>e (z ▸ hy);simpa using this)
   rw[this] at ih;omega
structure Con(at_ ow:Nat->Nat):Prop where
 o:∀p,p<96->ow p≠0->ow p<=25/\at_ (ow p-1)=p+1
 a:∀o,o<25->at_ o≠0->at_ o<=96/\ow (at_ o-1)=o+1
theorem Con.mw{at_ ow:Nat->Nat}(h:Con at_ ow):MapWf at_ ow:=⟨fun o ho=>by
 by_cases e:at_ o=0
 ·omega
 ·exact(h.a o ho e).1,fun p hp=>by
 by_cases e:ow p=0
 ·omega
 ·exact(h.o p hp e).1⟩
theorem Con.inj{at_ ow:Nat->Nat}(h:Con at_ ow):∀o o',o<25->o'<25->at_ o≠0->at_ o=at_ o'->o=o':=fun o o' ho ho' e e'=>by
 have h1:=(h.a o ho e).2;have h2:=(h.a o' ho' (by rw[<-e'];exact e)).2;rw[e'] at h1;omega
theorem Con.set{at_ ow:Nat->Nat}(h:Con at_ ow){o p:Nat}(ho:o<25)(hp:p<96)(h0:ow p=0)(hh:holdsB p o=true):Con (setAt at_ ow o p).1 (setAt at_ ow o p).2/\(setAt at_ ow o p).1=updf at_ o (p+1):=by
 have e:setAt at_ ow o p=(updf at_ o (p+1),updf (if at_ o≠0 then updf ow (at_ o-1) 0 else ow) p (o+1)):=by
  unfold setAt;rw[hh,if_neg (by decide),if_neg (fun x=>x.1 h0)]
 rw[e];refine⟨⟨fun q hq hne=>?_,fun i hi hne=>?_⟩,rfl⟩
 ·unfold updf at hne ⊢;simp only at hne ⊢;by_cases hqp:q=p
  ·subst hqp;simp only[if_true];exact⟨by omega,by rw[Nat.add_sub_cancel,if_pos rfl]⟩
  ·rw[if_neg hqp] at hne ⊢;by_cases hz:at_ o≠0
   ·rw[if_pos hz] at hne ⊢;by_cases hqo:q=at_ o-1
    ·rw[if_pos hqo] at hne;exact absurd rfl hne
    ·rw[if_neg hqo] at hne ⊢;obtain⟨h1,h2⟩:=h.o q hq hne;refine⟨h1,?_⟩;rw[if_neg (fun x=>hqo (by rw[x] at h2;omega))];exact h2
   ·rw[if_neg hz] at hne ⊢;obtain⟨h1,h2⟩:=h.o q hq hne;refine⟨h1,?_⟩;rw[if_neg (fun x=>hz (by rw[<-x,h2];omega))];exact h2
 ·unfold updf at hne ⊢;simp only at hne ⊢;by_cases hio:i=o
  ·subst hio;rw[if_pos rfl,Nat.add_sub_cancel,if_pos rfl];exact⟨by omega,rfl⟩
  ·rw[if_neg hio] at hne ⊢;obtain⟨h1,h2⟩:=h.a i hi hne;have hp2:at_ i-1≠p:=fun x=>by rw[x,h0] at h2;omega
   rw[if_neg hp2];refine⟨h1,?_⟩;by_cases hz:at_ o≠0
   ·rw[if_pos hz,if_neg (fun x=>hio (h.inj i o hi ho hne (by omega)))];exact h2
   ·rw[if_neg hz];exact h2
theorem Con.drop{at_ ow:Nat->Nat}(h:Con at_ ow){o:Nat}(ho:o<25)(h0:at_ o≠0):Con (updf at_ o 0) (updf ow (at_ o-1) 0):=by
 have ha:=h.a o ho h0;refine⟨fun q hq hne=>?_,fun i hi hne=>?_⟩
 ·unfold updf at hne ⊢;by_cases hqo:q=at_ o-1
  ·rw[if_pos hqo] at hne;exact absurd rfl hne
  ·rw[if_neg hqo] at hne ⊢;obtain⟨h1,h2⟩:=h.o q hq hne;refine⟨h1,?_⟩;rw[if_neg (fun x=>hqo (by rw[x] at h2;omega))];exact h2
 ·unfold updf at hne ⊢;by_cases hio:i=o
  ·rw[if_pos hio] at hne;exact absurd rfl hne
  ·rw[if_neg hio] at hne ⊢;obtain⟨h1,h2⟩:=h.a i hi hne;refine⟨h1,?_⟩;rw[if_neg (fun x=>hio (h.inj i o hi ho hne (by omega)))];exact h2
theorem ofTo_mem{ow:Nat->Nat}{b:Nat}:∀ {n x:Nat},x∈ofTo ow b n↔∃j,j<n/\ow (8*b+j)≠0/\x=ow (8*b+j)-1
 |0,x=>by simp[ofTo]
 | n+1,x=>by
  have ih:=@ofTo_mem ow b n x;unfold ofTo;split
  ·rename_i e
   rw[ih];constructor
   ·rintro⟨j,h1,h2⟩;exact⟨j,by omega,h2⟩
   ·rintro⟨j,h1,h2,h3⟩;refine⟨j,?_,h2,h3⟩;have:j≠n:=fun y=>h2 (by rw[y];exact e);omega
  ·rename_i e
   rw[List.mem_append,ih,List.mem_singleton];constructor
   ·rintro(⟨j,h1,h2⟩|rfl)
    ·exact⟨j,by omega,h2⟩
    ·exact⟨n,by omega,e,rfl⟩
   ·rintro⟨j,h1,h2,h3⟩;by_cases y:j=n
    ·exact .inr (by rw[h3,y])
    ·exact .inl ⟨j,by omega,h2,h3⟩
theorem ofTo_pos{ow:Nat->Nat}{b:Nat}:∀ {n i:Nat} (h:i<(ofTo ow b n).length),∃j,i<=j/\j<n/\ow (8*b+j)≠0/\(ofTo ow b n)[i]=ow (8*b+j)-1
 |0,i,h=>by simp[ofTo] at h
 | n+1,i,h=>by
  have ih:=@ofTo_pos ow b n i;have hle:=ofTo_le ow b n;unfold ofTo at h;by_cases e:ow (8*b+n)=0
  ·have e2:ofTo ow b (n+1)=ofTo ow b n:=if_pos e;simp only[e2];rw[if_pos e] at h;obtain⟨j,h1,h2,h3⟩:=ih h;exact⟨j,h1,by omega,h3⟩
  ·have e2:ofTo ow b (n+1)=ofTo ow b n++[ow (8*b+n)-1]:=if_neg e;simp only[e2];rw[if_neg e] at h;simp at h;by_cases hi:i<(ofTo ow b n).length
   ·obtain⟨j,h1,h2,h3,h4⟩:=ih hi;exact⟨j,h1,by omega,h3,by rw[List.getElem_append_left hi];exact h4⟩
   ·have:i=(ofTo ow b n).length:=by omega
    subst this;exact⟨n,hle,by omega,e,by simp⟩
theorem ofTo_nodup{at_ ow:Nat->Nat}(h:Con at_ ow){b:Nat}(hb:b<12):∀ {n:Nat},n<=8->(ofTo ow b n).Nodup
 |0,_=>by simp[ofTo]
 | n+1,hn=>by
  have ih:=ofTo_nodup h hb (n:=n) (by omega);unfold ofTo;split
  ·exact ih
  ·rename_i e
   rw[List.nodup_append];refine⟨ih,by simp,fun x hx y hy hxy=>?_⟩;subst hxy;rw[List.mem_singleton] at hy;obtain⟨j,h1,h2,h3⟩:=ofTo_mem.1 hx;have a1:=(h.o (8*b+j) (by omega) h2).2;have a2:=(h.o (8*b+n) (by omega) e).2;rw[<-h3] at a1;rw[<-hy] at a2;omega
theorem ofL_mem{at_ ow:Nat->Nat}(h:Con at_ ow){b:Nat}(hb:b<12){o:Nat}:o∈ofL ow b↔o<25/\at_ o≠0/\(at_ o-1)/8=b:=by
 unfold ofL;rw[ofTo_mem];constructor
 ·rintro⟨j,h1,h2,rfl⟩;obtain⟨h3,h4⟩:=h.o (8*b+j) (by omega) h2;rw[h4];exact⟨by omega,by omega,by omega⟩
 ·rintro⟨h1,h2,h3⟩;obtain⟨h4,h5⟩:=h.a o h1 h2;refine⟨(at_ o-1)%8,Nat.mod_lt _ (by omega),?_⟩;rw[show 8*b+(at_ o-1)%8=at_ o-1 by omega,h5];exact⟨by omega,by omega⟩
theorem ofL_len{at_ ow:Nat->Nat}(h:Con at_ ow){b:Nat}(hb:b<12):(ofL ow b).length<=lv at_ b :=
 nodup_lv (ofTo_nodup h hb (Nat.le_refl _)) (fun o ho=>(ofL_mem h hb).1 ho)
structure InvL(K:KS)(P:CS)(k:Cp)(m:Int):Prop where
 ok:Okay P k K.at_ m
 uq:P.uniq
 en:∀o,o<25->K.at_ o≠0->∃t D,P.pg (K.at_ o-1)=.full t D/\K.en o=⟨t.seq,t.copy,false⟩
 fl:∀o,o<24->k.fl o=K.fl o
 next:(∀p t D,p<96->P.pg p=.full t D->t.seq<K.next)/\1<=K.next/\K.next<=m/\∀o,o<24->K.fl o<K.next
 con:Con K.at_ K.ow
structure InvB(K:KS)(P:CS):Prop where
 st:∀b,b<12->K.st b<=2
 opn:∀b,b<12->K.st b=1->K.fo=true/\K.fb=b
 fst:K.fo=true->K.st K.fb=1
 bl:∀b i,b<12->K.st b=0->i<8->P.pg (b*8+i)=.blank
 fr:K.fo=true->∀i,K.fi<=i->i<8->P.pg (K.fb*8+i)=.blank
 fb:K.fb<12
 fi:K.fi<=8
 pn:K.pn<=12
structure InvH(K:KS):Prop where
 hb:Hl.HB K.F
 sc:∀b,b<12->K.F (12+b)=0
 cur:K.cur<96
theorem InvL.page{K:KS}{P:CS}{k:Cp}{m:Int}(h:InvL K P k m){o:Nat}(ho:o<25)(e:K.at_ o≠0):K.at_ o-1<96/\∃t D,P.pg (K.at_ o-1)=.full t D/\K.en o=⟨t.seq,t.copy,false⟩/\t.of=o/\t.ok/\t.place=(K.at_ o-1:Nat)/\t.lost=false/\cutD D=D:=by
 obtain⟨hp,t,D,e1,e2,_⟩:=h.ok.led.yes o ho e;obtain⟨t',D',e1',e3⟩:=h.en o ho e;rw[e1] at e1'
 cases e1'
 obtain⟨v1,v2,v3,v4,v5⟩:=h.ok.gd.val _ _ _ hp e1;exact⟨hp,t,D,e1,e3,e2,v1,v2,v3,v5⟩
theorem Led.dead{P:CS}{k:Cp}{L:Nat->Nat}(h:Led P k L){b:Nat}(hb:∀i,i<8->P.pg (b*8+i)=.blank):lv L b=0:=lv_zero.2 fun o ho e hh=>by
 obtain⟨t,D,e1,_⟩:=h.page ho e;have:=hb ((L o-1)%8) (Nat.mod_lt _ (by omega));rw[show b*8+(L o-1)%8=L o-1 by omega,e1] at this
 cases this
theorem room_of{st L:Nat->Nat}(h:∀b,b<12->st b=0->lv L b=0)(hf:5<=cntS st 0):5<=cntS (lv L) 0:=Nat.le_trans hf (cntTo_mono h)
def cpPg(K:KS)(P:CS)(d:Nat)(os:List Nat)(q:Nat):Pg:=if q/8=d/\q%8<os.length then .full (cpTag K d (q%8) (os.getD (q%8) 0)) (cutD (dataAt P (K.at_ (os.getD (q%8) 0)-1))) else P.pg q
theorem cpPg_out{K:KS}{P:CS}{d:Nat}{os:List Nat}{q:Nat}(h:q/8≠d):cpPg K P d os q=P.pg q:=if_neg fun x=>h x.1
theorem getD_snoc{os:List Nat}{o i:Nat}(h:i<os.length):(os++[o]).getD i 0=os.getD i 0:=by
 simp[List.getD,List.getElem?_append_left h]
theorem getD_last{os:List Nat}{o:Nat}:(os++[o]).getD os.length 0=o:=by
 simp[List.getD]
theorem cpPg_snoc{K:KS}{P:CS}{d:Nat}{os:List Nat}{o:Nat}(h8:os.length<8)(q:Nat):cpPg K P d (os++[o]) q=if q=d*8+os.length then .full (cpTag K d os.length o) (cutD (dataAt P (K.at_ o-1))) else cpPg K P d os q:=by
 unfold cpPg;rw[List.length_append,List.length_singleton];by_cases e:q=d*8+os.length
 ·have e1:q/8=d:=by omega
  have e2:q%8=os.length:=by omega
  rw[if_pos e,if_pos ⟨e1,by omega⟩,e2,getD_last]
 ·rw[if_neg e];by_cases h:q/8=d/\q%8<os.length
  ·rw[if_pos h,if_pos ⟨h.1,by omega⟩,getD_snoc h.2]
  ·rw[if_neg h,if_neg (fun x=>h ⟨x.1,by omega⟩)]
theorem cp_all{K:KS}{P:CS}{d:Nat}(hb:Hl.HB K.F)(hc:P.calm)(hd:d<12)(hat:∀o,o<25->K.at_ o<=96)(os:List Nat)(ho:∀o,o∈os->o<25/\K.at_ o≠0/\(K.at_ o-1)/8≠d)(h8:os.length<=8) :
  (∀q,(cpTo K P d os).P.pg q=cpPg K P d os q)/\(∀i,i<os.length->(cpTo K P d os).l.getD i Tg.zero=cpTag K d i (os.getD i 0)) /\
  ∀T,T∈(cpTo K P d os).tr->T.calm/\(∀q,q/8≠d->T.pg q=P.pg q)/\∃m,m<os.length/\∀q t D,T.pg q=.full t D->cpPg K P d (os.take m) q=.full t D:=by
 induction os using snoc_rec with
 | h0 =>
  refine⟨fun q=>?_,fun i hi=>?_,fun T hT=>?_⟩
  ·unfold cpPg;rw[if_neg (by simp)];rfl
  ·simp at hi
  ·cases hT
 | h1 os o ih =>
  have ho':∀x,x∈os->x<25/\K.at_ x≠0/\(K.at_ x-1)/8≠d:=fun x hx=>ho x (List.mem_append_left _ hx);have hoo:=ho o (List.mem_append_right _ (List.mem_singleton.2 rfl));have h7:os.length<8:=by simp at h8;omega
  have hi:=cpTo_inv hb hc hd hat os (fun x hx=>⟨(ho' x hx).1,(ho' x hx).2.1⟩) (by omega);obtain⟨ih1,ih2,ih3⟩:=ih ho' (by omega);rw[cpTo_snoc];obtain⟨F,hF⟩:=hi.same;have eat:(cpTo K P d os).K.at_=K.at_:=by rw[hF]
  have een:∀j x,cpTag (cpTo K P d os).K d j x=cpTag K d j x:=fun j x=>by rw[hF];rfl
  have hlen:=hi.len;have hcm:=hi.calm;have edat:dataAt (cpTo K P d os).P (K.at_ o-1)=dataAt P (K.at_ o-1):=by
   unfold dataAt;rw[ih1,cpPg_out hoo.2.2]
  generalize cpTo K P d os=S at *;unfold cpStep;simp only;rw[hlen,eat,een,edat];refine⟨fun q=>?_,fun i hi=>?_,fun T hT=>?_⟩
  ·rw[lay_pg,cpPg_snoc h7];split
   ·rfl
   ·exact ih1 q
  ·simp only[List.length_append,List.length_singleton] at hi;by_cases hil:i<os.length
   ·rw[getD_snoc hil, <-ih2 i hil];simp[List.getD,List.getElem?_append_left (by omega:i<S.l.length)]
   ·have:i=os.length:=by omega
    subst this;rw[getD_last];simp[List.getD, <-hlen]
  ·rcases List.mem_append.1 hT with hT|hT
   ·obtain⟨a1,a2,m,a3,a4⟩:=ih3 T hT;refine⟨a1,a2,m,by simp;omega,?_⟩;rw[List.take_append_of_le_length (by omega)];exact a4
   ·have hq:(d*8+os.length)/8=d:=by omega
    have key:T.calm/\∀q,T.pg q=S.P.pg q\/q=d*8+os.length/\∃n,T.pg q=.torn n:=by
     have c0:=CS.readE_calm hcm (K.at_ o-1);have c1:=CS.setPg_calm c0 (d*8+os.length) (.torn 1);have c2:=CS.setPg_calm c1 (d*8+os.length) (.torn 2);have c3:=CS.setPg_calm c2 (d*8+os.length) (.torn 3);unfold CS.layT at hT;simp only[List.mem_cons,List.not_mem_nil,or_false] at hT;rcases hT with rfl|rfl|rfl|rfl
     ·exact⟨c0,fun q=>.inl rfl⟩
     ·refine⟨c1,fun q=>?_⟩;by_cases e:q=d*8+os.length
      ·exact .inr ⟨e,1,by rw[e,CS.setPg_same]⟩
      ·exact .inl (by rw[CS.setPg_ne _ _ e];rfl)
     ·refine⟨c2,fun q=>?_⟩;by_cases e:q=d*8+os.length
      ·exact .inr ⟨e,2,by rw[e,CS.setPg_same]⟩
      ·exact .inl (by rw[CS.setPg_ne _ _ e,CS.setPg_ne _ _ e];rfl)
     ·refine⟨c3,fun q=>?_⟩;by_cases e:q=d*8+os.length
      ·exact .inr ⟨e,3,by rw[e,CS.setPg_same]⟩
      ·exact .inl (by rw[CS.setPg_ne _ _ e,CS.setPg_ne _ _ e,CS.setPg_ne _ _ e];rfl)
    obtain⟨k1,k2⟩:=key;refine⟨k1,fun q hne=>?_,os.length,by simp,fun q t D e=>?_⟩
    ·rcases k2 q with h|⟨h,_⟩
     ·rw[h,ih1,cpPg_out hne]
     ·exact absurd (by omega) hne
    ·rw[List.take_left']
     ·rcases k2 q with h|⟨_,n,h⟩
      ·rw[h,ih1] at e;exact e
      ·rw[h] at e
       cases e
     ·rfl
theorem cp_okay{K:KS}{P T:CS}{k:Cp}{m:Int}(h:InvL K P k m){v d:Nat}(hv:v<12)(hd:d<12)(hdl:∀i,i<8->P.pg (d*8+i)=.blank)(x:Nat)
  (h1:T.calm) (h2:∀q,q/8≠d->T.pg q=P.pg q) (h3:∀q t D,T.pg q=.full t D->cpPg K P d ((ofL K.ow v).take x) q=.full t D):Okay T k K.at_ m:=by
 have hd0:=h.ok.led.dead hdl;have hmem:∀i,i<((ofL K.ow v).take x).length->∃hi:i<(ofL K.ow v).length,((ofL K.ow v).take x).getD i 0=(ofL K.ow v)[i]:=fun i hi=>by
  rw[List.length_take] at hi;refine⟨by omega,?_⟩;simp[List.getD,List.getElem?_take,show i<x by omega,show i<(ofL K.ow v).length by omega]
 have hnd:=ofTo_nodup h.con hv (Nat.le_refl _);refine h.ok.copies h.uq hd0 h1 (fun q t D hq e=>?_) (fun o ho e=>h2 _ (lv_zero.1 hd0 o ho e));have e3:=h3 q t D e;unfold cpPg at e3;by_cases hc:q/8=d/\q%8<((ofL K.ow v).take x).length
 ·rw[if_pos hc] at e3;obtain⟨hi,eo⟩:=hmem (q%8) hc.2;obtain⟨j,j1,j2,j3,j4⟩:=ofTo_pos (ow:=K.ow) (b:=v) (n:=8) (i:=q%8) hi;have hom:=(ofL_mem h.con hv).1 (List.getElem_mem hi);rw[eo] at e3;have eoj:(ofL K.ow v)[q%8]=K.ow (8*v+j)-1:=j4;have hcon:=h.con.o (8*v+j) (by omega) j3;rw[<-eoj] at hcon;generalize hgo:(ofL K.ow v)[q%8]=o at *;obtain⟨a1,t0,D0,a2,a3,a4,a5,a6,a7,a8⟩:=h.page hom.1 hom.2.1;have edat:dataAt P (K.at_ o-1)=D0:=by
   unfold dataAt;rw[a2]
  rw[edat,a8] at e3;have hte:t=⟨(q:Int),t0.of,t0.seq,(t0.copy+1)%256,t0.lost⟩:=by
   injection e3 with e4 e5;rw[<-e4];unfold cpTag;rw[a3,a4,a7,show d*8+q%8=q by omega]
  have hD:D=D0:=by
   injection e3 with e4 e5;exact e5.symm
  refine .inr ⟨hc.1,fun hn=>?_,o,hom.1,hom.2.1,⟨t0,by rw[hD];exact a2,hte⟩,fun q' t' D' hq' e' hs=>?_⟩
  ·rw[hte] at hn;have:=a5;unfold Tg.ok at this;have h6:=this.2.2.2.2.2.2.2.2.2 hn;rw[a6] at h6;omega
  ·have e3':=h3 q' t' D' e';unfold cpPg at e3';by_cases hc':q'/8=d/\q'%8<((ofL K.ow v).take x).length
   ·rw[if_pos hc'] at e3';obtain⟨hi',eo'⟩:=hmem (q'%8) hc'.2;have hom':=(ofL_mem h.con hv).1 (List.getElem_mem hi');rw[eo'] at e3';obtain⟨b1,t1,D1,b2,b3,b4,b5,b6,b7,b8⟩:=h.page hom'.1 hom'.2.1;injection e3' with f4 f5;have hs1:t1.seq=t0.seq:=by
     rw[hte, <-f4] at hs;unfold cpTag at hs;rw[b3] at hs;exact hs
    have:=h.uq _ _ _ _ _ _ b1 a1 b2 a2 hs1;have hoo:(ofL K.ow v)[q'%8]=o:=h.con.inj _ _ hom'.1 hom.1 hom'.2.1 (by omega);have:q'%8=q%8:=(List.getElem_inj (h₀:=hi') (h₁:=hi) hnd).1 (by rw[hoo];exact hgo.symm);exact .inl (by omega)
   ·rw[if_neg hc'] at e3';exact .inr (h.uq _ _ _ _ _ _ hq' a1 e3' a2 (by rw[hs,hte]))
 ·rw[if_neg hc] at e3;exact .inl e3
theorem mvTo_same(K:KS)(l:List Tg):∃A O E M,mvTo K l={ K with at_:=A,ow:=O,en:=E,moves:=M }:=by
 induction l using snoc_rec with
 |h0=>exact⟨K.at_,K.ow,K.en,K.moves,rfl⟩
 | h1 l t ih =>
  obtain⟨A,O,E,M,e⟩:=ih;rw[mvTo_snoc,e];exact⟨_,_,_,_,rfl⟩
structure MvHyp(K:KS)(d:Nat)(os:List Nat)(l:List Tg)(c:Nat->En):Prop where
 con:Con K.at_ K.ow
 hd:d<12
 o8:os.length<=8
 nd:os.Nodup
 len:l.length=os.length
 lt:∀i,i<os.length->os.getD i 0<25/\holdsB (d*8+i) (os.getD i 0)=true
 dead:∀o,o<25->K.at_ o≠0->(K.at_ o-1)/8≠d
 tag:∀i,i<os.length->(l.getD i Tg.zero).of=(os.getD i 0:Nat)/\(l.getD i Tg.zero).place=(d*8+i:Nat)/\(⟨(l.getD i Tg.zero).seq,(l.getD i Tg.zero).copy,(l.getD i Tg.zero).lost⟩:En)=c (os.getD i 0)
theorem getD_get{α:Type}{l:List α}{x:α}{i:Nat}(h:i<l.length):l.getD i x=l[i]:=by
 simp[List.getD,h]
theorem mv_all{K:KS}{d:Nat}{os:List Nat}{l:List Tg}{c:Nat->En}(H:MvHyp K d os l c):∀i,i<=os.length ->
  Con (mvTo K (l.take i)).at_ (mvTo K (l.take i)).ow/\(∀j,j<i->(mvTo K (l.take i)).at_ (os.getD j 0)=d*8+j+1/\(mvTo K (l.take i)).en (os.getD j 0)=c (os.getD j 0)) /\
  ∀o,(∀j,j<i->os.getD j 0≠o)->(mvTo K (l.take i)).at_ o=K.at_ o/\(mvTo K (l.take i)).en o=K.en o
 |0,_=>⟨H.con,fun j hj=>by omega,fun o _=>⟨rfl,rfl⟩⟩
 | i+1,hi=>by
  obtain⟨h1,h2,h3⟩:=mv_all H i (by omega);have hil:i<l.length:=by rw[H.len];omega
  have et:l.take (i+1)=l.take i++[l.getD i Tg.zero]:=by
   rw[getD_get hil];simp
  rw[et,mvTo_snoc];obtain⟨t1,t2,t3⟩:=H.tag i (by omega);obtain⟨o1,o2⟩:=H.lt i (by omega);have h8:=H.o8;have hd:=H.hd;have ndj:∀j,j<i->os.getD j 0≠os.getD i 0:=fun j hj e=>by
   rw[getD_get (by omega),getD_get (by omega)] at e;have:=(List.getElem_inj (h₀:=by omega) (h₁:=by omega) H.nd).1 e;omega
  generalize hod:os.getD i 0=o at *;generalize l.getD i Tg.zero=t at *;generalize mvTo K (l.take i)=A at *;have e1:t.of.toNat=o:=by rw[t1];rfl
  have e2:t.place.toNat=d*8+i:=by rw[t2];rfl
  unfold mvK;rw[e1,e2];have hp:d*8+i<96:=by omega
  have h0:A.ow (d*8+i)=0:=by
   by_cases hz:A.ow (d*8+i)=0
   ·exact hz
   obtain⟨c1,c2⟩:=h1.o (d*8+i) hp hz;by_cases hex:∃j,j<i/\os.getD j 0=A.ow (d*8+i)-1
   ·obtain⟨j,hj,ej⟩:=hex;have:=(h2 j hj).1;rw[ej,c2] at this;omega
   ·have:=(h3 (A.ow (d*8+i)-1) (fun j hj e=>hex ⟨j,hj,e⟩)).1;rw[c2] at this;exact absurd (by omega) (H.dead (A.ow (d*8+i)-1) (by omega) (by omega))
  obtain⟨s1,s2⟩:=h1.set o1 hp h0 o2;unfold stK;simp only;rw[s2];rw[s2] at s1;have edi:os.getD i 0=o:=hod;refine⟨s1,fun j hj=>?_,fun x hx=>?_⟩
  ·unfold updf;by_cases hji:j<i
   ·rw[if_neg (ndj j hji),if_neg (ndj j hji)];exact h2 j hji
   ·have:j=i:=by omega
    subst this;rw[edi,if_pos rfl,if_pos rfl];exact⟨by omega,t3⟩
  ·have hxo:x≠o:=fun e=>hx i (by omega) (by rw[edi,e]);unfold updf;rw[if_neg hxo,if_neg hxo];exact h3 x (fun j hj=>hx j (by omega))
theorem cntTo_none{st:Nat->Nat}{s:Nat}:∀ {n:Nat},(∀b,b<n->st b≠s)->cntTo st s n=0
 |0,_=>rfl
 | n+1,h=>by
  unfold cntTo;rw[cntTo_none (n:=n) (fun b hb=>h b (by omega)),if_neg (h n (by omega))]
structure Shut(K K0:KS):Prop where
 eq:∃st fo fb fi,K0={ K with st:=st,fo:=fo,fb:=fb,fi:=fi }
 st:∀b,K0.st b=K.st b\/K.st b=1/\K0.st b=2
 fr:(K0.fo=K.fo/\K0.fb=K.fb/\K0.fi=K.fi)\/K0.fo=false
 cnt:cntS K0.st 0=cntS K.st 0
theorem InvB.shut{K:KS}{P:CS}(I:InvB K P):InvB (shK K) P/\Shut K (shK K)/\(shK K).fo=false/\(K.fo=true->(shK K).st K.fb=2):=by
 unfold shK;by_cases h:K.fo=true
 ·rw[if_pos h];have h1:=I.fst h;have hfb:=I.fb;have hst:setSt K.st K.fb 2=updf K.st K.fb 2:=by
   unfold setSt;rw[if_neg (fun x=>by rw[h1] at x;omega)]
  rw[hst];refine⟨⟨fun b hb=>?_,fun b hb e=>?_,(fun e=>nomatch e),fun b i hb e hi=>?_,(fun e=>nomatch e),by simp,by simp,I.pn⟩,⟨⟨_,_,_,_,rfl⟩,fun b=>?_,.inr rfl,?_⟩,rfl,fun _=>?_⟩
  ·show updf K.st K.fb 2 b<=2;unfold updf;split
   ·omega
   ·exact I.st b hb
  ·have e:updf K.st K.fb 2 b=1:=e;unfold updf at e;by_cases hbf:b=K.fb
   ·rw[if_pos hbf] at e;omega
   ·rw[if_neg hbf] at e;exact absurd (I.opn b hb e).2.symm hbf
  ·have e:updf K.st K.fb 2 b=0:=e;unfold updf at e;by_cases hbf:b=K.fb
   ·rw[if_pos hbf] at e;omega
   ·rw[if_neg hbf] at e;exact I.bl b i hb e hi
  ·show updf K.st K.fb 2 b=K.st b\/_;unfold updf;by_cases hbf:b=K.fb
   ·rw[if_pos hbf,hbf];exact .inr ⟨h1,if_pos rfl⟩
   ·rw[if_neg hbf];exact .inl rfl
  ·have:=cntS_upd K.st 2 0 hfb;rw[if_neg (by omega),if_neg (by omega)] at this;exact this
  ·show updf K.st K.fb 2 K.fb=2;exact if_pos rfl
 ·rw[if_neg h];exact⟨I,⟨⟨K.st,K.fo,K.fb,K.fi,rfl⟩,fun _=>.inl rfl,.inl ⟨rfl,rfl,rfl⟩,rfl⟩,by simpa using h,fun x=>absurd x h⟩
theorem InvB.vc0{K:KS}{P:CS}(I:InvB K P){v:Nat}(hv:v<12)(h0:K.st v≠0):InvB (vc0 K v) P/\Shut K (vc0 K v)/\(vc0 K v).st v=2:=by
 obtain⟨h1,h2,h3,h4⟩:=I.shut;unfold Go.Proofs.YtaeikigfgfcadaaGreat.vc0;by_cases h:(if K.fo then (K.fb:Int) else -1)=v
 ·rw[if_pos h];by_cases hf:K.fo=true
  ·rw[if_pos hf] at h;have:K.fb=v:=by omega
   exact⟨h1,h2,by rw[<-this];exact h4 hf⟩
  ·rw[if_neg hf] at h;omega
 ·rw[if_neg h];refine⟨I,⟨⟨K.st,K.fo,K.fb,K.fi,rfl⟩,fun _=>.inl rfl,.inl ⟨rfl,rfl,rfl⟩,rfl⟩,?_⟩;have h5:=I.st v hv;by_cases h6:K.st v=1
  ·obtain⟨h7,h8⟩:=I.opn v hv h6;rw[if_pos h7] at h;omega
  ·omega
theorem cpTo_hi{K:KS}{P:CS}{d:Nat}(hd:d<12)(hat:∀o,o<25->K.at_ o<=96)(hb:Hl.HB K.F)(hc:P.calm)(os:List Nat)(ho:∀o,o∈os->o<25/\K.at_ o≠0)(h8:os.length<=8):∀j,12<=j->(cpTo K P d os).K.F j=K.F j:=by
 induction os using snoc_rec with
 |h0=>exact fun j _=>rfl
 | h1 os o ih =>
  intro j hj;have ho':∀x,x∈os->x<25/\K.at_ x≠0:=fun x hx=>ho x (List.mem_append_left _ hx);have hoo:=ho o (List.mem_append_right _ (List.mem_singleton.2 rfl));have h7:os.length<8:=by simp at h8;omega
  have hi:=cpTo_inv hb hc hd hat os ho' (by omega);have ih:=ih ho' (by omega) j hj;rw[cpTo_snoc];obtain⟨F,hF⟩:=hi.same;have e1:(cpTo K P d os).K.at_=K.at_:=by rw[hF]
  have hp:=hat o hoo.1;have hlen:=hi.len;show Hl.rdF (Hl.rdF (cpTo K P d os).K.F (((cpTo K P d os).K.at_ o-1)/8)) ((d*8+(cpTo K P d os).l.length)/8) j=_;rw[e1];unfold Hl.rdF Hl.upd;rw[if_neg (by omega),if_neg (by omega)];exact ih
structure Gone(K K':KS)(v d:Nat):Prop where
 free:∀b,b<12->(K'.st b=0↔b=v\/(vc0 K v).st b=0/\b≠d)
 pn:K'.pn=d+1
 fr:(K'.fo=(vc0 K v).fo/\K'.fb=(vc0 K v).fb/\K'.fi=(vc0 K v).fi/\(vc0 K v).fo=true)\/(K'.fo=true/\K'.fb=d/\K'.fi=(ofL K.ow v).length)
 stay:∀o,o<25->K.at_ o≠0->(K.at_ o-1)/8≠v->K'.at_ o=K.at_ o
 go:∀o,o<25->K.at_ o≠0->(K.at_ o-1)/8=v->K'.at_ o≠0/\(K'.at_ o-1)/8=d
 dv:d≠v
 d0:(vc0 K v).st d=0
 v2:(vc0 K v).st v=2
structure VcEnd(K:KS)(P:CS)(k:Cp)(m:Int)(v d:Nat):Prop where
 hyp:VcHyp K P v d
 il:InvL (vcK K P v d) (vcP K P v d) k m
 ib:InvB (vcK K P v d) (vcP K P v d)
 ih:InvH (vcK K P v d)
 cnt:cntS (vcK K P v d).st 0=cntS K.st 0
 tr:∀T,T∈vcT K P v d->Okay T k K.at_ m/\∀a,Shows P K.at_ a->Shows T K.at_ a
 sh:∀a,Shows P K.at_ a->Shows (vcP K P v d) (vcK K P v d).at_ a
 same:∃st fo fb fi pn at_ ow en F mo,vcK K P v d={ K with st:=st,fo:=fo,fb:=fb,fi:=fi,pn:=pn,at_:=at_,ow:=ow,en:=en,F:=F,moves:=mo }
 tag:∀o,o<25->K.at_ o≠0->(vcK K P v d).at_ o≠0/\((vcK K P v d).en o).seq=(K.en o).seq
 zero:∀o,o<25->K.at_ o=0->(vcK K P v d).at_ o=0
 room:K.fo=false->lv K.at_ v<=5->∀of,of<=24->roomB (vcK K P v d).fo (vcK K P v d).fi of=true
 gone:Gone K (vcK K P v d) v d
theorem vac_end{K:KS}{P:CS}{k:Cp}{m:Int}(IL:InvL K P k m)(IB:InvB K P)(IH:InvH K)(hr:5<=cntS K.st 0){v:Nat}(hv:v<12)(h0:K.st v≠0):∃d,VcEnd K P k m v d:=by
 obtain⟨B0,S0,hv2⟩:=IB.vc0 hv h0;obtain⟨st0,fo0,fb0,fi0,e0⟩:=S0.eq;obtain⟨d,htk,hd,hd0⟩:=takeN_some B0.pn (by rw[S0.cnt];omega);have hdv:d≠v:=fun e=>by rw[e,hv2] at hd0;omega
 have hbl:∀i,i<8->P.pg (d*8+i)=.blank:=fun i hi=>B0.bl d i hd hd0 hi;have hd1:=IL.ok.led.dead hbl;have hdead:∀o,o<25->K.at_ o≠0->(K.at_ o-1)/8≠d:=lv_zero.1 hd1;have q1:(vc1 K v d).at_=K.at_/\(vc1 K v d).ow=K.ow/\(vc1 K v d).en=K.en/\(vc1 K v d).F=K.F:=by
  unfold vc1;rw[e0];exact⟨rfl,rfl,rfl,rfl⟩
 obtain⟨qa,qo,qe,qF⟩:=q1;have hos:∀o,o∈ofL K.ow v->o<25/\K.at_ o≠0/\(K.at_ o-1)/8=v:=fun o ho=>(ofL_mem IL.con hv).1 ho;have h8:=ofL_le K.ow v;have htag:∀i (h:i<(ofL K.ow v).length),(cpTag K d i (ofL K.ow v)[i]).ok/\holdsB (d*8+i) (ofL K.ow v)[i]=true:=fun i hi=>by
  obtain⟨j,j1,j2,j3,j4⟩:=ofTo_pos (ow:=K.ow) (b:=v) (n:=8) (i:=i) hi;have hm:=hos _ (List.getElem_mem hi);have j4:(ofL K.ow v)[i]=K.ow (8*v+j)-1:=j4;have hcon:=(IL.con.o (8*v+j) (by omega) j3).2;rw[<-j4] at hcon;generalize (ofL K.ow v)[i]=o at *;obtain⟨a1,t0,D0,a2,a3,a4,a5,a6,a7,a8⟩:=IL.page hm.1 hm.2.1;have h6:t0.of≠24->(d*8+i)%8<=5:=fun hn=>by
   have:=a5;unfold Tg.ok at this;have:=this.2.2.2.2.2.2.2.2.2 hn;rw[a6] at this;omega
  constructor
  ·have:=copy_ok a5 (q:=d*8+i) (by omega) h6;unfold cpTag;rw[a3];rw[a4,a7] at this;exact this
  ·unfold holdsB;rw[a4] at h6;by_cases ho:o=24
   ·simp[ho]
   ·have:=h6 (by omega);simp;omega
 have etag:∀i o,cpTag (vc1 K v d) d i o=cpTag K d i o:=fun i o=>by unfold cpTag;rw[qe]
 have hCp:CpHyp (vc1 K v d) P v d:=by
  refine⟨by rw[qF];exact IH.hb,IL.ok.gd.calm,by rw[qa];exact fun o ho=>IL.ok.led.lt ho,by rw[qo];exact IL.con.mw.lo,hv,hd,fun o ho=>?_,hbl,by rw[qo];exact fun i hi=>by rw[etag];exact(htag i hi).1⟩;rw[qo] at ho;rw[qa,qe];have hm:=hos o ho;obtain⟨a1,t0,D0,a2,a3,a4,a5,a6,a7,a8⟩:=IL.page hm.1 hm.2.1;have:=a5;unfold Tg.ok at this;exact⟨by omega,hm.2.1,by rw[a3];exact⟨this.2.2.2.2.2.2.1,this.2.2.2.2.2.2.2.1⟩,hdead o hm.1 hm.2.1,t0,D0,a2,a4,by rw[a3]⟩
 have hb1:Hl.HB (vc1 K v d).F:=hCp.hb;have ho1:∀o,o∈ofL K.ow v->o<25/\(vc1 K v d).at_ o≠0:=fun o ho=>by rw[qa];exact⟨(hos o ho).1,(hos o ho).2.1⟩
 have hinv:=cpTo_inv hb1 hCp.calm hd hCp.at96 (ofL K.ow v) ho1 h8;have hhi:=cpTo_hi hd hCp.at96 hb1 hCp.calm (ofL K.ow v) ho1 h8;obtain⟨hpg,hlt,htr⟩:=cp_all hb1 hCp.calm hd hCp.at96 (ofL K.ow v) (fun o ho=>⟨(ho1 o ho).1,(ho1 o ho).2,by rw[qa];exact hdead o (hos o ho).1 (hos o ho).2.1⟩) h8;have ecp:∀l q,cpPg (vc1 K v d) P d l q=cpPg K P d l q:=fun l q=>by unfold cpPg;rw[qa];simp only[etag]
 obtain⟨F,hF⟩:=hinv.same;have hS:vcS K P v d=cpTo (vc1 K v d) P d (ofL K.ow v):=by unfold vcS;rw[qo]
 have hlen:=hinv.len;have hcal:=hinv.calm;have hHB:=hinv.hb;have hnd:=ofTo_nodup IL.con hv (Nat.le_refl 8);have hnd:(ofL K.ow v).Nodup:=hnd
 -- the trace
 have hTr:∀T,T∈vcT K P v d->Okay T k K.at_ m/\∀q,q/8≠d->T.pg q=P.pg q:=fun T hT=>by
  unfold vcT at hT;rw[hS] at hT;rcases List.mem_append.1 hT with hT|hT
  ·obtain⟨a1,a2,x,a3,a4⟩:=htr T hT;exact⟨cp_okay IL hv hd hbl x a1 a2 (fun q t D e=>by rw[<-ecp];exact a4 q t D e),a2⟩
  ·rw[List.mem_singleton.1 hT];have a2:∀q,q/8≠d->(cpTo (vc1 K v d) P d (ofL K.ow v)).P.pg q=P.pg q:=fun q hq=>by rw[hpg,ecp,cpPg_out hq]
   exact⟨cp_okay IL hv hd hbl 8 hcal a2 (fun q t D e=>by rw[List.take_of_length_le h8, <-ecp, <-hpg];exact e),a2⟩
 generalize cpTo (vc1 K v d) P d (ofL K.ow v)=S at *;have hF2:∀b,b<12->F (12+b)=0:=fun b hb=>by
  have:=hhi (12+b) (by omega);rw[hF,qF] at this;exact this.trans (IH.sc b hb)
 have hFB:Hl.HB F:=by rw[hF] at hHB;exact hHB
 rw[e0] at B0 S0 hv2 htk hd0;have hst0:st0 v=2:=hv2;have hsd0:st0 d=0:=hd0;have hK2:vc2 S.K v={ K with st:=updf (updf st0 d 1) v 0,fo:=fo0,fb:=fb0,fi:=fi0,pn:=d+1,F:=Hl.erF F v }:=by
  unfold vc2;rw[hF];unfold vc1;rw[e0];have:setSt (updf st0 d 1) v 0=updf (updf st0 d 1) v 0:=by
   unfold setSt;rw[if_neg (fun x=>by
    have h1:=x.1;unfold updf at h1;rw[if_neg (fun e=>hdv e.symm),hst0] at h1;omega)]
  simp only;rw[this]
 have hvcS:=hS;have H:MvHyp (vc2 S.K v) d (ofL K.ow v) S.l (fun o=>⟨(K.en o).seq,((K.en o).copy+1)%256,(K.en o).lost⟩):=by
  rw[hK2];refine⟨IL.con,hd,h8,hnd,hlen,fun i hi=>?_,hdead,fun i hi=>?_⟩
  ·rw[getD_get hi];exact⟨(hos _ (List.getElem_mem hi)).1,(htag i hi).2⟩
  ·rw[hlt i hi,etag];exact⟨rfl,rfl,rfl⟩
 have hfin:=mv_all H (ofL K.ow v).length (Nat.le_refl _);have htk':S.l.take (ofL K.ow v).length=S.l:=by rw[<-hlen,List.take_length]
 rw[htk'] at hfin;obtain⟨MA,MO,ME,MM,hmv⟩:=mvTo_same (vc2 S.K v) S.l;rw[hmv] at hfin;obtain⟨hcon,hin,hout⟩:=hfin;have hout:∀o,(∀j,j<(ofL K.ow v).length->(ofL K.ow v).getD j 0≠o)->MA o=K.at_ o/\ME o=K.en o:=fun o ho=>by
  have:=hout o ho;rw[hK2] at this;exact this
 have hin:∀j,j<(ofL K.ow v).length->MA ((ofL K.ow v).getD j 0)=d*8+j+1/\ME ((ofL K.ow v).getD j 0)=⟨(K.en ((ofL K.ow v).getD j 0)).seq,((K.en ((ofL K.ow v).getD j 0)).copy+1)%256,(K.en ((ofL K.ow v).getD j 0)).lost⟩:=hin;have hcon:Con MA MO:=hcon;rw[hK2] at hmv
 -- the whole
 obtain⟨st',fo',fb',fi',hend,ba,bb,bc,bd,be,bf⟩:∃st' fo' fb' fi',vcK K P v d={ K with st:=st',fo:=fo',fb:=fb',fi:=fi',pn:=d+1,F:=Hl.erF F v,at_:=MA,ow:=MO,en:=ME,moves:=MM }/\(∀b,b<12->st' b<=2)/\(∀b,b<12->(st' b=0↔b=v\/st0 b=0/\b≠d)) /\
   (∀b,b<12->st' b=1->fo'=true/\fb'=b)/\(fo'=true->st' fb'=1)/\((fo'=fo0/\fb'=fb0/\fi'=fi0/\fo0=true)\/(fo'=true/\fb'=d/\fi'=(ofL K.ow v).length))/\cntS st' 0=cntS st0 0:=by
  have hc2:cntS (updf (updf st0 d 1) v 0) 0=cntS st0 0:=by
   have h1:=cntS_upd st0 1 0 hd;have h2:=cntS_upd (updf st0 d 1) 0 0 hv;rw[if_pos hsd0] at h1;rw[if_neg (by unfold updf;rw[if_neg (fun e=>hdv e.symm),hst0];omega)] at h2;simp at h1 h2;omega
  have h2d:updf (updf st0 d 1) v 0 d=1:=by
   unfold updf;rw[if_neg hdv,if_pos rfl]
  have hle:∀b,b<12->updf (updf st0 d 1) v 0 b<=2:=fun b hb=>by
   unfold updf;split
   ·omega
   ·split
    ·omega
    ·exact B0.st b hb
  unfold vcK;rw[hvcS];unfold endK;rw[hK2,hmv];by_cases hro:roomB fo0 fi0 0=true
  ·rw[if_pos hro];have hfo:fo0=true:=by
    unfold roomB at hro;simp at hro;exact hro.1
   have hs:setSt (updf (updf st0 d 1) v 0) d 2=updf (updf (updf st0 d 1) v 0) d 2:=by
    unfold setSt;rw[if_neg (fun x=>by rw[h2d] at x;omega)]
   have hfd:st0 fb0=1:=B0.fst hfo;refine⟨_,_,_,_,rfl,fun b hb=>?_,fun b hb=>?_,fun b hb e=>?_,fun _=>?_,.inl ⟨rfl,rfl,rfl,hfo⟩,?_⟩
   ·rw[hs];show updf (updf (updf st0 d 1) v 0) d 2 b<=2;rw[updf];split
    ·omega
    ·exact hle b hb
   ·rw[hs];unfold updf;have hvd:v≠d:=fun e=>hdv e.symm;by_cases e1:b=d
    ·simp[e1,hdv]
    ·by_cases e2:b=v
     ·simp[e2,hvd]
     ·simp[e1,e2]
   ·rw[hs] at e;unfold updf at e;by_cases e1:b=d
    ·simp[e1] at e
    ·by_cases e2:b=v
     ·rw[if_neg e1,if_pos e2] at e;omega
     ·simp only[if_neg e1,if_neg e2] at e;exact B0.opn b hb e
   ·have e1:fb0≠d:=fun e=>by rw[e,hsd0] at hfd;omega
    have e2:fb0≠v:=fun e=>by rw[e,hst0] at hfd;omega
    show setSt (updf (updf st0 d 1) v 0) d 2 fb0=1;rw[hs,updf,if_neg e1,updf,if_neg e2,updf,if_neg e1];exact hfd
   ·rw[hs];have:=cntS_upd (updf (updf st0 d 1) v 0) 2 0 hd;rw[if_neg (by rw[h2d];omega)] at this;simp at this;omega
  ·rw[if_neg hro];have key:∃st3 b3 f3 i3,shK { K with st:=updf (updf st0 d 1) v 0,fo:=fo0,fb:=fb0,fi:=fi0,pn:=d+1,F:=Hl.erF F v,at_:=MA,ow:=MO,en:=ME,moves:=MM }={ K with st:=st3,fo:=f3,fb:=b3,fi:=i3,pn:=d+1,F:=Hl.erF F v,at_:=MA,ow:=MO,en:=ME,moves:=MM } /\
     (∀b,b<12->st3 b<=2)/\(∀b,b<12->(st3 b=0↔updf (updf st0 d 1) v 0 b=0))/\(∀b,b<12->st3 b=1->b=d)/\st3 d=1/\cntS st3 0=cntS st0 0:=by
    unfold shK;by_cases hfo:fo0=true
    ·rw[if_pos hfo];have hfd:st0 fb0=1:=B0.fst hfo;have hfb:fb0<12:=B0.fb;have e1:fb0≠d:=fun e=>by rw[e,hsd0] at hfd;omega
     have e2:fb0≠v:=fun e=>by rw[e,hst0] at hfd;omega
     have hf1:updf (updf st0 d 1) v 0 fb0=1:=by
      unfold updf;rw[if_neg e2,if_neg e1];exact hfd
     have hs:setSt (updf (updf st0 d 1) v 0) fb0 2=updf (updf (updf st0 d 1) v 0) fb0 2:=by
      unfold setSt;rw[if_neg (fun x=>by rw[hf1] at x;omega)]
     refine⟨_,_,_,_,rfl,fun b hb=>?_,fun b hb=>?_,fun b hb e=>?_,?_,?_⟩
     ·rw[hs];show updf (updf (updf st0 d 1) v 0) fb0 2 b<=2;rw[updf];split
      ·omega
      ·exact hle b hb
     ·rw[hs];show updf (updf (updf st0 d 1) v 0) fb0 2 b=0↔_;rw[updf];by_cases e3:b=fb0
      ·rw[if_pos e3,e3,hf1];simp
      ·rw[if_neg e3]
     ·rw[hs] at e;unfold updf at e;by_cases e3:b=fb0
      ·simp[e3] at e
      ·by_cases e4:b=v
       ·simp[e3,e4] at e;rw[e4] at e3;simp[e3] at e
       ·by_cases e5:b=d
        ·exact e5
        ·simp only[if_neg e3,if_neg e4,if_neg e5] at e;exact absurd (B0.opn b hb e).2.symm e3
     ·rw[hs];show updf (updf (updf st0 d 1) v 0) fb0 2 d=1;rw[updf,if_neg (fun e=>e1 e.symm)];exact h2d
     ·rw[hs];have:=cntS_upd (updf (updf st0 d 1) v 0) 2 0 hfb;rw[if_neg (by rw[hf1];omega)] at this;simp at this;omega
    ·rw[if_neg hfo];refine⟨_,_,_,_,rfl,hle,fun b hb=>Iff.rfl,fun b hb e=>?_,h2d,hc2⟩;unfold updf at e;by_cases e4:b=v
     ·simp[e4] at e
     ·by_cases e5:b=d
      ·exact e5
      ·simp only[if_neg e4,if_neg e5] at e;exact absurd (B0.opn b hb e).1 hfo
   obtain⟨st3,b3,f3,i3,hsh,c1,c2,c3,c4,c5⟩:=key;refine⟨st3,true,d,S.l.length,(congrArg (fun x:KS=>{ x with fo:=true,fb:=d,fi:=S.l.length }) hsh).trans rfl,c1,fun b hb=>?_,fun b hb e=>⟨rfl,(c3 b hb e).symm⟩,fun _=>c4,.inr ⟨rfl,rfl,hlen⟩,c5⟩;rw[c2 b hb];unfold updf;by_cases e4:b=v
   ·simp[e4]
   ·by_cases e5:b=d
    ·simp[e4,e5,hdv]
    ·simp[e4,e5]
 have hend':=hend
 -- the chip
 have hP:∀q,(vcP K P v d).pg q=if q/8=v then .blank else cpPg K P d (ofL K.ow v) q:=fun q=>by
  unfold vcP;rw[hvcS];show(if q/8=v then Pg.blank else S.P.pg q)=_;rw[hpg,ecp]
 have hPc:(vcP K P v d).calm:=by
  unfold vcP;rw[hvcS];exact CS.wipe_calm hcal v
 have hmem:∀i,i<(ofL K.ow v).length->(ofL K.ow v).getD i 0∈ofL K.ow v:=fun i hi=>by
  rw[getD_get hi];exact List.getElem_mem hi
 have hnot:∀o,o<25->(K.at_ o=0\/(K.at_ o-1)/8≠v)->MA o=K.at_ o/\ME o=K.en o:=fun o ho hx=>hout o (fun j hj e=>by
  have h3:=hos _ (hmem j hj);rw[e] at h3;rcases hx with h|h
  ·exact h3.2.1 h
  ·exact h h3.2.2)
 have hidx:∀o,o<25->K.at_ o≠0->(K.at_ o-1)/8=v->∃i,i<(ofL K.ow v).length/\(ofL K.ow v).getD i 0=o:=fun o ho h1 h2=>by
  obtain⟨i,hi,e⟩:=List.getElem_of_mem ((ofL_mem IL.con hv).2 ⟨ho,h1,h2⟩);exact⟨i,hi,by rw[getD_get hi];exact e⟩
 have hcpy:∀i,i<(ofL K.ow v).length->∃o t0 D,(ofL K.ow v).getD i 0=o/\o<25/\K.at_ o≠0/\(K.at_ o-1)/8=v/\P.pg (K.at_ o-1)=.full t0 D/\K.en o=⟨t0.seq,t0.copy,false⟩/\(t0.of≠24->i<=5)/\(vcP K P v d).pg (d*8+i)=.full ⟨((d*8+i:Nat):Int),t0.of,t0.seq,(t0.copy+1)%256,t0.lost⟩ D/\t0.lost=false:=fun i hi=>by
  have hm:=hos _ (hmem i hi);have hh:=(htag i hi).2;rw[<-getD_get hi (x:=0)] at hh;have hP2:=hP (d*8+i);rw[if_neg (by omega)] at hP2;unfold cpPg at hP2;rw[if_pos ⟨by omega,by omega⟩,show(d*8+i)%8=i by omega] at hP2;generalize (ofL K.ow v).getD i 0=o at *;obtain⟨a1,t0,D0,a2,a3,a4,a5,a6,a7,a8⟩:=IL.page hm.1 hm.2.1;refine⟨o,t0,D0,rfl,hm.1,hm.2.1,hm.2.2,a2,a3,fun hn=>?_,?_,a7⟩
  ·unfold holdsB at hh;rw[a4] at hn;simp at hh;omega
  ·rw[hP2];unfold dataAt cpTag;rw[a2,a3,a4,a7];simp only;rw[a8]
 have M:Moved P (vcP K P v d) K.at_ MA v:=by
  refine⟨fun q t D hq e=>?_,fun o ho h1 h2=>?_,fun o ho h1=>?_,fun o ho h1 h2=>?_⟩
  ·rw[hP] at e;by_cases hqv:q/8=v
   ·rw[if_pos hqv] at e
    cases e
   ·rw[if_neg hqv] at e;by_cases hc:q/8=d/\q%8<(ofL K.ow v).length
    ·obtain⟨o,t0,D0,c1,c2,c3,c4,c5,c6,c7,c8,c9⟩:=hcpy _ hc.2;have hq2:d*8+q%8=q:=by omega
     rw[hq2,hP,if_neg hqv] at c8;rw[c8] at e;injection e with e1 e2;subst e2;refine .inr ⟨fun hn=>?_,o,c2,c3,c4,?_,t0,c5,e1.symm⟩
     ·rw[<-e1] at hn;have:=c7 hn;omega
     ·have:=(hin _ hc.2).1;rw[c1] at this;omega
    ·unfold cpPg at e;rw[if_neg hc] at e;exact .inl ⟨e,hqv⟩
  ·refine⟨(hnot o ho (.inr h2)).1,?_⟩;rw[hP,if_neg h2,cpPg_out (hdead o ho h1)]
  ·rw[(hnot o ho (.inl h1)).1];exact h1
  ·obtain⟨i,hi,e⟩:=hidx o ho h1 h2;obtain⟨o',t0,D0,c1,c2,c3,c4,c5,c6,c7,c8,c9⟩:=hcpy i hi;rw[e] at c1;subst c1;have h3:=(hin i hi).1;rw[e] at h3;rw[h3];exact⟨by omega,by omega,_,D0,c8,t0,c5,rfl⟩
 have hbl2:∀b i,b<12->st' b=0->i<8->(vcP K P v d).pg (b*8+i)=.blank:=fun b i hb e hi=>by
  rw[hP];by_cases h1:(b*8+i)/8=v
  ·rw[if_pos h1]
  ·rw[if_neg h1];rcases(bb b hb).1 e with h2|⟨h2,h3⟩
   ·exact absurd (by omega) h1
   ·rw[cpPg_out (by omega)];exact B0.bl b i hb h2 hi
 have hL:∀o,o<25->K.at_ o≠0->K.at_ o-1<96:=fun o ho e=>(IL.ok.led.yes o ho e).1;have hroom:5<=cntS (lv MA) 0:=by
  refine room_of (st:=st') (fun b hb e=>lv_zero.2 fun o ho e1 e2=>?_) (by rw[bf];have:=S0.cnt;show 5<=cntS st0 0;rw[show cntS st0 0=cntS K.st 0 from this];exact hr);have e3:K.at_ o≠0:=fun x=>e1 (M.none o ho x);obtain⟨_,t0,D0,a2,_⟩:=IL.page ho e3;obtain⟨t,ht,_⟩:=M.page ho e3 a2;have:=hbl2 b ((MA o-1)%8) hb e (Nat.mod_lt _ (by omega));rw[show b*8+(MA o-1)%8=MA o-1 by omega,ht] at this
  cases this
 have hok:=M.okay IL.ok IL.uq IL.con.inj hPc hroom;have huq:=M.uniq hL IL.con.inj IL.uq;have hseq:∀p t D,p<96->(vcP K P v d).pg p=.full t D->t.seq<K.next:=fun p t D hp e=>by
  obtain⟨p1,t1,b1,c1,d1,g1,f1⟩:=M.old hL hp e;rw[<-d1];exact IL.next.1 p1 t1 D b1 c1
 have hen:∀o,o<25->MA o≠0->∃t D,(vcP K P v d).pg (MA o-1)=.full t D/\ME o=⟨t.seq,t.copy,false⟩:=fun o ho e1=>by
  have e3:K.at_ o≠0:=fun x=>e1 (M.none o ho x);by_cases e4:(K.at_ o-1)/8=v
  ·obtain⟨i,hi,e⟩:=hidx o ho e3 e4;obtain⟨o',t0,D0,c1,c2,c3,c4,c5,c6,c7,c8,c9⟩:=hcpy i hi;rw[e] at c1;subst c1;obtain⟨h3,h4⟩:=hin i hi;rw[e] at h3 h4;rw[h3,h4,Nat.add_sub_cancel];exact⟨_,D0,c8,by rw[c6]⟩
  ·obtain⟨h3,h4⟩:=M.stay o ho e3 e4;obtain⟨t,D,a1,a2⟩:=IL.en o ho e3;rw[h3,h4,(hnot o ho (.inr e4)).2];exact⟨t,D,a1,a2⟩
 have hVH:VcHyp K P v d:=by
  refine⟨?_,?_,IB.fb,IB.fi,?_,hCp,fun i hi=>?_⟩
  ·rw[e0];exact cntTo_none (fun b hb=>by have:=B0.st b hb;simp only at this;show st0 b≠3;omega)
  ·rw[e0];exact B0.pn
  ·rw[e0];exact htk
  ·rw[hvcS] at hi ⊢;exact(mv_all H i (by omega)).1.mw
 have hHBe:Hl.HB (Hl.erF F v):=fun b hb=>by
  have h1:=hFB b hb;unfold Hl.erF Hl.upd;refine⟨?_,?_,?_⟩
  ·rw[if_neg (by omega)];split
   ·omega
   ·exact h1.1
  ·rw[if_neg (by omega),if_neg (by omega)];exact h1.2.1
  ·split
   ·omega
   ·rw[if_neg (by omega)];exact h1.2.2
 refine⟨d,hVH,?_,?_,?_,?_,fun T hT=>⟨(hTr T hT).1,fun a hs=>hs.same (fun o ho e=>(hTr T hT).2 _ (hdead o ho e))⟩,?_,?_,fun o ho e=>?_,fun o ho e=>?_,?_,?_⟩
 ·rw[hend];exact⟨hok,huq,hen,IL.fl,⟨hseq,IL.next.2⟩,hcon⟩
 ·rw[hend];refine⟨ba,bc,bd,hbl2,fun e i h1 h2=>?_,?_,?_,by show d+1<=12;omega⟩
  ·have h1:fi'<=i:=h1;have e:fo'=true:=e;show(vcP K P v d).pg (fb'*8+i)=.blank;rw[hP];rcases be with⟨g1,g2,g3,g4⟩|⟨g1,g2,g3⟩
   ·have hfd:st0 fb0=1:=B0.fst g4;have e1:fb0≠d:=fun e=>by rw[e,hsd0] at hfd;omega
    have e2:fb0≠v:=fun e=>by rw[e,hst0] at hfd;omega
    rw[g2,if_neg (by omega),cpPg_out (by omega)];exact B0.fr g4 i (by show fi0<=i;omega) h2
   ·rw[g2,if_neg (by omega)];unfold cpPg;rw[if_neg (by omega)];exact hbl i h2
  ·rcases be with⟨g1,g2,g3,g4⟩|⟨g1,g2,g3⟩
   ·show fb'<12;rw[g2];exact B0.fb
   ·show fb'<12;omega
  ·rcases be with⟨g1,g2,g3,g4⟩|⟨g1,g2,g3⟩
   ·show fi'<=8;rw[g3];exact B0.fi
   ·show fi'<=8;omega
 ·rw[hend];refine⟨hHBe,fun b hb=>?_,IH.cur⟩;show Hl.erF F v (12+b)=0;unfold Hl.erF Hl.upd;rw[if_neg (by omega),if_neg (by omega)];exact hF2 b hb
 ·rw[hend];have:=S0.cnt;exact bf.trans this
 ·intro a hs;rw[hend];exact M.shows IL.ok.led hs
 ·exact⟨st',fo',fb',fi',d+1,MA,MO,ME,Hl.erF F v,MM,hend⟩
 ·rw[hend];by_cases e4:(K.at_ o-1)/8=v
  ·obtain⟨i,hi,eo⟩:=hidx o ho e e4;obtain⟨h3,h4⟩:=hin i hi;rw[eo] at h3 h4;exact⟨by show MA o≠0;omega,by show(ME o).seq=_;rw[h4]⟩
  ·obtain⟨h3,h4⟩:=hnot o ho (.inr e4);exact⟨by show MA o≠0;rw[h3];exact e,by show(ME o).seq=_;rw[h4]⟩
 ·rw[hend];show MA o=0;rw[(hnot o ho (.inl e)).1];exact e
 ·intro hfo hlv of hof;have hfo0:fo0=false:=by
   rcases S0.fr with h|h
   ·have:fo0=K.fo:=h.1;rw[this];exact hfo
   ·exact h
  rw[hend];rcases be with⟨g1,g2,g3,g4⟩|⟨g1,g2,g3⟩
  ·rw[hfo0] at g4
   cases g4
  ·have hl:=ofL_len IL.con hv;show roomB fo' fi' of=true;rw[g1,g3];unfold roomB holdsB;simp;omega
 ·rw[hend];refine⟨by rw[e0];exact bb,rfl,by rw[e0];exact be.imp (fun h=>h) (fun h=>h),fun o ho e h=>(hnot o ho (.inr h)).1,fun o ho e h=>?_,hdv,by rw[e0];exact hd0,by rw[e0];exact hv2⟩;obtain⟨i,hi,eo⟩:=hidx o ho e h;obtain⟨h3,h4⟩:=hin i hi;rw[eo] at h3;have h3:MA o=d*8+i+1:=h3;show MA o≠0/\(MA o-1)/8=d;omega
structure GotB(w0 w:World)(Y:Option Addr)(n e:Nat)(f:Nat->Nat):Prop where
 ly:Ly w 5 1 Y n e (fun j=>.int .u8 (f j:Nat))
 new:∀x,x∈blk Y->w0.heap.size<=x
theorem clone_nil8(w:World)(x:Operand)(a:Addr)(n c:Nat):(do eqGuard .eql 37 x (.const (.slice none 0 0)) (.slice (some a) n c) (.slice none 0 0);binOp .eql 37 (.slice (some a) n c) (.slice none 0 0):Sem Value).run Tryz.prog w=.ok (.bool false) w:=by kernel_rfl
theorem build_u0(w:World):(Instr.buildSlice 37 0 #[]).run Tryz.prog w=.ok (.slice (some ⟨w.heap.size,0,none⟩) 0 0) (w.alloc (.cells #[] 5)):=by kernel_rfl
theorem bclone_ok(a:Addr)(n c:Nat)(f:Nat->Nat)(w:World)(r:Rd w (some a) n (fun j=>.int .u8 (f j:Nat)))(hc:n<=c)(hn:n*8<=140737488355328) :
  Spec Tryz.prog 71 #[.slice (some a) n c] w fun v w'=>∃Y e,v=.slice Y n e/\GotB w w' Y n e f/\Keep [] w w':=by
 obtain⟨i0,hi,hz0,hz1,hz2⟩:=info_parts byte_info;refine spec_of_wpE (T:=tt) tt_ok Tryz.func71 rfl (by decide +kernel) Tryz.ntmps71 (by simp) ?_;conv=>whnf
 repeat ((first|refine CW.s ?_);conv=>whnf)
 refine Ru.of (clone_nil8 w _ a n c) ?_;conv=>whnf
 repeat ((first|refine Br.f ?_);conv=>whnf)
 refine Ru.of (build_u0 w) ?_;have l0:Ly (w.alloc (.cells #[] 5)) 5 1 (some ⟨w.heap.size,0,none⟩) 0 0 (fun j=>.int .u8 (f j:Nat)):=Ly.of_arr (heap_alloc_new w _) (Nat.le_refl _) (by simp) (by simp[maxLen]) (fun j hj=>by omega);have k0:Keep [] w (w.alloc (.cells #[] 5)):=(Keep.refl _ _).alloc _;conv=>whnf
 refine Bu.append Tryz.underlying37 hi hz0 hz1 hz2 rfl (by omega) l0 _ (by rw[Nat.mul_one];exact r.keep0 k0) hc (fun e=>by cases e) (fun j hj=>rfl) (by simp only[maxLen];omega) (by omega) ?_;intro Y e w' hy hk hat hpre;have hnew:∀x,x∈blk Y->w.heap.size<=x:=fun x hx=>by
  rcases hat with h|h
  ·rw[h] at hx;rw[List.mem_singleton.1 hx];exact Nat.le_refl _
  ·rw[h] at hx;rw[List.mem_singleton.1 hx];exact k0.size
 have hkw:Keep [] w w':=k0.then hk (fun x hx=>.inr (by rw[List.mem_singleton.1 hx];exact Nat.le_refl _));rw[Nat.zero_add] at *;conv=>whnf
 exact⟨rfl,Y,e,rfl,⟨hy.congr (fun j hj=>by simp),hnew⟩,hkw⟩
theorem mk160_run(w:World):(Instr.makeSlice 37 (.int .i64 160) (.int .i64 160)).run Tryz.prog w=.ok (.slice (some ⟨w.heap.size,0,none⟩) 160 160) (w.alloc (.cells (madeCells #[.int .u8 0] 160) 5)):=by kernel_rfl
section
variable{w w':World}{N:Cr}{K:KS}{X:Option Addr}{c:Nat}{P:CS}{b:Option Nat}{n:Int}
theorem observe_ok(h:On w N K P b n X c){p:Nat}(hp:p<96)(hl:K.ow p<=25){R:PageR}{dv:Value}(hq:K.ow p=0\/R.sound=true/\R.damage<2) :
  Spec Tryz.prog 70 #[.pointer (some ⟨N.k,0,none⟩),.int .i64 p,agg 9 (pgc R.tagged R.tag R.sound dv (R.damage:Nat))] w fun v w'=>v=.tuple #[]/\Keep [] w w':=by
 refine spec_of_wpE (T:=tt) tt_ok Tryz.func70 rfl (by decide +kernel) Tryz.ntmps70 (by simp) ?_;conv=>whnf
 refine Ru.boxa ?_;intro x5 w1 hx5 hs1 r5 k1;have h1:=h.keep0 k1;conv=>whnf
 repeat ((first|(refine Ld.of h1.core.c2 ?_)|refine CW.s ?_);conv=>whnf)
 refine Ca.of (mowner_ok h1.core.map p hp hl) ?_;rintro _ _ ⟨rfl,rfl⟩;by_cases h0:K.ow p=0
 ·rw[if_pos h0];conv=>whnf
  repeat ((first|refine Br.t ?_|refine Pk.t ?_|refine Ru.n1 ?_);conv=>whnf)
  exact⟨rfl,rfl,k1⟩
 ·rw[if_neg h0];obtain⟨hs,hd⟩:=hq.resolve_left h0;have p6:w1.cell? ⟨x5,6,none⟩=some (.bool R.sound):=r5.cell 6 (by omega);have p8:w1.cell? ⟨x5,8,none⟩=some (.int .i64 (R.damage:Nat)):=r5.cell 8 (by omega);rw[hs] at p6;conv=>whnf
  repeat ((first|(refine Ld.at (by omega) p6 ?_)|(refine Ld.at (by omega) p8 ?_)|refine Br.t ?_|refine Br.f ?_|refine Pk.f ?_|refine Pk.t ?_|refine Br.y ?_|refine Ru.neq_nil0 ?_);conv=>whnf)
  exact⟨rfl,rfl,k1⟩
theorem cget_none(h:On w N K P b n X c){o:Nat}(ho:o<24)(h0:K.at_ o=0) :
  Spec Tryz.prog 46 #[.pointer (some ⟨N.k,0,none⟩),.int .i64 o] w fun v w'=>∃Y e,v=.tuple #[.slice Y 160 e,errOf 0]/\GotB w w' Y 160 e (fun _=>0)/\Keep [] w w':=by
 refine spec_of_wpE (T:=tt) tt_ok Tryz.func46 rfl (by decide +kernel) Tryz.ntmps46 (by simp) ?_;conv=>whnf
 repeat ((first|(refine Ld.of h.core.c2 ?_)|refine Br.f ?_|refine Pk.f ?_|refine Br.n ?_|refine CW.s ?_);conv=>whnf)
 refine Ca.of (mat_ok h.core.map o (by omega) (by omega)) ?_;rintro _ _ ⟨rfl,rfl⟩;rw[if_pos h0];conv=>whnf
 repeat ((first|refine Br.t ?_|refine Ru.n1 ?_|refine CW.s ?_);conv=>whnf)
 refine Ru.of (mk160_run w) ?_;have ry:=Row.made w 5 (.int .u8 0) 160;have k1:Keep [] w (w.alloc (.cells (madeCells #[.int .u8 0] 160) 5)):=(Keep.refl _ _).alloc _;generalize w.alloc _=w1 at *;conv=>whnf
 exact⟨rfl,_,_,rfl,⟨(Ly.of_row ry (by omega) (by omega) (by simp[maxLen])),fun x hx=>by rw[List.mem_singleton.1 hx];exact Nat.le_refl _⟩,k1⟩
theorem cget_ok(h:On w N K P b n X c)(B:Hl.HB K.F){o:Nat}(ho:o<24)(h0:K.at_ o≠0)(h96:K.at_ o<=96)(hl:K.ow (K.at_ o-1)<=25){t:Tg}{D:Nat->Nat}(hp:P.pg (K.at_ o-1)=.full t D)(hto:t.of=o)(hen:K.en o=⟨t.seq,t.copy,false⟩)(hdm:P.dm (K.at_ o-1)<2) :
  Spec Tryz.prog 46 #[.pointer (some ⟨N.k,0,none⟩),.int .i64 o] w fun v w'=>∃Y e,v=.tuple #[.slice Y 160 e,errOf 0]/\GotB w w' Y 160 e D/\On w' N (rdK K (K.at_ o-1)) (P.readE (K.at_ o-1)) b (w64 (n+1)) X c/\Keep N.all w w':=by
 refine spec_of_wpE (T:=tt) tt_ok Tryz.func46 rfl (by decide +kernel) Tryz.ntmps46 (by simp) ?_;conv=>whnf
 repeat ((first|(refine Ld.of h.core.c2 ?_)|refine Br.f ?_|refine Pk.f ?_|refine Br.n ?_|refine CW.s ?_);conv=>whnf)
 refine Ca.of (mat_ok h.core.map o (by omega) (by omega)) ?_;rintro _ _ ⟨rfl,rfl⟩;rw[if_neg h0];have ee:∀j,j<3->coreF N K X c (7+3*o+j)=(⟨t.seq,t.copy,false⟩:En).cell j:=fun j hj=>by rw[coreF_en' (by omega) hj,hen]
 have hp96:K.at_ o-1<96:=by omega
 generalize K.at_ o-1=p at *;conv=>whnf
 repeat ((first|(refine Ix.of o (by omega) (by omega) ?_)|refine Br.f ?_|refine Ru.neq_nil0 ?_|refine CW.s ?_);conv=>whnf)
 rw[show 0+7+o*3=7+3*o by omega];refine Ru.ldaC (q:=(⟨t.seq,t.copy,false⟩:En).cell) h.core.row Tryz.underlying140 rfl size_en (by omega) (fun j hj=>ee j hj) ?_;conv=>whnf
 refine Ru.alloca (alloc_en w) ?_;intro x8 w1 hx8 hs1 r8 k1;conv=>whnf
 refine Ru.sta r8 size_en (by omega) (fun j hj=>En.cell_one _) ?_;intro w2 r82 k2;have r82:Row w2 x8 140 3 (⟨t.seq,t.copy,false⟩:En).cell:=r82.congr (fun j hj=>by unfold lay;rw[if_pos (by omega),Nat.sub_zero]);have q2:Keep [] w w2:=k1.then k2 (fun x hx=>.inr (by rw[List.mem_singleton.1 hx,hx8];exact Nat.le_refl _));have h2:=h.keep0 q2;have s0:w2.cell? ⟨x8,0,none⟩=some (.int .i64 t.seq):=r82.cell 0 (by omega);have s2:w2.cell? ⟨x8,2,none⟩=some (.bool false):=r82.cell 2 (by omega);clear k1 r8 k2 hs1 w1;conv=>whnf
 repeat ((first|(refine Ld.at (by omega) s2 ?_)|refine Br.f ?_|refine CW.s ?_);conv=>whnf)
 refine Ca.of (cread_ok h2 B hp96) ?_;rintro _ w3 ⟨R,dv,hR,hdv,rfl,h3,k3⟩;unfold PgRead at hR;rw[hp] at hR;obtain⟨hR1,rfl,hR3,hR4,hR5⟩:=hR;have far:x8∉N.all:=fun hm=>by
  have h4:x8<w.heap.size:=by
   rcases List.mem_append.1 hm with hm|hm
   ·exact h.core.lt (List.mem_append_left _ hm)
   ·exact h.l_lt _ hm
  omega
 have r83:=r82.keep k3 far;have kk3:=(Keep.of0 (N:=N) q2).trans k3;have hs3:=k3.size;have hs2:=q2.size;conv=>whnf
 refine Ru.alloca (alloc_page w3) ?_;intro x9 w4 hx9 hs4 r9 k4;conv=>whnf
 refine Ru.stpage r9 (pgc_one' R hdv _) ?_;intro w5 r95 k5;have q5:Keep [] w3 w5:=k4.then k5 (fun x hx=>.inr (by rw[List.mem_singleton.1 hx,hx9];exact Nat.le_refl _));have h5:=h3.keep0 q5;have r85:=r83.keep q5 (by simp);have kk5:=kk3.trans (Keep.of0 (N:=N) q5);have hdv5:=hdv.keep q5 (by simp);clear k4 k5 q5 h3 r83 r9 hs4 w4;conv=>whnf
 repeat ((first|refine Br.f ?_|refine Ru.neq_nil0 ?_|refine CW.s ?_);conv=>whnf)
 refine Ru.ldpage r95 ?_;refine Ca.of (observe_ok h5 hp96 hl (.inr ⟨hR3,by rw[hR5];exact hdm⟩)) ?_;rintro _ w6 ⟨rfl,k6⟩;have h6:=h5.keep0 k6;have r86:=r85.keep k6 (by simp);have r96:=r95.keep k6 (by simp);have hdv6:=hdv5.keep k6 (by simp);have kk6:=kk5.trans (Keep.of0 (N:=N) k6);rcases hdv6 with⟨-,O,oc,rfl,hO,lyO⟩|⟨hs,-⟩
 case inr=>rw[hR3] at hs;cases hs
 have p1:w6.cell? ⟨x9,2,none⟩=some (.int .i64 R.tag.of):=r96.cell 2 (by omega);have p2:w6.cell? ⟨x9,3,none⟩=some (.int .i64 R.tag.seq):=r96.cell 3 (by omega);have p3:w6.cell? ⟨x9,6,none⟩=some (.bool R.sound):=r96.cell 6 (by omega);have p4:w6.cell? ⟨x9,7,none⟩=some (.slice O 174 oc):=r96.cell 7 (by omega);have s0:w6.cell? ⟨x8,0,none⟩=some (.int .i64 R.tag.seq):=r86.cell 0 (by omega);rw[hto] at p1;rw[hR3] at p3;conv=>whnf
 repeat ((first|(refine Ld.at (by omega) p4 ?_)|(refine Ld.at (by omega) p1 ?_)|(refine Ld.at (by omega) p2 ?_)|(refine Ld.at (by omega) p3 ?_)|(refine Ld.at (by omega) s0 ?_)|refine Br.f ?_|refine Pk.f ?_|refine Br.ny ?_|refine CW.s ?_);conv=>whnf)
 have hrd:=lyO.rd;rw[Nat.mul_one] at hrd;obtain⟨g,oo,rfl,hc⟩:=hrd (by omega);have hcap:174<=oc:=lyO.1;have hrd2:Rd w6 (some ⟨g,oo,none⟩) 160 (fun j=>.int .u8 (D j:Nat)):=fun _=>⟨g,oo,rfl,fun j hj=>by
  rw[hc j (by omega), <-hR4];unfold cutD;simp only[if_pos (show j<174 by omega)]⟩
 refine Ru.sl_h Tryz.underlying37 (by kernel_rfl) (h:=160) (by omega) ?_;conv=>whnf
 refine Ca.of (bclone_ok ⟨g,oo,none⟩ 160 oc D w6 hrd2 (by omega) (by omega)) ?_;rintro _ w7 ⟨Y,e,rfl,hY,k7⟩;conv=>whnf
 exact⟨rfl,Y,e,rfl,⟨hY.ly,fun x hx=>Nat.le_trans kk6.size (hY.new x hx)⟩,h6.keep0 k7,kk6.trans (Keep.of0 (N:=N) k7)⟩
end
def ptK(K:KS):KS:={ K with cur:=(K.cur+8)%96,calls:=w64 (K.calls+1) }
def tdK(K:KS):Nat->KS
 |0=>ptK K
 |i+1=>rdK (tdK K i) ((K.cur+i)%96)
def tdP(K:KS)(P:CS):Nat->CS
 |0=>P
 |i+1=>(tdP K P i).readE ((K.cur+i)%96)
theorem tdK_succ(K:KS)(i:Nat):tdK K (i+1)=rdK (tdK K i) ((K.cur+i)%96):=rfl
theorem tdP_succ(K:KS)(P:CS)(i:Nat):tdP K P (i+1)=(tdP K P i).readE ((K.cur+i)%96):=rfl
theorem tdK_zero(K:KS):tdK K 0=ptK K:=rfl
theorem tdP_zero(K:KS)(P:CS):tdP K P 0=P:=rfl
theorem tdK_same(K:KS):∀i,sameK (ptK K) (tdK K i)
 |0=>⟨K.F,rfl⟩
 | i+1=>by
  obtain⟨F,h⟩:=tdK_same K i;show ∃F,rdK (tdK K i) _=_;rw[h];exact⟨_,rfl⟩
theorem tdK_hb{K:KS}(h:Hl.HB K.F):∀i,Hl.HB (tdK K i).F
 |0=>h
 |i+1=>(tdK_hb h i).rd (by omega)
theorem tdP_pg(K:KS)(P:CS):∀i,(tdP K P i).pg=P.pg/\(tdP K P i).dm=P.dm
 |0=>⟨rfl,rfl⟩
 |i+1=>tdP_pg K P i
def Fine(K:KS)(P:CS):Prop:=∀p,p<96->K.ow p<=25/\(K.ow p≠0->∃t D,P.pg p=.full t D/\P.dm p<2)
def tiredQ(K:KS)(q:List Nat):Nat->List Nat
 |0=>q
 |b+1=>if 512<=K.F b/\0<lv K.at_ b then addQ (tiredQ K q b) b else tiredQ K q b
theorem tiredQ_zero(K:KS)(q:List Nat):tiredQ K q 0=q:=rfl
theorem tiredQ_succ(K:KS)(q:List Nat)(b:Nat):tiredQ K q (b+1)=if 512<=K.F b/\0<lv K.at_ b then addQ (tiredQ K q b) b else tiredQ K q b:=rfl
theorem tiredQ_len(K:KS):∀b,(tiredQ K [] b).length<=b
 |0=>Nat.le_refl _
 | b+1=>by
  have:=tiredQ_len K b;unfold tiredQ addQ;split
  ·split
   ·omega
   ·simp;omega
  ·omega
section
variable{w w':World}{N:Cr}{K:KS}{X:Option Addr}{c:Nat}{P:CS}{b:Option Nat}{n:Int}
theorem On.qu_at(h:On w N K P b n X c):QuAt w N.k 143 110 6 (coreF N K X c) X c K.qu:=⟨h.core.row,rfl,h.core.qu⟩
theorem coreF_qu{q:List Nat}{Y:Option Addr}{d:Nat}(j:Nat):put (coreF N K X c) 6 (.slice Y q.length d) j=coreF N { K with qu:=q } Y d j:=by
 unfold put;by_cases h:j=6
 ·subst h;rfl
 ·rw[if_neg h];unfold coreF;simp only[if_neg h]
theorem On.queue(h:On w N K P b n X c){q:List Nat}(H:QuEnd w N.k 143 110 6 (coreF N K X c) X q w'):∃Y d,On w' N { K with qu:=q } P b n Y d/\Keep (N.k::blk X) w w'/\∀x,x∈blk Y->x∈blk X\/w.heap.size<=x:=by
 obtain⟨Y,d,⟨r,_,ly⟩,k,hY⟩:=H;have dn:=h.core.ne;obtain⟨C,M,q'⟩:=h.med;have ap:=fun x hx=>medA_apart h.core M (x:=x) hx;have a0:=ap N.k (by simp[Cr.own]);have aX:=fun x hx=>ap x (List.mem_append_right _ hx);refine⟨Y,d,⟨⟨r.congr (fun j _=>coreF_qu j),?_,?_,?_,?_,?_,ly⟩,C,M.keep k ?_ ?_ ?_ ?_ ?_ ?_,q'⟩,k,hY⟩
 ·exact Row.keep h.core.pool k (by simp[dn.kp.symm,dn.pX])
 ·exact Row.keep h.core.map k (by simp[dn.ka.symm,dn.aX])
 ·exact Row.keep h.core.front k (by simp[dn.kr.symm,dn.rX])
 ·exact Row.keep h.core.health k (by simp[dn.ke.symm,dn.eX])
 ·exact Row.keep h.core.pat k (by simp[dn.kq.symm,dn.qX])
 ·exact fun hm=>by rcases List.mem_cons.1 hm with e|hm;exact a0.1 e;exact(aX _ hm).1 rfl
 ·exact fun hm=>by rcases List.mem_cons.1 hm with e|hm;exact a0.2.1 e;exact(aX _ hm).2.1 rfl
 ·exact fun hm=>by rcases List.mem_cons.1 hm with e|hm;exact a0.2.2.1 e;exact(aX _ hm).2.2.1 rfl
 ·exact fun hm=>by rcases List.mem_cons.1 hm with e|hm;exact a0.2.2.2.1 e;exact(aX _ hm).2.2.2.1 rfl
 ·exact fun hm=>by rcases List.mem_cons.1 hm with e|hm;exact a0.2.2.2.2.1 e;exact(aX _ hm).2.2.2.2.1 rfl
 ·exact fun hm=>by rcases List.mem_cons.1 hm with e|hm;exact a0.2.2.2.2.2 e;exact(aX _ hm).2.2.2.2.2 rfl
end
end
section
open Go.RowKit
attribute [local irreducible] tdK tdP tiredQ lv
def popK(K:KS)(t:List Nat):KS:={ K with qu:=t }
theorem popK_nil{K:KS}(h:K.qu=[]):popK K []=K:=by
 cases K
 simp only at h;subst h;rfl
def mdK(K:KS)(x:Nat):KS:={ K with reports:=w64 (K.reports+1),moved:=w64 (K.moved+x) }
inductive Tends:KS->CS->KS->CS->List CS->Prop
 |done {K:KS} {P:CS}:K.qu=[]->Tends K P K P []
 |skip {K:KS} {P:CS} {v:Nat} {t:List Nat} {K':KS} {P':CS} {tr:List CS}:K.qu=v::t->v<12->t.length<=12->(∀o,o<25->K.at_ o<=96)->lv K.at_ v=0->Tends (popK K t) P K' P' tr->Tends K P K' P' tr
 | move {K:KS} {P:CS} {v d:Nat} {t:List Nat} {K':KS} {P':CS} {tr:List CS}:K.qu=v::t->v<12->t.length<=12->(∀o,o<25->K.at_ o<=96)->lv K.at_ v≠0->wornB K.st=false->K.F (12+v)<3->VcHyp (popK K t) P v d->(vcK (popK K t) P v d).qu=t ->
   Tends (mdK (vcK (popK K t) P v d) (lv K.at_ v)) (vcP (popK K t) P v d) K' P' tr->Tends K P K' P' (vcT (popK K t) P v d++tr)
def tqK(K:KS):KS:=popK (tdK K 8) (tiredQ (tdK K 8) [] 12)
inductive Tended (K:KS) (P:CS):KS->CS->List CS->Prop
 |quiet {K1:KS} {P1:CS} {t1:List CS}:Tends (tqK K) (tdP K P 8) K1 P1 t1->wornB K1.st=false->Hl.HB K1.F->K1.calls<8->Hl.dueB K1.F=false->Tended K P K1 P1 t1
 | note {K1:KS} {P1:CS} {t1:List CS} {K2:KS} {P2:CS} {t2:List CS}:Tends (tqK K) (tdP K P 8) K1 P1 t1->wornB K1.st=false->Hl.HB K1.F->(8<=K1.calls\/Hl.dueB K1.F=true)->Lays 24 noteD K1 P1 K2 P2 t2->(stC (sqK K2) K2.next (-1)).told ->
   Tended K P (lyK K2 24) (lyP K2 P2 24 noteD) (t1++lyT K2 P2 t2)
section
variable{w w':World}{N:Cr}{K:KS}{X:Option Addr}{c:Nat}{P:CS}{b:Option Nat}{n:Int}
theorem coreF_md(x y:Int)(j:Nat)(hj:j<110):put (put (coreF N K X c) 107 (.int .i64 x)) 108 (.int .i64 y) j=coreF N { K with reports:=x,moved:=y } X c j:=by
 unfold put;by_cases h:j=108
 ·subst h;rfl
 ·rw[if_neg h];by_cases h7:j=107
  ·subst h7;rfl
  ·rw[if_neg h7];unfold coreF;simp only;by_cases h1:j<106
   ·have e6:¬j=106:=by omega
    simp only[e6,h,h7,if_false,h1,if_true]
   ·have:j=106\/j=109:=by omega
    rcases this with rfl|rfl<;>rfl
theorem tend_ok(h:On w N K P b n X c)(hq:K.qu=[])(B:Hl.HB K.F)(hc:K.cur<96)(ha:∀o,o<25->K.at_ o<=96)(hf:Fine K P){K':KS}{P':CS}{tr:List CS}(H:Tended K P K' P' tr) :
  Spec Tryz.prog 61 #[.pointer (some ⟨N.k,0,none⟩)] w fun u w'=>Ends N X K' P' b tr w w' (u=errOf 0) (u=errOf 7):=by
 have far:∀x,w.heap.size<=x->x∉N.all:=fun x hx hm=>by
  have h3:x<w.heap.size:=by
   rcases List.mem_append.1 hm with hm|hm
   ·exact h.core.lt (List.mem_append_left _ hm)
   ·exact h.l_lt _ hm
  omega
 refine spec_of_wpE (T:=tt) tt_ok Tryz.func61 rfl (by decide +kernel) Tryz.ntmps61 (by simp) ?_;conv=>whnf
 repeat ((first|(refine Ld.of h.core.c5 ?_)|refine CW.s ?_);conv=>whnf)
 refine Ca.of (pstep_ok h.core.pat hc) ?_;rintro _ w1 ⟨g,rfl,rg,hg,rp,k1⟩;have h1:On w1 N (tdK K 0) (tdP K P 0) b n X c:=by
  rw[tdK_zero,tdP_zero];exact h.pat k1 rp
 have kk1:Keep N.all w w1:=Keep.of1 (by simp[Cr.own]) k1;conv=>whnf
 refine CW.loop (ι:=Nat×Int) (fun i w'=>i.1<=8/\On w' N (tdK K i.1) (tdP K P i.1) b i.2 X c/\Row w' g 3 8 (fun j=>.int .i64 (((K.cur+j)%96:Nat):Int))/\Keep N.all w w')
  (fun i=>[(0,.pointer (some ⟨N.k,0,none⟩)),(22,.slice (some ⟨g,0,none⟩) 8 8),(23,.int .i64 8),(24,.int .i64 i.1)]) (fun i=>8-i.1) (0,n) tt_ok ⟨by omega,h1,rg,kk1⟩ ⟨rfl,rfl,rfl,rfl,trivial⟩ ?_;clear h1 rg rp k1 kk1;rintro⟨i,n1⟩ wr ⟨hi,hr,rg,kk⟩;simp only at hi hr rg kk ⊢;by_cases hlt:i<8
 ·obtain⟨F,hsame⟩:=tdK_same K i;have hB:=tdK_hb B i;have hpg:=tdP_pg K P i;have eow:(tdK K i).ow=K.ow:=by rw[hsame];rfl
  have hp:(K.cur+i)%96<96:=Nat.mod_lt _ (by omega);obtain⟨f1,f2⟩:=hf _ hp;have ci:=rg.cell i hlt;conv=>whnf
  repeat ((first|(refine Ld.at (by omega) ci ?_)|refine Ix.n ?_|refine Br.y ?_|refine CW.s ?_);conv=>whnf)
  refine Ca.of (cread_ok hr hB hp) ?_;rintro _ w3 ⟨R,dv,hR,hdv,rfl,h3,k3⟩;have rg3:=rg.keep k3 (far g hg);have kk3:=kk.trans k3;conv=>whnf
  refine Ru.alloca (alloc_page w3) ?_;intro x9 w4 hx9 hs4 r9 k4;conv=>whnf
  refine Ru.stpage r9 (pgc_one' R hdv _) ?_;intro w5 r95 k5;have q5:Keep [] w3 w5:=k4.then k5 (fun x hx=>.inr (by rw[List.mem_singleton.1 hx,hx9];exact Nat.le_refl _));have h5:=h3.keep0 q5;have rg5:=rg3.keep q5 (by simp);have kk5:=kk3.trans (Keep.of0 (N:=N) q5);clear k4 k5 q5 h3 rg3 r9 hs4 w4;conv=>whnf
  repeat ((first|refine Br.f ?_|refine Ru.neq_nil0 ?_|refine CW.s ?_);conv=>whnf)
  refine Ru.ldpage r95 ?_
  refine Ca.of (observe_ok h5 hp (by show(tdK K i).ow _<=25;rw[eow];exact f1) (by
   show(tdK K i).ow _=0\/_;rw[eow];by_cases h0:K.ow ((K.cur+i)%96)=0
   ·exact .inl h0
   ·obtain⟨t,D,e,hd⟩:=f2 h0;unfold PgRead at hR;rw[hpg.1,e] at hR;exact .inr ⟨hR.2.2.1,by rw[hR.2.2.2.2,hpg.2];exact hd⟩)) ?_
  rintro _ w6 ⟨rfl,k6⟩;have h6:=h5.keep0 k6;rw[<-tdK_succ, <-tdP_succ] at h6;have rg6:=rg5.keep k6 (by simp);have kk6:=kk5.trans (Keep.of0 (N:=N) k6);conv=>whnf
  repeat ((first|refine Ar.la ?_);conv=>whnf)
  exact⟨(i+1,_),⟨hlt,h6,rg6,kk6⟩,⟨rfl,rfl,rfl,vi (by simp only;omega),trivial⟩,by simp only;omega⟩
 obtain rfl:i=8:=by omega
 obtain⟨F8,hsame⟩:=tdK_same K 8;have hB:=tdK_hb B 8;have eat:(tdK K 8).at_=K.at_:=by rw[hsame];rfl
 have equ:(tdK K 8).qu=[]:=by rw[hsame];exact hq
 conv=>whnf
 repeat ((first|(refine Ld.of hr.core.c2 ?_)|refine Br.f ?_|refine CW.s ?_);conv=>whnf)
 refine Ca.of (mlive_ok hr.core.map (by rw[eat];exact ha)) ?_;rintro _ w2 ⟨g2,rfl,rg2,hg2,k2⟩;have h2:On w2 N (popK (tdK K 8) (tiredQ (tdK K 8) [] 0)) (tdP K P 8) b n1 X c:=by
  rw[tiredQ_zero,popK_nil equ];exact hr.keep0 k2
 have kk2:Keep (N.all++blk X) w w2:=(kk.trans (Keep.of0 (N:=N) k2)).mono (fun x hx=>List.mem_append_left _ hx);have hg2w:w.heap.size<=g2:=Nat.le_trans kk.size hg2;have hg2X:g2∉blk X:=fun hm=>by
  have:=h.core.lt (List.mem_append_right _ hm);omega
 clear hr rg kk k2;conv=>whnf
 refine CW.loop (ι:=Nat×Option Addr×Nat) (fun i w'=>i.1<=12/\On w' N (popK (tdK K 8) (tiredQ (tdK K 8) [] i.1)) (tdP K P 8) b n1 i.2.1 i.2.2/\Row w' g2 3 12 (fun b=>.int .i64 (lv (tdK K 8).at_ b:Nat))/\Keep (N.all++blk X) w w'/\g2∉blk i.2.1/\∀x,x∈blk i.2.1->x∈blk X\/w.heap.size<=x)
  (fun i=>[(0,.pointer (some ⟨N.k,0,none⟩)),(46,.slice (some ⟨g2,0,none⟩) 12 12),(47,.int .i64 12),(48,.int .i64 i.1)]) (fun i=>12-i.1) (0,X,c) tt_ok ⟨by omega,h2,rg2,kk2,hg2X,fun x hx=>.inl hx⟩ ⟨rfl,rfl,rfl,rfl,trivial⟩ ?_;clear h2 rg2 kk2;rintro⟨i,X1,c1⟩ wr ⟨hi,hr,rg,kk,hgX,hX1⟩;simp only at hi hr rg kk hgX hX1 ⊢;by_cases hlt:i<12
 ·have ci:=rg.cell i hlt;have hlen:=tiredQ_len (tdK K 8) i;have hQe:=hr.qu_at;conv=>whnf
  repeat ((first|(refine Ld.at (by omega) ci ?_)|(refine Ld.of hr.core.c4 ?_)|refine Ix.n ?_|refine Br.y ?_|refine CW.s ?_);conv=>whnf)
  refine Ca.of (Hl.tired_ok wr N.e _ hr.core.health i hlt) ?_;rintro _ _ ⟨rfl,rfl⟩;have ht:(decide ((popK (tdK K 8) (tiredQ (tdK K 8) [] i)).F i≥512))=decide (512<=(tdK K 8).F i):=rfl;rw[ht];by_cases h1:512<=(tdK K 8).F i
  ·have hb1:decide (512<=(tdK K 8).F i)=true:=decide_eq_true h1;rw[hb1];by_cases h2:0<lv (tdK K 8).at_ i
   ·have hstep:tiredQ (tdK K 8) [] (i+1)=addQ (tiredQ (tdK K 8) [] i) i:=by rw[tiredQ_succ,if_pos ⟨h1,h2⟩]
    conv=>whnf
    repeat ((first|refine Br.t ?_|refine Pk.t ?_|refine Br.y ?_);conv=>whnf)
    refine Ca.of (qadd_ok hQe (by omega) (by decide) (by show(tiredQ (tdK K 8) [] i).length<=12;omega) i hlt) ?_;rintro _ w3 ⟨rfl,hqe⟩;obtain⟨Y,d,h3,k3,hY⟩:=hr.queue hqe;have rg3:=rg.keep k3 (fun hm=>by
     rcases List.mem_cons.1 hm with e|hm
     ·exact far g2 hg2w (in_all_own (by simp[Cr.own,e]))
     ·exact hgX hm)
    have hgl:=rg.lt;conv=>whnf
    repeat ((first|refine Ar.la ?_);conv=>whnf)
    refine⟨(i+1,Y,d),⟨hlt,?_,rg3,?_,fun hm=>by rcases hY g2 hm with h|h;exact hgX h;omega,?_⟩,⟨rfl,rfl,rfl,vi (by simp only;omega),trivial⟩,by simp only;omega⟩
    ·rw[hstep];exact h3
    ·exact kk.then k3 (fun x hx=>by
      rcases List.mem_cons.1 hx with rfl|hx
      ·exact .inl (List.mem_append_left _ (in_all_own (by simp[Cr.own])))
      ·rcases hX1 x hx with h|h
       ·exact .inl (List.mem_append_right _ h)
       ·exact .inr h)
    ·intro x hx;rcases hY x hx with h|h
     ·exact hX1 x h
     ·exact .inr (Nat.le_trans kk.size h)
   ·have hstep:tiredQ (tdK K 8) [] (i+1)=tiredQ (tdK K 8) [] i:=by rw[tiredQ_succ,if_neg (fun x=>h2 x.2)]
    conv=>whnf
    repeat ((first|refine Br.t ?_|refine Pk.t ?_|refine Ar.la ?_|refine Br.n ?_);conv=>whnf)
    refine⟨(i+1,X1,c1),⟨hlt,?_,rg,kk,hgX,hX1⟩,⟨rfl,rfl,rfl,vi (by simp only;omega),trivial⟩,by simp only;omega⟩;rw[hstep];exact hr
  ·have hb1:decide (512<=(tdK K 8).F i)=false:=decide_eq_false h1;rw[hb1];have hstep:tiredQ (tdK K 8) [] (i+1)=tiredQ (tdK K 8) [] i:=by rw[tiredQ_succ,if_neg (fun x=>h1 x.1)]
   conv=>whnf
   repeat ((first|refine Br.f ?_|refine Pk.f ?_|refine Ar.la ?_);conv=>whnf)
   refine⟨(i+1,X1,c1),⟨hlt,?_,rg,kk,hgX,hX1⟩,⟨rfl,rfl,rfl,vi (by simp only;omega),trivial⟩,by simp only;omega⟩;rw[hstep];exact hr
 obtain rfl:i=12:=by omega
 have key:∃Ke Pe te,Tends (tqK K) (tdP K P 8) Ke Pe te/\wornB Ke.st=false/\Hl.HB Ke.F/\((Ke.calls<8/\Hl.dueB Ke.F=false/\K'=Ke/\P'=Pe/\tr=te)\/((8<=Ke.calls\/Hl.dueB Ke.F=true)/\∃K2 P2 t2,Lays 24 noteD Ke Pe K2 P2 t2/\(stC (sqK K2) K2.next (-1)).told/\K'=lyK K2 24/\P'=lyP K2 P2 24 noteD/\tr=te++lyT K2 P2 t2)):=by
  cases H with
  |quiet a1 a2 a3 a4 a5=>exact⟨_,_,_,a1,a2,a3,.inl ⟨a4,a5,rfl,rfl,rfl⟩⟩
  |note a1 a2 a3 a4 a5 a6=>exact⟨_,_,_,a1,a2,a3,.inr ⟨a4,_,_,_,a5,a6,rfl,rfl,rfl⟩⟩
 clear H;obtain⟨Ke,Pe,te,hT,hwo,hBe,hend⟩:=key;have hr:On wr N (tqK K) (tdP K P 8) b n1 X1 c1:=hr;clear rg hgX hg2X hg2w hg2 hi hlt equ eat hB hsame;generalize tqK K=Kq at *;generalize tdP K P 8=Pq at *;conv=>whnf
 repeat ((first|refine Br.f ?_|refine CW.s ?_);conv=>whnf)
 refine CW.loop (ι:=KS×CS×List CS×List CS×Option Addr×Nat×Int) (fun i w'=>Tends i.1 i.2.1 Ke Pe i.2.2.2.1/\te=i.2.2.1++i.2.2.2.1/\fits b i.2.2.1.length/\On w' N i.1 i.2.1 (less b i.2.2.1.length) i.2.2.2.2.2.2 i.2.2.2.2.1 i.2.2.2.2.2.1/\Keep (N.all++blk X) w w'/\∀x,x∈blk i.2.2.2.2.1->x∈blk X\/w.heap.size<=x)
  (fun _=>[(0,.pointer (some ⟨N.k,0,none⟩))]) (fun i=>i.1.qu.length) (Kq,Pq,[],te,X1,c1,n1) tt_ok ⟨hT,rfl,(fun x hx=>by simp),by rw[show(([]:List CS)).length=0 from rfl,less_zero];exact hr,kk,hX1⟩ ⟨rfl,trivial⟩ ?_;clear hT hr kk hX1;rintro⟨K1,P1,t1,t2,X2,c2,n2⟩ wr ⟨hT,hte,hfit,hr,kk,hX⟩;simp only at hT hte hfit hr kk hX ⊢
 cases hT with
 | done hq0 =>
  have hQe:=hr.qu_at;rw[hq0] at hQe;conv=>whnf
  refine Ca.of (qnext_none hQe (by omega)) ?_;rintro _ _ ⟨rfl,rfl⟩;conv=>whnf
  repeat ((first|(refine Ld.of hr.core.c1 ?_)|refine Br.t ?_|refine CW.s ?_);conv=>whnf)
  refine Ca.of (worn_ok hr.core.pool) ?_;rintro _ _ ⟨rfl,rfl⟩;rw[hwo];conv=>whnf
  repeat ((first|(refine Ld.of hr.core.c5 ?_)|refine Br.f ?_);conv=>whnf)
  refine Ca.of (pdue_ok hr.core.pat) ?_;rintro _ _ ⟨rfl,rfl⟩;have hte:te=t1:=by rw[hte,List.append_nil]
  have note:∀ {K2:KS} {P2:CS} {t2:List CS},Lays 24 noteD Ke Pe K2 P2 t2->(stC (sqK K2) K2.next (-1)).told->Spec Tryz.prog 105 #[.pointer (some ⟨N.k,0,none⟩)] wr fun u w'=>EndsX N X2 c2 (lyK K2 24) (lyP K2 P2 24 noteD) (less b t1.length) (lyT K2 P2 t2) wr w' (u=errOf 0) (u=errOf 7):=fun a b=>note_ok hr a b;rcases hend with⟨e1,e2,rfl,rfl,rfl⟩|⟨e1,K2,P2,t2,e2,e3,rfl,rfl,rfl⟩
  ·have hd:decide (K'.calls≥8)=false:=decide_eq_false (by omega);rw[hd];conv=>whnf
   repeat ((first|(refine Ld.of hr.core.c4 ?_)|refine Br.t ?_|refine Br.f ?_);conv=>whnf)
   refine Ca.of (Hl.due_ok _ _ _ hr.core.health hBe) ?_;rintro _ _ ⟨rfl,rfl⟩;rw[e2];conv=>whnf
   repeat ((first|refine Br.t ?_|refine Br.f ?_|refine Pk.f ?_|refine Pk.t ?_);conv=>whnf)
   rw[hte];exact⟨rfl,kk,.inl ⟨hfit,rfl,X2,c2,n2,hr,hX⟩⟩
  ·have fin:∀u w',EndsX N X2 c2 (lyK K2 24) (lyP K2 P2 24 noteD) (less b t1.length) (lyT K2 P2 t2) wr w' (u=errOf 0) (u=errOf 7)->(u=errOf 0/\∀v,v=errOf 0->Ends N X (lyK K2 24) (lyP K2 P2 24 noteD) b (te++lyT K2 P2 t2) w w' (v=errOf 0) (v=errOf 7))\/(u=errOf 7/\∀v,v=errOf 7->Ends N X (lyK K2 24) (lyP K2 P2 24 noteD) b (te++lyT K2 P2 t2) w w' (v=errOf 0) (v=errOf 7)):=fun u w' ⟨k3,hr3⟩=>by
    have k4:Keep (N.all++blk X) w w':=kk.trans (k3.mono (fun x hx=>List.mem_append_left _ hx));rw[hte];rcases hr3 with⟨f3,rfl,n3,h3⟩|⟨y,hy,hyb,rfl,n3,h3⟩
    ·exact .inl ⟨rfl,fun v hv=>⟨k4,Runs.then hfit (.inl ⟨f3,hv,X2,c2,n3,h3,hX⟩)⟩⟩
    ·exact .inr ⟨rfl,fun v hv=>⟨k4,Runs.then hfit (.inr ⟨y,hy,hyb,hv,n3,h3⟩)⟩⟩
   by_cases h8:8<=Ke.calls
   ·have hd:decide (Ke.calls≥8)=true:=decide_eq_true h8;rw[hd];conv=>whnf
    repeat ((first|refine Br.f ?_|refine Pk.f ?_|refine CW.s ?_);conv=>whnf)
    refine Ca.of (note e2 e3) ?_;rintro u w' hu;rcases fin u w' hu with⟨rfl,hv⟩|⟨rfl,hv⟩
    ·conv=>whnf
     refine Ca.of (eis_ok 0 7 (by decide) _) ?_;rintro _ _ ⟨rfl,rfl⟩;conv=>whnf
     repeat ((first|refine Br.f ?_);conv=>whnf)
     exact⟨rfl,hv _ rfl⟩
    ·conv=>whnf
     refine Ca.of (eis_ok 7 7 (by decide) _) ?_;rintro _ _ ⟨rfl,rfl⟩;conv=>whnf
     repeat ((first|refine Br.t ?_);conv=>whnf)
     exact⟨rfl,hv _ rfl⟩
   ·have hd:decide (Ke.calls≥8)=false:=decide_eq_false (by omega);rw[hd];conv=>whnf
    repeat ((first|(refine Ld.of hr.core.c4 ?_)|refine Br.t ?_|refine Br.f ?_);conv=>whnf)
    refine Ca.of (Hl.due_ok _ _ _ hr.core.health hBe) ?_;rintro _ _ ⟨rfl,rfl⟩;rw[e1.resolve_left h8];conv=>whnf
    repeat ((first|refine Br.t ?_|refine Br.f ?_|refine Pk.f ?_|refine Pk.t ?_|refine CW.s ?_);conv=>whnf)
    refine Ca.of (note e2 e3) ?_;rintro u w' hu;rcases fin u w' hu with⟨rfl,hv⟩|⟨rfl,hv⟩
    ·conv=>whnf
     refine Ca.of (eis_ok 0 7 (by decide) _) ?_;rintro _ _ ⟨rfl,rfl⟩;conv=>whnf
     repeat ((first|refine Br.f ?_);conv=>whnf)
     exact⟨rfl,hv _ rfl⟩
    ·conv=>whnf
     refine Ca.of (eis_ok 7 7 (by decide) _) ?_;rintro _ _ ⟨rfl,rfl⟩;conv=>whnf
     repeat ((first|refine Br.t ?_);conv=>whnf)
     exact⟨rfl,hv _ rfl⟩
 | @skip _ _ v t _ _ _ hq0 hv hl ha1 hlv hT =>
  have hQe:=hr.qu_at;rw[hq0] at hQe;conv=>whnf
  refine Ca.of (qnext_ok hQe (by omega) (by decide) hl) ?_;rintro _ w3 ⟨rfl,hqe⟩;have hqe:QuEnd wr N.k 143 110 6 (coreF N K1 X2 c2) X2 t w3:=hqe;obtain⟨Y,d,h3,k3,hY⟩:=hr.queue hqe;have kk3:=kk.then k3 (fun x hx=>by
   rcases List.mem_cons.1 hx with rfl|hx
   ·exact .inl (List.mem_append_left _ (in_all_own (by simp[Cr.own])))
   ·rcases hX x hx with h|h
    ·exact .inl (List.mem_append_right _ h)
    ·exact .inr h)
  have hY3:∀x,x∈blk Y->x∈blk X\/w.heap.size<=x:=fun x hx=>by
   rcases hY x hx with h|h
   ·exact hX x h
   ·exact .inr (Nat.le_trans kk.size h)
  clear kk hX hqe hQe hY k3;conv=>whnf
  repeat ((first|(refine Ld.of h3.core.c2 ?_)|refine Br.f ?_|refine CW.s ?_);conv=>whnf)
  refine Ca.of (mlive_ok h3.core.map ha1) ?_;rintro _ w4 ⟨g4,rfl,rg4,hg4,k4⟩;have h4:=h3.keep0 k4;have kk4:=kk3.trans (k4.mono (by simp));have c4:w4.cell? ⟨g4,v,none⟩=some (.int .i64 0):=(rg4.cell v hv).trans (by show some (Value.int .i64 (lv K1.at_ v:Nat))=_;rw[hlv];rfl);conv=>whnf
  repeat ((first|(refine Ld.at (by omega) c4 ?_)|refine Br.t ?_|refine Pk.t ?_|refine Ix.n ?_|refine CW.s ?_);conv=>whnf)
  exact⟨(popK K1 t,P1,t1,t2,Y,d,n2),⟨hT,hte,hfit,h4,kk4,hY3⟩,⟨rfl,trivial⟩,by simp only[popK,hq0,List.length_cons];omega⟩
 | @move _ _ v d t _ _ t3 hq0 hv hl ha1 hlv hw0 hF hV hqu hT =>
  have hQe:=hr.qu_at;rw[hq0] at hQe;conv=>whnf
  refine Ca.of (qnext_ok hQe (by omega) (by decide) hl) ?_;rintro _ w3 ⟨rfl,hqe⟩;have hqe:QuEnd wr N.k 143 110 6 (coreF N K1 X2 c2) X2 t w3:=hqe;obtain⟨Y,e,h3,k3,hY⟩:=hr.queue hqe;have kk3:=kk.then k3 (fun x hx=>by
   rcases List.mem_cons.1 hx with rfl|hx
   ·exact .inl (List.mem_append_left _ (in_all_own (by simp[Cr.own])))
   ·rcases hX x hx with h|h
    ·exact .inl (List.mem_append_right _ h)
    ·exact .inr h)
  have hY3:∀x,x∈blk Y->x∈blk X\/w.heap.size<=x:=fun x hx=>by
   rcases hY x hx with h|h
   ·exact hX x h
   ·exact .inr (Nat.le_trans kk.size h)
  clear kk hX hqe hQe hY k3;conv=>whnf
  repeat ((first|(refine Ld.of h3.core.c2 ?_)|refine Br.f ?_|refine CW.s ?_);conv=>whnf)
  refine Ca.of (mlive_ok h3.core.map ha1) ?_;rintro _ w4 ⟨g4,rfl,rg4,hg4,k4⟩;have h4:On w4 N (popK K1 t) P1 (less b t1.length) n2 Y e:=h3.keep0 k4;have kk4:=kk3.trans (k4.mono (by simp));have c4:w4.cell? ⟨g4,v,none⟩=some (.int .i64 (lv K1.at_ v:Nat)):=rg4.cell v hv;conv=>whnf
  repeat ((first|(refine Ld.at (by omega) c4 ?_)|(refine Ld.of h4.core.c1 ?_)|refine Br.f ?_|refine Ix.n ?_|refine Br.n ?_|refine CW.s ?_);conv=>whnf)
  refine Ca.of (worn_ok h4.core.pool) ?_;rintro _ _ ⟨rfl,rfl⟩;have hw1:wornB (popK K1 t).st=false:=hw0;rw[hw1];conv=>whnf
  repeat ((first|(refine Ld.of h4.core.c4 ?_)|refine Br.f ?_|refine Pk.f ?_);conv=>whnf)
  refine Ca.of (Hl.weak_ok _ _ _ h4.core.health v hv) ?_;rintro _ _ ⟨rfl,rfl⟩;have hF1:decide ((popK K1 t).F (12+v)≥3)=false:=decide_eq_false (by show ¬K1.F (12+v)≥3;omega);rw[hF1];conv=>whnf
  refine Ca.of (vacate_ok h4 hV) ?_;rintro u w5 ⟨k5,hr5⟩;have kk5:=kk4.trans (k5.mono (fun x hx=>List.mem_append_left _ hx));rcases hr5 with⟨f5,rfl,n5,h5⟩|⟨y,hy,hyb,rfl,n5,h5⟩
  ·conv=>whnf
   repeat ((first|refine CW.s ?_);conv=>whnf)
   refine Ca.of (eis_ok 0 7 (by decide) _) ?_;rintro _ _ ⟨rfl,rfl⟩;have c107:w5.cell? ⟨N.k,107,none⟩=some (.int .i64 (vcK (popK K1 t) P1 v d).reports):=h5.core.row.cell 107 (by omega);have c108:w5.cell? ⟨N.k,108,none⟩=some (.int .i64 (vcK (popK K1 t) P1 v d).moved):=h5.core.row.cell 108 (by omega);conv=>whnf
   repeat ((first|(refine Ld.at (by omega) c107 ?_)|(refine Ar.i64w ?_)|refine Br.t ?_|refine Br.f ?_|refine Ru.eql_nil0 ?_);conv=>whnf)
   refine Sd.rowAt h5.core.row 107 (by omega) (by omega) rfl ?_;intro w6 r6 k6;have c108':w6.cell? ⟨N.k,108,none⟩=some (.int .i64 (vcK (popK K1 t) P1 v d).moved):=r6.cell 108 (by omega);conv=>whnf
   repeat ((first|(refine Ld.at (by omega) c108' ?_)|(refine Ar.i64w ?_));conv=>whnf)
   refine Sd.rowAt r6 108 (by omega) (by omega) rfl ?_;intro w7 r7 k7;have h7:=h5.row (K':=mdK (vcK (popK K1 t) P1 v d) (lv K1.at_ v)) (k6.trans k7) r7 (fun j hj=>coreF_md _ _ j hj) rfl;rw[less_less] at h7;conv=>whnf
   refine⟨(mdK (vcK (popK K1 t) P1 v d) (lv K1.at_ v),vcP (popK K1 t) P1 v d,t1++vcT (popK K1 t) P1 v d,t3,Y,e,n5),⟨hT,by rw[hte,List.append_assoc],Runs.fits hfit f5,by rw[List.length_append];exact h7,kk5.trans ((k6.trans k7).mono (fun x hx=>by rw[List.mem_singleton.1 hx];exact List.mem_append_left _ (in_all_own (by simp[Cr.own])))),hY3⟩,⟨rfl,trivial⟩,?_⟩;show(mdK (vcK (popK K1 t) P1 v d) (lv K1.at_ v)).qu.length<K1.qu.length;show(vcK (popK K1 t) P1 v d).qu.length<K1.qu.length;rw[hqu,hq0];simp
  ·conv=>whnf
   repeat ((first|refine CW.s ?_);conv=>whnf)
   refine Ca.of (eis_ok 7 7 (by decide) _) ?_;rintro _ _ ⟨rfl,rfl⟩;conv=>whnf
   repeat ((first|refine Br.t ?_);conv=>whnf)
   have dead:∀t4,tr=te++t4->Ends N X K' P' b tr w w5 (errOf 7=errOf 0) (errOf 7=errOf 7):=fun t4 ht4=>by
    rw[ht4,hte,List.append_assoc,List.append_assoc];exact⟨kk5,Runs.then hfit (Runs.gone hy hyb ⟨rfl,n5,h5⟩)⟩
   refine⟨rfl,?_⟩;rcases hend with⟨-,-,-,-,h4⟩|⟨-,K2,P2,t2,-,-,-,-,h4⟩
   ·exact dead [] (by rw[h4,List.append_nil])
   ·exact dead _ h4
end
end
section
open Go.RowKit
def trC(K:KS)(o:Nat)(fl s:Int):Cp:={ stC K s (-1) with fl:=updf K.fl o fl }
def trimD(o:Nat)(fl:Int)(K:KS)(s:Int):Nat->Nat:=ptN (trC K o fl s)
theorem trC_cell{K:KS}{o:Nat}{fl s:Int}(ho:o<24)(j:Nat):put (stC K s (-1)).cell o (.int .i64 fl) j=(trC K o fl s).cell j:=by
 unfold put;by_cases h:j=o
 ·subst h;rw[if_pos rfl,(trC K j fl s).cell_fl ho];unfold trC updf;simp only[if_pos]
 ·rw[if_neg h];unfold Cp.cell trC updf;simp only[if_neg h];rfl
def flK(K:KS)(o:Nat)(fl:Int):KS:={ K with fl:=updf K.fl o fl }
def drK(K:KS)(o:Nat):KS:={ K with at_:=updf K.at_ o 0,ow:=updf K.ow (K.at_ o-1) 0 }
section
variable{w w':World}{N:Cr}{K:KS}{X:Option Addr}{c:Nat}{P:CS}{b:Option Nat}{n:Int}
theorem coreF_floor(o:Nat)(ho:o<24)(x:Int)(j:Nat)(hj:j<110):put (coreF N K X c) (82+o) (.int .i64 x) j=coreF N (flK K o x) X c j:=by
 unfold put;by_cases h:j=82+o
 ·subst h;rw[if_pos rfl,coreF_fl ho];unfold flK updf;simp only[if_pos]
 ·rw[if_neg h];unfold coreF;by_cases h1:82<=j/\j<106
  ·have:j-82≠o:=by omega
   unfold flK updf;simp only[if_neg this]
  ·by_cases h2:j<82
   ·have:j=0\/j=1\/j=2\/j=3\/j=4\/j=5\/j=6\/7<=j:=by omega
    rcases this with rfl|rfl|rfl|rfl|rfl|rfl|rfl|h7
    all_goals first|rfl|skip
    rw[if_neg (by omega),if_neg (by omega),if_neg (by omega),if_neg (by omega),if_neg (by omega),if_neg (by omega),if_neg (by omega),if_pos h2,if_neg (by omega),if_neg (by omega),if_neg (by omega),if_neg (by omega),if_neg (by omega),if_neg (by omega),if_neg (by omega),if_pos h2];rfl
   ·have e6:¬j<106:=by omega
    simp only[if_neg h2,if_neg e6];rfl
theorem trim1_ok(h:On w N K P b n X c){x2 x7 x3 o:Nat}{fl:Int}(ho:o<24)(r2:w.cell? ⟨x2,0,none⟩=some (.pointer (some ⟨N.k,0,none⟩)))(r7:w.cell? ⟨x7,0,none⟩=some (.int .i64 fl))(r3:w.cell? ⟨x3,0,none⟩=some (.int .i64 o))(s:Int)(ht:(trC K o fl s).told) :
  Spec Tryz.prog 64 #[.int .i64 s,.pointer (some ⟨x2,0,none⟩),.pointer (some ⟨x7,0,none⟩),.pointer (some ⟨x3,0,none⟩)] w fun v w'=>∃A d,v=.tuple #[.slice A 174 d,errOf 0]/\Ly w' 5 1 A 174 d (fun j=>.int .u8 (trimD o fl K s j:Nat))/\Keep [] w w':=by
 have l7:=cell_lt r7;have l3:=cell_lt r3;refine spec_of_wpE (T:=tt) tt_ok Tryz.func64 rfl (by decide +kernel) Tryz.ntmps64 (by simp) ?_;conv=>whnf
 repeat ((first|(refine Ld.of r2 ?_));conv=>whnf)
 refine Ca.of (cstate_ok h s (-1)) ?_;rintro _ w2 ⟨rfl,k2⟩;conv=>whnf
 refine Ru.alloca (alloc_cp w2) ?_;intro g w3 hg hs3 rg k3;conv=>whnf
 refine Ru.sta rg size_cp (by omega) (fun j _=>Cp.cell_one _ j) ?_;intro w4 rg4 k4;have rg4:Row w4 g 116 62 (stC K s (-1)).cell:=rg4.congr (fun j hj=>by unfold lay;rw[if_pos (by omega),Nat.sub_zero]);have q4:Keep [] w w4:=(k2.trans k3).fresh (by rw[hg];exact k2.size) k4;have s7:=(q4.cell l7 (by simp)).trans r7;have s3:=(q4.cell l3 (by simp)).trans r3;have hgw:w.heap.size<=g:=by rw[hg];exact k2.size
 conv=>whnf
 repeat ((first|(refine Ld.of s3 ?_)|(refine Ld.of s7 ?_)|(refine Ix.of o (by omega) (by omega) ?_));conv=>whnf)
 refine Sd.rowAt rg4 o (by omega) (by omega) rfl ?_;intro w5 rg5 k5;have rg5:=rg5.congr (fun j hj=>trC_cell ho j);have q5:=q4.fresh hgw k5;conv=>whnf
 refine Ru.lda rg5 Tryz.underlying116 rfl size_cp (by omega) ?_;rw[agg_congr (fun j _=>by rw[Nat.zero_add]:∀j,j<62->(trC K o fl s).cell (0+j)=(trC K o fl s).cell j)];conv=>whnf
 refine Ca.of (pwrite_ok w5 _ ht) ?_;rintro _ w6 ⟨y,hy,rfl,r6,k6⟩;conv=>whnf
 refine⟨rfl,some ⟨y,0,none⟩,174,rfl,(Ly.of_row r6 (by omega) (by omega) (by simp[maxLen])).congr (fun j hj=>?_),q5.trans k6⟩;unfold trimD;rw[ptN_int]
theorem trim_none(h:On w N K P b n X c){o:Nat}(ho:o<24)(h0:K.at_ o=0) :
  Spec Tryz.prog 44 #[.pointer (some ⟨N.k,0,none⟩),.int .i64 o] w fun u w'=>EndsX N X c K P b [] w w' (u=errOf 0) (u=errOf 7):=by
 refine spec_of_wpE (T:=tt) tt_ok Tryz.func44 rfl (by decide +kernel) Tryz.ntmps44 (by simp) ?_;conv=>whnf
 refine Ru.boxp ?_;intro x2 w1 hx2 hs1 r2 k1;conv=>whnf
 refine Ru.boxi ?_;intro x3 w2 hx3 hs2 r3 k2;have r22:=r2.keep k2 (by simp);have h2:=(h.keep0 k1).keep0 k2;have kk:=k1.trans k2;conv=>whnf
 repeat ((first|(refine Ld.row r3 (by omega) ?_)|refine Br.f ?_|refine Pk.f ?_|refine Br.n ?_|refine CW.s ?_);conv=>whnf)
 refine CW.held (fun w'=>CoreAt w' N K X c/\Row w' x2 85 1 (fun _=>.pointer (some ⟨N.k,0,none⟩))/\Row w' x3 3 1 (fun _=>.int .i64 o)) [] (.take 0 (.take 1 (.take 2 (.take 3 (.take 4 (.one 5 (.take 6 (.take 7 (.take 8 (.take 9 (.take 10 (.done)))))))))))) tt_ok (by kernel_rfl) (by kernel_rfl) (by kernel_rfl) ?_ ?_
 ·exact⟨h2.core.keep0 ((Keep.refl _ _).drewN 1),Row.drewN r22 1,Row.drewN r3 1⟩
 have q2:=(Keep.refl [] w2).drewN 1;have h3:=h2.keep0 q2;have r23:=r22.keep q2 (by simp);have r33:=r3.keep q2 (by simp);have kk3:=kk.trans q2;generalize w2.drewN 1=w3 at *;conv=>whnf
 repeat ((first|(refine LdQ.of (fun _ h=>h.1.c2) ?_)|(refine LdQ.of (fun _ h=>h.2.1.cell 0 (by omega)) ?_)|(refine LdQ.of (fun _ h=>h.2.2.cell 0 (by omega)) ?_));conv=>whnf)
 refine Ca.of (mat_ok h3.core.map o (by omega) (by omega)) ?_;rintro _ _ ⟨rfl,rfl⟩;rw[if_pos h0];refine⟨⟨h3.core,r23,r33⟩,?_⟩;conv=>whnf
 repeat ((first|refine Br.t ?_|refine Ru.n1 ?_);conv=>whnf)
 exact⟨rfl,Keep.of0 kk3,Runs.nil ⟨rfl,n,h3⟩⟩
theorem alloc_i64(w:World):(Instr.alloc 2 true (.tuple #[])).run Tryz.prog w=.ok (.pointer (some ⟨w.heap.size,0,none⟩)) (w.alloc (.cells #[.int .i64 0] 2)):=by kernel_rfl
theorem trim_ok(h:On w N K P b n X c){o:Nat}(ho:o<24)(h0:K.at_ o≠0)(h96:K.at_ o<=96){K1:KS}{P1:CS}{t1:List CS}(H:Lays 24 (trimD o (K.en o).seq) K P K1 P1 t1)(ht:(trC (sqK K1) o (K.en o).seq K1.next).told)(h1:(lyK K1 24).at_ o≠0)(h2:(lyK K1 24).at_ o<=96) :
  Spec Tryz.prog 44 #[.pointer (some ⟨N.k,0,none⟩),.int .i64 o] w fun u w'=>EndsX N X c (drK (flK (lyK K1 24) o (K.en o).seq) o) (lyP K1 P1 24 (trimD o (K.en o).seq)) b (lyT K1 P1 t1) w w' (u=errOf 0) (u=errOf 7):=by
 have far:∀x,w.heap.size<=x->x∉N.all:=fun x hx hm=>by
  have h3:x<w.heap.size:=by
   rcases List.mem_append.1 hm with hm|hm
   ·exact h.core.lt (List.mem_append_left _ hm)
   ·exact h.l_lt _ hm
  omega
 refine spec_of_wpE (T:=tt) tt_ok Tryz.func44 rfl (by decide +kernel) Tryz.ntmps44 (by simp) ?_;conv=>whnf
 refine Ru.boxp ?_;intro x2 w1 hx2 hs1 r2 k1;conv=>whnf
 refine Ru.boxi ?_;intro x3 w2 hx3 hs2 r3 k2;have r22:=r2.keep k2 (by simp);have hh2:=(h.keep0 k1).keep0 k2;have kk:=k1.trans k2;have x2w:w.heap.size<=x2:=by omega
 have x3w:w.heap.size<=x3:=by omega
 clear hx2 hs1 r2 k1 k2 hs2 hx3 w1;conv=>whnf
 repeat ((first|(refine Ld.row r3 (by omega) ?_)|refine Br.f ?_|refine Pk.f ?_|refine Br.n ?_|refine CW.s ?_);conv=>whnf)
 refine CW.held (fun w'=>CoreAt w' N K X c/\Row w' x2 85 1 (fun _=>.pointer (some ⟨N.k,0,none⟩))/\Row w' x3 3 1 (fun _=>.int .i64 o)) [] (.take 0 (.take 1 (.take 2 (.take 3 (.take 4 (.one 5 (.take 6 (.take 7 (.take 8 (.take 9 (.take 10 (.done)))))))))))) tt_ok (by kernel_rfl) (by kernel_rfl) (by kernel_rfl) ?_ ?_
 ·exact⟨hh2.core.keep0 ((Keep.refl _ _).drewN 1),Row.drewN r22 1,Row.drewN r3 1⟩
 have q2:=(Keep.refl [] w2).drewN 1;have h3:=hh2.keep0 q2;have r23:=r22.keep q2 (by simp);have r33:=r3.keep q2 (by simp);have kk3:=kk.trans q2;clear hh2 r22 r3 kk q2;generalize w2.drewN 1=w3 at *;conv=>whnf
 repeat ((first|(refine LdQ.of (fun _ h=>h.1.c2) ?_)|(refine LdQ.of (fun _ h=>h.2.1.cell 0 (by omega)) ?_)|(refine LdQ.of (fun _ h=>h.2.2.cell 0 (by omega)) ?_));conv=>whnf)
 refine Ca.of (mat_ok h3.core.map o (by omega) (by omega)) ?_;rintro _ _ ⟨rfl,rfl⟩;rw[if_neg h0];refine⟨⟨h3.core,r23,r33⟩,?_⟩;conv=>whnf
 repeat ((first|refine Br.f ?_|refine Ru.neq_nil0 ?_);conv=>whnf)
 refine CW.held (fun w'=>CoreAt w' N K X c/\Row w' x2 85 1 (fun _=>.pointer (some ⟨N.k,0,none⟩))/\Row w' x3 3 1 (fun _=>.int .i64 o)) [8] (.take 0 (.take 1 (.take 2 (.take 3 (.take 4 (.take 5 (.take 6 (.one 7 (.one 8 (.done)))))))))) tt_ok (by kernel_rfl) (by kernel_rfl) (by kernel_rfl) ?_ ?_
 ·exact⟨h3.core.keep0 ((Keep.refl _ _).drewN 1),Row.drewN r23 1,Row.drewN r33 1⟩
 have q2:=(Keep.refl [] w3).drewN 1;have h4:=h3.keep0 q2;have r24:=r23.keep q2 (by simp);have r34:=r33.keep q2 (by simp);have kk4:=kk3.trans q2;clear h3 r23 r33 kk3 q2;generalize w3.drewN 1=w4 at *;have een:coreF N K X c (7+3*o)=.int .i64 (K.en o).seq:=coreF_en' (j:=0) (by omega) (by omega);conv=>whnf
 repeat ((first|(refine LdQ.of (fun _ h=>h.2.1.cell 0 (by omega)) ?_)|(refine LdQ.of (fun _ h=>h.2.2.cell 0 (by omega)) ?_)|(refine Ix.of o (by omega) (by omega) ?_)|(refine LdQ.at (j:=7+3*o) (by omega) (fun _ h=>(h.1.row.cell (7+3*o) (by omega)).trans (congrArg some een)) ?_));conv=>whnf)
 refine Ru.of (alloc_i64 w4) ?_;have r7:=rowOne (heap_alloc_new w4 (.cells #[.int .i64 0] 2));have k5:Keep [] w4 (w4.alloc (.cells #[.int .i64 0] 2)):=(Keep.refl _ _).alloc _;have h5:=h4.keep0 k5;have r25:=r24.keep k5 (by simp);have r35:=r34.keep k5 (by simp);have kk5:=kk4.trans k5;have l2:=r24.lt;have l3:=r34.lt;have x7w:=kk4.size;clear k5 h4 r24 r34 kk4;generalize w4.alloc _=w5 at *;generalize w4.heap.size=x7 at *;refine⟨⟨h5.core,r25,r35⟩,?_⟩;conv=>whnf
 refine Sd.rowAt r7 0 (by omega) (by omega) rfl ?_;intro w6 r76 k6;have h6:=h5.away r7 (by decide) k6;have r26:=r25.keep k6 (by simp;omega);have r36:=r35.keep k6 (by simp;omega);have kk6:=kk5.fresh x7w k6;have r76:Row w6 x7 2 1 (fun _=>.int .i64 (K.en o).seq):=r76.congr (fun j hj=>by rw[c1 hj];rfl);clear r7 h5 r25 r35 kk5 k6 l2 l3 w5;conv=>whnf
 repeat ((first|(refine Ld.row r26 (by omega) ?_));conv=>whnf)
 refine Ca.of (lay_ok' h6 (of:=24) (by omega) H 64 #[.pointer (some ⟨x2,0,none⟩),.pointer (some ⟨x7,0,none⟩),.pointer (some ⟨x3,0,none⟩)] (fun w2 b2 n2 k2 h2=>trim1_ok h2 ho ((r26.keep k2 (far _ x2w)).cell 0 (by omega)) ((r76.keep k2 (far _ x7w)).cell 0 (by omega)) ((r36.keep k2 (far _ x3w)).cell 0 (by omega)) K1.next ht)) ?_;rintro _ w7 ⟨k7,hr⟩;have kk7:=(Keep.of0 (N:=N) kk6).trans k7;rcases hr with⟨hf,rfl,n7,h7⟩|⟨y,hy,hyb,rfl,n7,h7⟩
 case inr =>
  conv=>whnf
  repeat ((first|refine Br.t ?_|refine Ru.n1 ?_|refine CW.s ?_);conv=>whnf)
  exact⟨rfl,kk7,.inr ⟨y,hy,hyb,rfl,n7,h7⟩⟩
 have r27:=r26.keep k7 (far _ x2w);have r37:=r36.keep k7 (far _ x3w);have r77:=r76.keep k7 (far _ x7w);clear h6 r26 r36 r76 k7 kk6;conv=>whnf
 repeat ((first|refine Br.f ?_|refine Ru.neq_nil0 ?_|refine CW.s ?_);conv=>whnf)
 refine CW.held (fun w'=>Row w' x2 85 1 (fun _=>.pointer (some ⟨N.k,0,none⟩))/\Row w' x3 3 1 (fun _=>.int .i64 o)/\Row w' x7 2 1 (fun _=>.int .i64 (K.en o).seq)) [] (.take 0 (.take 1 (.take 2 (.take 3 (.take 4 (.take 5 (.one 6 (.done)))))))) tt_ok (by kernel_rfl) (by kernel_rfl) (by kernel_rfl) ?_ ?_
 ·exact⟨Row.drewN r27 1,Row.drewN r37 1,Row.drewN r77 1⟩
 have q7:=(Keep.refl [] w7).drewN 1;have h8:=h7.keep0 q7;have r28:=r27.keep q7 (by simp);have r38:=r37.keep q7 (by simp);have r78:=r77.keep q7 (by simp);have kk8:=kk7.trans (Keep.of0 (N:=N) q7);clear h7 r27 r37 r77 kk7 q7;generalize w7.drewN 1=w8 at *;conv=>whnf
 repeat ((first|(refine LdQ.of (fun _ h=>h.1.cell 0 (by omega)) ?_)|(refine LdQ.of (fun _ h=>h.2.1.cell 0 (by omega)) ?_)|(refine LdQ.of (fun _ h=>h.2.2.cell 0 (by omega)) ?_)|(refine Ix.of o (by omega) (by omega) ?_));conv=>whnf)
 rw[show 0+82+o=82+o by omega];refine Sd.rowAt h8.core.row (82+o) (by omega) (by omega) rfl ?_;intro w9 r9 k9;have h9:On w9 N (flK (lyK K1 24) o (K.en o).seq) (lyP K1 P1 24 (trimD o (K.en o).seq)) _ n7 X c:=h8.row k9 r9 (fun j hj=>coreF_floor o ho _ j hj) rfl;have r29:=r28.keep k9 (by
  have:=h8.core.row.lt;have:=h8.core.row.ne_ r28 (by decide);simpa using this.symm)
 have r39:=r38.keep k9 (by
  have:=h8.core.row.ne_ r38 (by decide);simpa using this.symm)
 have r79:=r78.keep k9 (by
  have:=h8.core.row.ne_ r78 (by decide);simpa using this.symm)
 have kk9:=kk8.trans (Keep.of1 (N:=N) (by simp[Cr.own]) k9);clear h8 r28 r38 r78 kk8 r9 k9;refine⟨⟨r29,r39,r79⟩,?_⟩;conv=>whnf
 refine CW.held (fun w'=>Row w' x2 85 1 (fun _=>.pointer (some ⟨N.k,0,none⟩))/\Row w' x3 3 1 (fun _=>.int .i64 o)/\w'.cell? ⟨N.k,2,none⟩=some (.pointer (some ⟨N.a,0,none⟩))) [] (.take 0 (.take 1 (.take 2 (.take 3 (.take 4 (.one 5 (.take 6 (.done)))))))) tt_ok (by kernel_rfl) (by kernel_rfl) (by kernel_rfl) ?_ ?_
 ·exact⟨Row.drewN r29 1,Row.drewN r39 1,(h9.keep0 ((Keep.refl [] w9).drewN 1)).core.c2⟩
 have q9:=(Keep.refl [] w9).drewN 1;have h10:=h9.keep0 q9;have r210:=r29.keep q9 (by simp);have r310:=r39.keep q9 (by simp);have kk10:=kk9.trans (Keep.of0 (N:=N) q9);clear h9 r29 r39 kk9 q9;generalize w9.drewN 1=w10 at *;conv=>whnf
 repeat ((first|(refine LdQ.of (fun _ h=>h.1.cell 0 (by omega)) ?_)|(refine LdQ.of (fun _ h=>h.2.1.cell 0 (by omega)) ?_)|(refine LdQ.of (fun _ h=>h.2.2) ?_));conv=>whnf)
 refine Ca.of (mdrop_ok h10.core.map o (by omega) h2 h1) ?_;rintro _ w11 ⟨rfl,r11,k11⟩;have h11:=h10.map k11 r11;refine⟨⟨r210.keep k11 (by
  have:=Row.ne_ h10.core.map r210 (by decide);simpa using this.symm),r310.keep k11 (by
  have:=Row.ne_ h10.core.map r310 (by decide);simpa using this.symm),h11.core.c2⟩,?_⟩
 conv=>whnf
 exact⟨rfl,kk10.trans (Keep.of1 (by simp[Cr.own]) k11),.inl ⟨hf,rfl,n7,h11⟩⟩
end
structure Idle(K K':KS):Prop where
 fl:K'.fl=K.fl
 next:K'.next=K.next
 qu:K'.qu=K.qu
 cur:K'.cur=K.cur
 calls:K'.calls=K.calls
theorem Idle.refl(K:KS):Idle K K:=⟨rfl,rfl,rfl,rfl,rfl⟩
theorem Idle.trans{K K1 K2:KS}(h:Idle K K1)(g:Idle K1 K2):Idle K K2:=⟨g.fl.trans h.fl,g.next.trans h.next,g.qu.trans h.qu,g.cur.trans h.cur,g.calls.trans h.calls⟩
theorem Shut.idle{K K0:KS}(h:Shut K K0):Idle K K0:=by
 obtain⟨st,fo,fb,fi,e⟩:=h.eq;rw[e];exact⟨rfl,rfl,rfl,rfl,rfl⟩
theorem VcEnd.idle{K:KS}{P:CS}{k:Cp}{m:Int}{v d:Nat}(h:VcEnd K P k m v d):Idle K (vcK K P v d):=by
 obtain⟨st,fo,fb,fi,pn,at_,ow,en,F,mo,e⟩:=h.same;rw[e];exact⟨rfl,rfl,rfl,rfl,rfl⟩
structure Inv(K:KS)(P:CS)(k:Cp)(m:Int):Prop where
 l:InvL K P k m
 b:InvB K P
 h:InvH K
 free:5<=cntS K.st 0
theorem Shut.inv{K K0:KS}{P:CS}{k:Cp}{m:Int}(h:Shut K K0)(I:Inv K P k m)(B:InvB K0 P):Inv K0 P k m:=by
 have hc:=h.cnt;obtain⟨st,fo,fb,fi,e⟩:=h.eq;subst e;exact⟨⟨I.l.ok,I.l.uq,I.l.en,I.l.fl,I.l.next,I.l.con⟩,B,⟨I.h.hb,I.h.sc,I.h.cur⟩,by rw[hc];exact I.free⟩
theorem VcEnd.inv{K:KS}{P:CS}{k:Cp}{m:Int}{v d:Nat}(h:VcEnd K P k m v d)(I:Inv K P k m):Inv (vcK K P v d) (vcP K P v d) k m :=
 ⟨h.il,h.ib,h.ih,by rw[h.cnt];exact I.free⟩
def Tells(T:CS)(k:Cp)(m:Int)(a:Nat->Nat->Nat):Prop:=∃L,Okay T k L m/\Shows T L a
theorem VcEnd.tells{K:KS}{P:CS}{k:Cp}{m:Int}{v d:Nat}(h:VcEnd K P k m v d){a:Nat->Nat->Nat}(hs:Shows P K.at_ a):∀T,T∈vcT K P v d->Tells T k m a:=fun T hT=>⟨K.at_,(h.tr T hT).1,(h.tr T hT).2 a hs⟩
structure LyCore(of:Nat)(D:KS->Int->Nat->Nat)(K1:KS)(P1:CS):Prop where
 fb:K1.fb<12
 fi:K1.fi<=8
 next:0<=K1.next/\K1.next<1099511627775
 hb:Hl.HB K1.F
 mw:MapWf K1.at_ K1.ow
 calm:P1.calm
 blank:P1.pg (K1.fb*8+K1.fi)=.blank
 ok:(nwTag K1 of).ok
 lt:K1.fb*8+K1.fi<96
 eq:∃ow F calls,lyK K1 of={ K1 with next:=K1.next+1,fi:=K1.fi+1,at_:=updf K1.at_ of (K1.fb*8+K1.fi+1),ow:=ow,en:=updf K1.en of ⟨K1.next,0,false⟩,F:=F,calls:=calls }/\Con (updf K1.at_ of (K1.fb*8+K1.fi+1)) ow/\(of≠24->calls=K1.calls)/\(of=24->calls=0)
 b:InvB (lyK K1 of) (lyP K1 P1 of D)
 h:InvH (lyK K1 of)
 pg:(lyP K1 P1 of D).pg (K1.fb*8+K1.fi)=.full (nwTag K1 of) (cutD (D (sqK K1) K1.next))
 ne:∀q,q≠K1.fb*8+K1.fi->(lyP K1 P1 of D).pg q=P1.pg q
 free:5<=cntS (lyK K1 of).st 0
structure Stab(J:Nat->KS->CS->Prop):Prop where
 mono:∀ {n n':Nat} {K:KS} {P:CS},n<=n'->J n K P->J n' K P
 adm:∀ {n:Nat} {K K':KS} {P:CS},K'.at_=K.at_->K'.en=K.en->K'.next=K.next->K'.F=K.F->K'.cur=K.cur->K'.calls=K.calls->J n K P->J n K' P
 rd:∀ {n:Nat} {K:KS} {P:CS} {p:Nat},p<96->J n K P->J (n+1) (rdK K p) (P.readE p)
 pt:∀ {n:Nat} {K:KS} {P:CS},0<=K.calls->K.calls<8->J n K P->J n (ptK K) P
 vac:∀ {n:Nat} {K:KS} {P:CS} {k:Cp} {m:Int} {v d:Nat},Inv K P k m->VcEnd K P k m v d->J n K P->J (n+8) (vcK K P v d) (vcP K P v d)
 put:∀ {n:Nat} {K:KS} {P:CS} {k:Cp} {m:Int} {s:Nat} {f:Nat->Nat},Inv K P k m->LyCore s (putD f) K P->s<24->J n K P->J (n+1) (lyK K s) (lyP K P s (putD f))
 note:∀ {n:Nat} {K:KS} {P:CS} {k:Cp} {m:Int},Inv K P k m->LyCore 24 noteD K P->(stC (sqK K) K.next (-1)).told->J n K P->J (n+1) (lyK K 24) (lyP K P 24 noteD)
 trim:∀ {n:Nat} {K:KS} {P:CS} {k:Cp} {m:Int} {s:Nat} {q:Int},Inv K P k m->LyCore 24 (trimD s q) K P->(trC (sqK K) s q K.next).told->s<24->J n K P->J (n+1) (drK (flK (lyK K 24) s q) s) (lyP K P 24 (trimD s q))
structure OpEnd(of:Nat)(K:KS)(P:CS)(k:Cp)(m:Int)(K':KS)(P':CS)(tr:List CS):Prop where
 op:Opens of 48 K P K' P' tr
 inv:Inv K' P' k m
 room:roomB K'.fo K'.fi of=true
 idle:Idle K K'
 tag:∀o,o<25->K.at_ o≠0->K'.at_ o≠0/\(K'.en o).seq=(K.en o).seq
 tr:∀a,Shows P K.at_ a->∀T,T∈tr->Tells T k m a
 sh:∀a,Shows P K.at_ a->Shows P' K'.at_ a
 st:∀J,Stab J->∀n,J n K P->J (n+8) K' P'
theorem noBad{K:KS}{P:CS}(B:InvB K P):cntS K.st 3=0:=cntTo_none (fun b hb=>by have:=B.st b hb;omega)
theorem noWorn{K:KS}{P:CS}(B:InvB K P):wornB K.st=false:=by
 unfold wornB;rw[noBad B];rfl
theorem op_end{K:KS}{P:CS}{k:Cp}{m:Int}(I:Inv K P k m){of:Nat}(hof:of<=24):∃K' P' tr,OpEnd of K P k m K' P' tr:=by
 by_cases hro:roomB K.fo K.fi of=true
 ·exact⟨K,P,[],.room (n:=47) I.b.fb I.b.fi hro,I,hro,Idle.refl K,fun o ho e=>⟨e,rfl⟩,(fun _ _ _ h=>nomatch h),fun _ h=>h,fun J S n j=>S.mono (by omega) j⟩
 have hro':roomB K.fo K.fi of=false:=by simpa using hro
 obtain⟨B1,S1,hf1,-⟩:=I.b.shut;have I1:=S1.inv I B1;have at1:(shK K).at_=K.at_:=by
  obtain⟨st,fo,fb,fi,e⟩:=S1.eq;rw[e]
 have en1:(shK K).en=K.en:=by
  obtain⟨st,fo,fb,fi,e⟩:=S1.eq;rw[e]
 have sh1:(shK K).next=K.next/\(shK K).F=K.F/\(shK K).cur=K.cur/\(shK K).calls=K.calls:=by
  obtain⟨st,fo,fb,fi,e⟩:=S1.eq;rw[e];exact⟨rfl,rfl,rfl,rfl⟩
 have hbound:boundN (shK K).st=5:=by
  unfold boundN;rw[noWorn B1,noBad B1];rfl
 by_cases hsp:spareB (shK K).st=true
 ·have h6:5<cntS (shK K).st 0:=by
   unfold spareB at hsp;rw[hbound] at hsp;exact of_decide_eq_true hsp
  obtain⟨d,htk,hd,hd0⟩:=takeN_some (st:=(shK K).st) B1.pn (by omega);have hr:roomB (opK K d).fo (opK K d).fi of=true:=by
   show roomB true 0 of=true;unfold roomB holdsB;simp
  have hcn:cntS (opK K d).st 0=cntS (shK K).st 0-1:=by
   have:=cntS_upd (shK K).st 1 0 hd;rw[if_pos hd0,if_neg (by omega)] at this;show cntS (updf (shK K).st d 1) 0=_;omega
  have B2:InvB (opK K d) P:=by
   refine⟨fun b hb=>?_,fun b hb e=>?_,fun _=>?_,fun b i hb e hi=>?_,fun _ i h1 h2=>?_,hd,by show 0<=8;omega,by show d+1<=12;omega⟩
   ·show updf (shK K).st d 1 b<=2;rw[updf];split
    ·omega
    ·exact B1.st b hb
   ·have e:updf (shK K).st d 1 b=1:=e;rw[updf] at e;by_cases hbd:b=d
    ·exact⟨rfl,hbd.symm⟩
    ·rw[if_neg hbd] at e;have:=(B1.opn b hb e).1;rw[hf1] at this
     cases this
   ·show updf (shK K).st d 1 d=1;rw[updf,if_pos rfl]
   ·have e:updf (shK K).st d 1 b=0:=e;rw[updf] at e;by_cases hbd:b=d
    ·rw[if_pos hbd] at e;omega
    ·rw[if_neg hbd] at e;exact B1.bl b i hb e hi
   ·exact B1.bl d i hd hd0 h2
  have I2:Inv (opK K d) P k m:=⟨⟨I1.l.ok,I1.l.uq,I1.l.en,I1.l.fl,I1.l.next,I1.l.con⟩,B2,⟨I1.h.hb,I1.h.sc,I1.h.cur⟩,by rw[hcn];omega⟩;refine⟨opK K d,P,[],.spare (n:=47) I.b.fb I.b.fi hro' hsp B1.pn htk (.room (n:=46) B2.fb B2.fi hr),I2,hr,S1.idle.trans ⟨rfl,rfl,rfl,rfl,rfl⟩,fun o ho e=>⟨by show(shK K).at_ o≠0;rw[at1];exact e,by show((shK K).en o).seq=_;rw[en1]⟩,(fun _ _ _ h=>nomatch h),fun a hs=>?_,fun J S n j=>S.mono (by omega) (S.adm (K:=K) at1 en1 sh1.1 sh1.2.1 sh1.2.2.1 sh1.2.2.2 j)⟩;show Shows P (shK K).at_ a;rw[at1];exact hs
 ·have hsp':spareB (shK K).st=false:=by simpa using hsp
  have h5:cntS (shK K).st 0<=5:=by
   unfold spareB at hsp';rw[hbound] at hsp';have:=of_decide_eq_false hsp';omega
  have hst:∀b,b<12->(shK K).st b=0\/(shK K).st b=2:=fun b hb=>by
   have:=B1.st b hb;by_cases h:(shK K).st b=1
   ·have:=(B1.opn b hb h).1;rw[hf1] at this
    cases this
   ·omega
  have hall:cntS (shK K).st 0+cntS (shK K).st 2=12:=cntTo_all hst;have h7:7<=cntS (shK K).st 2:=by omega
  obtain⟨b0,hb0,e0⟩:=cntTo_ex (st:=(shK K).st) (s:=2) (n:=12) (by unfold cntS at h7;omega);obtain⟨m1,m2⟩:=@bestOf_min (fun j=>((shK K).st j:Nat)) (fun j=>(lv (shK K).at_ j:Nat)) 12;have hge:0<=bestK (shK K):=(m1 b0 hb0 (by show(((shK K).st b0:Nat):Int)=2;omega)).1;have hlt:=(bestOf_lt (fun j=>((shK K).st j:Nat)) (fun j=>(lv (shK K).at_ j:Nat)) 12).2;obtain⟨v,hv⟩:∃v:Nat,bestK (shK K)=v:=⟨(bestK (shK K)).toNat,by omega⟩;have hv':bestOf (fun j=>((shK K).st j:Nat)) (fun j=>(lv (shK K).at_ j:Nat)) 12=v:=hv;rw[hv'] at m1 m2 hlt;have hv12:v<12:=by omega
  have hv2:(shK K).st v=2:=by
   have:=m2 (by omega);simp only[Int.toNat_natCast] at this;omega
  have hmin:∀b,b<12->(shK K).st b=2->lv (shK K).at_ v<=lv (shK K).at_ b:=fun b hb e=>by
   have:=(m1 b hb (by show(((shK K).st b:Nat):Int)=2;omega)).2;simp only[Int.toNat_natCast] at this;omega
  have hmul:=cnt_mul (st:=(shK K).st) (f:=lvTo (shK K).at_ 25) (s:=2) (x:=lv (shK K).at_ v) (n:=12) (fun b hb e=>hmin b hb e);have hsum:=sum_lv (shK K).at_ 25;have h3:lv (shK K).at_ v<=5:=by
   by_cases h:lv (shK K).at_ v<=5
   ·exact h
   ·have h6:6<=lv (shK K).at_ v:=by omega
    have:7*6<=cntTo (shK K).st 2 12*lv (shK K).at_ v:=Nat.mul_le_mul h7 h6;omega
  obtain⟨d,V⟩:=vac_end I1.l B1 I1.h I1.free hv12 (by rw[hv2];omega);have I2:=V.inv I1;have hr:=V.room hf1 h3 of hof;refine⟨_,_,vcT (shK K) P v d++[],.move (n:=47) I.b.fb I.b.fi hro' hsp' (fun o ho=>I.l.ok.led.lt ho) hv V.hyp (.room (n:=46) I2.b.fb I2.b.fi hr),I2,hr,S1.idle.trans V.idle,fun o ho e=>?_,fun a hs T hT=>?_,fun a hs=>V.sh a (by rw[at1];exact hs),fun J S n j=>S.vac I1 V (S.adm (K:=K) at1 en1 sh1.1 sh1.2.1 sh1.2.2.1 sh1.2.2.2 j)⟩
  ·have:=V.tag o ho (by rw[at1];exact e);rw[en1] at this;exact this
  rw[List.append_nil] at hT;exact V.tells (by rw[at1];exact hs) T hT
structure LyEnd(of:Nat)(D:KS->Int->Nat->Nat)(K1:KS)(P1:CS)(k:Cp)(m:Int):Prop extends LyCore of D K1 P1 where
 tr:∀T,T∈P1.layT (K1.fb*8+K1.fi)->Okay T k K1.at_ m/\∀a,Shows P1 K1.at_ a->Shows T K1.at_ a
theorem lay_core0{K1:KS}{P1:CS}(B:InvB K1 P1)(Hh:InvH K1)(Cn:Con K1.at_ K1.ow)(hcalm:P1.calm)(hnx:1<=K1.next/\K1.next<1099511627775)(hpage:∀o,o<25->K1.at_ o≠0->∃t D,P1.pg (K1.at_ o-1)=.full t D)(hfree:5<=cntS K1.st 0){of:Nat}(hof:of<=24)(hr:roomB K1.fo K1.fi of=true)(D:KS->Int->Nat->Nat):LyCore of D K1 P1:=by
 have hfb:=B.fb;have hfo:K1.fo=true/\K1.fi<8/\holdsB K1.fi of=true:=by
  unfold roomB at hr;simp only[Bool.and_eq_true,decide_eq_true_eq] at hr;exact⟨hr.1,hr.2.1,hr.2.2⟩
 obtain⟨hfo,hfi,hh⟩:=hfo;have hst1:K1.st K1.fb=1:=B.fst hfo;have hbl:P1.pg (K1.fb*8+K1.fi)=.blank:=B.fr hfo K1.fi (Nat.le_refl _) hfi;have hhold:holdsB (K1.fb*8+K1.fi) of=true:=by
  unfold holdsB at hh ⊢;rw[show(K1.fb*8+K1.fi)%8=K1.fi%8 by omega];exact hh
 have hp:K1.fb*8+K1.fi<96:=by omega
 have how:K1.ow (K1.fb*8+K1.fi)=0:=by
  by_cases h:K1.ow (K1.fb*8+K1.fi)=0
  ·exact h
  ·obtain⟨h1,h2⟩:=Cn.o _ hp h;obtain⟨t,D0,a2⟩:=hpage (K1.ow (K1.fb*8+K1.fi)-1) (by omega) (by omega);rw[h2,Nat.add_sub_cancel,hbl] at a2
   cases a2
 have hok:(nwTag K1 of).ok:=by
  unfold nwTag Tg.ok;refine⟨by simp only;omega,by simp only;omega,by simp only;omega,by simp only;omega,hnx.1,by simp only;omega,by simp only;omega,by simp only;omega,fun _=>rfl,fun hn=>?_⟩;unfold holdsB at hhold;simp only at hn ⊢;have:of≠24:=fun e=>hn (by rw[e];rfl);simp[this] at hhold;omega
 have hpg2:∀q,(lyP K1 P1 of D).pg q=if q=K1.fb*8+K1.fi then .full (nwTag K1 of) (cutD (D (sqK K1) K1.next)) else P1.pg q:=fun q=>lay_pg P1 _ q _ _;obtain⟨c1,c2⟩:=Cn.set (o:=of) (by omega) hp how hhold;rw[c2] at c1;have heq:∃ow F calls,lyK K1 of={ K1 with next:=K1.next+1,fi:=K1.fi+1,at_:=updf K1.at_ of (K1.fb*8+K1.fi+1),ow:=ow,en:=updf K1.en of ⟨K1.next,0,false⟩,F:=F,calls:=calls }/\Con (updf K1.at_ of (K1.fb*8+K1.fi+1)) ow/\(of≠24->calls=K1.calls)/\(of=24->calls=0)/\Hl.HB F/\∀b,b<12->F (12+b)=0:=by
  have hF1:Hl.HB (Hl.rdF K1.F ((K1.fb*8+K1.fi)/8)):=Hh.hb.rd (by omega);have hF2:∀b,b<12->Hl.rdF K1.F ((K1.fb*8+K1.fi)/8) (12+b)=0:=fun b hb=>by
   unfold Hl.rdF Hl.upd;rw[if_neg (by omega)];exact Hh.sc b hb
  unfold lyK anK;by_cases h:of=24
  ·rw[if_pos h];refine⟨_,Hl.ntF (Hl.rdF K1.F ((K1.fb*8+K1.fi)/8)),0,?_,c1,fun x=>absurd h x,fun _=>rfl,fun b hb=>?_,fun b hb=>?_⟩
   ·unfold stK rdK tkK sqK;simp only[c2];rfl
   ·have:=hF1 b hb;unfold Hl.ntF;rw[if_pos (by omega),if_pos (by omega),if_neg (by omega),show 24+b-24=b by omega];exact⟨this.1,this.2.1,this.1⟩
   ·unfold Hl.ntF;rw[if_pos (by omega)];exact hF2 b hb
  ·rw[if_neg h];refine⟨_,Hl.rdF K1.F ((K1.fb*8+K1.fi)/8),K1.calls,?_,c1,fun _=>rfl,fun x=>absurd x h,hF1,hF2⟩;unfold stK rdK tkK sqK;simp only[c2];rfl
 obtain⟨ow,F,calls,he,hcon,hca1,hca2,hFB,hF0⟩:=heq;refine⟨hfb,B.fi,⟨by omega,by omega⟩,Hh.hb,Cn.mw,hcalm,hbl,hok,hp,⟨ow,F,calls,he,hcon,hca1,hca2⟩,?_,?_,by rw[hpg2,if_pos rfl],fun q hq=>by rw[hpg2,if_neg hq],by rw[he];exact hfree⟩
 ·rw[he];refine⟨B.st,B.opn,B.fst,fun b i hb e hi=>?_,fun e i h1 h2=>?_,hfb,by show K1.fi+1<=8;omega,B.pn⟩
  ·have e:K1.st b=0:=e;have hb2:b≠K1.fb:=fun x=>by rw[x,hst1] at e;omega
   rw[hpg2,if_neg (by omega)];exact B.bl b i hb e hi
  ·have h1:K1.fi+1<=i:=h1;show(lyP K1 P1 of D).pg (K1.fb*8+i)=.blank;rw[hpg2,if_neg (by omega)];exact B.fr hfo i (by omega) h2
 ·rw[he];exact⟨hFB,hF0,Hh.cur⟩
theorem lay_core{K1:KS}{P1:CS}{k:Cp}{m:Int}(I:Inv K1 P1 k m){of:Nat}(hof:of<=24)(hr:roomB K1.fo K1.fi of=true)(hm:m<1099511627775)(D:KS->Int->Nat->Nat):LyEnd of D K1 P1 k m:=by
 have C0:=lay_core0 I.b I.h I.l.con I.l.ok.gd.calm ⟨I.l.next.2.1,by have:=I.l.next.2.2.1;omega⟩ (fun o ho e=>by
  obtain⟨_,t,D0,a2,_⟩:=I.l.page ho e;exact⟨t,D0,a2⟩) I.free hof hr D
 have hbl:=C0.blank;refine⟨C0,fun T hT=>?_⟩
 ·have hnot:∀o,o<25->K1.at_ o≠0->K1.at_ o-1≠K1.fb*8+K1.fi:=fun o ho e x=>by
   obtain⟨_,t,D0,a2,_⟩:=I.l.page ho e;rw[x,hbl] at a2
   cases a2
  have key:T.calm/\(∀q,q≠K1.fb*8+K1.fi->T.pg q=P1.pg q)/\∀t D0,T.pg (K1.fb*8+K1.fi)≠.full t D0:=by
   have c0:=I.l.ok.gd.calm;have c1:=CS.setPg_calm c0 (K1.fb*8+K1.fi) (.torn 1);have c2:=CS.setPg_calm c1 (K1.fb*8+K1.fi) (.torn 2);have c3:=CS.setPg_calm c2 (K1.fb*8+K1.fi) (.torn 3);unfold CS.layT at hT;simp only[List.mem_cons,List.not_mem_nil,or_false] at hT;rcases hT with rfl|rfl|rfl|rfl
   ·exact⟨c0,fun _ _=>rfl,fun t D0 e=>by rw[hbl] at e;cases e⟩
   ·exact⟨c1,fun q hq=>by rw[CS.setPg_ne _ _ hq],fun t D0 e=>by rw[CS.setPg_same] at e;cases e⟩
   ·exact⟨c2,fun q hq=>by rw[CS.setPg_ne _ _ hq,CS.setPg_ne _ _ hq],fun t D0 e=>by rw[CS.setPg_same] at e;cases e⟩
   ·exact⟨c3,fun q hq=>by rw[CS.setPg_ne _ _ hq,CS.setPg_ne _ _ hq,CS.setPg_ne _ _ hq],fun t D0 e=>by rw[CS.setPg_same] at e;cases e⟩
  obtain⟨k1,k2,k3⟩:=key;refine⟨I.l.ok.sub k1 (fun q t D0 hq e=>?_) (fun o ho e=>k2 _ (hnot o ho e)),fun a hs=>hs.same (fun o ho e=>k2 _ (hnot o ho e))⟩;by_cases hqp:q=K1.fb*8+K1.fi
  ·subst hqp;exact absurd e (k3 t D0)
  ·rw[k2 q hqp] at e;exact e
def setA(a:Nat->Nat->Nat)(s:Nat)(f:Nat->Nat):Nat->Nat->Nat:=fun o=>if o=s then f else a o
structure FsEnd(K:KS)(P:CS)(k:Cp)(m:Int)(K2:KS)(P2:CS)(k2:Cp)(tr:List CS)(a a2:Nat->Nat->Nat):Prop where
 inv:Inv K2 P2 k2 (m+1)
 tr:∀T,T∈tr->∃k3,Tells T k3 (m+1) a
 sh:Shows P2 K2.at_ a2
 qu:K2.qu=K.qu
 cur:K2.cur=K.cur
section
variable{K1:KS}{P1:CS}{k:Cp}{m:Int}{of:Nat}{D:KS->Int->Nat->Nat}{L':Nat->Nat}
theorem LyEnd.old(E:LyEnd of D K1 P1 k m)(I:Inv K1 P1 k m){o:Nat}(ho:o<25)(e:K1.at_ o≠0):K1.at_ o-1≠K1.fb*8+K1.fi:=fun x=>by
 obtain⟨_,t,D0,a2,_⟩:=I.l.page ho e;rw[x,E.blank] at a2
 cases a2
theorem LyEnd.en(E:LyEnd of D K1 P1 k m)(I:Inv K1 P1 k m)(h1:L' of=K1.fb*8+K1.fi+1)(h2:∀o,o<25->o≠of->L' o≠0->L' o=K1.at_ o):∀o,o<25->L' o≠0->∃t D0,(lyP K1 P1 of D).pg (L' o-1)=.full t D0/\updf K1.en of ⟨K1.next,0,false⟩ o=⟨t.seq,t.copy,false⟩:=fun o ho e=>by
 unfold updf;by_cases h:o=of
 ·rw[if_pos h,h,h1,Nat.add_sub_cancel];exact⟨_,_,E.pg,rfl⟩
 ·rw[if_neg h];have h3:=h2 o ho h e;rw[h3] at e ⊢;obtain⟨t,D0,a1,a2⟩:=I.l.en o ho e;rw[E.ne _ (E.old I ho e)];exact⟨t,D0,a1,a2⟩
theorem LyEnd.room(E:LyEnd of D K1 P1 k m)(I:Inv K1 P1 k m)(h1:L' of=K1.fb*8+K1.fi+1)(h2:∀o,o<25->o≠of->L' o≠0->L' o=K1.at_ o):5<=cntS (lv L') 0:=by
 refine room_of (st:=(lyK K1 of).st) (fun b hb e=>lv_zero.2 fun o ho e1 e2=>?_) E.free;obtain⟨t,D0,a1,_⟩:=E.en I h1 h2 o ho e1;have:=E.b.bl b ((L' o-1)%8) hb e (Nat.mod_lt _ (by omega));rw[show b*8+(L' o-1)%8=L' o-1 by omega,a1] at this
 cases this
end
theorem stC_told{K:KS}{s:Int}(hs:0<=s/\s<=1099511627775)(hF:Hl.HB K.F)(hc:K.cur<96)(hfl:∀o,o<24->0<=K.fl o/\K.fl o<=1099511627775):(stC K s (-1)).told :=
 ⟨hs,by show(0:Int)<=(K.cur:Nat)/\((K.cur:Nat):Int)<=95;omega,hfl,fun j hj=>(hF j hj).1,fun j hj=>(hF j hj).2.1⟩
theorem stC_bad{K:KS}{P:CS}(B:InvB K P)(s:Int):∀b,b<12->(stC K s (-1)).bad b=false:=fun b hb=>by
 have:=B.st b hb;show(decide (K.st b=3)||decide ((b:Int) = -1))=false;simp;omega
theorem ptN_cut(p:Cp):cutD (ptN p)=ptN p:=by
 funext j;unfold cutD;by_cases h:j<174
 ·rw[if_pos h]
 ·rw[if_neg h];unfold ptN ptF;rw[if_neg (by omega),if_neg (by omega),if_neg (by omega),if_neg (by omega),if_neg (by omega),if_neg (by omega)];rfl
theorem fl_ge{K:KS}{P:CS}{k:Cp}{m:Int}(I:Inv K P k m):∀o,o<24->0<=K.fl o:=fun o ho=>by
 rw[<-I.l.fl o ho];exact(I.l.ok.led.told.fl o ho).1
theorem put_end{K:KS}{P:CS}{k:Cp}{m:Int}(I:Inv K P k m)(hm:m<1099511627775){s:Nat}(hs:s<24){f:Nat->Nat}(hf:∀j,f j<256):∃K1 P1 t1,Lays s (putD f) K P K1 P1 t1 /\
  Inv (lyK K1 s) (lyP K1 P1 s (putD f)) k (m+1)/\(lyK K1 s).qu=K.qu/\(∀a,Shows P K.at_ a->(∀T,T∈lyT K1 P1 t1->Tells T k m a)/\Shows (lyP K1 P1 s (putD f)) (lyK K1 s).at_ (setA a s f))/\(lyK K1 s).next=K.next+1/\(lyK K1 s).cur=K.cur/\(lyK K1 s).calls=K.calls/\∀J,Stab J->∀n,J n K P->J (n+9) (lyK K1 s) (lyP K1 P1 s (putD f)):=by
 obtain⟨K1,P1,t1,O⟩:=op_end I (of:=s) (by omega);have I1:=O.inv;have E:=lay_core I1 (of:=s) (by omega) O.room hm (putD f);obtain⟨ow,F,calls,he,hcon,hc1,hc2⟩:=E.eq;have hby:∀j,putD f (sqK K1) K1.next j<256:=fun j=>by
  unfold putD;split
  ·exact hf j
  ·omega
 have hcut:cutD (putD f (sqK K1) K1.next)=putD f (sqK K1) K1.next:=by
  funext j;unfold cutD putD;by_cases h:j<174
  ·rw[if_pos h]
  ·rw[if_neg h,if_neg (by omega)]
 have hpg:=E.pg;rw[hcut] at hpg;have h1:updf K1.at_ s (K1.fb*8+K1.fi+1) s=K1.fb*8+K1.fi+1:=if_pos rfl;have h2:∀o,o<25->o≠s->updf K1.at_ s (K1.fb*8+K1.fi+1) o=K1.at_ o:=fun o ho hn=>if_neg hn
 obtain⟨ok,uq⟩:=I1.l.ok.new (P':=lyP K1 P1 s (putD f)) (k':=k) (L':=updf K1.at_ s (K1.fb*8+K1.fi+1)) (m':=m+1) (p:=K1.fb*8+K1.fi) (o:=s) (t:=nwTag K1 s) (D:=putD f (sqK K1) K1.next) I1.l.uq (CS.lay_calm E.calm _ _ _) E.lt (by omega) rfl
  ⟨E.ok,rfl,rfl,hby,hcut⟩ hpg E.blank (fun q _ hq=>E.ne q hq) (fun q t' D' hq e=>I1.l.next.1 q t' D' hq e) h1
  (fun _=>⟨rfl,by rw[I1.l.fl s hs];exact I1.l.next.2.2.2 s hs,fun i hi hn=>h2 i hi hn⟩) (fun x=>by omega)
  (E.room I1 h1 (fun o ho hn _=>h2 o ho hn)) ⟨by have:=I1.l.next.2.2.1;show K1.next<m+1;omega,by omega,by have:=I1.l.ok.fl.1;omega,fun i hi=>by have:=I1.l.ok.fl.2 i hi;omega⟩;have hnx:=I1.l.next;refine⟨K1,P1,t1,⟨noWorn I.b,O.op,E.fb,E.fi,O.room,E.next,E.hb,E.mw,E.calm,E.blank,E.ok,hby⟩,⟨?_,E.b,E.h,E.free⟩,by rw[he];exact O.idle.qu,fun a hsh=>⟨fun T hT=>?_,fun o j ho hj=>?_⟩,by rw[he];show K1.next+1=_;rw[O.idle.next],by rw[he];exact O.idle.cur,by rw[he];show calls=_;rw[hc1 (by omega)];exact O.idle.calls,fun J S n j=>S.put I1 E.toLyCore hs (O.st J S n j)⟩
 ·rw[he];refine⟨ok,uq,E.en I1 h1 (fun o ho hn _=>h2 o ho hn),I1.l.fl,⟨fun q t D0 hq e=>?_,by show 1<=K1.next+1;omega,by show K1.next+1<=m+1;omega,fun o ho=>by have:=hnx.2.2.2 o ho;show K1.fl o<K1.next+1;omega⟩,hcon⟩;show t.seq<K1.next+1;by_cases hq2:q=K1.fb*8+K1.fi
  ·rw[hq2,hpg] at e;injection e with e1 e2;rw[<-e1];show K1.next<K1.next+1;omega
  ·rw[E.ne q hq2] at e;have:=hnx.1 q t D0 hq e;omega
 ·rcases List.mem_append.1 hT with hT|hT
  ·exact O.tr a hsh T hT
  ·exact⟨K1.at_,(E.tr T hT).1,(E.tr T hT).2 a (O.sh a hsh)⟩
 ·rw[he];show arr _ (updf K1.at_ s (K1.fb*8+K1.fi+1)) o j=setA a s f o j;unfold arr setA;by_cases hos:o=s
  ·rw[if_pos hos,hos,h1,if_neg (by omega),Nat.add_sub_cancel];unfold dataAt;rw[hpg];show putD f (sqK K1) K1.next j=f j;unfold putD;rw[if_pos hj]
  ·rw[if_neg hos,h2 o (by omega) hos];have h3:=O.sh a hsh o j ho hj;unfold arr at h3;by_cases e:K1.at_ o=0
   ·rw[if_pos e] at h3 ⊢;exact h3
   ·rw[if_neg e] at h3 ⊢;rw[<-h3];unfold dataAt;rw[E.ne _ (E.old I1 (by omega) e)]
theorem note_end{K:KS}{P:CS}{k:Cp}{m:Int}(I:Inv K P k m)(hm:m<1099511627775):∃K1 P1 t1 k',Lays 24 noteD K P K1 P1 t1/\(stC (sqK K1) K1.next (-1)).told /\
  Inv (lyK K1 24) (lyP K1 P1 24 noteD) k' (m+1)/\(lyK K1 24).qu=K.qu/\(∀a,Shows P K.at_ a->(∀T,T∈lyT K1 P1 t1->Tells T k m a)/\Shows (lyP K1 P1 24 noteD) (lyK K1 24).at_ a)/\(lyK K1 24).next=K.next+1/\(lyK K1 24).cur=K.cur/\(lyK K1 24).calls=0/\∀J,Stab J->∀n,J n K P->J (n+9) (lyK K1 24) (lyP K1 P1 24 noteD):=by
 obtain⟨K1,P1,t1,O⟩:=op_end I (of:=24) (by omega);have I1:=O.inv;have E:=lay_core I1 (of:=24) (by omega) O.room hm noteD;obtain⟨ow,F,calls,he,hcon,hc1,hc2⟩:=E.eq;have hnx:=I1.l.next;have htold:(stC (sqK K1) K1.next (-1)).told:=stC_told (by omega) I1.h.hb I1.h.cur (fun o ho=>⟨fl_ge I1 o ho,by have:=hnx.2.2.2 o ho;show K1.fl o<=_;omega⟩);have hbad:=stC_bad (K:=sqK K1) (P:=P1) ⟨I1.b.st,I1.b.opn,I1.b.fst,I1.b.bl,I1.b.fr,I1.b.fb,I1.b.fi,I1.b.pn⟩ K1.next;have hby:∀j,noteD (sqK K1) K1.next j<256:=fun j=>ptN_lt _ j;have hcut:cutD (noteD (sqK K1) K1.next)=noteD (sqK K1) K1.next:=ptN_cut _;have hpg:=E.pg;rw[hcut] at hpg;have h1:updf K1.at_ 24 (K1.fb*8+K1.fi+1) 24=K1.fb*8+K1.fi+1:=if_pos rfl;have h2:∀o,o<25->o≠24->updf K1.at_ 24 (K1.fb*8+K1.fi+1) o=K1.at_ o:=fun o ho hn=>if_neg hn
 obtain⟨ok,uq⟩:=I1.l.ok.new (P':=lyP K1 P1 24 noteD) (k':=stC (sqK K1) K1.next (-1)) (L':=updf K1.at_ 24 (K1.fb*8+K1.fi+1)) (m':=m+1) (p:=K1.fb*8+K1.fi) (o:=24) (t:=nwTag K1 24) (D:=noteD (sqK K1) K1.next) I1.l.uq (CS.lay_calm E.calm _ _ _) E.lt (by omega) rfl
  ⟨E.ok,rfl,rfl,hby,hcut⟩ hpg E.blank (fun q _ hq=>E.ne q hq) (fun q t' D' hq e=>I1.l.next.1 q t' D' hq e) h1
  (fun x=>by omega) (fun _=>⟨rfl,htold,hbad,I1.h.sc,fun i hi=>.inl ⟨h2 i (by omega) (by omega),(I1.l.fl i hi).symm⟩⟩)
  (E.room I1 h1 (fun o ho hn _=>h2 o ho hn)) ⟨by show K1.next<m+1;omega,by omega,by show K1.next<m+1;omega,fun i hi=>by have:=hnx.2.2.2 i hi;show K1.fl i<m+1;omega⟩;refine⟨K1,P1,t1,stC (sqK K1) K1.next (-1),⟨noWorn I.b,O.op,E.fb,E.fi,O.room,E.next,E.hb,E.mw,E.calm,E.blank,E.ok,hby⟩,htold,⟨?_,E.b,E.h,E.free⟩,by rw[he];exact O.idle.qu,fun a hsh=>⟨fun T hT=>?_,fun o j ho hj=>?_⟩,by rw[he];show K1.next+1=_;rw[O.idle.next],by rw[he];exact O.idle.cur,by rw[he];exact hc2 rfl,fun J S n j=>S.note I1 E.toLyCore htold (O.st J S n j)⟩
 ·rw[he];refine⟨ok,uq,E.en I1 h1 (fun o ho hn _=>h2 o ho hn),fun o ho=>rfl,⟨fun q t D0 hq e=>?_,by show 1<=K1.next+1;omega,by show K1.next+1<=m+1;omega,fun o ho=>by have:=hnx.2.2.2 o ho;show K1.fl o<K1.next+1;omega⟩,hcon⟩;show t.seq<K1.next+1;by_cases hq2:q=K1.fb*8+K1.fi
  ·rw[hq2,hpg] at e;injection e with e1 e2;rw[<-e1];show K1.next<K1.next+1;omega
  ·rw[E.ne q hq2] at e;have:=hnx.1 q t D0 hq e;omega
 ·rcases List.mem_append.1 hT with hT|hT
  ·exact O.tr a hsh T hT
  ·exact⟨K1.at_,(E.tr T hT).1,(E.tr T hT).2 a (O.sh a hsh)⟩
 ·rw[he];show arr _ (updf K1.at_ 24 (K1.fb*8+K1.fi+1)) o j=a o j;rw[<-O.sh a hsh o j ho hj];unfold arr;rw[h2 o (by omega) (by omega)];by_cases e:K1.at_ o=0
  ·rw[if_pos e,if_pos e]
  ·rw[if_neg e,if_neg e];unfold dataAt;rw[E.ne _ (E.old I1 (by omega) e)]
theorem trim_end{K:KS}{P:CS}{k:Cp}{m:Int}(I:Inv K P k m)(hm:m<1099511627775){s:Nat}(hs:s<24)(h0:K.at_ s≠0):∃K1 P1 t1 k',Lays 24 (trimD s (K.en s).seq) K P K1 P1 t1/\(trC (sqK K1) s (K.en s).seq K1.next).told/\(lyK K1 24).at_ s≠0/\(lyK K1 24).at_ s<=96 /\
  Inv (drK (flK (lyK K1 24) s (K.en s).seq) s) (lyP K1 P1 24 (trimD s (K.en s).seq)) k' (m+1)/\(drK (flK (lyK K1 24) s (K.en s).seq) s).qu=K.qu/\(∀a,Shows P K.at_ a->(∀T,T∈lyT K1 P1 t1->Tells T k m a)/\Shows (lyP K1 P1 24 (trimD s (K.en s).seq)) (drK (flK (lyK K1 24) s (K.en s).seq) s).at_ (setA a s (fun _=>0))) /\
  (drK (flK (lyK K1 24) s (K.en s).seq) s).next=K.next+1/\(drK (flK (lyK K1 24) s (K.en s).seq) s).cur=K.cur/\(drK (flK (lyK K1 24) s (K.en s).seq) s).calls=0/\∀J,Stab J->∀n,J n K P->J (n+9) (drK (flK (lyK K1 24) s (K.en s).seq) s) (lyP K1 P1 24 (trimD s (K.en s).seq)):=by
 obtain⟨K1,P1,t1,O⟩:=op_end I (of:=24) (by omega);have I1:=O.inv;have E:=lay_core I1 (of:=24) (by omega) O.room hm (trimD s (K.en s).seq);obtain⟨ow,F,calls,he,hcon,hc1,hc2⟩:=E.eq;have hnx:=I1.l.next
 -- the number's page, as it lay and as it lies
 have h0':K1.at_ s≠0/\(K1.en s).seq=(K.en s).seq:=O.tag s (by omega) h0;obtain⟨h01,hsq⟩:=h0';obtain⟨hp1,t0,D0,a2,a3,a4,a5,a6,a7,a8⟩:=I1.l.page (o:=s) (by omega) h01;have hseq:(K.en s).seq=t0.seq:=by rw[<-hsq,a3]
 rw[hseq] at E ⊢;have ht5:=a5;unfold Tg.ok at ht5;have hlt0:=hnx.1 _ t0 D0 hp1 a2;have htold:(trC (sqK K1) s t0.seq K1.next).told:=by
  refine⟨by show 0<=K1.next/\K1.next<=_;omega,by show(0:Int)<=(K1.cur:Nat)/\((K1.cur:Nat):Int)<=95;have:=I1.h.cur;omega,fun o ho=>?_,fun j hj=>(I1.h.hb j hj).1,fun j hj=>(I1.h.hb j hj).2.1⟩;show 0<=updf K1.fl s t0.seq o/\updf K1.fl s t0.seq o<=_;unfold updf;split
  ·omega
  ·have:=fl_ge I1 o ho;have:=hnx.2.2.2 o ho;omega
 have hbad:∀b,b<12->(trC (sqK K1) s t0.seq K1.next).bad b=false:=stC_bad (K:=sqK K1) (P:=P1) ⟨I1.b.st,I1.b.opn,I1.b.fst,I1.b.bl,I1.b.fr,I1.b.fb,I1.b.fi,I1.b.pn⟩ K1.next;have hby:∀j,trimD s t0.seq (sqK K1) K1.next j<256:=fun j=>ptN_lt _ j;have hcut:cutD (trimD s t0.seq (sqK K1) K1.next)=trimD s t0.seq (sqK K1) K1.next:=ptN_cut _;have hpg:=E.pg;rw[hcut] at hpg;have hL:∃L':Nat->Nat,L'=updf (updf K1.at_ 24 (K1.fb*8+K1.fi+1)) s 0:=⟨_,rfl⟩;obtain⟨L',hL⟩:=hL;have h1:L' 24=K1.fb*8+K1.fi+1:=by
  rw[hL];unfold updf;rw[if_neg (by omega),if_pos rfl]
 have h2:∀o,o<25->o≠24->L' o≠0->L' o=K1.at_ o:=fun o ho hn e=>by
  rw[hL] at e ⊢;unfold updf at e ⊢;by_cases hos:o=s
  ·rw[if_pos hos] at e;exact absurd rfl e
  ·rw[if_neg hos,if_neg hn]
 have h3:L' s=0:=by rw[hL];exact if_pos rfl
 have h4:∀o,o<24->o≠s->L' o=K1.at_ o:=fun o ho hn=>by
  rw[hL];unfold updf;rw[if_neg hn,if_neg (by omega)]
 obtain⟨ok,uq⟩:=I1.l.ok.new (P':=lyP K1 P1 24 (trimD s t0.seq)) (k':=trC (sqK K1) s t0.seq K1.next) (L':=L') (m':=m+1) (p:=K1.fb*8+K1.fi) (o:=24) (t:=nwTag K1 24) (D:=trimD s t0.seq (sqK K1) K1.next) I1.l.uq (CS.lay_calm E.calm _ _ _) E.lt (by omega) rfl
  ⟨E.ok,rfl,rfl,hby,hcut⟩ hpg E.blank (fun q _ hq=>E.ne q hq) (fun q t' D' hq e=>I1.l.next.1 q t' D' hq e) h1
  (fun x=>by omega) (fun _=>⟨rfl,htold,hbad,I1.h.sc,fun i hi=>by
   by_cases his:i=s
   ·subst his;exact .inr ⟨h3,h01,t0,D0,a2,if_pos rfl⟩
   ·exact .inl ⟨h4 i hi his,(if_neg his).trans (I1.l.fl i hi).symm⟩⟩)
  (E.room I1 h1 h2) ⟨by show K1.next<m+1;omega,by omega,by show K1.next<m+1;omega,fun i hi=>by
   show updf K1.fl s t0.seq i<m+1;unfold updf;split
   ·omega
   ·have:=hnx.2.2.2 i hi;omega⟩
 have hat:(lyK K1 24).at_ s=K1.at_ s:=by
  rw[he];show updf K1.at_ 24 _ s=_;exact if_neg (by omega)
 have hle:=I1.l.ok.led.lt (o:=s) (by omega);refine⟨K1,P1,t1,trC (sqK K1) s t0.seq K1.next,⟨noWorn I.b,O.op,E.fb,E.fi,O.room,E.next,E.hb,E.mw,E.calm,E.blank,E.ok,hby⟩,htold,by rw[hat];exact h01,by rw[hat];exact hle,⟨?_,?_,?_,E.free⟩,by rw[he];exact O.idle.qu,fun a hsh=>⟨fun T hT=>?_,fun o j ho hj=>?_⟩,by rw[he];show K1.next+1=_;rw[O.idle.next],by rw[he];exact O.idle.cur,by rw[he];exact hc2 rfl,fun J S n j=>S.trim I1 E.toLyCore htold hs (O.st J S n j)⟩
 ·have hen:=E.en I1 h1 h2
  have hcd:=hcon.drop (o:=s) (by omega) (by
   show updf K1.at_ 24 _ s≠0;rw[show updf K1.at_ 24 (K1.fb*8+K1.fi+1) s=K1.at_ s from if_neg (by omega)];exact h01)
  rw[he];unfold drK flK;simp only;rw[<-hL] at hcd ⊢;refine⟨ok,uq,hen,fun o ho=>rfl,⟨fun q t D1 hq e=>?_,by show 1<=K1.next+1;omega,by show K1.next+1<=m+1;omega,fun o ho=>?_⟩,hcd⟩
  ·show t.seq<K1.next+1;by_cases hq2:q=K1.fb*8+K1.fi
   ·rw[hq2,hpg] at e;injection e with e1 e2;rw[<-e1];show K1.next<K1.next+1;omega
   ·rw[E.ne q hq2] at e;have:=hnx.1 q t D1 hq e;omega
  ·show updf K1.fl s t0.seq o<K1.next+1;unfold updf;split
   ·omega
   ·have:=hnx.2.2.2 o ho;omega
 ·have B:=E.b;exact⟨B.st,B.opn,B.fst,B.bl,B.fr,B.fb,B.fi,B.pn⟩
 ·have B:=E.h;exact⟨B.hb,B.sc,B.cur⟩
 ·rcases List.mem_append.1 hT with hT|hT
  ·exact O.tr a hsh T hT
  ·exact⟨K1.at_,(E.tr T hT).1,(E.tr T hT).2 a (O.sh a hsh)⟩
 ·rw[he];unfold drK flK;simp only;rw[<-hL];unfold arr setA;by_cases hos:o=s
  ·rw[if_pos hos,hos,h3,if_pos rfl]
  ·rw[if_neg hos,h4 o ho hos];have h5:=O.sh a hsh o j ho hj;unfold arr at h5;by_cases e:K1.at_ o=0
   ·rw[if_pos e] at h5 ⊢;exact h5
   ·rw[if_neg e] at h5 ⊢;rw[<-h5];unfold dataAt;rw[E.ne _ (E.old I1 (by omega) e)]
end
section
open Go.RowKit
theorem Okay.mono{P:CS}{k:Cp}{L:Nat->Nat}{m m':Int}(h:Okay P k L m)(hm:m<=m'):Okay P k L m' :=
 ⟨h.gd,h.led,h.room,h.tw,fun p t D hp e=>by have:=h.sq p t D hp e;omega,by have:=h.fl.1;omega,fun o ho=>by have:=h.fl.2 o ho;omega⟩
def Tl(T:CS)(m:Int)(a:Nat->Nat->Nat):Prop:=∃k L,Okay T k L m/\Shows T L a
theorem Tells.tl{T:CS}{k:Cp}{m m':Int}{a:Nat->Nat->Nat}(h:Tells T k m a)(hm:m<=m'):Tl T m' a:=by
 obtain⟨L,h1,h2⟩:=h;exact⟨k,L,h1.mono hm,h2⟩
theorem Tl.mono{T:CS}{m m':Int}{a:Nat->Nat->Nat}(h:Tl T m a)(hm:m<=m'):Tl T m' a:=by
 obtain⟨k,L,h1,h2⟩:=h;exact⟨k,L,h1.mono hm,h2⟩
theorem Inv.mono{K:KS}{P:CS}{k:Cp}{m m':Int}(I:Inv K P k m)(hm:m<=m'):Inv K P k m' :=
 ⟨⟨I.l.ok.mono hm,I.l.uq,I.l.en,I.l.fl,⟨I.l.next.1,I.l.next.2.1,by have:=I.l.next.2.2.1;omega,I.l.next.2.2.2⟩,I.l.con⟩,I.b,I.h,I.free⟩
theorem Inv.same{K K':KS}{P P':CS}{k:Cp}{m:Int}(I:Inv K P k m)(hpg:P'.pg=P.pg)(hc:P'.calm)(hF:Hl.HB K'.F)(hF0:∀b,b<12->K'.F (12+b)=0)(hcur:K'.cur<96)
  (e:K'={ K with F:=K'.F,cur:=K'.cur,calls:=K'.calls,qu:=K'.qu,reports:=K'.reports,moved:=K'.moved }):Inv K' P' k m:=by
 have ok:Okay P' k K.at_ m:=I.l.ok.sub hc (fun q t D _ h=>by rw[<-hpg];exact h) (fun o _ _=>by rw[hpg]);have H:InvH K':=⟨hF,hF0,hcur⟩;rw[e] at H ⊢
 exact⟨⟨ok,fun p q t t' D D' hp hq h1 h2=>by rw[hpg] at h1 h2;exact I.l.uq p q t t' D D' hp hq h1 h2,fun o ho h=>by rw[hpg];exact I.l.en o ho h,I.l.fl,⟨fun p t D hp h=>by rw[hpg] at h;exact I.l.next.1 p t D hp h,I.l.next.2⟩,I.l.con⟩,
  ⟨I.b.st,I.b.opn,I.b.fst,fun b i hb h hi=>by rw[hpg];exact I.b.bl b i hb h hi,fun h i h1 h2=>by rw[hpg];exact I.b.fr h i h1 h2,I.b.fb,I.b.fi,I.b.pn⟩,H,I.free⟩
theorem rd_zero{F:Nat->Int}{x:Nat}(hx:x<12)(h:∀b,b<12->F (12+b)=0):∀b,b<12->Hl.rdF F x (12+b)=0:=fun b hb=>by
 unfold Hl.rdF Hl.upd;rw[if_neg (by omega)];exact h b hb
theorem Inv.read{K:KS}{P:CS}{k:Cp}{m:Int}(I:Inv K P k m){p:Nat}(hp:p<96):Inv (rdK K p) (P.readE p) k m :=
 I.same rfl (CS.readE_calm I.l.ok.gd.calm p) (I.h.hb.rd (by omega)) (rd_zero (by omega) I.h.sc) I.h.cur rfl
theorem Inv.td{K:KS}{P:CS}{k:Cp}{m:Int}(I:Inv K P k m):∀i,Inv (tdK K i) (tdP K P i) k m
 |0=>I.same (K':=ptK K) rfl I.l.ok.gd.calm I.h.hb I.h.sc (Nat.mod_lt _ (by omega)) rfl
 | i+1=>by
  rw[tdK_succ,tdP_succ];exact(Inv.td I i).read (Nat.mod_lt _ (by omega))
theorem Inv.pop{K:KS}{P:CS}{k:Cp}{m:Int}(I:Inv K P k m)(q:List Nat):Inv (popK K q) P k m:=I.same rfl I.l.ok.gd.calm I.h.hb I.h.sc I.h.cur rfl
theorem Inv.md{K:KS}{P:CS}{k:Cp}{m:Int}(I:Inv K P k m)(x:Nat):Inv (mdK K x) P k m:=I.same rfl I.l.ok.gd.calm I.h.hb I.h.sc I.h.cur rfl
theorem Inv.fine{K:KS}{P:CS}{k:Cp}{m:Int}(I:Inv K P k m):Fine K P:=fun p hp=>by
 refine⟨I.l.con.mw.lo p hp,fun h=>?_⟩;obtain⟨h1,h2⟩:=I.l.con.o p hp h;obtain⟨_,t,D,a2,_⟩:=I.l.page (o:=K.ow p-1) (by omega) (by omega);rw[h2,Nat.add_sub_cancel] at a2;exact⟨t,D,a2,by rw[I.l.ok.gd.calm.d];omega⟩
theorem Inv.td_hyp{K:KS}{P:CS}{k:Cp}{m:Int}(I:Inv K P k m):Hl.HB K.F/\K.cur<96/\(∀o,o<25->K.at_ o<=96)/\Fine K P:=⟨I.h.hb,I.h.cur,fun o ho=>I.l.ok.led.lt ho,I.fine⟩
theorem tends_end{k:Cp}{m:Int}:∀(q:List Nat) (K:KS) (P:CS),K.qu=q->q.length<=13->(∀x,x∈q->x<12)->Inv K P k m->∃K' P' tr,Tends K P K' P' tr/\Inv K' P' k m/\K'.qu=[]/\K'.next=K.next/\K'.cur=K.cur/\K'.calls=K.calls/\(∀J,Stab J->∀n,J n K P->J (n+8*q.length) K' P')/\∀a,Shows P K.at_ a->(∀T,T∈tr->Tells T k m a)/\Shows P' K'.at_ a
 | [],K,P,hq,_,_,I=>⟨K,P,[],.done hq,I,hq,rfl,rfl,rfl,fun J S n j=>S.mono (by simp) j,fun a h=>⟨(fun _ h=>nomatch h),h⟩⟩
 | v::q,K,P,hq,hl,hx,I=>by
  have hv:=hx v (List.mem_cons_self ..);have hx':∀x,x∈q->x<12:=fun x h=>hx x (List.mem_cons_of_mem _ h);have hl':q.length<=12:=by simp at hl;omega
  have I1:=I.pop q;by_cases h0:lv K.at_ v=0
  ·obtain⟨K',P',tr,a1,a2,a3,a4,a5,a6,a8,a7⟩:=tends_end q (popK K q) P rfl (by omega) hx' I1;exact⟨K',P',tr,.skip hq hv hl' (fun o ho=>I.l.ok.led.lt ho) h0 a1,a2,a3,a4,a5,a6,fun J S n j=>S.mono (by rw[List.length_cons];omega) (a8 J S n (S.adm (K:=K) rfl rfl rfl rfl rfl rfl j)),a7⟩
  ·have hst:(popK K q).st v≠0:=fun e=>h0 (I.l.ok.led.dead (fun i hi=>I.b.bl v i hv e hi));obtain⟨d,V⟩:=vac_end I1.l I1.b I1.h I1.free hv hst;have I2:=(V.inv I1).md (lv K.at_ v);have hqu:(vcK (popK K q) P v d).qu=q:=V.idle.qu;obtain⟨K',P',tr,a1,a2,a3,a4,a5,a6,a8,a7⟩:=tends_end q (mdK (vcK (popK K q) P v d) (lv K.at_ v)) (vcP (popK K q) P v d) hqu (by omega) hx' I2;refine⟨K',P',vcT (popK K q) P v d++tr,.move hq hv hl' (fun o ho=>I.l.ok.led.lt ho) h0 (noWorn I.b) (by rw[I.h.sc v hv];omega) V.hyp hqu a1,a2,a3,a4.trans V.idle.next,a5.trans V.idle.cur,a6.trans V.idle.calls,fun J S n j=>S.mono (by rw[List.length_cons];omega) (a8 J S (n+8) (S.adm (K:=vcK (popK K q) P v d) rfl rfl rfl rfl rfl rfl (S.vac I1 V (S.adm (K:=K) rfl rfl rfl rfl rfl rfl j)))),fun a hs=>?_⟩;obtain⟨b1,b2⟩:=a7 a (V.sh a hs);refine⟨fun T hT=>?_,b2⟩;rcases List.mem_append.1 hT with hT|hT
   ·exact V.tells hs T hT
   ·exact b1 T hT
theorem tiredQ_lt(K:KS):∀b,b<=12->∀x,x∈tiredQ K [] b->x<12
 |0,_,x,h=>nomatch h
 | b+1,hb,x,h=>by
  have ih:=tiredQ_lt K b (by omega) x;rw[tiredQ_succ] at h;unfold addQ at h;split at h
  ·split at h
   ·exact ih h
   ·rcases List.mem_append.1 h with h|h
    ·exact ih h
    ·rw[List.mem_singleton.1 h];omega
  ·exact ih h
theorem Stab.td{J:Nat->KS->CS->Prop}(S:Stab J){n:Nat}{K:KS}{P:CS}(h0:0<=K.calls)(h8:K.calls<8)(j:J n K P):∀i,J (n+i) (tdK K i) (tdP K P i)
 |0=>S.pt h0 h8 j
 | i+1=>by
  rw[tdK_succ,tdP_succ];exact S.rd (Nat.mod_lt _ (by omega)) (S.td h0 h8 j i)
theorem w64_id{x:Int}(h0 : -9223372036854775808<=x)(h1:x<=9223372036854775807):w64 x=x:=by
 unfold w64;simp[IntKind.wrap,IntKind.signed,IntKind.bits];omega
theorem due_nt(F:Nat->Int):Hl.dueB (Hl.ntF F)=false:=by
 unfold Hl.dueB;rw[List.any_eq_false];intro b hb;have hb:=List.mem_range.1 hb;unfold Hl.ntF;rw[if_pos (by omega),if_neg (by omega),show 24+b-24=b by omega];simp
attribute [local irreducible] tdK tdP tiredQ
theorem td_end{K:KS}{P:CS}{k:Cp}{m:Int}(I:Inv K P k m)(hm:m<1099511627775):∃K' P' tr k',Tended K P K' P' tr/\Inv K' P' k' (m+1)/\K'.qu=[]/\K.next<=K'.next/\(0<=K.calls->K.calls<8->(0<=K'.calls/\K'.calls<8/\Hl.dueB K'.F=false)/\∀J,Stab J->∀n,J n K P->J (n+113) K' P')/\∀a,Shows P K.at_ a->(∀T,T∈tr->Tl T (m+1) a)/\Shows P' K'.at_ a:=by
 have I8:=(I.td 8).pop (tiredQ (tdK K 8) [] 12);have hat:(tdK K 8).at_=K.at_:=by
  obtain⟨F,e⟩:=tdK_same K 8;rw[e];rfl
 have hnx:(tdK K 8).next=K.next:=by
  obtain⟨F,e⟩:=tdK_same K 8;rw[e];rfl
 have hs8:∀a,Shows P K.at_ a->Shows (tdP K P 8) (tqK K).at_ a:=fun a hs=>by
  show Shows (tdP K P 8) (tdK K 8).at_ a;rw[hat];exact hs.same (fun o _ _=>by rw[(tdP_pg K P 8).1])
 obtain⟨K1,P1,t1,T1,I1,q1,n1,c1,ca1,z1,s1⟩:=tends_end (k:=k) (m:=m) (tiredQ (tdK K 8) [] 12) (tqK K) (tdP K P 8) rfl (by have:=tiredQ_len (tdK K 8) 12;omega) (tiredQ_lt _ 12 (by omega)) I8;have n1:K1.next=K.next:=n1.trans hnx;have hcl:(tdK K 8).calls=w64 (K.calls+1):=by
  obtain⟨F,e⟩:=tdK_same K 8;rw[e];rfl
 have hcl1:K1.calls=w64 (K.calls+1):=ca1.trans hcl;have hz:0<=K.calls->K.calls<8->∀J,Stab J->∀n,J n K P->J (n+104) K1 P1:=fun h0 h8 J S n j=>by
  have j8:=S.td h0 h8 j 8;have hl:=tiredQ_len (tdK K 8) 12;exact S.mono (by omega) (z1 J S (n+8) (S.adm (K:=tdK K 8) rfl rfl rfl rfl rfl rfl j8))
 by_cases hd:8<=K1.calls\/Hl.dueB K1.F=true
 ·obtain⟨K2,P2,t2,k',L2,w2,I2,q2,s2,n2,_,c2,z2⟩:=note_end I1 hm;refine⟨_,_,_,k',.note T1 (noWorn I1.b) I1.h.hb hd L2 w2,I2,q2.trans q1,by rw[n2];omega,fun h0 h8=>⟨⟨by rw[c2];omega,by rw[c2];omega,due_nt _⟩,fun J S n j=>z2 J S (n+104) (hz h0 h8 J S n j)⟩,fun a hs=>?_⟩;obtain⟨b1,b2⟩:=s1 a (hs8 a hs);obtain⟨d1,d2⟩:=s2 a b2;refine⟨fun T hT=>?_,d2⟩;rcases List.mem_append.1 hT with hT|hT
  ·exact(b1 T hT).tl (by omega)
  ·exact(d1 T hT).tl (by omega)
 ·have h1:K1.calls<8:=by omega
  have h2:Hl.dueB K1.F=false:=by
   cases h:Hl.dueB K1.F
   ·rfl
   ·exact absurd (.inr h) hd
  refine⟨_,_,_,k,.quiet T1 (noWorn I1.b) I1.h.hb h1 h2,I1.mono (by omega),q1,by omega,fun h0 h8=>⟨⟨by rw[hcl1,w64_id (by omega) (by omega)];omega,h1,h2⟩,fun J S n j=>S.mono (by omega) (hz h0 h8 J S n j)⟩,fun a hs=>?_⟩;obtain⟨b1,b2⟩:=s1 a (hs8 a hs);exact⟨fun T hT=>(b1 T hT).tl (by omega),b2⟩
end
section
open Go.RowKit
def fndStep(o p:Int)(s:En)(f:Fd):En:=if f.place=p/\f.of=o/\s.seq<=f.seq then ⟨f.seq,f.copy,f.lost⟩ else s
def fndF(L:List Fd)(o p:Int):En:=L.foldl (fndStep o p) En.zero
theorem fndF_snoc(L:List Fd)(o p:Int)(f:Fd):fndF (L++[f]) o p=fndStep o p (fndF L o p) f:=by
 unfold fndF;rw[List.foldl_append];rfl
theorem found_ok(A:Option Addr)(c:Nat)(L:List Fd)(o p:Int)(w:World)(hr:Rd w A (L.length*6) (fdF L))(hn:L.length*48<=140737488351232) :
  Spec Tryz.prog 132 #[.slice A L.length c,.int .i64 o,.int .i64 p] w fun v w'=>v=agg 3 (fndF L o p).cell/\Keep [] w w':=by
 refine spec_of_wpE (T:=tt) tt_ok Tryz.func132 rfl (by decide +kernel) Tryz.ntmps132 (by simp) ?_;conv=>whnf
 refine Ru.alloca (alloc_en w) ?_;intro g6 w1 hg6 hs1 r6 k1;conv=>whnf
 refine Ru.alloca (alloc_en w1) ?_;intro g7 w2 hg7 hs2 r7 k2;have r6:=r6.keep k2 (by simp);conv=>whnf
 repeat ((first|refine CW.s ?_);conv=>whnf)
 refine CW.loop (ι:=Nat×En) (fun i wr=>i.1<=L.length/\fndF (L.take i.1) o p=i.2/\Row wr g6 140 3 En.zero.cell/\Row wr g7 140 3 i.2.cell/\Keep [] w wr)
  (fun i=>[(1,.int .i64 o),(2,.int .i64 p),(6,.pointer (some ⟨g6,0,none⟩)),(7,.pointer (some ⟨g7,0,none⟩)),(10,.slice A L.length c),(11,.int .i64 L.length),(12,.int .i64 i.1)]) (fun i=>L.length-i.1) (0,En.zero) tt_ok ⟨by simp,rfl,r6,r7,k1.trans k2⟩ ⟨rfl,rfl,rfl,rfl,rfl,rfl,rfl,trivial⟩ ?_;rintro⟨k,e⟩ wr ⟨hk,hst,r6,r7,kk⟩;simp only at hk hst r7;have hlt7:=r7.lt;have hlt6:=r6.lt;by_cases hlt:k<L.length
 ·obtain⟨b,oo,rfl,hc⟩:=fd_cells (hr.keep0 kk) k hlt;have htk:=take_snoc hlt;generalize L.getD k Fd.zero=f at *;conv=>whnf
  repeat ((first|refine Ix.n ?_|refine Br.y ?_|refine CW.s ?_);conv=>whnf)
  refine Ru.ldfds hc ?_;conv=>whnf
  refine Ru.allocfd ?_;intro g9 w3 hg9 hs3 r9 k3;conv=>whnf
  refine Ru.stfd r9 ?_;intro w4 r9 k4;have q4:Keep [] wr w4:=k3.then k4 (fun x hx=>.inr (by rw[List.mem_singleton.1 hx,hg9];exact Nat.le_refl _));have r7:=r7.keep q4 (by simp);have r6:=r6.keep q4 (by simp);have kk:=kk.trans q4;have hst1:fndF (L.take (k+1)) o p=fndStep o p e f:=by rw[htk,fndF_snoc,hst]
  have d76:g7≠g6:=by omega
  have c0:w4.cell? ⟨g9,0,none⟩=some (.int .i64 f.place):=r9.cell 0 (by omega);have c2:w4.cell? ⟨g9,2,none⟩=some (.int .i64 f.of):=r9.cell 2 (by omega);have c3:w4.cell? ⟨g9,3,none⟩=some (.int .i64 f.seq):=r9.cell 3 (by omega);have c4:w4.cell? ⟨g9,4,none⟩=some (.int .i64 f.copy):=r9.cell 4 (by omega);have c5:w4.cell? ⟨g9,5,none⟩=some (.bool f.lost):=r9.cell 5 (by omega);have s0:w4.cell? ⟨g7,0,none⟩=some (.int .i64 e.seq):=r7.cell 0 (by omega);by_cases h1:f.place=p/\f.of=o/\e.seq<=f.seq
  ·have hh:fndStep o p e f=⟨f.seq,f.copy,f.lost⟩:=if_pos h1;obtain⟨rfl,rfl,h3⟩:=h1;conv=>whnf
   repeat ((first|(refine Ld.at (by omega) c0 ?_)|(refine Ld.at (by omega) c2 ?_)|(refine Ld.at (by omega) c3 ?_)|(refine Ld.at (by omega) c4 ?_)|(refine Ld.at (by omega) c5 ?_)|(refine Ld.at (by omega) s0 ?_)|refine Br.t ?_|refine Pk.t ?_|refine Br.y ?_);conv=>whnf)
   refine Ru.of (build_en _ _ _ _) ?_;rw[en_agg ⟨f.seq,f.copy,f.lost⟩];conv=>whnf
   refine Ru.sta r7 size_en (by omega) (fun j hj=>En.cell_one _) ?_;intro w5 r75 k5;have r75:Row w5 g7 140 3 (⟨f.seq,f.copy,f.lost⟩:En).cell:=r75.congr (fun j hj=>by unfold lay;rw[if_pos (by omega),Nat.sub_zero]);conv=>whnf
   repeat ((first|refine Ar.la ?_);conv=>whnf)
   exact⟨(k+1,_),⟨hlt,hst1.trans hh,r6.keep k5 (by simpa using d76.symm),r75,kk.then k5 (fun x hx=>.inr (by rw[List.mem_singleton.1 hx];have:=k1.size;omega))⟩,⟨rfl,rfl,rfl,rfl,rfl,rfl,rfl,trivial⟩,by simp only;omega⟩
  ·have hh:fndStep o p e f=e:=if_neg h1;conv=>whnf
   repeat' ((first|(refine Ld.at (by omega) c0 ?_)|(refine Ld.at (by omega) c2 ?_)|(refine Ld.at (by omega) c3 ?_)|(refine Ld.at (by omega) s0 ?_)|refine Br.t ?_|refine Br.f ?_|refine Pk.f ?_|refine Pk.t ?_|refine Ar.la ?_|refine Br.n ?_|refine Br.d (fun _=>?_) (fun _=>?_))<;>conv=>whnf)
   all_goals
    first
     |exact⟨(k+1,e),⟨hlt,hst1.trans hh,r6,r7,kk⟩,⟨rfl,rfl,rfl,rfl,rfl,rfl,rfl,trivial⟩,by simp only;omega⟩
     |(exfalso;simp_all;done)
     |(exfalso;apply h1;refine⟨by omega,by omega,by omega⟩)
 ·obtain rfl:k=L.length:=by omega
  rw[List.take_length] at hst;conv=>whnf
  repeat ((first|refine Br.n ?_|refine CW.s ?_);conv=>whnf)
  refine Ru.ldaC (q:=e.cell) r7 Tryz.underlying140 rfl size_en (by omega) (fun j hj=>by rw[Nat.zero_add]) ?_;conv=>whnf
  refine Ru.sta r6 size_en (by omega) (fun j hj=>En.cell_one _) ?_;intro w5 r65 k5;conv=>whnf
  refine Ru.ldaC (q:=e.cell) r65 Tryz.underlying140 rfl size_en (by omega) (fun j hj=>by unfold lay;rw[if_pos (by omega)];rw[Nat.zero_add,Nat.sub_zero]) ?_;conv=>whnf
  exact⟨rfl,by rw[hst];rfl,kk.then k5 (fun x hx=>.inr (by rw[List.mem_singleton.1 hx];have:=k1.size;omega))⟩
section
variable{w w':World}{N:Cr}{K:KS}{X:Option Addr}{c:Nat}{P:CS}{b:Option Nat}{n:Int}
def rdN(F:Nat->Int)(b:Nat):Nat->Nat->Int
 |0=>F
 |k+1=>Hl.rdF (rdN F b k) b
def snF(F:Nat->Int):Nat->Nat->Int
 |0=>F
 |b+1=>rdN (snF F b) b 8
theorem rdN_hb{F:Nat->Int}(h:Hl.HB F){b:Nat}(hb:b<12):∀k,Hl.HB (rdN F b k)
 |0=>h
 |k+1=>(rdN_hb h hb k).rd hb
theorem snF_hb{F:Nat->Int}(h:Hl.HB F):∀b,b<=12->Hl.HB (snF F b)
 |0,_=>h
 |b+1,hb=>rdN_hb (snF_hb h b (by omega)) (by omega) 8
theorem snF_zero(F:Nat->Int):snF F 0=F:=rfl
theorem snF_succ(F:Nat->Int)(b:Nat):snF F (b+1)=rdN (snF F b) b 8:=rfl
theorem rdN_zero(F:Nat->Int)(b:Nat):rdN F b 0=F:=rfl
theorem rdN_succ(F:Nat->Int)(b k:Nat):rdN F b (k+1)=Hl.rdF (rdN F b k) b:=rfl
attribute [local irreducible] rdN snF
def fK(K:KS)(F:Nat->Int):KS:={ K with F:=F }
theorem seen_ok(h:On w N K P b n X c)(B:Hl.HB K.F){g:Nat}(rg:Row w g 3 12 (fun _=>.int .i64 8))(hg:g∉N.all) :
  Spec Tryz.prog 77 #[.pointer (some ⟨N.k,0,none⟩),.slice (some ⟨g,0,none⟩) 12 12] w fun v w'=>v=errOf 0/\On w' N (fK K (snF K.F 12)) P b n X c/\Keep N.all w w':=by
 refine spec_of_wpE (T:=tt) tt_ok Tryz.func77 rfl (by decide +kernel) Tryz.ntmps77 (by simp) ?_;conv=>whnf
 repeat ((first|refine Br.f ?_|refine CW.s ?_);conv=>whnf)
 refine CW.loop (ι:=Nat) (fun i w'=>i<=12/\On w' N (fK K (snF K.F i)) P b n X c/\Row w' g 3 12 (fun _=>.int .i64 8)/\Keep N.all w w')
  (fun i=>[(0,.pointer (some ⟨N.k,0,none⟩)),(11,.slice (some ⟨g,0,none⟩) 12 12),(12,.int .i64 12),(13,.int .i64 i)]) (fun i=>12-i) 0 tt_ok ⟨by omega,by rw[snF_zero];exact h,rg,Keep.refl _ _⟩ ⟨rfl,rfl,rfl,rfl,trivial⟩ ?_;clear h rg;rintro i wr ⟨hi,hr,rg,kk⟩;have hB:=snF_hb B i hi;by_cases hlt:i<12
 ·have ci:=rg.cell i hlt;conv=>whnf
  repeat ((first|(refine Ld.at (by omega) ci ?_)|refine Ix.n ?_|refine Br.y ?_|refine CW.s ?_);conv=>whnf)
  refine CW.loop (ι:=Nat) (fun k w'=>k<=8/\On w' N (fK K (rdN (snF K.F i) i k)) P b n X c/\Row w' g 3 12 (fun _=>.int .i64 8)/\Keep N.all w w')
   (fun k=>[(0,.pointer (some ⟨N.k,0,none⟩)),(5,.int .i64 i),(11,.slice (some ⟨g,0,none⟩) 12 12),(12,.int .i64 12),(13,.int .i64 i),(20,.int .i64 8),(21,.int .i64 k)]) (fun k=>8-k) 0 tt_ok ⟨by omega,by rw[rdN_zero];exact hr,rg,kk⟩ ⟨rfl,rfl,rfl,rfl,rfl,rfl,rfl,trivial⟩ ?_;clear hr rg kk ci;rintro k w2 ⟨hk,h2,rg,kk⟩;have hB2:=rdN_hb hB hlt k;by_cases hk8:k<8
  ·conv=>whnf
   repeat ((first|(refine Ld.of h2.core.c4 ?_)|refine Br.y ?_|refine CW.s ?_);conv=>whnf)
   refine Ca.of (Hl.read_ok w2 N.e _ h2.core.health hB2 i hlt) ?_;rintro _ w3 ⟨rfl,r3,k3⟩;have h3:=h2.health k3 r3;conv=>whnf
   repeat ((first|refine Ar.la ?_);conv=>whnf)
   refine⟨k+1,⟨hk8,?_,rg.keep k3 (fun hm=>hg (in_all_own (by rw[List.mem_singleton.1 hm];simp[Cr.own]))),kk.trans (Keep.of1 (by simp[Cr.own]) k3)⟩,⟨rfl,rfl,rfl,rfl,rfl,rfl,vi (by omega),trivial⟩,by simp only;omega⟩;rw[rdN_succ];exact h3
  ·obtain rfl:k=8:=by omega
   conv=>whnf
   repeat ((first|refine Br.f ?_|refine Ar.la ?_|refine CW.s ?_);conv=>whnf)
   refine⟨i+1,⟨hlt,?_,rg,kk⟩,⟨rfl,rfl,rfl,vi (by omega),trivial⟩,by simp only;omega⟩;rw[snF_succ];exact h2
 ·obtain rfl:i=12:=by omega
  conv=>whnf
  repeat ((first|refine Br.f ?_|refine CW.s ?_);conv=>whnf)
  exact⟨rfl,rfl,hr,kk⟩
end
def rdsF(k:Cp)(j:Nat):Int:=if j<12 then k.reads j else 0
def scsF(k:Cp)(j:Nat):Int:=if j<12 then k.scores j else 0
def n0K(k:Cp)(L:List Fd):KS:=⟨fun _=>0,0,fun _=>0,fun _=>0,false,0,0,Hl.newF (rdsF k) (scsF k),k.cur.toNat,0,[],fun _=>En.zero,k.fl,nextF L k,0,0,0⟩
def n1K(k:Cp)(L:List Fd):Nat->KS
 |0=>n0K k L
 |i+1=>if liveF L k i<0 then n1K k L i else { n1K k L i with at_:=(setAt (n1K k L i).at_ (n1K k L i).ow i (liveF L k i).toNat).1,ow:=(setAt (n1K k L i).at_ (n1K k L i).ow i (liveF L k i).toNat).2,en:=updf (n1K k L i).en i (fndF L i (liveF L k i)) }
theorem n1K_zero(k:Cp)(L:List Fd):n1K k L 0=n0K k L:=rfl
theorem n1K_succ(k:Cp)(L:List Fd)(i:Nat):n1K k L (i+1)=if liveF L k i<0 then n1K k L i else { n1K k L i with at_:=(setAt (n1K k L i).at_ (n1K k L i).ow i (liveF L k i).toNat).1,ow:=(setAt (n1K k L i).at_ (n1K k L i).ow i (liveF L k i).toNat).2,en:=updf (n1K k L i).en i (fndF L i (liveF L k i)) }:=rfl
def n2K(K:KS):Nat->KS
 |0=>K
 |b+1=>if 0<lv K.at_ b then { n2K K b with st:=setSt (n2K K b).st b 2 } else n2K K b
theorem n2K_zero(K:KS):n2K K 0=K:=rfl
theorem n2K_succ(K:KS)(b:Nat):n2K K (b+1)=if 0<lv K.at_ b then { n2K K b with st:=setSt (n2K K b).st b 2 } else n2K K b:=rfl
def nwK(k:Cp)(L:List Fd):KS:=n2K (n1K k L 25) 12
structure NwHyp(k:Cp)(L:List Fd):Prop where
 told:k.told
 bad:∀b,b<12->k.bad b=false
 mw:∀i,i<=25->MapWf (n1K k L i).at_ (n1K k L i).ow
 set:∀i,i<25->0<=liveF L k i->liveF L k i<96/\setErr (n1K k L i).ow i (liveF L k i).toNat=0
theorem told_wf{k:Cp}(h:k.told):k.wf:=⟨fun j hj=>by have:=h.fl j hj;omega,by have:=h.next;omega,by have:=h.next;omega⟩
theorem build_core(N:Cr)(k:Cp)(L:List Fd)(w:World):(Instr.build 143 #[(0,.pointer (some ⟨N.N.m,0,none⟩)),(1,.pointer (some ⟨N.p,0,none⟩)),(2,.pointer (some ⟨N.a,0,none⟩)),(3,.pointer (some ⟨N.r,0,none⟩)),(4,.pointer (some ⟨N.e,0,none⟩)),(5,.pointer (some ⟨N.q,0,none⟩)),(8,agg 24 (fun j=>.int .i64 (k.fl j))),(9,.int .i64 (nextF L k))]).run Tryz.prog w=.ok (agg 110 (coreF N (n0K k L) none 0)) w:=by kernel_rfl
theorem build_front1(w:World):(Instr.build 210 #[]).run Tryz.prog w=.ok (agg 3 (frontF false 0 0)) w:=(build_front0 w).trans (by rw[<-front_agg false 0 0];rfl)
theorem chip_nil(w:World)(x:Operand)(a:Addr):(do eqGuard .eql 24 x (.const (.pointer none)) (.pointer (some a)) (.pointer none);binOp .eql 24 (.pointer (some a)) (.pointer none):Sem Value).run Tryz.prog w=.ok (.bool false) w:=by kernel_rfl
section
variable{w w':World}{N:Cr}{K:KS}{X:Option Addr}{c:Nat}{P:CS}{b:Option Nat}{n:Int}
structure NwB(w0:World)(x4 ch h q:Nat)(k:Cp)(C:Chip)(A:Option Addr)(L:List Fd)(F:Nat->Int)(cur:Nat)(mm:Option Pt)(p a r:Option Nat)(w:World):Prop where
 kk:Keep [] w0 w
 r4:Row w x4 116 62 k.cell
 chp:ChipAt w ch C
 hr:Rd w A (L.length*6) (fdF L)
 rh:Hl.Hr w h F
 rq:PatAt w q cur 0
 m:∀t,mm=some t->MedAt w t C 0/\t.c=ch/\w0.heap.size<=t.m/\w0.heap.size<=t.g
 p:∀x,p=some x->PoolAt w x (fun _=>0) 0/\w0.heap.size<=x
 a:∀x,a=some x->MapAt w x (fun _=>0) (fun _=>0)/\w0.heap.size<=x
 r:∀x,r=some x->FrontAt w x false 0 0/\w0.heap.size<=x
section
variable{w0:World}{x4 ch h q:Nat}{k:Cp}{C:Chip}{A:Option Addr}{L:List Fd}{F:Nat->Int}{cur:Nat}{mm:Option Pt}{p a r:Option Nat}{w w':World}
theorem NwB.keep(H:NwB w0 x4 ch h q k C A L F cur mm p a r w)(k':Keep [] w w'):NwB w0 x4 ch h q k C A L F cur mm p a r w' :=
 ⟨H.kk.trans k',H.r4.keep k' (by simp),H.chp.keep k' (by simp),H.hr.keep0 k',Row.keep H.rh k' (by simp),Row.keep H.rq k' (by simp),fun t e=>⟨Med.keep0 (H.m t e).1 k',(H.m t e).2⟩,fun x e=>⟨Row.keep (H.p x e).1 k' (by simp),(H.p x e).2⟩,fun x e=>⟨Row.keep (H.a x e).1 k' (by simp),(H.a x e).2⟩,fun x e=>⟨Row.keep (H.r x e).1 k' (by simp),(H.r x e).2⟩⟩
theorem NwB.addM(H:NwB w0 x4 ch h q k C A L F cur mm p a r w){m f cd g hh:Nat}(M:Med w m ch f cd g hh C 0)(h1:w0.heap.size<=m)(h2:w0.heap.size<=g):NwB w0 x4 ch h q k C A L F cur (some ⟨m,ch,f,cd,g,hh⟩) p a r w :=
 ⟨H.kk,H.r4,H.chp,H.hr,H.rh,H.rq,fun t e=>by cases e;exact⟨M,rfl,h1,h2⟩,H.p,H.a,H.r⟩
theorem NwB.addP(H:NwB w0 x4 ch h q k C A L F cur mm p a r w){x:Nat}(M:PoolAt w x (fun _=>0) 0)(h1:w0.heap.size<=x):NwB w0 x4 ch h q k C A L F cur mm (some x) a r w :=
 ⟨H.kk,H.r4,H.chp,H.hr,H.rh,H.rq,H.m,fun t e=>by cases e;exact⟨M,h1⟩,H.a,H.r⟩
theorem NwB.addA(H:NwB w0 x4 ch h q k C A L F cur mm p a r w){x:Nat}(M:MapAt w x (fun _=>0) (fun _=>0))(h1:w0.heap.size<=x):NwB w0 x4 ch h q k C A L F cur mm p (some x) r w :=
 ⟨H.kk,H.r4,H.chp,H.hr,H.rh,H.rq,H.m,H.p,fun t e=>by cases e;exact⟨M,h1⟩,H.r⟩
theorem NwB.addR(H:NwB w0 x4 ch h q k C A L F cur mm p a r w){x:Nat}(M:FrontAt w x false 0 0)(h1:w0.heap.size<=x):NwB w0 x4 ch h q k C A L F cur mm p a (some x) w :=
 ⟨H.kk,H.r4,H.chp,H.hr,H.rh,H.rq,H.m,H.p,H.a,fun t e=>by cases e;exact⟨M,h1⟩⟩
theorem NwB.on{t:Pt}{p a r:Nat}{P:CS}{b:Option Nat}{z:Nat}(H:NwB w0 x4 ch h q k C A L (Hl.newF (rdsF k) (scsF k)) k.cur.toNat (some t) (some p) (some a) (some r) w)(hA:Abs C P)(hl:C.left b)(rz:Row w z 143 110 (coreF ⟨z,t,p,a,r,h,q⟩ (n0K k L) none 0)):On w ⟨z,t,p,a,r,h,q⟩ (n0K k L) P b 0 none 0 :=
 ⟨⟨rz,(H.p _ rfl).1,(H.a _ rfl).1,(H.r _ rfl).1,H.rh,H.rq,Ly.nil _ _ _ _⟩,C,(H.m _ rfl).1,hA,hl⟩
theorem NwB.s(H:NwB w0 x4 ch h q k C A L F cur mm p a r w):Row w x4 116 62 k.cell:=H.r4
end
attribute [local irreducible] n1K n2K liveF fndF lv nextF
theorem mnew2_ok{C:Chip}{ch:Nat}(H:ChipAt w ch C)(hA:Abs C P)(hl:C.left b){k:Cp}{L:List Fd}(Hk:NwHyp k L){A:Option Addr}{cA:Nat}(hr:Rd w A (L.length*6) (fdF L))(hn:L.length*48<=140737488351232) :
  Spec Tryz.prog 76 #[.pointer (some ⟨ch,0,none⟩),agg 62 k.cell,.slice A L.length cA] w fun v w'=>∃N:Cr,v=.tuple #[.pointer (some ⟨N.k,0,none⟩),errOf 0]/\On w' N (nwK k L) P b 0 none 0/\N.N.c=ch/\(∀x,x∈N.all->x=ch\/w.heap.size<=x)/\Keep [] w w':=by
 have hfar:∀(w1 w2:World) (x:Nat),w.heap.size<=x->Keep [x] w1 w2->Rd w1 A (L.length*6) (fdF L)->Rd w2 A (L.length*6) (fdF L):=fun w1 w2 x hx k' h' hn0=>by
  obtain⟨b0,o0,rfl,hc0⟩:=hr hn0;have:=cell_lt (hc0 0 hn0);exact h'.keep k' (fun a e hm=>by
   cases e
   have:=List.mem_singleton.1 hm;simp only at *;omega) hn0
 have ht:=Hk.told;have hchw:ch<w.heap.size:=Row.lt H;refine spec_of_wpE (T:=tt) tt_ok Tryz.func76 rfl (by decide +kernel) Tryz.ntmps76 (by simp) ?_;conv=>whnf
 refine Ru.boxa ?_;intro x4 w1 hx4 hs1 r4 k1;conv=>whnf
 repeat ((first|refine CW.s ?_);conv=>whnf)
 refine Ru.of (chip_nil w1 _ _) ?_;conv=>whnf
 repeat ((first|refine Br.f ?_|refine CW.s ?_);conv=>whnf)
 refine Ru.lda r4 Tryz.underlying116 rfl size_cp (by omega) ?_;rw[agg_congr (fun j _=>by rw[Nat.zero_add]:∀j,j<62->k.cell (0+j)=k.cell j)];conv=>whnf
 refine Ca.of (pwrite_ok w1 k ht) ?_;rintro _ w2 ⟨y,hy,rfl,ry,k2⟩;have r42:=r4.keep k2 (by simp);have H2:=H.keep (k1.trans k2) (by simp);have hr2:=hr.keep0 (k1.trans k2);have kk2:=k1.trans k2;have hx4w:w.heap.size<=x4:=by omega
 clear r4 H hr k1 k2 ry hy hs1 hx4 w1;conv=>whnf
 repeat ((first|refine Br.f ?_|refine Ru.neq_nil0 ?_);conv=>whnf)
 refine CW.held (fun w'=>Row w' x4 116 62 k.cell) [] (.take 0 (.take 1 (.take 2 (.take 3 (.one 4 (.take 5 (.take 6 (.take 7 (.take 8 (.take 9 (.done))))))))))) tt_ok (by kernel_rfl) (by kernel_rfl) (by kernel_rfl) ?_ ?_
 ·exact Row.drewN r42 1
 have q2:=(Keep.refl [] w2).drewN 1;have H3:=H2.keep q2 (by simp);have r43:=r42.keep q2 (by simp);have hr3:=hr2.keep0 q2;have kk3:=kk2.trans q2;clear H2 r42 hr2 kk2 q2;generalize w2.drewN 1=w3 at *;have rdr:Rd w3 (some ⟨x4,38,none⟩) 12 (fun j=>.int .i64 (rdsF k j)):=fun _=>⟨x4,38,rfl,fun j hj=>by
  rw[r43.cell (38+j) (by omega),k.cell_rd hj];unfold rdsF;simp only[if_pos hj]⟩
 have rds:Rd w3 (some ⟨x4,50,none⟩) 12 (fun j=>.int .i64 (scsF k j)):=fun _=>⟨x4,50,rfl,fun j hj=>by
  rw[r43.cell (50+j) (by omega),k.cell_sc hj];unfold scsF;simp only[if_pos hj]⟩
 have hnok:Hl.newOk 12 12 (rdsF k) (scsF k):=⟨rfl,rfl,fun j hj=>by
  unfold rdsF scsF;rw[if_pos hj,if_pos hj];exact⟨(ht.rd j hj).1,(ht.sc j hj).1⟩⟩
 conv=>whnf
 refine RuQ.of (fun w _=>sl12_run x4 38 w) ?_;conv=>whnf
 refine RuQ.of (fun w _=>sl12_run x4 50 w) ?_;conv=>whnf
 refine Ca.of (Hl.new_ok _ _ 12 12 12 12 (rdsF k) (scsF k) w3 rdr rds (fun j=>?_) (fun j=>?_)) ?_
 ·unfold rdsF;split
  ·have:=ht.rd j ‹_›;omega
  ·omega
 ·unfold scsF;split
  ·have:=ht.sc j ‹_›;omega
  ·omega
 rintro _ w4 ⟨k4,hnew⟩;rcases hnew with⟨-,h,rfl,rh,hh⟩|⟨hno,-⟩
 case inr=>exact absurd hnok hno
 have r44:=r43.keep k4 (by simp);have H4:=H3.keep k4 (by simp);have hr4:=hr3.keep0 k4;have kk4:=kk3.trans k4;have hhw:w.heap.size<=h:=Nat.le_trans kk3.size hh;clear r43 H3 hr3 kk3 k4 rdr rds;refine⟨r44,?_⟩;have hcur:=ht.cur;obtain⟨cur,hcur'⟩:∃cur:Nat,k.cur=cur:=⟨k.cur.toNat,by omega⟩;have c37:w4.cell? ⟨x4,37,none⟩=some (.int .i64 cur):=by
  rw[<-hcur'];exact r44.cell 37 (by omega)
 conv=>whnf
 repeat ((first|(refine Ld.at (by omega) c37 ?_)|refine Br.f ?_|refine Ru.neq_nil0 ?_|refine CW.s ?_);conv=>whnf)
 refine Ca.of (patnew_ok (cur:=cur) (by omega)) ?_;rintro _ w5 ⟨q,rfl,rq,hq,k5⟩;have r45:=r44.keep k5 (by simp);have H5:=H4.keep k5 (by simp);have hr5:=hr4.keep0 k5;have rh5:=Row.keep rh k5 (by simp);have kk5:=kk4.trans k5;have hqw:w.heap.size<=q:=Nat.le_trans kk4.size hq;clear r44 H4 hr4 rh kk4 k5;conv=>whnf
 repeat ((first|refine Br.f ?_|refine Ru.neq_nil0 ?_|refine CW.s ?_);conv=>whnf)
 refine CW.held (fun w'=>Row w' x4 116 62 k.cell) [] (.take 0 (.take 4 (.take 6 (.take 7 (.take 8 (.take 9 (.take 10 (.take 11 (.two 1 (.two 2 (.two 3 (.two 5 (.one 12 (.take 13 (.one 14 (.take 15 (.done))))) 12 (.one 5 (.take 13 (.one 14 (.take 15 (.done)))))) 5 (.one 3 (.one 12 (.take 13 (.one 14 (.take 15 (.done))))))) 5 (.one 2 (.one 3 (.one 12 (.take 13 (.one 14 (.take 15 (.done)))))))) 5 (.one 1 (.one 2 (.one 3 (.one 12 (.take 13 (.one 14 (.take 15 (.done))))))))))))))))) tt_ok (by kernel_rfl) (by kernel_rfl) (by kernel_rfl) ?_ ?_
 ·exact Row.drewN r45 1
 have q5:=(Keep.refl [] w5).drewN 1;have hS:NwB w x4 ch h q k C A L (Hl.newF (rdsF k) (scsF k)) cur none none none none (w5.drewN 1):=⟨kk5.trans q5,r45.keep q5 (by simp),H5.keep q5 (by simp),hr5.keep0 q5,Row.keep rh5 q5 (by simp),Row.keep rq q5 (by simp),(fun _ h=>nomatch h),(fun _ h=>nomatch h),(fun _ h=>nomatch h),(fun _ h=>nomatch h)⟩;clear H5 r45 hr5 rh5 rq kk5 q5;generalize w5.drewN 1=w6 at *;have hwf:=told_wf ht;conv=>whnf
 repeat' ((first|(refine And.intro ?_ ?_)|(refine RuQ.of (fun w _=>build_front1 w) ?_)|(refine RuQ.of (fun w hS=>run_ldaC (q:=fun j=>.int .i64 (k.fl j)) hS Tryz.underlying114 rfl arr24_size (by omega) (fun j hj=>by rw[show 0+0+j=j by omega];exact k.cell_fl hj)) ?_)|(refine RuQ.of (fun w hS=>run_ldaC (q:=k.cell) hS Tryz.underlying116 rfl size_cp (by omega) (fun j hj=>by rw[Nat.zero_add])) ?_)|(refine Ca.of (mnew_ok _ ch C hS.chp) ?_;rintro _ w7 ⟨m,f,cd,g,hh',hmw,hfw,hcw,hgw,hhw',rfl,M7,k7⟩;replace hS:=(hS.keep k7).addM M7 (Nat.le_trans hS.kk.size hmw) (Nat.le_trans hS.kk.size hgw);refine⟨hS.s,?_⟩)|(refine Ca.of (poolnew_ok (w:=_)) ?_;rintro _ w8 ⟨p,rfl,rp,hp,k8⟩;replace hS:=(hS.keep k8).addP rp (Nat.le_trans hS.kk.size hp);refine⟨hS.s,?_⟩)|(refine Ca.of (mapnew_ok (w:=_)) ?_;rintro _ w9 ⟨a,rfl,ra,ha,k9⟩;replace hS:=(hS.keep k9).addA ra (Nat.le_trans hS.kk.size ha);refine⟨hS.s,?_⟩)|(refine Ru.boxa ?_;intro r w10 hrr hs10 rr k10;replace hS:=(hS.keep k10).addR rr (by have:=hS.kk.size;omega);refine⟨hS.s,?_⟩)|(refine Ca.of (next_ok A cA L k _ hS.hr hn hwf) ?_;rintro _ w11 ⟨rfl,k11⟩;replace hS:=hS.keep k11;refine⟨hS.s,?_⟩)|refine HS.t ?_|refine Br.t ?_|refine Br.f ?_|refine Pk.f ?_|refine Pk.t ?_|refine Pk.and ?_|refine Pk.or ?_|refine Ix.n ?_|refine Ix.of _ (by rfl) (by omega) ?_|refine Ix.i ?_|refine Ar.la ?_|refine Ar.lb ?_|refine Ar.lc ?_|refine Dv.q ?_|refine Dv.r ?_|refine Br.y ?_|refine Br.n ?_|refine Br.ny ?_|refine Br.nn ?_|refine Br.is (by assumption) ?_|refine Br.isnt (by assumption) ?_|refine Ld.of (by assumption) ?_|refine Ru.neq_nil0 ?_|refine Ru.n1 ?_|refine Ru.eql_nil0 ?_|refine Ru.e1 ?_|refine Ru.e2 ?_|refine Ru.e3 ?_|refine Ru.n2 ?_|refine Ru.n3 ?_|refine Ru.neq_nil rfl ?_|refine Ru.eql_nil rfl ?_|refine Ru.eql_err rfl (by decide) ?_|refine Ru.neq_err rfl (by decide) ?_|refine Ru.be ?_|refine Ru.bn ?_|refine RuQ.be ?_|refine RuQ.bn ?_|refine CW.s ?_|refine Br.d (fun _=>?_) (fun _=>?_)|refine Br.nd (fun _=>?_) (fun _=>?_)|refine Br.mk (fun _=>?_) (fun _=>?_))<;>conv=>whnf)
 all_goals
  refine RuQ.of (fun w _=>build_core ⟨0,⟨m,ch,f,cd,g,hh'⟩,p,a,r,h,q⟩ k L w) ?_;conv=>whnf
  refine Ru.boxa ?_;intro z wz hz hsz rz kz;have hzw:w.heap.size<=z:=by have:=hS.kk.size;omega
  replace hS:=hS.keep kz;refine⟨hS.s,?_⟩;have hcc:k.cur.toNat=cur:=by omega
  rw[<-hcc] at hS;have hON:=hS.on hA hl rz;have hall:∀x,x∈(⟨z,⟨m,ch,f,cd,g,hh'⟩,p,a,r,h,q⟩:Cr).all->x=ch\/w.heap.size<=x:=fun x hx=>by
   have h1:w.heap.size<=m/\w.heap.size<=g:=(hS.m _ rfl).2.2;have h2:=(hS.p _ rfl).2;have h3:=(hS.a _ rfl).2;have h4:=(hS.r _ rfl).2;simp only[Cr.all,Cr.own,Pt.l,List.cons_append,List.nil_append,List.mem_cons,List.not_mem_nil,or_false] at hx;omega
  have hown:∀x,x∈(⟨z,⟨m,ch,f,cd,g,hh'⟩,p,a,r,h,q⟩:Cr).own->w.heap.size<=x:=fun x hx=>by
   have h2:=(hS.p _ rfl).2;have h3:=(hS.a _ rfl).2;have h4:=(hS.r _ rfl).2;simp only[Cr.own,List.mem_cons,List.not_mem_nil,or_false] at hx;omega
  have r4z:=hS.r4;have hrz:=hS.hr;have kkz:=hS.kk;generalize hN:(⟨z,⟨m,ch,f,cd,g,hh'⟩,p,a,r,h,q⟩:Cr)=N at *;have eN:z=N.k:=by rw[<-hN]
  have eC:N.N.c=ch:=by rw[<-hN]
  subst eN;clear hS rz kz hsz hN;conv=>whnf
  repeat ((first|refine CW.s ?_);conv=>whnf)
  refine Ru.lda r4z Tryz.underlying116 rfl size_cp (by omega) ?_;rw[agg_congr (fun j _=>by rw[Nat.zero_add]:∀j,j<62->k.cell (0+j)=k.cell j)];conv=>whnf
  refine Ca.of (live_ok A cA L k wz hrz hn) ?_;rintro _ v1 ⟨rfl,kv⟩;have on0:On v1 N (n1K k L 0) P b 0 none 0:=by
   rw[n1K_zero];exact hON.keep0 kv
  have r4v:=r4z.keep kv (by simp);have hrv:=hrz.keep0 kv;have kkv:=kkz.trans kv;clear hON r4z hrz kkz kv;conv=>whnf
  refine CW.loop (ι:=Nat) (fun i w'=>i<=25/\On w' N (n1K k L i) P b 0 none 0/\Row w' x4 116 62 k.cell/\Rd w' A (L.length*6) (fdF L)/\Keep [] w w')
   (fun i=>[(2,.slice A L.length cA),(4,.pointer (some ⟨x4,0,none⟩)),(13,.pointer (some ⟨N.k,0,none⟩)),(68,agg 25 (fun j=>.int .i64 (liveF L k j))),(69,.int .i64 i)]) (fun i=>25-i) 0 tt_ok ⟨by omega,on0,r4v,hrv,kkv⟩ ⟨rfl,rfl,rfl,rfl,rfl,trivial⟩ ?_;clear on0 r4v hrv kkv;rintro i wr ⟨hi,hr,r4,hrd,kk⟩;rcases Nat.lt_or_ge i 25 with hlt|hge
  ·have hmw:=Hk.mw i hi;have hst:=n1K_succ k L i;by_cases hneg:liveF L k i<0
   ·rw[if_pos hneg] at hst;conv=>whnf
    repeat ((first|(refine Ru.idx Tryz.underlying59 hlt (by kernel_rfl) ?_)|refine Ar.la ?_|refine Br.y ?_|refine CW.s ?_);conv=>whnf)
    exact⟨i+1,⟨hlt,by rw[hst];exact hr,r4,hrd,kk⟩,⟨rfl,rfl,rfl,rfl,vi (by omega),trivial⟩,by simp only;omega⟩
   ·rw[if_neg hneg] at hst;obtain⟨h96,herr⟩:=Hk.set i hlt (by omega);obtain⟨pl,hpl⟩:∃pl:Nat,liveF L k i=pl:=⟨(liveF L k i).toNat,by omega⟩;have hpl2:(liveF L k i).toNat=pl:=by omega
    rw[hpl2] at hst herr;rw[hpl] at hneg h96 hst;have hval:(Value.int .i64 (liveF L k i))=.int .i64 (pl:Int):=by rw[hpl]
    have hfn:fndF L (i:Int) (pl:Int)=fndF L i (pl:Nat):=rfl;conv=>whnf
    repeat ((first|(refine Ru.idx Tryz.underlying59 hlt (by kernel_rfl) ?_;rw[hval])|(refine Ld.of hr.core.c2 ?_)|refine Br.f ?_|refine Br.y ?_|refine CW.s ?_);conv=>whnf)
    refine Ca.of (mset_ok hr.core.map hmw i pl (by omega) (by omega)) ?_;rintro _ w3 ⟨rfl,m3,k3⟩;have h3:=hr.map k3 m3;rw[herr];have kk3:=kk.fresh (hown N.a (by simp[Cr.own])) k3;have r43:=r4.keep k3 (by
     have:=Row.ne_ hr.core.map r4 (by decide);simpa using this.symm)
    have hrd3:=hfar _ _ _ (hown N.a (by simp[Cr.own])) k3 hrd;clear hr r4 hrd kk m3 k3;conv=>whnf
    repeat ((first|refine Br.f ?_|refine Ru.neq_nil0 ?_);conv=>whnf)
    refine CW.held (fun w'=>Rd w' A (L.length*6) (fdF L)) [] (.take 0 (.take 1 (.take 2 (.take 3 (.take 4 (.take 6 (.take 7 (.one 5 (.take 8 (.one 9 (.done))))))))))) tt_ok (by kernel_rfl) (by kernel_rfl) (by kernel_rfl) ?_ ?_
    ·exact hrd3.keep0 ((Keep.refl [] w3).drewN 1)
    have q3:=(Keep.refl [] w3).drewN 1;have h4:=h3.keep0 q3;have r44:=r43.keep q3 (by simp);have hrd4:=hrd3.keep0 q3;have kk4:=kk3.trans q3;clear h3 r43 hrd3 kk3 q3;generalize w3.drewN 1=w4 at *;conv=>whnf
    refine Ca.of (found_ok A cA L i pl w4 hrd4 hn) ?_;rintro _ w5 ⟨rfl,k5⟩;have h5:=h4.keep0 k5;have r45:=r44.keep k5 (by simp);have hrd5:=hrd4.keep0 k5;have kk5:=kk4.trans k5;clear h4 r44 hrd4 kk4 k5;refine⟨hrd5,?_⟩;conv=>whnf
    repeat ((first|(refine Ix.of i (by omega) (by omega) ?_));conv=>whnf)
    rw[show 0+7+i*3=7+3*i by omega];refine Ru.sta h5.core.row size_en (by omega) (fun j _=>En.cell_one _) ?_;intro w6 r6 k6;have h6:=h5.row (K':={ n1K k L i with at_:=(setAt (n1K k L i).at_ (n1K k L i).ow i pl).1,ow:=(setAt (n1K k L i).at_ (n1K k L i).ow i pl).2,en:=updf (n1K k L i).en i (fndF L i pl) }) k6 r6 (fun j hj=>coreF_en i (by omega) _ j hj) rfl;have hrd6:Rd w6 A (L.length*6) (fdF L):=hfar _ _ _ (hown N.k (by simp[Cr.own])) k6 hrd5;refine⟨hrd6,?_⟩;conv=>whnf
    repeat ((first|refine Ar.la ?_);conv=>whnf)
    refine⟨i+1,⟨hlt,?_,r45.keep k6 (by
     have:=h5.core.row.ne_ r45 (by decide);simpa using this.symm),hrd6,kk5.fresh (hown N.k (by simp[Cr.own])) k6⟩,⟨rfl,rfl,rfl,rfl,vi (by omega),trivial⟩,by simp only;omega⟩
    rw[hst];exact h6
  ·obtain rfl:i=25:=by omega
   conv=>whnf
   repeat ((first|(refine Ld.of hr.core.c2 ?_)|refine Br.f ?_|refine CW.s ?_);conv=>whnf)
   refine Ca.of (mlive_ok hr.core.map (Hk.mw 25 (Nat.le_refl _)).la) ?_;rintro _ v2 ⟨gl,rfl,rgl,hgl,kl⟩;have h2:=hr.keep0 kl;have r42:=r4.keep kl (by simp);have kk2:=kk.trans kl;have hglw:w.heap.size<=gl:=Nat.le_trans kk.size hgl;clear hr r4 hrd kk kl;conv=>whnf
   repeat ((first|refine CW.s ?_);conv=>whnf)
   refine Ru.ldaC (q:=fun j=>.bool (k.bad j)) r42 Tryz.underlying63 rfl (by kernel_rfl:(Tryz.prog.info? 63).map (·.size)=some 12) (by omega) (fun j hj=>by rw[show 0+25+j=25+j by omega];exact k.cell_bad hj) ?_;conv=>whnf
   refine CW.loop (ι:=Nat) (fun i w'=>i<=12/\On w' N (n2K (n1K k L 25) i) P b 0 none 0/\Row w' gl 3 12 (fun b=>.int .i64 (lv (n1K k L 25).at_ b:Nat))/\Keep [] w w')
    (fun i=>[(13,.pointer (some ⟨N.k,0,none⟩)),(17,.slice (some ⟨gl,0,none⟩) 12 12),(101,agg 12 (fun j=>.bool (k.bad j))),(102,.int .i64 i)]) (fun i=>12-i) 0 tt_ok ⟨by omega,by rw[n2K_zero];exact h2,rgl,kk2⟩ ⟨rfl,rfl,rfl,rfl,trivial⟩ ?_;clear h2 r42 rgl kk2;rintro i wr ⟨hi,hr,rg,kk⟩;rcases Nat.lt_or_ge i 12 with hlt|hge
   ·have hb:=Hk.bad i hlt;have hbv:(Value.bool (k.bad i))=.bool false:=by rw[hb]
    have ci:=rg.cell i hlt;have hst:=n2K_succ (n1K k L 25) i;by_cases hlv:0<lv (n1K k L 25).at_ i
    ·rw[if_pos hlv] at hst;conv=>whnf
     repeat ((first|(refine Ru.idx Tryz.underlying63 hlt (by kernel_rfl) ?_;rw[hbv])|(refine Ld.at (by omega) ci ?_)|(refine Ld.of hr.core.c1 ?_)|refine Br.f ?_|refine Ix.n ?_|refine Br.y ?_|refine CW.s ?_);conv=>whnf)
     refine Ca.of (pset_ok hr.core.pool i 2 hlt (by omega)) ?_;rintro _ w3 ⟨⟨e,rfl⟩,r3,k3⟩;have h3:=hr.pool k3 r3;conv=>whnf
     repeat ((first|refine Ar.la ?_);conv=>whnf)
     refine⟨i+1,⟨hlt,?_,rg.keep k3 (by
      have:=Row.ne_ hr.core.pool rg (by decide);simpa using this.symm),kk.fresh (hown N.p (by simp[Cr.own])) k3⟩,⟨rfl,rfl,rfl,vi (by omega),trivial⟩,by simp only;omega⟩
     rw[hst];exact h3
    ·rw[if_neg hlv] at hst;conv=>whnf
     repeat ((first|(refine Ru.idx Tryz.underlying63 hlt (by kernel_rfl) ?_;rw[hbv])|(refine Ld.at (by omega) ci ?_)|refine Br.f ?_|refine Ix.n ?_|refine Ar.la ?_|refine Br.y ?_|refine Br.n ?_|refine CW.s ?_);conv=>whnf)
     exact⟨i+1,⟨hlt,by rw[hst];exact hr,rg,kk⟩,⟨rfl,rfl,rfl,vi (by omega),trivial⟩,by simp only;omega⟩
   ·obtain rfl:i=12:=by omega
    conv=>whnf
    repeat ((first|refine Br.f ?_|refine CW.s ?_);conv=>whnf)
    exact⟨rfl,N,rfl,hr,eC,hall,kk⟩
end
def MpAt(w:World)(r:Nat)(ps:List (Nat×Value)):Prop:=∃es clock,w.heap[r]?=some (.map es clock)/\es.toList.map (fun e=>(e.key,e.val))=ps.map (fun x=>(Value.int .i64 (x.1:Nat),x.2))
theorem MpAt.lt{w:World}{r:Nat}{ps:List (Nat×Value)}(h:MpAt w r ps):r<w.heap.size:=by
 obtain⟨es,cl,h,-⟩:=h;exact(Array.getElem?_eq_some_iff.1 h).1
theorem MpAt.keep{w w':World}{r:Nat}{ps:List (Nat×Value)}{S:List Nat}(h:MpAt w r ps)(k:Keep S w w')(hr:r∉S):MpAt w' r ps:=by
 have hl:=h.lt;obtain⟨es,cl,h1,h2⟩:=h;exact⟨es,cl,by rw[k.block r hl hr];exact h1,h2⟩
def mpFind(p:Nat):List (Nat×Value)->Option Value
 | []=>none
 |x::l=>if x.1=p then some x.2 else mpFind p l
theorem findNow_none{p:Nat}:∀ {es:List MapEntry} {ps:List (Nat×Value)} {i:Nat},es.map (fun e=>(e.key,e.val))=ps.map (fun x=>(Value.int .i64 (x.1:Nat),x.2))->mpFind p ps=none->Instr.findNow (.int .i64) (.int .i64 (p:Nat)) es i=some none
 | [],ps,i,h,h2=>rfl
 |e::es,[],i,h,h2=>by simp at h
 | e::es,x::ps,i,h,h2=>by
  simp only[List.map_cons,List.cons.injEq,Prod.mk.injEq] at h;unfold mpFind at h2;by_cases hx:x.1=p
  ·rw[if_pos hx] at h2
   cases h2
  ·rw[if_neg hx] at h2;unfold Instr.findNow;rw[h.1.1];have:((p:Int) == (x.1:Int))=false:=by
    simp;omega
   simp only[Instr.sameNow,if_true,this];exact findNow_none h.2 h2
theorem findNow_some{p:Nat}{v:Value}:∀ {es:List MapEntry} {ps:List (Nat×Value)} {i:Nat},es.map (fun e=>(e.key,e.val))=ps.map (fun x=>(Value.int .i64 (x.1:Nat),x.2))->mpFind p ps=some v->∃j,Instr.findNow (.int .i64) (.int .i64 (p:Nat)) es i=some (some (j,v))
 | [],[],i,h,h2=>by cases h2
 | [],x::ps,i,h,h2=>by simp at h
 |e::es,[],i,h,h2=>by simp at h
 | e::es,x::ps,i,h,h2=>by
  simp only[List.map_cons,List.cons.injEq,Prod.mk.injEq] at h;unfold mpFind at h2;unfold Instr.findNow;rw[h.1.1];by_cases hx:x.1=p
  ·rw[if_pos hx] at h2
   cases h2
   have:((p:Int) == (x.1:Int))=true:=by
    simp;omega
   simp only[Instr.sameNow,if_true,this];exact⟨i,by rw[h.1.2]⟩
  ·rw[if_neg hx] at h2;have:((p:Int) == (x.1:Int))=false:=by
    simp;omega
   simp only[Instr.sameNow,if_true,this];exact findNow_some h.2 h2
theorem map_und_run(w:World):(underlying 158).run Tryz.prog w=.ok (.map 3 37) w:=by kernel_rfl
theorem key_und(w:World):(underlying 3).run Tryz.prog w=.ok (.int .i64) w:=by kernel_rfl
theorem checkKey_run(e:Bool)(p:Int)(w:World):(Instr.checkKey e 10000 3 (.int .i64 p)).run Tryz.prog w=.ok () w:=by kernel_rfl
theorem mp_make(w:World):(Instr.makeMap 158 none).run Tryz.prog w=.ok (.map (some w.heap.size)) (w.alloc (.map #[] 0)):=rfl
theorem mp_put{w:World}{r:Nat}{ps:List (Nat×Value)}{p:Nat}{v:Value}(h:MpAt w r ps)(hf:mpFind p ps=none){K:Unit->World->Prop}(k:∀w',MpAt w' r (ps++[(p,v)])->Keep [r] w w'->K () w'):Ru Tryz.prog (Instr.mapUpdate 158 (.map (some r)) (.int .i64 (p:Nat)) v) w K:=by
 have hl:=h.lt;obtain⟨es,cl,h1,h2⟩:=h;have hfn:=findNow_none (i:=0) h2 hf;have hrun:(Instr.mapUpdate 158 (.map (some r)) (.int .i64 (p:Nat)) v).run Tryz.prog w=.ok () { w with heap:=w.heap.setIfInBounds r (.map (es.push ⟨.int .i64 (p:Nat),v,cl⟩) (cl+1)) }:=by
  unfold Instr.mapUpdate;simp only[Sem.run_bind,map_und_run,Result.andThen_ok,getObj,setObj,Sem.run,h1,checkKey_run,Instr.findKey,key_und,hfn];rw[show(Sem.run Tryz.prog (pure none:Sem (Option (Nat×Value))) w)=.ok none w from rfl,Result.andThen_ok];simp only[Sem.run,h1]
 refine⟨_,_,hrun,k _ ⟨es.push ⟨.int .i64 (p:Nat),v,cl⟩,cl+1,?_,?_⟩ ⟨rfl,rfl,rfl,?_,fun x hx hn=>?_⟩⟩
 ·simp[hl]
 ·simp[h2]
 ·simp
 ·have:r≠x:=fun e=>hn (by simp[e]);simp[this]
theorem mp_look{w:World}{r:Nat}{ps:List (Nat×Value)}{p:Nat}{v:Value}(h:MpAt w r ps)(hf:mpFind p ps=some v):(Instr.lookup 158 (.map (some r)) (.int .i64 (p:Nat)) true).run Tryz.prog w=.ok (.tuple #[v,.bool true]) w:=by
 obtain⟨es,cl,h1,h2⟩:=h;obtain⟨j,hfn⟩:=findNow_some (i:=0) h2 hf;unfold Instr.lookup;simp only[Sem.run_bind,map_und_run,Result.andThen_ok,getObj,Sem.run,h1,checkKey_run,Instr.findKey,key_und,hfn];rw[show(Sem.run Tryz.prog (pure es:Sem (Array MapEntry)) w)=.ok es w from rfl,Result.andThen_ok];simp only[checkKey_run,Result.andThen_ok,hfn];rw[show(Sem.run Tryz.prog (pure (some (j,v)):Sem (Option (Nat×Value))) w)=.ok (some (j,v)) w from rfl,Result.andThen_ok];rfl
end
end Go.Proofs.YtaeikigfgfcadaaGreat
