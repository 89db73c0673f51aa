/- Texts behind one another: NewestM, Clean, Mount, Dev, DevM, Call, Pl10, Pl11, Pl12, Top1, Top2, Top3, Top4, Top5, Top6, Seen, Round, W1, W2, W3, W4. -/
import Derived.Test.YtaeikigfgfcadaaGreatMr0a
import Derived.Test.YtaeikigfgfcadaaGreatMr0b
import Derived.Test.YtaeikigfgfcadaaGreatMr0c
import Derived.Test.YtaeikigfgfcadaaGreatMr0d
import Derived.Test.YtaeikigfgfcadaaGreatMr0e
namespace Go.Proofs.YtaeikigfgfcadaaGreat
open Go.Proofs.Tryz
set_option maxHeartbeats 8000000
set_option maxRecDepth 20000
set_option linter.unusedVariables false
set_option linter.unusedSimpArgs false
set_option linter.unnecessarySimpa false
section
open Go.RowKit
theorem adj(w:World)(x:Operand)(a:Addr)(n c:Nat):(do eqGuard .eql 64 x (.const (.slice none 0 0)) (.slice (some a) n c) (.slice none 0 0);binOp .eql 64 (.slice (some a) n c) (.slice none 0 0):Sem Value).run Tryz.prog w=.ok (.bool false) w:=by kernel_rfl
theorem abD(w:World)(x:Operand):(do eqGuard .eql 64 x (.const (.slice none 0 0)) (.slice none 0 0) (.slice none 0 0);binOp .eql 64 (.slice none 0 0) (.slice none 0 0):Sem Value).run Tryz.prog w=.ok (.bool true) w:=by kernel_rfl
theorem ai3(w:World):(Instr.buildSlice 64 0 #[]).run Tryz.prog w=.ok (.slice (some ⟨w.heap.size,0,none⟩) 0 0) (w.alloc (.cells #[] 69)):=by kernel_rfl
theorem yh{A:Option Addr}{c:Nat}{L:List Fd}{w:World}(r:Rd w A (L.length*6) (ju L))(oK:L=[]->A=none/\c=0)(hc:L.length<=c)(hn:L.length<=96) :
  Spec Tryz.prog 120 #[.slice A L.length c] w fun v w'=>∃Y e,v=.slice Y L.length e/\Rd w' Y (L.length*6) (ju L)/\Aa [] w w':=by
 obtain⟨i0,hi,lZ,lR,l4⟩:=info_parts lq;by_cases h0:L=[]
 ·obtain⟨rfl,rfl⟩:=oK h0;subst h0;refine spec_of_wpE (T:=tt) ai func120 rfl (by decide +kernel) ntmps120 (by simp) ?_;conv=>whnf
  repeat (refine CW.s ?_;conv=>whnf)
  refine Ru.of (abD w _) ?_;conv=>whnf
  repeat (refine Br.t ?_;conv=>whnf)
  exact⟨rfl,none,0,rfl,fun h=>by simp at h,Aa.refl _ _⟩
 have ab2:0<L.length:=List.length_pos_iff.2 h0;obtain⟨g,o,rfl,bM⟩:=r (by omega);refine spec_of_wpE (T:=tt) ai func120 rfl (by decide +kernel) ntmps120 (by simp) ?_;conv=>whnf
 repeat (refine CW.s ?_;conv=>whnf)
 refine Ru.of (adj w _ _ _ _) ?_;conv=>whnf
 repeat (refine Br.f ?_;conv=>whnf)
 refine Ru.of (ai3 w) ?_;have l0:Ly (w.alloc (.cells #[] 69)) 69 6 (some ⟨w.heap.size,0,none⟩) 0 0 (ju L):=Ly.oG (heap_alloc_new w _) (Nat.le_refl _) (by simp) (by simp[maxLen]) (fun j hj=>by omega);have k0:Aa [] w (w.alloc (.cells #[] 69)):=(Aa.refl _ _).alloc _;conv=>whnf
 refine Bu.append underlying64 hi lZ lR l4 rfl (by omega) l0 _ (r.aj k0) hc (fun e=>by cases e) (fun j hj=>ad6 _ j) (by simp only[maxLen];omega) (by omega) ?_;intro Y e w' hy hk da gZ;have hkw:Aa [] w w':=k0.then hk (fun x hx=>.inr (by rw[List.mem_singleton.1 hx];exact Nat.le_refl _));rw[Nat.zero_add] at *;conv=>whnf
 have:=hy.rd;exact⟨rfl,Y,e,rfl,fun h=>by
  obtain⟨b1,o1,e1,h1⟩:=this h;exact⟨b1,o1,e1,fun j hj=>(h1 j hj).trans (by simp)⟩,hkw⟩
theorem sZ(f g:Nat->Value)(j:Nat)(hj:j<62):lay f 0 62 g j=g j:=by
 unfold lay;rw[if_pos (by omega),Nat.sub_zero]
theorem ai4(f g:Nat->Value)(j:Nat)(hj:j<62):lay f 0 62 g (0+j)=g j:=by
 rw[Nat.zero_add];exact sZ f g j hj
theorem adk(w:World):(Instr.build 116 #[]).run Tryz.prog w=.ok (agg 62 Cp.zero.cell) w:=by kernel_rfl
theorem afQ{A:Option Addr}{c r:Nat}{L:List Fd}{w:World}(hr:Rd w A (L.length*6) (ju L))(oK:L=[]->A=none/\c=0)(hc:L.length<=c)(hn:L.length<=96)(hw:az (mK L 96) 24 (-1)=(Fd.zero,false)) :
  Spec Tryz.prog 75 #[.slice A L.length c,.map (some r)] w fun v w'=>v=.tuple #[agg 62 Cp.zero.cell,.bool false]/\Aa [] w w':=by
 refine spec_of_wpE (T:=tt) ai func75 rfl (by decide +kernel) ntmps75 (by simp) ?_;conv=>whnf
 refine Ru.aE (eD w) ?_;intro x4 w1 qj dj r4 k1;conv=>whnf
 refine Ca.of (yh (hr.aj k1) oK hc hn) ?_;rintro _ w2 ⟨Y,e,rfl,hY,k2⟩;have l8:=r4.ab k2 (by simp);have dh:=k1.trans k2;have av:=r4.lt;have hxw:w.heap.size<=x4:=by omega
 clear r4 k1 k2 hr;conv=>whnf
 refine CW.loop (ι:=Unit) (fun _ w'=>w'=w2) (fun _=>[(0,.slice Y L.length e),(1,.map (some r)),(4,.pointer (some ⟨x4,0,none⟩))]) (fun _=>0) () ai rfl ⟨rfl,rfl,rfl,trivial⟩ ?_;rintro _ wr rfl;conv=>whnf
 refine Ca.of (Bk Y e L 24 (-1) wr hY (by omega)) ?_;rintro _ w3 ⟨rfl,k3⟩;rw[hw];have fS:=l8.ab k3 (by simp);have bG:=dh.trans k3;conv=>whnf
 refine Ru.fN ?_;intro x6 w4 hx6 qB r6 k4;conv=>whnf
 refine Ru.uo r6 ?_;intro w5 r6 k5;have q5:Aa [] w3 w5:=k4.then k5 (fun x hx=>.inr (by rw[List.mem_singleton.1 hx,hx6];exact Nat.le_refl _));have iJ:=fS.ab q5 (by simp);have dL:=bG.trans q5;conv=>whnf
 repeat ((first|refine Br.t ?_|refine CW.s ?_);conv=>whnf)
 refine Ru.of (adk _) ?_;conv=>whnf
 refine Ru.im iJ bu (by omega) (fun j hj=>Cp.bj _ j) ?_;intro w6 nT k6;conv=>whnf
 refine Ru.vR nT underlying116 rfl bu (by omega) ?_;conv=>whnf
 refine⟨rfl,?_,dL.fresh hxw k6⟩;show Value.tuple #[agg 62 _,.bool false]=_;rw[br (fun j hj=>ai4 _ _ j hj)]
structure Dr(w:World)(r:Nat)(L:List Fd)(ps:List (Nat×Value))(k:Cp):Prop where
 told:k.told
 mp:Bb w r ps
 new:∃f:Fd,∃p:Nat,az (mK L 96) 24 (-1)=(f,true)/\f.place=p/\∃O oc,gB p ps=some (.slice O 174 oc)/\Ly w 5 1 O 174 oc (fun j=>.int .u8 (l9 k j))
theorem yi{A:Option Addr}{c r:Nat}{L:List Fd}{ps:List (Nat×Value)}{k:Cp}{w:World}(hr:Rd w A (L.length*6) (ju L))(oK:L=[]->A=none/\c=0)(hc:L.length<=c)(hn:L.length<=96)(hN:Dr w r L ps k) :
  Spec Tryz.prog 75 #[.slice A L.length c,.map (some r)] w fun v w'=>v=.tuple #[agg 62 k.cell,.bool true]/\Aa [] w w':=by
 obtain⟨hk,hmp,f,p,hw,hfp,O,oc,apr,hO⟩:=hN;refine spec_of_wpE (T:=tt) ai func75 rfl (by decide +kernel) ntmps75 (by simp) ?_;conv=>whnf
 refine Ru.aE (eD w) ?_;intro x4 w1 qj dj r4 k1;conv=>whnf
 refine Ca.of (yh (hr.aj k1) oK hc hn) ?_;rintro _ w2 ⟨Y,e,rfl,hY,k2⟩;have l8:=r4.ab k2 (by simp);have dh:=k1.trans k2;have av:=r4.lt;have hxw:w.heap.size<=x4:=by omega
 clear r4 k1 k2 hr;conv=>whnf
 refine CW.loop (ι:=Unit) (fun _ w'=>w'=w2) (fun _=>[(0,.slice Y L.length e),(1,.map (some r)),(4,.pointer (some ⟨x4,0,none⟩))]) (fun _=>0) () ai rfl ⟨rfl,rfl,rfl,trivial⟩ ?_;rintro _ wr rfl;conv=>whnf
 refine Ca.of (Bk Y e L 24 (-1) wr hY (by omega)) ?_;rintro _ w3 ⟨rfl,k3⟩;rw[hw];have fS:=l8.ab k3 (by simp);have bG:=dh.trans k3;conv=>whnf
 refine Ru.fN ?_;intro x6 w4 hx6 qB r6 k4;conv=>whnf
 refine Ru.uo r6 ?_;intro w5 r6 k5;have q5:Aa [] w3 w5:=k4.then k5 (fun x hx=>.inr (by rw[List.mem_singleton.1 hx,hx6];exact Nat.le_refl _));have iJ:=fS.ab q5 (by simp);have dL:=bG.trans q5;have c0:w5.cell? ⟨x6,0,none⟩=some (.int .i64 (p:Nat)):=(r6.cell 0 (by omega)).trans (by show some (Value.int .i64 f.place)=_;rw[hfp]);have are:=hmp.ab dL (by simp);conv=>whnf
 repeat ((first|(refine Ld.at (by omega) c0 ?_)|refine Br.f ?_|refine CW.s ?_);conv=>whnf)
 refine Ru.of (alx are apr) ?_;conv=>whnf
 repeat (refine Br.t ?_;conv=>whnf)
 have hO5:=(hO.aj dL).rd;rw[Nat.mul_one] at hO5;have uK:174<=oc:=hO.1;obtain⟨g,oo,rfl,bM⟩:=hO5 (by omega);refine Ca.of (aie w5 g oo oc k hk uK bM) ?_;rintro _ w6 ⟨rfl,k6⟩;have nT:=iJ.ab k6 (by simp);have gG:=dL.trans k6;conv=>whnf
 refine Ru.aE (eD w6) ?_;intro x10 w7 hx10 hs7 r10 k7;conv=>whnf
 refine Ru.im r10 bu (by omega) (fun j hj=>Cp.bj _ j) ?_;intro w8 anU k8;have q8:Aa [] w6 w8:=k7.then k8 (fun x hx=>.inr (by rw[List.mem_singleton.1 hx,hx10];exact Nat.le_refl _));have r48:=nT.ab q8 (by simp);have qW:=gG.trans q8;have anU:Row w8 x10 116 62 k.cell:=anU.congr (fun j hj=>sZ _ _ j hj);conv=>whnf
 repeat ((first|refine Br.t ?_|refine Ru.bh ?_);conv=>whnf)
 refine Ru.cx (q:=k.cell) anU underlying116 rfl bu (by omega) (fun j hj=>by rw[Nat.zero_add]) ?_;conv=>whnf
 refine Ru.im r48 bu (by omega) (fun j hj=>Cp.bj _ j) ?_;intro w9 r49 k9;conv=>whnf
 refine Ru.vR r49 underlying116 rfl bu (by omega) ?_;conv=>whnf
 refine⟨rfl,?_,qW.fresh hxw k9⟩;show Value.tuple #[agg 62 _,.bool true]=_;rw[br (fun j hj=>ai4 _ _ j hj)]
end
section
open Go.RowKit
def mj(K:KS):Nat->KS
 |0=>K
 |b+1=>if K.st b=0 then { mj K b with F:=Hl.ux (mj K b).F b } else mj K b
def kH(K:KS)(P:CS):Nat->CS
 |0=>P
 |b+1=>if K.st b=0 then (kH K P b).dE b else kH K P b
def vo(K:KS)(P:CS):Nat->List CS
 |0=>[]
 |b+1=>if K.st b=0 then vo K P b++[kH K P b] else vo K P b
theorem vp(K:KS)(b:Nat):mj K (b+1)=if K.st b=0 then { mj K b with F:=Hl.ux (mj K b).F b } else mj K b:=rfl
theorem vq(K:KS)(P:CS)(b:Nat):kH K P (b+1)=if K.st b=0 then (kH K P b).dE b else kH K P b:=rfl
theorem qc(K:KS)(P:CS)(b:Nat):vo K P (b+1)=if K.st b=0 then vo K P b++[kH K P b] else vo K P b:=rfl
theorem abE(K:KS):mj K 0=K:=rfl
theorem abF(K:KS)(P:CS):kH K P 0=P:=rfl
theorem vt(K:KS)(P:CS):vo K P 0=[]:=rfl
theorem mW(K:KS):∀b,uP K (mj K b)
 |0=>⟨K.F,rfl⟩
 | b+1=>by
  obtain⟨F,h⟩:=mW K b;unfold mj;split
  ·rw[h];exact⟨_,rfl⟩
  ·exact⟨F,h⟩
theorem mX(K:KS){P:CS}(h:P.calm):∀b,(kH K P b).calm
 |0=>h
 | b+1=>by
  unfold kH;split
  ·exact CS.xR (mX K h b) b
  ·exact mX K h b
theorem aey(K:KS)(P:CS):∀n m,n<=m->∃T,vo K P m=vo K P n++T
 | n,0,h=>by
  obtain rfl:n=0:=by omega
  exact⟨[],by simp⟩
 | n,m+1,h=>by
  by_cases e:n=m+1
  ·subst e;exact⟨[],by simp⟩
  ·obtain⟨T,hT⟩:=aey K P n m (by omega);rw[qc];split
   ·exact⟨T++[kH K P m],by rw[hT,List.append_assoc]⟩
   ·exact⟨T,hT⟩
inductive AE (K:KS) (P:CS):KS->CS->List CS->Prop
 |done:K.at_ 24≠0->AE K P (mj K 12) (kH K P 12) (vo K P 12)
 |note {K1:KS} {P1:CS} {t1:List CS}:K.at_ 24=0->AQ 24 aW (mj K 12) (kH K P 12) K1 P1 t1->(iA (bJ K1) K1.next (-1)).told->AE K P (cB K1 24) (jw K1 P1 24 aW) (vo K P 12++zH K1 P1 t1)
theorem AE.len{K:KS}{P:CS}{K':KS}{P':CS}{tr:List CS}(h:AE K P K' P' tr):∃T,tr=vo K P 12++T:=by
 cases h
 ·exact⟨[],by simp⟩
 ·exact⟨_,rfl⟩
attribute [local irreducible] mj kH vo
section
variable{w w':World}{N:Cr}{K:KS}{X:Option Addr}{c:Nat}{P:CS}{b:Option Nat}{n:Int}
theorem ai5(h:On w N K P b n X c)(hc:P.calm)(ha:K.at_ 24<=96)(hwo:ax K.st=false){K':KS}{P':CS}{tr:List CS}(H:AE K P K' P' tr) :
  Spec Tryz.prog 78 #[.pointer (some ⟨N.k,0,none⟩)] w fun u w'=>AD N X c K' P' b tr w w' (u=al 0) (u=al 7):=by
 have bW:∀x,w.heap.size<=x->x∉N.all:=fun x hx hm=>by
  have h3:x<w.heap.size:=by
   rcases List.mem_append.1 hm with hm|hm
   ·exact h.core.lt (List.mem_append_left _ hm)
   ·exact h.gn _ hm
  omega
 have gZ:=H.len;refine spec_of_wpE (T:=tt) ai func78 rfl (by decide +kernel) ntmps78 (by simp) ?_;conv=>whnf
 repeat ((refine Ld.of h.core.c2 ?_);conv=>whnf)
 refine Ca.of (iW h.core.map 24 (by omega) ha) ?_;rintro _ _ ⟨rfl,rfl⟩;obtain⟨m,a,e,hv,he⟩:∃(m:Bool) (a e:Int),(if K.at_ 24=0 then Value.tuple #[.int .i64 0,al 11] else .tuple #[.int .i64 ((K.at_ 24-1:Nat):Int),al 0])=.tuple #[.int .i64 a,al e] /\
   ((m=true/\e=11/\∃K1 P1 t1,AQ 24 aW (mj K 12) (kH K P 12) K1 P1 t1/\(iA (bJ K1) K1.next (-1)).told/\K'=cB K1 24/\P'=jw K1 P1 24 aW/\tr=vo K P 12++zH K1 P1 t1)\/(m=false/\e=0/\K'=mj K 12/\P'=kH K P 12/\tr=vo K P 12)):=by
  cases H with
  |done h0=>exact⟨false,_,0,if_neg h0,.inr ⟨rfl,rfl,rfl,rfl,rfl⟩⟩
  |note h0 h1 h2=>exact⟨true,0,11,if_pos h0,.inl ⟨rfl,rfl,_,_,_,h1,h2,rfl,rfl,rfl⟩⟩
 rw[hv];rcases he with⟨hm,rfl,ma⟩|⟨hm,rfl,ma⟩
 all_goals
  conv=>whnf
  repeat ((first|(refine Ld.of h.core.c1 ?_)|refine Ru.ak ?_|refine Ru.n1 ?_|refine CW.s ?_);conv=>whnf)
  refine Ca.of (jb h) ?_;rintro _ w1 ⟨Y,e,rfl,hY⟩;have h1:=h.aj hY.ab;obtain⟨lY,nY,kY⟩:=hY;conv=>whnf
  refine CW.loop (ι:=Nat) (fun i w'=>i<=12/\fits b (vo K P i).length/\On w' N (mj K i) (kH K P i) (less b (vo K P i).length) n X c/\Ly w' 3 1 Y 12 e (fun j=>.int .i64 (K.st j:Nat))/\Aa N.all w w')
   (fun i=>[(0,.pointer (some ⟨N.k,0,none⟩)),(5,.bool m),(24,.slice Y 12 e),(25,.int .i64 12),(26,.int .i64 i)]) (fun i=>12-i) 0 ai ⟨by omega,(fun x hx=>by rw[vt];exact Nat.zero_le _),by rw[vt,abE,abF,show(([]:List CS)).length=0 from rfl,fE];exact h1,lY,Aa.eh kY⟩ ⟨rfl,congrArg Value.bool hm.symm,rfl,rfl,rfl,trivial⟩ ?_;clear h1 lY kY;rintro i wr ⟨hi,ef,hr,ly,kk⟩;obtain⟨F,fm⟩:=mW K i;have abr:=mX K hc i;rcases Nat.lt_or_ge i 12 with av|av
  ·have rd:=ly.rd;rw[Nat.mul_one] at rd;obtain⟨gy,oy,rfl,bM⟩:=rd (by omega);have ci:wr.cell? ⟨gy,oy+i,none⟩=some (.int .i64 (K.st i:Nat)):=bM i av;by_cases hs:K.st i=0
   ·rw[hs] at ci;obtain⟨T,hT⟩:=aey K P (i+1) 12 (by omega);have eT:vo K P (i+1)=vo K P i++[kH K P i]:=by rw[qc,if_pos hs]
    conv=>whnf
    repeat ((first|(refine Ld.at (by omega) ci ?_)|(refine Ld.of hr.core.c0 ?_)|refine Br.f ?_|refine Ix.n ?_|refine Br.y ?_|refine CW.s ?_);conv=>whnf)
    refine Ca.of (nr hr.o9 (B:=i) av) ?_;rintro _ w4 ⟨k4,hr4⟩;have k4a:Aa N.all wr w4:=k4.mono (fun x hx=>ja (by rw[List.mem_singleton.1 hx];simp[Pt.l]));have bU:=kk.trans k4a;have zk:=ly.ab k4a (fun x hx=>bW x (nY x hx));rw[CS.uO abr] at hr4;rcases hr4 with⟨hf4,rfl,M4⟩|⟨y,hy,jq,rfl,M4⟩
    ·have h4:=hr.cH (k4.mono (fun x hx=>by rw[List.mem_singleton.1 hx];simp[Pt.l])) M4;conv=>whnf
     repeat ((first|(refine Ld.of h4.core.c4 ?_)|refine Br.t ?_|refine Ru.bh ?_);conv=>whnf)
     refine Ca.of (Hl.nv w4 N.e _ h4.core.aH i av) ?_;rintro _ w5 ⟨rfl,r5,k5⟩;have h5:=h4.aH k5 r5;conv=>whnf
     repeat (refine Ar.la ?_;conv=>whnf)
     refine⟨i+1,⟨av,?_,?_,zk.ab k5 (fun x hx hm=>?_),bU.trans (Aa.jl (by simp[Cr.own]) k5)⟩,⟨rfl,rfl,rfl,rfl,vi (by omega),trivial⟩,by simp only;omega⟩
     ·rw[eT];exact Af.fits ef hf4
     ·rw[eT,vp,vq,if_pos hs,if_pos hs,List.length_append, <-gk];exact h5
     ·exact bW x (nY x hx) (bg (by rw[List.mem_singleton.1 hm];simp[Cr.own]))
    ·conv=>whnf
     repeat ((first|refine Br.f ?_|refine Ru.e1 ?_);conv=>whnf)
     refine Ca.of (aU 7 8 (by decide) _) ?_;rintro _ _ ⟨rfl,rfl⟩;conv=>whnf
     repeat (refine Br.f ?_;conv=>whnf)
     refine⟨rfl,bU,?_⟩;obtain⟨T2,hT2⟩:=gZ;rw[hT2,hT,eT,List.append_assoc,List.append_assoc];exact Af.then ef (Af.gone hy jq ⟨rfl,n,M4⟩)
   ·have dj:decide (((K.st i:Nat):Int)=0)=false:=decide_eq_false (by omega);have eT:vo K P (i+1)=vo K P i:=by rw[qc,if_neg hs]
    conv=>whnf
    repeat ((first|(refine Ld.at (by omega) ci ?_)|refine Ix.n ?_|refine Ar.la ?_|refine Br.y ?_|refine Br.nn ?_|refine CW.s ?_);conv=>whnf)
    refine⟨i+1,⟨av,by rw[eT];exact ef,?_,ly,kk⟩,⟨rfl,rfl,rfl,rfl,vi (by omega),trivial⟩,by simp only;omega⟩;rw[eT,vp,vq,if_neg hs,if_neg hs];exact hr
 ·obtain rfl:i=12:=by omega
  obtain⟨F,fm⟩:=mW K 12;have hw:ax (mj K 12).st=false:=by rw[fm];exact hwo
  subst hm;obtain⟨K1,P1,t1,h1,h2,rfl,rfl,rfl⟩:=ma;conv=>whnf
  repeat ((first|(refine Ld.of hr.core.c1 ?_)|refine Br.f ?_|refine CW.s ?_);conv=>whnf)
  refine Ca.of (eQ hr.core.aV) ?_;rintro _ _ ⟨rfl,rfl⟩;rw[hw];conv=>whnf
  repeat ((first|refine Br.f ?_|refine Pk.f ?_|refine CW.s ?_);conv=>whnf)
  refine Ca.of (aen hr h1 h2) ?_;rintro _ w5 ⟨k5,hr5⟩;rcases hr5 with⟨f5,rfl,n5,h5⟩|⟨y,hy,jq,rfl,n5,h5⟩
  ·conv=>whnf
   refine Ca.of (aU 0 14 (by decide) _) ?_;rintro _ _ ⟨rfl,rfl⟩;conv=>whnf
   repeat (refine Br.t ?_;conv=>whnf)
   exact⟨rfl,kk.trans k5,Af.then ef (.inl ⟨f5,rfl,n5,h5⟩)⟩
  ·conv=>whnf
   refine Ca.of (aU 7 14 (by decide) _) ?_;rintro _ _ ⟨rfl,rfl⟩;conv=>whnf
   repeat (refine Br.t ?_;conv=>whnf)
   exact⟨rfl,kk.trans k5,Af.then ef (.inr ⟨y,hy,jq,rfl,n5,h5⟩)⟩
 ·obtain rfl:i=12:=by omega
  subst hm;obtain⟨rfl,rfl,rfl⟩:=ma;conv=>whnf
  repeat ((first|refine Br.t ?_|refine Br.f ?_|refine Pk.t ?_|refine CW.s ?_);conv=>whnf)
  exact⟨rfl,kk,.inl ⟨ef,rfl,n,hr⟩⟩
end
end
section
open Go.RowKit
def rf(k:Cp)(L:List Fd):KS:=fK (yg k L) (wK (yg k L).F 12)
inductive AJ (P:CS):KS->CS->List CS->Prop
 |new {K':KS} {P':CS} {tr:List CS}:az (mK (an P 96) 96) 24 (-1)=(Fd.zero,false)->Bm Cp.zero []->Hl.HB (yg Cp.zero []).F->(rf Cp.zero []).at_ 24<=96->ax (rf Cp.zero []).st=false->AE (rf Cp.zero []) (jE P 96) K' P' tr->AJ P K' P' tr
 | old {k:Cp} {f:Fd} {p:Nat} {t:Tg} {D:Nat->Nat} {K':KS} {P':CS} {tr:List CS}:az (mK (an P 96) 96) 24 (-1)=(f,true)->f.place=p->p<96->P.pg p=.full t D->t.of=24->(∀j,j<174->D j=sV k j)->Bm k (an P 96)->Hl.HB (yg k (an P 96)).F->(rf k (an P 96)).at_ 24<=96->ax (rf k (an P 96)).st=false ->
   AE (rf k (an P 96)) (jE P 96) K' P' tr->AJ P K' P' tr
theorem yj(w:World):(Instr.makeSlice 23 (.int .i64 12) (.int .i64 12)).run Tryz.prog w=.ok (.slice (some ⟨w.heap.size,0,none⟩) 12 12) (w.alloc (.cells (madeCells #[.int .i64 0] 12) 3)):=by kernel_rfl
attribute [local irreducible] an jE yg wK
theorem On.al7{w w':World}{N:Cr}{K:KS}{P:CS}{b:Option Nat}{n:Int}{c g:Nat}(h:On w N K P b n none c)(k:Aa [g] w w')(hg:g∉N.all)(h1:N.N.m∉[g])(h2:N.N.c∉[g])(h3:N.N.f∉[g])(h4:N.N.cd∉[g])(h5:N.N.g∉[g])(h6:N.N.h∉[g]):On w' N K P b n none c:=by
 obtain⟨C,M,q⟩:=h.o9;exact⟨h.core.ab k (fun x hx hm=>by
  rcases List.mem_append.1 hx with hx|hx
  ·exact hg (bg (by rw[<-List.mem_singleton.1 hm];exact hx))
  ·cases hx),C,M.ab k h1 h2 h3 h4 h5 h6,q⟩
def CZ(ch:Nat)(K':KS)(P':CS)(b:Option Nat)(tr:List CS)(w:World)(v:Value)(w':World):Prop :=
 Aa [ch] w w'/\Af b tr (fun b'=>∃(N:Cr) (n:Int),v=.tuple #[.pointer (some ⟨N.k,0,none⟩),al 0]/\N.N.c=ch/\On w' N K' P' b' n none 0/\∀x,x∈N.all->x=ch\/w.heap.size<=x) (fun Q=>v=.tuple #[.pointer none,al 7]/\∃C',Ab w' ch C'/\AV C' Q)
theorem ai6{w:World}{C:Chip}{ch:Nat}{P:CS}{b:Option Nat}(H:Ab w ch C)(hA:Abs C P)(hl:C.left b)(hc:P.calm){K':KS}{P':CS}{tr:List CS}(M:AJ P K' P' tr) :
  Spec Tryz.prog 50 #[.pointer (some ⟨ch,0,none⟩)] w (CZ ch K' P' b tr w):=by
 have hlen:=nN P 96;have abr:=p9 hc 96;have aiW:ch<w.heap.size:=Row.lt H;obtain⟨k,L,is,hN,hB,jo,hwo,hCl,ai7⟩:∃(k:Cp) (L:List Fd) (is:Bool),Bm k L/\Hl.HB (yg k L).F/\(rf k L).at_ 24<=96/\ax (rf k L).st=false/\AE (rf k L) (jE P 96) K' P' tr /\
   ((is=false/\L=[]/\k=Cp.zero/\az (mK (an P 96) 96) 24 (-1)=(Fd.zero,false))\/(is=true/\L=an P 96/\∃f p t D,az (mK (an P 96) 96) 24 (-1)=(f,true)/\f.place=(p:Nat)/\p<96/\P.pg p=.full t D/\t.of=24/\∀j,j<174->D j=sV k j)):=by
  cases M with
  |new h1 h2 h3 h4 h5 h6=>exact⟨_,_,false,h2,h3,h4,h5,h6,.inl ⟨rfl,rfl,rfl,h1⟩⟩
  |old h1 h2 h3 h4 h5 h6 h7 h8 h9 vX sP=>exact⟨_,_,true,h7,h8,h9,vX,sP,.inr ⟨rfl,rfl,_,_,_,_,h1,h2,h3,h4,h5,h6⟩⟩
 clear M;refine spec_of_wpE (T:=tt) ai func50 rfl (by decide +kernel) ntmps50 (by simp) ?_;conv=>whnf
 repeat (refine CW.s ?_;conv=>whnf)
 refine Ru.of (mU w _ _) ?_;conv=>whnf
 repeat (refine Br.f ?_;conv=>whnf)
 refine Ca.of (aew H hA hl) ?_;rintro _ w1 ⟨A,cA,r,ps,C1,rfl,oK,ly,rm,hps,H1,hA1,hl1,k1⟩;have uK:(an P 96).length<=cA:=ly.1;have gN:Spec Tryz.prog 75 #[.slice A (an P 96).length cA,.map (some r)] w1 fun v w'=>v=.tuple #[agg 62 k.cell,.bool is]/\Aa [] w1 w':=by
  rcases ai7 with⟨rfl,-,rfl,h1⟩|⟨rfl,-,f,p,t,D,h1,h2,h3,h4,h5,h6⟩
  ·exact afQ ly.rd oK uK hlen h1
  ·obtain⟨O,oc,D',a1,a2,a3,a4⟩:=hps.yes p t D h3 h4 h5;refine yi ly.rd oK uK hlen ⟨hN.told,rm,f,p,h1,h2,O,oc,a1,a4.congr (fun j hj=>?_)⟩;have h7:D' j=D j:=by
    rw[<-a3];unfold cm;rw[if_pos (by omega)]
   rw[h7,h6 j (by omega),nJ]
 conv=>whnf
 repeat ((first|refine Br.f ?_|refine Ru.ak ?_|refine CW.s ?_);conv=>whnf)
 refine Ca.of gN ?_;rintro _ w2 ⟨rfl,k2⟩;have H2:=H1.ab k2 (by simp);have ly2:=ly.aj k2;have dh:=k1.trans (k2.mono (T:=[ch]) (by simp));clear H1 ly k1 k2 rm hps gN H;conv=>whnf
 refine Ru.aE (eD w2) ?_;intro x7 w3 hx7 gg r7 k3;conv=>whnf
 refine Ru.im r7 bu (by omega) (fun j hj=>Cp.bj _ j) ?_;intro w4 r74 k4;have r74:Row w4 x7 116 62 k.cell:=r74.congr (fun j hj=>sZ _ _ j hj);have q4:Aa [] w2 w4:=k3.then k4 (fun x hx=>.inr (by rw[List.mem_singleton.1 hx,hx7];exact Nat.le_refl _));have H4:=H2.ab q4 (by simp);have zk:=ly2.aj q4;have bU:=dh.trans (q4.mono (T:=[ch]) (by simp));clear H2 ly2 dh q4 k3 k4 r7 gg;have yk:∀A' cA',Rd w4 A' (L.length*6) (ju L)->Spec Tryz.prog 76 #[.pointer (some ⟨ch,0,none⟩),agg 62 k.cell,.slice A' L.length cA'] w4 fun v w'=>∃N:Cr,v=.tuple #[.pointer (some ⟨N.k,0,none⟩),al 0]/\On w' N (yg k L) (jE P 96) b 0 none 0/\N.N.c=ch/\(∀x,x∈N.all->x=ch\/w4.heap.size<=x)/\Aa [] w4 w' :=
  fun A' cA' hr=>aiV H4 hA1 hl1 hN hr (by rcases ai7 with⟨-,rfl,-⟩|⟨-,rfl,-⟩;simp;omega);rcases ai7 with⟨rfl,rfl,-,-⟩|⟨rfl,rfl,-⟩
 rotate_left
 all_goals
  conv=>whnf
  repeat ((first|refine Br.t ?_|refine Br.f ?_|refine CW.s ?_);conv=>whnf)
  refine Ru.cx (q:=k.cell) r74 underlying116 rfl bu (by omega) (fun j hj=>by rw[Nat.zero_add]) ?_;conv=>whnf
 refine Ca.of (yk A cA zk.rd) ?_
 rotate_left
 refine Ca.of (yk none 0 (fun h=>by simp at h)) ?_
 all_goals
  rintro _ w5 ⟨N,rfl,h5,eC,cq,k5⟩;have dL:=bU.trans (k5.mono (T:=[ch]) (by simp));conv=>whnf
  repeat ((first|refine Br.f ?_|refine Ru.ak ?_|refine CW.s ?_);conv=>whnf)
  refine Ru.of (yj w5) ?_;have ry:=Row.made w5 3 (.int .i64 0) 12;have k6:Aa [] w5 (w5.alloc (.cells (madeCells #[.int .i64 0] 12) 3)):=(Aa.refl _ _).alloc _;have h6:=h5.aj k6;have gG:=dL.trans (k6.mono (T:=[ch]) (by simp));have lN:N.N.m<w5.heap.size/\N.N.c<w5.heap.size/\N.N.f<w5.heap.size/\N.N.cd<w5.heap.size/\N.N.g<w5.heap.size/\N.N.h<w5.heap.size:=by
   obtain⟨C5,M5,q5⟩:=h5.o9;exact M5.lt
  have qz:∀y,y<w5.heap.size->y∉[w5.heap.size]:=fun y hy hm=>by
   rw[List.mem_singleton.1 hm] at hy;omega
  have ai8:∀x,x∈N.all->x<w5.heap.size:=fun x hx=>by
   rcases List.mem_append.1 hx with hm|hm
   ·exact h5.core.lt (List.mem_append_left _ hm)
   ·exact h5.gn _ hm
  have hgw:w.heap.size<=w5.heap.size:=dL.size;have hgN:w5.heap.size∉N.all:=fun hx=>by have:=ai8 _ hx;omega
  have abG:∀x,x∈N.all->x=ch\/w.heap.size<=x:=fun x hx=>by
   rcases cq x hx with h|h
   ·exact .inl h
   ·exact .inr (Nat.le_trans bU.size h)
  clear h5 k5 k6 dL yk r74 zk H4 bU cq ai8;generalize w5.alloc _=w6 at *;generalize w5.heap.size=g at *;conv=>whnf
  repeat (refine CW.s ?_;conv=>whnf)
  refine CW.loop (ι:=Nat) (fun i w'=>i<=12/\On w' N (yg k _) (jE P 96) b 0 none 0/\Row w' g 3 12 (fun j=>if j<i then .int .i64 8 else .int .i64 0)/\Aa [ch] w w')
   (fun i=>[(9,.pointer (some ⟨N.k,0,none⟩)),(10,.slice (some ⟨g,0,none⟩) 12 12),(44,.slice (some ⟨g,0,none⟩) 12 12),(45,.int .i64 12),(46,.int .i64 i)]) (fun i=>12-i) 0 ai ⟨by omega,h6,ry.congr (fun j hj=>by simp),gG⟩ ⟨rfl,rfl,rfl,rfl,rfl,trivial⟩ ?_;clear h6 ry gG;rintro i wr ⟨hi,hr,rg,kk⟩;rcases Nat.lt_or_ge i 12 with av|wg
  ·conv=>whnf
   repeat ((first|(refine Ix.of i (by omega) (by omega) ?_)|refine Br.y ?_|refine CW.s ?_);conv=>whnf)
   rw[show 0+i=i by omega];refine Sd.rowAt rg i (by omega) (by omega) rfl ?_;intro w7 rg7 k7;have h7:=hr.al7 k7 hgN (qz N.N.m lN.1) (qz N.N.c lN.2.1) (qz N.N.f lN.2.2.1) (qz N.N.cd lN.2.2.2.1) (qz N.N.g lN.2.2.2.2.1) (qz N.N.h lN.2.2.2.2.2);conv=>whnf
   repeat (refine Ar.la ?_;conv=>whnf)
   refine⟨i+1,⟨av,h7,rg7.congr (fun j hj=>?_),kk.then k7 (fun x hx=>.inr (by rw[List.mem_singleton.1 hx];exact hgw))⟩,⟨rfl,rfl,rfl,rfl,vi (by omega),trivial⟩,by simp only;omega⟩;unfold put;by_cases vQ:j=i
   ·rw[if_pos vQ,if_pos (by omega)]
   ·rw[if_neg vQ];simp only;by_cases kL:j<i
    ·rw[if_pos kL,if_pos (by omega)]
    ·rw[if_neg kL,if_neg (by omega)]
  ·obtain rfl:i=12:=by omega
   have rg:Row wr g 3 12 (fun _=>.int .i64 8):=rg.congr (fun j hj=>by simp only[if_pos hj]);conv=>whnf
   repeat ((first|refine Br.f ?_|refine CW.s ?_);conv=>whnf)
   refine Ca.of (aet hr hB rg hgN) ?_;rintro _ w7 ⟨rfl,h7,k7⟩;conv=>whnf
   repeat (refine CW.s ?_;conv=>whnf)
   refine Ca.of (ai5 h7 abr jo hwo hCl) ?_;rintro _ w8 ⟨k8,hr8⟩;have qW:Aa [ch] w w8:=kk.then (k7.trans k8) (fun x hx=>by
    rcases abG x hx with h|h
    ·exact .inl (List.mem_singleton.2 h)
    ·exact .inr h)
   rcases hr8 with⟨f8,rfl,n8,h8⟩|⟨y,hy,jq,rfl,n8,C8,M8,D8⟩
   ·conv=>whnf
    repeat ((first|refine Br.f ?_|refine Ru.ak ?_);conv=>whnf)
    exact⟨rfl,qW,.inl ⟨f8,N,n8,rfl,eC,h8,abG⟩⟩
   ·conv=>whnf
    repeat ((first|refine Br.t ?_|refine Ru.n1 ?_);conv=>whnf)
    exact⟨rfl,qW,.inr ⟨y,hy,jq,rfl,C8,by rw[<-eC];exact M8.cH,D8⟩⟩
end
section
open Go.RowKit
def dvF(ch:Nat)(core:Option Addr)(j:Nat):Value:=if j=0 then ptr ch else .pointer core
def Ak(w:World)(d ch:Nat)(core:Option Addr):Prop:=Row w d 87 2 (dvF ch core)
theorem jF(s:Nat)(hs:s<24)(w:World):Spec Tryz.prog 42 #[.int .i64 s] w fun v w'=>v=.bool true/\w=w':=by
 refine spec_of_wpE (T:=tt) ai func42 rfl (by decide +kernel) ntmps42 (by simp) ?_;conv=>whnf
 repeat ((first|refine Br.t ?_|refine Pk.t ?_);conv=>whnf)
 exact⟨rfl,vb (decide_eq_true (by omega)),rfl⟩
theorem dD(w:World)(x:Operand)(a:Addr):(do eqGuard .eql 85 x (.const (.pointer none)) (.pointer (some a)) (.pointer none);binOp .eql 85 (.pointer (some a)) (.pointer none):Sem Value).run Tryz.prog w=.ok (.bool false) w:=by kernel_rfl
theorem afR(w:World)(x:Operand):(do eqGuard .neq 85 x (.const (.pointer none)) (.pointer none) (.pointer none);binOp .neq 85 (.pointer none) (.pointer none):Sem Value).run Tryz.prog w=.ok (.bool false) w:=by kernel_rfl
theorem afS(ch:Nat)(w:World):(Instr.build 87 #[(0,.pointer (some ⟨ch,0,none⟩))]).run Tryz.prog w=.ok (agg 2 (dvF ch none)) w:=by kernel_rfl
theorem aly(ch:Nat)(w:World):Spec Tryz.prog 31 #[.pointer (some ⟨ch,0,none⟩)] w fun v w'=>∃d,v=.tuple #[.pointer (some ⟨d,0,none⟩),al 0]/\d=w.heap.size/\Ak w' d ch none/\Aa [] w w':=by
 refine spec_of_wpE (T:=tt) ai func31 rfl (by decide +kernel) ntmps31 (by simp) ?_;conv=>whnf
 repeat (refine CW.s ?_;conv=>whnf)
 refine Ru.of (mU w _ _) ?_;conv=>whnf
 repeat (refine Br.f ?_;conv=>whnf)
 refine Ru.of (afS ch w) ?_;conv=>whnf
 refine Ru.dr ?_;intro d w1 hd hs r k;conv=>whnf
 exact⟨rfl,d,rfl,hd,r,k⟩
def Ae(w:World)(own:List Nat)(d ch:Nat)(K:KS)(P:CS)(b:Option Nat):Prop :=
 ∃N X c n,own=d::(N.all++aK X)/\Ak w d ch (some ⟨N.k,0,none⟩)/\On w N K P b n X c/\N.N.c=ch/\K.qu=[]
def A0(w:World)(d ch:Nat)(Q:CS):Prop:=Ak w d ch none/\∃C,Ab w ch C/\AV C Q
def Al(own:List Nat)(d ch:Nat)(K':KS)(P':CS)(b:Option Nat)(tr:List CS)(w w':World)(ok dead:Prop):Prop :=
 Aa own w w'/\Af b tr (fun b'=>ok/\∃dW,Ae w' dW d ch K' P' b'/\∀x,x∈dW->x∈own\/w.heap.size<=x) (fun Q=>dead/\A0 w' d ch Q)
structure A9(K:KS)(P:CS):Prop where
 hb:Hl.HB K.F
 cur:K.cur<96
 uS:∀o,o<25->K.at_ o<=96
 anO:Cm K P
theorem s6(ch:Nat)(a:Option Addr)(a':Option Addr)(j:Nat)(hj:j<2):put (dvF ch a) 1 (.pointer a') j=dvF ch a' j:=by
 unfold put dvF;have:j=0\/j=1:=by omega
 rcases this with rfl|rfl<;>rfl
section
variable{w w':World}{N:Cr}{K:KS}{X:Option Addr}{c d ch:Nat}{P:CS}{b:Option Nat}{n:Int}
theorem Ak.ne(r:Ak w d ch (some ⟨N.k,0,none⟩))(h:On w N K P b n X c):d∉N.all++aK X:=fun hm=>by
 obtain⟨C,M,q⟩:=h.o9;obtain⟨F,rg⟩:=M.jk.iH.fs.ty;rcases List.mem_append.1 hm with hm|hm
 ·simp only[Cr.all,Cr.own,Pt.l,List.cons_append,List.nil_append,List.mem_cons,List.not_mem_nil,or_false] at hm;rcases hm with e|e|e|e|e|e|e|e|e
  ·exact Row.ed r h.core.row (by decide) e
  ·exact Row.ed r h.core.aV (by decide) e
  ·exact Row.ed r h.core.map (by decide) e
  ·exact Row.ed r h.core.front (by decide) e
  ·exact Row.ed r h.core.aH (by decide) e
  ·exact Row.ed r h.core.pat (by decide) e
  ·exact Row.ed r M.row (by decide) e
  ·exact Row.ed r M.cH (by decide) e
  ·exact Row.ed r rg (by decide) e
 ·exact h.core.qu.aL r (by decide) hm
theorem afT(r:Ak w d ch (some ⟨N.k,0,none⟩))(h:On w N K P b n X c)(eC:N.N.c=ch)(hq:K.qu=[])(T:A9 K P){K':KS}{P':CS}{tr:List CS}(H:Aw K P K' P' tr)(gX:K'.qu=[]) :
  Spec Tryz.prog 43 #[.pointer (some ⟨d,0,none⟩),al 0] w fun v w'=>Al (d::(N.all++aK X)) d ch K' P' b tr w w' (v=al 0) (v=al 7):=by
 have cn:=r.ne h;refine spec_of_wpE (T:=tt) ai func43 rfl (by decide +kernel) ntmps43 (by simp) ?_;conv=>whnf
 repeat (refine CW.s ?_;conv=>whnf)
 refine Ca.of (aU 0 7 (by decide) _) ?_;rintro _ _ ⟨rfl,rfl⟩;have c1:w.cell? ⟨d,1,none⟩=some (.pointer (some ⟨N.k,0,none⟩)):=Row.cell r 1 (by omega);conv=>whnf
 repeat ((first|(refine Ld.of c1 ?_)|refine Br.t ?_);conv=>whnf)
 refine Ca.of (alr h hq T.hb T.cur T.uS T.anO H) ?_;rintro _ w1 ⟨k1,hr1⟩;have r1:Ak w1 d ch (some ⟨N.k,0,none⟩):=Row.ab r k1 cn;have kk:Aa (d::(N.all++aK X)) w w1:=k1.mono (fun x hx=>List.mem_cons_of_mem _ hx);rcases hr1 with⟨f1,rfl,Y,e,n1,h1,hY⟩|⟨y,hy,jq,rfl,n1,M1⟩
 ·conv=>whnf
  repeat ((first|refine Br.f ?_|refine Ru.ak ?_|refine CW.s ?_);conv=>whnf)
  refine Ca.of (aU 0 7 (by decide) _) ?_;rintro _ _ ⟨rfl,rfl⟩;conv=>whnf
  repeat (refine Br.f ?_;conv=>whnf)
  refine⟨rfl,kk,.inl ⟨f1,rfl,_,⟨N,Y,e,n1,rfl,r1,h1,eC,gX⟩,fun x hx=>?_⟩⟩;rcases List.mem_cons.1 hx with rfl|hx
  ·exact .inl (List.mem_cons_self ..)
  ·rcases List.mem_append.1 hx with hx|hx
   ·exact .inl (List.mem_cons_of_mem _ (List.mem_append_left _ hx))
   ·rcases hY x hx with h|h
    ·exact .inl (List.mem_cons_of_mem _ (List.mem_append_right _ h))
    ·exact .inr h
 ·conv=>whnf
  repeat ((first|refine Br.t ?_|refine Ru.n1 ?_|refine CW.s ?_);conv=>whnf)
  refine Ca.of (aU 7 7 (by decide) _) ?_;rintro _ _ ⟨rfl,rfl⟩;conv=>whnf
  repeat (refine Br.t ?_;conv=>whnf)
  refine Sd.rowAt r1 1 (by omega) (by omega) rfl ?_;intro w2 r2 k2;have r2:Ak w2 d ch none:=r2.congr (fun j hj=>s6 ch _ _ j hj);conv=>whnf
  obtain⟨C1,M1,D1⟩:=M1;have hcd:N.N.c∉[d]:=fun hm=>cn (by
   rw[<-List.mem_singleton.1 hm];exact List.mem_append_left _ (ja (by simp[Pt.l])))
  exact⟨rfl,kk.trans (k2.mono (fun x hx=>by rw[List.mem_singleton.1 hx];exact List.mem_cons_self ..)),.inr ⟨y,hy,jq,rfl,r2,C1,by rw[<-eC];exact M1.cH.ab k2 hcd,D1⟩⟩
theorem rj(r:Ak w d ch (some ⟨N.k,0,none⟩)){Q:CS}(h:AW w N.N Q n)(eC:N.N.c=ch) :
  Spec Tryz.prog 43 #[.pointer (some ⟨d,0,none⟩),al 7] w fun v w'=>v=al 7/\A0 w' d ch Q/\Aa [d] w w':=by
 refine spec_of_wpE (T:=tt) ai func43 rfl (by decide +kernel) ntmps43 (by simp) ?_;conv=>whnf
 repeat (refine CW.s ?_;conv=>whnf)
 refine Ca.of (aU 7 7 (by decide) _) ?_;rintro _ _ ⟨rfl,rfl⟩;conv=>whnf
 repeat ((first|refine Br.f ?_|refine CW.s ?_);conv=>whnf)
 refine Ca.of (aU 7 7 (by decide) _) ?_;rintro _ _ ⟨rfl,rfl⟩;conv=>whnf
 repeat (refine Br.t ?_;conv=>whnf)
 refine Sd.rowAt r 1 (by omega) (by omega) rfl ?_;intro w2 r2 k2;have r2:Ak w2 d ch none:=r2.congr (fun j hj=>s6 ch _ _ j hj);conv=>whnf
 obtain⟨C1,M1,D1⟩:=h;have hcd:N.N.c∉[d]:=fun hm=>by
  have:=Row.ed M1.cH r (by decide);exact this (List.mem_singleton.1 hm)
 exact⟨rfl,rfl,⟨r2,C1,by rw[<-eC];exact M1.cH.ab k2 hcd,D1⟩,k2⟩
theorem Al.of{K1:KS}{P1:CS}{t1:List CS}{K':KS}{P':CS}{t2:List CS}{w1:World}
  (r:Ak w d ch (some ⟨N.k,0,none⟩)) (h:On w N K P b n X c) (eC:N.N.c=ch) (hq:K1.qu=[]) (T:A9 K1 P1) (H:Aw K1 P1 K' P' t2) (gX:K'.qu=[]) {e:Value} (hE:AD N X c K1 P1 b t1 w w1 (e=al 0) (e=al 7)) :
  Spec Tryz.prog 43 #[.pointer (some ⟨d,0,none⟩),e] w1 fun v w'=>Aa (d::(N.all++aK X)) w1 w'/\Al (d::(N.all++aK X)) d ch K' P' b (t1++t2) w w' (v=al 0) (v=al 7):=by
 obtain⟨k1,hr1⟩:=hE;have cn:=r.ne h;have r1:Ak w1 d ch (some ⟨N.k,0,none⟩):=Row.ab r k1 (fun hm=>cn (List.mem_append_left _ hm));have kk1:Aa (d::(N.all++aK X)) w w1:=k1.mono (fun x hx=>List.mem_cons_of_mem _ (List.mem_append_left _ hx));rcases hr1 with⟨f1,rfl,n1,h1⟩|⟨y,hy,jq,rfl,n1,M1⟩
 ·refine(afT r1 h1 eC hq T H gX).mono ?_;rintro v w2 ⟨k2,sQ⟩;refine⟨k2,kk1.trans k2,Af.then f1 (sQ.mono (fun b' ⟨a1,dW,a2,a3⟩=>⟨a1,dW,a2,fun x hx=>?_⟩) (fun _ h=>h))⟩;rcases a3 x hx with h|h
  ·exact .inl h
  ·exact .inr (Nat.le_trans k1.size h)
 ·refine(rj r1 M1 eC).mono ?_;rintro v w2 ⟨rfl,a1,k2⟩;have k2:=k2.mono (T:=d::(N.all++aK X)) (fun x hx=>by rw[List.mem_singleton.1 hx];exact List.mem_cons_self ..);exact⟨k2,kk1.trans k2,Af.gone hy jq ⟨rfl,a1⟩⟩
theorem afU{own:List Nat}(D:Ae w own d ch K P b){s e:Nat}(hs:s<24){A:Option Addr}{f:Nat->Nat}(hA:AI w A 160 f)(he:160<=e){K1:KS}{P1:CS}{t1:List CS}(L:AQ s (dO f) K P K1 P1 t1)
  (hq:(cB K1 s).qu=[]) (T:A9 (cB K1 s) (jw K1 P1 s (dO f))) {K':KS} {P':CS} {t2:List CS} (H:Aw (cB K1 s) (jw K1 P1 s (dO f)) K' P' t2) (gX:K'.qu=[]) :
  Spec Tryz.prog 45 #[.pointer (some ⟨d,0,none⟩),.int .i64 s,.slice A 160 e] w fun v w'=>Al own d ch K' P' b (zH K1 P1 t1++t2) w w' (v=al 0) (v=al 7):=by
 obtain⟨N,X,c,n,rfl,r,h,eC,nM⟩:=D;have c1:w.cell? ⟨d,1,none⟩=some (.pointer (some ⟨N.k,0,none⟩)):=Row.cell r 1 (by omega);refine spec_of_wpE (T:=tt) ai func45 rfl (by decide +kernel) ntmps45 (by simp) ?_;conv=>whnf
 repeat ((first|(refine Ld.of c1 ?_)|refine CW.s ?_);conv=>whnf)
 refine Ru.of (dD w _ _) ?_;conv=>whnf
 repeat (refine Br.f ?_;conv=>whnf)
 refine Ca.of (jF s hs w) ?_;rintro _ _ ⟨rfl,rfl⟩;conv=>whnf
 repeat ((first|(refine Ld.of c1 ?_)|refine Br.f ?_|refine Pk.f ?_);conv=>whnf)
 refine Ca.of (anC h hs hA he L) ?_;intro u w1 hu;conv=>whnf
 refine Ca.of (Al.of r h eC hq T H gX hu) ?_;rintro v w2 ⟨-,hv⟩;conv=>whnf
 exact⟨rfl,hv⟩
theorem ai9{own:List Nat}(D:Ae w own d ch K P b){s:Nat}(hs:s<24)(h0:K.at_ s≠0)(h96:K.at_ s<=96){K1:KS}{P1:CS}{t1:List CS}(L:AQ 24 (dy s (K.en s).seq) K P K1 P1 t1)(ht:(wJ (bJ K1) s (K.en s).seq K1.next).told)(h1:(cB K1 24).at_ s≠0)(h2:(cB K1 24).at_ s<=96)
  (hq:(zL (sY (cB K1 24) s (K.en s).seq) s).qu=[]) (T:A9 (zL (sY (cB K1 24) s (K.en s).seq) s) (jw K1 P1 24 (dy s (K.en s).seq))) {K':KS} {P':CS} {t2:List CS} (H:Aw (zL (sY (cB K1 24) s (K.en s).seq) s) (jw K1 P1 24 (dy s (K.en s).seq)) K' P' t2) (gX:K'.qu=[]) :
  Spec Tryz.prog 17 #[.pointer (some ⟨d,0,none⟩),.int .i64 s] w fun v w'=>Al own d ch K' P' b (zH K1 P1 t1++t2) w w' (v=al 0) (v=al 7):=by
 obtain⟨N,X,c,n,rfl,r,h,eC,nM⟩:=D;have c1:w.cell? ⟨d,1,none⟩=some (.pointer (some ⟨N.k,0,none⟩)):=Row.cell r 1 (by omega);refine spec_of_wpE (T:=tt) ai func17 rfl (by decide +kernel) ntmps17 (by simp) ?_;conv=>whnf
 repeat ((first|(refine Ld.of c1 ?_)|refine CW.s ?_);conv=>whnf)
 refine Ru.of (dD w _ _) ?_;conv=>whnf
 repeat (refine Br.f ?_;conv=>whnf)
 refine Ca.of (jF s hs w) ?_;rintro _ _ ⟨rfl,rfl⟩;conv=>whnf
 repeat ((first|(refine Ld.of c1 ?_)|refine Br.f ?_);conv=>whnf)
 refine Ca.of (als h hs h0 h96 L ht h1 h2) ?_;intro u w1 hu;conv=>whnf
 refine Ca.of (Al.of r h eC hq T H gX hu) ?_;rintro v w2 ⟨-,hv⟩;conv=>whnf
 exact⟨rfl,hv⟩
theorem afV{own:List Nat}(D:Ae w own d ch K P b){s:Nat}(hs:s<24)(h0:K.at_ s=0)(T:A9 K P){K':KS}{P':CS}{t2:List CS}(H:Aw K P K' P' t2)(gX:K'.qu=[]) :
  Spec Tryz.prog 17 #[.pointer (some ⟨d,0,none⟩),.int .i64 s] w fun v w'=>Al own d ch K' P' b t2 w w' (v=al 0) (v=al 7):=by
 obtain⟨N,X,c,n,rfl,r,h,eC,nM⟩:=D;have c1:w.cell? ⟨d,1,none⟩=some (.pointer (some ⟨N.k,0,none⟩)):=Row.cell r 1 (by omega);refine spec_of_wpE (T:=tt) ai func17 rfl (by decide +kernel) ntmps17 (by simp) ?_;conv=>whnf
 repeat ((first|(refine Ld.of c1 ?_)|refine CW.s ?_);conv=>whnf)
 refine Ru.of (dD w _ _) ?_;conv=>whnf
 repeat (refine Br.f ?_;conv=>whnf)
 refine Ca.of (jF s hs w) ?_;rintro _ _ ⟨rfl,rfl⟩;conv=>whnf
 repeat ((first|(refine Ld.of c1 ?_)|refine Br.f ?_);conv=>whnf)
 refine Ca.of (yc h hs h0) ?_;intro u w1 hu;conv=>whnf
 refine Ca.of (Al.of (t1:=[]) r h eC nM T H gX hu) ?_;rintro v w2 ⟨-,hv⟩;conv=>whnf
 exact⟨rfl,hv⟩
def Bn(own:List Nat)(d ch:Nat)(K':KS)(P':CS)(b:Option Nat)(tr:List CS)(f:Nat->Nat)(w:World)(v:Value)(w':World):Prop :=
 Al own d ch K' P' b tr w w' (∃Y e,v=.tuple #[.slice Y 160 e,al 0]/\Ly w' 5 1 Y 160 e (fun j=>.int .u8 (f j:Nat))/\∀x,x∈aK Y->w.heap.size<=x) (v=.tuple #[.slice none 0 0,al 7])
theorem Ae.lJ{own:List Nat}(D:Ae w own d ch K P b):∀x,x∈own->x<w.heap.size:=by
 obtain⟨N,X,c,n,rfl,r,h,eC,nM⟩:=D;intro x hx;rcases List.mem_cons.1 hx with rfl|hx
 ·exact Row.lt r
 ·rcases List.mem_append.1 hx with hx|hx
  ·rcases List.mem_append.1 hx with hx|hx
   ·exact h.core.lt (List.mem_append_left _ hx)
   ·exact h.gn _ hx
  ·exact h.core.lt (List.mem_append_right _ hx)
theorem afW{own:List Nat}(D:Ae w own d ch K P b){s:Nat}(hs:s<24)(h0:K.at_ s=0)(T:A9 K P){K':KS}{P':CS}{t2:List CS}(H:Aw K P K' P' t2)(gX:K'.qu=[]) :
  Spec Tryz.prog 22 #[.pointer (some ⟨d,0,none⟩),.int .i64 s] w fun v w'=>Bn own d ch K' P' b t2 (fun _=>0) w v w':=by
 have av:=D.lJ;obtain⟨N,X,c,n,rfl,r,h,eC,nM⟩:=D;have c1:w.cell? ⟨d,1,none⟩=some (.pointer (some ⟨N.k,0,none⟩)):=Row.cell r 1 (by omega);refine spec_of_wpE (T:=tt) ai func22 rfl (by decide +kernel) ntmps22 (by simp) ?_;conv=>whnf
 repeat ((first|(refine Ld.of c1 ?_)|refine CW.s ?_);conv=>whnf)
 refine Ru.of (dD w _ _) ?_;conv=>whnf
 repeat (refine Br.f ?_;conv=>whnf)
 refine Ca.of (jF s hs w) ?_;rintro _ _ ⟨rfl,rfl⟩;conv=>whnf
 repeat ((first|(refine Ld.of c1 ?_)|refine Br.f ?_);conv=>whnf)
 refine Ca.of (qT h hs h0) ?_;rintro _ w1 ⟨Y,e,rfl,hY,k1⟩;conv=>whnf
 repeat (refine CW.s ?_;conv=>whnf)
 refine Ca.of (Al.of (t1:=[]) r h eC nM T H gX (e:=al 0) (w1:=w1) ⟨Aa.eh k1,Af.nil ⟨rfl,n,h.aj k1⟩⟩) ?_;rintro v w2 ⟨so,k2,sQ⟩;have hY2:Ly w2 5 1 Y 160 e (fun _=>.int .u8 ((0:Nat):Int)):=hY.ly.ab so (fun x hx hm=>by
  have:=hY.new x hx;have:=av x hm;omega)
 rcases sQ with⟨f2,rfl,h2⟩|⟨y,hy,jq,rfl,h2⟩
 ·conv=>whnf
  repeat ((first|refine Br.f ?_|refine Ru.ak ?_);conv=>whnf)
  exact⟨rfl,k2,.inl ⟨f2,⟨Y,e,rfl,hY2,hY.new⟩,h2⟩⟩
 ·conv=>whnf
  repeat ((first|refine Br.t ?_|refine Ru.n1 ?_);conv=>whnf)
  exact⟨rfl,k2,.inr ⟨y,hy,jq,rfl,h2⟩⟩
theorem aja{own:List Nat}(D:Ae w own d ch K P b){s:Nat}(hs:s<24)(B:Hl.HB K.F)(h0:K.at_ s≠0)(h96:K.at_ s<=96)(hl:K.ow (K.at_ s-1)<=25){t:Tg}{F:Nat->Nat}(hp:P.pg (K.at_ s-1)=.full t F)(wF:t.of=s)(hen:K.en s=⟨t.seq,t.copy,false⟩)(hdm:P.dm (K.at_ s-1)<2)
  (T:A9 (pT K (K.at_ s-1)) (P.bC (K.at_ s-1))) {K':KS} {P':CS} {t2:List CS} (H:Aw (pT K (K.at_ s-1)) (P.bC (K.at_ s-1)) K' P' t2) (gX:K'.qu=[]) :
  Spec Tryz.prog 22 #[.pointer (some ⟨d,0,none⟩),.int .i64 s] w fun v w'=>Bn own d ch K' P' b t2 F w v w':=by
 have av:=D.lJ;obtain⟨N,X,c,n,rfl,r,h,eC,nM⟩:=D;have c1:w.cell? ⟨d,1,none⟩=some (.pointer (some ⟨N.k,0,none⟩)):=Row.cell r 1 (by omega);refine spec_of_wpE (T:=tt) ai func22 rfl (by decide +kernel) ntmps22 (by simp) ?_;conv=>whnf
 repeat ((first|(refine Ld.of c1 ?_)|refine CW.s ?_);conv=>whnf)
 refine Ru.of (dD w _ _) ?_;conv=>whnf
 repeat (refine Br.f ?_;conv=>whnf)
 refine Ca.of (jF s hs w) ?_;rintro _ _ ⟨rfl,rfl⟩;conv=>whnf
 repeat ((first|(refine Ld.of c1 ?_)|refine Br.f ?_);conv=>whnf)
 refine Ca.of (alq h B hs h0 h96 hl hp wF hen hdm) ?_;rintro _ w1 ⟨Y,e,rfl,hY,h1,k1⟩;conv=>whnf
 repeat (refine CW.s ?_;conv=>whnf)
 refine Ca.of (Al.of (t1:=[]) r h eC (K1:=pT K (K.at_ s-1)) nM T H gX (e:=al 0) (w1:=w1) ⟨k1,Af.nil ⟨rfl,_,h1⟩⟩) ?_;rintro v w2 ⟨so,k2,sQ⟩;have hY2:Ly w2 5 1 Y 160 e (fun j=>.int .u8 (F j:Nat)):=hY.ly.ab so (fun x hx hm=>by
  have:=hY.new x hx;have:=av x hm;omega)
 rcases sQ with⟨f2,rfl,h2⟩|⟨y,hy,jq,rfl,h2⟩
 ·conv=>whnf
  repeat ((first|refine Br.f ?_|refine Ru.ak ?_);conv=>whnf)
  exact⟨rfl,k2,.inl ⟨f2,⟨Y,e,rfl,hY2,hY.new⟩,h2⟩⟩
 ·conv=>whnf
  repeat ((first|refine Br.t ?_|refine Ru.n1 ?_);conv=>whnf)
  exact⟨rfl,k2,.inr ⟨y,hy,jq,rfl,h2⟩⟩
end
def CM(d ch:Nat)(K':KS)(P':CS)(b:Option Nat)(tr:List CS)(w:World)(v:Value)(w':World):Prop :=
 Aa [d,ch] w w'/\Af b tr (fun b'=>v=al 0/\∃dW,Ae w' dW d ch K' P' b'/\∀x,x∈dW->x=d\/x=ch\/w.heap.size<=x) (fun Q=>v=al 7/\A0 w' d ch Q)
theorem afX{w:World}{d ch:Nat}{C:Chip}{P:CS}{b:Option Nat}(r:Ak w d ch none)(H:Ab w ch C)(hA:Abs C P)(hl:C.left b)(hc:P.calm){K':KS}{P':CS}{tr:List CS}(M:AJ P K' P' tr)(hq:K'.qu=[]) :
  Spec Tryz.prog 32 #[.pointer (some ⟨d,0,none⟩)] w (CM d ch K' P' b tr w):=by
 have c0:w.cell? ⟨d,0,none⟩=some (.pointer (some ⟨ch,0,none⟩)):=Row.cell r 0 (by omega);have c1:w.cell? ⟨d,1,none⟩=some (.pointer none):=Row.cell r 1 (by omega);have hdc:d≠ch:=Row.ed r H (by decide);have hdl:d<w.heap.size:=Row.lt r;refine spec_of_wpE (T:=tt) ai func32 rfl (by decide +kernel) ntmps32 (by simp) ?_;conv=>whnf
 repeat ((first|(refine Ld.of c1 ?_)|refine CW.s ?_);conv=>whnf)
 refine Ru.of (afR w _) ?_;conv=>whnf
 repeat ((first|(refine Ld.of c0 ?_)|refine Br.f ?_);conv=>whnf)
 refine Ca.of (ai6 H hA hl hc M) ?_;rintro _ w1 ⟨k1,hr1⟩;have r1:Ak w1 d ch none:=Row.ab r k1 (by simpa using hdc);have kk:Aa [d,ch] w w1:=k1.mono (by simp);rcases hr1 with⟨f1,N,n1,rfl,eC,h1,cq⟩|⟨y,hy,jq,rfl,C1,H1,D1⟩
 ·conv=>whnf
  repeat ((first|refine Br.f ?_|refine Ru.ak ?_|refine CW.s ?_);conv=>whnf)
  refine Sd.rowAt r1 1 (by omega) (by omega) rfl ?_;intro w2 r2 k2;have r2:Ak w2 d ch (some ⟨N.k,0,none⟩):=r2.congr (fun j hj=>s6 ch _ _ j hj);have h2:=h1.iz r1 (by decide) k2;conv=>whnf
  refine⟨rfl,kk.trans (k2.mono (by simp)),.inl ⟨f1,rfl,_,⟨N,none,0,n1,rfl,r2,h2,eC,hq⟩,fun x hx=>?_⟩⟩;rcases List.mem_cons.1 hx with rfl|hx
  ·exact .inl rfl
  ·rcases List.mem_append.1 hx with hx|hx
   ·exact .inr (cq x hx)
   ·cases hx
 ·conv=>whnf
  repeat ((first|refine Br.t ?_|refine Ru.n1 ?_|refine CW.s ?_);conv=>whnf)
  exact⟨rfl,kk,.inr ⟨y,hy,jq,rfl,r1,C1,H1,D1⟩⟩
theorem Inv.tdh{K:KS}{P:CS}{k:Cp}{m:Int}(I:Inv K P k m):A9 K P:=⟨I.zO.1,I.zO.2.1,I.zO.2.2.1,I.zO.2.2.2⟩
inductive Act (K:KS) (P:CS):KS->CS->Prop
 |idle:Act K P K P
 |read {o:Nat}:o<25->K.at_ o≠0->Act K P (pT K (K.at_ o-1)) (P.bC (K.at_ o-1))
 |put {s:Nat} {f:Nat->Nat} {K1:KS} {P1:CS} {t1:List CS}:s<24->AQ s (dO f) K P K1 P1 t1->Act K P (cB K1 s) (jw K1 P1 s (dO f))
 |trim {s:Nat} {q:Int} {K1:KS} {P1:CS} {t1:List CS}:s<24->AQ 24 (dy s q) K P K1 P1 t1->Act K P (zL (sY (cB K1 24) s q) s) (jw K1 P1 24 (dy s q))
inductive Ds (K:KS) (P:CS) (K':KS) (P':CS):Prop
 |mk {k k1:Cp} {m:Int} {K1:KS} {P1:CS} {tr:List CS}:Inv K P k m->m+1<1099511627775->Act K P K1 P1->Inv K1 P1 k1 (m+1)->Aw K1 P1 K' P' tr->Ds K P K' P'
structure A1(K:KS)(P:CS)(m:Int)(a a':Nat->Nat->Nat)(K':KS)(P':CS)(k':Cp)(t1 t2:List CS):Prop where
 inv:Inv K' P' k' (m+2)
 qu:K'.qu=[]
 next:K.next<=K'.next
 t1:∀T,T∈t1->Tl T (m+2) a
 t2:∀T,T∈t2->Tl T (m+2) a'
 sh:Ac P' K'.at_ a'
 st:0<=K.calls->K.calls<8->(0<=K'.calls/\K'.calls<8/\Hl.lz K'.F=false)/\∀J,Be J->∀n,J n K P->J (n+130) K' P'
 did:Ds K P K' P'
theorem afY{K:KS}{P:CS}{k:Cp}{m:Int}(I:Inv K P k m)(hq:K.qu=[])(hm:m+1<1099511627775){s:Nat}(hs:s<24){f:Nat->Nat}(hf:∀j,f j<256):∃K' P' k' t1 t2,(∀a,Ac P K.at_ a->A1 K P m a (gV a s f) K' P' k' t1 t2) /\
  ∀ {w:World} {own:List Nat} {d ch:Nat} {b:Option Nat} {A:Option Addr} {e:Nat},Ae w own d ch K P b->AI w A 160 f->160<=e->Spec Tryz.prog 45 #[.pointer (some ⟨d,0,none⟩),.int .i64 s,.slice A 160 e] w fun v w'=>Al own d ch K' P' b (t1++t2) w w' (v=al 0) (v=al 7):=by
 obtain⟨K1,P1,t1,L,I1,q1,s1,n1,_,c1,z1⟩:=alv I (by omega) hs hf;obtain⟨K',P',t2,k',T2,I2,q2,n2,z2,s2⟩:=u7 I1 hm;refine⟨K',P',k',zH K1 P1 t1,t2,fun a lG=>?_,fun D hA he=>afU D hs hA he L (q1.trans hq) I1.tdh T2 q2⟩;obtain⟨b1,b2⟩:=s1 a lG;obtain⟨d1,d2⟩:=s2 _ b2;exact⟨I2.mono (by omega),q2,by omega,fun T hT=>(b1 T hT).tl (by omega),fun T hT=>(d1 T hT).mono (by omega),d2,fun h0 h8=>⟨(z2 (by rw[c1];omega) (by rw[c1];omega)).1,fun J S n j=>S.mono (by omega) ((z2 (by rw[c1];omega) (by rw[c1];omega)).2 J S (n+9) (z1 J S n j))⟩,.mk I hm (.put hs L) I1 T2⟩
theorem ajb{K:KS}{P:CS}{k:Cp}{m:Int}(I:Inv K P k m)(hq:K.qu=[])(hm:m+1<1099511627775){s:Nat}(hs:s<24):∃K' P' k' t1 t2,(∀a,Ac P K.at_ a->A1 K P m a (gV a s (fun _=>0)) K' P' k' t1 t2) /\
  ∀ {w:World} {own:List Nat} {d ch:Nat} {b:Option Nat},Ae w own d ch K P b->Spec Tryz.prog 17 #[.pointer (some ⟨d,0,none⟩),.int .i64 s] w fun v w'=>Al own d ch K' P' b (t1++t2) w w' (v=al 0) (v=al 7):=by
 by_cases h0:K.at_ s=0
 ·obtain⟨K',P',t2,k',T2,I2,q2,n2,z2,s2⟩:=u7 I (by omega);refine⟨K',P',k',[],t2,fun a lG=>?_,fun D=>afV D hs h0 I.tdh T2 q2⟩;have arf:Ac P K.at_ (gV a s (fun _=>0)):=fun o j ho hj=>by
   unfold gV;by_cases jm:o=s
   ·rw[if_pos jm,jm];unfold arr;rw[if_pos h0]
   ·rw[if_neg jm];exact lG o j ho hj
  obtain⟨d1,d2⟩:=s2 _ arf;exact⟨I2.mono (by omega),q2,n2,(fun _ h=>nomatch h),fun T hT=>(d1 T hT).mono (by omega),d2,fun h0 h8=>⟨(z2 h0 h8).1,fun J S n j=>S.mono (by omega) ((z2 h0 h8).2 J S n j)⟩,.mk I hm .idle (I.mono (by omega)) T2⟩
 ·obtain⟨K1,P1,t1,k1,L,w1,h1,h2,I1,q1,s1,n1,_,c1,z1⟩:=aiQ I (by omega) hs h0;obtain⟨K',P',t2,k',T2,I2,q2,n2,z2,s2⟩:=u7 I1 hm;refine⟨K',P',k',zH K1 P1 t1,t2,fun a lG=>?_,fun D=>ai9 D hs h0 (I.l.ok.cG.lt (by omega)) L w1 h1 h2 (q1.trans hq) I1.tdh T2 q2⟩;obtain⟨b1,b2⟩:=s1 a lG;obtain⟨d1,d2⟩:=s2 _ b2;exact⟨I2.mono (by omega),q2,by omega,fun T hT=>(b1 T hT).tl (by omega),fun T hT=>(d1 T hT).mono (by omega),d2,fun h0 h8=>⟨(z2 (by rw[c1];omega) (by rw[c1];omega)).1,fun J S n j=>S.mono (by omega) ((z2 (by rw[c1];omega) (by rw[c1];omega)).2 J S (n+9) (z1 J S n j))⟩,.mk I hm (.trim hs L) I1 T2⟩
theorem ajc{K:KS}{P:CS}{k:Cp}{m:Int}(I:Inv K P k m)(hq:K.qu=[])(hm:m+1<1099511627775){s:Nat}(hs:s<24):∃K' P' k' t2 F,(∀a,Ac P K.at_ a->A1 K P m a a K' P' k' [] t2/\∀j,j<160->F j=a s j) /\
  ∀ {w:World} {own:List Nat} {d ch:Nat} {b:Option Nat},Ae w own d ch K P b->Spec Tryz.prog 22 #[.pointer (some ⟨d,0,none⟩),.int .i64 s] w fun v w'=>Bn own d ch K' P' b t2 F w v w':=by
 by_cases h0:K.at_ s=0
 ·obtain⟨K',P',t2,k',T2,I2,q2,n2,z2,s2⟩:=u7 I (by omega);refine⟨K',P',k',t2,fun _=>0,fun a lG=>⟨?_,fun j hj=>?_⟩,fun D=>afW D hs h0 I.tdh T2 q2⟩
  ·obtain⟨d1,d2⟩:=s2 _ lG;exact⟨I2.mono (by omega),q2,n2,(fun _ h=>nomatch h),fun T hT=>(d1 T hT).mono (by omega),d2,fun h0 h8=>⟨(z2 h0 h8).1,fun J S n j=>S.mono (by omega) ((z2 h0 h8).2 J S n j)⟩,.mk I hm .idle (I.mono (by omega)) T2⟩
  ·have:=lG s j hs hj;unfold arr at this;rw[if_pos h0] at this;exact this
 ·obtain⟨hp,t,D,a2,a3,a4,a5,a6,a7,a8⟩:=I.l.cI (o:=s) (by omega) h0;have I1:=I.read hp;obtain⟨K',P',t2,k',T2,I2,q2,n2,z2,s2⟩:=u7 I1 (by omega);refine⟨K',P',k',t2,D,fun a lG=>⟨?_,fun j hj=>?_⟩,fun Dv=>aja Dv hs I.h.hb h0 (I.l.ok.cG.lt (by omega)) (I.l.eZ.mw.lo _ hp) a2 a4 a3 (by rw[I.l.ok.gd.calm.d];omega) I1.tdh T2 q2⟩
  ·obtain⟨d1,d2⟩:=s2 a (Ac.same (P':=P.bC (K.at_ s-1)) lG (fun o _ _=>rfl));exact⟨I2.mono (by omega),q2,n2,(fun _ h=>nomatch h),fun T hT=>(d1 T hT).mono (by omega),d2,fun h0 h8=>⟨(z2 h0 h8).1,fun J S n j=>S.mono (by omega) ((z2 h0 h8).2 J S (n+1) (S.rd hp j))⟩,.mk I hm (.read (by omega) h0) (I1.mono (by omega)) T2⟩
  ·have:=lG s j hs hj;unfold arr aS at this;rw[if_neg h0,a2] at this;exact this
theorem vu{t:Tg}{p:Nat}(h:t.ok)(hp:p<96):(iD p t).sound=true:=by
 unfold Fd.sound iD;unfold Tg.ok at h;refine decide_eq_true ?_;simp only;omega
theorem kI(p:Nat)(t:Tg):(iD p t).place=(p:Nat):=rfl
def vv(P:CS)(p:Nat):List Fd:=match P.pg p with
 |.full t D=>[iD p t]
 |_=>[]
theorem eG(P:CS)(p:Nat):an P (p+1)=an P p++vv P p:=by
 unfold vv
 cases e:P.pg p with
 |full t D=>exact oX e
 |blank=>rw[kG (fun t D h=>by rw[e] at h;cases h),List.append_nil]
 |ct n=>rw[kG (fun t D h=>by rw[e] at h;cases h),List.append_nil]
theorem ji{P:CS}{p:Nat}{t:Tg}{D:Nat->Nat}(h:P.pg p=.full t D):vv P p=[iD p t]:=by
 unfold vv;rw[h]
theorem alz{P:CS}{p:Nat}{f:Fd}(h:f∈vv P p):∃t D,P.pg p=.full t D/\f=iD p t:=by
 unfold vv at h
 cases e:P.pg p with
 | full t D =>
  rw[e] at h;exact⟨t,D,rfl,List.mem_singleton.1 h⟩
 |blank=>rw[e] at h;cases h
 |ct n=>rw[e] at h;cases h
theorem iM{P:CS}:∀ {n:Nat} {f:Fd},f∈an P n->∃p t D,p<n/\P.pg p=.full t D/\f=iD p t
 |0,f,h=>by rw[eF] at h;cases h
 | n+1,f,h=>by
  rw[eG] at h;rcases List.mem_append.1 h with h|h
  ·obtain⟨p,t,D,a,b⟩:=iM h;exact⟨p,t,D,by omega,b⟩
  ·obtain⟨t,D,a,b⟩:=alz h;exact⟨n,t,D,by omega,a,b⟩
theorem adl(L M:List Fd)(p:Nat):mJ (L++M) p=mJ L p++mJ M p:=by
 unfold mJ;rw[List.filter_append]
theorem alA{P:CS}(hv:P.val){n p:Nat}(hn:n<96):mJ (vv P n) p=if n=p then vv P n else []:=by
 unfold vv
 cases e:P.pg n with
 | full t D =>
  have hs:=vu (hv n t D hn e).1 hn;unfold mJ;by_cases h:n=p
  ·subst h;simp[hs,kI]
  ·have:((n:Int) == (p:Int))=false:=by
    simp;omega
   simp[hs,kI,h,this]
 |blank=>simp[mJ]
 |ct k=>simp[mJ]
theorem aez{P:CS}(hv:P.val){p:Nat}:∀ {n:Nat},n<=96->mJ (an P n) p=if p<n then vv P p else []
 |0,_=>by rw[eF];rfl
 | n+1,hn=>by
  rw[eG,adl,aez hv (n:=n) (by omega),alA hv (by omega)];by_cases h:p<n
  ·rw[if_pos h,if_neg (show ¬n=p by omega),if_pos (show p<n+1 by omega),List.append_nil]
  ·rw[if_neg h];by_cases h2:n=p
   ·subst h2;rw[if_pos rfl,if_pos (show n<n+1 by omega),List.nil_append]
   ·rw[if_neg h2,if_neg (show ¬p<n+1 by omega),List.nil_append]
theorem nP{P:CS}(hv:P.val):∀ {k:Nat},k<=96->mK (an P 96) k=an P k
 |0,_=>by rw[eF];rfl
 | k+1,hk=>by
  have ih:=nP hv (k:=k) (by omega);unfold mK at ih ⊢;rw[List.range_succ,List.flatMap_append,ih,eG P k,List.flatMap_singleton,aez hv (by omega),if_pos (by omega)]
theorem rY(L M:List Fd)(of above:Int):az (L++M) of above=M.foldl (gF of above) (az L of above):=by
 unfold az;rw[List.foldl_append]
theorem yl{a b:Int}(ha:0<=a/\a<=255)(hb:b=(a+1)%256):ahead a b=true/\ahead b a=false:=by
 unfold ahead;constructor
 ·exact decide_eq_true (by omega)
 ·exact decide_eq_false (by omega)
theorem oY{P:CS}(hv:P.val){o:Nat}{fl:Int}{p:Nat}(h:CQ P o fl p){t:Tg}{D:Nat->Nat}(hp:P.pg p=.full t D):∀n,n<=96 ->
  (p<n->az (an P n) o fl=(iD p t,true))/\(n<=p->(az (an P n) o fl).2=false\/((az (an P n) o fl).1.seq<t.seq\/(az (an P n) o fl).1.seq=t.seq/\(az (an P n) o fl).1.copy=(t.copy+1)%256))
 |0,_=>⟨fun h=>by omega,fun _=>.inl (by rw[eF];rfl)⟩
 | n+1,hn=>by
  obtain⟨mb,t',D',e1,e2,e3,e4⟩:=h;rw[hp] at e1
  cases e1
  obtain⟨zp,ph⟩:=oY hv ⟨mb,t,D,hp,e2,e3,e4⟩ hp n (by omega);have arh:=(hv p t D mb hp).1;unfold Tg.ok at arh;rw[eG,rY];by_cases hnp:n=p
  ·subst hnp;rw[ji hp];refine⟨fun _=>?_,fun h=>by omega⟩;rw[List.foldl_cons,List.foldl_nil];rcases ph (Nat.le_refl _) with h|h
   ·generalize az (an P n) o fl=s at *;obtain⟨b,has⟩:=s;exact lr e2 e3 (.inl h)
   ·generalize az (an P n) o fl=s at *;obtain⟨b,has⟩:=s;refine lr e2 e3 ?_;rcases h with h|⟨h1,h2⟩
    ·exact .inr (.inl h)
    ·exact .inr (.inr ⟨h1.symm,(yl (by omega) h2).1⟩)
  ·cases hq:P.pg n with
   | blank =>
    have:vv P n=[]:=by unfold vv;rw[hq]
    rw[this,List.foldl_nil];exact⟨fun h=>zp (by omega),fun h=>ph (by omega)⟩
   | ct k =>
    have:vv P n=[]:=by unfold vv;rw[hq]
    rw[this,List.foldl_nil];exact⟨fun h=>zp (by omega),fun h=>ph (by omega)⟩
   | full t1 D1 =>
    rw[ji hq,List.foldl_cons,List.foldl_nil];have hle:=fun h=>e4 n t1 D1 (by omega) hnp hq h;have ht1:=(hv n t1 D1 (by omega) hq).1;unfold Tg.ok at ht1;constructor
    ·intro h;rw[zp (by omega)];refine lu ?_;by_cases ho:t1.of=o
     ·rcases hle ho with h1|⟨h1,h2⟩
      ·exact .inr (.inr ⟨rfl,by show t1.seq<=t.seq;omega,.inl (by show t1.seq≠t.seq;omega)⟩)
      ·exact .inr (.inr ⟨rfl,by show t1.seq<=t.seq;omega,.inr (yl (by omega) h2).2⟩)
     ·exact .inl ho
    ·intro h;have ph:=ph (by omega);generalize az (an P n) o fl=s at *;obtain⟨b,has⟩:=s;unfold gF;by_cases hsk:(iD n t1).of≠(o:Int)\/(iD n t1).seq<=fl
     ·rw[if_pos hsk];exact ph
     ·rw[if_neg hsk];have ho:t1.of=o:=by
       by_cases h:t1.of=o
       ·exact h
       ·exact absurd (.inl h) hsk
      split
      ·exact .inr (hle ho)
      ·exact ph
theorem ym{P:CS}{o:Nat}{fl:Int}(h:BC P o fl):∀n,n<=96->az (an P n) o fl=(Fd.zero,false)
 |0,_=>by rw[eF];rfl
 | n+1,hn=>by
  rw[eG,rY,ym h n (by omega)]
  cases hq:P.pg n with
  | blank =>
   have:vv P n=[]:=by unfold vv;rw[hq]
   rw[this,List.foldl_nil]
  | ct k =>
   have:vv P n=[]:=by unfold vv;rw[hq]
   rw[this,List.foldl_nil]
  | full t1 D1 =>
   rw[ji hq,List.foldl_cons,List.foldl_nil];refine lu ?_;by_cases ho:t1.of=o
   ·exact .inr (.inl (h n t1 D1 (by omega) hq ho))
   ·exact .inl ho
theorem ajd{P:CS}{k:Cp}(hb:∀b,b<12->k.bad b=false):cK (an P 96) k=an P 96:=by
 unfold cK;refine List.filter_eq_self.2 (fun f hf=>?_);obtain⟨p,t,D,a,b,rfl⟩:=iM hf;unfold okB;rw[show((iD p t).place/8).toNat=p/8 by rw[kI];omega,hb (p/8) (by omega)];rfl
theorem rZ(k:Cp){o:Nat}(ho:o<25):lB k o=floor k o:=by
 unfold lB floor;by_cases h:o=24
 ·subst h;rfl
 ·rw[if_pos (by omega),if_neg h]
theorem abH{P:CS}{k:Cp}{L:Nat->Nat}{m:Int}(h:Ao P k L m){o:Nat}(ho:o<25):bp (an P 96) k o=if L o=0 then -1 else ((L o-1:Nat):Int):=by
 unfold bp;rw[nP h.gd.val (Nat.le_refl _),ajd h.cG.bad,rZ k ho];by_cases e:L o=0
 ·rw[if_pos e,ym (h.cG.no o ho e) 96 (Nat.le_refl _)];rfl
 ·rw[if_neg e];have hc:=h.cG.yes o ho e;obtain⟨hp,t,D,e1,_⟩:=hc;rw[(oY h.gd.val (h.cG.yes o ho e) e1 96 (Nat.le_refl _)).1 hp];rfl
theorem qd{P:CS}{k:Cp}{L:Nat->Nat}{m:Int}(h:Ao P k L m):∃t D,P.pg (L 24-1)=.full t D/\t.of=24/\L 24-1<96/\az (mK (an P 96) 96) 24 (-1)=(iD (L 24-1) t,true):=by
 have hc:=h.cG.yes 24 (by omega) h.cG.pt;obtain⟨hp,t,D,e1,e2,_⟩:=hc;rw[nP h.gd.val (Nat.le_refl _)];exact⟨t,D,e1,e2,hp,(oY h.gd.val (h.cG.yes 24 (by omega) h.cG.pt) e1 96 (Nat.le_refl _)).1 hp⟩
theorem zP{P:CS}{o p:Nat}{t:Tg}{D:Nat->Nat}(hp:P.pg p=.full t D)(wF:t.of=o)(hs:0<=t.seq):∀n,(n<=p->ky (an P n) o p=En.zero)/\(p<n->ky (an P n) o p=⟨t.seq,t.copy,t.lost⟩)
 |0=>⟨fun _=>by rw[eF];rfl,fun h=>by omega⟩
 | n+1=>by
  obtain⟨zp,ph⟩:=zP hp wF hs n;rw[eG];by_cases hn:n=p
  ·subst hn;rw[ji hp,qZ,zp (Nat.le_refl _)];refine⟨fun h=>by omega,fun _=>if_pos ⟨rfl,wF,hs⟩⟩
  ·have bq:ky (an P n++vv P n) o p=ky (an P n) o p:=by
    cases hq:P.pg n with
    | blank =>
     have:vv P n=[]:=by unfold vv;rw[hq]
     rw[this,List.append_nil]
    | ct k =>
     have:vv P n=[]:=by unfold vv;rw[hq]
     rw[this,List.append_nil]
    | full t1 D1 =>
     rw[ji hq,qZ];exact if_neg (fun h=>hn (by have:=h.1;rw[kI] at this;omega))
   rw[bq];exact⟨fun h=>zp (by omega),fun h=>ph (by omega)⟩
theorem vw(c:Cp)(t:Int):∀n,t<=dY c t n/\∀j,j<n->c.fl j<=dY c t n
 |0=>⟨Int.le_refl _,fun j h=>by omega⟩
 | n+1=>by
  obtain⟨h1,h2⟩:=vw c t n;unfold dY;refine⟨by omega,fun j hj=>?_⟩;by_cases h:j=n
  ·subst h;omega
  ·have:=h2 j (by omega);omega
theorem vz{c:Cp}{t x:Int}(ht:t<x):∀ {n},(∀j,j<n->c.fl j<x)->dY c t n<x
 |0,_=>ht
 | n+1,h=>by
  have h1:=vz ht (n:=n) (fun j hj=>h j (by omega));have h2:=h n (by omega);unfold dY;omega
theorem yn(t:Int)(L:List Fd):t<=eB L t/\∀f,f∈L->f.sound=true->f.seq<=eB L t:=by
 induction L using eA with
 |h0=>exact⟨Int.le_refl _,(fun _ h=>nomatch h)⟩
 | h1 L f ih =>
  rw[jv];unfold ns;constructor
  ·split<;>omega
  ·intro g hg hs;rcases List.mem_append.1 hg with hg|hg
   ·have:=ih.2 g hg hs;split<;>omega
   ·rw[List.mem_singleton.1 hg] at hs ⊢;rw[if_pos hs];omega
theorem yo{t x:Int}(ht:t<x)(L:List Fd)(h:∀f,f∈L->f.seq<x):eB L t<x:=by
 induction L using eA with
 |h0=>exact ht
 | h1 L f ih =>
  rw[jv];have h1:=ih (fun g hg=>h g (List.mem_append_left _ hg));have h2:=h f (List.mem_append_right _ (List.mem_singleton.2 rfl));unfold ns;split<;>omega
theorem aje{P:CS}{k:Cp}{L:Nat->Nat}{m:Int}(h:Ao P k L m)(hm:m<=1099511627775):(∀p t D,p<96->P.pg p=.full t D->t.seq<dG (an P 96) k)/\1<=dG (an P 96) k/\dG (an P 96) k<=m/\∀o,o<24->k.fl o<dG (an P 96) k:=by
 have h0:=h.cG.told.next;have sr:=h.fl;have t1:dY k (max k.next 0-1) 24<m:=vz (by omega) (fun j hj=>sr.2 j hj);have t2:mM (an P 96) k<m:=yo t1 _ (fun f hf=>by
  obtain⟨p,t,D,a,b,rfl⟩:=iM hf;exact h.sq p t D a b)
 obtain⟨g1,g2⟩:=yn (dY k (max k.next 0-1) 24) (an P 96);obtain⟨g3,g4⟩:=vw k (max k.next 0-1) 24;have e:dG (an P 96) k=mM (an P 96) k+1:=by
  unfold dG;omega
 have mE:∀p t D,p<96->P.pg p=.full t D->t.seq<dG (an P 96) k:=fun p t D hp bA=>by
  have wC:∀n,p<n->n<=96->iD p t∈an P n:=fun n=>by
   induction n with
   |zero=>exact fun h=>by omega
   | succ n ih =>
    intro h1 h2;rw[eG];by_cases h3:p=n
    ·subst h3;rw[ji bA];exact List.mem_append_right _ (List.mem_singleton.2 rfl)
    ·exact List.mem_append_left _ (ih (by omega) (by omega))
  have:=g2 _ (wC 96 hp (Nat.le_refl _)) (vu (h.gd.val p t D hp bA).1 hp);have h9:t.seq<=mM (an P 96) k:=this;omega
 refine⟨mE,?_,by omega,fun o ho=>?_⟩
 ·obtain⟨t,D,a,b,c,_⟩:=qd h;have:=mE _ t D c a;have h7:=(h.gd.val _ t D c a).1;unfold Tg.ok at h7;omega
 ·have:=g4 o ho;have h9:dY k (max k.next 0-1) 24<=mM (an P 96) k:=g1;omega
end
section
open Go.RowKit
theorem zQ{P:CS}{k:Cp}{L:Nat->Nat}{m:Int}(h:Ao P k L m):∀i,i<=25 ->
  AM (cu k (an P 96) i).at_ (cu k (an P 96) i).ow/\(∀o,o<25->(cu k (an P 96) i).at_ o=if o<i then L o else 0) /\
  (∀o,o<i->L o≠0->∃t D,P.pg (L o-1)=.full t D/\(cu k (an P 96) i).en o=⟨t.seq,t.copy,false⟩)/\∃A O E,cu k (an P 96) i={ n0K k (an P 96) with at_:=A,ow:=O,en:=E }
 | 0,_=>by
  rw[kE];exact⟨⟨fun p hp e=>absurd rfl e,fun o ho e=>absurd rfl e⟩,fun o ho=>rfl,fun o ho=>by omega,_,_,_,rfl⟩
 | i+1,hi=>by
  obtain⟨h1,h2,h3,A,O,E,h4⟩:=zQ h i (by omega);have hl:=abH h (o:=i) (by omega);rw[kF];by_cases e:L i=0
  ·rw[if_pos e] at hl;rw[if_pos (by rw[hl];decide)];refine⟨h1,fun o ho=>?_,fun o ho e'=>?_,A,O,E,h4⟩
   ·rw[h2 o ho];by_cases ho2:o<i
    ·rw[if_pos ho2,if_pos (by omega)]
    ·rw[if_neg ho2];by_cases vA:o=i
     ·rw[if_pos (by omega),vA,e]
     ·rw[if_neg (by omega)]
   ·by_cases vA:o=i
    ·rw[vA] at e';exact absurd e e'
    ·exact h3 o (by omega) e'
  ·rw[if_neg e] at hl;rw[if_neg (by rw[hl];omega)];have ht:(bp (an P 96) k i).toNat=L i-1:=by rw[hl];rfl
   obtain⟨hp,t,D,e1,e2,_⟩:=h.cG.yes i (by omega) e;obtain⟨v1,v2,v3,v4,v5⟩:=h.gd.val _ t D hp e1;have zM:(cu k (an P 96) i).ow (L i-1)=0:=by
    by_cases hz:(cu k (an P 96) i).ow (L i-1)=0
    ·exact hz
    ·obtain⟨c1,c2⟩:=h1.o _ hp hz;have c3:=h2 ((cu k (an P 96) i).ow (L i-1)-1) (by omega);generalize (cu k (an P 96) i).ow (L i-1)-1=o' at *;by_cases ho:o'<i
     ·rw[if_pos ho] at c3;have hLo:L o'=L i:=by omega
      obtain⟨_,t2,D2,g1,g2,_⟩:=h.cG.yes o' (by omega) (by rw[hLo];exact e);rw[hLo,e1] at g1
      cases g1
      omega
     ·rw[if_neg ho] at c3;omega
   have hh:aR (L i-1) i=true:=by
    unfold aR;unfold Tg.ok at v1;by_cases hi4:i=24
    ·simp[hi4]
    ·have:=v1.2.2.2.2.2.2.2.2.2 (by omega);rw[v2] at this;simp;omega
   obtain⟨s1,s2⟩:=h1.set (o:=i) (by omega) hp zM hh;have hf:=(zP (o:=i) e1 e2 (by unfold Tg.ok at v1;omega) 96).2 hp;rw[ht,hl,hf];simp only[s2];rw[s2] at s1;refine⟨s1,fun o ho=>?_,fun o ho e'=>?_,_,_,_,by rw[h4]⟩
   ·unfold ah;by_cases vA:o=i
    ·rw[if_pos vA,if_pos (by omega),vA];omega
    ·rw[if_neg vA,h2 o ho];by_cases ho2:o<i
     ·rw[if_pos ho2,if_pos (by omega)]
     ·rw[if_neg ho2,if_neg (by omega)]
   ·unfold ah;by_cases vA:o=i
    ·rw[if_pos vA,vA];exact⟨t,D,e1,by rw[v3]⟩
    ·rw[if_neg vA];exact h3 o (by omega) e'
theorem anV{P:CS}{k:Cp}{L:Nat->Nat}{m:Int}(h:Ao P k L m):Bm k (an P 96):=by
 refine⟨h.cG.told,h.cG.bad,fun i hi=>(zQ h i hi).1.mw,fun i hi hl=>?_⟩;obtain⟨h1,h2,h3,A,O,E,h4⟩:=zQ h i (by omega);have sO:=abH h (o:=i) hi;by_cases e:L i=0
 ·rw[if_pos e] at sO;omega
 ·rw[if_neg e] at sO;obtain⟨hp,t,D,e1,e2,_⟩:=h.cG.yes i hi e;obtain⟨v1,v2,v3,v4,v5⟩:=h.gd.val _ t D hp e1;rw[sO];refine⟨by omega,?_⟩;rw[show((L i-1:Nat):Int).toNat=L i-1 by omega];have zM:(cu k (an P 96) i).ow (L i-1)=0:=by
   by_cases hz:(cu k (an P 96) i).ow (L i-1)=0
   ·exact hz
   ·obtain⟨c1,c2⟩:=h1.o _ hp hz;have c3:=h2 ((cu k (an P 96) i).ow (L i-1)-1) (by omega);generalize (cu k (an P 96) i).ow (L i-1)-1=o' at *;by_cases ho:o'<i
    ·rw[if_pos ho] at c3;have hLo:L o'=L i:=by omega
     obtain⟨_,t2,D2,g1,g2,_⟩:=h.cG.yes o' (by omega) (by rw[hLo];exact e);rw[hLo,e1] at g1
     cases g1
     omega
    ·rw[if_neg ho] at c3;omega
  have hh:aR (L i-1) i=true:=by
   unfold aR;unfold Tg.ok at v1;by_cases hi4:i=24
   ·simp[hi4]
   ·have:=v1.2.2.2.2.2.2.2.2.2 (by omega);rw[v2] at this;simp;omega
  unfold ie;rw[hh,zM];rfl
theorem vB{A B:Nat->Nat}{b:Nat}(h:∀o,o<25->A o=B o):lv A b=lv B b:=by
 have:∀n,n<=25->iX A n b=iX B n b:=fun n=>by
  induction n with
  |zero=>exact fun _=>rfl
  | succ n ih =>
   intro hn;unfold iX;rw[ih (by omega),h n (by omega)]
 exact this 25 (Nat.le_refl _)
theorem al8{K:KS}(h0:∀b,K.st b=0):∀n,n<=12->∀b,(n2K K n).st b=if b<n/\0<lv K.at_ b then 2 else 0
 | 0,_,b=>by
  rw[abA,h0,if_neg (by omega)]
 | n+1,hn,b=>by
  have ih:=al8 h0 n (by omega);rw[vd];by_cases hl:0<lv K.at_ n
  ·rw[if_pos hl];show aD (n2K K n).st n 2 b=_;unfold aD;rw[if_neg (fun x=>by have:=x.1;rw[ih n,if_neg (by omega)] at this;omega)];unfold ah;by_cases hb:b=n
   ·subst hb;rw[if_pos rfl,if_pos ⟨by omega,hl⟩]
   ·rw[if_neg hb,ih b];by_cases h2:b<n/\0<lv K.at_ b
    ·rw[if_pos h2,if_pos ⟨by omega,h2.2⟩]
    ·rw[if_neg h2,if_neg (fun x=>h2 ⟨by omega,x.2⟩)]
  ·rw[if_neg hl,ih b];by_cases h2:b<n/\0<lv K.at_ b
   ·rw[if_pos h2,if_pos ⟨by omega,h2.2⟩]
   ·rw[if_neg h2,if_neg (fun x=>h2 ⟨by
     by_cases hb:b=n
     ·rw[hb] at x;exact absurd x.2 hl
     ·omega,x.2⟩)]
theorem zR{F:Nat->Int}(h:∀b,b<12->F (12+b)=0):∀n,n<=12->∀b,b<12->wK F n (12+b)=0
 |0,_,b,hb=>h b hb
 | n+1,hn,b,hb=>by
  have ih:=zR h n (by omega);have:∀k,∀b,b<12->rdN (wK F n) n k (12+b)=0:=fun k=>by
   induction k with
   |zero=>exact ih
   |succ k ihk=>exact aes (by omega) ihk
  exact this 8 b hb
theorem vC(K:KS)(P:CS):∀n q,(kH K P n).pg q=if q/8<n/\K.st (q/8)=0 then .blank else P.pg q
 |0,q=>by rw[abF,if_neg (by omega)]
 | n+1,q=>by
  have ih:=vC K P n q;rw[vq];by_cases h:K.st n=0
  ·rw[if_pos h];show(if q/8=n then Pg.blank else (kH K P n).pg q)=_;by_cases hq:q/8=n
   ·rw[if_pos hq,if_pos ⟨by omega,by rw[hq];exact h⟩]
   ·rw[if_neg hq,ih];by_cases h2:q/8<n/\K.st (q/8)=0
    ·rw[if_pos h2,if_pos ⟨by omega,h2.2⟩]
    ·rw[if_neg h2,if_neg (fun x=>h2 ⟨by omega,x.2⟩)]
  ·rw[if_neg h,ih];by_cases h2:q/8<n/\K.st (q/8)=0
   ·rw[if_pos h2,if_pos ⟨by omega,h2.2⟩]
   ·rw[if_neg h2,if_neg (fun x=>h2 ⟨by
     by_cases hb:q/8=n
     ·rw[hb] at x;exact absurd x.2 h
     ·omega,x.2⟩)]
theorem zS{K:KS}{P:CS}:∀ {n:Nat} {T:CS},T∈vo K P n->∃j,j<=n/\T=kH K P j
 |0,T,h=>by rw[vt] at h;cases h
 | n+1,T,h=>by
  rw[qc] at h;split at h
  ·rcases List.mem_append.1 h with h|h
   ·obtain⟨j,a,b⟩:=zS h;exact⟨j,by omega,b⟩
   ·exact⟨n,by omega,List.mem_singleton.1 h⟩
  ·obtain⟨j,a,b⟩:=zS h;exact⟨j,by omega,b⟩
theorem aps{F:Nat->Int}(h:Hl.HB F)(v:Nat):Hl.HB (Hl.ux F v):=fun b hb=>by
 have h1:=h b hb;unfold Hl.ux Hl.nU;refine⟨?_,?_,?_⟩
 ·split
  ·omega
  ·split
   ·omega
   ·exact h1.1
 ·split
  ·omega
  ·split
   ·omega
   ·exact h1.2.1
 ·split
  ·omega
  ·split
   ·omega
   ·exact h1.2.2
theorem alB{F:Nat->Int}(h:∀b,b<12->F (12+b)=0){v:Nat}:∀b,b<12->Hl.ux F v (12+b)=0:=fun b hb=>by
 unfold Hl.ux Hl.nU;split
 ·rfl
 ·split
  ·rfl
  ·exact h b hb
theorem anW{K:KS}(h:Hl.HB K.F)(h0:∀b,b<12->K.F (12+b)=0):∀n,Hl.HB (mj K n).F/\∀b,b<12->(mj K n).F (12+b)=0
 |0=>by rw[abE];exact⟨h,h0⟩
 | n+1=>by
  obtain⟨a,b⟩:=anW h h0 n;rw[vp];split
  ·exact⟨aps a n,alB b⟩
  ·exact⟨a,b⟩
attribute [local irreducible] cu n2K wK kH mj vo jE an dG
theorem adn{P:CS}{k:Cp}{L:Nat->Nat}{m:Int}(h:Ao P k L m)(hm:m<=1099511627775):∃K' P' tr,AJ P K' P' tr/\Inv K' P' k m/\K'.qu=[]/\(K'=mj (rf k (an P 96)) 12/\P'=kH (rf k (an P 96)) (jE P 96) 12/\(∀o,o<25->K'.at_ o=L o)/\(∀o,o<25->L o≠0->P'.pg (L o-1)=P.pg (L o-1))/\K'.next=dG (an P 96) k/\K'.calls=0/\K'.cur=k.cur.toNat/\Ao P' k L m)/\∀a,Ac P L a->(∀T,T∈tr->AP T k m a)/\Ac P' K'.at_ a:=by
 have hN:=anV h;obtain⟨iB,da,hen,A,O,E,h4⟩:=zQ h 25 (Nat.le_refl _);have da:∀o,o<25->(cu k (an P 96) 25).at_ o=L o:=fun o ho=>by rw[da o ho,if_pos ho]
 obtain⟨st,h5⟩:=abB (cu k (an P 96) 25) 12;have bq:∀b,st b=if b<12/\0<lv (cu k (an P 96) 25).at_ b then 2 else 0:=fun b=>by
  have:=al8 (K:=cu k (an P 96) 25) (fun b=>by rw[h4];rfl) 12 (Nat.le_refl _) b;rw[h5] at this;exact this
 have hnw:yg k (an P 96)={ cu k (an P 96) 25 with st:=st }:=h5;have v9:Hl.HB (Hl.ld (ig k) (gA k)):=Hl.HB.new (fun j hj=>by
  unfold ig gA;rw[if_pos hj,if_pos hj];exact⟨(h.cG.told.rd j hj).1,(h.cG.told.sc j hj).1⟩)
 have hF0:∀b,b<12->Hl.ld (ig k) (gA k) (12+b)=0:=fun b hb=>by
  unfold Hl.ld gA;rw[if_neg (by omega),if_pos (by omega),show 12+b-12=b by omega,if_pos hb,h.cG.scs b hb];rfl
 have hnF:(yg k (an P 96)).F=Hl.ld (ig k) (gA k):=by rw[hnw,h4];rfl
 have hmF:Hl.HB (rf k (an P 96)).F:=by
  show Hl.HB (wK (yg k (an P 96)).F 12);rw[hnF];exact u9 v9 12 (Nat.le_refl _)
 have hm0:∀b,b<12->(rf k (an P 96)).F (12+b)=0:=fun b hb=>by
  show wK (yg k (an P 96)).F 12 (12+b)=0;rw[hnF];exact zR hF0 12 (Nat.le_refl _) b hb
 have hmt:rf k (an P 96)={ n0K k (an P 96) with at_:=A,ow:=O,en:=E,st:=st,F:=(rf k (an P 96)).F }:=by
  show({ yg k (an P 96) with F:=(rf k (an P 96)).F }:KS)=_;rw[hnw,h4]
 have hA:∀o,o<25->A o=L o:=fun o ho=>by
  have:=da o ho;rw[h4] at this;exact this
 have bq:∀b,st b=if b<12/\0<lv L b then 2 else 0:=fun b=>by
  rw[bq b,vB da]
 rw[h4] at iB hen;have nZ:∀b,b<12->(st b=0↔lv L b=0):=fun b hb=>by
  rw[bq b];by_cases e:0<lv L b
  ·rw[if_pos ⟨hb,e⟩];omega
  ·rw[if_neg (fun x=>e x.2)];omega
 have e24:A 24=L 24:=hA 24 (by omega)
 -- the cleaning
 have ajf:=p9 h.gd.calm 96;have anX:=(vj P 96).1;have oB:∀o,o<25->L o≠0->st ((L o-1)/8)≠0:=fun o ho e hz=>by
  have hp:=(h.cG.yes o ho e).1;have:=(nZ ((L o-1)/8) (by omega)).1 hz;exact fw.1 this o ho e rfl
 generalize hKm:rf k (an P 96)=Km at *;have kst:Km.st=st:=by rw[hmt]
 have kat:Km.at_=A:=by rw[hmt]
 have hT:∀j,Ao (kH Km (jE P 96) j) k L m/\∀a,Ac P L a->Ac (kH Km (jE P 96) j) L a:=fun j=>by
  have hc:=mX Km ajf j;have hk:∀o,o<25->L o≠0->(kH Km (jE P 96) j).pg (L o-1)=P.pg (L o-1):=fun o ho e=>by
   rw[vC,if_neg (fun x=>by have:=x.2;rw[kst] at this;exact oB o ho e this),anX]
  refine⟨h.sub hc (fun q t D hq e=>?_) hk,fun a hs=>hs.same hk⟩;rw[vC] at e;split at e
  ·cases e
  ·rw[anX] at e;exact e
 obtain⟨mi,lG⟩:=hT 12;obtain⟨F3,h6⟩:=mW Km 12;obtain⟨hFB,hFz⟩:=anW hmF hm0 12;have bA:∀q,(kH Km (jE P 96) 12).pg q=if q/8<12/\st (q/8)=0 then .blank else P.pg q:=fun q=>by rw[vC,kst,anX]
 have huq:(kH Km (jE P 96) 12).uniq:=fun p q t t' D D' hp hq e e' hs=>by
  by_cases hpq:p=q
  ·exact hpq
  ·rw[bA] at e e';by_cases hx:p/8<12/\st (p/8)=0
   ·rw[if_pos hx] at e;cases e
   ·rw[if_neg hx] at e;by_cases hy:q/8<12/\st (q/8)=0
    ·rw[if_pos hy] at e';cases e'
    ·rw[if_neg hy] at e';rcases h.tw p q t t' D D' hp hq hpq e e' hs with g|g
     ·exact absurd ⟨by omega,(nZ _ (by omega)).2 g⟩ hx
     ·exact absurd ⟨by omega,(nZ _ (by omega)).2 g⟩ hy
 obtain⟨x1,x2,x3,x4⟩:=aje h hm;have okA:Ao (kH Km (jE P 96) 12) k A m:=by
  refine⟨mi.gd,⟨by rw[e24];exact h.cG.pt,by rw[e24];exact mi.cG.data,h.cG.told,h.cG.bad,h.cG.scs,fun o ho e=>by rw[hA o ho] at e ⊢;exact mi.cG.yes o ho e,fun o ho e=>by rw[hA o ho] at e;exact mi.cG.no o ho e⟩,?_,?_,mi.sq,mi.fl⟩
  ·have:lv A=lv L:=by funext b;exact vB hA
   rw[this];exact mi.room
  ·have:lv A=lv L:=by funext b;exact vB hA
   rw[this];exact mi.tw
 have h7:mj Km 12={ n0K k (an P 96) with at_:=A,ow:=O,en:=E,st:=st,F:=F3 }:=by
  rw[h6,hmt]
 refine⟨mj Km 12,kH Km (jE P 96) 12,vo Km (jE P 96) 12,?_,?_,by rw[h7];rfl,⟨rfl,rfl,fun o ho=>by rw[h7];exact hA o ho,fun o ho e=>by rw[bA,if_neg (fun x=>oB o ho e x.2)],by rw[h7];rfl,by rw[h7];rfl,by rw[h7];rfl,mi⟩,fun a hs=>⟨fun T hTm=>?_,?_⟩⟩
 ·obtain⟨t,D,n1,n2,n3,n4⟩:=qd h;have hD:D=sV k:=by
   have:=h.cG.data;unfold aS at this;rw[n1] at this;exact this
  refine .old (k:=k) (p:=L 24-1) n4 rfl n3 n1 n2 (fun j hj=>by rw[hD]) hN (by rw[hnF];exact v9) ?_ ?_ ?_
  ·rw[hKm,kat,e24];exact h.cG.lt (by omega)
  ·rw[hKm,kst];unfold ax;rw[show au st 3=0 from lF (fun b hb=>by rw[bq b];split<;>omega)];rfl
  ·rw[hKm];exact .done (by rw[kat,e24];exact h.cG.pt)
 ·rw[h7] at hFB hFz ⊢;refine⟨⟨okA,huq,fun o ho e=>?_,fun o ho=>rfl,⟨fun p t D hp e=>?_,x2,x3,x4⟩,iB⟩,⟨fun b hb=>?_,fun b hb e=>?_,(fun e=>nomatch e),fun b i hb e hi=>?_,(fun e=>nomatch e),by show 0<12;omega,by show 0<=8;omega,by show 0<=12;omega⟩,⟨hFB,hFz,?_⟩,?_⟩
  ·have e:A o≠0:=e;rw[hA o ho] at e;obtain⟨t,D,g1,g2⟩:=hen o ho e;refine⟨t,D,?_,g2⟩;show(kH Km (jE P 96) 12).pg (A o-1)=_;rw[hA o ho,bA,if_neg (fun x=>oB o ho e x.2)];exact g1
  ·refine x1 p t D hp ?_;rw[bA] at e;split at e
   ·cases e
   ·exact e
  ·show st b<=2;rw[bq b];split<;>omega
  ·have e:st b=1:=e;rw[bq b] at e;split at e<;>omega
  ·have e:st b=0:=e;rw[bA,if_pos ⟨by omega,by rw[show(b*8+i)/8=b by omega];exact e⟩]
  ·have:=h.cG.told.cur;show k.cur.toNat<96;omega
  ·exact Nat.le_trans h.room (fB (fun b hb e=>(nZ b hb).2 e))
 ·obtain⟨j,hj,rfl⟩:=zS hTm;exact⟨L,(hT j).1,(hT j).2 a hs⟩
 ·rw[h7];intro o j ho hj;have:=lG a hs o j ho hj;unfold arr at this ⊢;show(if A o=0 then 0 else aS _ (A o-1) j)=_;rw[hA o (by omega)];exact this
theorem afZ{P:CS}{k:Cp}{L:Nat->Nat}{m:Int}(h:Ao P k L m)(hm:m<=1099511627775):∃K' P' tr,AJ P K' P' tr/\Inv K' P' k m/\K'.qu=[]/\∀a,Ac P L a->(∀T,T∈tr->AP T k m a)/\Ac P' K'.at_ a:=by
 obtain⟨K',P',tr,h1,h2,h3,-,h4⟩:=adn h hm;exact⟨K',P',tr,h1,h2,h3,h4⟩
end
section
open Go.RowKit
theorem aeA:∀k,mK [] k=[]
 |0=>rfl
 | k+1=>by
  have:=aeA k;unfold mK at this ⊢;rw[List.range_succ,List.flatMap_append,this];rfl
theorem abI(k:Cp)(o:Nat):bp [] k o = -1:=by
 unfold bp;rw[aeA];rfl
theorem ado(k:Cp):∀i,cu k [] i=n0K k []
 |0=>rfl
 | i+1=>by
  rw[kF,abI,if_pos (by decide),ado k i]
theorem aeB(b:Nat):∀n,iX (fun _=>0) n b=0
 |0=>rfl
 | n+1=>by
  unfold iX;rw[aeB b n,if_neg (fun h=>h.1 rfl)]
theorem ajg{K:KS}(h:K.at_=fun _=>0):∀b,n2K K b=K
 |0=>rfl
 | b+1=>by
  rw[vd,if_neg (by
   rw[h];have:lv (fun _=>0) b=0:=aeB b 25;omega),ajg h b]
theorem flz:∀n,dY Cp.zero (-1) n=if n=0 then -1 else 0
 |0=>rfl
 | n+1=>by
  unfold dY;rw[flz n];show max (if n=0 then -1 else 0) (0:Int)=_;by_cases h:n=0
  ·rw[if_pos h,if_neg (by omega)];rfl
  ·rw[if_neg h,if_neg (by omega)];rfl
theorem ajh:dG [] Cp.zero=1:=by
 have h:mM [] Cp.zero=0:=by
  show dY Cp.zero (max 0 0-1) 24=0;rw[show(max (0:Int) 0-1) = -1 by omega,flz,if_neg (by omega)]
 unfold dG;rw[h];rfl
theorem af0:Cp.zero.told:=⟨by decide,by decide,fun _ _=>⟨Int.le_refl 0,by show(0:Int)<=1099511627775;omega⟩,fun _ _=>⟨Int.le_refl 0,by show(0:Int)<=65535;omega⟩,fun _ _=>⟨Int.le_refl 0,by show(0:Int)<=255;omega⟩⟩
theorem anY:Bm Cp.zero []:=by
 refine⟨af0,fun _ _=>rfl,fun i _=>?_,fun i _ h=>?_⟩
 ·rw[ado];exact⟨fun _ _=>by show 0<=96;omega,fun _ _=>by show 0<=25;omega⟩
 ·rw[abI] at h;omega
def CS.bare(P:CS):Prop:=P.calm/\∀p,P.pg p=.blank
theorem abJ{P:CS}(h:P.bare):∀n,an P n=[]
 |0=>rfl
 | n+1=>by
  rw[kG (fun t D e=>by rw[h.2] at e;cases e),abJ h n]
def Bo(P:CS)(K':KS)(P':CS):Prop:=∃K1,K'=cB K1 24/\P'=jw K1 (kH (rf Cp.zero []) (jE P 96) 12) 24 aW/\A6 24 aW K1 (kH (rf Cp.zero []) (jE P 96) 12)/\(iA (bJ K1) K1.next (-1)).told/\Hl.HB K1.F/\K1.F=(mj (rf Cp.zero []) 12).F/\((rf Cp.zero []).st=fun _=>0)/\K1.cur=0/\K1.qu=[]
theorem af1{P:CS}(h:P.bare):∃K' P' tr k',AJ P K' P' tr/\Inv K' P' k' 2/\K'.qu=[]/\Bo P K' P'/\Ac P' K'.at_ (fun _ _=>0):=by
 have vf:P.val:=fun p t D _ e=>by rw[h.2] at e;cases e
 have v9:Hl.HB (Hl.ld (ig Cp.zero) (gA Cp.zero)):=Hl.HB.new (fun j hj=>by
  unfold ig gA;rw[if_pos hj,if_pos hj];exact⟨Int.le_refl 0,Int.le_refl 0⟩)
 have hF0:∀b,b<12->Hl.ld (ig Cp.zero) (gA Cp.zero) (12+b)=0:=fun b hb=>by
  unfold Hl.ld gA;rw[if_neg (by omega),if_pos (by omega),show 12+b-12=b by omega,if_pos hb];rfl
 have hnw:yg Cp.zero []=n0K Cp.zero []:=by
  unfold yg;rw[ado,ajg rfl]
 have hnF:(yg Cp.zero []).F=Hl.ld (ig Cp.zero) (gA Cp.zero):=by rw[hnw];rfl
 have hmF:Hl.HB (rf Cp.zero []).F:=by
  show Hl.HB (wK (yg Cp.zero []).F 12);rw[hnF];exact u9 v9 12 (Nat.le_refl _)
 have hm0:∀b,b<12->(rf Cp.zero []).F (12+b)=0:=fun b hb=>by
  show wK (yg Cp.zero []).F 12 (12+b)=0;rw[hnF];exact zR hF0 12 (Nat.le_refl _) b hb
 have hmt:rf Cp.zero []={ n0K Cp.zero [] with F:=(rf Cp.zero []).F }:=by
  show({ yg Cp.zero [] with F:=(rf Cp.zero []).F }:KS)=_;rw[hnw]
 generalize hKm:rf Cp.zero []=Km at *;obtain⟨F3,h6⟩:=mW Km 12;obtain⟨hFB,hFz⟩:=anW hmF hm0 12;have h7:mj Km 12={ n0K Cp.zero [] with F:=F3 }:=by rw[h6,hmt]
 rw[h7] at hFB hFz;have ajf:=p9 h.1 96;have yG:=mX Km ajf 12;have bA:∀q,(kH Km (jE P 96) 12).pg q=.blank:=fun q=>by
  rw[vC];split
  ·rfl
  ·rw[(vj P 96).1,h.2]
 -- a block is taken
 obtain⟨K1,hK1⟩:∃K1,K1=opK (mj Km 12) 0:=⟨_,rfl⟩;have lG:aT (mj Km 12)=mj Km 12:=by
  rw[h7];rfl
 have e1:K1={ n0K Cp.zero [] with F:=F3,st:=ah (fun _=>0) 0 1,pn:=1,fo:=true,fb:=0,fi:=0 }:=by
  rw[hK1];unfold opK;rw[lG,h7];rfl
 have f1:K1.st=ah (fun _=>0) 0 1/\K1.fo=true/\K1.fb=0/\K1.fi=0/\K1.fl=fun _=>0:=by
  rw[e1];exact⟨rfl,rfl,rfl,rfl,rfl⟩
 obtain⟨f1,f2,f3,f4,f5⟩:=f1;have g0:(mj Km 12).st=(fun _=>0)/\(mj Km 12).pn=0/\(mj Km 12).fo=false/\(mj Km 12).fi=0:=by
  rw[h7];exact⟨rfl,rfl,rfl,rfl⟩
 obtain⟨g1,g2,g3,g4⟩:=g0;have mF:aF K1.fo K1.fi 24=true:=by rw[f2,f4];decide
 have hsp:fO (aT (mj Km 12)).st=true:=by
  rw[lG,g1];decide
 have kM:takeN (aT (mj Km 12)).st (aT (mj Km 12)).pn=some 0:=by
  rw[lG,g1,g2];decide
 have hop:AS 24 48 (mj Km 12) (kH Km (jE P 96) 12) K1 (kH Km (jE P 96) 12) []:=by
  rw[hK1];refine .spare (n:=47) (by rw[h7];show 0<12;omega) (by rw[h7];show 0<=8;omega) (by rw[g3,g4];decide) hsp (by rw[lG,h7];show 0<=12;omega) kM (.room (n:=46) ?_ ?_ ?_)
  ·rw[<-hK1,e1];show 0<12;omega
  ·rw[<-hK1,e1];show 0<=8;omega
  ·rw[<-hK1];exact mF
 have B1:AO K1 (kH Km (jE P 96) 12):=by
  rw[e1];refine⟨fun b hb=>?_,fun b hb e=>?_,fun _=>rfl,fun b i _ _ _=>bA _,fun _ i _ _=>bA _,by show 0<12;omega,by show 0<=8;omega,by show 1<=12;omega⟩
  ·show ah (fun _:Nat=>(0:Nat)) 0 1 b<=2;unfold ah;split
   ·omega
   ·show 0<=2;omega
  ·have e:ah (fun _:Nat=>(0:Nat)) 0 1 b=1:=e;unfold ah at e;by_cases jR:b=0
   ·exact⟨rfl,jR.symm⟩
   ·rw[if_neg jR] at e;have e:0=1:=e;omega
 have H1:Bx K1:=by
  rw[e1];exact⟨hFB,hFz,by show(0:Int).toNat<96;decide⟩
 have C1:AM K1.at_ K1.ow:=by
  rw[e1];exact⟨fun p hp e=>absurd rfl e,fun o ho e=>absurd rfl e⟩
 have n1:K1.next=1:=by
  rw[e1];exact ajh
 have mu:5<=au K1.st 0:=by
  rw[f1];decide
 have a1:K1.at_=fun _=>0:=by rw[e1];rfl
 have E:=ye B1 H1 C1 yG ⟨by omega,by omega⟩ (fun o ho e=>by rw[a1] at e;exact absurd rfl e) mu (of:=24) (by omega) mF aW;obtain⟨ow,F,calls,he,iB,hc1,lU⟩:=E.eq
 have kx:(iA (bJ K1) K1.next (-1)).told:=aby (K:=bJ K1) (by omega) H1.hb H1.cur (fun o ho=>by
  show 0<=K1.fl o/\K1.fl o<=_;rw[f5];exact⟨Int.le_refl 0,by show(0:Int)<=1099511627775;omega⟩)
 have iR:cm (aW (bJ K1) K1.next)=aW (bJ K1) K1.next:=gH _;have hfa:Bo P (cB K1 24) (jw K1 (kH Km (jE P 96) 12) 24 aW):=⟨K1,rfl,by rw[hKm],by rw[hKm];exact E,kx,H1.hb,by rw[hKm,h7,e1],by rw[hKm,hmt];rfl,by rw[e1];rfl,by rw[e1];rfl⟩;have hpN:=E.pg;rw[iR] at hpN;have apt:=E.ne;have apu:K1.fb*8+K1.fi=0:=by rw[f3,f4]
 rw[apu] at hpN apt he iB
 refine⟨_,_,_,iA (bJ K1) K1.next (-1),.new (by rw[nP vf (Nat.le_refl _),abJ h];rfl) anY (by rw[hnF];exact v9) ?_ ?_ (by
  rw[hKm];exact .note (by rw[hmt];rfl) ⟨by rw[g1];decide,hop,E.fb,E.fi,mF,E.next,E.hb,E.mw,E.calm,E.blank,E.ok,fun j=>jc _ j⟩ kx),⟨?_,E.b,E.h,E.free⟩,by rw[he,e1];rfl,hfa,?_⟩
 ·rw[hKm,hmt];show 0<=96;omega
 ·rw[hKm,hmt];show ax (fun _=>0)=false;decide
 ·have only:∀q t D,(jw K1 (kH Km (jE P 96) 12) 24 aW).pg q=.full t D->q=0/\t=dw K1 24/\D=aW (bJ K1) K1.next:=fun q t D e=>by
   by_cases hq:q=0
   ·rw[hq,hpN] at e
    cases e
    exact⟨hq,rfl,rfl⟩
   ·rw[apt q hq,bA] at e
    cases e
  have yp:ah K1.at_ 24 (0+1) 24=1:=by simp[ah]
  have da:∀o,o≠24->ah K1.at_ 24 (0+1) o=0:=fun o ho=>by
   unfold ah;rw[if_neg ho,a1]
  have apv:=E.ok;rw[he];refine⟨⟨⟨CS.mQ E.calm _ _ _,fun p t D hp e=>?_,fun p q t t' D D' hp hq hn e e' _=>?_⟩,⟨?_,?_,kx,zN (K:=bJ K1) (P:=kH Km (jE P 96) 12) ⟨B1.st,B1.mT,B1.fst,B1.bl,B1.fr,B1.fb,B1.fi,B1.pn⟩ K1.next,H1.sc,fun o ho e=>?_,fun o ho e q t D hq hf jK=>?_⟩,?_,fun p q t t' D D' hp hq hn e e' _=>?_,fun p t D hp e=>?_,?_⟩,fun p q t t' D D' hp hq e e' _=>?_,fun o ho e=>?_,fun o ho=>rfl,⟨fun p t D hp e=>?_,?_,?_,fun o ho=>?_⟩,iB⟩
  ·obtain⟨rfl,rfl,rfl⟩:=only p t D e;exact⟨apv,by show((K1.fb*8+K1.fi:Nat):Int)=_;rw[apu],rfl,fun j=>jc _ j,iR⟩
  ·exact absurd ((only p t D e).1.trans (only q t' D' e').1.symm) hn
  ·show ah K1.at_ 24 (0+1) 24≠0;rw[yp];omega
  ·show aS _ (ah K1.at_ 24 (0+1) 24-1)=_;rw[yp];unfold aS;rw[show 1-1=0 from rfl,hpN];rfl
  ·have e:ah K1.at_ 24 (0+1) o≠0:=e;by_cases vD:o=24
   ·subst vD;show CQ _ 24 (floor _ 24) (ah K1.at_ 24 (0+1) 24-1);rw[yp];refine⟨by omega,dw K1 24,aW (bJ K1) K1.next,hpN,rfl,?_,fun q t' D' hq hn e _=>absurd (only q t' D' e).1 hn⟩;show(-1:Int)<K1.next;omega
   ·exact absurd (da o vD) e
  ·obtain⟨rfl,rfl,rfl⟩:=only q t D hf;have e:ah K1.at_ 24 (0+1) o=0:=e;have jK:(24:Int)=o:=jK;have:o=24:=by omega
   rw[this,yp] at e;omega
  ·show 5<=au (lv (ah K1.at_ 24 (0+1))) 0;refine zK (st:=K1.st) (fun b hb e=>fw.2 fun o ho g1 g2=>?_) mu;by_cases vD:o=24
   ·rw[vD,yp] at g2;have jR:b=0:=by omega
    rw[jR,e1] at e;simp[ah] at e
   ·exact g1 (da o vD)
  ·exact absurd ((only p t D e).1.trans (only q t' D' e').1.symm) hn
  ·obtain⟨rfl,rfl,rfl⟩:=only p t D e;show K1.next<2;omega
  ·refine⟨by show K1.next<2;omega,fun o ho=>?_⟩;show K1.fl o<2;rw[f5];show(0:Int)<2;omega
  ·exact(only p t D e).1.trans (only q t' D' e').1.symm
  ·have e:ah K1.at_ 24 (0+1) o≠0:=e;by_cases vD:o=24
   ·subst vD;refine⟨dw K1 24,aW (bJ K1) K1.next,?_,?_⟩
    ·show(jw K1 (kH Km (jE P 96) 12) 24 aW).pg (ah K1.at_ 24 (0+1) 24-1)=_;rw[yp];exact hpN
    ·show ah K1.en 24 _ 24=_;exact if_pos rfl
   ·exact absurd (da o vD) e
  ·obtain⟨rfl,rfl,rfl⟩:=only p t D e;show K1.next<K1.next+1;omega
  ·show 1<=K1.next+1;omega
  ·show K1.next+1<=2;omega
  ·show K1.fl o<K1.next+1;rw[n1,f5];show(0:Int)<1+1;omega
 ·intro o j ho hj;rw[he];show arr _ (ah K1.at_ 24 (0+1)) o j=0;unfold arr;rw[if_pos (by unfold ah;rw[if_neg (by omega),a1])]
end
section
open Go.RowKit
def bD(c:Int)(n:Nat):Nat:=((if c<0 then 0-(c+1) else c)%(n:Int)).toNat
theorem dP(c:Int){n:Nat}(h:0<n):bD c n<n:=by
 unfold bD;have:=Int.emod_lt_of_pos (if c<0 then 0-(c+1) else c) (show(0:Int)<n by omega);omega
theorem bL(c:Int)(n:Nat)(h1 : -9223372036854775808<=c/\c<=9223372036854775807)(hn:0<n)(w:World):Spec Tryz.prog 16 #[.int .i64 c,.int .i64 n] w fun v w'=>v=.int .i64 (bD c n:Nat)/\w=w':=by
 have key:∀x:Int,0<=x->((x%(n:Int)).toNat:Int)=x%(n:Int):=fun x hx=>by
  have:=Int.emod_nonneg x (show(n:Int)≠0 by omega);omega
 unfold bD;refine spec_of_wpE (T:=tt) ai func16 rfl (by decide +kernel) ntmps16 (by simp) ?_;by_cases hc:c<0
 ·rw[if_pos hc,key _ (by omega)];conv=>whnf
  repeat ((first|refine Ar.la ?_|refine Dv.r ?_|refine Br.y ?_|refine CW.s ?_);conv=>whnf)
  exact⟨rfl,rfl,rfl⟩
 ·rw[if_neg hc,key _ (by omega)];conv=>whnf
  repeat ((first|refine Dv.r ?_|refine Br.n ?_|refine CW.s ?_);conv=>whnf)
  exact⟨rfl,rfl,rfl⟩
theorem Dv.apw{a b:Int}{K:Value->Prop}(h1:0<=a)(h2:0<b)(h3:a<=18446744073709551615)(h:K (.int .u64 (a/b))):Dv .quo .u64 a b K:=⟨by omega,by
 have e:a.tdiv b=a/b:=Int.tdiv_eq_ediv_of_nonneg h1;have h4:0<=a/b:=Int.ediv_nonneg h1 (by omega);have h5:a/b<=a:=Int.ediv_le_self b h1;simp only[e];rw[show IntKind.u64.wrap (a/b)=a/b from by unfold IntKind.wrap;simp[IntKind.signed,IntKind.bits];omega];exact h⟩
def lcg(x:Nat):Nat->Nat
 |0=>x
 |j+1=>(lcg x j*6364136223846793005+1442695040888963407)%18446744073709551616
def yq(x j:Nat):Nat:=if x=0 then 0 else (lcg x (j+1)/1099511627776)%256
theorem ru(x j:Nat):yq x j<256:=by
 unfold yq;split
 ·omega
 ·exact Nat.mod_lt _ (by omega)
theorem aji{x:Nat}(h:x<18446744073709551616):∀j,lcg x j<18446744073709551616
 |0=>h
 |j+1=>Nat.mod_lt _ (by omega)
theorem ajj(x j:Nat):lcg x (j+1)=(lcg x j*6364136223846793005+1442695040888963407)%18446744073709551616:=rfl
theorem ajk(x:Nat):lcg x 0=x:=rfl
attribute [local irreducible] lcg
theorem nQ(x:Nat)(hx:x<=9223372036854775807)(w:World):Spec Tryz.prog 24 #[.int .i64 x] w fun v w'=>∃g,v=.slice (some ⟨g,0,none⟩) 160 160/\g=w.heap.size/\Row w' g 5 160 (fun j=>.int .u8 (yq x j:Nat))/\Aa [] w w':=by
 refine spec_of_wpE (T:=tt) ai func24 rfl (by decide +kernel) ntmps24 (by simp) ?_;conv=>whnf
 refine Ru.of (ya w) ?_;have ry:=Row.made w 5 (.int .u8 0) 160;have k1:Aa [] w (w.alloc (.cells (madeCells #[.int .u8 0] 160) 5)):=(Aa.refl _ _).alloc _;generalize w.alloc _=w1 at *;by_cases h0:x=0
 ·subst h0;conv=>whnf
  repeat ((first|refine Br.t ?_|refine CW.s ?_);conv=>whnf)
  exact⟨rfl,_,rfl,rfl,ry,k1⟩
 ·have hx0:decide ((x:Int)=0)=false:=decide_eq_false (by omega);conv=>whnf
  repeat ((first|refine Ar.lc ?_|refine Br.n ?_|refine CW.s ?_);conv=>whnf)
  refine CW.loop (ι:=Nat) (fun i w'=>i<=160/\Row w' w.heap.size 5 160 (fun j=>if j<i then .int .u8 (yq x j:Nat) else .int .u8 0)/\Aa [] w w')
   (fun i=>[(3,.slice (some ⟨w.heap.size,0,none⟩) 160 160),(4,.int .u64 (lcg x i:Nat)),(5,.int .i64 i)]) (fun i=>160-i) 0 ai ⟨by omega,ry.congr (fun j hj=>by simp),k1⟩ ⟨rfl,by rw[ajk];rfl,rfl,trivial⟩ ?_;clear ry k1;rintro i wr ⟨hi,rg,kk⟩;have hl:=aji (x:=x) (by omega) i;rcases Nat.lt_or_ge i 160 with av|wg
  ·conv=>whnf
   repeat ((first|(refine Ar.aqe ?_)|refine Br.y ?_|refine CW.s ?_);conv=>whnf)
   have hv:(((lcg x i:Nat):Int)*6364136223846793005%18446744073709551616+1442695040888963407)%18446744073709551616=((lcg x (i+1):Nat):Int):=by
    rw[ajj];omega
   rw[hv];have hl2:=aji (x:=x) (by omega) (i+1);refine Dv.apw (by omega) (by omega) (by omega) ?_;conv=>whnf
   repeat ((first|(refine Ar.u8m ?_)|(refine Ix.of i (by omega) (by omega) ?_));conv=>whnf)
   rw[show 0+i=i by omega];refine Sd.rowAt rg i (by omega) (by omega) rfl ?_;intro w7 rg7 k7;conv=>whnf
   repeat (refine Ar.la ?_;conv=>whnf)
   refine⟨i+1,⟨av,rg7.congr (fun j hj=>?_),kk.fresh (Nat.le_refl _) k7⟩,⟨rfl,rfl,vi (by omega),trivial⟩,by simp only;omega⟩;unfold put;by_cases vQ:j=i
   ·rw[if_pos vQ,if_pos (by omega),vQ];unfold yq;rw[if_neg h0];exact congrArg (Value.int .u8) (by omega)
   ·rw[if_neg vQ];simp only;by_cases kL:j<i
    ·rw[if_pos kL,if_pos (by omega)]
    ·rw[if_neg kL,if_neg (by omega)]
  ·obtain rfl:i=160:=by omega
   conv=>whnf
   repeat ((first|refine Br.f ?_|refine CW.s ?_);conv=>whnf)
   exact⟨rfl,_,rfl,rfl,rg.congr (fun j hj=>by simp only[if_pos hj]),kk⟩
theorem yr(A B:Option Addr)(n m c d:Nat)(f g:Nat->Int)(w:World)(r0:Rd w A n (fun j=>.int .u8 (f j)))(r1:Rd w B m (fun j=>.int .u8 (g j)))(hf:∀j,0<=f j/\f j<=255)(hg:∀j,0<=g j/\g j<=255) :
  Spec Tryz.prog 23 #[.slice A n c,.slice B m d] w fun v w'=>v=.bool (rO n m f g)/\w=w':=by
 rw[<-aaE hf hg];refine spec_of_wpE (T:=tt) ai func23 rfl (by decide +kernel) ntmps23 (by simp) ?_;conv=>whnf
 refine Ru.pE underlying37 underlying5 underlying9 r0 ?_;generalize strOfNums ((List.range n).map f)=x;conv=>whnf
 refine Ru.pE underlying37 underlying5 underlying9 r1 ?_;generalize strOfNums ((List.range m).map g)=y;conv=>whnf
 refine Ru.ag3 underlying9 ?_;conv=>whnf
 exact⟨rfl,rfl,rfl⟩
end
section
open Go.RowKit
def adp(T:TypeId):Bool := !(Nat.beq T 143||Nat.beq T 220||Nat.beq T 188||Nat.beq T 210||Nat.beq T 223||Nat.beq T 217||Nat.beq T 3||Nat.beq T 250||Nat.beq T 104||Nat.beq T 274||Nat.beq T 297||Nat.beq T 318||Nat.beq T 5||Nat.beq T 87)
section
variable{w w':World}{own:List Nat}{d ch:Nat}{K:KS}{P:CS}{b:Option Nat}
theorem zT{T U:TypeId}(h:adp T=true)(hU:adp U=false):T≠U:=fun e=>by
 rw[e,hU] at h
 cases h
theorem af2{T:TypeId}(h:adp T=true):(Nat.beq T 143||Nat.beq T 220||Nat.beq T 188||Nat.beq T 210||Nat.beq T 223||Nat.beq T 217||Nat.beq T 3||Nat.beq T 250||Nat.beq T 104||Nat.beq T 274||Nat.beq T 297||Nat.beq T 318||Nat.beq T 5)=false:=by
 unfold adp at h;rw[Bool.not_eq_true',Bool.or_eq_false_iff] at h;exact h.1
theorem Ae.aj(D:Ae w own d ch K P b)(k:Aa [] w w'):Ae w' own d ch K P b:=by
 obtain⟨N,X,c,n,e,r,h,eC,hq⟩:=D;exact⟨N,X,c,n,e,Row.ab r k (by simp),h.aj k,eC,hq⟩
theorem Ae.iz(D:Ae w own d ch K P b){x m:Nat}{T:TypeId}{f:Nat->Value}(rx:Row w x T m f)(hT:adp T=true)(k:Aa [x] w w'):Ae w' own d ch K P b:=by
 obtain⟨N,X,c,n,e,r,h,eC,hq⟩:=D;have hd:d≠x:=Row.ed r rx (zT hT (by decide)).symm;exact⟨N,X,c,n,e,Row.ab r k (by simpa using hd),h.iz rx (af2 hT) k,eC,hq⟩
theorem Ae.bW(D:Ae w own d ch K P b){x m:Nat}{T:TypeId}{f:Nat->Value}(rx:Row w x T m f)(hT:adp T=true):x∉own:=fun hx=>by
 obtain⟨N,X,c,n,e,r,h,eC,hq⟩:=D;rw[e] at hx;obtain⟨C,M,q⟩:=h.o9;obtain⟨F,rg⟩:=M.jk.iH.fs.ty;have nn:∀ {y m':Nat} {U:TypeId} {f':Nat->Value},Row w y U m' f'->adp U=false->x≠y:=fun ry hU=>Row.ed rx ry (zT hT hU);rcases List.mem_cons.1 hx with e|hm
 ·exact nn r (by decide) e
 rcases List.mem_append.1 hm with hm|hm
 ·simp only[Cr.all,Cr.own,Pt.l,List.cons_append,List.nil_append,List.mem_cons,List.not_mem_nil,or_false] at hm;rcases hm with e|e|e|e|e|e|e|e|e
  ·exact nn h.core.row (by decide) e
  ·exact nn h.core.aV (by decide) e
  ·exact nn h.core.map (by decide) e
  ·exact nn h.core.front (by decide) e
  ·exact nn h.core.aH (by decide) e
  ·exact nn h.core.pat (by decide) e
  ·exact nn M.row (by decide) e
  ·exact nn M.cH (by decide) e
  ·exact nn rg (by decide) e
 ·exact h.core.qu.aL rx (zT hT (by decide)).symm hm
theorem Ae.rv(D:Ae w own d ch K P b):d∈own/\ch∈own:=by
 obtain⟨N,X,c,n,e,r,h,eC,hq⟩:=D;rw[e];exact⟨List.mem_cons_self ..,List.mem_cons_of_mem _ (List.mem_append_left _ (ja (by rw[<-eC];simp[Pt.l])))⟩
theorem A0.ab{Q:CS}{S:List Nat}(D:A0 w d ch Q)(k:Aa S w w')(hd:d∉S)(hc:ch∉S):A0 w' d ch Q:=by
 obtain⟨r,C,H,h⟩:=D;exact⟨Row.ab r k hd,C,H.ab k hc,h⟩
end
theorem vF(w:World)(x:Operand)(a:Addr):(do eqGuard .eql 25 x (.const (.pointer none)) (.pointer (some a)) (.pointer none);binOp .eql 25 (.pointer (some a)) (.pointer none):Sem Value).run Tryz.prog w=.ok (.bool false) w:=by kernel_rfl
def CN(ch:Nat)(K':KS)(P':CS)(b:Option Nat)(tr:List CS)(w:World)(v:Value)(w':World):Prop :=
 Aa [ch] w w'/\Af b tr (fun b'=>∃d dW,v=.pointer (some ⟨d,0,none⟩)/\Ae w' dW d ch K' P' b'/\∀x,x∈dW->x=ch\/w.heap.size<=x) (fun Q=>v=.pointer none/\∃C,Ab w' ch C/\AV C Q)
theorem yu{w:World}{ch:Nat}{C:Chip}{P:CS}{b:Option Nat}(H:Ab w ch C)(hA:Abs C P)(hl:C.left b)(hc:P.calm){K':KS}{P':CS}{tr:List CS}(M:AJ P K' P' tr)(hq:K'.qu=[]) :
  Spec Tryz.prog 21 #[.pointer (some ⟨ch,0,none⟩)] w (CN ch K' P' b tr w):=by
 refine spec_of_wpE (T:=tt) ai func21 rfl (by decide +kernel) ntmps21 (by simp) ?_;conv=>whnf
 refine Ca.of (aly ch w) ?_;rintro _ w1 ⟨d,rfl,hd,r1,k1⟩;have H1:=H.ab k1 (by simp);conv=>whnf
 repeat (refine CW.s ?_;conv=>whnf)
 refine Ru.of (vF w1 _ _) ?_;conv=>whnf
 repeat ((first|refine Br.f ?_|refine Pk.f ?_|refine Ru.ak ?_);conv=>whnf)
 refine Ca.of (afX r1 H1 hA hl hc M hq) ?_;rintro _ w2 ⟨k2,sQ⟩
 have kk:Aa [ch] w w2:=(k1.mono (by simp)).then k2 (fun x hx=>by
  rcases List.mem_cons.1 hx with rfl|hx
  ·exact .inr (by omega)
  ·exact .inl hx)
 rcases sQ with⟨f2,rfl,dW,D2,h2⟩|⟨y,hy,jq,rfl,D2⟩
 ·conv=>whnf
  repeat ((first|refine Br.f ?_|refine Ru.ak ?_|refine CW.s ?_);conv=>whnf)
  refine⟨rfl,kk,.inl ⟨f2,d,dW,rfl,D2,fun x hx=>?_⟩⟩;rcases h2 x hx with h|h|h
  ·exact .inr (by omega)
  ·exact .inl h
  ·exact .inr (Nat.le_trans k1.size h)
 ·conv=>whnf
  repeat ((first|refine Br.t ?_|refine Ru.n1 ?_|refine CW.s ?_);conv=>whnf)
  exact⟨rfl,kk,.inr ⟨y,hy,jq,rfl,D2.2⟩⟩
def cO(a:Nat->Nat)(j:Nat):Value:=.int .i64 (a j:Nat)
structure Cl where
 kind:Int
 a:Int
 x:Int
def Cl.cell(c:Cl)(j:Nat):Value:=if j=0 then .int .i64 c.kind else if j=1 then .int .i64 c.a else .int .i64 c.x
def af3(x:Int):Prop:=-9223372036854775808<=x/\x<=9223372036854775807
def Cl.wf(c:Cl):Prop:=af3 c.kind/\af3 c.a/\af3 c.x
def Cl.of(c:Cl):Nat:=bD c.a 24
def Cl.n(c:Cl):Nat:=1+bD c.x 1000000
def Cl.kd(c:Cl):Nat:=bD c.kind 6
def Cl.arr(c:Cl)(a:Nat->Nat):Nat->Nat:=if c.kd<=2 then ah a c.of c.n else if c.kd=3 then ah a c.of 0 else a
theorem Cl.of_lt(c:Cl):c.of<24:=dP _ (by omega)
theorem Cl.adq(c:Cl):c.n<=1000000:=by
 have:=dP c.x (n:=1000000) (by omega);unfold Cl.n;omega
theorem di(w:World):(Instr.alloc 28 true (.tuple #[])).run Tryz.prog w=.ok (.pointer (some ⟨w.heap.size,0,none⟩)) (w.alloc (eS 24 (cO fun _=>0) 28)):=by kernel_rfl
theorem aB:(Tryz.prog.info? 28).map (·.size)=some 24:=by kernel_rfl
theorem cM(a:Nat->Nat)(j:Nat):(cO a j).oneCell'=true:=rfl
theorem zU(a:Nat->Nat)(o x:Nat)(j:Nat):put (cO a) o (.int .i64 (x:Nat)) j=cO (ah a o x) j:=by
 unfold put cO ah;split<;>rfl
def Bp(own:List Nat)(d ch:Nat)(K':KS)(P':CS)(b:Option Nat)(tr:List CS)(a':Nat->Nat)(rd:Option (Nat->Nat))(w:World)(v:Value)(w':World):Prop :=
 Al own d ch K' P' b tr w w' (∃Y n e f,v=.tuple #[agg 24 (cO a'),.slice Y n e,al 0]/\(match rd with|none=>Y=none/\n=0/\e=0|some F=>n=160/\f=F)/\(rd=none\/Ly w' 5 1 Y n e (fun j=>.int .u8 (f j:Nat))/\∀x,x∈aK Y->w.heap.size<=x)) (v=.tuple #[agg 24 (cO a'),.slice none 0 0,al 7])
section
variable{w w':World}{own:List Nat}{d ch:Nat}{K:KS}{P:CS}{b:Option Nat}{K':KS}{P':CS}{tr:List CS}
theorem adr(D:Ae w own d ch K P b){c:Cl}(hw:c.wf)(hk:c.kd<=2){a:Nat->Nat}
  (gJ:∀ {w1:World} {A:Option Addr} {e:Nat},Ae w1 own d ch K P b->AI w1 A 160 (yq c.n)->160<=e->Spec Tryz.prog 45 #[.pointer (some ⟨d,0,none⟩),.int .i64 c.of,.slice A 160 e] w1 fun v w'=>Al own d ch K' P' b tr w1 w' (v=al 0) (v=al 7)) :
  Spec Tryz.prog 19 #[.pointer (some ⟨d,0,none⟩),agg 24 (cO a),agg 3 c.cell] w fun v w'=>Bp own d ch K' P' b tr (ah a c.of c.n) none w v w':=by
 have jK:=c.of_lt;have hn:=c.adq;have e1:bD c.a 24=c.of:=rfl;have e2:1+bD c.x 1000000=c.n:=rfl;have e3:bD c.kind 6=c.kd:=rfl;refine spec_of_wpE (T:=tt) ai func19 rfl (by decide +kernel) ntmps19 (by simp) ?_;conv=>whnf
 refine Ru.dr ?_;intro x4 w1 qj dj r4 k1;conv=>whnf
 refine Ru.dr ?_;intro x5 w2 hx5 gO r5 k2;conv=>whnf
 refine Ru.aE (di w2) ?_;intro x6 w3 hx6 gg r6 k3;have fS:=r4.ab (k2.trans k3) (by simp);have oC:=r5.ab k3 (by simp);have bG:=(k1.trans k2).trans k3;have D3:=D.aj bG;have nV:w.heap.size<=x4:=by omega
 have rA:w.heap.size<=x6:=by omega
 have h46:x4≠x6:=by omega
 clear r4 r5 k1 k2 k3 dj gO gg qj hx5 hx6 w1 w2 D;have c0:w3.cell? ⟨x5,0,none⟩=some (.int .i64 c.kind):=oC.cell 0 (by omega);have c1:w3.cell? ⟨x5,1,none⟩=some (.int .i64 c.a):=oC.cell 1 (by omega);have c2:w3.cell? ⟨x5,2,none⟩=some (.int .i64 c.x):=oC.cell 2 (by omega);conv=>whnf
 repeat ((refine Ld.at (by omega) c1 ?_);conv=>whnf)
 refine Ca.of (bL c.a 24 hw.2.1 (by omega) w3) ?_;rintro _ _ ⟨rfl,rfl⟩;rw[e1];conv=>whnf
 repeat ((refine Ld.at (by omega) c2 ?_);conv=>whnf)
 refine Ca.of (bL c.x 1000000 hw.2.2 (by omega) w3) ?_;rintro _ _ ⟨rfl,rfl⟩;have e2':(1:Int)+((bD c.x 1000000:Nat):Int)=(c.n:Nat):=by rw[<-e2];omega
 have hb:=dP c.x (n:=1000000) (by omega);conv=>whnf
 repeat ((first|(refine Ld.at (by omega) c0 ?_)|refine Ar.la ?_|refine CW.s ?_);conv=>whnf)
 rw[e2'];refine Ca.of (bL c.kind 6 hw.1 (by omega) w3) ?_;rintro _ _ ⟨rfl,rfl⟩;rw[e3];have hk3:c.kd=0\/c.kd=1\/c.kd=2:=by omega
 rcases hk3 with h|h|h
 all_goals
  rw[h];conv=>whnf
  repeat ((first|(refine Ix.of c.of (by omega) (by omega) ?_)|refine Br.t ?_|refine Br.f ?_|refine CW.s ?_);conv=>whnf)
  rw[show 0+0+c.of=c.of by omega];refine Sd.rowAt fS c.of (by omega) (by omega) rfl ?_;intro w4 ia k4;have ia:Row w4 x4 28 24 (cO (ah a c.of c.n)):=ia.congr (fun j hj=>zU a c.of c.n j);have D4:=D3.iz fS (by decide) k4;have vY:=r6.ab k4 (by simpa using h46.symm);have bU:=bG.fresh nV k4;have qB:=bU.size;clear D3 fS r6 k4 bG c0 c1 c2 oC;conv=>whnf
  refine CW.held (fun w'=>Row w' x4 28 24 (cO (ah a c.of c.n))) [] (.take 0 (.take 1 (.take 2 (.take 3 (.one 4 (.one 5 (.one 6 (.take 7 (.take 8 (.done)))))))))) ai (by kernel_rfl) (by kernel_rfl) (by kernel_rfl) ?_ ?_
  ·exact Row.drewN ia 1
  have q4:=(Aa.refl [] w4).drewN 1;have D5:=D4.aj q4;have iJ:=ia.ab q4 (by simp);have qI:=vY.ab q4 (by simp);have dL:=bU.trans q4;clear D4 ia vY bU q4;generalize w4.drewN 1=w5 at *;conv=>whnf
  repeat ((refine Am.of (fun w hS=>ei (q:=cO (ah a c.of c.n)) hS underlying28 rfl aB (by omega) (fun j hj=>by rw[Nat.zero_add])) ?_);conv=>whnf)
  refine Ca.of (nQ c.n (by omega) w5) ?_;rintro _ w6 ⟨g,rfl,hg,rg,k6⟩;have D6:=D5.aj k6;have nT:=iJ.ab k6 (by simp);have r66:=qI.ab k6 (by simp);have gG:=dL.trans k6;clear D5 iJ qI dL k6 hg;refine⟨nT,?_⟩;conv=>whnf
  refine Ca.of (gJ D6 (Rd.dq rg (n:=160) (by omega)) (by omega)) ?_;rintro u w7 ⟨k7,hr7⟩;have wL:=nT.ab k7 (D6.bW nT (by decide));have ue:=r66.ab k7 (D6.bW r66 (by decide));have hs6:=gG.size;have av:=D6.lJ;refine⟨wL,?_⟩;conv=>whnf
  refine Ru.im ue aB (by omega) (fun j hj=>cM _ j) ?_;intro w8 oZ k8;have oZ:Row w8 x6 28 24 (cO (ah a c.of c.n)):=oZ.congr (fun j hj=>by unfold lay;rw[if_pos (by omega),Nat.sub_zero]);refine⟨wL.ab k8 (by simpa using h46),?_⟩;conv=>whnf
  refine Ru.cx (q:=cO (ah a c.of c.n)) oZ underlying28 rfl aB (by omega) (fun j hj=>by rw[Nat.zero_add]) ?_;conv=>whnf
  have mY:=D6.bW r66 (by decide);have jd:=D6.rv;refine⟨rfl,((gG.mono (T:=own) (by simp)).trans k7).then k8 (fun x hx=>.inr (by rw[List.mem_singleton.1 hx];exact rA)),hr7.mono (fun b' hh=>?_) (fun Q hh=>?_)⟩
  ·obtain⟨rfl,dW,D7,h7⟩:=hh;refine⟨⟨none,0,0,fun _=>0,rfl,⟨rfl,rfl,rfl⟩,.inl rfl⟩,dW,D7.iz ue (by decide) k8,fun x hx=>?_⟩;rcases h7 x hx with h|h
   ·exact .inl h
   ·exact .inr (Nat.le_trans hs6 h)
  ·obtain⟨rfl,cj⟩:=hh;exact⟨rfl,cj.ab k8 (fun hm=>mY (by rw[<-List.mem_singleton.1 hm];exact jd.1)) (fun hm=>mY (by rw[<-List.mem_singleton.1 hm];exact jd.2))⟩
theorem af4(D:Ae w own d ch K P b){c:Cl}(hw:c.wf)(hk:c.kd=3){a:Nat->Nat}
  (gJ:∀ {w1:World},Ae w1 own d ch K P b->Spec Tryz.prog 17 #[.pointer (some ⟨d,0,none⟩),.int .i64 c.of] w1 fun v w'=>Al own d ch K' P' b tr w1 w' (v=al 0) (v=al 7)) :
  Spec Tryz.prog 19 #[.pointer (some ⟨d,0,none⟩),agg 24 (cO a),agg 3 c.cell] w fun v w'=>Bp own d ch K' P' b tr (ah a c.of 0) none w v w':=by
 have jK:=c.of_lt;have hn:=c.adq;have e1:bD c.a 24=c.of:=rfl;have e2:1+bD c.x 1000000=c.n:=rfl;have e3:bD c.kind 6=c.kd:=rfl;refine spec_of_wpE (T:=tt) ai func19 rfl (by decide +kernel) ntmps19 (by simp) ?_;conv=>whnf
 refine Ru.dr ?_;intro x4 w1 qj dj r4 k1;conv=>whnf
 refine Ru.dr ?_;intro x5 w2 hx5 gO r5 k2;conv=>whnf
 refine Ru.aE (di w2) ?_;intro x6 w3 hx6 gg r6 k3;have fS:=r4.ab (k2.trans k3) (by simp);have oC:=r5.ab k3 (by simp);have bG:=(k1.trans k2).trans k3;have D3:=D.aj bG;have nV:w.heap.size<=x4:=by omega
 have rA:w.heap.size<=x6:=by omega
 have h46:x4≠x6:=by omega
 clear r4 r5 k1 k2 k3 dj gO gg qj hx5 hx6 w1 w2 D;have c0:w3.cell? ⟨x5,0,none⟩=some (.int .i64 c.kind):=oC.cell 0 (by omega);have c1:w3.cell? ⟨x5,1,none⟩=some (.int .i64 c.a):=oC.cell 1 (by omega);have c2:w3.cell? ⟨x5,2,none⟩=some (.int .i64 c.x):=oC.cell 2 (by omega);conv=>whnf
 repeat ((refine Ld.at (by omega) c1 ?_);conv=>whnf)
 refine Ca.of (bL c.a 24 hw.2.1 (by omega) w3) ?_;rintro _ _ ⟨rfl,rfl⟩;rw[e1];conv=>whnf
 repeat ((refine Ld.at (by omega) c2 ?_);conv=>whnf)
 refine Ca.of (bL c.x 1000000 hw.2.2 (by omega) w3) ?_;rintro _ _ ⟨rfl,rfl⟩;have e2':(1:Int)+((bD c.x 1000000:Nat):Int)=(c.n:Nat):=by rw[<-e2];omega
 have hb:=dP c.x (n:=1000000) (by omega);conv=>whnf
 repeat ((first|(refine Ld.at (by omega) c0 ?_)|refine Ar.la ?_|refine CW.s ?_);conv=>whnf)
 rw[e2'];refine Ca.of (bL c.kind 6 hw.1 (by omega) w3) ?_;rintro _ _ ⟨rfl,rfl⟩;rw[e3];rw[hk];conv=>whnf
 repeat ((first|(refine Ix.of c.of (by omega) (by omega) ?_)|refine Br.t ?_|refine Br.f ?_|refine CW.s ?_);conv=>whnf)
 rw[show 0+0+c.of=c.of by omega];refine Sd.rowAt fS c.of (by omega) (by omega) rfl ?_;intro w4 ia k4;have ia:Row w4 x4 28 24 (cO (ah a c.of 0)):=ia.congr (fun j hj=>zU a c.of 0 j);have D4:=D3.iz fS (by decide) k4;have vY:=r6.ab k4 (by simpa using h46.symm);have bU:=bG.fresh nV k4;have qB:=bU.size;clear D3 fS r6 k4 bG c0 c1 c2 oC;conv=>whnf
 refine CW.held (fun w'=>Row w' x4 28 24 (cO (ah a c.of 0))) [] (.take 0 (.take 1 (.take 2 (.one 3 (.one 4 (.take 5 (.take 6 (.done)))))))) ai (by kernel_rfl) (by kernel_rfl) (by kernel_rfl) ?_ ?_
 ·exact Row.drewN ia 1
 have q4:=(Aa.refl [] w4).drewN 1;have D5:=D4.aj q4;have iJ:=ia.ab q4 (by simp);have qI:=vY.ab q4 (by simp);have dL:=bU.trans q4;clear D4 ia vY bU q4;generalize w4.drewN 1=w6 at *;conv=>whnf
 repeat ((refine Am.of (fun w hS=>ei (q:=cO (ah a c.of 0)) hS underlying28 rfl aB (by omega) (fun j hj=>by rw[Nat.zero_add])) ?_);conv=>whnf)
 have D6:=D5;have nT:=iJ;have r66:=qI;have gG:=dL;clear D5 iJ qI dL;refine Ca.of (gJ D6) ?_;rintro u w7 ⟨k7,hr7⟩;have wL:=nT.ab k7 (D6.bW nT (by decide));have ue:=r66.ab k7 (D6.bW r66 (by decide));have hs6:=gG.size;have av:=D6.lJ;refine⟨wL,?_⟩;conv=>whnf
 refine Ru.im ue aB (by omega) (fun j hj=>cM _ j) ?_;intro w8 oZ k8;have oZ:Row w8 x6 28 24 (cO (ah a c.of 0)):=oZ.congr (fun j hj=>by unfold lay;rw[if_pos (by omega),Nat.sub_zero]);refine⟨wL.ab k8 (by simpa using h46),?_⟩;conv=>whnf
 refine Ru.cx (q:=cO (ah a c.of 0)) oZ underlying28 rfl aB (by omega) (fun j hj=>by rw[Nat.zero_add]) ?_;conv=>whnf
 have mY:=D6.bW r66 (by decide);have jd:=D6.rv;refine⟨rfl,((gG.mono (T:=own) (by simp)).trans k7).then k8 (fun x hx=>.inr (by rw[List.mem_singleton.1 hx];exact rA)),hr7.mono (fun b' hh=>?_) (fun Q hh=>?_)⟩
 ·obtain⟨rfl,dW,D7,h7⟩:=hh;refine⟨⟨none,0,0,fun _=>0,rfl,⟨rfl,rfl,rfl⟩,.inl rfl⟩,dW,D7.iz ue (by decide) k8,fun x hx=>?_⟩;rcases h7 x hx with h|h
  ·exact .inl h
  ·exact .inr (Nat.le_trans hs6 h)
 ·obtain⟨rfl,cj⟩:=hh;exact⟨rfl,cj.ab k8 (fun hm=>mY (by rw[<-List.mem_singleton.1 hm];exact jd.1)) (fun hm=>mY (by rw[<-List.mem_singleton.1 hm];exact jd.2))⟩
theorem af5(D:Ae w own d ch K P b){c:Cl}(hw:c.wf)(hk:4<=c.kd){a:Nat->Nat}{F:Nat->Nat}
  (gJ:∀ {w1:World},Ae w1 own d ch K P b->Spec Tryz.prog 22 #[.pointer (some ⟨d,0,none⟩),.int .i64 c.of] w1 fun v w'=>Bn own d ch K' P' b tr F w1 v w') :
  Spec Tryz.prog 19 #[.pointer (some ⟨d,0,none⟩),agg 24 (cO a),agg 3 c.cell] w fun v w'=>Bp own d ch K' P' b tr a (some F) w v w':=by
 have jK:=c.of_lt;have hn:=c.adq;have e1:bD c.a 24=c.of:=rfl;have e2:1+bD c.x 1000000=c.n:=rfl;have e3:bD c.kind 6=c.kd:=rfl;refine spec_of_wpE (T:=tt) ai func19 rfl (by decide +kernel) ntmps19 (by simp) ?_;conv=>whnf
 refine Ru.dr ?_;intro x4 w1 qj dj r4 k1;conv=>whnf
 refine Ru.dr ?_;intro x5 w2 hx5 gO r5 k2;conv=>whnf
 refine Ru.aE (di w2) ?_;intro x6 w3 hx6 gg r6 k3;have fS:=r4.ab (k2.trans k3) (by simp);have oC:=r5.ab k3 (by simp);have bG:=(k1.trans k2).trans k3;have D3:=D.aj bG;have nV:w.heap.size<=x4:=by omega
 have rA:w.heap.size<=x6:=by omega
 have h46:x4≠x6:=by omega
 clear r4 r5 k1 k2 k3 dj gO gg qj hx5 hx6 w1 w2 D;have c0:w3.cell? ⟨x5,0,none⟩=some (.int .i64 c.kind):=oC.cell 0 (by omega);have c1:w3.cell? ⟨x5,1,none⟩=some (.int .i64 c.a):=oC.cell 1 (by omega);have c2:w3.cell? ⟨x5,2,none⟩=some (.int .i64 c.x):=oC.cell 2 (by omega);conv=>whnf
 repeat ((refine Ld.at (by omega) c1 ?_);conv=>whnf)
 refine Ca.of (bL c.a 24 hw.2.1 (by omega) w3) ?_;rintro _ _ ⟨rfl,rfl⟩;rw[e1];conv=>whnf
 repeat ((refine Ld.at (by omega) c2 ?_);conv=>whnf)
 refine Ca.of (bL c.x 1000000 hw.2.2 (by omega) w3) ?_;rintro _ _ ⟨rfl,rfl⟩;have e2':(1:Int)+((bD c.x 1000000:Nat):Int)=(c.n:Nat):=by rw[<-e2];omega
 have hb:=dP c.x (n:=1000000) (by omega);conv=>whnf
 repeat ((first|(refine Ld.at (by omega) c0 ?_)|refine Ar.la ?_|refine CW.s ?_);conv=>whnf)
 rw[e2'];refine Ca.of (bL c.kind 6 hw.1 (by omega) w3) ?_;rintro _ _ ⟨rfl,rfl⟩;rw[e3];have anh:c.kd<6:=dP _ (by omega);have hk3:c.kd=4\/c.kd=5:=by omega
 rcases hk3 with h|h
 all_goals
  rw[h];conv=>whnf
  repeat ((first|refine Br.f ?_|refine CW.s ?_);conv=>whnf)
  refine Ca.of (gJ D3) ?_;rintro u w7 ⟨k7,hr7⟩;have wL:=fS.ab k7 (D3.bW fS (by decide));have ue:=r6.ab k7 (D3.bW r6 (by decide));have mY:=D3.bW r6 (by decide);have jd:=D3.rv;have av:=D3.lJ;have gg:=bG.size;have hs7:=k7.size;have ari:=r6.lt;have fin:∀w8,Aa [x6] w7 w8->Aa own w w8:=fun w8 k8=>((bG.mono (T:=own) (by simp)).trans k7).then k8 (fun x hx=>.inr (by rw[List.mem_singleton.1 hx];exact rA));rcases hr7 with⟨f7,⟨Y,e,rfl,hY,hYn⟩,dW,D7,h7⟩|⟨y,hy,jq,rfl,cj⟩
  ·conv=>whnf
   refine Ru.cx (q:=cO a) wL underlying28 rfl aB (by omega) (fun j hj=>by rw[Nat.zero_add]) ?_;conv=>whnf
   refine Ru.im ue aB (by omega) (fun j hj=>cM _ j) ?_;intro w8 oZ k8;have oZ:Row w8 x6 28 24 (cO a):=oZ.congr (fun j hj=>by unfold lay;rw[if_pos (by omega),Nat.sub_zero]);conv=>whnf
   refine Ru.cx (q:=cO a) oZ underlying28 rfl aB (by omega) (fun j hj=>by rw[Nat.zero_add]) ?_;conv=>whnf
   refine⟨rfl,fin w8 k8,.inl ⟨f7,⟨Y,160,e,F,rfl,⟨rfl,rfl⟩,.inr ⟨hY.ab k8 (fun x hx hm=>?_),fun x hx=>Nat.le_trans gg (hYn x hx)⟩⟩,dW,D7.iz ue (by decide) k8,fun x hx=>?_⟩⟩
   ·have:=hYn x hx;rw[List.mem_singleton.1 hm] at this;omega
   ·rcases h7 x hx with h|h
    ·exact .inl h
    ·exact .inr (Nat.le_trans gg h)
  ·conv=>whnf
   refine Ru.cx (q:=cO a) wL underlying28 rfl aB (by omega) (fun j hj=>by rw[Nat.zero_add]) ?_;conv=>whnf
   refine Ru.im ue aB (by omega) (fun j hj=>cM _ j) ?_;intro w8 oZ k8;have oZ:Row w8 x6 28 24 (cO a):=oZ.congr (fun j hj=>by unfold lay;rw[if_pos (by omega),Nat.sub_zero]);conv=>whnf
   refine Ru.cx (q:=cO a) oZ underlying28 rfl aB (by omega) (fun j hj=>by rw[Nat.zero_add]) ?_;conv=>whnf
   exact⟨rfl,fin w8 k8,.inr ⟨y,hy,jq,rfl,cj.ab k8 (fun hm=>mY (by rw[<-List.mem_singleton.1 hm];exact jd.1)) (fun hm=>mY (by rw[<-List.mem_singleton.1 hm];exact jd.2))⟩⟩
end
def mZ(a:Nat->Nat)(o j:Nat):Nat:=yq (a o) j
theorem s8(a:Nat->Nat)(s x:Nat):gV (mZ a) s (yq x)=mZ (ah a s x):=by
 funext o j;unfold gV mZ ah;split<;>rfl
structure Co(c:Cl)(a:Nat->Nat)(rd:Option (Nat->Nat)):Prop where
 none:c.kd<=3->rd=none
 some:4<=c.kd->∃F,rd=some F/\∀j,j<160->F j=mZ a c.of j
theorem af6{K:KS}{P:CS}{k:Cp}{m:Int}(I:Inv K P k m)(hq:K.qu=[])(hm:m+1<1099511627775){c:Cl}(hw:c.wf){a:Nat->Nat}(hs:Ac P K.at_ (mZ a)):∃K' P' k' t1 t2 rd,A1 K P m (mZ a) (mZ (c.arr a)) K' P' k' t1 t2/\Co c a rd /\
  ∀ {w:World} {own:List Nat} {d ch:Nat} {b:Option Nat},Ae w own d ch K P b->Spec Tryz.prog 19 #[.pointer (some ⟨d,0,none⟩),agg 24 (cO a),agg 3 c.cell] w fun v w'=>Bp own d ch K' P' b (t1++t2) (c.arr a) rd w v w':=by
 by_cases h1:c.kd<=2
 ·obtain⟨K',P',k',t1,t2,h,hc⟩:=afY I hq hm c.of_lt (f:=yq c.n) (ru _);have e:c.arr a=ah a c.of c.n:=if_pos h1;refine⟨K',P',k',t1,t2,none,?_,⟨fun _=>rfl,fun h=>by omega⟩,fun D=>?_⟩
  ·rw[e, <-s8];exact h _ hs
  ·rw[e];exact adr D hw h1 (fun D1 hA he=>hc D1 hA he)
 ·by_cases h3:c.kd=3
  ·obtain⟨K',P',k',t1,t2,h,hc⟩:=ajb I hq hm c.of_lt;have e:c.arr a=ah a c.of 0:=by
    unfold Cl.arr;rw[if_neg h1,if_pos h3]
   refine⟨K',P',k',t1,t2,none,?_,⟨fun _=>rfl,fun h=>by omega⟩,fun D=>?_⟩
   ·rw[e, <-s8];exact h _ hs
   ·rw[e];exact af4 D hw h3 (fun D1=>hc D1)
  ·obtain⟨K',P',k',t2,F,h,hc⟩:=ajc I hq hm c.of_lt;have e:c.arr a=a:=by
    unfold Cl.arr;rw[if_neg h1,if_neg h3]
   obtain⟨h4,h5⟩:=h _ hs;refine⟨K',P',k',[],t2,some F,?_,⟨fun h=>by omega,fun _=>⟨F,rfl,h5⟩⟩,fun D=>?_⟩
   ·rw[e];exact h4
   ·rw[e];exact af5 D hw (by omega) (fun D1=>hc D1)
structure At(K K':KS)(P P':CS)(c:Nat):Prop where
 nil:c=0->K'=K/\P'=P
 go:0<=K.calls->K.calls<8->(0<=K'.calls/\K'.calls<8)/\∀J,Be J->∀n,J n K P->J (n+c) K' P'
 did:∀J:KS->CS->Prop,(∀K P K' P',Ds K P K' P'->J K P->J K' P')->J K P->J K' P'
theorem At.refl(K:KS)(P:CS):At K K P P (130*0):=⟨fun _=>⟨rfl,rfl⟩,fun h0 h8=>⟨⟨h0,h8⟩,fun J S n j=>j⟩,fun J _ j=>j⟩
theorem At.step{K K1 K':KS}{P P1 P':CS}{m:Int}{a a':Nat->Nat->Nat}{k':Cp}{t1 t2:List CS}{i:Nat}(h:At K K1 P P1 (130*i))(E:A1 K1 P1 m a a' K' P' k' t1 t2):At K K' P P' (130*(i+1)):=⟨fun e=>by omega,fun h0 h8=>by
 obtain⟨⟨a1,a2⟩,a3⟩:=h.go h0 h8;obtain⟨⟨b1,b2,-⟩,b3⟩:=E.st a1 a2;exact⟨⟨b1,b2⟩,fun J S n j=>S.mono (by omega) (b3 J S _ (a3 J S n j))⟩,fun J st j=>st _ _ _ _ E.did (h.did J st j)⟩
def clF(L:List Cl)(q:Nat):Value:=(L.getD (q/3) ⟨0,0,0⟩).cell (q%3)
def bE(a:Nat->Nat)(L:List Cl):Nat->Nat:=L.foldl (fun a c=>c.arr a) a
theorem vG(a:Nat->Nat)(L:List Cl)(c:Cl):bE a (L++[c])=c.arr (bE a L):=by
 unfold bE;rw[List.foldl_append];rfl
theorem ajl{a:Nat->Nat}(h:∀o,a o<=1000000)(c:Cl):∀o,c.arr a o<=1000000:=fun o=>by
 have:=c.adq;unfold Cl.arr;split
 ·unfold ah;split
  ·exact this
  ·exact h o
 ·split
  ·unfold ah;split
   ·omega
   ·exact h o
  ·exact h o
theorem abK{a:Nat->Nat}(h:∀o,a o<=1000000)(L:List Cl):∀o,bE a L o<=1000000:=by
 induction L using eA with
 |h0=>exact h
 | h1 L c ih =>
  rw[vG];exact ajl ih c
theorem alC{L:List Cl}{i:Nat}(h:i<L.length):L.take (i+1)=L.take i++[L.getD i ⟨0,0,0⟩]:=by
 rw[List.take_add_one,List.getD_eq_getElem?_getD,List.getElem?_eq_getElem h];rfl
theorem anZ{L:List Cl}{i:Nat}(h:i<L.length):L.getD i ⟨0,0,0⟩∈L:=by
 rw[List.getD_eq_getElem?_getD,List.getElem?_eq_getElem h];exact List.getElem_mem h
theorem ajm{w:World}{A:Option Addr}{L:List Cl}(r:Rd w A (L.length*3) (clF L)){i:Nat}(hi:i<L.length):∃g o,A=some ⟨g,o,none⟩/\∀j,j<3->w.cell? ⟨g,o+i*3+j,none⟩=some ((L.getD i ⟨0,0,0⟩).cell j):=by
 obtain⟨g,o,e,h⟩:=r (by omega);refine⟨g,o,e,fun j hj=>?_⟩;have:=h (i*3+j) (by omega);rw[<-Nat.add_assoc] at this;rw[this];unfold clF;rw[show(i*3+j)/3=i by omega,show(i*3+j)%3=j by omega]
theorem alD:(Tryz.prog.info? 36).map (·.size)=some 3:=by kernel_rfl
theorem ajn{w:World}{g o:Nat}{c:Cl}(h:∀j,j<3->w.cell? ⟨g,o+j,none⟩=some (c.cell j)):(loadVar 36 ⟨g,o,none⟩).run Tryz.prog w=.ok (agg 3 c.cell) w:=by
 have e:∀m,m<3->(load ((⟨g,o,none⟩:Addr).add m)).run Tryz.prog w=.ok (c.cell m) w:=fun m hm=>by
  rw[gI];simp[load,Sem.run,h m hm]
 have ha:(isAgg 36).run Tryz.prog w=.ok true w:=iv underlying36 rfl w;have hs:(sizeOf 36).run Tryz.prog w=.ok 3 w:=dp (by kernel_rfl) w;simp only[loadVar,Sem.run_bind,ha,Result.andThen_ok,if_true,hs,loadCells,loadCellsFrom,e 0 (by omega),e 1 (by omega),e 2 (by omega),Sem.run_pure];rw[show agg 3 c.cell=.agg #[c.cell 0,c.cell 1,c.cell 2] by unfold agg;simp[Array.range,Array.ofFn_succ]];rfl
theorem ajo(w:World)(x:Operand)(A:Option Addr)(n c:Nat):(do eqGuard .neq 37 x (.const (.slice none 0 0)) (.slice A n c) (.slice none 0 0);binOp .neq 37 (.slice A n c) (.slice none 0 0):Sem Value).run Tryz.prog w=.ok (.bool A.isSome) w:=by
 cases A<;>kernel_rfl
section
variable{w w':World}{own:List Nat}{d ch:Nat}{K:KS}{P:CS}{k:Cp}{m:Int}
structure Dt(w0:World)(ajp:List Nat)(d ch:Nat)(K:KS)(P:CS)(k:Cp)(m:Int)(a:Nat->Nat)(own:List Nat)(w:World):Prop where
 on:Ae w own d ch K P none
 inv:Inv K P k m
 qu:K.qu=[]
 sh:Ac P K.at_ (mZ a)
 sub:∀x,x∈own->x∈ajp\/w0.heap.size<=x
 kk:Aa ajp w0 w
theorem ajq(D:Ae w own d ch K P none)(I:Inv K P k m)(hq:K.qu=[]){a:Nat->Nat}(hs:Ac P K.at_ (mZ a)){L:List Cl}{A:Option Addr}{cA:Nat}(hL:Rd w A (L.length*3) (clF L))(hw:∀c,c∈L->c.wf)(hA:0<L.length->∀x,A=some x->x.block∉own)(hm:m+2*L.length<1099511627775)(ha:∀o,a o<=1000000) :
  Spec Tryz.prog 41 #[.pointer (some ⟨d,0,none⟩),agg 24 (cO a),.slice A L.length cA] w fun v w'=>v=.tuple #[agg 24 (cO (bE a L)),.bool true]/\∃K' P' k' dW,Dt w own d ch K' P' k' (m+2*L.length) (bE a L) dW w'/\At K K' P P' (130*L.length):=by
 have arP:1<=m:=by
  have:=I.l.next;omega
 have al9:∀(w1 w2:World),Aa [w.heap.size] w1 w2->Rd w1 A (L.length*3) (clF L)->Rd w2 A (L.length*3) (clF L):=fun w1 w2 k' h' hn0=>by
  obtain⟨b0,o0,rfl,yG⟩:=hL hn0;have h9:b0<w.heap.size:=aZ (yG 0 hn0);exact h'.ab k' (fun a e hm=>by
   cases e
   have h8:b0=w.heap.size:=List.mem_singleton.1 hm;omega) hn0
 refine spec_of_wpE (T:=tt) ai func41 rfl (by decide +kernel) ntmps41 (by simp) ?_;conv=>whnf
 refine Ru.dr ?_;intro x4 w1 qj dj r4 k1;conv=>whnf
 refine Ru.aE (di w1) ?_;intro x6 w2 hx6 gO r6 k2;have l8:=r4.ab k2 (by simp);have dh:=k1.trans k2;have D2:=D.aj dh;have hL2:=hL.aj dh;have nV:w.heap.size<=x4:=by omega
 have rA:w.heap.size<=x6:=by omega
 have h46:x4≠x6:=by omega
 rw[<-qj] at al9;clear r4 k1 k2 dj gO qj hx6 w1;conv=>whnf
 repeat (refine CW.s ?_;conv=>whnf)
 refine CW.loop (ι:=Nat×KS×CS×Cp×List Nat) (fun i w'=>i.1<=L.length/\Dt w own d ch i.2.1 i.2.2.1 i.2.2.2.1 (m+2*i.1) (bE a (L.take i.1)) i.2.2.2.2 w'/\Row w' x4 28 24 (cO (bE a (L.take i.1)))/\Row w' x6 28 24 (cO fun _=>0)/\Rd w' A (L.length*3) (clF L)/\At K i.2.1 P i.2.2.1 (130*i.1))
  (fun i=>[(0,.pointer (some ⟨d,0,none⟩)),(2,.slice A L.length cA),(4,.pointer (some ⟨x4,0,none⟩)),(6,.pointer (some ⟨x6,0,none⟩)),(8,.int .i64 i.1)]) (fun i=>L.length-i.1) (0,K,P,k,own) ai
  ⟨by omega,⟨D2,by simpa using I,hq,hs,fun x hx=>.inl hx,dh.mono (by simp)⟩,l8,r6,hL2,At.refl K P⟩ ⟨rfl,rfl,rfl,rfl,rfl,trivial⟩ ?_;clear D2 l8 r6 hL2 dh;rintro⟨i,K1,P1,k1,ajr⟩ wr ⟨hi,⟨D1,I1,q1,s1,ads,kk⟩,r4,r6,hLr,hz⟩;simp only at hi D1 I1 q1 s1 ads kk r4 r6 hLr hz ⊢;rcases Nat.lt_or_ge i L.length with av|wg
 ·obtain⟨g,o,rfl,bM⟩:=ajm hLr av;have kM:=alC av;have pH:=hw _ (anZ av);have hgo:g∉ajr:=fun hx=>by
   rcases ads g hx with h|h
   ·exact hA (by omega) _ rfl h
   ·obtain⟨g',o',e',h'⟩:=hL (by omega)
    cases e'
    have h9:g<w.heap.size:=aZ (h' 0 (by omega));omega
  generalize L.getD i ⟨0,0,0⟩=c at *;conv=>whnf
  repeat ((first|refine Br.y ?_|refine CW.s ?_);conv=>whnf)
  refine CW.held (fun w'=>Row w' x4 28 24 (cO (bE a (L.take i)))/\∀j,j<3->w'.cell? ⟨g,o+i*3+j,none⟩=some (c.cell j)) [] (.take 0 (.take 1 (.take 2 (.take 3 (.take 4 (.take 5 (.two 6 (.take 7 (.take 8 (.take 9 (.take 10 (.one 11 (.one 12 (.take 13 (.take 14 (.done))))))))) 11 (.one 6 (.take 7 (.take 8 (.take 9 (.take 10 (.one 12 (.take 13 (.take 14 (.done)))))))))))))))) ai (by kernel_rfl) (by kernel_rfl) (by kernel_rfl) ?_ ?_
  ·exact⟨Row.drewN r4 1,bM⟩
  have q2:=(Aa.refl [] wr).drewN 1;have D2:=D1.aj q2;have l8:=r4.ab q2 (by simp);have zo:=r6.ab q2 (by simp);have hL2:=hLr.aj q2;have lU:∀j,j<3->(wr.drewN 1).cell? ⟨g,o+i*3+j,none⟩=some (c.cell j):=bM;have dh:=kk.trans (q2.mono (T:=own) (by simp));clear D1 r4 r6 hLr bM kk q2;generalize wr.drewN 1=w2 at *;obtain⟨K2,P2,k2,t1,t2,rd,CE,An,gJ⟩:=af6 I1 q1 (by omega) pH s1;conv=>whnf
  repeat ((first|(refine Am.of (fun w hS=>ei (q:=cO (bE a (L.take i))) hS.1 underlying28 rfl aB (by omega) (fun j hj=>by rw[Nat.zero_add])) ?_)|(refine Ix.of i (by omega) (by omega) ?_)|(refine Am.of (fun w hS=>ajn hS.2) ?_));conv=>whnf)
  refine And.intro ?_ ?_
  case' refine_1 =>
   refine Ca.of (gJ D2) ?_;rintro u w3 ⟨k3,hr3⟩;rcases hr3 with⟨f3,⟨Y,n,e,f,rfl,hm1,hm2⟩,own3,D3,h3⟩|⟨y,hy,jq,-⟩
   case inr=>cases jq
   have fS:=l8.ab k3 (D2.bW l8 (by decide));have r63:=zo.ab k3 (D2.bW zo (by decide));have hL3:=hL2.ab k3 (fun x ex hm=>by cases ex;exact hgo hm);have zV:∀j,j<3->w3.cell? ⟨g,o+i*3+j,none⟩=some (c.cell j):=fun j hj=>(k3.cell (aZ (lU j hj)) hgo).trans (lU j hj);have bG:Aa own w w3:=dh.then k3 ads;have gO:=dh.size;have apx:∀x,x∈own3->x∈own\/w.heap.size<=x:=fun x hx=>by
    rcases h3 x hx with h|h
    ·exact ads x h
    ·exact .inr (Nat.le_trans gO h)
   have gg:=k3.size;clear D2 l8 zo hL2 lU k3 h3;refine⟨⟨fS,zV⟩,?_⟩;conv=>whnf
   refine Ru.aE (di w3) ?_;intro x9 w4 hx9 qB r9 k4;refine⟨⟨fS.ab k4 (by simp),fun j hj=>(k4.cell (aZ (zV j hj)) (by simp)).trans (zV j hj)⟩,?_⟩;conv=>whnf
   refine Ru.im r9 aB (by omega) (fun j hj=>cM _ j) ?_;intro w5 sX k5;have sX:Row w5 x9 28 24 (cO (c.arr (bE a (L.take i)))):=sX.congr (fun j hj=>by unfold lay;rw[if_pos (by omega),Nat.sub_zero]);have q5:Aa [] w3 w5:=k4.then k5 (fun x hx=>.inr (by rw[List.mem_singleton.1 hx,hx9];exact Nat.le_refl _));have hY5:rd=none\/Ly w5 5 1 Y n e (fun j=>.int .u8 (f j:Nat)):=by
    rcases hm2 with h|⟨h,-⟩
    ·exact .inl h
    ·exact .inr (h.aj q5)
   have D5:=D3.aj q5;have iJ:=fS.ab q5 (by simp);have qI:=r63.ab q5 (by simp);have hL5:=hL3.aj q5;have hc5:∀j,j<3->w5.cell? ⟨g,o+i*3+j,none⟩=some (c.cell j):=fun j hj=>(q5.cell (aZ (zV j hj)) (by simp)).trans (zV j hj);have dL:=bG.trans (q5.mono (T:=own) (by simp));have h49:x4≠x9:=by
    have:=fS.lt;omega
   clear D3 fS r63 hL3 zV k4 k5 r9 qB bG q5 hm2 hx9;refine⟨⟨iJ,hc5⟩,?_⟩;conv=>whnf
   repeat ((first|refine Br.f ?_|refine Ru.ak ?_|refine CW.s ?_);conv=>whnf)
  case' refine_2 =>
   refine Ru.aE (di w2) ?_;intro x9 w3 hx9 qB r9 k4;have h49:x4≠x9:=by
    have:=l8.lt;omega
   have h69:x6≠x9:=by
    have:=zo.lt;omega
   have hg9:g≠x9:=by
    have h9:g<w2.heap.size:=aZ (lU 0 (by omega));omega
   have h9w:w.heap.size<=x9:=by
    have:=dh.size;omega
   have D3:=D2.aj k4;have fS:=l8.ab k4 (by simp);have r63:=zo.ab k4 (by simp);have hL3:=hL2.aj k4;have zV:∀j,j<3->w3.cell? ⟨g,o+i*3+j,none⟩=some (c.cell j):=fun j hj=>(k4.cell (aZ (lU j hj)) (by simp)).trans (lU j hj);have bG:=dh.trans (k4.mono (T:=own) (by simp));clear D2 l8 zo hL2 lU dh k4 qB hx9;refine⟨⟨fS,zV⟩,?_⟩;conv=>whnf
   refine Ca.of (gJ D3) ?_;rintro u w4 ⟨k3,hr3⟩;rcases hr3 with⟨f3,⟨Y,n,e,f,rfl,hm1,hm2⟩,own3,D4,h3⟩|⟨y,hy,jq,-⟩
   case inr=>cases jq
   have ia:=fS.ab k3 (D3.bW fS (by decide));have vY:=r63.ab k3 (D3.bW r63 (by decide));have r94:=r9.ab k3 (D3.bW r9 (by decide));have hL4:=hL3.ab k3 (fun x ex hm=>by cases ex;exact hgo hm);have hc4:∀j,j<3->w4.cell? ⟨g,o+i*3+j,none⟩=some (c.cell j):=fun j hj=>(k3.cell (aZ (zV j hj)) hgo).trans (zV j hj);have bU:Aa own w w4:=bG.then k3 ads;have gO:=bG.size;have apx:∀x,x∈own3->x∈own\/w.heap.size<=x:=fun x hx=>by
    rcases h3 x hx with h|h
    ·exact ads x h
    ·exact .inr (Nat.le_trans gO h)
   have gg:=k3.size;have h9l:=r9.lt;clear D3 fS r63 r9 hL3 zV k3 h3 bG;refine⟨⟨ia,hc4⟩,?_⟩;conv=>whnf
   refine Ru.im r94 aB (by omega) (fun j hj=>cM _ j) ?_;intro w5 sX k5;have sX:Row w5 x9 28 24 (cO (c.arr (bE a (L.take i)))):=sX.congr (fun j hj=>by unfold lay;rw[if_pos (by omega),Nat.sub_zero]);have hY5:rd=none\/Ly w5 5 1 Y n e (fun j=>.int .u8 (f j:Nat)):=by
    rcases hm2 with h|⟨h,h'⟩
    ·exact .inl h
    ·exact .inr (h.ab k5 (fun x hx hm=>by
      have:=h' x hx;rw[List.mem_singleton.1 hm] at this;omega))
   have D5:=D4.iz r94 (by decide) k5;have iJ:=ia.ab k5 (by simpa using h49);have qI:=vY.ab k5 (by simpa using h69);have hL5:=hL4.ab k5 (fun x ex hm=>by cases ex;exact hg9 (List.mem_singleton.1 hm));have hc5:∀j,j<3->w5.cell? ⟨g,o+i*3+j,none⟩=some (c.cell j):=fun j hj=>(k5.cell (aZ (hc4 j hj)) (by simpa using hg9)).trans (hc4 j hj);have dL:=bU.then k5 (fun x hx=>.inr (by rw[List.mem_singleton.1 hx];exact h9w));clear D4 ia vY r94 hL4 hc4 k5 bU hm2 h69 hg9 h9w h9l;refine⟨⟨iJ,hc5⟩,?_⟩;conv=>whnf
   repeat ((first|refine Br.f ?_|refine Ru.ak ?_|refine CW.s ?_);conv=>whnf)
  all_goals
   refine Ru.of (ajo w5 _ _ _ _) ?_;have bq:bE a (L.take (i+1))=c.arr (bE a (L.take i)):=by rw[kM,vG]
   have fin:∀w6,Aa [x4] w5 w6->Row w6 x4 28 24 (cO (c.arr (bE a (L.take i))))->(i+1<=L.length/\Dt w own d ch K2 P2 k2 (m+2*(i+1:Nat)) (bE a (L.take (i+1))) own3 w6/\Row w6 x4 28 24 (cO (bE a (L.take (i+1))))/\Row w6 x6 28 24 (cO fun _=>0)/\Rd w6 (some ⟨g,o,none⟩) (L.length*3) (clF L)/\At K K2 P P2 (130*(i+1))):=fun w6 k6 nT=>by
    rw[bq];have I6:=CE.inv;rw[show m+2*((i:Nat):Int)+2=m+2*((i+1:Nat):Int) by omega] at I6;refine⟨av,⟨D5.iz iJ (by decide) k6,I6,CE.qu,CE.sh,apx,dL.then k6 (fun x hx=>.inr (by rw[List.mem_singleton.1 hx];exact nV))⟩,nT,qI.ab k6 (by simpa using h46.symm),al9 _ _ k6 hL5,hz.step CE⟩
   cases rd with
   | none =>
    obtain⟨rfl,rfl,rfl⟩:=hm1;conv=>whnf
    repeat ((first|refine Br.f ?_|refine Pk.f ?_);conv=>whnf)
    refine Ru.cx (q:=cO (c.arr (bE a (L.take i)))) sX underlying28 rfl aB (by omega) (fun j hj=>by rw[Nat.zero_add]) ?_;conv=>whnf
    refine Ru.im iJ aB (by omega) (fun j hj=>cM _ j) ?_;intro w6 nT k6;have nT:Row w6 x4 28 24 (cO (c.arr (bE a (L.take i)))):=nT.congr (fun j hj=>by unfold lay;rw[if_pos (by omega),Nat.sub_zero]);conv=>whnf
    repeat (refine Ar.la ?_;conv=>whnf)
    exact⟨(i+1,K2,P2,k2,own3),fin w6 k6 nT,⟨rfl,rfl,rfl,rfl,vi (by simp only;omega),trivial⟩,by simp only;omega⟩
   | some F =>
    obtain⟨apy,hfF⟩:=hm1;subst apy;have hkd:4<=c.kd:=by
     by_cases h:c.kd<=3
     ·have:=An.none h
      cases this
     ·omega
    obtain⟨F',hF',hFe⟩:=An.some hkd
    cases hF'
    have jK:=c.of_lt;have hY6:Rd w5 Y 160 (fun j=>.int .u8 ((yq (bE a (L.take i) c.of) j:Nat):Int)):=by
     rcases hY5 with h|h
     ·cases h
     ·have h2:=h.rd;rw[Nat.mul_one] at h2;intro hp;obtain⟨g1,o1,e1,h3⟩:=h2 hp;refine⟨g1,o1,e1,fun j hj=>?_⟩;rw[h3 j hj,hfF];show some (Value.int .u8 ((F j:Nat):Int))=_;rw[hFe j hj];rfl
    obtain⟨gy,oy,rfl,hcy⟩:=hY6 (by omega);have hY6:Rd w5 (some ⟨gy,oy,none⟩) 160 (fun j=>.int .u8 ((yq (bE a (L.take i) c.of) j:Nat):Int)):=fun _=>⟨gy,oy,rfl,hcy⟩
    have ha1:=abK ha (L.take i) c.of;have c1:w5.cell? ⟨g,o+i*3+1,none⟩=some (.int .i64 c.a):=hc5 1 (by omega);have ca:w5.cell? ⟨x4,c.of,none⟩=some (.int .i64 (bE a (L.take i) c.of:Nat)):=iJ.cell c.of (by omega);have arj:bD c.a 24=c.of:=rfl;conv=>whnf
    repeat ((first|(refine Ix.of i (by omega) (by omega) ?_)|(refine Ld.at (by omega) c1 ?_)|refine Br.t ?_|refine Br.f ?_);conv=>whnf)
    refine Ca.of (bL c.a 24 pH.2.1 (by omega) w5) ?_;rintro _ _ ⟨rfl,rfl⟩;rw[arj];conv=>whnf
    repeat ((first|(refine Ix.of c.of (by omega) (by omega) ?_)|(refine Ld.at (by omega) ca ?_)|refine Br.t ?_);conv=>whnf)
    refine Ca.of (nQ _ (by omega) w5) ?_;rintro _ w6 ⟨gb,rfl,vO,rb,k6⟩;conv=>whnf
    repeat (refine Br.t ?_;conv=>whnf)
    refine Ca.of (yr _ _ 160 160 _ _ (fun j=>((yq (bE a (L.take i) c.of) j:Nat):Int)) (fun j=>((yq (bE a (L.take i) c.of) j:Nat):Int)) w6 (hY6.aj k6) (Rd.dq rb (n:=160) (by omega)) (fun j=>by have:=ru (bE a (L.take i) c.of) j;omega) (fun j=>by have:=ru (bE a (L.take i) c.of) j;omega)) ?_;rintro _ _ ⟨rfl,rfl⟩;rw[m9 rfl (fun _ _=>rfl)];have r96:=sX.ab k6 (by simp);have nT:=iJ.ab k6 (by simp);conv=>whnf
    repeat ((first|refine Br.t ?_|refine Br.f ?_|refine Pk.f ?_|refine Pk.t ?_);conv=>whnf)
    refine Ru.cx (q:=cO (c.arr (bE a (L.take i)))) r96 underlying28 rfl aB (by omega) (fun j hj=>by rw[Nat.zero_add]) ?_;conv=>whnf
    refine Ru.im nT aB (by omega) (fun j hj=>cM _ j) ?_;intro w7 wL k7;have wL:Row w7 x4 28 24 (cO (c.arr (bE a (L.take i)))):=wL.congr (fun j hj=>by unfold lay;rw[if_pos (by omega),Nat.sub_zero]);conv=>whnf
    repeat (refine Ar.la ?_;conv=>whnf)
    exact⟨(i+1,K2,P2,k2,own3),fin w7 ((k6.mono (by simp)).trans k7) wL,⟨rfl,rfl,rfl,rfl,vi (by simp only;omega),trivial⟩,by simp only;omega⟩
 ·obtain rfl:i=L.length:=by omega
  rw[List.take_length] at *;conv=>whnf
  repeat ((first|refine Br.n ?_|refine CW.s ?_);conv=>whnf)
  refine Ru.cx (q:=cO (bE a L)) r4 underlying28 rfl aB (by omega) (fun j hj=>by rw[Nat.zero_add]) ?_;conv=>whnf
  refine Ru.im r6 aB (by omega) (fun j hj=>cM _ j) ?_;intro w5 qI k5;have qI:Row w5 x6 28 24 (cO (bE a L)):=qI.congr (fun j hj=>by unfold lay;rw[if_pos (by omega),Nat.sub_zero]);conv=>whnf
  refine Ru.cx (q:=cO (bE a L)) qI underlying28 rfl aB (by omega) (fun j hj=>by rw[Nat.zero_add]) ?_;conv=>whnf
  exact⟨rfl,rfl,K1,P1,k1,ajr,⟨D1.iz r6 (by decide) k5,I1,q1,s1,ads,kk.then k5 (fun x hx=>.inr (by rw[List.mem_singleton.1 hx];exact rA))⟩,hz⟩
end
def CS.zero:CS:=⟨fun _=>.blank,fun _=>0,fun _=>0,fun _=>false,fun _=>0,fun _=>false⟩
theorem yv:CS.zero.bare:=⟨⟨fun _=>rfl,fun _=>Int.le_refl 0,fun _=>rfl,fun _=>rfl⟩,fun _=>rfl⟩
theorem af7:Abs Chip.fresh CS.zero:=by
 refine⟨⟨Int.le_refl 0,by show(0:Int)<=9223372036854775807;omega,fun _=>by show(0:Int)<=9223372036854775807;omega,fun _ _ _=>by show 255<256;omega,fun _ _ _=>by show 255<256;omega⟩,fun p hp k hk=>⟨rfl,rfl⟩,fun p k hp hk=>?_,fun p t D hp e=>(by cases e),rfl,rfl,rfl,rfl,fun p k hp hk=>?_⟩
 ·rw[show Chip.fresh.ch p k=Chunk.blank from rfl];unfold Chunk.blank;rw[gR];omega
 ·rw[show Chip.fresh.ch p k=Chunk.blank from rfl];unfold Chunk.blank;rw[gR];exact Int.le_refl 0
theorem adt:Chip.fresh.left none:=⟨rfl,rfl⟩
theorem af8{C:Chip}{P:CS}(h:Abs C P):Abs C.ahb P/\C.ahb.left none :=
 ⟨h.ext ⟨Int.le_refl 0,by show(0:Int)<=9223372036854775807;omega,h.wf.bf,h.wf.now,h.wf.cy⟩ rfl rfl rfl h.rd h.failed h.before h.aC,rfl,rfl⟩
theorem alE{C:Chip}{P:CS}{b:Option Nat}(h:Abs C P)(hl:C.left b){n:Nat}(hn:n<=9223372036854775807):Abs (C.afb n) P/\(C.afb n).left (some n):=by
 unfold Chip.afb;rw[if_neg (by rw[hl.1];decide)];exact⟨h.ext ⟨by show(0:Int)<=(n:Int);omega,by show(n:Int)<=9223372036854775807;omega,h.wf.bf,h.wf.now,h.wf.cy⟩ rfl rfl rfl h.rd h.failed h.before h.aC,hl.1,rfl,rfl⟩
theorem ajs(w:World):(Instr.build 28 #[]).run Tryz.prog w=.ok (agg 24 (cO fun _=>0)) w:=by kernel_rfl
theorem zW(w:World)(x:Operand)(a:Addr):(do eqGuard .eql 24 x (.const (.pointer none)) (.pointer (some a)) (.pointer none);binOp .eql 24 (.pointer (some a)) (.pointer none):Sem Value).run Tryz.prog w=.ok (.bool false) w:=by kernel_rfl
structure Cz(w0 w:World)(ch d:Nat)(own:List Nat)(K:KS)(P:CS)(k:Cp)(m:Int)(a:Nat->Nat):Prop where
 on:Ae w own d ch K P none
 inv:Inv K P k m
 qu:K.qu=[]
 sh:Ac P K.at_ (mZ a)
 new:∀x,x∈own->w0.heap.size<=x
 kk:Aa [] w0 w
theorem af9{w:World}{L:List Cl}{A:Option Addr}{cA:Nat}(hL:Rd w A (L.length*3) (clF L))(hw:∀c,c∈L->c.wf)(hn:L.length<=1048576) :
  Spec Tryz.prog 15 #[.slice A L.length cA] w fun v w'=>∃ch d own K P k,v=.tuple #[.pointer (some ⟨ch,0,none⟩),.pointer (some ⟨d,0,none⟩),agg 24 (cO (bE (fun _=>0) L))]/\Cz w w' ch d own K P k (2+2*L.length) (bE (fun _=>0) L)/\∃K0 P0 tr0 k0,AJ CS.zero K0 P0 tr0/\Inv K0 P0 k0 2/\Bo CS.zero K0 P0/\At K0 K P0 P (130*L.length):=by
 obtain⟨K0,P0,t0,k0,M0,I0,q0,fa0,s0⟩:=af1 yv;have s0:Ac P0 K0.at_ (mZ fun _=>0):=s0;refine spec_of_wpE (T:=tt) ai func15 rfl (by decide +kernel) ntmps15 (by simp) ?_;conv=>whnf
 refine Ru.aE (di w) ?_;intro x4 w1 qj dj r4 k1;conv=>whnf
 refine Ru.of (ajs w1) ?_;conv=>whnf
 refine Ru.aE (di w1) ?_;intro x5 w2 hx5 gO r5 k2;conv=>whnf
 refine Ru.im r5 aB (by omega) (fun j hj=>cM _ j) ?_;intro w3 oC k3;have oC:Row w3 x5 28 24 (cO fun _=>0):=oC.congr (fun j hj=>by unfold lay;rw[if_pos (by omega),Nat.sub_zero]);have q3:Aa [] w1 w3:=k2.then k3 (fun x hx=>.inr (by rw[List.mem_singleton.1 hx,hx5];exact Nat.le_refl _));have fS:=r4.ab q3 (by simp);have bG:=k1.trans q3;have nV:w.heap.size<=x4:=by omega
 clear r4 r5 k1 k2 k3 q3 dj gO qj hx5 w1 w2;conv=>whnf
 refine Ca.of (acf w3) ?_;rintro _ w4 ⟨rfl,H4,k4⟩;have ia:=fS.ab k4 (by simp);have r54:=oC.ab k4 (by simp);have bU:=bG.trans k4;have aiW:w.heap.size<=w3.heap.size:=bG.size;clear fS oC bG k4;generalize w3.heap.size=ch at *;conv=>whnf
 repeat (refine CW.s ?_;conv=>whnf)
 refine Ru.of (zW w4 _ _) ?_;conv=>whnf
 repeat (refine Br.f ?_;conv=>whnf)
 refine Ca.of (yu H4 af7 adt yv.1 M0 q0) ?_;rintro _ w5 ⟨k5,hr5⟩;rcases hr5 with⟨f5,d,own,rfl,D5,mV⟩|⟨y,hy,jq,-⟩
 case inr=>cases jq
 have iJ:=ia.ab k5 (by
  have:=Row.ed H4 ia (by decide);simpa using this.symm)
 have r55:=r54.ab k5 (by
  have:=Row.ed H4 r54 (by decide);simpa using this.symm)
 have dL:Aa [] w w5:=bU.then k5 (fun x hx=>.inr (by rw[List.mem_singleton.1 hx];exact aiW));have qB:=bU.size;have ajt:∀x,x∈own->w.heap.size<=x:=fun x hx=>by
  rcases mV x hx with h|h
  ·omega
  ·omega
 have hL5:=hL.aj dL;clear ia r54 H4 k5 bU mV;conv=>whnf
 repeat (refine CW.s ?_;conv=>whnf)
 refine Ru.of (vF w5 _ _) ?_;conv=>whnf
 repeat (refine Br.f ?_;conv=>whnf)
 refine Ru.cx (q:=cO fun _=>0) r55 underlying28 rfl aB (by omega) (fun j hj=>by rw[Nat.zero_add]) ?_;conv=>whnf
 refine Ca.of (ajq D5 I0 q0 s0 hL5 hw (fun hp x e hx=>?_) (by omega) (fun _=>by omega)) ?_
 ·obtain⟨g,o,e',h'⟩:=hL (by omega);rw[e'] at e
  cases e
  have h9:g<w.heap.size:=aZ (h' 0 (by omega));have:=ajt _ hx;simp only at this;omega
 rintro _ w6 ⟨rfl,K6,P6,k6,alF,PI,hz⟩;have D6:=PI.on;have nT:=iJ.ab PI.kk (D5.bW iJ (by decide));have gG:Aa [] w w6:=dL.then PI.kk (fun x hx=>.inr (ajt x hx));have hs5:=dL.size;have apz:∀x,x∈alF->w.heap.size<=x:=fun x hx=>by
  rcases PI.sub x hx with h|h
  ·exact ajt x h
  ·omega
 conv=>whnf
 refine Ru.aE (di w6) ?_;intro x8 w7 hx8 hs7 r8 k7;conv=>whnf
 refine Ru.im r8 aB (by omega) (fun j hj=>cM _ j) ?_;intro w8 r88 k8;have r88:Row w8 x8 28 24 (cO (bE (fun _=>0) L)):=r88.congr (fun j hj=>by unfold lay;rw[if_pos (by omega),Nat.sub_zero]);have q8:Aa [] w6 w8:=k7.then k8 (fun x hx=>.inr (by rw[List.mem_singleton.1 hx,hx8];exact Nat.le_refl _));have D8:=D6.aj q8;have r48:=nT.ab q8 (by simp);have qW:=gG.trans q8;clear k7 k8 r8 hs7;conv=>whnf
 repeat ((first|refine Br.f ?_|refine CW.s ?_);conv=>whnf)
 refine CW.held (fun w'=>Row w' x8 28 24 (cO (bE (fun _=>0) L))) [5] (.take 0 (.take 1 (.take 2 (.take 3 (.take 4 (.one 5 (.done))))))) ai (by kernel_rfl) (by kernel_rfl) (by kernel_rfl) ?_ ?_
 ·exact Row.drewN r88 1
 have q9:=(Aa.refl [] w8).drewN 1;have D9:=D8.aj q9;have r49:=r48.ab q9 (by simp);have r89:=r88.ab q9 (by simp);have kk9:=qW.trans q9;have h48:x8≠x4:=by
  have:=nT.lt;omega
 clear D8 r48 r88 qW q9;generalize w8.drewN 1=w9 at *;conv=>whnf
 repeat ((refine Am.of (fun w hS=>ei (q:=cO (bE (fun _=>0) L)) hS underlying28 rfl aB (by omega) (fun j hj=>by rw[Nat.zero_add])) ?_);conv=>whnf)
 refine Ru.im r49 aB (by omega) (fun j hj=>cM _ j) ?_;intro tP an0 vV;have an0:Row tP x4 28 24 (cO (bE (fun _=>0) L)):=an0.congr (fun j hj=>by unfold lay;rw[if_pos (by omega),Nat.sub_zero]);refine Ru.cx (q:=cO (bE (fun _=>0) L)) an0 underlying28 rfl aB (by omega) (fun j hj=>by rw[Nat.zero_add]) ?_;conv=>whnf
 exact⟨rfl,ch,d,alF,K6,P6,k6,rfl,⟨D9.iz r49 (by decide) vV,PI.inv,PI.qu,PI.sh,apz,kk9.then vV (fun x hx=>.inr (by rw[List.mem_singleton.1 hx];exact nV))⟩,K0,P0,t0,k0,M0,I0,fa0,hz⟩
theorem aju{w:World}{L:List Cl}{A:Option Addr}{cA:Nat}(hL:Rd w A (L.length*3) (clF L))(hw:∀c,c∈L->c.wf)(hn:L.length<=1048576) :
  Spec Tryz.prog 15 #[.slice A L.length cA] w fun v w'=>∃ch d own K P k,v=.tuple #[.pointer (some ⟨ch,0,none⟩),.pointer (some ⟨d,0,none⟩),agg 24 (cO (bE (fun _=>0) L))]/\Cz w w' ch d own K P k (2+2*L.length) (bE (fun _=>0) L) :=
 (af9 hL hw hn).mono fun v w' h=>by
  obtain⟨ch,d,own,K,P,k,e,B,-⟩:=h;exact⟨ch,d,own,K,P,k,e,B⟩
section
variable{w w':World}{own:List Nat}{d ch:Nat}{K:KS}{P:CS}{b:Option Nat}
theorem Ae.cH(D:Ae w own d ch K P b):∃C,Ab w ch C/\Abs C P/\C.left b:=by
 obtain⟨N,X,c,n,e,r,h,eC,hq⟩:=D;obtain⟨C,M,hA,hl⟩:=h.o9;exact⟨C,by rw[<-eC];exact M.cH,hA,hl⟩
theorem Ae.apA(D:Ae w own d ch K P b){C':Chip}{b':Option Nat}(k:Aa [ch] w w')(H:Ab w' ch C')(hA:Abs C' P)(hl:C'.left b'):Ae w' own d ch K P b':=by
 obtain⟨N,X,c,n,e,r,h,eC,hq⟩:=D;obtain⟨C,M,hA0,hl0⟩:=h.o9;have hd:d≠ch:=Row.ed r (show Ab w ch C by rw[<-eC];exact M.cH) (by decide);subst eC;exact⟨N,X,c,n,e,Row.ab r k (by simpa using hd),h.cH (k.mono (fun x hx=>by rw[List.mem_singleton.1 hx];simp[Pt.l])) ⟨C',M.uc k H,hA,hl⟩,rfl,hq⟩
theorem an1(D:Ae w own d ch K P b)(n:Nat)(hn:n<=9223372036854775807):Spec Tryz.prog 18 #[.pointer (some ⟨ch,0,none⟩),.int .i64 n] w fun v w'=>v=al 0/\Ae w' own d ch K P (some n)/\Aa [ch] w w':=by
 obtain⟨C,H,hA,hl⟩:=D.cH;refine(amK w ch n C H hn).mono ?_;rintro v w' ⟨rfl,H',k⟩;obtain⟨hA',hl'⟩:=alE hA hl hn;exact⟨rfl,D.apA k H' hA' hl',k⟩
end
def A2(w0 w:World)(Z:Option Addr)(cz n:Nat)(a:Nat->Nat->Nat):Prop :=
 ∃(Y:Nat->Option Addr) (e:Nat->Nat),Ly w 37 1 Z n cz (fun j=>.slice (Y j) 160 (e j))/\(∀x,x∈aK Z->w0.heap.size<=x)/\∀j,j<n->Ly w 5 1 (Y j) 160 (e j) (fun i=>.int .u8 (a j i:Nat))/\∀x,x∈aK (Y j)->w0.heap.size<=x
theorem ajv:(Tryz.prog.info? 37).map (fun i=>(i.zero,i.size,i.bytes))=some (some (.slice none 0 0),1,24):=by kernel_rfl
theorem aga(A:Option Addr)(n c:Nat)(w:World):(Instr.buildSlice 51 1 #[(0,.slice A n c)]).run Tryz.prog w=.ok (.slice (some ⟨w.heap.size,0,none⟩) 1 1) (w.alloc (eS 1 (fun _=>.slice A n c) 37)):=by kernel_rfl
theorem A2.ab{w0 w w':World}{Z:Option Addr}{cz n:Nat}{a:Nat->Nat->Nat}{S:List Nat}(h:A2 w0 w Z cz n a)(k:Aa S w w')(hS:∀x,x∈S->x<w0.heap.size):A2 w0 w' Z cz n a:=by
 obtain⟨Y,e,h1,h2,h3⟩:=h;refine⟨Y,e,h1.ab k (fun x hx hm=>?_),h2,fun j hj=>⟨(h3 j hj).1.ab k (fun x hx hm=>?_),(h3 j hj).2⟩⟩
 ·have:=h2 x hx;have:=hS x hm;omega
 ·have:=(h3 j hj).2 x hx;have:=hS x hm;omega
theorem adu(w:World)(x:Operand)(a:Addr):(do eqGuard .eql 85 x (.const (.pointer none)) (.pointer (some a)) (.pointer none);binOp .eql 85 (.pointer (some a)) (.pointer none):Sem Value).run Tryz.prog w=.ok (.bool false) w:=dD w x a
noncomputable def od(f:Nat->Nat->Nat)(a:Nat->Nat):Bool:=@decide (∀o,o<24->∀j,j<160->f o j=yq (a o) j) (Classical.propDecidable _)
theorem ajw{w w0:World}{Z:Option Addr}{cz:Nat}{f:Nat->Nat->Nat}{a:Nat->Nat}(S:A2 w0 w Z cz 24 f)(hf:∀o j,f o j<256)(ha:∀o,a o<=1000000) :
  Spec Tryz.prog 30 #[.slice Z 24 cz,agg 24 (cO a)] w fun v w'=>v=.bool (od f a)/\Aa [] w w':=by
 obtain⟨Y,e,g1,g2,g3⟩:=S;refine spec_of_wpE (T:=tt) ai func30 rfl (by decide +kernel) ntmps30 (by simp) ?_;conv=>whnf
 refine Ru.dr ?_;intro x3 w1 hx3 dj r3 k1;have g11:=g1.aj k1;have g31:∀j,j<24->Ly w1 5 1 (Y j) 160 (e j) (fun i=>.int .u8 (f j i:Nat)):=fun j hj=>(g3 j hj).1.aj k1;clear g1 g2 g3 dj;conv=>whnf
 repeat ((first|refine Br.f ?_|refine CW.s ?_);conv=>whnf)
 refine CW.loop (ι:=Nat) (fun i w'=>i<=24/\(∀o,o<i->∀j,j<160->f o j=yq (a o) j)/\Ly w' 37 1 Z 24 cz (fun j=>.slice (Y j) 160 (e j))/\(∀j,j<24->Ly w' 5 1 (Y j) 160 (e j) (fun i=>.int .u8 (f j i:Nat)))/\Row w' x3 28 24 (cO a)/\Aa [] w w')
  (fun i=>[(0,.slice Z 24 cz),(3,.pointer (some ⟨x3,0,none⟩)),(5,.int .i64 i)]) (fun i=>24-i) 0 ai
  ⟨by omega,fun o ho=>by omega,g11,g31,r3,k1⟩ ⟨rfl,rfl,rfl,trivial⟩ ?_;clear g11 g31 r3 k1 w1 hx3;rintro i wr ⟨hi,hd,h1,h2,r3,kk⟩;rcases Nat.lt_or_ge i 24 with av|wg
 ·obtain⟨g,hZ,hc⟩:∃g,Z=some ⟨g,0,none⟩/\wr.cell? ⟨g,i,none⟩=some (.slice (Y i) 160 (e i)):=by
   obtain⟨g,e1,e2,-⟩:=h1.yF (j:=i) av;exact⟨g,e1,e2⟩
  subst hZ;conv=>whnf
  repeat ((first|refine Br.y ?_|refine CW.s ?_);conv=>whnf)
  refine CW.held (fun w'=>Row w' x3 28 24 (cO a)/\w'.cell? ⟨g,i,none⟩=some (.slice (Y i) 160 (e i))) [] (.take 0 (.take 1 (.take 2 (.take 3 (.take 4 (.take 5 (.take 6 (.take 7 (.one 8 (.one 9 (.take 10 (.done)))))))))))) ai (by kernel_rfl) (by kernel_rfl) (by kernel_rfl) ?_ ?_
  ·exact⟨r3.drewN 1,hc⟩
  have q1:=(Aa.refl [] wr).drewN 1;have ox:=h1.aj q1;have h22:∀j,j<24->Ly (wr.drewN 1) 5 1 (Y j) 160 (e j) (fun i=>.int .u8 (f j i:Nat)):=fun j hj=>(h2 j hj).aj q1;have r32:=r3.ab q1 (by simp);have dh:=kk.trans q1;have lU:(wr.drewN 1).cell? ⟨g,i,none⟩=some (.slice (Y i) 160 (e i)):=hc;clear h1 h2 r3 kk q1 hc;generalize wr.drewN 1=w2 at *;have ha1:=ha i;conv=>whnf
  repeat ((first|(refine Ix.of i (by omega) (by omega) ?_)|(refine Ag.at (by omega) (fun _ h=>h.2) ?_)|(refine Ag.at (by omega) (fun _ h=>Row.cell h.1 i (by omega)) ?_));conv=>whnf)
  refine Ca.of (nQ _ (by omega) w2) ?_;rintro _ w3 ⟨gb,rfl,vO,rb,k3⟩;have h13:=ox.aj k3;have h23:∀j,j<24->Ly w3 5 1 (Y j) 160 (e j) (fun i=>.int .u8 (f j i:Nat)):=fun j hj=>(h22 j hj).aj k3;have xQ:=r32.ab k3 (by simp);have bG:=dh.trans k3;have zV:w3.cell? ⟨g,i,none⟩=some (.slice (Y i) 160 (e i)):=by
   obtain⟨g',e1,e2,-⟩:=h13.yF (j:=i) av
   cases e1
   exact e2
  clear ox h22 r32 dh lU k3;conv=>whnf
  refine⟨⟨xQ,zV⟩,?_⟩;conv=>whnf
  refine Ca.of (yr _ _ 160 160 _ _ (fun j=>((f i j:Nat):Int)) (fun j=>((yq (a i) j:Nat):Int)) w3 (h23 i av).th (Rd.dq rb (n:=160) (by omega)) (fun j=>by have:=hf i j;omega) (fun j=>by have:=ru (a i) j;omega)) ?_;rintro _ _ ⟨rfl,rfl⟩;conv=>whnf
  refine⟨⟨xQ,zV⟩,?_⟩;by_cases hsb:rO 160 160 (fun j=>((f i j:Nat):Int)) (fun j=>((yq (a i) j:Nat):Int))=true
  ·rw[hsb];conv=>whnf
   repeat ((first|refine Br.f ?_|refine Ar.la ?_);conv=>whnf)
   refine⟨i+1,⟨av,fun o ho j hj=>?_,h13,h23,xQ,bG⟩,⟨rfl,rfl,vi (by omega),trivial⟩,by simp only;omega⟩;by_cases e:o=i
   ·rw[e];have h9:=(of_decide_eq_true hsb).2 j hj;exact Int.ofNat.inj h9
   ·exact hd o (by omega) j hj
  ·have ark:rO 160 160 (fun j=>((f i j:Nat):Int)) (fun j=>((yq (a i) j:Nat):Int))=false:=by simpa using hsb
   have lW:od f a=false:=by
    unfold od;refine @decide_eq_false _ (Classical.propDecidable _) (fun h=>hsb (m9 rfl (fun j hj=>?_)));rw[h i av j hj]
   rw[ark,lW];conv=>whnf
   repeat (refine Br.t ?_;conv=>whnf)
   exact⟨rfl,rfl,bG⟩
 ·obtain rfl:i=24:=by omega
  conv=>whnf
  repeat ((first|refine Br.f ?_|refine CW.s ?_);conv=>whnf)
  have hy:od f a=true:=by
   unfold od;exact @decide_eq_true _ (Classical.propDecidable _) (fun o ho=>hd o ho)
  rw[hy];exact⟨rfl,rfl,kk⟩
structure B6(w w':World)(ch:Nat)(C:Chip)(x3:Nat)(c:Cl)(x7:Nat)(a:Nat->Nat)(B:Nat):Prop where
 cH:Ab w' ch C
 r3:Row w' x3 36 3 c.cell
 r7:Row w' x7 28 24 (cO a)
 kk:Aa [] w w'
 hc:ch<B
 h3:x3<B
 h7:x7<B
 hB:w.heap.size<=B
 sz:B<=w'.heap.size
section
variable{w w1 w2:World}{ch:Nat}{C:Chip}{x3 x7:Nat}{c:Cl}{a:Nat->Nat}{B:Nat}
theorem B6.bW{S:List Nat}(h:B6 w w1 ch C x3 c x7 a B)(k:Aa S w1 w2)(hS:∀y,y∈S->B<=y):B6 w w2 ch C x3 c x7 a B:=by
 have no:∀y,y<B->y∉S:=fun y hy hm=>by have:=hS y hm;omega
 exact⟨h.cH.ab k (no _ h.hc),h.r3.ab k (no _ h.h3),h.r7.ab k (no _ h.h7),h.kk.then k (fun y hy=>.inr (Nat.le_trans h.hB (hS y hy))),h.hc,h.h3,h.h7,h.hB,Nat.le_trans h.sz k.size⟩
theorem B6.aj(h:B6 w w1 ch C x3 c x7 a B)(k:Aa [] w1 w2):B6 w w2 ch C x3 c x7 a B:=h.bW k (fun _ h=>nomatch h)
theorem B6.new{x:Nat}(h:B6 w w1 ch C x3 c x7 a B)(k:Aa [x] w1 w2)(hx:B<=x):B6 w w2 ch C x3 c x7 a B:=h.bW k (fun y hy=>by rw[List.mem_singleton.1 hy];exact hx)
end
theorem ajx{f:Nat->Nat->Nat}{a:Nat->Nat}:od f a=true↔∀o,o<24->∀j,j<160->f o j=yq (a o) j:=by
 unfold od;exact @decide_eq_true_iff _ (Classical.propDecidable _)
theorem rC(a:Nat->Nat):od (mZ a) a=true:=ajx.2 fun o _ j _=>rfl
theorem ajy(a:Nat->Nat)(o j:Nat):mZ a o j<256:=ru _ _
def CS.may(P:CS)(B:Nat):Prop:=P.failed B=true\/0<P.before B\/P.aC B=true
def nf(x:Pg):Prop:=∀t D,x≠.full t D
structure Lk(P Q:CS)(p:Nat):Prop where
 pg:∀q,q≠p->Q.pg q=P.pg q
 may:∀B,Q.may B->P.may B
theorem Lk.refl(P:CS)(p:Nat):Lk P P p:=⟨fun _ _=>rfl,fun _ h=>h⟩
theorem Lk.trans{P Q R:CS}{p:Nat}(h:Lk P Q p)(g:Lk Q R p):Lk P R p:=⟨fun q hq=>(g.pg q hq).trans (h.pg q hq),fun B hB=>h.may B (g.may B hB)⟩
def Good(t:Tg)(p:Nat)(D:Nat->Nat):Prop:=t.ok/\t.place=p/\t.lost=false/\(∀j,D j<256)/\cm D=D
structure Pv(P:CS)(m:Int):Prop where
 val:P.val
 same:∀p q t t' D D',p<96->q<96->P.pg p=.full t D->P.pg q=.full t' D'->t.seq=t'.seq->t.of=t'.of/\D=D'
 sq:∀p t D,p<96->P.pg p=.full t D->t.seq<m
structure Ea(P:CS)(k:Cp)(o p:Nat)(s:Int):Prop where
 lt:p<96
 bad:k.bad (p/8)=false
 is:∃t D,P.pg p=.full t D/\t.of=o/\t.seq=s
 max:∀q t D,q<96->P.pg q=.full t D->t.of=o->(o=24\/k.bad (q/8)=false)->t.seq<=s
structure Mt(P:CS)(k:Cp)(L:Nat->Nat)(m:Int):Prop where
 pv:Pv P m
 pt:L 24≠0
 data:aS P (L 24-1)=sV k
 told:k.told
 fl:∀o,o<24->k.fl o<m
 yes:∀o,o<25->L o≠0->∃s,Ea P k o (L o-1) s/\floor k o<s
 no:∀o,o<24->L o=0->∀q t D,q<96->P.pg q=.full t D->t.of=o->k.bad (q/8)=false->t.seq<=k.fl o
theorem Mt.lt{P:CS}{k:Cp}{L:Nat->Nat}{m:Int}(h:Mt P k L m){o:Nat}(ho:o<25):L o<=96:=by
 by_cases e:L o=0
 ·omega
 ·obtain⟨s,T,_⟩:=h.yes o ho e;have:=T.lt;omega
theorem bF{P:CS}{p:Nat}{t:Tg}{D:Nat->Nat}(h:P.pg p=.full t D):aS P p=D:=by
 unfold aS;rw[h]
theorem dH{P P':CS}{p:Nat}(h:P'.pg p=P.pg p):aS P' p=aS P p:=by
 unfold aS;rw[h]
theorem Ac.abL{P P':CS}{L:Nat->Nat}{a:Nat->Nat->Nat}(h:Ac P L a)(h2:∀o,o<24->L o≠0->P'.pg (L o-1)=P.pg (L o-1)):Ac P' L a:=fun o j ho hj=>by
 rw[<-h o j ho hj];unfold arr;split
 ·rfl
 ·rename_i e
  rw[dH (h2 o ho e)]
theorem Mt.mono{P:CS}{k:Cp}{L:Nat->Nat}{m m':Int}(h:Mt P k L m)(hm:m<=m'):Mt P k L m' :=
 ⟨⟨h.pv.val,h.pv.same,fun p t D hp e=>Int.lt_of_lt_of_le (h.pv.sq p t D hp e) hm⟩,h.pt,h.data,h.told,fun o ho=>Int.lt_of_lt_of_le (h.fl o ho) hm,h.yes,h.no⟩
theorem Mt.ext{P P':CS}{k:Cp}{L:Nat->Nat}{m:Int}(h:Mt P k L m)
  (h1:∀q t D,q<96->P'.pg q=.full t D->P.pg q=.full t D\/(t.ok/\t.place=q/\t.lost=false)/\∃o t0,o<25/\L o≠0/\P.pg (L o-1)=.full t0 D/\t0.of=t.of/\t0.seq=t.seq)
  (h2:∀o,o<25->L o≠0->P'.pg (L o-1)=P.pg (L o-1)):Mt P' k L m:=by
 have old:∀q t D,q<96->P'.pg q=.full t D->∃q0 t0,q0<96/\P.pg q0=.full t0 D/\t0.of=t.of/\t0.seq=t.seq:=fun q t D hq e=>by
  rcases h1 q t D hq e with e|⟨_,o,t0,ho,hL,e,e1,e2⟩
  ·exact⟨q,t,hq,e,rfl,rfl⟩
  ·obtain⟨s,T,_⟩:=h.yes o ho hL;exact⟨_,t0,T.lt,e,e1,e2⟩
 have arl:∀o q t D,q<96->P'.pg q=.full t D->t.of=(o:Nat)->(o=24\/k.bad (q/8)=false)->∃q0 t0,q0<96/\P.pg q0=.full t0 D/\t0.of=o/\t0.seq=t.seq/\(o=24\/k.bad (q0/8)=false):=fun o q t D hq e ho hb=>by
  rcases h1 q t D hq e with e|⟨_,i,t0,hi,hL,e,e1,e2⟩
  ·exact⟨q,t,hq,e,ho,rfl,hb⟩
  ·obtain⟨s,T,_⟩:=h.yes i hi hL;exact⟨_,t0,T.lt,e,e1.trans ho,e2,.inr T.bad⟩
 refine⟨⟨fun q t D hq e=>?_,fun p q t t' D D' hp hq e e' hs=>?_,fun q t D hq e=>?_⟩,h.pt,?_,h.told,h.fl,fun o ho hL=>?_,fun o ho hL q t D hq e jK hb=>?_⟩
 ·obtain⟨q0,t0,qV,e0,_,_⟩:=old q t D hq e;obtain⟨v1,v2,v3,v4,v5⟩:=h.pv.val q0 t0 D qV e0;rcases h1 q t D hq e with e|⟨⟨g1,g2,g3⟩,_⟩
  ·exact h.pv.val q t D hq e
  ·exact⟨g1,g2,g3,v4,v5⟩
 ·obtain⟨p0,t0,hp0,e0,a1,a2⟩:=old p t D hp e;obtain⟨q0,u0,qV,f0,b1,b2⟩:=old q t' D' hq e';obtain⟨c1,c2⟩:=h.pv.same p0 q0 t0 u0 D D' hp0 qV e0 f0 (by omega);exact⟨by omega,c2⟩
 ·obtain⟨q0,t0,qV,e0,a1,a2⟩:=old q t D hq e;have:=h.pv.sq q0 t0 D qV e0;omega
 ·rw[<-h.data];exact dH (h2 24 (by omega) h.pt)
 ·obtain⟨s,T,hf⟩:=h.yes o ho hL;refine⟨s,⟨T.lt,T.bad,by rw[h2 o ho hL];exact T.is,fun q t D hq e jK hb=>?_⟩,hf⟩;obtain⟨q0,t0,qV,e0,a1,a2,a3⟩:=arl o q t D hq e jK hb;have:=T.max q0 t0 D qV e0 a1 a3;omega
 ·rcases h1 q t D hq e with e|⟨_,i,t0,hi,hLi,e,e1,e2⟩
  ·exact h.no o ho hL q t D hq e jK hb
  ·obtain⟨s,T,_⟩:=h.yes i hi hLi;obtain⟨t1,D1,f1,f2,_⟩:=T.is;rw[e] at f1
   cases f1
   have:i=o:=by omega
   rw[this] at hLi;exact absurd hL hLi
theorem Mt.ajz{P:CS}{k:Cp}{L L':Nat->Nat}{m:Int}(h:Mt P k L m)
  (h1:∀o,o<25->L o≠0->L' o≠0/\L' o-1<96/\k.bad ((L' o-1)/8)=false/\∃t t' D,P.pg (L o-1)=.full t D/\P.pg (L' o-1)=.full t' D/\t'.of=t.of/\t'.seq=t.seq)
  (h0:∀o,o<25->L o=0->L' o=0):Mt P k L' m/\∀a,Ac P L a->Ac P L' a:=by
 have back:∀o,o<25->L' o≠0->L o≠0:=fun o ho h e=>h (h0 o ho e);refine⟨⟨h.pv,(h1 24 (by omega) h.pt).1,?_,h.told,h.fl,fun o ho hL=>?_,fun o ho hL=>h.no o ho ?_⟩,fun a hs o j ho hj=>?_⟩
 ·obtain⟨_,_,_,t,t',D,e,e',_⟩:=h1 24 (by omega) h.pt;rw[bF e', <-bF e];exact h.data
 ·obtain⟨a1,a2,a3,t,t',D,e,e',e1,e2⟩:=h1 o ho (back o ho hL);obtain⟨s,T,hf⟩:=h.yes o ho (back o ho hL);obtain⟨t1,D1,f1,f2,f3⟩:=T.is;rw[e] at f1
  cases f1
  exact⟨s,⟨a2,a3,⟨t',D,e',by omega,by omega⟩,T.max⟩,hf⟩
 ·by_cases e:L o=0
  ·exact e
  ·exact absurd hL (h1 o (by omega) e).1
 ·rw[<-hs o j ho hj];unfold arr;by_cases e:L o=0
  ·rw[if_pos e,if_pos (h0 o (by omega) e)]
  ·obtain⟨a1,a2,a3,t,t',D,e1,e2,_⟩:=h1 o (by omega) e;rw[if_neg e,if_neg a1,bF e1,bF e2]
section
variable{P P':CS}{k:Cp}{L:Nat->Nat}{m s:Int}{p:Nat}{t:Tg}{D:Nat->Nat}
theorem Pv.new(h:Pv P m)(hs:m<=s)(hq:∀q,q≠p->P'.pg q=P.pg q)(hp:P'.pg p=.full t D)(g:Good t p D)(ht:t.seq=s):Pv P' (s+1):=by
 have cs:∀q t' D',q<96->P'.pg q=.full t' D'->(q=p/\t'=t/\D'=D)\/P.pg q=.full t' D':=fun q t' D' _ e=>by
  by_cases hn:q=p
  ·subst hn;rw[hp] at e
   cases e
   exact .inl ⟨rfl,rfl,rfl⟩
  ·exact .inr (by rw[<-hq q hn];exact e)
 refine⟨fun q t' D' gX e=>?_,fun q1 q2 t1 t2 D1 D2 h1 h2 e1 e2 he=>?_,fun q t' D' gX e=>?_⟩
 ·rcases cs q t' D' gX e with⟨rfl,rfl,rfl⟩|e
  ·exact g
  ·exact h.val q t' D' gX e
 ·rcases cs q1 t1 D1 h1 e1 with⟨rfl,rfl,rfl⟩|f1<;>rcases cs q2 t2 D2 h2 e2 with⟨r1,r2,r3⟩|f2
  ·exact⟨by rw[r2],r3.symm⟩
  ·have:=h.sq q2 t2 D2 h2 f2;omega
  ·subst r2;have:=h.sq q1 t1 D1 h1 f1;omega
  ·exact h.same q1 q2 t1 t2 D1 D2 h1 h2 f1 f2 he
 ·rcases cs q t' D' gX e with⟨rfl,rfl,rfl⟩|e
  ·omega
  ·have:=h.sq q t' D' gX e;omega
theorem Mt.old(h:Mt P k L m)(hn:nf (P.pg p)){o:Nat}(ho:o<25)(e:L o≠0):L o-1≠p:=fun x=>by
 obtain⟨s,T,_⟩:=h.yes o ho e;obtain⟨t,D,e1,_⟩:=T.is;rw[x] at e1;exact hn t D e1
theorem Mt.new(h:Mt P k L m)(hs:m<=s)(mb:p<96)(hb:k.bad (p/8)=false)(hn:nf (P.pg p))(hq:∀q,q≠p->P'.pg q=P.pg q)(hp:P'.pg p=.full t D)(g:Good t p D)(ht:t.seq=s){o:Nat}(ho:o<24)(jK:t.of=o) :
  Mt P' k (ah L o (p+1)) (s+1)/\∀a f,Ac P L a->(∀j,j<160->D j=f j)->Ac P' (ah L o (p+1)) (gV a o f):=by
 have hpv:=h.pv.new hs hq hp g ht;have hold:=fun {i:Nat} (hi:i<25) (e:L i≠0)=>h.old hn hi e;have ne:∀i,i≠o->ah L o (p+1) i=L i:=fun i hi=>if_neg hi;have eq:ah L o (p+1) o=p+1:=if_pos rfl;have cs:∀q t' D',P'.pg q=.full t' D'->(q=p/\t'=t/\D'=D)\/P.pg q=.full t' D':=fun q t' D' e=>by
  by_cases hn:q=p
  ·subst hn;rw[hp] at e
   cases e
   exact .inl ⟨rfl,rfl,rfl⟩
  ·exact .inr (by rw[<-hq q hn];exact e)
 refine⟨⟨hpv,by rw[ne 24 (by omega)];exact h.pt,?_,h.told,fun i hi=>by have:=h.fl i hi;omega,fun i hi hL=>?_,fun i hi hL q t' D' gX e wH hb'=>?_⟩,fun a f lG hDf i j hi hj=>?_⟩
 ·rw[ne 24 (by omega),dH (hq _ (hold (by omega) h.pt))];exact h.data
 ·by_cases jd:i=o
  ·subst jd;rw[eq,Nat.add_sub_cancel];refine⟨s,⟨mb,hb,⟨t,D,hp,jK,ht⟩,fun q t' D' gX e _ _=>?_⟩,?_⟩
   ·have:=hpv.sq q t' D' gX e;omega
   ·rw[fQ k ho];have:=h.fl i ho;omega
  ·rw[ne i jd] at hL ⊢;obtain⟨s',T,hf⟩:=h.yes i hi hL;refine⟨s',⟨T.lt,T.bad,by rw[hq _ (hold hi hL)];exact T.is,fun q t' D' gX e wH hb'=>?_⟩,hf⟩;rcases cs q t' D' e with⟨rfl,rfl,rfl⟩|e
   ·omega
   ·exact T.max q t' D' gX e wH hb'
 ·by_cases jd:i=o
  ·subst jd;rw[eq] at hL;omega
  ·rw[ne i jd] at hL;rcases cs q t' D' e with⟨rfl,rfl,rfl⟩|e
   ·omega
   ·exact h.no i hi hL q t' D' gX e wH hb'
 ·unfold gV arr;by_cases jd:i=o
  ·subst jd;rw[if_pos rfl,eq,if_neg (by omega),Nat.add_sub_cancel,bF hp];exact hDf j hj
  ·rw[if_neg jd,ne i jd, <-lG i j hi hj];unfold arr;by_cases e:L i=0
   ·rw[if_pos e,if_pos e]
   ·rw[if_neg e,if_neg e,dH (hq _ (hold (by omega) e))]
theorem Mt.ajA{k':Cp}{L':Nat->Nat}(h:Mt P k L m)(hs:m<=s)(mb:p<96)(hn:nf (P.pg p))(hq:∀q,q≠p->P'.pg q=P.pg q)(hp:P'.pg p=.full t (sV k'))(g:Good t p (sV k'))(ht:t.seq=s)(jK:t.of=24)
  (kx:k'.told) (fc:k'.next<=s) (hbm:∀b,b<12->k.bad b=true->k'.bad b=true) (hpb:k'.bad (p/8)=false) (an2:L' 24=p+1)
  (hL:∀o,o<24->(L' o=L o/\k'.fl o=k.fl o/\(L o≠0->k'.bad ((L o-1)/8)=false))\/(L' o=0/\L o≠0/\∃t0 D0,P.pg (L o-1)=.full t0 D0/\k'.fl o=t0.seq)) :
  Mt P' k' L' (s+1)/\∀a a',Ac P L a->(∀o,o<24->(L' o=L o->∀j,j<160->a' o j=a o j)/\(L' o=0->L o≠0->∀j,j<160->a' o j=0))->Ac P' L' a':=by
 have hpv:=h.pv.new hs hq hp g ht;have hold:=fun {i:Nat} (hi:i<25) (e:L i≠0)=>h.old hn hi e;have cs:∀q t' D',P'.pg q=.full t' D'->(q=p/\t'=t/\D'=sV k')\/P.pg q=.full t' D':=fun q t' D' e=>by
  by_cases hn:q=p
  ·subst hn;rw[hp] at e
   cases e
   exact .inl ⟨rfl,rfl,rfl⟩
  ·exact .inr (by rw[<-hq q hn];exact e)
 have nb:∀b,b<12->k'.bad b=false->k.bad b=false:=fun b ox hb=>by
  cases hk:k.bad b
  ·rfl
  ·rw[hbm b ox hk] at hb
   cases hb
 refine⟨⟨hpv,by rw[an2];omega,by rw[an2,Nat.add_sub_cancel,bF hp],kx,fun o ho=>?_,fun o ho hLo=>?_,fun o ho hLo q t' D' gX e wH hb'=>?_⟩,fun a a' lG ha o j ho hj=>?_⟩
 ·rcases hL o ho with⟨_,e,_⟩|⟨_,e0,t0,D0,e1,e2⟩
  ·have:=h.fl o ho;omega
  ·obtain⟨s',T,_⟩:=h.yes o (by omega) e0;have:=h.pv.sq _ _ _ T.lt e1;omega
 ·by_cases jo:o=24
  ·subst jo;rw[an2,Nat.add_sub_cancel];refine⟨s,⟨mb,hpb,⟨t,_,hp,jK,ht⟩,fun q t' D' gX e _ _=>?_⟩,?_⟩
   ·have:=hpv.sq q t' D' gX e;omega
   ·rw[uV];have:=g.1;unfold Tg.ok at this;omega
  ·rcases hL o (by omega) with⟨e1,e2,e3⟩|⟨e1,_⟩
   ·rw[e1] at hLo ⊢;obtain⟨s',T,hf⟩:=h.yes o ho hLo;refine⟨s',⟨T.lt,e3 hLo,by rw[hq _ (hold ho hLo)];exact T.is,fun q t' D' gX e wH hb'=>?_⟩,?_⟩
    ·rcases cs q t' D' e with⟨rfl,rfl,rfl⟩|e
     ·omega
     ·exact T.max q t' D' gX e wH (hb'.imp id (nb _ (by omega)))
    ·rw[fQ k' (by omega),e2, <-fQ k (by omega)];exact hf
   ·exact absurd e1 hLo
 ·rcases hL o ho with⟨e1,e2,e3⟩|⟨e1,e0,t0,D0,e2,e3⟩
  ·rcases cs q t' D' e with⟨rfl,rfl,rfl⟩|e
   ·omega
   ·rw[e2];exact h.no o ho (by rw[<-e1];exact hLo) q t' D' gX e wH (nb _ (by omega) hb')
  ·rcases cs q t' D' e with⟨rfl,rfl,rfl⟩|e
   ·omega
   ·obtain⟨s',T,hf⟩:=h.yes o (by omega) e0;obtain⟨t1,D1,f1,f2,f3⟩:=T.is;rw[e2] at f1
    cases f1
    have:=T.max q t' D' gX e wH (.inr (nb _ (by omega) hb'));omega
 ·obtain⟨b1,b2⟩:=ha o ho;rcases hL o ho with⟨e1,e2,e3⟩|⟨e1,e0,_⟩
  ·rw[b1 e1 j hj, <-lG o j ho hj];unfold arr;rw[e1];by_cases e:L o=0
   ·rw[if_pos e,if_pos e]
   ·rw[if_neg e,if_neg e,dH (hq _ (hold (by omega) e))]
  ·rw[b2 e1 e0 j hj];unfold arr;rw[if_pos e1]
end
def Tw(T:CS)(m:Int)(a:Nat->Nat->Nat):Prop:=∃k L,Mt T k L m/\Ac T L a
structure Wi(a:Nat->Nat->Nat)(k:Cp)(K:KS)(P:CS):Prop where
 mt:Mt P k K.at_ K.next
 sh:Ac P K.at_ a
 en:∀o,o<25->K.at_ o≠0->∃t D,P.pg (K.at_ o-1)=.full t D/\K.en o=⟨t.seq,t.copy,false⟩
 fl:∀o,o<24->k.fl o=K.fl o
 nx:1<=K.next/\K.next<=1099511627775
 eZ:AM K.at_ K.ow
 hb:Hl.HB K.F
 cur:K.cur<96
 st:∀b,b<12->K.st b<=3
 pn:K.pn<=12
 fb:K.fb<12
 fi:K.fi<=8
 bl:∀b i,b<12->K.st b=0->i<8->P.pg (b*8+i)=.blank
 f1:K.fo=true->K.st K.fb=1
 fr:K.fo=true->∀i,K.fi<=i->i<8->P.pg (K.fb*8+i)=.blank
 bad:∀b,b<12->k.bad b=true->K.st b=3
 live:ax K.st=false->∀o,o<25->K.at_ o≠0->K.st ((K.at_ o-1)/8)=2\/K.fo=true/\K.fb=(K.at_ o-1)/8
section
variable{a:Nat->Nat->Nat}{k:Cp}{K K':KS}{P P':CS}
theorem Wi.cI(h:Wi a k K P){o:Nat}(ho:o<25)(e:K.at_ o≠0):K.at_ o-1<96/\∃t D,P.pg (K.at_ o-1)=.full t D/\K.en o=⟨t.seq,t.copy,false⟩/\t.of=o/\t.ok/\t.place=(K.at_ o-1:Nat)/\t.lost=false/\cm D=D/\∀j,D j<256:=by
 obtain⟨s,T,_⟩:=h.mt.yes o ho e;obtain⟨t,D,e1,e2,e3⟩:=T.is;obtain⟨t',D',e1',e4⟩:=h.en o ho e;rw[e1] at e1'
 cases e1'
 obtain⟨v1,v2,v3,v4,v5⟩:=h.mt.pv.val _ _ _ T.lt e1;exact⟨T.lt,t,D,e1,e4,e2,v1,v2,v3,v5,v4⟩
theorem Wi.lt(h:Wi a k K P){o:Nat}(ho:o<25):K.at_ o<=96:=h.mt.lt ho
theorem Wi.fge(h:Wi a k K P):∀o,o<24->0<=K.fl o/\K.fl o<=1099511627775:=fun o ho=>by
 rw[<-h.fl o ho];exact h.mt.told.fl o ho
theorem Wi.dead(h:Wi a k K P){b:Nat}(hb:∀i,i<8->P.pg (b*8+i)=.blank):∀o,o<25->K.at_ o≠0->(K.at_ o-1)/8≠b:=fun o ho e hh=>by
 obtain⟨_,t,D,e1,_⟩:=h.cI ho e;have:=hb ((K.at_ o-1)%8) (Nat.mod_lt _ (by omega));rw[show b*8+(K.at_ o-1)%8=K.at_ o-1 by omega,e1] at this
 cases this
theorem Wi.same(h:Wi a k K P)(bA:P'.pg=P.pg)(hF:Hl.HB K'.F)(hc:K'.cur<96)(e:K'={ K with F:=K'.F,cur:=K'.cur,calls:=K'.calls,qu:=K'.qu,fu:=K'.fu,kh:=K'.kh,dZ:=K'.dZ }):Wi a k K' P':=by
 rw[e]
 exact⟨h.mt.ext (fun q t D hq e=>.inl (by rw[<-bA];exact e)) (fun o _ _=>by rw[bA]),h.sh.abL (fun o _ _=>by rw[bA]),fun o ho e=>by
  obtain⟨t,D,e1,e2⟩:=h.en o ho e;exact⟨t,D,by rw[bA];exact e1,e2⟩,h.fl,h.nx,h.eZ,hF,hc,h.st,h.pn,h.fb,h.fi,by rw[bA];exact h.bl,h.f1,by rw[bA];exact h.fr,h.bad,h.live⟩
structure Bz(K:KS)(P:CS)(d n:Nat):Prop where
 lt:d<12
 st:K.st d=1
 fr:K.fo=true->K.fb≠d
 bl:∀i,n<=i->i<8->P.pg (d*8+i)=.blank
 dead:∀o,o<25->K.at_ o≠0->(K.at_ o-1)/8≠d
theorem fF{st rU:Nat->Nat}(h:∀b,rU b=st b\/st b=1/\rU b=2):au rU 0=au st 0/\au rU 3=au st 3:=by
 have g:∀s,s=0\/s=3->au rU s=au st s:=fun s hs=>Nat.le_antisymm (fB (fun b _ e=>by
  rcases h b with x|x
  ·rw[<-x];exact e
  ·omega)) (fB (fun b _ e=>by
  rcases h b with x|x
  ·rw[x];exact e
  ·omega))
 exact⟨g 0 (.inl rfl),g 3 (.inr rfl)⟩
theorem kJ{st rU:Nat->Nat}(h:∀b,b<12->st b=3->rU b=3)(hw:ax rU=false):ax st=false:=by
 unfold ax at *;have:au st 3<=au rU 3:=fB h;simp at hw ⊢;omega
theorem Wi.take(h:Wi a k K P){d:Nat}(ht:takeN K.st K.pn=some d):Wi a k { K with st:=ah K.st d 1,pn:=d+1 } P/\Bz { K with st:=ah K.st d 1,pn:=d+1 } P d 0:=by
 obtain⟨hd,h0⟩:=df ht;have na:=fun i hi=>h.bl d i hd h0 hi;have fU:=h.dead na;have ne:∀b,b≠d->ah K.st d 1 b=K.st b:=fun b hb=>if_neg hb;have eq:ah K.st d 1 d=1:=if_pos rfl;refine⟨⟨h.mt,h.sh,h.en,h.fl,h.nx,h.eZ,h.hb,h.cur,fun b hb=>?_,by show d+1<=12;omega,h.fb,h.fi,fun b i hb e hi=>?_,fun hf=>?_,h.fr,fun b hb e=>?_,fun hw o ho e=>?_⟩,⟨hd,eq,fun hf e=>?_,fun i _ hi=>na i hi,fU⟩⟩
 ·show ah K.st d 1 b<=3;by_cases u5:b=d
  ·rw[u5,eq];omega
  ·rw[ne b u5];exact h.st b hb
 ·have e:ah K.st d 1 b=0:=e;by_cases u5:b=d
  ·rw[u5,eq] at e;omega
  ·rw[ne b u5] at e;exact h.bl b i hb e hi
 ·have:=h.f1 hf;show ah K.st d 1 K.fb=1;rw[ne _ (fun e=>by rw[e] at this;omega)];exact this
 ·have:=h.bad b hb e;show ah K.st d 1 b=3;rw[ne _ (fun e=>by rw[e] at this;omega)];exact this
 ·have hw':ax K.st=false:=kJ (fun b hb e=>by
   show ah K.st d 1 b=3;rw[ne b (fun x=>by rw[x] at e;omega)];exact e) hw
  have:=h.live hw' o ho e;show ah K.st d 1 ((K.at_ o-1)/8)=2\/_;rw[ne _ (fU o ho e)];exact this
 ·have:=h.f1 hf;have e:K.fb=d:=e;rw[e] at this;omega
theorem Wi.cell(h:Wi a k K P){p:Nat}(hp:p<96)(bq:K.st (p/8)=1)(na:P.pg p=.blank)(rI:K.fo=true->K.fb=p/8->p%8<K.fi)(hq:∀q,q≠p->P'.pg q=P.pg q)
  (bA:nf (P'.pg p)\/∃t D,P'.pg p=.full t D/\(t.ok/\t.place=p/\t.lost=false)/\∃o t0,o<25/\K.at_ o≠0/\P.pg (K.at_ o-1)=.full t0 D/\t0.of=t.of/\t0.seq=t.seq):Wi a k K P':=by
 have hold:∀o,o<25->K.at_ o≠0->K.at_ o-1≠p:=fun o ho e=>h.mt.old (by rw[na];intro t D x;cases x) ho e;refine⟨h.mt.ext (fun q t D gX e=>?_) (fun o ho e=>hq _ (hold o ho e)),h.sh.abL (fun o ho e=>hq _ (hold o (by omega) e)),fun o ho e=>?_,h.fl,h.nx,h.eZ,h.hb,h.cur,h.st,h.pn,h.fb,h.fi,fun b i hb e hi=>?_,h.f1,fun hf i h1 h2=>?_,h.bad,h.live⟩
 ·by_cases hn:q=p
  ·subst hn;rcases bA with bA|⟨t',D',e',g,o,t0,c⟩
   ·exact absurd e (bA t D)
   ·rw[e'] at e
    cases e
    exact .inr ⟨g,o,t0,c⟩
  ·exact .inl (by rw[<-hq q hn];exact e)
 ·obtain⟨t,D,e1,e2⟩:=h.en o ho e;exact⟨t,D,by rw[hq _ (hold o ho e)];exact e1,e2⟩
 ·rw[hq _ (fun x=>by rw[<-x,show(b*8+i)/8=b by omega] at bq;omega)];exact h.bl b i hb e hi
 ·rw[hq _ (fun x=>by
   have:=rI hf (by rw[<-x];omega);rw[<-x] at this;omega)]
  exact h.fr hf i h1 h2
structure B7(K K0:KS):Prop where
 eq:∃st fo fb fi,K0={ K with st:=st,fo:=fo,fb:=fb,fi:=fi }
 fo:K0.fo=false
 st:∀b,K0.st b=K.st b\/K.st b=1/\K0.st b=2
 front:K.fo=true->K0.st K.fb=2
 off:K.fo=false->K0=K
theorem Wi.shut(h:Wi a k K P):Wi a k (aT K) P/\B7 K (aT K):=by
 unfold aT;by_cases hf:K.fo=true
 ·rw[if_pos hf];have h1:=h.f1 hf;have hs:aD K.st K.fb 2=ah K.st K.fb 2:=by
   unfold aD;rw[if_neg (fun x=>by rw[h1] at x;omega)]
  rw[hs];have ne:∀b,b≠K.fb->ah K.st K.fb 2 b=K.st b:=fun b hb=>if_neg hb;have eq:ah K.st K.fb 2 K.fb=2:=if_pos rfl;have bq:∀b,ah K.st K.fb 2 b=K.st b\/K.st b=1/\ah K.st K.fb 2 b=2:=fun b=>by
   by_cases hb:b=K.fb
   ·rw[hb];exact .inr ⟨h1,eq⟩
   ·exact .inl (ne b hb)
  refine⟨⟨h.mt,h.sh,h.en,h.fl,h.nx,h.eZ,h.hb,h.cur,fun b hb=>?_,h.pn,by show 0<12;omega,by show 0<=8;omega,fun b i hb e hi=>?_,fun x=>(by cases x),fun x=>(by cases x),fun b hb e=>?_,fun hw o ho e=>?_⟩,⟨⟨_,_,_,_,rfl⟩,rfl,bq,fun _=>eq,fun x=>(by rw[hf] at x;cases x)⟩⟩
  ·have:=h.st b hb;show ah K.st K.fb 2 b<=3;rcases bq b with x|x<;>omega
  ·have e:ah K.st K.fb 2 b=0:=e;refine h.bl b i hb ?_ hi;rcases bq b with x|x<;>omega
  ·have:=h.bad b hb e;show ah K.st K.fb 2 b=3;rcases bq b with x|x<;>omega
  ·have hw':ax K.st=false:=kJ (fun b hb e=>by
    show ah K.st K.fb 2 b=3;rcases bq b with x|x<;>omega) hw
   show ah K.st K.fb 2 ((K.at_ o-1)/8)=2\/_;rcases h.live hw' o ho e with x|⟨_,x⟩
   ·rcases bq ((K.at_ o-1)/8) with y|y
    ·exact .inl (y.trans x)
    ·exact .inl y.2
   ·rw[<-x];exact .inl eq
 ·have hf:K.fo=false:=by simpa using hf
  rw[if_neg (by rw[hf];decide)];exact⟨h,⟨⟨_,_,_,_,rfl⟩,hf,fun b=>.inl rfl,fun x=>(by rw[hf] at x;cases x),fun _=>rfl⟩⟩
end
structure Cq(K2 K':KS)(d n:Nat):Prop where
 st:∀b,K'.st b=K2.st b\/K2.st b=1/\K'.st b=2
 std:K'.st d=2\/K'.fo=true/\K'.fb=d
 fb:K'.fb<12
 fi:K'.fi<=8
 f1:K'.fo=true->K'.st K'.fb=1
 fr:(K'.fo=true/\K'.fb=K2.fb/\K'.fi=K2.fi/\K2.fo=true/\aF K2.fo K2.fi 0=true)\/(K'.fo=true/\K'.fb=d/\K'.fi=n/\(K2.fo=true->K'.st K2.fb=2)/\aF K2.fo K2.fi 0=false)
theorem aeC{K2:KS}{d:Nat}{l:List Tg}(hd:d<12)(h1:K2.st d=1)(hf:K2.fo=true->K2.st K2.fb=1/\K2.fb≠d)(qk:K2.fb<12)(hfi:K2.fi<=8)(hl:l.length<=8) :
  (∃st fo fb fi,jr K2 d l={ eY K2 l with st:=st,fo:=fo,fb:=fb,fi:=fi })/\Cq K2 (jr K2 d l) d l.length:=by
 obtain⟨A,O,E,M,e⟩:=nL K2 l;unfold jr;rw[e];simp only;by_cases hr:aF K2.fo K2.fi 0=true
 ·rw[if_pos hr];have fR:K2.fo=true:=by
   unfold aF at hr;simp at hr;exact hr.1
  have hs:aD K2.st d 2=ah K2.st d 2:=by
   unfold aD;rw[if_neg (fun x=>by omega)]
  rw[hs];have ne:∀b,b≠d->ah K2.st d 2 b=K2.st b:=fun b hb=>if_neg hb;have eq:ah K2.st d 2 d=2:=if_pos rfl;refine⟨⟨_,_,_,_,rfl⟩,⟨fun b=>?_,.inl eq,qk,hfi,fun _=>?_,.inl ⟨fR,rfl,rfl,fR,hr⟩⟩⟩
  ·by_cases hb:b=d
   ·rw[hb];exact .inr ⟨h1,eq⟩
   ·exact .inl (ne b hb)
  ·show ah K2.st d 2 K2.fb=1;rw[ne _ (hf fR).2];exact(hf fR).1
 ·have hr':aF K2.fo K2.fi 0=false:=by simpa using hr
  rw[if_neg hr];unfold aT;by_cases fR:K2.fo=true
  ·rw[if_pos (by exact fR)];have hs:aD K2.st K2.fb 2=ah K2.st K2.fb 2:=by
    unfold aD;rw[if_neg (fun x=>by have:=(hf fR).1;omega)]
   simp only[hs];have ne:∀b,b≠K2.fb->ah K2.st K2.fb 2 b=K2.st b:=fun b hb=>if_neg hb;have eq:ah K2.st K2.fb 2 K2.fb=2:=if_pos rfl;refine⟨⟨_,_,_,_,rfl⟩,⟨fun b=>?_,.inr ⟨rfl,rfl⟩,hd,hl,fun _=>?_,.inr ⟨rfl,rfl,rfl,fun _=>eq,hr'⟩⟩⟩
   ·show ah K2.st K2.fb 2 b=_\/_;by_cases hb:b=K2.fb
    ·rw[hb];exact .inr ⟨(hf fR).1,eq⟩
    ·exact .inl (ne b hb)
   ·show ah K2.st K2.fb 2 d=1;rw[ne _ (fun x=>(hf fR).2 x.symm)];exact h1
  ·have fR:K2.fo=false:=by simpa using fR
   rw[if_neg (by rw[fR];decide)];exact⟨⟨_,_,_,_,rfl⟩,⟨fun b=>.inl rfl,.inr ⟨rfl,rfl⟩,hd,hl,fun _=>h1,.inr ⟨rfl,rfl,rfl,fun x=>(by rw[fR] at x;cases x),hr'⟩⟩⟩
structure Bi(K:KS)(P:CS)(v d:Nat)(os:List Nat)(l:List Tg):Prop where
 nd:os.Nodup
 o8:os.length<=8
 mem:∀o,o∈os->o<25/\K.at_ o≠0/\(K.at_ o-1)/8=v
 len:l.length=os.length
 tag:∀i,i<os.length->l.getD i Tg.zero=bm K d i (os.getD i 0)/\aR (d*8+i) (os.getD i 0)=true
 pg:∀i,i<os.length->P.pg (d*8+i)=.full (bm K d i (os.getD i 0)) (aS P (K.at_ (os.getD i 0)-1))
section
variable{a:Nat->Nat->Nat}{k:Cp}{K:KS}{P:CS}{v d:Nat}{os:List Nat}{l:List Tg}
structure Dd(K K':KS)(d:Nat)(os:List Nat):Prop where
 eZ:AM K'.at_ K'.ow
 go:∀i,i<os.length->K'.at_ (os.getD i 0)=d*8+i+1/\K'.en (os.getD i 0)=⟨(K.en (os.getD i 0)).seq,((K.en (os.getD i 0)).copy+1)%256,(K.en (os.getD i 0)).lost⟩
 stay:∀o,o∉os->K'.at_ o=K.at_ o/\K'.en o=K.en o
theorem Bi.mv(C:Bi K P v d os l)(hc:AM K.at_ K.ow)(hd:d<12)(fU:∀o,o<25->K.at_ o≠0->(K.at_ o-1)/8≠d){K2:KS}(e1:K2.at_=K.at_)(e2:K2.ow=K.ow)(e3:K2.en=K.en):Dd K (eY K2 l) d os:=by
 have H:BD K2 d os l (fun o=>⟨(K.en o).seq,((K.en o).copy+1)%256,(K.en o).lost⟩):=by
  refine⟨by rw[e1,e2];exact hc,hd,C.o8,C.nd,C.len,fun i hi=>⟨(C.mem _ ?_).1,(C.tag i hi).2⟩,by rw[e1];exact fU,fun i hi=>?_⟩
  ·rw[bH hi];exact List.getElem_mem hi
  ·rw[(C.tag i hi).1];exact⟨rfl,rfl,rfl⟩
 obtain⟨h1,h2,h3⟩:=uY H os.length (Nat.le_refl _);rw[show l.take os.length=l by rw[<-C.len,List.take_length]] at h1 h2 h3;refine⟨h1,h2,fun o ho=>?_⟩;rw[<-e1, <-e3];refine h3 o (fun j hj e=>ho ?_);rw[<-e,bH hj];exact List.getElem_mem hj
theorem Bi.all(C:Bi K P v d os l)(h:Wi a k K P)(D:Bz K P d os.length){K':KS}(M:Dd K K' d os):∀o,o<25->K.at_ o≠0->K'.at_ o≠0/\K'.at_ o-1<96/\(∃t t' D,P.pg (K.at_ o-1)=.full t D/\P.pg (K'.at_ o-1)=.full t' D/\t'.of=t.of/\t'.seq=t.seq/\K'.en o=⟨t'.seq,t'.copy,false⟩)/\((o∈os/\(K'.at_ o-1)/8=d)\/(o∉os/\K'.at_ o=K.at_ o)):=fun o ho e=>by
 obtain⟨hp,t,D0,a1,a2,a3,a4,a5,a6,a7,a8⟩:=h.cI ho e;by_cases hm:o∈os
 ·obtain⟨i,hi,rfl⟩:=List.getElem_of_mem hm;rw[<-bH hi (x:=0)] at *;obtain⟨g1,g2⟩:=M.go i hi;have bA:=C.pg i hi;have:=D.lt;have h8:=C.o8;refine⟨by omega,by omega,⟨t,bm K d i (os.getD i 0),D0,a1,?_,?_,?_,?_⟩,.inl ⟨hm,by omega⟩⟩
  ·rw[g1,Nat.add_sub_cancel,bA,bF a1]
  ·exact a3.symm
  ·show(K.en (os.getD i 0)).seq=t.seq;rw[a2]
  ·rw[g2];unfold bm;rw[a2]
 ·obtain⟨g1,g2⟩:=M.stay o hm;rw[g1,g2];exact⟨e,hp,⟨t,t,D0,a1,a1,rfl,rfl,a2⟩,.inr ⟨hm,rfl⟩⟩
theorem Bi.zero(C:Bi K P v d os l){K':KS}(M:Dd K K' d os):∀o,o<25->K.at_ o=0->K'.at_ o=0:=fun o ho e=>by
 rw[(M.stay o (fun hm=>(C.mem o hm).2.1 e)).1];exact e
theorem Bi.apB(C:Bi K P v d os l){K':KS}(M:Dd K K' d os):∀o,o<25->K.at_ o≠0->K'.at_ o≠0/\(K'.en o).seq=(K.en o).seq:=fun o ho e=>by
 by_cases hm:o∈os
 ·obtain⟨i,hi,rfl⟩:=List.getElem_of_mem hm;rw[<-bH hi (x:=0)] at *;obtain⟨g1,g2⟩:=M.go i hi;exact⟨by omega,by rw[g2]⟩
 ·obtain⟨g1,g2⟩:=M.stay o hm;exact⟨by rw[g1];exact e,by rw[g2]⟩
theorem Wi.adv(h:Wi a k K P){b:Nat}(hb:b<12)(hs:K.st b≠3):k.bad b=false:=by
 cases e:k.bad b
 ·rfl
 ·exact absurd (h.bad b hb e) hs
theorem Wi.erased(h:Wi a k K P)(hv:v<12)(sn:K.st v=2)(D:Bz K P d os.length)(C:Bi K P v d os l)(cq:∀o,o<25->K.at_ o≠0->(K.at_ o-1)/8=v->o∈os) :
  Wi a k (jr (oV K v) d l) (P.dE v)/\Cq (oV K v) (jr (oV K v) d l) d l.length/\(∃st fo fb fi A O E M,jr (oV K v) d l={ oV K v with st:=st,fo:=fo,fb:=fb,fi:=fi,at_:=A,ow:=O,en:=E,dZ:=M })/\(oV K v).st=ah K.st v 0/\∀o,o<25->K.at_ o≠0->(jr (oV K v) d l).at_ o≠0/\((jr (oV K v) d l).en o).seq=(K.en o).seq:=by
 have hs:aD K.st v 0=ah K.st v 0:=by
  unfold aD;rw[if_neg (fun x=>by omega)]
 have jn:d≠v:=fun e=>by have:=D.st;rw[e] at this;omega
 have hfv:K.fo=true->K.fb≠v:=fun hf e=>by have:=h.f1 hf;rw[e] at this;omega
 have ne:∀b,b≠v->ah K.st v 0 b=K.st b:=fun b hb=>if_neg hb;have eqv:ah K.st v 0 v=0:=if_pos rfl;have wD:(oV K v).st=ah K.st v 0:=hs;have M:=C.mv h.eZ D.lt D.dead (K2:=oV K v) rfl rfl rfl;obtain⟨⟨st,fo,fb,fi,ee⟩,EF⟩:=aeC (K2:=oV K v) (l:=l) D.lt (by rw[wD,ne d jn];exact D.st) (fun hf=>⟨by rw[wD];show ah K.st v 0 K.fb=1;rw[ne _ (hfv hf)];exact h.f1 hf,D.fr hf⟩) h.fb h.fi (by rw[C.len];exact C.o8);obtain⟨A,O,E,Mo,em⟩:=nL (oV K v) l;rw[em] at M ee;rw[ee] at EF ⊢;have kK:=C.all h D M;have hz:=C.zero M;have hnv:∀o,o<25->K.at_ o≠0->(A o-1)/8≠v:=fun o ho e=>by
  rcases(kK o ho e).2.2.2 with⟨_,x⟩|⟨x,y⟩
  ·have x:(A o-1)/8=d:=x;omega
  ·have y:A o=K.at_ o:=y;rw[y];exact fun z=>x (cq o ho e z)
 have qf:∀o,o<25->A o≠0->K.at_ o≠0:=fun o ho hA e=>hA (hz o ho e);have hkd:k.bad d=false:=h.adv D.lt (by rw[D.st];omega);obtain⟨mt1,sh1⟩:=h.mt.ajz (L':=A) (fun o ho e=>by
  obtain⟨x1,x2,⟨t,t',D0,y1,y2,y3,y4,_⟩,x3⟩:=kK o ho e;refine⟨x1,x2,?_,t,t',D0,y1,y2,y3,y4⟩;rcases x3 with⟨_,z⟩|⟨_,z⟩
  ·have z:(A o-1)/8=d:=z;rw[z];exact hkd
  ·have z:A o=K.at_ o:=z;rw[z];obtain⟨s,T,_⟩:=h.mt.yes o ho e;exact T.bad) hz
 have wne:∀q,q/8≠v->(P.dE v).pg q=P.pg q:=fun q hq=>by
  unfold CS.dE;simp only;rw[if_neg hq]
 have weq:∀q,q/8=v->(P.dE v).pg q=.blank:=fun q hq=>by
  unfold CS.dE;simp only;rw[if_pos hq]
 refine⟨⟨mt1.ext (fun q t D hq e=>?_) (fun o ho e=>wne _ (hnv o ho (qf o ho e))),(sh1 a h.sh).abL (fun o ho e=>wne _ (hnv o (by omega) (qf o (by omega) e))),fun o ho e=>?_,h.fl,h.nx,M.eZ,?_,h.cur,fun b hb=>?_,h.pn,EF.fb,EF.fi,fun b i hb e hi=>?_,EF.f1,fun hf i h1 h2=>?_,fun b hb e=>?_,fun hw o ho e=>?_⟩,EF,⟨_,_,_,_,_,_,_,_,rfl⟩,wD,fun o ho e=>C.apB M o ho e⟩
 ·by_cases hqv:q/8=v
  ·rw[weq q hqv] at e;cases e
  ·rw[wne q hqv] at e;exact .inl e
 ·obtain⟨_,_,⟨t,t',D0,y1,y2,y3,y4,y5⟩,_⟩:=kK o ho (qf o ho e);exact⟨t',D0,by show(P.dE v).pg (A o-1)=_;rw[wne _ (hnv o ho (qf o ho e))];exact y2,y5⟩
 ·exact h.hb.er hv
 ·have h1:=h.st b hb;have h2:=EF.st b;show st b<=3;have h3:ah K.st v 0 b<=3:=by
   by_cases mC:b=v
   ·rw[mC,eqv];omega
   ·rw[ne b mC];exact h1
  rw[wD] at h2;rcases h2 with x|x
  ·have x:st b=ah K.st v 0 b:=x;omega
  ·have x:st b=2:=x.2;omega
 ·have e:st b=0:=e;by_cases mC:b=v
  ·exact weq _ (by omega)
  ·rw[wne _ (by omega)];refine h.bl b i hb ?_ hi;have h2:=EF.st b;rw[wD,ne b mC] at h2;rcases h2 with x|x
   ·have x:st b=K.st b:=x;omega
   ·have x:st b=2:=x.2;omega
 ·have hf:fo=true:=hf;rcases EF.fr with⟨_,f2,f3,f4,_⟩|⟨_,f2,f3,_⟩
  ·have f2:fb=K.fb:=f2;have f3:fi=K.fi:=f3;have f4:K.fo=true:=f4;show(P.dE v).pg (fb*8+i)=_;rw[f2,wne _ (by have:=hfv f4;omega)];exact h.fr f4 i (by have h1:fi<=i:=h1;omega) h2
  ·have f2:fb=d:=f2;have f3:fi=l.length:=f3;show(P.dE v).pg (fb*8+i)=_;rw[f2,wne _ (by omega)];exact D.bl i (by have h1:fi<=i:=h1;rw[<-C.len];omega) h2
 ·have h1:=h.bad b hb e;have h2:=EF.st b;rw[wD,ne b (fun x=>by rw[x] at h1;omega)] at h2;rcases h2 with x|x
  ·exact x.trans h1
  ·omega
 ·have hw':ax K.st=false:=kJ (fun b hb e=>by
   have h2:=EF.st b;rw[wD,ne b (fun x=>by rw[x] at e;omega)] at h2;rcases h2 with x|x
   ·exact x.trans e
   ·omega) hw
  have hA:=qf o ho e;rcases(kK o ho hA).2.2.2 with⟨_,x⟩|⟨x,y⟩
  ·have x:(A o-1)/8=d:=x;show st ((A o-1)/8)=2\/fo=true/\fb=(A o-1)/8;rw[x];rcases EF.std with z|⟨z1,z2⟩
   ·exact .inl z
   ·exact .inr ⟨z1,z2⟩
  ·have y:A o=K.at_ o:=y;have mC:(K.at_ o-1)/8≠v:=fun z=>x (cq o ho hA z);show st ((A o-1)/8)=2\/fo=true/\fb=(A o-1)/8;rw[y];have h2:=EF.st ((K.at_ o-1)/8);rw[wD,ne _ mC] at h2;have h2:st ((K.at_ o-1)/8)=K.st ((K.at_ o-1)/8)\/K.st ((K.at_ o-1)/8)=1/\st ((K.at_ o-1)/8)=2:=h2;rcases h.live hw' o ho hA with z|⟨z1,z2⟩
   ·exact .inl (by omega)
   ·rcases EF.fr with⟨f1,f2,f3,f4,_⟩|⟨f1,f2,f3,f4,_⟩
    ·have f1:fo=true:=f1;have f2:fb=K.fb:=f2;exact .inr ⟨f1,by rw[f2];exact z2⟩
    ·have f4:st K.fb=2:=f4 z1;exact .inl (by rw[<-z2];exact f4)
end
theorem AM.again{at_ ow:Nat->Nat}(h:AM at_ ow){o p:Nat}(ho:o<25)(hp:p<96)(e:at_ o=p+1)(hh:aR p o=true):(setAt at_ ow o p).1=at_/\(setAt at_ ow o p).2=ow:=by
 have h1:=(h.a o ho (by omega)).2;rw[e,Nat.add_sub_cancel] at h1;have es:setAt at_ ow o p=(ah at_ o (p+1),ah (if at_ o≠0 then ah ow (at_ o-1) 0 else ow) p (o+1)):=by
  unfold setAt;rw[hh,if_neg (by decide),if_neg (fun x=>x.2 h1)]
 rw[es];constructor
 ·funext i;unfold ah;simp only;by_cases hi:i=o
  ·rw[if_pos hi,hi,e]
  ·rw[if_neg hi]
 ·funext i;show ah (if at_ o≠0 then ah ow (at_ o-1) 0 else ow) p (o+1) i=ow i;rw[if_pos (show at_ o≠0 by omega),e,Nat.add_sub_cancel];unfold ah;by_cases hi:i=p
  ·rw[if_pos hi,hi,h1]
  ·rw[if_neg hi,if_neg hi]
section
variable{a:Nat->Nat->Nat}{k:Cp}{K:KS}{P P':CS}{v d:Nat}{os:List Nat}{l:List Tg}
theorem jj(h:Wi a k K P){s:Int}(hs:0<=s/\s<=1099511627775)(also:Int):(iA (bJ K) s also).told :=
 ⟨hs,by have:=h.cur;show(0:Int)<=(K.cur:Nat)/\((K.cur:Nat):Int)<=95;omega,h.fge,fun j hj=>(h.hb j hj).1,fun j hj=>(h.hb j hj).2.1⟩
def dQ(K:KS)(p:Nat):Tg:=⟨(p:Int),24,K.next,0,false⟩
theorem abM{K:KS}{p:Nat}(hp:p<96)(hn:1<=K.next/\K.next<1099511627775):(dQ K p).ok:=by
 unfold Tg.ok dQ;simp only;exact⟨by omega,by omega,by omega,by omega,by omega,by omega,by omega,by omega,fun _=>trivial,fun h=>absurd rfl h⟩
def syK(K:KS)(F:Nat->Int)(v d n:Nat)(l:List Tg):KS:=anK (jr { K with next:=K.next+1,F:=F,st:=aD K.st v 3 } d (l++[dQ K (d*8+n)])) (dQ K (d*8+n)) 24 (d*8+n)
theorem Wi.said(h:Wi a k K P)(hw:ax K.st=false)(hv:v<12)(sn:K.st v=2)(D:Bz K P d os.length)(C:Bi K P v d os l)(h7:os.length<=7)(cq:∀o,o<24->K.at_ o≠0->(K.at_ o-1)/8=v->o∈os)(hn:K.next<1099511627775)
  {F:Nat->Int} (hF:Hl.HB F) (hq:∀q,q≠d*8+os.length->P'.pg q=P.pg q) (hp:P'.pg (d*8+os.length)=.full (dQ K (d*8+os.length)) (sV (iA (bJ K) K.next v))) :
  Wi a (iA (bJ K) K.next v) (syK K F v d os.length l) P'/\Cq { K with st:=ah K.st v 3 } (syK K F v d os.length l) d (os.length+1) /\
   (∃st fo fb fi A O E M G,syK K F v d os.length l={ K with st:=st,fo:=fo,fb:=fb,fi:=fi,at_:=A,ow:=O,en:=E,dZ:=M,F:=G,calls:=0,next:=K.next+1 }) /\
   AL (jr { K with next:=K.next+1,F:=F,st:=aD K.st v 3 } d (l++[dQ K (d*8+os.length)])).at_ (jr { K with next:=K.next+1,F:=F,st:=aD K.st v 3 } d (l++[dQ K (d*8+os.length)])).ow/\∀o,o<24->K.at_ o≠0->(syK K F v d os.length l).at_ o≠0/\((syK K F v d os.length l).en o).seq=(K.en o).seq:=by
 have hd:=D.lt;have mb:d*8+os.length<96:=by omega
 have jn:d≠v:=fun e=>by have:=D.st;rw[e] at this;omega
 have hfv:K.fo=true->K.fb≠v:=fun hf e=>by have:=h.f1 hf;rw[e] at this;omega
 have hs:aD K.st v 3=ah K.st v 3:=by
  unfold aD;rw[if_neg (fun x=>x.2 rfl)]
 have ne:∀b,b≠v->ah K.st v 3 b=K.st b:=fun b hb=>if_neg hb;have eqv:ah K.st v 3 v=3:=if_pos rfl;unfold syK;rw[hs];have M:=C.mv h.eZ D.lt D.dead (K2:={ K with next:=K.next+1,F:=F,st:=ah K.st v 3 }) rfl rfl rfl;obtain⟨⟨st,fo,fb,fi,ee⟩,EF⟩:=aeC (K2:={ K with next:=K.next+1,F:=F,st:=ah K.st v 3 }) (l:=l++[dQ K (d*8+os.length)]) D.lt (by show ah K.st v 3 d=1;rw[ne d jn];exact D.st) (fun hf=>⟨by show ah K.st v 3 K.fb=1;rw[ne _ (hfv hf)];exact h.f1 hf,D.fr hf⟩) h.fb h.fi (by rw[List.length_append,C.len,List.length_singleton];omega);rw[kt] at ee;obtain⟨A,O,E,Mo,em⟩:=nL { K with next:=K.next+1,F:=F,st:=ah K.st v 3 } l;rw[em] at M ee;have kK:=C.all h D M;have hz:=C.zero M;have hold:∀o,o<25->A o≠d*8+os.length+1:=fun o ho e=>by
  have hK:K.at_ o≠0:=fun x=>by have:A o=0:=hz o ho x;omega
  by_cases hm:o∈os
  ·obtain⟨i,hi,rfl⟩:=List.getElem_of_mem hm;rw[<-bH hi (x:=0)] at e;have:A (os.getD i 0)=d*8+i+1:=(M.go i hi).1;omega
  ·have:A o=K.at_ o:=(M.stay o hm).1;exact D.dead o ho hK (by rw[<-this,e];omega)
 have zM:O (d*8+os.length)=0:=by
  by_cases hx:O (d*8+os.length)=0
  ·exact hx
  ·obtain⟨y1,y2⟩:=M.eZ.o _ mb hx;exact absurd y2 (hold _ (by omega))
 have apC:aR (d*8+os.length) 24=true:=by unfold aR;rfl
 have iB:AM A O:=M.eZ;obtain⟨c1,c2⟩:=iB.set (o:=24) (by omega) mb zM apC;have e3:mvK { K with next:=K.next+1,F:=F,st:=ah K.st v 3,at_:=A,ow:=O,en:=E,dZ:=Mo } (dQ K (d*8+os.length))={ K with next:=K.next+1,F:=F,st:=ah K.st v 3,at_:=ah A 24 (d*8+os.length+1),ow:=(setAt A O 24 (d*8+os.length)).2,en:=ah E 24 ⟨K.next,0,false⟩,dZ:=jI (Mo+1) }:=by
  unfold mvK stK;simp only;rw[show(dQ K (d*8+os.length)).of.toNat=24 from rfl,show(dQ K (d*8+os.length)).place.toNat=d*8+os.length from Int.toNat_natCast _,c2];rfl
 rw[e3] at ee;rw[ee] at EF ⊢;rw[c2] at c1;generalize (setAt A O 24 (d*8+os.length)).2=O3 at *;obtain⟨g1,g2⟩:=c1.again (o:=24) (p:=d*8+os.length) (by omega) mb (if_pos rfl) apC;have e4:anK ({ K with next:=K.next+1,F:=F,st:=st,fo:=fo,fb:=fb,fi:=fi,at_:=ah A 24 (d*8+os.length+1),ow:=O3,en:=ah E 24 ⟨K.next,0,false⟩,dZ:=jI (Mo+1) }:KS) (dQ K (d*8+os.length)) 24 (d*8+os.length)={ K with next:=K.next+1,F:=Hl.ntF F,calls:=0,st:=st,fo:=fo,fb:=fb,fi:=fi,at_:=ah A 24 (d*8+os.length+1),ow:=O3,en:=ah (ah E 24 ⟨K.next,0,false⟩) 24 ⟨K.next,0,false⟩,dZ:=jI (Mo+1) }:=by
  unfold anK stK;rw[if_pos rfl];simp only;rw[g1,g2];rfl
 have e4':ah (ah E 24 ⟨K.next,0,false⟩) 24 ⟨K.next,0,false⟩=ah E 24 (⟨K.next,0,false⟩:En):=by
  funext i;unfold ah;split<;>rfl
 rw[e4'] at e4;have e5:∀x:KS,x={ K with next:=K.next+1,F:=F,st:=st,fo:=fo,fb:=fb,fi:=fi,at_:=ah A 24 (d*8+os.length+1),ow:=O3,en:=ah E 24 ⟨K.next,0,false⟩,dZ:=jI (Mo+1) }->anK x (dQ K (d*8+os.length)) 24 (d*8+os.length)={ K with next:=K.next+1,F:=Hl.ntF F,calls:=0,st:=st,fo:=fo,fb:=fb,fi:=fi,at_:=ah A 24 (d*8+os.length+1),ow:=O3,en:=ah E 24 ⟨K.next,0,false⟩,dZ:=jI (Mo+1) }:=fun x hx=>by rw[hx];exact e4
 rw[e5 _ rfl];have hnv:∀o,o<24->K.at_ o≠0->(A o-1)/8≠v:=fun o ho e=>by
  rcases(kK o (by omega) e).2.2.2 with⟨_,x⟩|⟨x,y⟩
  ·have x:(A o-1)/8=d:=x;omega
  ·have y:A o=K.at_ o:=y;rw[y];exact fun z=>x (cq o ho e z)
 have qf:∀o,o<25->A o≠0->K.at_ o≠0:=fun o ho hA e=>hA (hz o ho e);have hkd:k.bad d=false:=h.adv D.lt (by rw[D.st];omega);obtain⟨mt1,sh1⟩:=h.mt.ajz (L':=A) (fun o ho e=>by
  obtain⟨x1,x2,⟨t,t',D0,y1,y2,y3,y4,_⟩,x3⟩:=kK o ho e;refine⟨x1,x2,?_,t,t',D0,y1,y2,y3,y4⟩;rcases x3 with⟨_,z⟩|⟨_,z⟩
  ·have z:(A o-1)/8=d:=z;rw[z];exact hkd
  ·have z:A o=K.at_ o:=z;rw[z];obtain⟨s,T,_⟩:=h.mt.yes o ho e;exact T.bad) hz
 have alG:P.pg (d*8+os.length)=.blank:=D.bl _ (Nat.le_refl _) (by omega);have zX:nf (P.pg (d*8+os.length)):=by rw[alG];intro t D x;cases x
 have apD:∀b,(iA (bJ K) K.next v).bad b=(decide (K.st b=3)||decide ((b:Int)=(v:Nat))):=fun b=>rfl;have oB:=h.live hw;have knb:∀b,b≠v->K.st b≠3->(iA (bJ K) K.next v).bad b=false:=fun b hb h3=>by
  rw[apD];simp;exact⟨h3,by omega⟩
 have apE:∀o,o<25->K.at_ o≠0->K.st ((K.at_ o-1)/8)≠3:=fun o ho e x=>by
  rcases oB o ho e with y|⟨y1,y2⟩
  ·omega
  ·have:=h.f1 y1;rw[y2] at this;omega
 have wS:∀q,q≠d*8+os.length->P'.pg q=P.pg q:=hq;obtain⟨mt2,sh2⟩:=mt1.ajA (p:=d*8+os.length) (s:=K.next) (k':=iA (bJ K) K.next v) (L':=ah A 24 (d*8+os.length+1)) (Int.le_refl _) mb zX hq hp
  ⟨abM mb ⟨h.nx.1,hn⟩,rfl,rfl,jc _,gH _⟩ rfl rfl (jj h (by have:=h.nx;omega) _) (Int.le_refl _) (fun b hb e=>by rw[apD,h.bad b hb e];rfl)
  (knb _ (by rw[show(d*8+os.length)/8=d by omega];exact jn) (by rw[show(d*8+os.length)/8=d by omega,D.st];omega)) (if_pos rfl)
  (fun o ho=>.inl ⟨if_neg (by omega),(h.fl o ho).symm,fun e=>by
   have hA:=qf o (by omega) e;refine knb _ (hnv o ho hA) ?_;rcases(kK o (by omega) hA).2.2.2 with⟨_,x⟩|⟨x,y⟩
   ·have x:(A o-1)/8=d:=x;rw[x,D.st];omega
   ·have y:A o=K.at_ o:=y;rw[y];exact apE o (by omega) hA⟩)
 have hoA:∀o,o<25->A o≠0->A o-1≠d*8+os.length:=fun o ho e x=>hold o ho (by omega);have nZ:∀b,st b=ah K.st v 3 b\/ah K.st v 3 b=1/\st b=2:=EF.st;refine⟨⟨mt2,sh2 a a (sh1 a h.sh) (fun o ho=>⟨fun _ j hj=>rfl,fun x y j hj=>?_⟩),fun o ho e=>?_,fun _ _=>rfl,by have:=h.nx;show 1<=K.next+1/\K.next+1<=_;omega,c1,hF.nt,h.cur,fun b hb=>?_,h.pn,EF.fb,EF.fi,fun b i hb e hi=>?_,EF.f1,fun hf i h1 h2=>?_,fun b hb e=>?_,fun hwn o ho e=>?_⟩,⟨nZ,EF.std,EF.fb,EF.fi,EF.f1,?_⟩,⟨_,_,_,_,_,_,_,_,_,rfl⟩,c1.mw,fun o ho e=>?_⟩
 ·have x:ah A 24 (d*8+os.length+1) o=0:=x;unfold ah at x;rw[if_neg (by omega)] at x;exact absurd x y
 ·have e:ah A 24 (d*8+os.length+1) o≠0:=e;show ∃t D,P'.pg (ah A 24 (d*8+os.length+1) o-1)=.full t D/\ah E 24 ⟨K.next,0,false⟩ o=_;unfold ah at e ⊢;by_cases jo:o=24
  ·rw[if_pos jo,if_pos jo,Nat.add_sub_cancel];exact⟨_,_,hp,rfl⟩
  ·rw[if_neg jo] at e ⊢;rw[if_neg jo];obtain⟨_,_,⟨t,t',D0,y1,y2,y3,y4,y5⟩,_⟩:=kK o ho (qf o ho e);exact⟨t',D0,by rw[hq _ (hoA o ho e)];exact y2,y5⟩
 ·have h1:=h.st b hb;show st b<=3;have h3:ah K.st v 3 b<=3:=by
   by_cases mC:b=v
   ·rw[mC,eqv];omega
   ·rw[ne b mC];exact h1
  rcases nZ b with x|x<;>omega
 ·have e:st b=0:=e;have mC:b≠v:=fun x=>by
   subst x;rcases nZ b with y|y<;>omega
  have jR:K.st b=0:=by
   rcases nZ b with x|x
   ·rw[ne b mC] at x;omega
   ·omega
  have u5:b≠d:=fun x=>by rw[x,D.st] at jR;omega
  rw[hq _ (by omega)];exact h.bl b i hb jR hi
 ·have hf:fo=true:=hf;rcases EF.fr with⟨_,f2,f3,f4,_⟩|⟨_,f2,f3,_⟩
  ·have f2:fb=K.fb:=f2;have f3:fi=K.fi:=f3;have f4:K.fo=true:=f4;show P'.pg (fb*8+i)=_;rw[f2,hq _ (by have:=D.fr f4;omega)];exact h.fr f4 i (by have h1:fi<=i:=h1;omega) h2
  ·have f2:fb=d:=f2;have f3:fi=(l++[dQ K (d*8+os.length)]).length:=f3;rw[List.length_append,C.len,List.length_singleton] at f3;have h1:fi<=i:=h1;show P'.pg (fb*8+i)=_;rw[f2,hq _ (by omega)];exact D.bl i (by omega) h2
 ·have e:(decide (K.st b=3)||decide ((b:Int)=(v:Nat)))=true:=e;show st b=3;simp at e;rcases e with e|e
  ·have mC:b≠v:=fun x=>by rw[x] at e;omega
   rcases nZ b with x|x
   ·rw[ne b mC] at x;omega
   ·rw[ne b mC] at x;omega
  ·have mC:b=v:=by omega
   rw[mC];rcases nZ v with x|x
   ·omega
   ·omega
 ·have e:ah A 24 (d*8+os.length+1) o≠0:=e;show st ((ah A 24 (d*8+os.length+1) o-1)/8)=2\/fo=true/\fb=(ah A 24 (d*8+os.length+1) o-1)/8;have apF:st d=2\/fo=true/\fb=d:=EF.std;unfold ah at e ⊢;by_cases jo:o=24
  ·rw[if_pos jo,Nat.add_sub_cancel,show(d*8+os.length)/8=d by omega];exact apF
  ·rw[if_neg jo] at e ⊢;have hA:=qf o ho e;rcases(kK o ho hA).2.2.2 with⟨_,x⟩|⟨x,y⟩
   ·have x:(A o-1)/8=d:=x;rw[x];exact apF
   ·have y:A o=K.at_ o:=y;have mC:(K.at_ o-1)/8≠v:=fun z=>x (cq o (by omega) hA z);rw[y];have h2:=nZ ((K.at_ o-1)/8);rw[ne _ mC] at h2;rcases oB o ho hA with z|⟨z1,z2⟩
    ·exact .inl (by omega)
    ·rcases EF.fr with⟨f1,f2,f3,f4,_⟩|⟨f1,f2,f3,f4,_⟩
     ·have f1:fo=true:=f1;have f2:fb=K.fb:=f2;exact .inr ⟨f1,by rw[f2];exact z2⟩
     ·have f4:st K.fb=2:=f4 z1;exact .inl (by rw[<-z2];exact f4)
 ·have fr:=EF.fr;rw[List.length_append,C.len,List.length_singleton] at fr;exact fr
 ·have:=C.apB M o (by omega) e;show ah A 24 (d*8+os.length+1) o≠0/\(ah E 24 ⟨K.next,0,false⟩ o).seq=(K.en o).seq;unfold ah;rw[if_neg (by omega),if_neg (by omega)];exact this
end
section
variable{P:CS}{p:Nat}{t:Tg}{D:Nat->Nat}
theorem Lk.iq(P:CS)(p B:Nat):Lk P (P.iq B) p/\(P.iq B).pg=P.pg:=by
 unfold CS.iq;by_cases h:0<P.before B
 ·rw[if_pos h];refine⟨⟨fun _ _=>rfl,fun b hb=>?_⟩,rfl⟩;by_cases e:b=B
  ·rw[e];exact .inr (.inl h)
  ·unfold CS.may ah at hb;simp only[if_neg e] at hb;exact hb
 ·rw[if_neg h];exact⟨Lk.refl P p,rfl⟩
theorem Lk.bX(P:CS)(p:Nat)(x:Pg):Lk P (P.bX p x) p:=⟨fun q hq=>CS.cJ P x hq,fun _ h=>h⟩
theorem alH{P:CS}{B:Nat}(h:(P.iq B).failed B=true):P.may B:=by
 unfold CS.iq at h;by_cases e:0<P.before B
 ·exact .inr (.inl e)
 ·rw[if_neg e] at h;exact .inl h
theorem abN(hb:P.pg p=.blank):∀n,n<=4->Lk P (P.aJ p t D n).1 p/\((P.aJ p t D n).2=0/\(P.aJ p t D n).1.pg p=(if n=0 then .blank else if n=4 then .full t (cm D) else .ct n)\/(P.aJ p t D n).2=8/\nf ((P.aJ p t D n).1.pg p)/\P.may (p/8)/\(P.aJ p t D n).1.may (p/8))/\∀Q,Q∈P.bx p t D n->Lk P Q p/\nf (Q.pg p)
 |0,_=>⟨Lk.refl P p,.inl ⟨rfl,hb⟩,fun Q h=>by cases h⟩
 | n+1,hn=>by
  obtain⟨h1,h2,h3⟩:=abN hb n (by omega);rcases h2 with⟨e,h2⟩|⟨e,h2,hm⟩
  case inr =>
   have e1:P.aJ p t D (n+1)=P.aJ p t D n:=if_neg (by rw[e];decide);have e2:P.bx p t D (n+1)=P.bx p t D n:=if_neg (by rw[e];decide);rw[e1,e2];exact⟨h1,.inr ⟨e,h2,hm⟩,h3⟩
  have e1:P.aJ p t D (n+1)=(P.aJ p t D n).1.wr p n t D:=if_pos e;have e2:P.bx p t D (n+1)=P.bx p t D n++[(P.aJ p t D n).1]:=if_pos e;rw[e1,e2];have zX:nf ((P.aJ p t D n).1.pg p):=by
   rw[h2];intro t D x;by_cases n0:n=0
   ·rw[if_pos n0] at x;cases x
   ·rw[if_neg n0,if_neg (by omega)] at x;cases x
  obtain⟨k1,k2⟩:=Lk.iq (P.aJ p t D n).1 p (p/8);have htr:∀Q,Q∈P.bx p t D n++[(P.aJ p t D n).1]->Lk P Q p/\nf (Q.pg p):=fun Q hQ=>by
   rcases List.mem_append.1 hQ with hQ|hQ
   ·exact h3 Q hQ
   ·rw[List.mem_singleton.1 hQ];exact⟨h1,zX⟩
  unfold CS.wr;by_cases hf:((P.aJ p t D n).1.iq (p/8)).failed (p/8)=true
  ·rw[if_pos hf];exact⟨h1.trans k1,.inr ⟨rfl,by rw[k2];exact zX,h1.may _ (alH hf),.inl hf⟩,htr⟩
  ·rw[if_neg hf];refine⟨(h1.trans k1).trans (Lk.bX _ _ _),.inl ⟨rfl,?_⟩,htr⟩;rw[CS.dJ];by_cases h3:n=3
   ·subst h3;rfl
   ·rw[if_neg h3,if_neg (show ¬n+1=0 by omega),if_neg (show ¬n+1=4 by omega)]
theorem apG(hb:P.pg p=.blank):Lk P (P.vW p t D).1 p/\((P.vW p t D).2.1=0/\(P.vW p t D).1.pg p=.full t (cm D)\/(P.vW p t D).2.1=8/\nf ((P.vW p t D).1.pg p)/\P.may (p/8)/\(P.vW p t D).1.may (p/8))/\∀Q,Q∈(P.vW p t D).2.2->Lk P Q p/\nf (Q.pg p):=by
 obtain⟨h1,h2,h3⟩:=abN (P:=P) (p:=p) (t:=t) (D:=D) hb 4 (by omega);have e:P.prog p t D=((P.aJ p t D 4).1,(P.aJ p t D 4).2,P.bx p t D 4):=by
  unfold CS.prog;rw[hb]
 unfold CS.vW;rw[e];dsimp only;rcases h2 with⟨e,h2⟩|⟨e,h2,hm⟩
 ·rw[if_pos e];exact⟨⟨h1.pg,h1.may⟩,.inl ⟨rfl,h2⟩,h3⟩
 ·rw[if_neg (show ¬(P.aJ p t D 4).2=0 by rw[e];decide)];exact⟨h1,.inr ⟨e,h2,hm⟩,h3⟩
theorem aeD(P:CS)(B:Nat):((P.erase B).2=0/\(P.erase B).1=P.dE B/\(∀b,(P.dE B).may b->P.may b))\/((P.erase B).2=8/\(P.erase B).1.pg=P.pg/\P.may B/\∀b,(P.erase B).1.may b->P.may b):=by
 unfold CS.erase;by_cases h:(P.failed B||P.aC B)=true
 ·rw[if_pos h];have hm:P.may B:=by
   rcases Bool.or_eq_true_iff.1 h with h|h
   ·exact .inl h
   ·exact .inr (.inr h)
  refine .inr ⟨rfl,rfl,hm,fun b hb=>?_⟩;by_cases e:b=B
  ·rw[e];exact hm
  ·unfold CS.may ah at hb;simp only[if_neg e] at hb;exact hb
 ·rw[if_neg h];refine .inl ⟨rfl,rfl,fun b hb=>?_⟩;by_cases e:b=B
  ·unfold CS.may CS.dE ah at hb;simp only[if_pos e] at hb;rcases hb with hb|hb
   ·cases hb
   ·exact .inr hb
  ·unfold CS.may CS.dE ah at hb;simp only[if_neg e] at hb;exact hb
end
section
variable{w w':World}{N:Cr}{K:KS}{X:Option Addr}{c:Nat}{P:CS}{b:Option Nat}{n:Int}
def Fin(N:Cr)(X:Option Addr)(c:Nat)(b:Option Nat)(w w':World)(ok:KS->CS->Prop)(dead:CS->Prop):Prop :=
 Aa N.all w w'/\((∃K' P' b' n',(b=none->b'=none)/\On w' N K' P' b' n' X c/\ok K' P')\/(b≠none/\∃Q n',AW w' N.N Q n'/\dead Q))
theorem Af.two{b:Option Nat}{tr:List CS}{ok:Option Nat->Prop}{dead:CS->Prop}(h:Af b tr ok dead):(∃b',(b=none->b'=none)/\ok b')\/(b≠none/\∃Q,Q∈tr/\dead Q):=by
 rcases h with⟨_,h⟩|⟨x,hx,e,h⟩
 ·exact .inl ⟨_,fun e=>by rw[e];rfl,h⟩
 ·exact .inr ⟨by rw[e];simp,_,List.getElem_mem hx,h⟩
theorem zY(h:On w N K P b n X c)(B:Hl.HB K.F){p d:Nat}{A:Option Addr}{D:Nat->Nat}{t:Tg}(hp:p<96)(hD:∀j,D j<256)(hl:Ly w 5 1 A 174 d (fun j=>.int .u8 (D j:Nat)))(ht:t.ok)(qH:t.place=p)(hb:P.pg p=.blank) :
  Spec Tryz.prog 109 #[.pointer (some ⟨N.k,0,none⟩),.agg t.arr,.slice A 174 d] w fun v w' =>
   Fin N X c b w w' (fun K' P'=>Lk P P' p/\(v=al 0/\K'=pT K p/\P'.pg p=.full t (cm D)\/v=al 8/\K'=K/\nf (P'.pg p)/\P.may (p/8)/\P'.may (p/8))) (fun Q=>v=al 7/\Lk P Q p/\nf (Q.pg p)):=by
 obtain⟨g1,g2,g3⟩:=apG (P:=P) (p:=p) (t:=t) (D:=D) hb;refine Spec.mono (rT h B hp hD hl ht qH) ?_;rintro v w' ⟨k,hr⟩;refine⟨k,?_⟩;rcases hr.two with⟨b',hb',hv,n',h'⟩|⟨hb',Q,hQ,hv,n',h'⟩
 ·refine .inl ⟨_,_,b',n',hb',h',g1,?_⟩;rcases g2 with⟨e,g⟩|⟨e,g,hm⟩
  ·rw[e] at hv ⊢;exact .inl ⟨hv,rfl,g⟩
  ·rw[e] at hv ⊢;exact .inr ⟨hv,rfl,g,hm⟩
 ·exact .inr ⟨hb',Q,n',h',hv,g3 Q hQ⟩
def ij(bad:Bool)(L:List Nat):List Nat:=L.filter fun o => !(bad&&decide (o=24))
theorem ajB(bad:Bool)(L:List Nat)(o:Nat):ij bad (L++[o])=if bad=true/\o=24 then ij bad L else ij bad L++[o]:=by
 unfold ij;rw[List.filter_append];by_cases h:bad=true/\o=24
 ·rw[if_pos h,h.1,h.2];simp
 ·rw[if_neg h];congr 1;have:(!(bad&&decide (o=24)))=true:=by
   cases bad
   ·rfl
   ·have:o≠24:=fun e=>h ⟨rfl,e⟩;simp[this]
  simp[List.filter,this]
theorem alI{bad:Bool}{L:List Nat}{o:Nat}(h:o∈ij bad L):o∈L:=(List.mem_filter.1 h).1
theorem adw(bad:Bool)(L:List Nat):(ij bad L).length<=L.length:=List.length_filter_le _ _
theorem an3{bad:Bool}{L:List Nat}{o:Nat}(h:o∈L)(hb:bad=false\/o≠24):o∈ij bad L:=List.mem_filter.2 ⟨h,by
 rcases hb with e|e
 ·simp[e]
 ·simp[e]⟩
def tgL(K:KS)(d:Nat)(os:List Nat):List Tg:=(List.range os.length).map fun i=>bm K d i (os.getD i 0)
theorem s9(K:KS)(d:Nat)(os:List Nat):(tgL K d os).length=os.length:=by simp[tgL]
theorem ajC(K:KS)(d:Nat)(os:List Nat)(o:Nat):tgL K d (os++[o])=tgL K d os++[bm K d os.length o]:=by
 unfold tgL;rw[List.length_append,List.length_singleton,List.range_succ,List.map_append];congr 1
 ·refine List.map_congr_left (fun i hi=>?_);rw[qS (List.mem_range.1 hi)]
 ·simp only[List.map_cons,List.map_nil,nK]
theorem alJ(K:KS)(d:Nat)(os:List Nat){i:Nat}(hi:i<os.length):(tgL K d os).getD i Tg.zero=bm K d i (os.getD i 0):=by
 unfold tgL;simp[List.getD,hi]
structure Du(K:KS)(P:CS)(v d:Nat)(bad:Bool):Prop where
 hb:Hl.HB K.F
 uS:∀o,o<25->K.at_ o<=96
 anu:∀p,p<96->K.ow p<=25
 hv:v<12
 hd:d<12
 live:∀o,o∈bY K.ow v->o<=24/\K.at_ o≠0/\(0<=(K.en o).copy/\(K.en o).copy<=255)/\(K.at_ o-1)/8≠d/\∃t D,P.pg (K.at_ o-1)=.full t D/\t.of=o/\t.seq=(K.en o).seq
 blank:∀i,i<8->P.pg (d*8+i)=.blank
 ok:∀i,i<(ij bad (bY K.ow v)).length->(bm K d i ((ij bad (bY K.ow v)).getD i 0)).ok
def Part(K:KS)(P:CS)(d:Nat)(os:List Nat)(Q:CS):Prop:=∃j,j<os.length/\(∀q,q≠d*8+j->Q.pg q=gv K P d (os.take j) q)/\nf (Q.pg (d*8+j))
theorem aeE(bad:Bool)(L:List Nat)(i:Nat):ij bad (L.take i)=(ij bad L).take (ij bad (L.take i)).length:=by
 have e:ij bad L=ij bad (L.take i)++ij bad (L.drop i):=by
  unfold ij;rw[<-List.filter_append,List.take_append_drop]
 rw[e,List.take_left]
theorem alK(h:On w N K P b n X c){v d:Nat}{bad:Bool}(H:Du K P v d bad) :
  Spec Tryz.prog 148 #[.pointer (some ⟨N.k,0,none⟩),.int .i64 v,.int .i64 d,.bool bad] w fun u w' =>
   Fin N X c b w w' (fun K' P'=>uP K K'/\Hl.HB K'.F/\(∀B,P'.may B->P.may B)/\(BB (tgL K d (ij bad (bY K.ow v))) w u w'/\(∀q,P'.pg q=gv K P d (ij bad (bY K.ow v)) q)\/u=.tuple #[.slice none 0 0,al 8]/\P.may d/\Part K P d (ij bad (bY K.ow v)) P')) (fun Q=>u=.tuple #[.slice none 0 0,al 7]/\Part K P d (ij bad (bY K.ow v)) Q):=by
 obtain⟨i0,hi,lZ,lR,l4⟩:=info_parts uR;have hL8:=oU K.ow v;refine spec_of_wpE (T:=tt) ai func148 rfl (by decide +kernel) ntmps148 (by simp) ?_;conv=>whnf
 repeat ((refine Ld.of h.core.c2 ?_);conv=>whnf)
 refine Ca.of (ah5 h.core.map v H.hv H.anu) ?_;rintro _ w1 ⟨u,rfl,Y,e,rfl,ls,hY,k1⟩;have h1:=h.aj k1;have asb:=adw bad (bY K.ow v);generalize hL:bY K.ow v=L at *;conv=>whnf
 repeat ((first|refine Br.f ?_|refine Ru.ak ?_|refine CW.s ?_);conv=>whnf)
 refine CW.loop (ι:=Nat×Option Addr×Nat×Int×KS×CS×Option Nat) (fun i w'=>i.1<=L.length/\(b=none->i.2.2.2.2.2.2=none)/\uP K i.2.2.2.2.1/\Hl.HB i.2.2.2.2.1.F/\(∀B,i.2.2.2.2.2.1.may B->P.may B)/\(∀q,i.2.2.2.2.2.1.pg q=gv K P d (ij bad (L.take i.1)) q)/\On w' N i.2.2.2.2.1 i.2.2.2.2.2.1 i.2.2.2.2.2.2 i.2.2.2.1 X c /\
   Ls w' Y e L/\Ly w' 67 5 i.2.1 (ij bad (L.take i.1)).length i.2.2.1 (uQ (tgL K d (ij bad (L.take i.1))))/\(∀x,x∈aK i.2.1->w.heap.size<=x)/\Aa N.all w w')
  (fun i=>[(0,.pointer (some ⟨N.k,0,none⟩)),(2,.int .i64 d),(3,.bool bad),(12,.slice i.2.1 (ij bad (L.take i.1)).length i.2.2.1),(34,.slice Y L.length e),(35,.int .i64 L.length),(36,.int .i64 i.1)]) (fun i=>L.length-i.1) (0,none,0,n,K,P,b) ai
  ⟨by simp,fun x=>x,⟨K.F,rfl⟩,H.hb,fun _ x=>x,fun q=>by simp only[List.take_zero];exact(if_neg (by simp[ij])).symm,h1,ls,Ly.nil _ _ _ _,by simp[aK],Aa.eh k1⟩ ⟨rfl,rfl,rfl,rfl,rfl,rfl,rfl,trivial⟩ ?_;rintro⟨i,Z,cz,n',K2,P2,b2⟩ wr ⟨hil,eU,⟨F,fm⟩,hhb,sA,bA,hr,hls,hz,hZ,kk⟩;simp only at hil eU fm hhb sA bA hr hls hz hZ kk ⊢;have bW:∀x,w.heap.size<=x->x∉N.all:=fun x hx hm=>by
  have h3:x<w.heap.size:=by
   rcases List.mem_append.1 hm with hm|hm
   ·exact h.core.lt (List.mem_append_left _ hm)
   ·exact h.gn _ hm
  omega
 by_cases av:i<L.length
 ·have kM:L.take (i+1)=L.take i++[L[i]]:=by rw[List.take_add_one,List.getElem?_eq_getElem av];rfl
  have ng:=ajB bad (L.take i) L[i];rw[<-kM] at ng;have gZ:=aeE bad L (i+1);have ama:=aeE bad L i;have an4:=adw bad (L.take i);rw[List.length_take,Nat.min_eq_left hil] at an4;have qO:=H.hd;have sO:=H.live L[i] (by rw[hL];exact List.getElem_mem av);have mi:=H.ok;rw[hL] at mi;have na:=H.blank (ij bad (L.take i)).length (by omega);have da:=H.uS L[i] (by omega);have bM:=hls.th (by omega);obtain⟨gy,oy,rfl,bM⟩:=bM;have ci:=bM i av;have elf:lf L i=.int .i64 ((L[i]:Nat):Int):=by
   unfold lf;rw[lA L av]
  rw[elf] at ci;generalize jm:ij bad (L.take i)=os at *;generalize hos1:ij bad (L.take (i+1))=os1 at *;generalize L[i]=o at *;obtain⟨ho,h0,hcp,hpd,t,D,aiu,wF,hts⟩:=sO;have eat:K2.at_=K.at_:=by rw[fm]
  have een:K2.en=K.en:=by rw[fm]
  have sy:P2.pg (K.at_ o-1)=.full t D:=by rw[bA,fp hpd];exact aiu
  have afO:P2.pg (d*8+os.length)=.blank:=by
   rw[bA];unfold gv;rw[if_neg (by omega)];exact na
  clear na aiu bM elf;have etg:Tg.mk ((d:Int)*8+os.length) o (K.en o).seq (((K.en o).copy+1)%256) (K.en o).lost=bm K d os.length o:=by
   unfold bm;congr 1
  by_cases abO:bad=true/\o=24
  ·rw[if_pos abO] at ng;subst ng;obtain⟨rfl,rfl⟩:=abO;conv=>whnf
   repeat ((first|(refine Ld.at (by omega) ci ?_)|refine Br.t ?_|refine Pk.t ?_|refine Ix.n ?_|refine Ar.la ?_|refine Br.y ?_|refine CW.s ?_);conv=>whnf)
   exact⟨(i+1,Z,cz,n',K2,P2,b2),⟨av,eU,⟨F,fm⟩,hhb,sA,by simp only[hos1];exact bA,hr,hls,by simp only[hos1];exact hz,hZ,kk⟩,⟨rfl,rfl,rfl,by simp only[hos1];exact rfl,rfl,rfl,vi (by simp only;omega),trivial⟩,by simp only;omega⟩
  rw[if_neg abO] at ng;subst ng;have ang:os.length<(ij bad L).length:=by
   have:=congrArg List.length gZ;rw[List.length_take,List.length_append,List.length_singleton] at this;omega
  have hgd:(ij bad L).getD os.length 0=o:=by
   have h2:(os++[o]).getD os.length 0=o:=nK;rw[gZ] at h2;rw[<-h2];simp[List.getD,List.getElem?_take]
  have apH:=mi os.length ang;rw[hgd] at apH;clear mi;have apI:os=(ij bad L).take os.length:=ama;clear ama;have tC:bad=false\/bad=true/\¬((o:Nat):Int)=24:=by
   cases bad
   ·exact .inl rfl
   ·exact .inr ⟨rfl,fun x=>abO ⟨rfl,by omega⟩⟩
  clear abO;rcases tC with rfl|⟨rfl,jo⟩
  case' inl =>
   conv=>whnf
   repeat' ((first|(refine Ld.at (by omega) ci ?_)|refine Br.f ?_|refine Pk.f ?_|refine Pk.t ?_|refine Ix.n ?_|refine Br.y ?_|refine CW.s ?_|refine Br.d (fun _=>?_) (fun _=>?_))<;>conv=>whnf)
  case' inr =>
   conv=>whnf
   repeat ((first|(refine Ld.at (by omega) ci ?_)|(refine Br.jB (decide_eq_false jo) ?_)|refine Br.f ?_|refine Pk.f ?_|refine Ix.n ?_|refine Br.y ?_|refine CW.s ?_);conv=>whnf)
  all_goals
   conv=>whnf
   repeat ((refine Ld.of hr.core.c2 ?_);conv=>whnf)
   refine Ca.of (iW hr.core.map o ho (by rw[eat];exact da)) ?_;rintro _ _ ⟨rfl,rfl⟩;rw[if_neg (by rw[eat];exact h0),eat];conv=>whnf
   repeat ((first|refine Br.f ?_|refine Ru.ak ?_|refine CW.s ?_);conv=>whnf)
   refine Ca.of (kj hr hhb (p:=K.at_ o-1) (by omega)) ?_;rintro _ w2 ⟨R,dv,hR,jn,rfl,h2,k2⟩;unfold AA at hR;rw[sy] at hR;obtain⟨hR1,rfl,hR3,hR4,hR5⟩:=hR;rcases jn with⟨-,O,oc,rfl,hO,lyO⟩|⟨hs,-⟩
   case inr=>rw[hR3] at hs;cases hs
   rw[hR1,hR3];have c2:w2.cell? ⟨gy,oy+i,none⟩=some (.int .i64 (o:Nat)):=by
    rw[k2.cell (aZ ci) (bW gy (hY gy (List.mem_singleton.2 rfl)))];exact ci
   conv=>whnf
   refine Ru.aE (cr w2) ?_;intro x17 w3 hx17 gg r17a k3;conv=>whnf
   refine Ru.eW r17a (fun j hj=>gE rfl j hj) ?_;intro w4 r17 k4;have q4:Aa [] w2 w4:=k3.then k4 (fun x hx=>.inr (by rw[List.mem_singleton.1 hx,hx17];exact Nat.le_refl _));have h4:=h2.aj q4;have zk:=lyO.aj q4;have k2:=k2.trans (Aa.eh q4);clear k3 k4 q4 h2 lyO gg r17a hx17 c2 w3;conv=>whnf
   repeat ((first|(refine Ix.of o (by omega) (by omega) ?_)|refine Br.f ?_|refine Ru.ak ?_|refine CW.s ?_);conv=>whnf)
   rw[show 0+7+o*3=7+3*o by omega];refine Ru.cx (q:=(K.en o).cell) h4.core.row underlying140 rfl dK (by omega) (fun j hj=>by rw[iL ho hj, <-een];rfl) ?_;conv=>whnf
   refine Ru.aE (ks w4) ?_;intro x18 w5 hx18 hs5 r18a k5;conv=>whnf
   refine Ru.im r18a dK (by omega) (fun j hj=>En.bj _) ?_;intro w6 r18b k6;have r18:Row w6 x18 140 3 (K.en o).cell:=r18b.congr (fun j hj=>by unfold lay;rw[if_pos (by omega),Nat.sub_zero]);have q6:Aa [] w4 w6:=k5.then k6 (fun x hx=>.inr (by rw[List.mem_singleton.1 hx,hx18];exact Nat.le_refl _));have h6:=h4.aj q6;have ly6:=zk.aj q6;have aiv:=r17.ab q6 (by simp);have k2:=k2.trans (Aa.eh q6);clear k5 k6 q6 h4 zk hs5 r18a r18b hx18 r17 w5;have e0:(K.en o).cell 0=.int .i64 (K.en o).seq:=rfl;have e1:(K.en o).cell 1=.int .i64 (K.en o).copy:=rfl;have e2:(K.en o).cell 2=.bool (K.en o).lost:=rfl;have d0:w6.cell? ⟨x18,0,none⟩=some (.int .i64 (K.en o).seq):=r18.cell 0 (by omega);have d1:w6.cell? ⟨x18,1,none⟩=some (.int .i64 (K.en o).copy):=r18.cell 1 (by omega);have d2:w6.cell? ⟨x18,2,none⟩=some (.bool (K.en o).lost):=r18.cell 2 (by omega);conv=>whnf
   repeat ((first|(refine Ld.of d0 ?_)|(refine Ld.of d1 ?_)|(refine Ld.of d2 ?_)|refine Ar.la ?_);conv=>whnf)
   refine Ru.of (ub _ _ _ _ _ _) ?_;rw[ais hcp,etg];conv=>whnf
   refine Ru.ft ?_;intro x19 w7 hx19 hs7 r19a k7;conv=>whnf
   refine Ru.ln r19a ?_;intro w8 r19 k8;have q8:Aa [] w6 w8:=k7.then k8 (fun x hx=>.inr (by rw[List.mem_singleton.1 hx,hx19];exact Nat.le_refl _));have h8:=h6.aj q8;have ly8:=ly6.aj q8;have zE:=aiv.ab q8 (by simp);have anv:=r18.ab q8 (by simp);have aiw:w.heap.size<=x19:=by
    rw[hx19];have:=k2.size;have:=kk.size;omega
   have k2:=k2.trans (Aa.eh q8);clear k7 k8 q8 h6 ly6 hs7 r19a hx19 aiv r18 d0 d1 d2 w7;have p1:w8.cell? ⟨x17,2,none⟩=some (.int .i64 R.tag.of):=zE.cell 2 (by omega);have p2:w8.cell? ⟨x17,3,none⟩=some (.int .i64 R.tag.seq):=zE.cell 3 (by omega);have p3:w8.cell? ⟨x17,6,none⟩=some (.bool true):=zE.cell 6 (by omega);have p4:w8.cell? ⟨x17,7,none⟩=some (.slice O 174 oc):=zE.cell 7 (by omega);have d0:w8.cell? ⟨x18,0,none⟩=some (.int .i64 (K.en o).seq):=anv.cell 0 (by omega);rw[wF] at p1;rw[hts] at p2;conv=>whnf
   repeat ((first|(refine Ld.at (by omega) p4 ?_)|(refine Ld.at (by omega) p1 ?_)|(refine Ld.at (by omega) p2 ?_)|(refine Ld.at (by omega) p3 ?_)|(refine Ld.at (by omega) d0 ?_)|refine Br.t ?_|refine Pk.t ?_|refine Br.y ?_|refine CW.s ?_);conv=>whnf)
   refine Ru.fG r19 ?_;conv=>whnf
   obtain⟨-,-,hD,hDc⟩:=hr.full (p:=K.at_ o-1) (by omega) sy;have lyD:Ly w8 5 1 O 174 oc (fun j=>.int .u8 (D j:Nat)):=ly8.congr (fun j hj=>by
    rw[<-hR4];unfold cm;rw[if_pos (by omega)])
   refine Ca.of (zY h8 (hhb.rd (by omega)) (p:=d*8+os.length) (by omega) hD lyD apH rfl afO) ?_;rintro _ w9 ⟨k9,hr9⟩;have k29:=k2.trans k9;have z9:=hz.ab k29 (fun x hx=>bW x (hZ x hx));have ls9:=hls.ab k29 (fun x hx=>bW x (hY x hx));have anw:aS P2 (K.at_ o-1)=D:=bF sy;have apJ:aS P (K.at_ o-1)=D:=by
    rw[<-anw];exact dH (by rw[bA,fp hpd])
   have anx:=r19.ab k9 (bW x19 aiw);have abP:∀Q:CS,Lk (P2.bC (K.at_ o-1)) Q (d*8+os.length)->nf (Q.pg (d*8+os.length))->Part K P d (ij _ L) Q:=fun Q g1 g2=>⟨os.length,ang,fun q hq=>by rw[<-apI,g1.pg q hq];exact bA q,g2⟩
   rcases hr9 with⟨K9,P9,b9,n9,hb9,h9,g1,⟨rfl,rfl,g2⟩|⟨rfl,rfl,g2,g3,-⟩⟩|⟨hb9,Q,n9,h9,rfl,g1,g2⟩
   ·conv=>whnf
    repeat ((first|refine Br.f ?_|refine Ru.ak ?_);conv=>whnf)
    refine Ru.fG anx ?_;conv=>whnf
    refine Ru.of (uT _ _) ?_;have ka:Aa [] w9 (w9.alloc (.cells (bm K d os.length o).arr 67)):=(Aa.refl _ _).alloc _;have ha:Rd (w9.alloc (.cells (bm K d os.length o).arr 67)) (some ⟨w9.heap.size,0,none⟩) (1*5) (bm K d os.length o).cell:=fun _=>⟨w9.heap.size,0,rfl,fun j hj=>(Row.tg (heap_alloc_new _ _)).ait j hj⟩
    generalize w9.alloc _=tP at *;conv=>whnf
    refine Bu.append underlying239 hi lZ lR l4 rfl (by omega) (z9.aj ka) _ ha (by omega) (by simp) (fun j hj=>tY _ j hj) (by simp only[maxLen];omega) (by omega) ?_;intro Z2 cz2 zc hz11 jJ hat11 hpre11;have aix:=ls9.aj ka;have z10:=z9.aj ka;have sP:=h.dN (h9.aj ka) jJ hZ;have anz:=aix.ab jJ (fun x hx hm=>(aix.gD z10 (by decide) hx) hm);have qP:Aa N.all w tP:=(kk.trans k29).trans (Aa.eh ka);have aiy:Aa N.all w zc:=qP.then jJ (fun x hx=>.inr (hZ x hx));conv=>whnf
    repeat (refine Ar.la ?_;conv=>whnf)
    refine⟨(i+1,Z2,cz2,n9,pT (pT K2 (K.at_ o-1)) (d*8+os.length),P9,b9),⟨av,fun x=>hb9 (eU x),⟨Hl.qM (Hl.qM F ((K.at_ o-1)/8)) ((d*8+os.length)/8),by simp only[fm];rfl⟩,(hhb.rd (by omega)).rd (by omega),fun B hB=>sA B (g1.may B hB),fun q=>?_,sP,anz,?_,?_,aiy⟩,⟨rfl,rfl,rfl,?_,rfl,rfl,vi (by simp only;omega),trivial⟩,by simp only;omega⟩
    ·simp only[hos1];rw[xY (by omega)];by_cases hq:q=d*8+os.length
     ·rw[if_pos hq,hq,g2,apJ]
     ·rw[if_neg hq,g1.pg q hq];exact bA q
    ·simp only[hos1];rw[ajC,List.length_append,List.length_singleton];exact hz11.congr (fun j hj=>qN (s9 K d os) j hj)
    ·intro x hx;rcases hat11 with e'|e'
     ·rw[e'] at hx;exact hZ x hx
     ·rw[e'] at hx;rw[List.mem_singleton.1 hx];exact qP.size
    ·simp only[hos1,List.length_append,List.length_singleton];exact rfl
   ·conv=>whnf
    repeat ((first|refine Br.t ?_|refine Ru.n1 ?_);conv=>whnf)
    exact⟨rfl,kk.trans k29,.inl ⟨_,P9,b9,n9,fun x=>hb9 (eU x),h9,⟨Hl.qM F ((K.at_ o-1)/8),by rw[fm];rfl⟩,hhb.rd (by omega),fun B hB=>sA B (g1.may B hB),.inr ⟨rfl,by
     have:=sA _ g3;rw[show(d*8+os.length)/8=d by omega] at this;exact this,abP P9 g1 g2⟩⟩⟩
   ·conv=>whnf
    repeat ((first|refine Br.t ?_|refine Ru.n1 ?_);conv=>whnf)
    exact⟨rfl,kk.trans k29,.inr ⟨fun x=>hb9 (eU x),Q,n9,h9,rfl,abP Q g1 g2⟩⟩
 ·obtain rfl:i=L.length:=by omega
  rw[List.take_length] at *;conv=>whnf
  repeat ((first|refine Br.n ?_|refine CW.s ?_);conv=>whnf)
  exact⟨rfl,kk,.inl ⟨K2,P2,b2,n',eU,hr,⟨F,fm⟩,hhb,sA,.inl ⟨⟨Z,cz,by rw[s9];rfl,by rw[s9];exact hz,hZ⟩,bA⟩⟩⟩
end
end
end Go.Proofs.YtaeikigfgfcadaaGreat
