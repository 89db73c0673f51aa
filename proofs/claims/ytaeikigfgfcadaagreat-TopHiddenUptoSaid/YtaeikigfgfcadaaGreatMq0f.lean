/- Texts behind one another: Scan, NewestM, Clean, Mount, Dev, DevM, Call, W1, W2, W3, W4, W5, W6, W7, W8, W9. -/
import Derived.Test.YtaeikigfgfcadaaGreatMq0a
import Derived.Test.YtaeikigfgfcadaaGreatMq0b
import Derived.Test.YtaeikigfgfcadaaGreatMq0c
import Derived.Test.YtaeikigfgfcadaaGreatMq0d
import Derived.Test.YtaeikigfgfcadaaGreatMq0e
namespace Go.Proofs.YtaeikigfgfcadaaGreat
set_option maxHeartbeats 8000000
set_option maxRecDepth 20000
set_option linter.unusedVariables false
set_option linter.unusedSimpArgs false
set_option linter.unnecessarySimpa false
section
open Go.RowKit
theorem mpFind_snoc{q p:Nat}{v:Value}:∀ {ps:List (Nat×Value)},mpFind q (ps++[(p,v)])=match mpFind q ps with|some x=>some x|none=>if p=q then some v else none
 | []=>rfl
 | x::ps=>by
  have ih:=@mpFind_snoc q p v ps;rw[List.cons_append];unfold mpFind;by_cases h:x.1=q
  ·rw[if_pos h,if_pos h]
  ·rw[if_neg h,if_neg h];exact ih
def fdOf(p:Nat)(t:Tg):Fd:=⟨(p:Int),t.place,t.of,t.seq,t.copy,t.lost⟩
def fdsTo(P:CS):Nat->List Fd
 |0=>[]
 | p+1=>match P.pg p with
  |.full t D=>fdsTo P p++[fdOf p t]
  |_=>fdsTo P p
theorem fdsTo_zero(P:CS):fdsTo P 0=[]:=rfl
theorem fdsTo_full{P:CS}{p:Nat}{t:Tg}{D:Nat->Nat}(h:P.pg p=.full t D):fdsTo P (p+1)=fdsTo P p++[fdOf p t]:=by
 show(match P.pg p with | .full t D=>fdsTo P p++[fdOf p t] | _=>fdsTo P p)=_;rw[h]
theorem fdsTo_not{P:CS}{p:Nat}(h:∀t D,P.pg p≠.full t D):fdsTo P (p+1)=fdsTo P p:=by
 show(match P.pg p with | .full t D=>fdsTo P p++[fdOf p t] | _=>fdsTo P p)=_
 cases e:P.pg p with
 |full t D=>exact absurd e (h t D)
 |blank=>rfl
 |torn n=>rfl
theorem fdsTo_len(P:CS):∀n,(fdsTo P n).length<=n
 |0=>Nat.le_refl _
 | n+1=>by
  have:=fdsTo_len P n;by_cases h:∃t D,P.pg n=.full t D
  ·obtain⟨t,D,h⟩:=h;rw[fdsTo_full h];simp;omega
  ·rw[fdsTo_not (fun t D e=>h ⟨t,D,e⟩)];omega
def scP(P:CS):Nat->CS
 |0=>P
 |i+1=>(scP P i).readE i
theorem scP_zero(P:CS):scP P 0=P:=rfl
theorem scP_succ(P:CS)(i:Nat):scP P (i+1)=(scP P i).readE i:=rfl
theorem scP_pg(P:CS):∀i,(scP P i).pg=P.pg/\(scP P i).dm=P.dm
 |0=>⟨rfl,rfl⟩
 |i+1=>scP_pg P i
theorem scP_calm{P:CS}(h:P.calm):∀i,(scP P i).calm
 |0=>h
 |i+1=>CS.readE_calm (scP_calm h i) i
structure PsOk(P:CS)(w:World)(r:Nat)(ps:List (Nat×Value))(n:Nat):Prop where
 no:∀q,n<=q->mpFind q ps=none
 yes:∀q t D,q<n->P.pg q=.full t D->t.of=24->∃O oc D',mpFind q ps=some (.slice O 174 oc)/\(∀x,x∈blk O->r<x)/\cutD D'=D/\Ly w 5 1 O 174 oc (fun j=>.int .u8 (D' j:Nat))
theorem PsOk.keep{P:CS}{w w':World}{r:Nat}{ps:List (Nat×Value)}{n:Nat}{S:List Nat}(h:PsOk P w r ps n)(k:Keep S w w')(hS:∀x,x∈S->x<=r\/∀O oc f,Ly w 5 1 O 174 oc f->x∉blk O):PsOk P w' r ps n :=
 ⟨h.no,fun q t D hq e ht=>by
  obtain⟨O,oc,D',a1,a2,a3,a4⟩:=h.yes q t D hq e ht;refine⟨O,oc,D',a1,a2,a3,a4.keep k (fun x hx hm=>?_)⟩;rcases hS x hm with h|h
  ·have:=a2 x hx;omega
  ·exact h O oc _ a4 hx⟩
theorem build_found(p:Nat)(t:Tg)(w:World):(Instr.build 69 #[(0,.int .i64 (p:Nat)),(1,.agg t.arr)]).run Tryz.prog w=.ok (.agg (fdOf p t).arr) w:=by kernel_rfl
attribute [local irreducible] fdsTo scP
theorem scan_ok{w:World}{C:Chip}{ch:Nat}{P:CS}{b:Option Nat}(H:ChipAt w ch C)(hA:Abs C P)(hl:C.left b) :
  Spec Tryz.prog 74 #[.pointer (some ⟨ch,0,none⟩)] w fun v w'=>∃A cA r ps C',v=.tuple #[.slice A (fdsTo P 96).length cA,.map (some r),errOf 0]/\(fdsTo P 96=[]->A=none/\cA=0)/\Ly w' 69 6 A (fdsTo P 96).length cA (fdF (fdsTo P 96))/\MpAt w' r ps/\PsOk P w' r ps 96 /\
   ChipAt w' ch C'/\Abs C' (scP P 96)/\C'.left b/\Keep [ch] w w':=by
 obtain⟨i0,hi0,hz0,hz1,hz2⟩:=info_parts found_info;refine spec_of_wpE (T:=tt) tt_ok Tryz.func74 rfl (by decide +kernel) Tryz.ntmps74 (by simp) ?_;conv=>whnf
 refine Ca.of (mnew_ok w ch C H) ?_;rintro _ w1 ⟨m,f,cd,g,hh,hmw,hfw,hcw,hgw,hhw,rfl,M1,k1⟩;obtain⟨N,hN⟩:∃N:Pt,(⟨m,ch,f,cd,g,hh⟩:Pt)=N:=⟨_,rfl⟩;have M1n:MedAt w1 N C 0:=by rw[<-hN];exact M1
 have hMl:=M1n.lt;have em:m=N.m:=by rw[<-hN]
 have ec:N.c=ch:=by rw[<-hN]
 have eg:w.heap.size<=N.g:=by rw[<-hN];exact hgw
 subst em;have MA:MedA w1 N P b 0:=⟨C,M1n,hA,hl⟩;conv=>whnf
 refine Ru.of (mp_make w1) ?_;have rm:MpAt (w1.alloc (.map #[] 0)) w1.heap.size []:=⟨#[],0,heap_alloc_new w1 _,rfl⟩;have k2:Keep [] w1 (w1.alloc (.map #[] 0)):=(Keep.refl _ _).alloc _;have MA2:=MA.keep0 k2;have hrw:w.heap.size<=w1.heap.size:=k1.size;have kk2:=(k1.trans k2).mono (T:=[ch]) (by simp);clear M1 M1n MA k1 k2 hfw hcw hhw hgw hN;generalize w1.alloc (.map #[] 0)=w2 at *;generalize w1.heap.size=r at *;conv=>whnf
 repeat ((first|refine CW.s ?_);conv=>whnf)
 refine CW.loop (ι:=Nat×Option Addr×Nat×List (Nat×Value)×Int) (fun i w'=>i.1<=96/\MedA w' N (scP P i.1) b i.2.2.2.2/\Ly w' 69 6 i.2.1 (fdsTo P i.1).length i.2.2.1 (fdF (fdsTo P i.1))/\(∀x,x∈blk i.2.1->r<x)/\(fdsTo P i.1=[]->i.2.1=none/\i.2.2.1=0)/\MpAt w' r i.2.2.2.1/\PsOk P w' r i.2.2.2.1 i.1/\Keep [ch] w w')
  (fun i=>[(5,.pointer (some ⟨N.m,0,none⟩)),(6,.slice i.2.1 (fdsTo P i.1).length i.2.2.1),(7,.map (some r)),(14,.int .i64 i.1)]) (fun i=>96-i.1) (0,none,0,[],0) tt_ok
  ⟨by omega,by rw[scP_zero];exact MA2,by rw[fdsTo_zero];exact Ly.nil _ _ _ _,(fun _ h=>nomatch h),fun _=>⟨rfl,rfl⟩,rm,⟨fun _ _=>rfl,fun q t D hq=>by omega⟩,kk2⟩ ⟨rfl,by rw[fdsTo_zero];rfl,rfl,rfl,trivial⟩ ?_;clear MA2 rm kk2;rintro⟨i,Z,cz,ps,n⟩ wr ⟨hi,MA,ly,hZ,hnil,rm,hps,kk⟩;simp only at hi MA ly hZ hnil rm hps kk ⊢;rcases Nat.lt_or_ge i 96 with hlt|hge
 ·have hpg:=(scP_pg P i).1;have kl:∀ {wa wb:World},Keep N.l wa wb->Keep [ch] w wa->Keep [ch] w wb:=fun k' kw=>kw.then k' (fun x hx=>by
   simp only[Pt.l,List.mem_cons,List.not_mem_nil,or_false] at hx;rcases hx with rfl|rfl|rfl
   ·exact .inr hmw
   ·exact .inl (List.mem_singleton.2 ec)
   ·exact .inr eg)
  have hps0:∀ {wa wb:World},Keep N.l wa wb->PsOk P wa r ps i->PsOk P wb r ps i:=fun k' hp=>hp.keep k' (fun x hx=>by
   simp only[Pt.l,List.mem_cons,List.not_mem_nil,or_false] at hx;left;rcases hx with rfl|rfl|rfl<;>omega)
  have hrl:r∉N.l:=fun hm=>by
   simp only[Pt.l,List.mem_cons,List.not_mem_nil,or_false] at hm;rcases hm with h|h|h<;>omega
  conv=>whnf
  repeat ((first|refine Br.y ?_|refine CW.s ?_);conv=>whnf)
  refine Ca.of (aread_ok MA hlt) ?_;rintro _ w3 ⟨k3,R,dv,hR,hdv,rfl,MA3⟩;have kk3:=kl k3 kk;have rm3:=rm.keep k3 hrl;have hps3:=hps0 k3 hps;have ly3:=ly.keep k3 (fun x hx hm=>by
   have:=hZ x hx;simp only[Pt.l,List.mem_cons,List.not_mem_nil,or_false] at hm;rcases hm with h|h|h<;>omega)
  have hrwr:=rm.lt;clear MA ly rm hps kk;conv=>whnf
  refine Ru.alloca (alloc_page w3) ?_;intro x9 w4 hx9 hs4 r9 k4;conv=>whnf
  refine Ru.stpage r9 (pgc_one' R hdv _) ?_;intro w5 r95 k5;have q5:Keep [] w3 w5:=k4.then k5 (fun x hx=>.inr (by rw[List.mem_singleton.1 hx,hx9];exact Nat.le_refl _));have MA5:=MA3.keep0 q5;have rm5:=rm3.keep q5 (by simp);have hps5:=hps3.keep q5 (by simp);have ly5:=ly3.keep0 q5;have kk5:=kk3.trans (q5.mono (by simp));have hdv5:=hdv.keep q5 (by simp);have hs3:=k3.size;clear MA3 rm3 hps3 ly3 kk3 k4 k5 r9 hs4 k3;have c0:w5.cell? ⟨x9,0,none⟩=some (.bool R.tagged):=r95.cell 0 (by omega);unfold PgRead at hR;rw[hpg] at hR;rw[<-scP_succ] at MA5;by_cases hfull:∃t D,P.pg i=.full t D
  ·obtain⟨t,D,hp⟩:=hfull;rw[hp] at hR;obtain⟨hR1,rfl,hR3,hR4,hR5⟩:=hR;rw[hR1] at c0;have efd:=fdsTo_full hp;have hlen:=fdsTo_len P i;conv=>whnf
   repeat ((first|(refine Ld.at (by omega) c0 ?_)|refine Br.f ?_|refine Ru.neq_nil0 ?_|refine CW.s ?_);conv=>whnf)
   refine Ru.ldaC (q:=R.tag.cell) r95 Tryz.underlying67 rfl (by kernel_rfl:(Tryz.prog.info? 67).map (·.size)=some 5) (by omega) (fun j hj=>by
    unfold pgc;rw[if_neg (by omega),if_pos (by omega),show 0+1+j-1=j by omega]) ?_
   rw[show agg 5 R.tag.cell=.agg R.tag.arr by unfold agg;rw[tg_range]];conv=>whnf
   refine Ru.of (build_found i R.tag w5) ?_;conv=>whnf
   refine Ru.buildfd (fdOf i R.tag) ?_;intro x34 w6 hx34 hs6 r34 k6;conv=>whnf
   refine Bu.append Tryz.underlying64 hi0 hz0 hz1 hz2 rfl (by omega) (ly5.keep0 k6) _ (Rd.of_row r34 (n:=1*6) (by omega)) (by omega) (by simp) (fun j hj=>fd_one_cell _ j hj) (by simp only[maxLen];omega) (by omega) ?_;intro Y cY w7 hy k7 hat hpre;have ly6:=ly5.keep0 k6;have MA7:MedA w7 N (scP P (i+1)) b _:=(MA5.keep0 k6).keep k7 ⟨fun h=>by have:=hZ _ h;omega,fun h=>by have:=hZ _ h;omega,fun h=>by have:=hZ _ h;omega,fun h=>by have:=hZ _ h;omega,fun h=>by have:=hZ _ h;omega,fun h=>by have:=hZ _ h;omega⟩;have rm7:=(rm5.keep k6 (by simp)).keep k7 (fun h=>by have:=hZ _ h;omega);have hps7:=(hps5.keep k6 (by simp)).keep k7 (fun x hx=>.inr (fun O oc f lO=>ly6.type_ne lO (by decide) hx));have r97:=(r95.keep k6 (by simp)).keep k7 (ly6.row_ne (r95.keep k6 (by simp)) (by decide));have kk7:=(kk5.trans (k6.mono (by simp))).then k7 (fun x hx=>.inr (by have:=hZ x hx;omega));have hY:∀x,x∈blk Y->r<x:=fun x hx=>by
    rcases hat with e|e
    ·rw[e] at hx;exact hZ x hx
    ·rw[e] at hx;have hxx:x=w6.heap.size:=List.mem_singleton.1 hx;have:=k6.size;have:=q5.size;omega
   have lyY:Ly w7 69 6 Y (fdsTo P (i+1)).length cY (fdF (fdsTo P (i+1))):=by
    rw[efd,List.length_append,List.length_singleton];exact hy.congr (fun j hj=>by rw[fdF_snoc _ _ j hj])
   have hne:fdsTo P (i+1)≠[]:=by rw[efd];simp
   have hlY:(Value.slice Y ((fdsTo P i).length+1) cY)=.slice Y (fdsTo P (i+1)).length cY:=by rw[efd];simp
   have hdv7:∀O oc,dv=.slice O 174 oc->Ly w5 5 1 O 174 oc (fun j=>.int .u8 (R.data j:Nat))->Ly w7 5 1 O 174 oc (fun j=>.int .u8 (R.data j:Nat)):=fun O oc e l=>(l.keep0 k6).keep k7 (fun x hx hm=>ly6.type_ne (l.keep0 k6) (by decide) hm hx);clear MA5 rm5 r95 kk5 ly5 hat hpre r34;have c2:w7.cell? ⟨x9,2,none⟩=some (.int .i64 R.tag.of):=r97.cell 2 (by omega);have c6:w7.cell? ⟨x9,6,none⟩=some (.bool R.sound):=r97.cell 6 (by omega);have c7:w7.cell? ⟨x9,7,none⟩=some dv:=r97.cell 7 (by omega);rw[hR3] at c6;rcases hdv5 with⟨-,O,oc,rfl,hO,lyO⟩|⟨hs,-⟩
   case inr=>rw[hR3] at hs;cases hs
   by_cases ht:R.tag.of=24
   ·conv=>whnf
    repeat ((first|(refine Ld.at (by omega) c2 ?_)|(refine Ld.at (by omega) c6 ?_)|(refine Ld.at (by omega) c7 ?_)|refine Br.t ?_|refine Pk.t ?_|refine Br.y ?_);conv=>whnf)
    have hno:=hps7.no i (Nat.le_refl _);have hOr:∀x,x∈blk O->r<x:=fun x hx=>by
     have:=hO x hx;omega
    have lyO7:Ly w7 5 1 O 174 oc (fun j=>.int .u8 (R.data j:Nat)):=hdv7 O oc rfl lyO;refine mp_put rm7 hno ?_;intro w8 rm8 k8;conv=>whnf
    repeat ((first|refine Ar.la ?_);conv=>whnf)
    refine⟨(i+1,Y,cY,ps++[(i,.slice O 174 oc)],_),⟨hlt,MA7.keep k8 (by simp;omega),lyY.keep k8 (fun x hx hm=>by have:=hY x hx;rw[List.mem_singleton.1 hm] at this;omega),hY,fun h=>absurd h hne,rm8,⟨fun q hq=>?_,fun q t D hq e ht'=>?_⟩,kk7.then k8 (fun x hx=>.inr (by rw[List.mem_singleton.1 hx];exact hrw))⟩,⟨rfl,hlY,rfl,vi (by simp only;omega),trivial⟩,by simp only;omega⟩
    ·rw[mpFind_snoc,hps7.no q (by omega)];simp only;rw[if_neg (by omega)]
    ·by_cases hqi:q=i
     ·subst hqi;rw[hp] at e
      cases e
      refine⟨O,oc,R.data,?_,hOr,hR4,lyO7.keep k8 (fun x hx hm=>by have:=hOr x hx;rw[List.mem_singleton.1 hm] at this;omega)⟩;rw[mpFind_snoc,hno];simp
     ·obtain⟨O',oc',D',a1,a2,a3,a4⟩:=hps7.yes q t D (by omega) e ht';refine⟨O',oc',D',?_,a2,a3,a4.keep k8 (fun x hx hm=>by have:=a2 x hx;rw[List.mem_singleton.1 hm] at this;omega)⟩;rw[mpFind_snoc,a1]
   ·conv=>whnf
    repeat ((first|(refine Ld.at (by omega) c2 ?_)|refine Br.f ?_|refine Pk.f ?_|refine Ar.la ?_|refine Br.n ?_);conv=>whnf)
    refine⟨(i+1,Y,cY,ps,_),⟨hlt,MA7,lyY,hY,fun h=>absurd h hne,rm7,⟨fun q hq=>hps7.no q (by omega),fun q t D hq e ht'=>?_⟩,kk7⟩,⟨rfl,hlY,rfl,vi (by simp only;omega),trivial⟩,by simp only;omega⟩;by_cases hqi:q=i
    ·subst hqi;rw[hp] at e
     cases e
     exact absurd ht' ht
    ·exact hps7.yes q t D (by omega) e ht'
  ·have hnt:R.tagged=false:=by
    cases e:P.pg i with
    |full t D=>exact absurd ⟨t,D,e⟩ hfull
    |blank=>rw[e] at hR;exact hR.1
    |torn n=>rw[e] at hR;exact hR.1
   rw[hnt] at c0;have efd:=fdsTo_not (P:=P) (p:=i) (fun t D e=>hfull ⟨t,D,e⟩);conv=>whnf
   repeat ((first|(refine Ld.at (by omega) c0 ?_)|refine Br.t ?_|refine Br.f ?_|refine Ar.la ?_|refine Ru.neq_nil0 ?_|refine CW.s ?_);conv=>whnf)
   refine⟨(i+1,Z,cz,ps,_),⟨hlt,MA5,by simp only[efd];exact ly5,hZ,by simp only[efd];exact hnil,rm5,⟨fun q hq=>hps5.no q (by omega),fun q t D hq e ht=>?_⟩,kk5⟩,⟨rfl,by simp only[efd];rfl,rfl,vi (by simp only;omega),trivial⟩,by simp only;omega⟩;by_cases hqi:q=i
   ·subst hqi;exact absurd ⟨t,D,e⟩ hfull
   ·exact hps5.yes q t D (by omega) e ht
 ·obtain rfl:i=96:=by omega
  conv=>whnf
  repeat ((first|refine Br.f ?_|refine CW.s ?_);conv=>whnf)
  obtain⟨C',M,hA',hl'⟩:=MA;exact⟨rfl,Z,cz,r,ps,C',rfl,hnil,ly,rm,hps,by rw[<-ec];exact M.chip,hA',hl',kk⟩
end
section
open Go.RowKit
theorem clone_nilF(w:World)(x:Operand)(a:Addr)(n c:Nat):(do eqGuard .eql 64 x (.const (.slice none 0 0)) (.slice (some a) n c) (.slice none 0 0);binOp .eql 64 (.slice (some a) n c) (.slice none 0 0):Sem Value).run Tryz.prog w=.ok (.bool false) w:=by kernel_rfl
theorem clone_nilF0(w:World)(x:Operand):(do eqGuard .eql 64 x (.const (.slice none 0 0)) (.slice none 0 0) (.slice none 0 0);binOp .eql 64 (.slice none 0 0) (.slice none 0 0):Sem Value).run Tryz.prog w=.ok (.bool true) w:=by kernel_rfl
theorem build_f0(w:World):(Instr.buildSlice 64 0 #[]).run Tryz.prog w=.ok (.slice (some ⟨w.heap.size,0,none⟩) 0 0) (w.alloc (.cells #[] 69)):=by kernel_rfl
theorem fclone_ok{A:Option Addr}{c:Nat}{L:List Fd}{w:World}(r:Rd w A (L.length*6) (fdF L))(hnil:L=[]->A=none/\c=0)(hc:L.length<=c)(hn:L.length<=96) :
  Spec Tryz.prog 120 #[.slice A L.length c] w fun v w'=>∃Y e,v=.slice Y L.length e/\Rd w' Y (L.length*6) (fdF L)/\Keep [] w w':=by
 obtain⟨i0,hi,hz0,hz1,hz2⟩:=info_parts found_info;by_cases h0:L=[]
 ·obtain⟨rfl,rfl⟩:=hnil h0;subst h0;refine spec_of_wpE (T:=tt) tt_ok Tryz.func120 rfl (by decide +kernel) Tryz.ntmps120 (by simp) ?_;conv=>whnf
  repeat ((first|refine CW.s ?_);conv=>whnf)
  refine Ru.of (clone_nilF0 w _) ?_;conv=>whnf
  repeat ((first|refine Br.t ?_);conv=>whnf)
  exact⟨rfl,none,0,rfl,fun h=>by simp at h,Keep.refl _ _⟩
 have hpos:0<L.length:=List.length_pos_iff.2 h0;obtain⟨g,o,rfl,hcell⟩:=r (by omega);refine spec_of_wpE (T:=tt) tt_ok Tryz.func120 rfl (by decide +kernel) Tryz.ntmps120 (by simp) ?_;conv=>whnf
 repeat ((first|refine CW.s ?_);conv=>whnf)
 refine Ru.of (clone_nilF w _ _ _ _) ?_;conv=>whnf
 repeat ((first|refine Br.f ?_);conv=>whnf)
 refine Ru.of (build_f0 w) ?_;have l0:Ly (w.alloc (.cells #[] 69)) 69 6 (some ⟨w.heap.size,0,none⟩) 0 0 (fdF L):=Ly.of_arr (heap_alloc_new w _) (Nat.le_refl _) (by simp) (by simp[maxLen]) (fun j hj=>by omega);have k0:Keep [] w (w.alloc (.cells #[] 69)):=(Keep.refl _ _).alloc _;conv=>whnf
 refine Bu.append Tryz.underlying64 hi hz0 hz1 hz2 rfl (by omega) l0 _ (r.keep0 k0) hc (fun e=>by cases e) (fun j hj=>fdF_one _ j) (by simp only[maxLen];omega) (by omega) ?_;intro Y e w' hy hk hat hpre;have hkw:Keep [] w w':=k0.then hk (fun x hx=>.inr (by rw[List.mem_singleton.1 hx];exact Nat.le_refl _));rw[Nat.zero_add] at *;conv=>whnf
 have:=hy.rd;exact⟨rfl,Y,e,rfl,fun h=>by
  obtain⟨b1,o1,e1,h1⟩:=this h;exact⟨b1,o1,e1,fun j hj=>(h1 j hj).trans (by simp)⟩,hkw⟩
theorem layA62'(f g:Nat->Value)(j:Nat)(hj:j<62):lay f 0 62 g j=g j:=by
 unfold lay;rw[if_pos (by omega),Nat.sub_zero]
theorem layA62(f g:Nat->Value)(j:Nat)(hj:j<62):lay f 0 62 g (0+j)=g j:=by
 rw[Nat.zero_add];exact layA62' f g j hj
theorem build_cp00(w:World):(Instr.build 116 #[]).run Tryz.prog w=.ok (agg 62 Cp.zero.cell) w:=by kernel_rfl
theorem newm_none{A:Option Addr}{c r:Nat}{L:List Fd}{w:World}(hr:Rd w A (L.length*6) (fdF L))(hnil:L=[]->A=none/\c=0)(hc:L.length<=c)(hn:L.length<=96)(hw:newestF (byP L 96) 24 (-1)=(Fd.zero,false)) :
  Spec Tryz.prog 75 #[.slice A L.length c,.map (some r)] w fun v w'=>v=.tuple #[agg 62 Cp.zero.cell,.bool false]/\Keep [] w w':=by
 refine spec_of_wpE (T:=tt) tt_ok Tryz.func75 rfl (by decide +kernel) Tryz.ntmps75 (by simp) ?_;conv=>whnf
 refine Ru.alloca (alloc_cp w) ?_;intro x4 w1 hx4 hs1 r4 k1;conv=>whnf
 refine Ca.of (fclone_ok (hr.keep0 k1) hnil hc hn) ?_;rintro _ w2 ⟨Y,e,rfl,hY,k2⟩;have r42:=r4.keep k2 (by simp);have kk2:=k1.trans k2;have hlt:=r4.lt;have hxw:w.heap.size<=x4:=by omega
 clear r4 k1 k2 hr;conv=>whnf
 refine CW.loop (ι:=Unit) (fun _ w'=>w'=w2) (fun _=>[(0,.slice Y L.length e),(1,.map (some r)),(4,.pointer (some ⟨x4,0,none⟩))]) (fun _=>0) () tt_ok rfl ⟨rfl,rfl,rfl,trivial⟩ ?_;rintro _ wr rfl;conv=>whnf
 refine Ca.of (Newest_ok Y e L 24 (-1) wr hY (by omega)) ?_;rintro _ w3 ⟨rfl,k3⟩;rw[hw];have r43:=r42.keep k3 (by simp);have kk3:=kk2.trans k3;conv=>whnf
 refine Ru.allocfd ?_;intro x6 w4 hx6 hs4 r6 k4;conv=>whnf
 refine Ru.stfd r6 ?_;intro w5 r6 k5;have q5:Keep [] w3 w5:=k4.then k5 (fun x hx=>.inr (by rw[List.mem_singleton.1 hx,hx6];exact Nat.le_refl _));have r45:=r43.keep q5 (by simp);have kk5:=kk3.trans q5;conv=>whnf
 repeat ((first|refine Br.t ?_|refine CW.s ?_);conv=>whnf)
 refine Ru.of (build_cp00 _) ?_;conv=>whnf
 refine Ru.sta r45 size_cp (by omega) (fun j hj=>Cp.cell_one _ j) ?_;intro w6 r46 k6;conv=>whnf
 refine Ru.lda r46 Tryz.underlying116 rfl size_cp (by omega) ?_;conv=>whnf
 refine⟨rfl,?_,kk5.fresh hxw k6⟩;show Value.tuple #[agg 62 _,.bool false]=_;rw[agg_congr (fun j hj=>layA62 _ _ j hj)]
structure NwAt(w:World)(r:Nat)(L:List Fd)(ps:List (Nat×Value))(k:Cp):Prop where
 told:k.told
 mp:MpAt w r ps
 new:∃f:Fd,∃p:Nat,newestF (byP L 96) 24 (-1)=(f,true)/\f.place=p/\∃O oc,mpFind p ps=some (.slice O 174 oc)/\Ly w 5 1 O 174 oc (fun j=>.int .u8 (ptF k j))
theorem newm_some{A:Option Addr}{c r:Nat}{L:List Fd}{ps:List (Nat×Value)}{k:Cp}{w:World}(hr:Rd w A (L.length*6) (fdF L))(hnil:L=[]->A=none/\c=0)(hc:L.length<=c)(hn:L.length<=96)(hN:NwAt w r L ps k) :
  Spec Tryz.prog 75 #[.slice A L.length c,.map (some r)] w fun v w'=>v=.tuple #[agg 62 k.cell,.bool true]/\Keep [] w w':=by
 obtain⟨hk,hmp,f,p,hw,hfp,O,oc,hfind,hO⟩:=hN;refine spec_of_wpE (T:=tt) tt_ok Tryz.func75 rfl (by decide +kernel) Tryz.ntmps75 (by simp) ?_;conv=>whnf
 refine Ru.alloca (alloc_cp w) ?_;intro x4 w1 hx4 hs1 r4 k1;conv=>whnf
 refine Ca.of (fclone_ok (hr.keep0 k1) hnil hc hn) ?_;rintro _ w2 ⟨Y,e,rfl,hY,k2⟩;have r42:=r4.keep k2 (by simp);have kk2:=k1.trans k2;have hlt:=r4.lt;have hxw:w.heap.size<=x4:=by omega
 clear r4 k1 k2 hr;conv=>whnf
 refine CW.loop (ι:=Unit) (fun _ w'=>w'=w2) (fun _=>[(0,.slice Y L.length e),(1,.map (some r)),(4,.pointer (some ⟨x4,0,none⟩))]) (fun _=>0) () tt_ok rfl ⟨rfl,rfl,rfl,trivial⟩ ?_;rintro _ wr rfl;conv=>whnf
 refine Ca.of (Newest_ok Y e L 24 (-1) wr hY (by omega)) ?_;rintro _ w3 ⟨rfl,k3⟩;rw[hw];have r43:=r42.keep k3 (by simp);have kk3:=kk2.trans k3;conv=>whnf
 refine Ru.allocfd ?_;intro x6 w4 hx6 hs4 r6 k4;conv=>whnf
 refine Ru.stfd r6 ?_;intro w5 r6 k5;have q5:Keep [] w3 w5:=k4.then k5 (fun x hx=>.inr (by rw[List.mem_singleton.1 hx,hx6];exact Nat.le_refl _));have r45:=r43.keep q5 (by simp);have kk5:=kk3.trans q5;have c0:w5.cell? ⟨x6,0,none⟩=some (.int .i64 (p:Nat)):=(r6.cell 0 (by omega)).trans (by show some (Value.int .i64 f.place)=_;rw[hfp]);have hmp5:=hmp.keep kk5 (by simp);conv=>whnf
 repeat ((first|(refine Ld.at (by omega) c0 ?_)|refine Br.f ?_|refine CW.s ?_);conv=>whnf)
 refine Ru.of (mp_look hmp5 hfind) ?_;conv=>whnf
 repeat ((first|refine Br.t ?_);conv=>whnf)
 have hO5:=(hO.keep0 kk5).rd;rw[Nat.mul_one] at hO5;have hcap:174<=oc:=hO.1;obtain⟨g,oo,rfl,hcell⟩:=hO5 (by omega);refine Ca.of (pread_ok w5 g oo oc k hk hcap hcell) ?_;rintro _ w6 ⟨rfl,k6⟩;have r46:=r45.keep k6 (by simp);have kk6:=kk5.trans k6;conv=>whnf
 refine Ru.alloca (alloc_cp w6) ?_;intro x10 w7 hx10 hs7 r10 k7;conv=>whnf
 refine Ru.sta r10 size_cp (by omega) (fun j hj=>Cp.cell_one _ j) ?_;intro w8 r108 k8;have q8:Keep [] w6 w8:=k7.then k8 (fun x hx=>.inr (by rw[List.mem_singleton.1 hx,hx10];exact Nat.le_refl _));have r48:=r46.keep q8 (by simp);have kk8:=kk6.trans q8;have r108:Row w8 x10 116 62 k.cell:=r108.congr (fun j hj=>layA62' _ _ j hj);conv=>whnf
 repeat ((first|refine Br.t ?_|refine Ru.eql_nil0 ?_);conv=>whnf)
 refine Ru.ldaC (q:=k.cell) r108 Tryz.underlying116 rfl size_cp (by omega) (fun j hj=>by rw[Nat.zero_add]) ?_;conv=>whnf
 refine Ru.sta r48 size_cp (by omega) (fun j hj=>Cp.cell_one _ j) ?_;intro w9 r49 k9;conv=>whnf
 refine Ru.lda r49 Tryz.underlying116 rfl size_cp (by omega) ?_;conv=>whnf
 refine⟨rfl,?_,kk8.fresh hxw k9⟩;show Value.tuple #[agg 62 _,.bool true]=_;rw[agg_congr (fun j hj=>layA62 _ _ j hj)]
end
section
open Go.RowKit
def clK(K:KS):Nat->KS
 |0=>K
 |b+1=>if K.st b=0 then { clK K b with F:=Hl.erF (clK K b).F b } else clK K b
def clP(K:KS)(P:CS):Nat->CS
 |0=>P
 |b+1=>if K.st b=0 then (clP K P b).wipe b else clP K P b
def clT(K:KS)(P:CS):Nat->List CS
 |0=>[]
 |b+1=>if K.st b=0 then clT K P b++[clP K P b] else clT K P b
theorem clK_succ(K:KS)(b:Nat):clK K (b+1)=if K.st b=0 then { clK K b with F:=Hl.erF (clK K b).F b } else clK K b:=rfl
theorem clP_succ(K:KS)(P:CS)(b:Nat):clP K P (b+1)=if K.st b=0 then (clP K P b).wipe b else clP K P b:=rfl
theorem clT_succ(K:KS)(P:CS)(b:Nat):clT K P (b+1)=if K.st b=0 then clT K P b++[clP K P b] else clT K P b:=rfl
theorem clK_zero(K:KS):clK K 0=K:=rfl
theorem clP_zero(K:KS)(P:CS):clP K P 0=P:=rfl
theorem clT_zero(K:KS)(P:CS):clT K P 0=[]:=rfl
theorem clK_same(K:KS):∀b,sameK K (clK K b)
 |0=>⟨K.F,rfl⟩
 | b+1=>by
  obtain⟨F,h⟩:=clK_same K b;unfold clK;split
  ·rw[h];exact⟨_,rfl⟩
  ·exact⟨F,h⟩
theorem clP_calm(K:KS){P:CS}(h:P.calm):∀b,(clP K P b).calm
 |0=>h
 | b+1=>by
  unfold clP;split
  ·exact CS.wipe_calm (clP_calm K h b) b
  ·exact clP_calm K h b
theorem clT_len(K:KS)(P:CS):∀n m,n<=m->∃T,clT K P m=clT K P n++T
 | n,0,h=>by
  obtain rfl:n=0:=by omega
  exact⟨[],by simp⟩
 | n,m+1,h=>by
  by_cases e:n=m+1
  ·subst e;exact⟨[],by simp⟩
  ·obtain⟨T,hT⟩:=clT_len K P n m (by omega);rw[clT_succ];split
   ·exact⟨T++[clP K P m],by rw[hT,List.append_assoc]⟩
   ·exact⟨T,hT⟩
inductive Cleaned (K:KS) (P:CS):KS->CS->List CS->Prop
 |done:K.at_ 24≠0->Cleaned K P (clK K 12) (clP K P 12) (clT K P 12)
 |note {K1:KS} {P1:CS} {t1:List CS}:K.at_ 24=0->Lays 24 noteD (clK K 12) (clP K P 12) K1 P1 t1->(stC (sqK K1) K1.next (-1)).told->Cleaned K P (lyK K1 24) (lyP K1 P1 24 noteD) (clT K P 12++lyT K1 P1 t1)
theorem Cleaned.len{K:KS}{P:CS}{K':KS}{P':CS}{tr:List CS}(h:Cleaned K P K' P' tr):∃T,tr=clT K P 12++T:=by
 cases h
 ·exact⟨[],by simp⟩
 ·exact⟨_,rfl⟩
attribute [local irreducible] clK clP clT
section
variable{w w':World}{N:Cr}{K:KS}{X:Option Addr}{c:Nat}{P:CS}{b:Option Nat}{n:Int}
theorem clean_ok(h:On w N K P b n X c)(hc:P.calm)(ha:K.at_ 24<=96)(hwo:wornB K.st=false){K':KS}{P':CS}{tr:List CS}(H:Cleaned K P K' P' tr) :
  Spec Tryz.prog 78 #[.pointer (some ⟨N.k,0,none⟩)] w fun u w'=>EndsX N X c K' P' b tr w w' (u=errOf 0) (u=errOf 7):=by
 have far:∀x,w.heap.size<=x->x∉N.all:=fun x hx hm=>by
  have h3:x<w.heap.size:=by
   rcases List.mem_append.1 hm with hm|hm
   ·exact h.core.lt (List.mem_append_left _ hm)
   ·exact h.l_lt _ hm
  omega
 have hpre:=H.len;refine spec_of_wpE (T:=tt) tt_ok Tryz.func78 rfl (by decide +kernel) Tryz.ntmps78 (by simp) ?_;conv=>whnf
 repeat ((first|(refine Ld.of h.core.c2 ?_));conv=>whnf)
 refine Ca.of (mat_ok h.core.map 24 (by omega) ha) ?_;rintro _ _ ⟨rfl,rfl⟩;obtain⟨m,a,e,hv,he⟩:∃(m:Bool) (a e:Int),(if K.at_ 24=0 then Value.tuple #[.int .i64 0,errOf 11] else .tuple #[.int .i64 ((K.at_ 24-1:Nat):Int),errOf 0])=.tuple #[.int .i64 a,errOf e] /\
   ((m=true/\e=11/\∃K1 P1 t1,Lays 24 noteD (clK K 12) (clP K P 12) K1 P1 t1/\(stC (sqK K1) K1.next (-1)).told/\K'=lyK K1 24/\P'=lyP K1 P1 24 noteD/\tr=clT K P 12++lyT K1 P1 t1)\/(m=false/\e=0/\K'=clK K 12/\P'=clP K P 12/\tr=clT K P 12)):=by
  cases H with
  |done h0=>exact⟨false,_,0,if_neg h0,.inr ⟨rfl,rfl,rfl,rfl,rfl⟩⟩
  |note h0 h1 h2=>exact⟨true,0,11,if_pos h0,.inl ⟨rfl,rfl,_,_,_,h1,h2,rfl,rfl,rfl⟩⟩
 rw[hv];rcases he with⟨hm,rfl,hend⟩|⟨hm,rfl,hend⟩
 all_goals
  conv=>whnf
  repeat ((first|(refine Ld.of h.core.c1 ?_)|refine Ru.neq_nil0 ?_|refine Ru.n1 ?_|refine CW.s ?_);conv=>whnf)
  refine Ca.of (cstates_ok h) ?_;rintro _ w1 ⟨Y,e,rfl,hY⟩;have h1:=h.keep0 hY.keep;obtain⟨lY,nY,kY⟩:=hY;conv=>whnf
  refine CW.loop (ι:=Nat) (fun i w'=>i<=12/\fits b (clT K P i).length/\On w' N (clK K i) (clP K P i) (less b (clT K P i).length) n X c/\Ly w' 3 1 Y 12 e (fun j=>.int .i64 (K.st j:Nat))/\Keep N.all w w')
   (fun i=>[(0,.pointer (some ⟨N.k,0,none⟩)),(5,.bool m),(24,.slice Y 12 e),(25,.int .i64 12),(26,.int .i64 i)]) (fun i=>12-i) 0 tt_ok ⟨by omega,(fun x hx=>by rw[clT_zero];exact Nat.zero_le _),by rw[clT_zero,clK_zero,clP_zero,show(([]:List CS)).length=0 from rfl,less_zero];exact h1,lY,Keep.of0 kY⟩ ⟨rfl,congrArg Value.bool hm.symm,rfl,rfl,rfl,trivial⟩ ?_;clear h1 lY kY;rintro i wr ⟨hi,hfit,hr,ly,kk⟩;obtain⟨F,hsame⟩:=clK_same K i;have hcal:=clP_calm K hc i;rcases Nat.lt_or_ge i 12 with hlt|hlt
  ·have rd:=ly.rd;rw[Nat.mul_one] at rd;obtain⟨gy,oy,rfl,hcell⟩:=rd (by omega);have ci:wr.cell? ⟨gy,oy+i,none⟩=some (.int .i64 (K.st i:Nat)):=hcell i hlt;by_cases hs:K.st i=0
   ·rw[hs] at ci;obtain⟨T,hT⟩:=clT_len K P (i+1) 12 (by omega);have eT:clT K P (i+1)=clT K P i++[clP K P i]:=by rw[clT_succ,if_pos hs]
    conv=>whnf
    repeat ((first|(refine Ld.at (by omega) ci ?_)|(refine Ld.of hr.core.c0 ?_)|refine Br.f ?_|refine Ix.n ?_|refine Br.y ?_|refine CW.s ?_);conv=>whnf)
    refine Ca.of (aerase_ok hr.med (B:=i) hlt) ?_;rintro _ w4 ⟨k4,hr4⟩;have k4a:Keep N.all wr w4:=k4.mono (fun x hx=>in_all_l (by rw[List.mem_singleton.1 hx];simp[Pt.l]));have kk4:=kk.trans k4a;have ly4:=ly.keep k4a (fun x hx=>far x (nY x hx));rw[CS.erase_calm hcal] at hr4;rcases hr4 with⟨hf4,rfl,M4⟩|⟨y,hy,hyb,rfl,M4⟩
    ·have h4:=hr.chip (k4.mono (fun x hx=>by rw[List.mem_singleton.1 hx];simp[Pt.l])) M4;conv=>whnf
     repeat ((first|(refine Ld.of h4.core.c4 ?_)|refine Br.t ?_|refine Ru.eql_nil0 ?_);conv=>whnf)
     refine Ca.of (Hl.erased_ok w4 N.e _ h4.core.health i hlt) ?_;rintro _ w5 ⟨rfl,r5,k5⟩;have h5:=h4.health k5 r5;conv=>whnf
     repeat ((first|refine Ar.la ?_);conv=>whnf)
     refine⟨i+1,⟨hlt,?_,?_,ly4.keep k5 (fun x hx hm=>?_),kk4.trans (Keep.of1 (by simp[Cr.own]) k5)⟩,⟨rfl,rfl,rfl,rfl,vi (by omega),trivial⟩,by simp only;omega⟩
     ·rw[eT];exact Runs.fits hfit hf4
     ·rw[eT,clK_succ,clP_succ,if_pos hs,if_pos hs,List.length_append, <-less_less];exact h5
     ·exact far x (nY x hx) (in_all_own (by rw[List.mem_singleton.1 hm];simp[Cr.own]))
    ·conv=>whnf
     repeat ((first|refine Br.f ?_|refine Ru.e1 ?_);conv=>whnf)
     refine Ca.of (eis_ok 7 8 (by decide) _) ?_;rintro _ _ ⟨rfl,rfl⟩;conv=>whnf
     repeat ((first|refine Br.f ?_);conv=>whnf)
     refine⟨rfl,kk4,?_⟩;obtain⟨T2,hT2⟩:=hpre;rw[hT2,hT,eT,List.append_assoc,List.append_assoc];exact Runs.then hfit (Runs.gone hy hyb ⟨rfl,n,M4⟩)
   ·have hs1:decide (((K.st i:Nat):Int)=0)=false:=decide_eq_false (by omega);have eT:clT K P (i+1)=clT K P i:=by rw[clT_succ,if_neg hs]
    conv=>whnf
    repeat ((first|(refine Ld.at (by omega) ci ?_)|refine Ix.n ?_|refine Ar.la ?_|refine Br.y ?_|refine Br.nn ?_|refine CW.s ?_);conv=>whnf)
    refine⟨i+1,⟨hlt,by rw[eT];exact hfit,?_,ly,kk⟩,⟨rfl,rfl,rfl,rfl,vi (by omega),trivial⟩,by simp only;omega⟩;rw[eT,clK_succ,clP_succ,if_neg hs,if_neg hs];exact hr
 ·obtain rfl:i=12:=by omega
  obtain⟨F,hsame⟩:=clK_same K 12;have hw:wornB (clK K 12).st=false:=by rw[hsame];exact hwo
  subst hm;obtain⟨K1,P1,t1,h1,h2,rfl,rfl,rfl⟩:=hend;conv=>whnf
  repeat ((first|(refine Ld.of hr.core.c1 ?_)|refine Br.f ?_|refine CW.s ?_);conv=>whnf)
  refine Ca.of (worn_ok hr.core.pool) ?_;rintro _ _ ⟨rfl,rfl⟩;rw[hw];conv=>whnf
  repeat ((first|refine Br.f ?_|refine Pk.f ?_|refine CW.s ?_);conv=>whnf)
  refine Ca.of (note_ok hr h1 h2) ?_;rintro _ w5 ⟨k5,hr5⟩;rcases hr5 with⟨f5,rfl,n5,h5⟩|⟨y,hy,hyb,rfl,n5,h5⟩
  ·conv=>whnf
   refine Ca.of (eis_ok 0 14 (by decide) _) ?_;rintro _ _ ⟨rfl,rfl⟩;conv=>whnf
   repeat ((first|refine Br.t ?_);conv=>whnf)
   exact⟨rfl,kk.trans k5,Runs.then hfit (.inl ⟨f5,rfl,n5,h5⟩)⟩
  ·conv=>whnf
   refine Ca.of (eis_ok 7 14 (by decide) _) ?_;rintro _ _ ⟨rfl,rfl⟩;conv=>whnf
   repeat ((first|refine Br.t ?_);conv=>whnf)
   exact⟨rfl,kk.trans k5,Runs.then hfit (.inr ⟨y,hy,hyb,rfl,n5,h5⟩)⟩
 ·obtain rfl:i=12:=by omega
  subst hm;obtain⟨rfl,rfl,rfl⟩:=hend;conv=>whnf
  repeat ((first|refine Br.t ?_|refine Br.f ?_|refine Pk.t ?_|refine CW.s ?_);conv=>whnf)
  exact⟨rfl,kk,.inl ⟨hfit,rfl,n,hr⟩⟩
end
end
section
open Go.RowKit
def mtK(k:Cp)(L:List Fd):KS:=fK (nwK k L) (snF (nwK k L).F 12)
inductive Mounts (P:CS):KS->CS->List CS->Prop
 |new {K':KS} {P':CS} {tr:List CS}:newestF (byP (fdsTo P 96) 96) 24 (-1)=(Fd.zero,false)->NwHyp Cp.zero []->Hl.HB (nwK Cp.zero []).F->(mtK Cp.zero []).at_ 24<=96->wornB (mtK Cp.zero []).st=false->Cleaned (mtK Cp.zero []) (scP P 96) K' P' tr->Mounts P K' P' tr
 | old {k:Cp} {f:Fd} {p:Nat} {t:Tg} {D:Nat->Nat} {K':KS} {P':CS} {tr:List CS}:newestF (byP (fdsTo P 96) 96) 24 (-1)=(f,true)->f.place=p->p<96->P.pg p=.full t D->t.of=24->(∀j,j<174->D j=ptN k j)->NwHyp k (fdsTo P 96)->Hl.HB (nwK k (fdsTo P 96)).F->(mtK k (fdsTo P 96)).at_ 24<=96->wornB (mtK k (fdsTo P 96)).st=false ->
   Cleaned (mtK k (fdsTo P 96)) (scP P 96) K' P' tr->Mounts P K' P' tr
theorem mk12z_run(w:World):(Instr.makeSlice 23 (.int .i64 12) (.int .i64 12)).run Tryz.prog w=.ok (.slice (some ⟨w.heap.size,0,none⟩) 12 12) (w.alloc (.cells (madeCells #[.int .i64 0] 12) 3)):=by kernel_rfl
attribute [local irreducible] fdsTo scP nwK snF
theorem On.keepG{w w':World}{N:Cr}{K:KS}{P:CS}{b:Option Nat}{n:Int}{c g:Nat}(h:On w N K P b n none c)(k:Keep [g] w w')(hg:g∉N.all)(h1:N.N.m∉[g])(h2:N.N.c∉[g])(h3:N.N.f∉[g])(h4:N.N.cd∉[g])(h5:N.N.g∉[g])(h6:N.N.h∉[g]):On w' N K P b n none c:=by
 obtain⟨C,M,q⟩:=h.med;exact⟨h.core.keep k (fun x hx hm=>by
  rcases List.mem_append.1 hx with hx|hx
  ·exact hg (in_all_own (by rw[<-List.mem_singleton.1 hm];exact hx))
  ·cases hx),C,M.keep k h1 h2 h3 h4 h5 h6,q⟩
def MtEnd(ch:Nat)(K':KS)(P':CS)(b:Option Nat)(tr:List CS)(w:World)(v:Value)(w':World):Prop :=
 Keep [ch] w w'/\Runs b tr (fun b'=>∃(N:Cr) (n:Int),v=.tuple #[.pointer (some ⟨N.k,0,none⟩),errOf 0]/\N.N.c=ch/\On w' N K' P' b' n none 0/\∀x,x∈N.all->x=ch\/w.heap.size<=x) (fun Q=>v=.tuple #[.pointer none,errOf 7]/\∃C',ChipAt w' ch C'/\DeadAs C' Q)
theorem mount_ok{w:World}{C:Chip}{ch:Nat}{P:CS}{b:Option Nat}(H:ChipAt w ch C)(hA:Abs C P)(hl:C.left b)(hc:P.calm){K':KS}{P':CS}{tr:List CS}(M:Mounts P K' P' tr) :
  Spec Tryz.prog 50 #[.pointer (some ⟨ch,0,none⟩)] w (MtEnd ch K' P' b tr w):=by
 have hlen:=fdsTo_len P 96;have hcal:=scP_calm hc 96;have hchw:ch<w.heap.size:=Row.lt H;obtain⟨k,L,is,hN,hB,h24,hwo,hCl,hkind⟩:∃(k:Cp) (L:List Fd) (is:Bool),NwHyp k L/\Hl.HB (nwK k L).F/\(mtK k L).at_ 24<=96/\wornB (mtK k L).st=false/\Cleaned (mtK k L) (scP P 96) K' P' tr /\
   ((is=false/\L=[]/\k=Cp.zero/\newestF (byP (fdsTo P 96) 96) 24 (-1)=(Fd.zero,false))\/(is=true/\L=fdsTo P 96/\∃f p t D,newestF (byP (fdsTo P 96) 96) 24 (-1)=(f,true)/\f.place=(p:Nat)/\p<96/\P.pg p=.full t D/\t.of=24/\∀j,j<174->D j=ptN k j)):=by
  cases M with
  |new h1 h2 h3 h4 h5 h6=>exact⟨_,_,false,h2,h3,h4,h5,h6,.inl ⟨rfl,rfl,rfl,h1⟩⟩
  |old h1 h2 h3 h4 h5 h6 h7 h8 h9 h10 h11=>exact⟨_,_,true,h7,h8,h9,h10,h11,.inr ⟨rfl,rfl,_,_,_,_,h1,h2,h3,h4,h5,h6⟩⟩
 clear M;refine spec_of_wpE (T:=tt) tt_ok Tryz.func50 rfl (by decide +kernel) Tryz.ntmps50 (by simp) ?_;conv=>whnf
 repeat ((first|refine CW.s ?_);conv=>whnf)
 refine Ru.of (chip_nil w _ _) ?_;conv=>whnf
 repeat ((first|refine Br.f ?_);conv=>whnf)
 refine Ca.of (scan_ok H hA hl) ?_;rintro _ w1 ⟨A,cA,r,ps,C1,rfl,hnil,ly,rm,hps,H1,hA1,hl1,k1⟩;have hcap:(fdsTo P 96).length<=cA:=ly.1;have hnew:Spec Tryz.prog 75 #[.slice A (fdsTo P 96).length cA,.map (some r)] w1 fun v w'=>v=.tuple #[agg 62 k.cell,.bool is]/\Keep [] w1 w':=by
  rcases hkind with⟨rfl,-,rfl,h1⟩|⟨rfl,-,f,p,t,D,h1,h2,h3,h4,h5,h6⟩
  ·exact newm_none ly.rd hnil hcap hlen h1
  ·obtain⟨O,oc,D',a1,a2,a3,a4⟩:=hps.yes p t D h3 h4 h5;refine newm_some ly.rd hnil hcap hlen ⟨hN.told,rm,f,p,h1,h2,O,oc,a1,a4.congr (fun j hj=>?_)⟩;have h7:D' j=D j:=by
    rw[<-a3];unfold cutD;rw[if_pos (by omega)]
   rw[h7,h6 j (by omega),ptN_int]
 conv=>whnf
 repeat ((first|refine Br.f ?_|refine Ru.neq_nil0 ?_|refine CW.s ?_);conv=>whnf)
 refine Ca.of hnew ?_;rintro _ w2 ⟨rfl,k2⟩;have H2:=H1.keep k2 (by simp);have ly2:=ly.keep0 k2;have kk2:=k1.trans (k2.mono (T:=[ch]) (by simp));clear H1 ly k1 k2 rm hps hnew H;conv=>whnf
 refine Ru.alloca (alloc_cp w2) ?_;intro x7 w3 hx7 hs3 r7 k3;conv=>whnf
 refine Ru.sta r7 size_cp (by omega) (fun j hj=>Cp.cell_one _ j) ?_;intro w4 r74 k4;have r74:Row w4 x7 116 62 k.cell:=r74.congr (fun j hj=>layA62' _ _ j hj);have q4:Keep [] w2 w4:=k3.then k4 (fun x hx=>.inr (by rw[List.mem_singleton.1 hx,hx7];exact Nat.le_refl _));have H4:=H2.keep q4 (by simp);have ly4:=ly2.keep0 q4;have kk4:=kk2.trans (q4.mono (T:=[ch]) (by simp));clear H2 ly2 kk2 q4 k3 k4 r7 hs3;have hmain:∀A' cA',Rd w4 A' (L.length*6) (fdF L)->Spec Tryz.prog 76 #[.pointer (some ⟨ch,0,none⟩),agg 62 k.cell,.slice A' L.length cA'] w4 fun v w'=>∃N:Cr,v=.tuple #[.pointer (some ⟨N.k,0,none⟩),errOf 0]/\On w' N (nwK k L) (scP P 96) b 0 none 0/\N.N.c=ch/\(∀x,x∈N.all->x=ch\/w4.heap.size<=x)/\Keep [] w4 w' :=
  fun A' cA' hr=>mnew2_ok H4 hA1 hl1 hN hr (by rcases hkind with⟨-,rfl,-⟩|⟨-,rfl,-⟩;simp;omega);rcases hkind with⟨rfl,rfl,-,-⟩|⟨rfl,rfl,-⟩
 rotate_left
 all_goals
  conv=>whnf
  repeat ((first|refine Br.t ?_|refine Br.f ?_|refine CW.s ?_);conv=>whnf)
  refine Ru.ldaC (q:=k.cell) r74 Tryz.underlying116 rfl size_cp (by omega) (fun j hj=>by rw[Nat.zero_add]) ?_;conv=>whnf
 refine Ca.of (hmain A cA ly4.rd) ?_
 rotate_left
 refine Ca.of (hmain none 0 (fun h=>by simp at h)) ?_
 all_goals
  rintro _ w5 ⟨N,rfl,h5,eC,hall,k5⟩;have kk5:=kk4.trans (k5.mono (T:=[ch]) (by simp));conv=>whnf
  repeat ((first|refine Br.f ?_|refine Ru.neq_nil0 ?_|refine CW.s ?_);conv=>whnf)
  refine Ru.of (mk12z_run w5) ?_;have ry:=Row.made w5 3 (.int .i64 0) 12;have k6:Keep [] w5 (w5.alloc (.cells (madeCells #[.int .i64 0] 12) 3)):=(Keep.refl _ _).alloc _;have h6:=h5.keep0 k6;have kk6:=kk5.trans (k6.mono (T:=[ch]) (by simp));have lN:N.N.m<w5.heap.size/\N.N.c<w5.heap.size/\N.N.f<w5.heap.size/\N.N.cd<w5.heap.size/\N.N.g<w5.heap.size/\N.N.h<w5.heap.size:=by
   obtain⟨C5,M5,q5⟩:=h5.med;exact M5.lt
  have hgl:∀y,y<w5.heap.size->y∉[w5.heap.size]:=fun y hy hm=>by
   rw[List.mem_singleton.1 hm] at hy;omega
  have hNlt:∀x,x∈N.all->x<w5.heap.size:=fun x hx=>by
   rcases List.mem_append.1 hx with hm|hm
   ·exact h5.core.lt (List.mem_append_left _ hm)
   ·exact h5.l_lt _ hm
  have hgw:w.heap.size<=w5.heap.size:=kk5.size;have hgN:w5.heap.size∉N.all:=fun hx=>by have:=hNlt _ hx;omega
  have hallw:∀x,x∈N.all->x=ch\/w.heap.size<=x:=fun x hx=>by
   rcases hall x hx with h|h
   ·exact .inl h
   ·exact .inr (Nat.le_trans kk4.size h)
  clear h5 k5 k6 kk5 hmain r74 ly4 H4 kk4 hall hNlt;generalize w5.alloc _=w6 at *;generalize w5.heap.size=g at *;conv=>whnf
  repeat ((first|refine CW.s ?_);conv=>whnf)
  refine CW.loop (ι:=Nat) (fun i w'=>i<=12/\On w' N (nwK k _) (scP P 96) b 0 none 0/\Row w' g 3 12 (fun j=>if j<i then .int .i64 8 else .int .i64 0)/\Keep [ch] w w')
   (fun i=>[(9,.pointer (some ⟨N.k,0,none⟩)),(10,.slice (some ⟨g,0,none⟩) 12 12),(44,.slice (some ⟨g,0,none⟩) 12 12),(45,.int .i64 12),(46,.int .i64 i)]) (fun i=>12-i) 0 tt_ok ⟨by omega,h6,ry.congr (fun j hj=>by simp),kk6⟩ ⟨rfl,rfl,rfl,rfl,rfl,trivial⟩ ?_;clear h6 ry kk6;rintro i wr ⟨hi,hr,rg,kk⟩;rcases Nat.lt_or_ge i 12 with hlt|hge
  ·conv=>whnf
   repeat ((first|(refine Ix.of i (by omega) (by omega) ?_)|refine Br.y ?_|refine CW.s ?_);conv=>whnf)
   rw[show 0+i=i by omega];refine Sd.rowAt rg i (by omega) (by omega) rfl ?_;intro w7 rg7 k7;have h7:=hr.keepG k7 hgN (hgl N.N.m lN.1) (hgl N.N.c lN.2.1) (hgl N.N.f lN.2.2.1) (hgl N.N.cd lN.2.2.2.1) (hgl N.N.g lN.2.2.2.2.1) (hgl N.N.h lN.2.2.2.2.2);conv=>whnf
   repeat ((first|refine Ar.la ?_);conv=>whnf)
   refine⟨i+1,⟨hlt,h7,rg7.congr (fun j hj=>?_),kk.then k7 (fun x hx=>.inr (by rw[List.mem_singleton.1 hx];exact hgw))⟩,⟨rfl,rfl,rfl,rfl,vi (by omega),trivial⟩,by simp only;omega⟩;unfold put;by_cases hji:j=i
   ·rw[if_pos hji,if_pos (by omega)]
   ·rw[if_neg hji];simp only;by_cases hj2:j<i
    ·rw[if_pos hj2,if_pos (by omega)]
    ·rw[if_neg hj2,if_neg (by omega)]
  ·obtain rfl:i=12:=by omega
   have rg:Row wr g 3 12 (fun _=>.int .i64 8):=rg.congr (fun j hj=>by simp only[if_pos hj]);conv=>whnf
   repeat ((first|refine Br.f ?_|refine CW.s ?_);conv=>whnf)
   refine Ca.of (seen_ok hr hB rg hgN) ?_;rintro _ w7 ⟨rfl,h7,k7⟩;conv=>whnf
   repeat ((first|refine CW.s ?_);conv=>whnf)
   refine Ca.of (clean_ok h7 hcal h24 hwo hCl) ?_;rintro _ w8 ⟨k8,hr8⟩;have kk8:Keep [ch] w w8:=kk.then (k7.trans k8) (fun x hx=>by
    rcases hallw x hx with h|h
    ·exact .inl (List.mem_singleton.2 h)
    ·exact .inr h)
   rcases hr8 with⟨f8,rfl,n8,h8⟩|⟨y,hy,hyb,rfl,n8,C8,M8,D8⟩
   ·conv=>whnf
    repeat ((first|refine Br.f ?_|refine Ru.neq_nil0 ?_);conv=>whnf)
    exact⟨rfl,kk8,.inl ⟨f8,N,n8,rfl,eC,h8,hallw⟩⟩
   ·conv=>whnf
    repeat ((first|refine Br.t ?_|refine Ru.n1 ?_);conv=>whnf)
    exact⟨rfl,kk8,.inr ⟨y,hy,hyb,rfl,C8,by rw[<-eC];exact M8.chip,D8⟩⟩
end
section
open Go.RowKit
def dvF(ch:Nat)(core:Option Addr)(j:Nat):Value:=if j=0 then ptr ch else .pointer core
def DvRow(w:World)(d ch:Nat)(core:Option Addr):Prop:=Row w d 87 2 (dvF ch core)
theorem dis_ok(s:Nat)(hs:s<24)(w:World):Spec Tryz.prog 42 #[.int .i64 s] w fun v w'=>v=.bool true/\w=w':=by
 refine spec_of_wpE (T:=tt) tt_ok Tryz.func42 rfl (by decide +kernel) Tryz.ntmps42 (by simp) ?_;conv=>whnf
 repeat ((first|refine Br.t ?_|refine Pk.t ?_);conv=>whnf)
 exact⟨rfl,vb (decide_eq_true (by omega)),rfl⟩
theorem core_some(w:World)(x:Operand)(a:Addr):(do eqGuard .eql 85 x (.const (.pointer none)) (.pointer (some a)) (.pointer none);binOp .eql 85 (.pointer (some a)) (.pointer none):Sem Value).run Tryz.prog w=.ok (.bool false) w:=by kernel_rfl
theorem core_none(w:World)(x:Operand):(do eqGuard .neq 85 x (.const (.pointer none)) (.pointer none) (.pointer none);binOp .neq 85 (.pointer none) (.pointer none):Sem Value).run Tryz.prog w=.ok (.bool false) w:=by kernel_rfl
theorem build_dev(ch:Nat)(w:World):(Instr.build 87 #[(0,.pointer (some ⟨ch,0,none⟩))]).run Tryz.prog w=.ok (agg 2 (dvF ch none)) w:=by kernel_rfl
theorem dnew_ok(ch:Nat)(w:World):Spec Tryz.prog 31 #[.pointer (some ⟨ch,0,none⟩)] w fun v w'=>∃d,v=.tuple #[.pointer (some ⟨d,0,none⟩),errOf 0]/\d=w.heap.size/\DvRow w' d ch none/\Keep [] w w':=by
 refine spec_of_wpE (T:=tt) tt_ok Tryz.func31 rfl (by decide +kernel) Tryz.ntmps31 (by simp) ?_;conv=>whnf
 repeat ((first|refine CW.s ?_);conv=>whnf)
 refine Ru.of (chip_nil w _ _) ?_;conv=>whnf
 repeat ((first|refine Br.f ?_);conv=>whnf)
 refine Ru.of (build_dev ch w) ?_;conv=>whnf
 refine Ru.boxa ?_;intro d w1 hd hs r k;conv=>whnf
 exact⟨rfl,d,rfl,hd,r,k⟩
def DvOn(w:World)(own:List Nat)(d ch:Nat)(K:KS)(P:CS)(b:Option Nat):Prop :=
 ∃N X c n,own=d::(N.all++blk X)/\DvRow w d ch (some ⟨N.k,0,none⟩)/\On w N K P b n X c/\N.N.c=ch/\K.qu=[]
def DvOff(w:World)(d ch:Nat)(Q:CS):Prop:=DvRow w d ch none/\∃C,ChipAt w ch C/\DeadAs C Q
def DvEnds(own:List Nat)(d ch:Nat)(K':KS)(P':CS)(b:Option Nat)(tr:List CS)(w w':World)(ok dead:Prop):Prop :=
 Keep own w w'/\Runs b tr (fun b'=>ok/\∃own',DvOn w' own' d ch K' P' b'/\∀x,x∈own'->x∈own\/w.heap.size<=x) (fun Q=>dead/\DvOff w' d ch Q)
structure TdHyp(K:KS)(P:CS):Prop where
 hb:Hl.HB K.F
 cur:K.cur<96
 at96:∀o,o<25->K.at_ o<=96
 fine:Fine K P
theorem dvF_set(ch:Nat)(a:Option Addr)(a':Option Addr)(j:Nat)(hj:j<2):put (dvF ch a) 1 (.pointer a') j=dvF ch a' j:=by
 unfold put dvF;have:j=0\/j=1:=by omega
 rcases this with rfl|rfl<;>rfl
section
variable{w w':World}{N:Cr}{K:KS}{X:Option Addr}{c d ch:Nat}{P:CS}{b:Option Nat}{n:Int}
theorem DvRow.ne(r:DvRow w d ch (some ⟨N.k,0,none⟩))(h:On w N K P b n X c):d∉N.all++blk X:=fun hm=>by
 obtain⟨C,M,q⟩:=h.med;obtain⟨F,rg⟩:=M.frm.cod.fs.ty;rcases List.mem_append.1 hm with hm|hm
 ·simp only[Cr.all,Cr.own,Pt.l,List.cons_append,List.nil_append,List.mem_cons,List.not_mem_nil,or_false] at hm;rcases hm with e|e|e|e|e|e|e|e|e
  ·exact Row.ne_ r h.core.row (by decide) e
  ·exact Row.ne_ r h.core.pool (by decide) e
  ·exact Row.ne_ r h.core.map (by decide) e
  ·exact Row.ne_ r h.core.front (by decide) e
  ·exact Row.ne_ r h.core.health (by decide) e
  ·exact Row.ne_ r h.core.pat (by decide) e
  ·exact Row.ne_ r M.row (by decide) e
  ·exact Row.ne_ r M.chip (by decide) e
  ·exact Row.ne_ r rg (by decide) e
 ·exact h.core.qu.row_ne r (by decide) hm
theorem ended0_ok(r:DvRow w d ch (some ⟨N.k,0,none⟩))(h:On w N K P b n X c)(eC:N.N.c=ch)(hq:K.qu=[])(T:TdHyp K P){K':KS}{P':CS}{tr:List CS}(H:Tended K P K' P' tr)(hq':K'.qu=[]) :
  Spec Tryz.prog 43 #[.pointer (some ⟨d,0,none⟩),errOf 0] w fun v w'=>DvEnds (d::(N.all++blk X)) d ch K' P' b tr w w' (v=errOf 0) (v=errOf 7):=by
 have hne:=r.ne h;refine spec_of_wpE (T:=tt) tt_ok Tryz.func43 rfl (by decide +kernel) Tryz.ntmps43 (by simp) ?_;conv=>whnf
 repeat ((first|refine CW.s ?_);conv=>whnf)
 refine Ca.of (eis_ok 0 7 (by decide) _) ?_;rintro _ _ ⟨rfl,rfl⟩;have c1:w.cell? ⟨d,1,none⟩=some (.pointer (some ⟨N.k,0,none⟩)):=Row.cell r 1 (by omega);conv=>whnf
 repeat ((first|(refine Ld.of c1 ?_)|refine Br.t ?_);conv=>whnf)
 refine Ca.of (tend_ok h hq T.hb T.cur T.at96 T.fine H) ?_;rintro _ w1 ⟨k1,hr1⟩;have r1:DvRow w1 d ch (some ⟨N.k,0,none⟩):=Row.keep r k1 hne;have kk:Keep (d::(N.all++blk X)) w w1:=k1.mono (fun x hx=>List.mem_cons_of_mem _ hx);rcases hr1 with⟨f1,rfl,Y,e,n1,h1,hY⟩|⟨y,hy,hyb,rfl,n1,M1⟩
 ·conv=>whnf
  repeat ((first|refine Br.f ?_|refine Ru.neq_nil0 ?_|refine CW.s ?_);conv=>whnf)
  refine Ca.of (eis_ok 0 7 (by decide) _) ?_;rintro _ _ ⟨rfl,rfl⟩;conv=>whnf
  repeat ((first|refine Br.f ?_);conv=>whnf)
  refine⟨rfl,kk,.inl ⟨f1,rfl,_,⟨N,Y,e,n1,rfl,r1,h1,eC,hq'⟩,fun x hx=>?_⟩⟩;rcases List.mem_cons.1 hx with rfl|hx
  ·exact .inl (List.mem_cons_self ..)
  ·rcases List.mem_append.1 hx with hx|hx
   ·exact .inl (List.mem_cons_of_mem _ (List.mem_append_left _ hx))
   ·rcases hY x hx with h|h
    ·exact .inl (List.mem_cons_of_mem _ (List.mem_append_right _ h))
    ·exact .inr h
 ·conv=>whnf
  repeat ((first|refine Br.t ?_|refine Ru.n1 ?_|refine CW.s ?_);conv=>whnf)
  refine Ca.of (eis_ok 7 7 (by decide) _) ?_;rintro _ _ ⟨rfl,rfl⟩;conv=>whnf
  repeat ((first|refine Br.t ?_);conv=>whnf)
  refine Sd.rowAt r1 1 (by omega) (by omega) rfl ?_;intro w2 r2 k2;have r2:DvRow w2 d ch none:=r2.congr (fun j hj=>dvF_set ch _ _ j hj);conv=>whnf
  obtain⟨C1,M1,D1⟩:=M1;have hcd:N.N.c∉[d]:=fun hm=>hne (by
   rw[<-List.mem_singleton.1 hm];exact List.mem_append_left _ (in_all_l (by simp[Pt.l])))
  exact⟨rfl,kk.trans (k2.mono (fun x hx=>by rw[List.mem_singleton.1 hx];exact List.mem_cons_self ..)),.inr ⟨y,hy,hyb,rfl,r2,C1,by rw[<-eC];exact M1.chip.keep k2 hcd,D1⟩⟩
theorem ended7_ok(r:DvRow w d ch (some ⟨N.k,0,none⟩)){Q:CS}(h:MedX w N.N Q n)(eC:N.N.c=ch) :
  Spec Tryz.prog 43 #[.pointer (some ⟨d,0,none⟩),errOf 7] w fun v w'=>v=errOf 7/\DvOff w' d ch Q/\Keep [d] w w':=by
 refine spec_of_wpE (T:=tt) tt_ok Tryz.func43 rfl (by decide +kernel) Tryz.ntmps43 (by simp) ?_;conv=>whnf
 repeat ((first|refine CW.s ?_);conv=>whnf)
 refine Ca.of (eis_ok 7 7 (by decide) _) ?_;rintro _ _ ⟨rfl,rfl⟩;conv=>whnf
 repeat ((first|refine Br.f ?_|refine CW.s ?_);conv=>whnf)
 refine Ca.of (eis_ok 7 7 (by decide) _) ?_;rintro _ _ ⟨rfl,rfl⟩;conv=>whnf
 repeat ((first|refine Br.t ?_);conv=>whnf)
 refine Sd.rowAt r 1 (by omega) (by omega) rfl ?_;intro w2 r2 k2;have r2:DvRow w2 d ch none:=r2.congr (fun j hj=>dvF_set ch _ _ j hj);conv=>whnf
 obtain⟨C1,M1,D1⟩:=h;have hcd:N.N.c∉[d]:=fun hm=>by
  have:=Row.ne_ M1.chip r (by decide);exact this (List.mem_singleton.1 hm)
 exact⟨rfl,rfl,⟨r2,C1,by rw[<-eC];exact M1.chip.keep k2 hcd,D1⟩,k2⟩
theorem DvEnds.of{K1:KS}{P1:CS}{t1:List CS}{K':KS}{P':CS}{t2:List CS}{w1:World}
  (r:DvRow w d ch (some ⟨N.k,0,none⟩)) (h:On w N K P b n X c) (eC:N.N.c=ch) (hq:K1.qu=[]) (T:TdHyp K1 P1) (H:Tended K1 P1 K' P' t2) (hq':K'.qu=[]) {e:Value} (hE:EndsX N X c K1 P1 b t1 w w1 (e=errOf 0) (e=errOf 7)) :
  Spec Tryz.prog 43 #[.pointer (some ⟨d,0,none⟩),e] w1 fun v w'=>Keep (d::(N.all++blk X)) w1 w'/\DvEnds (d::(N.all++blk X)) d ch K' P' b (t1++t2) w w' (v=errOf 0) (v=errOf 7):=by
 obtain⟨k1,hr1⟩:=hE;have hne:=r.ne h;have r1:DvRow w1 d ch (some ⟨N.k,0,none⟩):=Row.keep r k1 (fun hm=>hne (List.mem_append_left _ hm));have kk1:Keep (d::(N.all++blk X)) w w1:=k1.mono (fun x hx=>List.mem_cons_of_mem _ (List.mem_append_left _ hx));rcases hr1 with⟨f1,rfl,n1,h1⟩|⟨y,hy,hyb,rfl,n1,M1⟩
 ·refine(ended0_ok r1 h1 eC hq T H hq').mono ?_;rintro v w2 ⟨k2,hr2⟩;refine⟨k2,kk1.trans k2,Runs.then f1 (hr2.mono (fun b' ⟨a1,own',a2,a3⟩=>⟨a1,own',a2,fun x hx=>?_⟩) (fun _ h=>h))⟩;rcases a3 x hx with h|h
  ·exact .inl h
  ·exact .inr (Nat.le_trans k1.size h)
 ·refine(ended7_ok r1 M1 eC).mono ?_;rintro v w2 ⟨rfl,a1,k2⟩;have k2:=k2.mono (T:=d::(N.all++blk X)) (fun x hx=>by rw[List.mem_singleton.1 hx];exact List.mem_cons_self ..);exact⟨k2,kk1.trans k2,Runs.gone hy hyb ⟨rfl,a1⟩⟩
theorem dwrite_ok{own:List Nat}(D:DvOn w own d ch K P b){s e:Nat}(hs:s<24){A:Option Addr}{f:Nat->Nat}(hA:RdB w A 160 f)(he:160<=e){K1:KS}{P1:CS}{t1:List CS}(L:Lays s (putD f) K P K1 P1 t1)
  (hq:(lyK K1 s).qu=[]) (T:TdHyp (lyK K1 s) (lyP K1 P1 s (putD f))) {K':KS} {P':CS} {t2:List CS} (H:Tended (lyK K1 s) (lyP K1 P1 s (putD f)) K' P' t2) (hq':K'.qu=[]) :
  Spec Tryz.prog 45 #[.pointer (some ⟨d,0,none⟩),.int .i64 s,.slice A 160 e] w fun v w'=>DvEnds own d ch K' P' b (lyT K1 P1 t1++t2) w w' (v=errOf 0) (v=errOf 7):=by
 obtain⟨N,X,c,n,rfl,r,h,eC,hqu⟩:=D;have c1:w.cell? ⟨d,1,none⟩=some (.pointer (some ⟨N.k,0,none⟩)):=Row.cell r 1 (by omega);refine spec_of_wpE (T:=tt) tt_ok Tryz.func45 rfl (by decide +kernel) Tryz.ntmps45 (by simp) ?_;conv=>whnf
 repeat ((first|(refine Ld.of c1 ?_)|refine CW.s ?_);conv=>whnf)
 refine Ru.of (core_some w _ _) ?_;conv=>whnf
 repeat ((first|refine Br.f ?_);conv=>whnf)
 refine Ca.of (dis_ok s hs w) ?_;rintro _ _ ⟨rfl,rfl⟩;conv=>whnf
 repeat ((first|(refine Ld.of c1 ?_)|refine Br.f ?_|refine Pk.f ?_);conv=>whnf)
 refine Ca.of (put_ok h hs hA he L) ?_;intro u w1 hu;conv=>whnf
 refine Ca.of (DvEnds.of r h eC hq T H hq' hu) ?_;rintro v w2 ⟨-,hv⟩;conv=>whnf
 exact⟨rfl,hv⟩
theorem dtrim_ok{own:List Nat}(D:DvOn w own d ch K P b){s:Nat}(hs:s<24)(h0:K.at_ s≠0)(h96:K.at_ s<=96){K1:KS}{P1:CS}{t1:List CS}(L:Lays 24 (trimD s (K.en s).seq) K P K1 P1 t1)(ht:(trC (sqK K1) s (K.en s).seq K1.next).told)(h1:(lyK K1 24).at_ s≠0)(h2:(lyK K1 24).at_ s<=96)
  (hq:(drK (flK (lyK K1 24) s (K.en s).seq) s).qu=[]) (T:TdHyp (drK (flK (lyK K1 24) s (K.en s).seq) s) (lyP K1 P1 24 (trimD s (K.en s).seq))) {K':KS} {P':CS} {t2:List CS} (H:Tended (drK (flK (lyK K1 24) s (K.en s).seq) s) (lyP K1 P1 24 (trimD s (K.en s).seq)) K' P' t2) (hq':K'.qu=[]) :
  Spec Tryz.prog 17 #[.pointer (some ⟨d,0,none⟩),.int .i64 s] w fun v w'=>DvEnds own d ch K' P' b (lyT K1 P1 t1++t2) w w' (v=errOf 0) (v=errOf 7):=by
 obtain⟨N,X,c,n,rfl,r,h,eC,hqu⟩:=D;have c1:w.cell? ⟨d,1,none⟩=some (.pointer (some ⟨N.k,0,none⟩)):=Row.cell r 1 (by omega);refine spec_of_wpE (T:=tt) tt_ok Tryz.func17 rfl (by decide +kernel) Tryz.ntmps17 (by simp) ?_;conv=>whnf
 repeat ((first|(refine Ld.of c1 ?_)|refine CW.s ?_);conv=>whnf)
 refine Ru.of (core_some w _ _) ?_;conv=>whnf
 repeat ((first|refine Br.f ?_);conv=>whnf)
 refine Ca.of (dis_ok s hs w) ?_;rintro _ _ ⟨rfl,rfl⟩;conv=>whnf
 repeat ((first|(refine Ld.of c1 ?_)|refine Br.f ?_);conv=>whnf)
 refine Ca.of (trim_ok h hs h0 h96 L ht h1 h2) ?_;intro u w1 hu;conv=>whnf
 refine Ca.of (DvEnds.of r h eC hq T H hq' hu) ?_;rintro v w2 ⟨-,hv⟩;conv=>whnf
 exact⟨rfl,hv⟩
theorem dtrim0_ok{own:List Nat}(D:DvOn w own d ch K P b){s:Nat}(hs:s<24)(h0:K.at_ s=0)(T:TdHyp K P){K':KS}{P':CS}{t2:List CS}(H:Tended K P K' P' t2)(hq':K'.qu=[]) :
  Spec Tryz.prog 17 #[.pointer (some ⟨d,0,none⟩),.int .i64 s] w fun v w'=>DvEnds own d ch K' P' b t2 w w' (v=errOf 0) (v=errOf 7):=by
 obtain⟨N,X,c,n,rfl,r,h,eC,hqu⟩:=D;have c1:w.cell? ⟨d,1,none⟩=some (.pointer (some ⟨N.k,0,none⟩)):=Row.cell r 1 (by omega);refine spec_of_wpE (T:=tt) tt_ok Tryz.func17 rfl (by decide +kernel) Tryz.ntmps17 (by simp) ?_;conv=>whnf
 repeat ((first|(refine Ld.of c1 ?_)|refine CW.s ?_);conv=>whnf)
 refine Ru.of (core_some w _ _) ?_;conv=>whnf
 repeat ((first|refine Br.f ?_);conv=>whnf)
 refine Ca.of (dis_ok s hs w) ?_;rintro _ _ ⟨rfl,rfl⟩;conv=>whnf
 repeat ((first|(refine Ld.of c1 ?_)|refine Br.f ?_);conv=>whnf)
 refine Ca.of (trim_none h hs h0) ?_;intro u w1 hu;conv=>whnf
 refine Ca.of (DvEnds.of (t1:=[]) r h eC hqu T H hq' hu) ?_;rintro v w2 ⟨-,hv⟩;conv=>whnf
 exact⟨rfl,hv⟩
def RdEnds(own:List Nat)(d ch:Nat)(K':KS)(P':CS)(b:Option Nat)(tr:List CS)(f:Nat->Nat)(w:World)(v:Value)(w':World):Prop :=
 DvEnds own d ch K' P' b tr w w' (∃Y e,v=.tuple #[.slice Y 160 e,errOf 0]/\Ly w' 5 1 Y 160 e (fun j=>.int .u8 (f j:Nat))/\∀x,x∈blk Y->w.heap.size<=x) (v=.tuple #[.slice none 0 0,errOf 7])
theorem DvOn.own_lt{own:List Nat}(D:DvOn w own d ch K P b):∀x,x∈own->x<w.heap.size:=by
 obtain⟨N,X,c,n,rfl,r,h,eC,hqu⟩:=D;intro x hx;rcases List.mem_cons.1 hx with rfl|hx
 ·exact Row.lt r
 ·rcases List.mem_append.1 hx with hx|hx
  ·rcases List.mem_append.1 hx with hx|hx
   ·exact h.core.lt (List.mem_append_left _ hx)
   ·exact h.l_lt _ hx
  ·exact h.core.lt (List.mem_append_right _ hx)
theorem dread0_ok{own:List Nat}(D:DvOn w own d ch K P b){s:Nat}(hs:s<24)(h0:K.at_ s=0)(T:TdHyp K P){K':KS}{P':CS}{t2:List CS}(H:Tended K P K' P' t2)(hq':K'.qu=[]) :
  Spec Tryz.prog 22 #[.pointer (some ⟨d,0,none⟩),.int .i64 s] w fun v w'=>RdEnds own d ch K' P' b t2 (fun _=>0) w v w':=by
 have hlt:=D.own_lt;obtain⟨N,X,c,n,rfl,r,h,eC,hqu⟩:=D;have c1:w.cell? ⟨d,1,none⟩=some (.pointer (some ⟨N.k,0,none⟩)):=Row.cell r 1 (by omega);refine spec_of_wpE (T:=tt) tt_ok Tryz.func22 rfl (by decide +kernel) Tryz.ntmps22 (by simp) ?_;conv=>whnf
 repeat ((first|(refine Ld.of c1 ?_)|refine CW.s ?_);conv=>whnf)
 refine Ru.of (core_some w _ _) ?_;conv=>whnf
 repeat ((first|refine Br.f ?_);conv=>whnf)
 refine Ca.of (dis_ok s hs w) ?_;rintro _ _ ⟨rfl,rfl⟩;conv=>whnf
 repeat ((first|(refine Ld.of c1 ?_)|refine Br.f ?_);conv=>whnf)
 refine Ca.of (cget_none h hs h0) ?_;rintro _ w1 ⟨Y,e,rfl,hY,k1⟩;conv=>whnf
 repeat ((first|refine CW.s ?_);conv=>whnf)
 refine Ca.of (DvEnds.of (t1:=[]) r h eC hqu T H hq' (e:=errOf 0) (w1:=w1) ⟨Keep.of0 k1,Runs.nil ⟨rfl,n,h.keep0 k1⟩⟩) ?_;rintro v w2 ⟨k12,k2,hr2⟩;have hY2:Ly w2 5 1 Y 160 e (fun _=>.int .u8 ((0:Nat):Int)):=hY.ly.keep k12 (fun x hx hm=>by
  have:=hY.new x hx;have:=hlt x hm;omega)
 rcases hr2 with⟨f2,rfl,h2⟩|⟨y,hy,hyb,rfl,h2⟩
 ·conv=>whnf
  repeat ((first|refine Br.f ?_|refine Ru.neq_nil0 ?_);conv=>whnf)
  exact⟨rfl,k2,.inl ⟨f2,⟨Y,e,rfl,hY2,hY.new⟩,h2⟩⟩
 ·conv=>whnf
  repeat ((first|refine Br.t ?_|refine Ru.n1 ?_);conv=>whnf)
  exact⟨rfl,k2,.inr ⟨y,hy,hyb,rfl,h2⟩⟩
theorem dread_ok{own:List Nat}(D:DvOn w own d ch K P b){s:Nat}(hs:s<24)(B:Hl.HB K.F)(h0:K.at_ s≠0)(h96:K.at_ s<=96)(hl:K.ow (K.at_ s-1)<=25){t:Tg}{F:Nat->Nat}(hp:P.pg (K.at_ s-1)=.full t F)(hto:t.of=s)(hen:K.en s=⟨t.seq,t.copy,false⟩)(hdm:P.dm (K.at_ s-1)<2)
  (T:TdHyp (rdK K (K.at_ s-1)) (P.readE (K.at_ s-1))) {K':KS} {P':CS} {t2:List CS} (H:Tended (rdK K (K.at_ s-1)) (P.readE (K.at_ s-1)) K' P' t2) (hq':K'.qu=[]) :
  Spec Tryz.prog 22 #[.pointer (some ⟨d,0,none⟩),.int .i64 s] w fun v w'=>RdEnds own d ch K' P' b t2 F w v w':=by
 have hlt:=D.own_lt;obtain⟨N,X,c,n,rfl,r,h,eC,hqu⟩:=D;have c1:w.cell? ⟨d,1,none⟩=some (.pointer (some ⟨N.k,0,none⟩)):=Row.cell r 1 (by omega);refine spec_of_wpE (T:=tt) tt_ok Tryz.func22 rfl (by decide +kernel) Tryz.ntmps22 (by simp) ?_;conv=>whnf
 repeat ((first|(refine Ld.of c1 ?_)|refine CW.s ?_);conv=>whnf)
 refine Ru.of (core_some w _ _) ?_;conv=>whnf
 repeat ((first|refine Br.f ?_);conv=>whnf)
 refine Ca.of (dis_ok s hs w) ?_;rintro _ _ ⟨rfl,rfl⟩;conv=>whnf
 repeat ((first|(refine Ld.of c1 ?_)|refine Br.f ?_);conv=>whnf)
 refine Ca.of (cget_ok h B hs h0 h96 hl hp hto hen hdm) ?_;rintro _ w1 ⟨Y,e,rfl,hY,h1,k1⟩;conv=>whnf
 repeat ((first|refine CW.s ?_);conv=>whnf)
 refine Ca.of (DvEnds.of (t1:=[]) r h eC (K1:=rdK K (K.at_ s-1)) hqu T H hq' (e:=errOf 0) (w1:=w1) ⟨k1,Runs.nil ⟨rfl,_,h1⟩⟩) ?_;rintro v w2 ⟨k12,k2,hr2⟩;have hY2:Ly w2 5 1 Y 160 e (fun j=>.int .u8 (F j:Nat)):=hY.ly.keep k12 (fun x hx hm=>by
  have:=hY.new x hx;have:=hlt x hm;omega)
 rcases hr2 with⟨f2,rfl,h2⟩|⟨y,hy,hyb,rfl,h2⟩
 ·conv=>whnf
  repeat ((first|refine Br.f ?_|refine Ru.neq_nil0 ?_);conv=>whnf)
  exact⟨rfl,k2,.inl ⟨f2,⟨Y,e,rfl,hY2,hY.new⟩,h2⟩⟩
 ·conv=>whnf
  repeat ((first|refine Br.t ?_|refine Ru.n1 ?_);conv=>whnf)
  exact⟨rfl,k2,.inr ⟨y,hy,hyb,rfl,h2⟩⟩
end
def DmEnds(d ch:Nat)(K':KS)(P':CS)(b:Option Nat)(tr:List CS)(w:World)(v:Value)(w':World):Prop :=
 Keep [d,ch] w w'/\Runs b tr (fun b'=>v=errOf 0/\∃own',DvOn w' own' d ch K' P' b'/\∀x,x∈own'->x=d\/x=ch\/w.heap.size<=x) (fun Q=>v=errOf 7/\DvOff w' d ch Q)
theorem dmount_ok{w:World}{d ch:Nat}{C:Chip}{P:CS}{b:Option Nat}(r:DvRow w d ch none)(H:ChipAt w ch C)(hA:Abs C P)(hl:C.left b)(hc:P.calm){K':KS}{P':CS}{tr:List CS}(M:Mounts P K' P' tr)(hq:K'.qu=[]) :
  Spec Tryz.prog 32 #[.pointer (some ⟨d,0,none⟩)] w (DmEnds d ch K' P' b tr w):=by
 have c0:w.cell? ⟨d,0,none⟩=some (.pointer (some ⟨ch,0,none⟩)):=Row.cell r 0 (by omega);have c1:w.cell? ⟨d,1,none⟩=some (.pointer none):=Row.cell r 1 (by omega);have hdc:d≠ch:=Row.ne_ r H (by decide);have hdl:d<w.heap.size:=Row.lt r;refine spec_of_wpE (T:=tt) tt_ok Tryz.func32 rfl (by decide +kernel) Tryz.ntmps32 (by simp) ?_;conv=>whnf
 repeat ((first|(refine Ld.of c1 ?_)|refine CW.s ?_);conv=>whnf)
 refine Ru.of (core_none w _) ?_;conv=>whnf
 repeat ((first|(refine Ld.of c0 ?_)|refine Br.f ?_);conv=>whnf)
 refine Ca.of (mount_ok H hA hl hc M) ?_;rintro _ w1 ⟨k1,hr1⟩;have r1:DvRow w1 d ch none:=Row.keep r k1 (by simpa using hdc);have kk:Keep [d,ch] w w1:=k1.mono (by simp);rcases hr1 with⟨f1,N,n1,rfl,eC,h1,hall⟩|⟨y,hy,hyb,rfl,C1,H1,D1⟩
 ·conv=>whnf
  repeat ((first|refine Br.f ?_|refine Ru.neq_nil0 ?_|refine CW.s ?_);conv=>whnf)
  refine Sd.rowAt r1 1 (by omega) (by omega) rfl ?_;intro w2 r2 k2;have r2:DvRow w2 d ch (some ⟨N.k,0,none⟩):=r2.congr (fun j hj=>dvF_set ch _ _ j hj);have h2:=h1.away r1 (by decide) k2;conv=>whnf
  refine⟨rfl,kk.trans (k2.mono (by simp)),.inl ⟨f1,rfl,_,⟨N,none,0,n1,rfl,r2,h2,eC,hq⟩,fun x hx=>?_⟩⟩;rcases List.mem_cons.1 hx with rfl|hx
  ·exact .inl rfl
  ·rcases List.mem_append.1 hx with hx|hx
   ·exact .inr (hall x hx)
   ·cases hx
 ·conv=>whnf
  repeat ((first|refine Br.t ?_|refine Ru.n1 ?_|refine CW.s ?_);conv=>whnf)
  exact⟨rfl,kk,.inr ⟨y,hy,hyb,rfl,r1,C1,H1,D1⟩⟩
theorem Inv.tdh{K:KS}{P:CS}{k:Cp}{m:Int}(I:Inv K P k m):TdHyp K P:=⟨I.td_hyp.1,I.td_hyp.2.1,I.td_hyp.2.2.1,I.td_hyp.2.2.2⟩
inductive Act (K:KS) (P:CS):KS->CS->Prop
 |idle:Act K P K P
 |read {o:Nat}:o<25->K.at_ o≠0->Act K P (rdK K (K.at_ o-1)) (P.readE (K.at_ o-1))
 |put {s:Nat} {f:Nat->Nat} {K1:KS} {P1:CS} {t1:List CS}:s<24->Lays s (putD f) K P K1 P1 t1->Act K P (lyK K1 s) (lyP K1 P1 s (putD f))
 |trim {s:Nat} {q:Int} {K1:KS} {P1:CS} {t1:List CS}:s<24->Lays 24 (trimD s q) K P K1 P1 t1->Act K P (drK (flK (lyK K1 24) s q) s) (lyP K1 P1 24 (trimD s q))
inductive Did (K:KS) (P:CS) (K':KS) (P':CS):Prop
 |mk {k k1:Cp} {m:Int} {K1:KS} {P1:CS} {tr:List CS}:Inv K P k m->m+1<1099511627775->Act K P K1 P1->Inv K1 P1 k1 (m+1)->Tended K1 P1 K' P' tr->Did K P K' P'
structure CallEnd(K:KS)(P:CS)(m:Int)(a a':Nat->Nat->Nat)(K':KS)(P':CS)(k':Cp)(t1 t2:List CS):Prop where
 inv:Inv K' P' k' (m+2)
 qu:K'.qu=[]
 next:K.next<=K'.next
 t1:∀T,T∈t1->Tl T (m+2) a
 t2:∀T,T∈t2->Tl T (m+2) a'
 sh:Shows P' K'.at_ a'
 st:0<=K.calls->K.calls<8->(0<=K'.calls/\K'.calls<8/\Hl.dueB K'.F=false)/\∀J,Stab J->∀n,J n K P->J (n+130) K' P'
 did:Did K P K' P'
theorem dev_write{K:KS}{P:CS}{k:Cp}{m:Int}(I:Inv K P k m)(hq:K.qu=[])(hm:m+1<1099511627775){s:Nat}(hs:s<24){f:Nat->Nat}(hf:∀j,f j<256):∃K' P' k' t1 t2,(∀a,Shows P K.at_ a->CallEnd K P m a (setA a s f) K' P' k' t1 t2) /\
  ∀ {w:World} {own:List Nat} {d ch:Nat} {b:Option Nat} {A:Option Addr} {e:Nat},DvOn w own d ch K P b->RdB w A 160 f->160<=e->Spec Tryz.prog 45 #[.pointer (some ⟨d,0,none⟩),.int .i64 s,.slice A 160 e] w fun v w'=>DvEnds own d ch K' P' b (t1++t2) w w' (v=errOf 0) (v=errOf 7):=by
 obtain⟨K1,P1,t1,L,I1,q1,s1,n1,_,c1,z1⟩:=put_end I (by omega) hs hf;obtain⟨K',P',t2,k',T2,I2,q2,n2,z2,s2⟩:=td_end I1 hm;refine⟨K',P',k',lyT K1 P1 t1,t2,fun a hsh=>?_,fun D hA he=>dwrite_ok D hs hA he L (q1.trans hq) I1.tdh T2 q2⟩;obtain⟨b1,b2⟩:=s1 a hsh;obtain⟨d1,d2⟩:=s2 _ b2;exact⟨I2.mono (by omega),q2,by omega,fun T hT=>(b1 T hT).tl (by omega),fun T hT=>(d1 T hT).mono (by omega),d2,fun h0 h8=>⟨(z2 (by rw[c1];omega) (by rw[c1];omega)).1,fun J S n j=>S.mono (by omega) ((z2 (by rw[c1];omega) (by rw[c1];omega)).2 J S (n+9) (z1 J S n j))⟩,.mk I hm (.put hs L) I1 T2⟩
theorem dev_trim{K:KS}{P:CS}{k:Cp}{m:Int}(I:Inv K P k m)(hq:K.qu=[])(hm:m+1<1099511627775){s:Nat}(hs:s<24):∃K' P' k' t1 t2,(∀a,Shows P K.at_ a->CallEnd K P m a (setA a s (fun _=>0)) K' P' k' t1 t2) /\
  ∀ {w:World} {own:List Nat} {d ch:Nat} {b:Option Nat},DvOn w own d ch K P b->Spec Tryz.prog 17 #[.pointer (some ⟨d,0,none⟩),.int .i64 s] w fun v w'=>DvEnds own d ch K' P' b (t1++t2) w w' (v=errOf 0) (v=errOf 7):=by
 by_cases h0:K.at_ s=0
 ·obtain⟨K',P',t2,k',T2,I2,q2,n2,z2,s2⟩:=td_end I (by omega);refine⟨K',P',k',[],t2,fun a hsh=>?_,fun D=>dtrim0_ok D hs h0 I.tdh T2 q2⟩;have hsh':Shows P K.at_ (setA a s (fun _=>0)):=fun o j ho hj=>by
   unfold setA;by_cases hos:o=s
   ·rw[if_pos hos,hos];unfold arr;rw[if_pos h0]
   ·rw[if_neg hos];exact hsh o j ho hj
  obtain⟨d1,d2⟩:=s2 _ hsh';exact⟨I2.mono (by omega),q2,n2,(fun _ h=>nomatch h),fun T hT=>(d1 T hT).mono (by omega),d2,fun h0 h8=>⟨(z2 h0 h8).1,fun J S n j=>S.mono (by omega) ((z2 h0 h8).2 J S n j)⟩,.mk I hm .idle (I.mono (by omega)) T2⟩
 ·obtain⟨K1,P1,t1,k1,L,w1,h1,h2,I1,q1,s1,n1,_,c1,z1⟩:=trim_end I (by omega) hs h0;obtain⟨K',P',t2,k',T2,I2,q2,n2,z2,s2⟩:=td_end I1 hm;refine⟨K',P',k',lyT K1 P1 t1,t2,fun a hsh=>?_,fun D=>dtrim_ok D hs h0 (I.l.ok.led.lt (by omega)) L w1 h1 h2 (q1.trans hq) I1.tdh T2 q2⟩;obtain⟨b1,b2⟩:=s1 a hsh;obtain⟨d1,d2⟩:=s2 _ b2;exact⟨I2.mono (by omega),q2,by omega,fun T hT=>(b1 T hT).tl (by omega),fun T hT=>(d1 T hT).mono (by omega),d2,fun h0 h8=>⟨(z2 (by rw[c1];omega) (by rw[c1];omega)).1,fun J S n j=>S.mono (by omega) ((z2 (by rw[c1];omega) (by rw[c1];omega)).2 J S (n+9) (z1 J S n j))⟩,.mk I hm (.trim hs L) I1 T2⟩
theorem dev_read{K:KS}{P:CS}{k:Cp}{m:Int}(I:Inv K P k m)(hq:K.qu=[])(hm:m+1<1099511627775){s:Nat}(hs:s<24):∃K' P' k' t2 F,(∀a,Shows P K.at_ a->CallEnd K P m a a K' P' k' [] t2/\∀j,j<160->F j=a s j) /\
  ∀ {w:World} {own:List Nat} {d ch:Nat} {b:Option Nat},DvOn w own d ch K P b->Spec Tryz.prog 22 #[.pointer (some ⟨d,0,none⟩),.int .i64 s] w fun v w'=>RdEnds own d ch K' P' b t2 F w v w':=by
 by_cases h0:K.at_ s=0
 ·obtain⟨K',P',t2,k',T2,I2,q2,n2,z2,s2⟩:=td_end I (by omega);refine⟨K',P',k',t2,fun _=>0,fun a hsh=>⟨?_,fun j hj=>?_⟩,fun D=>dread0_ok D hs h0 I.tdh T2 q2⟩
  ·obtain⟨d1,d2⟩:=s2 _ hsh;exact⟨I2.mono (by omega),q2,n2,(fun _ h=>nomatch h),fun T hT=>(d1 T hT).mono (by omega),d2,fun h0 h8=>⟨(z2 h0 h8).1,fun J S n j=>S.mono (by omega) ((z2 h0 h8).2 J S n j)⟩,.mk I hm .idle (I.mono (by omega)) T2⟩
  ·have:=hsh s j hs hj;unfold arr at this;rw[if_pos h0] at this;exact this
 ·obtain⟨hp,t,D,a2,a3,a4,a5,a6,a7,a8⟩:=I.l.page (o:=s) (by omega) h0;have I1:=I.read hp;obtain⟨K',P',t2,k',T2,I2,q2,n2,z2,s2⟩:=td_end I1 (by omega);refine⟨K',P',k',t2,D,fun a hsh=>⟨?_,fun j hj=>?_⟩,fun Dv=>dread_ok Dv hs I.h.hb h0 (I.l.ok.led.lt (by omega)) (I.l.con.mw.lo _ hp) a2 a4 a3 (by rw[I.l.ok.gd.calm.d];omega) I1.tdh T2 q2⟩
  ·obtain⟨d1,d2⟩:=s2 a (Shows.same (P':=P.readE (K.at_ s-1)) hsh (fun o _ _=>rfl));exact⟨I2.mono (by omega),q2,n2,(fun _ h=>nomatch h),fun T hT=>(d1 T hT).mono (by omega),d2,fun h0 h8=>⟨(z2 h0 h8).1,fun J S n j=>S.mono (by omega) ((z2 h0 h8).2 J S (n+1) (S.rd hp j))⟩,.mk I hm (.read (by omega) h0) (I1.mono (by omega)) T2⟩
  ·have:=hsh s j hs hj;unfold arr dataAt at this;rw[if_neg h0,a2] at this;exact this
def CS.may(P:CS)(B:Nat):Prop:=P.failed B=true\/0<P.before B\/P.atErase B=true
def nf(x:Pg):Prop:=∀t D,x≠.full t D
structure Lk(P Q:CS)(p:Nat):Prop where
 pg:∀q,q≠p->Q.pg q=P.pg q
 may:∀B,Q.may B->P.may B
theorem Lk.refl(P:CS)(p:Nat):Lk P P p:=⟨fun _ _=>rfl,fun _ h=>h⟩
theorem Lk.trans{P Q R:CS}{p:Nat}(h:Lk P Q p)(g:Lk Q R p):Lk P R p:=⟨fun q hq=>(g.pg q hq).trans (h.pg q hq),fun B hB=>h.may B (g.may B hB)⟩
def Good(t:Tg)(p:Nat)(D:Nat->Nat):Prop:=t.ok/\t.place=p/\t.lost=false/\(∀j,D j<256)/\cutD D=D
structure Pv(P:CS)(m:Int):Prop where
 val:P.val
 same:∀p q t t' D D',p<96->q<96->P.pg p=.full t D->P.pg q=.full t' D'->t.seq=t'.seq->t.of=t'.of/\D=D'
 sq:∀p t D,p<96->P.pg p=.full t D->t.seq<m
structure Top(P:CS)(k:Cp)(o p:Nat)(s:Int):Prop where
 lt:p<96
 bad:k.bad (p/8)=false
 is:∃t D,P.pg p=.full t D/\t.of=o/\t.seq=s
 max:∀q t D,q<96->P.pg q=.full t D->t.of=o->(o=24\/k.bad (q/8)=false)->t.seq<=s
structure Mt(P:CS)(k:Cp)(L:Nat->Nat)(m:Int):Prop where
 pv:Pv P m
 pt:L 24≠0
 data:dataAt P (L 24-1)=ptN k
 told:k.told
 fl:∀o,o<24->k.fl o<m
 yes:∀o,o<25->L o≠0->∃s,Top P k o (L o-1) s/\floor k o<s
 no:∀o,o<24->L o=0->∀q t D,q<96->P.pg q=.full t D->t.of=o->k.bad (q/8)=false->t.seq<=k.fl o
theorem Mt.lt{P:CS}{k:Cp}{L:Nat->Nat}{m:Int}(h:Mt P k L m){o:Nat}(ho:o<25):L o<=96:=by
 by_cases e:L o=0
 ·omega
 ·obtain⟨s,T,_⟩:=h.yes o ho e;have:=T.lt;omega
theorem dataAt_full{P:CS}{p:Nat}{t:Tg}{D:Nat->Nat}(h:P.pg p=.full t D):dataAt P p=D:=by
 unfold dataAt;rw[h]
theorem dataAt_same{P P':CS}{p:Nat}(h:P'.pg p=P.pg p):dataAt P' p=dataAt P p:=by
 unfold dataAt;rw[h]
theorem Shows.same2{P P':CS}{L:Nat->Nat}{a:Nat->Nat->Nat}(h:Shows P L a)(h2:∀o,o<24->L o≠0->P'.pg (L o-1)=P.pg (L o-1)):Shows P' L a:=fun o j ho hj=>by
 rw[<-h o j ho hj];unfold arr;split
 ·rfl
 ·rename_i e
  rw[dataAt_same (h2 o ho e)]
theorem Mt.mono{P:CS}{k:Cp}{L:Nat->Nat}{m m':Int}(h:Mt P k L m)(hm:m<=m'):Mt P k L m' :=
 ⟨⟨h.pv.val,h.pv.same,fun p t D hp e=>Int.lt_of_lt_of_le (h.pv.sq p t D hp e) hm⟩,h.pt,h.data,h.told,fun o ho=>Int.lt_of_lt_of_le (h.fl o ho) hm,h.yes,h.no⟩
theorem Mt.ext{P P':CS}{k:Cp}{L:Nat->Nat}{m:Int}(h:Mt P k L m)
  (h1:∀q t D,q<96->P'.pg q=.full t D->P.pg q=.full t D\/(t.ok/\t.place=q/\t.lost=false)/\∃o t0,o<25/\L o≠0/\P.pg (L o-1)=.full t0 D/\t0.of=t.of/\t0.seq=t.seq)
  (h2:∀o,o<25->L o≠0->P'.pg (L o-1)=P.pg (L o-1)):Mt P' k L m:=by
 have old:∀q t D,q<96->P'.pg q=.full t D->∃q0 t0,q0<96/\P.pg q0=.full t0 D/\t0.of=t.of/\t0.seq=t.seq:=fun q t D hq e=>by
  rcases h1 q t D hq e with e|⟨_,o,t0,ho,hL,e,e1,e2⟩
  ·exact⟨q,t,hq,e,rfl,rfl⟩
  ·obtain⟨s,T,_⟩:=h.yes o ho hL;exact⟨_,t0,T.lt,e,e1,e2⟩
 have old2:∀o q t D,q<96->P'.pg q=.full t D->t.of=(o:Nat)->(o=24\/k.bad (q/8)=false)->∃q0 t0,q0<96/\P.pg q0=.full t0 D/\t0.of=o/\t0.seq=t.seq/\(o=24\/k.bad (q0/8)=false):=fun o q t D hq e ho hb=>by
  rcases h1 q t D hq e with e|⟨_,i,t0,hi,hL,e,e1,e2⟩
  ·exact⟨q,t,hq,e,ho,rfl,hb⟩
  ·obtain⟨s,T,_⟩:=h.yes i hi hL;exact⟨_,t0,T.lt,e,e1.trans ho,e2,.inr T.bad⟩
 refine⟨⟨fun q t D hq e=>?_,fun p q t t' D D' hp hq e e' hs=>?_,fun q t D hq e=>?_⟩,h.pt,?_,h.told,h.fl,fun o ho hL=>?_,fun o ho hL q t D hq e hof hb=>?_⟩
 ·obtain⟨q0,t0,hq0,e0,_,_⟩:=old q t D hq e;obtain⟨v1,v2,v3,v4,v5⟩:=h.pv.val q0 t0 D hq0 e0;rcases h1 q t D hq e with e|⟨⟨g1,g2,g3⟩,_⟩
  ·exact h.pv.val q t D hq e
  ·exact⟨g1,g2,g3,v4,v5⟩
 ·obtain⟨p0,t0,hp0,e0,a1,a2⟩:=old p t D hp e;obtain⟨q0,u0,hq0,f0,b1,b2⟩:=old q t' D' hq e';obtain⟨c1,c2⟩:=h.pv.same p0 q0 t0 u0 D D' hp0 hq0 e0 f0 (by omega);exact⟨by omega,c2⟩
 ·obtain⟨q0,t0,hq0,e0,a1,a2⟩:=old q t D hq e;have:=h.pv.sq q0 t0 D hq0 e0;omega
 ·rw[<-h.data];exact dataAt_same (h2 24 (by omega) h.pt)
 ·obtain⟨s,T,hf⟩:=h.yes o ho hL;refine⟨s,⟨T.lt,T.bad,by rw[h2 o ho hL];exact T.is,fun q t D hq e hof hb=>?_⟩,hf⟩;obtain⟨q0,t0,hq0,e0,a1,a2,a3⟩:=old2 o q t D hq e hof hb;have:=T.max q0 t0 D hq0 e0 a1 a3;omega
 ·rcases h1 q t D hq e with e|⟨_,i,t0,hi,hLi,e,e1,e2⟩
  ·exact h.no o ho hL q t D hq e hof hb
  ·obtain⟨s,T,_⟩:=h.yes i hi hLi;obtain⟨t1,D1,f1,f2,_⟩:=T.is;rw[e] at f1
   cases f1
   have:i=o:=by omega
   rw[this] at hLi;exact absurd hL hLi
theorem Mt.reloc{P:CS}{k:Cp}{L L':Nat->Nat}{m:Int}(h:Mt P k L m)
  (h1:∀o,o<25->L o≠0->L' o≠0/\L' o-1<96/\k.bad ((L' o-1)/8)=false/\∃t t' D,P.pg (L o-1)=.full t D/\P.pg (L' o-1)=.full t' D/\t'.of=t.of/\t'.seq=t.seq)
  (h0:∀o,o<25->L o=0->L' o=0):Mt P k L' m/\∀a,Shows P L a->Shows P L' a:=by
 have back:∀o,o<25->L' o≠0->L o≠0:=fun o ho h e=>h (h0 o ho e);refine⟨⟨h.pv,(h1 24 (by omega) h.pt).1,?_,h.told,h.fl,fun o ho hL=>?_,fun o ho hL=>h.no o ho ?_⟩,fun a hs o j ho hj=>?_⟩
 ·obtain⟨_,_,_,t,t',D,e,e',_⟩:=h1 24 (by omega) h.pt;rw[dataAt_full e', <-dataAt_full e];exact h.data
 ·obtain⟨a1,a2,a3,t,t',D,e,e',e1,e2⟩:=h1 o ho (back o ho hL);obtain⟨s,T,hf⟩:=h.yes o ho (back o ho hL);obtain⟨t1,D1,f1,f2,f3⟩:=T.is;rw[e] at f1
  cases f1
  exact⟨s,⟨a2,a3,⟨t',D,e',by omega,by omega⟩,T.max⟩,hf⟩
 ·by_cases e:L o=0
  ·exact e
  ·exact absurd hL (h1 o (by omega) e).1
 ·rw[<-hs o j ho hj];unfold arr;by_cases e:L o=0
  ·rw[if_pos e,if_pos (h0 o (by omega) e)]
  ·obtain⟨a1,a2,a3,t,t',D,e1,e2,_⟩:=h1 o (by omega) e;rw[if_neg e,if_neg a1,dataAt_full e1,dataAt_full e2]
section
variable{P P':CS}{k:Cp}{L:Nat->Nat}{m s:Int}{p:Nat}{t:Tg}{D:Nat->Nat}
theorem Pv.new(h:Pv P m)(hs:m<=s)(hq:∀q,q≠p->P'.pg q=P.pg q)(hp:P'.pg p=.full t D)(g:Good t p D)(ht:t.seq=s):Pv P' (s+1):=by
 have cs:∀q t' D',q<96->P'.pg q=.full t' D'->(q=p/\t'=t/\D'=D)\/P.pg q=.full t' D':=fun q t' D' _ e=>by
  by_cases hn:q=p
  ·subst hn;rw[hp] at e
   cases e
   exact .inl ⟨rfl,rfl,rfl⟩
  ·exact .inr (by rw[<-hq q hn];exact e)
 refine⟨fun q t' D' hq' e=>?_,fun q1 q2 t1 t2 D1 D2 h1 h2 e1 e2 he=>?_,fun q t' D' hq' e=>?_⟩
 ·rcases cs q t' D' hq' e with⟨rfl,rfl,rfl⟩|e
  ·exact g
  ·exact h.val q t' D' hq' e
 ·rcases cs q1 t1 D1 h1 e1 with⟨rfl,rfl,rfl⟩|f1<;>rcases cs q2 t2 D2 h2 e2 with⟨r1,r2,r3⟩|f2
  ·exact⟨by rw[r2],r3.symm⟩
  ·have:=h.sq q2 t2 D2 h2 f2;omega
  ·subst r2;have:=h.sq q1 t1 D1 h1 f1;omega
  ·exact h.same q1 q2 t1 t2 D1 D2 h1 h2 f1 f2 he
 ·rcases cs q t' D' hq' e with⟨rfl,rfl,rfl⟩|e
  ·omega
  ·have:=h.sq q t' D' hq' e;omega
theorem Mt.old(h:Mt P k L m)(hn:nf (P.pg p)){o:Nat}(ho:o<25)(e:L o≠0):L o-1≠p:=fun x=>by
 obtain⟨s,T,_⟩:=h.yes o ho e;obtain⟨t,D,e1,_⟩:=T.is;rw[x] at e1;exact hn t D e1
theorem Mt.new(h:Mt P k L m)(hs:m<=s)(hp96:p<96)(hb:k.bad (p/8)=false)(hn:nf (P.pg p))(hq:∀q,q≠p->P'.pg q=P.pg q)(hp:P'.pg p=.full t D)(g:Good t p D)(ht:t.seq=s){o:Nat}(ho:o<24)(hof:t.of=o) :
  Mt P' k (updf L o (p+1)) (s+1)/\∀a f,Shows P L a->(∀j,j<160->D j=f j)->Shows P' (updf L o (p+1)) (setA a o f):=by
 have hpv:=h.pv.new hs hq hp g ht;have hold:=fun {i:Nat} (hi:i<25) (e:L i≠0)=>h.old hn hi e;have ne:∀i,i≠o->updf L o (p+1) i=L i:=fun i hi=>if_neg hi;have eq:updf L o (p+1) o=p+1:=if_pos rfl;have cs:∀q t' D',P'.pg q=.full t' D'->(q=p/\t'=t/\D'=D)\/P.pg q=.full t' D':=fun q t' D' e=>by
  by_cases hn:q=p
  ·subst hn;rw[hp] at e
   cases e
   exact .inl ⟨rfl,rfl,rfl⟩
  ·exact .inr (by rw[<-hq q hn];exact e)
 refine⟨⟨hpv,by rw[ne 24 (by omega)];exact h.pt,?_,h.told,fun i hi=>by have:=h.fl i hi;omega,fun i hi hL=>?_,fun i hi hL q t' D' hq' e hof' hb'=>?_⟩,fun a f hsh hDf i j hi hj=>?_⟩
 ·rw[ne 24 (by omega),dataAt_same (hq _ (hold (by omega) h.pt))];exact h.data
 ·by_cases hio:i=o
  ·subst hio;rw[eq,Nat.add_sub_cancel];refine⟨s,⟨hp96,hb,⟨t,D,hp,hof,ht⟩,fun q t' D' hq' e _ _=>?_⟩,?_⟩
   ·have:=hpv.sq q t' D' hq' e;omega
   ·rw[floor_lt k ho];have:=h.fl i ho;omega
  ·rw[ne i hio] at hL ⊢;obtain⟨s',T,hf⟩:=h.yes i hi hL;refine⟨s',⟨T.lt,T.bad,by rw[hq _ (hold hi hL)];exact T.is,fun q t' D' hq' e hof' hb'=>?_⟩,hf⟩;rcases cs q t' D' e with⟨rfl,rfl,rfl⟩|e
   ·omega
   ·exact T.max q t' D' hq' e hof' hb'
 ·by_cases hio:i=o
  ·subst hio;rw[eq] at hL;omega
  ·rw[ne i hio] at hL;rcases cs q t' D' e with⟨rfl,rfl,rfl⟩|e
   ·omega
   ·exact h.no i hi hL q t' D' hq' e hof' hb'
 ·unfold setA arr;by_cases hio:i=o
  ·subst hio;rw[if_pos rfl,eq,if_neg (by omega),Nat.add_sub_cancel,dataAt_full hp];exact hDf j hj
  ·rw[if_neg hio,ne i hio, <-hsh i j hi hj];unfold arr;by_cases e:L i=0
   ·rw[if_pos e,if_pos e]
   ·rw[if_neg e,if_neg e,dataAt_same (hq _ (hold (by omega) e))]
theorem Mt.point{k':Cp}{L':Nat->Nat}(h:Mt P k L m)(hs:m<=s)(hp96:p<96)(hn:nf (P.pg p))(hq:∀q,q≠p->P'.pg q=P.pg q)(hp:P'.pg p=.full t (ptN k'))(g:Good t p (ptN k'))(ht:t.seq=s)(hof:t.of=24)
  (htold:k'.told) (hnx:k'.next<=s) (hbm:∀b,b<12->k.bad b=true->k'.bad b=true) (hpb:k'.bad (p/8)=false) (hL24:L' 24=p+1)
  (hL:∀o,o<24->(L' o=L o/\k'.fl o=k.fl o/\(L o≠0->k'.bad ((L o-1)/8)=false))\/(L' o=0/\L o≠0/\∃t0 D0,P.pg (L o-1)=.full t0 D0/\k'.fl o=t0.seq)) :
  Mt P' k' L' (s+1)/\∀a a',Shows P L a->(∀o,o<24->(L' o=L o->∀j,j<160->a' o j=a o j)/\(L' o=0->L o≠0->∀j,j<160->a' o j=0))->Shows P' L' a':=by
 have hpv:=h.pv.new hs hq hp g ht;have hold:=fun {i:Nat} (hi:i<25) (e:L i≠0)=>h.old hn hi e;have cs:∀q t' D',P'.pg q=.full t' D'->(q=p/\t'=t/\D'=ptN k')\/P.pg q=.full t' D':=fun q t' D' e=>by
  by_cases hn:q=p
  ·subst hn;rw[hp] at e
   cases e
   exact .inl ⟨rfl,rfl,rfl⟩
  ·exact .inr (by rw[<-hq q hn];exact e)
 have nb:∀b,b<12->k'.bad b=false->k.bad b=false:=fun b h12 hb=>by
  cases hk:k.bad b
  ·rfl
  ·rw[hbm b h12 hk] at hb
   cases hb
 refine⟨⟨hpv,by rw[hL24];omega,by rw[hL24,Nat.add_sub_cancel,dataAt_full hp],htold,fun o ho=>?_,fun o ho hLo=>?_,fun o ho hLo q t' D' hq' e hof' hb'=>?_⟩,fun a a' hsh ha o j ho hj=>?_⟩
 ·rcases hL o ho with⟨_,e,_⟩|⟨_,e0,t0,D0,e1,e2⟩
  ·have:=h.fl o ho;omega
  ·obtain⟨s',T,_⟩:=h.yes o (by omega) e0;have:=h.pv.sq _ _ _ T.lt e1;omega
 ·by_cases h24:o=24
  ·subst h24;rw[hL24,Nat.add_sub_cancel];refine⟨s,⟨hp96,hpb,⟨t,_,hp,hof,ht⟩,fun q t' D' hq' e _ _=>?_⟩,?_⟩
   ·have:=hpv.sq q t' D' hq' e;omega
   ·rw[floor_24];have:=g.1;unfold Tg.ok at this;omega
  ·rcases hL o (by omega) with⟨e1,e2,e3⟩|⟨e1,_⟩
   ·rw[e1] at hLo ⊢;obtain⟨s',T,hf⟩:=h.yes o ho hLo;refine⟨s',⟨T.lt,e3 hLo,by rw[hq _ (hold ho hLo)];exact T.is,fun q t' D' hq' e hof' hb'=>?_⟩,?_⟩
    ·rcases cs q t' D' e with⟨rfl,rfl,rfl⟩|e
     ·omega
     ·exact T.max q t' D' hq' e hof' (hb'.imp id (nb _ (by omega)))
    ·rw[floor_lt k' (by omega),e2, <-floor_lt k (by omega)];exact hf
   ·exact absurd e1 hLo
 ·rcases hL o ho with⟨e1,e2,e3⟩|⟨e1,e0,t0,D0,e2,e3⟩
  ·rcases cs q t' D' e with⟨rfl,rfl,rfl⟩|e
   ·omega
   ·rw[e2];exact h.no o ho (by rw[<-e1];exact hLo) q t' D' hq' e hof' (nb _ (by omega) hb')
  ·rcases cs q t' D' e with⟨rfl,rfl,rfl⟩|e
   ·omega
   ·obtain⟨s',T,hf⟩:=h.yes o (by omega) e0;obtain⟨t1,D1,f1,f2,f3⟩:=T.is;rw[e2] at f1
    cases f1
    have:=T.max q t' D' hq' e hof' (.inr (nb _ (by omega) hb'));omega
 ·obtain⟨b1,b2⟩:=ha o ho;rcases hL o ho with⟨e1,e2,e3⟩|⟨e1,e0,_⟩
  ·rw[b1 e1 j hj, <-hsh o j ho hj];unfold arr;rw[e1];by_cases e:L o=0
   ·rw[if_pos e,if_pos e]
   ·rw[if_neg e,if_neg e,dataAt_same (hq _ (hold (by omega) e))]
  ·rw[b2 e1 e0 j hj];unfold arr;rw[if_pos e1]
end
def Tw(T:CS)(m:Int)(a:Nat->Nat->Nat):Prop:=∃k L,Mt T k L m/\Shows T L a
structure Wi(a:Nat->Nat->Nat)(k:Cp)(K:KS)(P:CS):Prop where
 mt:Mt P k K.at_ K.next
 sh:Shows P K.at_ a
 en:∀o,o<25->K.at_ o≠0->∃t D,P.pg (K.at_ o-1)=.full t D/\K.en o=⟨t.seq,t.copy,false⟩
 fl:∀o,o<24->k.fl o=K.fl o
 nx:1<=K.next/\K.next<=1099511627775
 con:Con K.at_ K.ow
 hb:Hl.HB K.F
 cur:K.cur<96
 st:∀b,b<12->K.st b<=3
 pn:K.pn<=12
 fb:K.fb<12
 fi:K.fi<=8
 bl:∀b i,b<12->K.st b=0->i<8->P.pg (b*8+i)=.blank
 f1:K.fo=true->K.st K.fb=1
 fr:K.fo=true->∀i,K.fi<=i->i<8->P.pg (K.fb*8+i)=.blank
 bad:∀b,b<12->k.bad b=true->K.st b=3
 live:wornB K.st=false->∀o,o<25->K.at_ o≠0->K.st ((K.at_ o-1)/8)=2\/K.fo=true/\K.fb=(K.at_ o-1)/8
section
variable{a:Nat->Nat->Nat}{k:Cp}{K K':KS}{P P':CS}
theorem Wi.page(h:Wi a k K P){o:Nat}(ho:o<25)(e:K.at_ o≠0):K.at_ o-1<96/\∃t D,P.pg (K.at_ o-1)=.full t D/\K.en o=⟨t.seq,t.copy,false⟩/\t.of=o/\t.ok/\t.place=(K.at_ o-1:Nat)/\t.lost=false/\cutD D=D/\∀j,D j<256:=by
 obtain⟨s,T,_⟩:=h.mt.yes o ho e;obtain⟨t,D,e1,e2,e3⟩:=T.is;obtain⟨t',D',e1',e4⟩:=h.en o ho e;rw[e1] at e1'
 cases e1'
 obtain⟨v1,v2,v3,v4,v5⟩:=h.mt.pv.val _ _ _ T.lt e1;exact⟨T.lt,t,D,e1,e4,e2,v1,v2,v3,v5,v4⟩
theorem Wi.lt(h:Wi a k K P){o:Nat}(ho:o<25):K.at_ o<=96:=h.mt.lt ho
theorem Wi.fge(h:Wi a k K P):∀o,o<24->0<=K.fl o/\K.fl o<=1099511627775:=fun o ho=>by
 rw[<-h.fl o ho];exact h.mt.told.fl o ho
theorem Wi.dead(h:Wi a k K P){b:Nat}(hb:∀i,i<8->P.pg (b*8+i)=.blank):∀o,o<25->K.at_ o≠0->(K.at_ o-1)/8≠b:=fun o ho e hh=>by
 obtain⟨_,t,D,e1,_⟩:=h.page ho e;have:=hb ((K.at_ o-1)%8) (Nat.mod_lt _ (by omega));rw[show b*8+(K.at_ o-1)%8=K.at_ o-1 by omega,e1] at this
 cases this
theorem Wi.same(h:Wi a k K P)(hpg:P'.pg=P.pg)(hF:Hl.HB K'.F)(hc:K'.cur<96)(e:K'={ K with F:=K'.F,cur:=K'.cur,calls:=K'.calls,qu:=K'.qu,reports:=K'.reports,moved:=K'.moved,moves:=K'.moves }):Wi a k K' P':=by
 rw[e]
 exact⟨h.mt.ext (fun q t D hq e=>.inl (by rw[<-hpg];exact e)) (fun o _ _=>by rw[hpg]),h.sh.same2 (fun o _ _=>by rw[hpg]),fun o ho e=>by
  obtain⟨t,D,e1,e2⟩:=h.en o ho e;exact⟨t,D,by rw[hpg];exact e1,e2⟩,h.fl,h.nx,h.con,hF,hc,h.st,h.pn,h.fb,h.fi,by rw[hpg];exact h.bl,h.f1,by rw[hpg];exact h.fr,h.bad,h.live⟩
structure Dest(K:KS)(P:CS)(d n:Nat):Prop where
 lt:d<12
 st:K.st d=1
 fr:K.fo=true->K.fb≠d
 bl:∀i,n<=i->i<8->P.pg (d*8+i)=.blank
 dead:∀o,o<25->K.at_ o≠0->(K.at_ o-1)/8≠d
theorem cntS_same{st st':Nat->Nat}(h:∀b,st' b=st b\/st b=1/\st' b=2):cntS st' 0=cntS st 0/\cntS st' 3=cntS st 3:=by
 have g:∀s,s=0\/s=3->cntS st' s=cntS st s:=fun s hs=>Nat.le_antisymm (cntTo_mono (fun b _ e=>by
  rcases h b with x|x
  ·rw[<-x];exact e
  ·omega)) (cntTo_mono (fun b _ e=>by
  rcases h b with x|x
  ·rw[x];exact e
  ·omega))
 exact⟨g 0 (.inl rfl),g 3 (.inr rfl)⟩
theorem wornB_le{st st':Nat->Nat}(h:∀b,b<12->st b=3->st' b=3)(hw:wornB st'=false):wornB st=false:=by
 unfold wornB at *;have:cntS st 3<=cntS st' 3:=cntTo_mono h;simp at hw ⊢;omega
theorem Wi.take(h:Wi a k K P){d:Nat}(ht:takeN K.st K.pn=some d):Wi a k { K with st:=updf K.st d 1,pn:=d+1 } P/\Dest { K with st:=updf K.st d 1,pn:=d+1 } P d 0:=by
 obtain⟨hd,h0⟩:=takeFrom_lt ht;have hbl:=fun i hi=>h.bl d i hd h0 hi;have hdead:=h.dead hbl;have ne:∀b,b≠d->updf K.st d 1 b=K.st b:=fun b hb=>if_neg hb;have eq:updf K.st d 1 d=1:=if_pos rfl;refine⟨⟨h.mt,h.sh,h.en,h.fl,h.nx,h.con,h.hb,h.cur,fun b hb=>?_,by show d+1<=12;omega,h.fb,h.fi,fun b i hb e hi=>?_,fun hf=>?_,h.fr,fun b hb e=>?_,fun hw o ho e=>?_⟩,⟨hd,eq,fun hf e=>?_,fun i _ hi=>hbl i hi,hdead⟩⟩
 ·show updf K.st d 1 b<=3;by_cases hbd:b=d
  ·rw[hbd,eq];omega
  ·rw[ne b hbd];exact h.st b hb
 ·have e:updf K.st d 1 b=0:=e;by_cases hbd:b=d
  ·rw[hbd,eq] at e;omega
  ·rw[ne b hbd] at e;exact h.bl b i hb e hi
 ·have:=h.f1 hf;show updf K.st d 1 K.fb=1;rw[ne _ (fun e=>by rw[e] at this;omega)];exact this
 ·have:=h.bad b hb e;show updf K.st d 1 b=3;rw[ne _ (fun e=>by rw[e] at this;omega)];exact this
 ·have hw':wornB K.st=false:=wornB_le (fun b hb e=>by
   show updf K.st d 1 b=3;rw[ne b (fun x=>by rw[x] at e;omega)];exact e) hw
  have:=h.live hw' o ho e;show updf K.st d 1 ((K.at_ o-1)/8)=2\/_;rw[ne _ (hdead o ho e)];exact this
 ·have:=h.f1 hf;have e:K.fb=d:=e;rw[e] at this;omega
theorem Wi.cell(h:Wi a k K P){p:Nat}(hp:p<96)(hst:K.st (p/8)=1)(hbl:P.pg p=.blank)(hfr:K.fo=true->K.fb=p/8->p%8<K.fi)(hq:∀q,q≠p->P'.pg q=P.pg q)
  (hpg:nf (P'.pg p)\/∃t D,P'.pg p=.full t D/\(t.ok/\t.place=p/\t.lost=false)/\∃o t0,o<25/\K.at_ o≠0/\P.pg (K.at_ o-1)=.full t0 D/\t0.of=t.of/\t0.seq=t.seq):Wi a k K P':=by
 have hold:∀o,o<25->K.at_ o≠0->K.at_ o-1≠p:=fun o ho e=>h.mt.old (by rw[hbl];intro t D x;cases x) ho e;refine⟨h.mt.ext (fun q t D hq' e=>?_) (fun o ho e=>hq _ (hold o ho e)),h.sh.same2 (fun o ho e=>hq _ (hold o (by omega) e)),fun o ho e=>?_,h.fl,h.nx,h.con,h.hb,h.cur,h.st,h.pn,h.fb,h.fi,fun b i hb e hi=>?_,h.f1,fun hf i h1 h2=>?_,h.bad,h.live⟩
 ·by_cases hn:q=p
  ·subst hn;rcases hpg with hpg|⟨t',D',e',g,o,t0,c⟩
   ·exact absurd e (hpg t D)
   ·rw[e'] at e
    cases e
    exact .inr ⟨g,o,t0,c⟩
  ·exact .inl (by rw[<-hq q hn];exact e)
 ·obtain⟨t,D,e1,e2⟩:=h.en o ho e;exact⟨t,D,by rw[hq _ (hold o ho e)];exact e1,e2⟩
 ·rw[hq _ (fun x=>by rw[<-x,show(b*8+i)/8=b by omega] at hst;omega)];exact h.bl b i hb e hi
 ·rw[hq _ (fun x=>by
   have:=hfr hf (by rw[<-x];omega);rw[<-x] at this;omega)]
  exact h.fr hf i h1 h2
structure ShutW(K K0:KS):Prop where
 eq:∃st fo fb fi,K0={ K with st:=st,fo:=fo,fb:=fb,fi:=fi }
 fo:K0.fo=false
 st:∀b,K0.st b=K.st b\/K.st b=1/\K0.st b=2
 front:K.fo=true->K0.st K.fb=2
 off:K.fo=false->K0=K
theorem Wi.shut(h:Wi a k K P):Wi a k (shK K) P/\ShutW K (shK K):=by
 unfold shK;by_cases hf:K.fo=true
 ·rw[if_pos hf];have h1:=h.f1 hf;have hs:setSt K.st K.fb 2=updf K.st K.fb 2:=by
   unfold setSt;rw[if_neg (fun x=>by rw[h1] at x;omega)]
  rw[hs];have ne:∀b,b≠K.fb->updf K.st K.fb 2 b=K.st b:=fun b hb=>if_neg hb;have eq:updf K.st K.fb 2 K.fb=2:=if_pos rfl;have hst:∀b,updf K.st K.fb 2 b=K.st b\/K.st b=1/\updf K.st K.fb 2 b=2:=fun b=>by
   by_cases hb:b=K.fb
   ·rw[hb];exact .inr ⟨h1,eq⟩
   ·exact .inl (ne b hb)
  refine⟨⟨h.mt,h.sh,h.en,h.fl,h.nx,h.con,h.hb,h.cur,fun b hb=>?_,h.pn,by show 0<12;omega,by show 0<=8;omega,fun b i hb e hi=>?_,fun x=>(by cases x),fun x=>(by cases x),fun b hb e=>?_,fun hw o ho e=>?_⟩,⟨⟨_,_,_,_,rfl⟩,rfl,hst,fun _=>eq,fun x=>(by rw[hf] at x;cases x)⟩⟩
  ·have:=h.st b hb;show updf K.st K.fb 2 b<=3;rcases hst b with x|x<;>omega
  ·have e:updf K.st K.fb 2 b=0:=e;refine h.bl b i hb ?_ hi;rcases hst b with x|x<;>omega
  ·have:=h.bad b hb e;show updf K.st K.fb 2 b=3;rcases hst b with x|x<;>omega
  ·have hw':wornB K.st=false:=wornB_le (fun b hb e=>by
    show updf K.st K.fb 2 b=3;rcases hst b with x|x<;>omega) hw
   show updf K.st K.fb 2 ((K.at_ o-1)/8)=2\/_;rcases h.live hw' o ho e with x|⟨_,x⟩
   ·rcases hst ((K.at_ o-1)/8) with y|y
    ·exact .inl (y.trans x)
    ·exact .inl y.2
   ·rw[<-x];exact .inl eq
 ·have hf:K.fo=false:=by simpa using hf
  rw[if_neg (by rw[hf];decide)];exact⟨h,⟨⟨_,_,_,_,rfl⟩,hf,fun b=>.inl rfl,fun x=>(by rw[hf] at x;cases x),fun _=>rfl⟩⟩
end
structure EndF(K2 K':KS)(d n:Nat):Prop where
 st:∀b,K'.st b=K2.st b\/K2.st b=1/\K'.st b=2
 std:K'.st d=2\/K'.fo=true/\K'.fb=d
 fb:K'.fb<12
 fi:K'.fi<=8
 f1:K'.fo=true->K'.st K'.fb=1
 fr:(K'.fo=true/\K'.fb=K2.fb/\K'.fi=K2.fi/\K2.fo=true/\roomB K2.fo K2.fi 0=true)\/(K'.fo=true/\K'.fb=d/\K'.fi=n/\(K2.fo=true->K'.st K2.fb=2)/\roomB K2.fo K2.fi 0=false)
theorem endK_fr{K2:KS}{d:Nat}{l:List Tg}(hd:d<12)(h1:K2.st d=1)(hf:K2.fo=true->K2.st K2.fb=1/\K2.fb≠d)(hfb:K2.fb<12)(hfi:K2.fi<=8)(hl:l.length<=8) :
  (∃st fo fb fi,endK K2 d l={ mvTo K2 l with st:=st,fo:=fo,fb:=fb,fi:=fi })/\EndF K2 (endK K2 d l) d l.length:=by
 obtain⟨A,O,E,M,e⟩:=mvTo_same K2 l;unfold endK;rw[e];simp only;by_cases hr:roomB K2.fo K2.fi 0=true
 ·rw[if_pos hr];have hfo:K2.fo=true:=by
   unfold roomB at hr;simp at hr;exact hr.1
  have hs:setSt K2.st d 2=updf K2.st d 2:=by
   unfold setSt;rw[if_neg (fun x=>by omega)]
  rw[hs];have ne:∀b,b≠d->updf K2.st d 2 b=K2.st b:=fun b hb=>if_neg hb;have eq:updf K2.st d 2 d=2:=if_pos rfl;refine⟨⟨_,_,_,_,rfl⟩,⟨fun b=>?_,.inl eq,hfb,hfi,fun _=>?_,.inl ⟨hfo,rfl,rfl,hfo,hr⟩⟩⟩
  ·by_cases hb:b=d
   ·rw[hb];exact .inr ⟨h1,eq⟩
   ·exact .inl (ne b hb)
  ·show updf K2.st d 2 K2.fb=1;rw[ne _ (hf hfo).2];exact(hf hfo).1
 ·have hr':roomB K2.fo K2.fi 0=false:=by simpa using hr
  rw[if_neg hr];unfold shK;by_cases hfo:K2.fo=true
  ·rw[if_pos (by exact hfo)];have hs:setSt K2.st K2.fb 2=updf K2.st K2.fb 2:=by
    unfold setSt;rw[if_neg (fun x=>by have:=(hf hfo).1;omega)]
   simp only[hs];have ne:∀b,b≠K2.fb->updf K2.st K2.fb 2 b=K2.st b:=fun b hb=>if_neg hb;have eq:updf K2.st K2.fb 2 K2.fb=2:=if_pos rfl;refine⟨⟨_,_,_,_,rfl⟩,⟨fun b=>?_,.inr ⟨rfl,rfl⟩,hd,hl,fun _=>?_,.inr ⟨rfl,rfl,rfl,fun _=>eq,hr'⟩⟩⟩
   ·show updf K2.st K2.fb 2 b=_\/_;by_cases hb:b=K2.fb
    ·rw[hb];exact .inr ⟨(hf hfo).1,eq⟩
    ·exact .inl (ne b hb)
   ·show updf K2.st K2.fb 2 d=1;rw[ne _ (fun x=>(hf hfo).2 x.symm)];exact h1
  ·have hfo:K2.fo=false:=by simpa using hfo
   rw[if_neg (by rw[hfo];decide)];exact⟨⟨_,_,_,_,rfl⟩,⟨fun b=>.inl rfl,.inr ⟨rfl,rfl⟩,hd,hl,fun _=>h1,.inr ⟨rfl,rfl,rfl,fun x=>(by rw[hfo] at x;cases x),hr'⟩⟩⟩
structure Cpd(K:KS)(P:CS)(v d:Nat)(os:List Nat)(l:List Tg):Prop where
 nd:os.Nodup
 o8:os.length<=8
 mem:∀o,o∈os->o<25/\K.at_ o≠0/\(K.at_ o-1)/8=v
 len:l.length=os.length
 tag:∀i,i<os.length->l.getD i Tg.zero=cpTag K d i (os.getD i 0)/\holdsB (d*8+i) (os.getD i 0)=true
 pg:∀i,i<os.length->P.pg (d*8+i)=.full (cpTag K d i (os.getD i 0)) (dataAt P (K.at_ (os.getD i 0)-1))
section
variable{a:Nat->Nat->Nat}{k:Cp}{K:KS}{P:CS}{v d:Nat}{os:List Nat}{l:List Tg}
structure Mvd(K K':KS)(d:Nat)(os:List Nat):Prop where
 con:Con K'.at_ K'.ow
 go:∀i,i<os.length->K'.at_ (os.getD i 0)=d*8+i+1/\K'.en (os.getD i 0)=⟨(K.en (os.getD i 0)).seq,((K.en (os.getD i 0)).copy+1)%256,(K.en (os.getD i 0)).lost⟩
 stay:∀o,o∉os->K'.at_ o=K.at_ o/\K'.en o=K.en o
theorem Cpd.mv(C:Cpd K P v d os l)(hc:Con K.at_ K.ow)(hd:d<12)(hdead:∀o,o<25->K.at_ o≠0->(K.at_ o-1)/8≠d){K2:KS}(e1:K2.at_=K.at_)(e2:K2.ow=K.ow)(e3:K2.en=K.en):Mvd K (mvTo K2 l) d os:=by
 have H:MvHyp K2 d os l (fun o=>⟨(K.en o).seq,((K.en o).copy+1)%256,(K.en o).lost⟩):=by
  refine⟨by rw[e1,e2];exact hc,hd,C.o8,C.nd,C.len,fun i hi=>⟨(C.mem _ ?_).1,(C.tag i hi).2⟩,by rw[e1];exact hdead,fun i hi=>?_⟩
  ·rw[getD_get hi];exact List.getElem_mem hi
  ·rw[(C.tag i hi).1];exact⟨rfl,rfl,rfl⟩
 obtain⟨h1,h2,h3⟩:=mv_all H os.length (Nat.le_refl _);rw[show l.take os.length=l by rw[<-C.len,List.take_length]] at h1 h2 h3;refine⟨h1,h2,fun o ho=>?_⟩;rw[<-e1, <-e3];refine h3 o (fun j hj e=>ho ?_);rw[<-e,getD_get hj];exact List.getElem_mem hj
theorem Cpd.all(C:Cpd K P v d os l)(h:Wi a k K P)(D:Dest K P d os.length){K':KS}(M:Mvd K K' d os):∀o,o<25->K.at_ o≠0->K'.at_ o≠0/\K'.at_ o-1<96/\(∃t t' D,P.pg (K.at_ o-1)=.full t D/\P.pg (K'.at_ o-1)=.full t' D/\t'.of=t.of/\t'.seq=t.seq/\K'.en o=⟨t'.seq,t'.copy,false⟩)/\((o∈os/\(K'.at_ o-1)/8=d)\/(o∉os/\K'.at_ o=K.at_ o)):=fun o ho e=>by
 obtain⟨hp,t,D0,a1,a2,a3,a4,a5,a6,a7,a8⟩:=h.page ho e;by_cases hm:o∈os
 ·obtain⟨i,hi,rfl⟩:=List.getElem_of_mem hm;rw[<-getD_get hi (x:=0)] at *;obtain⟨g1,g2⟩:=M.go i hi;have hpg:=C.pg i hi;have:=D.lt;have h8:=C.o8;refine⟨by omega,by omega,⟨t,cpTag K d i (os.getD i 0),D0,a1,?_,?_,?_,?_⟩,.inl ⟨hm,by omega⟩⟩
  ·rw[g1,Nat.add_sub_cancel,hpg,dataAt_full a1]
  ·exact a3.symm
  ·show(K.en (os.getD i 0)).seq=t.seq;rw[a2]
  ·rw[g2];unfold cpTag;rw[a2]
 ·obtain⟨g1,g2⟩:=M.stay o hm;rw[g1,g2];exact⟨e,hp,⟨t,t,D0,a1,a1,rfl,rfl,a2⟩,.inr ⟨hm,rfl⟩⟩
theorem Cpd.zero(C:Cpd K P v d os l){K':KS}(M:Mvd K K' d os):∀o,o<25->K.at_ o=0->K'.at_ o=0:=fun o ho e=>by
 rw[(M.stay o (fun hm=>(C.mem o hm).2.1 e)).1];exact e
theorem Cpd.tagk(C:Cpd K P v d os l){K':KS}(M:Mvd K K' d os):∀o,o<25->K.at_ o≠0->K'.at_ o≠0/\(K'.en o).seq=(K.en o).seq:=fun o ho e=>by
 by_cases hm:o∈os
 ·obtain⟨i,hi,rfl⟩:=List.getElem_of_mem hm;rw[<-getD_get hi (x:=0)] at *;obtain⟨g1,g2⟩:=M.go i hi;exact⟨by omega,by rw[g2]⟩
 ·obtain⟨g1,g2⟩:=M.stay o hm;exact⟨by rw[g1];exact e,by rw[g2]⟩
theorem Wi.notbad(h:Wi a k K P){b:Nat}(hb:b<12)(hs:K.st b≠3):k.bad b=false:=by
 cases e:k.bad b
 ·rfl
 ·exact absurd (h.bad b hb e) hs
theorem Wi.erased(h:Wi a k K P)(hv:v<12)(hv2:K.st v=2)(D:Dest K P d os.length)(C:Cpd K P v d os l)(hall:∀o,o<25->K.at_ o≠0->(K.at_ o-1)/8=v->o∈os) :
  Wi a k (endK (vc2 K v) d l) (P.wipe v)/\EndF (vc2 K v) (endK (vc2 K v) d l) d l.length/\(∃st fo fb fi A O E M,endK (vc2 K v) d l={ vc2 K v with st:=st,fo:=fo,fb:=fb,fi:=fi,at_:=A,ow:=O,en:=E,moves:=M })/\(vc2 K v).st=updf K.st v 0/\∀o,o<25->K.at_ o≠0->(endK (vc2 K v) d l).at_ o≠0/\((endK (vc2 K v) d l).en o).seq=(K.en o).seq:=by
 have hs:setSt K.st v 0=updf K.st v 0:=by
  unfold setSt;rw[if_neg (fun x=>by omega)]
 have hdv:d≠v:=fun e=>by have:=D.st;rw[e] at this;omega
 have hfv:K.fo=true->K.fb≠v:=fun hf e=>by have:=h.f1 hf;rw[e] at this;omega
 have ne:∀b,b≠v->updf K.st v 0 b=K.st b:=fun b hb=>if_neg hb;have eqv:updf K.st v 0 v=0:=if_pos rfl;have hK2:(vc2 K v).st=updf K.st v 0:=hs;have M:=C.mv h.con D.lt D.dead (K2:=vc2 K v) rfl rfl rfl;obtain⟨⟨st,fo,fb,fi,ee⟩,EF⟩:=endK_fr (K2:=vc2 K v) (l:=l) D.lt (by rw[hK2,ne d hdv];exact D.st) (fun hf=>⟨by rw[hK2];show updf K.st v 0 K.fb=1;rw[ne _ (hfv hf)];exact h.f1 hf,D.fr hf⟩) h.fb h.fi (by rw[C.len];exact C.o8);obtain⟨A,O,E,Mo,em⟩:=mvTo_same (vc2 K v) l;rw[em] at M ee;rw[ee] at EF ⊢;have hall':=C.all h D M;have hz:=C.zero M;have hnv:∀o,o<25->K.at_ o≠0->(A o-1)/8≠v:=fun o ho e=>by
  rcases(hall' o ho e).2.2.2 with⟨_,x⟩|⟨x,y⟩
  ·have x:(A o-1)/8=d:=x;omega
  ·have y:A o=K.at_ o:=y;rw[y];exact fun z=>x (hall o ho e z)
 have hback:∀o,o<25->A o≠0->K.at_ o≠0:=fun o ho hA e=>hA (hz o ho e);have hkd:k.bad d=false:=h.notbad D.lt (by rw[D.st];omega);obtain⟨mt1,sh1⟩:=h.mt.reloc (L':=A) (fun o ho e=>by
  obtain⟨x1,x2,⟨t,t',D0,y1,y2,y3,y4,_⟩,x3⟩:=hall' o ho e;refine⟨x1,x2,?_,t,t',D0,y1,y2,y3,y4⟩;rcases x3 with⟨_,z⟩|⟨_,z⟩
  ·have z:(A o-1)/8=d:=z;rw[z];exact hkd
  ·have z:A o=K.at_ o:=z;rw[z];obtain⟨s,T,_⟩:=h.mt.yes o ho e;exact T.bad) hz
 have wne:∀q,q/8≠v->(P.wipe v).pg q=P.pg q:=fun q hq=>by
  unfold CS.wipe;simp only;rw[if_neg hq]
 have weq:∀q,q/8=v->(P.wipe v).pg q=.blank:=fun q hq=>by
  unfold CS.wipe;simp only;rw[if_pos hq]
 refine⟨⟨mt1.ext (fun q t D hq e=>?_) (fun o ho e=>wne _ (hnv o ho (hback o ho e))),(sh1 a h.sh).same2 (fun o ho e=>wne _ (hnv o (by omega) (hback o (by omega) e))),fun o ho e=>?_,h.fl,h.nx,M.con,?_,h.cur,fun b hb=>?_,h.pn,EF.fb,EF.fi,fun b i hb e hi=>?_,EF.f1,fun hf i h1 h2=>?_,fun b hb e=>?_,fun hw o ho e=>?_⟩,EF,⟨_,_,_,_,_,_,_,_,rfl⟩,hK2,fun o ho e=>C.tagk M o ho e⟩
 ·by_cases hqv:q/8=v
  ·rw[weq q hqv] at e;cases e
  ·rw[wne q hqv] at e;exact .inl e
 ·obtain⟨_,_,⟨t,t',D0,y1,y2,y3,y4,y5⟩,_⟩:=hall' o ho (hback o ho e);exact⟨t',D0,by show(P.wipe v).pg (A o-1)=_;rw[wne _ (hnv o ho (hback o ho e))];exact y2,y5⟩
 ·exact h.hb.er hv
 ·have h1:=h.st b hb;have h2:=EF.st b;show st b<=3;have h3:updf K.st v 0 b<=3:=by
   by_cases hbv:b=v
   ·rw[hbv,eqv];omega
   ·rw[ne b hbv];exact h1
  rw[hK2] at h2;rcases h2 with x|x
  ·have x:st b=updf K.st v 0 b:=x;omega
  ·have x:st b=2:=x.2;omega
 ·have e:st b=0:=e;by_cases hbv:b=v
  ·exact weq _ (by omega)
  ·rw[wne _ (by omega)];refine h.bl b i hb ?_ hi;have h2:=EF.st b;rw[hK2,ne b hbv] at h2;rcases h2 with x|x
   ·have x:st b=K.st b:=x;omega
   ·have x:st b=2:=x.2;omega
 ·have hf:fo=true:=hf;rcases EF.fr with⟨_,f2,f3,f4,_⟩|⟨_,f2,f3,_⟩
  ·have f2:fb=K.fb:=f2;have f3:fi=K.fi:=f3;have f4:K.fo=true:=f4;show(P.wipe v).pg (fb*8+i)=_;rw[f2,wne _ (by have:=hfv f4;omega)];exact h.fr f4 i (by have h1:fi<=i:=h1;omega) h2
  ·have f2:fb=d:=f2;have f3:fi=l.length:=f3;show(P.wipe v).pg (fb*8+i)=_;rw[f2,wne _ (by omega)];exact D.bl i (by have h1:fi<=i:=h1;rw[<-C.len];omega) h2
 ·have h1:=h.bad b hb e;have h2:=EF.st b;rw[hK2,ne b (fun x=>by rw[x] at h1;omega)] at h2;rcases h2 with x|x
  ·exact x.trans h1
  ·omega
 ·have hw':wornB K.st=false:=wornB_le (fun b hb e=>by
   have h2:=EF.st b;rw[hK2,ne b (fun x=>by rw[x] at e;omega)] at h2;rcases h2 with x|x
   ·exact x.trans e
   ·omega) hw
  have hA:=hback o ho e;rcases(hall' o ho hA).2.2.2 with⟨_,x⟩|⟨x,y⟩
  ·have x:(A o-1)/8=d:=x;show st ((A o-1)/8)=2\/fo=true/\fb=(A o-1)/8;rw[x];rcases EF.std with z|⟨z1,z2⟩
   ·exact .inl z
   ·exact .inr ⟨z1,z2⟩
  ·have y:A o=K.at_ o:=y;have hbv:(K.at_ o-1)/8≠v:=fun z=>x (hall o ho hA z);show st ((A o-1)/8)=2\/fo=true/\fb=(A o-1)/8;rw[y];have h2:=EF.st ((K.at_ o-1)/8);rw[hK2,ne _ hbv] at h2;have h2:st ((K.at_ o-1)/8)=K.st ((K.at_ o-1)/8)\/K.st ((K.at_ o-1)/8)=1/\st ((K.at_ o-1)/8)=2:=h2;rcases h.live hw' o ho hA with z|⟨z1,z2⟩
   ·exact .inl (by omega)
   ·rcases EF.fr with⟨f1,f2,f3,f4,_⟩|⟨f1,f2,f3,f4,_⟩
    ·have f1:fo=true:=f1;have f2:fb=K.fb:=f2;exact .inr ⟨f1,by rw[f2];exact z2⟩
    ·have f4:st K.fb=2:=f4 z1;exact .inl (by rw[<-z2];exact f4)
end
theorem Con.again{at_ ow:Nat->Nat}(h:Con at_ ow){o p:Nat}(ho:o<25)(hp:p<96)(e:at_ o=p+1)(hh:holdsB p o=true):(setAt at_ ow o p).1=at_/\(setAt at_ ow o p).2=ow:=by
 have h1:=(h.a o ho (by omega)).2;rw[e,Nat.add_sub_cancel] at h1;have es:setAt at_ ow o p=(updf at_ o (p+1),updf (if at_ o≠0 then updf ow (at_ o-1) 0 else ow) p (o+1)):=by
  unfold setAt;rw[hh,if_neg (by decide),if_neg (fun x=>x.2 h1)]
 rw[es];constructor
 ·funext i;unfold updf;simp only;by_cases hi:i=o
  ·rw[if_pos hi,hi,e]
  ·rw[if_neg hi]
 ·funext i;show updf (if at_ o≠0 then updf ow (at_ o-1) 0 else ow) p (o+1) i=ow i;rw[if_pos (show at_ o≠0 by omega),e,Nat.add_sub_cancel];unfold updf;by_cases hi:i=p
  ·rw[if_pos hi,hi,h1]
  ·rw[if_neg hi,if_neg hi]
section
variable{a:Nat->Nat->Nat}{k:Cp}{K:KS}{P P':CS}{v d:Nat}{os:List Nat}{l:List Tg}
theorem stW_told(h:Wi a k K P){s:Int}(hs:0<=s/\s<=1099511627775)(also:Int):(stC (sqK K) s also).told :=
 ⟨hs,by have:=h.cur;show(0:Int)<=(K.cur:Nat)/\((K.cur:Nat):Int)<=95;omega,h.fge,fun j hj=>(h.hb j hj).1,fun j hj=>(h.hb j hj).2.1⟩
def syTag(K:KS)(p:Nat):Tg:=⟨(p:Int),24,K.next,0,false⟩
theorem syTag_ok{K:KS}{p:Nat}(hp:p<96)(hn:1<=K.next/\K.next<1099511627775):(syTag K p).ok:=by
 unfold Tg.ok syTag;simp only;exact⟨by omega,by omega,by omega,by omega,by omega,by omega,by omega,by omega,fun _=>trivial,fun h=>absurd rfl h⟩
def syK(K:KS)(F:Nat->Int)(v d n:Nat)(l:List Tg):KS:=anK (endK { K with next:=K.next+1,F:=F,st:=setSt K.st v 3 } d (l++[syTag K (d*8+n)])) (syTag K (d*8+n)) 24 (d*8+n)
theorem Wi.said(h:Wi a k K P)(hw:wornB K.st=false)(hv:v<12)(hv2:K.st v=2)(D:Dest K P d os.length)(C:Cpd K P v d os l)(h7:os.length<=7)(hall:∀o,o<24->K.at_ o≠0->(K.at_ o-1)/8=v->o∈os)(hn:K.next<1099511627775)
  {F:Nat->Int} (hF:Hl.HB F) (hq:∀q,q≠d*8+os.length->P'.pg q=P.pg q) (hp:P'.pg (d*8+os.length)=.full (syTag K (d*8+os.length)) (ptN (stC (sqK K) K.next v))) :
  Wi a (stC (sqK K) K.next v) (syK K F v d os.length l) P'/\EndF { K with st:=updf K.st v 3 } (syK K F v d os.length l) d (os.length+1) /\
   (∃st fo fb fi A O E M G,syK K F v d os.length l={ K with st:=st,fo:=fo,fb:=fb,fi:=fi,at_:=A,ow:=O,en:=E,moves:=M,F:=G,calls:=0,next:=K.next+1 }) /\
   MapWf (endK { K with next:=K.next+1,F:=F,st:=setSt K.st v 3 } d (l++[syTag K (d*8+os.length)])).at_ (endK { K with next:=K.next+1,F:=F,st:=setSt K.st v 3 } d (l++[syTag K (d*8+os.length)])).ow/\∀o,o<24->K.at_ o≠0->(syK K F v d os.length l).at_ o≠0/\((syK K F v d os.length l).en o).seq=(K.en o).seq:=by
 have hd:=D.lt;have hp96:d*8+os.length<96:=by omega
 have hdv:d≠v:=fun e=>by have:=D.st;rw[e] at this;omega
 have hfv:K.fo=true->K.fb≠v:=fun hf e=>by have:=h.f1 hf;rw[e] at this;omega
 have hs:setSt K.st v 3=updf K.st v 3:=by
  unfold setSt;rw[if_neg (fun x=>x.2 rfl)]
 have ne:∀b,b≠v->updf K.st v 3 b=K.st b:=fun b hb=>if_neg hb;have eqv:updf K.st v 3 v=3:=if_pos rfl;unfold syK;rw[hs];have M:=C.mv h.con D.lt D.dead (K2:={ K with next:=K.next+1,F:=F,st:=updf K.st v 3 }) rfl rfl rfl;obtain⟨⟨st,fo,fb,fi,ee⟩,EF⟩:=endK_fr (K2:={ K with next:=K.next+1,F:=F,st:=updf K.st v 3 }) (l:=l++[syTag K (d*8+os.length)]) D.lt (by show updf K.st v 3 d=1;rw[ne d hdv];exact D.st) (fun hf=>⟨by show updf K.st v 3 K.fb=1;rw[ne _ (hfv hf)];exact h.f1 hf,D.fr hf⟩) h.fb h.fi (by rw[List.length_append,C.len,List.length_singleton];omega);rw[mvTo_snoc] at ee;obtain⟨A,O,E,Mo,em⟩:=mvTo_same { K with next:=K.next+1,F:=F,st:=updf K.st v 3 } l;rw[em] at M ee;have hall':=C.all h D M;have hz:=C.zero M;have hold:∀o,o<25->A o≠d*8+os.length+1:=fun o ho e=>by
  have hK:K.at_ o≠0:=fun x=>by have:A o=0:=hz o ho x;omega
  by_cases hm:o∈os
  ·obtain⟨i,hi,rfl⟩:=List.getElem_of_mem hm;rw[<-getD_get hi (x:=0)] at e;have:A (os.getD i 0)=d*8+i+1:=(M.go i hi).1;omega
  ·have:A o=K.at_ o:=(M.stay o hm).1;exact D.dead o ho hK (by rw[<-this,e];omega)
 have how:O (d*8+os.length)=0:=by
  by_cases hx:O (d*8+os.length)=0
  ·exact hx
  ·obtain⟨y1,y2⟩:=M.con.o _ hp96 hx;exact absurd y2 (hold _ (by omega))
 have hh24:holdsB (d*8+os.length) 24=true:=by unfold holdsB;rfl
 have hcon:Con A O:=M.con;obtain⟨c1,c2⟩:=hcon.set (o:=24) (by omega) hp96 how hh24;have e3:mvK { K with next:=K.next+1,F:=F,st:=updf K.st v 3,at_:=A,ow:=O,en:=E,moves:=Mo } (syTag K (d*8+os.length))={ K with next:=K.next+1,F:=F,st:=updf K.st v 3,at_:=updf A 24 (d*8+os.length+1),ow:=(setAt A O 24 (d*8+os.length)).2,en:=updf E 24 ⟨K.next,0,false⟩,moves:=w64 (Mo+1) }:=by
  unfold mvK stK;simp only;rw[show(syTag K (d*8+os.length)).of.toNat=24 from rfl,show(syTag K (d*8+os.length)).place.toNat=d*8+os.length from Int.toNat_natCast _,c2];rfl
 rw[e3] at ee;rw[ee] at EF ⊢;rw[c2] at c1;generalize (setAt A O 24 (d*8+os.length)).2=O3 at *;obtain⟨g1,g2⟩:=c1.again (o:=24) (p:=d*8+os.length) (by omega) hp96 (if_pos rfl) hh24;have e4:anK ({ K with next:=K.next+1,F:=F,st:=st,fo:=fo,fb:=fb,fi:=fi,at_:=updf A 24 (d*8+os.length+1),ow:=O3,en:=updf E 24 ⟨K.next,0,false⟩,moves:=w64 (Mo+1) }:KS) (syTag K (d*8+os.length)) 24 (d*8+os.length)={ K with next:=K.next+1,F:=Hl.ntF F,calls:=0,st:=st,fo:=fo,fb:=fb,fi:=fi,at_:=updf A 24 (d*8+os.length+1),ow:=O3,en:=updf (updf E 24 ⟨K.next,0,false⟩) 24 ⟨K.next,0,false⟩,moves:=w64 (Mo+1) }:=by
  unfold anK stK;rw[if_pos rfl];simp only;rw[g1,g2];rfl
 have e4':updf (updf E 24 ⟨K.next,0,false⟩) 24 ⟨K.next,0,false⟩=updf E 24 (⟨K.next,0,false⟩:En):=by
  funext i;unfold updf;split<;>rfl
 rw[e4'] at e4;have e5:∀x:KS,x={ K with next:=K.next+1,F:=F,st:=st,fo:=fo,fb:=fb,fi:=fi,at_:=updf A 24 (d*8+os.length+1),ow:=O3,en:=updf E 24 ⟨K.next,0,false⟩,moves:=w64 (Mo+1) }->anK x (syTag K (d*8+os.length)) 24 (d*8+os.length)={ K with next:=K.next+1,F:=Hl.ntF F,calls:=0,st:=st,fo:=fo,fb:=fb,fi:=fi,at_:=updf A 24 (d*8+os.length+1),ow:=O3,en:=updf E 24 ⟨K.next,0,false⟩,moves:=w64 (Mo+1) }:=fun x hx=>by rw[hx];exact e4
 rw[e5 _ rfl];have hnv:∀o,o<24->K.at_ o≠0->(A o-1)/8≠v:=fun o ho e=>by
  rcases(hall' o (by omega) e).2.2.2 with⟨_,x⟩|⟨x,y⟩
  ·have x:(A o-1)/8=d:=x;omega
  ·have y:A o=K.at_ o:=y;rw[y];exact fun z=>x (hall o ho e z)
 have hback:∀o,o<25->A o≠0->K.at_ o≠0:=fun o ho hA e=>hA (hz o ho e);have hkd:k.bad d=false:=h.notbad D.lt (by rw[D.st];omega);obtain⟨mt1,sh1⟩:=h.mt.reloc (L':=A) (fun o ho e=>by
  obtain⟨x1,x2,⟨t,t',D0,y1,y2,y3,y4,_⟩,x3⟩:=hall' o ho e;refine⟨x1,x2,?_,t,t',D0,y1,y2,y3,y4⟩;rcases x3 with⟨_,z⟩|⟨_,z⟩
  ·have z:(A o-1)/8=d:=z;rw[z];exact hkd
  ·have z:A o=K.at_ o:=z;rw[z];obtain⟨s,T,_⟩:=h.mt.yes o ho e;exact T.bad) hz
 have hblk:P.pg (d*8+os.length)=.blank:=D.bl _ (Nat.le_refl _) (by omega);have hnf:nf (P.pg (d*8+os.length)):=by rw[hblk];intro t D x;cases x
 have kbad:∀b,(stC (sqK K) K.next v).bad b=(decide (K.st b=3)||decide ((b:Int)=(v:Nat))):=fun b=>rfl;have hlive:=h.live hw;have knb:∀b,b≠v->K.st b≠3->(stC (sqK K) K.next v).bad b=false:=fun b hb h3=>by
  rw[kbad];simp;exact⟨h3,by omega⟩
 have hblk3:∀o,o<25->K.at_ o≠0->K.st ((K.at_ o-1)/8)≠3:=fun o ho e x=>by
  rcases hlive o ho e with y|⟨y1,y2⟩
  ·omega
  ·have:=h.f1 y1;rw[y2] at this;omega
 have hq2:∀q,q≠d*8+os.length->P'.pg q=P.pg q:=hq;obtain⟨mt2,sh2⟩:=mt1.point (p:=d*8+os.length) (s:=K.next) (k':=stC (sqK K) K.next v) (L':=updf A 24 (d*8+os.length+1)) (Int.le_refl _) hp96 hnf hq hp
  ⟨syTag_ok hp96 ⟨h.nx.1,hn⟩,rfl,rfl,ptN_lt _,ptN_cut _⟩ rfl rfl (stW_told h (by have:=h.nx;omega) _) (Int.le_refl _) (fun b hb e=>by rw[kbad,h.bad b hb e];rfl)
  (knb _ (by rw[show(d*8+os.length)/8=d by omega];exact hdv) (by rw[show(d*8+os.length)/8=d by omega,D.st];omega)) (if_pos rfl)
  (fun o ho=>.inl ⟨if_neg (by omega),(h.fl o ho).symm,fun e=>by
   have hA:=hback o (by omega) e;refine knb _ (hnv o ho hA) ?_;rcases(hall' o (by omega) hA).2.2.2 with⟨_,x⟩|⟨x,y⟩
   ·have x:(A o-1)/8=d:=x;rw[x,D.st];omega
   ·have y:A o=K.at_ o:=y;rw[y];exact hblk3 o (by omega) hA⟩)
 have hoA:∀o,o<25->A o≠0->A o-1≠d*8+os.length:=fun o ho e x=>hold o ho (by omega);have hst3:∀b,st b=updf K.st v 3 b\/updf K.st v 3 b=1/\st b=2:=EF.st;refine⟨⟨mt2,sh2 a a (sh1 a h.sh) (fun o ho=>⟨fun _ j hj=>rfl,fun x y j hj=>?_⟩),fun o ho e=>?_,fun _ _=>rfl,by have:=h.nx;show 1<=K.next+1/\K.next+1<=_;omega,c1,hF.nt,h.cur,fun b hb=>?_,h.pn,EF.fb,EF.fi,fun b i hb e hi=>?_,EF.f1,fun hf i h1 h2=>?_,fun b hb e=>?_,fun hwn o ho e=>?_⟩,⟨hst3,EF.std,EF.fb,EF.fi,EF.f1,?_⟩,⟨_,_,_,_,_,_,_,_,_,rfl⟩,c1.mw,fun o ho e=>?_⟩
 ·have x:updf A 24 (d*8+os.length+1) o=0:=x;unfold updf at x;rw[if_neg (by omega)] at x;exact absurd x y
 ·have e:updf A 24 (d*8+os.length+1) o≠0:=e;show ∃t D,P'.pg (updf A 24 (d*8+os.length+1) o-1)=.full t D/\updf E 24 ⟨K.next,0,false⟩ o=_;unfold updf at e ⊢;by_cases h24:o=24
  ·rw[if_pos h24,if_pos h24,Nat.add_sub_cancel];exact⟨_,_,hp,rfl⟩
  ·rw[if_neg h24] at e ⊢;rw[if_neg h24];obtain⟨_,_,⟨t,t',D0,y1,y2,y3,y4,y5⟩,_⟩:=hall' o ho (hback o ho e);exact⟨t',D0,by rw[hq _ (hoA o ho e)];exact y2,y5⟩
 ·have h1:=h.st b hb;show st b<=3;have h3:updf K.st v 3 b<=3:=by
   by_cases hbv:b=v
   ·rw[hbv,eqv];omega
   ·rw[ne b hbv];exact h1
  rcases hst3 b with x|x<;>omega
 ·have e:st b=0:=e;have hbv:b≠v:=fun x=>by
   subst x;rcases hst3 b with y|y<;>omega
  have hb0:K.st b=0:=by
   rcases hst3 b with x|x
   ·rw[ne b hbv] at x;omega
   ·omega
  have hbd:b≠d:=fun x=>by rw[x,D.st] at hb0;omega
  rw[hq _ (by omega)];exact h.bl b i hb hb0 hi
 ·have hf:fo=true:=hf;rcases EF.fr with⟨_,f2,f3,f4,_⟩|⟨_,f2,f3,_⟩
  ·have f2:fb=K.fb:=f2;have f3:fi=K.fi:=f3;have f4:K.fo=true:=f4;show P'.pg (fb*8+i)=_;rw[f2,hq _ (by have:=D.fr f4;omega)];exact h.fr f4 i (by have h1:fi<=i:=h1;omega) h2
  ·have f2:fb=d:=f2;have f3:fi=(l++[syTag K (d*8+os.length)]).length:=f3;rw[List.length_append,C.len,List.length_singleton] at f3;have h1:fi<=i:=h1;show P'.pg (fb*8+i)=_;rw[f2,hq _ (by omega)];exact D.bl i (by omega) h2
 ·have e:(decide (K.st b=3)||decide ((b:Int)=(v:Nat)))=true:=e;show st b=3;simp at e;rcases e with e|e
  ·have hbv:b≠v:=fun x=>by rw[x] at e;omega
   rcases hst3 b with x|x
   ·rw[ne b hbv] at x;omega
   ·rw[ne b hbv] at x;omega
  ·have hbv:b=v:=by omega
   rw[hbv];rcases hst3 v with x|x
   ·omega
   ·omega
 ·have e:updf A 24 (d*8+os.length+1) o≠0:=e;show st ((updf A 24 (d*8+os.length+1) o-1)/8)=2\/fo=true/\fb=(updf A 24 (d*8+os.length+1) o-1)/8;have hstd:st d=2\/fo=true/\fb=d:=EF.std;unfold updf at e ⊢;by_cases h24:o=24
  ·rw[if_pos h24,Nat.add_sub_cancel,show(d*8+os.length)/8=d by omega];exact hstd
  ·rw[if_neg h24] at e ⊢;have hA:=hback o ho e;rcases(hall' o ho hA).2.2.2 with⟨_,x⟩|⟨x,y⟩
   ·have x:(A o-1)/8=d:=x;rw[x];exact hstd
   ·have y:A o=K.at_ o:=y;have hbv:(K.at_ o-1)/8≠v:=fun z=>x (hall o (by omega) hA z);rw[y];have h2:=hst3 ((K.at_ o-1)/8);rw[ne _ hbv] at h2;rcases hlive o ho hA with z|⟨z1,z2⟩
    ·exact .inl (by omega)
    ·rcases EF.fr with⟨f1,f2,f3,f4,_⟩|⟨f1,f2,f3,f4,_⟩
     ·have f1:fo=true:=f1;have f2:fb=K.fb:=f2;exact .inr ⟨f1,by rw[f2];exact z2⟩
     ·have f4:st K.fb=2:=f4 z1;exact .inl (by rw[<-z2];exact f4)
 ·have fr:=EF.fr;rw[List.length_append,C.len,List.length_singleton] at fr;exact fr
 ·have:=C.tagk M o (by omega) e;show updf A 24 (d*8+os.length+1) o≠0/\(updf E 24 ⟨K.next,0,false⟩ o).seq=(K.en o).seq;unfold updf;rw[if_neg (by omega),if_neg (by omega)];exact this
end
section
variable{P:CS}{p:Nat}{t:Tg}{D:Nat->Nat}
theorem Lk.hit(P:CS)(p B:Nat):Lk P (P.hit B) p/\(P.hit B).pg=P.pg:=by
 unfold CS.hit;by_cases h:0<P.before B
 ·rw[if_pos h];refine⟨⟨fun _ _=>rfl,fun b hb=>?_⟩,rfl⟩;by_cases e:b=B
  ·rw[e];exact .inr (.inl h)
  ·unfold CS.may updf at hb;simp only[if_neg e] at hb;exact hb
 ·rw[if_neg h];exact⟨Lk.refl P p,rfl⟩
theorem Lk.setPg(P:CS)(p:Nat)(x:Pg):Lk P (P.setPg p x) p:=⟨fun q hq=>CS.setPg_ne P x hq,fun _ h=>h⟩
theorem hit_may{P:CS}{B:Nat}(h:(P.hit B).failed B=true):P.may B:=by
 unfold CS.hit at h;by_cases e:0<P.before B
 ·exact .inr (.inl e)
 ·rw[if_neg e] at h;exact .inl h
theorem progTo_w(hb:P.pg p=.blank):∀n,n<=4->Lk P (P.progTo p t D n).1 p/\((P.progTo p t D n).2=0/\(P.progTo p t D n).1.pg p=(if n=0 then .blank else if n=4 then .full t (cutD D) else .torn n)\/(P.progTo p t D n).2=8/\nf ((P.progTo p t D n).1.pg p)/\P.may (p/8)/\(P.progTo p t D n).1.may (p/8))/\∀Q,Q∈P.progTr p t D n->Lk P Q p/\nf (Q.pg p)
 |0,_=>⟨Lk.refl P p,.inl ⟨rfl,hb⟩,fun Q h=>by cases h⟩
 | n+1,hn=>by
  obtain⟨h1,h2,h3⟩:=progTo_w hb n (by omega);rcases h2 with⟨e,h2⟩|⟨e,h2,hm⟩
  case inr =>
   have e1:P.progTo p t D (n+1)=P.progTo p t D n:=if_neg (by rw[e];decide);have e2:P.progTr p t D (n+1)=P.progTr p t D n:=if_neg (by rw[e];decide);rw[e1,e2];exact⟨h1,.inr ⟨e,h2,hm⟩,h3⟩
  have e1:P.progTo p t D (n+1)=(P.progTo p t D n).1.wr p n t D:=if_pos e;have e2:P.progTr p t D (n+1)=P.progTr p t D n++[(P.progTo p t D n).1]:=if_pos e;rw[e1,e2];have hnf:nf ((P.progTo p t D n).1.pg p):=by
   rw[h2];intro t D x;by_cases n0:n=0
   ·rw[if_pos n0] at x;cases x
   ·rw[if_neg n0,if_neg (by omega)] at x;cases x
  obtain⟨k1,k2⟩:=Lk.hit (P.progTo p t D n).1 p (p/8);have htr:∀Q,Q∈P.progTr p t D n++[(P.progTo p t D n).1]->Lk P Q p/\nf (Q.pg p):=fun Q hQ=>by
   rcases List.mem_append.1 hQ with hQ|hQ
   ·exact h3 Q hQ
   ·rw[List.mem_singleton.1 hQ];exact⟨h1,hnf⟩
  unfold CS.wr;by_cases hf:((P.progTo p t D n).1.hit (p/8)).failed (p/8)=true
  ·rw[if_pos hf];exact⟨h1.trans k1,.inr ⟨rfl,by rw[k2];exact hnf,h1.may _ (hit_may hf),.inl hf⟩,htr⟩
  ·rw[if_neg hf];refine⟨(h1.trans k1).trans (Lk.setPg _ _ _),.inl ⟨rfl,?_⟩,htr⟩;rw[CS.setPg_same];by_cases h3:n=3
   ·subst h3;rfl
   ·rw[if_neg h3,if_neg (show ¬n+1=0 by omega),if_neg (show ¬n+1=4 by omega)]
theorem pgm_w(hb:P.pg p=.blank):Lk P (P.pgm p t D).1 p/\((P.pgm p t D).2.1=0/\(P.pgm p t D).1.pg p=.full t (cutD D)\/(P.pgm p t D).2.1=8/\nf ((P.pgm p t D).1.pg p)/\P.may (p/8)/\(P.pgm p t D).1.may (p/8))/\∀Q,Q∈(P.pgm p t D).2.2->Lk P Q p/\nf (Q.pg p):=by
 obtain⟨h1,h2,h3⟩:=progTo_w (P:=P) (p:=p) (t:=t) (D:=D) hb 4 (by omega);have e:P.prog p t D=((P.progTo p t D 4).1,(P.progTo p t D 4).2,P.progTr p t D 4):=by
  unfold CS.prog;rw[hb]
 unfold CS.pgm;rw[e];dsimp only;rcases h2 with⟨e,h2⟩|⟨e,h2,hm⟩
 ·rw[if_pos e];exact⟨⟨h1.pg,h1.may⟩,.inl ⟨rfl,h2⟩,h3⟩
 ·rw[if_neg (show ¬(P.progTo p t D 4).2=0 by rw[e];decide)];exact⟨h1,.inr ⟨e,h2,hm⟩,h3⟩
theorem erase_w(P:CS)(B:Nat):((P.erase B).2=0/\(P.erase B).1=P.wipe B/\(∀b,(P.wipe B).may b->P.may b))\/((P.erase B).2=8/\(P.erase B).1.pg=P.pg/\P.may B/\∀b,(P.erase B).1.may b->P.may b):=by
 unfold CS.erase;by_cases h:(P.failed B||P.atErase B)=true
 ·rw[if_pos h];have hm:P.may B:=by
   rcases Bool.or_eq_true_iff.1 h with h|h
   ·exact .inl h
   ·exact .inr (.inr h)
  refine .inr ⟨rfl,rfl,hm,fun b hb=>?_⟩;by_cases e:b=B
  ·rw[e];exact hm
  ·unfold CS.may updf at hb;simp only[if_neg e] at hb;exact hb
 ·rw[if_neg h];refine .inl ⟨rfl,rfl,fun b hb=>?_⟩;by_cases e:b=B
  ·unfold CS.may CS.wipe updf at hb;simp only[if_pos e] at hb;rcases hb with hb|hb
   ·cases hb
   ·exact .inr hb
  ·unfold CS.may CS.wipe updf at hb;simp only[if_neg e] at hb;exact hb
end
section
variable{w w':World}{N:Cr}{K:KS}{X:Option Addr}{c:Nat}{P:CS}{b:Option Nat}{n:Int}
def Fin(N:Cr)(X:Option Addr)(c:Nat)(b:Option Nat)(w w':World)(ok:KS->CS->Prop)(dead:CS->Prop):Prop :=
 Keep N.all w w'/\((∃K' P' b' n',(b=none->b'=none)/\On w' N K' P' b' n' X c/\ok K' P')\/(b≠none/\∃Q n',MedX w' N.N Q n'/\dead Q))
theorem Runs.two{b:Option Nat}{tr:List CS}{ok:Option Nat->Prop}{dead:CS->Prop}(h:Runs b tr ok dead):(∃b',(b=none->b'=none)/\ok b')\/(b≠none/\∃Q,Q∈tr/\dead Q):=by
 rcases h with⟨_,h⟩|⟨x,hx,e,h⟩
 ·exact .inl ⟨_,fun e=>by rw[e];rfl,h⟩
 ·exact .inr ⟨by rw[e];simp,_,List.getElem_mem hx,h⟩
theorem cpg_ok(h:On w N K P b n X c)(B:Hl.HB K.F){p d:Nat}{A:Option Addr}{D:Nat->Nat}{t:Tg}(hp:p<96)(hD:∀j,D j<256)(hl:Ly w 5 1 A 174 d (fun j=>.int .u8 (D j:Nat)))(ht:t.ok)(hta:t.place=p)(hb:P.pg p=.blank) :
  Spec Tryz.prog 109 #[.pointer (some ⟨N.k,0,none⟩),.agg t.arr,.slice A 174 d] w fun v w' =>
   Fin N X c b w w' (fun K' P'=>Lk P P' p/\(v=errOf 0/\K'=rdK K p/\P'.pg p=.full t (cutD D)\/v=errOf 8/\K'=K/\nf (P'.pg p)/\P.may (p/8)/\P'.may (p/8))) (fun Q=>v=errOf 7/\Lk P Q p/\nf (Q.pg p)):=by
 obtain⟨g1,g2,g3⟩:=pgm_w (P:=P) (p:=p) (t:=t) (D:=D) hb;refine Spec.mono (cprogram_ok h B hp hD hl ht hta) ?_;rintro v w' ⟨k,hr⟩;refine⟨k,?_⟩;rcases hr.two with⟨b',hb',hv,n',h'⟩|⟨hb',Q,hQ,hv,n',h'⟩
 ·refine .inl ⟨_,_,b',n',hb',h',g1,?_⟩;rcases g2 with⟨e,g⟩|⟨e,g,hm⟩
  ·rw[e] at hv ⊢;exact .inl ⟨hv,rfl,g⟩
  ·rw[e] at hv ⊢;exact .inr ⟨hv,rfl,g,hm⟩
 ·exact .inr ⟨hb',Q,n',h',hv,g3 Q hQ⟩
def cpO(bad:Bool)(L:List Nat):List Nat:=L.filter fun o => !(bad&&decide (o=24))
theorem cpO_snoc(bad:Bool)(L:List Nat)(o:Nat):cpO bad (L++[o])=if bad=true/\o=24 then cpO bad L else cpO bad L++[o]:=by
 unfold cpO;rw[List.filter_append];by_cases h:bad=true/\o=24
 ·rw[if_pos h,h.1,h.2];simp
 ·rw[if_neg h];congr 1;have:(!(bad&&decide (o=24)))=true:=by
   cases bad
   ·rfl
   ·have:o≠24:=fun e=>h ⟨rfl,e⟩;simp[this]
  simp[List.filter,this]
theorem cpO_mem{bad:Bool}{L:List Nat}{o:Nat}(h:o∈cpO bad L):o∈L:=(List.mem_filter.1 h).1
theorem cpO_le(bad:Bool)(L:List Nat):(cpO bad L).length<=L.length:=List.length_filter_le _ _
theorem cpO_in{bad:Bool}{L:List Nat}{o:Nat}(h:o∈L)(hb:bad=false\/o≠24):o∈cpO bad L:=List.mem_filter.2 ⟨h,by
 rcases hb with e|e
 ·simp[e]
 ·simp[e]⟩
def tgL(K:KS)(d:Nat)(os:List Nat):List Tg:=(List.range os.length).map fun i=>cpTag K d i (os.getD i 0)
theorem tgL_len(K:KS)(d:Nat)(os:List Nat):(tgL K d os).length=os.length:=by simp[tgL]
theorem tgL_snoc(K:KS)(d:Nat)(os:List Nat)(o:Nat):tgL K d (os++[o])=tgL K d os++[cpTag K d os.length o]:=by
 unfold tgL;rw[List.length_append,List.length_singleton,List.range_succ,List.map_append];congr 1
 ·refine List.map_congr_left (fun i hi=>?_);rw[getD_snoc (List.mem_range.1 hi)]
 ·simp only[List.map_cons,List.map_nil,getD_last]
theorem tgL_get(K:KS)(d:Nat)(os:List Nat){i:Nat}(hi:i<os.length):(tgL K d os).getD i Tg.zero=cpTag K d i (os.getD i 0):=by
 unfold tgL;simp[List.getD,hi]
structure CpG(K:KS)(P:CS)(v d:Nat)(bad:Bool):Prop where
 hb:Hl.HB K.F
 at96:∀o,o<25->K.at_ o<=96
 ow25:∀p,p<96->K.ow p<=25
 hv:v<12
 hd:d<12
 live:∀o,o∈ofL K.ow v->o<=24/\K.at_ o≠0/\(0<=(K.en o).copy/\(K.en o).copy<=255)/\(K.at_ o-1)/8≠d/\∃t D,P.pg (K.at_ o-1)=.full t D/\t.of=o/\t.seq=(K.en o).seq
 blank:∀i,i<8->P.pg (d*8+i)=.blank
 ok:∀i,i<(cpO bad (ofL K.ow v)).length->(cpTag K d i ((cpO bad (ofL K.ow v)).getD i 0)).ok
def Part(K:KS)(P:CS)(d:Nat)(os:List Nat)(Q:CS):Prop:=∃j,j<os.length/\(∀q,q≠d*8+j->Q.pg q=cpPg K P d (os.take j) q)/\nf (Q.pg (d*8+j))
theorem cpO_pre(bad:Bool)(L:List Nat)(i:Nat):cpO bad (L.take i)=(cpO bad L).take (cpO bad (L.take i)).length:=by
 have e:cpO bad L=cpO bad (L.take i)++cpO bad (L.drop i):=by
  unfold cpO;rw[<-List.filter_append,List.take_append_drop]
 rw[e,List.take_left]
theorem ccps_ok(h:On w N K P b n X c){v d:Nat}{bad:Bool}(H:CpG K P v d bad) :
  Spec Tryz.prog 148 #[.pointer (some ⟨N.k,0,none⟩),.int .i64 v,.int .i64 d,.bool bad] w fun u w' =>
   Fin N X c b w w' (fun K' P'=>sameK K K'/\Hl.HB K'.F/\(∀B,P'.may B->P.may B)/\(CpsOk (tgL K d (cpO bad (ofL K.ow v))) w u w'/\(∀q,P'.pg q=cpPg K P d (cpO bad (ofL K.ow v)) q)\/u=.tuple #[.slice none 0 0,errOf 8]/\P.may d/\Part K P d (cpO bad (ofL K.ow v)) P')) (fun Q=>u=.tuple #[.slice none 0 0,errOf 7]/\Part K P d (cpO bad (ofL K.ow v)) Q):=by
 obtain⟨i0,hi,hz0,hz1,hz2⟩:=info_parts tag_info;have hL8:=ofL_le K.ow v;refine spec_of_wpE (T:=tt) tt_ok Tryz.func148 rfl (by decide +kernel) Tryz.ntmps148 (by simp) ?_;conv=>whnf
 repeat ((first|(refine Ld.of h.core.c2 ?_));conv=>whnf)
 refine Ca.of (mof_ok h.core.map v H.hv H.ow25) ?_;rintro _ w1 ⟨u,rfl,Y,e,rfl,ls,hY,k1⟩;have h1:=h.keep0 k1;have hcpl:=cpO_le bad (ofL K.ow v);generalize hL:ofL K.ow v=L at *;conv=>whnf
 repeat ((first|refine Br.f ?_|refine Ru.neq_nil0 ?_|refine CW.s ?_);conv=>whnf)
 refine CW.loop (ι:=Nat×Option Addr×Nat×Int×KS×CS×Option Nat) (fun i w'=>i.1<=L.length/\(b=none->i.2.2.2.2.2.2=none)/\sameK K i.2.2.2.2.1/\Hl.HB i.2.2.2.2.1.F/\(∀B,i.2.2.2.2.2.1.may B->P.may B)/\(∀q,i.2.2.2.2.2.1.pg q=cpPg K P d (cpO bad (L.take i.1)) q)/\On w' N i.2.2.2.2.1 i.2.2.2.2.2.1 i.2.2.2.2.2.2 i.2.2.2.1 X c /\
   Ls w' Y e L/\Ly w' 67 5 i.2.1 (cpO bad (L.take i.1)).length i.2.2.1 (tgsF (tgL K d (cpO bad (L.take i.1))))/\(∀x,x∈blk i.2.1->w.heap.size<=x)/\Keep N.all w w')
  (fun i=>[(0,.pointer (some ⟨N.k,0,none⟩)),(2,.int .i64 d),(3,.bool bad),(12,.slice i.2.1 (cpO bad (L.take i.1)).length i.2.2.1),(34,.slice Y L.length e),(35,.int .i64 L.length),(36,.int .i64 i.1)]) (fun i=>L.length-i.1) (0,none,0,n,K,P,b) tt_ok
  ⟨by simp,fun x=>x,⟨K.F,rfl⟩,H.hb,fun _ x=>x,fun q=>by simp only[List.take_zero];exact(if_neg (by simp[cpO])).symm,h1,ls,Ly.nil _ _ _ _,by simp[blk],Keep.of0 k1⟩ ⟨rfl,rfl,rfl,rfl,rfl,rfl,rfl,trivial⟩ ?_;rintro⟨i,Z,cz,n',K2,P2,b2⟩ wr ⟨hil,hbn,⟨F,hsame⟩,hhb,hmay,hpg,hr,hls,hz,hZ,kk⟩;simp only at hil hbn hsame hhb hmay hpg hr hls hz hZ kk ⊢;have far:∀x,w.heap.size<=x->x∉N.all:=fun x hx hm=>by
  have h3:x<w.heap.size:=by
   rcases List.mem_append.1 hm with hm|hm
   ·exact h.core.lt (List.mem_append_left _ hm)
   ·exact h.l_lt _ hm
  omega
 by_cases hlt:i<L.length
 ·have htk:L.take (i+1)=L.take i++[L[i]]:=by rw[List.take_add_one,List.getElem?_eq_getElem hlt];rfl
  have hsn:=cpO_snoc bad (L.take i) L[i];rw[<-htk] at hsn;have hpre:=cpO_pre bad L (i+1);have hpre0:=cpO_pre bad L i;have hle1:=cpO_le bad (L.take i);rw[List.length_take,Nat.min_eq_left hil] at hle1;have hd12:=H.hd;have hlv:=H.live L[i] (by rw[hL];exact List.getElem_mem hlt);have hok:=H.ok;rw[hL] at hok;have hbl:=H.blank (cpO bad (L.take i)).length (by omega);have hat:=H.at96 L[i] (by omega);have hcell:=hls.rd1 (by omega);obtain⟨gy,oy,rfl,hcell⟩:=hcell;have ci:=hcell i hlt;have elf:lf L i=.int .i64 ((L[i]:Nat):Int):=by
   unfold lf;rw[getD_at L hlt]
  rw[elf] at ci;generalize hos:cpO bad (L.take i)=os at *;generalize hos1:cpO bad (L.take (i+1))=os1 at *;generalize L[i]=o at *;obtain⟨ho,h0,hcp,hpd,t,D,hpgo,hto,hts⟩:=hlv;have eat:K2.at_=K.at_:=by rw[hsame]
  have een:K2.en=K.en:=by rw[hsame]
  have hpg2:P2.pg (K.at_ o-1)=.full t D:=by rw[hpg,cpPg_out hpd];exact hpgo
  have hbl2:P2.pg (d*8+os.length)=.blank:=by
   rw[hpg];unfold cpPg;rw[if_neg (by omega)];exact hbl
  clear hbl hpgo hcell elf;have etg:Tg.mk ((d:Int)*8+os.length) o (K.en o).seq (((K.en o).copy+1)%256) (K.en o).lost=cpTag K d os.length o:=by
   unfold cpTag;congr 1
  by_cases hskip:bad=true/\o=24
  ·rw[if_pos hskip] at hsn;subst hsn;obtain⟨rfl,rfl⟩:=hskip;conv=>whnf
   repeat ((first|(refine Ld.at (by omega) ci ?_)|refine Br.t ?_|refine Pk.t ?_|refine Ix.n ?_|refine Ar.la ?_|refine Br.y ?_|refine CW.s ?_);conv=>whnf)
   exact⟨(i+1,Z,cz,n',K2,P2,b2),⟨hlt,hbn,⟨F,hsame⟩,hhb,hmay,by simp only[hos1];exact hpg,hr,hls,by simp only[hos1];exact hz,hZ,kk⟩,⟨rfl,rfl,rfl,by simp only[hos1];exact rfl,rfl,rfl,vi (by simp only;omega),trivial⟩,by simp only;omega⟩
  rw[if_neg hskip] at hsn;subst hsn;have hlt8:os.length<(cpO bad L).length:=by
   have:=congrArg List.length hpre;rw[List.length_take,List.length_append,List.length_singleton] at this;omega
  have hgd:(cpO bad L).getD os.length 0=o:=by
   have h2:(os++[o]).getD os.length 0=o:=getD_last;rw[hpre] at h2;rw[<-h2];simp[List.getD,List.getElem?_take]
  have hok1:=hok os.length hlt8;rw[hgd] at hok1;clear hok;have hpre1:os=(cpO bad L).take os.length:=hpre0;clear hpre0;have hb2:bad=false\/bad=true/\¬((o:Nat):Int)=24:=by
   cases bad
   ·exact .inl rfl
   ·exact .inr ⟨rfl,fun x=>hskip ⟨rfl,by omega⟩⟩
  clear hskip;rcases hb2 with rfl|⟨rfl,h24⟩
  case' inl =>
   conv=>whnf
   repeat' ((first|(refine Ld.at (by omega) ci ?_)|refine Br.f ?_|refine Pk.f ?_|refine Pk.t ?_|refine Ix.n ?_|refine Br.y ?_|refine CW.s ?_|refine Br.d (fun _=>?_) (fun _=>?_))<;>conv=>whnf)
  case' inr =>
   conv=>whnf
   repeat ((first|(refine Ld.at (by omega) ci ?_)|(refine Br.isnt (decide_eq_false h24) ?_)|refine Br.f ?_|refine Pk.f ?_|refine Ix.n ?_|refine Br.y ?_|refine CW.s ?_);conv=>whnf)
  all_goals
   conv=>whnf
   repeat ((first|(refine Ld.of hr.core.c2 ?_));conv=>whnf)
   refine Ca.of (mat_ok hr.core.map o ho (by rw[eat];exact hat)) ?_;rintro _ _ ⟨rfl,rfl⟩;rw[if_neg (by rw[eat];exact h0),eat];conv=>whnf
   repeat ((first|refine Br.f ?_|refine Ru.neq_nil0 ?_|refine CW.s ?_);conv=>whnf)
   refine Ca.of (cread_ok hr hhb (p:=K.at_ o-1) (by omega)) ?_;rintro _ w2 ⟨R,dv,hR,hdv,rfl,h2,k2⟩;unfold PgRead at hR;rw[hpg2] at hR;obtain⟨hR1,rfl,hR3,hR4,hR5⟩:=hR;rcases hdv with⟨-,O,oc,rfl,hO,lyO⟩|⟨hs,-⟩
   case inr=>rw[hR3] at hs;cases hs
   rw[hR1,hR3];have c2:w2.cell? ⟨gy,oy+i,none⟩=some (.int .i64 (o:Nat)):=by
    rw[k2.cell (cell_lt ci) (far gy (hY gy (List.mem_singleton.2 rfl)))];exact ci
   conv=>whnf
   refine Ru.alloca (alloc_page w2) ?_;intro x17 w3 hx17 hs3 r17a k3;conv=>whnf
   refine Ru.stpage r17a (fun j hj=>pgc_one rfl j hj) ?_;intro w4 r17 k4;have q4:Keep [] w2 w4:=k3.then k4 (fun x hx=>.inr (by rw[List.mem_singleton.1 hx,hx17];exact Nat.le_refl _));have h4:=h2.keep0 q4;have ly4:=lyO.keep0 q4;have k2:=k2.trans (Keep.of0 q4);clear k3 k4 q4 h2 lyO hs3 r17a hx17 c2 w3;conv=>whnf
   repeat ((first|(refine Ix.of o (by omega) (by omega) ?_)|refine Br.f ?_|refine Ru.neq_nil0 ?_|refine CW.s ?_);conv=>whnf)
   rw[show 0+7+o*3=7+3*o by omega];refine Ru.ldaC (q:=(K.en o).cell) h4.core.row Tryz.underlying140 rfl size_en (by omega) (fun j hj=>by rw[coreF_en' ho hj, <-een];rfl) ?_;conv=>whnf
   refine Ru.alloca (alloc_en w4) ?_;intro x18 w5 hx18 hs5 r18a k5;conv=>whnf
   refine Ru.sta r18a size_en (by omega) (fun j hj=>En.cell_one _) ?_;intro w6 r18b k6;have r18:Row w6 x18 140 3 (K.en o).cell:=r18b.congr (fun j hj=>by unfold lay;rw[if_pos (by omega),Nat.sub_zero]);have q6:Keep [] w4 w6:=k5.then k6 (fun x hx=>.inr (by rw[List.mem_singleton.1 hx,hx18];exact Nat.le_refl _));have h6:=h4.keep0 q6;have ly6:=ly4.keep0 q6;have r176:=r17.keep q6 (by simp);have k2:=k2.trans (Keep.of0 q6);clear k5 k6 q6 h4 ly4 hs5 r18a r18b hx18 r17 w5;have e0:(K.en o).cell 0=.int .i64 (K.en o).seq:=rfl;have e1:(K.en o).cell 1=.int .i64 (K.en o).copy:=rfl;have e2:(K.en o).cell 2=.bool (K.en o).lost:=rfl;have d0:w6.cell? ⟨x18,0,none⟩=some (.int .i64 (K.en o).seq):=r18.cell 0 (by omega);have d1:w6.cell? ⟨x18,1,none⟩=some (.int .i64 (K.en o).copy):=r18.cell 1 (by omega);have d2:w6.cell? ⟨x18,2,none⟩=some (.bool (K.en o).lost):=r18.cell 2 (by omega);conv=>whnf
   repeat ((first|(refine Ld.of d0 ?_)|(refine Ld.of d1 ?_)|(refine Ld.of d2 ?_)|refine Ar.la ?_);conv=>whnf)
   refine Ru.of (build_tg _ _ _ _ _ _) ?_;rw[and255 hcp,etg];conv=>whnf
   refine Ru.alloctg ?_;intro x19 w7 hx19 hs7 r19a k7;conv=>whnf
   refine Ru.sttg r19a ?_;intro w8 r19 k8;have q8:Keep [] w6 w8:=k7.then k8 (fun x hx=>.inr (by rw[List.mem_singleton.1 hx,hx19];exact Nat.le_refl _));have h8:=h6.keep0 q8;have ly8:=ly6.keep0 q8;have r178:=r176.keep q8 (by simp);have r188:=r18.keep q8 (by simp);have hx19w:w.heap.size<=x19:=by
    rw[hx19];have:=k2.size;have:=kk.size;omega
   have k2:=k2.trans (Keep.of0 q8);clear k7 k8 q8 h6 ly6 hs7 r19a hx19 r176 r18 d0 d1 d2 w7;have p1:w8.cell? ⟨x17,2,none⟩=some (.int .i64 R.tag.of):=r178.cell 2 (by omega);have p2:w8.cell? ⟨x17,3,none⟩=some (.int .i64 R.tag.seq):=r178.cell 3 (by omega);have p3:w8.cell? ⟨x17,6,none⟩=some (.bool true):=r178.cell 6 (by omega);have p4:w8.cell? ⟨x17,7,none⟩=some (.slice O 174 oc):=r178.cell 7 (by omega);have d0:w8.cell? ⟨x18,0,none⟩=some (.int .i64 (K.en o).seq):=r188.cell 0 (by omega);rw[hto] at p1;rw[hts] at p2;conv=>whnf
   repeat ((first|(refine Ld.at (by omega) p4 ?_)|(refine Ld.at (by omega) p1 ?_)|(refine Ld.at (by omega) p2 ?_)|(refine Ld.at (by omega) p3 ?_)|(refine Ld.at (by omega) d0 ?_)|refine Br.t ?_|refine Pk.t ?_|refine Br.y ?_|refine CW.s ?_);conv=>whnf)
   refine Ru.ldtg r19 ?_;conv=>whnf
   obtain⟨-,-,hD,hDc⟩:=hr.full (p:=K.at_ o-1) (by omega) hpg2;have lyD:Ly w8 5 1 O 174 oc (fun j=>.int .u8 (D j:Nat)):=ly8.congr (fun j hj=>by
    rw[<-hR4];unfold cutD;rw[if_pos (by omega)])
   refine Ca.of (cpg_ok h8 (hhb.rd (by omega)) (p:=d*8+os.length) (by omega) hD lyD hok1 rfl hbl2) ?_;rintro _ w9 ⟨k9,hr9⟩;have k29:=k2.trans k9;have z9:=hz.keep k29 (fun x hx=>far x (hZ x hx));have ls9:=hls.keep k29 (fun x hx=>far x (hY x hx));have hdat:dataAt P2 (K.at_ o-1)=D:=dataAt_full hpg2;have hdat0:dataAt P (K.at_ o-1)=D:=by
    rw[<-hdat];exact dataAt_same (by rw[hpg,cpPg_out hpd])
   have r199:=r19.keep k9 (far x19 hx19w);have hpart:∀Q:CS,Lk (P2.readE (K.at_ o-1)) Q (d*8+os.length)->nf (Q.pg (d*8+os.length))->Part K P d (cpO _ L) Q:=fun Q g1 g2=>⟨os.length,hlt8,fun q hq=>by rw[<-hpre1,g1.pg q hq];exact hpg q,g2⟩
   rcases hr9 with⟨K9,P9,b9,n9,hb9,h9,g1,⟨rfl,rfl,g2⟩|⟨rfl,rfl,g2,g3,-⟩⟩|⟨hb9,Q,n9,h9,rfl,g1,g2⟩
   ·conv=>whnf
    repeat ((first|refine Br.f ?_|refine Ru.neq_nil0 ?_);conv=>whnf)
    refine Ru.ldtg r199 ?_;conv=>whnf
    refine Ru.of (build_t1 _ _) ?_;have ka:Keep [] w9 (w9.alloc (.cells (cpTag K d os.length o).arr 67)):=(Keep.refl _ _).alloc _;have ha:Rd (w9.alloc (.cells (cpTag K d os.length o).arr 67)) (some ⟨w9.heap.size,0,none⟩) (1*5) (cpTag K d os.length o).cell:=fun _=>⟨w9.heap.size,0,rfl,fun j hj=>(Row.tg (heap_alloc_new _ _)).cell' j hj⟩
    generalize w9.alloc _=w10 at *;conv=>whnf
    refine Bu.append Tryz.underlying239 hi hz0 hz1 hz2 rfl (by omega) (z9.keep0 ka) _ ha (by omega) (by simp) (fun j hj=>tg_one _ j hj) (by simp only[maxLen];omega) (by omega) ?_;intro Z2 cz2 w11 hz11 k11 hat11 hpre11;have ls10:=ls9.keep0 ka;have z10:=z9.keep0 ka;have h11:=h.keepS (h9.keep0 ka) k11 hZ;have ls11:=ls10.keep k11 (fun x hx hm=>(ls10.type_ne z10 (by decide) hx) hm);have kk10:Keep N.all w w10:=(kk.trans k29).trans (Keep.of0 ka);have kk11:Keep N.all w w11:=kk10.then k11 (fun x hx=>.inr (hZ x hx));conv=>whnf
    repeat ((first|refine Ar.la ?_);conv=>whnf)
    refine⟨(i+1,Z2,cz2,n9,rdK (rdK K2 (K.at_ o-1)) (d*8+os.length),P9,b9),⟨hlt,fun x=>hb9 (hbn x),⟨Hl.rdF (Hl.rdF F ((K.at_ o-1)/8)) ((d*8+os.length)/8),by simp only[hsame];rfl⟩,(hhb.rd (by omega)).rd (by omega),fun B hB=>hmay B (g1.may B hB),fun q=>?_,h11,ls11,?_,?_,kk11⟩,⟨rfl,rfl,rfl,?_,rfl,rfl,vi (by simp only;omega),trivial⟩,by simp only;omega⟩
    ·simp only[hos1];rw[cpPg_snoc (by omega)];by_cases hq:q=d*8+os.length
     ·rw[if_pos hq,hq,g2,hdat0]
     ·rw[if_neg hq,g1.pg q hq];exact hpg q
    ·simp only[hos1];rw[tgL_snoc,List.length_append,List.length_singleton];exact hz11.congr (fun j hj=>tgsF_push (tgL_len K d os) j hj)
    ·intro x hx;rcases hat11 with e'|e'
     ·rw[e'] at hx;exact hZ x hx
     ·rw[e'] at hx;rw[List.mem_singleton.1 hx];exact kk10.size
    ·simp only[hos1,List.length_append,List.length_singleton];exact rfl
   ·conv=>whnf
    repeat ((first|refine Br.t ?_|refine Ru.n1 ?_);conv=>whnf)
    exact⟨rfl,kk.trans k29,.inl ⟨_,P9,b9,n9,fun x=>hb9 (hbn x),h9,⟨Hl.rdF F ((K.at_ o-1)/8),by rw[hsame];rfl⟩,hhb.rd (by omega),fun B hB=>hmay B (g1.may B hB),.inr ⟨rfl,by
     have:=hmay _ g3;rw[show(d*8+os.length)/8=d by omega] at this;exact this,hpart P9 g1 g2⟩⟩⟩
   ·conv=>whnf
    repeat ((first|refine Br.t ?_|refine Ru.n1 ?_);conv=>whnf)
    exact⟨rfl,kk.trans k29,.inr ⟨fun x=>hb9 (hbn x),Q,n9,h9,rfl,hpart Q g1 g2⟩⟩
 ·obtain rfl:i=L.length:=by omega
  rw[List.take_length] at *;conv=>whnf
  repeat ((first|refine Br.n ?_|refine CW.s ?_);conv=>whnf)
  exact⟨rfl,kk,.inl ⟨K2,P2,b2,n',hbn,hr,⟨F,hsame⟩,hhb,hmay,.inl ⟨⟨Z,cz,by rw[tgL_len];rfl,by rw[tgL_len];exact hz,hZ⟩,hpg⟩⟩⟩
end
section
variable{a a':Nat->Nat->Nat}{k k':Cp}{K K':KS}{P P':CS}
theorem Wi.set3(h:Wi a k K P){b:Nat}(hb:b<12)(hf:K.fo=true->K.fb≠b)(hd:(∀o,o<25->K.at_ o≠0->(K.at_ o-1)/8≠b)\/wornB (updf K.st b 3)=true)(F:Nat->Int)(hF:Hl.HB F):Wi a k { K with st:=updf K.st b 3,F:=F } P:=by
 have ne:∀x,x≠b->updf K.st b 3 x=K.st x:=fun x hx=>if_neg hx;have eq:updf K.st b 3 b=3:=if_pos rfl;refine⟨h.mt,h.sh,h.en,h.fl,h.nx,h.con,hF,h.cur,fun x hx=>?_,h.pn,h.fb,h.fi,fun x i hx e hi=>?_,fun hfo=>?_,h.fr,fun x hx e=>?_,fun hw o ho e=>?_⟩
 ·show updf K.st b 3 x<=3;by_cases hxb:x=b
  ·rw[hxb,eq];omega
  ·rw[ne x hxb];exact h.st x hx
 ·have e:updf K.st b 3 x=0:=e;by_cases hxb:x=b
  ·rw[hxb,eq] at e;omega
  ·rw[ne x hxb] at e;exact h.bl x i hx e hi
 ·show updf K.st b 3 K.fb=1;rw[ne _ (hf hfo)];exact h.f1 hfo
 ·show updf K.st b 3 x=3;by_cases hxb:x=b
  ·rw[hxb,eq]
  ·rw[ne x hxb];exact h.bad x hx e
 ·have hw2:wornB (updf K.st b 3)=false:=hw;rcases hd with hd|hd
  ·show updf K.st b 3 ((K.at_ o-1)/8)=2\/_;rw[ne _ (hd o ho e)];exact h.live (wornB_le (fun x hx e=>by
    by_cases hxb:x=b
    ·rw[hxb,eq]
    ·rw[ne x hxb];exact e) hw2) o ho e
  ·rw[hd] at hw2
   cases hw2
theorem Wi.set2(h:Wi a k K P){d:Nat}(hd:d<12)(h1:K.st d=1)(hf:K.fo=true->K.fb≠d):Wi a k { K with st:=updf K.st d 2 } P:=by
 have ne:∀x,x≠d->updf K.st d 2 x=K.st x:=fun x hx=>if_neg hx;have eq:updf K.st d 2 d=2:=if_pos rfl;refine⟨h.mt,h.sh,h.en,h.fl,h.nx,h.con,h.hb,h.cur,fun x hx=>?_,h.pn,h.fb,h.fi,fun x i hx e hi=>?_,fun hfo=>?_,h.fr,fun x hx e=>?_,fun hw o ho e=>?_⟩
 ·show updf K.st d 2 x<=3;by_cases hxb:x=d
  ·rw[hxb,eq];omega
  ·rw[ne x hxb];exact h.st x hx
 ·have e:updf K.st d 2 x=0:=e;by_cases hxb:x=d
  ·rw[hxb,eq] at e;omega
  ·rw[ne x hxb] at e;exact h.bl x i hx e hi
 ·show updf K.st d 2 K.fb=1;rw[ne _ (hf hfo)];exact h.f1 hfo
 ·have:=h.bad x hx e;show updf K.st d 2 x=3;rw[ne x (fun y=>by rw[y] at this;omega)];exact this
 ·have hw':wornB K.st=false:=wornB_le (fun x hx e=>by
   show updf K.st d 2 x=3;rw[ne x (fun y=>by rw[y] at e;omega)];exact e) hw
  show updf K.st d 2 ((K.at_ o-1)/8)=2\/_;by_cases hxb:(K.at_ o-1)/8=d
  ·rw[hxb,eq];exact .inl rfl
  ·rw[ne _ hxb];exact h.live hw' o ho e
theorem Wi.seq(h:Wi a k K P)(hn:K.next<1099511627775):Wi a k (sqK K) P :=
 ⟨h.mt.mono (by show K.next<=K.next+1;omega),h.sh,h.en,h.fl,by have:=h.nx;show 1<=K.next+1/\K.next+1<=_;omega,h.con,h.hb,h.cur,h.st,h.pn,h.fb,h.fi,h.bl,h.f1,h.fr,h.bad,h.live⟩
theorem Wi.next(h:Wi a k K P){of:Nat}(hr:roomB K.fo K.fi of=true):Wi a k (tkK K) P:=by
 have h8:K.fi<8:=by
  unfold roomB at hr;simp at hr;exact hr.2.1
 exact⟨h.mt,h.sh,h.en,h.fl,h.nx,h.con,h.hb,h.cur,h.st,h.pn,h.fb,by show K.fi+1<=8;omega,h.bl,h.f1,fun hf i h1 h2=>h.fr hf i (by have h1:K.fi+1<=i:=h1;omega) h2,h.bad,h.live⟩
theorem Wi.opn(h:Wi a k K P)(hf:K.fo=false){d:Nat}(ht:takeN K.st K.pn=some d):Wi a k { K with st:=updf K.st d 1,pn:=d+1,fo:=true,fb:=d,fi:=0 } P:=by
 obtain⟨T,D⟩:=h.take ht
 exact⟨T.mt,T.sh,T.en,T.fl,T.nx,T.con,T.hb,T.cur,T.st,T.pn,D.lt,by show 0<=8;omega,T.bl,fun _=>D.st,fun _ i h1 h2=>D.bl i (Nat.zero_le _) h2,T.bad,fun hw o ho e=>by
  rcases T.live hw o ho e with x|⟨x,_⟩
  ·exact .inl x
  ·have x:K.fo=true:=x;rw[hf] at x;cases x⟩
theorem Wi.close(h:Wi a k K P)(hd:∀o,o<25->K.at_ o≠0->(K.at_ o-1)/8≠K.fb):Wi a k { K with fo:=false,fb:=0,fi:=0 } P :=
 ⟨h.mt,h.sh,h.en,h.fl,h.nx,h.con,h.hb,h.cur,h.st,h.pn,by show 0<12;omega,by show 0<=8;omega,h.bl,fun x=>(by cases x),fun x=>(by cases x),h.bad,fun hw o ho e=>by
  rcases h.live hw o ho e with x|⟨x,y⟩
  ·exact .inl x
  ·exact absurd y.symm (hd o ho e)⟩
structure Fresh(K:KS)(P:CS)(of:Nat):Prop where
 fo:K.fo=true
 fi:K.fi<8
 lt:K.fb*8+K.fi<96
 bl:P.pg (K.fb*8+K.fi)=.blank
 hh:holdsB (K.fb*8+K.fi) of=true
 st:K.st K.fb=1
theorem Wi.fresh(h:Wi a k K P){of:Nat}(ho:of<=24)(hr:roomB K.fo K.fi of=true):Fresh K P of:=by
 unfold roomB at hr;simp only[Bool.and_eq_true,decide_eq_true_eq] at hr;obtain⟨h1,h2,h3⟩:=hr;have hfb:=h.fb;exact⟨h1,h2,by omega,h.fr h1 _ (Nat.le_refl _) h2,by rw[holds_mod _ _ _ h2];exact h3,h.f1 h1⟩
theorem nwTag_ok{K:KS}{P:CS}{of:Nat}(ho:of<=24)(F:Fresh K P of)(hn:1<=K.next/\K.next<1099511627775):(nwTag K of).ok:=by
 have h1:=F.lt;have h2:=F.hh;unfold holdsB at h2;unfold Tg.ok nwTag;simp only;refine⟨by omega,by omega,by omega,by omega,by omega,by omega,by omega,by omega,fun x=>trivial,fun hx=>?_⟩;simp at h2;omega
theorem Wi.ly(h:Wi a k K P){of:Nat}(ho:of<=24)(hr:roomB K.fo K.fi of=true)(hn:K.next<1099511627775)(hq:∀q,q≠K.fb*8+K.fi->P'.pg q=P.pg q){D:Nat->Nat}(hp:P'.pg (K.fb*8+K.fi)=.full (nwTag K of) D)
  (mt:Mt P' k' (updf K.at_ of (K.fb*8+K.fi+1)) (K.next+1)) (sh:Shows P' (updf K.at_ of (K.fb*8+K.fi+1)) a') (hk:∀o,o<24->k'.fl o=K.fl o) (hbad:∀b,b<12->k'.bad b=true->K.st b=3) :
  Wi a' k' (lyK K of) P'/\∃ow F calls,lyK K of={ K with next:=K.next+1,fi:=K.fi+1,at_:=updf K.at_ of (K.fb*8+K.fi+1),ow:=ow,en:=updf K.en of ⟨K.next,0,false⟩,F:=F,calls:=calls }:=by
 have Fr:=h.fresh ho hr;have h96:=Fr.lt;have how:K.ow (K.fb*8+K.fi)=0:=by
  by_cases hx:K.ow (K.fb*8+K.fi)=0
  ·exact hx
  ·obtain⟨y1,y2⟩:=h.con.o _ h96 hx;obtain⟨_,t,D,e1,_⟩:=h.page (o:=K.ow (K.fb*8+K.fi)-1) (by omega) (by omega);rw[y2,Nat.add_sub_cancel,Fr.bl] at e1
   cases e1
 obtain⟨c1,c2⟩:=h.con.set (o:=of) (by omega) h96 how Fr.hh;have ee:∃F calls,Hl.HB F/\lyK K of={ K with next:=K.next+1,fi:=K.fi+1,at_:=updf K.at_ of (K.fb*8+K.fi+1),ow:=(setAt K.at_ K.ow of (K.fb*8+K.fi)).2,en:=updf K.en of ⟨K.next,0,false⟩,F:=F,calls:=calls }:=by
  have hF:Hl.HB (Hl.rdF K.F ((K.fb*8+K.fi)/8)):=h.hb.rd (by omega);unfold lyK anK;by_cases h24:of=24
  ·rw[if_pos h24];refine⟨Hl.ntF (Hl.rdF K.F ((K.fb*8+K.fi)/8)),0,hF.nt,?_⟩;unfold stK;simp only[<-c2];rfl
  ·rw[if_neg h24];refine⟨_,K.calls,hF,?_⟩;unfold stK;simp only[<-c2];rfl
 obtain⟨F,calls,hF,ee⟩:=ee;rw[ee];rw[c2] at c1;generalize (setAt K.at_ K.ow of (K.fb*8+K.fi)).2=ow at *;refine⟨⟨mt,sh,fun o ho' e=>?_,hk,by have:=h.nx;show 1<=K.next+1/\K.next+1<=_;omega,c1,hF,h.cur,h.st,h.pn,h.fb,by have:=Fr.fi;show K.fi+1<=8;omega,fun b i hb e hi=>?_,h.f1,fun hf i h1 h2=>?_,hbad,fun hw o ho' e=>?_⟩,_,_,_,rfl⟩
 ·have e:updf K.at_ of (K.fb*8+K.fi+1) o≠0:=e;show ∃t D,P'.pg (updf K.at_ of (K.fb*8+K.fi+1) o-1)=.full t D/\updf K.en of ⟨K.next,0,false⟩ o=_;unfold updf at e ⊢;by_cases hoo:o=of
  ·rw[if_pos hoo,if_pos hoo,Nat.add_sub_cancel];exact⟨_,_,hp,rfl⟩
  ·rw[if_neg hoo] at e ⊢;rw[if_neg hoo];obtain⟨t,D',e1,e2⟩:=h.en o ho' e;exact⟨t,D',by rw[hq _ (fun x=>by rw[x,Fr.bl] at e1;cases e1)];exact e1,e2⟩
 ·have e:K.st b=0:=e;rw[hq _ (fun x=>by
   have h1:=Fr.st;have h2:=Fr.fi;rw[show K.fb=b by omega] at h1;omega)]
  exact h.bl b i hb e hi
 ·have h1:K.fi+1<=i:=h1;rw[show({ K with next:=K.next+1,fi:=K.fi+1,at_:=updf K.at_ of (K.fb*8+K.fi+1),ow:=ow,en:=updf K.en of ⟨K.next,0,false⟩,F:=F,calls:=calls }:KS).fb=K.fb from rfl,hq _ (by omega)];exact h.fr Fr.fo i (by omega) h2
 ·have e:updf K.at_ of (K.fb*8+K.fi+1) o≠0:=e;show K.st ((updf K.at_ of (K.fb*8+K.fi+1) o-1)/8)=2\/K.fo=true/\K.fb=(updf K.at_ of (K.fb*8+K.fi+1) o-1)/8;unfold updf at e ⊢;by_cases hoo:o=of
  ·rw[if_pos hoo,Nat.add_sub_cancel];exact .inr ⟨Fr.fo,by have:=Fr.fi;omega⟩
  ·rw[if_neg hoo] at e ⊢;exact h.live hw o ho' e
theorem notbad3(h:Wi a k K P)(hw:wornB K.st=false){o:Nat}(ho:o<25)(e:K.at_ o≠0):K.st ((K.at_ o-1)/8)≠3:=fun x=>by
 rcases h.live hw o ho e with y|⟨y1,y2⟩
 ·omega
 ·have:=h.f1 y1;rw[y2] at this;omega
theorem stC_bad3(K:KS)(s:Int){b:Nat}(h:K.st b≠3):(stC K s (-1)).bad b=false:=by
 show(decide (K.st b=3)||decide ((b:Int) = -1))=false;simp;first|exact h|exact⟨h,by omega⟩
theorem stC_bad3'(K:KS)(s:Int){b:Nat}(h:(stC K s (-1)).bad b=true):K.st b=3:=by
 have h:(decide (K.st b=3)||decide ((b:Int) = -1))=true:=h;simp at h;first|exact h|omega
theorem Wi.noted(h:Wi a k K P)(hw:wornB K.st=false)(hr:roomB K.fo K.fi 24=true)(hn:K.next<1099511627775)(hq:∀q,q≠K.fb*8+K.fi->P'.pg q=P.pg q)(hp:P'.pg (K.fb*8+K.fi)=.full (nwTag K 24) (noteD (sqK K) K.next)) :
  Wi a (stC (sqK K) K.next (-1)) (lyK K 24) P'/\∃ow F calls,lyK K 24={ K with next:=K.next+1,fi:=K.fi+1,at_:=updf K.at_ 24 (K.fb*8+K.fi+1),ow:=ow,en:=updf K.en 24 ⟨K.next,0,false⟩,F:=F,calls:=calls }:=by
 have Fr:=h.fresh (Nat.le_refl 24) hr;have hnf:nf (P.pg (K.fb*8+K.fi)):=by rw[Fr.bl];intro t D x;cases x
 have hfb:(K.fb*8+K.fi)/8=K.fb:=by have:=Fr.fi;omega
 obtain⟨mt,sh⟩:=h.mt.point (p:=K.fb*8+K.fi) (s:=K.next) (k':=stC (sqK K) K.next (-1)) (L':=updf K.at_ 24 (K.fb*8+K.fi+1)) (Int.le_refl _) Fr.lt hnf hq hp
  ⟨nwTag_ok (Nat.le_refl _) Fr ⟨h.nx.1,hn⟩,rfl,rfl,ptN_lt _,ptN_cut _⟩ rfl rfl (stW_told h (by have:=h.nx;omega) _) (Int.le_refl _) (fun b hb e=>by
   show(decide (K.st b=3)||_)=true;rw[h.bad b hb e];rfl)
  (stC_bad3 (sqK K) _ (by rw[hfb];show K.st K.fb≠3;rw[Fr.st];omega)) (if_pos rfl)
  (fun o ho=>.inl ⟨if_neg (by omega),(h.fl o ho).symm,fun e=>stC_bad3 (sqK K) _ (notbad3 h hw (by omega) e)⟩)
 exact h.ly (Nat.le_refl _) hr hn hq hp mt (sh a a h.sh (fun o ho=>⟨fun _ j hj=>rfl,fun x y j hj=>by
  unfold updf at x;rw[if_neg (by omega)] at x;exact absurd x y⟩)) (fun _ _=>rfl) (fun b hb e=>stC_bad3' (sqK K) _ e)
theorem Wi.put(h:Wi a k K P){s:Nat}(hs:s<24)(hr:roomB K.fo K.fi s=true)(hn:K.next<1099511627775){f:Nat->Nat}(hf:∀j,f j<256)(hq:∀q,q≠K.fb*8+K.fi->P'.pg q=P.pg q)(hp:P'.pg (K.fb*8+K.fi)=.full (nwTag K s) (putD f (sqK K) K.next)) :
  Wi (setA a s f) k (lyK K s) P'/\∃ow F calls,lyK K s={ K with next:=K.next+1,fi:=K.fi+1,at_:=updf K.at_ s (K.fb*8+K.fi+1),ow:=ow,en:=updf K.en s ⟨K.next,0,false⟩,F:=F,calls:=calls }:=by
 have Fr:=h.fresh (of:=s) (by omega) hr;have hnf:nf (P.pg (K.fb*8+K.fi)):=by rw[Fr.bl];intro t D x;cases x
 have hfb:(K.fb*8+K.fi)/8=K.fb:=by have:=Fr.fi;omega
 obtain⟨mt,sh⟩:=h.mt.new (p:=K.fb*8+K.fi) (s:=K.next) (Int.le_refl _) Fr.lt (by rw[hfb];exact h.notbad h.fb (by rw[Fr.st];omega)) hnf hq hp
  ⟨nwTag_ok (by omega) Fr ⟨h.nx.1,hn⟩,rfl,rfl,fun j=>by
   unfold putD;split
   ·exact hf j
   ·omega,by
   funext j;unfold cutD putD;by_cases h:j<174
   ·rw[if_pos h]
   ·rw[if_neg h,if_neg (by omega)]⟩ rfl hs rfl
 exact h.ly (by omega) hr hn hq hp mt (sh a f h.sh (fun j hj=>if_pos hj)) h.fl h.bad
theorem Wi.trimmed(h:Wi a k K P)(hw:wornB K.st=false){s:Nat}(hs:s<24)(h0:K.at_ s≠0)(hr:roomB K.fo K.fi 24=true)(hn:K.next<1099511627775)(hq:∀q,q≠K.fb*8+K.fi->P'.pg q=P.pg q)(hp:P'.pg (K.fb*8+K.fi)=.full (nwTag K 24) (trimD s (K.en s).seq (sqK K) K.next)) :
  Wi (setA a s (fun _=>0)) (trC (sqK K) s (K.en s).seq K.next) (drK (flK (lyK K 24) s (K.en s).seq) s) P':=by
 have Fr:=h.fresh (Nat.le_refl 24) hr;have hnf:nf (P.pg (K.fb*8+K.fi)):=by rw[Fr.bl];intro t D x;cases x
 have hfb:(K.fb*8+K.fi)/8=K.fb:=by have:=Fr.fi;omega
 obtain⟨hp0,t0,D0,a2,a3,a4,a5,a6,a7,a8,a9⟩:=h.page (o:=s) (by omega) h0;have hseq:(K.en s).seq=t0.seq:=by rw[a3]
 have hsb:0<=(K.en s).seq/\(K.en s).seq<=1099511627775:=by
  rw[hseq];unfold Tg.ok at a5;omega
 have hflo:∀o,updf K.fl s (K.en s).seq o=if o=s then (K.en s).seq else K.fl o:=fun o=>rfl;have told:(trC (sqK K) s (K.en s).seq K.next).told:=by
  have T:=stW_told h (s:=K.next) (by have:=h.nx;omega) (-1);exact⟨T.next,T.cur,fun o ho=>by
   show 0<=updf K.fl s (K.en s).seq o/\updf K.fl s (K.en s).seq o<=_;rw[hflo];split
   ·exact hsb
   ·exact h.fge o ho,T.rd,T.sc⟩
 have pt:∀L':Nat->Nat,L' 24=K.fb*8+K.fi+1->(∀o,o<24->(o≠s->L' o=K.at_ o)/\(o=s->L' o=0))->Mt P' (trC (sqK K) s (K.en s).seq K.next) L' (K.next+1)/\Shows P' L' (setA a s (fun _=>0)):=fun L' h24 hL=>by
  obtain⟨mt,sh⟩:=h.mt.point (p:=K.fb*8+K.fi) (s:=K.next) (k':=trC (sqK K) s (K.en s).seq K.next) (L':=L') (Int.le_refl _) Fr.lt hnf hq hp
   ⟨nwTag_ok (Nat.le_refl _) Fr ⟨h.nx.1,hn⟩,rfl,rfl,ptN_lt _,ptN_cut _⟩ rfl rfl told (Int.le_refl _) (fun b hb e=>by
    show(decide (K.st b=3)||_)=true;rw[h.bad b hb e];rfl)
   (stC_bad3 (sqK K) K.next (by rw[hfb];show K.st K.fb≠3;rw[Fr.st];omega)) h24
   (fun o ho=>by
    by_cases hos:o=s
    ·exact .inr ⟨(hL o ho).2 hos,by rw[hos];exact h0,t0,D0,by rw[hos];exact a2,by
      show updf K.fl s (K.en s).seq o=t0.seq;rw[hflo,if_pos hos,hseq]⟩
    ·exact .inl ⟨(hL o ho).1 hos,by
      show updf K.fl s (K.en s).seq o=k.fl o;rw[hflo,if_neg hos,h.fl o ho],fun e=>stC_bad3 (sqK K) K.next (notbad3 h hw (by omega) e)⟩)
  refine⟨mt,sh a _ h.sh (fun o ho=>⟨fun x j hj=>?_,fun x y j hj=>?_⟩)⟩
  ·unfold setA;by_cases hos:o=s
   ·have:=(hL o ho).2 hos;rw[hos] at this x;exact absurd (this ▸ x).symm h0
   ·rw[if_neg hos]
  ·unfold setA;by_cases hos:o=s
   ·rw[if_pos hos]
   ·rw[(hL o ho).1 hos] at x;exact absurd x y
 -- what the core knows
 have N:=h.seq hn;have how:K.ow (K.fb*8+K.fi)=0:=by
  by_cases hx:K.ow (K.fb*8+K.fi)=0
  ·exact hx
  ·obtain⟨y1,y2⟩:=h.con.o _ Fr.lt hx;obtain⟨_,t,D,e1,_⟩:=h.page (o:=K.ow (K.fb*8+K.fi)-1) (by omega) (by omega);rw[y2,Nat.add_sub_cancel,Fr.bl] at e1
   cases e1
 obtain⟨c1,c2⟩:=h.con.set (o:=24) (by omega) Fr.lt how Fr.hh;have hF:Hl.HB (Hl.ntF (Hl.rdF K.F ((K.fb*8+K.fi)/8))):=(h.hb.rd (by have:=Fr.lt;omega)).nt;have ee:lyK K 24={ K with next:=K.next+1,fi:=K.fi+1,at_:=updf K.at_ 24 (K.fb*8+K.fi+1),ow:=(setAt K.at_ K.ow 24 (K.fb*8+K.fi)).2,en:=updf K.en 24 ⟨K.next,0,false⟩,F:=Hl.ntF (Hl.rdF K.F ((K.fb*8+K.fi)/8)),calls:=0 }:=by
  unfold lyK anK;rw[if_pos rfl];unfold stK;simp only[<-c2];rfl
 rw[c2] at c1;generalize (setAt K.at_ K.ow 24 (K.fb*8+K.fi)).2=ow at *;have hss:updf K.at_ 24 (K.fb*8+K.fi+1) s≠0:=by
  unfold updf;rw[if_neg (by omega)];exact h0
 have c3:=c1.drop (o:=s) (by omega) hss;unfold drK flK;rw[ee];obtain⟨mt,sh⟩:=pt (updf (updf K.at_ 24 (K.fb*8+K.fi+1)) s 0) (by unfold updf;rw[if_neg (by omega),if_pos rfl]) (fun o ho=>⟨fun x=>by unfold updf;rw[if_neg x,if_neg (by omega)],fun x=>by unfold updf;rw[if_pos x]⟩);have back:∀o,updf (updf K.at_ 24 (K.fb*8+K.fi+1)) s 0 o≠0->(o=24/\updf (updf K.at_ 24 (K.fb*8+K.fi+1)) s 0 o=K.fb*8+K.fi+1)\/(o≠24/\updf (updf K.at_ 24 (K.fb*8+K.fi+1)) s 0 o=K.at_ o/\K.at_ o≠0):=fun o e=>by
  unfold updf at e ⊢;by_cases e1:o=s
  ·rw[if_pos e1] at e;exact absurd rfl e
  ·rw[if_neg e1] at e ⊢;by_cases e2:o=24
   ·rw[if_pos e2];exact .inl ⟨e2,rfl⟩
   ·rw[if_neg e2] at e ⊢;exact .inr ⟨e2,rfl,e⟩
 refine⟨mt,sh,fun o ho e=>?_,fun _ _=>rfl,by have:=h.nx;show 1<=K.next+1/\K.next+1<=_;omega,c3,hF,h.cur,h.st,h.pn,h.fb,by have:=Fr.fi;show K.fi+1<=8;omega,fun b i hb e hi=>?_,h.f1,fun hf i h1 h2=>?_,fun b hb e=>stC_bad3' (sqK K) K.next e,fun hw o ho e=>?_⟩
 ·show ∃t D,P'.pg (updf (updf K.at_ 24 (K.fb*8+K.fi+1)) s 0 o-1)=.full t D/\updf K.en 24 ⟨K.next,0,false⟩ o=_;rcases back o e with⟨e1,e2⟩|⟨e1,e2,e3⟩
  ·rw[e2,Nat.add_sub_cancel];exact⟨_,_,hp,by unfold updf;rw[if_pos e1];rfl⟩
  ·rw[e2];obtain⟨t,D',f1,f2⟩:=h.en o ho e3;exact⟨t,D',by rw[hq _ (fun x=>by rw[x,Fr.bl] at f1;cases f1)];exact f1,by unfold updf;rw[if_neg e1];exact f2⟩
 ·have e:K.st b=0:=e;rw[hq _ (fun x=>by
   have h1:=Fr.st;have h2:=Fr.fi;rw[show K.fb=b by omega] at h1;omega)]
  exact h.bl b i hb e hi
 ·have h1:K.fi+1<=i:=h1;show P'.pg (K.fb*8+i)=_;rw[hq _ (by omega)];exact h.fr Fr.fo i (by omega) h2
 ·show K.st ((updf (updf K.at_ 24 (K.fb*8+K.fi+1)) s 0 o-1)/8)=2\/K.fo=true/\K.fb=(updf (updf K.at_ 24 (K.fb*8+K.fi+1)) s 0 o-1)/8;rcases back o e with⟨e1,e2⟩|⟨e1,e2,e3⟩
  ·rw[e2,Nat.add_sub_cancel];exact .inr ⟨Fr.fo,by have:=Fr.fi;omega⟩
  ·rw[e2];exact h.live hw o ho e3
end
def TagK(K K':KS):Prop:=∀o,o<24->K.at_ o≠0->K'.at_ o≠0/\(K'.en o).seq=(K.en o).seq
theorem TagK.refl(K:KS):TagK K K:=fun _ _ h=>⟨h,rfl⟩
theorem TagK.trans{K K1 K2:KS}(h:TagK K K1)(g:TagK K1 K2):TagK K K2:=fun o ho e=>by
 obtain⟨a1,a2⟩:=h o ho e;obtain⟨b1,b2⟩:=g o ho a1;exact⟨b1,b2.trans a2⟩
theorem TagK.same{K K':KS}(e1:K'.at_=K.at_)(e2:K'.en=K.en):TagK K K':=fun o _ h=>⟨by rw[e1];exact h,by rw[e2]⟩
structure Rm(β:Int)(K:KS)(P:CS):Prop where
 opn:∀b,b<12->K.st b=1->K.fo=true/\K.fb=b
 bd:cntS K.st 3<=2
 free:1+2*(2-cntS K.st 3)<=cntS K.st 0
 x:∃x,(∀B,B<12->P.may B->B=x)/\(x<12->P.may x->K.st x=3\/cntS K.st 3<=1)
 nx:K.next-3*(cntS K.st 3:Nat)<=β
 lim:β+20<=1099511627775
structure Rb(β:Int)(K:KS)(P:CS):Prop where
 opn:∀b,b<12->K.st b=1->K.fo=true/\K.fb=b
 bd:cntS K.st 3<=2
 may:∀B,B<12->P.may B->K.st B=3
 free:roomB K.fo K.fi 24=true\/1<=cntS K.st 0
 nx:K.next-3*(cntS K.st 3:Nat)<=β
 lim:β+10<=1099511627775
structure VacW(a:Nat->Nat->Nat)(v:Nat)(f r:Bool)(K:KS)(P:CS)(K':KS)(P':CS)(e:Int):Prop where
 er:e=0\/e=14
 w:∃k,Wi a k K' P'
 st2:∀u,u<12->u≠v->K.st u=2->K'.st u=2
 st3:∀u,u<12->K.st u=3->K'.st u=3
 vb:e=0->f=true->K'.st v=3/\K.st v≠3
 may:∀B,P'.may B->P.may B
 nx:K'.next-3*(cntS K'.st 3:Nat)<=K.next-3*(cntS K.st 3:Nat)
 le:K.next<=K'.next
 qu:K'.qu=K.qu
 cur:K'.cur=K.cur
 tg:TagK K K'
 nw:e=0->wornB K'.st=false
 room:∀β,Rm β K P->(f=true->P.may v)->(r=true->∀B,B<12->¬P.may B)->e=0/\Rm β K' P'/\(K.fo=false->(ofL K.ow v).length<=4->K'.fo=true/\K'.fi<=5)
structure BadW(a:Nat->Nat->Nat)(K:KS)(P:CS)(K':KS)(P':CS)(e:Int):Prop where
 er:e=0\/e=14
 w:∃k,Wi a k K' P'
 st2:∀u,u<12->K.st u=2->K'.st u=2
 st3:∀u,u<12->K.st u=3->K'.st u=3
 may:∀B,P'.may B->P.may B
 nx:K'.next-3*(cntS K'.st 3:Nat)<=K.next-3*(cntS K.st 3:Nat)+1
 le:K.next<=K'.next
 qu:K'.qu=K.qu
 cur:K'.cur=K.cur
 tg:TagK K K'
 nw:e=0->wornB K'.st=false
 room:∀β,Rb β K P->e=0/\(∀b,b<12->K'.st b=1->K'.fo=true/\K'.fb=b)/\cntS K'.st 3=cntS K.st 3/\cntS K.st 0<=cntS K'.st 0+1/\(K.fo=false->K'.fo=true/\K'.fi<=5)
structure VI(a:Nat->Nat->Nat)(v:Nat)(f0 r0:Bool)(K0:KS)(P0:CS)(f r:Bool)(K:KS)(P:CS):Prop where
 hv:v<12
 v0:K0.st v≠3
 w:∃k,Wi a k K P
 v2:K.st v=2
 st2:∀u,u<12->u≠v->K0.st u=2->K.st u=2
 st3:∀u,u<12->K0.st u=3->K.st u=3
 may:∀B,P.may B->P0.may B
 nx:K.next-3*(cntS K.st 3:Nat)<=K0.next-3*(cntS K0.st 3:Nat)
 le:K0.next<=K.next
 qu:K.qu=K0.qu
 cur:K.cur=K0.cur
 tg:TagK K0 K
 ff:f0=true->f=true
 room:∀β,Rm β K0 P0->(f0=true->P0.may v)->(r0=true->∀B,B<12->¬P0.may B)->Rm β K P/\(f=true->P.may v)/\(r=true->∀B,B<12->¬P.may B)/\(K0.fo=false->(K.fo=false/\K.ow=K0.ow)\/(K.fo=true/\K.fi<=5/\∀B,B<12->P.may B->K.st B=3))
theorem cnt3_le{st st':Nat->Nat}(h:∀u,u<12->st u=3->st' u=3):cntS st 3<=cntS st' 3:=cntTo_mono h
theorem cnt3_upd{st:Nat->Nat}{b:Nat}(hb:b<12)(h:st b≠3):cntS (updf st b 3) 3=cntS st 3+1:=by
 have:=cntS_upd st 3 3 hb;rw[if_neg h,if_pos rfl] at this;omega
theorem cnt0_upd{st:Nat->Nat}{b x:Nat}(hb:b<12)(h:st b≠0)(hx:x≠0):cntS (updf st b x) 0=cntS st 0:=by
 have:=cntS_upd st x 0 hb;rw[if_neg h,if_neg hx] at this;omega
section
variable{a:Nat->Nat->Nat}{v:Nat}{f0 r0 f r:Bool}{K0 K:KS}{P0 P:CS}
theorem vc0_w{k:Cp}(h:Wi a k K P)(hv:K.st v=2\/K.fo=true/\K.fb=v):(∃k,Wi a k (vc0 K v) P)/\(vc0 K v).st v=2/\(∃st fo fb fi,vc0 K v={ K with st:=st,fo:=fo,fb:=fb,fi:=fi })/\(∀b,(vc0 K v).st b=K.st b\/K.st b=1/\(vc0 K v).st b=2) /\
  ((∀b,b<12->K.st b=1->K.fo=true/\K.fb=b)->∀b,b<12->(vc0 K v).st b=1->(vc0 K v).fo=true/\(vc0 K v).fb=b)/\(K.fo=false->vc0 K v=K):=by
 unfold vc0;by_cases hf:K.fo=true/\K.fb=v
 ·rw[if_pos (by rw[if_pos hf.1,hf.2])];obtain⟨w,S⟩:=h.shut;refine⟨⟨k,w⟩,by rw[<-hf.2];exact S.front hf.1,S.eq,S.st,fun ho b hb e=>?_,fun x=>(by rw[hf.1] at x;cases x)⟩;rcases S.st b with x|x
  ·obtain⟨y1,y2⟩:=ho b hb (by omega);have:=S.front y1;rw[y2] at this;omega
  ·omega
 ·rw[if_neg (fun x=>hf (by
   by_cases hfo:K.fo=true
   ·rw[if_pos hfo] at x;exact⟨hfo,by omega⟩
   ·rw[if_neg hfo] at x;omega))]
  refine⟨⟨k,h⟩,?_,⟨_,_,_,_,rfl⟩,fun b=>.inl rfl,fun ho=>ho,fun _=>rfl⟩;rcases hv with x|x
  ·exact x
  ·exact absurd x hf
theorem VI.start{k:Cp}(h:Wi a k K P)(h12:v<12)(hv:K.st v=2\/K.fo=true/\K.fb=v)(f r:Bool):VI a v f r K P f r (vc0 K v) P:=by
 obtain⟨w,v2,⟨st,fo,fb,fi,e⟩,hst,ho,hoff⟩:=vc0_w h hv;obtain⟨c0,c3⟩:=cntS_same hst;refine⟨h12,?_,w,v2,fun u hu hn h2=>?_,fun u hu h3=>?_,fun _ x=>x,by rw[c3,e];exact Int.le_refl _,by rw[e];exact Int.le_refl _,by rw[e],by rw[e],TagK.same (by rw[e]) (by rw[e]),fun x=>x,fun β R hf hr=>⟨⟨ho R.opn,by rw[c3];exact R.bd,by rw[c3,c0];exact R.free,?_,by rw[c3,e];exact R.nx,R.lim⟩,hf,hr,fun x=>.inl ⟨by rw[hoff x];exact x,by rw[hoff x]⟩⟩⟩
 ·rcases hv with x|⟨x,y⟩
  ·omega
  ·have:=h.f1 x;rw[y] at this;omega
 ·rcases hst u with x|x
  ·rw[x];exact h2
  ·omega
 ·rcases hst u with x|x
  ·rw[x];exact h3
  ·omega
 ·obtain⟨x,x1,x2⟩:=R.x;refine⟨x,x1,fun hx hm=>?_⟩;rw[c3];rcases x2 hx hm with y|y
  ·rcases hst x with z|z
   ·exact .inl (by rw[z];exact y)
   ·omega
  ·exact .inr y
section
variable(I:VI a v f0 r0 K0 P0 f r K P)
include I
theorem VI.worn(hw:wornB K.st=true):VacW a v f0 r0 K0 P0 K P 14 :=
 ⟨.inr rfl,I.w,I.st2,I.st3,fun x=>(by cases x),I.may,I.nx,I.le,I.qu,I.cur,I.tg,fun x=>(by cases x),fun β R hf hr=>by
  have:=(I.room β R hf hr).1.bd;unfold wornB at hw;have:=of_decide_eq_true hw;omega⟩
theorem VI.none(ht:takeN K.st K.pn=none):VacW a v f0 r0 K0 P0 K P 14 :=
 ⟨.inr rfl,I.w,I.st2,I.st3,fun x=>(by cases x),I.may,I.nx,I.le,I.qu,I.cur,I.tg,fun x=>(by cases x),fun β R hf hr=>by
  have h1:=(I.room β R hf hr).1.free;obtain⟨k,w⟩:=I.w;obtain⟨d,hd,_⟩:=takeN_some w.pn (st:=K.st) (by omega);rw[ht] at hd
  cases hd⟩
theorem VI.last(hf:f=true)(hl:2<=cntS K.st 3):VacW a v f0 r0 K0 P0 { K with st:=setSt K.st v 3 } P 14:=by
 obtain⟨k,w⟩:=I.w;have hv:=I.hv;have v2:=I.v2;have hs:setSt K.st v 3=updf K.st v 3:=if_neg (fun x=>x.2 rfl);have c3:=cnt3_upd (st:=K.st) hv (by omega);rw[hs];have ne:∀b,b≠v->updf K.st v 3 b=K.st b:=fun b hb=>if_neg hb;refine⟨.inr rfl,⟨k,w.set3 hv (fun hfo e=>by have:=w.f1 hfo;rw[e] at this;omega) (.inr ?_) K.F w.hb⟩,fun u hu hn h2=>(ne u hn).trans (I.st2 u hu hn h2),fun u hu h3=>?_,fun x=>(by cases x),I.may,?_,I.le,I.qu,I.cur,I.tg,fun x=>(by cases x),fun β R hf' hr=>?_⟩
 ·unfold wornB;rw[c3];exact decide_eq_true (by omega)
 ·show updf K.st v 3 u=3;by_cases hu':u=v
  ·rw[hu'];exact if_pos rfl
  ·rw[ne u hu'];exact I.st3 u hu h3
 ·have:=I.nx;show K.next-3*(cntS (updf K.st v 3) 3:Nat)<=_;rw[c3];omega
 ·obtain⟨R',m,_⟩:=I.room β R hf' hr;obtain⟨x,x1,x2⟩:=R'.x;have hm:=m hf;have:=x1 v hv hm;subst this;rcases x2 hv hm with y|y<;>omega
end
structure VM(a:Nat->Nat->Nat)(v:Nat)(K:KS)(P:CS)(d n:Nat)(K3:KS)(P3:CS):Prop where
 w:∃k,Wi a k K3 P3
 tk:takeN K.st K.pn=some d
 eq:∃F nx,K3={ K with st:=updf K.st d 1,pn:=d+1,F:=F,next:=nx }/\K.next<=nx/\nx<=K.next+1
 dst:Dest K3 P3 d n
 dv:d≠v
 may:∀B,P3.may B->P.may B
theorem VM.st0{d n:Nat}{K3:KS}{P3:CS}(M:VM a v K P d n K3 P3):d<12/\K.st d=0:=takeFrom_lt M.tk
theorem VM.cnt{d n:Nat}{K3:KS}{P3:CS}(M:VM a v K P d n K3 P3):cntS K3.st 3=cntS K.st 3/\cntS K3.st 0+1=cntS K.st 0:=by
 obtain⟨hd,h0⟩:=M.st0;obtain⟨F,nx,e,_⟩:=M.eq;rw[e];have h1:=cntS_upd K.st 1 3 hd;have h2:=cntS_upd K.st 1 0 hd;rw[if_neg (by omega),if_neg (by omega)] at h1;rw[if_pos h0,if_neg (by omega)] at h2;exact⟨h1,h2⟩
theorem Wi.cells{k:Cp}{P':CS}(h:Wi a k K P){d:Nat}(hst:K.st d=1)(hfr:K.fo=true->K.fb≠d)(hdead:∀o,o<25->K.at_ o≠0->(K.at_ o-1)/8≠d)(hq:∀q,q/8≠d->P'.pg q=P.pg q)
  (hpg:∀q t D,q/8=d->q<96->P'.pg q=.full t D->P.pg q=.full t D\/(t.ok/\t.place=q/\t.lost=false)/\∃o t0,o<25/\K.at_ o≠0/\P.pg (K.at_ o-1)=.full t0 D/\t0.of=t.of/\t0.seq=t.seq):Wi a k K P':=by
 refine⟨h.mt.ext (fun q t D hq' e=>?_) (fun o ho e=>hq _ (hdead o ho e)),h.sh.same2 (fun o ho e=>hq _ (hdead o (by omega) e)),fun o ho e=>?_,h.fl,h.nx,h.con,h.hb,h.cur,h.st,h.pn,h.fb,h.fi,fun b i hb e hi=>?_,h.f1,fun hf i h1 h2=>?_,h.bad,h.live⟩
 ·by_cases hd:q/8=d
  ·exact hpg q t D hd hq' e
  ·exact .inl (by rw[<-hq q hd];exact e)
 ·obtain⟨t,D,e1,e2⟩:=h.en o ho e;exact⟨t,D,by rw[hq _ (hdead o ho e)];exact e1,e2⟩
 ·rw[hq _ (fun x=>by rw[<-x,show(b*8+i)/8=b by omega] at hst;omega)];exact h.bl b i hb e hi
 ·rw[hq _ (fun x=>hfr hf (by omega))];exact h.fr hf i h1 h2
theorem filter_pos{p:Nat->Bool}:∀(L:List Nat) (i:Nat),i<(L.filter p).length->∃j,i<=j/\j<L.length/\(L.filter p).getD i 0=L.getD j 0
 | [],i,h=>by simp at h
 | x::xs,i,h=>by
  by_cases hp:p x=true
  ·rw[List.filter_cons_of_pos hp] at h ⊢
   cases i with
   |zero=>exact⟨0,Nat.le_refl _,by simp,rfl⟩
   | succ i =>
    obtain⟨j,h1,h2,h3⟩:=filter_pos xs i (by simpa using h);exact⟨j+1,by omega,by simpa using h2,by simpa using h3⟩
  ·rw[List.filter_cons_of_neg hp] at h ⊢;obtain⟨j,h1,h2,h3⟩:=filter_pos xs i h;exact⟨j+1,by omega,by simpa using h2,by simpa using h3⟩
structure Osl(K:KS)(v d:Nat)(os:List Nat)(bad:Bool):Prop where
 nd:os.Nodup
 mem:∀o,o∈os->o<25/\K.at_ o≠0/\(K.at_ o-1)/8=v
 len:os.length<=7/\os.length<=(ofL K.ow v).length
 all:∀o,o<25->K.at_ o≠0->(K.at_ o-1)/8=v->bad=false\/o≠24->o∈os
 ok:∀i,i<os.length->(cpTag K d i (os.getD i 0)).ok/\holdsB (d*8+i) (os.getD i 0)=true
theorem Wi.osl{k:Cp}(h:Wi a k K P)(hv:v<12){d:Nat}(hd:d<12)(bad:Bool):Osl K v d (cpO bad (ofL K.ow v)) bad:=by
 have hnd:(ofL K.ow v).Nodup:=ofTo_nodup h.con hv (Nat.le_refl 8);have nd:(cpO bad (ofL K.ow v)).Nodup:=hnd.filter _;have mem:∀o,o∈cpO bad (ofL K.ow v)->o<25/\K.at_ o≠0/\(K.at_ o-1)/8=v:=fun o ho=>(ofL_mem h.con hv).1 (cpO_mem ho);have h8:=ofL_le K.ow v;have hle:=cpO_le bad (ofL K.ow v);have ok:∀i,i<(cpO bad (ofL K.ow v)).length->(cpTag K d i ((cpO bad (ofL K.ow v)).getD i 0)).ok/\holdsB (d*8+i) ((cpO bad (ofL K.ow v)).getD i 0)=true/\((cpO bad (ofL K.ow v)).getD i 0≠24->i<=5):=fun i hi=>by
  obtain⟨j,j1,j2,j3⟩:=filter_pos (ofL K.ow v) i hi;obtain⟨m,m1,m2,m3,m4⟩:=ofTo_pos (ow:=K.ow) (b:=v) (n:=8) (i:=j) j2;have m4:(ofL K.ow v)[j]=K.ow (8*v+m)-1:=m4;have e:(cpO bad (ofL K.ow v)).getD i 0=K.ow (8*v+m)-1:=by
   show((ofL K.ow v).filter _).getD i 0=_;rw[j3,getD_get j2];exact m4
  have hcon:=h.con.o (8*v+m) (by omega) m3;rw[e];generalize hoo:K.ow (8*v+m)-1=o at *;obtain⟨a1,t0,D0,a2,a3,a4,a5,a6,a7,a8,a9⟩:=h.page (o:=o) (by omega) (by omega);have h5:o≠24->i<=5:=fun hn=>by
   have:=a5;unfold Tg.ok at this;have:=this.2.2.2.2.2.2.2.2.2 (by omega);rw[a6] at this;omega
  have h6:t0.of≠24->(d*8+i)%8<=5:=fun hn=>by
   have:=h5 (by omega);omega
  refine⟨?_,?_,h5⟩
  ·have:=copy_ok a5 (q:=d*8+i) (by omega) h6;unfold cpTag;rw[a3];rw[a4,a7] at this;exact this
  ·unfold holdsB;by_cases ho:o=24
   ·simp[ho]
   ·have:=h5 ho;simp;omega
 refine⟨nd,mem,⟨?_,hle⟩,fun o ho e hb hbad=>cpO_in ((ofL_mem h.con hv).2 ⟨ho,e,hb⟩) hbad,fun i hi=>⟨(ok i hi).1,(ok i hi).2.1⟩⟩;by_cases h7:(cpO bad (ofL K.ow v)).length<=7
 ·exact h7
 ·have o6:=(ok 6 (by omega)).2.2;have o7:=(ok 7 (by omega)).2.2;rw[getD_get (by omega)] at o6 o7;have e6:(cpO bad (ofL K.ow v))[6]=24:=Classical.byContradiction fun x=>by have:=o6 x;omega
  have e7:(cpO bad (ofL K.ow v))[7]=24:=Classical.byContradiction fun x=>by have:=o7 x;omega
  have:=(List.getElem_inj (h₀:=by omega) (h₁:=by omega) nd).1 (e6.trans e7.symm);omega
theorem cpPg_in{d i:Nat}{os:List Nat}(hd:i<os.length)(h8:os.length<=8):cpPg K P d os (d*8+i)=.full (cpTag K d i (os.getD i 0)) (cutD (dataAt P (K.at_ (os.getD i 0)-1))):=by
 unfold cpPg;rw[if_pos ⟨by omega,by omega⟩,show(d*8+i)%8=i by omega]
theorem Wi.part{k:Cp}{P':CS}(h:Wi a k K P){d:Nat}(D:Dest K P d 0){os:List Nat}{bad:Bool}(O:Osl K v d os bad){os':List Nat}(hpre:∃j,os'=os.take j)(hpg:∀q,P'.pg q=cpPg K P d os' q\/(q/8=d/\nf (P'.pg q))):Wi a k K P':=by
 have h7:=O.len.1;have hle:os'.length<=os.length:=by
  obtain⟨j,rfl⟩:=hpre;simp;omega
 refine h.cells D.st D.fr D.dead (fun q hq=>?_) (fun q t D0 hq hq96 e=>?_)
 ·rcases hpg q with x|x
  ·rw[x,cpPg_out hq]
  ·exact absurd x.1 hq
 ·rcases hpg q with x|x
  ·rw[x] at e;unfold cpPg at e;by_cases hc:q/8=d/\q%8<os'.length
   ·rw[if_pos hc] at e;injection e with e1 e2;have hgd:os'.getD (q%8) 0=os.getD (q%8) 0:=by
     obtain⟨j,rfl⟩:=hpre;have:q%8<j:=by
      have:=hc.2;simp at this;omega
     simp[List.getD,List.getElem?_take,this]
    rw[hgd] at e1 e2;have hm:=O.mem (os.getD (q%8) 0) (by rw[getD_get (by omega)];exact List.getElem_mem _);obtain⟨hok,_⟩:=O.ok (q%8) (by omega);obtain⟨a1,t0,D1,a2,a3,a4,a5,a6,a7,a8,a9⟩:=h.page hm.1 hm.2.1;rw[dataAt_full a2,a8] at e2;subst e2;rw[<-e1];refine .inr ⟨⟨hok,?_,?_⟩,os.getD (q%8) 0,t0,hm.1,hm.2.1,a2,a4,?_⟩
    ·show((d*8+q%8:Nat):Int)=q;omega
    ·show(K.en (os.getD (q%8) 0)).lost=false;rw[a3]
    ·show t0.seq=(K.en (os.getD (q%8) 0)).seq;rw[a3]
   ·rw[if_neg hc] at e;exact .inl e
  ·exact absurd e (x.2 t D0)
theorem Wi.cpg{k:Cp}(h:Wi a k K P)(hv:v<12){d:Nat}(D:Dest K P d 0)(bad:Bool):CpG K P v d bad:=by
 have O:=h.osl hv D.lt bad;refine⟨h.hb,fun o ho=>h.lt ho,h.con.mw.lo,hv,D.lt,fun o ho=>?_,fun i hi=>D.bl i (Nat.zero_le _) hi,fun i hi=>(O.ok i hi).1⟩;have hm:=(ofL_mem h.con hv).1 ho;obtain⟨a1,t0,D0,a2,a3,a4,a5,a6,a7,a8,a9⟩:=h.page hm.1 hm.2.1;have:=a5;unfold Tg.ok at this;exact⟨by omega,hm.2.1,by rw[a3];exact⟨this.2.2.2.2.2.2.1,this.2.2.2.2.2.2.2.1⟩,D.dead o hm.1 hm.2.1,t0,D0,a2,a4,by rw[a3]⟩
theorem copied{k:Cp}(h:Wi a k K P)(hv:v<12)(v2:K.st v=2){d:Nat}(ht:takeN K.st K.pn=some d){K1:KS}(e1:K1={ K with st:=updf K.st d 1,pn:=d+1 })(bad:Bool) :
  CpG K1 P v d bad/\Osl K1 v d (cpO bad (ofL K1.ow v)) bad /\
  (∀K3 P3,sameK K1 K3->Hl.HB K3.F->(∀B,P3.may B->P.may B) ->
   ((∀q,P3.pg q=cpPg K1 P d (cpO bad (ofL K1.ow v)) q)->VM a v K P d (cpO bad (ofL K1.ow v)).length K3 P3/\Cpd K3 P3 v d (cpO bad (ofL K1.ow v)) (tgL K1 d (cpO bad (ofL K1.ow v)))/\K3.next=K.next) /\
   (Part K1 P d (cpO bad (ofL K1.ow v)) P3->VM a v K P d 8 K3 P3/\K3.next=K.next)) /\
  (∀Q,Part K1 P d (cpO bad (ofL K1.ow v)) Q->Tw Q 1099511627775 a):=by
 obtain⟨w1,D1⟩:=h.take ht;rw[<-e1] at w1 D1;have O:=w1.osl hv D1.lt bad;have h7:=O.len.1;have hdv:d≠v:=fun x=>by
  have:=(takeFrom_lt ht).2;rw[x] at this;omega
 generalize hos:cpO bad (ofL K1.ow v)=os at *;have hpart:∀Q,Part K1 P d os Q->Wi a k K1 Q:=fun Q ⟨j,hj,q1,q2⟩=>w1.part D1 O ⟨j,rfl⟩ (fun q=>by
  by_cases hq:q=d*8+j
  ·exact .inr ⟨by omega,by rw[hq];exact q2⟩
  ·exact .inl (q1 q hq))
 have hK:∀K3 P3,sameK K1 K3->Hl.HB K3.F->Wi a k K1 P3->(∃k,Wi a k K3 P3)/\(∃F nx,K3={ K with st:=updf K.st d 1,pn:=d+1,F:=F,next:=nx }/\K.next<=nx/\nx<=K.next+1)/\K3.next=K.next/\K3.st=K1.st/\K3.at_=K1.at_/\K3.en=K1.en/\K3.fo=K1.fo/\K3.fb=K1.fb:=fun K3 P3 hs hb w=>by
  obtain⟨F,rfl⟩:=hs;refine⟨⟨k,w.same rfl hb w.cur rfl⟩,⟨F,K.next,by rw[e1],Int.le_refl _,by omega⟩,by rw[e1],rfl,rfl,rfl,rfl,rfl⟩
 refine⟨w1.cpg hv D1 bad,O,fun K3 P3 hs hb hm=>⟨fun hpg=>?_,fun hp=>?_⟩,fun Q hQ=>?_⟩
 ·have w3:=w1.part (P':=P3) D1 O ⟨os.length,(List.take_length).symm⟩ (fun q=>.inl (hpg q));obtain⟨b1,b2,b3,b4,b5,b6,b7,b8⟩:=hK K3 P3 hs hb w3;refine⟨⟨b1,ht,b2,⟨D1.lt,by rw[b4];exact D1.st,by rw[b7,b8];exact D1.fr,fun i hi h8=>?_,by rw[b5];exact D1.dead⟩,hdv,hm⟩,⟨O.nd,by omega,by rw[b5];exact O.mem,tgL_len _ _ _,fun i hi=>?_,fun i hi=>?_⟩,b3⟩
  ·rw[hpg];unfold cpPg;rw[if_neg (by omega)];exact D1.bl i (Nat.zero_le _) h8
  ·rw[tgL_get _ _ _ hi];exact⟨by unfold cpTag;rw[b6],(O.ok i hi).2⟩
  ·have hm:=O.mem (os.getD i 0) (by rw[getD_get hi];exact List.getElem_mem _);obtain⟨a1,t0,D0,a2,a3,a4,a5,a6,a7,a8,a9⟩:=w1.page hm.1 hm.2.1;rw[hpg,cpPg_in hi (by omega),b5,dataAt_full a2,a8];have e3:P3.pg (K1.at_ (os.getD i 0)-1)=.full t0 D0:=by
    rw[hpg,cpPg_out (D1.dead _ hm.1 hm.2.1)];exact a2
   rw[dataAt_full e3];unfold cpTag;rw[b6]
 ·have w3:=hpart P3 hp;obtain⟨b1,b2,b3,b4,b5,b6,b7,b8⟩:=hK K3 P3 hs hb w3;exact⟨⟨b1,ht,b2,⟨D1.lt,by rw[b4];exact D1.st,by rw[b7,b8];exact D1.fr,fun i hi h8=>by omega,by rw[b5];exact D1.dead⟩,hdv,hm⟩,b3⟩
 ·have w3:=hpart Q hQ;have:=w3.nx;exact⟨k,_,w3.mt.mono this.2,w3.sh⟩
section
variable{d n:Nat}{K3 K':KS}{P3 P':CS}
theorem VI.room_end(I:VI a v f0 r0 K0 P0 f r K P)(M:VM a v K P d n K3 P3){K2:KS}(hK2:K2.st=updf K3.st v 0\/(K2.st=updf K3.st v 3/\(f=true\/(r=true/\cntS K.st 3<=1)\/P.may v)))(hfo2:K2.fo=K3.fo/\K2.fb=K3.fb/\K2.fi=K3.fi){n':Nat}(E:EndF K2 K' d n')(hn:n'<=(ofL K.ow v).length+1)
  (hm:∀B,P'.may B->P.may B) (hnx:K'.next-3*(cntS K'.st 3:Nat)<=K.next-3*(cntS K.st 3:Nat)):∀β,Rm β K0 P0->(f0=true->P0.may v)->(r0=true->∀B,B<12->¬P0.may B)->Rm β K' P'/\(K0.fo=false->(ofL K0.ow v).length<=4->K'.fo=true/\K'.fi<=5):=by
 intro β R hf hr;obtain⟨R1,m1,r1,o1⟩:=I.room β R hf hr;obtain⟨hd,h0⟩:=M.st0;obtain⟨c3,c0⟩:=M.cnt;obtain⟨F,nx,e3,_⟩:=M.eq;have hv:=I.hv;have v2:=I.v2;have hdv:=M.dv;have e3v:K3.st v=2:=by rw[e3];show updf K.st d 1 v=2;unfold updf;rw[if_neg (fun x=>hdv x.symm)];exact v2
 have e3s:K3.st=updf K.st d 1:=by rw[e3]
 have e3f:K3.fo=K.fo/\K3.fb=K.fb/\K3.fi=K.fi:=by rw[e3];exact⟨rfl,rfl,rfl⟩
 obtain⟨s0,s3⟩:=cntS_same E.st;obtain⟨x,x1,x2⟩:=R1.x;have hfree:=R1.free;have hbd:=R1.bd;have bound:1+2*(2-cntS K'.st 3)<=cntS K'.st 0/\cntS K'.st 3<=2/\(x<12->P'.may x->K'.st x=3\/cntS K'.st 3<=1):=by
  rcases hK2 with h2|⟨h2,hwhy⟩
  ·have q3:=cntS_upd K3.st 0 3 hv;have q0:=cntS_upd K3.st 0 0 hv;rw[if_neg (by omega),if_neg (by omega)] at q3;rw[if_neg (by omega),if_pos rfl] at q0;rw[s3,s0,h2];refine⟨by omega,by omega,fun hx hmx=>?_⟩;rcases x2 hx (hm x hmx) with y|y
   ·have hxv:x≠v:=fun z=>by rw[z] at y;omega
    have hxd:x≠d:=fun z=>by rw[z] at y;omega
    refine .inl ?_;rcases E.st x with z|z
    ·rw[z,h2,e3s];unfold updf;rw[if_neg hxv,if_neg hxd];exact y
    ·rw[h2,e3s] at z;unfold updf at z;rw[if_neg hxv,if_neg hxd] at z;omega
   ·exact .inr (by omega)
  ·have q3:=cnt3_upd (st:=K3.st) hv (by omega);have q0:=cnt0_upd (st:=K3.st) (x:=3) hv (by omega) (by omega);have hle1:cntS K.st 3<=1/\(x<12->P'.may x->x=v):=by
    have viamay:P.may v->cntS K.st 3<=1/\(x<12->P'.may x->x=v):=fun hmv=>by
     have hxv:=x1 v hv hmv;subst hxv;refine⟨?_,fun _ _=>rfl⟩;rcases x2 hv hmv with y|y
     ·omega
     ·exact y
    rcases hwhy with y|y|y
    ·exact viamay (m1 y)
    ·exact⟨y.2,fun hx hmx=>absurd (hm x hmx) (r1 y.1 x hx)⟩
    ·exact viamay y
   rw[s3,s0,h2];refine⟨by omega,by omega,fun hx hmx=>.inl ?_⟩;have hxv:=hle1.2 hx hmx;rw[hxv];rcases E.st v with z|z
   ·rw[z,h2];exact if_pos rfl
   ·rw[h2] at z;have:updf K3.st v 3 v=3:=if_pos rfl;omega
 have hst1:∀b,b<12->K'.st b=1->K'.fo=true/\K'.fb=b:=fun b hb eb=>by
  have hb2:K2.st b=1:=by
   rcases E.st b with z|z<;>omega
  have hbv:b≠v:=fun z=>by
   rcases hK2 with h2|⟨h2,_⟩
   ·rw[z,h2] at hb2;have:updf K3.st v 0 v=0:=if_pos rfl;omega
   ·rw[z,h2] at hb2;have:updf K3.st v 3 v=3:=if_pos rfl;omega
  have hb3:updf K.st d 1 b=1:=by
   rw[<-e3s];rcases hK2 with h2|⟨h2,_⟩<;>(rw[h2] at hb2;unfold updf at hb2;rw[if_neg hbv] at hb2;exact hb2)
  by_cases hbd':b=d
  ·subst hbd';rcases E.std with z|z
   ·omega
   ·exact z
  ·unfold updf at hb3;rw[if_neg hbd'] at hb3;obtain⟨y1,y2⟩:=R1.opn b hb hb3;rcases E.fr with⟨g1,g2,g3,g4,_⟩|⟨g1,g2,g3,g4,_⟩
   ·exact⟨g1,by rw[g2,hfo2.2.1,e3f.2.1];exact y2⟩
   ·have:=g4 (by rw[hfo2.1,e3f.1];exact y1);rw[hfo2.2.1,e3f.2.1,y2] at this;omega
 refine⟨⟨hst1,bound.2.1,bound.1,⟨x,fun B hB h=>x1 B hB (hm B h),bound.2.2⟩,by have:=R1.nx;omega,R1.lim⟩,fun hfo h4=>?_⟩;rcases o1 hfo with⟨y1,y2⟩|⟨y1,y2,_⟩
 ·rcases E.fr with⟨g1,g2,g3,g4,_⟩|⟨g1,g2,g3,g4,_⟩
  ·rw[hfo2.1,e3f.1,y1] at g4;cases g4
  ·rw[y2] at hn;exact⟨g1,by omega⟩
 ·rcases E.fr with⟨g1,g2,g3,g4,g5⟩|⟨g1,g2,g3,g4,g5⟩
  ·exact⟨g1,by rw[g3,hfo2.2.2,e3f.2.2];exact y2⟩
  ·rw[hfo2.1,hfo2.2.2,e3f.1,e3f.2.2,y1] at g5;unfold roomB holdsB at g5;simp at g5;omega
end
end
section
variable{a:Nat->Nat->Nat}{v:Nat}{f0 r0 f r:Bool}{K0 K:KS}{P0 P:CS}{d n:Nat}{K3 K':KS}{P3 P':CS}{os:List Nat}{l:List Tg}
theorem VM.ne(M:VM a v K P d n K3 P3){u:Nat}(hu:u≠d):K3.st u=K.st u:=by
 obtain⟨F,nx,e,_⟩:=M.eq;rw[e];exact if_neg hu
theorem VM.old(M:VM a v K P d n K3 P3){u:Nat}(h:K.st u≠0):K3.st u=K.st u:=M.ne fun x=>by
 have:=M.st0.2;rw[x] at h;exact h this
theorem VM.sd(M:VM a v K P d n K3 P3):K3.st d=1:=M.dst.st
theorem VM.rest(M:VM a v K P d n K3 P3):K3.qu=K.qu/\K3.cur=K.cur/\K3.fo=K.fo/\K3.fb=K.fb/\K3.fi=K.fi/\K.next<=K3.next/\K3.next<=K.next+1/\K3.ow=K.ow/\K3.at_=K.at_:=by
 obtain⟨F,nx,e,h⟩:=M.eq;rw[e];exact⟨rfl,rfl,rfl,rfl,rfl,h.1,h.2,rfl,rfl⟩
theorem VM.tgk(M:VM a v K P d n K3 P3):TagK K K3:=by
 obtain⟨F,nx,e,_⟩:=M.eq;exact .same (by rw[e]) (by rw[e])
theorem VM.again(M:VM a v K P d n K3 P3)(hpg:P'.pg=P3.pg)(hm:∀B,P'.may B->P3.may B):VM a v K P d n K3 P':=by
 obtain⟨k,w⟩:=M.w;exact⟨⟨k,w.same hpg w.hb w.cur rfl⟩,M.tk,M.eq,⟨M.dst.lt,M.dst.st,M.dst.fr,by rw[hpg];exact M.dst.bl,M.dst.dead⟩,M.dv,fun B h=>M.may B (hm B h)⟩
theorem VI.erased(I:VI a v f0 r0 K0 P0 f r K P)(hw:wornB K.st=false)(M:VM a v K P d os.length K3 P3)(C:Cpd K3 P3 v d os l)(hf:f=false)(hall:∀o,o<25->K3.at_ o≠0->(K3.at_ o-1)/8=v->o∈os)(hlen:os.length<=(ofL K.ow v).length)(hnx:K3.next=K.next)(hm:∀B,(P3.wipe v).may B->P3.may B) :
  VacW a v f0 r0 K0 P0 (endK (vc2 K3 v) d l) (P3.wipe v) 0:=by
 obtain⟨k,w3⟩:=M.w;have hv:=I.hv;have v2:=I.v2;have v3:K3.st v=2:=by rw[M.old (by omega)];exact v2
 obtain⟨W,E,⟨st,fo,fb,fi,A,O,En,Mo,e⟩,hst,htg0⟩:=w3.erased hv v3 M.dst C hall;have htg:TagK K3 (endK (vc2 K3 v) d l):=fun o ho=>htg0 o (by omega);obtain⟨r1,r2,r3,r4,r5,r6,r7,_⟩:=M.rest;obtain⟨c3,c0⟩:=M.cnt;obtain⟨s0,s3⟩:=cntS_same E.st;have q3:=cntS_upd K3.st 0 3 hv;rw[if_neg (by omega),if_neg (by omega)] at q3;have h3:cntS (endK (vc2 K3 v) d l).st 3=cntS K.st 3:=by rw[s3,hst];omega
 have hn':(endK (vc2 K3 v) d l).next=K.next:=by rw[e];exact hnx
 have keep:∀u,u≠v->K.st u=2\/K.st u=3->(endK (vc2 K3 v) d l).st u=K.st u:=fun u hn h=>by
  have h2:(vc2 K3 v).st u=K.st u:=by
   rw[hst, <-M.old (u:=u) (by omega)];exact if_neg hn
  rcases E.st u with x|x<;>omega
 have hmay:∀B,(P3.wipe v).may B->P.may B:=fun B h=>M.may B (hm B h);have nx:(endK (vc2 K3 v) d l).next-3*(cntS (endK (vc2 K3 v) d l).st 3:Nat)<=K.next-3*(cntS K.st 3:Nat):=by rw[h3,hn'];exact Int.le_refl _
 refine⟨.inl rfl,⟨k,W⟩,fun u hu hn h=>?_,fun u hu h=>?_,fun _ x=>?_,fun B h=>I.may B (hmay B h),Int.le_trans nx I.nx,by rw[hn'];exact I.le,by rw[e];exact r1.trans I.qu,by rw[e];exact r2.trans I.cur,I.tg.trans (M.tgk.trans htg),fun _=>(by unfold wornB at hw ⊢;rw[h3];exact hw),fun β R hf' hr=>?_⟩
 ·have:=I.st2 u hu hn h;rw[keep u hn (.inl this)];exact this
 ·have:=I.st3 u hu h;rw[keep u (fun x=>by rw[x] at this;omega) (.inr this)];exact this
 ·have:=I.ff x;rw[hf] at this
  cases this
 ·exact⟨rfl,I.room_end M (K2:=vc2 K3 v) (.inl hst) ⟨rfl,rfl,rfl⟩ E (by rw[C.len];omega) hmay nx β R hf' hr⟩
theorem VI.said(I:VI a v f0 r0 K0 P0 f r K P)(hle:cntS K.st 3<=1)(M:VM a v K P d os.length K3 P3)(C:Cpd K3 P3 v d os l)(hwhy:f=true\/(r=true/\cntS K.st 3<=1)\/P.may v)(hw:wornB K.st=false)(h7:os.length<=7)(hall:∀o,o<24->K3.at_ o≠0->(K3.at_ o-1)/8=v->o∈os)(hlen:os.length<=(ofL K.ow v).length)(hnx:K3.next=K.next)(hn:K3.next<1099511627775)
  {F:Nat->Int} (hF:Hl.HB F) (hq:∀q,q≠d*8+os.length->P'.pg q=P3.pg q) (hp:P'.pg (d*8+os.length)=.full (syTag K3 (d*8+os.length)) (ptN (stC (sqK K3) K3.next v))) (hm:∀B,P'.may B->P3.may B):VacW a v f0 r0 K0 P0 (syK K3 F v d os.length l) P' 0:=by
 obtain⟨k,w3⟩:=M.w;have hv:=I.hv;have v2:=I.v2;have v3:K3.st v=2:=by rw[M.old (by omega)];exact v2
 obtain⟨c3,c0⟩:=M.cnt;have hw3:wornB K3.st=false:=by
  unfold wornB at hw ⊢;rw[c3];exact hw
 obtain⟨W,E,⟨st,fo,fb,fi,A,O,En,Mo,G,e⟩,-,htg0⟩:=w3.said hw3 hv v3 M.dst C h7 hall hn hF hq hp;have htg:TagK K3 (syK K3 F v d os.length l):=fun o ho=>htg0 o ho;obtain⟨r1,r2,r3,r4,r5,r6,r7,_⟩:=M.rest;obtain⟨s0,s3⟩:=cntS_same E.st;have q3:=cnt3_upd (st:=K3.st) hv (by omega);have h3:cntS (syK K3 F v d os.length l).st 3=cntS K.st 3+1:=by rw[s3];show cntS (updf K3.st v 3) 3=_;omega
 have hn':(syK K3 F v d os.length l).next=K.next+1:=by rw[e];show K3.next+1=_;rw[hnx]
 have hvb:(syK K3 F v d os.length l).st v=3:=by
  have x3:updf K3.st v 3 v=3:=if_pos rfl;rcases E.st v with x|x
  ·exact x.trans x3
  ·have x1:updf K3.st v 3 v=1:=x.1;omega
 have keep:∀u,u≠v->K.st u=2\/K.st u=3->(syK K3 F v d os.length l).st u=K.st u:=fun u hn h=>by
  have h2:updf K3.st v 3 u=K.st u:=by
   rw[<-M.old (u:=u) (by omega)];exact if_neg hn
  rcases E.st u with x|x
  ·exact x.trans h2
  ·have x1:updf K3.st v 3 u=1:=x.1;omega
 have hmay:∀B,P'.may B->P.may B:=fun B h=>M.may B (hm B h);have nx:(syK K3 F v d os.length l).next-3*(cntS (syK K3 F v d os.length l).st 3:Nat)<=K.next-3*(cntS K.st 3:Nat):=by rw[h3,hn'];omega
 refine⟨.inl rfl,⟨_,W⟩,fun u hu hn h=>?_,fun u hu h=>?_,fun _ x=>⟨hvb,I.v0⟩,fun B h=>I.may B (hmay B h),Int.le_trans nx I.nx,by rw[hn'];have:=I.le;omega,by rw[e];exact r1.trans I.qu,by rw[e];exact r2.trans I.cur,I.tg.trans (M.tgk.trans htg),fun _=>(by unfold wornB;rw[h3];exact decide_eq_false (by omega)),fun β R hf' hr=>?_⟩
 ·have:=I.st2 u hu hn h;rw[keep u hn (.inl this)];exact this
 ·have:=I.st3 u hu h;rw[keep u (fun x=>by rw[x] at this;omega) (.inr this)];exact this
 ·exact⟨rfl,I.room_end M (K2:={ K3 with st:=updf K3.st v 3 }) (.inr ⟨rfl,hwhy⟩) ⟨rfl,rfl,rfl⟩ E (by omega) hmay nx β R hf' hr⟩
theorem VI.out(I:VI a v f0 r0 K0 P0 f r K P)(M:VM a v K P d n K3 P3)(hnx:K3.next=K.next)(hge:1099511627775<=K3.next):VacW a v f0 r0 K0 P0 K3 P3 14:=by
 obtain⟨r1,r2,r3,r4,r5,r6,r7,_⟩:=M.rest;obtain⟨c3,c0⟩:=M.cnt;refine⟨.inr rfl,M.w,fun u hu hn h=>?_,fun u hu h=>?_,fun x=>(by cases x),fun B h=>I.may B (M.may B h),by rw[c3,hnx];exact I.nx,by rw[hnx];exact I.le,r1.trans I.qu,r2.trans I.cur,I.tg.trans M.tgk,fun x=>(by cases x),fun β R hf' hr=>?_⟩
 ·have:=I.st2 u hu hn h;rw[M.old (by omega)];exact this
 ·have:=I.st3 u hu h;rw[M.old (by omega)];exact this
 ·obtain⟨R1,_⟩:=I.room β R hf' hr;have:=R1.nx;have:=R1.lim;have:=R1.bd;omega
theorem VI.efail(I:VI a v f0 r0 K0 P0 f r K P)(M:VM a v K P d n K3 P3)(hnx:K3.next=K.next)(hl:2<=cntS K.st 3)(hmv:P.may v):VacW a v f0 r0 K0 P0 { K3 with st:=setSt (setSt K3.st d 2) v 3 } P3 14:=by
 obtain⟨r1,r2,r3,r4,r5,r6,r7,_⟩:=M.rest;obtain⟨c3,c0⟩:=M.cnt;obtain⟨k,w3⟩:=M.w;have hv:=I.hv;have v2:=I.v2;have hdv:=M.dv;have hd:=M.st0.1;have v3:K3.st v=2:=by rw[M.old (by omega)];exact v2
 have sd:=M.sd;have e1:setSt K3.st d 2=updf K3.st d 2:=if_neg (fun x=>by omega);have e2:∀s:Nat->Nat,setSt s v 3=updf s v 3:=fun s=>if_neg (fun x=>x.2 rfl);rw[e1,e2];have w4:=w3.set2 hd sd M.dst.fr;have s2v:updf K3.st d 2 v=2:=by unfold updf;rw[if_neg (fun x=>hdv x.symm)];exact v3
 have q3:=cntS_upd K3.st 2 3 hd;rw[if_neg (by omega),if_neg (by omega)] at q3;have q4:=cnt3_upd (st:=updf K3.st d 2) hv (by omega);have keep:∀u,u≠v->K.st u=2\/K.st u=3->updf (updf K3.st d 2) v 3 u=K.st u:=fun u hn h=>by
  have hud:u≠d:=fun x=>by have:=M.st0.2;rw[x] at h;omega
  have h2:=M.old (u:=u) (by omega);unfold updf;rw[if_neg hn,if_neg hud];exact h2
 refine⟨.inr rfl,⟨k,w4.set3 hv (fun hfo e=>?_) (.inr ?_) K3.F w3.hb⟩,fun u hu hn h=>?_,fun u hu h=>?_,fun x=>(by cases x),fun B h=>I.may B (M.may B h),?_,by show K0.next<=K3.next;rw[hnx];exact I.le,r1.trans I.qu,r2.trans I.cur,I.tg.trans M.tgk,fun x=>(by cases x),fun β R hf' hr=>?_⟩
 ·have h1:=w3.f1 hfo;have e:K3.fb=v:=e;rw[e] at h1;omega
 ·unfold wornB;exact decide_eq_true (by show 2<cntS (updf (updf K3.st d 2) v 3) 3;omega)
 ·have:=I.st2 u hu hn h;show updf (updf K3.st d 2) v 3 u=2;rw[keep u hn (.inl this)];exact this
 ·have:=I.st3 u hu h;show updf (updf K3.st d 2) v 3 u=3;rw[keep u (fun x=>by rw[x] at this;omega) (.inr this)];exact this
 ·have:=I.nx;show K3.next-3*(cntS (updf (updf K3.st d 2) v 3) 3:Nat)<=_;omega
 ·obtain⟨R1,_⟩:=I.room β R hf' hr;obtain⟨x,x1,x2⟩:=R1.x;have:=x1 v hv hmv;subst this;rcases x2 hv hmv with y|y<;>omega
theorem VI.dfail(I:VI a v f0 r0 K0 P0 f r K P)(M:VM a v K P d n K3 P3)(hmd:P.may d){f' r':Bool}(hff:f=true->f'=true)(hf':f'=true->f=true\/P.may v)(hr':r'=true->r=true) :
  (∃k,Wi a k { K3 with st:=setSt K3.st d 3 } P3)/\cntS (setSt K3.st d 3) 3=cntS K.st 3+1 /\
  (f'=true->2<=cntS (setSt K3.st d 3) 3->VacW a v f0 r0 K0 P0 { K3 with st:=setSt (setSt K3.st d 3) v 3 } P3 14) /\
  ∀K5 P5 e,BadW a { K3 with st:=setSt K3.st d 3 } P3 K5 P5 e->(e=0->VI a v f0 r0 K0 P0 f' r' K5 P5/\cntS K.st 3<cntS K5.st 3)/\(e=14->VacW a v f0 r0 K0 P0 K5 P5 14):=by
 obtain⟨r1,r2,r3,r4,r5,r6,r7,r8,r9⟩:=M.rest;obtain⟨c3,c0⟩:=M.cnt;obtain⟨k,w3⟩:=M.w;have hv:=I.hv;have v2:=I.v2;have hdv:=M.dv;have hd:=M.st0.1;have hd0:=M.st0.2;have v3:K3.st v=2:=by rw[M.old (by omega)];exact v2
 have sd:=M.sd;have e2:∀(s:Nat->Nat) (b:Nat),setSt s b 3=updf s b 3:=fun s b=>if_neg (fun x=>x.2 rfl);rw[e2,e2];have q3:=cnt3_upd (st:=K3.st) hd (by omega);have q0:=cnt0_upd (st:=K3.st) (b:=d) (x:=3) hd (by omega) (by omega);have w4:=w3.set3 hd M.dst.fr (.inl M.dst.dead) K3.F w3.hb;have w4:Wi a k { K3 with st:=updf K3.st d 3 } P3:=w4;have s4v:updf K3.st d 3 v=2:=by unfold updf;rw[if_neg (fun x=>hdv x.symm)];exact v3
 have q4:=cnt3_upd (st:=updf K3.st d 3) hv (by omega);have keep:∀u,K.st u=2\/K.st u=3->updf K3.st d 3 u=K.st u:=fun u h=>by
  have hud:u≠d:=fun x=>by rw[x] at h;omega
  have h2:=M.old (u:=u) (by omega);unfold updf;rw[if_neg hud];exact h2
 have ffr:∀β,Rm β K0 P0->(f0=true->P0.may v)->(r0=true->∀B,B<12->¬P0.may B)->f'=false/\r'=false/\cntS K.st 3<=1/\(∀B,B<12->P.may B->B=d):=fun β R hf hr=>by
  obtain⟨R1,m1,n1,_⟩:=I.room β R hf hr;obtain⟨x,x1,x2⟩:=R1.x;have hxd:=x1 d hd hmd;subst hxd;refine⟨?_,?_,?_,x1⟩
  ·cases hfe:f'
   ·rfl
   ·have hmv:P.may v:=by
     rcases hf' hfe with y|y
     ·exact m1 y
     ·exact y
    exact absurd (x1 v hv hmv).symm hdv
  ·cases hre:r'
   ·rfl
   ·exact absurd hmd (n1 (hr' hre) _ hd)
  ·rcases x2 hd hmd with y|y<;>omega
 refine⟨⟨k,w4⟩,by omega,fun hf hl=>?_,fun K5 P5 e B=>⟨fun he=>?_,fun he=>?_⟩⟩
 ·refine⟨.inr rfl,⟨k,w4.set3 hv (fun hfo e=>?_) (.inr ?_) K3.F w3.hb⟩,fun u hu hn h=>?_,fun u hu h=>?_,fun x=>(by cases x),fun B h=>I.may B (M.may B h),?_,by show K0.next<=K3.next;have:=I.le;omega,r1.trans I.qu,r2.trans I.cur,I.tg.trans M.tgk,fun x=>(by cases x),fun β R hf2 hr=>?_⟩
  ·have h1:=w3.f1 hfo;have e:K3.fb=v:=e;rw[e] at h1;omega
  ·unfold wornB;exact decide_eq_true (by show 2<cntS (updf (updf K3.st d 3) v 3) 3;omega)
  ·have:=I.st2 u hu hn h;show updf (updf K3.st d 3) v 3 u=2;rw[show updf (updf K3.st d 3) v 3 u=updf K3.st d 3 u from if_neg hn,keep u (.inl this)];exact this
  ·have:=I.st3 u hu h;show updf (updf K3.st d 3) v 3 u=3;rw[show updf (updf K3.st d 3) v 3 u=updf K3.st d 3 u from if_neg (fun x=>by rw[x] at this;omega),keep u (.inr this)];exact this
  ·have:=I.nx;show K3.next-3*(cntS (updf (updf K3.st d 3) v 3) 3:Nat)<=_;omega
  ·rw[(ffr β R hf2 hr).1] at hf
   cases hf
 ·subst he;have s3:∀u,u<12->K.st u=3->K5.st u=3:=fun u hu h=>B.st3 u hu (by show updf K3.st d 3 u=3;rw[keep u (.inr h)];exact h);have c5:cntS K.st 3+1<=cntS K5.st 3:=by
   have:=cnt3_le B.st3;have:cntS (updf K3.st d 3) 3<=cntS K5.st 3:=this;omega
  have nx5:=B.nx;have nx5:K5.next-3*(cntS K5.st 3:Nat)<=K3.next-3*(cntS (updf K3.st d 3) 3:Nat)+1:=nx5;have le5:K3.next<=K5.next:=B.le;have nx5':K5.next-3*(cntS K5.st 3:Nat)<=K.next-3*(cntS K.st 3:Nat):=by omega
  refine⟨⟨hv,I.v0,B.w,B.st2 v hv s4v,fun u hu hn h=>B.st2 u hu ?_,fun u hu h=>s3 u hu (I.st3 u hu h),fun b h=>I.may b (M.may b (B.may b h)),Int.le_trans nx5' I.nx,by have:=I.le;omega,B.qu.trans (r1.trans I.qu),B.cur.trans (r2.trans I.cur),I.tg.trans (M.tgk.trans B.tg),fun x=>hff (I.ff x),fun β R hf hr=>?_⟩,by omega⟩
  ·have:=I.st2 u hu hn h;show updf K3.st d 3 u=2;rw[keep u (.inl this)];exact this
  ·obtain⟨g1,g2,g3,g4⟩:=ffr β R hf hr;obtain⟨R1,m1,n1,o1⟩:=I.room β R hf hr;have hfree:=R1.free;have Rb':Rb (β-2) { K3 with st:=updf K3.st d 3 } P3:=by
    refine⟨fun b hb e=>?_,by show cntS (updf K3.st d 3) 3<=2;omega,fun b hb hm=>?_,.inr (by show 1<=cntS (updf K3.st d 3) 0;omega),by have:=R1.nx;show K3.next-3*(cntS (updf K3.st d 3) 3:Nat)<=β-2;omega,by have:=R1.lim;omega⟩
    ·have e:updf K3.st d 3 b=1:=e;have hbd:b≠d:=fun x=>by
      rw[x] at e;have:updf K3.st d 3 d=3:=if_pos rfl;omega
     unfold updf at e;rw[if_neg hbd,M.ne hbd] at e;have:=R1.opn b hb e;exact⟨r3.trans this.1,r4.trans this.2⟩
    ·rw[g4 b hb (M.may b hm)];exact if_pos rfl
   obtain⟨_,b1,b2,b3,b4⟩:=B.room _ Rb';have b2:cntS K5.st 3=cntS (updf K3.st d 3) 3:=b2;have b3:cntS (updf K3.st d 3) 0<=cntS K5.st 0+1:=b3;have hd5:K5.st d=3:=B.st3 d hd (if_pos rfl);refine⟨⟨b1,by omega,by omega,⟨d,fun b hb hm=>g4 b hb (M.may b (B.may b hm)),fun _ _=>.inl hd5⟩,by have:=R1.nx;omega,R1.lim⟩,fun x=>(by rw[g1] at x;cases x),fun x=>(by rw[g2] at x;cases x),fun hfo=>?_⟩;rcases o1 hfo with⟨y1,y2⟩|⟨y1,y2,y3⟩
   ·obtain⟨z1,z2⟩:=b4 (r3.trans y1);exact .inr ⟨z1,z2,fun b hb hm=>by rw[g4 b hb (M.may b (B.may b hm))];exact hd5⟩
   ·have:=y3 d hd hmd;omega
 ·subst he;have s3:∀u,u<12->K.st u=3->K5.st u=3:=fun u hu h=>B.st3 u hu (by show updf K3.st d 3 u=3;rw[keep u (.inr h)];exact h);have nx5:K5.next-3*(cntS K5.st 3:Nat)<=K3.next-3*(cntS (updf K3.st d 3) 3:Nat)+1:=B.nx;have le5:K3.next<=K5.next:=B.le;have nx5':K5.next-3*(cntS K5.st 3:Nat)<=K.next-3*(cntS K.st 3:Nat):=by omega
  refine⟨.inr rfl,B.w,fun u hu hn h=>B.st2 u hu ?_,fun u hu h=>s3 u hu (I.st3 u hu h),fun x=>(by cases x),fun b h=>I.may b (M.may b (B.may b h)),Int.le_trans nx5' I.nx,by have:=I.le;omega,B.qu.trans (r1.trans I.qu),B.cur.trans (r2.trans I.cur),I.tg.trans (M.tgk.trans B.tg),fun x=>(by cases x),fun β R hf hr=>?_⟩
  ·have:=I.st2 u hu hn h;show updf K3.st d 3 u=2;rw[keep u (.inl this)];exact this
  ·obtain⟨g1,g2,g3,g4⟩:=ffr β R hf hr;obtain⟨R1,m1,n1,o1⟩:=I.room β R hf hr;have hfree:=R1.free;have Rb':Rb (β-2) { K3 with st:=updf K3.st d 3 } P3:=by
    refine⟨fun b hb e=>?_,by show cntS (updf K3.st d 3) 3<=2;omega,fun b hb hm=>?_,.inr (by show 1<=cntS (updf K3.st d 3) 0;omega),by have:=R1.nx;show K3.next-3*(cntS (updf K3.st d 3) 3:Nat)<=β-2;omega,by have:=R1.lim;omega⟩
    ·have e:updf K3.st d 3 b=1:=e;have hbd:b≠d:=fun x=>by
      rw[x] at e;have:updf K3.st d 3 d=3:=if_pos rfl;omega
     unfold updf at e;rw[if_neg hbd,M.ne hbd] at e;have:=R1.opn b hb e;exact⟨r3.trans this.1,r4.trans this.2⟩
    ·rw[g4 b hb (M.may b hm)];exact if_pos rfl
   have:=(B.room _ Rb').1;omega
end
section
variable{a:Nat->Nat->Nat}{k:Cp}{K:KS}{P P':CS}
theorem Wi.torn(h:Wi a k K P){of:Nat}(ho:of<=24)(hr:roomB K.fo K.fi of=true)(hn:K.next<1099511627775)(hL:Lk P P' (K.fb*8+K.fi))(hnf:nf (P'.pg (K.fb*8+K.fi))):Wi a k (tkK (sqK K)) P':=by
 have Fr:=h.fresh ho hr;have h8:=Fr.fi;have hfb:(K.fb*8+K.fi)/8=K.fb:=by omega
 exact((h.seq hn).next (of:=of) hr).cell Fr.lt (by rw[hfb];exact Fr.st) Fr.bl (fun _ _=>by show(K.fb*8+K.fi)%8<K.fi+1;omega) hL.pg (.inl hnf)
theorem Wi.torn_tw(h:Wi a k K P){of:Nat}(ho:of<=24)(hr:roomB K.fo K.fi of=true)(hn:K.next<1099511627775)(hL:Lk P P' (K.fb*8+K.fi))(hnf:nf (P'.pg (K.fb*8+K.fi))):Tw P' 1099511627775 a:=by
 have w:=h.torn ho hr hn hL hnf;exact⟨k,_,w.mt.mono w.nx.2,w.sh⟩
end
structure BI(a:Nat->Nat->Nat)(K0:KS)(P0:CS)(K:KS)(P:CS):Prop where
 w:∃k,Wi a k K P
 st2:∀u,u<12->K0.st u=2->K.st u=2
 st3:∀u,u<12->K0.st u=3->K.st u=3
 may:∀B,P.may B->P0.may B
 nx:K.next-3*(cntS K.st 3:Nat)<=K0.next-3*(cntS K0.st 3:Nat)
 le:K0.next<=K.next
 qu:K.qu=K0.qu
 cur:K.cur=K0.cur
 tg:TagK K0 K
 room:∀β,Rb β K0 P0->K=K0
structure BO(a:Nat->Nat->Nat)(K Kf:KS)(P:CS):Prop where
 w:∃k,Wi a k Kf P
 room:roomB Kf.fo Kf.fi 24=true
 eq:∃st pn fo fb fi,Kf={ K with st:=st,pn:=pn,fo:=fo,fb:=fb,fi:=fi }
 st:∀u,u<12->K.st u=2\/K.st u=3->Kf.st u=K.st u
 c3:cntS Kf.st 3=cntS K.st 3
 c0:cntS K.st 0<=cntS Kf.st 0+1
 opn:(∀b,b<12->K.st b=1->K.fo=true/\K.fb=b)->∀b,b<12->Kf.st b=1->Kf.fo=true/\Kf.fb=b
 fi:K.fo=false->Kf.fi=0
section
variable{a:Nat->Nat->Nat}{K0 K Kf K':KS}{P0 P P' P6:CS}
theorem BO.same{k:Cp}(h:Wi a k K P)(hr:roomB K.fo K.fi 24=true):BO a K K P :=
 ⟨⟨k,h⟩,hr,⟨_,_,_,_,_,rfl⟩,fun _ _ _=>rfl,rfl,by omega,fun x=>x,fun x=>by
  unfold roomB at hr;rw[x] at hr
  cases hr⟩
theorem BO.taken{k:Cp}(h:Wi a k K P){e:Nat}(ht:takeN (shK K).st (shK K).pn=some e):BO a K { shK K with st:=updf (shK K).st e 1,pn:=e+1,fo:=true,fb:=e,fi:=0 } P:=by
 obtain⟨w,S⟩:=h.shut;obtain⟨hd,h0⟩:=takeFrom_lt ht;obtain⟨s0,s3⟩:=cntS_same S.st;have h1:=cntS_upd (shK K).st 1 3 hd;have h2:=cntS_upd (shK K).st 1 0 hd;rw[if_neg (by omega),if_neg (by omega)] at h1;rw[if_pos h0,if_neg (by omega)] at h2;obtain⟨st,fo,fb,fi,ee⟩:=S.eq;refine⟨⟨k,w.opn S.fo ht⟩,rfl,⟨_,_,_,_,_,by rw[ee]⟩,fun u hu hs=>?_,?_,?_,fun ho b hb e1=>⟨rfl,?_⟩,fun _=>rfl⟩
 ·have hue:u≠e:=fun x=>by
   rw[<-x] at h0;rcases S.st u with y|y<;>omega
  show updf (shK K).st e 1 u=_;unfold updf;rw[if_neg hue];rcases S.st u with y|y
  ·exact y
  ·omega
 ·show cntS (updf (shK K).st e 1) 3=_;omega
 ·show cntS K.st 0<=cntS (updf (shK K).st e 1) 0+1;omega
 ·have e1:updf (shK K).st e 1 b=1:=e1;show e=b;by_cases hbe:b=e
  ·exact hbe.symm
  ·unfold updf at e1;rw[if_neg hbe] at e1;have hb1:K.st b=1:=by
    rcases S.st b with y|y<;>omega
   obtain⟨y1,y2⟩:=ho b hb hb1;have:=S.front y1;rw[y2] at this;omega
theorem BO.tgk(O:BO a K Kf P):TagK K Kf:=by
 obtain⟨st,pn,fo,fb,fi,e⟩:=O.eq;exact .same (by rw[e]) (by rw[e])
theorem BI.start{k:Cp}(h:Wi a k K P):BI a K P K P:=⟨⟨k,h⟩,fun _ _ x=>x,fun _ _ x=>x,fun _ x=>x,Int.le_refl _,Int.le_refl _,rfl,rfl,TagK.refl K,fun _ _=>rfl⟩
section
variable(I:BI a K0 P0 K P)
include I
theorem BI.worn(hw:wornB K.st=true):BadW a K0 P0 K P 14 :=
 ⟨.inr rfl,I.w,I.st2,I.st3,I.may,by have:=I.nx;omega,I.le,I.qu,I.cur,I.tg,fun x=>(by cases x),fun β R=>by
  have:=I.room β R;subst this;have:=R.bd;unfold wornB at hw;have:=of_decide_eq_true hw;omega⟩
theorem BI.none(hr:roomB K.fo K.fi 24=false)(ht:takeN (shK K).st (shK K).pn=none):BadW a K0 P0 (shK K) P 14:=by
 obtain⟨k,w⟩:=I.w;obtain⟨w',S⟩:=w.shut;obtain⟨s0,s3⟩:=cntS_same S.st;obtain⟨st,fo,fb,fi,ee⟩:=S.eq;have keep:∀u,K.st u=2\/K.st u=3->(shK K).st u=K.st u:=fun u h=>by
  rcases S.st u with y|y
  ·exact y
  ·omega
 refine⟨.inr rfl,⟨k,w'⟩,fun u hu h=>?_,fun u hu h=>?_,I.may,?_,by rw[ee];exact I.le,by rw[ee];exact I.qu,by rw[ee];exact I.cur,I.tg.trans (.same (by rw[ee]) (by rw[ee])),fun x=>(by cases x),fun β R=>?_⟩
 ·have:=I.st2 u hu h;rw[keep u (.inl this)];exact this
 ·have:=I.st3 u hu h;rw[keep u (.inr this)];exact this
 ·have e:(shK K).next=K.next:=by rw[ee]
  rw[s3,e];have:=I.nx;omega
 ·have:=I.room β R;subst this;rcases R.free with y|y
  ·rw[hr] at y;cases y
  ·obtain⟨d,hd,_⟩:=takeN_some w'.pn (st:=(shK K).st) (by omega);rw[ht] at hd
   cases hd
variable(O:BO a K Kf P)
include O
theorem BI.out(hge:1099511627775<=Kf.next):BadW a K0 P0 (tkK Kf) P 14:=by
 obtain⟨k,w⟩:=O.w;obtain⟨_,_,_,_,_,e⟩:=O.eq;have hnx:Kf.next=K.next/\Kf.qu=K.qu/\Kf.cur=K.cur:=by rw[e];exact⟨rfl,rfl,rfl⟩
 refine⟨.inr rfl,⟨k,w.next O.room⟩,fun u hu h=>?_,fun u hu h=>?_,I.may,?_,by show K0.next<=Kf.next;rw[hnx.1];exact I.le,hnx.2.1.trans I.qu,hnx.2.2.trans I.cur,I.tg.trans O.tgk,fun x=>(by cases x),fun β R=>?_⟩
 ·have:=I.st2 u hu h;exact(O.st u hu (.inl this)).trans this
 ·have:=I.st3 u hu h;exact(O.st u hu (.inr this)).trans this
 ·have:=I.nx;show Kf.next-3*(cntS Kf.st 3:Nat)<=_;rw[O.c3,hnx.1];omega
 ·have:=I.room β R;subst this;have:=R.nx;have:=R.lim;have:=R.bd;omega
theorem BI.noted(hw:wornB K.st=false)(hn:Kf.next<1099511627775)(hL:Lk P P' (Kf.fb*8+Kf.fi))(hp:P'.pg (Kf.fb*8+Kf.fi)=.full (nwTag Kf 24) (noteD (sqK Kf) Kf.next)):BadW a K0 P0 (lyK Kf 24) P' 0:=by
 obtain⟨k,w⟩:=O.w;obtain⟨_,_,_,_,_,e⟩:=O.eq;have hnx:Kf.next=K.next/\Kf.qu=K.qu/\Kf.cur=K.cur:=by rw[e];exact⟨rfl,rfl,rfl⟩
 have hwf:wornB Kf.st=false:=by
  unfold wornB at hw ⊢;rw[O.c3];exact hw
 obtain⟨W,ow,F,calls,ee⟩:=w.noted hwf O.room hn hL.pg hp;have hst:(lyK Kf 24).st=Kf.st:=by rw[ee]
 refine⟨.inl rfl,⟨_,W⟩,fun u hu h=>?_,fun u hu h=>?_,fun B h=>I.may B (hL.may B h),?_,?_,?_,?_,I.tg.trans (O.tgk.trans ?_),fun _=>(by rw[hst];exact hwf),fun β R=>⟨rfl,?_,?_,?_,fun hf=>?_⟩⟩
 ·have:=I.st2 u hu h;rw[hst];exact(O.st u hu (.inl this)).trans this
 ·have:=I.st3 u hu h;rw[hst];exact(O.st u hu (.inr this)).trans this
 ·have:=I.nx;rw[hst,O.c3,show(lyK Kf 24).next=Kf.next+1 by rw[ee],hnx.1];omega
 ·rw[show(lyK Kf 24).next=Kf.next+1 by rw[ee],hnx.1];have:=I.le;omega
 ·rw[show(lyK Kf 24).qu=Kf.qu by rw[ee]];exact hnx.2.1.trans I.qu
 ·rw[show(lyK Kf 24).cur=Kf.cur by rw[ee]];exact hnx.2.2.trans I.cur
 ·intro o ho e;rw[ee];show updf Kf.at_ 24 (Kf.fb*8+Kf.fi+1) o≠0/\(updf Kf.en 24 ⟨Kf.next,0,false⟩ o).seq=(Kf.en o).seq;unfold updf;rw[if_neg (by omega),if_neg (by omega)];exact⟨e,rfl⟩
 ·have:=I.room β R;subst this;intro b hb e1;rw[hst] at e1;rw[show(lyK Kf 24).fo=Kf.fo by rw[ee],show(lyK Kf 24).fb=Kf.fb by rw[ee]];exact O.opn R.opn b hb e1
 ·have:=I.room β R;subst this;rw[hst];exact O.c3
 ·have:=I.room β R;subst this;rw[hst];exact O.c0
 ·have:=I.room β R;subst this;rw[show(lyK Kf 24).fo=Kf.fo by rw[ee],show(lyK Kf 24).fi=Kf.fi+1 by rw[ee],O.fi hf];have:=O.room;unfold roomB at this;simp only[Bool.and_eq_true] at this;exact⟨this.1,by omega⟩
theorem BI.vac(hm6:∀B,P6.may B->P.may B)(hmf:P.may Kf.fb){e:Int}(V:VacW a Kf.fb true false (tkK (sqK Kf)) P6 K' P' e):BadW a K0 P0 K' P' e:=by
 obtain⟨k,w⟩:=O.w;obtain⟨_,_,_,_,_,ee⟩:=O.eq;have hnx:Kf.next=K.next/\Kf.qu=K.qu/\Kf.cur=K.cur:=by rw[ee];exact⟨rfl,rfl,rfl⟩
 have Fr:=w.fresh (Nat.le_refl 24) O.room;have ne:∀u,u<12->K.st u=2->u≠Kf.fb:=fun u hu h x=>by
  have h1:=O.st u hu (.inl h);have h2:=Fr.st;rw[x] at h1;rw[x] at h;omega
 refine⟨V.er,V.w,fun u hu h=>?_,fun u hu h=>?_,fun B h=>I.may B (hm6 B (V.may B h)),?_,?_,V.qu.trans (hnx.2.1.trans I.qu),V.cur.trans (hnx.2.2.trans I.cur),I.tg.trans (O.tgk.trans V.tg),V.nw,fun β R=>?_⟩
 ·have h1:=I.st2 u hu h;exact V.st2 u hu (ne u hu h1) ((O.st u hu (.inl h1)).trans h1)
 ·have h1:=I.st3 u hu h;exact V.st3 u hu ((O.st u hu (.inr h1)).trans h1)
 ·have h1:=V.nx;have h1:K'.next-3*(cntS K'.st 3:Nat)<=Kf.next+1-3*(cntS Kf.st 3:Nat):=h1;have:=I.nx;rw[O.c3,hnx.1] at h1;omega
 ·have h1:Kf.next+1<=K'.next:=V.le;have:=I.le;omega
 ·have:=I.room β R;subst this;have h1:=R.may Kf.fb w.fb (I.may _ hmf);have h2:=O.st Kf.fb w.fb (.inr h1);have:=Fr.st;omega
theorem BI.again(hn:Kf.next<1099511627775)(hL:Lk P P6 (Kf.fb*8+Kf.fi))(hnf:nf (P6.pg (Kf.fb*8+Kf.fi)))(hmf:P.may Kf.fb)(hl:lv Kf.at_ Kf.fb=0) :
  BI a K0 P0 { sqK Kf with fo:=false,fb:=0,fi:=0,st:=setSt Kf.st Kf.fb 3 } P6/\cntS (setSt Kf.st Kf.fb 3) 3=cntS K.st 3+1:=by
 obtain⟨k,w⟩:=O.w;obtain⟨_,_,_,_,_,ee⟩:=O.eq;have hnx:Kf.next=K.next/\Kf.qu=K.qu/\Kf.cur=K.cur:=by rw[ee];exact⟨rfl,rfl,rfl⟩
 have Fr:=w.fresh (Nat.le_refl 24) O.room;have w6:=w.torn (Nat.le_refl _) O.room hn hL hnf;have w7:=w6.close (lv_zero.1 hl);have hfb:=w.fb;have w8:=w7.set3 hfb (fun x=>(by cases x)) (.inl (lv_zero.1 hl)) Kf.F w.hb;have e3:setSt Kf.st Kf.fb 3=updf Kf.st Kf.fb 3:=if_neg (fun x=>x.2 rfl);have hs:=Fr.st;have c3:=cnt3_upd (st:=Kf.st) hfb (by omega);rw[e3];have keep:∀u,u<12->K.st u=2\/K.st u=3->updf Kf.st Kf.fb 3 u=K.st u:=fun u hu h=>by
  have h1:=O.st u hu h;unfold updf;rw[if_neg (fun x=>by rw[x] at h1 h;omega)];exact h1
 have hc:=O.c3;refine⟨⟨⟨k,w8⟩,fun u hu h=>?_,fun u hu h=>?_,fun B h=>I.may B (hL.may B h),?_,?_,hnx.2.1.trans I.qu,hnx.2.2.trans I.cur,I.tg.trans O.tgk,fun β R=>?_⟩,by omega⟩
 ·have h1:=I.st2 u hu h;exact(keep u hu (.inl h1)).trans h1
 ·have h1:=I.st3 u hu h;exact(keep u hu (.inr h1)).trans h1
 ·have:=I.nx;show Kf.next+1-3*(cntS (updf Kf.st Kf.fb 3) 3:Nat)<=_;omega
 ·have:=I.le;show K0.next<=Kf.next+1;omega
 ·have:=I.room β R;subst this;have h1:=R.may Kf.fb w.fb (I.may _ hmf);have h2:=O.st Kf.fb w.fb (.inr h1);omega
end
end
section
variable{w w':World}{N:Cr}{K:KS}{X:Option Addr}{c:Nat}{P:CS}{b:Option Nat}{n:Int}
theorem On.keepX{w1 w2:World}{K0:KS}{P0:CS}{b0:Option Nat}{n0:Int}{S:List Nat}(h0:On w N K0 P0 b0 n0 X c)(h:MedX w1 N.N P n)(k:Keep S w1 w2)(hS:∀x,x∈S->w.heap.size<=x):MedX w2 N.N P n:=by
 obtain⟨C0,M0,-⟩:=h0.med;have hl:=M0.lt;have no:∀y,y<w.heap.size->y∉S:=fun y hy hm=>by have:=hS y hm;omega
 exact h.keep k ⟨no _ hl.1,no _ hl.2.1,no _ hl.2.2.1,no _ hl.2.2.2.1,no _ hl.2.2.2.2.1,no _ hl.2.2.2.2.2⟩
theorem cseq14_ok(h:On w N K P b n X c)(hn:1099511627775<=K.next):Spec Tryz.prog 107 #[.pointer (some ⟨N.k,0,none⟩)] w fun v w'=>v=.tuple #[.int .i64 0,errOf 14]/\w=w':=by
 refine spec_of_wpE (T:=tt) tt_ok Tryz.func107 rfl (by decide +kernel) Tryz.ntmps107 (by simp) ?_;conv=>whnf
 repeat ((first|(refine Ld.of h.core.c106 ?_)|refine Br.y ?_|refine CW.s ?_);conv=>whnf)
 exact⟨rfl,rfl,rfl⟩
theorem worn'_ok(h:On w N K P b n X c){v:Nat}(hv:v<12):Spec Tryz.prog 146 #[.pointer (some ⟨N.k,0,none⟩),.int .i64 v] w fun u w'=>u=errOf 14/\On w' N { K with st:=setSt K.st v 3 } P b n X c/\Keep N.all w w':=by
 refine spec_of_wpE (T:=tt) tt_ok Tryz.func146 rfl (by decide +kernel) Tryz.ntmps146 (by simp) ?_;conv=>whnf
 repeat ((first|(refine Ld.of h.core.c1 ?_));conv=>whnf)
 refine Ca.of (pset_ok h.core.pool v 3 hv (by omega)) ?_;rintro _ w2 ⟨⟨e,rfl⟩,r2,k2⟩;have h2:=h.pool k2 r2;conv=>whnf
 exact⟨rfl,rfl,h2,Keep.of1 (by simp[Cr.own]) k2⟩
def SaysEnd(K:KS)(P:CS)(v p:Nat)(u:Value)(K':KS)(P':CS):Prop :=
 (1099511627775<=K.next/\u=.tuple #[.agg Tg.zero.arr,errOf 14]/\K'=K/\P'=P) \/
 (K.next<1099511627775/\Lk P P' p/\(u=.tuple #[.agg (syTag K p).arr,errOf 0]/\K'=rdK (sqK K) p/\P'.pg p=.full (syTag K p) (ptN (stC (sqK K) K.next v))\/u=.tuple #[.agg (syTag K p).arr,errOf 8]/\K'=sqK K/\nf (P'.pg p)/\P.may (p/8)))
theorem says_ok(h:On w N K P b n X c){v d i:Nat}(hv:v<12)(hd:d<12)(hi:i<8)(B:Hl.HB K.F)(hn1:1<=K.next)(ht:K.next<1099511627775->(stC (sqK K) K.next v).told)(hbl:P.pg (d*8+i)=.blank) :
  Spec Tryz.prog 150 #[.pointer (some ⟨N.k,0,none⟩),.int .i64 v,.int .i64 d,.int .i64 i] w fun u w' =>
   Fin N X c b w w' (SaysEnd K P v (d*8+i) u) (fun Q=>u=.tuple #[.agg (syTag K (d*8+i)).arr,errOf 7]/\K.next<1099511627775/\Lk P Q (d*8+i)/\nf (Q.pg (d*8+i))):=by
 refine spec_of_wpE (T:=tt) tt_ok Tryz.func150 rfl (by decide +kernel) Tryz.ntmps150 (by simp) ?_;conv=>whnf
 refine Ru.alloctg ?_;intro x8 w1 hx8 hs1 r8 k1;have h1:=h.keep0 k1;by_cases hn:K.next<1099511627775
 case neg =>
  conv=>whnf
  refine Ca.of (cseq14_ok h1 (by omega)) ?_;rintro _ _ ⟨rfl,rfl⟩;conv=>whnf
  repeat ((first|refine Br.t ?_|refine Ru.n1 ?_|refine CW.s ?_);conv=>whnf)
  refine Ru.of (build_tg0 _) ?_;conv=>whnf
  refine Ru.sttg r8 ?_;intro w2 r82 k2;have q2:Keep [] w w2:=k1.then k2 (fun x hx=>.inr (by rw[List.mem_singleton.1 hx,hx8];exact Nat.le_refl _));conv=>whnf
  refine Ru.ldtg r82 ?_;conv=>whnf
  exact⟨rfl,Keep.of0 q2,.inl ⟨K,P,b,n,id,h.keep0 q2,.inl ⟨by omega,rfl,rfl,rfl⟩⟩⟩
 have ht:=ht hn;conv=>whnf
 refine Ca.of (cseq_ok h1 ⟨by omega,hn⟩) ?_;rintro _ w2 ⟨rfl,h2,k2⟩;have far:∀x,w.heap.size<=x->x∉N.all:=fun x hx hm=>by
  have h3:x<w.heap.size:=by
   rcases List.mem_append.1 hm with hm|hm
   ·exact h.core.lt (List.mem_append_left _ hm)
   ·exact h.l_lt _ hm
  omega
 have r82:=r8.keep k2 (far x8 (by omega));have kk2:Keep N.all w w2:=(Keep.of0 k1).trans k2;conv=>whnf
 repeat ((first|refine Br.f ?_|refine Ru.neq_nil0 ?_|refine CW.s ?_);conv=>whnf)
 refine Ca.of (cstate_ok h2 K.next v) ?_;rintro _ w3 ⟨rfl,k3⟩;have h3:=h2.keep0 k3;have r83:=r82.keep k3 (by simp);conv=>whnf
 refine Ca.of (pwrite_ok w3 _ ht) ?_;rintro _ w4 ⟨y,hy,rfl,r4,k4⟩;have h4:=h3.keep0 k4;have r84:=r83.keep k4 (by simp);have kk4:Keep N.all w w4:=(kk2.trans (Keep.of0 k3)).trans (Keep.of0 k4);clear k3 k4 h3 h2 r82 r83 r8;conv=>whnf
 repeat ((first|refine Br.f ?_|refine Ar.la ?_|refine Ru.neq_nil0 ?_|refine CW.s ?_);conv=>whnf)
 refine Ru.of (build_tg3 _ _ _ _) ?_;rw[show Tg.mk ((d:Int)*8+i) 24 K.next 0 false=syTag K (d*8+i) by unfold syTag;congr 1];conv=>whnf
 refine Ru.alloctg ?_;intro x13 w5 hx13 hs5 r13a k5;conv=>whnf
 refine Ru.sttg r13a ?_;intro w6 r13 k6;have q6:Keep [] w4 w6:=k5.then k6 (fun x hx=>.inr (by rw[List.mem_singleton.1 hx,hx13];exact Nat.le_refl _));have h6:=h4.keep0 q6;have r86:=r84.keep q6 (by simp);have ry6:=r4.keep q6 (by simp);have kk6:=kk4.trans (Keep.of0 q6);have hx13w:w.heap.size<=x13:=by
  rw[hx13];exact kk4.size
 have hx813:x8≠x13:=by
  rw[hx13];have:=r84.lt;omega
 clear k5 k6 q6 h4 hs5 r13a r84 r4;conv=>whnf
 refine CW.held (fun w'=>Row w' x13 67 5 (syTag K (d*8+i)).cell) [] (.take 0 (.take 1 (.take 2 (.take 3 (.one 4 (.one 5 (.take 6 (.done)))))))) tt_ok (by kernel_rfl) (by kernel_rfl) (by kernel_rfl) ?_ ?_
 ·exact Row.drewN r13 1
 have q7:=(Keep.refl [] w6).drewN 1;have h7:=h6.keep0 q7;have r87:=r86.keep q7 (by simp);have ry7:=ry6.keep q7 (by simp);have r137:=r13.keep q7 (by simp);have kk7:=kk6.trans (Keep.of0 q7);clear h6 r86 ry6 r13 q7;generalize w6.drewN 1=w7 at *;have ly7:Ly w7 5 1 (some ⟨y,0,none⟩) 174 174 (fun j=>.int .u8 (ptN (stC (sqK K) K.next v) j:Nat)):=(Ly.of_row ry7 (by omega) (by omega) (by simp[maxLen])).congr (fun j hj=>by rw[ptN_int]);conv=>whnf
 repeat ((first|(refine RuQ.ldtg (fun _ h=>h) ?_));conv=>whnf)
 refine Ca.of (cpg_ok h7 B (p:=d*8+i) (by omega) (ptN_lt _) ly7 (syTag_ok (by omega) ⟨hn1,hn⟩) rfl hbl) ?_;rintro _ w8 ⟨k8,hr8⟩;have r88:=r87.keep k8 (far x8 (by omega));have r138:=r137.keep k8 (far x13 hx13w);have kk8:=kk7.trans k8;rw[ptN_cut] at hr8;rcases hr8 with⟨K8,P8,b8,n8,hb8,h8,g1,⟨rfl,rfl,g2⟩|⟨rfl,rfl,g2,g3,-⟩⟩|⟨hb8,Q,n8,h8,rfl,g1,g2⟩
 all_goals
  refine⟨r138,?_⟩;conv=>whnf
  refine Ru.sttg r88 ?_;intro w9 r89 k9;have hS9:∀x,x∈[x8]->w.heap.size<=x:=fun x hx=>by rw[List.mem_singleton.1 hx];omega
  have q9:Keep N.all w w9:=kk8.then k9 (fun x hx=>.inr (by rw[List.mem_singleton.1 hx];omega));refine⟨r138.keep k9 (by simpa using hx813.symm),?_⟩;conv=>whnf
  refine Ru.ldtg r89 ?_;conv=>whnf
 ·exact⟨rfl,q9,.inl ⟨_,P8,b8,n8,hb8,h.keepS h8 k9 hS9,.inr ⟨hn,g1,.inl ⟨rfl,rfl,g2⟩⟩⟩⟩
 ·exact⟨rfl,q9,.inl ⟨_,P8,b8,n8,hb8,h.keepS h8 k9 hS9,.inr ⟨hn,g1,.inr ⟨rfl,rfl,g2,g3⟩⟩⟩⟩
 ·exact⟨rfl,q9,.inr ⟨hb8,Q,n8,h.keepX h8 k9 hS9,rfl,hn,g1,g2⟩⟩
end
end
end Go.Proofs.YtaeikigfgfcadaaGreat
