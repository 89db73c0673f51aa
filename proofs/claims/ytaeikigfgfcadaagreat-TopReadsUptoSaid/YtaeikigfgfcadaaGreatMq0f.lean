/- Texts behind one another: Scan, NewestM, Clean, Mount, Dev, DevM, Call, Pl10, Pl11, Pl12, Top1, Top2, Top3, Top4, Top5, SeqsM, SlackM, SlackM2, ReadsM, ReadsM2, Top6. -/
import Derived.Test.YtaeikigfgfcadaaGreatMq0a
import Derived.Test.YtaeikigfgfcadaaGreatMq0b
import Derived.Test.YtaeikigfgfcadaaGreatMq0c
import Derived.Test.YtaeikigfgfcadaaGreatMq0d
import Derived.Test.YtaeikigfgfcadaaGreatMq0e
set_option linter.unusedVariables false
set_option linter.unusedSimpArgs false
set_option linter.unnecessarySimpa false
namespace Go.Proofs.YtaeikigfgfcadaaGreat
open Go.RowKit
set_option maxRecDepth 20000
theorem mpFind_snoc {q p:Nat} {v:Value}:∀ {ps:List (Nat × Value)},mpFind q (ps ++ [(p,v)])=match mpFind q ps with | some x=>some x | none=>if p=q then some v else none
 | []=>rfl
 | x :: ps=>by
  have ih:=@mpFind_snoc q p v ps
  rw [List.cons_append]
  unfold mpFind
  by_cases h:x.1=q
  ·rw [if_pos h,if_pos h]
  ·rw [if_neg h,if_neg h]
   exact ih
def fdOf (p:Nat) (t:Tg):Fd:=⟨(p:Int),t.place,t.of,t.seq,t.copy,t.lost⟩
def fdsTo (P:CS):Nat→List Fd
 | 0=>[]
 | p+1=>match P.pg p with
  | .full t D=>fdsTo P p ++ [fdOf p t]
  | _=>fdsTo P p
theorem fdsTo_zero (P:CS):fdsTo P 0=[]:=rfl
theorem fdsTo_full {P:CS} {p:Nat} {t:Tg} {D:Nat→Nat} (h:P.pg p = .full t D):fdsTo P (p+1)=fdsTo P p ++ [fdOf p t]:=by
 show (match P.pg p with | .full t D=>fdsTo P p ++ [fdOf p t] | _=>fdsTo P p)=_
 rw [h]
theorem fdsTo_not {P:CS} {p:Nat} (h:∀ t D,P.pg p≠.full t D):fdsTo P (p+1)=fdsTo P p:=by
 show (match P.pg p with | .full t D=>fdsTo P p ++ [fdOf p t] | _=>fdsTo P p)=_
 cases e:P.pg p with
 | full t D=>exact absurd e (h t D)
 | blank=>rfl
 | torn n=>rfl
theorem fdsTo_len (P:CS):∀ n,(fdsTo P n).length≤n
 | 0=>Nat.le_refl _
 | n+1=>by
  have:=fdsTo_len P n
  by_cases h:∃ t D,P.pg n = .full t D
  ·obtain ⟨t,D,h⟩:=h
   rw [fdsTo_full h]
   simp
   omega
  ·rw [fdsTo_not (fun t D e=>h ⟨t,D,e⟩)]
   omega
def scP (P:CS):Nat→CS
 | 0=>P
 | i+1=>(scP P i).readE i
theorem scP_zero (P:CS):scP P 0=P:=rfl
theorem scP_succ (P:CS) (i:Nat):scP P (i+1)=(scP P i).readE i:=rfl
theorem scP_pg (P:CS):∀ i,(scP P i).pg=P.pg∧(scP P i).dm=P.dm
 | 0=>⟨rfl,rfl⟩
 | i+1=>scP_pg P i
theorem scP_calm {P:CS} (h:P.calm):∀ i,(scP P i).calm
 | 0=>h
 | i+1=>CS.readE_calm (scP_calm h i) i
structure PsOk (P:CS) (w:World) (r:Nat) (ps:List (Nat × Value)) (n:Nat):Prop where
 no:∀ q,n≤q→mpFind q ps=none
 yes:∀ q t D,q<n→P.pg q = .full t D→t.of=24→∃ O oc D',mpFind q ps=some (.slice O 174 oc)∧(∀ x,x∈blk O→r<x)∧cutD D'=D∧Ly w 5 1 O 174 oc (fun j=>.int .u8 (D' j:Nat))
theorem PsOk.keep {P:CS} {w w':World} {r:Nat} {ps:List (Nat × Value)} {n:Nat} {S:List Nat} (h:PsOk P w r ps n) (k:Keep S w w') (hS:∀ x,x∈S→x≤r∨∀ O oc f,Ly w 5 1 O 174 oc f→x∉blk O):PsOk P w' r ps n :=
 ⟨h.no,fun q t D hq e ht=>by
  obtain ⟨O,oc,D',a1,a2,a3,a4⟩:=h.yes q t D hq e ht
  refine ⟨O,oc,D',a1,a2,a3,a4.keep k (fun x hx hm=>?_)⟩
  rcases hS x hm with h | h
  ·have:=a2 x hx
   omega
  ·exact h O oc _ a4 hx⟩
theorem build_found (p:Nat) (t:Tg) (w:World):(Instr.build 69 #[(0,.int .i64 (p:Nat)),(1,.agg t.arr)]).run Tryz.prog w = .ok (.agg (fdOf p t).arr) w:=by kernel_rfl
attribute [local irreducible] fdsTo scP
set_option maxHeartbeats 8000000 in
theorem scan_ok {w:World} {C:Chip} {ch:Nat} {P:CS} {b:Option Nat} (H:ChipAt w ch C) (hA:Abs C P) (hl:C.left b) :
  Spec Tryz.prog 74 #[.pointer (some ⟨ch,0,none⟩)] w fun v w'=>∃ A cA r ps C',v = .tuple #[.slice A (fdsTo P 96).length cA,.map (some r),errOf 0]∧(fdsTo P 96=[]→A=none∧cA=0)∧Ly w' 69 6 A (fdsTo P 96).length cA (fdF (fdsTo P 96))∧MpAt w' r ps∧PsOk P w' r ps 96 ∧
   ChipAt w' ch C'∧Abs C' (scP P 96)∧C'.left b∧Keep [ch] w w':=by
 obtain ⟨i0,hi0,hz0,hz1,hz2⟩:=info_parts found_info
 refine spec_of_wpE (T:=tt) tt_ok Tryz.func74 rfl (by decide +kernel) Tryz.ntmps74 (by simp) ?_
 conv=>whnf
 refine Ca.of (mnew_ok w ch C H) ?_
 rintro _ w1 ⟨m,f,cd,g,hh,hmw,hfw,hcw,hgw,hhw,rfl,M1,k1⟩
 obtain ⟨N,hN⟩:∃ N:Pt,(⟨m,ch,f,cd,g,hh⟩:Pt)=N:=⟨_,rfl⟩
 have M1n:MedAt w1 N C 0:=by rw [← hN];exact M1
 have hMl:=M1n.lt
 have em:m=N.m:=by rw [← hN]
 have ec:N.c=ch:=by rw [← hN]
 have eg:w.heap.size≤N.g:=by rw [← hN];exact hgw
 subst em
 have MA:MedA w1 N P b 0:=⟨C,M1n,hA,hl⟩
 conv=>whnf
 refine Ru.of (mp_make w1) ?_
 have rm:MpAt (w1.alloc (.map #[] 0)) w1.heap.size []:=⟨#[],0,heap_alloc_new w1 _,rfl⟩
 have k2:Keep [] w1 (w1.alloc (.map #[] 0)):=(Keep.refl _ _).alloc _
 have MA2:=MA.keep0 k2
 have hrw:w.heap.size≤w1.heap.size:=k1.size
 have kk2:=(k1.trans k2).mono (T:=[ch]) (by simp)
 clear M1 M1n MA k1 k2 hfw hcw hhw hgw hN
 generalize w1.alloc (.map #[] 0)=w2 at *
 generalize w1.heap.size=r at *
 conv=>whnf
 repeat ((first
  | refine CW.s ?_);conv=>whnf)
 refine CW.loop (ι:=Nat × Option Addr × Nat × List (Nat × Value) × Int) (fun i w'=>i.1≤96∧MedA w' N (scP P i.1) b i.2.2.2.2∧Ly w' 69 6 i.2.1 (fdsTo P i.1).length i.2.2.1 (fdF (fdsTo P i.1))∧(∀ x,x∈blk i.2.1→r<x)∧(fdsTo P i.1=[]→i.2.1=none∧i.2.2.1=0)∧MpAt w' r i.2.2.2.1∧PsOk P w' r i.2.2.2.1 i.1∧Keep [ch] w w')
  (fun i=>[(5,.pointer (some ⟨N.m,0,none⟩)),(6,.slice i.2.1 (fdsTo P i.1).length i.2.2.1),(7,.map (some r)),(14,.int .i64 i.1)]) (fun i=>96 - i.1) (0,none,0,[],0) tt_ok
  ⟨by omega,by rw [scP_zero];exact MA2,by rw [fdsTo_zero];exact Ly.nil _ _ _ _,(fun _ h=>nomatch h),fun _=>⟨rfl,rfl⟩,rm,⟨fun _ _=>rfl,fun q t D hq=>by omega⟩,kk2⟩ ⟨rfl,by rw [fdsTo_zero];rfl,rfl,rfl,trivial⟩ ?_
 clear MA2 rm kk2
 rintro ⟨i,Z,cz,ps,n⟩ wr ⟨hi,MA,ly,hZ,hnil,rm,hps,kk⟩
 simp only at hi MA ly hZ hnil rm hps kk ⊢
 rcases Nat.lt_or_ge i 96 with hlt | hge
 ·have hpg:=(scP_pg P i).1
  have kl:∀ {wa wb:World},Keep N.l wa wb→Keep [ch] w wa→Keep [ch] w wb:=fun k' kw=>kw.then k' (fun x hx=>by
   simp only [Pt.l,List.mem_cons,List.not_mem_nil,or_false] at hx
   rcases hx with rfl | rfl | rfl
   ·exact .inr hmw
   ·exact .inl (List.mem_singleton.2 ec)
   ·exact .inr eg)
  have hps0:∀ {wa wb:World},Keep N.l wa wb→PsOk P wa r ps i→PsOk P wb r ps i:=fun k' hp=>hp.keep k' (fun x hx=>by
   simp only [Pt.l,List.mem_cons,List.not_mem_nil,or_false] at hx
   left
   rcases hx with rfl | rfl | rfl<;>omega)
  have hrl:r∉N.l:=fun hm=>by
   simp only [Pt.l,List.mem_cons,List.not_mem_nil,or_false] at hm
   rcases hm with h | h | h<;>omega
  conv=>whnf
  repeat ((first
   | refine Br.y ?_|refine CW.s ?_);conv=>whnf)
  refine Ca.of (aread_ok MA hlt) ?_
  rintro _ w3 ⟨k3,R,dv,hR,hdv,rfl,MA3⟩
  have kk3:=kl k3 kk
  have rm3:=rm.keep k3 hrl
  have hps3:=hps0 k3 hps
  have ly3:=ly.keep k3 (fun x hx hm=>by
   have:=hZ x hx
   simp only [Pt.l,List.mem_cons,List.not_mem_nil,or_false] at hm
   rcases hm with h | h | h<;>omega)
  have hrwr:=rm.lt
  clear MA ly rm hps kk
  conv=>whnf
  refine Ru.alloca (alloc_page w3) ?_
  intro x9 w4 hx9 hs4 r9 k4
  conv=>whnf
  refine Ru.stpage r9 (pgc_one' R hdv _) ?_
  intro w5 r95 k5
  have q5:Keep [] w3 w5:=k4.then k5 (fun x hx=>.inr (by rw [List.mem_singleton.1 hx,hx9];exact Nat.le_refl _))
  have MA5:=MA3.keep0 q5
  have rm5:=rm3.keep q5 (by simp)
  have hps5:=hps3.keep q5 (by simp)
  have ly5:=ly3.keep0 q5
  have kk5:=kk3.trans (q5.mono (by simp))
  have hdv5:=hdv.keep q5 (by simp)
  have hs3:=k3.size
  clear MA3 rm3 hps3 ly3 kk3 k4 k5 r9 hs4 k3
  have c0:w5.cell? ⟨x9,0,none⟩=some (.bool R.tagged):=r95.cell 0 (by omega)
  unfold PgRead at hR
  rw [hpg] at hR
  rw [← scP_succ] at MA5
  by_cases hfull:∃ t D,P.pg i = .full t D
  ·obtain ⟨t,D,hp⟩:=hfull
   rw [hp] at hR
   obtain ⟨hR1,rfl,hR3,hR4,hR5⟩:=hR
   rw [hR1] at c0
   have efd:=fdsTo_full hp
   have hlen:=fdsTo_len P i
   conv=>whnf
   repeat ((first
    | (refine Ld.at (by omega) c0 ?_)
    | refine Br.f ?_|refine Ru.neq_nil0 ?_|refine CW.s ?_);conv=>whnf)
   refine Ru.ldaC (q:=R.tag.cell) r95 Tryz.underlying67 rfl (by kernel_rfl:(Tryz.prog.info? 67).map (·.size)=some 5) (by omega) (fun j hj=>by
    unfold pgc
    rw [if_neg (by omega),if_pos (by omega),show 0+1+j - 1=j by omega]) ?_
   rw [show agg 5 R.tag.cell = .agg R.tag.arr by unfold agg;rw [tg_range]]
   conv=>whnf
   refine Ru.of (build_found i R.tag w5) ?_
   conv=>whnf
   refine Ru.buildfd (fdOf i R.tag) ?_
   intro x34 w6 hx34 hs6 r34 k6
   conv=>whnf
   refine Bu.append Tryz.underlying64 hi0 hz0 hz1 hz2 rfl (by omega) (ly5.keep0 k6) _ (Rd.of_row r34 (n:=1 * 6) (by omega)) (by omega) (by simp) (fun j hj=>fd_one_cell _ j hj) (by simp only [maxLen];omega) (by omega) ?_
   intro Y cY w7 hy k7 hat hpre
   have ly6:=ly5.keep0 k6
   have MA7:MedA w7 N (scP P (i+1)) b _:=(MA5.keep0 k6).keep k7 ⟨fun h=>by have:=hZ _ h;omega,fun h=>by have:=hZ _ h;omega,fun h=>by have:=hZ _ h;omega,fun h=>by have:=hZ _ h;omega,fun h=>by have:=hZ _ h;omega,fun h=>by have:=hZ _ h;omega⟩
   have rm7:=(rm5.keep k6 (by simp)).keep k7 (fun h=>by have:=hZ _ h;omega)
   have hps7:=(hps5.keep k6 (by simp)).keep k7 (fun x hx=>.inr (fun O oc f lO=>ly6.type_ne lO (by decide) hx))
   have r97:=(r95.keep k6 (by simp)).keep k7 (ly6.row_ne (r95.keep k6 (by simp)) (by decide))
   have kk7:=(kk5.trans (k6.mono (by simp))).then k7 (fun x hx=>.inr (by have:=hZ x hx;omega))
   have hY:∀ x,x∈blk Y→r<x:=fun x hx=>by
    rcases hat with e | e
    ·rw [e] at hx
     exact hZ x hx
    ·rw [e] at hx
     have hxx:x=w6.heap.size:=List.mem_singleton.1 hx
     have:=k6.size
     have:=q5.size
     omega
   have lyY:Ly w7 69 6 Y (fdsTo P (i+1)).length cY (fdF (fdsTo P (i+1))):=by
    rw [efd,List.length_append,List.length_singleton]
    exact hy.congr (fun j hj=>by rw [fdF_snoc _ _ j hj])
   have hne:fdsTo P (i+1)≠[]:=by rw [efd];simp
   have hlY:(Value.slice Y ((fdsTo P i).length+1) cY) = .slice Y (fdsTo P (i+1)).length cY:=by rw [efd];simp
   have hdv7:∀ O oc,dv = .slice O 174 oc→Ly w5 5 1 O 174 oc (fun j=>.int .u8 (R.data j:Nat))→Ly w7 5 1 O 174 oc (fun j=>.int .u8 (R.data j:Nat)):=fun O oc e l=>(l.keep0 k6).keep k7 (fun x hx hm=>ly6.type_ne (l.keep0 k6) (by decide) hm hx)
   clear MA5 rm5 r95 kk5 ly5 hat hpre r34
   have c2:w7.cell? ⟨x9,2,none⟩=some (.int .i64 R.tag.of):=r97.cell 2 (by omega)
   have c6:w7.cell? ⟨x9,6,none⟩=some (.bool R.sound):=r97.cell 6 (by omega)
   have c7:w7.cell? ⟨x9,7,none⟩=some dv:=r97.cell 7 (by omega)
   rw [hR3] at c6
   rcases hdv5 with ⟨-,O,oc,rfl,hO,lyO⟩ | ⟨hs,-⟩
   case inr=>rw [hR3] at hs;cases hs
   by_cases ht:R.tag.of=24
   ·conv=>whnf
    repeat ((first
     | (refine Ld.at (by omega) c2 ?_)
     | (refine Ld.at (by omega) c6 ?_)
     | (refine Ld.at (by omega) c7 ?_)
     | refine Br.t ?_|refine Pk.t ?_|refine Br.y ?_);conv=>whnf)
    have hno:=hps7.no i (Nat.le_refl _)
    have hOr:∀ x,x∈blk O→r<x:=fun x hx=>by
     have:=hO x hx
     omega
    have lyO7:Ly w7 5 1 O 174 oc (fun j=>.int .u8 (R.data j:Nat)):=hdv7 O oc rfl lyO
    refine mp_put rm7 hno ?_
    intro w8 rm8 k8
    conv=>whnf
    repeat ((first
     | refine Ar.la ?_);conv=>whnf)
    refine ⟨(i+1,Y,cY,ps ++ [(i,.slice O 174 oc)],_),⟨hlt,MA7.keep k8 (by simp;omega),lyY.keep k8 (fun x hx hm=>by have:=hY x hx;rw [List.mem_singleton.1 hm] at this;omega),hY,fun h=>absurd h hne,rm8,⟨fun q hq=>?_,fun q t D hq e ht'=>?_⟩,kk7.then k8 (fun x hx=>.inr (by rw [List.mem_singleton.1 hx];exact hrw))⟩,⟨rfl,hlY,rfl,vi (by simp only;omega),trivial⟩,by simp only;omega⟩
    ·rw [mpFind_snoc,hps7.no q (by omega)]
     simp only
     rw [if_neg (by omega)]
    ·by_cases hqi:q=i
     ·subst hqi
      rw [hp] at e
      cases e
      refine ⟨O,oc,R.data,?_,hOr,hR4,lyO7.keep k8 (fun x hx hm=>by have:=hOr x hx;rw [List.mem_singleton.1 hm] at this;omega)⟩
      rw [mpFind_snoc,hno]
      simp
     ·obtain ⟨O',oc',D',a1,a2,a3,a4⟩:=hps7.yes q t D (by omega) e ht'
      refine ⟨O',oc',D',?_,a2,a3,a4.keep k8 (fun x hx hm=>by have:=a2 x hx;rw [List.mem_singleton.1 hm] at this;omega)⟩
      rw [mpFind_snoc,a1]
   ·conv=>whnf
    repeat ((first
     | (refine Ld.at (by omega) c2 ?_)
     | refine Br.f ?_|refine Pk.f ?_|refine Ar.la ?_|refine Br.n ?_);conv=>whnf)
    refine ⟨(i+1,Y,cY,ps,_),⟨hlt,MA7,lyY,hY,fun h=>absurd h hne,rm7,⟨fun q hq=>hps7.no q (by omega),fun q t D hq e ht'=>?_⟩,kk7⟩,⟨rfl,hlY,rfl,vi (by simp only;omega),trivial⟩,by simp only;omega⟩
    by_cases hqi:q=i
    ·subst hqi
     rw [hp] at e
     cases e
     exact absurd ht' ht
    ·exact hps7.yes q t D (by omega) e ht'
  ·have hnt:R.tagged=false:=by
    cases e:P.pg i with
    | full t D=>exact absurd ⟨t,D,e⟩ hfull
    | blank=>rw [e] at hR;exact hR.1
    | torn n=>rw [e] at hR;exact hR.1
   rw [hnt] at c0
   have efd:=fdsTo_not (P:=P) (p:=i) (fun t D e=>hfull ⟨t,D,e⟩)
   conv=>whnf
   repeat ((first
    | (refine Ld.at (by omega) c0 ?_)
    | refine Br.t ?_|refine Br.f ?_|refine Ar.la ?_|refine Ru.neq_nil0 ?_|refine CW.s ?_);conv=>whnf)
   refine ⟨(i+1,Z,cz,ps,_),⟨hlt,MA5,by simp only [efd];exact ly5,hZ,by simp only [efd];exact hnil,rm5,⟨fun q hq=>hps5.no q (by omega),fun q t D hq e ht=>?_⟩,kk5⟩,⟨rfl,by simp only [efd];rfl,rfl,vi (by simp only;omega),trivial⟩,by simp only;omega⟩
   by_cases hqi:q=i
   ·subst hqi
    exact absurd ⟨t,D,e⟩ hfull
   ·exact hps5.yes q t D (by omega) e ht
 ·obtain rfl:i=96:=by omega
  conv=>whnf
  repeat ((first
   | refine Br.f ?_|refine CW.s ?_);conv=>whnf)
  obtain ⟨C',M,hA',hl'⟩:=MA
  exact ⟨rfl,Z,cz,r,ps,C',rfl,hnil,ly,rm,hps,by rw [← ec];exact M.chip,hA',hl',kk⟩
end Go.Proofs.YtaeikigfgfcadaaGreat
namespace Go.Proofs.YtaeikigfgfcadaaGreat
open Go.RowKit
set_option maxRecDepth 20000
theorem clone_nilF (w:World) (x:Operand) (a:Addr) (n c:Nat):(do eqGuard .eql 64 x (.const (.slice none 0 0)) (.slice (some a) n c) (.slice none 0 0);binOp .eql 64 (.slice (some a) n c) (.slice none 0 0):Sem Value).run Tryz.prog w = .ok (.bool false) w:=by kernel_rfl
theorem clone_nilF0 (w:World) (x:Operand):(do eqGuard .eql 64 x (.const (.slice none 0 0)) (.slice none 0 0) (.slice none 0 0);binOp .eql 64 (.slice none 0 0) (.slice none 0 0):Sem Value).run Tryz.prog w = .ok (.bool true) w:=by kernel_rfl
theorem build_f0 (w:World):(Instr.buildSlice 64 0 #[]).run Tryz.prog w = .ok (.slice (some ⟨w.heap.size,0,none⟩) 0 0) (w.alloc (.cells #[] 69)):=by kernel_rfl
theorem fclone_ok {A:Option Addr} {c:Nat} {L:List Fd} {w:World} (r:Rd w A (L.length * 6) (fdF L)) (hnil:L=[]→A=none∧c=0) (hc:L.length≤c) (hn:L.length≤96) :
  Spec Tryz.prog 120 #[.slice A L.length c] w fun v w'=>∃ Y e,v = .slice Y L.length e∧Rd w' Y (L.length * 6) (fdF L)∧Keep [] w w':=by
 obtain ⟨i0,hi,hz0,hz1,hz2⟩:=info_parts found_info
 by_cases h0:L=[]
 ·obtain ⟨rfl,rfl⟩:=hnil h0
  subst h0
  refine spec_of_wpE (T:=tt) tt_ok Tryz.func120 rfl (by decide +kernel) Tryz.ntmps120 (by simp) ?_
  conv=>whnf
  repeat ((first
   | refine CW.s ?_);conv=>whnf)
  refine Ru.of (clone_nilF0 w _) ?_
  conv=>whnf
  repeat ((first
   | refine Br.t ?_);conv=>whnf)
  exact ⟨rfl,none,0,rfl,fun h=>by simp at h,Keep.refl _ _⟩
 have hpos:0<L.length:=List.length_pos_iff.2 h0
 obtain ⟨g,o,rfl,hcell⟩:=r (by omega)
 refine spec_of_wpE (T:=tt) tt_ok Tryz.func120 rfl (by decide +kernel) Tryz.ntmps120 (by simp) ?_
 conv=>whnf
 repeat ((first
  | refine CW.s ?_);conv=>whnf)
 refine Ru.of (clone_nilF w _ _ _ _) ?_
 conv=>whnf
 repeat ((first
  | refine Br.f ?_);conv=>whnf)
 refine Ru.of (build_f0 w) ?_
 have l0:Ly (w.alloc (.cells #[] 69)) 69 6 (some ⟨w.heap.size,0,none⟩) 0 0 (fdF L):=Ly.of_arr (heap_alloc_new w _) (Nat.le_refl _) (by simp) (by simp [maxLen]) (fun j hj=>by omega)
 have k0:Keep [] w (w.alloc (.cells #[] 69)):=(Keep.refl _ _).alloc _
 conv=>whnf
 refine Bu.append Tryz.underlying64 hi hz0 hz1 hz2 rfl (by omega) l0 _ (r.keep0 k0) hc (fun e=>by cases e) (fun j hj=>fdF_one _ j) (by simp only [maxLen];omega) (by omega) ?_
 intro Y e w' hy hk hat hpre
 have hkw:Keep [] w w':=k0.then hk (fun x hx=>.inr (by rw [List.mem_singleton.1 hx];exact Nat.le_refl _))
 rw [Nat.zero_add] at *
 conv=>whnf
 have:=hy.rd
 exact ⟨rfl,Y,e,rfl,fun h=>by
  obtain ⟨b1,o1,e1,h1⟩:=this h
  exact ⟨b1,o1,e1,fun j hj=>(h1 j hj).trans (by simp)⟩,hkw⟩
theorem layA62' (f g:Nat→Value) (j:Nat) (hj:j<62):lay f 0 62 g j=g j:=by
 unfold lay
 rw [if_pos (by omega),Nat.sub_zero]
theorem layA62 (f g:Nat→Value) (j:Nat) (hj:j<62):lay f 0 62 g (0+j)=g j:=by
 rw [Nat.zero_add]
 exact layA62' f g j hj
theorem build_cp00 (w:World):(Instr.build 116 #[]).run Tryz.prog w = .ok (agg 62 Cp.zero.cell) w:=by kernel_rfl
set_option maxHeartbeats 4000000 in
theorem newm_none {A:Option Addr} {c r:Nat} {L:List Fd} {w:World} (hr:Rd w A (L.length * 6) (fdF L)) (hnil:L=[]→A=none∧c=0) (hc:L.length≤c) (hn:L.length≤96) (hw:newestF (byP L 96) 24 (-1)=(Fd.zero,false)) :
  Spec Tryz.prog 75 #[.slice A L.length c,.map (some r)] w fun v w'=>v = .tuple #[agg 62 Cp.zero.cell,.bool false]∧Keep [] w w':=by
 refine spec_of_wpE (T:=tt) tt_ok Tryz.func75 rfl (by decide +kernel) Tryz.ntmps75 (by simp) ?_
 conv=>whnf
 refine Ru.alloca (alloc_cp w) ?_
 intro x4 w1 hx4 hs1 r4 k1
 conv=>whnf
 refine Ca.of (fclone_ok (hr.keep0 k1) hnil hc hn) ?_
 rintro _ w2 ⟨Y,e,rfl,hY,k2⟩
 have r42:=r4.keep k2 (by simp)
 have kk2:=k1.trans k2
 have hlt:=r4.lt
 have hxw:w.heap.size≤x4:=by omega
 clear r4 k1 k2 hr
 conv=>whnf
 refine CW.loop (ι:=Unit) (fun _ w'=>w'=w2) (fun _=>[(0,.slice Y L.length e),(1,.map (some r)),(4,.pointer (some ⟨x4,0,none⟩))]) (fun _=>0) () tt_ok rfl ⟨rfl,rfl,rfl,trivial⟩ ?_
 rintro _ wr rfl
 conv=>whnf
 refine Ca.of (Newest_ok Y e L 24 (-1) wr hY (by omega)) ?_
 rintro _ w3 ⟨rfl,k3⟩
 rw [hw]
 have r43:=r42.keep k3 (by simp)
 have kk3:=kk2.trans k3
 conv=>whnf
 refine Ru.allocfd ?_
 intro x6 w4 hx6 hs4 r6 k4
 conv=>whnf
 refine Ru.stfd r6 ?_
 intro w5 r6 k5
 have q5:Keep [] w3 w5:=k4.then k5 (fun x hx=>.inr (by rw [List.mem_singleton.1 hx,hx6];exact Nat.le_refl _))
 have r45:=r43.keep q5 (by simp)
 have kk5:=kk3.trans q5
 conv=>whnf
 repeat ((first
  | refine Br.t ?_|refine CW.s ?_);conv=>whnf)
 refine Ru.of (build_cp00 _) ?_
 conv=>whnf
 refine Ru.sta r45 size_cp (by omega) (fun j hj=>Cp.cell_one _ j) ?_
 intro w6 r46 k6
 conv=>whnf
 refine Ru.lda r46 Tryz.underlying116 rfl size_cp (by omega) ?_
 conv=>whnf
 refine ⟨rfl,?_,kk5.fresh hxw k6⟩
 show Value.tuple #[agg 62 _,.bool false]=_
 rw [agg_congr (fun j hj=>layA62 _ _ j hj)]
structure NwAt (w:World) (r:Nat) (L:List Fd) (ps:List (Nat × Value)) (k:Cp):Prop where
 told:k.told
 mp:MpAt w r ps
 new:∃ f:Fd,∃ p:Nat,newestF (byP L 96) 24 (-1)=(f,true)∧f.place=p∧∃ O oc,mpFind p ps=some (.slice O 174 oc)∧Ly w 5 1 O 174 oc (fun j=>.int .u8 (ptF k j))
set_option maxHeartbeats 4000000 in
theorem newm_some {A:Option Addr} {c r:Nat} {L:List Fd} {ps:List (Nat × Value)} {k:Cp} {w:World} (hr:Rd w A (L.length * 6) (fdF L)) (hnil:L=[]→A=none∧c=0) (hc:L.length≤c) (hn:L.length≤96) (hN:NwAt w r L ps k) :
  Spec Tryz.prog 75 #[.slice A L.length c,.map (some r)] w fun v w'=>v = .tuple #[agg 62 k.cell,.bool true]∧Keep [] w w':=by
 obtain ⟨hk,hmp,f,p,hw,hfp,O,oc,hfind,hO⟩:=hN
 refine spec_of_wpE (T:=tt) tt_ok Tryz.func75 rfl (by decide +kernel) Tryz.ntmps75 (by simp) ?_
 conv=>whnf
 refine Ru.alloca (alloc_cp w) ?_
 intro x4 w1 hx4 hs1 r4 k1
 conv=>whnf
 refine Ca.of (fclone_ok (hr.keep0 k1) hnil hc hn) ?_
 rintro _ w2 ⟨Y,e,rfl,hY,k2⟩
 have r42:=r4.keep k2 (by simp)
 have kk2:=k1.trans k2
 have hlt:=r4.lt
 have hxw:w.heap.size≤x4:=by omega
 clear r4 k1 k2 hr
 conv=>whnf
 refine CW.loop (ι:=Unit) (fun _ w'=>w'=w2) (fun _=>[(0,.slice Y L.length e),(1,.map (some r)),(4,.pointer (some ⟨x4,0,none⟩))]) (fun _=>0) () tt_ok rfl ⟨rfl,rfl,rfl,trivial⟩ ?_
 rintro _ wr rfl
 conv=>whnf
 refine Ca.of (Newest_ok Y e L 24 (-1) wr hY (by omega)) ?_
 rintro _ w3 ⟨rfl,k3⟩
 rw [hw]
 have r43:=r42.keep k3 (by simp)
 have kk3:=kk2.trans k3
 conv=>whnf
 refine Ru.allocfd ?_
 intro x6 w4 hx6 hs4 r6 k4
 conv=>whnf
 refine Ru.stfd r6 ?_
 intro w5 r6 k5
 have q5:Keep [] w3 w5:=k4.then k5 (fun x hx=>.inr (by rw [List.mem_singleton.1 hx,hx6];exact Nat.le_refl _))
 have r45:=r43.keep q5 (by simp)
 have kk5:=kk3.trans q5
 have c0:w5.cell? ⟨x6,0,none⟩=some (.int .i64 (p:Nat)):=(r6.cell 0 (by omega)).trans (by show some (Value.int .i64 f.place)=_;rw [hfp])
 have hmp5:=hmp.keep kk5 (by simp)
 conv=>whnf
 repeat ((first
  | (refine Ld.at (by omega) c0 ?_)
  | refine Br.f ?_|refine CW.s ?_);conv=>whnf)
 refine Ru.of (mp_look hmp5 hfind) ?_
 conv=>whnf
 repeat ((first
  | refine Br.t ?_);conv=>whnf)
 have hO5:=(hO.keep0 kk5).rd
 rw [Nat.mul_one] at hO5
 have hcap:174≤oc:=hO.1
 obtain ⟨g,oo,rfl,hcell⟩:=hO5 (by omega)
 refine Ca.of (pread_ok w5 g oo oc k hk hcap hcell) ?_
 rintro _ w6 ⟨rfl,k6⟩
 have r46:=r45.keep k6 (by simp)
 have kk6:=kk5.trans k6
 conv=>whnf
 refine Ru.alloca (alloc_cp w6) ?_
 intro x10 w7 hx10 hs7 r10 k7
 conv=>whnf
 refine Ru.sta r10 size_cp (by omega) (fun j hj=>Cp.cell_one _ j) ?_
 intro w8 r108 k8
 have q8:Keep [] w6 w8:=k7.then k8 (fun x hx=>.inr (by rw [List.mem_singleton.1 hx,hx10];exact Nat.le_refl _))
 have r48:=r46.keep q8 (by simp)
 have kk8:=kk6.trans q8
 have r108:Row w8 x10 116 62 k.cell:=r108.congr (fun j hj=>layA62' _ _ j hj)
 conv=>whnf
 repeat ((first
  | refine Br.t ?_|refine Ru.eql_nil0 ?_);conv=>whnf)
 refine Ru.ldaC (q:=k.cell) r108 Tryz.underlying116 rfl size_cp (by omega) (fun j hj=>by rw [Nat.zero_add]) ?_
 conv=>whnf
 refine Ru.sta r48 size_cp (by omega) (fun j hj=>Cp.cell_one _ j) ?_
 intro w9 r49 k9
 conv=>whnf
 refine Ru.lda r49 Tryz.underlying116 rfl size_cp (by omega) ?_
 conv=>whnf
 refine ⟨rfl,?_,kk8.fresh hxw k9⟩
 show Value.tuple #[agg 62 _,.bool true]=_
 rw [agg_congr (fun j hj=>layA62 _ _ j hj)]
end Go.Proofs.YtaeikigfgfcadaaGreat
namespace Go.Proofs.YtaeikigfgfcadaaGreat
open Go.RowKit
set_option maxRecDepth 20000
def clK (K:KS):Nat→KS
 | 0=>K
 | b+1=>if K.st b=0 then { clK K b with F:=Hl.erF (clK K b).F b } else clK K b
def clP (K:KS) (P:CS):Nat→CS
 | 0=>P
 | b+1=>if K.st b=0 then (clP K P b).wipe b else clP K P b
def clT (K:KS) (P:CS):Nat→List CS
 | 0=>[]
 | b+1=>if K.st b=0 then clT K P b ++ [clP K P b] else clT K P b
theorem clK_succ (K:KS) (b:Nat):clK K (b+1)=if K.st b=0 then { clK K b with F:=Hl.erF (clK K b).F b } else clK K b:=rfl
theorem clP_succ (K:KS) (P:CS) (b:Nat):clP K P (b+1)=if K.st b=0 then (clP K P b).wipe b else clP K P b:=rfl
theorem clT_succ (K:KS) (P:CS) (b:Nat):clT K P (b+1)=if K.st b=0 then clT K P b ++ [clP K P b] else clT K P b:=rfl
theorem clK_zero (K:KS):clK K 0=K:=rfl
theorem clP_zero (K:KS) (P:CS):clP K P 0=P:=rfl
theorem clT_zero (K:KS) (P:CS):clT K P 0=[]:=rfl
theorem clK_same (K:KS):∀ b,sameK K (clK K b)
 | 0=>⟨K.F,rfl⟩
 | b+1=>by
  obtain ⟨F,h⟩:=clK_same K b
  unfold clK
  split
  ·rw [h]
   exact ⟨_,rfl⟩
  ·exact ⟨F,h⟩
theorem clP_calm (K:KS) {P:CS} (h:P.calm):∀ b,(clP K P b).calm
 | 0=>h
 | b+1=>by
  unfold clP
  split
  ·exact CS.wipe_calm (clP_calm K h b) b
  ·exact clP_calm K h b
theorem clT_len (K:KS) (P:CS):∀ n m,n≤m→∃ T,clT K P m=clT K P n ++ T
 | n,0,h=>by
  obtain rfl:n=0:=by omega
  exact ⟨[],by simp⟩
 | n,m+1,h=>by
  by_cases e:n=m+1
  ·subst e
   exact ⟨[],by simp⟩
  ·obtain ⟨T,hT⟩:=clT_len K P n m (by omega)
   rw [clT_succ]
   split
   ·exact ⟨T ++ [clP K P m],by rw [hT,List.append_assoc]⟩
   ·exact ⟨T,hT⟩
inductive Cleaned (K:KS) (P:CS):KS→CS→List CS→Prop
 | done:K.at_ 24≠0→Cleaned K P (clK K 12) (clP K P 12) (clT K P 12)
 | note {K1:KS} {P1:CS} {t1:List CS}:K.at_ 24=0→Lays 24 noteD (clK K 12) (clP K P 12) K1 P1 t1→(stC (sqK K1) K1.next (-1)).told→Cleaned K P (lyK K1 24) (lyP K1 P1 24 noteD) (clT K P 12 ++ lyT K1 P1 t1)
theorem Cleaned.len {K:KS} {P:CS} {K':KS} {P':CS} {tr:List CS} (h:Cleaned K P K' P' tr):∃ T,tr=clT K P 12 ++ T:=by
 cases h
 ·exact ⟨[],by simp⟩
 ·exact ⟨_,rfl⟩
attribute [local irreducible] clK clP clT
section
variable {w w':World} {N:Cr} {K:KS} {X:Option Addr} {c:Nat} {P:CS} {b:Option Nat} {n:Int}
set_option maxHeartbeats 4000000 in
theorem clean_ok (h:On w N K P b n X c) (hc:P.calm) (ha:K.at_ 24≤96) (hwo:wornB K.st=false) {K':KS} {P':CS} {tr:List CS} (H:Cleaned K P K' P' tr) :
  Spec Tryz.prog 78 #[.pointer (some ⟨N.k,0,none⟩)] w fun u w'=>EndsX N X c K' P' b tr w w' (u=errOf 0) (u=errOf 7):=by
 have far:∀ x,w.heap.size≤x→x∉N.all:=fun x hx hm=>by
  have h3:x<w.heap.size:=by
   rcases List.mem_append.1 hm with hm | hm
   ·exact h.core.lt (List.mem_append_left _ hm)
   ·exact h.l_lt _ hm
  omega
 have hpre:=H.len
 refine spec_of_wpE (T:=tt) tt_ok Tryz.func78 rfl (by decide +kernel) Tryz.ntmps78 (by simp) ?_
 conv=>whnf
 repeat ((first
  | (refine Ld.of h.core.c2 ?_));conv=>whnf)
 refine Ca.of (mat_ok h.core.map 24 (by omega) ha) ?_
 rintro _ _ ⟨rfl,rfl⟩
 obtain ⟨m,a,e,hv,he⟩:∃ (m:Bool) (a e:Int),(if K.at_ 24=0 then Value.tuple #[.int .i64 0,errOf 11] else .tuple #[.int .i64 ((K.at_ 24 - 1:Nat):Int),errOf 0]) = .tuple #[.int .i64 a,errOf e] ∧
   ((m=true∧e=11∧∃ K1 P1 t1,Lays 24 noteD (clK K 12) (clP K P 12) K1 P1 t1∧(stC (sqK K1) K1.next (-1)).told∧K'=lyK K1 24∧P'=lyP K1 P1 24 noteD∧tr=clT K P 12 ++ lyT K1 P1 t1)∨(m=false∧e=0∧K'=clK K 12∧P'=clP K P 12∧tr=clT K P 12)):=by
  cases H with
  | done h0=>exact ⟨false,_,0,if_neg h0,.inr ⟨rfl,rfl,rfl,rfl,rfl⟩⟩
  | note h0 h1 h2=>exact ⟨true,0,11,if_pos h0,.inl ⟨rfl,rfl,_,_,_,h1,h2,rfl,rfl,rfl⟩⟩
 rw [hv]
 rcases he with ⟨hm,rfl,hend⟩ | ⟨hm,rfl,hend⟩
 all_goals
  conv=>whnf
  repeat ((first
   | (refine Ld.of h.core.c1 ?_)
   | refine Ru.neq_nil0 ?_|refine Ru.n1 ?_|refine CW.s ?_);conv=>whnf)
  refine Ca.of (cstates_ok h) ?_
  rintro _ w1 ⟨Y,e,rfl,hY⟩
  have h1:=h.keep0 hY.keep
  obtain ⟨lY,nY,kY⟩:=hY
  conv=>whnf
  refine CW.loop (ι:=Nat) (fun i w'=>i≤12∧fits b (clT K P i).length∧On w' N (clK K i) (clP K P i) (less b (clT K P i).length) n X c∧Ly w' 3 1 Y 12 e (fun j=>.int .i64 (K.st j:Nat))∧Keep N.all w w')
   (fun i=>[(0,.pointer (some ⟨N.k,0,none⟩)),(5,.bool m),(24,.slice Y 12 e),(25,.int .i64 12),(26,.int .i64 i)]) (fun i=>12 - i) 0 tt_ok ⟨by omega,(fun x hx=>by rw [clT_zero];exact Nat.zero_le _),by rw [clT_zero,clK_zero,clP_zero,show (([]:List CS)).length=0 from rfl,less_zero];exact h1,lY,Keep.of0 kY⟩ ⟨rfl,congrArg Value.bool hm.symm,rfl,rfl,rfl,trivial⟩ ?_
  clear h1 lY kY
  rintro i wr ⟨hi,hfit,hr,ly,kk⟩
  obtain ⟨F,hsame⟩:=clK_same K i
  have hcal:=clP_calm K hc i
  rcases Nat.lt_or_ge i 12 with hlt | hlt
  ·have rd:=ly.rd
   rw [Nat.mul_one] at rd
   obtain ⟨gy,oy,rfl,hcell⟩:=rd (by omega)
   have ci:wr.cell? ⟨gy,oy+i,none⟩=some (.int .i64 (K.st i:Nat)):=hcell i hlt
   by_cases hs:K.st i=0
   ·rw [hs] at ci
    obtain ⟨T,hT⟩:=clT_len K P (i+1) 12 (by omega)
    have eT:clT K P (i+1)=clT K P i ++ [clP K P i]:=by rw [clT_succ,if_pos hs]
    conv=>whnf
    repeat ((first
     | (refine Ld.at (by omega) ci ?_)
     | (refine Ld.of hr.core.c0 ?_)
     | refine Br.f ?_|refine Ix.n ?_|refine Br.y ?_|refine CW.s ?_);conv=>whnf)
    refine Ca.of (aerase_ok hr.med (B:=i) hlt) ?_
    rintro _ w4 ⟨k4,hr4⟩
    have k4a:Keep N.all wr w4:=k4.mono (fun x hx=>in_all_l (by rw [List.mem_singleton.1 hx];simp [Pt.l]))
    have kk4:=kk.trans k4a
    have ly4:=ly.keep k4a (fun x hx=>far x (nY x hx))
    rw [CS.erase_calm hcal] at hr4
    rcases hr4 with ⟨hf4,rfl,M4⟩ | ⟨y,hy,hyb,rfl,M4⟩
    ·have h4:=hr.chip (k4.mono (fun x hx=>by rw [List.mem_singleton.1 hx];simp [Pt.l])) M4
     conv=>whnf
     repeat ((first
      | (refine Ld.of h4.core.c4 ?_)
      | refine Br.t ?_|refine Ru.eql_nil0 ?_);conv=>whnf)
     refine Ca.of (Hl.erased_ok w4 N.e _ h4.core.health i hlt) ?_
     rintro _ w5 ⟨rfl,r5,k5⟩
     have h5:=h4.health k5 r5
     conv=>whnf
     repeat ((first
      | refine Ar.la ?_);conv=>whnf)
     refine ⟨i+1,⟨hlt,?_,?_,ly4.keep k5 (fun x hx hm=>?_),kk4.trans (Keep.of1 (by simp [Cr.own]) k5)⟩,⟨rfl,rfl,rfl,rfl,vi (by omega),trivial⟩,by simp only;omega⟩
     ·rw [eT]
      exact Runs.fits hfit hf4
     ·rw [eT,clK_succ,clP_succ,if_pos hs,if_pos hs,List.length_append, ← less_less]
      exact h5
     ·exact far x (nY x hx) (in_all_own (by rw [List.mem_singleton.1 hm];simp [Cr.own]))
    ·conv=>whnf
     repeat ((first
      | refine Br.f ?_|refine Ru.e1 ?_);conv=>whnf)
     refine Ca.of (eis_ok 7 8 (by decide) _) ?_
     rintro _ _ ⟨rfl,rfl⟩
     conv=>whnf
     repeat ((first
      | refine Br.f ?_);conv=>whnf)
     refine ⟨rfl,kk4,?_⟩
     obtain ⟨T2,hT2⟩:=hpre
     rw [hT2,hT,eT,List.append_assoc,List.append_assoc]
     exact Runs.then hfit (Runs.gone hy hyb ⟨rfl,n,M4⟩)
   ·have hs1:decide (((K.st i:Nat):Int)=0)=false:=decide_eq_false (by omega)
    have eT:clT K P (i+1)=clT K P i:=by rw [clT_succ,if_neg hs]
    conv=>whnf
    repeat ((first
     | (refine Ld.at (by omega) ci ?_)
     | refine Ix.n ?_|refine Ar.la ?_|refine Br.y ?_|refine Br.nn ?_|refine CW.s ?_);conv=>whnf)
    refine ⟨i+1,⟨hlt,by rw [eT];exact hfit,?_,ly,kk⟩,⟨rfl,rfl,rfl,rfl,vi (by omega),trivial⟩,by simp only;omega⟩
    rw [eT,clK_succ,clP_succ,if_neg hs,if_neg hs]
    exact hr
 ·obtain rfl:i=12:=by omega
  obtain ⟨F,hsame⟩:=clK_same K 12
  have hw:wornB (clK K 12).st=false:=by rw [hsame];exact hwo
  subst hm
  obtain ⟨K1,P1,t1,h1,h2,rfl,rfl,rfl⟩:=hend
  conv=>whnf
  repeat ((first
   | (refine Ld.of hr.core.c1 ?_)
   | refine Br.f ?_|refine CW.s ?_);conv=>whnf)
  refine Ca.of (worn_ok hr.core.pool) ?_
  rintro _ _ ⟨rfl,rfl⟩
  rw [hw]
  conv=>whnf
  repeat ((first
   | refine Br.f ?_|refine Pk.f ?_|refine CW.s ?_);conv=>whnf)
  refine Ca.of (note_ok hr h1 h2) ?_
  rintro _ w5 ⟨k5,hr5⟩
  rcases hr5 with ⟨f5,rfl,n5,h5⟩ | ⟨y,hy,hyb,rfl,n5,h5⟩
  ·conv=>whnf
   refine Ca.of (eis_ok 0 14 (by decide) _) ?_
   rintro _ _ ⟨rfl,rfl⟩
   conv=>whnf
   repeat ((first
    | refine Br.t ?_);conv=>whnf)
   exact ⟨rfl,kk.trans k5,Runs.then hfit (.inl ⟨f5,rfl,n5,h5⟩)⟩
  ·conv=>whnf
   refine Ca.of (eis_ok 7 14 (by decide) _) ?_
   rintro _ _ ⟨rfl,rfl⟩
   conv=>whnf
   repeat ((first
    | refine Br.t ?_);conv=>whnf)
   exact ⟨rfl,kk.trans k5,Runs.then hfit (.inr ⟨y,hy,hyb,rfl,n5,h5⟩)⟩
 ·obtain rfl:i=12:=by omega
  subst hm
  obtain ⟨rfl,rfl,rfl⟩:=hend
  conv=>whnf
  repeat ((first
   | refine Br.t ?_|refine Br.f ?_|refine Pk.t ?_|refine CW.s ?_);conv=>whnf)
  exact ⟨rfl,kk,.inl ⟨hfit,rfl,n,hr⟩⟩
end
end Go.Proofs.YtaeikigfgfcadaaGreat
namespace Go.Proofs.YtaeikigfgfcadaaGreat
open Go.RowKit
set_option maxRecDepth 20000
def mtK (k:Cp) (L:List Fd):KS:=fK (nwK k L) (snF (nwK k L).F 12)
inductive Mounts (P:CS):KS→CS→List CS→Prop
 | new {K':KS} {P':CS} {tr:List CS}:newestF (byP (fdsTo P 96) 96) 24 (-1)=(Fd.zero,false)→NwHyp Cp.zero []→Hl.HB (nwK Cp.zero []).F→(mtK Cp.zero []).at_ 24≤96→wornB (mtK Cp.zero []).st=false→Cleaned (mtK Cp.zero []) (scP P 96) K' P' tr→Mounts P K' P' tr
 | old {k:Cp} {f:Fd} {p:Nat} {t:Tg} {D:Nat→Nat} {K':KS} {P':CS} {tr:List CS}:newestF (byP (fdsTo P 96) 96) 24 (-1)=(f,true)→f.place=p→p<96→P.pg p = .full t D→t.of=24→(∀ j,j<174→D j=ptN k j)→NwHyp k (fdsTo P 96)→Hl.HB (nwK k (fdsTo P 96)).F→(mtK k (fdsTo P 96)).at_ 24≤96→wornB (mtK k (fdsTo P 96)).st=false →
   Cleaned (mtK k (fdsTo P 96)) (scP P 96) K' P' tr→Mounts P K' P' tr
theorem mk12z_run (w:World):(Instr.makeSlice 23 (.int .i64 12) (.int .i64 12)).run Tryz.prog w = .ok (.slice (some ⟨w.heap.size,0,none⟩) 12 12) (w.alloc (.cells (madeCells #[.int .i64 0] 12) 3)):=by kernel_rfl
attribute [local irreducible] fdsTo scP nwK snF
theorem On.keepG {w w':World} {N:Cr} {K:KS} {P:CS} {b:Option Nat} {n:Int} {c g:Nat} (h:On w N K P b n none c) (k:Keep [g] w w') (hg:g∉N.all) (h1:N.N.m∉[g]) (h2:N.N.c∉[g]) (h3:N.N.f∉[g]) (h4:N.N.cd∉[g]) (h5:N.N.g∉[g]) (h6:N.N.h∉[g]):On w' N K P b n none c:=by
 obtain ⟨C,M,q⟩:=h.med
 exact ⟨h.core.keep k (fun x hx hm=>by
  rcases List.mem_append.1 hx with hx | hx
  ·exact hg (in_all_own (by rw [← List.mem_singleton.1 hm];exact hx))
  ·cases hx),C,M.keep k h1 h2 h3 h4 h5 h6,q⟩
def MtEnd (ch:Nat) (K':KS) (P':CS) (b:Option Nat) (tr:List CS) (w:World) (v:Value) (w':World):Prop :=
 Keep [ch] w w'∧Runs b tr (fun b'=>∃ (N:Cr) (n:Int),v = .tuple #[.pointer (some ⟨N.k,0,none⟩),errOf 0]∧N.N.c=ch∧On w' N K' P' b' n none 0∧∀ x,x∈N.all→x=ch∨w.heap.size≤x) (fun Q=>v = .tuple #[.pointer none,errOf 7]∧∃ C',ChipAt w' ch C'∧DeadAs C' Q)
set_option maxHeartbeats 8000000 in
theorem mount_ok {w:World} {C:Chip} {ch:Nat} {P:CS} {b:Option Nat} (H:ChipAt w ch C) (hA:Abs C P) (hl:C.left b) (hc:P.calm) {K':KS} {P':CS} {tr:List CS} (M:Mounts P K' P' tr) :
  Spec Tryz.prog 50 #[.pointer (some ⟨ch,0,none⟩)] w (MtEnd ch K' P' b tr w):=by
 have hlen:=fdsTo_len P 96
 have hcal:=scP_calm hc 96
 have hchw:ch<w.heap.size:=Row.lt H
 obtain ⟨k,L,is,hN,hB,h24,hwo,hCl,hkind⟩:∃ (k:Cp) (L:List Fd) (is:Bool),NwHyp k L∧Hl.HB (nwK k L).F∧(mtK k L).at_ 24≤96∧wornB (mtK k L).st=false∧Cleaned (mtK k L) (scP P 96) K' P' tr ∧
   ((is=false∧L=[]∧k=Cp.zero∧newestF (byP (fdsTo P 96) 96) 24 (-1)=(Fd.zero,false))∨(is=true∧L=fdsTo P 96∧∃ f p t D,newestF (byP (fdsTo P 96) 96) 24 (-1)=(f,true)∧f.place=(p:Nat)∧p<96∧P.pg p = .full t D∧t.of=24∧∀ j,j<174→D j=ptN k j)):=by
  cases M with
  | new h1 h2 h3 h4 h5 h6=>exact ⟨_,_,false,h2,h3,h4,h5,h6,.inl ⟨rfl,rfl,rfl,h1⟩⟩
  | old h1 h2 h3 h4 h5 h6 h7 h8 h9 h10 h11=>exact ⟨_,_,true,h7,h8,h9,h10,h11,.inr ⟨rfl,rfl,_,_,_,_,h1,h2,h3,h4,h5,h6⟩⟩
 clear M
 refine spec_of_wpE (T:=tt) tt_ok Tryz.func50 rfl (by decide +kernel) Tryz.ntmps50 (by simp) ?_
 conv=>whnf
 repeat ((first
  | refine CW.s ?_);conv=>whnf)
 refine Ru.of (chip_nil w _ _) ?_
 conv=>whnf
 repeat ((first
  | refine Br.f ?_);conv=>whnf)
 refine Ca.of (scan_ok H hA hl) ?_
 rintro _ w1 ⟨A,cA,r,ps,C1,rfl,hnil,ly,rm,hps,H1,hA1,hl1,k1⟩
 have hcap:(fdsTo P 96).length≤cA:=ly.1
 have hnew:Spec Tryz.prog 75 #[.slice A (fdsTo P 96).length cA,.map (some r)] w1 fun v w'=>v = .tuple #[agg 62 k.cell,.bool is]∧Keep [] w1 w':=by
  rcases hkind with ⟨rfl,-,rfl,h1⟩ | ⟨rfl,-,f,p,t,D,h1,h2,h3,h4,h5,h6⟩
  ·exact newm_none ly.rd hnil hcap hlen h1
  ·obtain ⟨O,oc,D',a1,a2,a3,a4⟩:=hps.yes p t D h3 h4 h5
   refine newm_some ly.rd hnil hcap hlen ⟨hN.told,rm,f,p,h1,h2,O,oc,a1,a4.congr (fun j hj=>?_)⟩
   have h7:D' j=D j:=by
    rw [← a3]
    unfold cutD
    rw [if_pos (by omega)]
   rw [h7,h6 j (by omega),ptN_int]
 conv=>whnf
 repeat ((first
  | refine Br.f ?_|refine Ru.neq_nil0 ?_|refine CW.s ?_);conv=>whnf)
 refine Ca.of hnew ?_
 rintro _ w2 ⟨rfl,k2⟩
 have H2:=H1.keep k2 (by simp)
 have ly2:=ly.keep0 k2
 have kk2:=k1.trans (k2.mono (T:=[ch]) (by simp))
 clear H1 ly k1 k2 rm hps hnew H
 conv=>whnf
 refine Ru.alloca (alloc_cp w2) ?_
 intro x7 w3 hx7 hs3 r7 k3
 conv=>whnf
 refine Ru.sta r7 size_cp (by omega) (fun j hj=>Cp.cell_one _ j) ?_
 intro w4 r74 k4
 have r74:Row w4 x7 116 62 k.cell:=r74.congr (fun j hj=>layA62' _ _ j hj)
 have q4:Keep [] w2 w4:=k3.then k4 (fun x hx=>.inr (by rw [List.mem_singleton.1 hx,hx7];exact Nat.le_refl _))
 have H4:=H2.keep q4 (by simp)
 have ly4:=ly2.keep0 q4
 have kk4:=kk2.trans (q4.mono (T:=[ch]) (by simp))
 clear H2 ly2 kk2 q4 k3 k4 r7 hs3
 have hmain:∀ A' cA',Rd w4 A' (L.length * 6) (fdF L)→Spec Tryz.prog 76 #[.pointer (some ⟨ch,0,none⟩),agg 62 k.cell,.slice A' L.length cA'] w4 fun v w'=>∃ N:Cr,v = .tuple #[.pointer (some ⟨N.k,0,none⟩),errOf 0]∧On w' N (nwK k L) (scP P 96) b 0 none 0∧N.N.c=ch∧(∀ x,x∈N.all→x=ch∨w4.heap.size≤x)∧Keep [] w4 w' :=
  fun A' cA' hr=>mnew2_ok H4 hA1 hl1 hN hr (by rcases hkind with ⟨-,rfl,-⟩ | ⟨-,rfl,-⟩;simp;omega)
 rcases hkind with ⟨rfl,rfl,-,-⟩ | ⟨rfl,rfl,-⟩
 rotate_left
 all_goals
  conv=>whnf
  repeat ((first
   | refine Br.t ?_|refine Br.f ?_|refine CW.s ?_);conv=>whnf)
  refine Ru.ldaC (q:=k.cell) r74 Tryz.underlying116 rfl size_cp (by omega) (fun j hj=>by rw [Nat.zero_add]) ?_
  conv=>whnf
 refine Ca.of (hmain A cA ly4.rd) ?_
 rotate_left
 refine Ca.of (hmain none 0 (fun h=>by simp at h)) ?_
 all_goals
  rintro _ w5 ⟨N,rfl,h5,eC,hall,k5⟩
  have kk5:=kk4.trans (k5.mono (T:=[ch]) (by simp))
  conv=>whnf
  repeat ((first
   | refine Br.f ?_|refine Ru.neq_nil0 ?_|refine CW.s ?_);conv=>whnf)
  refine Ru.of (mk12z_run w5) ?_
  have ry:=Row.made w5 3 (.int .i64 0) 12
  have k6:Keep [] w5 (w5.alloc (.cells (madeCells #[.int .i64 0] 12) 3)):=(Keep.refl _ _).alloc _
  have h6:=h5.keep0 k6
  have kk6:=kk5.trans (k6.mono (T:=[ch]) (by simp))
  have lN:N.N.m<w5.heap.size∧N.N.c<w5.heap.size∧N.N.f<w5.heap.size∧N.N.cd<w5.heap.size∧N.N.g<w5.heap.size∧N.N.h<w5.heap.size:=by
   obtain ⟨C5,M5,q5⟩:=h5.med
   exact M5.lt
  have hgl:∀ y,y<w5.heap.size→y∉[w5.heap.size]:=fun y hy hm=>by
   rw [List.mem_singleton.1 hm] at hy
   omega
  have hNlt:∀ x,x∈N.all→x<w5.heap.size:=fun x hx=>by
   rcases List.mem_append.1 hx with hm | hm
   ·exact h5.core.lt (List.mem_append_left _ hm)
   ·exact h5.l_lt _ hm
  have hgw:w.heap.size≤w5.heap.size:=kk5.size
  have hgN:w5.heap.size∉N.all:=fun hx=>by have:=hNlt _ hx;omega
  have hallw:∀ x,x∈N.all→x=ch∨w.heap.size≤x:=fun x hx=>by
   rcases hall x hx with h | h
   ·exact .inl h
   ·exact .inr (Nat.le_trans kk4.size h)
  clear h5 k5 k6 kk5 hmain r74 ly4 H4 kk4 hall hNlt
  generalize w5.alloc _=w6 at *
  generalize w5.heap.size=g at *
  conv=>whnf
  repeat ((first
   | refine CW.s ?_);conv=>whnf)
  refine CW.loop (ι:=Nat) (fun i w'=>i≤12∧On w' N (nwK k _) (scP P 96) b 0 none 0∧Row w' g 3 12 (fun j=>if j<i then .int .i64 8 else .int .i64 0)∧Keep [ch] w w')
   (fun i=>[(9,.pointer (some ⟨N.k,0,none⟩)),(10,.slice (some ⟨g,0,none⟩) 12 12),(44,.slice (some ⟨g,0,none⟩) 12 12),(45,.int .i64 12),(46,.int .i64 i)]) (fun i=>12 - i) 0 tt_ok ⟨by omega,h6,ry.congr (fun j hj=>by simp),kk6⟩ ⟨rfl,rfl,rfl,rfl,rfl,trivial⟩ ?_
  clear h6 ry kk6
  rintro i wr ⟨hi,hr,rg,kk⟩
  rcases Nat.lt_or_ge i 12 with hlt | hge
  ·conv=>whnf
   repeat ((first
    | (refine Ix.of i (by omega) (by omega) ?_)
    | refine Br.y ?_|refine CW.s ?_);conv=>whnf)
   rw [show 0+i=i by omega]
   refine Sd.rowAt rg i (by omega) (by omega) rfl ?_
   intro w7 rg7 k7
   have h7:=hr.keepG k7 hgN (hgl N.N.m lN.1) (hgl N.N.c lN.2.1) (hgl N.N.f lN.2.2.1) (hgl N.N.cd lN.2.2.2.1) (hgl N.N.g lN.2.2.2.2.1) (hgl N.N.h lN.2.2.2.2.2)
   conv=>whnf
   repeat ((first
    | refine Ar.la ?_);conv=>whnf)
   refine ⟨i+1,⟨hlt,h7,rg7.congr (fun j hj=>?_),kk.then k7 (fun x hx=>.inr (by rw [List.mem_singleton.1 hx];exact hgw))⟩,⟨rfl,rfl,rfl,rfl,vi (by omega),trivial⟩,by simp only;omega⟩
   unfold put
   by_cases hji:j=i
   ·rw [if_pos hji,if_pos (by omega)]
   ·rw [if_neg hji]
    simp only
    by_cases hj2:j<i
    ·rw [if_pos hj2,if_pos (by omega)]
    ·rw [if_neg hj2,if_neg (by omega)]
  ·obtain rfl:i=12:=by omega
   have rg:Row wr g 3 12 (fun _=>.int .i64 8):=rg.congr (fun j hj=>by simp only [if_pos hj])
   conv=>whnf
   repeat ((first
    | refine Br.f ?_|refine CW.s ?_);conv=>whnf)
   refine Ca.of (seen_ok hr hB rg hgN) ?_
   rintro _ w7 ⟨rfl,h7,k7⟩
   conv=>whnf
   repeat ((first
    | refine CW.s ?_);conv=>whnf)
   refine Ca.of (clean_ok h7 hcal h24 hwo hCl) ?_
   rintro _ w8 ⟨k8,hr8⟩
   have kk8:Keep [ch] w w8:=kk.then (k7.trans k8) (fun x hx=>by
    rcases hallw x hx with h | h
    ·exact .inl (List.mem_singleton.2 h)
    ·exact .inr h)
   rcases hr8 with ⟨f8,rfl,n8,h8⟩ | ⟨y,hy,hyb,rfl,n8,C8,M8,D8⟩
   ·conv=>whnf
    repeat ((first
     | refine Br.f ?_|refine Ru.neq_nil0 ?_);conv=>whnf)
    exact ⟨rfl,kk8,.inl ⟨f8,N,n8,rfl,eC,h8,hallw⟩⟩
   ·conv=>whnf
    repeat ((first
     | refine Br.t ?_|refine Ru.n1 ?_);conv=>whnf)
    exact ⟨rfl,kk8,.inr ⟨y,hy,hyb,rfl,C8,by rw [← eC];exact M8.chip,D8⟩⟩
end Go.Proofs.YtaeikigfgfcadaaGreat
namespace Go.Proofs.YtaeikigfgfcadaaGreat
open Go.RowKit
set_option maxRecDepth 20000
def dvF (ch:Nat) (core:Option Addr) (j:Nat):Value:=if j=0 then ptr ch else .pointer core
def DvRow (w:World) (d ch:Nat) (core:Option Addr):Prop:=Row w d 87 2 (dvF ch core)
theorem dis_ok (s:Nat) (hs:s<24) (w:World):Spec Tryz.prog 42 #[.int .i64 s] w fun v w'=>v = .bool true∧w=w':=by
 refine spec_of_wpE (T:=tt) tt_ok Tryz.func42 rfl (by decide +kernel) Tryz.ntmps42 (by simp) ?_
 conv=>whnf
 repeat ((first
  | refine Br.t ?_|refine Pk.t ?_);conv=>whnf)
 exact ⟨rfl,vb (decide_eq_true (by omega)),rfl⟩
theorem core_some (w:World) (x:Operand) (a:Addr):(do eqGuard .eql 85 x (.const (.pointer none)) (.pointer (some a)) (.pointer none);binOp .eql 85 (.pointer (some a)) (.pointer none):Sem Value).run Tryz.prog w = .ok (.bool false) w:=by kernel_rfl
theorem core_none (w:World) (x:Operand):(do eqGuard .neq 85 x (.const (.pointer none)) (.pointer none) (.pointer none);binOp .neq 85 (.pointer none) (.pointer none):Sem Value).run Tryz.prog w = .ok (.bool false) w:=by kernel_rfl
theorem build_dev (ch:Nat) (w:World):(Instr.build 87 #[(0,.pointer (some ⟨ch,0,none⟩))]).run Tryz.prog w = .ok (agg 2 (dvF ch none)) w:=by kernel_rfl
theorem dnew_ok (ch:Nat) (w:World):Spec Tryz.prog 31 #[.pointer (some ⟨ch,0,none⟩)] w fun v w'=>∃ d,v = .tuple #[.pointer (some ⟨d,0,none⟩),errOf 0]∧d=w.heap.size∧DvRow w' d ch none∧Keep [] w w':=by
 refine spec_of_wpE (T:=tt) tt_ok Tryz.func31 rfl (by decide +kernel) Tryz.ntmps31 (by simp) ?_
 conv=>whnf
 repeat ((first
  | refine CW.s ?_);conv=>whnf)
 refine Ru.of (chip_nil w _ _) ?_
 conv=>whnf
 repeat ((first
  | refine Br.f ?_);conv=>whnf)
 refine Ru.of (build_dev ch w) ?_
 conv=>whnf
 refine Ru.boxa ?_
 intro d w1 hd hs r k
 conv=>whnf
 exact ⟨rfl,d,rfl,hd,r,k⟩
def DvOn (w:World) (own:List Nat) (d ch:Nat) (K:KS) (P:CS) (b:Option Nat):Prop :=
 ∃ N X c n,own=d :: (N.all ++ blk X)∧DvRow w d ch (some ⟨N.k,0,none⟩)∧On w N K P b n X c∧N.N.c=ch∧K.qu=[]
def DvOff (w:World) (d ch:Nat) (Q:CS):Prop:=DvRow w d ch none∧∃ C,ChipAt w ch C∧DeadAs C Q
def DvEnds (own:List Nat) (d ch:Nat) (K':KS) (P':CS) (b:Option Nat) (tr:List CS) (w w':World) (ok dead:Prop):Prop :=
 Keep own w w'∧Runs b tr (fun b'=>ok∧∃ own',DvOn w' own' d ch K' P' b'∧∀ x,x∈own'→x∈own∨w.heap.size≤x) (fun Q=>dead∧DvOff w' d ch Q)
structure TdHyp (K:KS) (P:CS):Prop where
 hb:Hl.HB K.F
 cur:K.cur<96
 at96:∀ o,o<25→K.at_ o≤96
 fine:Fine K P
theorem dvF_set (ch:Nat) (a:Option Addr) (a':Option Addr) (j:Nat) (hj:j<2):put (dvF ch a) 1 (.pointer a') j=dvF ch a' j:=by
 unfold put dvF
 have:j=0∨j=1:=by omega
 rcases this with rfl | rfl<;>rfl
section
variable {w w':World} {N:Cr} {K:KS} {X:Option Addr} {c d ch:Nat} {P:CS} {b:Option Nat} {n:Int}
theorem DvRow.ne (r:DvRow w d ch (some ⟨N.k,0,none⟩)) (h:On w N K P b n X c):d∉N.all ++ blk X:=fun hm=>by
 obtain ⟨C,M,q⟩:=h.med
 obtain ⟨F,rg⟩:=M.frm.cod.fs.ty
 rcases List.mem_append.1 hm with hm | hm
 ·simp only [Cr.all,Cr.own,Pt.l,List.cons_append,List.nil_append,List.mem_cons,List.not_mem_nil,or_false] at hm
  rcases hm with e | e | e | e | e | e | e | e | e
  ·exact Row.ne_ r h.core.row (by decide) e
  ·exact Row.ne_ r h.core.pool (by decide) e
  ·exact Row.ne_ r h.core.map (by decide) e
  ·exact Row.ne_ r h.core.front (by decide) e
  ·exact Row.ne_ r h.core.health (by decide) e
  ·exact Row.ne_ r h.core.pat (by decide) e
  ·exact Row.ne_ r M.row (by decide) e
  ·exact Row.ne_ r M.chip (by decide) e
  ·exact Row.ne_ r rg (by decide) e
 ·exact h.core.qu.row_ne r (by decide) hm
set_option maxHeartbeats 2000000 in
theorem ended0_ok (r:DvRow w d ch (some ⟨N.k,0,none⟩)) (h:On w N K P b n X c) (eC:N.N.c=ch) (hq:K.qu=[]) (T:TdHyp K P) {K':KS} {P':CS} {tr:List CS} (H:Tended K P K' P' tr) (hq':K'.qu=[]) :
  Spec Tryz.prog 43 #[.pointer (some ⟨d,0,none⟩),errOf 0] w fun v w'=>DvEnds (d :: (N.all ++ blk X)) d ch K' P' b tr w w' (v=errOf 0) (v=errOf 7):=by
 have hne:=r.ne h
 refine spec_of_wpE (T:=tt) tt_ok Tryz.func43 rfl (by decide +kernel) Tryz.ntmps43 (by simp) ?_
 conv=>whnf
 repeat ((first
  | refine CW.s ?_);conv=>whnf)
 refine Ca.of (eis_ok 0 7 (by decide) _) ?_
 rintro _ _ ⟨rfl,rfl⟩
 have c1:w.cell? ⟨d,1,none⟩=some (.pointer (some ⟨N.k,0,none⟩)):=Row.cell r 1 (by omega)
 conv=>whnf
 repeat ((first
  | (refine Ld.of c1 ?_)
  | refine Br.t ?_);conv=>whnf)
 refine Ca.of (tend_ok h hq T.hb T.cur T.at96 T.fine H) ?_
 rintro _ w1 ⟨k1,hr1⟩
 have r1:DvRow w1 d ch (some ⟨N.k,0,none⟩):=Row.keep r k1 hne
 have kk:Keep (d :: (N.all ++ blk X)) w w1:=k1.mono (fun x hx=>List.mem_cons_of_mem _ hx)
 rcases hr1 with ⟨f1,rfl,Y,e,n1,h1,hY⟩ | ⟨y,hy,hyb,rfl,n1,M1⟩
 ·conv=>whnf
  repeat ((first
   | refine Br.f ?_|refine Ru.neq_nil0 ?_|refine CW.s ?_);conv=>whnf)
  refine Ca.of (eis_ok 0 7 (by decide) _) ?_
  rintro _ _ ⟨rfl,rfl⟩
  conv=>whnf
  repeat ((first
   | refine Br.f ?_);conv=>whnf)
  refine ⟨rfl,kk,.inl ⟨f1,rfl,_,⟨N,Y,e,n1,rfl,r1,h1,eC,hq'⟩,fun x hx=>?_⟩⟩
  rcases List.mem_cons.1 hx with rfl | hx
  ·exact .inl (List.mem_cons_self ..)
  ·rcases List.mem_append.1 hx with hx | hx
   ·exact .inl (List.mem_cons_of_mem _ (List.mem_append_left _ hx))
   ·rcases hY x hx with h | h
    ·exact .inl (List.mem_cons_of_mem _ (List.mem_append_right _ h))
    ·exact .inr h
 ·conv=>whnf
  repeat ((first
   | refine Br.t ?_|refine Ru.n1 ?_|refine CW.s ?_);conv=>whnf)
  refine Ca.of (eis_ok 7 7 (by decide) _) ?_
  rintro _ _ ⟨rfl,rfl⟩
  conv=>whnf
  repeat ((first
   | refine Br.t ?_);conv=>whnf)
  refine Sd.rowAt r1 1 (by omega) (by omega) rfl ?_
  intro w2 r2 k2
  have r2:DvRow w2 d ch none:=r2.congr (fun j hj=>dvF_set ch _ _ j hj)
  conv=>whnf
  obtain ⟨C1,M1,D1⟩:=M1
  have hcd:N.N.c∉[d]:=fun hm=>hne (by
   rw [← List.mem_singleton.1 hm]
   exact List.mem_append_left _ (in_all_l (by simp [Pt.l])))
  exact ⟨rfl,kk.trans (k2.mono (fun x hx=>by rw [List.mem_singleton.1 hx];exact List.mem_cons_self ..)),.inr ⟨y,hy,hyb,rfl,r2,C1,by rw [← eC];exact M1.chip.keep k2 hcd,D1⟩⟩
theorem ended7_ok (r:DvRow w d ch (some ⟨N.k,0,none⟩)) {Q:CS} (h:MedX w N.N Q n) (eC:N.N.c=ch) :
  Spec Tryz.prog 43 #[.pointer (some ⟨d,0,none⟩),errOf 7] w fun v w'=>v=errOf 7∧DvOff w' d ch Q∧Keep [d] w w':=by
 refine spec_of_wpE (T:=tt) tt_ok Tryz.func43 rfl (by decide +kernel) Tryz.ntmps43 (by simp) ?_
 conv=>whnf
 repeat ((first
  | refine CW.s ?_);conv=>whnf)
 refine Ca.of (eis_ok 7 7 (by decide) _) ?_
 rintro _ _ ⟨rfl,rfl⟩
 conv=>whnf
 repeat ((first
  | refine Br.f ?_|refine CW.s ?_);conv=>whnf)
 refine Ca.of (eis_ok 7 7 (by decide) _) ?_
 rintro _ _ ⟨rfl,rfl⟩
 conv=>whnf
 repeat ((first
  | refine Br.t ?_);conv=>whnf)
 refine Sd.rowAt r 1 (by omega) (by omega) rfl ?_
 intro w2 r2 k2
 have r2:DvRow w2 d ch none:=r2.congr (fun j hj=>dvF_set ch _ _ j hj)
 conv=>whnf
 obtain ⟨C1,M1,D1⟩:=h
 have hcd:N.N.c∉[d]:=fun hm=>by
  have:=Row.ne_ M1.chip r (by decide)
  exact this (List.mem_singleton.1 hm)
 exact ⟨rfl,rfl,⟨r2,C1,by rw [← eC];exact M1.chip.keep k2 hcd,D1⟩,k2⟩
theorem DvEnds.of {K1:KS} {P1:CS} {t1:List CS} {K':KS} {P':CS} {t2:List CS} {w1:World}
  (r:DvRow w d ch (some ⟨N.k,0,none⟩)) (h:On w N K P b n X c) (eC:N.N.c=ch) (hq:K1.qu=[]) (T:TdHyp K1 P1) (H:Tended K1 P1 K' P' t2) (hq':K'.qu=[]) {e:Value} (hE:EndsX N X c K1 P1 b t1 w w1 (e=errOf 0) (e=errOf 7)) :
  Spec Tryz.prog 43 #[.pointer (some ⟨d,0,none⟩),e] w1 fun v w'=>Keep (d :: (N.all ++ blk X)) w1 w'∧DvEnds (d :: (N.all ++ blk X)) d ch K' P' b (t1 ++ t2) w w' (v=errOf 0) (v=errOf 7):=by
 obtain ⟨k1,hr1⟩:=hE
 have hne:=r.ne h
 have r1:DvRow w1 d ch (some ⟨N.k,0,none⟩):=Row.keep r k1 (fun hm=>hne (List.mem_append_left _ hm))
 have kk1:Keep (d :: (N.all ++ blk X)) w w1:=k1.mono (fun x hx=>List.mem_cons_of_mem _ (List.mem_append_left _ hx))
 rcases hr1 with ⟨f1,rfl,n1,h1⟩ | ⟨y,hy,hyb,rfl,n1,M1⟩
 ·refine (ended0_ok r1 h1 eC hq T H hq').mono ?_
  rintro v w2 ⟨k2,hr2⟩
  refine ⟨k2,kk1.trans k2,Runs.then f1 (hr2.mono (fun b' ⟨a1,own',a2,a3⟩=>⟨a1,own',a2,fun x hx=>?_⟩) (fun _ h=>h))⟩
  rcases a3 x hx with h | h
  ·exact .inl h
  ·exact .inr (Nat.le_trans k1.size h)
 ·refine (ended7_ok r1 M1 eC).mono ?_
  rintro v w2 ⟨rfl,a1,k2⟩
  have k2:=k2.mono (T:=d :: (N.all ++ blk X)) (fun x hx=>by rw [List.mem_singleton.1 hx];exact List.mem_cons_self ..)
  exact ⟨k2,kk1.trans k2,Runs.gone hy hyb ⟨rfl,a1⟩⟩
set_option maxHeartbeats 2000000 in
theorem dwrite_ok {own:List Nat} (D:DvOn w own d ch K P b) {s e:Nat} (hs:s<24) {A:Option Addr} {f:Nat→Nat} (hA:RdB w A 160 f) (he:160≤e) {K1:KS} {P1:CS} {t1:List CS} (L:Lays s (putD f) K P K1 P1 t1)
  (hq:(lyK K1 s).qu=[]) (T:TdHyp (lyK K1 s) (lyP K1 P1 s (putD f))) {K':KS} {P':CS} {t2:List CS} (H:Tended (lyK K1 s) (lyP K1 P1 s (putD f)) K' P' t2) (hq':K'.qu=[]) :
  Spec Tryz.prog 45 #[.pointer (some ⟨d,0,none⟩),.int .i64 s,.slice A 160 e] w fun v w'=>DvEnds own d ch K' P' b (lyT K1 P1 t1 ++ t2) w w' (v=errOf 0) (v=errOf 7):=by
 obtain ⟨N,X,c,n,rfl,r,h,eC,hqu⟩:=D
 have c1:w.cell? ⟨d,1,none⟩=some (.pointer (some ⟨N.k,0,none⟩)):=Row.cell r 1 (by omega)
 refine spec_of_wpE (T:=tt) tt_ok Tryz.func45 rfl (by decide +kernel) Tryz.ntmps45 (by simp) ?_
 conv=>whnf
 repeat ((first
  | (refine Ld.of c1 ?_)
  | refine CW.s ?_);conv=>whnf)
 refine Ru.of (core_some w _ _) ?_
 conv=>whnf
 repeat ((first
  | refine Br.f ?_);conv=>whnf)
 refine Ca.of (dis_ok s hs w) ?_
 rintro _ _ ⟨rfl,rfl⟩
 conv=>whnf
 repeat ((first
  | (refine Ld.of c1 ?_)
  | refine Br.f ?_|refine Pk.f ?_);conv=>whnf)
 refine Ca.of (put_ok h hs hA he L) ?_
 intro u w1 hu
 conv=>whnf
 refine Ca.of (DvEnds.of r h eC hq T H hq' hu) ?_
 rintro v w2 ⟨-,hv⟩
 conv=>whnf
 exact ⟨rfl,hv⟩
set_option maxHeartbeats 2000000 in
theorem dtrim_ok {own:List Nat} (D:DvOn w own d ch K P b) {s:Nat} (hs:s<24) (h0:K.at_ s≠0) (h96:K.at_ s≤96) {K1:KS} {P1:CS} {t1:List CS} (L:Lays 24 (trimD s (K.en s).seq) K P K1 P1 t1) (ht:(trC (sqK K1) s (K.en s).seq K1.next).told) (h1:(lyK K1 24).at_ s≠0) (h2:(lyK K1 24).at_ s≤96)
  (hq:(drK (flK (lyK K1 24) s (K.en s).seq) s).qu=[]) (T:TdHyp (drK (flK (lyK K1 24) s (K.en s).seq) s) (lyP K1 P1 24 (trimD s (K.en s).seq))) {K':KS} {P':CS} {t2:List CS} (H:Tended (drK (flK (lyK K1 24) s (K.en s).seq) s) (lyP K1 P1 24 (trimD s (K.en s).seq)) K' P' t2) (hq':K'.qu=[]) :
  Spec Tryz.prog 17 #[.pointer (some ⟨d,0,none⟩),.int .i64 s] w fun v w'=>DvEnds own d ch K' P' b (lyT K1 P1 t1 ++ t2) w w' (v=errOf 0) (v=errOf 7):=by
 obtain ⟨N,X,c,n,rfl,r,h,eC,hqu⟩:=D
 have c1:w.cell? ⟨d,1,none⟩=some (.pointer (some ⟨N.k,0,none⟩)):=Row.cell r 1 (by omega)
 refine spec_of_wpE (T:=tt) tt_ok Tryz.func17 rfl (by decide +kernel) Tryz.ntmps17 (by simp) ?_
 conv=>whnf
 repeat ((first
  | (refine Ld.of c1 ?_)
  | refine CW.s ?_);conv=>whnf)
 refine Ru.of (core_some w _ _) ?_
 conv=>whnf
 repeat ((first
  | refine Br.f ?_);conv=>whnf)
 refine Ca.of (dis_ok s hs w) ?_
 rintro _ _ ⟨rfl,rfl⟩
 conv=>whnf
 repeat ((first
  | (refine Ld.of c1 ?_)
  | refine Br.f ?_);conv=>whnf)
 refine Ca.of (trim_ok h hs h0 h96 L ht h1 h2) ?_
 intro u w1 hu
 conv=>whnf
 refine Ca.of (DvEnds.of r h eC hq T H hq' hu) ?_
 rintro v w2 ⟨-,hv⟩
 conv=>whnf
 exact ⟨rfl,hv⟩
set_option maxHeartbeats 2000000 in
theorem dtrim0_ok {own:List Nat} (D:DvOn w own d ch K P b) {s:Nat} (hs:s<24) (h0:K.at_ s=0) (T:TdHyp K P) {K':KS} {P':CS} {t2:List CS} (H:Tended K P K' P' t2) (hq':K'.qu=[]) :
  Spec Tryz.prog 17 #[.pointer (some ⟨d,0,none⟩),.int .i64 s] w fun v w'=>DvEnds own d ch K' P' b t2 w w' (v=errOf 0) (v=errOf 7):=by
 obtain ⟨N,X,c,n,rfl,r,h,eC,hqu⟩:=D
 have c1:w.cell? ⟨d,1,none⟩=some (.pointer (some ⟨N.k,0,none⟩)):=Row.cell r 1 (by omega)
 refine spec_of_wpE (T:=tt) tt_ok Tryz.func17 rfl (by decide +kernel) Tryz.ntmps17 (by simp) ?_
 conv=>whnf
 repeat ((first
  | (refine Ld.of c1 ?_)
  | refine CW.s ?_);conv=>whnf)
 refine Ru.of (core_some w _ _) ?_
 conv=>whnf
 repeat ((first
  | refine Br.f ?_);conv=>whnf)
 refine Ca.of (dis_ok s hs w) ?_
 rintro _ _ ⟨rfl,rfl⟩
 conv=>whnf
 repeat ((first
  | (refine Ld.of c1 ?_)
  | refine Br.f ?_);conv=>whnf)
 refine Ca.of (trim_none h hs h0) ?_
 intro u w1 hu
 conv=>whnf
 refine Ca.of (DvEnds.of (t1:=[]) r h eC hqu T H hq' hu) ?_
 rintro v w2 ⟨-,hv⟩
 conv=>whnf
 exact ⟨rfl,hv⟩
def RdEnds (own:List Nat) (d ch:Nat) (K':KS) (P':CS) (b:Option Nat) (tr:List CS) (f:Nat→Nat) (w:World) (v:Value) (w':World):Prop :=
 DvEnds own d ch K' P' b tr w w' (∃ Y e,v = .tuple #[.slice Y 160 e,errOf 0]∧Ly w' 5 1 Y 160 e (fun j=>.int .u8 (f j:Nat))∧∀ x,x∈blk Y→w.heap.size≤x) (v = .tuple #[.slice none 0 0,errOf 7])
theorem DvOn.own_lt {own:List Nat} (D:DvOn w own d ch K P b):∀ x,x∈own→x<w.heap.size:=by
 obtain ⟨N,X,c,n,rfl,r,h,eC,hqu⟩:=D
 intro x hx
 rcases List.mem_cons.1 hx with rfl | hx
 ·exact Row.lt r
 ·rcases List.mem_append.1 hx with hx | hx
  ·rcases List.mem_append.1 hx with hx | hx
   ·exact h.core.lt (List.mem_append_left _ hx)
   ·exact h.l_lt _ hx
  ·exact h.core.lt (List.mem_append_right _ hx)
set_option maxHeartbeats 2000000 in
theorem dread0_ok {own:List Nat} (D:DvOn w own d ch K P b) {s:Nat} (hs:s<24) (h0:K.at_ s=0) (T:TdHyp K P) {K':KS} {P':CS} {t2:List CS} (H:Tended K P K' P' t2) (hq':K'.qu=[]) :
  Spec Tryz.prog 22 #[.pointer (some ⟨d,0,none⟩),.int .i64 s] w fun v w'=>RdEnds own d ch K' P' b t2 (fun _=>0) w v w':=by
 have hlt:=D.own_lt
 obtain ⟨N,X,c,n,rfl,r,h,eC,hqu⟩:=D
 have c1:w.cell? ⟨d,1,none⟩=some (.pointer (some ⟨N.k,0,none⟩)):=Row.cell r 1 (by omega)
 refine spec_of_wpE (T:=tt) tt_ok Tryz.func22 rfl (by decide +kernel) Tryz.ntmps22 (by simp) ?_
 conv=>whnf
 repeat ((first
  | (refine Ld.of c1 ?_)
  | refine CW.s ?_);conv=>whnf)
 refine Ru.of (core_some w _ _) ?_
 conv=>whnf
 repeat ((first
  | refine Br.f ?_);conv=>whnf)
 refine Ca.of (dis_ok s hs w) ?_
 rintro _ _ ⟨rfl,rfl⟩
 conv=>whnf
 repeat ((first
  | (refine Ld.of c1 ?_)
  | refine Br.f ?_);conv=>whnf)
 refine Ca.of (cget_none h hs h0) ?_
 rintro _ w1 ⟨Y,e,rfl,hY,k1⟩
 conv=>whnf
 repeat ((first
  | refine CW.s ?_);conv=>whnf)
 refine Ca.of (DvEnds.of (t1:=[]) r h eC hqu T H hq' (e:=errOf 0) (w1:=w1) ⟨Keep.of0 k1,Runs.nil ⟨rfl,n,h.keep0 k1⟩⟩) ?_
 rintro v w2 ⟨k12,k2,hr2⟩
 have hY2:Ly w2 5 1 Y 160 e (fun _=>.int .u8 ((0:Nat):Int)):=hY.ly.keep k12 (fun x hx hm=>by
  have:=hY.new x hx
  have:=hlt x hm
  omega)
 rcases hr2 with ⟨f2,rfl,h2⟩ | ⟨y,hy,hyb,rfl,h2⟩
 ·conv=>whnf
  repeat ((first
   | refine Br.f ?_|refine Ru.neq_nil0 ?_);conv=>whnf)
  exact ⟨rfl,k2,.inl ⟨f2,⟨Y,e,rfl,hY2,hY.new⟩,h2⟩⟩
 ·conv=>whnf
  repeat ((first
   | refine Br.t ?_|refine Ru.n1 ?_);conv=>whnf)
  exact ⟨rfl,k2,.inr ⟨y,hy,hyb,rfl,h2⟩⟩
set_option maxHeartbeats 2000000 in
theorem dread_ok {own:List Nat} (D:DvOn w own d ch K P b) {s:Nat} (hs:s<24) (B:Hl.HB K.F) (h0:K.at_ s≠0) (h96:K.at_ s≤96) (hl:K.ow (K.at_ s - 1)≤25) {t:Tg} {F:Nat→Nat} (hp:P.pg (K.at_ s - 1) = .full t F) (hto:t.of=s) (hen:K.en s=⟨t.seq,t.copy,false⟩) (hdm:P.dm (K.at_ s - 1)<2)
  (T:TdHyp (rdK K (K.at_ s - 1)) (P.readE (K.at_ s - 1))) {K':KS} {P':CS} {t2:List CS} (H:Tended (rdK K (K.at_ s - 1)) (P.readE (K.at_ s - 1)) K' P' t2) (hq':K'.qu=[]) :
  Spec Tryz.prog 22 #[.pointer (some ⟨d,0,none⟩),.int .i64 s] w fun v w'=>RdEnds own d ch K' P' b t2 F w v w':=by
 have hlt:=D.own_lt
 obtain ⟨N,X,c,n,rfl,r,h,eC,hqu⟩:=D
 have c1:w.cell? ⟨d,1,none⟩=some (.pointer (some ⟨N.k,0,none⟩)):=Row.cell r 1 (by omega)
 refine spec_of_wpE (T:=tt) tt_ok Tryz.func22 rfl (by decide +kernel) Tryz.ntmps22 (by simp) ?_
 conv=>whnf
 repeat ((first
  | (refine Ld.of c1 ?_)
  | refine CW.s ?_);conv=>whnf)
 refine Ru.of (core_some w _ _) ?_
 conv=>whnf
 repeat ((first
  | refine Br.f ?_);conv=>whnf)
 refine Ca.of (dis_ok s hs w) ?_
 rintro _ _ ⟨rfl,rfl⟩
 conv=>whnf
 repeat ((first
  | (refine Ld.of c1 ?_)
  | refine Br.f ?_);conv=>whnf)
 refine Ca.of (cget_ok h B hs h0 h96 hl hp hto hen hdm) ?_
 rintro _ w1 ⟨Y,e,rfl,hY,h1,k1⟩
 conv=>whnf
 repeat ((first
  | refine CW.s ?_);conv=>whnf)
 refine Ca.of (DvEnds.of (t1:=[]) r h eC (K1:=rdK K (K.at_ s - 1)) hqu T H hq' (e:=errOf 0) (w1:=w1) ⟨k1,Runs.nil ⟨rfl,_,h1⟩⟩) ?_
 rintro v w2 ⟨k12,k2,hr2⟩
 have hY2:Ly w2 5 1 Y 160 e (fun j=>.int .u8 (F j:Nat)):=hY.ly.keep k12 (fun x hx hm=>by
  have:=hY.new x hx
  have:=hlt x hm
  omega)
 rcases hr2 with ⟨f2,rfl,h2⟩ | ⟨y,hy,hyb,rfl,h2⟩
 ·conv=>whnf
  repeat ((first
   | refine Br.f ?_|refine Ru.neq_nil0 ?_);conv=>whnf)
  exact ⟨rfl,k2,.inl ⟨f2,⟨Y,e,rfl,hY2,hY.new⟩,h2⟩⟩
 ·conv=>whnf
  repeat ((first
   | refine Br.t ?_|refine Ru.n1 ?_);conv=>whnf)
  exact ⟨rfl,k2,.inr ⟨y,hy,hyb,rfl,h2⟩⟩
end
def DmEnds (d ch:Nat) (K':KS) (P':CS) (b:Option Nat) (tr:List CS) (w:World) (v:Value) (w':World):Prop :=
 Keep [d,ch] w w'∧Runs b tr (fun b'=>v=errOf 0∧∃ own',DvOn w' own' d ch K' P' b'∧∀ x,x∈own'→x=d∨x=ch∨w.heap.size≤x) (fun Q=>v=errOf 7∧DvOff w' d ch Q)
set_option maxHeartbeats 2000000 in
theorem dmount_ok {w:World} {d ch:Nat} {C:Chip} {P:CS} {b:Option Nat} (r:DvRow w d ch none) (H:ChipAt w ch C) (hA:Abs C P) (hl:C.left b) (hc:P.calm) {K':KS} {P':CS} {tr:List CS} (M:Mounts P K' P' tr) (hq:K'.qu=[]) :
  Spec Tryz.prog 32 #[.pointer (some ⟨d,0,none⟩)] w (DmEnds d ch K' P' b tr w):=by
 have c0:w.cell? ⟨d,0,none⟩=some (.pointer (some ⟨ch,0,none⟩)):=Row.cell r 0 (by omega)
 have c1:w.cell? ⟨d,1,none⟩=some (.pointer none):=Row.cell r 1 (by omega)
 have hdc:d≠ch:=Row.ne_ r H (by decide)
 have hdl:d<w.heap.size:=Row.lt r
 refine spec_of_wpE (T:=tt) tt_ok Tryz.func32 rfl (by decide +kernel) Tryz.ntmps32 (by simp) ?_
 conv=>whnf
 repeat ((first
  | (refine Ld.of c1 ?_)
  | refine CW.s ?_);conv=>whnf)
 refine Ru.of (core_none w _) ?_
 conv=>whnf
 repeat ((first
  | (refine Ld.of c0 ?_)
  | refine Br.f ?_);conv=>whnf)
 refine Ca.of (mount_ok H hA hl hc M) ?_
 rintro _ w1 ⟨k1,hr1⟩
 have r1:DvRow w1 d ch none:=Row.keep r k1 (by simpa using hdc)
 have kk:Keep [d,ch] w w1:=k1.mono (by simp)
 rcases hr1 with ⟨f1,N,n1,rfl,eC,h1,hall⟩ | ⟨y,hy,hyb,rfl,C1,H1,D1⟩
 ·conv=>whnf
  repeat ((first
   | refine Br.f ?_|refine Ru.neq_nil0 ?_|refine CW.s ?_);conv=>whnf)
  refine Sd.rowAt r1 1 (by omega) (by omega) rfl ?_
  intro w2 r2 k2
  have r2:DvRow w2 d ch (some ⟨N.k,0,none⟩):=r2.congr (fun j hj=>dvF_set ch _ _ j hj)
  have h2:=h1.away r1 (by decide) k2
  conv=>whnf
  refine ⟨rfl,kk.trans (k2.mono (by simp)),.inl ⟨f1,rfl,_,⟨N,none,0,n1,rfl,r2,h2,eC,hq⟩,fun x hx=>?_⟩⟩
  rcases List.mem_cons.1 hx with rfl | hx
  ·exact .inl rfl
  ·rcases List.mem_append.1 hx with hx | hx
   ·exact .inr (hall x hx)
   ·cases hx
 ·conv=>whnf
  repeat ((first
   | refine Br.t ?_|refine Ru.n1 ?_|refine CW.s ?_);conv=>whnf)
  exact ⟨rfl,kk,.inr ⟨y,hy,hyb,rfl,r1,C1,H1,D1⟩⟩
theorem Inv.tdh {K:KS} {P:CS} {k:Cp} {m:Int} (I:Inv K P k m):TdHyp K P:=⟨I.td_hyp.1,I.td_hyp.2.1,I.td_hyp.2.2.1,I.td_hyp.2.2.2⟩
inductive Act (K:KS) (P:CS):KS→CS→Prop
 | idle:Act K P K P
 | read {o:Nat}:o<25→K.at_ o≠0→Act K P (rdK K (K.at_ o - 1)) (P.readE (K.at_ o - 1))
 | put {s:Nat} {f:Nat→Nat} {K1:KS} {P1:CS} {t1:List CS}:s<24→Lays s (putD f) K P K1 P1 t1→Act K P (lyK K1 s) (lyP K1 P1 s (putD f))
 | trim {s:Nat} {q:Int} {K1:KS} {P1:CS} {t1:List CS}:s<24→Lays 24 (trimD s q) K P K1 P1 t1→Act K P (drK (flK (lyK K1 24) s q) s) (lyP K1 P1 24 (trimD s q))
inductive Did (K:KS) (P:CS) (K':KS) (P':CS):Prop
 | mk {k k1:Cp} {m:Int} {K1:KS} {P1:CS} {tr:List CS}:Inv K P k m→m+1<1099511627775→Act K P K1 P1→Inv K1 P1 k1 (m+1)→Tended K1 P1 K' P' tr→Did K P K' P'
structure CallEnd (K:KS) (P:CS) (m:Int) (a a':Nat→Nat→Nat) (K':KS) (P':CS) (k':Cp) (t1 t2:List CS):Prop where
 inv:Inv K' P' k' (m+2)
 qu:K'.qu=[]
 next:K.next≤K'.next
 t1:∀ T,T∈t1→Tl T (m+2) a
 t2:∀ T,T∈t2→Tl T (m+2) a'
 sh:Shows P' K'.at_ a'
 st:0≤K.calls→K.calls<8→(0≤K'.calls∧K'.calls<8∧Hl.dueB K'.F=false)∧∀ J,Stab J→∀ n,J n K P→J (n+130) K' P'
 did:Did K P K' P'
theorem dev_write {K:KS} {P:CS} {k:Cp} {m:Int} (I:Inv K P k m) (hq:K.qu=[]) (hm:m+1<1099511627775) {s:Nat} (hs:s<24) {f:Nat→Nat} (hf:∀ j,f j<256):∃ K' P' k' t1 t2,(∀ a,Shows P K.at_ a→CallEnd K P m a (setA a s f) K' P' k' t1 t2) ∧
  ∀ {w:World} {own:List Nat} {d ch:Nat} {b:Option Nat} {A:Option Addr} {e:Nat},DvOn w own d ch K P b→RdB w A 160 f→160≤e→Spec Tryz.prog 45 #[.pointer (some ⟨d,0,none⟩),.int .i64 s,.slice A 160 e] w fun v w'=>DvEnds own d ch K' P' b (t1 ++ t2) w w' (v=errOf 0) (v=errOf 7):=by
 obtain ⟨K1,P1,t1,L,I1,q1,s1,n1,_,c1,z1⟩:=put_end I (by omega) hs hf
 obtain ⟨K',P',t2,k',T2,I2,q2,n2,z2,s2⟩:=td_end I1 hm
 refine ⟨K',P',k',lyT K1 P1 t1,t2,fun a hsh=>?_,fun D hA he=>dwrite_ok D hs hA he L (q1.trans hq) I1.tdh T2 q2⟩
 obtain ⟨b1,b2⟩:=s1 a hsh
 obtain ⟨d1,d2⟩:=s2 _ b2
 exact ⟨I2.mono (by omega),q2,by omega,fun T hT=>(b1 T hT).tl (by omega),fun T hT=>(d1 T hT).mono (by omega),d2,fun h0 h8=>⟨(z2 (by rw [c1];omega) (by rw [c1];omega)).1,fun J S n j=>S.mono (by omega) ((z2 (by rw [c1];omega) (by rw [c1];omega)).2 J S (n+9) (z1 J S n j))⟩,.mk I hm (.put hs L) I1 T2⟩
theorem dev_trim {K:KS} {P:CS} {k:Cp} {m:Int} (I:Inv K P k m) (hq:K.qu=[]) (hm:m+1<1099511627775) {s:Nat} (hs:s<24):∃ K' P' k' t1 t2,(∀ a,Shows P K.at_ a→CallEnd K P m a (setA a s (fun _=>0)) K' P' k' t1 t2) ∧
  ∀ {w:World} {own:List Nat} {d ch:Nat} {b:Option Nat},DvOn w own d ch K P b→Spec Tryz.prog 17 #[.pointer (some ⟨d,0,none⟩),.int .i64 s] w fun v w'=>DvEnds own d ch K' P' b (t1 ++ t2) w w' (v=errOf 0) (v=errOf 7):=by
 by_cases h0:K.at_ s=0
 ·obtain ⟨K',P',t2,k',T2,I2,q2,n2,z2,s2⟩:=td_end I (by omega)
  refine ⟨K',P',k',[],t2,fun a hsh=>?_,fun D=>dtrim0_ok D hs h0 I.tdh T2 q2⟩
  have hsh':Shows P K.at_ (setA a s (fun _=>0)):=fun o j ho hj=>by
   unfold setA
   by_cases hos:o=s
   ·rw [if_pos hos,hos]
    unfold arr
    rw [if_pos h0]
   ·rw [if_neg hos]
    exact hsh o j ho hj
  obtain ⟨d1,d2⟩:=s2 _ hsh'
  exact ⟨I2.mono (by omega),q2,n2,(fun _ h=>nomatch h),fun T hT=>(d1 T hT).mono (by omega),d2,fun h0 h8=>⟨(z2 h0 h8).1,fun J S n j=>S.mono (by omega) ((z2 h0 h8).2 J S n j)⟩,.mk I hm .idle (I.mono (by omega)) T2⟩
 ·obtain ⟨K1,P1,t1,k1,L,w1,h1,h2,I1,q1,s1,n1,_,c1,z1⟩:=trim_end I (by omega) hs h0
  obtain ⟨K',P',t2,k',T2,I2,q2,n2,z2,s2⟩:=td_end I1 hm
  refine ⟨K',P',k',lyT K1 P1 t1,t2,fun a hsh=>?_,fun D=>dtrim_ok D hs h0 (I.l.ok.led.lt (by omega)) L w1 h1 h2 (q1.trans hq) I1.tdh T2 q2⟩
  obtain ⟨b1,b2⟩:=s1 a hsh
  obtain ⟨d1,d2⟩:=s2 _ b2
  exact ⟨I2.mono (by omega),q2,by omega,fun T hT=>(b1 T hT).tl (by omega),fun T hT=>(d1 T hT).mono (by omega),d2,fun h0 h8=>⟨(z2 (by rw [c1];omega) (by rw [c1];omega)).1,fun J S n j=>S.mono (by omega) ((z2 (by rw [c1];omega) (by rw [c1];omega)).2 J S (n+9) (z1 J S n j))⟩,.mk I hm (.trim hs L) I1 T2⟩
theorem dev_read {K:KS} {P:CS} {k:Cp} {m:Int} (I:Inv K P k m) (hq:K.qu=[]) (hm:m+1<1099511627775) {s:Nat} (hs:s<24):∃ K' P' k' t2 F,(∀ a,Shows P K.at_ a→CallEnd K P m a a K' P' k' [] t2∧∀ j,j<160→F j=a s j) ∧
  ∀ {w:World} {own:List Nat} {d ch:Nat} {b:Option Nat},DvOn w own d ch K P b→Spec Tryz.prog 22 #[.pointer (some ⟨d,0,none⟩),.int .i64 s] w fun v w'=>RdEnds own d ch K' P' b t2 F w v w':=by
 by_cases h0:K.at_ s=0
 ·obtain ⟨K',P',t2,k',T2,I2,q2,n2,z2,s2⟩:=td_end I (by omega)
  refine ⟨K',P',k',t2,fun _=>0,fun a hsh=>⟨?_,fun j hj=>?_⟩,fun D=>dread0_ok D hs h0 I.tdh T2 q2⟩
  ·obtain ⟨d1,d2⟩:=s2 _ hsh
   exact ⟨I2.mono (by omega),q2,n2,(fun _ h=>nomatch h),fun T hT=>(d1 T hT).mono (by omega),d2,fun h0 h8=>⟨(z2 h0 h8).1,fun J S n j=>S.mono (by omega) ((z2 h0 h8).2 J S n j)⟩,.mk I hm .idle (I.mono (by omega)) T2⟩
  ·have:=hsh s j hs hj
   unfold arr at this
   rw [if_pos h0] at this
   exact this
 ·obtain ⟨hp,t,D,a2,a3,a4,a5,a6,a7,a8⟩:=I.l.page (o:=s) (by omega) h0
  have I1:=I.read hp
  obtain ⟨K',P',t2,k',T2,I2,q2,n2,z2,s2⟩:=td_end I1 (by omega)
  refine ⟨K',P',k',t2,D,fun a hsh=>⟨?_,fun j hj=>?_⟩,fun Dv=>dread_ok Dv hs I.h.hb h0 (I.l.ok.led.lt (by omega)) (I.l.con.mw.lo _ hp) a2 a4 a3 (by rw [I.l.ok.gd.calm.d];omega) I1.tdh T2 q2⟩
  ·obtain ⟨d1,d2⟩:=s2 a (Shows.same (P':=P.readE (K.at_ s - 1)) hsh (fun o _ _=>rfl))
   exact ⟨I2.mono (by omega),q2,n2,(fun _ h=>nomatch h),fun T hT=>(d1 T hT).mono (by omega),d2,fun h0 h8=>⟨(z2 h0 h8).1,fun J S n j=>S.mono (by omega) ((z2 h0 h8).2 J S (n+1) (S.rd hp j))⟩,.mk I hm (.read (by omega) h0) (I1.mono (by omega)) T2⟩
  ·have:=hsh s j hs hj
   unfold arr dataAt at this
   rw [if_neg h0,a2] at this
   exact this
theorem fd_sound {t:Tg} {p:Nat} (h:t.ok) (hp:p<96):(fdOf p t).sound=true:=by
 unfold Fd.sound fdOf
 unfold Tg.ok at h
 refine decide_eq_true ?_
 simp only
 omega
theorem fd_place (p:Nat) (t:Tg):(fdOf p t).place=(p:Nat):=rfl
def fd1 (P:CS) (p:Nat):List Fd:=match P.pg p with
 | .full t D=>[fdOf p t]
 | _=>[]
theorem fdsTo_succ (P:CS) (p:Nat):fdsTo P (p+1)=fdsTo P p ++ fd1 P p:=by
 unfold fd1
 cases e:P.pg p with
 | full t D=>exact fdsTo_full e
 | blank=>rw [fdsTo_not (fun t D h=>by rw [e] at h;cases h),List.append_nil]
 | torn n=>rw [fdsTo_not (fun t D h=>by rw [e] at h;cases h),List.append_nil]
theorem fd1_full {P:CS} {p:Nat} {t:Tg} {D:Nat→Nat} (h:P.pg p = .full t D):fd1 P p=[fdOf p t]:=by
 unfold fd1
 rw [h]
theorem fd1_mem {P:CS} {p:Nat} {f:Fd} (h:f∈fd1 P p):∃ t D,P.pg p = .full t D∧f=fdOf p t:=by
 unfold fd1 at h
 cases e:P.pg p with
 | full t D =>
  rw [e] at h
  exact ⟨t,D,rfl,List.mem_singleton.1 h⟩
 | blank=>rw [e] at h;cases h
 | torn n=>rw [e] at h;cases h
theorem fdsTo_mem {P:CS}:∀ {n:Nat} {f:Fd},f∈fdsTo P n→∃ p t D,p<n∧P.pg p = .full t D∧f=fdOf p t
 | 0,f,h=>by rw [fdsTo_zero] at h;cases h
 | n+1,f,h=>by
  rw [fdsTo_succ] at h
  rcases List.mem_append.1 h with h | h
  ·obtain ⟨p,t,D,a,b⟩:=fdsTo_mem h
   exact ⟨p,t,D,by omega,b⟩
  ·obtain ⟨t,D,a,b⟩:=fd1_mem h
   exact ⟨n,t,D,by omega,a,b⟩
theorem sel_append (L M:List Fd) (p:Nat):sel (L ++ M) p=sel L p ++ sel M p:=by
 unfold sel
 rw [List.filter_append]
theorem sel_fd1 {P:CS} (hv:P.val) {n p:Nat} (hn:n<96):sel (fd1 P n) p=if n=p then fd1 P n else []:=by
 unfold fd1
 cases e:P.pg n with
 | full t D =>
  have hs:=fd_sound (hv n t D hn e).1 hn
  unfold sel
  by_cases h:n=p
  ·subst h
   simp [hs,fd_place]
  ·have:((n:Int) == (p:Int))=false:=by
    simp
    omega
   simp [hs,fd_place,h,this]
 | blank=>simp [sel]
 | torn k=>simp [sel]
theorem sel_fds {P:CS} (hv:P.val) {p:Nat}:∀ {n:Nat},n≤96→sel (fdsTo P n) p=if p<n then fd1 P p else []
 | 0,_=>by rw [fdsTo_zero];rfl
 | n+1,hn=>by
  rw [fdsTo_succ,sel_append,sel_fds hv (n:=n) (by omega),sel_fd1 hv (by omega)]
  by_cases h:p<n
  ·rw [if_pos h,if_neg (show ¬ n=p by omega),if_pos (show p<n+1 by omega),List.append_nil]
  ·rw [if_neg h]
   by_cases h2:n=p
   ·subst h2
    rw [if_pos rfl,if_pos (show n<n+1 by omega),List.nil_append]
   ·rw [if_neg h2,if_neg (show ¬ p<n+1 by omega),List.nil_append]
theorem byP_fds {P:CS} (hv:P.val):∀ {k:Nat},k≤96→byP (fdsTo P 96) k=fdsTo P k
 | 0,_=>by rw [fdsTo_zero];rfl
 | k+1,hk=>by
  have ih:=byP_fds hv (k:=k) (by omega)
  unfold byP at ih ⊢
  rw [List.range_succ,List.flatMap_append,ih,fdsTo_succ P k,List.flatMap_singleton,sel_fds hv (by omega),if_pos (by omega)]
theorem newestF_app (L M:List Fd) (of above:Int):newestF (L ++ M) of above=M.foldl (newStep of above) (newestF L of above):=by
 unfold newestF
 rw [List.foldl_append]
theorem ahead_one {a b:Int} (ha:0≤a∧a≤255) (hb:b=(a+1) % 256):ahead a b=true∧ahead b a=false:=by
 unfold ahead
 constructor
 ·exact decide_eq_true (by omega)
 ·exact decide_eq_false (by omega)
theorem newest_cnt {P:CS} (hv:P.val) {o:Nat} {fl:Int} {p:Nat} (h:Cnt P o fl p) {t:Tg} {D:Nat→Nat} (hp:P.pg p = .full t D):∀ n,n≤96 →
  (p<n→newestF (fdsTo P n) o fl=(fdOf p t,true))∧(n≤p→(newestF (fdsTo P n) o fl).2=false∨((newestF (fdsTo P n) o fl).1.seq<t.seq∨(newestF (fdsTo P n) o fl).1.seq=t.seq∧(newestF (fdsTo P n) o fl).1.copy=(t.copy+1) % 256))
 | 0,_=>⟨fun h=>by omega,fun _=>.inl (by rw [fdsTo_zero];rfl)⟩
 | n+1,hn=>by
  obtain ⟨hp96,t',D',e1,e2,e3,e4⟩:=h
  rw [hp] at e1
  cases e1
  obtain ⟨ih1,ih2⟩:=newest_cnt hv ⟨hp96,t,D,hp,e2,e3,e4⟩ hp n (by omega)
  have htok:=(hv p t D hp96 hp).1
  unfold Tg.ok at htok
  rw [fdsTo_succ,newestF_app]
  by_cases hnp:n=p
  ·subst hnp
   rw [fd1_full hp]
   refine ⟨fun _=>?_,fun h=>by omega⟩
   rw [List.foldl_cons,List.foldl_nil]
   rcases ih2 (Nat.le_refl _) with h | h
   ·generalize newestF (fdsTo P n) o fl=s at *
    obtain ⟨b,has⟩:=s
    exact newStep_take e2 e3 (.inl h)
   ·generalize newestF (fdsTo P n) o fl=s at *
    obtain ⟨b,has⟩:=s
    refine newStep_take e2 e3 ?_
    rcases h with h | ⟨h1,h2⟩
    ·exact .inr (.inl h)
    ·exact .inr (.inr ⟨h1.symm,(ahead_one (by omega) h2).1⟩)
  ·cases hq:P.pg n with
   | blank =>
    have:fd1 P n=[]:=by unfold fd1;rw [hq]
    rw [this,List.foldl_nil]
    exact ⟨fun h=>ih1 (by omega),fun h=>ih2 (by omega)⟩
   | torn k =>
    have:fd1 P n=[]:=by unfold fd1;rw [hq]
    rw [this,List.foldl_nil]
    exact ⟨fun h=>ih1 (by omega),fun h=>ih2 (by omega)⟩
   | full t1 D1 =>
    rw [fd1_full hq,List.foldl_cons,List.foldl_nil]
    have hle:=fun h=>e4 n t1 D1 (by omega) hnp hq h
    have ht1:=(hv n t1 D1 (by omega) hq).1
    unfold Tg.ok at ht1
    constructor
    ·intro h
     rw [ih1 (by omega)]
     refine newStep_skip ?_
     by_cases ho:t1.of=o
     ·rcases hle ho with h1 | ⟨h1,h2⟩
      ·exact .inr (.inr ⟨rfl,by show t1.seq≤t.seq;omega,.inl (by show t1.seq≠t.seq;omega)⟩)
      ·exact .inr (.inr ⟨rfl,by show t1.seq≤t.seq;omega,.inr (ahead_one (by omega) h2).2⟩)
     ·exact .inl ho
    ·intro h
     have ih2:=ih2 (by omega)
     generalize newestF (fdsTo P n) o fl=s at *
     obtain ⟨b,has⟩:=s
     unfold newStep
     by_cases hsk:(fdOf n t1).of≠(o:Int)∨(fdOf n t1).seq≤fl
     ·rw [if_pos hsk]
      exact ih2
     ·rw [if_neg hsk]
      have ho:t1.of=o:=by
       by_cases h:t1.of=o
       ·exact h
       ·exact absurd (.inl h) hsk
      split
      ·exact .inr (hle ho)
      ·exact ih2
theorem newest_no {P:CS} {o:Nat} {fl:Int} (h:NoCnt P o fl):∀ n,n≤96→newestF (fdsTo P n) o fl=(Fd.zero,false)
 | 0,_=>by rw [fdsTo_zero];rfl
 | n+1,hn=>by
  rw [fdsTo_succ,newestF_app,newest_no h n (by omega)]
  cases hq:P.pg n with
  | blank =>
   have:fd1 P n=[]:=by unfold fd1;rw [hq]
   rw [this,List.foldl_nil]
  | torn k =>
   have:fd1 P n=[]:=by unfold fd1;rw [hq]
   rw [this,List.foldl_nil]
  | full t1 D1 =>
   rw [fd1_full hq,List.foldl_cons,List.foldl_nil]
   refine newStep_skip ?_
   by_cases ho:t1.of=o
   ·exact .inr (.inl (h n t1 D1 (by omega) hq ho))
   ·exact .inl ho
theorem good_fds {P:CS} {k:Cp} (hb:∀ b,b<12→k.bad b=false):goodF (fdsTo P 96) k=fdsTo P 96:=by
 unfold goodF
 refine List.filter_eq_self.2 (fun f hf=>?_)
 obtain ⟨p,t,D,a,b,rfl⟩:=fdsTo_mem hf
 unfold okB
 rw [show ((fdOf p t).place / 8).toNat=p / 8 by rw [fd_place];omega,hb (p / 8) (by omega)]
 rfl
theorem above_floor (k:Cp) {o:Nat} (ho:o<25):aboveF k o=floor k o:=by
 unfold aboveF floor
 by_cases h:o=24
 ·subst h
  rfl
 ·rw [if_pos (by omega),if_neg h]
theorem live_fds {P:CS} {k:Cp} {L:Nat→Nat} {m:Int} (h:Okay P k L m) {o:Nat} (ho:o<25):liveF (fdsTo P 96) k o=if L o=0 then -1 else ((L o - 1:Nat):Int):=by
 unfold liveF
 rw [byP_fds h.gd.val (Nat.le_refl _),good_fds h.led.bad,above_floor k ho]
 by_cases e:L o=0
 ·rw [if_pos e,newest_no (h.led.no o ho e) 96 (Nat.le_refl _)]
  rfl
 ·rw [if_neg e]
  have hc:=h.led.yes o ho e
  obtain ⟨hp,t,D,e1,_⟩:=hc
  rw [(newest_cnt h.gd.val (h.led.yes o ho e) e1 96 (Nat.le_refl _)).1 hp]
  rfl
theorem newest_point {P:CS} {k:Cp} {L:Nat→Nat} {m:Int} (h:Okay P k L m):∃ t D,P.pg (L 24 - 1) = .full t D∧t.of=24∧L 24 - 1<96∧newestF (byP (fdsTo P 96) 96) 24 (-1)=(fdOf (L 24 - 1) t,true):=by
 have hc:=h.led.yes 24 (by omega) h.led.pt
 obtain ⟨hp,t,D,e1,e2,_⟩:=hc
 rw [byP_fds h.gd.val (Nat.le_refl _)]
 exact ⟨t,D,e1,e2,hp,(newest_cnt h.gd.val (h.led.yes 24 (by omega) h.led.pt) e1 96 (Nat.le_refl _)).1 hp⟩
theorem fnd_fds {P:CS} {o p:Nat} {t:Tg} {D:Nat→Nat} (hp:P.pg p = .full t D) (hto:t.of=o) (hs:0≤t.seq):∀ n,(n≤p→fndF (fdsTo P n) o p=En.zero)∧(p<n→fndF (fdsTo P n) o p=⟨t.seq,t.copy,t.lost⟩)
 | 0=>⟨fun _=>by rw [fdsTo_zero];rfl,fun h=>by omega⟩
 | n+1=>by
  obtain ⟨ih1,ih2⟩:=fnd_fds hp hto hs n
  rw [fdsTo_succ]
  by_cases hn:n=p
  ·subst hn
   rw [fd1_full hp,fndF_snoc,ih1 (Nat.le_refl _)]
   refine ⟨fun h=>by omega,fun _=>if_pos ⟨rfl,hto,hs⟩⟩
  ·have hst:fndF (fdsTo P n ++ fd1 P n) o p=fndF (fdsTo P n) o p:=by
    cases hq:P.pg n with
    | blank =>
     have:fd1 P n=[]:=by unfold fd1;rw [hq]
     rw [this,List.append_nil]
    | torn k =>
     have:fd1 P n=[]:=by unfold fd1;rw [hq]
     rw [this,List.append_nil]
    | full t1 D1 =>
     rw [fd1_full hq,fndF_snoc]
     exact if_neg (fun h=>hn (by have:=h.1;rw [fd_place] at this;omega))
   rw [hst]
   exact ⟨fun h=>ih1 (by omega),fun h=>ih2 (by omega)⟩
theorem flTop_ge (c:Cp) (t:Int):∀ n,t≤flTop c t n∧∀ j,j<n→c.fl j≤flTop c t n
 | 0=>⟨Int.le_refl _,fun j h=>by omega⟩
 | n+1=>by
  obtain ⟨h1,h2⟩:=flTop_ge c t n
  unfold flTop
  refine ⟨by omega,fun j hj=>?_⟩
  by_cases h:j=n
  ·subst h
   omega
  ·have:=h2 j (by omega)
   omega
theorem flTop_lt {c:Cp} {t x:Int} (ht:t<x):∀ {n},(∀ j,j<n→c.fl j<x)→flTop c t n<x
 | 0,_=>ht
 | n+1,h=>by
  have h1:=flTop_lt ht (n:=n) (fun j hj=>h j (by omega))
  have h2:=h n (by omega)
  unfold flTop
  omega
theorem seqTop_ge (t:Int) (L:List Fd):t≤seqTop L t∧∀ f,f∈L→f.sound=true→f.seq≤seqTop L t:=by
 induction L using snoc_rec with
 | h0=>exact ⟨Int.le_refl _,(fun _ h=>nomatch h)⟩
 | h1 L f ih =>
  rw [seqTop_snoc]
  unfold seqStep
  constructor
  ·split<;>omega
  ·intro g hg hs
   rcases List.mem_append.1 hg with hg | hg
   ·have:=ih.2 g hg hs
    split<;>omega
   ·rw [List.mem_singleton.1 hg] at hs ⊢
    rw [if_pos hs]
    omega
theorem seqTop_lt {t x:Int} (ht:t<x) (L:List Fd) (h:∀ f,f∈L→f.seq<x):seqTop L t<x:=by
 induction L using snoc_rec with
 | h0=>exact ht
 | h1 L f ih =>
  rw [seqTop_snoc]
  have h1:=ih (fun g hg=>h g (List.mem_append_left _ hg))
  have h2:=h f (List.mem_append_right _ (List.mem_singleton.2 rfl))
  unfold seqStep
  split<;>omega
theorem next_fds {P:CS} {k:Cp} {L:Nat→Nat} {m:Int} (h:Okay P k L m) (hm:m≤1099511627775):(∀ p t D,p<96→P.pg p = .full t D→t.seq<nextF (fdsTo P 96) k)∧1≤nextF (fdsTo P 96) k∧nextF (fdsTo P 96) k≤m∧∀ o,o<24→k.fl o<nextF (fdsTo P 96) k:=by
 have h0:=h.led.told.next
 have hfl:=h.fl
 have t1:flTop k (max k.next 0 - 1) 24<m:=flTop_lt (by omega) (fun j hj=>hfl.2 j hj)
 have t2:topOf (fdsTo P 96) k<m:=seqTop_lt t1 _ (fun f hf=>by
  obtain ⟨p,t,D,a,b,rfl⟩:=fdsTo_mem hf
  exact h.sq p t D a b)
 obtain ⟨g1,g2⟩:=seqTop_ge (flTop k (max k.next 0 - 1) 24) (fdsTo P 96)
 obtain ⟨g3,g4⟩:=flTop_ge k (max k.next 0 - 1) 24
 have e:nextF (fdsTo P 96) k=topOf (fdsTo P 96) k+1:=by
  unfold nextF
  omega
 have hseq:∀ p t D,p<96→P.pg p = .full t D→t.seq<nextF (fdsTo P 96) k:=fun p t D hp hpg=>by
  have hin:∀ n,p<n→n≤96→fdOf p t∈fdsTo P n:=fun n=>by
   induction n with
   | zero=>exact fun h=>by omega
   | succ n ih =>
    intro h1 h2
    rw [fdsTo_succ]
    by_cases h3:p=n
    ·subst h3
     rw [fd1_full hpg]
     exact List.mem_append_right _ (List.mem_singleton.2 rfl)
    ·exact List.mem_append_left _ (ih (by omega) (by omega))
  have:=g2 _ (hin 96 hp (Nat.le_refl _)) (fd_sound (h.gd.val p t D hp hpg).1 hp)
  have h9:t.seq≤topOf (fdsTo P 96) k:=this
  omega
 refine ⟨hseq,?_,by omega,fun o ho=>?_⟩
 ·obtain ⟨t,D,a,b,c,_⟩:=newest_point h
  have:=hseq _ t D c a
  have h7:=(h.gd.val _ t D c a).1
  unfold Tg.ok at h7
  omega
 ·have:=g4 o ho
  have h9:flTop k (max k.next 0 - 1) 24≤topOf (fdsTo P 96) k:=g1
  omega
end Go.Proofs.YtaeikigfgfcadaaGreat
namespace Go.Proofs.YtaeikigfgfcadaaGreat
open Go.RowKit
theorem n1_all {P:CS} {k:Cp} {L:Nat→Nat} {m:Int} (h:Okay P k L m):∀ i,i≤25 →
  Con (n1K k (fdsTo P 96) i).at_ (n1K k (fdsTo P 96) i).ow∧(∀ o,o<25→(n1K k (fdsTo P 96) i).at_ o=if o<i then L o else 0) ∧
  (∀ o,o<i→L o≠0→∃ t D,P.pg (L o - 1) = .full t D∧(n1K k (fdsTo P 96) i).en o=⟨t.seq,t.copy,false⟩)∧∃ A O E,n1K k (fdsTo P 96) i={ n0K k (fdsTo P 96) with at_:=A,ow:=O,en:=E }
 | 0,_=>by
  rw [n1K_zero]
  exact ⟨⟨fun p hp e=>absurd rfl e,fun o ho e=>absurd rfl e⟩,fun o ho=>rfl,fun o ho=>by omega,_,_,_,rfl⟩
 | i+1,hi=>by
  obtain ⟨h1,h2,h3,A,O,E,h4⟩:=n1_all h i (by omega)
  have hl:=live_fds h (o:=i) (by omega)
  rw [n1K_succ]
  by_cases e:L i=0
  ·rw [if_pos e] at hl
   rw [if_pos (by rw [hl];decide)]
   refine ⟨h1,fun o ho=>?_,fun o ho e'=>?_,A,O,E,h4⟩
   ·rw [h2 o ho]
    by_cases ho2:o<i
    ·rw [if_pos ho2,if_pos (by omega)]
    ·rw [if_neg ho2]
     by_cases ho3:o=i
     ·rw [if_pos (by omega),ho3,e]
     ·rw [if_neg (by omega)]
   ·by_cases ho3:o=i
    ·rw [ho3] at e'
     exact absurd e e'
    ·exact h3 o (by omega) e'
  ·rw [if_neg e] at hl
   rw [if_neg (by rw [hl];omega)]
   have ht:(liveF (fdsTo P 96) k i).toNat=L i - 1:=by rw [hl];rfl
   obtain ⟨hp,t,D,e1,e2,_⟩:=h.led.yes i (by omega) e
   obtain ⟨v1,v2,v3,v4,v5⟩:=h.gd.val _ t D hp e1
   have how:(n1K k (fdsTo P 96) i).ow (L i - 1)=0:=by
    by_cases hz:(n1K k (fdsTo P 96) i).ow (L i - 1)=0
    ·exact hz
    ·obtain ⟨c1,c2⟩:=h1.o _ hp hz
     have c3:=h2 ((n1K k (fdsTo P 96) i).ow (L i - 1) - 1) (by omega)
     generalize (n1K k (fdsTo P 96) i).ow (L i - 1) - 1=o' at *
     by_cases ho:o'<i
     ·rw [if_pos ho] at c3
      have hLo:L o'=L i:=by omega
      obtain ⟨_,t2,D2,g1,g2,_⟩:=h.led.yes o' (by omega) (by rw [hLo];exact e)
      rw [hLo,e1] at g1
      cases g1
      omega
     ·rw [if_neg ho] at c3
      omega
   have hh:holdsB (L i - 1) i=true:=by
    unfold holdsB
    unfold Tg.ok at v1
    by_cases hi4:i=24
    ·simp [hi4]
    ·have:=v1.2.2.2.2.2.2.2.2.2 (by omega)
     rw [v2] at this
     simp
     omega
   obtain ⟨s1,s2⟩:=h1.set (o:=i) (by omega) hp how hh
   have hf:=(fnd_fds (o:=i) e1 e2 (by unfold Tg.ok at v1;omega) 96).2 hp
   rw [ht,hl,hf]
   simp only [s2]
   rw [s2] at s1
   refine ⟨s1,fun o ho=>?_,fun o ho e'=>?_,_,_,_,by rw [h4]⟩
   ·unfold updf
    by_cases ho3:o=i
    ·rw [if_pos ho3,if_pos (by omega),ho3]
     omega
    ·rw [if_neg ho3,h2 o ho]
     by_cases ho2:o<i
     ·rw [if_pos ho2,if_pos (by omega)]
     ·rw [if_neg ho2,if_neg (by omega)]
   ·unfold updf
    by_cases ho3:o=i
    ·rw [if_pos ho3,ho3]
     exact ⟨t,D,e1,by rw [v3]⟩
    ·rw [if_neg ho3]
     exact h3 o (by omega) e'
theorem nw_hyp {P:CS} {k:Cp} {L:Nat→Nat} {m:Int} (h:Okay P k L m):NwHyp k (fdsTo P 96):=by
 refine ⟨h.led.told,h.led.bad,fun i hi=>(n1_all h i hi).1.mw,fun i hi hl=>?_⟩
 obtain ⟨h1,h2,h3,A,O,E,h4⟩:=n1_all h i (by omega)
 have hlv:=live_fds h (o:=i) hi
 by_cases e:L i=0
 ·rw [if_pos e] at hlv
  omega
 ·rw [if_neg e] at hlv
  obtain ⟨hp,t,D,e1,e2,_⟩:=h.led.yes i hi e
  obtain ⟨v1,v2,v3,v4,v5⟩:=h.gd.val _ t D hp e1
  rw [hlv]
  refine ⟨by omega,?_⟩
  rw [show ((L i - 1:Nat):Int).toNat=L i - 1 by omega]
  have how:(n1K k (fdsTo P 96) i).ow (L i - 1)=0:=by
   by_cases hz:(n1K k (fdsTo P 96) i).ow (L i - 1)=0
   ·exact hz
   ·obtain ⟨c1,c2⟩:=h1.o _ hp hz
    have c3:=h2 ((n1K k (fdsTo P 96) i).ow (L i - 1) - 1) (by omega)
    generalize (n1K k (fdsTo P 96) i).ow (L i - 1) - 1=o' at *
    by_cases ho:o'<i
    ·rw [if_pos ho] at c3
     have hLo:L o'=L i:=by omega
     obtain ⟨_,t2,D2,g1,g2,_⟩:=h.led.yes o' (by omega) (by rw [hLo];exact e)
     rw [hLo,e1] at g1
     cases g1
     omega
    ·rw [if_neg ho] at c3
     omega
  have hh:holdsB (L i - 1) i=true:=by
   unfold holdsB
   unfold Tg.ok at v1
   by_cases hi4:i=24
   ·simp [hi4]
   ·have:=v1.2.2.2.2.2.2.2.2.2 (by omega)
    rw [v2] at this
    simp
    omega
  unfold setErr
  rw [hh,how]
  rfl
theorem lv_congr {A B:Nat→Nat} {b:Nat} (h:∀ o,o<25→A o=B o):lv A b=lv B b:=by
 have:∀ n,n≤25→lvTo A n b=lvTo B n b:=fun n=>by
  induction n with
  | zero=>exact fun _=>rfl
  | succ n ih =>
   intro hn
   unfold lvTo
   rw [ih (by omega),h n (by omega)]
 exact this 25 (Nat.le_refl _)
theorem n2_st {K:KS} (h0:∀ b,K.st b=0):∀ n,n≤12→∀ b,(n2K K n).st b=if b<n∧0<lv K.at_ b then 2 else 0
 | 0,_,b=>by
  rw [n2K_zero,h0,if_neg (by omega)]
 | n+1,hn,b=>by
  have ih:=n2_st h0 n (by omega)
  rw [n2K_succ]
  by_cases hl:0<lv K.at_ n
  ·rw [if_pos hl]
   show setSt (n2K K n).st n 2 b=_
   unfold setSt
   rw [if_neg (fun x=>by have:=x.1;rw [ih n,if_neg (by omega)] at this;omega)]
   unfold updf
   by_cases hb:b=n
   ·subst hb
    rw [if_pos rfl,if_pos ⟨by omega,hl⟩]
   ·rw [if_neg hb,ih b]
    by_cases h2:b<n∧0<lv K.at_ b
    ·rw [if_pos h2,if_pos ⟨by omega,h2.2⟩]
    ·rw [if_neg h2,if_neg (fun x=>h2 ⟨by omega,x.2⟩)]
  ·rw [if_neg hl,ih b]
   by_cases h2:b<n∧0<lv K.at_ b
   ·rw [if_pos h2,if_pos ⟨by omega,h2.2⟩]
   ·rw [if_neg h2,if_neg (fun x=>h2 ⟨by
     by_cases hb:b=n
     ·rw [hb] at x
      exact absurd x.2 hl
     ·omega,x.2⟩)]
theorem sn_zero {F:Nat→Int} (h:∀ b,b<12→F (12+b)=0):∀ n,n≤12→∀ b,b<12→snF F n (12+b)=0
 | 0,_,b,hb=>h b hb
 | n+1,hn,b,hb=>by
  have ih:=sn_zero h n (by omega)
  have:∀ k,∀ b,b<12→rdN (snF F n) n k (12+b)=0:=fun k=>by
   induction k with
   | zero=>exact ih
   | succ k ihk=>exact rd_zero (by omega) ihk
  exact this 8 b hb
theorem clP_pg (K:KS) (P:CS):∀ n q,(clP K P n).pg q=if q / 8<n∧K.st (q / 8)=0 then .blank else P.pg q
 | 0,q=>by rw [clP_zero,if_neg (by omega)]
 | n+1,q=>by
  have ih:=clP_pg K P n q
  rw [clP_succ]
  by_cases h:K.st n=0
  ·rw [if_pos h]
   show (if q / 8=n then Pg.blank else (clP K P n).pg q)=_
   by_cases hq:q / 8=n
   ·rw [if_pos hq,if_pos ⟨by omega,by rw [hq];exact h⟩]
   ·rw [if_neg hq,ih]
    by_cases h2:q / 8<n∧K.st (q / 8)=0
    ·rw [if_pos h2,if_pos ⟨by omega,h2.2⟩]
    ·rw [if_neg h2,if_neg (fun x=>h2 ⟨by omega,x.2⟩)]
  ·rw [if_neg h,ih]
   by_cases h2:q / 8<n∧K.st (q / 8)=0
   ·rw [if_pos h2,if_pos ⟨by omega,h2.2⟩]
   ·rw [if_neg h2,if_neg (fun x=>h2 ⟨by
     by_cases hb:q / 8=n
     ·rw [hb] at x
      exact absurd x.2 h
     ·omega,x.2⟩)]
theorem clT_mem {K:KS} {P:CS}:∀ {n:Nat} {T:CS},T∈clT K P n→∃ j,j≤n∧T=clP K P j
 | 0,T,h=>by rw [clT_zero] at h;cases h
 | n+1,T,h=>by
  rw [clT_succ] at h
  split at h
  ·rcases List.mem_append.1 h with h | h
   ·obtain ⟨j,a,b⟩:=clT_mem h
    exact ⟨j,by omega,b⟩
   ·exact ⟨n,by omega,List.mem_singleton.1 h⟩
  ·obtain ⟨j,a,b⟩:=clT_mem h
   exact ⟨j,by omega,b⟩
theorem er_hb {F:Nat→Int} (h:Hl.HB F) (v:Nat):Hl.HB (Hl.erF F v):=fun b hb=>by
 have h1:=h b hb
 unfold Hl.erF Hl.upd
 refine ⟨?_,?_,?_⟩
 ·split
  ·omega
  ·split
   ·omega
   ·exact h1.1
 ·split
  ·omega
  ·split
   ·omega
   ·exact h1.2.1
 ·split
  ·omega
  ·split
   ·omega
   ·exact h1.2.2
theorem er_zero {F:Nat→Int} (h:∀ b,b<12→F (12+b)=0) {v:Nat}:∀ b,b<12→Hl.erF F v (12+b)=0:=fun b hb=>by
 unfold Hl.erF Hl.upd
 split
 ·rfl
 ·split
  ·rfl
  ·exact h b hb
theorem cl_F {K:KS} (h:Hl.HB K.F) (h0:∀ b,b<12→K.F (12+b)=0):∀ n,Hl.HB (clK K n).F∧∀ b,b<12→(clK K n).F (12+b)=0
 | 0=>by rw [clK_zero];exact ⟨h,h0⟩
 | n+1=>by
  obtain ⟨a,b⟩:=cl_F h h0 n
  rw [clK_succ]
  split
  ·exact ⟨er_hb a n,er_zero b⟩
  ·exact ⟨a,b⟩
attribute [local irreducible] n1K n2K snF clP clK clT scP fdsTo nextF
set_option maxHeartbeats 1000000 in
theorem mount_endC {P:CS} {k:Cp} {L:Nat→Nat} {m:Int} (h:Okay P k L m) (hm:m≤1099511627775):∃ K' P' tr,Mounts P K' P' tr∧Inv K' P' k m∧K'.qu=[]∧(K'=clK (mtK k (fdsTo P 96)) 12∧P'=clP (mtK k (fdsTo P 96)) (scP P 96) 12∧(∀ o,o<25→K'.at_ o=L o)∧(∀ o,o<25→L o≠0→P'.pg (L o - 1)=P.pg (L o - 1))∧K'.next=nextF (fdsTo P 96) k∧K'.calls=0∧K'.cur=k.cur.toNat∧Okay P' k L m)∧∀ a,Shows P L a→(∀ T,T∈tr→Tells T k m a)∧Shows P' K'.at_ a:=by
 have hN:=nw_hyp h
 obtain ⟨hcon,hat,hen,A,O,E,h4⟩:=n1_all h 25 (Nat.le_refl _)
 have hat:∀ o,o<25→(n1K k (fdsTo P 96) 25).at_ o=L o:=fun o ho=>by rw [hat o ho,if_pos ho]
 obtain ⟨st,h5⟩:=n2K_same (n1K k (fdsTo P 96) 25) 12
 have hst:∀ b,st b=if b<12∧0<lv (n1K k (fdsTo P 96) 25).at_ b then 2 else 0:=fun b=>by
  have:=n2_st (K:=n1K k (fdsTo P 96) 25) (fun b=>by rw [h4];rfl) 12 (Nat.le_refl _) b
  rw [h5] at this
  exact this
 have hnw:nwK k (fdsTo P 96)={ n1K k (fdsTo P 96) 25 with st:=st }:=h5
 have hF1:Hl.HB (Hl.newF (rdsF k) (scsF k)):=Hl.HB.new (fun j hj=>by
  unfold rdsF scsF
  rw [if_pos hj,if_pos hj]
  exact ⟨(h.led.told.rd j hj).1,(h.led.told.sc j hj).1⟩)
 have hF0:∀ b,b<12→Hl.newF (rdsF k) (scsF k) (12+b)=0:=fun b hb=>by
  unfold Hl.newF scsF
  rw [if_neg (by omega),if_pos (by omega),show 12+b - 12=b by omega,if_pos hb,h.led.scs b hb]
  rfl
 have hnF:(nwK k (fdsTo P 96)).F=Hl.newF (rdsF k) (scsF k):=by rw [hnw,h4];rfl
 have hmF:Hl.HB (mtK k (fdsTo P 96)).F:=by
  show Hl.HB (snF (nwK k (fdsTo P 96)).F 12)
  rw [hnF]
  exact snF_hb hF1 12 (Nat.le_refl _)
 have hm0:∀ b,b<12→(mtK k (fdsTo P 96)).F (12+b)=0:=fun b hb=>by
  show snF (nwK k (fdsTo P 96)).F 12 (12+b)=0
  rw [hnF]
  exact sn_zero hF0 12 (Nat.le_refl _) b hb
 have hmt:mtK k (fdsTo P 96)={ n0K k (fdsTo P 96) with at_:=A,ow:=O,en:=E,st:=st,F:=(mtK k (fdsTo P 96)).F }:=by
  show ({ nwK k (fdsTo P 96) with F:=(mtK k (fdsTo P 96)).F }:KS)=_
  rw [hnw,h4]
 have hA:∀ o,o<25→A o=L o:=fun o ho=>by
  have:=hat o ho
  rw [h4] at this
  exact this
 have hst:∀ b,st b=if b<12∧0<lv L b then 2 else 0:=fun b=>by
  rw [hst b,lv_congr hat]
 rw [h4] at hcon hen
 have hst3:∀ b,b<12→(st b=0↔lv L b=0):=fun b hb=>by
  rw [hst b]
  by_cases e:0<lv L b
  ·rw [if_pos ⟨hb,e⟩]
   omega
  ·rw [if_neg (fun x=>e x.2)]
   omega
 have e24:A 24=L 24:=hA 24 (by omega)
 -- the cleaning
 have hscal:=scP_calm h.gd.calm 96
 have hscp:=(scP_pg P 96).1
 have hlive:∀ o,o<25→L o≠0→st ((L o - 1) / 8)≠0:=fun o ho e hz=>by
  have hp:=(h.led.yes o ho e).1
  have:=(hst3 ((L o - 1) / 8) (by omega)).1 hz
  exact lv_zero.1 this o ho e rfl
 generalize hKm:mtK k (fdsTo P 96)=Km at *
 have kst:Km.st=st:=by rw [hmt]
 have kat:Km.at_=A:=by rw [hmt]
 have hT:∀ j,Okay (clP Km (scP P 96) j) k L m∧∀ a,Shows P L a→Shows (clP Km (scP P 96) j) L a:=fun j=>by
  have hc:=clP_calm Km hscal j
  have hk:∀ o,o<25→L o≠0→(clP Km (scP P 96) j).pg (L o - 1)=P.pg (L o - 1):=fun o ho e=>by
   rw [clP_pg,if_neg (fun x=>by have:=x.2;rw [kst] at this;exact hlive o ho e this),hscp]
  refine ⟨h.sub hc (fun q t D hq e=>?_) hk,fun a hs=>hs.same hk⟩
  rw [clP_pg] at e
  split at e
  ·cases e
  ·rw [hscp] at e
   exact e
 obtain ⟨hok,hsh⟩:=hT 12
 obtain ⟨F3,h6⟩:=clK_same Km 12
 obtain ⟨hFB,hFz⟩:=cl_F hmF hm0 12
 have hpg:∀ q,(clP Km (scP P 96) 12).pg q=if q / 8<12∧st (q / 8)=0 then .blank else P.pg q:=fun q=>by rw [clP_pg,kst,hscp]
 have huq:(clP Km (scP P 96) 12).uniq:=fun p q t t' D D' hp hq e e' hs=>by
  by_cases hpq:p=q
  ·exact hpq
  ·rw [hpg] at e e'
   by_cases hx:p / 8<12∧st (p / 8)=0
   ·rw [if_pos hx] at e;cases e
   ·rw [if_neg hx] at e
    by_cases hy:q / 8<12∧st (q / 8)=0
    ·rw [if_pos hy] at e';cases e'
    ·rw [if_neg hy] at e'
     rcases h.tw p q t t' D D' hp hq hpq e e' hs with g | g
     ·exact absurd ⟨by omega,(hst3 _ (by omega)).2 g⟩ hx
     ·exact absurd ⟨by omega,(hst3 _ (by omega)).2 g⟩ hy
 obtain ⟨x1,x2,x3,x4⟩:=next_fds h hm
 have okA:Okay (clP Km (scP P 96) 12) k A m:=by
  refine ⟨hok.gd,⟨by rw [e24];exact h.led.pt,by rw [e24];exact hok.led.data,h.led.told,h.led.bad,h.led.scs,fun o ho e=>by rw [hA o ho] at e ⊢;exact hok.led.yes o ho e,fun o ho e=>by rw [hA o ho] at e;exact hok.led.no o ho e⟩,?_,?_,hok.sq,hok.fl⟩
  ·have:lv A=lv L:=by funext b;exact lv_congr hA
   rw [this]
   exact hok.room
  ·have:lv A=lv L:=by funext b;exact lv_congr hA
   rw [this]
   exact hok.tw
 have h7:clK Km 12={ n0K k (fdsTo P 96) with at_:=A,ow:=O,en:=E,st:=st,F:=F3 }:=by
  rw [h6,hmt]
 refine ⟨clK Km 12,clP Km (scP P 96) 12,clT Km (scP P 96) 12,?_,?_,by rw [h7];rfl,⟨rfl,rfl,fun o ho=>by rw [h7];exact hA o ho,fun o ho e=>by rw [hpg,if_neg (fun x=>hlive o ho e x.2)],by rw [h7];rfl,by rw [h7];rfl,by rw [h7];rfl,hok⟩,fun a hs=>⟨fun T hTm=>?_,?_⟩⟩
 ·obtain ⟨t,D,n1,n2,n3,n4⟩:=newest_point h
  have hD:D=ptN k:=by
   have:=h.led.data
   unfold dataAt at this
   rw [n1] at this
   exact this
  refine .old (k:=k) (p:=L 24 - 1) n4 rfl n3 n1 n2 (fun j hj=>by rw [hD]) hN (by rw [hnF];exact hF1) ?_ ?_ ?_
  ·rw [hKm,kat,e24]
   exact h.led.lt (by omega)
  ·rw [hKm,kst]
   unfold wornB
   rw [show cntS st 3=0 from cntTo_none (fun b hb=>by rw [hst b];split<;>omega)]
   rfl
  ·rw [hKm]
   exact .done (by rw [kat,e24];exact h.led.pt)
 ·rw [h7] at hFB hFz ⊢
  refine ⟨⟨okA,huq,fun o ho e=>?_,fun o ho=>rfl,⟨fun p t D hp e=>?_,x2,x3,x4⟩,hcon⟩,⟨fun b hb=>?_,fun b hb e=>?_,(fun e=>nomatch e),fun b i hb e hi=>?_,(fun e=>nomatch e),by show 0<12;omega,by show 0≤8;omega,by show 0≤12;omega⟩,⟨hFB,hFz,?_⟩,?_⟩
  ·have e:A o≠0:=e
   rw [hA o ho] at e
   obtain ⟨t,D,g1,g2⟩:=hen o ho e
   refine ⟨t,D,?_,g2⟩
   show (clP Km (scP P 96) 12).pg (A o - 1)=_
   rw [hA o ho,hpg,if_neg (fun x=>hlive o ho e x.2)]
   exact g1
  ·refine x1 p t D hp ?_
   rw [hpg] at e
   split at e
   ·cases e
   ·exact e
  ·show st b≤2
   rw [hst b]
   split<;>omega
  ·have e:st b=1:=e
   rw [hst b] at e
   split at e<;>omega
  ·have e:st b=0:=e
   rw [hpg,if_pos ⟨by omega,by rw [show (b * 8+i) / 8=b by omega];exact e⟩]
  ·have:=h.led.told.cur
   show k.cur.toNat<96
   omega
  ·exact Nat.le_trans h.room (cntTo_mono (fun b hb e=>(hst3 b hb).2 e))
 ·obtain ⟨j,hj,rfl⟩:=clT_mem hTm
  exact ⟨L,(hT j).1,(hT j).2 a hs⟩
 ·rw [h7]
  intro o j ho hj
  have:=hsh a hs o j ho hj
  unfold arr at this ⊢
  show (if A o=0 then 0 else dataAt _ (A o - 1) j)=_
  rw [hA o (by omega)]
  exact this
end Go.Proofs.YtaeikigfgfcadaaGreat
namespace Go.Proofs.YtaeikigfgfcadaaGreat
open Go.RowKit
theorem byP_nil:∀ k,byP [] k=[]
 | 0=>rfl
 | k+1=>by
  have:=byP_nil k
  unfold byP at this ⊢
  rw [List.range_succ,List.flatMap_append,this]
  rfl
theorem live_nil (k:Cp) (o:Nat):liveF [] k o = -1:=by
 unfold liveF
 rw [byP_nil]
 rfl
theorem n1_nil (k:Cp):∀ i,n1K k [] i=n0K k []
 | 0=>rfl
 | i+1=>by
  rw [n1K_succ,live_nil,if_pos (by decide),n1_nil k i]
theorem lv_none (b:Nat):∀ n,lvTo (fun _=>0) n b=0
 | 0=>rfl
 | n+1=>by
  unfold lvTo
  rw [lv_none b n,if_neg (fun h=>h.1 rfl)]
theorem n2_nil {K:KS} (h:K.at_=fun _=>0):∀ b,n2K K b=K
 | 0=>rfl
 | b+1=>by
  rw [n2K_succ,if_neg (by
   rw [h]
   have:lv (fun _=>0) b=0:=lv_none b 25
   omega),n2_nil h b]
theorem flz:∀ n,flTop Cp.zero (-1) n=if n=0 then -1 else 0
 | 0=>rfl
 | n+1=>by
  unfold flTop
  rw [flz n]
  show max (if n=0 then -1 else 0) (0:Int)=_
  by_cases h:n=0
  ·rw [if_pos h,if_neg (by omega)]
   rfl
  ·rw [if_neg h,if_neg (by omega)]
   rfl
theorem next_nil:nextF [] Cp.zero=1:=by
 have h:topOf [] Cp.zero=0:=by
  show flTop Cp.zero (max 0 0 - 1) 24=0
  rw [show (max (0:Int) 0 - 1) = -1 by omega,flz,if_neg (by omega)]
 unfold nextF
 rw [h]
 rfl
theorem zero_told:Cp.zero.told:=⟨by decide,by decide,fun _ _=>⟨Int.le_refl 0,by show (0:Int)≤1099511627775;omega⟩,fun _ _=>⟨Int.le_refl 0,by show (0:Int)≤65535;omega⟩,fun _ _=>⟨Int.le_refl 0,by show (0:Int)≤255;omega⟩⟩
theorem nw_nil:NwHyp Cp.zero []:=by
 refine ⟨zero_told,fun _ _=>rfl,fun i _=>?_,fun i _ h=>?_⟩
 ·rw [n1_nil]
  exact ⟨fun _ _=>by show 0≤96;omega,fun _ _=>by show 0≤25;omega⟩
 ·rw [live_nil] at h
  omega
def CS.bare (P:CS):Prop:=P.calm∧∀ p,P.pg p = .blank
theorem fds_bare {P:CS} (h:P.bare):∀ n,fdsTo P n=[]
 | 0=>rfl
 | n+1=>by
  rw [fdsTo_not (fun t D e=>by rw [h.2] at e;cases e),fds_bare h n]
set_option maxHeartbeats 1000000 in
def FirstAt (P:CS) (K':KS) (P':CS):Prop:=∃ K1,K'=lyK K1 24∧P'=lyP K1 (clP (mtK Cp.zero []) (scP P 96) 12) 24 noteD∧LyCore 24 noteD K1 (clP (mtK Cp.zero []) (scP P 96) 12)∧(stC (sqK K1) K1.next (-1)).told∧Hl.HB K1.F∧K1.F=(clK (mtK Cp.zero []) 12).F∧((mtK Cp.zero []).st=fun _=>0)∧K1.cur=0∧K1.qu=[]
theorem first_end {P:CS} (h:P.bare):∃ K' P' tr k',Mounts P K' P' tr∧Inv K' P' k' 2∧K'.qu=[]∧FirstAt P K' P'∧Shows P' K'.at_ (fun _ _=>0):=by
 have hval:P.val:=fun p t D _ e=>by rw [h.2] at e;cases e
 have hF1:Hl.HB (Hl.newF (rdsF Cp.zero) (scsF Cp.zero)):=Hl.HB.new (fun j hj=>by
  unfold rdsF scsF
  rw [if_pos hj,if_pos hj]
  exact ⟨Int.le_refl 0,Int.le_refl 0⟩)
 have hF0:∀ b,b<12→Hl.newF (rdsF Cp.zero) (scsF Cp.zero) (12+b)=0:=fun b hb=>by
  unfold Hl.newF scsF
  rw [if_neg (by omega),if_pos (by omega),show 12+b - 12=b by omega,if_pos hb]
  rfl
 have hnw:nwK Cp.zero []=n0K Cp.zero []:=by
  unfold nwK
  rw [n1_nil,n2_nil rfl]
 have hnF:(nwK Cp.zero []).F=Hl.newF (rdsF Cp.zero) (scsF Cp.zero):=by rw [hnw];rfl
 have hmF:Hl.HB (mtK Cp.zero []).F:=by
  show Hl.HB (snF (nwK Cp.zero []).F 12)
  rw [hnF]
  exact snF_hb hF1 12 (Nat.le_refl _)
 have hm0:∀ b,b<12→(mtK Cp.zero []).F (12+b)=0:=fun b hb=>by
  show snF (nwK Cp.zero []).F 12 (12+b)=0
  rw [hnF]
  exact sn_zero hF0 12 (Nat.le_refl _) b hb
 have hmt:mtK Cp.zero []={ n0K Cp.zero [] with F:=(mtK Cp.zero []).F }:=by
  show ({ nwK Cp.zero [] with F:=(mtK Cp.zero []).F }:KS)=_
  rw [hnw]
 generalize hKm:mtK Cp.zero []=Km at *
 obtain ⟨F3,h6⟩:=clK_same Km 12
 obtain ⟨hFB,hFz⟩:=cl_F hmF hm0 12
 have h7:clK Km 12={ n0K Cp.zero [] with F:=F3 }:=by rw [h6,hmt]
 rw [h7] at hFB hFz
 have hscal:=scP_calm h.1 96
 have hc0:=clP_calm Km hscal 12
 have hpg:∀ q,(clP Km (scP P 96) 12).pg q = .blank:=fun q=>by
  rw [clP_pg]
  split
  ·rfl
  ·rw [(scP_pg P 96).1,h.2]
 -- a block is taken
 obtain ⟨K1,hK1⟩:∃ K1,K1=opK (clK Km 12) 0:=⟨_,rfl⟩
 have hsh:shK (clK Km 12)=clK Km 12:=by
  rw [h7]
  rfl
 have e1:K1={ n0K Cp.zero [] with F:=F3,st:=updf (fun _=>0) 0 1,pn:=1,fo:=true,fb:=0,fi:=0 }:=by
  rw [hK1]
  unfold opK
  rw [hsh,h7]
  rfl
 have f1:K1.st=updf (fun _=>0) 0 1∧K1.fo=true∧K1.fb=0∧K1.fi=0∧K1.fl=fun _=>0:=by
  rw [e1]
  exact ⟨rfl,rfl,rfl,rfl,rfl⟩
 obtain ⟨f1,f2,f3,f4,f5⟩:=f1
 have g0:(clK Km 12).st=(fun _=>0)∧(clK Km 12).pn=0∧(clK Km 12).fo=false∧(clK Km 12).fi=0:=by
  rw [h7]
  exact ⟨rfl,rfl,rfl,rfl⟩
 obtain ⟨g1,g2,g3,g4⟩:=g0
 have hro:roomB K1.fo K1.fi 24=true:=by rw [f2,f4];decide
 have hsp:spareB (shK (clK Km 12)).st=true:=by
  rw [hsh,g1]
  decide
 have htk:takeN (shK (clK Km 12)).st (shK (clK Km 12)).pn=some 0:=by
  rw [hsh,g1,g2]
  decide
 have hop:Opens 24 48 (clK Km 12) (clP Km (scP P 96) 12) K1 (clP Km (scP P 96) 12) []:=by
  rw [hK1]
  refine .spare (n:=47) (by rw [h7];show 0<12;omega) (by rw [h7];show 0≤8;omega) (by rw [g3,g4];decide) hsp (by rw [hsh,h7];show 0≤12;omega) htk (.room (n:=46) ?_ ?_ ?_)
  ·rw [← hK1,e1]
   show 0<12
   omega
  ·rw [← hK1,e1]
   show 0≤8
   omega
  ·rw [← hK1]
   exact hro
 have B1:InvB K1 (clP Km (scP P 96) 12):=by
  rw [e1]
  refine ⟨fun b hb=>?_,fun b hb e=>?_,fun _=>rfl,fun b i _ _ _=>hpg _,fun _ i _ _=>hpg _,by show 0<12;omega,by show 0≤8;omega,by show 1≤12;omega⟩
  ·show updf (fun _:Nat=>(0:Nat)) 0 1 b≤2
   unfold updf
   split
   ·omega
   ·show 0≤2
    omega
  ·have e:updf (fun _:Nat=>(0:Nat)) 0 1 b=1:=e
   unfold updf at e
   by_cases hb0:b=0
   ·exact ⟨rfl,hb0.symm⟩
   ·rw [if_neg hb0] at e
    have e:0=1:=e
    omega
 have H1:InvH K1:=by
  rw [e1]
  exact ⟨hFB,hFz,by show (0:Int).toNat<96;decide⟩
 have C1:Con K1.at_ K1.ow:=by
  rw [e1]
  exact ⟨fun p hp e=>absurd rfl e,fun o ho e=>absurd rfl e⟩
 have n1:K1.next=1:=by
  rw [e1]
  exact next_nil
 have hfree:5≤cntS K1.st 0:=by
  rw [f1]
  decide
 have a1:K1.at_=fun _=>0:=by rw [e1];rfl
 have E:=lay_core0 B1 H1 C1 hc0 ⟨by omega,by omega⟩ (fun o ho e=>by rw [a1] at e;exact absurd rfl e) hfree (of:=24) (by omega) hro noteD
 obtain ⟨ow,F,calls,he,hcon,hc1,hc2⟩:=E.eq
 have htold:(stC (sqK K1) K1.next (-1)).told:=stC_told (K:=sqK K1) (by omega) H1.hb H1.cur (fun o ho=>by
  show 0≤K1.fl o∧K1.fl o≤_
  rw [f5]
  exact ⟨Int.le_refl 0,by show (0:Int)≤1099511627775;omega⟩)
 have hcut:cutD (noteD (sqK K1) K1.next)=noteD (sqK K1) K1.next:=ptN_cut _
 have hfa:FirstAt P (lyK K1 24) (lyP K1 (clP Km (scP P 96) 12) 24 noteD):=⟨K1,rfl,by rw [hKm],by rw [hKm];exact E,htold,H1.hb,by rw [hKm,h7,e1],by rw [hKm,hmt];rfl,by rw [e1];rfl,by rw [e1];rfl⟩
 have hpN:=E.pg
 rw [hcut] at hpN
 have hpne:=E.ne
 have hfb0:K1.fb * 8+K1.fi=0:=by rw [f3,f4]
 rw [hfb0] at hpN hpne he hcon
 refine ⟨_,_,_,stC (sqK K1) K1.next (-1),.new (by rw [byP_fds hval (Nat.le_refl _),fds_bare h];rfl) nw_nil (by rw [hnF];exact hF1) ?_ ?_ (by
  rw [hKm]
  exact .note (by rw [hmt];rfl) ⟨by rw [g1];decide,hop,E.fb,E.fi,hro,E.next,E.hb,E.mw,E.calm,E.blank,E.ok,fun j=>ptN_lt _ j⟩ htold),⟨?_,E.b,E.h,E.free⟩,by rw [he,e1];rfl,hfa,?_⟩
 ·rw [hKm,hmt]
  show 0≤96
  omega
 ·rw [hKm,hmt]
  show wornB (fun _=>0)=false
  decide
 ·have only:∀ q t D,(lyP K1 (clP Km (scP P 96) 12) 24 noteD).pg q = .full t D→q=0∧t=nwTag K1 24∧D=noteD (sqK K1) K1.next:=fun q t D e=>by
   by_cases hq:q=0
   ·rw [hq,hpN] at e
    cases e
    exact ⟨hq,rfl,rfl⟩
   ·rw [hpne q hq,hpg] at e
    cases e
  have hat24:updf K1.at_ 24 (0+1) 24=1:=by simp [updf]
  have hat:∀ o,o≠24→updf K1.at_ 24 (0+1) o=0:=fun o ho=>by
   unfold updf
   rw [if_neg ho,a1]
  have hok24:=E.ok
  rw [he]
  refine ⟨⟨⟨CS.lay_calm E.calm _ _ _,fun p t D hp e=>?_,fun p q t t' D D' hp hq hn e e' _=>?_⟩,⟨?_,?_,htold,stC_bad (K:=sqK K1) (P:=clP Km (scP P 96) 12) ⟨B1.st,B1.opn,B1.fst,B1.bl,B1.fr,B1.fb,B1.fi,B1.pn⟩ K1.next,H1.sc,fun o ho e=>?_,fun o ho e q t D hq hf hof=>?_⟩,?_,fun p q t t' D D' hp hq hn e e' _=>?_,fun p t D hp e=>?_,?_⟩,fun p q t t' D D' hp hq e e' _=>?_,fun o ho e=>?_,fun o ho=>rfl,⟨fun p t D hp e=>?_,?_,?_,fun o ho=>?_⟩,hcon⟩
  ·obtain ⟨rfl,rfl,rfl⟩:=only p t D e
   exact ⟨hok24,by show ((K1.fb * 8+K1.fi:Nat):Int)=_;rw [hfb0],rfl,fun j=>ptN_lt _ j,hcut⟩
  ·exact absurd ((only p t D e).1.trans (only q t' D' e').1.symm) hn
  ·show updf K1.at_ 24 (0+1) 24≠0
   rw [hat24]
   omega
  ·show dataAt _ (updf K1.at_ 24 (0+1) 24 - 1)=_
   rw [hat24]
   unfold dataAt
   rw [show 1 - 1=0 from rfl,hpN]
   rfl
  ·have e:updf K1.at_ 24 (0+1) o≠0:=e
   by_cases ho24:o=24
   ·subst ho24
    show Cnt _ 24 (floor _ 24) (updf K1.at_ 24 (0+1) 24 - 1)
    rw [hat24]
    refine ⟨by omega,nwTag K1 24,noteD (sqK K1) K1.next,hpN,rfl,?_,fun q t' D' hq hn e _=>absurd (only q t' D' e).1 hn⟩
    show (-1:Int)<K1.next
    omega
   ·exact absurd (hat o ho24) e
  ·obtain ⟨rfl,rfl,rfl⟩:=only q t D hf
   have e:updf K1.at_ 24 (0+1) o=0:=e
   have hof:(24:Int)=o:=hof
   have:o=24:=by omega
   rw [this,hat24] at e
   omega
  ·show 5≤cntS (lv (updf K1.at_ 24 (0+1))) 0
   refine room_of (st:=K1.st) (fun b hb e=>lv_zero.2 fun o ho g1 g2=>?_) hfree
   by_cases ho24:o=24
   ·rw [ho24,hat24] at g2
    have hb0:b=0:=by omega
    rw [hb0,e1] at e
    simp [updf] at e
   ·exact g1 (hat o ho24)
  ·exact absurd ((only p t D e).1.trans (only q t' D' e').1.symm) hn
  ·obtain ⟨rfl,rfl,rfl⟩:=only p t D e
   show K1.next<2
   omega
  ·refine ⟨by show K1.next<2;omega,fun o ho=>?_⟩
   show K1.fl o<2
   rw [f5]
   show (0:Int)<2
   omega
  ·exact (only p t D e).1.trans (only q t' D' e').1.symm
  ·have e:updf K1.at_ 24 (0+1) o≠0:=e
   by_cases ho24:o=24
   ·subst ho24
    refine ⟨nwTag K1 24,noteD (sqK K1) K1.next,?_,?_⟩
    ·show (lyP K1 (clP Km (scP P 96) 12) 24 noteD).pg (updf K1.at_ 24 (0+1) 24 - 1)=_
     rw [hat24]
     exact hpN
    ·show updf K1.en 24 _ 24=_
     exact if_pos rfl
   ·exact absurd (hat o ho24) e
  ·obtain ⟨rfl,rfl,rfl⟩:=only p t D e
   show K1.next<K1.next+1
   omega
  ·show 1≤K1.next+1
   omega
  ·show K1.next+1≤2
   omega
  ·show K1.fl o<K1.next+1
   rw [n1,f5]
   show (0:Int)<1+1
   omega
 ·intro o j ho hj
  rw [he]
  show arr _ (updf K1.at_ 24 (0+1)) o j=0
  unfold arr
  rw [if_pos (by unfold updf;rw [if_neg (by omega),a1])]
end Go.Proofs.YtaeikigfgfcadaaGreat
namespace Go.Proofs.YtaeikigfgfcadaaGreat
open Go.RowKit
set_option maxRecDepth 20000
def someN (c:Int) (n:Nat):Nat:=((if c<0 then 0 - (c+1) else c) % (n:Int)).toNat
theorem someN_lt (c:Int) {n:Nat} (h:0<n):someN c n<n:=by
 unfold someN
 have:=Int.emod_lt_of_pos (if c<0 then 0 - (c+1) else c) (show (0:Int)<n by omega)
 omega
set_option maxHeartbeats 1000000 in
theorem some_ok (c:Int) (n:Nat) (h1 : -9223372036854775808≤c∧c≤9223372036854775807) (hn:0<n) (w:World):Spec Tryz.prog 16 #[.int .i64 c,.int .i64 n] w fun v w'=>v = .int .i64 (someN c n:Nat)∧w=w':=by
 have key:∀ x:Int,0≤x→((x % (n:Int)).toNat:Int)=x % (n:Int):=fun x hx=>by
  have:=Int.emod_nonneg x (show (n:Int)≠0 by omega)
  omega
 unfold someN
 refine spec_of_wpE (T:=tt) tt_ok Tryz.func16 rfl (by decide +kernel) Tryz.ntmps16 (by simp) ?_
 by_cases hc:c<0
 ·rw [if_pos hc,key _ (by omega)]
  conv=>whnf
  repeat ((first
   | refine Ar.la ?_|refine Dv.r ?_|refine Br.y ?_|refine CW.s ?_);conv=>whnf)
  exact ⟨rfl,rfl,rfl⟩
 ·rw [if_neg hc,key _ (by omega)]
  conv=>whnf
  repeat ((first
   | refine Dv.r ?_|refine Br.n ?_|refine CW.s ?_);conv=>whnf)
  exact ⟨rfl,rfl,rfl⟩
theorem Dv.quo64 {a b:Int} {K:Value→Prop} (h1:0≤a) (h2:0<b) (h3:a≤18446744073709551615) (h:K (.int .u64 (a / b))):Dv .quo .u64 a b K:=⟨by omega,by
 have e:a.tdiv b=a / b:=Int.tdiv_eq_ediv_of_nonneg h1
 have h4:0≤a / b:=Int.ediv_nonneg h1 (by omega)
 have h5:a / b≤a:=Int.ediv_le_self b h1
 simp only [e]
 rw [show IntKind.u64.wrap (a / b)=a / b from by unfold IntKind.wrap;simp [IntKind.signed,IntKind.bits];omega]
 exact h⟩
def lcg (x:Nat):Nat→Nat
 | 0=>x
 | j+1=>(lcg x j * 6364136223846793005+1442695040888963407) % 18446744073709551616
def byF (x j:Nat):Nat:=if x=0 then 0 else (lcg x (j+1) / 1099511627776) % 256
theorem byF_lt (x j:Nat):byF x j<256:=by
 unfold byF
 split
 ·omega
 ·exact Nat.mod_lt _ (by omega)
theorem lcg_lt {x:Nat} (h:x<18446744073709551616):∀ j,lcg x j<18446744073709551616
 | 0=>h
 | j+1=>Nat.mod_lt _ (by omega)
theorem lcg_succ (x j:Nat):lcg x (j+1)=(lcg x j * 6364136223846793005+1442695040888963407) % 18446744073709551616:=rfl
theorem lcg_zero (x:Nat):lcg x 0=x:=rfl
attribute [local irreducible] lcg
set_option maxHeartbeats 1000000 in
theorem tbytes_ok (x:Nat) (hx:x≤9223372036854775807) (w:World):Spec Tryz.prog 24 #[.int .i64 x] w fun v w'=>∃ g,v = .slice (some ⟨g,0,none⟩) 160 160∧g=w.heap.size∧Row w' g 5 160 (fun j=>.int .u8 (byF x j:Nat))∧Keep [] w w':=by
 refine spec_of_wpE (T:=tt) tt_ok Tryz.func24 rfl (by decide +kernel) Tryz.ntmps24 (by simp) ?_
 conv=>whnf
 refine Ru.of (mk160_run w) ?_
 have ry:=Row.made w 5 (.int .u8 0) 160
 have k1:Keep [] w (w.alloc (.cells (madeCells #[.int .u8 0] 160) 5)):=(Keep.refl _ _).alloc _
 generalize w.alloc _=w1 at *
 by_cases h0:x=0
 ·subst h0
  conv=>whnf
  repeat ((first
   | refine Br.t ?_|refine CW.s ?_);conv=>whnf)
  exact ⟨rfl,_,rfl,rfl,ry,k1⟩
 ·have hx0:decide ((x:Int)=0)=false:=decide_eq_false (by omega)
  conv=>whnf
  repeat ((first
   | refine Ar.lc ?_|refine Br.n ?_|refine CW.s ?_);conv=>whnf)
  refine CW.loop (ι:=Nat) (fun i w'=>i≤160∧Row w' w.heap.size 5 160 (fun j=>if j<i then .int .u8 (byF x j:Nat) else .int .u8 0)∧Keep [] w w')
   (fun i=>[(3,.slice (some ⟨w.heap.size,0,none⟩) 160 160),(4,.int .u64 (lcg x i:Nat)),(5,.int .i64 i)]) (fun i=>160 - i) 0 tt_ok ⟨by omega,ry.congr (fun j hj=>by simp),k1⟩ ⟨rfl,by rw [lcg_zero];rfl,rfl,trivial⟩ ?_
  clear ry k1
  rintro i wr ⟨hi,rg,kk⟩
  have hl:=lcg_lt (x:=x) (by omega) i
  rcases Nat.lt_or_ge i 160 with hlt | hge
  ·conv=>whnf
   repeat ((first
    | (refine Ar.u64m ?_)
    | refine Br.y ?_|refine CW.s ?_);conv=>whnf)
   have hv:(((lcg x i:Nat):Int) * 6364136223846793005 % 18446744073709551616+1442695040888963407) % 18446744073709551616=((lcg x (i+1):Nat):Int):=by
    rw [lcg_succ]
    omega
   rw [hv]
   have hl2:=lcg_lt (x:=x) (by omega) (i+1)
   refine Dv.quo64 (by omega) (by omega) (by omega) ?_
   conv=>whnf
   repeat ((first
    | (refine Ar.u8m ?_)
    | (refine Ix.of i (by omega) (by omega) ?_));conv=>whnf)
   rw [show 0+i=i by omega]
   refine Sd.rowAt rg i (by omega) (by omega) rfl ?_
   intro w7 rg7 k7
   conv=>whnf
   repeat ((first
    | refine Ar.la ?_);conv=>whnf)
   refine ⟨i+1,⟨hlt,rg7.congr (fun j hj=>?_),kk.fresh (Nat.le_refl _) k7⟩,⟨rfl,rfl,vi (by omega),trivial⟩,by simp only;omega⟩
   unfold put
   by_cases hji:j=i
   ·rw [if_pos hji,if_pos (by omega),hji]
    unfold byF
    rw [if_neg h0]
    exact congrArg (Value.int .u8) (by omega)
   ·rw [if_neg hji]
    simp only
    by_cases hj2:j<i
    ·rw [if_pos hj2,if_pos (by omega)]
    ·rw [if_neg hj2,if_neg (by omega)]
  ·obtain rfl:i=160:=by omega
   conv=>whnf
   repeat ((first
    | refine Br.f ?_|refine CW.s ?_);conv=>whnf)
   exact ⟨rfl,_,rfl,rfl,rg.congr (fun j hj=>by simp only [if_pos hj]),kk⟩
theorem same17_ok (A B:Option Addr) (n m c d:Nat) (f g:Nat→Int) (w:World) (r0:Rd w A n (fun j=>.int .u8 (f j))) (r1:Rd w B m (fun j=>.int .u8 (g j))) (hf:∀ j,0≤f j∧f j≤255) (hg:∀ j,0≤g j∧g j≤255) :
  Spec Tryz.prog 23 #[.slice A n c,.slice B m d] w fun v w'=>v = .bool (sameB n m f g)∧w=w':=by
 rw [← str_same hf hg]
 refine spec_of_wpE (T:=tt) tt_ok Tryz.func23 rfl (by decide +kernel) Tryz.ntmps23 (by simp) ?_
 conv=>whnf
 refine Ru.bytesStr Tryz.underlying37 Tryz.underlying5 Tryz.underlying9 r0 ?_
 generalize strOfNums ((List.range n).map f)=x
 conv=>whnf
 refine Ru.bytesStr Tryz.underlying37 Tryz.underlying5 Tryz.underlying9 r1 ?_
 generalize strOfNums ((List.range m).map g)=y
 conv=>whnf
 refine Ru.eqlStr Tryz.underlying9 ?_
 conv=>whnf
 exact ⟨rfl,rfl,rfl⟩
end Go.Proofs.YtaeikigfgfcadaaGreat
namespace Go.Proofs.YtaeikigfgfcadaaGreat
open Go.RowKit
set_option maxRecDepth 20000
def farT (T:TypeId):Bool := !(Nat.beq T 143 || Nat.beq T 220 || Nat.beq T 188 || Nat.beq T 210 || Nat.beq T 223 || Nat.beq T 217 || Nat.beq T 3 || Nat.beq T 250 || Nat.beq T 104 || Nat.beq T 274 || Nat.beq T 297 || Nat.beq T 318 || Nat.beq T 5 || Nat.beq T 87)
section
variable {w w':World} {own:List Nat} {d ch:Nat} {K:KS} {P:CS} {b:Option Nat}
theorem farT_ne {T U:TypeId} (h:farT T=true) (hU:farT U=false):T≠U:=fun e=>by
 rw [e,hU] at h
 cases h
theorem farT_core {T:TypeId} (h:farT T=true):(Nat.beq T 143 || Nat.beq T 220 || Nat.beq T 188 || Nat.beq T 210 || Nat.beq T 223 || Nat.beq T 217 || Nat.beq T 3 || Nat.beq T 250 || Nat.beq T 104 || Nat.beq T 274 || Nat.beq T 297 || Nat.beq T 318 || Nat.beq T 5)=false:=by
 unfold farT at h
 rw [Bool.not_eq_true',Bool.or_eq_false_iff] at h
 exact h.1
theorem DvOn.keep0 (D:DvOn w own d ch K P b) (k:Keep [] w w'):DvOn w' own d ch K P b:=by
 obtain ⟨N,X,c,n,e,r,h,eC,hq⟩:=D
 exact ⟨N,X,c,n,e,Row.keep r k (by simp),h.keep0 k,eC,hq⟩
theorem DvOn.away (D:DvOn w own d ch K P b) {x m:Nat} {T:TypeId} {f:Nat→Value} (rx:Row w x T m f) (hT:farT T=true) (k:Keep [x] w w'):DvOn w' own d ch K P b:=by
 obtain ⟨N,X,c,n,e,r,h,eC,hq⟩:=D
 have hd:d≠x:=Row.ne_ r rx (farT_ne hT (by decide)).symm
 exact ⟨N,X,c,n,e,Row.keep r k (by simpa using hd),h.away rx (farT_core hT) k,eC,hq⟩
theorem DvOn.far (D:DvOn w own d ch K P b) {x m:Nat} {T:TypeId} {f:Nat→Value} (rx:Row w x T m f) (hT:farT T=true):x∉own:=fun hx=>by
 obtain ⟨N,X,c,n,e,r,h,eC,hq⟩:=D
 rw [e] at hx
 obtain ⟨C,M,q⟩:=h.med
 obtain ⟨F,rg⟩:=M.frm.cod.fs.ty
 have nn:∀ {y m':Nat} {U:TypeId} {f':Nat→Value},Row w y U m' f'→farT U=false→x≠y:=fun ry hU=>Row.ne_ rx ry (farT_ne hT hU)
 rcases List.mem_cons.1 hx with e | hm
 ·exact nn r (by decide) e
 rcases List.mem_append.1 hm with hm | hm
 ·simp only [Cr.all,Cr.own,Pt.l,List.cons_append,List.nil_append,List.mem_cons,List.not_mem_nil,or_false] at hm
  rcases hm with e | e | e | e | e | e | e | e | e
  ·exact nn h.core.row (by decide) e
  ·exact nn h.core.pool (by decide) e
  ·exact nn h.core.map (by decide) e
  ·exact nn h.core.front (by decide) e
  ·exact nn h.core.health (by decide) e
  ·exact nn h.core.pat (by decide) e
  ·exact nn M.row (by decide) e
  ·exact nn M.chip (by decide) e
  ·exact nn rg (by decide) e
 ·exact h.core.qu.row_ne rx (farT_ne hT (by decide)).symm hm
theorem DvOn.in_own (D:DvOn w own d ch K P b):d∈own∧ch∈own:=by
 obtain ⟨N,X,c,n,e,r,h,eC,hq⟩:=D
 rw [e]
 exact ⟨List.mem_cons_self ..,List.mem_cons_of_mem _ (List.mem_append_left _ (in_all_l (by rw [← eC];simp [Pt.l])))⟩
theorem DvOn.drewN (D:DvOn w own d ch K P b) (n:Nat):DvOn (w.drewN n) own d ch K P b:=D.keep0 ((Keep.refl _ _).drewN n)
theorem DvOff.keep {Q:CS} {S:List Nat} (D:DvOff w d ch Q) (k:Keep S w w') (hd:d∉S) (hc:ch∉S):DvOff w' d ch Q:=by
 obtain ⟨r,C,H,h⟩:=D
 exact ⟨Row.keep r k hd,C,H.keep k hc,h⟩
end
theorem dev_none (w:World) (x:Operand) (a:Addr):(do eqGuard .eql 25 x (.const (.pointer none)) (.pointer (some a)) (.pointer none);binOp .eql 25 (.pointer (some a)) (.pointer none):Sem Value).run Tryz.prog w = .ok (.bool false) w:=by kernel_rfl
def OcEnds (ch:Nat) (K':KS) (P':CS) (b:Option Nat) (tr:List CS) (w:World) (v:Value) (w':World):Prop :=
 Keep [ch] w w'∧Runs b tr (fun b'=>∃ d own',v = .pointer (some ⟨d,0,none⟩)∧DvOn w' own' d ch K' P' b'∧∀ x,x∈own'→x=ch∨w.heap.size≤x) (fun Q=>v = .pointer none∧∃ C,ChipAt w' ch C∧DeadAs C Q)
set_option maxHeartbeats 2000000 in
theorem onchip_ok {w:World} {ch:Nat} {C:Chip} {P:CS} {b:Option Nat} (H:ChipAt w ch C) (hA:Abs C P) (hl:C.left b) (hc:P.calm) {K':KS} {P':CS} {tr:List CS} (M:Mounts P K' P' tr) (hq:K'.qu=[]) :
  Spec Tryz.prog 21 #[.pointer (some ⟨ch,0,none⟩)] w (OcEnds ch K' P' b tr w):=by
 refine spec_of_wpE (T:=tt) tt_ok Tryz.func21 rfl (by decide +kernel) Tryz.ntmps21 (by simp) ?_
 conv=>whnf
 refine Ca.of (dnew_ok ch w) ?_
 rintro _ w1 ⟨d,rfl,hd,r1,k1⟩
 have H1:=H.keep k1 (by simp)
 conv=>whnf
 repeat ((first
  | refine CW.s ?_);conv=>whnf)
 refine Ru.of (dev_none w1 _ _) ?_
 conv=>whnf
 repeat ((first
  | refine Br.f ?_|refine Pk.f ?_|refine Ru.neq_nil0 ?_);conv=>whnf)
 refine Ca.of (dmount_ok r1 H1 hA hl hc M hq) ?_
 rintro _ w2 ⟨k2,hr2⟩
 have kk:Keep [ch] w w2:=(k1.mono (by simp)).then k2 (fun x hx=>by
  rcases List.mem_cons.1 hx with rfl | hx
  ·exact .inr (by omega)
  ·exact .inl hx)
 rcases hr2 with ⟨f2,rfl,own',D2,h2⟩ | ⟨y,hy,hyb,rfl,D2⟩
 ·conv=>whnf
  repeat ((first
   | refine Br.f ?_|refine Ru.neq_nil0 ?_|refine CW.s ?_);conv=>whnf)
  refine ⟨rfl,kk,.inl ⟨f2,d,own',rfl,D2,fun x hx=>?_⟩⟩
  rcases h2 x hx with h | h | h
  ·exact .inr (by omega)
  ·exact .inl h
  ·exact .inr (Nat.le_trans k1.size h)
 ·conv=>whnf
  repeat ((first
   | refine Br.t ?_|refine Ru.n1 ?_|refine CW.s ?_);conv=>whnf)
  exact ⟨rfl,kk,.inr ⟨y,hy,hyb,rfl,D2.2⟩⟩
def arF (a:Nat→Nat) (j:Nat):Value:=.int .i64 (a j:Nat)
structure Cl where
 kind:Int
 a:Int
 x:Int
def Cl.cell (c:Cl) (j:Nat):Value:=if j=0 then .int .i64 c.kind else if j=1 then .int .i64 c.a else .int .i64 c.x
def i64R (x:Int):Prop:=-9223372036854775808≤x∧x≤9223372036854775807
def Cl.wf (c:Cl):Prop:=i64R c.kind∧i64R c.a∧i64R c.x
def Cl.of (c:Cl):Nat:=someN c.a 24
def Cl.n (c:Cl):Nat:=1+someN c.x 1000000
def Cl.kd (c:Cl):Nat:=someN c.kind 6
def Cl.arr (c:Cl) (a:Nat→Nat):Nat→Nat:=if c.kd≤2 then updf a c.of c.n else if c.kd=3 then updf a c.of 0 else a
theorem Cl.of_lt (c:Cl):c.of<24:=someN_lt _ (by omega)
theorem Cl.n_lt (c:Cl):c.n≤1000000:=by
 have:=someN_lt c.x (n:=1000000) (by omega)
 unfold Cl.n
 omega
theorem alloc_ar (w:World):(Instr.alloc 28 true (.tuple #[])).run Tryz.prog w = .ok (.pointer (some ⟨w.heap.size,0,none⟩)) (w.alloc (rowObj 24 (arF fun _=>0) 28)):=by kernel_rfl
theorem size_ar:(Tryz.prog.info? 28).map (·.size)=some 24:=by kernel_rfl
theorem arF_one (a:Nat→Nat) (j:Nat):(arF a j).oneCell'=true:=rfl
theorem put_ar (a:Nat→Nat) (o x:Nat) (j:Nat):put (arF a) o (.int .i64 (x:Nat)) j=arF (updf a o x) j:=by
 unfold put arF updf
 split<;>rfl
def DsEnds (own:List Nat) (d ch:Nat) (K':KS) (P':CS) (b:Option Nat) (tr:List CS) (a':Nat→Nat) (rd:Option (Nat→Nat)) (w:World) (v:Value) (w':World):Prop :=
 DvEnds own d ch K' P' b tr w w' (∃ Y n e f,v = .tuple #[agg 24 (arF a'),.slice Y n e,errOf 0]∧(match rd with | none=>Y=none∧n=0∧e=0 | some F=>n=160∧f=F)∧(rd=none∨Ly w' 5 1 Y n e (fun j=>.int .u8 (f j:Nat))∧∀ x,x∈blk Y→w.heap.size≤x)) (v = .tuple #[agg 24 (arF a'),.slice none 0 0,errOf 7])
section
variable {w w':World} {own:List Nat} {d ch:Nat} {K:KS} {P:CS} {b:Option Nat} {K':KS} {P':CS} {tr:List CS}
set_option maxHeartbeats 4000000 in
theorem does_write (D:DvOn w own d ch K P b) {c:Cl} (hw:c.wf) (hk:c.kd≤2) {a:Nat→Nat}
  (hcall:∀ {w1:World} {A:Option Addr} {e:Nat},DvOn w1 own d ch K P b→RdB w1 A 160 (byF c.n)→160≤e→Spec Tryz.prog 45 #[.pointer (some ⟨d,0,none⟩),.int .i64 c.of,.slice A 160 e] w1 fun v w'=>DvEnds own d ch K' P' b tr w1 w' (v=errOf 0) (v=errOf 7)) :
  Spec Tryz.prog 19 #[.pointer (some ⟨d,0,none⟩),agg 24 (arF a),agg 3 c.cell] w fun v w'=>DsEnds own d ch K' P' b tr (updf a c.of c.n) none w v w':=by
 have hof:=c.of_lt
 have hn:=c.n_lt
 have e1:someN c.a 24=c.of:=rfl
 have e2:1+someN c.x 1000000=c.n:=rfl
 have e3:someN c.kind 6=c.kd:=rfl
 refine spec_of_wpE (T:=tt) tt_ok Tryz.func19 rfl (by decide +kernel) Tryz.ntmps19 (by simp) ?_
 conv=>whnf
 refine Ru.boxa ?_
 intro x4 w1 hx4 hs1 r4 k1
 conv=>whnf
 refine Ru.boxa ?_
 intro x5 w2 hx5 hs2 r5 k2
 conv=>whnf
 refine Ru.alloca (alloc_ar w2) ?_
 intro x6 w3 hx6 hs3 r6 k3
 have r43:=r4.keep (k2.trans k3) (by simp)
 have r53:=r5.keep k3 (by simp)
 have kk3:=(k1.trans k2).trans k3
 have D3:=D.keep0 kk3
 have hx4w:w.heap.size≤x4:=by omega
 have hx6w:w.heap.size≤x6:=by omega
 have h46:x4≠x6:=by omega
 clear r4 r5 k1 k2 k3 hs1 hs2 hs3 hx4 hx5 hx6 w1 w2 D
 have c0:w3.cell? ⟨x5,0,none⟩=some (.int .i64 c.kind):=r53.cell 0 (by omega)
 have c1:w3.cell? ⟨x5,1,none⟩=some (.int .i64 c.a):=r53.cell 1 (by omega)
 have c2:w3.cell? ⟨x5,2,none⟩=some (.int .i64 c.x):=r53.cell 2 (by omega)
 conv=>whnf
 repeat ((first
  | (refine Ld.at (by omega) c1 ?_));conv=>whnf)
 refine Ca.of (some_ok c.a 24 hw.2.1 (by omega) w3) ?_
 rintro _ _ ⟨rfl,rfl⟩
 rw [e1]
 conv=>whnf
 repeat ((first
  | (refine Ld.at (by omega) c2 ?_));conv=>whnf)
 refine Ca.of (some_ok c.x 1000000 hw.2.2 (by omega) w3) ?_
 rintro _ _ ⟨rfl,rfl⟩
 have e2':(1:Int)+((someN c.x 1000000:Nat):Int)=(c.n:Nat):=by rw [← e2];omega
 have hb:=someN_lt c.x (n:=1000000) (by omega)
 conv=>whnf
 repeat ((first
  | (refine Ld.at (by omega) c0 ?_)
  | refine Ar.la ?_|refine CW.s ?_);conv=>whnf)
 rw [e2']
 refine Ca.of (some_ok c.kind 6 hw.1 (by omega) w3) ?_
 rintro _ _ ⟨rfl,rfl⟩
 rw [e3]
 have hk3:c.kd=0∨c.kd=1∨c.kd=2:=by omega
 rcases hk3 with h | h | h
 all_goals
  rw [h]
  conv=>whnf
  repeat ((first
   | (refine Ix.of c.of (by omega) (by omega) ?_)
   | refine Br.t ?_|refine Br.f ?_|refine CW.s ?_);conv=>whnf)
  rw [show 0+0+c.of=c.of by omega]
  refine Sd.rowAt r43 c.of (by omega) (by omega) rfl ?_
  intro w4 r44 k4
  have r44:Row w4 x4 28 24 (arF (updf a c.of c.n)):=r44.congr (fun j hj=>put_ar a c.of c.n j)
  have D4:=D3.away r43 (by decide) k4
  have r64:=r6.keep k4 (by simpa using h46.symm)
  have kk4:=kk3.fresh hx4w k4
  have hs4:=kk4.size
  clear D3 r43 r6 k4 kk3 c0 c1 c2 r53
  conv=>whnf
  refine CW.held (fun w'=>Row w' x4 28 24 (arF (updf a c.of c.n))) [] (.take 0 (.take 1 (.take 2 (.take 3 (.one 4 (.one 5 (.one 6 (.take 7 (.take 8 (.done)))))))))) tt_ok (by kernel_rfl) (by kernel_rfl) (by kernel_rfl) ?_ ?_
  ·exact Row.drewN r44 1
  have q4:=(Keep.refl [] w4).drewN 1
  have D5:=D4.keep0 q4
  have r45:=r44.keep q4 (by simp)
  have r65:=r64.keep q4 (by simp)
  have kk5:=kk4.trans q4
  clear D4 r44 r64 kk4 q4
  generalize w4.drewN 1=w5 at *
  conv=>whnf
  repeat ((first
   | (refine RuQ.of (fun w hS=>run_ldaC (q:=arF (updf a c.of c.n)) hS Tryz.underlying28 rfl size_ar (by omega) (fun j hj=>by rw [Nat.zero_add])) ?_));conv=>whnf)
  refine Ca.of (tbytes_ok c.n (by omega) w5) ?_
  rintro _ w6 ⟨g,rfl,hg,rg,k6⟩
  have D6:=D5.keep0 k6
  have r46:=r45.keep k6 (by simp)
  have r66:=r65.keep k6 (by simp)
  have kk6:=kk5.trans k6
  clear D5 r45 r65 kk5 k6 hg
  refine ⟨r46,?_⟩
  conv=>whnf
  refine Ca.of (hcall D6 (Rd.of_row rg (n:=160) (by omega)) (by omega)) ?_
  rintro u w7 ⟨k7,hr7⟩
  have r47:=r46.keep k7 (D6.far r46 (by decide))
  have r67:=r66.keep k7 (D6.far r66 (by decide))
  have hs6:=kk6.size
  have hlt:=D6.own_lt
  refine ⟨r47,?_⟩
  conv=>whnf
  refine Ru.sta r67 size_ar (by omega) (fun j hj=>arF_one _ j) ?_
  intro w8 r68 k8
  have r68:Row w8 x6 28 24 (arF (updf a c.of c.n)):=r68.congr (fun j hj=>by unfold lay;rw [if_pos (by omega),Nat.sub_zero])
  refine ⟨r47.keep k8 (by simpa using h46),?_⟩
  conv=>whnf
  refine Ru.ldaC (q:=arF (updf a c.of c.n)) r68 Tryz.underlying28 rfl size_ar (by omega) (fun j hj=>by rw [Nat.zero_add]) ?_
  conv=>whnf
  have hx6o:=D6.far r66 (by decide)
  have hio:=D6.in_own
  refine ⟨rfl,((kk6.mono (T:=own) (by simp)).trans k7).then k8 (fun x hx=>.inr (by rw [List.mem_singleton.1 hx];exact hx6w)),hr7.mono (fun b' hh=>?_) (fun Q hh=>?_)⟩
  ·obtain ⟨rfl,own',D7,h7⟩:=hh
   refine ⟨⟨none,0,0,fun _=>0,rfl,⟨rfl,rfl,rfl⟩,.inl rfl⟩,own',D7.away r67 (by decide) k8,fun x hx=>?_⟩
   rcases h7 x hx with h | h
   ·exact .inl h
   ·exact .inr (Nat.le_trans hs6 h)
  ·obtain ⟨rfl,hoff⟩:=hh
   exact ⟨rfl,hoff.keep k8 (fun hm=>hx6o (by rw [← List.mem_singleton.1 hm];exact hio.1)) (fun hm=>hx6o (by rw [← List.mem_singleton.1 hm];exact hio.2))⟩
set_option maxHeartbeats 4000000 in
theorem does_trim (D:DvOn w own d ch K P b) {c:Cl} (hw:c.wf) (hk:c.kd=3) {a:Nat→Nat}
  (hcall:∀ {w1:World},DvOn w1 own d ch K P b→Spec Tryz.prog 17 #[.pointer (some ⟨d,0,none⟩),.int .i64 c.of] w1 fun v w'=>DvEnds own d ch K' P' b tr w1 w' (v=errOf 0) (v=errOf 7)) :
  Spec Tryz.prog 19 #[.pointer (some ⟨d,0,none⟩),agg 24 (arF a),agg 3 c.cell] w fun v w'=>DsEnds own d ch K' P' b tr (updf a c.of 0) none w v w':=by
 have hof:=c.of_lt
 have hn:=c.n_lt
 have e1:someN c.a 24=c.of:=rfl
 have e2:1+someN c.x 1000000=c.n:=rfl
 have e3:someN c.kind 6=c.kd:=rfl
 refine spec_of_wpE (T:=tt) tt_ok Tryz.func19 rfl (by decide +kernel) Tryz.ntmps19 (by simp) ?_
 conv=>whnf
 refine Ru.boxa ?_
 intro x4 w1 hx4 hs1 r4 k1
 conv=>whnf
 refine Ru.boxa ?_
 intro x5 w2 hx5 hs2 r5 k2
 conv=>whnf
 refine Ru.alloca (alloc_ar w2) ?_
 intro x6 w3 hx6 hs3 r6 k3
 have r43:=r4.keep (k2.trans k3) (by simp)
 have r53:=r5.keep k3 (by simp)
 have kk3:=(k1.trans k2).trans k3
 have D3:=D.keep0 kk3
 have hx4w:w.heap.size≤x4:=by omega
 have hx6w:w.heap.size≤x6:=by omega
 have h46:x4≠x6:=by omega
 clear r4 r5 k1 k2 k3 hs1 hs2 hs3 hx4 hx5 hx6 w1 w2 D
 have c0:w3.cell? ⟨x5,0,none⟩=some (.int .i64 c.kind):=r53.cell 0 (by omega)
 have c1:w3.cell? ⟨x5,1,none⟩=some (.int .i64 c.a):=r53.cell 1 (by omega)
 have c2:w3.cell? ⟨x5,2,none⟩=some (.int .i64 c.x):=r53.cell 2 (by omega)
 conv=>whnf
 repeat ((first
  | (refine Ld.at (by omega) c1 ?_));conv=>whnf)
 refine Ca.of (some_ok c.a 24 hw.2.1 (by omega) w3) ?_
 rintro _ _ ⟨rfl,rfl⟩
 rw [e1]
 conv=>whnf
 repeat ((first
  | (refine Ld.at (by omega) c2 ?_));conv=>whnf)
 refine Ca.of (some_ok c.x 1000000 hw.2.2 (by omega) w3) ?_
 rintro _ _ ⟨rfl,rfl⟩
 have e2':(1:Int)+((someN c.x 1000000:Nat):Int)=(c.n:Nat):=by rw [← e2];omega
 have hb:=someN_lt c.x (n:=1000000) (by omega)
 conv=>whnf
 repeat ((first
  | (refine Ld.at (by omega) c0 ?_)
  | refine Ar.la ?_|refine CW.s ?_);conv=>whnf)
 rw [e2']
 refine Ca.of (some_ok c.kind 6 hw.1 (by omega) w3) ?_
 rintro _ _ ⟨rfl,rfl⟩
 rw [e3]
 rw [hk]
 conv=>whnf
 repeat ((first
  | (refine Ix.of c.of (by omega) (by omega) ?_)
  | refine Br.t ?_|refine Br.f ?_|refine CW.s ?_);conv=>whnf)
 rw [show 0+0+c.of=c.of by omega]
 refine Sd.rowAt r43 c.of (by omega) (by omega) rfl ?_
 intro w4 r44 k4
 have r44:Row w4 x4 28 24 (arF (updf a c.of 0)):=r44.congr (fun j hj=>put_ar a c.of 0 j)
 have D4:=D3.away r43 (by decide) k4
 have r64:=r6.keep k4 (by simpa using h46.symm)
 have kk4:=kk3.fresh hx4w k4
 have hs4:=kk4.size
 clear D3 r43 r6 k4 kk3 c0 c1 c2 r53
 conv=>whnf
 refine CW.held (fun w'=>Row w' x4 28 24 (arF (updf a c.of 0))) [] (.take 0 (.take 1 (.take 2 (.one 3 (.one 4 (.take 5 (.take 6 (.done)))))))) tt_ok (by kernel_rfl) (by kernel_rfl) (by kernel_rfl) ?_ ?_
 ·exact Row.drewN r44 1
 have q4:=(Keep.refl [] w4).drewN 1
 have D5:=D4.keep0 q4
 have r45:=r44.keep q4 (by simp)
 have r65:=r64.keep q4 (by simp)
 have kk5:=kk4.trans q4
 clear D4 r44 r64 kk4 q4
 generalize w4.drewN 1=w6 at *
 conv=>whnf
 repeat ((first
  | (refine RuQ.of (fun w hS=>run_ldaC (q:=arF (updf a c.of 0)) hS Tryz.underlying28 rfl size_ar (by omega) (fun j hj=>by rw [Nat.zero_add])) ?_));conv=>whnf)
 have D6:=D5
 have r46:=r45
 have r66:=r65
 have kk6:=kk5
 clear D5 r45 r65 kk5
 refine Ca.of (hcall D6) ?_
 rintro u w7 ⟨k7,hr7⟩
 have r47:=r46.keep k7 (D6.far r46 (by decide))
 have r67:=r66.keep k7 (D6.far r66 (by decide))
 have hs6:=kk6.size
 have hlt:=D6.own_lt
 refine ⟨r47,?_⟩
 conv=>whnf
 refine Ru.sta r67 size_ar (by omega) (fun j hj=>arF_one _ j) ?_
 intro w8 r68 k8
 have r68:Row w8 x6 28 24 (arF (updf a c.of 0)):=r68.congr (fun j hj=>by unfold lay;rw [if_pos (by omega),Nat.sub_zero])
 refine ⟨r47.keep k8 (by simpa using h46),?_⟩
 conv=>whnf
 refine Ru.ldaC (q:=arF (updf a c.of 0)) r68 Tryz.underlying28 rfl size_ar (by omega) (fun j hj=>by rw [Nat.zero_add]) ?_
 conv=>whnf
 have hx6o:=D6.far r66 (by decide)
 have hio:=D6.in_own
 refine ⟨rfl,((kk6.mono (T:=own) (by simp)).trans k7).then k8 (fun x hx=>.inr (by rw [List.mem_singleton.1 hx];exact hx6w)),hr7.mono (fun b' hh=>?_) (fun Q hh=>?_)⟩
 ·obtain ⟨rfl,own',D7,h7⟩:=hh
  refine ⟨⟨none,0,0,fun _=>0,rfl,⟨rfl,rfl,rfl⟩,.inl rfl⟩,own',D7.away r67 (by decide) k8,fun x hx=>?_⟩
  rcases h7 x hx with h | h
  ·exact .inl h
  ·exact .inr (Nat.le_trans hs6 h)
 ·obtain ⟨rfl,hoff⟩:=hh
  exact ⟨rfl,hoff.keep k8 (fun hm=>hx6o (by rw [← List.mem_singleton.1 hm];exact hio.1)) (fun hm=>hx6o (by rw [← List.mem_singleton.1 hm];exact hio.2))⟩
set_option maxHeartbeats 4000000 in
theorem does_read (D:DvOn w own d ch K P b) {c:Cl} (hw:c.wf) (hk:4≤c.kd) {a:Nat→Nat} {F:Nat→Nat}
  (hcall:∀ {w1:World},DvOn w1 own d ch K P b→Spec Tryz.prog 22 #[.pointer (some ⟨d,0,none⟩),.int .i64 c.of] w1 fun v w'=>RdEnds own d ch K' P' b tr F w1 v w') :
  Spec Tryz.prog 19 #[.pointer (some ⟨d,0,none⟩),agg 24 (arF a),agg 3 c.cell] w fun v w'=>DsEnds own d ch K' P' b tr a (some F) w v w':=by
 have hof:=c.of_lt
 have hn:=c.n_lt
 have e1:someN c.a 24=c.of:=rfl
 have e2:1+someN c.x 1000000=c.n:=rfl
 have e3:someN c.kind 6=c.kd:=rfl
 refine spec_of_wpE (T:=tt) tt_ok Tryz.func19 rfl (by decide +kernel) Tryz.ntmps19 (by simp) ?_
 conv=>whnf
 refine Ru.boxa ?_
 intro x4 w1 hx4 hs1 r4 k1
 conv=>whnf
 refine Ru.boxa ?_
 intro x5 w2 hx5 hs2 r5 k2
 conv=>whnf
 refine Ru.alloca (alloc_ar w2) ?_
 intro x6 w3 hx6 hs3 r6 k3
 have r43:=r4.keep (k2.trans k3) (by simp)
 have r53:=r5.keep k3 (by simp)
 have kk3:=(k1.trans k2).trans k3
 have D3:=D.keep0 kk3
 have hx4w:w.heap.size≤x4:=by omega
 have hx6w:w.heap.size≤x6:=by omega
 have h46:x4≠x6:=by omega
 clear r4 r5 k1 k2 k3 hs1 hs2 hs3 hx4 hx5 hx6 w1 w2 D
 have c0:w3.cell? ⟨x5,0,none⟩=some (.int .i64 c.kind):=r53.cell 0 (by omega)
 have c1:w3.cell? ⟨x5,1,none⟩=some (.int .i64 c.a):=r53.cell 1 (by omega)
 have c2:w3.cell? ⟨x5,2,none⟩=some (.int .i64 c.x):=r53.cell 2 (by omega)
 conv=>whnf
 repeat ((first
  | (refine Ld.at (by omega) c1 ?_));conv=>whnf)
 refine Ca.of (some_ok c.a 24 hw.2.1 (by omega) w3) ?_
 rintro _ _ ⟨rfl,rfl⟩
 rw [e1]
 conv=>whnf
 repeat ((first
  | (refine Ld.at (by omega) c2 ?_));conv=>whnf)
 refine Ca.of (some_ok c.x 1000000 hw.2.2 (by omega) w3) ?_
 rintro _ _ ⟨rfl,rfl⟩
 have e2':(1:Int)+((someN c.x 1000000:Nat):Int)=(c.n:Nat):=by rw [← e2];omega
 have hb:=someN_lt c.x (n:=1000000) (by omega)
 conv=>whnf
 repeat ((first
  | (refine Ld.at (by omega) c0 ?_)
  | refine Ar.la ?_|refine CW.s ?_);conv=>whnf)
 rw [e2']
 refine Ca.of (some_ok c.kind 6 hw.1 (by omega) w3) ?_
 rintro _ _ ⟨rfl,rfl⟩
 rw [e3]
 have hlt6:c.kd<6:=someN_lt _ (by omega)
 have hk3:c.kd=4∨c.kd=5:=by omega
 rcases hk3 with h | h
 all_goals
  rw [h]
  conv=>whnf
  repeat ((first
   | refine Br.f ?_|refine CW.s ?_);conv=>whnf)
  refine Ca.of (hcall D3) ?_
  rintro u w7 ⟨k7,hr7⟩
  have r47:=r43.keep k7 (D3.far r43 (by decide))
  have r67:=r6.keep k7 (D3.far r6 (by decide))
  have hx6o:=D3.far r6 (by decide)
  have hio:=D3.in_own
  have hlt:=D3.own_lt
  have hs3:=kk3.size
  have hs7:=k7.size
  have hx6l:=r6.lt
  have fin:∀ w8,Keep [x6] w7 w8→Keep own w w8:=fun w8 k8=>((kk3.mono (T:=own) (by simp)).trans k7).then k8 (fun x hx=>.inr (by rw [List.mem_singleton.1 hx];exact hx6w))
  rcases hr7 with ⟨f7,⟨Y,e,rfl,hY,hYn⟩,own',D7,h7⟩ | ⟨y,hy,hyb,rfl,hoff⟩
  ·conv=>whnf
   refine Ru.ldaC (q:=arF a) r47 Tryz.underlying28 rfl size_ar (by omega) (fun j hj=>by rw [Nat.zero_add]) ?_
   conv=>whnf
   refine Ru.sta r67 size_ar (by omega) (fun j hj=>arF_one _ j) ?_
   intro w8 r68 k8
   have r68:Row w8 x6 28 24 (arF a):=r68.congr (fun j hj=>by unfold lay;rw [if_pos (by omega),Nat.sub_zero])
   conv=>whnf
   refine Ru.ldaC (q:=arF a) r68 Tryz.underlying28 rfl size_ar (by omega) (fun j hj=>by rw [Nat.zero_add]) ?_
   conv=>whnf
   refine ⟨rfl,fin w8 k8,.inl ⟨f7,⟨Y,160,e,F,rfl,⟨rfl,rfl⟩,.inr ⟨hY.keep k8 (fun x hx hm=>?_),fun x hx=>Nat.le_trans hs3 (hYn x hx)⟩⟩,own',D7.away r67 (by decide) k8,fun x hx=>?_⟩⟩
   ·have:=hYn x hx
    rw [List.mem_singleton.1 hm] at this
    omega
   ·rcases h7 x hx with h | h
    ·exact .inl h
    ·exact .inr (Nat.le_trans hs3 h)
  ·conv=>whnf
   refine Ru.ldaC (q:=arF a) r47 Tryz.underlying28 rfl size_ar (by omega) (fun j hj=>by rw [Nat.zero_add]) ?_
   conv=>whnf
   refine Ru.sta r67 size_ar (by omega) (fun j hj=>arF_one _ j) ?_
   intro w8 r68 k8
   have r68:Row w8 x6 28 24 (arF a):=r68.congr (fun j hj=>by unfold lay;rw [if_pos (by omega),Nat.sub_zero])
   conv=>whnf
   refine Ru.ldaC (q:=arF a) r68 Tryz.underlying28 rfl size_ar (by omega) (fun j hj=>by rw [Nat.zero_add]) ?_
   conv=>whnf
   exact ⟨rfl,fin w8 k8,.inr ⟨y,hy,hyb,rfl,hoff.keep k8 (fun hm=>hx6o (by rw [← List.mem_singleton.1 hm];exact hio.1)) (fun hm=>hx6o (by rw [← List.mem_singleton.1 hm];exact hio.2))⟩⟩
end
def arB (a:Nat→Nat) (o j:Nat):Nat:=byF (a o) j
theorem arB_set (a:Nat→Nat) (s x:Nat):setA (arB a) s (byF x)=arB (updf a s x):=by
 funext o j
 unfold setA arB updf
 split<;>rfl
structure Answers (c:Cl) (a:Nat→Nat) (rd:Option (Nat→Nat)):Prop where
 none:c.kd≤3→rd=none
 some:4≤c.kd→∃ F,rd=some F∧∀ j,j<160→F j=arB a c.of j
theorem does_call {K:KS} {P:CS} {k:Cp} {m:Int} (I:Inv K P k m) (hq:K.qu=[]) (hm:m+1<1099511627775) {c:Cl} (hw:c.wf) {a:Nat→Nat} (hs:Shows P K.at_ (arB a)):∃ K' P' k' t1 t2 rd,CallEnd K P m (arB a) (arB (c.arr a)) K' P' k' t1 t2∧Answers c a rd ∧
  ∀ {w:World} {own:List Nat} {d ch:Nat} {b:Option Nat},DvOn w own d ch K P b→Spec Tryz.prog 19 #[.pointer (some ⟨d,0,none⟩),agg 24 (arF a),agg 3 c.cell] w fun v w'=>DsEnds own d ch K' P' b (t1 ++ t2) (c.arr a) rd w v w':=by
 by_cases h1:c.kd≤2
 ·obtain ⟨K',P',k',t1,t2,h,hc⟩:=dev_write I hq hm c.of_lt (f:=byF c.n) (byF_lt _)
  have e:c.arr a=updf a c.of c.n:=if_pos h1
  refine ⟨K',P',k',t1,t2,none,?_,⟨fun _=>rfl,fun h=>by omega⟩,fun D=>?_⟩
  ·rw [e, ← arB_set]
   exact h _ hs
  ·rw [e]
   exact does_write D hw h1 (fun D1 hA he=>hc D1 hA he)
 ·by_cases h3:c.kd=3
  ·obtain ⟨K',P',k',t1,t2,h,hc⟩:=dev_trim I hq hm c.of_lt
   have e:c.arr a=updf a c.of 0:=by
    unfold Cl.arr
    rw [if_neg h1,if_pos h3]
   refine ⟨K',P',k',t1,t2,none,?_,⟨fun _=>rfl,fun h=>by omega⟩,fun D=>?_⟩
   ·rw [e, ← arB_set]
    exact h _ hs
   ·rw [e]
    exact does_trim D hw h3 (fun D1=>hc D1)
  ·obtain ⟨K',P',k',t2,F,h,hc⟩:=dev_read I hq hm c.of_lt
   have e:c.arr a=a:=by
    unfold Cl.arr
    rw [if_neg h1,if_neg h3]
   obtain ⟨h4,h5⟩:=h _ hs
   refine ⟨K',P',k',[],t2,some F,?_,⟨fun h=>by omega,fun _=>⟨F,rfl,h5⟩⟩,fun D=>?_⟩
   ·rw [e]
    exact h4
   ·rw [e]
    exact does_read D hw (by omega) (fun D1=>hc D1)
structure Carries (K K':KS) (P P':CS) (c:Nat):Prop where
 nil:c=0→K'=K∧P'=P
 go:0≤K.calls→K.calls<8→(0≤K'.calls∧K'.calls<8)∧∀ J,Stab J→∀ n,J n K P→J (n+c) K' P'
 did:∀ J:KS→CS→Prop,(∀ K P K' P',Did K P K' P'→J K P→J K' P')→J K P→J K' P'
theorem Carries.refl (K:KS) (P:CS):Carries K K P P (130 * 0):=⟨fun _=>⟨rfl,rfl⟩,fun h0 h8=>⟨⟨h0,h8⟩,fun J S n j=>j⟩,fun J _ j=>j⟩
theorem Carries.step {K K1 K':KS} {P P1 P':CS} {m:Int} {a a':Nat→Nat→Nat} {k':Cp} {t1 t2:List CS} {i:Nat} (h:Carries K K1 P P1 (130 * i)) (E:CallEnd K1 P1 m a a' K' P' k' t1 t2):Carries K K' P P' (130 * (i+1)):=⟨fun e=>by omega,fun h0 h8=>by
 obtain ⟨⟨a1,a2⟩,a3⟩:=h.go h0 h8
 obtain ⟨⟨b1,b2,-⟩,b3⟩:=E.st a1 a2
 exact ⟨⟨b1,b2⟩,fun J S n j=>S.mono (by omega) (b3 J S _ (a3 J S n j))⟩,fun J st j=>st _ _ _ _ E.did (h.did J st j)⟩
def clF (L:List Cl) (q:Nat):Value:=(L.getD (q / 3) ⟨0,0,0⟩).cell (q % 3)
def playA (a:Nat→Nat) (L:List Cl):Nat→Nat:=L.foldl (fun a c=>c.arr a) a
theorem playA_snoc (a:Nat→Nat) (L:List Cl) (c:Cl):playA a (L ++ [c])=c.arr (playA a L):=by
 unfold playA
 rw [List.foldl_append]
 rfl
theorem arr_le {a:Nat→Nat} (h:∀ o,a o≤1000000) (c:Cl):∀ o,c.arr a o≤1000000:=fun o=>by
 have:=c.n_lt
 unfold Cl.arr
 split
 ·unfold updf
  split
  ·exact this
  ·exact h o
 ·split
  ·unfold updf
   split
   ·omega
   ·exact h o
  ·exact h o
theorem playA_le {a:Nat→Nat} (h:∀ o,a o≤1000000) (L:List Cl):∀ o,playA a L o≤1000000:=by
 induction L using snoc_rec with
 | h0=>exact h
 | h1 L c ih =>
  rw [playA_snoc]
  exact arr_le ih c
theorem cl_take {L:List Cl} {i:Nat} (h:i<L.length):L.take (i+1)=L.take i ++ [L.getD i ⟨0,0,0⟩]:=by
 rw [List.take_add_one,List.getD_eq_getElem?_getD,List.getElem?_eq_getElem h]
 rfl
theorem cl_mem {L:List Cl} {i:Nat} (h:i<L.length):L.getD i ⟨0,0,0⟩∈L:=by
 rw [List.getD_eq_getElem?_getD,List.getElem?_eq_getElem h]
 exact List.getElem_mem h
theorem cl_cells {w:World} {A:Option Addr} {L:List Cl} (r:Rd w A (L.length * 3) (clF L)) {i:Nat} (hi:i<L.length):∃ g o,A=some ⟨g,o,none⟩∧∀ j,j<3→w.cell? ⟨g,o+i * 3+j,none⟩=some ((L.getD i ⟨0,0,0⟩).cell j):=by
 obtain ⟨g,o,e,h⟩:=r (by omega)
 refine ⟨g,o,e,fun j hj=>?_⟩
 have:=h (i * 3+j) (by omega)
 rw [← Nat.add_assoc] at this
 rw [this]
 unfold clF
 rw [show (i * 3+j) / 3=i by omega,show (i * 3+j) % 3=j by omega]
theorem Cl.cell_one (c:Cl) (j:Nat):(c.cell j).oneCell'=true:=by
 unfold Cl.cell
 split
 ·rfl
 ·split<;>rfl
theorem run_ldcl {w:World} {g o:Nat} {c:Cl} (h:∀ j,j<3→w.cell? ⟨g,o+j,none⟩=some (c.cell j)):(loadVar 36 ⟨g,o,none⟩).run Tryz.prog w = .ok (agg 3 c.cell) w:=by
 have e:∀ m,m<3→(load ((⟨g,o,none⟩:Addr).add m)).run Tryz.prog w = .ok (c.cell m) w:=fun m hm=>by
  rw [add_none]
  simp [load,Sem.run,h m hm]
 have ha:(isAgg 36).run Tryz.prog w = .ok true w:=run_isAgg_of Tryz.underlying36 rfl w
 have hs:(sizeOf 36).run Tryz.prog w = .ok 3 w:=size_of_is (by kernel_rfl) w
 simp only [loadVar,Sem.run_bind,ha,Result.andThen_ok,if_true,hs,loadCells,loadCellsFrom,e 0 (by omega),e 1 (by omega),e 2 (by omega),Sem.run_pure]
 rw [show agg 3 c.cell = .agg #[c.cell 0,c.cell 1,c.cell 2] by unfold agg;simp [Array.range,Array.ofFn_succ]]
 rfl
theorem ne_slice (w:World) (x:Operand) (A:Option Addr) (n c:Nat):(do eqGuard .neq 37 x (.const (.slice none 0 0)) (.slice A n c) (.slice none 0 0);binOp .neq 37 (.slice A n c) (.slice none 0 0):Sem Value).run Tryz.prog w = .ok (.bool A.isSome) w:=by
 cases A<;>kernel_rfl
section
variable {w w':World} {own:List Nat} {d ch:Nat} {K:KS} {P:CS} {k:Cp} {m:Int}
structure PlI (w0:World) (own0:List Nat) (d ch:Nat) (K:KS) (P:CS) (k:Cp) (m:Int) (a:Nat→Nat) (own:List Nat) (w:World):Prop where
 on:DvOn w own d ch K P none
 inv:Inv K P k m
 qu:K.qu=[]
 sh:Shows P K.at_ (arB a)
 sub:∀ x,x∈own→x∈own0∨w0.heap.size≤x
 kk:Keep own0 w0 w
set_option maxHeartbeats 8000000 in
theorem plays_ok (D:DvOn w own d ch K P none) (I:Inv K P k m) (hq:K.qu=[]) {a:Nat→Nat} (hs:Shows P K.at_ (arB a)) {L:List Cl} {A:Option Addr} {cA:Nat} (hL:Rd w A (L.length * 3) (clF L)) (hw:∀ c,c∈L→c.wf) (hA:0<L.length→∀ x,A=some x→x.block∉own) (hm:m+2 * L.length<1099511627775) (ha:∀ o,a o≤1000000) :
  Spec Tryz.prog 41 #[.pointer (some ⟨d,0,none⟩),agg 24 (arF a),.slice A L.length cA] w fun v w'=>v = .tuple #[agg 24 (arF (playA a L)),.bool true]∧∃ K' P' k' own',PlI w own d ch K' P' k' (m+2 * L.length) (playA a L) own' w'∧Carries K K' P P' (130 * L.length):=by
 have hmpos:1≤m:=by
  have:=I.l.next
  omega
 have hfarL:∀ (w1 w2:World),Keep [w.heap.size] w1 w2→Rd w1 A (L.length * 3) (clF L)→Rd w2 A (L.length * 3) (clF L):=fun w1 w2 k' h' hn0=>by
  obtain ⟨b0,o0,rfl,hc0⟩:=hL hn0
  have h9:b0<w.heap.size:=cell_lt (hc0 0 hn0)
  exact h'.keep k' (fun a e hm=>by
   cases e
   have h8:b0=w.heap.size:=List.mem_singleton.1 hm
   omega) hn0
 refine spec_of_wpE (T:=tt) tt_ok Tryz.func41 rfl (by decide +kernel) Tryz.ntmps41 (by simp) ?_
 conv=>whnf
 refine Ru.boxa ?_
 intro x4 w1 hx4 hs1 r4 k1
 conv=>whnf
 refine Ru.alloca (alloc_ar w1) ?_
 intro x6 w2 hx6 hs2 r6 k2
 have r42:=r4.keep k2 (by simp)
 have kk2:=k1.trans k2
 have D2:=D.keep0 kk2
 have hL2:=hL.keep0 kk2
 have hx4w:w.heap.size≤x4:=by omega
 have hx6w:w.heap.size≤x6:=by omega
 have h46:x4≠x6:=by omega
 rw [← hx4] at hfarL
 clear r4 k1 k2 hs1 hs2 hx4 hx6 w1
 conv=>whnf
 repeat ((first
  | refine CW.s ?_);conv=>whnf)
 refine CW.loop (ι:=Nat × KS × CS × Cp × List Nat) (fun i w'=>i.1≤L.length∧PlI w own d ch i.2.1 i.2.2.1 i.2.2.2.1 (m+2 * i.1) (playA a (L.take i.1)) i.2.2.2.2 w'∧Row w' x4 28 24 (arF (playA a (L.take i.1)))∧Row w' x6 28 24 (arF fun _=>0)∧Rd w' A (L.length * 3) (clF L)∧Carries K i.2.1 P i.2.2.1 (130 * i.1))
  (fun i=>[(0,.pointer (some ⟨d,0,none⟩)),(2,.slice A L.length cA),(4,.pointer (some ⟨x4,0,none⟩)),(6,.pointer (some ⟨x6,0,none⟩)),(8,.int .i64 i.1)]) (fun i=>L.length - i.1) (0,K,P,k,own) tt_ok
  ⟨by omega,⟨D2,by simpa using I,hq,hs,fun x hx=>.inl hx,kk2.mono (by simp)⟩,r42,r6,hL2,Carries.refl K P⟩ ⟨rfl,rfl,rfl,rfl,rfl,trivial⟩ ?_
 clear D2 r42 r6 hL2 kk2
 rintro ⟨i,K1,P1,k1,own1⟩ wr ⟨hi,⟨D1,I1,q1,s1,sub1,kk⟩,r4,r6,hLr,hz⟩
 simp only at hi D1 I1 q1 s1 sub1 kk r4 r6 hLr hz ⊢
 rcases Nat.lt_or_ge i L.length with hlt | hge
 ·obtain ⟨g,o,rfl,hcell⟩:=cl_cells hLr hlt
  have htk:=cl_take hlt
  have hcw:=hw _ (cl_mem hlt)
  have hgo:g∉own1:=fun hx=>by
   rcases sub1 g hx with h | h
   ·exact hA (by omega) _ rfl h
   ·obtain ⟨g',o',e',h'⟩:=hL (by omega)
    cases e'
    have h9:g<w.heap.size:=cell_lt (h' 0 (by omega))
    omega
  generalize L.getD i ⟨0,0,0⟩=c at *
  conv=>whnf
  repeat ((first
   | refine Br.y ?_|refine CW.s ?_);conv=>whnf)
  refine CW.held (fun w'=>Row w' x4 28 24 (arF (playA a (L.take i)))∧∀ j,j<3→w'.cell? ⟨g,o+i * 3+j,none⟩=some (c.cell j)) [] (.take 0 (.take 1 (.take 2 (.take 3 (.take 4 (.take 5 (.two 6 (.take 7 (.take 8 (.take 9 (.take 10 (.one 11 (.one 12 (.take 13 (.take 14 (.done))))))))) 11 (.one 6 (.take 7 (.take 8 (.take 9 (.take 10 (.one 12 (.take 13 (.take 14 (.done)))))))))))))))) tt_ok (by kernel_rfl) (by kernel_rfl) (by kernel_rfl) ?_ ?_
  ·exact ⟨Row.drewN r4 1,hcell⟩
  have q2:=(Keep.refl [] wr).drewN 1
  have D2:=D1.keep0 q2
  have r42:=r4.keep q2 (by simp)
  have r62:=r6.keep q2 (by simp)
  have hL2:=hLr.keep0 q2
  have hc2:∀ j,j<3→(wr.drewN 1).cell? ⟨g,o+i * 3+j,none⟩=some (c.cell j):=hcell
  have kk2:=kk.trans (q2.mono (T:=own) (by simp))
  clear D1 r4 r6 hLr hcell kk q2
  generalize wr.drewN 1=w2 at *
  obtain ⟨K2,P2,k2,t1,t2,rd,CE,An,hcall⟩:=does_call I1 q1 (by omega) hcw s1
  conv=>whnf
  repeat ((first
   | (refine RuQ.of (fun w hS=>run_ldaC (q:=arF (playA a (L.take i))) hS.1 Tryz.underlying28 rfl size_ar (by omega) (fun j hj=>by rw [Nat.zero_add])) ?_)
   | (refine Ix.of i (by omega) (by omega) ?_)
   | (refine RuQ.of (fun w hS=>run_ldcl hS.2) ?_));conv=>whnf)
  refine And.intro ?_ ?_
  case' refine_1 =>
   refine Ca.of (hcall D2) ?_
   rintro u w3 ⟨k3,hr3⟩
   rcases hr3 with ⟨f3,⟨Y,n,e,f,rfl,hm1,hm2⟩,own3,D3,h3⟩ | ⟨y,hy,hyb,-⟩
   case inr=>cases hyb
   have r43:=r42.keep k3 (D2.far r42 (by decide))
   have r63:=r62.keep k3 (D2.far r62 (by decide))
   have hL3:=hL2.keep k3 (fun x ex hm=>by cases ex;exact hgo hm)
   have hc3:∀ j,j<3→w3.cell? ⟨g,o+i * 3+j,none⟩=some (c.cell j):=fun j hj=>(k3.cell (cell_lt (hc2 j hj)) hgo).trans (hc2 j hj)
   have kk3:Keep own w w3:=kk2.then k3 sub1
   have hs2:=kk2.size
   have sub3:∀ x,x∈own3→x∈own∨w.heap.size≤x:=fun x hx=>by
    rcases h3 x hx with h | h
    ·exact sub1 x h
    ·exact .inr (Nat.le_trans hs2 h)
   have hs3:=k3.size
   clear D2 r42 r62 hL2 hc2 k3 h3
   refine ⟨⟨r43,hc3⟩,?_⟩
   conv=>whnf
   refine Ru.alloca (alloc_ar w3) ?_
   intro x9 w4 hx9 hs4 r9 k4
   refine ⟨⟨r43.keep k4 (by simp),fun j hj=>(k4.cell (cell_lt (hc3 j hj)) (by simp)).trans (hc3 j hj)⟩,?_⟩
   conv=>whnf
   refine Ru.sta r9 size_ar (by omega) (fun j hj=>arF_one _ j) ?_
   intro w5 r95 k5
   have r95:Row w5 x9 28 24 (arF (c.arr (playA a (L.take i)))):=r95.congr (fun j hj=>by unfold lay;rw [if_pos (by omega),Nat.sub_zero])
   have q5:Keep [] w3 w5:=k4.then k5 (fun x hx=>.inr (by rw [List.mem_singleton.1 hx,hx9];exact Nat.le_refl _))
   have hY5:rd=none∨Ly w5 5 1 Y n e (fun j=>.int .u8 (f j:Nat)):=by
    rcases hm2 with h | ⟨h,-⟩
    ·exact .inl h
    ·exact .inr (h.keep0 q5)
   have D5:=D3.keep0 q5
   have r45:=r43.keep q5 (by simp)
   have r65:=r63.keep q5 (by simp)
   have hL5:=hL3.keep0 q5
   have hc5:∀ j,j<3→w5.cell? ⟨g,o+i * 3+j,none⟩=some (c.cell j):=fun j hj=>(q5.cell (cell_lt (hc3 j hj)) (by simp)).trans (hc3 j hj)
   have kk5:=kk3.trans (q5.mono (T:=own) (by simp))
   have h49:x4≠x9:=by
    have:=r43.lt
    omega
   clear D3 r43 r63 hL3 hc3 k4 k5 r9 hs4 kk3 q5 hm2 hx9
   refine ⟨⟨r45,hc5⟩,?_⟩
   conv=>whnf
   repeat ((first
    | refine Br.f ?_|refine Ru.neq_nil0 ?_|refine CW.s ?_);conv=>whnf)
  case' refine_2 =>
   refine Ru.alloca (alloc_ar w2) ?_
   intro x9 w3 hx9 hs4 r9 k4
   have h49:x4≠x9:=by
    have:=r42.lt
    omega
   have h69:x6≠x9:=by
    have:=r62.lt
    omega
   have hg9:g≠x9:=by
    have h9:g<w2.heap.size:=cell_lt (hc2 0 (by omega))
    omega
   have h9w:w.heap.size≤x9:=by
    have:=kk2.size
    omega
   have D3:=D2.keep0 k4
   have r43:=r42.keep k4 (by simp)
   have r63:=r62.keep k4 (by simp)
   have hL3:=hL2.keep0 k4
   have hc3:∀ j,j<3→w3.cell? ⟨g,o+i * 3+j,none⟩=some (c.cell j):=fun j hj=>(k4.cell (cell_lt (hc2 j hj)) (by simp)).trans (hc2 j hj)
   have kk3:=kk2.trans (k4.mono (T:=own) (by simp))
   clear D2 r42 r62 hL2 hc2 kk2 k4 hs4 hx9
   refine ⟨⟨r43,hc3⟩,?_⟩
   conv=>whnf
   refine Ca.of (hcall D3) ?_
   rintro u w4 ⟨k3,hr3⟩
   rcases hr3 with ⟨f3,⟨Y,n,e,f,rfl,hm1,hm2⟩,own3,D4,h3⟩ | ⟨y,hy,hyb,-⟩
   case inr=>cases hyb
   have r44:=r43.keep k3 (D3.far r43 (by decide))
   have r64:=r63.keep k3 (D3.far r63 (by decide))
   have r94:=r9.keep k3 (D3.far r9 (by decide))
   have hL4:=hL3.keep k3 (fun x ex hm=>by cases ex;exact hgo hm)
   have hc4:∀ j,j<3→w4.cell? ⟨g,o+i * 3+j,none⟩=some (c.cell j):=fun j hj=>(k3.cell (cell_lt (hc3 j hj)) hgo).trans (hc3 j hj)
   have kk4:Keep own w w4:=kk3.then k3 sub1
   have hs2:=kk3.size
   have sub3:∀ x,x∈own3→x∈own∨w.heap.size≤x:=fun x hx=>by
    rcases h3 x hx with h | h
    ·exact sub1 x h
    ·exact .inr (Nat.le_trans hs2 h)
   have hs3:=k3.size
   have h9l:=r9.lt
   clear D3 r43 r63 r9 hL3 hc3 k3 h3 kk3
   refine ⟨⟨r44,hc4⟩,?_⟩
   conv=>whnf
   refine Ru.sta r94 size_ar (by omega) (fun j hj=>arF_one _ j) ?_
   intro w5 r95 k5
   have r95:Row w5 x9 28 24 (arF (c.arr (playA a (L.take i)))):=r95.congr (fun j hj=>by unfold lay;rw [if_pos (by omega),Nat.sub_zero])
   have hY5:rd=none∨Ly w5 5 1 Y n e (fun j=>.int .u8 (f j:Nat)):=by
    rcases hm2 with h | ⟨h,h'⟩
    ·exact .inl h
    ·exact .inr (h.keep k5 (fun x hx hm=>by
      have:=h' x hx
      rw [List.mem_singleton.1 hm] at this
      omega))
   have D5:=D4.away r94 (by decide) k5
   have r45:=r44.keep k5 (by simpa using h49)
   have r65:=r64.keep k5 (by simpa using h69)
   have hL5:=hL4.keep k5 (fun x ex hm=>by cases ex;exact hg9 (List.mem_singleton.1 hm))
   have hc5:∀ j,j<3→w5.cell? ⟨g,o+i * 3+j,none⟩=some (c.cell j):=fun j hj=>(k5.cell (cell_lt (hc4 j hj)) (by simpa using hg9)).trans (hc4 j hj)
   have kk5:=kk4.then k5 (fun x hx=>.inr (by rw [List.mem_singleton.1 hx];exact h9w))
   clear D4 r44 r64 r94 hL4 hc4 k5 kk4 hm2 h69 hg9 h9w h9l
   refine ⟨⟨r45,hc5⟩,?_⟩
   conv=>whnf
   repeat ((first
    | refine Br.f ?_|refine Ru.neq_nil0 ?_|refine CW.s ?_);conv=>whnf)
  all_goals
   refine Ru.of (ne_slice w5 _ _ _ _) ?_
   have hst:playA a (L.take (i+1))=c.arr (playA a (L.take i)):=by rw [htk,playA_snoc]
   have fin:∀ w6,Keep [x4] w5 w6→Row w6 x4 28 24 (arF (c.arr (playA a (L.take i))))→(i+1≤L.length∧PlI w own d ch K2 P2 k2 (m+2 * (i+1:Nat)) (playA a (L.take (i+1))) own3 w6∧Row w6 x4 28 24 (arF (playA a (L.take (i+1))))∧Row w6 x6 28 24 (arF fun _=>0)∧Rd w6 (some ⟨g,o,none⟩) (L.length * 3) (clF L)∧Carries K K2 P P2 (130 * (i+1))):=fun w6 k6 r46=>by
    rw [hst]
    have I6:=CE.inv
    rw [show m+2 * ((i:Nat):Int)+2=m+2 * ((i+1:Nat):Int) by omega] at I6
    refine ⟨hlt,⟨D5.away r45 (by decide) k6,I6,CE.qu,CE.sh,sub3,kk5.then k6 (fun x hx=>.inr (by rw [List.mem_singleton.1 hx];exact hx4w))⟩,r46,r65.keep k6 (by simpa using h46.symm),hfarL _ _ k6 hL5,hz.step CE⟩
   cases rd with
   | none =>
    obtain ⟨rfl,rfl,rfl⟩:=hm1
    conv=>whnf
    repeat ((first
     | refine Br.f ?_|refine Pk.f ?_);conv=>whnf)
    refine Ru.ldaC (q:=arF (c.arr (playA a (L.take i)))) r95 Tryz.underlying28 rfl size_ar (by omega) (fun j hj=>by rw [Nat.zero_add]) ?_
    conv=>whnf
    refine Ru.sta r45 size_ar (by omega) (fun j hj=>arF_one _ j) ?_
    intro w6 r46 k6
    have r46:Row w6 x4 28 24 (arF (c.arr (playA a (L.take i)))):=r46.congr (fun j hj=>by unfold lay;rw [if_pos (by omega),Nat.sub_zero])
    conv=>whnf
    repeat ((first
     | refine Ar.la ?_);conv=>whnf)
    exact ⟨(i+1,K2,P2,k2,own3),fin w6 k6 r46,⟨rfl,rfl,rfl,rfl,vi (by simp only;omega),trivial⟩,by simp only;omega⟩
   | some F =>
    obtain ⟨hn160,hfF⟩:=hm1
    subst hn160
    have hkd:4≤c.kd:=by
     by_cases h:c.kd≤3
     ·have:=An.none h
      cases this
     ·omega
    obtain ⟨F',hF',hFe⟩:=An.some hkd
    cases hF'
    have hof:=c.of_lt
    have hY6:Rd w5 Y 160 (fun j=>.int .u8 ((byF (playA a (L.take i) c.of) j:Nat):Int)):=by
     rcases hY5 with h | h
     ·cases h
     ·have h2:=h.rd
      rw [Nat.mul_one] at h2
      intro hp
      obtain ⟨g1,o1,e1,h3⟩:=h2 hp
      refine ⟨g1,o1,e1,fun j hj=>?_⟩
      rw [h3 j hj,hfF]
      show some (Value.int .u8 ((F j:Nat):Int))=_
      rw [hFe j hj]
      rfl
    obtain ⟨gy,oy,rfl,hcy⟩:=hY6 (by omega)
    have hY6:Rd w5 (some ⟨gy,oy,none⟩) 160 (fun j=>.int .u8 ((byF (playA a (L.take i) c.of) j:Nat):Int)):=fun _=>⟨gy,oy,rfl,hcy⟩
    have ha1:=playA_le ha (L.take i) c.of
    have c1:w5.cell? ⟨g,o+i * 3+1,none⟩=some (.int .i64 c.a):=hc5 1 (by omega)
    have ca:w5.cell? ⟨x4,c.of,none⟩=some (.int .i64 (playA a (L.take i) c.of:Nat)):=r45.cell c.of (by omega)
    have ecof:someN c.a 24=c.of:=rfl
    conv=>whnf
    repeat ((first
     | (refine Ix.of i (by omega) (by omega) ?_)
     | (refine Ld.at (by omega) c1 ?_)
     | refine Br.t ?_|refine Br.f ?_);conv=>whnf)
    refine Ca.of (some_ok c.a 24 hcw.2.1 (by omega) w5) ?_
    rintro _ _ ⟨rfl,rfl⟩
    rw [ecof]
    conv=>whnf
    repeat ((first
     | (refine Ix.of c.of (by omega) (by omega) ?_)
     | (refine Ld.at (by omega) ca ?_)
     | refine Br.t ?_);conv=>whnf)
    refine Ca.of (tbytes_ok _ (by omega) w5) ?_
    rintro _ w6 ⟨gb,rfl,hgb,rb,k6⟩
    conv=>whnf
    repeat ((first
     | refine Br.t ?_);conv=>whnf)
    refine Ca.of (same17_ok _ _ 160 160 _ _ (fun j=>((byF (playA a (L.take i) c.of) j:Nat):Int)) (fun j=>((byF (playA a (L.take i) c.of) j:Nat):Int)) w6 (hY6.keep0 k6) (Rd.of_row rb (n:=160) (by omega)) (fun j=>by have:=byF_lt (playA a (L.take i) c.of) j;omega) (fun j=>by have:=byF_lt (playA a (L.take i) c.of) j;omega)) ?_
    rintro _ _ ⟨rfl,rfl⟩
    rw [sameB_yes rfl (fun _ _=>rfl)]
    have r96:=r95.keep k6 (by simp)
    have r46:=r45.keep k6 (by simp)
    conv=>whnf
    repeat ((first
     | refine Br.t ?_|refine Br.f ?_|refine Pk.f ?_|refine Pk.t ?_);conv=>whnf)
    refine Ru.ldaC (q:=arF (c.arr (playA a (L.take i)))) r96 Tryz.underlying28 rfl size_ar (by omega) (fun j hj=>by rw [Nat.zero_add]) ?_
    conv=>whnf
    refine Ru.sta r46 size_ar (by omega) (fun j hj=>arF_one _ j) ?_
    intro w7 r47 k7
    have r47:Row w7 x4 28 24 (arF (c.arr (playA a (L.take i)))):=r47.congr (fun j hj=>by unfold lay;rw [if_pos (by omega),Nat.sub_zero])
    conv=>whnf
    repeat ((first
     | refine Ar.la ?_);conv=>whnf)
    exact ⟨(i+1,K2,P2,k2,own3),fin w7 ((k6.mono (by simp)).trans k7) r47,⟨rfl,rfl,rfl,rfl,vi (by simp only;omega),trivial⟩,by simp only;omega⟩
 ·obtain rfl:i=L.length:=by omega
  rw [List.take_length] at *
  conv=>whnf
  repeat ((first
   | refine Br.n ?_|refine CW.s ?_);conv=>whnf)
  refine Ru.ldaC (q:=arF (playA a L)) r4 Tryz.underlying28 rfl size_ar (by omega) (fun j hj=>by rw [Nat.zero_add]) ?_
  conv=>whnf
  refine Ru.sta r6 size_ar (by omega) (fun j hj=>arF_one _ j) ?_
  intro w5 r65 k5
  have r65:Row w5 x6 28 24 (arF (playA a L)):=r65.congr (fun j hj=>by unfold lay;rw [if_pos (by omega),Nat.sub_zero])
  conv=>whnf
  refine Ru.ldaC (q:=arF (playA a L)) r65 Tryz.underlying28 rfl size_ar (by omega) (fun j hj=>by rw [Nat.zero_add]) ?_
  conv=>whnf
  exact ⟨rfl,rfl,K1,P1,k1,own1,⟨D1.away r6 (by decide) k5,I1,q1,s1,sub1,kk.then k5 (fun x hx=>.inr (by rw [List.mem_singleton.1 hx];exact hx6w))⟩,hz⟩
end
def CS.zero:CS:=⟨fun _=>.blank,fun _=>0,fun _=>0,fun _=>false,fun _=>0,fun _=>false⟩
theorem zero_bare:CS.zero.bare:=⟨⟨fun _=>rfl,fun _=>Int.le_refl 0,fun _=>rfl,fun _=>rfl⟩,fun _=>rfl⟩
theorem abs_fresh:Abs Chip.fresh CS.zero:=by
 refine ⟨⟨Int.le_refl 0,by show (0:Int)≤9223372036854775807;omega,fun _=>by show (0:Int)≤9223372036854775807;omega,fun _ _ _=>by show 255<256;omega,fun _ _ _=>by show 255<256;omega⟩,fun p hp k hk=>⟨rfl,rfl⟩,fun p k hp hk=>?_,fun p t D hp e=>(by cases e),rfl,rfl,rfl,rfl⟩
 rw [show Chip.fresh.ch p k=Chunk.blank from rfl]
 unfold Chunk.blank
 rw [dmg_self]
 omega
theorem left_fresh:Chip.fresh.left none:=⟨rfl,rfl⟩
theorem build_ar (w:World):(Instr.build 28 #[]).run Tryz.prog w = .ok (agg 24 (arF fun _=>0)) w:=by kernel_rfl
theorem chip_eq (w:World) (x:Operand) (a:Addr):(do eqGuard .eql 24 x (.const (.pointer none)) (.pointer (some a)) (.pointer none);binOp .eql 24 (.pointer (some a)) (.pointer none):Sem Value).run Tryz.prog w = .ok (.bool false) w:=by kernel_rfl
structure Begun (w0 w:World) (ch d:Nat) (own:List Nat) (K:KS) (P:CS) (k:Cp) (m:Int) (a:Nat→Nat):Prop where
 on:DvOn w own d ch K P none
 inv:Inv K P k m
 qu:K.qu=[]
 sh:Shows P K.at_ (arB a)
 new:∀ x,x∈own→w0.heap.size≤x
 kk:Keep [] w0 w
set_option maxHeartbeats 4000000 in
theorem begun_okC {w:World} {L:List Cl} {A:Option Addr} {cA:Nat} (hL:Rd w A (L.length * 3) (clF L)) (hw:∀ c,c∈L→c.wf) (hn:L.length≤1048576) :
  Spec Tryz.prog 15 #[.slice A L.length cA] w fun v w'=>∃ ch d own K P k,v = .tuple #[.pointer (some ⟨ch,0,none⟩),.pointer (some ⟨d,0,none⟩),agg 24 (arF (playA (fun _=>0) L))]∧Begun w w' ch d own K P k (2+2 * L.length) (playA (fun _=>0) L)∧∃ K0 P0 tr0 k0,Mounts CS.zero K0 P0 tr0∧Inv K0 P0 k0 2∧FirstAt CS.zero K0 P0∧Carries K0 K P0 P (130 * L.length):=by
 obtain ⟨K0,P0,t0,k0,M0,I0,q0,fa0,s0⟩:=first_end zero_bare
 have s0:Shows P0 K0.at_ (arB fun _=>0):=s0
 refine spec_of_wpE (T:=tt) tt_ok Tryz.func15 rfl (by decide +kernel) Tryz.ntmps15 (by simp) ?_
 conv=>whnf
 refine Ru.alloca (alloc_ar w) ?_
 intro x4 w1 hx4 hs1 r4 k1
 conv=>whnf
 refine Ru.of (build_ar w1) ?_
 conv=>whnf
 refine Ru.alloca (alloc_ar w1) ?_
 intro x5 w2 hx5 hs2 r5 k2
 conv=>whnf
 refine Ru.sta r5 size_ar (by omega) (fun j hj=>arF_one _ j) ?_
 intro w3 r53 k3
 have r53:Row w3 x5 28 24 (arF fun _=>0):=r53.congr (fun j hj=>by unfold lay;rw [if_pos (by omega),Nat.sub_zero])
 have q3:Keep [] w1 w3:=k2.then k3 (fun x hx=>.inr (by rw [List.mem_singleton.1 hx,hx5];exact Nat.le_refl _))
 have r43:=r4.keep q3 (by simp)
 have kk3:=k1.trans q3
 have hx4w:w.heap.size≤x4:=by omega
 clear r4 r5 k1 k2 k3 q3 hs1 hs2 hx4 hx5 w1 w2
 conv=>whnf
 refine Ca.of (nandnew_ok w3) ?_
 rintro _ w4 ⟨rfl,H4,k4⟩
 have r44:=r43.keep k4 (by simp)
 have r54:=r53.keep k4 (by simp)
 have kk4:=kk3.trans k4
 have hchw:w.heap.size≤w3.heap.size:=kk3.size
 clear r43 r53 kk3 k4
 generalize w3.heap.size=ch at *
 conv=>whnf
 repeat ((first
  | refine CW.s ?_);conv=>whnf)
 refine Ru.of (chip_eq w4 _ _) ?_
 conv=>whnf
 repeat ((first
  | refine Br.f ?_);conv=>whnf)
 refine Ca.of (onchip_ok H4 abs_fresh left_fresh zero_bare.1 M0 q0) ?_
 rintro _ w5 ⟨k5,hr5⟩
 rcases hr5 with ⟨f5,d,own,rfl,D5,hown⟩ | ⟨y,hy,hyb,-⟩
 case inr=>cases hyb
 have r45:=r44.keep k5 (by
  have:=Row.ne_ H4 r44 (by decide)
  simpa using this.symm)
 have r55:=r54.keep k5 (by
  have:=Row.ne_ H4 r54 (by decide)
  simpa using this.symm)
 have kk5:Keep [] w w5:=kk4.then k5 (fun x hx=>.inr (by rw [List.mem_singleton.1 hx];exact hchw))
 have hs4:=kk4.size
 have hown':∀ x,x∈own→w.heap.size≤x:=fun x hx=>by
  rcases hown x hx with h | h
  ·omega
  ·omega
 have hL5:=hL.keep0 kk5
 clear r44 r54 H4 k5 kk4 hown
 conv=>whnf
 repeat ((first
  | refine CW.s ?_);conv=>whnf)
 refine Ru.of (dev_none w5 _ _) ?_
 conv=>whnf
 repeat ((first
  | refine Br.f ?_);conv=>whnf)
 refine Ru.ldaC (q:=arF fun _=>0) r55 Tryz.underlying28 rfl size_ar (by omega) (fun j hj=>by rw [Nat.zero_add]) ?_
 conv=>whnf
 refine Ca.of (plays_ok D5 I0 q0 s0 hL5 hw (fun hp x e hx=>?_) (by omega) (fun _=>by omega)) ?_
 ·obtain ⟨g,o,e',h'⟩:=hL (by omega)
  rw [e'] at e
  cases e
  have h9:g<w.heap.size:=cell_lt (h' 0 (by omega))
  have:=hown' _ hx
  simp only at this
  omega
 rintro _ w6 ⟨rfl,K6,P6,k6,own6,PI,hz⟩
 have D6:=PI.on
 have r46:=r45.keep PI.kk (D5.far r45 (by decide))
 have kk6:Keep [] w w6:=kk5.then PI.kk (fun x hx=>.inr (hown' x hx))
 have hs5:=kk5.size
 have hown6:∀ x,x∈own6→w.heap.size≤x:=fun x hx=>by
  rcases PI.sub x hx with h | h
  ·exact hown' x h
  ·omega
 conv=>whnf
 refine Ru.alloca (alloc_ar w6) ?_
 intro x8 w7 hx8 hs7 r8 k7
 conv=>whnf
 refine Ru.sta r8 size_ar (by omega) (fun j hj=>arF_one _ j) ?_
 intro w8 r88 k8
 have r88:Row w8 x8 28 24 (arF (playA (fun _=>0) L)):=r88.congr (fun j hj=>by unfold lay;rw [if_pos (by omega),Nat.sub_zero])
 have q8:Keep [] w6 w8:=k7.then k8 (fun x hx=>.inr (by rw [List.mem_singleton.1 hx,hx8];exact Nat.le_refl _))
 have D8:=D6.keep0 q8
 have r48:=r46.keep q8 (by simp)
 have kk8:=kk6.trans q8
 clear k7 k8 r8 hs7
 conv=>whnf
 repeat ((first
  | refine Br.f ?_|refine CW.s ?_);conv=>whnf)
 refine CW.held (fun w'=>Row w' x8 28 24 (arF (playA (fun _=>0) L))) [5] (.take 0 (.take 1 (.take 2 (.take 3 (.take 4 (.one 5 (.done))))))) tt_ok (by kernel_rfl) (by kernel_rfl) (by kernel_rfl) ?_ ?_
 ·exact Row.drewN r88 1
 have q9:=(Keep.refl [] w8).drewN 1
 have D9:=D8.keep0 q9
 have r49:=r48.keep q9 (by simp)
 have r89:=r88.keep q9 (by simp)
 have kk9:=kk8.trans q9
 have h48:x8≠x4:=by
  have:=r46.lt
  omega
 clear D8 r48 r88 kk8 q9
 generalize w8.drewN 1=w9 at *
 conv=>whnf
 repeat ((first
  | (refine RuQ.of (fun w hS=>run_ldaC (q:=arF (playA (fun _=>0) L)) hS Tryz.underlying28 rfl size_ar (by omega) (fun j hj=>by rw [Nat.zero_add])) ?_));conv=>whnf)
 refine Ru.sta r49 size_ar (by omega) (fun j hj=>arF_one _ j) ?_
 intro w10 r410 k10
 have r410:Row w10 x4 28 24 (arF (playA (fun _=>0) L)):=r410.congr (fun j hj=>by unfold lay;rw [if_pos (by omega),Nat.sub_zero])
 refine Ru.ldaC (q:=arF (playA (fun _=>0) L)) r410 Tryz.underlying28 rfl size_ar (by omega) (fun j hj=>by rw [Nat.zero_add]) ?_
 conv=>whnf
 exact ⟨rfl,ch,d,own6,K6,P6,k6,rfl,⟨D9.away r49 (by decide) k10,PI.inv,PI.qu,PI.sh,hown6,kk9.then k10 (fun x hx=>.inr (by rw [List.mem_singleton.1 hx];exact hx4w))⟩,K0,P0,t0,k0,M0,I0,fa0,hz⟩
theorem fds_in {P:CS} {p:Nat} {t:Tg} {D:Nat→Nat} (e:P.pg p = .full t D):∀ n,p<n→fdOf p t∈fdsTo P n
 | 0,h=>by omega
 | n+1,h=>by
  rw [fdsTo_succ]
  by_cases h3:p=n
  ·subst h3
   rw [fd1_full e]
   exact List.mem_append_right _ (List.mem_singleton.2 rfl)
  ·exact List.mem_append_left _ (fds_in e n (by omega))
theorem top_page {P:CS} (hv:P.val) (k:Cp) {p:Nat} {t:Tg} {D:Nat→Nat} (hp:p<96) (e:P.pg p = .full t D):t.seq≤topOf (fdsTo P 96) k :=
 (seqTop_ge (flTop k (max k.next 0 - 1) 24) (fdsTo P 96)).2 _ (fds_in e 96 hp) (fd_sound (hv p t D hp e).1 hp)
def NX (_:Nat) (K:KS) (P:CS):Prop:=∀ k L m Q,Q.pg=P.pg→Okay Q k L m→K.next≤nextF (fdsTo Q 96) k
theorem NX.page {n:Nat} {K:KS} {P:CS} {p:Nat} {t:Tg} {D:Nat→Nat} (hp:p<96) (e:P.pg p = .full t D) (hs:K.next≤t.seq+1) (hm:K.next≤1099511627775):NX n K P:=fun k L m Q hQ h=>by
 have:=top_page h.gd.val k hp (by rw [hQ];exact e)
 unfold nextF
 omega
theorem n1K_calls (k:Cp) (L:List Fd):∀ i,(n1K k L i).calls=0
 | 0=>rfl
 | i+1=>by
  rw [n1K_succ]
  split
  ·exact n1K_calls k L i
  ·exact n1K_calls k L i
theorem mtK_calls (k:Cp) (L:List Fd):(mtK k L).calls=0:=by
 obtain ⟨st,h⟩:=n2K_same (n1K k L 25) 12
 show (nwK k L).calls=0
 unfold nwK
 rw [h]
 exact n1K_calls k L 25
theorem mounts_calls {P:CS} {K':KS} {P':CS} {tr:List CS} (M:Mounts P K' P' tr):K'.calls=0:=by
 have key:∀ {K:KS} {P:CS} {K':KS} {P':CS} {tr:List CS},K.calls=0→Cleaned K P K' P' tr→K'.calls=0:=fun h C=>by
  cases C with
  | done e =>
   obtain ⟨F,e⟩:=clK_same _ 12
   rw [e]
   exact h
  | note e L t=>rfl
 cases M with
 | new a1 a2 a3 a4 a5 C=>exact key (mtK_calls _ _) C
 | old a1 a2 a3 a4 a5 a6 a7 a8 a9 a10 C=>exact key (mtK_calls _ _) C
def RR (c n:Nat) (F rd:Nat→Int) (v:Nat):Prop:=∀ b,b<12→b≠v→0≤rd b∧rd b≤F b+256 * (c:Int)∧rd b≤n
theorem RR.mono {c n n' v:Nat} {F rd:Nat→Int} (h:RR c n F rd v) (hn:n≤n'):RR c n' F rd v:=fun b hb hv=>by
 obtain ⟨h1,h2,h3⟩:=h b hb hv
 exact ⟨h1,h2,by omega⟩
theorem RR.step {c n v x:Nat} {F rd:Nat→Int} (h:RR c n F rd v) (hn:n<60000):RR c (n+1) (Hl.rdF F x) (updf rd x (w64 (rd x+1))) v:=fun b hb hv=>by
 obtain ⟨h1,h2,h3⟩:=h b hb hv
 unfold Hl.rdF Hl.upd updf
 by_cases e:b=x
 ·subst e
  rw [if_pos rfl,if_pos rfl,w64_id (by omega) (by omega)]
  exact ⟨by omega,by omega,by omega⟩
 ·rw [if_neg e,if_neg e]
  exact ⟨h1,h2,by omega⟩
theorem rdF_wr (F:Nat→Int) {x b:Nat} (hx:x<12):Hl.rdF F x (24+b)=F (24+b):=by
 unfold Hl.rdF Hl.upd
 rw [if_neg (by omega)]
theorem mvTo_F (K:KS) (l:List Tg):(mvTo K l).F=K.F:=by
 induction l using snoc_rec with
 | h0=>rfl
 | h1 l t ih =>
  rw [mvTo_snoc]
  exact ih
theorem shK_F (K:KS):(shK K).F=K.F:=by
 unfold shK
 split<;>rfl
theorem vcK_F (K:KS) (P:CS) (v d:Nat):(vcK K P v d).F=Hl.erF (vcS K P v d).K.F v:=by
 unfold vcK endK
 split
 ·exact mvTo_F _ _
 ·show (shK _).F=_
  rw [shK_F,mvTo_F]
  rfl
def SL (c n:Nat) (K:KS) (P:CS):Prop:=n≤60000→RR c n K.F P.rd 12∧0≤K.calls∧K.calls≤8∧∃ kk:Cp,kk.told∧dataAt P (K.at_ 24 - 1)=ptN kk∧(∀ b,b<12→K.F (24+b)≤kk.reads b+1)∧((K.cur:Nat):Int)=(kk.cur+8 * K.calls) % 96
theorem lyK_F (K:KS) (of:Nat):(lyK K of).F=if of=24 then Hl.ntF (Hl.rdF K.F ((K.fb * 8+K.fi) / 8)) else Hl.rdF K.F ((K.fb * 8+K.fi) / 8):=by
 unfold lyK anK
 split<;>rfl
theorem ntF_rd (F:Nat→Int) {b:Nat} (hb:b<12):Hl.ntF F b=F b∧Hl.ntF F (24+b)=F b:=by
 unfold Hl.ntF
 exact ⟨if_pos (by omega),by rw [if_neg (by omega),show 24+b - 24=b by omega]⟩
theorem RR.nt {c n v:Nat} {F rd:Nat→Int} (h:RR c n F rd v):RR c n (Hl.ntF F) rd v:=fun b hb hv=>by
 rw [(ntF_rd F hb).1]
 exact h b hb hv
theorem lyP_rd (K:KS) (P:CS) (of:Nat) (D:KS→Int→Nat→Nat):(lyP K P of D).rd=updf P.rd ((K.fb * 8+K.fi) / 8) (w64 (P.rd ((K.fb * 8+K.fi) / 8)+1)):=rfl
theorem SL.note {c n:Nat} {K K':KS} {P:CS} {D:KS→Int→Nat→Nat} {kk:Cp} (E:LyCore 24 D K P) (hD:D (sqK K) K.next=ptN kk) (ht:kk.told) (hr:kk.reads=K.F) (hcu:kk.cur=K.cur) (h:RR c n K.F P.rd 12) (hb:Hl.HB K.F) (e1:K'.F=(lyK K 24).F) (e2:K'.at_ 24=(lyK K 24).at_ 24) (e3:K'.calls=0) (e4:K'.cur=K.cur) (hn:n+1≤60000):RR c (n+1) K'.F (lyP K P 24 D).rd 12∧0≤K'.calls∧K'.calls≤8∧∃ kk:Cp,kk.told∧dataAt (lyP K P 24 D) (K'.at_ 24 - 1)=ptN kk∧(∀ b,b<12→K'.F (24+b)≤kk.reads b+1)∧((K'.cur:Nat):Int)=(kk.cur+8 * K'.calls) % 96:=by
 obtain ⟨ow,F,calls,he,-⟩:=E.eq
 have hat:(lyK K 24).at_ 24=K.fb * 8+K.fi+1:=by
  rw [he]
  show updf K.at_ 24 (K.fb * 8+K.fi+1) 24=_
  exact if_pos rfl
 have hF:K'.F=Hl.ntF (Hl.rdF K.F ((K.fb * 8+K.fi) / 8)):=by
  rw [e1,lyK_F,if_pos rfl]
 refine ⟨?_,by rw [e3];omega,by rw [e3];omega,kk,ht,?_,fun b hb'=>?_,?_⟩
 ·rw [hF,lyP_rd]
  exact (h.step (by omega)).nt
 ·rw [e2,hat,Nat.add_sub_cancel]
  unfold dataAt
  rw [E.pg,hD]
  exact ptN_cut kk
 ·rw [hF,(ntF_rd _ hb').2,hr]
  have:=hb b hb'
  unfold Hl.rdF Hl.upd
  split
  ·rename_i e
   rw [← e]
   omega
  ·omega
 ·rw [e3,e4,hcu]
  have h96:=ht.cur
  rw [hcu] at h96
  omega
theorem ptN_rd {p:Cp} (h:p.told) {b:Nat} (hb:b<12):numOf (fun j=>((ptN p (128+2 * b+j):Nat):Int)) 2=p.reads b:=by
 rw [numOf_congr (f:=fun j=>((ptN p (128+2 * b+j):Nat):Int)) (g:=byteOf (p.reads b)) 2 (fun j hj=>by rw [ptN_int];exact (ptF_rd p hb hj).symm)]
 have:=h.rd b hb
 exact numOf_back _ (by omega) 2 (Int.ediv_eq_zero_of_lt (by omega) (by omega))
theorem ptN_cur {p:Cp} (h:p.told):numOf (fun j=>((ptN p (127+j):Nat):Int)) 1=p.cur:=by
 rw [numOf_congr (f:=fun j=>((ptN p (127+j):Nat):Int)) (g:=byteOf p.cur) 1 (fun j hj=>by rw [ptN_int];exact (ptF_cur p hj).symm)]
 have:=h.cur
 exact numOf_back _ (by omega) 1 (Int.ediv_eq_zero_of_lt (by omega) (by omega))
theorem cp_same2 {p q:Cp} (hp:p.told) (hq:q.told) (e:ptN p=ptN q):p.cur=q.cur∧∀ b,b<12→p.reads b=q.reads b :=
 ⟨by rw [← ptN_cur hp, ← ptN_cur hq,e],fun b hb=>by rw [← ptN_rd hp hb, ← ptN_rd hq hb,e]⟩
def R1 (c n:Nat) (F rd:Nat→Int) (b:Nat):Prop:=0≤rd b∧rd b≤F b+256 * (c:Int)∧rd b≤n
theorem R1.hit {c n b:Nat} {F rd:Nat→Int} (h:R1 c n F rd b) (hn:n<60000):R1 c (n+1) (Hl.rdF F b) (updf rd b (w64 (rd b+1))) b:=by
 obtain ⟨h1,h2,h3⟩:=h
 unfold R1 Hl.rdF Hl.upd updf
 rw [if_pos rfl,if_pos rfl,w64_id (by omega) (by omega)]
 exact ⟨by omega,by omega,by omega⟩
theorem R1.miss {c n b x:Nat} {F rd:Nat→Int} (h:R1 c n F rd b) (hx:b≠x) (y:Int):R1 c n (Hl.rdF F x) (updf rd x y) b:=by
 unfold R1 Hl.rdF Hl.upd updf
 rw [if_neg hx,if_neg hx]
 exact h
theorem sn_step {c n b j:Nat} {F:Nat→Int} {P:CS} (hj:j<12) (hn:b=j→n+8≤60000) (h:R1 c n F (scP P (8 * j)).rd b):∀ i,i≤8→R1 c (n+if b=j then i else 0) (rdN F j i) (scP P (8 * j+i)).rd b∧∀ x,12≤x→rdN F j i x=F x
 | 0,_=>by
  rw [rdN_zero]
  refine ⟨?_,fun x _=>rfl⟩
  rw [show (n+if b=j then 0 else 0)=n by split<;>rfl]
  exact h
 | i+1,hi=>by
  obtain ⟨ih,ih2⟩:=sn_step hj hn h i (by omega)
  rw [rdN_succ]
  have e:(scP P (8 * j+(i+1))).rd=updf (scP P (8 * j+i)).rd j (w64 ((scP P (8 * j+i)).rd j+1)):=by
   show ((scP P (8 * j+i)).readE (8 * j+i)).rd=_
   unfold CS.readE
   simp only
   rw [show (8 * j+i) / 8=j by omega]
  rw [e]
  refine ⟨?_,fun x hx=>?_⟩
  ·by_cases hb:b=j
   ·subst hb
    rw [if_pos rfl] at ih ⊢
    exact ih.hit (by have:=hn rfl;omega)
   ·rw [if_neg hb] at ih ⊢
    exact ih.miss hb _
  ·unfold Hl.rdF Hl.upd
   rw [if_neg (by omega)]
   exact ih2 x hx
theorem sn_all {c n b:Nat} {F:Nat→Int} {P:CS} (hn:n+8≤60000) (h:R1 c n F P.rd b):∀ j,j≤12→R1 c (n+if b<j then 8 else 0) (snF F j) (scP P (8 * j)).rd b∧∀ x,12≤x→snF F j x=F x
 | 0,_=>by
  rw [snF_zero]
  exact ⟨h,fun x _=>rfl⟩
 | j+1,hj=>by
  obtain ⟨ih,ih2⟩:=sn_all hn h j (by omega)
  rw [snF_succ]
  by_cases hb:b<j
  ·rw [if_pos hb] at ih
   obtain ⟨x1,x2⟩:=sn_step (by omega) (fun e=>by omega) ih 8 (Nat.le_refl _)
   rw [if_neg (by omega)] at x1
   refine ⟨?_,fun x hx=>(x2 x hx).trans (ih2 x hx)⟩
   rw [if_pos (by omega)]
   exact x1
  ·rw [if_neg hb,Nat.add_zero] at ih
   obtain ⟨x1,x2⟩:=sn_step (by omega) (fun _=>hn) ih 8 (Nat.le_refl _)
   refine ⟨?_,fun x hx=>(x2 x hx).trans (ih2 x hx)⟩
   by_cases e:b=j
   ·rw [if_pos e] at x1
    rw [if_pos (by omega)]
    exact x1
   ·rw [if_neg e] at x1
    rw [if_neg (by omega)]
    exact x1
theorem cl_wiped {K:KS} {P:CS} (hst:K.st=fun _=>0):∀ j,j≤12→∀ b,b<j→(clK K j).F b=0∧(clP K P j).rd b=0
 | 0,_,b,h=>by omega
 | j+1,hj,b,h=>by
  rw [clK_succ,clP_succ,if_pos (by rw [hst]),if_pos (by rw [hst])]
  show Hl.erF (clK K j).F j b=0∧updf (clP K P j).rd j 0 b=0
  unfold Hl.erF Hl.upd updf
  rw [if_neg (show ¬ b=24+j by omega)]
  by_cases hbj:b=j
  ·rw [if_pos hbj,if_pos hbj]
   exact ⟨rfl,rfl⟩
  ·rw [if_neg hbj,if_neg hbj]
   exact cl_wiped hst j (by omega) b (by omega)
theorem mtK_F (k:Cp) (L:List Fd):(mtK k L).F=snF (Hl.newF (rdsF k) (scsF k)) 12:=by
 have h1:∀ i,(n1K k L i).F=Hl.newF (rdsF k) (scsF k):=fun i=>by
  induction i with
  | zero=>rfl
  | succ i ih =>
   rw [n1K_succ]
   split
   ·exact ih
   ·exact ih
 obtain ⟨st,h⟩:=n2K_same (n1K k L 25) 12
 show snF (nwK k L).F 12=_
 have:(nwK k L).F=Hl.newF (rdsF k) (scsF k):=by
  unfold nwK
  rw [h]
  exact h1 25
 rw [this]
theorem lv_pos {L:Nat→Nat} {b:Nat}:lv L b≠0↔∃ o,o<25∧L o≠0∧(L o - 1) / 8=b:=by
 refine ⟨fun h=>?_,fun ⟨o,h1,h2,h3⟩ e=>lv_zero.1 e o h1 h2 h3⟩
 by_cases x:∃ o,o<25∧L o≠0∧(L o - 1) / 8=b
 ·exact x
 ·exact absurd (lv_zero.2 fun o h1 h2 h3=>x ⟨o,h1,h2,h3⟩) h
theorem takeFrom_first {st:Nat→Nat} {pn:Nat}:∀ {n d:Nat},n≤12→takeFrom st pn n=some d→∃ i,12 - n≤i∧i<12∧d=(pn+i) % 12∧∀ j,12 - n≤j→j<i→st ((pn+j) % 12)≠0
 | 0,d,_,h=>nomatch h
 | n+1,d,hn,h=>by
  unfold takeFrom at h
  split at h
  ·injection h with h
   exact ⟨12 - (n+1),Nat.le_refl _,by omega,h.symm,fun j h1 h2=>by omega⟩
  ·rename_i h0
   obtain ⟨i,h1,h2,h3,h4⟩:=takeFrom_first (by omega) h
   refine ⟨i,by omega,h2,h3,fun j h5 h6=>?_⟩
   by_cases e:j=12 - (n+1)
   ·rw [e]
    exact h0
   ·exact h4 j (by omega) h6
theorem take_near {st:Nat→Nat} {pn d b:Nat} (hp:pn≤12) (h:takeN st pn=some d) (hb:b<12) (h0:st b=0) (hd:b≠d):(b+24 - (d+1)) % 12+1≤(b+24 - pn) % 12:=by
 obtain ⟨i,h1,h2,h3,h4⟩:=takeFrom_first (by omega) h
 have h5:i≤(b+24 - pn) % 12:=by
  by_cases e:i≤(b+24 - pn) % 12
  ·exact e
  ·exact absurd (by rw [show (pn+(b+24 - pn) % 12) % 12=b by omega];exact h0) (h4 ((b+24 - pn) % 12) (by omega) (by omega))
 omega
def fr8 (K:KS):Int:=if K.fo=true then 8 * (K.fi:Int) else 64
theorem fr8_le {K:KS} (h:K.fi≤8):0≤fr8 K∧fr8 K≤64:=by
 unfold fr8
 split<;>omega
def ph (K:KS) (b:Nat):Int:=64 * (11 - ((b+24 - K.pn) % 12:Nat))+fr8 K+K.calls+((b+12 - K.cur / 8) % 12:Nat)
def Kn (c:Nat) (K:KS) (P:CS) (b:Nat):Prop:=0≤P.rd b∧P.rd b≤K.F b+256 * (c:Int)
theorem Kn.same {c:Nat} {K K':KS} {P P':CS} {b:Nat} (h:Kn c K P b) (e1:K'.F b=K.F b) (e2:P'.rd b=P.rd b):Kn c K' P' b:=by
 unfold Kn
 rw [e1,e2]
 exact h
structure JR (c:Nat) (e:Int) (x:Nat) (h:Bool) (K:KS) (P:CS):Prop where
 calls:0≤K.calls∧K.calls≤8
 cur:K.cur % 8=0
 free:∀ b,b<12→K.st b=0→Kn c K P b∧12 * P.rd b≤8 * ph K b
 hol:∀ b,b<12→b≠x→lv K.at_ b≠0→Kn c K P b∧(P.rd b≤e+256 * (c:Int)∨b∈K.qu)
 fr:K.fo=true→lv K.at_ K.fb≠0∨(h=false∧Kn c K P K.fb∧P.rd K.fb≤e+256 * (c:Int))
section
variable {c x:Nat} {e:Int} {h:Bool} {K K0:KS} {P:CS}
theorem JR.mono {e':Int} (j:JR c e x h K P) (he:e≤e'):JR c e' x h K P :=
 ⟨j.calls,j.cur,j.free,fun b hb hx hl=>⟨(j.hol b hb hx hl).1,(j.hol b hb hx hl).2.imp (fun _=>by omega) (fun y=>y)⟩,fun hf=>(j.fr hf).imp (fun y=>y) (fun y=>⟨y.1,y.2.1,by have:=y.2.2;omega⟩)⟩
theorem JR.weak (j:JR c e x h K P):JR c e x false K P:=⟨j.calls,j.cur,j.free,j.hol,fun hf=>(j.fr hf).imp (fun y=>y) (fun y=>⟨rfl,y.2⟩)⟩
theorem JR.low (j:JR c e x h K P) (hfi:K.fi≤8) (hcu:K.cur<96) {b:Nat} (hb:b<12) (h0:K.st b=0):P.rd b≤524:=by
 obtain ⟨-,h1⟩:=j.free b hb h0
 have h2:=fr8_le hfi
 have h3:=j.calls
 unfold ph at h1
 omega
theorem JR.shut (j:JR c e x h K P) (S:Shut K K0) (hfi:K.fi≤8):JR c e x h K0 P:=by
 have hst:=S.st
 have hfr:=S.fr
 obtain ⟨st,fo,fb,fi,rfl⟩:=S.eq
 have hst:∀ b,st b=K.st b∨K.st b=1∧st b=2:=hst
 have hfr:(fo=K.fo∧fb=K.fb∧fi=K.fi)∨fo=false:=hfr
 refine ⟨j.calls,j.cur,fun b hb h0=>?_,j.hol,fun hf=>?_⟩
 ·have h0:st b=0:=h0
  have h1:K.st b=0:=by have:=hst b;omega
  obtain ⟨k,l⟩:=j.free b hb h1
  refine ⟨k,Int.le_trans l ?_⟩
  have h2:=fr8_le hfi
  have h3:fr8 K≤fr8 { K with st:=st,fo:=fo,fb:=fb,fi:=fi }:=by
   rcases hfr with ⟨e1,e2,e3⟩ | e1
   ·rw [e1,e3]
    exact Int.le_refl _
   ·rw [e1]
    exact h2.2
  unfold ph
  show 8 * (64 * (11 - ((b+24 - K.pn) % 12:Nat))+fr8 K+K.calls+((b+12 - K.cur / 8) % 12:Nat))≤8 * (64 * (11 - ((b+24 - K.pn) % 12:Nat))+fr8 { K with st:=st,fo:=fo,fb:=fb,fi:=fi }+K.calls+((b+12 - K.cur / 8) % 12:Nat))
  omega
 ·have hf:fo=true:=hf
  rcases hfr with ⟨e1,e2,e3⟩ | e1
  ·have:=j.fr (by rw [← e1];exact hf)
   show lv K.at_ fb≠0∨_
   rw [e2]
   exact this
  ·rw [hf] at e1
   cases e1
theorem JR.take {d:Nat} (j:JR c e x h K P) (hf:K.fo=false) (hp:K.pn≤12) (hcu:K.cur<96) (hfi:K.fi≤8) (ht:takeN K.st K.pn=some d) (hd:d<12) (hd0:K.st d=0) (he:524≤e):JR c e x false { K with st:=updf K.st d 1,pn:=d+1,fo:=true,fb:=d,fi:=0 } P:=by
 refine ⟨j.calls,j.cur,fun b hb h0=>?_,j.hol,fun _=>.inr ⟨rfl,(j.free d hd hd0).1,?_⟩⟩
 ·have h0:updf K.st d 1 b=0:=h0
  unfold updf at h0
  have hbd:b≠d:=fun y=>by rw [if_pos y] at h0;omega
  rw [if_neg hbd] at h0
  obtain ⟨k,l⟩:=j.free b hb h0
  refine ⟨k,Int.le_trans l ?_⟩
  have hn:=take_near hp ht hb h0 hbd
  have h1:fr8 K=64:=by
   unfold fr8
   rw [hf]
   rfl
  unfold ph
  rw [h1]
  show 8 * (64 * (11 - ((b+24 - K.pn) % 12:Nat))+64+K.calls+((b+12 - K.cur / 8) % 12:Nat))≤8 * (64 * (11 - ((b+24 - (d+1)) % 12:Nat))+(8 * ((0:Nat):Int))+K.calls+((b+12 - K.cur / 8) % 12:Nat))
  omega
 ·have:=j.low hfi hcu hd hd0
  show P.rd d≤_
  omega
theorem hit {c:Nat} {f r:Int} (h0:0≤r) (h1:r≤f+256 * (c:Int)) (h2:r+1≤65535+256 * (c:Int)) (hc:c≤1000):w64 (r+1)=r+1∧r+1≤min (f+1) 65535+256 * (c:Int):=⟨w64_id (by omega) (by omega),by omega⟩
theorem cp_one {n:Nat} {v d:Nat} (hd:d<12) (hdv:d≠v) (os:List Nat) (ho:∀ o,o∈os→(K.at_ o - 1) / 8=v) (h8:os.length≤8) (hn:n+8≤60000) (hr:R1 c n K.F P.rd d) :
  (cpTo K P d os).l.length=os.length∧(cpTo K P d os).K.at_=K.at_∧R1 c (n+os.length) (cpTo K P d os).K.F (cpTo K P d os).P.rd d∧∀ b,b≠v→b≠d→(cpTo K P d os).K.F b=K.F b∧(cpTo K P d os).P.rd b=P.rd b:=by
 induction os using snoc_rec with
 | h0=>exact ⟨rfl,rfl,hr,fun b _ _=>⟨rfl,rfl⟩⟩
 | h1 os o ih =>
  rw [List.length_append,List.length_singleton] at h8
  obtain ⟨a1,a2,a3,a4⟩:=ih (fun x hx=>ho x (List.mem_append_left _ hx)) (by omega)
  have ho1:=ho o (List.mem_append_right _ (List.mem_singleton.2 rfl))
  rw [cpTo_snoc]
  generalize cpTo K P d os=S at *
  have e1:(S.K.at_ o - 1) / 8=v:=by rw [a2];exact ho1
  have e2:(d * 8+S.l.length) / 8=d:=by omega
  have eF:(cpStep d S o).K.F=Hl.rdF (Hl.rdF S.K.F v) d:=by
   show Hl.rdF (Hl.rdF S.K.F ((S.K.at_ o - 1) / 8)) ((d * 8+S.l.length) / 8)=_
   rw [e1,e2]
  have eR:(cpStep d S o).P.rd=updf (updf S.P.rd v (w64 (S.P.rd v+1))) d (w64 (updf S.P.rd v (w64 (S.P.rd v+1)) d+1)):=by
   show updf (updf S.P.rd ((S.K.at_ o - 1) / 8) (w64 (S.P.rd ((S.K.at_ o - 1) / 8)+1))) ((d * 8+S.l.length) / 8) (w64 (updf S.P.rd ((S.K.at_ o - 1) / 8) (w64 (S.P.rd ((S.K.at_ o - 1) / 8)+1)) ((d * 8+S.l.length) / 8)+1))=_
   rw [e1,e2]
  refine ⟨?_,a2,?_,fun b hb1 hb2=>?_⟩
  ·show (S.l ++ [_]).length=_
   rw [List.length_append,List.length_singleton,List.length_append,List.length_singleton,a1]
  ·rw [eF,eR,List.length_append,List.length_singleton]
   exact (a3.miss hdv _).hit (by omega)
  ·rw [eF,eR]
   unfold Hl.rdF Hl.upd updf
   rw [if_neg hb2,if_neg hb1,if_neg hb2,if_neg hb1]
   exact a4 b hb1 hb2
theorem JR.vac {v d m0:Nat} {k:Cp} {m:Int} (j:JR c e v h K P) (I:Inv K P k m) (V:VcEnd K P k m v d) (he:532≤e) (hh:h=true→lv K.at_ v≠0):JR c e 12 h (vcK K P v d) (vcP K P v d):=by
 have G:=V.gone
 have hv:=V.hyp.cp.hv
 have hd:=V.hyp.cp.hd
 have hst0:K.st v≠0:=fun e0=>by
  have h1:=G.v2
  unfold vc0 at h1
  by_cases hx:(if K.fo then (K.fb:Int) else -1)=v
  ·rw [if_pos hx] at h1
   obtain ⟨B1,S1,-⟩:=I.b.shut
   have:=S1.st v
   omega
  ·rw [if_neg hx] at h1
   omega
 obtain ⟨B0,S0,hv2⟩:=I.b.vc0 hv hst0
 have j0:=j.shut S0 I.b.fi
 have hfi0:=B0.fi
 have hcu0:(vc0 K v).cur<96:=by rw [S0.idle.cur];exact I.h.cur
 have how:(vc1 K v d).ow=K.ow∧(vc1 K v d).at_=K.at_∧(vc1 K v d).F=K.F∧(vc0 K v).at_=K.at_∧(vc0 K v).F=K.F∧(vc0 K v).qu=K.qu∧(vc0 K v).calls=K.calls∧(vc0 K v).cur=K.cur:=by
  obtain ⟨st,fo,fb,fi,e0⟩:=S0.eq
  unfold vc1
  rw [e0]
  exact ⟨rfl,rfl,rfl,rfl,rfl,rfl,rfl,rfl⟩
 obtain ⟨w1,w2,w3,w4,w5,w6,w7,w8⟩:=how
 have hdlow:=j0.low hfi0 hcu0 hd G.d0
 have hdk:=(j0.free d hd G.d0).1
 have hR:R1 c 524 (vc1 K v d).F P.rd d:=by
  refine ⟨hdk.1,?_,hdlow⟩
  rw [w3, ← w5]
  exact hdk.2
 have h8:=ofL_le (vc1 K v d).ow v
 obtain ⟨a1,a2,a3,a4⟩:=cp_one (c:=c) (n:=524) (K:=vc1 K v d) (P:=P) hd G.dv (ofL (vc1 K v d).ow v) (fun o ho=>by
  rw [w1] at ho
  rw [w2]
  exact ((ofL_mem I.l.con hv).1 ho).2.2) h8 (by omega) hR
 have eF:=vcK_F K P v d
 have eS:vcS K P v d=cpTo (vc1 K v d) P d (ofL (vc1 K v d).ow v):=rfl
 rw [eS] at eF
 have eR:(vcP K P v d).rd=updf (cpTo (vc1 K v d) P d (ofL (vc1 K v d).ow v)).P.rd v 0:=rfl
 generalize cpTo (vc1 K v d) P d (ofL (vc1 K v d).ow v)=S at *
 -- the blocks
 have fv:∀ b,b<12→(vcK K P v d).F b=(if b=v then 0 else S.K.F b):=fun b hb=>by
  rw [eF]
  unfold Hl.erF Hl.upd
  rw [if_neg (by omega)]
 have rv:∀ b,(vcP K P v d).rd b=(if b=v then 0 else S.P.rd b):=fun b=>by
  rw [eR]
  rfl
 have hcl:=V.idle.calls
 have hcr:=V.idle.cur
 have other:∀ b,b<12→b≠v→b≠d→(vcK K P v d).F b=K.F b∧(vcP K P v d).rd b=P.rd b:=fun b hb h1 h2=>by
  rw [fv b hb,rv b,if_neg h1,if_neg h1]
  obtain ⟨q1,q2⟩:=a4 b h1 h2
  rw [w3] at q1
  exact ⟨q1,q2⟩
 have atd:Kn c (vcK K P v d) (vcP K P v d) d∧(vcP K P v d).rd d≤e+256 * (c:Int):=by
  obtain ⟨q1,q2,q3⟩:=a3
  unfold Kn
  rw [fv d hd,rv d,if_neg G.dv,if_neg G.dv]
  exact ⟨⟨q1,q2⟩,by omega⟩
 have hwhere:∀ o,o<25→(vcK K P v d).at_ o≠0→K.at_ o≠0∧(((vcK K P v d).at_ o - 1) / 8=d∨(vcK K P v d).at_ o=K.at_ o∧(K.at_ o - 1) / 8≠v):=fun o ho e1=>by
  have e2:K.at_ o≠0:=fun e3=>e1 (V.zero o ho e3)
  refine ⟨e2,?_⟩
  by_cases e3:(K.at_ o - 1) / 8=v
  ·exact .inl (G.go o ho e2 e3).2
  ·exact .inr ⟨G.stay o ho e2 e3,e3⟩
 refine ⟨by rw [hcl];exact j.calls,by rw [hcr];exact j.cur,fun b hb h0=>?_,fun b hb _ hl=>?_,fun hf=>?_⟩
 ·by_cases hbv:b=v
  ·subst hbv
   unfold Kn
   rw [fv b hb,rv b,if_pos rfl,if_pos rfl]
   refine ⟨⟨Int.le_refl 0,by omega⟩,?_⟩
   have h1:=(fr8_le V.ib.fi).1
   have h2:=j.calls
   unfold ph
   rw [hcl]
   omega
  ·rcases (G.free b hb).1 h0 with h1 | ⟨h1,h2⟩
   ·exact absurd h1 hbv
   ·obtain ⟨q1,q2⟩:=other b hb hbv h2
    obtain ⟨k0,l0⟩:=j0.free b hb h1
    refine ⟨k0.same (q1.trans (by rw [w5])) q2,?_⟩
    rw [q2]
    refine Int.le_trans l0 ?_
    have hn:=take_near V.hyp.pn V.hyp.tk hb h1 h2
    have h3:fr8 (vc0 K v) - 64≤fr8 (vcK K P v d):=by
     have h4:=fr8_le hfi0
     rcases G.fr with ⟨g1,g2,g3,g4⟩ | ⟨g1,g2,g3⟩
     ·have:fr8 (vcK K P v d)=fr8 (vc0 K v):=by
       unfold fr8
       rw [g1,g3]
      omega
     ·have:=(fr8_le V.ib.fi).1
      omega
    unfold ph
    rw [hcl,hcr,G.pn,w7,w8]
    omega
 ·obtain ⟨o,ho,e1,e2⟩:=lv_pos.1 hl
  obtain ⟨e3,e4⟩:=hwhere o ho e1
  by_cases hbd:b=d
  ·rw [hbd]
   exact ⟨atd.1,.inl atd.2⟩
  ·rcases e4 with e4 | ⟨e4,e5⟩
   ·omega
   ·rw [e4] at e2
    have hbv:b≠v:=fun y=>e5 (by rw [e2,y])
    obtain ⟨q1,q2⟩:=other b hb hbv hbd
    obtain ⟨k0,l0⟩:=j.hol b hb hbv (lv_pos.2 ⟨o,ho,e3,e2⟩)
    rw [q2,V.idle.qu]
    exact ⟨k0.same q1 q2,l0⟩
 ·rcases G.fr with ⟨g1,g2,g3,g4⟩ | ⟨g1,g2,g3⟩
  ·have hs1:=B0.fst g4
   have hbv:(vc0 K v).fb≠v:=fun y=>by rw [y,hv2] at hs1;omega
   have hbd:(vc0 K v).fb≠d:=fun y=>by rw [y,G.d0] at hs1;omega
   rw [g2]
   rcases j0.fr g4 with h1 | ⟨h1,h2,h3⟩
   ·rw [w4] at h1
    obtain ⟨o,ho,e1,e2⟩:=lv_pos.1 h1
    have e3:=G.stay o ho e1 (by rw [e2];exact hbv)
    exact .inl (lv_pos.2 ⟨o,ho,by rw [e3];exact e1,by rw [e3];exact e2⟩)
   ·obtain ⟨q1,q2⟩:=other _ B0.fb hbv hbd
    exact .inr ⟨h1,h2.same (q1.trans (by rw [w5])) q2,by rw [q2];exact h3⟩
  ·rw [g2]
   by_cases hl:lv K.at_ v=0
   ·cases h with
    | true=>exact absurd hl (hh rfl)
    | false=>exact .inr ⟨rfl,atd⟩
   ·obtain ⟨o,ho,e1,e2⟩:=lv_pos.1 hl
    obtain ⟨e3,e4⟩:=G.go o ho e1 e2
    exact .inl (lv_pos.2 ⟨o,ho,e3,e4⟩)
theorem JR.lay {of:Nat} {D:KS→Int→Nat→Nat} (j:JR c e 12 h K P) (E:LyCore of D K P) (hr:roomB K.fo K.fi of=true) (hof:of<25) (hq:K.qu=[]) (he:e≤60000) (hc:c≤1000):JR c (e+1) 12 true (lyK K of) (lyP K P of D)∧(lyK K of).qu=[]∧(of=24→(lyK K of).calls=0):=by
 have hfo:K.fo=true∧K.fi<8:=by
  unfold roomB at hr
  simp only [Bool.and_eq_true,decide_eq_true_eq] at hr
  exact ⟨hr.1,hr.2.1⟩
 obtain ⟨hfo,hfi⟩:=hfo
 have hfb:=E.fb
 have hst:=E.b.fst
 have eb:(K.fb * 8+K.fi) / 8=K.fb:=by omega
 have hF0:=lyK_F K of
 rw [eb] at hF0
 have eR:=lyP_rd K P of D
 rw [eb] at eR
 have hF:∀ b,b<12→(lyK K of).F b=Hl.rdF K.F K.fb b:=fun b hb=>by
  rw [hF0]
  split
  ·exact (ntF_rd _ hb).1
  ·rfl
 have oth:∀ b,b<12→b≠K.fb→(lyK K of).F b=K.F b∧(lyP K P of D).rd b=P.rd b:=fun b hb hn=>by
  rw [hF b hb,eR]
  unfold Hl.rdF Hl.upd updf
  rw [if_neg hn,if_neg hn]
  exact ⟨rfl,rfl⟩
 have old:Kn c K P K.fb∧P.rd K.fb≤e+256 * (c:Int):=by
  rcases j.fr hfo with h1 | ⟨h1,h2,h3⟩
  ·obtain ⟨h4,h5⟩:=j.hol K.fb hfb (by omega) h1
   rw [hq] at h5
   exact ⟨h4,h5.elim (fun y=>y) (fun y=>nomatch y)⟩
  ·exact ⟨h2,h3⟩
 obtain ⟨⟨o1,o2⟩,o3⟩:=old
 obtain ⟨hw1,hw2⟩:=hit o1 o2 (by omega) hc
 have atf:Kn c (lyK K of) (lyP K P of D) K.fb∧(lyP K P of D).rd K.fb≤e+1+256 * (c:Int):=by
  unfold Kn
  rw [hF _ hfb,eR]
  unfold Hl.rdF Hl.upd updf
  rw [if_pos rfl,if_pos rfl,hw1]
  exact ⟨⟨by omega,hw2⟩,by omega⟩
 clear hF hF0 eR hw1 hw2
 obtain ⟨ow,F,calls,he',hcon,hc1,hc2⟩:=E.eq
 rw [he'] at oth atf hst ⊢
 have hst:K.st K.fb=1:=hst hfo
 have hcl:K.calls - 8≤calls∧0≤calls∧calls≤8∧(of≠24→calls=K.calls):=by
  have:=j.calls
  by_cases h24:of=24
  ·rw [hc2 h24]
   exact ⟨by omega,by omega,by omega,fun y=>absurd h24 y⟩
  ·rw [hc1 h24]
   exact ⟨by omega,by omega,by omega,fun _=>rfl⟩
 have hlf:lv (updf K.at_ of (K.fb * 8+K.fi+1)) K.fb≠0:=lv_pos.2 ⟨of,hof,by unfold updf;rw [if_pos rfl];omega,by unfold updf;rw [if_pos rfl];omega⟩
 refine ⟨⟨⟨hcl.2.1,hcl.2.2.1⟩,j.cur,fun b hb h0=>?_,fun b hb _ hl=>?_,fun _=>.inl hlf⟩,hq,hc2⟩
 ·have h0:K.st b=0:=h0
  have hne:b≠K.fb:=fun y=>by rw [y,hst] at h0;omega
  obtain ⟨q1,q2⟩:=oth b hb hne
  obtain ⟨k0,l0⟩:=j.free b hb h0
  refine ⟨k0.same q1 q2,?_⟩
  rw [q2]
  refine Int.le_trans l0 ?_
  unfold ph fr8
  simp only
  rw [if_pos hfo]
  omega
 ·by_cases hbf:b=K.fb
  ·rw [hbf]
   exact ⟨atf.1,.inl atf.2⟩
  ·obtain ⟨o,ho,e1,e2⟩:=lv_pos.1 hl
   have e1:updf K.at_ of (K.fb * 8+K.fi+1) o≠0:=e1
   have e2:(updf K.at_ of (K.fb * 8+K.fi+1) o - 1) / 8=b:=e2
   unfold updf at e1 e2
   by_cases hoo:o=of
   ·rw [if_pos hoo] at e2
    omega
   ·rw [if_neg hoo] at e1 e2
    obtain ⟨q1,q2⟩:=oth b hb hbf
    obtain ⟨k0,l0⟩:=j.hol b hb (by omega) (lv_pos.2 ⟨o,ho,e1,e2⟩)
    rw [q2]
    exact ⟨k0.same q1 q2,l0.imp (fun _=>by omega) (fun y=>y)⟩
theorem JR.drop {s:Nat} {q:Int} (j:JR c e 12 true K P) (h24:K.fo=true→K.at_ 24≠0∧(K.at_ 24 - 1) / 8=K.fb) (hs:s<24):JR c e 12 true (drK (flK K s q) s) P:=by
 refine ⟨j.calls,j.cur,j.free,fun b hb hx hl=>?_,fun hf=>.inl ?_⟩
 ·obtain ⟨o,ho,e1,e2⟩:=lv_pos.1 hl
  have e1:updf K.at_ s 0 o≠0:=e1
  have e2:(updf K.at_ s 0 o - 1) / 8=b:=e2
  unfold updf at e1 e2
  by_cases hos:o=s
  ·rw [if_pos hos] at e1
   exact absurd rfl e1
  ·rw [if_neg hos] at e1 e2
   exact j.hol b hb hx (lv_pos.2 ⟨o,ho,e1,e2⟩)
 ·obtain ⟨e1,e2⟩:=h24 hf
  have:updf K.at_ s 0 24=K.at_ 24:=if_neg (by omega)
  exact lv_pos.2 ⟨24,by omega,by show updf K.at_ s 0 24≠0;rw [this];exact e1,by show (updf K.at_ s 0 24 - 1) / 8=K.fb;rw [this];exact e2⟩
theorem JR.read {p:Nat} (j:JR c e 12 true K P) (hp:p<96) (hs:K.st (p / 8)≠0) (hl:lv K.at_ (p / 8)≠0) (hq:K.qu=[]) (he:e≤60000) (hc:c≤1000):JR c (e+1) 12 true (rdK K p) (P.readE p):=by
 obtain ⟨⟨o1,o2⟩,o3⟩:=j.hol (p / 8) (by omega) (by omega) hl
 have o3:P.rd (p / 8)≤e+256 * (c:Int):=by
  rw [hq] at o3
  exact o3.elim (fun y=>y) (fun y=>nomatch y)
 obtain ⟨hw1,hw2⟩:=hit o1 o2 (by omega) hc
 have oth:∀ b,b≠p / 8→(rdK K p).F b=K.F b∧(P.readE p).rd b=P.rd b:=fun b hn=>⟨if_neg hn,if_neg hn⟩
 have atp:(rdK K p).F (p / 8)=min (K.F (p / 8)+1) 65535∧(P.readE p).rd (p / 8)=P.rd (p / 8)+1:=⟨if_pos rfl,(if_pos rfl).trans hw1⟩
 refine ⟨j.calls,j.cur,fun b hb h0=>?_,fun b hb hx hl=>?_,fun hf=>.inl ((j.fr hf).elim (fun y=>y) (fun y=>nomatch y.1))⟩
 ·have hn:b≠p / 8:=fun y=>hs (by rw [← y];exact h0)
  obtain ⟨q1,q2⟩:=oth b hn
  obtain ⟨k0,l0⟩:=j.free b hb h0
  refine ⟨k0.same q1 q2,?_⟩
  rw [q2]
  exact l0
 ·by_cases hn:b=p / 8
  ·rw [hn]
   unfold Kn
   rw [atp.1,atp.2]
   exact ⟨⟨by omega,hw2⟩,.inl (by omega)⟩
  ·obtain ⟨q1,q2⟩:=oth b hn
   obtain ⟨k0,l0⟩:=j.hol b hb hx hl
   rw [q2]
   exact ⟨k0.same q1 q2,l0.imp (fun _=>by omega) (fun y=>y)⟩
attribute [local irreducible] tdK tdP tiredQ
theorem td_other (hcu:K.cur % 8=0) (hc:K.cur<96):∀ i,i≤8→(∀ b,b≠K.cur / 8→(tdK K i).F b=K.F b∧(tdP K P i).rd b=P.rd b) ∧
  (∀ {c:Nat},c≤1000→0≤P.rd (K.cur / 8)→P.rd (K.cur / 8)≤K.F (K.cur / 8)+256 * (c:Int)→P.rd (K.cur / 8)+8≤65535+256 * (c:Int)→(tdP K P i).rd (K.cur / 8)=P.rd (K.cur / 8)+i∧P.rd (K.cur / 8)+i≤(tdK K i).F (K.cur / 8)+256 * (c:Int))
 | 0,_=>by
  rw [tdK_zero,tdP_zero]
  exact ⟨fun b _=>⟨rfl,rfl⟩,fun _ h1 h2 h3=>⟨by omega,by show _≤K.F (K.cur / 8)+_;omega⟩⟩
 | i+1,hi=>by
  obtain ⟨ih1,ih2⟩:=td_other hcu hc i (by omega)
  rw [tdK_succ,tdP_succ]
  have eb:(K.cur+i) % 96 / 8=K.cur / 8:=by omega
  refine ⟨fun b hb=>?_,fun {c} hc1 h1 h2 h3=>?_⟩
  ·obtain ⟨q1,q2⟩:=ih1 b hb
   refine ⟨?_,?_⟩
   ·show Hl.rdF (tdK K i).F ((K.cur+i) % 96 / 8) b=_
    rw [eb]
    unfold Hl.rdF Hl.upd
    rw [if_neg hb]
    exact q1
   ·show updf (tdP K P i).rd ((K.cur+i) % 96 / 8) _ b=_
    rw [eb]
    unfold updf
    rw [if_neg hb]
    exact q2
  ·obtain ⟨q1,q2⟩:=ih2 hc1 h1 h2 h3
   obtain ⟨hw1,hw2⟩:=hit (c:=c) (f:=(tdK K i).F (K.cur / 8)) (r:=P.rd (K.cur / 8)+i) (by omega) q2 (by omega) hc1
   refine ⟨?_,?_⟩
   ·show updf (tdP K P i).rd ((K.cur+i) % 96 / 8) (w64 ((tdP K P i).rd ((K.cur+i) % 96 / 8)+1)) (K.cur / 8)=_
    rw [eb]
    unfold updf
    rw [if_pos rfl,q1,hw1]
    omega
   ·show _≤Hl.rdF (tdK K i).F ((K.cur+i) % 96 / 8) (K.cur / 8)+_
    rw [eb]
    unfold Hl.rdF Hl.upd
    rw [if_pos rfl]
    omega
theorem tired_mem (K:KS) {b:Nat} (h1:512≤K.F b) (h2:lv K.at_ b≠0):∀ n,b<n→b∈tiredQ K [] n
 | 0,h=>by omega
 | n+1,h=>by
  rw [tiredQ_succ]
  unfold addQ
  by_cases e:b=n
  ·subst e
   rw [if_pos ⟨h1,by omega⟩]
   split
   ·assumption
   ·exact List.mem_append_right _ (List.mem_singleton.2 rfl)
  ·have:=tired_mem K h1 h2 n (by omega)
   split
   ·split
    ·exact this
    ·exact List.mem_append_left _ this
   ·exact this
theorem JR.td (j:JR c e 12 true K P) (hcu:K.cur<96) (h8:K.calls<8) (hfi:K.fi≤8) (hq:K.qu=[]) (he:e≤60000) (hc:c≤1000):JR c 511 12 true (tqK K) (tdP K P 8):=by
 obtain ⟨t1,t2⟩:=td_other (P:=P) j.cur hcu 8 (Nat.le_refl _)
 have t2:=t2 hc
 obtain ⟨F,hF⟩:=tdK_same K 8
 have hcl:(ptK K).calls=K.calls+1:=w64_id (by have:=j.calls;omega) (by omega)
 have s1:(tdK K 8).st=K.st∧(tdK K 8).at_=K.at_∧(tdK K 8).fo=K.fo∧(tdK K 8).fi=K.fi∧(tdK K 8).fb=K.fb∧(tdK K 8).pn=K.pn∧(tdK K 8).calls=K.calls+1∧(tdK K 8).cur=(K.cur+8) % 96:=by
  rw [hF]
  exact ⟨rfl,rfl,rfl,rfl,rfl,rfl,hcl,rfl⟩
 obtain ⟨s1,s2,s3,s4,s5,s6,s7,s8⟩:=s1
 have s9:∀ b,b∈tiredQ (tdK K 8) [] 12→b∈(tqK K).qu:=fun b hb=>hb
 have s10:(tqK K).F=(tdK K 8).F∧(tqK K).st=(tdK K 8).st∧(tqK K).at_=(tdK K 8).at_∧(tqK K).fo=(tdK K 8).fo∧(tqK K).fi=(tdK K 8).fi∧(tqK K).fb=(tdK K 8).fb∧(tqK K).pn=(tdK K 8).pn∧(tqK K).calls=(tdK K 8).calls∧(tqK K).cur=(tdK K 8).cur:=⟨rfl,rfl,rfl,rfl,rfl,rfl,rfl,rfl,rfl⟩
 obtain ⟨u0,u1,u2,u3,u4,u5,u6,u7,u8⟩:=s10
 have tm:=fun b h1 h2 hb=>s9 b (tired_mem (tdK K 8) (b:=b) h1 h2 12 hb)
 generalize tqK K=T at *
 generalize tdK K 8=U at *
 generalize tdP K P 8=Q at *
 have hb0:K.cur / 8<12:=by omega
 have hcm:=j.cur
 have hca:=j.calls
 refine ⟨by rw [u7,s7];omega,by rw [u8,s8];omega,fun b hb h0=>?_,fun b hb hx hl=>?_,fun hf=>.inl ?_⟩
 ·rw [u1,s1] at h0
  obtain ⟨k0,l0⟩:=j.free b hb h0
  have hlow:=j.low hfi hcu hb h0
  have hph:ph T b=ph K b+1+(if b=K.cur / 8 then 11 else -1):=by
   have hfr:fr8 T=fr8 K:=by
    unfold fr8
    rw [u3,u4,s3,s4]
   unfold ph
   rw [hfr,u6,u7,u8,s6,s7,s8]
   split<;>omega
  rw [hph]
  by_cases hbc:b=K.cur / 8
  ·rw [if_pos hbc]
   subst hbc
   obtain ⟨q1,q2⟩:=t2 k0.1 k0.2 (by omega)
   unfold Kn
   rw [u0,q1]
   exact ⟨⟨by have:=k0.1;omega,q2⟩,by omega⟩
  ·rw [if_neg hbc]
   obtain ⟨q1,q2⟩:=t1 b hbc
   refine ⟨k0.same (by rw [u0];exact q1) q2,?_⟩
   rw [q2]
   omega
 ·rw [u2,s2] at hl
  obtain ⟨k0,l0⟩:=j.hol b hb (by omega) hl
  have l0:P.rd b≤e+256 * (c:Int):=by
   rw [hq] at l0
   exact l0.elim (fun y=>y) (fun y=>nomatch y)
  have hk:Kn c T Q b:=by
   by_cases hbc:b=K.cur / 8
   ·subst hbc
    obtain ⟨q1,q2⟩:=t2 k0.1 k0.2 (by omega)
    unfold Kn
    rw [u0,q1]
    exact ⟨by have:=k0.1;omega,q2⟩
   ·obtain ⟨q1,q2⟩:=t1 b hbc
    exact k0.same (by rw [u0];exact q1) q2
  refine ⟨hk,?_⟩
  by_cases h5:512≤U.F b
  ·exact .inr (tm b h5 (by rw [s2];exact hl) hb)
  ·refine .inl ?_
   have:=hk.2
   rw [u0] at this
   omega
 ·rw [u3,s3] at hf
  rw [u2,s2,u5,s5]
  exact (j.fr hf).elim (fun y=>y) (fun y=>nomatch y.1)
end
theorem vc_end {K:KS} {P:CS} {k:Cp} {m:Int} (I:Inv K P k m) {v d:Nat} (h0:K.st v≠0) (H:VcHyp K P v d):VcEnd K P k m v d:=by
 obtain ⟨d',V⟩:=vac_end I.l I.b I.h I.free H.cp.hv h0
 have h1:=V.hyp.tk
 rw [H.tk] at h1
 injection h1 with h1
 rw [h1]
 exact V
theorem JR.tends {c:Nat} {k:Cp} {m:Int} {K:KS} {P:CS} {K':KS} {P':CS} {tr:List CS} (T:Tends K P K' P' tr):Inv K P k m→JR c 532 12 true K P→Inv K' P' k m∧JR c 532 12 true K' P'∧K'.qu=[]:=by
 induction T with
 | done hq=>exact fun I j=>⟨I,j,hq⟩
 | @skip K P v t K' P' tr hq hv hl ha h0 _ ih =>
  intro I j
  refine ih (I.pop t) ⟨j.calls,j.cur,j.free,fun b hb hx hlb=>?_,j.fr⟩
  obtain ⟨k0,l0⟩:=j.hol b hb hx hlb
  refine ⟨k0,l0.imp (fun y=>y) (fun y=>?_)⟩
  rw [hq] at y
  rcases List.mem_cons.1 y with y | y
  ·exact absurd (by rw [y];exact h0) hlb
  ·exact y
 | @move K P v d t K' P' tr hq hv hl ha h0 hw hF H hqu _ ih =>
  intro I j
  have I1:=I.pop t
  have hst:(popK K t).st v≠0:=fun e=>h0 (I.l.ok.led.dead (fun i hi=>I.b.bl v i hv e hi))
  have V:=vc_end I1 hst H
  have j1:JR c 532 v true (popK K t) P:=⟨j.calls,j.cur,j.free,fun b hb hx hlb=>by
   obtain ⟨k0,l0⟩:=j.hol b hb (by omega) hlb
   refine ⟨k0,l0.imp (fun y=>y) (fun y=>?_)⟩
   rw [hq] at y
   rcases List.mem_cons.1 y with y | y
   ·exact absurd y hx
   ·exact y,j.fr⟩
  have j2:=j1.vac (m0:=0) I1 V (Int.le_refl _) (fun _=>h0)
  exact ih ((V.inv I1).md _) ⟨j2.calls,j2.cur,j2.free,j2.hol,j2.fr⟩
theorem Inv.open {K:KS} {P:CS} {k:Cp} {m:Int} (I:Inv K P k m) (hf:K.fo=false) (hsp:spareB K.st=true) {d:Nat} (ht:takeN K.st K.pn=some d):d<12∧K.st d=0∧Inv { K with st:=updf K.st d 1,pn:=d+1,fo:=true,fb:=d,fi:=0 } P k m:=by
 have B1:=I.b
 have hbound:boundN K.st=5:=by
  unfold boundN
  rw [noWorn B1,noBad B1]
  rfl
 have h6:5<cntS K.st 0:=by
  unfold spareB at hsp
  rw [hbound] at hsp
  exact of_decide_eq_true hsp
 obtain ⟨hd,hd0⟩:=takeFrom_lt ht
 have hcn:cntS (updf K.st d 1) 0=cntS K.st 0 - 1:=by
  have:=cntS_upd K.st 1 0 hd
  rw [if_pos hd0,if_neg (by omega)] at this
  omega
 refine ⟨hd,hd0,⟨I.l.ok,I.l.uq,I.l.en,I.l.fl,I.l.next,I.l.con⟩,⟨fun b hb=>?_,fun b hb e=>?_,fun _=>?_,fun b i hb e hi=>?_,fun _ i h1 h2=>?_,hd,by show 0≤8;omega,by show d+1≤12;omega⟩,⟨I.h.hb,I.h.sc,I.h.cur⟩,by show 5≤cntS (updf K.st d 1) 0;rw [hcn];omega⟩
 ·show updf K.st d 1 b≤2
  rw [updf]
  split
  ·omega
  ·exact B1.st b hb
 ·have e:updf K.st d 1 b=1:=e
  rw [updf] at e
  by_cases hbd:b=d
  ·exact ⟨rfl,hbd.symm⟩
  ·rw [if_neg hbd] at e
   have:=(B1.opn b hb e).1
   rw [hf] at this
   cases this
 ·show updf K.st d 1 d=1
  rw [updf,if_pos rfl]
 ·have e:updf K.st d 1 b=0:=e
  rw [updf] at e
  by_cases hbd:b=d
  ·rw [if_pos hbd] at e
   omega
  ·rw [if_neg hbd] at e
   exact B1.bl b i hb e hi
 ·exact B1.bl d i hd hd0 h2
theorem JR.opens {c n of:Nat} {e:Int} {k:Cp} {m:Int} {K:KS} {P:CS} {K':KS} {P':CS} {tr:List CS} (O:Opens of n K P K' P' tr) (he:532≤e):Inv K P k m→JR c e 12 false K P→Inv K' P' k m∧JR c e 12 false K' P'∧K'.qu=K.qu∧K'.calls=K.calls:=by
 induction O with
 | room _ _ _=>exact fun I j=>⟨I,j,rfl,rfl⟩
 | @spare n K P d K' P' tr _ _ _ hsp hp ht _ ih =>
  intro I j
  obtain ⟨B1,S1,hf1,-⟩:=I.b.shut
  have I1:=S1.inv I B1
  have j1:=j.shut S1 I.b.fi
  obtain ⟨hd,hd0,I2⟩:=I1.open hf1 hsp ht
  have j2:=j1.take hf1 hp I1.h.cur B1.fi ht hd hd0 (by omega)
  obtain ⟨a1,a2,a3,a4⟩:=ih I2 j2
  exact ⟨a1,a2,a3.trans S1.idle.qu,a4.trans S1.idle.calls⟩
 | @move n K P v d K' P' tr _ _ _ hsp ha hv H _ ih =>
  intro I j
  obtain ⟨B1,S1,hf1,-⟩:=I.b.shut
  have I1:=S1.inv I B1
  have j1:=j.shut S1 I.b.fi
  have hst:(shK K).st v≠0:=by
   have m2:=(@bestOf_min (fun j=>((shK K).st j:Nat)) (fun j=>(lv (shK K).at_ j:Nat)) 12).2
   have hv':bestOf (fun j=>((shK K).st j:Nat)) (fun j=>(lv (shK K).at_ j:Nat)) 12=v:=hv
   rw [hv'] at m2
   have:=m2 (by omega)
   simp only [Int.toNat_natCast] at this
   omega
  have V:=vc_end I1 hst H
  have j2:JR c e v false (shK K) P:=⟨j1.calls,j1.cur,j1.free,fun b hb _ hl=>j1.hol b hb (by omega) hl,j1.fr⟩
  have j3:=j2.vac (m0:=0) I1 V he (fun y=>nomatch y)
  obtain ⟨a1,a2,a3,a4⟩:=ih (V.inv I1) j3
  exact ⟨a1,a2,(a3.trans V.idle.qu).trans S1.idle.qu,(a4.trans V.idle.calls).trans S1.idle.calls⟩
theorem JR.lays {c of:Nat} {e:Int} {h:Bool} {k:Cp} {m:Int} {K:KS} {P:CS} {D:KS→Int→Nat→Nat} {K1:KS} {P1:CS} {t1:List CS} (L:Lays of D K P K1 P1 t1) (hof:of<25) (I:Inv K P k m) (hm:m<1099511627775) (j:JR c e 12 h K P) (hq:K.qu=[]) (he:532≤e) (he2:e≤60000) (hc:c≤1000) :
  JR c (e+1) 12 true (lyK K1 of) (lyP K1 P1 of D)∧(lyK K1 of).qu=[]∧(of=24→(lyK K1 of).calls=0)∧(of≠24→(lyK K1 of).calls=K.calls)∧(lyK K1 of).fb=K1.fb∧(lyK K1 of).at_ of=K1.fb * 8+K1.fi+1∧K1.fi<8:=by
 obtain ⟨I1,j1,q1,c1⟩:=JR.opens L.op he I j.weak
 have E:=(lay_core I1 (of:=of) (by omega) L.room hm D).toLyCore
 obtain ⟨a1,a2,a3⟩:=j1.lay E L.room hof (q1.trans hq) he2 hc
 obtain ⟨ow,F,calls,he',-,hc1,-⟩:=E.eq
 have hr:=L.room
 unfold roomB at hr
 simp only [Bool.and_eq_true,decide_eq_true_eq] at hr
 refine ⟨a1,a2,a3,fun hn=>by rw [he'];exact (hc1 hn).trans c1,by rw [he'],?_,hr.2.1⟩
 rw [he']
 show updf K1.at_ of (K1.fb * 8+K1.fi+1) of=_
 exact if_pos rfl
structure JE (c:Nat) (K:KS) (P:CS):Prop where
 j:JR c 540 12 true K P
 qu:K.qu=[]
 calls:K.calls<8
theorem JE.did {c:Nat} (hc:c≤1000) {K:KS} {P:CS} {K':KS} {P':CS} (D:Did K P K' P') (J:JE c K P):JE c K' P':=by
 obtain ⟨I,hm,A,I1,T⟩:=D
 rename_i k k1 m K1 P1 tr
 have key:∀ {K1 P1},Act K P K1 P1→JR c 541 12 true K1 P1∧K1.qu=[]∧K1.calls<8:=fun {K1 P1} A=>by
  cases A with
  | idle=>exact ⟨J.j.mono (by omega),J.qu,J.calls⟩
  | @read o ho e0 =>
   have hp:=(I.l.page ho e0).1
   have hl:lv K.at_ ((K.at_ o - 1) / 8)≠0:=lv_pos.2 ⟨o,ho,e0,rfl⟩
   exact ⟨J.j.read hp (fun e=>hl (I.l.ok.led.dead (fun i hi=>I.b.bl _ i (by omega) e hi))) hl J.qu (by omega) hc,J.qu,J.calls⟩
  | @put s f K2 P2 t1 hs L =>
   obtain ⟨a1,a2,a3,a7,a4,a5,a6⟩:=JR.lays L (by omega) I (by omega) J.j J.qu (by omega) (by omega) hc
   exact ⟨a1,a2,by rw [a7 (by omega)];exact J.calls⟩
  | @trim s q K2 P2 t1 hs L =>
   obtain ⟨a1,a2,a3,a7,a4,a5,a6⟩:=JR.lays L (by omega) I (by omega) J.j J.qu (by omega) (by omega) hc
   refine ⟨a1.drop (fun _=>?_) hs,a2,?_⟩
   ·rw [a4,a5]
    omega
   ·show (lyK K2 24).calls<8
    rw [a3 rfl]
    omega
 obtain ⟨j1,q1,c1⟩:=key A
 have I8:=(I1.td 8).pop (tiredQ (tdK K1 8) [] 12)
 have j2:=j1.td I1.h.cur c1 I1.b.fi q1 (by omega) hc
 cases T with
 | quiet T1 _ _ h8 _ =>
  obtain ⟨I2,j3,q2⟩:=JR.tends T1 I8 (j2.mono (by omega))
  exact ⟨j3.mono (by omega),q2,h8⟩
 | note T1 _ _ _ L _ =>
  obtain ⟨I2,j3,q2⟩:=JR.tends T1 I8 (j2.mono (by omega))
  obtain ⟨a1,a2,a3,-⟩:=JR.lays L (by omega) I2 hm j3 q2 (by omega) (by omega) hc
  exact ⟨a1.mono (by omega),a2,by rw [a3 rfl];omega⟩
def NT (_:Nat) (K:KS) (P:CS):Prop:=K.cur % 8=0∧∃ kk:Cp,kk.told∧dataAt P (K.at_ 24 - 1)=ptN kk∧(∀ b,b<12→K.F (24+b)≤kk.reads b+1)∧kk.cur % 8=0
theorem NT.note {n:Nat} {K K':KS} {P:CS} {D:KS→Int→Nat→Nat} {kk:Cp} (E:LyCore 24 D K P) (hD:D (sqK K) K.next=ptN kk) (ht:kk.told) (hr:kk.reads=K.F) (hcu:kk.cur=K.cur) (h8:K.cur % 8=0) (hb:Hl.HB K.F) (e1:K'.F=(lyK K 24).F) (e2:K'.at_ 24=(lyK K 24).at_ 24) (e4:K'.cur=K.cur):NT n K' (lyP K P 24 D):=by
 obtain ⟨ow,F,calls,he,-⟩:=E.eq
 have hat:(lyK K 24).at_ 24=K.fb * 8+K.fi+1:=by
  rw [he]
  show updf K.at_ 24 (K.fb * 8+K.fi+1) 24=_
  exact if_pos rfl
 have hF:K'.F=Hl.ntF (Hl.rdF K.F ((K.fb * 8+K.fi) / 8)):=by
  rw [e1,lyK_F,if_pos rfl]
 refine ⟨by rw [e4];exact h8,kk,ht,?_,fun b hb'=>?_,by rw [hcu];omega⟩
 ·rw [e2,hat,Nat.add_sub_cancel]
  unfold dataAt
  rw [E.pg,hD]
  exact ptN_cut kk
 ·rw [hF,(ntF_rd _ hb').2,hr]
  have:=hb b hb'
  unfold Hl.rdF Hl.upd
  split
  ·rename_i e
   rw [← e]
   omega
  ·omega
theorem nt_stab:Stab NT where
 mono:=fun _ h=>h
 adm:=fun e1 _ _ e4 e5 _ h=>by
  obtain ⟨h0,kk,h4,h5,h6,h7⟩:=h
  exact ⟨by rw [e5];exact h0,kk,h4,by rw [e1];exact h5,fun b hb=>by rw [e4];exact h6 b hb,h7⟩
 rd:=fun {n K P p} hp h=>by
  obtain ⟨h0,kk,h4,h5,h6,h7⟩:=h
  exact ⟨h0,kk,h4,h5,fun b hb=>by
   show Hl.rdF K.F (p / 8) (24+b)≤_
   rw [rdF_wr _ (by omega)]
   exact h6 b hb,h7⟩
 pt:=fun {n K P} c0 c8 h=>by
  obtain ⟨h0,kk,h4,h5,h6,h7⟩:=h
  exact ⟨by show (K.cur+8) % 96 % 8=0;omega,kk,h4,h5,h6,h7⟩
 vac:=fun {n K P k m v d} I V h=>by
  obtain ⟨h0,kk,h4,h5,h6,h7⟩:=h
  have hv:=V.hyp.cp.hv
  have C:=V.hyp.cp
  have how:(vc1 K v d).F=K.F:=by
   show (vc0 K v).F=K.F
   unfold vc0
   by_cases hx:(if K.fo then (K.fb:Int) else -1)=v
   ·rw [if_pos hx]
    exact shK_F K
   ·rw [if_neg hx]
  have hhi:=cpTo_hi C.hd C.at96 C.hb C.calm (ofL (vc1 K v d).ow v) (fun o ho=>⟨by have:=(C.live o ho).1;omega,(C.live o ho).2.1⟩) (ofL_le _ _)
  have eF:=vcK_F K P v d
  have eS:vcS K P v d=cpTo (vc1 K v d) P d (ofL (vc1 K v d).ow v):=rfl
  rw [eS] at eF
  generalize cpTo (vc1 K v d) P d (ofL (vc1 K v d).ow v)=S at *
  refine ⟨by rw [V.idle.cur];exact h0,kk,h4,?_,fun b hb=>?_,h7⟩
  ·rw [V.il.ok.led.data, ← I.l.ok.led.data]
   exact h5
  ·rw [eF]
   have h9:=h6 b hb
   have h10:=h4.rd b hb
   unfold Hl.erF Hl.upd
   by_cases e:24+b=24+v
   ·rw [if_pos e]
    omega
   ·rw [if_neg e,if_neg (by omega),hhi _ (by omega),how]
    exact h9
 put:=fun {n K P k m s f} I E hs h=>by
  obtain ⟨h0,kk,h4,h5,h6,h7⟩:=h
  obtain ⟨ow,F,calls,he,-⟩:=E.eq
  have eF:=lyK_F K s
  rw [if_neg (by omega)] at eF
  have hlt:=E.lt
  have e1:(lyK K s).at_ 24=K.at_ 24:=by
   rw [he]
   show updf K.at_ s (K.fb * 8+K.fi+1) 24=_
   exact if_neg (by omega)
  have e3:(lyK K s).cur=K.cur:=by rw [he]
  have hne:K.at_ 24 - 1≠K.fb * 8+K.fi:=fun x=>by
   obtain ⟨_,t,D0,a2,_⟩:=I.l.page (o:=24) (by omega) I.l.ok.led.pt
   rw [x,E.blank] at a2
   cases a2
  refine ⟨by rw [e3];exact h0,kk,h4,?_,fun b hb=>?_,h7⟩
  ·rw [e1]
   unfold dataAt at h5 ⊢
   rw [E.ne _ hne]
   exact h5
  ·rw [eF,rdF_wr _ (by omega)]
   exact h6 b hb
 note:=fun {n K P k m} I E ht h=>by
  obtain ⟨ow,F,calls,he,-,-,hc2⟩:=E.eq
  exact NT.note E (kk:=stC (sqK K) K.next (-1)) rfl ht rfl rfl h.1 I.h.hb rfl rfl (by rw [he])
 trim:=fun {n K P k m s q} I E ht hs h=>by
  obtain ⟨ow,F,calls,he,-,-,hc2⟩:=E.eq
  refine NT.note E (kk:=trC (sqK K) s q K.next) rfl ht rfl rfl h.1 I.h.hb rfl ?_ ?_
  ·show updf (lyK K 24).at_ s 0 24=_
   exact if_neg (by omega)
  ·show (lyK K 24).cur=K.cur
   rw [he]
def R3 (c:Nat) (e:Int) (F rd:Nat→Int) (b:Nat):Prop:=0≤rd b∧rd b≤F b+256 * (c:Int)∧rd b≤e+256 * (c:Int)
theorem R3.hit {c b:Nat} {e:Int} {F rd:Nat→Int} (h:R3 c e F rd b) (he:e≤60000) (hc:c≤1000):R3 c (e+1) (Hl.rdF F b) (updf rd b (w64 (rd b+1))) b:=by
 obtain ⟨h1,h2,h3⟩:=h
 obtain ⟨h4,h5⟩:=Go.Proofs.YtaeikigfgfcadaaGreat.hit h1 h2 (by omega) hc
 unfold R3 Hl.rdF Hl.upd updf
 rw [if_pos rfl,if_pos rfl,h4]
 exact ⟨by omega,h5,by omega⟩
theorem R3.miss {c b x:Nat} {e:Int} {F rd:Nat→Int} (h:R3 c e F rd b) (hx:b≠x) (y:Int):R3 c e (Hl.rdF F x) (updf rd x y) b:=by
 unfold R3 Hl.rdF Hl.upd updf
 rw [if_neg hx,if_neg hx]
 exact h
theorem sn_step3 {c b j:Nat} {e:Int} {F:Nat→Int} {P:CS} (hj:j<12) (he:e+8≤60000) (hc:c≤1000) (h:R3 c e F (scP P (8 * j)).rd b):∀ i:Nat,i≤8→R3 c (e+if b=j then (i:Int) else 0) (rdN F j i) (scP P (8 * j+i)).rd b∧∀ x,12≤x→rdN F j i x=F x
 | 0,_=>by
  rw [rdN_zero]
  refine ⟨?_,fun x _=>rfl⟩
  rw [show (e+if b=j then ((0:Nat):Int) else 0)=e by split<;>omega]
  exact h
 | i+1,hi=>by
  obtain ⟨ih,ih2⟩:=sn_step3 hj he hc h i (by omega)
  rw [rdN_succ]
  have e':(scP P (8 * j+(i+1))).rd=updf (scP P (8 * j+i)).rd j (w64 ((scP P (8 * j+i)).rd j+1)):=by
   show ((scP P (8 * j+i)).readE (8 * j+i)).rd=_
   unfold CS.readE
   simp only
   rw [show (8 * j+i) / 8=j by omega]
  rw [e']
  refine ⟨?_,fun x hx=>?_⟩
  ·by_cases hb:b=j
   ·subst hb
    rw [if_pos rfl] at ih ⊢
    have:=ih.hit (by omega) hc
    rw [show e+((i+1:Nat):Int)=e+(i:Int)+1 by omega]
    exact this
   ·rw [if_neg hb] at ih ⊢
    exact ih.miss hb _
  ·unfold Hl.rdF Hl.upd
   rw [if_neg (by omega)]
   exact ih2 x hx
theorem sn_all3 {c b:Nat} {e:Int} {F:Nat→Int} {P:CS} (he:e+16≤60000) (hc:c≤1000) (h:R3 c e F P.rd b):∀ j,j≤12→R3 c (e+if b<j then 8 else 0) (snF F j) (scP P (8 * j)).rd b∧∀ x,12≤x→snF F j x=F x
 | 0,_=>by
  rw [snF_zero]
  refine ⟨?_,fun x _=>rfl⟩
  rw [if_neg (by omega),Int.add_zero]
  exact h
 | j+1,hj=>by
  obtain ⟨ih,ih2⟩:=sn_all3 he hc h j (by omega)
  rw [snF_succ]
  obtain ⟨x1,x2⟩:=sn_step3 (by omega) (by split<;>omega) hc ih 8 (Nat.le_refl _)
  refine ⟨?_,fun x hx=>(x2 x hx).trans (ih2 x hx)⟩
  rw [show (e+if b<j+1 then (8:Int) else 0)=(e+if b<j then (8:Int) else 0)+(if b=j then ((8:Nat):Int) else 0) by
   by_cases e1:b<j
   ·rw [if_pos e1,if_pos (by omega),if_neg (by omega)]
    omega
   ·by_cases e2:b=j
    ·rw [if_neg e1,if_pos (by omega),if_pos e2]
     omega
    ·rw [if_neg e1,if_neg (by omega),if_neg e2]
     omega]
  exact x1
theorem cl_out {K:KS} {P:CS} {b:Nat} (h0:K.st b≠0) (hb:b<12):∀ j,j≤12→(clK K j).F b=K.F b∧(clP K P j).rd b=P.rd b
 | 0,_=>⟨rfl,rfl⟩
 | j+1,hj=>by
  obtain ⟨i1,i2⟩:=cl_out (P:=P) h0 hb j (by omega)
  rw [clK_succ,clP_succ]
  by_cases e:K.st j=0
  ·have hn:b≠j:=fun x=>h0 (by rw [x];exact e)
   rw [if_pos e,if_pos e]
   refine ⟨?_,?_⟩
   ·show Hl.erF (clK K j).F j b=_
    unfold Hl.erF Hl.upd
    rw [if_neg (by omega),if_neg hn]
    exact i1
   ·show updf (clP K P j).rd j 0 b=_
    unfold updf
    rw [if_neg hn]
    exact i2
  ·rw [if_neg e,if_neg e]
   exact ⟨i1,i2⟩
theorem cl_in {K:KS} {P:CS} {b:Nat} (h0:K.st b=0):∀ j,b<j→(clP K P j).rd b=0
 | 0,h=>by omega
 | j+1,h=>by
  rw [clP_succ]
  by_cases hb:b=j
  ·subst hb
   rw [if_pos h0]
   exact if_pos rfl
  ·have:=cl_in (P:=P) h0 j (by omega)
   split
   ·show updf (clP K P j).rd j 0 b=0
    unfold updf
    rw [if_neg hb]
    exact this
   ·exact this
theorem cl_wr {K:KS} {b:Nat} {x:Int} (hb:b<12) (hx:0≤x) (h:K.F (24+b)≤x):∀ j,j≤12→(clK K j).F (24+b)≤x
 | 0,_=>h
 | j+1,hj=>by
  have:=cl_wr hb hx h j (by omega)
  rw [clK_succ]
  split
  ·show Hl.erF (clK K j).F j (24+b)≤x
   unfold Hl.erF Hl.upd
   by_cases e:b=j
   ·rw [if_pos (by omega)]
    exact hx
   ·rw [if_neg (by omega),if_neg (by omega)]
    exact this
  ·exact this
theorem mtK_fo (k:Cp) (L:List Fd):(mtK k L).fo=false:=by
 have h1:∀ i,(n1K k L i).fo=false:=fun i=>by
  induction i with
  | zero=>rfl
  | succ i ih =>
   rw [n1K_succ]
   split
   ·exact ih
   ·exact ih
 obtain ⟨st,h⟩:=n2K_same (n1K k L 25) 12
 show (nwK k L).fo=_
 unfold nwK
 rw [h]
 exact h1 25
theorem mount_je {c n:Nat} {K:KS} {P:CS} {k:Cp} {m:Int} (I:Inv K P k m) (hm:m≤1099511627775) (J:JE c K P) (h:NT n K P) (hc:c+1≤1000) (hdue:Hl.dueB K.F=false):∃ K' P' tr,Mounts P K' P' tr∧Inv K' P' k m∧K'.qu=[]∧K'.calls=0∧JE (c+1) K' P'∧NT n K' P'∧∀ a,Shows P K.at_ a→Shows P' K'.at_ a:=by
 obtain ⟨h0,kk,g4,g5,g6,g7⟩:=h
 obtain ⟨K',P',tr,M,I',q,⟨a1,a2,a3,a4,a5,a6,a7,a8⟩,s⟩:=mount_endC I.l.ok hm
 have ht:=I.l.ok.led.told
 obtain ⟨e1,e2⟩:=cp_same2 g4 ht (g5.symm.trans I.l.ok.led.data)
 have hdue2:∀ b,b<12→K.F b - K.F (24+b)<64:=fun b hb=>by
  unfold Hl.dueB at hdue
  rw [List.any_eq_false] at hdue
  have:=hdue b (List.mem_range.2 hb)
  simp only [decide_eq_true_eq] at this
  omega
 obtain ⟨Fc,hcs⟩:=clK_same (mtK k (fdsTo P 96)) 12
 have hst:K'.st=(mtK k (fdsTo P 96)).st:=by rw [a1,hcs]
 have hfo:K'.fo=false:=by rw [a1,hcs];exact mtK_fo _ _
 have hcu:=ht.cur
 have hK'cur:((K'.cur:Nat):Int)=k.cur:=by
  rw [a7]
  omega
 have hcur8:K'.cur % 8=0:=by
  rw [e1] at g7
  omega
 have hcong:∀ b,lv K'.at_ b=lv K.at_ b:=fun b=>lv_congr a3
 have hF0:∀ b,b<12→Hl.newF (rdsF k) (scsF k) b=k.reads b∧Hl.newF (rdsF k) (scsF k) (24+b)=k.reads b:=fun b hb=>by
  have hr:=ht.rd b hb
  unfold Hl.newF rdsF
  refine ⟨?_,?_⟩
  ·rw [if_pos hb,if_pos hb]
   omega
  ·rw [if_neg (by omega),if_neg (by omega),show 24+b - 24=b by omega,if_pos hb]
   omega
 have hwr:∀ b,b<12→K'.F (24+b)≤k.reads b:=fun b hb=>by
  rw [a1]
  refine cl_wr hb (ht.rd b hb).1 ?_ 12 (Nat.le_refl _)
  rw [mtK_F]
  have h4:=(sn_all (c:=0) (n:=0) (b:=12) (F:=Hl.newF (rdsF k) (scsF k)) (P:=CS.zero) (by omega) ⟨Int.le_refl 0,(by
   show (0:Int)≤Hl.newF (rdsF k) (scsF k) 12+256 * ((0:Nat):Int)
   unfold Hl.newF
   rw [if_neg (by omega),if_pos (by omega)]
   unfold scsF
   rw [if_pos (by omega)]
   have:=(ht.sc (12 - 12) (by omega)).1
   omega),Int.le_refl 0⟩ 12 (Nat.le_refl _)).2 (24+b) (by omega)
  rw [h4,(hF0 b hb).2]
  exact Int.le_refl _
 have key:∀ b,b<12→lv K.at_ b≠0→Kn (c+1) K' P' b∧P'.rd b≤540+256 * ((c+1:Nat):Int):=fun b hb hl=>by
  obtain ⟨⟨x1,x2⟩,x3⟩:=J.j.hol b hb (by omega) hl
  have x3:P.rd b≤540+256 * (c:Int):=by
   rw [J.qu] at x3
   exact x3.elim (fun y=>y) (fun y=>nomatch y)
  have hr:=ht.rd b hb
  have x4:=g6 b hb
  have x5:=hdue2 b hb
  have x6:=e2 b hb
  have h0:R3 (c+1) 284 (Hl.newF (rdsF k) (scsF k)) P.rd b:=by
   refine ⟨x1,?_,?_⟩
   ·rw [(hF0 b hb).1]
    push_cast
    omega
   ·push_cast
    omega
  obtain ⟨y1,-⟩:=sn_all3 (by omega) hc h0 12 (Nat.le_refl _)
  rw [if_pos hb] at y1
  rw [← mtK_F] at y1
  have hs0:(mtK k (fdsTo P 96)).st b≠0:=fun e=>by
   rw [← hst] at e
   have:=I'.l.ok.led.dead (fun i hi=>I'.b.bl b i hb e hi)
   rw [hcong] at this
   exact hl this
  obtain ⟨z1,z2⟩:=cl_out (P:=scP P 96) hs0 hb 12 (Nat.le_refl _)
  unfold Kn
  rw [a1,a2,z1,z2]
  obtain ⟨y2,y3,y4⟩:=y1
  exact ⟨⟨y2,y3⟩,by have y4:(scP P 96).rd b≤284+8+256 * ((c+1:Nat):Int):=y4;omega⟩
 refine ⟨K',P',tr,M,I',q,a6,⟨⟨by rw [a6];omega,hcur8,fun b hb hz=>?_,fun b hb _ hl=>?_,fun hf=>by rw [hfo] at hf;cases hf⟩,q,by rw [a6];omega⟩,⟨hcur8,k,ht,?_,fun b hb=>by have:=hwr b hb;omega,by rw [← hK'cur];omega⟩,fun a hs=>(s a hs).2⟩
 ·have hz2:(mtK k (fdsTo P 96)).st b=0:=by rw [← hst];exact hz
  have hrd:P'.rd b=0:=by
   rw [a2]
   exact cl_in hz2 12 hb
  unfold Kn
  rw [hrd]
  have h1:=(I'.h.hb b hb).1
  have h2:=(fr8_le I'.b.fi).1
  refine ⟨⟨Int.le_refl 0,by omega⟩,?_⟩
  unfold ph
  rw [a6]
  omega
 ·rw [hcong] at hl
  obtain ⟨y1,y2⟩:=key b hb hl
  exact ⟨y1,.inl y2⟩
 ·rw [a3 24 (by omega)]
  exact a8.led.data
theorem first_je {K:KS} {P:CS} (h:FirstAt CS.zero K P):JE 0 K P∧NT 0 K P:=by
 obtain ⟨K1,rfl,rfl,E,ht,hb,hF,hst,hcu,hqu⟩:=h
 have hw:=cl_wiped (P:=scP CS.zero 96) hst 12 (Nat.le_refl _)
 have eF:=lyK_F K1 24
 rw [if_pos rfl] at eF
 have eR:=lyP_rd K1 (clP (mtK Cp.zero []) (scP CS.zero 96) 12) 24 noteD
 have hin:=E.b
 obtain ⟨ow,F,calls,he,-,-,hc2⟩:=E.eq
 have hnt:NT 0 (lyK K1 24) (lyP K1 (clP (mtK Cp.zero []) (scP CS.zero 96) 12) 24 noteD):=NT.note E (kk:=stC (sqK K1) K1.next (-1)) rfl ht rfl rfl (by rw [hcu]) hb rfl rfl (by rw [he])
 have hk:∀ b,b<12→Kn 0 (lyK K1 24) (lyP K1 (clP (mtK Cp.zero []) (scP CS.zero 96) 12) 24 noteD) b∧(lyP K1 (clP (mtK Cp.zero []) (scP CS.zero 96) 12) 24 noteD).rd b≤1:=fun b hb'=>by
  obtain ⟨x1,x2⟩:=hw b hb'
  unfold Kn
  rw [eF,eR,(ntF_rd _ hb').1]
  unfold Hl.rdF Hl.upd updf
  by_cases e:b=(K1.fb * 8+K1.fi) / 8
  ·rw [if_pos e,if_pos e, ← e,hF,x1,x2,w64_id (by omega) (by omega)]
   omega
  ·rw [if_neg e,if_neg e,hF,x1,x2]
   omega
 have hfi:=hin.fi
 have hfb:=hin.fb
 refine ⟨⟨⟨?_,?_,fun b hb' h0=>⟨(hk b hb').1,?_⟩,fun b hb' _ _=>⟨(hk b hb').1,.inl (by have:=(hk b hb').2;omega)⟩,fun hf=>.inl ?_⟩,by rw [he];exact hqu,?_⟩,hnt⟩
 ·rw [he]
  have:=hc2 rfl
  show 0≤calls∧calls≤8
  omega
 ·rw [he]
  show K1.cur % 8=0
  rw [hcu]
 ·have h1:=(hk b hb').2
  have h2:8≤fr8 (lyK K1 24):=by
   rw [he]
   unfold fr8
   simp only
   split<;>omega
  have h3:(lyK K1 24).calls=0:=by
   rw [he]
   exact hc2 rfl
  unfold ph
  rw [h3]
  omega
 ·rw [he] at hfi hfb ⊢
  have hfi:K1.fi+1≤8:=hfi
  exact lv_pos.2 ⟨24,by omega,by show updf K1.at_ 24 (K1.fb * 8+K1.fi+1) 24≠0;unfold updf;rw [if_pos rfl];omega,by show (updf K1.at_ 24 (K1.fb * 8+K1.fi+1) 24 - 1) / 8=K1.fb;unfold updf;rw [if_pos rfl];omega⟩
 ·rw [he]
  show calls<8
  rw [hc2 rfl]
  omega
theorem did_due {K:KS} {P:CS} {K':KS} {P':CS} (D:Did K P K' P'):Hl.dueB K'.F=false:=by
 obtain ⟨I,hm,A,I1,T⟩:=D
 cases T with
 | quiet _ _ _ _ h=>exact h
 | note _ _ _ _ _ _ =>
  rw [lyK_F,if_pos rfl]
  exact due_nt _
theorem JE.few {c:Nat} {K:KS} {P:CS} (J:JE c K P) {o:Nat} (ho:o<25) (h0:K.at_ o≠0) (h9:K.at_ o≤96):0≤P.rd ((K.at_ o - 1) / 8)∧P.rd ((K.at_ o - 1) / 8)≤576+256 * (c:Int):=by
 obtain ⟨h1,h2⟩:=J.j.hol _ (by omega) (by omega) (lv_pos.2 ⟨o,ho,h0,rfl⟩)
 rw [J.qu] at h2
 have h3:P.rd ((K.at_ o - 1) / 8)≤540+256 * (c:Int):=h2.elim (fun y=>y) (fun y=>nomatch y)
 exact ⟨h1.1,by omega⟩
section
variable {w w':World} {own:List Nat} {d ch:Nat} {K:KS} {P:CS} {b:Option Nat}
theorem DvOn.chip (D:DvOn w own d ch K P b):∃ C,ChipAt w ch C∧Abs C P∧C.left b:=by
 obtain ⟨N,X,c,n,e,r,h,eC,hq⟩:=D
 obtain ⟨C,M,hA,hl⟩:=h.med
 exact ⟨C,by rw [← eC];exact M.chip,hA,hl⟩
def ChTl (w:World) (ch:Nat) (m:Int) (a:Nat→Nat→Nat):Prop:=∃ C P,ChipAt w ch C∧Abs C P∧Tl P m a
theorem ChTl.keep {m:Int} {a:Nat→Nat→Nat} {S:List Nat} (h:ChTl w ch m a) (k:Keep S w w') (hc:ch∉S):ChTl w' ch m a:=by
 obtain ⟨C,P,H,hA,hT⟩:=h
 exact ⟨C,P,H.keep k hc,hA,hT⟩
theorem Inv.tl {k:Cp} {m:Int} {a:Nat→Nat→Nat} (I:Inv K P k m) (hs:Shows P K.at_ a):Tl P m a:=⟨k,K.at_,I.l.ok,hs⟩
theorem DvOn.tl {k:Cp} {m:Int} {a:Nat→Nat→Nat} (D:DvOn w own d ch K P b) (I:Inv K P k m) (hs:Shows P K.at_ a):ChTl w ch m a:=by
 obtain ⟨C,H,hA,hl⟩:=D.chip
 exact ⟨C,P,H,hA,I.tl hs⟩
theorem DvOff.tl {Q:CS} {m:Int} {a:Nat→Nat→Nat} (D:DvOff w d ch Q) (h:Tl Q m a):ChTl w ch m a:=by
 obtain ⟨r,C,H,hD⟩:=D
 exact ⟨C,Q,H,hD.2,h⟩
end
def inF (L:List Int) (q:Nat):Value:=.int .i64 (L.getD q 0)
theorem lst_mem {L:List Int} {i:Nat} (h:i<L.length):L.getD i 0∈L:=by
 rw [List.getD_eq_getElem?_getD,List.getElem?_eq_getElem h]
 exact List.getElem_mem h
theorem rd_far {w0 w1 w2:World} {A:Option Addr} {n:Nat} {f:Nat→Value} {S:List Nat} (h0:Rd w0 A n f) (h:Rd w1 A n f) (k:Keep S w1 w2) (hS:∀ x,x∈S→w0.heap.size≤x):Rd w2 A n f:=fun hn=>by
 obtain ⟨g,o,rfl,hc⟩:=h0 hn
 have h9:g<w0.heap.size:=cell_lt (hc 0 hn)
 exact h.keep k (fun a e hm=>by
  cases e
  have:=hS _ hm
  simp only at this
  omega) hn
theorem Shows.eq {P:CS} {L:Nat→Nat} {a a':Nat→Nat} (h:Shows P L (arB a')) (e:∀ o j,o<24→j<160→byF (a' o) j=byF (a o) j):Shows P L (arB a):=fun o j ho hj=>(h o j ho hj).trans (e o j ho hj)
theorem CallEnd.dead {K:KS} {P:CS} {m:Int} {a a':Nat→Nat} {K':KS} {P':CS} {k':Cp} {t1 t2:List CS} (h:CallEnd K P m (arB a) (arB a') K' P' k' t1 t2) {Q:CS} (hQ:Q∈t1 ++ t2):∃ aa,(aa=a∨aa=a')∧Tl Q (m+2) (arB aa):=by
 rcases List.mem_append.1 hQ with hQ | hQ
 ·exact ⟨a,.inl rfl,h.t1 Q hQ⟩
 ·exact ⟨a',.inr rfl,h.t2 Q hQ⟩
end Go.Proofs.YtaeikigfgfcadaaGreat
