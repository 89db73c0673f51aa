/- Texts behind one another: Scan, NewestM, Clean, Mount, Dev, DevM, Call, Pl10, Pl11, Pl12, Top1, Top2, Top3, Top4, Top5, SeqsM, Top6, View, Bulk, Structs, BulkS, TopArg. -/
import Derived.Deep.CondSized
import Derived.Deep.Slices
import Derived.Deep.Fields
import Derived.ChangeSame
import Derived.OpenShut
import Derived.Test.YtaeikigfgfcadaaGreatMq0a
import Derived.Test.YtaeikigfgfcadaaGreatMq0b
import Derived.Test.YtaeikigfgfcadaaGreatMq0c
import Derived.Test.YtaeikigfgfcadaaGreatMq0d
import Derived.Test.YtaeikigfgfcadaaGreatMq0e
set_option linter.unusedVariables false
set_option linter.unusedSimpArgs false
set_option linter.unnecessarySimpa false
namespace Go.Proofs.YtaeikigfgfcadaaGreat
open Go.RowKit
set_option maxRecDepth 20000
theorem mpFind_snoc {q p:Nat} {v:Value}:∀ {ps:List (Nat × Value)},mpFind q (ps ++ [(p,v)])=match mpFind q ps with | some x=>some x | none=>if p=q then some v else none
 | []=>rfl
 | x :: ps=>by
  have ih:=@mpFind_snoc q p v ps
  rw [List.cons_append]
  unfold mpFind
  by_cases h:x.1=q
  ·rw [if_pos h,if_pos h]
  ·rw [if_neg h,if_neg h]
   exact ih
def fdOf (p:Nat) (t:Tg):Fd:=⟨(p:Int),t.place,t.of,t.seq,t.copy,t.lost⟩
def fdsTo (P:CS):Nat→List Fd
 | 0=>[]
 | p+1=>match P.pg p with
  | .full t D=>fdsTo P p ++ [fdOf p t]
  | _=>fdsTo P p
theorem fdsTo_zero (P:CS):fdsTo P 0=[]:=rfl
theorem fdsTo_full {P:CS} {p:Nat} {t:Tg} {D:Nat→Nat} (h:P.pg p = .full t D):fdsTo P (p+1)=fdsTo P p ++ [fdOf p t]:=by
 show (match P.pg p with | .full t D=>fdsTo P p ++ [fdOf p t] | _=>fdsTo P p)=_
 rw [h]
theorem fdsTo_not {P:CS} {p:Nat} (h:∀ t D,P.pg p≠.full t D):fdsTo P (p+1)=fdsTo P p:=by
 show (match P.pg p with | .full t D=>fdsTo P p ++ [fdOf p t] | _=>fdsTo P p)=_
 cases e:P.pg p with
 | full t D=>exact absurd e (h t D)
 | blank=>rfl
 | torn n=>rfl
theorem fdsTo_len (P:CS):∀ n,(fdsTo P n).length≤n
 | 0=>Nat.le_refl _
 | n+1=>by
  have:=fdsTo_len P n
  by_cases h:∃ t D,P.pg n = .full t D
  ·obtain ⟨t,D,h⟩:=h
   rw [fdsTo_full h]
   simp
   omega
  ·rw [fdsTo_not (fun t D e=>h ⟨t,D,e⟩)]
   omega
def scP (P:CS):Nat→CS
 | 0=>P
 | i+1=>(scP P i).readE i
theorem scP_zero (P:CS):scP P 0=P:=rfl
theorem scP_succ (P:CS) (i:Nat):scP P (i+1)=(scP P i).readE i:=rfl
theorem scP_pg (P:CS):∀ i,(scP P i).pg=P.pg∧(scP P i).dm=P.dm
 | 0=>⟨rfl,rfl⟩
 | i+1=>scP_pg P i
theorem scP_calm {P:CS} (h:P.calm):∀ i,(scP P i).calm
 | 0=>h
 | i+1=>CS.readE_calm (scP_calm h i) i
structure PsOk (P:CS) (w:World) (r:Nat) (ps:List (Nat × Value)) (n:Nat):Prop where
 no:∀ q,n≤q→mpFind q ps=none
 yes:∀ q t D,q<n→P.pg q = .full t D→t.of=24→∃ O oc D',mpFind q ps=some (.slice O 174 oc)∧(∀ x,x∈blk O→r<x)∧cutD D'=D∧Ly w 5 1 O 174 oc (fun j=>.int .u8 (D' j:Nat))
theorem PsOk.keep {P:CS} {w w':World} {r:Nat} {ps:List (Nat × Value)} {n:Nat} {S:List Nat} (h:PsOk P w r ps n) (k:Keep S w w') (hS:∀ x,x∈S→x≤r∨∀ O oc f,Ly w 5 1 O 174 oc f→x∉blk O):PsOk P w' r ps n :=
 ⟨h.no,fun q t D hq e ht=>by
  obtain ⟨O,oc,D',a1,a2,a3,a4⟩:=h.yes q t D hq e ht
  refine ⟨O,oc,D',a1,a2,a3,a4.keep k (fun x hx hm=>?_)⟩
  rcases hS x hm with h | h
  ·have:=a2 x hx
   omega
  ·exact h O oc _ a4 hx⟩
theorem build_found (p:Nat) (t:Tg) (w:World):(Instr.build 69 #[(0,.int .i64 (p:Nat)),(1,.agg t.arr)]).run Tryz.prog w = .ok (.agg (fdOf p t).arr) w:=by kernel_rfl
attribute [local irreducible] fdsTo scP
set_option maxHeartbeats 8000000 in
theorem scan_ok {w:World} {C:Chip} {ch:Nat} {P:CS} {b:Option Nat} (H:ChipAt w ch C) (hA:Abs C P) (hl:C.left b) :
  Spec Tryz.prog 74 #[.pointer (some ⟨ch,0,none⟩)] w fun v w'=>∃ A cA r ps C',v = .tuple #[.slice A (fdsTo P 96).length cA,.map (some r),errOf 0]∧(fdsTo P 96=[]→A=none∧cA=0)∧Ly w' 69 6 A (fdsTo P 96).length cA (fdF (fdsTo P 96))∧MpAt w' r ps∧PsOk P w' r ps 96 ∧
   ChipAt w' ch C'∧Abs C' (scP P 96)∧C'.left b∧Keep [ch] w w':=by
 obtain ⟨i0,hi0,hz0,hz1,hz2⟩:=info_parts found_info
 refine spec_of_wpE (T:=tt) tt_ok Tryz.func74 rfl (by decide +kernel) Tryz.ntmps74 (by simp) ?_
 conv=>whnf
 refine Ca.of (mnew_ok w ch C H) ?_
 rintro _ w1 ⟨m,f,cd,g,hh,hmw,hfw,hcw,hgw,hhw,rfl,M1,k1⟩
 obtain ⟨N,hN⟩:∃ N:Pt,(⟨m,ch,f,cd,g,hh⟩:Pt)=N:=⟨_,rfl⟩
 have M1n:MedAt w1 N C 0:=by rw [← hN];exact M1
 have hMl:=M1n.lt
 have em:m=N.m:=by rw [← hN]
 have ec:N.c=ch:=by rw [← hN]
 have eg:w.heap.size≤N.g:=by rw [← hN];exact hgw
 subst em
 have MA:MedA w1 N P b 0:=⟨C,M1n,hA,hl⟩
 conv=>whnf
 refine Ru.of (mp_make w1) ?_
 have rm:MpAt (w1.alloc (.map #[] 0)) w1.heap.size []:=⟨#[],0,heap_alloc_new w1 _,rfl⟩
 have k2:Keep [] w1 (w1.alloc (.map #[] 0)):=(Keep.refl _ _).alloc _
 have MA2:=MA.keep0 k2
 have hrw:w.heap.size≤w1.heap.size:=k1.size
 have kk2:=(k1.trans k2).mono (T:=[ch]) (by simp)
 clear M1 M1n MA k1 k2 hfw hcw hhw hgw hN
 generalize w1.alloc (.map #[] 0)=w2 at *
 generalize w1.heap.size=r at *
 conv=>whnf
 repeat ((first
  | refine CW.s ?_);conv=>whnf)
 refine CW.loop (ι:=Nat × Option Addr × Nat × List (Nat × Value) × Int) (fun i w'=>i.1≤96∧MedA w' N (scP P i.1) b i.2.2.2.2∧Ly w' 69 6 i.2.1 (fdsTo P i.1).length i.2.2.1 (fdF (fdsTo P i.1))∧(∀ x,x∈blk i.2.1→r<x)∧(fdsTo P i.1=[]→i.2.1=none∧i.2.2.1=0)∧MpAt w' r i.2.2.2.1∧PsOk P w' r i.2.2.2.1 i.1∧Keep [ch] w w')
  (fun i=>[(5,.pointer (some ⟨N.m,0,none⟩)),(6,.slice i.2.1 (fdsTo P i.1).length i.2.2.1),(7,.map (some r)),(14,.int .i64 i.1)]) (fun i=>96 - i.1) (0,none,0,[],0) tt_ok
  ⟨by omega,by rw [scP_zero];exact MA2,by rw [fdsTo_zero];exact Ly.nil _ _ _ _,(fun _ h=>nomatch h),fun _=>⟨rfl,rfl⟩,rm,⟨fun _ _=>rfl,fun q t D hq=>by omega⟩,kk2⟩ ⟨rfl,by rw [fdsTo_zero];rfl,rfl,rfl,trivial⟩ ?_
 clear MA2 rm kk2
 rintro ⟨i,Z,cz,ps,n⟩ wr ⟨hi,MA,ly,hZ,hnil,rm,hps,kk⟩
 simp only at hi MA ly hZ hnil rm hps kk ⊢
 rcases Nat.lt_or_ge i 96 with hlt | hge
 ·have hpg:=(scP_pg P i).1
  have kl:∀ {wa wb:World},Keep N.l wa wb→Keep [ch] w wa→Keep [ch] w wb:=fun k' kw=>kw.then k' (fun x hx=>by
   simp only [Pt.l,List.mem_cons,List.not_mem_nil,or_false] at hx
   rcases hx with rfl | rfl | rfl
   ·exact .inr hmw
   ·exact .inl (List.mem_singleton.2 ec)
   ·exact .inr eg)
  have hps0:∀ {wa wb:World},Keep N.l wa wb→PsOk P wa r ps i→PsOk P wb r ps i:=fun k' hp=>hp.keep k' (fun x hx=>by
   simp only [Pt.l,List.mem_cons,List.not_mem_nil,or_false] at hx
   left
   rcases hx with rfl | rfl | rfl<;>omega)
  have hrl:r∉N.l:=fun hm=>by
   simp only [Pt.l,List.mem_cons,List.not_mem_nil,or_false] at hm
   rcases hm with h | h | h<;>omega
  conv=>whnf
  repeat ((first
   | refine Br.y ?_|refine CW.s ?_);conv=>whnf)
  refine Ca.of (aread_ok MA hlt) ?_
  rintro _ w3 ⟨k3,R,dv,hR,hdv,rfl,MA3⟩
  have kk3:=kl k3 kk
  have rm3:=rm.keep k3 hrl
  have hps3:=hps0 k3 hps
  have ly3:=ly.keep k3 (fun x hx hm=>by
   have:=hZ x hx
   simp only [Pt.l,List.mem_cons,List.not_mem_nil,or_false] at hm
   rcases hm with h | h | h<;>omega)
  have hrwr:=rm.lt
  clear MA ly rm hps kk
  conv=>whnf
  refine Ru.alloca (alloc_page w3) ?_
  intro x9 w4 hx9 hs4 r9 k4
  conv=>whnf
  refine Ru.stpage r9 (pgc_one' R hdv _) ?_
  intro w5 r95 k5
  have q5:Keep [] w3 w5:=k4.then k5 (fun x hx=>.inr (by rw [List.mem_singleton.1 hx,hx9];exact Nat.le_refl _))
  have MA5:=MA3.keep0 q5
  have rm5:=rm3.keep q5 (by simp)
  have hps5:=hps3.keep q5 (by simp)
  have ly5:=ly3.keep0 q5
  have kk5:=kk3.trans (q5.mono (by simp))
  have hdv5:=hdv.keep q5 (by simp)
  have hs3:=k3.size
  clear MA3 rm3 hps3 ly3 kk3 k4 k5 r9 hs4 k3
  have c0:w5.cell? ⟨x9,0,none⟩=some (.bool R.tagged):=r95.cell 0 (by omega)
  unfold PgRead at hR
  rw [hpg] at hR
  rw [← scP_succ] at MA5
  by_cases hfull:∃ t D,P.pg i = .full t D
  ·obtain ⟨t,D,hp⟩:=hfull
   rw [hp] at hR
   obtain ⟨hR1,rfl,hR3,hR4,hR5⟩:=hR
   rw [hR1] at c0
   have efd:=fdsTo_full hp
   have hlen:=fdsTo_len P i
   conv=>whnf
   repeat ((first
    | (refine Ld.at (by omega) c0 ?_)
    | refine Br.f ?_|refine Ru.neq_nil0 ?_|refine CW.s ?_);conv=>whnf)
   refine Ru.ldaC (q:=R.tag.cell) r95 Tryz.underlying67 rfl (by kernel_rfl:(Tryz.prog.info? 67).map (·.size)=some 5) (by omega) (fun j hj=>by
    unfold pgc
    rw [if_neg (by omega),if_pos (by omega),show 0+1+j - 1=j by omega]) ?_
   rw [show agg 5 R.tag.cell = .agg R.tag.arr by unfold agg;rw [tg_range]]
   conv=>whnf
   refine Ru.of (build_found i R.tag w5) ?_
   conv=>whnf
   refine Ru.buildfd (fdOf i R.tag) ?_
   intro x34 w6 hx34 hs6 r34 k6
   conv=>whnf
   refine Bu.append Tryz.underlying64 hi0 hz0 hz1 hz2 rfl (by omega) (ly5.keep0 k6) _ (Rd.of_row r34 (n:=1 * 6) (by omega)) (by omega) (by simp) (fun j hj=>fd_one_cell _ j hj) (by simp only [maxLen];omega) (by omega) ?_
   intro Y cY w7 hy k7 hat hpre
   have ly6:=ly5.keep0 k6
   have MA7:MedA w7 N (scP P (i+1)) b _:=(MA5.keep0 k6).keep k7 ⟨fun h=>by have:=hZ _ h;omega,fun h=>by have:=hZ _ h;omega,fun h=>by have:=hZ _ h;omega,fun h=>by have:=hZ _ h;omega,fun h=>by have:=hZ _ h;omega,fun h=>by have:=hZ _ h;omega⟩
   have rm7:=(rm5.keep k6 (by simp)).keep k7 (fun h=>by have:=hZ _ h;omega)
   have hps7:=(hps5.keep k6 (by simp)).keep k7 (fun x hx=>.inr (fun O oc f lO=>ly6.type_ne lO (by decide) hx))
   have r97:=(r95.keep k6 (by simp)).keep k7 (ly6.row_ne (r95.keep k6 (by simp)) (by decide))
   have kk7:=(kk5.trans (k6.mono (by simp))).then k7 (fun x hx=>.inr (by have:=hZ x hx;omega))
   have hY:∀ x,x∈blk Y→r<x:=fun x hx=>by
    rcases hat with e | e
    ·rw [e] at hx
     exact hZ x hx
    ·rw [e] at hx
     have hxx:x=w6.heap.size:=List.mem_singleton.1 hx
     have:=k6.size
     have:=q5.size
     omega
   have lyY:Ly w7 69 6 Y (fdsTo P (i+1)).length cY (fdF (fdsTo P (i+1))):=by
    rw [efd,List.length_append,List.length_singleton]
    exact hy.congr (fun j hj=>by rw [fdF_snoc _ _ j hj])
   have hne:fdsTo P (i+1)≠[]:=by rw [efd];simp
   have hlY:(Value.slice Y ((fdsTo P i).length+1) cY) = .slice Y (fdsTo P (i+1)).length cY:=by rw [efd];simp
   have hdv7:∀ O oc,dv = .slice O 174 oc→Ly w5 5 1 O 174 oc (fun j=>.int .u8 (R.data j:Nat))→Ly w7 5 1 O 174 oc (fun j=>.int .u8 (R.data j:Nat)):=fun O oc e l=>(l.keep0 k6).keep k7 (fun x hx hm=>ly6.type_ne (l.keep0 k6) (by decide) hm hx)
   clear MA5 rm5 r95 kk5 ly5 hat hpre r34
   have c2:w7.cell? ⟨x9,2,none⟩=some (.int .i64 R.tag.of):=r97.cell 2 (by omega)
   have c6:w7.cell? ⟨x9,6,none⟩=some (.bool R.sound):=r97.cell 6 (by omega)
   have c7:w7.cell? ⟨x9,7,none⟩=some dv:=r97.cell 7 (by omega)
   rw [hR3] at c6
   rcases hdv5 with ⟨-,O,oc,rfl,hO,lyO⟩ | ⟨hs,-⟩
   case inr=>rw [hR3] at hs;cases hs
   by_cases ht:R.tag.of=24
   ·conv=>whnf
    repeat ((first
     | (refine Ld.at (by omega) c2 ?_)
     | (refine Ld.at (by omega) c6 ?_)
     | (refine Ld.at (by omega) c7 ?_)
     | refine Br.t ?_|refine Pk.t ?_|refine Br.y ?_);conv=>whnf)
    have hno:=hps7.no i (Nat.le_refl _)
    have hOr:∀ x,x∈blk O→r<x:=fun x hx=>by
     have:=hO x hx
     omega
    have lyO7:Ly w7 5 1 O 174 oc (fun j=>.int .u8 (R.data j:Nat)):=hdv7 O oc rfl lyO
    refine mp_put rm7 hno ?_
    intro w8 rm8 k8
    conv=>whnf
    repeat ((first
     | refine Ar.la ?_);conv=>whnf)
    refine ⟨(i+1,Y,cY,ps ++ [(i,.slice O 174 oc)],_),⟨hlt,MA7.keep k8 (by simp;omega),lyY.keep k8 (fun x hx hm=>by have:=hY x hx;rw [List.mem_singleton.1 hm] at this;omega),hY,fun h=>absurd h hne,rm8,⟨fun q hq=>?_,fun q t D hq e ht'=>?_⟩,kk7.then k8 (fun x hx=>.inr (by rw [List.mem_singleton.1 hx];exact hrw))⟩,⟨rfl,hlY,rfl,vi (by simp only;omega),trivial⟩,by simp only;omega⟩
    ·rw [mpFind_snoc,hps7.no q (by omega)]
     simp only
     rw [if_neg (by omega)]
    ·by_cases hqi:q=i
     ·subst hqi
      rw [hp] at e
      cases e
      refine ⟨O,oc,R.data,?_,hOr,hR4,lyO7.keep k8 (fun x hx hm=>by have:=hOr x hx;rw [List.mem_singleton.1 hm] at this;omega)⟩
      rw [mpFind_snoc,hno]
      simp
     ·obtain ⟨O',oc',D',a1,a2,a3,a4⟩:=hps7.yes q t D (by omega) e ht'
      refine ⟨O',oc',D',?_,a2,a3,a4.keep k8 (fun x hx hm=>by have:=a2 x hx;rw [List.mem_singleton.1 hm] at this;omega)⟩
      rw [mpFind_snoc,a1]
   ·conv=>whnf
    repeat ((first
     | (refine Ld.at (by omega) c2 ?_)
     | refine Br.f ?_|refine Pk.f ?_|refine Ar.la ?_|refine Br.n ?_);conv=>whnf)
    refine ⟨(i+1,Y,cY,ps,_),⟨hlt,MA7,lyY,hY,fun h=>absurd h hne,rm7,⟨fun q hq=>hps7.no q (by omega),fun q t D hq e ht'=>?_⟩,kk7⟩,⟨rfl,hlY,rfl,vi (by simp only;omega),trivial⟩,by simp only;omega⟩
    by_cases hqi:q=i
    ·subst hqi
     rw [hp] at e
     cases e
     exact absurd ht' ht
    ·exact hps7.yes q t D (by omega) e ht'
  ·have hnt:R.tagged=false:=by
    cases e:P.pg i with
    | full t D=>exact absurd ⟨t,D,e⟩ hfull
    | blank=>rw [e] at hR;exact hR.1
    | torn n=>rw [e] at hR;exact hR.1
   rw [hnt] at c0
   have efd:=fdsTo_not (P:=P) (p:=i) (fun t D e=>hfull ⟨t,D,e⟩)
   conv=>whnf
   repeat ((first
    | (refine Ld.at (by omega) c0 ?_)
    | refine Br.t ?_|refine Br.f ?_|refine Ar.la ?_|refine Ru.neq_nil0 ?_|refine CW.s ?_);conv=>whnf)
   refine ⟨(i+1,Z,cz,ps,_),⟨hlt,MA5,by simp only [efd];exact ly5,hZ,by simp only [efd];exact hnil,rm5,⟨fun q hq=>hps5.no q (by omega),fun q t D hq e ht=>?_⟩,kk5⟩,⟨rfl,by simp only [efd];rfl,rfl,vi (by simp only;omega),trivial⟩,by simp only;omega⟩
   by_cases hqi:q=i
   ·subst hqi
    exact absurd ⟨t,D,e⟩ hfull
   ·exact hps5.yes q t D (by omega) e ht
 ·obtain rfl:i=96:=by omega
  conv=>whnf
  repeat ((first
   | refine Br.f ?_|refine CW.s ?_);conv=>whnf)
  obtain ⟨C',M,hA',hl'⟩:=MA
  exact ⟨rfl,Z,cz,r,ps,C',rfl,hnil,ly,rm,hps,by rw [← ec];exact M.chip,hA',hl',kk⟩
end Go.Proofs.YtaeikigfgfcadaaGreat
namespace Go.Proofs.YtaeikigfgfcadaaGreat
open Go.RowKit
set_option maxRecDepth 20000
theorem clone_nilF (w:World) (x:Operand) (a:Addr) (n c:Nat):(do eqGuard .eql 64 x (.const (.slice none 0 0)) (.slice (some a) n c) (.slice none 0 0);binOp .eql 64 (.slice (some a) n c) (.slice none 0 0):Sem Value).run Tryz.prog w = .ok (.bool false) w:=by kernel_rfl
theorem clone_nilF0 (w:World) (x:Operand):(do eqGuard .eql 64 x (.const (.slice none 0 0)) (.slice none 0 0) (.slice none 0 0);binOp .eql 64 (.slice none 0 0) (.slice none 0 0):Sem Value).run Tryz.prog w = .ok (.bool true) w:=by kernel_rfl
theorem build_f0 (w:World):(Instr.buildSlice 64 0 #[]).run Tryz.prog w = .ok (.slice (some ⟨w.heap.size,0,none⟩) 0 0) (w.alloc (.cells #[] 69)):=by kernel_rfl
theorem fclone_ok {A:Option Addr} {c:Nat} {L:List Fd} {w:World} (r:Rd w A (L.length * 6) (fdF L)) (hnil:L=[]→A=none∧c=0) (hc:L.length≤c) (hn:L.length≤96) :
  Spec Tryz.prog 120 #[.slice A L.length c] w fun v w'=>∃ Y e,v = .slice Y L.length e∧Rd w' Y (L.length * 6) (fdF L)∧Keep [] w w':=by
 obtain ⟨i0,hi,hz0,hz1,hz2⟩:=info_parts found_info
 by_cases h0:L=[]
 ·obtain ⟨rfl,rfl⟩:=hnil h0
  subst h0
  refine spec_of_wpE (T:=tt) tt_ok Tryz.func120 rfl (by decide +kernel) Tryz.ntmps120 (by simp) ?_
  conv=>whnf
  repeat ((first
   | refine CW.s ?_);conv=>whnf)
  refine Ru.of (clone_nilF0 w _) ?_
  conv=>whnf
  repeat ((first
   | refine Br.t ?_);conv=>whnf)
  exact ⟨rfl,none,0,rfl,fun h=>by simp at h,Keep.refl _ _⟩
 have hpos:0<L.length:=List.length_pos_iff.2 h0
 obtain ⟨g,o,rfl,hcell⟩:=r (by omega)
 refine spec_of_wpE (T:=tt) tt_ok Tryz.func120 rfl (by decide +kernel) Tryz.ntmps120 (by simp) ?_
 conv=>whnf
 repeat ((first
  | refine CW.s ?_);conv=>whnf)
 refine Ru.of (clone_nilF w _ _ _ _) ?_
 conv=>whnf
 repeat ((first
  | refine Br.f ?_);conv=>whnf)
 refine Ru.of (build_f0 w) ?_
 have l0:Ly (w.alloc (.cells #[] 69)) 69 6 (some ⟨w.heap.size,0,none⟩) 0 0 (fdF L):=Ly.of_arr (heap_alloc_new w _) (Nat.le_refl _) (by simp) (by simp [maxLen]) (fun j hj=>by omega)
 have k0:Keep [] w (w.alloc (.cells #[] 69)):=(Keep.refl _ _).alloc _
 conv=>whnf
 refine Bu.append Tryz.underlying64 hi hz0 hz1 hz2 rfl (by omega) l0 _ (r.keep0 k0) hc (fun e=>by cases e) (fun j hj=>fdF_one _ j) (by simp only [maxLen];omega) (by omega) ?_
 intro Y e w' hy hk hat hpre
 have hkw:Keep [] w w':=k0.then hk (fun x hx=>.inr (by rw [List.mem_singleton.1 hx];exact Nat.le_refl _))
 rw [Nat.zero_add] at *
 conv=>whnf
 have:=hy.rd
 exact ⟨rfl,Y,e,rfl,fun h=>by
  obtain ⟨b1,o1,e1,h1⟩:=this h
  exact ⟨b1,o1,e1,fun j hj=>(h1 j hj).trans (by simp)⟩,hkw⟩
theorem layA62' (f g:Nat→Value) (j:Nat) (hj:j<62):lay f 0 62 g j=g j:=by
 unfold lay
 rw [if_pos (by omega),Nat.sub_zero]
theorem layA62 (f g:Nat→Value) (j:Nat) (hj:j<62):lay f 0 62 g (0+j)=g j:=by
 rw [Nat.zero_add]
 exact layA62' f g j hj
theorem build_cp00 (w:World):(Instr.build 116 #[]).run Tryz.prog w = .ok (agg 62 Cp.zero.cell) w:=by kernel_rfl
set_option maxHeartbeats 4000000 in
theorem newm_none {A:Option Addr} {c r:Nat} {L:List Fd} {w:World} (hr:Rd w A (L.length * 6) (fdF L)) (hnil:L=[]→A=none∧c=0) (hc:L.length≤c) (hn:L.length≤96) (hw:newestF (byP L 96) 24 (-1)=(Fd.zero,false)) :
  Spec Tryz.prog 75 #[.slice A L.length c,.map (some r)] w fun v w'=>v = .tuple #[agg 62 Cp.zero.cell,.bool false]∧Keep [] w w':=by
 refine spec_of_wpE (T:=tt) tt_ok Tryz.func75 rfl (by decide +kernel) Tryz.ntmps75 (by simp) ?_
 conv=>whnf
 refine Ru.alloca (alloc_cp w) ?_
 intro x4 w1 hx4 hs1 r4 k1
 conv=>whnf
 refine Ca.of (fclone_ok (hr.keep0 k1) hnil hc hn) ?_
 rintro _ w2 ⟨Y,e,rfl,hY,k2⟩
 have r42:=r4.keep k2 (by simp)
 have kk2:=k1.trans k2
 have hlt:=r4.lt
 have hxw:w.heap.size≤x4:=by omega
 clear r4 k1 k2 hr
 conv=>whnf
 refine CW.loop (ι:=Unit) (fun _ w'=>w'=w2) (fun _=>[(0,.slice Y L.length e),(1,.map (some r)),(4,.pointer (some ⟨x4,0,none⟩))]) (fun _=>0) () tt_ok rfl ⟨rfl,rfl,rfl,trivial⟩ ?_
 rintro _ wr rfl
 conv=>whnf
 refine Ca.of (Newest_ok Y e L 24 (-1) wr hY (by omega)) ?_
 rintro _ w3 ⟨rfl,k3⟩
 rw [hw]
 have r43:=r42.keep k3 (by simp)
 have kk3:=kk2.trans k3
 conv=>whnf
 refine Ru.allocfd ?_
 intro x6 w4 hx6 hs4 r6 k4
 conv=>whnf
 refine Ru.stfd r6 ?_
 intro w5 r6 k5
 have q5:Keep [] w3 w5:=k4.then k5 (fun x hx=>.inr (by rw [List.mem_singleton.1 hx,hx6];exact Nat.le_refl _))
 have r45:=r43.keep q5 (by simp)
 have kk5:=kk3.trans q5
 conv=>whnf
 repeat ((first
  | refine Br.t ?_|refine CW.s ?_);conv=>whnf)
 refine Ru.of (build_cp00 _) ?_
 conv=>whnf
 refine Ru.sta r45 size_cp (by omega) (fun j hj=>Cp.cell_one _ j) ?_
 intro w6 r46 k6
 conv=>whnf
 refine Ru.lda r46 Tryz.underlying116 rfl size_cp (by omega) ?_
 conv=>whnf
 refine ⟨rfl,?_,kk5.fresh hxw k6⟩
 show Value.tuple #[agg 62 _,.bool false]=_
 rw [agg_congr (fun j hj=>layA62 _ _ j hj)]
structure NwAt (w:World) (r:Nat) (L:List Fd) (ps:List (Nat × Value)) (k:Cp):Prop where
 told:k.told
 mp:MpAt w r ps
 new:∃ f:Fd,∃ p:Nat,newestF (byP L 96) 24 (-1)=(f,true)∧f.place=p∧∃ O oc,mpFind p ps=some (.slice O 174 oc)∧Ly w 5 1 O 174 oc (fun j=>.int .u8 (ptF k j))
set_option maxHeartbeats 4000000 in
theorem newm_some {A:Option Addr} {c r:Nat} {L:List Fd} {ps:List (Nat × Value)} {k:Cp} {w:World} (hr:Rd w A (L.length * 6) (fdF L)) (hnil:L=[]→A=none∧c=0) (hc:L.length≤c) (hn:L.length≤96) (hN:NwAt w r L ps k) :
  Spec Tryz.prog 75 #[.slice A L.length c,.map (some r)] w fun v w'=>v = .tuple #[agg 62 k.cell,.bool true]∧Keep [] w w':=by
 obtain ⟨hk,hmp,f,p,hw,hfp,O,oc,hfind,hO⟩:=hN
 refine spec_of_wpE (T:=tt) tt_ok Tryz.func75 rfl (by decide +kernel) Tryz.ntmps75 (by simp) ?_
 conv=>whnf
 refine Ru.alloca (alloc_cp w) ?_
 intro x4 w1 hx4 hs1 r4 k1
 conv=>whnf
 refine Ca.of (fclone_ok (hr.keep0 k1) hnil hc hn) ?_
 rintro _ w2 ⟨Y,e,rfl,hY,k2⟩
 have r42:=r4.keep k2 (by simp)
 have kk2:=k1.trans k2
 have hlt:=r4.lt
 have hxw:w.heap.size≤x4:=by omega
 clear r4 k1 k2 hr
 conv=>whnf
 refine CW.loop (ι:=Unit) (fun _ w'=>w'=w2) (fun _=>[(0,.slice Y L.length e),(1,.map (some r)),(4,.pointer (some ⟨x4,0,none⟩))]) (fun _=>0) () tt_ok rfl ⟨rfl,rfl,rfl,trivial⟩ ?_
 rintro _ wr rfl
 conv=>whnf
 refine Ca.of (Newest_ok Y e L 24 (-1) wr hY (by omega)) ?_
 rintro _ w3 ⟨rfl,k3⟩
 rw [hw]
 have r43:=r42.keep k3 (by simp)
 have kk3:=kk2.trans k3
 conv=>whnf
 refine Ru.allocfd ?_
 intro x6 w4 hx6 hs4 r6 k4
 conv=>whnf
 refine Ru.stfd r6 ?_
 intro w5 r6 k5
 have q5:Keep [] w3 w5:=k4.then k5 (fun x hx=>.inr (by rw [List.mem_singleton.1 hx,hx6];exact Nat.le_refl _))
 have r45:=r43.keep q5 (by simp)
 have kk5:=kk3.trans q5
 have c0:w5.cell? ⟨x6,0,none⟩=some (.int .i64 (p:Nat)):=(r6.cell 0 (by omega)).trans (by show some (Value.int .i64 f.place)=_;rw [hfp])
 have hmp5:=hmp.keep kk5 (by simp)
 conv=>whnf
 repeat ((first
  | (refine Ld.at (by omega) c0 ?_)
  | refine Br.f ?_|refine CW.s ?_);conv=>whnf)
 refine Ru.of (mp_look hmp5 hfind) ?_
 conv=>whnf
 repeat ((first
  | refine Br.t ?_);conv=>whnf)
 have hO5:=(hO.keep0 kk5).rd
 rw [Nat.mul_one] at hO5
 have hcap:174≤oc:=hO.1
 obtain ⟨g,oo,rfl,hcell⟩:=hO5 (by omega)
 refine Ca.of (pread_ok w5 g oo oc k hk hcap hcell) ?_
 rintro _ w6 ⟨rfl,k6⟩
 have r46:=r45.keep k6 (by simp)
 have kk6:=kk5.trans k6
 conv=>whnf
 refine Ru.alloca (alloc_cp w6) ?_
 intro x10 w7 hx10 hs7 r10 k7
 conv=>whnf
 refine Ru.sta r10 size_cp (by omega) (fun j hj=>Cp.cell_one _ j) ?_
 intro w8 r108 k8
 have q8:Keep [] w6 w8:=k7.then k8 (fun x hx=>.inr (by rw [List.mem_singleton.1 hx,hx10];exact Nat.le_refl _))
 have r48:=r46.keep q8 (by simp)
 have kk8:=kk6.trans q8
 have r108:Row w8 x10 116 62 k.cell:=r108.congr (fun j hj=>layA62' _ _ j hj)
 conv=>whnf
 repeat ((first
  | refine Br.t ?_|refine Ru.eql_nil0 ?_);conv=>whnf)
 refine Ru.ldaC (q:=k.cell) r108 Tryz.underlying116 rfl size_cp (by omega) (fun j hj=>by rw [Nat.zero_add]) ?_
 conv=>whnf
 refine Ru.sta r48 size_cp (by omega) (fun j hj=>Cp.cell_one _ j) ?_
 intro w9 r49 k9
 conv=>whnf
 refine Ru.lda r49 Tryz.underlying116 rfl size_cp (by omega) ?_
 conv=>whnf
 refine ⟨rfl,?_,kk8.fresh hxw k9⟩
 show Value.tuple #[agg 62 _,.bool true]=_
 rw [agg_congr (fun j hj=>layA62 _ _ j hj)]
end Go.Proofs.YtaeikigfgfcadaaGreat
namespace Go.Proofs.YtaeikigfgfcadaaGreat
open Go.RowKit
set_option maxRecDepth 20000
def clK (K:KS):Nat→KS
 | 0=>K
 | b+1=>if K.st b=0 then { clK K b with F:=Hl.erF (clK K b).F b } else clK K b
def clP (K:KS) (P:CS):Nat→CS
 | 0=>P
 | b+1=>if K.st b=0 then (clP K P b).wipe b else clP K P b
def clT (K:KS) (P:CS):Nat→List CS
 | 0=>[]
 | b+1=>if K.st b=0 then clT K P b ++ [clP K P b] else clT K P b
theorem clK_succ (K:KS) (b:Nat):clK K (b+1)=if K.st b=0 then { clK K b with F:=Hl.erF (clK K b).F b } else clK K b:=rfl
theorem clP_succ (K:KS) (P:CS) (b:Nat):clP K P (b+1)=if K.st b=0 then (clP K P b).wipe b else clP K P b:=rfl
theorem clT_succ (K:KS) (P:CS) (b:Nat):clT K P (b+1)=if K.st b=0 then clT K P b ++ [clP K P b] else clT K P b:=rfl
theorem clK_zero (K:KS):clK K 0=K:=rfl
theorem clP_zero (K:KS) (P:CS):clP K P 0=P:=rfl
theorem clT_zero (K:KS) (P:CS):clT K P 0=[]:=rfl
theorem clK_same (K:KS):∀ b,sameK K (clK K b)
 | 0=>⟨K.F,rfl⟩
 | b+1=>by
  obtain ⟨F,h⟩:=clK_same K b
  unfold clK
  split
  ·rw [h]
   exact ⟨_,rfl⟩
  ·exact ⟨F,h⟩
theorem clP_calm (K:KS) {P:CS} (h:P.calm):∀ b,(clP K P b).calm
 | 0=>h
 | b+1=>by
  unfold clP
  split
  ·exact CS.wipe_calm (clP_calm K h b) b
  ·exact clP_calm K h b
theorem clT_len (K:KS) (P:CS):∀ n m,n≤m→∃ T,clT K P m=clT K P n ++ T
 | n,0,h=>by
  obtain rfl:n=0:=by omega
  exact ⟨[],by simp⟩
 | n,m+1,h=>by
  by_cases e:n=m+1
  ·subst e
   exact ⟨[],by simp⟩
  ·obtain ⟨T,hT⟩:=clT_len K P n m (by omega)
   rw [clT_succ]
   split
   ·exact ⟨T ++ [clP K P m],by rw [hT,List.append_assoc]⟩
   ·exact ⟨T,hT⟩
inductive Cleaned (K:KS) (P:CS):KS→CS→List CS→Prop
 | done:K.at_ 24≠0→Cleaned K P (clK K 12) (clP K P 12) (clT K P 12)
 | note {K1:KS} {P1:CS} {t1:List CS}:K.at_ 24=0→Lays 24 noteD (clK K 12) (clP K P 12) K1 P1 t1→(stC (sqK K1) K1.next (-1)).told→Cleaned K P (lyK K1 24) (lyP K1 P1 24 noteD) (clT K P 12 ++ lyT K1 P1 t1)
theorem Cleaned.len {K:KS} {P:CS} {K':KS} {P':CS} {tr:List CS} (h:Cleaned K P K' P' tr):∃ T,tr=clT K P 12 ++ T:=by
 cases h
 ·exact ⟨[],by simp⟩
 ·exact ⟨_,rfl⟩
attribute [local irreducible] clK clP clT
section
variable {w w':World} {N:Cr} {K:KS} {X:Option Addr} {c:Nat} {P:CS} {b:Option Nat} {n:Int}
set_option maxHeartbeats 4000000 in
theorem clean_ok (h:On w N K P b n X c) (hc:P.calm) (ha:K.at_ 24≤96) (hwo:wornB K.st=false) {K':KS} {P':CS} {tr:List CS} (H:Cleaned K P K' P' tr) :
  Spec Tryz.prog 78 #[.pointer (some ⟨N.k,0,none⟩)] w fun u w'=>EndsX N X c K' P' b tr w w' (u=errOf 0) (u=errOf 7):=by
 have far:∀ x,w.heap.size≤x→x∉N.all:=fun x hx hm=>by
  have h3:x<w.heap.size:=by
   rcases List.mem_append.1 hm with hm | hm
   ·exact h.core.lt (List.mem_append_left _ hm)
   ·exact h.l_lt _ hm
  omega
 have hpre:=H.len
 refine spec_of_wpE (T:=tt) tt_ok Tryz.func78 rfl (by decide +kernel) Tryz.ntmps78 (by simp) ?_
 conv=>whnf
 repeat ((first
  | (refine Ld.of h.core.c2 ?_));conv=>whnf)
 refine Ca.of (mat_ok h.core.map 24 (by omega) ha) ?_
 rintro _ _ ⟨rfl,rfl⟩
 obtain ⟨m,a,e,hv,he⟩:∃ (m:Bool) (a e:Int),(if K.at_ 24=0 then Value.tuple #[.int .i64 0,errOf 11] else .tuple #[.int .i64 ((K.at_ 24 - 1:Nat):Int),errOf 0]) = .tuple #[.int .i64 a,errOf e] ∧
   ((m=true∧e=11∧∃ K1 P1 t1,Lays 24 noteD (clK K 12) (clP K P 12) K1 P1 t1∧(stC (sqK K1) K1.next (-1)).told∧K'=lyK K1 24∧P'=lyP K1 P1 24 noteD∧tr=clT K P 12 ++ lyT K1 P1 t1)∨(m=false∧e=0∧K'=clK K 12∧P'=clP K P 12∧tr=clT K P 12)):=by
  cases H with
  | done h0=>exact ⟨false,_,0,if_neg h0,.inr ⟨rfl,rfl,rfl,rfl,rfl⟩⟩
  | note h0 h1 h2=>exact ⟨true,0,11,if_pos h0,.inl ⟨rfl,rfl,_,_,_,h1,h2,rfl,rfl,rfl⟩⟩
 rw [hv]
 rcases he with ⟨hm,rfl,hend⟩ | ⟨hm,rfl,hend⟩
 all_goals
  conv=>whnf
  repeat ((first
   | (refine Ld.of h.core.c1 ?_)
   | refine Ru.neq_nil0 ?_|refine Ru.n1 ?_|refine CW.s ?_);conv=>whnf)
  refine Ca.of (cstates_ok h) ?_
  rintro _ w1 ⟨Y,e,rfl,hY⟩
  have h1:=h.keep0 hY.keep
  obtain ⟨lY,nY,kY⟩:=hY
  conv=>whnf
  refine CW.loop (ι:=Nat) (fun i w'=>i≤12∧fits b (clT K P i).length∧On w' N (clK K i) (clP K P i) (less b (clT K P i).length) n X c∧Ly w' 3 1 Y 12 e (fun j=>.int .i64 (K.st j:Nat))∧Keep N.all w w')
   (fun i=>[(0,.pointer (some ⟨N.k,0,none⟩)),(5,.bool m),(24,.slice Y 12 e),(25,.int .i64 12),(26,.int .i64 i)]) (fun i=>12 - i) 0 tt_ok ⟨by omega,(fun x hx=>by rw [clT_zero];exact Nat.zero_le _),by rw [clT_zero,clK_zero,clP_zero,show (([]:List CS)).length=0 from rfl,less_zero];exact h1,lY,Keep.of0 kY⟩ ⟨rfl,congrArg Value.bool hm.symm,rfl,rfl,rfl,trivial⟩ ?_
  clear h1 lY kY
  rintro i wr ⟨hi,hfit,hr,ly,kk⟩
  obtain ⟨F,hsame⟩:=clK_same K i
  have hcal:=clP_calm K hc i
  rcases Nat.lt_or_ge i 12 with hlt | hlt
  ·have rd:=ly.rd
   rw [Nat.mul_one] at rd
   obtain ⟨gy,oy,rfl,hcell⟩:=rd (by omega)
   have ci:wr.cell? ⟨gy,oy+i,none⟩=some (.int .i64 (K.st i:Nat)):=hcell i hlt
   by_cases hs:K.st i=0
   ·rw [hs] at ci
    obtain ⟨T,hT⟩:=clT_len K P (i+1) 12 (by omega)
    have eT:clT K P (i+1)=clT K P i ++ [clP K P i]:=by rw [clT_succ,if_pos hs]
    conv=>whnf
    repeat ((first
     | (refine Ld.at (by omega) ci ?_)
     | (refine Ld.of hr.core.c0 ?_)
     | refine Br.f ?_|refine Ix.n ?_|refine Br.y ?_|refine CW.s ?_);conv=>whnf)
    refine Ca.of (aerase_ok hr.med (B:=i) hlt) ?_
    rintro _ w4 ⟨k4,hr4⟩
    have k4a:Keep N.all wr w4:=k4.mono (fun x hx=>in_all_l (by rw [List.mem_singleton.1 hx];simp [Pt.l]))
    have kk4:=kk.trans k4a
    have ly4:=ly.keep k4a (fun x hx=>far x (nY x hx))
    rw [CS.erase_calm hcal] at hr4
    rcases hr4 with ⟨hf4,rfl,M4⟩ | ⟨y,hy,hyb,rfl,M4⟩
    ·have h4:=hr.chip (k4.mono (fun x hx=>by rw [List.mem_singleton.1 hx];simp [Pt.l])) M4
     conv=>whnf
     repeat ((first
      | (refine Ld.of h4.core.c4 ?_)
      | refine Br.t ?_|refine Ru.eql_nil0 ?_);conv=>whnf)
     refine Ca.of (Hl.erased_ok w4 N.e _ h4.core.health i hlt) ?_
     rintro _ w5 ⟨rfl,r5,k5⟩
     have h5:=h4.health k5 r5
     conv=>whnf
     repeat ((first
      | refine Ar.la ?_);conv=>whnf)
     refine ⟨i+1,⟨hlt,?_,?_,ly4.keep k5 (fun x hx hm=>?_),kk4.trans (Keep.of1 (by simp [Cr.own]) k5)⟩,⟨rfl,rfl,rfl,rfl,vi (by omega),trivial⟩,by simp only;omega⟩
     ·rw [eT]
      exact Runs.fits hfit hf4
     ·rw [eT,clK_succ,clP_succ,if_pos hs,if_pos hs,List.length_append, ← less_less]
      exact h5
     ·exact far x (nY x hx) (in_all_own (by rw [List.mem_singleton.1 hm];simp [Cr.own]))
    ·conv=>whnf
     repeat ((first
      | refine Br.f ?_|refine Ru.e1 ?_);conv=>whnf)
     refine Ca.of (eis_ok 7 8 (by decide) _) ?_
     rintro _ _ ⟨rfl,rfl⟩
     conv=>whnf
     repeat ((first
      | refine Br.f ?_);conv=>whnf)
     refine ⟨rfl,kk4,?_⟩
     obtain ⟨T2,hT2⟩:=hpre
     rw [hT2,hT,eT,List.append_assoc,List.append_assoc]
     exact Runs.then hfit (Runs.gone hy hyb ⟨rfl,n,M4⟩)
   ·have hs1:decide (((K.st i:Nat):Int)=0)=false:=decide_eq_false (by omega)
    have eT:clT K P (i+1)=clT K P i:=by rw [clT_succ,if_neg hs]
    conv=>whnf
    repeat ((first
     | (refine Ld.at (by omega) ci ?_)
     | refine Ix.n ?_|refine Ar.la ?_|refine Br.y ?_|refine Br.nn ?_|refine CW.s ?_);conv=>whnf)
    refine ⟨i+1,⟨hlt,by rw [eT];exact hfit,?_,ly,kk⟩,⟨rfl,rfl,rfl,rfl,vi (by omega),trivial⟩,by simp only;omega⟩
    rw [eT,clK_succ,clP_succ,if_neg hs,if_neg hs]
    exact hr
 ·obtain rfl:i=12:=by omega
  obtain ⟨F,hsame⟩:=clK_same K 12
  have hw:wornB (clK K 12).st=false:=by rw [hsame];exact hwo
  subst hm
  obtain ⟨K1,P1,t1,h1,h2,rfl,rfl,rfl⟩:=hend
  conv=>whnf
  repeat ((first
   | (refine Ld.of hr.core.c1 ?_)
   | refine Br.f ?_|refine CW.s ?_);conv=>whnf)
  refine Ca.of (worn_ok hr.core.pool) ?_
  rintro _ _ ⟨rfl,rfl⟩
  rw [hw]
  conv=>whnf
  repeat ((first
   | refine Br.f ?_|refine Pk.f ?_|refine CW.s ?_);conv=>whnf)
  refine Ca.of (note_ok hr h1 h2) ?_
  rintro _ w5 ⟨k5,hr5⟩
  rcases hr5 with ⟨f5,rfl,n5,h5⟩ | ⟨y,hy,hyb,rfl,n5,h5⟩
  ·conv=>whnf
   refine Ca.of (eis_ok 0 14 (by decide) _) ?_
   rintro _ _ ⟨rfl,rfl⟩
   conv=>whnf
   repeat ((first
    | refine Br.t ?_);conv=>whnf)
   exact ⟨rfl,kk.trans k5,Runs.then hfit (.inl ⟨f5,rfl,n5,h5⟩)⟩
  ·conv=>whnf
   refine Ca.of (eis_ok 7 14 (by decide) _) ?_
   rintro _ _ ⟨rfl,rfl⟩
   conv=>whnf
   repeat ((first
    | refine Br.t ?_);conv=>whnf)
   exact ⟨rfl,kk.trans k5,Runs.then hfit (.inr ⟨y,hy,hyb,rfl,n5,h5⟩)⟩
 ·obtain rfl:i=12:=by omega
  subst hm
  obtain ⟨rfl,rfl,rfl⟩:=hend
  conv=>whnf
  repeat ((first
   | refine Br.t ?_|refine Br.f ?_|refine Pk.t ?_|refine CW.s ?_);conv=>whnf)
  exact ⟨rfl,kk,.inl ⟨hfit,rfl,n,hr⟩⟩
end
end Go.Proofs.YtaeikigfgfcadaaGreat
namespace Go.Proofs.YtaeikigfgfcadaaGreat
open Go.RowKit
set_option maxRecDepth 20000
def mtK (k:Cp) (L:List Fd):KS:=fK (nwK k L) (snF (nwK k L).F 12)
inductive Mounts (P:CS):KS→CS→List CS→Prop
 | new {K':KS} {P':CS} {tr:List CS}:newestF (byP (fdsTo P 96) 96) 24 (-1)=(Fd.zero,false)→NwHyp Cp.zero []→Hl.HB (nwK Cp.zero []).F→(mtK Cp.zero []).at_ 24≤96→wornB (mtK Cp.zero []).st=false→Cleaned (mtK Cp.zero []) (scP P 96) K' P' tr→Mounts P K' P' tr
 | old {k:Cp} {f:Fd} {p:Nat} {t:Tg} {D:Nat→Nat} {K':KS} {P':CS} {tr:List CS}:newestF (byP (fdsTo P 96) 96) 24 (-1)=(f,true)→f.place=p→p<96→P.pg p = .full t D→t.of=24→(∀ j,j<174→D j=ptN k j)→NwHyp k (fdsTo P 96)→Hl.HB (nwK k (fdsTo P 96)).F→(mtK k (fdsTo P 96)).at_ 24≤96→wornB (mtK k (fdsTo P 96)).st=false →
   Cleaned (mtK k (fdsTo P 96)) (scP P 96) K' P' tr→Mounts P K' P' tr
theorem mk12z_run (w:World):(Instr.makeSlice 23 (.int .i64 12) (.int .i64 12)).run Tryz.prog w = .ok (.slice (some ⟨w.heap.size,0,none⟩) 12 12) (w.alloc (.cells (madeCells #[.int .i64 0] 12) 3)):=by kernel_rfl
attribute [local irreducible] fdsTo scP nwK snF
theorem On.keepG {w w':World} {N:Cr} {K:KS} {P:CS} {b:Option Nat} {n:Int} {c g:Nat} (h:On w N K P b n none c) (k:Keep [g] w w') (hg:g∉N.all) (h1:N.N.m∉[g]) (h2:N.N.c∉[g]) (h3:N.N.f∉[g]) (h4:N.N.cd∉[g]) (h5:N.N.g∉[g]) (h6:N.N.h∉[g]):On w' N K P b n none c:=by
 obtain ⟨C,M,q⟩:=h.med
 exact ⟨h.core.keep k (fun x hx hm=>by
  rcases List.mem_append.1 hx with hx | hx
  ·exact hg (in_all_own (by rw [← List.mem_singleton.1 hm];exact hx))
  ·cases hx),C,M.keep k h1 h2 h3 h4 h5 h6,q⟩
def MtEnd (ch:Nat) (K':KS) (P':CS) (b:Option Nat) (tr:List CS) (w:World) (v:Value) (w':World):Prop :=
 Keep [ch] w w'∧Runs b tr (fun b'=>∃ (N:Cr) (n:Int),v = .tuple #[.pointer (some ⟨N.k,0,none⟩),errOf 0]∧N.N.c=ch∧On w' N K' P' b' n none 0∧∀ x,x∈N.all→x=ch∨w.heap.size≤x) (fun Q=>v = .tuple #[.pointer none,errOf 7]∧∃ C',ChipAt w' ch C'∧DeadAs C' Q)
set_option maxHeartbeats 8000000 in
theorem mount_ok {w:World} {C:Chip} {ch:Nat} {P:CS} {b:Option Nat} (H:ChipAt w ch C) (hA:Abs C P) (hl:C.left b) (hc:P.calm) {K':KS} {P':CS} {tr:List CS} (M:Mounts P K' P' tr) :
  Spec Tryz.prog 50 #[.pointer (some ⟨ch,0,none⟩)] w (MtEnd ch K' P' b tr w):=by
 have hlen:=fdsTo_len P 96
 have hcal:=scP_calm hc 96
 have hchw:ch<w.heap.size:=Row.lt H
 obtain ⟨k,L,is,hN,hB,h24,hwo,hCl,hkind⟩:∃ (k:Cp) (L:List Fd) (is:Bool),NwHyp k L∧Hl.HB (nwK k L).F∧(mtK k L).at_ 24≤96∧wornB (mtK k L).st=false∧Cleaned (mtK k L) (scP P 96) K' P' tr ∧
   ((is=false∧L=[]∧k=Cp.zero∧newestF (byP (fdsTo P 96) 96) 24 (-1)=(Fd.zero,false))∨(is=true∧L=fdsTo P 96∧∃ f p t D,newestF (byP (fdsTo P 96) 96) 24 (-1)=(f,true)∧f.place=(p:Nat)∧p<96∧P.pg p = .full t D∧t.of=24∧∀ j,j<174→D j=ptN k j)):=by
  cases M with
  | new h1 h2 h3 h4 h5 h6=>exact ⟨_,_,false,h2,h3,h4,h5,h6,.inl ⟨rfl,rfl,rfl,h1⟩⟩
  | old h1 h2 h3 h4 h5 h6 h7 h8 h9 h10 h11=>exact ⟨_,_,true,h7,h8,h9,h10,h11,.inr ⟨rfl,rfl,_,_,_,_,h1,h2,h3,h4,h5,h6⟩⟩
 clear M
 refine spec_of_wpE (T:=tt) tt_ok Tryz.func50 rfl (by decide +kernel) Tryz.ntmps50 (by simp) ?_
 conv=>whnf
 repeat ((first
  | refine CW.s ?_);conv=>whnf)
 refine Ru.of (chip_nil w _ _) ?_
 conv=>whnf
 repeat ((first
  | refine Br.f ?_);conv=>whnf)
 refine Ca.of (scan_ok H hA hl) ?_
 rintro _ w1 ⟨A,cA,r,ps,C1,rfl,hnil,ly,rm,hps,H1,hA1,hl1,k1⟩
 have hcap:(fdsTo P 96).length≤cA:=ly.1
 have hnew:Spec Tryz.prog 75 #[.slice A (fdsTo P 96).length cA,.map (some r)] w1 fun v w'=>v = .tuple #[agg 62 k.cell,.bool is]∧Keep [] w1 w':=by
  rcases hkind with ⟨rfl,-,rfl,h1⟩ | ⟨rfl,-,f,p,t,D,h1,h2,h3,h4,h5,h6⟩
  ·exact newm_none ly.rd hnil hcap hlen h1
  ·obtain ⟨O,oc,D',a1,a2,a3,a4⟩:=hps.yes p t D h3 h4 h5
   refine newm_some ly.rd hnil hcap hlen ⟨hN.told,rm,f,p,h1,h2,O,oc,a1,a4.congr (fun j hj=>?_)⟩
   have h7:D' j=D j:=by
    rw [← a3]
    unfold cutD
    rw [if_pos (by omega)]
   rw [h7,h6 j (by omega),ptN_int]
 conv=>whnf
 repeat ((first
  | refine Br.f ?_|refine Ru.neq_nil0 ?_|refine CW.s ?_);conv=>whnf)
 refine Ca.of hnew ?_
 rintro _ w2 ⟨rfl,k2⟩
 have H2:=H1.keep k2 (by simp)
 have ly2:=ly.keep0 k2
 have kk2:=k1.trans (k2.mono (T:=[ch]) (by simp))
 clear H1 ly k1 k2 rm hps hnew H
 conv=>whnf
 refine Ru.alloca (alloc_cp w2) ?_
 intro x7 w3 hx7 hs3 r7 k3
 conv=>whnf
 refine Ru.sta r7 size_cp (by omega) (fun j hj=>Cp.cell_one _ j) ?_
 intro w4 r74 k4
 have r74:Row w4 x7 116 62 k.cell:=r74.congr (fun j hj=>layA62' _ _ j hj)
 have q4:Keep [] w2 w4:=k3.then k4 (fun x hx=>.inr (by rw [List.mem_singleton.1 hx,hx7];exact Nat.le_refl _))
 have H4:=H2.keep q4 (by simp)
 have ly4:=ly2.keep0 q4
 have kk4:=kk2.trans (q4.mono (T:=[ch]) (by simp))
 clear H2 ly2 kk2 q4 k3 k4 r7 hs3
 have hmain:∀ A' cA',Rd w4 A' (L.length * 6) (fdF L)→Spec Tryz.prog 76 #[.pointer (some ⟨ch,0,none⟩),agg 62 k.cell,.slice A' L.length cA'] w4 fun v w'=>∃ N:Cr,v = .tuple #[.pointer (some ⟨N.k,0,none⟩),errOf 0]∧On w' N (nwK k L) (scP P 96) b 0 none 0∧N.N.c=ch∧(∀ x,x∈N.all→x=ch∨w4.heap.size≤x)∧Keep [] w4 w' :=
  fun A' cA' hr=>mnew2_ok H4 hA1 hl1 hN hr (by rcases hkind with ⟨-,rfl,-⟩ | ⟨-,rfl,-⟩;simp;omega)
 rcases hkind with ⟨rfl,rfl,-,-⟩ | ⟨rfl,rfl,-⟩
 rotate_left
 all_goals
  conv=>whnf
  repeat ((first
   | refine Br.t ?_|refine Br.f ?_|refine CW.s ?_);conv=>whnf)
  refine Ru.ldaC (q:=k.cell) r74 Tryz.underlying116 rfl size_cp (by omega) (fun j hj=>by rw [Nat.zero_add]) ?_
  conv=>whnf
 refine Ca.of (hmain A cA ly4.rd) ?_
 rotate_left
 refine Ca.of (hmain none 0 (fun h=>by simp at h)) ?_
 all_goals
  rintro _ w5 ⟨N,rfl,h5,eC,hall,k5⟩
  have kk5:=kk4.trans (k5.mono (T:=[ch]) (by simp))
  conv=>whnf
  repeat ((first
   | refine Br.f ?_|refine Ru.neq_nil0 ?_|refine CW.s ?_);conv=>whnf)
  refine Ru.of (mk12z_run w5) ?_
  have ry:=Row.made w5 3 (.int .i64 0) 12
  have k6:Keep [] w5 (w5.alloc (.cells (madeCells #[.int .i64 0] 12) 3)):=(Keep.refl _ _).alloc _
  have h6:=h5.keep0 k6
  have kk6:=kk5.trans (k6.mono (T:=[ch]) (by simp))
  have lN:N.N.m<w5.heap.size∧N.N.c<w5.heap.size∧N.N.f<w5.heap.size∧N.N.cd<w5.heap.size∧N.N.g<w5.heap.size∧N.N.h<w5.heap.size:=by
   obtain ⟨C5,M5,q5⟩:=h5.med
   exact M5.lt
  have hgl:∀ y,y<w5.heap.size→y∉[w5.heap.size]:=fun y hy hm=>by
   rw [List.mem_singleton.1 hm] at hy
   omega
  have hNlt:∀ x,x∈N.all→x<w5.heap.size:=fun x hx=>by
   rcases List.mem_append.1 hx with hm | hm
   ·exact h5.core.lt (List.mem_append_left _ hm)
   ·exact h5.l_lt _ hm
  have hgw:w.heap.size≤w5.heap.size:=kk5.size
  have hgN:w5.heap.size∉N.all:=fun hx=>by have:=hNlt _ hx;omega
  have hallw:∀ x,x∈N.all→x=ch∨w.heap.size≤x:=fun x hx=>by
   rcases hall x hx with h | h
   ·exact .inl h
   ·exact .inr (Nat.le_trans kk4.size h)
  clear h5 k5 k6 kk5 hmain r74 ly4 H4 kk4 hall hNlt
  generalize w5.alloc _=w6 at *
  generalize w5.heap.size=g at *
  conv=>whnf
  repeat ((first
   | refine CW.s ?_);conv=>whnf)
  refine CW.loop (ι:=Nat) (fun i w'=>i≤12∧On w' N (nwK k _) (scP P 96) b 0 none 0∧Row w' g 3 12 (fun j=>if j<i then .int .i64 8 else .int .i64 0)∧Keep [ch] w w')
   (fun i=>[(9,.pointer (some ⟨N.k,0,none⟩)),(10,.slice (some ⟨g,0,none⟩) 12 12),(44,.slice (some ⟨g,0,none⟩) 12 12),(45,.int .i64 12),(46,.int .i64 i)]) (fun i=>12 - i) 0 tt_ok ⟨by omega,h6,ry.congr (fun j hj=>by simp),kk6⟩ ⟨rfl,rfl,rfl,rfl,rfl,trivial⟩ ?_
  clear h6 ry kk6
  rintro i wr ⟨hi,hr,rg,kk⟩
  rcases Nat.lt_or_ge i 12 with hlt | hge
  ·conv=>whnf
   repeat ((first
    | (refine Ix.of i (by omega) (by omega) ?_)
    | refine Br.y ?_|refine CW.s ?_);conv=>whnf)
   rw [show 0+i=i by omega]
   refine Sd.rowAt rg i (by omega) (by omega) rfl ?_
   intro w7 rg7 k7
   have h7:=hr.keepG k7 hgN (hgl N.N.m lN.1) (hgl N.N.c lN.2.1) (hgl N.N.f lN.2.2.1) (hgl N.N.cd lN.2.2.2.1) (hgl N.N.g lN.2.2.2.2.1) (hgl N.N.h lN.2.2.2.2.2)
   conv=>whnf
   repeat ((first
    | refine Ar.la ?_);conv=>whnf)
   refine ⟨i+1,⟨hlt,h7,rg7.congr (fun j hj=>?_),kk.then k7 (fun x hx=>.inr (by rw [List.mem_singleton.1 hx];exact hgw))⟩,⟨rfl,rfl,rfl,rfl,vi (by omega),trivial⟩,by simp only;omega⟩
   unfold put
   by_cases hji:j=i
   ·rw [if_pos hji,if_pos (by omega)]
   ·rw [if_neg hji]
    simp only
    by_cases hj2:j<i
    ·rw [if_pos hj2,if_pos (by omega)]
    ·rw [if_neg hj2,if_neg (by omega)]
  ·obtain rfl:i=12:=by omega
   have rg:Row wr g 3 12 (fun _=>.int .i64 8):=rg.congr (fun j hj=>by simp only [if_pos hj])
   conv=>whnf
   repeat ((first
    | refine Br.f ?_|refine CW.s ?_);conv=>whnf)
   refine Ca.of (seen_ok hr hB rg hgN) ?_
   rintro _ w7 ⟨rfl,h7,k7⟩
   conv=>whnf
   repeat ((first
    | refine CW.s ?_);conv=>whnf)
   refine Ca.of (clean_ok h7 hcal h24 hwo hCl) ?_
   rintro _ w8 ⟨k8,hr8⟩
   have kk8:Keep [ch] w w8:=kk.then (k7.trans k8) (fun x hx=>by
    rcases hallw x hx with h | h
    ·exact .inl (List.mem_singleton.2 h)
    ·exact .inr h)
   rcases hr8 with ⟨f8,rfl,n8,h8⟩ | ⟨y,hy,hyb,rfl,n8,C8,M8,D8⟩
   ·conv=>whnf
    repeat ((first
     | refine Br.f ?_|refine Ru.neq_nil0 ?_);conv=>whnf)
    exact ⟨rfl,kk8,.inl ⟨f8,N,n8,rfl,eC,h8,hallw⟩⟩
   ·conv=>whnf
    repeat ((first
     | refine Br.t ?_|refine Ru.n1 ?_);conv=>whnf)
    exact ⟨rfl,kk8,.inr ⟨y,hy,hyb,rfl,C8,by rw [← eC];exact M8.chip,D8⟩⟩
end Go.Proofs.YtaeikigfgfcadaaGreat
namespace Go.Proofs.YtaeikigfgfcadaaGreat
open Go.RowKit
set_option maxRecDepth 20000
def dvF (ch:Nat) (core:Option Addr) (j:Nat):Value:=if j=0 then ptr ch else .pointer core
def DvRow (w:World) (d ch:Nat) (core:Option Addr):Prop:=Row w d 87 2 (dvF ch core)
theorem dis_ok (s:Nat) (hs:s<24) (w:World):Spec Tryz.prog 42 #[.int .i64 s] w fun v w'=>v = .bool true∧w=w':=by
 refine spec_of_wpE (T:=tt) tt_ok Tryz.func42 rfl (by decide +kernel) Tryz.ntmps42 (by simp) ?_
 conv=>whnf
 repeat ((first
  | refine Br.t ?_|refine Pk.t ?_);conv=>whnf)
 exact ⟨rfl,vb (decide_eq_true (by omega)),rfl⟩
theorem core_some (w:World) (x:Operand) (a:Addr):(do eqGuard .eql 85 x (.const (.pointer none)) (.pointer (some a)) (.pointer none);binOp .eql 85 (.pointer (some a)) (.pointer none):Sem Value).run Tryz.prog w = .ok (.bool false) w:=by kernel_rfl
theorem core_none (w:World) (x:Operand):(do eqGuard .neq 85 x (.const (.pointer none)) (.pointer none) (.pointer none);binOp .neq 85 (.pointer none) (.pointer none):Sem Value).run Tryz.prog w = .ok (.bool false) w:=by kernel_rfl
theorem build_dev (ch:Nat) (w:World):(Instr.build 87 #[(0,.pointer (some ⟨ch,0,none⟩))]).run Tryz.prog w = .ok (agg 2 (dvF ch none)) w:=by kernel_rfl
theorem dnew_ok (ch:Nat) (w:World):Spec Tryz.prog 31 #[.pointer (some ⟨ch,0,none⟩)] w fun v w'=>∃ d,v = .tuple #[.pointer (some ⟨d,0,none⟩),errOf 0]∧d=w.heap.size∧DvRow w' d ch none∧Keep [] w w':=by
 refine spec_of_wpE (T:=tt) tt_ok Tryz.func31 rfl (by decide +kernel) Tryz.ntmps31 (by simp) ?_
 conv=>whnf
 repeat ((first
  | refine CW.s ?_);conv=>whnf)
 refine Ru.of (chip_nil w _ _) ?_
 conv=>whnf
 repeat ((first
  | refine Br.f ?_);conv=>whnf)
 refine Ru.of (build_dev ch w) ?_
 conv=>whnf
 refine Ru.boxa ?_
 intro d w1 hd hs r k
 conv=>whnf
 exact ⟨rfl,d,rfl,hd,r,k⟩
def DvOn (w:World) (own:List Nat) (d ch:Nat) (K:KS) (P:CS) (b:Option Nat):Prop :=
 ∃ N X c n,own=d :: (N.all ++ blk X)∧DvRow w d ch (some ⟨N.k,0,none⟩)∧On w N K P b n X c∧N.N.c=ch∧K.qu=[]
def DvOff (w:World) (d ch:Nat) (Q:CS):Prop:=DvRow w d ch none∧∃ C,ChipAt w ch C∧DeadAs C Q
def DvEnds (own:List Nat) (d ch:Nat) (K':KS) (P':CS) (b:Option Nat) (tr:List CS) (w w':World) (ok dead:Prop):Prop :=
 Keep own w w'∧Runs b tr (fun b'=>ok∧∃ own',DvOn w' own' d ch K' P' b'∧∀ x,x∈own'→x∈own∨w.heap.size≤x) (fun Q=>dead∧DvOff w' d ch Q)
structure TdHyp (K:KS) (P:CS):Prop where
 hb:Hl.HB K.F
 cur:K.cur<96
 at96:∀ o,o<25→K.at_ o≤96
 fine:Fine K P
theorem dvF_set (ch:Nat) (a:Option Addr) (a':Option Addr) (j:Nat) (hj:j<2):put (dvF ch a) 1 (.pointer a') j=dvF ch a' j:=by
 unfold put dvF
 have:j=0∨j=1:=by omega
 rcases this with rfl | rfl<;>rfl
section
variable {w w':World} {N:Cr} {K:KS} {X:Option Addr} {c d ch:Nat} {P:CS} {b:Option Nat} {n:Int}
theorem DvRow.ne (r:DvRow w d ch (some ⟨N.k,0,none⟩)) (h:On w N K P b n X c):d∉N.all ++ blk X:=fun hm=>by
 obtain ⟨C,M,q⟩:=h.med
 obtain ⟨F,rg⟩:=M.frm.cod.fs.ty
 rcases List.mem_append.1 hm with hm | hm
 ·simp only [Cr.all,Cr.own,Pt.l,List.cons_append,List.nil_append,List.mem_cons,List.not_mem_nil,or_false] at hm
  rcases hm with e | e | e | e | e | e | e | e | e
  ·exact Row.ne_ r h.core.row (by decide) e
  ·exact Row.ne_ r h.core.pool (by decide) e
  ·exact Row.ne_ r h.core.map (by decide) e
  ·exact Row.ne_ r h.core.front (by decide) e
  ·exact Row.ne_ r h.core.health (by decide) e
  ·exact Row.ne_ r h.core.pat (by decide) e
  ·exact Row.ne_ r M.row (by decide) e
  ·exact Row.ne_ r M.chip (by decide) e
  ·exact Row.ne_ r rg (by decide) e
 ·exact h.core.qu.row_ne r (by decide) hm
set_option maxHeartbeats 2000000 in
theorem ended0_ok (r:DvRow w d ch (some ⟨N.k,0,none⟩)) (h:On w N K P b n X c) (eC:N.N.c=ch) (hq:K.qu=[]) (T:TdHyp K P) {K':KS} {P':CS} {tr:List CS} (H:Tended K P K' P' tr) (hq':K'.qu=[]) :
  Spec Tryz.prog 43 #[.pointer (some ⟨d,0,none⟩),errOf 0] w fun v w'=>DvEnds (d :: (N.all ++ blk X)) d ch K' P' b tr w w' (v=errOf 0) (v=errOf 7):=by
 have hne:=r.ne h
 refine spec_of_wpE (T:=tt) tt_ok Tryz.func43 rfl (by decide +kernel) Tryz.ntmps43 (by simp) ?_
 conv=>whnf
 repeat ((first
  | refine CW.s ?_);conv=>whnf)
 refine Ca.of (eis_ok 0 7 (by decide) _) ?_
 rintro _ _ ⟨rfl,rfl⟩
 have c1:w.cell? ⟨d,1,none⟩=some (.pointer (some ⟨N.k,0,none⟩)):=Row.cell r 1 (by omega)
 conv=>whnf
 repeat ((first
  | (refine Ld.of c1 ?_)
  | refine Br.t ?_);conv=>whnf)
 refine Ca.of (tend_ok h hq T.hb T.cur T.at96 T.fine H) ?_
 rintro _ w1 ⟨k1,hr1⟩
 have r1:DvRow w1 d ch (some ⟨N.k,0,none⟩):=Row.keep r k1 hne
 have kk:Keep (d :: (N.all ++ blk X)) w w1:=k1.mono (fun x hx=>List.mem_cons_of_mem _ hx)
 rcases hr1 with ⟨f1,rfl,Y,e,n1,h1,hY⟩ | ⟨y,hy,hyb,rfl,n1,M1⟩
 ·conv=>whnf
  repeat ((first
   | refine Br.f ?_|refine Ru.neq_nil0 ?_|refine CW.s ?_);conv=>whnf)
  refine Ca.of (eis_ok 0 7 (by decide) _) ?_
  rintro _ _ ⟨rfl,rfl⟩
  conv=>whnf
  repeat ((first
   | refine Br.f ?_);conv=>whnf)
  refine ⟨rfl,kk,.inl ⟨f1,rfl,_,⟨N,Y,e,n1,rfl,r1,h1,eC,hq'⟩,fun x hx=>?_⟩⟩
  rcases List.mem_cons.1 hx with rfl | hx
  ·exact .inl (List.mem_cons_self ..)
  ·rcases List.mem_append.1 hx with hx | hx
   ·exact .inl (List.mem_cons_of_mem _ (List.mem_append_left _ hx))
   ·rcases hY x hx with h | h
    ·exact .inl (List.mem_cons_of_mem _ (List.mem_append_right _ h))
    ·exact .inr h
 ·conv=>whnf
  repeat ((first
   | refine Br.t ?_|refine Ru.n1 ?_|refine CW.s ?_);conv=>whnf)
  refine Ca.of (eis_ok 7 7 (by decide) _) ?_
  rintro _ _ ⟨rfl,rfl⟩
  conv=>whnf
  repeat ((first
   | refine Br.t ?_);conv=>whnf)
  refine Sd.rowAt r1 1 (by omega) (by omega) rfl ?_
  intro w2 r2 k2
  have r2:DvRow w2 d ch none:=r2.congr (fun j hj=>dvF_set ch _ _ j hj)
  conv=>whnf
  obtain ⟨C1,M1,D1⟩:=M1
  have hcd:N.N.c∉[d]:=fun hm=>hne (by
   rw [← List.mem_singleton.1 hm]
   exact List.mem_append_left _ (in_all_l (by simp [Pt.l])))
  exact ⟨rfl,kk.trans (k2.mono (fun x hx=>by rw [List.mem_singleton.1 hx];exact List.mem_cons_self ..)),.inr ⟨y,hy,hyb,rfl,r2,C1,by rw [← eC];exact M1.chip.keep k2 hcd,D1⟩⟩
theorem ended7_ok (r:DvRow w d ch (some ⟨N.k,0,none⟩)) {Q:CS} (h:MedX w N.N Q n) (eC:N.N.c=ch) :
  Spec Tryz.prog 43 #[.pointer (some ⟨d,0,none⟩),errOf 7] w fun v w'=>v=errOf 7∧DvOff w' d ch Q∧Keep [d] w w':=by
 refine spec_of_wpE (T:=tt) tt_ok Tryz.func43 rfl (by decide +kernel) Tryz.ntmps43 (by simp) ?_
 conv=>whnf
 repeat ((first
  | refine CW.s ?_);conv=>whnf)
 refine Ca.of (eis_ok 7 7 (by decide) _) ?_
 rintro _ _ ⟨rfl,rfl⟩
 conv=>whnf
 repeat ((first
  | refine Br.f ?_|refine CW.s ?_);conv=>whnf)
 refine Ca.of (eis_ok 7 7 (by decide) _) ?_
 rintro _ _ ⟨rfl,rfl⟩
 conv=>whnf
 repeat ((first
  | refine Br.t ?_);conv=>whnf)
 refine Sd.rowAt r 1 (by omega) (by omega) rfl ?_
 intro w2 r2 k2
 have r2:DvRow w2 d ch none:=r2.congr (fun j hj=>dvF_set ch _ _ j hj)
 conv=>whnf
 obtain ⟨C1,M1,D1⟩:=h
 have hcd:N.N.c∉[d]:=fun hm=>by
  have:=Row.ne_ M1.chip r (by decide)
  exact this (List.mem_singleton.1 hm)
 exact ⟨rfl,rfl,⟨r2,C1,by rw [← eC];exact M1.chip.keep k2 hcd,D1⟩,k2⟩
theorem DvEnds.of {K1:KS} {P1:CS} {t1:List CS} {K':KS} {P':CS} {t2:List CS} {w1:World}
  (r:DvRow w d ch (some ⟨N.k,0,none⟩)) (h:On w N K P b n X c) (eC:N.N.c=ch) (hq:K1.qu=[]) (T:TdHyp K1 P1) (H:Tended K1 P1 K' P' t2) (hq':K'.qu=[]) {e:Value} (hE:EndsX N X c K1 P1 b t1 w w1 (e=errOf 0) (e=errOf 7)) :
  Spec Tryz.prog 43 #[.pointer (some ⟨d,0,none⟩),e] w1 fun v w'=>Keep (d :: (N.all ++ blk X)) w1 w'∧DvEnds (d :: (N.all ++ blk X)) d ch K' P' b (t1 ++ t2) w w' (v=errOf 0) (v=errOf 7):=by
 obtain ⟨k1,hr1⟩:=hE
 have hne:=r.ne h
 have r1:DvRow w1 d ch (some ⟨N.k,0,none⟩):=Row.keep r k1 (fun hm=>hne (List.mem_append_left _ hm))
 have kk1:Keep (d :: (N.all ++ blk X)) w w1:=k1.mono (fun x hx=>List.mem_cons_of_mem _ (List.mem_append_left _ hx))
 rcases hr1 with ⟨f1,rfl,n1,h1⟩ | ⟨y,hy,hyb,rfl,n1,M1⟩
 ·refine (ended0_ok r1 h1 eC hq T H hq').mono ?_
  rintro v w2 ⟨k2,hr2⟩
  refine ⟨k2,kk1.trans k2,Runs.then f1 (hr2.mono (fun b' ⟨a1,own',a2,a3⟩=>⟨a1,own',a2,fun x hx=>?_⟩) (fun _ h=>h))⟩
  rcases a3 x hx with h | h
  ·exact .inl h
  ·exact .inr (Nat.le_trans k1.size h)
 ·refine (ended7_ok r1 M1 eC).mono ?_
  rintro v w2 ⟨rfl,a1,k2⟩
  have k2:=k2.mono (T:=d :: (N.all ++ blk X)) (fun x hx=>by rw [List.mem_singleton.1 hx];exact List.mem_cons_self ..)
  exact ⟨k2,kk1.trans k2,Runs.gone hy hyb ⟨rfl,a1⟩⟩
set_option maxHeartbeats 2000000 in
theorem dwrite_ok {own:List Nat} (D:DvOn w own d ch K P b) {s e:Nat} (hs:s<24) {A:Option Addr} {f:Nat→Nat} (hA:RdB w A 160 f) (he:160≤e) {K1:KS} {P1:CS} {t1:List CS} (L:Lays s (putD f) K P K1 P1 t1)
  (hq:(lyK K1 s).qu=[]) (T:TdHyp (lyK K1 s) (lyP K1 P1 s (putD f))) {K':KS} {P':CS} {t2:List CS} (H:Tended (lyK K1 s) (lyP K1 P1 s (putD f)) K' P' t2) (hq':K'.qu=[]) :
  Spec Tryz.prog 45 #[.pointer (some ⟨d,0,none⟩),.int .i64 s,.slice A 160 e] w fun v w'=>DvEnds own d ch K' P' b (lyT K1 P1 t1 ++ t2) w w' (v=errOf 0) (v=errOf 7):=by
 obtain ⟨N,X,c,n,rfl,r,h,eC,hqu⟩:=D
 have c1:w.cell? ⟨d,1,none⟩=some (.pointer (some ⟨N.k,0,none⟩)):=Row.cell r 1 (by omega)
 refine spec_of_wpE (T:=tt) tt_ok Tryz.func45 rfl (by decide +kernel) Tryz.ntmps45 (by simp) ?_
 conv=>whnf
 repeat ((first
  | (refine Ld.of c1 ?_)
  | refine CW.s ?_);conv=>whnf)
 refine Ru.of (core_some w _ _) ?_
 conv=>whnf
 repeat ((first
  | refine Br.f ?_);conv=>whnf)
 refine Ca.of (dis_ok s hs w) ?_
 rintro _ _ ⟨rfl,rfl⟩
 conv=>whnf
 repeat ((first
  | (refine Ld.of c1 ?_)
  | refine Br.f ?_|refine Pk.f ?_);conv=>whnf)
 refine Ca.of (put_ok h hs hA he L) ?_
 intro u w1 hu
 conv=>whnf
 refine Ca.of (DvEnds.of r h eC hq T H hq' hu) ?_
 rintro v w2 ⟨-,hv⟩
 conv=>whnf
 exact ⟨rfl,hv⟩
set_option maxHeartbeats 2000000 in
theorem dtrim_ok {own:List Nat} (D:DvOn w own d ch K P b) {s:Nat} (hs:s<24) (h0:K.at_ s≠0) (h96:K.at_ s≤96) {K1:KS} {P1:CS} {t1:List CS} (L:Lays 24 (trimD s (K.en s).seq) K P K1 P1 t1) (ht:(trC (sqK K1) s (K.en s).seq K1.next).told) (h1:(lyK K1 24).at_ s≠0) (h2:(lyK K1 24).at_ s≤96)
  (hq:(drK (flK (lyK K1 24) s (K.en s).seq) s).qu=[]) (T:TdHyp (drK (flK (lyK K1 24) s (K.en s).seq) s) (lyP K1 P1 24 (trimD s (K.en s).seq))) {K':KS} {P':CS} {t2:List CS} (H:Tended (drK (flK (lyK K1 24) s (K.en s).seq) s) (lyP K1 P1 24 (trimD s (K.en s).seq)) K' P' t2) (hq':K'.qu=[]) :
  Spec Tryz.prog 17 #[.pointer (some ⟨d,0,none⟩),.int .i64 s] w fun v w'=>DvEnds own d ch K' P' b (lyT K1 P1 t1 ++ t2) w w' (v=errOf 0) (v=errOf 7):=by
 obtain ⟨N,X,c,n,rfl,r,h,eC,hqu⟩:=D
 have c1:w.cell? ⟨d,1,none⟩=some (.pointer (some ⟨N.k,0,none⟩)):=Row.cell r 1 (by omega)
 refine spec_of_wpE (T:=tt) tt_ok Tryz.func17 rfl (by decide +kernel) Tryz.ntmps17 (by simp) ?_
 conv=>whnf
 repeat ((first
  | (refine Ld.of c1 ?_)
  | refine CW.s ?_);conv=>whnf)
 refine Ru.of (core_some w _ _) ?_
 conv=>whnf
 repeat ((first
  | refine Br.f ?_);conv=>whnf)
 refine Ca.of (dis_ok s hs w) ?_
 rintro _ _ ⟨rfl,rfl⟩
 conv=>whnf
 repeat ((first
  | (refine Ld.of c1 ?_)
  | refine Br.f ?_);conv=>whnf)
 refine Ca.of (trim_ok h hs h0 h96 L ht h1 h2) ?_
 intro u w1 hu
 conv=>whnf
 refine Ca.of (DvEnds.of r h eC hq T H hq' hu) ?_
 rintro v w2 ⟨-,hv⟩
 conv=>whnf
 exact ⟨rfl,hv⟩
set_option maxHeartbeats 2000000 in
theorem dtrim0_ok {own:List Nat} (D:DvOn w own d ch K P b) {s:Nat} (hs:s<24) (h0:K.at_ s=0) (T:TdHyp K P) {K':KS} {P':CS} {t2:List CS} (H:Tended K P K' P' t2) (hq':K'.qu=[]) :
  Spec Tryz.prog 17 #[.pointer (some ⟨d,0,none⟩),.int .i64 s] w fun v w'=>DvEnds own d ch K' P' b t2 w w' (v=errOf 0) (v=errOf 7):=by
 obtain ⟨N,X,c,n,rfl,r,h,eC,hqu⟩:=D
 have c1:w.cell? ⟨d,1,none⟩=some (.pointer (some ⟨N.k,0,none⟩)):=Row.cell r 1 (by omega)
 refine spec_of_wpE (T:=tt) tt_ok Tryz.func17 rfl (by decide +kernel) Tryz.ntmps17 (by simp) ?_
 conv=>whnf
 repeat ((first
  | (refine Ld.of c1 ?_)
  | refine CW.s ?_);conv=>whnf)
 refine Ru.of (core_some w _ _) ?_
 conv=>whnf
 repeat ((first
  | refine Br.f ?_);conv=>whnf)
 refine Ca.of (dis_ok s hs w) ?_
 rintro _ _ ⟨rfl,rfl⟩
 conv=>whnf
 repeat ((first
  | (refine Ld.of c1 ?_)
  | refine Br.f ?_);conv=>whnf)
 refine Ca.of (trim_none h hs h0) ?_
 intro u w1 hu
 conv=>whnf
 refine Ca.of (DvEnds.of (t1:=[]) r h eC hqu T H hq' hu) ?_
 rintro v w2 ⟨-,hv⟩
 conv=>whnf
 exact ⟨rfl,hv⟩
def RdEnds (own:List Nat) (d ch:Nat) (K':KS) (P':CS) (b:Option Nat) (tr:List CS) (f:Nat→Nat) (w:World) (v:Value) (w':World):Prop :=
 DvEnds own d ch K' P' b tr w w' (∃ Y e,v = .tuple #[.slice Y 160 e,errOf 0]∧Ly w' 5 1 Y 160 e (fun j=>.int .u8 (f j:Nat))∧∀ x,x∈blk Y→w.heap.size≤x) (v = .tuple #[.slice none 0 0,errOf 7])
theorem DvOn.own_lt {own:List Nat} (D:DvOn w own d ch K P b):∀ x,x∈own→x<w.heap.size:=by
 obtain ⟨N,X,c,n,rfl,r,h,eC,hqu⟩:=D
 intro x hx
 rcases List.mem_cons.1 hx with rfl | hx
 ·exact Row.lt r
 ·rcases List.mem_append.1 hx with hx | hx
  ·rcases List.mem_append.1 hx with hx | hx
   ·exact h.core.lt (List.mem_append_left _ hx)
   ·exact h.l_lt _ hx
  ·exact h.core.lt (List.mem_append_right _ hx)
set_option maxHeartbeats 2000000 in
theorem dread0_ok {own:List Nat} (D:DvOn w own d ch K P b) {s:Nat} (hs:s<24) (h0:K.at_ s=0) (T:TdHyp K P) {K':KS} {P':CS} {t2:List CS} (H:Tended K P K' P' t2) (hq':K'.qu=[]) :
  Spec Tryz.prog 22 #[.pointer (some ⟨d,0,none⟩),.int .i64 s] w fun v w'=>RdEnds own d ch K' P' b t2 (fun _=>0) w v w':=by
 have hlt:=D.own_lt
 obtain ⟨N,X,c,n,rfl,r,h,eC,hqu⟩:=D
 have c1:w.cell? ⟨d,1,none⟩=some (.pointer (some ⟨N.k,0,none⟩)):=Row.cell r 1 (by omega)
 refine spec_of_wpE (T:=tt) tt_ok Tryz.func22 rfl (by decide +kernel) Tryz.ntmps22 (by simp) ?_
 conv=>whnf
 repeat ((first
  | (refine Ld.of c1 ?_)
  | refine CW.s ?_);conv=>whnf)
 refine Ru.of (core_some w _ _) ?_
 conv=>whnf
 repeat ((first
  | refine Br.f ?_);conv=>whnf)
 refine Ca.of (dis_ok s hs w) ?_
 rintro _ _ ⟨rfl,rfl⟩
 conv=>whnf
 repeat ((first
  | (refine Ld.of c1 ?_)
  | refine Br.f ?_);conv=>whnf)
 refine Ca.of (cget_none h hs h0) ?_
 rintro _ w1 ⟨Y,e,rfl,hY,k1⟩
 conv=>whnf
 repeat ((first
  | refine CW.s ?_);conv=>whnf)
 refine Ca.of (DvEnds.of (t1:=[]) r h eC hqu T H hq' (e:=errOf 0) (w1:=w1) ⟨Keep.of0 k1,Runs.nil ⟨rfl,n,h.keep0 k1⟩⟩) ?_
 rintro v w2 ⟨k12,k2,hr2⟩
 have hY2:Ly w2 5 1 Y 160 e (fun _=>.int .u8 ((0:Nat):Int)):=hY.ly.keep k12 (fun x hx hm=>by
  have:=hY.new x hx
  have:=hlt x hm
  omega)
 rcases hr2 with ⟨f2,rfl,h2⟩ | ⟨y,hy,hyb,rfl,h2⟩
 ·conv=>whnf
  repeat ((first
   | refine Br.f ?_|refine Ru.neq_nil0 ?_);conv=>whnf)
  exact ⟨rfl,k2,.inl ⟨f2,⟨Y,e,rfl,hY2,hY.new⟩,h2⟩⟩
 ·conv=>whnf
  repeat ((first
   | refine Br.t ?_|refine Ru.n1 ?_);conv=>whnf)
  exact ⟨rfl,k2,.inr ⟨y,hy,hyb,rfl,h2⟩⟩
set_option maxHeartbeats 2000000 in
theorem dread_ok {own:List Nat} (D:DvOn w own d ch K P b) {s:Nat} (hs:s<24) (B:Hl.HB K.F) (h0:K.at_ s≠0) (h96:K.at_ s≤96) (hl:K.ow (K.at_ s - 1)≤25) {t:Tg} {F:Nat→Nat} (hp:P.pg (K.at_ s - 1) = .full t F) (hto:t.of=s) (hen:K.en s=⟨t.seq,t.copy,false⟩) (hdm:P.dm (K.at_ s - 1)<2)
  (T:TdHyp (rdK K (K.at_ s - 1)) (P.readE (K.at_ s - 1))) {K':KS} {P':CS} {t2:List CS} (H:Tended (rdK K (K.at_ s - 1)) (P.readE (K.at_ s - 1)) K' P' t2) (hq':K'.qu=[]) :
  Spec Tryz.prog 22 #[.pointer (some ⟨d,0,none⟩),.int .i64 s] w fun v w'=>RdEnds own d ch K' P' b t2 F w v w':=by
 have hlt:=D.own_lt
 obtain ⟨N,X,c,n,rfl,r,h,eC,hqu⟩:=D
 have c1:w.cell? ⟨d,1,none⟩=some (.pointer (some ⟨N.k,0,none⟩)):=Row.cell r 1 (by omega)
 refine spec_of_wpE (T:=tt) tt_ok Tryz.func22 rfl (by decide +kernel) Tryz.ntmps22 (by simp) ?_
 conv=>whnf
 repeat ((first
  | (refine Ld.of c1 ?_)
  | refine CW.s ?_);conv=>whnf)
 refine Ru.of (core_some w _ _) ?_
 conv=>whnf
 repeat ((first
  | refine Br.f ?_);conv=>whnf)
 refine Ca.of (dis_ok s hs w) ?_
 rintro _ _ ⟨rfl,rfl⟩
 conv=>whnf
 repeat ((first
  | (refine Ld.of c1 ?_)
  | refine Br.f ?_);conv=>whnf)
 refine Ca.of (cget_ok h B hs h0 h96 hl hp hto hen hdm) ?_
 rintro _ w1 ⟨Y,e,rfl,hY,h1,k1⟩
 conv=>whnf
 repeat ((first
  | refine CW.s ?_);conv=>whnf)
 refine Ca.of (DvEnds.of (t1:=[]) r h eC (K1:=rdK K (K.at_ s - 1)) hqu T H hq' (e:=errOf 0) (w1:=w1) ⟨k1,Runs.nil ⟨rfl,_,h1⟩⟩) ?_
 rintro v w2 ⟨k12,k2,hr2⟩
 have hY2:Ly w2 5 1 Y 160 e (fun j=>.int .u8 (F j:Nat)):=hY.ly.keep k12 (fun x hx hm=>by
  have:=hY.new x hx
  have:=hlt x hm
  omega)
 rcases hr2 with ⟨f2,rfl,h2⟩ | ⟨y,hy,hyb,rfl,h2⟩
 ·conv=>whnf
  repeat ((first
   | refine Br.f ?_|refine Ru.neq_nil0 ?_);conv=>whnf)
  exact ⟨rfl,k2,.inl ⟨f2,⟨Y,e,rfl,hY2,hY.new⟩,h2⟩⟩
 ·conv=>whnf
  repeat ((first
   | refine Br.t ?_|refine Ru.n1 ?_);conv=>whnf)
  exact ⟨rfl,k2,.inr ⟨y,hy,hyb,rfl,h2⟩⟩
end
def DmEnds (d ch:Nat) (K':KS) (P':CS) (b:Option Nat) (tr:List CS) (w:World) (v:Value) (w':World):Prop :=
 Keep [d,ch] w w'∧Runs b tr (fun b'=>v=errOf 0∧∃ own',DvOn w' own' d ch K' P' b'∧∀ x,x∈own'→x=d∨x=ch∨w.heap.size≤x) (fun Q=>v=errOf 7∧DvOff w' d ch Q)
set_option maxHeartbeats 2000000 in
theorem dmount_ok {w:World} {d ch:Nat} {C:Chip} {P:CS} {b:Option Nat} (r:DvRow w d ch none) (H:ChipAt w ch C) (hA:Abs C P) (hl:C.left b) (hc:P.calm) {K':KS} {P':CS} {tr:List CS} (M:Mounts P K' P' tr) (hq:K'.qu=[]) :
  Spec Tryz.prog 32 #[.pointer (some ⟨d,0,none⟩)] w (DmEnds d ch K' P' b tr w):=by
 have c0:w.cell? ⟨d,0,none⟩=some (.pointer (some ⟨ch,0,none⟩)):=Row.cell r 0 (by omega)
 have c1:w.cell? ⟨d,1,none⟩=some (.pointer none):=Row.cell r 1 (by omega)
 have hdc:d≠ch:=Row.ne_ r H (by decide)
 have hdl:d<w.heap.size:=Row.lt r
 refine spec_of_wpE (T:=tt) tt_ok Tryz.func32 rfl (by decide +kernel) Tryz.ntmps32 (by simp) ?_
 conv=>whnf
 repeat ((first
  | (refine Ld.of c1 ?_)
  | refine CW.s ?_);conv=>whnf)
 refine Ru.of (core_none w _) ?_
 conv=>whnf
 repeat ((first
  | (refine Ld.of c0 ?_)
  | refine Br.f ?_);conv=>whnf)
 refine Ca.of (mount_ok H hA hl hc M) ?_
 rintro _ w1 ⟨k1,hr1⟩
 have r1:DvRow w1 d ch none:=Row.keep r k1 (by simpa using hdc)
 have kk:Keep [d,ch] w w1:=k1.mono (by simp)
 rcases hr1 with ⟨f1,N,n1,rfl,eC,h1,hall⟩ | ⟨y,hy,hyb,rfl,C1,H1,D1⟩
 ·conv=>whnf
  repeat ((first
   | refine Br.f ?_|refine Ru.neq_nil0 ?_|refine CW.s ?_);conv=>whnf)
  refine Sd.rowAt r1 1 (by omega) (by omega) rfl ?_
  intro w2 r2 k2
  have r2:DvRow w2 d ch (some ⟨N.k,0,none⟩):=r2.congr (fun j hj=>dvF_set ch _ _ j hj)
  have h2:=h1.away r1 (by decide) k2
  conv=>whnf
  refine ⟨rfl,kk.trans (k2.mono (by simp)),.inl ⟨f1,rfl,_,⟨N,none,0,n1,rfl,r2,h2,eC,hq⟩,fun x hx=>?_⟩⟩
  rcases List.mem_cons.1 hx with rfl | hx
  ·exact .inl rfl
  ·rcases List.mem_append.1 hx with hx | hx
   ·exact .inr (hall x hx)
   ·cases hx
 ·conv=>whnf
  repeat ((first
   | refine Br.t ?_|refine Ru.n1 ?_|refine CW.s ?_);conv=>whnf)
  exact ⟨rfl,kk,.inr ⟨y,hy,hyb,rfl,r1,C1,H1,D1⟩⟩
theorem Inv.tdh {K:KS} {P:CS} {k:Cp} {m:Int} (I:Inv K P k m):TdHyp K P:=⟨I.td_hyp.1,I.td_hyp.2.1,I.td_hyp.2.2.1,I.td_hyp.2.2.2⟩
structure CallEnd (K:KS) (P:CS) (m:Int) (a a':Nat→Nat→Nat) (K':KS) (P':CS) (k':Cp) (t1 t2:List CS):Prop where
 inv:Inv K' P' k' (m+2)
 qu:K'.qu=[]
 next:K.next≤K'.next
 t1:∀ T,T∈t1→Tl T (m+2) a
 t2:∀ T,T∈t2→Tl T (m+2) a'
 sh:Shows P' K'.at_ a'
 st:0≤K.calls→K.calls<8→(0≤K'.calls∧K'.calls<8∧Hl.dueB K'.F=false)∧∀ J,Stab J→∀ n,J n K P→J (n+130) K' P'
theorem dev_write {K:KS} {P:CS} {k:Cp} {m:Int} (I:Inv K P k m) (hq:K.qu=[]) (hm:m+1<1099511627775) {s:Nat} (hs:s<24) {f:Nat→Nat} (hf:∀ j,f j<256):∃ K' P' k' t1 t2,(∀ a,Shows P K.at_ a→CallEnd K P m a (setA a s f) K' P' k' t1 t2) ∧
  ∀ {w:World} {own:List Nat} {d ch:Nat} {b:Option Nat} {A:Option Addr} {e:Nat},DvOn w own d ch K P b→RdB w A 160 f→160≤e→Spec Tryz.prog 45 #[.pointer (some ⟨d,0,none⟩),.int .i64 s,.slice A 160 e] w fun v w'=>DvEnds own d ch K' P' b (t1 ++ t2) w w' (v=errOf 0) (v=errOf 7):=by
 obtain ⟨K1,P1,t1,L,I1,q1,s1,n1,_,c1,z1⟩:=put_end I (by omega) hs hf
 obtain ⟨K',P',t2,k',T2,I2,q2,n2,z2,s2⟩:=td_end I1 hm
 refine ⟨K',P',k',lyT K1 P1 t1,t2,fun a hsh=>?_,fun D hA he=>dwrite_ok D hs hA he L (q1.trans hq) I1.tdh T2 q2⟩
 obtain ⟨b1,b2⟩:=s1 a hsh
 obtain ⟨d1,d2⟩:=s2 _ b2
 exact ⟨I2.mono (by omega),q2,by omega,fun T hT=>(b1 T hT).tl (by omega),fun T hT=>(d1 T hT).mono (by omega),d2,fun h0 h8=>⟨(z2 (by rw [c1];omega) (by rw [c1];omega)).1,fun J S n j=>S.mono (by omega) ((z2 (by rw [c1];omega) (by rw [c1];omega)).2 J S (n+9) (z1 J S n j))⟩⟩
theorem dev_trim {K:KS} {P:CS} {k:Cp} {m:Int} (I:Inv K P k m) (hq:K.qu=[]) (hm:m+1<1099511627775) {s:Nat} (hs:s<24):∃ K' P' k' t1 t2,(∀ a,Shows P K.at_ a→CallEnd K P m a (setA a s (fun _=>0)) K' P' k' t1 t2) ∧
  ∀ {w:World} {own:List Nat} {d ch:Nat} {b:Option Nat},DvOn w own d ch K P b→Spec Tryz.prog 17 #[.pointer (some ⟨d,0,none⟩),.int .i64 s] w fun v w'=>DvEnds own d ch K' P' b (t1 ++ t2) w w' (v=errOf 0) (v=errOf 7):=by
 by_cases h0:K.at_ s=0
 ·obtain ⟨K',P',t2,k',T2,I2,q2,n2,z2,s2⟩:=td_end I (by omega)
  refine ⟨K',P',k',[],t2,fun a hsh=>?_,fun D=>dtrim0_ok D hs h0 I.tdh T2 q2⟩
  have hsh':Shows P K.at_ (setA a s (fun _=>0)):=fun o j ho hj=>by
   unfold setA
   by_cases hos:o=s
   ·rw [if_pos hos,hos]
    unfold arr
    rw [if_pos h0]
   ·rw [if_neg hos]
    exact hsh o j ho hj
  obtain ⟨d1,d2⟩:=s2 _ hsh'
  exact ⟨I2.mono (by omega),q2,n2,(fun _ h=>nomatch h),fun T hT=>(d1 T hT).mono (by omega),d2,fun h0 h8=>⟨(z2 h0 h8).1,fun J S n j=>S.mono (by omega) ((z2 h0 h8).2 J S n j)⟩⟩
 ·obtain ⟨K1,P1,t1,k1,L,w1,h1,h2,I1,q1,s1,n1,_,c1,z1⟩:=trim_end I (by omega) hs h0
  obtain ⟨K',P',t2,k',T2,I2,q2,n2,z2,s2⟩:=td_end I1 hm
  refine ⟨K',P',k',lyT K1 P1 t1,t2,fun a hsh=>?_,fun D=>dtrim_ok D hs h0 (I.l.ok.led.lt (by omega)) L w1 h1 h2 (q1.trans hq) I1.tdh T2 q2⟩
  obtain ⟨b1,b2⟩:=s1 a hsh
  obtain ⟨d1,d2⟩:=s2 _ b2
  exact ⟨I2.mono (by omega),q2,by omega,fun T hT=>(b1 T hT).tl (by omega),fun T hT=>(d1 T hT).mono (by omega),d2,fun h0 h8=>⟨(z2 (by rw [c1];omega) (by rw [c1];omega)).1,fun J S n j=>S.mono (by omega) ((z2 (by rw [c1];omega) (by rw [c1];omega)).2 J S (n+9) (z1 J S n j))⟩⟩
theorem dev_read {K:KS} {P:CS} {k:Cp} {m:Int} (I:Inv K P k m) (hq:K.qu=[]) (hm:m+1<1099511627775) {s:Nat} (hs:s<24):∃ K' P' k' t2 F,(∀ a,Shows P K.at_ a→CallEnd K P m a a K' P' k' [] t2∧∀ j,j<160→F j=a s j) ∧
  ∀ {w:World} {own:List Nat} {d ch:Nat} {b:Option Nat},DvOn w own d ch K P b→Spec Tryz.prog 22 #[.pointer (some ⟨d,0,none⟩),.int .i64 s] w fun v w'=>RdEnds own d ch K' P' b t2 F w v w':=by
 by_cases h0:K.at_ s=0
 ·obtain ⟨K',P',t2,k',T2,I2,q2,n2,z2,s2⟩:=td_end I (by omega)
  refine ⟨K',P',k',t2,fun _=>0,fun a hsh=>⟨?_,fun j hj=>?_⟩,fun D=>dread0_ok D hs h0 I.tdh T2 q2⟩
  ·obtain ⟨d1,d2⟩:=s2 _ hsh
   exact ⟨I2.mono (by omega),q2,n2,(fun _ h=>nomatch h),fun T hT=>(d1 T hT).mono (by omega),d2,fun h0 h8=>⟨(z2 h0 h8).1,fun J S n j=>S.mono (by omega) ((z2 h0 h8).2 J S n j)⟩⟩
  ·have:=hsh s j hs hj
   unfold arr at this
   rw [if_pos h0] at this
   exact this
 ·obtain ⟨hp,t,D,a2,a3,a4,a5,a6,a7,a8⟩:=I.l.page (o:=s) (by omega) h0
  have I1:=I.read hp
  obtain ⟨K',P',t2,k',T2,I2,q2,n2,z2,s2⟩:=td_end I1 (by omega)
  refine ⟨K',P',k',t2,D,fun a hsh=>⟨?_,fun j hj=>?_⟩,fun Dv=>dread_ok Dv hs I.h.hb h0 (I.l.ok.led.lt (by omega)) (I.l.con.mw.lo _ hp) a2 a4 a3 (by rw [I.l.ok.gd.calm.d];omega) I1.tdh T2 q2⟩
  ·obtain ⟨d1,d2⟩:=s2 a (Shows.same (P':=P.readE (K.at_ s - 1)) hsh (fun o _ _=>rfl))
   exact ⟨I2.mono (by omega),q2,n2,(fun _ h=>nomatch h),fun T hT=>(d1 T hT).mono (by omega),d2,fun h0 h8=>⟨(z2 h0 h8).1,fun J S n j=>S.mono (by omega) ((z2 h0 h8).2 J S (n+1) (S.rd hp j))⟩⟩
  ·have:=hsh s j hs hj
   unfold arr dataAt at this
   rw [if_neg h0,a2] at this
   exact this
theorem fd_sound {t:Tg} {p:Nat} (h:t.ok) (hp:p<96):(fdOf p t).sound=true:=by
 unfold Fd.sound fdOf
 unfold Tg.ok at h
 refine decide_eq_true ?_
 simp only
 omega
theorem fd_place (p:Nat) (t:Tg):(fdOf p t).place=(p:Nat):=rfl
def fd1 (P:CS) (p:Nat):List Fd:=match P.pg p with
 | .full t D=>[fdOf p t]
 | _=>[]
theorem fdsTo_succ (P:CS) (p:Nat):fdsTo P (p+1)=fdsTo P p ++ fd1 P p:=by
 unfold fd1
 cases e:P.pg p with
 | full t D=>exact fdsTo_full e
 | blank=>rw [fdsTo_not (fun t D h=>by rw [e] at h;cases h),List.append_nil]
 | torn n=>rw [fdsTo_not (fun t D h=>by rw [e] at h;cases h),List.append_nil]
theorem fd1_full {P:CS} {p:Nat} {t:Tg} {D:Nat→Nat} (h:P.pg p = .full t D):fd1 P p=[fdOf p t]:=by
 unfold fd1
 rw [h]
theorem fd1_mem {P:CS} {p:Nat} {f:Fd} (h:f∈fd1 P p):∃ t D,P.pg p = .full t D∧f=fdOf p t:=by
 unfold fd1 at h
 cases e:P.pg p with
 | full t D =>
  rw [e] at h
  exact ⟨t,D,rfl,List.mem_singleton.1 h⟩
 | blank=>rw [e] at h;cases h
 | torn n=>rw [e] at h;cases h
theorem fdsTo_mem {P:CS}:∀ {n:Nat} {f:Fd},f∈fdsTo P n→∃ p t D,p<n∧P.pg p = .full t D∧f=fdOf p t
 | 0,f,h=>by rw [fdsTo_zero] at h;cases h
 | n+1,f,h=>by
  rw [fdsTo_succ] at h
  rcases List.mem_append.1 h with h | h
  ·obtain ⟨p,t,D,a,b⟩:=fdsTo_mem h
   exact ⟨p,t,D,by omega,b⟩
  ·obtain ⟨t,D,a,b⟩:=fd1_mem h
   exact ⟨n,t,D,by omega,a,b⟩
theorem sel_append (L M:List Fd) (p:Nat):sel (L ++ M) p=sel L p ++ sel M p:=by
 unfold sel
 rw [List.filter_append]
theorem sel_fd1 {P:CS} (hv:P.val) {n p:Nat} (hn:n<96):sel (fd1 P n) p=if n=p then fd1 P n else []:=by
 unfold fd1
 cases e:P.pg n with
 | full t D =>
  have hs:=fd_sound (hv n t D hn e).1 hn
  unfold sel
  by_cases h:n=p
  ·subst h
   simp [hs,fd_place]
  ·have:((n:Int) == (p:Int))=false:=by
    simp
    omega
   simp [hs,fd_place,h,this]
 | blank=>simp [sel]
 | torn k=>simp [sel]
theorem sel_fds {P:CS} (hv:P.val) {p:Nat}:∀ {n:Nat},n≤96→sel (fdsTo P n) p=if p<n then fd1 P p else []
 | 0,_=>by rw [fdsTo_zero];rfl
 | n+1,hn=>by
  rw [fdsTo_succ,sel_append,sel_fds hv (n:=n) (by omega),sel_fd1 hv (by omega)]
  by_cases h:p<n
  ·rw [if_pos h,if_neg (show ¬ n=p by omega),if_pos (show p<n+1 by omega),List.append_nil]
  ·rw [if_neg h]
   by_cases h2:n=p
   ·subst h2
    rw [if_pos rfl,if_pos (show n<n+1 by omega),List.nil_append]
   ·rw [if_neg h2,if_neg (show ¬ p<n+1 by omega),List.nil_append]
theorem byP_fds {P:CS} (hv:P.val):∀ {k:Nat},k≤96→byP (fdsTo P 96) k=fdsTo P k
 | 0,_=>by rw [fdsTo_zero];rfl
 | k+1,hk=>by
  have ih:=byP_fds hv (k:=k) (by omega)
  unfold byP at ih ⊢
  rw [List.range_succ,List.flatMap_append,ih,fdsTo_succ P k,List.flatMap_singleton,sel_fds hv (by omega),if_pos (by omega)]
theorem newestF_app (L M:List Fd) (of above:Int):newestF (L ++ M) of above=M.foldl (newStep of above) (newestF L of above):=by
 unfold newestF
 rw [List.foldl_append]
theorem ahead_one {a b:Int} (ha:0≤a∧a≤255) (hb:b=(a+1) % 256):ahead a b=true∧ahead b a=false:=by
 unfold ahead
 constructor
 ·exact decide_eq_true (by omega)
 ·exact decide_eq_false (by omega)
theorem newest_cnt {P:CS} (hv:P.val) {o:Nat} {fl:Int} {p:Nat} (h:Cnt P o fl p) {t:Tg} {D:Nat→Nat} (hp:P.pg p = .full t D):∀ n,n≤96 →
  (p<n→newestF (fdsTo P n) o fl=(fdOf p t,true))∧(n≤p→(newestF (fdsTo P n) o fl).2=false∨((newestF (fdsTo P n) o fl).1.seq<t.seq∨(newestF (fdsTo P n) o fl).1.seq=t.seq∧(newestF (fdsTo P n) o fl).1.copy=(t.copy+1) % 256))
 | 0,_=>⟨fun h=>by omega,fun _=>.inl (by rw [fdsTo_zero];rfl)⟩
 | n+1,hn=>by
  obtain ⟨hp96,t',D',e1,e2,e3,e4⟩:=h
  rw [hp] at e1
  cases e1
  obtain ⟨ih1,ih2⟩:=newest_cnt hv ⟨hp96,t,D,hp,e2,e3,e4⟩ hp n (by omega)
  have htok:=(hv p t D hp96 hp).1
  unfold Tg.ok at htok
  rw [fdsTo_succ,newestF_app]
  by_cases hnp:n=p
  ·subst hnp
   rw [fd1_full hp]
   refine ⟨fun _=>?_,fun h=>by omega⟩
   rw [List.foldl_cons,List.foldl_nil]
   rcases ih2 (Nat.le_refl _) with h | h
   ·generalize newestF (fdsTo P n) o fl=s at *
    obtain ⟨b,has⟩:=s
    exact newStep_take e2 e3 (.inl h)
   ·generalize newestF (fdsTo P n) o fl=s at *
    obtain ⟨b,has⟩:=s
    refine newStep_take e2 e3 ?_
    rcases h with h | ⟨h1,h2⟩
    ·exact .inr (.inl h)
    ·exact .inr (.inr ⟨h1.symm,(ahead_one (by omega) h2).1⟩)
  ·cases hq:P.pg n with
   | blank =>
    have:fd1 P n=[]:=by unfold fd1;rw [hq]
    rw [this,List.foldl_nil]
    exact ⟨fun h=>ih1 (by omega),fun h=>ih2 (by omega)⟩
   | torn k =>
    have:fd1 P n=[]:=by unfold fd1;rw [hq]
    rw [this,List.foldl_nil]
    exact ⟨fun h=>ih1 (by omega),fun h=>ih2 (by omega)⟩
   | full t1 D1 =>
    rw [fd1_full hq,List.foldl_cons,List.foldl_nil]
    have hle:=fun h=>e4 n t1 D1 (by omega) hnp hq h
    have ht1:=(hv n t1 D1 (by omega) hq).1
    unfold Tg.ok at ht1
    constructor
    ·intro h
     rw [ih1 (by omega)]
     refine newStep_skip ?_
     by_cases ho:t1.of=o
     ·rcases hle ho with h1 | ⟨h1,h2⟩
      ·exact .inr (.inr ⟨rfl,by show t1.seq≤t.seq;omega,.inl (by show t1.seq≠t.seq;omega)⟩)
      ·exact .inr (.inr ⟨rfl,by show t1.seq≤t.seq;omega,.inr (ahead_one (by omega) h2).2⟩)
     ·exact .inl ho
    ·intro h
     have ih2:=ih2 (by omega)
     generalize newestF (fdsTo P n) o fl=s at *
     obtain ⟨b,has⟩:=s
     unfold newStep
     by_cases hsk:(fdOf n t1).of≠(o:Int)∨(fdOf n t1).seq≤fl
     ·rw [if_pos hsk]
      exact ih2
     ·rw [if_neg hsk]
      have ho:t1.of=o:=by
       by_cases h:t1.of=o
       ·exact h
       ·exact absurd (.inl h) hsk
      split
      ·exact .inr (hle ho)
      ·exact ih2
theorem newest_no {P:CS} {o:Nat} {fl:Int} (h:NoCnt P o fl):∀ n,n≤96→newestF (fdsTo P n) o fl=(Fd.zero,false)
 | 0,_=>by rw [fdsTo_zero];rfl
 | n+1,hn=>by
  rw [fdsTo_succ,newestF_app,newest_no h n (by omega)]
  cases hq:P.pg n with
  | blank =>
   have:fd1 P n=[]:=by unfold fd1;rw [hq]
   rw [this,List.foldl_nil]
  | torn k =>
   have:fd1 P n=[]:=by unfold fd1;rw [hq]
   rw [this,List.foldl_nil]
  | full t1 D1 =>
   rw [fd1_full hq,List.foldl_cons,List.foldl_nil]
   refine newStep_skip ?_
   by_cases ho:t1.of=o
   ·exact .inr (.inl (h n t1 D1 (by omega) hq ho))
   ·exact .inl ho
theorem good_fds {P:CS} {k:Cp} (hb:∀ b,b<12→k.bad b=false):goodF (fdsTo P 96) k=fdsTo P 96:=by
 unfold goodF
 refine List.filter_eq_self.2 (fun f hf=>?_)
 obtain ⟨p,t,D,a,b,rfl⟩:=fdsTo_mem hf
 unfold okB
 rw [show ((fdOf p t).place / 8).toNat=p / 8 by rw [fd_place];omega,hb (p / 8) (by omega)]
 rfl
theorem above_floor (k:Cp) {o:Nat} (ho:o<25):aboveF k o=floor k o:=by
 unfold aboveF floor
 by_cases h:o=24
 ·subst h
  rfl
 ·rw [if_pos (by omega),if_neg h]
theorem live_fds {P:CS} {k:Cp} {L:Nat→Nat} {m:Int} (h:Okay P k L m) {o:Nat} (ho:o<25):liveF (fdsTo P 96) k o=if L o=0 then -1 else ((L o - 1:Nat):Int):=by
 unfold liveF
 rw [byP_fds h.gd.val (Nat.le_refl _),good_fds h.led.bad,above_floor k ho]
 by_cases e:L o=0
 ·rw [if_pos e,newest_no (h.led.no o ho e) 96 (Nat.le_refl _)]
  rfl
 ·rw [if_neg e]
  have hc:=h.led.yes o ho e
  obtain ⟨hp,t,D,e1,_⟩:=hc
  rw [(newest_cnt h.gd.val (h.led.yes o ho e) e1 96 (Nat.le_refl _)).1 hp]
  rfl
theorem newest_point {P:CS} {k:Cp} {L:Nat→Nat} {m:Int} (h:Okay P k L m):∃ t D,P.pg (L 24 - 1) = .full t D∧t.of=24∧L 24 - 1<96∧newestF (byP (fdsTo P 96) 96) 24 (-1)=(fdOf (L 24 - 1) t,true):=by
 have hc:=h.led.yes 24 (by omega) h.led.pt
 obtain ⟨hp,t,D,e1,e2,_⟩:=hc
 rw [byP_fds h.gd.val (Nat.le_refl _)]
 exact ⟨t,D,e1,e2,hp,(newest_cnt h.gd.val (h.led.yes 24 (by omega) h.led.pt) e1 96 (Nat.le_refl _)).1 hp⟩
theorem fnd_fds {P:CS} {o p:Nat} {t:Tg} {D:Nat→Nat} (hp:P.pg p = .full t D) (hto:t.of=o) (hs:0≤t.seq):∀ n,(n≤p→fndF (fdsTo P n) o p=En.zero)∧(p<n→fndF (fdsTo P n) o p=⟨t.seq,t.copy,t.lost⟩)
 | 0=>⟨fun _=>by rw [fdsTo_zero];rfl,fun h=>by omega⟩
 | n+1=>by
  obtain ⟨ih1,ih2⟩:=fnd_fds hp hto hs n
  rw [fdsTo_succ]
  by_cases hn:n=p
  ·subst hn
   rw [fd1_full hp,fndF_snoc,ih1 (Nat.le_refl _)]
   refine ⟨fun h=>by omega,fun _=>if_pos ⟨rfl,hto,hs⟩⟩
  ·have hst:fndF (fdsTo P n ++ fd1 P n) o p=fndF (fdsTo P n) o p:=by
    cases hq:P.pg n with
    | blank =>
     have:fd1 P n=[]:=by unfold fd1;rw [hq]
     rw [this,List.append_nil]
    | torn k =>
     have:fd1 P n=[]:=by unfold fd1;rw [hq]
     rw [this,List.append_nil]
    | full t1 D1 =>
     rw [fd1_full hq,fndF_snoc]
     exact if_neg (fun h=>hn (by have:=h.1;rw [fd_place] at this;omega))
   rw [hst]
   exact ⟨fun h=>ih1 (by omega),fun h=>ih2 (by omega)⟩
theorem flTop_ge (c:Cp) (t:Int):∀ n,t≤flTop c t n∧∀ j,j<n→c.fl j≤flTop c t n
 | 0=>⟨Int.le_refl _,fun j h=>by omega⟩
 | n+1=>by
  obtain ⟨h1,h2⟩:=flTop_ge c t n
  unfold flTop
  refine ⟨by omega,fun j hj=>?_⟩
  by_cases h:j=n
  ·subst h
   omega
  ·have:=h2 j (by omega)
   omega
theorem flTop_lt {c:Cp} {t x:Int} (ht:t<x):∀ {n},(∀ j,j<n→c.fl j<x)→flTop c t n<x
 | 0,_=>ht
 | n+1,h=>by
  have h1:=flTop_lt ht (n:=n) (fun j hj=>h j (by omega))
  have h2:=h n (by omega)
  unfold flTop
  omega
theorem seqTop_ge (t:Int) (L:List Fd):t≤seqTop L t∧∀ f,f∈L→f.sound=true→f.seq≤seqTop L t:=by
 induction L using snoc_rec with
 | h0=>exact ⟨Int.le_refl _,(fun _ h=>nomatch h)⟩
 | h1 L f ih =>
  rw [seqTop_snoc]
  unfold seqStep
  constructor
  ·split<;>omega
  ·intro g hg hs
   rcases List.mem_append.1 hg with hg | hg
   ·have:=ih.2 g hg hs
    split<;>omega
   ·rw [List.mem_singleton.1 hg] at hs ⊢
    rw [if_pos hs]
    omega
theorem seqTop_lt {t x:Int} (ht:t<x) (L:List Fd) (h:∀ f,f∈L→f.seq<x):seqTop L t<x:=by
 induction L using snoc_rec with
 | h0=>exact ht
 | h1 L f ih =>
  rw [seqTop_snoc]
  have h1:=ih (fun g hg=>h g (List.mem_append_left _ hg))
  have h2:=h f (List.mem_append_right _ (List.mem_singleton.2 rfl))
  unfold seqStep
  split<;>omega
theorem next_fds {P:CS} {k:Cp} {L:Nat→Nat} {m:Int} (h:Okay P k L m) (hm:m≤1099511627775):(∀ p t D,p<96→P.pg p = .full t D→t.seq<nextF (fdsTo P 96) k)∧1≤nextF (fdsTo P 96) k∧nextF (fdsTo P 96) k≤m∧∀ o,o<24→k.fl o<nextF (fdsTo P 96) k:=by
 have h0:=h.led.told.next
 have hfl:=h.fl
 have t1:flTop k (max k.next 0 - 1) 24<m:=flTop_lt (by omega) (fun j hj=>hfl.2 j hj)
 have t2:topOf (fdsTo P 96) k<m:=seqTop_lt t1 _ (fun f hf=>by
  obtain ⟨p,t,D,a,b,rfl⟩:=fdsTo_mem hf
  exact h.sq p t D a b)
 obtain ⟨g1,g2⟩:=seqTop_ge (flTop k (max k.next 0 - 1) 24) (fdsTo P 96)
 obtain ⟨g3,g4⟩:=flTop_ge k (max k.next 0 - 1) 24
 have e:nextF (fdsTo P 96) k=topOf (fdsTo P 96) k+1:=by
  unfold nextF
  omega
 have hseq:∀ p t D,p<96→P.pg p = .full t D→t.seq<nextF (fdsTo P 96) k:=fun p t D hp hpg=>by
  have hin:∀ n,p<n→n≤96→fdOf p t∈fdsTo P n:=fun n=>by
   induction n with
   | zero=>exact fun h=>by omega
   | succ n ih =>
    intro h1 h2
    rw [fdsTo_succ]
    by_cases h3:p=n
    ·subst h3
     rw [fd1_full hpg]
     exact List.mem_append_right _ (List.mem_singleton.2 rfl)
    ·exact List.mem_append_left _ (ih (by omega) (by omega))
  have:=g2 _ (hin 96 hp (Nat.le_refl _)) (fd_sound (h.gd.val p t D hp hpg).1 hp)
  have h9:t.seq≤topOf (fdsTo P 96) k:=this
  omega
 refine ⟨hseq,?_,by omega,fun o ho=>?_⟩
 ·obtain ⟨t,D,a,b,c,_⟩:=newest_point h
  have:=hseq _ t D c a
  have h7:=(h.gd.val _ t D c a).1
  unfold Tg.ok at h7
  omega
 ·have:=g4 o ho
  have h9:flTop k (max k.next 0 - 1) 24≤topOf (fdsTo P 96) k:=g1
  omega
end Go.Proofs.YtaeikigfgfcadaaGreat
namespace Go.Proofs.YtaeikigfgfcadaaGreat
open Go.RowKit
theorem n1_all {P:CS} {k:Cp} {L:Nat→Nat} {m:Int} (h:Okay P k L m):∀ i,i≤25 →
  Con (n1K k (fdsTo P 96) i).at_ (n1K k (fdsTo P 96) i).ow∧(∀ o,o<25→(n1K k (fdsTo P 96) i).at_ o=if o<i then L o else 0) ∧
  (∀ o,o<i→L o≠0→∃ t D,P.pg (L o - 1) = .full t D∧(n1K k (fdsTo P 96) i).en o=⟨t.seq,t.copy,false⟩)∧∃ A O E,n1K k (fdsTo P 96) i={ n0K k (fdsTo P 96) with at_:=A,ow:=O,en:=E }
 | 0,_=>by
  rw [n1K_zero]
  exact ⟨⟨fun p hp e=>absurd rfl e,fun o ho e=>absurd rfl e⟩,fun o ho=>rfl,fun o ho=>by omega,_,_,_,rfl⟩
 | i+1,hi=>by
  obtain ⟨h1,h2,h3,A,O,E,h4⟩:=n1_all h i (by omega)
  have hl:=live_fds h (o:=i) (by omega)
  rw [n1K_succ]
  by_cases e:L i=0
  ·rw [if_pos e] at hl
   rw [if_pos (by rw [hl];decide)]
   refine ⟨h1,fun o ho=>?_,fun o ho e'=>?_,A,O,E,h4⟩
   ·rw [h2 o ho]
    by_cases ho2:o<i
    ·rw [if_pos ho2,if_pos (by omega)]
    ·rw [if_neg ho2]
     by_cases ho3:o=i
     ·rw [if_pos (by omega),ho3,e]
     ·rw [if_neg (by omega)]
   ·by_cases ho3:o=i
    ·rw [ho3] at e'
     exact absurd e e'
    ·exact h3 o (by omega) e'
  ·rw [if_neg e] at hl
   rw [if_neg (by rw [hl];omega)]
   have ht:(liveF (fdsTo P 96) k i).toNat=L i - 1:=by rw [hl];rfl
   obtain ⟨hp,t,D,e1,e2,_⟩:=h.led.yes i (by omega) e
   obtain ⟨v1,v2,v3,v4,v5⟩:=h.gd.val _ t D hp e1
   have how:(n1K k (fdsTo P 96) i).ow (L i - 1)=0:=by
    by_cases hz:(n1K k (fdsTo P 96) i).ow (L i - 1)=0
    ·exact hz
    ·obtain ⟨c1,c2⟩:=h1.o _ hp hz
     have c3:=h2 ((n1K k (fdsTo P 96) i).ow (L i - 1) - 1) (by omega)
     generalize (n1K k (fdsTo P 96) i).ow (L i - 1) - 1=o' at *
     by_cases ho:o'<i
     ·rw [if_pos ho] at c3
      have hLo:L o'=L i:=by omega
      obtain ⟨_,t2,D2,g1,g2,_⟩:=h.led.yes o' (by omega) (by rw [hLo];exact e)
      rw [hLo,e1] at g1
      cases g1
      omega
     ·rw [if_neg ho] at c3
      omega
   have hh:holdsB (L i - 1) i=true:=by
    unfold holdsB
    unfold Tg.ok at v1
    by_cases hi4:i=24
    ·simp [hi4]
    ·have:=v1.2.2.2.2.2.2.2.2.2 (by omega)
     rw [v2] at this
     simp
     omega
   obtain ⟨s1,s2⟩:=h1.set (o:=i) (by omega) hp how hh
   have hf:=(fnd_fds (o:=i) e1 e2 (by unfold Tg.ok at v1;omega) 96).2 hp
   rw [ht,hl,hf]
   simp only [s2]
   rw [s2] at s1
   refine ⟨s1,fun o ho=>?_,fun o ho e'=>?_,_,_,_,by rw [h4]⟩
   ·unfold updf
    by_cases ho3:o=i
    ·rw [if_pos ho3,if_pos (by omega),ho3]
     omega
    ·rw [if_neg ho3,h2 o ho]
     by_cases ho2:o<i
     ·rw [if_pos ho2,if_pos (by omega)]
     ·rw [if_neg ho2,if_neg (by omega)]
   ·unfold updf
    by_cases ho3:o=i
    ·rw [if_pos ho3,ho3]
     exact ⟨t,D,e1,by rw [v3]⟩
    ·rw [if_neg ho3]
     exact h3 o (by omega) e'
theorem nw_hyp {P:CS} {k:Cp} {L:Nat→Nat} {m:Int} (h:Okay P k L m):NwHyp k (fdsTo P 96):=by
 refine ⟨h.led.told,h.led.bad,fun i hi=>(n1_all h i hi).1.mw,fun i hi hl=>?_⟩
 obtain ⟨h1,h2,h3,A,O,E,h4⟩:=n1_all h i (by omega)
 have hlv:=live_fds h (o:=i) hi
 by_cases e:L i=0
 ·rw [if_pos e] at hlv
  omega
 ·rw [if_neg e] at hlv
  obtain ⟨hp,t,D,e1,e2,_⟩:=h.led.yes i hi e
  obtain ⟨v1,v2,v3,v4,v5⟩:=h.gd.val _ t D hp e1
  rw [hlv]
  refine ⟨by omega,?_⟩
  rw [show ((L i - 1:Nat):Int).toNat=L i - 1 by omega]
  have how:(n1K k (fdsTo P 96) i).ow (L i - 1)=0:=by
   by_cases hz:(n1K k (fdsTo P 96) i).ow (L i - 1)=0
   ·exact hz
   ·obtain ⟨c1,c2⟩:=h1.o _ hp hz
    have c3:=h2 ((n1K k (fdsTo P 96) i).ow (L i - 1) - 1) (by omega)
    generalize (n1K k (fdsTo P 96) i).ow (L i - 1) - 1=o' at *
    by_cases ho:o'<i
    ·rw [if_pos ho] at c3
     have hLo:L o'=L i:=by omega
     obtain ⟨_,t2,D2,g1,g2,_⟩:=h.led.yes o' (by omega) (by rw [hLo];exact e)
     rw [hLo,e1] at g1
     cases g1
     omega
    ·rw [if_neg ho] at c3
     omega
  have hh:holdsB (L i - 1) i=true:=by
   unfold holdsB
   unfold Tg.ok at v1
   by_cases hi4:i=24
   ·simp [hi4]
   ·have:=v1.2.2.2.2.2.2.2.2.2 (by omega)
    rw [v2] at this
    simp
    omega
  unfold setErr
  rw [hh,how]
  rfl
theorem lv_congr {A B:Nat→Nat} {b:Nat} (h:∀ o,o<25→A o=B o):lv A b=lv B b:=by
 have:∀ n,n≤25→lvTo A n b=lvTo B n b:=fun n=>by
  induction n with
  | zero=>exact fun _=>rfl
  | succ n ih =>
   intro hn
   unfold lvTo
   rw [ih (by omega),h n (by omega)]
 exact this 25 (Nat.le_refl _)
theorem n2_st {K:KS} (h0:∀ b,K.st b=0):∀ n,n≤12→∀ b,(n2K K n).st b=if b<n∧0<lv K.at_ b then 2 else 0
 | 0,_,b=>by
  rw [n2K_zero,h0,if_neg (by omega)]
 | n+1,hn,b=>by
  have ih:=n2_st h0 n (by omega)
  rw [n2K_succ]
  by_cases hl:0<lv K.at_ n
  ·rw [if_pos hl]
   show setSt (n2K K n).st n 2 b=_
   unfold setSt
   rw [if_neg (fun x=>by have:=x.1;rw [ih n,if_neg (by omega)] at this;omega)]
   unfold updf
   by_cases hb:b=n
   ·subst hb
    rw [if_pos rfl,if_pos ⟨by omega,hl⟩]
   ·rw [if_neg hb,ih b]
    by_cases h2:b<n∧0<lv K.at_ b
    ·rw [if_pos h2,if_pos ⟨by omega,h2.2⟩]
    ·rw [if_neg h2,if_neg (fun x=>h2 ⟨by omega,x.2⟩)]
  ·rw [if_neg hl,ih b]
   by_cases h2:b<n∧0<lv K.at_ b
   ·rw [if_pos h2,if_pos ⟨by omega,h2.2⟩]
   ·rw [if_neg h2,if_neg (fun x=>h2 ⟨by
     by_cases hb:b=n
     ·rw [hb] at x
      exact absurd x.2 hl
     ·omega,x.2⟩)]
theorem sn_zero {F:Nat→Int} (h:∀ b,b<12→F (12+b)=0):∀ n,n≤12→∀ b,b<12→snF F n (12+b)=0
 | 0,_,b,hb=>h b hb
 | n+1,hn,b,hb=>by
  have ih:=sn_zero h n (by omega)
  have:∀ k,∀ b,b<12→rdN (snF F n) n k (12+b)=0:=fun k=>by
   induction k with
   | zero=>exact ih
   | succ k ihk=>exact rd_zero (by omega) ihk
  exact this 8 b hb
theorem clP_pg (K:KS) (P:CS):∀ n q,(clP K P n).pg q=if q / 8<n∧K.st (q / 8)=0 then .blank else P.pg q
 | 0,q=>by rw [clP_zero,if_neg (by omega)]
 | n+1,q=>by
  have ih:=clP_pg K P n q
  rw [clP_succ]
  by_cases h:K.st n=0
  ·rw [if_pos h]
   show (if q / 8=n then Pg.blank else (clP K P n).pg q)=_
   by_cases hq:q / 8=n
   ·rw [if_pos hq,if_pos ⟨by omega,by rw [hq];exact h⟩]
   ·rw [if_neg hq,ih]
    by_cases h2:q / 8<n∧K.st (q / 8)=0
    ·rw [if_pos h2,if_pos ⟨by omega,h2.2⟩]
    ·rw [if_neg h2,if_neg (fun x=>h2 ⟨by omega,x.2⟩)]
  ·rw [if_neg h,ih]
   by_cases h2:q / 8<n∧K.st (q / 8)=0
   ·rw [if_pos h2,if_pos ⟨by omega,h2.2⟩]
   ·rw [if_neg h2,if_neg (fun x=>h2 ⟨by
     by_cases hb:q / 8=n
     ·rw [hb] at x
      exact absurd x.2 h
     ·omega,x.2⟩)]
theorem clT_mem {K:KS} {P:CS}:∀ {n:Nat} {T:CS},T∈clT K P n→∃ j,j≤n∧T=clP K P j
 | 0,T,h=>by rw [clT_zero] at h;cases h
 | n+1,T,h=>by
  rw [clT_succ] at h
  split at h
  ·rcases List.mem_append.1 h with h | h
   ·obtain ⟨j,a,b⟩:=clT_mem h
    exact ⟨j,by omega,b⟩
   ·exact ⟨n,by omega,List.mem_singleton.1 h⟩
  ·obtain ⟨j,a,b⟩:=clT_mem h
   exact ⟨j,by omega,b⟩
theorem er_hb {F:Nat→Int} (h:Hl.HB F) (v:Nat):Hl.HB (Hl.erF F v):=fun b hb=>by
 have h1:=h b hb
 unfold Hl.erF Hl.upd
 refine ⟨?_,?_,?_⟩
 ·split
  ·omega
  ·split
   ·omega
   ·exact h1.1
 ·split
  ·omega
  ·split
   ·omega
   ·exact h1.2.1
 ·split
  ·omega
  ·split
   ·omega
   ·exact h1.2.2
theorem er_zero {F:Nat→Int} (h:∀ b,b<12→F (12+b)=0) {v:Nat}:∀ b,b<12→Hl.erF F v (12+b)=0:=fun b hb=>by
 unfold Hl.erF Hl.upd
 split
 ·rfl
 ·split
  ·rfl
  ·exact h b hb
theorem cl_F {K:KS} (h:Hl.HB K.F) (h0:∀ b,b<12→K.F (12+b)=0):∀ n,Hl.HB (clK K n).F∧∀ b,b<12→(clK K n).F (12+b)=0
 | 0=>by rw [clK_zero];exact ⟨h,h0⟩
 | n+1=>by
  obtain ⟨a,b⟩:=cl_F h h0 n
  rw [clK_succ]
  split
  ·exact ⟨er_hb a n,er_zero b⟩
  ·exact ⟨a,b⟩
attribute [local irreducible] n1K n2K snF clP clK clT scP fdsTo nextF
set_option maxHeartbeats 1000000 in
theorem mount_endC {P:CS} {k:Cp} {L:Nat→Nat} {m:Int} (h:Okay P k L m) (hm:m≤1099511627775):∃ K' P' tr,Mounts P K' P' tr∧Inv K' P' k m∧K'.qu=[]∧(K'=clK (mtK k (fdsTo P 96)) 12∧P'=clP (mtK k (fdsTo P 96)) (scP P 96) 12∧(∀ o,o<25→K'.at_ o=L o)∧(∀ o,o<25→L o≠0→P'.pg (L o - 1)=P.pg (L o - 1))∧K'.next=nextF (fdsTo P 96) k∧K'.calls=0∧K'.cur=k.cur.toNat∧Okay P' k L m)∧∀ a,Shows P L a→(∀ T,T∈tr→Tells T k m a)∧Shows P' K'.at_ a:=by
 have hN:=nw_hyp h
 obtain ⟨hcon,hat,hen,A,O,E,h4⟩:=n1_all h 25 (Nat.le_refl _)
 have hat:∀ o,o<25→(n1K k (fdsTo P 96) 25).at_ o=L o:=fun o ho=>by rw [hat o ho,if_pos ho]
 obtain ⟨st,h5⟩:=n2K_same (n1K k (fdsTo P 96) 25) 12
 have hst:∀ b,st b=if b<12∧0<lv (n1K k (fdsTo P 96) 25).at_ b then 2 else 0:=fun b=>by
  have:=n2_st (K:=n1K k (fdsTo P 96) 25) (fun b=>by rw [h4];rfl) 12 (Nat.le_refl _) b
  rw [h5] at this
  exact this
 have hnw:nwK k (fdsTo P 96)={ n1K k (fdsTo P 96) 25 with st:=st }:=h5
 have hF1:Hl.HB (Hl.newF (rdsF k) (scsF k)):=Hl.HB.new (fun j hj=>by
  unfold rdsF scsF
  rw [if_pos hj,if_pos hj]
  exact ⟨(h.led.told.rd j hj).1,(h.led.told.sc j hj).1⟩)
 have hF0:∀ b,b<12→Hl.newF (rdsF k) (scsF k) (12+b)=0:=fun b hb=>by
  unfold Hl.newF scsF
  rw [if_neg (by omega),if_pos (by omega),show 12+b - 12=b by omega,if_pos hb,h.led.scs b hb]
  rfl
 have hnF:(nwK k (fdsTo P 96)).F=Hl.newF (rdsF k) (scsF k):=by rw [hnw,h4];rfl
 have hmF:Hl.HB (mtK k (fdsTo P 96)).F:=by
  show Hl.HB (snF (nwK k (fdsTo P 96)).F 12)
  rw [hnF]
  exact snF_hb hF1 12 (Nat.le_refl _)
 have hm0:∀ b,b<12→(mtK k (fdsTo P 96)).F (12+b)=0:=fun b hb=>by
  show snF (nwK k (fdsTo P 96)).F 12 (12+b)=0
  rw [hnF]
  exact sn_zero hF0 12 (Nat.le_refl _) b hb
 have hmt:mtK k (fdsTo P 96)={ n0K k (fdsTo P 96) with at_:=A,ow:=O,en:=E,st:=st,F:=(mtK k (fdsTo P 96)).F }:=by
  show ({ nwK k (fdsTo P 96) with F:=(mtK k (fdsTo P 96)).F }:KS)=_
  rw [hnw,h4]
 have hA:∀ o,o<25→A o=L o:=fun o ho=>by
  have:=hat o ho
  rw [h4] at this
  exact this
 have hst:∀ b,st b=if b<12∧0<lv L b then 2 else 0:=fun b=>by
  rw [hst b,lv_congr hat]
 rw [h4] at hcon hen
 have hst3:∀ b,b<12→(st b=0↔lv L b=0):=fun b hb=>by
  rw [hst b]
  by_cases e:0<lv L b
  ·rw [if_pos ⟨hb,e⟩]
   omega
  ·rw [if_neg (fun x=>e x.2)]
   omega
 have e24:A 24=L 24:=hA 24 (by omega)
 -- the cleaning
 have hscal:=scP_calm h.gd.calm 96
 have hscp:=(scP_pg P 96).1
 have hlive:∀ o,o<25→L o≠0→st ((L o - 1) / 8)≠0:=fun o ho e hz=>by
  have hp:=(h.led.yes o ho e).1
  have:=(hst3 ((L o - 1) / 8) (by omega)).1 hz
  exact lv_zero.1 this o ho e rfl
 generalize hKm:mtK k (fdsTo P 96)=Km at *
 have kst:Km.st=st:=by rw [hmt]
 have kat:Km.at_=A:=by rw [hmt]
 have hT:∀ j,Okay (clP Km (scP P 96) j) k L m∧∀ a,Shows P L a→Shows (clP Km (scP P 96) j) L a:=fun j=>by
  have hc:=clP_calm Km hscal j
  have hk:∀ o,o<25→L o≠0→(clP Km (scP P 96) j).pg (L o - 1)=P.pg (L o - 1):=fun o ho e=>by
   rw [clP_pg,if_neg (fun x=>by have:=x.2;rw [kst] at this;exact hlive o ho e this),hscp]
  refine ⟨h.sub hc (fun q t D hq e=>?_) hk,fun a hs=>hs.same hk⟩
  rw [clP_pg] at e
  split at e
  ·cases e
  ·rw [hscp] at e
   exact e
 obtain ⟨hok,hsh⟩:=hT 12
 obtain ⟨F3,h6⟩:=clK_same Km 12
 obtain ⟨hFB,hFz⟩:=cl_F hmF hm0 12
 have hpg:∀ q,(clP Km (scP P 96) 12).pg q=if q / 8<12∧st (q / 8)=0 then .blank else P.pg q:=fun q=>by rw [clP_pg,kst,hscp]
 have huq:(clP Km (scP P 96) 12).uniq:=fun p q t t' D D' hp hq e e' hs=>by
  by_cases hpq:p=q
  ·exact hpq
  ·rw [hpg] at e e'
   by_cases hx:p / 8<12∧st (p / 8)=0
   ·rw [if_pos hx] at e;cases e
   ·rw [if_neg hx] at e
    by_cases hy:q / 8<12∧st (q / 8)=0
    ·rw [if_pos hy] at e';cases e'
    ·rw [if_neg hy] at e'
     rcases h.tw p q t t' D D' hp hq hpq e e' hs with g | g
     ·exact absurd ⟨by omega,(hst3 _ (by omega)).2 g⟩ hx
     ·exact absurd ⟨by omega,(hst3 _ (by omega)).2 g⟩ hy
 obtain ⟨x1,x2,x3,x4⟩:=next_fds h hm
 have okA:Okay (clP Km (scP P 96) 12) k A m:=by
  refine ⟨hok.gd,⟨by rw [e24];exact h.led.pt,by rw [e24];exact hok.led.data,h.led.told,h.led.bad,h.led.scs,fun o ho e=>by rw [hA o ho] at e ⊢;exact hok.led.yes o ho e,fun o ho e=>by rw [hA o ho] at e;exact hok.led.no o ho e⟩,?_,?_,hok.sq,hok.fl⟩
  ·have:lv A=lv L:=by funext b;exact lv_congr hA
   rw [this]
   exact hok.room
  ·have:lv A=lv L:=by funext b;exact lv_congr hA
   rw [this]
   exact hok.tw
 have h7:clK Km 12={ n0K k (fdsTo P 96) with at_:=A,ow:=O,en:=E,st:=st,F:=F3 }:=by
  rw [h6,hmt]
 refine ⟨clK Km 12,clP Km (scP P 96) 12,clT Km (scP P 96) 12,?_,?_,by rw [h7];rfl,⟨rfl,rfl,fun o ho=>by rw [h7];exact hA o ho,fun o ho e=>by rw [hpg,if_neg (fun x=>hlive o ho e x.2)],by rw [h7];rfl,by rw [h7];rfl,by rw [h7];rfl,hok⟩,fun a hs=>⟨fun T hTm=>?_,?_⟩⟩
 ·obtain ⟨t,D,n1,n2,n3,n4⟩:=newest_point h
  have hD:D=ptN k:=by
   have:=h.led.data
   unfold dataAt at this
   rw [n1] at this
   exact this
  refine .old (k:=k) (p:=L 24 - 1) n4 rfl n3 n1 n2 (fun j hj=>by rw [hD]) hN (by rw [hnF];exact hF1) ?_ ?_ ?_
  ·rw [hKm,kat,e24]
   exact h.led.lt (by omega)
  ·rw [hKm,kst]
   unfold wornB
   rw [show cntS st 3=0 from cntTo_none (fun b hb=>by rw [hst b];split<;>omega)]
   rfl
  ·rw [hKm]
   exact .done (by rw [kat,e24];exact h.led.pt)
 ·rw [h7] at hFB hFz ⊢
  refine ⟨⟨okA,huq,fun o ho e=>?_,fun o ho=>rfl,⟨fun p t D hp e=>?_,x2,x3,x4⟩,hcon⟩,⟨fun b hb=>?_,fun b hb e=>?_,(fun e=>nomatch e),fun b i hb e hi=>?_,(fun e=>nomatch e),by show 0<12;omega,by show 0≤8;omega,by show 0≤12;omega⟩,⟨hFB,hFz,?_⟩,?_⟩
  ·have e:A o≠0:=e
   rw [hA o ho] at e
   obtain ⟨t,D,g1,g2⟩:=hen o ho e
   refine ⟨t,D,?_,g2⟩
   show (clP Km (scP P 96) 12).pg (A o - 1)=_
   rw [hA o ho,hpg,if_neg (fun x=>hlive o ho e x.2)]
   exact g1
  ·refine x1 p t D hp ?_
   rw [hpg] at e
   split at e
   ·cases e
   ·exact e
  ·show st b≤2
   rw [hst b]
   split<;>omega
  ·have e:st b=1:=e
   rw [hst b] at e
   split at e<;>omega
  ·have e:st b=0:=e
   rw [hpg,if_pos ⟨by omega,by rw [show (b * 8+i) / 8=b by omega];exact e⟩]
  ·have:=h.led.told.cur
   show k.cur.toNat<96
   omega
  ·exact Nat.le_trans h.room (cntTo_mono (fun b hb e=>(hst3 b hb).2 e))
 ·obtain ⟨j,hj,rfl⟩:=clT_mem hTm
  exact ⟨L,(hT j).1,(hT j).2 a hs⟩
 ·rw [h7]
  intro o j ho hj
  have:=hsh a hs o j ho hj
  unfold arr at this ⊢
  show (if A o=0 then 0 else dataAt _ (A o - 1) j)=_
  rw [hA o (by omega)]
  exact this
end Go.Proofs.YtaeikigfgfcadaaGreat
namespace Go.Proofs.YtaeikigfgfcadaaGreat
open Go.RowKit
theorem byP_nil:∀ k,byP [] k=[]
 | 0=>rfl
 | k+1=>by
  have:=byP_nil k
  unfold byP at this ⊢
  rw [List.range_succ,List.flatMap_append,this]
  rfl
theorem live_nil (k:Cp) (o:Nat):liveF [] k o = -1:=by
 unfold liveF
 rw [byP_nil]
 rfl
theorem n1_nil (k:Cp):∀ i,n1K k [] i=n0K k []
 | 0=>rfl
 | i+1=>by
  rw [n1K_succ,live_nil,if_pos (by decide),n1_nil k i]
theorem lv_none (b:Nat):∀ n,lvTo (fun _=>0) n b=0
 | 0=>rfl
 | n+1=>by
  unfold lvTo
  rw [lv_none b n,if_neg (fun h=>h.1 rfl)]
theorem n2_nil {K:KS} (h:K.at_=fun _=>0):∀ b,n2K K b=K
 | 0=>rfl
 | b+1=>by
  rw [n2K_succ,if_neg (by
   rw [h]
   have:lv (fun _=>0) b=0:=lv_none b 25
   omega),n2_nil h b]
theorem flz:∀ n,flTop Cp.zero (-1) n=if n=0 then -1 else 0
 | 0=>rfl
 | n+1=>by
  unfold flTop
  rw [flz n]
  show max (if n=0 then -1 else 0) (0:Int)=_
  by_cases h:n=0
  ·rw [if_pos h,if_neg (by omega)]
   rfl
  ·rw [if_neg h,if_neg (by omega)]
   rfl
theorem next_nil:nextF [] Cp.zero=1:=by
 have h:topOf [] Cp.zero=0:=by
  show flTop Cp.zero (max 0 0 - 1) 24=0
  rw [show (max (0:Int) 0 - 1) = -1 by omega,flz,if_neg (by omega)]
 unfold nextF
 rw [h]
 rfl
theorem zero_told:Cp.zero.told:=⟨by decide,by decide,fun _ _=>⟨Int.le_refl 0,by show (0:Int)≤1099511627775;omega⟩,fun _ _=>⟨Int.le_refl 0,by show (0:Int)≤65535;omega⟩,fun _ _=>⟨Int.le_refl 0,by show (0:Int)≤255;omega⟩⟩
theorem nw_nil:NwHyp Cp.zero []:=by
 refine ⟨zero_told,fun _ _=>rfl,fun i _=>?_,fun i _ h=>?_⟩
 ·rw [n1_nil]
  exact ⟨fun _ _=>by show 0≤96;omega,fun _ _=>by show 0≤25;omega⟩
 ·rw [live_nil] at h
  omega
def CS.bare (P:CS):Prop:=P.calm∧∀ p,P.pg p = .blank
theorem fds_bare {P:CS} (h:P.bare):∀ n,fdsTo P n=[]
 | 0=>rfl
 | n+1=>by
  rw [fdsTo_not (fun t D e=>by rw [h.2] at e;cases e),fds_bare h n]
set_option maxHeartbeats 1000000 in
def FirstAt (P:CS) (K':KS) (P':CS):Prop:=∃ K1,K'=lyK K1 24∧P'=lyP K1 (clP (mtK Cp.zero []) (scP P 96) 12) 24 noteD∧LyCore 24 noteD K1 (clP (mtK Cp.zero []) (scP P 96) 12)∧(stC (sqK K1) K1.next (-1)).told∧Hl.HB K1.F∧K1.F=(clK (mtK Cp.zero []) 12).F∧(mtK Cp.zero []).st=fun _=>0
theorem first_end {P:CS} (h:P.bare):∃ K' P' tr k',Mounts P K' P' tr∧Inv K' P' k' 2∧K'.qu=[]∧FirstAt P K' P'∧Shows P' K'.at_ (fun _ _=>0):=by
 have hval:P.val:=fun p t D _ e=>by rw [h.2] at e;cases e
 have hF1:Hl.HB (Hl.newF (rdsF Cp.zero) (scsF Cp.zero)):=Hl.HB.new (fun j hj=>by
  unfold rdsF scsF
  rw [if_pos hj,if_pos hj]
  exact ⟨Int.le_refl 0,Int.le_refl 0⟩)
 have hF0:∀ b,b<12→Hl.newF (rdsF Cp.zero) (scsF Cp.zero) (12+b)=0:=fun b hb=>by
  unfold Hl.newF scsF
  rw [if_neg (by omega),if_pos (by omega),show 12+b - 12=b by omega,if_pos hb]
  rfl
 have hnw:nwK Cp.zero []=n0K Cp.zero []:=by
  unfold nwK
  rw [n1_nil,n2_nil rfl]
 have hnF:(nwK Cp.zero []).F=Hl.newF (rdsF Cp.zero) (scsF Cp.zero):=by rw [hnw];rfl
 have hmF:Hl.HB (mtK Cp.zero []).F:=by
  show Hl.HB (snF (nwK Cp.zero []).F 12)
  rw [hnF]
  exact snF_hb hF1 12 (Nat.le_refl _)
 have hm0:∀ b,b<12→(mtK Cp.zero []).F (12+b)=0:=fun b hb=>by
  show snF (nwK Cp.zero []).F 12 (12+b)=0
  rw [hnF]
  exact sn_zero hF0 12 (Nat.le_refl _) b hb
 have hmt:mtK Cp.zero []={ n0K Cp.zero [] with F:=(mtK Cp.zero []).F }:=by
  show ({ nwK Cp.zero [] with F:=(mtK Cp.zero []).F }:KS)=_
  rw [hnw]
 generalize hKm:mtK Cp.zero []=Km at *
 obtain ⟨F3,h6⟩:=clK_same Km 12
 obtain ⟨hFB,hFz⟩:=cl_F hmF hm0 12
 have h7:clK Km 12={ n0K Cp.zero [] with F:=F3 }:=by rw [h6,hmt]
 rw [h7] at hFB hFz
 have hscal:=scP_calm h.1 96
 have hc0:=clP_calm Km hscal 12
 have hpg:∀ q,(clP Km (scP P 96) 12).pg q = .blank:=fun q=>by
  rw [clP_pg]
  split
  ·rfl
  ·rw [(scP_pg P 96).1,h.2]
 -- a block is taken
 obtain ⟨K1,hK1⟩:∃ K1,K1=opK (clK Km 12) 0:=⟨_,rfl⟩
 have hsh:shK (clK Km 12)=clK Km 12:=by
  rw [h7]
  rfl
 have e1:K1={ n0K Cp.zero [] with F:=F3,st:=updf (fun _=>0) 0 1,pn:=1,fo:=true,fb:=0,fi:=0 }:=by
  rw [hK1]
  unfold opK
  rw [hsh,h7]
  rfl
 have f1:K1.st=updf (fun _=>0) 0 1∧K1.fo=true∧K1.fb=0∧K1.fi=0∧K1.fl=fun _=>0:=by
  rw [e1]
  exact ⟨rfl,rfl,rfl,rfl,rfl⟩
 obtain ⟨f1,f2,f3,f4,f5⟩:=f1
 have g0:(clK Km 12).st=(fun _=>0)∧(clK Km 12).pn=0∧(clK Km 12).fo=false∧(clK Km 12).fi=0:=by
  rw [h7]
  exact ⟨rfl,rfl,rfl,rfl⟩
 obtain ⟨g1,g2,g3,g4⟩:=g0
 have hro:roomB K1.fo K1.fi 24=true:=by rw [f2,f4];decide
 have hsp:spareB (shK (clK Km 12)).st=true:=by
  rw [hsh,g1]
  decide
 have htk:takeN (shK (clK Km 12)).st (shK (clK Km 12)).pn=some 0:=by
  rw [hsh,g1,g2]
  decide
 have hop:Opens 24 48 (clK Km 12) (clP Km (scP P 96) 12) K1 (clP Km (scP P 96) 12) []:=by
  rw [hK1]
  refine .spare (n:=47) (by rw [h7];show 0<12;omega) (by rw [h7];show 0≤8;omega) (by rw [g3,g4];decide) hsp (by rw [hsh,h7];show 0≤12;omega) htk (.room (n:=46) ?_ ?_ ?_)
  ·rw [← hK1,e1]
   show 0<12
   omega
  ·rw [← hK1,e1]
   show 0≤8
   omega
  ·rw [← hK1]
   exact hro
 have B1:InvB K1 (clP Km (scP P 96) 12):=by
  rw [e1]
  refine ⟨fun b hb=>?_,fun b hb e=>?_,fun _=>rfl,fun b i _ _ _=>hpg _,fun _ i _ _=>hpg _,by show 0<12;omega,by show 0≤8;omega,by show 1≤12;omega⟩
  ·show updf (fun _:Nat=>(0:Nat)) 0 1 b≤2
   unfold updf
   split
   ·omega
   ·show 0≤2
    omega
  ·have e:updf (fun _:Nat=>(0:Nat)) 0 1 b=1:=e
   unfold updf at e
   by_cases hb0:b=0
   ·exact ⟨rfl,hb0.symm⟩
   ·rw [if_neg hb0] at e
    have e:0=1:=e
    omega
 have H1:InvH K1:=by
  rw [e1]
  exact ⟨hFB,hFz,by show (0:Int).toNat<96;decide⟩
 have C1:Con K1.at_ K1.ow:=by
  rw [e1]
  exact ⟨fun p hp e=>absurd rfl e,fun o ho e=>absurd rfl e⟩
 have n1:K1.next=1:=by
  rw [e1]
  exact next_nil
 have hfree:5≤cntS K1.st 0:=by
  rw [f1]
  decide
 have a1:K1.at_=fun _=>0:=by rw [e1];rfl
 have E:=lay_core0 B1 H1 C1 hc0 ⟨by omega,by omega⟩ (fun o ho e=>by rw [a1] at e;exact absurd rfl e) hfree (of:=24) (by omega) hro noteD
 obtain ⟨ow,F,calls,he,hcon,hc1,hc2⟩:=E.eq
 have htold:(stC (sqK K1) K1.next (-1)).told:=stC_told (K:=sqK K1) (by omega) H1.hb H1.cur (fun o ho=>by
  show 0≤K1.fl o∧K1.fl o≤_
  rw [f5]
  exact ⟨Int.le_refl 0,by show (0:Int)≤1099511627775;omega⟩)
 have hcut:cutD (noteD (sqK K1) K1.next)=noteD (sqK K1) K1.next:=ptN_cut _
 have hfa:FirstAt P (lyK K1 24) (lyP K1 (clP Km (scP P 96) 12) 24 noteD):=⟨K1,rfl,by rw [hKm],by rw [hKm];exact E,htold,H1.hb,by rw [hKm,h7,e1],by rw [hKm,hmt];rfl⟩
 have hpN:=E.pg
 rw [hcut] at hpN
 have hpne:=E.ne
 have hfb0:K1.fb * 8+K1.fi=0:=by rw [f3,f4]
 rw [hfb0] at hpN hpne he hcon
 refine ⟨_,_,_,stC (sqK K1) K1.next (-1),.new (by rw [byP_fds hval (Nat.le_refl _),fds_bare h];rfl) nw_nil (by rw [hnF];exact hF1) ?_ ?_ (by
  rw [hKm]
  exact .note (by rw [hmt];rfl) ⟨by rw [g1];decide,hop,E.fb,E.fi,hro,E.next,E.hb,E.mw,E.calm,E.blank,E.ok,fun j=>ptN_lt _ j⟩ htold),⟨?_,E.b,E.h,E.free⟩,by rw [he,e1];rfl,hfa,?_⟩
 ·rw [hKm,hmt]
  show 0≤96
  omega
 ·rw [hKm,hmt]
  show wornB (fun _=>0)=false
  decide
 ·have only:∀ q t D,(lyP K1 (clP Km (scP P 96) 12) 24 noteD).pg q = .full t D→q=0∧t=nwTag K1 24∧D=noteD (sqK K1) K1.next:=fun q t D e=>by
   by_cases hq:q=0
   ·rw [hq,hpN] at e
    cases e
    exact ⟨hq,rfl,rfl⟩
   ·rw [hpne q hq,hpg] at e
    cases e
  have hat24:updf K1.at_ 24 (0+1) 24=1:=by simp [updf]
  have hat:∀ o,o≠24→updf K1.at_ 24 (0+1) o=0:=fun o ho=>by
   unfold updf
   rw [if_neg ho,a1]
  have hok24:=E.ok
  rw [he]
  refine ⟨⟨⟨CS.lay_calm E.calm _ _ _,fun p t D hp e=>?_,fun p q t t' D D' hp hq hn e e' _=>?_⟩,⟨?_,?_,htold,stC_bad (K:=sqK K1) (P:=clP Km (scP P 96) 12) ⟨B1.st,B1.opn,B1.fst,B1.bl,B1.fr,B1.fb,B1.fi,B1.pn⟩ K1.next,H1.sc,fun o ho e=>?_,fun o ho e q t D hq hf hof=>?_⟩,?_,fun p q t t' D D' hp hq hn e e' _=>?_,fun p t D hp e=>?_,?_⟩,fun p q t t' D D' hp hq e e' _=>?_,fun o ho e=>?_,fun o ho=>rfl,⟨fun p t D hp e=>?_,?_,?_,fun o ho=>?_⟩,hcon⟩
  ·obtain ⟨rfl,rfl,rfl⟩:=only p t D e
   exact ⟨hok24,by show ((K1.fb * 8+K1.fi:Nat):Int)=_;rw [hfb0],rfl,fun j=>ptN_lt _ j,hcut⟩
  ·exact absurd ((only p t D e).1.trans (only q t' D' e').1.symm) hn
  ·show updf K1.at_ 24 (0+1) 24≠0
   rw [hat24]
   omega
  ·show dataAt _ (updf K1.at_ 24 (0+1) 24 - 1)=_
   rw [hat24]
   unfold dataAt
   rw [show 1 - 1=0 from rfl,hpN]
   rfl
  ·have e:updf K1.at_ 24 (0+1) o≠0:=e
   by_cases ho24:o=24
   ·subst ho24
    show Cnt _ 24 (floor _ 24) (updf K1.at_ 24 (0+1) 24 - 1)
    rw [hat24]
    refine ⟨by omega,nwTag K1 24,noteD (sqK K1) K1.next,hpN,rfl,?_,fun q t' D' hq hn e _=>absurd (only q t' D' e).1 hn⟩
    show (-1:Int)<K1.next
    omega
   ·exact absurd (hat o ho24) e
  ·obtain ⟨rfl,rfl,rfl⟩:=only q t D hf
   have e:updf K1.at_ 24 (0+1) o=0:=e
   have hof:(24:Int)=o:=hof
   have:o=24:=by omega
   rw [this,hat24] at e
   omega
  ·show 5≤cntS (lv (updf K1.at_ 24 (0+1))) 0
   refine room_of (st:=K1.st) (fun b hb e=>lv_zero.2 fun o ho g1 g2=>?_) hfree
   by_cases ho24:o=24
   ·rw [ho24,hat24] at g2
    have hb0:b=0:=by omega
    rw [hb0,e1] at e
    simp [updf] at e
   ·exact g1 (hat o ho24)
  ·exact absurd ((only p t D e).1.trans (only q t' D' e').1.symm) hn
  ·obtain ⟨rfl,rfl,rfl⟩:=only p t D e
   show K1.next<2
   omega
  ·refine ⟨by show K1.next<2;omega,fun o ho=>?_⟩
   show K1.fl o<2
   rw [f5]
   show (0:Int)<2
   omega
  ·exact (only p t D e).1.trans (only q t' D' e').1.symm
  ·have e:updf K1.at_ 24 (0+1) o≠0:=e
   by_cases ho24:o=24
   ·subst ho24
    refine ⟨nwTag K1 24,noteD (sqK K1) K1.next,?_,?_⟩
    ·show (lyP K1 (clP Km (scP P 96) 12) 24 noteD).pg (updf K1.at_ 24 (0+1) 24 - 1)=_
     rw [hat24]
     exact hpN
    ·show updf K1.en 24 _ 24=_
     exact if_pos rfl
   ·exact absurd (hat o ho24) e
  ·obtain ⟨rfl,rfl,rfl⟩:=only p t D e
   show K1.next<K1.next+1
   omega
  ·show 1≤K1.next+1
   omega
  ·show K1.next+1≤2
   omega
  ·show K1.fl o<K1.next+1
   rw [n1,f5]
   show (0:Int)<1+1
   omega
 ·intro o j ho hj
  rw [he]
  show arr _ (updf K1.at_ 24 (0+1)) o j=0
  unfold arr
  rw [if_pos (by unfold updf;rw [if_neg (by omega),a1])]
end Go.Proofs.YtaeikigfgfcadaaGreat
namespace Go.Proofs.YtaeikigfgfcadaaGreat
open Go.RowKit
set_option maxRecDepth 20000
def someN (c:Int) (n:Nat):Nat:=((if c<0 then 0 - (c+1) else c) % (n:Int)).toNat
theorem someN_lt (c:Int) {n:Nat} (h:0<n):someN c n<n:=by
 unfold someN
 have:=Int.emod_lt_of_pos (if c<0 then 0 - (c+1) else c) (show (0:Int)<n by omega)
 omega
set_option maxHeartbeats 1000000 in
theorem some_ok (c:Int) (n:Nat) (h1 : -9223372036854775808≤c∧c≤9223372036854775807) (hn:0<n) (w:World):Spec Tryz.prog 16 #[.int .i64 c,.int .i64 n] w fun v w'=>v = .int .i64 (someN c n:Nat)∧w=w':=by
 have key:∀ x:Int,0≤x→((x % (n:Int)).toNat:Int)=x % (n:Int):=fun x hx=>by
  have:=Int.emod_nonneg x (show (n:Int)≠0 by omega)
  omega
 unfold someN
 refine spec_of_wpE (T:=tt) tt_ok Tryz.func16 rfl (by decide +kernel) Tryz.ntmps16 (by simp) ?_
 by_cases hc:c<0
 ·rw [if_pos hc,key _ (by omega)]
  conv=>whnf
  repeat ((first
   | refine Ar.la ?_|refine Dv.r ?_|refine Br.y ?_|refine CW.s ?_);conv=>whnf)
  exact ⟨rfl,rfl,rfl⟩
 ·rw [if_neg hc,key _ (by omega)]
  conv=>whnf
  repeat ((first
   | refine Dv.r ?_|refine Br.n ?_|refine CW.s ?_);conv=>whnf)
  exact ⟨rfl,rfl,rfl⟩
theorem Dv.quo64 {a b:Int} {K:Value→Prop} (h1:0≤a) (h2:0<b) (h3:a≤18446744073709551615) (h:K (.int .u64 (a / b))):Dv .quo .u64 a b K:=⟨by omega,by
 have e:a.tdiv b=a / b:=Int.tdiv_eq_ediv_of_nonneg h1
 have h4:0≤a / b:=Int.ediv_nonneg h1 (by omega)
 have h5:a / b≤a:=Int.ediv_le_self b h1
 simp only [e]
 rw [show IntKind.u64.wrap (a / b)=a / b from by unfold IntKind.wrap;simp [IntKind.signed,IntKind.bits];omega]
 exact h⟩
def lcg (x:Nat):Nat→Nat
 | 0=>x
 | j+1=>(lcg x j * 6364136223846793005+1442695040888963407) % 18446744073709551616
def byF (x j:Nat):Nat:=if x=0 then 0 else (lcg x (j+1) / 1099511627776) % 256
theorem byF_lt (x j:Nat):byF x j<256:=by
 unfold byF
 split
 ·omega
 ·exact Nat.mod_lt _ (by omega)
theorem lcg_lt {x:Nat} (h:x<18446744073709551616):∀ j,lcg x j<18446744073709551616
 | 0=>h
 | j+1=>Nat.mod_lt _ (by omega)
theorem lcg_succ (x j:Nat):lcg x (j+1)=(lcg x j * 6364136223846793005+1442695040888963407) % 18446744073709551616:=rfl
theorem lcg_zero (x:Nat):lcg x 0=x:=rfl
attribute [local irreducible] lcg
set_option maxHeartbeats 1000000 in
theorem tbytes_ok (x:Nat) (hx:x≤9223372036854775807) (w:World):Spec Tryz.prog 24 #[.int .i64 x] w fun v w'=>∃ g,v = .slice (some ⟨g,0,none⟩) 160 160∧g=w.heap.size∧Row w' g 5 160 (fun j=>.int .u8 (byF x j:Nat))∧Keep [] w w':=by
 refine spec_of_wpE (T:=tt) tt_ok Tryz.func24 rfl (by decide +kernel) Tryz.ntmps24 (by simp) ?_
 conv=>whnf
 refine Ru.of (mk160_run w) ?_
 have ry:=Row.made w 5 (.int .u8 0) 160
 have k1:Keep [] w (w.alloc (.cells (madeCells #[.int .u8 0] 160) 5)):=(Keep.refl _ _).alloc _
 generalize w.alloc _=w1 at *
 by_cases h0:x=0
 ·subst h0
  conv=>whnf
  repeat ((first
   | refine Br.t ?_|refine CW.s ?_);conv=>whnf)
  exact ⟨rfl,_,rfl,rfl,ry,k1⟩
 ·have hx0:decide ((x:Int)=0)=false:=decide_eq_false (by omega)
  conv=>whnf
  repeat ((first
   | refine Ar.lc ?_|refine Br.n ?_|refine CW.s ?_);conv=>whnf)
  refine CW.loop (ι:=Nat) (fun i w'=>i≤160∧Row w' w.heap.size 5 160 (fun j=>if j<i then .int .u8 (byF x j:Nat) else .int .u8 0)∧Keep [] w w')
   (fun i=>[(3,.slice (some ⟨w.heap.size,0,none⟩) 160 160),(4,.int .u64 (lcg x i:Nat)),(5,.int .i64 i)]) (fun i=>160 - i) 0 tt_ok ⟨by omega,ry.congr (fun j hj=>by simp),k1⟩ ⟨rfl,by rw [lcg_zero];rfl,rfl,trivial⟩ ?_
  clear ry k1
  rintro i wr ⟨hi,rg,kk⟩
  have hl:=lcg_lt (x:=x) (by omega) i
  rcases Nat.lt_or_ge i 160 with hlt | hge
  ·conv=>whnf
   repeat ((first
    | (refine Ar.u64m ?_)
    | refine Br.y ?_|refine CW.s ?_);conv=>whnf)
   have hv:(((lcg x i:Nat):Int) * 6364136223846793005 % 18446744073709551616+1442695040888963407) % 18446744073709551616=((lcg x (i+1):Nat):Int):=by
    rw [lcg_succ]
    omega
   rw [hv]
   have hl2:=lcg_lt (x:=x) (by omega) (i+1)
   refine Dv.quo64 (by omega) (by omega) (by omega) ?_
   conv=>whnf
   repeat ((first
    | (refine Ar.u8m ?_)
    | (refine Ix.of i (by omega) (by omega) ?_));conv=>whnf)
   rw [show 0+i=i by omega]
   refine Sd.rowAt rg i (by omega) (by omega) rfl ?_
   intro w7 rg7 k7
   conv=>whnf
   repeat ((first
    | refine Ar.la ?_);conv=>whnf)
   refine ⟨i+1,⟨hlt,rg7.congr (fun j hj=>?_),kk.fresh (Nat.le_refl _) k7⟩,⟨rfl,rfl,vi (by omega),trivial⟩,by simp only;omega⟩
   unfold put
   by_cases hji:j=i
   ·rw [if_pos hji,if_pos (by omega),hji]
    unfold byF
    rw [if_neg h0]
    exact congrArg (Value.int .u8) (by omega)
   ·rw [if_neg hji]
    simp only
    by_cases hj2:j<i
    ·rw [if_pos hj2,if_pos (by omega)]
    ·rw [if_neg hj2,if_neg (by omega)]
  ·obtain rfl:i=160:=by omega
   conv=>whnf
   repeat ((first
    | refine Br.f ?_|refine CW.s ?_);conv=>whnf)
   exact ⟨rfl,_,rfl,rfl,rg.congr (fun j hj=>by simp only [if_pos hj]),kk⟩
theorem same17_ok (A B:Option Addr) (n m c d:Nat) (f g:Nat→Int) (w:World) (r0:Rd w A n (fun j=>.int .u8 (f j))) (r1:Rd w B m (fun j=>.int .u8 (g j))) (hf:∀ j,0≤f j∧f j≤255) (hg:∀ j,0≤g j∧g j≤255) :
  Spec Tryz.prog 23 #[.slice A n c,.slice B m d] w fun v w'=>v = .bool (sameB n m f g)∧w=w':=by
 rw [← str_same hf hg]
 refine spec_of_wpE (T:=tt) tt_ok Tryz.func23 rfl (by decide +kernel) Tryz.ntmps23 (by simp) ?_
 conv=>whnf
 refine Ru.bytesStr Tryz.underlying37 Tryz.underlying5 Tryz.underlying9 r0 ?_
 generalize strOfNums ((List.range n).map f)=x
 conv=>whnf
 refine Ru.bytesStr Tryz.underlying37 Tryz.underlying5 Tryz.underlying9 r1 ?_
 generalize strOfNums ((List.range m).map g)=y
 conv=>whnf
 refine Ru.eqlStr Tryz.underlying9 ?_
 conv=>whnf
 exact ⟨rfl,rfl,rfl⟩
end Go.Proofs.YtaeikigfgfcadaaGreat
namespace Go.Proofs.YtaeikigfgfcadaaGreat
open Go.RowKit
set_option maxRecDepth 20000
def farT (T:TypeId):Bool := !(Nat.beq T 143 || Nat.beq T 220 || Nat.beq T 188 || Nat.beq T 210 || Nat.beq T 223 || Nat.beq T 217 || Nat.beq T 3 || Nat.beq T 250 || Nat.beq T 104 || Nat.beq T 274 || Nat.beq T 297 || Nat.beq T 318 || Nat.beq T 5 || Nat.beq T 87)
section
variable {w w':World} {own:List Nat} {d ch:Nat} {K:KS} {P:CS} {b:Option Nat}
theorem farT_ne {T U:TypeId} (h:farT T=true) (hU:farT U=false):T≠U:=fun e=>by
 rw [e,hU] at h
 cases h
theorem farT_core {T:TypeId} (h:farT T=true):(Nat.beq T 143 || Nat.beq T 220 || Nat.beq T 188 || Nat.beq T 210 || Nat.beq T 223 || Nat.beq T 217 || Nat.beq T 3 || Nat.beq T 250 || Nat.beq T 104 || Nat.beq T 274 || Nat.beq T 297 || Nat.beq T 318 || Nat.beq T 5)=false:=by
 unfold farT at h
 rw [Bool.not_eq_true',Bool.or_eq_false_iff] at h
 exact h.1
theorem DvOn.keep0 (D:DvOn w own d ch K P b) (k:Keep [] w w'):DvOn w' own d ch K P b:=by
 obtain ⟨N,X,c,n,e,r,h,eC,hq⟩:=D
 exact ⟨N,X,c,n,e,Row.keep r k (by simp),h.keep0 k,eC,hq⟩
theorem DvOn.away (D:DvOn w own d ch K P b) {x m:Nat} {T:TypeId} {f:Nat→Value} (rx:Row w x T m f) (hT:farT T=true) (k:Keep [x] w w'):DvOn w' own d ch K P b:=by
 obtain ⟨N,X,c,n,e,r,h,eC,hq⟩:=D
 have hd:d≠x:=Row.ne_ r rx (farT_ne hT (by decide)).symm
 exact ⟨N,X,c,n,e,Row.keep r k (by simpa using hd),h.away rx (farT_core hT) k,eC,hq⟩
theorem DvOn.far (D:DvOn w own d ch K P b) {x m:Nat} {T:TypeId} {f:Nat→Value} (rx:Row w x T m f) (hT:farT T=true):x∉own:=fun hx=>by
 obtain ⟨N,X,c,n,e,r,h,eC,hq⟩:=D
 rw [e] at hx
 obtain ⟨C,M,q⟩:=h.med
 obtain ⟨F,rg⟩:=M.frm.cod.fs.ty
 have nn:∀ {y m':Nat} {U:TypeId} {f':Nat→Value},Row w y U m' f'→farT U=false→x≠y:=fun ry hU=>Row.ne_ rx ry (farT_ne hT hU)
 rcases List.mem_cons.1 hx with e | hm
 ·exact nn r (by decide) e
 rcases List.mem_append.1 hm with hm | hm
 ·simp only [Cr.all,Cr.own,Pt.l,List.cons_append,List.nil_append,List.mem_cons,List.not_mem_nil,or_false] at hm
  rcases hm with e | e | e | e | e | e | e | e | e
  ·exact nn h.core.row (by decide) e
  ·exact nn h.core.pool (by decide) e
  ·exact nn h.core.map (by decide) e
  ·exact nn h.core.front (by decide) e
  ·exact nn h.core.health (by decide) e
  ·exact nn h.core.pat (by decide) e
  ·exact nn M.row (by decide) e
  ·exact nn M.chip (by decide) e
  ·exact nn rg (by decide) e
 ·exact h.core.qu.row_ne rx (farT_ne hT (by decide)).symm hm
theorem DvOn.in_own (D:DvOn w own d ch K P b):d∈own∧ch∈own:=by
 obtain ⟨N,X,c,n,e,r,h,eC,hq⟩:=D
 rw [e]
 exact ⟨List.mem_cons_self ..,List.mem_cons_of_mem _ (List.mem_append_left _ (in_all_l (by rw [← eC];simp [Pt.l])))⟩
theorem DvOn.drewN (D:DvOn w own d ch K P b) (n:Nat):DvOn (w.drewN n) own d ch K P b:=D.keep0 ((Keep.refl _ _).drewN n)
theorem DvOff.keep {Q:CS} {S:List Nat} (D:DvOff w d ch Q) (k:Keep S w w') (hd:d∉S) (hc:ch∉S):DvOff w' d ch Q:=by
 obtain ⟨r,C,H,h⟩:=D
 exact ⟨Row.keep r k hd,C,H.keep k hc,h⟩
end
theorem dev_none (w:World) (x:Operand) (a:Addr):(do eqGuard .eql 25 x (.const (.pointer none)) (.pointer (some a)) (.pointer none);binOp .eql 25 (.pointer (some a)) (.pointer none):Sem Value).run Tryz.prog w = .ok (.bool false) w:=by kernel_rfl
def OcEnds (ch:Nat) (K':KS) (P':CS) (b:Option Nat) (tr:List CS) (w:World) (v:Value) (w':World):Prop :=
 Keep [ch] w w'∧Runs b tr (fun b'=>∃ d own',v = .pointer (some ⟨d,0,none⟩)∧DvOn w' own' d ch K' P' b'∧∀ x,x∈own'→x=ch∨w.heap.size≤x) (fun Q=>v = .pointer none∧∃ C,ChipAt w' ch C∧DeadAs C Q)
set_option maxHeartbeats 2000000 in
theorem onchip_ok {w:World} {ch:Nat} {C:Chip} {P:CS} {b:Option Nat} (H:ChipAt w ch C) (hA:Abs C P) (hl:C.left b) (hc:P.calm) {K':KS} {P':CS} {tr:List CS} (M:Mounts P K' P' tr) (hq:K'.qu=[]) :
  Spec Tryz.prog 21 #[.pointer (some ⟨ch,0,none⟩)] w (OcEnds ch K' P' b tr w):=by
 refine spec_of_wpE (T:=tt) tt_ok Tryz.func21 rfl (by decide +kernel) Tryz.ntmps21 (by simp) ?_
 conv=>whnf
 refine Ca.of (dnew_ok ch w) ?_
 rintro _ w1 ⟨d,rfl,hd,r1,k1⟩
 have H1:=H.keep k1 (by simp)
 conv=>whnf
 repeat ((first
  | refine CW.s ?_);conv=>whnf)
 refine Ru.of (dev_none w1 _ _) ?_
 conv=>whnf
 repeat ((first
  | refine Br.f ?_|refine Pk.f ?_|refine Ru.neq_nil0 ?_);conv=>whnf)
 refine Ca.of (dmount_ok r1 H1 hA hl hc M hq) ?_
 rintro _ w2 ⟨k2,hr2⟩
 have kk:Keep [ch] w w2:=(k1.mono (by simp)).then k2 (fun x hx=>by
  rcases List.mem_cons.1 hx with rfl | hx
  ·exact .inr (by omega)
  ·exact .inl hx)
 rcases hr2 with ⟨f2,rfl,own',D2,h2⟩ | ⟨y,hy,hyb,rfl,D2⟩
 ·conv=>whnf
  repeat ((first
   | refine Br.f ?_|refine Ru.neq_nil0 ?_|refine CW.s ?_);conv=>whnf)
  refine ⟨rfl,kk,.inl ⟨f2,d,own',rfl,D2,fun x hx=>?_⟩⟩
  rcases h2 x hx with h | h | h
  ·exact .inr (by omega)
  ·exact .inl h
  ·exact .inr (Nat.le_trans k1.size h)
 ·conv=>whnf
  repeat ((first
   | refine Br.t ?_|refine Ru.n1 ?_|refine CW.s ?_);conv=>whnf)
  exact ⟨rfl,kk,.inr ⟨y,hy,hyb,rfl,D2.2⟩⟩
def arF (a:Nat→Nat) (j:Nat):Value:=.int .i64 (a j:Nat)
structure Cl where
 kind:Int
 a:Int
 x:Int
def Cl.cell (c:Cl) (j:Nat):Value:=if j=0 then .int .i64 c.kind else if j=1 then .int .i64 c.a else .int .i64 c.x
def i64R (x:Int):Prop:=-9223372036854775808≤x∧x≤9223372036854775807
def Cl.wf (c:Cl):Prop:=i64R c.kind∧i64R c.a∧i64R c.x
def Cl.of (c:Cl):Nat:=someN c.a 24
def Cl.n (c:Cl):Nat:=1+someN c.x 1000000
def Cl.kd (c:Cl):Nat:=someN c.kind 6
def Cl.arr (c:Cl) (a:Nat→Nat):Nat→Nat:=if c.kd≤2 then updf a c.of c.n else if c.kd=3 then updf a c.of 0 else a
theorem Cl.of_lt (c:Cl):c.of<24:=someN_lt _ (by omega)
theorem Cl.n_lt (c:Cl):c.n≤1000000:=by
 have:=someN_lt c.x (n:=1000000) (by omega)
 unfold Cl.n
 omega
theorem alloc_ar (w:World):(Instr.alloc 28 true (.tuple #[])).run Tryz.prog w = .ok (.pointer (some ⟨w.heap.size,0,none⟩)) (w.alloc (rowObj 24 (arF fun _=>0) 28)):=by kernel_rfl
theorem size_ar:(Tryz.prog.info? 28).map (·.size)=some 24:=by kernel_rfl
theorem arF_one (a:Nat→Nat) (j:Nat):(arF a j).oneCell'=true:=rfl
theorem put_ar (a:Nat→Nat) (o x:Nat) (j:Nat):put (arF a) o (.int .i64 (x:Nat)) j=arF (updf a o x) j:=by
 unfold put arF updf
 split<;>rfl
def DsEnds (own:List Nat) (d ch:Nat) (K':KS) (P':CS) (b:Option Nat) (tr:List CS) (a':Nat→Nat) (rd:Option (Nat→Nat)) (w:World) (v:Value) (w':World):Prop :=
 DvEnds own d ch K' P' b tr w w' (∃ Y n e f,v = .tuple #[agg 24 (arF a'),.slice Y n e,errOf 0]∧(match rd with | none=>Y=none∧n=0∧e=0 | some F=>n=160∧f=F)∧(rd=none∨Ly w' 5 1 Y n e (fun j=>.int .u8 (f j:Nat))∧∀ x,x∈blk Y→w.heap.size≤x)) (v = .tuple #[agg 24 (arF a'),.slice none 0 0,errOf 7])
section
variable {w w':World} {own:List Nat} {d ch:Nat} {K:KS} {P:CS} {b:Option Nat} {K':KS} {P':CS} {tr:List CS}
set_option maxHeartbeats 4000000 in
theorem does_write (D:DvOn w own d ch K P b) {c:Cl} (hw:c.wf) (hk:c.kd≤2) {a:Nat→Nat}
  (hcall:∀ {w1:World} {A:Option Addr} {e:Nat},DvOn w1 own d ch K P b→RdB w1 A 160 (byF c.n)→160≤e→Spec Tryz.prog 45 #[.pointer (some ⟨d,0,none⟩),.int .i64 c.of,.slice A 160 e] w1 fun v w'=>DvEnds own d ch K' P' b tr w1 w' (v=errOf 0) (v=errOf 7)) :
  Spec Tryz.prog 19 #[.pointer (some ⟨d,0,none⟩),agg 24 (arF a),agg 3 c.cell] w fun v w'=>DsEnds own d ch K' P' b tr (updf a c.of c.n) none w v w':=by
 have hof:=c.of_lt
 have hn:=c.n_lt
 have e1:someN c.a 24=c.of:=rfl
 have e2:1+someN c.x 1000000=c.n:=rfl
 have e3:someN c.kind 6=c.kd:=rfl
 refine spec_of_wpE (T:=tt) tt_ok Tryz.func19 rfl (by decide +kernel) Tryz.ntmps19 (by simp) ?_
 conv=>whnf
 refine Ru.boxa ?_
 intro x4 w1 hx4 hs1 r4 k1
 conv=>whnf
 refine Ru.boxa ?_
 intro x5 w2 hx5 hs2 r5 k2
 conv=>whnf
 refine Ru.alloca (alloc_ar w2) ?_
 intro x6 w3 hx6 hs3 r6 k3
 have r43:=r4.keep (k2.trans k3) (by simp)
 have r53:=r5.keep k3 (by simp)
 have kk3:=(k1.trans k2).trans k3
 have D3:=D.keep0 kk3
 have hx4w:w.heap.size≤x4:=by omega
 have hx6w:w.heap.size≤x6:=by omega
 have h46:x4≠x6:=by omega
 clear r4 r5 k1 k2 k3 hs1 hs2 hs3 hx4 hx5 hx6 w1 w2 D
 have c0:w3.cell? ⟨x5,0,none⟩=some (.int .i64 c.kind):=r53.cell 0 (by omega)
 have c1:w3.cell? ⟨x5,1,none⟩=some (.int .i64 c.a):=r53.cell 1 (by omega)
 have c2:w3.cell? ⟨x5,2,none⟩=some (.int .i64 c.x):=r53.cell 2 (by omega)
 conv=>whnf
 repeat ((first
  | (refine Ld.at (by omega) c1 ?_));conv=>whnf)
 refine Ca.of (some_ok c.a 24 hw.2.1 (by omega) w3) ?_
 rintro _ _ ⟨rfl,rfl⟩
 rw [e1]
 conv=>whnf
 repeat ((first
  | (refine Ld.at (by omega) c2 ?_));conv=>whnf)
 refine Ca.of (some_ok c.x 1000000 hw.2.2 (by omega) w3) ?_
 rintro _ _ ⟨rfl,rfl⟩
 have e2':(1:Int)+((someN c.x 1000000:Nat):Int)=(c.n:Nat):=by rw [← e2];omega
 have hb:=someN_lt c.x (n:=1000000) (by omega)
 conv=>whnf
 repeat ((first
  | (refine Ld.at (by omega) c0 ?_)
  | refine Ar.la ?_|refine CW.s ?_);conv=>whnf)
 rw [e2']
 refine Ca.of (some_ok c.kind 6 hw.1 (by omega) w3) ?_
 rintro _ _ ⟨rfl,rfl⟩
 rw [e3]
 have hk3:c.kd=0∨c.kd=1∨c.kd=2:=by omega
 rcases hk3 with h | h | h
 all_goals
  rw [h]
  conv=>whnf
  repeat ((first
   | (refine Ix.of c.of (by omega) (by omega) ?_)
   | refine Br.t ?_|refine Br.f ?_|refine CW.s ?_);conv=>whnf)
  rw [show 0+0+c.of=c.of by omega]
  refine Sd.rowAt r43 c.of (by omega) (by omega) rfl ?_
  intro w4 r44 k4
  have r44:Row w4 x4 28 24 (arF (updf a c.of c.n)):=r44.congr (fun j hj=>put_ar a c.of c.n j)
  have D4:=D3.away r43 (by decide) k4
  have r64:=r6.keep k4 (by simpa using h46.symm)
  have kk4:=kk3.fresh hx4w k4
  have hs4:=kk4.size
  clear D3 r43 r6 k4 kk3 c0 c1 c2 r53
  conv=>whnf
  refine CW.held (fun w'=>Row w' x4 28 24 (arF (updf a c.of c.n))) [] (.take 0 (.take 1 (.take 2 (.take 3 (.one 4 (.one 5 (.one 6 (.take 7 (.take 8 (.done)))))))))) tt_ok (by kernel_rfl) (by kernel_rfl) (by kernel_rfl) ?_ ?_
  ·exact Row.drewN r44 1
  have q4:=(Keep.refl [] w4).drewN 1
  have D5:=D4.keep0 q4
  have r45:=r44.keep q4 (by simp)
  have r65:=r64.keep q4 (by simp)
  have kk5:=kk4.trans q4
  clear D4 r44 r64 kk4 q4
  generalize w4.drewN 1=w5 at *
  conv=>whnf
  repeat ((first
   | (refine RuQ.of (fun w hS=>run_ldaC (q:=arF (updf a c.of c.n)) hS Tryz.underlying28 rfl size_ar (by omega) (fun j hj=>by rw [Nat.zero_add])) ?_));conv=>whnf)
  refine Ca.of (tbytes_ok c.n (by omega) w5) ?_
  rintro _ w6 ⟨g,rfl,hg,rg,k6⟩
  have D6:=D5.keep0 k6
  have r46:=r45.keep k6 (by simp)
  have r66:=r65.keep k6 (by simp)
  have kk6:=kk5.trans k6
  clear D5 r45 r65 kk5 k6 hg
  refine ⟨r46,?_⟩
  conv=>whnf
  refine Ca.of (hcall D6 (Rd.of_row rg (n:=160) (by omega)) (by omega)) ?_
  rintro u w7 ⟨k7,hr7⟩
  have r47:=r46.keep k7 (D6.far r46 (by decide))
  have r67:=r66.keep k7 (D6.far r66 (by decide))
  have hs6:=kk6.size
  have hlt:=D6.own_lt
  refine ⟨r47,?_⟩
  conv=>whnf
  refine Ru.sta r67 size_ar (by omega) (fun j hj=>arF_one _ j) ?_
  intro w8 r68 k8
  have r68:Row w8 x6 28 24 (arF (updf a c.of c.n)):=r68.congr (fun j hj=>by unfold lay;rw [if_pos (by omega),Nat.sub_zero])
  refine ⟨r47.keep k8 (by simpa using h46),?_⟩
  conv=>whnf
  refine Ru.ldaC (q:=arF (updf a c.of c.n)) r68 Tryz.underlying28 rfl size_ar (by omega) (fun j hj=>by rw [Nat.zero_add]) ?_
  conv=>whnf
  have hx6o:=D6.far r66 (by decide)
  have hio:=D6.in_own
  refine ⟨rfl,((kk6.mono (T:=own) (by simp)).trans k7).then k8 (fun x hx=>.inr (by rw [List.mem_singleton.1 hx];exact hx6w)),hr7.mono (fun b' hh=>?_) (fun Q hh=>?_)⟩
  ·obtain ⟨rfl,own',D7,h7⟩:=hh
   refine ⟨⟨none,0,0,fun _=>0,rfl,⟨rfl,rfl,rfl⟩,.inl rfl⟩,own',D7.away r67 (by decide) k8,fun x hx=>?_⟩
   rcases h7 x hx with h | h
   ·exact .inl h
   ·exact .inr (Nat.le_trans hs6 h)
  ·obtain ⟨rfl,hoff⟩:=hh
   exact ⟨rfl,hoff.keep k8 (fun hm=>hx6o (by rw [← List.mem_singleton.1 hm];exact hio.1)) (fun hm=>hx6o (by rw [← List.mem_singleton.1 hm];exact hio.2))⟩
set_option maxHeartbeats 4000000 in
theorem does_trim (D:DvOn w own d ch K P b) {c:Cl} (hw:c.wf) (hk:c.kd=3) {a:Nat→Nat}
  (hcall:∀ {w1:World},DvOn w1 own d ch K P b→Spec Tryz.prog 17 #[.pointer (some ⟨d,0,none⟩),.int .i64 c.of] w1 fun v w'=>DvEnds own d ch K' P' b tr w1 w' (v=errOf 0) (v=errOf 7)) :
  Spec Tryz.prog 19 #[.pointer (some ⟨d,0,none⟩),agg 24 (arF a),agg 3 c.cell] w fun v w'=>DsEnds own d ch K' P' b tr (updf a c.of 0) none w v w':=by
 have hof:=c.of_lt
 have hn:=c.n_lt
 have e1:someN c.a 24=c.of:=rfl
 have e2:1+someN c.x 1000000=c.n:=rfl
 have e3:someN c.kind 6=c.kd:=rfl
 refine spec_of_wpE (T:=tt) tt_ok Tryz.func19 rfl (by decide +kernel) Tryz.ntmps19 (by simp) ?_
 conv=>whnf
 refine Ru.boxa ?_
 intro x4 w1 hx4 hs1 r4 k1
 conv=>whnf
 refine Ru.boxa ?_
 intro x5 w2 hx5 hs2 r5 k2
 conv=>whnf
 refine Ru.alloca (alloc_ar w2) ?_
 intro x6 w3 hx6 hs3 r6 k3
 have r43:=r4.keep (k2.trans k3) (by simp)
 have r53:=r5.keep k3 (by simp)
 have kk3:=(k1.trans k2).trans k3
 have D3:=D.keep0 kk3
 have hx4w:w.heap.size≤x4:=by omega
 have hx6w:w.heap.size≤x6:=by omega
 have h46:x4≠x6:=by omega
 clear r4 r5 k1 k2 k3 hs1 hs2 hs3 hx4 hx5 hx6 w1 w2 D
 have c0:w3.cell? ⟨x5,0,none⟩=some (.int .i64 c.kind):=r53.cell 0 (by omega)
 have c1:w3.cell? ⟨x5,1,none⟩=some (.int .i64 c.a):=r53.cell 1 (by omega)
 have c2:w3.cell? ⟨x5,2,none⟩=some (.int .i64 c.x):=r53.cell 2 (by omega)
 conv=>whnf
 repeat ((first
  | (refine Ld.at (by omega) c1 ?_));conv=>whnf)
 refine Ca.of (some_ok c.a 24 hw.2.1 (by omega) w3) ?_
 rintro _ _ ⟨rfl,rfl⟩
 rw [e1]
 conv=>whnf
 repeat ((first
  | (refine Ld.at (by omega) c2 ?_));conv=>whnf)
 refine Ca.of (some_ok c.x 1000000 hw.2.2 (by omega) w3) ?_
 rintro _ _ ⟨rfl,rfl⟩
 have e2':(1:Int)+((someN c.x 1000000:Nat):Int)=(c.n:Nat):=by rw [← e2];omega
 have hb:=someN_lt c.x (n:=1000000) (by omega)
 conv=>whnf
 repeat ((first
  | (refine Ld.at (by omega) c0 ?_)
  | refine Ar.la ?_|refine CW.s ?_);conv=>whnf)
 rw [e2']
 refine Ca.of (some_ok c.kind 6 hw.1 (by omega) w3) ?_
 rintro _ _ ⟨rfl,rfl⟩
 rw [e3]
 rw [hk]
 conv=>whnf
 repeat ((first
  | (refine Ix.of c.of (by omega) (by omega) ?_)
  | refine Br.t ?_|refine Br.f ?_|refine CW.s ?_);conv=>whnf)
 rw [show 0+0+c.of=c.of by omega]
 refine Sd.rowAt r43 c.of (by omega) (by omega) rfl ?_
 intro w4 r44 k4
 have r44:Row w4 x4 28 24 (arF (updf a c.of 0)):=r44.congr (fun j hj=>put_ar a c.of 0 j)
 have D4:=D3.away r43 (by decide) k4
 have r64:=r6.keep k4 (by simpa using h46.symm)
 have kk4:=kk3.fresh hx4w k4
 have hs4:=kk4.size
 clear D3 r43 r6 k4 kk3 c0 c1 c2 r53
 conv=>whnf
 refine CW.held (fun w'=>Row w' x4 28 24 (arF (updf a c.of 0))) [] (.take 0 (.take 1 (.take 2 (.one 3 (.one 4 (.take 5 (.take 6 (.done)))))))) tt_ok (by kernel_rfl) (by kernel_rfl) (by kernel_rfl) ?_ ?_
 ·exact Row.drewN r44 1
 have q4:=(Keep.refl [] w4).drewN 1
 have D5:=D4.keep0 q4
 have r45:=r44.keep q4 (by simp)
 have r65:=r64.keep q4 (by simp)
 have kk5:=kk4.trans q4
 clear D4 r44 r64 kk4 q4
 generalize w4.drewN 1=w6 at *
 conv=>whnf
 repeat ((first
  | (refine RuQ.of (fun w hS=>run_ldaC (q:=arF (updf a c.of 0)) hS Tryz.underlying28 rfl size_ar (by omega) (fun j hj=>by rw [Nat.zero_add])) ?_));conv=>whnf)
 have D6:=D5
 have r46:=r45
 have r66:=r65
 have kk6:=kk5
 clear D5 r45 r65 kk5
 refine Ca.of (hcall D6) ?_
 rintro u w7 ⟨k7,hr7⟩
 have r47:=r46.keep k7 (D6.far r46 (by decide))
 have r67:=r66.keep k7 (D6.far r66 (by decide))
 have hs6:=kk6.size
 have hlt:=D6.own_lt
 refine ⟨r47,?_⟩
 conv=>whnf
 refine Ru.sta r67 size_ar (by omega) (fun j hj=>arF_one _ j) ?_
 intro w8 r68 k8
 have r68:Row w8 x6 28 24 (arF (updf a c.of 0)):=r68.congr (fun j hj=>by unfold lay;rw [if_pos (by omega),Nat.sub_zero])
 refine ⟨r47.keep k8 (by simpa using h46),?_⟩
 conv=>whnf
 refine Ru.ldaC (q:=arF (updf a c.of 0)) r68 Tryz.underlying28 rfl size_ar (by omega) (fun j hj=>by rw [Nat.zero_add]) ?_
 conv=>whnf
 have hx6o:=D6.far r66 (by decide)
 have hio:=D6.in_own
 refine ⟨rfl,((kk6.mono (T:=own) (by simp)).trans k7).then k8 (fun x hx=>.inr (by rw [List.mem_singleton.1 hx];exact hx6w)),hr7.mono (fun b' hh=>?_) (fun Q hh=>?_)⟩
 ·obtain ⟨rfl,own',D7,h7⟩:=hh
  refine ⟨⟨none,0,0,fun _=>0,rfl,⟨rfl,rfl,rfl⟩,.inl rfl⟩,own',D7.away r67 (by decide) k8,fun x hx=>?_⟩
  rcases h7 x hx with h | h
  ·exact .inl h
  ·exact .inr (Nat.le_trans hs6 h)
 ·obtain ⟨rfl,hoff⟩:=hh
  exact ⟨rfl,hoff.keep k8 (fun hm=>hx6o (by rw [← List.mem_singleton.1 hm];exact hio.1)) (fun hm=>hx6o (by rw [← List.mem_singleton.1 hm];exact hio.2))⟩
set_option maxHeartbeats 4000000 in
theorem does_read (D:DvOn w own d ch K P b) {c:Cl} (hw:c.wf) (hk:4≤c.kd) {a:Nat→Nat} {F:Nat→Nat}
  (hcall:∀ {w1:World},DvOn w1 own d ch K P b→Spec Tryz.prog 22 #[.pointer (some ⟨d,0,none⟩),.int .i64 c.of] w1 fun v w'=>RdEnds own d ch K' P' b tr F w1 v w') :
  Spec Tryz.prog 19 #[.pointer (some ⟨d,0,none⟩),agg 24 (arF a),agg 3 c.cell] w fun v w'=>DsEnds own d ch K' P' b tr a (some F) w v w':=by
 have hof:=c.of_lt
 have hn:=c.n_lt
 have e1:someN c.a 24=c.of:=rfl
 have e2:1+someN c.x 1000000=c.n:=rfl
 have e3:someN c.kind 6=c.kd:=rfl
 refine spec_of_wpE (T:=tt) tt_ok Tryz.func19 rfl (by decide +kernel) Tryz.ntmps19 (by simp) ?_
 conv=>whnf
 refine Ru.boxa ?_
 intro x4 w1 hx4 hs1 r4 k1
 conv=>whnf
 refine Ru.boxa ?_
 intro x5 w2 hx5 hs2 r5 k2
 conv=>whnf
 refine Ru.alloca (alloc_ar w2) ?_
 intro x6 w3 hx6 hs3 r6 k3
 have r43:=r4.keep (k2.trans k3) (by simp)
 have r53:=r5.keep k3 (by simp)
 have kk3:=(k1.trans k2).trans k3
 have D3:=D.keep0 kk3
 have hx4w:w.heap.size≤x4:=by omega
 have hx6w:w.heap.size≤x6:=by omega
 have h46:x4≠x6:=by omega
 clear r4 r5 k1 k2 k3 hs1 hs2 hs3 hx4 hx5 hx6 w1 w2 D
 have c0:w3.cell? ⟨x5,0,none⟩=some (.int .i64 c.kind):=r53.cell 0 (by omega)
 have c1:w3.cell? ⟨x5,1,none⟩=some (.int .i64 c.a):=r53.cell 1 (by omega)
 have c2:w3.cell? ⟨x5,2,none⟩=some (.int .i64 c.x):=r53.cell 2 (by omega)
 conv=>whnf
 repeat ((first
  | (refine Ld.at (by omega) c1 ?_));conv=>whnf)
 refine Ca.of (some_ok c.a 24 hw.2.1 (by omega) w3) ?_
 rintro _ _ ⟨rfl,rfl⟩
 rw [e1]
 conv=>whnf
 repeat ((first
  | (refine Ld.at (by omega) c2 ?_));conv=>whnf)
 refine Ca.of (some_ok c.x 1000000 hw.2.2 (by omega) w3) ?_
 rintro _ _ ⟨rfl,rfl⟩
 have e2':(1:Int)+((someN c.x 1000000:Nat):Int)=(c.n:Nat):=by rw [← e2];omega
 have hb:=someN_lt c.x (n:=1000000) (by omega)
 conv=>whnf
 repeat ((first
  | (refine Ld.at (by omega) c0 ?_)
  | refine Ar.la ?_|refine CW.s ?_);conv=>whnf)
 rw [e2']
 refine Ca.of (some_ok c.kind 6 hw.1 (by omega) w3) ?_
 rintro _ _ ⟨rfl,rfl⟩
 rw [e3]
 have hlt6:c.kd<6:=someN_lt _ (by omega)
 have hk3:c.kd=4∨c.kd=5:=by omega
 rcases hk3 with h | h
 all_goals
  rw [h]
  conv=>whnf
  repeat ((first
   | refine Br.f ?_|refine CW.s ?_);conv=>whnf)
  refine Ca.of (hcall D3) ?_
  rintro u w7 ⟨k7,hr7⟩
  have r47:=r43.keep k7 (D3.far r43 (by decide))
  have r67:=r6.keep k7 (D3.far r6 (by decide))
  have hx6o:=D3.far r6 (by decide)
  have hio:=D3.in_own
  have hlt:=D3.own_lt
  have hs3:=kk3.size
  have hs7:=k7.size
  have hx6l:=r6.lt
  have fin:∀ w8,Keep [x6] w7 w8→Keep own w w8:=fun w8 k8=>((kk3.mono (T:=own) (by simp)).trans k7).then k8 (fun x hx=>.inr (by rw [List.mem_singleton.1 hx];exact hx6w))
  rcases hr7 with ⟨f7,⟨Y,e,rfl,hY,hYn⟩,own',D7,h7⟩ | ⟨y,hy,hyb,rfl,hoff⟩
  ·conv=>whnf
   refine Ru.ldaC (q:=arF a) r47 Tryz.underlying28 rfl size_ar (by omega) (fun j hj=>by rw [Nat.zero_add]) ?_
   conv=>whnf
   refine Ru.sta r67 size_ar (by omega) (fun j hj=>arF_one _ j) ?_
   intro w8 r68 k8
   have r68:Row w8 x6 28 24 (arF a):=r68.congr (fun j hj=>by unfold lay;rw [if_pos (by omega),Nat.sub_zero])
   conv=>whnf
   refine Ru.ldaC (q:=arF a) r68 Tryz.underlying28 rfl size_ar (by omega) (fun j hj=>by rw [Nat.zero_add]) ?_
   conv=>whnf
   refine ⟨rfl,fin w8 k8,.inl ⟨f7,⟨Y,160,e,F,rfl,⟨rfl,rfl⟩,.inr ⟨hY.keep k8 (fun x hx hm=>?_),fun x hx=>Nat.le_trans hs3 (hYn x hx)⟩⟩,own',D7.away r67 (by decide) k8,fun x hx=>?_⟩⟩
   ·have:=hYn x hx
    rw [List.mem_singleton.1 hm] at this
    omega
   ·rcases h7 x hx with h | h
    ·exact .inl h
    ·exact .inr (Nat.le_trans hs3 h)
  ·conv=>whnf
   refine Ru.ldaC (q:=arF a) r47 Tryz.underlying28 rfl size_ar (by omega) (fun j hj=>by rw [Nat.zero_add]) ?_
   conv=>whnf
   refine Ru.sta r67 size_ar (by omega) (fun j hj=>arF_one _ j) ?_
   intro w8 r68 k8
   have r68:Row w8 x6 28 24 (arF a):=r68.congr (fun j hj=>by unfold lay;rw [if_pos (by omega),Nat.sub_zero])
   conv=>whnf
   refine Ru.ldaC (q:=arF a) r68 Tryz.underlying28 rfl size_ar (by omega) (fun j hj=>by rw [Nat.zero_add]) ?_
   conv=>whnf
   exact ⟨rfl,fin w8 k8,.inr ⟨y,hy,hyb,rfl,hoff.keep k8 (fun hm=>hx6o (by rw [← List.mem_singleton.1 hm];exact hio.1)) (fun hm=>hx6o (by rw [← List.mem_singleton.1 hm];exact hio.2))⟩⟩
end
def arB (a:Nat→Nat) (o j:Nat):Nat:=byF (a o) j
theorem arB_set (a:Nat→Nat) (s x:Nat):setA (arB a) s (byF x)=arB (updf a s x):=by
 funext o j
 unfold setA arB updf
 split<;>rfl
structure Answers (c:Cl) (a:Nat→Nat) (rd:Option (Nat→Nat)):Prop where
 none:c.kd≤3→rd=none
 some:4≤c.kd→∃ F,rd=some F∧∀ j,j<160→F j=arB a c.of j
theorem does_call {K:KS} {P:CS} {k:Cp} {m:Int} (I:Inv K P k m) (hq:K.qu=[]) (hm:m+1<1099511627775) {c:Cl} (hw:c.wf) {a:Nat→Nat} (hs:Shows P K.at_ (arB a)):∃ K' P' k' t1 t2 rd,CallEnd K P m (arB a) (arB (c.arr a)) K' P' k' t1 t2∧Answers c a rd ∧
  ∀ {w:World} {own:List Nat} {d ch:Nat} {b:Option Nat},DvOn w own d ch K P b→Spec Tryz.prog 19 #[.pointer (some ⟨d,0,none⟩),agg 24 (arF a),agg 3 c.cell] w fun v w'=>DsEnds own d ch K' P' b (t1 ++ t2) (c.arr a) rd w v w':=by
 by_cases h1:c.kd≤2
 ·obtain ⟨K',P',k',t1,t2,h,hc⟩:=dev_write I hq hm c.of_lt (f:=byF c.n) (byF_lt _)
  have e:c.arr a=updf a c.of c.n:=if_pos h1
  refine ⟨K',P',k',t1,t2,none,?_,⟨fun _=>rfl,fun h=>by omega⟩,fun D=>?_⟩
  ·rw [e, ← arB_set]
   exact h _ hs
  ·rw [e]
   exact does_write D hw h1 (fun D1 hA he=>hc D1 hA he)
 ·by_cases h3:c.kd=3
  ·obtain ⟨K',P',k',t1,t2,h,hc⟩:=dev_trim I hq hm c.of_lt
   have e:c.arr a=updf a c.of 0:=by
    unfold Cl.arr
    rw [if_neg h1,if_pos h3]
   refine ⟨K',P',k',t1,t2,none,?_,⟨fun _=>rfl,fun h=>by omega⟩,fun D=>?_⟩
   ·rw [e, ← arB_set]
    exact h _ hs
   ·rw [e]
    exact does_trim D hw h3 (fun D1=>hc D1)
  ·obtain ⟨K',P',k',t2,F,h,hc⟩:=dev_read I hq hm c.of_lt
   have e:c.arr a=a:=by
    unfold Cl.arr
    rw [if_neg h1,if_neg h3]
   obtain ⟨h4,h5⟩:=h _ hs
   refine ⟨K',P',k',[],t2,some F,?_,⟨fun h=>by omega,fun _=>⟨F,rfl,h5⟩⟩,fun D=>?_⟩
   ·rw [e]
    exact h4
   ·rw [e]
    exact does_read D hw (by omega) (fun D1=>hc D1)
structure Carries (K K':KS) (P P':CS) (c:Nat):Prop where
 nil:c=0→K'=K∧P'=P
 go:0≤K.calls→K.calls<8→(0≤K'.calls∧K'.calls<8)∧∀ J,Stab J→∀ n,J n K P→J (n+c) K' P'
theorem Carries.refl (K:KS) (P:CS):Carries K K P P (130 * 0):=⟨fun _=>⟨rfl,rfl⟩,fun h0 h8=>⟨⟨h0,h8⟩,fun J S n j=>j⟩⟩
theorem Carries.step {K K1 K':KS} {P P1 P':CS} {m:Int} {a a':Nat→Nat→Nat} {k':Cp} {t1 t2:List CS} {i:Nat} (h:Carries K K1 P P1 (130 * i)) (E:CallEnd K1 P1 m a a' K' P' k' t1 t2):Carries K K' P P' (130 * (i+1)):=⟨fun e=>by omega,fun h0 h8=>by
 obtain ⟨⟨a1,a2⟩,a3⟩:=h.go h0 h8
 obtain ⟨⟨b1,b2,-⟩,b3⟩:=E.st a1 a2
 exact ⟨⟨b1,b2⟩,fun J S n j=>S.mono (by omega) (b3 J S _ (a3 J S n j))⟩⟩
def clF (L:List Cl) (q:Nat):Value:=(L.getD (q / 3) ⟨0,0,0⟩).cell (q % 3)
def playA (a:Nat→Nat) (L:List Cl):Nat→Nat:=L.foldl (fun a c=>c.arr a) a
theorem playA_snoc (a:Nat→Nat) (L:List Cl) (c:Cl):playA a (L ++ [c])=c.arr (playA a L):=by
 unfold playA
 rw [List.foldl_append]
 rfl
theorem arr_le {a:Nat→Nat} (h:∀ o,a o≤1000000) (c:Cl):∀ o,c.arr a o≤1000000:=fun o=>by
 have:=c.n_lt
 unfold Cl.arr
 split
 ·unfold updf
  split
  ·exact this
  ·exact h o
 ·split
  ·unfold updf
   split
   ·omega
   ·exact h o
  ·exact h o
theorem playA_le {a:Nat→Nat} (h:∀ o,a o≤1000000) (L:List Cl):∀ o,playA a L o≤1000000:=by
 induction L using snoc_rec with
 | h0=>exact h
 | h1 L c ih =>
  rw [playA_snoc]
  exact arr_le ih c
theorem cl_take {L:List Cl} {i:Nat} (h:i<L.length):L.take (i+1)=L.take i ++ [L.getD i ⟨0,0,0⟩]:=by
 rw [List.take_add_one,List.getD_eq_getElem?_getD,List.getElem?_eq_getElem h]
 rfl
theorem cl_mem {L:List Cl} {i:Nat} (h:i<L.length):L.getD i ⟨0,0,0⟩∈L:=by
 rw [List.getD_eq_getElem?_getD,List.getElem?_eq_getElem h]
 exact List.getElem_mem h
theorem cl_cells {w:World} {A:Option Addr} {L:List Cl} (r:Rd w A (L.length * 3) (clF L)) {i:Nat} (hi:i<L.length):∃ g o,A=some ⟨g,o,none⟩∧∀ j,j<3→w.cell? ⟨g,o+i * 3+j,none⟩=some ((L.getD i ⟨0,0,0⟩).cell j):=by
 obtain ⟨g,o,e,h⟩:=r (by omega)
 refine ⟨g,o,e,fun j hj=>?_⟩
 have:=h (i * 3+j) (by omega)
 rw [← Nat.add_assoc] at this
 rw [this]
 unfold clF
 rw [show (i * 3+j) / 3=i by omega,show (i * 3+j) % 3=j by omega]
theorem Cl.cell_one (c:Cl) (j:Nat):(c.cell j).oneCell'=true:=by
 unfold Cl.cell
 split
 ·rfl
 ·split<;>rfl
theorem run_ldcl {w:World} {g o:Nat} {c:Cl} (h:∀ j,j<3→w.cell? ⟨g,o+j,none⟩=some (c.cell j)):(loadVar 36 ⟨g,o,none⟩).run Tryz.prog w = .ok (agg 3 c.cell) w:=by
 have e:∀ m,m<3→(load ((⟨g,o,none⟩:Addr).add m)).run Tryz.prog w = .ok (c.cell m) w:=fun m hm=>by
  rw [add_none]
  simp [load,Sem.run,h m hm]
 have ha:(isAgg 36).run Tryz.prog w = .ok true w:=run_isAgg_of Tryz.underlying36 rfl w
 have hs:(sizeOf 36).run Tryz.prog w = .ok 3 w:=size_of_is (by kernel_rfl) w
 simp only [loadVar,Sem.run_bind,ha,Result.andThen_ok,if_true,hs,loadCells,loadCellsFrom,e 0 (by omega),e 1 (by omega),e 2 (by omega),Sem.run_pure]
 rw [show agg 3 c.cell = .agg #[c.cell 0,c.cell 1,c.cell 2] by unfold agg;simp [Array.range,Array.ofFn_succ]]
 rfl
theorem ne_slice (w:World) (x:Operand) (A:Option Addr) (n c:Nat):(do eqGuard .neq 37 x (.const (.slice none 0 0)) (.slice A n c) (.slice none 0 0);binOp .neq 37 (.slice A n c) (.slice none 0 0):Sem Value).run Tryz.prog w = .ok (.bool A.isSome) w:=by
 cases A<;>kernel_rfl
section
variable {w w':World} {own:List Nat} {d ch:Nat} {K:KS} {P:CS} {k:Cp} {m:Int}
structure PlI (w0:World) (own0:List Nat) (d ch:Nat) (K:KS) (P:CS) (k:Cp) (m:Int) (a:Nat→Nat) (own:List Nat) (w:World):Prop where
 on:DvOn w own d ch K P none
 inv:Inv K P k m
 qu:K.qu=[]
 sh:Shows P K.at_ (arB a)
 sub:∀ x,x∈own→x∈own0∨w0.heap.size≤x
 kk:Keep own0 w0 w
set_option maxHeartbeats 8000000 in
theorem plays_ok (D:DvOn w own d ch K P none) (I:Inv K P k m) (hq:K.qu=[]) {a:Nat→Nat} (hs:Shows P K.at_ (arB a)) {L:List Cl} {A:Option Addr} {cA:Nat} (hL:Rd w A (L.length * 3) (clF L)) (hw:∀ c,c∈L→c.wf) (hA:0<L.length→∀ x,A=some x→x.block∉own) (hm:m+2 * L.length<1099511627775) (ha:∀ o,a o≤1000000) :
  Spec Tryz.prog 41 #[.pointer (some ⟨d,0,none⟩),agg 24 (arF a),.slice A L.length cA] w fun v w'=>v = .tuple #[agg 24 (arF (playA a L)),.bool true]∧∃ K' P' k' own',PlI w own d ch K' P' k' (m+2 * L.length) (playA a L) own' w'∧Carries K K' P P' (130 * L.length):=by
 have hmpos:1≤m:=by
  have:=I.l.next
  omega
 have hfarL:∀ (w1 w2:World),Keep [w.heap.size] w1 w2→Rd w1 A (L.length * 3) (clF L)→Rd w2 A (L.length * 3) (clF L):=fun w1 w2 k' h' hn0=>by
  obtain ⟨b0,o0,rfl,hc0⟩:=hL hn0
  have h9:b0<w.heap.size:=cell_lt (hc0 0 hn0)
  exact h'.keep k' (fun a e hm=>by
   cases e
   have h8:b0=w.heap.size:=List.mem_singleton.1 hm
   omega) hn0
 refine spec_of_wpE (T:=tt) tt_ok Tryz.func41 rfl (by decide +kernel) Tryz.ntmps41 (by simp) ?_
 conv=>whnf
 refine Ru.boxa ?_
 intro x4 w1 hx4 hs1 r4 k1
 conv=>whnf
 refine Ru.alloca (alloc_ar w1) ?_
 intro x6 w2 hx6 hs2 r6 k2
 have r42:=r4.keep k2 (by simp)
 have kk2:=k1.trans k2
 have D2:=D.keep0 kk2
 have hL2:=hL.keep0 kk2
 have hx4w:w.heap.size≤x4:=by omega
 have hx6w:w.heap.size≤x6:=by omega
 have h46:x4≠x6:=by omega
 rw [← hx4] at hfarL
 clear r4 k1 k2 hs1 hs2 hx4 hx6 w1
 conv=>whnf
 repeat ((first
  | refine CW.s ?_);conv=>whnf)
 refine CW.loop (ι:=Nat × KS × CS × Cp × List Nat) (fun i w'=>i.1≤L.length∧PlI w own d ch i.2.1 i.2.2.1 i.2.2.2.1 (m+2 * i.1) (playA a (L.take i.1)) i.2.2.2.2 w'∧Row w' x4 28 24 (arF (playA a (L.take i.1)))∧Row w' x6 28 24 (arF fun _=>0)∧Rd w' A (L.length * 3) (clF L)∧Carries K i.2.1 P i.2.2.1 (130 * i.1))
  (fun i=>[(0,.pointer (some ⟨d,0,none⟩)),(2,.slice A L.length cA),(4,.pointer (some ⟨x4,0,none⟩)),(6,.pointer (some ⟨x6,0,none⟩)),(8,.int .i64 i.1)]) (fun i=>L.length - i.1) (0,K,P,k,own) tt_ok
  ⟨by omega,⟨D2,by simpa using I,hq,hs,fun x hx=>.inl hx,kk2.mono (by simp)⟩,r42,r6,hL2,Carries.refl K P⟩ ⟨rfl,rfl,rfl,rfl,rfl,trivial⟩ ?_
 clear D2 r42 r6 hL2 kk2
 rintro ⟨i,K1,P1,k1,own1⟩ wr ⟨hi,⟨D1,I1,q1,s1,sub1,kk⟩,r4,r6,hLr,hz⟩
 simp only at hi D1 I1 q1 s1 sub1 kk r4 r6 hLr hz ⊢
 rcases Nat.lt_or_ge i L.length with hlt | hge
 ·obtain ⟨g,o,rfl,hcell⟩:=cl_cells hLr hlt
  have htk:=cl_take hlt
  have hcw:=hw _ (cl_mem hlt)
  have hgo:g∉own1:=fun hx=>by
   rcases sub1 g hx with h | h
   ·exact hA (by omega) _ rfl h
   ·obtain ⟨g',o',e',h'⟩:=hL (by omega)
    cases e'
    have h9:g<w.heap.size:=cell_lt (h' 0 (by omega))
    omega
  generalize L.getD i ⟨0,0,0⟩=c at *
  conv=>whnf
  repeat ((first
   | refine Br.y ?_|refine CW.s ?_);conv=>whnf)
  refine CW.held (fun w'=>Row w' x4 28 24 (arF (playA a (L.take i)))∧∀ j,j<3→w'.cell? ⟨g,o+i * 3+j,none⟩=some (c.cell j)) [] (.take 0 (.take 1 (.take 2 (.take 3 (.take 4 (.take 5 (.two 6 (.take 7 (.take 8 (.take 9 (.take 10 (.one 11 (.one 12 (.take 13 (.take 14 (.done))))))))) 11 (.one 6 (.take 7 (.take 8 (.take 9 (.take 10 (.one 12 (.take 13 (.take 14 (.done)))))))))))))))) tt_ok (by kernel_rfl) (by kernel_rfl) (by kernel_rfl) ?_ ?_
  ·exact ⟨Row.drewN r4 1,hcell⟩
  have q2:=(Keep.refl [] wr).drewN 1
  have D2:=D1.keep0 q2
  have r42:=r4.keep q2 (by simp)
  have r62:=r6.keep q2 (by simp)
  have hL2:=hLr.keep0 q2
  have hc2:∀ j,j<3→(wr.drewN 1).cell? ⟨g,o+i * 3+j,none⟩=some (c.cell j):=hcell
  have kk2:=kk.trans (q2.mono (T:=own) (by simp))
  clear D1 r4 r6 hLr hcell kk q2
  generalize wr.drewN 1=w2 at *
  obtain ⟨K2,P2,k2,t1,t2,rd,CE,An,hcall⟩:=does_call I1 q1 (by omega) hcw s1
  conv=>whnf
  repeat ((first
   | (refine RuQ.of (fun w hS=>run_ldaC (q:=arF (playA a (L.take i))) hS.1 Tryz.underlying28 rfl size_ar (by omega) (fun j hj=>by rw [Nat.zero_add])) ?_)
   | (refine Ix.of i (by omega) (by omega) ?_)
   | (refine RuQ.of (fun w hS=>run_ldcl hS.2) ?_));conv=>whnf)
  refine And.intro ?_ ?_
  case' refine_1 =>
   refine Ca.of (hcall D2) ?_
   rintro u w3 ⟨k3,hr3⟩
   rcases hr3 with ⟨f3,⟨Y,n,e,f,rfl,hm1,hm2⟩,own3,D3,h3⟩ | ⟨y,hy,hyb,-⟩
   case inr=>cases hyb
   have r43:=r42.keep k3 (D2.far r42 (by decide))
   have r63:=r62.keep k3 (D2.far r62 (by decide))
   have hL3:=hL2.keep k3 (fun x ex hm=>by cases ex;exact hgo hm)
   have hc3:∀ j,j<3→w3.cell? ⟨g,o+i * 3+j,none⟩=some (c.cell j):=fun j hj=>(k3.cell (cell_lt (hc2 j hj)) hgo).trans (hc2 j hj)
   have kk3:Keep own w w3:=kk2.then k3 sub1
   have hs2:=kk2.size
   have sub3:∀ x,x∈own3→x∈own∨w.heap.size≤x:=fun x hx=>by
    rcases h3 x hx with h | h
    ·exact sub1 x h
    ·exact .inr (Nat.le_trans hs2 h)
   have hs3:=k3.size
   clear D2 r42 r62 hL2 hc2 k3 h3
   refine ⟨⟨r43,hc3⟩,?_⟩
   conv=>whnf
   refine Ru.alloca (alloc_ar w3) ?_
   intro x9 w4 hx9 hs4 r9 k4
   refine ⟨⟨r43.keep k4 (by simp),fun j hj=>(k4.cell (cell_lt (hc3 j hj)) (by simp)).trans (hc3 j hj)⟩,?_⟩
   conv=>whnf
   refine Ru.sta r9 size_ar (by omega) (fun j hj=>arF_one _ j) ?_
   intro w5 r95 k5
   have r95:Row w5 x9 28 24 (arF (c.arr (playA a (L.take i)))):=r95.congr (fun j hj=>by unfold lay;rw [if_pos (by omega),Nat.sub_zero])
   have q5:Keep [] w3 w5:=k4.then k5 (fun x hx=>.inr (by rw [List.mem_singleton.1 hx,hx9];exact Nat.le_refl _))
   have hY5:rd=none∨Ly w5 5 1 Y n e (fun j=>.int .u8 (f j:Nat)):=by
    rcases hm2 with h | ⟨h,-⟩
    ·exact .inl h
    ·exact .inr (h.keep0 q5)
   have D5:=D3.keep0 q5
   have r45:=r43.keep q5 (by simp)
   have r65:=r63.keep q5 (by simp)
   have hL5:=hL3.keep0 q5
   have hc5:∀ j,j<3→w5.cell? ⟨g,o+i * 3+j,none⟩=some (c.cell j):=fun j hj=>(q5.cell (cell_lt (hc3 j hj)) (by simp)).trans (hc3 j hj)
   have kk5:=kk3.trans (q5.mono (T:=own) (by simp))
   have h49:x4≠x9:=by
    have:=r43.lt
    omega
   clear D3 r43 r63 hL3 hc3 k4 k5 r9 hs4 kk3 q5 hm2 hx9
   refine ⟨⟨r45,hc5⟩,?_⟩
   conv=>whnf
   repeat ((first
    | refine Br.f ?_|refine Ru.neq_nil0 ?_|refine CW.s ?_);conv=>whnf)
  case' refine_2 =>
   refine Ru.alloca (alloc_ar w2) ?_
   intro x9 w3 hx9 hs4 r9 k4
   have h49:x4≠x9:=by
    have:=r42.lt
    omega
   have h69:x6≠x9:=by
    have:=r62.lt
    omega
   have hg9:g≠x9:=by
    have h9:g<w2.heap.size:=cell_lt (hc2 0 (by omega))
    omega
   have h9w:w.heap.size≤x9:=by
    have:=kk2.size
    omega
   have D3:=D2.keep0 k4
   have r43:=r42.keep k4 (by simp)
   have r63:=r62.keep k4 (by simp)
   have hL3:=hL2.keep0 k4
   have hc3:∀ j,j<3→w3.cell? ⟨g,o+i * 3+j,none⟩=some (c.cell j):=fun j hj=>(k4.cell (cell_lt (hc2 j hj)) (by simp)).trans (hc2 j hj)
   have kk3:=kk2.trans (k4.mono (T:=own) (by simp))
   clear D2 r42 r62 hL2 hc2 kk2 k4 hs4 hx9
   refine ⟨⟨r43,hc3⟩,?_⟩
   conv=>whnf
   refine Ca.of (hcall D3) ?_
   rintro u w4 ⟨k3,hr3⟩
   rcases hr3 with ⟨f3,⟨Y,n,e,f,rfl,hm1,hm2⟩,own3,D4,h3⟩ | ⟨y,hy,hyb,-⟩
   case inr=>cases hyb
   have r44:=r43.keep k3 (D3.far r43 (by decide))
   have r64:=r63.keep k3 (D3.far r63 (by decide))
   have r94:=r9.keep k3 (D3.far r9 (by decide))
   have hL4:=hL3.keep k3 (fun x ex hm=>by cases ex;exact hgo hm)
   have hc4:∀ j,j<3→w4.cell? ⟨g,o+i * 3+j,none⟩=some (c.cell j):=fun j hj=>(k3.cell (cell_lt (hc3 j hj)) hgo).trans (hc3 j hj)
   have kk4:Keep own w w4:=kk3.then k3 sub1
   have hs2:=kk3.size
   have sub3:∀ x,x∈own3→x∈own∨w.heap.size≤x:=fun x hx=>by
    rcases h3 x hx with h | h
    ·exact sub1 x h
    ·exact .inr (Nat.le_trans hs2 h)
   have hs3:=k3.size
   have h9l:=r9.lt
   clear D3 r43 r63 r9 hL3 hc3 k3 h3 kk3
   refine ⟨⟨r44,hc4⟩,?_⟩
   conv=>whnf
   refine Ru.sta r94 size_ar (by omega) (fun j hj=>arF_one _ j) ?_
   intro w5 r95 k5
   have r95:Row w5 x9 28 24 (arF (c.arr (playA a (L.take i)))):=r95.congr (fun j hj=>by unfold lay;rw [if_pos (by omega),Nat.sub_zero])
   have hY5:rd=none∨Ly w5 5 1 Y n e (fun j=>.int .u8 (f j:Nat)):=by
    rcases hm2 with h | ⟨h,h'⟩
    ·exact .inl h
    ·exact .inr (h.keep k5 (fun x hx hm=>by
      have:=h' x hx
      rw [List.mem_singleton.1 hm] at this
      omega))
   have D5:=D4.away r94 (by decide) k5
   have r45:=r44.keep k5 (by simpa using h49)
   have r65:=r64.keep k5 (by simpa using h69)
   have hL5:=hL4.keep k5 (fun x ex hm=>by cases ex;exact hg9 (List.mem_singleton.1 hm))
   have hc5:∀ j,j<3→w5.cell? ⟨g,o+i * 3+j,none⟩=some (c.cell j):=fun j hj=>(k5.cell (cell_lt (hc4 j hj)) (by simpa using hg9)).trans (hc4 j hj)
   have kk5:=kk4.then k5 (fun x hx=>.inr (by rw [List.mem_singleton.1 hx];exact h9w))
   clear D4 r44 r64 r94 hL4 hc4 k5 kk4 hm2 h69 hg9 h9w h9l
   refine ⟨⟨r45,hc5⟩,?_⟩
   conv=>whnf
   repeat ((first
    | refine Br.f ?_|refine Ru.neq_nil0 ?_|refine CW.s ?_);conv=>whnf)
  all_goals
   refine Ru.of (ne_slice w5 _ _ _ _) ?_
   have hst:playA a (L.take (i+1))=c.arr (playA a (L.take i)):=by rw [htk,playA_snoc]
   have fin:∀ w6,Keep [x4] w5 w6→Row w6 x4 28 24 (arF (c.arr (playA a (L.take i))))→(i+1≤L.length∧PlI w own d ch K2 P2 k2 (m+2 * (i+1:Nat)) (playA a (L.take (i+1))) own3 w6∧Row w6 x4 28 24 (arF (playA a (L.take (i+1))))∧Row w6 x6 28 24 (arF fun _=>0)∧Rd w6 (some ⟨g,o,none⟩) (L.length * 3) (clF L)∧Carries K K2 P P2 (130 * (i+1))):=fun w6 k6 r46=>by
    rw [hst]
    have I6:=CE.inv
    rw [show m+2 * ((i:Nat):Int)+2=m+2 * ((i+1:Nat):Int) by omega] at I6
    refine ⟨hlt,⟨D5.away r45 (by decide) k6,I6,CE.qu,CE.sh,sub3,kk5.then k6 (fun x hx=>.inr (by rw [List.mem_singleton.1 hx];exact hx4w))⟩,r46,r65.keep k6 (by simpa using h46.symm),hfarL _ _ k6 hL5,hz.step CE⟩
   cases rd with
   | none =>
    obtain ⟨rfl,rfl,rfl⟩:=hm1
    conv=>whnf
    repeat ((first
     | refine Br.f ?_|refine Pk.f ?_);conv=>whnf)
    refine Ru.ldaC (q:=arF (c.arr (playA a (L.take i)))) r95 Tryz.underlying28 rfl size_ar (by omega) (fun j hj=>by rw [Nat.zero_add]) ?_
    conv=>whnf
    refine Ru.sta r45 size_ar (by omega) (fun j hj=>arF_one _ j) ?_
    intro w6 r46 k6
    have r46:Row w6 x4 28 24 (arF (c.arr (playA a (L.take i)))):=r46.congr (fun j hj=>by unfold lay;rw [if_pos (by omega),Nat.sub_zero])
    conv=>whnf
    repeat ((first
     | refine Ar.la ?_);conv=>whnf)
    exact ⟨(i+1,K2,P2,k2,own3),fin w6 k6 r46,⟨rfl,rfl,rfl,rfl,vi (by simp only;omega),trivial⟩,by simp only;omega⟩
   | some F =>
    obtain ⟨hn160,hfF⟩:=hm1
    subst hn160
    have hkd:4≤c.kd:=by
     by_cases h:c.kd≤3
     ·have:=An.none h
      cases this
     ·omega
    obtain ⟨F',hF',hFe⟩:=An.some hkd
    cases hF'
    have hof:=c.of_lt
    have hY6:Rd w5 Y 160 (fun j=>.int .u8 ((byF (playA a (L.take i) c.of) j:Nat):Int)):=by
     rcases hY5 with h | h
     ·cases h
     ·have h2:=h.rd
      rw [Nat.mul_one] at h2
      intro hp
      obtain ⟨g1,o1,e1,h3⟩:=h2 hp
      refine ⟨g1,o1,e1,fun j hj=>?_⟩
      rw [h3 j hj,hfF]
      show some (Value.int .u8 ((F j:Nat):Int))=_
      rw [hFe j hj]
      rfl
    obtain ⟨gy,oy,rfl,hcy⟩:=hY6 (by omega)
    have hY6:Rd w5 (some ⟨gy,oy,none⟩) 160 (fun j=>.int .u8 ((byF (playA a (L.take i) c.of) j:Nat):Int)):=fun _=>⟨gy,oy,rfl,hcy⟩
    have ha1:=playA_le ha (L.take i) c.of
    have c1:w5.cell? ⟨g,o+i * 3+1,none⟩=some (.int .i64 c.a):=hc5 1 (by omega)
    have ca:w5.cell? ⟨x4,c.of,none⟩=some (.int .i64 (playA a (L.take i) c.of:Nat)):=r45.cell c.of (by omega)
    have ecof:someN c.a 24=c.of:=rfl
    conv=>whnf
    repeat ((first
     | (refine Ix.of i (by omega) (by omega) ?_)
     | (refine Ld.at (by omega) c1 ?_)
     | refine Br.t ?_|refine Br.f ?_);conv=>whnf)
    refine Ca.of (some_ok c.a 24 hcw.2.1 (by omega) w5) ?_
    rintro _ _ ⟨rfl,rfl⟩
    rw [ecof]
    conv=>whnf
    repeat ((first
     | (refine Ix.of c.of (by omega) (by omega) ?_)
     | (refine Ld.at (by omega) ca ?_)
     | refine Br.t ?_);conv=>whnf)
    refine Ca.of (tbytes_ok _ (by omega) w5) ?_
    rintro _ w6 ⟨gb,rfl,hgb,rb,k6⟩
    conv=>whnf
    repeat ((first
     | refine Br.t ?_);conv=>whnf)
    refine Ca.of (same17_ok _ _ 160 160 _ _ (fun j=>((byF (playA a (L.take i) c.of) j:Nat):Int)) (fun j=>((byF (playA a (L.take i) c.of) j:Nat):Int)) w6 (hY6.keep0 k6) (Rd.of_row rb (n:=160) (by omega)) (fun j=>by have:=byF_lt (playA a (L.take i) c.of) j;omega) (fun j=>by have:=byF_lt (playA a (L.take i) c.of) j;omega)) ?_
    rintro _ _ ⟨rfl,rfl⟩
    rw [sameB_yes rfl (fun _ _=>rfl)]
    have r96:=r95.keep k6 (by simp)
    have r46:=r45.keep k6 (by simp)
    conv=>whnf
    repeat ((first
     | refine Br.t ?_|refine Br.f ?_|refine Pk.f ?_|refine Pk.t ?_);conv=>whnf)
    refine Ru.ldaC (q:=arF (c.arr (playA a (L.take i)))) r96 Tryz.underlying28 rfl size_ar (by omega) (fun j hj=>by rw [Nat.zero_add]) ?_
    conv=>whnf
    refine Ru.sta r46 size_ar (by omega) (fun j hj=>arF_one _ j) ?_
    intro w7 r47 k7
    have r47:Row w7 x4 28 24 (arF (c.arr (playA a (L.take i)))):=r47.congr (fun j hj=>by unfold lay;rw [if_pos (by omega),Nat.sub_zero])
    conv=>whnf
    repeat ((first
     | refine Ar.la ?_);conv=>whnf)
    exact ⟨(i+1,K2,P2,k2,own3),fin w7 ((k6.mono (by simp)).trans k7) r47,⟨rfl,rfl,rfl,rfl,vi (by simp only;omega),trivial⟩,by simp only;omega⟩
 ·obtain rfl:i=L.length:=by omega
  rw [List.take_length] at *
  conv=>whnf
  repeat ((first
   | refine Br.n ?_|refine CW.s ?_);conv=>whnf)
  refine Ru.ldaC (q:=arF (playA a L)) r4 Tryz.underlying28 rfl size_ar (by omega) (fun j hj=>by rw [Nat.zero_add]) ?_
  conv=>whnf
  refine Ru.sta r6 size_ar (by omega) (fun j hj=>arF_one _ j) ?_
  intro w5 r65 k5
  have r65:Row w5 x6 28 24 (arF (playA a L)):=r65.congr (fun j hj=>by unfold lay;rw [if_pos (by omega),Nat.sub_zero])
  conv=>whnf
  refine Ru.ldaC (q:=arF (playA a L)) r65 Tryz.underlying28 rfl size_ar (by omega) (fun j hj=>by rw [Nat.zero_add]) ?_
  conv=>whnf
  exact ⟨rfl,rfl,K1,P1,k1,own1,⟨D1.away r6 (by decide) k5,I1,q1,s1,sub1,kk.then k5 (fun x hx=>.inr (by rw [List.mem_singleton.1 hx];exact hx6w))⟩,hz⟩
end
def CS.zero:CS:=⟨fun _=>.blank,fun _=>0,fun _=>0,fun _=>false,fun _=>0,fun _=>false⟩
theorem zero_bare:CS.zero.bare:=⟨⟨fun _=>rfl,fun _=>Int.le_refl 0,fun _=>rfl,fun _=>rfl⟩,fun _=>rfl⟩
theorem abs_fresh:Abs Chip.fresh CS.zero:=by
 refine ⟨⟨Int.le_refl 0,by show (0:Int)≤9223372036854775807;omega,fun _=>by show (0:Int)≤9223372036854775807;omega,fun _ _ _=>by show 255<256;omega,fun _ _ _=>by show 255<256;omega⟩,fun p hp k hk=>⟨rfl,rfl⟩,fun p k hp hk=>?_,fun p t D hp e=>(by cases e),rfl,rfl,rfl,rfl⟩
 rw [show Chip.fresh.ch p k=Chunk.blank from rfl]
 unfold Chunk.blank
 rw [dmg_self]
 omega
theorem left_fresh:Chip.fresh.left none:=⟨rfl,rfl⟩
theorem build_ar (w:World):(Instr.build 28 #[]).run Tryz.prog w = .ok (agg 24 (arF fun _=>0)) w:=by kernel_rfl
theorem chip_eq (w:World) (x:Operand) (a:Addr):(do eqGuard .eql 24 x (.const (.pointer none)) (.pointer (some a)) (.pointer none);binOp .eql 24 (.pointer (some a)) (.pointer none):Sem Value).run Tryz.prog w = .ok (.bool false) w:=by kernel_rfl
structure Begun (w0 w:World) (ch d:Nat) (own:List Nat) (K:KS) (P:CS) (k:Cp) (m:Int) (a:Nat→Nat):Prop where
 on:DvOn w own d ch K P none
 inv:Inv K P k m
 qu:K.qu=[]
 sh:Shows P K.at_ (arB a)
 new:∀ x,x∈own→w0.heap.size≤x
 kk:Keep [] w0 w
set_option maxHeartbeats 4000000 in
theorem begun_okC {w:World} {L:List Cl} {A:Option Addr} {cA:Nat} (hL:Rd w A (L.length * 3) (clF L)) (hw:∀ c,c∈L→c.wf) (hn:L.length≤1048576) :
  Spec Tryz.prog 15 #[.slice A L.length cA] w fun v w'=>∃ ch d own K P k,v = .tuple #[.pointer (some ⟨ch,0,none⟩),.pointer (some ⟨d,0,none⟩),agg 24 (arF (playA (fun _=>0) L))]∧Begun w w' ch d own K P k (2+2 * L.length) (playA (fun _=>0) L)∧∃ K0 P0 tr0 k0,Mounts CS.zero K0 P0 tr0∧Inv K0 P0 k0 2∧FirstAt CS.zero K0 P0∧Carries K0 K P0 P (130 * L.length):=by
 obtain ⟨K0,P0,t0,k0,M0,I0,q0,fa0,s0⟩:=first_end zero_bare
 have s0:Shows P0 K0.at_ (arB fun _=>0):=s0
 refine spec_of_wpE (T:=tt) tt_ok Tryz.func15 rfl (by decide +kernel) Tryz.ntmps15 (by simp) ?_
 conv=>whnf
 refine Ru.alloca (alloc_ar w) ?_
 intro x4 w1 hx4 hs1 r4 k1
 conv=>whnf
 refine Ru.of (build_ar w1) ?_
 conv=>whnf
 refine Ru.alloca (alloc_ar w1) ?_
 intro x5 w2 hx5 hs2 r5 k2
 conv=>whnf
 refine Ru.sta r5 size_ar (by omega) (fun j hj=>arF_one _ j) ?_
 intro w3 r53 k3
 have r53:Row w3 x5 28 24 (arF fun _=>0):=r53.congr (fun j hj=>by unfold lay;rw [if_pos (by omega),Nat.sub_zero])
 have q3:Keep [] w1 w3:=k2.then k3 (fun x hx=>.inr (by rw [List.mem_singleton.1 hx,hx5];exact Nat.le_refl _))
 have r43:=r4.keep q3 (by simp)
 have kk3:=k1.trans q3
 have hx4w:w.heap.size≤x4:=by omega
 clear r4 r5 k1 k2 k3 q3 hs1 hs2 hx4 hx5 w1 w2
 conv=>whnf
 refine Ca.of (nandnew_ok w3) ?_
 rintro _ w4 ⟨rfl,H4,k4⟩
 have r44:=r43.keep k4 (by simp)
 have r54:=r53.keep k4 (by simp)
 have kk4:=kk3.trans k4
 have hchw:w.heap.size≤w3.heap.size:=kk3.size
 clear r43 r53 kk3 k4
 generalize w3.heap.size=ch at *
 conv=>whnf
 repeat ((first
  | refine CW.s ?_);conv=>whnf)
 refine Ru.of (chip_eq w4 _ _) ?_
 conv=>whnf
 repeat ((first
  | refine Br.f ?_);conv=>whnf)
 refine Ca.of (onchip_ok H4 abs_fresh left_fresh zero_bare.1 M0 q0) ?_
 rintro _ w5 ⟨k5,hr5⟩
 rcases hr5 with ⟨f5,d,own,rfl,D5,hown⟩ | ⟨y,hy,hyb,-⟩
 case inr=>cases hyb
 have r45:=r44.keep k5 (by
  have:=Row.ne_ H4 r44 (by decide)
  simpa using this.symm)
 have r55:=r54.keep k5 (by
  have:=Row.ne_ H4 r54 (by decide)
  simpa using this.symm)
 have kk5:Keep [] w w5:=kk4.then k5 (fun x hx=>.inr (by rw [List.mem_singleton.1 hx];exact hchw))
 have hs4:=kk4.size
 have hown':∀ x,x∈own→w.heap.size≤x:=fun x hx=>by
  rcases hown x hx with h | h
  ·omega
  ·omega
 have hL5:=hL.keep0 kk5
 clear r44 r54 H4 k5 kk4 hown
 conv=>whnf
 repeat ((first
  | refine CW.s ?_);conv=>whnf)
 refine Ru.of (dev_none w5 _ _) ?_
 conv=>whnf
 repeat ((first
  | refine Br.f ?_);conv=>whnf)
 refine Ru.ldaC (q:=arF fun _=>0) r55 Tryz.underlying28 rfl size_ar (by omega) (fun j hj=>by rw [Nat.zero_add]) ?_
 conv=>whnf
 refine Ca.of (plays_ok D5 I0 q0 s0 hL5 hw (fun hp x e hx=>?_) (by omega) (fun _=>by omega)) ?_
 ·obtain ⟨g,o,e',h'⟩:=hL (by omega)
  rw [e'] at e
  cases e
  have h9:g<w.heap.size:=cell_lt (h' 0 (by omega))
  have:=hown' _ hx
  simp only at this
  omega
 rintro _ w6 ⟨rfl,K6,P6,k6,own6,PI,hz⟩
 have D6:=PI.on
 have r46:=r45.keep PI.kk (D5.far r45 (by decide))
 have kk6:Keep [] w w6:=kk5.then PI.kk (fun x hx=>.inr (hown' x hx))
 have hs5:=kk5.size
 have hown6:∀ x,x∈own6→w.heap.size≤x:=fun x hx=>by
  rcases PI.sub x hx with h | h
  ·exact hown' x h
  ·omega
 conv=>whnf
 refine Ru.alloca (alloc_ar w6) ?_
 intro x8 w7 hx8 hs7 r8 k7
 conv=>whnf
 refine Ru.sta r8 size_ar (by omega) (fun j hj=>arF_one _ j) ?_
 intro w8 r88 k8
 have r88:Row w8 x8 28 24 (arF (playA (fun _=>0) L)):=r88.congr (fun j hj=>by unfold lay;rw [if_pos (by omega),Nat.sub_zero])
 have q8:Keep [] w6 w8:=k7.then k8 (fun x hx=>.inr (by rw [List.mem_singleton.1 hx,hx8];exact Nat.le_refl _))
 have D8:=D6.keep0 q8
 have r48:=r46.keep q8 (by simp)
 have kk8:=kk6.trans q8
 clear k7 k8 r8 hs7
 conv=>whnf
 repeat ((first
  | refine Br.f ?_|refine CW.s ?_);conv=>whnf)
 refine CW.held (fun w'=>Row w' x8 28 24 (arF (playA (fun _=>0) L))) [5] (.take 0 (.take 1 (.take 2 (.take 3 (.take 4 (.one 5 (.done))))))) tt_ok (by kernel_rfl) (by kernel_rfl) (by kernel_rfl) ?_ ?_
 ·exact Row.drewN r88 1
 have q9:=(Keep.refl [] w8).drewN 1
 have D9:=D8.keep0 q9
 have r49:=r48.keep q9 (by simp)
 have r89:=r88.keep q9 (by simp)
 have kk9:=kk8.trans q9
 have h48:x8≠x4:=by
  have:=r46.lt
  omega
 clear D8 r48 r88 kk8 q9
 generalize w8.drewN 1=w9 at *
 conv=>whnf
 repeat ((first
  | (refine RuQ.of (fun w hS=>run_ldaC (q:=arF (playA (fun _=>0) L)) hS Tryz.underlying28 rfl size_ar (by omega) (fun j hj=>by rw [Nat.zero_add])) ?_));conv=>whnf)
 refine Ru.sta r49 size_ar (by omega) (fun j hj=>arF_one _ j) ?_
 intro w10 r410 k10
 have r410:Row w10 x4 28 24 (arF (playA (fun _=>0) L)):=r410.congr (fun j hj=>by unfold lay;rw [if_pos (by omega),Nat.sub_zero])
 refine Ru.ldaC (q:=arF (playA (fun _=>0) L)) r410 Tryz.underlying28 rfl size_ar (by omega) (fun j hj=>by rw [Nat.zero_add]) ?_
 conv=>whnf
 exact ⟨rfl,ch,d,own6,K6,P6,k6,rfl,⟨D9.away r49 (by decide) k10,PI.inv,PI.qu,PI.sh,hown6,kk9.then k10 (fun x hx=>.inr (by rw [List.mem_singleton.1 hx];exact hx4w))⟩,K0,P0,t0,k0,M0,I0,fa0,hz⟩
theorem showing_ok {w:World} {own:List Nat} {d ch:Nat} {K:KS} {P:CS} {k:Cp} {m:Int} (D:DvOn w own d ch K P none) (I:Inv K P k m) (hq:K.qu=[]) {a:Nat→Nat} (hs:Shows P K.at_ (arB a)) (hm:m+100<1099511627775) (ha:∀ o,a o≤1000000) :
  Spec Tryz.prog 25 #[.pointer (some ⟨d,0,none⟩),agg 24 (arF a)] w fun v w'=>v = .bool true∧∃ K' P' k' own',PlI w own d ch K' P' k' (m+48) a own' w':=by
 have hmpos:1≤m:=by
  have:=I.l.next
  omega
 refine spec_of_wpE (T:=tt) tt_ok Tryz.func25 rfl (by decide +kernel) Tryz.ntmps25 (by simp) ?_
 conv=>whnf
 refine Ru.boxa ?_
 intro x3 w1 hx3 hs1 r3 k1
 have D1:=D.keep0 k1
 conv=>whnf
 repeat ((first
  | refine CW.s ?_);conv=>whnf)
 refine CW.loop (ι:=Nat × KS × CS × Cp × List Nat) (fun i w'=>i.1≤24∧PlI w own d ch i.2.1 i.2.2.1 i.2.2.2.1 (m+2 * i.1) a i.2.2.2.2 w'∧Row w' x3 28 24 (arF a))
  (fun i=>[(0,.pointer (some ⟨d,0,none⟩)),(3,.pointer (some ⟨x3,0,none⟩)),(5,.int .i64 i.1)]) (fun i=>24 - i.1) (0,K,P,k,own) tt_ok
  ⟨by omega,⟨D1,by simpa using I,hq,hs,fun x hx=>.inl hx,k1.mono (by simp)⟩,r3⟩ ⟨rfl,rfl,rfl,trivial⟩ ?_
 clear D1 r3 k1
 rintro ⟨i,K1,P1,k1,own1⟩ wr ⟨hi,⟨D1,I1,q1,s1,sub1,kk⟩,r3⟩
 simp only at hi D1 I1 q1 s1 sub1 kk r3 ⊢
 rcases Nat.lt_or_ge i 24 with hlt | hge
 ·obtain ⟨K2,P2,k2,t2,F,h2,hcall⟩:=dev_read I1 q1 (by omega) (s:=i) hlt
  obtain ⟨CE,hF⟩:=h2 _ s1
  conv=>whnf
  repeat ((first
   | refine Br.y ?_|refine CW.s ?_);conv=>whnf)
  refine Ca.of (hcall D1) ?_
  rintro u w2 ⟨k2',hr2⟩
  rcases hr2 with ⟨f2,⟨Y,e,rfl,hY,hYn⟩,own2,D2,h2'⟩ | ⟨y,hy,hyb,-⟩
  case inr=>cases hyb
  have r32:=r3.keep k2' (D1.far r3 (by decide))
  have ca:w2.cell? ⟨x3,i,none⟩=some (.int .i64 (a i:Nat)):=r32.cell i (by omega)
  have hYr:Rd w2 Y 160 (fun j=>.int .u8 ((byF (a i) j:Nat):Int)):=by
   have h3:=hY.rd
   rw [Nat.mul_one] at h3
   intro hp
   obtain ⟨g1,o1,e1,h4⟩:=h3 hp
   refine ⟨g1,o1,e1,fun j hj=>?_⟩
   rw [h4 j hj]
   show some (Value.int .u8 ((F j:Nat):Int))=_
   rw [hF j hj]
   rfl
  have ha1:=ha i
  have hs2:=kk.size
  conv=>whnf
  repeat ((first
   | (refine Ix.of i (by omega) (by omega) ?_)
   | (refine Ld.at (by omega) ca ?_)
   | refine Br.f ?_|refine Ru.neq_nil0 ?_);conv=>whnf)
  refine Ca.of (tbytes_ok _ (by omega) w2) ?_
  rintro _ w3 ⟨gb,rfl,hgb,rb,k3⟩
  conv=>whnf
  repeat ((first
   | refine Br.f ?_);conv=>whnf)
  refine Ca.of (same17_ok _ _ 160 160 _ _ (fun j=>((byF (a i) j:Nat):Int)) (fun j=>((byF (a i) j:Nat):Int)) w3 (hYr.keep0 k3) (Rd.of_row rb (n:=160) (by omega)) (fun j=>by have:=byF_lt (a i) j;omega) (fun j=>by have:=byF_lt (a i) j;omega)) ?_
  rintro _ _ ⟨rfl,rfl⟩
  rw [sameB_yes rfl (fun _ _=>rfl)]
  conv=>whnf
  repeat ((first
   | refine Br.f ?_|refine Pk.f ?_|refine Ar.la ?_);conv=>whnf)
  have I3:=CE.inv
  rw [show m+2 * ((i:Nat):Int)+2=m+2 * ((i+1:Nat):Int) by omega] at I3
  refine ⟨(i+1,K2,P2,k2,own2),⟨hlt,⟨D2.keep0 k3,I3,CE.qu,CE.sh,fun x hx=>?_,(kk.then k2' sub1).trans (k3.mono (by simp))⟩,r32.keep k3 (by simp)⟩,⟨rfl,rfl,vi (by simp only;omega),trivial⟩,by simp only;omega⟩
  rcases h2' x hx with h | h
  ·exact sub1 x h
  ·exact .inr (Nat.le_trans hs2 h)
 ·obtain rfl:i=24:=by omega
  conv=>whnf
  repeat ((first
   | refine Br.f ?_|refine CW.s ?_);conv=>whnf)
  exact ⟨rfl,rfl,K1,P1,k1,own1,D1,I1,q1,s1,sub1,kk⟩
theorem ptN_fl {p:Cp} (h:p.told) {o:Nat} (ho:o<24):numOf (fun j=>((ptN p (5 * o+j):Nat):Int)) 5=p.fl o:=by
 rw [numOf_congr (f:=fun j=>((ptN p (5 * o+j):Nat):Int)) (g:=byteOf (p.fl o)) 5 (fun j hj=>by rw [ptN_int];exact (ptF_fl p ho hj).symm)]
 have:=h.fl o ho
 exact numOf_back _ (by omega) 5 (Int.ediv_eq_zero_of_lt (by omega) (by omega))
theorem ptN_next {p:Cp} (h:p.told):numOf (fun j=>((ptN p (120+j):Nat):Int)) 5=p.next:=by
 rw [numOf_congr (f:=fun j=>((ptN p (120+j):Nat):Int)) (g:=byteOf p.next) 5 (fun j hj=>by rw [ptN_int];exact (ptF_next p hj).symm)]
 have:=h.next
 exact numOf_back _ (by omega) 5 (Int.ediv_eq_zero_of_lt (by omega) (by omega))
theorem cp_same {p q:Cp} (hp:p.told) (hq:q.told) (e:ptN p=ptN q):p.next=q.next∧∀ o,o<24→p.fl o=q.fl o :=
 ⟨by rw [← ptN_next hp, ← ptN_next hq,e],fun o ho=>by rw [← ptN_fl hp ho, ← ptN_fl hq ho,e]⟩
theorem flTop_congr {p q:Cp} (t:Int):∀ {n},(∀ o,o<n→p.fl o=q.fl o)→flTop p t n=flTop q t n
 | 0,_=>rfl
 | n+1,h=>by
  show max (flTop p t n) (p.fl n)=max (flTop q t n) (q.fl n)
  rw [flTop_congr t (fun o ho=>h o (by omega)),h n (by omega)]
theorem fds_in {P:CS} {p:Nat} {t:Tg} {D:Nat→Nat} (e:P.pg p = .full t D):∀ n,p<n→fdOf p t∈fdsTo P n
 | 0,h=>by omega
 | n+1,h=>by
  rw [fdsTo_succ]
  by_cases h3:p=n
  ·subst h3
   rw [fd1_full e]
   exact List.mem_append_right _ (List.mem_singleton.2 rfl)
  ·exact List.mem_append_left _ (fds_in e n (by omega))
theorem top_page {P:CS} (hv:P.val) (k:Cp) {p:Nat} {t:Tg} {D:Nat→Nat} (hp:p<96) (e:P.pg p = .full t D):t.seq≤topOf (fdsTo P 96) k :=
 (seqTop_ge (flTop k (max k.next 0 - 1) 24) (fdsTo P 96)).2 _ (fds_in e 96 hp) (fd_sound (hv p t D hp e).1 hp)
theorem top_mono {P P':CS} {k:Cp} {L:Nat→Nat} {m:Int} (h:Okay P k L m) (hv:P'.val) (hk:∀ o,o<25→L o≠0→∃ q t D t0 D0,q<96∧P.pg (L o - 1) = .full t0 D0∧P'.pg q = .full t D∧t.seq=t0.seq):topOf (fdsTo P 96) k≤topOf (fdsTo P' 96) k:=by
 obtain ⟨g1,g2⟩:=seqTop_ge (flTop k (max k.next 0 - 1) 24) (fdsTo P' 96)
 obtain ⟨g3,g4⟩:=flTop_ge k (max k.next 0 - 1) 24
 have g1:flTop k (max k.next 0 - 1) 24≤topOf (fdsTo P' 96) k:=g1
 have hlt:topOf (fdsTo P 96) k<topOf (fdsTo P' 96) k+1:=seqTop_lt (by omega) _ (fun f hf=>by
  obtain ⟨p,t,D,a,b,rfl⟩:=fdsTo_mem hf
  show t.seq<_
  have hok:=(h.gd.val p t D a b).1
  obtain ⟨_,_,h2,h3,_⟩:=hok
  obtain ⟨o,ho⟩:∃ o:Nat,t.of=o:=⟨t.of.toNat,by omega⟩
  have ho25:o<25:=by omega
  by_cases hL:L o=0
  ·have hn:=h.led.no o ho25 hL p t D a b ho
   have h24:o<24:=by
    rcases Nat.lt_or_ge o 24 with x | x
    ·exact x
    ·have:o=24:=by omega
     rw [this] at hL
     exact absurd hL h.led.pt
   rw [floor_lt k h24] at hn
   have:=g4 o h24
   omega
  ·obtain ⟨hp0,t0,D0,e1,e2,e3,e4⟩:=h.led.yes o ho25 hL
   obtain ⟨q,t',D',t0',D0',hq,f1,f2,f3⟩:=hk o ho25 hL
   rw [e1] at f1
   cases f1
   have h5:=top_page hv k hq f2
   have h6:t.seq≤t0.seq:=by
    by_cases hpp:p=L o - 1
    ·rw [hpp,e1] at b
     cases b
     exact Int.le_refl _
    ·rcases e4 p t D a hpp b ho with x | x
     ·omega
     ·omega
   omega)
 omega
theorem okay_same {P:CS} {k k':Cp} {L L':Nat→Nat} {m m':Int} (h:Okay P k L m) (h':Okay P k' L' m'):nextF (fdsTo P 96) k=nextF (fdsTo P 96) k':=by
 obtain ⟨t,D,a1,a2,a3,a4⟩:=newest_point h
 obtain ⟨t',D',b1,b2,b3,b4⟩:=newest_point h'
 have e:L 24 - 1=L' 24 - 1:=by
  rw [a4] at b4
  injection b4 with c1 c2
  have:=congrArg Fd.place c1
  exact Int.ofNat.inj this
 have e2:ptN k=ptN k':=by rw [← h.led.data, ← h'.led.data,e]
 obtain ⟨c1,c2⟩:=cp_same h.led.told h'.led.told e2
 unfold nextF topOf
 rw [c1,flTop_congr _ c2]
theorem Okay.pgs {P Q:CS} {k:Cp} {L:Nat→Nat} {m:Int} (h:Okay P k L m) (hc:Q.calm) (e:Q.pg=P.pg):Okay Q k L m:=h.sub hc (fun q t D _ x=>by rw [← e];exact x) (fun o _ _=>by rw [e])
def NX (_:Nat) (K:KS) (P:CS):Prop:=∀ k L m Q,Q.pg=P.pg→Okay Q k L m→K.next≤nextF (fdsTo Q 96) k
theorem NX.page {n:Nat} {K:KS} {P:CS} {p:Nat} {t:Tg} {D:Nat→Nat} (hp:p<96) (e:P.pg p = .full t D) (hs:K.next≤t.seq+1) (hm:K.next≤1099511627775):NX n K P:=fun k L m Q hQ h=>by
 have:=top_page h.gd.val k hp (by rw [hQ];exact e)
 unfold nextF
 omega
theorem nx_stab:Stab NX where
 mono:=fun _ h=>h
 adm:=fun _ _ h3 _ _ _ h k L m Q hQ x=>by rw [h3];exact h k L m Q hQ x
 rd:=fun _ h=>h
 pt:=fun _ _ h=>h
 vac:=fun {n K P k m v d} I V h k' L' m' Q hQ x=>by
  have h1:=h k K.at_ m P rfl I.l.ok
  have h2:=top_mono I.l.ok x.gd.val (fun o ho e=>by
   obtain ⟨e1,e2⟩:=V.tag o ho e
   obtain ⟨t0,D0,f1,f2⟩:=I.l.en o ho e
   obtain ⟨t,D,g1,g2⟩:=V.il.en o ho e1
   have hq:=(V.il.ok.led.yes o ho e1).1
   refine ⟨_,t,D,t0,D0,hq,f1,by rw [hQ];exact g1,?_⟩
   rw [g2,f2] at e2
   exact e2)
  have h3:=okay_same (V.il.ok.pgs x.gd.calm hQ) x
  rw [V.idle.next]
  rw [← h3]
  unfold nextF at h1 ⊢
  omega
 put:=fun {n K P k m s f} I E hs h=>by
  obtain ⟨ow,F,calls,he,-⟩:=E.eq
  have hn:=E.next
  refine NX.page E.lt E.pg ?_ ?_
  ·rw [he]
   exact Int.le_refl _
  ·rw [he]
   show K.next+1≤_
   omega
 note:=fun {n K P k m} I E _ h=>by
  obtain ⟨ow,F,calls,he,-⟩:=E.eq
  have hn:=E.next
  refine NX.page E.lt E.pg ?_ ?_
  ·rw [he]
   exact Int.le_refl _
  ·rw [he]
   show K.next+1≤_
   omega
 trim:=fun {n K P k m s q} I E _ hs h=>by
  obtain ⟨ow,F,calls,he,-⟩:=E.eq
  have hn:=E.next
  refine NX.page E.lt E.pg ?_ ?_
  ·rw [he]
   exact Int.le_refl _
  ·rw [he]
   show K.next+1≤_
   omega
theorem mount_nx {K:KS} {P:CS} {k:Cp} {m:Int} (I:Inv K P k m) (hm:m≤1099511627775) (h:NX 0 K P):∃ K' P' tr,Mounts P K' P' tr∧Inv K' P' k m∧K'.qu=[]∧K.next≤K'.next∧K'.calls=0∧NX 0 K' P'∧∀ a,Shows P K.at_ a→Shows P' K'.at_ a:=by
 obtain ⟨K',P',tr,M,I',q,⟨-,-,a3,a4,a5,a6,a7,a8⟩,s⟩:=mount_endC I.l.ok hm
 refine ⟨K',P',tr,M,I',q,by rw [a5];exact h k K.at_ m P rfl I.l.ok,a6,fun k' L' m' Q hQ x=>?_,fun a hs=>(s a hs).2⟩
 have h2:=top_mono I.l.ok x.gd.val (fun o ho e=>by
  obtain ⟨t0,D0,f1,f2⟩:=I.l.en o ho e
  exact ⟨_,t0,D0,t0,D0,(I.l.ok.led.yes o ho e).1,f1,by rw [hQ,a4 o ho e];exact f1,rfl⟩)
 have h3:=okay_same (a8.pgs x.gd.calm hQ) x
 rw [a5, ← h3]
 unfold nextF
 omega
theorem first_nx {K:KS} {P:CS} {k:Cp} (I:Inv K P k 2):NX 0 K P:=by
 obtain ⟨hp,t,D,a2,a3,a4,a5,a6,a7,a8⟩:=I.l.page (o:=24) (by omega) I.l.ok.led.pt
 have hok:=(I.l.ok.gd.val _ t D hp a2).1
 obtain ⟨_,_,_,_,h5,_⟩:=hok
 have h6:=I.l.next.2.2.1
 exact NX.page hp a2 (by omega) (by omega)
theorem n1K_calls (k:Cp) (L:List Fd):∀ i,(n1K k L i).calls=0
 | 0=>rfl
 | i+1=>by
  rw [n1K_succ]
  split
  ·exact n1K_calls k L i
  ·exact n1K_calls k L i
theorem mtK_calls (k:Cp) (L:List Fd):(mtK k L).calls=0:=by
 obtain ⟨st,h⟩:=n2K_same (n1K k L 25) 12
 show (nwK k L).calls=0
 unfold nwK
 rw [h]
 exact n1K_calls k L 25
theorem mounts_calls {P:CS} {K':KS} {P':CS} {tr:List CS} (M:Mounts P K' P' tr):K'.calls=0:=by
 have key:∀ {K:KS} {P:CS} {K':KS} {P':CS} {tr:List CS},K.calls=0→Cleaned K P K' P' tr→K'.calls=0:=fun h C=>by
  cases C with
  | done e =>
   obtain ⟨F,e⟩:=clK_same _ 12
   rw [e]
   exact h
  | note e L t=>rfl
 cases M with
 | new a1 a2 a3 a4 a5 C=>exact key (mtK_calls _ _) C
 | old a1 a2 a3 a4 a5 a6 a7 a8 a9 a10 C=>exact key (mtK_calls _ _) C
section
variable {w w':World} {own:List Nat} {d ch:Nat} {K:KS} {P:CS} {b:Option Nat}
theorem DvOn.chip (D:DvOn w own d ch K P b):∃ C,ChipAt w ch C∧Abs C P∧C.left b:=by
 obtain ⟨N,X,c,n,e,r,h,eC,hq⟩:=D
 obtain ⟨C,M,hA,hl⟩:=h.med
 exact ⟨C,by rw [← eC];exact M.chip,hA,hl⟩
def ChTl (w:World) (ch:Nat) (m:Int) (a:Nat→Nat→Nat):Prop:=∃ C P,ChipAt w ch C∧Abs C P∧Tl P m a
theorem ChTl.keep {m:Int} {a:Nat→Nat→Nat} {S:List Nat} (h:ChTl w ch m a) (k:Keep S w w') (hc:ch∉S):ChTl w' ch m a:=by
 obtain ⟨C,P,H,hA,hT⟩:=h
 exact ⟨C,P,H.keep k hc,hA,hT⟩
theorem Inv.tl {k:Cp} {m:Int} {a:Nat→Nat→Nat} (I:Inv K P k m) (hs:Shows P K.at_ a):Tl P m a:=⟨k,K.at_,I.l.ok,hs⟩
theorem DvOn.tl {k:Cp} {m:Int} {a:Nat→Nat→Nat} (D:DvOn w own d ch K P b) (I:Inv K P k m) (hs:Shows P K.at_ a):ChTl w ch m a:=by
 obtain ⟨C,H,hA,hl⟩:=D.chip
 exact ⟨C,P,H,hA,I.tl hs⟩
theorem DvOff.tl {Q:CS} {m:Int} {a:Nat→Nat→Nat} (D:DvOff w d ch Q) (h:Tl Q m a):ChTl w ch m a:=by
 obtain ⟨r,C,H,hD⟩:=D
 exact ⟨C,Q,H,hD.2,h⟩
end
def inF (L:List Int) (q:Nat):Value:=.int .i64 (L.getD q 0)
theorem lst_mem {L:List Int} {i:Nat} (h:i<L.length):L.getD i 0∈L:=by
 rw [List.getD_eq_getElem?_getD,List.getElem?_eq_getElem h]
 exact List.getElem_mem h
theorem rd_far {w0 w1 w2:World} {A:Option Addr} {n:Nat} {f:Nat→Value} {S:List Nat} (h0:Rd w0 A n f) (h:Rd w1 A n f) (k:Keep S w1 w2) (hS:∀ x,x∈S→w0.heap.size≤x):Rd w2 A n f:=fun hn=>by
 obtain ⟨g,o,rfl,hc⟩:=h0 hn
 have h9:g<w0.heap.size:=cell_lt (hc 0 hn)
 exact h.keep k (fun a e hm=>by
  cases e
  have:=hS _ hm
  simp only at this
  omega) hn
theorem Shows.eq {P:CS} {L:Nat→Nat} {a a':Nat→Nat} (h:Shows P L (arB a')) (e:∀ o j,o<24→j<160→byF (a' o) j=byF (a o) j):Shows P L (arB a):=fun o j ho hj=>(h o j ho hj).trans (e o j ho hj)
theorem CallEnd.dead {K:KS} {P:CS} {m:Int} {a a':Nat→Nat} {K':KS} {P':CS} {k':Cp} {t1 t2:List CS} (h:CallEnd K P m (arB a) (arB a') K' P' k' t1 t2) {Q:CS} (hQ:Q∈t1 ++ t2):∃ aa,(aa=a∨aa=a')∧Tl Q (m+2) (arB aa):=by
 rcases List.mem_append.1 hQ with hQ | hQ
 ·exact ⟨a,.inl rfl,h.t1 Q hQ⟩
 ·exact ⟨a',.inr rfl,h.t2 Q hQ⟩
def plcL (L:Nat→Nat) (o:Nat):Int:=if L o=0 then -1 else ((L o - 1:Nat):Int)
def vw0 (nx cu ca re mo ms:Int) (j:Nat):Value:=cond (Nat.beq j 37) (.int .i64 nx) (cond (Nat.beq j 38) (.int .i64 cu) (cond (Nat.beq j 39) (.int .i64 ca) (cond (Nat.beq j 64) (.int .i64 re) (cond (Nat.beq j 65) (.int .i64 mo) (cond (Nat.beq j 66) (.int .i64 ms) (.int .i64 0))))))
theorem vw0_one (nx cu ca re mo ms:Int) (j:Nat):(vw0 nx cu ca re mo ms j).oneCell'=true:=by
 unfold vw0
 cases Nat.beq j 37<;>cases Nat.beq j 38<;>cases Nat.beq j 39<;>cases Nat.beq j 64<;>cases Nat.beq j 65<;>cases Nat.beq j 66<;>rfl
theorem build_vw (nx cu ca re mo ms:Int) (w:World):(Instr.build 72 #[(2,.int .i64 nx),(3,.int .i64 cu),(4,.int .i64 ca),(7,.int .i64 re),(8,.int .i64 mo),(9,.int .i64 ms)]).run Tryz.prog w = .ok (.agg ((Array.range 67).map (vw0 nx cu ca re mo ms))) w:=by kernel_rfl
theorem alloc_vw (w:World):(Instr.alloc 72 true (.tuple #[])).run Tryz.prog w = .ok (.pointer (some ⟨w.heap.size,0,none⟩)) (w.alloc (rowObj 67 (fun _=>.int .i64 0) 72)):=by kernel_rfl
theorem size_vw:(Tryz.prog.info? 72).map (·.size)=some 67:=by kernel_rfl
def vwB (K:KS) (j:Nat):Value:=vw0 K.next K.cur K.calls K.reports K.moved K.moves j
def vwS (K:KS) (i j:Nat):Value:=if j<12 then .int .i64 (K.st j:Nat) else if j<12+i then .int .i64 (plcL K.at_ (j - 12)) else vwB K j
def vwF (K:KS) (j:Nat):Value:=if j<37 then vwS K 25 j else if j<40 then vwB K j else if j<52 then .int .i64 (K.F (j - 40)) else if j<64 then .int .i64 (K.F (12+(j - 52))) else vwB K j
theorem vwB_one (K:KS) (j:Nat):(vwB K j).oneCell'=true:=vw0_one ..
theorem vwS_one (K:KS) (i j:Nat):(vwS K i j).oneCell'=true:=by
 unfold vwS
 split
 ·rfl
 ·split
  ·rfl
  ·exact vwB_one K j
theorem vwF_one (K:KS) (j:Nat):(vwF K j).oneCell'=true:=by
 unfold vwF
 split
 ·exact vwS_one ..
 ·split
  ·exact vwB_one ..
  ·split
   ·rfl
   ·split
    ·rfl
    ·exact vwB_one ..
theorem vwS_zero (K:KS) (f:Nat→Value) (hf:∀ j,j<67→f j=vwB K j) (j:Nat) (hj:j<67):lay f 0 12 (fun j=>.int .i64 (K.st j:Nat)) j=vwS K 0 j:=by
 unfold lay vwS
 by_cases h:j<12
 ·rw [if_pos (by omega),if_pos h,Nat.sub_zero]
 ·rw [if_neg (by omega),if_neg h,if_neg (by omega),hf j hj]
theorem vwS_put (K:KS) {i:Nat} (hi:i<25) (j:Nat):put (vwS K i) (12+i) (.int .i64 (plcL K.at_ i)) j=vwS K (i+1) j:=by
 unfold put vwS
 by_cases h:j=12+i
 ·rw [if_pos h,if_neg (by omega),if_pos (by omega),h,Nat.add_sub_cancel_left]
 ·rw [if_neg h]
  by_cases h1:j<12
  ·rw [if_pos h1,if_pos h1]
  ·rw [if_neg h1,if_neg h1]
   by_cases h2:j<12+i
   ·rw [if_pos h2,if_pos (by omega)]
   ·rw [if_neg h2,if_neg (by omega)]
theorem vwF_end (K:KS) (j:Nat) (hj:j<67):lay (lay (vwS K 25) 40 12 (fun j=>.int .i64 (K.F j))) 52 12 (fun j=>.int .i64 (K.F (12+j))) j=vwF K j:=by
 unfold lay vwF
 by_cases h1:j<37
 ·rw [if_neg (by omega),if_neg (by omega),if_pos h1]
 ·rw [if_neg h1]
  by_cases h2:j<40
  ·rw [if_neg (by omega),if_neg (by omega),if_pos h2]
   unfold vwS
   rw [if_neg (by omega),if_neg (by omega)]
  ·rw [if_neg h2]
   by_cases h3:j<52
   ·rw [if_neg (by omega),if_pos (by omega),if_pos h3]
   ·rw [if_neg h3]
    by_cases h4:j<64
    ·rw [if_pos (by omega),if_pos h4]
    ·rw [if_neg (by omega),if_neg (by omega),if_neg h4]
     unfold vwS
     rw [if_neg (by omega),if_neg (by omega)]
theorem vwF_live (K:KS) {o:Nat} (h:o<25):vwF K (12+o) = .int .i64 (plcL K.at_ o):=by
 unfold vwF vwS
 rw [if_pos (by omega),if_neg (by omega),if_pos (by omega),Nat.add_sub_cancel_left]
theorem vwF_rd (K:KS) {b:Nat} (h:b<12):vwF K (40+b) = .int .i64 (K.F b):=by
 unfold vwF
 rw [if_neg (by omega),if_neg (by omega),if_pos (by omega),Nat.add_sub_cancel_left]
theorem vwF_sc (K:KS) {b:Nat} (h:b<12):vwF K (52+b) = .int .i64 (K.F (12+b)):=by
 unfold vwF
 rw [if_neg (by omega),if_neg (by omega),if_neg (by omega),if_pos (by omega),Nat.add_sub_cancel_left]
section
variable {w w':World} {N:Cr} {K:KS} {X:Option Addr} {c:Nat} {P:CS} {b:Option Nat} {n:Int}
theorem CoreAt.c107 (h:CoreAt w N K X c):w.cell? ⟨N.k,107,none⟩=some (.int .i64 K.reports):=h.row.cell 107 (by omega)
theorem CoreAt.c108 (h:CoreAt w N K X c):w.cell? ⟨N.k,108,none⟩=some (.int .i64 K.moved):=h.row.cell 108 (by omega)
theorem CoreAt.c109 (h:CoreAt w N K X c):w.cell? ⟨N.k,109,none⟩=some (.int .i64 K.moves):=h.row.cell 109 (by omega)
set_option maxHeartbeats 8000000 in
theorem view_ok (h:On w N K P b n X c) (hat:∀ o,o<25→K.at_ o≤96):Spec Tryz.prog 56 #[.pointer (some ⟨N.k,0,none⟩)] w fun v w'=>v=agg 67 (vwF K)∧Keep [] w w':=by
 refine spec_of_wpE (T:=tt) tt_ok Tryz.func56 rfl (by decide +kernel) Tryz.ntmps56 (by simp) ?_
 conv=>whnf
 refine Ru.alloca (alloc_vw w) ?_
 intro x2 w1 hx2 hs1 r2 k1
 have h1:=h.keep0 k1
 conv=>whnf
 refine CW.held (fun w'=>CoreAt w' N K X c) [28] (.take 0 (.take 1 (.take 2 (.take 3 (.take 4 (.take 5 (.take 6 (.take 7 (.take 9 (.take 10 (.take 11 (.take 12 (.take 14 (.take 15 (.take 16 (.take 17 (.take 18 (.take 19 (.take 20 (.take 21 (.take 22 (.take 23 (.take 24 (.take 25 (.two 8 (.two 13 (.take 26 (.one 27 (.one 28 (.done)))) 27 (.one 13 (.take 26 (.one 28 (.done))))) 27 (.one 8 (.one 13 (.take 26 (.one 28 (.done)))))))))))))))))))))))))))))) tt_ok (by kernel_rfl) (by kernel_rfl) (by kernel_rfl) ?_ ?_
 ·exact h1.core.keep0 ((Keep.refl _ _).drewN 1)
 have q1:=(Keep.refl [] w1).drewN 1
 have h2:=h1.keep0 q1
 have r22:=r2.keep q1 (by simp)
 have k2:Keep [] w (w1.drewN 1):=k1.trans q1
 clear h1 r2 k1 q1
 have hs2:(w1.drewN 1).heap.size=w1.heap.size:=rfl
 generalize w1.drewN 1=w2 at *
 conv=>whnf
 repeat' ((first
  | (refine And.intro ?_ ?_)
  | (refine LdQ.of (fun _ h=>h.c5) ?_)
  | (refine LdQ.of (fun _ h=>h.c106) ?_)
  | (refine LdQ.of (fun _ h=>h.c107) ?_)
  | (refine LdQ.of (fun _ h=>h.c108) ?_)
  | (refine LdQ.of (fun _ h=>h.c109) ?_)
  | (refine RuQ.of (fun w _=>build_vw _ _ _ _ _ _ w) ?_)
  | refine HS.t ?_|refine Br.t ?_|refine Br.f ?_|refine Pk.f ?_|refine Pk.t ?_|refine Pk.and ?_|refine Pk.or ?_|refine Ix.n ?_|refine Ix.of _ (by rfl) (by omega) ?_|refine Ix.i ?_|refine Ar.la ?_|refine Ar.lb ?_|refine Ar.lc ?_|refine Dv.q ?_|refine Dv.r ?_|refine Br.y ?_|refine Br.n ?_|refine Br.ny ?_|refine Br.nn ?_|refine Br.is (by assumption) ?_|refine Br.isnt (by assumption) ?_|refine Ld.of (by assumption) ?_|refine Ru.neq_nil0 ?_|refine Ru.n1 ?_|refine Ru.eql_nil0 ?_|refine Ru.e1 ?_|refine Ru.e2 ?_|refine Ru.e3 ?_|refine Ru.n2 ?_|refine Ru.n3 ?_|refine Ru.neq_nil rfl ?_|refine Ru.eql_nil rfl ?_|refine Ru.eql_err rfl (by decide) ?_|refine Ru.neq_err rfl (by decide) ?_|refine Ru.be ?_|refine Ru.bn ?_|refine RuQ.be ?_|refine RuQ.bn ?_|refine CW.s ?_|refine Br.d (fun _=>?_) (fun _=>?_)|refine Br.nd (fun _=>?_) (fun _=>?_)|refine Br.mk (fun _=>?_) (fun _=>?_))<;>conv=>whnf)
 case' refine_2.refine_2 =>
  refine Ru.alloca (alloc_vw w2) ?_
  intro x3 w3 hx3 hs3 r3 k3
  have h3:=h2.keep0 k3
  refine ⟨h3.core,?_⟩
  conv=>whnf
  refine Ca.of (pcursor_ok h3.core.pat) ?_
  rintro _ _ ⟨rfl,rfl⟩
  refine ⟨h3.core,?_⟩
  conv=>whnf
  refine Ca.of (pcalls_ok h3.core.pat) ?_
  rintro _ _ ⟨rfl,rfl⟩
  refine ⟨h3.core,?_⟩
  conv=>whnf
  repeat ((first
   | (refine RuQ.of (fun w _=>build_vw _ _ _ _ _ _ w) ?_));conv=>whnf)
 case' refine_2.refine_1 =>
  refine Ca.of (pcursor_ok h2.core.pat) ?_
  rintro _ _ ⟨rfl,rfl⟩
  refine ⟨h2.core,?_⟩
  conv=>whnf
  repeat' ((first
   | (refine And.intro ?_ ?_)
   | (refine RuQ.of (fun w _=>build_vw _ _ _ _ _ _ w) ?_)
   | refine HS.t ?_|refine Br.t ?_|refine Br.f ?_|refine Pk.f ?_|refine Pk.t ?_|refine Pk.and ?_|refine Pk.or ?_|refine Ix.n ?_|refine Ix.of _ (by rfl) (by omega) ?_|refine Ix.i ?_|refine Ar.la ?_|refine Ar.lb ?_|refine Ar.lc ?_|refine Dv.q ?_|refine Dv.r ?_|refine Br.y ?_|refine Br.n ?_|refine Br.ny ?_|refine Br.nn ?_|refine Br.is (by assumption) ?_|refine Br.isnt (by assumption) ?_|refine Ld.of (by assumption) ?_|refine Ru.neq_nil0 ?_|refine Ru.n1 ?_|refine Ru.eql_nil0 ?_|refine Ru.e1 ?_|refine Ru.e2 ?_|refine Ru.e3 ?_|refine Ru.n2 ?_|refine Ru.n3 ?_|refine Ru.neq_nil rfl ?_|refine Ru.eql_nil rfl ?_|refine Ru.eql_err rfl (by decide) ?_|refine Ru.neq_err rfl (by decide) ?_|refine Ru.be ?_|refine Ru.bn ?_|refine RuQ.be ?_|refine RuQ.bn ?_|refine CW.s ?_|refine Br.d (fun _=>?_) (fun _=>?_)|refine Br.nd (fun _=>?_) (fun _=>?_)|refine Br.mk (fun _=>?_) (fun _=>?_))<;>conv=>whnf)
 case' refine_2.refine_1.refine_1 =>
  refine Ca.of (pcalls_ok h2.core.pat) ?_
  rintro _ _ ⟨rfl,rfl⟩
  refine ⟨h2.core,?_⟩
  conv=>whnf
  repeat ((first
   | (refine RuQ.of (fun w _=>build_vw _ _ _ _ _ _ w) ?_));conv=>whnf)
  refine Ru.alloca (alloc_vw w2) ?_
  intro x3 w3 hx3 hs3 r3 k3
  have h3:=h2.keep0 k3
  refine ⟨h3.core,?_⟩
  conv=>whnf
 case' refine_2.refine_1.refine_2 =>
  refine Ru.alloca (alloc_vw w2) ?_
  intro x3 w3 hx3 hs3 r3 k3
  have h3:=h2.keep0 k3
  refine ⟨h3.core,?_⟩
  conv=>whnf
  refine Ca.of (pcalls_ok h3.core.pat) ?_
  rintro _ _ ⟨rfl,rfl⟩
  refine ⟨h3.core,?_⟩
  conv=>whnf
  repeat ((first
   | (refine RuQ.of (fun w _=>build_vw _ _ _ _ _ _ w) ?_));conv=>whnf)
 all_goals
  refine Ru.sta r3 size_vw (by omega) (fun j _=>vw0_one ..) ?_
  intro w4 r34 k4
  have k34:Keep [] w2 w4:=k3.then k4 (fun x hx=>.inr (by rw [List.mem_singleton.1 hx,hx3];exact Nat.le_refl _))
  have h4:=h2.keep0 k34
  have r24:=r22.keep k34 (by simp)
  have kk4:=k2.trans k34
  have h23:x2≠x3:=by have:=r22.lt;omega
  have hw2:w.heap.size≤x2:=by omega
  have hw3:w.heap.size≤x3:=by have:=k2.size;omega
  have rs:Row w4 x3 72 67 (vwB K):=r34.congr (fun j hj=>by unfold lay;rw [if_pos (by omega),Nat.sub_zero];rfl)
  clear r34 k4 k34 r3 k3 r22 h2 k2 hs2 hs1 hs3 hx2 hx3 h3 w3 w2 w1
  conv=>whnf
  refine CW.held (fun w'=>CoreAt w' N K X c) [] (.take 0 (.take 1 (.take 2 (.take 3 (.take 4 (.take 5 (.one 6 (.one 7 (.done))))))))) tt_ok (by kernel_rfl) (by kernel_rfl) (by kernel_rfl) ?_ ?_
  ·exact h4.core.keep0 ((Keep.refl _ _).drewN 1)
  have q5:=(Keep.refl [] w4).drewN 1
  have h5:=h4.keep0 q5
  have r25:=r24.keep q5 (by simp)
  have r35:=rs.keep q5 (by simp)
  have k5:Keep [] w (w4.drewN 1):=kk4.trans q5
  clear h4 r24 rs kk4 q5
  generalize w4.drewN 1=w5 at *
  conv=>whnf
  repeat ((first
   | (refine LdQ.of (fun _ h=>h.c1) ?_)
   | (refine RuQ.of (fun w _=>sl12_run x3 0 w) ?_));conv=>whnf)
  refine Ca.of (cstates_ok h5) ?_
  rintro _ w6 ⟨Z6,ez6,rfl,O6⟩
  have h6:=h5.keep0 O6.keep
  have r26:=r25.keep O6.keep (by simp)
  have r36:=r35.keep O6.keep (by simp)
  have k6:=k5.trans O6.keep
  refine ⟨h6.core,?_⟩
  conv=>whnf
  refine Bu.copy Tryz.underlying23 (by kernel_rfl) r36 Z6 12 ez6 12 rfl (O6.ly.rd1) (fun e=>?_) (by omega) (fun _ _=>rfl) ?_
  ·have:=O6.ly.2.2.1 e
   have:=O6.ly.1
   omega
  intro w7 r3x kx
  have hx:=h6.away r36 (by decide) kx
  have r2x:=r26.keep kx (by simpa using h23)
  have kkx:=k6.fresh hw3 kx
  clear h5 r25 r35 k5 h6 r26 r36 k6 O6 kx
  refine ⟨hx.core,?_⟩
  conv=>whnf
  repeat ((first
   | refine CW.s ?_);conv=>whnf)
  have rv:Row w7 x3 72 67 (vwS K 0):=r3x.congr (fun j hj=>vwS_zero K (vwB K) (fun _ _=>rfl) j hj)
  clear r3x
  refine CW.loop (ι:=Nat) (fun i w'=>i≤25∧On w' N K P b n X c∧Row w' x2 72 67 (fun _=>.int .i64 0)∧Row w' x3 72 67 (vwS K i)∧Keep [] w w') (fun i=>[(0,.pointer (some ⟨N.k,0,none⟩)),(2,.pointer (some ⟨x2,0,none⟩)),(3,.pointer (some ⟨x3,0,none⟩)),(42,.int .i64 i)]) (fun i=>25 - i) 0 tt_ok ⟨by omega,hx,r2x,rv,kkx⟩ ⟨rfl,rfl,rfl,rfl,trivial⟩ ?_
  clear hx r2x rv kkx w7
  rintro i wr ⟨hi,hh,r2,r3,kk⟩
  rcases Nat.lt_or_ge i 25 with hlt | hge
  ·have hp:=vwS_put K hlt
   have h96:=hat i hlt
   conv=>whnf
   repeat ((first
    | (refine Ix.of i (by omega) (by omega) ?_)
    | refine Br.y ?_|refine CW.s ?_);conv=>whnf)
   refine Sd.rowAt r3 (12+i) (by omega) (by omega) rfl ?_
   intro wa r3a ka
   have ha:=hh.away r3 (by decide) ka
   have r2a:=r2.keep ka (by simpa using h23)
   have kka:=kk.fresh hw3 ka
   conv=>whnf
   repeat ((first
    | (refine Ld.of ha.core.c2 ?_));conv=>whnf)
   refine Ca.of (mat_ok ha.core.map i (by omega) h96) ?_
   by_cases h0:K.at_ i=0
   ·rw [if_pos h0]
    rintro _ _ ⟨rfl,rfl⟩
    conv=>whnf
    repeat ((first
     | refine Br.f ?_|refine Ar.la ?_|refine Ru.e1 ?_);conv=>whnf)
    refine ⟨i+1,⟨hlt,ha,r2a,r3a.congr (fun j _=>?_),kka⟩,⟨rfl,rfl,rfl,vi (by first | omega | (simp only;omega)),trivial⟩,by simp only;omega⟩
    rw [← hp j]
    unfold plcL
    rw [if_pos h0]
   ·rw [if_neg h0]
    rintro _ _ ⟨rfl,rfl⟩
    conv=>whnf
    repeat ((first
     | (refine Ix.of i (by omega) (by omega) ?_)
     | refine Br.t ?_|refine Ru.eql_nil0 ?_);conv=>whnf)
    refine Sd.rowAt r3a (12+i) (by omega) (by omega) rfl ?_
    intro wb r3b kb
    conv=>whnf
    repeat ((first
     | refine Ar.la ?_);conv=>whnf)
    refine ⟨i+1,⟨hlt,ha.away r3a (by decide) kb,r2a.keep kb (by simpa using h23),r3b.congr (fun j _=>?_),kka.fresh hw3 kb⟩,⟨rfl,rfl,rfl,vi (by first | omega | (simp only;omega)),trivial⟩,by simp only;omega⟩
    rw [put_put, ← hp j]
    unfold plcL
    rw [if_neg h0]
  obtain rfl:i=25:=by omega
  clear hge hi
  conv=>whnf
  repeat ((first
   | refine Br.f ?_|refine CW.s ?_);conv=>whnf)
  refine CW.held (fun w'=>CoreAt w' N K X c) [] (.take 0 (.take 1 (.take 2 (.take 3 (.take 4 (.take 5 (.one 6 (.one 7 (.done))))))))) tt_ok (by kernel_rfl) (by kernel_rfl) (by kernel_rfl) ?_ ?_
  ·exact hh.core.keep0 ((Keep.refl _ _).drewN 1)
  have q8:=(Keep.refl [] wr).drewN 1
  have h8:=hh.keep0 q8
  have r28:=r2.keep q8 (by simp)
  have r38:=r3.keep q8 (by simp)
  have k8:Keep [] w (wr.drewN 1):=kk.trans q8
  clear hh r2 r3 kk q8
  generalize wr.drewN 1=w8 at *
  conv=>whnf
  repeat ((first
   | (refine LdQ.of (fun _ h=>h.c4) ?_)
   | (refine RuQ.of (fun w _=>sl12_run x3 40 w) ?_));conv=>whnf)
  refine Ca.of (Hl.reads_ok w8 N.e K.F h8.core.health) ?_
  rintro _ w9 ⟨Z9,ez9,rfl,O9⟩
  have h9:=h8.keep0 O9.keep
  have r29:=r28.keep O9.keep (by simp)
  have r39:=r38.keep O9.keep (by simp)
  have k9:=k8.trans O9.keep
  refine ⟨h9.core,?_⟩
  conv=>whnf
  refine Bu.copy Tryz.underlying23 (by kernel_rfl) r39 Z9 12 ez9 12 rfl (O9.ly.rd1) (fun e=>?_) (by omega) (fun _ _=>rfl) ?_
  ·have:=O9.ly.2.2.1 e
   have:=O9.ly.1
   omega
  intro wc r3x kx
  have hx:=h9.away r39 (by decide) kx
  have r2x:=r29.keep kx (by simpa using h23)
  have kkx:=k9.fresh hw3 kx
  clear h8 r28 r38 k8 h9 r29 r39 k9 O9 kx
  refine ⟨hx.core,?_⟩
  conv=>whnf
  have r3c:=r3x
  clear r3x
  refine CW.held (fun w'=>CoreAt w' N K X c) [] (.take 0 (.take 1 (.take 2 (.take 3 (.take 4 (.take 5 (.one 6 (.one 7 (.done))))))))) tt_ok (by kernel_rfl) (by kernel_rfl) (by kernel_rfl) ?_ ?_
  ·exact hx.core.keep0 ((Keep.refl _ _).drewN 1)
  have qd:=(Keep.refl [] wc).drewN 1
  have hd:=hx.keep0 qd
  have r2d:=r2x.keep qd (by simp)
  have r3d:=r3c.keep qd (by simp)
  have kd:Keep [] w (wc.drewN 1):=kkx.trans qd
  clear hx r2x r3c kkx qd
  generalize wc.drewN 1=wd at *
  conv=>whnf
  repeat ((first
   | (refine LdQ.of (fun _ h=>h.c4) ?_)
   | (refine RuQ.of (fun w _=>sl12_run x3 52 w) ?_));conv=>whnf)
  refine Ca.of (Hl.scores_ok wd N.e K.F hd.core.health) ?_
  rintro _ we ⟨Ze,eze,rfl,Oe⟩
  have he:=hd.keep0 Oe.keep
  have r2e:=r2d.keep Oe.keep (by simp)
  have r3e:=r3d.keep Oe.keep (by simp)
  have ke:=kd.trans Oe.keep
  refine ⟨he.core,?_⟩
  conv=>whnf
  refine Bu.copy Tryz.underlying23 (by kernel_rfl) r3e Ze 12 eze 12 rfl (Oe.ly.rd1) (fun e=>?_) (by omega) (fun _ _=>rfl) ?_
  ·have:=Oe.ly.2.2.1 e
   have:=Oe.ly.1
   omega
  intro wf r3x kx
  have hx:=he.away r3e (by decide) kx
  have r2x:=r2e.keep kx (by simpa using h23)
  have kkx:=ke.fresh hw3 kx
  clear hd r2d r3d kd he r2e r3e ke Oe kx
  refine ⟨hx.core,?_⟩
  conv=>whnf
  have rv:Row wf x3 72 67 (vwF K):=r3x.congr (fun j hj=>vwF_end K j hj)
  refine Ru.ldaC (q:=vwF K) rv Tryz.underlying72 rfl size_vw (by omega) (fun j hj=>by rw [Nat.zero_add]) ?_
  conv=>whnf
  refine Ru.sta r2x size_vw (by omega) (fun j _=>vwF_one K j) ?_
  intro wg r2g kg
  conv=>whnf
  refine Ru.ldaC (q:=vwF K) r2g Tryz.underlying72 rfl size_vw (by omega) (fun j hj=>by unfold lay;rw [if_pos (by omega),Nat.zero_add,Nat.sub_zero]) ?_
  conv=>whnf
  exact ⟨rfl,rfl,kkx.fresh hw2 kg⟩
set_option maxHeartbeats 2000000 in
theorem report_ok {own:List Nat} {d ch:Nat} (D:DvOn w own d ch K P b) (hat:∀ o,o<25→K.at_ o≤96):Spec Tryz.prog 36 #[.pointer (some ⟨d,0,none⟩)] w fun v w'=>v = .tuple #[agg 67 (vwF K),errOf 0]∧Keep [] w w':=by
 obtain ⟨N,X,c,n,rfl,r,h,eC,hq⟩:=D
 refine spec_of_wpE (T:=tt) tt_ok Tryz.func36 rfl (by decide +kernel) Tryz.ntmps36 (by simp) ?_
 conv=>whnf
 refine Ru.alloca (alloc_vw w) ?_
 intro x2 w1 hx2 hs1 r2 k1
 have h1:=h.keep0 k1
 have c1:w1.cell? ⟨d,1,none⟩=some (.pointer (some ⟨N.k,0,none⟩)):=Row.cell (Row.keep r k1 (by simp)) 1 (by omega)
 conv=>whnf
 repeat ((first
  | (refine Ld.of c1 ?_)
  | (refine Ru.of (core_some _ _ _) ?_)
  | refine Br.f ?_|refine CW.s ?_);conv=>whnf)
 refine Ca.of (view_ok h1 hat) ?_
 rintro _ w2 ⟨rfl,k2⟩
 have r22:=r2.keep k2 (by simp)
 conv=>whnf
 refine Ru.sta r22 size_vw (by omega) (fun j _=>vwF_one K j) ?_
 intro w3 r3 k3
 conv=>whnf
 refine Ru.ldaC (q:=vwF K) r3 Tryz.underlying72 rfl size_vw (by omega) (fun j hj=>by unfold lay;rw [if_pos (by omega),Nat.zero_add,Nat.sub_zero]) ?_
 conv=>whnf
 exact ⟨rfl,rfl,(k1.trans k2).fresh (by omega) k3⟩
end
end Go.Proofs.YtaeikigfgfcadaaGreat
namespace Go.Proofs.YtaeikigfgfcadaaGreat
open Go.RowKit Go.ChangeShapes Go.WideShapes Go.ChangeAt
namespace Bulk
theorem one_le {H:Type} (d:DataW H):1≤Rows.uptoBulk d:=by
 cases d with
 | lit l=>cases l<;>simp [Rows.uptoBulk]
 | nil=>simp [Rows.uptoBulk]
 | ptr d=>simp [Rows.uptoBulk]
 | slice elems spare=>simp [Rows.uptoBulk]
 | agg parts=>simp [Rows.uptoBulk]
 | iface t d=>simp [Rows.uptoBulk]
 | map entries=>simp [Rows.uptoBulk]
 | held h=>simp [Rows.uptoBulk]
theorem part_le {H:Type} {d:DataW H} {l:List (DataW H)} (h:d∈l):Rows.uptoBulk d≤Rows.uptoBulkAll l:=by
 induction l with
 | nil=>cases h
 | cons x r ih =>
  simp only [Rows.uptoBulkAll]
  cases List.mem_cons.1 h with
  | inl e=>subst e;omega
  | inr e=>have:=ih e;omega
theorem length_le {H:Type} (l:List (DataW H)):l.length≤Rows.uptoBulkAll l:=by
 induction l with
 | nil=>simp [Rows.uptoBulkAll]
 | cons x r ih=>have:=one_le x;simp only [Rows.uptoBulkAll,List.length_cons];omega
theorem slice_le {H:Type} (elems spare:List (DataW H)):elems.length+spare.length+1≤Rows.uptoBulk (.slice elems spare):=by
 have h1:=length_le elems
 have h2:=length_le spare
 simp only [Rows.uptoBulk]
 omega
theorem bound {H:Type} {l:List (DataW H)} (hk:Rows.uptoSmall H l=true):Rows.uptoBulkAll l≤1048576:=of_decide_eq_true hk
end Bulk
theorem bulk_row {H:Type} {enc:TypeId × Value→H} {P:Program} {W:World} {base:Nat} {spare:Nat→Bool} {held:Bool} {t e:TypeId} {k:IntKind} {a:Option Addr} {len cap:Nat} {d:DataW H} {ps:List MemPlace} {ds:List (DataW H)} {j:Nat}
  (hk:Rows.uptoSmall H ds=true) (hd:ds[j]?=some d) (hu:P.underlying t=some (.slice e)) (he:P.underlying e=some (.int k)) (hc:P.cellsOf e=1)
  (h:DataW.Trod enc P W base spare held t (.slice a len cap) d ps):len≤1048576:=by
 obtain ⟨fuel,hf⟩:=h
 rcases open_ints hu he hc hf with ⟨hcs,_⟩ | ⟨x,l,c,zs,hcs,_,hl,_,hz,hx,_,_⟩
 ·simp [Value.cells] at hcs
  obtain ⟨_,rfl,_⟩:=hcs
  simp
 ·simp [Value.cells] at hcs
  obtain ⟨rfl,rfl,rfl⟩:=hcs
  obtain ⟨hx,_⟩:=Prod.mk.inj hx
  subst hx
  have hl2:len≤zs.length:=by
   rw [hz]
   split
   ·exact hl
   ·exact Nat.le_refl _
  have h1:(lits (H:=H) k (zs.take len)).length+(lits (H:=H) k (zs.drop len)).length=zs.length:=by
   simp [lits]
   omega
  have h2:=Bulk.slice_le (lits (H:=H) k (zs.take len)) (lits (H:=H) k (zs.drop len))
  have h3:=Bulk.part_le (List.mem_of_getElem? hd)
  have h4:=Bulk.bound hk
  omega
end Go.Proofs.YtaeikigfgfcadaaGreat
namespace Go.Proofs.YtaeikigfgfcadaaGreat
open Go.RowKit Go.ChangeShapes Go.WideShapes Go.Deep
section
variable {H:Type} {enc:TypeId × Value→H} {P:Program} {W:World} {base:Nat} {spare:Nat→Bool} {held:Bool} {t e:TypeId} {fs:Array Field} {a:Option Addr} {len cap C:Nat} {d:DataW H} {ps:List MemPlace}
theorem slArg_structs (ht:P.underlying t=some (.slice e)) (he:P.underlying e=some (.struct fs)) (hone:oneCellFields P fs=true) (hC:P.cellsOf e=C) (hfs:fs.size=C) (h:DataW.Trod enc P W base spare held t (.slice a len cap) d ps) :
  len≤cap∧cap≤maxLen∧(a=none→cap=0)∧∃ F:Nat→Nat→Value,Rd W a (len * C) (fun q=>F (q / C) (q % C)) ∧
   ∀ i,i<len→∀ (j:Nat) (f:Field),fs[j]?=some f→∃ n y,DataW.trod enc P W base spare held n f.type [F i j]=some y:=by
 obtain ⟨fuel,hf⟩:=h
 rcases open_slice ht hf with ⟨hcs,_⟩ | ⟨x,l,c,m,n,D,Pl,hcs,_,hl,hm,hmm,_,hi⟩
 ·simp [Value.cells] at hcs
  obtain ⟨rfl,rfl,rfl⟩:=hcs
  exact ⟨Nat.le_refl _,by simp [maxLen],fun _=>rfl,fun _ _=>.nilIface,by rw [Nat.zero_mul];exact Rd.nil _ _ _,fun i h=>absurd h (by omega)⟩
 ·simp [Value.cells] at hcs
  obtain ⟨rfl,rfl,rfl⟩:=hcs
  have hlm:len≤m:=by
   rw [hmm]
   split
   ·exact hl
   ·exact Nat.le_refl _
  refine ⟨hl,hm,fun h=>by simp at h,fun i j=>(W.cell? (x.add (i * C+j))).getD .nilIface,?_,?_⟩
  ·intro hn
   have hC0:0<C:=by
    rcases Nat.eq_zero_or_pos C with h0 | h0
    ·rw [h0] at hn;simp at hn
    ·exact h0
   have hl0:0<len:=by
    rcases Nat.eq_zero_or_pos len with h0 | h0
    ·rw [h0] at hn;simp at hn
    ·exact h0
   have hsome:∀ i,i<len→∀ j,j<C→∃ v,W.cell? (x.add (i * C+j))=some v:=by
    intro i h1 j h2
    obtain ⟨cs',hc,_⟩:=hi i (by omega)
    rw [hC] at hc
    obtain ⟨_,hcl,hat⟩:=World.cells?_some hc
    have:=hat j h2
    rw [Go.Deep.add_add] at this
    rw [this]
    exact ⟨_,List.getElem?_eq_getElem (by omega)⟩
   obtain ⟨v0,h00⟩:=hsome 0 hl0 0 hC0
   have hs:=spot_of_cell h00
   have hs2:x.spot=none:=by
    unfold Addr.add at hs
    simpa using hs
   refine ⟨x.block,x.off,?_,fun q hq=>?_⟩
   ·obtain ⟨b,o,s⟩:=x
    simp at hs2
    subst hs2
    rfl
   ·have h1:q / C<len:=Nat.div_lt_of_lt_mul (by rw [Nat.mul_comm];exact hq)
    have h2:q % C<C:=Nat.mod_lt _ hC0
    obtain ⟨v,hv⟩:=hsome (q / C) h1 (q % C) h2
    have e1:q / C * C+q % C=q:=by rw [Nat.mul_comm];exact Nat.div_add_mod q C
    rw [e1] at hv
    rw [← of_add hs2 q]
    show _=some ((W.cell? (x.add (q / C * C+q % C))).getD .nilIface)
    rw [e1,hv]
    rfl
  ·intro i h1 j f hj
   have hjl:j<fs.size:=(Array.getElem?_eq_some_iff.1 hj).1
   obtain ⟨cs',hc,ht'⟩:=hi i (by omega)
   rw [hC] at hc
   obtain ⟨ys,n',_,_,_,hyl,hff⟩:=DataW.trod_struct he ht'
   obtain ⟨_,hcl,hat⟩:=World.cells?_some hc
   obtain ⟨ho,hk⟩:=hone_of hone j f hj
   have h3:=hff j f hj
   rw [ho,hk] at h3
   have hj2:j<cs'.length:=by omega
   rw [List.drop_eq_getElem_cons hj2] at h3
   simp only [List.take_succ_cons,List.take_zero] at h3
   have h4:=hat j (by omega)
   rw [Go.Deep.add_add,List.getElem?_eq_getElem hj2] at h4
   refine ⟨n',ys[j]'(by omega),?_⟩
   ·show DataW.trod enc P W base spare held n' f.type [(W.cell? (x.add (i * C+j))).getD .nilIface]=_
    rw [h4]
    simp only [Option.getD_some]
    rw [h3]
    exact List.getElem?_eq_getElem _
theorem sized_structs {ts:List TypeId} {ds:List (DataW H)} {j B:Nat} (hsz:(DataW.weightsEach P ts ds).all (· ≤ reachBytes)=true) (hj:ts[j]?=some t) (hd:ds[j]?=some d) (ht:P.underlying t=some (.slice e)) (hB:P.bytesOf e=B)
  (h:DataW.Trod enc P W base spare held t (.slice a len cap) d ps):len * B≤140737488351232:=by
 obtain ⟨fuel,hf⟩:=h
 rcases open_slice ht hf with ⟨hcs,_⟩ | ⟨x,l,c,m,n,D,Pl,hcs,_,hl,hm,hmm,hx,hi⟩
 ·simp [Value.cells] at hcs
  obtain ⟨_,rfl,_⟩:=hcs
  simp
 ·simp [Value.cells] at hcs
  obtain ⟨rfl,rfl,rfl⟩:=hcs
  obtain ⟨hx,_⟩:=Prod.mk.inj hx
  subst hx
  have z:=sized_slice hsz hj hd ht
  rw [hB] at z
  have h2:len≤((List.range len).map D).length+((List.range (m - len)).map fun j=>D (len+j)).length:=by
   simp
  exact Nat.le_trans (Nat.mul_le_mul_right _ h2) z
theorem field_int {k:IntKind} {n:Nat} {v:Value} {y:DataW H × List MemPlace} (hu:P.underlying t=some (.int k)) (h:DataW.trod enc P W base spare held n t [v]=some y):v = .int k (intOf v)∧(Lit.int k (intOf v)).wf=true:=by
 obtain ⟨m,hm,hw⟩:=DataW.trod_int hu h
 simp at hm
 subst hm
 exact ⟨rfl,hw.2⟩
end
end Go.Proofs.YtaeikigfgfcadaaGreat
namespace Go.Proofs.YtaeikigfgfcadaaGreat
open Go.RowKit Go.ChangeShapes Go.WideShapes Go.ChangeAt Go.Deep
theorem bulk_structs {H:Type} {enc:TypeId × Value→H} {P:Program} {W:World} {base:Nat} {spare:Nat→Bool} {held:Bool} {t e:TypeId} {a:Option Addr} {len cap:Nat} {d:DataW H} {ps:List MemPlace} {ds:List (DataW H)} {j:Nat}
  (hk:Rows.uptoSmall H ds=true) (hd:ds[j]?=some d) (ht:P.underlying t=some (.slice e))
  (h:DataW.Trod enc P W base spare held t (.slice a len cap) d ps):len≤1048576:=by
 obtain ⟨fuel,hf⟩:=h
 rcases open_slice ht hf with ⟨hcs,_⟩ | ⟨x,l,c,m,n,D,Pl,hcs,_,hl,hm,hmm,hx,hi⟩
 ·simp [Value.cells] at hcs
  obtain ⟨_,rfl,_⟩:=hcs
  simp
 ·simp [Value.cells] at hcs
  obtain ⟨rfl,rfl,rfl⟩:=hcs
  obtain ⟨hx,_⟩:=Prod.mk.inj hx
  subst hx
  have h2:=Bulk.slice_le ((List.range len).map D) ((List.range (m - len)).map fun j=>D (len+j))
  have h3:=Bulk.part_le (List.mem_of_getElem? hd)
  have h4:=Bulk.bound hk
  have h5:((List.range len).map D).length=len:=by simp
  omega
theorem Spec.calls {P:Program} {f:FuncId} {args:Array Value} {w:World} {V:Value} {Φ:World→Prop} (h:Spec P f args w fun v w'=>v=V∧Φ w'):Calls P f args w fun e w'=>e = .returned V∧Φ w':=h.2.mono fun e w' ⟨v,he,hv,hk⟩=>⟨by rw [he,hv],hk⟩
end Go.Proofs.YtaeikigfgfcadaaGreat
namespace Go.Proofs.YtaeikigfgfcadaaGreat
open Go.RowKit Go.ChangeShapes Go.WideShapes Go.ChangeAt Go.Deep
theorem cl_list {w:World} {A:Option Addr} {len:Nat} {F:Nat→Nat→Value} (r:Rd w A (len * 3) (fun q=>F (q / 3) (q % 3)))
  (h:∀ i,i<len→∃ c:Cl,c.wf∧F i 0 = .int .i64 c.kind∧F i 1 = .int .i64 c.a∧F i 2 = .int .i64 c.x) :
  ∃ L:List Cl,L.length=len∧Rd w A (L.length * 3) (clF L)∧∀ c,c∈L→c.wf:=by
 let g:Nat→Cl:=fun i=>⟨intOf (F i 0),intOf (F i 1),intOf (F i 2)⟩
 have hg:∀ i,i<len→(g i).wf∧F i 0 = .int .i64 (g i).kind∧F i 1 = .int .i64 (g i).a∧F i 2 = .int .i64 (g i).x:=by
  intro i hi
  obtain ⟨c,hw,h0,h1,h2⟩:=h i hi
  have e:g i=c:=by
   show Cl.mk (intOf (F i 0)) (intOf (F i 1)) (intOf (F i 2))=c
   rw [h0,h1,h2]
   rfl
  rw [e]
  exact ⟨hw,h0,h1,h2⟩
 refine ⟨(List.range len).map g,by simp,?_,?_⟩
 ·rw [List.length_map,List.length_range]
  refine r.congr fun q hq=>?_
  have h1:q / 3<len:=by omega
  have e:((List.range len).map g).getD (q / 3) ⟨0,0,0⟩=g (q / 3):=by
   rw [List.getD_eq_getElem?_getD,List.getElem?_map,List.getElem?_range h1]
   rfl
  unfold clF
  rw [e]
  obtain ⟨-,k0,k1,k2⟩:=hg _ h1
  unfold Cl.cell
  have hm:q % 3<3:=Nat.mod_lt _ (by omega)
  rcases (by omega:q % 3=0∨q % 3=1∨q % 3=2) with e | e | e
  ·rw [e,k0];rfl
  ·rw [e,k1];rfl
  ·rw [e,k2];rfl
 ·intro c hc
  obtain ⟨i,hi,rfl⟩:=List.mem_map.1 hc
  exact (hg i (List.mem_range.1 hi)).1
theorem in_list {w:World} {A:Option Addr} {len cap:Nat} {f:Nat→Int} (h:SlArg w A len cap (fun j=>.int .i64 (f j))) (hw:∀ j,(Lit.int .i64 (f j)).wf=true) :
  ∃ Z:List Int,Z.length=len∧Rd w A Z.length (inF Z)∧∀ z,z∈Z→i64R z:=by
 refine ⟨(List.range len).map f,by simp,?_,?_⟩
 ·rw [List.length_map,List.length_range]
  refine h.rd.congr fun q hq=>?_
  unfold inF
  rw [List.getD_eq_getElem?_getD,List.getElem?_map,List.getElem?_range hq]
  rfl
 ·intro z hz
  obtain ⟨i,hi,rfl⟩:=List.mem_map.1 hz
  exact bounds_i64 (hw i)
end Go.Proofs.YtaeikigfgfcadaaGreat
