/- Texts behind one another: Trims, JnTopTrims. -/
import Derived.WalkKit
import Derived.ProofKit
import Derived.ChangeOld
import Derived.SizedLaws
import Derived.JoinedCond
import Derived.Lib.SmallJoins
import Derived.Test.YtaeikigfgfcadaaGreatMq0a
import Derived.Test.YtaeikigfgfcadaaGreatMq0b
import Derived.Test.YtaeikigfgfcadaaGreatMq0c
import Derived.Test.YtaeikigfgfcadaaGreatMq0d
import Derived.Test.YtaeikigfgfcadaaGreatMq0e
import Derived.Test.YtaeikigfgfcadaaGreatMq0f
set_option linter.unusedVariables false
set_option linter.unusedSimpArgs false
set_option linter.unnecessarySimpa false
namespace Go.Proofs.YtaeikigfgfcadaaGreat
open Go.RowKit
set_option maxRecDepth 20000
set_option maxHeartbeats 16000000 in
theorem trims_ok {w:World} {L M:List Cl} {Z:List Int} {A B C:Option Addr} {cA cB cC:Nat} {of:Int} (hL:Rd w A (L.length * 3) (clF L)) (hM:Rd w B (M.length * 3) (clF M)) (hZ:Rd w C Z.length (inF Z)) (hLw:∀ c,c∈L→c.wf) (hMw:∀ c,c∈M→c.wf) (hZw:∀ z,z∈Z→i64R z) (hof:i64R of)
  (hL1:L.length≤1048576) (hM1:M.length≤1048576) (hZ1:Z.length≤1048576) :
  Spec Tryz.prog 3 #[.slice A L.length cA,.int .i64 of,.slice B M.length cB,.slice C Z.length cC] w fun v w'=>v = .bool true∧Keep [] w w':=by
 refine spec_of_wpE (T:=tt) tt_ok Tryz.func3 rfl (by decide +kernel) Tryz.ntmps3 (by simp) ?_
 conv=>whnf
 refine Ca.of (begun_ok hL hLw hL1) ?_
 rintro _ w1 ⟨ch,d,own,K,P,k,rfl,Bg⟩
 have ha0:=playA_le (a:=fun _=>0) (fun _=>by omega) L
 obtain ⟨D1,I1,q1,s1,n1,kk1⟩:=Bg
 generalize playA (fun _=>0) L=a0 at *
 have hM1':=hM.keep0 kk1
 have hZ1':=hZ.keep0 kk1
 conv=>whnf
 refine Ru.alloca (alloc_ar w1) ?_
 intro x11 w2 hx11 hs2 r11 k2
 conv=>whnf
 refine Ru.sta r11 size_ar (by omega) (fun j hj=>arF_one _ j) ?_
 intro w3 r113 k3
 have r113:Row w3 x11 28 24 (arF a0):=r113.congr (fun j hj=>by unfold lay;rw [if_pos (by omega),Nat.sub_zero])
 have q3:Keep [] w1 w3:=k2.then k3 (fun x hx=>.inr (by rw [List.mem_singleton.1 hx,hx11];exact Nat.le_refl _))
 have D3:=D1.keep0 q3
 have hM3:=hM1'.keep0 q3
 have hZ3:=hZ1'.keep0 q3
 have kk3:=kk1.trans q3
 have h11w:w.heap.size≤x11:=by have:=kk1.size;omega
 clear D1 hM1' hZ1' k2 k3 r11 hs2 q3 hx11 kk1
 conv=>whnf
 repeat ((first
  | refine CW.s ?_);conv=>whnf)
 refine Ru.of (chip_eq w3 _ _) ?_
 conv=>whnf
 repeat ((first
  | refine Br.f ?_);conv=>whnf)
 refine Ca.of (some_ok of 24 hof (by omega) w3) ?_
 rintro _ _ ⟨rfl,rfl⟩
 have hs24:=someN_lt of (n:=24) (by omega)
 generalize someN of 24=s at *
 obtain ⟨K4,P4,k4,t41,t42,CE4,hcall4⟩:=dev_trim I1 q1 (by omega) hs24
 have CE4:=CE4 _ s1
 conv=>whnf
 refine Ca.of (hcall4 D3) ?_
 rintro u w4 ⟨k34,hr4⟩
 rcases hr4 with ⟨f4,rfl,own4,D4,h4⟩ | ⟨y,hy,hyb,-⟩
 case inr=>cases hyb
 have r114:=r113.keep k34 (D3.far r113 (by decide))
 have hM4:=rd_far hM hM3 k34 n1
 have hZ4:=rd_far hZ hZ3 k34 n1
 have kk4:Keep [] w w4:=kk3.then k34 (fun x hx=>.inr (n1 x hx))
 have hs3:=kk3.size
 have n4:∀ x,x∈own4→w.heap.size≤x:=fun x hx=>by
  rcases h4 x hx with h | h
  ·exact n1 x h
  ·omega
 clear D3 hM3 hZ3 r113 kk3 h4 hs3
 conv=>whnf
 repeat ((first
  | (refine Ix.of s (by omega) (by omega) ?_)
  | refine Br.f ?_|refine Ru.neq_nil0 ?_|refine CW.s ?_);conv=>whnf)
 rw [show 0+0+s=s by omega]
 refine Sd.rowAt r114 s (by omega) (by omega) rfl ?_
 intro w5 r115 k5
 have r115:Row w5 x11 28 24 (arF (updf a0 s 0)):=r115.congr (fun j hj=>put_ar a0 s 0 j)
 have D5:=D4.away r114 (by decide) k5
 have hM5:=rd_far hM hM4 k5 (fun x hx=>by rw [List.mem_singleton.1 hx];exact h11w)
 have hZ5:=rd_far hZ hZ4 k5 (fun x hx=>by rw [List.mem_singleton.1 hx];exact h11w)
 have kk5:=kk4.fresh h11w k5
 have sh5:Shows P4 K4.at_ (arB (updf a0 s 0)):=by
  rw [← arB_set]
  exact CE4.sh
 have ha5:∀ o,updf a0 s 0 o≤1000000:=fun o=>by
  unfold updf
  split
  ·omega
  ·exact ha0 o
 have I5:=CE4.inv
 have q5:=CE4.qu
 clear D4 hM4 hZ4 r114 kk4 k5 CE4 hcall4 ha0 s1 I1 q1 n1 k34
 generalize updf a0 s 0=a1 at *
 have hm0:1≤2+2 * (L.length:Int)+2∧2+2 * (L.length:Int)+2≤3000000:=by omega
 generalize 2+2 * (L.length:Int)+2=m0 at *
 conv=>whnf
 repeat ((first
  | refine CW.s ?_);conv=>whnf)
 refine CW.loop (ι:=Nat × (Nat→Nat) × Nat × List Nat × KS × CS × Cp × Option Nat) (fun i w'=>i.1≤M.length∧DvOn w' i.2.2.2.1 i.2.2.1 ch i.2.2.2.2.1 i.2.2.2.2.2.1 i.2.2.2.2.2.2.2∧Inv i.2.2.2.2.1 i.2.2.2.2.2.1 i.2.2.2.2.2.2.1 (m0+4 * i.1)∧i.2.2.2.2.1.qu=[]∧Shows i.2.2.2.2.2.1 i.2.2.2.2.1.at_ (arB i.2.1)∧(∀ o,i.2.1 o≤1000000)∧(∀ x,x∈i.2.2.2.1→w.heap.size≤x) ∧
   Row w' x11 28 24 (arF i.2.1)∧Rd w' B (M.length * 3) (clF M)∧Rd w' C Z.length (inF Z)∧Keep [] w w')
  (fun i=>[(2,.slice B M.length cB),(3,.slice C Z.length cC),(9,.pointer (some ⟨ch,0,none⟩)),(10,.pointer (some ⟨i.2.2.1,0,none⟩)),(11,.pointer (some ⟨x11,0,none⟩)),(12,.int .i64 s),(14,.int .i64 i.1)]) (fun i=>M.length - i.1) (0,a1,d,own4,K4,P4,k4,none) tt_ok
  ⟨by omega,D5,by simpa using I5,q5,sh5,ha5,n4,r115,hM5,hZ5,kk5⟩ ⟨rfl,rfl,rfl,rfl,rfl,rfl,rfl,trivial⟩ ?_
 clear D5 I5 q5 sh5 ha5 n4 r115 hM5 hZ5 kk5
 rintro ⟨i,a,d,own,K,P,k,b⟩ wr ⟨hi,D,I,q,sh,ha,hn,r11,hMr,hZr,kk⟩
 simp only at hi D I q sh ha hn r11 hMr hZr kk ⊢
 rcases Nat.lt_or_ge i M.length with hlt | hge
 ·obtain ⟨g,o,rfl,hcell⟩:=cl_cells hMr hlt
  have hcw:=hMw _ (cl_mem hlt)
  generalize M.getD i ⟨0,0,0⟩=c at *
  conv=>whnf
  repeat ((first
   | (refine Ix.of i (by omega) (by omega) ?_)
   | refine Br.y ?_|refine CW.s ?_);conv=>whnf)
  refine Ru.of (run_ldcl hcell) ?_
  conv=>whnf
  refine Ru.alloca (alloc_cl wr) ?_
  intro x15 w2 hx15 hs2 r15 k2
  conv=>whnf
  refine Ru.sta r15 size_cl (by omega) (fun j hj=>Cl.cell_one c j) ?_
  intro w3 r153 k3
  have r153:Row w3 x15 36 3 c.cell:=r153.congr (fun j hj=>by unfold lay;rw [if_pos (by omega),Nat.sub_zero])
  have q3:Keep [] wr w3:=k2.then k3 (fun x hx=>.inr (by rw [List.mem_singleton.1 hx,hx15];exact Nat.le_refl _))
  have D3:=D.keep0 q3
  have r113:=r11.keep q3 (by simp)
  have hM3:=hMr.keep0 q3
  have hZ3:=hZr.keep0 q3
  have kk3:=kk.trans q3
  have h15w:w.heap.size≤x15:=by have:=kk.size;omega
  clear D r11 hMr hZr kk k2 k3 r15 hs2 q3 hcell hx15
  have c0:w3.cell? ⟨x15,1,none⟩=some (.int .i64 c.a):=r153.cell 1 (by omega)
  conv=>whnf
  repeat ((first
   | (refine Ld.at (by omega) c0 ?_)
   | refine CW.s ?_);conv=>whnf)
  refine Ca.of (some_ok c.a 24 hcw.2.1 (by omega) w3) ?_
  rintro _ _ ⟨rfl,rfl⟩
  have ecof:someN c.a 24=c.of:=rfl
  rw [ecof]
  have hcof:=c.of_lt
  by_cases hsame:c.of=s
  case' pos =>
   have hb:decide (((c.of:Nat):Int)=(s:Nat))=true:=decide_eq_true (by omega)
   conv=>whnf
   repeat ((first
    | refine Br.y ?_);conv=>whnf)
   refine Sd.rowAt r153 0 (by omega) (by omega) rfl ?_
   intro w4 r154 k4
   have r154:Row w4 x15 36 3 (Cl.mk 5 c.a c.x).cell:=r154.congr (fun j hj=>c.put_kind j hj)
   have D4:=D3.away r153 (by decide) k4
   have r114:=r113.keep k4 (by
    have:=r113.ne_ r153 (by decide)
    simpa using this)
   have hM4:=rd_far hM hM3 k4 (fun x hx=>by rw [List.mem_singleton.1 hx];exact h15w)
   have hZ4:=rd_far hZ hZ3 k4 (fun x hx=>by rw [List.mem_singleton.1 hx];exact h15w)
   have kk4:=kk3.fresh h15w k4
   have hc2:(Cl.mk 5 c.a c.x).wf∧(Cl.mk 5 c.a c.x).of=c.of∧(Cl.mk 5 c.a c.x).a=c.a:=⟨Cl.setKind_wf hcw,rfl,rfl⟩
   generalize Cl.mk 5 c.a c.x=c2 at *
   clear D3 r113 hM3 hZ3 r153 kk3 k4 c0 hb
  case' neg =>
   have hb:decide (((c.of:Nat):Int)=(s:Nat))=false:=decide_eq_false (by omega)
   conv=>whnf
   repeat ((first
    | refine Br.n ?_|refine CW.s ?_);conv=>whnf)
   have r154:=r153
   have D4:=D3
   have r114:=r113
   have hM4:=hM3
   have hZ4:=hZ3
   have kk4:=kk3
   have hc2:c.wf∧c.of=c.of∧c.a=c.a:=⟨hcw,rfl,rfl⟩
   obtain ⟨c2,ec2⟩:∃ c2,c2=c:=⟨_,rfl⟩
   obtain ⟨w4,ew4⟩:∃ w4,w4=w3:=⟨_,rfl⟩
   rw [← ew4] at D4 r114 hM4 hZ4 r154 kk4 ⊢
   have hc2:c2.wf∧c2.of=c.of∧c2.a=c.a:=by rw [ec2];exact hc2
   rw [← ec2] at r154
   clear D3 r113 hM3 hZ3 r153 kk3 c0 hb ec2 ew4
  all_goals
   clear hcw
   obtain ⟨hcw,hcof2,hca2⟩:=hc2
   by_cases hz:i<Z.length
   case' neg =>
    have hb:decide ((i:Int)<(Z.length:Nat))=false:=decide_eq_false (by omega)
    conv=>whnf
    repeat ((first
     | refine Br.f ?_|refine Pk.f ?_|refine Br.n ?_|refine CW.s ?_);conv=>whnf)
    obtain ⟨w5,ew⟩:∃ w5,w5=w4:=⟨_,rfl⟩
    rw [← ew] at D4 r114 r154 hM4 hZ4 kk4 ⊢
    obtain ⟨b2,D5⟩:∃ b2,DvOn w5 own d ch K P b2:=⟨b,D4⟩
    have r115:=r114
    have r155:=r154
    have hM5:=hM4
    have hZ5:=hZ4
    have kk5:=kk4
    clear D4 r114 r154 hM4 hZ4 kk4 ew
   case' pos =>
    have hb:decide ((i:Int)<(Z.length:Nat))=true:=decide_eq_true (by omega)
    obtain ⟨gz,oz,rfl,hcz⟩:=hZ4 (by omega)
    have hZ4:Rd w4 (some ⟨gz,oz,none⟩) Z.length (inF Z):=fun _=>⟨gz,oz,rfl,hcz⟩
    have hzw:=hZw _ (lst_mem hz)
    have cz:w4.cell? ⟨gz,oz+i,none⟩=some (.int .i64 (Z.getD i 0)):=hcz i hz
    conv=>whnf
    repeat ((first
     | (refine Ix.of i (by omega) (by omega) ?_)
     | (refine Ld.at (by omega) cz ?_)
     | refine Br.t ?_|refine Br.y ?_|refine CW.s ?_);conv=>whnf)
    refine Ca.of (some_ok _ 4 hzw (by omega) w4) ?_
    rintro _ _ ⟨rfl,rfl⟩
    by_cases h40:someN (Z.getD i 0) 4=0
    case' neg =>
     have hb2:decide (((someN (Z.getD i 0) 4:Nat):Int)=0)=false:=decide_eq_false (by omega)
     conv=>whnf
     repeat ((first
      | refine Br.t ?_|refine Pk.t ?_|refine Br.n ?_);conv=>whnf)
     obtain ⟨w5,ew⟩:∃ w5,w5=w4:=⟨_,rfl⟩
     rw [← ew] at D4 r114 r154 hM4 hZ4 kk4 ⊢
     obtain ⟨b2,D5⟩:∃ b2,DvOn w5 own d ch K P b2:=⟨b,D4⟩
     have r115:=r114
     have r155:=r154
     have hM5:=hM4
     have hZ5:=hZ4
     have kk5:=kk4
     clear D4 r114 r154 hM4 hZ4 kk4 ew
    case' pos =>
     have hb2:decide (((someN (Z.getD i 0) 4:Nat):Int)=0)=true:=decide_eq_true (by omega)
     conv=>whnf
     repeat ((first
      | (refine Ix.of i (by omega) (by omega) ?_)
      | (refine Ld.at (by omega) cz ?_)
      | refine Br.t ?_|refine Pk.t ?_|refine Br.y ?_);conv=>whnf)
     refine Ca.of (some_ok _ 90 hzw (by omega) w4) ?_
     rintro _ _ ⟨rfl,rfl⟩
     have h90:=someN_lt (Z.getD i 0) (n:=90) (by omega)
     conv=>whnf
     refine Ca.of (cut_dv D4 _ (by omega)) ?_
     rintro _ w5 ⟨rfl,D5,k5⟩
     have hchw:=hn ch D4.in_own.2
     have hcho:=D4.in_own.2
     have h11:=D4.far r114 (by decide)
     have h15:=D4.far r154 (by decide)
     have r115:=r114.keep k5 (fun hm=>h11 (by rw [List.mem_singleton.1 hm];exact hcho))
     have r155:=r154.keep k5 (fun hm=>h15 (by rw [List.mem_singleton.1 hm];exact hcho))
     have hM5:=rd_far hM hM4 k5 (fun x hx=>by rw [List.mem_singleton.1 hx];exact hchw)
     have hZ5:=rd_far hZ hZ4 k5 (fun x hx=>by rw [List.mem_singleton.1 hx];exact hchw)
     have kk5:=kk4.fresh hchw k5
     generalize (some (someN (Z.getD i 0) 90):Option Nat)=b2 at *
     clear D4 r114 r154 hM4 hZ4 kk4 k5 hchw hcho h11 h15 h90
     conv=>whnf
  all_goals
   obtain ⟨K2,P2,k2,t1,t2,rd,CE,An,hcall⟩:=does_call I q (by omega) hcw sh
   have hcho:=D5.in_own.2
   have hchw:=hn ch hcho
   refine Ru.ldaC (q:=arF a) r115 Tryz.underlying28 rfl size_ar (by omega) (fun j hj=>by rw [Nat.zero_add]) ?_
   conv=>whnf
   refine Ru.ldaC (q:=c2.cell) r155 Tryz.underlying36 rfl size_cl (by omega) (fun j hj=>by rw [Nat.zero_add]) ?_
   conv=>whnf
   refine Ca.of (hcall D5) ?_
   rintro u w6 ⟨k6,hr6⟩
   have r116:=r115.keep k6 (D5.far r115 (by decide))
   have r156:=r155.keep k6 (D5.far r155 (by decide))
   have hM6:=rd_far hM hM5 k6 hn
   have hZ6:=rd_far hZ hZ5 k6 hn
   have kk6:Keep [] w w6:=kk5.then k6 (fun x hx=>.inr (hn x hx))
   have hs5:=kk5.size
   have hs6:=kk6.size
   have h11c:x11∉[ch]:=fun hm=>D5.far r115 (by decide) (by rw [List.mem_singleton.1 hm];exact hcho)
   have h15c:x15∉[ch]:=fun hm=>D5.far r155 (by decide) (by rw [List.mem_singleton.1 hm];exact hcho)
   clear D5 r115 r155 hM5 hZ5 kk5 k6 hcall
   rcases hr6 with ⟨f6,⟨Y,n,e,f,rfl,-,-⟩,own6,D6,h6⟩ | ⟨y,hy,hyb,rfl,hoff⟩
   ·have hn6:∀ x,x∈own6→w.heap.size≤x:=fun x hx=>by
     rcases h6 x hx with h | h
     ·exact hn x h
     ·omega
    conv=>whnf
    refine Ru.alloca (alloc_ar w6) ?_
    intro x16 w7 hx16 hs7 r16 k7
    conv=>whnf
    refine Ru.sta r16 size_ar (by omega) (fun j hj=>arF_one _ j) ?_
    intro w8 r168 k8
    have r168:Row w8 x16 28 24 (arF (c2.arr a)):=r168.congr (fun j hj=>by unfold lay;rw [if_pos (by omega),Nat.sub_zero])
    have q8:Keep [] w6 w8:=k7.then k8 (fun x hx=>.inr (by rw [List.mem_singleton.1 hx,hx16];exact Nat.le_refl _))
    have D8:=D6.keep0 q8
    have r118:=r116.keep q8 (by simp)
    have hM8:=hM6.keep0 q8
    have hZ8:=hZ6.keep0 q8
    have kk8:=kk6.trans q8
    clear D6 r116 r156 hM6 hZ6 kk6 k7 k8 r16 hs7 q8 hx16
    conv=>whnf
    repeat ((first
     | refine Br.t ?_|refine Ru.eql_nil0 ?_);conv=>whnf)
    refine Ru.ldaC (q:=arF (c2.arr a)) r168 Tryz.underlying28 rfl size_ar (by omega) (fun j hj=>by rw [Nat.zero_add]) ?_
    conv=>whnf
    refine Ru.sta r118 size_ar (by omega) (fun j hj=>arF_one _ j) ?_
    intro w9 r119 k9
    have r119:Row w9 x11 28 24 (arF (c2.arr a)):=r119.congr (fun j hj=>by unfold lay;rw [if_pos (by omega),Nat.sub_zero])
    conv=>whnf
    repeat ((first
     | refine Ar.la ?_);conv=>whnf)
    have I9:=CE.inv.mono (m':=m0+4 * ((i+1:Nat):Int)) (by omega)
    exact ⟨(i+1,c2.arr a,d,own6,K2,P2,k2,_),⟨hlt,D8.away r118 (by decide) k9,I9,CE.qu,CE.sh,arr_le ha c2,hn6,r119,rd_far hM hM8 k9 (fun x hx=>by rw [List.mem_singleton.1 hx];exact h11w),rd_far hZ hZ8 k9 (fun x hx=>by rw [List.mem_singleton.1 hx];exact h11w),kk8.fresh h11w k9⟩,⟨rfl,rfl,rfl,rfl,rfl,rfl,vi (by simp only;omega),trivial⟩,by simp only;omega⟩
   ·obtain ⟨aa,haa,hT⟩:=CE.dead (List.getElem_mem hy)
    have hCT:=hoff.tl hT
    clear hoff hT hy hyb
    conv=>whnf
    refine Ru.alloca (alloc_ar w6) ?_
    intro x16 w7 hx16 hs7 r16 k7
    conv=>whnf
    refine Ru.sta r16 size_ar (by omega) (fun j hj=>arF_one _ j) ?_
    intro w8 r168 k8
    have r168:Row w8 x16 28 24 (arF (c2.arr a)):=r168.congr (fun j hj=>by unfold lay;rw [if_pos (by omega),Nat.sub_zero])
    have q8:Keep [] w6 w8:=k7.then k8 (fun x hx=>.inr (by rw [List.mem_singleton.1 hx,hx16];exact Nat.le_refl _))
    have hCT8:=hCT.keep q8 (by simp)
    have r118:=r116.keep q8 (by simp)
    have r158:=r156.keep q8 (by simp)
    have hM8:=hM6.keep0 q8
    have hZ8:=hZ6.keep0 q8
    have kk8:=kk6.trans q8
    have h16c:x16∉[ch]:=fun hm=>by
     obtain ⟨C8,P8,H8,-⟩:=hCT8
     exact Row.ne_ H8 r168 (by decide) (List.mem_singleton.1 hm).symm
    clear hCT r116 r156 hM6 hZ6 kk6 k7 k8 r16 hs7 q8 hx16 w7
    conv=>whnf
    repeat ((first
     | refine Br.t ?_|refine Br.f ?_|refine Ru.e1 ?_|refine Ru.e2 ?_);conv=>whnf)
    refine Ca.of (power_tl hCT8) ?_
    rintro _ w9 ⟨rfl,hC9,k9⟩
    have r119:=r118.keep k9 h11c
    have r159:=r158.keep k9 h15c
    have r169:=r168.keep k9 h16c
    have hM9:=rd_far hM hM8 k9 (fun x hx=>by rw [List.mem_singleton.1 hx];exact hchw)
    have hZ9:=rd_far hZ hZ8 k9 (fun x hx=>by rw [List.mem_singleton.1 hx];exact hchw)
    have kk9:=kk8.fresh hchw k9
    clear hCT8 r118 r158 r168 hM8 hZ8 kk8 k9
    conv=>whnf
    refine Ca.of (onchip_tl (by omega) hC9) ?_
    rintro _ w10 ⟨d10,own10,K10,P10,k10',rfl,D10,I10,q10,s10,ho10,k10⟩
    have r1110:=r119.keep k10 h11c
    have r1510:=r159.keep k10 h15c
    have r1610:=r169.keep k10 h16c
    have hM10:=rd_far hM hM9 k10 (fun x hx=>by rw [List.mem_singleton.1 hx];exact hchw)
    have hZ10:=rd_far hZ hZ9 k10 (fun x hx=>by rw [List.mem_singleton.1 hx];exact hchw)
    have kk10:=kk9.fresh hchw k10
    have hs9:=kk9.size
    have ho10':∀ x,x∈own10→w.heap.size≤x:=fun x hx=>by
     rcases ho10 x hx with h | h
     ·omega
     ·omega
    clear hC9 r119 r159 r169 hM9 hZ9 kk9 k10 ho10
    have hof2:=c2.of_lt
    have c1:w10.cell? ⟨x15,1,none⟩=some (.int .i64 c2.a):=r1510.cell 1 (by omega)
    have ecof2:someN c2.a 24=c2.of:=rfl
    conv=>whnf
    repeat ((first
     | refine CW.s ?_);conv=>whnf)
    refine Ru.of (dev_none w10 _ _) ?_
    conv=>whnf
    repeat ((first
     | (refine Ld.at (by omega) c1 ?_)
     | refine Br.f ?_);conv=>whnf)
    refine Ca.of (some_ok c2.a 24 hcw.2.1 (by omega) w10) ?_
    rintro _ _ ⟨rfl,rfl⟩
    rw [ecof2]
    obtain ⟨K11,P11,k11,t11,F,h11',hcall11⟩:=dev_read I10 q10 (by omega) (s:=c2.of) hof2
    obtain ⟨CE11,hF⟩:=h11' _ s10
    conv=>whnf
    refine Ca.of (hcall11 D10) ?_
    rintro u w11 ⟨k11w,hr11⟩
    rcases hr11 with ⟨f11,⟨Y,e,rfl,hY,hYn⟩,own11,D11,hs11⟩ | ⟨y,hy,hyb,-⟩
    case inr=>cases hyb
    have r1111:=r1110.keep k11w (D10.far r1110 (by decide))
    have r1611:=r1610.keep k11w (D10.far r1610 (by decide))
    have hM11:=rd_far hM hM10 k11w ho10'
    have hZ11:=rd_far hZ hZ10 k11w ho10'
    have kk11:Keep [] w w11:=kk10.then k11w (fun x hx=>.inr (ho10' x hx))
    have hs10:=kk10.size
    have hn11:∀ x,x∈own11→w.heap.size≤x:=fun x hx=>by
     rcases hs11 x hx with h | h
     ·exact ho10' x h
     ·omega
    clear D10 r1110 r1610 r1510 hM10 hZ10 kk10 k11w hs11 ho10' c1 h11'
    have hYr:Rd w11 Y 160 (fun j=>.int .u8 ((byF (aa c2.of) j:Nat):Int)):=by
     have h3:=hY.rd
     rw [Nat.mul_one] at h3
     intro hp
     obtain ⟨g1,o1,e1,h4⟩:=h3 hp
     refine ⟨g1,o1,e1,fun j hj=>?_⟩
     rw [h4 j hj]
     show some (Value.int .u8 ((F j:Nat):Int))=_
     rw [hF j hj]
     rfl
    have ca:w11.cell? ⟨x11,c2.of,none⟩=some (.int .i64 (a c2.of:Nat)):=r1111.cell c2.of (by omega)
    have ha1:=ha c2.of
    conv=>whnf
    repeat ((first
     | (refine Ix.of c2.of (by omega) (by omega) ?_)
     | (refine Ld.at (by omega) ca ?_)
     | refine Br.f ?_|refine Ru.neq_nil0 ?_|refine CW.s ?_);conv=>whnf)
    refine Ca.of (tbytes_ok _ (by omega) w11) ?_
    rintro _ w12 ⟨gb,rfl,hgb,rb,k12⟩
    have D12:=D11.keep0 k12
    have r1112:=r1111.keep k12 (by simp)
    have r1612:=r1611.keep k12 (by simp)
    have hM12:=hM11.keep0 k12
    have hZ12:=hZ11.keep0 k12
    have kk12:=kk11.trans k12
    conv=>whnf
    refine Ca.of (same17_ok _ _ 160 160 _ _ (fun j=>((byF (aa c2.of) j:Nat):Int)) (fun j=>((byF (a c2.of) j:Nat):Int)) w12 (hYr.keep0 k12) (Rd.of_row rb (n:=160) (by omega)) (fun j=>by have:=byF_lt (aa c2.of) j;omega) (fun j=>by have:=byF_lt (a c2.of) j;omega)) ?_
    rintro _ _ ⟨rfl,rfl⟩
    have I12:=CE11.inv.mono (m':=m0+4 * ((i+1:Nat):Int)) (by omega)
    by_cases hsb:sameB 160 160 (fun j=>((byF (aa c2.of) j:Nat):Int)) (fun j=>((byF (a c2.of) j:Nat):Int))=true
    ·rw [hsb]
     conv=>whnf
     repeat ((first
      | refine Br.f ?_|refine Ar.la ?_);conv=>whnf)
     refine ⟨(i+1,a,d10,own11,K11,P11,k11,none),⟨hlt,D12,I12,CE11.qu,CE11.sh.eq (fun o j ho hj=>?_),ha,hn11,r1112,hM12,hZ12,kk12⟩,⟨rfl,rfl,rfl,rfl,rfl,rfl,vi (by simp only;omega),trivial⟩,by simp only;omega⟩
     by_cases hoc:o=c2.of
     ·have h9:((byF (aa c2.of) j:Nat):Int)=((byF (a c2.of) j:Nat):Int):=(of_decide_eq_true hsb).2 j hj
      rw [hoc]
      exact Int.ofNat.inj h9
     ·rcases haa with h | h
      ·rw [h]
      ·rw [h,arr_ne c2 a hoc]
    ·have hsb':sameB 160 160 (fun j=>((byF (aa c2.of) j:Nat):Int)) (fun j=>((byF (a c2.of) j:Nat):Int))=false:=by simpa using hsb
     have haa2:aa=c2.arr a:=by
      rcases haa with h | h
      ·rw [h] at hsb
       exact absurd (sameB_yes rfl (fun _ _=>rfl)) hsb
      ·exact h
     rw [hsb']
     conv=>whnf
     repeat ((first
      | refine Br.t ?_);conv=>whnf)
     refine Ru.ldaC (q:=arF (c2.arr a)) r1612 Tryz.underlying28 rfl size_ar (by omega) (fun j hj=>by rw [Nat.zero_add]) ?_
     conv=>whnf
     refine Ru.sta r1112 size_ar (by omega) (fun j hj=>arF_one _ j) ?_
     intro w13 r1113 k13
     have r1113:Row w13 x11 28 24 (arF (c2.arr a)):=r1113.congr (fun j hj=>by unfold lay;rw [if_pos (by omega),Nat.sub_zero])
     conv=>whnf
     repeat ((first
      | refine Ar.la ?_);conv=>whnf)
     exact ⟨(i+1,c2.arr a,d10,own11,K11,P11,k11,none),⟨hlt,D12.away r1112 (by decide) k13,I12,CE11.qu,by rw [← haa2];exact CE11.sh,arr_le ha c2,hn11,r1113,rd_far hM hM12 k13 (fun x hx=>by rw [List.mem_singleton.1 hx];exact h11w),rd_far hZ hZ12 k13 (fun x hx=>by rw [List.mem_singleton.1 hx];exact h11w),kk12.fresh h11w k13⟩,⟨rfl,rfl,rfl,rfl,rfl,rfl,vi (by simp only;omega),trivial⟩,by simp only;omega⟩
 ·obtain rfl:i=M.length:=by omega
  have hT:=D.tl I sh
  conv=>whnf
  repeat ((first
   | refine Br.n ?_|refine CW.s ?_);conv=>whnf)
  refine Ca.of (power_tl hT) ?_
  rintro _ w2 ⟨rfl,hC2,k2⟩
  have hchw:w.heap.size≤ch:=hn ch D.in_own.2
  have r112:=r11.keep k2 (by
   have:=D.far r11 (by decide)
   have h2:=D.in_own.2
   simp only [List.mem_singleton]
   intro e
   rw [e] at this
   exact this h2)
  conv=>whnf
  refine Ca.of (onchip_tl (by omega) hC2) ?_
  rintro _ w3 ⟨d',own',K',P',k',rfl,D3,I3,q3,s3,ho3,k3⟩
  have r113:=r112.keep k3 (by
   have:=D.far r11 (by decide)
   have h2:=D.in_own.2
   simp only [List.mem_singleton]
   intro e
   rw [e] at this
   exact this h2)
  conv=>whnf
  repeat ((first
   | refine CW.s ?_);conv=>whnf)
  refine Ru.of (dev_none w3 _ _) ?_
  conv=>whnf
  repeat ((first
   | refine Br.f ?_);conv=>whnf)
  refine Ru.ldaC (q:=arF a) r113 Tryz.underlying28 rfl size_ar (by omega) (fun j hj=>by rw [Nat.zero_add]) ?_
  conv=>whnf
  refine Ca.of (showing_ok D3 I3 q3 s3 (by omega) ha) ?_
  rintro _ w4 ⟨rfl,_,_,_,_,Q4⟩
  have kk3:Keep [] w w3:=(kk.fresh hchw k2).fresh hchw k3
  have hsz:=kk.size
  have kk4:Keep [] w w4:=kk3.then Q4.kk (fun x hx=>.inr (by
   rcases ho3 x hx with h | h
   ·omega
   ·have:=k2.size
    omega))
  conv=>whnf
  exact ⟨rfl,rfl,kk4⟩
end Go.Proofs.YtaeikigfgfcadaaGreat
namespace Go.Proofs.YtaeikigfgfcadaaGreat.topTrims
open Go.RowKit Go.Joins Go.ChangeAt
theorem and_ {a b:Bool} (h:a=true) (k:b=true):(a && b)=true:=by rw [h,k];rfl
theorem j0:(Rows.topTrimsUptoRow.wf (OpenSpec.ofChange (Rows.OpenSpec.upto Rows.topTrimsSpec).bare):Bool)=true:=by kernel_rfl
theorem j1:(laidOutB Tryz.pinned.checked.prog:Bool)=true:=by kernel_rfl
theorem j2:(mapsRowed Tryz.pinned.checked.prog:Bool)=true:=by kernel_rfl
theorem j3:((Tryz.f3).params.all (Tryz.pinned.checked.prog.readableRec ·):Bool)=true:=by kernel_rfl
theorem j4:(namedTie Tryz.pinned.checked.prog Rows.topTrimsUptoRow.named (Rows.OpenSpec.upto Rows.topTrimsSpec).bare.vars:Bool)=true:=by kernel_rfl
theorem j5:((Rows.topTrimsUptoRow.stops == []):Bool)=true:=by kernel_rfl
theorem j6:((Tryz.pinned.checked.prog.stops == []):Bool)=true:=by kernel_rfl
theorem j7:((Rows.topTrimsUptoRow.knobs == []):Bool)=true:=by kernel_rfl
theorem j8:((Tryz.pinned.checked.prog.stopKnobs == []):Bool)=true:=by kernel_rfl
theorem j9:((Rows.topTrimsUptoRow.inPlace == Tryz.pinned.checked.prog.inPlace 3):Bool)=true:=by kernel_rfl
theorem j10:((Rows.topTrimsUptoRow.unfollowed == Tryz.pinned.checked.prog.unfollowed 3):Bool)=true:=by kernel_rfl
theorem j11:((Rows.topTrimsUptoRow.recurses == Tryz.pinned.checked.prog.recurses 3):Bool)=true:=by kernel_rfl
theorem j12:((Rows.topTrimsUptoRow.named == Tryz.pinned.checked.prog.varsNamed 3):Bool)=true:=by kernel_rfl
theorem j13:((Rows.topTrimsUptoRow.maps == ((Tryz.f3).params.toList ++ (Rows.OpenSpec.upto Rows.topTrimsSpec).bare.plain.varTypes Tryz.pinned.checked.prog).any (Tryz.pinned.checked.prog.mapsRec ·)):Bool)=true:=by kernel_rfl
theorem j14:((Rows.topTrimsUptoRow.ifaces == ((Tryz.f3).params.toList ++ (Rows.OpenSpec.upto Rows.topTrimsSpec).bare.plain.varTypes Tryz.pinned.checked.prog).any (Tryz.pinned.checked.prog.ifacesRec ·)):Bool)=true:=by kernel_rfl
theorem j15:((Rows.topTrimsUptoRow.mapsOut == Tryz.pinned.checked.prog.mapsAmong (Tryz.f3).resultTypes.toList):Bool)=true:=by kernel_rfl
theorem j16:((Rows.topTrimsUptoRow.loops == ((Tryz.f3).params.toList ++ (Rows.OpenSpec.upto Rows.topTrimsSpec).bare.plain.varTypes Tryz.pinned.checked.prog).any (Tryz.pinned.checked.prog.loopsFrom ·)):Bool)=true:=by kernel_rfl
theorem j17:((Rows.topTrimsUptoRow.wideKeys == ((Tryz.f3).params.toList ++ (Rows.OpenSpec.upto Rows.topTrimsSpec).bare.plain.varTypes Tryz.pinned.checked.prog ++ (Tryz.f3).resultTypes.toList).any (Tryz.pinned.checked.prog.wideKeysFrom ·)):Bool)=true:=by kernel_rfl
theorem j18:((Rows.OpenSpec.upto Rows.topTrimsSpec).bare.vars.all (Tryz.pinned.checked.prog.varReadable ·):Bool)=true:=by kernel_rfl
theorem j19:((Tryz.f3).resultTypes.all (fun t=>Tryz.pinned.checked.prog.readableRec t && decide (t<Tryz.pinned.checked.prog.types.size)):Bool)=true:=by kernel_rfl
theorem j20:((Rows.topTrimsUptoRow.ifacesOut == (Tryz.f3).resultTypes.toList.any (Tryz.pinned.checked.prog.ifacesRec ·)):Bool)=true:=by kernel_rfl
theorem j21:((Rows.topTrimsUptoRow.loopsOut == (Tryz.f3).resultTypes.toList.any (Tryz.pinned.checked.prog.loopsFrom ·)):Bool)=true:=by kernel_rfl
theorem j22:((Rows.topTrimsUptoRow.plainKeys == Tryz.pinned.checked.prog.plainKeys):Bool)=true:=by kernel_rfl
theorem j23:(Rows.topTrimsUptoRow.shortTexts.isNone:Bool)=true:=by kernel_rfl
theorem j24:(Tryz.pinned.checked.prog.stopsHeard:Bool)=true:=by kernel_rfl
theorem j25:(Tryz.pinned.checked.prog.mayEnter:Bool)=true:=by kernel_rfl
theorem j26:((Rows.topTrimsUptoRow.lifted == Tryz.pinned.checked.prog.liftsFinal):Bool)=true:=by kernel_rfl
theorem j27:((Tryz.pinned.checked.prog.make == some Rows.topTrimsUptoRow.make):Bool)=true:=by kernel_rfl
theorem j28:((Rows.topTrimsUptoRow.kinds == (if Rows.topTrimsUptoRow.domain.isEmpty then [] else (Tryz.f3).params.toList.map fun t=>match Tryz.pinned.checked.prog.underlying t with | some (.int k)=>some k | _=>none)):Bool)=true:=by kernel_rfl
theorem j29:((Rows.topTrimsUptoRow.pinned == Rows.topTrimsUptoRow.pinnedBy):Bool)=true:=by kernel_rfl
theorem j30:((Rows.topTrimsUptoRow.veiled == ((Tryz.f3).params.toList ++ (Rows.OpenSpec.upto Rows.topTrimsSpec).bare.plain.varTypes Tryz.pinned.checked.prog ++ (Tryz.f3).resultTypes.toList).any (Tryz.pinned.checked.prog.veiledRec ·)):Bool)=true:=by kernel_rfl
theorem j31:(Rows.topTrimsUptoRow.veiledFits Tryz.pinned.checked.prog (Tryz.f3).params.toList ((Tryz.f3).params.toList ++ (Rows.OpenSpec.upto Rows.topTrimsSpec).bare.plain.varTypes Tryz.pinned.checked.prog ++ (Tryz.f3).resultTypes.toList):Bool)=true:=by kernel_rfl
set_option maxRecDepth 20000 in
theorem closed:joinedFacts Tryz.pinned.checked.prog 3 Tryz.f3 (Rows.OpenSpec.upto Rows.topTrimsSpec).bare Rows.topTrimsUptoRow=true:=(and_ (and_ (and_ (and_ (and_ (and_ (and_ (and_ (and_ (and_ (and_ (and_ (and_ (and_ (and_ (and_ (and_ (and_ (and_ (and_ (and_ (and_ (and_ (and_ (and_ (and_ (and_ (and_ (and_ (and_ (and_ j0 j1) j2) j3) j4) j5) j6) j7) j8) j9) j10) j11) j12) j13) j14) j15) j16) j17) j18) j19) j20) j21) j22) j23) j24) j25) j26) j27) j28) j29) j30) j31)
theorem wrap:(Tryz.f3).isWrapper Tryz.pinned.checked.prog Rows.topTrimsUptoRow.wrapper Rows.topTrimsUptoRow.mainSum:=by unfold Func.isWrapper;first | (rw [if_pos (by decide +kernel)];kernel_rfl) | (rw [if_neg (by decide +kernel)];exact ⟨rfl,rfl⟩)
end Go.Proofs.YtaeikigfgfcadaaGreat.topTrims
