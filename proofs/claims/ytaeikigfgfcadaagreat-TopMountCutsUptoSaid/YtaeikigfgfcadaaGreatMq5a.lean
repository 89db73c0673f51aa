/- Texts behind one another: MountCuts, JnTopMountCuts. -/
import Derived.WalkKit
import Derived.ProofKit
import Derived.ChangeOld
import Derived.SizedLaws
import Derived.JoinedCond
import Derived.Lib.SmallJoins
import Derived.Test.YtaeikigfgfcadaaGreatMq0a
import Derived.Test.YtaeikigfgfcadaaGreatMq0b
import Derived.Test.YtaeikigfgfcadaaGreatMq0c
import Derived.Test.YtaeikigfgfcadaaGreatMq0d
import Derived.Test.YtaeikigfgfcadaaGreatMq0e
import Derived.Test.YtaeikigfgfcadaaGreatMq0f
import Derived.Test.YtaeikigfgfcadaaGreatMq1a
set_option linter.unusedVariables false
set_option linter.unusedSimpArgs false
set_option linter.unnecessarySimpa false
namespace Go.Proofs.YtaeikigfgfcadaaGreat
open Go.RowKit
set_option maxRecDepth 20000
theorem power_dv {w:World} {own:List Nat} {d ch:Nat} {K:KS} {P:CS} {b:Option Nat} (D:DvOn w own d ch K P b):Spec Tryz.prog 20 #[.pointer (some ⟨ch,0,none⟩)] w fun v w'=>v = .tuple #[]∧DvOn w' own d ch K P none∧Keep [ch] w w':=by
 obtain ⟨C,H,hA,hl⟩:=D.chip
 refine (power_ok w ch C H).mono ?_
 rintro v w' ⟨rfl,H',k⟩
 obtain ⟨hA',hl'⟩:=abs_power hA
 exact ⟨rfl,D.recut k H' hA' hl',k⟩
theorem Tl.of_are {P:CS} {m:Int} {aa a:Nat→Nat} (h:Tl P m (arB aa)) (e:areB (arB aa) a=true):Tl P m (arB a):=by
 obtain ⟨k,L,h1,h2⟩:=h
 exact ⟨k,L,h1,h2.eq (fun o j ho hj=>areB_iff.1 e o ho j hj)⟩
set_option maxHeartbeats 16000000 in
theorem mountcuts_ok {w:World} {L:List Cl} {A:Option Addr} {cA:Nat} {c:Cl} {st:Int} (hL:Rd w A (L.length * 3) (clF L)) (hLw:∀ c,c∈L→c.wf) (hL1:L.length≤1048576) (hcw:c.wf) (hst : -9223372036854775808≤st∧st≤9223372036854775807) :
  Spec Tryz.prog 6 #[.slice A L.length cA,agg 3 c.cell,.int .i64 st] w fun v w'=>v = .bool true∧Keep [] w w':=by
 refine spec_of_wpE (T:=tt) tt_ok Tryz.func6 rfl (by decide +kernel) Tryz.ntmps6 (by simp) ?_
 conv=>whnf
 refine Ru.boxa ?_
 intro x4 w1 hx4 hs1 r4 k1
 conv=>whnf
 refine Ca.of (begun_ok (hL.keep0 k1) hLw hL1) ?_
 rintro _ w2 ⟨ch,d,own,K,P,k,rfl,Bg⟩
 have ha0:=playA_le (a:=fun _=>0) (fun _=>by omega) L
 obtain ⟨D,I,q,s,nw,kb⟩:=Bg
 generalize playA (fun _=>0) L=a at *
 have hx4w:w.heap.size≤x4:=by omega
 have hx42:x4<w2.heap.size:=by have:=kb.size;omega
 have r42:=r4.keep kb (by simp)
 have kk2:=k1.trans kb
 obtain ⟨K2,P2,k2',t1,t2,rd,CE,An,hcall⟩:=does_call I q (by omega) hcw s
 have ha2:∀ o,c.arr a o≤1000000:=arr_le ha0 c
 have nw2:∀ x,x∈own→w.heap.size≤x:=fun x hx=>by have:=nw x hx;omega
 clear k1 kb hs1 hx4 r4 nw
 conv=>whnf
 refine Ru.alloca (alloc_ar w2) ?_
 intro x9 w3 hx9 hs3 r9 k3
 conv=>whnf
 refine Ru.sta r9 size_ar (by omega) (fun j hj=>arF_one _ j) ?_
 intro w4 r94 k4
 have r94:Row w4 x9 28 24 (arF a):=r94.congr (fun j hj=>by unfold lay;rw [if_pos (by omega),Nat.sub_zero])
 have q4:Keep [] w2 w4:=k3.then k4 (fun x hx=>.inr (by rw [List.mem_singleton.1 hx,hx9];exact Nat.le_refl _))
 have D4:=D.keep0 q4
 have r44:=r42.keep q4 (by simp)
 have kk4:=kk2.trans q4
 have hx9w:w.heap.size≤x9:=by have:=kk2.size;omega
 have h49:x4≠x9:=by omega
 clear D r42 kk2 k3 k4 q4 r9 hs3 hx9
 conv=>whnf
 repeat ((first
  | refine CW.s ?_);conv=>whnf)
 refine Ru.of (chip_eq w4 _ _) ?_
 conv=>whnf
 repeat ((first
  | refine Br.f ?_);conv=>whnf)
 refine Ca.of (some_ok st 100 hst (by omega) w4) ?_
 rintro _ _ ⟨rfl,rfl⟩
 have hs100:=someN_lt st (n:=100) (by omega)
 generalize someN st 100=N at *
 conv=>whnf
 refine Ca.of (cut_dv D4 N (by omega)) ?_
 rintro _ w5 ⟨rfl,D5,k5⟩
 have hch5:w.heap.size≤ch:=nw2 ch D5.in_own.2
 have r95:=r94.keep k5 (by have:=D4.far r94 (by decide);simpa using fun e=>this (by rw [e];exact D4.in_own.2))
 have r45:=r44.keep k5 (by have:=D4.far r44 (by decide);simpa using fun e=>this (by rw [e];exact D4.in_own.2))
 have kk5:Keep [] w w5:=kk4.then k5 (fun x hx=>.inr (by rw [List.mem_singleton.1 hx];exact hch5))
 clear D4 r94 r44 kk4 k5
 conv=>whnf
 refine Ru.ldaC (q:=arF a) r95 Tryz.underlying28 rfl size_ar (by omega) (fun j hj=>by rw [Nat.zero_add]) ?_
 conv=>whnf
 refine Ru.ldaC (q:=c.cell) r45 Tryz.underlying36 rfl size_cl (by omega) (fun j hj=>by rw [Nat.zero_add]) ?_
 conv=>whnf
 refine Ca.of (hcall D5) ?_
 rintro u w6 ⟨k6,hr6⟩
 have r96:=r95.keep k6 (D5.far r95 (by decide))
 have kk6:Keep [] w w6:=kk5.then k6 (fun x hx=>.inr (nw2 x hx))
 clear D5 r95 r45 kk5 k6
 rcases hr6 with ⟨f6,⟨Y,n6,e6,g6,rfl,-,-⟩,own6,D6,h6⟩ | ⟨y,hy,hyb,rfl,hoff⟩
 case' inl =>
  have hT:∃ aa,ChTl w6 ch (2+2 * (L.length:Int)+2) (arB aa)∧(areB (arB aa) a || areB (arB aa) (c.arr a))=true:=⟨c.arr a,D6.tl CE.inv CE.sh,by rw [areB_self,Bool.or_true]⟩
  clear D6 h6
 case' inr =>
  obtain ⟨aa,haa,hTl⟩:=CE.dead (List.getElem_mem hy)
  have hT:∃ aa,ChTl w6 ch (2+2 * (L.length:Int)+2) (arB aa)∧(areB (arB aa) a || areB (arB aa) (c.arr a))=true:=⟨aa,hoff.tl hTl,by rcases haa with rfl | rfl<;>rw [areB_self]<;>simp⟩
  clear hoff hTl haa aa hyb
 all_goals
  obtain ⟨aa,hT,hor⟩:=hT
  conv=>whnf
  refine Ru.alloca (alloc_ar w6) ?_
  intro x10 w7 hx10 hs7 r10 k7
  conv=>whnf
  refine Ru.sta r10 size_ar (by omega) (fun j hj=>arF_one _ j) ?_
  intro w8 r108 k8
  have r108:Row w8 x10 28 24 (arF (c.arr a)):=r108.congr (fun j hj=>by unfold lay;rw [if_pos (by omega),Nat.sub_zero])
  have q8:Keep [] w6 w8:=k7.then k8 (fun x hx=>.inr (by rw [List.mem_singleton.1 hx,hx10];exact Nat.le_refl _))
  have r98:=r96.keep q8 (by simp)
  have h910:x9≠x10:=by have:=r96.lt;omega
  have hx10w:w.heap.size≤x10:=by have:=kk6.size;omega
  have hT8:=hT.keep q8 (by simp)
  have hch8:ch≠x9∧ch≠x10:=by
   obtain ⟨C8,P8,H8,-⟩:=hT8
   exact ⟨Row.ne_ H8 r98 (by decide),Row.ne_ H8 r108 (by decide)⟩
  have kk8:=kk6.trans q8
  clear hT k7 k8 r10 hs7 hx10 q8 r96 kk6
  conv=>whnf
  repeat ((first
   | refine Br.t ?_|refine Br.f ?_|refine Pk.f ?_|refine Pk.t ?_|refine Ru.neq_nil0 ?_|refine Ru.n1 ?_|refine Ru.n2 ?_|refine CW.s ?_);conv=>whnf)
  refine Ca.of (power_tl hT8) ?_
  rintro _ w9 ⟨rfl,⟨C,P,H9,hA,hl,hTl⟩,k9⟩
  have r99:=r98.keep k9 (by simpa using hch8.1.symm)
  have r109:=r108.keep k9 (by simpa using hch8.2.symm)
  have kk9:Keep [] w w9:=kk8.then k9 (fun x hx=>.inr (by rw [List.mem_singleton.1 hx];exact hch5))
  clear hT8 r98 r108 kk8 k9
  conv=>whnf
  refine Ca.of (nclone_ok H9) ?_
  rintro _ wa ⟨rfl,Ha,ka⟩
  have H9a:=H9.keep ka (by simp)
  have r9a:=r99.keep ka (by simp)
  have r10a:=r109.keep ka (by simp)
  have kka:=kk9.trans ka
  have hs9:=kk9.size
  have hx9l:=r99.lt
  have hx10l:=r109.lt
  have hchl:=Row.lt H9
  clear H9 r99 r109 ka kk9
  generalize w9.heap.size=xw at *
  conv=>whnf
  repeat ((first
   | refine CW.s ?_);conv=>whnf)
  refine Ru.of (chip_eq wa _ _) ?_
  conv=>whnf
  repeat ((first
   | refine Br.f ?_);conv=>whnf)
  refine Ca.of (seen_all (by omega) ⟨C,P,Ha,hA,hl,hTl⟩) ?_
  rintro _ wb ⟨Z,cz,rfl,Sl,kb⟩
  have H9b:=H9a.keep kb (by simpa using (by omega:ch≠xw))
  have r9b:=r9a.keep kb (by simpa using (by omega:x9≠xw))
  have r10b:=r10a.keep kb (by simpa using (by omega:x10≠xw))
  have kkb:Keep [] w wb:=kka.then kb (fun x hx=>.inr (by rw [List.mem_singleton.1 hx];exact hs9))
  clear H9a r9a r10a kka kb Ha
  conv=>whnf
  refine Ru.ldaC (q:=arF a) r9b Tryz.underlying28 rfl size_ar (by omega) (fun j hj=>by rw [Nat.zero_add]) ?_
  conv=>whnf
  refine Ca.of (are_ok Sl (arB_lt _) ha0) ?_
  rintro _ wc ⟨rfl,kc⟩
  have H9c:=H9b.keep kc (by simp)
  have r9c:=r9b.keep kc (by simp)
  have r10c:=r10b.keep kc (by simp)
  have kkc:=kkb.trans kc
  have Slc:=Sl.keep kc (fun _ h=>nomatch h)
  clear H9b r9b r10b kkb kc Sl
  conv=>whnf
  refine Ru.ldaC (q:=arF (c.arr a)) r10c Tryz.underlying28 rfl size_ar (by omega) (fun j hj=>by rw [Nat.zero_add]) ?_
  conv=>whnf
  refine Ca.of (are_ok Slc (arB_lt _) ha2) ?_
  rintro _ wd ⟨rfl,kd⟩
  have H9d:=H9c.keep kd (by simp)
  have r9d:=r9c.keep kd (by simp)
  have r10d:=r10c.keep kd (by simp)
  have kkd:=kkc.trans kd
  clear H9c r9c r10c kkc kd Slc
  have hbb:∀ bf,areB (arB aa) a=bf→∃ bb,Tl P (2+2 * (L.length:Int)+2) (arB bb)∧(∀ o,bb o≤1000000)∧bb=(if bf then a else c.arr a):=fun bf e=>by
   cases bf
   case true=>exact ⟨a,hTl.of_are e,ha0,rfl⟩
   case false=>exact ⟨c.arr a,hTl.of_are (by rw [e] at hor;simpa using hor),ha2,rfl⟩
  obtain ⟨bb,hTb,hb1,hbe⟩:=hbb _ rfl
  generalize areB (arB aa) a=bf at *
  generalize areB (arB aa) (c.arr a)=af at *
  cases bf
  case' false =>
   obtain rfl:af=true:=by simpa using hor
   have r10e:Row wd x10 28 24 (arF bb):=by rw [hbe];exact r10d
   have He:=H9d
   have kke:=kkd
   clear r9d r10d H9d kkd
   generalize wd=we at *
  case' true =>
   cases af
   all_goals
    conv=>whnf
    repeat ((first
     | refine Br.t ?_|refine Br.f ?_|refine Pk.f ?_|refine CW.s ?_);conv=>whnf)
    refine Ru.ldaC (q:=arF a) r9d Tryz.underlying28 rfl size_ar (by omega) (fun j hj=>by rw [Nat.zero_add]) ?_
    conv=>whnf
    refine Ru.sta r10d size_ar (by omega) (fun j hj=>arF_one _ j) ?_
    intro we r10e ke
    have r10e:Row we x10 28 24 (arF bb):=r10e.congr (fun j hj=>by unfold lay;rw [if_pos (by omega),Nat.sub_zero,hbe];rfl)
    have He:=H9d.keep ke (by simpa using hch8.2)
    have kke:Keep [] w we:=kkd.then ke (fun x hx=>.inr (by rw [List.mem_singleton.1 hx];exact hx10w))
    clear r9d r10d H9d kkd ke
  all_goals
   have hs10:=r10e.lt
   have hsC:=Row.lt He
   obtain ⟨B,hB⟩:∃ B,B=we.heap.size:=⟨_,rfl⟩
   rw [← hB] at hs10 hsC
   have hwB:w.heap.size≤B:=by rw [hB];exact kke.size
   obtain ⟨kB,LB,hO,hS⟩:=hTb
   obtain ⟨Km,Pm,tm,Mm,Im,qm,hsm⟩:=mount_end hO (by omega)
   obtain ⟨hsm1,hsm2⟩:=hsm _ hS
   have hcal:=hO.gd.calm
   conv=>whnf
   repeat ((first
    | refine Br.t ?_|refine Br.f ?_|refine Pk.t ?_|refine CW.s ?_);conv=>whnf)
   refine CW.loop (ι:=Nat) (fun i w'=>i≤400∧ChipAt w' ch C∧Row w' x10 28 24 (arF bb)∧Keep [] w w'∧B≤w'.heap.size)
    (fun i=>[(7,.pointer (some ⟨ch,0,none⟩)),(10,.pointer (some ⟨x10,0,none⟩)),(17,.int .i64 i)]) (fun i=>400 - i) 0 tt_ok
    ⟨by omega,He,r10e,kke,by rw [hB];exact Nat.le_refl _⟩ ⟨rfl,rfl,rfl,trivial⟩ ?_
   clear He r10e kke hB
   rintro n wr ⟨hn,Hr,r10,kk,hsz⟩
   rcases Nat.lt_or_ge n 400 with hlt | hge
   ·conv=>whnf
    repeat ((first
     | refine Br.y ?_|refine CW.s ?_);conv=>whnf)
    refine Ca.of (nclone_ok Hr) ?_
    rintro _ wf ⟨rfl,Hx,kf⟩
    have Hcf:=Hr.keep kf (by simp)
    have r10f:=r10.keep kf (by simp)
    have kkf:=kk.trans kf
    have hxl:=Row.lt Hx
    obtain ⟨x,hx⟩:∃ x,x=wr.heap.size:=⟨_,rfl⟩
    rw [← hx] at Hx hxl ⊢
    have hxB:B≤x:=by omega
    clear Hr r10 kk kf hx hsz
    conv=>whnf
    refine Ca.of (dnew_ok x wf) ?_
    rintro _ wg ⟨dv,rfl,hdv,rdv,kg⟩
    have Hcg:=Hcf.keep kg (by simp)
    have r10g:=r10f.keep kg (by simp)
    have Hxg:=Hx.keep kg (by simp)
    have kkg:=kkf.trans kg
    have hdx:x<dv:=by omega
    clear Hcf r10f Hx kkf kg hdv hxl
    conv=>whnf
    repeat ((first
     | (refine Ru.of (chip_eq _ _ _) ?_)
     | (refine Ru.of (dev_none _ _ _) ?_)
     | refine Br.f ?_|refine Pk.f ?_|refine Ru.neq_nil0 ?_|refine CW.s ?_);conv=>whnf)
    refine Ca.of (cut_ok wg x n C Hxg (by omega)) ?_
    rintro _ wh ⟨rfl,Hxh,kh⟩
    obtain ⟨hA1,hl1⟩:=abs_cut hA hl (n:=n) (by omega)
    have Hch:=Hcg.keep kh (by simpa using (by omega:ch≠x))
    have r10h:=r10g.keep kh (by simpa using (by omega:x10≠x))
    have rdh:DvRow wh dv x none:=Row.keep rdv kh (by simpa using (by omega:dv≠x))
    have kkh:Keep [] w wh:=kkg.then kh (fun y hy=>.inr (by rw [List.mem_singleton.1 hy];omega))
    clear Hcg r10g Hxg rdv kkg kh
    conv=>whnf
    refine Ca.of (dmount_ok rdh Hxh hA1 hl1 hcal Mm qm) ?_
    rintro _ wi ⟨ki,hri⟩
    have Hci:=Hch.keep ki (by simp;omega)
    have r10i:=r10h.keep ki (by simp;omega)
    have hsh:=kkh.size
    have kki:Keep [] w wi:=kkh.then ki (fun y hy=>.inr (by
     simp only [List.mem_cons,List.not_mem_nil,or_false] at hy
     omega))
    have hszi:B≤wi.heap.size:=by have:=ki.size;have:=Row.lt rdh;omega
    have hszh:B≤wh.heap.size:=by have:=Row.lt rdh;omega
    clear Hch r10h rdh Hxh hA1 hl1 kkh ki
    rcases hri with ⟨f9,rfl,own9,D9,ho9⟩ | ⟨y,hy,hyb,rfl,hoff⟩
    ·conv=>whnf
     refine Ca.of (power_dv D9) ?_
     rintro _ wj ⟨rfl,D10,kj⟩
     have r10j:=r10i.keep kj (by simpa using (by omega:x10≠x))
     have kkj:Keep [] w wj:=kki.then kj (fun y hy=>.inr (by rw [List.mem_singleton.1 hy];omega))
     conv=>whnf
     repeat ((first
      | refine Br.t ?_|refine Ru.eql_nil0 ?_|refine CW.s ?_);conv=>whnf)
     refine Ru.ldaC (q:=arF bb) r10j Tryz.underlying28 rfl size_ar (by omega) (fun j hj=>by rw [Nat.zero_add]) ?_
     conv=>whnf
     refine Ca.of (showing_ok D10 Im qm hsm2 (by omega) hb1) ?_
     rintro _ wl ⟨rfl,K9,P9,k9,own8,PI⟩
     conv=>whnf
     exact ⟨rfl,rfl,kkj.then PI.kk (fun y hy=>.inr (by have:=ho9 y hy;omega))⟩
    ·obtain rfl:n=y:=by cases hyb;rfl
     have hTl1:=(hsm1 _ (List.getElem_mem hy)).tl (Int.le_refl _)
     have hT1:=hoff.tl hTl1
     clear hoff hTl1 hyb
     conv=>whnf
     refine Ca.of (power_tl hT1) ?_
     rintro _ wj ⟨rfl,hCj,kj⟩
     have Hcj:=Hci.keep kj (by simpa using (by omega:ch≠x))
     have r10j:=r10i.keep kj (by simpa using (by omega:x10≠x))
     have kkj:Keep [] w wj:=kki.then kj (fun y hy=>.inr (by rw [List.mem_singleton.1 hy];omega))
     have hszj:B≤wj.heap.size:=by have:=kj.size;omega
     clear Hci r10i kki kj hT1 hszi hszh
     conv=>whnf
     repeat ((first
      | refine Br.f ?_|refine Ru.e1 ?_|refine CW.s ?_);conv=>whnf)
     refine CW.held (fun w'=>Row w' x10 28 24 (arF bb)) [] (.take 0 (.take 2 (.one 1 (.one 3 (.take 4 (.done)))))) tt_ok (by kernel_rfl) (by kernel_rfl) (by kernel_rfl) ?_ ?_
     ·exact Row.drewN r10j 1
     have q1:=(Keep.refl [] wj).drewN 1
     have Hck:=Hcj.keep q1 (by simp)
     have r10k:=r10j.keep q1 (by simp)
     have kkk:=kkj.trans q1
     have hszk:B≤(wj.drewN 1).heap.size:=by have:=q1.size;omega
     have hCk:∃ C P,ChipAt (wj.drewN 1) x C∧Abs C P∧C.left none∧Tl P (2+2 * (L.length:Int)+2) (arB bb):=by
      obtain ⟨C1,P1,h1,h2⟩:=hCj
      exact ⟨C1,P1,h1.keep q1 (by simp),h2⟩
     clear Hcj r10j kkj q1 hCj hszj
     generalize wj.drewN 1=wk at *
     conv=>whnf
     repeat ((first
      | (refine RuQ.of (fun w hS=>run_ldaC (q:=arF bb) hS Tryz.underlying28 rfl size_ar (by omega) (fun j hj=>by rw [Nat.zero_add])) ?_));conv=>whnf)
     refine Ca.of (seen_all (by omega) hCk) ?_
     rintro _ wl ⟨Z2,cz2,rfl,Sl2,kl⟩
     have Hcl:=Hck.keep kl (by simpa using (by omega:ch≠x))
     have r10l:=r10k.keep kl (by simpa using (by omega:x10≠x))
     have kkl:Keep [] w wl:=kkk.then kl (fun y hy=>.inr (by rw [List.mem_singleton.1 hy];omega))
     have hszl:B≤wl.heap.size:=by have:=kl.size;omega
     clear Hck r10k kkk kl hCk hszk
     conv=>whnf
     refine ⟨r10l,?_⟩
     conv=>whnf
     refine Ca.of (are_ok Sl2 (arB_lt _) hb1) ?_
     rintro _ wm ⟨rfl,km⟩
     rw [areB_self]
     have Hcm:=Hcl.keep km (by simp)
     have r10m:=r10l.keep km (by simp)
     have kkm:=kkl.trans km
     have hszm:B≤wm.heap.size:=by have:=km.size;omega
     clear Hcl r10l kkl km Sl2 hszl
     conv=>whnf
     refine ⟨r10m,?_⟩
     conv=>whnf
     repeat ((first
      | refine Br.f ?_|refine Pk.f ?_|refine Ar.la ?_|refine Ru.n2 ?_);conv=>whnf)
     exact ⟨n+1,⟨hlt,Hcm,r10m,kkm,hszm⟩,⟨rfl,rfl,vi (by first | omega | (simp only;omega)),trivial⟩,by simp only;omega⟩
   ·conv=>whnf
    repeat ((first
     | refine Br.n ?_|refine CW.s ?_);conv=>whnf)
    exact ⟨rfl,rfl,kk⟩
end Go.Proofs.YtaeikigfgfcadaaGreat
namespace Go.Proofs.YtaeikigfgfcadaaGreat.topMountCuts
open Go.RowKit Go.Joins Go.ChangeAt
theorem and_ {a b:Bool} (h:a=true) (k:b=true):(a && b)=true:=by rw [h,k];rfl
theorem j0:(Rows.topMountCutsUptoRow.wf (OpenSpec.ofChange (Rows.OpenSpec.upto Rows.topMountCutsSpec).bare):Bool)=true:=by kernel_rfl
theorem j1:(laidOutB Tryz.pinned.checked.prog:Bool)=true:=by kernel_rfl
theorem j2:(mapsRowed Tryz.pinned.checked.prog:Bool)=true:=by kernel_rfl
theorem j3:((Tryz.f6).params.all (Tryz.pinned.checked.prog.readableRec ·):Bool)=true:=by kernel_rfl
theorem j4:(namedTie Tryz.pinned.checked.prog Rows.topMountCutsUptoRow.named (Rows.OpenSpec.upto Rows.topMountCutsSpec).bare.vars:Bool)=true:=by kernel_rfl
theorem j5:((Rows.topMountCutsUptoRow.stops == []):Bool)=true:=by kernel_rfl
theorem j6:((Tryz.pinned.checked.prog.stops == []):Bool)=true:=by kernel_rfl
theorem j7:((Rows.topMountCutsUptoRow.knobs == []):Bool)=true:=by kernel_rfl
theorem j8:((Tryz.pinned.checked.prog.stopKnobs == []):Bool)=true:=by kernel_rfl
theorem j9:((Rows.topMountCutsUptoRow.inPlace == Tryz.pinned.checked.prog.inPlace 6):Bool)=true:=by kernel_rfl
theorem j10:((Rows.topMountCutsUptoRow.unfollowed == Tryz.pinned.checked.prog.unfollowed 6):Bool)=true:=by kernel_rfl
theorem j11:((Rows.topMountCutsUptoRow.recurses == Tryz.pinned.checked.prog.recurses 6):Bool)=true:=by kernel_rfl
theorem j12:((Rows.topMountCutsUptoRow.named == Tryz.pinned.checked.prog.varsNamed 6):Bool)=true:=by kernel_rfl
theorem j13:((Rows.topMountCutsUptoRow.maps == ((Tryz.f6).params.toList ++ (Rows.OpenSpec.upto Rows.topMountCutsSpec).bare.plain.varTypes Tryz.pinned.checked.prog).any (Tryz.pinned.checked.prog.mapsRec ·)):Bool)=true:=by kernel_rfl
theorem j14:((Rows.topMountCutsUptoRow.ifaces == ((Tryz.f6).params.toList ++ (Rows.OpenSpec.upto Rows.topMountCutsSpec).bare.plain.varTypes Tryz.pinned.checked.prog).any (Tryz.pinned.checked.prog.ifacesRec ·)):Bool)=true:=by kernel_rfl
theorem j15:((Rows.topMountCutsUptoRow.mapsOut == Tryz.pinned.checked.prog.mapsAmong (Tryz.f6).resultTypes.toList):Bool)=true:=by kernel_rfl
theorem j16:((Rows.topMountCutsUptoRow.loops == ((Tryz.f6).params.toList ++ (Rows.OpenSpec.upto Rows.topMountCutsSpec).bare.plain.varTypes Tryz.pinned.checked.prog).any (Tryz.pinned.checked.prog.loopsFrom ·)):Bool)=true:=by kernel_rfl
theorem j17:((Rows.topMountCutsUptoRow.wideKeys == ((Tryz.f6).params.toList ++ (Rows.OpenSpec.upto Rows.topMountCutsSpec).bare.plain.varTypes Tryz.pinned.checked.prog ++ (Tryz.f6).resultTypes.toList).any (Tryz.pinned.checked.prog.wideKeysFrom ·)):Bool)=true:=by kernel_rfl
theorem j18:((Rows.OpenSpec.upto Rows.topMountCutsSpec).bare.vars.all (Tryz.pinned.checked.prog.varReadable ·):Bool)=true:=by kernel_rfl
theorem j19:((Tryz.f6).resultTypes.all (fun t=>Tryz.pinned.checked.prog.readableRec t && decide (t<Tryz.pinned.checked.prog.types.size)):Bool)=true:=by kernel_rfl
theorem j20:((Rows.topMountCutsUptoRow.ifacesOut == (Tryz.f6).resultTypes.toList.any (Tryz.pinned.checked.prog.ifacesRec ·)):Bool)=true:=by kernel_rfl
theorem j21:((Rows.topMountCutsUptoRow.loopsOut == (Tryz.f6).resultTypes.toList.any (Tryz.pinned.checked.prog.loopsFrom ·)):Bool)=true:=by kernel_rfl
theorem j22:((Rows.topMountCutsUptoRow.plainKeys == Tryz.pinned.checked.prog.plainKeys):Bool)=true:=by kernel_rfl
theorem j23:(Rows.topMountCutsUptoRow.shortTexts.isNone:Bool)=true:=by kernel_rfl
theorem j24:(Tryz.pinned.checked.prog.stopsHeard:Bool)=true:=by kernel_rfl
theorem j25:(Tryz.pinned.checked.prog.mayEnter:Bool)=true:=by kernel_rfl
theorem j26:((Rows.topMountCutsUptoRow.lifted == Tryz.pinned.checked.prog.liftsFinal):Bool)=true:=by kernel_rfl
theorem j27:((Tryz.pinned.checked.prog.make == some Rows.topMountCutsUptoRow.make):Bool)=true:=by kernel_rfl
theorem j28:((Rows.topMountCutsUptoRow.kinds == (if Rows.topMountCutsUptoRow.domain.isEmpty then [] else (Tryz.f6).params.toList.map fun t=>match Tryz.pinned.checked.prog.underlying t with | some (.int k)=>some k | _=>none)):Bool)=true:=by kernel_rfl
theorem j29:((Rows.topMountCutsUptoRow.pinned == Rows.topMountCutsUptoRow.pinnedBy):Bool)=true:=by kernel_rfl
theorem j30:((Rows.topMountCutsUptoRow.veiled == ((Tryz.f6).params.toList ++ (Rows.OpenSpec.upto Rows.topMountCutsSpec).bare.plain.varTypes Tryz.pinned.checked.prog ++ (Tryz.f6).resultTypes.toList).any (Tryz.pinned.checked.prog.veiledRec ·)):Bool)=true:=by kernel_rfl
theorem j31:(Rows.topMountCutsUptoRow.veiledFits Tryz.pinned.checked.prog (Tryz.f6).params.toList ((Tryz.f6).params.toList ++ (Rows.OpenSpec.upto Rows.topMountCutsSpec).bare.plain.varTypes Tryz.pinned.checked.prog ++ (Tryz.f6).resultTypes.toList):Bool)=true:=by kernel_rfl
set_option maxRecDepth 20000 in
theorem closed:joinedFacts Tryz.pinned.checked.prog 6 Tryz.f6 (Rows.OpenSpec.upto Rows.topMountCutsSpec).bare Rows.topMountCutsUptoRow=true:=(and_ (and_ (and_ (and_ (and_ (and_ (and_ (and_ (and_ (and_ (and_ (and_ (and_ (and_ (and_ (and_ (and_ (and_ (and_ (and_ (and_ (and_ (and_ (and_ (and_ (and_ (and_ (and_ (and_ (and_ (and_ j0 j1) j2) j3) j4) j5) j6) j7) j8) j9) j10) j11) j12) j13) j14) j15) j16) j17) j18) j19) j20) j21) j22) j23) j24) j25) j26) j27) j28) j29) j30) j31)
theorem wrap:(Tryz.f6).isWrapper Tryz.pinned.checked.prog Rows.topMountCutsUptoRow.wrapper Rows.topMountCutsUptoRow.mainSum:=by unfold Func.isWrapper;first | (rw [if_pos (by decide +kernel)];kernel_rfl) | (rw [if_neg (by decide +kernel)];exact ⟨rfl,rfl⟩)
end Go.Proofs.YtaeikigfgfcadaaGreat.topMountCuts
