/- Texts behind one another: EveryCut, JnTopEveryCut. -/
import Derived.WalkKit
import Derived.ProofKit
import Derived.ChangeOld
import Derived.SizedLaws
import Derived.JoinedCond
import Derived.Lib.SmallJoins
import Derived.Test.YtaeikigfgfcadaaGreatMq0a
import Derived.Test.YtaeikigfgfcadaaGreatMq0b
import Derived.Test.YtaeikigfgfcadaaGreatMq0c
import Derived.Test.YtaeikigfgfcadaaGreatMq0d
import Derived.Test.YtaeikigfgfcadaaGreatMq0e
import Derived.Test.YtaeikigfgfcadaaGreatMq0f
import Derived.Test.YtaeikigfgfcadaaGreatMq1a
set_option linter.unusedVariables false
set_option linter.unusedSimpArgs false
set_option linter.unnecessarySimpa false
namespace Go.Proofs.YtaeikigfgfcadaaGreat
open Go.RowKit
set_option maxRecDepth 20000
def sameAr (a b:Nat→Nat):Prop:=∀ o j,o<24→j<160→byF (a o) j=byF (b o) j
theorem sameAr_of {a b:Nat→Nat} (h:areB (arB a) b=true):sameAr a b:=fun o j ho hj=>areB_iff.1 h o ho j hj
theorem sameAr.are {a b:Nat→Nat} (h:sameAr a b):areB (arB a) b=true:=areB_iff.2 fun o ho j hj=>h o j ho hj
set_option maxHeartbeats 16000000 in
theorem everycut_ok {w:World} {L:List Cl} {A:Option Addr} {cA:Nat} {c:Cl} (hL:Rd w A (L.length * 3) (clF L)) (hLw:∀ c,c∈L→c.wf) (hL1:L.length≤1048576) (hcw:c.wf) :
  Spec Tryz.prog 5 #[.slice A L.length cA,agg 3 c.cell] w fun v w'=>v = .bool true∧Keep [] w w':=by
 refine spec_of_wpE (T:=tt) tt_ok Tryz.func5 rfl (by decide +kernel) Tryz.ntmps5 (by simp) ?_
 conv=>whnf
 refine Ru.boxa ?_
 intro x3 w1 hx3 hs1 r3 k1
 conv=>whnf
 refine Ca.of (begun_ok (hL.keep0 k1) hLw hL1) ?_
 rintro _ w2 ⟨ch,d,own,K,P,k,rfl,Bg⟩
 have ha0:=playA_le (a:=fun _=>0) (fun _=>by omega) L
 obtain ⟨D,I,q,s,nw,kb⟩:=Bg
 generalize playA (fun _=>0) L=a at *
 have hx3w:w.heap.size≤x3:=by omega
 have hx32:x3<w2.heap.size:=by have:=kb.size;omega
 have r32:=r3.keep kb (by simp)
 have kk2:=k1.trans kb
 obtain ⟨C,H,hA,hl⟩:=D.chip
 have hcal:=I.l.ok.gd.calm
 obtain ⟨K1,P1,tr1,M,I1,q1,hs1'⟩:=mount_end I.l.ok (by omega)
 have sh1:=(hs1' _ s).2
 obtain ⟨K2,P2,k2',t1,t2,rd,CE,An,hcall⟩:=does_call I1 q1 (by omega) hcw sh1
 have ha2:∀ o,c.arr a o≤1000000:=arr_le ha0 c
 have hchl:ch<w2.heap.size:=Row.lt H
 clear hs1' sh1 q s nw D
 conv=>whnf
 refine Ru.alloca (alloc_ar w2) ?_
 intro x7 w3 hx7 hs3 r7 k3
 conv=>whnf
 refine Ru.sta r7 size_ar (by omega) (fun j hj=>arF_one _ j) ?_
 intro w4 r74 k4
 have r74:Row w4 x7 28 24 (arF a):=r74.congr (fun j hj=>by unfold lay;rw [if_pos (by omega),Nat.sub_zero])
 have q4:Keep [] w2 w4:=k3.then k4 (fun x hx=>.inr (by rw [List.mem_singleton.1 hx,hx7];exact Nat.le_refl _))
 have hs4:w2.heap.size+1≤w4.heap.size:=by have:=k4.size;omega
 have LI:LpI w w4 ch C x3 c x7 a (w2.heap.size+1):=⟨H.keep q4 (by simp),r32.keep q4 (by simp),r74,kk2.trans q4,by omega,by omega,by omega,by have:=kk2.size;omega,hs4⟩
 have hB2:w.heap.size≤w2.heap.size+1:=LI.hB
 generalize w2.heap.size+1=B at *
 clear r3 r32 r7 r74 k3 k4 q4 H k1 kb hs1 hs3 hs4 kk2 hx3 hx7 hx3w hx32 hchl
 conv=>whnf
 repeat ((first
  | refine CW.s ?_);conv=>whnf)
 refine Ru.of (chip_eq w4 _ _) ?_
 have e0:t1.length+t2.length=(t1 ++ t2).length:=(List.length_append ..).symm
 conv=>whnf
 repeat ((first
  | refine Br.f ?_|refine CW.s ?_);conv=>whnf)
 refine CW.loop (ι:=Nat × Bool) (fun i w'=>i.1≤400∧LpI w w' ch C x3 c x7 a B∧(i.2=true→t1.length≤i.1∨sameAr a (c.arr a)))
  (fun i=>[(3,.pointer (some ⟨x3,0,none⟩)),(5,.pointer (some ⟨ch,0,none⟩)),(7,.pointer (some ⟨x7,0,none⟩)),(8,.bool i.2),(9,.int .i64 i.1)]) (fun i=>400 - i.1) (0,false) tt_ok
  ⟨by omega,LI,fun h=>by cases h⟩ ⟨rfl,rfl,rfl,rfl,rfl,trivial⟩ ?_
 clear LI
 rintro ⟨n,dn⟩ wr ⟨hn,J,hd⟩
 simp only at hn J hd ⊢
 rcases Nat.lt_or_ge n 400 with hlt | hge
 ·have hwrB:=J.sz
  conv=>whnf
  repeat ((first
   | refine Br.y ?_|refine CW.s ?_);conv=>whnf)
  refine Ca.of (nclone_ok J.chip) ?_
  rintro _ w5 ⟨rfl,Hx,k5⟩
  have J5:=J.keep0 k5
  obtain ⟨x,hx⟩:∃ x,x=wr.heap.size:=⟨_,rfl⟩
  rw [← hx] at Hx ⊢
  have hxB:B≤x:=by omega
  clear J
  conv=>whnf
  repeat ((first
   | refine CW.s ?_);conv=>whnf)
  refine Ru.of (chip_eq w5 _ _) ?_
  conv=>whnf
  repeat ((first
   | refine Br.f ?_);conv=>whnf)
  refine Ca.of (onchip_ok Hx hA hl hcal M q1) ?_
  rintro _ w6 ⟨k6,hr6⟩
  rcases hr6 with ⟨f6,d6,own6,rfl,D6,ho6⟩ | ⟨y,hy,hyb,-⟩
  case inr=>cases hyb
  have J6:=J5.new k6 hxB
  have ho6':∀ y,y∈own6→B≤y:=fun y hy=>by
   have:=J5.sz
   rcases ho6 y hy with h | h<;>omega
  clear Hx J5 f6 ho6
  conv=>whnf
  repeat ((first
   | refine CW.s ?_);conv=>whnf)
  refine Ru.of (dev_none w6 _ _) ?_
  conv=>whnf
  repeat ((first
   | refine Br.f ?_);conv=>whnf)
  refine Ca.of (cut_dv D6 n (by omega)) ?_
  rintro _ w7 ⟨rfl,D7,k7⟩
  have J7:=J6.new k7 hxB
  clear D6 J6 k7 k6
  conv=>whnf
  refine Ru.ldaC (q:=arF a) J7.r7 Tryz.underlying28 rfl size_ar (by omega) (fun j hj=>by rw [Nat.zero_add]) ?_
  conv=>whnf
  refine Ru.ldaC (q:=c.cell) J7.r3 Tryz.underlying36 rfl size_cl (by omega) (fun j hj=>by rw [Nat.zero_add]) ?_
  conv=>whnf
  refine Ca.of (hcall D7) ?_
  rintro u w8 ⟨k8,hr8⟩
  have J8:=J7.far k8 ho6'
  clear D7 J7 k8
  rcases hr8 with ⟨f8,⟨Y,n8,e8,f9,rfl,-,-⟩,own8,D8,h8⟩ | ⟨y,hy,hyb,rfl,hoff⟩
  case' inl =>
   have hT:=D8.tl CE.inv CE.sh
   have hfit:=f8 n rfl
   obtain ⟨aa,haa⟩:∃ aa,aa=c.arr a:=⟨_,rfl⟩
   rw [← haa] at hT
   have hkey:areB (arB aa) (c.arr a)=true:=by rw [haa];exact areB_self _
   clear D8 h8 f8
  case' inr =>
   obtain rfl:n=y:=by cases hyb;rfl
   have hkey:∃ aa,Tl (t1 ++ t2)[n] (2+2 * (L.length:Int)+2) (arB aa)∧(areB (arB aa) a || areB (arB aa) (c.arr a))=true∧(dn=true→areB (arB aa) (c.arr a)=true)∧(areB (arB aa) (c.arr a)=true→t1.length≤n+1∨sameAr a (c.arr a)):=by
    by_cases h:n<t1.length
    ·refine ⟨a,CE.t1 _ (by rw [List.getElem_append_left h];exact List.getElem_mem h),by rw [areB_self];rfl,fun h2=>?_,fun h2=>.inr (sameAr_of h2)⟩
     rcases hd h2 with h3 | h3
     ·omega
     ·exact h3.are
    ·exact ⟨c.arr a,CE.t2 _ (by rw [List.getElem_append_right (by omega)];exact List.getElem_mem _),by rw [areB_self,Bool.or_true],fun _=>areB_self _,fun _=>.inl (by omega)⟩
   obtain ⟨aa,hTl,hor,hdn,hnx⟩:=hkey
   have hT:=hoff.tl hTl
   clear hoff hTl hyb
  all_goals
   conv=>whnf
   refine Ru.alloca (alloc_ar w8) ?_
   intro x12 w9 hx12 hs9 r12 k9
   conv=>whnf
   refine Ru.sta r12 size_ar (by omega) (fun j hj=>arF_one _ j) ?_
   intro w10 r1210 k10
   have r1210:Row w10 x12 28 24 (arF (c.arr a)):=r1210.congr (fun j hj=>by unfold lay;rw [if_pos (by omega),Nat.sub_zero])
   have q10:Keep [] w8 w10:=k9.then k10 (fun x hx=>.inr (by rw [List.mem_singleton.1 hx,hx12];exact Nat.le_refl _))
   have J10:=J8.keep0 q10
   have hT10:=hT.keep q10 (by simp)
   have h12x:x12∉[x]:=fun hm=>by
    obtain ⟨C8,P8,H8,-⟩:=hT10
    exact Row.ne_ H8 r1210 (by decide) (List.mem_singleton.1 hm).symm
   clear J8 hT r12 k9 k10 q10 hs9
   conv=>whnf
   repeat ((first
    | refine Br.t ?_|refine Br.f ?_|refine Pk.f ?_|refine Pk.t ?_|refine Ru.neq_nil0 ?_|refine Ru.n1 ?_|refine Ru.n2 ?_|refine CW.s ?_);conv=>whnf)
   refine Ca.of (power_tl hT10) ?_
   rintro _ w11 ⟨rfl,hC11,k11⟩
   have J11:=J10.new k11 hxB
   have r1211:=r1210.keep k11 h12x
   clear J10 hT10 r1210 k11
   conv=>whnf
   refine Ca.of (seen_all (by omega) hC11) ?_
   rintro _ w12 ⟨Z,cz,rfl,Sl,k12⟩
   have J12:=J11.new k12 hxB
   have r1212:=r1211.keep k12 h12x
   clear J11 hC11 r1211 k12
   conv=>whnf
   refine Ru.ldaC (q:=arF a) J12.r7 Tryz.underlying28 rfl size_ar (by omega) (fun j hj=>by rw [Nat.zero_add]) ?_
   conv=>whnf
   refine Ca.of (are_ok Sl (arB_lt _) ha0) ?_
   rintro _ w13 ⟨rfl,k13⟩
   have J13:=J12.keep0 k13
   have r1213:=r1212.keep k13 (by simp)
   have Sl13:=Sl.keep k13 (fun _ h=>nomatch h)
   clear J12 r1212 Sl k13
   conv=>whnf
   refine Ru.ldaC (q:=arF (c.arr a)) r1213 Tryz.underlying28 rfl size_ar (by omega) (fun j hj=>by rw [Nat.zero_add]) ?_
   conv=>whnf
   refine Ca.of (are_ok Sl13 (arB_lt _) ha2) ?_
   rintro _ w14 ⟨rfl,k14⟩
   have J14:=J13.keep0 k14
   have r1214:=r1213.keep k14 (by simp)
   clear J13 r1213 Sl13 k14
  case inl =>
   rw [hkey]
   generalize areB (arB aa) a=bf
   cases dn
   case true =>
    cases bf
    all_goals
     conv=>whnf
     repeat ((first
      | refine Br.t ?_|refine Br.f ?_|refine Pk.f ?_|refine Pk.t ?_|refine Ru.eql_nil0 ?_|refine CW.s ?_);conv=>whnf)
     exact ⟨rfl,rfl,J14.kk⟩
   case false =>
    cases bf
    all_goals
     conv=>whnf
     repeat ((first
      | refine Br.t ?_|refine Br.f ?_|refine Pk.f ?_|refine Pk.t ?_|refine Ru.eql_nil0 ?_|refine CW.s ?_);conv=>whnf)
     refine Ru.ldaC (q:=arF a) J14.r7 Tryz.underlying28 rfl size_ar (by omega) (fun j hj=>by rw [Nat.zero_add]) ?_
     conv=>whnf
     repeat ((first
      | refine Br.t ?_);conv=>whnf)
     refine Ru.ldaC (q:=arF (c.arr a)) r1214 Tryz.underlying28 rfl size_ar (by omega) (fun j hj=>by rw [Nat.zero_add]) ?_
     conv=>whnf
     repeat ((first
      | refine Br.t ?_);conv=>whnf)
     refine Ru.of (neq_ar _ _ _ _ w14) ?_
     conv=>whnf
     repeat ((first
      | refine Br.t ?_|refine Br.f ?_|refine Pk.f ?_|refine Pk.t ?_|refine Ru.eql_nil0 ?_);conv=>whnf)
     exact ⟨rfl,rfl,J14.kk⟩
  case inr =>
   generalize areB (arB aa) a=bf at *
   generalize areB (arB aa) (c.arr a)=af at *
   cases af
   case true =>
    have hnx:=hnx rfl
    cases dn
    case true =>
     cases bf
     all_goals
      conv=>whnf
      repeat ((first
       | refine Br.t ?_|refine Br.f ?_|refine Pk.f ?_|refine Pk.t ?_|refine Ar.la ?_|refine Ru.e1 ?_|refine CW.s ?_);conv=>whnf)
      exact ⟨(n+1,true),⟨hlt,J14,fun _=>hnx⟩,⟨rfl,rfl,rfl,rfl,vi (by simp only;omega),trivial⟩,by simp only;omega⟩
    case false =>
     cases bf
     all_goals
      conv=>whnf
      repeat ((first
       | refine Br.t ?_|refine Br.f ?_|refine Pk.f ?_|refine Pk.t ?_|refine Ru.e1 ?_|refine CW.s ?_);conv=>whnf)
      refine Ru.ldaC (q:=arF a) J14.r7 Tryz.underlying28 rfl size_ar (by omega) (fun j hj=>by rw [Nat.zero_add]) ?_
      conv=>whnf
      repeat ((first
       | refine Br.t ?_);conv=>whnf)
      refine Ru.ldaC (q:=arF (c.arr a)) r1214 Tryz.underlying28 rfl size_ar (by omega) (fun j hj=>by rw [Nat.zero_add]) ?_
      conv=>whnf
      repeat ((first
       | refine Br.t ?_);conv=>whnf)
      refine Ru.of (neq_ar _ _ _ _ w14) ?_
      conv=>whnf
      repeat ((first
       | refine Br.f ?_|refine Pk.f ?_|refine Pk.t ?_|refine Ar.la ?_|refine Ru.e1 ?_);conv=>whnf)
      exact ⟨(n+1,_),⟨hlt,J14,fun _=>hnx⟩,⟨rfl,rfl,rfl,rfl,vi (by simp only;omega),trivial⟩,by simp only;omega⟩
   case false =>
    obtain rfl:bf=true:=by simpa using hor
    cases dn
    case true=>exact absurd (hdn rfl) (by decide)
    case false =>
     conv=>whnf
     repeat ((first
      | refine Br.f ?_|refine Pk.f ?_|refine Ar.la ?_|refine Ru.e1 ?_|refine CW.s ?_);conv=>whnf)
     exact ⟨(n+1,false),⟨hlt,J14,fun h=>by cases h⟩,⟨rfl,rfl,rfl,rfl,vi (by simp only;omega),trivial⟩,by simp only;omega⟩
 ·conv=>whnf
  repeat ((first
   | refine Br.n ?_|refine CW.s ?_);conv=>whnf)
  exact ⟨rfl,rfl,J.kk⟩
end Go.Proofs.YtaeikigfgfcadaaGreat
namespace Go.Proofs.YtaeikigfgfcadaaGreat.topEveryCut
open Go.RowKit Go.Joins Go.ChangeAt
theorem and_ {a b:Bool} (h:a=true) (k:b=true):(a && b)=true:=by rw [h,k];rfl
theorem j0:(Rows.topEveryCutUptoRow.wf (OpenSpec.ofChange (Rows.OpenSpec.upto Rows.topEveryCutSpec).bare):Bool)=true:=by kernel_rfl
theorem j1:(laidOutB Tryz.pinned.checked.prog:Bool)=true:=by kernel_rfl
theorem j2:(mapsRowed Tryz.pinned.checked.prog:Bool)=true:=by kernel_rfl
theorem j3:((Tryz.f5).params.all (Tryz.pinned.checked.prog.readableRec ·):Bool)=true:=by kernel_rfl
theorem j4:(namedTie Tryz.pinned.checked.prog Rows.topEveryCutUptoRow.named (Rows.OpenSpec.upto Rows.topEveryCutSpec).bare.vars:Bool)=true:=by kernel_rfl
theorem j5:((Rows.topEveryCutUptoRow.stops == []):Bool)=true:=by kernel_rfl
theorem j6:((Tryz.pinned.checked.prog.stops == []):Bool)=true:=by kernel_rfl
theorem j7:((Rows.topEveryCutUptoRow.knobs == []):Bool)=true:=by kernel_rfl
theorem j8:((Tryz.pinned.checked.prog.stopKnobs == []):Bool)=true:=by kernel_rfl
theorem j9:((Rows.topEveryCutUptoRow.inPlace == Tryz.pinned.checked.prog.inPlace 5):Bool)=true:=by kernel_rfl
theorem j10:((Rows.topEveryCutUptoRow.unfollowed == Tryz.pinned.checked.prog.unfollowed 5):Bool)=true:=by kernel_rfl
theorem j11:((Rows.topEveryCutUptoRow.recurses == Tryz.pinned.checked.prog.recurses 5):Bool)=true:=by kernel_rfl
theorem j12:((Rows.topEveryCutUptoRow.named == Tryz.pinned.checked.prog.varsNamed 5):Bool)=true:=by kernel_rfl
theorem j13:((Rows.topEveryCutUptoRow.maps == ((Tryz.f5).params.toList ++ (Rows.OpenSpec.upto Rows.topEveryCutSpec).bare.plain.varTypes Tryz.pinned.checked.prog).any (Tryz.pinned.checked.prog.mapsRec ·)):Bool)=true:=by kernel_rfl
theorem j14:((Rows.topEveryCutUptoRow.ifaces == ((Tryz.f5).params.toList ++ (Rows.OpenSpec.upto Rows.topEveryCutSpec).bare.plain.varTypes Tryz.pinned.checked.prog).any (Tryz.pinned.checked.prog.ifacesRec ·)):Bool)=true:=by kernel_rfl
theorem j15:((Rows.topEveryCutUptoRow.mapsOut == Tryz.pinned.checked.prog.mapsAmong (Tryz.f5).resultTypes.toList):Bool)=true:=by kernel_rfl
theorem j16:((Rows.topEveryCutUptoRow.loops == ((Tryz.f5).params.toList ++ (Rows.OpenSpec.upto Rows.topEveryCutSpec).bare.plain.varTypes Tryz.pinned.checked.prog).any (Tryz.pinned.checked.prog.loopsFrom ·)):Bool)=true:=by kernel_rfl
theorem j17:((Rows.topEveryCutUptoRow.wideKeys == ((Tryz.f5).params.toList ++ (Rows.OpenSpec.upto Rows.topEveryCutSpec).bare.plain.varTypes Tryz.pinned.checked.prog ++ (Tryz.f5).resultTypes.toList).any (Tryz.pinned.checked.prog.wideKeysFrom ·)):Bool)=true:=by kernel_rfl
theorem j18:((Rows.OpenSpec.upto Rows.topEveryCutSpec).bare.vars.all (Tryz.pinned.checked.prog.varReadable ·):Bool)=true:=by kernel_rfl
theorem j19:((Tryz.f5).resultTypes.all (fun t=>Tryz.pinned.checked.prog.readableRec t && decide (t<Tryz.pinned.checked.prog.types.size)):Bool)=true:=by kernel_rfl
theorem j20:((Rows.topEveryCutUptoRow.ifacesOut == (Tryz.f5).resultTypes.toList.any (Tryz.pinned.checked.prog.ifacesRec ·)):Bool)=true:=by kernel_rfl
theorem j21:((Rows.topEveryCutUptoRow.loopsOut == (Tryz.f5).resultTypes.toList.any (Tryz.pinned.checked.prog.loopsFrom ·)):Bool)=true:=by kernel_rfl
theorem j22:((Rows.topEveryCutUptoRow.plainKeys == Tryz.pinned.checked.prog.plainKeys):Bool)=true:=by kernel_rfl
theorem j23:(Rows.topEveryCutUptoRow.shortTexts.isNone:Bool)=true:=by kernel_rfl
theorem j24:(Tryz.pinned.checked.prog.stopsHeard:Bool)=true:=by kernel_rfl
theorem j25:(Tryz.pinned.checked.prog.mayEnter:Bool)=true:=by kernel_rfl
theorem j26:((Rows.topEveryCutUptoRow.lifted == Tryz.pinned.checked.prog.liftsFinal):Bool)=true:=by kernel_rfl
theorem j27:((Tryz.pinned.checked.prog.make == some Rows.topEveryCutUptoRow.make):Bool)=true:=by kernel_rfl
theorem j28:((Rows.topEveryCutUptoRow.kinds == (if Rows.topEveryCutUptoRow.domain.isEmpty then [] else (Tryz.f5).params.toList.map fun t=>match Tryz.pinned.checked.prog.underlying t with | some (.int k)=>some k | _=>none)):Bool)=true:=by kernel_rfl
theorem j29:((Rows.topEveryCutUptoRow.pinned == Rows.topEveryCutUptoRow.pinnedBy):Bool)=true:=by kernel_rfl
theorem j30:((Rows.topEveryCutUptoRow.veiled == ((Tryz.f5).params.toList ++ (Rows.OpenSpec.upto Rows.topEveryCutSpec).bare.plain.varTypes Tryz.pinned.checked.prog ++ (Tryz.f5).resultTypes.toList).any (Tryz.pinned.checked.prog.veiledRec ·)):Bool)=true:=by kernel_rfl
theorem j31:(Rows.topEveryCutUptoRow.veiledFits Tryz.pinned.checked.prog (Tryz.f5).params.toList ((Tryz.f5).params.toList ++ (Rows.OpenSpec.upto Rows.topEveryCutSpec).bare.plain.varTypes Tryz.pinned.checked.prog ++ (Tryz.f5).resultTypes.toList):Bool)=true:=by kernel_rfl
set_option maxRecDepth 20000 in
theorem closed:joinedFacts Tryz.pinned.checked.prog 5 Tryz.f5 (Rows.OpenSpec.upto Rows.topEveryCutSpec).bare Rows.topEveryCutUptoRow=true:=(and_ (and_ (and_ (and_ (and_ (and_ (and_ (and_ (and_ (and_ (and_ (and_ (and_ (and_ (and_ (and_ (and_ (and_ (and_ (and_ (and_ (and_ (and_ (and_ (and_ (and_ (and_ (and_ (and_ (and_ (and_ j0 j1) j2) j3) j4) j5) j6) j7) j8) j9) j10) j11) j12) j13) j14) j15) j16) j17) j18) j19) j20) j21) j22) j23) j24) j25) j26) j27) j28) j29) j30) j31)
theorem wrap:(Tryz.f5).isWrapper Tryz.pinned.checked.prog Rows.topEveryCutUptoRow.wrapper Rows.topEveryCutUptoRow.mainSum:=by unfold Func.isWrapper;first | (rw [if_pos (by decide +kernel)];kernel_rfl) | (rw [if_neg (by decide +kernel)];exact ⟨rfl,rfl⟩)
end Go.Proofs.YtaeikigfgfcadaaGreat.topEveryCut
