/- Texts behind one another: Room, JnTopRoom. -/
import Derived.WalkKit
import Derived.ProofKit
import Derived.ChangeOld
import Derived.SizedLaws
import Derived.JoinedCond
import Derived.Lib.SmallJoins
import Derived.Test.YtaeikigfgfcadaaGreatMq0a
import Derived.Test.YtaeikigfgfcadaaGreatMq0b
import Derived.Test.YtaeikigfgfcadaaGreatMq0c
import Derived.Test.YtaeikigfgfcadaaGreatMq0d
import Derived.Test.YtaeikigfgfcadaaGreatMq0e
import Derived.Test.YtaeikigfgfcadaaGreatMq0f
import Derived.Test.YtaeikigfgfcadaaGreatMq1a
import Derived.Test.YtaeikigfgfcadaaGreatMq2a
set_option linter.unusedVariables false
set_option linter.unusedSimpArgs false
set_option linter.unnecessarySimpa false
namespace Go.Proofs.YtaeikigfgfcadaaGreat
open Go.RowKit
set_option maxRecDepth 20000
theorem bools_run (w:World):(Instr.alloc 63 true (.tuple #[])).run Tryz.prog w = .ok (.pointer (some ⟨w.heap.size,0,none⟩)) (w.alloc (rowObj 12 (fun _=>.bool false) 63)):=by kernel_rfl
def usB (L:Nat→Nat) (i b:Nat):Bool:=decide (lvTo L i b≠0)
theorem usB_skip {L:Nat→Nat} {i:Nat} (h:L i=0) (b:Nat):usB L (i+1) b=usB L i b:=by
 unfold usB
 have:lvTo L (i+1) b=lvTo L i b:=by
  show lvTo L i b+_=_
  rw [if_neg (by omega)]
  omega
 rw [this]
theorem usB_put {L:Nat→Nat} {i:Nat} (h:L i≠0) (b:Nat):put (fun b=>.bool (usB L i b)) ((L i - 1) / 8) (.bool true) b = .bool (usB L (i+1) b):=by
 have e:lvTo L (i+1) b=lvTo L i b+(if L i≠0∧(L i - 1) / 8=b then 1 else 0):=rfl
 unfold put usB
 rw [e]
 by_cases hb:b=(L i - 1) / 8
 ·rw [if_pos hb,if_pos ⟨h,hb.symm⟩]
  exact congrArg Value.bool (decide_eq_true (by omega)).symm
 ·rw [if_neg hb,if_neg (fun h'=>hb h'.2.symm),Nat.add_zero]
set_option maxHeartbeats 32000000 in
theorem room_ok {w:World} {L:List Cl} {A:Option Addr} {cA:Nat} {c:Cl} (hL:Rd w A (L.length * 3) (clF L)) (hLw:∀ c,c∈L→c.wf) (hL1:L.length≤1048576) (hcw:c.wf) :
  Spec Tryz.prog 8 #[.slice A L.length cA,agg 3 c.cell] w fun v w'=>v = .bool true∧Keep [] w w':=by
 refine spec_of_wpE (T:=tt) tt_ok Tryz.func8 rfl (by decide +kernel) Tryz.ntmps8 (by simp) ?_
 conv=>whnf
 refine Ru.boxa ?_
 intro x3 w1 hx3 hs1 r3 k1
 conv=>whnf
 refine Ca.of (begun_ok (hL.keep0 k1) hLw hL1) ?_
 rintro _ w2 ⟨ch,d,own,K,P,k,rfl,Bg⟩
 have ha0:=playA_le (a:=fun _=>0) (fun _=>by omega) L
 obtain ⟨D,I,q,s,nw,kb⟩:=Bg
 generalize playA (fun _=>0) L=a at *
 have hx3w:w.heap.size≤x3:=by omega
 have hx32:x3<w2.heap.size:=by have:=kb.size;omega
 have r32:=r3.keep kb (by simp)
 have kk2:=k1.trans kb
 obtain ⟨C,H,hA,hl⟩:=D.chip
 have hcal:=I.l.ok.gd.calm
 obtain ⟨K1,P1,tr1,M,I1,q1,hs1'⟩:=mount_end I.l.ok (by omega)
 have sh1:=(hs1' _ s).2
 obtain ⟨K2,P2,k2',t1,t2,rd,CE,An,hcall⟩:=does_call I1 q1 (by omega) hcw sh1
 have ha2:∀ o,c.arr a o≤1000000:=arr_le ha0 c
 have hchl:ch<w2.heap.size:=Row.lt H
 clear hs1' sh1 q s nw D
 conv=>whnf
 refine Ru.alloca (alloc_ar w2) ?_
 intro x7 w3 hx7 hs3 r7 k3
 conv=>whnf
 refine Ru.sta r7 size_ar (by omega) (fun j hj=>arF_one _ j) ?_
 intro w4 r74 k4
 have r74:Row w4 x7 28 24 (arF a):=r74.congr (fun j hj=>by unfold lay;rw [if_pos (by omega),Nat.sub_zero])
 have q4:Keep [] w2 w4:=k3.then k4 (fun x hx=>.inr (by rw [List.mem_singleton.1 hx,hx7];exact Nat.le_refl _))
 have hs4:w2.heap.size+1≤w4.heap.size:=by have:=k4.size;omega
 have LI:LpI w w4 ch C x3 c x7 a (w2.heap.size+1):=⟨H.keep q4 (by simp),r32.keep q4 (by simp),r74,kk2.trans q4,by omega,by omega,by omega,by have:=kk2.size;omega,hs4⟩
 have hB2:w.heap.size≤w2.heap.size+1:=LI.hB
 generalize w2.heap.size+1=B at *
 clear r3 r32 r7 r74 k3 k4 q4 H k1 kb hs1 hs3 hs4 kk2 hx3 hx7 hx3w hx32 hchl
 conv=>whnf
 repeat ((first
  | refine CW.s ?_);conv=>whnf)
 refine Ru.of (chip_eq w4 _ _) ?_
 conv=>whnf
 repeat ((first
  | refine Br.f ?_|refine CW.s ?_);conv=>whnf)
 refine CW.loop (ι:=Nat) (fun i w'=>i≤400∧LpI w w' ch C x3 c x7 a B)
  (fun i=>[(3,.pointer (some ⟨x3,0,none⟩)),(5,.pointer (some ⟨ch,0,none⟩)),(7,.pointer (some ⟨x7,0,none⟩)),(8,.int .i64 i)]) (fun i=>400 - i) 0 tt_ok
  ⟨by omega,LI⟩ ⟨rfl,rfl,rfl,rfl,trivial⟩ ?_
 clear LI
 rintro n wr ⟨hn,J⟩
 rcases Nat.lt_or_ge n 400 with hlt | hge
 ·have hwrB:=J.sz
  conv=>whnf
  repeat ((first
   | refine Br.y ?_|refine CW.s ?_);conv=>whnf)
  refine Ca.of (nclone_ok J.chip) ?_
  rintro _ w5 ⟨rfl,Hx,k5⟩
  have J5:=J.keep0 k5
  obtain ⟨x,hx⟩:∃ x,x=wr.heap.size:=⟨_,rfl⟩
  rw [← hx] at Hx ⊢
  have hxB:B≤x:=by omega
  clear J
  conv=>whnf
  repeat ((first
   | refine CW.s ?_);conv=>whnf)
  refine Ru.of (chip_eq w5 _ _) ?_
  conv=>whnf
  repeat ((first
   | refine Br.f ?_);conv=>whnf)
  refine Ca.of (onchip_ok Hx hA hl hcal M q1) ?_
  rintro _ w6 ⟨k6,hr6⟩
  rcases hr6 with ⟨f6,d6,own6,rfl,D6,ho6⟩ | ⟨y,hy,hyb,-⟩
  case inr=>cases hyb
  have J6:=J5.new k6 hxB
  have ho6':∀ y,y∈own6→B≤y:=fun y hy=>by
   have:=J5.sz
   rcases ho6 y hy with h | h<;>omega
  clear Hx J5 f6 ho6
  conv=>whnf
  repeat ((first
   | refine CW.s ?_);conv=>whnf)
  refine Ru.of (dev_none w6 _ _) ?_
  conv=>whnf
  repeat ((first
   | refine Br.f ?_);conv=>whnf)
  refine Ca.of (cut_dv D6 n (by omega)) ?_
  rintro _ w7 ⟨rfl,D7,k7⟩
  have J7:=J6.new k7 hxB
  clear D6 J6 k7 k6
  conv=>whnf
  refine Ru.ldaC (q:=arF a) J7.r7 Tryz.underlying28 rfl size_ar (by omega) (fun j hj=>by rw [Nat.zero_add]) ?_
  conv=>whnf
  refine Ru.ldaC (q:=c.cell) J7.r3 Tryz.underlying36 rfl size_cl (by omega) (fun j hj=>by rw [Nat.zero_add]) ?_
  conv=>whnf
  refine Ca.of (hcall D7) ?_
  rintro u w8 ⟨k8,hr8⟩
  have J8:=J7.far k8 ho6'
  clear D7 J7 k8
  rcases hr8 with ⟨f8,⟨Y,n8,e8,f9,rfl,-,-⟩,own8,D8,h8⟩ | ⟨y,hy,hyb,rfl,hoff⟩
  case' inl =>
   have hT:=D8.tl CE.inv CE.sh
   obtain ⟨aa,heq⟩:∃ aa,aa=c.arr a:=⟨_,rfl⟩
   have haa:aa=a∨aa=c.arr a:=.inr heq
   rw [← heq] at hT
   clear D8 h8 f8
  case' inr =>
   obtain ⟨aa,haa,hTl⟩:=CE.dead (List.getElem_mem hy)
   have hT:=hoff.tl hTl
   clear hoff hTl hyb
  all_goals
   conv=>whnf
   refine Ru.alloca (alloc_ar w8) ?_
   intro x11 w9 hx11 hs9 r11 k9
   conv=>whnf
   refine Ru.sta r11 size_ar (by omega) (fun j hj=>arF_one _ j) ?_
   intro w10 r1110 k10
   have r1110:Row w10 x11 28 24 (arF (c.arr a)):=r1110.congr (fun j hj=>by unfold lay;rw [if_pos (by omega),Nat.sub_zero])
   have q10:Keep [] w8 w10:=k9.then k10 (fun x hx=>.inr (by rw [List.mem_singleton.1 hx,hx11];exact Nat.le_refl _))
   have J10:=J8.keep0 q10
   obtain ⟨C8,P8,H8,hA8,k8,L8,hO8,hS8⟩:=hT
   have H10:=H8.keep q10 (by simp)
   clear J8 H8 r11 k9 k10 q10 hs9 hx11
   conv=>whnf
   repeat ((first
    | refine Br.t ?_|refine Br.f ?_|refine Pk.f ?_|refine Pk.t ?_|refine Ru.neq_nil0 ?_|refine Ru.n1 ?_|refine Ru.n2 ?_|refine CW.s ?_);conv=>whnf)
   refine Ca.of (onch_ok w10 x C8 H10 hA8 hO8) ?_
   rintro _ w11 ⟨rfl,k11⟩
   have J11:=J10.keep0 k11
   have hL96:∀ o,o<25→L8 o≤96:=fun o ho=>hO8.led.lt ho
   have hroom:=hO8.room
   clear J10 k11 H10 hA8 hO8 hS8 r1110
   conv=>whnf
   refine Ru.alloca (zout_run w11) ?_
   intro x14 w12 hx14 hs12 r14 k12
   conv=>whnf
   refine Ru.sta r14 out_size (by omega) (fun j _=>plcL_one L8 j) ?_
   intro w13 r1413 k13
   have r1413:Row w13 x14 59 25 (fun o=>.int .i64 (plcL L8 o)):=r1413.congr (fun j hj=>by unfold lay;rw [if_pos (by omega),Nat.sub_zero])
   have q13:Keep [] w11 w13:=k12.then k13 (fun x hx=>.inr (by rw [List.mem_singleton.1 hx,hx14];exact Nat.le_refl _))
   have J13:=J11.keep0 q13
   clear J11 r14 k12 k13 q13 hs12 hx14
   conv=>whnf
   repeat ((first
    | refine Br.f ?_|refine CW.s ?_);conv=>whnf)
   refine Ru.alloca (bools_run w13) ?_
   intro x16 w14 hx16 hs14 r16 k14
   have J14:=J13.keep0 k14
   have r1414:=r1413.keep k14 (by simp)
   have hB16:B≤x16:=by have:=J13.sz;omega
   have h1416:x14≠x16:=by have:=r1413.lt;omega
   have r16:Row w14 x16 63 12 (fun b=>.bool (usB L8 0 b)):=r16
   clear J13 r1413 k14 hs14 hx16
  case' inl=>obtain ⟨er,her⟩:∃ er:Int,er=0:=⟨0,rfl⟩
  case' inr=>obtain ⟨er,her⟩:∃ er:Int,er=7:=⟨7,rfl⟩
  all_goals
   conv=>whnf
   repeat ((first
    | refine CW.s ?_);conv=>whnf)
   refine CW.loop (ι:=Nat) (fun i w'=>i≤25∧LpI w w' ch C x3 c x7 a B∧Row w' x14 59 25 (fun o=>.int .i64 (plcL L8 o))∧Row w' x16 63 12 (fun b=>.bool (usB L8 i b)))
    (fun i=>[(3,.pointer (some ⟨x3,0,none⟩)),(5,.pointer (some ⟨ch,0,none⟩)),(7,.pointer (some ⟨x7,0,none⟩)),(8,.int .i64 n),(13,errOf er),(14,.pointer (some ⟨x14,0,none⟩)),(16,.pointer (some ⟨x16,0,none⟩)),(17,.int .i64 i)]) (fun i=>25 - i) 0 tt_ok
    ⟨by omega,J14,r1414,r16⟩ ⟨rfl,rfl,rfl,rfl,by rw [her];rfl,rfl,rfl,rfl,trivial⟩ ?_
   clear J14 r1414 r16
   rintro i wi ⟨hi,J,r14,r16⟩
   rcases Nat.lt_or_ge i 25 with hi25 | hi25
   ·have ci:=r14.cell i hi25
    have h96:=hL96 i hi25
    by_cases h0:L8 i=0
    ·have hp:plcL L8 i = -1:=if_pos h0
     rw [hp] at ci
     conv=>whnf
     repeat ((first
      | (refine Ix.of i (by omega) (by omega) ?_)
      | (refine Ld.at (by omega) ci ?_)
      | refine Br.f ?_|refine Ar.la ?_|refine Br.y ?_|refine CW.s ?_);conv=>whnf)
     exact ⟨i+1,⟨hi25,J,r14,r16.congr (fun b hb=>by rw [usB_skip h0])⟩,⟨rfl,rfl,rfl,rfl,rfl,rfl,rfl,vi (by first | omega | (simp only;omega)),trivial⟩,by simp only;omega⟩
    ·have hp:plcL L8 i=((L8 i - 1:Nat):Int):=if_neg h0
     rw [hp] at ci
     conv=>whnf
     repeat ((first
      | (refine Ix.of i (by omega) (by omega) ?_)
      | (refine Ld.at (by omega) ci ?_)
      | (refine Dv.q ?_)
      | (refine Ix.of ((L8 i - 1) / 8) (by omega) (by omega) ?_)
      | refine Br.t ?_|refine Br.y ?_|refine CW.s ?_);conv=>whnf)
     refine Sd.rowAt r16 ((L8 i - 1) / 8) (by omega) (by omega) rfl ?_
     intro w2 r162 k2
     conv=>whnf
     repeat ((first
      | refine Ar.la ?_);conv=>whnf)
     exact ⟨i+1,⟨hi25,J.new k2 hB16,r14.keep k2 (by simpa using h1416),r162.congr (fun b hb=>usB_put h0 b)⟩,⟨rfl,rfl,rfl,rfl,rfl,rfl,rfl,vi (by first | omega | (simp only;omega)),trivial⟩,by simp only;omega⟩
   ·obtain rfl:i=25:=by omega
    conv=>whnf
    repeat ((first
     | refine Br.f ?_|refine CW.s ?_);conv=>whnf)
    refine CW.loop (ι:=Nat) (fun i w'=>i≤12∧LpI w w' ch C x3 c x7 a B∧Row w' x16 63 12 (fun b=>.bool (usB L8 25 b)))
     (fun i=>[(3,.pointer (some ⟨x3,0,none⟩)),(5,.pointer (some ⟨ch,0,none⟩)),(7,.pointer (some ⟨x7,0,none⟩)),(8,.int .i64 n),(13,errOf er),(16,.pointer (some ⟨x16,0,none⟩)),(18,.int .i64 (cntTo (lv L8) 0 i:Nat)),(19,.int .i64 i)]) (fun i=>12 - i) 0 tt_ok
     ⟨by omega,J,r16⟩ ⟨rfl,rfl,rfl,rfl,rfl,rfl,rfl,rfl,trivial⟩ ?_
    clear J r14 r16 hi hi25
    rintro i wj ⟨hi,J,r16⟩
    have hcl:=cntTo_le (lv L8) 0 i
    rcases Nat.lt_or_ge i 12 with hi12 | hi12
    ·have ci:=r16.cell i hi12
     have es:cntTo (lv L8) 0 (i+1)=cntTo (lv L8) 0 i+(if lv L8 i=0 then 1 else 0):=rfl
     by_cases h0:lv L8 i=0
     ·have hu:usB L8 25 i=false:=decide_eq_false (by unfold lv at h0;simpa using h0)
      rw [hu] at ci
      rw [if_pos h0] at es
      conv=>whnf
      repeat ((first
       | (refine Ix.of i (by omega) (by omega) ?_)
       | (refine Ld.at (by omega) ci ?_)
       | refine Br.t ?_|refine Ar.la ?_|refine Br.y ?_|refine CW.s ?_);conv=>whnf)
      exact ⟨i+1,⟨hi12,J,r16⟩,⟨rfl,rfl,rfl,rfl,rfl,rfl,vi (by rw [es];omega),vi (by first | omega | (simp only;omega)),trivial⟩,by simp only;omega⟩
     ·have hu:usB L8 25 i=true:=decide_eq_true h0
      rw [hu] at ci
      rw [if_neg h0] at es
      conv=>whnf
      repeat ((first
       | (refine Ix.of i (by omega) (by omega) ?_)
       | (refine Ld.at (by omega) ci ?_)
       | refine Br.f ?_|refine Ar.la ?_|refine Br.y ?_|refine CW.s ?_);conv=>whnf)
      exact ⟨i+1,⟨hi12,J,r16⟩,⟨rfl,rfl,rfl,rfl,rfl,rfl,vi (by rw [es];omega),vi (by first | omega | (simp only;omega)),trivial⟩,by simp only;omega⟩
    ·obtain rfl:i=12:=by omega
     have hroom:5≤cntTo (lv L8) 0 12:=hroom
     subst her
     conv=>whnf
     repeat ((first
      | refine Br.t ?_|refine Br.f ?_|refine Ar.la ?_|refine Br.n ?_|refine Ru.eql_nil0 ?_|refine Ru.e1 ?_|refine CW.s ?_);conv=>whnf)
     first
      | exact ⟨rfl,rfl,J.kk⟩
      | exact ⟨n+1,⟨hlt,J⟩,⟨rfl,rfl,rfl,vi (by first | omega | (simp only;omega)),trivial⟩,by simp only;omega⟩
 ·conv=>whnf
  repeat ((first
   | refine Br.n ?_|refine CW.s ?_);conv=>whnf)
  exact ⟨rfl,rfl,J.kk⟩
end Go.Proofs.YtaeikigfgfcadaaGreat
namespace Go.Proofs.YtaeikigfgfcadaaGreat.topRoom
open Go.RowKit Go.Joins Go.ChangeAt
theorem and_ {a b:Bool} (h:a=true) (k:b=true):(a && b)=true:=by rw [h,k];rfl
theorem j0:(Rows.topRoomUptoRow.wf (OpenSpec.ofChange (Rows.OpenSpec.upto Rows.topRoomSpec).bare):Bool)=true:=by kernel_rfl
theorem j1:(laidOutB Tryz.pinned.checked.prog:Bool)=true:=by kernel_rfl
theorem j2:(mapsRowed Tryz.pinned.checked.prog:Bool)=true:=by kernel_rfl
theorem j3:((Tryz.f8).params.all (Tryz.pinned.checked.prog.readableRec ·):Bool)=true:=by kernel_rfl
theorem j4:(namedTie Tryz.pinned.checked.prog Rows.topRoomUptoRow.named (Rows.OpenSpec.upto Rows.topRoomSpec).bare.vars:Bool)=true:=by kernel_rfl
theorem j5:((Rows.topRoomUptoRow.stops == []):Bool)=true:=by kernel_rfl
theorem j6:((Tryz.pinned.checked.prog.stops == []):Bool)=true:=by kernel_rfl
theorem j7:((Rows.topRoomUptoRow.knobs == []):Bool)=true:=by kernel_rfl
theorem j8:((Tryz.pinned.checked.prog.stopKnobs == []):Bool)=true:=by kernel_rfl
theorem j9:((Rows.topRoomUptoRow.inPlace == Tryz.pinned.checked.prog.inPlace 8):Bool)=true:=by kernel_rfl
theorem j10:((Rows.topRoomUptoRow.unfollowed == Tryz.pinned.checked.prog.unfollowed 8):Bool)=true:=by kernel_rfl
theorem j11:((Rows.topRoomUptoRow.recurses == Tryz.pinned.checked.prog.recurses 8):Bool)=true:=by kernel_rfl
theorem j12:((Rows.topRoomUptoRow.named == Tryz.pinned.checked.prog.varsNamed 8):Bool)=true:=by kernel_rfl
theorem j13:((Rows.topRoomUptoRow.maps == ((Tryz.f8).params.toList ++ (Rows.OpenSpec.upto Rows.topRoomSpec).bare.plain.varTypes Tryz.pinned.checked.prog).any (Tryz.pinned.checked.prog.mapsRec ·)):Bool)=true:=by kernel_rfl
theorem j14:((Rows.topRoomUptoRow.ifaces == ((Tryz.f8).params.toList ++ (Rows.OpenSpec.upto Rows.topRoomSpec).bare.plain.varTypes Tryz.pinned.checked.prog).any (Tryz.pinned.checked.prog.ifacesRec ·)):Bool)=true:=by kernel_rfl
theorem j15:((Rows.topRoomUptoRow.mapsOut == Tryz.pinned.checked.prog.mapsAmong (Tryz.f8).resultTypes.toList):Bool)=true:=by kernel_rfl
theorem j16:((Rows.topRoomUptoRow.loops == ((Tryz.f8).params.toList ++ (Rows.OpenSpec.upto Rows.topRoomSpec).bare.plain.varTypes Tryz.pinned.checked.prog).any (Tryz.pinned.checked.prog.loopsFrom ·)):Bool)=true:=by kernel_rfl
theorem j17:((Rows.topRoomUptoRow.wideKeys == ((Tryz.f8).params.toList ++ (Rows.OpenSpec.upto Rows.topRoomSpec).bare.plain.varTypes Tryz.pinned.checked.prog ++ (Tryz.f8).resultTypes.toList).any (Tryz.pinned.checked.prog.wideKeysFrom ·)):Bool)=true:=by kernel_rfl
theorem j18:((Rows.OpenSpec.upto Rows.topRoomSpec).bare.vars.all (Tryz.pinned.checked.prog.varReadable ·):Bool)=true:=by kernel_rfl
theorem j19:((Tryz.f8).resultTypes.all (fun t=>Tryz.pinned.checked.prog.readableRec t && decide (t<Tryz.pinned.checked.prog.types.size)):Bool)=true:=by kernel_rfl
theorem j20:((Rows.topRoomUptoRow.ifacesOut == (Tryz.f8).resultTypes.toList.any (Tryz.pinned.checked.prog.ifacesRec ·)):Bool)=true:=by kernel_rfl
theorem j21:((Rows.topRoomUptoRow.loopsOut == (Tryz.f8).resultTypes.toList.any (Tryz.pinned.checked.prog.loopsFrom ·)):Bool)=true:=by kernel_rfl
theorem j22:((Rows.topRoomUptoRow.plainKeys == Tryz.pinned.checked.prog.plainKeys):Bool)=true:=by kernel_rfl
theorem j23:(Rows.topRoomUptoRow.shortTexts.isNone:Bool)=true:=by kernel_rfl
theorem j24:(Tryz.pinned.checked.prog.stopsHeard:Bool)=true:=by kernel_rfl
theorem j25:(Tryz.pinned.checked.prog.mayEnter:Bool)=true:=by kernel_rfl
theorem j26:((Rows.topRoomUptoRow.lifted == Tryz.pinned.checked.prog.liftsFinal):Bool)=true:=by kernel_rfl
theorem j27:((Tryz.pinned.checked.prog.make == some Rows.topRoomUptoRow.make):Bool)=true:=by kernel_rfl
theorem j28:((Rows.topRoomUptoRow.kinds == (if Rows.topRoomUptoRow.domain.isEmpty then [] else (Tryz.f8).params.toList.map fun t=>match Tryz.pinned.checked.prog.underlying t with | some (.int k)=>some k | _=>none)):Bool)=true:=by kernel_rfl
theorem j29:((Rows.topRoomUptoRow.pinned == Rows.topRoomUptoRow.pinnedBy):Bool)=true:=by kernel_rfl
theorem j30:((Rows.topRoomUptoRow.veiled == ((Tryz.f8).params.toList ++ (Rows.OpenSpec.upto Rows.topRoomSpec).bare.plain.varTypes Tryz.pinned.checked.prog ++ (Tryz.f8).resultTypes.toList).any (Tryz.pinned.checked.prog.veiledRec ·)):Bool)=true:=by kernel_rfl
theorem j31:(Rows.topRoomUptoRow.veiledFits Tryz.pinned.checked.prog (Tryz.f8).params.toList ((Tryz.f8).params.toList ++ (Rows.OpenSpec.upto Rows.topRoomSpec).bare.plain.varTypes Tryz.pinned.checked.prog ++ (Tryz.f8).resultTypes.toList):Bool)=true:=by kernel_rfl
set_option maxRecDepth 20000 in
theorem closed:joinedFacts Tryz.pinned.checked.prog 8 Tryz.f8 (Rows.OpenSpec.upto Rows.topRoomSpec).bare Rows.topRoomUptoRow=true:=(and_ (and_ (and_ (and_ (and_ (and_ (and_ (and_ (and_ (and_ (and_ (and_ (and_ (and_ (and_ (and_ (and_ (and_ (and_ (and_ (and_ (and_ (and_ (and_ (and_ (and_ (and_ (and_ (and_ (and_ (and_ j0 j1) j2) j3) j4) j5) j6) j7) j8) j9) j10) j11) j12) j13) j14) j15) j16) j17) j18) j19) j20) j21) j22) j23) j24) j25) j26) j27) j28) j29) j30) j31)
theorem wrap:(Tryz.f8).isWrapper Tryz.pinned.checked.prog Rows.topRoomUptoRow.wrapper Rows.topRoomUptoRow.mainSum:=by unfold Func.isWrapper;first | (rw [if_pos (by decide +kernel)];kernel_rfl) | (rw [if_neg (by decide +kernel)];exact ⟨rfl,rfl⟩)
end Go.Proofs.YtaeikigfgfcadaaGreat.topRoom
