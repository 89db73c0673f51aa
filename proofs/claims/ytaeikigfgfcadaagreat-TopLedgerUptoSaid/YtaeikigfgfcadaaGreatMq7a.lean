/- Texts behind one another: Ledger, JnTopLedger. -/
import Derived.WalkKit
import Derived.ProofKit
import Derived.ChangeOld
import Derived.SizedLaws
import Derived.JoinedCond
import Derived.Lib.SmallJoins
import Derived.Test.YtaeikigfgfcadaaGreatMq0a
import Derived.Test.YtaeikigfgfcadaaGreatMq0b
import Derived.Test.YtaeikigfgfcadaaGreatMq0c
import Derived.Test.YtaeikigfgfcadaaGreatMq0d
import Derived.Test.YtaeikigfgfcadaaGreatMq0e
import Derived.Test.YtaeikigfgfcadaaGreatMq0f
import Derived.Test.YtaeikigfgfcadaaGreatMq1a
import Derived.Test.YtaeikigfgfcadaaGreatMq2a
set_option linter.unusedVariables false
set_option linter.unusedSimpArgs false
set_option linter.unnecessarySimpa false
namespace Go.Proofs.YtaeikigfgfcadaaGreat
open Go.RowKit
set_option maxRecDepth 20000
noncomputable def arT (f:Nat→Nat→Nat) (a:Nat→Nat) (i:Nat):Bool:=@decide (∀ o,o<i→∀ j,j<160→f o j=byF (a o) j) (Classical.propDecidable _)
theorem arT_iff {f:Nat→Nat→Nat} {a:Nat→Nat} {i:Nat}:arT f a i=true↔∀ o,o<i→∀ j,j<160→f o j=byF (a o) j:=by
 unfold arT
 exact @decide_eq_true_iff _ (Classical.propDecidable _)
theorem arT_succ (f:Nat→Nat→Nat) (a:Nat→Nat) (i:Nat):arT f a (i+1)=(arT f a i && sameB 160 160 (fun j=>((f i j:Nat):Int)) (fun j=>((byF (a i) j:Nat):Int))):=by
 rw [Bool.eq_iff_iff,Bool.and_eq_true,arT_iff,arT_iff]
 unfold sameB
 rw [decide_eq_true_iff]
 constructor
 ·exact fun h=>⟨fun o ho=>h o (by omega),rfl,fun j hj=>by
   show ((f i j:Nat):Int)=((byF (a i) j:Nat):Int)
   rw [h i (by omega) j hj]⟩
 ·rintro ⟨h1,-,h2⟩ o ho j hj
  by_cases e:o=i
  ·rw [e]
   exact Int.ofNat.inj (h2 j hj)
  ·exact h1 o (by omega) j hj
theorem arT_zero (f:Nat→Nat→Nat) (a:Nat→Nat):arT f a 0=true:=arT_iff.2 fun o ho=>by omega
theorem arT_self (a:Nat→Nat):arT (arB a) a 24=true:=arT_iff.2 fun o _ j _=>rfl
set_option maxHeartbeats 32000000 in
theorem ledger_ok {w:World} {L:List Cl} {A:Option Addr} {cA:Nat} {c:Cl} (hL:Rd w A (L.length * 3) (clF L)) (hLw:∀ c,c∈L→c.wf) (hL1:L.length≤1048576) (hcw:c.wf) :
  Spec Tryz.prog 7 #[.slice A L.length cA,agg 3 c.cell] w fun v w'=>v = .bool true∧Keep [] w w':=by
 refine spec_of_wpE (T:=tt) tt_ok Tryz.func7 rfl (by decide +kernel) Tryz.ntmps7 (by simp) ?_
 conv=>whnf
 refine Ru.boxa ?_
 intro x3 w1 hx3 hs1 r3 k1
 conv=>whnf
 refine Ca.of (begun_ok (hL.keep0 k1) hLw hL1) ?_
 rintro _ w2 ⟨ch,d,own,K,P,k,rfl,Bg⟩
 have ha0:=playA_le (a:=fun _=>0) (fun _=>by omega) L
 obtain ⟨D,I,q,s,nw,kb⟩:=Bg
 generalize playA (fun _=>0) L=a at *
 have hx3w:w.heap.size≤x3:=by omega
 have hx32:x3<w2.heap.size:=by have:=kb.size;omega
 have r32:=r3.keep kb (by simp)
 have kk2:=k1.trans kb
 obtain ⟨C,H,hA,hl⟩:=D.chip
 have hcal:=I.l.ok.gd.calm
 obtain ⟨K1,P1,tr1,M,I1,q1,hs1'⟩:=mount_end I.l.ok (by omega)
 have sh1:=(hs1' _ s).2
 obtain ⟨K2,P2,k2',t1,t2,rd,CE,An,hcall⟩:=does_call I1 q1 (by omega) hcw sh1
 have ha2:∀ o,c.arr a o≤1000000:=arr_le ha0 c
 have hchl:ch<w2.heap.size:=Row.lt H
 clear hs1' sh1 q s nw D
 conv=>whnf
 refine Ru.alloca (alloc_ar w2) ?_
 intro x7 w3 hx7 hs3 r7 k3
 conv=>whnf
 refine Ru.sta r7 size_ar (by omega) (fun j hj=>arF_one _ j) ?_
 intro w4 r74 k4
 have r74:Row w4 x7 28 24 (arF a):=r74.congr (fun j hj=>by unfold lay;rw [if_pos (by omega),Nat.sub_zero])
 have q4:Keep [] w2 w4:=k3.then k4 (fun x hx=>.inr (by rw [List.mem_singleton.1 hx,hx7];exact Nat.le_refl _))
 have hs4:w2.heap.size+1≤w4.heap.size:=by have:=k4.size;omega
 have LI:LpI w w4 ch C x3 c x7 a (w2.heap.size+1):=⟨H.keep q4 (by simp),r32.keep q4 (by simp),r74,kk2.trans q4,by omega,by omega,by omega,by have:=kk2.size;omega,hs4⟩
 have hB2:w.heap.size≤w2.heap.size+1:=LI.hB
 generalize w2.heap.size+1=B at *
 clear r3 r32 r7 r74 k3 k4 q4 H k1 kb hs1 hs3 hs4 kk2 hx3 hx7 hx3w hx32 hchl
 conv=>whnf
 repeat ((first
  | refine CW.s ?_);conv=>whnf)
 refine Ru.of (chip_eq w4 _ _) ?_
 conv=>whnf
 repeat ((first
  | refine Br.f ?_|refine CW.s ?_);conv=>whnf)
 refine CW.loop (ι:=Nat) (fun i w'=>i≤400∧LpI w w' ch C x3 c x7 a B)
  (fun i=>[(3,.pointer (some ⟨x3,0,none⟩)),(5,.pointer (some ⟨ch,0,none⟩)),(7,.pointer (some ⟨x7,0,none⟩)),(8,.int .i64 i)]) (fun i=>400 - i) 0 tt_ok
  ⟨by omega,LI⟩ ⟨rfl,rfl,rfl,rfl,trivial⟩ ?_
 clear LI
 rintro n wr ⟨hn,J⟩
 rcases Nat.lt_or_ge n 400 with hlt | hge
 ·have hwrB:=J.sz
  conv=>whnf
  repeat ((first
   | refine Br.y ?_|refine CW.s ?_);conv=>whnf)
  refine Ca.of (nclone_ok J.chip) ?_
  rintro _ w5 ⟨rfl,Hx,k5⟩
  have J5:=J.keep0 k5
  obtain ⟨x,hx⟩:∃ x,x=wr.heap.size:=⟨_,rfl⟩
  rw [← hx] at Hx ⊢
  have hxB:B≤x:=by omega
  clear J
  conv=>whnf
  repeat ((first
   | refine CW.s ?_);conv=>whnf)
  refine Ru.of (chip_eq w5 _ _) ?_
  conv=>whnf
  repeat ((first
   | refine Br.f ?_);conv=>whnf)
  refine Ca.of (onchip_ok Hx hA hl hcal M q1) ?_
  rintro _ w6 ⟨k6,hr6⟩
  rcases hr6 with ⟨f6,d6,own6,rfl,D6,ho6⟩ | ⟨y,hy,hyb,-⟩
  case inr=>cases hyb
  have J6:=J5.new k6 hxB
  have ho6':∀ y,y∈own6→B≤y:=fun y hy=>by
   have:=J5.sz
   rcases ho6 y hy with h | h<;>omega
  clear Hx J5 f6 ho6
  conv=>whnf
  repeat ((first
   | refine CW.s ?_);conv=>whnf)
  refine Ru.of (dev_none w6 _ _) ?_
  conv=>whnf
  repeat ((first
   | refine Br.f ?_);conv=>whnf)
  refine Ca.of (cut_dv D6 n (by omega)) ?_
  rintro _ w7 ⟨rfl,D7,k7⟩
  have J7:=J6.new k7 hxB
  clear D6 J6 k7 k6
  conv=>whnf
  refine Ru.ldaC (q:=arF a) J7.r7 Tryz.underlying28 rfl size_ar (by omega) (fun j hj=>by rw [Nat.zero_add]) ?_
  conv=>whnf
  refine Ru.ldaC (q:=c.cell) J7.r3 Tryz.underlying36 rfl size_cl (by omega) (fun j hj=>by rw [Nat.zero_add]) ?_
  conv=>whnf
  refine Ca.of (hcall D7) ?_
  rintro u w8 ⟨k8,hr8⟩
  have J8:=J7.far k8 ho6'
  clear D7 J7 k8
  rcases hr8 with ⟨f8,⟨Y,n8,e8,f9,rfl,-,-⟩,own8,D8,h8⟩ | ⟨y,hy,hyb,rfl,hoff⟩
  case' inl =>
   have hT:=D8.tl CE.inv CE.sh
   obtain ⟨aa,heq⟩:∃ aa,aa=c.arr a:=⟨_,rfl⟩
   have haa:aa=a∨aa=c.arr a:=.inr heq
   rw [← heq] at hT
   clear D8 h8 f8
  case' inr =>
   obtain ⟨aa,haa,hTl⟩:=CE.dead (List.getElem_mem hy)
   have hT:=hoff.tl hTl
   clear hoff hTl hyb
  all_goals
   conv=>whnf
   refine Ru.alloca (alloc_ar w8) ?_
   intro x11 w9 hx11 hs9 r11 k9
   conv=>whnf
   refine Ru.sta r11 size_ar (by omega) (fun j hj=>arF_one _ j) ?_
   intro w10 r1110 k10
   have r1110:Row w10 x11 28 24 (arF (c.arr a)):=r1110.congr (fun j hj=>by unfold lay;rw [if_pos (by omega),Nat.sub_zero])
   have q10:Keep [] w8 w10:=k9.then k10 (fun x hx=>.inr (by rw [List.mem_singleton.1 hx,hx11];exact Nat.le_refl _))
   have J10:=J8.keep0 q10
   obtain ⟨C8,P8,H8,hA8,k8,L8,hO8,hS8⟩:=hT
   have H10:=H8.keep q10 (by simp)
   clear J8 H8 r11 k9 k10 q10 hs9 hx11
   conv=>whnf
   repeat ((first
    | refine Br.t ?_|refine Br.f ?_|refine Pk.f ?_|refine Pk.t ?_|refine Ru.neq_nil0 ?_|refine Ru.n1 ?_|refine Ru.n2 ?_|refine CW.s ?_);conv=>whnf)
   refine Ca.of (onch_ok w10 x C8 H10 hA8 hO8) ?_
   rintro _ w11 ⟨rfl,k11⟩
   have J11:=J10.keep0 k11
   have H11:=H10.keep k11 (by simp)
   have r1111:=r1110.keep k11 (by simp)
   clear J10 k11 H10 r1110
   conv=>whnf
   refine Ru.alloca (zout_run w11) ?_
   intro x14 w12 hx14 hs12 r14 k12
   conv=>whnf
   refine Ru.sta r14 out_size (by omega) (fun j _=>plcL_one L8 j) ?_
   intro w13 r1413 k13
   have r1413:Row w13 x14 59 25 (fun o=>.int .i64 (plcL L8 o)):=r1413.congr (fun j hj=>by unfold lay;rw [if_pos (by omega),Nat.sub_zero])
   have q13:Keep [] w11 w13:=k12.then k13 (fun x hx=>.inr (by rw [List.mem_singleton.1 hx,hx14];exact Nat.le_refl _))
   have J13:=J11.keep0 q13
   have H13:=H11.keep q13 (by simp)
   have r1113:=r1111.keep q13 (by simp)
   clear J11 H11 r1111 r14 k12 k13 q13 hs12 hx14
  case' inl=>obtain ⟨er,her⟩:∃ er:Int,er=0:=⟨0,rfl⟩
  case' inr=>obtain ⟨er,her⟩:∃ er:Int,er=7:=⟨7,rfl⟩
  case' inl =>
   have hfin:(arT (arB aa) a 24 || arT (arB aa) (c.arr a) 24)=true∧(er=0→arT (arB aa) (c.arr a) 24=true):=by
    rw [heq,arT_self]
    exact ⟨Bool.or_true _,fun _=>rfl⟩
  case' inr =>
   have hfin:(arT (arB aa) a 24 || arT (arB aa) (c.arr a) 24)=true∧(er=0→arT (arB aa) (c.arr a) 24=true):=⟨by
    rcases haa with e | e<;>rw [e,arT_self]<;>simp,fun h=>by omega⟩
  all_goals
   conv=>whnf
   repeat ((first
    | refine Br.f ?_|refine CW.s ?_);conv=>whnf)
   refine CW.loop (ι:=Nat) (fun i w'=>i≤24∧LpI w w' ch C x3 c x7 a B∧Row w' x14 59 25 (fun o=>.int .i64 (plcL L8 o))∧Row w' x11 28 24 (arF (c.arr a))∧ChipAt w' x C8)
    (fun i=>[(3,.pointer (some ⟨x3,0,none⟩)),(5,.pointer (some ⟨ch,0,none⟩)),(7,.pointer (some ⟨x7,0,none⟩)),(8,.int .i64 n),(9,.pointer (some ⟨x,0,none⟩)),(11,.pointer (some ⟨x11,0,none⟩)),(13,errOf er),(14,.pointer (some ⟨x14,0,none⟩)),(16,.bool (arT (arB aa) a i)),(17,.bool (arT (arB aa) (c.arr a) i)),(18,.int .i64 i)]) (fun i=>24 - i) 0 tt_ok
    ⟨by omega,J13,r1413,r1113,H13⟩ ⟨rfl,rfl,rfl,rfl,rfl,rfl,by rw [her];rfl,rfl,by rw [arT_zero];rfl,by rw [arT_zero];rfl,rfl,trivial⟩ ?_
   clear J13 r1413 r1113 H13
   rintro i wi ⟨hi,J,r14,r11,Hx⟩
   rcases Nat.lt_or_ge i 24 with hi24 | hi24
   ·have ci:=r14.cell i (by omega)
    have hsh:=hS8 i
    conv=>whnf
    repeat ((first
     | refine Br.y ?_|refine CW.s ?_);conv=>whnf)
    refine Ca.of (tbytes_ok 0 (by omega) wi) ?_
    rintro _ w2 ⟨g0,rfl,hg0,rb0,k2⟩
    have ci2:=(r14.keep k2 (by simp)).cell i (by omega)
    by_cases h0:L8 i=0
    case' pos =>
     have hp:plcL L8 i = -1:=if_pos h0
     rw [hp] at ci2
     have hR:Rd w2 (some ⟨g0,0,none⟩) 160 (fun j=>.int .u8 ((arB aa i j:Nat):Int)):=(Rd.of_row rb0 (n:=160) (by omega)).congr (fun j hj=>by
      have:=hsh j hi24 hj
      unfold arr at this
      rw [if_pos h0] at this
      rw [← this]
      rfl)
     have J:=J.keep0 k2
     have r11:=r11.keep k2 (by simp)
     have r14:=r14.keep k2 (by simp)
     have Hx:=Hx.keep k2 (by simp)
     conv=>whnf
     repeat ((first
      | (refine Ix.of i (by omega) (by omega) ?_)
      | (refine Ld.at (by omega) ci2 ?_)
      | refine Br.f ?_|refine CW.s ?_);conv=>whnf)
    case' neg =>
     have hp:plcL L8 i=((L8 i - 1:Nat):Int):=if_neg h0
     rw [hp] at ci2
     obtain ⟨t,D,e1,e2⟩:=hO8.led.page (by omega) h0
     have h96:=hO8.led.lt (o:=i) (by omega)
     conv=>whnf
     repeat ((first
      | (refine Ix.of i (by omega) (by omega) ?_)
      | (refine Ld.at (by omega) ci2 ?_)
      | refine Br.t ?_|refine CW.s ?_);conv=>whnf)
     refine Ca.of (tdata_ok w2 x (L8 i - 1) C8 (Hx.keep k2 (by simp)) hA8 (by omega) e1) ?_
     rintro _ wz ⟨Y,e,rfl,O⟩
     obtain ⟨gz,rfl,-,-⟩:=O.ly.at1 (j:=0) (by omega)
     have hle:=O.ly.1
     have kz:=k2.trans O.keep
     have J:=J.keep0 kz
     have r11:=r11.keep kz (by simp)
     have r14:=r14.keep kz (by simp)
     have Hx:=Hx.keep kz (by simp)
     have hR:Rd wz (some ⟨gz,0,none⟩) 160 (fun j=>.int .u8 ((arB aa i j:Nat):Int)):=fun _=>⟨gz,0,rfl,fun j hj=>by
      obtain ⟨g',e1',e2',-⟩:=O.ly.at1 (j:=j) (by omega)
      cases e1'
      rw [Nat.zero_add,e2']
      have:=hsh j hi24 hj
      unfold arr dataAt at this
      rw [if_neg h0,e1] at this
      have h9:D j=arB aa i j:=this
      show some (Value.int .u8 ((D j:Nat):Int))=some (Value.int .u8 ((arB aa i j:Nat):Int))
      rw [h9]⟩
     conv=>whnf
     repeat ((first
      | (refine Ru.sl_h Tryz.underlying37 byte_szI (h:=160) (by omega) ?_));conv=>whnf)
    all_goals
     have a1:=ha0 i
     have a2:=ha2 i
     generalize h1:arT (arB aa) a i=b1
     generalize h2:arT (arB aa) (c.arr a) i=b2
     cases b1
     case' true =>
      conv=>whnf
      repeat ((first
       | (refine Ix.of i (by omega) (by omega) ?_)
       | (refine Ld.at (by omega) (J.r7.cell i (by omega)) ?_)
       | refine Br.t ?_);conv=>whnf)
      refine Ca.of (tbytes_ok (a i) (by omega) _) ?_
      rintro _ u1 ⟨gu,rfl,hgu,rbu,ku⟩
      have hR:=hR.keep0 ku
      have J:=J.keep0 ku
      have r11:=r11.keep ku (by simp)
      have r14:=r14.keep ku (by simp)
      have Hx:=Hx.keep ku (by simp)
      conv=>whnf
      repeat ((first
       | refine Br.t ?_);conv=>whnf)
      refine Ca.of (same17_ok _ _ 160 160 _ _ (fun j=>((arB aa i j:Nat):Int)) (fun j=>((byF (a i) j:Nat):Int)) _ hR (Rd.of_row rbu (n:=160) (by omega)) (fun j=>by have:=arB_lt aa i j;omega) (fun j=>by have:=byF_lt (a i) j;omega)) ?_
      rintro _ _ ⟨rfl,rfl⟩
     all_goals
      cases b2
      case' true =>
       conv=>whnf
       repeat ((first
        | (refine Ix.of i (by omega) (by omega) ?_)
        | (refine Ld.at (by omega) (r11.cell i (by omega)) ?_)
        | refine Br.t ?_|refine Br.f ?_|refine Pk.f ?_|refine Pk.t ?_);conv=>whnf)
       refine Ca.of (tbytes_ok ((c.arr a) i) (by omega) _) ?_
       rintro _ v1 ⟨gv,rfl,hgv,rbv,kv⟩
       have hR:=hR.keep0 kv
       have J:=J.keep0 kv
       have r11:=r11.keep kv (by simp)
       have r14:=r14.keep kv (by simp)
       have Hx:=Hx.keep kv (by simp)
       conv=>whnf
       repeat ((first
        | refine Br.t ?_);conv=>whnf)
       refine Ca.of (same17_ok _ _ 160 160 _ _ (fun j=>((arB aa i j:Nat):Int)) (fun j=>((byF ((c.arr a) i) j:Nat):Int)) _ hR (Rd.of_row rbv (n:=160) (by omega)) (fun j=>by have:=arB_lt aa i j;omega) (fun j=>by have:=byF_lt ((c.arr a) i) j;omega)) ?_
       rintro _ _ ⟨rfl,rfl⟩
     all_goals
      conv=>whnf
      repeat ((first
       | refine Br.f ?_|refine Pk.f ?_|refine Pk.t ?_|refine Ar.la ?_);conv=>whnf)
      exact ⟨i+1,⟨hi24,J,r14,r11,Hx⟩,⟨rfl,rfl,rfl,rfl,rfl,rfl,rfl,rfl,vb (by rw [arT_succ,h1];rfl),vb (by rw [arT_succ,h2];rfl),vi (by first | omega | (simp only;omega)),trivial⟩,by simp only;omega⟩
   ·obtain rfl:i=24:=by omega
    obtain ⟨hf1,hf2⟩:=hfin
    generalize arT (arB aa) a 24=b1 at *
    generalize arT (arB aa) (c.arr a) 24=b2 at *
    have kk:=J.kk
    subst her
    cases b1<;>cases b2<;>first | (exact absurd hf1 (by decide)) | (exact absurd (hf2 rfl) (by decide)) | skip
    all_goals
     conv=>whnf
     repeat ((first
      | refine Br.t ?_|refine Br.f ?_|refine Pk.f ?_|refine Pk.t ?_|refine Ar.la ?_|refine Ru.eql_nil0 ?_|refine Ru.e1 ?_|refine CW.s ?_);conv=>whnf)
     first
      | exact ⟨rfl,rfl,kk⟩
      | exact ⟨n+1,⟨hlt,J⟩,⟨rfl,rfl,rfl,vi (by first | omega | (simp only;omega)),trivial⟩,by simp only;omega⟩
 ·conv=>whnf
  repeat ((first
   | refine Br.n ?_|refine CW.s ?_);conv=>whnf)
  exact ⟨rfl,rfl,J.kk⟩
end Go.Proofs.YtaeikigfgfcadaaGreat
namespace Go.Proofs.YtaeikigfgfcadaaGreat.topLedger
open Go.RowKit Go.Joins Go.ChangeAt
theorem and_ {a b:Bool} (h:a=true) (k:b=true):(a && b)=true:=by rw [h,k];rfl
theorem j0:(Rows.topLedgerUptoRow.wf (OpenSpec.ofChange (Rows.OpenSpec.upto Rows.topLedgerSpec).bare):Bool)=true:=by kernel_rfl
theorem j1:(laidOutB Tryz.pinned.checked.prog:Bool)=true:=by kernel_rfl
theorem j2:(mapsRowed Tryz.pinned.checked.prog:Bool)=true:=by kernel_rfl
theorem j3:((Tryz.f7).params.all (Tryz.pinned.checked.prog.readableRec ·):Bool)=true:=by kernel_rfl
theorem j4:(namedTie Tryz.pinned.checked.prog Rows.topLedgerUptoRow.named (Rows.OpenSpec.upto Rows.topLedgerSpec).bare.vars:Bool)=true:=by kernel_rfl
theorem j5:((Rows.topLedgerUptoRow.stops == []):Bool)=true:=by kernel_rfl
theorem j6:((Tryz.pinned.checked.prog.stops == []):Bool)=true:=by kernel_rfl
theorem j7:((Rows.topLedgerUptoRow.knobs == []):Bool)=true:=by kernel_rfl
theorem j8:((Tryz.pinned.checked.prog.stopKnobs == []):Bool)=true:=by kernel_rfl
theorem j9:((Rows.topLedgerUptoRow.inPlace == Tryz.pinned.checked.prog.inPlace 7):Bool)=true:=by kernel_rfl
theorem j10:((Rows.topLedgerUptoRow.unfollowed == Tryz.pinned.checked.prog.unfollowed 7):Bool)=true:=by kernel_rfl
theorem j11:((Rows.topLedgerUptoRow.recurses == Tryz.pinned.checked.prog.recurses 7):Bool)=true:=by kernel_rfl
theorem j12:((Rows.topLedgerUptoRow.named == Tryz.pinned.checked.prog.varsNamed 7):Bool)=true:=by kernel_rfl
theorem j13:((Rows.topLedgerUptoRow.maps == ((Tryz.f7).params.toList ++ (Rows.OpenSpec.upto Rows.topLedgerSpec).bare.plain.varTypes Tryz.pinned.checked.prog).any (Tryz.pinned.checked.prog.mapsRec ·)):Bool)=true:=by kernel_rfl
theorem j14:((Rows.topLedgerUptoRow.ifaces == ((Tryz.f7).params.toList ++ (Rows.OpenSpec.upto Rows.topLedgerSpec).bare.plain.varTypes Tryz.pinned.checked.prog).any (Tryz.pinned.checked.prog.ifacesRec ·)):Bool)=true:=by kernel_rfl
theorem j15:((Rows.topLedgerUptoRow.mapsOut == Tryz.pinned.checked.prog.mapsAmong (Tryz.f7).resultTypes.toList):Bool)=true:=by kernel_rfl
theorem j16:((Rows.topLedgerUptoRow.loops == ((Tryz.f7).params.toList ++ (Rows.OpenSpec.upto Rows.topLedgerSpec).bare.plain.varTypes Tryz.pinned.checked.prog).any (Tryz.pinned.checked.prog.loopsFrom ·)):Bool)=true:=by kernel_rfl
theorem j17:((Rows.topLedgerUptoRow.wideKeys == ((Tryz.f7).params.toList ++ (Rows.OpenSpec.upto Rows.topLedgerSpec).bare.plain.varTypes Tryz.pinned.checked.prog ++ (Tryz.f7).resultTypes.toList).any (Tryz.pinned.checked.prog.wideKeysFrom ·)):Bool)=true:=by kernel_rfl
theorem j18:((Rows.OpenSpec.upto Rows.topLedgerSpec).bare.vars.all (Tryz.pinned.checked.prog.varReadable ·):Bool)=true:=by kernel_rfl
theorem j19:((Tryz.f7).resultTypes.all (fun t=>Tryz.pinned.checked.prog.readableRec t && decide (t<Tryz.pinned.checked.prog.types.size)):Bool)=true:=by kernel_rfl
theorem j20:((Rows.topLedgerUptoRow.ifacesOut == (Tryz.f7).resultTypes.toList.any (Tryz.pinned.checked.prog.ifacesRec ·)):Bool)=true:=by kernel_rfl
theorem j21:((Rows.topLedgerUptoRow.loopsOut == (Tryz.f7).resultTypes.toList.any (Tryz.pinned.checked.prog.loopsFrom ·)):Bool)=true:=by kernel_rfl
theorem j22:((Rows.topLedgerUptoRow.plainKeys == Tryz.pinned.checked.prog.plainKeys):Bool)=true:=by kernel_rfl
theorem j23:(Rows.topLedgerUptoRow.shortTexts.isNone:Bool)=true:=by kernel_rfl
theorem j24:(Tryz.pinned.checked.prog.stopsHeard:Bool)=true:=by kernel_rfl
theorem j25:(Tryz.pinned.checked.prog.mayEnter:Bool)=true:=by kernel_rfl
theorem j26:((Rows.topLedgerUptoRow.lifted == Tryz.pinned.checked.prog.liftsFinal):Bool)=true:=by kernel_rfl
theorem j27:((Tryz.pinned.checked.prog.make == some Rows.topLedgerUptoRow.make):Bool)=true:=by kernel_rfl
theorem j28:((Rows.topLedgerUptoRow.kinds == (if Rows.topLedgerUptoRow.domain.isEmpty then [] else (Tryz.f7).params.toList.map fun t=>match Tryz.pinned.checked.prog.underlying t with | some (.int k)=>some k | _=>none)):Bool)=true:=by kernel_rfl
theorem j29:((Rows.topLedgerUptoRow.pinned == Rows.topLedgerUptoRow.pinnedBy):Bool)=true:=by kernel_rfl
theorem j30:((Rows.topLedgerUptoRow.veiled == ((Tryz.f7).params.toList ++ (Rows.OpenSpec.upto Rows.topLedgerSpec).bare.plain.varTypes Tryz.pinned.checked.prog ++ (Tryz.f7).resultTypes.toList).any (Tryz.pinned.checked.prog.veiledRec ·)):Bool)=true:=by kernel_rfl
theorem j31:(Rows.topLedgerUptoRow.veiledFits Tryz.pinned.checked.prog (Tryz.f7).params.toList ((Tryz.f7).params.toList ++ (Rows.OpenSpec.upto Rows.topLedgerSpec).bare.plain.varTypes Tryz.pinned.checked.prog ++ (Tryz.f7).resultTypes.toList):Bool)=true:=by kernel_rfl
set_option maxRecDepth 20000 in
theorem closed:joinedFacts Tryz.pinned.checked.prog 7 Tryz.f7 (Rows.OpenSpec.upto Rows.topLedgerSpec).bare Rows.topLedgerUptoRow=true:=(and_ (and_ (and_ (and_ (and_ (and_ (and_ (and_ (and_ (and_ (and_ (and_ (and_ (and_ (and_ (and_ (and_ (and_ (and_ (and_ (and_ (and_ (and_ (and_ (and_ (and_ (and_ (and_ (and_ (and_ (and_ j0 j1) j2) j3) j4) j5) j6) j7) j8) j9) j10) j11) j12) j13) j14) j15) j16) j17) j18) j19) j20) j21) j22) j23) j24) j25) j26) j27) j28) j29) j30) j31)
theorem wrap:(Tryz.f7).isWrapper Tryz.pinned.checked.prog Rows.topLedgerUptoRow.wrapper Rows.topLedgerUptoRow.mainSum:=by unfold Func.isWrapper;first | (rw [if_pos (by decide +kernel)];kernel_rfl) | (rw [if_neg (by decide +kernel)];exact ⟨rfl,rfl⟩)
end Go.Proofs.YtaeikigfgfcadaaGreat.topLedger
