/- Texts behind one another: CopiesW, JnTopCopies. -/
import Derived.WalkKit
import Derived.ProofKit
import Derived.ChangeOld
import Derived.SizedLaws
import Derived.JoinedCond
import Derived.Lib.SmallJoins
import Derived.Test.YtaeikigfgfcadaaGreatMq0a
import Derived.Test.YtaeikigfgfcadaaGreatMq0b
import Derived.Test.YtaeikigfgfcadaaGreatMq0c
import Derived.Test.YtaeikigfgfcadaaGreatMq0d
import Derived.Test.YtaeikigfgfcadaaGreatMq0e
import Derived.Test.YtaeikigfgfcadaaGreatMq0f
import Derived.Test.YtaeikigfgfcadaaGreatMq1a
import Derived.Test.YtaeikigfgfcadaaGreatMq2a
set_option linter.unusedVariables false
set_option linter.unusedSimpArgs false
set_option linter.unnecessarySimpa false
namespace Go.Proofs.YtaeikigfgfcadaaGreat
open Go.RowKit
set_option maxRecDepth 20000
theorem fds_inc (P:CS):∀ n i k,i<k→k<(fdsTo P n).length→((fdsTo P n).getD i Fd.zero).place<((fdsTo P n).getD k Fd.zero).place
 | 0,i,k,_,h=>by
  rw [fdsTo_zero] at h
  exact absurd h (by simp)
 | n+1,i,k,hik,h=>by
  have ih:=fds_inc P n i k hik
  by_cases hf:∃ t D,P.pg n = .full t D
  ·obtain ⟨t,D,hp⟩:=hf
   rw [fdsTo_full hp] at h ⊢
   rw [List.length_append,List.length_singleton] at h
   by_cases hk:k<(fdsTo P n).length
   ·rw [List.getD_eq_getElem?_getD,List.getD_eq_getElem?_getD,List.getElem?_append_left (by omega),List.getElem?_append_left hk, ← List.getD_eq_getElem?_getD, ← List.getD_eq_getElem?_getD]
    exact ih hk
   ·obtain rfl:k=(fdsTo P n).length:=by omega
    rw [List.getD_eq_getElem?_getD,List.getD_eq_getElem?_getD,List.getElem?_append_left (by omega),List.getElem?_append_right (Nat.le_refl _), ← List.getD_eq_getElem?_getD]
    have hm:(fdsTo P n).getD i Fd.zero∈fdsTo P n:=by
     rw [List.getD_eq_getElem?_getD,List.getElem?_eq_getElem hik]
     exact List.getElem_mem hik
    obtain ⟨p,t',D',h1,h2,h3⟩:=fdsTo_mem hm
    rw [h3,Nat.sub_self]
    show (p:Int)<(n:Int)
    omega
  ·rw [fdsTo_not (fun t D e=>hf ⟨t,D,e⟩)] at h ⊢
   exact ih h
theorem fds_at (P:CS) {n i:Nat} (h:i<(fdsTo P n).length):∃ p t D,p<n∧P.pg p = .full t D∧(fdsTo P n).getD i Fd.zero=fdOf p t:=by
 have hm:(fdsTo P n).getD i Fd.zero∈fdsTo P n:=by
  rw [List.getD_eq_getElem?_getD,List.getElem?_eq_getElem h]
  exact List.getElem_mem h
 exact fdsTo_mem hm
theorem twin3 {t t' t'':Tg} (h0:0≤t.copy∧t.copy≤255) (h1:0≤t'.copy∧t'.copy≤255) (h2:0≤t''.copy∧t''.copy≤255) (a:Twin t t') (b:Twin t t'') (c:Twin t' t''):False:=by
 unfold Twin at a b c
 omega
theorem twin_apart {t t':Tg} (h0:0≤t.copy∧t.copy≤255) (h1:0≤t'.copy∧t'.copy≤255) (a:Twin t t'):(t'.copy - t.copy+256) % 256=1∨(t'.copy - t.copy+256) % 256=255:=by
 unfold Twin at a
 omega
theorem ok_copy {t:Tg} (h:t.ok):0≤t.copy∧t.copy≤255:=by
 obtain ⟨_,_,_,_,_,_,h6,h7,_,_⟩:=h
 exact ⟨h6,h7⟩
attribute [local irreducible] fdsTo
set_option maxHeartbeats 32000000 in
theorem topcopies_ok {w:World} {L:List Cl} {A:Option Addr} {cA:Nat} {c:Cl} (hL:Rd w A (L.length * 3) (clF L)) (hLw:∀ c,c∈L→c.wf) (hL1:L.length≤1048576) (hcw:c.wf) :
  Spec Tryz.prog 9 #[.slice A L.length cA,agg 3 c.cell] w fun v w'=>v = .bool true∧Keep [] w w':=by
 refine spec_of_wpE (T:=tt) tt_ok Tryz.func9 rfl (by decide +kernel) Tryz.ntmps9 (by simp) ?_
 conv=>whnf
 refine Ru.boxa ?_
 intro x3 w1 hx3 hs1 r3 k1
 conv=>whnf
 refine Ca.of (begun_ok (hL.keep0 k1) hLw hL1) ?_
 rintro _ w2 ⟨ch,d,own,K,P,k,rfl,Bg⟩
 have ha0:=playA_le (a:=fun _=>0) (fun _=>by omega) L
 obtain ⟨D,I,q,s,nw,kb⟩:=Bg
 generalize playA (fun _=>0) L=a at *
 have hx3w:w.heap.size≤x3:=by omega
 have hx32:x3<w2.heap.size:=by have:=kb.size;omega
 have r32:=r3.keep kb (by simp)
 have kk2:=k1.trans kb
 obtain ⟨C,H,hA,hl⟩:=D.chip
 have hcal:=I.l.ok.gd.calm
 obtain ⟨K1,P1,tr1,M,I1,q1,hs1'⟩:=mount_end I.l.ok (by omega)
 have sh1:=(hs1' _ s).2
 obtain ⟨K2,P2,k2',t1,t2,rd,CE,An,hcall⟩:=does_call I1 q1 (by omega) hcw sh1
 have ha2:∀ o,c.arr a o≤1000000:=arr_le ha0 c
 have hchl:ch<w2.heap.size:=Row.lt H
 clear hs1' sh1 q s nw D
 conv=>whnf
 refine Ru.alloca (alloc_ar w2) ?_
 intro x7 w3 hx7 hs3 r7 k3
 conv=>whnf
 refine Ru.sta r7 size_ar (by omega) (fun j hj=>arF_one _ j) ?_
 intro w4 r74 k4
 have r74:Row w4 x7 28 24 (arF a):=r74.congr (fun j hj=>by unfold lay;rw [if_pos (by omega),Nat.sub_zero])
 have q4:Keep [] w2 w4:=k3.then k4 (fun x hx=>.inr (by rw [List.mem_singleton.1 hx,hx7];exact Nat.le_refl _))
 have hs4:w2.heap.size+1≤w4.heap.size:=by have:=k4.size;omega
 have LI:LpI w w4 ch C x3 c x7 a (w2.heap.size+1):=⟨H.keep q4 (by simp),r32.keep q4 (by simp),r74,kk2.trans q4,by omega,by omega,by omega,by have:=kk2.size;omega,hs4⟩
 have hB2:w.heap.size≤w2.heap.size+1:=LI.hB
 generalize w2.heap.size+1=B at *
 clear r3 r32 r7 r74 k3 k4 q4 H k1 kb hs1 hs3 hs4 kk2 hx3 hx7 hx3w hx32 hchl
 conv=>whnf
 repeat ((first
  | refine CW.s ?_);conv=>whnf)
 refine Ru.of (chip_eq w4 _ _) ?_
 conv=>whnf
 repeat ((first
  | refine Br.f ?_|refine CW.s ?_);conv=>whnf)
 refine CW.loop (ι:=Nat) (fun i w'=>i≤400∧LpI w w' ch C x3 c x7 a B)
  (fun i=>[(3,.pointer (some ⟨x3,0,none⟩)),(5,.pointer (some ⟨ch,0,none⟩)),(7,.pointer (some ⟨x7,0,none⟩)),(8,.int .i64 i)]) (fun i=>400 - i) 0 tt_ok
  ⟨by omega,LI⟩ ⟨rfl,rfl,rfl,rfl,trivial⟩ ?_
 clear LI
 rintro n wr ⟨hn,J⟩
 rcases Nat.lt_or_ge n 400 with hlt | hge
 ·have hwrB:=J.sz
  conv=>whnf
  repeat ((first
   | refine Br.y ?_|refine CW.s ?_);conv=>whnf)
  refine Ca.of (nclone_ok J.chip) ?_
  rintro _ w5 ⟨rfl,Hx,k5⟩
  have J5:=J.keep0 k5
  obtain ⟨x,hx⟩:∃ x,x=wr.heap.size:=⟨_,rfl⟩
  rw [← hx] at Hx ⊢
  have hxB:B≤x:=by omega
  clear J
  conv=>whnf
  repeat ((first
   | refine CW.s ?_);conv=>whnf)
  refine Ru.of (chip_eq w5 _ _) ?_
  conv=>whnf
  repeat ((first
   | refine Br.f ?_);conv=>whnf)
  refine Ca.of (onchip_ok Hx hA hl hcal M q1) ?_
  rintro _ w6 ⟨k6,hr6⟩
  rcases hr6 with ⟨f6,d6,own6,rfl,D6,ho6⟩ | ⟨y,hy,hyb,-⟩
  case inr=>cases hyb
  have J6:=J5.new k6 hxB
  have ho6':∀ y,y∈own6→B≤y:=fun y hy=>by
   have:=J5.sz
   rcases ho6 y hy with h | h<;>omega
  clear Hx J5 f6 ho6
  conv=>whnf
  repeat ((first
   | refine CW.s ?_);conv=>whnf)
  refine Ru.of (dev_none w6 _ _) ?_
  conv=>whnf
  repeat ((first
   | refine Br.f ?_);conv=>whnf)
  refine Ca.of (cut_dv D6 n (by omega)) ?_
  rintro _ w7 ⟨rfl,D7,k7⟩
  have J7:=J6.new k7 hxB
  clear D6 J6 k7 k6
  conv=>whnf
  refine Ru.ldaC (q:=arF a) J7.r7 Tryz.underlying28 rfl size_ar (by omega) (fun j hj=>by rw [Nat.zero_add]) ?_
  conv=>whnf
  refine Ru.ldaC (q:=c.cell) J7.r3 Tryz.underlying36 rfl size_cl (by omega) (fun j hj=>by rw [Nat.zero_add]) ?_
  conv=>whnf
  refine Ca.of (hcall D7) ?_
  rintro u w8 ⟨k8,hr8⟩
  have J8:=J7.far k8 ho6'
  clear D7 J7 k8
  rcases hr8 with ⟨f8,⟨Y,n8,e8,f9,rfl,-,-⟩,own8,D8,h8⟩ | ⟨y,hy,hyb,rfl,hoff⟩
  case' inl =>
   have hT:=D8.tl CE.inv CE.sh
   obtain ⟨aa,heq⟩:∃ aa,aa=c.arr a:=⟨_,rfl⟩
   have haa:aa=a∨aa=c.arr a:=.inr heq
   rw [← heq] at hT
   clear D8 h8 f8
  case' inr =>
   obtain ⟨aa,haa,hTl⟩:=CE.dead (List.getElem_mem hy)
   have hT:=hoff.tl hTl
   clear hoff hTl hyb
  all_goals
   conv=>whnf
   refine Ru.alloca (alloc_ar w8) ?_
   intro x11 w9 hx11 hs9 r11 k9
   conv=>whnf
   refine Ru.sta r11 size_ar (by omega) (fun j hj=>arF_one _ j) ?_
   intro w10 r1110 k10
   have r1110:Row w10 x11 28 24 (arF (c.arr a)):=r1110.congr (fun j hj=>by unfold lay;rw [if_pos (by omega),Nat.sub_zero])
   have q10:Keep [] w8 w10:=k9.then k10 (fun x hx=>.inr (by rw [List.mem_singleton.1 hx,hx11];exact Nat.le_refl _))
   have J10:=J8.keep0 q10
   obtain ⟨C8,P8,H8,hA8,k8,L8,hO8,hS8⟩:=hT
   have H10:=H8.keep q10 (by simp)
   clear J8 H8 r11 k9 k10 q10 hs9 hx11
   conv=>whnf
   repeat ((first
    | refine Br.t ?_|refine Br.f ?_|refine Pk.f ?_|refine Pk.t ?_|refine Ru.neq_nil0 ?_|refine Ru.n1 ?_|refine Ru.n2 ?_|refine CW.s ?_);conv=>whnf)
   refine Ca.of (truths_ok w10 x C8 H10 hA8) ?_
   rintro _ w11 ⟨Z,cz,rfl,ly,-,k11⟩
   have J11:=J10.keep0 k11
   have H11:=H10.keep k11 (by simp)
   have hgd:=hO8.gd
   have hn96:=fdsTo_len P8 96
   have hmem:=fun i h=>fds_at P8 (n:=96) (i:=i) h
   have hinc:=fds_inc P8 96
   clear J10 k11 H10 r1110
   generalize fdsTo P8 96=F at *
  case' inl=>obtain ⟨er,her⟩:∃ er:Int,er=0:=⟨0,rfl⟩
  case' inr=>obtain ⟨er,her⟩:∃ er:Int,er=7:=⟨7,rfl⟩
  all_goals
   conv=>whnf
   repeat ((first
    | refine CW.s ?_);conv=>whnf)
   refine CW.loop (ι:=Nat) (fun i w'=>i≤F.length∧LpI w w' ch C x3 c x7 a B∧ChipAt w' x C8∧Ly w' 69 6 Z F.length cz (fdF F))
    (fun i=>[(3,.pointer (some ⟨x3,0,none⟩)),(5,.pointer (some ⟨ch,0,none⟩)),(7,.pointer (some ⟨x7,0,none⟩)),(8,.int .i64 n),(9,.pointer (some ⟨x,0,none⟩)),(13,errOf er),(14,.slice Z F.length cz),(15,.int .i64 i)]) (fun i=>F.length - i) 0 tt_ok
    ⟨by omega,J11,H11,ly⟩ ⟨rfl,rfl,rfl,rfl,rfl,by rw [her];rfl,rfl,rfl,trivial⟩ ?_
   clear J11 H11 ly
   rintro i wi ⟨hi,J,Hx,ly⟩
   rcases Nat.lt_or_ge i F.length with hilt | hige
   ·obtain ⟨p,t,D,hp,hpg,hfi⟩:=hmem i hilt
    obtain ⟨okt,hpl,-⟩:=hgd.val p t D hp hpg
    have hct:=ok_copy okt
    conv=>whnf
    repeat ((first
     | refine Br.y ?_|refine CW.s ?_);conv=>whnf)
    refine CW.loop (ι:=Nat × Nat) (fun y w'=>y.1≤F.length∧y.2≤1∧(y.2=1→∃ k0,k0<y.1∧k0≠i∧k0<F.length∧(F.getD k0 Fd.zero).seq=t.seq)∧LpI w w' ch C x3 c x7 a B∧ChipAt w' x C8∧Ly w' 69 6 Z F.length cz (fdF F))
     (fun y=>[(3,.pointer (some ⟨x3,0,none⟩)),(5,.pointer (some ⟨ch,0,none⟩)),(7,.pointer (some ⟨x7,0,none⟩)),(8,.int .i64 n),(9,.pointer (some ⟨x,0,none⟩)),(13,errOf er),(14,.slice Z F.length cz),(15,.int .i64 i),(16,.int .i64 y.2),(17,.int .i64 y.1)]) (fun y=>F.length - y.1) (0,0) tt_ok
     ⟨by omega,by omega,⟨fun h=>(by cases h),J,Hx,ly⟩⟩ ⟨rfl,rfl,rfl,rfl,rfl,rfl,rfl,rfl,rfl,rfl,trivial⟩ ?_
    clear J Hx ly
    rintro ⟨k,tw⟩ wk ⟨hk,htw,htw1,J,Hx,ly⟩
    simp only at hk htw htw1 ⊢
    rcases Nat.lt_or_ge k F.length with hklt | hkge
    ·obtain ⟨b,o,hZb,hck⟩:=fd_cells ly.rd k hklt
     obtain ⟨b',o',hZb',hci⟩:=fd_cells ly.rd i hilt
     rw [hZb] at hZb'
     injection hZb' with hZb'
     injection hZb' with hb1 hb2
     subst hb1
     subst hb2
     subst hZb
     rw [hfi] at hci
     have i0:∀ (w':World),(∀ j,j<6→w'.cell? ⟨b,o+i * 6+j,none⟩=some ((fdOf p t).cell j))→w'.cell? ⟨b,o+i * 6+2,none⟩=some (.int .i64 t.of)∧w'.cell? ⟨b,o+i * 6+3,none⟩=some (.int .i64 t.seq)∧w'.cell? ⟨b,o+i * 6+4,none⟩=some (.int .i64 t.copy)∧w'.cell? ⟨b,o+i * 6+0,none⟩=some (.int .i64 (p:Nat)):=fun w' h=>⟨h 2 (by omega),h 3 (by omega),h 4 (by omega),h 0 (by omega)⟩
     obtain ⟨q,t',D',hq,hqg,hfk⟩:=hmem k hklt
     obtain ⟨okt',hpl',-⟩:=hgd.val q t' D' hq hqg
     have hct':=ok_copy okt'
     rw [hfk] at hck
     have k0:∀ (w':World),(∀ j,j<6→w'.cell? ⟨b,o+k * 6+j,none⟩=some ((fdOf q t').cell j))→w'.cell? ⟨b,o+k * 6+2,none⟩=some (.int .i64 t'.of)∧w'.cell? ⟨b,o+k * 6+3,none⟩=some (.int .i64 t'.seq)∧w'.cell? ⟨b,o+k * 6+4,none⟩=some (.int .i64 t'.copy)∧w'.cell? ⟨b,o+k * 6+0,none⟩=some (.int .i64 (q:Nat)):=fun w' h=>⟨h 2 (by omega),h 3 (by omega),h 4 (by omega),h 0 (by omega)⟩
     have hpq:k≠i→p≠q:=fun hne e=>by
      have hx:∀ a b,a<b→b<F.length→(F.getD a Fd.zero).place<(F.getD b Fd.zero).place:=fun a b h1 h2=>hinc a b h1 h2
      rcases Nat.lt_or_gt_of_ne hne with h | h
      ·have:=hx k i h hilt
       rw [hfi,hfk,e] at this
       exact absurd this (Int.lt_irrefl _)
      ·have:=hx i k h hklt
       rw [hfi,hfk,e] at this
       exact absurd this (Int.lt_irrefl _)
     conv=>whnf
     repeat ((first
      | refine Br.y ?_|refine CW.s ?_);conv=>whnf)
     refine CW.held (fun w'=>(∀ j,j<6→w'.cell? ⟨b,o+k * 6+j,none⟩=some ((fdOf q t').cell j))∧(∀ j,j<6→w'.cell? ⟨b,o+i * 6+j,none⟩=some ((fdOf p t).cell j))) [] (.take 0 (.take 1 (.take 2 (.take 3 (.take 4 (.take 5 (.take 6 (.take 7 (.take 8 (.take 9 (.take 10 (.take 11 (.take 12 (.take 13 (.take 14 (.take 15 (.take 16 (.take 17 (.take 18 (.take 19 (.take 20 (.take 21 (.take 22 (.take 23 (.take 24 (.take 25 (.take 26 (.take 27 (.take 28 (.take 29 (.take 30 (.take 31 (.take 32 (.done)))))))))))))))))))))))))))))))))) tt_ok (by kernel_rfl) (by kernel_rfl) (by kernel_rfl) ?_ ?_
     ·exact ⟨hck,hci⟩
     have q1:=(Keep.refl [] wk).drewN 1
     have J1:=J.keep0 q1
     have Hx1:=Hx.keep q1 (by simp)
     have ly1:=ly.keep0 q1
     have hck1:∀ j,j<6→(wk.drewN 1).cell? ⟨b,o+k * 6+j,none⟩=some ((fdOf q t').cell j):=hck
     have hci1:∀ j,j<6→(wk.drewN 1).cell? ⟨b,o+i * 6+j,none⟩=some ((fdOf p t).cell j):=hci
     clear J Hx ly hck hci q1
     generalize wk.drewN 1=wl at *
     by_cases hki:k=i
     ·subst hki
      conv=>whnf
      repeat ((first
       | refine Br.t ?_|refine Pk.t ?_|refine Ar.la ?_|refine Br.y ?_);conv=>whnf)
      exact ⟨(k+1,tw),⟨by simp only;omega,htw,⟨fun h=>by
       obtain ⟨k0,h1,h2⟩:=htw1 h
       exact ⟨k0,by simp only;omega,h2⟩,J1,Hx1,ly1⟩⟩,⟨rfl,rfl,rfl,rfl,rfl,rfl,rfl,rfl,rfl,vi (by first | omega | (simp only;omega)),trivial⟩,by simp only;omega⟩
     ·have hne:=hpq hki
      have nx:(tw=1→∃ k0,k0<k+1∧k0≠i∧k0<F.length∧(F.getD k0 Fd.zero).seq=t.seq):=fun h=>by
       obtain ⟨k0,h1,h2⟩:=htw1 h
       exact ⟨k0,by omega,h2⟩
      by_cases hof:t'.of=t.of
      ·by_cases hsq:t'.seq=t.seq
       ·obtain ⟨-,hDD,hTw⟩:=hgd.seq p q t t' D D' hp hq hne hpg hqg hsq.symm
        have h0:tw=0:=by
         rcases Nat.eq_zero_or_pos tw with h | h
         ·exact h
         ·exfalso
          obtain ⟨k0,a1,a2,a3,a4⟩:=htw1 (by omega)
          obtain ⟨r,t'',D'',hr,hrg,hfr⟩:=hmem k0 a3
          rw [hfr] at a4
          have a4:t''.seq=t.seq:=a4
          have e1:p≠r:=fun e=>by
           rcases Nat.lt_or_gt_of_ne a2 with h9 | h9
           ·have:=hinc k0 i h9 hilt
            rw [hfi,hfr,e] at this
            exact absurd this (Int.lt_irrefl _)
           ·have:=hinc i k0 h9 a3
            rw [hfi,hfr,e] at this
            exact absurd this (Int.lt_irrefl _)
          have e2:q≠r:=fun e=>by
           have:=hinc k0 k a1 hklt
           rw [hfk,hfr,e] at this
           exact absurd this (Int.lt_irrefl _)
          obtain ⟨-,-,b1⟩:=hgd.seq p r t t'' D D'' hp hr e1 hpg hrg a4.symm
          obtain ⟨-,-,b2⟩:=hgd.seq q r t' t'' D' D'' hq hr e2 hqg hrg (hsq.trans a4.symm)
          exact twin3 hct hct' (ok_copy (hgd.val r t'' D'' hr hrg).1) hTw b1 b2
        subst h0
        have hap:=twin_apart hct hct' hTw
        obtain ⟨ci2,ci3,ci4,ci0⟩:=i0 wl hci1
        obtain ⟨ck2,ck3,ck4,ck0⟩:=k0 wl hck1
        conv=>whnf
        repeat ((first
         | (refine Br.isnt (decide_eq_false (fun e=>hki (Int.ofNat.inj e))) ?_)
         | (refine Ix.of k (by omega) (by omega) ?_)
         | (refine Ix.of i (by omega) (by omega) ?_)
         | (refine LdQ.at (by omega) (fun w' h=>(k0 w' h.1).1) ?_)
         | (refine LdQ.at (by omega) (fun w' h=>(k0 w' h.1).2.1) ?_)
         | (refine LdQ.at (by omega) (fun w' h=>(i0 w' h.2).1) ?_)
         | (refine LdQ.at (by omega) (fun w' h=>(i0 w' h.2).2.1) ?_)
         | refine Br.f ?_|refine Pk.f ?_|refine Ar.la ?_|refine Br.ny ?_);conv=>whnf)
        clear ci2 ci3 ci4 ci0 ck2 ck3 ck4 ck0
        refine CW.held (fun w'=>(∀ j,j<6→w'.cell? ⟨b,o+k * 6+j,none⟩=some ((fdOf q t').cell j))∧(∀ j,j<6→w'.cell? ⟨b,o+i * 6+j,none⟩=some ((fdOf p t).cell j))) [] (.take 0 (.take 1 (.take 2 (.take 3 (.take 4 (.take 5 (.take 6 (.take 7 (.take 8 (.take 9 (.take 10 (.take 11 (.take 12 (.take 13 (.take 14 (.take 15 (.done))))))))))))))))) tt_ok (by kernel_rfl) (by kernel_rfl) (by kernel_rfl) ?_ ?_
        ·exact ⟨hck1,hci1⟩
        have q2:=(Keep.refl [] wl).drewN 1
        have J2:=J1.keep0 q2
        have Hx2:=Hx1.keep q2 (by simp)
        have ly2:=ly1.keep0 q2
        have hck2:∀ j,j<6→(wl.drewN 1).cell? ⟨b,o+k * 6+j,none⟩=some ((fdOf q t').cell j):=hck1
        have hci2:∀ j,j<6→(wl.drewN 1).cell? ⟨b,o+i * 6+j,none⟩=some ((fdOf p t).cell j):=hci1
        clear J1 Hx1 ly1 hck1 hci1 q2
        generalize wl.drewN 1=wm at *
        conv=>whnf
        repeat ((first
         | (refine Ix.of k (by omega) (by omega) ?_)
         | (refine Ix.of i (by omega) (by omega) ?_)
         | (refine LdQ.at (by omega) (fun w' h=>(k0 w' h.1).2.2.1) ?_)
         | (refine LdQ.at (by omega) (fun w' h=>(i0 w' h.2).2.2.1) ?_)
         | refine Ar.la ?_|refine Dv.r ?_);conv=>whnf)
        refine CW.held (fun w'=>(∀ j,j<6→w'.cell? ⟨b,o+k * 6+j,none⟩=some ((fdOf q t').cell j))∧(∀ j,j<6→w'.cell? ⟨b,o+i * 6+j,none⟩=some ((fdOf p t).cell j))) [] (.take 0 (.take 1 (.take 2 (.take 3 (.take 4 (.take 5 (.take 7 (.take 8 (.take 9 (.take 10 (.take 11 (.take 12 (.one 6 (.one 13 (.one 14 (.take 15 (.done))))))))))))))))) tt_ok (by kernel_rfl) (by kernel_rfl) (by kernel_rfl) ?_ ?_
        ·exact ⟨hck2,hci2⟩
        have q3:=(Keep.refl [] wm).drewN 1
        have J3:=J2.keep0 q3
        have Hx3:=Hx2.keep q3 (by simp)
        have ly3:=ly2.keep0 q3
        have hck3:∀ j,j<6→(wm.drewN 1).cell? ⟨b,o+k * 6+j,none⟩=some ((fdOf q t').cell j):=hck2
        have hci3:∀ j,j<6→(wm.drewN 1).cell? ⟨b,o+i * 6+j,none⟩=some ((fdOf p t).cell j):=hci2
        clear J2 Hx2 ly2 hck2 hci2 q3
        generalize wm.drewN 1=wn at *
        conv=>whnf
        repeat ((first
         | (refine Ix.of k (by omega) (by omega) ?_)
         | (refine Ix.of i (by omega) (by omega) ?_)
         | (refine LdQ.at (by omega) (fun w' h=>(k0 w' h.1).2.2.2) ?_)
         | (refine LdQ.at (by omega) (fun w' h=>(i0 w' h.2).2.2.2) ?_));conv=>whnf)
        subst hDD
        refine Ca.of (tdata_ok wn x p C8 Hx3 hA8 hp hpg) ?_
        rintro _ wo ⟨Y1,d1,rfl,O1⟩
        have hck4:∀ j,j<6→wo.cell? ⟨b,o+k * 6+j,none⟩=some ((fdOf q t').cell j):=fun j hj=>(O1.keep.cell (cell_lt (hck3 j hj)) (by simp)).trans (hck3 j hj)
        have hci4:∀ j,j<6→wo.cell? ⟨b,o+i * 6+j,none⟩=some ((fdOf p t).cell j):=fun j hj=>(O1.keep.cell (cell_lt (hci3 j hj)) (by simp)).trans (hci3 j hj)
        conv=>whnf
        refine ⟨⟨hck4,hci4⟩,?_⟩
        conv=>whnf
        refine Ca.of (tdata_ok wo x q C8 (Hx3.keep O1.keep (by simp)) hA8 hq hqg) ?_
        rintro _ wp ⟨Y2,d2,rfl,O2⟩
        have hck5:∀ j,j<6→wp.cell? ⟨b,o+k * 6+j,none⟩=some ((fdOf q t').cell j):=fun j hj=>(O2.keep.cell (cell_lt (hck4 j hj)) (by simp)).trans (hck4 j hj)
        have hci5:∀ j,j<6→wp.cell? ⟨b,o+i * 6+j,none⟩=some ((fdOf p t).cell j):=fun j hj=>(O2.keep.cell (cell_lt (hci4 j hj)) (by simp)).trans (hci4 j hj)
        have kp:=O1.keep.trans O2.keep
        have hDb:=(hgd.val p t D hp hpg).2.2.2.1
        conv=>whnf
        refine ⟨⟨hck5,hci5⟩,?_⟩
        conv=>whnf
        refine Ca.of (same17_ok _ _ 174 174 _ _ (fun j=>((D j:Nat):Int)) (fun j=>((D j:Nat):Int)) _ (O1.keep0 O2.keep).ly.rd1 O2.ly.rd1 (fun j=>by have:=hDb j;omega) (fun j=>by have:=hDb j;omega)) ?_
        rintro _ _ ⟨rfl,rfl⟩
        rw [sameB_yes rfl (fun _ _=>rfl)]
        conv=>whnf
        refine ⟨⟨hck5,hci5⟩,?_⟩
        rcases hap with e | e<;>rw [e]
        all_goals
         conv=>whnf
         repeat ((first
          | refine Br.t ?_|refine Br.f ?_|refine Pk.f ?_|refine Pk.t ?_|refine Ar.la ?_);conv=>whnf)
         exact ⟨(k+1,1),⟨by simp only;omega,Nat.le_refl _,⟨fun _=>⟨k,by simp only;omega,hki,hklt,by rw [hfk];exact hsq⟩,J3.keep0 kp,Hx3.keep kp (by simp),ly3.keep0 kp⟩⟩,⟨rfl,rfl,rfl,rfl,rfl,rfl,rfl,rfl,vi (by first | omega | (simp only;omega)),vi (by first | omega | (simp only;omega)),trivial⟩,by simp only;omega⟩
       ·conv=>whnf
        repeat ((first
         | (refine Br.isnt (decide_eq_false (fun e=>hki (Int.ofNat.inj e))) ?_)
         | (refine Ix.of k (by omega) (by omega) ?_)
         | (refine Ix.of i (by omega) (by omega) ?_)
         | (refine LdQ.at (by omega) (fun w' h=>(k0 w' h.1).1) ?_)
         | (refine LdQ.at (by omega) (fun w' h=>(k0 w' h.1).2.1) ?_)
         | (refine LdQ.at (by omega) (fun w' h=>(i0 w' h.2).1) ?_)
         | (refine LdQ.at (by omega) (fun w' h=>(i0 w' h.2).2.1) ?_)
         | refine Br.f ?_|refine Pk.f ?_|refine Ar.la ?_|refine Br.ny ?_|refine Br.nn ?_);conv=>whnf)
        exact ⟨(k+1,tw),⟨by simp only;omega,htw,⟨nx,J1,Hx1,ly1⟩⟩,⟨rfl,rfl,rfl,rfl,rfl,rfl,rfl,rfl,rfl,vi (by first | omega | (simp only;omega)),trivial⟩,by simp only;omega⟩
      ·conv=>whnf
       repeat ((first
        | (refine Br.isnt (decide_eq_false (fun e=>hki (Int.ofNat.inj e))) ?_)
        | (refine Ix.of k (by omega) (by omega) ?_)
        | (refine Ix.of i (by omega) (by omega) ?_)
        | (refine LdQ.at (by omega) (fun w' h=>(k0 w' h.1).1) ?_)
        | (refine LdQ.at (by omega) (fun w' h=>(i0 w' h.2).1) ?_)
        | refine Br.t ?_|refine Br.f ?_|refine Pk.f ?_|refine Pk.t ?_|refine Ar.la ?_|refine Br.nn ?_);conv=>whnf)
       exact ⟨(k+1,tw),⟨by simp only;omega,htw,⟨nx,J1,Hx1,ly1⟩⟩,⟨rfl,rfl,rfl,rfl,rfl,rfl,rfl,rfl,rfl,vi (by first | omega | (simp only;omega)),trivial⟩,by simp only;omega⟩
    ·obtain rfl:k=F.length:=by omega
     conv=>whnf
     repeat ((first
      | refine Ar.la ?_|refine Br.n ?_|refine CW.s ?_);conv=>whnf)
     exact ⟨i+1,⟨hilt,J,Hx,ly⟩,⟨rfl,rfl,rfl,rfl,rfl,rfl,rfl,vi (by first | omega | (simp only;omega)),trivial⟩,by simp only;omega⟩
   ·obtain rfl:i=F.length:=by omega
    have kk:=J.kk
    subst her
    conv=>whnf
    repeat ((first
     | refine Br.t ?_|refine Br.f ?_|refine Ar.la ?_|refine Br.n ?_|refine Ru.eql_nil0 ?_|refine Ru.e1 ?_|refine CW.s ?_);conv=>whnf)
    first
     | exact ⟨rfl,rfl,kk⟩
     | exact ⟨n+1,⟨hlt,J⟩,⟨rfl,rfl,rfl,vi (by first | omega | (simp only;omega)),trivial⟩,by simp only;omega⟩
 ·conv=>whnf
  repeat ((first
   | refine Br.n ?_|refine CW.s ?_);conv=>whnf)
  exact ⟨rfl,rfl,J.kk⟩
end Go.Proofs.YtaeikigfgfcadaaGreat
namespace Go.Proofs.YtaeikigfgfcadaaGreat.topCopies
open Go.RowKit Go.Joins Go.ChangeAt
theorem and_ {a b:Bool} (h:a=true) (k:b=true):(a && b)=true:=by rw [h,k];rfl
theorem j0:(Rows.topCopiesUptoRow.wf (OpenSpec.ofChange (Rows.OpenSpec.upto Rows.topCopiesSpec).bare):Bool)=true:=by kernel_rfl
theorem j1:(laidOutB Tryz.pinned.checked.prog:Bool)=true:=by kernel_rfl
theorem j2:(mapsRowed Tryz.pinned.checked.prog:Bool)=true:=by kernel_rfl
theorem j3:((Tryz.f9).params.all (Tryz.pinned.checked.prog.readableRec ·):Bool)=true:=by kernel_rfl
theorem j4:(namedTie Tryz.pinned.checked.prog Rows.topCopiesUptoRow.named (Rows.OpenSpec.upto Rows.topCopiesSpec).bare.vars:Bool)=true:=by kernel_rfl
theorem j5:((Rows.topCopiesUptoRow.stops == []):Bool)=true:=by kernel_rfl
theorem j6:((Tryz.pinned.checked.prog.stops == []):Bool)=true:=by kernel_rfl
theorem j7:((Rows.topCopiesUptoRow.knobs == []):Bool)=true:=by kernel_rfl
theorem j8:((Tryz.pinned.checked.prog.stopKnobs == []):Bool)=true:=by kernel_rfl
theorem j9:((Rows.topCopiesUptoRow.inPlace == Tryz.pinned.checked.prog.inPlace 9):Bool)=true:=by kernel_rfl
theorem j10:((Rows.topCopiesUptoRow.unfollowed == Tryz.pinned.checked.prog.unfollowed 9):Bool)=true:=by kernel_rfl
theorem j11:((Rows.topCopiesUptoRow.recurses == Tryz.pinned.checked.prog.recurses 9):Bool)=true:=by kernel_rfl
theorem j12:((Rows.topCopiesUptoRow.named == Tryz.pinned.checked.prog.varsNamed 9):Bool)=true:=by kernel_rfl
theorem j13:((Rows.topCopiesUptoRow.maps == ((Tryz.f9).params.toList ++ (Rows.OpenSpec.upto Rows.topCopiesSpec).bare.plain.varTypes Tryz.pinned.checked.prog).any (Tryz.pinned.checked.prog.mapsRec ·)):Bool)=true:=by kernel_rfl
theorem j14:((Rows.topCopiesUptoRow.ifaces == ((Tryz.f9).params.toList ++ (Rows.OpenSpec.upto Rows.topCopiesSpec).bare.plain.varTypes Tryz.pinned.checked.prog).any (Tryz.pinned.checked.prog.ifacesRec ·)):Bool)=true:=by kernel_rfl
theorem j15:((Rows.topCopiesUptoRow.mapsOut == Tryz.pinned.checked.prog.mapsAmong (Tryz.f9).resultTypes.toList):Bool)=true:=by kernel_rfl
theorem j16:((Rows.topCopiesUptoRow.loops == ((Tryz.f9).params.toList ++ (Rows.OpenSpec.upto Rows.topCopiesSpec).bare.plain.varTypes Tryz.pinned.checked.prog).any (Tryz.pinned.checked.prog.loopsFrom ·)):Bool)=true:=by kernel_rfl
theorem j17:((Rows.topCopiesUptoRow.wideKeys == ((Tryz.f9).params.toList ++ (Rows.OpenSpec.upto Rows.topCopiesSpec).bare.plain.varTypes Tryz.pinned.checked.prog ++ (Tryz.f9).resultTypes.toList).any (Tryz.pinned.checked.prog.wideKeysFrom ·)):Bool)=true:=by kernel_rfl
theorem j18:((Rows.OpenSpec.upto Rows.topCopiesSpec).bare.vars.all (Tryz.pinned.checked.prog.varReadable ·):Bool)=true:=by kernel_rfl
theorem j19:((Tryz.f9).resultTypes.all (fun t=>Tryz.pinned.checked.prog.readableRec t && decide (t<Tryz.pinned.checked.prog.types.size)):Bool)=true:=by kernel_rfl
theorem j20:((Rows.topCopiesUptoRow.ifacesOut == (Tryz.f9).resultTypes.toList.any (Tryz.pinned.checked.prog.ifacesRec ·)):Bool)=true:=by kernel_rfl
theorem j21:((Rows.topCopiesUptoRow.loopsOut == (Tryz.f9).resultTypes.toList.any (Tryz.pinned.checked.prog.loopsFrom ·)):Bool)=true:=by kernel_rfl
theorem j22:((Rows.topCopiesUptoRow.plainKeys == Tryz.pinned.checked.prog.plainKeys):Bool)=true:=by kernel_rfl
theorem j23:(Rows.topCopiesUptoRow.shortTexts.isNone:Bool)=true:=by kernel_rfl
theorem j24:(Tryz.pinned.checked.prog.stopsHeard:Bool)=true:=by kernel_rfl
theorem j25:(Tryz.pinned.checked.prog.mayEnter:Bool)=true:=by kernel_rfl
theorem j26:((Rows.topCopiesUptoRow.lifted == Tryz.pinned.checked.prog.liftsFinal):Bool)=true:=by kernel_rfl
theorem j27:((Tryz.pinned.checked.prog.make == some Rows.topCopiesUptoRow.make):Bool)=true:=by kernel_rfl
theorem j28:((Rows.topCopiesUptoRow.kinds == (if Rows.topCopiesUptoRow.domain.isEmpty then [] else (Tryz.f9).params.toList.map fun t=>match Tryz.pinned.checked.prog.underlying t with | some (.int k)=>some k | _=>none)):Bool)=true:=by kernel_rfl
theorem j29:((Rows.topCopiesUptoRow.pinned == Rows.topCopiesUptoRow.pinnedBy):Bool)=true:=by kernel_rfl
theorem j30:((Rows.topCopiesUptoRow.veiled == ((Tryz.f9).params.toList ++ (Rows.OpenSpec.upto Rows.topCopiesSpec).bare.plain.varTypes Tryz.pinned.checked.prog ++ (Tryz.f9).resultTypes.toList).any (Tryz.pinned.checked.prog.veiledRec ·)):Bool)=true:=by kernel_rfl
theorem j31:(Rows.topCopiesUptoRow.veiledFits Tryz.pinned.checked.prog (Tryz.f9).params.toList ((Tryz.f9).params.toList ++ (Rows.OpenSpec.upto Rows.topCopiesSpec).bare.plain.varTypes Tryz.pinned.checked.prog ++ (Tryz.f9).resultTypes.toList):Bool)=true:=by kernel_rfl
set_option maxRecDepth 20000 in
theorem closed:joinedFacts Tryz.pinned.checked.prog 9 Tryz.f9 (Rows.OpenSpec.upto Rows.topCopiesSpec).bare Rows.topCopiesUptoRow=true:=(and_ (and_ (and_ (and_ (and_ (and_ (and_ (and_ (and_ (and_ (and_ (and_ (and_ (and_ (and_ (and_ (and_ (and_ (and_ (and_ (and_ (and_ (and_ (and_ (and_ (and_ (and_ (and_ (and_ (and_ (and_ j0 j1) j2) j3) j4) j5) j6) j7) j8) j9) j10) j11) j12) j13) j14) j15) j16) j17) j18) j19) j20) j21) j22) j23) j24) j25) j26) j27) j28) j29) j30) j31)
theorem wrap:(Tryz.f9).isWrapper Tryz.pinned.checked.prog Rows.topCopiesUptoRow.wrapper Rows.topCopiesUptoRow.mainSum:=by unfold Func.isWrapper;first | (rw [if_pos (by decide +kernel)];kernel_rfl) | (rw [if_neg (by decide +kernel)];exact ⟨rfl,rfl⟩)
end Go.Proofs.YtaeikigfgfcadaaGreat.topCopies
