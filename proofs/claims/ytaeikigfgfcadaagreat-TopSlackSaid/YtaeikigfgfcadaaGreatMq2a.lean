/- Texts behind one another: SlackM, SlackM2, Slack, JnTopSlack. -/
import Derived.WalkKit
import Derived.ProofKit
import Derived.ChangeOld
import Derived.SizedLaws
import Derived.JoinedCond
import Derived.Lib.SmallJoins
import Derived.Test.YtaeikigfgfcadaaGreatMq0a
import Derived.Test.YtaeikigfgfcadaaGreatMq0b
import Derived.Test.YtaeikigfgfcadaaGreatMq0c
import Derived.Test.YtaeikigfgfcadaaGreatMq0d
import Derived.Test.YtaeikigfgfcadaaGreatMq0e
import Derived.Test.YtaeikigfgfcadaaGreatMq0f
set_option linter.unusedVariables false
set_option linter.unusedSimpArgs false
set_option linter.unnecessarySimpa false
namespace Go.Proofs.YtaeikigfgfcadaaGreat
open Go.RowKit
set_option maxRecDepth 20000
def RR (c n:Nat) (F rd:Nat→Int) (v:Nat):Prop:=∀ b,b<12→b≠v→0≤rd b∧rd b≤F b+256 * (c:Int)∧rd b≤n
theorem RR.mono {c n n' v:Nat} {F rd:Nat→Int} (h:RR c n F rd v) (hn:n≤n'):RR c n' F rd v:=fun b hb hv=>by
 obtain ⟨h1,h2,h3⟩:=h b hb hv
 exact ⟨h1,h2,by omega⟩
theorem RR.step {c n v x:Nat} {F rd:Nat→Int} (h:RR c n F rd v) (hn:n<60000):RR c (n+1) (Hl.rdF F x) (updf rd x (w64 (rd x+1))) v:=fun b hb hv=>by
 obtain ⟨h1,h2,h3⟩:=h b hb hv
 unfold Hl.rdF Hl.upd updf
 by_cases e:b=x
 ·subst e
  rw [if_pos rfl,if_pos rfl,w64_id (by omega) (by omega)]
  exact ⟨by omega,by omega,by omega⟩
 ·rw [if_neg e,if_neg e]
  exact ⟨h1,h2,by omega⟩
theorem RR.src {c n v:Nat} {F rd:Nat→Int} (h:RR c n F rd v) (x:Int):RR c n (Hl.rdF F v) (updf rd v x) v:=fun b hb hv=>by
 unfold Hl.rdF Hl.upd updf
 rw [if_neg hv,if_neg hv]
 exact h b hb hv
theorem rdF_wr (F:Nat→Int) {x b:Nat} (hx:x<12):Hl.rdF F x (24+b)=F (24+b):=by
 unfold Hl.rdF Hl.upd
 rw [if_neg (by omega)]
theorem mvTo_F (K:KS) (l:List Tg):(mvTo K l).F=K.F:=by
 induction l using snoc_rec with
 | h0=>rfl
 | h1 l t ih =>
  rw [mvTo_snoc]
  exact ih
theorem shK_F (K:KS):(shK K).F=K.F:=by
 unfold shK
 split<;>rfl
theorem vcK_F (K:KS) (P:CS) (v d:Nat):(vcK K P v d).F=Hl.erF (vcS K P v d).K.F v:=by
 unfold vcK endK
 split
 ·exact mvTo_F _ _
 ·show (shK _).F=_
  rw [shK_F,mvTo_F]
  rfl
theorem cp_rr {c n:Nat} {K:KS} {P:CS} {v d:Nat} (hv:v<12) (hd:d<12) (os:List Nat) (ho:∀ o,o∈os→(K.at_ o - 1) / 8=v) (h8:os.length≤8) (hn:n+8≤60000) (h:RR c n K.F P.rd v) :
  (cpTo K P d os).l.length=os.length∧(cpTo K P d os).K.at_=K.at_∧RR c (n+os.length) (cpTo K P d os).K.F (cpTo K P d os).P.rd v∧∀ b,(cpTo K P d os).K.F (24+b)=K.F (24+b):=by
 induction os using snoc_rec with
 | h0=>exact ⟨rfl,rfl,h,fun b=>rfl⟩
 | h1 os o ih =>
  rw [List.length_append,List.length_singleton] at h8
  obtain ⟨a1,a2,a3,a4⟩:=ih (fun x hx=>ho x (List.mem_append_left _ hx)) (by omega)
  have ho1:=ho o (List.mem_append_right _ (List.mem_singleton.2 rfl))
  rw [cpTo_snoc]
  generalize cpTo K P d os=S at *
  have e1:(S.K.at_ o - 1) / 8=v:=by rw [a2];exact ho1
  have e2:(d * 8+S.l.length) / 8=d:=by omega
  have eF:(cpStep d S o).K.F=Hl.rdF (Hl.rdF S.K.F v) d:=by
   show Hl.rdF (Hl.rdF S.K.F ((S.K.at_ o - 1) / 8)) ((d * 8+S.l.length) / 8)=_
   rw [e1,e2]
  have eR:(cpStep d S o).P.rd=updf (updf S.P.rd v (w64 (S.P.rd v+1))) d (w64 (updf S.P.rd v (w64 (S.P.rd v+1)) d+1)):=by
   show updf (updf S.P.rd ((S.K.at_ o - 1) / 8) (w64 (S.P.rd ((S.K.at_ o - 1) / 8)+1))) ((d * 8+S.l.length) / 8) (w64 (updf S.P.rd ((S.K.at_ o - 1) / 8) (w64 (S.P.rd ((S.K.at_ o - 1) / 8)+1)) ((d * 8+S.l.length) / 8)+1))=_
   rw [e1,e2]
  refine ⟨?_,a2,?_,fun b=>?_⟩
  ·show (S.l ++ [_]).length=_
   rw [List.length_append,List.length_singleton,List.length_append,List.length_singleton,a1]
  ·rw [eF,eR,List.length_append,List.length_singleton]
   exact (a3.src _).step (by omega)
  ·rw [eF,rdF_wr _ hd,rdF_wr _ hv,a4 b]
def SL (c n:Nat) (K:KS) (P:CS):Prop:=n≤60000→RR c n K.F P.rd 12∧0≤K.calls∧K.calls≤8∧∃ kk:Cp,kk.told∧dataAt P (K.at_ 24 - 1)=ptN kk∧(∀ b,b<12→K.F (24+b)≤kk.reads b+1)∧((K.cur:Nat):Int)=(kk.cur+8 * K.calls) % 96
theorem lyK_F (K:KS) (of:Nat):(lyK K of).F=if of=24 then Hl.ntF (Hl.rdF K.F ((K.fb * 8+K.fi) / 8)) else Hl.rdF K.F ((K.fb * 8+K.fi) / 8):=by
 unfold lyK anK
 split<;>rfl
theorem ntF_rd (F:Nat→Int) {b:Nat} (hb:b<12):Hl.ntF F b=F b∧Hl.ntF F (24+b)=F b:=by
 unfold Hl.ntF
 exact ⟨if_pos (by omega),by rw [if_neg (by omega),show 24+b - 24=b by omega]⟩
theorem RR.nt {c n v:Nat} {F rd:Nat→Int} (h:RR c n F rd v):RR c n (Hl.ntF F) rd v:=fun b hb hv=>by
 rw [(ntF_rd F hb).1]
 exact h b hb hv
theorem lyP_rd (K:KS) (P:CS) (of:Nat) (D:KS→Int→Nat→Nat):(lyP K P of D).rd=updf P.rd ((K.fb * 8+K.fi) / 8) (w64 (P.rd ((K.fb * 8+K.fi) / 8)+1)):=rfl
theorem SL.note {c n:Nat} {K K':KS} {P:CS} {D:KS→Int→Nat→Nat} {kk:Cp} (E:LyCore 24 D K P) (hD:D (sqK K) K.next=ptN kk) (ht:kk.told) (hr:kk.reads=K.F) (hcu:kk.cur=K.cur) (h:RR c n K.F P.rd 12) (hb:Hl.HB K.F) (e1:K'.F=(lyK K 24).F) (e2:K'.at_ 24=(lyK K 24).at_ 24) (e3:K'.calls=0) (e4:K'.cur=K.cur) (hn:n+1≤60000):RR c (n+1) K'.F (lyP K P 24 D).rd 12∧0≤K'.calls∧K'.calls≤8∧∃ kk:Cp,kk.told∧dataAt (lyP K P 24 D) (K'.at_ 24 - 1)=ptN kk∧(∀ b,b<12→K'.F (24+b)≤kk.reads b+1)∧((K'.cur:Nat):Int)=(kk.cur+8 * K'.calls) % 96:=by
 obtain ⟨ow,F,calls,he,-⟩:=E.eq
 have hat:(lyK K 24).at_ 24=K.fb * 8+K.fi+1:=by
  rw [he]
  show updf K.at_ 24 (K.fb * 8+K.fi+1) 24=_
  exact if_pos rfl
 have hF:K'.F=Hl.ntF (Hl.rdF K.F ((K.fb * 8+K.fi) / 8)):=by
  rw [e1,lyK_F,if_pos rfl]
 refine ⟨?_,by rw [e3];omega,by rw [e3];omega,kk,ht,?_,fun b hb'=>?_,?_⟩
 ·rw [hF,lyP_rd]
  exact (h.step (by omega)).nt
 ·rw [e2,hat,Nat.add_sub_cancel]
  unfold dataAt
  rw [E.pg,hD]
  exact ptN_cut kk
 ·rw [hF,(ntF_rd _ hb').2,hr]
  have:=hb b hb'
  unfold Hl.rdF Hl.upd
  split
  ·rename_i e
   rw [← e]
   omega
  ·omega
 ·rw [e3,e4,hcu]
  have h96:=ht.cur
  rw [hcu] at h96
  omega
theorem sl_stab (c:Nat):Stab (SL c) where
 mono:=fun hn h hn'=>by
  obtain ⟨h1,h2⟩:=h (by omega)
  exact ⟨h1.mono hn,h2⟩
 adm:=fun e1 _ _ e4 e5 e6 h hn=>by
  obtain ⟨h1,h2,h3,kk,h4,h5,h6,h7⟩:=h hn
  exact ⟨by rw [e4];exact h1,by rw [e6];exact h2,by rw [e6];exact h3,kk,h4,by rw [e1];exact h5,fun b hb=>by rw [e4];exact h6 b hb,by rw [e5,e6];exact h7⟩
 rd:=fun {n K P p} hp h hn=>by
  obtain ⟨h1,h2,h3,kk,h4,h5,h6,h7⟩:=h (by omega)
  exact ⟨h1.step (by omega),h2,h3,kk,h4,h5,fun b hb=>by
   show Hl.rdF K.F (p / 8) (24+b)≤_
   rw [rdF_wr _ (by omega)]
   exact h6 b hb,h7⟩
 pt:=fun {n K P} c0 c8 h hn=>by
  obtain ⟨h1,h2,h3,kk,h4,h5,h6,h7⟩:=h hn
  have e:(ptK K).calls=K.calls+1:=w64_id (by omega) (by omega)
  have e2:(ptK K).cur=(K.cur+8) % 96:=rfl
  refine ⟨h1,by rw [e];omega,by rw [e];omega,kk,h4,h5,h6,?_⟩
  rw [e,e2]
  omega
 vac:=fun {n K P k m v d} I V h hn=>by
  obtain ⟨h1,h2,h3,kk,h4,h5,h6,h7⟩:=h (by omega)
  have hv:=V.hyp.cp.hv
  have hd:=V.hyp.cp.hd
  have how:(vc1 K v d).ow=K.ow∧(vc1 K v d).at_=K.at_∧(vc1 K v d).F=K.F:=by
   unfold vc1 vc0
   split
   ·unfold shK
    split<;>exact ⟨rfl,rfl,rfl⟩
   ·exact ⟨rfl,rfl,rfl⟩
  obtain ⟨w1,w2,w3⟩:=how
  have hR:RR c n (vc1 K v d).F P.rd v:=fun b hb _=>by
   rw [w3]
   exact h1 b hb (by omega)
  have h8:=ofL_le (vc1 K v d).ow v
  obtain ⟨a1,a2,a3,a4⟩:=cp_rr (c:=c) (n:=n) (K:=vc1 K v d) (P:=P) hv hd (ofL (vc1 K v d).ow v) (fun o ho=>by
   rw [w1] at ho
   rw [w2]
   exact ((ofL_mem I.l.con hv).1 ho).2.2) h8 (by omega) hR
  have eF:=vcK_F K P v d
  have eS:vcS K P v d=cpTo (vc1 K v d) P d (ofL (vc1 K v d).ow v):=rfl
  rw [eS] at eF
  have eR:(vcP K P v d).rd=updf (cpTo (vc1 K v d) P d (ofL (vc1 K v d).ow v)).P.rd v 0:=rfl
  generalize cpTo (vc1 K v d) P d (ofL (vc1 K v d).ow v)=S at *
  refine ⟨fun b hb _=>?_,by rw [V.idle.calls];exact h2,by rw [V.idle.calls];exact h3,kk,h4,?_,fun b hb=>?_,by rw [V.idle.calls,V.idle.cur];exact h7⟩
  ·rw [eF,eR]
   unfold Hl.erF Hl.upd updf
   rw [if_neg (show ¬ b=24+v by omega)]
   by_cases e:b=v
   ·rw [if_pos e,if_pos e]
    omega
   ·rw [if_neg e,if_neg e]
    obtain ⟨x1,x2,x3⟩:=a3 b hb e
    exact ⟨x1,x2,by omega⟩
  ·rw [V.il.ok.led.data, ← I.l.ok.led.data]
   exact h5
  ·rw [eF]
   have h9:=h6 b hb
   have h10:=h4.rd b hb
   unfold Hl.erF Hl.upd
   by_cases e:24+b=24+v
   ·rw [if_pos e]
    omega
   ·rw [if_neg e,if_neg (by omega),a4 b,w3]
    exact h9
 put:=fun {n K P k m s f} I E hs h hn=>by
  obtain ⟨h1,h2,h3,kk,h4,h5,h6,h7⟩:=h (by omega)
  obtain ⟨ow,F,calls,he,-,hc1,-⟩:=E.eq
  have eF:=lyK_F K s
  rw [if_neg (by omega)] at eF
  have hlt:=E.lt
  have e1:(lyK K s).at_ 24=K.at_ 24:=by
   rw [he]
   show updf K.at_ s (K.fb * 8+K.fi+1) 24=_
   exact if_neg (by omega)
  have e2:(lyK K s).calls=K.calls:=by
   rw [he]
   exact hc1 (by omega)
  have e3:(lyK K s).cur=K.cur:=by rw [he]
  have hne:K.at_ 24 - 1≠K.fb * 8+K.fi:=fun x=>by
   obtain ⟨_,t,D0,a2,_⟩:=I.l.page (o:=24) (by omega) I.l.ok.led.pt
   rw [x,E.blank] at a2
   cases a2
  refine ⟨by rw [eF,lyP_rd];exact h1.step (by omega),by rw [e2];exact h2,by rw [e2];exact h3,kk,h4,?_,fun b hb=>?_,by rw [e2,e3];exact h7⟩
  ·rw [e1]
   unfold dataAt at h5 ⊢
   rw [E.ne _ hne]
   exact h5
  ·rw [eF,rdF_wr _ (by omega)]
   exact h6 b hb
 note:=fun {n K P k m} I E ht h hn=>by
  obtain ⟨h1,-⟩:=h (by omega)
  obtain ⟨ow,F,calls,he,-,-,hc2⟩:=E.eq
  exact SL.note E (kk:=stC (sqK K) K.next (-1)) rfl ht rfl rfl h1 I.h.hb rfl rfl (by rw [he];exact hc2 rfl) (by rw [he]) hn
 trim:=fun {n K P k m s q} I E ht hs h hn=>by
  obtain ⟨h1,-⟩:=h (by omega)
  obtain ⟨ow,F,calls,he,-,-,hc2⟩:=E.eq
  refine SL.note E (kk:=trC (sqK K) s q K.next) rfl ht rfl rfl h1 I.h.hb rfl ?_ ?_ ?_ hn
  ·show updf (lyK K 24).at_ s 0 24=_
   exact if_neg (by omega)
  ·show (lyK K 24).calls=0
   rw [he]
   exact hc2 rfl
  ·show (lyK K 24).cur=K.cur
   rw [he]
theorem ptN_rd {p:Cp} (h:p.told) {b:Nat} (hb:b<12):numOf (fun j=>((ptN p (128+2 * b+j):Nat):Int)) 2=p.reads b:=by
 rw [numOf_congr (f:=fun j=>((ptN p (128+2 * b+j):Nat):Int)) (g:=byteOf (p.reads b)) 2 (fun j hj=>by rw [ptN_int];exact (ptF_rd p hb hj).symm)]
 have:=h.rd b hb
 exact numOf_back _ (by omega) 2 (Int.ediv_eq_zero_of_lt (by omega) (by omega))
theorem ptN_cur {p:Cp} (h:p.told):numOf (fun j=>((ptN p (127+j):Nat):Int)) 1=p.cur:=by
 rw [numOf_congr (f:=fun j=>((ptN p (127+j):Nat):Int)) (g:=byteOf p.cur) 1 (fun j hj=>by rw [ptN_int];exact (ptF_cur p hj).symm)]
 have:=h.cur
 exact numOf_back _ (by omega) 1 (Int.ediv_eq_zero_of_lt (by omega) (by omega))
theorem cp_same2 {p q:Cp} (hp:p.told) (hq:q.told) (e:ptN p=ptN q):p.cur=q.cur∧∀ b,b<12→p.reads b=q.reads b :=
 ⟨by rw [← ptN_cur hp, ← ptN_cur hq,e],fun b hb=>by rw [← ptN_rd hp hb, ← ptN_rd hq hb,e]⟩
def R1 (c n:Nat) (F rd:Nat→Int) (b:Nat):Prop:=0≤rd b∧rd b≤F b+256 * (c:Int)∧rd b≤n
theorem R1.hit {c n b:Nat} {F rd:Nat→Int} (h:R1 c n F rd b) (hn:n<60000):R1 c (n+1) (Hl.rdF F b) (updf rd b (w64 (rd b+1))) b:=by
 obtain ⟨h1,h2,h3⟩:=h
 unfold R1 Hl.rdF Hl.upd updf
 rw [if_pos rfl,if_pos rfl,w64_id (by omega) (by omega)]
 exact ⟨by omega,by omega,by omega⟩
theorem R1.miss {c n b x:Nat} {F rd:Nat→Int} (h:R1 c n F rd b) (hx:b≠x) (y:Int):R1 c n (Hl.rdF F x) (updf rd x y) b:=by
 unfold R1 Hl.rdF Hl.upd updf
 rw [if_neg hx,if_neg hx]
 exact h
theorem sn_step {c n b j:Nat} {F:Nat→Int} {P:CS} (hj:j<12) (hn:b=j→n+8≤60000) (h:R1 c n F (scP P (8 * j)).rd b):∀ i,i≤8→R1 c (n+if b=j then i else 0) (rdN F j i) (scP P (8 * j+i)).rd b∧∀ x,12≤x→rdN F j i x=F x
 | 0,_=>by
  rw [rdN_zero]
  refine ⟨?_,fun x _=>rfl⟩
  rw [show (n+if b=j then 0 else 0)=n by split<;>rfl]
  exact h
 | i+1,hi=>by
  obtain ⟨ih,ih2⟩:=sn_step hj hn h i (by omega)
  rw [rdN_succ]
  have e:(scP P (8 * j+(i+1))).rd=updf (scP P (8 * j+i)).rd j (w64 ((scP P (8 * j+i)).rd j+1)):=by
   show ((scP P (8 * j+i)).readE (8 * j+i)).rd=_
   unfold CS.readE
   simp only
   rw [show (8 * j+i) / 8=j by omega]
  rw [e]
  refine ⟨?_,fun x hx=>?_⟩
  ·by_cases hb:b=j
   ·subst hb
    rw [if_pos rfl] at ih ⊢
    exact ih.hit (by have:=hn rfl;omega)
   ·rw [if_neg hb] at ih ⊢
    exact ih.miss hb _
  ·unfold Hl.rdF Hl.upd
   rw [if_neg (by omega)]
   exact ih2 x hx
theorem sn_all {c n b:Nat} {F:Nat→Int} {P:CS} (hn:n+8≤60000) (h:R1 c n F P.rd b):∀ j,j≤12→R1 c (n+if b<j then 8 else 0) (snF F j) (scP P (8 * j)).rd b∧∀ x,12≤x→snF F j x=F x
 | 0,_=>by
  rw [snF_zero]
  exact ⟨h,fun x _=>rfl⟩
 | j+1,hj=>by
  obtain ⟨ih,ih2⟩:=sn_all hn h j (by omega)
  rw [snF_succ]
  by_cases hb:b<j
  ·rw [if_pos hb] at ih
   obtain ⟨x1,x2⟩:=sn_step (by omega) (fun e=>by omega) ih 8 (Nat.le_refl _)
   rw [if_neg (by omega)] at x1
   refine ⟨?_,fun x hx=>(x2 x hx).trans (ih2 x hx)⟩
   rw [if_pos (by omega)]
   exact x1
  ·rw [if_neg hb,Nat.add_zero] at ih
   obtain ⟨x1,x2⟩:=sn_step (by omega) (fun _=>hn) ih 8 (Nat.le_refl _)
   refine ⟨?_,fun x hx=>(x2 x hx).trans (ih2 x hx)⟩
   by_cases e:b=j
   ·rw [if_pos e] at x1
    rw [if_pos (by omega)]
    exact x1
   ·rw [if_neg e] at x1
    rw [if_neg (by omega)]
    exact x1
theorem cl_r1 {c n b:Nat} {K:KS} {P:CS} (h:R1 c n K.F P.rd b) (x:Int) (hx:0≤x) (hw:K.F (24+b)≤x) (hb:b<12):∀ j,j≤12→R1 c n (clK K j).F (clP K P j).rd b∧(clK K j).F (24+b)≤x
 | 0,_=>by
  rw [clK_zero,clP_zero]
  exact ⟨h,hw⟩
 | j+1,hj=>by
  obtain ⟨⟨i1,i2,i3⟩,ih2⟩:=cl_r1 h x hx hw hb j (by omega)
  rw [clK_succ,clP_succ]
  by_cases e:K.st j=0
  ·rw [if_pos e,if_pos e]
   unfold R1
   show (0≤updf (clP K P j).rd j 0 b∧updf (clP K P j).rd j 0 b≤Hl.erF (clK K j).F j b+256 * (c:Int)∧updf (clP K P j).rd j 0 b≤n)∧Hl.erF (clK K j).F j (24+b)≤x
   unfold Hl.erF Hl.upd updf
   rw [if_neg (show ¬ b=24+j by omega)]
   by_cases hbj:b=j
   ·rw [if_pos hbj,if_pos hbj,if_pos (by omega)]
    exact ⟨⟨Int.le_refl 0,by omega,by omega⟩,hx⟩
   ·rw [if_neg hbj,if_neg hbj,if_neg (by omega),if_neg (by omega)]
    exact ⟨⟨i1,i2,i3⟩,ih2⟩
  ·rw [if_neg e,if_neg e]
   exact ⟨⟨i1,i2,i3⟩,ih2⟩
theorem cl_wiped {K:KS} {P:CS} (hst:K.st=fun _=>0):∀ j,j≤12→∀ b,b<j→(clK K j).F b=0∧(clP K P j).rd b=0
 | 0,_,b,h=>by omega
 | j+1,hj,b,h=>by
  rw [clK_succ,clP_succ,if_pos (by rw [hst]),if_pos (by rw [hst])]
  show Hl.erF (clK K j).F j b=0∧updf (clP K P j).rd j 0 b=0
  unfold Hl.erF Hl.upd updf
  rw [if_neg (show ¬ b=24+j by omega)]
  by_cases hbj:b=j
  ·rw [if_pos hbj,if_pos hbj]
   exact ⟨rfl,rfl⟩
  ·rw [if_neg hbj,if_neg hbj]
   exact cl_wiped hst j (by omega) b (by omega)
theorem mtK_F (k:Cp) (L:List Fd):(mtK k L).F=snF (Hl.newF (rdsF k) (scsF k)) 12:=by
 have h1:∀ i,(n1K k L i).F=Hl.newF (rdsF k) (scsF k):=fun i=>by
  induction i with
  | zero=>rfl
  | succ i ih =>
   rw [n1K_succ]
   split
   ·exact ih
   ·exact ih
 obtain ⟨st,h⟩:=n2K_same (n1K k L 25) 12
 show snF (nwK k L).F 12=_
 have:(nwK k L).F=Hl.newF (rdsF k) (scsF k):=by
  unfold nwK
  rw [h]
  exact h1 25
 rw [this]
theorem mount_sl {c n:Nat} {K:KS} {P:CS} {k:Cp} {m:Int} (I:Inv K P k m) (hm:m≤1099511627775) (h:SL c n K P) (hn:n+8≤60000) (h8:K.calls<8) (hdue:Hl.dueB K.F=false):∃ K' P' tr,Mounts P K' P' tr∧Inv K' P' k m∧K'.qu=[]∧K'.calls=0∧SL (c+1) (n+8) K' P'∧RR (c+1) (n+8) K'.F P'.rd 12∧(((K.cur:Nat):Int) - (K'.cur:Nat)+96) % 96≤64∧∀ a,Shows P K.at_ a→Shows P' K'.at_ a:=by
 obtain ⟨g1,g2,g3,kk,g4,g5,g6,g7⟩:=h (by omega)
 obtain ⟨K',P',tr,M,I',q,⟨a1,a2,a3,a4,a5,a6,a7,a8⟩,s⟩:=mount_endC I.l.ok hm
 have ht:=I.l.ok.led.told
 obtain ⟨e1,e2⟩:=cp_same2 g4 ht (g5.symm.trans I.l.ok.led.data)
 have hdue2:∀ b,b<12→K.F b - K.F (24+b)<64:=fun b hb=>by
  unfold Hl.dueB at hdue
  rw [List.any_eq_false] at hdue
  have:=hdue b (List.mem_range.2 hb)
  simp only [decide_eq_true_eq] at this
  omega
 have key:∀ b,b<12→R1 (c+1) (n+8) K'.F P'.rd b∧K'.F (24+b)≤k.reads b:=fun b hb=>by
  obtain ⟨x1,x2,x3⟩:=g1 b hb (by omega)
  have hr:=ht.rd b hb
  have x4:=g6 b hb
  have x5:=hdue2 b hb
  have x6:=e2 b hb
  have hF0:Hl.newF (rdsF k) (scsF k) b=k.reads b∧Hl.newF (rdsF k) (scsF k) (24+b)=k.reads b:=by
   unfold Hl.newF rdsF
   refine ⟨?_,?_⟩
   ·rw [if_pos hb,if_pos hb]
    omega
   ·rw [if_neg (by omega),if_neg (by omega),show 24+b - 24=b by omega,if_pos hb]
    omega
  have h0:R1 (c+1) n (Hl.newF (rdsF k) (scsF k)) P.rd b:=by
   refine ⟨x1,?_,x3⟩
   rw [hF0.1]
   push_cast
   omega
  obtain ⟨y1,y2⟩:=sn_all hn h0 12 (Nat.le_refl _)
  rw [if_pos hb] at y1
  have y3:R1 (c+1) (n+8) (mtK k (fdsTo P 96)).F (scP P 96).rd b:=by
   rw [mtK_F]
   exact y1
  have y4:(mtK k (fdsTo P 96)).F (24+b)≤k.reads b:=by
   rw [mtK_F,y2 _ (by omega),hF0.2]
   exact Int.le_refl _
  have:=cl_r1 y3 (k.reads b) hr.1 y4 hb 12 (Nat.le_refl _)
  rw [a1,a2]
  exact this
 have hRR:RR (c+1) (n+8) K'.F P'.rd 12:=fun b hb _=>(key b hb).1
 have hcu:=ht.cur
 have hK'cur:((K'.cur:Nat):Int)=k.cur:=by
  rw [a7]
  omega
 refine ⟨K',P',tr,M,I',q,a6,fun _=>⟨hRR,by rw [a6];omega,by rw [a6];omega,k,ht,?_,fun b hb=>by have:=(key b hb).2;omega,by rw [a6,hK'cur];omega⟩,hRR,by rw [hK'cur,g7, ← e1];omega,fun a hs=>(s a hs).2⟩
 rw [a3 24 (by omega)]
 exact a8.led.data
theorem first_sl {K:KS} {P:CS} (h:FirstAt CS.zero K P):SL 0 8 K P:=fun _=>by
 obtain ⟨K1,rfl,rfl,E,ht,hb,hF,hst⟩:=h
 obtain ⟨ow,F,calls,he,-,-,hc2⟩:=E.eq
 have hw:=cl_wiped (P:=scP CS.zero 96) hst 12 (Nat.le_refl _)
 have h1:RR 0 7 K1.F (clP (mtK Cp.zero []) (scP CS.zero 96) 12).rd 12:=fun b hb _=>by
  obtain ⟨x1,x2⟩:=hw b hb
  rw [hF,x1,x2]
  exact ⟨Int.le_refl 0,by omega,by omega⟩
 exact SL.note E (kk:=stC (sqK K1) K1.next (-1)) rfl ht rfl rfl h1 hb rfl rfl (by rw [he];exact hc2 rfl) (by rw [he]) (by omega)
structure SkI (w0:World) (ch x7:Nat) (L:List Cl) (A:Option Addr) (Z:List Int) (C:Option Addr) (i d mn:Nat) (own:List Nat) (K:KS) (P:CS) (k:Cp) (a:Nat→Nat) (w:World):Prop where
 on:DvOn w own d ch K P none
 inv:Inv K P k (2+2 * (i:Int))
 qu:K.qu=[]
 sh:Shows P K.at_ (arB a)
 sl:SL mn (8+138 * i) K P
 mi:mn≤i
 due:Hl.dueB K.F=false
 c0:0≤K.calls
 c8:K.calls<8
 new:∀ x,x∈own→w0.heap.size≤x
 r7:Row w x7 28 24 (arF a)
 hL:Rd w A (L.length * 3) (clF L)
 hZ:Rd w C Z.length (inF Z)
 kk:Keep [] w0 w
 ha:∀ o,a o≤1000000
set_option maxHeartbeats 16000000 in
theorem slack_ok {w:World} {L:List Cl} {Z:List Int} {A C:Option Addr} {cA cC:Nat} (hL:Rd w A (L.length * 3) (clF L)) (hZ:Rd w C Z.length (inF Z)) (hLw:∀ c,c∈L→c.wf) (hZw:∀ z,z∈Z→i64R z) :
  Spec Tryz.prog 12 #[.slice A L.length cA,.slice C Z.length cC] w fun v w'=>v = .bool true∧Keep [] w w':=by
 refine spec_of_wpE (T:=tt) tt_ok Tryz.func12 rfl (by decide +kernel) Tryz.ntmps12 (by simp) ?_
 conv=>whnf
 refine Ca.of (begun_okC (L:=[]) (A:=none) (cA:=0) (fun h=>by simp at h) (fun _ h=>nomatch h) (by simp)) ?_
 rintro _ w1 ⟨ch,d,own,K,P,k,rfl,Bg,K0,P0,tr0,k0,M0,I0,fa0,hz⟩
 obtain ⟨D,I,q,s,nw,kb⟩:=Bg
 have hc0:=mounts_calls M0
 obtain ⟨rfl,rfl⟩:=hz.nil (by simp)
 have cl0:0≤K.calls:=by rw [hc0];exact Int.le_refl _
 have cl8:K.calls<8:=by rw [hc0];omega
 have sl:SL 0 (8+138 * 0) K P:=first_sl fa0
 have due:Hl.dueB K.F=false:=by
  obtain ⟨K1,e1,-⟩:=fa0
  rw [e1,lyK_F,if_pos rfl]
  exact due_nt _
 have I:Inv K P k (2+2 * ((0:Nat):Int)):=I
 clear hz M0 I0 hc0 fa0
 conv=>whnf
 refine Ru.alloca (alloc_ar w1) ?_
 intro x7 w2 hx7 hs2 r7 k2
 conv=>whnf
 refine Ru.sta r7 size_ar (by omega) (fun j hj=>arF_one _ j) ?_
 intro w3 r73 k3
 have r73:Row w3 x7 28 24 (arF (playA (fun _=>0) (L.take 0))):=r73.congr (fun j hj=>by unfold lay;rw [if_pos (by omega),Nat.sub_zero];rfl)
 have q3:Keep [] w1 w3:=k2.then k3 (fun x hx=>.inr (by rw [List.mem_singleton.1 hx,hx7];exact Nat.le_refl _))
 have kk3:=kb.trans q3
 have hx7w:w.heap.size≤x7:=by have:=kb.size;omega
 have S3:SkI w ch x7 L A Z C 0 d 0 own K P k (playA (fun _=>0) (L.take 0)) w3:=⟨D.keep0 q3,I,q,s,sl,Nat.le_refl _,due,cl0,cl8,nw,r73,hL.keep0 kk3,hZ.keep0 kk3,kk3,playA_le (fun _=>by omega) _⟩
 clear D I q s nw kb sl due cl0 cl8 r7 r73 k2 k3 q3 kk3 hs2 hx7
 conv=>whnf
 repeat ((first
  | refine CW.s ?_);conv=>whnf)
 refine Ru.of (chip_eq w3 _ _) ?_
 conv=>whnf
 repeat ((first
  | refine Br.f ?_|refine CW.s ?_);conv=>whnf)
 refine CW.loop (ι:=Nat × Nat × List Nat × KS × CS × Cp × Nat) (fun i w'=>i.1≤L.length∧i.1≤300∧SkI w ch x7 L A Z C i.1 i.2.1 i.2.2.2.2.2.2 i.2.2.1 i.2.2.2.1 i.2.2.2.2.1 i.2.2.2.2.2.1 (playA (fun _=>0) (L.take i.1)) w')
  (fun i=>[(0,.slice A L.length cA),(1,.slice C Z.length cC),(5,.pointer (some ⟨ch,0,none⟩)),(6,.pointer (some ⟨i.2.1,0,none⟩)),(7,.pointer (some ⟨x7,0,none⟩)),(8,.int .i64 i.2.2.2.2.2.2),(9,.int .i64 i.1)]) (fun i=>L.length - i.1) (0,d,own,K,P,k,0) tt_ok
  ⟨by omega,by omega,S3⟩ ⟨rfl,rfl,rfl,rfl,rfl,rfl,rfl,trivial⟩ ?_
 clear S3
 rintro ⟨i,d,own,K,P,k,mn⟩ wr ⟨hi,hi3,⟨D,I,q,s,sl,mi,due,cl0,cl8,nw,r7,hLr,hZr,kk,ha⟩⟩
 simp only at hi hi3 D I q s sl mi due cl0 cl8 nw r7 hLr hZr kk ha ⊢
 by_cases hgo3:i<L.length∧i<300
 ·obtain ⟨hlt,hlt3⟩:=hgo3
  obtain ⟨g,o,rfl,hcell⟩:=cl_cells hLr hlt
  have htk:=cl_take hlt
  have hcw:=hLw _ (cl_mem hlt)
  generalize L.getD i ⟨0,0,0⟩=c at *
  have hst:playA (fun _=>0) (L.take (i+1))=c.arr (playA (fun _=>0) (L.take i)):=by rw [htk,playA_snoc]
  generalize playA (fun _=>0) (L.take i)=a at *
  have hgw:g<w.heap.size:=by
   obtain ⟨g',o',e',h'⟩:=hL (by omega)
   cases e'
   exact cell_lt (h' 0 (by omega))
  by_cases hz:i<Z.length
  case' neg =>
   have hb:decide ((i:Int)<(Z.length:Nat))=false:=decide_eq_false (by omega)
   conv=>whnf
   repeat ((first
    | refine Br.t ?_|refine Br.f ?_|refine Pk.f ?_|refine Pk.t ?_|refine Br.y ?_|refine Br.n ?_|refine CW.s ?_);conv=>whnf)
   obtain ⟨w5,ew⟩:∃ w5,w5=wr:=⟨_,rfl⟩
   rw [← ew] at D r7 hLr hZr kk hcell ⊢
   have slm:∃ m2:Nat,m2≤i+1∧m2=mn∧SL m2 (8+138 * i+8) K P:=⟨mn,by omega,rfl,(sl_stab mn).mono (by omega) sl⟩
   clear ew
  case' pos =>
   have hb:decide ((i:Int)<(Z.length:Nat))=true:=decide_eq_true (by omega)
   obtain ⟨gz,oz,rfl,hcz⟩:=hZr (by omega)
   have hZr:Rd wr (some ⟨gz,oz,none⟩) Z.length (inF Z):=fun _=>⟨gz,oz,rfl,hcz⟩
   have hzw:=hZw _ (lst_mem hz)
   have cz:wr.cell? ⟨gz,oz+i,none⟩=some (.int .i64 (Z.getD i 0)):=hcz i hz
   conv=>whnf
   repeat ((first
    | (refine Ix.of i (by omega) (by omega) ?_)
    | (refine Ld.at (by omega) cz ?_)
    | refine Br.t ?_|refine Pk.t ?_|refine Br.y ?_|refine CW.s ?_);conv=>whnf)
   refine Ca.of (some_ok _ 12 hzw (by omega) wr) ?_
   rintro _ _ ⟨rfl,rfl⟩
   by_cases h50:someN (Z.getD i 0) 12=0
   case' neg =>
    have hb2:decide (((someN (Z.getD i 0) 12:Nat):Int)=0)=false:=decide_eq_false (by omega)
    conv=>whnf
    repeat ((first
     | refine Br.t ?_|refine Pk.t ?_|refine Br.n ?_);conv=>whnf)
    obtain ⟨w5,ew⟩:∃ w5,w5=wr:=⟨_,rfl⟩
    rw [← ew] at D r7 hLr hZr kk hcell ⊢
    have slm:∃ m2:Nat,m2≤i+1∧m2=mn∧SL m2 (8+138 * i+8) K P:=⟨mn,by omega,rfl,(sl_stab mn).mono (by omega) sl⟩
    clear ew cz hcz
   case' pos =>
    have hb2:decide (((someN (Z.getD i 0) 12:Nat):Int)=0)=true:=decide_eq_true (by omega)
    conv=>whnf
    repeat ((first
     | refine Br.t ?_|refine Pk.t ?_|refine Br.y ?_);conv=>whnf)
    refine Ca.of (report_ok D (fun o ho=>I.l.ok.led.lt ho)) ?_
    rintro _ wa ⟨rfl,ka⟩
    conv=>whnf
    refine Ru.alloca (alloc_vw wa) ?_
    intro x10 wb hx10 hsb r10 kb
    conv=>whnf
    refine Ru.sta r10 size_vw (by omega) (fun j _=>vwF_one K j) ?_
    intro wc r10c kc
    have r10c:Row wc x10 72 67 (vwF K):=r10c.congr (fun j hj=>by unfold lay;rw [if_pos (by omega),Nat.sub_zero])
    have qc:Keep [] wr wc:=(ka.trans kb).then kc (fun x hx=>.inr (by rw [List.mem_singleton.1 hx,hx10];exact ka.size))
    have hx10w:wr.heap.size≤x10:=by have:=ka.size;omega
    have Dc:=D.keep0 qc
    have r7c:=r7.keep qc (by simp)
    have hLc:=hLr.keep0 qc
    have hZc:=hZr.keep0 qc
    have hcellc:∀ j,j<3→wc.cell? ⟨g,o+i * 3+j,none⟩=some (c.cell j):=fun j hj=>(qc.cell (cell_lt (hcell j hj)) (by simp)).trans (hcell j hj)
    have kkc:=kk.trans qc
    have hsw:=kk.size
    clear D r7 hLr hZr hcell kk ka kb kc qc r10 hsb hx10 cz hcz
    conv=>whnf
    obtain ⟨C1,H1,hA1,hl1⟩:=Dc.chip
    obtain ⟨K5,P5,tr5,M5,I5,q5,c5,sl5,rr5,cu5,hs5⟩:=mount_sl I (by omega) sl (by omega) cl8 due
    have s5:=hs5 _ s
    clear hs5
    refine Ca.of (onchip_ok H1 hA1 hl1 I.l.ok.gd.calm M5 q5) ?_
    rintro _ w5 ⟨k5,hr5⟩
    rcases hr5 with ⟨f5,d5,own5,rfl,D5,ho5⟩ | ⟨y,hy,hyb,-⟩
    case inr=>cases hyb
    have hcho:=Dc.in_own.2
    have hchw:=nw ch hcho
    have r75:=r7c.keep k5 (fun hm=>Dc.far r7c (by decide) (by rw [List.mem_singleton.1 hm];exact hcho))
    have r105:=r10c.keep k5 (fun hm=>Dc.far r10c (by decide) (by rw [List.mem_singleton.1 hm];exact hcho))
    have hL5:=rd_far hL hLc k5 (fun x hx=>by rw [List.mem_singleton.1 hx];exact hchw)
    have hZ5:=rd_far hZ hZc k5 (fun x hx=>by rw [List.mem_singleton.1 hx];exact hchw)
    have hcell5:∀ j,j<3→w5.cell? ⟨g,o+i * 3+j,none⟩=some (c.cell j):=fun j hj=>(k5.cell (cell_lt (hcellc j hj)) (fun hm=>by have:g=ch:=List.mem_singleton.1 hm;omega)).trans (hcellc j hj)
    have kk5:=kkc.fresh hchw k5
    have hsr:=kkc.size
    have nw5:∀ x,x∈own5→w.heap.size≤x:=fun x hx=>by
     rcases ho5 x hx with h | h
     ·rw [h];exact hchw
     ·omega
    have cl05:0≤K5.calls:=by omega
    have cl85:K5.calls<8:=by omega
    have sc5:∀ b,b<12→K5.F (12+b)≤K.F (12+b):=fun b hb=>by rw [I5.h.sc b hb,I.h.sc b hb];exact Int.le_refl _
    have hF5:=I5.h.hb
    have hcur5:=I5.h.cur
    have hcur:=I.h.cur
    clear k5 H1 hA1 hl1 M5 c5 ho5 hcho hchw hsr Dc r7c r10c hLc hZc hcellc kkc
    conv=>whnf
    repeat ((first
     | (refine Ru.of (dev_none w5 _ _) ?_)
     | refine Br.f ?_|refine Pk.f ?_|refine Ar.la ?_|refine Ru.neq_nil0 ?_|refine CW.s ?_);conv=>whnf)
    refine Ca.of (report_ok D5 (fun o ho=>I5.l.ok.led.lt ho)) ?_
    rintro _ wd ⟨rfl,kd⟩
    conv=>whnf
    refine Ru.alloca (alloc_vw wd) ?_
    intro x12 we hx12 hse r12 ke
    conv=>whnf
    refine Ru.sta r12 size_vw (by omega) (fun j _=>vwF_one K5 j) ?_
    intro wf r12f kf
    have r12f:Row wf x12 72 67 (vwF K5):=r12f.congr (fun j hj=>by unfold lay;rw [if_pos (by omega),Nat.sub_zero])
    have qf:Keep [] w5 wf:=(kd.trans ke).then kf (fun x hx=>.inr (by rw [List.mem_singleton.1 hx,hx12];exact kd.size))
    have Df:=D5.keep0 qf
    have r7f:=r75.keep qf (by simp)
    have r10f:=r105.keep qf (by simp)
    have hLf:=hL5.keep0 qf
    have hZf:=hZ5.keep0 qf
    have hcellf:∀ j,j<3→wf.cell? ⟨g,o+i * 3+j,none⟩=some (c.cell j):=fun j hj=>(qf.cell (cell_lt (hcell5 j hj)) (by simp)).trans (hcell5 j hj)
    have kkf:=kk5.trans qf
    clear D5 r75 r105 hL5 hZ5 hcell5 kk5 kd ke kf qf r12 hse hx12
    have cc10:wf.cell? ⟨x10,38,none⟩=some (.int .i64 (K.cur:Nat)):=r10f.cell 38 (by omega)
    have cc12:wf.cell? ⟨x12,38,none⟩=some (.int .i64 (K5.cur:Nat)):=r12f.cell 38 (by omega)
    conv=>whnf
    repeat ((first
     | (refine Ld.at (by omega) cc10 ?_)
     | (refine Ld.at (by omega) cc12 ?_)
     | refine Br.f ?_|refine Pk.f ?_|refine Ar.la ?_|refine Dv.r ?_|refine Br.n ?_|refine Ru.neq_nil0 ?_|refine CW.s ?_);conv=>whnf)
    obtain ⟨C5,H5,hA5,hl5⟩:=Df.chip
    have hrd5:=hA5.rd
    refine CW.loop (ι:=Nat) (fun b w'=>b≤12∧Keep [] wf w') (fun b=>[(0,.slice (some ⟨g,o,none⟩) L.length cA),(1,.slice (some ⟨gz,oz,none⟩) Z.length cC),(5,.pointer (some ⟨ch,0,none⟩)),(6,.pointer (some ⟨d5,0,none⟩)),(7,.pointer (some ⟨x7,0,none⟩)),(8,.int .i64 ((mn+1:Nat):Int)),(9,.int .i64 i),(10,.pointer (some ⟨x10,0,none⟩)),(12,.pointer (some ⟨x12,0,none⟩)),(14,.int .i64 b)]) (fun b=>12 - b) 0 tt_ok
     ⟨by omega,Keep.refl _ _⟩ ⟨rfl,rfl,rfl,rfl,rfl,rfl,rfl,rfl,rfl,rfl,trivial⟩ ?_
    rintro b wg ⟨hb12,kg⟩
    rcases Nat.lt_or_ge b 12 with hblt | hbge
    case' inl =>
     obtain ⟨x1,x2,x3⟩:=rr5 b hblt (by omega)
     have x4:=sc5 b hblt
     have x5:=hF5 b hblt
     have eC:=congrFun hrd5 b
     conv=>whnf
     repeat ((first
      | refine Br.y ?_|refine CW.s ?_);conv=>whnf)
     refine Ca.of (nreads_ok (H5.keep kg (by simp)) hblt) ?_
     rintro _ _ ⟨rfl,rfl⟩
     rw [eC]
     conv=>whnf
     refine CW.held (fun w'=>w'.cell? ⟨x12,40+b,none⟩=some (.int .i64 (K5.F b))∧w'.cell? ⟨x12,52+b,none⟩=some (.int .i64 (K5.F (12+b)))∧w'.cell? ⟨x10,52+b,none⟩=some (.int .i64 (K.F (12+b)))) [] (.take 0 (.take 1 (.take 2 (.take 3 (.take 4 (.take 5 (.take 6 (.take 7 (.take 8 (.take 9 (.take 10 (.take 11 (.take 12 (.take 13 (.take 14 (.take 15 (.take 16 (.take 17 (.take 18 (.take 19 (.take 20 (.take 21 (.take 22 (.take 23 (.done))))))))))))))))))))))))) tt_ok (by kernel_rfl) (by kernel_rfl) (by kernel_rfl) ?_ ?_
     ·exact ⟨by rw [← vwF_rd K5 hblt];exact (r12f.keep kg (by simp)).cell (40+b) (by omega),by rw [← vwF_sc K5 hblt];exact (r12f.keep kg (by simp)).cell (52+b) (by omega),by rw [← vwF_sc K hblt];exact (r10f.keep kg (by simp)).cell (52+b) (by omega)⟩
     have kg2:=kg.drewN 1
     generalize wg.drewN 1=wh at *
     conv=>whnf
     repeat ((first
      | (refine Ix.of b (by omega) (by omega) ?_)
      | (refine RuQ.of (fun w _=>by simp only [Sem.run_bind,guard_errOf_neq,Result.andThen_ok];exact neq_errOf_nil 0 w) ?_)
      | (refine LdQ.at (by omega) (fun w' h=>h.1) ?_)
      | (refine LdQ.at (by omega) (fun w' h=>h.2.1) ?_)
      | (refine LdQ.at (by omega) (fun w' h=>h.2.2) ?_)
      | refine Br.f ?_|refine Pk.f ?_|refine Ar.la ?_|refine Br.n ?_);conv=>whnf)
     exact ⟨b+1,⟨hblt,kg2⟩,⟨rfl,rfl,rfl,rfl,rfl,rfl,rfl,rfl,rfl,vi (by first | omega | (simp only;omega)),trivial⟩,by simp only;omega⟩
    case' inr =>
     obtain rfl:b=12:=by omega
     obtain ⟨D,I,q,s,cl0,cl8,nw⟩:DvOn wg own5 d5 ch K5 P5 none∧Inv K5 P5 k (2+2 * (i:Int))∧K5.qu=[]∧Shows P5 K5.at_ (arB a)∧0≤K5.calls∧K5.calls<8∧∀ x,x∈own5→w.heap.size≤x:=⟨Df.keep0 kg,I5,q5,s5,cl05,cl85,nw5⟩
     have r7:=r7f.keep kg (by simp)
     have hLr:=hLf.keep0 kg
     have hZr:=hZf.keep0 kg
     have kk:=kkf.trans kg
     have hcell:∀ j,j<3→wg.cell? ⟨g,o+i * 3+j,none⟩=some (c.cell j):=fun j hj=>(kg.cell (cell_lt (hcellf j hj)) (by simp)).trans (hcellf j hj)
     have slm:∃ m2:Nat,m2≤i+1∧m2=mn+1∧SL m2 (8+138 * i+8) K5 P5:=⟨mn+1,by omega,rfl,sl5⟩
     clear Df I5 q5 s5 sl5 cl05 cl85 nw5 r7f hLf hZf kkf hcellf rr5 sc5 hF5 H5 hA5 hl5 hrd5 r10f r12f cc10 cc12 kg cu5
     generalize K5=K at *
     generalize P5=P at *
     generalize own5=own at *
     generalize d5=d at *
     generalize wg=w5 at *
     conv=>whnf
     repeat ((first
      | refine Br.f ?_|refine CW.s ?_);conv=>whnf)
  all_goals
   clear hb
   obtain ⟨K2,P2,k2',t1,t2,rd,CE,An,hcall⟩:=does_call I q (by omega) hcw s
   obtain ⟨⟨cl02,cl82,due2⟩,hJ2⟩:=CE.st cl0 cl8
   obtain ⟨m2,hm2,em2,sl⟩:=slm
   subst em2
   have sl2:=(sl_stab _).mono (n':=8+138 * (i+1)) (by omega) (hJ2 (SL _) (sl_stab _) _ sl)
   have hgo:g∉own:=fun hx=>by have:=nw g hx;omega
   refine CW.held (fun w'=>Row w' x7 28 24 (arF a)∧∀ j,j<3→w'.cell? ⟨g,o+i * 3+j,none⟩=some (c.cell j)) [] (.take 0 (.take 1 (.take 2 (.take 3 (.take 4 (.take 5 (.two 6 (.take 7 (.take 8 (.take 9 (.take 10 (.one 11 (.one 12 (.take 13 (.take 14 (.done))))))))) 11 (.one 6 (.take 7 (.take 8 (.take 9 (.take 10 (.one 12 (.take 13 (.take 14 (.done)))))))))))))))) tt_ok (by kernel_rfl) (by kernel_rfl) (by kernel_rfl) ?_ ?_
   ·exact ⟨Row.drewN r7 1,hcell⟩
   have q2:=(Keep.refl [] w5).drewN 1
   have D2:=D.keep0 q2
   have r72:=r7.keep q2 (by simp)
   have hL2:=hLr.keep0 q2
   have hZ2:=hZr.keep0 q2
   have hc2:∀ j,j<3→(w5.drewN 1).cell? ⟨g,o+i * 3+j,none⟩=some (c.cell j):=hcell
   have kk2:=kk.trans q2
   clear D r7 hLr hZr hcell kk q2 hJ2
   generalize w5.drewN 1=w2 at *
   conv=>whnf
   repeat ((first
    | (refine RuQ.of (fun w hS=>run_ldaC (q:=arF a) hS.1 Tryz.underlying28 rfl size_ar (by omega) (fun j hj=>by rw [Nat.zero_add])) ?_)
    | (refine Ix.of i (by omega) (by omega) ?_)
    | (refine RuQ.of (fun w hS=>run_ldcl hS.2) ?_));conv=>whnf)
   refine And.intro ?_ ?_
   case' refine_1 =>
    refine Ca.of (hcall D2) ?_
    rintro u w3 ⟨k3,hr3⟩
    rcases hr3 with ⟨f3,⟨Y,n,e,f,rfl,hm1,hm2⟩,own3,D3,h3⟩ | ⟨y,hy,hyb,-⟩
    case inr=>cases hyb
    have r73:=r72.keep k3 (D2.far r72 (by decide))
    have hL3:=rd_far hL hL2 k3 nw
    have hZ3:=rd_far hZ hZ2 k3 nw
    have hc3:∀ j,j<3→w3.cell? ⟨g,o+i * 3+j,none⟩=some (c.cell j):=fun j hj=>(k3.cell (cell_lt (hc2 j hj)) hgo).trans (hc2 j hj)
    have kk3:Keep [] w w3:=kk2.then k3 (fun x hx=>.inr (nw x hx))
    have hs2:=kk2.size
    have nw3:∀ x,x∈own3→w.heap.size≤x:=fun x hx=>by
     rcases h3 x hx with h | h
     ·exact nw x h
     ·omega
    clear D2 r72 hL2 hZ2 hc2 k3 h3 kk2 hs2
    refine ⟨⟨r73,hc3⟩,?_⟩
    conv=>whnf
    refine Ru.alloca (alloc_ar w3) ?_
    intro x10 w4 hx10 hs4 r10 k4
    refine ⟨⟨r73.keep k4 (by simp),fun j hj=>(k4.cell (cell_lt (hc3 j hj)) (by simp)).trans (hc3 j hj)⟩,?_⟩
    conv=>whnf
    refine Ru.sta r10 size_ar (by omega) (fun j hj=>arF_one _ j) ?_
    intro w6 r106 k6
    have r106:Row w6 x10 28 24 (arF (c.arr a)):=r106.congr (fun j hj=>by unfold lay;rw [if_pos (by omega),Nat.sub_zero])
    have q6:Keep [] w3 w6:=k4.then k6 (fun x hx=>.inr (by rw [List.mem_singleton.1 hx,hx10];exact Nat.le_refl _))
    have D6:=D3.keep0 q6
    have r76:=r73.keep q6 (by simp)
    have hL6:=hL3.keep0 q6
    have hZ6:=hZ3.keep0 q6
    have hc6:∀ j,j<3→w6.cell? ⟨g,o+i * 3+j,none⟩=some (c.cell j):=fun j hj=>(q6.cell (cell_lt (hc3 j hj)) (by simp)).trans (hc3 j hj)
    have kk6:=kk3.trans q6
    have h710:x7≠x10:=by have:=r73.lt;omega
    clear D3 r73 hL3 hZ3 hc3 k4 k6 r10 hs4 kk3 q6 hm2 hx10
    refine ⟨⟨r76,hc6⟩,?_⟩
    conv=>whnf
    repeat ((first
     | refine Br.f ?_|refine Ru.neq_nil0 ?_|refine CW.s ?_);conv=>whnf)
   case' refine_2 =>
    refine Ru.alloca (alloc_ar w2) ?_
    intro x10 w3 hx10 hs4 r10 k4
    have h710:x7≠x10:=by have:=r72.lt;omega
    have h10w:w.heap.size≤x10:=by have:=kk2.size;omega
    have D3:=D2.keep0 k4
    have r73:=r72.keep k4 (by simp)
    have hL3:=hL2.keep0 k4
    have hZ3:=hZ2.keep0 k4
    have hc3:∀ j,j<3→w3.cell? ⟨g,o+i * 3+j,none⟩=some (c.cell j):=fun j hj=>(k4.cell (cell_lt (hc2 j hj)) (by simp)).trans (hc2 j hj)
    have kk3:=kk2.trans k4
    clear D2 r72 hL2 hZ2 hc2 kk2 k4 hs4
    refine ⟨⟨r73,hc3⟩,?_⟩
    conv=>whnf
    refine Ca.of (hcall D3) ?_
    rintro u w4 ⟨k3,hr3⟩
    rcases hr3 with ⟨f3,⟨Y,n,e,f,rfl,hm1,hm2⟩,own3,D4,h3⟩ | ⟨y,hy,hyb,-⟩
    case inr=>cases hyb
    have r74:=r73.keep k3 (D3.far r73 (by decide))
    have r104:=r10.keep k3 (D3.far r10 (by decide))
    have hL4:=rd_far hL hL3 k3 nw
    have hZ4:=rd_far hZ hZ3 k3 nw
    have hc4:∀ j,j<3→w4.cell? ⟨g,o+i * 3+j,none⟩=some (c.cell j):=fun j hj=>(k3.cell (cell_lt (hc3 j hj)) hgo).trans (hc3 j hj)
    have kk4:Keep [] w w4:=kk3.then k3 (fun x hx=>.inr (nw x hx))
    have hs2:=kk3.size
    have nw3:∀ x,x∈own3→w.heap.size≤x:=fun x hx=>by
     rcases h3 x hx with h | h
     ·exact nw x h
     ·omega
    clear D3 r73 r10 hL3 hZ3 hc3 k3 h3 kk3 hs2
    refine ⟨⟨r74,hc4⟩,?_⟩
    conv=>whnf
    refine Ru.sta r104 size_ar (by omega) (fun j hj=>arF_one _ j) ?_
    intro w6 r106 k6
    have r106:Row w6 x10 28 24 (arF (c.arr a)):=r106.congr (fun j hj=>by unfold lay;rw [if_pos (by omega),Nat.sub_zero])
    have D6:=D4.away r104 (by decide) k6
    have r76:=r74.keep k6 (by simpa using h710)
    have hL6:=rd_far hL hL4 k6 (fun x hx=>by rw [List.mem_singleton.1 hx];exact h10w)
    have hZ6:=rd_far hZ hZ4 k6 (fun x hx=>by rw [List.mem_singleton.1 hx];exact h10w)
    have hc6:∀ j,j<3→w6.cell? ⟨g,o+i * 3+j,none⟩=some (c.cell j):=fun j hj=>(k6.cell (cell_lt (hc4 j hj)) (fun hm=>by have:g=x10:=List.mem_singleton.1 hm;omega)).trans (hc4 j hj)
    have kk6:=kk4.fresh h10w k6
    clear D4 r74 r104 hL4 hZ4 hc4 k6 kk4 hm2 h10w hx10
    refine ⟨⟨r76,hc6⟩,?_⟩
    conv=>whnf
    repeat ((first
     | refine Br.f ?_|refine Ru.neq_nil0 ?_|refine CW.s ?_);conv=>whnf)
   all_goals
    clear hc6 hm1 I q s sl cl0 cl8 hcall
    refine Ru.ldaC (q:=arF (c.arr a)) r106 Tryz.underlying28 rfl size_ar (by omega) (fun j hj=>by rw [Nat.zero_add]) ?_
    conv=>whnf
    refine Ru.sta r76 size_ar (by omega) (fun j hj=>arF_one _ j) ?_
    intro wb r7b kb
    have r7b:Row wb x7 28 24 (arF (playA (fun _=>0) (L.take (i+1)))):=r7b.congr (fun j hj=>by unfold lay;rw [if_pos (by omega),Nat.sub_zero,hst])
    have Db:=D6.away r76 (by decide) kb
    have hLb:=rd_far hL hL6 kb (fun x hx=>by rw [List.mem_singleton.1 hx];exact hx7w)
    have hZb:=rd_far hZ hZ6 kb (fun x hx=>by rw [List.mem_singleton.1 hx];exact hx7w)
    have kkb:=kk6.fresh hx7w kb
    conv=>whnf
    repeat ((first
     | refine Ar.la ?_);conv=>whnf)
    have I2:=CE.inv
    rw [show 2+2 * ((i:Nat):Int)+2=2+2 * ((i+1:Nat):Int) by omega] at I2
    exact ⟨(i+1,d,own3,K2,P2,k2',_),⟨hlt,by simp only;omega,⟨Db,I2,CE.qu,by rw [hst];exact CE.sh,sl2,hm2,due2,cl02,cl82,nw3,r7b,hLb,hZb,kkb,by rw [hst];exact arr_le ha c⟩⟩,⟨rfl,rfl,rfl,rfl,rfl,rfl,vi (by first | omega | (simp only;omega)),trivial⟩,by simp only;omega⟩
 ·by_cases hlt:i<L.length
  case' pos =>
   have h300:¬ i<300:=fun x=>hgo3 ⟨hlt,x⟩
   conv=>whnf
   repeat ((first
    | refine Br.t ?_|refine Pk.t ?_|refine Br.y ?_|refine Br.n ?_|refine CW.s ?_);conv=>whnf)
  case' neg =>
   conv=>whnf
   repeat ((first
    | refine Br.f ?_|refine Pk.f ?_|refine Br.n ?_|refine CW.s ?_);conv=>whnf)
  all_goals
   refine Ru.ldaC (q:=arF (playA (fun _=>0) (L.take i))) r7 Tryz.underlying28 rfl size_ar (by omega) (fun j hj=>by rw [Nat.zero_add]) ?_
   conv=>whnf
   refine Ca.of (showing_ok D I q s (by omega) ha) ?_
   rintro _ wl ⟨rfl,K9,P9,k9,own8,PI⟩
   conv=>whnf
   exact ⟨rfl,rfl,kk.then PI.kk (fun y hy=>.inr (nw y hy))⟩
end Go.Proofs.YtaeikigfgfcadaaGreat
namespace Go.Proofs.YtaeikigfgfcadaaGreat.topSlack
open Go.RowKit Go.Joins Go.ChangeAt
theorem and_ {a b:Bool} (h:a=true) (k:b=true):(a && b)=true:=by rw [h,k];rfl
theorem j0:(Rows.topSlackRow.wf (OpenSpec.ofChange Rows.topSlackSpec):Bool)=true:=by kernel_rfl
theorem j1:(laidOutB Tryz.pinned.checked.prog:Bool)=true:=by kernel_rfl
theorem j2:(mapsRowed Tryz.pinned.checked.prog:Bool)=true:=by kernel_rfl
theorem j3:((Tryz.f12).params.all (Tryz.pinned.checked.prog.readableRec ·):Bool)=true:=by kernel_rfl
theorem j4:(namedTie Tryz.pinned.checked.prog Rows.topSlackRow.named Rows.topSlackSpec.vars:Bool)=true:=by kernel_rfl
theorem j5:((Rows.topSlackRow.stops == []):Bool)=true:=by kernel_rfl
theorem j6:((Tryz.pinned.checked.prog.stops == []):Bool)=true:=by kernel_rfl
theorem j7:((Rows.topSlackRow.knobs == []):Bool)=true:=by kernel_rfl
theorem j8:((Tryz.pinned.checked.prog.stopKnobs == []):Bool)=true:=by kernel_rfl
theorem j9:((Rows.topSlackRow.inPlace == Tryz.pinned.checked.prog.inPlace 12):Bool)=true:=by kernel_rfl
theorem j10:((Rows.topSlackRow.unfollowed == Tryz.pinned.checked.prog.unfollowed 12):Bool)=true:=by kernel_rfl
theorem j11:((Rows.topSlackRow.recurses == Tryz.pinned.checked.prog.recurses 12):Bool)=true:=by kernel_rfl
theorem j12:((Rows.topSlackRow.named == Tryz.pinned.checked.prog.varsNamed 12):Bool)=true:=by kernel_rfl
theorem j13:((Rows.topSlackRow.maps == ((Tryz.f12).params.toList ++ Rows.topSlackSpec.plain.varTypes Tryz.pinned.checked.prog).any (Tryz.pinned.checked.prog.mapsRec ·)):Bool)=true:=by kernel_rfl
theorem j14:((Rows.topSlackRow.ifaces == ((Tryz.f12).params.toList ++ Rows.topSlackSpec.plain.varTypes Tryz.pinned.checked.prog).any (Tryz.pinned.checked.prog.ifacesRec ·)):Bool)=true:=by kernel_rfl
theorem j15:((Rows.topSlackRow.mapsOut == Tryz.pinned.checked.prog.mapsAmong (Tryz.f12).resultTypes.toList):Bool)=true:=by kernel_rfl
theorem j16:((Rows.topSlackRow.loops == ((Tryz.f12).params.toList ++ Rows.topSlackSpec.plain.varTypes Tryz.pinned.checked.prog).any (Tryz.pinned.checked.prog.loopsFrom ·)):Bool)=true:=by kernel_rfl
theorem j17:((Rows.topSlackRow.wideKeys == ((Tryz.f12).params.toList ++ Rows.topSlackSpec.plain.varTypes Tryz.pinned.checked.prog ++ (Tryz.f12).resultTypes.toList).any (Tryz.pinned.checked.prog.wideKeysFrom ·)):Bool)=true:=by kernel_rfl
theorem j18:(Rows.topSlackSpec.vars.all (Tryz.pinned.checked.prog.varReadable ·):Bool)=true:=by kernel_rfl
theorem j19:((Tryz.f12).resultTypes.all (fun t=>Tryz.pinned.checked.prog.readableRec t && decide (t<Tryz.pinned.checked.prog.types.size)):Bool)=true:=by kernel_rfl
theorem j20:((Rows.topSlackRow.ifacesOut == (Tryz.f12).resultTypes.toList.any (Tryz.pinned.checked.prog.ifacesRec ·)):Bool)=true:=by kernel_rfl
theorem j21:((Rows.topSlackRow.loopsOut == (Tryz.f12).resultTypes.toList.any (Tryz.pinned.checked.prog.loopsFrom ·)):Bool)=true:=by kernel_rfl
theorem j22:((Rows.topSlackRow.plainKeys == Tryz.pinned.checked.prog.plainKeys):Bool)=true:=by kernel_rfl
theorem j23:(Rows.topSlackRow.shortTexts.isNone:Bool)=true:=by kernel_rfl
theorem j24:(Tryz.pinned.checked.prog.stopsHeard:Bool)=true:=by kernel_rfl
theorem j25:(Tryz.pinned.checked.prog.mayEnter:Bool)=true:=by kernel_rfl
theorem j26:((Rows.topSlackRow.lifted == Tryz.pinned.checked.prog.liftsFinal):Bool)=true:=by kernel_rfl
theorem j27:((Tryz.pinned.checked.prog.make == some Rows.topSlackRow.make):Bool)=true:=by kernel_rfl
theorem j28:((Rows.topSlackRow.kinds == (if Rows.topSlackRow.domain.isEmpty then [] else (Tryz.f12).params.toList.map fun t=>match Tryz.pinned.checked.prog.underlying t with | some (.int k)=>some k | _=>none)):Bool)=true:=by kernel_rfl
theorem j29:((Rows.topSlackRow.pinned == Rows.topSlackRow.pinnedBy):Bool)=true:=by kernel_rfl
theorem j30:((Rows.topSlackRow.veiled == ((Tryz.f12).params.toList ++ Rows.topSlackSpec.plain.varTypes Tryz.pinned.checked.prog ++ (Tryz.f12).resultTypes.toList).any (Tryz.pinned.checked.prog.veiledRec ·)):Bool)=true:=by kernel_rfl
theorem j31:(Rows.topSlackRow.veiledFits Tryz.pinned.checked.prog (Tryz.f12).params.toList ((Tryz.f12).params.toList ++ Rows.topSlackSpec.plain.varTypes Tryz.pinned.checked.prog ++ (Tryz.f12).resultTypes.toList):Bool)=true:=by kernel_rfl
set_option maxRecDepth 20000 in
theorem closed:joinedFacts Tryz.pinned.checked.prog 12 Tryz.f12 Rows.topSlackSpec Rows.topSlackRow=true:=(and_ (and_ (and_ (and_ (and_ (and_ (and_ (and_ (and_ (and_ (and_ (and_ (and_ (and_ (and_ (and_ (and_ (and_ (and_ (and_ (and_ (and_ (and_ (and_ (and_ (and_ (and_ (and_ (and_ (and_ (and_ j0 j1) j2) j3) j4) j5) j6) j7) j8) j9) j10) j11) j12) j13) j14) j15) j16) j17) j18) j19) j20) j21) j22) j23) j24) j25) j26) j27) j28) j29) j30) j31)
theorem wrap:(Tryz.f12).isWrapper Tryz.pinned.checked.prog Rows.topSlackRow.wrapper Rows.topSlackRow.mainSum:=by unfold Func.isWrapper;first | (rw [if_pos (by decide +kernel)];kernel_rfl) | (rw [if_neg (by decide +kernel)];exact ⟨rfl,rfl⟩)
end Go.Proofs.YtaeikigfgfcadaaGreat.topSlack
