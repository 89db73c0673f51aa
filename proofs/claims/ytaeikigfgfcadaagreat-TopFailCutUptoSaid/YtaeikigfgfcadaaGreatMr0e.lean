/- Texts behind one another: LayF, PutF, Pl1, Pl2, Pl3, Pl4, Pl5, Get, Tend1, Tend2, Trim, Pl6, Pl7, Pl8, Pl9, Found, New, Mp, Scan. -/
import Derived.Test.YtaeikigfgfcadaaGreatMr0a
import Derived.Test.YtaeikigfgfcadaaGreatMr0b
import Derived.Test.YtaeikigfgfcadaaGreatMr0c
import Derived.Test.YtaeikigfgfcadaaGreatMr0d
namespace Go.Proofs.YtaeikigfgfcadaaGreat
open Go.Proofs.Tryz
set_option maxHeartbeats 8000000
set_option maxRecDepth 20000
set_option linter.unusedVariables false
set_option linter.unusedSimpArgs false
set_option linter.unnecessarySimpa false
section
open Go.RowKit
def dw(K:KS)(of:Nat):Tg:=⟨((K.fb*8+K.fi:Nat):Int),of,K.next,0,false⟩
def tkK(K:KS):KS:={ K with fi:=K.fi+1 }
structure AQ(of:Nat)(D:KS->Int->Nat->Nat)(K:KS)(P:CS)(K1:KS)(P1:CS)(t1:List CS):Prop where
 abn:ax K.st=false
 op:AS of 48 K P K1 P1 t1
 fb:K1.fb<12
 fi:K1.fi<=8
 room:aF K1.fo K1.fi of=true
 next:0<=K1.next/\K1.next<1099511627775
 hb:Hl.HB K1.F
 mw:AL K1.at_ K1.ow
 calm:P1.calm
 blank:P1.pg (K1.fb*8+K1.fi)=.blank
 ok:(dw K1 of).ok
 byte:∀j,D (bJ K1) K1.next j<256
def cB(K1:KS)(of:Nat):KS:=anK (pT (tkK (bJ K1)) (K1.fb*8+K1.fi)) (dw K1 of) of (K1.fb*8+K1.fi)
def jw(K1:KS)(P1:CS)(of:Nat)(D:KS->Int->Nat->Nat):CS:=P1.lay (K1.fb*8+K1.fi) (dw K1 of) (D (bJ K1) K1.next)
def zH(K1:KS)(P1:CS)(t1:List CS):List CS:=t1++P1.wG (K1.fb*8+K1.fi)
section
variable{w w':World}{N:Cr}{K:KS}{X:Option Addr}{c:Nat}{P:CS}{b:Option Nat}{n:Int}
def Cw(N:Cr)(X:Option Addr)(c:Nat)(w0:World)(g:FuncId)(cap:Array Value)(D:KS->Int->Nat->Nat)(K1:KS)(P1:CS):Prop :=
 ∀w b n,Aa N.all w0 w->On w N (bJ K1) P1 b n X c->Spec Tryz.prog g (#[.int .i64 K1.next]++cap) w fun v w'=>∃A d,v=.tuple #[.slice A 174 d,al 0]/\Ly w' 5 1 A 174 d (fun j=>.int .u8 (D (bJ K1) K1.next j:Nat))/\Aa [] w w'
theorem nI(a b c:Int)(w:World):(Instr.build 67 #[(0,.int .i64 a),(1,.int .i64 b),(2,.int .i64 c)]).run Tryz.prog w=.ok (.agg (Tg.mk a b c 0 false).arr) w:=by kernel_rfl
theorem zI(h:On w N K P b n X c){of:Nat}(ho:of<=24){D:KS->Int->Nat->Nat}{K1:KS}{P1:CS}{t1:List CS}(H:AQ of D K P K1 P1 t1)(g:FuncId)(cap:Array Value)(hg:Cw N X c w g cap D K1 P1) :
  Spec Tryz.prog 63 #[.pointer (some ⟨N.k,0,none⟩),.int .i64 of,.func (.func g) #[] cap] w fun u w'=>AD N X c (cB K1 of) (jw K1 P1 of D) b (zH K1 P1 t1) w w' (u=al 0) (u=al 7):=by
 have hwo:=H.abn;have qk:=H.fb;have hfi:=H.fi;have mF:=H.room;refine spec_of_wpE (T:=tt) ai func63 rfl (by decide +kernel) ntmps63 (by simp) ?_;refine CW.loop (ι:=Unit) (fun _ w'=>w'=w) (fun _=>[(0,.pointer (some ⟨N.k,0,none⟩)),(1,.int .i64 of),(2,.func (.func g) #[] cap)]) (fun _=>0) () ai rfl ⟨rfl,rfl,rfl,trivial⟩ ?_;rintro _ wr rfl;conv=>whnf
 repeat ((first|(refine Ld.of h.core.c1 ?_)|refine CW.s ?_);conv=>whnf)
 refine Ca.of (eQ h.core.aV) ?_;rintro _ _ ⟨rfl,rfl⟩;rw[hwo];conv=>whnf
 repeat ((first|refine Br.f ?_|refine CW.s ?_);conv=>whnf)
 refine Ca.of (alj h ho H.op) ?_;rintro _ w1 ⟨k1,hr1⟩;rcases hr1 with⟨hf1,rfl,n1,h1⟩|⟨y,hy,jq,rfl,n1,h1⟩
 case inr =>
  conv=>whnf
  repeat ((first|refine Br.t ?_|refine Ru.n1 ?_);conv=>whnf)
  exact⟨rfl,k1,Af.gone hy jq ⟨rfl,n1,h1⟩⟩
 conv=>whnf
 repeat ((first|refine Br.f ?_|refine Ru.ak ?_);conv=>whnf)
 refine Ca.of (sR h1 H.next) ?_;rintro _ w2 ⟨rfl,h2,k2⟩;have dh:=k1.trans k2;conv=>whnf
 repeat ((first|refine Br.f ?_|refine Ru.ak ?_|refine CW.s ?_);conv=>whnf)
 refine Ca.args (args' := #[.int .i64 K1.next]++cap) (by simp) ?_;refine Ca.of (hg w2 _ _ dh h2) ?_;rintro _ w3 ⟨A,dd,rfl,hl,k3⟩;have h3:=h2.aj k3;have bG:=dh.trans (Aa.eh k3);conv=>whnf
 repeat ((first|(refine Ld.of h3.core.c3 ?_)|refine Br.f ?_|refine Ru.ak ?_|refine CW.s ?_);conv=>whnf)
 refine Ca.of (uG h3.core.front of qk hfi ho mF) ?_;rintro _ w4 ⟨rfl,r4,k4⟩;have h4:On w4 N (tkK (bJ K1)) P1 (less b t1.length) n1 X c:=h3.front k4 r4;have bU:=bG.trans (Aa.jl (by simp[Cr.own]) k4);have hl4:=hl.ab k4 (fun x hx hm=>hl.aL h3.core.front (by decide) (List.mem_singleton.1 hm ▸ hx));conv=>whnf
 repeat ((first|refine Br.f ?_|refine Ru.ak ?_|refine CW.s ?_);conv=>whnf)
 refine Ru.of (nI _ _ _ _) ?_;rw[show(Tg.mk (((bJ K1).fb*8+(bJ K1).fi:Nat):Int) (of:Nat) K1.next 0 false)=dw K1 of from rfl];conv=>whnf
 refine Ru.ft ?_;intro x12 w5 hx12 hs5 r12a k5;conv=>whnf
 refine Ru.ln r12a ?_;intro w6 r12 k6;have q6:Aa [] w4 w6:=k5.then k6 (fun x hx=>.inr (by rw[List.mem_singleton.1 hx,hx12];exact Nat.le_refl _));have h6:=h4.aj q6;have hl6:=hl4.aj q6;have gG:=bU.trans (Aa.eh q6);have al4:wr.heap.size<=x12:=by
  rw[hx12];exact bU.size
 have bW:x12∉N.all:=fun hm=>by
  have h3:x12<wr.heap.size:=by
   rcases List.mem_append.1 hm with hm|hm
   ·exact h.core.lt (List.mem_append_left _ hm)
   ·exact h.gn _ hm
  omega
 clear k5 k6 q6 hs5 r12a hx12 w5;conv=>whnf
 refine Ru.fG r12 ?_;conv=>whnf
 have hpl:K1.fb*8+K1.fi<96:=by
  have:=H.room;unfold aF at this;simp only[Bool.and_eq_true,decide_eq_true_eq] at this;omega
 refine Ca.of (pU h6 H.hb H.calm (p:=K1.fb*8+K1.fi) hpl H.byte hl6 H.ok rfl H.blank) ?_;rintro _ w7 ⟨k7,hr7⟩;have aq1:=r12.ab k7 bW;rcases hr7 with⟨hf7,rfl,n7,h7⟩|⟨y,hy,jq,rfl,n7,h7⟩
 ·conv=>whnf
  repeat ((first|refine Br.t ?_|refine Ru.bh ?_|refine CW.s ?_);conv=>whnf)
  refine Ru.fG aq1 ?_;conv=>whnf
  refine Ca.of (sS h7 H.mw (t:=dw K1 of) ho hpl rfl rfl) ?_;rintro _ w8 ⟨rfl,h8,k8⟩;conv=>whnf
  rw[gk, <-List.length_append] at h8;exact⟨rfl,(gG.trans k7).trans k8,.inl ⟨Af.fits hf1 hf7,rfl,n7,h8⟩⟩
 ·conv=>whnf
  repeat ((first|refine Br.f ?_|refine Ru.e1 ?_|refine CW.s ?_);conv=>whnf)
  refine Ca.of (aU 7 8 (by decide) w7) ?_;rintro _ _ ⟨rfl,rfl⟩;conv=>whnf
  repeat (refine Br.t ?_;conv=>whnf)
  exact⟨rfl,gG.trans k7,Af.then hf1 (.inr ⟨y,hy,jq,rfl,n7,h7⟩)⟩
end
theorem qQ{w:World}{g:Nat}{t:TypeId}{v:Value}(h:w.heap[g]?=some (.cells #[v] t (0,0))):Row w g t 1 (fun _=>v):=by
 unfold Row;rw[h];simp[Array.range,Array.ofFn_succ]
theorem Ru.aiA{t:TypeId}{A:Option Addr}{w:World}{K:Value->World->Prop}(k:∀g w',g=w.heap.size->w'.heap.size=w.heap.size+1->Row w' g t 1 (fun _=>.pointer A)->Aa [] w w'->K (.pointer (some ⟨g,0,none⟩)) w'):Ru Tryz.prog (Instr.box t (.pointer A)) w K :=
 ⟨_,w.alloc (.cells #[.pointer A] t),rfl,k _ _ rfl (by simp) (qQ (heap_alloc_new _ _)) ((Aa.refl _ _).alloc _)⟩
theorem Ru.anB{t:TypeId}{v:Int}{w:World}{K:Value->World->Prop}(k:∀g w',g=w.heap.size->w'.heap.size=w.heap.size+1->Row w' g t 1 (fun _=>.int .i64 v)->Aa [] w w'->K (.pointer (some ⟨g,0,none⟩)) w'):Ru Tryz.prog (Instr.box t (.int .i64 v)) w K :=
 ⟨_,w.alloc (.cells #[.int .i64 v] t),rfl,k _ _ rfl (by simp) (qQ (heap_alloc_new _ _)) ((Aa.refl _ _).alloc _)⟩
def sV(p:Cp)(j:Nat):Nat:=(l9 p j).toNat
theorem nJ(p:Cp)(j:Nat):((sV p j:Nat):Int)=l9 p j:=by
 have:=ah7 p j;unfold sV;omega
theorem jc(p:Cp)(j:Nat):sV p j<256:=by
 have:=ah7 p j;unfold sV;omega
def aW(K:KS)(s:Int):Nat->Nat:=sV (iA K s (-1))
section
variable{w w':World}{N:Cr}{K:KS}{X:Option Addr}{c:Nat}{P:CS}{b:Option Nat}{n:Int}
theorem abo(h:On w N K P b n X c){x:Nat}(hx:w.cell? ⟨x,0,none⟩=some (.pointer (some ⟨N.k,0,none⟩)))(s:Int)(ht:(iA K s (-1)).told) :
  Spec Tryz.prog 152 #[.int .i64 s,.pointer (some ⟨x,0,none⟩)] w fun v w'=>∃A d,v=.tuple #[.slice A 174 d,al 0]/\Ly w' 5 1 A 174 d (fun j=>.int .u8 (aW K s j:Nat))/\Aa [] w w':=by
 refine spec_of_wpE (T:=tt) ai func152 rfl (by decide +kernel) ntmps152 (by simp) ?_;conv=>whnf
 repeat ((refine Ld.of hx ?_);conv=>whnf)
 refine Ca.of (nH h s (-1)) ?_;rintro _ w2 ⟨rfl,k2⟩;conv=>whnf
 refine Ca.of (iK w2 _ ht) ?_;rintro _ w3 ⟨y,hy,rfl,r3,k3⟩;conv=>whnf
 refine⟨rfl,some ⟨y,0,none⟩,174,rfl,(Ly.dq r3 (by omega) (by omega) (by simp[maxLen])).congr (fun j hj=>?_),k2.trans k3⟩;unfold aW;rw[nJ]
theorem aen(h:On w N K P b n X c){K1:KS}{P1:CS}{t1:List CS}(H:AQ 24 aW K P K1 P1 t1)(ht:(iA (bJ K1) K1.next (-1)).told) :
  Spec Tryz.prog 105 #[.pointer (some ⟨N.k,0,none⟩)] w fun u w'=>AD N X c (cB K1 24) (jw K1 P1 24 aW) b (zH K1 P1 t1) w w' (u=al 0) (u=al 7):=by
 refine spec_of_wpE (T:=tt) ai func105 rfl (by decide +kernel) ntmps105 (by simp) ?_;conv=>whnf
 refine Ru.aiA ?_;intro x w1 hx hs r k1;have h1:=h.aj k1;have bW:x∉N.all:=fun hm=>by
  have h3:x<w.heap.size:=by
   rcases List.mem_append.1 hm with hm|hm
   ·exact h.core.lt (List.mem_append_left _ hm)
   ·exact h.gn _ hm
  omega
 conv=>whnf
 repeat ((refine Ld.row r (by omega) ?_);conv=>whnf)
 refine Ca.of (zI h1 (of:=24) (by omega) H 152 #[.pointer (some ⟨x,0,none⟩)] (fun w2 b2 n2 k2 h2=>abo h2 ((r.ab k2 bW).cell 0 (by omega)) K1.next ht)) ?_;rintro _ w2 ⟨k2,hr⟩;conv=>whnf
 exact⟨rfl,(Aa.eh k1).trans k2,hr⟩
def dO(f:Nat->Nat)(K:KS)(s:Int)(j:Nat):Nat:=if j<160 then f j else 0
theorem abp(w:World):(Instr.alloc 37 true (.tuple #[])).run Tryz.prog w=.ok (.pointer (some ⟨w.heap.size,0,none⟩)) (w.alloc (.cells #[.slice none 0 0] 37)):=by kernel_rfl
theorem uU(w:World):(Instr.makeSlice 37 (.int .i64 174) (.int .i64 174)).run Tryz.prog w=.ok (.slice (some ⟨w.heap.size,0,none⟩) 174 174) (w.alloc (.cells (madeCells #[.int .u8 0] 174) 5)):=by kernel_rfl
theorem aeo{x y:Nat}{D:Nat->Nat}(hx:w.cell? ⟨x,0,none⟩=some (.slice (some ⟨y,0,none⟩) 174 174))(hy:Row w y 5 174 (fun j=>.int .u8 (D j:Nat)))(s:Int) :
  Spec Tryz.prog 114 #[.int .i64 s,.pointer (some ⟨x,0,none⟩)] w fun v w'=>∃A d,v=.tuple #[.slice A 174 d,al 0]/\Ly w' 5 1 A 174 d (fun j=>.int .u8 (D j:Nat))/\Aa [] w w':=by
 refine spec_of_wpE (T:=tt) ai func114 rfl (by decide +kernel) ntmps114 (by simp) ?_;conv=>whnf
 repeat ((refine Ld.of hx ?_);conv=>whnf)
 exact⟨rfl,_,174,rfl,Ly.dq hy (by omega) (by omega) (by simp[maxLen]),Aa.refl _ _⟩
theorem anC(h:On w N K P b n X c){of d:Nat}(ho:of<24){A:Option Addr}{f:Nat->Nat}(hA:AI w A 160 f)(hd:160<=d){K1:KS}{P1:CS}{t1:List CS}(H:AQ of (dO f) K P K1 P1 t1) :
  Spec Tryz.prog 68 #[.pointer (some ⟨N.k,0,none⟩),.int .i64 of,.slice A 160 d] w fun u w'=>AD N X c (cB K1 of) (jw K1 P1 of (dO f)) b (zH K1 P1 t1) w w' (u=al 0) (u=al 7):=by
 have bW:∀x,w.heap.size<=x->x∉N.all:=fun x hx hm=>by
  have h3:x<w.heap.size:=by
   rcases List.mem_append.1 hm with hm|hm
   ·exact h.core.lt (List.mem_append_left _ hm)
   ·exact h.gn _ hm
  omega
 refine spec_of_wpE (T:=tt) ai func68 rfl (by decide +kernel) ntmps68 (by simp) ?_;conv=>whnf
 repeat ((first|refine Br.f ?_|refine Pk.f ?_|refine Br.n ?_|refine CW.s ?_);conv=>whnf)
 refine Ru.of (uU w) ?_;have ry:=Row.made w 5 (.int .u8 0) 174;have k1:Aa [] w (w.alloc (.cells (madeCells #[.int .u8 0] 174) 5)):=(Aa.refl _ _).alloc _;have dj:(w.alloc (.cells (madeCells #[.int .u8 0] 174) 5)).heap.size=w.heap.size+1:=by simp
 generalize w.alloc _=w1 at *;conv=>whnf
 refine Ru.of (abp w1) ?_;have rx:=qQ (heap_alloc_new w1 (.cells #[.slice none 0 0] 37));have k2:Aa [] w1 (w1.alloc (.cells #[.slice none 0 0] 37)):=(Aa.refl _ _).alloc _;have ry2:=ry.ab k2 (by simp);generalize w1.alloc _=w2 at *;conv=>whnf
 refine Sd.rowAt rx 0 (by omega) (by omega) rfl ?_;intro w3 rx3 k3;have hxy:w1.heap.size≠w.heap.size:=by omega
 have hxw:w.heap.size<=w1.heap.size:=by omega
 have ry3:=ry2.ab k3 (by simpa using hxy.symm);have bG:Aa [] w w3:=(k1.trans k2).fresh hxw k3;have rx3:Row w3 w1.heap.size 37 1 (fun _=>.slice (some ⟨w.heap.size,0,none⟩) 174 174):=rx3.congr (fun j hj=>by rw[c1 hj];rfl);generalize hxx:w1.heap.size=x at *;generalize hyy:w.heap.size=y at *;conv=>whnf
 repeat ((refine Ld.row rx3 (by omega) ?_);conv=>whnf)
 refine Bu.copy underlying37 mB ry3 A 160 d 160 rfl (hA.aj bG) (fun e=>?_) (by omega) (fun _ _=>rfl) ?_
 ·obtain⟨b1,o1,e1,_⟩:=hA (by omega);rw[e] at e1
  cases e1
 intro w4 ry4 k4;have rx4:=rx3.ab k4 (by simpa using hxy);have bU:Aa [] w w4:=bG.fresh (by omega) k4;have ry4:Row w4 y 5 174 (fun j=>.int .u8 (dO f (bJ K1) K1.next j:Nat)):=ry4.congr (fun j hj=>by
  unfold lay dO;by_cases h:j<160
  ·rw[if_pos (by omega),if_pos h,Nat.sub_zero]
  ·rw[if_neg (by omega),if_neg h];rfl)
 have h4:=h.aj bU;conv=>whnf
 refine Ca.of (zI h4 (of:=of) (by omega) H 114 #[.pointer (some ⟨x,0,none⟩)] (fun w2 b2 n2 k2 h2=>aeo ((rx4.ab k2 (bW x (by omega))).cell 0 (by omega)) (ry4.ab k2 (bW y (by omega))) K1.next)) ?_;rintro _ w5 ⟨k5,hr⟩;conv=>whnf
 exact⟨rfl,(Aa.eh bU).trans k5,hr⟩
end
def CS.val(P:CS):Prop:=∀p t D,p<96->P.pg p=.full t D->t.ok/\t.place=p/\t.lost=false/\(∀j,D j<256)/\cm D=D
def Twin(t t':Tg):Prop:=t'.copy=(t.copy+1)%256\/t.copy=(t'.copy+1)%256
structure Gd(P:CS):Prop where
 calm:P.calm
 val:P.val
 seq:∀p q t t' D D',p<96->q<96->p≠q->P.pg p=.full t D->P.pg q=.full t' D'->t.seq=t'.seq->t.of=t'.of/\D=D'/\Twin t t'
def CQ(P:CS)(o:Nat)(fl:Int)(p:Nat):Prop:=p<96/\∃t D,P.pg p=.full t D/\t.of=o/\fl<t.seq/\∀q t' D',q<96->q≠p->P.pg q=.full t' D'->t'.of=o->t'.seq<t.seq\/t'.seq=t.seq/\t'.copy=(t.copy+1)%256
def BC(P:CS)(o:Nat)(fl:Int):Prop:=∀q t D,q<96->P.pg q=.full t D->t.of=o->t.seq<=fl
def floor(k:Cp)(o:Nat):Int:=if o=24 then -1 else k.fl o
theorem uV(k:Cp):floor k 24 = -1:=rfl
theorem fQ(k:Cp){o:Nat}(h:o<24):floor k o=k.fl o:=if_neg (by omega)
structure Cx(P:CS)(k:Cp)(L:Nat->Nat):Prop where
 pt:L 24≠0
 data:aS P (L 24-1)=sV k
 told:k.told
 bad:∀b,b<12->k.bad b=false
 scs:∀b,b<12->k.ic b=0
 yes:∀o,o<25->L o≠0->CQ P o (floor k o) (L o-1)
 no:∀o,o<25->L o=0->BC P o (floor k o)
theorem Cx.lt{P:CS}{k:Cp}{L:Nat->Nat}(h:Cx P k L){o:Nat}(ho:o<25):L o<=96:=by
 by_cases e:L o=0
 ·omega
 ·have:=(h.yes o ho e).1;omega
theorem Cx.cI{P:CS}{k:Cp}{L:Nat->Nat}(h:Cx P k L){o:Nat}(ho:o<25)(e:L o≠0):∃t D,P.pg (L o-1)=.full t D/\t.of=o:=by
 obtain⟨_,t,D,h1,h2,_⟩:=h.yes o ho e;exact⟨t,D,h1,h2⟩
def arr(P:CS)(L:Nat->Nat)(o j:Nat):Nat:=if L o=0 then 0 else aS P (L o-1) j
def Ac(P:CS)(L:Nat->Nat)(a:Nat->Nat->Nat):Prop:=∀o j,o<24->j<160->arr P L o j=a o j
theorem xU{L:Nat->Nat}{b:Nat}:∀ {n:Nat},iX L n b=0↔∀o,o<n->L o≠0->(L o-1)/8≠b
 |0=>by simp[iX]
 | n+1=>by
  have ih:=@xU L b n;unfold iX;constructor
  ·intro h o ho e1 e2;by_cases h1:o=n
   ·subst h1;rw[if_pos ⟨e1,e2⟩] at h;omega
   ·exact ih.1 (by omega) o (by omega) e1 e2
  ·intro h;rw[if_neg (fun e=>h n (by omega) e.1 e.2),ih.2 (fun o ho=>h o (by omega))]
theorem fw{L:Nat->Nat}{b:Nat}:lv L b=0↔∀o,o<25->L o≠0->(L o-1)/8≠b:=xU
structure Ao(P:CS)(k:Cp)(L:Nat->Nat)(m:Int):Prop where
 gd:Gd P
 cG:Cx P k L
 room:5<=au (lv L) 0
 tw:∀p q t t' D D',p<96->q<96->p≠q->P.pg p=.full t D->P.pg q=.full t' D'->t.seq=t'.seq->lv L (p/8)=0\/lv L (q/8)=0
 sq:∀p t D,p<96->P.pg p=.full t D->t.seq<m
 fl:k.next<m/\∀o,o<24->k.fl o<m
theorem Ao.sub{P P':CS}{k:Cp}{L:Nat->Nat}{m:Int}(h:Ao P k L m)(hc:P'.calm)(h1:∀q t D,q<96->P'.pg q=.full t D->P.pg q=.full t D)(h2:∀o,o<25->L o≠0->P'.pg (L o-1)=P.pg (L o-1)):Ao P' k L m:=by
 refine⟨⟨hc,fun p t D hp e=>h.gd.val p t D hp (h1 p t D hp e),fun p q t t' D D' hp hq hn e e'=>h.gd.seq p q t t' D D' hp hq hn (h1 p t D hp e) (h1 q t' D' hq e')⟩,
  ⟨h.cG.pt,?_,h.cG.told,h.cG.bad,h.cG.scs,fun o ho e=>?_,fun o ho e q t D hq hf=>h.cG.no o ho e q t D hq (h1 q t D hq hf)⟩,h.room,
  fun p q t t' D D' hp hq hn e e'=>h.tw p q t t' D D' hp hq hn (h1 p t D hp e) (h1 q t' D' hq e'),fun p t D hp e=>h.sq p t D hp (h1 p t D hp e),h.fl⟩
 ·rw[<-h.cG.data];unfold aS;rw[h2 24 (by omega) h.cG.pt]
 ·obtain⟨hp,t,D,e1,e2,e3,e4⟩:=h.cG.yes o ho e;exact⟨hp,t,D,by rw[h2 o ho e];exact e1,e2,e3,fun q t' D' hq hn hf=>e4 q t' D' hq hn (h1 q t' D' hq hf)⟩
theorem Ac.same{P P':CS}{L:Nat->Nat}{a:Nat->Nat->Nat}(h:Ac P L a)(h2:∀o,o<25->L o≠0->P'.pg (L o-1)=P.pg (L o-1)):Ac P' L a:=fun o j ho hj=>by
 rw[<-h o j ho hj];unfold arr;split
 ·rfl
 ·rename_i e
  unfold aS;rw[h2 o (by omega) e]
def ac8(P:CS)(p q:Nat)(t:Tg)(D:Nat->Nat):Prop:=∃t0,P.pg p=.full t0 D/\t=⟨(q:Int),t0.of,t0.seq,(t0.copy+1)%256,t0.lost⟩
def CS.uniq(P:CS):Prop:=∀p q t t' D D',p<96->q<96->P.pg p=.full t D->P.pg q=.full t' D'->t.seq=t'.seq->p=q
theorem sW{t:Tg}(h:t.ok){q:Nat}(hq:q<96)(h6:t.of≠24->q%8<=5):(⟨(q:Int),t.of,t.seq,(t.copy+1)%256,t.lost⟩:Tg).ok:=by
 unfold Tg.ok at *;refine⟨by simp only;omega,by simp only;omega,h.2.2.1,h.2.2.2.1,h.2.2.2.2.1,h.2.2.2.2.2.1,by simp only;omega,by simp only;omega,h.2.2.2.2.2.2.2.2.1,fun hn=>?_⟩;have:=h6 hn;simp only;omega
theorem Ao.anD{P P':CS}{k:Cp}{L:Nat->Nat}{m:Int}{d:Nat}(h:Ao P k L m)(hu:P.uniq)(hd:lv L d=0)(hc:P'.calm)
  (h1:∀q t D,q<96->P'.pg q=.full t D->P.pg q=.full t D\/q/8=d/\(t.of≠24->q%8<=5)/\∃o,o<25/\L o≠0/\ac8 P (L o-1) q t D/\∀q' t' D',q'<96->P'.pg q'=.full t' D'->t'.seq=t.seq->q'=q\/q'=L o-1)
  (h2:∀o,o<25->L o≠0->P'.pg (L o-1)=P.pg (L o-1)):Ao P' k L m:=by
 have hL:∀o,o<25->L o≠0->L o-1<96:=fun o ho e=>(h.cG.yes o ho e).1;have cn:∀o q,o<25->L o≠0->q/8=d->q≠L o-1:=fun o q ho e hq hh=>fw.1 hd o ho e (by rw[<-hh];exact hq);have old:∀q t D,q<96->P'.pg q=.full t D->∃p t0,p<96/\P.pg p=.full t0 D/\t0.seq=t.seq/\t0.of=t.of:=fun q t D hq e=>by
  rcases h1 q t D hq e with e|⟨_,_,o,ho,e0,⟨t0,ht0,rfl⟩,_⟩
  ·exact⟨q,t,hq,e,rfl,rfl⟩
  ·exact⟨L o-1,t0,hL o ho e0,ht0,rfl,rfl⟩
 refine⟨⟨hc,fun p t D hp e=>?_,fun p q t t' D D' hp hq hn e e' hs=>?_⟩,⟨h.cG.pt,?_,h.cG.told,h.cG.bad,h.cG.scs,fun o ho e=>?_,fun o ho e q t D hq hf jK=>?_⟩,h.room,fun p q t t' D D' hp hq hn e e' hs=>?_,fun p t D hp e=>?_,h.fl⟩
 ·rcases h1 p t D hp e with e|⟨_,h6,o,ho,e0,⟨t0,ht0,rfl⟩,_⟩
  ·exact h.gd.val p t D hp e
  ·obtain⟨v1,v2,v3,v4,v5⟩:=h.gd.val _ _ _ (hL o ho e0) ht0;exact⟨sW v1 hp h6,rfl,v3,v4,v5⟩
 ·rcases h1 p t D hp e with e1|⟨b1,_,o,ho,e0,⟨t0,ht0,et⟩,hm⟩
  ·rcases h1 q t' D' hq e' with e2|⟨b2,_,o,ho,e0,⟨t0,ht0,et⟩,hm⟩
   ·exact absurd (hu p q t t' D D' hp hq e1 e2 hs) hn
   ·rcases hm p t D hp e hs with rfl|rfl
    ·exact absurd rfl hn
    ·rw[e1] at ht0
     cases ht0
     rw[et];exact⟨rfl,rfl,.inl rfl⟩
  ·rcases hm q t' D' hq e' hs.symm with rfl|rfl
   ·exact absurd rfl hn
   ·rw[h2 o ho e0,ht0] at e'
    cases e'
    rw[et];exact⟨rfl,rfl,.inr rfl⟩
 ·rw[<-h.cG.data];unfold aS;rw[h2 24 (by omega) h.cG.pt]
 ·obtain⟨hp,t,D,e1,e2,e3,e4⟩:=h.cG.yes o ho e;refine⟨hp,t,D,by rw[h2 o ho e];exact e1,e2,e3,fun q t' D' hq hn hf jK=>?_⟩;rcases h1 q t' D' hq hf with hf|⟨b1,_,o',jG,e0,⟨t0,ht0,et⟩,hm⟩
  ·exact e4 q t' D' hq hn hf jK
  ·by_cases hx:L o'-1=L o-1
   ·rw[hx,e1] at ht0
    cases ht0
    rw[et];exact .inr ⟨rfl,rfl⟩
   ·have:=e4 (L o'-1) t0 D' (hL o' jG e0) hx ht0 (by rw[et] at jK;exact jK);rcases this with this|⟨this,_⟩
    ·rw[et];exact .inl this
    ·exact absurd (hu _ _ _ _ _ _ (hL o' jG e0) hp ht0 e1 this) hx
 ·obtain⟨p,t0,hp,e1,e2,e3⟩:=old q t D hq hf;rw[<-e2];exact h.cG.no o ho e p t0 D hp e1 (by rw[e3];exact jK)
 ·rcases h1 p t D hp e with e1|⟨b1,_⟩
  ·rcases h1 q t' D' hq e' with e2|⟨b2,_⟩
   ·exact absurd (hu p q t t' D D' hp hq e1 e2 hs) hn
   ·rw[b2];exact .inr hd
  ·rw[b1];exact .inl hd
 ·obtain⟨p',t0,hp',e1,e2,e3⟩:=old p t D hp e;rw[<-e2];exact h.sq p' t0 D hp' e1
structure AH(P P':CS)(L L':Nat->Nat)(v:Nat):Prop where
 from_:∀q t D,q<96->P'.pg q=.full t D->(P.pg q=.full t D/\q/8≠v)\/(t.of≠24->q%8<=5)/\∃o,o<25/\L o≠0/\(L o-1)/8=v/\L' o=q+1/\ac8 P (L o-1) q t D
 stay:∀o,o<25->L o≠0->(L o-1)/8≠v->L' o=L o/\P'.pg (L o-1)=P.pg (L o-1)
 none:∀o,o<25->L o=0->L' o=0
 go:∀o,o<25->L o≠0->(L o-1)/8=v->L' o≠0/\L' o-1<96/\∃t D,P'.pg (L' o-1)=.full t D/\ac8 P (L o-1) (L' o-1) t D
theorem AH.iff{P P':CS}{L L':Nat->Nat}{v:Nat}(h:AH P P' L L' v){o:Nat}(ho:o<25):L' o=0↔L o=0:=by
 constructor
 ·intro e;by_cases e0:L o=0
  ·exact e0
  ·by_cases e1:(L o-1)/8=v
   ·exact absurd e (h.go o ho e0 e1).1
   ·rw[(h.stay o ho e0 e1).1] at e;exact e
 ·exact h.none o ho
theorem AH.cI{P P':CS}{L L':Nat->Nat}{v:Nat}(h:AH P P' L L' v){o:Nat}(ho:o<25)(e:L o≠0){t0:Tg}{D:Nat->Nat}(hp:P.pg (L o-1)=.full t0 D):∃t,P'.pg (L' o-1)=.full t D/\t.of=t0.of/\t.seq=t0.seq/\t.lost=t0.lost/\(t.copy=t0.copy\/t.copy=(t0.copy+1)%256):=by
 by_cases e1:(L o-1)/8=v
 ·obtain⟨_,_,t,D',h1,t1,h2,h3⟩:=h.go o ho e e1;rw[hp] at h2
  cases h2
  exact⟨t,h1,by rw[h3],by rw[h3],by rw[h3],.inr (by rw[h3])⟩
 ·obtain⟨h1,h2⟩:=h.stay o ho e e1;rw[h1,h2];exact⟨t0,hp,rfl,rfl,rfl,.inl rfl⟩
theorem AH.old{P P':CS}{L L':Nat->Nat}{v:Nat}(h:AH P P' L L' v)(hL:∀o,o<25->L o≠0->L o-1<96){q:Nat}{t:Tg}{D:Nat->Nat}(hq:q<96)(e:P'.pg q=.full t D):∃p t0,p<96/\P.pg p=.full t0 D/\t0.seq=t.seq/\t0.of=t.of/\(p=q/\q/8≠v\/p/8=v/\∃o,o<25/\L o≠0/\L o-1=p/\L' o=q+1):=by
 rcases h.from_ q t D hq e with⟨e,hv⟩|⟨_,o,ho,e0,ev,eL,t0,ht0,et⟩
 ·exact⟨q,t,hq,e,rfl,rfl,.inl ⟨rfl,hv⟩⟩
 ·exact⟨L o-1,t0,hL o ho e0,ht0,by rw[et],by rw[et],.inr ⟨ev,o,ho,e0,rfl,eL⟩⟩
theorem AH.uniq{P P':CS}{L L':Nat->Nat}{v:Nat}(h:AH P P' L L' v)(hL:∀o,o<25->L o≠0->L o-1<96)(hj:∀o o',o<25->o'<25->L o≠0->L o=L o'->o=o')(hu:P.uniq):P'.uniq:=fun p q t t' D D' hp hq e e' hs=>by
 obtain⟨p1,t1,b1,c1,d1,_,f1⟩:=h.old hL hp e;obtain⟨p2,t2,b2,c2,d2,_,f2⟩:=h.old hL hq e';have hpp:p1=p2:=hu p1 p2 t1 t2 D D' b1 b2 c1 c2 (by rw[d1,d2,hs]);subst hpp;rcases f1 with⟨rfl,g1⟩|⟨g1,o,ho,e0,eo,eL⟩
 ·rcases f2 with⟨rfl,g2⟩|⟨g2,_⟩
  ·rfl
  ·exact absurd g2 g1
 ·rcases f2 with⟨rfl,g2⟩|⟨g2,o',jG,e0',eo',eL'⟩
  ·exact absurd g1 g2
  ·have:=hj o o' ho jG e0 (by omega);subst this;omega
theorem AH.aq2{P P':CS}{k:Cp}{L L':Nat->Nat}{m:Int}{v:Nat}(M:AH P P' L L' v)(h:Ao P k L m)(hu:P.uniq)(hj:∀o o',o<25->o'<25->L o≠0->L o=L o'->o=o')(hc:P'.calm)(hr:5<=au (lv L') 0):Ao P' k L' m:=by
 have hL:∀o,o<25->L o≠0->L o-1<96:=fun o ho e=>(h.cG.yes o ho e).1;have hu':=M.uniq hL hj hu;refine⟨⟨hc,fun p t D hp e=>?_,fun p q t t' D D' hp hq hn e e' hs=>absurd (hu' p q t t' D D' hp hq e e' hs) hn⟩,⟨fun e=>h.cG.pt ((M.iff (by omega)).1 e),?_,h.cG.told,h.cG.bad,h.cG.scs,fun o ho e=>?_,fun o ho e q t D hq hf jK=>?_⟩,hr,fun p q t t' D D' hp hq hn e e' hs=>absurd (hu' p q t t' D D' hp hq e e' hs) hn,fun p t D hp e=>?_,h.fl⟩
 ·rcases M.from_ p t D hp e with⟨e,_⟩|⟨h6,o,ho,e0,ev,eL,t0,ht0,et⟩
  ·exact h.gd.val p t D hp e
  ·obtain⟨v1,v2,v3,v4,v5⟩:=h.gd.val _ _ _ (hL o ho e0) ht0;rw[et] at h6 ⊢;exact⟨sW v1 hp h6,rfl,v3,v4,v5⟩
 ·rw[<-h.cG.data];obtain⟨t0,D,hp,_⟩:=h.cG.cI (by omega:24<25) h.cG.pt;obtain⟨t,ht,_⟩:=M.cI (by omega) h.cG.pt hp;unfold aS;rw[ht,hp]
 ·have e0:L o≠0:=fun x=>e ((M.iff ho).2 x);obtain⟨hp,t0,D,e1,e2,e3,e4⟩:=h.cG.yes o ho e0;obtain⟨t,ht,jK,hsq,_,_⟩:=M.cI ho e0 e1;have hp':L' o-1<96:=by
   by_cases e5:(L o-1)/8=v
   ·exact(M.go o ho e0 e5).2.1
   ·rw[(M.stay o ho e0 e5).1];exact hp
  refine⟨hp',t,D,ht,by rw[jK];exact e2,by rw[hsq];exact e3,fun q t' D' hq hn hf wH=>?_⟩;obtain⟨p1,t1,b1,c1,d1,g1,f1⟩:=M.old hL hq hf;by_cases hx:p1=L o-1
  ·subst hx;rw[e1] at c1
   cases c1
   exact absurd (hu' _ _ _ _ _ _ hq hp' hf ht (by rw[<-d1,hsq])) hn
  ·rcases e4 p1 t1 D' b1 hx c1 (by rw[g1];exact wH) with this|⟨this,_⟩
   ·rw[hsq, <-d1];exact .inl this
   ·exact absurd (hu _ _ _ _ _ _ b1 hp c1 e1 this) hx
 ·obtain⟨p1,t1,b1,c1,d1,g1,f1⟩:=M.old hL hq hf;rw[<-d1];exact h.cG.no o ho ((M.iff ho).1 e) p1 t1 D b1 c1 (by rw[g1];exact jK)
 ·obtain⟨p1,t1,b1,c1,d1,g1,f1⟩:=M.old hL hp e;rw[<-d1];exact h.sq p1 t1 D b1 c1
theorem AH.api{P P':CS}{k:Cp}{L L':Nat->Nat}{v:Nat}{a:Nat->Nat->Nat}(M:AH P P' L L' v)(h:Cx P k L)(hs:Ac P L a):Ac P' L' a:=fun o j ho hj=>by
 rw[<-hs o j ho hj];unfold arr;by_cases e:L o=0
 ·rw[if_pos e,if_pos (M.none o (by omega) e)]
 ·rw[if_neg e,if_neg (fun x=>e ((M.iff (by omega)).1 x))];obtain⟨t0,D,hp,_⟩:=h.cI (by omega) e;obtain⟨t,ht,_⟩:=M.cI (by omega) e hp;unfold aS;rw[ht,hp]
theorem Ao.new{P P':CS}{k k':Cp}{L L':Nat->Nat}{m m':Int}{p o:Nat}{t:Tg}{D:Nat->Nat}(h:Ao P k L m)(hu:P.uniq)(hc:P'.calm)(hp:p<96)(ho:o<25)(wF:t.of=o)
  (hv:t.ok/\t.place=p/\t.lost=false/\(∀j,D j<256)/\cm D=D) (bA:P'.pg p=.full t D) (hb:P.pg p=.blank) (h1:∀q,q<96->q≠p->P'.pg q=P.pg q) (hs:∀q t' D',q<96->P.pg q=.full t' D'->t'.seq<t.seq)
  (hL:L' o=p+1) (hk:o<24->k'=k/\k.fl o<t.seq/\∀i,i<25->i≠o->L' i=L i)
  (hk2:o=24->D=sV k'/\k'.told/\(∀b,b<12->k'.bad b=false)/\(∀b,b<12->k'.ic b=0)/\∀i,i<24->(L' i=L i/\k'.fl i=k.fl i)\/(L' i=0/\L i≠0/\∃t' D',P.pg (L i-1)=.full t' D'/\k'.fl i=t'.seq))
  (hr:5<=au (lv L') 0) (hm:t.seq<m'/\m<=m'/\k'.next<m'/\∀i,i<24->k'.fl i<m'):Ao P' k' L' m'/\P'.uniq:=by
 have mS:∀q t' D',q<96->P'.pg q=.full t' D'->(q=p/\t'=t/\D'=D)\/(q≠p/\P.pg q=.full t' D'):=fun q t' D' hq e=>by
  by_cases hqp:q=p
  ·subst hqp;rw[bA] at e
   cases e
   exact .inl ⟨rfl,rfl,rfl⟩
  ·rw[h1 q hq hqp] at e;exact .inr ⟨hqp,e⟩
 have hu':P'.uniq:=fun q q' t1 t2 D1 D2 hq gX e e' hss=>by
  rcases mS q t1 D1 hq e with⟨a1,a2,_⟩|⟨a1,a2⟩
  ·rcases mS q' t2 D2 gX e' with⟨b1,b2,_⟩|⟨b1,b2⟩
   ·rw[a1,b1]
   ·have:=hs q' t2 D2 gX b2;rw[<-hss,a2] at this;omega
  ·rcases mS q' t2 D2 gX e' with⟨b1,b2,_⟩|⟨b1,b2⟩
   ·have:=hs q t1 D1 hq a2;rw[hss,b2] at this;omega
   ·exact hu q q' t1 t2 D1 D2 hq gX a2 b2 hss
 have ab:∀i,i<25->L i≠0->P'.pg (L i-1)=P.pg (L i-1):=fun i hi e=>by
  obtain⟨hq,t1,D1,e1,_⟩:=h.cG.yes i hi e;refine h1 _ hq (fun x=>?_);rw[x,hb] at e1
  cases e1
 have gN:∀f,f<t.seq->CQ P' o f p:=fun f hf=>⟨hp,t,D,bA,wF,hf,fun q t' D' hq hn e jK=>by
  rcases mS q t' D' hq e with⟨a1,_⟩|⟨a1,a2⟩
  ·exact absurd a1 hn
  ·exact .inl (hs q t' D' hq a2)⟩
 have qC:∀i f,i<25->i≠o->L i≠0->CQ P i f (L i-1)->CQ P' i f (L i-1):=fun i f hi jd e ⟨hq,t1,D1,e1,e2,e3,e4⟩ =>
  ⟨hq,t1,D1,by rw[ab i hi e];exact e1,e2,e3,fun q t' D' gX hn e' jK=>by
   rcases mS q t' D' gX e' with⟨a1,a2,_⟩|⟨a1,a2⟩
   ·rw[a2,wF] at jK;omega
   ·exact e4 q t' D' gX hn a2 jK⟩
 have lW:∀i f,i<25->i≠o->BC P i f->BC P' i f:=fun i f hi jd hh q t' D' gX e' jK=>by
  rcases mS q t' D' gX e' with⟨a1,a2,_⟩|⟨a1,a2⟩
  ·rw[a2,wF] at jK;omega
  ·exact hh q t' D' gX a2 jK
 have jo:L' 24≠0:=by
  by_cases e:o=24
  ·rw[<-e,hL];omega
  ·rw[(hk (by omega)).2.2 24 (by omega) (fun x=>e x.symm)];exact h.cG.pt
 refine⟨⟨⟨hc,fun q t' D' hq e=>?_,fun q q' t1 t2 D1 D2 hq gX hn e e' hss=>absurd (hu' q q' t1 t2 D1 D2 hq gX e e' hss) hn⟩,⟨jo,?_,?_,?_,?_,fun i hi e=>?_,fun i hi e=>?_⟩,hr,fun q q' t1 t2 D1 D2 hq gX hn e e' hss=>absurd (hu' q q' t1 t2 D1 D2 hq gX e e' hss) hn,fun q t' D' hq e=>?_,?_⟩,hu'⟩
 ·rcases mS q t' D' hq e with⟨a1,a2,a3⟩|⟨a1,a2⟩
  ·rw[a1,a2,a3];exact hv
  ·exact h.gd.val q t' D' hq a2
 ·by_cases e:o=24
  ·subst e;rw[hL];unfold aS;rw[Nat.add_sub_cancel,bA];exact(hk2 rfl).1
  ·obtain⟨rfl,_,hh⟩:=hk (by omega);rw[hh 24 (by omega) (fun x=>e x.symm), <-h.cG.data];unfold aS;rw[ab 24 (by omega) h.cG.pt]
 ·by_cases e:o=24
  ·exact(hk2 e).2.1
  ·rw[(hk (by omega)).1];exact h.cG.told
 ·by_cases e:o=24
  ·exact(hk2 e).2.2.1
  ·rw[(hk (by omega)).1];exact h.cG.bad
 ·by_cases e:o=24
  ·exact(hk2 e).2.2.2.1
  ·rw[(hk (by omega)).1];exact h.cG.scs
 ·by_cases jd:i=o
  ·subst jd;rw[hL,Nat.add_sub_cancel];refine gN _ ?_;by_cases e:i=24
   ·subst e;rw[uV];have:=hv.1;unfold Tg.ok at this;omega
   ·rw[(hk (by omega)).1,fQ _ (by omega)];exact(hk (by omega)).2.1
  ·by_cases e2:o=24
   ·subst e2;rcases(hk2 rfl).2.2.2.2 i (by omega) with⟨a1,a2⟩|⟨a1,_⟩
    ·rw[a1] at e ⊢;refine qC i _ hi jd e ?_;have:=h.cG.yes i hi e;rw[fQ _ (by omega)] at this ⊢;rw[a2];exact this
    ·exact absurd a1 e
   ·obtain⟨rfl,_,hh⟩:=hk (by omega);rw[hh i hi jd] at e ⊢;exact qC i _ hi jd e (h.cG.yes i hi e)
 ·have jd:i≠o:=fun x=>by
   subst x;rw[hL] at e;omega
  by_cases e2:o=24
  ·subst e2;rcases(hk2 rfl).2.2.2.2 i (by omega) with⟨a1,a2⟩|⟨a1,a2,t1,D1,a3,a4⟩
   ·rw[a1] at e;have:=h.cG.no i hi e;rw[fQ _ (by omega)] at this ⊢;rw[a2];exact lW i _ hi jd this
   ·refine lW i _ hi jd (fun q t' D' hq e' jK=>?_);obtain⟨hp3,t3,D3,e3,_,_,e4⟩:=h.cG.yes i hi a2;rw[e3] at a3
    cases a3
    rw[fQ _ (by omega),a4];by_cases hx:q=L i-1
    ·subst hx;rw[e3] at e'
     cases e'
     omega
    ·rcases e4 q t' D' hq hx e' jK with hh|⟨hh,_⟩
     ·omega
     ·omega
  ·obtain⟨rfl,_,hh⟩:=hk (by omega);rw[hh i hi jd] at e;exact lW i _ hi jd (h.cG.no i hi e)
 ·rcases mS q t' D' hq e with⟨a1,a2,a3⟩|⟨a1,a2⟩
  ·rw[a2];exact hm.1
  ·have:=h.sq q t' D' hq a2;omega
 ·exact⟨hm.2.2.1,hm.2.2.2⟩
theorem qR(st:Nat->Nat)(b x s:Nat):∀n,cP (ah st b x) s n+(if b<n/\st b=s then 1 else 0)=cP st s n+(if b<n/\x=s then 1 else 0)
 |0=>by simp[cP]
 | n+1=>by
  have ih:=qR st b x s n;unfold cP ah;unfold ah at ih;by_cases e:n=b
  ·subst e;simp only[if_true,Nat.lt_irrefl,false_and,if_false,Nat.lt_succ_self,true_and] at ih ⊢;omega
  ·have h1:b<n+1↔b<n:=by omega
   rw[if_neg e];simp only[h1];omega
theorem bQ(st:Nat->Nat){b:Nat}(x s:Nat)(hb:b<12):au (ah st b x) s+(if st b=s then 1 else 0)=au st s+(if x=s then 1 else 0):=by
 have:=qR st b x s 12;simp only[hb,true_and] at this;exact this
theorem fB{st rU:Nat->Nat}{s s':Nat}:∀ {n:Nat},(∀b,b<n->st b=s->rU b=s')->cP st s n<=cP rU s' n
 |0,_=>Nat.le_refl _
 | n+1,h=>by
  have ih:=fB (n:=n) (fun b hb=>h b (by omega));have:=h n (by omega);unfold cP;by_cases e:st n=s
  ·rw[if_pos e,if_pos (this e)];omega
  ·rw[if_neg e];split<;>omega
theorem xV{st:Nat->Nat}:∀ {n:Nat},(∀b,b<n->st b=0\/st b=2)->cP st 0 n+cP st 2 n=n
 |0,_=>rfl
 | n+1,h=>by
  have ih:=xV (n:=n) (fun b hb=>h b (by omega));unfold cP;rcases h n (by omega) with e|e<;>rw[e]<;>simp<;>omega
theorem uW{st:Nat->Nat}{s:Nat}:∀ {n:Nat},cP st s n≠0->∃b,b<n/\st b=s
 |0,h=>absurd rfl h
 | n+1,h=>by
  unfold cP at h;by_cases e:st n=s
  ·exact⟨n,by omega,e⟩
  ·rw[if_neg e] at h;obtain⟨b,h1,h2⟩:=uW (n:=n) (by omega);exact⟨b,by omega,h2⟩
theorem oA{st:Nat->Nat}{pn:Nat}:∀ {n:Nat},n<=12->(∃i,12-n<=i/\i<12/\st ((pn+i)%12)=0)->∃d,fP st pn n=some d
 |0,hn,⟨i,h1,h2,h3⟩=>by omega
 | n+1,hn,⟨i,h1,h2,h3⟩=>by
  unfold fP;by_cases e:st ((pn+(12-(n+1)))%12)=0
  ·exact⟨_,if_pos e⟩
  ·rw[if_neg e];refine oA (by omega) ⟨i,?_,h2,h3⟩;have:i≠12-(n+1):=fun x=>by rw[x] at h3;exact e h3
   omega
theorem je{st:Nat->Nat}{pn:Nat}(hp:pn<=12)(h:au st 0≠0):∃d,takeN st pn=some d/\d<12/\st d=0:=by
 obtain⟨b,hb,e⟩:=uW h
 obtain⟨d,hd⟩:=oA (st:=st) (pn:=pn) (n:=12) (by omega) ⟨(b+24-pn)%12,by omega,Nat.mod_lt _ (by omega),by
  rw[show(pn+(b+24-pn)%12)%12=b by omega];exact e⟩
 exact⟨d,hd,df hd⟩
def jf(f:Nat->Nat):Nat->Nat
 |0=>0
 |n+1=>jf f n+f n
theorem xW(f g:Nat->Nat):∀n,jf (fun b=>f b+g b) n=jf f n+jf g n
 |0=>rfl
 | n+1=>by
  unfold jf;rw[xW f g n];omega
theorem xX(x y:Nat):∀n,jf (fun b=>if x≠0/\y=b then 1 else 0) n<=1/\(n<=y->jf (fun b=>if x≠0/\y=b then 1 else 0) n=0)
 |0=>⟨Nat.zero_le _,fun _=>rfl⟩
 | n+1=>by
  obtain⟨h1,h2⟩:=xX x y n;unfold jf;constructor
  ·by_cases e:y=n
   ·rw[h2 (by omega)];split<;>omega
   ·rw[if_neg (fun h=>e h.2)];omega
  ·intro h;rw[h2 (by omega),if_neg (fun h3=>by omega)]
theorem ac9(at_:Nat->Nat):∀n,jf (iX at_ n) 12<=n
 | 0=>by
  have:∀k,jf (iX at_ 0) k=0:=fun k=>by
   induction k with
   |zero=>rfl
   |succ k ih=>unfold jf;rw[ih];rfl
  rw[this];exact Nat.le_refl _
 | n+1=>by
  have ih:=ac9 at_ n;have e:iX at_ (n+1)=fun b=>iX at_ n b+(if at_ n≠0/\(at_ n-1)/8=b then 1 else 0):=by
   funext b;rfl
  rw[e,xW];have:=(xX (at_ n) ((at_ n-1)/8) 12).1;omega
theorem zJ{st f:Nat->Nat}{s x:Nat}:∀ {n:Nat},(∀b,b<n->st b=s->x<=f b)->cP st s n*x<=jf f n
 |0,_=>by simp[cP]
 | n+1,h=>by
  have ih:=zJ (n:=n) (fun b hb=>h b (by omega));have hn:=h n (by omega);unfold cP jf;split
  ·rename_i e
   have:=hn e;rw[Nat.add_mul,Nat.one_mul];omega
  ·rw[Nat.add_zero];omega
theorem lE{s l:Nat->Int}:∀ {n:Nat},(∀b,b<n->s b=2->0<=bs s l n/\l (bs s l n).toNat<=l b)/\(0<=bs s l n->s (bs s l n).toNat=2)
 |0=>⟨fun b hb=>by omega,fun h=>by simp[bs] at h⟩
 | n+1=>by
  obtain⟨h1,h2⟩:=@lE s l n;unfold bs;by_cases e:s n=2/\(bs s l n<0\/l n<l (bs s l n).toNat)
  ·rw[if_pos e];refine⟨fun b hb hs=>⟨by omega,?_⟩,fun _=>by simpa using e.1⟩;simp only[Int.toNat_natCast];by_cases eU:b=n
   ·rw[eU];exact Int.le_refl _
   ·obtain⟨a1,a2⟩:=h1 b (by omega) hs;rcases e.2 with e2|e2<;>omega
  ·rw[if_neg e];refine⟨fun b hb hs=>?_,h2⟩;by_cases eU:b=n
   ·subst eU;have:¬(bs s l b<0\/l b<l (bs s l b).toNat):=fun x=>e ⟨hs,x⟩;omega
   ·exact h1 b (by omega) hs
theorem gu{n:Nat}:∀ {l:List Nat},l.Nodup->l.length<=(l.filter (· ≠ n)).length+1
 | [],_=>by simp
 | x::l,h=>by
  rw[List.nodup_cons] at h;by_cases e:x=n
  ·subst e
   have:l.filter (· ≠ x)=l:=List.filter_eq_self.2 (fun y hy=>by
    have:y≠x:=fun z=>h.1 (z ▸ hy);simpa using this)
   rw[List.filter_cons_of_neg (by simp),this];exact Nat.le_refl _
  ·have ih:=gu (n:=n) h.2;simp[e];simpa using ih
theorem abq{at_:Nat->Nat}{v:Nat}:∀ {n:Nat} {l:List Nat},l.Nodup->(∀o,o∈l->o<n/\at_ o≠0/\(at_ o-1)/8=v)->l.length<=iX at_ n v
 | 0,l,h,hl=>by
  cases l with
  |nil=>exact Nat.le_refl _
  |cons x l=>exact absurd (hl x (by simp)).1 (by omega)
 | n+1,l,h,hl=>by
  have ih:=abq (at_:=at_) (v:=v) (n:=n) (l:=l.filter (· ≠ n)) (h.filter _) (fun o ho=>by
   simp only[List.mem_filter,ne_eq,decide_eq_true_eq,decide_not,Bool.not_eq_true',decide_eq_false_iff_not] at ho;have:=hl o ho.1;exact⟨by omega,this.2⟩)
  have h2:=gu (n:=n) h;unfold iX;by_cases e:n∈l
  ·have:=hl n e;rw[if_pos this.2];omega
  ·have:l.filter (· ≠ n)=l:=List.filter_eq_self.2 (fun y hy=>by
    have:y≠n:=fun z=>e (z ▸ hy);simpa using this)
   rw[this] at ih;omega
structure AM(at_ ow:Nat->Nat):Prop where
 o:∀p,p<96->ow p≠0->ow p<=25/\at_ (ow p-1)=p+1
 a:∀o,o<25->at_ o≠0->at_ o<=96/\ow (at_ o-1)=o+1
theorem AM.mw{at_ ow:Nat->Nat}(h:AM at_ ow):AL at_ ow:=⟨fun o ho=>by
 by_cases e:at_ o=0
 ·omega
 ·exact(h.a o ho e).1,fun p hp=>by
 by_cases e:ow p=0
 ·omega
 ·exact(h.o p hp e).1⟩
theorem AM.inj{at_ ow:Nat->Nat}(h:AM at_ ow):∀o o',o<25->o'<25->at_ o≠0->at_ o=at_ o'->o=o':=fun o o' ho jG e e'=>by
 have h1:=(h.a o ho e).2;have h2:=(h.a o' jG (by rw[<-e'];exact e)).2;rw[e'] at h1;omega
theorem AM.set{at_ ow:Nat->Nat}(h:AM at_ ow){o p:Nat}(ho:o<25)(hp:p<96)(h0:ow p=0)(hh:aR p o=true):AM (setAt at_ ow o p).1 (setAt at_ ow o p).2/\(setAt at_ ow o p).1=ah at_ o (p+1):=by
 have e:setAt at_ ow o p=(ah at_ o (p+1),ah (if at_ o≠0 then ah ow (at_ o-1) 0 else ow) p (o+1)):=by
  unfold setAt;rw[hh,if_neg (by decide),if_neg (fun x=>x.1 h0)]
 rw[e];refine⟨⟨fun q hq cn=>?_,fun i hi cn=>?_⟩,rfl⟩
 ·unfold ah at cn ⊢;simp only at cn ⊢;by_cases hqp:q=p
  ·subst hqp;simp only[if_true];exact⟨by omega,by rw[Nat.add_sub_cancel,if_pos rfl]⟩
  ·rw[if_neg hqp] at cn ⊢;by_cases hz:at_ o≠0
   ·rw[if_pos hz] at cn ⊢;by_cases hqo:q=at_ o-1
    ·rw[if_pos hqo] at cn;exact absurd rfl cn
    ·rw[if_neg hqo] at cn ⊢;obtain⟨h1,h2⟩:=h.o q hq cn;refine⟨h1,?_⟩;rw[if_neg (fun x=>hqo (by rw[x] at h2;omega))];exact h2
   ·rw[if_neg hz] at cn ⊢;obtain⟨h1,h2⟩:=h.o q hq cn;refine⟨h1,?_⟩;rw[if_neg (fun x=>hz (by rw[<-x,h2];omega))];exact h2
 ·unfold ah at cn ⊢;simp only at cn ⊢;by_cases jd:i=o
  ·subst jd;rw[if_pos rfl,Nat.add_sub_cancel,if_pos rfl];exact⟨by omega,rfl⟩
  ·rw[if_neg jd] at cn ⊢;obtain⟨h1,h2⟩:=h.a i hi cn;have hp2:at_ i-1≠p:=fun x=>by rw[x,h0] at h2;omega
   rw[if_neg hp2];refine⟨h1,?_⟩;by_cases hz:at_ o≠0
   ·rw[if_pos hz,if_neg (fun x=>jd (h.inj i o hi ho cn (by omega)))];exact h2
   ·rw[if_neg hz];exact h2
theorem AM.drop{at_ ow:Nat->Nat}(h:AM at_ ow){o:Nat}(ho:o<25)(h0:at_ o≠0):AM (ah at_ o 0) (ah ow (at_ o-1) 0):=by
 have ha:=h.a o ho h0;refine⟨fun q hq cn=>?_,fun i hi cn=>?_⟩
 ·unfold ah at cn ⊢;by_cases hqo:q=at_ o-1
  ·rw[if_pos hqo] at cn;exact absurd rfl cn
  ·rw[if_neg hqo] at cn ⊢;obtain⟨h1,h2⟩:=h.o q hq cn;refine⟨h1,?_⟩;rw[if_neg (fun x=>hqo (by rw[x] at h2;omega))];exact h2
 ·unfold ah at cn ⊢;by_cases jd:i=o
  ·rw[if_pos jd] at cn;exact absurd rfl cn
  ·rw[if_neg jd] at cn ⊢;obtain⟨h1,h2⟩:=h.a i hi cn;refine⟨h1,?_⟩;rw[if_neg (fun x=>jd (h.inj i o hi ho cn (by omega)))];exact h2
theorem uX{ow:Nat->Nat}{b:Nat}:∀ {n x:Nat},x∈gT ow b n↔∃j,j<n/\ow (8*b+j)≠0/\x=ow (8*b+j)-1
 |0,x=>by simp[gT]
 | n+1,x=>by
  have ih:=@uX ow b n x;unfold gT;split
  ·rename_i e
   rw[ih];constructor
   ·rintro⟨j,h1,h2⟩;exact⟨j,by omega,h2⟩
   ·rintro⟨j,h1,h2,h3⟩;refine⟨j,?_,h2,h3⟩;have:j≠n:=fun y=>h2 (by rw[y];exact e);omega
  ·rename_i e
   rw[List.mem_append,ih,List.mem_singleton];constructor
   ·rintro(⟨j,h1,h2⟩|rfl)
    ·exact⟨j,by omega,h2⟩
    ·exact⟨n,by omega,e,rfl⟩
   ·rintro⟨j,h1,h2,h3⟩;by_cases y:j=n
    ·exact .inr (by rw[h3,y])
    ·exact .inl ⟨j,by omega,h2,h3⟩
theorem pW{ow:Nat->Nat}{b:Nat}:∀ {n i:Nat} (h:i<(gT ow b n).length),∃j,i<=j/\j<n/\ow (8*b+j)≠0/\(gT ow b n)[i]=ow (8*b+j)-1
 |0,i,h=>by simp[gT] at h
 | n+1,i,h=>by
  have ih:=@pW ow b n i;have hle:=sN ow b n;unfold gT at h;by_cases e:ow (8*b+n)=0
  ·have e2:gT ow b (n+1)=gT ow b n:=if_pos e;simp only[e2];rw[if_pos e] at h;obtain⟨j,h1,h2,h3⟩:=ih h;exact⟨j,h1,by omega,h3⟩
  ·have e2:gT ow b (n+1)=gT ow b n++[ow (8*b+n)-1]:=if_neg e;simp only[e2];rw[if_neg e] at h;simp at h;by_cases hi:i<(gT ow b n).length
   ·obtain⟨j,h1,h2,h3,h4⟩:=ih hi;exact⟨j,h1,by omega,h3,by rw[List.getElem_append_left hi];exact h4⟩
   ·have:i=(gT ow b n).length:=by omega
    subst this;exact⟨n,hle,by omega,e,by simp⟩
theorem jg{at_ ow:Nat->Nat}(h:AM at_ ow){b:Nat}(hb:b<12):∀ {n:Nat},n<=8->(gT ow b n).Nodup
 |0,_=>by simp[gT]
 | n+1,hn=>by
  have ih:=jg h hb (n:=n) (by omega);unfold gT;split
  ·exact ih
  ·rename_i e
   rw[List.nodup_append];refine⟨ih,by simp,fun x hx y hy hxy=>?_⟩;subst hxy;rw[List.mem_singleton] at hy;obtain⟨j,h1,h2,h3⟩:=uX.1 hx;have a1:=(h.o (8*b+j) (by omega) h2).2;have a2:=(h.o (8*b+n) (by omega) e).2;rw[<-h3] at a1;rw[<-hy] at a2;omega
theorem jx{at_ ow:Nat->Nat}(h:AM at_ ow){b:Nat}(hb:b<12){o:Nat}:o∈bY ow b↔o<25/\at_ o≠0/\(at_ o-1)/8=b:=by
 unfold bY;rw[uX];constructor
 ·rintro⟨j,h1,h2,rfl⟩;obtain⟨h3,h4⟩:=h.o (8*b+j) (by omega) h2;rw[h4];exact⟨by omega,by omega,by omega⟩
 ·rintro⟨h1,h2,h3⟩;obtain⟨h4,h5⟩:=h.a o h1 h2;refine⟨(at_ o-1)%8,Nat.mod_lt _ (by omega),?_⟩;rw[show 8*b+(at_ o-1)%8=at_ o-1 by omega,h5];exact⟨by omega,by omega⟩
theorem aep{at_ ow:Nat->Nat}(h:AM at_ ow){b:Nat}(hb:b<12):(bY ow b).length<=lv at_ b :=
 abq (jg h hb (Nat.le_refl _)) (fun o ho=>(jx h hb).1 ho)
structure BJ(K:KS)(P:CS)(k:Cp)(m:Int):Prop where
 ok:Ao P k K.at_ m
 uq:P.uniq
 en:∀o,o<25->K.at_ o≠0->∃t D,P.pg (K.at_ o-1)=.full t D/\K.en o=⟨t.seq,t.copy,false⟩
 fl:∀o,o<24->k.fl o=K.fl o
 next:(∀p t D,p<96->P.pg p=.full t D->t.seq<K.next)/\1<=K.next/\K.next<=m/\∀o,o<24->K.fl o<K.next
 eZ:AM K.at_ K.ow
structure AO(K:KS)(P:CS):Prop where
 st:∀b,b<12->K.st b<=2
 mT:∀b,b<12->K.st b=1->K.fo=true/\K.fb=b
 fst:K.fo=true->K.st K.fb=1
 bl:∀b i,b<12->K.st b=0->i<8->P.pg (b*8+i)=.blank
 fr:K.fo=true->∀i,K.fi<=i->i<8->P.pg (K.fb*8+i)=.blank
 fb:K.fb<12
 fi:K.fi<=8
 pn:K.pn<=12
structure Bx(K:KS):Prop where
 hb:Hl.HB K.F
 sc:∀b,b<12->K.F (12+b)=0
 cur:K.cur<96
theorem BJ.cI{K:KS}{P:CS}{k:Cp}{m:Int}(h:BJ K P k m){o:Nat}(ho:o<25)(e:K.at_ o≠0):K.at_ o-1<96/\∃t D,P.pg (K.at_ o-1)=.full t D/\K.en o=⟨t.seq,t.copy,false⟩/\t.of=o/\t.ok/\t.place=(K.at_ o-1:Nat)/\t.lost=false/\cm D=D:=by
 obtain⟨hp,t,D,e1,e2,_⟩:=h.ok.cG.yes o ho e;obtain⟨t',D',e1',e3⟩:=h.en o ho e;rw[e1] at e1'
 cases e1'
 obtain⟨v1,v2,v3,v4,v5⟩:=h.ok.gd.val _ _ _ hp e1;exact⟨hp,t,D,e1,e3,e2,v1,v2,v3,v5⟩
theorem Cx.dead{P:CS}{k:Cp}{L:Nat->Nat}(h:Cx P k L){b:Nat}(hb:∀i,i<8->P.pg (b*8+i)=.blank):lv L b=0:=fw.2 fun o ho e hh=>by
 obtain⟨t,D,e1,_⟩:=h.cI ho e;have:=hb ((L o-1)%8) (Nat.mod_lt _ (by omega));rw[show b*8+(L o-1)%8=L o-1 by omega,e1] at this
 cases this
theorem zK{st L:Nat->Nat}(h:∀b,b<12->st b=0->lv L b=0)(hf:5<=au st 0):5<=au (lv L) 0:=Nat.le_trans hf (fB h)
def gv(K:KS)(P:CS)(d:Nat)(os:List Nat)(q:Nat):Pg:=if q/8=d/\q%8<os.length then .full (bm K d (q%8) (os.getD (q%8) 0)) (cm (aS P (K.at_ (os.getD (q%8) 0)-1))) else P.pg q
theorem fp{K:KS}{P:CS}{d:Nat}{os:List Nat}{q:Nat}(h:q/8≠d):gv K P d os q=P.pg q:=if_neg fun x=>h x.1
theorem qS{os:List Nat}{o i:Nat}(h:i<os.length):(os++[o]).getD i 0=os.getD i 0:=by
 simp[List.getD,List.getElem?_append_left h]
theorem nK{os:List Nat}{o:Nat}:(os++[o]).getD os.length 0=o:=by
 simp[List.getD]
theorem xY{K:KS}{P:CS}{d:Nat}{os:List Nat}{o:Nat}(h8:os.length<8)(q:Nat):gv K P d (os++[o]) q=if q=d*8+os.length then .full (bm K d os.length o) (cm (aS P (K.at_ o-1))) else gv K P d os q:=by
 unfold gv;rw[List.length_append,List.length_singleton];by_cases e:q=d*8+os.length
 ·have e1:q/8=d:=by omega
  have e2:q%8=os.length:=by omega
  rw[if_pos e,if_pos ⟨e1,by omega⟩,e2,nK]
 ·rw[if_neg e];by_cases h:q/8=d/\q%8<os.length
  ·rw[if_pos h,if_pos ⟨h.1,by omega⟩,qS h.2]
  ·rw[if_neg h,if_neg (fun x=>h ⟨x.1,by omega⟩)]
theorem anE{K:KS}{P:CS}{d:Nat}(hb:Hl.HB K.F)(hc:P.calm)(hd:d<12)(da:∀o,o<25->K.at_ o<=96)(os:List Nat)(ho:∀o,o∈os->o<25/\K.at_ o≠0/\(K.at_ o-1)/8≠d)(h8:os.length<=8) :
  (∀q,(cQ K P d os).P.pg q=gv K P d os q)/\(∀i,i<os.length->(cQ K P d os).l.getD i Tg.zero=bm K d i (os.getD i 0)) /\
  ∀T,T∈(cQ K P d os).tr->T.calm/\(∀q,q/8≠d->T.pg q=P.pg q)/\∃m,m<os.length/\∀q t D,T.pg q=.full t D->gv K P d (os.take m) q=.full t D:=by
 induction os using eA with
 | h0 =>
  refine⟨fun q=>?_,fun i hi=>?_,fun T hT=>?_⟩
  ·unfold gv;rw[if_neg (by simp)];rfl
  ·simp at hi
  ·cases hT
 | h1 os o ih =>
  have jG:∀x,x∈os->x<25/\K.at_ x≠0/\(K.at_ x-1)/8≠d:=fun x hx=>ho x (List.mem_append_left _ hx);have hoo:=ho o (List.mem_append_right _ (List.mem_singleton.2 rfl));have h7:os.length<8:=by simp at h8;omega
  have hi:=ko hb hc hd da os (fun x hx=>⟨(jG x hx).1,(jG x hx).2.1⟩) (by omega);obtain⟨zp,ph,ih3⟩:=ih jG (by omega);rw[kn];obtain⟨F,hF⟩:=hi.same;have eat:(cQ K P d os).K.at_=K.at_:=by rw[hF]
  have een:∀j x,bm (cQ K P d os).K d j x=bm K d j x:=fun j x=>by rw[hF];rfl
  have hlen:=hi.len;have hcm:=hi.calm;have anF:aS (cQ K P d os).P (K.at_ o-1)=aS P (K.at_ o-1):=by
   unfold aS;rw[zp,fp hoo.2.2]
  generalize cQ K P d os=S at *;unfold jC;simp only;rw[hlen,eat,een,anF];refine⟨fun q=>?_,fun i hi=>?_,fun T hT=>?_⟩
  ·rw[ac6,xY h7];split
   ·rfl
   ·exact zp q
  ·simp only[List.length_append,List.length_singleton] at hi;by_cases hil:i<os.length
   ·rw[qS hil, <-ph i hil];simp[List.getD,List.getElem?_append_left (by omega:i<S.l.length)]
   ·have:i=os.length:=by omega
    subst this;rw[nK];simp[List.getD, <-hlen]
  ·rcases List.mem_append.1 hT with hT|hT
   ·obtain⟨a1,a2,m,a3,a4⟩:=ih3 T hT;refine⟨a1,a2,m,by simp;omega,?_⟩;rw[List.take_append_of_le_length (by omega)];exact a4
   ·have hq:(d*8+os.length)/8=d:=by omega
    have key:T.calm/\∀q,T.pg q=S.P.pg q\/q=d*8+os.length/\∃n,T.pg q=.ct n:=by
     have c0:=CS.gq hcm (K.at_ o-1);have c1:=CS.bV c0 (d*8+os.length) (.ct 1);have c2:=CS.bV c1 (d*8+os.length) (.ct 2);have c3:=CS.bV c2 (d*8+os.length) (.ct 3);unfold CS.wG at hT;simp only[List.mem_cons,List.not_mem_nil,or_false] at hT;rcases hT with rfl|rfl|rfl|rfl
     ·exact⟨c0,fun q=>.inl rfl⟩
     ·refine⟨c1,fun q=>?_⟩;by_cases e:q=d*8+os.length
      ·exact .inr ⟨e,1,by rw[e,CS.dJ]⟩
      ·exact .inl (by rw[CS.cJ _ _ e];rfl)
     ·refine⟨c2,fun q=>?_⟩;by_cases e:q=d*8+os.length
      ·exact .inr ⟨e,2,by rw[e,CS.dJ]⟩
      ·exact .inl (by rw[CS.cJ _ _ e,CS.cJ _ _ e];rfl)
     ·refine⟨c3,fun q=>?_⟩;by_cases e:q=d*8+os.length
      ·exact .inr ⟨e,3,by rw[e,CS.dJ]⟩
      ·exact .inl (by rw[CS.cJ _ _ e,CS.cJ _ _ e,CS.cJ _ _ e];rfl)
    obtain⟨k1,k2⟩:=key;refine⟨k1,fun q cn=>?_,os.length,by simp,fun q t D e=>?_⟩
    ·rcases k2 q with h|⟨h,_⟩
     ·rw[h,zp,fp cn]
     ·exact absurd (by omega) cn
    ·rw[List.take_left']
     ·rcases k2 q with h|⟨_,n,h⟩
      ·rw[h,zp] at e;exact e
      ·rw[h] at e
       cases e
     ·rfl
theorem aeq{K:KS}{P T:CS}{k:Cp}{m:Int}(h:BJ K P k m){v d:Nat}(hv:v<12)(hd:d<12)(hdl:∀i,i<8->P.pg (d*8+i)=.blank)(x:Nat)
  (h1:T.calm) (h2:∀q,q/8≠d->T.pg q=P.pg q) (h3:∀q t D,T.pg q=.full t D->gv K P d ((bY K.ow v).take x) q=.full t D):Ao T k K.at_ m:=by
 have vT:=h.ok.cG.dead hdl;have yZ:∀i,i<((bY K.ow v).take x).length->∃hi:i<(bY K.ow v).length,((bY K.ow v).take x).getD i 0=(bY K.ow v)[i]:=fun i hi=>by
  rw[List.length_take] at hi;refine⟨by omega,?_⟩;simp[List.getD,List.getElem?_take,show i<x by omega,show i<(bY K.ow v).length by omega]
 have hnd:=jg h.eZ hv (Nat.le_refl _);refine h.ok.anD h.uq vT h1 (fun q t D hq e=>?_) (fun o ho e=>h2 _ (fw.1 vT o ho e));have e3:=h3 q t D e;unfold gv at e3;by_cases hc:q/8=d/\q%8<((bY K.ow v).take x).length
 ·rw[if_pos hc] at e3;obtain⟨hi,eo⟩:=yZ (q%8) hc.2;obtain⟨j,j1,j2,j3,j4⟩:=pW (ow:=K.ow) (b:=v) (n:=8) (i:=q%8) hi;have hom:=(jx h.eZ hv).1 (List.getElem_mem hi);rw[eo] at e3;have eoj:(bY K.ow v)[q%8]=K.ow (8*v+j)-1:=j4;have iB:=h.eZ.o (8*v+j) (by omega) j3;rw[<-eoj] at iB;generalize hgo:(bY K.ow v)[q%8]=o at *;obtain⟨a1,t0,D0,a2,a3,a4,a5,a6,a7,a8⟩:=h.cI hom.1 hom.2.1;have anF:aS P (K.at_ o-1)=D0:=by
   unfold aS;rw[a2]
  rw[anF,a8] at e3;have hte:t=⟨(q:Int),t0.of,t0.seq,(t0.copy+1)%256,t0.lost⟩:=by
   injection e3 with e4 e5;rw[<-e4];unfold bm;rw[a3,a4,a7,show d*8+q%8=q by omega]
  have hD:D=D0:=by
   injection e3 with e4 e5;exact e5.symm
  refine .inr ⟨hc.1,fun hn=>?_,o,hom.1,hom.2.1,⟨t0,by rw[hD];exact a2,hte⟩,fun q' t' D' gX e' hs=>?_⟩
  ·rw[hte] at hn;have:=a5;unfold Tg.ok at this;have h6:=this.2.2.2.2.2.2.2.2.2 hn;rw[a6] at h6;omega
  ·have e3':=h3 q' t' D' e';unfold gv at e3';by_cases hc':q'/8=d/\q'%8<((bY K.ow v).take x).length
   ·rw[if_pos hc'] at e3';obtain⟨jH,eo'⟩:=yZ (q'%8) hc'.2;have alk:=(jx h.eZ hv).1 (List.getElem_mem jH);rw[eo'] at e3';obtain⟨b1,t1,D1,b2,b3,b4,b5,b6,b7,b8⟩:=h.cI alk.1 alk.2.1;injection e3' with f4 f5;have dj:t1.seq=t0.seq:=by
     rw[hte, <-f4] at hs;unfold bm at hs;rw[b3] at hs;exact hs
    have:=h.uq _ _ _ _ _ _ b1 a1 b2 a2 dj;have hoo:(bY K.ow v)[q'%8]=o:=h.eZ.inj _ _ alk.1 hom.1 alk.2.1 (by omega);have:q'%8=q%8:=(List.getElem_inj (h₀:=jH) (h₁:=hi) hnd).1 (by rw[hoo];exact hgo.symm);exact .inl (by omega)
   ·rw[if_neg hc'] at e3';exact .inr (h.uq _ _ _ _ _ _ gX a1 e3' a2 (by rw[hs,hte]))
 ·rw[if_neg hc] at e3;exact .inl e3
theorem nL(K:KS)(l:List Tg):∃A O E M,eY K l={ K with at_:=A,ow:=O,en:=E,dZ:=M }:=by
 induction l using eA with
 |h0=>exact⟨K.at_,K.ow,K.en,K.dZ,rfl⟩
 | h1 l t ih =>
  obtain⟨A,O,E,M,e⟩:=ih;rw[kt,e];exact⟨_,_,_,_,rfl⟩
structure BD(K:KS)(d:Nat)(os:List Nat)(l:List Tg)(c:Nat->En):Prop where
 eZ:AM K.at_ K.ow
 hd:d<12
 o8:os.length<=8
 nd:os.Nodup
 len:l.length=os.length
 lt:∀i,i<os.length->os.getD i 0<25/\aR (d*8+i) (os.getD i 0)=true
 dead:∀o,o<25->K.at_ o≠0->(K.at_ o-1)/8≠d
 tag:∀i,i<os.length->(l.getD i Tg.zero).of=(os.getD i 0:Nat)/\(l.getD i Tg.zero).place=(d*8+i:Nat)/\(⟨(l.getD i Tg.zero).seq,(l.getD i Tg.zero).copy,(l.getD i Tg.zero).lost⟩:En)=c (os.getD i 0)
theorem bH{α:Type}{l:List α}{x:α}{i:Nat}(h:i<l.length):l.getD i x=l[i]:=by
 simp[List.getD,h]
theorem uY{K:KS}{d:Nat}{os:List Nat}{l:List Tg}{c:Nat->En}(H:BD K d os l c):∀i,i<=os.length ->
  AM (eY K (l.take i)).at_ (eY K (l.take i)).ow/\(∀j,j<i->(eY K (l.take i)).at_ (os.getD j 0)=d*8+j+1/\(eY K (l.take i)).en (os.getD j 0)=c (os.getD j 0)) /\
  ∀o,(∀j,j<i->os.getD j 0≠o)->(eY K (l.take i)).at_ o=K.at_ o/\(eY K (l.take i)).en o=K.en o
 |0,_=>⟨H.eZ,fun j hj=>by omega,fun o _=>⟨rfl,rfl⟩⟩
 | i+1,hi=>by
  obtain⟨h1,h2,h3⟩:=uY H i (by omega);have hil:i<l.length:=by rw[H.len];omega
  have et:l.take (i+1)=l.take i++[l.getD i Tg.zero]:=by
   rw[bH hil];simp
  rw[et,kt];obtain⟨t1,t2,t3⟩:=H.tag i (by omega);obtain⟨o1,o2⟩:=H.lt i (by omega);have h8:=H.o8;have hd:=H.hd;have ndj:∀j,j<i->os.getD j 0≠os.getD i 0:=fun j hj e=>by
   rw[bH (by omega),bH (by omega)] at e;have:=(List.getElem_inj (h₀:=by omega) (h₁:=by omega) H.nd).1 e;omega
  generalize hod:os.getD i 0=o at *;generalize l.getD i Tg.zero=t at *;generalize eY K (l.take i)=A at *;have e1:t.of.toNat=o:=by rw[t1];rfl
  have e2:t.place.toNat=d*8+i:=by rw[t2];rfl
  unfold mvK;rw[e1,e2];have hp:d*8+i<96:=by omega
  have h0:A.ow (d*8+i)=0:=by
   by_cases hz:A.ow (d*8+i)=0
   ·exact hz
   obtain⟨c1,c2⟩:=h1.o (d*8+i) hp hz;by_cases hex:∃j,j<i/\os.getD j 0=A.ow (d*8+i)-1
   ·obtain⟨j,hj,ej⟩:=hex;have:=(h2 j hj).1;rw[ej,c2] at this;omega
   ·have:=(h3 (A.ow (d*8+i)-1) (fun j hj e=>hex ⟨j,hj,e⟩)).1;rw[c2] at this;exact absurd (by omega) (H.dead (A.ow (d*8+i)-1) (by omega) (by omega))
  obtain⟨s1,s2⟩:=h1.set o1 hp h0 o2;unfold stK;simp only;rw[s2];rw[s2] at s1;have edi:os.getD i 0=o:=hod;refine⟨s1,fun j hj=>?_,fun x hx=>?_⟩
  ·unfold ah;by_cases vQ:j<i
   ·rw[if_neg (ndj j vQ),if_neg (ndj j vQ)];exact h2 j vQ
   ·have:j=i:=by omega
    subst this;rw[edi,if_pos rfl,if_pos rfl];exact⟨by omega,t3⟩
  ·have hxo:x≠o:=fun e=>hx i (by omega) (by rw[edi,e]);unfold ah;rw[if_neg hxo,if_neg hxo];exact h3 x (fun j hj=>hx j (by omega))
theorem lF{st:Nat->Nat}{s:Nat}:∀ {n:Nat},(∀b,b<n->st b≠s)->cP st s n=0
 |0,_=>rfl
 | n+1,h=>by
  unfold cP;rw[lF (n:=n) (fun b hb=>h b (by omega)),if_neg (h n (by omega))]
structure Shut(K K0:KS):Prop where
 eq:∃st fo fb fi,K0={ K with st:=st,fo:=fo,fb:=fb,fi:=fi }
 st:∀b,K0.st b=K.st b\/K.st b=1/\K0.st b=2
 fr:(K0.fo=K.fo/\K0.fb=K.fb/\K0.fi=K.fi)\/K0.fo=false
 cnt:au K0.st 0=au K.st 0
theorem AO.shut{K:KS}{P:CS}(I:AO K P):AO (aT K) P/\Shut K (aT K)/\(aT K).fo=false/\(K.fo=true->(aT K).st K.fb=2):=by
 unfold aT;by_cases h:K.fo=true
 ·rw[if_pos h];have h1:=I.fst h;have qk:=I.fb;have bq:aD K.st K.fb 2=ah K.st K.fb 2:=by
   unfold aD;rw[if_neg (fun x=>by rw[h1] at x;omega)]
  rw[bq];refine⟨⟨fun b hb=>?_,fun b hb e=>?_,(fun e=>nomatch e),fun b i hb e hi=>?_,(fun e=>nomatch e),by simp,by simp,I.pn⟩,⟨⟨_,_,_,_,rfl⟩,fun b=>?_,.inr rfl,?_⟩,rfl,fun _=>?_⟩
  ·show ah K.st K.fb 2 b<=2;unfold ah;split
   ·omega
   ·exact I.st b hb
  ·have e:ah K.st K.fb 2 b=1:=e;unfold ah at e;by_cases hbf:b=K.fb
   ·rw[if_pos hbf] at e;omega
   ·rw[if_neg hbf] at e;exact absurd (I.mT b hb e).2.symm hbf
  ·have e:ah K.st K.fb 2 b=0:=e;unfold ah at e;by_cases hbf:b=K.fb
   ·rw[if_pos hbf] at e;omega
   ·rw[if_neg hbf] at e;exact I.bl b i hb e hi
  ·show ah K.st K.fb 2 b=K.st b\/_;unfold ah;by_cases hbf:b=K.fb
   ·rw[if_pos hbf,hbf];exact .inr ⟨h1,if_pos rfl⟩
   ·rw[if_neg hbf];exact .inl rfl
  ·have:=bQ K.st 2 0 qk;rw[if_neg (by omega),if_neg (by omega)] at this;exact this
  ·show ah K.st K.fb 2 K.fb=2;exact if_pos rfl
 ·rw[if_neg h];exact⟨I,⟨⟨K.st,K.fo,K.fb,K.fi,rfl⟩,fun _=>.inl rfl,.inl ⟨rfl,rfl,rfl⟩,rfl⟩,by simpa using h,fun x=>absurd x h⟩
theorem AO.lD{K:KS}{P:CS}(I:AO K P){v:Nat}(hv:v<12)(h0:K.st v≠0):AO (lD K v) P/\Shut K (lD K v)/\(lD K v).st v=2:=by
 obtain⟨h1,h2,h3,h4⟩:=I.shut;unfold Go.Proofs.YtaeikigfgfcadaaGreat.lD;by_cases h:(if K.fo then (K.fb:Int) else -1)=v
 ·rw[if_pos h];by_cases hf:K.fo=true
  ·rw[if_pos hf] at h;have:K.fb=v:=by omega
   exact⟨h1,h2,by rw[<-this];exact h4 hf⟩
  ·rw[if_neg hf] at h;omega
 ·rw[if_neg h];refine⟨I,⟨⟨K.st,K.fo,K.fb,K.fi,rfl⟩,fun _=>.inl rfl,.inl ⟨rfl,rfl,rfl⟩,rfl⟩,?_⟩;have h5:=I.st v hv;by_cases h6:K.st v=1
  ·obtain⟨h7,h8⟩:=I.mT v hv h6;rw[if_pos h7] at h;omega
  ·omega
theorem alm{K:KS}{P:CS}{d:Nat}(hd:d<12)(da:∀o,o<25->K.at_ o<=96)(hb:Hl.HB K.F)(hc:P.calm)(os:List Nat)(ho:∀o,o∈os->o<25/\K.at_ o≠0)(h8:os.length<=8):∀j,12<=j->(cQ K P d os).K.F j=K.F j:=by
 induction os using eA with
 |h0=>exact fun j _=>rfl
 | h1 os o ih =>
  intro j hj;have jG:∀x,x∈os->x<25/\K.at_ x≠0:=fun x hx=>ho x (List.mem_append_left _ hx);have hoo:=ho o (List.mem_append_right _ (List.mem_singleton.2 rfl));have h7:os.length<8:=by simp at h8;omega
  have hi:=ko hb hc hd da os jG (by omega);have ih:=ih jG (by omega) j hj;rw[kn];obtain⟨F,hF⟩:=hi.same;have e1:(cQ K P d os).K.at_=K.at_:=by rw[hF]
  have hp:=da o hoo.1;have hlen:=hi.len;show Hl.qM (Hl.qM (cQ K P d os).K.F (((cQ K P d os).K.at_ o-1)/8)) ((d*8+(cQ K P d os).l.length)/8) j=_;rw[e1];unfold Hl.qM Hl.nU;rw[if_neg (by omega),if_neg (by omega)];exact ih
structure Dp(K K':KS)(v d:Nat):Prop where
 free:∀b,b<12->(K'.st b=0↔b=v\/(lD K v).st b=0/\b≠d)
 pn:K'.pn=d+1
 fr:(K'.fo=(lD K v).fo/\K'.fb=(lD K v).fb/\K'.fi=(lD K v).fi/\(lD K v).fo=true)\/(K'.fo=true/\K'.fb=d/\K'.fi=(bY K.ow v).length)
 stay:∀o,o<25->K.at_ o≠0->(K.at_ o-1)/8≠v->K'.at_ o=K.at_ o
 go:∀o,o<25->K.at_ o≠0->(K.at_ o-1)/8=v->K'.at_ o≠0/\(K'.at_ o-1)/8=d
 dv:d≠v
 d0:(lD K v).st d=0
 v2:(lD K v).st v=2
structure A8(K:KS)(P:CS)(k:Cp)(m:Int)(v d:Nat):Prop where
 hyp:Bt K P v d
 il:BJ (nX K P v d) (vZ K P v d) k m
 ib:AO (nX K P v d) (vZ K P v d)
 ih:Bx (nX K P v d)
 cnt:au (nX K P v d).st 0=au K.st 0
 tr:∀T,T∈vcT K P v d->Ao T k K.at_ m/\∀a,Ac P K.at_ a->Ac T K.at_ a
 sh:∀a,Ac P K.at_ a->Ac (vZ K P v d) (nX K P v d).at_ a
 same:∃st fo fb fi pn at_ ow en F mo,nX K P v d={ K with st:=st,fo:=fo,fb:=fb,fi:=fi,pn:=pn,at_:=at_,ow:=ow,en:=en,F:=F,dZ:=mo }
 tag:∀o,o<25->K.at_ o≠0->(nX K P v d).at_ o≠0/\((nX K P v d).en o).seq=(K.en o).seq
 zero:∀o,o<25->K.at_ o=0->(nX K P v d).at_ o=0
 room:K.fo=false->lv K.at_ v<=5->∀of,of<=24->aF (nX K P v d).fo (nX K P v d).fi of=true
 gone:Dp K (nX K P v d) v d
theorem aer{K:KS}{P:CS}{k:Cp}{m:Int}(IL:BJ K P k m)(IB:AO K P)(IH:Bx K)(hr:5<=au K.st 0){v:Nat}(hv:v<12)(h0:K.st v≠0):∃d,A8 K P k m v d:=by
 obtain⟨B0,S0,sn⟩:=IB.lD hv h0;obtain⟨jD,fo0,v7,fi0,e0⟩:=S0.eq;obtain⟨d,kM,hd,vT⟩:=je B0.pn (by rw[S0.cnt];omega);have jn:d≠v:=fun e=>by rw[e,sn] at vT;omega
 have na:∀i,i<8->P.pg (d*8+i)=.blank:=fun i hi=>B0.bl d i hd vT hi;have hd1:=IL.ok.cG.dead na;have fU:∀o,o<25->K.at_ o≠0->(K.at_ o-1)/8≠d:=fw.1 hd1;have q1:(ql K v d).at_=K.at_/\(ql K v d).ow=K.ow/\(ql K v d).en=K.en/\(ql K v d).F=K.F:=by
  unfold ql;rw[e0];exact⟨rfl,rfl,rfl,rfl⟩
 obtain⟨qa,qo,qe,qF⟩:=q1;have jm:∀o,o∈bY K.ow v->o<25/\K.at_ o≠0/\(K.at_ o-1)/8=v:=fun o ho=>(jx IL.eZ hv).1 ho;have h8:=oU K.ow v;have zm:∀i (h:i<(bY K.ow v).length),(bm K d i (bY K.ow v)[i]).ok/\aR (d*8+i) (bY K.ow v)[i]=true:=fun i hi=>by
  obtain⟨j,j1,j2,j3,j4⟩:=pW (ow:=K.ow) (b:=v) (n:=8) (i:=i) hi;have hm:=jm _ (List.getElem_mem hi);have j4:(bY K.ow v)[i]=K.ow (8*v+j)-1:=j4;have iB:=(IL.eZ.o (8*v+j) (by omega) j3).2;rw[<-j4] at iB;generalize (bY K.ow v)[i]=o at *;obtain⟨a1,t0,D0,a2,a3,a4,a5,a6,a7,a8⟩:=IL.cI hm.1 hm.2.1;have h6:t0.of≠24->(d*8+i)%8<=5:=fun hn=>by
   have:=a5;unfold Tg.ok at this;have:=this.2.2.2.2.2.2.2.2.2 hn;rw[a6] at this;omega
  constructor
  ·have:=sW a5 (q:=d*8+i) (by omega) h6;unfold bm;rw[a3];rw[a4,a7] at this;exact this
  ·unfold aR;rw[a4] at h6;by_cases ho:o=24
   ·simp[ho]
   ·have:=h6 (by omega);simp;omega
 have anG:∀i o,bm (ql K v d) d i o=bm K d i o:=fun i o=>by unfold bm;rw[qe]
 have hCp:BZ (ql K v d) P v d:=by
  refine⟨by rw[qF];exact IH.hb,IL.ok.gd.calm,by rw[qa];exact fun o ho=>IL.ok.cG.lt ho,by rw[qo];exact IL.eZ.mw.lo,hv,hd,fun o ho=>?_,na,by rw[qo];exact fun i hi=>by rw[anG];exact(zm i hi).1⟩;rw[qo] at ho;rw[qa,qe];have hm:=jm o ho;obtain⟨a1,t0,D0,a2,a3,a4,a5,a6,a7,a8⟩:=IL.cI hm.1 hm.2.1;have:=a5;unfold Tg.ok at this;exact⟨by omega,hm.2.1,by rw[a3];exact⟨this.2.2.2.2.2.2.1,this.2.2.2.2.2.2.2.1⟩,fU o hm.1 hm.2.1,t0,D0,a2,a4,by rw[a3]⟩
 have nR:Hl.HB (ql K v d).F:=hCp.hb;have ho1:∀o,o∈bY K.ow v->o<25/\(ql K v d).at_ o≠0:=fun o ho=>by rw[qa];exact⟨(jm o ho).1,(jm o ho).2.1⟩
 have hinv:=ko nR hCp.calm hd hCp.uS (bY K.ow v) ho1 h8;have hhi:=alm hd hCp.uS nR hCp.calm (bY K.ow v) ho1 h8;obtain⟨bA,av,htr⟩:=anE nR hCp.calm hd hCp.uS (bY K.ow v) (fun o ho=>⟨(ho1 o ho).1,(ho1 o ho).2,by rw[qa];exact fU o (jm o ho).1 (jm o ho).2.1⟩) h8;have ecp:∀l q,gv (ql K v d) P d l q=gv K P d l q:=fun l q=>by unfold gv;rw[qa];simp only[anG]
 obtain⟨F,hF⟩:=hinv.same;have hS:vcS K P v d=cQ (ql K v d) P d (bY K.ow v):=by unfold vcS;rw[qo]
 have hlen:=hinv.len;have abr:=hinv.calm;have hHB:=hinv.hb;have hnd:=jg IL.eZ hv (Nat.le_refl 8);have hnd:(bY K.ow v).Nodup:=hnd
 -- the trace
 have hTr:∀T,T∈vcT K P v d->Ao T k K.at_ m/\∀q,q/8≠d->T.pg q=P.pg q:=fun T hT=>by
  unfold vcT at hT;rw[hS] at hT;rcases List.mem_append.1 hT with hT|hT
  ·obtain⟨a1,a2,x,a3,a4⟩:=htr T hT;exact⟨aeq IL hv hd na x a1 a2 (fun q t D e=>by rw[<-ecp];exact a4 q t D e),a2⟩
  ·rw[List.mem_singleton.1 hT];have a2:∀q,q/8≠d->(cQ (ql K v d) P d (bY K.ow v)).P.pg q=P.pg q:=fun q hq=>by rw[bA,ecp,fp hq]
   exact⟨aeq IL hv hd na 8 abr a2 (fun q t D e=>by rw[List.take_of_length_le h8, <-ecp, <-bA];exact e),a2⟩
 generalize cQ (ql K v d) P d (bY K.ow v)=S at *;have hF2:∀b,b<12->F (12+b)=0:=fun b hb=>by
  have:=hhi (12+b) (by omega);rw[hF,qF] at this;exact this.trans (IH.sc b hb)
 have hFB:Hl.HB F:=by rw[hF] at hHB;exact hHB
 rw[e0] at B0 S0 sn kM vT;have aiB:jD v=2:=sn;have aln:jD d=0:=vT;have wD:oV S.K v={ K with st:=ah (ah jD d 1) v 0,fo:=fo0,fb:=v7,fi:=fi0,pn:=d+1,F:=Hl.ux F v }:=by
  unfold oV;rw[hF];unfold ql;rw[e0];have:aD (ah jD d 1) v 0=ah (ah jD d 1) v 0:=by
   unfold aD;rw[if_neg (fun x=>by
    have h1:=x.1;unfold ah at h1;rw[if_neg (fun e=>jn e.symm),aiB] at h1;omega)]
  simp only;rw[this]
 have alo:=hS;have H:BD (oV S.K v) d (bY K.ow v) S.l (fun o=>⟨(K.en o).seq,((K.en o).copy+1)%256,(K.en o).lost⟩):=by
  rw[wD];refine⟨IL.eZ,hd,h8,hnd,hlen,fun i hi=>?_,fU,fun i hi=>?_⟩
  ·rw[bH hi];exact⟨(jm _ (List.getElem_mem hi)).1,(zm i hi).2⟩
  ·rw[av i hi,anG];exact⟨rfl,rfl,rfl⟩
 have anH:=uY H (bY K.ow v).length (Nat.le_refl _);have aq3:S.l.take (bY K.ow v).length=S.l:=by rw[<-hlen,List.take_length]
 rw[aq3] at anH;obtain⟨MA,MO,ME,MM,hmv⟩:=nL (oV S.K v) S.l;rw[hmv] at anH;obtain⟨iB,wC,anI⟩:=anH;have anI:∀o,(∀j,j<(bY K.ow v).length->(bY K.ow v).getD j 0≠o)->MA o=K.at_ o/\ME o=K.en o:=fun o ho=>by
  have:=anI o ho;rw[wD] at this;exact this
 have wC:∀j,j<(bY K.ow v).length->MA ((bY K.ow v).getD j 0)=d*8+j+1/\ME ((bY K.ow v).getD j 0)=⟨(K.en ((bY K.ow v).getD j 0)).seq,((K.en ((bY K.ow v).getD j 0)).copy+1)%256,(K.en ((bY K.ow v).getD j 0)).lost⟩:=wC;have iB:AM MA MO:=iB;rw[wD] at hmv
 -- the whole
 obtain⟨rU,fo',fb',fi',ma,ba,bb,bc,bd,be,bf⟩:∃rU fo' fb' fi',nX K P v d={ K with st:=rU,fo:=fo',fb:=fb',fi:=fi',pn:=d+1,F:=Hl.ux F v,at_:=MA,ow:=MO,en:=ME,dZ:=MM }/\(∀b,b<12->rU b<=2)/\(∀b,b<12->(rU b=0↔b=v\/jD b=0/\b≠d)) /\
   (∀b,b<12->rU b=1->fo'=true/\fb'=b)/\(fo'=true->rU fb'=1)/\((fo'=fo0/\fb'=v7/\fi'=fi0/\fo0=true)\/(fo'=true/\fb'=d/\fi'=(bY K.ow v).length))/\au rU 0=au jD 0:=by
  have lU:au (ah (ah jD d 1) v 0) 0=au jD 0:=by
   have h1:=bQ jD 1 0 hd;have h2:=bQ (ah jD d 1) 0 0 hv;rw[if_pos aln] at h1;rw[if_neg (by unfold ah;rw[if_neg (fun e=>jn e.symm),aiB];omega)] at h2;simp at h1 h2;omega
  have h2d:ah (ah jD d 1) v 0 d=1:=by
   unfold ah;rw[if_neg jn,if_pos rfl]
  have hle:∀b,b<12->ah (ah jD d 1) v 0 b<=2:=fun b hb=>by
   unfold ah;split
   ·omega
   ·split
    ·omega
    ·exact B0.st b hb
  unfold nX;rw[alo];unfold jr;rw[wD,hmv];by_cases mF:aF fo0 fi0 0=true
  ·rw[if_pos mF];have fR:fo0=true:=by
    unfold aF at mF;simp at mF;exact mF.1
   have hs:aD (ah (ah jD d 1) v 0) d 2=ah (ah (ah jD d 1) v 0) d 2:=by
    unfold aD;rw[if_neg (fun x=>by rw[h2d] at x;omega)]
   have hfd:jD v7=1:=B0.fst fR;refine⟨_,_,_,_,rfl,fun b hb=>?_,fun b hb=>?_,fun b hb e=>?_,fun _=>?_,.inl ⟨rfl,rfl,rfl,fR⟩,?_⟩
   ·rw[hs];show ah (ah (ah jD d 1) v 0) d 2 b<=2;rw[ah];split
    ·omega
    ·exact hle b hb
   ·rw[hs];unfold ah;have hvd:v≠d:=fun e=>jn e.symm;by_cases e1:b=d
    ·simp[e1,jn]
    ·by_cases e2:b=v
     ·simp[e2,hvd]
     ·simp[e1,e2]
   ·rw[hs] at e;unfold ah at e;by_cases e1:b=d
    ·simp[e1] at e
    ·by_cases e2:b=v
     ·rw[if_neg e1,if_pos e2] at e;omega
     ·simp only[if_neg e1,if_neg e2] at e;exact B0.mT b hb e
   ·have e1:v7≠d:=fun e=>by rw[e,aln] at hfd;omega
    have e2:v7≠v:=fun e=>by rw[e,aiB] at hfd;omega
    show aD (ah (ah jD d 1) v 0) d 2 v7=1;rw[hs,ah,if_neg e1,ah,if_neg e2,ah,if_neg e1];exact hfd
   ·rw[hs];have:=bQ (ah (ah jD d 1) v 0) 2 0 hd;rw[if_neg (by rw[h2d];omega)] at this;simp at this;omega
  ·rw[if_neg mF];have key:∃jh b3 f3 i3,aT { K with st:=ah (ah jD d 1) v 0,fo:=fo0,fb:=v7,fi:=fi0,pn:=d+1,F:=Hl.ux F v,at_:=MA,ow:=MO,en:=ME,dZ:=MM }={ K with st:=jh,fo:=f3,fb:=b3,fi:=i3,pn:=d+1,F:=Hl.ux F v,at_:=MA,ow:=MO,en:=ME,dZ:=MM } /\
     (∀b,b<12->jh b<=2)/\(∀b,b<12->(jh b=0↔ah (ah jD d 1) v 0 b=0))/\(∀b,b<12->jh b=1->b=d)/\jh d=1/\au jh 0=au jD 0:=by
    unfold aT;by_cases fR:fo0=true
    ·rw[if_pos fR];have hfd:jD v7=1:=B0.fst fR;have qk:v7<12:=B0.fb;have e1:v7≠d:=fun e=>by rw[e,aln] at hfd;omega
     have e2:v7≠v:=fun e=>by rw[e,aiB] at hfd;omega
     have hf1:ah (ah jD d 1) v 0 v7=1:=by
      unfold ah;rw[if_neg e2,if_neg e1];exact hfd
     have hs:aD (ah (ah jD d 1) v 0) v7 2=ah (ah (ah jD d 1) v 0) v7 2:=by
      unfold aD;rw[if_neg (fun x=>by rw[hf1] at x;omega)]
     refine⟨_,_,_,_,rfl,fun b hb=>?_,fun b hb=>?_,fun b hb e=>?_,?_,?_⟩
     ·rw[hs];show ah (ah (ah jD d 1) v 0) v7 2 b<=2;rw[ah];split
      ·omega
      ·exact hle b hb
     ·rw[hs];show ah (ah (ah jD d 1) v 0) v7 2 b=0↔_;rw[ah];by_cases e3:b=v7
      ·rw[if_pos e3,e3,hf1];simp
      ·rw[if_neg e3]
     ·rw[hs] at e;unfold ah at e;by_cases e3:b=v7
      ·simp[e3] at e
      ·by_cases e4:b=v
       ·simp[e3,e4] at e;rw[e4] at e3;simp[e3] at e
       ·by_cases e5:b=d
        ·exact e5
        ·simp only[if_neg e3,if_neg e4,if_neg e5] at e;exact absurd (B0.mT b hb e).2.symm e3
     ·rw[hs];show ah (ah (ah jD d 1) v 0) v7 2 d=1;rw[ah,if_neg (fun e=>e1 e.symm)];exact h2d
     ·rw[hs];have:=bQ (ah (ah jD d 1) v 0) 2 0 qk;rw[if_neg (by rw[hf1];omega)] at this;simp at this;omega
    ·rw[if_neg fR];refine⟨_,_,_,_,rfl,hle,fun b hb=>Iff.rfl,fun b hb e=>?_,h2d,lU⟩;unfold ah at e;by_cases e4:b=v
     ·simp[e4] at e
     ·by_cases e5:b=d
      ·exact e5
      ·simp only[if_neg e4,if_neg e5] at e;exact absurd (B0.mT b hb e).1 fR
   obtain⟨jh,b3,f3,i3,lG,c1,c2,c3,c4,c5⟩:=key;refine⟨jh,true,d,S.l.length,(congrArg (fun x:KS=>{ x with fo:=true,fb:=d,fi:=S.l.length }) lG).trans rfl,c1,fun b hb=>?_,fun b hb e=>⟨rfl,(c3 b hb e).symm⟩,fun _=>c4,.inr ⟨rfl,rfl,hlen⟩,c5⟩;rw[c2 b hb];unfold ah;by_cases e4:b=v
   ·simp[e4]
   ·by_cases e5:b=d
    ·simp[e4,e5,jn]
    ·simp[e4,e5]
 have arO:=ma
 -- the cH
 have hP:∀q,(vZ K P v d).pg q=if q/8=v then .blank else gv K P d (bY K.ow v) q:=fun q=>by
  unfold vZ;rw[alo];show(if q/8=v then Pg.blank else S.P.pg q)=_;rw[bA,ecp]
 have hPc:(vZ K P v d).calm:=by
  unfold vZ;rw[alo];exact CS.xR abr v
 have yZ:∀i,i<(bY K.ow v).length->(bY K.ow v).getD i 0∈bY K.ow v:=fun i hi=>by
  rw[bH hi];exact List.getElem_mem hi
 have lV:∀o,o<25->(K.at_ o=0\/(K.at_ o-1)/8≠v)->MA o=K.at_ o/\ME o=K.en o:=fun o ho hx=>anI o (fun j hj e=>by
  have h3:=jm _ (yZ j hj);rw[e] at h3;rcases hx with h|h
  ·exact h3.2.1 h
  ·exact h h3.2.2)
 have alp:∀o,o<25->K.at_ o≠0->(K.at_ o-1)/8=v->∃i,i<(bY K.ow v).length/\(bY K.ow v).getD i 0=o:=fun o ho h1 h2=>by
  obtain⟨i,hi,e⟩:=List.getElem_of_mem ((jx IL.eZ hv).2 ⟨ho,h1,h2⟩);exact⟨i,hi,by rw[bH hi];exact e⟩
 have anJ:∀i,i<(bY K.ow v).length->∃o t0 D,(bY K.ow v).getD i 0=o/\o<25/\K.at_ o≠0/\(K.at_ o-1)/8=v/\P.pg (K.at_ o-1)=.full t0 D/\K.en o=⟨t0.seq,t0.copy,false⟩/\(t0.of≠24->i<=5)/\(vZ K P v d).pg (d*8+i)=.full ⟨((d*8+i:Nat):Int),t0.of,t0.seq,(t0.copy+1)%256,t0.lost⟩ D/\t0.lost=false:=fun i hi=>by
  have hm:=jm _ (yZ i hi);have hh:=(zm i hi).2;rw[<-bH hi (x:=0)] at hh;have hP2:=hP (d*8+i);rw[if_neg (by omega)] at hP2;unfold gv at hP2;rw[if_pos ⟨by omega,by omega⟩,show(d*8+i)%8=i by omega] at hP2;generalize (bY K.ow v).getD i 0=o at *;obtain⟨a1,t0,D0,a2,a3,a4,a5,a6,a7,a8⟩:=IL.cI hm.1 hm.2.1;refine⟨o,t0,D0,rfl,hm.1,hm.2.1,hm.2.2,a2,a3,fun hn=>?_,?_,a7⟩
  ·unfold aR at hh;rw[a4] at hn;simp at hh;omega
  ·rw[hP2];unfold aS bm;rw[a2,a3,a4,a7];simp only;rw[a8]
 have M:AH P (vZ K P v d) K.at_ MA v:=by
  refine⟨fun q t D hq e=>?_,fun o ho h1 h2=>?_,fun o ho h1=>?_,fun o ho h1 h2=>?_⟩
  ·rw[hP] at e;by_cases hqv:q/8=v
   ·rw[if_pos hqv] at e
    cases e
   ·rw[if_neg hqv] at e;by_cases hc:q/8=d/\q%8<(bY K.ow v).length
    ·obtain⟨o,t0,D0,c1,c2,c3,c4,c5,c6,c7,c8,c9⟩:=anJ _ hc.2;have wS:d*8+q%8=q:=by omega
     rw[wS,hP,if_neg hqv] at c8;rw[c8] at e;injection e with e1 e2;subst e2;refine .inr ⟨fun hn=>?_,o,c2,c3,c4,?_,t0,c5,e1.symm⟩
     ·rw[<-e1] at hn;have:=c7 hn;omega
     ·have:=(wC _ hc.2).1;rw[c1] at this;omega
    ·unfold gv at e;rw[if_neg hc] at e;exact .inl ⟨e,hqv⟩
  ·refine⟨(lV o ho (.inr h2)).1,?_⟩;rw[hP,if_neg h2,fp (fU o ho h1)]
  ·rw[(lV o ho (.inl h1)).1];exact h1
  ·obtain⟨i,hi,e⟩:=alp o ho h1 h2;obtain⟨o',t0,D0,c1,c2,c3,c4,c5,c6,c7,c8,c9⟩:=anJ i hi;rw[e] at c1;subst c1;have h3:=(wC i hi).1;rw[e] at h3;rw[h3];exact⟨by omega,by omega,_,D0,c8,t0,c5,rfl⟩
 have afO:∀b i,b<12->rU b=0->i<8->(vZ K P v d).pg (b*8+i)=.blank:=fun b i hb e hi=>by
  rw[hP];by_cases h1:(b*8+i)/8=v
  ·rw[if_pos h1]
  ·rw[if_neg h1];rcases(bb b hb).1 e with h2|⟨h2,h3⟩
   ·exact absurd (by omega) h1
   ·rw[fp (by omega)];exact B0.bl b i hb h2 hi
 have hL:∀o,o<25->K.at_ o≠0->K.at_ o-1<96:=fun o ho e=>(IL.ok.cG.yes o ho e).1;have iP:5<=au (lv MA) 0:=by
  refine zK (st:=rU) (fun b hb e=>fw.2 fun o ho e1 e2=>?_) (by rw[bf];have:=S0.cnt;show 5<=au jD 0;rw[show au jD 0=au K.st 0 from this];exact hr);have e3:K.at_ o≠0:=fun x=>e1 (M.none o ho x);obtain⟨_,t0,D0,a2,_⟩:=IL.cI ho e3;obtain⟨t,ht,_⟩:=M.cI ho e3 a2;have:=afO b ((MA o-1)%8) hb e (Nat.mod_lt _ (by omega));rw[show b*8+(MA o-1)%8=MA o-1 by omega,ht] at this
  cases this
 have mi:=M.aq2 IL.ok IL.uq IL.eZ.inj hPc iP;have huq:=M.uniq hL IL.eZ.inj IL.uq;have mE:∀p t D,p<96->(vZ K P v d).pg p=.full t D->t.seq<K.next:=fun p t D hp e=>by
  obtain⟨p1,t1,b1,c1,d1,g1,f1⟩:=M.old hL hp e;rw[<-d1];exact IL.next.1 p1 t1 D b1 c1
 have hen:∀o,o<25->MA o≠0->∃t D,(vZ K P v d).pg (MA o-1)=.full t D/\ME o=⟨t.seq,t.copy,false⟩:=fun o ho e1=>by
  have e3:K.at_ o≠0:=fun x=>e1 (M.none o ho x);by_cases e4:(K.at_ o-1)/8=v
  ·obtain⟨i,hi,e⟩:=alp o ho e3 e4;obtain⟨o',t0,D0,c1,c2,c3,c4,c5,c6,c7,c8,c9⟩:=anJ i hi;rw[e] at c1;subst c1;obtain⟨h3,h4⟩:=wC i hi;rw[e] at h3 h4;rw[h3,h4,Nat.add_sub_cancel];exact⟨_,D0,c8,by rw[c6]⟩
  ·obtain⟨h3,h4⟩:=M.stay o ho e3 e4;obtain⟨t,D,a1,a2⟩:=IL.en o ho e3;rw[h3,h4,(lV o ho (.inr e4)).2];exact⟨t,D,a1,a2⟩
 have hVH:Bt K P v d:=by
  refine⟨?_,?_,IB.fb,IB.fi,?_,hCp,fun i hi=>?_⟩
  ·rw[e0];exact lF (fun b hb=>by have:=B0.st b hb;simp only at this;show jD b≠3;omega)
  ·rw[e0];exact B0.pn
  ·rw[e0];exact kM
  ·rw[alo] at hi ⊢;exact(uY H i (by omega)).1.mw
 have aq4:Hl.HB (Hl.ux F v):=fun b hb=>by
  have h1:=hFB b hb;unfold Hl.ux Hl.nU;refine⟨?_,?_,?_⟩
  ·rw[if_neg (by omega)];split
   ·omega
   ·exact h1.1
  ·rw[if_neg (by omega),if_neg (by omega)];exact h1.2.1
  ·split
   ·omega
   ·rw[if_neg (by omega)];exact h1.2.2
 refine⟨d,hVH,?_,?_,?_,?_,fun T hT=>⟨(hTr T hT).1,fun a hs=>hs.same (fun o ho e=>(hTr T hT).2 _ (fU o ho e))⟩,?_,?_,fun o ho e=>?_,fun o ho e=>?_,?_,?_⟩
 ·rw[ma];exact⟨mi,huq,hen,IL.fl,⟨mE,IL.next.2⟩,iB⟩
 ·rw[ma];refine⟨ba,bc,bd,afO,fun e i h1 h2=>?_,?_,?_,by show d+1<=12;omega⟩
  ·have h1:fi'<=i:=h1;have e:fo'=true:=e;show(vZ K P v d).pg (fb'*8+i)=.blank;rw[hP];rcases be with⟨g1,g2,g3,g4⟩|⟨g1,g2,g3⟩
   ·have hfd:jD v7=1:=B0.fst g4;have e1:v7≠d:=fun e=>by rw[e,aln] at hfd;omega
    have e2:v7≠v:=fun e=>by rw[e,aiB] at hfd;omega
    rw[g2,if_neg (by omega),fp (by omega)];exact B0.fr g4 i (by show fi0<=i;omega) h2
   ·rw[g2,if_neg (by omega)];unfold gv;rw[if_neg (by omega)];exact na i h2
  ·rcases be with⟨g1,g2,g3,g4⟩|⟨g1,g2,g3⟩
   ·show fb'<12;rw[g2];exact B0.fb
   ·show fb'<12;omega
  ·rcases be with⟨g1,g2,g3,g4⟩|⟨g1,g2,g3⟩
   ·show fi'<=8;rw[g3];exact B0.fi
   ·show fi'<=8;omega
 ·rw[ma];refine⟨aq4,fun b hb=>?_,IH.cur⟩;show Hl.ux F v (12+b)=0;unfold Hl.ux Hl.nU;rw[if_neg (by omega),if_neg (by omega)];exact hF2 b hb
 ·rw[ma];have:=S0.cnt;exact bf.trans this
 ·intro a hs;rw[ma];exact M.api IL.ok.cG hs
 ·exact⟨rU,fo',fb',fi',d+1,MA,MO,ME,Hl.ux F v,MM,ma⟩
 ·rw[ma];by_cases e4:(K.at_ o-1)/8=v
  ·obtain⟨i,hi,eo⟩:=alp o ho e e4;obtain⟨h3,h4⟩:=wC i hi;rw[eo] at h3 h4;exact⟨by show MA o≠0;omega,by show(ME o).seq=_;rw[h4]⟩
  ·obtain⟨h3,h4⟩:=lV o ho (.inr e4);exact⟨by show MA o≠0;rw[h3];exact e,by show(ME o).seq=_;rw[h4]⟩
 ·rw[ma];show MA o=0;rw[(lV o ho (.inl e)).1];exact e
 ·intro fR sO of jK;have aq5:fo0=false:=by
   rcases S0.fr with h|h
   ·have:fo0=K.fo:=h.1;rw[this];exact fR
   ·exact h
  rw[ma];rcases be with⟨g1,g2,g3,g4⟩|⟨g1,g2,g3⟩
  ·rw[aq5] at g4
   cases g4
  ·have hl:=aep IL.eZ hv;show aF fo' fi' of=true;rw[g1,g3];unfold aF aR;simp;omega
 ·rw[ma];refine⟨by rw[e0];exact bb,rfl,by rw[e0];exact be.imp (fun h=>h) (fun h=>h),fun o ho e h=>(lV o ho (.inr h)).1,fun o ho e h=>?_,jn,by rw[e0];exact vT,by rw[e0];exact sn⟩;obtain⟨i,hi,eo⟩:=alp o ho e h;obtain⟨h3,h4⟩:=wC i hi;rw[eo] at h3;have h3:MA o=d*8+i+1:=h3;show MA o≠0/\(MA o-1)/8=d;omega
structure B5(w0 w:World)(Y:Option Addr)(n e:Nat)(f:Nat->Nat):Prop where
 ly:Ly w 5 1 Y n e (fun j=>.int .u8 (f j:Nat))
 new:∀x,x∈aK Y->w0.heap.size<=x
theorem ada(w:World)(x:Operand)(a:Addr)(n c:Nat):(do eqGuard .eql 37 x (.const (.slice none 0 0)) (.slice (some a) n c) (.slice none 0 0);binOp .eql 37 (.slice (some a) n c) (.slice none 0 0):Sem Value).run Tryz.prog w=.ok (.bool false) w:=by kernel_rfl
theorem aiC(w:World):(Instr.buildSlice 37 0 #[]).run Tryz.prog w=.ok (.slice (some ⟨w.heap.size,0,none⟩) 0 0) (w.alloc (.cells #[] 5)):=by kernel_rfl
theorem xZ(a:Addr)(n c:Nat)(f:Nat->Nat)(w:World)(r:Rd w (some a) n (fun j=>.int .u8 (f j:Nat)))(hc:n<=c)(hn:n*8<=140737488355328) :
  Spec Tryz.prog 71 #[.slice (some a) n c] w fun v w'=>∃Y e,v=.slice Y n e/\B5 w w' Y n e f/\Aa [] w w':=by
 obtain⟨i0,hi,lZ,lR,l4⟩:=info_parts dR;refine spec_of_wpE (T:=tt) ai func71 rfl (by decide +kernel) ntmps71 (by simp) ?_;conv=>whnf
 repeat (refine CW.s ?_;conv=>whnf)
 refine Ru.of (ada w _ a n c) ?_;conv=>whnf
 repeat (refine Br.f ?_;conv=>whnf)
 refine Ru.of (aiC w) ?_;have l0:Ly (w.alloc (.cells #[] 5)) 5 1 (some ⟨w.heap.size,0,none⟩) 0 0 (fun j=>.int .u8 (f j:Nat)):=Ly.oG (heap_alloc_new w _) (Nat.le_refl _) (by simp) (by simp[maxLen]) (fun j hj=>by omega);have k0:Aa [] w (w.alloc (.cells #[] 5)):=(Aa.refl _ _).alloc _;conv=>whnf
 refine Bu.append underlying37 hi lZ lR l4 rfl (by omega) l0 _ (by rw[Nat.mul_one];exact r.aj k0) hc (fun e=>by cases e) (fun j hj=>rfl) (by simp only[maxLen];omega) (by omega) ?_;intro Y e w' hy hk da gZ;have gN:∀x,x∈aK Y->w.heap.size<=x:=fun x hx=>by
  rcases da with h|h
  ·rw[h] at hx;rw[List.mem_singleton.1 hx];exact Nat.le_refl _
  ·rw[h] at hx;rw[List.mem_singleton.1 hx];exact k0.size
 have hkw:Aa [] w w':=k0.then hk (fun x hx=>.inr (by rw[List.mem_singleton.1 hx];exact Nat.le_refl _));rw[Nat.zero_add] at *;conv=>whnf
 exact⟨rfl,Y,e,rfl,⟨hy.congr (fun j hj=>by simp),gN⟩,hkw⟩
theorem ya(w:World):(Instr.makeSlice 37 (.int .i64 160) (.int .i64 160)).run Tryz.prog w=.ok (.slice (some ⟨w.heap.size,0,none⟩) 160 160) (w.alloc (.cells (madeCells #[.int .u8 0] 160) 5)):=by kernel_rfl
section
variable{w w':World}{N:Cr}{K:KS}{X:Option Addr}{c:Nat}{P:CS}{b:Option Nat}{n:Int}
theorem uZ(h:On w N K P b n X c){p:Nat}(hp:p<96)(hl:K.ow p<=25){R:AR}{dv:Value}(hq:K.ow p=0\/R.sound=true/\R.iU<2) :
  Spec Tryz.prog 70 #[.pointer (some ⟨N.k,0,none⟩),.int .i64 p,agg 9 (rR R.tagged R.tag R.sound dv (R.iU:Nat))] w fun v w'=>v=.tuple #[]/\Aa [] w w':=by
 refine spec_of_wpE (T:=tt) ai func70 rfl (by decide +kernel) ntmps70 (by simp) ?_;conv=>whnf
 refine Ru.dr ?_;intro x5 w1 hx5 dj r5 k1;have h1:=h.aj k1;conv=>whnf
 repeat ((first|(refine Ld.of h1.core.c2 ?_)|refine CW.s ?_);conv=>whnf)
 refine Ca.of (xF h1.core.map p hp hl) ?_;rintro _ _ ⟨rfl,rfl⟩;by_cases h0:K.ow p=0
 ·rw[if_pos h0];conv=>whnf
  repeat ((first|refine Br.t ?_|refine Pk.t ?_|refine Ru.n1 ?_);conv=>whnf)
  exact⟨rfl,rfl,k1⟩
 ·rw[if_neg h0];obtain⟨hs,hd⟩:=hq.resolve_left h0;have p6:w1.cell? ⟨x5,6,none⟩=some (.bool R.sound):=r5.cell 6 (by omega);have p8:w1.cell? ⟨x5,8,none⟩=some (.int .i64 (R.iU:Nat)):=r5.cell 8 (by omega);rw[hs] at p6;conv=>whnf
  repeat ((first|(refine Ld.at (by omega) p6 ?_)|(refine Ld.at (by omega) p8 ?_)|refine Br.t ?_|refine Br.f ?_|refine Pk.f ?_|refine Pk.t ?_|refine Br.y ?_|refine Ru.ak ?_);conv=>whnf)
  exact⟨rfl,rfl,k1⟩
theorem qT(h:On w N K P b n X c){o:Nat}(ho:o<24)(h0:K.at_ o=0) :
  Spec Tryz.prog 46 #[.pointer (some ⟨N.k,0,none⟩),.int .i64 o] w fun v w'=>∃Y e,v=.tuple #[.slice Y 160 e,al 0]/\B5 w w' Y 160 e (fun _=>0)/\Aa [] w w':=by
 refine spec_of_wpE (T:=tt) ai func46 rfl (by decide +kernel) ntmps46 (by simp) ?_;conv=>whnf
 repeat ((first|(refine Ld.of h.core.c2 ?_)|refine Br.f ?_|refine Pk.f ?_|refine Br.n ?_|refine CW.s ?_);conv=>whnf)
 refine Ca.of (iW h.core.map o (by omega) (by omega)) ?_;rintro _ _ ⟨rfl,rfl⟩;rw[if_pos h0];conv=>whnf
 repeat ((first|refine Br.t ?_|refine Ru.n1 ?_|refine CW.s ?_);conv=>whnf)
 refine Ru.of (ya w) ?_;have ry:=Row.made w 5 (.int .u8 0) 160;have k1:Aa [] w (w.alloc (.cells (madeCells #[.int .u8 0] 160) 5)):=(Aa.refl _ _).alloc _;generalize w.alloc _=w1 at *;conv=>whnf
 exact⟨rfl,_,_,rfl,⟨(Ly.dq ry (by omega) (by omega) (by simp[maxLen])),fun x hx=>by rw[List.mem_singleton.1 hx];exact Nat.le_refl _⟩,k1⟩
theorem alq(h:On w N K P b n X c)(B:Hl.HB K.F){o:Nat}(ho:o<24)(h0:K.at_ o≠0)(h96:K.at_ o<=96)(hl:K.ow (K.at_ o-1)<=25){t:Tg}{D:Nat->Nat}(hp:P.pg (K.at_ o-1)=.full t D)(wF:t.of=o)(hen:K.en o=⟨t.seq,t.copy,false⟩)(hdm:P.dm (K.at_ o-1)<2) :
  Spec Tryz.prog 46 #[.pointer (some ⟨N.k,0,none⟩),.int .i64 o] w fun v w'=>∃Y e,v=.tuple #[.slice Y 160 e,al 0]/\B5 w w' Y 160 e D/\On w' N (pT K (K.at_ o-1)) (P.bC (K.at_ o-1)) b (jI (n+1)) X c/\Aa N.all w w':=by
 refine spec_of_wpE (T:=tt) ai func46 rfl (by decide +kernel) ntmps46 (by simp) ?_;conv=>whnf
 repeat ((first|(refine Ld.of h.core.c2 ?_)|refine Br.f ?_|refine Pk.f ?_|refine Br.n ?_|refine CW.s ?_);conv=>whnf)
 refine Ca.of (iW h.core.map o (by omega) (by omega)) ?_;rintro _ _ ⟨rfl,rfl⟩;rw[if_neg h0];have ee:∀j,j<3->bZ N K X c (7+3*o+j)=(⟨t.seq,t.copy,false⟩:En).cell j:=fun j hj=>by rw[iL (by omega) hj,hen]
 have mb:K.at_ o-1<96:=by omega
 generalize K.at_ o-1=p at *;conv=>whnf
 repeat ((first|(refine Ix.of o (by omega) (by omega) ?_)|refine Br.f ?_|refine Ru.ak ?_|refine CW.s ?_);conv=>whnf)
 rw[show 0+7+o*3=7+3*o by omega];refine Ru.cx (q:=(⟨t.seq,t.copy,false⟩:En).cell) h.core.row underlying140 rfl dK (by omega) (fun j hj=>ee j hj) ?_;conv=>whnf
 refine Ru.aE (ks w) ?_;intro x8 w1 hx8 dj r8 k1;conv=>whnf
 refine Ru.im r8 dK (by omega) (fun j hj=>En.bj _) ?_;intro w2 r82 k2;have r82:Row w2 x8 140 3 (⟨t.seq,t.copy,false⟩:En).cell:=r82.congr (fun j hj=>by unfold lay;rw[if_pos (by omega),Nat.sub_zero]);have q2:Aa [] w w2:=k1.then k2 (fun x hx=>.inr (by rw[List.mem_singleton.1 hx,hx8];exact Nat.le_refl _));have h2:=h.aj q2;have s0:w2.cell? ⟨x8,0,none⟩=some (.int .i64 t.seq):=r82.cell 0 (by omega);have s2:w2.cell? ⟨x8,2,none⟩=some (.bool false):=r82.cell 2 (by omega);clear k1 r8 k2 dj w1;conv=>whnf
 repeat ((first|(refine Ld.at (by omega) s2 ?_)|refine Br.f ?_|refine CW.s ?_);conv=>whnf)
 refine Ca.of (kj h2 B mb) ?_;rintro _ w3 ⟨R,dv,hR,jn,rfl,h3,k3⟩;unfold AA at hR;rw[hp] at hR;obtain⟨hR1,rfl,hR3,hR4,hR5⟩:=hR;have bW:x8∉N.all:=fun hm=>by
  have h4:x8<w.heap.size:=by
   rcases List.mem_append.1 hm with hm|hm
   ·exact h.core.lt (List.mem_append_left _ hm)
   ·exact h.gn _ hm
  omega
 have r83:=r82.ab k3 bW;have bG:=(Aa.eh (N:=N) q2).trans k3;have gg:=k3.size;have gO:=q2.size;conv=>whnf
 refine Ru.aE (cr w3) ?_;intro x9 w4 hx9 qB r9 k4;conv=>whnf
 refine Ru.eW r9 (iZ R jn _) ?_;intro w5 sX k5;have q5:Aa [] w3 w5:=k4.then k5 (fun x hx=>.inr (by rw[List.mem_singleton.1 hx,hx9];exact Nat.le_refl _));have h5:=h3.aj q5;have r85:=r83.ab q5 (by simp);have dL:=bG.trans (Aa.eh (N:=N) q5);have aiD:=jn.ab q5 (by simp);clear k4 k5 q5 h3 r83 r9 qB w4;conv=>whnf
 repeat ((first|refine Br.f ?_|refine Ru.ak ?_|refine CW.s ?_);conv=>whnf)
 refine Ru.ew sX ?_;refine Ca.of (uZ h5 mb hl (.inr ⟨hR3,by rw[hR5];exact hdm⟩)) ?_;rintro _ w6 ⟨rfl,k6⟩;have h6:=h5.aj k6;have r86:=r85.ab k6 (by simp);have r96:=sX.ab k6 (by simp);have anL:=aiD.ab k6 (by simp);have gG:=dL.trans (Aa.eh (N:=N) k6);rcases anL with⟨-,O,oc,rfl,hO,lyO⟩|⟨hs,-⟩
 case inr=>rw[hR3] at hs;cases hs
 have p1:w6.cell? ⟨x9,2,none⟩=some (.int .i64 R.tag.of):=r96.cell 2 (by omega);have p2:w6.cell? ⟨x9,3,none⟩=some (.int .i64 R.tag.seq):=r96.cell 3 (by omega);have p3:w6.cell? ⟨x9,6,none⟩=some (.bool R.sound):=r96.cell 6 (by omega);have p4:w6.cell? ⟨x9,7,none⟩=some (.slice O 174 oc):=r96.cell 7 (by omega);have s0:w6.cell? ⟨x8,0,none⟩=some (.int .i64 R.tag.seq):=r86.cell 0 (by omega);rw[wF] at p1;rw[hR3] at p3;conv=>whnf
 repeat ((first|(refine Ld.at (by omega) p4 ?_)|(refine Ld.at (by omega) p1 ?_)|(refine Ld.at (by omega) p2 ?_)|(refine Ld.at (by omega) p3 ?_)|(refine Ld.at (by omega) s0 ?_)|refine Br.f ?_|refine Pk.f ?_|refine Br.ny ?_|refine CW.s ?_);conv=>whnf)
 have zD:=lyO.rd;rw[Nat.mul_one] at zD;obtain⟨g,oo,rfl,hc⟩:=zD (by omega);have uK:174<=oc:=lyO.1;have anM:Rd w6 (some ⟨g,oo,none⟩) 160 (fun j=>.int .u8 (D j:Nat)):=fun _=>⟨g,oo,rfl,fun j hj=>by
  rw[hc j (by omega), <-hR4];unfold cm;simp only[if_pos (show j<174 by omega)]⟩
 refine Ru.ae6 underlying37 (by kernel_rfl) (h:=160) (by omega) ?_;conv=>whnf
 refine Ca.of (xZ ⟨g,oo,none⟩ 160 oc D w6 anM (by omega) (by omega)) ?_;rintro _ w7 ⟨Y,e,rfl,hY,k7⟩;conv=>whnf
 exact⟨rfl,Y,e,rfl,⟨hY.ly,fun x hx=>Nat.le_trans gG.size (hY.new x hx)⟩,h6.aj k7,gG.trans (Aa.eh (N:=N) k7)⟩
end
def ptK(K:KS):KS:={ K with cur:=(K.cur+8)%96,calls:=jI (K.calls+1) }
def iC(K:KS):Nat->KS
 |0=>ptK K
 |i+1=>pT (iC K i) ((K.cur+i)%96)
def qU(K:KS)(P:CS):Nat->CS
 |0=>P
 |i+1=>(qU K P i).bC ((K.cur+i)%96)
theorem u1(K:KS)(i:Nat):iC K (i+1)=pT (iC K i) ((K.cur+i)%96):=rfl
theorem u2(K:KS)(P:CS)(i:Nat):qU K P (i+1)=(qU K P i).bC ((K.cur+i)%96):=rfl
theorem aiE(K:KS):iC K 0=ptK K:=rfl
theorem aiF(K:KS)(P:CS):qU K P 0=P:=rfl
theorem ku(K:KS):∀i,uP (ptK K) (iC K i)
 |0=>⟨K.F,rfl⟩
 | i+1=>by
  obtain⟨F,h⟩:=ku K i;show ∃F,pT (iC K i) _=_;rw[h];exact⟨_,rfl⟩
theorem adb{K:KS}(h:Hl.HB K.F):∀i,Hl.HB (iC K i).F
 |0=>h
 |i+1=>(adb h i).rd (by omega)
theorem u3(K:KS)(P:CS):∀i,(qU K P i).pg=P.pg/\(qU K P i).dm=P.dm
 |0=>⟨rfl,rfl⟩
 |i+1=>u3 K P i
def Cm(K:KS)(P:CS):Prop:=∀p,p<96->K.ow p<=25/\(K.ow p≠0->∃t D,P.pg p=.full t D/\P.dm p<2)
def cE(K:KS)(q:List Nat):Nat->List Nat
 |0=>q
 |b+1=>if 512<=K.F b/\0<lv K.at_ b then sx (cE K q b) b else cE K q b
theorem abt(K:KS)(q:List Nat):cE K q 0=q:=rfl
theorem jy(K:KS)(q:List Nat)(b:Nat):cE K q (b+1)=if 512<=K.F b/\0<lv K.at_ b then sx (cE K q b) b else cE K q b:=rfl
theorem lH(K:KS):∀b,(cE K [] b).length<=b
 |0=>Nat.le_refl _
 | b+1=>by
  have:=lH K b;unfold cE sx;split
  ·split
   ·omega
   ·simp;omega
  ·omega
section
variable{w w':World}{N:Cr}{K:KS}{X:Option Addr}{c:Nat}{P:CS}{b:Option Nat}{n:Int}
theorem On.u4(h:On w N K P b n X c):BX w N.k 143 110 6 (bZ N K X c) X c K.qu:=⟨h.core.row,rfl,h.core.qu⟩
theorem aiG{q:List Nat}{Y:Option Addr}{d:Nat}(j:Nat):put (bZ N K X c) 6 (.slice Y q.length d) j=bZ N { K with qu:=q } Y d j:=by
 unfold put;by_cases h:j=6
 ·subst h;rfl
 ·rw[if_neg h];unfold bZ;simp only[if_neg h]
theorem On.queue(h:On w N K P b n X c){q:List Nat}(H:Bl w N.k 143 110 6 (bZ N K X c) X q w'):∃Y d,On w' N { K with qu:=q } P b n Y d/\Aa (N.k::aK X) w w'/\∀x,x∈aK Y->x∈aK X\/w.heap.size<=x:=by
 obtain⟨Y,d,⟨r,_,ly⟩,k,hY⟩:=H;have dn:=h.core.ne;obtain⟨C,M,q'⟩:=h.o9;have ap:=fun x hx=>oT h.core M (x:=x) hx;have a0:=ap N.k (by simp[Cr.own]);have aX:=fun x hx=>ap x (List.mem_append_right _ hx);refine⟨Y,d,⟨⟨r.congr (fun j _=>aiG j),?_,?_,?_,?_,?_,ly⟩,C,M.ab k ?_ ?_ ?_ ?_ ?_ ?_,q'⟩,k,hY⟩
 ·exact Row.ab h.core.aV k (by simp[dn.kp.symm,dn.pX])
 ·exact Row.ab h.core.map k (by simp[dn.ka.symm,dn.aX])
 ·exact Row.ab h.core.front k (by simp[dn.kr.symm,dn.rX])
 ·exact Row.ab h.core.aH k (by simp[dn.ke.symm,dn.eX])
 ·exact Row.ab h.core.pat k (by simp[dn.kq.symm,dn.qX])
 ·exact fun hm=>by rcases List.mem_cons.1 hm with e|hm;exact a0.1 e;exact(aX _ hm).1 rfl
 ·exact fun hm=>by rcases List.mem_cons.1 hm with e|hm;exact a0.2.1 e;exact(aX _ hm).2.1 rfl
 ·exact fun hm=>by rcases List.mem_cons.1 hm with e|hm;exact a0.2.2.1 e;exact(aX _ hm).2.2.1 rfl
 ·exact fun hm=>by rcases List.mem_cons.1 hm with e|hm;exact a0.2.2.2.1 e;exact(aX _ hm).2.2.2.1 rfl
 ·exact fun hm=>by rcases List.mem_cons.1 hm with e|hm;exact a0.2.2.2.2.1 e;exact(aX _ hm).2.2.2.2.1 rfl
 ·exact fun hm=>by rcases List.mem_cons.1 hm with e|hm;exact a0.2.2.2.2.2 e;exact(aX _ hm).2.2.2.2.2 rfl
end
end
section
open Go.RowKit
attribute [local irreducible] iC qU cE lv
def dC(K:KS)(t:List Nat):KS:={ K with qu:=t }
theorem aiH{K:KS}(h:K.qu=[]):dC K []=K:=by
 cases K
 simp only at h;subst h;rfl
def mdK(K:KS)(x:Nat):KS:={ K with fu:=jI (K.fu+1),kh:=jI (K.kh+x) }
inductive AT:KS->CS->KS->CS->List CS->Prop
 |done {K:KS} {P:CS}:K.qu=[]->AT K P K P []
 |skip {K:KS} {P:CS} {v:Nat} {t:List Nat} {K':KS} {P':CS} {tr:List CS}:K.qu=v::t->v<12->t.length<=12->(∀o,o<25->K.at_ o<=96)->lv K.at_ v=0->AT (dC K t) P K' P' tr->AT K P K' P' tr
 | move {K:KS} {P:CS} {v d:Nat} {t:List Nat} {K':KS} {P':CS} {tr:List CS}:K.qu=v::t->v<12->t.length<=12->(∀o,o<25->K.at_ o<=96)->lv K.at_ v≠0->ax K.st=false->K.F (12+v)<3->Bt (dC K t) P v d->(nX (dC K t) P v d).qu=t ->
   AT (mdK (nX (dC K t) P v d) (lv K.at_ v)) (vZ (dC K t) P v d) K' P' tr->AT K P K' P' (vcT (dC K t) P v d++tr)
def tqK(K:KS):KS:=dC (iC K 8) (cE (iC K 8) [] 12)
inductive Aw (K:KS) (P:CS):KS->CS->List CS->Prop
 |quiet {K1:KS} {P1:CS} {t1:List CS}:AT (tqK K) (qU K P 8) K1 P1 t1->ax K1.st=false->Hl.HB K1.F->K1.calls<8->Hl.lz K1.F=false->Aw K P K1 P1 t1
 | note {K1:KS} {P1:CS} {t1:List CS} {K2:KS} {P2:CS} {t2:List CS}:AT (tqK K) (qU K P 8) K1 P1 t1->ax K1.st=false->Hl.HB K1.F->(8<=K1.calls\/Hl.lz K1.F=true)->AQ 24 aW K1 P1 K2 P2 t2->(iA (bJ K2) K2.next (-1)).told ->
   Aw K P (cB K2 24) (jw K2 P2 24 aW) (t1++zH K2 P2 t2)
section
variable{w w':World}{N:Cr}{K:KS}{X:Option Addr}{c:Nat}{P:CS}{b:Option Nat}{n:Int}
theorem abu(x y:Int)(j:Nat)(hj:j<110):put (put (bZ N K X c) 107 (.int .i64 x)) 108 (.int .i64 y) j=bZ N { K with fu:=x,kh:=y } X c j:=by
 unfold put;by_cases h:j=108
 ·subst h;rfl
 ·rw[if_neg h];by_cases h7:j=107
  ·subst h7;rfl
  ·rw[if_neg h7];unfold bZ;simp only;by_cases h1:j<106
   ·have e6:¬j=106:=by omega
    simp only[e6,h,h7,if_false,h1,if_true]
   ·have:j=106\/j=109:=by omega
    rcases this with rfl|rfl<;>rfl
theorem alr(h:On w N K P b n X c)(hq:K.qu=[])(B:Hl.HB K.F)(hc:K.cur<96)(ha:∀o,o<25->K.at_ o<=96)(hf:Cm K P){K':KS}{P':CS}{tr:List CS}(H:Aw K P K' P' tr) :
  Spec Tryz.prog 61 #[.pointer (some ⟨N.k,0,none⟩)] w fun u w'=>Ends N X K' P' b tr w w' (u=al 0) (u=al 7):=by
 have bW:∀x,w.heap.size<=x->x∉N.all:=fun x hx hm=>by
  have h3:x<w.heap.size:=by
   rcases List.mem_append.1 hm with hm|hm
   ·exact h.core.lt (List.mem_append_left _ hm)
   ·exact h.gn _ hm
  omega
 refine spec_of_wpE (T:=tt) ai func61 rfl (by decide +kernel) ntmps61 (by simp) ?_;conv=>whnf
 repeat ((first|(refine Ld.of h.core.c5 ?_)|refine CW.s ?_);conv=>whnf)
 refine Ca.of (abd h.core.pat hc) ?_;rintro _ w1 ⟨g,rfl,rg,hg,rp,k1⟩;have h1:On w1 N (iC K 0) (qU K P 0) b n X c:=by
  rw[aiE,aiF];exact h.pat k1 rp
 have kk1:Aa N.all w w1:=Aa.jl (by simp[Cr.own]) k1;conv=>whnf
 refine CW.loop (ι:=Nat×Int) (fun i w'=>i.1<=8/\On w' N (iC K i.1) (qU K P i.1) b i.2 X c/\Row w' g 3 8 (fun j=>.int .i64 (((K.cur+j)%96:Nat):Int))/\Aa N.all w w')
  (fun i=>[(0,.pointer (some ⟨N.k,0,none⟩)),(22,.slice (some ⟨g,0,none⟩) 8 8),(23,.int .i64 8),(24,.int .i64 i.1)]) (fun i=>8-i.1) (0,n) ai ⟨by omega,h1,rg,kk1⟩ ⟨rfl,rfl,rfl,rfl,trivial⟩ ?_;clear h1 rg rp k1 kk1;rintro⟨i,n1⟩ wr ⟨hi,hr,rg,kk⟩;simp only at hi hr rg kk ⊢;by_cases av:i<8
 ·obtain⟨F,fm⟩:=ku K i;have hB:=adb B i;have bA:=u3 K P i;have eow:(iC K i).ow=K.ow:=by rw[fm];rfl
  have hp:(K.cur+i)%96<96:=Nat.mod_lt _ (by omega);obtain⟨f1,f2⟩:=hf _ hp;have ci:=rg.cell i av;conv=>whnf
  repeat ((first|(refine Ld.at (by omega) ci ?_)|refine Ix.n ?_|refine Br.y ?_|refine CW.s ?_);conv=>whnf)
  refine Ca.of (kj hr hB hp) ?_;rintro _ w3 ⟨R,dv,hR,jn,rfl,h3,k3⟩;have rg3:=rg.ab k3 (bW g hg);have bG:=kk.trans k3;conv=>whnf
  refine Ru.aE (cr w3) ?_;intro x9 w4 hx9 qB r9 k4;conv=>whnf
  refine Ru.eW r9 (iZ R jn _) ?_;intro w5 sX k5;have q5:Aa [] w3 w5:=k4.then k5 (fun x hx=>.inr (by rw[List.mem_singleton.1 hx,hx9];exact Nat.le_refl _));have h5:=h3.aj q5;have rg5:=rg3.ab q5 (by simp);have dL:=bG.trans (Aa.eh (N:=N) q5);clear k4 k5 q5 h3 rg3 r9 qB w4;conv=>whnf
  repeat ((first|refine Br.f ?_|refine Ru.ak ?_|refine CW.s ?_);conv=>whnf)
  refine Ru.ew sX ?_
  refine Ca.of (uZ h5 hp (by show(iC K i).ow _<=25;rw[eow];exact f1) (by
   show(iC K i).ow _=0\/_;rw[eow];by_cases h0:K.ow ((K.cur+i)%96)=0
   ·exact .inl h0
   ·obtain⟨t,D,e,hd⟩:=f2 h0;unfold AA at hR;rw[bA.1,e] at hR;exact .inr ⟨hR.2.2.1,by rw[hR.2.2.2.2,bA.2];exact hd⟩)) ?_
  rintro _ w6 ⟨rfl,k6⟩;have h6:=h5.aj k6;rw[<-u1, <-u2] at h6;have rg6:=rg5.ab k6 (by simp);have gG:=dL.trans (Aa.eh (N:=N) k6);conv=>whnf
  repeat (refine Ar.la ?_;conv=>whnf)
  exact⟨(i+1,_),⟨av,h6,rg6,gG⟩,⟨rfl,rfl,rfl,vi (by simp only;omega),trivial⟩,by simp only;omega⟩
 obtain rfl:i=8:=by omega
 obtain⟨F8,fm⟩:=ku K 8;have hB:=adb B 8;have eat:(iC K 8).at_=K.at_:=by rw[fm];rfl
 have equ:(iC K 8).qu=[]:=by rw[fm];exact hq
 conv=>whnf
 repeat ((first|(refine Ld.of hr.core.c2 ?_)|refine Br.f ?_|refine CW.s ?_);conv=>whnf)
 refine Ca.of (fj hr.core.map (by rw[eat];exact ha)) ?_;rintro _ w2 ⟨g2,rfl,rg2,hg2,k2⟩;have h2:On w2 N (dC (iC K 8) (cE (iC K 8) [] 0)) (qU K P 8) b n1 X c:=by
  rw[abt,aiH equ];exact hr.aj k2
 have dh:Aa (N.all++aK X) w w2:=(kk.trans (Aa.eh (N:=N) k2)).mono (fun x hx=>List.mem_append_left _ hx);have aiI:w.heap.size<=g2:=Nat.le_trans kk.size hg2;have aiJ:g2∉aK X:=fun hm=>by
  have:=h.core.lt (List.mem_append_right _ hm);omega
 clear hr rg kk k2;conv=>whnf
 refine CW.loop (ι:=Nat×Option Addr×Nat) (fun i w'=>i.1<=12/\On w' N (dC (iC K 8) (cE (iC K 8) [] i.1)) (qU K P 8) b n1 i.2.1 i.2.2/\Row w' g2 3 12 (fun b=>.int .i64 (lv (iC K 8).at_ b:Nat))/\Aa (N.all++aK X) w w'/\g2∉aK i.2.1/\∀x,x∈aK i.2.1->x∈aK X\/w.heap.size<=x)
  (fun i=>[(0,.pointer (some ⟨N.k,0,none⟩)),(46,.slice (some ⟨g2,0,none⟩) 12 12),(47,.int .i64 12),(48,.int .i64 i.1)]) (fun i=>12-i.1) (0,X,c) ai ⟨by omega,h2,rg2,dh,aiJ,fun x hx=>.inl hx⟩ ⟨rfl,rfl,rfl,rfl,trivial⟩ ?_;clear h2 rg2 dh;rintro⟨i,X1,c1⟩ wr ⟨hi,hr,rg,kk,vU,wI⟩;simp only at hi hr rg kk vU wI ⊢;by_cases av:i<12
 ·have ci:=rg.cell i av;have hlen:=lH (iC K 8) i;have v8:=hr.u4;conv=>whnf
  repeat ((first|(refine Ld.at (by omega) ci ?_)|(refine Ld.of hr.core.c4 ?_)|refine Ix.n ?_|refine Br.y ?_|refine CW.s ?_);conv=>whnf)
  refine Ca.of (Hl.aa9 wr N.e _ hr.core.aH i av) ?_;rintro _ _ ⟨rfl,rfl⟩;have ht:(decide ((dC (iC K 8) (cE (iC K 8) [] i)).F i≥512))=decide (512<=(iC K 8).F i):=rfl;rw[ht];by_cases h1:512<=(iC K 8).F i
  ·have nR:decide (512<=(iC K 8).F i)=true:=decide_eq_true h1;rw[nR];by_cases h2:0<lv (iC K 8).at_ i
   ·have abv:cE (iC K 8) [] (i+1)=sx (cE (iC K 8) [] i) i:=by rw[jy,if_pos ⟨h1,h2⟩]
    conv=>whnf
    repeat ((first|refine Br.t ?_|refine Pk.t ?_|refine Br.y ?_);conv=>whnf)
    refine Ca.of (zC v8 (by omega) (by decide) (by show(cE (iC K 8) [] i).length<=12;omega) i av) ?_;rintro _ w3 ⟨rfl,yb⟩;obtain⟨Y,d,h3,k3,hY⟩:=hr.queue yb;have rg3:=rg.ab k3 (fun hm=>by
     rcases List.mem_cons.1 hm with e|hm
     ·exact bW g2 aiI (bg (by simp[Cr.own,e]))
     ·exact vU hm)
    have qz:=rg.lt;conv=>whnf
    repeat (refine Ar.la ?_;conv=>whnf)
    refine⟨(i+1,Y,d),⟨av,?_,rg3,?_,fun hm=>by rcases hY g2 hm with h|h;exact vU h;omega,?_⟩,⟨rfl,rfl,rfl,vi (by simp only;omega),trivial⟩,by simp only;omega⟩
    ·rw[abv];exact h3
    ·exact kk.then k3 (fun x hx=>by
      rcases List.mem_cons.1 hx with rfl|hx
      ·exact .inl (List.mem_append_left _ (bg (by simp[Cr.own])))
      ·rcases wI x hx with h|h
       ·exact .inl (List.mem_append_right _ h)
       ·exact .inr h)
    ·intro x hx;rcases hY x hx with h|h
     ·exact wI x h
     ·exact .inr (Nat.le_trans kk.size h)
   ·have abv:cE (iC K 8) [] (i+1)=cE (iC K 8) [] i:=by rw[jy,if_neg (fun x=>h2 x.2)]
    conv=>whnf
    repeat ((first|refine Br.t ?_|refine Pk.t ?_|refine Ar.la ?_|refine Br.n ?_);conv=>whnf)
    refine⟨(i+1,X1,c1),⟨av,?_,rg,kk,vU,wI⟩,⟨rfl,rfl,rfl,vi (by simp only;omega),trivial⟩,by simp only;omega⟩;rw[abv];exact hr
  ·have nR:decide (512<=(iC K 8).F i)=false:=decide_eq_false h1;rw[nR];have abv:cE (iC K 8) [] (i+1)=cE (iC K 8) [] i:=by rw[jy,if_neg (fun x=>h1 x.1)]
   conv=>whnf
   repeat ((first|refine Br.f ?_|refine Pk.f ?_|refine Ar.la ?_);conv=>whnf)
   refine⟨(i+1,X1,c1),⟨av,?_,rg,kk,vU,wI⟩,⟨rfl,rfl,rfl,vi (by simp only;omega),trivial⟩,by simp only;omega⟩;rw[abv];exact hr
 obtain rfl:i=12:=by omega
 have key:∃Ke Pe te,AT (tqK K) (qU K P 8) Ke Pe te/\ax Ke.st=false/\Hl.HB Ke.F/\((Ke.calls<8/\Hl.lz Ke.F=false/\K'=Ke/\P'=Pe/\tr=te)\/((8<=Ke.calls\/Hl.lz Ke.F=true)/\∃K2 P2 t2,AQ 24 aW Ke Pe K2 P2 t2/\(iA (bJ K2) K2.next (-1)).told/\K'=cB K2 24/\P'=jw K2 P2 24 aW/\tr=te++zH K2 P2 t2)):=by
  cases H with
  |quiet a1 a2 a3 a4 a5=>exact⟨_,_,_,a1,a2,a3,.inl ⟨a4,a5,rfl,rfl,rfl⟩⟩
  |note a1 a2 a3 a4 a5 a6=>exact⟨_,_,_,a1,a2,a3,.inr ⟨a4,_,_,_,a5,a6,rfl,rfl,rfl⟩⟩
 clear H;obtain⟨Ke,Pe,te,hT,hwo,hBe,ma⟩:=key;have hr:On wr N (tqK K) (qU K P 8) b n1 X1 c1:=hr;clear rg vU aiJ aiI hg2 hi av equ eat hB fm;generalize tqK K=Kq at *;generalize qU K P 8=Pq at *;conv=>whnf
 repeat ((first|refine Br.f ?_|refine CW.s ?_);conv=>whnf)
 refine CW.loop (ι:=KS×CS×List CS×List CS×Option Addr×Nat×Int) (fun i w'=>AT i.1 i.2.1 Ke Pe i.2.2.2.1/\te=i.2.2.1++i.2.2.2.1/\fits b i.2.2.1.length/\On w' N i.1 i.2.1 (less b i.2.2.1.length) i.2.2.2.2.2.2 i.2.2.2.2.1 i.2.2.2.2.2.1/\Aa (N.all++aK X) w w'/\∀x,x∈aK i.2.2.2.2.1->x∈aK X\/w.heap.size<=x)
  (fun _=>[(0,.pointer (some ⟨N.k,0,none⟩))]) (fun i=>i.1.qu.length) (Kq,Pq,[],te,X1,c1,n1) ai ⟨hT,rfl,(fun x hx=>by simp),by rw[show(([]:List CS)).length=0 from rfl,fE];exact hr,kk,wI⟩ ⟨rfl,trivial⟩ ?_;clear hT hr kk wI;rintro⟨K1,P1,t1,t2,X2,c2,n2⟩ wr ⟨hT,hte,ef,hr,kk,hX⟩;simp only at hT hte ef hr kk hX ⊢
 cases hT with
 | done qV =>
  have v8:=hr.u4;rw[qV] at v8;conv=>whnf
  refine Ca.of (uI v8 (by omega)) ?_;rintro _ _ ⟨rfl,rfl⟩;conv=>whnf
  repeat ((first|(refine Ld.of hr.core.c1 ?_)|refine Br.t ?_|refine CW.s ?_);conv=>whnf)
  refine Ca.of (eQ hr.core.aV) ?_;rintro _ _ ⟨rfl,rfl⟩;rw[hwo];conv=>whnf
  repeat ((first|(refine Ld.of hr.core.c5 ?_)|refine Br.f ?_);conv=>whnf)
  refine Ca.of (aeh hr.core.pat) ?_;rintro _ _ ⟨rfl,rfl⟩;have hte:te=t1:=by rw[hte,List.append_nil]
  have note:∀ {K2:KS} {P2:CS} {t2:List CS},AQ 24 aW Ke Pe K2 P2 t2->(iA (bJ K2) K2.next (-1)).told->Spec Tryz.prog 105 #[.pointer (some ⟨N.k,0,none⟩)] wr fun u w'=>AD N X2 c2 (cB K2 24) (jw K2 P2 24 aW) (less b t1.length) (zH K2 P2 t2) wr w' (u=al 0) (u=al 7):=fun a b=>aen hr a b;rcases ma with⟨e1,e2,rfl,rfl,rfl⟩|⟨e1,K2,P2,t2,e2,e3,rfl,rfl,rfl⟩
  ·have hd:decide (K'.calls≥8)=false:=decide_eq_false (by omega);rw[hd];conv=>whnf
   repeat ((first|(refine Ld.of hr.core.c4 ?_)|refine Br.t ?_|refine Br.f ?_);conv=>whnf)
   refine Ca.of (Hl.zB _ _ _ hr.core.aH hBe) ?_;rintro _ _ ⟨rfl,rfl⟩;rw[e2];conv=>whnf
   repeat ((first|refine Br.t ?_|refine Br.f ?_|refine Pk.f ?_|refine Pk.t ?_);conv=>whnf)
   rw[hte];exact⟨rfl,kk,.inl ⟨ef,rfl,X2,c2,n2,hr,hX⟩⟩
  ·have fin:∀u w',AD N X2 c2 (cB K2 24) (jw K2 P2 24 aW) (less b t1.length) (zH K2 P2 t2) wr w' (u=al 0) (u=al 7)->(u=al 0/\∀v,v=al 0->Ends N X (cB K2 24) (jw K2 P2 24 aW) b (te++zH K2 P2 t2) w w' (v=al 0) (v=al 7))\/(u=al 7/\∀v,v=al 7->Ends N X (cB K2 24) (jw K2 P2 24 aW) b (te++zH K2 P2 t2) w w' (v=al 0) (v=al 7)):=fun u w' ⟨k3,hr3⟩=>by
    have k4:Aa (N.all++aK X) w w':=kk.trans (k3.mono (fun x hx=>List.mem_append_left _ hx));rw[hte];rcases hr3 with⟨f3,rfl,n3,h3⟩|⟨y,hy,jq,rfl,n3,h3⟩
    ·exact .inl ⟨rfl,fun v hv=>⟨k4,Af.then ef (.inl ⟨f3,hv,X2,c2,n3,h3,hX⟩)⟩⟩
    ·exact .inr ⟨rfl,fun v hv=>⟨k4,Af.then ef (.inr ⟨y,hy,jq,hv,n3,h3⟩)⟩⟩
   by_cases h8:8<=Ke.calls
   ·have hd:decide (Ke.calls≥8)=true:=decide_eq_true h8;rw[hd];conv=>whnf
    repeat ((first|refine Br.f ?_|refine Pk.f ?_|refine CW.s ?_);conv=>whnf)
    refine Ca.of (note e2 e3) ?_;rintro u w' hu;rcases fin u w' hu with⟨rfl,hv⟩|⟨rfl,hv⟩
    ·conv=>whnf
     refine Ca.of (aU 0 7 (by decide) _) ?_;rintro _ _ ⟨rfl,rfl⟩;conv=>whnf
     repeat (refine Br.f ?_;conv=>whnf)
     exact⟨rfl,hv _ rfl⟩
    ·conv=>whnf
     refine Ca.of (aU 7 7 (by decide) _) ?_;rintro _ _ ⟨rfl,rfl⟩;conv=>whnf
     repeat (refine Br.t ?_;conv=>whnf)
     exact⟨rfl,hv _ rfl⟩
   ·have hd:decide (Ke.calls≥8)=false:=decide_eq_false (by omega);rw[hd];conv=>whnf
    repeat ((first|(refine Ld.of hr.core.c4 ?_)|refine Br.t ?_|refine Br.f ?_);conv=>whnf)
    refine Ca.of (Hl.zB _ _ _ hr.core.aH hBe) ?_;rintro _ _ ⟨rfl,rfl⟩;rw[e1.resolve_left h8];conv=>whnf
    repeat ((first|refine Br.t ?_|refine Br.f ?_|refine Pk.f ?_|refine Pk.t ?_|refine CW.s ?_);conv=>whnf)
    refine Ca.of (note e2 e3) ?_;rintro u w' hu;rcases fin u w' hu with⟨rfl,hv⟩|⟨rfl,hv⟩
    ·conv=>whnf
     refine Ca.of (aU 0 7 (by decide) _) ?_;rintro _ _ ⟨rfl,rfl⟩;conv=>whnf
     repeat (refine Br.f ?_;conv=>whnf)
     exact⟨rfl,hv _ rfl⟩
    ·conv=>whnf
     refine Ca.of (aU 7 7 (by decide) _) ?_;rintro _ _ ⟨rfl,rfl⟩;conv=>whnf
     repeat (refine Br.t ?_;conv=>whnf)
     exact⟨rfl,hv _ rfl⟩
 | @skip _ _ v t _ _ _ qV hv hl ha1 sO hT =>
  have v8:=hr.u4;rw[qV] at v8;conv=>whnf
  refine Ca.of (uJ v8 (by omega) (by decide) hl) ?_;rintro _ w3 ⟨rfl,yb⟩;have yb:Bl wr N.k 143 110 6 (bZ N K1 X2 c2) X2 t w3:=yb;obtain⟨Y,d,h3,k3,hY⟩:=hr.queue yb;have bG:=kk.then k3 (fun x hx=>by
   rcases List.mem_cons.1 hx with rfl|hx
   ·exact .inl (List.mem_append_left _ (bg (by simp[Cr.own])))
   ·rcases hX x hx with h|h
    ·exact .inl (List.mem_append_right _ h)
    ·exact .inr h)
  have hY3:∀x,x∈aK Y->x∈aK X\/w.heap.size<=x:=fun x hx=>by
   rcases hY x hx with h|h
   ·exact hX x h
   ·exact .inr (Nat.le_trans kk.size h)
  clear kk hX yb v8 hY k3;conv=>whnf
  repeat ((first|(refine Ld.of h3.core.c2 ?_)|refine Br.f ?_|refine CW.s ?_);conv=>whnf)
  refine Ca.of (fj h3.core.map ha1) ?_;rintro _ w4 ⟨g4,rfl,rg4,hg4,k4⟩;have h4:=h3.aj k4;have bU:=bG.trans (k4.mono (by simp));have c4:w4.cell? ⟨g4,v,none⟩=some (.int .i64 0):=(rg4.cell v hv).trans (by show some (Value.int .i64 (lv K1.at_ v:Nat))=_;rw[sO];rfl);conv=>whnf
  repeat ((first|(refine Ld.at (by omega) c4 ?_)|refine Br.t ?_|refine Pk.t ?_|refine Ix.n ?_|refine CW.s ?_);conv=>whnf)
  exact⟨(dC K1 t,P1,t1,t2,Y,d,n2),⟨hT,hte,ef,h4,bU,hY3⟩,⟨rfl,trivial⟩,by simp only[dC,qV,List.length_cons];omega⟩
 | @move _ _ v d t _ _ t3 qV hv hl ha1 sO hw0 hF hV nM hT =>
  have v8:=hr.u4;rw[qV] at v8;conv=>whnf
  refine Ca.of (uJ v8 (by omega) (by decide) hl) ?_;rintro _ w3 ⟨rfl,yb⟩;have yb:Bl wr N.k 143 110 6 (bZ N K1 X2 c2) X2 t w3:=yb;obtain⟨Y,e,h3,k3,hY⟩:=hr.queue yb;have bG:=kk.then k3 (fun x hx=>by
   rcases List.mem_cons.1 hx with rfl|hx
   ·exact .inl (List.mem_append_left _ (bg (by simp[Cr.own])))
   ·rcases hX x hx with h|h
    ·exact .inl (List.mem_append_right _ h)
    ·exact .inr h)
  have hY3:∀x,x∈aK Y->x∈aK X\/w.heap.size<=x:=fun x hx=>by
   rcases hY x hx with h|h
   ·exact hX x h
   ·exact .inr (Nat.le_trans kk.size h)
  clear kk hX yb v8 hY k3;conv=>whnf
  repeat ((first|(refine Ld.of h3.core.c2 ?_)|refine Br.f ?_|refine CW.s ?_);conv=>whnf)
  refine Ca.of (fj h3.core.map ha1) ?_;rintro _ w4 ⟨g4,rfl,rg4,hg4,k4⟩;have h4:On w4 N (dC K1 t) P1 (less b t1.length) n2 Y e:=h3.aj k4;have bU:=bG.trans (k4.mono (by simp));have c4:w4.cell? ⟨g4,v,none⟩=some (.int .i64 (lv K1.at_ v:Nat)):=rg4.cell v hv;conv=>whnf
  repeat ((first|(refine Ld.at (by omega) c4 ?_)|(refine Ld.of h4.core.c1 ?_)|refine Br.f ?_|refine Ix.n ?_|refine Br.n ?_|refine CW.s ?_);conv=>whnf)
  refine Ca.of (eQ h4.core.aV) ?_;rintro _ _ ⟨rfl,rfl⟩;have hw1:ax (dC K1 t).st=false:=hw0;rw[hw1];conv=>whnf
  repeat ((first|(refine Ld.of h4.core.c4 ?_)|refine Br.f ?_|refine Pk.f ?_);conv=>whnf)
  refine Ca.of (Hl.ad9 _ _ _ h4.core.aH v hv) ?_;rintro _ _ ⟨rfl,rfl⟩;have v9:decide ((dC K1 t).F (12+v)≥3)=false:=decide_eq_false (by show ¬K1.F (12+v)≥3;omega);rw[v9];conv=>whnf
  refine Ca.of (xS h4 hV) ?_;rintro u w5 ⟨k5,hr5⟩;have dL:=bU.trans (k5.mono (fun x hx=>List.mem_append_left _ hx));rcases hr5 with⟨f5,rfl,n5,h5⟩|⟨y,hy,jq,rfl,n5,h5⟩
  ·conv=>whnf
   repeat (refine CW.s ?_;conv=>whnf)
   refine Ca.of (aU 0 7 (by decide) _) ?_;rintro _ _ ⟨rfl,rfl⟩;have anN:w5.cell? ⟨N.k,107,none⟩=some (.int .i64 (nX (dC K1 t) P1 v d).fu):=h5.core.row.cell 107 (by omega);have ar7:w5.cell? ⟨N.k,108,none⟩=some (.int .i64 (nX (dC K1 t) P1 v d).kh):=h5.core.row.cell 108 (by omega);conv=>whnf
   repeat ((first|(refine Ld.at (by omega) anN ?_)|(refine Ar.tB ?_)|refine Br.t ?_|refine Br.f ?_|refine Ru.bh ?_);conv=>whnf)
   refine Sd.rowAt h5.core.row 107 (by omega) (by omega) rfl ?_;intro w6 r6 k6;have aiK:w6.cell? ⟨N.k,108,none⟩=some (.int .i64 (nX (dC K1 t) P1 v d).kh):=r6.cell 108 (by omega);conv=>whnf
   repeat ((first|(refine Ld.at (by omega) aiK ?_)|(refine Ar.tB ?_));conv=>whnf)
   refine Sd.rowAt r6 108 (by omega) (by omega) rfl ?_;intro w7 r7 k7;have h7:=h5.row (K':=mdK (nX (dC K1 t) P1 v d) (lv K1.at_ v)) (k6.trans k7) r7 (fun j hj=>abu _ _ j hj) rfl;rw[gk] at h7;conv=>whnf
   refine⟨(mdK (nX (dC K1 t) P1 v d) (lv K1.at_ v),vZ (dC K1 t) P1 v d,t1++vcT (dC K1 t) P1 v d,t3,Y,e,n5),⟨hT,by rw[hte,List.append_assoc],Af.fits ef f5,by rw[List.length_append];exact h7,dL.trans ((k6.trans k7).mono (fun x hx=>by rw[List.mem_singleton.1 hx];exact List.mem_append_left _ (bg (by simp[Cr.own])))),hY3⟩,⟨rfl,trivial⟩,?_⟩;show(mdK (nX (dC K1 t) P1 v d) (lv K1.at_ v)).qu.length<K1.qu.length;show(nX (dC K1 t) P1 v d).qu.length<K1.qu.length;rw[nM,qV];simp
  ·conv=>whnf
   repeat (refine CW.s ?_;conv=>whnf)
   refine Ca.of (aU 7 7 (by decide) _) ?_;rintro _ _ ⟨rfl,rfl⟩;conv=>whnf
   repeat (refine Br.t ?_;conv=>whnf)
   have dead:∀t4,tr=te++t4->Ends N X K' P' b tr w w5 (al 7=al 0) (al 7=al 7):=fun t4 ht4=>by
    rw[ht4,hte,List.append_assoc,List.append_assoc];exact⟨dL,Af.then ef (Af.gone hy jq ⟨rfl,n5,h5⟩)⟩
   refine⟨rfl,?_⟩;rcases ma with⟨-,-,-,-,h4⟩|⟨-,K2,P2,t2,-,-,-,-,h4⟩
   ·exact dead [] (by rw[h4,List.append_nil])
   ·exact dead _ h4
end
end
section
open Go.RowKit
def wJ(K:KS)(o:Nat)(fl s:Int):Cp:={ iA K s (-1) with fl:=ah K.fl o fl }
def dy(o:Nat)(fl:Int)(K:KS)(s:Int):Nat->Nat:=sV (wJ K o fl s)
theorem aiL{K:KS}{o:Nat}{fl s:Int}(ho:o<24)(j:Nat):put (iA K s (-1)).cell o (.int .i64 fl) j=(wJ K o fl s).cell j:=by
 unfold put;by_cases h:j=o
 ·subst h;rw[if_pos rfl,(wJ K j fl s).iy ho];unfold wJ ah;simp only[if_pos]
 ·rw[if_neg h];unfold Cp.cell wJ ah;simp only[if_neg h];rfl
def sY(K:KS)(o:Nat)(fl:Int):KS:={ K with fl:=ah K.fl o fl }
def zL(K:KS)(o:Nat):KS:={ K with at_:=ah K.at_ o 0,ow:=ah K.ow (K.at_ o-1) 0 }
section
variable{w w':World}{N:Cr}{K:KS}{X:Option Addr}{c:Nat}{P:CS}{b:Option Nat}{n:Int}
theorem rV(o:Nat)(ho:o<24)(x:Int)(j:Nat)(hj:j<110):put (bZ N K X c) (82+o) (.int .i64 x) j=bZ N (sY K o x) X c j:=by
 unfold put;by_cases h:j=82+o
 ·subst h;rw[if_pos rfl,abk ho];unfold sY ah;simp only[if_pos]
 ·rw[if_neg h];unfold bZ;by_cases h1:82<=j/\j<106
  ·have:j-82≠o:=by omega
   unfold sY ah;simp only[if_neg this]
  ·by_cases h2:j<82
   ·have:j=0\/j=1\/j=2\/j=3\/j=4\/j=5\/j=6\/7<=j:=by omega
    rcases this with rfl|rfl|rfl|rfl|rfl|rfl|rfl|h7
    all_goals first|rfl|skip
    rw[if_neg (by omega),if_neg (by omega),if_neg (by omega),if_neg (by omega),if_neg (by omega),if_neg (by omega),if_neg (by omega),if_pos h2,if_neg (by omega),if_neg (by omega),if_neg (by omega),if_neg (by omega),if_neg (by omega),if_neg (by omega),if_neg (by omega),if_pos h2];rfl
   ·have e6:¬j<106:=by omega
    simp only[if_neg h2,if_neg e6];rfl
theorem abw(h:On w N K P b n X c){x2 x7 x3 o:Nat}{fl:Int}(ho:o<24)(r2:w.cell? ⟨x2,0,none⟩=some (.pointer (some ⟨N.k,0,none⟩)))(r7:w.cell? ⟨x7,0,none⟩=some (.int .i64 fl))(r3:w.cell? ⟨x3,0,none⟩=some (.int .i64 o))(s:Int)(ht:(wJ K o fl s).told) :
  Spec Tryz.prog 64 #[.int .i64 s,.pointer (some ⟨x2,0,none⟩),.pointer (some ⟨x7,0,none⟩),.pointer (some ⟨x3,0,none⟩)] w fun v w'=>∃A d,v=.tuple #[.slice A 174 d,al 0]/\Ly w' 5 1 A 174 d (fun j=>.int .u8 (dy o fl K s j:Nat))/\Aa [] w w':=by
 have l7:=aZ r7;have l3:=aZ r3;refine spec_of_wpE (T:=tt) ai func64 rfl (by decide +kernel) ntmps64 (by simp) ?_;conv=>whnf
 repeat ((refine Ld.of r2 ?_);conv=>whnf)
 refine Ca.of (nH h s (-1)) ?_;rintro _ w2 ⟨rfl,k2⟩;conv=>whnf
 refine Ru.aE (eD w2) ?_;intro g w3 hg gg rg k3;conv=>whnf
 refine Ru.im rg bu (by omega) (fun j _=>Cp.bj _ j) ?_;intro w4 rg4 k4;have rg4:Row w4 g 116 62 (iA K s (-1)).cell:=rg4.congr (fun j hj=>by unfold lay;rw[if_pos (by omega),Nat.sub_zero]);have q4:Aa [] w w4:=(k2.trans k3).fresh (by rw[hg];exact k2.size) k4;have s7:=(q4.cell l7 (by simp)).trans r7;have s3:=(q4.cell l3 (by simp)).trans r3;have hgw:w.heap.size<=g:=by rw[hg];exact k2.size
 conv=>whnf
 repeat ((first|(refine Ld.of s3 ?_)|(refine Ld.of s7 ?_)|(refine Ix.of o (by omega) (by omega) ?_));conv=>whnf)
 refine Sd.rowAt rg4 o (by omega) (by omega) rfl ?_;intro w5 rg5 k5;have rg5:=rg5.congr (fun j hj=>aiL ho j);have q5:=q4.fresh hgw k5;conv=>whnf
 refine Ru.vR rg5 underlying116 rfl bu (by omega) ?_;rw[br (fun j _=>by rw[Nat.zero_add]:∀j,j<62->(wJ K o fl s).cell (0+j)=(wJ K o fl s).cell j)];conv=>whnf
 refine Ca.of (iK w5 _ ht) ?_;rintro _ w6 ⟨y,hy,rfl,r6,k6⟩;conv=>whnf
 refine⟨rfl,some ⟨y,0,none⟩,174,rfl,(Ly.dq r6 (by omega) (by omega) (by simp[maxLen])).congr (fun j hj=>?_),q5.trans k6⟩;unfold dy;rw[nJ]
theorem yc(h:On w N K P b n X c){o:Nat}(ho:o<24)(h0:K.at_ o=0) :
  Spec Tryz.prog 44 #[.pointer (some ⟨N.k,0,none⟩),.int .i64 o] w fun u w'=>AD N X c K P b [] w w' (u=al 0) (u=al 7):=by
 refine spec_of_wpE (T:=tt) ai func44 rfl (by decide +kernel) ntmps44 (by simp) ?_;conv=>whnf
 refine Ru.aiA ?_;intro x2 w1 hx2 dj r2 k1;conv=>whnf
 refine Ru.anB ?_;intro x3 w2 hx3 gO r3 k2;have r22:=r2.ab k2 (by simp);have h2:=(h.aj k1).aj k2;have kk:=k1.trans k2;conv=>whnf
 repeat ((first|(refine Ld.row r3 (by omega) ?_)|refine Br.f ?_|refine Pk.f ?_|refine Br.n ?_|refine CW.s ?_);conv=>whnf)
 refine CW.held (fun w'=>Ad w' N K X c/\Row w' x2 85 1 (fun _=>.pointer (some ⟨N.k,0,none⟩))/\Row w' x3 3 1 (fun _=>.int .i64 o)) [] (.take 0 (.take 1 (.take 2 (.take 3 (.take 4 (.one 5 (.take 6 (.take 7 (.take 8 (.take 9 (.take 10 (.done)))))))))))) ai (by kernel_rfl) (by kernel_rfl) (by kernel_rfl) ?_ ?_
 ·exact⟨h2.core.aj ((Aa.refl _ _).drewN 1),Row.drewN r22 1,Row.drewN r3 1⟩
 have q2:=(Aa.refl [] w2).drewN 1;have h3:=h2.aj q2;have r23:=r22.ab q2 (by simp);have xQ:=r3.ab q2 (by simp);have bG:=kk.trans q2;generalize w2.drewN 1=w3 at *;conv=>whnf
 repeat ((first|(refine Ag.of (fun _ h=>h.1.c2) ?_)|(refine Ag.of (fun _ h=>h.2.1.cell 0 (by omega)) ?_)|(refine Ag.of (fun _ h=>h.2.2.cell 0 (by omega)) ?_));conv=>whnf)
 refine Ca.of (iW h3.core.map o (by omega) (by omega)) ?_;rintro _ _ ⟨rfl,rfl⟩;rw[if_pos h0];refine⟨⟨h3.core,r23,xQ⟩,?_⟩;conv=>whnf
 repeat ((first|refine Br.t ?_|refine Ru.n1 ?_);conv=>whnf)
 exact⟨rfl,Aa.eh bG,Af.nil ⟨rfl,n,h3⟩⟩
theorem yd(w:World):(Instr.alloc 2 true (.tuple #[])).run Tryz.prog w=.ok (.pointer (some ⟨w.heap.size,0,none⟩)) (w.alloc (.cells #[.int .i64 0] 2)):=by kernel_rfl
theorem als(h:On w N K P b n X c){o:Nat}(ho:o<24)(h0:K.at_ o≠0)(h96:K.at_ o<=96){K1:KS}{P1:CS}{t1:List CS}(H:AQ 24 (dy o (K.en o).seq) K P K1 P1 t1)(ht:(wJ (bJ K1) o (K.en o).seq K1.next).told)(h1:(cB K1 24).at_ o≠0)(h2:(cB K1 24).at_ o<=96) :
  Spec Tryz.prog 44 #[.pointer (some ⟨N.k,0,none⟩),.int .i64 o] w fun u w'=>AD N X c (zL (sY (cB K1 24) o (K.en o).seq) o) (jw K1 P1 24 (dy o (K.en o).seq)) b (zH K1 P1 t1) w w' (u=al 0) (u=al 7):=by
 have bW:∀x,w.heap.size<=x->x∉N.all:=fun x hx hm=>by
  have h3:x<w.heap.size:=by
   rcases List.mem_append.1 hm with hm|hm
   ·exact h.core.lt (List.mem_append_left _ hm)
   ·exact h.gn _ hm
  omega
 refine spec_of_wpE (T:=tt) ai func44 rfl (by decide +kernel) ntmps44 (by simp) ?_;conv=>whnf
 refine Ru.aiA ?_;intro x2 w1 hx2 dj r2 k1;conv=>whnf
 refine Ru.anB ?_;intro x3 w2 hx3 gO r3 k2;have r22:=r2.ab k2 (by simp);have hh2:=(h.aj k1).aj k2;have kk:=k1.trans k2;have x2w:w.heap.size<=x2:=by omega
 have x3w:w.heap.size<=x3:=by omega
 clear hx2 dj r2 k1 k2 gO hx3 w1;conv=>whnf
 repeat ((first|(refine Ld.row r3 (by omega) ?_)|refine Br.f ?_|refine Pk.f ?_|refine Br.n ?_|refine CW.s ?_);conv=>whnf)
 refine CW.held (fun w'=>Ad w' N K X c/\Row w' x2 85 1 (fun _=>.pointer (some ⟨N.k,0,none⟩))/\Row w' x3 3 1 (fun _=>.int .i64 o)) [] (.take 0 (.take 1 (.take 2 (.take 3 (.take 4 (.one 5 (.take 6 (.take 7 (.take 8 (.take 9 (.take 10 (.done)))))))))))) ai (by kernel_rfl) (by kernel_rfl) (by kernel_rfl) ?_ ?_
 ·exact⟨hh2.core.aj ((Aa.refl _ _).drewN 1),Row.drewN r22 1,Row.drewN r3 1⟩
 have q2:=(Aa.refl [] w2).drewN 1;have h3:=hh2.aj q2;have r23:=r22.ab q2 (by simp);have xQ:=r3.ab q2 (by simp);have bG:=kk.trans q2;clear hh2 r22 r3 kk q2;generalize w2.drewN 1=w3 at *;conv=>whnf
 repeat ((first|(refine Ag.of (fun _ h=>h.1.c2) ?_)|(refine Ag.of (fun _ h=>h.2.1.cell 0 (by omega)) ?_)|(refine Ag.of (fun _ h=>h.2.2.cell 0 (by omega)) ?_));conv=>whnf)
 refine Ca.of (iW h3.core.map o (by omega) (by omega)) ?_;rintro _ _ ⟨rfl,rfl⟩;rw[if_neg h0];refine⟨⟨h3.core,r23,xQ⟩,?_⟩;conv=>whnf
 repeat ((first|refine Br.f ?_|refine Ru.ak ?_);conv=>whnf)
 refine CW.held (fun w'=>Ad w' N K X c/\Row w' x2 85 1 (fun _=>.pointer (some ⟨N.k,0,none⟩))/\Row w' x3 3 1 (fun _=>.int .i64 o)) [8] (.take 0 (.take 1 (.take 2 (.take 3 (.take 4 (.take 5 (.take 6 (.one 7 (.one 8 (.done)))))))))) ai (by kernel_rfl) (by kernel_rfl) (by kernel_rfl) ?_ ?_
 ·exact⟨h3.core.aj ((Aa.refl _ _).drewN 1),Row.drewN r23 1,Row.drewN xQ 1⟩
 have q2:=(Aa.refl [] w3).drewN 1;have h4:=h3.aj q2;have r24:=r23.ab q2 (by simp);have r34:=xQ.ab q2 (by simp);have bU:=bG.trans q2;clear h3 r23 xQ bG q2;generalize w3.drewN 1=w4 at *;have een:bZ N K X c (7+3*o)=.int .i64 (K.en o).seq:=iL (j:=0) (by omega) (by omega);conv=>whnf
 repeat ((first|(refine Ag.of (fun _ h=>h.2.1.cell 0 (by omega)) ?_)|(refine Ag.of (fun _ h=>h.2.2.cell 0 (by omega)) ?_)|(refine Ix.of o (by omega) (by omega) ?_)|(refine Ag.at (j:=7+3*o) (by omega) (fun _ h=>(h.1.row.cell (7+3*o) (by omega)).trans (congrArg some een)) ?_));conv=>whnf)
 refine Ru.of (yd w4) ?_;have r7:=qQ (heap_alloc_new w4 (.cells #[.int .i64 0] 2));have k5:Aa [] w4 (w4.alloc (.cells #[.int .i64 0] 2)):=(Aa.refl _ _).alloc _;have h5:=h4.aj k5;have r25:=r24.ab k5 (by simp);have r35:=r34.ab k5 (by simp);have dL:=bU.trans k5;have l2:=r24.lt;have l3:=r34.lt;have x7w:=bU.size;clear k5 h4 r24 r34 bU;generalize w4.alloc _=w5 at *;generalize w4.heap.size=x7 at *;refine⟨⟨h5.core,r25,r35⟩,?_⟩;conv=>whnf
 refine Sd.rowAt r7 0 (by omega) (by omega) rfl ?_;intro w6 r76 k6;have h6:=h5.iz r7 (by decide) k6;have r26:=r25.ab k6 (by simp;omega);have r36:=r35.ab k6 (by simp;omega);have gG:=dL.fresh x7w k6;have r76:Row w6 x7 2 1 (fun _=>.int .i64 (K.en o).seq):=r76.congr (fun j hj=>by rw[c1 hj];rfl);clear r7 h5 r25 r35 dL k6 l2 l3 w5;conv=>whnf
 repeat ((refine Ld.row r26 (by omega) ?_);conv=>whnf)
 refine Ca.of (zI h6 (of:=24) (by omega) H 64 #[.pointer (some ⟨x2,0,none⟩),.pointer (some ⟨x7,0,none⟩),.pointer (some ⟨x3,0,none⟩)] (fun w2 b2 n2 k2 h2=>abw h2 ho ((r26.ab k2 (bW _ x2w)).cell 0 (by omega)) ((r76.ab k2 (bW _ x7w)).cell 0 (by omega)) ((r36.ab k2 (bW _ x3w)).cell 0 (by omega)) K1.next ht)) ?_;rintro _ w7 ⟨k7,hr⟩;have nW:=(Aa.eh (N:=N) gG).trans k7;rcases hr with⟨hf,rfl,n7,h7⟩|⟨y,hy,jq,rfl,n7,h7⟩
 case inr =>
  conv=>whnf
  repeat ((first|refine Br.t ?_|refine Ru.n1 ?_|refine CW.s ?_);conv=>whnf)
  exact⟨rfl,nW,.inr ⟨y,hy,jq,rfl,n7,h7⟩⟩
 have r27:=r26.ab k7 (bW _ x2w);have r37:=r36.ab k7 (bW _ x3w);have r77:=r76.ab k7 (bW _ x7w);clear h6 r26 r36 r76 k7 gG;conv=>whnf
 repeat ((first|refine Br.f ?_|refine Ru.ak ?_|refine CW.s ?_);conv=>whnf)
 refine CW.held (fun w'=>Row w' x2 85 1 (fun _=>.pointer (some ⟨N.k,0,none⟩))/\Row w' x3 3 1 (fun _=>.int .i64 o)/\Row w' x7 2 1 (fun _=>.int .i64 (K.en o).seq)) [] (.take 0 (.take 1 (.take 2 (.take 3 (.take 4 (.take 5 (.one 6 (.done)))))))) ai (by kernel_rfl) (by kernel_rfl) (by kernel_rfl) ?_ ?_
 ·exact⟨Row.drewN r27 1,Row.drewN r37 1,Row.drewN r77 1⟩
 have q7:=(Aa.refl [] w7).drewN 1;have h8:=h7.aj q7;have r28:=r27.ab q7 (by simp);have r38:=r37.ab q7 (by simp);have r78:=r77.ab q7 (by simp);have qW:=nW.trans (Aa.eh (N:=N) q7);clear h7 r27 r37 r77 nW q7;generalize w7.drewN 1=w8 at *;conv=>whnf
 repeat ((first|(refine Ag.of (fun _ h=>h.1.cell 0 (by omega)) ?_)|(refine Ag.of (fun _ h=>h.2.1.cell 0 (by omega)) ?_)|(refine Ag.of (fun _ h=>h.2.2.cell 0 (by omega)) ?_)|(refine Ix.of o (by omega) (by omega) ?_));conv=>whnf)
 rw[show 0+82+o=82+o by omega];refine Sd.rowAt h8.core.row (82+o) (by omega) (by omega) rfl ?_;intro w9 r9 k9;have h9:On w9 N (sY (cB K1 24) o (K.en o).seq) (jw K1 P1 24 (dy o (K.en o).seq)) _ n7 X c:=h8.row k9 r9 (fun j hj=>rV o ho _ j hj) rfl;have r29:=r28.ab k9 (by
  have:=h8.core.row.lt;have:=h8.core.row.ed r28 (by decide);simpa using this.symm)
 have r39:=r38.ab k9 (by
  have:=h8.core.row.ed r38 (by decide);simpa using this.symm)
 have r79:=r78.ab k9 (by
  have:=h8.core.row.ed r78 (by decide);simpa using this.symm)
 have kk9:=qW.trans (Aa.jl (N:=N) (by simp[Cr.own]) k9);clear h8 r28 r38 r78 qW r9 k9;refine⟨⟨r29,r39,r79⟩,?_⟩;conv=>whnf
 refine CW.held (fun w'=>Row w' x2 85 1 (fun _=>.pointer (some ⟨N.k,0,none⟩))/\Row w' x3 3 1 (fun _=>.int .i64 o)/\w'.cell? ⟨N.k,2,none⟩=some (.pointer (some ⟨N.a,0,none⟩))) [] (.take 0 (.take 1 (.take 2 (.take 3 (.take 4 (.one 5 (.take 6 (.done)))))))) ai (by kernel_rfl) (by kernel_rfl) (by kernel_rfl) ?_ ?_
 ·exact⟨Row.drewN r29 1,Row.drewN r39 1,(h9.aj ((Aa.refl [] w9).drewN 1)).core.c2⟩
 have q9:=(Aa.refl [] w9).drewN 1;have vX:=h9.aj q9;have aiM:=r29.ab q9 (by simp);have aiN:=r39.ab q9 (by simp);have qP:=kk9.trans (Aa.eh (N:=N) q9);clear h9 r29 r39 kk9 q9;generalize w9.drewN 1=tP at *;conv=>whnf
 repeat ((first|(refine Ag.of (fun _ h=>h.1.cell 0 (by omega)) ?_)|(refine Ag.of (fun _ h=>h.2.1.cell 0 (by omega)) ?_)|(refine Ag.of (fun _ h=>h.2.2) ?_));conv=>whnf)
 refine Ca.of (aa8 vX.core.map o (by omega) h2 h1) ?_;rintro _ zc ⟨rfl,r11,jJ⟩;have sP:=vX.map jJ r11;refine⟨⟨aiM.ab jJ (by
  have:=Row.ed vX.core.map aiM (by decide);simpa using this.symm),aiN.ab jJ (by
  have:=Row.ed vX.core.map aiN (by decide);simpa using this.symm),sP.core.c2⟩,?_⟩
 conv=>whnf
 exact⟨rfl,qP.trans (Aa.jl (by simp[Cr.own]) jJ),.inl ⟨hf,rfl,n7,sP⟩⟩
end
structure Idle(K K':KS):Prop where
 fl:K'.fl=K.fl
 next:K'.next=K.next
 qu:K'.qu=K.qu
 cur:K'.cur=K.cur
 calls:K'.calls=K.calls
theorem Idle.refl(K:KS):Idle K K:=⟨rfl,rfl,rfl,rfl,rfl⟩
theorem Idle.trans{K K1 K2:KS}(h:Idle K K1)(g:Idle K1 K2):Idle K K2:=⟨g.fl.trans h.fl,g.next.trans h.next,g.qu.trans h.qu,g.cur.trans h.cur,g.calls.trans h.calls⟩
theorem Shut.idle{K K0:KS}(h:Shut K K0):Idle K K0:=by
 obtain⟨st,fo,fb,fi,e⟩:=h.eq;rw[e];exact⟨rfl,rfl,rfl,rfl,rfl⟩
theorem A8.idle{K:KS}{P:CS}{k:Cp}{m:Int}{v d:Nat}(h:A8 K P k m v d):Idle K (nX K P v d):=by
 obtain⟨st,fo,fb,fi,pn,at_,ow,en,F,mo,e⟩:=h.same;rw[e];exact⟨rfl,rfl,rfl,rfl,rfl⟩
structure Inv(K:KS)(P:CS)(k:Cp)(m:Int):Prop where
 l:BJ K P k m
 b:AO K P
 h:Bx K
 free:5<=au K.st 0
theorem Shut.inv{K K0:KS}{P:CS}{k:Cp}{m:Int}(h:Shut K K0)(I:Inv K P k m)(B:AO K0 P):Inv K0 P k m:=by
 have hc:=h.cnt;obtain⟨st,fo,fb,fi,e⟩:=h.eq;subst e;exact⟨⟨I.l.ok,I.l.uq,I.l.en,I.l.fl,I.l.next,I.l.eZ⟩,B,⟨I.h.hb,I.h.sc,I.h.cur⟩,by rw[hc];exact I.free⟩
theorem A8.inv{K:KS}{P:CS}{k:Cp}{m:Int}{v d:Nat}(h:A8 K P k m v d)(I:Inv K P k m):Inv (nX K P v d) (vZ K P v d) k m :=
 ⟨h.il,h.ib,h.ih,by rw[h.cnt];exact I.free⟩
def AP(T:CS)(k:Cp)(m:Int)(a:Nat->Nat->Nat):Prop:=∃L,Ao T k L m/\Ac T L a
theorem A8.al5{K:KS}{P:CS}{k:Cp}{m:Int}{v d:Nat}(h:A8 K P k m v d){a:Nat->Nat->Nat}(hs:Ac P K.at_ a):∀T,T∈vcT K P v d->AP T k m a:=fun T hT=>⟨K.at_,(h.tr T hT).1,(h.tr T hT).2 a hs⟩
structure A6(of:Nat)(D:KS->Int->Nat->Nat)(K1:KS)(P1:CS):Prop where
 fb:K1.fb<12
 fi:K1.fi<=8
 next:0<=K1.next/\K1.next<1099511627775
 hb:Hl.HB K1.F
 mw:AL K1.at_ K1.ow
 calm:P1.calm
 blank:P1.pg (K1.fb*8+K1.fi)=.blank
 ok:(dw K1 of).ok
 lt:K1.fb*8+K1.fi<96
 eq:∃ow F calls,cB K1 of={ K1 with next:=K1.next+1,fi:=K1.fi+1,at_:=ah K1.at_ of (K1.fb*8+K1.fi+1),ow:=ow,en:=ah K1.en of ⟨K1.next,0,false⟩,F:=F,calls:=calls }/\AM (ah K1.at_ of (K1.fb*8+K1.fi+1)) ow/\(of≠24->calls=K1.calls)/\(of=24->calls=0)
 b:AO (cB K1 of) (jw K1 P1 of D)
 h:Bx (cB K1 of)
 pg:(jw K1 P1 of D).pg (K1.fb*8+K1.fi)=.full (dw K1 of) (cm (D (bJ K1) K1.next))
 ne:∀q,q≠K1.fb*8+K1.fi->(jw K1 P1 of D).pg q=P1.pg q
 free:5<=au (cB K1 of).st 0
structure Be(J:Nat->KS->CS->Prop):Prop where
 mono:∀ {n n':Nat} {K:KS} {P:CS},n<=n'->J n K P->J n' K P
 adm:∀ {n:Nat} {K K':KS} {P:CS},K'.at_=K.at_->K'.en=K.en->K'.next=K.next->K'.F=K.F->K'.cur=K.cur->K'.calls=K.calls->J n K P->J n K' P
 rd:∀ {n:Nat} {K:KS} {P:CS} {p:Nat},p<96->J n K P->J (n+1) (pT K p) (P.bC p)
 pt:∀ {n:Nat} {K:KS} {P:CS},0<=K.calls->K.calls<8->J n K P->J n (ptK K) P
 vac:∀ {n:Nat} {K:KS} {P:CS} {k:Cp} {m:Int} {v d:Nat},Inv K P k m->A8 K P k m v d->J n K P->J (n+8) (nX K P v d) (vZ K P v d)
 put:∀ {n:Nat} {K:KS} {P:CS} {k:Cp} {m:Int} {s:Nat} {f:Nat->Nat},Inv K P k m->A6 s (dO f) K P->s<24->J n K P->J (n+1) (cB K s) (jw K P s (dO f))
 note:∀ {n:Nat} {K:KS} {P:CS} {k:Cp} {m:Int},Inv K P k m->A6 24 aW K P->(iA (bJ K) K.next (-1)).told->J n K P->J (n+1) (cB K 24) (jw K P 24 aW)
 trim:∀ {n:Nat} {K:KS} {P:CS} {k:Cp} {m:Int} {s:Nat} {q:Int},Inv K P k m->A6 24 (dy s q) K P->(wJ (bJ K) s q K.next).told->s<24->J n K P->J (n+1) (zL (sY (cB K 24) s q) s) (jw K P 24 (dy s q))
structure CY(of:Nat)(K:KS)(P:CS)(k:Cp)(m:Int)(K':KS)(P':CS)(tr:List CS):Prop where
 op:AS of 48 K P K' P' tr
 inv:Inv K' P' k m
 room:aF K'.fo K'.fi of=true
 idle:Idle K K'
 tag:∀o,o<25->K.at_ o≠0->K'.at_ o≠0/\(K'.en o).seq=(K.en o).seq
 tr:∀a,Ac P K.at_ a->∀T,T∈tr->AP T k m a
 sh:∀a,Ac P K.at_ a->Ac P' K'.at_ a
 st:∀J,Be J->∀n,J n K P->J (n+8) K' P'
theorem abx{K:KS}{P:CS}(B:AO K P):au K.st 3=0:=lF (fun b hb=>by have:=B.st b hb;omega)
theorem oW{K:KS}{P:CS}(B:AO K P):ax K.st=false:=by
 unfold ax;rw[abx B];rfl
theorem ade{K:KS}{P:CS}{k:Cp}{m:Int}(I:Inv K P k m){of:Nat}(jK:of<=24):∃K' P' tr,CY of K P k m K' P' tr:=by
 by_cases mF:aF K.fo K.fi of=true
 ·exact⟨K,P,[],.room (n:=47) I.b.fb I.b.fi mF,I,mF,Idle.refl K,fun o ho e=>⟨e,rfl⟩,(fun _ _ _ h=>nomatch h),fun _ h=>h,fun J S n j=>S.mono (by omega) j⟩
 have apj:aF K.fo K.fi of=false:=by simpa using mF
 obtain⟨B1,S1,hf1,-⟩:=I.b.shut;have I1:=S1.inv I B1;have yF:(aT K).at_=K.at_:=by
  obtain⟨st,fo,fb,fi,e⟩:=S1.eq;rw[e]
 have en1:(aT K).en=K.en:=by
  obtain⟨st,fo,fb,fi,e⟩:=S1.eq;rw[e]
 have sh1:(aT K).next=K.next/\(aT K).F=K.F/\(aT K).cur=K.cur/\(aT K).calls=K.calls:=by
  obtain⟨st,fo,fb,fi,e⟩:=S1.eq;rw[e];exact⟨rfl,rfl,rfl,rfl⟩
 have hbound:lx (aT K).st=5:=by
  unfold lx;rw[oW B1,abx B1];rfl
 by_cases hsp:fO (aT K).st=true
 ·have h6:5<au (aT K).st 0:=by
   unfold fO at hsp;rw[hbound] at hsp;exact of_decide_eq_true hsp
  obtain⟨d,kM,hd,vT⟩:=je (st:=(aT K).st) B1.pn (by omega);have hr:aF (opK K d).fo (opK K d).fi of=true:=by
   show aF true 0 of=true;unfold aF aR;simp
  have hcn:au (opK K d).st 0=au (aT K).st 0-1:=by
   have:=bQ (aT K).st 1 0 hd;rw[if_pos vT,if_neg (by omega)] at this;show au (ah (aT K).st d 1) 0=_;omega
  have B2:AO (opK K d) P:=by
   refine⟨fun b hb=>?_,fun b hb e=>?_,fun _=>?_,fun b i hb e hi=>?_,fun _ i h1 h2=>?_,hd,by show 0<=8;omega,by show d+1<=12;omega⟩
   ·show ah (aT K).st d 1 b<=2;rw[ah];split
    ·omega
    ·exact B1.st b hb
   ·have e:ah (aT K).st d 1 b=1:=e;rw[ah] at e;by_cases u5:b=d
    ·exact⟨rfl,u5.symm⟩
    ·rw[if_neg u5] at e;have:=(B1.mT b hb e).1;rw[hf1] at this
     cases this
   ·show ah (aT K).st d 1 d=1;rw[ah,if_pos rfl]
   ·have e:ah (aT K).st d 1 b=0:=e;rw[ah] at e;by_cases u5:b=d
    ·rw[if_pos u5] at e;omega
    ·rw[if_neg u5] at e;exact B1.bl b i hb e hi
   ·exact B1.bl d i hd vT h2
  have I2:Inv (opK K d) P k m:=⟨⟨I1.l.ok,I1.l.uq,I1.l.en,I1.l.fl,I1.l.next,I1.l.eZ⟩,B2,⟨I1.h.hb,I1.h.sc,I1.h.cur⟩,by rw[hcn];omega⟩;refine⟨opK K d,P,[],.spare (n:=47) I.b.fb I.b.fi apj hsp B1.pn kM (.room (n:=46) B2.fb B2.fi hr),I2,hr,S1.idle.trans ⟨rfl,rfl,rfl,rfl,rfl⟩,fun o ho e=>⟨by show(aT K).at_ o≠0;rw[yF];exact e,by show((aT K).en o).seq=_;rw[en1]⟩,(fun _ _ _ h=>nomatch h),fun a hs=>?_,fun J S n j=>S.mono (by omega) (S.adm (K:=K) yF en1 sh1.1 sh1.2.1 sh1.2.2.1 sh1.2.2.2 j)⟩;show Ac P (aT K).at_ a;rw[yF];exact hs
 ·have alu:fO (aT K).st=false:=by simpa using hsp
  have h5:au (aT K).st 0<=5:=by
   unfold fO at alu;rw[hbound] at alu;have:=of_decide_eq_false alu;omega
  have bq:∀b,b<12->(aT K).st b=0\/(aT K).st b=2:=fun b hb=>by
   have:=B1.st b hb;by_cases h:(aT K).st b=1
   ·have:=(B1.mT b hb h).1;rw[hf1] at this
    cases this
   ·omega
  have cq:au (aT K).st 0+au (aT K).st 2=12:=xV bq;have h7:7<=au (aT K).st 2:=by omega
  obtain⟨b0,jR,e0⟩:=uW (st:=(aT K).st) (s:=2) (n:=12) (by unfold au at h7;omega);obtain⟨m1,m2⟩:=@lE (fun j=>((aT K).st j:Nat)) (fun j=>(lv (aT K).at_ j:Nat)) 12;have wg:0<=pV (aT K):=(m1 b0 jR (by show(((aT K).st b0:Nat):Int)=2;omega)).1;have av:=(nF (fun j=>((aT K).st j:Nat)) (fun j=>(lv (aT K).at_ j:Nat)) 12).2;obtain⟨v,hv⟩:∃v:Nat,pV (aT K)=v:=⟨(pV (aT K)).toNat,by omega⟩;have hv':bs (fun j=>((aT K).st j:Nat)) (fun j=>(lv (aT K).at_ j:Nat)) 12=v:=hv;rw[hv'] at m1 m2 av;have aiz:v<12:=by omega
  have sn:(aT K).st v=2:=by
   have:=m2 (by omega);simp only[Int.toNat_natCast] at this;omega
  have aq6:∀b,b<12->(aT K).st b=2->lv (aT K).at_ v<=lv (aT K).at_ b:=fun b hb e=>by
   have:=(m1 b hb (by show(((aT K).st b:Nat):Int)=2;omega)).2;simp only[Int.toNat_natCast] at this;omega
  have hmul:=zJ (st:=(aT K).st) (f:=iX (aT K).at_ 25) (s:=2) (x:=lv (aT K).at_ v) (n:=12) (fun b hb e=>aq6 b hb e);have ak0:=ac9 (aT K).at_ 25;have h3:lv (aT K).at_ v<=5:=by
   by_cases h:lv (aT K).at_ v<=5
   ·exact h
   ·have h6:6<=lv (aT K).at_ v:=by omega
    have:7*6<=cP (aT K).st 2 12*lv (aT K).at_ v:=Nat.mul_le_mul h7 h6;omega
  obtain⟨d,V⟩:=aer I1.l B1 I1.h I1.free aiz (by rw[sn];omega);have I2:=V.inv I1;have hr:=V.room hf1 h3 of jK;refine⟨_,_,vcT (aT K) P v d++[],.move (n:=47) I.b.fb I.b.fi apj alu (fun o ho=>I.l.ok.cG.lt ho) hv V.hyp (.room (n:=46) I2.b.fb I2.b.fi hr),I2,hr,S1.idle.trans V.idle,fun o ho e=>?_,fun a hs T hT=>?_,fun a hs=>V.sh a (by rw[yF];exact hs),fun J S n j=>S.vac I1 V (S.adm (K:=K) yF en1 sh1.1 sh1.2.1 sh1.2.2.1 sh1.2.2.2 j)⟩
  ·have:=V.tag o ho (by rw[yF];exact e);rw[en1] at this;exact this
  rw[List.append_nil] at hT;exact V.al5 (by rw[yF];exact hs) T hT
structure Bf(of:Nat)(D:KS->Int->Nat->Nat)(K1:KS)(P1:CS)(k:Cp)(m:Int):Prop extends A6 of D K1 P1 where
 tr:∀T,T∈P1.wG (K1.fb*8+K1.fi)->Ao T k K1.at_ m/\∀a,Ac P1 K1.at_ a->Ac T K1.at_ a
theorem ye{K1:KS}{P1:CS}(B:AO K1 P1)(Hh:Bx K1)(Cn:AM K1.at_ K1.ow)(abl:P1.calm)(fc:1<=K1.next/\K1.next<1099511627775)(apk:∀o,o<25->K1.at_ o≠0->∃t D,P1.pg (K1.at_ o-1)=.full t D)(mu:5<=au K1.st 0){of:Nat}(jK:of<=24)(hr:aF K1.fo K1.fi of=true)(D:KS->Int->Nat->Nat):A6 of D K1 P1:=by
 have qk:=B.fb;have fR:K1.fo=true/\K1.fi<8/\aR K1.fi of=true:=by
  unfold aF at hr;simp only[Bool.and_eq_true,decide_eq_true_eq] at hr;exact⟨hr.1,hr.2.1,hr.2.2⟩
 obtain⟨fR,hfi,hh⟩:=fR;have zw:K1.st K1.fb=1:=B.fst fR;have na:P1.pg (K1.fb*8+K1.fi)=.blank:=B.fr fR K1.fi (Nat.le_refl _) hfi;have aiO:aR (K1.fb*8+K1.fi) of=true:=by
  unfold aR at hh ⊢;rw[show(K1.fb*8+K1.fi)%8=K1.fi%8 by omega];exact hh
 have hp:K1.fb*8+K1.fi<96:=by omega
 have zM:K1.ow (K1.fb*8+K1.fi)=0:=by
  by_cases h:K1.ow (K1.fb*8+K1.fi)=0
  ·exact h
  ·obtain⟨h1,h2⟩:=Cn.o _ hp h;obtain⟨t,D0,a2⟩:=apk (K1.ow (K1.fb*8+K1.fi)-1) (by omega) (by omega);rw[h2,Nat.add_sub_cancel,na] at a2
   cases a2
 have mi:(dw K1 of).ok:=by
  unfold dw Tg.ok;refine⟨by simp only;omega,by simp only;omega,by simp only;omega,by simp only;omega,fc.1,by simp only;omega,by simp only;omega,by simp only;omega,fun _=>rfl,fun hn=>?_⟩;unfold aR at aiO;simp only at hn ⊢;have:of≠24:=fun e=>hn (by rw[e];rfl);simp[this] at aiO;omega
 have sy:∀q,(jw K1 P1 of D).pg q=if q=K1.fb*8+K1.fi then .full (dw K1 of) (cm (D (bJ K1) K1.next)) else P1.pg q:=fun q=>ac6 P1 _ q _ _;obtain⟨c1,c2⟩:=Cn.set (o:=of) (by omega) hp zM aiO;rw[c2] at c1;have heq:∃ow F calls,cB K1 of={ K1 with next:=K1.next+1,fi:=K1.fi+1,at_:=ah K1.at_ of (K1.fb*8+K1.fi+1),ow:=ow,en:=ah K1.en of ⟨K1.next,0,false⟩,F:=F,calls:=calls }/\AM (ah K1.at_ of (K1.fb*8+K1.fi+1)) ow/\(of≠24->calls=K1.calls)/\(of=24->calls=0)/\Hl.HB F/\∀b,b<12->F (12+b)=0:=by
  have v9:Hl.HB (Hl.qM K1.F ((K1.fb*8+K1.fi)/8)):=Hh.hb.rd (by omega);have hF2:∀b,b<12->Hl.qM K1.F ((K1.fb*8+K1.fi)/8) (12+b)=0:=fun b hb=>by
   unfold Hl.qM Hl.nU;rw[if_neg (by omega)];exact Hh.sc b hb
  unfold cB anK;by_cases h:of=24
  ·rw[if_pos h];refine⟨_,Hl.ntF (Hl.qM K1.F ((K1.fb*8+K1.fi)/8)),0,?_,c1,fun x=>absurd h x,fun _=>rfl,fun b hb=>?_,fun b hb=>?_⟩
   ·unfold stK pT tkK bJ;simp only[c2];rfl
   ·have:=v9 b hb;unfold Hl.ntF;rw[if_pos (by omega),if_pos (by omega),if_neg (by omega),show 24+b-24=b by omega];exact⟨this.1,this.2.1,this.1⟩
   ·unfold Hl.ntF;rw[if_pos (by omega)];exact hF2 b hb
  ·rw[if_neg h];refine⟨_,Hl.qM K1.F ((K1.fb*8+K1.fi)/8),K1.calls,?_,c1,fun _=>rfl,fun x=>absurd x h,v9,hF2⟩;unfold stK pT tkK bJ;simp only[c2];rfl
 obtain⟨ow,F,calls,he,iB,aq7,aq8,hFB,hF0⟩:=heq;refine⟨qk,B.fi,⟨by omega,by omega⟩,Hh.hb,Cn.mw,abl,na,mi,hp,⟨ow,F,calls,he,iB,aq7,aq8⟩,?_,?_,by rw[sy,if_pos rfl],fun q hq=>by rw[sy,if_neg hq],by rw[he];exact mu⟩
 ·rw[he];refine⟨B.st,B.mT,B.fst,fun b i hb e hi=>?_,fun e i h1 h2=>?_,qk,by show K1.fi+1<=8;omega,B.pn⟩
  ·have e:K1.st b=0:=e;have tC:b≠K1.fb:=fun x=>by rw[x,zw] at e;omega
   rw[sy,if_neg (by omega)];exact B.bl b i hb e hi
  ·have h1:K1.fi+1<=i:=h1;show(jw K1 P1 of D).pg (K1.fb*8+i)=.blank;rw[sy,if_neg (by omega)];exact B.fr fR i (by omega) h2
 ·rw[he];exact⟨hFB,hF0,Hh.cur⟩
theorem u6{K1:KS}{P1:CS}{k:Cp}{m:Int}(I:Inv K1 P1 k m){of:Nat}(jK:of<=24)(hr:aF K1.fo K1.fi of=true)(hm:m<1099511627775)(D:KS->Int->Nat->Nat):Bf of D K1 P1 k m:=by
 have C0:=ye I.b I.h I.l.eZ I.l.ok.gd.calm ⟨I.l.next.2.1,by have:=I.l.next.2.2.1;omega⟩ (fun o ho e=>by
  obtain⟨_,t,D0,a2,_⟩:=I.l.cI ho e;exact⟨t,D0,a2⟩) I.free jK hr D
 have na:=C0.blank;refine⟨C0,fun T hT=>?_⟩
 ·have lV:∀o,o<25->K1.at_ o≠0->K1.at_ o-1≠K1.fb*8+K1.fi:=fun o ho e x=>by
   obtain⟨_,t,D0,a2,_⟩:=I.l.cI ho e;rw[x,na] at a2
   cases a2
  have key:T.calm/\(∀q,q≠K1.fb*8+K1.fi->T.pg q=P1.pg q)/\∀t D0,T.pg (K1.fb*8+K1.fi)≠.full t D0:=by
   have c0:=I.l.ok.gd.calm;have c1:=CS.bV c0 (K1.fb*8+K1.fi) (.ct 1);have c2:=CS.bV c1 (K1.fb*8+K1.fi) (.ct 2);have c3:=CS.bV c2 (K1.fb*8+K1.fi) (.ct 3);unfold CS.wG at hT;simp only[List.mem_cons,List.not_mem_nil,or_false] at hT;rcases hT with rfl|rfl|rfl|rfl
   ·exact⟨c0,fun _ _=>rfl,fun t D0 e=>by rw[na] at e;cases e⟩
   ·exact⟨c1,fun q hq=>by rw[CS.cJ _ _ hq],fun t D0 e=>by rw[CS.dJ] at e;cases e⟩
   ·exact⟨c2,fun q hq=>by rw[CS.cJ _ _ hq,CS.cJ _ _ hq],fun t D0 e=>by rw[CS.dJ] at e;cases e⟩
   ·exact⟨c3,fun q hq=>by rw[CS.cJ _ _ hq,CS.cJ _ _ hq,CS.cJ _ _ hq],fun t D0 e=>by rw[CS.dJ] at e;cases e⟩
  obtain⟨k1,k2,k3⟩:=key;refine⟨I.l.ok.sub k1 (fun q t D0 hq e=>?_) (fun o ho e=>k2 _ (lV o ho e)),fun a hs=>hs.same (fun o ho e=>k2 _ (lV o ho e))⟩;by_cases hqp:q=K1.fb*8+K1.fi
  ·subst hqp;exact absurd e (k3 t D0)
  ·rw[k2 q hqp] at e;exact e
def gV(a:Nat->Nat->Nat)(s:Nat)(f:Nat->Nat):Nat->Nat->Nat:=fun o=>if o=s then f else a o
structure DK(K:KS)(P:CS)(k:Cp)(m:Int)(K2:KS)(P2:CS)(k2:Cp)(tr:List CS)(a a2:Nat->Nat->Nat):Prop where
 inv:Inv K2 P2 k2 (m+1)
 tr:∀T,T∈tr->∃k3,AP T k3 (m+1) a
 sh:Ac P2 K2.at_ a2
 qu:K2.qu=K.qu
 cur:K2.cur=K.cur
section
variable{K1:KS}{P1:CS}{k:Cp}{m:Int}{of:Nat}{D:KS->Int->Nat->Nat}{L':Nat->Nat}
theorem Bf.old(E:Bf of D K1 P1 k m)(I:Inv K1 P1 k m){o:Nat}(ho:o<25)(e:K1.at_ o≠0):K1.at_ o-1≠K1.fb*8+K1.fi:=fun x=>by
 obtain⟨_,t,D0,a2,_⟩:=I.l.cI ho e;rw[x,E.blank] at a2
 cases a2
theorem Bf.en(E:Bf of D K1 P1 k m)(I:Inv K1 P1 k m)(h1:L' of=K1.fb*8+K1.fi+1)(h2:∀o,o<25->o≠of->L' o≠0->L' o=K1.at_ o):∀o,o<25->L' o≠0->∃t D0,(jw K1 P1 of D).pg (L' o-1)=.full t D0/\ah K1.en of ⟨K1.next,0,false⟩ o=⟨t.seq,t.copy,false⟩:=fun o ho e=>by
 unfold ah;by_cases h:o=of
 ·rw[if_pos h,h,h1,Nat.add_sub_cancel];exact⟨_,_,E.pg,rfl⟩
 ·rw[if_neg h];have h3:=h2 o ho h e;rw[h3] at e ⊢;obtain⟨t,D0,a1,a2⟩:=I.l.en o ho e;rw[E.ne _ (E.old I ho e)];exact⟨t,D0,a1,a2⟩
theorem Bf.room(E:Bf of D K1 P1 k m)(I:Inv K1 P1 k m)(h1:L' of=K1.fb*8+K1.fi+1)(h2:∀o,o<25->o≠of->L' o≠0->L' o=K1.at_ o):5<=au (lv L') 0:=by
 refine zK (st:=(cB K1 of).st) (fun b hb e=>fw.2 fun o ho e1 e2=>?_) E.free;obtain⟨t,D0,a1,_⟩:=E.en I h1 h2 o ho e1;have:=E.b.bl b ((L' o-1)%8) hb e (Nat.mod_lt _ (by omega));rw[show b*8+(L' o-1)%8=L' o-1 by omega,a1] at this
 cases this
end
theorem aby{K:KS}{s:Int}(hs:0<=s/\s<=1099511627775)(hF:Hl.HB K.F)(hc:K.cur<96)(sr:∀o,o<24->0<=K.fl o/\K.fl o<=1099511627775):(iA K s (-1)).told :=
 ⟨hs,by show(0:Int)<=(K.cur:Nat)/\((K.cur:Nat):Int)<=95;omega,sr,fun j hj=>(hF j hj).1,fun j hj=>(hF j hj).2.1⟩
theorem zN{K:KS}{P:CS}(B:AO K P)(s:Int):∀b,b<12->(iA K s (-1)).bad b=false:=fun b hb=>by
 have:=B.st b hb;show(decide (K.st b=3)||decide ((b:Int) = -1))=false;simp;omega
theorem gH(p:Cp):cm (sV p)=sV p:=by
 funext j;unfold cm;by_cases h:j<174
 ·rw[if_pos h]
 ·rw[if_neg h];unfold sV l9;rw[if_neg (by omega),if_neg (by omega),if_neg (by omega),if_neg (by omega),if_neg (by omega),if_neg (by omega)];rfl
theorem al6{K:KS}{P:CS}{k:Cp}{m:Int}(I:Inv K P k m):∀o,o<24->0<=K.fl o:=fun o ho=>by
 rw[<-I.l.fl o ho];exact(I.l.ok.cG.told.fl o ho).1
theorem alv{K:KS}{P:CS}{k:Cp}{m:Int}(I:Inv K P k m)(hm:m<1099511627775){s:Nat}(hs:s<24){f:Nat->Nat}(hf:∀j,f j<256):∃K1 P1 t1,AQ s (dO f) K P K1 P1 t1 /\
  Inv (cB K1 s) (jw K1 P1 s (dO f)) k (m+1)/\(cB K1 s).qu=K.qu/\(∀a,Ac P K.at_ a->(∀T,T∈zH K1 P1 t1->AP T k m a)/\Ac (jw K1 P1 s (dO f)) (cB K1 s).at_ (gV a s f))/\(cB K1 s).next=K.next+1/\(cB K1 s).cur=K.cur/\(cB K1 s).calls=K.calls/\∀J,Be J->∀n,J n K P->J (n+9) (cB K1 s) (jw K1 P1 s (dO f)):=by
 obtain⟨K1,P1,t1,O⟩:=ade I (of:=s) (by omega);have I1:=O.inv;have E:=u6 I1 (of:=s) (by omega) O.room hm (dO f);obtain⟨ow,F,calls,he,iB,hc1,lU⟩:=E.eq;have we:∀j,dO f (bJ K1) K1.next j<256:=fun j=>by
  unfold dO;split
  ·exact hf j
  ·omega
 have iR:cm (dO f (bJ K1) K1.next)=dO f (bJ K1) K1.next:=by
  funext j;unfold cm dO;by_cases h:j<174
  ·rw[if_pos h]
  ·rw[if_neg h,if_neg (by omega)]
 have bA:=E.pg;rw[iR] at bA;have h1:ah K1.at_ s (K1.fb*8+K1.fi+1) s=K1.fb*8+K1.fi+1:=if_pos rfl;have h2:∀o,o<25->o≠s->ah K1.at_ s (K1.fb*8+K1.fi+1) o=K1.at_ o:=fun o ho hn=>if_neg hn
 obtain⟨ok,uq⟩:=I1.l.ok.new (P':=jw K1 P1 s (dO f)) (k':=k) (L':=ah K1.at_ s (K1.fb*8+K1.fi+1)) (m':=m+1) (p:=K1.fb*8+K1.fi) (o:=s) (t:=dw K1 s) (D:=dO f (bJ K1) K1.next) I1.l.uq (CS.mQ E.calm _ _ _) E.lt (by omega) rfl
  ⟨E.ok,rfl,rfl,we,iR⟩ bA E.blank (fun q _ hq=>E.ne q hq) (fun q t' D' hq e=>I1.l.next.1 q t' D' hq e) h1
  (fun _=>⟨rfl,by rw[I1.l.fl s hs];exact I1.l.next.2.2.2 s hs,fun i hi hn=>h2 i hi hn⟩) (fun x=>by omega)
  (E.room I1 h1 (fun o ho hn _=>h2 o ho hn)) ⟨by have:=I1.l.next.2.2.1;show K1.next<m+1;omega,by omega,by have:=I1.l.ok.fl.1;omega,fun i hi=>by have:=I1.l.ok.fl.2 i hi;omega⟩;have fc:=I1.l.next;refine⟨K1,P1,t1,⟨oW I.b,O.op,E.fb,E.fi,O.room,E.next,E.hb,E.mw,E.calm,E.blank,E.ok,we⟩,⟨?_,E.b,E.h,E.free⟩,by rw[he];exact O.idle.qu,fun a lG=>⟨fun T hT=>?_,fun o j ho hj=>?_⟩,by rw[he];show K1.next+1=_;rw[O.idle.next],by rw[he];exact O.idle.cur,by rw[he];show calls=_;rw[hc1 (by omega)];exact O.idle.calls,fun J S n j=>S.put I1 E.toA6 hs (O.st J S n j)⟩
 ·rw[he];refine⟨ok,uq,E.en I1 h1 (fun o ho hn _=>h2 o ho hn),I1.l.fl,⟨fun q t D0 hq e=>?_,by show 1<=K1.next+1;omega,by show K1.next+1<=m+1;omega,fun o ho=>by have:=fc.2.2.2 o ho;show K1.fl o<K1.next+1;omega⟩,iB⟩;show t.seq<K1.next+1;by_cases wS:q=K1.fb*8+K1.fi
  ·rw[wS,bA] at e;injection e with e1 e2;rw[<-e1];show K1.next<K1.next+1;omega
  ·rw[E.ne q wS] at e;have:=fc.1 q t D0 hq e;omega
 ·rcases List.mem_append.1 hT with hT|hT
  ·exact O.tr a lG T hT
  ·exact⟨K1.at_,(E.tr T hT).1,(E.tr T hT).2 a (O.sh a lG)⟩
 ·rw[he];show arr _ (ah K1.at_ s (K1.fb*8+K1.fi+1)) o j=gV a s f o j;unfold arr gV;by_cases jm:o=s
  ·rw[if_pos jm,jm,h1,if_neg (by omega),Nat.add_sub_cancel];unfold aS;rw[bA];show dO f (bJ K1) K1.next j=f j;unfold dO;rw[if_pos hj]
  ·rw[if_neg jm,h2 o (by omega) jm];have h3:=O.sh a lG o j ho hj;unfold arr at h3;by_cases e:K1.at_ o=0
   ·rw[if_pos e] at h3 ⊢;exact h3
   ·rw[if_neg e] at h3 ⊢;rw[<-h3];unfold aS;rw[E.ne _ (E.old I1 (by omega) e)]
theorem aiP{K:KS}{P:CS}{k:Cp}{m:Int}(I:Inv K P k m)(hm:m<1099511627775):∃K1 P1 t1 k',AQ 24 aW K P K1 P1 t1/\(iA (bJ K1) K1.next (-1)).told /\
  Inv (cB K1 24) (jw K1 P1 24 aW) k' (m+1)/\(cB K1 24).qu=K.qu/\(∀a,Ac P K.at_ a->(∀T,T∈zH K1 P1 t1->AP T k m a)/\Ac (jw K1 P1 24 aW) (cB K1 24).at_ a)/\(cB K1 24).next=K.next+1/\(cB K1 24).cur=K.cur/\(cB K1 24).calls=0/\∀J,Be J->∀n,J n K P->J (n+9) (cB K1 24) (jw K1 P1 24 aW):=by
 obtain⟨K1,P1,t1,O⟩:=ade I (of:=24) (by omega);have I1:=O.inv;have E:=u6 I1 (of:=24) (by omega) O.room hm aW;obtain⟨ow,F,calls,he,iB,hc1,lU⟩:=E.eq;have fc:=I1.l.next;have kx:(iA (bJ K1) K1.next (-1)).told:=aby (by omega) I1.h.hb I1.h.cur (fun o ho=>⟨al6 I1 o ho,by have:=fc.2.2.2 o ho;show K1.fl o<=_;omega⟩);have cN:=zN (K:=bJ K1) (P:=P1) ⟨I1.b.st,I1.b.mT,I1.b.fst,I1.b.bl,I1.b.fr,I1.b.fb,I1.b.fi,I1.b.pn⟩ K1.next;have we:∀j,aW (bJ K1) K1.next j<256:=fun j=>jc _ j;have iR:cm (aW (bJ K1) K1.next)=aW (bJ K1) K1.next:=gH _;have bA:=E.pg;rw[iR] at bA;have h1:ah K1.at_ 24 (K1.fb*8+K1.fi+1) 24=K1.fb*8+K1.fi+1:=if_pos rfl;have h2:∀o,o<25->o≠24->ah K1.at_ 24 (K1.fb*8+K1.fi+1) o=K1.at_ o:=fun o ho hn=>if_neg hn
 obtain⟨ok,uq⟩:=I1.l.ok.new (P':=jw K1 P1 24 aW) (k':=iA (bJ K1) K1.next (-1)) (L':=ah K1.at_ 24 (K1.fb*8+K1.fi+1)) (m':=m+1) (p:=K1.fb*8+K1.fi) (o:=24) (t:=dw K1 24) (D:=aW (bJ K1) K1.next) I1.l.uq (CS.mQ E.calm _ _ _) E.lt (by omega) rfl
  ⟨E.ok,rfl,rfl,we,iR⟩ bA E.blank (fun q _ hq=>E.ne q hq) (fun q t' D' hq e=>I1.l.next.1 q t' D' hq e) h1
  (fun x=>by omega) (fun _=>⟨rfl,kx,cN,I1.h.sc,fun i hi=>.inl ⟨h2 i (by omega) (by omega),(I1.l.fl i hi).symm⟩⟩)
  (E.room I1 h1 (fun o ho hn _=>h2 o ho hn)) ⟨by show K1.next<m+1;omega,by omega,by show K1.next<m+1;omega,fun i hi=>by have:=fc.2.2.2 i hi;show K1.fl i<m+1;omega⟩;refine⟨K1,P1,t1,iA (bJ K1) K1.next (-1),⟨oW I.b,O.op,E.fb,E.fi,O.room,E.next,E.hb,E.mw,E.calm,E.blank,E.ok,we⟩,kx,⟨?_,E.b,E.h,E.free⟩,by rw[he];exact O.idle.qu,fun a lG=>⟨fun T hT=>?_,fun o j ho hj=>?_⟩,by rw[he];show K1.next+1=_;rw[O.idle.next],by rw[he];exact O.idle.cur,by rw[he];exact lU rfl,fun J S n j=>S.note I1 E.toA6 kx (O.st J S n j)⟩
 ·rw[he];refine⟨ok,uq,E.en I1 h1 (fun o ho hn _=>h2 o ho hn),fun o ho=>rfl,⟨fun q t D0 hq e=>?_,by show 1<=K1.next+1;omega,by show K1.next+1<=m+1;omega,fun o ho=>by have:=fc.2.2.2 o ho;show K1.fl o<K1.next+1;omega⟩,iB⟩;show t.seq<K1.next+1;by_cases wS:q=K1.fb*8+K1.fi
  ·rw[wS,bA] at e;injection e with e1 e2;rw[<-e1];show K1.next<K1.next+1;omega
  ·rw[E.ne q wS] at e;have:=fc.1 q t D0 hq e;omega
 ·rcases List.mem_append.1 hT with hT|hT
  ·exact O.tr a lG T hT
  ·exact⟨K1.at_,(E.tr T hT).1,(E.tr T hT).2 a (O.sh a lG)⟩
 ·rw[he];show arr _ (ah K1.at_ 24 (K1.fb*8+K1.fi+1)) o j=a o j;rw[<-O.sh a lG o j ho hj];unfold arr;rw[h2 o (by omega) (by omega)];by_cases e:K1.at_ o=0
  ·rw[if_pos e,if_pos e]
  ·rw[if_neg e,if_neg e];unfold aS;rw[E.ne _ (E.old I1 (by omega) e)]
theorem aiQ{K:KS}{P:CS}{k:Cp}{m:Int}(I:Inv K P k m)(hm:m<1099511627775){s:Nat}(hs:s<24)(h0:K.at_ s≠0):∃K1 P1 t1 k',AQ 24 (dy s (K.en s).seq) K P K1 P1 t1/\(wJ (bJ K1) s (K.en s).seq K1.next).told/\(cB K1 24).at_ s≠0/\(cB K1 24).at_ s<=96 /\
  Inv (zL (sY (cB K1 24) s (K.en s).seq) s) (jw K1 P1 24 (dy s (K.en s).seq)) k' (m+1)/\(zL (sY (cB K1 24) s (K.en s).seq) s).qu=K.qu/\(∀a,Ac P K.at_ a->(∀T,T∈zH K1 P1 t1->AP T k m a)/\Ac (jw K1 P1 24 (dy s (K.en s).seq)) (zL (sY (cB K1 24) s (K.en s).seq) s).at_ (gV a s (fun _=>0))) /\
  (zL (sY (cB K1 24) s (K.en s).seq) s).next=K.next+1/\(zL (sY (cB K1 24) s (K.en s).seq) s).cur=K.cur/\(zL (sY (cB K1 24) s (K.en s).seq) s).calls=0/\∀J,Be J->∀n,J n K P->J (n+9) (zL (sY (cB K1 24) s (K.en s).seq) s) (jw K1 P1 24 (dy s (K.en s).seq)):=by
 obtain⟨K1,P1,t1,O⟩:=ade I (of:=24) (by omega);have I1:=O.inv;have E:=u6 I1 (of:=24) (by omega) O.room hm (dy s (K.en s).seq);obtain⟨ow,F,calls,he,iB,hc1,lU⟩:=E.eq;have fc:=I1.l.next
 -- the number's cI, as it lay and as it lies
 have h0':K1.at_ s≠0/\(K1.en s).seq=(K.en s).seq:=O.tag s (by omega) h0;obtain⟨h01,hsq⟩:=h0';obtain⟨hp1,t0,D0,a2,a3,a4,a5,a6,a7,a8⟩:=I1.l.cI (o:=s) (by omega) h01;have mE:(K.en s).seq=t0.seq:=by rw[<-hsq,a3]
 rw[mE] at E ⊢;have ht5:=a5;unfold Tg.ok at ht5;have ar8:=fc.1 _ t0 D0 hp1 a2;have kx:(wJ (bJ K1) s t0.seq K1.next).told:=by
  refine⟨by show 0<=K1.next/\K1.next<=_;omega,by show(0:Int)<=(K1.cur:Nat)/\((K1.cur:Nat):Int)<=95;have:=I1.h.cur;omega,fun o ho=>?_,fun j hj=>(I1.h.hb j hj).1,fun j hj=>(I1.h.hb j hj).2.1⟩;show 0<=ah K1.fl s t0.seq o/\ah K1.fl s t0.seq o<=_;unfold ah;split
  ·omega
  ·have:=al6 I1 o ho;have:=fc.2.2.2 o ho;omega
 have cN:∀b,b<12->(wJ (bJ K1) s t0.seq K1.next).bad b=false:=zN (K:=bJ K1) (P:=P1) ⟨I1.b.st,I1.b.mT,I1.b.fst,I1.b.bl,I1.b.fr,I1.b.fb,I1.b.fi,I1.b.pn⟩ K1.next;have we:∀j,dy s t0.seq (bJ K1) K1.next j<256:=fun j=>jc _ j;have iR:cm (dy s t0.seq (bJ K1) K1.next)=dy s t0.seq (bJ K1) K1.next:=gH _;have bA:=E.pg;rw[iR] at bA;have hL:∃L':Nat->Nat,L'=ah (ah K1.at_ 24 (K1.fb*8+K1.fi+1)) s 0:=⟨_,rfl⟩;obtain⟨L',hL⟩:=hL;have h1:L' 24=K1.fb*8+K1.fi+1:=by
  rw[hL];unfold ah;rw[if_neg (by omega),if_pos rfl]
 have h2:∀o,o<25->o≠24->L' o≠0->L' o=K1.at_ o:=fun o ho hn e=>by
  rw[hL] at e ⊢;unfold ah at e ⊢;by_cases jm:o=s
  ·rw[if_pos jm] at e;exact absurd rfl e
  ·rw[if_neg jm,if_neg hn]
 have h3:L' s=0:=by rw[hL];exact if_pos rfl
 have h4:∀o,o<24->o≠s->L' o=K1.at_ o:=fun o ho hn=>by
  rw[hL];unfold ah;rw[if_neg hn,if_neg (by omega)]
 obtain⟨ok,uq⟩:=I1.l.ok.new (P':=jw K1 P1 24 (dy s t0.seq)) (k':=wJ (bJ K1) s t0.seq K1.next) (L':=L') (m':=m+1) (p:=K1.fb*8+K1.fi) (o:=24) (t:=dw K1 24) (D:=dy s t0.seq (bJ K1) K1.next) I1.l.uq (CS.mQ E.calm _ _ _) E.lt (by omega) rfl
  ⟨E.ok,rfl,rfl,we,iR⟩ bA E.blank (fun q _ hq=>E.ne q hq) (fun q t' D' hq e=>I1.l.next.1 q t' D' hq e) h1
  (fun x=>by omega) (fun _=>⟨rfl,kx,cN,I1.h.sc,fun i hi=>by
   by_cases his:i=s
   ·subst his;exact .inr ⟨h3,h01,t0,D0,a2,if_pos rfl⟩
   ·exact .inl ⟨h4 i hi his,(if_neg his).trans (I1.l.fl i hi).symm⟩⟩)
  (E.room I1 h1 h2) ⟨by show K1.next<m+1;omega,by omega,by show K1.next<m+1;omega,fun i hi=>by
   show ah K1.fl s t0.seq i<m+1;unfold ah;split
   ·omega
   ·have:=fc.2.2.2 i hi;omega⟩
 have da:(cB K1 24).at_ s=K1.at_ s:=by
  rw[he];show ah K1.at_ 24 _ s=_;exact if_neg (by omega)
 have hle:=I1.l.ok.cG.lt (o:=s) (by omega);refine⟨K1,P1,t1,wJ (bJ K1) s t0.seq K1.next,⟨oW I.b,O.op,E.fb,E.fi,O.room,E.next,E.hb,E.mw,E.calm,E.blank,E.ok,we⟩,kx,by rw[da];exact h01,by rw[da];exact hle,⟨?_,?_,?_,E.free⟩,by rw[he];exact O.idle.qu,fun a lG=>⟨fun T hT=>?_,fun o j ho hj=>?_⟩,by rw[he];show K1.next+1=_;rw[O.idle.next],by rw[he];exact O.idle.cur,by rw[he];exact lU rfl,fun J S n j=>S.trim I1 E.toA6 kx hs (O.st J S n j)⟩
 ·have hen:=E.en I1 h1 h2
  have hcd:=iB.drop (o:=s) (by omega) (by
   show ah K1.at_ 24 _ s≠0;rw[show ah K1.at_ 24 (K1.fb*8+K1.fi+1) s=K1.at_ s from if_neg (by omega)];exact h01)
  rw[he];unfold zL sY;simp only;rw[<-hL] at hcd ⊢;refine⟨ok,uq,hen,fun o ho=>rfl,⟨fun q t D1 hq e=>?_,by show 1<=K1.next+1;omega,by show K1.next+1<=m+1;omega,fun o ho=>?_⟩,hcd⟩
  ·show t.seq<K1.next+1;by_cases wS:q=K1.fb*8+K1.fi
   ·rw[wS,bA] at e;injection e with e1 e2;rw[<-e1];show K1.next<K1.next+1;omega
   ·rw[E.ne q wS] at e;have:=fc.1 q t D1 hq e;omega
  ·show ah K1.fl s t0.seq o<K1.next+1;unfold ah;split
   ·omega
   ·have:=fc.2.2.2 o ho;omega
 ·have B:=E.b;exact⟨B.st,B.mT,B.fst,B.bl,B.fr,B.fb,B.fi,B.pn⟩
 ·have B:=E.h;exact⟨B.hb,B.sc,B.cur⟩
 ·rcases List.mem_append.1 hT with hT|hT
  ·exact O.tr a lG T hT
  ·exact⟨K1.at_,(E.tr T hT).1,(E.tr T hT).2 a (O.sh a lG)⟩
 ·rw[he];unfold zL sY;simp only;rw[<-hL];unfold arr gV;by_cases jm:o=s
  ·rw[if_pos jm,jm,h3,if_pos rfl]
  ·rw[if_neg jm,h4 o ho jm];have h5:=O.sh a lG o j ho hj;unfold arr at h5;by_cases e:K1.at_ o=0
   ·rw[if_pos e] at h5 ⊢;exact h5
   ·rw[if_neg e] at h5 ⊢;rw[<-h5];unfold aS;rw[E.ne _ (E.old I1 (by omega) e)]
end
section
open Go.RowKit
theorem Ao.mono{P:CS}{k:Cp}{L:Nat->Nat}{m m':Int}(h:Ao P k L m)(hm:m<=m'):Ao P k L m' :=
 ⟨h.gd,h.cG,h.room,h.tw,fun p t D hp e=>by have:=h.sq p t D hp e;omega,by have:=h.fl.1;omega,fun o ho=>by have:=h.fl.2 o ho;omega⟩
def Tl(T:CS)(m:Int)(a:Nat->Nat->Nat):Prop:=∃k L,Ao T k L m/\Ac T L a
theorem AP.tl{T:CS}{k:Cp}{m m':Int}{a:Nat->Nat->Nat}(h:AP T k m a)(hm:m<=m'):Tl T m' a:=by
 obtain⟨L,h1,h2⟩:=h;exact⟨k,L,h1.mono hm,h2⟩
theorem Tl.mono{T:CS}{m m':Int}{a:Nat->Nat->Nat}(h:Tl T m a)(hm:m<=m'):Tl T m' a:=by
 obtain⟨k,L,h1,h2⟩:=h;exact⟨k,L,h1.mono hm,h2⟩
theorem Inv.mono{K:KS}{P:CS}{k:Cp}{m m':Int}(I:Inv K P k m)(hm:m<=m'):Inv K P k m' :=
 ⟨⟨I.l.ok.mono hm,I.l.uq,I.l.en,I.l.fl,⟨I.l.next.1,I.l.next.2.1,by have:=I.l.next.2.2.1;omega,I.l.next.2.2.2⟩,I.l.eZ⟩,I.b,I.h,I.free⟩
theorem Inv.same{K K':KS}{P P':CS}{k:Cp}{m:Int}(I:Inv K P k m)(bA:P'.pg=P.pg)(hc:P'.calm)(hF:Hl.HB K'.F)(hF0:∀b,b<12->K'.F (12+b)=0)(uB:K'.cur<96)
  (e:K'={ K with F:=K'.F,cur:=K'.cur,calls:=K'.calls,qu:=K'.qu,fu:=K'.fu,kh:=K'.kh }):Inv K' P' k m:=by
 have ok:Ao P' k K.at_ m:=I.l.ok.sub hc (fun q t D _ h=>by rw[<-bA];exact h) (fun o _ _=>by rw[bA]);have H:Bx K':=⟨hF,hF0,uB⟩;rw[e] at H ⊢
 exact⟨⟨ok,fun p q t t' D D' hp hq h1 h2=>by rw[bA] at h1 h2;exact I.l.uq p q t t' D D' hp hq h1 h2,fun o ho h=>by rw[bA];exact I.l.en o ho h,I.l.fl,⟨fun p t D hp h=>by rw[bA] at h;exact I.l.next.1 p t D hp h,I.l.next.2⟩,I.l.eZ⟩,
  ⟨I.b.st,I.b.mT,I.b.fst,fun b i hb h hi=>by rw[bA];exact I.b.bl b i hb h hi,fun h i h1 h2=>by rw[bA];exact I.b.fr h i h1 h2,I.b.fb,I.b.fi,I.b.pn⟩,H,I.free⟩
theorem aes{F:Nat->Int}{x:Nat}(hx:x<12)(h:∀b,b<12->F (12+b)=0):∀b,b<12->Hl.qM F x (12+b)=0:=fun b hb=>by
 unfold Hl.qM Hl.nU;rw[if_neg (by omega)];exact h b hb
theorem Inv.read{K:KS}{P:CS}{k:Cp}{m:Int}(I:Inv K P k m){p:Nat}(hp:p<96):Inv (pT K p) (P.bC p) k m :=
 I.same rfl (CS.gq I.l.ok.gd.calm p) (I.h.hb.rd (by omega)) (aes (by omega) I.h.sc) I.h.cur rfl
theorem Inv.td{K:KS}{P:CS}{k:Cp}{m:Int}(I:Inv K P k m):∀i,Inv (iC K i) (qU K P i) k m
 |0=>I.same (K':=ptK K) rfl I.l.ok.gd.calm I.h.hb I.h.sc (Nat.mod_lt _ (by omega)) rfl
 | i+1=>by
  rw[u1,u2];exact(Inv.td I i).read (Nat.mod_lt _ (by omega))
theorem Inv.pop{K:KS}{P:CS}{k:Cp}{m:Int}(I:Inv K P k m)(q:List Nat):Inv (dC K q) P k m:=I.same rfl I.l.ok.gd.calm I.h.hb I.h.sc I.h.cur rfl
theorem Inv.md{K:KS}{P:CS}{k:Cp}{m:Int}(I:Inv K P k m)(x:Nat):Inv (mdK K x) P k m:=I.same rfl I.l.ok.gd.calm I.h.hb I.h.sc I.h.cur rfl
theorem Inv.anO{K:KS}{P:CS}{k:Cp}{m:Int}(I:Inv K P k m):Cm K P:=fun p hp=>by
 refine⟨I.l.eZ.mw.lo p hp,fun h=>?_⟩;obtain⟨h1,h2⟩:=I.l.eZ.o p hp h;obtain⟨_,t,D,a2,_⟩:=I.l.cI (o:=K.ow p-1) (by omega) (by omega);rw[h2,Nat.add_sub_cancel] at a2;exact⟨t,D,a2,by rw[I.l.ok.gd.calm.d];omega⟩
theorem Inv.zO{K:KS}{P:CS}{k:Cp}{m:Int}(I:Inv K P k m):Hl.HB K.F/\K.cur<96/\(∀o,o<25->K.at_ o<=96)/\Cm K P:=⟨I.h.hb,I.h.cur,fun o ho=>I.l.ok.cG.lt ho,I.anO⟩
theorem qY{k:Cp}{m:Int}:∀(q:List Nat) (K:KS) (P:CS),K.qu=q->q.length<=13->(∀x,x∈q->x<12)->Inv K P k m->∃K' P' tr,AT K P K' P' tr/\Inv K' P' k m/\K'.qu=[]/\K'.next=K.next/\K'.cur=K.cur/\K'.calls=K.calls/\(∀J,Be J->∀n,J n K P->J (n+8*q.length) K' P')/\∀a,Ac P K.at_ a->(∀T,T∈tr->AP T k m a)/\Ac P' K'.at_ a
 | [],K,P,hq,_,_,I=>⟨K,P,[],.done hq,I,hq,rfl,rfl,rfl,fun J S n j=>S.mono (by simp) j,fun a h=>⟨(fun _ h=>nomatch h),h⟩⟩
 | v::q,K,P,hq,hl,hx,I=>by
  have hv:=hx v (List.mem_cons_self ..);have hx':∀x,x∈q->x<12:=fun x h=>hx x (List.mem_cons_of_mem _ h);have hl':q.length<=12:=by simp at hl;omega
  have I1:=I.pop q;by_cases h0:lv K.at_ v=0
  ·obtain⟨K',P',tr,a1,a2,a3,a4,a5,a6,a8,a7⟩:=qY q (dC K q) P rfl (by omega) hx' I1;exact⟨K',P',tr,.skip hq hv hl' (fun o ho=>I.l.ok.cG.lt ho) h0 a1,a2,a3,a4,a5,a6,fun J S n j=>S.mono (by rw[List.length_cons];omega) (a8 J S n (S.adm (K:=K) rfl rfl rfl rfl rfl rfl j)),a7⟩
  ·have bq:(dC K q).st v≠0:=fun e=>h0 (I.l.ok.cG.dead (fun i hi=>I.b.bl v i hv e hi));obtain⟨d,V⟩:=aer I1.l I1.b I1.h I1.free hv bq;have I2:=(V.inv I1).md (lv K.at_ v);have nM:(nX (dC K q) P v d).qu=q:=V.idle.qu;obtain⟨K',P',tr,a1,a2,a3,a4,a5,a6,a8,a7⟩:=qY q (mdK (nX (dC K q) P v d) (lv K.at_ v)) (vZ (dC K q) P v d) nM (by omega) hx' I2;refine⟨K',P',vcT (dC K q) P v d++tr,.move hq hv hl' (fun o ho=>I.l.ok.cG.lt ho) h0 (oW I.b) (by rw[I.h.sc v hv];omega) V.hyp nM a1,a2,a3,a4.trans V.idle.next,a5.trans V.idle.cur,a6.trans V.idle.calls,fun J S n j=>S.mono (by rw[List.length_cons];omega) (a8 J S (n+8) (S.adm (K:=nX (dC K q) P v d) rfl rfl rfl rfl rfl rfl (S.vac I1 V (S.adm (K:=K) rfl rfl rfl rfl rfl rfl j)))),fun a hs=>?_⟩;obtain⟨b1,b2⟩:=a7 a (V.sh a hs);refine⟨fun T hT=>?_,b2⟩;rcases List.mem_append.1 hT with hT|hT
   ·exact V.al5 hs T hT
   ·exact b1 T hT
theorem yf(K:KS):∀b,b<=12->∀x,x∈cE K [] b->x<12
 |0,_,x,h=>nomatch h
 | b+1,hb,x,h=>by
  have ih:=yf K b (by omega) x;rw[jy] at h;unfold sx at h;split at h
  ·split at h
   ·exact ih h
   ·rcases List.mem_append.1 h with h|h
    ·exact ih h
    ·rw[List.mem_singleton.1 h];omega
  ·exact ih h
theorem Be.td{J:Nat->KS->CS->Prop}(S:Be J){n:Nat}{K:KS}{P:CS}(h0:0<=K.calls)(h8:K.calls<8)(j:J n K P):∀i,J (n+i) (iC K i) (qU K P i)
 |0=>S.pt h0 h8 j
 | i+1=>by
  rw[u1,u2];exact S.rd (Nat.mod_lt _ (by omega)) (S.td h0 h8 j i)
theorem anP{x:Int}(h0 : -9223372036854775808<=x)(h1:x<=9223372036854775807):jI x=x:=by
 unfold jI;simp[IntKind.wrap,IntKind.signed,IntKind.bits];omega
theorem anQ(F:Nat->Int):Hl.lz (Hl.ntF F)=false:=by
 unfold Hl.lz;rw[List.any_eq_false];intro b hb;have hb:=List.mem_range.1 hb;unfold Hl.ntF;rw[if_pos (by omega),if_neg (by omega),show 24+b-24=b by omega];simp
attribute [local irreducible] iC qU cE
theorem u7{K:KS}{P:CS}{k:Cp}{m:Int}(I:Inv K P k m)(hm:m<1099511627775):∃K' P' tr k',Aw K P K' P' tr/\Inv K' P' k' (m+1)/\K'.qu=[]/\K.next<=K'.next/\(0<=K.calls->K.calls<8->(0<=K'.calls/\K'.calls<8/\Hl.lz K'.F=false)/\∀J,Be J->∀n,J n K P->J (n+113) K' P')/\∀a,Ac P K.at_ a->(∀T,T∈tr->Tl T (m+1) a)/\Ac P' K'.at_ a:=by
 have I8:=(I.td 8).pop (cE (iC K 8) [] 12);have da:(iC K 8).at_=K.at_:=by
  obtain⟨F,e⟩:=ku K 8;rw[e];rfl
 have fc:(iC K 8).next=K.next:=by
  obtain⟨F,e⟩:=ku K 8;rw[e];rfl
 have hs8:∀a,Ac P K.at_ a->Ac (qU K P 8) (tqK K).at_ a:=fun a hs=>by
  show Ac (qU K P 8) (iC K 8).at_ a;rw[da];exact hs.same (fun o _ _=>by rw[(u3 K P 8).1])
 obtain⟨K1,P1,t1,T1,I1,q1,n1,c1,ca1,z1,s1⟩:=qY (k:=k) (m:=m) (cE (iC K 8) [] 12) (tqK K) (qU K P 8) rfl (by have:=lH (iC K 8) 12;omega) (yf _ 12 (by omega)) I8;have n1:K1.next=K.next:=n1.trans fc;have hcl:(iC K 8).calls=jI (K.calls+1):=by
  obtain⟨F,e⟩:=ku K 8;rw[e];rfl
 have aq9:K1.calls=jI (K.calls+1):=ca1.trans hcl;have hz:0<=K.calls->K.calls<8->∀J,Be J->∀n,J n K P->J (n+104) K1 P1:=fun h0 h8 J S n j=>by
  have j8:=S.td h0 h8 j 8;have hl:=lH (iC K 8) 12;exact S.mono (by omega) (z1 J S (n+8) (S.adm (K:=iC K 8) rfl rfl rfl rfl rfl rfl j8))
 by_cases hd:8<=K1.calls\/Hl.lz K1.F=true
 ·obtain⟨K2,P2,t2,k',L2,w2,I2,q2,s2,n2,_,c2,z2⟩:=aiP I1 hm;refine⟨_,_,_,k',.note T1 (oW I1.b) I1.h.hb hd L2 w2,I2,q2.trans q1,by rw[n2];omega,fun h0 h8=>⟨⟨by rw[c2];omega,by rw[c2];omega,anQ _⟩,fun J S n j=>z2 J S (n+104) (hz h0 h8 J S n j)⟩,fun a hs=>?_⟩;obtain⟨b1,b2⟩:=s1 a (hs8 a hs);obtain⟨d1,d2⟩:=s2 a b2;refine⟨fun T hT=>?_,d2⟩;rcases List.mem_append.1 hT with hT|hT
  ·exact(b1 T hT).tl (by omega)
  ·exact(d1 T hT).tl (by omega)
 ·have h1:K1.calls<8:=by omega
  have h2:Hl.lz K1.F=false:=by
   cases h:Hl.lz K1.F
   ·rfl
   ·exact absurd (.inr h) hd
  refine⟨_,_,_,k,.quiet T1 (oW I1.b) I1.h.hb h1 h2,I1.mono (by omega),q1,by omega,fun h0 h8=>⟨⟨by rw[aq9,anP (by omega) (by omega)];omega,h1,h2⟩,fun J S n j=>S.mono (by omega) (hz h0 h8 J S n j)⟩,fun a hs=>?_⟩;obtain⟨b1,b2⟩:=s1 a (hs8 a hs);exact⟨fun T hT=>(b1 T hT).tl (by omega),b2⟩
end
section
open Go.RowKit
def pY(o p:Int)(s:En)(f:Fd):En:=if f.place=p/\f.of=o/\s.seq<=f.seq then ⟨f.seq,f.copy,f.lost⟩ else s
def ky(L:List Fd)(o p:Int):En:=L.foldl (pY o p) En.zero
theorem qZ(L:List Fd)(o p:Int)(f:Fd):ky (L++[f]) o p=pY o p (ky L o p) f:=by
 unfold ky;rw[List.foldl_append];rfl
theorem abz(A:Option Addr)(c:Nat)(L:List Fd)(o p:Int)(w:World)(hr:Rd w A (L.length*6) (ju L))(hn:L.length*48<=140737488351232) :
  Spec Tryz.prog 132 #[.slice A L.length c,.int .i64 o,.int .i64 p] w fun v w'=>v=agg 3 (ky L o p).cell/\Aa [] w w':=by
 refine spec_of_wpE (T:=tt) ai func132 rfl (by decide +kernel) ntmps132 (by simp) ?_;conv=>whnf
 refine Ru.aE (ks w) ?_;intro g6 w1 hg6 dj r6 k1;conv=>whnf
 refine Ru.aE (ks w1) ?_;intro g7 w2 hg7 gO r7 k2;have r6:=r6.ab k2 (by simp);conv=>whnf
 repeat (refine CW.s ?_;conv=>whnf)
 refine CW.loop (ι:=Nat×En) (fun i wr=>i.1<=L.length/\ky (L.take i.1) o p=i.2/\Row wr g6 140 3 En.zero.cell/\Row wr g7 140 3 i.2.cell/\Aa [] w wr)
  (fun i=>[(1,.int .i64 o),(2,.int .i64 p),(6,.pointer (some ⟨g6,0,none⟩)),(7,.pointer (some ⟨g7,0,none⟩)),(10,.slice A L.length c),(11,.int .i64 L.length),(12,.int .i64 i.1)]) (fun i=>L.length-i.1) (0,En.zero) ai ⟨by simp,rfl,r6,r7,k1.trans k2⟩ ⟨rfl,rfl,rfl,rfl,rfl,rfl,rfl,trivial⟩ ?_;rintro⟨k,e⟩ wr ⟨hk,bq,r6,r7,kk⟩;simp only at hk bq r7;have ar9:=r7.lt;have anh:=r6.lt;by_cases av:k<L.length
 ·obtain⟨b,oo,rfl,hc⟩:=mL (hr.aj kk) k av;have kM:=jY av;generalize L.getD k Fd.zero=f at *;conv=>whnf
  repeat ((first|refine Ix.n ?_|refine Br.y ?_|refine CW.s ?_);conv=>whnf)
  refine Ru.aa2 hc ?_;conv=>whnf
  refine Ru.fN ?_;intro g9 w3 hg9 gg r9 k3;conv=>whnf
  refine Ru.uo r9 ?_;intro w4 r9 k4;have q4:Aa [] wr w4:=k3.then k4 (fun x hx=>.inr (by rw[List.mem_singleton.1 hx,hg9];exact Nat.le_refl _));have r7:=r7.ab q4 (by simp);have r6:=r6.ab q4 (by simp);have kk:=kk.trans q4;have zw:ky (L.take (k+1)) o p=pY o p e f:=by rw[kM,qZ,bq]
  have d76:g7≠g6:=by omega
  have c0:w4.cell? ⟨g9,0,none⟩=some (.int .i64 f.place):=r9.cell 0 (by omega);have c2:w4.cell? ⟨g9,2,none⟩=some (.int .i64 f.of):=r9.cell 2 (by omega);have c3:w4.cell? ⟨g9,3,none⟩=some (.int .i64 f.seq):=r9.cell 3 (by omega);have c4:w4.cell? ⟨g9,4,none⟩=some (.int .i64 f.copy):=r9.cell 4 (by omega);have c5:w4.cell? ⟨g9,5,none⟩=some (.bool f.lost):=r9.cell 5 (by omega);have s0:w4.cell? ⟨g7,0,none⟩=some (.int .i64 e.seq):=r7.cell 0 (by omega);by_cases h1:f.place=p/\f.of=o/\e.seq<=f.seq
  ·have hh:pY o p e f=⟨f.seq,f.copy,f.lost⟩:=if_pos h1;obtain⟨rfl,rfl,h3⟩:=h1;conv=>whnf
   repeat ((first|(refine Ld.at (by omega) c0 ?_)|(refine Ld.at (by omega) c2 ?_)|(refine Ld.at (by omega) c3 ?_)|(refine Ld.at (by omega) c4 ?_)|(refine Ld.at (by omega) c5 ?_)|(refine Ld.at (by omega) s0 ?_)|refine Br.t ?_|refine Pk.t ?_|refine Br.y ?_);conv=>whnf)
   refine Ru.of (abj _ _ _ _) ?_;rw[ail ⟨f.seq,f.copy,f.lost⟩];conv=>whnf
   refine Ru.im r7 dK (by omega) (fun j hj=>En.bj _) ?_;intro w5 r75 k5;have r75:Row w5 g7 140 3 (⟨f.seq,f.copy,f.lost⟩:En).cell:=r75.congr (fun j hj=>by unfold lay;rw[if_pos (by omega),Nat.sub_zero]);conv=>whnf
   repeat (refine Ar.la ?_;conv=>whnf)
   exact⟨(k+1,_),⟨av,zw.trans hh,r6.ab k5 (by simpa using d76.symm),r75,kk.then k5 (fun x hx=>.inr (by rw[List.mem_singleton.1 hx];have:=k1.size;omega))⟩,⟨rfl,rfl,rfl,rfl,rfl,rfl,rfl,trivial⟩,by simp only;omega⟩
  ·have hh:pY o p e f=e:=if_neg h1;conv=>whnf
   repeat' ((first|(refine Ld.at (by omega) c0 ?_)|(refine Ld.at (by omega) c2 ?_)|(refine Ld.at (by omega) c3 ?_)|(refine Ld.at (by omega) s0 ?_)|refine Br.t ?_|refine Br.f ?_|refine Pk.f ?_|refine Pk.t ?_|refine Ar.la ?_|refine Br.n ?_|refine Br.d (fun _=>?_) (fun _=>?_))<;>conv=>whnf)
   all_goals
    first
     |exact⟨(k+1,e),⟨av,zw.trans hh,r6,r7,kk⟩,⟨rfl,rfl,rfl,rfl,rfl,rfl,rfl,trivial⟩,by simp only;omega⟩
     |(exfalso;simp_all;done)
     |(exfalso;apply h1;refine⟨by omega,by omega,by omega⟩)
 ·obtain rfl:k=L.length:=by omega
  rw[List.take_length] at bq;conv=>whnf
  repeat ((first|refine Br.n ?_|refine CW.s ?_);conv=>whnf)
  refine Ru.cx (q:=e.cell) r7 underlying140 rfl dK (by omega) (fun j hj=>by rw[Nat.zero_add]) ?_;conv=>whnf
  refine Ru.im r6 dK (by omega) (fun j hj=>En.bj _) ?_;intro w5 qI k5;conv=>whnf
  refine Ru.cx (q:=e.cell) qI underlying140 rfl dK (by omega) (fun j hj=>by unfold lay;rw[if_pos (by omega)];rw[Nat.zero_add,Nat.sub_zero]) ?_;conv=>whnf
  exact⟨rfl,by rw[bq];rfl,kk.then k5 (fun x hx=>.inr (by rw[List.mem_singleton.1 hx];have:=k1.size;omega))⟩
section
variable{w w':World}{N:Cr}{K:KS}{X:Option Addr}{c:Nat}{P:CS}{b:Option Nat}{n:Int}
def rdN(F:Nat->Int)(b:Nat):Nat->Nat->Int
 |0=>F
 |k+1=>Hl.qM (rdN F b k) b
def wK(F:Nat->Int):Nat->Nat->Int
 |0=>F
 |b+1=>rdN (wK F b) b 8
theorem adf{F:Nat->Int}(h:Hl.HB F){b:Nat}(hb:b<12):∀k,Hl.HB (rdN F b k)
 |0=>h
 |k+1=>(adf h hb k).rd hb
theorem u9{F:Nat->Int}(h:Hl.HB F):∀b,b<=12->Hl.HB (wK F b)
 |0,_=>h
 |b+1,hb=>adf (u9 h b (by omega)) (by omega) 8
theorem aiR(F:Nat->Int):wK F 0=F:=rfl
theorem aiS(F:Nat->Int)(b:Nat):wK F (b+1)=rdN (wK F b) b 8:=rfl
theorem aiT(F:Nat->Int)(b:Nat):rdN F b 0=F:=rfl
theorem aiU(F:Nat->Int)(b k:Nat):rdN F b (k+1)=Hl.qM (rdN F b k) b:=rfl
attribute [local irreducible] rdN wK
def fK(K:KS)(F:Nat->Int):KS:={ K with F:=F }
theorem aet(h:On w N K P b n X c)(B:Hl.HB K.F){g:Nat}(rg:Row w g 3 12 (fun _=>.int .i64 8))(hg:g∉N.all) :
  Spec Tryz.prog 77 #[.pointer (some ⟨N.k,0,none⟩),.slice (some ⟨g,0,none⟩) 12 12] w fun v w'=>v=al 0/\On w' N (fK K (wK K.F 12)) P b n X c/\Aa N.all w w':=by
 refine spec_of_wpE (T:=tt) ai func77 rfl (by decide +kernel) ntmps77 (by simp) ?_;conv=>whnf
 repeat ((first|refine Br.f ?_|refine CW.s ?_);conv=>whnf)
 refine CW.loop (ι:=Nat) (fun i w'=>i<=12/\On w' N (fK K (wK K.F i)) P b n X c/\Row w' g 3 12 (fun _=>.int .i64 8)/\Aa N.all w w')
  (fun i=>[(0,.pointer (some ⟨N.k,0,none⟩)),(11,.slice (some ⟨g,0,none⟩) 12 12),(12,.int .i64 12),(13,.int .i64 i)]) (fun i=>12-i) 0 ai ⟨by omega,by rw[aiR];exact h,rg,Aa.refl _ _⟩ ⟨rfl,rfl,rfl,rfl,trivial⟩ ?_;clear h rg;rintro i wr ⟨hi,hr,rg,kk⟩;have hB:=u9 B i hi;by_cases av:i<12
 ·have ci:=rg.cell i av;conv=>whnf
  repeat ((first|(refine Ld.at (by omega) ci ?_)|refine Ix.n ?_|refine Br.y ?_|refine CW.s ?_);conv=>whnf)
  refine CW.loop (ι:=Nat) (fun k w'=>k<=8/\On w' N (fK K (rdN (wK K.F i) i k)) P b n X c/\Row w' g 3 12 (fun _=>.int .i64 8)/\Aa N.all w w')
   (fun k=>[(0,.pointer (some ⟨N.k,0,none⟩)),(5,.int .i64 i),(11,.slice (some ⟨g,0,none⟩) 12 12),(12,.int .i64 12),(13,.int .i64 i),(20,.int .i64 8),(21,.int .i64 k)]) (fun k=>8-k) 0 ai ⟨by omega,by rw[aiT];exact hr,rg,kk⟩ ⟨rfl,rfl,rfl,rfl,rfl,rfl,rfl,trivial⟩ ?_;clear hr rg kk ci;rintro k w2 ⟨hk,h2,rg,kk⟩;have hB2:=adf hB av k;by_cases hk8:k<8
  ·conv=>whnf
   repeat ((first|(refine Ld.of h2.core.c4 ?_)|refine Br.y ?_|refine CW.s ?_);conv=>whnf)
   refine Ca.of (Hl.zA w2 N.e _ h2.core.aH hB2 i av) ?_;rintro _ w3 ⟨rfl,r3,k3⟩;have h3:=h2.aH k3 r3;conv=>whnf
   repeat (refine Ar.la ?_;conv=>whnf)
   refine⟨k+1,⟨hk8,?_,rg.ab k3 (fun hm=>hg (bg (by rw[List.mem_singleton.1 hm];simp[Cr.own]))),kk.trans (Aa.jl (by simp[Cr.own]) k3)⟩,⟨rfl,rfl,rfl,rfl,rfl,rfl,vi (by omega),trivial⟩,by simp only;omega⟩;rw[aiU];exact h3
  ·obtain rfl:k=8:=by omega
   conv=>whnf
   repeat ((first|refine Br.f ?_|refine Ar.la ?_|refine CW.s ?_);conv=>whnf)
   refine⟨i+1,⟨av,?_,rg,kk⟩,⟨rfl,rfl,rfl,vi (by omega),trivial⟩,by simp only;omega⟩;rw[aiS];exact h2
 ·obtain rfl:i=12:=by omega
  conv=>whnf
  repeat ((first|refine Br.f ?_|refine CW.s ?_);conv=>whnf)
  exact⟨rfl,rfl,hr,kk⟩
end
def ig(k:Cp)(j:Nat):Int:=if j<12 then k.reads j else 0
def gA(k:Cp)(j:Nat):Int:=if j<12 then k.ic j else 0
def n0K(k:Cp)(L:List Fd):KS:=⟨fun _=>0,0,fun _=>0,fun _=>0,false,0,0,Hl.ld (ig k) (gA k),k.cur.toNat,0,[],fun _=>En.zero,k.fl,dG L k,0,0,0⟩
def cu(k:Cp)(L:List Fd):Nat->KS
 |0=>n0K k L
 |i+1=>if bp L k i<0 then cu k L i else { cu k L i with at_:=(setAt (cu k L i).at_ (cu k L i).ow i (bp L k i).toNat).1,ow:=(setAt (cu k L i).at_ (cu k L i).ow i (bp L k i).toNat).2,en:=ah (cu k L i).en i (ky L i (bp L k i)) }
theorem kE(k:Cp)(L:List Fd):cu k L 0=n0K k L:=rfl
theorem kF(k:Cp)(L:List Fd)(i:Nat):cu k L (i+1)=if bp L k i<0 then cu k L i else { cu k L i with at_:=(setAt (cu k L i).at_ (cu k L i).ow i (bp L k i).toNat).1,ow:=(setAt (cu k L i).at_ (cu k L i).ow i (bp L k i).toNat).2,en:=ah (cu k L i).en i (ky L i (bp L k i)) }:=rfl
def n2K(K:KS):Nat->KS
 |0=>K
 |b+1=>if 0<lv K.at_ b then { n2K K b with st:=aD (n2K K b).st b 2 } else n2K K b
theorem abA(K:KS):n2K K 0=K:=rfl
theorem vd(K:KS)(b:Nat):n2K K (b+1)=if 0<lv K.at_ b then { n2K K b with st:=aD (n2K K b).st b 2 } else n2K K b:=rfl
theorem abB(K:KS):∀b,∃st,n2K K b={ K with st:=st }
 |0=>⟨K.st,rfl⟩
 | b+1=>by
  obtain⟨st,h⟩:=abB K b;unfold n2K;split
  ·rw[h];exact⟨_,rfl⟩
  ·exact⟨st,h⟩
def yg(k:Cp)(L:List Fd):KS:=n2K (cu k L 25) 12
structure Bm(k:Cp)(L:List Fd):Prop where
 told:k.told
 bad:∀b,b<12->k.bad b=false
 mw:∀i,i<=25->AL (cu k L i).at_ (cu k L i).ow
 set:∀i,i<25->0<=bp L k i->bp L k i<96/\ie (cu k L i).ow i (bp L k i).toNat=0
theorem aeu{k:Cp}(h:k.told):k.wf:=⟨fun j hj=>by have:=h.fl j hj;omega,by have:=h.next;omega,by have:=h.next;omega⟩
theorem ve(N:Cr)(k:Cp)(L:List Fd)(w:World):(Instr.build 143 #[(0,.pointer (some ⟨N.N.m,0,none⟩)),(1,.pointer (some ⟨N.p,0,none⟩)),(2,.pointer (some ⟨N.a,0,none⟩)),(3,.pointer (some ⟨N.r,0,none⟩)),(4,.pointer (some ⟨N.e,0,none⟩)),(5,.pointer (some ⟨N.q,0,none⟩)),(8,agg 24 (fun j=>.int .i64 (k.fl j))),(9,.int .i64 (dG L k))]).run Tryz.prog w=.ok (agg 110 (bZ N (n0K k L) none 0)) w:=by kernel_rfl
theorem pZ(w:World):(Instr.build 210 #[]).run Tryz.prog w=.ok (agg 3 (oS false 0 0)) w:=(pQ w).trans (by rw[<-xI false 0 0];rfl)
theorem mU(w:World)(x:Operand)(a:Addr):(do eqGuard .eql 24 x (.const (.pointer none)) (.pointer (some a)) (.pointer none);binOp .eql 24 (.pointer (some a)) (.pointer none):Sem Value).run Tryz.prog w=.ok (.bool false) w:=by kernel_rfl
section
variable{w w':World}{N:Cr}{K:KS}{X:Option Addr}{c:Nat}{P:CS}{b:Option Nat}{n:Int}
structure Bh(w0:World)(x4 ch h q:Nat)(k:Cp)(C:Chip)(A:Option Addr)(L:List Fd)(F:Nat->Int)(cur:Nat)(mm:Option Pt)(p a r:Option Nat)(w:World):Prop where
 kk:Aa [] w0 w
 r4:Row w x4 116 62 k.cell
 chp:Ab w ch C
 hr:Rd w A (L.length*6) (ju L)
 rh:Hl.Hr w h F
 rq:AG w q cur 0
 m:∀t,mm=some t->AN w t C 0/\t.c=ch/\w0.heap.size<=t.m/\w0.heap.size<=t.g
 p:∀x,p=some x->Aj w x (fun _=>0) 0/\w0.heap.size<=x
 a:∀x,a=some x->Ai w x (fun _=>0) (fun _=>0)/\w0.heap.size<=x
 r:∀x,r=some x->Ah w x false 0 0/\w0.heap.size<=x
section
variable{w0:World}{x4 ch h q:Nat}{k:Cp}{C:Chip}{A:Option Addr}{L:List Fd}{F:Nat->Int}{cur:Nat}{mm:Option Pt}{p a r:Option Nat}{w w':World}
theorem Bh.ab(H:Bh w0 x4 ch h q k C A L F cur mm p a r w)(k':Aa [] w w'):Bh w0 x4 ch h q k C A L F cur mm p a r w' :=
 ⟨H.kk.trans k',H.r4.ab k' (by simp),H.chp.ab k' (by simp),H.hr.aj k',Row.ab H.rh k' (by simp),Row.ab H.rq k' (by simp),fun t e=>⟨Ax.aj (H.m t e).1 k',(H.m t e).2⟩,fun x e=>⟨Row.ab (H.p x e).1 k' (by simp),(H.p x e).2⟩,fun x e=>⟨Row.ab (H.a x e).1 k' (by simp),(H.a x e).2⟩,fun x e=>⟨Row.ab (H.r x e).1 k' (by simp),(H.r x e).2⟩⟩
theorem Bh.apl(H:Bh w0 x4 ch h q k C A L F cur mm p a r w){m f cd g hh:Nat}(M:Ax w m ch f cd g hh C 0)(h1:w0.heap.size<=m)(h2:w0.heap.size<=g):Bh w0 x4 ch h q k C A L F cur (some ⟨m,ch,f,cd,g,hh⟩) p a r w :=
 ⟨H.kk,H.r4,H.chp,H.hr,H.rh,H.rq,fun t e=>by cases e;exact⟨M,rfl,h1,h2⟩,H.p,H.a,H.r⟩
theorem Bh.apm(H:Bh w0 x4 ch h q k C A L F cur mm p a r w){x:Nat}(M:Aj w x (fun _=>0) 0)(h1:w0.heap.size<=x):Bh w0 x4 ch h q k C A L F cur mm (some x) a r w :=
 ⟨H.kk,H.r4,H.chp,H.hr,H.rh,H.rq,H.m,fun t e=>by cases e;exact⟨M,h1⟩,H.a,H.r⟩
theorem Bh.apn(H:Bh w0 x4 ch h q k C A L F cur mm p a r w){x:Nat}(M:Ai w x (fun _=>0) (fun _=>0))(h1:w0.heap.size<=x):Bh w0 x4 ch h q k C A L F cur mm p (some x) r w :=
 ⟨H.kk,H.r4,H.chp,H.hr,H.rh,H.rq,H.m,H.p,fun t e=>by cases e;exact⟨M,h1⟩,H.r⟩
theorem Bh.apo(H:Bh w0 x4 ch h q k C A L F cur mm p a r w){x:Nat}(M:Ah w x false 0 0)(h1:w0.heap.size<=x):Bh w0 x4 ch h q k C A L F cur mm p a (some x) w :=
 ⟨H.kk,H.r4,H.chp,H.hr,H.rh,H.rq,H.m,H.p,H.a,fun t e=>by cases e;exact⟨M,h1⟩⟩
theorem Bh.on{t:Pt}{p a r:Nat}{P:CS}{b:Option Nat}{z:Nat}(H:Bh w0 x4 ch h q k C A L (Hl.ld (ig k) (gA k)) k.cur.toNat (some t) (some p) (some a) (some r) w)(hA:Abs C P)(hl:C.left b)(rz:Row w z 143 110 (bZ ⟨z,t,p,a,r,h,q⟩ (n0K k L) none 0)):On w ⟨z,t,p,a,r,h,q⟩ (n0K k L) P b 0 none 0 :=
 ⟨⟨rz,(H.p _ rfl).1,(H.a _ rfl).1,(H.r _ rfl).1,H.rh,H.rq,Ly.nil _ _ _ _⟩,C,(H.m _ rfl).1,hA,hl⟩
theorem Bh.s(H:Bh w0 x4 ch h q k C A L F cur mm p a r w):Row w x4 116 62 k.cell:=H.r4
end
attribute [local irreducible] cu n2K bp ky lv dG
theorem aiV{C:Chip}{ch:Nat}(H:Ab w ch C)(hA:Abs C P)(hl:C.left b){k:Cp}{L:List Fd}(Hk:Bm k L){A:Option Addr}{cA:Nat}(hr:Rd w A (L.length*6) (ju L))(hn:L.length*48<=140737488351232) :
  Spec Tryz.prog 76 #[.pointer (some ⟨ch,0,none⟩),agg 62 k.cell,.slice A L.length cA] w fun v w'=>∃N:Cr,v=.tuple #[.pointer (some ⟨N.k,0,none⟩),al 0]/\On w' N (yg k L) P b 0 none 0/\N.N.c=ch/\(∀x,x∈N.all->x=ch\/w.heap.size<=x)/\Aa [] w w':=by
 have acI:∀(w1 w2:World) (x:Nat),w.heap.size<=x->Aa [x] w1 w2->Rd w1 A (L.length*6) (ju L)->Rd w2 A (L.length*6) (ju L):=fun w1 w2 x hx k' h' hn0=>by
  obtain⟨b0,o0,rfl,yG⟩:=hr hn0;have:=aZ (yG 0 hn0);exact h'.ab k' (fun a e hm=>by
   cases e
   have:=List.mem_singleton.1 hm;simp only at *;omega) hn0
 have ht:=Hk.told;have aiW:ch<w.heap.size:=Row.lt H;refine spec_of_wpE (T:=tt) ai func76 rfl (by decide +kernel) ntmps76 (by simp) ?_;conv=>whnf
 refine Ru.dr ?_;intro x4 w1 qj dj r4 k1;conv=>whnf
 repeat (refine CW.s ?_;conv=>whnf)
 refine Ru.of (mU w1 _ _) ?_;conv=>whnf
 repeat ((first|refine Br.f ?_|refine CW.s ?_);conv=>whnf)
 refine Ru.vR r4 underlying116 rfl bu (by omega) ?_;rw[br (fun j _=>by rw[Nat.zero_add]:∀j,j<62->k.cell (0+j)=k.cell j)];conv=>whnf
 refine Ca.of (iK w1 k ht) ?_;rintro _ w2 ⟨y,hy,rfl,ry,k2⟩;have l8:=r4.ab k2 (by simp);have H2:=H.ab (k1.trans k2) (by simp);have sQ:=hr.aj (k1.trans k2);have dh:=k1.trans k2;have nV:w.heap.size<=x4:=by omega
 clear r4 H hr k1 k2 ry hy dj qj w1;conv=>whnf
 repeat ((first|refine Br.f ?_|refine Ru.ak ?_);conv=>whnf)
 refine CW.held (fun w'=>Row w' x4 116 62 k.cell) [] (.take 0 (.take 1 (.take 2 (.take 3 (.one 4 (.take 5 (.take 6 (.take 7 (.take 8 (.take 9 (.done))))))))))) ai (by kernel_rfl) (by kernel_rfl) (by kernel_rfl) ?_ ?_
 ·exact Row.drewN l8 1
 have q2:=(Aa.refl [] w2).drewN 1;have H3:=H2.ab q2 (by simp);have fS:=l8.ab q2 (by simp);have hr3:=sQ.aj q2;have bG:=dh.trans q2;clear H2 l8 sQ dh q2;generalize w2.drewN 1=w3 at *;have rdr:Rd w3 (some ⟨x4,38,none⟩) 12 (fun j=>.int .i64 (ig k j)):=fun _=>⟨x4,38,rfl,fun j hj=>by
  rw[fS.cell (38+j) (by omega),k.nA hj];unfold ig;simp only[if_pos hj]⟩
 have rds:Rd w3 (some ⟨x4,50,none⟩) 12 (fun j=>.int .i64 (gA k j)):=fun _=>⟨x4,50,rfl,fun j hj=>by
  rw[fS.cell (50+j) (by omega),k.nB hj];unfold gA;simp only[if_pos hj]⟩
 have anR:Hl.aea 12 12 (ig k) (gA k):=⟨rfl,rfl,fun j hj=>by
  unfold ig gA;rw[if_pos hj,if_pos hj];exact⟨(ht.rd j hj).1,(ht.sc j hj).1⟩⟩
 conv=>whnf
 refine Am.of (fun w _=>km x4 38 w) ?_;conv=>whnf
 refine Am.of (fun w _=>km x4 50 w) ?_;conv=>whnf
 refine Ca.of (Hl.yV _ _ 12 12 12 12 (ig k) (gA k) w3 rdr rds (fun j=>?_) (fun j=>?_)) ?_
 ·unfold ig;split
  ·have:=ht.rd j ‹_›;omega
  ·omega
 ·unfold gA;split
  ·have:=ht.sc j ‹_›;omega
  ·omega
 rintro _ w4 ⟨k4,gN⟩;rcases gN with⟨-,h,rfl,rh,hh⟩|⟨lW,-⟩
 case inr=>exact absurd anR lW
 have ia:=fS.ab k4 (by simp);have H4:=H3.ab k4 (by simp);have hr4:=hr3.aj k4;have bU:=bG.trans k4;have hhw:w.heap.size<=h:=Nat.le_trans bG.size hh;clear fS H3 hr3 bG k4 rdr rds;refine⟨ia,?_⟩;have uB:=ht.cur;obtain⟨cur,aiX⟩:∃cur:Nat,k.cur=cur:=⟨k.cur.toNat,by omega⟩;have c37:w4.cell? ⟨x4,37,none⟩=some (.int .i64 cur):=by
  rw[<-aiX];exact ia.cell 37 (by omega)
 conv=>whnf
 repeat ((first|(refine Ld.at (by omega) c37 ?_)|refine Br.f ?_|refine Ru.ak ?_|refine CW.s ?_);conv=>whnf)
 refine Ca.of (xL (cur:=cur) (by omega)) ?_;rintro _ w5 ⟨q,rfl,rq,hq,k5⟩;have iJ:=ia.ab k5 (by simp);have H5:=H4.ab k5 (by simp);have hr5:=hr4.aj k5;have rh5:=Row.ab rh k5 (by simp);have dL:=bU.trans k5;have hqw:w.heap.size<=q:=Nat.le_trans bU.size hq;clear ia H4 hr4 rh bU k5;conv=>whnf
 repeat ((first|refine Br.f ?_|refine Ru.ak ?_|refine CW.s ?_);conv=>whnf)
 refine CW.held (fun w'=>Row w' x4 116 62 k.cell) [] (.take 0 (.take 4 (.take 6 (.take 7 (.take 8 (.take 9 (.take 10 (.take 11 (.two 1 (.two 2 (.two 3 (.two 5 (.one 12 (.take 13 (.one 14 (.take 15 (.done))))) 12 (.one 5 (.take 13 (.one 14 (.take 15 (.done)))))) 5 (.one 3 (.one 12 (.take 13 (.one 14 (.take 15 (.done))))))) 5 (.one 2 (.one 3 (.one 12 (.take 13 (.one 14 (.take 15 (.done)))))))) 5 (.one 1 (.one 2 (.one 3 (.one 12 (.take 13 (.one 14 (.take 15 (.done))))))))))))))))) ai (by kernel_rfl) (by kernel_rfl) (by kernel_rfl) ?_ ?_
 ·exact Row.drewN iJ 1
 have q5:=(Aa.refl [] w5).drewN 1;have hS:Bh w x4 ch h q k C A L (Hl.ld (ig k) (gA k)) cur none none none none (w5.drewN 1):=⟨dL.trans q5,iJ.ab q5 (by simp),H5.ab q5 (by simp),hr5.aj q5,Row.ab rh5 q5 (by simp),Row.ab rq q5 (by simp),(fun _ h=>nomatch h),(fun _ h=>nomatch h),(fun _ h=>nomatch h),(fun _ h=>nomatch h)⟩;clear H5 iJ hr5 rh5 rq dL q5;generalize w5.drewN 1=w6 at *;have hwf:=aeu ht;conv=>whnf
 repeat' ((first|(refine And.intro ?_ ?_)|(refine Am.of (fun w _=>pZ w) ?_)|(refine Am.of (fun w hS=>ei (q:=fun j=>.int .i64 (k.fl j)) hS underlying114 rfl gm (by omega) (fun j hj=>by rw[show 0+0+j=j by omega];exact k.iy hj)) ?_)|(refine Am.of (fun w hS=>ei (q:=k.cell) hS underlying116 rfl bu (by omega) (fun j hj=>by rw[Nat.zero_add])) ?_)|(refine Ca.of (zj _ ch C hS.chp) ?_;rintro _ w7 ⟨m,f,cd,g,hh',hmw,hfw,pH,hgw,ara,rfl,M7,k7⟩;replace hS:=(hS.ab k7).apl M7 (Nat.le_trans hS.kk.size hmw) (Nat.le_trans hS.kk.size hgw);refine⟨hS.s,?_⟩)|(refine Ca.of (uA (w:=_)) ?_;rintro _ w8 ⟨p,rfl,rp,hp,k8⟩;replace hS:=(hS.ab k8).apm rp (Nat.le_trans hS.kk.size hp);refine⟨hS.s,?_⟩)|(refine Ca.of (xG (w:=_)) ?_;rintro _ w9 ⟨a,rfl,ra,ha,k9⟩;replace hS:=(hS.ab k9).apn ra (Nat.le_trans hS.kk.size ha);refine⟨hS.s,?_⟩)|(refine Ru.dr ?_;intro r tP hrr hs10 rr vV;replace hS:=(hS.ab vV).apo rr (by have:=hS.kk.size;omega);refine⟨hS.s,?_⟩)|(refine Ca.of (ad8 A cA L k _ hS.hr hn hwf) ?_;rintro _ zc ⟨rfl,jJ⟩;replace hS:=hS.ab jJ;refine⟨hS.s,?_⟩)|refine HS.t ?_|refine Br.t ?_|refine Br.f ?_|refine Pk.f ?_|refine Pk.t ?_|refine Pk.and ?_|refine Pk.or ?_|refine Ix.n ?_|refine Ix.of _ (by rfl) (by omega) ?_|refine Ix.i ?_|refine Ar.la ?_|refine Ar.lb ?_|refine Ar.lc ?_|refine Dv.q ?_|refine Dv.r ?_|refine Br.y ?_|refine Br.n ?_|refine Br.ny ?_|refine Br.nn ?_|refine Br.is (by assumption) ?_|refine Br.jB (by assumption) ?_|refine Ld.of (by assumption) ?_|refine Ru.ak ?_|refine Ru.n1 ?_|refine Ru.bh ?_|refine Ru.e1 ?_|refine Ru.e2 ?_|refine Ru.e3 ?_|refine Ru.n2 ?_|refine Ru.n3 ?_|refine Ru.js rfl ?_|refine Ru.pj rfl ?_|refine Ru.aem rfl (by decide) ?_|refine Ru.kT rfl (by decide) ?_|refine Ru.be ?_|refine Ru.bn ?_|refine Am.be ?_|refine Am.bn ?_|refine CW.s ?_|refine Br.d (fun _=>?_) (fun _=>?_)|refine Br.nd (fun _=>?_) (fun _=>?_)|refine Br.mk (fun _=>?_) (fun _=>?_))<;>conv=>whnf)
 all_goals
  refine Am.of (fun w _=>ve ⟨0,⟨m,ch,f,cd,g,hh'⟩,p,a,r,h,q⟩ k L w) ?_;conv=>whnf
  refine Ru.dr ?_;intro z wz hz vP rz kz;have hzw:w.heap.size<=z:=by have:=hS.kk.size;omega
  replace hS:=hS.ab kz;refine⟨hS.s,?_⟩;have hcc:k.cur.toNat=cur:=by omega
  rw[<-hcc] at hS;have hON:=hS.on hA hl rz;have cq:∀x,x∈(⟨z,⟨m,ch,f,cd,g,hh'⟩,p,a,r,h,q⟩:Cr).all->x=ch\/w.heap.size<=x:=fun x hx=>by
   have h1:w.heap.size<=m/\w.heap.size<=g:=(hS.m _ rfl).2.2;have h2:=(hS.p _ rfl).2;have h3:=(hS.a _ rfl).2;have h4:=(hS.r _ rfl).2;simp only[Cr.all,Cr.own,Pt.l,List.cons_append,List.nil_append,List.mem_cons,List.not_mem_nil,or_false] at hx;omega
  have mV:∀x,x∈(⟨z,⟨m,ch,f,cd,g,hh'⟩,p,a,r,h,q⟩:Cr).own->w.heap.size<=x:=fun x hx=>by
   have h2:=(hS.p _ rfl).2;have h3:=(hS.a _ rfl).2;have h4:=(hS.r _ rfl).2;simp only[Cr.own,List.mem_cons,List.not_mem_nil,or_false] at hx;omega
  have r4z:=hS.r4;have hrz:=hS.hr;have kkz:=hS.kk;generalize hN:(⟨z,⟨m,ch,f,cd,g,hh'⟩,p,a,r,h,q⟩:Cr)=N at *;have eN:z=N.k:=by rw[<-hN]
  have eC:N.N.c=ch:=by rw[<-hN]
  subst eN;clear hS rz kz vP hN;conv=>whnf
  repeat (refine CW.s ?_;conv=>whnf)
  refine Ru.vR r4z underlying116 rfl bu (by omega) ?_;rw[br (fun j _=>by rw[Nat.zero_add]:∀j,j<62->k.cell (0+j)=k.cell j)];conv=>whnf
  refine Ca.of (aej A cA L k wz hrz hn) ?_;rintro _ v1 ⟨rfl,kv⟩;have on0:On v1 N (cu k L 0) P b 0 none 0:=by
   rw[kE];exact hON.aj kv
  have r4v:=r4z.ab kv (by simp);have hrv:=hrz.aj kv;have kkv:=kkz.trans kv;clear hON r4z hrz kkz kv;conv=>whnf
  refine CW.loop (ι:=Nat) (fun i w'=>i<=25/\On w' N (cu k L i) P b 0 none 0/\Row w' x4 116 62 k.cell/\Rd w' A (L.length*6) (ju L)/\Aa [] w w')
   (fun i=>[(2,.slice A L.length cA),(4,.pointer (some ⟨x4,0,none⟩)),(13,.pointer (some ⟨N.k,0,none⟩)),(68,agg 25 (fun j=>.int .i64 (bp L k j))),(69,.int .i64 i)]) (fun i=>25-i) 0 ai ⟨by omega,on0,r4v,hrv,kkv⟩ ⟨rfl,rfl,rfl,rfl,rfl,trivial⟩ ?_;clear on0 r4v hrv kkv;rintro i wr ⟨hi,hr,r4,zD,kk⟩;rcases Nat.lt_or_ge i 25 with av|wg
  ·have hmw:=Hk.mw i hi;have bq:=kF k L i;by_cases adg:bp L k i<0
   ·rw[if_pos adg] at bq;conv=>whnf
    repeat ((first|(refine Ru.idx underlying59 av (by kernel_rfl) ?_)|refine Ar.la ?_|refine Br.y ?_|refine CW.s ?_);conv=>whnf)
    exact⟨i+1,⟨av,by rw[bq];exact hr,r4,zD,kk⟩,⟨rfl,rfl,rfl,rfl,vi (by omega),trivial⟩,by simp only;omega⟩
   ·rw[if_neg adg] at bq;obtain⟨h96,za⟩:=Hk.set i av (by omega);obtain⟨pl,hpl⟩:∃pl:Nat,bp L k i=pl:=⟨(bp L k i).toNat,by omega⟩;have acH:(bp L k i).toNat=pl:=by omega
    rw[acH] at bq za;rw[hpl] at adg h96 bq;have vf:(Value.int .i64 (bp L k i))=.int .i64 (pl:Int):=by rw[hpl]
    have hfn:ky L (i:Int) (pl:Int)=ky L i (pl:Nat):=rfl;conv=>whnf
    repeat ((first|(refine Ru.idx underlying59 av (by kernel_rfl) ?_;rw[vf])|(refine Ld.of hr.core.c2 ?_)|refine Br.f ?_|refine Br.y ?_|refine CW.s ?_);conv=>whnf)
    refine Ca.of (zz hr.core.map hmw i pl (by omega) (by omega)) ?_;rintro _ w3 ⟨rfl,m3,k3⟩;have h3:=hr.map k3 m3;rw[za];have bG:=kk.fresh (mV N.a (by simp[Cr.own])) k3;have fS:=r4.ab k3 (by
     have:=Row.ed hr.core.map r4 (by decide);simpa using this.symm)
    have adh:=acI _ _ _ (mV N.a (by simp[Cr.own])) k3 zD;clear hr r4 zD kk m3 k3;conv=>whnf
    repeat ((first|refine Br.f ?_|refine Ru.ak ?_);conv=>whnf)
    refine CW.held (fun w'=>Rd w' A (L.length*6) (ju L)) [] (.take 0 (.take 1 (.take 2 (.take 3 (.take 4 (.take 6 (.take 7 (.one 5 (.take 8 (.one 9 (.done))))))))))) ai (by kernel_rfl) (by kernel_rfl) (by kernel_rfl) ?_ ?_
    ·exact adh.aj ((Aa.refl [] w3).drewN 1)
    have q3:=(Aa.refl [] w3).drewN 1;have h4:=h3.aj q3;have ia:=fS.ab q3 (by simp);have adi:=adh.aj q3;have bU:=bG.trans q3;clear h3 fS adh bG q3;generalize w3.drewN 1=w4 at *;conv=>whnf
    refine Ca.of (abz A cA L i pl w4 adi hn) ?_;rintro _ w5 ⟨rfl,k5⟩;have h5:=h4.aj k5;have iJ:=ia.ab k5 (by simp);have aiY:=adi.aj k5;have dL:=bU.trans k5;clear h4 ia adi bU k5;refine⟨aiY,?_⟩;conv=>whnf
    repeat ((refine Ix.of i (by omega) (by omega) ?_);conv=>whnf)
    rw[show 0+7+i*3=7+3*i by omega];refine Ru.im h5.core.row dK (by omega) (fun j _=>En.bj _) ?_;intro w6 r6 k6;have h6:=h5.row (K':={ cu k L i with at_:=(setAt (cu k L i).at_ (cu k L i).ow i pl).1,ow:=(setAt (cu k L i).at_ (cu k L i).ow i pl).2,en:=ah (cu k L i).en i (ky L i pl) }) k6 r6 (fun j hj=>uM i (by omega) _ j hj) rfl;have aiZ:Rd w6 A (L.length*6) (ju L):=acI _ _ _ (mV N.k (by simp[Cr.own])) k6 aiY;refine⟨aiZ,?_⟩;conv=>whnf
    repeat (refine Ar.la ?_;conv=>whnf)
    refine⟨i+1,⟨av,?_,iJ.ab k6 (by
     have:=h5.core.row.ed iJ (by decide);simpa using this.symm),aiZ,dL.fresh (mV N.k (by simp[Cr.own])) k6⟩,⟨rfl,rfl,rfl,rfl,vi (by omega),trivial⟩,by simp only;omega⟩
    rw[bq];exact h6
  ·obtain rfl:i=25:=by omega
   conv=>whnf
   repeat ((first|(refine Ld.of hr.core.c2 ?_)|refine Br.f ?_|refine CW.s ?_);conv=>whnf)
   refine Ca.of (fj hr.core.map (Hk.mw 25 (Nat.le_refl _)).la) ?_;rintro _ v2 ⟨gl,rfl,rgl,qz,kl⟩;have h2:=hr.aj kl;have l8:=r4.ab kl (by simp);have dh:=kk.trans kl;have arb:w.heap.size<=gl:=Nat.le_trans kk.size qz;clear hr r4 zD kk kl;conv=>whnf
   repeat (refine CW.s ?_;conv=>whnf)
   refine Ru.cx (q:=fun j=>.bool (k.bad j)) l8 underlying63 rfl (by kernel_rfl:(Tryz.prog.info? 63).map (·.size)=some 12) (by omega) (fun j hj=>by rw[show 0+25+j=25+j by omega];exact k.jZ hj) ?_;conv=>whnf
   refine CW.loop (ι:=Nat) (fun i w'=>i<=12/\On w' N (n2K (cu k L 25) i) P b 0 none 0/\Row w' gl 3 12 (fun b=>.int .i64 (lv (cu k L 25).at_ b:Nat))/\Aa [] w w')
    (fun i=>[(13,.pointer (some ⟨N.k,0,none⟩)),(17,.slice (some ⟨gl,0,none⟩) 12 12),(101,agg 12 (fun j=>.bool (k.bad j))),(102,.int .i64 i)]) (fun i=>12-i) 0 ai ⟨by omega,by rw[abA];exact h2,rgl,dh⟩ ⟨rfl,rfl,rfl,rfl,trivial⟩ ?_;clear h2 l8 rgl dh;rintro i wr ⟨hi,hr,rg,kk⟩;rcases Nat.lt_or_ge i 12 with av|wg
   ·have hb:=Hk.bad i av;have mC:(Value.bool (k.bad i))=.bool false:=by rw[hb]
    have ci:=rg.cell i av;have bq:=vd (cu k L 25) i;by_cases sO:0<lv (cu k L 25).at_ i
    ·rw[if_pos sO] at bq;conv=>whnf
     repeat ((first|(refine Ru.idx underlying63 av (by kernel_rfl) ?_;rw[mC])|(refine Ld.at (by omega) ci ?_)|(refine Ld.of hr.core.c1 ?_)|refine Br.f ?_|refine Ix.n ?_|refine Br.y ?_|refine CW.s ?_);conv=>whnf)
     refine Ca.of (eO hr.core.aV i 2 av (by omega)) ?_;rintro _ w3 ⟨⟨e,rfl⟩,r3,k3⟩;have h3:=hr.aV k3 r3;conv=>whnf
     repeat (refine Ar.la ?_;conv=>whnf)
     refine⟨i+1,⟨av,?_,rg.ab k3 (by
      have:=Row.ed hr.core.aV rg (by decide);simpa using this.symm),kk.fresh (mV N.p (by simp[Cr.own])) k3⟩,⟨rfl,rfl,rfl,vi (by omega),trivial⟩,by simp only;omega⟩
     rw[bq];exact h3
    ·rw[if_neg sO] at bq;conv=>whnf
     repeat ((first|(refine Ru.idx underlying63 av (by kernel_rfl) ?_;rw[mC])|(refine Ld.at (by omega) ci ?_)|refine Br.f ?_|refine Ix.n ?_|refine Ar.la ?_|refine Br.y ?_|refine Br.n ?_|refine CW.s ?_);conv=>whnf)
     exact⟨i+1,⟨av,by rw[bq];exact hr,rg,kk⟩,⟨rfl,rfl,rfl,vi (by omega),trivial⟩,by simp only;omega⟩
   ·obtain rfl:i=12:=by omega
    conv=>whnf
    repeat ((first|refine Br.f ?_|refine CW.s ?_);conv=>whnf)
    exact⟨rfl,N,rfl,hr,eC,cq,kk⟩
end
def Bb(w:World)(r:Nat)(ps:List (Nat×Value)):Prop:=∃es clock,w.heap[r]?=some (.map es clock)/\es.toList.map (fun e=>(e.key,e.val))=ps.map (fun x=>(Value.int .i64 (x.1:Nat),x.2))
theorem Bb.lt{w:World}{r:Nat}{ps:List (Nat×Value)}(h:Bb w r ps):r<w.heap.size:=by
 obtain⟨es,cl,h,-⟩:=h;exact(Array.getElem?_eq_some_iff.1 h).1
theorem Bb.ab{w w':World}{r:Nat}{ps:List (Nat×Value)}{S:List Nat}(h:Bb w r ps)(k:Aa S w w')(hr:r∉S):Bb w' r ps:=by
 have hl:=h.lt;obtain⟨es,cl,h1,h2⟩:=h;exact⟨es,cl,by rw[k.block r hl hr];exact h1,h2⟩
def gB(p:Nat):List (Nat×Value)->Option Value
 | []=>none
 |x::l=>if x.1=p then some x.2 else gB p l
theorem p5{p:Nat}:∀ {es:List MapEntry} {ps:List (Nat×Value)} {i:Nat},es.map (fun e=>(e.key,e.val))=ps.map (fun x=>(Value.int .i64 (x.1:Nat),x.2))->gB p ps=none->Instr.findNow (.int .i64) (.int .i64 (p:Nat)) es i=some none
 | [],ps,i,h,h2=>rfl
 |e::es,[],i,h,h2=>by simp at h
 | e::es,x::ps,i,h,h2=>by
  simp only[List.map_cons,List.cons.injEq,Prod.mk.injEq] at h;unfold gB at h2;by_cases hx:x.1=p
  ·rw[if_pos hx] at h2
   cases h2
  ·rw[if_neg hx] at h2;unfold Instr.findNow;rw[h.1.1];have:((p:Int) == (x.1:Int))=false:=by
    simp;omega
   simp only[Instr.sameNow,if_true,this];exact p5 h.2 h2
theorem p7{p:Nat}{v:Value}:∀ {es:List MapEntry} {ps:List (Nat×Value)} {i:Nat},es.map (fun e=>(e.key,e.val))=ps.map (fun x=>(Value.int .i64 (x.1:Nat),x.2))->gB p ps=some v->∃j,Instr.findNow (.int .i64) (.int .i64 (p:Nat)) es i=some (some (j,v))
 | [],[],i,h,h2=>by cases h2
 | [],x::ps,i,h,h2=>by simp at h
 |e::es,[],i,h,h2=>by simp at h
 | e::es,x::ps,i,h,h2=>by
  simp only[List.map_cons,List.cons.injEq,Prod.mk.injEq] at h;unfold gB at h2;unfold Instr.findNow;rw[h.1.1];by_cases hx:x.1=p
  ·rw[if_pos hx] at h2
   cases h2
   have:((p:Int) == (x.1:Int))=true:=by
    simp;omega
   simp only[Instr.sameNow,if_true,this];exact⟨i,by rw[h.1.2]⟩
  ·rw[if_neg hx] at h2;have:((p:Int) == (x.1:Int))=false:=by
    simp;omega
   simp only[Instr.sameNow,if_true,this];exact p7 h.2 h2
theorem rW(w:World):(underlying 158).run Tryz.prog w=.ok (.map 3 37) w:=by kernel_rfl
theorem aev(w:World):(underlying 3).run Tryz.prog w=.ok (.int .i64) w:=by kernel_rfl
theorem lI(e:Bool)(p:Int)(w:World):(Instr.checkKey e 10000 3 (.int .i64 p)).run Tryz.prog w=.ok () w:=by kernel_rfl
theorem alw(w:World):(Instr.makeMap 158 none).run Tryz.prog w=.ok (.map (some w.heap.size)) (w.alloc (.map #[] 0)):=rfl
theorem anS{w:World}{r:Nat}{ps:List (Nat×Value)}{p:Nat}{v:Value}(h:Bb w r ps)(hf:gB p ps=none){K:Unit->World->Prop}(k:∀w',Bb w' r (ps++[(p,v)])->Aa [r] w w'->K () w'):Ru Tryz.prog (Instr.mapUpdate 158 (.map (some r)) (.int .i64 (p:Nat)) v) w K:=by
 have hl:=h.lt;obtain⟨es,cl,h1,h2⟩:=h;have hfn:=p5 (i:=0) h2 hf;have jM:(Instr.mapUpdate 158 (.map (some r)) (.int .i64 (p:Nat)) v).run Tryz.prog w=.ok () { w with heap:=w.heap.setIfInBounds r (.map (es.push ⟨.int .i64 (p:Nat),v,cl⟩) (cl+1)) }:=by
  unfold Instr.mapUpdate;simp only[Sem.run_bind,rW,Result.andThen_ok,getObj,setObj,Sem.run,h1,lI,Instr.findKey,aev,hfn];rw[show(Sem.run Tryz.prog (pure none:Sem (Option (Nat×Value))) w)=.ok none w from rfl,Result.andThen_ok];simp only[Sem.run,h1]
 refine⟨_,_,jM,k _ ⟨es.push ⟨.int .i64 (p:Nat),v,cl⟩,cl+1,?_,?_⟩ ⟨rfl,rfl,rfl,?_,fun x hx hn=>?_⟩⟩
 ·simp[hl]
 ·simp[h2]
 ·simp
 ·have:r≠x:=fun e=>hn (by simp[e]);simp[this]
theorem alx{w:World}{r:Nat}{ps:List (Nat×Value)}{p:Nat}{v:Value}(h:Bb w r ps)(hf:gB p ps=some v):(Instr.lookup 158 (.map (some r)) (.int .i64 (p:Nat)) true).run Tryz.prog w=.ok (.tuple #[v,.bool true]) w:=by
 obtain⟨es,cl,h1,h2⟩:=h;obtain⟨j,hfn⟩:=p7 (i:=0) h2 hf;unfold Instr.lookup;simp only[Sem.run_bind,rW,Result.andThen_ok,getObj,Sem.run,h1,lI,Instr.findKey,aev,hfn];rw[show(Sem.run Tryz.prog (pure es:Sem (Array MapEntry)) w)=.ok es w from rfl,Result.andThen_ok];simp only[lI,Result.andThen_ok,hfn];rw[show(Sem.run Tryz.prog (pure (some (j,v)):Sem (Option (Nat×Value))) w)=.ok (some (j,v)) w from rfl,Result.andThen_ok];rfl
end
section
open Go.RowKit
theorem jz{q p:Nat}{v:Value}:∀ {ps:List (Nat×Value)},gB q (ps++[(p,v)])=match gB q ps with|some x=>some x|none=>if p=q then some v else none
 | []=>rfl
 | x::ps=>by
  have ih:=@jz q p v ps;rw[List.cons_append];unfold gB;by_cases h:x.1=q
  ·rw[if_pos h,if_pos h]
  ·rw[if_neg h,if_neg h];exact ih
def iD(p:Nat)(t:Tg):Fd:=⟨(p:Int),t.place,t.of,t.seq,t.copy,t.lost⟩
def an(P:CS):Nat->List Fd
 |0=>[]
 | p+1=>match P.pg p with
  |.full t D=>an P p++[iD p t]
  |_=>an P p
theorem eF(P:CS):an P 0=[]:=rfl
theorem oX{P:CS}{p:Nat}{t:Tg}{D:Nat->Nat}(h:P.pg p=.full t D):an P (p+1)=an P p++[iD p t]:=by
 show(match P.pg p with | .full t D=>an P p++[iD p t] | _=>an P p)=_;rw[h]
theorem kG{P:CS}{p:Nat}(h:∀t D,P.pg p≠.full t D):an P (p+1)=an P p:=by
 show(match P.pg p with | .full t D=>an P p++[iD p t] | _=>an P p)=_
 cases e:P.pg p with
 |full t D=>exact absurd e (h t D)
 |blank=>rfl
 |ct n=>rfl
theorem nN(P:CS):∀n,(an P n).length<=n
 |0=>Nat.le_refl _
 | n+1=>by
  have:=nN P n;by_cases h:∃t D,P.pg n=.full t D
  ·obtain⟨t,D,h⟩:=h;rw[oX h];simp;omega
  ·rw[kG (fun t D e=>h ⟨t,D,e⟩)];omega
def jE(P:CS):Nat->CS
 |0=>P
 |i+1=>(jE P i).bC i
theorem ai0(P:CS):jE P 0=P:=rfl
theorem ai1(P:CS)(i:Nat):jE P (i+1)=(jE P i).bC i:=rfl
theorem vj(P:CS):∀i,(jE P i).pg=P.pg/\(jE P i).dm=P.dm
 |0=>⟨rfl,rfl⟩
 |i+1=>vj P i
theorem p9{P:CS}(h:P.calm):∀i,(jE P i).calm
 |0=>h
 |i+1=>CS.gq (p9 h i) i
structure By(P:CS)(w:World)(r:Nat)(ps:List (Nat×Value))(n:Nat):Prop where
 no:∀q,n<=q->gB q ps=none
 yes:∀q t D,q<n->P.pg q=.full t D->t.of=24->∃O oc D',gB q ps=some (.slice O 174 oc)/\(∀x,x∈aK O->r<x)/\cm D'=D/\Ly w 5 1 O 174 oc (fun j=>.int .u8 (D' j:Nat))
theorem By.ab{P:CS}{w w':World}{r:Nat}{ps:List (Nat×Value)}{n:Nat}{S:List Nat}(h:By P w r ps n)(k:Aa S w w')(hS:∀x,x∈S->x<=r\/∀O oc f,Ly w 5 1 O 174 oc f->x∉aK O):By P w' r ps n :=
 ⟨h.no,fun q t D hq e ht=>by
  obtain⟨O,oc,D',a1,a2,a3,a4⟩:=h.yes q t D hq e ht;refine⟨O,oc,D',a1,a2,a3,a4.ab k (fun x hx hm=>?_)⟩;rcases hS x hm with h|h
  ·have:=a2 x hx;omega
  ·exact h O oc _ a4 hx⟩
theorem abC(p:Nat)(t:Tg)(w:World):(Instr.build 69 #[(0,.int .i64 (p:Nat)),(1,.agg t.arr)]).run Tryz.prog w=.ok (.agg (iD p t).arr) w:=by kernel_rfl
attribute [local irreducible] an jE
theorem aew{w:World}{C:Chip}{ch:Nat}{P:CS}{b:Option Nat}(H:Ab w ch C)(hA:Abs C P)(hl:C.left b) :
  Spec Tryz.prog 74 #[.pointer (some ⟨ch,0,none⟩)] w fun v w'=>∃A cA r ps C',v=.tuple #[.slice A (an P 96).length cA,.map (some r),al 0]/\(an P 96=[]->A=none/\cA=0)/\Ly w' 69 6 A (an P 96).length cA (ju (an P 96))/\Bb w' r ps/\By P w' r ps 96 /\
   Ab w' ch C'/\Abs C' (jE P 96)/\C'.left b/\Aa [ch] w w':=by
 obtain⟨i0,hi0,lZ,lR,l4⟩:=info_parts lq;refine spec_of_wpE (T:=tt) ai func74 rfl (by decide +kernel) ntmps74 (by simp) ?_;conv=>whnf
 refine Ca.of (zj w ch C H) ?_;rintro _ w1 ⟨m,f,cd,g,hh,hmw,hfw,pH,hgw,hhw,rfl,M1,k1⟩;obtain⟨N,hN⟩:∃N:Pt,(⟨m,ch,f,cd,g,hh⟩:Pt)=N:=⟨_,rfl⟩;have Dq:AN w1 N C 0:=by rw[<-hN];exact M1
 have hMl:=Dq.lt;have em:m=N.m:=by rw[<-hN]
 have ec:N.c=ch:=by rw[<-hN]
 have eg:w.heap.size<=N.g:=by rw[<-hN];exact hgw
 subst em;have MA:MedA w1 N P b 0:=⟨C,Dq,hA,hl⟩;conv=>whnf
 refine Ru.of (alw w1) ?_;have rm:Bb (w1.alloc (.map #[] 0)) w1.heap.size []:=⟨#[],0,heap_alloc_new w1 _,rfl⟩;have k2:Aa [] w1 (w1.alloc (.map #[] 0)):=(Aa.refl _ _).alloc _;have DL:=MA.aj k2;have hrw:w.heap.size<=w1.heap.size:=k1.size;have dh:=(k1.trans k2).mono (T:=[ch]) (by simp);clear M1 Dq MA k1 k2 hfw pH hhw hgw hN;generalize w1.alloc (.map #[] 0)=w2 at *;generalize w1.heap.size=r at *;conv=>whnf
 repeat (refine CW.s ?_;conv=>whnf)
 refine CW.loop (ι:=Nat×Option Addr×Nat×List (Nat×Value)×Int) (fun i w'=>i.1<=96/\MedA w' N (jE P i.1) b i.2.2.2.2/\Ly w' 69 6 i.2.1 (an P i.1).length i.2.2.1 (ju (an P i.1))/\(∀x,x∈aK i.2.1->r<x)/\(an P i.1=[]->i.2.1=none/\i.2.2.1=0)/\Bb w' r i.2.2.2.1/\By P w' r i.2.2.2.1 i.1/\Aa [ch] w w')
  (fun i=>[(5,.pointer (some ⟨N.m,0,none⟩)),(6,.slice i.2.1 (an P i.1).length i.2.2.1),(7,.map (some r)),(14,.int .i64 i.1)]) (fun i=>96-i.1) (0,none,0,[],0) ai
  ⟨by omega,by rw[ai0];exact DL,by rw[eF];exact Ly.nil _ _ _ _,(fun _ h=>nomatch h),fun _=>⟨rfl,rfl⟩,rm,⟨fun _ _=>rfl,fun q t D hq=>by omega⟩,dh⟩ ⟨rfl,by rw[eF];rfl,rfl,rfl,trivial⟩ ?_;clear DL rm dh;rintro⟨i,Z,cz,ps,n⟩ wr ⟨hi,MA,ly,hZ,oK,rm,hps,kk⟩;simp only at hi MA ly hZ oK rm hps kk ⊢;rcases Nat.lt_or_ge i 96 with av|wg
 ·have bA:=(vj P i).1;have kl:∀ {wa wb:World},Aa N.l wa wb->Aa [ch] w wa->Aa [ch] w wb:=fun k' kw=>kw.then k' (fun x hx=>by
   simp only[Pt.l,List.mem_cons,List.not_mem_nil,or_false] at hx;rcases hx with rfl|rfl|rfl
   ·exact .inr hmw
   ·exact .inl (List.mem_singleton.2 ec)
   ·exact .inr eg)
  have arc:∀ {wa wb:World},Aa N.l wa wb->By P wa r ps i->By P wb r ps i:=fun k' hp=>hp.ab k' (fun x hx=>by
   simp only[Pt.l,List.mem_cons,List.not_mem_nil,or_false] at hx;left;rcases hx with rfl|rfl|rfl<;>omega)
  have hrl:r∉N.l:=fun hm=>by
   simp only[Pt.l,List.mem_cons,List.not_mem_nil,or_false] at hm;rcases hm with h|h|h<;>omega
  conv=>whnf
  repeat ((first|refine Br.y ?_|refine CW.s ?_);conv=>whnf)
  refine Ca.of (aaZ MA av) ?_;rintro _ w3 ⟨k3,R,dv,hR,jn,rfl,DM⟩;have bG:=kl k3 kk;have rm3:=rm.ab k3 hrl;have apq:=arc k3 hps;have ly3:=ly.ab k3 (fun x hx hm=>by
   have:=hZ x hx;simp only[Pt.l,List.mem_cons,List.not_mem_nil,or_false] at hm;rcases hm with h|h|h<;>omega)
  have asa:=rm.lt;clear MA ly rm hps kk;conv=>whnf
  refine Ru.aE (cr w3) ?_;intro x9 w4 hx9 qB r9 k4;conv=>whnf
  refine Ru.eW r9 (iZ R jn _) ?_;intro w5 sX k5;have q5:Aa [] w3 w5:=k4.then k5 (fun x hx=>.inr (by rw[List.mem_singleton.1 hx,hx9];exact Nat.le_refl _));have Dc:=DM.aj q5;have rm5:=rm3.ab q5 (by simp);have anT:=apq.ab q5 (by simp);have ly5:=ly3.aj q5;have dL:=bG.trans (q5.mono (by simp));have aiD:=jn.ab q5 (by simp);have gg:=k3.size;clear DM rm3 apq ly3 bG k4 k5 r9 qB k3;have c0:w5.cell? ⟨x9,0,none⟩=some (.bool R.tagged):=sX.cell 0 (by omega);unfold AA at hR;rw[bA] at hR;rw[<-ai1] at Dc;by_cases aex:∃t D,P.pg i=.full t D
  ·obtain⟨t,D,hp⟩:=aex;rw[hp] at hR;obtain⟨hR1,rfl,hR3,hR4,hR5⟩:=hR;rw[hR1] at c0;have efd:=oX hp;have hlen:=nN P i;conv=>whnf
   repeat ((first|(refine Ld.at (by omega) c0 ?_)|refine Br.f ?_|refine Ru.ak ?_|refine CW.s ?_);conv=>whnf)
   refine Ru.cx (q:=R.tag.cell) sX underlying67 rfl (by kernel_rfl:(Tryz.prog.info? 67).map (·.size)=some 5) (by omega) (fun j hj=>by
    unfold rR;rw[if_neg (by omega),if_pos (by omega),show 0+1+j-1=j by omega]) ?_
   rw[show agg 5 R.tag.cell=.agg R.tag.arr by unfold agg;rw[tW]];conv=>whnf
   refine Ru.of (abC i R.tag w5) ?_;conv=>whnf
   refine Ru.zv (iD i R.tag) ?_;intro x34 w6 hx34 hs6 r34 k6;conv=>whnf
   refine Bu.append underlying64 hi0 lZ lR l4 rfl (by omega) (ly5.aj k6) _ (Rd.dq r34 (n:=1*6) (by omega)) (by omega) (by simp) (fun j hj=>gS _ j hj) (by simp only[maxLen];omega) (by omega) ?_;intro Y cY w7 hy k7 da gZ;have ly6:=ly5.aj k6;have DN:MedA w7 N (jE P (i+1)) b _:=(Dc.aj k6).ab k7 ⟨fun h=>by have:=hZ _ h;omega,fun h=>by have:=hZ _ h;omega,fun h=>by have:=hZ _ h;omega,fun h=>by have:=hZ _ h;omega,fun h=>by have:=hZ _ h;omega,fun h=>by have:=hZ _ h;omega⟩;have rm7:=(rm5.ab k6 (by simp)).ab k7 (fun h=>by have:=hZ _ h;omega);have ai2:=(anT.ab k6 (by simp)).ab k7 (fun x hx=>.inr (fun O oc f lO=>ly6.gD lO (by decide) hx));have r97:=(sX.ab k6 (by simp)).ab k7 (ly6.aL (sX.ab k6 (by simp)) (by decide));have nW:=(dL.trans (k6.mono (by simp))).then k7 (fun x hx=>.inr (by have:=hZ x hx;omega));have hY:∀x,x∈aK Y->r<x:=fun x hx=>by
    rcases da with e|e
    ·rw[e] at hx;exact hZ x hx
    ·rw[e] at hx;have hxx:x=w6.heap.size:=List.mem_singleton.1 hx;have:=k6.size;have:=q5.size;omega
   have lyY:Ly w7 69 6 Y (an P (i+1)).length cY (ju (an P (i+1))):=by
    rw[efd,List.length_append,List.length_singleton];exact hy.congr (fun j hj=>by rw[uk _ _ j hj])
   have cn:an P (i+1)≠[]:=by rw[efd];simp
   have hlY:(Value.slice Y ((an P i).length+1) cY)=.slice Y (an P (i+1)).length cY:=by rw[efd];simp
   have ard:∀O oc,dv=.slice O 174 oc->Ly w5 5 1 O 174 oc (fun j=>.int .u8 (R.data j:Nat))->Ly w7 5 1 O 174 oc (fun j=>.int .u8 (R.data j:Nat)):=fun O oc e l=>(l.aj k6).ab k7 (fun x hx hm=>ly6.gD (l.aj k6) (by decide) hm hx);clear Dc rm5 sX dL ly5 da gZ r34;have c2:w7.cell? ⟨x9,2,none⟩=some (.int .i64 R.tag.of):=r97.cell 2 (by omega);have c6:w7.cell? ⟨x9,6,none⟩=some (.bool R.sound):=r97.cell 6 (by omega);have c7:w7.cell? ⟨x9,7,none⟩=some dv:=r97.cell 7 (by omega);rw[hR3] at c6;rcases aiD with⟨-,O,oc,rfl,hO,lyO⟩|⟨hs,-⟩
   case inr=>rw[hR3] at hs;cases hs
   by_cases ht:R.tag.of=24
   ·conv=>whnf
    repeat ((first|(refine Ld.at (by omega) c2 ?_)|(refine Ld.at (by omega) c6 ?_)|(refine Ld.at (by omega) c7 ?_)|refine Br.t ?_|refine Pk.t ?_|refine Br.y ?_);conv=>whnf)
    have lW:=ai2.no i (Nat.le_refl _);have hOr:∀x,x∈aK O->r<x:=fun x hx=>by
     have:=hO x hx;omega
    have ane:Ly w7 5 1 O 174 oc (fun j=>.int .u8 (R.data j:Nat)):=ard O oc rfl lyO;refine anS rm7 lW ?_;intro w8 rm8 k8;conv=>whnf
    repeat (refine Ar.la ?_;conv=>whnf)
    refine⟨(i+1,Y,cY,ps++[(i,.slice O 174 oc)],_),⟨av,DN.ab k8 (by simp;omega),lyY.ab k8 (fun x hx hm=>by have:=hY x hx;rw[List.mem_singleton.1 hm] at this;omega),hY,fun h=>absurd h cn,rm8,⟨fun q hq=>?_,fun q t D hq e ht'=>?_⟩,nW.then k8 (fun x hx=>.inr (by rw[List.mem_singleton.1 hx];exact hrw))⟩,⟨rfl,hlY,rfl,vi (by simp only;omega),trivial⟩,by simp only;omega⟩
    ·rw[jz,ai2.no q (by omega)];simp only;rw[if_neg (by omega)]
    ·by_cases hqi:q=i
     ·subst hqi;rw[hp] at e
      cases e
      refine⟨O,oc,R.data,?_,hOr,hR4,ane.ab k8 (fun x hx hm=>by have:=hOr x hx;rw[List.mem_singleton.1 hm] at this;omega)⟩;rw[jz,lW];simp
     ·obtain⟨O',oc',D',a1,a2,a3,a4⟩:=ai2.yes q t D (by omega) e ht';refine⟨O',oc',D',?_,a2,a3,a4.ab k8 (fun x hx hm=>by have:=a2 x hx;rw[List.mem_singleton.1 hm] at this;omega)⟩;rw[jz,a1]
   ·conv=>whnf
    repeat ((first|(refine Ld.at (by omega) c2 ?_)|refine Br.f ?_|refine Pk.f ?_|refine Ar.la ?_|refine Br.n ?_);conv=>whnf)
    refine⟨(i+1,Y,cY,ps,_),⟨av,DN,lyY,hY,fun h=>absurd h cn,rm7,⟨fun q hq=>ai2.no q (by omega),fun q t D hq e ht'=>?_⟩,nW⟩,⟨rfl,hlY,rfl,vi (by simp only;omega),trivial⟩,by simp only;omega⟩;by_cases hqi:q=i
    ·subst hqi;rw[hp] at e
     cases e
     exact absurd ht' ht
    ·exact ai2.yes q t D (by omega) e ht'
  ·have hnt:R.tagged=false:=by
    cases e:P.pg i with
    |full t D=>exact absurd ⟨t,D,e⟩ aex
    |blank=>rw[e] at hR;exact hR.1
    |ct n=>rw[e] at hR;exact hR.1
   rw[hnt] at c0;have efd:=kG (P:=P) (p:=i) (fun t D e=>aex ⟨t,D,e⟩);conv=>whnf
   repeat ((first|(refine Ld.at (by omega) c0 ?_)|refine Br.t ?_|refine Br.f ?_|refine Ar.la ?_|refine Ru.ak ?_|refine CW.s ?_);conv=>whnf)
   refine⟨(i+1,Z,cz,ps,_),⟨av,Dc,by simp only[efd];exact ly5,hZ,by simp only[efd];exact oK,rm5,⟨fun q hq=>anT.no q (by omega),fun q t D hq e ht=>?_⟩,dL⟩,⟨rfl,by simp only[efd];rfl,rfl,vi (by simp only;omega),trivial⟩,by simp only;omega⟩;by_cases hqi:q=i
   ·subst hqi;exact absurd ⟨t,D,e⟩ aex
   ·exact anT.yes q t D (by omega) e ht
 ·obtain rfl:i=96:=by omega
  conv=>whnf
  repeat ((first|refine Br.f ?_|refine CW.s ?_);conv=>whnf)
  obtain⟨C',M,hA',hl'⟩:=MA;exact⟨rfl,Z,cz,r,ps,C',rfl,oK,ly,rm,hps,by rw[<-ec];exact M.cH,hA',hl',kk⟩
end
end Go.Proofs.YtaeikigfgfcadaaGreat
