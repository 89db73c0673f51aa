/- Texts behind one another: PutF, Pl1, Pl2, Pl3, Pl4, Pl5, Get, Tend1, Tend2, Trim, Pl6, Pl7, Pl8, Pl9, Found, New, Mp, Scan, NewestM. -/
import Derived.Test.YtaeikigfgfcadaaGreatMq0a
import Derived.Test.YtaeikigfgfcadaaGreatMq0b
import Derived.Test.YtaeikigfgfcadaaGreatMq0c
import Derived.Test.YtaeikigfgfcadaaGreatMq0d
namespace Go.Proofs.YtaeikigfgfcadaaGreat
open Go.Proofs.Tryz
set_option maxHeartbeats 8000000
set_option maxRecDepth 20000
set_option linter.unusedVariables false
set_option linter.unusedSimpArgs false
set_option linter.unnecessarySimpa false
section
open Go.RowKit
theorem qH{w:World}{g:Nat}{t:TypeId}{v:Value}(h:w.heap[g]?=some (.cells #[v] t (0,0))):Row w g t 1 (fun _=>v):=by
 unfold Row;rw[h];simp[Array.range,Array.ofFn_succ]
theorem Ru.aid{t:TypeId}{A:Option Addr}{w:World}{K:Value->World->Prop}(k:∀g w',g=w.heap.size->w'.heap.size=w.heap.size+1->Row w' g t 1 (fun _=>.pointer A)->Aa [] w w'->K (.pointer (some ⟨g,0,none⟩)) w'):Ru Tryz.prog (Instr.box t (.pointer A)) w K :=
 ⟨_,w.alloc (.cells #[.pointer A] t),rfl,k _ _ rfl (by simp) (qH (heap_alloc_new _ _)) ((Aa.refl _ _).alloc _)⟩
theorem Ru.amY{t:TypeId}{v:Int}{w:World}{K:Value->World->Prop}(k:∀g w',g=w.heap.size->w'.heap.size=w.heap.size+1->Row w' g t 1 (fun _=>.int .i64 v)->Aa [] w w'->K (.pointer (some ⟨g,0,none⟩)) w'):Ru Tryz.prog (Instr.box t (.int .i64 v)) w K :=
 ⟨_,w.alloc (.cells #[.int .i64 v] t),rfl,k _ _ rfl (by simp) (qH (heap_alloc_new _ _)) ((Aa.refl _ _).alloc _)⟩
def uC(p:Cp)(j:Nat):Nat:=(lI p j).toNat
theorem nh(p:Cp)(j:Nat):((uC p j:Nat):Int)=lI p j:=by
 have:=ahL p j;unfold uC;omega
theorem iX(p:Cp)(j:Nat):uC p j<256:=by
 have:=ahL p j;unfold uC;omega
def aZ(K:KS)(s:Int):Nat->Nat:=uC (iv K s (-1))
section
variable{w w':World}{N:Cr}{K:KS}{X:Option Addr}{c:Nat}{P:CS}{b:Option Nat}{n:Int}
theorem aa0(h:On w N K P b n X c){x:Nat}(hx:w.cell? ⟨x,0,none⟩=some (.pointer (some ⟨N.k,0,none⟩)))(s:Int)(ht:(iv K s (-1)).told) :
  Spec Tryz.prog 152 #[.int .i64 s,.pointer (some ⟨x,0,none⟩)] w fun v w'=>∃A d,v=.tuple #[.slice A 174 d,ak 0]/\Ly w' 5 1 A 174 d (fun j=>.int .u8 (aZ K s j:Nat))/\Aa [] w w':=by
 refine spec_of_wpE (T:=tt) ah func152 rfl (by decide +kernel) ntmps152 (by simp) ?_;conv=>whnf
 repeat ((refine Ld.of hx ?_);conv=>whnf)
 refine Ca.of (nc h s (-1)) ?_;rintro _ w2 ⟨rfl,k2⟩;conv=>whnf
 refine Ca.of (iE w2 _ ht) ?_;rintro _ w3 ⟨y,hy,rfl,r3,k3⟩;conv=>whnf
 refine⟨rfl,some ⟨y,0,none⟩,174,rfl,(Ly.dh r3 (by omega) (by omega) (by simp[maxLen])).congr (fun j hj=>?_),k2.trans k3⟩;unfold aZ;rw[nh]
theorem adW(h:On w N K P b n X c){K1:KS}{P1:CS}{t1:List CS}(H:AO 24 aZ K P K1 P1 t1)(ht:(iv (bS K1) K1.next (-1)).told) :
  Spec Tryz.prog 105 #[.pointer (some ⟨N.k,0,none⟩)] w fun u w'=>AD N X c (cy K1 24) (jr K1 P1 24 aZ) b (za K1 P1 t1) w w' (u=ak 0) (u=ak 7):=by
 refine spec_of_wpE (T:=tt) ah func105 rfl (by decide +kernel) ntmps105 (by simp) ?_;conv=>whnf
 refine Ru.aid ?_;intro x w1 hx hs r k1;have h1:=h.aj k1;have ck:x∉N.all:=fun hm=>by
  have h3:x<w.heap.size:=by
   rcases List.mem_append.1 hm with hm|hm
   ·exact h.core.lt (List.mem_append_left _ hm)
   ·exact h.gT _ hm
  omega
 conv=>whnf
 repeat ((refine Ld.row r (by omega) ?_);conv=>whnf)
 refine Ca.of (zb h1 (of:=24) (by omega) H 152 #[.pointer (some ⟨x,0,none⟩)] (fun w2 b2 n2 k2 h2=>aa0 h2 ((r.ab k2 ck).cell 0 (by omega)) K1.next ht)) ?_;rintro _ w2 ⟨k2,hr⟩;conv=>whnf
 exact⟨rfl,(Aa.eA k1).trans k2,hr⟩
def dO(f:Nat->Nat)(K:KS)(s:Int)(j:Nat):Nat:=if j<160 then f j else 0
theorem aa1(w:World):(Instr.alloc 37 true (.tuple #[])).run Tryz.prog w=.ok (.pointer (some ⟨w.heap.size,0,none⟩)) (w.alloc (.cells #[.slice none 0 0] 37)):=by kernel_rfl
theorem uD(w:World):(Instr.makeSlice 37 (.int .i64 174) (.int .i64 174)).run Tryz.prog w=.ok (.slice (some ⟨w.heap.size,0,none⟩) 174 174) (w.alloc (.cells (madeCells #[.int .u8 0] 174) 5)):=by kernel_rfl
theorem adX{x y:Nat}{D:Nat->Nat}(hx:w.cell? ⟨x,0,none⟩=some (.slice (some ⟨y,0,none⟩) 174 174))(hy:Row w y 5 174 (fun j=>.int .u8 (D j:Nat)))(s:Int) :
  Spec Tryz.prog 114 #[.int .i64 s,.pointer (some ⟨x,0,none⟩)] w fun v w'=>∃A d,v=.tuple #[.slice A 174 d,ak 0]/\Ly w' 5 1 A 174 d (fun j=>.int .u8 (D j:Nat))/\Aa [] w w':=by
 refine spec_of_wpE (T:=tt) ah func114 rfl (by decide +kernel) ntmps114 (by simp) ?_;conv=>whnf
 repeat ((refine Ld.of hx ?_);conv=>whnf)
 exact⟨rfl,_,174,rfl,Ly.dh hy (by omega) (by omega) (by simp[maxLen]),Aa.refl _ _⟩
theorem amZ(h:On w N K P b n X c){of d:Nat}(ho:of<24){A:Option Addr}{f:Nat->Nat}(hA:AH w A 160 f)(hd:160<=d){K1:KS}{P1:CS}{t1:List CS}(H:AO of (dO f) K P K1 P1 t1) :
  Spec Tryz.prog 68 #[.pointer (some ⟨N.k,0,none⟩),.int .i64 of,.slice A 160 d] w fun u w'=>AD N X c (cy K1 of) (jr K1 P1 of (dO f)) b (za K1 P1 t1) w w' (u=ak 0) (u=ak 7):=by
 have ck:∀x,w.heap.size<=x->x∉N.all:=fun x hx hm=>by
  have h3:x<w.heap.size:=by
   rcases List.mem_append.1 hm with hm|hm
   ·exact h.core.lt (List.mem_append_left _ hm)
   ·exact h.gT _ hm
  omega
 refine spec_of_wpE (T:=tt) ah func68 rfl (by decide +kernel) ntmps68 (by simp) ?_;conv=>whnf
 repeat ((first|refine Br.f ?_|refine Pk.f ?_|refine Br.n ?_|refine CW.s ?_);conv=>whnf)
 refine Ru.of (uD w) ?_;have ry:=Row.made w 5 (.int .u8 0) 174;have k1:Aa [] w (w.alloc (.cells (madeCells #[.int .u8 0] 174) 5)):=(Aa.refl _ _).alloc _;have du:(w.alloc (.cells (madeCells #[.int .u8 0] 174) 5)).heap.size=w.heap.size+1:=by simp
 generalize w.alloc _=w1 at *;conv=>whnf
 refine Ru.of (aa1 w1) ?_;have rx:=qH (heap_alloc_new w1 (.cells #[.slice none 0 0] 37));have k2:Aa [] w1 (w1.alloc (.cells #[.slice none 0 0] 37)):=(Aa.refl _ _).alloc _;have ry2:=ry.ab k2 (by simp);generalize w1.alloc _=w2 at *;conv=>whnf
 refine Sd.rowAt rx 0 (by omega) (by omega) rfl ?_;intro w3 rx3 k3;have hxy:w1.heap.size≠w.heap.size:=by omega
 have hxw:w.heap.size<=w1.heap.size:=by omega
 have ry3:=ry2.ab k3 (by simpa using hxy.symm);have bK:Aa [] w w3:=(k1.trans k2).fresh hxw k3;have rx3:Row w3 w1.heap.size 37 1 (fun _=>.slice (some ⟨w.heap.size,0,none⟩) 174 174):=rx3.congr (fun j hj=>by rw[c1 hj];rfl);generalize hxx:w1.heap.size=x at *;generalize hyy:w.heap.size=y at *;conv=>whnf
 repeat ((refine Ld.row rx3 (by omega) ?_);conv=>whnf)
 refine Bu.copy underlying37 l6 ry3 A 160 d 160 rfl (hA.aj bK) (fun e=>?_) (by omega) (fun _ _=>rfl) ?_
 ·obtain⟨b1,o1,e1,_⟩:=hA (by omega);rw[e] at e1
  cases e1
 intro w4 ry4 k4;have rx4:=rx3.ab k4 (by simpa using hxy);have bT:Aa [] w w4:=bK.fresh (by omega) k4;have ry4:Row w4 y 5 174 (fun j=>.int .u8 (dO f (bS K1) K1.next j:Nat)):=ry4.congr (fun j hj=>by
  unfold lay dO;by_cases h:j<160
  ·rw[if_pos (by omega),if_pos h,Nat.sub_zero]
  ·rw[if_neg (by omega),if_neg h];rfl)
 have h4:=h.aj bT;conv=>whnf
 refine Ca.of (zb h4 (of:=of) (by omega) H 114 #[.pointer (some ⟨x,0,none⟩)] (fun w2 b2 n2 k2 h2=>adX ((rx4.ab k2 (ck x (by omega))).cell 0 (by omega)) (ry4.ab k2 (ck y (by omega))) K1.next)) ?_;rintro _ w5 ⟨k5,hr⟩;conv=>whnf
 exact⟨rfl,(Aa.eA bT).trans k5,hr⟩
end
def CS.val(P:CS):Prop:=∀p t D,p<96->P.pg p=.full t D->t.ok/\t.place=p/\t.lost=false/\(∀j,D j<256)/\cq D=D
def Twin(t t':Tg):Prop:=t'.copy=(t.copy+1)%256\/t.copy=(t'.copy+1)%256
structure Gd(P:CS):Prop where
 calm:P.calm
 val:P.val
 seq:∀p q t t' D D',p<96->q<96->p≠q->P.pg p=.full t D->P.pg q=.full t' D'->t.seq=t'.seq->t.of=t'.of/\D=D'/\Twin t t'
def CV(P:CS)(o:Nat)(fl:Int)(p:Nat):Prop:=p<96/\∃t D,P.pg p=.full t D/\t.of=o/\fl<t.seq/\∀q t' D',q<96->q≠p->P.pg q=.full t' D'->t'.of=o->t'.seq<t.seq\/t'.seq=t.seq/\t'.copy=(t.copy+1)%256
def BX(P:CS)(o:Nat)(fl:Int):Prop:=∀q t D,q<96->P.pg q=.full t D->t.of=o->t.seq<=fl
def floor(k:Cp)(o:Nat):Int:=if o=24 then -1 else k.fl o
theorem uF(k:Cp):floor k 24 = -1:=rfl
theorem fR(k:Cp){o:Nat}(h:o<24):floor k o=k.fl o:=if_neg (by omega)
structure Cw(P:CS)(k:Cp)(L:Nat->Nat):Prop where
 pt:L 24≠0
 data:bj P (L 24-1)=uC k
 told:k.told
 bad:∀b,b<12->k.bad b=false
 scs:∀b,b<12->k.ia b=0
 yes:∀o,o<25->L o≠0->CV P o (floor k o) (L o-1)
 no:∀o,o<25->L o=0->BX P o (floor k o)
theorem Cw.lt{P:CS}{k:Cp}{L:Nat->Nat}(h:Cw P k L){o:Nat}(ho:o<25):L o<=96:=by
 by_cases e:L o=0
 ·omega
 ·have:=(h.yes o ho e).1;omega
theorem Cw.cM{P:CS}{k:Cp}{L:Nat->Nat}(h:Cw P k L){o:Nat}(ho:o<25)(e:L o≠0):∃t D,P.pg (L o-1)=.full t D/\t.of=o:=by
 obtain⟨_,t,D,h1,h2,_⟩:=h.yes o ho e;exact⟨t,D,h1,h2⟩
def arr(P:CS)(L:Nat->Nat)(o j:Nat):Nat:=if L o=0 then 0 else bj P (L o-1) j
def Ac(P:CS)(L:Nat->Nat)(a:Nat->Nat->Nat):Prop:=∀o j,o<24->j<160->arr P L o j=a o j
theorem xg{L:Nat->Nat}{b:Nat}:∀ {n:Nat},jV L n b=0↔∀o,o<n->L o≠0->(L o-1)/8≠b
 |0=>by simp[jV]
 | n+1=>by
  have ih:=@xg L b n;unfold jV;constructor
  ·intro h o ho e1 e2;by_cases h1:o=n
   ·subst h1;rw[if_pos ⟨e1,e2⟩] at h;omega
   ·exact ih.1 (by omega) o (by omega) e1 e2
  ·intro h;rw[if_neg (fun e=>h n (by omega) e.1 e.2),ih.2 (fun o ho=>h o (by omega))]
theorem fS{L:Nat->Nat}{b:Nat}:lv L b=0↔∀o,o<25->L o≠0->(L o-1)/8≠b:=xg
structure AA(P:CS)(k:Cp)(L:Nat->Nat)(m:Int):Prop where
 gd:Gd P
 eV:Cw P k L
 room:5<=an (lv L) 0
 tw:∀p q t t' D D',p<96->q<96->p≠q->P.pg p=.full t D->P.pg q=.full t' D'->t.seq=t'.seq->lv L (p/8)=0\/lv L (q/8)=0
 sq:∀p t D,p<96->P.pg p=.full t D->t.seq<m
 fl:k.next<m/\∀o,o<24->k.fl o<m
theorem AA.sub{P P':CS}{k:Cp}{L:Nat->Nat}{m:Int}(h:AA P k L m)(hc:P'.calm)(h1:∀q t D,q<96->P'.pg q=.full t D->P.pg q=.full t D)(h2:∀o,o<25->L o≠0->P'.pg (L o-1)=P.pg (L o-1)):AA P' k L m:=by
 refine⟨⟨hc,fun p t D hp e=>h.gd.val p t D hp (h1 p t D hp e),fun p q t t' D D' hp hq hn e e'=>h.gd.seq p q t t' D D' hp hq hn (h1 p t D hp e) (h1 q t' D' hq e')⟩,
  ⟨h.eV.pt,?_,h.eV.told,h.eV.bad,h.eV.scs,fun o ho e=>?_,fun o ho e q t D hq hf=>h.eV.no o ho e q t D hq (h1 q t D hq hf)⟩,h.room,
  fun p q t t' D D' hp hq hn e e'=>h.tw p q t t' D D' hp hq hn (h1 p t D hp e) (h1 q t' D' hq e'),fun p t D hp e=>h.sq p t D hp (h1 p t D hp e),h.fl⟩
 ·rw[<-h.eV.data];unfold bj;rw[h2 24 (by omega) h.eV.pt]
 ·obtain⟨hp,t,D,e1,e2,e3,e4⟩:=h.eV.yes o ho e;exact⟨hp,t,D,by rw[h2 o ho e];exact e1,e2,e3,fun q t' D' hq hn hf=>e4 q t' D' hq hn (h1 q t' D' hq hf)⟩
theorem Ac.same{P P':CS}{L:Nat->Nat}{a:Nat->Nat->Nat}(h:Ac P L a)(h2:∀o,o<25->L o≠0->P'.pg (L o-1)=P.pg (L o-1)):Ac P' L a:=fun o j ho hj=>by
 rw[<-h o j ho hj];unfold arr;split
 ·rfl
 ·rename_i e
  unfold bj;rw[h2 o (by omega) e]
def acK(P:CS)(p q:Nat)(t:Tg)(D:Nat->Nat):Prop:=∃t0,P.pg p=.full t0 D/\t=⟨(q:Int),t0.of,t0.seq,(t0.copy+1)%256,t0.lost⟩
def CS.uniq(P:CS):Prop:=∀p q t t' D D',p<96->q<96->P.pg p=.full t D->P.pg q=.full t' D'->t.seq=t'.seq->p=q
theorem sG{t:Tg}(h:t.ok){q:Nat}(hq:q<96)(h6:t.of≠24->q%8<=5):(⟨(q:Int),t.of,t.seq,(t.copy+1)%256,t.lost⟩:Tg).ok:=by
 unfold Tg.ok at *;refine⟨by simp only;omega,by simp only;omega,h.2.2.1,h.2.2.2.1,h.2.2.2.2.1,h.2.2.2.2.2.1,by simp only;omega,by simp only;omega,h.2.2.2.2.2.2.2.2.1,fun hn=>?_⟩;have:=h6 hn;simp only;omega
theorem AA.am0{P P':CS}{k:Cp}{L:Nat->Nat}{m:Int}{d:Nat}(h:AA P k L m)(hu:P.uniq)(hd:lv L d=0)(hc:P'.calm)
  (h1:∀q t D,q<96->P'.pg q=.full t D->P.pg q=.full t D\/q/8=d/\(t.of≠24->q%8<=5)/\∃o,o<25/\L o≠0/\acK P (L o-1) q t D/\∀q' t' D',q'<96->P'.pg q'=.full t' D'->t'.seq=t.seq->q'=q\/q'=L o-1)
  (h2:∀o,o<25->L o≠0->P'.pg (L o-1)=P.pg (L o-1)):AA P' k L m:=by
 have hL:∀o,o<25->L o≠0->L o-1<96:=fun o ho e=>(h.eV.yes o ho e).1;have ct:∀o q,o<25->L o≠0->q/8=d->q≠L o-1:=fun o q ho e hq hh=>fS.1 hd o ho e (by rw[<-hh];exact hq);have old:∀q t D,q<96->P'.pg q=.full t D->∃p t0,p<96/\P.pg p=.full t0 D/\t0.seq=t.seq/\t0.of=t.of:=fun q t D hq e=>by
  rcases h1 q t D hq e with e|⟨_,_,o,ho,e0,⟨t0,ht0,rfl⟩,_⟩
  ·exact⟨q,t,hq,e,rfl,rfl⟩
  ·exact⟨L o-1,t0,hL o ho e0,ht0,rfl,rfl⟩
 refine⟨⟨hc,fun p t D hp e=>?_,fun p q t t' D D' hp hq hn e e' hs=>?_⟩,⟨h.eV.pt,?_,h.eV.told,h.eV.bad,h.eV.scs,fun o ho e=>?_,fun o ho e q t D hq hf js=>?_⟩,h.room,fun p q t t' D D' hp hq hn e e' hs=>?_,fun p t D hp e=>?_,h.fl⟩
 ·rcases h1 p t D hp e with e|⟨_,h6,o,ho,e0,⟨t0,ht0,rfl⟩,_⟩
  ·exact h.gd.val p t D hp e
  ·obtain⟨v1,v2,v3,v4,v5⟩:=h.gd.val _ _ _ (hL o ho e0) ht0;exact⟨sG v1 hp h6,rfl,v3,v4,v5⟩
 ·rcases h1 p t D hp e with e1|⟨b1,_,o,ho,e0,⟨t0,ht0,et⟩,hm⟩
  ·rcases h1 q t' D' hq e' with e2|⟨b2,_,o,ho,e0,⟨t0,ht0,et⟩,hm⟩
   ·exact absurd (hu p q t t' D D' hp hq e1 e2 hs) hn
   ·rcases hm p t D hp e hs with rfl|rfl
    ·exact absurd rfl hn
    ·rw[e1] at ht0
     cases ht0
     rw[et];exact⟨rfl,rfl,.inl rfl⟩
  ·rcases hm q t' D' hq e' hs.symm with rfl|rfl
   ·exact absurd rfl hn
   ·rw[h2 o ho e0,ht0] at e'
    cases e'
    rw[et];exact⟨rfl,rfl,.inr rfl⟩
 ·rw[<-h.eV.data];unfold bj;rw[h2 24 (by omega) h.eV.pt]
 ·obtain⟨hp,t,D,e1,e2,e3,e4⟩:=h.eV.yes o ho e;refine⟨hp,t,D,by rw[h2 o ho e];exact e1,e2,e3,fun q t' D' hq hn hf js=>?_⟩;rcases h1 q t' D' hq hf with hf|⟨b1,_,o',jE,e0,⟨t0,ht0,et⟩,hm⟩
  ·exact e4 q t' D' hq hn hf js
  ·by_cases hx:L o'-1=L o-1
   ·rw[hx,e1] at ht0
    cases ht0
    rw[et];exact .inr ⟨rfl,rfl⟩
   ·have:=e4 (L o'-1) t0 D' (hL o' jE e0) hx ht0 (by rw[et] at js;exact js);rcases this with this|⟨this,_⟩
    ·rw[et];exact .inl this
    ·exact absurd (hu _ _ _ _ _ _ (hL o' jE e0) hp ht0 e1 this) hx
 ·obtain⟨p,t0,hp,e1,e2,e3⟩:=old q t D hq hf;rw[<-e2];exact h.eV.no o ho e p t0 D hp e1 (by rw[e3];exact js)
 ·rcases h1 p t D hp e with e1|⟨b1,_⟩
  ·rcases h1 q t' D' hq e' with e2|⟨b2,_⟩
   ·exact absurd (hu p q t t' D D' hp hq e1 e2 hs) hn
   ·rw[b2];exact .inr hd
  ·rw[b1];exact .inl hd
 ·obtain⟨p',t0,hp',e1,e2,e3⟩:=old p t D hp e;rw[<-e2];exact h.sq p' t0 D hp' e1
structure AG(P P':CS)(L L':Nat->Nat)(v:Nat):Prop where
 from_:∀q t D,q<96->P'.pg q=.full t D->(P.pg q=.full t D/\q/8≠v)\/(t.of≠24->q%8<=5)/\∃o,o<25/\L o≠0/\(L o-1)/8=v/\L' o=q+1/\acK P (L o-1) q t D
 stay:∀o,o<25->L o≠0->(L o-1)/8≠v->L' o=L o/\P'.pg (L o-1)=P.pg (L o-1)
 none:∀o,o<25->L o=0->L' o=0
 go:∀o,o<25->L o≠0->(L o-1)/8=v->L' o≠0/\L' o-1<96/\∃t D,P'.pg (L' o-1)=.full t D/\acK P (L o-1) (L' o-1) t D
theorem AG.iff{P P':CS}{L L':Nat->Nat}{v:Nat}(h:AG P P' L L' v){o:Nat}(ho:o<25):L' o=0↔L o=0:=by
 constructor
 ·intro e;by_cases e0:L o=0
  ·exact e0
  ·by_cases e1:(L o-1)/8=v
   ·exact absurd e (h.go o ho e0 e1).1
   ·rw[(h.stay o ho e0 e1).1] at e;exact e
 ·exact h.none o ho
theorem AG.cM{P P':CS}{L L':Nat->Nat}{v:Nat}(h:AG P P' L L' v){o:Nat}(ho:o<25)(e:L o≠0){t0:Tg}{D:Nat->Nat}(hp:P.pg (L o-1)=.full t0 D):∃t,P'.pg (L' o-1)=.full t D/\t.of=t0.of/\t.seq=t0.seq/\t.lost=t0.lost/\(t.copy=t0.copy\/t.copy=(t0.copy+1)%256):=by
 by_cases e1:(L o-1)/8=v
 ·obtain⟨_,_,t,D',h1,t1,h2,h3⟩:=h.go o ho e e1;rw[hp] at h2
  cases h2
  exact⟨t,h1,by rw[h3],by rw[h3],by rw[h3],.inr (by rw[h3])⟩
 ·obtain⟨h1,h2⟩:=h.stay o ho e e1;rw[h1,h2];exact⟨t0,hp,rfl,rfl,rfl,.inl rfl⟩
theorem AG.old{P P':CS}{L L':Nat->Nat}{v:Nat}(h:AG P P' L L' v)(hL:∀o,o<25->L o≠0->L o-1<96){q:Nat}{t:Tg}{D:Nat->Nat}(hq:q<96)(e:P'.pg q=.full t D):∃p t0,p<96/\P.pg p=.full t0 D/\t0.seq=t.seq/\t0.of=t.of/\(p=q/\q/8≠v\/p/8=v/\∃o,o<25/\L o≠0/\L o-1=p/\L' o=q+1):=by
 rcases h.from_ q t D hq e with⟨e,hv⟩|⟨_,o,ho,e0,ev,eL,t0,ht0,et⟩
 ·exact⟨q,t,hq,e,rfl,rfl,.inl ⟨rfl,hv⟩⟩
 ·exact⟨L o-1,t0,hL o ho e0,ht0,by rw[et],by rw[et],.inr ⟨ev,o,ho,e0,rfl,eL⟩⟩
theorem AG.uniq{P P':CS}{L L':Nat->Nat}{v:Nat}(h:AG P P' L L' v)(hL:∀o,o<25->L o≠0->L o-1<96)(hj:∀o o',o<25->o'<25->L o≠0->L o=L o'->o=o')(hu:P.uniq):P'.uniq:=fun p q t t' D D' hp hq e e' hs=>by
 obtain⟨p1,t1,b1,c1,d1,_,f1⟩:=h.old hL hp e;obtain⟨p2,t2,b2,c2,d2,_,f2⟩:=h.old hL hq e';have hpp:p1=p2:=hu p1 p2 t1 t2 D D' b1 b2 c1 c2 (by rw[d1,d2,hs]);subst hpp;rcases f1 with⟨rfl,g1⟩|⟨g1,o,ho,e0,eo,eL⟩
 ·rcases f2 with⟨rfl,g2⟩|⟨g2,_⟩
  ·rfl
  ·exact absurd g2 g1
 ·rcases f2 with⟨rfl,g2⟩|⟨g2,o',jE,e0',eo',eL'⟩
  ·exact absurd g1 g2
  ·have:=hj o o' ho jE e0 (by omega);subst this;omega
theorem AG.aqi{P P':CS}{k:Cp}{L L':Nat->Nat}{m:Int}{v:Nat}(M:AG P P' L L' v)(h:AA P k L m)(hu:P.uniq)(hj:∀o o',o<25->o'<25->L o≠0->L o=L o'->o=o')(hc:P'.calm)(hr:5<=an (lv L') 0):AA P' k L' m:=by
 have hL:∀o,o<25->L o≠0->L o-1<96:=fun o ho e=>(h.eV.yes o ho e).1;have hu':=M.uniq hL hj hu;refine⟨⟨hc,fun p t D hp e=>?_,fun p q t t' D D' hp hq hn e e' hs=>absurd (hu' p q t t' D D' hp hq e e' hs) hn⟩,⟨fun e=>h.eV.pt ((M.iff (by omega)).1 e),?_,h.eV.told,h.eV.bad,h.eV.scs,fun o ho e=>?_,fun o ho e q t D hq hf js=>?_⟩,hr,fun p q t t' D D' hp hq hn e e' hs=>absurd (hu' p q t t' D D' hp hq e e' hs) hn,fun p t D hp e=>?_,h.fl⟩
 ·rcases M.from_ p t D hp e with⟨e,_⟩|⟨h6,o,ho,e0,ev,eL,t0,ht0,et⟩
  ·exact h.gd.val p t D hp e
  ·obtain⟨v1,v2,v3,v4,v5⟩:=h.gd.val _ _ _ (hL o ho e0) ht0;rw[et] at h6 ⊢;exact⟨sG v1 hp h6,rfl,v3,v4,v5⟩
 ·rw[<-h.eV.data];obtain⟨t0,D,hp,_⟩:=h.eV.cM (by omega:24<25) h.eV.pt;obtain⟨t,ht,_⟩:=M.cM (by omega) h.eV.pt hp;unfold bj;rw[ht,hp]
 ·have e0:L o≠0:=fun x=>e ((M.iff ho).2 x);obtain⟨hp,t0,D,e1,e2,e3,e4⟩:=h.eV.yes o ho e0;obtain⟨t,ht,js,hsq,_,_⟩:=M.cM ho e0 e1;have hp':L' o-1<96:=by
   by_cases e5:(L o-1)/8=v
   ·exact(M.go o ho e0 e5).2.1
   ·rw[(M.stay o ho e0 e5).1];exact hp
  refine⟨hp',t,D,ht,by rw[js];exact e2,by rw[hsq];exact e3,fun q t' D' hq hn hf vO=>?_⟩;obtain⟨p1,t1,b1,c1,d1,g1,f1⟩:=M.old hL hq hf;by_cases hx:p1=L o-1
  ·subst hx;rw[e1] at c1
   cases c1
   exact absurd (hu' _ _ _ _ _ _ hq hp' hf ht (by rw[<-d1,hsq])) hn
  ·rcases e4 p1 t1 D' b1 hx c1 (by rw[g1];exact vO) with this|⟨this,_⟩
   ·rw[hsq, <-d1];exact .inl this
   ·exact absurd (hu _ _ _ _ _ _ b1 hp c1 e1 this) hx
 ·obtain⟨p1,t1,b1,c1,d1,g1,f1⟩:=M.old hL hq hf;rw[<-d1];exact h.eV.no o ho ((M.iff ho).1 e) p1 t1 D b1 c1 (by rw[g1];exact js)
 ·obtain⟨p1,t1,b1,c1,d1,g1,f1⟩:=M.old hL hp e;rw[<-d1];exact h.sq p1 t1 D b1 c1
theorem AG.aoC{P P':CS}{k:Cp}{L L':Nat->Nat}{v:Nat}{a:Nat->Nat->Nat}(M:AG P P' L L' v)(h:Cw P k L)(hs:Ac P L a):Ac P' L' a:=fun o j ho hj=>by
 rw[<-hs o j ho hj];unfold arr;by_cases e:L o=0
 ·rw[if_pos e,if_pos (M.none o (by omega) e)]
 ·rw[if_neg e,if_neg (fun x=>e ((M.iff (by omega)).1 x))];obtain⟨t0,D,hp,_⟩:=h.cM (by omega) e;obtain⟨t,ht,_⟩:=M.cM (by omega) e hp;unfold bj;rw[ht,hp]
theorem AA.new{P P':CS}{k k':Cp}{L L':Nat->Nat}{m m':Int}{p o:Nat}{t:Tg}{D:Nat->Nat}(h:AA P k L m)(hu:P.uniq)(hc:P'.calm)(hp:p<96)(ho:o<25)(vM:t.of=o)
  (hv:t.ok/\t.place=p/\t.lost=false/\(∀j,D j<256)/\cq D=D) (bG:P'.pg p=.full t D) (hb:P.pg p=.blank) (h1:∀q,q<96->q≠p->P'.pg q=P.pg q) (hs:∀q t' D',q<96->P.pg q=.full t' D'->t'.seq<t.seq)
  (hL:L' o=p+1) (hk:o<24->k'=k/\k.fl o<t.seq/\∀i,i<25->i≠o->L' i=L i)
  (hk2:o=24->D=uC k'/\k'.told/\(∀b,b<12->k'.bad b=false)/\(∀b,b<12->k'.ia b=0)/\∀i,i<24->(L' i=L i/\k'.fl i=k.fl i)\/(L' i=0/\L i≠0/\∃t' D',P.pg (L i-1)=.full t' D'/\k'.fl i=t'.seq))
  (hr:5<=an (lv L') 0) (hm:t.seq<m'/\m<=m'/\k'.next<m'/\∀i,i<24->k'.fl i<m'):AA P' k' L' m'/\P'.uniq:=by
 have my:∀q t' D',q<96->P'.pg q=.full t' D'->(q=p/\t'=t/\D'=D)\/(q≠p/\P.pg q=.full t' D'):=fun q t' D' hq e=>by
  by_cases hqp:q=p
  ·subst hqp;rw[bG] at e
   cases e
   exact .inl ⟨rfl,rfl,rfl⟩
  ·rw[h1 q hq hqp] at e;exact .inr ⟨hqp,e⟩
 have hu':P'.uniq:=fun q q' t1 t2 D1 D2 hq gW e e' hss=>by
  rcases my q t1 D1 hq e with⟨a1,a2,_⟩|⟨a1,a2⟩
  ·rcases my q' t2 D2 gW e' with⟨b1,b2,_⟩|⟨b1,b2⟩
   ·rw[a1,b1]
   ·have:=hs q' t2 D2 gW b2;rw[<-hss,a2] at this;omega
  ·rcases my q' t2 D2 gW e' with⟨b1,b2,_⟩|⟨b1,b2⟩
   ·have:=hs q t1 D1 hq a2;rw[hss,b2] at this;omega
   ·exact hu q q' t1 t2 D1 D2 hq gW a2 b2 hss
 have ab:∀i,i<25->L i≠0->P'.pg (L i-1)=P.pg (L i-1):=fun i hi e=>by
  obtain⟨hq,t1,D1,e1,_⟩:=h.eV.yes i hi e;refine h1 _ hq (fun x=>?_);rw[x,hb] at e1
  cases e1
 have gN:∀f,f<t.seq->CV P' o f p:=fun f hf=>⟨hp,t,D,bG,vM,hf,fun q t' D' hq hn e js=>by
  rcases my q t' D' hq e with⟨a1,_⟩|⟨a1,a2⟩
  ·exact absurd a1 hn
  ·exact .inl (hs q t' D' hq a2)⟩
 have qq:∀i f,i<25->i≠o->L i≠0->CV P i f (L i-1)->CV P' i f (L i-1):=fun i f hi iY e ⟨hq,t1,D1,e1,e2,e3,e4⟩ =>
  ⟨hq,t1,D1,by rw[ab i hi e];exact e1,e2,e3,fun q t' D' gW hn e' js=>by
   rcases my q t' D' gW e' with⟨a1,a2,_⟩|⟨a1,a2⟩
   ·rw[a2,vM] at js;omega
   ·exact e4 q t' D' gW hn a2 js⟩
 have lV:∀i f,i<25->i≠o->BX P i f->BX P' i f:=fun i f hi iY hh q t' D' gW e' js=>by
  rcases my q t' D' gW e' with⟨a1,a2,_⟩|⟨a1,a2⟩
  ·rw[a2,vM] at js;omega
  ·exact hh q t' D' gW a2 js
 have jj:L' 24≠0:=by
  by_cases e:o=24
  ·rw[<-e,hL];omega
  ·rw[(hk (by omega)).2.2 24 (by omega) (fun x=>e x.symm)];exact h.eV.pt
 refine⟨⟨⟨hc,fun q t' D' hq e=>?_,fun q q' t1 t2 D1 D2 hq gW hn e e' hss=>absurd (hu' q q' t1 t2 D1 D2 hq gW e e' hss) hn⟩,⟨jj,?_,?_,?_,?_,fun i hi e=>?_,fun i hi e=>?_⟩,hr,fun q q' t1 t2 D1 D2 hq gW hn e e' hss=>absurd (hu' q q' t1 t2 D1 D2 hq gW e e' hss) hn,fun q t' D' hq e=>?_,?_⟩,hu'⟩
 ·rcases my q t' D' hq e with⟨a1,a2,a3⟩|⟨a1,a2⟩
  ·rw[a1,a2,a3];exact hv
  ·exact h.gd.val q t' D' hq a2
 ·by_cases e:o=24
  ·subst e;rw[hL];unfold bj;rw[Nat.add_sub_cancel,bG];exact(hk2 rfl).1
  ·obtain⟨rfl,_,hh⟩:=hk (by omega);rw[hh 24 (by omega) (fun x=>e x.symm), <-h.eV.data];unfold bj;rw[ab 24 (by omega) h.eV.pt]
 ·by_cases e:o=24
  ·exact(hk2 e).2.1
  ·rw[(hk (by omega)).1];exact h.eV.told
 ·by_cases e:o=24
  ·exact(hk2 e).2.2.1
  ·rw[(hk (by omega)).1];exact h.eV.bad
 ·by_cases e:o=24
  ·exact(hk2 e).2.2.2.1
  ·rw[(hk (by omega)).1];exact h.eV.scs
 ·by_cases iY:i=o
  ·subst iY;rw[hL,Nat.add_sub_cancel];refine gN _ ?_;by_cases e:i=24
   ·subst e;rw[uF];have:=hv.1;unfold Tg.ok at this;omega
   ·rw[(hk (by omega)).1,fR _ (by omega)];exact(hk (by omega)).2.1
  ·by_cases e2:o=24
   ·subst e2;rcases(hk2 rfl).2.2.2.2 i (by omega) with⟨a1,a2⟩|⟨a1,_⟩
    ·rw[a1] at e ⊢;refine qq i _ hi iY e ?_;have:=h.eV.yes i hi e;rw[fR _ (by omega)] at this ⊢;rw[a2];exact this
    ·exact absurd a1 e
   ·obtain⟨rfl,_,hh⟩:=hk (by omega);rw[hh i hi iY] at e ⊢;exact qq i _ hi iY e (h.eV.yes i hi e)
 ·have iY:i≠o:=fun x=>by
   subst x;rw[hL] at e;omega
  by_cases e2:o=24
  ·subst e2;rcases(hk2 rfl).2.2.2.2 i (by omega) with⟨a1,a2⟩|⟨a1,a2,t1,D1,a3,a4⟩
   ·rw[a1] at e;have:=h.eV.no i hi e;rw[fR _ (by omega)] at this ⊢;rw[a2];exact lV i _ hi iY this
   ·refine lV i _ hi iY (fun q t' D' hq e' js=>?_);obtain⟨hp3,t3,D3,e3,_,_,e4⟩:=h.eV.yes i hi a2;rw[e3] at a3
    cases a3
    rw[fR _ (by omega),a4];by_cases hx:q=L i-1
    ·subst hx;rw[e3] at e'
     cases e'
     omega
    ·rcases e4 q t' D' hq hx e' js with hh|⟨hh,_⟩
     ·omega
     ·omega
  ·obtain⟨rfl,_,hh⟩:=hk (by omega);rw[hh i hi iY] at e;exact lV i _ hi iY (h.eV.no i hi e)
 ·rcases my q t' D' hq e with⟨a1,a2,a3⟩|⟨a1,a2⟩
  ·rw[a2];exact hm.1
  ·have:=h.sq q t' D' hq a2;omega
 ·exact⟨hm.2.2.1,hm.2.2.2⟩
theorem qI(st:Nat->Nat)(b x s:Nat):∀n,cN (af st b x) s n+(if b<n/\st b=s then 1 else 0)=cN st s n+(if b<n/\x=s then 1 else 0)
 |0=>by simp[cN]
 | n+1=>by
  have ih:=qI st b x s n;unfold cN af;unfold af at ih;by_cases e:n=b
  ·subst e;simp only[if_true,Nat.lt_irrefl,false_and,if_false,Nat.lt_succ_self,true_and] at ih ⊢;omega
  ·have h1:b<n+1↔b<n:=by omega
   rw[if_neg e];simp only[h1];omega
theorem bV(st:Nat->Nat){b:Nat}(x s:Nat)(hb:b<12):an (af st b x) s+(if st b=s then 1 else 0)=an st s+(if x=s then 1 else 0):=by
 have:=qI st b x s 12;simp only[hb,true_and] at this;exact this
theorem gA{st rH:Nat->Nat}{s s':Nat}:∀ {n:Nat},(∀b,b<n->st b=s->rH b=s')->cN st s n<=cN rH s' n
 |0,_=>Nat.le_refl _
 | n+1,h=>by
  have ih:=gA (n:=n) (fun b hb=>h b (by omega));have:=h n (by omega);unfold cN;by_cases e:st n=s
  ·rw[if_pos e,if_pos (this e)];omega
  ·rw[if_neg e];split<;>omega
theorem xh{st:Nat->Nat}:∀ {n:Nat},(∀b,b<n->st b=0\/st b=2)->cN st 0 n+cN st 2 n=n
 |0,_=>rfl
 | n+1,h=>by
  have ih:=xh (n:=n) (fun b hb=>h b (by omega));unfold cN;rcases h n (by omega) with e|e<;>rw[e]<;>simp<;>omega
theorem uG{st:Nat->Nat}{s:Nat}:∀ {n:Nat},cN st s n≠0->∃b,b<n/\st b=s
 |0,h=>absurd rfl h
 | n+1,h=>by
  unfold cN at h;by_cases e:st n=s
  ·exact⟨n,by omega,e⟩
  ·rw[if_neg e] at h;obtain⟨b,h1,h2⟩:=uG (n:=n) (by omega);exact⟨b,by omega,h2⟩
theorem nQ{st:Nat->Nat}{pn:Nat}:∀ {n:Nat},n<=12->(∃i,12-n<=i/\i<12/\st ((pn+i)%12)=0)->∃d,fQ st pn n=some d
 |0,hn,⟨i,h1,h2,h3⟩=>by omega
 | n+1,hn,⟨i,h1,h2,h3⟩=>by
  unfold fQ;by_cases e:st ((pn+(12-(n+1)))%12)=0
  ·exact⟨_,if_pos e⟩
  ·rw[if_neg e];refine nQ (by omega) ⟨i,?_,h2,h3⟩;have:i≠12-(n+1):=fun x=>by rw[x] at h3;exact e h3
   omega
theorem iZ{st:Nat->Nat}{pn:Nat}(hp:pn<=12)(h:an st 0≠0):∃d,takeN st pn=some d/\d<12/\st d=0:=by
 obtain⟨b,hb,e⟩:=uG h
 obtain⟨d,hd⟩:=nQ (st:=st) (pn:=pn) (n:=12) (by omega) ⟨(b+24-pn)%12,by omega,Nat.mod_lt _ (by omega),by
  rw[show(pn+(b+24-pn)%12)%12=b by omega];exact e⟩
 exact⟨d,hd,da hd⟩
def ja(f:Nat->Nat):Nat->Nat
 |0=>0
 |n+1=>ja f n+f n
theorem xi(f g:Nat->Nat):∀n,ja (fun b=>f b+g b) n=ja f n+ja g n
 |0=>rfl
 | n+1=>by
  unfold ja;rw[xi f g n];omega
theorem xj(x y:Nat):∀n,ja (fun b=>if x≠0/\y=b then 1 else 0) n<=1/\(n<=y->ja (fun b=>if x≠0/\y=b then 1 else 0) n=0)
 |0=>⟨Nat.zero_le _,fun _=>rfl⟩
 | n+1=>by
  obtain⟨h1,h2⟩:=xj x y n;unfold ja;constructor
  ·by_cases e:y=n
   ·rw[h2 (by omega)];split<;>omega
   ·rw[if_neg (fun h=>e h.2)];omega
  ·intro h;rw[h2 (by omega),if_neg (fun h3=>by omega)]
theorem acL(at_:Nat->Nat):∀n,ja (jV at_ n) 12<=n
 | 0=>by
  have:∀k,ja (jV at_ 0) k=0:=fun k=>by
   induction k with
   |zero=>rfl
   |succ k ih=>unfold ja;rw[ih];rfl
  rw[this];exact Nat.le_refl _
 | n+1=>by
  have ih:=acL at_ n;have e:jV at_ (n+1)=fun b=>jV at_ n b+(if at_ n≠0/\(at_ n-1)/8=b then 1 else 0):=by
   funext b;rfl
  rw[e,xi];have:=(xj (at_ n) ((at_ n-1)/8) 12).1;omega
theorem zc{st f:Nat->Nat}{s x:Nat}:∀ {n:Nat},(∀b,b<n->st b=s->x<=f b)->cN st s n*x<=ja f n
 |0,_=>by simp[cN]
 | n+1,h=>by
  have ih:=zc (n:=n) (fun b hb=>h b (by omega));have hn:=h n (by omega);unfold cN ja;split
  ·rename_i e
   have:=hn e;rw[Nat.add_mul,Nat.one_mul];omega
  ·rw[Nat.add_zero];omega
theorem lj{s l:Nat->Int}:∀ {n:Nat},(∀b,b<n->s b=2->0<=bs s l n/\l (bs s l n).toNat<=l b)/\(0<=bs s l n->s (bs s l n).toNat=2)
 |0=>⟨fun b hb=>by omega,fun h=>by simp[bs] at h⟩
 | n+1=>by
  obtain⟨h1,h2⟩:=@lj s l n;unfold bs;by_cases e:s n=2/\(bs s l n<0\/l n<l (bs s l n).toNat)
  ·rw[if_pos e];refine⟨fun b hb hs=>⟨by omega,?_⟩,fun _=>by simpa using e.1⟩;simp only[Int.toNat_natCast];by_cases eQ:b=n
   ·rw[eQ];exact Int.le_refl _
   ·obtain⟨a1,a2⟩:=h1 b (by omega) hs;rcases e.2 with e2|e2<;>omega
  ·rw[if_neg e];refine⟨fun b hb hs=>?_,h2⟩;by_cases eQ:b=n
   ·subst eQ;have:¬(bs s l b<0\/l b<l (bs s l b).toNat):=fun x=>e ⟨hs,x⟩;omega
   ·exact h1 b (by omega) hs
theorem gB{n:Nat}:∀ {l:List Nat},l.Nodup->l.length<=(l.filter (· ≠ n)).length+1
 | [],_=>by simp
 | x::l,h=>by
  rw[List.nodup_cons] at h;by_cases e:x=n
  ·subst e
   have:l.filter (· ≠ x)=l:=List.filter_eq_self.2 (fun y hy=>by
    have:y≠x:=fun z=>h.1 (z ▸ hy);simpa using this)
   rw[List.filter_cons_of_neg (by simp),this];exact Nat.le_refl _
  ·have ih:=gB (n:=n) h.2;simp[e];simpa using ih
theorem aa2{at_:Nat->Nat}{v:Nat}:∀ {n:Nat} {l:List Nat},l.Nodup->(∀o,o∈l->o<n/\at_ o≠0/\(at_ o-1)/8=v)->l.length<=jV at_ n v
 | 0,l,h,hl=>by
  cases l with
  |nil=>exact Nat.le_refl _
  |cons x l=>exact absurd (hl x (by simp)).1 (by omega)
 | n+1,l,h,hl=>by
  have ih:=aa2 (at_:=at_) (v:=v) (n:=n) (l:=l.filter (· ≠ n)) (h.filter _) (fun o ho=>by
   simp only[List.mem_filter,ne_eq,decide_eq_true_eq,decide_not,Bool.not_eq_true',decide_eq_false_iff_not] at ho;have:=hl o ho.1;exact⟨by omega,this.2⟩)
  have h2:=gB (n:=n) h;unfold jV;by_cases e:n∈l
  ·have:=hl n e;rw[if_pos this.2];omega
  ·have:l.filter (· ≠ n)=l:=List.filter_eq_self.2 (fun y hy=>by
    have:y≠n:=fun z=>e (z ▸ hy);simpa using this)
   rw[this] at ih;omega
structure AM(at_ ow:Nat->Nat):Prop where
 o:∀p,p<96->ow p≠0->ow p<=25/\at_ (ow p-1)=p+1
 a:∀o,o<25->at_ o≠0->at_ o<=96/\ow (at_ o-1)=o+1
theorem AM.mw{at_ ow:Nat->Nat}(h:AM at_ ow):AK at_ ow:=⟨fun o ho=>by
 by_cases e:at_ o=0
 ·omega
 ·exact(h.a o ho e).1,fun p hp=>by
 by_cases e:ow p=0
 ·omega
 ·exact(h.o p hp e).1⟩
theorem AM.inj{at_ ow:Nat->Nat}(h:AM at_ ow):∀o o',o<25->o'<25->at_ o≠0->at_ o=at_ o'->o=o':=fun o o' ho jE e e'=>by
 have h1:=(h.a o ho e).2;have h2:=(h.a o' jE (by rw[<-e'];exact e)).2;rw[e'] at h1;omega
theorem AM.set{at_ ow:Nat->Nat}(h:AM at_ ow){o p:Nat}(ho:o<25)(hp:p<96)(h0:ow p=0)(hh:bp p o=true):AM (setAt at_ ow o p).1 (setAt at_ ow o p).2/\(setAt at_ ow o p).1=af at_ o (p+1):=by
 have e:setAt at_ ow o p=(af at_ o (p+1),af (if at_ o≠0 then af ow (at_ o-1) 0 else ow) p (o+1)):=by
  unfold setAt;rw[hh,if_neg (by decide),if_neg (fun x=>x.1 h0)]
 rw[e];refine⟨⟨fun q hq ct=>?_,fun i hi ct=>?_⟩,rfl⟩
 ·unfold af at ct ⊢;simp only at ct ⊢;by_cases hqp:q=p
  ·subst hqp;simp only[if_true];exact⟨by omega,by rw[Nat.add_sub_cancel,if_pos rfl]⟩
  ·rw[if_neg hqp] at ct ⊢;by_cases hz:at_ o≠0
   ·rw[if_pos hz] at ct ⊢;by_cases hqo:q=at_ o-1
    ·rw[if_pos hqo] at ct;exact absurd rfl ct
    ·rw[if_neg hqo] at ct ⊢;obtain⟨h1,h2⟩:=h.o q hq ct;refine⟨h1,?_⟩;rw[if_neg (fun x=>hqo (by rw[x] at h2;omega))];exact h2
   ·rw[if_neg hz] at ct ⊢;obtain⟨h1,h2⟩:=h.o q hq ct;refine⟨h1,?_⟩;rw[if_neg (fun x=>hz (by rw[<-x,h2];omega))];exact h2
 ·unfold af at ct ⊢;simp only at ct ⊢;by_cases iY:i=o
  ·subst iY;rw[if_pos rfl,Nat.add_sub_cancel,if_pos rfl];exact⟨by omega,rfl⟩
  ·rw[if_neg iY] at ct ⊢;obtain⟨h1,h2⟩:=h.a i hi ct;have hp2:at_ i-1≠p:=fun x=>by rw[x,h0] at h2;omega
   rw[if_neg hp2];refine⟨h1,?_⟩;by_cases hz:at_ o≠0
   ·rw[if_pos hz,if_neg (fun x=>iY (h.inj i o hi ho ct (by omega)))];exact h2
   ·rw[if_neg hz];exact h2
theorem AM.drop{at_ ow:Nat->Nat}(h:AM at_ ow){o:Nat}(ho:o<25)(h0:at_ o≠0):AM (af at_ o 0) (af ow (at_ o-1) 0):=by
 have ha:=h.a o ho h0;refine⟨fun q hq ct=>?_,fun i hi ct=>?_⟩
 ·unfold af at ct ⊢;by_cases hqo:q=at_ o-1
  ·rw[if_pos hqo] at ct;exact absurd rfl ct
  ·rw[if_neg hqo] at ct ⊢;obtain⟨h1,h2⟩:=h.o q hq ct;refine⟨h1,?_⟩;rw[if_neg (fun x=>hqo (by rw[x] at h2;omega))];exact h2
 ·unfold af at ct ⊢;by_cases iY:i=o
  ·rw[if_pos iY] at ct;exact absurd rfl ct
  ·rw[if_neg iY] at ct ⊢;obtain⟨h1,h2⟩:=h.a i hi ct;refine⟨h1,?_⟩;rw[if_neg (fun x=>iY (h.inj i o hi ho ct (by omega)))];exact h2
theorem uH{ow:Nat->Nat}{b:Nat}:∀ {n x:Nat},x∈gR ow b n↔∃j,j<n/\ow (8*b+j)≠0/\x=ow (8*b+j)-1
 |0,x=>by simp[gR]
 | n+1,x=>by
  have ih:=@uH ow b n x;unfold gR;split
  ·rename_i e
   rw[ih];constructor
   ·rintro⟨j,h1,h2⟩;exact⟨j,by omega,h2⟩
   ·rintro⟨j,h1,h2,h3⟩;refine⟨j,?_,h2,h3⟩;have:j≠n:=fun y=>h2 (by rw[y];exact e);omega
  ·rename_i e
   rw[List.mem_append,ih,List.mem_singleton];constructor
   ·rintro(⟨j,h1,h2⟩|rfl)
    ·exact⟨j,by omega,h2⟩
    ·exact⟨n,by omega,e,rfl⟩
   ·rintro⟨j,h1,h2,h3⟩;by_cases y:j=n
    ·exact .inr (by rw[h3,y])
    ·exact .inl ⟨j,by omega,h2,h3⟩
theorem pJ{ow:Nat->Nat}{b:Nat}:∀ {n i:Nat} (h:i<(gR ow b n).length),∃j,i<=j/\j<n/\ow (8*b+j)≠0/\(gR ow b n)[i]=ow (8*b+j)-1
 |0,i,h=>by simp[gR] at h
 | n+1,i,h=>by
  have ih:=@pJ ow b n i;have hle:=sy ow b n;unfold gR at h;by_cases e:ow (8*b+n)=0
  ·have e2:gR ow b (n+1)=gR ow b n:=if_pos e;simp only[e2];rw[if_pos e] at h;obtain⟨j,h1,h2,h3⟩:=ih h;exact⟨j,h1,by omega,h3⟩
  ·have e2:gR ow b (n+1)=gR ow b n++[ow (8*b+n)-1]:=if_neg e;simp only[e2];rw[if_neg e] at h;simp at h;by_cases hi:i<(gR ow b n).length
   ·obtain⟨j,h1,h2,h3,h4⟩:=ih hi;exact⟨j,h1,by omega,h3,by rw[List.getElem_append_left hi];exact h4⟩
   ·have:i=(gR ow b n).length:=by omega
    subst this;exact⟨n,hle,by omega,e,by simp⟩
theorem jb{at_ ow:Nat->Nat}(h:AM at_ ow){b:Nat}(hb:b<12):∀ {n:Nat},n<=8->(gR ow b n).Nodup
 |0,_=>by simp[gR]
 | n+1,hn=>by
  have ih:=jb h hb (n:=n) (by omega);unfold gR;split
  ·exact ih
  ·rename_i e
   rw[List.nodup_append];refine⟨ih,by simp,fun x hx y hy hxy=>?_⟩;subst hxy;rw[List.mem_singleton] at hy;obtain⟨j,h1,h2,h3⟩:=uH.1 hx;have a1:=(h.o (8*b+j) (by omega) h2).2;have a2:=(h.o (8*b+n) (by omega) e).2;rw[<-h3] at a1;rw[<-hy] at a2;omega
theorem jt{at_ ow:Nat->Nat}(h:AM at_ ow){b:Nat}(hb:b<12){o:Nat}:o∈cc ow b↔o<25/\at_ o≠0/\(at_ o-1)/8=b:=by
 unfold cc;rw[uH];constructor
 ·rintro⟨j,h1,h2,rfl⟩;obtain⟨h3,h4⟩:=h.o (8*b+j) (by omega) h2;rw[h4];exact⟨by omega,by omega,by omega⟩
 ·rintro⟨h1,h2,h3⟩;obtain⟨h4,h5⟩:=h.a o h1 h2;refine⟨(at_ o-1)%8,Nat.mod_lt _ (by omega),?_⟩;rw[show 8*b+(at_ o-1)%8=at_ o-1 by omega,h5];exact⟨by omega,by omega⟩
theorem adY{at_ ow:Nat->Nat}(h:AM at_ ow){b:Nat}(hb:b<12):(cc ow b).length<=lv at_ b :=
 aa2 (jb h hb (Nat.le_refl _)) (fun o ho=>(jt h hb).1 ho)
structure BF(K:KS)(P:CS)(k:Cp)(m:Int):Prop where
 ok:AA P k K.at_ m
 uq:P.uniq
 en:∀o,o<25->K.at_ o≠0->∃t D,P.pg (K.at_ o-1)=.full t D/\K.en o=⟨t.seq,t.copy,false⟩
 fl:∀o,o<24->k.fl o=K.fl o
 next:(∀p t D,p<96->P.pg p=.full t D->t.seq<K.next)/\1<=K.next/\K.next<=m/\∀o,o<24->K.fl o<K.next
 fh:AM K.at_ K.ow
structure AN(K:KS)(P:CS):Prop where
 st:∀b,b<12->K.st b<=2
 ni:∀b,b<12->K.st b=1->K.fo=true/\K.fb=b
 fst:K.fo=true->K.st K.fb=1
 bl:∀b i,b<12->K.st b=0->i<8->P.pg (b*8+i)=.blank
 fr:K.fo=true->∀i,K.fi<=i->i<8->P.pg (K.fb*8+i)=.blank
 fb:K.fb<12
 fi:K.fi<=8
 pn:K.pn<=12
structure Bv(K:KS):Prop where
 hb:Hl.HB K.F
 sc:∀b,b<12->K.F (12+b)=0
 cur:K.cur<96
theorem BF.cM{K:KS}{P:CS}{k:Cp}{m:Int}(h:BF K P k m){o:Nat}(ho:o<25)(e:K.at_ o≠0):K.at_ o-1<96/\∃t D,P.pg (K.at_ o-1)=.full t D/\K.en o=⟨t.seq,t.copy,false⟩/\t.of=o/\t.ok/\t.place=(K.at_ o-1:Nat)/\t.lost=false/\cq D=D:=by
 obtain⟨hp,t,D,e1,e2,_⟩:=h.ok.eV.yes o ho e;obtain⟨t',D',e1',e3⟩:=h.en o ho e;rw[e1] at e1'
 cases e1'
 obtain⟨v1,v2,v3,v4,v5⟩:=h.ok.gd.val _ _ _ hp e1;exact⟨hp,t,D,e1,e3,e2,v1,v2,v3,v5⟩
theorem Cw.dead{P:CS}{k:Cp}{L:Nat->Nat}(h:Cw P k L){b:Nat}(hb:∀i,i<8->P.pg (b*8+i)=.blank):lv L b=0:=fS.2 fun o ho e hh=>by
 obtain⟨t,D,e1,_⟩:=h.cM ho e;have:=hb ((L o-1)%8) (Nat.mod_lt _ (by omega));rw[show b*8+(L o-1)%8=L o-1 by omega,e1] at this
 cases this
theorem zd{st L:Nat->Nat}(h:∀b,b<12->st b=0->lv L b=0)(hf:5<=an st 0):5<=an (lv L) 0:=Nat.le_trans hf (gA h)
def gC(K:KS)(P:CS)(d:Nat)(os:List Nat)(q:Nat):Pg:=if q/8=d/\q%8<os.length then .full (bm K d (q%8) (os.getD (q%8) 0)) (cq (bj P (K.at_ (os.getD (q%8) 0)-1))) else P.pg q
theorem fj{K:KS}{P:CS}{d:Nat}{os:List Nat}{q:Nat}(h:q/8≠d):gC K P d os q=P.pg q:=if_neg fun x=>h x.1
theorem qJ{os:List Nat}{o i:Nat}(h:i<os.length):(os++[o]).getD i 0=os.getD i 0:=by
 simp[List.getD,List.getElem?_append_left h]
theorem nj{os:List Nat}{o:Nat}:(os++[o]).getD os.length 0=o:=by
 simp[List.getD]
theorem xk{K:KS}{P:CS}{d:Nat}{os:List Nat}{o:Nat}(h8:os.length<8)(q:Nat):gC K P d (os++[o]) q=if q=d*8+os.length then .full (bm K d os.length o) (cq (bj P (K.at_ o-1))) else gC K P d os q:=by
 unfold gC;rw[List.length_append,List.length_singleton];by_cases e:q=d*8+os.length
 ·have e1:q/8=d:=by omega
  have e2:q%8=os.length:=by omega
  rw[if_pos e,if_pos ⟨e1,by omega⟩,e2,nj]
 ·rw[if_neg e];by_cases h:q/8=d/\q%8<os.length
  ·rw[if_pos h,if_pos ⟨h.1,by omega⟩,qJ h.2]
  ·rw[if_neg h,if_neg (fun x=>h ⟨x.1,by omega⟩)]
theorem am1{K:KS}{P:CS}{d:Nat}(hb:Hl.HB K.F)(hc:P.calm)(hd:d<12)(dC:∀o,o<25->K.at_ o<=96)(os:List Nat)(ho:∀o,o∈os->o<25/\K.at_ o≠0/\(K.at_ o-1)/8≠d)(h8:os.length<=8) :
  (∀q,(cP K P d os).P.pg q=gC K P d os q)/\(∀i,i<os.length->(cP K P d os).l.getD i Tg.zero=bm K d i (os.getD i 0)) /\
  ∀T,T∈(cP K P d os).tr->T.calm/\(∀q,q/8≠d->T.pg q=P.pg q)/\∃m,m<os.length/\∀q t D,T.pg q=.full t D->gC K P d (os.take m) q=.full t D:=by
 induction os using ep with
 | h0 =>
  refine⟨fun q=>?_,fun i hi=>?_,fun T hT=>?_⟩
  ·unfold gC;rw[if_neg (by simp)];rfl
  ·simp at hi
  ·cases hT
 | h1 os o ih =>
  have jE:∀x,x∈os->x<25/\K.at_ x≠0/\(K.at_ x-1)/8≠d:=fun x hx=>ho x (List.mem_append_left _ hx);have hoo:=ho o (List.mem_append_right _ (List.mem_singleton.2 rfl));have h7:os.length<8:=by simp at h8;omega
  have hi:=kg hb hc hd dC os (fun x hx=>⟨(jE x hx).1,(jE x hx).2.1⟩) (by omega);obtain⟨ih1,vA,ih3⟩:=ih jE (by omega);rw[kc];obtain⟨F,hF⟩:=hi.same;have eat:(cP K P d os).K.at_=K.at_:=by rw[hF]
  have een:∀j x,bm (cP K P d os).K d j x=bm K d j x:=fun j x=>by rw[hF];rfl
  have hlen:=hi.len;have hcm:=hi.calm;have am2:bj (cP K P d os).P (K.at_ o-1)=bj P (K.at_ o-1):=by
   unfold bj;rw[ih1,fj hoo.2.2]
  generalize cP K P d os=S at *;unfold jx;simp only;rw[hlen,eat,een,am2];refine⟨fun q=>?_,fun i hi=>?_,fun T hT=>?_⟩
  ·rw[acI,xk h7];split
   ·rfl
   ·exact ih1 q
  ·simp only[List.length_append,List.length_singleton] at hi;by_cases hil:i<os.length
   ·rw[qJ hil, <-vA i hil];simp[List.getD,List.getElem?_append_left (by omega:i<S.l.length)]
   ·have:i=os.length:=by omega
    subst this;rw[nj];simp[List.getD, <-hlen]
  ·rcases List.mem_append.1 hT with hT|hT
   ·obtain⟨a1,a2,m,a3,a4⟩:=ih3 T hT;refine⟨a1,a2,m,by simp;omega,?_⟩;rw[List.take_append_of_le_length (by omega)];exact a4
   ·have hq:(d*8+os.length)/8=d:=by omega
    have key:T.calm/\∀q,T.pg q=S.P.pg q\/q=d*8+os.length/\∃n,T.pg q=.cB n:=by
     have c0:=CS.gu hcm (K.at_ o-1);have c1:=CS.bY c0 (d*8+os.length) (.cB 1);have c2:=CS.bY c1 (d*8+os.length) (.cB 2);have c3:=CS.bY c2 (d*8+os.length) (.cB 3);unfold CS.vN at hT;simp only[List.mem_cons,List.not_mem_nil,or_false] at hT;rcases hT with rfl|rfl|rfl|rfl
     ·exact⟨c0,fun q=>.inl rfl⟩
     ·refine⟨c1,fun q=>?_⟩;by_cases e:q=d*8+os.length
      ·exact .inr ⟨e,1,by rw[e,CS.dI]⟩
      ·exact .inl (by rw[CS.cJ _ _ e];rfl)
     ·refine⟨c2,fun q=>?_⟩;by_cases e:q=d*8+os.length
      ·exact .inr ⟨e,2,by rw[e,CS.dI]⟩
      ·exact .inl (by rw[CS.cJ _ _ e,CS.cJ _ _ e];rfl)
     ·refine⟨c3,fun q=>?_⟩;by_cases e:q=d*8+os.length
      ·exact .inr ⟨e,3,by rw[e,CS.dI]⟩
      ·exact .inl (by rw[CS.cJ _ _ e,CS.cJ _ _ e,CS.cJ _ _ e];rfl)
    obtain⟨k1,k2⟩:=key;refine⟨k1,fun q ct=>?_,os.length,by simp,fun q t D e=>?_⟩
    ·rcases k2 q with h|⟨h,_⟩
     ·rw[h,ih1,fj ct]
     ·exact absurd (by omega) ct
    ·rw[List.take_left']
     ·rcases k2 q with h|⟨_,n,h⟩
      ·rw[h,ih1] at e;exact e
      ·rw[h] at e
       cases e
     ·rfl
theorem adZ{K:KS}{P T:CS}{k:Cp}{m:Int}(h:BF K P k m){v d:Nat}(hv:v<12)(hd:d<12)(hdl:∀i,i<8->P.pg (d*8+i)=.blank)(x:Nat)
  (h1:T.calm) (h2:∀q,q/8≠d->T.pg q=P.pg q) (h3:∀q t D,T.pg q=.full t D->gC K P d ((cc K.ow v).take x) q=.full t D):AA T k K.at_ m:=by
 have vf:=h.ok.eV.dead hdl;have yn:∀i,i<((cc K.ow v).take x).length->∃hi:i<(cc K.ow v).length,((cc K.ow v).take x).getD i 0=(cc K.ow v)[i]:=fun i hi=>by
  rw[List.length_take] at hi;refine⟨by omega,?_⟩;simp[List.getD,List.getElem?_take,show i<x by omega,show i<(cc K.ow v).length by omega]
 have hnd:=jb h.fh hv (Nat.le_refl _);refine h.ok.am0 h.uq vf h1 (fun q t D hq e=>?_) (fun o ho e=>h2 _ (fS.1 vf o ho e));have e3:=h3 q t D e;unfold gC at e3;by_cases hc:q/8=d/\q%8<((cc K.ow v).take x).length
 ·rw[if_pos hc] at e3;obtain⟨hi,eo⟩:=yn (q%8) hc.2;obtain⟨j,j1,j2,j3,j4⟩:=pJ (ow:=K.ow) (b:=v) (n:=8) (i:=q%8) hi;have hom:=(jt h.fh hv).1 (List.getElem_mem hi);rw[eo] at e3;have eoj:(cc K.ow v)[q%8]=K.ow (8*v+j)-1:=j4;have jz:=h.fh.o (8*v+j) (by omega) j3;rw[<-eoj] at jz;generalize hgo:(cc K.ow v)[q%8]=o at *;obtain⟨a1,t0,D0,a2,a3,a4,a5,a6,a7,a8⟩:=h.cM hom.1 hom.2.1;have am2:bj P (K.at_ o-1)=D0:=by
   unfold bj;rw[a2]
  rw[am2,a8] at e3;have hte:t=⟨(q:Int),t0.of,t0.seq,(t0.copy+1)%256,t0.lost⟩:=by
   injection e3 with e4 e5;rw[<-e4];unfold bm;rw[a3,a4,a7,show d*8+q%8=q by omega]
  have hD:D=D0:=by
   injection e3 with e4 e5;exact e5.symm
  refine .inr ⟨hc.1,fun hn=>?_,o,hom.1,hom.2.1,⟨t0,by rw[hD];exact a2,hte⟩,fun q' t' D' gW e' hs=>?_⟩
  ·rw[hte] at hn;have:=a5;unfold Tg.ok at this;have h6:=this.2.2.2.2.2.2.2.2.2 hn;rw[a6] at h6;omega
  ·have e3':=h3 q' t' D' e';unfold gC at e3';by_cases hc':q'/8=d/\q'%8<((cc K.ow v).take x).length
   ·rw[if_pos hc'] at e3';obtain⟨oh,eo'⟩:=yn (q'%8) hc'.2;have akP:=(jt h.fh hv).1 (List.getElem_mem oh);rw[eo'] at e3';obtain⟨b1,t1,D1,b2,b3,b4,b5,b6,b7,b8⟩:=h.cM akP.1 akP.2.1;injection e3' with f4 f5;have du:t1.seq=t0.seq:=by
     rw[hte, <-f4] at hs;unfold bm at hs;rw[b3] at hs;exact hs
    have:=h.uq _ _ _ _ _ _ b1 a1 b2 a2 du;have hoo:(cc K.ow v)[q'%8]=o:=h.fh.inj _ _ akP.1 hom.1 akP.2.1 (by omega);have:q'%8=q%8:=(List.getElem_inj (h₀:=oh) (h₁:=hi) hnd).1 (by rw[hoo];exact hgo.symm);exact .inl (by omega)
   ·rw[if_neg hc'] at e3';exact .inr (h.uq _ _ _ _ _ _ gW a1 e3' a2 (by rw[hs,hte]))
 ·rw[if_neg hc] at e3;exact .inl e3
theorem nk(K:KS)(l:List Tg):∃A O E M,eU K l={ K with at_:=A,ow:=O,en:=E,dY:=M }:=by
 induction l using ep with
 |h0=>exact⟨K.at_,K.ow,K.en,K.dY,rfl⟩
 | h1 l t ih =>
  obtain⟨A,O,E,M,e⟩:=ih;rw[kj,e];exact⟨_,_,_,_,rfl⟩
structure BA(K:KS)(d:Nat)(os:List Nat)(l:List Tg)(c:Nat->En):Prop where
 fh:AM K.at_ K.ow
 hd:d<12
 o8:os.length<=8
 nd:os.Nodup
 len:l.length=os.length
 lt:∀i,i<os.length->os.getD i 0<25/\bp (d*8+i) (os.getD i 0)=true
 dead:∀o,o<25->K.at_ o≠0->(K.at_ o-1)/8≠d
 tag:∀i,i<os.length->(l.getD i Tg.zero).of=(os.getD i 0:Nat)/\(l.getD i Tg.zero).place=(d*8+i:Nat)/\(⟨(l.getD i Tg.zero).seq,(l.getD i Tg.zero).copy,(l.getD i Tg.zero).lost⟩:En)=c (os.getD i 0)
theorem bM{α:Type}{l:List α}{x:α}{i:Nat}(h:i<l.length):l.getD i x=l[i]:=by
 simp[List.getD,h]
theorem uI{K:KS}{d:Nat}{os:List Nat}{l:List Tg}{c:Nat->En}(H:BA K d os l c):∀i,i<=os.length ->
  AM (eU K (l.take i)).at_ (eU K (l.take i)).ow/\(∀j,j<i->(eU K (l.take i)).at_ (os.getD j 0)=d*8+j+1/\(eU K (l.take i)).en (os.getD j 0)=c (os.getD j 0)) /\
  ∀o,(∀j,j<i->os.getD j 0≠o)->(eU K (l.take i)).at_ o=K.at_ o/\(eU K (l.take i)).en o=K.en o
 |0,_=>⟨H.fh,fun j hj=>by omega,fun o _=>⟨rfl,rfl⟩⟩
 | i+1,hi=>by
  obtain⟨h1,h2,h3⟩:=uI H i (by omega);have hil:i<l.length:=by rw[H.len];omega
  have et:l.take (i+1)=l.take i++[l.getD i Tg.zero]:=by
   rw[bM hil];simp
  rw[et,kj];obtain⟨t1,t2,t3⟩:=H.tag i (by omega);obtain⟨o1,o2⟩:=H.lt i (by omega);have h8:=H.o8;have hd:=H.hd;have ndj:∀j,j<i->os.getD j 0≠os.getD i 0:=fun j hj e=>by
   rw[bM (by omega),bM (by omega)] at e;have:=(List.getElem_inj (h₀:=by omega) (h₁:=by omega) H.nd).1 e;omega
  generalize hod:os.getD i 0=o at *;generalize l.getD i Tg.zero=t at *;generalize eU K (l.take i)=A at *;have e1:t.of.toNat=o:=by rw[t1];rfl
  have e2:t.place.toNat=d*8+i:=by rw[t2];rfl
  unfold mvK;rw[e1,e2];have hp:d*8+i<96:=by omega
  have h0:A.ow (d*8+i)=0:=by
   by_cases hz:A.ow (d*8+i)=0
   ·exact hz
   obtain⟨c1,c2⟩:=h1.o (d*8+i) hp hz;by_cases hex:∃j,j<i/\os.getD j 0=A.ow (d*8+i)-1
   ·obtain⟨j,hj,ej⟩:=hex;have:=(h2 j hj).1;rw[ej,c2] at this;omega
   ·have:=(h3 (A.ow (d*8+i)-1) (fun j hj e=>hex ⟨j,hj,e⟩)).1;rw[c2] at this;exact absurd (by omega) (H.dead (A.ow (d*8+i)-1) (by omega) (by omega))
  obtain⟨s1,s2⟩:=h1.set o1 hp h0 o2;unfold stK;simp only;rw[s2];rw[s2] at s1;have edi:os.getD i 0=o:=hod;refine⟨s1,fun j hj=>?_,fun x hx=>?_⟩
  ·unfold af;by_cases vd:j<i
   ·rw[if_neg (ndj j vd),if_neg (ndj j vd)];exact h2 j vd
   ·have:j=i:=by omega
    subst this;rw[edi,if_pos rfl,if_pos rfl];exact⟨by omega,t3⟩
  ·have hxo:x≠o:=fun e=>hx i (by omega) (by rw[edi,e]);unfold af;rw[if_neg hxo,if_neg hxo];exact h3 x (fun j hj=>hx j (by omega))
theorem oI{st:Nat->Nat}{s:Nat}:∀ {n:Nat},(∀b,b<n->st b≠s)->cN st s n=0
 |0,_=>rfl
 | n+1,h=>by
  unfold cN;rw[oI (n:=n) (fun b hb=>h b (by omega)),if_neg (h n (by omega))]
structure Shut(K K0:KS):Prop where
 eq:∃st fo fb fi,K0={ K with st:=st,fo:=fo,fb:=fb,fi:=fi }
 st:∀b,K0.st b=K.st b\/K.st b=1/\K0.st b=2
 fr:(K0.fo=K.fo/\K0.fb=K.fb/\K0.fi=K.fi)\/K0.fo=false
 cnt:an K0.st 0=an K.st 0
theorem AN.shut{K:KS}{P:CS}(I:AN K P):AN (aV K) P/\Shut K (aV K)/\(aV K).fo=false/\(K.fo=true->(aV K).st K.fb=2):=by
 unfold aV;by_cases h:K.fo=true
 ·rw[if_pos h];have h1:=I.fst h;have pZ:=I.fb;have bt:aG K.st K.fb 2=af K.st K.fb 2:=by
   unfold aG;rw[if_neg (fun x=>by rw[h1] at x;omega)]
  rw[bt];refine⟨⟨fun b hb=>?_,fun b hb e=>?_,(fun e=>nomatch e),fun b i hb e hi=>?_,(fun e=>nomatch e),by simp,by simp,I.pn⟩,⟨⟨_,_,_,_,rfl⟩,fun b=>?_,.inr rfl,?_⟩,rfl,fun _=>?_⟩
  ·show af K.st K.fb 2 b<=2;unfold af;split
   ·omega
   ·exact I.st b hb
  ·have e:af K.st K.fb 2 b=1:=e;unfold af at e;by_cases hbf:b=K.fb
   ·rw[if_pos hbf] at e;omega
   ·rw[if_neg hbf] at e;exact absurd (I.ni b hb e).2.symm hbf
  ·have e:af K.st K.fb 2 b=0:=e;unfold af at e;by_cases hbf:b=K.fb
   ·rw[if_pos hbf] at e;omega
   ·rw[if_neg hbf] at e;exact I.bl b i hb e hi
  ·show af K.st K.fb 2 b=K.st b\/_;unfold af;by_cases hbf:b=K.fb
   ·rw[if_pos hbf,hbf];exact .inr ⟨h1,if_pos rfl⟩
   ·rw[if_neg hbf];exact .inl rfl
  ·have:=bV K.st 2 0 pZ;rw[if_neg (by omega),if_neg (by omega)] at this;exact this
  ·show af K.st K.fb 2 K.fb=2;exact if_pos rfl
 ·rw[if_neg h];exact⟨I,⟨⟨K.st,K.fo,K.fb,K.fi,rfl⟩,fun _=>.inl rfl,.inl ⟨rfl,rfl,rfl⟩,rfl⟩,by simpa using h,fun x=>absurd x h⟩
theorem AN.lh{K:KS}{P:CS}(I:AN K P){v:Nat}(hv:v<12)(h0:K.st v≠0):AN (lh K v) P/\Shut K (lh K v)/\(lh K v).st v=2:=by
 obtain⟨h1,h2,h3,h4⟩:=I.shut;unfold Go.Proofs.YtaeikigfgfcadaaGreat.lh;by_cases h:(if K.fo then (K.fb:Int) else -1)=v
 ·rw[if_pos h];by_cases hf:K.fo=true
  ·rw[if_pos hf] at h;have:K.fb=v:=by omega
   exact⟨h1,h2,by rw[<-this];exact h4 hf⟩
  ·rw[if_neg hf] at h;omega
 ·rw[if_neg h];refine⟨I,⟨⟨K.st,K.fo,K.fb,K.fi,rfl⟩,fun _=>.inl rfl,.inl ⟨rfl,rfl,rfl⟩,rfl⟩,?_⟩;have h5:=I.st v hv;by_cases h6:K.st v=1
  ·obtain⟨h7,h8⟩:=I.ni v hv h6;rw[if_pos h7] at h;omega
  ·omega
theorem akQ{K:KS}{P:CS}{d:Nat}(hd:d<12)(dC:∀o,o<25->K.at_ o<=96)(hb:Hl.HB K.F)(hc:P.calm)(os:List Nat)(ho:∀o,o∈os->o<25/\K.at_ o≠0)(h8:os.length<=8):∀j,12<=j->(cP K P d os).K.F j=K.F j:=by
 induction os using ep with
 |h0=>exact fun j _=>rfl
 | h1 os o ih =>
  intro j hj;have jE:∀x,x∈os->x<25/\K.at_ x≠0:=fun x hx=>ho x (List.mem_append_left _ hx);have hoo:=ho o (List.mem_append_right _ (List.mem_singleton.2 rfl));have h7:os.length<8:=by simp at h8;omega
  have hi:=kg hb hc hd dC os jE (by omega);have ih:=ih jE (by omega) j hj;rw[kc];obtain⟨F,hF⟩:=hi.same;have e1:(cP K P d os).K.at_=K.at_:=by rw[hF]
  have hp:=dC o hoo.1;have hlen:=hi.len;show Hl.qB (Hl.qB (cP K P d os).K.F (((cP K P d os).K.at_ o-1)/8)) ((d*8+(cP K P d os).l.length)/8) j=_;rw[e1];unfold Hl.qB Hl.nu;rw[if_neg (by omega),if_neg (by omega)];exact ih
structure Dg(K K':KS)(v d:Nat):Prop where
 free:∀b,b<12->(K'.st b=0↔b=v\/(lh K v).st b=0/\b≠d)
 pn:K'.pn=d+1
 fr:(K'.fo=(lh K v).fo/\K'.fb=(lh K v).fb/\K'.fi=(lh K v).fi/\(lh K v).fo=true)\/(K'.fo=true/\K'.fb=d/\K'.fi=(cc K.ow v).length)
 stay:∀o,o<25->K.at_ o≠0->(K.at_ o-1)/8≠v->K'.at_ o=K.at_ o
 go:∀o,o<25->K.at_ o≠0->(K.at_ o-1)/8=v->K'.at_ o≠0/\(K'.at_ o-1)/8=d
 dv:d≠v
 d0:(lh K v).st d=0
 v2:(lh K v).st v=2
structure A6(K:KS)(P:CS)(k:Cp)(m:Int)(v d:Nat):Prop where
 hyp:Bq K P v d
 il:BF (nA K P v d) (vq K P v d) k m
 ib:AN (nA K P v d) (vq K P v d)
 ih:Bv (nA K P v d)
 cnt:an (nA K P v d).st 0=an K.st 0
 tr:∀T,T∈vcT K P v d->AA T k K.at_ m/\∀a,Ac P K.at_ a->Ac T K.at_ a
 sh:∀a,Ac P K.at_ a->Ac (vq K P v d) (nA K P v d).at_ a
 same:∃st fo fb fi pn at_ ow en F mo,nA K P v d={ K with st:=st,fo:=fo,fb:=fb,fi:=fi,pn:=pn,at_:=at_,ow:=ow,en:=en,F:=F,dY:=mo }
 tag:∀o,o<25->K.at_ o≠0->(nA K P v d).at_ o≠0/\((nA K P v d).en o).seq=(K.en o).seq
 zero:∀o,o<25->K.at_ o=0->(nA K P v d).at_ o=0
 room:K.fo=false->lv K.at_ v<=5->∀of,of<=24->aJ (nA K P v d).fo (nA K P v d).fi of=true
 gone:Dg K (nA K P v d) v d
theorem ad0{K:KS}{P:CS}{k:Cp}{m:Int}(IL:BF K P k m)(IB:AN K P)(IH:Bv K)(hr:5<=an K.st 0){v:Nat}(hv:v<12)(h0:K.st v≠0):∃d,A6 K P k m v d:=by
 obtain⟨B0,S0,rU⟩:=IB.lh hv h0;obtain⟨jA,fo0,vt,fi0,e0⟩:=S0.eq;obtain⟨d,ky,hd,vf⟩:=iZ B0.pn (by rw[S0.cnt];omega);have ji:d≠v:=fun e=>by rw[e,rU] at vf;omega
 have ox:∀i,i<8->P.pg (d*8+i)=.blank:=fun i hi=>B0.bl d i hd vf hi;have hd1:=IL.ok.eV.dead ox;have fY:∀o,o<25->K.at_ o≠0->(K.at_ o-1)/8≠d:=fS.1 hd1;have q1:(p5 K v d).at_=K.at_/\(p5 K v d).ow=K.ow/\(p5 K v d).en=K.en/\(p5 K v d).F=K.F:=by
  unfold p5;rw[e0];exact⟨rfl,rfl,rfl,rfl⟩
 obtain⟨qa,qo,qe,qF⟩:=q1;have jh:∀o,o∈cc K.ow v->o<25/\K.at_ o≠0/\(K.at_ o-1)/8=v:=fun o ho=>(jt IL.fh hv).1 ho;have h8:=oG K.ow v;have yJ:∀i (h:i<(cc K.ow v).length),(bm K d i (cc K.ow v)[i]).ok/\bp (d*8+i) (cc K.ow v)[i]=true:=fun i hi=>by
  obtain⟨j,j1,j2,j3,j4⟩:=pJ (ow:=K.ow) (b:=v) (n:=8) (i:=i) hi;have hm:=jh _ (List.getElem_mem hi);have j4:(cc K.ow v)[i]=K.ow (8*v+j)-1:=j4;have jz:=(IL.fh.o (8*v+j) (by omega) j3).2;rw[<-j4] at jz;generalize (cc K.ow v)[i]=o at *;obtain⟨a1,t0,D0,a2,a3,a4,a5,a6,a7,a8⟩:=IL.cM hm.1 hm.2.1;have h6:t0.of≠24->(d*8+i)%8<=5:=fun hn=>by
   have:=a5;unfold Tg.ok at this;have:=this.2.2.2.2.2.2.2.2.2 hn;rw[a6] at this;omega
  constructor
  ·have:=sG a5 (q:=d*8+i) (by omega) h6;unfold bm;rw[a3];rw[a4,a7] at this;exact this
  ·unfold bp;rw[a4] at h6;by_cases ho:o=24
   ·simp[ho]
   ·have:=h6 (by omega);simp;omega
 have am3:∀i o,bm (p5 K v d) d i o=bm K d i o:=fun i o=>by unfold bm;rw[qe]
 have hCp:BW (p5 K v d) P v d:=by
  refine⟨by rw[qF];exact IH.hb,IL.ok.gd.calm,by rw[qa];exact fun o ho=>IL.ok.eV.lt ho,by rw[qo];exact IL.fh.mw.lo,hv,hd,fun o ho=>?_,ox,by rw[qo];exact fun i hi=>by rw[am3];exact(yJ i hi).1⟩;rw[qo] at ho;rw[qa,qe];have hm:=jh o ho;obtain⟨a1,t0,D0,a2,a3,a4,a5,a6,a7,a8⟩:=IL.cM hm.1 hm.2.1;have:=a5;unfold Tg.ok at this;exact⟨by omega,hm.2.1,by rw[a3];exact⟨this.2.2.2.2.2.2.1,this.2.2.2.2.2.2.2.1⟩,fY o hm.1 hm.2.1,t0,D0,a2,a4,by rw[a3]⟩
 have nr:Hl.HB (p5 K v d).F:=hCp.hb;have ho1:∀o,o∈cc K.ow v->o<25/\(p5 K v d).at_ o≠0:=fun o ho=>by rw[qa];exact⟨(jh o ho).1,(jh o ho).2.1⟩
 have hinv:=kg nr hCp.calm hd hCp.uA (cc K.ow v) ho1 h8;have hhi:=akQ hd hCp.uA nr hCp.calm (cc K.ow v) ho1 h8;obtain⟨bG,av,htr⟩:=am1 nr hCp.calm hd hCp.uA (cc K.ow v) (fun o ho=>⟨(ho1 o ho).1,(ho1 o ho).2,by rw[qa];exact fY o (jh o ho).1 (jh o ho).2.1⟩) h8;have ecp:∀l q,gC (p5 K v d) P d l q=gC K P d l q:=fun l q=>by unfold gC;rw[qa];simp only[am3]
 obtain⟨F,hF⟩:=hinv.same;have hS:vcS K P v d=cP (p5 K v d) P d (cc K.ow v):=by unfold vcS;rw[qo]
 have hlen:=hinv.len;have afv:=hinv.calm;have hHB:=hinv.hb;have hnd:=jb IL.fh hv (Nat.le_refl 8);have hnd:(cc K.ow v).Nodup:=hnd
 -- the trace
 have hTr:∀T,T∈vcT K P v d->AA T k K.at_ m/\∀q,q/8≠d->T.pg q=P.pg q:=fun T hT=>by
  unfold vcT at hT;rw[hS] at hT;rcases List.mem_append.1 hT with hT|hT
  ·obtain⟨a1,a2,x,a3,a4⟩:=htr T hT;exact⟨adZ IL hv hd ox x a1 a2 (fun q t D e=>by rw[<-ecp];exact a4 q t D e),a2⟩
  ·rw[List.mem_singleton.1 hT];have a2:∀q,q/8≠d->(cP (p5 K v d) P d (cc K.ow v)).P.pg q=P.pg q:=fun q hq=>by rw[bG,ecp,fj hq]
   exact⟨adZ IL hv hd ox 8 afv a2 (fun q t D e=>by rw[List.take_of_length_le h8, <-ecp, <-bG];exact e),a2⟩
 generalize cP (p5 K v d) P d (cc K.ow v)=S at *;have hF2:∀b,b<12->F (12+b)=0:=fun b hb=>by
  have:=hhi (12+b) (by omega);rw[hF,qF] at this;exact this.trans (IH.sc b hb)
 have hFB:Hl.HB F:=by rw[hF] at hHB;exact hHB
 rw[e0] at B0 S0 rU ky vf;have aie:jA v=2:=rU;have akR:jA d=0:=vf;have vK:oH S.K v={ K with st:=af (af jA d 1) v 0,fo:=fo0,fb:=vt,fi:=fi0,pn:=d+1,F:=Hl.ua F v }:=by
  unfold oH;rw[hF];unfold p5;rw[e0];have:aG (af jA d 1) v 0=af (af jA d 1) v 0:=by
   unfold aG;rw[if_neg (fun x=>by
    have h1:=x.1;unfold af at h1;rw[if_neg (fun e=>ji e.symm),aie] at h1;omega)]
  simp only;rw[this]
 have akS:=hS;have H:BA (oH S.K v) d (cc K.ow v) S.l (fun o=>⟨(K.en o).seq,((K.en o).copy+1)%256,(K.en o).lost⟩):=by
  rw[vK];refine⟨IL.fh,hd,h8,hnd,hlen,fun i hi=>?_,fY,fun i hi=>?_⟩
  ·rw[bM hi];exact⟨(jh _ (List.getElem_mem hi)).1,(yJ i hi).2⟩
  ·rw[av i hi,am3];exact⟨rfl,rfl,rfl⟩
 have am4:=uI H (cc K.ow v).length (Nat.le_refl _);have aqj:S.l.take (cc K.ow v).length=S.l:=by rw[<-hlen,List.take_length]
 rw[aqj] at am4;obtain⟨MA,MO,ME,MM,hmv⟩:=nk (oH S.K v) S.l;rw[hmv] at am4;obtain⟨jz,yD,am5⟩:=am4;have am5:∀o,(∀j,j<(cc K.ow v).length->(cc K.ow v).getD j 0≠o)->MA o=K.at_ o/\ME o=K.en o:=fun o ho=>by
  have:=am5 o ho;rw[vK] at this;exact this
 have yD:∀j,j<(cc K.ow v).length->MA ((cc K.ow v).getD j 0)=d*8+j+1/\ME ((cc K.ow v).getD j 0)=⟨(K.en ((cc K.ow v).getD j 0)).seq,((K.en ((cc K.ow v).getD j 0)).copy+1)%256,(K.en ((cc K.ow v).getD j 0)).lost⟩:=yD;have jz:AM MA MO:=jz;rw[vK] at hmv
 -- the whole
 obtain⟨rH,fo',fb',fi',lJ,ba,bb,bc,bd,be,bf⟩:∃rH fo' fb' fi',nA K P v d={ K with st:=rH,fo:=fo',fb:=fb',fi:=fi',pn:=d+1,F:=Hl.ua F v,at_:=MA,ow:=MO,en:=ME,dY:=MM }/\(∀b,b<12->rH b<=2)/\(∀b,b<12->(rH b=0↔b=v\/jA b=0/\b≠d)) /\
   (∀b,b<12->rH b=1->fo'=true/\fb'=b)/\(fo'=true->rH fb'=1)/\((fo'=fo0/\fb'=vt/\fi'=fi0/\fo0=true)\/(fo'=true/\fb'=d/\fi'=(cc K.ow v).length))/\an rH 0=an jA 0:=by
  have lT:an (af (af jA d 1) v 0) 0=an jA 0:=by
   have h1:=bV jA 1 0 hd;have h2:=bV (af jA d 1) 0 0 hv;rw[if_pos akR] at h1;rw[if_neg (by unfold af;rw[if_neg (fun e=>ji e.symm),aie];omega)] at h2;simp at h1 h2;omega
  have h2d:af (af jA d 1) v 0 d=1:=by
   unfold af;rw[if_neg ji,if_pos rfl]
  have hle:∀b,b<12->af (af jA d 1) v 0 b<=2:=fun b hb=>by
   unfold af;split
   ·omega
   ·split
    ·omega
    ·exact B0.st b hb
  unfold nA;rw[akS];unfold jk;rw[vK,hmv];by_cases ma:aJ fo0 fi0 0=true
  ·rw[if_pos ma];have fT:fo0=true:=by
    unfold aJ at ma;simp at ma;exact ma.1
   have hs:aG (af (af jA d 1) v 0) d 2=af (af (af jA d 1) v 0) d 2:=by
    unfold aG;rw[if_neg (fun x=>by rw[h2d] at x;omega)]
   have hfd:jA vt=1:=B0.fst fT;refine⟨_,_,_,_,rfl,fun b hb=>?_,fun b hb=>?_,fun b hb e=>?_,fun _=>?_,.inl ⟨rfl,rfl,rfl,fT⟩,?_⟩
   ·rw[hs];show af (af (af jA d 1) v 0) d 2 b<=2;rw[af];split
    ·omega
    ·exact hle b hb
   ·rw[hs];unfold af;have hvd:v≠d:=fun e=>ji e.symm;by_cases e1:b=d
    ·simp[e1,ji]
    ·by_cases e2:b=v
     ·simp[e2,hvd]
     ·simp[e1,e2]
   ·rw[hs] at e;unfold af at e;by_cases e1:b=d
    ·simp[e1] at e
    ·by_cases e2:b=v
     ·rw[if_neg e1,if_pos e2] at e;omega
     ·simp only[if_neg e1,if_neg e2] at e;exact B0.ni b hb e
   ·have e1:vt≠d:=fun e=>by rw[e,akR] at hfd;omega
    have e2:vt≠v:=fun e=>by rw[e,aie] at hfd;omega
    show aG (af (af jA d 1) v 0) d 2 vt=1;rw[hs,af,if_neg e1,af,if_neg e2,af,if_neg e1];exact hfd
   ·rw[hs];have:=bV (af (af jA d 1) v 0) 2 0 hd;rw[if_neg (by rw[h2d];omega)] at this;simp at this;omega
  ·rw[if_neg ma];have key:∃jc b3 f3 i3,aV { K with st:=af (af jA d 1) v 0,fo:=fo0,fb:=vt,fi:=fi0,pn:=d+1,F:=Hl.ua F v,at_:=MA,ow:=MO,en:=ME,dY:=MM }={ K with st:=jc,fo:=f3,fb:=b3,fi:=i3,pn:=d+1,F:=Hl.ua F v,at_:=MA,ow:=MO,en:=ME,dY:=MM } /\
     (∀b,b<12->jc b<=2)/\(∀b,b<12->(jc b=0↔af (af jA d 1) v 0 b=0))/\(∀b,b<12->jc b=1->b=d)/\jc d=1/\an jc 0=an jA 0:=by
    unfold aV;by_cases fT:fo0=true
    ·rw[if_pos fT];have hfd:jA vt=1:=B0.fst fT;have pZ:vt<12:=B0.fb;have e1:vt≠d:=fun e=>by rw[e,akR] at hfd;omega
     have e2:vt≠v:=fun e=>by rw[e,aie] at hfd;omega
     have zI:af (af jA d 1) v 0 vt=1:=by
      unfold af;rw[if_neg e2,if_neg e1];exact hfd
     have hs:aG (af (af jA d 1) v 0) vt 2=af (af (af jA d 1) v 0) vt 2:=by
      unfold aG;rw[if_neg (fun x=>by rw[zI] at x;omega)]
     refine⟨_,_,_,_,rfl,fun b hb=>?_,fun b hb=>?_,fun b hb e=>?_,?_,?_⟩
     ·rw[hs];show af (af (af jA d 1) v 0) vt 2 b<=2;rw[af];split
      ·omega
      ·exact hle b hb
     ·rw[hs];show af (af (af jA d 1) v 0) vt 2 b=0↔_;rw[af];by_cases e3:b=vt
      ·rw[if_pos e3,e3,zI];simp
      ·rw[if_neg e3]
     ·rw[hs] at e;unfold af at e;by_cases e3:b=vt
      ·simp[e3] at e
      ·by_cases e4:b=v
       ·simp[e3,e4] at e;rw[e4] at e3;simp[e3] at e
       ·by_cases e5:b=d
        ·exact e5
        ·simp only[if_neg e3,if_neg e4,if_neg e5] at e;exact absurd (B0.ni b hb e).2.symm e3
     ·rw[hs];show af (af (af jA d 1) v 0) vt 2 d=1;rw[af,if_neg (fun e=>e1 e.symm)];exact h2d
     ·rw[hs];have:=bV (af (af jA d 1) v 0) 2 0 pZ;rw[if_neg (by rw[zI];omega)] at this;simp at this;omega
    ·rw[if_neg fT];refine⟨_,_,_,_,rfl,hle,fun b hb=>Iff.rfl,fun b hb e=>?_,h2d,lT⟩;unfold af at e;by_cases e4:b=v
     ·simp[e4] at e
     ·by_cases e5:b=d
      ·exact e5
      ·simp only[if_neg e4,if_neg e5] at e;exact absurd (B0.ni b hb e).1 fT
   obtain⟨jc,b3,f3,i3,lK,c1,c2,c3,c4,c5⟩:=key;refine⟨jc,true,d,S.l.length,(congrArg (fun x:KS=>{ x with fo:=true,fb:=d,fi:=S.l.length }) lK).trans rfl,c1,fun b hb=>?_,fun b hb e=>⟨rfl,(c3 b hb e).symm⟩,fun _=>c4,.inr ⟨rfl,rfl,hlen⟩,c5⟩;rw[c2 b hb];unfold af;by_cases e4:b=v
   ·simp[e4]
   ·by_cases e5:b=d
    ·simp[e4,e5,ji]
    ·simp[e4,e5]
 have aqU:=lJ
 -- the dz
 have hP:∀q,(vq K P v d).pg q=if q/8=v then .blank else gC K P d (cc K.ow v) q:=fun q=>by
  unfold vq;rw[akS];show(if q/8=v then Pg.blank else S.P.pg q)=_;rw[bG,ecp]
 have hPc:(vq K P v d).calm:=by
  unfold vq;rw[akS];exact CS.xc afv v
 have yn:∀i,i<(cc K.ow v).length->(cc K.ow v).getD i 0∈cc K.ow v:=fun i hi=>by
  rw[bM hi];exact List.getElem_mem hi
 have lE:∀o,o<25->(K.at_ o=0\/(K.at_ o-1)/8≠v)->MA o=K.at_ o/\ME o=K.en o:=fun o ho hx=>am5 o (fun j hj e=>by
  have h3:=jh _ (yn j hj);rw[e] at h3;rcases hx with h|h
  ·exact h3.2.1 h
  ·exact h h3.2.2)
 have akT:∀o,o<25->K.at_ o≠0->(K.at_ o-1)/8=v->∃i,i<(cc K.ow v).length/\(cc K.ow v).getD i 0=o:=fun o ho h1 h2=>by
  obtain⟨i,hi,e⟩:=List.getElem_of_mem ((jt IL.fh hv).2 ⟨ho,h1,h2⟩);exact⟨i,hi,by rw[bM hi];exact e⟩
 have am6:∀i,i<(cc K.ow v).length->∃o t0 D,(cc K.ow v).getD i 0=o/\o<25/\K.at_ o≠0/\(K.at_ o-1)/8=v/\P.pg (K.at_ o-1)=.full t0 D/\K.en o=⟨t0.seq,t0.copy,false⟩/\(t0.of≠24->i<=5)/\(vq K P v d).pg (d*8+i)=.full ⟨((d*8+i:Nat):Int),t0.of,t0.seq,(t0.copy+1)%256,t0.lost⟩ D/\t0.lost=false:=fun i hi=>by
  have hm:=jh _ (yn i hi);have hh:=(yJ i hi).2;rw[<-bM hi (x:=0)] at hh;have hP2:=hP (d*8+i);rw[if_neg (by omega)] at hP2;unfold gC at hP2;rw[if_pos ⟨by omega,by omega⟩,show(d*8+i)%8=i by omega] at hP2;generalize (cc K.ow v).getD i 0=o at *;obtain⟨a1,t0,D0,a2,a3,a4,a5,a6,a7,a8⟩:=IL.cM hm.1 hm.2.1;refine⟨o,t0,D0,rfl,hm.1,hm.2.1,hm.2.2,a2,a3,fun hn=>?_,?_,a7⟩
  ·unfold bp at hh;rw[a4] at hn;simp at hh;omega
  ·rw[hP2];unfold bj bm;rw[a2,a3,a4,a7];simp only;rw[a8]
 have M:AG P (vq K P v d) K.at_ MA v:=by
  refine⟨fun q t D hq e=>?_,fun o ho h1 h2=>?_,fun o ho h1=>?_,fun o ho h1 h2=>?_⟩
  ·rw[hP] at e;by_cases hqv:q/8=v
   ·rw[if_pos hqv] at e
    cases e
   ·rw[if_neg hqv] at e;by_cases hc:q/8=d/\q%8<(cc K.ow v).length
    ·obtain⟨o,t0,D0,c1,c2,c3,c4,c5,c6,c7,c8,c9⟩:=am6 _ hc.2;have zu:d*8+q%8=q:=by omega
     rw[zu,hP,if_neg hqv] at c8;rw[c8] at e;injection e with e1 e2;subst e2;refine .inr ⟨fun hn=>?_,o,c2,c3,c4,?_,t0,c5,e1.symm⟩
     ·rw[<-e1] at hn;have:=c7 hn;omega
     ·have:=(yD _ hc.2).1;rw[c1] at this;omega
    ·unfold gC at e;rw[if_neg hc] at e;exact .inl ⟨e,hqv⟩
  ·refine⟨(lE o ho (.inr h2)).1,?_⟩;rw[hP,if_neg h2,fj (fY o ho h1)]
  ·rw[(lE o ho (.inl h1)).1];exact h1
  ·obtain⟨i,hi,e⟩:=akT o ho h1 h2;obtain⟨o',t0,D0,c1,c2,c3,c4,c5,c6,c7,c8,c9⟩:=am6 i hi;rw[e] at c1;subst c1;have h3:=(yD i hi).1;rw[e] at h3;rw[h3];exact⟨by omega,by omega,_,D0,c8,t0,c5,rfl⟩
 have aft:∀b i,b<12->rH b=0->i<8->(vq K P v d).pg (b*8+i)=.blank:=fun b i hb e hi=>by
  rw[hP];by_cases h1:(b*8+i)/8=v
  ·rw[if_pos h1]
  ·rw[if_neg h1];rcases(bb b hb).1 e with h2|⟨h2,h3⟩
   ·exact absurd (by omega) h1
   ·rw[fj (by omega)];exact B0.bl b i hb h2 hi
 have hL:∀o,o<25->K.at_ o≠0->K.at_ o-1<96:=fun o ho e=>(IL.ok.eV.yes o ho e).1;have iJ:5<=an (lv MA) 0:=by
  refine zd (st:=rH) (fun b hb e=>fS.2 fun o ho e1 e2=>?_) (by rw[bf];have:=S0.cnt;show 5<=an jA 0;rw[show an jA 0=an K.st 0 from this];exact hr);have e3:K.at_ o≠0:=fun x=>e1 (M.none o ho x);obtain⟨_,t0,D0,a2,_⟩:=IL.cM ho e3;obtain⟨t,ht,_⟩:=M.cM ho e3 a2;have:=aft b ((MA o-1)%8) hb e (Nat.mod_lt _ (by omega));rw[show b*8+(MA o-1)%8=MA o-1 by omega,ht] at this
  cases this
 have rv:=M.aqi IL.ok IL.uq IL.fh.inj hPc iJ;have huq:=M.uniq hL IL.fh.inj IL.uq;have pk:∀p t D,p<96->(vq K P v d).pg p=.full t D->t.seq<K.next:=fun p t D hp e=>by
  obtain⟨p1,t1,b1,c1,d1,g1,f1⟩:=M.old hL hp e;rw[<-d1];exact IL.next.1 p1 t1 D b1 c1
 have hen:∀o,o<25->MA o≠0->∃t D,(vq K P v d).pg (MA o-1)=.full t D/\ME o=⟨t.seq,t.copy,false⟩:=fun o ho e1=>by
  have e3:K.at_ o≠0:=fun x=>e1 (M.none o ho x);by_cases e4:(K.at_ o-1)/8=v
  ·obtain⟨i,hi,e⟩:=akT o ho e3 e4;obtain⟨o',t0,D0,c1,c2,c3,c4,c5,c6,c7,c8,c9⟩:=am6 i hi;rw[e] at c1;subst c1;obtain⟨h3,h4⟩:=yD i hi;rw[e] at h3 h4;rw[h3,h4,Nat.add_sub_cancel];exact⟨_,D0,c8,by rw[c6]⟩
  ·obtain⟨h3,h4⟩:=M.stay o ho e3 e4;obtain⟨t,D,a1,a2⟩:=IL.en o ho e3;rw[h3,h4,(lE o ho (.inr e4)).2];exact⟨t,D,a1,a2⟩
 have hVH:Bq K P v d:=by
  refine⟨?_,?_,IB.fb,IB.fi,?_,hCp,fun i hi=>?_⟩
  ·rw[e0];exact oI (fun b hb=>by have:=B0.st b hb;simp only at this;show jA b≠3;omega)
  ·rw[e0];exact B0.pn
  ·rw[e0];exact ky
  ·rw[akS] at hi ⊢;exact(uI H i (by omega)).1.mw
 have aqk:Hl.HB (Hl.ua F v):=fun b hb=>by
  have h1:=hFB b hb;unfold Hl.ua Hl.nu;refine⟨?_,?_,?_⟩
  ·rw[if_neg (by omega)];split
   ·omega
   ·exact h1.1
  ·rw[if_neg (by omega),if_neg (by omega)];exact h1.2.1
  ·split
   ·omega
   ·rw[if_neg (by omega)];exact h1.2.2
 refine⟨d,hVH,?_,?_,?_,?_,fun T hT=>⟨(hTr T hT).1,fun a hs=>hs.same (fun o ho e=>(hTr T hT).2 _ (fY o ho e))⟩,?_,?_,fun o ho e=>?_,fun o ho e=>?_,?_,?_⟩
 ·rw[lJ];exact⟨rv,huq,hen,IL.fl,⟨pk,IL.next.2⟩,jz⟩
 ·rw[lJ];refine⟨ba,bc,bd,aft,fun e i h1 h2=>?_,?_,?_,by show d+1<=12;omega⟩
  ·have h1:fi'<=i:=h1;have e:fo'=true:=e;show(vq K P v d).pg (fb'*8+i)=.blank;rw[hP];rcases be with⟨g1,g2,g3,g4⟩|⟨g1,g2,g3⟩
   ·have hfd:jA vt=1:=B0.fst g4;have e1:vt≠d:=fun e=>by rw[e,akR] at hfd;omega
    have e2:vt≠v:=fun e=>by rw[e,aie] at hfd;omega
    rw[g2,if_neg (by omega),fj (by omega)];exact B0.fr g4 i (by show fi0<=i;omega) h2
   ·rw[g2,if_neg (by omega)];unfold gC;rw[if_neg (by omega)];exact ox i h2
  ·rcases be with⟨g1,g2,g3,g4⟩|⟨g1,g2,g3⟩
   ·show fb'<12;rw[g2];exact B0.fb
   ·show fb'<12;omega
  ·rcases be with⟨g1,g2,g3,g4⟩|⟨g1,g2,g3⟩
   ·show fi'<=8;rw[g3];exact B0.fi
   ·show fi'<=8;omega
 ·rw[lJ];refine⟨aqk,fun b hb=>?_,IH.cur⟩;show Hl.ua F v (12+b)=0;unfold Hl.ua Hl.nu;rw[if_neg (by omega),if_neg (by omega)];exact hF2 b hb
 ·rw[lJ];have:=S0.cnt;exact bf.trans this
 ·intro a hs;rw[lJ];exact M.aoC IL.ok.eV hs
 ·exact⟨rH,fo',fb',fi',d+1,MA,MO,ME,Hl.ua F v,MM,lJ⟩
 ·rw[lJ];by_cases e4:(K.at_ o-1)/8=v
  ·obtain⟨i,hi,eo⟩:=akT o ho e e4;obtain⟨h3,h4⟩:=yD i hi;rw[eo] at h3 h4;exact⟨by show MA o≠0;omega,by show(ME o).seq=_;rw[h4]⟩
  ·obtain⟨h3,h4⟩:=lE o ho (.inr e4);exact⟨by show MA o≠0;rw[h3];exact e,by show(ME o).seq=_;rw[h4]⟩
 ·rw[lJ];show MA o=0;rw[(lE o ho (.inl e)).1];exact e
 ·intro fT wP of js;have aql:fo0=false:=by
   rcases S0.fr with h|h
   ·have:fo0=K.fo:=h.1;rw[this];exact fT
   ·exact h
  rw[lJ];rcases be with⟨g1,g2,g3,g4⟩|⟨g1,g2,g3⟩
  ·rw[aql] at g4
   cases g4
  ·have hl:=adY IL.fh hv;show aJ fo' fi' of=true;rw[g1,g3];unfold aJ bp;simp;omega
 ·rw[lJ];refine⟨by rw[e0];exact bb,rfl,by rw[e0];exact be.imp (fun h=>h) (fun h=>h),fun o ho e h=>(lE o ho (.inr h)).1,fun o ho e h=>?_,ji,by rw[e0];exact vf,by rw[e0];exact rU⟩;obtain⟨i,hi,eo⟩:=akT o ho e h;obtain⟨h3,h4⟩:=yD i hi;rw[eo] at h3;have h3:MA o=d*8+i+1:=h3;show MA o≠0/\(MA o-1)/8=d;omega
structure Ci(w0 w:World)(Y:Option Addr)(n e:Nat)(f:Nat->Nat):Prop where
 ly:Ly w 5 1 Y n e (fun j=>.int .u8 (f j:Nat))
 new:∀x,x∈aR Y->w0.heap.size<=x
theorem acM(w:World)(x:Operand)(a:Addr)(n c:Nat):(do eqGuard .eql 37 x (.const (.slice none 0 0)) (.slice (some a) n c) (.slice none 0 0);binOp .eql 37 (.slice (some a) n c) (.slice none 0 0):Sem Value).run Tryz.prog w=.ok (.bool false) w:=by kernel_rfl
theorem aif(w:World):(Instr.buildSlice 37 0 #[]).run Tryz.prog w=.ok (.slice (some ⟨w.heap.size,0,none⟩) 0 0) (w.alloc (.cells #[] 5)):=by kernel_rfl
theorem xl(a:Addr)(n c:Nat)(f:Nat->Nat)(w:World)(r:Rd w (some a) n (fun j=>.int .u8 (f j:Nat)))(hc:n<=c)(hn:n*8<=140737488355328) :
  Spec Tryz.prog 71 #[.slice (some a) n c] w fun v w'=>∃Y e,v=.slice Y n e/\Ci w w' Y n e f/\Aa [] w w':=by
 obtain⟨i0,hi,lZ,lP,l4⟩:=info_parts dQ;refine spec_of_wpE (T:=tt) ah func71 rfl (by decide +kernel) ntmps71 (by simp) ?_;conv=>whnf
 repeat (refine CW.s ?_;conv=>whnf)
 refine Ru.of (acM w _ a n c) ?_;conv=>whnf
 repeat (refine Br.f ?_;conv=>whnf)
 refine Ru.of (aif w) ?_;have l0:Ly (w.alloc (.cells #[] 5)) 5 1 (some ⟨w.heap.size,0,none⟩) 0 0 (fun j=>.int .u8 (f j:Nat)):=Ly.nZ (heap_alloc_new w _) (Nat.le_refl _) (by simp) (by simp[maxLen]) (fun j hj=>by omega);have k0:Aa [] w (w.alloc (.cells #[] 5)):=(Aa.refl _ _).alloc _;conv=>whnf
 refine Bu.append underlying37 hi lZ lP l4 rfl (by omega) l0 _ (by rw[Nat.mul_one];exact r.aj k0) hc (fun e=>by cases e) (fun j hj=>rfl) (by simp only[maxLen];omega) (by omega) ?_;intro Y e w' hy hk dC iq;have gN:∀x,x∈aR Y->w.heap.size<=x:=fun x hx=>by
  rcases dC with h|h
  ·rw[h] at hx;rw[List.mem_singleton.1 hx];exact Nat.le_refl _
  ·rw[h] at hx;rw[List.mem_singleton.1 hx];exact k0.size
 have hkw:Aa [] w w':=k0.then hk (fun x hx=>.inr (by rw[List.mem_singleton.1 hx];exact Nat.le_refl _));rw[Nat.zero_add] at *;conv=>whnf
 exact⟨rfl,Y,e,rfl,⟨hy.congr (fun j hj=>by simp),gN⟩,hkw⟩
theorem xp(w:World):(Instr.makeSlice 37 (.int .i64 160) (.int .i64 160)).run Tryz.prog w=.ok (.slice (some ⟨w.heap.size,0,none⟩) 160 160) (w.alloc (.cells (madeCells #[.int .u8 0] 160) 5)):=by kernel_rfl
section
variable{w w':World}{N:Cr}{K:KS}{X:Option Addr}{c:Nat}{P:CS}{b:Option Nat}{n:Int}
theorem uJ(h:On w N K P b n X c){p:Nat}(hp:p<96)(hl:K.ow p<=25){R:AP}{dv:Value}(hq:K.ow p=0\/R.sound=true/\R.iP<2) :
  Spec Tryz.prog 70 #[.pointer (some ⟨N.k,0,none⟩),.int .i64 p,agg 9 (rC R.tagged R.tag R.sound dv (R.iP:Nat))] w fun v w'=>v=.tuple #[]/\Aa [] w w':=by
 refine spec_of_wpE (T:=tt) ah func70 rfl (by decide +kernel) ntmps70 (by simp) ?_;conv=>whnf
 refine Ru.dt ?_;intro x5 w1 hx5 du r5 k1;have h1:=h.aj k1;conv=>whnf
 repeat ((first|(refine Ld.of h1.core.c2 ?_)|refine CW.s ?_);conv=>whnf)
 refine Ca.of (wO h1.core.map p hp hl) ?_;rintro _ _ ⟨rfl,rfl⟩;by_cases h0:K.ow p=0
 ·rw[if_pos h0];conv=>whnf
  repeat ((first|refine Br.t ?_|refine Pk.t ?_|refine Ru.n1 ?_);conv=>whnf)
  exact⟨rfl,rfl,k1⟩
 ·rw[if_neg h0];obtain⟨hs,hd⟩:=hq.resolve_left h0;have p6:w1.cell? ⟨x5,6,none⟩=some (.bool R.sound):=r5.cell 6 (by omega);have p8:w1.cell? ⟨x5,8,none⟩=some (.int .i64 (R.iP:Nat)):=r5.cell 8 (by omega);rw[hs] at p6;conv=>whnf
  repeat ((first|(refine Ld.at (by omega) p6 ?_)|(refine Ld.at (by omega) p8 ?_)|refine Br.t ?_|refine Br.f ?_|refine Pk.f ?_|refine Pk.t ?_|refine Br.y ?_|refine Ru.ai ?_);conv=>whnf)
  exact⟨rfl,rfl,k1⟩
theorem xq(h:On w N K P b n X c){o:Nat}(ho:o<24)(h0:K.at_ o=0) :
  Spec Tryz.prog 46 #[.pointer (some ⟨N.k,0,none⟩),.int .i64 o] w fun v w'=>∃Y e,v=.tuple #[.slice Y 160 e,ak 0]/\Ci w w' Y 160 e (fun _=>0)/\Aa [] w w':=by
 refine spec_of_wpE (T:=tt) ah func46 rfl (by decide +kernel) ntmps46 (by simp) ?_;conv=>whnf
 repeat ((first|(refine Ld.of h.core.c2 ?_)|refine Br.f ?_|refine Pk.f ?_|refine Br.n ?_|refine CW.s ?_);conv=>whnf)
 refine Ca.of (iS h.core.map o (by omega) (by omega)) ?_;rintro _ _ ⟨rfl,rfl⟩;rw[if_pos h0];conv=>whnf
 repeat ((first|refine Br.t ?_|refine Ru.n1 ?_|refine CW.s ?_);conv=>whnf)
 refine Ru.of (xp w) ?_;have ry:=Row.made w 5 (.int .u8 0) 160;have k1:Aa [] w (w.alloc (.cells (madeCells #[.int .u8 0] 160) 5)):=(Aa.refl _ _).alloc _;generalize w.alloc _=w1 at *;conv=>whnf
 exact⟨rfl,_,_,rfl,⟨(Ly.dh ry (by omega) (by omega) (by simp[maxLen])),fun x hx=>by rw[List.mem_singleton.1 hx];exact Nat.le_refl _⟩,k1⟩
theorem akU(h:On w N K P b n X c)(B:Hl.HB K.F){o:Nat}(ho:o<24)(h0:K.at_ o≠0)(h96:K.at_ o<=96)(hl:K.ow (K.at_ o-1)<=25){t:Tg}{D:Nat->Nat}(hp:P.pg (K.at_ o-1)=.full t D)(vM:t.of=o)(hen:K.en o=⟨t.seq,t.copy,false⟩)(hdm:P.dm (K.at_ o-1)<2) :
  Spec Tryz.prog 46 #[.pointer (some ⟨N.k,0,none⟩),.int .i64 o] w fun v w'=>∃Y e,v=.tuple #[.slice Y 160 e,ak 0]/\Ci w w' Y 160 e D/\On w' N (pG K (K.at_ o-1)) (P.bL (K.at_ o-1)) b (iz (n+1)) X c/\Aa N.all w w':=by
 refine spec_of_wpE (T:=tt) ah func46 rfl (by decide +kernel) ntmps46 (by simp) ?_;conv=>whnf
 repeat ((first|(refine Ld.of h.core.c2 ?_)|refine Br.f ?_|refine Pk.f ?_|refine Br.n ?_|refine CW.s ?_);conv=>whnf)
 refine Ca.of (iS h.core.map o (by omega) (by omega)) ?_;rintro _ _ ⟨rfl,rfl⟩;rw[if_neg h0];have ee:∀j,j<3->cj N K X c (7+3*o+j)=(⟨t.seq,t.copy,false⟩:En).cell j:=fun j hj=>by rw[iF (by omega) hj,hen]
 have oJ:K.at_ o-1<96:=by omega
 generalize K.at_ o-1=p at *;conv=>whnf
 repeat ((first|(refine Ix.of o (by omega) (by omega) ?_)|refine Br.f ?_|refine Ru.ai ?_|refine CW.s ?_);conv=>whnf)
 rw[show 0+7+o*3=7+3*o by omega];refine Ru.cG (q:=(⟨t.seq,t.copy,false⟩:En).cell) h.core.row underlying140 rfl dK (by omega) (fun j hj=>ee j hj) ?_;conv=>whnf
 refine Ru.aF (kh w) ?_;intro x8 w1 hx8 du r8 k1;conv=>whnf
 refine Ru.gY r8 dK (by omega) (fun j hj=>En.bH _) ?_;intro w2 r82 k2;have r82:Row w2 x8 140 3 (⟨t.seq,t.copy,false⟩:En).cell:=r82.congr (fun j hj=>by unfold lay;rw[if_pos (by omega),Nat.sub_zero]);have q2:Aa [] w w2:=k1.then k2 (fun x hx=>.inr (by rw[List.mem_singleton.1 hx,hx8];exact Nat.le_refl _));have h2:=h.aj q2;have s0:w2.cell? ⟨x8,0,none⟩=some (.int .i64 t.seq):=r82.cell 0 (by omega);have s2:w2.cell? ⟨x8,2,none⟩=some (.bool false):=r82.cell 2 (by omega);clear k1 r8 k2 du w1;conv=>whnf
 repeat ((first|(refine Ld.at (by omega) s2 ?_)|refine Br.f ?_|refine CW.s ?_);conv=>whnf)
 refine Ca.of (jY h2 B oJ) ?_;rintro _ w3 ⟨R,dv,hR,ji,rfl,h3,k3⟩;unfold Az at hR;rw[hp] at hR;obtain⟨hR1,rfl,hR3,hR4,hR5⟩:=hR;have ck:x8∉N.all:=fun hm=>by
  have h4:x8<w.heap.size:=by
   rcases List.mem_append.1 hm with hm|hm
   ·exact h.core.lt (List.mem_append_left _ hm)
   ·exact h.gT _ hm
  omega
 have r83:=r82.ab k3 ck;have bK:=(Aa.eA (N:=N) q2).trans k3;have gG:=k3.size;have fE:=q2.size;conv=>whnf
 refine Ru.aF (cv w3) ?_;intro x9 w4 hx9 ru r9 k4;conv=>whnf
 refine Ru.eS r9 (iU R ji _) ?_;intro w5 rI k5;have q5:Aa [] w3 w5:=k4.then k5 (fun x hx=>.inr (by rw[List.mem_singleton.1 hx,hx9];exact Nat.le_refl _));have h5:=h3.aj q5;have r85:=r83.ab q5 (by simp);have dE:=bK.trans (Aa.eA (N:=N) q5);have aih:=ji.ab q5 (by simp);clear k4 k5 q5 h3 r83 r9 ru w4;conv=>whnf
 repeat ((first|refine Br.f ?_|refine Ru.ai ?_|refine CW.s ?_);conv=>whnf)
 refine Ru.ei rI ?_;refine Ca.of (uJ h5 oJ hl (.inr ⟨hR3,by rw[hR5];exact hdm⟩)) ?_;rintro _ w6 ⟨rfl,k6⟩;have h6:=h5.aj k6;have r86:=r85.ab k6 (by simp);have r96:=rI.ab k6 (by simp);have am7:=aih.ab k6 (by simp);have fX:=dE.trans (Aa.eA (N:=N) k6);rcases am7 with⟨-,O,oc,rfl,hO,zA⟩|⟨hs,-⟩
 case inr=>rw[hR3] at hs;cases hs
 have p1:w6.cell? ⟨x9,2,none⟩=some (.int .i64 R.tag.of):=r96.cell 2 (by omega);have p2:w6.cell? ⟨x9,3,none⟩=some (.int .i64 R.tag.seq):=r96.cell 3 (by omega);have p3:w6.cell? ⟨x9,6,none⟩=some (.bool R.sound):=r96.cell 6 (by omega);have p4:w6.cell? ⟨x9,7,none⟩=some (.slice O 174 oc):=r96.cell 7 (by omega);have s0:w6.cell? ⟨x8,0,none⟩=some (.int .i64 R.tag.seq):=r86.cell 0 (by omega);rw[vM] at p1;rw[hR3] at p3;conv=>whnf
 repeat ((first|(refine Ld.at (by omega) p4 ?_)|(refine Ld.at (by omega) p1 ?_)|(refine Ld.at (by omega) p2 ?_)|(refine Ld.at (by omega) p3 ?_)|(refine Ld.at (by omega) s0 ?_)|refine Br.f ?_|refine Pk.f ?_|refine Br.ny ?_|refine CW.s ?_);conv=>whnf)
 have y7:=zA.rd;rw[Nat.mul_one] at y7;obtain⟨g,oo,rfl,hc⟩:=y7 (by omega);have uo:174<=oc:=zA.1;have am8:Rd w6 (some ⟨g,oo,none⟩) 160 (fun j=>.int .u8 (D j:Nat)):=fun _=>⟨g,oo,rfl,fun j hj=>by
  rw[hc j (by omega), <-hR4];unfold cq;simp only[if_pos (show j<174 by omega)]⟩
 refine Ru.aeN underlying37 (by kernel_rfl) (h:=160) (by omega) ?_;conv=>whnf
 refine Ca.of (xl ⟨g,oo,none⟩ 160 oc D w6 am8 (by omega) (by omega)) ?_;rintro _ w7 ⟨Y,e,rfl,hY,k7⟩;conv=>whnf
 exact⟨rfl,Y,e,rfl,⟨hY.ly,fun x hx=>Nat.le_trans fX.size (hY.new x hx)⟩,h6.aj k7,fX.trans (Aa.eA (N:=N) k7)⟩
end
def ptK(K:KS):KS:={ K with cur:=(K.cur+8)%96,calls:=iz (K.calls+1) }
def iw(K:KS):Nat->KS
 |0=>ptK K
 |i+1=>pG (iw K i) ((K.cur+i)%96)
def qK(K:KS)(P:CS):Nat->CS
 |0=>P
 |i+1=>(qK K P i).bL ((K.cur+i)%96)
theorem uK(K:KS)(i:Nat):iw K (i+1)=pG (iw K i) ((K.cur+i)%96):=rfl
theorem uL(K:KS)(P:CS)(i:Nat):qK K P (i+1)=(qK K P i).bL ((K.cur+i)%96):=rfl
theorem aii(K:KS):iw K 0=ptK K:=rfl
theorem aij(K:KS)(P:CS):qK K P 0=P:=rfl
theorem km(K:KS):∀i,ux (ptK K) (iw K i)
 |0=>⟨K.F,rfl⟩
 | i+1=>by
  obtain⟨F,h⟩:=km K i;show ∃F,pG (iw K i) _=_;rw[h];exact⟨_,rfl⟩
theorem acN{K:KS}(h:Hl.HB K.F):∀i,Hl.HB (iw K i).F
 |0=>h
 |i+1=>(acN h i).rd (by omega)
theorem uM(K:KS)(P:CS):∀i,(qK K P i).pg=P.pg/\(qK K P i).dm=P.dm
 |0=>⟨rfl,rfl⟩
 |i+1=>uM K P i
def Cj(K:KS)(P:CS):Prop:=∀p,p<96->K.ow p<=25/\(K.ow p≠0->∃t D,P.pg p=.full t D/\P.dm p<2)
def cF(K:KS)(q:List Nat):Nat->List Nat
 |0=>q
 |b+1=>if 512<=K.F b/\0<lv K.at_ b then rZ (cF K q b) b else cF K q b
theorem aa3(K:KS)(q:List Nat):cF K q 0=q:=rfl
theorem ju(K:KS)(q:List Nat)(b:Nat):cF K q (b+1)=if 512<=K.F b/\0<lv K.at_ b then rZ (cF K q b) b else cF K q b:=rfl
theorem ll(K:KS):∀b,(cF K [] b).length<=b
 |0=>Nat.le_refl _
 | b+1=>by
  have:=ll K b;unfold cF rZ;split
  ·split
   ·omega
   ·simp;omega
  ·omega
section
variable{w w':World}{N:Cr}{K:KS}{X:Option Addr}{c:Nat}{P:CS}{b:Option Nat}{n:Int}
theorem On.uN(h:On w N K P b n X c):BU w N.k 143 110 6 (cj N K X c) X c K.qu:=⟨h.core.row,rfl,h.core.qu⟩
theorem aik{q:List Nat}{Y:Option Addr}{d:Nat}(j:Nat):put (cj N K X c) 6 (.slice Y q.length d) j=cj N { K with qu:=q } Y d j:=by
 unfold put;by_cases h:j=6
 ·subst h;rfl
 ·rw[if_neg h];unfold cj;simp only[if_neg h]
theorem On.queue(h:On w N K P b n X c){q:List Nat}(H:Bk w N.k 143 110 6 (cj N K X c) X q w'):∃Y d,On w' N { K with qu:=q } P b n Y d/\Aa (N.k::aR X) w w'/\∀x,x∈aR Y->x∈aR X\/w.heap.size<=x:=by
 obtain⟨Y,d,⟨r,_,ly⟩,k,hY⟩:=H;have dn:=h.core.ne;obtain⟨C,M,q'⟩:=h.qC;have ap:=fun x hx=>oF h.core M (x:=x) hx;have a0:=ap N.k (by simp[Cr.own]);have aX:=fun x hx=>ap x (List.mem_append_right _ hx);refine⟨Y,d,⟨⟨r.congr (fun j _=>aik j),?_,?_,?_,?_,?_,ly⟩,C,M.ab k ?_ ?_ ?_ ?_ ?_ ?_,q'⟩,k,hY⟩
 ·exact Row.ab h.core.aY k (by simp[dn.kp.symm,dn.pX])
 ·exact Row.ab h.core.map k (by simp[dn.ka.symm,dn.aX])
 ·exact Row.ab h.core.front k (by simp[dn.kr.symm,dn.rX])
 ·exact Row.ab h.core.aL k (by simp[dn.ke.symm,dn.eX])
 ·exact Row.ab h.core.pat k (by simp[dn.kq.symm,dn.qX])
 ·exact fun hm=>by rcases List.mem_cons.1 hm with e|hm;exact a0.1 e;exact(aX _ hm).1 rfl
 ·exact fun hm=>by rcases List.mem_cons.1 hm with e|hm;exact a0.2.1 e;exact(aX _ hm).2.1 rfl
 ·exact fun hm=>by rcases List.mem_cons.1 hm with e|hm;exact a0.2.2.1 e;exact(aX _ hm).2.2.1 rfl
 ·exact fun hm=>by rcases List.mem_cons.1 hm with e|hm;exact a0.2.2.2.1 e;exact(aX _ hm).2.2.2.1 rfl
 ·exact fun hm=>by rcases List.mem_cons.1 hm with e|hm;exact a0.2.2.2.2.1 e;exact(aX _ hm).2.2.2.2.1 rfl
 ·exact fun hm=>by rcases List.mem_cons.1 hm with e|hm;exact a0.2.2.2.2.2 e;exact(aX _ hm).2.2.2.2.2 rfl
end
end
section
open Go.RowKit
attribute [local irreducible] iw qK cF lv
def dA(K:KS)(t:List Nat):KS:={ K with qu:=t }
theorem ail{K:KS}(h:K.qu=[]):dA K []=K:=by
 cases K
 simp only at h;subst h;rfl
def mdK(K:KS)(x:Nat):KS:={ K with fq:=iz (K.fq+1),jX:=iz (K.jX+x) }
inductive AR:KS->CS->KS->CS->List CS->Prop
 |done {K:KS} {P:CS}:K.qu=[]->AR K P K P []
 |skip {K:KS} {P:CS} {v:Nat} {t:List Nat} {K':KS} {P':CS} {tr:List CS}:K.qu=v::t->v<12->t.length<=12->(∀o,o<25->K.at_ o<=96)->lv K.at_ v=0->AR (dA K t) P K' P' tr->AR K P K' P' tr
 | move {K:KS} {P:CS} {v d:Nat} {t:List Nat} {K':KS} {P':CS} {tr:List CS}:K.qu=v::t->v<12->t.length<=12->(∀o,o<25->K.at_ o<=96)->lv K.at_ v≠0->aA K.st=false->K.F (12+v)<3->Bq (dA K t) P v d->(nA (dA K t) P v d).qu=t ->
   AR (mdK (nA (dA K t) P v d) (lv K.at_ v)) (vq (dA K t) P v d) K' P' tr->AR K P K' P' (vcT (dA K t) P v d++tr)
def tqK(K:KS):KS:=dA (iw K 8) (cF (iw K 8) [] 12)
inductive Av (K:KS) (P:CS):KS->CS->List CS->Prop
 |quiet {K1:KS} {P1:CS} {t1:List CS}:AR (tqK K) (qK K P 8) K1 P1 t1->aA K1.st=false->Hl.HB K1.F->K1.calls<8->Hl.kU K1.F=false->Av K P K1 P1 t1
 | note {K1:KS} {P1:CS} {t1:List CS} {K2:KS} {P2:CS} {t2:List CS}:AR (tqK K) (qK K P 8) K1 P1 t1->aA K1.st=false->Hl.HB K1.F->(8<=K1.calls\/Hl.kU K1.F=true)->AO 24 aZ K1 P1 K2 P2 t2->(iv (bS K2) K2.next (-1)).told ->
   Av K P (cy K2 24) (jr K2 P2 24 aZ) (t1++za K2 P2 t2)
section
variable{w w':World}{N:Cr}{K:KS}{X:Option Addr}{c:Nat}{P:CS}{b:Option Nat}{n:Int}
theorem aa4(x y:Int)(j:Nat)(hj:j<110):put (put (cj N K X c) 107 (.int .i64 x)) 108 (.int .i64 y) j=cj N { K with fq:=x,jX:=y } X c j:=by
 unfold put;by_cases h:j=108
 ·subst h;rfl
 ·rw[if_neg h];by_cases h7:j=107
  ·subst h7;rfl
  ·rw[if_neg h7];unfold cj;simp only;by_cases h1:j<106
   ·have e6:¬j=106:=by omega
    simp only[e6,h,h7,if_false,h1,if_true]
   ·have:j=106\/j=109:=by omega
    rcases this with rfl|rfl<;>rfl
theorem akV(h:On w N K P b n X c)(hq:K.qu=[])(B:Hl.HB K.F)(hc:K.cur<96)(ha:∀o,o<25->K.at_ o<=96)(hf:Cj K P){K':KS}{P':CS}{tr:List CS}(H:Av K P K' P' tr) :
  Spec Tryz.prog 61 #[.pointer (some ⟨N.k,0,none⟩)] w fun u w'=>Ends N X K' P' b tr w w' (u=ak 0) (u=ak 7):=by
 have ck:∀x,w.heap.size<=x->x∉N.all:=fun x hx hm=>by
  have h3:x<w.heap.size:=by
   rcases List.mem_append.1 hm with hm|hm
   ·exact h.core.lt (List.mem_append_left _ hm)
   ·exact h.gT _ hm
  omega
 refine spec_of_wpE (T:=tt) ah func61 rfl (by decide +kernel) ntmps61 (by simp) ?_;conv=>whnf
 repeat ((first|(refine Ld.of h.core.c5 ?_)|refine CW.s ?_);conv=>whnf)
 refine Ca.of (aaP h.core.pat hc) ?_;rintro _ w1 ⟨g,rfl,rg,hg,rp,k1⟩;have h1:On w1 N (iw K 0) (qK K P 0) b n X c:=by
  rw[aii,aij];exact h.pat k1 rp
 have zB:Aa N.all w w1:=Aa.jg (by simp[Cr.own]) k1;conv=>whnf
 refine CW.loop (ι:=Nat×Int) (fun i w'=>i.1<=8/\On w' N (iw K i.1) (qK K P i.1) b i.2 X c/\Row w' g 3 8 (fun j=>.int .i64 (((K.cur+j)%96:Nat):Int))/\Aa N.all w w')
  (fun i=>[(0,.pointer (some ⟨N.k,0,none⟩)),(22,.slice (some ⟨g,0,none⟩) 8 8),(23,.int .i64 8),(24,.int .i64 i.1)]) (fun i=>8-i.1) (0,n) ah ⟨by omega,h1,rg,zB⟩ ⟨rfl,rfl,rfl,rfl,trivial⟩ ?_;clear h1 rg rp k1 zB;rintro⟨i,n1⟩ wr ⟨hi,hr,rg,kk⟩;simp only at hi hr rg kk ⊢;by_cases av:i<8
 ·obtain⟨F,fe⟩:=km K i;have hB:=acN B i;have bG:=uM K P i;have eow:(iw K i).ow=K.ow:=by rw[fe];rfl
  have hp:(K.cur+i)%96<96:=Nat.mod_lt _ (by omega);obtain⟨f1,f2⟩:=hf _ hp;have ci:=rg.cell i av;conv=>whnf
  repeat ((first|(refine Ld.at (by omega) ci ?_)|refine Ix.n ?_|refine Br.y ?_|refine CW.s ?_);conv=>whnf)
  refine Ca.of (jY hr hB hp) ?_;rintro _ w3 ⟨R,dv,hR,ji,rfl,h3,k3⟩;have rg3:=rg.ab k3 (ck g hg);have bK:=kk.trans k3;conv=>whnf
  refine Ru.aF (cv w3) ?_;intro x9 w4 hx9 ru r9 k4;conv=>whnf
  refine Ru.eS r9 (iU R ji _) ?_;intro w5 rI k5;have q5:Aa [] w3 w5:=k4.then k5 (fun x hx=>.inr (by rw[List.mem_singleton.1 hx,hx9];exact Nat.le_refl _));have h5:=h3.aj q5;have rg5:=rg3.ab q5 (by simp);have dE:=bK.trans (Aa.eA (N:=N) q5);clear k4 k5 q5 h3 rg3 r9 ru w4;conv=>whnf
  repeat ((first|refine Br.f ?_|refine Ru.ai ?_|refine CW.s ?_);conv=>whnf)
  refine Ru.ei rI ?_
  refine Ca.of (uJ h5 hp (by show(iw K i).ow _<=25;rw[eow];exact f1) (by
   show(iw K i).ow _=0\/_;rw[eow];by_cases h0:K.ow ((K.cur+i)%96)=0
   ·exact .inl h0
   ·obtain⟨t,D,e,hd⟩:=f2 h0;unfold Az at hR;rw[bG.1,e] at hR;exact .inr ⟨hR.2.2.1,by rw[hR.2.2.2.2,bG.2];exact hd⟩)) ?_
  rintro _ w6 ⟨rfl,k6⟩;have h6:=h5.aj k6;rw[<-uK, <-uL] at h6;have rg6:=rg5.ab k6 (by simp);have fX:=dE.trans (Aa.eA (N:=N) k6);conv=>whnf
  repeat (refine Ar.la ?_;conv=>whnf)
  exact⟨(i+1,_),⟨av,h6,rg6,fX⟩,⟨rfl,rfl,rfl,vi (by simp only;omega),trivial⟩,by simp only;omega⟩
 obtain rfl:i=8:=by omega
 obtain⟨F8,fe⟩:=km K 8;have hB:=acN B 8;have eat:(iw K 8).at_=K.at_:=by rw[fe];rfl
 have equ:(iw K 8).qu=[]:=by rw[fe];exact hq
 conv=>whnf
 repeat ((first|(refine Ld.of hr.core.c2 ?_)|refine Br.f ?_|refine CW.s ?_);conv=>whnf)
 refine Ca.of (fc hr.core.map (by rw[eat];exact ha)) ?_;rintro _ w2 ⟨g2,rfl,rg2,hg2,k2⟩;have h2:On w2 N (dA (iw K 8) (cF (iw K 8) [] 0)) (qK K P 8) b n1 X c:=by
  rw[aa3,ail equ];exact hr.aj k2
 have dJ:Aa (N.all++aR X) w w2:=(kk.trans (Aa.eA (N:=N) k2)).mono (fun x hx=>List.mem_append_left _ hx);have aim:w.heap.size<=g2:=Nat.le_trans kk.size hg2;have ain:g2∉aR X:=fun hm=>by
  have:=h.core.lt (List.mem_append_right _ hm);omega
 clear hr rg kk k2;conv=>whnf
 refine CW.loop (ι:=Nat×Option Addr×Nat) (fun i w'=>i.1<=12/\On w' N (dA (iw K 8) (cF (iw K 8) [] i.1)) (qK K P 8) b n1 i.2.1 i.2.2/\Row w' g2 3 12 (fun b=>.int .i64 (lv (iw K 8).at_ b:Nat))/\Aa (N.all++aR X) w w'/\g2∉aR i.2.1/\∀x,x∈aR i.2.1->x∈aR X\/w.heap.size<=x)
  (fun i=>[(0,.pointer (some ⟨N.k,0,none⟩)),(46,.slice (some ⟨g2,0,none⟩) 12 12),(47,.int .i64 12),(48,.int .i64 i.1)]) (fun i=>12-i.1) (0,X,c) ah ⟨by omega,h2,rg2,dJ,ain,fun x hx=>.inl hx⟩ ⟨rfl,rfl,rfl,rfl,trivial⟩ ?_;clear h2 rg2 dJ;rintro⟨i,X1,c1⟩ wr ⟨hi,hr,rg,kk,vj,vP⟩;simp only at hi hr rg kk vj vP ⊢;by_cases av:i<12
 ·have ci:=rg.cell i av;have hlen:=ll (iw K 8) i;have vu:=hr.uN;conv=>whnf
  repeat ((first|(refine Ld.at (by omega) ci ?_)|(refine Ld.of hr.core.c4 ?_)|refine Ix.n ?_|refine Br.y ?_|refine CW.s ?_);conv=>whnf)
  refine Ca.of (Hl.aaL wr N.e _ hr.core.aL i av) ?_;rintro _ _ ⟨rfl,rfl⟩;have ht:(decide ((dA (iw K 8) (cF (iw K 8) [] i)).F i≥512))=decide (512<=(iw K 8).F i):=rfl;rw[ht];by_cases h1:512<=(iw K 8).F i
  ·have nr:decide (512<=(iw K 8).F i)=true:=decide_eq_true h1;rw[nr];by_cases h2:0<lv (iw K 8).at_ i
   ·have aa5:cF (iw K 8) [] (i+1)=rZ (cF (iw K 8) [] i) i:=by rw[ju,if_pos ⟨h1,h2⟩]
    conv=>whnf
    repeat ((first|refine Br.t ?_|refine Pk.t ?_|refine Br.y ?_);conv=>whnf)
    refine Ca.of (y6 vu (by omega) (by decide) (by show(cF (iw K 8) [] i).length<=12;omega) i av) ?_;rintro _ w3 ⟨rfl,xu⟩;obtain⟨Y,d,h3,k3,hY⟩:=hr.queue xu;have rg3:=rg.ab k3 (fun hm=>by
     rcases List.mem_cons.1 hm with e|hm
     ·exact ck g2 aim (bh (by simp[Cr.own,e]))
     ·exact vj hm)
    have qm:=rg.lt;conv=>whnf
    repeat (refine Ar.la ?_;conv=>whnf)
    refine⟨(i+1,Y,d),⟨av,?_,rg3,?_,fun hm=>by rcases hY g2 hm with h|h;exact vj h;omega,?_⟩,⟨rfl,rfl,rfl,vi (by simp only;omega),trivial⟩,by simp only;omega⟩
    ·rw[aa5];exact h3
    ·exact kk.then k3 (fun x hx=>by
      rcases List.mem_cons.1 hx with rfl|hx
      ·exact .inl (List.mem_append_left _ (bh (by simp[Cr.own])))
      ·rcases vP x hx with h|h
       ·exact .inl (List.mem_append_right _ h)
       ·exact .inr h)
    ·intro x hx;rcases hY x hx with h|h
     ·exact vP x h
     ·exact .inr (Nat.le_trans kk.size h)
   ·have aa5:cF (iw K 8) [] (i+1)=cF (iw K 8) [] i:=by rw[ju,if_neg (fun x=>h2 x.2)]
    conv=>whnf
    repeat ((first|refine Br.t ?_|refine Pk.t ?_|refine Ar.la ?_|refine Br.n ?_);conv=>whnf)
    refine⟨(i+1,X1,c1),⟨av,?_,rg,kk,vj,vP⟩,⟨rfl,rfl,rfl,vi (by simp only;omega),trivial⟩,by simp only;omega⟩;rw[aa5];exact hr
  ·have nr:decide (512<=(iw K 8).F i)=false:=decide_eq_false h1;rw[nr];have aa5:cF (iw K 8) [] (i+1)=cF (iw K 8) [] i:=by rw[ju,if_neg (fun x=>h1 x.1)]
   conv=>whnf
   repeat ((first|refine Br.f ?_|refine Pk.f ?_|refine Ar.la ?_);conv=>whnf)
   refine⟨(i+1,X1,c1),⟨av,?_,rg,kk,vj,vP⟩,⟨rfl,rfl,rfl,vi (by simp only;omega),trivial⟩,by simp only;omega⟩;rw[aa5];exact hr
 obtain rfl:i=12:=by omega
 have key:∃Ke Pe te,AR (tqK K) (qK K P 8) Ke Pe te/\aA Ke.st=false/\Hl.HB Ke.F/\((Ke.calls<8/\Hl.kU Ke.F=false/\K'=Ke/\P'=Pe/\tr=te)\/((8<=Ke.calls\/Hl.kU Ke.F=true)/\∃K2 P2 t2,AO 24 aZ Ke Pe K2 P2 t2/\(iv (bS K2) K2.next (-1)).told/\K'=cy K2 24/\P'=jr K2 P2 24 aZ/\tr=te++za K2 P2 t2)):=by
  cases H with
  |quiet a1 a2 a3 a4 a5=>exact⟨_,_,_,a1,a2,a3,.inl ⟨a4,a5,rfl,rfl,rfl⟩⟩
  |note a1 a2 a3 a4 a5 a6=>exact⟨_,_,_,a1,a2,a3,.inr ⟨a4,_,_,_,a5,a6,rfl,rfl,rfl⟩⟩
 clear H;obtain⟨Ke,Pe,te,hT,hwo,hBe,lJ⟩:=key;have hr:On wr N (tqK K) (qK K P 8) b n1 X1 c1:=hr;clear rg vj ain aim hg2 hi av equ eat hB fe;generalize tqK K=Kq at *;generalize qK K P 8=Pq at *;conv=>whnf
 repeat ((first|refine Br.f ?_|refine CW.s ?_);conv=>whnf)
 refine CW.loop (ι:=KS×CS×List CS×List CS×Option Addr×Nat×Int) (fun i w'=>AR i.1 i.2.1 Ke Pe i.2.2.2.1/\te=i.2.2.1++i.2.2.2.1/\fits b i.2.2.1.length/\On w' N i.1 i.2.1 (less b i.2.2.1.length) i.2.2.2.2.2.2 i.2.2.2.2.1 i.2.2.2.2.2.1/\Aa (N.all++aR X) w w'/\∀x,x∈aR i.2.2.2.2.1->x∈aR X\/w.heap.size<=x)
  (fun _=>[(0,.pointer (some ⟨N.k,0,none⟩))]) (fun i=>i.1.qu.length) (Kq,Pq,[],te,X1,c1,n1) ah ⟨hT,rfl,(fun x hx=>by simp),by rw[show(([]:List CS)).length=0 from rfl,fC];exact hr,kk,vP⟩ ⟨rfl,trivial⟩ ?_;clear hT hr kk vP;rintro⟨K1,P1,t1,t2,X2,c2,n2⟩ wr ⟨hT,hte,dZ,hr,kk,hX⟩;simp only at hT hte dZ hr kk hX ⊢
 cases hT with
 | done qL =>
  have vu:=hr.uN;rw[qL] at vu;conv=>whnf
  refine Ca.of (uk vu (by omega)) ?_;rintro _ _ ⟨rfl,rfl⟩;conv=>whnf
  repeat ((first|(refine Ld.of hr.core.c1 ?_)|refine Br.t ?_|refine CW.s ?_);conv=>whnf)
  refine Ca.of (eM hr.core.aY) ?_;rintro _ _ ⟨rfl,rfl⟩;rw[hwo];conv=>whnf
  repeat ((first|(refine Ld.of hr.core.c5 ?_)|refine Br.f ?_);conv=>whnf)
  refine Ca.of (adR hr.core.pat) ?_;rintro _ _ ⟨rfl,rfl⟩;have hte:te=t1:=by rw[hte,List.append_nil]
  have note:∀ {K2:KS} {P2:CS} {t2:List CS},AO 24 aZ Ke Pe K2 P2 t2->(iv (bS K2) K2.next (-1)).told->Spec Tryz.prog 105 #[.pointer (some ⟨N.k,0,none⟩)] wr fun u w'=>AD N X2 c2 (cy K2 24) (jr K2 P2 24 aZ) (less b t1.length) (za K2 P2 t2) wr w' (u=ak 0) (u=ak 7):=fun a b=>adW hr a b;rcases lJ with⟨e1,e2,rfl,rfl,rfl⟩|⟨e1,K2,P2,t2,e2,e3,rfl,rfl,rfl⟩
  ·have hd:decide (K'.calls≥8)=false:=decide_eq_false (by omega);rw[hd];conv=>whnf
   repeat ((first|(refine Ld.of hr.core.c4 ?_)|refine Br.t ?_|refine Br.f ?_);conv=>whnf)
   refine Ca.of (Hl.yZ _ _ _ hr.core.aL hBe) ?_;rintro _ _ ⟨rfl,rfl⟩;rw[e2];conv=>whnf
   repeat ((first|refine Br.t ?_|refine Br.f ?_|refine Pk.f ?_|refine Pk.t ?_);conv=>whnf)
   rw[hte];exact⟨rfl,kk,.inl ⟨dZ,rfl,X2,c2,n2,hr,hX⟩⟩
  ·have fin:∀u w',AD N X2 c2 (cy K2 24) (jr K2 P2 24 aZ) (less b t1.length) (za K2 P2 t2) wr w' (u=ak 0) (u=ak 7)->(u=ak 0/\∀v,v=ak 0->Ends N X (cy K2 24) (jr K2 P2 24 aZ) b (te++za K2 P2 t2) w w' (v=ak 0) (v=ak 7))\/(u=ak 7/\∀v,v=ak 7->Ends N X (cy K2 24) (jr K2 P2 24 aZ) b (te++za K2 P2 t2) w w' (v=ak 0) (v=ak 7)):=fun u w' ⟨k3,hr3⟩=>by
    have k4:Aa (N.all++aR X) w w':=kk.trans (k3.mono (fun x hx=>List.mem_append_left _ hx));rw[hte];rcases hr3 with⟨f3,rfl,n3,h3⟩|⟨y,hy,jy,rfl,n3,h3⟩
    ·exact .inl ⟨rfl,fun v hv=>⟨k4,Ag.then dZ (.inl ⟨f3,hv,X2,c2,n3,h3,hX⟩)⟩⟩
    ·exact .inr ⟨rfl,fun v hv=>⟨k4,Ag.then dZ (.inr ⟨y,hy,jy,hv,n3,h3⟩)⟩⟩
   by_cases h8:8<=Ke.calls
   ·have hd:decide (Ke.calls≥8)=true:=decide_eq_true h8;rw[hd];conv=>whnf
    repeat ((first|refine Br.f ?_|refine Pk.f ?_|refine CW.s ?_);conv=>whnf)
    refine Ca.of (note e2 e3) ?_;rintro u w' hu;rcases fin u w' hu with⟨rfl,hv⟩|⟨rfl,hv⟩
    ·conv=>whnf
     refine Ca.of (aW 0 7 (by decide) _) ?_;rintro _ _ ⟨rfl,rfl⟩;conv=>whnf
     repeat (refine Br.f ?_;conv=>whnf)
     exact⟨rfl,hv _ rfl⟩
    ·conv=>whnf
     refine Ca.of (aW 7 7 (by decide) _) ?_;rintro _ _ ⟨rfl,rfl⟩;conv=>whnf
     repeat (refine Br.t ?_;conv=>whnf)
     exact⟨rfl,hv _ rfl⟩
   ·have hd:decide (Ke.calls≥8)=false:=decide_eq_false (by omega);rw[hd];conv=>whnf
    repeat ((first|(refine Ld.of hr.core.c4 ?_)|refine Br.t ?_|refine Br.f ?_);conv=>whnf)
    refine Ca.of (Hl.yZ _ _ _ hr.core.aL hBe) ?_;rintro _ _ ⟨rfl,rfl⟩;rw[e1.resolve_left h8];conv=>whnf
    repeat ((first|refine Br.t ?_|refine Br.f ?_|refine Pk.f ?_|refine Pk.t ?_|refine CW.s ?_);conv=>whnf)
    refine Ca.of (note e2 e3) ?_;rintro u w' hu;rcases fin u w' hu with⟨rfl,hv⟩|⟨rfl,hv⟩
    ·conv=>whnf
     refine Ca.of (aW 0 7 (by decide) _) ?_;rintro _ _ ⟨rfl,rfl⟩;conv=>whnf
     repeat (refine Br.f ?_;conv=>whnf)
     exact⟨rfl,hv _ rfl⟩
    ·conv=>whnf
     refine Ca.of (aW 7 7 (by decide) _) ?_;rintro _ _ ⟨rfl,rfl⟩;conv=>whnf
     repeat (refine Br.t ?_;conv=>whnf)
     exact⟨rfl,hv _ rfl⟩
 | @skip _ _ v t _ _ _ qL hv hl ha1 wP hT =>
  have vu:=hr.uN;rw[qL] at vu;conv=>whnf
  refine Ca.of (um vu (by omega) (by decide) hl) ?_;rintro _ w3 ⟨rfl,xu⟩;have xu:Bk wr N.k 143 110 6 (cj N K1 X2 c2) X2 t w3:=xu;obtain⟨Y,d,h3,k3,hY⟩:=hr.queue xu;have bK:=kk.then k3 (fun x hx=>by
   rcases List.mem_cons.1 hx with rfl|hx
   ·exact .inl (List.mem_append_left _ (bh (by simp[Cr.own])))
   ·rcases hX x hx with h|h
    ·exact .inl (List.mem_append_right _ h)
    ·exact .inr h)
  have hY3:∀x,x∈aR Y->x∈aR X\/w.heap.size<=x:=fun x hx=>by
   rcases hY x hx with h|h
   ·exact hX x h
   ·exact .inr (Nat.le_trans kk.size h)
  clear kk hX xu vu hY k3;conv=>whnf
  repeat ((first|(refine Ld.of h3.core.c2 ?_)|refine Br.f ?_|refine CW.s ?_);conv=>whnf)
  refine Ca.of (fc h3.core.map ha1) ?_;rintro _ w4 ⟨g4,rfl,rg4,hg4,k4⟩;have h4:=h3.aj k4;have bT:=bK.trans (k4.mono (by simp));have c4:w4.cell? ⟨g4,v,none⟩=some (.int .i64 0):=(rg4.cell v hv).trans (by show some (Value.int .i64 (lv K1.at_ v:Nat))=_;rw[wP];rfl);conv=>whnf
  repeat ((first|(refine Ld.at (by omega) c4 ?_)|refine Br.t ?_|refine Pk.t ?_|refine Ix.n ?_|refine CW.s ?_);conv=>whnf)
  exact⟨(dA K1 t,P1,t1,t2,Y,d,n2),⟨hT,hte,dZ,h4,bT,hY3⟩,⟨rfl,trivial⟩,by simp only[dA,qL,List.length_cons];omega⟩
 | @move _ _ v d t _ _ t3 qL hv hl ha1 wP hw0 hF hV p7 hT =>
  have vu:=hr.uN;rw[qL] at vu;conv=>whnf
  refine Ca.of (um vu (by omega) (by decide) hl) ?_;rintro _ w3 ⟨rfl,xu⟩;have xu:Bk wr N.k 143 110 6 (cj N K1 X2 c2) X2 t w3:=xu;obtain⟨Y,e,h3,k3,hY⟩:=hr.queue xu;have bK:=kk.then k3 (fun x hx=>by
   rcases List.mem_cons.1 hx with rfl|hx
   ·exact .inl (List.mem_append_left _ (bh (by simp[Cr.own])))
   ·rcases hX x hx with h|h
    ·exact .inl (List.mem_append_right _ h)
    ·exact .inr h)
  have hY3:∀x,x∈aR Y->x∈aR X\/w.heap.size<=x:=fun x hx=>by
   rcases hY x hx with h|h
   ·exact hX x h
   ·exact .inr (Nat.le_trans kk.size h)
  clear kk hX xu vu hY k3;conv=>whnf
  repeat ((first|(refine Ld.of h3.core.c2 ?_)|refine Br.f ?_|refine CW.s ?_);conv=>whnf)
  refine Ca.of (fc h3.core.map ha1) ?_;rintro _ w4 ⟨g4,rfl,rg4,hg4,k4⟩;have h4:On w4 N (dA K1 t) P1 (less b t1.length) n2 Y e:=h3.aj k4;have bT:=bK.trans (k4.mono (by simp));have c4:w4.cell? ⟨g4,v,none⟩=some (.int .i64 (lv K1.at_ v:Nat)):=rg4.cell v hv;conv=>whnf
  repeat ((first|(refine Ld.at (by omega) c4 ?_)|(refine Ld.of h4.core.c1 ?_)|refine Br.f ?_|refine Ix.n ?_|refine Br.n ?_|refine CW.s ?_);conv=>whnf)
  refine Ca.of (eM h4.core.aY) ?_;rintro _ _ ⟨rfl,rfl⟩;have hw1:aA (dA K1 t).st=false:=hw0;rw[hw1];conv=>whnf
  repeat ((first|(refine Ld.of h4.core.c4 ?_)|refine Br.f ?_|refine Pk.f ?_);conv=>whnf)
  refine Ca.of (Hl.adJ _ _ _ h4.core.aL v hv) ?_;rintro _ _ ⟨rfl,rfl⟩;have ze:decide ((dA K1 t).F (12+v)≥3)=false:=decide_eq_false (by show ¬K1.F (12+v)≥3;omega);rw[ze];conv=>whnf
  refine Ca.of (xd h4 hV) ?_;rintro u w5 ⟨k5,hr5⟩;have dE:=bT.trans (k5.mono (fun x hx=>List.mem_append_left _ hx));rcases hr5 with⟨f5,rfl,n5,h5⟩|⟨y,hy,jy,rfl,n5,h5⟩
  ·conv=>whnf
   repeat (refine CW.s ?_;conv=>whnf)
   refine Ca.of (aW 0 7 (by decide) _) ?_;rintro _ _ ⟨rfl,rfl⟩;have am9:w5.cell? ⟨N.k,107,none⟩=some (.int .i64 (nA (dA K1 t) P1 v d).fq):=h5.core.row.cell 107 (by omega);have ard:w5.cell? ⟨N.k,108,none⟩=some (.int .i64 (nA (dA K1 t) P1 v d).jX):=h5.core.row.cell 108 (by omega);conv=>whnf
   repeat ((first|(refine Ld.at (by omega) am9 ?_)|(refine Ar.s9 ?_)|refine Br.t ?_|refine Br.f ?_|refine Ru.au ?_);conv=>whnf)
   refine Sd.rowAt h5.core.row 107 (by omega) (by omega) rfl ?_;intro w6 r6 k6;have aio:w6.cell? ⟨N.k,108,none⟩=some (.int .i64 (nA (dA K1 t) P1 v d).jX):=r6.cell 108 (by omega);conv=>whnf
   repeat ((first|(refine Ld.at (by omega) aio ?_)|(refine Ar.s9 ?_));conv=>whnf)
   refine Sd.rowAt r6 108 (by omega) (by omega) rfl ?_;intro w7 r7 k7;have h7:=h5.row (K':=mdK (nA (dA K1 t) P1 v d) (lv K1.at_ v)) (k6.trans k7) r7 (fun j hj=>aa4 _ _ j hj) rfl;rw[gn] at h7;conv=>whnf
   refine⟨(mdK (nA (dA K1 t) P1 v d) (lv K1.at_ v),vq (dA K1 t) P1 v d,t1++vcT (dA K1 t) P1 v d,t3,Y,e,n5),⟨hT,by rw[hte,List.append_assoc],Ag.fits dZ f5,by rw[List.length_append];exact h7,dE.trans ((k6.trans k7).mono (fun x hx=>by rw[List.mem_singleton.1 hx];exact List.mem_append_left _ (bh (by simp[Cr.own])))),hY3⟩,⟨rfl,trivial⟩,?_⟩;show(mdK (nA (dA K1 t) P1 v d) (lv K1.at_ v)).qu.length<K1.qu.length;show(nA (dA K1 t) P1 v d).qu.length<K1.qu.length;rw[p7,qL];simp
  ·conv=>whnf
   repeat (refine CW.s ?_;conv=>whnf)
   refine Ca.of (aW 7 7 (by decide) _) ?_;rintro _ _ ⟨rfl,rfl⟩;conv=>whnf
   repeat (refine Br.t ?_;conv=>whnf)
   have dead:∀t4,tr=te++t4->Ends N X K' P' b tr w w5 (ak 7=ak 0) (ak 7=ak 7):=fun t4 ht4=>by
    rw[ht4,hte,List.append_assoc,List.append_assoc];exact⟨dE,Ag.then dZ (Ag.gone hy jy ⟨rfl,n5,h5⟩)⟩
   refine⟨rfl,?_⟩;rcases lJ with⟨-,-,-,-,h4⟩|⟨-,K2,P2,t2,-,-,-,-,h4⟩
   ·exact dead [] (by rw[h4,List.append_nil])
   ·exact dead _ h4
end
end
section
open Go.RowKit
def vQ(K:KS)(o:Nat)(fl s:Int):Cp:={ iv K s (-1) with fl:=af K.fl o fl }
def dp(o:Nat)(fl:Int)(K:KS)(s:Int):Nat->Nat:=uC (vQ K o fl s)
theorem aip{K:KS}{o:Nat}{fl s:Int}(ho:o<24)(j:Nat):put (iv K s (-1)).cell o (.int .i64 fl) j=(vQ K o fl s).cell j:=by
 unfold put;by_cases h:j=o
 ·subst h;rw[if_pos rfl,(vQ K j fl s).iu ho];unfold vQ af;simp only[if_pos]
 ·rw[if_neg h];unfold Cp.cell vQ af;simp only[if_neg h];rfl
def sH(K:KS)(o:Nat)(fl:Int):KS:={ K with fl:=af K.fl o fl }
def zf(K:KS)(o:Nat):KS:={ K with at_:=af K.at_ o 0,ow:=af K.ow (K.at_ o-1) 0 }
section
variable{w w':World}{N:Cr}{K:KS}{X:Option Addr}{c:Nat}{P:CS}{b:Option Nat}{n:Int}
theorem rJ(o:Nat)(ho:o<24)(x:Int)(j:Nat)(hj:j<110):put (cj N K X c) (82+o) (.int .i64 x) j=cj N (sH K o x) X c j:=by
 unfold put;by_cases h:j=82+o
 ·subst h;rw[if_pos rfl,aaW ho];unfold sH af;simp only[if_pos]
 ·rw[if_neg h];unfold cj;by_cases h1:82<=j/\j<106
  ·have:j-82≠o:=by omega
   unfold sH af;simp only[if_neg this]
  ·by_cases h2:j<82
   ·have:j=0\/j=1\/j=2\/j=3\/j=4\/j=5\/j=6\/7<=j:=by omega
    rcases this with rfl|rfl|rfl|rfl|rfl|rfl|rfl|h7
    all_goals first|rfl|skip
    rw[if_neg (by omega),if_neg (by omega),if_neg (by omega),if_neg (by omega),if_neg (by omega),if_neg (by omega),if_neg (by omega),if_pos h2,if_neg (by omega),if_neg (by omega),if_neg (by omega),if_neg (by omega),if_neg (by omega),if_neg (by omega),if_neg (by omega),if_pos h2];rfl
   ·have e6:¬j<106:=by omega
    simp only[if_neg h2,if_neg e6];rfl
theorem aa6(h:On w N K P b n X c){x2 x7 x3 o:Nat}{fl:Int}(ho:o<24)(r2:w.cell? ⟨x2,0,none⟩=some (.pointer (some ⟨N.k,0,none⟩)))(r7:w.cell? ⟨x7,0,none⟩=some (.int .i64 fl))(r3:w.cell? ⟨x3,0,none⟩=some (.int .i64 o))(s:Int)(ht:(vQ K o fl s).told) :
  Spec Tryz.prog 64 #[.int .i64 s,.pointer (some ⟨x2,0,none⟩),.pointer (some ⟨x7,0,none⟩),.pointer (some ⟨x3,0,none⟩)] w fun v w'=>∃A d,v=.tuple #[.slice A 174 d,ak 0]/\Ly w' 5 1 A 174 d (fun j=>.int .u8 (dp o fl K s j:Nat))/\Aa [] w w':=by
 have l7:=aI r7;have l3:=aI r3;refine spec_of_wpE (T:=tt) ah func64 rfl (by decide +kernel) ntmps64 (by simp) ?_;conv=>whnf
 repeat ((refine Ld.of r2 ?_);conv=>whnf)
 refine Ca.of (nc h s (-1)) ?_;rintro _ w2 ⟨rfl,k2⟩;conv=>whnf
 refine Ru.aF (ew w2) ?_;intro g w3 hg gG rg k3;conv=>whnf
 refine Ru.gY rg bz (by omega) (fun j _=>Cp.bH _ j) ?_;intro w4 rg4 k4;have rg4:Row w4 g 116 62 (iv K s (-1)).cell:=rg4.congr (fun j hj=>by unfold lay;rw[if_pos (by omega),Nat.sub_zero]);have q4:Aa [] w w4:=(k2.trans k3).fresh (by rw[hg];exact k2.size) k4;have s7:=(q4.cell l7 (by simp)).trans r7;have s3:=(q4.cell l3 (by simp)).trans r3;have hgw:w.heap.size<=g:=by rw[hg];exact k2.size
 conv=>whnf
 repeat ((first|(refine Ld.of s3 ?_)|(refine Ld.of s7 ?_)|(refine Ix.of o (by omega) (by omega) ?_));conv=>whnf)
 refine Sd.rowAt rg4 o (by omega) (by omega) rfl ?_;intro w5 rg5 k5;have rg5:=rg5.congr (fun j hj=>aip ho j);have q5:=q4.fresh hgw k5;conv=>whnf
 refine Ru.ve rg5 underlying116 rfl bz (by omega) ?_;rw[br (fun j _=>by rw[Nat.zero_add]:∀j,j<62->(vQ K o fl s).cell (0+j)=(vQ K o fl s).cell j)];conv=>whnf
 refine Ca.of (iE w5 _ ht) ?_;rintro _ w6 ⟨y,hy,rfl,r6,k6⟩;conv=>whnf
 refine⟨rfl,some ⟨y,0,none⟩,174,rfl,(Ly.dh r6 (by omega) (by omega) (by simp[maxLen])).congr (fun j hj=>?_),q5.trans k6⟩;unfold dp;rw[nh]
theorem xv(h:On w N K P b n X c){o:Nat}(ho:o<24)(h0:K.at_ o=0) :
  Spec Tryz.prog 44 #[.pointer (some ⟨N.k,0,none⟩),.int .i64 o] w fun u w'=>AD N X c K P b [] w w' (u=ak 0) (u=ak 7):=by
 refine spec_of_wpE (T:=tt) ah func44 rfl (by decide +kernel) ntmps44 (by simp) ?_;conv=>whnf
 refine Ru.aid ?_;intro x2 w1 hx2 du r2 k1;conv=>whnf
 refine Ru.amY ?_;intro x3 w2 hx3 fE r3 k2;have r22:=r2.ab k2 (by simp);have h2:=(h.aj k1).aj k2;have kk:=k1.trans k2;conv=>whnf
 repeat ((first|(refine Ld.row r3 (by omega) ?_)|refine Br.f ?_|refine Pk.f ?_|refine Br.n ?_|refine CW.s ?_);conv=>whnf)
 refine CW.held (fun w'=>Ae w' N K X c/\Row w' x2 85 1 (fun _=>.pointer (some ⟨N.k,0,none⟩))/\Row w' x3 3 1 (fun _=>.int .i64 o)) [] (.take 0 (.take 1 (.take 2 (.take 3 (.take 4 (.one 5 (.take 6 (.take 7 (.take 8 (.take 9 (.take 10 (.done)))))))))))) ah (by kernel_rfl) (by kernel_rfl) (by kernel_rfl) ?_ ?_
 ·exact⟨h2.core.aj ((Aa.refl _ _).drewN 1),Row.drewN r22 1,Row.drewN r3 1⟩
 have q2:=(Aa.refl [] w2).drewN 1;have h3:=h2.aj q2;have r23:=r22.ab q2 (by simp);have r33:=r3.ab q2 (by simp);have bK:=kk.trans q2;generalize w2.drewN 1=w3 at *;conv=>whnf
 repeat ((first|(refine Ah.of (fun _ h=>h.1.c2) ?_)|(refine Ah.of (fun _ h=>h.2.1.cell 0 (by omega)) ?_)|(refine Ah.of (fun _ h=>h.2.2.cell 0 (by omega)) ?_));conv=>whnf)
 refine Ca.of (iS h3.core.map o (by omega) (by omega)) ?_;rintro _ _ ⟨rfl,rfl⟩;rw[if_pos h0];refine⟨⟨h3.core,r23,r33⟩,?_⟩;conv=>whnf
 repeat ((first|refine Br.t ?_|refine Ru.n1 ?_);conv=>whnf)
 exact⟨rfl,Aa.eA bK,Ag.nil ⟨rfl,n,h3⟩⟩
theorem xw(w:World):(Instr.alloc 2 true (.tuple #[])).run Tryz.prog w=.ok (.pointer (some ⟨w.heap.size,0,none⟩)) (w.alloc (.cells #[.int .i64 0] 2)):=by kernel_rfl
theorem akW(h:On w N K P b n X c){o:Nat}(ho:o<24)(h0:K.at_ o≠0)(h96:K.at_ o<=96){K1:KS}{P1:CS}{t1:List CS}(H:AO 24 (dp o (K.en o).seq) K P K1 P1 t1)(ht:(vQ (bS K1) o (K.en o).seq K1.next).told)(h1:(cy K1 24).at_ o≠0)(h2:(cy K1 24).at_ o<=96) :
  Spec Tryz.prog 44 #[.pointer (some ⟨N.k,0,none⟩),.int .i64 o] w fun u w'=>AD N X c (zf (sH (cy K1 24) o (K.en o).seq) o) (jr K1 P1 24 (dp o (K.en o).seq)) b (za K1 P1 t1) w w' (u=ak 0) (u=ak 7):=by
 have ck:∀x,w.heap.size<=x->x∉N.all:=fun x hx hm=>by
  have h3:x<w.heap.size:=by
   rcases List.mem_append.1 hm with hm|hm
   ·exact h.core.lt (List.mem_append_left _ hm)
   ·exact h.gT _ hm
  omega
 refine spec_of_wpE (T:=tt) ah func44 rfl (by decide +kernel) ntmps44 (by simp) ?_;conv=>whnf
 refine Ru.aid ?_;intro x2 w1 hx2 du r2 k1;conv=>whnf
 refine Ru.amY ?_;intro x3 w2 hx3 fE r3 k2;have r22:=r2.ab k2 (by simp);have hh2:=(h.aj k1).aj k2;have kk:=k1.trans k2;have x2w:w.heap.size<=x2:=by omega
 have x3w:w.heap.size<=x3:=by omega
 clear hx2 du r2 k1 k2 fE hx3 w1;conv=>whnf
 repeat ((first|(refine Ld.row r3 (by omega) ?_)|refine Br.f ?_|refine Pk.f ?_|refine Br.n ?_|refine CW.s ?_);conv=>whnf)
 refine CW.held (fun w'=>Ae w' N K X c/\Row w' x2 85 1 (fun _=>.pointer (some ⟨N.k,0,none⟩))/\Row w' x3 3 1 (fun _=>.int .i64 o)) [] (.take 0 (.take 1 (.take 2 (.take 3 (.take 4 (.one 5 (.take 6 (.take 7 (.take 8 (.take 9 (.take 10 (.done)))))))))))) ah (by kernel_rfl) (by kernel_rfl) (by kernel_rfl) ?_ ?_
 ·exact⟨hh2.core.aj ((Aa.refl _ _).drewN 1),Row.drewN r22 1,Row.drewN r3 1⟩
 have q2:=(Aa.refl [] w2).drewN 1;have h3:=hh2.aj q2;have r23:=r22.ab q2 (by simp);have r33:=r3.ab q2 (by simp);have bK:=kk.trans q2;clear hh2 r22 r3 kk q2;generalize w2.drewN 1=w3 at *;conv=>whnf
 repeat ((first|(refine Ah.of (fun _ h=>h.1.c2) ?_)|(refine Ah.of (fun _ h=>h.2.1.cell 0 (by omega)) ?_)|(refine Ah.of (fun _ h=>h.2.2.cell 0 (by omega)) ?_));conv=>whnf)
 refine Ca.of (iS h3.core.map o (by omega) (by omega)) ?_;rintro _ _ ⟨rfl,rfl⟩;rw[if_neg h0];refine⟨⟨h3.core,r23,r33⟩,?_⟩;conv=>whnf
 repeat ((first|refine Br.f ?_|refine Ru.ai ?_);conv=>whnf)
 refine CW.held (fun w'=>Ae w' N K X c/\Row w' x2 85 1 (fun _=>.pointer (some ⟨N.k,0,none⟩))/\Row w' x3 3 1 (fun _=>.int .i64 o)) [8] (.take 0 (.take 1 (.take 2 (.take 3 (.take 4 (.take 5 (.take 6 (.one 7 (.one 8 (.done)))))))))) ah (by kernel_rfl) (by kernel_rfl) (by kernel_rfl) ?_ ?_
 ·exact⟨h3.core.aj ((Aa.refl _ _).drewN 1),Row.drewN r23 1,Row.drewN r33 1⟩
 have q2:=(Aa.refl [] w3).drewN 1;have h4:=h3.aj q2;have r24:=r23.ab q2 (by simp);have r34:=r33.ab q2 (by simp);have bT:=bK.trans q2;clear h3 r23 r33 bK q2;generalize w3.drewN 1=w4 at *;have een:cj N K X c (7+3*o)=.int .i64 (K.en o).seq:=iF (j:=0) (by omega) (by omega);conv=>whnf
 repeat ((first|(refine Ah.of (fun _ h=>h.2.1.cell 0 (by omega)) ?_)|(refine Ah.of (fun _ h=>h.2.2.cell 0 (by omega)) ?_)|(refine Ix.of o (by omega) (by omega) ?_)|(refine Ah.at (j:=7+3*o) (by omega) (fun _ h=>(h.1.row.cell (7+3*o) (by omega)).trans (congrArg some een)) ?_));conv=>whnf)
 refine Ru.of (xw w4) ?_;have r7:=qH (heap_alloc_new w4 (.cells #[.int .i64 0] 2));have k5:Aa [] w4 (w4.alloc (.cells #[.int .i64 0] 2)):=(Aa.refl _ _).alloc _;have h5:=h4.aj k5;have r25:=r24.ab k5 (by simp);have r35:=r34.ab k5 (by simp);have dE:=bT.trans k5;have l2:=r24.lt;have l3:=r34.lt;have x7w:=bT.size;clear k5 h4 r24 r34 bT;generalize w4.alloc _=w5 at *;generalize w4.heap.size=x7 at *;refine⟨⟨h5.core,r25,r35⟩,?_⟩;conv=>whnf
 refine Sd.rowAt r7 0 (by omega) (by omega) rfl ?_;intro w6 r76 k6;have h6:=h5.gr r7 (by decide) k6;have r26:=r25.ab k6 (by simp;omega);have r36:=r35.ab k6 (by simp;omega);have fX:=dE.fresh x7w k6;have r76:Row w6 x7 2 1 (fun _=>.int .i64 (K.en o).seq):=r76.congr (fun j hj=>by rw[c1 hj];rfl);clear r7 h5 r25 r35 dE k6 l2 l3 w5;conv=>whnf
 repeat ((refine Ld.row r26 (by omega) ?_);conv=>whnf)
 refine Ca.of (zb h6 (of:=24) (by omega) H 64 #[.pointer (some ⟨x2,0,none⟩),.pointer (some ⟨x7,0,none⟩),.pointer (some ⟨x3,0,none⟩)] (fun w2 b2 n2 k2 h2=>aa6 h2 ho ((r26.ab k2 (ck _ x2w)).cell 0 (by omega)) ((r76.ab k2 (ck _ x7w)).cell 0 (by omega)) ((r36.ab k2 (ck _ x3w)).cell 0 (by omega)) K1.next ht)) ?_;rintro _ w7 ⟨k7,hr⟩;have nz:=(Aa.eA (N:=N) fX).trans k7;rcases hr with⟨hf,rfl,n7,h7⟩|⟨y,hy,jy,rfl,n7,h7⟩
 case inr =>
  conv=>whnf
  repeat ((first|refine Br.t ?_|refine Ru.n1 ?_|refine CW.s ?_);conv=>whnf)
  exact⟨rfl,nz,.inr ⟨y,hy,jy,rfl,n7,h7⟩⟩
 have r27:=r26.ab k7 (ck _ x2w);have r37:=r36.ab k7 (ck _ x3w);have r77:=r76.ab k7 (ck _ x7w);clear h6 r26 r36 r76 k7 fX;conv=>whnf
 repeat ((first|refine Br.f ?_|refine Ru.ai ?_|refine CW.s ?_);conv=>whnf)
 refine CW.held (fun w'=>Row w' x2 85 1 (fun _=>.pointer (some ⟨N.k,0,none⟩))/\Row w' x3 3 1 (fun _=>.int .i64 o)/\Row w' x7 2 1 (fun _=>.int .i64 (K.en o).seq)) [] (.take 0 (.take 1 (.take 2 (.take 3 (.take 4 (.take 5 (.one 6 (.done)))))))) ah (by kernel_rfl) (by kernel_rfl) (by kernel_rfl) ?_ ?_
 ·exact⟨Row.drewN r27 1,Row.drewN r37 1,Row.drewN r77 1⟩
 have q7:=(Aa.refl [] w7).drewN 1;have h8:=h7.aj q7;have r28:=r27.ab q7 (by simp);have r38:=r37.ab q7 (by simp);have r78:=r77.ab q7 (by simp);have pK:=nz.trans (Aa.eA (N:=N) q7);clear h7 r27 r37 r77 nz q7;generalize w7.drewN 1=w8 at *;conv=>whnf
 repeat ((first|(refine Ah.of (fun _ h=>h.1.cell 0 (by omega)) ?_)|(refine Ah.of (fun _ h=>h.2.1.cell 0 (by omega)) ?_)|(refine Ah.of (fun _ h=>h.2.2.cell 0 (by omega)) ?_)|(refine Ix.of o (by omega) (by omega) ?_));conv=>whnf)
 rw[show 0+82+o=82+o by omega];refine Sd.rowAt h8.core.row (82+o) (by omega) (by omega) rfl ?_;intro w9 r9 k9;have h9:On w9 N (sH (cy K1 24) o (K.en o).seq) (jr K1 P1 24 (dp o (K.en o).seq)) _ n7 X c:=h8.row k9 r9 (fun j hj=>rJ o ho _ j hj) rfl;have r29:=r28.ab k9 (by
  have:=h8.core.row.lt;have:=h8.core.row.ed r28 (by decide);simpa using this.symm)
 have r39:=r38.ab k9 (by
  have:=h8.core.row.ed r38 (by decide);simpa using this.symm)
 have r79:=r78.ab k9 (by
  have:=h8.core.row.ed r78 (by decide);simpa using this.symm)
 have kk9:=pK.trans (Aa.jg (N:=N) (by simp[Cr.own]) k9);clear h8 r28 r38 r78 pK r9 k9;refine⟨⟨r29,r39,r79⟩,?_⟩;conv=>whnf
 refine CW.held (fun w'=>Row w' x2 85 1 (fun _=>.pointer (some ⟨N.k,0,none⟩))/\Row w' x3 3 1 (fun _=>.int .i64 o)/\w'.cell? ⟨N.k,2,none⟩=some (.pointer (some ⟨N.a,0,none⟩))) [] (.take 0 (.take 1 (.take 2 (.take 3 (.take 4 (.one 5 (.take 6 (.done)))))))) ah (by kernel_rfl) (by kernel_rfl) (by kernel_rfl) ?_ ?_
 ·exact⟨Row.drewN r29 1,Row.drewN r39 1,(h9.aj ((Aa.refl [] w9).drewN 1)).core.c2⟩
 have q9:=(Aa.refl [] w9).drewN 1;have wZ:=h9.aj q9;have aiq:=r29.ab q9 (by simp);have air:=r39.ab q9 (by simp);have qG:=kk9.trans (Aa.eA (N:=N) q9);clear h9 r29 r39 kk9 q9;generalize w9.drewN 1=yy at *;conv=>whnf
 repeat ((first|(refine Ah.of (fun _ h=>h.1.cell 0 (by omega)) ?_)|(refine Ah.of (fun _ h=>h.2.1.cell 0 (by omega)) ?_)|(refine Ah.of (fun _ h=>h.2.2) ?_));conv=>whnf)
 refine Ca.of (aaK wZ.core.map o (by omega) h2 h1) ?_;rintro _ zy ⟨rfl,r11,lD⟩;have sA:=wZ.map lD r11;refine⟨⟨aiq.ab lD (by
  have:=Row.ed wZ.core.map aiq (by decide);simpa using this.symm),air.ab lD (by
  have:=Row.ed wZ.core.map air (by decide);simpa using this.symm),sA.core.c2⟩,?_⟩
 conv=>whnf
 exact⟨rfl,qG.trans (Aa.jg (by simp[Cr.own]) lD),.inl ⟨hf,rfl,n7,sA⟩⟩
end
structure Idle(K K':KS):Prop where
 fl:K'.fl=K.fl
 next:K'.next=K.next
 qu:K'.qu=K.qu
 cur:K'.cur=K.cur
 calls:K'.calls=K.calls
theorem Idle.refl(K:KS):Idle K K:=⟨rfl,rfl,rfl,rfl,rfl⟩
theorem Idle.trans{K K1 K2:KS}(h:Idle K K1)(g:Idle K1 K2):Idle K K2:=⟨g.fl.trans h.fl,g.next.trans h.next,g.qu.trans h.qu,g.cur.trans h.cur,g.calls.trans h.calls⟩
theorem Shut.idle{K K0:KS}(h:Shut K K0):Idle K K0:=by
 obtain⟨st,fo,fb,fi,e⟩:=h.eq;rw[e];exact⟨rfl,rfl,rfl,rfl,rfl⟩
theorem A6.idle{K:KS}{P:CS}{k:Cp}{m:Int}{v d:Nat}(h:A6 K P k m v d):Idle K (nA K P v d):=by
 obtain⟨st,fo,fb,fi,pn,at_,ow,en,F,mo,e⟩:=h.same;rw[e];exact⟨rfl,rfl,rfl,rfl,rfl⟩
structure Inv(K:KS)(P:CS)(k:Cp)(m:Int):Prop where
 l:BF K P k m
 b:AN K P
 h:Bv K
 free:5<=an K.st 0
theorem Shut.inv{K K0:KS}{P:CS}{k:Cp}{m:Int}(h:Shut K K0)(I:Inv K P k m)(B:AN K0 P):Inv K0 P k m:=by
 have hc:=h.cnt;obtain⟨st,fo,fb,fi,e⟩:=h.eq;subst e;exact⟨⟨I.l.ok,I.l.uq,I.l.en,I.l.fl,I.l.next,I.l.fh⟩,B,⟨I.h.hb,I.h.sc,I.h.cur⟩,by rw[hc];exact I.free⟩
theorem A6.inv{K:KS}{P:CS}{k:Cp}{m:Int}{v d:Nat}(h:A6 K P k m v d)(I:Inv K P k m):Inv (nA K P v d) (vq K P v d) k m :=
 ⟨h.il,h.ib,h.ih,by rw[h.cnt];exact I.free⟩
def AZ(T:CS)(k:Cp)(m:Int)(a:Nat->Nat->Nat):Prop:=∃L,AA T k L m/\Ac T L a
theorem A6.alw{K:KS}{P:CS}{k:Cp}{m:Int}{v d:Nat}(h:A6 K P k m v d){a:Nat->Nat->Nat}(hs:Ac P K.at_ a):∀T,T∈vcT K P v d->AZ T k m a:=fun T hT=>⟨K.at_,(h.tr T hT).1,(h.tr T hT).2 a hs⟩
structure A4(of:Nat)(D:KS->Int->Nat->Nat)(K1:KS)(P1:CS):Prop where
 fb:K1.fb<12
 fi:K1.fi<=8
 next:0<=K1.next/\K1.next<1099511627775
 hb:Hl.HB K1.F
 mw:AK K1.at_ K1.ow
 calm:P1.calm
 blank:P1.pg (K1.fb*8+K1.fi)=.blank
 ok:(dk K1 of).ok
 lt:K1.fb*8+K1.fi<96
 eq:∃ow F calls,cy K1 of={ K1 with next:=K1.next+1,fi:=K1.fi+1,at_:=af K1.at_ of (K1.fb*8+K1.fi+1),ow:=ow,en:=af K1.en of ⟨K1.next,0,false⟩,F:=F,calls:=calls }/\AM (af K1.at_ of (K1.fb*8+K1.fi+1)) ow/\(of≠24->calls=K1.calls)/\(of=24->calls=0)
 b:AN (cy K1 of) (jr K1 P1 of D)
 h:Bv (cy K1 of)
 pg:(jr K1 P1 of D).pg (K1.fb*8+K1.fi)=.full (dk K1 of) (cq (D (bS K1) K1.next))
 ne:∀q,q≠K1.fb*8+K1.fi->(jr K1 P1 of D).pg q=P1.pg q
 free:5<=an (cy K1 of).st 0
structure Bc(J:Nat->KS->CS->Prop):Prop where
 mono:∀ {n n':Nat} {K:KS} {P:CS},n<=n'->J n K P->J n' K P
 adm:∀ {n:Nat} {K K':KS} {P:CS},K'.at_=K.at_->K'.en=K.en->K'.next=K.next->K'.F=K.F->K'.cur=K.cur->K'.calls=K.calls->J n K P->J n K' P
 rd:∀ {n:Nat} {K:KS} {P:CS} {p:Nat},p<96->J n K P->J (n+1) (pG K p) (P.bL p)
 pt:∀ {n:Nat} {K:KS} {P:CS},0<=K.calls->K.calls<8->J n K P->J n (ptK K) P
 vac:∀ {n:Nat} {K:KS} {P:CS} {k:Cp} {m:Int} {v d:Nat},Inv K P k m->A6 K P k m v d->J n K P->J (n+8) (nA K P v d) (vq K P v d)
 put:∀ {n:Nat} {K:KS} {P:CS} {k:Cp} {m:Int} {s:Nat} {f:Nat->Nat},Inv K P k m->A4 s (dO f) K P->s<24->J n K P->J (n+1) (cy K s) (jr K P s (dO f))
 note:∀ {n:Nat} {K:KS} {P:CS} {k:Cp} {m:Int},Inv K P k m->A4 24 aZ K P->(iv (bS K) K.next (-1)).told->J n K P->J (n+1) (cy K 24) (jr K P 24 aZ)
 trim:∀ {n:Nat} {K:KS} {P:CS} {k:Cp} {m:Int} {s:Nat} {q:Int},Inv K P k m->A4 24 (dp s q) K P->(vQ (bS K) s q K.next).told->s<24->J n K P->J (n+1) (zf (sH (cy K 24) s q) s) (jr K P 24 (dp s q))
structure CX(of:Nat)(K:KS)(P:CS)(k:Cp)(m:Int)(K':KS)(P':CS)(tr:List CS):Prop where
 op:AQ of 48 K P K' P' tr
 inv:Inv K' P' k m
 room:aJ K'.fo K'.fi of=true
 idle:Idle K K'
 tag:∀o,o<25->K.at_ o≠0->K'.at_ o≠0/\(K'.en o).seq=(K.en o).seq
 tr:∀a,Ac P K.at_ a->∀T,T∈tr->AZ T k m a
 sh:∀a,Ac P K.at_ a->Ac P' K'.at_ a
 st:∀J,Bc J->∀n,J n K P->J (n+8) K' P'
theorem ad1{K:KS}{P:CS}(B:AN K P):an K.st 3=0:=oI (fun b hb=>by have:=B.st b hb;omega)
theorem oK{K:KS}{P:CS}(B:AN K P):aA K.st=false:=by
 unfold aA;rw[ad1 B];rfl
theorem acO{K:KS}{P:CS}{k:Cp}{m:Int}(I:Inv K P k m){of:Nat}(js:of<=24):∃K' P' tr,CX of K P k m K' P' tr:=by
 by_cases ma:aJ K.fo K.fi of=true
 ·exact⟨K,P,[],.room (n:=47) I.b.fb I.b.fi ma,I,ma,Idle.refl K,fun o ho e=>⟨e,rfl⟩,(fun _ _ _ h=>nomatch h),fun _ h=>h,fun J S n j=>S.mono (by omega) j⟩
 have aoD:aJ K.fo K.fi of=false:=by simpa using ma
 obtain⟨B1,S1,zI,-⟩:=I.b.shut;have I1:=S1.inv I B1;have zv:(aV K).at_=K.at_:=by
  obtain⟨st,fo,fb,fi,e⟩:=S1.eq;rw[e]
 have en1:(aV K).en=K.en:=by
  obtain⟨st,fo,fb,fi,e⟩:=S1.eq;rw[e]
 have sh1:(aV K).next=K.next/\(aV K).F=K.F/\(aV K).cur=K.cur/\(aV K).calls=K.calls:=by
  obtain⟨st,fo,fb,fi,e⟩:=S1.eq;rw[e];exact⟨rfl,rfl,rfl,rfl⟩
 have hbound:kT (aV K).st=5:=by
  unfold kT;rw[oK B1,ad1 B1];rfl
 by_cases hsp:fP (aV K).st=true
 ·have h6:5<an (aV K).st 0:=by
   unfold fP at hsp;rw[hbound] at hsp;exact of_decide_eq_true hsp
  obtain⟨d,ky,hd,vf⟩:=iZ (st:=(aV K).st) B1.pn (by omega);have hr:aJ (opK K d).fo (opK K d).fi of=true:=by
   show aJ true 0 of=true;unfold aJ bp;simp
  have hcn:an (opK K d).st 0=an (aV K).st 0-1:=by
   have:=bV (aV K).st 1 0 hd;rw[if_pos vf,if_neg (by omega)] at this;show an (af (aV K).st d 1) 0=_;omega
  have B2:AN (opK K d) P:=by
   refine⟨fun b hb=>?_,fun b hb e=>?_,fun _=>?_,fun b i hb e hi=>?_,fun _ i h1 h2=>?_,hd,by show 0<=8;omega,by show d+1<=12;omega⟩
   ·show af (aV K).st d 1 b<=2;rw[af];split
    ·omega
    ·exact B1.st b hb
   ·have e:af (aV K).st d 1 b=1:=e;rw[af] at e;by_cases uO:b=d
    ·exact⟨rfl,uO.symm⟩
    ·rw[if_neg uO] at e;have:=(B1.ni b hb e).1;rw[zI] at this
     cases this
   ·show af (aV K).st d 1 d=1;rw[af,if_pos rfl]
   ·have e:af (aV K).st d 1 b=0:=e;rw[af] at e;by_cases uO:b=d
    ·rw[if_pos uO] at e;omega
    ·rw[if_neg uO] at e;exact B1.bl b i hb e hi
   ·exact B1.bl d i hd vf h2
  have I2:Inv (opK K d) P k m:=⟨⟨I1.l.ok,I1.l.uq,I1.l.en,I1.l.fl,I1.l.next,I1.l.fh⟩,B2,⟨I1.h.hb,I1.h.sc,I1.h.cur⟩,by rw[hcn];omega⟩;refine⟨opK K d,P,[],.spare (n:=47) I.b.fb I.b.fi aoD hsp B1.pn ky (.room (n:=46) B2.fb B2.fi hr),I2,hr,S1.idle.trans ⟨rfl,rfl,rfl,rfl,rfl⟩,fun o ho e=>⟨by show(aV K).at_ o≠0;rw[zv];exact e,by show((aV K).en o).seq=_;rw[en1]⟩,(fun _ _ _ h=>nomatch h),fun a hs=>?_,fun J S n j=>S.mono (by omega) (S.adm (K:=K) zv en1 sh1.1 sh1.2.1 sh1.2.2.1 sh1.2.2.2 j)⟩;show Ac P (aV K).at_ a;rw[zv];exact hs
 ·have akX:fP (aV K).st=false:=by simpa using hsp
  have h5:an (aV K).st 0<=5:=by
   unfold fP at akX;rw[hbound] at akX;have:=of_decide_eq_false akX;omega
  have bt:∀b,b<12->(aV K).st b=0\/(aV K).st b=2:=fun b hb=>by
   have:=B1.st b hb;by_cases h:(aV K).st b=1
   ·have:=(B1.ni b hb h).1;rw[zI] at this
    cases this
   ·omega
  have cu:an (aV K).st 0+an (aV K).st 2=12:=xh bt;have h7:7<=an (aV K).st 2:=by omega
  obtain⟨b0,jK,e0⟩:=uG (st:=(aV K).st) (s:=2) (n:=12) (by unfold an at h7;omega);obtain⟨m1,m2⟩:=@lj (fun j=>((aV K).st j:Nat)) (fun j=>(lv (aV K).at_ j:Nat)) 12;have xP:0<=pI (aV K):=(m1 b0 jK (by show(((aV K).st b0:Nat):Int)=2;omega)).1;have av:=(m9 (fun j=>((aV K).st j:Nat)) (fun j=>(lv (aV K).at_ j:Nat)) 12).2;obtain⟨v,hv⟩:∃v:Nat,pI (aV K)=v:=⟨(pI (aV K)).toNat,by omega⟩;have hv':bs (fun j=>((aV K).st j:Nat)) (fun j=>(lv (aV K).at_ j:Nat)) 12=v:=hv;rw[hv'] at m1 m2 av;have aic:v<12:=by omega
  have rU:(aV K).st v=2:=by
   have:=m2 (by omega);simp only[Int.toNat_natCast] at this;omega
  have aqm:∀b,b<12->(aV K).st b=2->lv (aV K).at_ v<=lv (aV K).at_ b:=fun b hb e=>by
   have:=(m1 b hb (by show(((aV K).st b:Nat):Int)=2;omega)).2;simp only[Int.toNat_natCast] at this;omega
  have hmul:=zc (st:=(aV K).st) (f:=jV (aV K).at_ 25) (s:=2) (x:=lv (aV K).at_ v) (n:=12) (fun b hb e=>aqm b hb e);have aku:=acL (aV K).at_ 25;have h3:lv (aV K).at_ v<=5:=by
   by_cases h:lv (aV K).at_ v<=5
   ·exact h
   ·have h6:6<=lv (aV K).at_ v:=by omega
    have:7*6<=cN (aV K).st 2 12*lv (aV K).at_ v:=Nat.mul_le_mul h7 h6;omega
  obtain⟨d,V⟩:=ad0 I1.l B1 I1.h I1.free aic (by rw[rU];omega);have I2:=V.inv I1;have hr:=V.room zI h3 of js;refine⟨_,_,vcT (aV K) P v d++[],.move (n:=47) I.b.fb I.b.fi aoD akX (fun o ho=>I.l.ok.eV.lt ho) hv V.hyp (.room (n:=46) I2.b.fb I2.b.fi hr),I2,hr,S1.idle.trans V.idle,fun o ho e=>?_,fun a hs T hT=>?_,fun a hs=>V.sh a (by rw[zv];exact hs),fun J S n j=>S.vac I1 V (S.adm (K:=K) zv en1 sh1.1 sh1.2.1 sh1.2.2.1 sh1.2.2.2 j)⟩
  ·have:=V.tag o ho (by rw[zv];exact e);rw[en1] at this;exact this
  rw[List.append_nil] at hT;exact V.alw (by rw[zv];exact hs) T hT
structure Bd(of:Nat)(D:KS->Int->Nat->Nat)(K1:KS)(P1:CS)(k:Cp)(m:Int):Prop extends A4 of D K1 P1 where
 tr:∀T,T∈P1.vN (K1.fb*8+K1.fi)->AA T k K1.at_ m/\∀a,Ac P1 K1.at_ a->Ac T K1.at_ a
theorem xx{K1:KS}{P1:CS}(B:AN K1 P1)(Hh:Bv K1)(Cn:AM K1.at_ K1.ow)(aaX:P1.calm)(ft:1<=K1.next/\K1.next<1099511627775)(aoE:∀o,o<25->K1.at_ o≠0->∃t D,P1.pg (K1.at_ o-1)=.full t D)(lU:5<=an K1.st 0){of:Nat}(js:of<=24)(hr:aJ K1.fo K1.fi of=true)(D:KS->Int->Nat->Nat):A4 of D K1 P1:=by
 have pZ:=B.fb;have fT:K1.fo=true/\K1.fi<8/\bp K1.fi of=true:=by
  unfold aJ at hr;simp only[Bool.and_eq_true,decide_eq_true_eq] at hr;exact⟨hr.1,hr.2.1,hr.2.2⟩
 obtain⟨fT,hfi,hh⟩:=fT;have yU:K1.st K1.fb=1:=B.fst fT;have ox:P1.pg (K1.fb*8+K1.fi)=.blank:=B.fr fT K1.fi (Nat.le_refl _) hfi;have ais:bp (K1.fb*8+K1.fi) of=true:=by
  unfold bp at hh ⊢;rw[show(K1.fb*8+K1.fi)%8=K1.fi%8 by omega];exact hh
 have hp:K1.fb*8+K1.fi<96:=by omega
 have how:K1.ow (K1.fb*8+K1.fi)=0:=by
  by_cases h:K1.ow (K1.fb*8+K1.fi)=0
  ·exact h
  ·obtain⟨h1,h2⟩:=Cn.o _ hp h;obtain⟨t,D0,a2⟩:=aoE (K1.ow (K1.fb*8+K1.fi)-1) (by omega) (by omega);rw[h2,Nat.add_sub_cancel,ox] at a2
   cases a2
 have rv:(dk K1 of).ok:=by
  unfold dk Tg.ok;refine⟨by simp only;omega,by simp only;omega,by simp only;omega,by simp only;omega,ft.1,by simp only;omega,by simp only;omega,by simp only;omega,fun _=>rfl,fun hn=>?_⟩;unfold bp at ais;simp only at hn ⊢;have:of≠24:=fun e=>hn (by rw[e];rfl);simp[this] at ais;omega
 have sa:∀q,(jr K1 P1 of D).pg q=if q=K1.fb*8+K1.fi then .full (dk K1 of) (cq (D (bS K1) K1.next)) else P1.pg q:=fun q=>acI P1 _ q _ _;obtain⟨c1,c2⟩:=Cn.set (o:=of) (by omega) hp how ais;rw[c2] at c1;have heq:∃ow F calls,cy K1 of={ K1 with next:=K1.next+1,fi:=K1.fi+1,at_:=af K1.at_ of (K1.fb*8+K1.fi+1),ow:=ow,en:=af K1.en of ⟨K1.next,0,false⟩,F:=F,calls:=calls }/\AM (af K1.at_ of (K1.fb*8+K1.fi+1)) ow/\(of≠24->calls=K1.calls)/\(of=24->calls=0)/\Hl.HB F/\∀b,b<12->F (12+b)=0:=by
  have ze:Hl.HB (Hl.qB K1.F ((K1.fb*8+K1.fi)/8)):=Hh.hb.rd (by omega);have hF2:∀b,b<12->Hl.qB K1.F ((K1.fb*8+K1.fi)/8) (12+b)=0:=fun b hb=>by
   unfold Hl.qB Hl.nu;rw[if_neg (by omega)];exact Hh.sc b hb
  unfold cy anK;by_cases h:of=24
  ·rw[if_pos h];refine⟨_,Hl.ntF (Hl.qB K1.F ((K1.fb*8+K1.fi)/8)),0,?_,c1,fun x=>absurd h x,fun _=>rfl,fun b hb=>?_,fun b hb=>?_⟩
   ·unfold stK pG tkK bS;simp only[c2];rfl
   ·have:=ze b hb;unfold Hl.ntF;rw[if_pos (by omega),if_pos (by omega),if_neg (by omega),show 24+b-24=b by omega];exact⟨this.1,this.2.1,this.1⟩
   ·unfold Hl.ntF;rw[if_pos (by omega)];exact hF2 b hb
  ·rw[if_neg h];refine⟨_,Hl.qB K1.F ((K1.fb*8+K1.fi)/8),K1.calls,?_,c1,fun _=>rfl,fun x=>absurd x h,ze,hF2⟩;unfold stK pG tkK bS;simp only[c2];rfl
 obtain⟨ow,F,calls,he,jz,aqn,aqo,hFB,hF0⟩:=heq;refine⟨pZ,B.fi,⟨by omega,by omega⟩,Hh.hb,Cn.mw,aaX,ox,rv,hp,⟨ow,F,calls,he,jz,aqn,aqo⟩,?_,?_,by rw[sa,if_pos rfl],fun q hq=>by rw[sa,if_neg hq],by rw[he];exact lU⟩
 ·rw[he];refine⟨B.st,B.ni,B.fst,fun b i hb e hi=>?_,fun e i h1 h2=>?_,pZ,by show K1.fi+1<=8;omega,B.pn⟩
  ·have e:K1.st b=0:=e;have qk:b≠K1.fb:=fun x=>by rw[x,yU] at e;omega
   rw[sa,if_neg (by omega)];exact B.bl b i hb e hi
  ·have h1:K1.fi+1<=i:=h1;show(jr K1 P1 of D).pg (K1.fb*8+i)=.blank;rw[sa,if_neg (by omega)];exact B.fr fT i (by omega) h2
 ·rw[he];exact⟨hFB,hF0,Hh.cur⟩
theorem uP{K1:KS}{P1:CS}{k:Cp}{m:Int}(I:Inv K1 P1 k m){of:Nat}(js:of<=24)(hr:aJ K1.fo K1.fi of=true)(hm:m<1099511627775)(D:KS->Int->Nat->Nat):Bd of D K1 P1 k m:=by
 have C0:=xx I.b I.h I.l.fh I.l.ok.gd.calm ⟨I.l.next.2.1,by have:=I.l.next.2.2.1;omega⟩ (fun o ho e=>by
  obtain⟨_,t,D0,a2,_⟩:=I.l.cM ho e;exact⟨t,D0,a2⟩) I.free js hr D
 have ox:=C0.blank;refine⟨C0,fun T hT=>?_⟩
 ·have lE:∀o,o<25->K1.at_ o≠0->K1.at_ o-1≠K1.fb*8+K1.fi:=fun o ho e x=>by
   obtain⟨_,t,D0,a2,_⟩:=I.l.cM ho e;rw[x,ox] at a2
   cases a2
  have key:T.calm/\(∀q,q≠K1.fb*8+K1.fi->T.pg q=P1.pg q)/\∀t D0,T.pg (K1.fb*8+K1.fi)≠.full t D0:=by
   have c0:=I.l.ok.gd.calm;have c1:=CS.bY c0 (K1.fb*8+K1.fi) (.cB 1);have c2:=CS.bY c1 (K1.fb*8+K1.fi) (.cB 2);have c3:=CS.bY c2 (K1.fb*8+K1.fi) (.cB 3);unfold CS.vN at hT;simp only[List.mem_cons,List.not_mem_nil,or_false] at hT;rcases hT with rfl|rfl|rfl|rfl
   ·exact⟨c0,fun _ _=>rfl,fun t D0 e=>by rw[ox] at e;cases e⟩
   ·exact⟨c1,fun q hq=>by rw[CS.cJ _ _ hq],fun t D0 e=>by rw[CS.dI] at e;cases e⟩
   ·exact⟨c2,fun q hq=>by rw[CS.cJ _ _ hq,CS.cJ _ _ hq],fun t D0 e=>by rw[CS.dI] at e;cases e⟩
   ·exact⟨c3,fun q hq=>by rw[CS.cJ _ _ hq,CS.cJ _ _ hq,CS.cJ _ _ hq],fun t D0 e=>by rw[CS.dI] at e;cases e⟩
  obtain⟨k1,k2,k3⟩:=key;refine⟨I.l.ok.sub k1 (fun q t D0 hq e=>?_) (fun o ho e=>k2 _ (lE o ho e)),fun a hs=>hs.same (fun o ho e=>k2 _ (lE o ho e))⟩;by_cases hqp:q=K1.fb*8+K1.fi
  ·subst hqp;exact absurd e (k3 t D0)
  ·rw[k2 q hqp] at e;exact e
def gU(a:Nat->Nat->Nat)(s:Nat)(f:Nat->Nat):Nat->Nat->Nat:=fun o=>if o=s then f else a o
structure Dx(K:KS)(P:CS)(k:Cp)(m:Int)(K2:KS)(P2:CS)(k2:Cp)(tr:List CS)(a a2:Nat->Nat->Nat):Prop where
 inv:Inv K2 P2 k2 (m+1)
 tr:∀T,T∈tr->∃k3,AZ T k3 (m+1) a
 sh:Ac P2 K2.at_ a2
 qu:K2.qu=K.qu
 cur:K2.cur=K.cur
section
variable{K1:KS}{P1:CS}{k:Cp}{m:Int}{of:Nat}{D:KS->Int->Nat->Nat}{L':Nat->Nat}
theorem Bd.old(E:Bd of D K1 P1 k m)(I:Inv K1 P1 k m){o:Nat}(ho:o<25)(e:K1.at_ o≠0):K1.at_ o-1≠K1.fb*8+K1.fi:=fun x=>by
 obtain⟨_,t,D0,a2,_⟩:=I.l.cM ho e;rw[x,E.blank] at a2
 cases a2
theorem Bd.en(E:Bd of D K1 P1 k m)(I:Inv K1 P1 k m)(h1:L' of=K1.fb*8+K1.fi+1)(h2:∀o,o<25->o≠of->L' o≠0->L' o=K1.at_ o):∀o,o<25->L' o≠0->∃t D0,(jr K1 P1 of D).pg (L' o-1)=.full t D0/\af K1.en of ⟨K1.next,0,false⟩ o=⟨t.seq,t.copy,false⟩:=fun o ho e=>by
 unfold af;by_cases h:o=of
 ·rw[if_pos h,h,h1,Nat.add_sub_cancel];exact⟨_,_,E.pg,rfl⟩
 ·rw[if_neg h];have h3:=h2 o ho h e;rw[h3] at e ⊢;obtain⟨t,D0,a1,a2⟩:=I.l.en o ho e;rw[E.ne _ (E.old I ho e)];exact⟨t,D0,a1,a2⟩
theorem Bd.room(E:Bd of D K1 P1 k m)(I:Inv K1 P1 k m)(h1:L' of=K1.fb*8+K1.fi+1)(h2:∀o,o<25->o≠of->L' o≠0->L' o=K1.at_ o):5<=an (lv L') 0:=by
 refine zd (st:=(cy K1 of).st) (fun b hb e=>fS.2 fun o ho e1 e2=>?_) E.free;obtain⟨t,D0,a1,_⟩:=E.en I h1 h2 o ho e1;have:=E.b.bl b ((L' o-1)%8) hb e (Nat.mod_lt _ (by omega));rw[show b*8+(L' o-1)%8=L' o-1 by omega,a1] at this
 cases this
end
theorem aa7{K:KS}{s:Int}(hs:0<=s/\s<=1099511627775)(hF:Hl.HB K.F)(hc:K.cur<96)(tC:∀o,o<24->0<=K.fl o/\K.fl o<=1099511627775):(iv K s (-1)).told :=
 ⟨hs,by show(0:Int)<=(K.cur:Nat)/\((K.cur:Nat):Int)<=95;omega,tC,fun j hj=>(hF j hj).1,fun j hj=>(hF j hj).2.1⟩
theorem zg{K:KS}{P:CS}(B:AN K P)(s:Int):∀b,b<12->(iv K s (-1)).bad b=false:=fun b hb=>by
 have:=B.st b hb;show(decide (K.st b=3)||decide ((b:Int) = -1))=false;simp;omega
theorem gI(p:Cp):cq (uC p)=uC p:=by
 funext j;unfold cq;by_cases h:j<174
 ·rw[if_pos h]
 ·rw[if_neg h];unfold uC lI;rw[if_neg (by omega),if_neg (by omega),if_neg (by omega),if_neg (by omega),if_neg (by omega),if_neg (by omega)];rfl
theorem alx{K:KS}{P:CS}{k:Cp}{m:Int}(I:Inv K P k m):∀o,o<24->0<=K.fl o:=fun o ho=>by
 rw[<-I.l.fl o ho];exact(I.l.ok.eV.told.fl o ho).1
theorem akY{K:KS}{P:CS}{k:Cp}{m:Int}(I:Inv K P k m)(hm:m<1099511627775){s:Nat}(hs:s<24){f:Nat->Nat}(hf:∀j,f j<256):∃K1 P1 t1,AO s (dO f) K P K1 P1 t1 /\
  Inv (cy K1 s) (jr K1 P1 s (dO f)) k (m+1)/\(cy K1 s).qu=K.qu/\(∀a,Ac P K.at_ a->(∀T,T∈za K1 P1 t1->AZ T k m a)/\Ac (jr K1 P1 s (dO f)) (cy K1 s).at_ (gU a s f))/\(cy K1 s).next=K.next+1/\(cy K1 s).cur=K.cur/\(cy K1 s).calls=K.calls/\∀J,Bc J->∀n,J n K P->J (n+9) (cy K1 s) (jr K1 P1 s (dO f)):=by
 obtain⟨K1,P1,t1,O⟩:=acO I (of:=s) (by omega);have I1:=O.inv;have E:=uP I1 (of:=s) (by omega) O.room hm (dO f);obtain⟨ow,F,calls,he,jz,hc1,lT⟩:=E.eq;have vw:∀j,dO f (bS K1) K1.next j<256:=fun j=>by
  unfold dO;split
  ·exact hf j
  ·omega
 have iL:cq (dO f (bS K1) K1.next)=dO f (bS K1) K1.next:=by
  funext j;unfold cq dO;by_cases h:j<174
  ·rw[if_pos h]
  ·rw[if_neg h,if_neg (by omega)]
 have bG:=E.pg;rw[iL] at bG;have h1:af K1.at_ s (K1.fb*8+K1.fi+1) s=K1.fb*8+K1.fi+1:=if_pos rfl;have h2:∀o,o<25->o≠s->af K1.at_ s (K1.fb*8+K1.fi+1) o=K1.at_ o:=fun o ho hn=>if_neg hn
 obtain⟨ok,uq⟩:=I1.l.ok.new (P':=jr K1 P1 s (dO f)) (k':=k) (L':=af K1.at_ s (K1.fb*8+K1.fi+1)) (m':=m+1) (p:=K1.fb*8+K1.fi) (o:=s) (t:=dk K1 s) (D:=dO f (bS K1) K1.next) I1.l.uq (CS.mu E.calm _ _ _) E.lt (by omega) rfl
  ⟨E.ok,rfl,rfl,vw,iL⟩ bG E.blank (fun q _ hq=>E.ne q hq) (fun q t' D' hq e=>I1.l.next.1 q t' D' hq e) h1
  (fun _=>⟨rfl,by rw[I1.l.fl s hs];exact I1.l.next.2.2.2 s hs,fun i hi hn=>h2 i hi hn⟩) (fun x=>by omega)
  (E.room I1 h1 (fun o ho hn _=>h2 o ho hn)) ⟨by have:=I1.l.next.2.2.1;show K1.next<m+1;omega,by omega,by have:=I1.l.ok.fl.1;omega,fun i hi=>by have:=I1.l.ok.fl.2 i hi;omega⟩;have ft:=I1.l.next;refine⟨K1,P1,t1,⟨oK I.b,O.op,E.fb,E.fi,O.room,E.next,E.hb,E.mw,E.calm,E.blank,E.ok,vw⟩,⟨?_,E.b,E.h,E.free⟩,by rw[he];exact O.idle.qu,fun a lK=>⟨fun T hT=>?_,fun o j ho hj=>?_⟩,by rw[he];show K1.next+1=_;rw[O.idle.next],by rw[he];exact O.idle.cur,by rw[he];show calls=_;rw[hc1 (by omega)];exact O.idle.calls,fun J S n j=>S.put I1 E.toA4 hs (O.st J S n j)⟩
 ·rw[he];refine⟨ok,uq,E.en I1 h1 (fun o ho hn _=>h2 o ho hn),I1.l.fl,⟨fun q t D0 hq e=>?_,by show 1<=K1.next+1;omega,by show K1.next+1<=m+1;omega,fun o ho=>by have:=ft.2.2.2 o ho;show K1.fl o<K1.next+1;omega⟩,jz⟩;show t.seq<K1.next+1;by_cases zu:q=K1.fb*8+K1.fi
  ·rw[zu,bG] at e;injection e with e1 e2;rw[<-e1];show K1.next<K1.next+1;omega
  ·rw[E.ne q zu] at e;have:=ft.1 q t D0 hq e;omega
 ·rcases List.mem_append.1 hT with hT|hT
  ·exact O.tr a lK T hT
  ·exact⟨K1.at_,(E.tr T hT).1,(E.tr T hT).2 a (O.sh a lK)⟩
 ·rw[he];show arr _ (af K1.at_ s (K1.fb*8+K1.fi+1)) o j=gU a s f o j;unfold arr gU;by_cases jh:o=s
  ·rw[if_pos jh,jh,h1,if_neg (by omega),Nat.add_sub_cancel];unfold bj;rw[bG];show dO f (bS K1) K1.next j=f j;unfold dO;rw[if_pos hj]
  ·rw[if_neg jh,h2 o (by omega) jh];have h3:=O.sh a lK o j ho hj;unfold arr at h3;by_cases e:K1.at_ o=0
   ·rw[if_pos e] at h3 ⊢;exact h3
   ·rw[if_neg e] at h3 ⊢;rw[<-h3];unfold bj;rw[E.ne _ (E.old I1 (by omega) e)]
theorem ait{K:KS}{P:CS}{k:Cp}{m:Int}(I:Inv K P k m)(hm:m<1099511627775):∃K1 P1 t1 k',AO 24 aZ K P K1 P1 t1/\(iv (bS K1) K1.next (-1)).told /\
  Inv (cy K1 24) (jr K1 P1 24 aZ) k' (m+1)/\(cy K1 24).qu=K.qu/\(∀a,Ac P K.at_ a->(∀T,T∈za K1 P1 t1->AZ T k m a)/\Ac (jr K1 P1 24 aZ) (cy K1 24).at_ a)/\(cy K1 24).next=K.next+1/\(cy K1 24).cur=K.cur/\(cy K1 24).calls=0/\∀J,Bc J->∀n,J n K P->J (n+9) (cy K1 24) (jr K1 P1 24 aZ):=by
 obtain⟨K1,P1,t1,O⟩:=acO I (of:=24) (by omega);have I1:=O.inv;have E:=uP I1 (of:=24) (by omega) O.room hm aZ;obtain⟨ow,F,calls,he,jz,hc1,lT⟩:=E.eq;have ft:=I1.l.next;have kn:(iv (bS K1) K1.next (-1)).told:=aa7 (by omega) I1.h.hb I1.h.cur (fun o ho=>⟨alx I1 o ho,by have:=ft.2.2.2 o ho;show K1.fl o<=_;omega⟩);have cL:=zg (K:=bS K1) (P:=P1) ⟨I1.b.st,I1.b.ni,I1.b.fst,I1.b.bl,I1.b.fr,I1.b.fb,I1.b.fi,I1.b.pn⟩ K1.next;have vw:∀j,aZ (bS K1) K1.next j<256:=fun j=>iX _ j;have iL:cq (aZ (bS K1) K1.next)=aZ (bS K1) K1.next:=gI _;have bG:=E.pg;rw[iL] at bG;have h1:af K1.at_ 24 (K1.fb*8+K1.fi+1) 24=K1.fb*8+K1.fi+1:=if_pos rfl;have h2:∀o,o<25->o≠24->af K1.at_ 24 (K1.fb*8+K1.fi+1) o=K1.at_ o:=fun o ho hn=>if_neg hn
 obtain⟨ok,uq⟩:=I1.l.ok.new (P':=jr K1 P1 24 aZ) (k':=iv (bS K1) K1.next (-1)) (L':=af K1.at_ 24 (K1.fb*8+K1.fi+1)) (m':=m+1) (p:=K1.fb*8+K1.fi) (o:=24) (t:=dk K1 24) (D:=aZ (bS K1) K1.next) I1.l.uq (CS.mu E.calm _ _ _) E.lt (by omega) rfl
  ⟨E.ok,rfl,rfl,vw,iL⟩ bG E.blank (fun q _ hq=>E.ne q hq) (fun q t' D' hq e=>I1.l.next.1 q t' D' hq e) h1
  (fun x=>by omega) (fun _=>⟨rfl,kn,cL,I1.h.sc,fun i hi=>.inl ⟨h2 i (by omega) (by omega),(I1.l.fl i hi).symm⟩⟩)
  (E.room I1 h1 (fun o ho hn _=>h2 o ho hn)) ⟨by show K1.next<m+1;omega,by omega,by show K1.next<m+1;omega,fun i hi=>by have:=ft.2.2.2 i hi;show K1.fl i<m+1;omega⟩;refine⟨K1,P1,t1,iv (bS K1) K1.next (-1),⟨oK I.b,O.op,E.fb,E.fi,O.room,E.next,E.hb,E.mw,E.calm,E.blank,E.ok,vw⟩,kn,⟨?_,E.b,E.h,E.free⟩,by rw[he];exact O.idle.qu,fun a lK=>⟨fun T hT=>?_,fun o j ho hj=>?_⟩,by rw[he];show K1.next+1=_;rw[O.idle.next],by rw[he];exact O.idle.cur,by rw[he];exact lT rfl,fun J S n j=>S.note I1 E.toA4 kn (O.st J S n j)⟩
 ·rw[he];refine⟨ok,uq,E.en I1 h1 (fun o ho hn _=>h2 o ho hn),fun o ho=>rfl,⟨fun q t D0 hq e=>?_,by show 1<=K1.next+1;omega,by show K1.next+1<=m+1;omega,fun o ho=>by have:=ft.2.2.2 o ho;show K1.fl o<K1.next+1;omega⟩,jz⟩;show t.seq<K1.next+1;by_cases zu:q=K1.fb*8+K1.fi
  ·rw[zu,bG] at e;injection e with e1 e2;rw[<-e1];show K1.next<K1.next+1;omega
  ·rw[E.ne q zu] at e;have:=ft.1 q t D0 hq e;omega
 ·rcases List.mem_append.1 hT with hT|hT
  ·exact O.tr a lK T hT
  ·exact⟨K1.at_,(E.tr T hT).1,(E.tr T hT).2 a (O.sh a lK)⟩
 ·rw[he];show arr _ (af K1.at_ 24 (K1.fb*8+K1.fi+1)) o j=a o j;rw[<-O.sh a lK o j ho hj];unfold arr;rw[h2 o (by omega) (by omega)];by_cases e:K1.at_ o=0
  ·rw[if_pos e,if_pos e]
  ·rw[if_neg e,if_neg e];unfold bj;rw[E.ne _ (E.old I1 (by omega) e)]
theorem aiu{K:KS}{P:CS}{k:Cp}{m:Int}(I:Inv K P k m)(hm:m<1099511627775){s:Nat}(hs:s<24)(h0:K.at_ s≠0):∃K1 P1 t1 k',AO 24 (dp s (K.en s).seq) K P K1 P1 t1/\(vQ (bS K1) s (K.en s).seq K1.next).told/\(cy K1 24).at_ s≠0/\(cy K1 24).at_ s<=96 /\
  Inv (zf (sH (cy K1 24) s (K.en s).seq) s) (jr K1 P1 24 (dp s (K.en s).seq)) k' (m+1)/\(zf (sH (cy K1 24) s (K.en s).seq) s).qu=K.qu/\(∀a,Ac P K.at_ a->(∀T,T∈za K1 P1 t1->AZ T k m a)/\Ac (jr K1 P1 24 (dp s (K.en s).seq)) (zf (sH (cy K1 24) s (K.en s).seq) s).at_ (gU a s (fun _=>0))) /\
  (zf (sH (cy K1 24) s (K.en s).seq) s).next=K.next+1/\(zf (sH (cy K1 24) s (K.en s).seq) s).cur=K.cur/\(zf (sH (cy K1 24) s (K.en s).seq) s).calls=0/\∀J,Bc J->∀n,J n K P->J (n+9) (zf (sH (cy K1 24) s (K.en s).seq) s) (jr K1 P1 24 (dp s (K.en s).seq)):=by
 obtain⟨K1,P1,t1,O⟩:=acO I (of:=24) (by omega);have I1:=O.inv;have E:=uP I1 (of:=24) (by omega) O.room hm (dp s (K.en s).seq);obtain⟨ow,F,calls,he,jz,hc1,lT⟩:=E.eq;have ft:=I1.l.next
 -- the number's cM, as it lay and as it lies
 have h0':K1.at_ s≠0/\(K1.en s).seq=(K.en s).seq:=O.tag s (by omega) h0;obtain⟨h01,hsq⟩:=h0';obtain⟨hp1,t0,D0,a2,a3,a4,a5,a6,a7,a8⟩:=I1.l.cM (o:=s) (by omega) h01;have pk:(K.en s).seq=t0.seq:=by rw[<-hsq,a3]
 rw[pk] at E ⊢;have ht5:=a5;unfold Tg.ok at ht5;have are:=ft.1 _ t0 D0 hp1 a2;have kn:(vQ (bS K1) s t0.seq K1.next).told:=by
  refine⟨by show 0<=K1.next/\K1.next<=_;omega,by show(0:Int)<=(K1.cur:Nat)/\((K1.cur:Nat):Int)<=95;have:=I1.h.cur;omega,fun o ho=>?_,fun j hj=>(I1.h.hb j hj).1,fun j hj=>(I1.h.hb j hj).2.1⟩;show 0<=af K1.fl s t0.seq o/\af K1.fl s t0.seq o<=_;unfold af;split
  ·omega
  ·have:=alx I1 o ho;have:=ft.2.2.2 o ho;omega
 have cL:∀b,b<12->(vQ (bS K1) s t0.seq K1.next).bad b=false:=zg (K:=bS K1) (P:=P1) ⟨I1.b.st,I1.b.ni,I1.b.fst,I1.b.bl,I1.b.fr,I1.b.fb,I1.b.fi,I1.b.pn⟩ K1.next;have vw:∀j,dp s t0.seq (bS K1) K1.next j<256:=fun j=>iX _ j;have iL:cq (dp s t0.seq (bS K1) K1.next)=dp s t0.seq (bS K1) K1.next:=gI _;have bG:=E.pg;rw[iL] at bG;have hL:∃L':Nat->Nat,L'=af (af K1.at_ 24 (K1.fb*8+K1.fi+1)) s 0:=⟨_,rfl⟩;obtain⟨L',hL⟩:=hL;have h1:L' 24=K1.fb*8+K1.fi+1:=by
  rw[hL];unfold af;rw[if_neg (by omega),if_pos rfl]
 have h2:∀o,o<25->o≠24->L' o≠0->L' o=K1.at_ o:=fun o ho hn e=>by
  rw[hL] at e ⊢;unfold af at e ⊢;by_cases jh:o=s
  ·rw[if_pos jh] at e;exact absurd rfl e
  ·rw[if_neg jh,if_neg hn]
 have h3:L' s=0:=by rw[hL];exact if_pos rfl
 have h4:∀o,o<24->o≠s->L' o=K1.at_ o:=fun o ho hn=>by
  rw[hL];unfold af;rw[if_neg hn,if_neg (by omega)]
 obtain⟨ok,uq⟩:=I1.l.ok.new (P':=jr K1 P1 24 (dp s t0.seq)) (k':=vQ (bS K1) s t0.seq K1.next) (L':=L') (m':=m+1) (p:=K1.fb*8+K1.fi) (o:=24) (t:=dk K1 24) (D:=dp s t0.seq (bS K1) K1.next) I1.l.uq (CS.mu E.calm _ _ _) E.lt (by omega) rfl
  ⟨E.ok,rfl,rfl,vw,iL⟩ bG E.blank (fun q _ hq=>E.ne q hq) (fun q t' D' hq e=>I1.l.next.1 q t' D' hq e) h1
  (fun x=>by omega) (fun _=>⟨rfl,kn,cL,I1.h.sc,fun i hi=>by
   by_cases his:i=s
   ·subst his;exact .inr ⟨h3,h01,t0,D0,a2,if_pos rfl⟩
   ·exact .inl ⟨h4 i hi his,(if_neg his).trans (I1.l.fl i hi).symm⟩⟩)
  (E.room I1 h1 h2) ⟨by show K1.next<m+1;omega,by omega,by show K1.next<m+1;omega,fun i hi=>by
   show af K1.fl s t0.seq i<m+1;unfold af;split
   ·omega
   ·have:=ft.2.2.2 i hi;omega⟩
 have dC:(cy K1 24).at_ s=K1.at_ s:=by
  rw[he];show af K1.at_ 24 _ s=_;exact if_neg (by omega)
 have hle:=I1.l.ok.eV.lt (o:=s) (by omega);refine⟨K1,P1,t1,vQ (bS K1) s t0.seq K1.next,⟨oK I.b,O.op,E.fb,E.fi,O.room,E.next,E.hb,E.mw,E.calm,E.blank,E.ok,vw⟩,kn,by rw[dC];exact h01,by rw[dC];exact hle,⟨?_,?_,?_,E.free⟩,by rw[he];exact O.idle.qu,fun a lK=>⟨fun T hT=>?_,fun o j ho hj=>?_⟩,by rw[he];show K1.next+1=_;rw[O.idle.next],by rw[he];exact O.idle.cur,by rw[he];exact lT rfl,fun J S n j=>S.trim I1 E.toA4 kn hs (O.st J S n j)⟩
 ·have hen:=E.en I1 h1 h2
  have hcd:=jz.drop (o:=s) (by omega) (by
   show af K1.at_ 24 _ s≠0;rw[show af K1.at_ 24 (K1.fb*8+K1.fi+1) s=K1.at_ s from if_neg (by omega)];exact h01)
  rw[he];unfold zf sH;simp only;rw[<-hL] at hcd ⊢;refine⟨ok,uq,hen,fun o ho=>rfl,⟨fun q t D1 hq e=>?_,by show 1<=K1.next+1;omega,by show K1.next+1<=m+1;omega,fun o ho=>?_⟩,hcd⟩
  ·show t.seq<K1.next+1;by_cases zu:q=K1.fb*8+K1.fi
   ·rw[zu,bG] at e;injection e with e1 e2;rw[<-e1];show K1.next<K1.next+1;omega
   ·rw[E.ne q zu] at e;have:=ft.1 q t D1 hq e;omega
  ·show af K1.fl s t0.seq o<K1.next+1;unfold af;split
   ·omega
   ·have:=ft.2.2.2 o ho;omega
 ·have B:=E.b;exact⟨B.st,B.ni,B.fst,B.bl,B.fr,B.fb,B.fi,B.pn⟩
 ·have B:=E.h;exact⟨B.hb,B.sc,B.cur⟩
 ·rcases List.mem_append.1 hT with hT|hT
  ·exact O.tr a lK T hT
  ·exact⟨K1.at_,(E.tr T hT).1,(E.tr T hT).2 a (O.sh a lK)⟩
 ·rw[he];unfold zf sH;simp only;rw[<-hL];unfold arr gU;by_cases jh:o=s
  ·rw[if_pos jh,jh,h3,if_pos rfl]
  ·rw[if_neg jh,h4 o ho jh];have h5:=O.sh a lK o j ho hj;unfold arr at h5;by_cases e:K1.at_ o=0
   ·rw[if_pos e] at h5 ⊢;exact h5
   ·rw[if_neg e] at h5 ⊢;rw[<-h5];unfold bj;rw[E.ne _ (E.old I1 (by omega) e)]
end
section
open Go.RowKit
theorem AA.mono{P:CS}{k:Cp}{L:Nat->Nat}{m m':Int}(h:AA P k L m)(hm:m<=m'):AA P k L m' :=
 ⟨h.gd,h.eV,h.room,h.tw,fun p t D hp e=>by have:=h.sq p t D hp e;omega,by have:=h.fl.1;omega,fun o ho=>by have:=h.fl.2 o ho;omega⟩
def Tl(T:CS)(m:Int)(a:Nat->Nat->Nat):Prop:=∃k L,AA T k L m/\Ac T L a
theorem AZ.tl{T:CS}{k:Cp}{m m':Int}{a:Nat->Nat->Nat}(h:AZ T k m a)(hm:m<=m'):Tl T m' a:=by
 obtain⟨L,h1,h2⟩:=h;exact⟨k,L,h1.mono hm,h2⟩
theorem Tl.mono{T:CS}{m m':Int}{a:Nat->Nat->Nat}(h:Tl T m a)(hm:m<=m'):Tl T m' a:=by
 obtain⟨k,L,h1,h2⟩:=h;exact⟨k,L,h1.mono hm,h2⟩
theorem Inv.mono{K:KS}{P:CS}{k:Cp}{m m':Int}(I:Inv K P k m)(hm:m<=m'):Inv K P k m' :=
 ⟨⟨I.l.ok.mono hm,I.l.uq,I.l.en,I.l.fl,⟨I.l.next.1,I.l.next.2.1,by have:=I.l.next.2.2.1;omega,I.l.next.2.2.2⟩,I.l.fh⟩,I.b,I.h,I.free⟩
theorem Inv.same{K K':KS}{P P':CS}{k:Cp}{m:Int}(I:Inv K P k m)(bG:P'.pg=P.pg)(hc:P'.calm)(hF:Hl.HB K'.F)(hF0:∀b,b<12->K'.F (12+b)=0)(ue:K'.cur<96)
  (e:K'={ K with F:=K'.F,cur:=K'.cur,calls:=K'.calls,qu:=K'.qu,fq:=K'.fq,jX:=K'.jX }):Inv K' P' k m:=by
 have ok:AA P' k K.at_ m:=I.l.ok.sub hc (fun q t D _ h=>by rw[<-bG];exact h) (fun o _ _=>by rw[bG]);have H:Bv K':=⟨hF,hF0,ue⟩;rw[e] at H ⊢
 exact⟨⟨ok,fun p q t t' D D' hp hq h1 h2=>by rw[bG] at h1 h2;exact I.l.uq p q t t' D D' hp hq h1 h2,fun o ho h=>by rw[bG];exact I.l.en o ho h,I.l.fl,⟨fun p t D hp h=>by rw[bG] at h;exact I.l.next.1 p t D hp h,I.l.next.2⟩,I.l.fh⟩,
  ⟨I.b.st,I.b.ni,I.b.fst,fun b i hb h hi=>by rw[bG];exact I.b.bl b i hb h hi,fun h i h1 h2=>by rw[bG];exact I.b.fr h i h1 h2,I.b.fb,I.b.fi,I.b.pn⟩,H,I.free⟩
theorem ad2{F:Nat->Int}{x:Nat}(hx:x<12)(h:∀b,b<12->F (12+b)=0):∀b,b<12->Hl.qB F x (12+b)=0:=fun b hb=>by
 unfold Hl.qB Hl.nu;rw[if_neg (by omega)];exact h b hb
theorem Inv.read{K:KS}{P:CS}{k:Cp}{m:Int}(I:Inv K P k m){p:Nat}(hp:p<96):Inv (pG K p) (P.bL p) k m :=
 I.same rfl (CS.gu I.l.ok.gd.calm p) (I.h.hb.rd (by omega)) (ad2 (by omega) I.h.sc) I.h.cur rfl
theorem Inv.td{K:KS}{P:CS}{k:Cp}{m:Int}(I:Inv K P k m):∀i,Inv (iw K i) (qK K P i) k m
 |0=>I.same (K':=ptK K) rfl I.l.ok.gd.calm I.h.hb I.h.sc (Nat.mod_lt _ (by omega)) rfl
 | i+1=>by
  rw[uK,uL];exact(Inv.td I i).read (Nat.mod_lt _ (by omega))
theorem Inv.pop{K:KS}{P:CS}{k:Cp}{m:Int}(I:Inv K P k m)(q:List Nat):Inv (dA K q) P k m:=I.same rfl I.l.ok.gd.calm I.h.hb I.h.sc I.h.cur rfl
theorem Inv.md{K:KS}{P:CS}{k:Cp}{m:Int}(I:Inv K P k m)(x:Nat):Inv (mdK K x) P k m:=I.same rfl I.l.ok.gd.calm I.h.hb I.h.sc I.h.cur rfl
theorem Inv.ana{K:KS}{P:CS}{k:Cp}{m:Int}(I:Inv K P k m):Cj K P:=fun p hp=>by
 refine⟨I.l.fh.mw.lo p hp,fun h=>?_⟩;obtain⟨h1,h2⟩:=I.l.fh.o p hp h;obtain⟨_,t,D,a2,_⟩:=I.l.cM (o:=K.ow p-1) (by omega) (by omega);rw[h2,Nat.add_sub_cancel] at a2;exact⟨t,D,a2,by rw[I.l.ok.gd.calm.d];omega⟩
theorem Inv.zh{K:KS}{P:CS}{k:Cp}{m:Int}(I:Inv K P k m):Hl.HB K.F/\K.cur<96/\(∀o,o<25->K.at_ o<=96)/\Cj K P:=⟨I.h.hb,I.h.cur,fun o ho=>I.l.ok.eV.lt ho,I.ana⟩
theorem qM{k:Cp}{m:Int}:∀(q:List Nat) (K:KS) (P:CS),K.qu=q->q.length<=13->(∀x,x∈q->x<12)->Inv K P k m->∃K' P' tr,AR K P K' P' tr/\Inv K' P' k m/\K'.qu=[]/\K'.next=K.next/\K'.cur=K.cur/\K'.calls=K.calls/\(∀J,Bc J->∀n,J n K P->J (n+8*q.length) K' P')/\∀a,Ac P K.at_ a->(∀T,T∈tr->AZ T k m a)/\Ac P' K'.at_ a
 | [],K,P,hq,_,_,I=>⟨K,P,[],.done hq,I,hq,rfl,rfl,rfl,fun J S n j=>S.mono (by simp) j,fun a h=>⟨(fun _ h=>nomatch h),h⟩⟩
 | v::q,K,P,hq,hl,hx,I=>by
  have hv:=hx v (List.mem_cons_self ..);have hx':∀x,x∈q->x<12:=fun x h=>hx x (List.mem_cons_of_mem _ h);have hl':q.length<=12:=by simp at hl;omega
  have I1:=I.pop q;by_cases h0:lv K.at_ v=0
  ·obtain⟨K',P',tr,a1,a2,a3,a4,a5,a6,a8,a7⟩:=qM q (dA K q) P rfl (by omega) hx' I1;exact⟨K',P',tr,.skip hq hv hl' (fun o ho=>I.l.ok.eV.lt ho) h0 a1,a2,a3,a4,a5,a6,fun J S n j=>S.mono (by rw[List.length_cons];omega) (a8 J S n (S.adm (K:=K) rfl rfl rfl rfl rfl rfl j)),a7⟩
  ·have bt:(dA K q).st v≠0:=fun e=>h0 (I.l.ok.eV.dead (fun i hi=>I.b.bl v i hv e hi));obtain⟨d,V⟩:=ad0 I1.l I1.b I1.h I1.free hv bt;have I2:=(V.inv I1).md (lv K.at_ v);have p7:(nA (dA K q) P v d).qu=q:=V.idle.qu;obtain⟨K',P',tr,a1,a2,a3,a4,a5,a6,a8,a7⟩:=qM q (mdK (nA (dA K q) P v d) (lv K.at_ v)) (vq (dA K q) P v d) p7 (by omega) hx' I2;refine⟨K',P',vcT (dA K q) P v d++tr,.move hq hv hl' (fun o ho=>I.l.ok.eV.lt ho) h0 (oK I.b) (by rw[I.h.sc v hv];omega) V.hyp p7 a1,a2,a3,a4.trans V.idle.next,a5.trans V.idle.cur,a6.trans V.idle.calls,fun J S n j=>S.mono (by rw[List.length_cons];omega) (a8 J S (n+8) (S.adm (K:=nA (dA K q) P v d) rfl rfl rfl rfl rfl rfl (S.vac I1 V (S.adm (K:=K) rfl rfl rfl rfl rfl rfl j)))),fun a hs=>?_⟩;obtain⟨b1,b2⟩:=a7 a (V.sh a hs);refine⟨fun T hT=>?_,b2⟩;rcases List.mem_append.1 hT with hT|hT
   ·exact V.alw hs T hT
   ·exact b1 T hT
theorem xy(K:KS):∀b,b<=12->∀x,x∈cF K [] b->x<12
 |0,_,x,h=>nomatch h
 | b+1,hb,x,h=>by
  have ih:=xy K b (by omega) x;rw[ju] at h;unfold rZ at h;split at h
  ·split at h
   ·exact ih h
   ·rcases List.mem_append.1 h with h|h
    ·exact ih h
    ·rw[List.mem_singleton.1 h];omega
  ·exact ih h
theorem Bc.td{J:Nat->KS->CS->Prop}(S:Bc J){n:Nat}{K:KS}{P:CS}(h0:0<=K.calls)(h8:K.calls<8)(j:J n K P):∀i,J (n+i) (iw K i) (qK K P i)
 |0=>S.pt h0 h8 j
 | i+1=>by
  rw[uK,uL];exact S.rd (Nat.mod_lt _ (by omega)) (S.td h0 h8 j i)
theorem anb{x:Int}(h0 : -9223372036854775808<=x)(h1:x<=9223372036854775807):iz x=x:=by
 unfold iz;simp[IntKind.wrap,IntKind.signed,IntKind.bits];omega
theorem anc(F:Nat->Int):Hl.kU (Hl.ntF F)=false:=by
 unfold Hl.kU;rw[List.any_eq_false];intro b hb;have hb:=List.mem_range.1 hb;unfold Hl.ntF;rw[if_pos (by omega),if_neg (by omega),show 24+b-24=b by omega];simp
attribute [local irreducible] iw qK cF
theorem uQ{K:KS}{P:CS}{k:Cp}{m:Int}(I:Inv K P k m)(hm:m<1099511627775):∃K' P' tr k',Av K P K' P' tr/\Inv K' P' k' (m+1)/\K'.qu=[]/\K.next<=K'.next/\(0<=K.calls->K.calls<8->(0<=K'.calls/\K'.calls<8/\Hl.kU K'.F=false)/\∀J,Bc J->∀n,J n K P->J (n+113) K' P')/\∀a,Ac P K.at_ a->(∀T,T∈tr->Tl T (m+1) a)/\Ac P' K'.at_ a:=by
 have I8:=(I.td 8).pop (cF (iw K 8) [] 12);have dC:(iw K 8).at_=K.at_:=by
  obtain⟨F,e⟩:=km K 8;rw[e];rfl
 have ft:(iw K 8).next=K.next:=by
  obtain⟨F,e⟩:=km K 8;rw[e];rfl
 have hs8:∀a,Ac P K.at_ a->Ac (qK K P 8) (tqK K).at_ a:=fun a hs=>by
  show Ac (qK K P 8) (iw K 8).at_ a;rw[dC];exact hs.same (fun o _ _=>by rw[(uM K P 8).1])
 obtain⟨K1,P1,t1,T1,I1,q1,n1,c1,ca1,z1,s1⟩:=qM (k:=k) (m:=m) (cF (iw K 8) [] 12) (tqK K) (qK K P 8) rfl (by have:=ll (iw K 8) 12;omega) (xy _ 12 (by omega)) I8;have n1:K1.next=K.next:=n1.trans ft;have hcl:(iw K 8).calls=iz (K.calls+1):=by
  obtain⟨F,e⟩:=km K 8;rw[e];rfl
 have aqp:K1.calls=iz (K.calls+1):=ca1.trans hcl;have hz:0<=K.calls->K.calls<8->∀J,Bc J->∀n,J n K P->J (n+104) K1 P1:=fun h0 h8 J S n j=>by
  have j8:=S.td h0 h8 j 8;have hl:=ll (iw K 8) 12;exact S.mono (by omega) (z1 J S (n+8) (S.adm (K:=iw K 8) rfl rfl rfl rfl rfl rfl j8))
 by_cases hd:8<=K1.calls\/Hl.kU K1.F=true
 ·obtain⟨K2,P2,t2,k',L2,w2,I2,q2,s2,n2,_,c2,z2⟩:=ait I1 hm;refine⟨_,_,_,k',.note T1 (oK I1.b) I1.h.hb hd L2 w2,I2,q2.trans q1,by rw[n2];omega,fun h0 h8=>⟨⟨by rw[c2];omega,by rw[c2];omega,anc _⟩,fun J S n j=>z2 J S (n+104) (hz h0 h8 J S n j)⟩,fun a hs=>?_⟩;obtain⟨b1,b2⟩:=s1 a (hs8 a hs);obtain⟨d1,d2⟩:=s2 a b2;refine⟨fun T hT=>?_,d2⟩;rcases List.mem_append.1 hT with hT|hT
  ·exact(b1 T hT).tl (by omega)
  ·exact(d1 T hT).tl (by omega)
 ·have h1:K1.calls<8:=by omega
  have h2:Hl.kU K1.F=false:=by
   cases h:Hl.kU K1.F
   ·rfl
   ·exact absurd (.inr h) hd
  refine⟨_,_,_,k,.quiet T1 (oK I1.b) I1.h.hb h1 h2,I1.mono (by omega),q1,by omega,fun h0 h8=>⟨⟨by rw[aqp,anb (by omega) (by omega)];omega,h1,h2⟩,fun J S n j=>S.mono (by omega) (hz h0 h8 J S n j)⟩,fun a hs=>?_⟩;obtain⟨b1,b2⟩:=s1 a (hs8 a hs);exact⟨fun T hT=>(b1 T hT).tl (by omega),b2⟩
end
section
open Go.RowKit
def pL(o p:Int)(s:En)(f:Fd):En:=if f.place=p/\f.of=o/\s.seq<=f.seq then ⟨f.seq,f.copy,f.lost⟩ else s
def ko(L:List Fd)(o p:Int):En:=L.foldl (pL o p) En.zero
theorem qN(L:List Fd)(o p:Int)(f:Fd):ko (L++[f]) o p=pL o p (ko L o p) f:=by
 unfold ko;rw[List.foldl_append];rfl
theorem aa8(A:Option Addr)(c:Nat)(L:List Fd)(o p:Int)(w:World)(hr:Rd w A (L.length*6) (jn L))(hn:L.length*48<=140737488351232) :
  Spec Tryz.prog 132 #[.slice A L.length c,.int .i64 o,.int .i64 p] w fun v w'=>v=agg 3 (ko L o p).cell/\Aa [] w w':=by
 refine spec_of_wpE (T:=tt) ah func132 rfl (by decide +kernel) ntmps132 (by simp) ?_;conv=>whnf
 refine Ru.aF (kh w) ?_;intro g6 w1 hg6 du r6 k1;conv=>whnf
 refine Ru.aF (kh w1) ?_;intro g7 w2 hg7 fE r7 k2;have r6:=r6.ab k2 (by simp);conv=>whnf
 repeat (refine CW.s ?_;conv=>whnf)
 refine CW.loop (ι:=Nat×En) (fun i wr=>i.1<=L.length/\ko (L.take i.1) o p=i.2/\Row wr g6 140 3 En.zero.cell/\Row wr g7 140 3 i.2.cell/\Aa [] w wr)
  (fun i=>[(1,.int .i64 o),(2,.int .i64 p),(6,.pointer (some ⟨g6,0,none⟩)),(7,.pointer (some ⟨g7,0,none⟩)),(10,.slice A L.length c),(11,.int .i64 L.length),(12,.int .i64 i.1)]) (fun i=>L.length-i.1) (0,En.zero) ah ⟨by simp,rfl,r6,r7,k1.trans k2⟩ ⟨rfl,rfl,rfl,rfl,rfl,rfl,rfl,trivial⟩ ?_;rintro⟨k,e⟩ wr ⟨hk,bt,r6,r7,kk⟩;simp only at hk bt r7;have arf:=r7.lt;have amF:=r6.lt;by_cases av:k<L.length
 ·obtain⟨b,oo,rfl,hc⟩:=ml (hr.aj kk) k av;have ky:=jS av;generalize L.getD k Fd.zero=f at *;conv=>whnf
  repeat ((first|refine Ix.n ?_|refine Br.y ?_|refine CW.s ?_);conv=>whnf)
  refine Ru.aaE hc ?_;conv=>whnf
  refine Ru.fO ?_;intro g9 w3 hg9 gG r9 k3;conv=>whnf
  refine Ru.tU r9 ?_;intro w4 r9 k4;have q4:Aa [] wr w4:=k3.then k4 (fun x hx=>.inr (by rw[List.mem_singleton.1 hx,hg9];exact Nat.le_refl _));have r7:=r7.ab q4 (by simp);have r6:=r6.ab q4 (by simp);have kk:=kk.trans q4;have yU:ko (L.take (k+1)) o p=pL o p e f:=by rw[ky,qN,bt]
  have d76:g7≠g6:=by omega
  have c0:w4.cell? ⟨g9,0,none⟩=some (.int .i64 f.place):=r9.cell 0 (by omega);have c2:w4.cell? ⟨g9,2,none⟩=some (.int .i64 f.of):=r9.cell 2 (by omega);have c3:w4.cell? ⟨g9,3,none⟩=some (.int .i64 f.seq):=r9.cell 3 (by omega);have c4:w4.cell? ⟨g9,4,none⟩=some (.int .i64 f.copy):=r9.cell 4 (by omega);have c5:w4.cell? ⟨g9,5,none⟩=some (.bool f.lost):=r9.cell 5 (by omega);have s0:w4.cell? ⟨g7,0,none⟩=some (.int .i64 e.seq):=r7.cell 0 (by omega);by_cases h1:f.place=p/\f.of=o/\e.seq<=f.seq
  ·have hh:pL o p e f=⟨f.seq,f.copy,f.lost⟩:=if_pos h1;obtain⟨rfl,rfl,h3⟩:=h1;conv=>whnf
   repeat ((first|(refine Ld.at (by omega) c0 ?_)|(refine Ld.at (by omega) c2 ?_)|(refine Ld.at (by omega) c3 ?_)|(refine Ld.at (by omega) c4 ?_)|(refine Ld.at (by omega) c5 ?_)|(refine Ld.at (by omega) s0 ?_)|refine Br.t ?_|refine Pk.t ?_|refine Br.y ?_);conv=>whnf)
   refine Ru.of (aaV _ _ _ _) ?_;rw[ahY ⟨f.seq,f.copy,f.lost⟩];conv=>whnf
   refine Ru.gY r7 dK (by omega) (fun j hj=>En.bH _) ?_;intro w5 r75 k5;have r75:Row w5 g7 140 3 (⟨f.seq,f.copy,f.lost⟩:En).cell:=r75.congr (fun j hj=>by unfold lay;rw[if_pos (by omega),Nat.sub_zero]);conv=>whnf
   repeat (refine Ar.la ?_;conv=>whnf)
   exact⟨(k+1,_),⟨av,yU.trans hh,r6.ab k5 (by simpa using d76.symm),r75,kk.then k5 (fun x hx=>.inr (by rw[List.mem_singleton.1 hx];have:=k1.size;omega))⟩,⟨rfl,rfl,rfl,rfl,rfl,rfl,rfl,trivial⟩,by simp only;omega⟩
  ·have hh:pL o p e f=e:=if_neg h1;conv=>whnf
   repeat' ((first|(refine Ld.at (by omega) c0 ?_)|(refine Ld.at (by omega) c2 ?_)|(refine Ld.at (by omega) c3 ?_)|(refine Ld.at (by omega) s0 ?_)|refine Br.t ?_|refine Br.f ?_|refine Pk.f ?_|refine Pk.t ?_|refine Ar.la ?_|refine Br.n ?_|refine Br.d (fun _=>?_) (fun _=>?_))<;>conv=>whnf)
   all_goals
    first
     |exact⟨(k+1,e),⟨av,yU.trans hh,r6,r7,kk⟩,⟨rfl,rfl,rfl,rfl,rfl,rfl,rfl,trivial⟩,by simp only;omega⟩
     |(exfalso;simp_all;done)
     |(exfalso;apply h1;refine⟨by omega,by omega,by omega⟩)
 ·obtain rfl:k=L.length:=by omega
  rw[List.take_length] at bt;conv=>whnf
  repeat ((first|refine Br.n ?_|refine CW.s ?_);conv=>whnf)
  refine Ru.cG (q:=e.cell) r7 underlying140 rfl dK (by omega) (fun j hj=>by rw[Nat.zero_add]) ?_;conv=>whnf
  refine Ru.gY r6 dK (by omega) (fun j hj=>En.bH _) ?_;intro w5 qx k5;conv=>whnf
  refine Ru.cG (q:=e.cell) qx underlying140 rfl dK (by omega) (fun j hj=>by unfold lay;rw[if_pos (by omega)];rw[Nat.zero_add,Nat.sub_zero]) ?_;conv=>whnf
  exact⟨rfl,by rw[bt];rfl,kk.then k5 (fun x hx=>.inr (by rw[List.mem_singleton.1 hx];have:=k1.size;omega))⟩
section
variable{w w':World}{N:Cr}{K:KS}{X:Option Addr}{c:Nat}{P:CS}{b:Option Nat}{n:Int}
def rdN(F:Nat->Int)(b:Nat):Nat->Nat->Int
 |0=>F
 |k+1=>Hl.qB (rdN F b k) b
def zi(F:Nat->Int):Nat->Nat->Int
 |0=>F
 |b+1=>rdN (zi F b) b 8
theorem acP{F:Nat->Int}(h:Hl.HB F){b:Nat}(hb:b<12):∀k,Hl.HB (rdN F b k)
 |0=>h
 |k+1=>(acP h hb k).rd hb
theorem zj{F:Nat->Int}(h:Hl.HB F):∀b,b<=12->Hl.HB (zi F b)
 |0,_=>h
 |b+1,hb=>acP (zj h b (by omega)) (by omega) 8
theorem aiv(F:Nat->Int):zi F 0=F:=rfl
theorem aiw(F:Nat->Int)(b:Nat):zi F (b+1)=rdN (zi F b) b 8:=rfl
theorem aix(F:Nat->Int)(b:Nat):rdN F b 0=F:=rfl
theorem aiy(F:Nat->Int)(b k:Nat):rdN F b (k+1)=Hl.qB (rdN F b k) b:=rfl
attribute [local irreducible] rdN zi
def fK(K:KS)(F:Nat->Int):KS:={ K with F:=F }
theorem ad3(h:On w N K P b n X c)(B:Hl.HB K.F){g:Nat}(rg:Row w g 3 12 (fun _=>.int .i64 8))(hg:g∉N.all) :
  Spec Tryz.prog 77 #[.pointer (some ⟨N.k,0,none⟩),.slice (some ⟨g,0,none⟩) 12 12] w fun v w'=>v=ak 0/\On w' N (fK K (zi K.F 12)) P b n X c/\Aa N.all w w':=by
 refine spec_of_wpE (T:=tt) ah func77 rfl (by decide +kernel) ntmps77 (by simp) ?_;conv=>whnf
 repeat ((first|refine Br.f ?_|refine CW.s ?_);conv=>whnf)
 refine CW.loop (ι:=Nat) (fun i w'=>i<=12/\On w' N (fK K (zi K.F i)) P b n X c/\Row w' g 3 12 (fun _=>.int .i64 8)/\Aa N.all w w')
  (fun i=>[(0,.pointer (some ⟨N.k,0,none⟩)),(11,.slice (some ⟨g,0,none⟩) 12 12),(12,.int .i64 12),(13,.int .i64 i)]) (fun i=>12-i) 0 ah ⟨by omega,by rw[aiv];exact h,rg,Aa.refl _ _⟩ ⟨rfl,rfl,rfl,rfl,trivial⟩ ?_;clear h rg;rintro i wr ⟨hi,hr,rg,kk⟩;have hB:=zj B i hi;by_cases av:i<12
 ·have ci:=rg.cell i av;conv=>whnf
  repeat ((first|(refine Ld.at (by omega) ci ?_)|refine Ix.n ?_|refine Br.y ?_|refine CW.s ?_);conv=>whnf)
  refine CW.loop (ι:=Nat) (fun k w'=>k<=8/\On w' N (fK K (rdN (zi K.F i) i k)) P b n X c/\Row w' g 3 12 (fun _=>.int .i64 8)/\Aa N.all w w')
   (fun k=>[(0,.pointer (some ⟨N.k,0,none⟩)),(5,.int .i64 i),(11,.slice (some ⟨g,0,none⟩) 12 12),(12,.int .i64 12),(13,.int .i64 i),(20,.int .i64 8),(21,.int .i64 k)]) (fun k=>8-k) 0 ah ⟨by omega,by rw[aix];exact hr,rg,kk⟩ ⟨rfl,rfl,rfl,rfl,rfl,rfl,rfl,trivial⟩ ?_;clear hr rg kk ci;rintro k w2 ⟨hk,h2,rg,kk⟩;have hB2:=acP hB av k;by_cases hk8:k<8
  ·conv=>whnf
   repeat ((first|(refine Ld.of h2.core.c4 ?_)|refine Br.y ?_|refine CW.s ?_);conv=>whnf)
   refine Ca.of (Hl.yY w2 N.e _ h2.core.aL hB2 i av) ?_;rintro _ w3 ⟨rfl,r3,k3⟩;have h3:=h2.aL k3 r3;conv=>whnf
   repeat (refine Ar.la ?_;conv=>whnf)
   refine⟨k+1,⟨hk8,?_,rg.ab k3 (fun hm=>hg (bh (by rw[List.mem_singleton.1 hm];simp[Cr.own]))),kk.trans (Aa.jg (by simp[Cr.own]) k3)⟩,⟨rfl,rfl,rfl,rfl,rfl,rfl,vi (by omega),trivial⟩,by simp only;omega⟩;rw[aiy];exact h3
  ·obtain rfl:k=8:=by omega
   conv=>whnf
   repeat ((first|refine Br.f ?_|refine Ar.la ?_|refine CW.s ?_);conv=>whnf)
   refine⟨i+1,⟨av,?_,rg,kk⟩,⟨rfl,rfl,rfl,vi (by omega),trivial⟩,by simp only;omega⟩;rw[aiw];exact h2
 ·obtain rfl:i=12:=by omega
  conv=>whnf
  repeat ((first|refine Br.f ?_|refine CW.s ?_);conv=>whnf)
  exact⟨rfl,rfl,hr,kk⟩
end
def jB(k:Cp)(j:Nat):Int:=if j<12 then k.reads j else 0
def jl(k:Cp)(j:Nat):Int:=if j<12 then k.ia j else 0
def n0K(k:Cp)(L:List Fd):KS:=⟨fun _=>0,0,fun _=>0,fun _=>0,false,0,0,Hl.ot (jB k) (jl k),k.cur.toNat,0,[],fun _=>En.zero,k.fl,fW L k,0,0,0⟩
def dq(k:Cp)(L:List Fd):Nat->KS
 |0=>n0K k L
 |i+1=>if bw L k i<0 then dq k L i else { dq k L i with at_:=(setAt (dq k L i).at_ (dq k L i).ow i (bw L k i).toNat).1,ow:=(setAt (dq k L i).at_ (dq k L i).ow i (bw L k i).toNat).2,en:=af (dq k L i).en i (ko L i (bw L k i)) }
theorem mz(k:Cp)(L:List Fd):dq k L 0=n0K k L:=rfl
theorem mA(k:Cp)(L:List Fd)(i:Nat):dq k L (i+1)=if bw L k i<0 then dq k L i else { dq k L i with at_:=(setAt (dq k L i).at_ (dq k L i).ow i (bw L k i).toNat).1,ow:=(setAt (dq k L i).at_ (dq k L i).ow i (bw L k i).toNat).2,en:=af (dq k L i).en i (ko L i (bw L k i)) }:=rfl
def n2K(K:KS):Nat->KS
 |0=>K
 |b+1=>if 0<lv K.at_ b then { n2K K b with st:=aG (n2K K b).st b 2 } else n2K K b
theorem aiz(K:KS):n2K K 0=K:=rfl
theorem aa9(K:KS)(b:Nat):n2K K (b+1)=if 0<lv K.at_ b then { n2K K b with st:=aG (n2K K b).st b 2 } else n2K K b:=rfl
def nwK(k:Cp)(L:List Fd):KS:=n2K (dq k L 25) 12
structure Bs(k:Cp)(L:List Fd):Prop where
 told:k.told
 bad:∀b,b<12->k.bad b=false
 mw:∀i,i<=25->AK (dq k L i).at_ (dq k L i).ow
 set:∀i,i<25->0<=bw L k i->bw L k i<96/\iR (dq k L i).ow i (bw L k i).toNat=0
theorem ad4{k:Cp}(h:k.told):k.wf:=⟨fun j hj=>by have:=h.fl j hj;omega,by have:=h.next;omega,by have:=h.next;omega⟩
theorem uR(N:Cr)(k:Cp)(L:List Fd)(w:World):(Instr.build 143 #[(0,.pointer (some ⟨N.N.m,0,none⟩)),(1,.pointer (some ⟨N.p,0,none⟩)),(2,.pointer (some ⟨N.a,0,none⟩)),(3,.pointer (some ⟨N.r,0,none⟩)),(4,.pointer (some ⟨N.e,0,none⟩)),(5,.pointer (some ⟨N.q,0,none⟩)),(8,agg 24 (fun j=>.int .i64 (k.fl j))),(9,.int .i64 (fW L k))]).run Tryz.prog w=.ok (agg 110 (cj N (n0K k L) none 0)) w:=by kernel_rfl
theorem pM(w:World):(Instr.build 210 #[]).run Tryz.prog w=.ok (agg 3 (oE false 0 0)) w:=(pD w).trans (by rw[<-wS false 0 0];rfl)
theorem mB(w:World)(x:Operand)(a:Addr):(do eqGuard .eql 24 x (.const (.pointer none)) (.pointer (some a)) (.pointer none);binOp .eql 24 (.pointer (some a)) (.pointer none):Sem Value).run Tryz.prog w=.ok (.bool false) w:=by kernel_rfl
section
variable{w w':World}{N:Cr}{K:KS}{X:Option Addr}{c:Nat}{P:CS}{b:Option Nat}{n:Int}
structure Bf(w0:World)(x4 ch h q:Nat)(k:Cp)(C:Chip)(A:Option Addr)(L:List Fd)(F:Nat->Int)(cur:Nat)(mm:Option Pt)(p a r:Option Nat)(w:World):Prop where
 kk:Aa [] w0 w
 r4:Row w x4 116 62 k.cell
 chp:Ab w ch C
 hr:Rd w A (L.length*6) (jn L)
 rh:Hl.Hr w h F
 rq:AF w q cur 0
 m:∀t,mm=some t->AL w t C 0/\t.c=ch/\w0.heap.size<=t.m/\w0.heap.size<=t.g
 p:∀x,p=some x->Al w x (fun _=>0) 0/\w0.heap.size<=x
 a:∀x,a=some x->Aj w x (fun _=>0) (fun _=>0)/\w0.heap.size<=x
 r:∀x,r=some x->Ai w x false 0 0/\w0.heap.size<=x
section
variable{w0:World}{x4 ch h q:Nat}{k:Cp}{C:Chip}{A:Option Addr}{L:List Fd}{F:Nat->Int}{cur:Nat}{mm:Option Pt}{p a r:Option Nat}{w w':World}
theorem Bf.ab(H:Bf w0 x4 ch h q k C A L F cur mm p a r w)(k':Aa [] w w'):Bf w0 x4 ch h q k C A L F cur mm p a r w' :=
 ⟨H.kk.trans k',H.r4.ab k' (by simp),H.chp.ab k' (by simp),H.hr.aj k',Row.ab H.rh k' (by simp),Row.ab H.rq k' (by simp),fun t e=>⟨Aw.aj (H.m t e).1 k',(H.m t e).2⟩,fun x e=>⟨Row.ab (H.p x e).1 k' (by simp),(H.p x e).2⟩,fun x e=>⟨Row.ab (H.a x e).1 k' (by simp),(H.a x e).2⟩,fun x e=>⟨Row.ab (H.r x e).1 k' (by simp),(H.r x e).2⟩⟩
theorem Bf.aoF(H:Bf w0 x4 ch h q k C A L F cur mm p a r w){m f cd g hh:Nat}(M:Aw w m ch f cd g hh C 0)(h1:w0.heap.size<=m)(h2:w0.heap.size<=g):Bf w0 x4 ch h q k C A L F cur (some ⟨m,ch,f,cd,g,hh⟩) p a r w :=
 ⟨H.kk,H.r4,H.chp,H.hr,H.rh,H.rq,fun t e=>by cases e;exact⟨M,rfl,h1,h2⟩,H.p,H.a,H.r⟩
theorem Bf.aoG(H:Bf w0 x4 ch h q k C A L F cur mm p a r w){x:Nat}(M:Al w x (fun _=>0) 0)(h1:w0.heap.size<=x):Bf w0 x4 ch h q k C A L F cur mm (some x) a r w :=
 ⟨H.kk,H.r4,H.chp,H.hr,H.rh,H.rq,H.m,fun t e=>by cases e;exact⟨M,h1⟩,H.a,H.r⟩
theorem Bf.aoH(H:Bf w0 x4 ch h q k C A L F cur mm p a r w){x:Nat}(M:Aj w x (fun _=>0) (fun _=>0))(h1:w0.heap.size<=x):Bf w0 x4 ch h q k C A L F cur mm p (some x) r w :=
 ⟨H.kk,H.r4,H.chp,H.hr,H.rh,H.rq,H.m,H.p,fun t e=>by cases e;exact⟨M,h1⟩,H.r⟩
theorem Bf.aoI(H:Bf w0 x4 ch h q k C A L F cur mm p a r w){x:Nat}(M:Ai w x false 0 0)(h1:w0.heap.size<=x):Bf w0 x4 ch h q k C A L F cur mm p a (some x) w :=
 ⟨H.kk,H.r4,H.chp,H.hr,H.rh,H.rq,H.m,H.p,H.a,fun t e=>by cases e;exact⟨M,h1⟩⟩
theorem Bf.on{t:Pt}{p a r:Nat}{P:CS}{b:Option Nat}{z:Nat}(H:Bf w0 x4 ch h q k C A L (Hl.ot (jB k) (jl k)) k.cur.toNat (some t) (some p) (some a) (some r) w)(hA:Abs C P)(hl:C.left b)(rz:Row w z 143 110 (cj ⟨z,t,p,a,r,h,q⟩ (n0K k L) none 0)):On w ⟨z,t,p,a,r,h,q⟩ (n0K k L) P b 0 none 0 :=
 ⟨⟨rz,(H.p _ rfl).1,(H.a _ rfl).1,(H.r _ rfl).1,H.rh,H.rq,Ly.nil _ _ _ _⟩,C,(H.m _ rfl).1,hA,hl⟩
theorem Bf.s(H:Bf w0 x4 ch h q k C A L F cur mm p a r w):Row w x4 116 62 k.cell:=H.r4
end
attribute [local irreducible] dq n2K bw ko lv fW
theorem aiA{C:Chip}{ch:Nat}(H:Ab w ch C)(hA:Abs C P)(hl:C.left b){k:Cp}{L:List Fd}(Hk:Bs k L){A:Option Addr}{cA:Nat}(hr:Rd w A (L.length*6) (jn L))(hn:L.length*48<=140737488351232) :
  Spec Tryz.prog 76 #[.pointer (some ⟨ch,0,none⟩),agg 62 k.cell,.slice A L.length cA] w fun v w'=>∃N:Cr,v=.tuple #[.pointer (some ⟨N.k,0,none⟩),ak 0]/\On w' N (nwK k L) P b 0 none 0/\N.N.c=ch/\(∀x,x∈N.all->x=ch\/w.heap.size<=x)/\Aa [] w w':=by
 have acm:∀(w1 w2:World) (x:Nat),w.heap.size<=x->Aa [x] w1 w2->Rd w1 A (L.length*6) (jn L)->Rd w2 A (L.length*6) (jn L):=fun w1 w2 x hx k' h' zw=>by
  obtain⟨b0,o0,rfl,xQ⟩:=hr zw;have:=aI (xQ 0 zw);exact h'.ab k' (fun a e hm=>by
   cases e
   have:=List.mem_singleton.1 hm;simp only at *;omega) zw
 have ht:=Hk.told;have sb:ch<w.heap.size:=Row.lt H;refine spec_of_wpE (T:=tt) ah func76 rfl (by decide +kernel) ntmps76 (by simp) ?_;conv=>whnf
 refine Ru.dt ?_;intro x4 w1 pY du r4 k1;conv=>whnf
 repeat (refine CW.s ?_;conv=>whnf)
 refine Ru.of (mB w1 _ _) ?_;conv=>whnf
 repeat ((first|refine Br.f ?_|refine CW.s ?_);conv=>whnf)
 refine Ru.ve r4 underlying116 rfl bz (by omega) ?_;rw[br (fun j _=>by rw[Nat.zero_add]:∀j,j<62->k.cell (0+j)=k.cell j)];conv=>whnf
 refine Ca.of (iE w1 k ht) ?_;rintro _ w2 ⟨y,hy,rfl,ry,k2⟩;have lH:=r4.ab k2 (by simp);have H2:=H.ab (k1.trans k2) (by simp);have sB:=hr.aj (k1.trans k2);have dJ:=k1.trans k2;have nv:w.heap.size<=x4:=by omega
 clear r4 H hr k1 k2 ry hy du pY w1;conv=>whnf
 repeat ((first|refine Br.f ?_|refine Ru.ai ?_);conv=>whnf)
 refine CW.held (fun w'=>Row w' x4 116 62 k.cell) [] (.take 0 (.take 1 (.take 2 (.take 3 (.one 4 (.take 5 (.take 6 (.take 7 (.take 8 (.take 9 (.done))))))))))) ah (by kernel_rfl) (by kernel_rfl) (by kernel_rfl) ?_ ?_
 ·exact Row.drewN lH 1
 have q2:=(Aa.refl [] w2).drewN 1;have H3:=H2.ab q2 (by simp);have fU:=lH.ab q2 (by simp);have hr3:=sB.aj q2;have bK:=dJ.trans q2;clear H2 lH sB dJ q2;generalize w2.drewN 1=w3 at *;have rdr:Rd w3 (some ⟨x4,38,none⟩) 12 (fun j=>.int .i64 (jB k j)):=fun _=>⟨x4,38,rfl,fun j hj=>by
  rw[fU.cell (38+j) (by omega),k.m6 hj];unfold jB;simp only[if_pos hj]⟩
 have rds:Rd w3 (some ⟨x4,50,none⟩) 12 (fun j=>.int .i64 (jl k j)):=fun _=>⟨x4,50,rfl,fun j hj=>by
  rw[fU.cell (50+j) (by omega),k.m7 hj];unfold jl;simp only[if_pos hj]⟩
 have ane:Hl.adK 12 12 (jB k) (jl k):=⟨rfl,rfl,fun j hj=>by
  unfold jB jl;rw[if_pos hj,if_pos hj];exact⟨(ht.rd j hj).1,(ht.sc j hj).1⟩⟩
 conv=>whnf
 refine Ad.of (fun w _=>jZ x4 38 w) ?_;conv=>whnf
 refine Ad.of (fun w _=>jZ x4 50 w) ?_;conv=>whnf
 refine Ca.of (Hl.yj _ _ 12 12 12 12 (jB k) (jl k) w3 rdr rds (fun j=>?_) (fun j=>?_)) ?_
 ·unfold jB;split
  ·have:=ht.rd j ‹_›;omega
  ·omega
 ·unfold jl;split
  ·have:=ht.sc j ‹_›;omega
  ·omega
 rintro _ w4 ⟨k4,gN⟩;rcases gN with⟨-,h,rfl,rh,hh⟩|⟨lV,-⟩
 case inr=>exact absurd ane lV
 have hJ:=fU.ab k4 (by simp);have H4:=H3.ab k4 (by simp);have hr4:=hr3.aj k4;have bT:=bK.trans k4;have hhw:w.heap.size<=h:=Nat.le_trans bK.size hh;clear fU H3 hr3 bK k4 rdr rds;refine⟨hJ,?_⟩;have ue:=ht.cur;obtain⟨cur,aiB⟩:∃cur:Nat,k.cur=cur:=⟨k.cur.toNat,by omega⟩;have c37:w4.cell? ⟨x4,37,none⟩=some (.int .i64 cur):=by
  rw[<-aiB];exact hJ.cell 37 (by omega)
 conv=>whnf
 repeat ((first|(refine Ld.at (by omega) c37 ?_)|refine Br.f ?_|refine Ru.ai ?_|refine CW.s ?_);conv=>whnf)
 refine Ca.of (wV (cur:=cur) (by omega)) ?_;rintro _ w5 ⟨q,rfl,rq,hq,k5⟩;have iD:=hJ.ab k5 (by simp);have H5:=H4.ab k5 (by simp);have hr5:=hr4.aj k5;have rh5:=Row.ab rh k5 (by simp);have dE:=bT.trans k5;have hqw:w.heap.size<=q:=Nat.le_trans bT.size hq;clear hJ H4 hr4 rh bT k5;conv=>whnf
 repeat ((first|refine Br.f ?_|refine Ru.ai ?_|refine CW.s ?_);conv=>whnf)
 refine CW.held (fun w'=>Row w' x4 116 62 k.cell) [] (.take 0 (.take 4 (.take 6 (.take 7 (.take 8 (.take 9 (.take 10 (.take 11 (.two 1 (.two 2 (.two 3 (.two 5 (.one 12 (.take 13 (.one 14 (.take 15 (.done))))) 12 (.one 5 (.take 13 (.one 14 (.take 15 (.done)))))) 5 (.one 3 (.one 12 (.take 13 (.one 14 (.take 15 (.done))))))) 5 (.one 2 (.one 3 (.one 12 (.take 13 (.one 14 (.take 15 (.done)))))))) 5 (.one 1 (.one 2 (.one 3 (.one 12 (.take 13 (.one 14 (.take 15 (.done))))))))))))))))) ah (by kernel_rfl) (by kernel_rfl) (by kernel_rfl) ?_ ?_
 ·exact Row.drewN iD 1
 have q5:=(Aa.refl [] w5).drewN 1;have hS:Bf w x4 ch h q k C A L (Hl.ot (jB k) (jl k)) cur none none none none (w5.drewN 1):=⟨dE.trans q5,iD.ab q5 (by simp),H5.ab q5 (by simp),hr5.aj q5,Row.ab rh5 q5 (by simp),Row.ab rq q5 (by simp),(fun _ h=>nomatch h),(fun _ h=>nomatch h),(fun _ h=>nomatch h),(fun _ h=>nomatch h)⟩;clear H5 iD hr5 rh5 rq dE q5;generalize w5.drewN 1=w6 at *;have hwf:=ad4 ht;conv=>whnf
 repeat' ((first|(refine And.intro ?_ ?_)|(refine Ad.of (fun w _=>pM w) ?_)|(refine Ad.of (fun w hS=>dL (q:=fun j=>.int .i64 (k.fl j)) hS underlying114 rfl gq (by omega) (fun j hj=>by rw[show 0+0+j=j by omega];exact k.iu hj)) ?_)|(refine Ad.of (fun w hS=>dL (q:=k.cell) hS underlying116 rfl bz (by omega) (fun j hj=>by rw[Nat.zero_add])) ?_)|(refine Ca.of (yG _ ch C hS.chp) ?_;rintro _ w7 ⟨m,f,cd,g,hh',hmw,hfw,oA,hgw,aqq,rfl,M7,k7⟩;replace hS:=(hS.ab k7).aoF M7 (Nat.le_trans hS.kk.size hmw) (Nat.le_trans hS.kk.size hgw);refine⟨hS.s,?_⟩)|(refine Ca.of (ud (w:=_)) ?_;rintro _ w8 ⟨p,rfl,rp,hp,k8⟩;replace hS:=(hS.ab k8).aoG rp (Nat.le_trans hS.kk.size hp);refine⟨hS.s,?_⟩)|(refine Ca.of (wQ (w:=_)) ?_;rintro _ w9 ⟨a,rfl,ra,ha,k9⟩;replace hS:=(hS.ab k9).aoH ra (Nat.le_trans hS.kk.size ha);refine⟨hS.s,?_⟩)|(refine Ru.dt ?_;intro r yy hrr hs10 rr yK;replace hS:=(hS.ab yK).aoI rr (by have:=hS.kk.size;omega);refine⟨hS.s,?_⟩)|(refine Ca.of (adI A cA L k _ hS.hr hn hwf) ?_;rintro _ zy ⟨rfl,lD⟩;replace hS:=hS.ab lD;refine⟨hS.s,?_⟩)|refine HS.t ?_|refine Br.t ?_|refine Br.f ?_|refine Pk.f ?_|refine Pk.t ?_|refine Pk.and ?_|refine Pk.or ?_|refine Ix.n ?_|refine Ix.of _ (by rfl) (by omega) ?_|refine Ix.i ?_|refine Ar.la ?_|refine Ar.lb ?_|refine Ar.lc ?_|refine Dv.q ?_|refine Dv.r ?_|refine Br.y ?_|refine Br.n ?_|refine Br.ny ?_|refine Br.nn ?_|refine Br.is (by assumption) ?_|refine Br.bF (by assumption) ?_|refine Ld.of (by assumption) ?_|refine Ru.ai ?_|refine Ru.n1 ?_|refine Ru.au ?_|refine Ru.e1 ?_|refine Ru.e2 ?_|refine Ru.e3 ?_|refine Ru.n2 ?_|refine Ru.n3 ?_|refine Ru.ax rfl ?_|refine Ru.aC rfl ?_|refine Ru.aE rfl (by decide) ?_|refine Ru.ay rfl (by decide) ?_|refine Ru.be ?_|refine Ru.bn ?_|refine Ad.be ?_|refine Ad.bn ?_|refine CW.s ?_|refine Br.d (fun _=>?_) (fun _=>?_)|refine Br.nd (fun _=>?_) (fun _=>?_)|refine Br.mk (fun _=>?_) (fun _=>?_))<;>conv=>whnf)
 all_goals
  refine Ad.of (fun w _=>uR ⟨0,⟨m,ch,f,cd,g,hh'⟩,p,a,r,h,q⟩ k L w) ?_;conv=>whnf
  refine Ru.dt ?_;intro z wz hz sQ rz kz;have hzw:w.heap.size<=z:=by have:=hS.kk.size;omega
  replace hS:=hS.ab kz;refine⟨hS.s,?_⟩;have hcc:k.cur.toNat=cur:=by omega
  rw[<-hcc] at hS;have hON:=hS.on hA hl rz;have cu:∀x,x∈(⟨z,⟨m,ch,f,cd,g,hh'⟩,p,a,r,h,q⟩:Cr).all->x=ch\/w.heap.size<=x:=fun x hx=>by
   have h1:w.heap.size<=m/\w.heap.size<=g:=(hS.m _ rfl).2.2;have h2:=(hS.p _ rfl).2;have h3:=(hS.a _ rfl).2;have h4:=(hS.r _ rfl).2;simp only[Cr.all,Cr.own,Pt.l,List.cons_append,List.nil_append,List.mem_cons,List.not_mem_nil,or_false] at hx;omega
  have mC:∀x,x∈(⟨z,⟨m,ch,f,cd,g,hh'⟩,p,a,r,h,q⟩:Cr).own->w.heap.size<=x:=fun x hx=>by
   have h2:=(hS.p _ rfl).2;have h3:=(hS.a _ rfl).2;have h4:=(hS.r _ rfl).2;simp only[Cr.own,List.mem_cons,List.not_mem_nil,or_false] at hx;omega
  have r4z:=hS.r4;have hrz:=hS.hr;have kkz:=hS.kk;generalize hN:(⟨z,⟨m,ch,f,cd,g,hh'⟩,p,a,r,h,q⟩:Cr)=N at *;have eN:z=N.k:=by rw[<-hN]
  have eC:N.N.c=ch:=by rw[<-hN]
  subst eN;clear hS rz kz sQ hN;conv=>whnf
  repeat (refine CW.s ?_;conv=>whnf)
  refine Ru.ve r4z underlying116 rfl bz (by omega) ?_;rw[br (fun j _=>by rw[Nat.zero_add]:∀j,j<62->k.cell (0+j)=k.cell j)];conv=>whnf
  refine Ca.of (adT A cA L k wz hrz hn) ?_;rintro _ v1 ⟨rfl,kv⟩;have on0:On v1 N (dq k L 0) P b 0 none 0:=by
   rw[mz];exact hON.aj kv
  have r4v:=r4z.ab kv (by simp);have hrv:=hrz.aj kv;have kkv:=kkz.trans kv;clear hON r4z hrz kkz kv;conv=>whnf
  refine CW.loop (ι:=Nat) (fun i w'=>i<=25/\On w' N (dq k L i) P b 0 none 0/\Row w' x4 116 62 k.cell/\Rd w' A (L.length*6) (jn L)/\Aa [] w w')
   (fun i=>[(2,.slice A L.length cA),(4,.pointer (some ⟨x4,0,none⟩)),(13,.pointer (some ⟨N.k,0,none⟩)),(68,agg 25 (fun j=>.int .i64 (bw L k j))),(69,.int .i64 i)]) (fun i=>25-i) 0 ah ⟨by omega,on0,r4v,hrv,kkv⟩ ⟨rfl,rfl,rfl,rfl,rfl,trivial⟩ ?_;clear on0 r4v hrv kkv;rintro i wr ⟨hi,hr,r4,y7,kk⟩;rcases Nat.lt_or_ge i 25 with av|xP
  ·have hmw:=Hk.mw i hi;have bt:=mA k L i;by_cases acQ:bw L k i<0
   ·rw[if_pos acQ] at bt;conv=>whnf
    repeat ((first|(refine Ru.idx underlying59 av (by kernel_rfl) ?_)|refine Ar.la ?_|refine Br.y ?_|refine CW.s ?_);conv=>whnf)
    exact⟨i+1,⟨av,by rw[bt];exact hr,r4,y7,kk⟩,⟨rfl,rfl,rfl,rfl,vi (by omega),trivial⟩,by simp only;omega⟩
   ·rw[if_neg acQ] at bt;obtain⟨h96,yu⟩:=Hk.set i av (by omega);obtain⟨pl,hpl⟩:∃pl:Nat,bw L k i=pl:=⟨(bw L k i).toNat,by omega⟩;have ack:(bw L k i).toNat=pl:=by omega
    rw[ack] at bt yu;rw[hpl] at acQ h96 bt;have vR:(Value.int .i64 (bw L k i))=.int .i64 (pl:Int):=by rw[hpl]
    have hfn:ko L (i:Int) (pl:Int)=ko L i (pl:Nat):=rfl;conv=>whnf
    repeat ((first|(refine Ru.idx underlying59 av (by kernel_rfl) ?_;rw[vR])|(refine Ld.of hr.core.c2 ?_)|refine Br.f ?_|refine Br.y ?_|refine CW.s ?_);conv=>whnf)
    refine Ca.of (yX hr.core.map hmw i pl (by omega) (by omega)) ?_;rintro _ w3 ⟨rfl,m3,k3⟩;have h3:=hr.map k3 m3;rw[yu];have bK:=kk.fresh (mC N.a (by simp[Cr.own])) k3;have fU:=r4.ab k3 (by
     have:=Row.ed hr.core.map r4 (by decide);simpa using this.symm)
    have acR:=acm _ _ _ (mC N.a (by simp[Cr.own])) k3 y7;clear hr r4 y7 kk m3 k3;conv=>whnf
    repeat ((first|refine Br.f ?_|refine Ru.ai ?_);conv=>whnf)
    refine CW.held (fun w'=>Rd w' A (L.length*6) (jn L)) [] (.take 0 (.take 1 (.take 2 (.take 3 (.take 4 (.take 6 (.take 7 (.one 5 (.take 8 (.one 9 (.done))))))))))) ah (by kernel_rfl) (by kernel_rfl) (by kernel_rfl) ?_ ?_
    ·exact acR.aj ((Aa.refl [] w3).drewN 1)
    have q3:=(Aa.refl [] w3).drewN 1;have h4:=h3.aj q3;have hJ:=fU.ab q3 (by simp);have acS:=acR.aj q3;have bT:=bK.trans q3;clear h3 fU acR bK q3;generalize w3.drewN 1=w4 at *;conv=>whnf
    refine Ca.of (aa8 A cA L i pl w4 acS hn) ?_;rintro _ w5 ⟨rfl,k5⟩;have h5:=h4.aj k5;have iD:=hJ.ab k5 (by simp);have aiC:=acS.aj k5;have dE:=bT.trans k5;clear h4 hJ acS bT k5;refine⟨aiC,?_⟩;conv=>whnf
    repeat ((refine Ix.of i (by omega) (by omega) ?_);conv=>whnf)
    rw[show 0+7+i*3=7+3*i by omega];refine Ru.gY h5.core.row dK (by omega) (fun j _=>En.bH _) ?_;intro w6 r6 k6;have h6:=h5.row (K':={ dq k L i with at_:=(setAt (dq k L i).at_ (dq k L i).ow i pl).1,ow:=(setAt (dq k L i).at_ (dq k L i).ow i pl).2,en:=af (dq k L i).en i (ko L i pl) }) k6 r6 (fun j hj=>uu i (by omega) _ j hj) rfl;have aiD:Rd w6 A (L.length*6) (jn L):=acm _ _ _ (mC N.k (by simp[Cr.own])) k6 aiC;refine⟨aiD,?_⟩;conv=>whnf
    repeat (refine Ar.la ?_;conv=>whnf)
    refine⟨i+1,⟨av,?_,iD.ab k6 (by
     have:=h5.core.row.ed iD (by decide);simpa using this.symm),aiD,dE.fresh (mC N.k (by simp[Cr.own])) k6⟩,⟨rfl,rfl,rfl,rfl,vi (by omega),trivial⟩,by simp only;omega⟩
    rw[bt];exact h6
  ·obtain rfl:i=25:=by omega
   conv=>whnf
   repeat ((first|(refine Ld.of hr.core.c2 ?_)|refine Br.f ?_|refine CW.s ?_);conv=>whnf)
   refine Ca.of (fc hr.core.map (Hk.mw 25 (Nat.le_refl _)).la) ?_;rintro _ v2 ⟨gl,rfl,rgl,qm,kl⟩;have h2:=hr.aj kl;have lH:=r4.ab kl (by simp);have dJ:=kk.trans kl;have aqr:w.heap.size<=gl:=Nat.le_trans kk.size qm;clear hr r4 y7 kk kl;conv=>whnf
   repeat (refine CW.s ?_;conv=>whnf)
   refine Ru.cG (q:=fun j=>.bool (k.bad j)) lH underlying63 rfl (by kernel_rfl:(Tryz.prog.info? 63).map (·.size)=some 12) (by omega) (fun j hj=>by rw[show 0+25+j=25+j by omega];exact k.jT hj) ?_;conv=>whnf
   refine CW.loop (ι:=Nat) (fun i w'=>i<=12/\On w' N (n2K (dq k L 25) i) P b 0 none 0/\Row w' gl 3 12 (fun b=>.int .i64 (lv (dq k L 25).at_ b:Nat))/\Aa [] w w')
    (fun i=>[(13,.pointer (some ⟨N.k,0,none⟩)),(17,.slice (some ⟨gl,0,none⟩) 12 12),(101,agg 12 (fun j=>.bool (k.bad j))),(102,.int .i64 i)]) (fun i=>12-i) 0 ah ⟨by omega,by rw[aiz];exact h2,rgl,dJ⟩ ⟨rfl,rfl,rfl,rfl,trivial⟩ ?_;clear h2 lH rgl dJ;rintro i wr ⟨hi,hr,rg,kk⟩;rcases Nat.lt_or_ge i 12 with av|xP
   ·have hb:=Hk.bad i av;have l8:(Value.bool (k.bad i))=.bool false:=by rw[hb]
    have ci:=rg.cell i av;have bt:=aa9 (dq k L 25) i;by_cases wP:0<lv (dq k L 25).at_ i
    ·rw[if_pos wP] at bt;conv=>whnf
     repeat ((first|(refine Ru.idx underlying63 av (by kernel_rfl) ?_;rw[l8])|(refine Ld.at (by omega) ci ?_)|(refine Ld.of hr.core.c1 ?_)|refine Br.f ?_|refine Ix.n ?_|refine Br.y ?_|refine CW.s ?_);conv=>whnf)
     refine Ca.of (eK hr.core.aY i 2 av (by omega)) ?_;rintro _ w3 ⟨⟨e,rfl⟩,r3,k3⟩;have h3:=hr.aY k3 r3;conv=>whnf
     repeat (refine Ar.la ?_;conv=>whnf)
     refine⟨i+1,⟨av,?_,rg.ab k3 (by
      have:=Row.ed hr.core.aY rg (by decide);simpa using this.symm),kk.fresh (mC N.p (by simp[Cr.own])) k3⟩,⟨rfl,rfl,rfl,vi (by omega),trivial⟩,by simp only;omega⟩
     rw[bt];exact h3
    ·rw[if_neg wP] at bt;conv=>whnf
     repeat ((first|(refine Ru.idx underlying63 av (by kernel_rfl) ?_;rw[l8])|(refine Ld.at (by omega) ci ?_)|refine Br.f ?_|refine Ix.n ?_|refine Ar.la ?_|refine Br.y ?_|refine Br.n ?_|refine CW.s ?_);conv=>whnf)
     exact⟨i+1,⟨av,by rw[bt];exact hr,rg,kk⟩,⟨rfl,rfl,rfl,vi (by omega),trivial⟩,by simp only;omega⟩
   ·obtain rfl:i=12:=by omega
    conv=>whnf
    repeat ((first|refine Br.f ?_|refine CW.s ?_);conv=>whnf)
    exact⟨rfl,N,rfl,hr,eC,cu,kk⟩
end
def A9(w:World)(r:Nat)(ps:List (Nat×Value)):Prop:=∃es clock,w.heap[r]?=some (.map es clock)/\es.toList.map (fun e=>(e.key,e.val))=ps.map (fun x=>(Value.int .i64 (x.1:Nat),x.2))
theorem A9.lt{w:World}{r:Nat}{ps:List (Nat×Value)}(h:A9 w r ps):r<w.heap.size:=by
 obtain⟨es,cl,h,-⟩:=h;exact(Array.getElem?_eq_some_iff.1 h).1
theorem A9.ab{w w':World}{r:Nat}{ps:List (Nat×Value)}{S:List Nat}(h:A9 w r ps)(k:Aa S w w')(hr:r∉S):A9 w' r ps:=by
 have hl:=h.lt;obtain⟨es,cl,h1,h2⟩:=h;exact⟨es,cl,by rw[k.block r hl hr];exact h1,h2⟩
def gD(p:Nat):List (Nat×Value)->Option Value
 | []=>none
 |x::l=>if x.1=p then some x.2 else gD p l
theorem pN{p:Nat}:∀ {es:List MapEntry} {ps:List (Nat×Value)} {i:Nat},es.map (fun e=>(e.key,e.val))=ps.map (fun x=>(Value.int .i64 (x.1:Nat),x.2))->gD p ps=none->Instr.findNow (.int .i64) (.int .i64 (p:Nat)) es i=some none
 | [],ps,i,h,h2=>rfl
 |e::es,[],i,h,h2=>by simp at h
 | e::es,x::ps,i,h,h2=>by
  simp only[List.map_cons,List.cons.injEq,Prod.mk.injEq] at h;unfold gD at h2;by_cases hx:x.1=p
  ·rw[if_pos hx] at h2
   cases h2
  ·rw[if_neg hx] at h2;unfold Instr.findNow;rw[h.1.1];have:((p:Int) == (x.1:Int))=false:=by
    simp;omega
   simp only[Instr.sameNow,if_true,this];exact pN h.2 h2
theorem pO{p:Nat}{v:Value}:∀ {es:List MapEntry} {ps:List (Nat×Value)} {i:Nat},es.map (fun e=>(e.key,e.val))=ps.map (fun x=>(Value.int .i64 (x.1:Nat),x.2))->gD p ps=some v->∃j,Instr.findNow (.int .i64) (.int .i64 (p:Nat)) es i=some (some (j,v))
 | [],[],i,h,h2=>by cases h2
 | [],x::ps,i,h,h2=>by simp at h
 |e::es,[],i,h,h2=>by simp at h
 | e::es,x::ps,i,h,h2=>by
  simp only[List.map_cons,List.cons.injEq,Prod.mk.injEq] at h;unfold gD at h2;unfold Instr.findNow;rw[h.1.1];by_cases hx:x.1=p
  ·rw[if_pos hx] at h2
   cases h2
   have:((p:Int) == (x.1:Int))=true:=by
    simp;omega
   simp only[Instr.sameNow,if_true,this];exact⟨i,by rw[h.1.2]⟩
  ·rw[if_neg hx] at h2;have:((p:Int) == (x.1:Int))=false:=by
    simp;omega
   simp only[Instr.sameNow,if_true,this];exact pO h.2 h2
theorem rK(w:World):(underlying 158).run Tryz.prog w=.ok (.map 3 37) w:=by kernel_rfl
theorem ad5(w:World):(underlying 3).run Tryz.prog w=.ok (.int .i64) w:=by kernel_rfl
theorem ln(e:Bool)(p:Int)(w:World):(Instr.checkKey e 10000 3 (.int .i64 p)).run Tryz.prog w=.ok () w:=by kernel_rfl
theorem akZ(w:World):(Instr.makeMap 158 none).run Tryz.prog w=.ok (.map (some w.heap.size)) (w.alloc (.map #[] 0)):=rfl
theorem anf{w:World}{r:Nat}{ps:List (Nat×Value)}{p:Nat}{v:Value}(h:A9 w r ps)(hf:gD p ps=none){K:Unit->World->Prop}(k:∀w',A9 w' r (ps++[(p,v)])->Aa [r] w w'->K () w'):Ru Tryz.prog (Instr.mapUpdate 158 (.map (some r)) (.int .i64 (p:Nat)) v) w K:=by
 have hl:=h.lt;obtain⟨es,cl,h1,h2⟩:=h;have hfn:=pN (i:=0) h2 hf;have jG:(Instr.mapUpdate 158 (.map (some r)) (.int .i64 (p:Nat)) v).run Tryz.prog w=.ok () { w with heap:=w.heap.setIfInBounds r (.map (es.push ⟨.int .i64 (p:Nat),v,cl⟩) (cl+1)) }:=by
  unfold Instr.mapUpdate;simp only[Sem.run_bind,rK,Result.andThen_ok,getObj,setObj,Sem.run,h1,ln,Instr.findKey,ad5,hfn];rw[show(Sem.run Tryz.prog (pure none:Sem (Option (Nat×Value))) w)=.ok none w from rfl,Result.andThen_ok];simp only[Sem.run,h1]
 refine⟨_,_,jG,k _ ⟨es.push ⟨.int .i64 (p:Nat),v,cl⟩,cl+1,?_,?_⟩ ⟨rfl,rfl,rfl,?_,fun x hx hn=>?_⟩⟩
 ·simp[hl]
 ·simp[h2]
 ·simp
 ·have:r≠x:=fun e=>hn (by simp[e]);simp[this]
theorem ak0{w:World}{r:Nat}{ps:List (Nat×Value)}{p:Nat}{v:Value}(h:A9 w r ps)(hf:gD p ps=some v):(Instr.lookup 158 (.map (some r)) (.int .i64 (p:Nat)) true).run Tryz.prog w=.ok (.tuple #[v,.bool true]) w:=by
 obtain⟨es,cl,h1,h2⟩:=h;obtain⟨j,hfn⟩:=pO (i:=0) h2 hf;unfold Instr.lookup;simp only[Sem.run_bind,rK,Result.andThen_ok,getObj,Sem.run,h1,ln,Instr.findKey,ad5,hfn];rw[show(Sem.run Tryz.prog (pure es:Sem (Array MapEntry)) w)=.ok es w from rfl,Result.andThen_ok];simp only[ln,Result.andThen_ok,hfn];rw[show(Sem.run Tryz.prog (pure (some (j,v)):Sem (Option (Nat×Value))) w)=.ok (some (j,v)) w from rfl,Result.andThen_ok];rfl
end
section
open Go.RowKit
theorem jv{q p:Nat}{v:Value}:∀ {ps:List (Nat×Value)},gD q (ps++[(p,v)])=match gD q ps with|some x=>some x|none=>if p=q then some v else none
 | []=>rfl
 | x::ps=>by
  have ih:=@jv q p v ps;rw[List.cons_append];unfold gD;by_cases h:x.1=q
  ·rw[if_pos h,if_pos h]
  ·rw[if_neg h,if_neg h];exact ih
def lL(p:Nat)(t:Tg):Fd:=⟨(p:Int),t.place,t.of,t.seq,t.copy,t.lost⟩
def ao(P:CS):Nat->List Fd
 |0=>[]
 | p+1=>match P.pg p with
  |.full t D=>ao P p++[lL p t]
  |_=>ao P p
theorem gE(P:CS):ao P 0=[]:=rfl
theorem oL{P:CS}{p:Nat}{t:Tg}{D:Nat->Nat}(h:P.pg p=.full t D):ao P (p+1)=ao P p++[lL p t]:=by
 show(match P.pg p with | .full t D=>ao P p++[lL p t] | _=>ao P p)=_;rw[h]
theorem ks{P:CS}{p:Nat}(h:∀t D,P.pg p≠.full t D):ao P (p+1)=ao P p:=by
 show(match P.pg p with | .full t D=>ao P p++[lL p t] | _=>ao P p)=_
 cases e:P.pg p with
 |full t D=>exact absurd e (h t D)
 |blank=>rfl
 |cB n=>rfl
theorem nm(P:CS):∀n,(ao P n).length<=n
 |0=>Nat.le_refl _
 | n+1=>by
  have:=nm P n;by_cases h:∃t D,P.pg n=.full t D
  ·obtain⟨t,D,h⟩:=h;rw[oL h];simp;omega
  ·rw[ks (fun t D e=>h ⟨t,D,e⟩)];omega
def nB(P:CS):Nat->CS
 |0=>P
 |i+1=>(nB P i).bL i
theorem aiE(P:CS):nB P 0=P:=rfl
theorem aiF(P:CS)(i:Nat):nB P (i+1)=(nB P i).bL i:=rfl
theorem zk(P:CS):∀i,(nB P i).pg=P.pg/\(nB P i).dm=P.dm
 |0=>⟨rfl,rfl⟩
 |i+1=>zk P i
theorem uS{P:CS}(h:P.calm):∀i,(nB P i).calm
 |0=>h
 |i+1=>CS.gu (uS h i) i
structure Bw(P:CS)(w:World)(r:Nat)(ps:List (Nat×Value))(n:Nat):Prop where
 no:∀q,n<=q->gD q ps=none
 yes:∀q t D,q<n->P.pg q=.full t D->t.of=24->∃O oc D',gD q ps=some (.slice O 174 oc)/\(∀x,x∈aR O->r<x)/\cq D'=D/\Ly w 5 1 O 174 oc (fun j=>.int .u8 (D' j:Nat))
theorem Bw.ab{P:CS}{w w':World}{r:Nat}{ps:List (Nat×Value)}{n:Nat}{S:List Nat}(h:Bw P w r ps n)(k:Aa S w w')(hS:∀x,x∈S->x<=r\/∀O oc f,Ly w 5 1 O 174 oc f->x∉aR O):Bw P w' r ps n :=
 ⟨h.no,fun q t D hq e ht=>by
  obtain⟨O,oc,D',a1,a2,a3,a4⟩:=h.yes q t D hq e ht;refine⟨O,oc,D',a1,a2,a3,a4.ab k (fun x hx hm=>?_)⟩;rcases hS x hm with h|h
  ·have:=a2 x hx;omega
  ·exact h O oc _ a4 hx⟩
theorem aba(p:Nat)(t:Tg)(w:World):(Instr.build 69 #[(0,.int .i64 (p:Nat)),(1,.agg t.arr)]).run Tryz.prog w=.ok (.agg (lL p t).arr) w:=by kernel_rfl
attribute [local irreducible] ao nB
theorem ad6{w:World}{C:Chip}{ch:Nat}{P:CS}{b:Option Nat}(H:Ab w ch C)(hA:Abs C P)(hl:C.left b) :
  Spec Tryz.prog 74 #[.pointer (some ⟨ch,0,none⟩)] w fun v w'=>∃A cA r ps C',v=.tuple #[.slice A (ao P 96).length cA,.map (some r),ak 0]/\(ao P 96=[]->A=none/\cA=0)/\Ly w' 69 6 A (ao P 96).length cA (jn (ao P 96))/\A9 w' r ps/\Bw P w' r ps 96 /\
   Ab w' ch C'/\Abs C' (nB P 96)/\C'.left b/\Aa [ch] w w':=by
 obtain⟨i0,hi0,lZ,lP,l4⟩:=info_parts kS;refine spec_of_wpE (T:=tt) ah func74 rfl (by decide +kernel) ntmps74 (by simp) ?_;conv=>whnf
 refine Ca.of (yG w ch C H) ?_;rintro _ w1 ⟨m,f,cd,g,hh,hmw,hfw,oA,hgw,hhw,rfl,M1,k1⟩;obtain⟨N,hN⟩:∃N:Pt,(⟨m,ch,f,cd,g,hh⟩:Pt)=N:=⟨_,rfl⟩;have Dh:AL w1 N C 0:=by rw[<-hN];exact M1
 have hMl:=Dh.lt;have em:m=N.m:=by rw[<-hN]
 have ec:N.c=ch:=by rw[<-hN]
 have eg:w.heap.size<=N.g:=by rw[<-hN];exact hgw
 subst em;have MA:MedA w1 N P b 0:=⟨C,Dh,hA,hl⟩;conv=>whnf
 refine Ru.of (akZ w1) ?_;have rm:A9 (w1.alloc (.map #[] 0)) w1.heap.size []:=⟨#[],0,heap_alloc_new w1 _,rfl⟩;have k2:Aa [] w1 (w1.alloc (.map #[] 0)):=(Aa.refl _ _).alloc _;have Dy:=MA.aj k2;have hrw:w.heap.size<=w1.heap.size:=k1.size;have dJ:=(k1.trans k2).mono (T:=[ch]) (by simp);clear M1 Dh MA k1 k2 hfw oA hhw hgw hN;generalize w1.alloc (.map #[] 0)=w2 at *;generalize w1.heap.size=r at *;conv=>whnf
 repeat (refine CW.s ?_;conv=>whnf)
 refine CW.loop (ι:=Nat×Option Addr×Nat×List (Nat×Value)×Int) (fun i w'=>i.1<=96/\MedA w' N (nB P i.1) b i.2.2.2.2/\Ly w' 69 6 i.2.1 (ao P i.1).length i.2.2.1 (jn (ao P i.1))/\(∀x,x∈aR i.2.1->r<x)/\(ao P i.1=[]->i.2.1=none/\i.2.2.1=0)/\A9 w' r i.2.2.2.1/\Bw P w' r i.2.2.2.1 i.1/\Aa [ch] w w')
  (fun i=>[(5,.pointer (some ⟨N.m,0,none⟩)),(6,.slice i.2.1 (ao P i.1).length i.2.2.1),(7,.map (some r)),(14,.int .i64 i.1)]) (fun i=>96-i.1) (0,none,0,[],0) ah
  ⟨by omega,by rw[aiE];exact Dy,by rw[gE];exact Ly.nil _ _ _ _,(fun _ h=>nomatch h),fun _=>⟨rfl,rfl⟩,rm,⟨fun _ _=>rfl,fun q t D hq=>by omega⟩,dJ⟩ ⟨rfl,by rw[gE];rfl,rfl,rfl,trivial⟩ ?_;clear Dy rm dJ;rintro⟨i,Z,cz,ps,n⟩ wr ⟨hi,MA,ly,hZ,om,rm,hps,kk⟩;simp only at hi MA ly hZ om rm hps kk ⊢;rcases Nat.lt_or_ge i 96 with av|xP
 ·have bG:=(zk P i).1;have kl:∀ {wa wb:World},Aa N.l wa wb->Aa [ch] w wa->Aa [ch] w wb:=fun k' kw=>kw.then k' (fun x hx=>by
   simp only[Pt.l,List.mem_cons,List.not_mem_nil,or_false] at hx;rcases hx with rfl|rfl|rfl
   ·exact .inr hmw
   ·exact .inl (List.mem_singleton.2 ec)
   ·exact .inr eg)
  have aqs:∀ {wa wb:World},Aa N.l wa wb->Bw P wa r ps i->Bw P wb r ps i:=fun k' hp=>hp.ab k' (fun x hx=>by
   simp only[Pt.l,List.mem_cons,List.not_mem_nil,or_false] at hx;left;rcases hx with rfl|rfl|rfl<;>omega)
  have hrl:r∉N.l:=fun hm=>by
   simp only[Pt.l,List.mem_cons,List.not_mem_nil,or_false] at hm;rcases hm with h|h|h<;>omega
  conv=>whnf
  repeat ((first|refine Br.y ?_|refine CW.s ?_);conv=>whnf)
  refine Ca.of (aaB MA av) ?_;rintro _ w3 ⟨k3,R,dv,hR,ji,rfl,Dz⟩;have bK:=kl k3 kk;have rm3:=rm.ab k3 hrl;have aoJ:=aqs k3 hps;have ly3:=ly.ab k3 (fun x hx hm=>by
   have:=hZ x hx;simp only[Pt.l,List.mem_cons,List.not_mem_nil,or_false] at hm;rcases hm with h|h|h<;>omega)
  have arh:=rm.lt;clear MA ly rm hps kk;conv=>whnf
  refine Ru.aF (cv w3) ?_;intro x9 w4 hx9 ru r9 k4;conv=>whnf
  refine Ru.eS r9 (iU R ji _) ?_;intro w5 rI k5;have q5:Aa [] w3 w5:=k4.then k5 (fun x hx=>.inr (by rw[List.mem_singleton.1 hx,hx9];exact Nat.le_refl _));have Da:=Dz.aj q5;have rm5:=rm3.ab q5 (by simp);have ang:=aoJ.ab q5 (by simp);have ly5:=ly3.aj q5;have dE:=bK.trans (q5.mono (by simp));have aih:=ji.ab q5 (by simp);have gG:=k3.size;clear Dz rm3 aoJ ly3 bK k4 k5 r9 ru k3;have c0:w5.cell? ⟨x9,0,none⟩=some (.bool R.tagged):=rI.cell 0 (by omega);unfold Az at hR;rw[bG] at hR;rw[<-aiF] at Da;by_cases ad7:∃t D,P.pg i=.full t D
  ·obtain⟨t,D,hp⟩:=ad7;rw[hp] at hR;obtain⟨hR1,rfl,hR3,hR4,hR5⟩:=hR;rw[hR1] at c0;have efd:=oL hp;have hlen:=nm P i;conv=>whnf
   repeat ((first|(refine Ld.at (by omega) c0 ?_)|refine Br.f ?_|refine Ru.ai ?_|refine CW.s ?_);conv=>whnf)
   refine Ru.cG (q:=R.tag.cell) rI underlying67 rfl (by kernel_rfl:(Tryz.prog.info? 67).map (·.size)=some 5) (by omega) (fun j hj=>by
    unfold rC;rw[if_neg (by omega),if_pos (by omega),show 0+1+j-1=j by omega]) ?_
   rw[show agg 5 R.tag.cell=.agg R.tag.arr by unfold agg;rw[tF]];conv=>whnf
   refine Ru.of (aba i R.tag w5) ?_;conv=>whnf
   refine Ru.yR (lL i R.tag) ?_;intro x34 w6 hx34 hs6 r34 k6;conv=>whnf
   refine Bu.append underlying64 hi0 lZ lP l4 rfl (by omega) (ly5.aj k6) _ (Rd.dh r34 (n:=1*6) (by omega)) (by omega) (by simp) (fun j hj=>gQ _ j hj) (by simp only[maxLen];omega) (by omega) ?_;intro Y cY w7 hy k7 dC iq;have ly6:=ly5.aj k6;have DA:MedA w7 N (nB P (i+1)) b _:=(Da.aj k6).ab k7 ⟨fun h=>by have:=hZ _ h;omega,fun h=>by have:=hZ _ h;omega,fun h=>by have:=hZ _ h;omega,fun h=>by have:=hZ _ h;omega,fun h=>by have:=hZ _ h;omega,fun h=>by have:=hZ _ h;omega⟩;have rm7:=(rm5.ab k6 (by simp)).ab k7 (fun h=>by have:=hZ _ h;omega);have aiG:=(ang.ab k6 (by simp)).ab k7 (fun x hx=>.inr (fun O oc f lO=>ly6.mL lO (by decide) hx));have r97:=(rI.ab k6 (by simp)).ab k7 (ly6.aP (rI.ab k6 (by simp)) (by decide));have nz:=(dE.trans (k6.mono (by simp))).then k7 (fun x hx=>.inr (by have:=hZ x hx;omega));have hY:∀x,x∈aR Y->r<x:=fun x hx=>by
    rcases dC with e|e
    ·rw[e] at hx;exact hZ x hx
    ·rw[e] at hx;have hxx:x=w6.heap.size:=List.mem_singleton.1 hx;have:=k6.size;have:=q5.size;omega
   have lyY:Ly w7 69 6 Y (ao P (i+1)).length cY (jn (ao P (i+1))):=by
    rw[efd,List.length_append,List.length_singleton];exact hy.congr (fun j hj=>by rw[tR _ _ j hj])
   have ct:ao P (i+1)≠[]:=by rw[efd];simp
   have hlY:(Value.slice Y ((ao P i).length+1) cY)=.slice Y (ao P (i+1)).length cY:=by rw[efd];simp
   have aqt:∀O oc,dv=.slice O 174 oc->Ly w5 5 1 O 174 oc (fun j=>.int .u8 (R.data j:Nat))->Ly w7 5 1 O 174 oc (fun j=>.int .u8 (R.data j:Nat)):=fun O oc e l=>(l.aj k6).ab k7 (fun x hx hm=>ly6.mL (l.aj k6) (by decide) hm hx);clear Da rm5 rI dE ly5 dC iq r34;have c2:w7.cell? ⟨x9,2,none⟩=some (.int .i64 R.tag.of):=r97.cell 2 (by omega);have c6:w7.cell? ⟨x9,6,none⟩=some (.bool R.sound):=r97.cell 6 (by omega);have c7:w7.cell? ⟨x9,7,none⟩=some dv:=r97.cell 7 (by omega);rw[hR3] at c6;rcases aih with⟨-,O,oc,rfl,hO,zA⟩|⟨hs,-⟩
   case inr=>rw[hR3] at hs;cases hs
   by_cases ht:R.tag.of=24
   ·conv=>whnf
    repeat ((first|(refine Ld.at (by omega) c2 ?_)|(refine Ld.at (by omega) c6 ?_)|(refine Ld.at (by omega) c7 ?_)|refine Br.t ?_|refine Pk.t ?_|refine Br.y ?_);conv=>whnf)
    have lV:=aiG.no i (Nat.le_refl _);have hOr:∀x,x∈aR O->r<x:=fun x hx=>by
     have:=hO x hx;omega
    have amC:Ly w7 5 1 O 174 oc (fun j=>.int .u8 (R.data j:Nat)):=aqt O oc rfl zA;refine anf rm7 lV ?_;intro w8 rm8 k8;conv=>whnf
    repeat (refine Ar.la ?_;conv=>whnf)
    refine⟨(i+1,Y,cY,ps++[(i,.slice O 174 oc)],_),⟨av,DA.ab k8 (by simp;omega),lyY.ab k8 (fun x hx hm=>by have:=hY x hx;rw[List.mem_singleton.1 hm] at this;omega),hY,fun h=>absurd h ct,rm8,⟨fun q hq=>?_,fun q t D hq e ht'=>?_⟩,nz.then k8 (fun x hx=>.inr (by rw[List.mem_singleton.1 hx];exact hrw))⟩,⟨rfl,hlY,rfl,vi (by simp only;omega),trivial⟩,by simp only;omega⟩
    ·rw[jv,aiG.no q (by omega)];simp only;rw[if_neg (by omega)]
    ·by_cases hqi:q=i
     ·subst hqi;rw[hp] at e
      cases e
      refine⟨O,oc,R.data,?_,hOr,hR4,amC.ab k8 (fun x hx hm=>by have:=hOr x hx;rw[List.mem_singleton.1 hm] at this;omega)⟩;rw[jv,lV];simp
     ·obtain⟨O',oc',D',a1,a2,a3,a4⟩:=aiG.yes q t D (by omega) e ht';refine⟨O',oc',D',?_,a2,a3,a4.ab k8 (fun x hx hm=>by have:=a2 x hx;rw[List.mem_singleton.1 hm] at this;omega)⟩;rw[jv,a1]
   ·conv=>whnf
    repeat ((first|(refine Ld.at (by omega) c2 ?_)|refine Br.f ?_|refine Pk.f ?_|refine Ar.la ?_|refine Br.n ?_);conv=>whnf)
    refine⟨(i+1,Y,cY,ps,_),⟨av,DA,lyY,hY,fun h=>absurd h ct,rm7,⟨fun q hq=>aiG.no q (by omega),fun q t D hq e ht'=>?_⟩,nz⟩,⟨rfl,hlY,rfl,vi (by simp only;omega),trivial⟩,by simp only;omega⟩;by_cases hqi:q=i
    ·subst hqi;rw[hp] at e
     cases e
     exact absurd ht' ht
    ·exact aiG.yes q t D (by omega) e ht'
  ·have hnt:R.tagged=false:=by
    cases e:P.pg i with
    |full t D=>exact absurd ⟨t,D,e⟩ ad7
    |blank=>rw[e] at hR;exact hR.1
    |cB n=>rw[e] at hR;exact hR.1
   rw[hnt] at c0;have efd:=ks (P:=P) (p:=i) (fun t D e=>ad7 ⟨t,D,e⟩);conv=>whnf
   repeat ((first|(refine Ld.at (by omega) c0 ?_)|refine Br.t ?_|refine Br.f ?_|refine Ar.la ?_|refine Ru.ai ?_|refine CW.s ?_);conv=>whnf)
   refine⟨(i+1,Z,cz,ps,_),⟨av,Da,by simp only[efd];exact ly5,hZ,by simp only[efd];exact om,rm5,⟨fun q hq=>ang.no q (by omega),fun q t D hq e ht=>?_⟩,dE⟩,⟨rfl,by simp only[efd];rfl,rfl,vi (by simp only;omega),trivial⟩,by simp only;omega⟩;by_cases hqi:q=i
   ·subst hqi;exact absurd ⟨t,D,e⟩ ad7
   ·exact ang.yes q t D (by omega) e ht
 ·obtain rfl:i=96:=by omega
  conv=>whnf
  repeat ((first|refine Br.f ?_|refine CW.s ?_);conv=>whnf)
  obtain⟨C',M,hA',hl'⟩:=MA;exact⟨rfl,Z,cz,r,ps,C',rfl,om,ly,rm,hps,by rw[<-ec];exact M.dz,hA',hl',kk⟩
end
section
open Go.RowKit
theorem acT(w:World)(x:Operand)(a:Addr)(n c:Nat):(do eqGuard .eql 64 x (.const (.slice none 0 0)) (.slice (some a) n c) (.slice none 0 0);binOp .eql 64 (.slice (some a) n c) (.slice none 0 0):Sem Value).run Tryz.prog w=.ok (.bool false) w:=by kernel_rfl
theorem abb(w:World)(x:Operand):(do eqGuard .eql 64 x (.const (.slice none 0 0)) (.slice none 0 0) (.slice none 0 0);binOp .eql 64 (.slice none 0 0) (.slice none 0 0):Sem Value).run Tryz.prog w=.ok (.bool true) w:=by kernel_rfl
theorem aiH(w:World):(Instr.buildSlice 64 0 #[]).run Tryz.prog w=.ok (.slice (some ⟨w.heap.size,0,none⟩) 0 0) (w.alloc (.cells #[] 69)):=by kernel_rfl
theorem xz{A:Option Addr}{c:Nat}{L:List Fd}{w:World}(r:Rd w A (L.length*6) (jn L))(om:L=[]->A=none/\c=0)(hc:L.length<=c)(hn:L.length<=96) :
  Spec Tryz.prog 120 #[.slice A L.length c] w fun v w'=>∃Y e,v=.slice Y L.length e/\Rd w' Y (L.length*6) (jn L)/\Aa [] w w':=by
 obtain⟨i0,hi,lZ,lP,l4⟩:=info_parts kS;by_cases h0:L=[]
 ·obtain⟨rfl,rfl⟩:=om h0;subst h0;refine spec_of_wpE (T:=tt) ah func120 rfl (by decide +kernel) ntmps120 (by simp) ?_;conv=>whnf
  repeat (refine CW.s ?_;conv=>whnf)
  refine Ru.of (abb w _) ?_;conv=>whnf
  repeat (refine Br.t ?_;conv=>whnf)
  exact⟨rfl,none,0,rfl,fun h=>by simp at h,Aa.refl _ _⟩
 have abH:0<L.length:=List.length_pos_iff.2 h0;obtain⟨g,o,rfl,bu⟩:=r (by omega);refine spec_of_wpE (T:=tt) ah func120 rfl (by decide +kernel) ntmps120 (by simp) ?_;conv=>whnf
 repeat (refine CW.s ?_;conv=>whnf)
 refine Ru.of (acT w _ _ _ _) ?_;conv=>whnf
 repeat (refine Br.f ?_;conv=>whnf)
 refine Ru.of (aiH w) ?_;have l0:Ly (w.alloc (.cells #[] 69)) 69 6 (some ⟨w.heap.size,0,none⟩) 0 0 (jn L):=Ly.nZ (heap_alloc_new w _) (Nat.le_refl _) (by simp) (by simp[maxLen]) (fun j hj=>by omega);have k0:Aa [] w (w.alloc (.cells #[] 69)):=(Aa.refl _ _).alloc _;conv=>whnf
 refine Bu.append underlying64 hi lZ lP l4 rfl (by omega) l0 _ (r.aj k0) hc (fun e=>by cases e) (fun j hj=>adG _ j) (by simp only[maxLen];omega) (by omega) ?_;intro Y e w' hy hk dC iq;have hkw:Aa [] w w':=k0.then hk (fun x hx=>.inr (by rw[List.mem_singleton.1 hx];exact Nat.le_refl _));rw[Nat.zero_add] at *;conv=>whnf
 have:=hy.rd;exact⟨rfl,Y,e,rfl,fun h=>by
  obtain⟨b1,o1,e1,h1⟩:=this h;exact⟨b1,o1,e1,fun j hj=>(h1 j hj).trans (by simp)⟩,hkw⟩
theorem sI(f g:Nat->Value)(j:Nat)(hj:j<62):lay f 0 62 g j=g j:=by
 unfold lay;rw[if_pos (by omega),Nat.sub_zero]
theorem aiI(f g:Nat->Value)(j:Nat)(hj:j<62):lay f 0 62 g (0+j)=g j:=by
 rw[Nat.zero_add];exact sI f g j hj
theorem acU(w:World):(Instr.build 116 #[]).run Tryz.prog w=.ok (agg 62 Cp.zero.cell) w:=by kernel_rfl
theorem afw{A:Option Addr}{c r:Nat}{L:List Fd}{w:World}(hr:Rd w A (L.length*6) (jn L))(om:L=[]->A=none/\c=0)(hc:L.length<=c)(hn:L.length<=96)(hw:aQ (mW L 96) 24 (-1)=(Fd.zero,false)) :
  Spec Tryz.prog 75 #[.slice A L.length c,.map (some r)] w fun v w'=>v=.tuple #[agg 62 Cp.zero.cell,.bool false]/\Aa [] w w':=by
 refine spec_of_wpE (T:=tt) ah func75 rfl (by decide +kernel) ntmps75 (by simp) ?_;conv=>whnf
 refine Ru.aF (ew w) ?_;intro x4 w1 pY du r4 k1;conv=>whnf
 refine Ca.of (xz (hr.aj k1) om hc hn) ?_;rintro _ w2 ⟨Y,e,rfl,hY,k2⟩;have lH:=r4.ab k2 (by simp);have dJ:=k1.trans k2;have av:=r4.lt;have hxw:w.heap.size<=x4:=by omega
 clear r4 k1 k2 hr;conv=>whnf
 refine CW.loop (ι:=Unit) (fun _ w'=>w'=w2) (fun _=>[(0,.slice Y L.length e),(1,.map (some r)),(4,.pointer (some ⟨x4,0,none⟩))]) (fun _=>0) () ah rfl ⟨rfl,rfl,rfl,trivial⟩ ?_;rintro _ wr rfl;conv=>whnf
 refine Ca.of (Bj Y e L 24 (-1) wr hY (by omega)) ?_;rintro _ w3 ⟨rfl,k3⟩;rw[hw];have fU:=lH.ab k3 (by simp);have bK:=dJ.trans k3;conv=>whnf
 refine Ru.fO ?_;intro x6 w4 hx6 ru r6 k4;conv=>whnf
 refine Ru.tU r6 ?_;intro w5 r6 k5;have q5:Aa [] w3 w5:=k4.then k5 (fun x hx=>.inr (by rw[List.mem_singleton.1 hx,hx6];exact Nat.le_refl _));have iD:=fU.ab q5 (by simp);have dE:=bK.trans q5;conv=>whnf
 repeat ((first|refine Br.t ?_|refine CW.s ?_);conv=>whnf)
 refine Ru.of (acU _) ?_;conv=>whnf
 refine Ru.gY iD bz (by omega) (fun j hj=>Cp.bH _ j) ?_;intro w6 ns k6;conv=>whnf
 refine Ru.ve ns underlying116 rfl bz (by omega) ?_;conv=>whnf
 refine⟨rfl,?_,dE.fresh hxw k6⟩;show Value.tuple #[agg 62 _,.bool false]=_;rw[br (fun j hj=>aiI _ _ j hj)]
structure Di(w:World)(r:Nat)(L:List Fd)(ps:List (Nat×Value))(k:Cp):Prop where
 told:k.told
 mp:A9 w r ps
 new:∃f:Fd,∃p:Nat,aQ (mW L 96) 24 (-1)=(f,true)/\f.place=p/\∃O oc,gD p ps=some (.slice O 174 oc)/\Ly w 5 1 O 174 oc (fun j=>.int .u8 (lI k j))
theorem xA{A:Option Addr}{c r:Nat}{L:List Fd}{ps:List (Nat×Value)}{k:Cp}{w:World}(hr:Rd w A (L.length*6) (jn L))(om:L=[]->A=none/\c=0)(hc:L.length<=c)(hn:L.length<=96)(hN:Di w r L ps k) :
  Spec Tryz.prog 75 #[.slice A L.length c,.map (some r)] w fun v w'=>v=.tuple #[agg 62 k.cell,.bool true]/\Aa [] w w':=by
 obtain⟨hk,hmp,f,p,hw,hfp,O,oc,aoK,hO⟩:=hN;refine spec_of_wpE (T:=tt) ah func75 rfl (by decide +kernel) ntmps75 (by simp) ?_;conv=>whnf
 refine Ru.aF (ew w) ?_;intro x4 w1 pY du r4 k1;conv=>whnf
 refine Ca.of (xz (hr.aj k1) om hc hn) ?_;rintro _ w2 ⟨Y,e,rfl,hY,k2⟩;have lH:=r4.ab k2 (by simp);have dJ:=k1.trans k2;have av:=r4.lt;have hxw:w.heap.size<=x4:=by omega
 clear r4 k1 k2 hr;conv=>whnf
 refine CW.loop (ι:=Unit) (fun _ w'=>w'=w2) (fun _=>[(0,.slice Y L.length e),(1,.map (some r)),(4,.pointer (some ⟨x4,0,none⟩))]) (fun _=>0) () ah rfl ⟨rfl,rfl,rfl,trivial⟩ ?_;rintro _ wr rfl;conv=>whnf
 refine Ca.of (Bj Y e L 24 (-1) wr hY (by omega)) ?_;rintro _ w3 ⟨rfl,k3⟩;rw[hw];have fU:=lH.ab k3 (by simp);have bK:=dJ.trans k3;conv=>whnf
 refine Ru.fO ?_;intro x6 w4 hx6 ru r6 k4;conv=>whnf
 refine Ru.tU r6 ?_;intro w5 r6 k5;have q5:Aa [] w3 w5:=k4.then k5 (fun x hx=>.inr (by rw[List.mem_singleton.1 hx,hx6];exact Nat.le_refl _));have iD:=fU.ab q5 (by simp);have dE:=bK.trans q5;have c0:w5.cell? ⟨x6,0,none⟩=some (.int .i64 (p:Nat)):=(r6.cell 0 (by omega)).trans (by show some (Value.int .i64 f.place)=_;rw[hfp]);have aqu:=hmp.ab dE (by simp);conv=>whnf
 repeat ((first|(refine Ld.at (by omega) c0 ?_)|refine Br.f ?_|refine CW.s ?_);conv=>whnf)
 refine Ru.of (ak0 aqu aoK) ?_;conv=>whnf
 repeat (refine Br.t ?_;conv=>whnf)
 have hO5:=(hO.aj dE).rd;rw[Nat.mul_one] at hO5;have uo:174<=oc:=hO.1;obtain⟨g,oo,rfl,bu⟩:=hO5 (by omega);refine Ca.of (ahS w5 g oo oc k hk uo bu) ?_;rintro _ w6 ⟨rfl,k6⟩;have ns:=iD.ab k6 (by simp);have fX:=dE.trans k6;conv=>whnf
 refine Ru.aF (ew w6) ?_;intro x10 w7 hx10 hs7 r10 k7;conv=>whnf
 refine Ru.gY r10 bz (by omega) (fun j hj=>Cp.bH _ j) ?_;intro w8 anh k8;have q8:Aa [] w6 w8:=k7.then k8 (fun x hx=>.inr (by rw[List.mem_singleton.1 hx,hx10];exact Nat.le_refl _));have r48:=ns.ab q8 (by simp);have pK:=fX.trans q8;have anh:Row w8 x10 116 62 k.cell:=anh.congr (fun j hj=>sI _ _ j hj);conv=>whnf
 repeat ((first|refine Br.t ?_|refine Ru.au ?_);conv=>whnf)
 refine Ru.cG (q:=k.cell) anh underlying116 rfl bz (by omega) (fun j hj=>by rw[Nat.zero_add]) ?_;conv=>whnf
 refine Ru.gY r48 bz (by omega) (fun j hj=>Cp.bH _ j) ?_;intro w9 r49 k9;conv=>whnf
 refine Ru.ve r49 underlying116 rfl bz (by omega) ?_;conv=>whnf
 refine⟨rfl,?_,pK.fresh hxw k9⟩;show Value.tuple #[agg 62 _,.bool true]=_;rw[br (fun j hj=>aiI _ _ j hj)]
end
end Go.Proofs.YtaeikigfgfcadaaGreat
