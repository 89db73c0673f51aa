/- Texts behind one another: Data, PutGet, App0, EqS, Tag, TagEnc, TagDec, Media, TgMath, Pgm, PgmW, Near, Abs, MedE, Clone, MedA, Claim, ByPlace, Newest, Claim2, Claim3, Claim4, ClaimMath, ClN, Pool. -/
import Derived.Deep.AppendSrc
import Derived.Laws.CopyRow
import Derived.Laws.StructEq
import Derived.Deep.RegionHeld3
import Derived.Test.YtaeikigfgfcadaaGreatMr0a
import Derived.Test.YtaeikigfgfcadaaGreatMr0b
namespace Go.Proofs.YtaeikigfgfcadaaGreat
open Go.Proofs.Tryz
set_option maxHeartbeats 4000000
set_option maxRecDepth 20000
set_option linter.unusedVariables false
set_option linter.unusedSimpArgs false
set_option linter.unnecessarySimpa false
section
open Go.RowKit
attribute [local irreducible] GF.pw GF.lg GF.mul GF.inv GF.xt
theorem alX(w:World):(Instr.alloc 37 true (.tuple #[])).run Tryz.prog w=.ok (.pointer (some ⟨w.heap.size,0,none⟩)) (w.alloc (.cells #[.slice none 0 0] 37)):=by kernel_rfl
theorem alY(w:World):(Instr.alloc 3 true (.tuple #[])).run Tryz.prog w=.ok (.pointer (some ⟨w.heap.size,0,none⟩)) (w.alloc (.cells #[.int .i64 0] 3)):=by kernel_rfl
def Near(V W:Nat->Nat):Prop:=(∀i,V i<256)/\GF.Az V/\GF.cc V W<=2
def Df(W:Nat->Nat):Prop:=∀C:Nat->Nat,(∀i,C i<256)->GF.Az C->2<GF.cc C W
def Ch(w:World)(g:Nat)(p:Nat->Nat)(v:Value)(w':World):Prop :=
 FK w g w'/\((∃(O:Option Addr) (oc:Nat) (V:Nat->Nat->Nat) (m:Int),(∀k,k<3->Near (V k) (gi p k))/\v=.tuple #[.slice O 174 oc,.int .i64 m,al 0]/\(∀x,x∈aK O->w.heap.size<=x)/\Ly w' 5 1 O 174 oc (fun j=>.int .u8 (V (j/58) (j%58):Nat))) \/
  (v=.tuple #[.slice none 0 0,.int .i64 0,al 5]/\∃k,k<3/\Df (gi p k)))
structure Cu(w:World)(N0 f c g h xf xr xn xe xo xm pb o d:Nat)(p:Nat->Nat)(pre:List (Fin 3))(W:World):Prop where
 sz:N0<=W.heap.size
 fk:FK w g W
 jk:Frm W f c g h
 rxf:Row W xf 248 1 (fun _=>.pointer (some ⟨f,0,none⟩))
 wB:Row W xr 37 1 (fun _=>.slice none 0 0)
 rxn:Row W xn 3 1 (fun _=>.int .i64 0)
 zg:Row W xe 33 1 (fun _=>.nilIface)
 rq:AI W (some ⟨pb,o,none⟩) 192 p
 out:∃(O:Option Addr) (oc:Nat) (V:Nat->Nat->Nat) (m:Int),Row W xo 37 1 (fun _=>.slice O (pre.length*58) oc)/\Ly W 5 1 O (pre.length*58) oc (fun j=>.int .u8 (V (j/58) (j%58):Nat))/\(∀x,x∈aK O->N0<=x)/\Row W xm 3 1 (fun _=>.int .i64 m)/\∀k (hk:k<pre.length),Near (V k) (gi p pre[k].1)
structure CT(w:World)(N0 g xr xn xe:Nat)(p:Nat->Nat)(pre:List (Fin 3))(W:World):Prop where
 sz:N0<=W.heap.size
 fk:FK w g W
 wB:Row W xr 37 1 (fun _=>.slice none 0 0)
 rxn:Row W xn 3 1 (fun _=>.int .i64 0)
 zg:Row W xe 33 1 (fun _=>al 5)
 bW:∃k,k<3/\Df (gi p k)
theorem A7.held{P:Program}{T:TT}{n m:Nat}(S:World->Prop)(D:List Nat)(p:A4){id:Nat}{l:List Oper}{f:Fr}{ds:List Deferred}{w:World}{Q:Exit->Fr->List Deferred->World->Prop}(hT:TT.ok P T=true)(hm:P.follows .mixedOrders=true)(hs:Region.noSelect l.toArray=true)
  (hp:fy l.toArray D true p l.length (Array.replicate l.length false)=true) (hS:S (w.drewN 1)) (h:evP P T n S D l p f (w.drewN 1) fun f' w'=>Q .normal f' ds w'):A7 Fence.wide m P n (.region id l.toArray true) Q f ds w:=⟨fun a ha=>wpIn_wide.2 (by
 refine wp_region_any hm (oI (S:=S) (D:=D) _ _ _ _ ?_);have e:l.toArray.size=l.length:=by simp
 rw[e];exact dS (ops:=l.toArray) hT hs (fun c a w hq=>hq.1) p _ _ hp h ha (fun _=>hS) fun f' a' w' hk hf=>⟨trivial,f',ds,hf,hk⟩)⟩
theorem aoO:∀k (hk:k<3),((upto 3 (by decide) 3)[k]'(by rw[dF];exact hk)).1=k:=by decide
theorem eV{W:World}{row:Option Nat}{B x:Nat}(hr:∀r,row=some r->B<=r/\∃o:Obj,W.heap[r]?=some o/\o.isCells=false)(hx:∀o,W.heap[x]?=some o->o.isCells=true):x∉row.toList:=fun hm=>by
 cases row with
 |none=>cases hm
 | some r =>
  obtain rfl:x=r:=by simpa using hm
  obtain⟨_,o,h1,h2⟩:=hr _ rfl;rw[hx o h1] at h2
  cases h2
theorem aht{W:World}{row:Option Nat}{B:Nat}(hr:∀r,row=some r->B<=r/\∃o:Obj,W.heap[r]?=some o/\o.isCells=false):∀x,x∈row.toList->B<=x:=fun x hx=>by
 cases row with
 |none=>cases hx
 | some r =>
  obtain rfl:x=r:=by simpa using hx
  exact(hr _ rfl).1
theorem ahu{W:World}{b o n:Nat}{F:Nat->Value}(r:Rd W (some ⟨b,o,none⟩) n F)(hn:0<n):∀q,W.heap[b]?=some q->q.isCells=true:=fun q hq=>by
 obtain⟨b2,o2,e,hc⟩:=r hn
 cases e
 obtain⟨q2,h1,h2⟩:=cells_of_cell (hc 0 hn);rw[hq] at h1
 cases h1
 exact h2
theorem akG(w:World)(f c g h d:Nat)(A:Option Addr)(p:Nat->Nat)(hp:∀j,p j<256)(r:AI w A 256 p)(hd:256<=d)(hA:∀a,A=some a->a.block≠g)(H:Frm w f c g h) :
  Spec Tryz.prog 169 #[.pointer (some ⟨f,0,none⟩),.slice A 256 d] w (Ch w g p):=by
 obtain⟨pb,o,rfl,hpc⟩:=r (by omega);have bA:pb≠g:=hA _ rfl;have hpl:pb<w.heap.size:=aZ (hpc 0 (by omega));refine spec_of_wpI (T:=tt) 3 ai func169 rfl (by decide +kernel) ntmps169 (by simp) ?_;conv=>whnf
 refine Ru.wA (adY _ _) ?_;intro xf w1 hxf dj rxf k1;conv=>whnf
 refine Ru.wA (alX _) ?_;intro xr w2 hxr gO wB k2;conv=>whnf
 refine Ru.wA (alY _) ?_;intro xn w3 hxn gg rxn k3;conv=>whnf
 refine Ru.wA (adZ _) ?_;intro xe w4 hxe qB zg k4;conv=>whnf
 repeat ((first|(refine A7.seq ai jV ?_)|refine Br.f ?_);conv=>whnf)
 refine Ru.wA (alX _) ?_;intro xo w5 hxo hs5 rxo k5;conv=>whnf
 refine Ru.wA (alY _) ?_;intro xm w6 hxm hs6 rxm k6;conv=>whnf
 refine Sd.rowAt rxm 0 (by omega) (by omega) rfl ?_;intro zh rxm2 k6b;conv=>whnf
 repeat ((first|(refine A7.seq ai jV ?_)|(refine Ru.ae6 underlying37 pG (h:=192) (by omega) ?_));conv=>whnf)
 refine Ca.of (xw zh _ _ _ _) ?_;rintro _ w8 ⟨rfl,hw8⟩;conv=>whnf
 have k06:=((((k1.trans k2).trans k3).trans k4).trans k5).trans k6;have ar2:=k6b.size;have qz:=H.iH.fs.lt;have sr:=H.row.lt;have hcl:=H.iH.row.lt;have hhl:=H.iH.gen.lt;have k0b:Aa [] w zh:=k06.then k6b (fun x hx=>.inr (by rw[List.mem_singleton.1 hx];omega));have aqB:w8.heap.size=zh.heap.size+2:=by rw[hw8];simp
 have rb:Row w8 zh.heap.size 37 1 (fun _=>.slice (some ⟨pb,o,none⟩) 192 d):=by
  rw[hw8];exact(afg zh _ _).ab ((Aa.refl [] _).alloc _) (by simp)
 have rs:Row w8 (zh.heap.size+1) 3 1 (fun _=>.int .i64 64):=by
  rw[hw8];have:=afg (zh.alloc (.cells #[.slice (some ⟨pb,o,none⟩) 192 d] 37)) 3 (.int .i64 64);simpa using this
 have kb8:Aa [] zh w8:=by
  rw[hw8];exact((Aa.refl [] _).alloc _).alloc _
 clear hw8;have k08:=k0b.trans kb8;have wC:Cu w w8.heap.size f c g h xf xr xn xe xo xm pb o d p [] w8:=by
  have H8:=H.aj k08 (by simp) (by simp) (by simp) (by simp);have k5b:Aa [xm] w5 w8:=((k6.mono (by simp)).trans k6b).trans (kb8.mono (by simp));have k4b:Aa [xm] w4 w8:=(k5.mono (by simp)).trans k5b;have k3b:Aa [xm] w3 w8:=(k4.mono (by simp)).trans k4b;have k2b:Aa [xm] w2 w8:=(k3.mono (by simp)).trans k3b;have k1b:Aa [xm] w1 w8:=(k2.mono (by simp)).trans k2b
  exact⟨Nat.le_refl _,⟨H8.iH.fs,k08.mono (by simp)⟩,H8,rxf.ab k1b (by simp;omega),wB.ab k2b (by simp;omega),rxn.ab k3b (by simp;omega),zg.ab k4b (by simp;omega),(Rd.pf r (by omega)).aj k08,none,0,fun _ _=>0,0,rxo.ab k5b (by simp;omega),Ly.nil _ _ _ _,(fun x hx=>by cases hx),(rxm2.ab kb8 (by simp)).congr (fun i hi=>by
   obtain rfl:i=0:=by omega
   rfl),fun i hi=>absurd hi (by simp)⟩
 refine A7.range (α:=Fin 3) ai (by omega) (gf:=209) (lb := #[.pointer (some ⟨zh.heap.size+1,0,none⟩),.pointer (some ⟨zh.heap.size,0,none⟩)]) rfl (enters_of func209 (by kernel_rfl) rfl)
  (tR Fence.wide 2 trivial rfl (by omega) zh.heap.size (zh.heap.size+1) pb o d (by omega) w8 (by omega) (by omega) (rb.cell 0 (by omega)) (rs.cell 0 (by omega)))
  (fun h k=>Cb.trans h k) ?kb (fun x=>rfl) (Cu w w8.heap.size f c g h xf xr xn xe xo xm pb o d p) (CT w w8.heap.size g xr xn xe p) ?own ?ownx wC
  (fun a x=>((({ a with defers:=[] }:Act).put (some 21) (.int .i64 (x.1:Int))).put (some 22) (.slice (some ⟨pb,o+x.1*64,none⟩) ((x.1+1)*64-x.1*64) (d-x.1*64))).put (some 10) (.slice (some ⟨pb,o+x.1*64,none⟩) ((x.1+1)*64-x.1*64) (d-x.1*64)))
  (fun x=>[(10,.slice (some ⟨pb,o+x.1*64,none⟩) ((x.1+1)*64-x.1*64) (d-x.1*64)),(2,.pointer (some ⟨xf,0,none⟩)),(4,.pointer (some ⟨xr,0,none⟩)),(5,.pointer (some ⟨xn,0,none⟩)),(6,.pointer (some ⟨xe,0,none⟩)),(7,.pointer (some ⟨xo,0,none⟩)),(8,.pointer (some ⟨xm,0,none⟩))])
  ?agr ?assign ?body ?done ?stop
 case kb =>
  intro W l o o' hl _ _ _;have h1:∀i,i<l->(W.putObj l o').cell? ⟨i,0,none⟩=W.cell? ⟨i,0,none⟩:=fun i hi=>World.cell?_of_block (w:=W) (World.putObj_heap_other (by show _≠_;first|exact Nat.ne_of_lt hi|exact Nat.ne_of_gt hi));exact⟨h1 zh.heap.size (by omega),h1 (zh.heap.size+1) (by omega)⟩
 case own =>
  intro pre W W' row hI hg hr;have k:=gj hg;have hB:=aht hr;obtain⟨O,oc,V,m,ro,lo,hO,rm,hw⟩:=hI.out;have hg':=eV hr (FS.cells hI.fk.fs)
  exact⟨Nat.le_trans hI.sz k.size,⟨hI.fk.fs.ab k hg',hI.fk.kp.then k (fun x hx=>.inr (by have:=hB x hx;omega))⟩,hI.jk.aj k (eV hr (aG hI.jk.row)) (eV hr (aG hI.jk.iH.row)) hg' (eV hr (aG hI.jk.iH.gen)),hI.rxf.ab k (eV hr (aG hI.rxf)),hI.wB.ab k (eV hr (aG hI.wB)),hI.rxn.ab k (eV hr (aG hI.rxn)),hI.zg.ab k (eV hr (aG hI.zg)),hI.rq.ab k (fun a e=>by cases e;exact eV hr (ahu hI.rq (by omega))),
   O,oc,V,m,ro.ab k (eV hr (aG ro)),lo.ab k (fun x hx=>eV hr (jW lo x hx)),hO,rm.ab k (eV hr (aG rm)),hw⟩
 case ownx =>
  intro pre W W' row hI hg hr;have k:=gj hg;have hB:=aht hr;exact⟨Nat.le_trans hI.sz k.size,⟨hI.fk.fs.ab k (eV hr (FS.cells hI.fk.fs)),hI.fk.kp.then k (fun x hx=>.inr (by have:=hB x hx;omega))⟩,hI.wB.ab k (eV hr (aG hI.wB)),hI.rxn.ab k (eV hr (aG hI.rxn)),hI.zg.ab k (eV hr (aG hI.zg)),hI.bW⟩
 case agr =>
  intro a x ha;have h0:Au 44 _ { a with defers:=[] }:=⟨ha.size,rfl,ha.get⟩;refine((((h0.put 21 (by decide) _).put 22 (by decide) _).put 10 (by decide) _)).forget (m7 ?_);exact⟨rfl,rfl,rfl,rfl,rfl,rfl,rfl,trivial⟩
 case assign =>
  intro a ha l x W K hK;have vP:22<a.tmps.size:=by rw[ha.size];decide
  have fR:Array.foldl (fun(t:Array Value) (x:Tmp×Value)=>match x with|(p,v)=>t.setIfInBounds p v) a.tmps (#[21,22].zip (aaJ pb o d x))=(a.tmps.setIfInBounds 21 (.int .i64 (x.1:Int))).setIfInBounds 22 (.slice (some ⟨pb,o+x.1*64,none⟩) ((x.1+1)*64-x.1*64) (d-x.1*64)):=by
   unfold aaJ;simp
  rw[fR];refine wpIn_region_list ?_;unfold wpListIn;rw[if_pos (by rfl)];refine Bd.wpIn (iI l) (aA (v:=.slice (some ⟨pb,o+x.1*64,none⟩) ((x.1+1)*64-x.1*64) (d-x.1*64)) (w':=W) (by simp) ?_ ?_)
  ·have e:((a.tmps.setIfInBounds 21 (.int .i64 (x.1:Int))).setIfInBounds 22 (.slice (some ⟨pb,o+x.1*64,none⟩) ((x.1+1)*64-x.1*64) (d-x.1*64))).getD 22 undef=.slice (some ⟨pb,o+x.1*64,none⟩) ((x.1+1)*64-x.1*64) (d-x.1*64):=by
    rw[Array.getD_eq_getD_getElem?,Array.getElem?_setIfInBounds_self_of_lt (by simpa using vP)];rfl
   exact congrArg (fun v=>Result.ok (Next.value v) W) e
  ·exact hK
 case body =>
  intro l pre x W hI hl;obtain⟨O,oc,V,m,ro,lo,hO,rm,hw⟩:=hI.out;have hx3:=x.2;have rx:AI W (some ⟨pb,o+x.1*64,none⟩) 64 (gi p x.1):=fun _=>⟨pb,o+x.1*64,rfl,fun j hj=>by
   obtain⟨b2,o2,e3,hc⟩:=hI.rq (by omega)
   cases e3
   have:=hc (x.1*64+j) (by omega);rw[<-Nat.add_assoc] at this;exact this⟩
  rw[show(x.1+1)*64-x.1*64=64 by omega];conv=>whnf
  repeat ((first|(refine Ld.row hI.rxf (by decide) ?_)|(refine Ld.row hI.jk.row (by decide) ?_));conv=>whnf)
  refine Ca.of (ahg W c g h (d-x.1*64) (some ⟨pb,o+x.1*64,none⟩) (gi p x.1) (fun j=>hp _) rx (by omega) (fun a e=>by cases e;exact bA) hI.jk.iH) ?_;rintro v W1 ⟨f1,hv⟩;rcases hv with⟨b1,e1,Vn,nR,hV,pH,zf,rfl,wd1⟩|⟨rfl,cN⟩
  ·conv=>whnf
   repeat ((first|(refine A7.seq ai (iI l) ?_)|refine Br.f ?_|refine Ru.ak ?_);conv=>whnf)
   have ro1:=ro.ab f1.kp (by simp;omega);have rm1:=rm.ab f1.kp (by simp;omega);have hOg:∀y,y∈aK O->y∉[g]:=fun y hy e=>by
    have:=hO y hy;rw[List.mem_singleton.1 e] at this;omega
   have lo1:=lo.ab f1.kp hOg;refine Ld.row ro1 (by decide) ?_;obtain⟨i0,hi,lZ,lR,l4⟩:=info_parts dR;conv=>whnf
   refine Bu.append underlying37 hi lZ lR l4 rfl (by omega) lo1 (B:=some ⟨b1,0,none⟩) (m:=58) (d:=58) (fun j=>.int .u8 (Vn j:Nat)) (by rw[Nat.mul_one];exact Rd.pf wd1.th (by omega)) (by omega) (fun e=>by cases e) (fun j hj=>rfl) (by simp only[maxLen];omega) (by omega) ?_;intro O' oc' W2 lo2 kA da gZ;have ro2:=ro1.ab kA (Ly.aL lo1 ro1 (by decide));have rm2:=rm1.ab kA (Ly.aL lo1 rm1 (by decide));conv=>whnf
   refine Sd.rowAt ro2 0 (by omega) (by omega) rfl ?_;intro W3 ro3 kB;have rm3:=rm2.ab kB (by simp;omega);conv=>whnf
   refine Ld.row rm3 (by decide) ?_;conv=>whnf
   refine Sd.rowAt rm3 0 (by omega) (by omega) rfl ?_;intro W4 rm4 kC;have ro4:=ro3.ab kC (by simp;omega);conv=>whnf
   have hsW:=hI.sz;have z1:=f1.kp.size;have z2:=kA.size;have z3:=kB.size;have z4:=kC.size;have c0:∀i:Nat,i<1->i=0:=fun i hi=>by omega
   have l6:Aa (g::xo::xm::aK O) W W4:=(((f1.kp.mono (by simp)).trans (kA.mono (by intro x hx;simp[hx]))).trans (kB.mono (by simp))).trans (kC.mono (by simp));have nS:∀y,y≠g->y≠xo->y≠xm->y<w8.heap.size->y∉g::xo::xm::aK O:=fun y h1 h2 h3 h4 hm=>by
    rcases List.mem_cons.1 hm with e|hm
    ·exact h1 e
    ·rcases List.mem_cons.1 hm with e|hm
     ·exact h2 e
     ·rcases List.mem_cons.1 hm with e|hm
      ·exact h3 e
      ·have:=hO y hm;omega
   have nO:∀y,y<w8.heap.size->y∉aK O:=fun y h1 h2=>by have:=hO y h2;omega
   have ahs:Frm W4 f c g h:=((((hI.jk.of f1).aj kA (nO f (by omega)) (nO c (by omega)) (nO g (by omega)) (nO h (by omega))).aj kB (by simp;omega) (by simp;omega) (by simp;omega) (by simp;omega)).aj kC (by simp;omega) (by simp;omega) (by simp;omega) (by simp;omega));refine⟨?_,⟨l6.cell (p:=⟨zh.heap.size,0,none⟩) (by simp only;omega) (nS zh.heap.size (by omega) (by omega) (by omega) (by omega)),l6.cell (p:=⟨zh.heap.size+1,0,none⟩) (by simp only;omega) (nS (zh.heap.size+1) (by omega) (by omega) (by omega) (by omega))⟩,?_⟩
   ·exact(bz _ f1.kp (fun y hy=>by rw[List.mem_singleton.1 hy];exact FS.cells hI.fk.fs)).trans ((bz _ kA (jW lo1)).trans ((bz _ kB (fun y hy=>by rw[List.mem_singleton.1 hy];exact aG ro2)).trans (bz _ kC (fun y hy=>by rw[List.mem_singleton.1 hy];exact aG rm3))))
   ·refine⟨by omega,⟨ahs.iH.fs,hI.fk.kp.then l6 (fun y hy=>?_)⟩,ahs,hI.rxf.ab l6 (nS xf (by omega) (by omega) (by omega) (by omega)),hI.wB.ab l6 (nS xr (by omega) (by omega) (by omega) (by omega)),hI.rxn.ab l6 (nS xn (by omega) (by omega) (by omega) (by omega)),hI.zg.ab l6 (nS xe (by omega) (by omega) (by omega) (by omega)),hI.rq.ab l6 (fun a e=>by cases e;exact nS pb bA (by omega) (by omega) (by omega)),
     O',oc',(fun k=>if k=pre.length then Vn else V k),_,?_,?_,?_,rm4.congr (fun i hi=>by rw[c0 i hi];rfl),?_⟩
    ·rcases List.mem_cons.1 hy with e|hy
     ·exact .inl (by simp[e])
     ·rcases List.mem_cons.1 hy with e|hy
      ·exact .inr (by omega)
      ·rcases List.mem_cons.1 hy with e|hy
       ·exact .inr (by omega)
       ·exact .inr (by have:=hO y hy;omega)
    ·rw[List.length_append,show(pre.length+[x].length)*58=pre.length*58+58 by simp;omega];exact ro4.congr (fun i hi=>by rw[c0 i hi];rfl)
    ·rw[List.length_append,show(pre.length+[x].length)*58=pre.length*58+58 by simp;omega];refine((lo2.ab kB (fun y hy e=>Ly.aL lo2 ro2 (by decide) (by rw[List.mem_singleton.1 e] at hy;exact hy))).ab kC (fun y hy e=>Ly.aL lo2 rm2 (by decide) (by rw[List.mem_singleton.1 e] at hy;exact hy))).congr (fun i hi=>?_);simp only[Nat.mul_one] at hi ⊢;by_cases hi2:i<pre.length*58
     ·rw[if_pos hi2,if_neg (by omega)]
     ·rw[if_neg hi2,if_pos (by omega),show i%58=i-pre.length*58 by omega]
    ·intro y hy;rcases da with e|e
     ·rw[e] at hy;exact hO y hy
     ·rw[e] at hy;rw[List.mem_singleton.1 hy];simp only;omega
    ·intro k hk;rw[List.length_append] at hk;simp only[List.length_singleton] at hk;by_cases hk2:k=pre.length
     ·subst hk2;have e:(pre++[x])[pre.length]'(by simp)=x:=by simp
      rw[e];show Near (if pre.length=pre.length then Vn else V pre.length) _;rw[if_pos rfl];exact⟨hV,pH,zf⟩
     ·show Near (if k=pre.length then Vn else V k) _;rw[if_neg hk2,List.getElem_append_left (by omega)];exact hw k (by omega)
  ·conv=>whnf
   repeat ((first|(refine A7.seq ai (iI l) ?_)|refine Br.t ?_|refine Ru.n1 ?_);conv=>whnf)
   have r1:=hI.wB.ab f1.kp (by simp;omega);have n1:=hI.rxn.ab f1.kp (by simp;omega);have e1:=hI.zg.ab f1.kp (by simp;omega);refine Sd.rowAt r1 0 (by omega) (by omega) rfl ?_;intro W2 r2 kA;have n2:=n1.ab kA (by simp;omega);have e2:=e1.ab kA (by simp;omega);conv=>whnf
   refine Sd.rowAt n2 0 (by omega) (by omega) rfl ?_;intro W3 n3 kB;have r3:=r2.ab kB (by simp;omega);have e3:=e2.ab kB (by simp;omega);conv=>whnf
   refine Sd.rowAt e3 0 (by omega) (by omega) rfl ?_;intro W4 e4 kC;have r4:=r3.ab kC (by simp;omega);have n4:=n3.ab kC (by simp;omega);conv=>whnf
   have c0:∀i:Nat,i<1->i=0:=fun i hi=>by omega
   have vP:=hI.sz;have z1:=f1.kp.size;have z2:=kA.size;have z3:=kB.size;have z4:=kC.size;refine⟨(bz _ f1.kp (fun y hy=>by rw[List.mem_singleton.1 hy];exact FS.cells hI.fk.fs)).trans ((bz _ kA (fun y hy=>by rw[List.mem_singleton.1 hy];exact aG r1)).trans ((bz _ kB (fun y hy=>by rw[List.mem_singleton.1 hy];exact aG n2)).trans (bz _ kC (fun y hy=>by rw[List.mem_singleton.1 hy];exact aG e3)))),by omega,⟨((f1.fs.ab kA (by simp;omega)).ab kB (by simp;omega)).ab kC (by simp;omega),(((hI.fk.kp.trans f1.kp).then kA (fun y hy=>.inr (by rw[List.mem_singleton.1 hy];omega))).then kB (fun y hy=>.inr (by rw[List.mem_singleton.1 hy];omega))).then kC (fun y hy=>.inr (by rw[List.mem_singleton.1 hy];omega))⟩,r4.congr (fun i hi=>by rw[c0 i hi];rfl),n4.congr (fun i hi=>by rw[c0 i hi];rfl),e4.congr (fun i hi=>by rw[c0 i hi];rfl),x.1,hx3,cN⟩
 case done =>
  rintro Dn xs W hDn rfl hI hK;obtain⟨O,oc,V,m,ro,lo,hO,rm,hw⟩:=hI.out;rw[dF] at ro lo;conv=>whnf
  refine A7.held (fun w'=>Row w' xo 37 1 (fun _=>.slice O (3*58) oc)/\Row w' xm 3 1 (fun _=>.int .i64 m)) [4] (.take 0 (.take 1 (.one 2 (.one 3 (.one 4 .done))))) ai (by kernel_rfl) (by kernel_rfl) (by kernel_rfl) ⟨ro.drewN 1,rm.drewN 1⟩ ?_;have k0:Aa [] W (W.drewN 1):=(Aa.refl _ _).drewN 1;have hK':(W.drewN 1).heap[Dn]?=some (.deferred (some [])):=hK;have fk':FK w g (W.drewN 1):=⟨hI.fk.fs.drewN 1,hI.fk.kp.drewN 1⟩;have ro':=ro.drewN 1;have rm':=rm.drewN 1;have rr':=hI.wB.drewN 1;have rn':=hI.rxn.drewN 1;have re':=hI.zg.drewN 1;have lo':=lo.aj k0;have hsW:=hI.sz;generalize W.drewN 1=Wa at *;conv=>whnf
  repeat ((first|(refine Ag.row (fun _ h=>h.1) (by decide) ?_)|(refine Ag.row (fun _ h=>h.2) (by decide) ?_));conv=>whnf)
  refine Sd.rowAt rr' 0 (by omega) (by omega) rfl ?_;intro W1 r1 kA;have ro1:=ro'.ab kA (by simp;omega);have rm1:=rm'.ab kA (by simp;omega);have n1:=rn'.ab kA (by simp;omega);have e1:=re'.ab kA (by simp;omega);conv=>whnf
  refine⟨⟨ro1,rm1⟩,?_⟩;conv=>whnf
  refine Sd.rowAt n1 0 (by omega) (by omega) rfl ?_;intro W2 n2 kB;have ro2:=ro1.ab kB (by simp;omega);have rm2:=rm1.ab kB (by simp;omega);have r2:=r1.ab kB (by simp;omega);have e2:=e1.ab kB (by simp;omega);conv=>whnf
  refine⟨⟨ro2,rm2⟩,?_⟩;conv=>whnf
  refine Sd.rowAt e2 0 (by omega) (by omega) rfl ?_;intro W3 e3 kC;have r3:=r2.ab kC (by simp;omega);have n3:=n2.ab kC (by simp;omega);conv=>whnf
  have nD0:Ap Wa Dn:=⟨_,hK',rfl⟩;have d1:=nD0.ne rr';have hK1:W1.heap[Dn]?=some (.deferred (some [])):=(kA.block Dn (Array.getElem?_eq_some_iff.1 hK').1 (by simpa using d1.symm)).trans hK';have nD1:Ap W1 Dn:=⟨_,hK1,rfl⟩;have d2:=nD1.ne n1;have wD:W2.heap[Dn]?=some (.deferred (some [])):=(kB.block Dn (Array.getElem?_eq_some_iff.1 hK1).1 (by simpa using d2.symm)).trans hK1;have nD2:Ap W2 Dn:=⟨_,wD,rfl⟩;have d3:=nD2.ne e2;have hK3:W3.heap[Dn]?=some (.deferred (some [])):=(kC.block Dn (Array.getElem?_eq_some_iff.1 wD).1 (by simpa using d3.symm)).trans wD;have nD3:Ap W3 Dn:=⟨_,hK3,rfl⟩;have kD:Aa [Dn] W3 (W3.putObj Dn (.deferred none)):=gj (grownBy_putObj' W3 Dn _);refine⟨W3.putObj Dn (.deferred none),⟨Dn,rfl,hK3,rfl⟩,?_⟩;have r4:=r3.ab kD (by simpa using d1);have n4:=n3.ab kD (by simpa using d2);have e4:=e3.ab kD (by simpa using d3);have fs:=(((fk'.fs.ab kA (by simp;omega)).ab kB (by simp;omega)).ab kC (by simp;omega)).ab kD (by simp;omega);have kp:=(((fk'.kp.then kA (fun y hy=>.inr (by rw[List.mem_singleton.1 hy];omega))).then kB (fun y hy=>.inr (by rw[List.mem_singleton.1 hy];omega))).then kC (fun y hy=>.inr (by rw[List.mem_singleton.1 hy];omega))).then kD (fun y hy=>.inr (by rw[List.mem_singleton.1 hy];omega));have hOx:∀z,z<w8.heap.size->∀y,y∈aK O->y∉[z]:=fun z hz y hy e=>by
   have:=hO y hy;rw[List.mem_singleton.1 e] at this;omega
  have lo3:=((lo'.ab kA (hOx _ (by omega))).ab kB (hOx _ (by omega))).ab kC (hOx _ (by omega));have lo4:=lo3.ab kD (nD3.amW lo3);generalize W3.putObj Dn (.deferred none)=W4 at *;conv=>whnf
  refine Ru.ldc (by decide +kernel) (r4.cell 0 (by omega)) ?_;conv=>whnf
  refine Ru.ldc (by decide +kernel) (n4.cell 0 (by omega)) ?_;conv=>whnf
  refine Ru.ldc (by decide +kernel) (e4.cell 0 (by omega)) ?_;conv=>whnf
  exact⟨rfl,⟨fs,kp⟩,.inl ⟨O,oc,V,m,fun k hk=>by
   have:=hw k (by rw[dF];exact hk);rw[aoO k hk] at this;exact this,rfl,fun y hy=>by have:=hO y hy;omega,lo4⟩⟩
 case stop =>
  rintro Dn pre W hDn-hI hK;have nD:Ap W Dn:=⟨_,hK,rfl⟩;refine⟨W.putObj Dn (.deferred none),⟨Dn,rfl,hK,rfl⟩,?_⟩;have kD:Aa [Dn] W (W.putObj Dn (.deferred none)):=gj (grownBy_putObj' W Dn _);have r3:=hI.wB.ab kD (by simpa using nD.ne hI.wB);have n3:=hI.rxn.ab kD (by simpa using nD.ne hI.rxn);have e3:=hI.zg.ab kD (by simpa using nD.ne hI.zg);have fs:=hI.fk.fs.ab kD (by simp;omega);have kp:=hI.fk.kp.then kD (fun y hy=>.inr (by rw[List.mem_singleton.1 hy];omega));generalize W.putObj Dn (.deferred none)=W3 at *;conv=>whnf
  refine Ru.ldc (by decide +kernel) (r3.cell 0 (by omega)) ?_;conv=>whnf
  refine Ru.ldc (by decide +kernel) (n3.cell 0 (by omega)) ?_;conv=>whnf
  refine Ru.ldc (by decide +kernel) (e3.cell 0 (by omega)) ?_;conv=>whnf
  exact⟨rfl,⟨fs,kp⟩,.inr ⟨rfl,hI.bW⟩⟩
end
section
open Go.RowKit
def byteOf(v:Int)(j:Nat):Int:=v/256^j%256
theorem dB(v:Int)(j:Nat):0<=byteOf v j/\byteOf v j<=255:=by unfold byteOf;omega
theorem ahv(v:Int)(k:Nat):v/256^(k+1)=v/256^k/256:=by
 rw[Int.pow_succ,Int.ediv_ediv_of_nonneg (by exact Int.le_of_lt (Int.pow_pos (by omega)))]
def Ci(v:Int)(n:Nat)(w:World)(e:Ending)(w':World):Prop :=
 Aa [] w w'/\((v/256^n=0/\e=.returned (.tuple #[.slice (some ⟨w.heap.size,0,none⟩) n n,.nilIface])/\Row w' w.heap.size 5 n (fun j=>.int .u8 (byteOf v j)))
  \/ (v/256^n≠0/\e=.returned (.tuple #[.slice none 0 0,.iface 40 (.int .i64 2)])))
theorem akH(v:Int)(n:Nat)(w:World)(h0:0<=v)(h1:v<=18446744073709551615)(hn:1<=n)(hn8:n<=8) :
  Calls Tryz.prog 221 #[.int .u64 v,.int .i64 n] w (Ci v n w):=by
 have hmk:=run_make_row' (P:=Tryz.prog) 37 5 (.int .u8 0) 1 underlying37 dR rfl .i64 .i64 n (by omega) (by omega)
 go_enter func221,ntmps221
 go_wp2
 have R:=Row.made w 5 (.int .u8 0) n;have kk:=(Aa.refl [] w).alloc (.cells (madeCells #[.int .u8 0] n) 5);have hp:v=v/256^0:=by simp
 have HP:=Lib.hid hp;clear hp
 go_loopw [0,19] (fun x i wr=>∃k:Nat,k<=n/\i=.int .i64 k/\x=.int .u64 (v/256^k)/\Aa [] w wr/\Row wr w.heap.size 5 n (fun j=>.int .u8 (if j<k then byteOf v j else 0))) (fun _ i _=>n-(intOf i).toNat)
 case atStart=>exact⟨0,by omega,rfl,by rw[<-HP.out],kk,R.congr (fun j hj=>by simp)⟩
 case round =>
  clear R kk HP;obtain⟨k,hk,rfl,rfl,kk,R⟩:=hrel;have hx0:0<=v/256^k:=Int.ediv_nonneg h0 (Int.le_of_lt (Int.pow_pos (by omega)));have hx1:v/256^k<=18446744073709551615:=Int.le_trans (Int.ediv_le_self _ h0) h1;have HS:=Lib.hid (ahv v k);have HB:Hid (byteOf v k=v/256^k%256):=rfl;by_cases av:k<n
  ·have hc:=R.cell k av;have hz:=R.free k;generalize v/256^k=x at hx0 hx1 HS HB
   go_wp2
   go_roundw
   case rel=>exact⟨k+1,by omega,by go_num,by rw[HS.out],kk.setCell _ _ (.inr (Nat.le_refl _)),(R.aj1 _ _).congr (fun j hj=>by
    by_cases h:j=k
    ·subst h;rw[if_pos rfl,if_pos (by omega),HB.out]
    ·rw[if_neg h];by_cases h2:j<k
     ·rw[if_pos h2,if_pos (by omega)]
     ·rw[if_neg h2,if_neg (by omega)])⟩
   case measure=>simp[intOf]<;>omega
  ·obtain rfl:k=n:=by omega
   by_cases hv:v/256^k=0
   ·have HV:=Lib.hid hv;rw[hv];clear hv
    go_wp2
    go_ret2
    exact⟨kk,.inl ⟨HV.out,rfl,R.congr (fun j hj=>by rw[if_pos hj])⟩⟩
   ·have HV:=Lib.hid hv;have hb:(v/256^k == 0)=false:=beq_eq_false_iff_ne.2 hv;clear hv;generalize v/256^k=x at hx0 hx1 hb
    go_wp2
    go_ret2
    exact⟨kk,.inr ⟨HV.out,rfl⟩⟩
def numOf(f:Nat->Int):Nat->Int
 |0=>0
 |n+1=>f 0+256*numOf (fun j=>f (j+1)) n
theorem mG(f:Nat->Int)(hf:∀j,0<=f j/\f j<=255)(n:Nat):0<=numOf f n/\numOf f n<256^n:=by
 induction n generalizing f with
 |zero=>simp[numOf]
 | succ n ih =>
  have:=ih (fun j=>f (j+1)) (fun j=>hf (j+1));have:=hf 0;rw[Int.pow_succ];unfold numOf;omega
theorem tU(f:Nat->Int)(n:Nat):numOf f (n+1)=f 0+256*numOf (fun j=>f (j+1)) n:=rfl
theorem ll(f:Nat->Int)(n:Nat):numOf f (n+1)=numOf f n+f n*256^n:=by
 induction n generalizing f with
 |zero=>simp[numOf]
 | succ n ih =>
  have h:=ih (fun j=>f (j+1));rw[tU f (n+1),tU f n,h,Int.pow_succ, <-Int.mul_assoc];generalize f (n+1)*256^n=y;omega
theorem akI(a b:Nat)(k:Nat)(ha:a<2^k):a ||| (b*2^k)=a+b*2^k:=by
 rw[Nat.or_comm, <-Nat.shiftLeft_eq, <-Nat.shiftLeft_add_eq_or_of_lt ha,Nat.add_comm]
theorem xx(n:Int)(h₀:0<=n)(h₁:n<2^64):IntKind.u64.wrap n=n:=by
 have:(2:Int)^64=18446744073709551616:=by decide
 simp only[IntKind.wrap,IntKind.bits,IntKind.signed];simp;omega
theorem ahw(x y:Int)(k:Nat)(hk:k<=7)(hx:0<=x)(hx1:x<256^k)(hy:0<=y)(hy1:y<=255) :
  bits .or .u64 x (IntKind.u64.wrap (y*2^(8*k)))=x+y*256^k:=by
 have e64:(2:Int)^64=18446744073709551616:=by decide
 obtain⟨a,rfl⟩:=Int.eq_ofNat_of_zero_le hx;obtain⟨b,rfl⟩:=Int.eq_ofNat_of_zero_le hy;have hp:(256:Int)^k=2^(8*k):=by rw[Int.pow_mul];rfl
 rw[hp] at hx1 ⊢;have ha:a<2^(8*k):=by exact_mod_cast hx1
 have hle:2^(8*k)<=2^56:=Nat.pow_le_pow_right (by omega) (by omega);have hb:b*2^(8*k)<2^64:=by
  have h1:b*2^(8*k)<=255*2^(8*k):=Nat.mul_le_mul_right _ (by omega);have:(2:Nat)^56=72057594037927936:=by decide
  have:(2:Nat)^64=18446744073709551616:=by decide
  omega
 have av:a<2^64:=by
  have:(2:Nat)^56=72057594037927936:=by decide
  have:(2:Nat)^64=18446744073709551616:=by decide
  omega
 have hc:((b:Int)*2^(8*k))=((b*2^(8*k):Nat):Int):=by simp
 rw[hc,xx _ (by omega) (by rw[e64];have:(2:Nat)^64=18446744073709551616:=(by decide);omega)];rw[(bits_nat .u64 64 (by decide) xx a _ av hb).2,akI a b (8*k) ha];simp
theorem am0(A:Option Addr)(n c:Nat)(f:Nat->Int)(w:World)(r:Rd w A n (fun j=>.int .u8 (f j)))(hf:∀j,0<=f j/\f j<=255)(hn:1<=n)(hn8:n<=8) :
  Calls Tryz.prog 192 #[.slice A n c] w fun e w'=>e=.returned (.tuple #[.int .u64 (numOf f n),.nilIface])/\w=w':=by
 obtain⟨b,o,rfl,hc⟩:=r (by omega)
 go_enter func192,ntmps192
 go_wp2
 go_loop [4,18] (fun x i=>∃k:Nat,k<=n/\i=.int .i64 k/\x=.int .u64 (numOf f k)) (fun _ i=>n-(intOf i).toNat)
 case atStart=>exact⟨0,by omega,rfl,rfl⟩
 case round =>
  obtain⟨k,hk,rfl,rfl⟩:=hrel;by_cases av:k<n
  ·have hck:=hc k av;obtain⟨f0,f1⟩:=hf k;obtain⟨x0,x1⟩:=mG f hf k;have HX:=Lib.hid x1;clear x1;have HN:=Lib.hid (ll f k);have HS:=Lib.hid (ahw (numOf f k) (f k) k (by omega) x0 HX.out f0 f1);generalize numOf f k=x at x0 HX HN HS;clear hc;generalize f k=y at f0 f1 HN hck HS
   go_wp2
   go_round
   case rel=>exact⟨k+1,by omega,by go_num,by rw[HN.out,HS.out]⟩
   case measure=>simp[intOf]<;>omega
  ·obtain rfl:k=n:=by omega
   go_wp2
   go_ret2
   exact⟨rfl,rfl⟩
theorem ahx{m:Nat}(h:m<=9223372036854775807):IntKind.i64.wrap (m:Int)=(m:Int):=IntWalk.i64_in _ ⟨by omega,by omega⟩
theorem tV{P:Program}(w:World)(t tn ty e:TypeId)(i:TypeInfo)(ht:P.underlying t=some (.slice e))(hn:P.underlying tn=some (.int .i64))(hi:P.info? e=some i)(hz:i.zero=some (.int .u8 0))(og:i.size=1)(we:i.bytes=1)
  (A:Option Addr) (n c:Nat) (f:Nat->Value) (hl:Ly w e 1 A n c f) (hn0:0<n) (m:Nat) (hm:0<m) (kS:n+m<=140737488355328) :
  ∃A' c' w',(Builtin.append_ #[t,tn] ty #[.slice A n c,.int .i64 (m:Int)]).run P w=.ok (.slice A' (n+m) c') w'/\Ly w' e 1 A' (n+m) c' (fun j=>if j<n then f j else .int .u8 0)/\Aa (aK A) w w'/\(A'=A\/A'=some ⟨w.heap.size,0,none⟩):=by
 have hw:=ahx (m:=m) (by omega);have h0:¬((m:Int)<0):=by omega
 have h48:¬(281474976710656<(m:Int)):=by omega
 have hzc:∀k,Builtin.zeroCells #[.int .u8 0] k=((List.range k).map fun _=>(Value.int .u8 0)).toArray:=fun k=>by
  apply Array.ext
  ·simp[Builtin.zeroCells]
  ·intro j h1 h2;simp[Builtin.zeroCells];have:j%1=0:=Nat.mod_one j;simp[this]
 have hzs:(Value.int .u8 0).cells = #[Value.int .u8 0]:=rfl
 cases A with
 | none =>
  have:=hl.2.2.1 rfl;have:=hl.1;omega
 | some a =>
  obtain⟨q,cur,fr,rfl,hh,rI,wT,r⟩:=hl.2.2.2 a rfl;have aqd:(n+m:Int)<=9223372036854775807:=by omega
  by_cases iP:n+m<=c
  ·have amj:fr=(0,0):=by
    rcases rI with h|⟨h,_⟩
    ·exact h
    ·omega
   subst amj
   have bq:=run_storeCells_at (P:=P) q n e ((List.range m).map fun _=>(Value.int .u8 0)) 0 cur w hh (by simp;omega) (fun v hv=>by
    simp at hv;rw[<-hv.2];rfl)
   simp only[Nat.add_zero,List.length_map,List.length_range] at bq;refine⟨some ⟨q,0,none⟩,c,w.setRow q (cur.toList.take n++((List.range m).map fun _=>(Value.int .u8 0))++cur.toList.drop (n+m)).toArray,?_,⟨iP,hl.2.1,(fun h=>by cases h),fun a ha=>?_⟩,⟨rfl,rfl,rfl,by simp,fun k _ hk=>setRow_other w q k _ (fun e=>hk (by rw[e];exact List.mem_singleton.2 rfl))⟩,.inl rfl⟩
   ·have agp:(⟨q,0,none⟩:Addr).add n=⟨q,n,none⟩:=by rw[fW rfl,Nat.zero_add]
    simp[Builtin.append_,run_underlying ht,run_underlying hn,sizeOf,typeInfo,zeroValue,hi,hz,og,we,asInt,asIntOf,hw,h0,h48,iP,hzs,hzc,agp,Nat.ne_of_gt hm,bq]
   ·injection ha with ha;subst ha;refine⟨q,_,(0,0),rfl,setRow_heap w q cur _ e _ hh,.inl rfl,?_,fun j hj=>?_⟩
    ·simp;omega
    ·have hcl:n+m<=cur.size:=by omega
     rw[List.getElem?_toArray];simp only;by_cases h:j<n
     ·rw[if_pos h,List.append_assoc,List.getElem?_append_left (by simp;omega),List.getElem?_take,if_pos h,Array.getElem?_toList];exact r j (by omega)
     ·rw[if_neg h,List.append_assoc,List.getElem?_append_right (by simp;omega),List.getElem?_append_left (by simp;omega)];simp only[List.getElem?_map,List.length_take,Array.length_toList,List.length_map,List.length_range];rw[List.getElem?_range (by omega)];rfl
  ·have holds:∀(j:Nat) (u:Value),((List.range n).map f)[j]?=some u->w.drew.cell? ((⟨q,0,none⟩:Addr).add j)=some u:=by
    intro j u hu;have hj:j<n:=by
     have:=(List.getElem?_eq_some_iff.1 hu).1;simpa using this
    rw[fW rfl];have h2:f j=u:=by
     simp[hj] at hu;exact hu
    have:=r j (by omega);rw[h2] at this;rw[World.cell?_drew];simp only[World.cell?,hh];simpa using this
   have hold:=run_firstCells_some (P:=P) w.drew 1 n ⟨q,0,none⟩ n c ((List.range n).map f) (by simp) holds;have ef:=growslice_fits (old:=c) (need:=n+m) (bytes:=1) (by omega) (by omega);have aqG:¬(9223372036854775807<((n:Int)+(m:Int))):=by omega
   have aqH:¬(281474976710656<Builtin.nextslicecap (n+m) c):=by omega
   have wg:=grownCap_ge w (n+m) c e;refine⟨some ⟨w.heap.size,0,none⟩,grownCap w (n+m) c e,w.drew.alloc (.cells (((List.range n).map f).toArray++((List.range m).map fun _=>(Value.int .u8 0)).toArray++Builtin.zeroCells #[.int .u8 0] (grownCap w (n+m) c e-(n+m))) e),?_,⟨wg,grownCap_le_maxLen w (n+m) c e (by simp only[maxLen];omega),(fun h=>by cases h),fun a ha=>?_⟩,(Aa.refl _ w).drew.alloc _,.inr rfl⟩
   ·simp[Builtin.append_,run_underlying ht,run_underlying hn,sizeOf,typeInfo,zeroValue,hi,hz,og,we,asInt,asIntOf,hw,h0,h48,iP,hzs,hzc,Nat.ne_of_gt hm,aqG,aqH,Question.forced,hold,newRow,grownCap]
   ·injection ha with ha;subst ha;refine⟨_,_,(0,0),rfl,heap_alloc_new w.drew _,.inl rfl,?_,fun j hj=>?_⟩
    ·simp[size_zeroCells];omega
    ·rw[<-Array.getElem?_toList];simp only[Array.toList_append];by_cases h:j<n
     ·rw[if_pos h,List.append_assoc,List.getElem?_append_left (by simp;omega)];simp[h]
     ·rw[if_neg h,List.append_assoc,List.getElem?_append_right (by simp;omega),List.getElem?_append_left (by simp;omega)];simp only[List.getElem?_map,List.length_take,Array.length_toList,List.length_map,List.length_range];rw[List.getElem?_range (by omega)];rfl
end
section
section
variable{P:Program}{w:World}{d:Nat}{t:TypeId}{xs ys:Array Value}
theorem am1{fs:Array Field}{r:Bool}(hu:P.underlying t=some (.struct fs))(hp:P.stoodInHeld t=false)(h:(Op.eqFields d xs ys fs.toList).run P w=.ok r w):(Op.equalIn (d+1) t (.agg xs) (.agg ys)).run P w=.ok r w:=by
 have hf:P.fieldsOf t=fs:=by unfold Program.fieldsOf;rw[hu]
 rw[run_equalIn_struct w d t xs ys (by rw[hf];exact hu) hp,hf];exact h
theorem akJ:(Op.eqFields d xs ys []).run P w=.ok true w:=rfl
theorem eqf_cons {f : Field} {fs : List Field} {a b : Value} {r s : Bool} (hn : (f.name == "_") = false) (ha : (part f.type xs f.offset).run P w = .ok a w) (hb : (part f.type ys f.offset).run P w = .ok b w) (hr : (Op.equalIn d f.type a b).run P w = .ok r w) (hs : (Op.eqFields d xs ys fs).run P w = .ok s w) :
  (Op.eqFields d xs ys (f::fs)).run P w=.ok (r&&s) w:=by
 have hn' : f.name ≠ "_" := by simpa using hn
 simp only[Op.eqFields,ne_eq,hn',not_false_eq_true,if_true,Sem.run_bind,ha,hb,hr,Result.andThen_ok]
 cases r
 ·simp
 ·simpa using hs
theorem dU{e:TypeId}{cs:Array Value}{off:Nat}{v:Value}(hc:dV P e=true)(hv:cs[off]?=some v):(part e cs off).run P w=.ok v w:=by
 simp[part,oE hc w,hv]
theorem eq_int{k:IntKind}{e:TypeId}{a b:Int}(hu:P.underlying e=some (.int k)):(Op.equalIn (d+1) e (.int k a) (.int k b)).run P w=.ok (decide (a=b)) w:=run_equalIn_int w d e k k a b hu
theorem akK{e:TypeId}{a b:Bool}(hu:P.underlying e=some .bool):(Op.equalIn (d+1) e (.bool a) (.bool b)).run P w=.ok (decide (a=b)) w:=by
 rw[run_equalIn_bool w d e a b hu]
 cases a<;>cases b<;>rfl
end
end
section
open Go.RowKit
structure Tg where
 place:Int
 of:Int
 seq:Int
 copy:Int
 lost:Bool
deriving DecidableEq
def Tg.zero:Tg:=⟨0,0,0,0,false⟩
def Tg.arr(t:Tg):Array Value := #[.int .i64 t.place,.int .i64 t.of,.int .i64 t.seq,.int .i64 t.copy,.bool t.lost]
def Tg.cell(t:Tg)(j:Nat):Value:=t.arr.getD j .nilIface
def Tg.ok(t:Tg):Prop:=0<=t.place/\t.place<=95/\0<=t.of/\t.of<=24/\1<=t.seq/\t.seq<=1099511627775/\0<=t.copy/\t.copy<=255/\(t.of=24->t.lost=false)/\(t.of≠24->t.place%8<=5)
instance (t:Tg):Decidable t.ok:=by unfold Tg.ok;infer_instance
def Tg.wf(t:Tg):Prop:=(-9223372036854775808<=t.place/\t.place<=9223372036854775807)/\(-9223372036854775808<=t.of/\t.of<=9223372036854775807)/\(-9223372036854775808<=t.seq/\t.seq<=9223372036854775807)/\(-9223372036854775808<=t.copy/\t.copy<=9223372036854775807)
def Tg.err(t:Tg):Int:=if t.ok then 0 else 1
theorem Tg.am2{t:Tg}(h:¬t.ok):Value.iface 40 (.int .i64 1)=al t.err:=by unfold Tg.err;rw[if_neg h,cS (by decide)]
theorem Tg.akL{t:Tg}(h:t.ok):Value.nilIface=al t.err:=by unfold Tg.err;rw[if_pos h];rfl
theorem tW(t:Tg):(Array.range 5).map t.cell=t.arr:=by
 apply Array.ext
 ·simp[Tg.arr]
 ·intro i h1 h2;have h3:i<5:=by simpa using h1
  have:i=0\/i=1\/i=2\/i=3\/i=4:=by omega
  rcases this with rfl|rfl|rfl|rfl|rfl<;>simp[Tg.cell,Tg.arr]
theorem acC(t:Tg):Value.agg t.arr=agg 5 t.cell:=by
 unfold agg;rw[tW]
theorem tX:(Tryz.prog.info? 67).map (·.size)=some 5:=by kernel_rfl
theorem tY(t:Tg)(j:Nat)(hj:j<5):(t.cell j).oneCell'=true:=by
 have:j=0\/j=1\/j=2\/j=3\/j=4:=by omega
 rcases this with rfl|rfl|rfl|rfl|rfl<;>rfl
theorem Row.tg{w:World}{g:Nat}{t:Tg}(h:w.heap[g]?=some (.cells t.arr 67 (0,0))):Row w g 67 5 t.cell:=by
 unfold Row;rw[tW];exact h
theorem Ru.ft{w:World}{K:Value->World->Prop}(k:∀g w',g=w.heap.size->w'.heap.size=w.heap.size+1->Row w' g 67 5 Tg.zero.cell->Aa [] w w'->K (.pointer (some ⟨g,0,none⟩)) w'):Ru Tryz.prog (Instr.alloc 67 true (.tuple #[])) w K :=
 ⟨_,w.alloc (.cells Tg.zero.arr 67),by kernel_rfl,k _ _ rfl (by simp) (Row.tg (heap_alloc_new _ _)) ((Aa.refl _ _).alloc _)⟩
theorem Ru.xy{w:World}{t:Tg}{K:Value->World->Prop}(k:∀g w',g=w.heap.size->w'.heap.size=w.heap.size+1->Row w' g 67 5 t.cell->Aa [] w w'->K (.pointer (some ⟨g,0,none⟩)) w'):Ru Tryz.prog (Instr.box 67 (.agg t.arr)) w K :=
 ⟨_,w.alloc (.cells t.arr 67),rfl,k _ _ rfl (by simp) (Row.tg (heap_alloc_new _ _)) ((Aa.refl _ _).alloc _)⟩
theorem acD{w:World}{g o N:Nat}{ty:TypeId}{F:Nat->Value}{t:Tg}(r:Row w g ty N F)(hn:o+5<=N)(hf:∀j,j<5->F (o+j)=t.cell j):(loadVar 67 ⟨g,o,none⟩).run Tryz.prog w=.ok (.agg t.arr) w:=by
 have h:=fH (P:=Tryz.prog) r hn underlying67 rfl tX;rw[show agg 5 (fun j=>F (o+j))=.agg t.arr from(br hf).trans (acC t).symm] at h;exact h
theorem Ru.fG{w:World}{g:Nat}{ty:TypeId}{t:Tg}{K:Value->World->Prop}(r:Row w g ty 5 t.cell)(k:K (.agg t.arr) w):Ru Tryz.prog (loadVar 67 ⟨g,0,none⟩) w K:=⟨_,_,acD r (by omega) (fun j _=>by rw[Nat.zero_add]),k⟩
theorem Ru.ln{w:World}{g:Nat}{ty:TypeId}{b:Nat->Value}{t:Tg}{K:Unit->World->Prop}(r:Row w g ty 5 b)(k:∀w',Row w' g ty 5 t.cell->Aa [g] w w'->K () w'):Ru Tryz.prog (storeVar 67 ⟨g,0,none⟩ (.agg t.arr)) w K:=by
 rw[acC];exact Ru.im r tX (by omega) (tY t) (fun w' r' k'=>k w' (r'.congr (fun j hj=>by unfold lay;rw[if_pos (by omega)];simp)) k')
theorem ahy(t:Tg)(w:World):Spec Tryz.prog 197 #[.agg t.arr] w fun v w'=>v=al t.err/\Aa [] w w':=by
 have h0:∀ {g:Nat} {w:World},Row w g 67 5 t.cell->w.cell? ⟨g,0,none⟩=some (.int .i64 t.place)/\w.cell? ⟨g,1,none⟩=some (.int .i64 t.of)/\w.cell? ⟨g,2,none⟩=some (.int .i64 t.seq)/\w.cell? ⟨g,3,none⟩=some (.int .i64 t.copy)/\w.cell? ⟨g,4,none⟩=some (.bool t.lost):=fun r=>⟨r.cell 0 (by omega),r.cell 1 (by omega),r.cell 2 (by omega),r.cell 3 (by omega),r.cell 4 (by omega)⟩
 have lW:=t.am2;have qC:=t.akL;unfold Tg.ok at lW qC;generalize hx:t.err=x at lW qC ⊢;refine spec_of_wpE (T:=tt) ai func197 rfl (by decide +kernel) ntmps197 (by simp) ?_;conv=>whnf
 refine Ru.xy ?_;intro g w1 hg hs r k1;obtain⟨c0,c1,c2,c3,c4⟩:=h0 r;clear h0 r;generalize t.place=a0 at *;generalize t.of=a1 at *;generalize t.seq=a2 at *;generalize t.copy=a3 at *
 cases hl:t.lost<;>rw[hl] at c4 lW qC
 all_goals
  conv=>whnf
  repeat' ((first|refine Br.t ?_|refine Br.f ?_|refine Pk.f ?_|refine Pk.t ?_|refine Dv.r ?_|refine Br.ny ?_|refine Br.nn ?_|refine Ld.of (by assumption) ?_|refine CW.s ?_|refine Br.d (fun _=>?_) (fun _=>?_))<;>conv=>whnf)
  all_goals
   first
    |exact⟨rfl,lW (fun h=>by simp at h;omega),k1⟩
    |exact⟨rfl,qC (by simp;omega),k1⟩
theorem aoP{n:Nat}(hn:n<=8):(256:Int)^n<=18446744073709551616:=by
 have h:n=0\/n=1\/n=2\/n=3\/n=4\/n=5\/n=6\/n=7\/n=8:=by omega
 rcases h with rfl|rfl|rfl|rfl|rfl|rfl|rfl|rfl|rfl<;>decide
theorem am3(v:Int)(n:Nat)(w:World)(h0:0<=v)(h1:v<256^n)(hn:1<=n)(hn8:n<=8) :
  Spec Tryz.prog 221 #[.int .u64 v,.int .i64 n] w fun u w'=>∃g,u=.tuple #[.slice (some ⟨g,0,none⟩) n n,.nilIface]/\g=w.heap.size/\Row w' g 5 n (fun j=>.int .u8 (byteOf v j))/\Aa [] w w':=by
 have h8:=aoP hn8;refine⟨by kernel_rfl,(akH v n w h0 (by omega) hn hn8).mono ?_⟩;rintro e w' ⟨k,h⟩;have hz:v/256^n=0:=Int.ediv_eq_zero_of_lt h0 h1;rcases h with⟨_,rfl,r⟩|⟨h,_⟩
 ·exact⟨_,rfl,_,rfl,rfl,r,k⟩
 ·exact absurd hz h
theorem Bu.akM{P:Program}{w:World}{t tn ty e:TypeId}{i:TypeInfo}{cs:Array Bool}{K:Value->World->Prop}(ht:P.underlying t=some (.slice e))(hn:P.underlying tn=some (.int .i64))(hi:P.info? e=some i)(hz:i.zero=some (.int .u8 0))(og:i.size=1)(we:i.bytes=1)
  {A:Option Addr} {n c:Nat} {f:Nat->Value} (hl:Ly w e 1 A n c f) (hn0:0<n) {m:Nat} (hm:0<m) (kS:n+m<=140737488355328)
  (k:∀A' c' w',Ly w' e 1 A' (n+m) c' (fun j=>if j<n then f j else .int .u8 0)->Aa (aK A) w w'->(A'=A\/A'=some ⟨w.heap.size,0,none⟩)->K (.slice A' (n+m) c') w') :
  Bu P .append #[t,tn] ty cs #[.slice A n c,.int .i64 (m:Int)] w K:=by
 obtain⟨A',c',w',hr,h2,h3,h5⟩:=tV (P:=P) w t tn ty e i ht hn hi hz og we A n c f hl hn0 m hm kS;exact⟨_,w',by simp only[builtin,Sem.run_bind,hr];rfl,k A' c' w' h2 h3 h5⟩
def bP(t:Tg)(j:Nat):Int:=if j<2 then byteOf t.place j else if j<3 then byteOf t.of (j-2) else if j<8 then byteOf t.seq (j-3) else if j<9 then byteOf t.copy (j-8) else if j<10 then byteOf (if t.lost then 1 else 0) (j-9) else 0
theorem tZ(t:Tg)(j:Nat):0<=bP t j/\bP t j<=255:=by
 unfold bP;split
 ·exact dB _ _
 split
 ·exact dB _ _
 split
 ·exact dB _ _
 split
 ·exact dB _ _
 split
 ·exact dB _ _
 omega
def wrc(t:Tg)(x:Value)(j:Nat):Value:=if j<5 then t.cell j else x
structure Wr(w:World)(g:Nat)(t:Tg)(X:Option Addr)(n c:Nat):Prop where
 row:Row w g 286 6 (wrc t (.slice X n c))
 ly:Ly w 5 1 X n c (fun j=>.int .u8 (bP t j))
theorem Wr.ab{w w':World}{g:Nat}{t:Tg}{X:Option Addr}{n c:Nat}{S:List Nat}(h:Wr w g t X n c)(k:Aa S w w')(hg:g∉S)(hX:∀x,x∈aK X->x∉S):Wr w' g t X n c:=⟨h.row.ab k hg,h.ly.ab k hX⟩
def AU(w:World)(g:Nat)(t:Tg)(X:Option Addr)(m:Nat)(v:Value)(w':World):Prop:=v=.nilIface/\∃Y d,Wr w' g t Y m d/\Aa (g::aK X) w w'/\∀x,x∈aK Y->x∈aK X\/w.heap.size<=x
theorem nj(w:World)(g:Nat)(t:Tg)(X:Option Addr)(n c:Nat)(h:Wr w g t X n c)(v:Int)(k:Nat)(h0:0<=v)(h1:v<256^k)(hk:1<=k)(hk8:k<=8)(hn:n<=50)(hb:∀j,j<k->byteOf v j=bP t (n+j)) :
  Spec Tryz.prog 213 #[.pointer (some ⟨g,0,none⟩),.int .i64 v,.int .i64 k] w (AU w g t X (n+k)):=by
 obtain⟨i0,hi,lZ,lR,l4⟩:=info_parts dR;have h8:=aoP hk8;refine spec_of_wpE (T:=tt) ai func213 rfl (by decide +kernel) ntmps213 (by simp) ?_;conv=>whnf
 repeat (refine Ar.lc ?_;conv=>whnf)
 refine Ca.of (am3 v k w h0 h1 hk hk8) ?_;rintro _ w1 ⟨p,rfl,hp,rp,k1⟩;have h1:=h.ab k1 (by simp) (by simp);have vU:g∉aK X:=h1.ly.aL h1.row (by decide);conv=>whnf
 repeat ((refine Ld.rowAt h1.row 5 (by omega) (by omega) ?_);conv=>whnf)
 show Bu _ _ _ _ _ #[.slice X n c,_] _ _;refine Bu.append underlying37 hi lZ lR l4 rfl (by omega) h1.ly _ (Rd.dq rp (n:=k*1) (by omega)) (by omega) (by simp) (fun j hj=>rfl) (by simp only[maxLen];omega) (by omega) ?_;intro Y d w2 hy k2 da gZ;have r2:=h1.row.ab k2 vU;have hY:g∉aK Y:=hy.aL r2 (by decide);conv=>whnf
 refine Sd.rowAt r2 5 (by omega) (by omega) rfl ?_;intro w3 r3 k3;have hy3:=hy.ab k3 (by intro x hx hm;rw[List.mem_singleton.1 hm] at hx;exact hY hx);conv=>whnf
 refine⟨rfl,rfl,Y,d,⟨r3.congr (fun j hj=>?_),hy3.congr (fun j hj=>?_)⟩,?_,?_⟩
 ·unfold put wrc;by_cases h5:j=5
  ·subst h5;rfl
  ·rw[if_neg h5,if_pos (by omega),if_pos (by omega)]
 ·simp only[Nat.mul_one];by_cases kL:j<n
  ·rw[if_pos kL]
  ·rw[if_neg kL,hb (j-n) (by omega),show n+(j-n)=j from by omega]
 ·exact((k1.mono (by simp)).trans (k2.mono (fun x hx=>List.mem_cons_of_mem _ hx))).trans (k3.mono (fun x hx=>by rw[List.mem_singleton.1 hx];exact List.mem_cons_self ..))
 ·intro x hx;rcases da with e|e
  ·rw[e] at hx;exact .inl hx
  ·rw[e] at hx;rw[List.mem_singleton.1 hx];exact .inr k1.size
def am4(i:Nat):Nat:=if i=0 then 0 else if i=1 then 2 else if i=2 then 3 else if i=3 then 8 else if i=4 then 9 else 10
section
variable(w:World)(g:Nat)(t:Tg)(X:Option Addr)(c:Nat)
theorem alZ{v:Int}(h0:0<=v)(h1:v<=255):byteOf v 0=v:=by unfold byteOf;simp;omega
theorem ahz(h:Wr w g t X 0 c)(ht:t.ok):Spec Tryz.prog 198 #[.pointer (some ⟨g,0,none⟩)] w (AU w g t X 2):=by
 unfold Tg.ok at ht;refine spec_of_wpE (T:=tt) ai func198 rfl (by decide +kernel) ntmps198 (by simp) ?_;conv=>whnf
 repeat ((refine Ld.rowAt h.row 0 (by omega) (by omega) ?_);conv=>whnf)
 refine Ca.of (nj w g t X 0 c h t.place 2 (by omega) (by omega) (by omega) (by omega) (by omega) (fun j hj=>by unfold bP;rw[if_pos (by omega),Nat.zero_add])) ?_;intro v w1 hp;conv=>whnf
 exact⟨rfl,hp⟩
theorem ua(h:Wr w g t X 2 c)(ht:t.ok):Spec Tryz.prog 199 #[.pointer (some ⟨g,0,none⟩)] w (AU w g t X 3):=by
 unfold Tg.ok at ht;refine spec_of_wpE (T:=tt) ai func199 rfl (by decide +kernel) ntmps199 (by simp) ?_;conv=>whnf
 repeat ((refine Ld.rowAt h.row 1 (by omega) (by omega) ?_);conv=>whnf)
 refine Ca.of (nj w g t X 2 c h t.of 1 (by omega) (by omega) (by omega) (by omega) (by omega) (fun j hj=>by unfold bP;rw[if_neg (by omega),if_pos (by omega)];congr 1;omega)) ?_;intro v w1 hp;conv=>whnf
 exact⟨rfl,hp⟩
theorem am5(h:Wr w g t X 3 c)(ht:t.ok):Spec Tryz.prog 200 #[.pointer (some ⟨g,0,none⟩)] w (AU w g t X 8):=by
 unfold Tg.ok at ht;refine spec_of_wpE (T:=tt) ai func200 rfl (by decide +kernel) ntmps200 (by simp) ?_;conv=>whnf
 repeat ((refine Ld.rowAt h.row 2 (by omega) (by omega) ?_);conv=>whnf)
 refine Ca.of (nj w g t X 3 c h t.seq 5 (by omega) (by omega) (by omega) (by omega) (by omega) (fun j hj=>by unfold bP;rw[if_neg (by omega),if_neg (by omega),if_pos (by omega)];congr 1;omega)) ?_;intro v w1 hp;conv=>whnf
 exact⟨rfl,hp⟩
theorem afh(h:Wr w g t X 8 c)(ht:t.ok):Spec Tryz.prog 201 #[.pointer (some ⟨g,0,none⟩)] w (AU w g t X 9):=by
 unfold Tg.ok at ht;refine spec_of_wpE (T:=tt) ai func201 rfl (by decide +kernel) ntmps201 (by simp) ?_;conv=>whnf
 repeat ((refine Ld.rowAt h.row 3 (by omega) (by omega) ?_);conv=>whnf)
 refine Ca.of (nj w g t X 8 c h t.copy 1 (by omega) (by omega) (by omega) (by omega) (by omega) (fun j hj=>by unfold bP;rw[if_neg (by omega),if_neg (by omega),if_neg (by omega),if_pos (by omega)];congr 1;omega)) ?_;intro v w1 hp;conv=>whnf
 exact⟨rfl,hp⟩
theorem akN(h:Wr w g t X 9 c):Spec Tryz.prog 202 #[.pointer (some ⟨g,0,none⟩)] w (AU w g t X 10):=by
 have hb:∀j,j<1->byteOf (if t.lost then 1 else 0) j=bP t (9+j):=fun j hj=>by
  obtain rfl:j=0:=by omega
  rfl
 have hc:w.cell? ⟨g,4,none⟩=some (.bool t.lost):=h.row.cell 4 (by omega);refine spec_of_wpE (T:=tt) ai func202 rfl (by decide +kernel) ntmps202 (by simp) ?_
 cases hl:t.lost<;>rw[hl] at hb hc
 ·conv=>whnf
  repeat ((first|(refine Ld.at (by omega) hc ?_)|refine Br.f ?_|refine CW.s ?_);conv=>whnf)
  refine Ca.of (nj w g t X 9 c h 0 1 (by omega) (by omega) (by omega) (by omega) (by omega) hb) ?_;intro v w1 hp;conv=>whnf
  exact⟨rfl,hp⟩
 ·conv=>whnf
  repeat ((first|(refine Ld.at (by omega) hc ?_)|refine Br.t ?_|refine CW.s ?_);conv=>whnf)
  refine Ca.of (nj w g t X 9 c h 1 1 (by omega) (by omega) (by omega) (by omega) (by omega) hb) ?_;intro v w1 hp;conv=>whnf
  exact⟨rfl,hp⟩
end
def fnF(g:Nat)(j:Nat):Value:=(#[.func (.func 198) #[.pointer (some ⟨g,0,none⟩)] #[],.func (.func 199) #[.pointer (some ⟨g,0,none⟩)] #[],.func (.func 200) #[.pointer (some ⟨g,0,none⟩)] #[],.func (.func 201) #[.pointer (some ⟨g,0,none⟩)] #[],.func (.func 202) #[.pointer (some ⟨g,0,none⟩)] #[]]:Array Value).getD j .nilIface
theorem afi(g:Nat)(w:World):(Instr.buildSlice 287 5 #[(0,fnF g 0),(1,fnF g 1),(2,fnF g 2),(3,fnF g 3),(4,fnF g 4)]).run Tryz.prog w=.ok (.slice (some ⟨w.heap.size,0,none⟩) 5 5) (w.alloc (.cells ((Array.range 5).map (fnF g)) 57)):=by kernel_rfl
theorem ahA(t:Tg)(w:World):(Instr.build 286 #[(0,.agg t.arr)]).run Tryz.prog w=.ok (.agg #[.int .i64 t.place,.int .i64 t.of,.int .i64 t.seq,.int .i64 t.copy,.bool t.lost,.slice none 0 0]) w:=by kernel_rfl
theorem ahB(t:Tg):(Array.range 6).map (wrc t (.slice none 0 0)) = #[.int .i64 t.place,.int .i64 t.of,.int .i64 t.seq,.int .i64 t.copy,.bool t.lost,.slice none 0 0]:=by
 apply Array.ext
 ·simp
 ·intro i h1 h2;have h3:i<6:=by simpa using h1
  have:i=0\/i=1\/i=2\/i=3\/i=4\/i=5:=by omega
  rcases this with rfl|rfl|rfl|rfl|rfl|rfl<;>simp[Tg.cell,Tg.arr,wrc]
structure Bs(w:World)(g gs:Nat)(t:Tg)(i:Nat)(X:Option Addr)(c:Nat)(w':World):Prop where
 wr:Wr w' g t X (am4 i) c
 fns:Row w' gs 57 5 (fnF g)
 new:w.heap.size<=g/\∀x,x∈aK X->w.heap.size<=x
 ab:Aa [] w w'
theorem Bs.step{w:World}{g gs:Nat}{t:Tg}{i:Nat}{X:Option Addr}{c:Nat}{wr w1:World}{v:Value}(I:Bs w g gs t i X c wr)(h:AU wr g t X (am4 (i+1)) v w1):v=.nilIface/\∃Y d,Bs w g gs t (i+1) Y d w1:=by
 obtain⟨rfl,Y,d,h1,k,hn⟩:=h;have hg:gs∉aK X:=I.wr.ly.aL I.fns (by decide);have hg2:gs≠g:=I.fns.ed I.wr.row (by decide);refine⟨rfl,Y,d,h1,I.fns.ab k (by simp[hg,hg2]),⟨I.new.1,fun x hx=>?_⟩,I.ab.then k (fun x hx=>?_)⟩
 ·rcases hn x hx with h|h
  ·exact I.new.2 x h
  ·have:=I.ab.size;omega
 ·rcases List.mem_cons.1 hx with rfl|hx
  ·exact .inr I.new.1
  ·exact .inr (I.new.2 x hx)
def Cj(t:Tg)(w:World)(v:Value)(w':World):Prop:=Aa [] w w'/\((t.ok/\∃Y d,v=.tuple #[.slice Y 50 d,.nilIface]/\Ly w' 5 1 Y 50 d (fun j=>.int .u8 (bP t j))/\∀x,x∈aK Y->w.heap.size<=x)\/(¬t.ok/\v=.tuple #[.slice none 0 0,al 1]))
theorem xz(t:Tg)(w:World):Spec Tryz.prog 185 #[.agg t.arr] w (Cj t w):=by
 obtain⟨i0,hi,lZ,lR,l4⟩:=info_parts dR;refine spec_of_wpE (T:=tt) ai func185 rfl (by decide +kernel) ntmps185 (by simp) ?_;conv=>whnf
 refine Ru.xy ?_;intro g1 w1 hg1 dj r1 k1;conv=>whnf
 repeat (refine CW.s ?_;conv=>whnf)
 refine Ru.fG r1 ?_;conv=>whnf
 refine Ca.of (ahy t w1) ?_;rintro _ w2 ⟨rfl,k2⟩;have r2:=r1.ab k2 (by simp);have so:=k1.trans k2;by_cases ht:t.ok
 case neg =>
  have he:t.err=1:=by unfold Tg.err;rw[if_neg ht]
  rw[he];conv=>whnf
  repeat ((first|refine Br.t ?_|refine Ru.n1 ?_);conv=>whnf)
  exact⟨rfl,so,.inr ⟨ht,rfl⟩⟩
 have he:t.err=0:=by unfold Tg.err;rw[if_pos ht]
 rw[he];conv=>whnf
 repeat ((first|refine Br.f ?_|refine Ru.ak ?_);conv=>whnf)
 refine Ru.fG r2 ?_;conv=>whnf
 refine Ru.of (ahA t w2) ?_;rw[<-ahB t];conv=>whnf
 refine Ru.dr (n:=6) (s:=wrc t (.slice none 0 0)) ?_;intro g w3 hg gg r3 k3;conv=>whnf
 repeat (refine CW.s ?_;conv=>whnf)
 refine Ru.of (afi g w3) ?_;have r4:Row (w3.alloc (.cells ((Array.range 5).map (fnF g)) 57)) w3.heap.size 57 5 (fnF g):=Row.new _ _ _ _;have k4:Aa [] w3 (w3.alloc (.cells ((Array.range 5).map (fnF g)) 57)):=(Aa.refl _ _).alloc _;have r34:=r3.ab k4 (by simp);generalize w3.alloc (.cells ((Array.range 5).map (fnF g)) 57)=w4 at *;generalize w3.heap.size=gs at *;have I0:Bs w g gs t 0 none 0 w4:=⟨⟨r34,Ly.nil _ _ _ _⟩,r4,⟨by rw[hg];exact so.size,fun x hx=>by cases hx⟩,(so.trans k3).trans k4⟩;conv=>whnf
 refine CW.loop (ι:=Nat×Option Addr×Nat) (fun i wr=>i.1<=5/\Bs w g gs t i.1 i.2.1 i.2.2 wr) (fun i=>[(5,.pointer (some ⟨g,0,none⟩)),(27,.slice (some ⟨gs,0,none⟩) 5 5),(28,.int .i64 5),(29,.int .i64 i.1)]) (fun i=>5-i.1) (0,none,0) ai ⟨by simp,I0⟩ ⟨rfl,rfl,rfl,rfl,trivial⟩ ?_;rintro⟨i,X,c⟩ wr ⟨hi5,I⟩;simp only at hi5 I;have:i=0\/i=1\/i=2\/i=3\/i=4\/i=5:=by omega
 have ff:∀j,j<5->wr.cell? ⟨gs,j,none⟩=some (fnF g j):=fun j hj=>I.fns.cell j hj;rcases this with rfl|rfl|rfl|rfl|rfl|rfl
 ·have f0:=ff 0 (by omega);conv=>whnf
  repeat ((first|(refine Ld.at (by omega) f0 ?_)|refine Br.t ?_|refine Ix.n ?_|refine CW.s ?_);conv=>whnf)
  refine Ca.of (ahz wr g t X c I.wr ht) ?_;intro v w5 hp;obtain⟨rfl,Y,d,I⟩:=I.step hp;conv=>whnf
  repeat ((first|refine Br.f ?_|refine Ar.la ?_|refine Ru.ak ?_);conv=>whnf)
  exact⟨(1,Y,d),⟨by simp,I⟩,⟨rfl,rfl,rfl,rfl,trivial⟩,by simp only;omega⟩
 ·have f0:=ff 1 (by omega);conv=>whnf
  repeat ((first|(refine Ld.at (by omega) f0 ?_)|refine Br.t ?_|refine Ix.n ?_|refine CW.s ?_);conv=>whnf)
  refine Ca.of (ua wr g t X c I.wr ht) ?_;intro v w5 hp;obtain⟨rfl,Y,d,I⟩:=I.step hp;conv=>whnf
  repeat ((first|refine Br.f ?_|refine Ar.la ?_|refine Ru.ak ?_);conv=>whnf)
  exact⟨(2,Y,d),⟨by simp,I⟩,⟨rfl,rfl,rfl,rfl,trivial⟩,by simp only;omega⟩
 ·have f0:=ff 2 (by omega);conv=>whnf
  repeat ((first|(refine Ld.at (by omega) f0 ?_)|refine Br.t ?_|refine Ix.n ?_|refine CW.s ?_);conv=>whnf)
  refine Ca.of (am5 wr g t X c I.wr ht) ?_;intro v w5 hp;obtain⟨rfl,Y,d,I⟩:=I.step hp;conv=>whnf
  repeat ((first|refine Br.f ?_|refine Ar.la ?_|refine Ru.ak ?_);conv=>whnf)
  exact⟨(3,Y,d),⟨by simp,I⟩,⟨rfl,rfl,rfl,rfl,trivial⟩,by simp only;omega⟩
 ·have f0:=ff 3 (by omega);conv=>whnf
  repeat ((first|(refine Ld.at (by omega) f0 ?_)|refine Br.t ?_|refine Ix.n ?_|refine CW.s ?_);conv=>whnf)
  refine Ca.of (afh wr g t X c I.wr ht) ?_;intro v w5 hp;obtain⟨rfl,Y,d,I⟩:=I.step hp;conv=>whnf
  repeat ((first|refine Br.f ?_|refine Ar.la ?_|refine Ru.ak ?_);conv=>whnf)
  exact⟨(4,Y,d),⟨by simp,I⟩,⟨rfl,rfl,rfl,rfl,trivial⟩,by simp only;omega⟩
 ·have f0:=ff 4 (by omega);conv=>whnf
  repeat ((first|(refine Ld.at (by omega) f0 ?_)|refine Br.t ?_|refine Ix.n ?_|refine CW.s ?_);conv=>whnf)
  refine Ca.of (akN wr g t X c I.wr) ?_;intro v w5 hp;obtain⟨rfl,Y,d,I⟩:=I.step hp;conv=>whnf
  repeat ((first|refine Br.f ?_|refine Ar.la ?_|refine Ru.ak ?_);conv=>whnf)
  exact⟨(5,Y,d),⟨by simp,I⟩,⟨rfl,rfl,rfl,rfl,trivial⟩,by simp only;omega⟩
 ·clear ff;have c5:wr.cell? ⟨g,5,none⟩=some (.slice X 10 c):=I.wr.row.cell 5 (by omega);conv=>whnf
  repeat ((first|refine Br.f ?_|refine CW.s ?_);conv=>whnf)
  refine CW.held (fun w'=>w'.cell? ⟨g,5,none⟩=some (.slice X 10 c)) [] (.take 0 (.take 1 (.take 2 (.take 3 (.take 4 (.take 5 (.take 6 (.take 7 (.take 8 (.take 9 (.one 10 (.take 11 (.take 12 (.done)))))))))))))) ai (by kernel_rfl) (by kernel_rfl) (by kernel_rfl) ?_ ?_
  ·exact c5
  conv=>whnf
  repeat ((first|(refine Ag.at (by omega) (fun _ h=>h) ?_)|refine Ar.la ?_);conv=>whnf)
  have vU:g∉aK X:=I.wr.ly.aL I.wr.row (by decide);refine Bu.akM underlying37 underlying3 hi lZ lR l4 (I.wr.ly.aj ((Aa.refl [] wr).drewN 1)) (by decide) (m:=40) (by omega) (by decide) ?_;intro Y d w5 hy k5 da;conv=>whnf
  have k5':Aa (aK X) wr w5:=((Aa.refl _ wr).drewN 1).trans k5;refine⟨(k5'.cell (p:=⟨g,5,none⟩) I.wr.row.lt vU).trans c5,?_⟩;conv=>whnf
  refine⟨rfl,I.ab.then k5' (fun x hx=>.inr (I.new.2 x hx)),.inl ⟨ht,Y,d,rfl,hy.congr (fun j hj=>?_),fun x hx=>?_⟩⟩
  ·by_cases h:j<am4 5
   ·rw[if_pos h]
   ·rw[if_neg h];have h:¬j<10:=h;unfold bP;rw[if_neg (by omega),if_neg (by omega),if_neg (by omega),if_neg (by omega),if_neg (by omega)]
  ·rcases da with e|e
   ·rw[e] at hx;exact I.new.2 x hx
   ·rw[e] at hx;rw[List.mem_singleton.1 hx];exact I.ab.size
end
section
open Go.RowKit
def eK(f:Nat->Int):Tg:=⟨numOf f 2,f 2,numOf (fun j=>f (3+j)) 5,f 8,decide (f 9=1)⟩
def mH(f:Nat->Int):Prop:=(eK f).ok/\∀j,j<50->bP (eK f) j=f j
open Classical in
noncomputable def zi(n:Nat)(f:Nat->Int):Tg×Int:=if n=50 then (if mH f then (eK f,0) else (Tg.zero,3)) else (Tg.zero,1)
theorem akO{n:Nat}{f:Nat->Int}(h:n≠50):zi n f=(Tg.zero,1):=if_neg h
theorem aaN{f:Nat->Int}(h:¬mH f):zi 50 f=(Tg.zero,3):=by unfold zi;rw[if_pos rfl,if_neg h]
theorem ad0{f:Nat->Int}(h:mH f):zi 50 f=(eK f,0):=by unfold zi;rw[if_pos rfl,if_pos h]
theorem ub(a b c d:Int)(l:Bool)(w:World):(Instr.build 67 #[(0,.int .i64 a),(1,.int .i64 b),(2,.int .i64 c),(3,.int .i64 d),(4,.bool l)]).run Tryz.prog w=.ok (.agg (Tg.mk a b c d l).arr) w:=by kernel_rfl
theorem nk(w:World):(Instr.build 67 #[]).run Tryz.prog w=.ok (.agg Tg.zero.arr) w:=by kernel_rfl
theorem ad1:kO Tryz.prog 5 1=true:=by kernel_rfl
theorem ahC(A:Option Addr)(n c:Nat)(f:Nat->Int)(w:World)(r:Rd w A n (fun j=>.int .u8 (f j)))(hf:∀j,0<=f j/\f j<=255)(hn:1<=n)(hn8:n<=8) :
  Spec Tryz.prog 192 #[.slice A n c] w fun v w'=>v=.tuple #[.int .u64 (numOf f n),.nilIface]/\w=w':=Spec.jN (by kernel_rfl) (am0 A n c f w r hf hn hn8)
theorem Rd.part{w:World}{b o n m k:Nat}{f:Nat->Value}(r:Rd w (some ⟨b,o,none⟩) n f)(h:k+m<=n):Rd w (some ⟨b,o+k,none⟩) m (fun j=>f (k+j)):=fun hm=>by
 obtain⟨b',o',e,hc⟩:=r (by omega);injection e with e;injection e with e1 e2 _;subst e1;subst e2;exact⟨_,_,rfl,fun j hj=>by rw[Nat.add_assoc];exact hc (k+j) (by omega)⟩
theorem afj(A:Option Addr)(n c:Nat)(f:Nat->Int)(w:World)(r:Rd w A n (fun j=>.int .u8 (f j)))(hf:∀j,0<=f j/\f j<=255)(hn:n<=c) :
  Spec Tryz.prog 168 #[.slice A n c] w fun v w'=>v=.tuple #[.agg (zi n f).1.arr,al (zi n f).2]/\Aa [] w w':=by
 refine spec_of_wpE (T:=tt) ai func168 rfl (by decide +kernel) ntmps168 (by simp) ?_;conv=>whnf
 refine Ru.ft ?_;intro g w1 hg dj r1 k1;by_cases h50:n=50
 case neg =>
  rw[akO h50];conv=>whnf
  repeat ((first|refine Br.nn ?_|refine CW.s ?_);conv=>whnf)
  refine Ru.of (nk _) ?_;conv=>whnf
  refine Ru.ln (t:=Tg.zero) r1 ?_;intro w2 r2 k2;conv=>whnf
  refine Ru.fG r2 ?_;exact⟨rfl,rfl,k1.then k2 (fun x hx=>.inr (by rw[List.mem_singleton.1 hx,hg];exact Nat.le_refl _))⟩
 subst h50;obtain⟨b,o,rfl,hc⟩:=r (by omega);have R1:=r.aj k1;have n2:numOf f 2<65536:=(mG f hf 2).2;have n5:numOf (fun j=>f (3+j)) 5<1099511627776:=(mG (fun j=>f (3+j)) (fun j=>hf _) 5).2;have m2:=(mG f hf 2).1;have m5:=(mG (fun j=>f (3+j)) (fun j=>hf _) 5).1;conv=>whnf
 repeat ((first|refine Br.f ?_|refine CW.s ?_);conv=>whnf)
 refine Ru.ae6 underlying37 ad1 (h:=2) (by omega) ?_;conv=>whnf
 refine Ca.of (ahC _ 2 c f w1 (R1.pf (by omega)) hf (by omega) (by omega)) ?_;rintro _ _ ⟨rfl,rfl⟩;conv=>whnf
 repeat ((first|refine Br.f ?_|refine Ru.ak ?_|refine CW.s ?_);conv=>whnf)
 refine Ru.adT underlying37 ad1 (l:=3) (h:=8) (by omega) (by omega) (by omega) ?_;conv=>whnf
 refine Ca.of (ahC _ 5 (c-3) (fun j=>f (3+j)) w1 (R1.part (k:=3) (m:=5) (by omega)) (fun j=>hf _) (by omega) (by omega)) ?_;rintro _ _ ⟨rfl,rfl⟩;conv=>whnf
 repeat ((first|refine Br.f ?_|refine Ru.ak ?_|refine CW.s ?_);conv=>whnf)
 have hc1:∀j,j<50->w1.cell? ⟨b,o+j,none⟩=some (.int .u8 (f j)):=fun j hj=>(k1.cell (p:=⟨b,o+j,none⟩) (aZ (hc j hj)) (by simp)).trans (hc j hj);refine CW.held (fun w'=>∀j,j<50->w'.cell? ⟨b,o+j,none⟩=some (.int .u8 (f j))) [18] (.take 0 (.take 1 (.take 2 (.take 3 (.take 4 (.take 5 (.take 6 (.take 7 (.take 8 (.take 9 (.take 10 (.take 11 (.take 12 (.take 13 (.take 14 (.take 15 (.take 16 (.one 17 (.one 18 (.done)))))))))))))))))))) ai (by kernel_rfl) (by kernel_rfl) (by kernel_rfl) ?_ ?_
 ·exact hc1
 have f2:=hf 2;have f8:=hf 8;have f9:=hf 9;conv=>whnf
 repeat ((first|(refine Ag.at rfl (fun _ h=>h _ (by omega)) ?_)|(refine Ix.of 2 rfl (by omega) ?_)|(refine Ix.of 8 rfl (by omega) ?_)|(refine Ix.of 9 rfl (by omega) ?_)|refine Ar.la ?_);conv=>whnf)
 refine Am.of (fun _ _=>ub _ _ _ _ _ _) ?_;have ht:Tg.mk (numOf f 2) (f 2) (numOf (fun j=>f (3+j)) 5) (f 8) (decide (f 9=1))=eK f:=rfl;rw[ht];clear ht;have cN:¬((eK f).ok/\∀j,j<50->bP (eK f) j=f j)->zi 50 f=(Tg.zero,3):=aaN;have aoQ:((eK f).ok/\∀j,j<50->bP (eK f) j=f j)->zi 50 f=(eK f,0):=ad0;generalize eK f=t at *;conv=>whnf
 refine Ru.ft ?_;intro g7 w2 hg7 gO r7 k2;have k2':Aa [] w1 w2:=((Aa.refl [] w1).drewN 1).trans k2;have lU:∀j,j<50->w2.cell? ⟨b,o+j,none⟩=some (.int .u8 (f j)):=fun j hj=>(k2'.cell (p:=⟨b,o+j,none⟩) (aZ (hc1 j hj)) (by simp)).trans (hc1 j hj);conv=>whnf
 refine⟨lU,?_⟩;conv=>whnf
 refine Ru.ln (t:=t) r7 ?_;intro w3 r7 k3;have vS:Aa [] w1 w3:=k2'.then k3 (fun x hx=>.inr (by rw[List.mem_singleton.1 hx,hg7];exact Nat.le_refl _));conv=>whnf
 refine Ru.fG r7 ?_;conv=>whnf
 refine Ca.of (xz t w3) ?_;rintro v w4 ⟨k4,hv⟩;have k14:=vS.trans k4;have r1:=r1.ab k14 (by simp);have r7:=r7.ab k4 (by simp);have R4:=R1.aj k14;have am6:∀w9,Aa [g] w4 w9->Aa [] w w9:=fun w9 k9=>(k1.trans k14).then k9 (fun x hx=>.inr (by rw[List.mem_singleton.1 hx,hg];exact Nat.le_refl _));rcases hv with⟨mi,Y,d,rfl,hy,gN⟩|⟨mi,rfl⟩
 ·conv=>whnf
  repeat ((first|refine Br.f ?_|refine Ru.ak ?_|refine CW.s ?_);conv=>whnf)
  refine Ca.of (ov Y (some ⟨b,o,none⟩) 50 50 d c (bP t) f w4 hy.th R4 (tZ t) hf) ?_;rintro _ _ ⟨rfl,rfl⟩;by_cases hs:∀j,j<50->bP t j=f j
  ·rw[aoQ ⟨mi,hs⟩,m9 rfl hs];conv=>whnf
   repeat ((first|refine Br.f ?_|refine Pk.f ?_);conv=>whnf)
   refine Ru.fG r7 ?_;conv=>whnf
   refine Ru.ln (t:=t) r1 ?_;intro w5 r5 k5;conv=>whnf
   refine Ru.fG r5 ?_;exact⟨rfl,rfl,am6 _ k5⟩
  ·have gO:rO 50 50 (bP t) f=false:=decide_eq_false (fun h=>hs h.2);rw[cN (fun h=>hs h.2),gO];conv=>whnf
   repeat ((first|refine Br.t ?_|refine Br.f ?_|refine Pk.f ?_);conv=>whnf)
   refine Ru.of (nk _) ?_;conv=>whnf
   refine Ru.ln (t:=Tg.zero) r1 ?_;intro w5 r5 k5;conv=>whnf
   refine Ru.fG r5 ?_;exact⟨rfl,rfl,am6 _ k5⟩
 ·rw[cN (fun h=>mi h.1)];conv=>whnf
  repeat ((first|refine Br.t ?_|refine Pk.t ?_|refine Ru.n1 ?_|refine CW.s ?_);conv=>whnf)
  refine Ru.of (nk _) ?_;conv=>whnf
  refine Ru.ln (t:=Tg.zero) r1 ?_;intro w5 r5 k5;conv=>whnf
  refine Ru.fG r5 ?_;exact⟨rfl,rfl,am6 _ k5⟩
end
section
open Go.RowKit
attribute [local irreducible] GF.pw GF.lg GF.mul GF.inv GF.xt
open Classical in
noncomputable def eM(W:Nat->Nat):Option (Nat->Nat):=if h:∃V,Near V W then some h.choose else none
theorem afk{C V p:Nat->Nat}(h:Near C p)(h':Near V p):∀i,i<64->C i=V i:=xv (p:=p) h.1 h'.1 h.2.1 h'.2.1 (by have:=h.2.2;have:=h'.2.2;omega)
theorem nq{W V:Nat->Nat}(h:eM W=some V):Near V W:=by
 unfold eM at h;split at h
 ·rename_i hx
  cases h
  exact hx.choose_spec
 ·cases h
theorem afl{W:Nat->Nat}(h:eM W=none):∀V,¬Near V W:=fun V hV=>by
 unfold eM at h;split at h
 ·cases h
 ·rename_i hx
  exact hx ⟨V,hV⟩
theorem jX{W V:Nat->Nat}(h:Near V W):∃V',eM W=some V'/\∀i,i<64->V' i=V i:=by
 cases hd:eM W with
 |none=>exact absurd h (afl hd V)
 |some V'=>exact⟨V',rfl,afk (nq hd) h⟩
theorem aaO{W:Nat->Nat}(h:Df W):eM W=none:=by
 cases hd:eM W with
 |none=>rfl
 | some V =>
  obtain⟨h1,h2,h3⟩:=nq hd;have:=h V h1 h2;omega
theorem lp{V V' W:Nat->Nat}(h:∀i,i<64->V i=V' i):GF.cc V W=GF.cc V' W:=by
 unfold GF.cc GF.iS;congr 1;apply List.filter_congr;intro i hi;rw[h i (List.mem_range.1 hi)]
structure AR where
 tagged:Bool
 tag:Tg
 sound:Bool
 iU:Nat
 data:Nat->Nat
def lT(p:Nat->Nat)(r:Nat->Option (Nat->Nat)):Nat->Nat
 |0=>0
 |k+1=>max (lT p r k) (match r k with|some V=>GF.cc V (gi p k)|none=>0)
def AK(V:Nat->Nat)(a:Nat):Prop:=As (bw V)/\mH (bw V)/\(eK (bw V)).place=a
open Classical in
noncomputable def rQ(r:Nat->Option (Nat->Nat))(d a:Nat):AR :=
 match r 3 with
 |none=>⟨false,Tg.zero,false,d,fun _=>0⟩
 | some V=>if AK V a then
   (if (r 0).isSome/\(r 1).isSome/\(r 2).isSome then ⟨true,eK (bw V),true,d,fun j=>((r (j/58)).getD (fun _=>0)) (j%58)⟩ else ⟨true,eK (bw V),false,d,fun _=>0⟩)
  else ⟨false,Tg.zero,false,d,fun _=>0⟩
noncomputable def dX(p:Nat->Nat)(a:Nat):AR:=rQ (fun k=>eM (gi p k)) (lT p (fun k=>eM (gi p k)) 4) a
def rR(tg:Bool)(t:Tg)(s:Bool)(dv:Value)(d:Int)(j:Nat):Value:=if j=0 then .bool tg else if j<6 then t.cell (j-1) else if j=6 then .bool s else if j=7 then dv else .int .i64 d
theorem nine{j:Nat}(h:j<9):j=0\/j=1\/j=2\/j=3\/j=4\/j=5\/j=6\/j=7\/j=8:=by omega
section
variable{tg s:Bool}{t:Tg}{dv:Value}{d:Int}
theorem aoR(d':Int)(j:Nat)(h:j<9):put (rR tg t s dv d) 8 (.int .i64 d') j=rR tg t s dv d' j:=by
 rcases nine h with rfl|rfl|rfl|rfl|rfl|rfl|rfl|rfl|rfl<;>rfl
theorem am7(b:Bool)(j:Nat)(h:j<9):put (rR tg t s dv d) 0 (.bool b) j=rR b t s dv d j:=by
 rcases nine h with rfl|rfl|rfl|rfl|rfl|rfl|rfl|rfl|rfl<;>rfl
theorem aoS(b:Bool)(j:Nat)(h:j<9):put (rR tg t s dv d) 6 (.bool b) j=rR tg t b dv d j:=by
 rcases nine h with rfl|rfl|rfl|rfl|rfl|rfl|rfl|rfl|rfl<;>rfl
theorem am8(v:Value)(j:Nat)(h:j<9):put (rR tg t s dv d) 7 v j=rR tg t s v d j:=by
 rcases nine h with rfl|rfl|rfl|rfl|rfl|rfl|rfl|rfl|rfl<;>rfl
theorem aoT(t':Tg)(j:Nat)(h:j<9):lay (rR tg t s dv d) 1 5 t'.cell j=rR tg t' s dv d j:=by
 rcases nine h with rfl|rfl|rfl|rfl|rfl|rfl|rfl|rfl|rfl<;>rfl
theorem gE(h:dv.oneCell'=true)(j:Nat)(hj:j<9):(rR tg t s dv d j).oneCell'=true:=by
 rcases nine hj with rfl|rfl|rfl|rfl|rfl|rfl|rfl|rfl|rfl<;>first|rfl|exact h
end
def ad2:Array Value := #[.bool false,.int .i64 0,.int .i64 0,.int .i64 0,.int .i64 0,.bool false,.bool false,.slice none 0 0,.int .i64 0]
theorem aaP:(Array.range 9).map (rR false Tg.zero false (.slice none 0 0) 0)=ad2:=by
 apply Array.ext
 ·simp[ad2]
 ·intro i h1 h2;simp only[Array.getElem_map,Array.getElem_range];rcases nine (j:=i) (by simpa using h1) with rfl|rfl|rfl|rfl|rfl|rfl|rfl|rfl|rfl<;>rfl
theorem xA:(Tryz.prog.info? 149).map (·.size)=some 9:=by kernel_rfl
theorem aaQ(w:World):(Instr.alloc 149 true (.tuple #[])).run Tryz.prog w=.ok (.pointer (some ⟨w.heap.size,0,none⟩)) (w.alloc (.cells ad2 149)):=by kernel_rfl
theorem cr(w:World):(Instr.alloc 149 true (.tuple #[])).run Tryz.prog w=.ok (.pointer (some ⟨w.heap.size,0,none⟩)) (w.alloc (eS 9 (rR false Tg.zero false (.slice none 0 0) 0) 149)):=by
 rw[aaQ, <-aaP];rfl
theorem aaR(w:World):(Instr.build 149 #[]).run Tryz.prog w=.ok (.agg ad2) w:=by kernel_rfl
theorem acE(w:World):(Instr.build 149 #[]).run Tryz.prog w=.ok (agg 9 (rR false Tg.zero false (.slice none 0 0) 0)) w:=by
 rw[aaR, <-aaP];rfl
def akP(c f:Nat)(n:Int)(j:Nat):Value:=if j=0 then .pointer (some ⟨c,0,none⟩) else if j=1 then .pointer (some ⟨f,0,none⟩) else .int .i64 n
structure Ax(w:World)(m c f cd g h:Nat)(C:Chip)(n:Int):Prop where
 row:Row w m 250 3 (akP c f n)
 cH:Ab w c C
 jk:Frm w f cd g h
theorem FS.ty{w:World}{g:Nat}(h:FS w g):∃F,Row w g 318 769 F:=by
 rcases h with r|r<;>exact⟨_,r⟩
section
variable{w w':World}{m c f cd g h:Nat}{C:Chip}{n:Int}
theorem Ax.mc(H:Ax w m c f cd g h C n):m≠c:=H.row.ed H.cH (by decide)
theorem Ax.mf(H:Ax w m c f cd g h C n):m≠f:=H.row.ed H.jk.row (by decide)
theorem Ax.md(H:Ax w m c f cd g h C n):m≠cd:=H.row.ed H.jk.iH.row (by decide)
theorem Ax.mh(H:Ax w m c f cd g h C n):m≠h:=H.row.ed H.jk.iH.gen (by decide)
theorem Ax.mg(H:Ax w m c f cd g h C n):m≠g:=by
 obtain⟨F,r⟩:=H.jk.iH.fs.ty;exact H.row.ed r (by decide)
theorem Ax.cf(H:Ax w m c f cd g h C n):c≠f:=Row.ed H.cH H.jk.row (by decide)
theorem Ax.cd'(H:Ax w m c f cd g h C n):c≠cd:=Row.ed H.cH H.jk.iH.row (by decide)
theorem Ax.ch(H:Ax w m c f cd g h C n):c≠h:=Row.ed H.cH H.jk.iH.gen (by decide)
theorem Ax.cg(H:Ax w m c f cd g h C n):c≠g:=by
 obtain⟨F,r⟩:=H.jk.iH.fs.ty;exact Row.ed H.cH r (by decide)
theorem Ax.ab{S:List Nat}(H:Ax w m c f cd g h C n)(k:Aa S w w')(hm:m∉S)(hc:c∉S)(hf:f∉S)(hd:cd∉S)(hg:g∉S)(hh:h∉S):Ax w' m c f cd g h C n:=⟨H.row.ab k hm,H.cH.ab k hc,H.jk.aj k hf hd hg hh⟩
theorem Ax.aj(H:Ax w m c f cd g h C n)(k:Aa [] w w'):Ax w' m c f cd g h C n:=H.ab k (by simp) (by simp) (by simp) (by simp) (by simp) (by simp)
theorem Ax.of(H:Ax w m c f cd g h C n)(k:FK w g w'):Ax w' m c f cd g h C n:=⟨H.row.ab k.kp (by simpa using H.mg),H.cH.ab k.kp (by simpa using H.cg),H.jk.of k⟩
theorem Ax.uc{C':Chip}(H:Ax w m c f cd g h C n)(k:Aa [c] w w')(hc:Ab w' c C'):Ax w' m c f cd g h C' n :=
 ⟨H.row.ab k (by simpa using H.mc),hc,H.jk.aj k (by simpa using H.cf.symm) (by simpa using H.cd'.symm) (by simpa using H.cg.symm) (by simpa using H.ch.symm)⟩
theorem Ax.lt(H:Ax w m c f cd g h C n):m<w.heap.size/\c<w.heap.size/\f<w.heap.size/\cd<w.heap.size/\g<w.heap.size/\h<w.heap.size:=⟨H.row.lt,Row.lt H.cH,H.jk.row.lt,H.jk.iH.row.lt,H.jk.iH.fs.lt,H.jk.iH.gen.lt⟩
end
def AZ(w w':World)(R:AR)(dv:Value):Prop:=(R.sound=true/\∃O oc,dv=.slice O 174 oc/\(∀x,x∈aK O->w.heap.size<=x)/\Ly w' 5 1 O 174 oc (fun j=>.int .u8 (R.data j:Nat)))\/(R.sound=false/\dv=.slice none 0 0)
def BS(w:World)(m c f cd g h a:Nat)(C:Chip)(n:Int)(v:Value)(w':World):Prop :=
 (C.off=true/\v=.tuple #[agg 9 (rR false Tg.zero false (.slice none 0 0) 0),al 7]/\Ax w' m c f cd g h C n/\Aa [] w w') \/
 (C.off=false/\∃dv,AZ w w' (dX (eR C a) a) dv/\v=.tuple #[agg 9 (rR (dX (eR C a) a).tagged (dX (eR C a) a).tag (dX (eR C a) a).sound dv ((dX (eR C a) a).iU:Nat)),al 0]/\Ax w' m c f cd g h (C.bC a) (jI (n+1))/\Aa [m,c,g] w w')
theorem Ru.eW{w:World}{x:Nat}{F s:Nat->Value}{K:Unit->World->Prop}(r:Row w x 149 9 F)(h1:∀j,j<9->(s j).oneCell'=true)(k:∀w',Row w' x 149 9 s->Aa [x] w w'->K () w'):Ru Tryz.prog (storeVar 149 ⟨x,0,none⟩ (agg 9 s)) w K :=
 Ru.im r xA (by omega) h1 (fun w' r' k'=>k w' (r'.congr (fun j hj=>by
  unfold lay;rw[if_pos (by omega),Nat.sub_zero])) k')
theorem Ru.ew{w:World}{x:Nat}{s:Nat->Value}{K:Value->World->Prop}(r:Row w x 149 9 s)(k:K (agg 9 s) w):Ru Tryz.prog (loadVar 149 ⟨x,0,none⟩) w K :=
 Ru.cx r underlying149 rfl xA (by omega) (q:=s) (fun j _=>by rw[Nat.zero_add]) k
theorem dc{f g:Nat->Int}:∀(n:Nat),(∀j,j<n->f j=g j)->numOf f n=numOf g n
 |0,_=>rfl
 | n+1,h=>by
  rw[ll,ll,dc n (fun j hj=>h j (by omega)),h n (by omega)]
section
variable{V V':Nat->Nat}
theorem fA(h:∀i,i<64->V i=V' i){j:Nat}(hj:j<64):bw V j=bw V' j:=by
 unfold bw;rw[h j hj]
theorem As.congr(h:∀i,i<64->V i=V' i)(k:As (bw V)):As (bw V'):=fun j hj=>by
 rw[<-fA h (by omega)];exact k j hj
theorem oP(h:∀i,i<64->V i=V' i):eK (bw V)=eK (bw V'):=by
 unfold eK;rw[dc (g:=bw V') 2 (fun j hj=>fA h (by omega)),dc (f:=fun j=>bw V (3+j)) (g:=fun j=>bw V' (3+j)) 5 (fun j hj=>fA h (by omega)),fA h (j:=2) (by omega),fA h (j:=8) (by omega),fA h (j:=9) (by omega)]
theorem mH.congr(h:∀i,i<64->V i=V' i)(k:mH (bw V)):mH (bw V'):=by
 unfold mH at k ⊢;rw[<-oP h];exact⟨k.1,fun j hj=>by rw[k.2 j hj];exact fA h (by omega)⟩
theorem AK.congr{a:Nat}(h:∀i,i<64->V i=V' i)(k:AK V a):AK V' a:=⟨k.1.congr h,k.2.1.congr h,by rw[<-oP h];exact k.2.2⟩
end
theorem oQ{r:Nat->Option (Nat->Nat)}{d a:Nat}(h:∀V,r 3=some V->¬AK V a):rQ r d a=⟨false,Tg.zero,false,d,fun _=>0⟩:=by
 unfold rQ
 cases hr:r 3 with
 |none=>rfl
 |some V=>exact if_neg (h V hr)
theorem afm{r:Nat->Option (Nat->Nat)}{d a:Nat}{V:Nat->Nat}(h:r 3=some V)(ht:AK V a)(hs:¬((r 0).isSome/\(r 1).isSome/\(r 2).isSome)):rQ r d a=⟨true,eK (bw V),false,d,fun _=>0⟩:=by
 unfold rQ;rw[h];simp only;rw[if_pos ht,if_neg hs]
theorem qD{r:Nat->Option (Nat->Nat)}{d a:Nat}{V:Nat->Nat}(h:r 3=some V)(ht:AK V a)(hs:(r 0).isSome/\(r 1).isSome/\(r 2).isSome):rQ r d a=⟨true,eK (bw V),true,d,fun j=>((r (j/58)).getD (fun _=>0)) (j%58)⟩:=by
 unfold rQ;rw[h];simp only;rw[if_pos ht,if_pos hs]
theorem aqI(v:Value):Value.agg #[v]=agg 1 (fun _=>v):=by
 unfold agg;simp[Array.range,Array.ofFn_succ]
theorem acF(A:Option Addr)(w:World):(Instr.build 274 #[(0,.pointer A)]).run Tryz.prog w=.ok (.agg #[.pointer A]) w:=by kernel_rfl
theorem Ru.am9{w:World}{x:Nat}{tg s:Bool}{t t':Tg}{dv:Value}{d:Int}{o:Nat}{K:Unit->World->Prop}(r:Row w x 149 9 (rR tg t s dv d))(e:o=1)(k:∀w',Row w' x 149 9 (rR tg t' s dv d)->Aa [x] w w'->K () w'):Ru Tryz.prog (storeVar 67 ⟨x,o,none⟩ (.agg t'.arr)) w K:=by
 subst e;rw[acC];exact Ru.im r tX (by omega) (tY t') (fun w' r' k'=>k w' (r'.congr (fun j hj=>aoT t' j hj)) k')
theorem Am.fG{C:World->Prop}{g:Nat}{ty:TypeId}{t:Tg}{K:Value->Prop}(r:∀w,C w->Row w g ty 5 t.cell)(k:K (.agg t.arr)):Am Tryz.prog C (loadVar 67 ⟨g,0,none⟩) K:=⟨_,fun w hw=>acD (r w hw) (by omega) (fun j _=>by rw[Nat.zero_add]),k⟩
theorem akQ(w:World):Spec Tryz.prog 171 #[] w fun v w'=>∃f cd g h,w.heap.size<=f/\w.heap.size<=cd/\w.heap.size<=g/\w.heap.size<=h/\v=.pointer (some ⟨f,0,none⟩)/\Frm w' f cd g h/\Aa [] w w':=by
 refine spec_of_wpE (T:=tt) ai func171 rfl (by decide +kernel) ntmps171 (by simp) ?_;conv=>whnf
 refine Ca.of (ag5 w) ?_;rintro _ w1 ⟨cd,g,h,hc,hg,hh,rfl,H,k1⟩;conv=>whnf
 refine Ru.of ((acF _ w1).trans (by rw[aqI])) ?_;conv=>whnf
 refine Ru.dr ?_;intro f w2 hf gO r2 k2;conv=>whnf
 have hl:=H.fs.lt;have dj:=k1.size;exact⟨rfl,f,cd,g,h,by omega,hc,hg,hh,rfl,⟨r2,H.aj k2 (by simp) (by simp) (by simp),by omega⟩,k1.trans k2⟩
theorem acG(A B:Option Addr)(w:World):(Instr.build 250 #[(0,.pointer A),(1,.pointer B)]).run Tryz.prog w=.ok (.agg #[.pointer A,.pointer B,.int .i64 0]) w:=by kernel_rfl
theorem three{j:Nat}(h:j<3):j=0\/j=1\/j=2:=by omega
theorem afn(c f:Nat)(w:World):(Instr.build 250 #[(0,.pointer (some ⟨c,0,none⟩)),(1,.pointer (some ⟨f,0,none⟩))]).run Tryz.prog w=.ok (agg 3 (akP c f 0)) w:=by
 rw[acG];unfold agg;congr 2;apply Array.ext
 ·simp
 ·intro i h1 h2;simp only[Array.getElem_map,Array.getElem_range];rcases three (j:=i) (by simpa using h1) with rfl|rfl|rfl<;>rfl
theorem zj(w:World)(c:Nat)(C:Chip)(H:Ab w c C):Spec Tryz.prog 119 #[.pointer (some ⟨c,0,none⟩)] w fun v w'=>∃m f cd g h,w.heap.size<=m/\w.heap.size<=f/\w.heap.size<=cd/\w.heap.size<=g/\w.heap.size<=h/\v=.pointer (some ⟨m,0,none⟩)/\Ax w' m c f cd g h C 0/\Aa [] w w':=by
 refine spec_of_wpE (T:=tt) ai func119 rfl (by decide +kernel) ntmps119 (by simp) ?_;conv=>whnf
 refine Ca.of (akQ w) ?_;rintro _ w1 ⟨f,cd,g,h,hf,hc,hg,hh,rfl,F,k1⟩;conv=>whnf
 refine Ru.of (afn c f w1) ?_;conv=>whnf
 refine Ru.dr ?_;intro m w2 hm gO r2 k2;conv=>whnf
 have dj:=k1.size;exact⟨rfl,m,f,cd,g,h,by omega,hf,hc,hg,hh,rfl,⟨r2,(H.ab k1 (by simp)).ab k2 (by simp),F.aj k2 (by simp) (by simp) (by simp) (by simp)⟩,k1.trans k2⟩
theorem ana(c f:Nat)(n n':Int)(j:Nat)(h:j<3):put (akP c f n) 2 (.int .i64 n') j=akP c f n' j:=by
 rcases three h with rfl|rfl|rfl<;>rfl
theorem aaS(w:World)(m c f cd g h a:Nat)(C:Chip)(n:Int)(H:Ax w m c f cd g h C n)(hw:C.Wf)(ha:a<96) :
  Spec Tryz.prog 115 #[.pointer (some ⟨m,0,none⟩),.int .i64 a] w (BS w m c f cd g h a C n):=by
 have hmc:=H.mc;have hmg:=H.mg;have hcg:=H.cg;have av:=H.lt;refine spec_of_wpE (T:=tt) ai func115 rfl (by decide +kernel) ntmps115 (by simp) ?_;conv=>whnf
 refine Ru.aE (cr w) ?_;intro x4 w1 qj dj r4 k1;have H1:=H.aj k1;conv=>whnf
 repeat ((refine Ld.rowAt H1.row 0 (by omega) (by omega) ?_);conv=>whnf)
 refine Ca.of (ag9 w1 c a C H1.cH ha) ?_;rintro v w2 hv;rcases hv with⟨cj,rfl,rfl⟩|⟨cj,b,e,rfl,hb,ly,lU,k2⟩
 ·conv=>whnf
  repeat ((first|refine Br.t ?_|refine Ru.n1 ?_|refine CW.s ?_);conv=>whnf)
  refine Ru.of (acE _) ?_;conv=>whnf
  refine Ru.eW r4 (gE rfl) ?_;intro w3 r5 k3;conv=>whnf
  refine Ru.ew r5 ?_;conv=>whnf
  exact⟨rfl,.inl ⟨cj,rfl,H1.ab k3 (by simp;omega) (by simp;omega) (by simp;omega) (by simp;omega) (by simp;omega) (by simp;omega),k1.then k3 (fun x hx=>.inr (by rw[List.mem_singleton.1 hx];omega))⟩⟩
 have H2:=H1.uc k2 lU;have l8:=r4.ab k2 (by simp;omega);have gO:=k2.size;clear lU;generalize hp:eR C a=p at *;have hpl:∀j,p j<256:=fun j=>by rw[<-hp];exact hw.now _ _ _
 conv=>whnf
 repeat ((first|refine Br.f ?_|refine Ru.ak ?_|refine CW.s ?_);conv=>whnf)
 refine Ca.of (adI m 2 n 1 (jI (n+1)) rfl w2 (H2.row.cell 2 (by omega)) (Row.free H2.row _)) ?_;rintro _ w3 ⟨rfl,rfl⟩;have rm3:=(H2.row.set 2 (.int .i64 (jI (n+1)))).congr (fun j hj=>ana c f n _ j hj);have k3:Aa [m] w2 (w2.setCell ⟨m,2,none⟩ (.int .i64 (jI (n+1)))):=Aa.set m 2 _;generalize w2.setCell _ _=w3 at *;have hbm:b≠m:=by omega
 have H3:Ax w3 m c f cd g h (C.bC a) (jI (n+1)):=⟨rm3,H2.cH.ab k3 (by simp;omega),H2.jk.aj k3 (by simp;have:=H.mf;omega) (by simp;have:=H.md;omega) (by simp;omega) (by simp;have:=H.mh;omega)⟩;have ly3:=ly.ab k3 (by simpa[aK] using hbm);have fS:=l8.ab k3 (by simp;omega);have gg:=k3.size;conv=>whnf
 refine Ru.aE (cr w3) ?_;intro x8 w4 hx8 qB r8 k4;have H4:=H3.aj k4;have zk:=ly3.aj k4;have ia:=fS.ab k4 (by simp);have k14:Aa [m,c,g] w1 w4:=((k2.mono (by simp)).trans (k3.mono (by simp))).trans (k4.mono (by simp));have K0:Aa [m,c,g] w w4:=(k1.mono (by simp)).trans k14;have vP:w.heap.size<=x4/\x4<x8/\b<x8/\b≠x4:=by
  have:=Ly.lt ly3 rfl;have:=l8.lt;simp only at *;omega
 conv=>whnf
 repeat (refine CW.s ?_;conv=>whnf)
 refine CW.loop (ι:=Nat) (fun i w'=>i<=4/\Row w' x8 149 9 (rR false Tg.zero false (.slice none 0 0) ((lT p (fun k=>eM (gi p k)) i:Nat):Int))/\Frm w' f cd g h/\Aa [g,x8] w4 w') (fun i=>[(0,.pointer (some ⟨m,0,none⟩)),(1,.int .i64 a),(4,.pointer (some ⟨x4,0,none⟩)),(6,.slice (some ⟨b,0,none⟩) 256 e),(8,.pointer (some ⟨x8,0,none⟩)),(36,.int .i64 i)]) (fun i=>4-i) 0 ai ⟨by omega,r8,H4.jk,Aa.refl _ _⟩ ⟨rfl,rfl,rfl,rfl,rfl,rfl,trivial⟩ ?_;rintro i wr ⟨hi,r8,rI,kr⟩;have aoU:=H4.row.ab kr (by simp;omega);have lyr:=zk.ab kr (by simp[aK];omega);have rdb:AI wr (some ⟨b,0,none⟩) 256 p:=lyr.th;have hec:256<=e:=lyr.1;have ar3:=kr.size;by_cases hl:i<4
 ·conv=>whnf
  repeat ((first|(refine Ld.rowAt aoU 1 (by omega) (by omega) ?_)|refine Br.y ?_|refine CW.s ?_);conv=>whnf)
  refine Ca.of (ahn wr f cd g h e (some ⟨b,0,none⟩) p hpl rdb hec (fun a e=>by cases e;simp only;omega) rI i hl) ?_;rintro v w5 ⟨f5,hv⟩;have afo:=rI.of f5;have r85:=r8.ab f5.kp (by simp;omega);have k5:Aa [g,x8] w4 w5:=kr.trans (f5.kp.mono (by simp));have hdu:lT p (fun k=>eM (gi p k)) (i+1)=max (lT p (fun k=>eM (gi p k)) i) (match eM (gi p i) with|some V=>GF.cc V (gi p i)|none=>0):=rfl;rcases hv with⟨b5,e5,V,hb5,hV,pH,zf,rfl,wd5⟩|⟨rfl,cN⟩
  ·obtain⟨V',hV',he⟩:=jX (W:=gi p i) ⟨hV,pH,zf⟩;rw[hV'] at hdu;simp only at hdu;rw[lp he] at hdu;generalize lT p (fun k=>eM (gi p k)) i=D at *;conv=>whnf
   repeat ((first|(refine Ld.rowAt r85 8 (by omega) (by omega) ?_)|refine Br.t ?_|refine Ru.bh ?_);conv=>whnf)
   refine Sd.rowAt r85 8 (by omega) (by omega) rfl ?_;intro w6 r6 k6;have r6':=r6.congr (fun j hj=>aoR _ j hj);conv=>whnf
   repeat (refine Ar.la ?_;conv=>whnf)
   exact⟨i+1,⟨hl,by rw[hdu,show((max D (GF.cc V (gi p i)):Nat):Int)=max (D:Int) (GF.cc V (gi p i):Nat) by omega];exact r6',afo.aj k6 (by simp;have:=H.lt;omega) (by simp;have:=H.lt;omega) (by simp;omega) (by simp;have:=H.lt;omega),k5.trans (k6.mono (by simp))⟩,⟨rfl,rfl,rfl,rfl,rfl,vi (by omega),trivial⟩,by simp only;omega⟩
  ·rw[aaO (W:=gi p i) cN] at hdu;simp only[Nat.max_zero] at hdu;conv=>whnf
   repeat ((first|refine Br.f ?_|refine Ar.la ?_|refine Ru.e1 ?_);conv=>whnf)
   exact⟨i+1,⟨hl,by rw[hdu];exact r85,afo,k5⟩,⟨rfl,rfl,rfl,rfl,rfl,vi (by omega),trivial⟩,by simp only;omega⟩
 obtain rfl:i=4:=by omega
 conv=>whnf
 repeat ((first|(refine Ld.rowAt aoU 1 (by omega) (by omega) ?_)|refine Br.f ?_|refine CW.s ?_);conv=>whnf)
 refine Ca.of (akB wr f cd g h e (some ⟨b,0,none⟩) p hpl rdb hec (fun a e=>by cases e;simp only;omega) rI) ?_;rintro v w5 ⟨f5,hv⟩;have afo:=rI.of f5;have r85:=r8.ab f5.kp (by simp;omega);have k5:Aa [g,x8] w4 w5:=kr.trans (f5.kp.mono (by simp));have iJ:=ia.ab k5 (by simp;omega);have hs5:=k5.size;have ahD:∀ {S:List Nat} {w':World},Aa S w4 w'->Frm w' f cd g h->m∉S->c∉S->Ax w' m c f cd g h (C.bC a) (jI (n+1)):=fun k hf h1 h2=>⟨H4.row.ab k h1,H4.cH.ab k h2,hf⟩
 have hR:dX p a=rQ (fun k=>eM (gi p k)) (lT p (fun k=>eM (gi p k)) 4) a:=rfl;generalize lT p (fun k=>eM (gi p k)) 4=D at *;rcases hv with⟨X,V,hX,hV,pH,zf,hmk,rfl,lyX⟩|⟨er,her,rfl,lW⟩
 case inr =>
  have hR':dX p a=⟨false,Tg.zero,false,D,fun _=>0⟩:=by
   rw[hR];exact oQ (fun V hV ht=>by
    obtain⟨h1,h2,h3⟩:=nq hV;exact lW V h1 h2 h3 ht.1)
  have aqJ:er≠0:=by omega
  conv=>whnf
  repeat ((first|(refine Ru.js rfl ?_)|(refine Br.nno aqJ ?_)|refine CW.s ?_);conv=>whnf)
  refine Ru.ew r85 ?_;conv=>whnf
  refine Ru.eW iJ (gE rfl) ?_;intro w6 r6 k6;conv=>whnf
  refine Ru.ew r6 ?_;conv=>whnf
  have hT:∀x,x∈[g,x8,x4]->x∈[m,c,g]\/w.heap.size<=x:=fun x hx=>by
   simp at hx ⊢;rcases hx with h|h|h<;>omega
  have k46:Aa [g,x8,x4] w4 w6:=(k5.mono (by simp)).trans (k6.mono (by simp));refine⟨rfl,.inr ⟨cj,.slice none 0 0,?_⟩⟩;rw[hp,hR'];exact⟨.inr ⟨rfl,rfl⟩,rfl,ahD k46 (afo.aj k6 (by simp;omega) (by simp;omega) (by simp;omega) (by simp;omega)) (by simp;omega) (by simp;omega),K0.then k46 hT⟩
 obtain⟨V',hV',heV⟩:=jX (W:=gi p 3) ⟨hV,pH,zf⟩;have rdX:Rd w5 X 50 (fun j=>.int .u8 (bw V j)):=lyX.th;conv=>whnf
 repeat ((first|refine Br.f ?_|refine Ru.ak ?_|refine CW.s ?_);conv=>whnf)
 refine Ca.of (afj X 50 50 (bw V) w5 rdX (fun j=>by have:=hV j;unfold bw;omega) (by omega)) ?_;rintro _ w6 ⟨rfl,k6⟩;have aoV:=afo.aj k6 (by simp) (by simp) (by simp) (by simp);have r86:=r85.ab k6 (by simp);have nT:=iJ.ab k6 (by simp);conv=>whnf
 refine Ru.ft ?_;intro x15 w7 hx15 hs7 zl k7;conv=>whnf
 refine Ru.ln zl ?_;intro w8 zl k8;have hs6:=k6.size;have ahE:=(aoV.aj k7 (by simp) (by simp) (by simp) (by simp)).aj k8 (by simp;omega) (by simp;omega) (by simp;omega) (by simp;omega);have r88:=(r86.ab k7 (by simp)).ab k8 (by simp;omega);have r48:=(nT.ab k7 (by simp)).ab k8 (by simp;omega);have k48:Aa [g,x8,x15] w4 w8:=(((k5.mono (by simp)).trans (k6.mono (by simp))).trans (k7.mono (by simp))).trans (k8.mono (by simp));have hl8:=k8.size;have hT8:∀x,x∈[g,x8,x15]->x∈[m,c,g]\/w.heap.size<=x:=fun x hx=>by
  simp at hx ⊢;rcases hx with h|h|h<;>omega
 clear k6 k7 k8 afo aoV r85 r86 iJ nT;have bad:¬AK V a->dX p a=⟨false,Tg.zero,false,D,fun _=>0⟩:=fun hn=>by
  rw[hR];exact oQ (fun U hU ht=>by
   rw[hV'] at hU
   cases hU
   exact hn (ht.congr heV))
 by_cases mi:mH (bw V)
 case neg =>
  have hR':=bad (fun ht=>mi ht.2.1);rw[aaN mi];conv=>whnf
  repeat ((first|(refine Ru.aan (by decide) ?_)|refine Br.t ?_|refine Pk.t ?_|refine CW.s ?_);conv=>whnf)
  refine Ru.ew r88 ?_;conv=>whnf
  refine Ru.eW r48 (gE rfl) ?_;intro w9 r9 k9;conv=>whnf
  refine Ru.ew r9 ?_;conv=>whnf
  have k49:Aa [g,x8,x15,x4] w4 w9:=(k48.mono (by simp)).trans (k9.mono (by simp));refine⟨rfl,.inr ⟨cj,.slice none 0 0,?_⟩⟩;rw[hp,hR']
  exact⟨.inr ⟨rfl,rfl⟩,rfl,ahD k49 (ahE.aj k9 (by simp;omega) (by simp;omega) (by simp;omega) (by simp;omega)) (by simp;omega) (by simp;omega),K0.then k49 (fun x hx=>by
   simp at hx ⊢;rcases hx with h|h|h|h<;>omega)⟩
 rw[ad0 mi] at zl ⊢;by_cases acH:(eK (bw V)).place=a
 case neg =>
  have hR':=bad (fun ht=>acH ht.2.2);conv=>whnf
  repeat ((first|(refine Ld.rowAt zl 0 (by omega) (by omega) ?_)|(refine Br.nno acH ?_)|refine Br.f ?_|refine Pk.f ?_|refine Ru.ak ?_|refine CW.s ?_);conv=>whnf)
  refine Ru.ew r88 ?_;conv=>whnf
  refine Ru.eW r48 (gE rfl) ?_;intro w9 r9 k9;conv=>whnf
  refine Ru.ew r9 ?_;conv=>whnf
  have k49:Aa [g,x8,x15,x4] w4 w9:=(k48.mono (by simp)).trans (k9.mono (by simp));refine⟨rfl,.inr ⟨cj,.slice none 0 0,?_⟩⟩;rw[hp,hR']
  exact⟨.inr ⟨rfl,rfl⟩,rfl,ahD k49 (ahE.aj k9 (by simp;omega) (by simp;omega) (by simp;omega) (by simp;omega)) (by simp;omega) (by simp;omega),K0.then k49 (fun x hx=>by
   simp at hx ⊢;rcases hx with h|h|h|h<;>omega)⟩
 have zm:AK V a:=⟨hmk,mi,acH⟩;have al0:AK V' a:=zm.congr (fun i hi=>(heV i hi).symm);have htV:eK (bw V')=eK (bw V):=oP heV;conv=>whnf
 repeat ((first|(refine Ld.rowAt zl 0 (by omega) (by omega) ?_)|refine Br.f ?_|refine Pk.f ?_|refine Br.ny ?_|refine Ru.ak ?_|refine CW.s ?_);conv=>whnf)
 refine CW.held (fun w'=>Row w' x15 67 5 (eK (bw V)).cell) [4] (.take 0 (.take 1 (.one 2 (.take 3 (.one 4 (.done)))))) ai (by kernel_rfl) (by kernel_rfl) (by kernel_rfl) ?_ ?_
 ·exact zl.drewN 1
 have zl:=zl.drewN 1;have r88:=r88.drewN 1;have r48:=r48.drewN 1;have ahE:=ahE.drewN 1;have k48:=k48.drewN 1;have hl8:w7.heap.size<=(w8.drewN 1).heap.size:=hl8;generalize w8.drewN 1=w9 at *;conv=>whnf
 repeat ((refine Am.fG (fun _ h=>h) ?_);conv=>whnf)
 refine Sd.rowAt r88 0 (by omega) (by omega) rfl ?_;intro tP r10 vV;have aqK:=r10.congr (fun j hj=>am7 _ j hj);have zl:=zl.ab vV (by simp;omega);clear r10 r88;conv=>whnf
 refine⟨zl,?_⟩;conv=>whnf
 refine Ru.am9 aqK (by omega) ?_;intro zc r11 jJ;have zl:=zl.ab jJ (by simp;omega);have al1:=(ahE.aj vV (by simp;omega) (by simp;omega) (by simp;omega) (by simp;omega)).aj jJ (by simp;omega) (by simp;omega) (by simp;omega) (by simp;omega);have akR:Aa [g,x8,x15] w4 zc:=(k48.trans (vV.mono (by simp))).trans (jJ.mono (by simp));have aoW:=H4.row.ab akR (by simp;omega);have aoX:=zk.ab akR (by simp[aK];omega);have aqL:=(r48.ab vV (by simp;omega)).ab jJ (by simp;omega);have aoY:AI zc (some ⟨b,0,none⟩) 256 p:=aoX.th;have hec:256<=e:=aoX.1;have ar4:=akR.size;conv=>whnf
 repeat ((first|(refine Ld.rowAt aoW 1 (by omega) (by omega) ?_)|refine CW.s ?_);conv=>whnf)
 refine Ca.of (akG zc f cd g h e (some ⟨b,0,none⟩) p hpl aoY hec (fun a e=>by cases e;simp only;omega) al1) ?_;rintro v w12 ⟨f12,hv⟩;have al2:=al1.of f12;have r12:=r11.ab f12.kp (by simp;omega);have aoZ:=aqL.ab f12.kp (by simp;omega);have ao0:Aa [g,x8,x15] w4 w12:=akR.trans (f12.kp.mono (by simp));rcases hv with⟨O,oc,U,mm,hU,rfl,hO,lyO⟩|⟨rfl,kk,hkk,acI⟩
 ·have cq:∀k,k<3->∃U',eM (gi p k)=some U'/\∀i,i<64->U' i=U k i:=fun k hk=>jX (hU k hk);have ad3:(eM (gi p 0)).isSome/\(eM (gi p 1)).isSome/\(eM (gi p 2)).isSome:=by
   obtain⟨a0,h0,_⟩:=cq 0 (by omega);obtain⟨a1,h1,_⟩:=cq 1 (by omega);obtain⟨a2,h2,_⟩:=cq 2 (by omega);rw[h0,h1,h2];exact⟨rfl,rfl,rfl⟩
  have hR':dX p a=⟨true,eK (bw V'),true,D,fun j=>((eM (gi p (j/58))).getD (fun _=>0)) (j%58)⟩:=by
   rw[hR];exact qD hV' al0 ad3
  conv=>whnf
  repeat ((first|refine Br.t ?_|refine Ru.bh ?_);conv=>whnf)
  refine Sd.rowAt r12 6 (by omega) (by omega) rfl ?_;intro w13 r13 vS;have aqM:=r13.congr (fun j hj=>aoS _ j hj);have aqN:=lyO.ab vS (fun x hx=>by simp;have:=hO x hx;have:=r11.lt;omega);conv=>whnf
  refine Sd.rowAt aqM 7 (by omega) (by omega) rfl ?_;intro w14 r14 k14';have aqO:=r14.congr (fun j hj=>am8 _ j hj);have aqP:=aqN.ab k14' (fun x hx=>by simp;have:=hO x hx;have:=r11.lt;omega);have aqQ:=(aoZ.ab vS (by simp;omega)).ab k14' (by simp;omega);conv=>whnf
  refine Ru.ew aqO ?_;conv=>whnf
  refine Ru.eW aqQ (gE rfl) ?_;intro w15 r15' k15;conv=>whnf
  refine Ru.ew r15' ?_;conv=>whnf
  have akS:=aqP.ab k15 (fun x hx=>by simp;have:=hO x hx;have:=r48.lt;omega);have ahF:Aa [g,x8,x15,x4] w4 w15:=(((ao0.mono (by simp)).trans (vS.mono (by simp))).trans (k14'.mono (by simp))).trans (k15.mono (by simp));have ahG:=((al2.aj vS (by simp;omega) (by simp;omega) (by simp;omega) (by simp;omega)).aj k14' (by simp;omega) (by simp;omega) (by simp;omega) (by simp;omega)).aj k15 (by simp;omega) (by simp;omega) (by simp;omega) (by simp;omega);refine⟨rfl,.inr ⟨cj,.slice O 174 oc,?_⟩⟩;rw[hp,hR',htV]
  refine⟨.inl ⟨rfl,O,oc,rfl,fun x hx=>by have:=hO x hx;omega,akS.congr (fun j hj=>?_)⟩,rfl,ahD ahF ahG (by simp;omega) (by simp;omega),K0.then ahF (fun x hx=>by
   simp at hx ⊢;rcases hx with h|h|h|h<;>omega)⟩
  have hj3:j/58<3:=by omega
  obtain⟨U',hU',he⟩:=cq (j/58) hj3;simp only[hU',Option.getD_some];rw[he _ (by omega)]
 ·have hR':dX p a=⟨true,eK (bw V'),false,D,fun _=>0⟩:=by
   rw[hR];refine afm hV' al0 (fun h=>?_);have hn:=aaO acI;have:kk=0\/kk=1\/kk=2:=by omega
   rcases this with rfl|rfl|rfl
   ·rw[hn] at h;exact absurd h.1 (by simp)
   ·rw[hn] at h;exact absurd h.2.1 (by simp)
   ·rw[hn] at h;exact absurd h.2.2 (by simp)
  conv=>whnf
  repeat ((first|refine Br.f ?_|refine Ru.e1 ?_);conv=>whnf)
  refine Ru.ew r12 ?_;conv=>whnf
  refine Ru.eW aoZ (gE rfl) ?_;intro w15 r15' k15;conv=>whnf
  refine Ru.ew r15' ?_;conv=>whnf
  have ahF:Aa [g,x8,x15,x4] w4 w15:=(ao0.mono (by simp)).trans (k15.mono (by simp));have ahG:=al2.aj k15 (by simp;omega) (by simp;omega) (by simp;omega) (by simp;omega);refine⟨rfl,.inr ⟨cj,.slice none 0 0,?_⟩⟩;rw[hp,hR',htV]
  exact⟨.inr ⟨rfl,rfl⟩,rfl,ahD ahF ahG (by simp;omega) (by simp;omega),K0.then ahF (fun x hx=>by
   simp at hx ⊢;rcases hx with h|h|h|h<;>omega)⟩
end
section
open Go.RowKit
theorem ao1(d:Nat)(f g:Tg)(w:World):(Op.equalIn (d+2) 67 (.agg f.arr) (.agg g.arr)).run Tryz.prog w=.ok (decide (f=g)) w:=by
 have e:decide (f=g)=(decide (f.place=g.place)&&(decide (f.of=g.of)&&(decide (f.seq=g.seq)&&(decide (f.copy=g.copy)&&(decide (f.lost=g.lost)&&true))))):=by
  rw[Bool.eq_iff_iff];simp only[Bool.and_eq_true,decide_eq_true_eq,Bool.and_true];obtain⟨a,b,c,d,e⟩:=f;obtain⟨a',b',c',d',e'⟩:=g;simp
 rw[e];refine am1 underlying67 (by kernel_rfl) ?_;refine eqf_cons (by decide +kernel) (dU (by kernel_rfl) rfl) (dU (by kernel_rfl) rfl) (eq_int underlying3) ?_;refine eqf_cons (by decide +kernel) (dU (by kernel_rfl) rfl) (dU (by kernel_rfl) rfl) (eq_int underlying3) ?_;refine eqf_cons (by decide +kernel) (dU (by kernel_rfl) rfl) (dU (by kernel_rfl) rfl) (eq_int underlying2) ?_;refine eqf_cons (by decide +kernel) (dU (by kernel_rfl) rfl) (dU (by kernel_rfl) rfl) (eq_int underlying3) ?_;refine eqf_cons (by decide +kernel) (dU (by kernel_rfl) rfl) (dU (by kernel_rfl) rfl) (akK underlying4) ?_;exact akJ
theorem anb(x y:Operand)(f g:Tg)(w:World):(do eqGuard .neq 67 x y (.agg f.arr) (.agg g.arr);binOp .neq 67 (.agg f.arr) (.agg g.arr):Sem Value).run Tryz.prog w=.ok (.bool (!decide (f=g))) w:=by
 rw[Sem.run_bind,run_eqGuard_agg w _ _ _ _ _ _ (by kernel_rfl),Result.andThen_ok,run_neq_struct,ao1 9998];rfl
theorem acJ(v:Int)(hv:0<=v)(n:Nat):numOf (byteOf v) n=v%256^n:=by
 induction n with
 |zero=>simp[numOf]
 | succ n ih =>
  rw[ll,ih];unfold byteOf;have hp:(0:Int)<256^n:=Int.pow_pos (by omega);have h1:=Int.emod_add_mul_ediv v (256^n);have h2:=Int.emod_add_mul_ediv (v/256^n) 256;have h3:=Int.emod_add_mul_ediv v (256^(n+1));rw[Int.pow_succ] at h3 ⊢;rw[<-Int.ediv_ediv_of_nonneg (Int.le_of_lt hp)] at h3;generalize v/256^n=x at *;have e:256^n*256*(x/256)=256^n*(256*(x/256)):=Int.mul_assoc _ _ _;rw[e] at h3;have e2:256^n*x=256^n*(x%256)+256^n*(256*(x/256)):=by rw[<-Int.mul_add,h2]
  have e3:x%256*256^n=256^n*(x%256):=Int.mul_comm _ _;omega
theorem ud(v:Int)(hv:0<=v)(n:Nat)(h:v/256^n=0):numOf (byteOf v) n=v:=by
 rw[acJ v hv];have h1:=Int.emod_add_mul_ediv v (256^n);rw[h,Int.mul_zero,Int.add_zero] at h1;exact h1
theorem ahH{t:Tg}(ht:t.ok):eK (bP t)=t:=by
 obtain⟨h0,h1,h2,h3,h4,h5,h6,h7,_,_⟩:=ht;have e0:numOf (bP t) 2=t.place:=by
  rw[dc (f:=bP t) (g:=byteOf t.place) 2 (fun j hj=>by unfold bP;rw[if_pos (by omega)])];exact ud _ (by omega) 2 (Int.ediv_eq_zero_of_lt (by omega) (by omega))
 have e2:numOf (fun j=>bP t (3+j)) 5=t.seq:=by
  rw[dc (f:=fun j=>bP t (3+j)) (g:=byteOf t.seq) 5 (fun j hj=>by
   unfold bP;rw[if_neg (by omega),if_neg (by omega),if_pos (by omega)];congr 1;omega)]
  exact ud _ (by omega) 5 (Int.ediv_eq_zero_of_lt (by omega) (by omega))
 have e1:bP t 2=t.of:=alZ (by omega) (by omega);have e3:bP t 8=t.copy:=alZ (by omega) (by omega);have e4:decide (bP t 9=1)=t.lost:=by
  have:bP t 9=byteOf (if t.lost then 1 else 0) 0:=rfl;rw[this]
  cases t.lost<;>decide
 unfold eK;rw[e0,e1,e2,e3,e4]
end
section
open Go.RowKit
attribute [local irreducible] GF.pw GF.lg GF.mul GF.inv GF.xt
def Chip.prog(C:Chip)(a:Nat)(W:Nat->Nat->Nat):Nat->Chip×Int
 |0=>(C,0)
 |k+1=>if (C.prog a W k).2=0 then (C.prog a W k).1.write a k (W k) else C.prog a W k
def rS(t:Tg)(j:Nat):Nat:=(bP t j).toNat
theorem mI(t:Tg)(j:Nat):rS t j<256:=by
 have:=tZ t j;unfold rS;omega
theorem qE(t:Tg)(j:Nat):((rS t j:Nat):Int)=bP t j:=by
 have:=tZ t j;unfold rS;omega
def aO(D:Nat->Nat)(t:Tg)(k:Nat):Nat->Nat:=GF.l5 (lS (iT D (rS t)) k)
theorem acK{C:Chip}(h:C.Wf)(B:Nat):(C.iq B).Wf:=by
 unfold Chip.iq;split
 ·refine⟨h.b0,h.b1,fun b=>?_,h.now,h.cy⟩;have:=h.bf b;have:=h.bf B;simp only[ah];split<;>omega
 ·exact h
theorem aaT{C:Chip}(h:C.Wf)(a k:Nat){x:Chunk}(h1:∀i,x.now i<256)(h2:∀i,x.cy i<256):(C.cZ a k x).Wf:=by
 refine⟨h.b0,h.b1,h.bf,fun a' k' i=>?_,fun a' k' i=>?_⟩
 ·unfold Chip.cZ;simp only;split
  ·exact h1 i
  ·exact h.now _ _ _
 ·unfold Chip.cZ;simp only;split
  ·exact h2 i
  ·exact h.cy _ _ _
theorem ahI{C:Chip}(h:C.Wf)(a k:Nat){b:Nat->Nat}(hb:∀i,b i<256):(C.write a k b).1.Wf:=by
 unfold Chip.write;split
 ·exact h
 ·split
  ·exact h
  ·split
   ·split
    ·exact acK h.step _
    ·exact aaT (acK h.step _) _ _ hb hb
   ·exact h.step
theorem zn{C:Chip}(h:C.Wf)(a:Nat){W:Nat->Nat->Nat}(hW:∀k i,W k i<256):∀n,(C.prog a W n).1.Wf
 |0=>h
 | n+1=>by
  have ih:=zn h a hW n;unfold Chip.prog;split
  ·exact ahI ih _ _ (hW n)
  ·exact ih
theorem afp{C:Chip}(h:C.aI.2=0):C.aI.1.off=C.off:=by
 unfold Chip.aI at h ⊢;split
 ·rename_i hc
  rw[if_pos hc] at h;split
  ·rename_i h0
   rw[if_pos h0] at h
   cases h
  ·rfl
 ·rfl
theorem akT(C:Chip)(B:Nat):(C.iq B).off=C.off:=by
 unfold Chip.iq;split<;>rfl
theorem acL{C:Chip}{a k:Nat}{b:Nat->Nat}(h:(C.write a k b).2=0):C.off=false/\(C.write a k b).1.off=false/\(C.ch a k).is=false/\(C.write a k b).1.ch=(C.cZ a k ⟨b,b,true,0⟩).ch:=by
 unfold Chip.write at h ⊢;by_cases h1:C.off=true
 ·rw[if_pos h1] at h
  cases h
 rw[if_neg h1] at h ⊢;by_cases h2:(C.ch a k).is=true
 ·rw[if_pos h2] at h
  cases h
 rw[if_neg h2] at h ⊢;by_cases h3:C.aI.2=0
 ·rw[if_pos h3] at h ⊢;by_cases h4:(C.aI.1.iq (a/8)).failed (a/8)=true
  ·rw[if_pos h4] at h
   cases h
  ·rw[if_neg h4];refine⟨by simpa using h1,?_,by simpa using h2,?_⟩
   ·show(C.aI.1.iq (a/8)).off=false;rw[akT,afp h3];simpa using h1
   ·unfold Chip.cZ;simp only[Chip.acq,Chip.tK]
 ·rw[if_neg h3] at h;exact absurd h h3
theorem qG{C:Chip}{a:Nat}{W:Nat->Nat->Nat}:∀ {n:Nat},0<n->(C.prog a W n).2=0->(C.prog a W n).1.off=false/\∀k,k<n->(C.prog a W n).1.ch a k=⟨W k,W k,true,0⟩
 |0,h0,_=>absurd h0 (by omega)
 | n+1,_,h=>by
  unfold Chip.prog at h ⊢;by_cases h1:(C.prog a W n).2=0
  ·rw[if_pos h1] at h ⊢;obtain⟨g1,g2,g3,g4⟩:=acL h;refine⟨g2,fun k hk=>?_⟩;rw[g4];by_cases hkn:k=n
   ·subst hkn;rw[Chip.dt]
   ·rw[Chip.fe _ _ (fun e=>hkn e.2)];have hn:0<n:=by omega
    exact(qG hn h1).2 k (by omega)
  ·rw[if_neg h1] at h;exact absurd h h1
theorem afq{p D:Nat->Nat}{t:Tg}{a:Nat}(hD:∀j,D j<256)(ht:t.ok)(qH:t.place=a)(hp:∀k,k<4->∀i,i<64->gi p k i=aO D t k i) :
  (dX p a).tagged=true/\(dX p a).tag=t/\(dX p a).sound=true/\(∀j,j<174->(dX p a).data j=D j):=by
 have hq:∀j,iT D (rS t) j<256:=pJ hD (mI t);have ao2:∀k,k<4->Near (aO D t k) (gi p k):=fun k hk=>⟨GF.sI (fun j=>hq _),GF.ahj (fun j=>hq _),by
  rw[GF.iG,lp (hp k hk),nc];omega⟩
 have ss:∀k,k<4->∃V,eM (gi p k)=some V/\∀i,i<64->V i=aO D t k i:=fun k hk=>jX (ao2 k hk);obtain⟨V,hV,he⟩:=ss 3 (by omega);have hb:∀j,j<50->bw V j=bP t j:=fun j hj=>by
  unfold bw;rw[he j (by omega)];unfold aO GF.l5;rw[if_pos (by omega)];unfold lS iT;rw[if_neg (by omega),if_pos (by omega),show 3*58+j-174=j by omega,qE]
 have hm:∀j,j<8->bw V (50+j)=jt j:=fun j hj=>by
  unfold bw;rw[he (50+j) (by omega)];unfold aO GF.l5;rw[if_pos (by omega)];unfold lS iT;rw[if_neg (by omega),if_neg (by omega),show 3*58+(50+j)-224=j by omega,qA]
 have hdT:eK (bw V)=t:=by
  rw[<-ahH ht];unfold eK;rw[dc (f:=bw V) (g:=bP t) 2 (fun j hj=>hb j (by omega)),dc (f:=fun j=>bw V (3+j)) (g:=fun j=>bP t (3+j)) 5 (fun j hj=>hb (3+j) (by omega)),hb 2 (by omega),hb 8 (by omega),hb 9 (by omega)]
 have zm:AK V a:=⟨hm,by unfold mH;rw[hdT];exact⟨ht,fun j hj=>(hb j hj).symm⟩,by rw[hdT];exact qH⟩;have hs:(eM (gi p 0)).isSome/\(eM (gi p 1)).isSome/\(eM (gi p 2)).isSome:=by
  obtain⟨a0,h0,_⟩:=ss 0 (by omega);obtain⟨a1,h1,_⟩:=ss 1 (by omega);obtain⟨a2,h2,_⟩:=ss 2 (by omega);rw[h0,h1,h2];exact⟨rfl,rfl,rfl⟩
 have hR:dX p a=⟨true,eK (bw V),true,_,_⟩:=qD hV zm hs;rw[hR,hdT];refine⟨rfl,rfl,rfl,fun j hj=>?_⟩;simp only;obtain⟨U,hU,hUe⟩:=ss (j/58) (by omega);rw[hU,Option.getD_some,hUe _ (by omega)];unfold aO GF.l5;rw[if_pos (by omega)];unfold lS iT;rw[show j/58*58+j%58=j by omega,if_pos hj]
end
section
open Go.RowKit
attribute [local irreducible] GF.pw GF.lg GF.mul GF.inv GF.xt
theorem oR{C:Chip}{a:Nat}{W:Nat->Nat->Nat}{i:Nat}(h:(C.prog a W i).2≠0):∀n,i<=n->C.prog a W n=C.prog a W i
 | 0,h0=>by
  obtain rfl:i=0:=by omega
  rfl
 | n+1,h0=>by
  by_cases hn:i=n+1
  ·subst hn;rfl
  ·have ih:=oR h n (by omega);show(if (C.prog a W n).2=0 then (C.prog a W n).1.write a n (W n) else C.prog a W n)=_;rw[ih,if_neg h]
def BU(w:World)(m c f cd g h a:Nat)(C:Chip)(n:Int)(D:Nat->Nat)(t:Tg)(v:Value)(w':World):Prop :=
 Aa [m,c,g] w w'/\(((C.prog a (aO D t) 4).2≠0/\v=al (C.prog a (aO D t) 4).2/\Ax w' m c f cd g h (C.prog a (aO D t) 4).1 n) \/
  ((C.prog a (aO D t) 4).2=0/\v=al 0/\Ax w' m c f cd g h ((C.prog a (aO D t) 4).1.bC a) (jI (n+1))))
theorem Ru.anc{w:World}{x o:Nat}{tg s:Bool}{t:Tg}{dv:Value}{d:Int}{K:Value->World->Prop}(r:Row w x 149 9 (rR tg t s dv d))(e:o=1)(k:K (.agg t.arr) w):Ru Tryz.prog (loadVar 67 ⟨x,o,none⟩) w K:=by
 subst e;refine⟨_,_,acD r (by omega) (fun j hj=>?_),k⟩;have:j=0\/j=1\/j=2\/j=3\/j=4:=by omega
 rcases this with rfl|rfl|rfl|rfl|rfl<;>rfl
theorem acM(w:World)(m c f cd g h a dd:Nat)(C:Chip)(n:Int)(A:Option Addr)(D:Nat->Nat)(t:Tg)(H:Ax w m c f cd g h C n)(hw:C.Wf)(ha:a<96)(hD:∀j,D j<256)(rD:AI w A 174 D)(hdd:174<=dd)
  (hA:∀x,A=some x->x.block≠m/\x.block≠c/\x.block≠g) (ht:t.ok) (qH:t.place=a) :
  Spec Tryz.prog 159 #[.pointer (some ⟨m,0,none⟩),.int .i64 a,.agg t.arr,.slice A 174 dd] w (BU w m c f cd g h a C n D t):=by
 have hmc:=H.mc;have hmg:=H.mg;have hcg:=H.cg;have av:=H.lt;refine spec_of_wpE (T:=tt) ai func159 rfl (by decide +kernel) ntmps159 (by simp) ?_;conv=>whnf
 refine Ru.xy ?_;intro x6 w1 hx6 dj r6 k1;have H1:=H.aj k1;conv=>whnf
 refine Ru.fG r6 ?_;conv=>whnf
 refine Ca.of (xz t w1) ?_;rintro v w2 ⟨k2,hv⟩;rcases hv with⟨-,X,db,rfl,lyX,hX⟩|⟨hn,-⟩
 case inr=>exact absurd ht hn
 have H2:=H1.aj k2;have zo:=r6.ab k2 (by simp);have rD2:=(rD.aj k1).aj k2;have rX:AI w2 X 50 (rS t):=lyX.th.congr (fun j hj=>by rw[qE]);have gO:=k2.size;conv=>whnf
 repeat ((first|(refine Ld.rowAt zo 0 (by omega) (by omega) ?_)|(refine Br.aom qH ?_)|(refine Ld.rowAt H2.row 1 (by omega) (by omega) ?_)|refine Br.f ?_|refine Ru.ak ?_|refine CW.s ?_);conv=>whnf)
 refine Ca.of (amX w2 f cd g h dd db A X D (rS t) hD (mI t) rD2 rX hdd H2.jk) ?_;rintro v w3 ⟨f3,O,oc,bk,ek,rfl,lyO,hO⟩;have H3:=H2.of f3;have r63:=zo.ab f3.kp (by simp;omega);have rD3:=rD2.ab f3.kp (fun x hx=>by simpa using(hA x hx).2.2);have gg:=f3.kp.size;have K3:Aa [m,c,g] w w3:=((k1.mono (by simp)).trans (k2.mono (by simp))).trans (f3.kp.mono (by simp));have hW:∀k i,aO D t k i<256:=fun k i=>GF.sI (fun j=>pJ hD (mI t) _) i;have hOl:∀k,k<4->w2.heap.size<=bk k/\Wd w3 (bk k) (ek k) (aO D t k):=hO;clear hO lyX rX rD2;conv=>whnf
 repeat ((first|refine Br.f ?_|refine Ru.ak ?_|refine CW.s ?_);conv=>whnf)
 refine CW.loop (ι:=Nat) (fun i w'=>i<=4/\(C.prog a (aO D t) i).2=0/\Ax w' m c f cd g h (C.prog a (aO D t) i).1 n/\Aa [c] w3 w') (fun i=>[(0,.pointer (some ⟨m,0,none⟩)),(1,.int .i64 a),(3,.slice A 174 dd),(6,.pointer (some ⟨x6,0,none⟩)),(42,.slice O 4 oc),(43,.int .i64 4),(44,.int .i64 i)]) (fun i=>4-i) 0 ai ⟨by omega,rfl,H3,Aa.refl _ _⟩ ⟨rfl,rfl,rfl,rfl,rfl,rfl,rfl,trivial⟩ ?_;rintro i wr ⟨hi,hp,Hr,kr⟩;have hsr:=kr.size;by_cases hl:i<4
 ·obtain⟨nR,wd⟩:=hOl i hl;have aqR:Ly wr 37 1 O 4 oc (fun k=>.slice (some ⟨bk k,0,none⟩) 64 (ek k)):=lyO.ab kr (fun x hx hc=>Ly.aL lyO H3.cH (by decide) (by rw[List.mem_singleton.1 hc] at hx;exact hx));have wdr:Wd wr (bk i) (ek i) (aO D t i):=Ly.ab wd kr (fun x hx=>by
   rw[List.mem_singleton.1 hx];simp;omega)
  obtain⟨bO,rfl,hcO,-⟩:=aqR.yF hl;have hek:64<=ek i:=wdr.1;have ao3:C.prog a (aO D t) (i+1)=(C.prog a (aO D t) i).1.write a i (aO D t i):=if_pos hp;conv=>whnf
  repeat ((first|(refine Ld.at (by omega) hcO ?_)|(refine Ld.rowAt Hr.row 0 (by omega) (by omega) ?_)|refine Ix.n ?_|refine Br.y ?_|refine CW.s ?_);conv=>whnf)
  refine Ca.of (ag7 wr c a i (ek i) (C.prog a (aO D t) i).1 (some ⟨bk i,0,none⟩) (aO D t i) Hr.cH (zn hw a hW i) ha hl wdr.th hek (fun x hx=>by cases hx;simp only;omega)) ?_;rintro _ w4 ⟨rfl,hc4,k4⟩;have H4:=Hr.uc k4 hc4;rw[<-ao3] at H4 ⊢;have k34:=kr.trans k4;by_cases he:(C.prog a (aO D t) (i+1)).2=0
  ·rw[he];conv=>whnf
   repeat ((first|refine Br.f ?_|refine Ar.la ?_|refine Ru.ak ?_);conv=>whnf)
   exact⟨i+1,⟨hl,he,H4,k34⟩,⟨rfl,rfl,rfl,rfl,rfl,rfl,vi (by omega),trivial⟩,by simp only;omega⟩
  ·have bq:=oR he 4 (by omega);conv=>whnf
   repeat ((first|(refine Ru.js rfl ?_)|(refine Br.nno he ?_));conv=>whnf)
   refine⟨rfl,(K3.then k34 (fun x hx=>.inl (by simp at hx ⊢;omega))),.inl ?_⟩;rw[bq];exact⟨he,rfl,H4⟩
 obtain rfl:i=4:=by omega
 obtain⟨cj,tz⟩:=qG (by omega) hp;have hpw:=zn hw a hW 4;have rDr:=rD3.ab kr (fun x hx=>by simpa using(hA x hx).2.1);have r6r:=r63.ab kr (by simp;omega);have ao4:BU w m c f cd g h a C n D t=fun v w'=>Aa [m,c,g] w w'/\(((C.prog a (aO D t) 4).2≠0/\v=al (C.prog a (aO D t) 4).2/\Ax w' m c f cd g h (C.prog a (aO D t) 4).1 n) \/
  ((C.prog a (aO D t) 4).2=0/\v=al 0/\Ax w' m c f cd g h ((C.prog a (aO D t) 4).1.bC a) (jI (n+1)))):=rfl;rw[ao4];clear ao4;generalize C.prog a (aO D t) 4=S at *;have aqS:=afq (p:=eR S.1 a) hD ht qH (fun k hk i hi=>by
  unfold gi eR;rw[show(k*64+i)/64=k by omega,show(k*64+i)%64=i by omega,tz k hk])
 conv=>whnf
 repeat ((first|refine Br.f ?_|refine CW.s ?_);conv=>whnf)
 refine Ca.of (aaS wr m c f cd g h a S.1 n Hr hpw ha) ?_;rintro v w5 hv;rcases hv with⟨ho,-⟩|⟨-,dv,jn,rfl,H5,k5⟩
 ·rw[cj] at ho
  cases ho
 generalize dX (eR S.1 a) a=R at *;obtain⟨e1,e2,e3,e4⟩:=aqS;rcases jn with⟨-,O5,oc5,rfl,hO5,akS⟩|⟨hf,-⟩
 case inr =>
  rw[e3] at hf
  cases hf
 rw[e2,e3];have rD5:=rDr.ab k5 (fun x hx=>by have:=hA x hx;simp;omega);have qI:=r6r.ab k5 (by simp;omega);have hs5:=k5.size;conv=>whnf
 refine Ru.aE (cr w5) ?_;intro x15 w6 hx15 hs6 zl k6;conv=>whnf
 refine Ru.eW zl (gE rfl) ?_;intro w7 zl k7;have ue:=(qI.ab k6 (by simp)).ab k7 (by simp;omega);have rD7:=(rD5.aj k6).ab k7 (fun x hx=>by
  obtain⟨b0,o0,jR,yG⟩:=rD5 (by omega);rw[jR] at hx
  cases hx
  have:=aZ (yG 0 (by omega));simp only at this ⊢;simp;omega)
 have ane:=(akS.aj k6).ab k7 (fun x hx=>by
  have:=Ly.kR akS hx;simp;omega)
 have H7:=(H5.aj k6).ab k7 (by simp;omega) (by simp;omega) (by simp;omega) (by simp;omega) (by simp;omega) (by simp;omega);have K5:Aa [m,c,g] w w5:=(K3.trans (kr.mono (by simp))).trans k5;have K7:Aa [m,c,g] w w7:=(K5.trans (k6.mono (by simp))).then k7 (fun x hx=>.inr (by have:=List.mem_singleton.1 hx;omega));conv=>whnf
 repeat ((first|(refine Ld.rowAt zl 6 (by omega) (by omega) ?_)|(refine Ru.anc zl (by omega) ?_)|(refine Ru.fG ue ?_)|(refine Ru.of (anb _ _ _ _ _) ?_)|refine Br.f ?_|refine Pk.f ?_|refine Ru.ak ?_|refine CW.s ?_);conv=>whnf)
 have htt:(!decide (t=t))=false:=by simp
 rw[htt];conv=>whnf
 repeat ((first|(refine Ld.rowAt zl 7 (by omega) (by omega) ?_)|refine Br.f ?_);conv=>whnf)
 have rdO:Rd w7 O5 174 (fun j=>.int .u8 (bw D j)):=ane.th.congr (fun j hj=>by unfold bw;rw[e4 j hj]);refine Ca.of (ov O5 A 174 174 oc5 dd (bw D) (bw D) w7 rdO rD7 (fun j=>by have:=hD j;unfold bw;omega) (fun j=>by have:=hD j;unfold bw;omega)) ?_;rintro _ _ ⟨rfl,rfl⟩;rw[m9 (n0:=174) (n1:=174) rfl (fun _ _=>rfl)];conv=>whnf
 repeat ((first|refine Br.f ?_|refine Pk.f ?_);conv=>whnf)
 exact⟨rfl,K7,.inr ⟨hp,rfl,H7⟩⟩
end
section
open Go.RowKit
attribute [local irreducible] GF.pw GF.lg GF.mul GF.inv GF.xt
def mx(f:Nat->Nat):Nat->Nat
 |0=>0
 |k+1=>max (mx f k) (f k)
theorem pK{f g:Nat->Nat}:∀n,(∀k,k<n->f k=g k)->mx f n=mx g n
 |0,_=>rfl
 | n+1,h=>by
  unfold mx;rw[pK n (fun k hk=>h k (by omega)),h n (by omega)]
theorem xB(x:Chunk):∀n,x.aap n=((List.range n).filter fun i=>decide (x.now i≠x.cy i)).length
 |0=>rfl
 | n+1=>by
  rw[List.range_succ,List.filter_append,List.length_append, <-xB x n,aha];by_cases h:x.now n=x.cy n
  ·simp[h]
  ·simp[h]
theorem uf(x:Chunk):x.dmg=GF.cc x.now x.cy:=xB x 64
section
variable{p D:Nat->Nat}{t:Tg}{a:Nat}
theorem ad4(hD:∀j,D j<256)(k i:Nat):aO D t k i<256:=GF.sI (fun j=>pJ hD (mI t) _) i
theorem akU(hD:∀j,D j<256)(k:Nat):GF.Az (aO D t k):=GF.ahj (fun j=>pJ hD (mI t) _)
theorem ahJ(hD:∀j,D j<256)(ht:t.ok)(qH:t.place=a){V:Nat->Nat}(he:∀i,i<64->V i=aO D t 3 i):AK V a/\eK (bw V)=t:=by
 have hb:∀j,j<50->bw V j=bP t j:=fun j hj=>by
  unfold bw;rw[he j (by omega)];unfold aO GF.l5;rw[if_pos (by omega)];unfold lS iT;rw[if_neg (by omega),if_pos (by omega),show 3*58+j-174=j by omega,qE]
 have hm:∀j,j<8->bw V (50+j)=jt j:=fun j hj=>by
  unfold bw;rw[he (50+j) (by omega)];unfold aO GF.l5;rw[if_pos (by omega)];unfold lS iT;rw[if_neg (by omega),if_neg (by omega),show 3*58+(50+j)-224=j by omega,qA]
 have hdT:eK (bw V)=t:=by
  rw[<-ahH ht];unfold eK;rw[dc (f:=bw V) (g:=bP t) 2 (fun j hj=>hb j (by omega)),dc (f:=fun j=>bw V (3+j)) (g:=fun j=>bP t (3+j)) 5 (fun j hj=>hb (3+j) (by omega)),hb 2 (by omega),hb 8 (by omega),hb 9 (by omega)]
 exact⟨⟨hm,by unfold mH;rw[hdT];exact⟨ht,fun j hj=>(hb j hj).symm⟩,by rw[hdT];exact qH⟩,hdT⟩
theorem acN(hD:∀j,D j<256)(ht:t.ok)(qH:t.place=a)(hp:∀k,k<4->GF.cc (aO D t k) (gi p k)<=2) :
  (dX p a).tagged=true/\(dX p a).tag=t/\(dX p a).sound=true/\(∀j,j<174->(dX p a).data j=D j)/\(dX p a).iU=mx (fun k=>GF.cc (aO D t k) (gi p k)) 4:=by
 have ss:∀k,k<4->∃V,eM (gi p k)=some V/\∀i,i<64->V i=aO D t k i:=fun k hk=>jX ⟨ad4 hD k,akU hD k,hp k hk⟩;obtain⟨V,hV,he⟩:=ss 3 (by omega);obtain⟨zm,hdT⟩:=ahJ hD ht qH he;have hs:(eM (gi p 0)).isSome/\(eM (gi p 1)).isSome/\(eM (gi p 2)).isSome:=by
  obtain⟨a0,h0,_⟩:=ss 0 (by omega);obtain⟨a1,h1,_⟩:=ss 1 (by omega);obtain⟨a2,h2,_⟩:=ss 2 (by omega);rw[h0,h1,h2];exact⟨rfl,rfl,rfl⟩
 have hR:dX p a=⟨true,eK (bw V),true,lT p (fun k=>eM (gi p k)) 4,_⟩:=qD hV zm hs;rw[hR,hdT];refine⟨rfl,rfl,rfl,fun j hj=>?_,?_⟩
 ·simp only;obtain⟨U,hU,hUe⟩:=ss (j/58) (by omega);rw[hU,Option.getD_some,hUe _ (by omega)];unfold aO GF.l5;rw[if_pos (by omega)];unfold lS iT;rw[show j/58*58+j%58=j by omega,if_pos hj]
 ·simp only;have key:∀n,n<=4->lT p (fun k=>eM (gi p k)) n=mx (fun k=>GF.cc (aO D t k) (gi p k)) n:=by
   intro n
   induction n with
   |zero=>intro _;rfl
   | succ n ih =>
    intro hn;unfold lT mx;rw[ih (by omega)];obtain⟨U,hU,hUe⟩:=ss n (by omega);simp only[hU];rw[lp hUe]
  exact key 4 (Nat.le_refl _)
end
theorem akV:∀j,j<8->jt j≠255:=by decide
end
section
open Go.RowKit
attribute [local irreducible] GF.pw GF.lg GF.mul GF.inv GF.xt
inductive Pg where
 |blank
 |ct (n:Nat)
 |full (t:Tg) (D:Nat->Nat)
structure CS where
 pg:Nat->Pg
 dm:Nat->Nat
 rd:Nat->Int
 failed:Nat->Bool
 before:Nat->Int
 aC:Nat->Bool
def cm(D:Nat->Nat):Nat->Nat:=fun j=>if j<174 then D j else 0
theorem ahK(D:Nat->Nat):cm (cm D)=cm D:=by
 funext j;unfold cm;by_cases h:j<174<;>simp[h]
theorem acO{D D':Nat->Nat}(h:∀j,j<174->D j=D' j):cm D=cm D':=by
 funext j;unfold cm;by_cases hj:j<174
 ·rw[if_pos hj,if_pos hj,h j hj]
 ·rw[if_neg hj,if_neg hj]
theorem acP{D D' B:Nat->Nat}(h:∀j,j<174->D j=D' j):iT D B=iT D' B:=by
 funext j;unfold iT;by_cases hj:j<174
 ·rw[if_pos hj,if_pos hj,h j hj]
 ·rw[if_neg hj,if_neg hj]
theorem acQ{D D':Nat->Nat}(h:∀j,j<174->D j=D' j)(t:Tg):aO D t=aO D' t:=by
 unfold aO;rw[acP h]
theorem ahL(D:Nat->Nat)(t:Tg):aO (cm D) t=aO D t:=acQ (fun j hj=>by unfold cm;rw[if_pos hj]) t
def BV(C:Chip)(p:Nat):Pg->Prop
 |.blank=>∀k,k<4->(C.ch p k).is=false/\(C.ch p k).cy=(fun _=>255)
 |.ct n=>1<=n/\n<=3/\∀k,k<4->(C.ch p k).is=decide (k<n)/\(n<=k->(C.ch p k).cy=(fun _=>255))
 |.full t D=>t.ok/\t.place=p/\(∀j,D j<256)/\cm D=D/\∀k,k<4->(C.ch p k).is=true/\(C.ch p k).cy=aO D t k
structure Abs(C:Chip)(A:CS):Prop where
 wf:C.Wf
 cI:∀p,p<96->BV C p (A.pg p)
 few:∀p k,p<96->k<4->(C.ch p k).dmg<=2
 dm:∀p t D,p<96->A.pg p=.full t D->A.dm p=mx (fun k=>(C.ch p k).dmg) 4
 rd:C.reads=A.rd
 failed:C.failed=A.failed
 before:C.before=A.before
 aC:C.aC=A.aC
 wst:∀p k,p<96->k<4->((C.ch p k).dmg:Int)<=(C.ch p k).pk
def AA(A:CS)(p:Nat)(R:AR):Prop:=match A.pg p with
 |.full t D=>R.tagged=true/\R.tag=t/\R.sound=true/\cm R.data=D/\R.iU=A.dm p
 |_=>R.tagged=false/\R.tag=Tg.zero/\R.sound=false
theorem aaU(C:Chip)(p k:Nat)(U:Nat->Nat):GF.cc U (gi (eR C p) k)=GF.cc (C.ch p k).now U:=by
 rw[GF.iG];apply lp;intro i hi;unfold gi eR;rw[show(k*64+i)/64=k by omega,show(k*64+i)%64=i by omega]
theorem ahM{V U:Nat->Nat}(hV:Near V U)(hU:GF.cc U (fun _=>255)<=4):¬As (bw V):=fun hm=>by
 have h2:=GF.aaC V U (fun _=>255);have h3:=hV.2.2;have h4:8<=GF.cc V (fun _=>255):=by
  have h5:((List.range 64).filter fun i=>decide (50<=i/\i<58)).length=8:=by decide +kernel
  rw[<-h5];unfold GF.cc GF.iS;rw[<-List.countP_eq_length_filter, <-List.countP_eq_length_filter];refine List.countP_mono_left (fun i _ h=>?_);have h:50<=i/\i<58:=by simpa using h
  have hmi:=hm (i-50) (by omega);have cn:=akV (i-50) (by omega);rw[show 50+(i-50)=i by omega] at hmi;unfold bw at hmi;simp only[ne_eq,decide_eq_true_eq];intro e;rw[e] at hmi;exact cn hmi.symm
 omega
theorem Abs.read{C:Chip}{A:CS}(H:Abs C A){p:Nat}(hp:p<96):AA A p (dX (eR C p) p):=by
 have bA:=H.cI p hp;have hdm:=fun t D=>H.dm p t D hp;have ao5:=fun k=>H.few p k hp;have lW:∀k:Nat,(C.ch p 3).cy=(fun _=>255)->dX (eR C p) p=⟨false,Tg.zero,false,lT (eR C p) (fun k=>eM (gi (eR C p) k)) 4,fun _=>0⟩:=fun _ ht=>oQ (fun V hV qH=>ahM (nq hV) (by
  rw[GF.iG,aaU, <-ht, <-uf];have:=ao5 3 (by omega);omega) qH.1)
 unfold AA
 cases hA:A.pg p with
 | blank =>
  rw[hA] at bA;rw[lW 0 (bA 3 (by omega)).2];exact⟨rfl,rfl,rfl⟩
 | ct n =>
  rw[hA] at bA;rw[lW 0 ((bA.2.2 3 (by omega)).2 bA.2.1)];exact⟨rfl,rfl,rfl⟩
 | full t D =>
  rw[hA] at bA;obtain⟨ht,qH,hD,hc,hk⟩:=bA;have e:∀k,k<4->GF.cc (aO D t k) (gi (eR C p) k)=(C.ch p k).dmg:=fun k h=>by
   rw[aaU,uf,(hk k h).2]
  obtain⟨h1,h2,h3,h4,h5⟩:=acN (p:=eR C p) hD ht qH (fun k h=>by rw[e k h];exact ao5 k h);refine⟨h1,h2,h3,?_,?_⟩
  ·rw[<-hc];exact acO h4
  ·rw[h5,hdm t D hA];exact pK 4 e
theorem BV.congr{C C':Chip}{p:Nat}{x:Pg}(h:BV C p x)(e:∀k,k<4->(C'.ch p k).is=(C.ch p k).is/\(C'.ch p k).cy=(C.ch p k).cy):BV C' p x:=by
 cases x with
 |blank=>exact fun k hk=>by rw[(e k hk).1,(e k hk).2];exact h k hk
 |ct n=>exact⟨h.1,h.2.1,fun k hk=>by rw[(e k hk).1,(e k hk).2];exact h.2.2 k hk⟩
 |full t D=>exact⟨h.1,h.2.1,h.2.2.1,h.2.2.2.1,fun k hk=>by rw[(e k hk).1,(e k hk).2];exact h.2.2.2.2 k hk⟩
theorem Abs.ext{C C':Chip}{A A':CS}(H:Abs C A)(hw:C'.Wf)(tz:C'.ch=C.ch)(bA:A'.pg=A.pg)(hdm:A'.dm=A.dm)(h1:C'.reads=A'.rd)(h2:C'.failed=A'.failed)(h3:C'.before=A'.before)(h4:C'.aC=A'.aC):Abs C' A' :=
 ⟨hw,fun p hp=>by rw[bA];exact(H.cI p hp).congr (fun k hk=>by rw[tz];exact⟨rfl,rfl⟩),fun p k hp hk=>by rw[tz];exact H.few p k hp hk,fun p t D hp h=>by rw[bA] at h;rw[hdm,tz];exact H.dm p t D hp h,h1,h2,h3,h4,fun p k hp hk=>by rw[tz];exact H.wst p k hp hk⟩
def CS.bC(A:CS)(p:Nat):CS:={ A with rd:=ah A.rd (p/8) (jI (A.rd (p/8)+1)) }
theorem Abs.bC{C:Chip}{A:CS}(H:Abs C A)(p:Nat):Abs (C.bC p) (A.bC p) :=
 H.ext ⟨H.wf.b0,H.wf.b1,H.wf.bf,H.wf.now,H.wf.cy⟩ rfl rfl rfl (by show ah C.reads _ _=_;rw[H.rd];rfl) H.failed H.before H.aC
def CS.iq(A:CS)(B:Nat):CS:=if 0<A.before B then { A with before:=ah A.before B (A.before B-1),failed:=ah A.failed B (A.failed B||decide (A.before B-1=0)) } else A
def CS.bX(A:CS)(p:Nat)(x:Pg):CS:={ A with pg:=ah A.pg p x,dm:=ah A.dm p 0 }
def CS.wr(A:CS)(p k:Nat)(t:Tg)(D:Nat->Nat):CS×Int :=
 if (A.iq (p/8)).failed (p/8) then (A.iq (p/8),8) else ((A.iq (p/8)).bX p (if k=3 then .full t (cm D) else .ct (k+1)),0)
def CS.aJ(A:CS)(p:Nat)(t:Tg)(D:Nat->Nat):Nat->CS×Int
 |0=>(A,0)
 |k+1=>if (A.aJ p t D k).2=0 then (A.aJ p t D k).1.wr p k t D else A.aJ p t D k
def CS.bx(A:CS)(p:Nat)(t:Tg)(D:Nat->Nat):Nat->List CS
 |0=>[]
 |k+1=>if (A.aJ p t D k).2=0 then A.bx p t D k++[(A.aJ p t D k).1] else A.bx p t D k
theorem Abs.step{C:Chip}{A:CS}(H:Abs C A):Abs C.aI.1 A:=by
 refine H.ext H.wf.step C.tK rfl rfl ?_ ?_ ?_ ?_
 all_goals
  unfold Chip.aI;first|rw[<-H.rd] | rw[<-H.failed] | rw[<-H.before] | rw[<-H.aC]
  split
  ·split<;>rfl
  ·rfl
theorem Abs.iq{C:Chip}{A:CS}(H:Abs C A)(B:Nat):Abs (C.iq B) (A.iq B):=by
 have hw:=acK H.wf B;have tz:=C.acq B;unfold Chip.iq CS.iq at *;rw[<-H.before, <-H.failed];by_cases hb:0<C.before B
 ·rw[if_pos hb] at hw tz ⊢;rw[if_pos hb];exact H.ext hw tz rfl rfl H.rd rfl rfl H.aC
 ·rw[if_neg hb] at hw tz ⊢;rw[if_neg hb];exact H
theorem gR(b:Nat->Nat)(i:Bool)(wo:Int):(⟨b,b,i,wo⟩:Chunk).dmg=0:=by
 rw[uf];exact nc b
theorem ad5{f:Nat->Nat}:∀n,(∀k,k<n->f k=0)->mx f n=0
 |0,_=>rfl
 | n+1,h=>by
  unfold mx;rw[ad5 n (fun k hk=>h k (by omega)),h n (by omega)];rfl
theorem CS.dJ(A:CS)(p:Nat)(x:Pg):(A.bX p x).pg p=x:=if_pos rfl
theorem CS.cJ(A:CS){p q:Nat}(x:Pg)(h:q≠p):(A.bX p x).pg q=A.pg q:=if_neg h
theorem Abs.put{C:Chip}{A:CS}(H:Abs C A){p k:Nat}(hp:p<96)(hk:k<4){x:Pg}{b:Nat->Nat}(hb:∀i,b i<256)(hx:BV (C.cZ p k ⟨b,b,true,0⟩) p x)(hdm:∀t D,x=.full t D->∀j,j<4->j≠k->(C.ch p j).dmg=0):Abs (C.cZ p k ⟨b,b,true,0⟩) (A.bX p x):=by
 refine⟨aaT H.wf p k hb hb,fun q hq=>?_,fun q j hq hj=>?_,fun q t D hq h=>?_,H.rd,H.failed,H.before,H.aC,fun q j hq hj=>?_⟩
 ·by_cases e:q=p
  ·subst e;rw[CS.dJ];exact hx
  ·rw[CS.cJ _ _ e];exact(H.cI q hq).congr (fun j hj=>by rw[Chip.fe _ _ (fun h=>e h.1)];exact⟨rfl,rfl⟩)
 ·by_cases e:q=p/\j=k
  ·obtain⟨rfl,rfl⟩:=e;rw[Chip.dt,gR];omega
  ·rw[Chip.fe _ _ e];exact H.few q j hq hj
 ·by_cases e:q=p
  ·subst e;rw[CS.dJ] at h;have:(A.bX q x).dm q=0:=if_pos rfl;rw[this]
   symm
   refine ad5 4 (fun j hj=>?_);by_cases ej:j=k
   ·subst ej;rw[Chip.dt,gR]
   ·rw[Chip.fe _ _ (fun h=>ej h.2)];exact hdm t D h j hj ej
  ·rw[CS.cJ _ _ e] at h;have:(A.bX p x).dm q=A.dm q:=if_neg e;rw[this,H.dm q t D hq h];exact pK 4 (fun j hj=>by rw[Chip.fe _ _ (fun h=>e h.1)])
 ·by_cases e:q=p/\j=k
  ·obtain⟨rfl,rfl⟩:=e;rw[Chip.dt,gR];exact Int.le_refl 0
  ·rw[Chip.fe _ _ e];exact H.wst q j hq hj
def Chip.left(C:Chip)(b:Option Nat):Prop:=C.off=false/\(match b with|none=>C.cut=false|some n=>C.cut=true/\C.bK=n)
def fits(b:Option Nat)(n:Nat):Prop:=∀x,b=some x->n<=x
def less(b:Option Nat)(n:Nat):Option Nat:=b.map (· - n)
theorem xC{C:Chip}{b:Option Nat}(h:C.left b)(hf:fits b 1):C.aI.2=0/\C.aI.1.left (less b 1):=by
 obtain⟨h1,h2⟩:=h;unfold Chip.aI
 cases b with
 | none =>
  simp only at h2;rw[if_neg (by rw[h2];simp)];exact⟨rfl,h1,h2⟩
 | some n =>
  simp only at h2;have hn:=hf n rfl;rw[if_pos h2.1,if_neg (by rw[h2.2];omega)];exact⟨rfl,h1,h2.1,by show C.bK-1=((n-1:Nat):Int);rw[h2.2];omega⟩
theorem aaV{C:Chip}(h:C.left (some 0)):C.aI.2=7/\C.aI.1.off=true:=by
 obtain⟨h1,h2,h3⟩:=h;unfold Chip.aI;rw[if_pos h2,if_pos (by rw[h3];rfl)];exact⟨rfl,rfl⟩
theorem ahN{C:Chip}{b:Option Nat}(h:C.left b)(B:Nat):(C.iq B).left b:=by
 unfold Chip.iq;split
 ·exact h
 ·exact h
theorem acR{C:Chip}{b:Option Nat}(h:C.left b)(a k:Nat)(x:Chunk):(C.cZ a k x).left b:=h
def AV(C:Chip)(A:CS):Prop:=C.off=true/\Abs C A
theorem gk(b:Option Nat)(m n:Nat):less (less b m) n=less b (m+n):=by
 cases b with
 |none=>rfl
 |some x=>simp[less];omega
theorem fE(b:Option Nat):less b 0=b:=by
 cases b<;>rfl
theorem ug{C:Chip}{A:CS}(H:Abs C A){p:Nat}{t:Tg}{D:Nat->Nat}{b:Option Nat}(hp:p<96)(ht:t.ok)(qH:t.place=p)(hD:∀j,D j<256)(hl:C.left b)(na:A.pg p=.blank):∀n,n<=4 ->
  (fits b (A.bx p t D n).length->(C.prog p (aO D t) n).2=(A.aJ p t D n).2/\Abs (C.prog p (aO D t) n).1 (A.aJ p t D n).1/\(C.prog p (aO D t) n).1.left (less b (A.bx p t D n).length)/\((A.aJ p t D n).2=0->∀k,n<=k->k<4->((C.prog p (aO D t) n).1.ch p k).is=false/\((C.prog p (aO D t) n).1.ch p k).cy=fun _=>255)) /\
  (∀x,b=some x->∀h:x<(A.bx p t D n).length,(C.prog p (aO D t) n).2=7/\AV (C.prog p (aO D t) n).1 (A.bx p t D n)[x])
 | 0,_=>by
  have h:=H.cI p hp;rw[na] at h;refine⟨fun _=>⟨rfl,H,?_,fun _ k _ hk=>h k hk⟩,fun x _ hx=>absurd hx (by simp[CS.bx])⟩;rw[show(A.bx p t D 0).length=0 from rfl,fE];exact hl
 | n+1,hn=>by
  obtain⟨zp,ph⟩:=ug H hp ht qH hD hl na n (by omega);by_cases h0:(A.aJ p t D n).2=0
  case neg =>
   have e2:A.aJ p t D (n+1)=A.aJ p t D n:=if_neg h0;have e3:A.bx p t D (n+1)=A.bx p t D n:=if_neg h0;rw[e2,e3];refine⟨fun hf=>?_,fun x hx av=>?_⟩
   ·obtain⟨g1,g2,g3,g4⟩:=zp hf;have e1:C.prog p (aO D t) (n+1)=C.prog p (aO D t) n:=if_neg (by rw[g1];exact h0);rw[e1];exact⟨g1,g2,g3,fun h=>absurd h h0⟩
   ·obtain⟨g1,g2⟩:=ph x hx av;have e1:C.prog p (aO D t) (n+1)=C.prog p (aO D t) n:=if_neg (by rw[g1];decide);rw[e1];exact⟨g1,g2⟩
  have e2:A.aJ p t D (n+1)=(A.aJ p t D n).1.wr p n t D:=if_pos h0;have e3:A.bx p t D (n+1)=A.bx p t D n++[(A.aJ p t D n).1]:=if_pos h0;rw[e2,e3];have hlen:(A.bx p t D n++[(A.aJ p t D n).1]).length=(A.bx p t D n).length+1:=by simp
  by_cases ef:fits b (A.bx p t D n).length
  case neg =>
   refine⟨fun hf=>absurd (fun x hx=>by have:=hf x hx;rw[hlen] at this;omega) ef,fun x hx av=>?_⟩;have hx2:x<(A.bx p t D n).length:=by
    by_cases h:x<(A.bx p t D n).length
    ·exact h
    ·exact absurd (fun y hy=>by rw[hx] at hy;injection hy with hy;omega) ef
   obtain⟨g1,g2⟩:=ph x hx hx2;have e1:C.prog p (aO D t) (n+1)=C.prog p (aO D t) n:=if_neg (by rw[g1];decide);rw[e1,List.getElem_append_left hx2];exact⟨g1,g2⟩
  obtain⟨g1,g2,g3,g4⟩:=zp ef;have g4:=g4 h0;have e1:C.prog p (aO D t) (n+1)=(C.prog p (aO D t) n).1.write p n (aO D t n):=if_pos (by rw[g1];exact h0);have adX:∀k,k<n->(C.prog p (aO D t) n).1.ch p k=⟨aO D t k,aO D t k,true,0⟩:=fun k hk=>(qG (by omega) (by rw[g1];exact h0)).2 k hk;rw[e1];clear e1 e2 e3 g1 h0 zp ph;generalize (C.prog p (aO D t) n).1=S at *;generalize (A.aJ p t D n).1=T at *;generalize A.bx p t D n=L at *;have e3:S.write p n (aO D t n)=if S.aI.2=0 then (if (S.aI.1.iq (p/8)).failed (p/8) then (S.aI.1.iq (p/8),8) else ((S.aI.1.iq (p/8)).cZ p n ⟨aO D t n,aO D t n,true,0⟩,0)) else S.aI:=by
   unfold Chip.write;rw[if_neg (by rw[g3.1];simp),if_neg (by rw[(g4 n (Nat.le_refl _) (by omega)).1];simp)]
  rw[e3];have s2:=g2.step;refine⟨fun hf=>?_,fun x hx av=>?_⟩
  case refine_2 =>
   have hxe:x=L.length:=by
    have:=ef x hx;rw[hlen] at av;omega
   subst hxe;have hz:S.left (some 0):=by
    have:less b L.length=some 0:=by rw[hx];simp[less]
    rw[this] at g3;exact g3
   obtain⟨o1,o2⟩:=aaV hz;rw[if_neg (by rw[o1];decide)];refine⟨o1,o2,?_⟩;rw[List.getElem_append_right (Nat.le_refl _)];simpa using s2
  obtain⟨l1,l2⟩:=xC g3 (fun x hx=>by
   cases b with
   |none=>cases hx
   | some y =>
    have:=hf y rfl;rw[hlen] at this;simp[less] at hx;omega)
  rw[if_pos l1,hlen];rw[gk] at l2;have s3:=s2.iq (p/8);have l3:=ahN l2 (p/8);unfold CS.wr;rw[s3.failed];have tz:(S.aI.1.iq (p/8)).ch=S.ch:=by rw[Chip.acq,Chip.tK]
  by_cases sr:(T.iq (p/8)).failed (p/8)=true
  ·rw[if_pos sr,if_pos sr];exact⟨rfl,s3,l3,fun h=>by cases h⟩
  rw[if_neg sr,if_neg sr];have av:∀i,aO D t n i<256:=ad4 hD n;refine⟨rfl,s3.put hp (by omega) av ?_ ?_,acR l3 _ _ _,fun _ k hk hk4=>?_⟩
  ·have hc:∀k,k<n+1->((S.aI.1.iq (p/8)).cZ p n ⟨aO D t n,aO D t n,true,0⟩).ch p k=⟨aO D t k,aO D t k,true,0⟩:=fun k hk=>by
    by_cases e:k=n
    ·subst e;rw[Chip.dt]
    ·rw[Chip.fe _ _ (fun h=>e h.2),tz];exact adX k (by omega)
   have lU:∀k,n+1<=k->k<4->(((S.aI.1.iq (p/8)).cZ p n ⟨aO D t n,aO D t n,true,0⟩).ch p k).is=false/\(((S.aI.1.iq (p/8)).cZ p n ⟨aO D t n,aO D t n,true,0⟩).ch p k).cy=fun _=>255:=fun k hk hk4=>by
    rw[Chip.fe _ _ (fun h=>by omega),tz];exact g4 k (by omega) hk4
   by_cases h3:n=3
   ·rw[if_pos h3];refine⟨ht,qH,fun j=>?_,ahK D,fun k hk=>?_⟩
    ·unfold cm;split
     ·exact hD j
     ·omega
    ·rw[hc k (by omega),ahL];exact⟨rfl,rfl⟩
   ·rw[if_neg h3];refine⟨by omega,by omega,fun k hk=>?_⟩;by_cases hkn:k<n+1
    ·rw[hc k hkn];exact⟨by simp[hkn],fun h=>by omega⟩
    ·rw[(lU k (by omega) hk).1];exact⟨by simp[hkn],fun _=>(lU k (by omega) hk).2⟩
  ·intro t' D' hx j hj hjn;by_cases h3:n=3
   ·rw[tz,adX j (by omega),gR]
   ·rw[if_neg h3] at hx
    cases hx
  ·rw[Chip.fe _ _ (fun h=>by omega),tz];exact g4 k (by omega) hk4
def CS.prog(A:CS)(p:Nat)(t:Tg)(D:Nat->Nat):CS×Int×List CS:=match A.pg p with
 |.blank=>((A.aJ p t D 4).1,(A.aJ p t D 4).2,A.bx p t D 4)
 |_=>(A,9,[])
theorem Abs.prog{C:Chip}{A:CS}(H:Abs C A){p:Nat}{t:Tg}{D:Nat->Nat}{b:Option Nat}(hp:p<96)(ht:t.ok)(qH:t.place=p)(hD:∀j,D j<256)(hl:C.left b) :
  (fits b (A.prog p t D).2.2.length->(C.prog p (aO D t) 4).2=(A.prog p t D).2.1/\Abs (C.prog p (aO D t) 4).1 (A.prog p t D).1/\(C.prog p (aO D t) 4).1.left (less b (A.prog p t D).2.2.length)) /\
  (∀x,b=some x->∀h:x<(A.prog p t D).2.2.length,(C.prog p (aO D t) 4).2=7/\AV (C.prog p (aO D t) 4).1 (A.prog p t D).2.2[x]):=by
 have first:C.write p 0 (aO D t 0)=(C,9)->C.prog p (aO D t) 4=(C,9):=fun h=>by
  have e1:C.prog p (aO D t) 1=(C,9):=by
   show(if (0:Int)=0 then C.write p 0 (aO D t 0) else (C,0))=_;rw[if_pos rfl,h]
  rw[oR (i:=1) (by rw[e1];exact(by decide:(9:Int)≠0)) 4 (by omega),e1]
 have hC:¬C.off=true:=by rw[hl.1];simp
 have bA:=H.cI p hp
 cases hA:A.pg p with
 | blank =>
  obtain⟨g1,g2⟩:=ug H hp ht qH hD hl hA 4 (by omega);have e:A.prog p t D=((A.aJ p t D 4).1,(A.aJ p t D 4).2,A.bx p t D 4):=by
   unfold CS.prog;rw[hA]
  rw[e];exact⟨fun hf=>⟨(g1 hf).1,(g1 hf).2.1,(g1 hf).2.2.1⟩,g2⟩
 | ct n =>
  rw[hA] at bA;have e:A.prog p t D=(A,9,[]):=by
   unfold CS.prog;rw[hA]
  have e2:=first (by
   unfold Chip.write;rw[if_neg hC,if_pos (by rw[(bA.2.2 0 (by omega)).1];simp;exact bA.1)])
  rw[e,e2];exact⟨fun _=>⟨rfl,H,by rw[show([]:List CS).length=0 from rfl,fE];exact hl⟩,fun x _ h=>absurd h (by simp)⟩
 | full t' D' =>
  rw[hA] at bA;have e:A.prog p t D=(A,9,[]):=by
   unfold CS.prog;rw[hA]
  have e2:=first (by
   unfold Chip.write;rw[if_neg hC,if_pos (bA.2.2.2.2 0 (by omega)).1])
  rw[e,e2];exact⟨fun _=>⟨rfl,H,by rw[show([]:List CS).length=0 from rfl,fE];exact hl⟩,fun x _ h=>absurd h (by simp)⟩
def Chip.erase(C : Chip)(B : Nat) : Chip×Int :=
  if C.off then (C, 7) else if C.aI.2 = 0 then
    (if C.aI.1.failed B||C.aI.1.aC B then ({ C.aI.1 with failed := ah C.aI.1.failed B true }, 8)
     else (({ C.aI.1 with failed := ah C.aI.1.failed B false } : Chip).clear B, 0))
  else C.aI
def CS.erase(A:CS)(B:Nat):CS×Int :=
 if A.failed B||A.aC B then ({ A with failed:=ah A.failed B true },8)
 else ({ A with failed:=ah A.failed B false,pg:=fun p=>if p/8=B then .blank else A.pg p,rd:=ah A.rd B 0 },0)
theorem Abs.erase{C:Chip}{A:CS}{b:Option Nat}(H:Abs C A)(B:Nat)(hl:C.left b) :
  (fits b 1->(C.erase B).2=(A.erase B).2/\Abs (C.erase B).1 (A.erase B).1/\(C.erase B).1.left (less b 1))/\(b=some 0->(C.erase B).2=7/\AV (C.erase B).1 A):=by
 unfold Chip.erase;rw[if_neg (by rw[hl.1];simp)];have s2:=H.step;refine⟨fun hf=>?_,fun hb=>?_⟩
 case refine_2 =>
  subst hb;obtain⟨o1,o2⟩:=aaV hl;rw[if_neg (by rw[o1];decide)];exact⟨o1,o2,s2⟩
 obtain⟨l1,l2⟩:=xC hl hf;rw[if_pos l1];unfold CS.erase;clear H hl hf l1;generalize C.aI.1=S at *;rw[s2.failed,s2.aC];by_cases hf:(A.failed B||A.aC B)=true
 ·rw[if_pos hf,if_pos hf];exact⟨rfl,s2.ext ⟨s2.wf.b0,s2.wf.b1,s2.wf.bf,s2.wf.now,s2.wf.cy⟩ rfl rfl rfl s2.rd rfl s2.before s2.aC,l2⟩
 ·rw[if_neg hf,if_neg hf];have hw:(({ S with failed:=ah A.failed B false }:Chip).clear B).Wf:=⟨s2.wf.b0,s2.wf.b1,s2.wf.bf,fun a k i=>by
   unfold Chip.clear;simp only;split
   ·exact(by decide:255<256)
   ·exact s2.wf.now _ _ _,fun a k i=>by
   unfold Chip.clear;simp only;split
   ·exact(by decide:255<256)
   ·exact s2.wf.cy _ _ _⟩
  refine⟨rfl,⟨hw,fun p hp=>?_,fun p k hp hk=>?_,fun p t D hp h=>?_,?_,rfl,s2.before,s2.aC,fun p k hp hk=>?_⟩,l2⟩
  ·by_cases e:p/8=B
   ·simp only[if_pos e];intro k hk;unfold Chip.clear;simp only[if_pos e];exact⟨rfl,rfl⟩
   ·simp only[if_neg e];exact(s2.cI p hp).congr (fun k hk=>by unfold Chip.clear;simp only[if_neg e,and_self])
  ·unfold Chip.clear;simp only;split
   ·rw[show Chunk.blank=⟨fun _=>255,fun _=>255,false,0⟩ from rfl,gR];omega
   ·exact s2.few p k hp hk
  ·by_cases e:p/8=B
   ·simp only[if_pos e] at h
    cases h
   ·simp only[if_neg e] at h;rw[show(A.dm p)=_ from s2.dm p t D hp h];exact pK 4 (fun k hk=>by unfold Chip.clear;simp only[if_neg e])
  ·show(fun b=>if b=B then 0 else S.reads b)=ah A.rd B 0;rw[s2.rd];rfl
  ·unfold Chip.clear;simp only;split
   ·rw[show Chunk.blank=⟨fun _=>255,fun _=>255,false,0⟩ from rfl,gR];exact Int.le_refl 0
   ·exact s2.wst p k hp hk
end
section
open Go.RowKit
attribute [local irreducible] GF.pw GF.lg GF.mul GF.inv GF.xt
section
variable{w:World}{c B:Nat}{C:Chip}
theorem uh(w:World)(c B:Nat)(hB:B<12):Spec Tryz.prog 47 #[.pointer (some ⟨c,0,none⟩),.int .i64 B] w fun v w'=>v=.tuple #[.pointer (some ⟨c,B*4164,none⟩),al 0]/\w=w':=by
 refine spec_of_wpE (T:=tt) ai func47 rfl (by decide +kernel) ntmps47 (by simp) ?_;conv=>whnf
 repeat ((first|(refine Ix.of B (by omega) (by omega) ?_)|refine Br.f ?_|refine Pk.f ?_|refine Br.n ?_|refine CW.s ?_);conv=>whnf)
 rw[show 0+0+B*4164=B*4164 by omega];exact⟨rfl,rfl,rfl⟩
theorem fM{B n i:Nat}(h:n=4160+i):B*4164+n=aQ B+i:=by
 unfold aQ;omega
theorem aaW(b o:Nat)(x:Int)(w:World)(hc:w.cell? ⟨b,o,none⟩=some (.int .i64 x)) :
  Spec Tryz.prog 49 #[.pointer (some ⟨b,o,none⟩)] w fun v w'=>v=.int .i64 x/\w'=w:=by
 refine Spec.jN (by kernel_rfl) ?_;have hl:=run_call_load (P:=Tryz.prog) func73 (by kernel_rfl) (by kernel_rfl) (by kernel_rfl) .i64 (by kernel_rfl) hc
 go_enter func49,ntmps49
 go_wp2
 go_ret
 exact⟨rfl,rfl⟩
theorem ahO(H : Ab w c C)(hw : C.Wf)(hB : B < 12) : Spec Tryz.prog 179 #[.pointer (some ⟨c, 0, none⟩), .int .i64 B] w fun v w' => v = al (C.erase B).2 /\ Ab w' c (C.erase B).1 /\ Aa [c] w w' := by
  refine spec_of_wpE (T := tt) ai func179 rfl (by decide +kernel) ntmps179 (by simp) ?_;conv => whnf
  refine Ca.of (uh w c B hB) ?_;rintro _ _ ⟨rfl, rfl⟩;by_cases cj : C.off = true
  · conv => whnf
    repeat ((first|(refine Ld.of H.off ?_)|(refine Br.is cj ?_)|refine Br.f ?_|refine Ru.ak ?_|refine CW.s ?_); conv => whnf)
    refine⟨rfl, ?_⟩;unfold Chip.erase;rw[if_pos cj];exact⟨rfl, H, Aa.refl _ _⟩
  have tM : C.off = false := by simpa using cj
  conv => whnf
  repeat ((first|(refine Ld.of H.off ?_)|(refine Br.jB tM ?_)|refine Br.f ?_|refine Ru.ak ?_|refine CW.s ?_); conv => whnf)
  refine Ca.of (adJ w c C H ⟨hw.b0, hw.b1⟩) ?_;rintro _ w1 ⟨rfl, H1, k1⟩;by_cases he : C.aI.2 = 0
  · rw[he]
    have hw1 := hw.step;have ag8 : C.erase B = (if C.aI.1.failed B||C.aI.1.aC B then ({ C.aI.1 with failed := ah C.aI.1.failed B true }, 8)
     else (({ C.aI.1 with failed := ah C.aI.1.failed B false } : Chip).clear B, 0)) := by
      unfold Chip.erase;rw[if_neg cj, if_pos he]
    rw[ag8];generalize C.aI.1 = D at *;clear ag8 he;have hfe : ∀b : Bool, Ab (w1.setCell ⟨c, aQ B+1, none⟩ (.bool b)) c { D with failed := ah D.failed B b } := fun b => H1.xi hB b;have hfi : ∀b : Bool, (w1.setCell ⟨c, aQ B+1, none⟩ (.bool b)).cell? ⟨c, aQ B+1, none⟩ = some (.bool b) := fun b => by
      have := (hfe b).eI hB;unfold ah at this;simpa using this
    have hfk : ∀b : Bool, Aa [c] w (w1.setCell ⟨c, aQ B+1, none⟩ (.bool b)) := fun b => k1.trans (Aa.set c (aQ B+1) (.bool b));by_cases hf : D.failed B = true
    · conv => whnf
      repeat ((first|(refine Ld.at (fM (i := 1) rfl) (H1.eI hB) ?_)|(refine Br.is hf ?_)|refine Br.t ?_|refine Br.f ?_|refine Pk.t ?_|refine Ru.ak ?_); conv => whnf)
      refine Sd.setAt _ (fM (i := 1) rfl) (H1.eI hB) (Row.free H1 _) rfl ?_;have H2 := hfe true;have k2 := hfk true;have c2 := hfi true;generalize w1.setCell _ _ = w2 at *;conv => whnf
      repeat ((first|(refine Ld.at (fM (i := 1) rfl) c2 ?_)|refine Br.t ?_|refine CW.s ?_); conv => whnf)
      rw[if_pos (by rw[hf]; rfl)];exact⟨rfl, rfl, H2, k2⟩
    have gY : D.failed B = false := by simpa using hf
    conv => whnf
    repeat ((first|(refine Ld.at (fM (i := 1) rfl) (H1.eI hB) ?_)|(refine Ld.at (fM (i := 3) rfl) (H1.pF hB) ?_)|(refine Br.jB gY ?_)|refine Br.f ?_|refine Pk.f ?_|refine Ru.ak ?_); conv => whnf)
    refine Sd.setAt _ (fM (i := 1) rfl) (H1.eI hB) (Row.free H1 _) rfl ?_;by_cases ha : D.aC B = true
    · have H2 := hfe true
      have k2 := hfk true;have c2 := hfi true;rw[ha];generalize w1.setCell _ _ = w2 at *;conv => whnf
      repeat ((first|(refine Ld.at (fM (i := 1) rfl) c2 ?_)|refine Br.t ?_|refine CW.s ?_); conv => whnf)
      rw[if_pos (by simp)];exact⟨rfl, rfl, H2, k2⟩
    have m6 : D.aC B = false := by simpa using ha
    have H2 := hfe false;have k2 := hfk false;have c2 := hfi false;rw[m6];generalize w1.setCell _ _ = w2 at *;conv => whnf
    repeat ((first|(refine Ld.at (fM (i := 1) rfl) c2 ?_)|refine Br.f ?_|refine CW.s ?_); conv => whnf)
    refine Ca.of (aau w2 c B _ hB H2) ?_;rintro _ w3 ⟨rfl, H3, k3⟩;conv => whnf
    rw[if_neg (by simp[gY])];exact⟨rfl, rfl, H3, k2.trans k3⟩
  · unfold Chip.erase
    rw[if_neg cj, if_neg he];have h7 : C.aI.2 = 7 := (Chip.xk C).resolve_left he;rw[h7];conv => whnf
    repeat ((first|refine Br.t ?_|refine Ru.n1 ?_); conv => whnf)
    exact⟨rfl, rfl, H1, k1⟩
theorem afr{m f cd g h:Nat}{n:Int}(H:Ax w m c f cd g h C n)(hw:C.Wf)(hB:B<12):Spec Tryz.prog 134 #[.pointer (some ⟨m,0,none⟩),.int .i64 B] w fun v w'=>v=al (C.erase B).2/\Ax w' m c f cd g h (C.erase B).1 n/\Aa [c] w w':=by
 refine spec_of_wpE (T:=tt) ai func134 rfl (by decide +kernel) ntmps134 (by simp) ?_;conv=>whnf
 repeat ((refine Ld.of (H.row.cell 0 (by omega)) ?_);conv=>whnf)
 refine Ca.of (ahO H.cH hw hB) ?_;rintro _ w1 ⟨rfl,H1,k1⟩;conv=>whnf
 exact⟨rfl,rfl,H.uc k1 H1,k1⟩
theorem xD{m f cd g h:Nat}{n:Int}(H:Ax w m c f cd g h C n):Spec Tryz.prog 158 #[.pointer (some ⟨m,0,none⟩)] w fun v w'=>v=.int .i64 n/\w=w':=by
 refine spec_of_wpE (T:=tt) ai func158 rfl (by decide +kernel) ntmps158 (by simp) ?_;conv=>whnf
 refine Ca.of (aaW m _ _ w (H.row.cell 2 (by omega))) ?_;rintro _ _ ⟨rfl,rfl⟩;conv=>whnf
 exact⟨rfl,rfl,rfl⟩
end
end
section
open Go.RowKit
def chPlaces:Array (Nat×Nat) := #[(0,49968),(49968,1),(49969,1),(49970,1),(49971,1)]
theorem acS{parts:Array (Nat×Value)}{c:Array Value}(h:Instr.fill (fun i=>chPlaces[i]?) (zcl 104) parts.toList=some c)(w:World):(Instr.build 104 parts).run Tryz.prog w=.ok (.agg c) w:=by
 have e : (Instr.build 104 parts).run Tryz.prog w = (match Instr.fill (fun i => chPlaces[i]?) (zcl 104) parts.toList with | some cells => pure (.agg cells) | _ => stuck "build: no such field, or a part of the wrong size" : Sem Value).run Tryz.prog w := by kernel_rfl
 rw[e,h];rfl
theorem pL{place:Nat->Option (Nat×Nat)}{cells:Array Value}{i off:Nat}{v:Value}{rest:List (Nat×Value)}(hp:place i=some (off,1))(hv:v.cells = #[v])(ho:off+1<=cells.size) :
  Instr.fill place cells ((i,v)::rest)=Instr.fill place (cells.setIfInBounds off v) rest:=by
 rw[Instr.fill];simp only[hp,hv];rw[if_neg (by simp;omega)];rfl
def Chip.part(C:Chip)(p r f b e:Nat):Chip :=
 { C with ch:=fun a k=>if a/8<p then C.ch a k else Chunk.zero,reads:=fun B=>if B<r then C.reads B else 0,failed:=fun B=>if B<f then C.failed B else false,before:=fun B=>if B<b then C.before B else 0,aC:=fun B=>if B<e then C.aC B else false }
theorem acT{C:Chip}{i r f b e:Nat}(hi:i<12)(j:Nat)(hj:j<49972):lay (C.part i r f b e).cell (i*4164) 4160 (fun q=>C.cell (i*4164+q)) j=(C.part (i+1) r f b e).cell j:=by
 refine jP (F:=lay (C.part i r f b e).cell (i*4164) 4160 (fun q=>C.cell (i*4164+q))) (G:=(C.part (i+1) r f b e).cell) ?_ ?_ ?_ j hj
 ·intro a k s ha hk hs;rw[Chip.cL _ ha hk hs];have hc:aM a k+s=a/8*4164+(a%8*520+k*130+s):=by unfold aM;omega
  unfold lay;by_cases h:a/8=i
  ·rw[if_pos (by omega)];show C.cell (i*4164+(aM a k+s-i*4164))=_;rw[show i*4164+(aM a k+s-i*4164)=aM a k+s by omega,Chip.cL _ ha hk hs];unfold Chip.part;simp only;rw[if_pos (by omega)]
  ·rw[if_neg (by omega),Chip.cL _ ha hk hs];unfold Chip.part;simp only;by_cases h2:a/8<i
   ·rw[if_pos h2,if_pos (by omega)]
   ·rw[if_neg h2,if_neg (by omega)]
 ·intro B t hB ht;unfold lay;rw[if_neg (by unfold aQ;omega),Chip.cF _ hB ht,Chip.cF _ hB ht];rfl
 ·intro t ht;unfold lay;rw[if_neg (by omega),Chip.cU,Chip.cU];rfl
theorem sL(n off:Nat)(F:Nat->Value)(v:Value):((Array.range n).map F).setIfInBounds off v=(Array.range n).map (put F off v):=by
 apply Array.ext
 ·simp
 ·intro i h1 h2;simp only[Array.size_setIfInBounds,Array.size_map,Array.size_range] at h1;rw[Array.getElem_setIfInBounds (by simpa using h1)];simp only[Array.getElem_map,Array.getElem_range];unfold put;by_cases e:off=i
  ·rw[if_pos e,if_pos e.symm]
  ·rw[if_neg e,if_neg (fun h=>e h.symm)]
theorem ao6(C:Chip)(j:Nat)(hj:j<49972):put (put (put (put Chip.zero.cell 49968 (.bool C.off)) 49969 (.bool C.cut)) 49970 (.int .i64 C.bK)) 49971 (.int .i64 C.steps) j=(C.part 0 0 0 0 0).cell j:=by
 refine jP (F:=put (put (put (put Chip.zero.cell 49968 (.bool C.off)) 49969 (.bool C.cut)) 49970 (.int .i64 C.bK)) 49971 (.int .i64 C.steps)) (G:=(C.part 0 0 0 0 0).cell) ?_ ?_ ?_ j hj
 ·intro a k s ha hk hs;have:=gM ha hk hs;unfold put;rw[if_neg (by omega),if_neg (by omega),if_neg (by omega),if_neg (by omega),Chip.cL _ ha hk hs,Chip.cL _ ha hk hs];unfold Chip.part;simp only;rw[if_neg (by omega)];rfl
 ·intro B t hB ht;have:=po hB ht;unfold put;rw[if_neg (by omega),if_neg (by omega),if_neg (by omega),if_neg (by omega),Chip.cF _ hB ht,Chip.cF _ hB ht];unfold Chip.part Chip.tail Chip.zero;simp
 ·intro t ht;rw[Chip.cU];unfold put;rcases bS ht with rfl|rfl|rfl|rfl<;>rfl
theorem aaX(C:Chip)(w:World):(Instr.build 104 #[(1,.bool C.off),(2,.bool C.cut),(3,.int .i64 C.bK),(4,.int .i64 C.steps)]).run Tryz.prog w=.ok (agg 49972 (C.part 0 0 0 0 0).cell) w:=by
 have h:Instr.fill (fun i=>chPlaces[i]?) (zcl 104) [(1,.bool C.off),(2,.bool C.cut),(3,.int .i64 C.bK),(4,.int .i64 C.steps)]=some ((Array.range 49972).map (C.part 0 0 0 0 0).cell):=by
  rw[alS,pL rfl rfl (by simp),sL,pL rfl rfl (by simp),sL,pL rfl rfl (by simp),sL,pL rfl rfl (by simp),sL,Instr.fill];congr 1;apply Array.ext
  ·simp
  ·intro i h1 h2;simp only[Array.getElem_map,Array.getElem_range];exact ao6 C i (by simpa using h1)
 exact acS (parts := #[(1,.bool C.off),(2,.bool C.cut),(3,.int .i64 C.bK),(4,.int .i64 C.steps)]) h w
theorem pM{α:Type}{f:Nat->α}{i b:Nat}{d:α}{g:α->Value}:g (if b<i+1 then f b else d)=if b=i then g (f i) else g (if b<i then f b else d):=by
 by_cases e:b=i
 ·subst e;rw[if_pos (by omega),if_pos rfl]
 ·rw[if_neg e];by_cases h:b<i
  ·rw[if_pos h,if_pos (by omega)]
  ·rw[if_neg h,if_neg (by omega)]
theorem Chunk.bj(x:Chunk)(s:Nat):(x.cell s).oneCell'=true:=by
 unfold Chunk.cell;split
 ·rfl
 ·split
  ·rfl
  ·split<;>rfl
theorem Chip.bj(C:Chip)(j:Nat):(C.cell j).oneCell'=true:=by
 unfold Chip.cell;split
 ·split
  ·exact Chunk.bj _ _
  ·unfold Chip.tail;split
   ·rfl
   ·split
    ·rfl
    ·split<;>rfl
 ·unfold Chip.last;split
  ·rfl
  ·split
   ·rfl
   ·split<;>rfl
theorem ui:(Tryz.prog.info? 94).map (·.size)=some 4160:=by kernel_rfl
theorem afs{w:World}{c:Nat}{C:Chip}(H:Ab w c C):Spec Tryz.prog 28 #[.pointer (some ⟨c,0,none⟩)] w fun v w'=>v=.pointer (some ⟨w.heap.size,0,none⟩)/\Ab w' w.heap.size C/\Aa [] w w':=by
 refine spec_of_wpE (T:=tt) ai func28 rfl (by decide +kernel) ntmps28 (by simp) ?_;conv=>whnf
 refine CW.held (fun w'=>Ab w' c C) [] (.take 0 (.take 1 (.take 2 (.take 3 (.take 4 (.take 5 (.take 6 (.take 7 (.take 8 (.take 9 (.take 10 (.take 11 (.take 12 (.take 13 (.take 14 (.take 15 (.take 16 (.one 17 (.take 18 (.done)))))))))))))))))))) ai (by kernel_rfl) (by kernel_rfl) (by kernel_rfl) ?_ ?_
 ·exact H.drewN 1
 have q0:=(Aa.refl [] w).drewN 1;have H0:=H.drewN 1;have vP:(w.drewN 1).heap.size=w.heap.size:=rfl;generalize w.drewN 1=w0 at *;conv=>whnf
 repeat ((first|(refine Ag.of (fun _ h=>h.off) ?_)|(refine Ag.of (fun _ h=>h.cut) ?_)|(refine Ag.of (fun _ h=>h.bK) ?_)|(refine Ag.of (fun _ h=>h.steps) ?_));conv=>whnf)
 refine Am.of (fun w2 _=>aaX C w2) ?_;conv=>whnf
 refine Ru.dr ?_;intro x w1 hx dj r1 k1;rw[vP] at hx;subst hx;have H1:Ab w1 w.heap.size (C.part 0 0 0 0 0):=r1;have hcl:c<w.heap.size:=Row.lt H;have k1:=q0.trans k1;clear r1 q0 H0 vP dj;refine⟨H.ab k1 (by simp),?_⟩;conv=>whnf
 repeat (refine CW.s ?_;conv=>whnf)
 refine CW.loop (ι:=Nat) (fun i w'=>i<=12/\Ab w' w.heap.size (C.part i i i i i)/\Ab w' c C/\Aa [] w w') (fun i=>[(0,.pointer (some ⟨c,0,none⟩)),(3,.pointer (some ⟨w.heap.size,0,none⟩)),(25,.int .i64 i)]) (fun i=>12-i) 0 ai
  ⟨by omega,H1,H.ab k1 (by simp),k1⟩ ⟨rfl,rfl,rfl,trivial⟩ ?_;clear H1 k1;rintro i wr ⟨hi,Hi,Hc,ki⟩;by_cases av:i<12
 ·conv=>whnf
  repeat ((first|refine Br.y ?_|refine CW.s ?_);conv=>whnf)
  refine CW.held (fun w'=>True) [] (.take 0 (.take 1 (.take 2 (.take 3 (.take 4 (.take 5 (.take 6 (.take 7 (.take 8 (.take 9 (.take 10 (.take 11 (.done))))))))))))) ai (by kernel_rfl) (by kernel_rfl) (by kernel_rfl) ?_ ?_
  ·trivial
  have q1:=(Aa.refl [] wr).drewN 1;have DG:=Hi.drewN 1;have Dg:=Hc.drewN 1;have ki2:=ki.trans q1;clear Hi Hc ki q1;generalize wr.drewN 1=w2 at *;conv=>whnf
  repeat ((refine Ix.of i (by omega) (by omega) ?_);conv=>whnf)
  rw[show 0+0+i*4164=i*4164 by omega];refine Ru.cx (q:=fun q=>C.cell (i*4164+q)) Dg underlying94 rfl ui (by omega) (fun j hj=>by rw[Nat.add_zero]) ?_;conv=>whnf
  refine Ru.im DG ui (by omega) (fun j hj=>Chip.bj _ _) ?_;intro w3 r3 k3;have H3:Ab w3 w.heap.size (C.part (i+1) i i i i):=Row.congr r3 (fun j hj=>by rw[Nat.add_zero];exact acT av j hj);have hcx:c∉[w.heap.size]:=fun hm=>by
   have:=List.mem_singleton.1 hm;omega
  have DH:=Dg.ab k3 hcx;have ki3:Aa [] w w3:=ki2.then k3 (fun x hx=>.inr (by rw[List.mem_singleton.1 hx];exact Nat.le_refl _));clear r3 k3 DG Dg ki2;conv=>whnf
  refine CW.held (fun w'=>True) [] (.take 0 (.take 1 (.take 2 (.take 3 (.take 4 (.take 5 (.one 6 (.one 7 (.done))))))))) ai (by kernel_rfl) (by kernel_rfl) (by kernel_rfl) ?_ ?_
  ·trivial
  have q1:=(Aa.refl [] w3).drewN 1;have H4:=H3.drewN 1;have Dh:=DH.drewN 1;have ki4:=ki3.trans q1;clear H3 DH ki3 q1;generalize w3.drewN 1=w4 at *;conv=>whnf
  refine Ca.of (aaW c _ (C.reads i) w4 (by rw[fM (i:=0) rfl];exact Dh.acr av)) ?_;rintro _ w5 ⟨rfl,rfl⟩;conv=>whnf
  repeat (refine HS.t ?_;conv=>whnf)
  refine Ca.of (wZ w.heap.size _ _ (C.reads i) w5 (by rw[fM (i:=0) rfl];exact H4.acr av) (Row.free H4 _)) ?_;rintro _ w6 ⟨rfl,e6⟩;rw[fM (i:=0) rfl] at e6;have H6:Ab w6 w.heap.size (C.part (i+1) (i+1) i i i):=by
   rw[e6]
   exact H4.ix (i:=0) av (by omega) rfl (fun _=>rfl) (fun B' i' _ jH=>gQ (fun b=>by
    unfold Chip.tail Chip.part;simp only[if_true];exact pM (g:=fun x=>.int .i64 x)) (fun b j hj hn=>by rcases bS hj with rfl|rfl|rfl|rfl<;>first|rfl|exact absurd rfl hn) B' i' jH)
  have k6:Aa [w.heap.size] w5 w6:=by
   rw[e6];exact Aa.set _ _ _
  have Di:=Dh.ab k6 hcx;have ki6:Aa [] w w6:=ki4.then k6 (fun x hx=>.inr (by rw[List.mem_singleton.1 hx];exact Nat.le_refl _));clear H4 Dh ki4 k6 e6;conv=>whnf
  repeat (refine HS.t ?_;conv=>whnf)
  refine CW.held (fun w'=>Ab w' c C) [] (.take 0 (.take 1 (.take 2 (.take 3 (.take 4 (.take 5 (.take 6 (.take 7 (.take 8 (.take 9 (.take 10 (.take 11 (.take 12 (.take 13 (.take 14 (.take 15 (.take 16 (.one 17 (.take 18 (.take 19 (.one 20 (.take 21 (.take 22 (.one 23 (.done))))))))))))))))))))))))) ai (by kernel_rfl) (by kernel_rfl) (by kernel_rfl) ?_ ?_
  ·exact Di.drewN 1
  have q1:=(Aa.refl [] w6).drewN 1;have H7:=H6.drewN 1;have DI:=Di.drewN 1;have ki7:=ki6.trans q1;clear H6 Di ki6 q1;generalize w6.drewN 1=w7 at *;conv=>whnf
  repeat ((first|(refine Ag.at (fM (i:=1) rfl) (fun _ h=>h.eI av) ?_)|(refine Ag.at (fM (i:=2) rfl) (fun _ h=>h.lj av) ?_)|(refine Ag.at (fM (i:=3) rfl) (fun _ h=>h.pF av) ?_));conv=>whnf)
  refine Sd.setAt _ (fM (i:=1) rfl) (H7.eI av) (Row.free H7 _) rfl ?_;have H8:Ab (w7.setCell ⟨w.heap.size,aQ i+1,none⟩ (.bool (C.failed i))) w.heap.size (C.part (i+1) (i+1) (i+1) i i) :=
   H7.ix (i:=1) av (by omega) rfl (fun _=>rfl) (fun B' i' _ jH=>gQ (fun b=>by
    unfold Chip.tail Chip.part;simp only[if_true];exact pM (g:=fun x=>.bool x)) (fun b j hj hn=>by rcases bS hj with rfl|rfl|rfl|rfl<;>first|rfl|exact absurd rfl hn) B' i' jH)
  have k7:Aa [w.heap.size] w7 (w7.setCell ⟨w.heap.size,aQ i+1,none⟩ (.bool (C.failed i))):=Aa.set _ _ _;have Dj:=DI.ab k7 hcx;have ki8:Aa [] w _:=ki7.then k7 (fun x hx=>.inr (by rw[List.mem_singleton.1 hx];exact Nat.le_refl _));clear H7 DI ki7 k7;generalize w7.setCell _ _=w8 at *;refine⟨Dj,?_⟩;conv=>whnf
  refine Sd.setAt _ (fM (i:=2) rfl) (H8.lj av) (Row.free H8 _) rfl ?_;have H9:Ab (w8.setCell ⟨w.heap.size,aQ i+2,none⟩ (.int .i64 (C.before i))) w.heap.size (C.part (i+1) (i+1) (i+1) (i+1) i) :=
   H8.ix (i:=2) av (by omega) rfl (fun _=>rfl) (fun B' i' _ jH=>gQ (fun b=>by
    unfold Chip.tail Chip.part;simp only[if_true];exact pM (g:=fun x=>.int .i64 x)) (fun b j hj hn=>by rcases bS hj with rfl|rfl|rfl|rfl<;>first|rfl|exact absurd rfl hn) B' i' jH)
  have k8:Aa [w.heap.size] w8 (w8.setCell ⟨w.heap.size,aQ i+2,none⟩ (.int .i64 (C.before i))):=Aa.set _ _ _;have Dk:=Dj.ab k8 hcx;have ki9:Aa [] w _:=ki8.then k8 (fun x hx=>.inr (by rw[List.mem_singleton.1 hx];exact Nat.le_refl _));clear H8 Dj ki8 k8;generalize w8.setCell _ _=w9 at *;refine⟨Dk,?_⟩;conv=>whnf
  refine Sd.setAt _ (fM (i:=3) rfl) (H9.pF av) (Row.free H9 _) rfl ?_;have DZ:Ab (w9.setCell ⟨w.heap.size,aQ i+3,none⟩ (.bool (C.aC i))) w.heap.size (C.part (i+1) (i+1) (i+1) (i+1) (i+1)) :=
   H9.ix (i:=3) av (by omega) rfl (fun _=>rfl) (fun B' i' _ jH=>gQ (fun b=>by
    unfold Chip.tail Chip.part;simp only[if_true];exact pM (g:=fun x=>.bool x)) (fun b j hj hn=>by rcases bS hj with rfl|rfl|rfl|rfl<;>first|rfl|exact absurd rfl hn) B' i' jH)
  have k9:Aa [w.heap.size] w9 (w9.setCell ⟨w.heap.size,aQ i+3,none⟩ (.bool (C.aC i))):=Aa.set _ _ _;have CU:=Dk.ab k9 hcx;have aqT:Aa [] w _:=ki9.then k9 (fun x hx=>.inr (by rw[List.mem_singleton.1 hx];exact Nat.le_refl _));clear H9 Dk ki9 k9;generalize w9.setCell _ _=tP at *;refine⟨CU,?_⟩;conv=>whnf
  repeat (refine Ar.la ?_;conv=>whnf)
  exact⟨i+1,⟨av,DZ,CU,aqT⟩,⟨rfl,rfl,vi (by omega),trivial⟩,by simp only;omega⟩
 ·obtain rfl:i=12:=by omega
  conv=>whnf
  repeat ((first|refine Br.f ?_|refine CW.s ?_);conv=>whnf)
  exact⟨rfl,rfl,Hi.congr (fun a k ha _=>by unfold Chip.part;simp only;rw[if_pos (by omega)]) (fun B t hB _=>by unfold Chip.part Chip.tail;simp only[hB,if_true]) (fun _ _=>rfl),ki⟩
end
section
open Go.RowKit
attribute [local irreducible] GF.pw GF.lg GF.mul GF.inv GF.xt
theorem Spec.mono{P:Program}{f:FuncId}{args:Array Value}{w:World}{Φ Ψ:Value->World->Prop}(h:Spec P f args w Φ)(k:∀v w',Φ v w'->Ψ v w'):Spec P f args w Ψ:=⟨h.1,h.2.mono fun e w' ⟨v,e1,e2⟩=>⟨v,e1,k v w' e2⟩⟩
structure Pt where
 m:Nat
 c:Nat
 f:Nat
 cd:Nat
 g:Nat
 h:Nat
def Pt.l(N:Pt):List Nat:=[N.m,N.c,N.g]
abbrev AN(w:World)(N:Pt)(C:Chip)(n:Int):Prop:=Ax w N.m N.c N.f N.cd N.g N.h C n
def MedA(w:World)(N:Pt)(P:CS)(b:Option Nat)(n:Int):Prop:=∃C,AN w N C n/\Abs C P/\C.left b
def AW(w:World)(N:Pt)(P:CS)(n:Int):Prop:=∃C,AN w N C n/\AV C P
def Af(b:Option Nat)(tr:List CS)(ok:Option Nat->Prop)(dead:CS->Prop):Prop :=
 (fits b tr.length/\ok (less b tr.length))\/∃x,∃h:x<tr.length,b=some x/\dead tr[x]
theorem Af.of{b:Option Nat}{tr:List CS}{ok:Option Nat->Prop}{dead:CS->Prop}(h1:fits b tr.length->ok (less b tr.length))(h2:∀x,b=some x->∀h:x<tr.length,dead tr[x]):Af b tr ok dead:=by
 cases b with
 |none=>exact .inl ⟨fun x hx=>(by cases hx),h1 (fun x hx=>(by cases hx))⟩
 | some x =>
  by_cases h:x<tr.length
  ·exact .inr ⟨x,h,rfl,h2 x rfl h⟩
  ·have hf:fits (some x) tr.length:=fun y hy=>by injection hy with hy;omega
   exact .inl ⟨hf,h1 hf⟩
theorem Af.nil{b:Option Nat}{ok:Option Nat->Prop}{dead:CS->Prop}(h:ok b):Af b [] ok dead :=
 .inl ⟨fun x hx=>Nat.zero_le _,by rw[show([]:List CS).length=0 from rfl,fE];exact h⟩
theorem Af.gone{b:Option Nat}{t1 t2:List CS}{ok:Option Nat->Prop}{dead:CS->Prop}{x:Nat}(h:x<t1.length)(hb:b=some x)(hd:dead t1[x]):Af b (t1++t2) ok dead :=
 .inr ⟨x,by simp;omega,hb,by rw[List.getElem_append_left h];exact hd⟩
theorem Af.then{b:Option Nat}{t1 t2:List CS}{ok:Option Nat->Prop}{dead:CS->Prop}(hf:fits b t1.length)(h:Af (less b t1.length) t2 ok dead):Af b (t1++t2) ok dead:=by
 rcases h with⟨h1,h2⟩|⟨x,h1,h2,h3⟩
 ·refine .inl ⟨fun x hx=>?_,?_⟩
  ·subst hx;have:=h1 (x-t1.length) rfl;have:=hf x rfl;simp;omega
  ·rw[gk] at h2;rw[List.length_append];exact h2
 ·cases b with
  |none=>cases h2
  | some y =>
   have h2:y-t1.length=x:=by simpa[less] using h2
   have:=hf y rfl;refine .inr ⟨y,by simp;omega,rfl,?_⟩;rw[List.getElem_append_right this];simp only[h2];exact h3
theorem Af.mono{b:Option Nat}{tr:List CS}{ok ok':Option Nat->Prop}{dead aaY:CS->Prop}(h:Af b tr ok dead)(h1:∀b,ok b->ok' b)(h2:∀X,dead X->aaY X):Af b tr ok' aaY:=by
 rcases h with⟨f,o⟩|⟨x,hx,e,d⟩
 ·exact .inl ⟨f,h1 _ o⟩
 ·exact .inr ⟨x,hx,e,h2 _ d⟩
section
variable{w w':World}{N:Pt}{P:CS}{b:Option Nat}{n:Int}
theorem MedA.ab{S:List Nat}(H:MedA w N P b n)(k:Aa S w w')(h:N.m∉S/\N.c∉S/\N.f∉S/\N.cd∉S/\N.g∉S/\N.h∉S):MedA w' N P b n:=by
 obtain⟨C,h1,h2⟩:=H;exact⟨C,h1.ab k h.1 h.2.1 h.2.2.1 h.2.2.2.1 h.2.2.2.2.1 h.2.2.2.2.2,h2⟩
theorem MedA.aj(H:MedA w N P b n)(k:Aa [] w w'):MedA w' N P b n:=H.ab k (by simp)
theorem AW.ab{S:List Nat}(H:AW w N P n)(k:Aa S w w')(h:N.m∉S/\N.c∉S/\N.f∉S/\N.cd∉S/\N.g∉S/\N.h∉S):AW w' N P n:=by
 obtain⟨C,h1,h2⟩:=H;exact⟨C,h1.ab k h.1 h.2.1 h.2.2.1 h.2.2.2.1 h.2.2.2.2.1 h.2.2.2.2.2,h2⟩
def CS.vW(A:CS)(p:Nat)(t:Tg)(D:Nat->Nat):CS×Int×List CS:=if (A.prog p t D).2.1=0 then ((A.prog p t D).1.bC p,0,(A.prog p t D).2.2) else A.prog p t D
def one(e n:Int):Int:=if e=0 then jI (n+1) else n
theorem akW(H:MedA w N P b n){p dd:Nat}{A:Option Addr}{D:Nat->Nat}{t:Tg}(hp:p<96)(hD:∀j,D j<256)(rD:AI w A 174 D)(hdd:174<=dd)(hA:∀x,A=some x->x.block≠N.m/\x.block≠N.c/\x.block≠N.g)(ht:t.ok)(qH:t.place=p) :
  Spec Tryz.prog 159 #[.pointer (some ⟨N.m,0,none⟩),.int .i64 p,.agg t.arr,.slice A 174 dd] w fun v w' =>
   Aa N.l w w'/\Af b (P.vW p t D).2.2 (fun b'=>v=al (P.vW p t D).2.1/\MedA w' N (P.vW p t D).1 b' (one (P.vW p t D).2.1 n)) (fun X=>v=al 7/\AW w' N X n):=by
 obtain⟨C,h1,h2,h3⟩:=H;refine Spec.mono (acM w N.m N.c N.f N.cd N.g N.h p dd C n A D t h1 h2.wf hp hD rD hdd hA ht qH) ?_;rintro v w' ⟨k,hv⟩;refine⟨k,?_⟩;obtain⟨g1,g2⟩:=h2.prog (b:=b) hp ht qH hD h3;have etr:(P.vW p t D).2.2=(P.prog p t D).2.2:=by
  unfold CS.vW;split<;>rfl
 rw[etr];refine Af.of (fun hf=>?_) (fun x hx hl=>?_)
 ·obtain⟨a1,a2,a3⟩:=g1 hf;unfold CS.vW;rw[a1] at hv;rcases hv with⟨cn,rfl,hm⟩|⟨he,rfl,hm⟩
  ·rw[if_neg cn];refine⟨rfl,C.prog p (aO D t) 4 |>.1,?_,a2,a3⟩;unfold one;rw[if_neg cn];exact hm
  ·rw[if_pos he];exact⟨rfl,_,hm,a2.bC p,a3⟩
 ·obtain⟨a1,a2⟩:=g2 x hx hl;rw[a1] at hv;rcases hv with⟨-,rfl,hm⟩|⟨he,-⟩
  ·exact⟨rfl,_,hm,a2⟩
  ·exact absurd he (by decide)
theorem aaZ(H:MedA w N P b n){p:Nat}(hp:p<96) :
  Spec Tryz.prog 115 #[.pointer (some ⟨N.m,0,none⟩),.int .i64 p] w fun v w' =>
   Aa N.l w w'/\∃R dv,AA P p R/\AZ w w' R dv/\v=.tuple #[agg 9 (rR R.tagged R.tag R.sound dv (R.iU:Nat)),al 0]/\MedA w' N (P.bC p) b (jI (n+1)):=by
 obtain⟨C,h1,h2,h3⟩:=H;refine Spec.mono (aaS w N.m N.c N.f N.cd N.g N.h p C n h1 h2.wf hp) ?_;rintro v w' (⟨cj,-⟩|⟨cj,dv,hd,rfl,hm,k⟩)
 ·rw[h3.1] at cj
  cases cj
 ·exact⟨k,_,dv,h2.read hp,hd,rfl,_,hm,h2.bC p,h3⟩
theorem nr(H:MedA w N P b n){B:Nat}(hB:B<12) :
  Spec Tryz.prog 134 #[.pointer (some ⟨N.m,0,none⟩),.int .i64 B] w fun v w' =>
   Aa [N.c] w w'/\Af b [P] (fun b'=>v=al (P.erase B).2/\MedA w' N (P.erase B).1 b' n) (fun X=>v=al 7/\AW w' N X n):=by
 obtain⟨C,h1,h2,h3⟩:=H;refine Spec.mono (afr h1 h2.wf hB) ?_;rintro v w' ⟨rfl,hm,k⟩;refine⟨k,?_⟩;obtain⟨g1,g2⟩:=h2.erase B h3;refine Af.of (fun hf=>?_) (fun x hx hl=>?_)
 ·obtain⟨a1,a2,a3⟩:=g1 hf;rw[a1];exact⟨rfl,_,hm,a2,a3⟩
 ·obtain rfl:x=0:=by simpa using hl
  obtain⟨a1,a2⟩:=g2 hx;rw[a1];exact⟨rfl,_,hm,a2⟩
theorem qJ(H:MedA w N P b n):Spec Tryz.prog 158 #[.pointer (some ⟨N.m,0,none⟩)] w fun v w'=>v=.int .i64 n/\w=w':=by
 obtain⟨C,h1,h2,h3⟩:=H;exact xD h1
theorem aft(H:AW w N P n):Spec Tryz.prog 158 #[.pointer (some ⟨N.m,0,none⟩)] w fun v w'=>v=.int .i64 n/\w=w':=by
 obtain⟨C,h1,h2⟩:=H;exact xD h1
end
end
section
open Go.RowKit
structure Fd where
 place:Int
 tp:Int
 of:Int
 seq:Int
 copy:Int
 lost:Bool
deriving DecidableEq
def Fd.zero:Fd:=⟨0,0,0,0,0,false⟩
instance:Inhabited Fd:=⟨Fd.zero⟩
def Fd.arr(f:Fd):Array Value := #[.int .i64 f.place,.int .i64 f.tp,.int .i64 f.of,.int .i64 f.seq,.int .i64 f.copy,.bool f.lost]
def Fd.cell(f:Fd)(j:Nat):Value:=f.arr.getD j .nilIface
def ju(L:List Fd)(q:Nat):Value:=(L.getD (q/6) Fd.zero).cell (q%6)
def Fd.sound(f:Fd):Bool:=decide (0<=f.place/\f.place<=95/\0<=f.of/\f.of<=24/\0<=f.seq/\f.seq<=1099511627775/\0<=f.copy/\f.copy<=255)
def Fd.wf(f:Fd):Prop:=(-9223372036854775808<=f.place/\f.place<=9223372036854775807)/\(-9223372036854775808<=f.tp/\f.tp<=9223372036854775807)/\(-9223372036854775808<=f.of/\f.of<=9223372036854775807)/\(-9223372036854775808<=f.seq/\f.seq<=9223372036854775807)/\(-9223372036854775808<=f.copy/\f.copy<=9223372036854775807)
theorem lq:(Tryz.prog.info? 69).map (fun i=>(i.zero,i.size,i.bytes))=some (some (.agg Fd.zero.arr),6,48):=by kernel_rfl
theorem ahP(f:Fd)(w:World):Calls Tryz.prog 176 #[.agg f.arr] w fun e w'=>e=.returned (.bool f.sound)/\Aa [] w w':=by
 unfold Fd.arr Fd.sound;have hc:(0<=f.place/\f.place<=95/\0<=f.of/\f.of<=24/\0<=f.seq/\f.seq<=1099511627775/\0<=f.copy/\f.copy<=255)\/(0<=f.place/\f.place<=95/\0<=f.of/\f.of<=24/\0<=f.seq/\f.seq<=1099511627775/\0<=f.copy/\255<f.copy) \/
   (0<=f.place/\f.place<=95/\0<=f.of/\f.of<=24/\0<=f.seq/\f.seq<=1099511627775/\f.copy<0/\(0:Int)<=0)\/(0<=f.place/\f.place<=95/\0<=f.of/\f.of<=24/\0<=f.seq/\1099511627775<f.seq/\(0:Int)<=0/\(0:Int)<=0) \/
   (0<=f.place/\f.place<=95/\0<=f.of/\f.of<=24/\f.seq<0/\(0:Int)<=0/\(0:Int)<=0/\(0:Int)<=0)\/(0<=f.place/\f.place<=95/\0<=f.of/\24<f.of/\(0:Int)<=0/\(0:Int)<=0/\(0:Int)<=0/\(0:Int)<=0) \/
   (0<=f.place/\f.place<=95/\f.of<0/\(0:Int)<=0/\(0:Int)<=0/\(0:Int)<=0/\(0:Int)<=0/\(0:Int)<=0)\/(0<=f.place/\95<f.place/\(0:Int)<=0/\(0:Int)<=0/\(0:Int)<=0/\(0:Int)<=0/\(0:Int)<=0/\(0:Int)<=0)\/(f.place<0/\(0:Int)<=0/\(0:Int)<=0/\(0:Int)<=0/\(0:Int)<=0/\(0:Int)<=0/\(0:Int)<=0/\(0:Int)<=0):=by omega
 rcases hc with⟨h1,h2,h3,h4,h5,h6,h7,h8⟩|⟨h1,h2,h3,h4,h5,h6,h7,h8⟩|⟨h1,h2,h3,h4,h5,h6,h7,h8⟩|⟨h1,h2,h3,h4,h5,h6,h7,h8⟩|⟨h1,h2,h3,h4,h5,h6,h7,h8⟩|⟨h1,h2,h3,h4,h5,h6,h7,h8⟩|⟨h1,h2,h3,h4,h5,h6,h7,h8⟩|⟨h1,h2,h3,h4,h5,h6,h7,h8⟩|⟨h1,h2,h3,h4,h5,h6,h7,h8⟩
 all_goals
  first
   |rw[decide_eq_true (p:=0<=f.place/\_) (by omega)]
   |rw[decide_eq_false (p:=0<=f.place/\_) (by omega)]
  go_enter func176,ntmps176
  go_wp2
  go_ret
  refine⟨?_,(Aa.refl _ _).alloc _⟩;first
   |rfl
   |(simp;omega)
def ahead(a b:Int):Bool:=decide (0<=a/\a<=255/\0<=b/\b<=255/\1<=(b-a)%256/\(b-a)%256<=127)
theorem ahQ(a b:Int)(w:World):Calls Tryz.prog 195 #[.int .i64 a,.int .i64 b] w fun e w'=>e=.returned (.bool (ahead a b))/\w=w':=by
 unfold ahead;have hc:(0<=a/\a<=255/\0<=b/\b<=255)\/(0<=a/\a<=255/\0<=b/\255<b)\/(0<=a/\a<=255/\b<0/\(0:Int)<=0)\/(0<=a/\255<a/\(0:Int)<=0/\(0:Int)<=0)\/(a<0/\(0:Int)<=0/\(0:Int)<=0/\(0:Int)<=0):=by omega
 rcases hc with⟨h1,h2,h3,h4⟩|hc
 ·have hd:(b-a)%256<1\/(1<=(b-a)%256/\(b-a)%256<=127)\/(127<(b-a)%256/\1<=(b-a)%256):=by omega
  rcases hd with hd|⟨hd,hd2⟩|⟨hd,hd2⟩
  all_goals
   first
    |rw[decide_eq_true (p:=0<=a/\_) (by omega)]
    |rw[decide_eq_false (p:=0<=a/\_) (by omega)]
   go_enter func195,ntmps195
   go_wp2
   go_ret
   refine⟨?_,rfl⟩;first
    |rfl
    |(simp;omega)
 ·rcases hc with⟨h1,h2,h3,h4⟩|⟨h1,h2,h3,h4⟩|⟨h1,h2,h3,h4⟩|⟨h1,h2,h3,h4⟩
  all_goals
   rw[decide_eq_false (p:=0<=a/\_) (by omega)]
   go_enter func195,ntmps195
   go_wp2
   go_ret
   refine⟨?_,rfl⟩;first
    |rfl
    |(simp;omega)
def sM:Value->Bool
 |.slice none 0 0=>true
 |_=>false
theorem acU{v:Value}(h:sM v=true):v=.slice none 0 0:=by
 unfold sM at h;split at h
 ·rfl
 ·cases h
noncomputable def zq(t:TypeId):Array Value:=(((Tryz.prog.info? t).bind (·.zero)).getD (.agg #[])).cells
theorem acV(cs:Array Value)(N:Nat)(z:Value)(p:Value->Bool)(hp:∀v,p v=true->v=z)(h:(cs.toList.length == N&&cs.toList.all p)=true):cs=(Array.range N).map (fun _=>z):=by
 simp only[Bool.and_eq_true,beq_iff_eq,List.all_eq_true] at h;apply Array.ext
 ·simpa using h.1
 ·intro i h1 h2;simp only[Array.getElem_map];exact hp _ (h.2 _ (by simp))
theorem akX:((zq 282).toList.length == 96&&(zq 282).toList.all sM)=true:=by kernel_rfl
theorem zat:zq 282=(Array.range 96).map (fun _=>.slice none 0 0):=acV _ _ _ sM (fun _ h=>acU h) akX
theorem afu(w:World):(Instr.alloc 282 true (.tuple #[])).run Tryz.prog w=.ok (.pointer (some ⟨w.heap.size,0,none⟩)) (w.alloc (.cells (zq 282) 282)):=by kernel_rfl
theorem ahR(w:World):(Instr.alloc 282 true (.tuple #[])).run Tryz.prog w=.ok (.pointer (some ⟨w.heap.size,0,none⟩)) (w.alloc (eS 96 (fun _=>.slice none 0 0) 282)):=by
 rw[afu,zat];rfl
theorem akY:(Tryz.prog.info? 282).map (·.size)=some 96:=by kernel_rfl
def mJ(L:List Fd)(p:Nat):List Fd:=L.filter fun f=>f.sound&&f.place == (p:Int)
theorem uj(L:List Fd)(f:Fd)(p:Nat):mJ (L++[f]) p=mJ L p++if f.sound&&f.place == (p:Int) then [f] else []:=by
 unfold mJ;rw[List.filter_append];simp only[List.filter_cons,List.filter_nil]
theorem akZ(L:List Fd)(p:Nat):(mJ L p).length<=L.length:=List.length_filter_le _ _
def mK(L:List Fd)(k:Nat):List Fd:=(List.range k).flatMap fun p=>mJ L p
theorem jY{L:List Fd}{k:Nat}(h:k<L.length):L.take (k+1)=L.take k++[L.getD k Fd.zero]:=by
 rw[List.take_add_one,List.getD_eq_getElem?_getD,List.getElem?_eq_getElem h];rfl
theorem mL{w:World}{A:Option Addr}{L:List Fd}(r:Rd w A (L.length*6) (ju L))(k:Nat)(hk:k<L.length) :
  ∃b o,A=some ⟨b,o,none⟩/\∀m,m<6->w.cell? ⟨b,o+k*6+m,none⟩=some ((L.getD k Fd.zero).cell m):=by
 obtain⟨b,o,e,h⟩:=r (by omega);refine⟨b,o,e,fun m hm=>?_⟩;have h1:=h (k*6+m) (by omega);have e1:(k*6+m)/6=k:=by omega
 have e2:(k*6+m)%6=m:=by omega
 unfold ju at h1;rw[e1,e2] at h1;rw[<-h1,Nat.add_assoc]
structure Bw(w:World)(g:Nat)(L:List Fd)(X:Nat->Option Addr)(C:Nat->Nat)(wr:World):Prop where
 row:Row wr g 282 96 (fun p=>.slice (X p) (mJ L p).length (C p))
 ly:∀p,p<96->Ly wr 69 6 (X p) (mJ L p).length (C p) (ju (mJ L p))
 new:∀p,p<96->∀x,x∈aK (X p)->w.heap.size<=x
 apart:∀p q,p<96->q<96->p≠q->∀x,x∈aK (X p)->x∉aK (X q)
 ab:Aa [] w wr
theorem Bw.al3{w:World}{g:Nat}{L:List Fd}{X:Nat->Option Addr}{C:Nat->Nat}{wr w':World}(h:Bw w g L X C wr)(k:Aa [] wr w'):Bw w g L X C w' :=
 ⟨h.row.ab k (fun h=>by cases h),fun p hp=>(h.ly p hp).aj k,h.new,h.apart,h.ab.trans k⟩
theorem gS(f:Fd)(j:Nat)(hj:j<1*6):(f.cell j).oneCell'=true:=by
 have:j=0\/j=1\/j=2\/j=3\/j=4\/j=5:=by omega
 rcases this with rfl|rfl|rfl|rfl|rfl|rfl<;>rfl
theorem uk(L:List Fd)(f:Fd)(j:Nat)(hj:j<(L.length+1)*6):ju (L++[f]) j=if j<L.length*6 then ju L j else f.cell (j-L.length*6):=by
 unfold ju;by_cases h:j<L.length*6
 ·rw[if_pos h];have h2:j/6<L.length:=by omega
  simp[List.getElem?_append_left h2]
 ·rw[if_neg h];have h2:j/6=L.length:=by omega
  have h3:j-L.length*6=j%6:=by omega
  rw[h2,h3];simp
def nU{α:Type}(X:Nat->α)(p:Nat)(y:α):Nat->α:=fun q=>if q=p then y else X q
theorem Bw.push{w:World}{L:List Fd}{X:Nat->Option Addr}{C:Nat->Nat}{w5 w6:World}{f:Fd}{p0 cY:Nat}{Y:Option Addr}(h:Bw w w.heap.size L X C w5)(hs:f.sound=true)(hp:f.place=p0)(hp1:p0<96)
  (hy:Ly w6 69 6 Y ((mJ L p0).length+1) cY (fun j=>if j<(mJ L p0).length*6 then ju (mJ L p0) j else f.cell (j-(mJ L p0).length*6))) (k:Aa (aK (X p0)) w5 w6) (da:∀x,x∈aK Y->x∈aK (X p0)\/w5.heap.size<=x) :
  Bw w w.heap.size (L++[f]) (nU X p0 Y) (nU C p0 cY) (w6.setCell ⟨w.heap.size,p0,none⟩ (.slice Y ((mJ L p0).length+1) cY)):=by
 have hnb:=(h.ly p0 hp1).aL h.row (by decide);have r6:=h.row.ab k hnb;have e0:mJ (L++[f]) p0=mJ L p0++[f]:=by rw[uj,hs,hp];simp
 have e1:∀p,p≠p0->mJ (L++[f]) p=mJ L p:=fun p cn=>by
  rw[uj,if_neg,List.append_nil];rw[hp];simp;omega
 have wg:=h.row.lt;refine⟨?_,?_,?_,?_,?_⟩
 ·refine(r6.set p0 _).congr (fun p hp2=>?_);unfold put nU;by_cases hq:p=p0
  ·subst hq;simp[e0]
  ·simp[hq,e1 p hq]
 ·intro p hp2;by_cases hq:p=p0
  ·subst hq;have hf:=hy.aL r6 (by decide);simp only[nU,if_pos,e0,List.length_append,List.length_singleton];exact(hy.congr (fun j hj=>(uk _ _ _ hj).symm)).bW (fun x hx e=>by
    have e2:x=w.heap.size:=e;rw[e2] at hx;exact hf hx) _
  ·simp only[nU,if_neg hq,e1 p hq];have h1:=(h.ly p hp2).ab k (fun x hx=>h.apart p p0 hp2 hp1 hq x hx);exact h1.bW (fun x hx e=>by
    have e2:x=w.heap.size:=e;rw[e2] at hx;exact h1.aL r6 (by decide) hx) _
 ·intro p hp2 x hx;by_cases hq:p=p0
  ·subst hq;simp only[nU,if_pos] at hx;rcases da x hx with h1|h1
   ·exact h.new p hp2 x h1
   ·have:=h.ab.size;omega
  ·simp only[nU,if_neg hq] at hx;exact h.new p hp2 x hx
 ·intro p q hp2 wS cn x hx;by_cases h1:p=p0
  ·subst h1;have h2:q≠p:=fun e=>cn e.symm;simp only[nU,if_pos,if_neg h2] at hx ⊢;intro hx2;rcases da x hx with h3|h3
   ·exact h.apart p q hp2 wS cn x h3 hx2
   ·have:=(h.ly q wS).kR hx2;omega
  ·by_cases h2:q=p0
   ·subst h2;simp only[nU,if_pos,if_neg h1] at hx ⊢;intro hx2;rcases da x hx2 with h3|h3
    ·exact h.apart p q hp2 wS cn x hx h3
    ·have:=(h.ly p hp2).kR hx;omega
   ·simp only[nU,if_neg h1,if_neg h2] at hx ⊢;exact h.apart p q hp2 wS cn x hx
 ·exact(h.ab.then k (fun x hx=>.inr (h.new p0 hp1 x hx))).setCell _ _ (.inr (Nat.le_refl _))
theorem zr(a b c:Fd->Bool)(h:∀f,(a f=true↔False)/\(b f=true↔c f=true)\/(b f=true↔False)/\(a f=true↔c f=true))(L:List Fd):L.countP a+L.countP b=L.countP c:=by
 induction L with
 |nil=>rfl
 | cons f L ih =>
  simp only[List.countP_cons];rcases h f with⟨h1,h2⟩|⟨h1,h2⟩
  ·by_cases hc:c f=true
   ·simp[h1,h2,hc];omega
   ·simp[h1,h2,hc];omega
  ·by_cases hc:c f=true
   ·simp[h1,h2,hc];omega
   ·simp[h1,h2,hc];omega
theorem pN(L:List Fd)(k:Nat):mK L (k+1)=mK L k++mJ L k:=by
 unfold mK;rw[List.range_succ,List.flatMap_append];simp
theorem afv(L:List Fd)(k:Nat):(mK L k).length=L.countP (fun f=>f.sound&&decide (0<=f.place/\f.place<(k:Int))):=by
 induction k with
 | zero =>
  have:(fun f:Fd=>f.sound&&decide (0<=f.place/\f.place<((0:Nat):Int)))=fun _=>false:=by
   funext f;have:¬(0<=f.place/\f.place<((0:Nat):Int)):=by omega
   simp[this]
  rw[this];simp[mK]
 | succ k ih =>
  rw[pN,List.length_append,ih];show _+(L.filter _).length=_;rw[<-List.countP_eq_length_filter];refine zr _ _ _ (fun f=>?_) L;by_cases hs:f.sound=true
  ·by_cases hk:f.place=(k:Int)
   ·left;simp[hs,hk];omega
   ·right;simp[hs,hk];omega
  ·left;simp[hs]
theorem zt(L:List Fd)(k:Nat):(mK L k).length<=L.length:=by
 rw[afv];exact List.countP_le_length
theorem ad6(L:List Fd)(j:Nat):(ju L j).oneCell'=true:=gS _ _ (by omega)
theorem acW(L M:List Fd)(j:Nat):ju (L++M) j=if j<L.length*6 then ju L j else ju M (j-L.length*6):=by
 unfold ju;by_cases h:j<L.length*6
 ·rw[if_pos h];have h2:j/6<L.length:=by omega
  simp[List.getElem?_append_left h2]
 ·rw[if_neg h];have h2:L.length<=j/6:=by omega
  have h3:(j-L.length*6)%6=j%6:=by omega
  have h4:(j-L.length*6)/6=j/6-L.length:=by omega
  rw[h3,h4];simp[List.getElem?_append_right h2]
theorem wE(w:World):(isAgg 64).run Tryz.prog w=.ok false w:=by
 unfold isAgg;rw[Sem.run_bind,run_underlying underlying64 w];rfl
theorem aa0:(Tryz.prog.info? 64).map (·.size)=some 1:=by kernel_rfl
theorem aa1(f:Fd):(Array.range 6).map f.cell=f.arr:=by
 apply Array.ext
 ·simp[Fd.arr]
 ·intro i h1 h2;have h3:i<6:=by simpa using h1
  have:i=0\/i=1\/i=2\/i=3\/i=4\/i=5:=by omega
  rcases this with rfl|rfl|rfl|rfl|rfl|rfl<;>simp[Fd.cell,Fd.arr]
theorem ad7(f:Fd):Value.agg f.arr=agg 6 f.cell:=by
 unfold agg;rw[aa1]
theorem um:(Tryz.prog.info? 69).map (·.size)=some 6:=by kernel_rfl
theorem bj(f:Fd)(j:Nat)(hj:j<6):(f.cell j).oneCell'=true:=gS f j (by omega)
theorem Row.fd{w:World}{g:Nat}{f:Fd}(h:w.heap[g]?=some (.cells f.arr 69 (0,0))):Row w g 69 6 f.cell:=by
 unfold Row;rw[aa1];exact h
theorem Ru.fN{w:World}{K:Value->World->Prop}(k:∀g w',g=w.heap.size->w'.heap.size=w.heap.size+1->Row w' g 69 6 Fd.zero.cell->Aa [] w w'->K (.pointer (some ⟨g,0,none⟩)) w'):Ru Tryz.prog (Instr.alloc 69 true (.tuple #[])) w K :=
 ⟨_,w.alloc (.cells Fd.zero.arr 69),by kernel_rfl,k _ _ rfl (by simp) (Row.fd (heap_alloc_new _ _)) ((Aa.refl _ _).alloc _)⟩
theorem ahS{w:World}{g o N:Nat}{t:TypeId}{F:Nat->Value}{f:Fd}(r:Row w g t N F)(hn:o+6<=N)(hf:∀j,j<6->F (o+j)=f.cell j):(loadVar 69 ⟨g,o,none⟩).run Tryz.prog w=.ok (.agg f.arr) w:=by
 have h:=fH (P:=Tryz.prog) r hn underlying69 rfl um;rw[show agg 6 (fun j=>F (o+j))=.agg f.arr from(br hf).trans (ad7 f).symm] at h;exact h
theorem Ru.zu{w:World}{g:Nat}{t:TypeId}{f:Fd}{K:Value->World->Prop}(r:Row w g t 6 f.cell)(k:K (.agg f.arr) w):Ru Tryz.prog (loadVar 69 ⟨g,0,none⟩) w K:=⟨_,_,ahS r (by omega) (fun j _=>by rw[Nat.zero_add]),k⟩
theorem Am.zu{C:World->Prop}{g:Nat}{t:TypeId}{f:Fd}{K:Value->Prop}(r:∀w,C w->Row w g t 6 f.cell)(k:K (.agg f.arr)):Am Tryz.prog C (loadVar 69 ⟨g,0,none⟩) K:=⟨_,fun w hw=>ahS (r w hw) (by omega) (fun j _=>by rw[Nat.zero_add]),k⟩
theorem ao7{w:World}{g o:Nat}{f:Fd}(h:∀m,m<6->w.cell? ⟨g,o+m,none⟩=some (f.cell m)):(loadVar 69 ⟨g,o,none⟩).run Tryz.prog w=.ok (.agg f.arr) w:=by
 have e:∀m,m<6->(load ((⟨g,o,none⟩:Addr).add m)).run Tryz.prog w=.ok (f.cell m) w:=fun m hm=>by
  rw[gI];simp[load,Sem.run,h m hm]
 have ha:(isAgg 69).run Tryz.prog w=.ok true w:=iv underlying69 rfl w;have hs:(sizeOf 69).run Tryz.prog w=.ok 6 w:=dp (by kernel_rfl) w;simp only[loadVar,Sem.run_bind,ha,Result.andThen_ok,if_true,hs,loadCells,loadCellsFrom,e 0 (by omega),e 1 (by omega),e 2 (by omega),e 3 (by omega),e 4 (by omega),e 5 (by omega),Sem.run_pure];rfl
theorem Ru.aa2{w:World}{g o:Nat}{f:Fd}{K:Value->World->Prop}(h:∀m,m<6->w.cell? ⟨g,o+m,none⟩=some (f.cell m))(k:K (.agg f.arr) w):Ru Tryz.prog (loadVar 69 ⟨g,o,none⟩) w K:=⟨_,_,ao7 h,k⟩
theorem Ru.uo{w:World}{g:Nat}{t:TypeId}{b:Nat->Value}{f:Fd}{K:Unit->World->Prop}(r:Row w g t 6 b)(k:∀w',Row w' g t 6 f.cell->Aa [g] w w'->K () w'):Ru Tryz.prog (storeVar 69 ⟨g,0,none⟩ (.agg f.arr)) w K:=by
 rw[ad7];exact Ru.im r um (by omega) (bj f) (fun w' r' k'=>k w' (r'.congr (fun j hj=>by unfold lay;rw[if_pos (by omega)];simp)) k')
theorem aa3(f:Fd)(w:World):Spec Tryz.prog 176 #[.agg f.arr] w fun v w'=>v=.bool f.sound/\Aa [] w w':=Spec.jN (by kernel_rfl) (ahP f w)
theorem aa4(f:Fd)(w:World):(Instr.buildSlice 64 1 #[(0,.agg f.arr)]).run Tryz.prog w=.ok (.slice (some ⟨w.heap.size,0,none⟩) 1 1) (w.alloc (.cells f.arr 69)):=by kernel_rfl
theorem Ru.zv{w:World}(f:Fd){K:Value->World->Prop}(k:∀g w',g=w.heap.size->w'.heap.size=w.heap.size+1->Row w' g 69 6 f.cell->Aa [] w w'->K (.slice (some ⟨g,0,none⟩) 1 1) w'):Ru Tryz.prog (Instr.buildSlice 64 1 #[(0,.agg f.arr)]) w K :=
 ⟨_,_,aa4 f w,k _ _ rfl (by simp) (Row.fd (heap_alloc_new _ _)) ((Aa.refl _ _).alloc _)⟩
def CK(L:List Fd)(w:World)(v:Value)(w':World):Prop:=∃A c,v=.slice A (mK L 96).length c/\Ly w' 69 6 A (mK L 96).length c (ju (mK L 96))/\(∀x,x∈aK A->w.heap.size<=x)/\Aa [] w w'
theorem ur(A:Option Addr)(c:Nat)(L:List Fd)(w:World)(hr:Rd w A (L.length*6) (ju L))(hn:L.length*48<=140737488351232) :
  Spec Tryz.prog 173 #[.slice A L.length c] w (CK L w):=by
 obtain⟨i0,hi,lZ,lR,l4⟩:=info_parts lq;refine spec_of_wpE (T:=tt) ai func173 rfl (by decide +kernel) ntmps173 (by simp) ?_;conv=>whnf
 refine Ru.of (ahR w) ?_;conv=>whnf
 repeat (refine CW.s ?_;conv=>whnf)
 refine CW.loop (ι:=Nat×(Nat->Option Addr)×(Nat->Nat)) (fun i wr=>i.1<=L.length/\Bw w w.heap.size (L.take i.1) i.2.1 i.2.2 wr) (fun i=>[(0,.slice A L.length c),(2,.slice none 0 0),(3,.pointer (some ⟨w.heap.size,0,none⟩)),(9,.slice A L.length c),(10,.int .i64 L.length),(11,.int .i64 i.1)]) (fun i=>L.length-i.1) (0,fun _=>none,fun _=>0) ai ⟨by simp,Row.obj w _ _ _,fun p _=>Ly.nil _ _ _ _,(fun _ _ _ h=>by cases h),(fun _ _ _ _ _ _ h=>by cases h),(Aa.refl _ _).alloc _⟩ ?_ ?_
 ·exact⟨rfl,rfl,rfl,rfl,rfl,rfl,trivial⟩
 rintro⟨k,X,C⟩ wr ⟨hk,I⟩;simp only at hk I;by_cases av:k<L.length
 ·obtain⟨b,o,rfl,hc⟩:=mL (hr.aj I.ab) k av;have kM:=jY av;generalize L.getD k Fd.zero=f at *;conv=>whnf
  repeat ((first|refine Ix.n ?_|refine Br.y ?_|refine CW.s ?_);conv=>whnf)
  refine Ru.aa2 hc ?_;conv=>whnf
  refine Ru.fN ?_;intro g1 w1 hg1 dj r1 k1;conv=>whnf
  refine Ru.uo r1 ?_;intro w2 r2 k2;conv=>whnf
  refine Ru.zu r2 ?_;conv=>whnf
  refine Ca.of (aa3 f w2) ?_;rintro _ w3 ⟨rfl,k3⟩;have r3:=r2.ab k3 (by simp);have hG:=I.row.lt;have k23:Aa [g1] wr w3:=((k1.mono (by simp)).trans k2).trans (k3.mono (by simp));have kw:Aa [] wr w3:=(k1.then (T:=[g1]) (k2.trans (k3.mono (by simp))) (fun x hx=>.inr (by rw[List.mem_singleton.1 hx,hg1];exact Nat.le_refl _)));have I3:=I.al3 kw;conv=>whnf
  refine⟨fun hs=>?_,fun hs=>?_⟩
  ·have hp:0<=f.place/\f.place<=95:=by
    have:=of_decide_eq_true hs;omega
   have hp0:f.place=(f.place.toNat:Int):=by omega
   have hp1:f.place.toNat<96:=by omega
   generalize f.place.toNat=p0 at *;have hsl:(mJ (L.take k) p0).length<=k:=Nat.le_trans (akZ _ _) (by simp;omega);have hnb:=(I3.ly p0 hp1).aL I3.row (by decide);have aqU:g1∉aK (X p0):=fun hx=>by have:=(I.ly p0 hp1).kR hx;omega
   conv=>whnf
   refine CW.held (fun w'=>Row w' g1 69 6 f.cell/\w'.cell? ⟨w.heap.size,p0,none⟩=some (.slice (X p0) (mJ (L.take k) p0).length (C p0))) [10] (.take 0 (.take 1 (.take 2 (.take 3 (.take 4 (.take 5 (.take 6 (.one 7 (.one 8 (.take 9 (.one 10 (.done)))))))))))) ai (by kernel_rfl) (by kernel_rfl) (by kernel_rfl) ?_ ?_
   ·exact⟨r3.drewN 1,I3.row.cell p0 hp1⟩
   conv=>whnf
   repeat ((first|(refine Ix.of p0 hp0 hp1 ?_)|(refine Ag.row (fun _ h=>h.1) (by omega) ?_)|(refine Ag.at (by omega) (fun _ h=>h.2) ?_)|(refine Am.zu (fun _ h=>h.1) ?_));conv=>whnf)
   refine Ru.zv f ?_;intro g2 w4 hg2 gO r4 k4;have q4:Aa [] w3 w4:=((Aa.refl [] w3).drewN 1).trans k4;have I4:=I3.al3 q4;conv=>whnf
   refine⟨⟨r3.ab q4 (by simp),I4.row.cell p0 hp1⟩,?_⟩;conv=>whnf
   refine Bu.append underlying64 hi lZ lR l4 rfl (by omega) (I4.ly p0 hp1) _ (Rd.dq r4 (n:=1*6) (by omega)) (by omega) (by simp) (fun j hj=>gS f j hj) (by simp only[maxLen];omega) (by omega) ?_;intro Y cY w5 hy hkp da gZ;conv=>whnf
   refine⟨⟨(r3.ab q4 (by simp)).ab hkp aqU,(I4.row.ab hkp hnb).cell p0 hp1⟩,?_⟩;conv=>whnf
   repeat ((refine Ix.of p0 hp0 hp1 ?_);conv=>whnf)
   have rG:=I4.row.ab hkp hnb;refine Sd.setAt p0 (by omega) (rG.cell p0 hp1) (rG.free p0) rfl ?_;have II:=I4.push hs hp0 hp1 hy hkp (fun x hx=>by
    rcases da with e|e
    ·rw[e] at hx;exact .inl hx
    ·rw[e] at hx;exact .inr (by rw[List.mem_singleton.1 hx];exact Nat.le_refl _))
   rw[<-kM] at II;conv=>whnf
   repeat (refine Ar.la ?_;conv=>whnf)
   exact⟨(k+1,nU X p0 Y,nU C p0 cY),⟨av,II⟩,⟨rfl,rfl,rfl,rfl,rfl,rfl,trivial⟩,by simp only;omega⟩
  ·conv=>whnf
   repeat (refine Ar.la ?_;conv=>whnf)
   have e1:∀p,mJ (L.take (k+1)) p=mJ (L.take k) p:=fun p=>by rw[kM,uj,hs];simp
   exact⟨(k+1,X,C),⟨av,⟨I3.row.congr (fun p _=>by rw[e1]),fun p hp=>by rw[e1];exact I3.ly p hp,I3.new,I3.apart,I3.ab⟩⟩,⟨rfl,rfl,rfl,rfl,rfl,rfl,trivial⟩,by simp only;omega⟩
 ·obtain rfl:k=L.length:=by omega
  rw[List.take_length] at I;conv=>whnf
  repeat ((first|refine Br.n ?_|refine CW.s ?_);conv=>whnf)
  refine Ru.vR I.row underlying282 rfl akY (by omega) ?_;conv=>whnf
  refine CW.loop (ι:=Nat×Option Addr×Nat) (fun i w2=>i.1<=96/\Ly w2 69 6 i.2.1 (mK L i.1).length i.2.2 (ju (mK L i.1))/\(∀x,x∈aK i.2.1->wr.heap.size<=x)/\Aa [] wr w2) (fun i=>[(6,.slice i.2.1 (mK L i.1).length i.2.2),(28,agg 96 (fun j=>.slice (X (0+j)) (mJ L (0+j)).length (C (0+j)))),(29,.int .i64 i.1)]) (fun i=>96-i.1) (0,none,0) ai ⟨by simp,Ly.nil _ _ _ _,(fun _ h=>by cases h),Aa.refl _ _⟩ ⟨rfl,rfl,rfl,trivial⟩ ?_;rintro⟨q,Z,cz⟩ w2 ⟨hq,yO,gN,kk⟩;simp only at hq yO gN;by_cases anf:q<96
  ·have ak0:(mK L q).length+(mJ L q).length<=L.length:=by
    have:=zt L (q+1)
    rwa [pN,List.length_append] at this
   have hx:=(I.ly q anf).aj kk;conv=>whnf
   repeat ((first|refine Br.y ?_|refine CW.s ?_);conv=>whnf)
   refine Ru.of (oh 282 64 96 q underlying282 anf wE aa0 w2) ?_;rw[Nat.zero_add];conv=>whnf
   refine Bu.append underlying64 hi lZ lR l4 rfl (by omega) yO _ hx.rd hx.1 hx.2.2.1 (fun j _=>ad6 _ j) (by simp only[maxLen];omega) (by omega) ?_;intro Y cY w3 hy hkp da gZ;have e1:(mK L (q+1)).length=(mK L q).length+(mJ L q).length:=by rw[pN,List.length_append]
   have k3:=kk.then hkp (fun x hx=>.inr (gN x hx));conv=>whnf
   repeat (refine Ar.la ?_;conv=>whnf)
   refine⟨(q+1,Y,cY),⟨anf,?_,fun x hx=>?_,k3⟩,⟨congrArg (fun n=>Value.slice Y n cY) e1.symm,rfl,rfl,trivial⟩,by simp only;omega⟩
   ·simp only;rw[e1];exact hy.congr (fun j hj=>by rw[pN,acW])
   ·rcases da with e|e
    ·exact gN x (e ▸ hx)
    ·simp only at hx;rw[e] at hx;obtain rfl:=List.mem_singleton.1 hx;exact kk.size
  ·obtain rfl:q=96:=by omega
   conv=>whnf
   repeat ((first|refine Br.f ?_|refine CW.s ?_);conv=>whnf)
   exact⟨rfl,Z,cz,rfl,yO,fun x hx=>Nat.le_trans I.ab.size (gN x hx),I.ab.trans kk⟩
end
section
open Go.RowKit
attribute [local irreducible] ahead Fd.sound
def gF(of above:Int)(s:Fd×Bool)(f:Fd):Fd×Bool :=
 if f.of≠of\/f.seq<=above then s else if s.2=false\/s.1.seq<f.seq\/(f.seq=s.1.seq/\ahead f.copy s.1.copy=true) then (f,true) else s
def az(L:List Fd)(of above:Int):Fd×Bool:=L.foldl (gF of above) (Fd.zero,false)
theorem pO(L:List Fd)(of above:Int)(f:Fd):az (L++[f]) of above=gF of above (az L of above) f:=by
 unfold az;rw[List.foldl_append];rfl
theorem lr{of above:Int}{qK f:Fd}{has:Bool}(h1:f.of=of)(h2:above<f.seq)(h3:has=false\/qK.seq<f.seq\/(f.seq=qK.seq/\ahead f.copy qK.copy=true)):gF of above (qK,has) f=(f,true):=by
 unfold gF;rw[if_neg (by omega),if_pos h3]
theorem lu{of above:Int}{qK f:Fd}{has:Bool}(h:f.of≠of\/f.seq<=above\/(has=true/\f.seq<=qK.seq/\(f.seq≠qK.seq\/ahead f.copy qK.copy=false))):gF of above (qK,has) f=(qK,has):=by
 unfold gF;by_cases h1:f.of≠of\/f.seq<=above
 ·rw[if_pos h1]
 ·rw[if_neg h1,if_neg];simp only;rcases h with h|h|⟨h,h2,h3⟩
  ·exact absurd (.inl h) h1
  ·exact absurd (.inr h) h1
  ·rintro(h4|h4|⟨h4,h5⟩)
   ·rw[h] at h4;cases h4
   ·omega
   ·rcases h3 with h3|h3
    ·exact h3 h4
    ·rw[h5] at h3;cases h3
theorem ahT(a b:Int)(w:World):Spec Tryz.prog 195 #[.int .i64 a,.int .i64 b] w fun v w'=>v=.bool (ahead a b)/\w=w':=Spec.jN (by kernel_rfl) (ahQ a b w)
def Bc(s:Fd×Bool)(w:World)(v:Value)(w':World):Prop:=v=.tuple #[.agg s.1.arr,.bool s.2]/\Aa [] w w'
theorem xE(A:Option Addr)(c:Nat)(L:List Fd)(of above:Int)(w:World)(hr:Rd w A (L.length*6) (ju L))(hn:L.length*48<=140737488351232) :
  Spec Tryz.prog 172 #[.slice A L.length c,.int .i64 of,.int .i64 above] w (Bc (az L of above) w):=by
 refine spec_of_wpE (T:=tt) ai func172 rfl (by decide +kernel) ntmps172 (by simp) ?_;conv=>whnf
 refine Ru.fN ?_;intro g6 w1 hg6 dj r6 k1;conv=>whnf
 refine Ru.fN ?_;intro g8 w2 hg8 gO r8 k2;have r6:=r6.ab k2 (by simp);conv=>whnf
 repeat (refine CW.s ?_;conv=>whnf)
 refine CW.loop (ι:=Nat×Fd×Bool) (fun i wr=>i.1<=L.length/\az (L.take i.1) of above=(i.2.1,i.2.2)/\Row wr g6 69 6 Fd.zero.cell/\Row wr g8 69 6 i.2.1.cell/\Aa [] w wr)
  (fun i=>[(1,.int .i64 of),(2,.int .i64 above),(6,.pointer (some ⟨g6,0,none⟩)),(8,.pointer (some ⟨g8,0,none⟩)),(9,.bool i.2.2),(12,.slice A L.length c),(13,.int .i64 L.length),(14,.int .i64 i.1)]) (fun i=>L.length-i.1) (0,Fd.zero,false) ai ⟨by simp,rfl,r6,r8,k1.trans k2⟩ ⟨rfl,rfl,rfl,rfl,rfl,rfl,rfl,rfl,trivial⟩ ?_;rintro⟨k,qK,has⟩ wr ⟨hk,bq,r6,r8,kk⟩;simp only at hk bq r8;have ang:=r8.lt;have anh:=r6.lt;by_cases av:k<L.length
 ·obtain⟨b,o,rfl,hc⟩:=mL (hr.aj kk) k av;have kM:=jY av;generalize L.getD k Fd.zero=f at *;conv=>whnf
  repeat ((first|refine Ix.n ?_|refine Br.y ?_|refine CW.s ?_);conv=>whnf)
  refine Ru.aa2 hc ?_;conv=>whnf
  refine Ru.fN ?_;intro g11 w3 hg11 gg r11 k3;conv=>whnf
  refine Ru.uo r11 ?_;intro w4 r11 k4;have q4:Aa [] wr w4:=k3.then k4 (fun x hx=>.inr (by rw[List.mem_singleton.1 hx,hg11];exact Nat.le_refl _));have r8:=r8.ab q4 (by simp);have r6:=r6.ab q4 (by simp);have kk:=kk.trans q4;have zw:az (L.take (k+1)) of above=gF of above (qK,has) f:=by rw[kM,pO,bq]
  have d86:g8≠g6:=by omega
  conv=>whnf
  repeat' ((first|(refine Ld.row r11 (by omega) ?_)|(refine Ld.row r8 (by omega) ?_)|(refine Ca.of (ahT _ _ _) ?_;rintro _ _ ⟨rfl,rfl⟩)|(refine Ru.zu r11 ?_)|(refine Ru.uo r8 ?_;intro w5 r8t k5)|refine Br.t ?_|refine Br.f ?_|refine Pk.f ?_|refine Pk.t ?_|refine Ar.la ?_|refine CW.s ?_|refine Br.d (fun _=>?_) (fun _=>?_)|refine Br.nd (fun _=>?_) (fun _=>?_)|refine Br.mk (fun _=>?_) (fun _=>?_))<;>conv=>whnf)
  all_goals
   first
    |exact⟨(k+1,f,true),⟨av,zw.trans (lr (by omega) (by omega) (by first|(left;simp_all;done)|(right;left;omega)|(right;right;exact⟨by omega,by assumption⟩))),r6.ab k5 (by simpa using d86.symm),r8t,kk.then k5 (fun x hx=>.inr (by rw[List.mem_singleton.1 hx];have:=k1.size;omega))⟩,⟨rfl,rfl,rfl,rfl,rfl,rfl,rfl,rfl,trivial⟩,by simp only;omega⟩
    |exact⟨(k+1,qK,has),⟨av,zw.trans (lu (by first|(left;omega)|(right;left;omega)|(right;right;refine⟨by simp_all,by omega,?_⟩;first|(left;omega)|(right;assumption)))),r6,r8,kk⟩,⟨rfl,rfl,rfl,rfl,rfl,rfl,rfl,rfl,trivial⟩,by simp only;omega⟩
 ·obtain rfl:k=L.length:=by omega
  rw[List.take_length] at bq;conv=>whnf
  repeat ((first|refine Br.n ?_|refine CW.s ?_);conv=>whnf)
  refine Ru.zu r8 ?_;conv=>whnf
  refine Ru.uo r6 ?_;intro w3 r6 k3;conv=>whnf
  refine Ru.zu r6 ?_;conv=>whnf
  exact⟨rfl,by rw[bq];rfl,kk.then k3 (fun x hx=>.inr (by rw[List.mem_singleton.1 hx];omega))⟩
end
section
open Go.RowKit
theorem Bk(A:Option Addr)(c:Nat)(L:List Fd)(of above:Int)(w:World)(hr:Rd w A (L.length*6) (ju L))(hn:L.length*48<=140737488351232) :
  Spec Tryz.prog 121 #[.slice A L.length c,.int .i64 of,.int .i64 above] w (Bc (az (mK L 96) of above) w):=by
 have hb:=zt L 96;refine spec_of_wpE (T:=tt) ai func121 rfl (by decide +kernel) ntmps121 (by simp) ?_;conv=>whnf
 refine Ru.fN ?_;intro g6 w1 hg6 dj r6 k1;conv=>whnf
 refine Ca.of (ur A c L w1 (hr.aj k1) hn) ?_;rintro _ w2 ⟨B,d,rfl,yO,gN,k2⟩;conv=>whnf
 refine Ca.of (xE B d (mK L 96) of above w2 yO.rd (by omega)) ?_;rintro _ w3 ⟨rfl,k3⟩;have r6:=(r6.ab k2 (by simp)).ab k3 (by simp);conv=>whnf
 refine Ru.uo r6 ?_;intro w4 r6 k4;conv=>whnf
 refine Ru.zu r6 ?_;conv=>whnf
 exact⟨rfl,rfl,((k1.trans k2).trans k3).then k4 (fun x hx=>.inr (by rw[List.mem_singleton.1 hx];omega))⟩
end
section
open Go.RowKit
attribute [local irreducible] ahead Fd.sound
end
section
open Go.RowKit
attribute [local irreducible] ahead Fd.sound
end
section
structure DJ(L:List Fd)(of above t:Int):Prop where
 le:∀f,f∈L->f.sound=true->f.of=of->above<f.seq->f.seq<=t
 at_:t = -1\/(0<=t/\above<t/\∃f,f∈L/\f.sound=true/\f.of=of/\f.seq=t)
theorem eA{α:Type}{p:List α->Prop}(h0:p [])(h1:∀l a,p l->p (l++[a]))(l:List α):p l:=by
 have:∀l:List α,p l.reverse:=fun l=>by
  induction l with
  |nil=>exact h0
  |cons a l ih=>rw[List.reverse_cons];exact h1 _ _ ih
 have h:=this l.reverse
 rwa [List.reverse_reverse] at h
theorem afw{L:List Fd}{f:Fd}{k:Nat}(h:f∈mK L k):f.sound=true:=by
 unfold mK mJ at h;simp only[List.mem_flatMap,List.mem_range,List.mem_filter,Bool.and_eq_true,beq_iff_eq] at h;obtain⟨p,_,_,h,_⟩:=h;exact h
end
section
open Go.RowKit
attribute [local irreducible] ahead Fd.sound
structure Cp where
 fl:Nat->Int
 next:Int
 bad:Nat->Bool
 cur:Int
 reads:Nat->Int
 ic:Nat->Int
def Cp.cell(c:Cp)(j:Nat):Value:=if j<24 then .int .i64 (c.fl j) else if j=24 then .int .i64 c.next else if j<37 then .bool (c.bad (j-25)) else if j=37 then .int .i64 c.cur else if j<50 then .int .i64 (c.reads (j-38)) else .int .i64 (c.ic (j-50))
def Cp.wf(c:Cp):Prop:=(∀j,j<24->-9223372036854775808<=c.fl j/\c.fl j<=9223372036854775807)/\-9223372036854775808<=c.next/\c.next<=9223372036854775807
theorem Cp.iy(c:Cp){j:Nat}(h:j<24):c.cell j=.int .i64 (c.fl j):=if_pos h
theorem Cp.afx(c:Cp):c.cell 24=.int .i64 c.next:=rfl
theorem Cp.jZ(c:Cp){j:Nat}(h:j<12):c.cell (25+j)=.bool (c.bad j):=by
 unfold Cp.cell;rw[if_neg (by omega),if_neg (by omega),if_pos (by omega)];congr 2;omega
def dY(c:Cp)(t:Int):Nat->Int
 |0=>t
 |k+1=>max (dY c t k) (c.fl k)
def ns(t:Int)(f:Fd):Int:=if f.sound=true then max t f.seq else t
def eB(L:List Fd)(t:Int):Int:=L.foldl ns t
def mM(L:List Fd)(c:Cp):Int:=eB L (dY c (max c.next 0-1) 24)
def dG(L:List Fd)(c:Cp):Int:=min (mM L c) 1099511627774+1
theorem jv(L:List Fd)(t:Int)(f:Fd):eB (L++[f]) t=ns (eB L t) f:=by
 unfold eB;rw[List.foldl_append];rfl
theorem aa5(c:Cp)(hc:c.wf)(t:Int)(h1 : -1<=t)(h2:t<=9223372036854775807):∀k,k<=24->-1<=dY c t k/\dY c t k<=9223372036854775807
 |0,_=>⟨h1,h2⟩
 | k+1,hk=>by
  have ih:=aa5 c hc t h1 h2 k (by omega);have:=hc.1 k (by omega);unfold dY;omega
theorem ahU{f:Fd}(h:f.sound=true):0<=f.seq/\f.seq<=1099511627775:=by
 unfold Fd.sound at h;have:=of_decide_eq_true h;omega
theorem afy(t:Int)(h1 : -1<=t)(h2:t<=9223372036854775807)(L:List Fd) : -1<=eB L t/\eB L t<=9223372036854775807:=by
 induction L using eA with
 |h0=>exact⟨h1,h2⟩
 | h1 L f ih =>
  rw[jv];unfold ns;split
  ·rename_i h
   have:=ahU h;omega
  ·exact ih
theorem gm:(Tryz.prog.info? 114).map (·.size)=some 24:=by kernel_rfl
theorem uu:dV Tryz.prog 2=true:=by kernel_rfl
theorem ad8(A:Option Addr)(c:Nat)(L:List Fd)(p:Cp)(w:World)(hr:Rd w A (L.length*6) (ju L))(hn:L.length*48<=140737488351232)(hp:p.wf) :
  Spec Tryz.prog 129 #[.slice A L.length c,agg 62 p.cell] w fun v w'=>v=.int .i64 (dG L p)/\Aa [] w w':=by
 have hp2:=hp.2;have hf0:=fun k hk=>aa5 p hp (max p.next 0-1) (by omega) (by omega) k hk;refine spec_of_wpE (T:=tt) ai func129 rfl (by decide +kernel) ntmps129 (by simp) ?_;conv=>whnf
 refine Ru.dr ?_;intro g3 w1 hg3 dj r3 k1;conv=>whnf
 repeat ((first|(refine Ld.rowAt r3 24 (by omega) (by omega) ?_)|refine Ar.la ?_|refine CW.s ?_);conv=>whnf)
 refine Ru.cx (q:=fun j=>.int .i64 (p.fl j)) r3 underlying114 rfl gm (by omega) (fun j hj=>by rw[show 0+0+j=j from by omega];exact p.iy hj) ?_;conv=>whnf
 refine CW.loop (ι:=Nat) (fun i w'=>i<=24/\w'=w1) (fun i=>[(0,.slice A L.length c),(5,.int .i64 (dY p (max p.next 0-1) i)),(15,agg 24 (fun j=>.int .i64 (p.fl j))),(16,.int .i64 i)]) (fun i=>24-i) 0 ai ⟨by omega,rfl⟩ ⟨rfl,rfl,rfl,rfl,trivial⟩ ?_;rintro k w' ⟨hk,rfl⟩;by_cases av:k<24
 ·have bq:dY p (max p.next 0-1) (k+1)=max (dY p (max p.next 0-1) k) (p.fl k):=rfl;generalize dY p (max p.next 0-1) k=t at *;conv=>whnf
  repeat ((first|(refine Ru.idx underlying114 av uu ?_)|refine Ar.la ?_|refine Br.y ?_|refine CW.s ?_);conv=>whnf)
  exact⟨k+1,⟨av,rfl⟩,⟨rfl,vi bq.symm,rfl,rfl,trivial⟩,by simp only;omega⟩
 ·obtain rfl:k=24:=by omega
  have ht:=hf0 24 (Nat.le_refl _);unfold dG mM;generalize dY p (max p.next 0-1) 24=t at *;conv=>whnf
  repeat ((first|refine Br.f ?_|refine CW.s ?_);conv=>whnf)
  refine CW.loop (ι:=Nat) (fun i wr=>i<=L.length/\Aa [] w wr) (fun i=>[(23,.slice A L.length c),(24,.int .i64 L.length),(5,.int .i64 (eB (L.take i) t)),(25,.int .i64 i)]) (fun i=>L.length-i) 0 ai ⟨by omega,k1⟩ ⟨rfl,rfl,rfl,rfl,trivial⟩ ?_;rintro i wr ⟨hi,kk⟩;have hs:=afy t ht.1 ht.2 (L.take i);by_cases av:i<L.length
  ·obtain⟨b,o,rfl,hc⟩:=mL (hr.aj kk) i av;have kM:=jY av;generalize L.getD i Fd.zero=f at *;have bq:eB (L.take (i+1)) t=ns (eB (L.take i) t) f:=by rw[kM,jv]
   generalize eB (L.take i) t=s at *;conv=>whnf
   repeat ((first|refine Ix.n ?_|refine Br.y ?_|refine CW.s ?_);conv=>whnf)
   refine Ru.aa2 hc ?_;conv=>whnf
   refine Ru.fN ?_;intro g9 w2 hg9 gO r9 k2;conv=>whnf
   refine Ru.uo r9 ?_;intro w3 r9 k3;have q3:Aa [] wr w3:=k2.then k3 (fun x hx=>.inr (by rw[List.mem_singleton.1 hx,hg9];exact Nat.le_refl _));conv=>whnf
   refine Ru.zu r9 ?_;conv=>whnf
   refine Ca.of (aa3 f w3) ?_;rintro _ w4 ⟨rfl,k4⟩;have r9:=r9.ab k4 (by simp);conv=>whnf
   refine⟨fun hs=>?_,fun hs=>?_⟩
   ·conv=>whnf
    repeat ((first|(refine Ld.row r9 (by omega) ?_)|refine Ar.la ?_);conv=>whnf)
    exact⟨i+1,⟨av,(kk.trans q3).trans k4⟩,⟨rfl,rfl,vi (bq.trans (if_pos hs)).symm,rfl,trivial⟩,by simp only;omega⟩
   ·conv=>whnf
    repeat (refine Ar.la ?_;conv=>whnf)
    exact⟨i+1,⟨av,(kk.trans q3).trans k4⟩,⟨rfl,rfl,vi (bq.trans (if_neg (by rw[hs];simp))).symm,rfl,trivial⟩,by simp only;omega⟩
  ·obtain rfl:i=L.length:=by omega
   rw[List.take_length] at hs;have e:eB (L.take L.length) t=eB L t:=by rw[List.take_length]
   generalize eB L t=s at *;generalize eB (L.take L.length) t=s2 at *;subst e;conv=>whnf
   repeat ((first|refine Ar.la ?_|refine Br.n ?_|refine CW.s ?_);conv=>whnf)
   exact⟨rfl,rfl,kk⟩
end
section
open Go.RowKit
theorem acX(w:World)(p:Nat)(hp:p<96):Spec Tryz.prog 180 #[.int .i64 p] w fun v w'=>v=.bool true/\w=w':=by
 refine spec_of_wpE (T:=tt) ai func180 rfl (by decide +kernel) ntmps180 (by simp) ?_;conv=>whnf
 repeat ((first|refine Br.t ?_|refine Pk.t ?_);conv=>whnf)
 exact⟨rfl,vb (by simp;omega),rfl⟩
theorem qL(w:World)(b i:Nat)(hb:b<12)(hi:i<=8):Spec Tryz.prog 157 #[.int .i64 b,.int .i64 i] w fun v w'=>v=(if i<8 then .tuple #[.int .i64 ((b*8+i:Nat):Int),al 0] else .tuple #[.int .i64 0,al 1])/\w=w':=by
 refine spec_of_wpE (T:=tt) ai func157 rfl (by decide +kernel) ntmps157 (by simp) ?_;by_cases h:i<8
 ·rw[if_pos h];conv=>whnf
  repeat ((first|refine Br.f ?_|refine Pk.f ?_|refine Ar.la ?_|refine Br.n ?_|refine CW.s ?_);conv=>whnf)
  exact⟨rfl,by rw[show((b*8+i:Nat):Int)=(b:Int)*8+i by omega];rfl,rfl⟩
 ·rw[if_neg h];conv=>whnf
  repeat ((first|refine Br.f ?_|refine Pk.f ?_|refine Br.y ?_|refine Br.n ?_|refine CW.s ?_);conv=>whnf)
  exact⟨rfl,rfl,rfl⟩
theorem aa6(w:World)(p:Nat)(hp:p<96):Spec Tryz.prog 170 #[.int .i64 p] w fun v w'=>v=.tuple #[.int .i64 ((p/8:Nat):Int),.int .i64 ((p%8:Nat):Int),al 0]/\w=w':=by
 refine spec_of_wpE (T:=tt) ai func170 rfl (by decide +kernel) ntmps170 (by simp) ?_;conv=>whnf
 repeat (refine CW.s ?_;conv=>whnf)
 refine Ca.of (acX w p hp) ?_;rintro _ _ ⟨rfl,rfl⟩;conv=>whnf
 repeat ((first|refine Br.f ?_|refine Dv.q ?_|refine Dv.r ?_);conv=>whnf)
 exact⟨rfl,by rw[show((p/8:Nat):Int)=(p:Int)/8 by omega,show((p%8:Nat):Int)=(p:Int)%8 by omega];rfl,rfl⟩
def aR(p o:Nat):Bool:=decide (o=24)||decide (p%8<6)
theorem aa7(w:World)(p o:Nat)(hp:p<96)(ho:o<=24):Spec Tryz.prog 177 #[.int .i64 p,.int .i64 o] w fun v w'=>v=.tuple #[.bool (aR p o),al 0]/\w=w':=by
 refine spec_of_wpE (T:=tt) ai func177 rfl (by decide +kernel) ntmps177 (by simp) ?_;conv=>whnf
 repeat (refine CW.s ?_;conv=>whnf)
 refine Ca.of (acX w p hp) ?_;rintro _ _ ⟨rfl,rfl⟩;unfold aR;by_cases h:o=24
 ·subst h;conv=>whnf
  repeat ((first|refine Br.t ?_|refine Br.f ?_|refine Pk.f ?_|refine Pk.t ?_);conv=>whnf)
  exact⟨rfl,rfl,rfl⟩
 ·conv=>whnf
  repeat ((first|refine Br.f ?_|refine Pk.f ?_|refine Dv.r ?_|refine Br.n ?_);conv=>whnf)
  refine⟨rfl,?_,rfl⟩;have e:decide ((p:Int)%8<6)=decide (p%8<6):=decide_eq_decide.2 (by omega);simp[oneOf,h,e,fX]
theorem ani(w:World)(p:Nat)(hp:p<96):Spec Tryz.prog 141 #[.int .i64 p,.int .i64 1] w fun v w'=>v=.tuple #[.int .i64 (((p+1)%96:Nat):Int),al 0]/\w=w':=by
 refine spec_of_wpE (T:=tt) ai func141 rfl (by decide +kernel) ntmps141 (by simp) ?_;conv=>whnf
 repeat (refine CW.s ?_;conv=>whnf)
 refine Ca.of (acX w p hp) ?_;rintro _ _ ⟨rfl,rfl⟩;conv=>whnf
 repeat ((first|refine Br.f ?_|refine Ar.la ?_|refine Dv.r ?_);conv=>whnf)
 exact⟨rfl,by rw[show(((p+1)%96:Nat):Int)=((p:Int)+1%96+96)%96 by omega];rfl,rfl⟩
/-! The table of the blocks. -/
def kc(st:Nat->Nat)(pn:Nat)(j:Nat):Value:=if j<12 then .int .i64 (st j:Nat) else .int .i64 (pn:Nat)
def Aj(w:World)(p:Nat)(st:Nat->Nat)(pn:Nat):Prop:=Row w p 220 13 (kc st pn)
theorem uv(st:Nat->Nat)(pn:Nat){b:Nat}(s:Nat)(hb:b<12)(j:Nat)(hj:j<13):put (kc st pn) b (.int .i64 (s:Nat)) j=kc (ah st b s) pn j:=by
 unfold put kc ah;by_cases h:j=b
 ·subst h;simp[hb]
 ·simp[h]
theorem ahV(st:Nat->Nat)(pn n:Nat)(j:Nat)(hj:j<13):put (kc st pn) 12 (.int .i64 (n:Nat)) j=kc st n j:=by
 unfold put kc;by_cases h:j=12
 ·subst h;simp
 ·rw[if_neg h,if_pos (by omega),if_pos (by omega)]
section
variable{w:World}{p:Nat}{st:Nat->Nat}{pn:Nat}
theorem Aj.cst(r:Aj w p st pn){b:Nat}(hb:b<12):w.cell? ⟨p,b,none⟩=some (.int .i64 (st b:Nat)):=by
 have:=Row.cell r b (by omega);rw[this];unfold kc;rw[if_pos hb]
theorem Aj.cpn(r:Aj w p st pn):w.cell? ⟨p,12,none⟩=some (.int .i64 (pn:Nat)):=Row.cell r 12 (by omega)
theorem anj(b:Nat)(hb:b<12):Spec Tryz.prog 178 #[.int .i64 b] w fun v w'=>v=.bool true/\w=w':=by
 refine spec_of_wpE (T:=tt) ai func178 rfl (by decide +kernel) ntmps178 (by simp) ?_;conv=>whnf
 repeat ((first|refine Br.t ?_|refine Pk.t ?_);conv=>whnf)
 exact⟨rfl,vb (by simp;omega),rfl⟩
def aD(st:Nat->Nat)(b s:Nat):Nat->Nat:=if st b=3/\s≠3 then st else ah st b s
theorem eO(r:Aj w p st pn)(b s:Nat)(hb:b<12)(hs:s<=3):Spec Tryz.prog 133 #[.pointer (some ⟨p,0,none⟩),.int .i64 b,.int .i64 s] w fun v w'=>(∃e,v=al e)/\Aj w' p (aD st b s) pn/\Aa [p] w w':=by
 refine spec_of_wpE (T:=tt) ai func133 rfl (by decide +kernel) ntmps133 (by simp) ?_;conv=>whnf
 repeat (refine CW.s ?_;conv=>whnf)
 refine Ca.of (anj b hb) ?_;rintro _ _ ⟨rfl,rfl⟩;unfold aD;by_cases h3:st b=3
 ·by_cases gg:s=3
  ·subst gg;rw[if_neg (by simp)];conv=>whnf
   repeat ((first|(refine Ix.of b (by omega) (by omega) ?_)|(refine Ld.at (by omega) (r.cst hb) ?_)|refine Br.t ?_|refine Br.f ?_|refine Pk.f ?_|refine Pk.t ?_|refine Br.y ?_);conv=>whnf)
   refine Sd.rowAt r b (by omega) (by omega) rfl ?_;intro w2 r2 k2;conv=>whnf
   exact⟨rfl,⟨0,rfl⟩,r2.congr (fun j hj=>uv st pn 3 hb j hj),k2⟩
  ·rw[if_pos ⟨h3,gg⟩];conv=>whnf
   repeat ((first|(refine Ix.of b (by omega) (by omega) ?_)|(refine Ld.at (by omega) (r.cst hb) ?_)|refine Br.t ?_|refine Br.f ?_|refine Pk.f ?_|refine Pk.t ?_|refine Br.y ?_|refine Br.n ?_|refine Br.nn ?_);conv=>whnf)
   exact⟨rfl,⟨12,rfl⟩,r,Aa.refl _ _⟩
 ·rw[if_neg (fun e=>h3 e.1)];conv=>whnf
  repeat ((first|(refine Ix.of b (by omega) (by omega) ?_)|(refine Ld.at (by omega) (r.cst hb) ?_)|refine Br.f ?_|refine Pk.f ?_|refine Br.n ?_);conv=>whnf)
  refine Sd.rowAt r b (by omega) (by omega) rfl ?_;intro w2 r2 k2;conv=>whnf
  exact⟨rfl,⟨0,rfl⟩,r2.congr (fun j hj=>uv st pn s hb j hj),k2⟩
def cP(st:Nat->Nat)(s:Nat):Nat->Nat
 |0=>0
 |n+1=>cP st s n+(if st n=s then 1 else 0)
def au(st:Nat->Nat)(s:Nat):Nat:=cP st s 12
theorem de(st:Nat->Nat)(s:Nat):∀n,cP st s n<=n
 |0=>Nat.le_refl _
 | n+1=>by
  have:=de st s n;unfold cP;split<;>omega
theorem ak1:(Tryz.prog.info? 70).map (·.size)=some 12:=by kernel_rfl
theorem iV(r:Aj w p st pn)(s:Nat):Spec Tryz.prog 144 #[.pointer (some ⟨p,0,none⟩),.int .i64 s] w fun v w'=>v=.int .i64 (au st s:Nat)/\w=w':=by
 refine spec_of_wpE (T:=tt) ai func144 rfl (by decide +kernel) ntmps144 (by simp) ?_;conv=>whnf
 repeat (refine CW.s ?_;conv=>whnf)
 refine Ru.cx r underlying70 rfl ak1 (by omega) (q:=fun j=>.int .i64 (st j:Nat)) (fun j hj=>by
  show kc st pn (0+j)=_;unfold kc;rw[Nat.zero_add,if_pos hj]) ?_
 conv=>whnf
 refine CW.loop (ι:=Nat) (fun i w'=>i<=12/\w'=w) (fun i=>[(1,.int .i64 s),(5,.int .i64 (cP st s i:Nat)),(11,agg 12 (fun j=>.int .i64 (st j:Nat))),(12,.int .i64 i)]) (fun i=>12-i) 0 ai ⟨by omega,rfl⟩ ⟨rfl,rfl,rfl,rfl,trivial⟩ ?_;rintro i wr ⟨hi,rfl⟩;by_cases hl:i<12
 ·have hd:cP st s (i+1)=cP st s i+(if st i=s then 1 else 0):=rfl;have hle:=de st s i;generalize cP st s i=n at *;by_cases he:st i=s
  ·rw[if_pos he] at hd;conv=>whnf
   repeat ((first|(refine Ru.idx underlying70 hl (by kernel_rfl) ?_)|refine Ar.la ?_|refine Br.y ?_|refine CW.s ?_);conv=>whnf)
   exact⟨i+1,⟨hl,rfl⟩,⟨rfl,vi (by rw[hd];omega),rfl,vi (by omega),trivial⟩,by simp only;omega⟩
  ·rw[if_neg he] at hd;conv=>whnf
   repeat ((first|(refine Ru.idx underlying70 hl (by kernel_rfl) ?_)|refine Ar.la ?_|refine Br.y ?_|refine Br.n ?_|refine CW.s ?_);conv=>whnf)
   exact⟨i+1,⟨hl,rfl⟩,⟨rfl,vi (by rw[hd];omega),rfl,vi (by omega),trivial⟩,by simp only;omega⟩
 ·obtain rfl:i=12:=by omega
  conv=>whnf
  repeat ((first|refine Br.f ?_|refine CW.s ?_);conv=>whnf)
  exact⟨rfl,rfl,rfl⟩
def ax(st:Nat->Nat):Bool:=decide (2<au st 3)
def lx(st:Nat->Nat):Nat:=if ax st then 0 else 1+2*(2-au st 3)
def fO(st:Nat->Nat):Bool:=decide (lx st<au st 0)
theorem eQ(r:Aj w p st pn):Spec Tryz.prog 100 #[.pointer (some ⟨p,0,none⟩)] w fun v w'=>v=.bool (ax st)/\w=w':=by
 refine spec_of_wpE (T:=tt) ai func100 rfl (by decide +kernel) ntmps100 (by simp) ?_;conv=>whnf
 refine Ca.of (iV r 3) ?_;rintro _ _ ⟨rfl,rfl⟩;conv=>whnf
 exact⟨rfl,vb (by unfold ax;exact decide_eq_decide.2 (by omega)),rfl⟩
theorem ahW(r:Aj w p st pn):Spec Tryz.prog 184 #[.pointer (some ⟨p,0,none⟩)] w fun v w'=>v=.int .i64 (lx st:Nat)/\w=w':=by
 have hle:=de st 3 12;have ar5:au st 3<=12:=hle;refine spec_of_wpE (T:=tt) ai func184 rfl (by decide +kernel) ntmps184 (by simp) ?_;conv=>whnf
 repeat (refine CW.s ?_;conv=>whnf)
 refine Ca.of (eQ r) ?_;rintro _ _ ⟨rfl,rfl⟩;unfold lx
 cases hw:ax st with
 | true =>
  conv=>whnf
  repeat (refine Br.t ?_;conv=>whnf)
  exact⟨rfl,rfl,rfl⟩
 | false =>
  have h2:¬2<au st 3:=of_decide_eq_false hw;conv=>whnf
  repeat (refine Br.f ?_;conv=>whnf)
  refine Ca.of (iV r 3) ?_;rintro _ _ ⟨rfl,rfl⟩;conv=>whnf
  repeat (refine Ar.la ?_;conv=>whnf)
  exact⟨rfl,vi (by simp;omega),rfl⟩
theorem uw(r:Aj w p st pn):Spec Tryz.prog 154 #[.pointer (some ⟨p,0,none⟩)] w fun v w'=>v=.bool (fO st)/\w=w':=by
 refine spec_of_wpE (T:=tt) ai func154 rfl (by decide +kernel) ntmps154 (by simp) ?_;conv=>whnf
 refine Ca.of (iV r 0) ?_;rintro _ _ ⟨rfl,rfl⟩;conv=>whnf
 refine Ca.of (ahW r) ?_;rintro _ _ ⟨rfl,rfl⟩;conv=>whnf
 exact⟨rfl,vb (by unfold fO;exact decide_eq_decide.2 (by omega)),rfl⟩
def fP(st:Nat->Nat)(pn:Nat):Nat->Option Nat
 |0=>none
 |n+1=>if st ((pn+(12-(n+1)))%12)=0 then some ((pn+(12-(n+1)))%12) else fP st pn n
def takeN(st:Nat->Nat)(pn:Nat):Option Nat:=fP st pn 12
def AB(w:World)(p:Nat)(st:Nat->Nat)(pn:Nat)(v:Value)(w':World):Prop:=match takeN st pn with
 |some b=>v=.tuple #[.int .i64 (b:Nat),al 0]/\Aj w' p (ah st b 1) (b+1)/\Aa [p] w w'
 |none=>v=.tuple #[.int .i64 0,al 10]/\w=w'
theorem df{st:Nat->Nat}{pn:Nat}:∀ {n b:Nat},fP st pn n=some b->b<12/\st b=0
 |0,b,h=>by cases h
 | n+1,b,h=>by
  unfold fP at h;split at h
  ·rename_i h0
   cases h
   exact⟨Nat.mod_lt _ (by omega),h0⟩
  ·exact df h
theorem mN(r:Aj w p st pn)(hpn:pn<=12):Spec Tryz.prog 147 #[.pointer (some ⟨p,0,none⟩)] w (AB w p st pn):=by
 refine spec_of_wpE (T:=tt) ai func147 rfl (by decide +kernel) ntmps147 (by simp) ?_;conv=>whnf
 repeat (refine CW.s ?_;conv=>whnf)
 refine CW.loop (ι:=Nat) (fun i w'=>i<=12/\w'=w/\takeN st pn=fP st pn (12-i)) (fun i=>[(0,.pointer (some ⟨p,0,none⟩)),(6,.int .i64 i)]) (fun i=>12-i) 0 ai ⟨by omega,rfl,rfl⟩ ⟨rfl,rfl,trivial⟩ ?_;rintro i wr ⟨hi,rfl,ht⟩;by_cases hl:i<12
 ·have hm:(pn+i)%12<12:=Nat.mod_lt _ (by omega);have e:fP st pn (12-i)=if st ((pn+i)%12)=0 then some ((pn+i)%12) else fP st pn (12-(i+1)):=by
   rw[show 12-i=(12-(i+1))+1 by omega];show(if st ((pn+(12-((12-(i+1))+1)))%12)=0 then _ else _)=_;rw[show 12-((12-(i+1))+1)=i by omega]
  have em:((pn:Int)+i)%12=(((pn+i)%12:Nat):Int):=by omega
  rw[e] at ht;generalize (pn+i)%12=b at *;by_cases h0:st b=0
  ·rw[if_pos h0] at ht;conv=>whnf
   repeat ((first|(refine Ld.at (by omega) r.cpn ?_)|(refine Ix.of b (by omega) (by omega) ?_)|(refine Ld.at (by omega) (r.cst hm) ?_)|refine Ar.la ?_|refine Dv.r ?_|refine Br.y ?_|refine CW.s ?_);conv=>whnf)
   refine Sd.rowAt r b (by omega) (by omega) rfl ?_;intro w2 r2 k2;have r2:Aj w2 p (ah st b 1) pn:=r2.congr (fun j hj=>uv st pn 1 hm j hj);conv=>whnf
   repeat (refine Ar.la ?_;conv=>whnf)
   refine Sd.rowAt r2 12 (by omega) (by omega) rfl ?_;intro w3 r3 k3;conv=>whnf
   refine⟨rfl,?_⟩;unfold AB;rw[ht];refine⟨by rw[em];rfl,Row.congr r3 (fun j hj=>?_),k2.trans k3⟩;have e2:((pn:Int)+i)%12+1=((b+1:Nat):Int):=by omega
   rw[e2];exact ahV _ pn (b+1) j hj
  ·rw[if_neg h0] at ht;conv=>whnf
   repeat ((first|(refine Ld.at (by omega) r.cpn ?_)|(refine Ix.of b (by omega) (by omega) ?_)|(refine Ld.at (by omega) (r.cst hm) ?_)|refine Ar.la ?_|refine Dv.r ?_|refine Br.y ?_|refine Br.n ?_|refine CW.s ?_);conv=>whnf)
   exact⟨i+1,⟨hl,rfl,ht⟩,⟨rfl,vi (by omega),trivial⟩,by simp only;omega⟩
 ·obtain rfl:i=12:=by omega
  conv=>whnf
  repeat ((first|refine Br.f ?_|refine CW.s ?_);conv=>whnf)
  refine⟨rfl,?_⟩;unfold AB;rw[ht];exact⟨rfl,rfl⟩
end
end
end Go.Proofs.YtaeikigfgfcadaaGreat
