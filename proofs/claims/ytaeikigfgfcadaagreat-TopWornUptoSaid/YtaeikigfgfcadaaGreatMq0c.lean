/- Texts behind one another: Data, PutGet, App0, EqS, Tag, TagEnc, TagDec, Media, TgMath, Pgm, PgmW, Near, Abs, MedE, MedA, Claim, ByPlace, Newest, Claim2, Claim3, Claim4, ClaimMath, ClN, Pool, Map. -/
import Derived.Deep.AppendSrc
import Derived.Laws.CopyRow
import Derived.Laws.StructEq
import Derived.Deep.RegionHeld3
import Derived.Test.YtaeikigfgfcadaaGreatMq0a
import Derived.Test.YtaeikigfgfcadaaGreatMq0b
namespace Go.Proofs.YtaeikigfgfcadaaGreat
open Go.Proofs.Tryz
set_option maxHeartbeats 4000000
set_option maxRecDepth 20000
set_option linter.unusedVariables false
set_option linter.unusedSimpArgs false
set_option linter.unnecessarySimpa false
section
open Go.RowKit
attribute [local irreducible] GF.pw GF.lg GF.mul GF.inv GF.xt
theorem aln(w:World):(Instr.alloc 37 true (.tuple #[])).run Tryz.prog w=.ok (.pointer (some ⟨w.heap.size,0,none⟩)) (w.alloc (.cells #[.slice none 0 0] 37)):=by kernel_rfl
theorem alo(w:World):(Instr.alloc 3 true (.tuple #[])).run Tryz.prog w=.ok (.pointer (some ⟨w.heap.size,0,none⟩)) (w.alloc (.cells #[.int .i64 0] 3)):=by kernel_rfl
def Near(V W:Nat->Nat):Prop:=(∀i,V i<256)/\GF.Ay V/\GF.cm V W<=2
def Dd(W:Nat->Nat):Prop:=∀C:Nat->Nat,(∀i,C i<256)->GF.Ay C->2<GF.cm C W
def Cd(w:World)(g:Nat)(p:Nat->Nat)(v:Value)(w':World):Prop :=
 FK w g w'/\((∃(O:Option Addr) (oc:Nat) (V:Nat->Nat->Nat) (m:Int),(∀k,k<3->Near (V k) (gk p k))/\v=.tuple #[.slice O 174 oc,.int .i64 m,ak 0]/\(∀x,x∈aR O->w.heap.size<=x)/\Ly w' 5 1 O 174 oc (fun j=>.int .u8 (V (j/58) (j%58):Nat))) \/
  (v=.tuple #[.slice none 0 0,.int .i64 0,ak 5]/\∃k,k<3/\Dd (gk p k)))
structure Ct(w:World)(N0 f c g h xf xr xn xe xo xm pb o d:Nat)(p:Nat->Nat)(pre:List (Fin 3))(W:World):Prop where
 sz:N0<=W.heap.size
 fk:FK w g W
 jf:Frm W f c g h
 rxf:Row W xf 248 1 (fun _=>.pointer (some ⟨f,0,none⟩))
 vJ:Row W xr 37 1 (fun _=>.slice none 0 0)
 rxn:Row W xn 3 1 (fun _=>.int .i64 0)
 yC:Row W xe 33 1 (fun _=>.nilIface)
 rq:AH W (some ⟨pb,o,none⟩) 192 p
 out:∃(O:Option Addr) (oc:Nat) (V:Nat->Nat->Nat) (m:Int),Row W xo 37 1 (fun _=>.slice O (pre.length*58) oc)/\Ly W 5 1 O (pre.length*58) oc (fun j=>.int .u8 (V (j/58) (j%58):Nat))/\(∀x,x∈aR O->N0<=x)/\Row W xm 3 1 (fun _=>.int .i64 m)/\∀k (hk:k<pre.length),Near (V k) (gk p pre[k].1)
structure CR(w:World)(N0 g xr xn xe:Nat)(p:Nat->Nat)(pre:List (Fin 3))(W:World):Prop where
 sz:N0<=W.heap.size
 fk:FK w g W
 vJ:Row W xr 37 1 (fun _=>.slice none 0 0)
 rxn:Row W xn 3 1 (fun _=>.int .i64 0)
 yC:Row W xe 33 1 (fun _=>ak 5)
 ck:∃k,k<3/\Dd (gk p k)
theorem A5.held{P:Program}{T:TT}{n m:Nat}(S:World->Prop)(D:List Nat)(p:A2){id:Nat}{l:List Oper}{f:Fr}{ds:List Deferred}{w:World}{Q:Exit->Fr->List Deferred->World->Prop}(hT:TT.ok P T=true)(hm:P.follows .mixedOrders=true)(hs:Region.noSelect l.toArray=true)
  (hp:fw l.toArray D true p l.length (Array.replicate l.length false)=true) (hS:S (w.drewN 1)) (h:evP P T n S D l p f (w.drewN 1) fun f' w'=>Q .normal f' ds w'):A5 Fence.wide m P n (.region id l.toArray true) Q f ds w:=⟨fun a ha=>wpIn_wide.2 (by
 refine wp_region_any hm (oe (S:=S) (D:=D) _ _ _ _ ?_);have e:l.toArray.size=l.length:=by simp
 rw[e];exact dR (ops:=l.toArray) hT hs (fun c a w hq=>hq.1) p _ _ hp h ha (fun _=>hS) fun f' a' w' hk hf=>⟨trivial,f',ds,hf,hk⟩)⟩
theorem an9:∀k (hk:k<3),((upto 3 (by decide) 3)[k]'(by rw[dF];exact hk)).1=k:=by decide
theorem eR{W:World}{row:Option Nat}{B x:Nat}(hr:∀r,row=some r->B<=r/\∃o:Obj,W.heap[r]?=some o/\o.isCells=false)(hx:∀o,W.heap[x]?=some o->o.isCells=true):x∉row.toList:=fun hm=>by
 cases row with
 |none=>cases hm
 | some r =>
  obtain rfl:x=r:=by simpa using hm
  obtain⟨_,o,h1,h2⟩:=hr _ rfl;rw[hx o h1] at h2
  cases h2
theorem ag6{W:World}{row:Option Nat}{B:Nat}(hr:∀r,row=some r->B<=r/\∃o:Obj,W.heap[r]?=some o/\o.isCells=false):∀x,x∈row.toList->B<=x:=fun x hx=>by
 cases row with
 |none=>cases hx
 | some r =>
  obtain rfl:x=r:=by simpa using hx
  exact(hr _ rfl).1
theorem ag7{W:World}{b o n:Nat}{F:Nat->Value}(r:Rd W (some ⟨b,o,none⟩) n F)(hn:0<n):∀q,W.heap[b]?=some q->q.isCells=true:=fun q hq=>by
 obtain⟨b2,o2,e,hc⟩:=r hn
 cases e
 obtain⟨q2,h1,h2⟩:=cells_of_cell (hc 0 hn);rw[hq] at h1
 cases h1
 exact h2
theorem aka(w:World)(f c g h d:Nat)(A:Option Addr)(p:Nat->Nat)(hp:∀j,p j<256)(r:AH w A 256 p)(hd:256<=d)(hA:∀a,A=some a->a.block≠g)(H:Frm w f c g h) :
  Spec Tryz.prog 169 #[.pointer (some ⟨f,0,none⟩),.slice A 256 d] w (Cd w g p):=by
 obtain⟨pb,o,rfl,hpc⟩:=r (by omega);have bG:pb≠g:=hA _ rfl;have hpl:pb<w.heap.size:=aI (hpc 0 (by omega));refine spec_of_wpI (T:=tt) 3 ah func169 rfl (by decide +kernel) ntmps169 (by simp) ?_;conv=>whnf
 refine Ru.qn (ady _ _) ?_;intro xf w1 hxf du rxf k1;conv=>whnf
 refine Ru.qn (aln _) ?_;intro xr w2 hxr fE vJ k2;conv=>whnf
 refine Ru.qn (alo _) ?_;intro xn w3 hxn gG rxn k3;conv=>whnf
 refine Ru.qn (adz _) ?_;intro xe w4 hxe ru yC k4;conv=>whnf
 repeat ((first|(refine A5.seq ah jP ?_)|refine Br.f ?_);conv=>whnf)
 refine Ru.qn (aln _) ?_;intro xo w5 hxo wu rxo k5;conv=>whnf
 refine Ru.qn (alo _) ?_;intro xm w6 hxm hs6 rxm k6;conv=>whnf
 refine Sd.rowAt rxm 0 (by omega) (by omega) rfl ?_;intro zz rxm2 k6b;conv=>whnf
 repeat ((first|(refine A5.seq ah jP ?_)|(refine Ru.aeN underlying37 pj (h:=192) (by omega) ?_));conv=>whnf)
 refine Ca.of (wF zz _ _ _ _) ?_;rintro _ w8 ⟨rfl,hw8⟩;conv=>whnf
 have k06:=((((k1.trans k2).trans k3).trans k4).trans k5).trans k6;have aq8:=k6b.size;have qm:=H.iB.fs.lt;have tC:=H.row.lt;have hcl:=H.iB.row.lt;have hhl:=H.iB.gen.lt;have k0b:Aa [] w zz:=k06.then k6b (fun x hx=>.inr (by rw[List.mem_singleton.1 hx];omega));have apS:w8.heap.size=zz.heap.size+2:=by rw[hw8];simp
 have rb:Row w8 zz.heap.size 37 1 (fun _=>.slice (some ⟨pb,o,none⟩) 192 d):=by
  rw[hw8];exact(aeW zz _ _).ab ((Aa.refl [] _).alloc _) (by simp)
 have rs:Row w8 (zz.heap.size+1) 3 1 (fun _=>.int .i64 64):=by
  rw[hw8];have:=aeW (zz.alloc (.cells #[.slice (some ⟨pb,o,none⟩) 192 d] 37)) 3 (.int .i64 64);simpa using this
 have kb8:Aa [] zz w8:=by
  rw[hw8];exact((Aa.refl [] _).alloc _).alloc _
 clear hw8;have k08:=k0b.trans kb8;have yD:Ct w w8.heap.size f c g h xf xr xn xe xo xm pb o d p [] w8:=by
  have H8:=H.aj k08 (by simp) (by simp) (by simp) (by simp);have k5b:Aa [xm] w5 w8:=((k6.mono (by simp)).trans k6b).trans (kb8.mono (by simp));have k4b:Aa [xm] w4 w8:=(k5.mono (by simp)).trans k5b;have k3b:Aa [xm] w3 w8:=(k4.mono (by simp)).trans k4b;have k2b:Aa [xm] w2 w8:=(k3.mono (by simp)).trans k3b;have k1b:Aa [xm] w1 w8:=(k2.mono (by simp)).trans k2b
  exact⟨Nat.le_refl _,⟨H8.iB.fs,k08.mono (by simp)⟩,H8,rxf.ab k1b (by simp;omega),vJ.ab k2b (by simp;omega),rxn.ab k3b (by simp;omega),yC.ab k4b (by simp;omega),(Rd.oR r (by omega)).aj k08,none,0,fun _ _=>0,0,rxo.ab k5b (by simp;omega),Ly.nil _ _ _ _,(fun x hx=>by cases hx),(rxm2.ab kb8 (by simp)).congr (fun i hi=>by
   obtain rfl:i=0:=by omega
   rfl),fun i hi=>absurd hi (by simp)⟩
 refine A5.range (α:=Fin 3) ah (by omega) (gf:=209) (lb := #[.pointer (some ⟨zz.heap.size+1,0,none⟩),.pointer (some ⟨zz.heap.size,0,none⟩)]) rfl (enters_of func209 (by kernel_rfl) rfl)
  (tA Fence.wide 2 trivial rfl (by omega) zz.heap.size (zz.heap.size+1) pb o d (by omega) w8 (by omega) (by omega) (rb.cell 0 (by omega)) (rs.cell 0 (by omega)))
  (fun h k=>B6.trans h k) ?kb (fun x=>rfl) (Ct w w8.heap.size f c g h xf xr xn xe xo xm pb o d p) (CR w w8.heap.size g xr xn xe p) ?own ?ownx yD
  (fun a x=>((({ a with defers:=[] }:Act).put (some 21) (.int .i64 (x.1:Int))).put (some 22) (.slice (some ⟨pb,o+x.1*64,none⟩) ((x.1+1)*64-x.1*64) (d-x.1*64))).put (some 10) (.slice (some ⟨pb,o+x.1*64,none⟩) ((x.1+1)*64-x.1*64) (d-x.1*64)))
  (fun x=>[(10,.slice (some ⟨pb,o+x.1*64,none⟩) ((x.1+1)*64-x.1*64) (d-x.1*64)),(2,.pointer (some ⟨xf,0,none⟩)),(4,.pointer (some ⟨xr,0,none⟩)),(5,.pointer (some ⟨xn,0,none⟩)),(6,.pointer (some ⟨xe,0,none⟩)),(7,.pointer (some ⟨xo,0,none⟩)),(8,.pointer (some ⟨xm,0,none⟩))])
  ?agr ?assign ?body ?done ?stop
 case kb =>
  intro W l o o' hl _ _ _;have h1:∀i,i<l->(W.putObj l o').cell? ⟨i,0,none⟩=W.cell? ⟨i,0,none⟩:=fun i hi=>World.cell?_of_block (w:=W) (World.putObj_heap_other (by show _≠_;first|exact Nat.ne_of_lt hi|exact Nat.ne_of_gt hi));exact⟨h1 zz.heap.size (by omega),h1 (zz.heap.size+1) (by omega)⟩
 case own =>
  intro pre W W' row hI hg hr;have k:=gm hg;have hB:=ag6 hr;obtain⟨O,oc,V,m,ro,lo,hO,rm,hw⟩:=hI.out;have hg':=eR hr (FS.cells hI.fk.fs)
  exact⟨Nat.le_trans hI.sz k.size,⟨hI.fk.fs.ab k hg',hI.fk.kp.then k (fun x hx=>.inr (by have:=hB x hx;omega))⟩,hI.jf.aj k (eR hr (aK hI.jf.row)) (eR hr (aK hI.jf.iB.row)) hg' (eR hr (aK hI.jf.iB.gen)),hI.rxf.ab k (eR hr (aK hI.rxf)),hI.vJ.ab k (eR hr (aK hI.vJ)),hI.rxn.ab k (eR hr (aK hI.rxn)),hI.yC.ab k (eR hr (aK hI.yC)),hI.rq.ab k (fun a e=>by cases e;exact eR hr (ag7 hI.rq (by omega))),
   O,oc,V,m,ro.ab k (eR hr (aK ro)),lo.ab k (fun x hx=>eR hr (jQ lo x hx)),hO,rm.ab k (eR hr (aK rm)),hw⟩
 case ownx =>
  intro pre W W' row hI hg hr;have k:=gm hg;have hB:=ag6 hr;exact⟨Nat.le_trans hI.sz k.size,⟨hI.fk.fs.ab k (eR hr (FS.cells hI.fk.fs)),hI.fk.kp.then k (fun x hx=>.inr (by have:=hB x hx;omega))⟩,hI.vJ.ab k (eR hr (aK hI.vJ)),hI.rxn.ab k (eR hr (aK hI.rxn)),hI.yC.ab k (eR hr (aK hI.yC)),hI.ck⟩
 case agr =>
  intro a x ha;have h0:As 44 _ { a with defers:=[] }:=⟨ha.size,rfl,ha.get⟩;refine((((h0.put 21 (by decide) _).put 22 (by decide) _).put 10 (by decide) _)).forget (mJ ?_);exact⟨rfl,rfl,rfl,rfl,rfl,rfl,rfl,trivial⟩
 case assign =>
  intro a ha l x W K hK;have sQ:22<a.tmps.size:=by rw[ha.size];decide
  have fT:Array.foldl (fun(t:Array Value) (x:Tmp×Value)=>match x with|(p,v)=>t.setIfInBounds p v) a.tmps (#[21,22].zip (aan pb o d x))=(a.tmps.setIfInBounds 21 (.int .i64 (x.1:Int))).setIfInBounds 22 (.slice (some ⟨pb,o+x.1*64,none⟩) ((x.1+1)*64-x.1*64) (d-x.1*64)):=by
   unfold aan;simp
  rw[fT];refine wpIn_region_list ?_;unfold wpListIn;rw[if_pos (by rfl)];refine Bb.wpIn (iC l) (aD (v:=.slice (some ⟨pb,o+x.1*64,none⟩) ((x.1+1)*64-x.1*64) (d-x.1*64)) (w':=W) (by simp) ?_ ?_)
  ·have e:((a.tmps.setIfInBounds 21 (.int .i64 (x.1:Int))).setIfInBounds 22 (.slice (some ⟨pb,o+x.1*64,none⟩) ((x.1+1)*64-x.1*64) (d-x.1*64))).getD 22 undef=.slice (some ⟨pb,o+x.1*64,none⟩) ((x.1+1)*64-x.1*64) (d-x.1*64):=by
    rw[Array.getD_eq_getD_getElem?,Array.getElem?_setIfInBounds_self_of_lt (by simpa using sQ)];rfl
   exact congrArg (fun v=>Result.ok (Next.value v) W) e
  ·exact hK
 case body =>
  intro l pre x W hI hl;obtain⟨O,oc,V,m,ro,lo,hO,rm,hw⟩:=hI.out;have hx3:=x.2;have rx:AH W (some ⟨pb,o+x.1*64,none⟩) 64 (gk p x.1):=fun _=>⟨pb,o+x.1*64,rfl,fun j hj=>by
   obtain⟨b2,o2,e3,hc⟩:=hI.rq (by omega)
   cases e3
   have:=hc (x.1*64+j) (by omega);rw[<-Nat.add_assoc] at this;exact this⟩
  rw[show(x.1+1)*64-x.1*64=64 by omega];conv=>whnf
  repeat ((first|(refine Ld.row hI.rxf (by decide) ?_)|(refine Ld.row hI.jf.row (by decide) ?_));conv=>whnf)
  refine Ca.of (agT W c g h (d-x.1*64) (some ⟨pb,o+x.1*64,none⟩) (gk p x.1) (fun j=>hp _) rx (by omega) (fun a e=>by cases e;exact bG) hI.jf.iB) ?_;rintro v W1 ⟨f1,hv⟩;rcases hv with⟨b1,e1,Vn,nr,hV,oA,yB,rfl,wd1⟩|⟨rfl,cL⟩
  ·conv=>whnf
   repeat ((first|(refine A5.seq ah (iC l) ?_)|refine Br.f ?_|refine Ru.ai ?_);conv=>whnf)
   have ro1:=ro.ab f1.kp (by simp;omega);have rm1:=rm.ab f1.kp (by simp;omega);have hOg:∀y,y∈aR O->y∉[g]:=fun y hy e=>by
    have:=hO y hy;rw[List.mem_singleton.1 e] at this;omega
   have lo1:=lo.ab f1.kp hOg;refine Ld.row ro1 (by decide) ?_;obtain⟨i0,hi,lZ,lP,l4⟩:=info_parts dQ;conv=>whnf
   refine Bu.append underlying37 hi lZ lP l4 rfl (by omega) lo1 (B:=some ⟨b1,0,none⟩) (m:=58) (d:=58) (fun j=>.int .u8 (Vn j:Nat)) (by rw[Nat.mul_one];exact Rd.oR wd1.u9 (by omega)) (by omega) (fun e=>by cases e) (fun j hj=>rfl) (by simp only[maxLen];omega) (by omega) ?_;intro O' oc' W2 lo2 kA dC iq;have ro2:=ro1.ab kA (Ly.aP lo1 ro1 (by decide));have rm2:=rm1.ab kA (Ly.aP lo1 rm1 (by decide));conv=>whnf
   refine Sd.rowAt ro2 0 (by omega) (by omega) rfl ?_;intro W3 ro3 kB;have rm3:=rm2.ab kB (by simp;omega);conv=>whnf
   refine Ld.row rm3 (by decide) ?_;conv=>whnf
   refine Sd.rowAt rm3 0 (by omega) (by omega) rfl ?_;intro W4 rm4 kC;have ro4:=ro3.ab kC (by simp;omega);conv=>whnf
   have hsW:=hI.sz;have z1:=f1.kp.size;have z2:=kA.size;have z3:=kB.size;have z4:=kC.size;have c0:∀i:Nat,i<1->i=0:=fun i hi=>by omega
   have lG:Aa (g::xo::xm::aR O) W W4:=(((f1.kp.mono (by simp)).trans (kA.mono (by intro x hx;simp[hx]))).trans (kB.mono (by simp))).trans (kC.mono (by simp));have nS:∀y,y≠g->y≠xo->y≠xm->y<w8.heap.size->y∉g::xo::xm::aR O:=fun y h1 h2 h3 h4 hm=>by
    rcases List.mem_cons.1 hm with e|hm
    ·exact h1 e
    ·rcases List.mem_cons.1 hm with e|hm
     ·exact h2 e
     ·rcases List.mem_cons.1 hm with e|hm
      ·exact h3 e
      ·have:=hO y hm;omega
   have nO:∀y,y<w8.heap.size->y∉aR O:=fun y h1 h2=>by have:=hO y h2;omega
   have ag5:Frm W4 f c g h:=((((hI.jf.of f1).aj kA (nO f (by omega)) (nO c (by omega)) (nO g (by omega)) (nO h (by omega))).aj kB (by simp;omega) (by simp;omega) (by simp;omega) (by simp;omega)).aj kC (by simp;omega) (by simp;omega) (by simp;omega) (by simp;omega));refine⟨?_,⟨lG.cell (p:=⟨zz.heap.size,0,none⟩) (by simp only;omega) (nS zz.heap.size (by omega) (by omega) (by omega) (by omega)),lG.cell (p:=⟨zz.heap.size+1,0,none⟩) (by simp only;omega) (nS (zz.heap.size+1) (by omega) (by omega) (by omega) (by omega))⟩,?_⟩
   ·exact(bD _ f1.kp (fun y hy=>by rw[List.mem_singleton.1 hy];exact FS.cells hI.fk.fs)).trans ((bD _ kA (jQ lo1)).trans ((bD _ kB (fun y hy=>by rw[List.mem_singleton.1 hy];exact aK ro2)).trans (bD _ kC (fun y hy=>by rw[List.mem_singleton.1 hy];exact aK rm3))))
   ·refine⟨by omega,⟨ag5.iB.fs,hI.fk.kp.then lG (fun y hy=>?_)⟩,ag5,hI.rxf.ab lG (nS xf (by omega) (by omega) (by omega) (by omega)),hI.vJ.ab lG (nS xr (by omega) (by omega) (by omega) (by omega)),hI.rxn.ab lG (nS xn (by omega) (by omega) (by omega) (by omega)),hI.yC.ab lG (nS xe (by omega) (by omega) (by omega) (by omega)),hI.rq.ab lG (fun a e=>by cases e;exact nS pb bG (by omega) (by omega) (by omega)),
     O',oc',(fun k=>if k=pre.length then Vn else V k),_,?_,?_,?_,rm4.congr (fun i hi=>by rw[c0 i hi];rfl),?_⟩
    ·rcases List.mem_cons.1 hy with e|hy
     ·exact .inl (by simp[e])
     ·rcases List.mem_cons.1 hy with e|hy
      ·exact .inr (by omega)
      ·rcases List.mem_cons.1 hy with e|hy
       ·exact .inr (by omega)
       ·exact .inr (by have:=hO y hy;omega)
    ·rw[List.length_append,show(pre.length+[x].length)*58=pre.length*58+58 by simp;omega];exact ro4.congr (fun i hi=>by rw[c0 i hi];rfl)
    ·rw[List.length_append,show(pre.length+[x].length)*58=pre.length*58+58 by simp;omega];refine((lo2.ab kB (fun y hy e=>Ly.aP lo2 ro2 (by decide) (by rw[List.mem_singleton.1 e] at hy;exact hy))).ab kC (fun y hy e=>Ly.aP lo2 rm2 (by decide) (by rw[List.mem_singleton.1 e] at hy;exact hy))).congr (fun i hi=>?_);simp only[Nat.mul_one] at hi ⊢;by_cases hi2:i<pre.length*58
     ·rw[if_pos hi2,if_neg (by omega)]
     ·rw[if_neg hi2,if_pos (by omega),show i%58=i-pre.length*58 by omega]
    ·intro y hy;rcases dC with e|e
     ·rw[e] at hy;exact hO y hy
     ·rw[e] at hy;rw[List.mem_singleton.1 hy];simp only;omega
    ·intro k hk;rw[List.length_append] at hk;simp only[List.length_singleton] at hk;by_cases hk2:k=pre.length
     ·subst hk2;have e:(pre++[x])[pre.length]'(by simp)=x:=by simp
      rw[e];show Near (if pre.length=pre.length then Vn else V pre.length) _;rw[if_pos rfl];exact⟨hV,oA,yB⟩
     ·show Near (if k=pre.length then Vn else V k) _;rw[if_neg hk2,List.getElem_append_left (by omega)];exact hw k (by omega)
  ·conv=>whnf
   repeat ((first|(refine A5.seq ah (iC l) ?_)|refine Br.t ?_|refine Ru.n1 ?_);conv=>whnf)
   have r1:=hI.vJ.ab f1.kp (by simp;omega);have n1:=hI.rxn.ab f1.kp (by simp;omega);have e1:=hI.yC.ab f1.kp (by simp;omega);refine Sd.rowAt r1 0 (by omega) (by omega) rfl ?_;intro W2 r2 kA;have n2:=n1.ab kA (by simp;omega);have e2:=e1.ab kA (by simp;omega);conv=>whnf
   refine Sd.rowAt n2 0 (by omega) (by omega) rfl ?_;intro W3 n3 kB;have r3:=r2.ab kB (by simp;omega);have e3:=e2.ab kB (by simp;omega);conv=>whnf
   refine Sd.rowAt e3 0 (by omega) (by omega) rfl ?_;intro W4 e4 kC;have r4:=r3.ab kC (by simp;omega);have n4:=n3.ab kC (by simp;omega);conv=>whnf
   have c0:∀i:Nat,i<1->i=0:=fun i hi=>by omega
   have sQ:=hI.sz;have z1:=f1.kp.size;have z2:=kA.size;have z3:=kB.size;have z4:=kC.size;refine⟨(bD _ f1.kp (fun y hy=>by rw[List.mem_singleton.1 hy];exact FS.cells hI.fk.fs)).trans ((bD _ kA (fun y hy=>by rw[List.mem_singleton.1 hy];exact aK r1)).trans ((bD _ kB (fun y hy=>by rw[List.mem_singleton.1 hy];exact aK n2)).trans (bD _ kC (fun y hy=>by rw[List.mem_singleton.1 hy];exact aK e3)))),by omega,⟨((f1.fs.ab kA (by simp;omega)).ab kB (by simp;omega)).ab kC (by simp;omega),(((hI.fk.kp.trans f1.kp).then kA (fun y hy=>.inr (by rw[List.mem_singleton.1 hy];omega))).then kB (fun y hy=>.inr (by rw[List.mem_singleton.1 hy];omega))).then kC (fun y hy=>.inr (by rw[List.mem_singleton.1 hy];omega))⟩,r4.congr (fun i hi=>by rw[c0 i hi];rfl),n4.congr (fun i hi=>by rw[c0 i hi];rfl),e4.congr (fun i hi=>by rw[c0 i hi];rfl),x.1,hx3,cL⟩
 case done =>
  rintro Dn xs W hDn rfl hI hK;obtain⟨O,oc,V,m,ro,lo,hO,rm,hw⟩:=hI.out;rw[dF] at ro lo;conv=>whnf
  refine A5.held (fun w'=>Row w' xo 37 1 (fun _=>.slice O (3*58) oc)/\Row w' xm 3 1 (fun _=>.int .i64 m)) [4] (.take 0 (.take 1 (.one 2 (.one 3 (.one 4 .done))))) ah (by kernel_rfl) (by kernel_rfl) (by kernel_rfl) ⟨ro.drewN 1,rm.drewN 1⟩ ?_;have k0:Aa [] W (W.drewN 1):=(Aa.refl _ _).drewN 1;have hK':(W.drewN 1).heap[Dn]?=some (.deferred (some [])):=hK;have fk':FK w g (W.drewN 1):=⟨hI.fk.fs.drewN 1,hI.fk.kp.drewN 1⟩;have ro':=ro.drewN 1;have rm':=rm.drewN 1;have rr':=hI.vJ.drewN 1;have rn':=hI.rxn.drewN 1;have re':=hI.yC.drewN 1;have lo':=lo.aj k0;have hsW:=hI.sz;generalize W.drewN 1=Wa at *;conv=>whnf
  repeat ((first|(refine Ah.row (fun _ h=>h.1) (by decide) ?_)|(refine Ah.row (fun _ h=>h.2) (by decide) ?_));conv=>whnf)
  refine Sd.rowAt rr' 0 (by omega) (by omega) rfl ?_;intro W1 r1 kA;have ro1:=ro'.ab kA (by simp;omega);have rm1:=rm'.ab kA (by simp;omega);have n1:=rn'.ab kA (by simp;omega);have e1:=re'.ab kA (by simp;omega);conv=>whnf
  refine⟨⟨ro1,rm1⟩,?_⟩;conv=>whnf
  refine Sd.rowAt n1 0 (by omega) (by omega) rfl ?_;intro W2 n2 kB;have ro2:=ro1.ab kB (by simp;omega);have rm2:=rm1.ab kB (by simp;omega);have r2:=r1.ab kB (by simp;omega);have e2:=e1.ab kB (by simp;omega);conv=>whnf
  refine⟨⟨ro2,rm2⟩,?_⟩;conv=>whnf
  refine Sd.rowAt e2 0 (by omega) (by omega) rfl ?_;intro W3 e3 kC;have r3:=r2.ab kC (by simp;omega);have n3:=n2.ab kC (by simp;omega);conv=>whnf
  have nD0:Ao Wa Dn:=⟨_,hK',rfl⟩;have d1:=nD0.ne rr';have hK1:W1.heap[Dn]?=some (.deferred (some [])):=(kA.block Dn (Array.getElem?_eq_some_iff.1 hK').1 (by simpa using d1.symm)).trans hK';have nD1:Ao W1 Dn:=⟨_,hK1,rfl⟩;have d2:=nD1.ne n1;have vK:W2.heap[Dn]?=some (.deferred (some [])):=(kB.block Dn (Array.getElem?_eq_some_iff.1 hK1).1 (by simpa using d2.symm)).trans hK1;have nD2:Ao W2 Dn:=⟨_,vK,rfl⟩;have d3:=nD2.ne e2;have hK3:W3.heap[Dn]?=some (.deferred (some [])):=(kC.block Dn (Array.getElem?_eq_some_iff.1 vK).1 (by simpa using d3.symm)).trans vK;have nD3:Ao W3 Dn:=⟨_,hK3,rfl⟩;have kD:Aa [Dn] W3 (W3.putObj Dn (.deferred none)):=gm (grownBy_putObj' W3 Dn _);refine⟨W3.putObj Dn (.deferred none),⟨Dn,rfl,hK3,rfl⟩,?_⟩;have r4:=r3.ab kD (by simpa using d1);have n4:=n3.ab kD (by simpa using d2);have e4:=e3.ab kD (by simpa using d3);have fs:=(((fk'.fs.ab kA (by simp;omega)).ab kB (by simp;omega)).ab kC (by simp;omega)).ab kD (by simp;omega);have kp:=(((fk'.kp.then kA (fun y hy=>.inr (by rw[List.mem_singleton.1 hy];omega))).then kB (fun y hy=>.inr (by rw[List.mem_singleton.1 hy];omega))).then kC (fun y hy=>.inr (by rw[List.mem_singleton.1 hy];omega))).then kD (fun y hy=>.inr (by rw[List.mem_singleton.1 hy];omega));have hOx:∀z,z<w8.heap.size->∀y,y∈aR O->y∉[z]:=fun z hz y hy e=>by
   have:=hO y hy;rw[List.mem_singleton.1 e] at this;omega
  have lo3:=((lo'.ab kA (hOx _ (by omega))).ab kB (hOx _ (by omega))).ab kC (hOx _ (by omega));have lo4:=lo3.ab kD (nD3.aml lo3);generalize W3.putObj Dn (.deferred none)=W4 at *;conv=>whnf
  refine Ru.ldc (by decide +kernel) (r4.cell 0 (by omega)) ?_;conv=>whnf
  refine Ru.ldc (by decide +kernel) (n4.cell 0 (by omega)) ?_;conv=>whnf
  refine Ru.ldc (by decide +kernel) (e4.cell 0 (by omega)) ?_;conv=>whnf
  exact⟨rfl,⟨fs,kp⟩,.inl ⟨O,oc,V,m,fun k hk=>by
   have:=hw k (by rw[dF];exact hk);rw[an9 k hk] at this;exact this,rfl,fun y hy=>by have:=hO y hy;omega,lo4⟩⟩
 case stop =>
  rintro Dn pre W hDn-hI hK;have nD:Ao W Dn:=⟨_,hK,rfl⟩;refine⟨W.putObj Dn (.deferred none),⟨Dn,rfl,hK,rfl⟩,?_⟩;have kD:Aa [Dn] W (W.putObj Dn (.deferred none)):=gm (grownBy_putObj' W Dn _);have r3:=hI.vJ.ab kD (by simpa using nD.ne hI.vJ);have n3:=hI.rxn.ab kD (by simpa using nD.ne hI.rxn);have e3:=hI.yC.ab kD (by simpa using nD.ne hI.yC);have fs:=hI.fk.fs.ab kD (by simp;omega);have kp:=hI.fk.kp.then kD (fun y hy=>.inr (by rw[List.mem_singleton.1 hy];omega));generalize W.putObj Dn (.deferred none)=W3 at *;conv=>whnf
  refine Ru.ldc (by decide +kernel) (r3.cell 0 (by omega)) ?_;conv=>whnf
  refine Ru.ldc (by decide +kernel) (n3.cell 0 (by omega)) ?_;conv=>whnf
  refine Ru.ldc (by decide +kernel) (e3.cell 0 (by omega)) ?_;conv=>whnf
  exact⟨rfl,⟨fs,kp⟩,.inr ⟨rfl,hI.ck⟩⟩
end
section
open Go.RowKit
def byteOf(v:Int)(j:Nat):Int:=v/256^j%256
theorem dy(v:Int)(j:Nat):0<=byteOf v j/\byteOf v j<=255:=by unfold byteOf;omega
theorem ag8(v:Int)(k:Nat):v/256^(k+1)=v/256^k/256:=by
 rw[Int.pow_succ,Int.ediv_ediv_of_nonneg (by exact Int.le_of_lt (Int.pow_pos (by omega)))]
def Ce(v:Int)(n:Nat)(w:World)(e:Ending)(w':World):Prop :=
 Aa [] w w'/\((v/256^n=0/\e=.returned (.tuple #[.slice (some ⟨w.heap.size,0,none⟩) n n,.nilIface])/\Row w' w.heap.size 5 n (fun j=>.int .u8 (byteOf v j)))
  \/ (v/256^n≠0/\e=.returned (.tuple #[.slice none 0 0,.iface 40 (.int .i64 2)])))
theorem akb(v:Int)(n:Nat)(w:World)(h0:0<=v)(h1:v<=18446744073709551615)(hn:1<=n)(hn8:n<=8) :
  Calls Tryz.prog 221 #[.int .u64 v,.int .i64 n] w (Ce v n w):=by
 have hmk:=run_make_row' (P:=Tryz.prog) 37 5 (.int .u8 0) 1 underlying37 dQ rfl .i64 .i64 n (by omega) (by omega)
 go_enter func221,ntmps221
 go_wp2
 have R:=Row.made w 5 (.int .u8 0) n;have kk:=(Aa.refl [] w).alloc (.cells (madeCells #[.int .u8 0] n) 5);have hp:v=v/256^0:=by simp
 have HP:=Lib.hid hp;clear hp
 go_loopw [0,19] (fun x i wr=>∃k:Nat,k<=n/\i=.int .i64 k/\x=.int .u64 (v/256^k)/\Aa [] w wr/\Row wr w.heap.size 5 n (fun j=>.int .u8 (if j<k then byteOf v j else 0))) (fun _ i _=>n-(intOf i).toNat)
 case atStart=>exact⟨0,by omega,rfl,by rw[<-HP.out],kk,R.congr (fun j hj=>by simp)⟩
 case round =>
  clear R kk HP;obtain⟨k,hk,rfl,rfl,kk,R⟩:=hrel;have hx0:0<=v/256^k:=Int.ediv_nonneg h0 (Int.le_of_lt (Int.pow_pos (by omega)));have hx1:v/256^k<=18446744073709551615:=Int.le_trans (Int.ediv_le_self _ h0) h1;have HS:=Lib.hid (ag8 v k);have HB:Hid (byteOf v k=v/256^k%256):=rfl;by_cases av:k<n
  ·have hc:=R.cell k av;have hz:=R.free k;generalize v/256^k=x at hx0 hx1 HS HB
   go_wp2
   go_roundw
   case rel=>exact⟨k+1,by omega,by go_num,by rw[HS.out],kk.setCell _ _ (.inr (Nat.le_refl _)),(R.ajv _ _).congr (fun j hj=>by
    by_cases h:j=k
    ·subst h;rw[if_pos rfl,if_pos (by omega),HB.out]
    ·rw[if_neg h];by_cases h2:j<k
     ·rw[if_pos h2,if_pos (by omega)]
     ·rw[if_neg h2,if_neg (by omega)])⟩
   case measure=>simp[intOf]<;>omega
  ·obtain rfl:k=n:=by omega
   by_cases hv:v/256^k=0
   ·have HV:=Lib.hid hv;rw[hv];clear hv
    go_wp2
    go_ret2
    exact⟨kk,.inl ⟨HV.out,rfl,R.congr (fun j hj=>by rw[if_pos hj])⟩⟩
   ·have HV:=Lib.hid hv;have hb:(v/256^k == 0)=false:=beq_eq_false_iff_ne.2 hv;clear hv;generalize v/256^k=x at hx0 hx1 hb
    go_wp2
    go_ret2
    exact⟨kk,.inr ⟨HV.out,rfl⟩⟩
def numOf(f:Nat->Int):Nat->Int
 |0=>0
 |n+1=>f 0+256*numOf (fun j=>f (j+1)) n
theorem mb(f:Nat->Int)(hf:∀j,0<=f j/\f j<=255)(n:Nat):0<=numOf f n/\numOf f n<256^n:=by
 induction n generalizing f with
 |zero=>simp[numOf]
 | succ n ih =>
  have:=ih (fun j=>f (j+1)) (fun j=>hf (j+1));have:=hf 0;rw[Int.pow_succ];unfold numOf;omega
theorem tD(f:Nat->Int)(n:Nat):numOf f (n+1)=f 0+256*numOf (fun j=>f (j+1)) n:=rfl
theorem kP(f:Nat->Int)(n:Nat):numOf f (n+1)=numOf f n+f n*256^n:=by
 induction n generalizing f with
 |zero=>simp[numOf]
 | succ n ih =>
  have h:=ih (fun j=>f (j+1));rw[tD f (n+1),tD f n,h,Int.pow_succ, <-Int.mul_assoc];generalize f (n+1)*256^n=y;omega
theorem akc(a b:Nat)(k:Nat)(ha:a<2^k):a ||| (b*2^k)=a+b*2^k:=by
 rw[Nat.or_comm, <-Nat.shiftLeft_eq, <-Nat.shiftLeft_add_eq_or_of_lt ha,Nat.add_comm]
theorem wG(n:Int)(h₀:0<=n)(h₁:n<2^64):IntKind.u64.wrap n=n:=by
 have:(2:Int)^64=18446744073709551616:=by decide
 simp only[IntKind.wrap,IntKind.bits,IntKind.signed];simp;omega
theorem ag9(x y:Int)(k:Nat)(hk:k<=7)(hx:0<=x)(hx1:x<256^k)(hy:0<=y)(hy1:y<=255) :
  bits .or .u64 x (IntKind.u64.wrap (y*2^(8*k)))=x+y*256^k:=by
 have e64:(2:Int)^64=18446744073709551616:=by decide
 obtain⟨a,rfl⟩:=Int.eq_ofNat_of_zero_le hx;obtain⟨b,rfl⟩:=Int.eq_ofNat_of_zero_le hy;have hp:(256:Int)^k=2^(8*k):=by rw[Int.pow_mul];rfl
 rw[hp] at hx1 ⊢;have ha:a<2^(8*k):=by exact_mod_cast hx1
 have hle:2^(8*k)<=2^56:=Nat.pow_le_pow_right (by omega) (by omega);have hb:b*2^(8*k)<2^64:=by
  have h1:b*2^(8*k)<=255*2^(8*k):=Nat.mul_le_mul_right _ (by omega);have:(2:Nat)^56=72057594037927936:=by decide
  have:(2:Nat)^64=18446744073709551616:=by decide
  omega
 have av:a<2^64:=by
  have:(2:Nat)^56=72057594037927936:=by decide
  have:(2:Nat)^64=18446744073709551616:=by decide
  omega
 have hc:((b:Int)*2^(8*k))=((b*2^(8*k):Nat):Int):=by simp
 rw[hc,wG _ (by omega) (by rw[e64];have:(2:Nat)^64=18446744073709551616:=(by decide);omega)];rw[(bits_nat .u64 64 (by decide) wG a _ av hb).2,akc a b (8*k) ha];simp
theorem amp(A:Option Addr)(n c:Nat)(f:Nat->Int)(w:World)(r:Rd w A n (fun j=>.int .u8 (f j)))(hf:∀j,0<=f j/\f j<=255)(hn:1<=n)(hn8:n<=8) :
  Calls Tryz.prog 192 #[.slice A n c] w fun e w'=>e=.returned (.tuple #[.int .u64 (numOf f n),.nilIface])/\w=w':=by
 obtain⟨b,o,rfl,hc⟩:=r (by omega)
 go_enter func192,ntmps192
 go_wp2
 go_loop [4,18] (fun x i=>∃k:Nat,k<=n/\i=.int .i64 k/\x=.int .u64 (numOf f k)) (fun _ i=>n-(intOf i).toNat)
 case atStart=>exact⟨0,by omega,rfl,rfl⟩
 case round =>
  obtain⟨k,hk,rfl,rfl⟩:=hrel;by_cases av:k<n
  ·have hck:=hc k av;obtain⟨f0,f1⟩:=hf k;obtain⟨x0,x1⟩:=mb f hf k;have HX:=Lib.hid x1;clear x1;have HN:=Lib.hid (kP f k);have HS:=Lib.hid (ag9 (numOf f k) (f k) k (by omega) x0 HX.out f0 f1);generalize numOf f k=x at x0 HX HN HS;clear hc;generalize f k=y at f0 f1 HN hck HS
   go_wp2
   go_round
   case rel=>exact⟨k+1,by omega,by go_num,by rw[HN.out,HS.out]⟩
   case measure=>simp[intOf]<;>omega
  ·obtain rfl:k=n:=by omega
   go_wp2
   go_ret2
   exact⟨rfl,rfl⟩
theorem aha{m:Nat}(h:m<=9223372036854775807):IntKind.i64.wrap (m:Int)=(m:Int):=IntWalk.i64_in _ ⟨by omega,by omega⟩
theorem tE{P:Program}(w:World)(t tn ty e:TypeId)(i:TypeInfo)(ht:P.underlying t=some (.slice e))(hn:P.underlying tn=some (.int .i64))(hi:P.info? e=some i)(hz:i.zero=some (.int .u8 0))(nH:i.size=1)(vw:i.bytes=1)
  (A:Option Addr) (n c:Nat) (f:Nat->Value) (hl:Ly w e 1 A n c f) (zw:0<n) (m:Nat) (hm:0<m) (kJ:n+m<=140737488355328) :
  ∃A' c' w',(Builtin.append_ #[t,tn] ty #[.slice A n c,.int .i64 (m:Int)]).run P w=.ok (.slice A' (n+m) c') w'/\Ly w' e 1 A' (n+m) c' (fun j=>if j<n then f j else .int .u8 0)/\Aa (aR A) w w'/\(A'=A\/A'=some ⟨w.heap.size,0,none⟩):=by
 have hw:=aha (m:=m) (by omega);have h0:¬((m:Int)<0):=by omega
 have h48:¬(281474976710656<(m:Int)):=by omega
 have hzc:∀k,Builtin.zeroCells #[.int .u8 0] k=((List.range k).map fun _=>(Value.int .u8 0)).toArray:=fun k=>by
  apply Array.ext
  ·simp[Builtin.zeroCells]
  ·intro j h1 h2;simp[Builtin.zeroCells];have:j%1=0:=Nat.mod_one j;simp[this]
 have hzs:(Value.int .u8 0).cells = #[Value.int .u8 0]:=rfl
 cases A with
 | none =>
  have:=hl.2.2.1 rfl;have:=hl.1;omega
 | some a =>
  obtain⟨q,cur,fr,rfl,hh,qU,lq,r⟩:=hl.2.2.2 a rfl;have apu:(n+m:Int)<=9223372036854775807:=by omega
  by_cases iJ:n+m<=c
  ·have alH:fr=(0,0):=by
    rcases qU with h|⟨h,_⟩
    ·exact h
    ·omega
   subst alH
   have bt:=run_storeCells_at (P:=P) q n e ((List.range m).map fun _=>(Value.int .u8 0)) 0 cur w hh (by simp;omega) (fun v hv=>by
    simp at hv;rw[<-hv.2];rfl)
   simp only[Nat.add_zero,List.length_map,List.length_range] at bt;refine⟨some ⟨q,0,none⟩,c,w.setRow q (cur.toList.take n++((List.range m).map fun _=>(Value.int .u8 0))++cur.toList.drop (n+m)).toArray,?_,⟨iJ,hl.2.1,(fun h=>by cases h),fun a ha=>?_⟩,⟨rfl,rfl,rfl,by simp,fun k _ hk=>setRow_other w q k _ (fun e=>hk (by rw[e];exact List.mem_singleton.2 rfl))⟩,.inl rfl⟩
   ·have af5:(⟨q,0,none⟩:Addr).add n=⟨q,n,none⟩:=by rw[fG rfl,Nat.zero_add]
    simp[Builtin.append_,run_underlying ht,run_underlying hn,sizeOf,typeInfo,zeroValue,hi,hz,nH,vw,asInt,asIntOf,hw,h0,h48,iJ,hzs,hzc,af5,Nat.ne_of_gt hm,bt]
   ·injection ha with ha;subst ha;refine⟨q,_,(0,0),rfl,setRow_heap w q cur _ e _ hh,.inl rfl,?_,fun j hj=>?_⟩
    ·simp;omega
    ·have hcl:n+m<=cur.size:=by omega
     rw[List.getElem?_toArray];simp only;by_cases h:j<n
     ·rw[if_pos h,List.append_assoc,List.getElem?_append_left (by simp;omega),List.getElem?_take,if_pos h,Array.getElem?_toList];exact r j (by omega)
     ·rw[if_neg h,List.append_assoc,List.getElem?_append_right (by simp;omega),List.getElem?_append_left (by simp;omega)];simp only[List.getElem?_map,List.length_take,Array.length_toList,List.length_map,List.length_range];rw[List.getElem?_range (by omega)];rfl
  ·have holds:∀(j:Nat) (u:Value),((List.range n).map f)[j]?=some u->w.drew.cell? ((⟨q,0,none⟩:Addr).add j)=some u:=by
    intro j u hu;have hj:j<n:=by
     have:=(List.getElem?_eq_some_iff.1 hu).1;simpa using this
    rw[fG rfl];have h2:f j=u:=by
     simp[hj] at hu;exact hu
    have:=r j (by omega);rw[h2] at this;rw[World.cell?_drew];simp only[World.cell?,hh];simpa using this
   have hold:=run_firstCells_some (P:=P) w.drew 1 n ⟨q,0,none⟩ n c ((List.range n).map f) (by simp) holds;have dZ:=growslice_fits (old:=c) (need:=n+m) (bytes:=1) (by omega) (by omega);have apX:¬(9223372036854775807<((n:Int)+(m:Int))):=by omega
   have apY:¬(281474976710656<Builtin.nextslicecap (n+m) c):=by omega
   have xP:=grownCap_ge w (n+m) c e;refine⟨some ⟨w.heap.size,0,none⟩,grownCap w (n+m) c e,w.drew.alloc (.cells (((List.range n).map f).toArray++((List.range m).map fun _=>(Value.int .u8 0)).toArray++Builtin.zeroCells #[.int .u8 0] (grownCap w (n+m) c e-(n+m))) e),?_,⟨xP,grownCap_le_maxLen w (n+m) c e (by simp only[maxLen];omega),(fun h=>by cases h),fun a ha=>?_⟩,(Aa.refl _ w).drew.alloc _,.inr rfl⟩
   ·simp[Builtin.append_,run_underlying ht,run_underlying hn,sizeOf,typeInfo,zeroValue,hi,hz,nH,vw,asInt,asIntOf,hw,h0,h48,iJ,hzs,hzc,Nat.ne_of_gt hm,apX,apY,Question.forced,hold,newRow,grownCap]
   ·injection ha with ha;subst ha;refine⟨_,_,(0,0),rfl,heap_alloc_new w.drew _,.inl rfl,?_,fun j hj=>?_⟩
    ·simp[size_zeroCells];omega
    ·rw[<-Array.getElem?_toList];simp only[Array.toList_append];by_cases h:j<n
     ·rw[if_pos h,List.append_assoc,List.getElem?_append_left (by simp;omega)];simp[h]
     ·rw[if_neg h,List.append_assoc,List.getElem?_append_right (by simp;omega),List.getElem?_append_left (by simp;omega)];simp only[List.getElem?_map,List.length_take,Array.length_toList,List.length_map,List.length_range];rw[List.getElem?_range (by omega)];rfl
end
section
section
variable{P:Program}{w:World}{d:Nat}{t:TypeId}{xs ys:Array Value}
theorem amq{fs:Array Field}{r:Bool}(hu:P.underlying t=some (.struct fs))(hp:P.stoodInHeld t=false)(h:(Op.eqFields d xs ys fs.toList).run P w=.ok r w):(Op.equalIn (d+1) t (.agg xs) (.agg ys)).run P w=.ok r w:=by
 have hf:P.fieldsOf t=fs:=by unfold Program.fieldsOf;rw[hu]
 rw[run_equalIn_struct w d t xs ys (by rw[hf];exact hu) hp,hf];exact h
theorem akd:(Op.eqFields d xs ys []).run P w=.ok true w:=rfl
theorem eqf_cons {f : Field} {fs : List Field} {a b : Value} {r s : Bool} (hn : (f.name == "_") = false) (ha : (part f.type xs f.offset).run P w = .ok a w) (hb : (part f.type ys f.offset).run P w = .ok b w) (hr : (Op.equalIn d f.type a b).run P w = .ok r w) (hs : (Op.eqFields d xs ys fs).run P w = .ok s w) :
  (Op.eqFields d xs ys (f::fs)).run P w=.ok (r&&s) w:=by
 have hn' : f.name ≠ "_" := by simpa using hn
 simp only[Op.eqFields,ne_eq,hn',not_false_eq_true,if_true,Sem.run_bind,ha,hb,hr,Result.andThen_ok]
 cases r
 ·simp
 ·simpa using hs
theorem dS{e:TypeId}{cs:Array Value}{off:Nat}{v:Value}(hc:dV P e=true)(hv:cs[off]?=some v):(part e cs off).run P w=.ok v w:=by
 simp[part,nW hc w,hv]
theorem eq_int{k:IntKind}{e:TypeId}{a b:Int}(hu:P.underlying e=some (.int k)):(Op.equalIn (d+1) e (.int k a) (.int k b)).run P w=.ok (decide (a=b)) w:=run_equalIn_int w d e k k a b hu
theorem ake{e:TypeId}{a b:Bool}(hu:P.underlying e=some .bool):(Op.equalIn (d+1) e (.bool a) (.bool b)).run P w=.ok (decide (a=b)) w:=by
 rw[run_equalIn_bool w d e a b hu]
 cases a<;>cases b<;>rfl
end
end
section
open Go.RowKit
structure Tg where
 place:Int
 of:Int
 seq:Int
 copy:Int
 lost:Bool
deriving DecidableEq
def Tg.zero:Tg:=⟨0,0,0,0,false⟩
def Tg.arr(t:Tg):Array Value := #[.int .i64 t.place,.int .i64 t.of,.int .i64 t.seq,.int .i64 t.copy,.bool t.lost]
def Tg.cell(t:Tg)(j:Nat):Value:=t.arr.getD j .nilIface
def Tg.ok(t:Tg):Prop:=0<=t.place/\t.place<=95/\0<=t.of/\t.of<=24/\1<=t.seq/\t.seq<=1099511627775/\0<=t.copy/\t.copy<=255/\(t.of=24->t.lost=false)/\(t.of≠24->t.place%8<=5)
instance (t:Tg):Decidable t.ok:=by unfold Tg.ok;infer_instance
def Tg.wf(t:Tg):Prop:=(-9223372036854775808<=t.place/\t.place<=9223372036854775807)/\(-9223372036854775808<=t.of/\t.of<=9223372036854775807)/\(-9223372036854775808<=t.seq/\t.seq<=9223372036854775807)/\(-9223372036854775808<=t.copy/\t.copy<=9223372036854775807)
def Tg.err(t:Tg):Int:=if t.ok then 0 else 1
theorem Tg.amr{t:Tg}(h:¬t.ok):Value.iface 40 (.int .i64 1)=ak t.err:=by unfold Tg.err;rw[if_neg h,cR (by decide)]
theorem Tg.akf{t:Tg}(h:t.ok):Value.nilIface=ak t.err:=by unfold Tg.err;rw[if_pos h];rfl
theorem tF(t:Tg):(Array.range 5).map t.cell=t.arr:=by
 apply Array.ext
 ·simp[Tg.arr]
 ·intro i h1 h2;have h3:i<5:=by simpa using h1
  have:i=0\/i=1\/i=2\/i=3\/i=4:=by omega
  rcases this with rfl|rfl|rfl|rfl|rfl<;>simp[Tg.cell,Tg.arr]
theorem acf(t:Tg):Value.agg t.arr=agg 5 t.cell:=by
 unfold agg;rw[tF]
theorem tG:(Tryz.prog.info? 67).map (·.size)=some 5:=by kernel_rfl
theorem tH(t:Tg)(j:Nat)(hj:j<5):(t.cell j).oneCell'=true:=by
 have:j=0\/j=1\/j=2\/j=3\/j=4:=by omega
 rcases this with rfl|rfl|rfl|rfl|rfl<;>rfl
theorem Row.tg{w:World}{g:Nat}{t:Tg}(h:w.heap[g]?=some (.cells t.arr 67 (0,0))):Row w g 67 5 t.cell:=by
 unfold Row;rw[tF];exact h
theorem Ru.fp{w:World}{K:Value->World->Prop}(k:∀g w',g=w.heap.size->w'.heap.size=w.heap.size+1->Row w' g 67 5 Tg.zero.cell->Aa [] w w'->K (.pointer (some ⟨g,0,none⟩)) w'):Ru Tryz.prog (Instr.alloc 67 true (.tuple #[])) w K :=
 ⟨_,w.alloc (.cells Tg.zero.arr 67),by kernel_rfl,k _ _ rfl (by simp) (Row.tg (heap_alloc_new _ _)) ((Aa.refl _ _).alloc _)⟩
theorem Ru.wH{w:World}{t:Tg}{K:Value->World->Prop}(k:∀g w',g=w.heap.size->w'.heap.size=w.heap.size+1->Row w' g 67 5 t.cell->Aa [] w w'->K (.pointer (some ⟨g,0,none⟩)) w'):Ru Tryz.prog (Instr.box 67 (.agg t.arr)) w K :=
 ⟨_,w.alloc (.cells t.arr 67),rfl,k _ _ rfl (by simp) (Row.tg (heap_alloc_new _ _)) ((Aa.refl _ _).alloc _)⟩
theorem acg{w:World}{g o N:Nat}{ty:TypeId}{F:Nat->Value}{t:Tg}(r:Row w g ty N F)(hn:o+5<=N)(hf:∀j,j<5->F (o+j)=t.cell j):(loadVar 67 ⟨g,o,none⟩).run Tryz.prog w=.ok (.agg t.arr) w:=by
 have h:=fI (P:=Tryz.prog) r hn underlying67 rfl tG;rw[show agg 5 (fun j=>F (o+j))=.agg t.arr from(br hf).trans (acf t).symm] at h;exact h
theorem Ru.fF{w:World}{g:Nat}{ty:TypeId}{t:Tg}{K:Value->World->Prop}(r:Row w g ty 5 t.cell)(k:K (.agg t.arr) w):Ru Tryz.prog (loadVar 67 ⟨g,0,none⟩) w K:=⟨_,_,acg r (by omega) (fun j _=>by rw[Nat.zero_add]),k⟩
theorem Ru.kQ{w:World}{g:Nat}{ty:TypeId}{b:Nat->Value}{t:Tg}{K:Unit->World->Prop}(r:Row w g ty 5 b)(k:∀w',Row w' g ty 5 t.cell->Aa [g] w w'->K () w'):Ru Tryz.prog (storeVar 67 ⟨g,0,none⟩ (.agg t.arr)) w K:=by
 rw[acf];exact Ru.gY r tG (by omega) (tH t) (fun w' r' k'=>k w' (r'.congr (fun j hj=>by unfold lay;rw[if_pos (by omega)];simp)) k')
theorem ahb(t:Tg)(w:World):Spec Tryz.prog 197 #[.agg t.arr] w fun v w'=>v=ak t.err/\Aa [] w w':=by
 have h0:∀ {g:Nat} {w:World},Row w g 67 5 t.cell->w.cell? ⟨g,0,none⟩=some (.int .i64 t.place)/\w.cell? ⟨g,1,none⟩=some (.int .i64 t.of)/\w.cell? ⟨g,2,none⟩=some (.int .i64 t.seq)/\w.cell? ⟨g,3,none⟩=some (.int .i64 t.copy)/\w.cell? ⟨g,4,none⟩=some (.bool t.lost):=fun r=>⟨r.cell 0 (by omega),r.cell 1 (by omega),r.cell 2 (by omega),r.cell 3 (by omega),r.cell 4 (by omega)⟩
 have lV:=t.amr;have qq:=t.akf;unfold Tg.ok at lV qq;generalize hx:t.err=x at lV qq ⊢;refine spec_of_wpE (T:=tt) ah func197 rfl (by decide +kernel) ntmps197 (by simp) ?_;conv=>whnf
 refine Ru.wH ?_;intro g w1 hg hs r k1;obtain⟨c0,c1,c2,c3,c4⟩:=h0 r;clear h0 r;generalize t.place=a0 at *;generalize t.of=a1 at *;generalize t.seq=a2 at *;generalize t.copy=a3 at *
 cases hl:t.lost<;>rw[hl] at c4 lV qq
 all_goals
  conv=>whnf
  repeat' ((first|refine Br.t ?_|refine Br.f ?_|refine Pk.f ?_|refine Pk.t ?_|refine Dv.r ?_|refine Br.ny ?_|refine Br.nn ?_|refine Ld.of (by assumption) ?_|refine CW.s ?_|refine Br.d (fun _=>?_) (fun _=>?_))<;>conv=>whnf)
  all_goals
   first
    |exact⟨rfl,lV (fun h=>by simp at h;omega),k1⟩
    |exact⟨rfl,qq (by simp;omega),k1⟩
theorem aoa{n:Nat}(hn:n<=8):(256:Int)^n<=18446744073709551616:=by
 have h:n=0\/n=1\/n=2\/n=3\/n=4\/n=5\/n=6\/n=7\/n=8:=by omega
 rcases h with rfl|rfl|rfl|rfl|rfl|rfl|rfl|rfl|rfl<;>decide
theorem ams(v:Int)(n:Nat)(w:World)(h0:0<=v)(h1:v<256^n)(hn:1<=n)(hn8:n<=8) :
  Spec Tryz.prog 221 #[.int .u64 v,.int .i64 n] w fun u w'=>∃g,u=.tuple #[.slice (some ⟨g,0,none⟩) n n,.nilIface]/\g=w.heap.size/\Row w' g 5 n (fun j=>.int .u8 (byteOf v j))/\Aa [] w w':=by
 have h8:=aoa hn8;refine⟨by kernel_rfl,(akb v n w h0 (by omega) hn hn8).mono ?_⟩;rintro e w' ⟨k,h⟩;have hz:v/256^n=0:=Int.ediv_eq_zero_of_lt h0 h1;rcases h with⟨_,rfl,r⟩|⟨h,_⟩
 ·exact⟨_,rfl,_,rfl,rfl,r,k⟩
 ·exact absurd hz h
theorem Bu.akg{P:Program}{w:World}{t tn ty e:TypeId}{i:TypeInfo}{cs:Array Bool}{K:Value->World->Prop}(ht:P.underlying t=some (.slice e))(hn:P.underlying tn=some (.int .i64))(hi:P.info? e=some i)(hz:i.zero=some (.int .u8 0))(nH:i.size=1)(vw:i.bytes=1)
  {A:Option Addr} {n c:Nat} {f:Nat->Value} (hl:Ly w e 1 A n c f) (zw:0<n) {m:Nat} (hm:0<m) (kJ:n+m<=140737488355328)
  (k:∀A' c' w',Ly w' e 1 A' (n+m) c' (fun j=>if j<n then f j else .int .u8 0)->Aa (aR A) w w'->(A'=A\/A'=some ⟨w.heap.size,0,none⟩)->K (.slice A' (n+m) c') w') :
  Bu P .append #[t,tn] ty cs #[.slice A n c,.int .i64 (m:Int)] w K:=by
 obtain⟨A',c',w',hr,h2,h3,h5⟩:=tE (P:=P) w t tn ty e i ht hn hi hz nH vw A n c f hl zw m hm kJ;exact⟨_,w',by simp only[builtin,Sem.run_bind,hr];rfl,k A' c' w' h2 h3 h5⟩
def bU(t:Tg)(j:Nat):Int:=if j<2 then byteOf t.place j else if j<3 then byteOf t.of (j-2) else if j<8 then byteOf t.seq (j-3) else if j<9 then byteOf t.copy (j-8) else if j<10 then byteOf (if t.lost then 1 else 0) (j-9) else 0
theorem tI(t:Tg)(j:Nat):0<=bU t j/\bU t j<=255:=by
 unfold bU;split
 ·exact dy _ _
 split
 ·exact dy _ _
 split
 ·exact dy _ _
 split
 ·exact dy _ _
 split
 ·exact dy _ _
 omega
def wrc(t:Tg)(x:Value)(j:Nat):Value:=if j<5 then t.cell j else x
structure Wr(w:World)(g:Nat)(t:Tg)(X:Option Addr)(n c:Nat):Prop where
 row:Row w g 286 6 (wrc t (.slice X n c))
 ly:Ly w 5 1 X n c (fun j=>.int .u8 (bU t j))
theorem Wr.ab{w w':World}{g:Nat}{t:Tg}{X:Option Addr}{n c:Nat}{S:List Nat}(h:Wr w g t X n c)(k:Aa S w w')(hg:g∉S)(hX:∀x,x∈aR X->x∉S):Wr w' g t X n c:=⟨h.row.ab k hg,h.ly.ab k hX⟩
def AS(w:World)(g:Nat)(t:Tg)(X:Option Addr)(m:Nat)(v:Value)(w':World):Prop:=v=.nilIface/\∃Y d,Wr w' g t Y m d/\Aa (g::aR X) w w'/\∀x,x∈aR Y->x∈aR X\/w.heap.size<=x
theorem mS(w:World)(g:Nat)(t:Tg)(X:Option Addr)(n c:Nat)(h:Wr w g t X n c)(v:Int)(k:Nat)(h0:0<=v)(h1:v<256^k)(hk:1<=k)(hk8:k<=8)(hn:n<=50)(hb:∀j,j<k->byteOf v j=bU t (n+j)) :
  Spec Tryz.prog 213 #[.pointer (some ⟨g,0,none⟩),.int .i64 v,.int .i64 k] w (AS w g t X (n+k)):=by
 obtain⟨i0,hi,lZ,lP,l4⟩:=info_parts dQ;have h8:=aoa hk8;refine spec_of_wpE (T:=tt) ah func213 rfl (by decide +kernel) ntmps213 (by simp) ?_;conv=>whnf
 repeat (refine Ar.lc ?_;conv=>whnf)
 refine Ca.of (ams v k w h0 h1 hk hk8) ?_;rintro _ w1 ⟨p,rfl,hp,rp,k1⟩;have h1:=h.ab k1 (by simp) (by simp);have vj:g∉aR X:=h1.ly.aP h1.row (by decide);conv=>whnf
 repeat ((refine Ld.rowAt h1.row 5 (by omega) (by omega) ?_);conv=>whnf)
 show Bu _ _ _ _ _ #[.slice X n c,_] _ _;refine Bu.append underlying37 hi lZ lP l4 rfl (by omega) h1.ly _ (Rd.dh rp (n:=k*1) (by omega)) (by omega) (by simp) (fun j hj=>rfl) (by simp only[maxLen];omega) (by omega) ?_;intro Y d w2 hy k2 dC iq;have r2:=h1.row.ab k2 vj;have hY:g∉aR Y:=hy.aP r2 (by decide);conv=>whnf
 refine Sd.rowAt r2 5 (by omega) (by omega) rfl ?_;intro w3 r3 k3;have hy3:=hy.ab k3 (by intro x hx hm;rw[List.mem_singleton.1 hm] at hx;exact hY hx);conv=>whnf
 refine⟨rfl,rfl,Y,d,⟨r3.congr (fun j hj=>?_),hy3.congr (fun j hj=>?_)⟩,?_,?_⟩
 ·unfold put wrc;by_cases h5:j=5
  ·subst h5;rfl
  ·rw[if_neg h5,if_pos (by omega),if_pos (by omega)]
 ·simp only[Nat.mul_one];by_cases mK:j<n
  ·rw[if_pos mK]
  ·rw[if_neg mK,hb (j-n) (by omega),show n+(j-n)=j from by omega]
 ·exact((k1.mono (by simp)).trans (k2.mono (fun x hx=>List.mem_cons_of_mem _ hx))).trans (k3.mono (fun x hx=>by rw[List.mem_singleton.1 hx];exact List.mem_cons_self ..))
 ·intro x hx;rcases dC with e|e
  ·rw[e] at hx;exact .inl hx
  ·rw[e] at hx;rw[List.mem_singleton.1 hx];exact .inr k1.size
def amt(i:Nat):Nat:=if i=0 then 0 else if i=1 then 2 else if i=2 then 3 else if i=3 then 8 else if i=4 then 9 else 10
section
variable(w:World)(g:Nat)(t:Tg)(X:Option Addr)(c:Nat)
theorem alp{v:Int}(h0:0<=v)(h1:v<=255):byteOf v 0=v:=by unfold byteOf;simp;omega
theorem ahc(h:Wr w g t X 0 c)(ht:t.ok):Spec Tryz.prog 198 #[.pointer (some ⟨g,0,none⟩)] w (AS w g t X 2):=by
 unfold Tg.ok at ht;refine spec_of_wpE (T:=tt) ah func198 rfl (by decide +kernel) ntmps198 (by simp) ?_;conv=>whnf
 repeat ((refine Ld.rowAt h.row 0 (by omega) (by omega) ?_);conv=>whnf)
 refine Ca.of (mS w g t X 0 c h t.place 2 (by omega) (by omega) (by omega) (by omega) (by omega) (fun j hj=>by unfold bU;rw[if_pos (by omega),Nat.zero_add])) ?_;intro v w1 hp;conv=>whnf
 exact⟨rfl,hp⟩
theorem tJ(h:Wr w g t X 2 c)(ht:t.ok):Spec Tryz.prog 199 #[.pointer (some ⟨g,0,none⟩)] w (AS w g t X 3):=by
 unfold Tg.ok at ht;refine spec_of_wpE (T:=tt) ah func199 rfl (by decide +kernel) ntmps199 (by simp) ?_;conv=>whnf
 repeat ((refine Ld.rowAt h.row 1 (by omega) (by omega) ?_);conv=>whnf)
 refine Ca.of (mS w g t X 2 c h t.of 1 (by omega) (by omega) (by omega) (by omega) (by omega) (fun j hj=>by unfold bU;rw[if_neg (by omega),if_pos (by omega)];congr 1;omega)) ?_;intro v w1 hp;conv=>whnf
 exact⟨rfl,hp⟩
theorem amu(h:Wr w g t X 3 c)(ht:t.ok):Spec Tryz.prog 200 #[.pointer (some ⟨g,0,none⟩)] w (AS w g t X 8):=by
 unfold Tg.ok at ht;refine spec_of_wpE (T:=tt) ah func200 rfl (by decide +kernel) ntmps200 (by simp) ?_;conv=>whnf
 repeat ((refine Ld.rowAt h.row 2 (by omega) (by omega) ?_);conv=>whnf)
 refine Ca.of (mS w g t X 3 c h t.seq 5 (by omega) (by omega) (by omega) (by omega) (by omega) (fun j hj=>by unfold bU;rw[if_neg (by omega),if_neg (by omega),if_pos (by omega)];congr 1;omega)) ?_;intro v w1 hp;conv=>whnf
 exact⟨rfl,hp⟩
theorem aeX(h:Wr w g t X 8 c)(ht:t.ok):Spec Tryz.prog 201 #[.pointer (some ⟨g,0,none⟩)] w (AS w g t X 9):=by
 unfold Tg.ok at ht;refine spec_of_wpE (T:=tt) ah func201 rfl (by decide +kernel) ntmps201 (by simp) ?_;conv=>whnf
 repeat ((refine Ld.rowAt h.row 3 (by omega) (by omega) ?_);conv=>whnf)
 refine Ca.of (mS w g t X 8 c h t.copy 1 (by omega) (by omega) (by omega) (by omega) (by omega) (fun j hj=>by unfold bU;rw[if_neg (by omega),if_neg (by omega),if_neg (by omega),if_pos (by omega)];congr 1;omega)) ?_;intro v w1 hp;conv=>whnf
 exact⟨rfl,hp⟩
theorem akh(h:Wr w g t X 9 c):Spec Tryz.prog 202 #[.pointer (some ⟨g,0,none⟩)] w (AS w g t X 10):=by
 have hb:∀j,j<1->byteOf (if t.lost then 1 else 0) j=bU t (9+j):=fun j hj=>by
  obtain rfl:j=0:=by omega
  rfl
 have hc:w.cell? ⟨g,4,none⟩=some (.bool t.lost):=h.row.cell 4 (by omega);refine spec_of_wpE (T:=tt) ah func202 rfl (by decide +kernel) ntmps202 (by simp) ?_
 cases hl:t.lost<;>rw[hl] at hb hc
 ·conv=>whnf
  repeat ((first|(refine Ld.at (by omega) hc ?_)|refine Br.f ?_|refine CW.s ?_);conv=>whnf)
  refine Ca.of (mS w g t X 9 c h 0 1 (by omega) (by omega) (by omega) (by omega) (by omega) hb) ?_;intro v w1 hp;conv=>whnf
  exact⟨rfl,hp⟩
 ·conv=>whnf
  repeat ((first|(refine Ld.at (by omega) hc ?_)|refine Br.t ?_|refine CW.s ?_);conv=>whnf)
  refine Ca.of (mS w g t X 9 c h 1 1 (by omega) (by omega) (by omega) (by omega) (by omega) hb) ?_;intro v w1 hp;conv=>whnf
  exact⟨rfl,hp⟩
end
def fnF(g:Nat)(j:Nat):Value:=(#[.func (.func 198) #[.pointer (some ⟨g,0,none⟩)] #[],.func (.func 199) #[.pointer (some ⟨g,0,none⟩)] #[],.func (.func 200) #[.pointer (some ⟨g,0,none⟩)] #[],.func (.func 201) #[.pointer (some ⟨g,0,none⟩)] #[],.func (.func 202) #[.pointer (some ⟨g,0,none⟩)] #[]]:Array Value).getD j .nilIface
theorem aeY(g:Nat)(w:World):(Instr.buildSlice 287 5 #[(0,fnF g 0),(1,fnF g 1),(2,fnF g 2),(3,fnF g 3),(4,fnF g 4)]).run Tryz.prog w=.ok (.slice (some ⟨w.heap.size,0,none⟩) 5 5) (w.alloc (.cells ((Array.range 5).map (fnF g)) 57)):=by kernel_rfl
theorem ahd(t:Tg)(w:World):(Instr.build 286 #[(0,.agg t.arr)]).run Tryz.prog w=.ok (.agg #[.int .i64 t.place,.int .i64 t.of,.int .i64 t.seq,.int .i64 t.copy,.bool t.lost,.slice none 0 0]) w:=by kernel_rfl
theorem ahe(t:Tg):(Array.range 6).map (wrc t (.slice none 0 0)) = #[.int .i64 t.place,.int .i64 t.of,.int .i64 t.seq,.int .i64 t.copy,.bool t.lost,.slice none 0 0]:=by
 apply Array.ext
 ·simp
 ·intro i h1 h2;have h3:i<6:=by simpa using h1
  have:i=0\/i=1\/i=2\/i=3\/i=4\/i=5:=by omega
  rcases this with rfl|rfl|rfl|rfl|rfl|rfl<;>simp[Tg.cell,Tg.arr,wrc]
structure Bp(w:World)(g gs:Nat)(t:Tg)(i:Nat)(X:Option Addr)(c:Nat)(w':World):Prop where
 wr:Wr w' g t X (amt i) c
 fns:Row w' gs 57 5 (fnF g)
 new:w.heap.size<=g/\∀x,x∈aR X->w.heap.size<=x
 ab:Aa [] w w'
theorem Bp.step{w:World}{g gs:Nat}{t:Tg}{i:Nat}{X:Option Addr}{c:Nat}{wr w1:World}{v:Value}(I:Bp w g gs t i X c wr)(h:AS wr g t X (amt (i+1)) v w1):v=.nilIface/\∃Y d,Bp w g gs t (i+1) Y d w1:=by
 obtain⟨rfl,Y,d,h1,k,hn⟩:=h;have hg:gs∉aR X:=I.wr.ly.aP I.fns (by decide);have hg2:gs≠g:=I.fns.ed I.wr.row (by decide);refine⟨rfl,Y,d,h1,I.fns.ab k (by simp[hg,hg2]),⟨I.new.1,fun x hx=>?_⟩,I.ab.then k (fun x hx=>?_)⟩
 ·rcases hn x hx with h|h
  ·exact I.new.2 x h
  ·have:=I.ab.size;omega
 ·rcases List.mem_cons.1 hx with rfl|hx
  ·exact .inr I.new.1
  ·exact .inr (I.new.2 x hx)
def Cf(t:Tg)(w:World)(v:Value)(w':World):Prop:=Aa [] w w'/\((t.ok/\∃Y d,v=.tuple #[.slice Y 50 d,.nilIface]/\Ly w' 5 1 Y 50 d (fun j=>.int .u8 (bU t j))/\∀x,x∈aR Y->w.heap.size<=x)\/(¬t.ok/\v=.tuple #[.slice none 0 0,ak 1]))
theorem wI(t:Tg)(w:World):Spec Tryz.prog 185 #[.agg t.arr] w (Cf t w):=by
 obtain⟨i0,hi,lZ,lP,l4⟩:=info_parts dQ;refine spec_of_wpE (T:=tt) ah func185 rfl (by decide +kernel) ntmps185 (by simp) ?_;conv=>whnf
 refine Ru.wH ?_;intro g1 w1 hg1 du r1 k1;conv=>whnf
 repeat (refine CW.s ?_;conv=>whnf)
 refine Ru.fF r1 ?_;conv=>whnf
 refine Ca.of (ahb t w1) ?_;rintro _ w2 ⟨rfl,k2⟩;have r2:=r1.ab k2 (by simp);have vG:=k1.trans k2;by_cases ht:t.ok
 case neg =>
  have he:t.err=1:=by unfold Tg.err;rw[if_neg ht]
  rw[he];conv=>whnf
  repeat ((first|refine Br.t ?_|refine Ru.n1 ?_);conv=>whnf)
  exact⟨rfl,vG,.inr ⟨ht,rfl⟩⟩
 have he:t.err=0:=by unfold Tg.err;rw[if_pos ht]
 rw[he];conv=>whnf
 repeat ((first|refine Br.f ?_|refine Ru.ai ?_);conv=>whnf)
 refine Ru.fF r2 ?_;conv=>whnf
 refine Ru.of (ahd t w2) ?_;rw[<-ahe t];conv=>whnf
 refine Ru.dt (n:=6) (s:=wrc t (.slice none 0 0)) ?_;intro g w3 hg gG r3 k3;conv=>whnf
 repeat (refine CW.s ?_;conv=>whnf)
 refine Ru.of (aeY g w3) ?_;have r4:Row (w3.alloc (.cells ((Array.range 5).map (fnF g)) 57)) w3.heap.size 57 5 (fnF g):=Row.new _ _ _ _;have k4:Aa [] w3 (w3.alloc (.cells ((Array.range 5).map (fnF g)) 57)):=(Aa.refl _ _).alloc _;have r34:=r3.ab k4 (by simp);generalize w3.alloc (.cells ((Array.range 5).map (fnF g)) 57)=w4 at *;generalize w3.heap.size=gs at *;have I0:Bp w g gs t 0 none 0 w4:=⟨⟨r34,Ly.nil _ _ _ _⟩,r4,⟨by rw[hg];exact vG.size,fun x hx=>by cases hx⟩,(vG.trans k3).trans k4⟩;conv=>whnf
 refine CW.loop (ι:=Nat×Option Addr×Nat) (fun i wr=>i.1<=5/\Bp w g gs t i.1 i.2.1 i.2.2 wr) (fun i=>[(5,.pointer (some ⟨g,0,none⟩)),(27,.slice (some ⟨gs,0,none⟩) 5 5),(28,.int .i64 5),(29,.int .i64 i.1)]) (fun i=>5-i.1) (0,none,0) ah ⟨by simp,I0⟩ ⟨rfl,rfl,rfl,rfl,trivial⟩ ?_;rintro⟨i,X,c⟩ wr ⟨hi5,I⟩;simp only at hi5 I;have:i=0\/i=1\/i=2\/i=3\/i=4\/i=5:=by omega
 have ff:∀j,j<5->wr.cell? ⟨gs,j,none⟩=some (fnF g j):=fun j hj=>I.fns.cell j hj;rcases this with rfl|rfl|rfl|rfl|rfl|rfl
 ·have f0:=ff 0 (by omega);conv=>whnf
  repeat ((first|(refine Ld.at (by omega) f0 ?_)|refine Br.t ?_|refine Ix.n ?_|refine CW.s ?_);conv=>whnf)
  refine Ca.of (ahc wr g t X c I.wr ht) ?_;intro v w5 hp;obtain⟨rfl,Y,d,I⟩:=I.step hp;conv=>whnf
  repeat ((first|refine Br.f ?_|refine Ar.la ?_|refine Ru.ai ?_);conv=>whnf)
  exact⟨(1,Y,d),⟨by simp,I⟩,⟨rfl,rfl,rfl,rfl,trivial⟩,by simp only;omega⟩
 ·have f0:=ff 1 (by omega);conv=>whnf
  repeat ((first|(refine Ld.at (by omega) f0 ?_)|refine Br.t ?_|refine Ix.n ?_|refine CW.s ?_);conv=>whnf)
  refine Ca.of (tJ wr g t X c I.wr ht) ?_;intro v w5 hp;obtain⟨rfl,Y,d,I⟩:=I.step hp;conv=>whnf
  repeat ((first|refine Br.f ?_|refine Ar.la ?_|refine Ru.ai ?_);conv=>whnf)
  exact⟨(2,Y,d),⟨by simp,I⟩,⟨rfl,rfl,rfl,rfl,trivial⟩,by simp only;omega⟩
 ·have f0:=ff 2 (by omega);conv=>whnf
  repeat ((first|(refine Ld.at (by omega) f0 ?_)|refine Br.t ?_|refine Ix.n ?_|refine CW.s ?_);conv=>whnf)
  refine Ca.of (amu wr g t X c I.wr ht) ?_;intro v w5 hp;obtain⟨rfl,Y,d,I⟩:=I.step hp;conv=>whnf
  repeat ((first|refine Br.f ?_|refine Ar.la ?_|refine Ru.ai ?_);conv=>whnf)
  exact⟨(3,Y,d),⟨by simp,I⟩,⟨rfl,rfl,rfl,rfl,trivial⟩,by simp only;omega⟩
 ·have f0:=ff 3 (by omega);conv=>whnf
  repeat ((first|(refine Ld.at (by omega) f0 ?_)|refine Br.t ?_|refine Ix.n ?_|refine CW.s ?_);conv=>whnf)
  refine Ca.of (aeX wr g t X c I.wr ht) ?_;intro v w5 hp;obtain⟨rfl,Y,d,I⟩:=I.step hp;conv=>whnf
  repeat ((first|refine Br.f ?_|refine Ar.la ?_|refine Ru.ai ?_);conv=>whnf)
  exact⟨(4,Y,d),⟨by simp,I⟩,⟨rfl,rfl,rfl,rfl,trivial⟩,by simp only;omega⟩
 ·have f0:=ff 4 (by omega);conv=>whnf
  repeat ((first|(refine Ld.at (by omega) f0 ?_)|refine Br.t ?_|refine Ix.n ?_|refine CW.s ?_);conv=>whnf)
  refine Ca.of (akh wr g t X c I.wr) ?_;intro v w5 hp;obtain⟨rfl,Y,d,I⟩:=I.step hp;conv=>whnf
  repeat ((first|refine Br.f ?_|refine Ar.la ?_|refine Ru.ai ?_);conv=>whnf)
  exact⟨(5,Y,d),⟨by simp,I⟩,⟨rfl,rfl,rfl,rfl,trivial⟩,by simp only;omega⟩
 ·clear ff;have c5:wr.cell? ⟨g,5,none⟩=some (.slice X 10 c):=I.wr.row.cell 5 (by omega);conv=>whnf
  repeat ((first|refine Br.f ?_|refine CW.s ?_);conv=>whnf)
  refine CW.held (fun w'=>w'.cell? ⟨g,5,none⟩=some (.slice X 10 c)) [] (.take 0 (.take 1 (.take 2 (.take 3 (.take 4 (.take 5 (.take 6 (.take 7 (.take 8 (.take 9 (.one 10 (.take 11 (.take 12 (.done)))))))))))))) ah (by kernel_rfl) (by kernel_rfl) (by kernel_rfl) ?_ ?_
  ·exact c5
  conv=>whnf
  repeat ((first|(refine Ah.at (by omega) (fun _ h=>h) ?_)|refine Ar.la ?_);conv=>whnf)
  have vj:g∉aR X:=I.wr.ly.aP I.wr.row (by decide);refine Bu.akg underlying37 underlying3 hi lZ lP l4 (I.wr.ly.aj ((Aa.refl [] wr).drewN 1)) (by decide) (m:=40) (by omega) (by decide) ?_;intro Y d w5 hy k5 dC;conv=>whnf
  have k5':Aa (aR X) wr w5:=((Aa.refl _ wr).drewN 1).trans k5;refine⟨(k5'.cell (p:=⟨g,5,none⟩) I.wr.row.lt vj).trans c5,?_⟩;conv=>whnf
  refine⟨rfl,I.ab.then k5' (fun x hx=>.inr (I.new.2 x hx)),.inl ⟨ht,Y,d,rfl,hy.congr (fun j hj=>?_),fun x hx=>?_⟩⟩
  ·by_cases h:j<amt 5
   ·rw[if_pos h]
   ·rw[if_neg h];have h:¬j<10:=h;unfold bU;rw[if_neg (by omega),if_neg (by omega),if_neg (by omega),if_neg (by omega),if_neg (by omega)]
  ·rcases dC with e|e
   ·rw[e] at hx;exact I.new.2 x hx
   ·rw[e] at hx;rw[List.mem_singleton.1 hx];exact I.ab.size
end
section
open Go.RowKit
def eI(f:Nat->Int):Tg:=⟨numOf f 2,f 2,numOf (fun j=>f (3+j)) 5,f 8,decide (f 9=1)⟩
def me(f:Nat->Int):Prop:=(eI f).ok/\∀j,j<50->bU (eI f) j=f j
open Classical in
noncomputable def yE(n:Nat)(f:Nat->Int):Tg×Int:=if n=50 then (if me f then (eI f,0) else (Tg.zero,3)) else (Tg.zero,1)
theorem aki{n:Nat}{f:Nat->Int}(h:n≠50):yE n f=(Tg.zero,1):=if_neg h
theorem aar{f:Nat->Int}(h:¬me f):yE 50 f=(Tg.zero,3):=by unfold yE;rw[if_pos rfl,if_neg h]
theorem adA{f:Nat->Int}(h:me f):yE 50 f=(eI f,0):=by unfold yE;rw[if_pos rfl,if_pos h]
theorem tK(a b c d:Int)(l:Bool)(w:World):(Instr.build 67 #[(0,.int .i64 a),(1,.int .i64 b),(2,.int .i64 c),(3,.int .i64 d),(4,.bool l)]).run Tryz.prog w=.ok (.agg (Tg.mk a b c d l).arr) w:=by kernel_rfl
theorem mT(w:World):(Instr.build 67 #[]).run Tryz.prog w=.ok (.agg Tg.zero.arr) w:=by kernel_rfl
theorem adB:kF Tryz.prog 5 1=true:=by kernel_rfl
theorem ahf(A:Option Addr)(n c:Nat)(f:Nat->Int)(w:World)(r:Rd w A n (fun j=>.int .u8 (f j)))(hf:∀j,0<=f j/\f j<=255)(hn:1<=n)(hn8:n<=8) :
  Spec Tryz.prog 192 #[.slice A n c] w fun v w'=>v=.tuple #[.int .u64 (numOf f n),.nilIface]/\w=w':=Spec.jH (by kernel_rfl) (amp A n c f w r hf hn hn8)
theorem Rd.part{w:World}{b o n m k:Nat}{f:Nat->Value}(r:Rd w (some ⟨b,o,none⟩) n f)(h:k+m<=n):Rd w (some ⟨b,o+k,none⟩) m (fun j=>f (k+j)):=fun hm=>by
 obtain⟨b',o',e,hc⟩:=r (by omega);injection e with e;injection e with e1 e2 _;subst e1;subst e2;exact⟨_,_,rfl,fun j hj=>by rw[Nat.add_assoc];exact hc (k+j) (by omega)⟩
theorem aeZ(A:Option Addr)(n c:Nat)(f:Nat->Int)(w:World)(r:Rd w A n (fun j=>.int .u8 (f j)))(hf:∀j,0<=f j/\f j<=255)(hn:n<=c) :
  Spec Tryz.prog 168 #[.slice A n c] w fun v w'=>v=.tuple #[.agg (yE n f).1.arr,ak (yE n f).2]/\Aa [] w w':=by
 refine spec_of_wpE (T:=tt) ah func168 rfl (by decide +kernel) ntmps168 (by simp) ?_;conv=>whnf
 refine Ru.fp ?_;intro g w1 hg du r1 k1;by_cases h50:n=50
 case neg =>
  rw[aki h50];conv=>whnf
  repeat ((first|refine Br.nn ?_|refine CW.s ?_);conv=>whnf)
  refine Ru.of (mT _) ?_;conv=>whnf
  refine Ru.kQ (t:=Tg.zero) r1 ?_;intro w2 r2 k2;conv=>whnf
  refine Ru.fF r2 ?_;exact⟨rfl,rfl,k1.then k2 (fun x hx=>.inr (by rw[List.mem_singleton.1 hx,hg];exact Nat.le_refl _))⟩
 subst h50;obtain⟨b,o,rfl,hc⟩:=r (by omega);have R1:=r.aj k1;have n2:numOf f 2<65536:=(mb f hf 2).2;have n5:numOf (fun j=>f (3+j)) 5<1099511627776:=(mb (fun j=>f (3+j)) (fun j=>hf _) 5).2;have m2:=(mb f hf 2).1;have m5:=(mb (fun j=>f (3+j)) (fun j=>hf _) 5).1;conv=>whnf
 repeat ((first|refine Br.f ?_|refine CW.s ?_);conv=>whnf)
 refine Ru.aeN underlying37 adB (h:=2) (by omega) ?_;conv=>whnf
 refine Ca.of (ahf _ 2 c f w1 (R1.oR (by omega)) hf (by omega) (by omega)) ?_;rintro _ _ ⟨rfl,rfl⟩;conv=>whnf
 repeat ((first|refine Br.f ?_|refine Ru.ai ?_|refine CW.s ?_);conv=>whnf)
 refine Ru.adt underlying37 adB (l:=3) (h:=8) (by omega) (by omega) (by omega) ?_;conv=>whnf
 refine Ca.of (ahf _ 5 (c-3) (fun j=>f (3+j)) w1 (R1.part (k:=3) (m:=5) (by omega)) (fun j=>hf _) (by omega) (by omega)) ?_;rintro _ _ ⟨rfl,rfl⟩;conv=>whnf
 repeat ((first|refine Br.f ?_|refine Ru.ai ?_|refine CW.s ?_);conv=>whnf)
 have hc1:∀j,j<50->w1.cell? ⟨b,o+j,none⟩=some (.int .u8 (f j)):=fun j hj=>(k1.cell (p:=⟨b,o+j,none⟩) (aI (hc j hj)) (by simp)).trans (hc j hj);refine CW.held (fun w'=>∀j,j<50->w'.cell? ⟨b,o+j,none⟩=some (.int .u8 (f j))) [18] (.take 0 (.take 1 (.take 2 (.take 3 (.take 4 (.take 5 (.take 6 (.take 7 (.take 8 (.take 9 (.take 10 (.take 11 (.take 12 (.take 13 (.take 14 (.take 15 (.take 16 (.one 17 (.one 18 (.done)))))))))))))))))))) ah (by kernel_rfl) (by kernel_rfl) (by kernel_rfl) ?_ ?_
 ·exact hc1
 have f2:=hf 2;have f8:=hf 8;have f9:=hf 9;conv=>whnf
 repeat ((first|(refine Ah.at rfl (fun _ h=>h _ (by omega)) ?_)|(refine Ix.of 2 rfl (by omega) ?_)|(refine Ix.of 8 rfl (by omega) ?_)|(refine Ix.of 9 rfl (by omega) ?_)|refine Ar.la ?_);conv=>whnf)
 refine Ad.of (fun _ _=>tK _ _ _ _ _ _) ?_;have ht:Tg.mk (numOf f 2) (f 2) (numOf (fun j=>f (3+j)) 5) (f 8) (decide (f 9=1))=eI f:=rfl;rw[ht];clear ht;have cL:¬((eI f).ok/\∀j,j<50->bU (eI f) j=f j)->yE 50 f=(Tg.zero,3):=aar;have aob:((eI f).ok/\∀j,j<50->bU (eI f) j=f j)->yE 50 f=(eI f,0):=adA;generalize eI f=t at *;conv=>whnf
 refine Ru.fp ?_;intro g7 w2 hg7 fE r7 k2;have k2':Aa [] w1 w2:=((Aa.refl [] w1).drewN 1).trans k2;have lT:∀j,j<50->w2.cell? ⟨b,o+j,none⟩=some (.int .u8 (f j)):=fun j hj=>(k2'.cell (p:=⟨b,o+j,none⟩) (aI (hc1 j hj)) (by simp)).trans (hc1 j hj);conv=>whnf
 refine⟨lT,?_⟩;conv=>whnf
 refine Ru.kQ (t:=t) r7 ?_;intro w3 r7 k3;have zZ:Aa [] w1 w3:=k2'.then k3 (fun x hx=>.inr (by rw[List.mem_singleton.1 hx,hg7];exact Nat.le_refl _));conv=>whnf
 refine Ru.fF r7 ?_;conv=>whnf
 refine Ca.of (wI t w3) ?_;rintro v w4 ⟨k4,hv⟩;have k14:=zZ.trans k4;have r1:=r1.ab k14 (by simp);have r7:=r7.ab k4 (by simp);have R4:=R1.aj k14;have amv:∀w9,Aa [g] w4 w9->Aa [] w w9:=fun w9 k9=>(k1.trans k14).then k9 (fun x hx=>.inr (by rw[List.mem_singleton.1 hx,hg];exact Nat.le_refl _));rcases hv with⟨rv,Y,d,rfl,hy,gN⟩|⟨rv,rfl⟩
 ·conv=>whnf
  repeat ((first|refine Br.f ?_|refine Ru.ai ?_|refine CW.s ?_);conv=>whnf)
  refine Ca.of (nN Y (some ⟨b,o,none⟩) 50 50 d c (bU t) f w4 hy.u9 R4 (tI t) hf) ?_;rintro _ _ ⟨rfl,rfl⟩;by_cases hs:∀j,j<50->bU t j=f j
  ·rw[aob ⟨rv,hs⟩,jM rfl hs];conv=>whnf
   repeat ((first|refine Br.f ?_|refine Pk.f ?_);conv=>whnf)
   refine Ru.fF r7 ?_;conv=>whnf
   refine Ru.kQ (t:=t) r1 ?_;intro w5 r5 k5;conv=>whnf
   refine Ru.fF r5 ?_;exact⟨rfl,rfl,amv _ k5⟩
  ·have fE:wm 50 50 (bU t) f=false:=decide_eq_false (fun h=>hs h.2);rw[cL (fun h=>hs h.2),fE];conv=>whnf
   repeat ((first|refine Br.t ?_|refine Br.f ?_|refine Pk.f ?_);conv=>whnf)
   refine Ru.of (mT _) ?_;conv=>whnf
   refine Ru.kQ (t:=Tg.zero) r1 ?_;intro w5 r5 k5;conv=>whnf
   refine Ru.fF r5 ?_;exact⟨rfl,rfl,amv _ k5⟩
 ·rw[cL (fun h=>rv h.1)];conv=>whnf
  repeat ((first|refine Br.t ?_|refine Pk.t ?_|refine Ru.n1 ?_|refine CW.s ?_);conv=>whnf)
  refine Ru.of (mT _) ?_;conv=>whnf
  refine Ru.kQ (t:=Tg.zero) r1 ?_;intro w5 r5 k5;conv=>whnf
  refine Ru.fF r5 ?_;exact⟨rfl,rfl,amv _ k5⟩
end
section
open Go.RowKit
attribute [local irreducible] GF.pw GF.lg GF.mul GF.inv GF.xt
open Classical in
noncomputable def eJ(W:Nat->Nat):Option (Nat->Nat):=if h:∃V,Near V W then some h.choose else none
theorem ae0{C V p:Nat->Nat}(h:Near C p)(h':Near V p):∀i,i<64->C i=V i:=wE (p:=p) h.1 h'.1 h.2.1 h'.2.1 (by have:=h.2.2;have:=h'.2.2;omega)
theorem mU{W V:Nat->Nat}(h:eJ W=some V):Near V W:=by
 unfold eJ at h;split at h
 ·rename_i hx
  cases h
  exact hx.choose_spec
 ·cases h
theorem ae1{W:Nat->Nat}(h:eJ W=none):∀V,¬Near V W:=fun V hV=>by
 unfold eJ at h;split at h
 ·cases h
 ·rename_i hx
  exact hx ⟨V,hV⟩
theorem jR{W V:Nat->Nat}(h:Near V W):∃V',eJ W=some V'/\∀i,i<64->V' i=V i:=by
 cases hd:eJ W with
 |none=>exact absurd h (ae1 hd V)
 |some V'=>exact⟨V',rfl,ae0 (mU hd) h⟩
theorem aas{W:Nat->Nat}(h:Dd W):eJ W=none:=by
 cases hd:eJ W with
 |none=>rfl
 | some V =>
  obtain⟨h1,h2,h3⟩:=mU hd;have:=h V h1 h2;omega
theorem kR{V V' W:Nat->Nat}(h:∀i,i<64->V i=V' i):GF.cm V W=GF.cm V' W:=by
 unfold GF.cm GF.iN;congr 1;apply List.filter_congr;intro i hi;rw[h i (List.mem_range.1 hi)]
structure AP where
 tagged:Bool
 tag:Tg
 sound:Bool
 iP:Nat
 data:Nat->Nat
def lC(p:Nat->Nat)(r:Nat->Option (Nat->Nat)):Nat->Nat
 |0=>0
 |k+1=>max (lC p r k) (match r k with|some V=>GF.cm V (gk p k)|none=>0)
def AJ(V:Nat->Nat)(a:Nat):Prop:=Ap (bB V)/\me (bB V)/\(eI (bB V)).place=a
open Classical in
noncomputable def rA(r:Nat->Option (Nat->Nat))(d a:Nat):AP :=
 match r 3 with
 |none=>⟨false,Tg.zero,false,d,fun _=>0⟩
 | some V=>if AJ V a then
   (if (r 0).isSome/\(r 1).isSome/\(r 2).isSome then ⟨true,eI (bB V),true,d,fun j=>((r (j/58)).getD (fun _=>0)) (j%58)⟩ else ⟨true,eI (bB V),false,d,fun _=>0⟩)
  else ⟨false,Tg.zero,false,d,fun _=>0⟩
noncomputable def dX(p:Nat->Nat)(a:Nat):AP:=rA (fun k=>eJ (gk p k)) (lC p (fun k=>eJ (gk p k)) 4) a
def rC(tg:Bool)(t:Tg)(s:Bool)(dv:Value)(d:Int)(j:Nat):Value:=if j=0 then .bool tg else if j<6 then t.cell (j-1) else if j=6 then .bool s else if j=7 then dv else .int .i64 d
theorem nine{j:Nat}(h:j<9):j=0\/j=1\/j=2\/j=3\/j=4\/j=5\/j=6\/j=7\/j=8:=by omega
section
variable{tg s:Bool}{t:Tg}{dv:Value}{d:Int}
theorem aoc(d':Int)(j:Nat)(h:j<9):put (rC tg t s dv d) 8 (.int .i64 d') j=rC tg t s dv d' j:=by
 rcases nine h with rfl|rfl|rfl|rfl|rfl|rfl|rfl|rfl|rfl<;>rfl
theorem amw(b:Bool)(j:Nat)(h:j<9):put (rC tg t s dv d) 0 (.bool b) j=rC b t s dv d j:=by
 rcases nine h with rfl|rfl|rfl|rfl|rfl|rfl|rfl|rfl|rfl<;>rfl
theorem aod(b:Bool)(j:Nat)(h:j<9):put (rC tg t s dv d) 6 (.bool b) j=rC tg t b dv d j:=by
 rcases nine h with rfl|rfl|rfl|rfl|rfl|rfl|rfl|rfl|rfl<;>rfl
theorem amx(v:Value)(j:Nat)(h:j<9):put (rC tg t s dv d) 7 v j=rC tg t s v d j:=by
 rcases nine h with rfl|rfl|rfl|rfl|rfl|rfl|rfl|rfl|rfl<;>rfl
theorem aoe(t':Tg)(j:Nat)(h:j<9):lay (rC tg t s dv d) 1 5 t'.cell j=rC tg t' s dv d j:=by
 rcases nine h with rfl|rfl|rfl|rfl|rfl|rfl|rfl|rfl|rfl<;>rfl
theorem gH(h:dv.oneCell'=true)(j:Nat)(hj:j<9):(rC tg t s dv d j).oneCell'=true:=by
 rcases nine hj with rfl|rfl|rfl|rfl|rfl|rfl|rfl|rfl|rfl<;>first|rfl|exact h
end
def adC:Array Value := #[.bool false,.int .i64 0,.int .i64 0,.int .i64 0,.int .i64 0,.bool false,.bool false,.slice none 0 0,.int .i64 0]
theorem aat:(Array.range 9).map (rC false Tg.zero false (.slice none 0 0) 0)=adC:=by
 apply Array.ext
 ·simp[adC]
 ·intro i h1 h2;simp only[Array.getElem_map,Array.getElem_range];rcases nine (j:=i) (by simpa using h1) with rfl|rfl|rfl|rfl|rfl|rfl|rfl|rfl|rfl<;>rfl
theorem wJ:(Tryz.prog.info? 149).map (·.size)=some 9:=by kernel_rfl
theorem aau(w:World):(Instr.alloc 149 true (.tuple #[])).run Tryz.prog w=.ok (.pointer (some ⟨w.heap.size,0,none⟩)) (w.alloc (.cells adC 149)):=by kernel_rfl
theorem cv(w:World):(Instr.alloc 149 true (.tuple #[])).run Tryz.prog w=.ok (.pointer (some ⟨w.heap.size,0,none⟩)) (w.alloc (fH 9 (rC false Tg.zero false (.slice none 0 0) 0) 149)):=by
 rw[aau, <-aat];rfl
theorem aav(w:World):(Instr.build 149 #[]).run Tryz.prog w=.ok (.agg adC) w:=by kernel_rfl
theorem ach(w:World):(Instr.build 149 #[]).run Tryz.prog w=.ok (agg 9 (rC false Tg.zero false (.slice none 0 0) 0)) w:=by
 rw[aav, <-aat];rfl
def akj(c f:Nat)(n:Int)(j:Nat):Value:=if j=0 then .pointer (some ⟨c,0,none⟩) else if j=1 then .pointer (some ⟨f,0,none⟩) else .int .i64 n
structure Aw(w:World)(m c f cd g h:Nat)(C:Chip)(n:Int):Prop where
 row:Row w m 250 3 (akj c f n)
 dz:Ab w c C
 jf:Frm w f cd g h
theorem FS.ty{w:World}{g:Nat}(h:FS w g):∃F,Row w g 318 769 F:=by
 rcases h with r|r<;>exact⟨_,r⟩
section
variable{w w':World}{m c f cd g h:Nat}{C:Chip}{n:Int}
theorem Aw.mc(H:Aw w m c f cd g h C n):m≠c:=H.row.ed H.dz (by decide)
theorem Aw.mf(H:Aw w m c f cd g h C n):m≠f:=H.row.ed H.jf.row (by decide)
theorem Aw.md(H:Aw w m c f cd g h C n):m≠cd:=H.row.ed H.jf.iB.row (by decide)
theorem Aw.mh(H:Aw w m c f cd g h C n):m≠h:=H.row.ed H.jf.iB.gen (by decide)
theorem Aw.mg(H:Aw w m c f cd g h C n):m≠g:=by
 obtain⟨F,r⟩:=H.jf.iB.fs.ty;exact H.row.ed r (by decide)
theorem Aw.cf(H:Aw w m c f cd g h C n):c≠f:=Row.ed H.dz H.jf.row (by decide)
theorem Aw.cd'(H:Aw w m c f cd g h C n):c≠cd:=Row.ed H.dz H.jf.iB.row (by decide)
theorem Aw.ch(H:Aw w m c f cd g h C n):c≠h:=Row.ed H.dz H.jf.iB.gen (by decide)
theorem Aw.cg(H:Aw w m c f cd g h C n):c≠g:=by
 obtain⟨F,r⟩:=H.jf.iB.fs.ty;exact Row.ed H.dz r (by decide)
theorem Aw.ab{S:List Nat}(H:Aw w m c f cd g h C n)(k:Aa S w w')(hm:m∉S)(hc:c∉S)(hf:f∉S)(hd:cd∉S)(hg:g∉S)(hh:h∉S):Aw w' m c f cd g h C n:=⟨H.row.ab k hm,H.dz.ab k hc,H.jf.aj k hf hd hg hh⟩
theorem Aw.aj(H:Aw w m c f cd g h C n)(k:Aa [] w w'):Aw w' m c f cd g h C n:=H.ab k (by simp) (by simp) (by simp) (by simp) (by simp) (by simp)
theorem Aw.of(H:Aw w m c f cd g h C n)(k:FK w g w'):Aw w' m c f cd g h C n:=⟨H.row.ab k.kp (by simpa using H.mg),H.dz.ab k.kp (by simpa using H.cg),H.jf.of k⟩
theorem Aw.yF{C':Chip}(H:Aw w m c f cd g h C n)(k:Aa [c] w w')(hc:Ab w' c C'):Aw w' m c f cd g h C' n :=
 ⟨H.row.ab k (by simpa using H.mc),hc,H.jf.aj k (by simpa using H.cf.symm) (by simpa using H.cd'.symm) (by simpa using H.cg.symm) (by simpa using H.ch.symm)⟩
theorem Aw.lt(H:Aw w m c f cd g h C n):m<w.heap.size/\c<w.heap.size/\f<w.heap.size/\cd<w.heap.size/\g<w.heap.size/\h<w.heap.size:=⟨H.row.lt,Row.lt H.dz,H.jf.row.lt,H.jf.iB.row.lt,H.jf.iB.fs.lt,H.jf.iB.gen.lt⟩
end
def AY(w w':World)(R:AP)(dv:Value):Prop:=(R.sound=true/\∃O oc,dv=.slice O 174 oc/\(∀x,x∈aR O->w.heap.size<=x)/\Ly w' 5 1 O 174 oc (fun j=>.int .u8 (R.data j:Nat)))\/(R.sound=false/\dv=.slice none 0 0)
def BP(w:World)(m c f cd g h a:Nat)(C:Chip)(n:Int)(v:Value)(w':World):Prop :=
 (C.off=true/\v=.tuple #[agg 9 (rC false Tg.zero false (.slice none 0 0) 0),ak 7]/\Aw w' m c f cd g h C n/\Aa [] w w') \/
 (C.off=false/\∃dv,AY w w' (dX (eO C a) a) dv/\v=.tuple #[agg 9 (rC (dX (eO C a) a).tagged (dX (eO C a) a).tag (dX (eO C a) a).sound dv ((dX (eO C a) a).iP:Nat)),ak 0]/\Aw w' m c f cd g h (C.bL a) (iz (n+1))/\Aa [m,c,g] w w')
theorem Ru.eS{w:World}{x:Nat}{F s:Nat->Value}{K:Unit->World->Prop}(r:Row w x 149 9 F)(h1:∀j,j<9->(s j).oneCell'=true)(k:∀w',Row w' x 149 9 s->Aa [x] w w'->K () w'):Ru Tryz.prog (storeVar 149 ⟨x,0,none⟩ (agg 9 s)) w K :=
 Ru.gY r wJ (by omega) h1 (fun w' r' k'=>k w' (r'.congr (fun j hj=>by
  unfold lay;rw[if_pos (by omega),Nat.sub_zero])) k')
theorem Ru.ei{w:World}{x:Nat}{s:Nat->Value}{K:Value->World->Prop}(r:Row w x 149 9 s)(k:K (agg 9 s) w):Ru Tryz.prog (loadVar 149 ⟨x,0,none⟩) w K :=
 Ru.cG r underlying149 rfl wJ (by omega) (q:=s) (fun j _=>by rw[Nat.zero_add]) k
theorem cW{f g:Nat->Int}:∀(n:Nat),(∀j,j<n->f j=g j)->numOf f n=numOf g n
 |0,_=>rfl
 | n+1,h=>by
  rw[kP,kP,cW n (fun j hj=>h j (by omega)),h n (by omega)]
section
variable{V V':Nat->Nat}
theorem fz(h:∀i,i<64->V i=V' i){j:Nat}(hj:j<64):bB V j=bB V' j:=by
 unfold bB;rw[h j hj]
theorem Ap.congr(h:∀i,i<64->V i=V' i)(k:Ap (bB V)):Ap (bB V'):=fun j hj=>by
 rw[<-fz h (by omega)];exact k j hj
theorem oB(h:∀i,i<64->V i=V' i):eI (bB V)=eI (bB V'):=by
 unfold eI;rw[cW (g:=bB V') 2 (fun j hj=>fz h (by omega)),cW (f:=fun j=>bB V (3+j)) (g:=fun j=>bB V' (3+j)) 5 (fun j hj=>fz h (by omega)),fz h (j:=2) (by omega),fz h (j:=8) (by omega),fz h (j:=9) (by omega)]
theorem me.congr(h:∀i,i<64->V i=V' i)(k:me (bB V)):me (bB V'):=by
 unfold me at k ⊢;rw[<-oB h];exact⟨k.1,fun j hj=>by rw[k.2 j hj];exact fz h (by omega)⟩
theorem AJ.congr{a:Nat}(h:∀i,i<64->V i=V' i)(k:AJ V a):AJ V' a:=⟨k.1.congr h,k.2.1.congr h,by rw[<-oB h];exact k.2.2⟩
end
theorem oC{r:Nat->Option (Nat->Nat)}{d a:Nat}(h:∀V,r 3=some V->¬AJ V a):rA r d a=⟨false,Tg.zero,false,d,fun _=>0⟩:=by
 unfold rA
 cases hr:r 3 with
 |none=>rfl
 |some V=>exact if_neg (h V hr)
theorem ae2{r:Nat->Option (Nat->Nat)}{d a:Nat}{V:Nat->Nat}(h:r 3=some V)(ht:AJ V a)(hs:¬((r 0).isSome/\(r 1).isSome/\(r 2).isSome)):rA r d a=⟨true,eI (bB V),false,d,fun _=>0⟩:=by
 unfold rA;rw[h];simp only;rw[if_pos ht,if_neg hs]
theorem qs{r:Nat->Option (Nat->Nat)}{d a:Nat}{V:Nat->Nat}(h:r 3=some V)(ht:AJ V a)(hs:(r 0).isSome/\(r 1).isSome/\(r 2).isSome):rA r d a=⟨true,eI (bB V),true,d,fun j=>((r (j/58)).getD (fun _=>0)) (j%58)⟩:=by
 unfold rA;rw[h];simp only;rw[if_pos ht,if_pos hs]
theorem apZ(v:Value):Value.agg #[v]=agg 1 (fun _=>v):=by
 unfold agg;simp[Array.range,Array.ofFn_succ]
theorem aci(A:Option Addr)(w:World):(Instr.build 274 #[(0,.pointer A)]).run Tryz.prog w=.ok (.agg #[.pointer A]) w:=by kernel_rfl
theorem Ru.amy{w:World}{x:Nat}{tg s:Bool}{t t':Tg}{dv:Value}{d:Int}{o:Nat}{K:Unit->World->Prop}(r:Row w x 149 9 (rC tg t s dv d))(e:o=1)(k:∀w',Row w' x 149 9 (rC tg t' s dv d)->Aa [x] w w'->K () w'):Ru Tryz.prog (storeVar 67 ⟨x,o,none⟩ (.agg t'.arr)) w K:=by
 subst e;rw[acf];exact Ru.gY r tG (by omega) (tH t') (fun w' r' k'=>k w' (r'.congr (fun j hj=>aoe t' j hj)) k')
theorem Ad.fF{C:World->Prop}{g:Nat}{ty:TypeId}{t:Tg}{K:Value->Prop}(r:∀w,C w->Row w g ty 5 t.cell)(k:K (.agg t.arr)):Ad Tryz.prog C (loadVar 67 ⟨g,0,none⟩) K:=⟨_,fun w hw=>acg (r w hw) (by omega) (fun j _=>by rw[Nat.zero_add]),k⟩
theorem akk(w:World):Spec Tryz.prog 171 #[] w fun v w'=>∃f cd g h,w.heap.size<=f/\w.heap.size<=cd/\w.heap.size<=g/\w.heap.size<=h/\v=.pointer (some ⟨f,0,none⟩)/\Frm w' f cd g h/\Aa [] w w':=by
 refine spec_of_wpE (T:=tt) ah func171 rfl (by decide +kernel) ntmps171 (by simp) ?_;conv=>whnf
 refine Ca.of (agK w) ?_;rintro _ w1 ⟨cd,g,h,hc,hg,hh,rfl,H,k1⟩;conv=>whnf
 refine Ru.of ((aci _ w1).trans (by rw[apZ])) ?_;conv=>whnf
 refine Ru.dt ?_;intro f w2 hf fE r2 k2;conv=>whnf
 have hl:=H.fs.lt;have du:=k1.size;exact⟨rfl,f,cd,g,h,by omega,hc,hg,hh,rfl,⟨r2,H.aj k2 (by simp) (by simp) (by simp),by omega⟩,k1.trans k2⟩
theorem acj(A B:Option Addr)(w:World):(Instr.build 250 #[(0,.pointer A),(1,.pointer B)]).run Tryz.prog w=.ok (.agg #[.pointer A,.pointer B,.int .i64 0]) w:=by kernel_rfl
theorem three{j:Nat}(h:j<3):j=0\/j=1\/j=2:=by omega
theorem ae3(c f:Nat)(w:World):(Instr.build 250 #[(0,.pointer (some ⟨c,0,none⟩)),(1,.pointer (some ⟨f,0,none⟩))]).run Tryz.prog w=.ok (agg 3 (akj c f 0)) w:=by
 rw[acj];unfold agg;congr 2;apply Array.ext
 ·simp
 ·intro i h1 h2;simp only[Array.getElem_map,Array.getElem_range];rcases three (j:=i) (by simpa using h1) with rfl|rfl|rfl<;>rfl
theorem yG(w:World)(c:Nat)(C:Chip)(H:Ab w c C):Spec Tryz.prog 119 #[.pointer (some ⟨c,0,none⟩)] w fun v w'=>∃m f cd g h,w.heap.size<=m/\w.heap.size<=f/\w.heap.size<=cd/\w.heap.size<=g/\w.heap.size<=h/\v=.pointer (some ⟨m,0,none⟩)/\Aw w' m c f cd g h C 0/\Aa [] w w':=by
 refine spec_of_wpE (T:=tt) ah func119 rfl (by decide +kernel) ntmps119 (by simp) ?_;conv=>whnf
 refine Ca.of (akk w) ?_;rintro _ w1 ⟨f,cd,g,h,hf,hc,hg,hh,rfl,F,k1⟩;conv=>whnf
 refine Ru.of (ae3 c f w1) ?_;conv=>whnf
 refine Ru.dt ?_;intro m w2 hm fE r2 k2;conv=>whnf
 have du:=k1.size;exact⟨rfl,m,f,cd,g,h,by omega,hf,hc,hg,hh,rfl,⟨r2,(H.ab k1 (by simp)).ab k2 (by simp),F.aj k2 (by simp) (by simp) (by simp) (by simp)⟩,k1.trans k2⟩
theorem amz(c f:Nat)(n n':Int)(j:Nat)(h:j<3):put (akj c f n) 2 (.int .i64 n') j=akj c f n' j:=by
 rcases three h with rfl|rfl|rfl<;>rfl
theorem aaw(w:World)(m c f cd g h a:Nat)(C:Chip)(n:Int)(H:Aw w m c f cd g h C n)(hw:C.Wf)(ha:a<96) :
  Spec Tryz.prog 115 #[.pointer (some ⟨m,0,none⟩),.int .i64 a] w (BP w m c f cd g h a C n):=by
 have hmc:=H.mc;have hmg:=H.mg;have hcg:=H.cg;have av:=H.lt;refine spec_of_wpE (T:=tt) ah func115 rfl (by decide +kernel) ntmps115 (by simp) ?_;conv=>whnf
 refine Ru.aF (cv w) ?_;intro x4 w1 pY du r4 k1;have H1:=H.aj k1;conv=>whnf
 repeat ((refine Ld.rowAt H1.row 0 (by omega) (by omega) ?_);conv=>whnf)
 refine Ca.of (agO w1 c a C H1.dz ha) ?_;rintro v w2 hv;rcases hv with⟨cO,rfl,rfl⟩|⟨cO,b,e,rfl,hb,ly,lT,k2⟩
 ·conv=>whnf
  repeat ((first|refine Br.t ?_|refine Ru.n1 ?_|refine CW.s ?_);conv=>whnf)
  refine Ru.of (ach _) ?_;conv=>whnf
  refine Ru.eS r4 (gH rfl) ?_;intro w3 r5 k3;conv=>whnf
  refine Ru.ei r5 ?_;conv=>whnf
  exact⟨rfl,.inl ⟨cO,rfl,H1.ab k3 (by simp;omega) (by simp;omega) (by simp;omega) (by simp;omega) (by simp;omega) (by simp;omega),k1.then k3 (fun x hx=>.inr (by rw[List.mem_singleton.1 hx];omega))⟩⟩
 have H2:=H1.yF k2 lT;have lH:=r4.ab k2 (by simp;omega);have fE:=k2.size;clear lT;generalize hp:eO C a=p at *;have hpl:∀j,p j<256:=fun j=>by rw[<-hp];exact hw.now _ _ _
 conv=>whnf
 repeat ((first|refine Br.f ?_|refine Ru.ai ?_|refine CW.s ?_);conv=>whnf)
 refine Ca.of (adh m 2 n 1 (iz (n+1)) rfl w2 (H2.row.cell 2 (by omega)) (Row.free H2.row _)) ?_;rintro _ w3 ⟨rfl,rfl⟩;have rm3:=(H2.row.set 2 (.int .i64 (iz (n+1)))).congr (fun j hj=>amz c f n _ j hj);have k3:Aa [m] w2 (w2.setCell ⟨m,2,none⟩ (.int .i64 (iz (n+1)))):=Aa.set m 2 _;generalize w2.setCell _ _=w3 at *;have hbm:b≠m:=by omega
 have H3:Aw w3 m c f cd g h (C.bL a) (iz (n+1)):=⟨rm3,H2.dz.ab k3 (by simp;omega),H2.jf.aj k3 (by simp;have:=H.mf;omega) (by simp;have:=H.md;omega) (by simp;omega) (by simp;have:=H.mh;omega)⟩;have ly3:=ly.ab k3 (by simpa[aR] using hbm);have fU:=lH.ab k3 (by simp;omega);have gG:=k3.size;conv=>whnf
 refine Ru.aF (cv w3) ?_;intro x8 w4 hx8 ru r8 k4;have H4:=H3.aj k4;have yH:=ly3.aj k4;have hJ:=fU.ab k4 (by simp);have k14:Aa [m,c,g] w1 w4:=((k2.mono (by simp)).trans (k3.mono (by simp))).trans (k4.mono (by simp));have K0:Aa [m,c,g] w w4:=(k1.mono (by simp)).trans k14;have sQ:w.heap.size<=x4/\x4<x8/\b<x8/\b≠x4:=by
  have:=Ly.lt ly3 rfl;have:=lH.lt;simp only at *;omega
 conv=>whnf
 repeat (refine CW.s ?_;conv=>whnf)
 refine CW.loop (ι:=Nat) (fun i w'=>i<=4/\Row w' x8 149 9 (rC false Tg.zero false (.slice none 0 0) ((lC p (fun k=>eJ (gk p k)) i:Nat):Int))/\Frm w' f cd g h/\Aa [g,x8] w4 w') (fun i=>[(0,.pointer (some ⟨m,0,none⟩)),(1,.int .i64 a),(4,.pointer (some ⟨x4,0,none⟩)),(6,.slice (some ⟨b,0,none⟩) 256 e),(8,.pointer (some ⟨x8,0,none⟩)),(36,.int .i64 i)]) (fun i=>4-i) 0 ah ⟨by omega,r8,H4.jf,Aa.refl _ _⟩ ⟨rfl,rfl,rfl,rfl,rfl,rfl,trivial⟩ ?_;rintro i wr ⟨hi,r8,qU,kr⟩;have aof:=H4.row.ab kr (by simp;omega);have lyr:=yH.ab kr (by simp[aR];omega);have rdb:AH wr (some ⟨b,0,none⟩) 256 p:=lyr.u9;have hec:256<=e:=lyr.1;have aq9:=kr.size;by_cases hl:i<4
 ·conv=>whnf
  repeat ((first|(refine Ld.rowAt aof 1 (by omega) (by omega) ?_)|refine Br.y ?_|refine CW.s ?_);conv=>whnf)
  refine Ca.of (ag0 wr f cd g h e (some ⟨b,0,none⟩) p hpl rdb hec (fun a e=>by cases e;simp only;omega) qU i hl) ?_;rintro v w5 ⟨f5,hv⟩;have ae4:=qU.of f5;have r85:=r8.ab f5.kp (by simp;omega);have k5:Aa [g,x8] w4 w5:=kr.trans (f5.kp.mono (by simp));have hdu:lC p (fun k=>eJ (gk p k)) (i+1)=max (lC p (fun k=>eJ (gk p k)) i) (match eJ (gk p i) with|some V=>GF.cm V (gk p i)|none=>0):=rfl;rcases hv with⟨b5,e5,V,hb5,hV,oA,yB,rfl,wd5⟩|⟨rfl,cL⟩
  ·obtain⟨V',hV',he⟩:=jR (W:=gk p i) ⟨hV,oA,yB⟩;rw[hV'] at hdu;simp only at hdu;rw[kR he] at hdu;generalize lC p (fun k=>eJ (gk p k)) i=D at *;conv=>whnf
   repeat ((first|(refine Ld.rowAt r85 8 (by omega) (by omega) ?_)|refine Br.t ?_|refine Ru.au ?_);conv=>whnf)
   refine Sd.rowAt r85 8 (by omega) (by omega) rfl ?_;intro w6 r6 k6;have r6':=r6.congr (fun j hj=>aoc _ j hj);conv=>whnf
   repeat (refine Ar.la ?_;conv=>whnf)
   exact⟨i+1,⟨hl,by rw[hdu,show((max D (GF.cm V (gk p i)):Nat):Int)=max (D:Int) (GF.cm V (gk p i):Nat) by omega];exact r6',ae4.aj k6 (by simp;have:=H.lt;omega) (by simp;have:=H.lt;omega) (by simp;omega) (by simp;have:=H.lt;omega),k5.trans (k6.mono (by simp))⟩,⟨rfl,rfl,rfl,rfl,rfl,vi (by omega),trivial⟩,by simp only;omega⟩
  ·rw[aas (W:=gk p i) cL] at hdu;simp only[Nat.max_zero] at hdu;conv=>whnf
   repeat ((first|refine Br.f ?_|refine Ar.la ?_|refine Ru.e1 ?_);conv=>whnf)
   exact⟨i+1,⟨hl,by rw[hdu];exact r85,ae4,k5⟩,⟨rfl,rfl,rfl,rfl,rfl,vi (by omega),trivial⟩,by simp only;omega⟩
 obtain rfl:i=4:=by omega
 conv=>whnf
 repeat ((first|(refine Ld.rowAt aof 1 (by omega) (by omega) ?_)|refine Br.f ?_|refine CW.s ?_);conv=>whnf)
 refine Ca.of (aj5 wr f cd g h e (some ⟨b,0,none⟩) p hpl rdb hec (fun a e=>by cases e;simp only;omega) qU) ?_;rintro v w5 ⟨f5,hv⟩;have ae4:=qU.of f5;have r85:=r8.ab f5.kp (by simp;omega);have k5:Aa [g,x8] w4 w5:=kr.trans (f5.kp.mono (by simp));have iD:=hJ.ab k5 (by simp;omega);have wu:=k5.size;have ahg:∀ {S:List Nat} {w':World},Aa S w4 w'->Frm w' f cd g h->m∉S->c∉S->Aw w' m c f cd g h (C.bL a) (iz (n+1)):=fun k hf h1 h2=>⟨H4.row.ab k h1,H4.dz.ab k h2,hf⟩
 have hR:dX p a=rA (fun k=>eJ (gk p k)) (lC p (fun k=>eJ (gk p k)) 4) a:=rfl;generalize lC p (fun k=>eJ (gk p k)) 4=D at *;rcases hv with⟨X,V,hX,hV,oA,yB,hmk,rfl,lyX⟩|⟨er,her,rfl,lV⟩
 case inr =>
  have hR':dX p a=⟨false,Tg.zero,false,D,fun _=>0⟩:=by
   rw[hR];exact oC (fun V hV ht=>by
    obtain⟨h1,h2,h3⟩:=mU hV;exact lV V h1 h2 h3 ht.1)
  have ap0:er≠0:=by omega
  conv=>whnf
  repeat ((first|(refine Ru.ax rfl ?_)|(refine Br.nno ap0 ?_)|refine CW.s ?_);conv=>whnf)
  refine Ru.ei r85 ?_;conv=>whnf
  refine Ru.eS iD (gH rfl) ?_;intro w6 r6 k6;conv=>whnf
  refine Ru.ei r6 ?_;conv=>whnf
  have hT:∀x,x∈[g,x8,x4]->x∈[m,c,g]\/w.heap.size<=x:=fun x hx=>by
   simp at hx ⊢;rcases hx with h|h|h<;>omega
  have k46:Aa [g,x8,x4] w4 w6:=(k5.mono (by simp)).trans (k6.mono (by simp));refine⟨rfl,.inr ⟨cO,.slice none 0 0,?_⟩⟩;rw[hp,hR'];exact⟨.inr ⟨rfl,rfl⟩,rfl,ahg k46 (ae4.aj k6 (by simp;omega) (by simp;omega) (by simp;omega) (by simp;omega)) (by simp;omega) (by simp;omega),K0.then k46 hT⟩
 obtain⟨V',hV',heV⟩:=jR (W:=gk p 3) ⟨hV,oA,yB⟩;have rdX:Rd w5 X 50 (fun j=>.int .u8 (bB V j)):=lyX.u9;conv=>whnf
 repeat ((first|refine Br.f ?_|refine Ru.ai ?_|refine CW.s ?_);conv=>whnf)
 refine Ca.of (aeZ X 50 50 (bB V) w5 rdX (fun j=>by have:=hV j;unfold bB;omega) (by omega)) ?_;rintro _ w6 ⟨rfl,k6⟩;have aog:=ae4.aj k6 (by simp) (by simp) (by simp) (by simp);have r86:=r85.ab k6 (by simp);have ns:=iD.ab k6 (by simp);conv=>whnf
 refine Ru.fp ?_;intro x15 w7 hx15 hs7 yI k7;conv=>whnf
 refine Ru.kQ yI ?_;intro w8 yI k8;have hs6:=k6.size;have ahh:=(aog.aj k7 (by simp) (by simp) (by simp) (by simp)).aj k8 (by simp;omega) (by simp;omega) (by simp;omega) (by simp;omega);have r88:=(r86.ab k7 (by simp)).ab k8 (by simp;omega);have r48:=(ns.ab k7 (by simp)).ab k8 (by simp;omega);have k48:Aa [g,x8,x15] w4 w8:=(((k5.mono (by simp)).trans (k6.mono (by simp))).trans (k7.mono (by simp))).trans (k8.mono (by simp));have hl8:=k8.size;have hT8:∀x,x∈[g,x8,x15]->x∈[m,c,g]\/w.heap.size<=x:=fun x hx=>by
  simp at hx ⊢;rcases hx with h|h|h<;>omega
 clear k6 k7 k8 ae4 aog r85 r86 iD ns;have bad:¬AJ V a->dX p a=⟨false,Tg.zero,false,D,fun _=>0⟩:=fun hn=>by
  rw[hR];exact oC (fun U hU ht=>by
   rw[hV'] at hU
   cases hU
   exact hn (ht.congr heV))
 by_cases rv:me (bB V)
 case neg =>
  have hR':=bad (fun ht=>rv ht.2.1);rw[aar rv];conv=>whnf
  repeat ((first|(refine Ru.zR (by decide) ?_)|refine Br.t ?_|refine Pk.t ?_|refine CW.s ?_);conv=>whnf)
  refine Ru.ei r88 ?_;conv=>whnf
  refine Ru.eS r48 (gH rfl) ?_;intro w9 r9 k9;conv=>whnf
  refine Ru.ei r9 ?_;conv=>whnf
  have k49:Aa [g,x8,x15,x4] w4 w9:=(k48.mono (by simp)).trans (k9.mono (by simp));refine⟨rfl,.inr ⟨cO,.slice none 0 0,?_⟩⟩;rw[hp,hR']
  exact⟨.inr ⟨rfl,rfl⟩,rfl,ahg k49 (ahh.aj k9 (by simp;omega) (by simp;omega) (by simp;omega) (by simp;omega)) (by simp;omega) (by simp;omega),K0.then k49 (fun x hx=>by
   simp at hx ⊢;rcases hx with h|h|h|h<;>omega)⟩
 rw[adA rv] at yI ⊢;by_cases ack:(eI (bB V)).place=a
 case neg =>
  have hR':=bad (fun ht=>ack ht.2.2);conv=>whnf
  repeat ((first|(refine Ld.rowAt yI 0 (by omega) (by omega) ?_)|(refine Br.nno ack ?_)|refine Br.f ?_|refine Pk.f ?_|refine Ru.ai ?_|refine CW.s ?_);conv=>whnf)
  refine Ru.ei r88 ?_;conv=>whnf
  refine Ru.eS r48 (gH rfl) ?_;intro w9 r9 k9;conv=>whnf
  refine Ru.ei r9 ?_;conv=>whnf
  have k49:Aa [g,x8,x15,x4] w4 w9:=(k48.mono (by simp)).trans (k9.mono (by simp));refine⟨rfl,.inr ⟨cO,.slice none 0 0,?_⟩⟩;rw[hp,hR']
  exact⟨.inr ⟨rfl,rfl⟩,rfl,ahg k49 (ahh.aj k9 (by simp;omega) (by simp;omega) (by simp;omega) (by simp;omega)) (by simp;omega) (by simp;omega),K0.then k49 (fun x hx=>by
   simp at hx ⊢;rcases hx with h|h|h|h<;>omega)⟩
 have yJ:AJ V a:=⟨hmk,rv,ack⟩;have alq:AJ V' a:=yJ.congr (fun i hi=>(heV i hi).symm);have htV:eI (bB V')=eI (bB V):=oB heV;conv=>whnf
 repeat ((first|(refine Ld.rowAt yI 0 (by omega) (by omega) ?_)|refine Br.f ?_|refine Pk.f ?_|refine Br.ny ?_|refine Ru.ai ?_|refine CW.s ?_);conv=>whnf)
 refine CW.held (fun w'=>Row w' x15 67 5 (eI (bB V)).cell) [4] (.take 0 (.take 1 (.one 2 (.take 3 (.one 4 (.done)))))) ah (by kernel_rfl) (by kernel_rfl) (by kernel_rfl) ?_ ?_
 ·exact yI.drewN 1
 have yI:=yI.drewN 1;have r88:=r88.drewN 1;have r48:=r48.drewN 1;have ahh:=ahh.drewN 1;have k48:=k48.drewN 1;have hl8:w7.heap.size<=(w8.drewN 1).heap.size:=hl8;generalize w8.drewN 1=w9 at *;conv=>whnf
 repeat ((refine Ad.fF (fun _ h=>h) ?_);conv=>whnf)
 refine Sd.rowAt r88 0 (by omega) (by omega) rfl ?_;intro yy r10 yK;have ap1:=r10.congr (fun j hj=>amw _ j hj);have yI:=yI.ab yK (by simp;omega);clear r10 r88;conv=>whnf
 refine⟨yI,?_⟩;conv=>whnf
 refine Ru.amy ap1 (by omega) ?_;intro zy r11 lD;have yI:=yI.ab lD (by simp;omega);have alr:=(ahh.aj yK (by simp;omega) (by simp;omega) (by simp;omega) (by simp;omega)).aj lD (by simp;omega) (by simp;omega) (by simp;omega) (by simp;omega);have akl:Aa [g,x8,x15] w4 zy:=(k48.trans (yK.mono (by simp))).trans (lD.mono (by simp));have aoh:=H4.row.ab akl (by simp;omega);have aoi:=yH.ab akl (by simp[aR];omega);have ap2:=(r48.ab yK (by simp;omega)).ab lD (by simp;omega);have aoj:AH zy (some ⟨b,0,none⟩) 256 p:=aoi.u9;have hec:256<=e:=aoi.1;have ara:=akl.size;conv=>whnf
 repeat ((first|(refine Ld.rowAt aoh 1 (by omega) (by omega) ?_)|refine CW.s ?_);conv=>whnf)
 refine Ca.of (aka zy f cd g h e (some ⟨b,0,none⟩) p hpl aoj hec (fun a e=>by cases e;simp only;omega) alr) ?_;rintro v w12 ⟨f12,hv⟩;have als:=alr.of f12;have r12:=r11.ab f12.kp (by simp;omega);have aok:=ap2.ab f12.kp (by simp;omega);have aol:Aa [g,x8,x15] w4 w12:=akl.trans (f12.kp.mono (by simp));rcases hv with⟨O,oc,U,mm,hU,rfl,hO,zA⟩|⟨rfl,kk,hkk,acm⟩
 ·have cu:∀k,k<3->∃U',eJ (gk p k)=some U'/\∀i,i<64->U' i=U k i:=fun k hk=>jR (hU k hk);have adD:(eJ (gk p 0)).isSome/\(eJ (gk p 1)).isSome/\(eJ (gk p 2)).isSome:=by
   obtain⟨a0,h0,_⟩:=cu 0 (by omega);obtain⟨a1,h1,_⟩:=cu 1 (by omega);obtain⟨a2,h2,_⟩:=cu 2 (by omega);rw[h0,h1,h2];exact⟨rfl,rfl,rfl⟩
  have hR':dX p a=⟨true,eI (bB V'),true,D,fun j=>((eJ (gk p (j/58))).getD (fun _=>0)) (j%58)⟩:=by
   rw[hR];exact qs hV' alq adD
  conv=>whnf
  repeat ((first|refine Br.t ?_|refine Ru.au ?_);conv=>whnf)
  refine Sd.rowAt r12 6 (by omega) (by omega) rfl ?_;intro w13 r13 zZ;have ap3:=r13.congr (fun j hj=>aod _ j hj);have ap4:=zA.ab zZ (fun x hx=>by simp;have:=hO x hx;have:=r11.lt;omega);conv=>whnf
  refine Sd.rowAt ap3 7 (by omega) (by omega) rfl ?_;intro w14 r14 k14';have ap5:=r14.congr (fun j hj=>amx _ j hj);have ap6:=ap4.ab k14' (fun x hx=>by simp;have:=hO x hx;have:=r11.lt;omega);have ap7:=(aok.ab zZ (by simp;omega)).ab k14' (by simp;omega);conv=>whnf
  refine Ru.ei ap5 ?_;conv=>whnf
  refine Ru.eS ap7 (gH rfl) ?_;intro w15 r15' k15;conv=>whnf
  refine Ru.ei r15' ?_;conv=>whnf
  have akm:=ap6.ab k15 (fun x hx=>by simp;have:=hO x hx;have:=r48.lt;omega);have ahi:Aa [g,x8,x15,x4] w4 w15:=(((aol.mono (by simp)).trans (zZ.mono (by simp))).trans (k14'.mono (by simp))).trans (k15.mono (by simp));have ahj:=((als.aj zZ (by simp;omega) (by simp;omega) (by simp;omega) (by simp;omega)).aj k14' (by simp;omega) (by simp;omega) (by simp;omega) (by simp;omega)).aj k15 (by simp;omega) (by simp;omega) (by simp;omega) (by simp;omega);refine⟨rfl,.inr ⟨cO,.slice O 174 oc,?_⟩⟩;rw[hp,hR',htV]
  refine⟨.inl ⟨rfl,O,oc,rfl,fun x hx=>by have:=hO x hx;omega,akm.congr (fun j hj=>?_)⟩,rfl,ahg ahi ahj (by simp;omega) (by simp;omega),K0.then ahi (fun x hx=>by
   simp at hx ⊢;rcases hx with h|h|h|h<;>omega)⟩
  have hj3:j/58<3:=by omega
  obtain⟨U',hU',he⟩:=cu (j/58) hj3;simp only[hU',Option.getD_some];rw[he _ (by omega)]
 ·have hR':dX p a=⟨true,eI (bB V'),false,D,fun _=>0⟩:=by
   rw[hR];refine ae2 hV' alq (fun h=>?_);have hn:=aas acm;have:kk=0\/kk=1\/kk=2:=by omega
   rcases this with rfl|rfl|rfl
   ·rw[hn] at h;exact absurd h.1 (by simp)
   ·rw[hn] at h;exact absurd h.2.1 (by simp)
   ·rw[hn] at h;exact absurd h.2.2 (by simp)
  conv=>whnf
  repeat ((first|refine Br.f ?_|refine Ru.e1 ?_);conv=>whnf)
  refine Ru.ei r12 ?_;conv=>whnf
  refine Ru.eS aok (gH rfl) ?_;intro w15 r15' k15;conv=>whnf
  refine Ru.ei r15' ?_;conv=>whnf
  have ahi:Aa [g,x8,x15,x4] w4 w15:=(aol.mono (by simp)).trans (k15.mono (by simp));have ahj:=als.aj k15 (by simp;omega) (by simp;omega) (by simp;omega) (by simp;omega);refine⟨rfl,.inr ⟨cO,.slice none 0 0,?_⟩⟩;rw[hp,hR',htV]
  exact⟨.inr ⟨rfl,rfl⟩,rfl,ahg ahi ahj (by simp;omega) (by simp;omega),K0.then ahi (fun x hx=>by
   simp at hx ⊢;rcases hx with h|h|h|h<;>omega)⟩
end
section
open Go.RowKit
theorem aom(d:Nat)(f g:Tg)(w:World):(Op.equalIn (d+2) 67 (.agg f.arr) (.agg g.arr)).run Tryz.prog w=.ok (decide (f=g)) w:=by
 have e:decide (f=g)=(decide (f.place=g.place)&&(decide (f.of=g.of)&&(decide (f.seq=g.seq)&&(decide (f.copy=g.copy)&&(decide (f.lost=g.lost)&&true))))):=by
  rw[Bool.eq_iff_iff];simp only[Bool.and_eq_true,decide_eq_true_eq,Bool.and_true];obtain⟨a,b,c,d,e⟩:=f;obtain⟨a',b',c',d',e'⟩:=g;simp
 rw[e];refine amq underlying67 (by kernel_rfl) ?_;refine eqf_cons (by decide +kernel) (dS (by kernel_rfl) rfl) (dS (by kernel_rfl) rfl) (eq_int underlying3) ?_;refine eqf_cons (by decide +kernel) (dS (by kernel_rfl) rfl) (dS (by kernel_rfl) rfl) (eq_int underlying3) ?_;refine eqf_cons (by decide +kernel) (dS (by kernel_rfl) rfl) (dS (by kernel_rfl) rfl) (eq_int underlying2) ?_;refine eqf_cons (by decide +kernel) (dS (by kernel_rfl) rfl) (dS (by kernel_rfl) rfl) (eq_int underlying3) ?_;refine eqf_cons (by decide +kernel) (dS (by kernel_rfl) rfl) (dS (by kernel_rfl) rfl) (ake underlying4) ?_;exact akd
theorem amA(x y:Operand)(f g:Tg)(w:World):(do eqGuard .neq 67 x y (.agg f.arr) (.agg g.arr);binOp .neq 67 (.agg f.arr) (.agg g.arr):Sem Value).run Tryz.prog w=.ok (.bool (!decide (f=g))) w:=by
 rw[Sem.run_bind,run_eqGuard_agg w _ _ _ _ _ _ (by kernel_rfl),Result.andThen_ok,run_neq_struct,aom 9998];rfl
theorem acn(v:Int)(hv:0<=v)(n:Nat):numOf (byteOf v) n=v%256^n:=by
 induction n with
 |zero=>simp[numOf]
 | succ n ih =>
  rw[kP,ih];unfold byteOf;have hp:(0:Int)<256^n:=Int.pow_pos (by omega);have h1:=Int.emod_add_mul_ediv v (256^n);have h2:=Int.emod_add_mul_ediv (v/256^n) 256;have h3:=Int.emod_add_mul_ediv v (256^(n+1));rw[Int.pow_succ] at h3 ⊢;rw[<-Int.ediv_ediv_of_nonneg (Int.le_of_lt hp)] at h3;generalize v/256^n=x at *;have e:256^n*256*(x/256)=256^n*(256*(x/256)):=Int.mul_assoc _ _ _;rw[e] at h3;have e2:256^n*x=256^n*(x%256)+256^n*(256*(x/256)):=by rw[<-Int.mul_add,h2]
  have e3:x%256*256^n=256^n*(x%256):=Int.mul_comm _ _;omega
theorem tL(v:Int)(hv:0<=v)(n:Nat)(h:v/256^n=0):numOf (byteOf v) n=v:=by
 rw[acn v hv];have h1:=Int.emod_add_mul_ediv v (256^n);rw[h,Int.mul_zero,Int.add_zero] at h1;exact h1
theorem ahk{t:Tg}(ht:t.ok):eI (bU t)=t:=by
 obtain⟨h0,h1,h2,h3,h4,h5,h6,h7,_,_⟩:=ht;have e0:numOf (bU t) 2=t.place:=by
  rw[cW (f:=bU t) (g:=byteOf t.place) 2 (fun j hj=>by unfold bU;rw[if_pos (by omega)])];exact tL _ (by omega) 2 (Int.ediv_eq_zero_of_lt (by omega) (by omega))
 have e2:numOf (fun j=>bU t (3+j)) 5=t.seq:=by
  rw[cW (f:=fun j=>bU t (3+j)) (g:=byteOf t.seq) 5 (fun j hj=>by
   unfold bU;rw[if_neg (by omega),if_neg (by omega),if_pos (by omega)];congr 1;omega)]
  exact tL _ (by omega) 5 (Int.ediv_eq_zero_of_lt (by omega) (by omega))
 have e1:bU t 2=t.of:=alp (by omega) (by omega);have e3:bU t 8=t.copy:=alp (by omega) (by omega);have e4:decide (bU t 9=1)=t.lost:=by
  have:bU t 9=byteOf (if t.lost then 1 else 0) 0:=rfl;rw[this]
  cases t.lost<;>decide
 unfold eI;rw[e0,e1,e2,e3,e4]
end
section
open Go.RowKit
attribute [local irreducible] GF.pw GF.lg GF.mul GF.inv GF.xt
def Chip.prog(C:Chip)(a:Nat)(W:Nat->Nat->Nat):Nat->Chip×Int
 |0=>(C,0)
 |k+1=>if (C.prog a W k).2=0 then (C.prog a W k).1.write a k (W k) else C.prog a W k
def rE(t:Tg)(j:Nat):Nat:=(bU t j).toNat
theorem mi(t:Tg)(j:Nat):rE t j<256:=by
 have:=tI t j;unfold rE;omega
theorem qt(t:Tg)(j:Nat):((rE t j:Nat):Int)=bU t j:=by
 have:=tI t j;unfold rE;omega
def aS(D:Nat->Nat)(t:Tg)(k:Nat):Nat->Nat:=GF.lF (lB (iO D (rE t)) k)
theorem aco{C:Chip}(h:C.Wf)(B:Nat):(C.ie B).Wf:=by
 unfold Chip.ie;split
 ·refine⟨h.b0,h.b1,fun b=>?_,h.now,h.cI⟩;have:=h.bf b;have:=h.bf B;simp only[af];split<;>omega
 ·exact h
theorem aax{C:Chip}(h:C.Wf)(a k:Nat){x:Chunk}(h1:∀i,x.now i<256)(h2:∀i,x.cI i<256):(C.cU a k x).Wf:=by
 refine⟨h.b0,h.b1,h.bf,fun a' k' i=>?_,fun a' k' i=>?_⟩
 ·unfold Chip.cU;simp only;split
  ·exact h1 i
  ·exact h.now _ _ _
 ·unfold Chip.cU;simp only;split
  ·exact h2 i
  ·exact h.cI _ _ _
theorem ahl{C:Chip}(h:C.Wf)(a k:Nat){b:Nat->Nat}(hb:∀i,b i<256):(C.write a k b).1.Wf:=by
 unfold Chip.write;split
 ·exact h
 ·split
  ·exact h
  ·split
   ·split
    ·exact aco h.step _
    ·exact aax (aco h.step _) _ _ hb hb
   ·exact h.step
theorem yL{C:Chip}(h:C.Wf)(a:Nat){W:Nat->Nat->Nat}(hW:∀k i,W k i<256):∀n,(C.prog a W n).1.Wf
 |0=>h
 | n+1=>by
  have ih:=yL h a hW n;unfold Chip.prog;split
  ·exact ahl ih _ _ (hW n)
  ·exact ih
theorem ae5{C:Chip}(h:C.aM.2=0):C.aM.1.off=C.off:=by
 unfold Chip.aM at h ⊢;split
 ·rename_i hc
  rw[if_pos hc] at h;split
  ·rename_i h0
   rw[if_pos h0] at h
   cases h
  ·rfl
 ·rfl
theorem akn(C:Chip)(B:Nat):(C.ie B).off=C.off:=by
 unfold Chip.ie;split<;>rfl
theorem acp{C:Chip}{a k:Nat}{b:Nat->Nat}(h:(C.write a k b).2=0):C.off=false/\(C.write a k b).1.off=false/\(C.ch a k).is=false/\(C.write a k b).1.ch=(C.cU a k ⟨b,b,true,0⟩).ch:=by
 unfold Chip.write at h ⊢;by_cases h1:C.off=true
 ·rw[if_pos h1] at h
  cases h
 rw[if_neg h1] at h ⊢;by_cases h2:(C.ch a k).is=true
 ·rw[if_pos h2] at h
  cases h
 rw[if_neg h2] at h ⊢;by_cases h3:C.aM.2=0
 ·rw[if_pos h3] at h ⊢;by_cases h4:(C.aM.1.ie (a/8)).failed (a/8)=true
  ·rw[if_pos h4] at h
   cases h
  ·rw[if_neg h4];refine⟨by simpa using h1,?_,by simpa using h2,?_⟩
   ·show(C.aM.1.ie (a/8)).off=false;rw[akn,ae5 h3];simpa using h1
   ·unfold Chip.cU;simp only[Chip.ab4,Chip.tm]
 ·rw[if_neg h3] at h;exact absurd h h3
theorem qv{C:Chip}{a:Nat}{W:Nat->Nat->Nat}:∀ {n:Nat},0<n->(C.prog a W n).2=0->(C.prog a W n).1.off=false/\∀k,k<n->(C.prog a W n).1.ch a k=⟨W k,W k,true,0⟩
 |0,h0,_=>absurd h0 (by omega)
 | n+1,_,h=>by
  unfold Chip.prog at h ⊢;by_cases h1:(C.prog a W n).2=0
  ·rw[if_pos h1] at h ⊢;obtain⟨g1,g2,g3,g4⟩:=acp h;refine⟨g2,fun k hk=>?_⟩;rw[g4];by_cases hkn:k=n
   ·subst hkn;rw[Chip.di]
   ·rw[Chip.eW _ _ (fun e=>hkn e.2)];have hn:0<n:=by omega
    exact(qv hn h1).2 k (by omega)
  ·rw[if_neg h1] at h;exact absurd h h1
theorem ae6{p D:Nat->Nat}{t:Tg}{a:Nat}(hD:∀j,D j<256)(ht:t.ok)(qw:t.place=a)(hp:∀k,k<4->∀i,i<64->gk p k i=aS D t k i) :
  (dX p a).tagged=true/\(dX p a).tag=t/\(dX p a).sound=true/\(∀j,j<174->(dX p a).data j=D j):=by
 have hq:∀j,iO D (rE t) j<256:=px hD (mi t);have aon:∀k,k<4->Near (aS D t k) (gk p k):=fun k hk=>⟨GF.ss (fun j=>hq _),GF.agW (fun j=>hq _),by
  rw[GF.iA,kR (hp k hk),mN];omega⟩
 have rV:∀k,k<4->∃V,eJ (gk p k)=some V/\∀i,i<64->V i=aS D t k i:=fun k hk=>jR (aon k hk);obtain⟨V,hV,he⟩:=rV 3 (by omega);have hb:∀j,j<50->bB V j=bU t j:=fun j hj=>by
  unfold bB;rw[he j (by omega)];unfold aS GF.lF;rw[if_pos (by omega)];unfold lB iO;rw[if_neg (by omega),if_pos (by omega),show 3*58+j-174=j by omega,qt]
 have hm:∀j,j<8->bB V (50+j)=jm j:=fun j hj=>by
  unfold bB;rw[he (50+j) (by omega)];unfold aS GF.lF;rw[if_pos (by omega)];unfold lB iO;rw[if_neg (by omega),if_neg (by omega),show 3*58+(50+j)-224=j by omega,qp]
 have hdT:eI (bB V)=t:=by
  rw[<-ahk ht];unfold eI;rw[cW (f:=bB V) (g:=bU t) 2 (fun j hj=>hb j (by omega)),cW (f:=fun j=>bB V (3+j)) (g:=fun j=>bU t (3+j)) 5 (fun j hj=>hb (3+j) (by omega)),hb 2 (by omega),hb 8 (by omega),hb 9 (by omega)]
 have yJ:AJ V a:=⟨hm,by unfold me;rw[hdT];exact⟨ht,fun j hj=>(hb j hj).symm⟩,by rw[hdT];exact qw⟩;have hs:(eJ (gk p 0)).isSome/\(eJ (gk p 1)).isSome/\(eJ (gk p 2)).isSome:=by
  obtain⟨a0,h0,_⟩:=rV 0 (by omega);obtain⟨a1,h1,_⟩:=rV 1 (by omega);obtain⟨a2,h2,_⟩:=rV 2 (by omega);rw[h0,h1,h2];exact⟨rfl,rfl,rfl⟩
 have hR:dX p a=⟨true,eI (bB V),true,_,_⟩:=qs hV yJ hs;rw[hR,hdT];refine⟨rfl,rfl,rfl,fun j hj=>?_⟩;simp only;obtain⟨U,hU,hUe⟩:=rV (j/58) (by omega);rw[hU,Option.getD_some,hUe _ (by omega)];unfold aS GF.lF;rw[if_pos (by omega)];unfold lB iO;rw[show j/58*58+j%58=j by omega,if_pos hj]
end
section
open Go.RowKit
attribute [local irreducible] GF.pw GF.lg GF.mul GF.inv GF.xt
theorem oD{C:Chip}{a:Nat}{W:Nat->Nat->Nat}{i:Nat}(h:(C.prog a W i).2≠0):∀n,i<=n->C.prog a W n=C.prog a W i
 | 0,h0=>by
  obtain rfl:i=0:=by omega
  rfl
 | n+1,h0=>by
  by_cases hn:i=n+1
  ·subst hn;rfl
  ·have ih:=oD h n (by omega);show(if (C.prog a W n).2=0 then (C.prog a W n).1.write a n (W n) else C.prog a W n)=_;rw[ih,if_neg h]
def BQ(w:World)(m c f cd g h a:Nat)(C:Chip)(n:Int)(D:Nat->Nat)(t:Tg)(v:Value)(w':World):Prop :=
 Aa [m,c,g] w w'/\(((C.prog a (aS D t) 4).2≠0/\v=ak (C.prog a (aS D t) 4).2/\Aw w' m c f cd g h (C.prog a (aS D t) 4).1 n) \/
  ((C.prog a (aS D t) 4).2=0/\v=ak 0/\Aw w' m c f cd g h ((C.prog a (aS D t) 4).1.bL a) (iz (n+1))))
theorem Ru.amB{w:World}{x o:Nat}{tg s:Bool}{t:Tg}{dv:Value}{d:Int}{K:Value->World->Prop}(r:Row w x 149 9 (rC tg t s dv d))(e:o=1)(k:K (.agg t.arr) w):Ru Tryz.prog (loadVar 67 ⟨x,o,none⟩) w K:=by
 subst e;refine⟨_,_,acg r (by omega) (fun j hj=>?_),k⟩;have:j=0\/j=1\/j=2\/j=3\/j=4:=by omega
 rcases this with rfl|rfl|rfl|rfl|rfl<;>rfl
theorem acq(w:World)(m c f cd g h a dd:Nat)(C:Chip)(n:Int)(A:Option Addr)(D:Nat->Nat)(t:Tg)(H:Aw w m c f cd g h C n)(hw:C.Wf)(ha:a<96)(hD:∀j,D j<256)(rD:AH w A 174 D)(hdd:174<=dd)
  (hA:∀x,A=some x->x.block≠m/\x.block≠c/\x.block≠g) (ht:t.ok) (qw:t.place=a) :
  Spec Tryz.prog 159 #[.pointer (some ⟨m,0,none⟩),.int .i64 a,.agg t.arr,.slice A 174 dd] w (BQ w m c f cd g h a C n D t):=by
 have hmc:=H.mc;have hmg:=H.mg;have hcg:=H.cg;have av:=H.lt;refine spec_of_wpE (T:=tt) ah func159 rfl (by decide +kernel) ntmps159 (by simp) ?_;conv=>whnf
 refine Ru.wH ?_;intro x6 w1 hx6 du r6 k1;have H1:=H.aj k1;conv=>whnf
 refine Ru.fF r6 ?_;conv=>whnf
 refine Ca.of (wI t w1) ?_;rintro v w2 ⟨k2,hv⟩;rcases hv with⟨-,X,db,rfl,lyX,hX⟩|⟨hn,-⟩
 case inr=>exact absurd ht hn
 have H2:=H1.aj k2;have yM:=r6.ab k2 (by simp);have rD2:=(rD.aj k1).aj k2;have rX:AH w2 X 50 (rE t):=lyX.u9.congr (fun j hj=>by rw[qt]);have fE:=k2.size;conv=>whnf
 repeat ((first|(refine Ld.rowAt yM 0 (by omega) (by omega) ?_)|(refine Br.anF qw ?_)|(refine Ld.rowAt H2.row 1 (by omega) (by omega) ?_)|refine Br.f ?_|refine Ru.ai ?_|refine CW.s ?_);conv=>whnf)
 refine Ca.of (amm w2 f cd g h dd db A X D (rE t) hD (mi t) rD2 rX hdd H2.jf) ?_;rintro v w3 ⟨f3,O,oc,bk,ek,rfl,zA,hO⟩;have H3:=H2.of f3;have r63:=yM.ab f3.kp (by simp;omega);have rD3:=rD2.ab f3.kp (fun x hx=>by simpa using(hA x hx).2.2);have gG:=f3.kp.size;have K3:Aa [m,c,g] w w3:=((k1.mono (by simp)).trans (k2.mono (by simp))).trans (f3.kp.mono (by simp));have hW:∀k i,aS D t k i<256:=fun k i=>GF.ss (fun j=>px hD (mi t) _) i;have hOl:∀k,k<4->w2.heap.size<=bk k/\Wd w3 (bk k) (ek k) (aS D t k):=hO;clear hO lyX rX rD2;conv=>whnf
 repeat ((first|refine Br.f ?_|refine Ru.ai ?_|refine CW.s ?_);conv=>whnf)
 refine CW.loop (ι:=Nat) (fun i w'=>i<=4/\(C.prog a (aS D t) i).2=0/\Aw w' m c f cd g h (C.prog a (aS D t) i).1 n/\Aa [c] w3 w') (fun i=>[(0,.pointer (some ⟨m,0,none⟩)),(1,.int .i64 a),(3,.slice A 174 dd),(6,.pointer (some ⟨x6,0,none⟩)),(42,.slice O 4 oc),(43,.int .i64 4),(44,.int .i64 i)]) (fun i=>4-i) 0 ah ⟨by omega,rfl,H3,Aa.refl _ _⟩ ⟨rfl,rfl,rfl,rfl,rfl,rfl,rfl,trivial⟩ ?_;rintro i wr ⟨hi,hp,Hr,kr⟩;have hsr:=kr.size;by_cases hl:i<4
 ·obtain⟨nr,wd⟩:=hOl i hl;have ap8:Ly wr 37 1 O 4 oc (fun k=>.slice (some ⟨bk k,0,none⟩) 64 (ek k)):=zA.ab kr (fun x hx hc=>Ly.aP zA H3.dz (by decide) (by rw[List.mem_singleton.1 hc] at hx;exact hx));have wdr:Wd wr (bk i) (ek i) (aS D t i):=Ly.ab wd kr (fun x hx=>by
   rw[List.mem_singleton.1 hx];simp;omega)
  obtain⟨bO,rfl,hcO,-⟩:=ap8.zv hl;have hek:64<=ek i:=wdr.1;have aoo:C.prog a (aS D t) (i+1)=(C.prog a (aS D t) i).1.write a i (aS D t i):=if_pos hp;conv=>whnf
  repeat ((first|(refine Ld.at (by omega) hcO ?_)|(refine Ld.rowAt Hr.row 0 (by omega) (by omega) ?_)|refine Ix.n ?_|refine Br.y ?_|refine CW.s ?_);conv=>whnf)
  refine Ca.of (agM wr c a i (ek i) (C.prog a (aS D t) i).1 (some ⟨bk i,0,none⟩) (aS D t i) Hr.dz (yL hw a hW i) ha hl wdr.u9 hek (fun x hx=>by cases hx;simp only;omega)) ?_;rintro _ w4 ⟨rfl,hc4,k4⟩;have H4:=Hr.yF k4 hc4;rw[<-aoo] at H4 ⊢;have k34:=kr.trans k4;by_cases he:(C.prog a (aS D t) (i+1)).2=0
  ·rw[he];conv=>whnf
   repeat ((first|refine Br.f ?_|refine Ar.la ?_|refine Ru.ai ?_);conv=>whnf)
   exact⟨i+1,⟨hl,he,H4,k34⟩,⟨rfl,rfl,rfl,rfl,rfl,rfl,vi (by omega),trivial⟩,by simp only;omega⟩
  ·have bt:=oD he 4 (by omega);conv=>whnf
   repeat ((first|(refine Ru.ax rfl ?_)|(refine Br.nno he ?_));conv=>whnf)
   refine⟨rfl,(K3.then k34 (fun x hx=>.inl (by simp at hx ⊢;omega))),.inl ?_⟩;rw[bt];exact⟨he,rfl,H4⟩
 obtain rfl:i=4:=by omega
 obtain⟨cO,s6⟩:=qv (by omega) hp;have hpw:=yL hw a hW 4;have rDr:=rD3.ab kr (fun x hx=>by simpa using(hA x hx).2.1);have r6r:=r63.ab kr (by simp;omega);have aop:BQ w m c f cd g h a C n D t=fun v w'=>Aa [m,c,g] w w'/\(((C.prog a (aS D t) 4).2≠0/\v=ak (C.prog a (aS D t) 4).2/\Aw w' m c f cd g h (C.prog a (aS D t) 4).1 n) \/
  ((C.prog a (aS D t) 4).2=0/\v=ak 0/\Aw w' m c f cd g h ((C.prog a (aS D t) 4).1.bL a) (iz (n+1)))):=rfl;rw[aop];clear aop;generalize C.prog a (aS D t) 4=S at *;have ap9:=ae6 (p:=eO S.1 a) hD ht qw (fun k hk i hi=>by
  unfold gk eO;rw[show(k*64+i)/64=k by omega,show(k*64+i)%64=i by omega,s6 k hk])
 conv=>whnf
 repeat ((first|refine Br.f ?_|refine CW.s ?_);conv=>whnf)
 refine Ca.of (aaw wr m c f cd g h a S.1 n Hr hpw ha) ?_;rintro v w5 hv;rcases hv with⟨ho,-⟩|⟨-,dv,ji,rfl,H5,k5⟩
 ·rw[cO] at ho
  cases ho
 generalize dX (eO S.1 a) a=R at *;obtain⟨e1,e2,e3,e4⟩:=ap9;rcases ji with⟨-,O5,oc5,rfl,hO5,akm⟩|⟨hf,-⟩
 case inr =>
  rw[e3] at hf
  cases hf
 rw[e2,e3];have rD5:=rDr.ab k5 (fun x hx=>by have:=hA x hx;simp;omega);have qx:=r6r.ab k5 (by simp;omega);have wu:=k5.size;conv=>whnf
 refine Ru.aF (cv w5) ?_;intro x15 w6 hx15 hs6 yI k6;conv=>whnf
 refine Ru.eS yI (gH rfl) ?_;intro w7 yI k7;have tM:=(qx.ab k6 (by simp)).ab k7 (by simp;omega);have rD7:=(rD5.aj k6).ab k7 (fun x hx=>by
  obtain⟨b0,o0,jK,xQ⟩:=rD5 (by omega);rw[jK] at hx
  cases hx
  have:=aI (xQ 0 (by omega));simp only at this ⊢;simp;omega)
 have amC:=(akm.aj k6).ab k7 (fun x hx=>by
  have:=Ly.kI akm hx;simp;omega)
 have H7:=(H5.aj k6).ab k7 (by simp;omega) (by simp;omega) (by simp;omega) (by simp;omega) (by simp;omega) (by simp;omega);have K5:Aa [m,c,g] w w5:=(K3.trans (kr.mono (by simp))).trans k5;have K7:Aa [m,c,g] w w7:=(K5.trans (k6.mono (by simp))).then k7 (fun x hx=>.inr (by have:=List.mem_singleton.1 hx;omega));conv=>whnf
 repeat ((first|(refine Ld.rowAt yI 6 (by omega) (by omega) ?_)|(refine Ru.amB yI (by omega) ?_)|(refine Ru.fF tM ?_)|(refine Ru.of (amA _ _ _ _ _) ?_)|refine Br.f ?_|refine Pk.f ?_|refine Ru.ai ?_|refine CW.s ?_);conv=>whnf)
 have htt:(!decide (t=t))=false:=by simp
 rw[htt];conv=>whnf
 repeat ((first|(refine Ld.rowAt yI 7 (by omega) (by omega) ?_)|refine Br.f ?_);conv=>whnf)
 have rdO:Rd w7 O5 174 (fun j=>.int .u8 (bB D j)):=amC.u9.congr (fun j hj=>by unfold bB;rw[e4 j hj]);refine Ca.of (nN O5 A 174 174 oc5 dd (bB D) (bB D) w7 rdO rD7 (fun j=>by have:=hD j;unfold bB;omega) (fun j=>by have:=hD j;unfold bB;omega)) ?_;rintro _ _ ⟨rfl,rfl⟩;rw[jM (n0:=174) (n1:=174) rfl (fun _ _=>rfl)];conv=>whnf
 repeat ((first|refine Br.f ?_|refine Pk.f ?_);conv=>whnf)
 exact⟨rfl,K7,.inr ⟨hp,rfl,H7⟩⟩
end
section
open Go.RowKit
attribute [local irreducible] GF.pw GF.lg GF.mul GF.inv GF.xt
def mx(f:Nat->Nat):Nat->Nat
 |0=>0
 |k+1=>max (mx f k) (f k)
theorem py{f g:Nat->Nat}:∀n,(∀k,k<n->f k=g k)->mx f n=mx g n
 |0,_=>rfl
 | n+1,h=>by
  unfold mx;rw[py n (fun k hk=>h k (by omega)),h n (by omega)]
theorem wK(x:Chunk):∀n,x.zT n=((List.range n).filter fun i=>decide (x.now i≠x.cI i)).length
 |0=>rfl
 | n+1=>by
  rw[List.range_succ,List.filter_append,List.length_append, <-wK x n,agP];by_cases h:x.now n=x.cI n
  ·simp[h]
  ·simp[h]
theorem tN(x:Chunk):x.dmg=GF.cm x.now x.cI:=wK x 64
section
variable{p D:Nat->Nat}{t:Tg}{a:Nat}
theorem adE(hD:∀j,D j<256)(k i:Nat):aS D t k i<256:=GF.ss (fun j=>px hD (mi t) _) i
theorem ako(hD:∀j,D j<256)(k:Nat):GF.Ay (aS D t k):=GF.agW (fun j=>px hD (mi t) _)
theorem ahm(hD:∀j,D j<256)(ht:t.ok)(qw:t.place=a){V:Nat->Nat}(he:∀i,i<64->V i=aS D t 3 i):AJ V a/\eI (bB V)=t:=by
 have hb:∀j,j<50->bB V j=bU t j:=fun j hj=>by
  unfold bB;rw[he j (by omega)];unfold aS GF.lF;rw[if_pos (by omega)];unfold lB iO;rw[if_neg (by omega),if_pos (by omega),show 3*58+j-174=j by omega,qt]
 have hm:∀j,j<8->bB V (50+j)=jm j:=fun j hj=>by
  unfold bB;rw[he (50+j) (by omega)];unfold aS GF.lF;rw[if_pos (by omega)];unfold lB iO;rw[if_neg (by omega),if_neg (by omega),show 3*58+(50+j)-224=j by omega,qp]
 have hdT:eI (bB V)=t:=by
  rw[<-ahk ht];unfold eI;rw[cW (f:=bB V) (g:=bU t) 2 (fun j hj=>hb j (by omega)),cW (f:=fun j=>bB V (3+j)) (g:=fun j=>bU t (3+j)) 5 (fun j hj=>hb (3+j) (by omega)),hb 2 (by omega),hb 8 (by omega),hb 9 (by omega)]
 exact⟨⟨hm,by unfold me;rw[hdT];exact⟨ht,fun j hj=>(hb j hj).symm⟩,by rw[hdT];exact qw⟩,hdT⟩
theorem acr(hD:∀j,D j<256)(ht:t.ok)(qw:t.place=a)(hp:∀k,k<4->GF.cm (aS D t k) (gk p k)<=2) :
  (dX p a).tagged=true/\(dX p a).tag=t/\(dX p a).sound=true/\(∀j,j<174->(dX p a).data j=D j)/\(dX p a).iP=mx (fun k=>GF.cm (aS D t k) (gk p k)) 4:=by
 have rV:∀k,k<4->∃V,eJ (gk p k)=some V/\∀i,i<64->V i=aS D t k i:=fun k hk=>jR ⟨adE hD k,ako hD k,hp k hk⟩;obtain⟨V,hV,he⟩:=rV 3 (by omega);obtain⟨yJ,hdT⟩:=ahm hD ht qw he;have hs:(eJ (gk p 0)).isSome/\(eJ (gk p 1)).isSome/\(eJ (gk p 2)).isSome:=by
  obtain⟨a0,h0,_⟩:=rV 0 (by omega);obtain⟨a1,h1,_⟩:=rV 1 (by omega);obtain⟨a2,h2,_⟩:=rV 2 (by omega);rw[h0,h1,h2];exact⟨rfl,rfl,rfl⟩
 have hR:dX p a=⟨true,eI (bB V),true,lC p (fun k=>eJ (gk p k)) 4,_⟩:=qs hV yJ hs;rw[hR,hdT];refine⟨rfl,rfl,rfl,fun j hj=>?_,?_⟩
 ·simp only;obtain⟨U,hU,hUe⟩:=rV (j/58) (by omega);rw[hU,Option.getD_some,hUe _ (by omega)];unfold aS GF.lF;rw[if_pos (by omega)];unfold lB iO;rw[show j/58*58+j%58=j by omega,if_pos hj]
 ·simp only;have key:∀n,n<=4->lC p (fun k=>eJ (gk p k)) n=mx (fun k=>GF.cm (aS D t k) (gk p k)) n:=by
   intro n
   induction n with
   |zero=>intro _;rfl
   | succ n ih =>
    intro hn;unfold lC mx;rw[ih (by omega)];obtain⟨U,hU,hUe⟩:=rV n (by omega);simp only[hU];rw[kR hUe]
  exact key 4 (Nat.le_refl _)
end
theorem akp:∀j,j<8->jm j≠255:=by decide
end
section
open Go.RowKit
attribute [local irreducible] GF.pw GF.lg GF.mul GF.inv GF.xt
inductive Pg where
 |blank
 |cB (n:Nat)
 |full (t:Tg) (D:Nat->Nat)
structure CS where
 pg:Nat->Pg
 dm:Nat->Nat
 rd:Nat->Int
 failed:Nat->Bool
 before:Nat->Int
 aH:Nat->Bool
def cq(D:Nat->Nat):Nat->Nat:=fun j=>if j<174 then D j else 0
theorem ahn(D:Nat->Nat):cq (cq D)=cq D:=by
 funext j;unfold cq;by_cases h:j<174<;>simp[h]
theorem acs{D D':Nat->Nat}(h:∀j,j<174->D j=D' j):cq D=cq D':=by
 funext j;unfold cq;by_cases hj:j<174
 ·rw[if_pos hj,if_pos hj,h j hj]
 ·rw[if_neg hj,if_neg hj]
theorem acu{D D' B:Nat->Nat}(h:∀j,j<174->D j=D' j):iO D B=iO D' B:=by
 funext j;unfold iO;by_cases hj:j<174
 ·rw[if_pos hj,if_pos hj,h j hj]
 ·rw[if_neg hj,if_neg hj]
theorem acv{D D':Nat->Nat}(h:∀j,j<174->D j=D' j)(t:Tg):aS D t=aS D' t:=by
 unfold aS;rw[acu h]
theorem aho(D:Nat->Nat)(t:Tg):aS (cq D) t=aS D t:=acv (fun j hj=>by unfold cq;rw[if_pos hj]) t
def BR(C:Chip)(p:Nat):Pg->Prop
 |.blank=>∀k,k<4->(C.ch p k).is=false/\(C.ch p k).cI=(fun _=>255)
 |.cB n=>1<=n/\n<=3/\∀k,k<4->(C.ch p k).is=decide (k<n)/\(n<=k->(C.ch p k).cI=(fun _=>255))
 |.full t D=>t.ok/\t.place=p/\(∀j,D j<256)/\cq D=D/\∀k,k<4->(C.ch p k).is=true/\(C.ch p k).cI=aS D t k
structure Abs(C:Chip)(A:CS):Prop where
 wf:C.Wf
 cM:∀p,p<96->BR C p (A.pg p)
 few:∀p k,p<96->k<4->(C.ch p k).dmg<=2
 dm:∀p t D,p<96->A.pg p=.full t D->A.dm p=mx (fun k=>(C.ch p k).dmg) 4
 rd:C.reads=A.rd
 failed:C.failed=A.failed
 before:C.before=A.before
 aH:C.aH=A.aH
 wst:∀p k,p<96->k<4->((C.ch p k).dmg:Int)<=(C.ch p k).oT
def Az(A:CS)(p:Nat)(R:AP):Prop:=match A.pg p with
 |.full t D=>R.tagged=true/\R.tag=t/\R.sound=true/\cq R.data=D/\R.iP=A.dm p
 |_=>R.tagged=false/\R.tag=Tg.zero/\R.sound=false
theorem aay(C:Chip)(p k:Nat)(U:Nat->Nat):GF.cm U (gk (eO C p) k)=GF.cm (C.ch p k).now U:=by
 rw[GF.iA];apply kR;intro i hi;unfold gk eO;rw[show(k*64+i)/64=k by omega,show(k*64+i)%64=i by omega]
theorem ahp{V U:Nat->Nat}(hV:Near V U)(hU:GF.cm U (fun _=>255)<=4):¬Ap (bB V):=fun hm=>by
 have h2:=GF.aaf V U (fun _=>255);have h3:=hV.2.2;have h4:8<=GF.cm V (fun _=>255):=by
  have h5:((List.range 64).filter fun i=>decide (50<=i/\i<58)).length=8:=by decide +kernel
  rw[<-h5];unfold GF.cm GF.iN;rw[<-List.countP_eq_length_filter, <-List.countP_eq_length_filter];refine List.countP_mono_left (fun i _ h=>?_);have h:50<=i/\i<58:=by simpa using h
  have hmi:=hm (i-50) (by omega);have ct:=akp (i-50) (by omega);rw[show 50+(i-50)=i by omega] at hmi;unfold bB at hmi;simp only[ne_eq,decide_eq_true_eq];intro e;rw[e] at hmi;exact ct hmi.symm
 omega
theorem Abs.read{C:Chip}{A:CS}(H:Abs C A){p:Nat}(hp:p<96):Az A p (dX (eO C p) p):=by
 have bG:=H.cM p hp;have hdm:=fun t D=>H.dm p t D hp;have aoq:=fun k=>H.few p k hp;have lV:∀k:Nat,(C.ch p 3).cI=(fun _=>255)->dX (eO C p) p=⟨false,Tg.zero,false,lC (eO C p) (fun k=>eJ (gk (eO C p) k)) 4,fun _=>0⟩:=fun _ ht=>oC (fun V hV qw=>ahp (mU hV) (by
  rw[GF.iA,aay, <-ht, <-tN];have:=aoq 3 (by omega);omega) qw.1)
 unfold Az
 cases hA:A.pg p with
 | blank =>
  rw[hA] at bG;rw[lV 0 (bG 3 (by omega)).2];exact⟨rfl,rfl,rfl⟩
 | cB n =>
  rw[hA] at bG;rw[lV 0 ((bG.2.2 3 (by omega)).2 bG.2.1)];exact⟨rfl,rfl,rfl⟩
 | full t D =>
  rw[hA] at bG;obtain⟨ht,qw,hD,hc,hk⟩:=bG;have e:∀k,k<4->GF.cm (aS D t k) (gk (eO C p) k)=(C.ch p k).dmg:=fun k h=>by
   rw[aay,tN,(hk k h).2]
  obtain⟨h1,h2,h3,h4,h5⟩:=acr (p:=eO C p) hD ht qw (fun k h=>by rw[e k h];exact aoq k h);refine⟨h1,h2,h3,?_,?_⟩
  ·rw[<-hc];exact acs h4
  ·rw[h5,hdm t D hA];exact py 4 e
theorem BR.congr{C C':Chip}{p:Nat}{x:Pg}(h:BR C p x)(e:∀k,k<4->(C'.ch p k).is=(C.ch p k).is/\(C'.ch p k).cI=(C.ch p k).cI):BR C' p x:=by
 cases x with
 |blank=>exact fun k hk=>by rw[(e k hk).1,(e k hk).2];exact h k hk
 |cB n=>exact⟨h.1,h.2.1,fun k hk=>by rw[(e k hk).1,(e k hk).2];exact h.2.2 k hk⟩
 |full t D=>exact⟨h.1,h.2.1,h.2.2.1,h.2.2.2.1,fun k hk=>by rw[(e k hk).1,(e k hk).2];exact h.2.2.2.2 k hk⟩
theorem Abs.ext{C C':Chip}{A A':CS}(H:Abs C A)(hw:C'.Wf)(s6:C'.ch=C.ch)(bG:A'.pg=A.pg)(hdm:A'.dm=A.dm)(h1:C'.reads=A'.rd)(h2:C'.failed=A'.failed)(h3:C'.before=A'.before)(h4:C'.aH=A'.aH):Abs C' A' :=
 ⟨hw,fun p hp=>by rw[bG];exact(H.cM p hp).congr (fun k hk=>by rw[s6];exact⟨rfl,rfl⟩),fun p k hp hk=>by rw[s6];exact H.few p k hp hk,fun p t D hp h=>by rw[bG] at h;rw[hdm,s6];exact H.dm p t D hp h,h1,h2,h3,h4,fun p k hp hk=>by rw[s6];exact H.wst p k hp hk⟩
def CS.bL(A:CS)(p:Nat):CS:={ A with rd:=af A.rd (p/8) (iz (A.rd (p/8)+1)) }
theorem Abs.bL{C:Chip}{A:CS}(H:Abs C A)(p:Nat):Abs (C.bL p) (A.bL p) :=
 H.ext ⟨H.wf.b0,H.wf.b1,H.wf.bf,H.wf.now,H.wf.cI⟩ rfl rfl rfl (by show af C.reads _ _=_;rw[H.rd];rfl) H.failed H.before H.aH
def CS.ie(A:CS)(B:Nat):CS:=if 0<A.before B then { A with before:=af A.before B (A.before B-1),failed:=af A.failed B (A.failed B||decide (A.before B-1=0)) } else A
def CS.bZ(A:CS)(p:Nat)(x:Pg):CS:={ A with pg:=af A.pg p x,dm:=af A.dm p 0 }
def CS.wr(A:CS)(p k:Nat)(t:Tg)(D:Nat->Nat):CS×Int :=
 if (A.ie (p/8)).failed (p/8) then (A.ie (p/8),8) else ((A.ie (p/8)).bZ p (if k=3 then .full t (cq D) else .cB (k+1)),0)
def CS.aO(A:CS)(p:Nat)(t:Tg)(D:Nat->Nat):Nat->CS×Int
 |0=>(A,0)
 |k+1=>if (A.aO p t D k).2=0 then (A.aO p t D k).1.wr p k t D else A.aO p t D k
def CS.bC(A:CS)(p:Nat)(t:Tg)(D:Nat->Nat):Nat->List CS
 |0=>[]
 |k+1=>if (A.aO p t D k).2=0 then A.bC p t D k++[(A.aO p t D k).1] else A.bC p t D k
theorem Abs.step{C:Chip}{A:CS}(H:Abs C A):Abs C.aM.1 A:=by
 refine H.ext H.wf.step C.tm rfl rfl ?_ ?_ ?_ ?_
 all_goals
  unfold Chip.aM;first|rw[<-H.rd] | rw[<-H.failed] | rw[<-H.before] | rw[<-H.aH]
  split
  ·split<;>rfl
  ·rfl
theorem Abs.ie{C:Chip}{A:CS}(H:Abs C A)(B:Nat):Abs (C.ie B) (A.ie B):=by
 have hw:=aco H.wf B;have s6:=C.ab4 B;unfold Chip.ie CS.ie at *;rw[<-H.before, <-H.failed];by_cases hb:0<C.before B
 ·rw[if_pos hb] at hw s6 ⊢;rw[if_pos hb];exact H.ext hw s6 rfl rfl H.rd rfl rfl H.aH
 ·rw[if_neg hb] at hw s6 ⊢;rw[if_neg hb];exact H
theorem gP(b:Nat->Nat)(i:Bool)(wo:Int):(⟨b,b,i,wo⟩:Chunk).dmg=0:=by
 rw[tN];exact mN b
theorem adF{f:Nat->Nat}:∀n,(∀k,k<n->f k=0)->mx f n=0
 |0,_=>rfl
 | n+1,h=>by
  unfold mx;rw[adF n (fun k hk=>h k (by omega)),h n (by omega)];rfl
theorem CS.dI(A:CS)(p:Nat)(x:Pg):(A.bZ p x).pg p=x:=if_pos rfl
theorem CS.cJ(A:CS){p q:Nat}(x:Pg)(h:q≠p):(A.bZ p x).pg q=A.pg q:=if_neg h
theorem Abs.put{C:Chip}{A:CS}(H:Abs C A){p k:Nat}(hp:p<96)(hk:k<4){x:Pg}{b:Nat->Nat}(hb:∀i,b i<256)(hx:BR (C.cU p k ⟨b,b,true,0⟩) p x)(hdm:∀t D,x=.full t D->∀j,j<4->j≠k->(C.ch p j).dmg=0):Abs (C.cU p k ⟨b,b,true,0⟩) (A.bZ p x):=by
 refine⟨aax H.wf p k hb hb,fun q hq=>?_,fun q j hq hj=>?_,fun q t D hq h=>?_,H.rd,H.failed,H.before,H.aH,fun q j hq hj=>?_⟩
 ·by_cases e:q=p
  ·subst e;rw[CS.dI];exact hx
  ·rw[CS.cJ _ _ e];exact(H.cM q hq).congr (fun j hj=>by rw[Chip.eW _ _ (fun h=>e h.1)];exact⟨rfl,rfl⟩)
 ·by_cases e:q=p/\j=k
  ·obtain⟨rfl,rfl⟩:=e;rw[Chip.di,gP];omega
  ·rw[Chip.eW _ _ e];exact H.few q j hq hj
 ·by_cases e:q=p
  ·subst e;rw[CS.dI] at h;have:(A.bZ q x).dm q=0:=if_pos rfl;rw[this]
   symm
   refine adF 4 (fun j hj=>?_);by_cases ej:j=k
   ·subst ej;rw[Chip.di,gP]
   ·rw[Chip.eW _ _ (fun h=>ej h.2)];exact hdm t D h j hj ej
  ·rw[CS.cJ _ _ e] at h;have:(A.bZ p x).dm q=A.dm q:=if_neg e;rw[this,H.dm q t D hq h];exact py 4 (fun j hj=>by rw[Chip.eW _ _ (fun h=>e h.1)])
 ·by_cases e:q=p/\j=k
  ·obtain⟨rfl,rfl⟩:=e;rw[Chip.di,gP];exact Int.le_refl 0
  ·rw[Chip.eW _ _ e];exact H.wst q j hq hj
def Chip.left(C:Chip)(b:Option Nat):Prop:=C.off=false/\(match b with|none=>C.cut=false|some n=>C.cut=true/\C.dW=n)
def fits(b:Option Nat)(n:Nat):Prop:=∀x,b=some x->n<=x
def less(b:Option Nat)(n:Nat):Option Nat:=b.map (· - n)
theorem wL{C:Chip}{b:Option Nat}(h:C.left b)(hf:fits b 1):C.aM.2=0/\C.aM.1.left (less b 1):=by
 obtain⟨h1,h2⟩:=h;unfold Chip.aM
 cases b with
 | none =>
  simp only at h2;rw[if_neg (by rw[h2];simp)];exact⟨rfl,h1,h2⟩
 | some n =>
  simp only at h2;have hn:=hf n rfl;rw[if_pos h2.1,if_neg (by rw[h2.2];omega)];exact⟨rfl,h1,h2.1,by show C.dW-1=((n-1:Nat):Int);rw[h2.2];omega⟩
theorem aaz{C:Chip}(h:C.left (some 0)):C.aM.2=7/\C.aM.1.off=true:=by
 obtain⟨h1,h2,h3⟩:=h;unfold Chip.aM;rw[if_pos h2,if_pos (by rw[h3];rfl)];exact⟨rfl,rfl⟩
theorem ahq{C:Chip}{b:Option Nat}(h:C.left b)(B:Nat):(C.ie B).left b:=by
 unfold Chip.ie;split
 ·exact h
 ·exact h
theorem acw{C:Chip}{b:Option Nat}(h:C.left b)(a k:Nat)(x:Chunk):(C.cU a k x).left b:=h
def AT(C:Chip)(A:CS):Prop:=C.off=true/\Abs C A
theorem gn(b:Option Nat)(m n:Nat):less (less b m) n=less b (m+n):=by
 cases b with
 |none=>rfl
 |some x=>simp[less];omega
theorem fC(b:Option Nat):less b 0=b:=by
 cases b<;>rfl
theorem tO{C:Chip}{A:CS}(H:Abs C A){p:Nat}{t:Tg}{D:Nat->Nat}{b:Option Nat}(hp:p<96)(ht:t.ok)(qw:t.place=p)(hD:∀j,D j<256)(hl:C.left b)(ox:A.pg p=.blank):∀n,n<=4 ->
  (fits b (A.bC p t D n).length->(C.prog p (aS D t) n).2=(A.aO p t D n).2/\Abs (C.prog p (aS D t) n).1 (A.aO p t D n).1/\(C.prog p (aS D t) n).1.left (less b (A.bC p t D n).length)/\((A.aO p t D n).2=0->∀k,n<=k->k<4->((C.prog p (aS D t) n).1.ch p k).is=false/\((C.prog p (aS D t) n).1.ch p k).cI=fun _=>255)) /\
  (∀x,b=some x->∀h:x<(A.bC p t D n).length,(C.prog p (aS D t) n).2=7/\AT (C.prog p (aS D t) n).1 (A.bC p t D n)[x])
 | 0,_=>by
  have h:=H.cM p hp;rw[ox] at h;refine⟨fun _=>⟨rfl,H,?_,fun _ k _ hk=>h k hk⟩,fun x _ hx=>absurd hx (by simp[CS.bC])⟩;rw[show(A.bC p t D 0).length=0 from rfl,fC];exact hl
 | n+1,hn=>by
  obtain⟨ih1,vA⟩:=tO H hp ht qw hD hl ox n (by omega);by_cases h0:(A.aO p t D n).2=0
  case neg =>
   have e2:A.aO p t D (n+1)=A.aO p t D n:=if_neg h0;have e3:A.bC p t D (n+1)=A.bC p t D n:=if_neg h0;rw[e2,e3];refine⟨fun hf=>?_,fun x hx av=>?_⟩
   ·obtain⟨g1,g2,g3,g4⟩:=ih1 hf;have e1:C.prog p (aS D t) (n+1)=C.prog p (aS D t) n:=if_neg (by rw[g1];exact h0);rw[e1];exact⟨g1,g2,g3,fun h=>absurd h h0⟩
   ·obtain⟨g1,g2⟩:=vA x hx av;have e1:C.prog p (aS D t) (n+1)=C.prog p (aS D t) n:=if_neg (by rw[g1];decide);rw[e1];exact⟨g1,g2⟩
  have e2:A.aO p t D (n+1)=(A.aO p t D n).1.wr p n t D:=if_pos h0;have e3:A.bC p t D (n+1)=A.bC p t D n++[(A.aO p t D n).1]:=if_pos h0;rw[e2,e3];have hlen:(A.bC p t D n++[(A.aO p t D n).1]).length=(A.bC p t D n).length+1:=by simp
  by_cases dZ:fits b (A.bC p t D n).length
  case neg =>
   refine⟨fun hf=>absurd (fun x hx=>by have:=hf x hx;rw[hlen] at this;omega) dZ,fun x hx av=>?_⟩;have hx2:x<(A.bC p t D n).length:=by
    by_cases h:x<(A.bC p t D n).length
    ·exact h
    ·exact absurd (fun y hy=>by rw[hx] at hy;injection hy with hy;omega) dZ
   obtain⟨g1,g2⟩:=vA x hx hx2;have e1:C.prog p (aS D t) (n+1)=C.prog p (aS D t) n:=if_neg (by rw[g1];decide);rw[e1,List.getElem_append_left hx2];exact⟨g1,g2⟩
  obtain⟨g1,g2,g3,g4⟩:=ih1 dZ;have g4:=g4 h0;have e1:C.prog p (aS D t) (n+1)=(C.prog p (aS D t) n).1.write p n (aS D t n):=if_pos (by rw[g1];exact h0);have adx:∀k,k<n->(C.prog p (aS D t) n).1.ch p k=⟨aS D t k,aS D t k,true,0⟩:=fun k hk=>(qv (by omega) (by rw[g1];exact h0)).2 k hk;rw[e1];clear e1 e2 e3 g1 h0 ih1 vA;generalize (C.prog p (aS D t) n).1=S at *;generalize (A.aO p t D n).1=T at *;generalize A.bC p t D n=L at *;have e3:S.write p n (aS D t n)=if S.aM.2=0 then (if (S.aM.1.ie (p/8)).failed (p/8) then (S.aM.1.ie (p/8),8) else ((S.aM.1.ie (p/8)).cU p n ⟨aS D t n,aS D t n,true,0⟩,0)) else S.aM:=by
   unfold Chip.write;rw[if_neg (by rw[g3.1];simp),if_neg (by rw[(g4 n (Nat.le_refl _) (by omega)).1];simp)]
  rw[e3];have s2:=g2.step;refine⟨fun hf=>?_,fun x hx av=>?_⟩
  case refine_2 =>
   have hxe:x=L.length:=by
    have:=dZ x hx;rw[hlen] at av;omega
   subst hxe;have hz:S.left (some 0):=by
    have:less b L.length=some 0:=by rw[hx];simp[less]
    rw[this] at g3;exact g3
   obtain⟨o1,o2⟩:=aaz hz;rw[if_neg (by rw[o1];decide)];refine⟨o1,o2,?_⟩;rw[List.getElem_append_right (Nat.le_refl _)];simpa using s2
  obtain⟨l1,l2⟩:=wL g3 (fun x hx=>by
   cases b with
   |none=>cases hx
   | some y =>
    have:=hf y rfl;rw[hlen] at this;simp[less] at hx;omega)
  rw[if_pos l1,hlen];rw[gn] at l2;have s3:=s2.ie (p/8);have l3:=ahq l2 (p/8);unfold CS.wr;rw[s3.failed];have s6:(S.aM.1.ie (p/8)).ch=S.ch:=by rw[Chip.ab4,Chip.tm]
  by_cases tC:(T.ie (p/8)).failed (p/8)=true
  ·rw[if_pos tC,if_pos tC];exact⟨rfl,s3,l3,fun h=>by cases h⟩
  rw[if_neg tC,if_neg tC];have av:∀i,aS D t n i<256:=adE hD n;refine⟨rfl,s3.put hp (by omega) av ?_ ?_,acw l3 _ _ _,fun _ k hk hk4=>?_⟩
  ·have hc:∀k,k<n+1->((S.aM.1.ie (p/8)).cU p n ⟨aS D t n,aS D t n,true,0⟩).ch p k=⟨aS D t k,aS D t k,true,0⟩:=fun k hk=>by
    by_cases e:k=n
    ·subst e;rw[Chip.di]
    ·rw[Chip.eW _ _ (fun h=>e h.2),s6];exact adx k (by omega)
   have lT:∀k,n+1<=k->k<4->(((S.aM.1.ie (p/8)).cU p n ⟨aS D t n,aS D t n,true,0⟩).ch p k).is=false/\(((S.aM.1.ie (p/8)).cU p n ⟨aS D t n,aS D t n,true,0⟩).ch p k).cI=fun _=>255:=fun k hk hk4=>by
    rw[Chip.eW _ _ (fun h=>by omega),s6];exact g4 k (by omega) hk4
   by_cases h3:n=3
   ·rw[if_pos h3];refine⟨ht,qw,fun j=>?_,ahn D,fun k hk=>?_⟩
    ·unfold cq;split
     ·exact hD j
     ·omega
    ·rw[hc k (by omega),aho];exact⟨rfl,rfl⟩
   ·rw[if_neg h3];refine⟨by omega,by omega,fun k hk=>?_⟩;by_cases hkn:k<n+1
    ·rw[hc k hkn];exact⟨by simp[hkn],fun h=>by omega⟩
    ·rw[(lT k (by omega) hk).1];exact⟨by simp[hkn],fun _=>(lT k (by omega) hk).2⟩
  ·intro t' D' hx j hj hjn;by_cases h3:n=3
   ·rw[s6,adx j (by omega),gP]
   ·rw[if_neg h3] at hx
    cases hx
  ·rw[Chip.eW _ _ (fun h=>by omega),s6];exact g4 k (by omega) hk4
def CS.prog(A:CS)(p:Nat)(t:Tg)(D:Nat->Nat):CS×Int×List CS:=match A.pg p with
 |.blank=>((A.aO p t D 4).1,(A.aO p t D 4).2,A.bC p t D 4)
 |_=>(A,9,[])
theorem Abs.prog{C:Chip}{A:CS}(H:Abs C A){p:Nat}{t:Tg}{D:Nat->Nat}{b:Option Nat}(hp:p<96)(ht:t.ok)(qw:t.place=p)(hD:∀j,D j<256)(hl:C.left b) :
  (fits b (A.prog p t D).2.2.length->(C.prog p (aS D t) 4).2=(A.prog p t D).2.1/\Abs (C.prog p (aS D t) 4).1 (A.prog p t D).1/\(C.prog p (aS D t) 4).1.left (less b (A.prog p t D).2.2.length)) /\
  (∀x,b=some x->∀h:x<(A.prog p t D).2.2.length,(C.prog p (aS D t) 4).2=7/\AT (C.prog p (aS D t) 4).1 (A.prog p t D).2.2[x]):=by
 have first:C.write p 0 (aS D t 0)=(C,9)->C.prog p (aS D t) 4=(C,9):=fun h=>by
  have e1:C.prog p (aS D t) 1=(C,9):=by
   show(if (0:Int)=0 then C.write p 0 (aS D t 0) else (C,0))=_;rw[if_pos rfl,h]
  rw[oD (i:=1) (by rw[e1];exact(by decide:(9:Int)≠0)) 4 (by omega),e1]
 have hC:¬C.off=true:=by rw[hl.1];simp
 have bG:=H.cM p hp
 cases hA:A.pg p with
 | blank =>
  obtain⟨g1,g2⟩:=tO H hp ht qw hD hl hA 4 (by omega);have e:A.prog p t D=((A.aO p t D 4).1,(A.aO p t D 4).2,A.bC p t D 4):=by
   unfold CS.prog;rw[hA]
  rw[e];exact⟨fun hf=>⟨(g1 hf).1,(g1 hf).2.1,(g1 hf).2.2.1⟩,g2⟩
 | cB n =>
  rw[hA] at bG;have e:A.prog p t D=(A,9,[]):=by
   unfold CS.prog;rw[hA]
  have e2:=first (by
   unfold Chip.write;rw[if_neg hC,if_pos (by rw[(bG.2.2 0 (by omega)).1];simp;exact bG.1)])
  rw[e,e2];exact⟨fun _=>⟨rfl,H,by rw[show([]:List CS).length=0 from rfl,fC];exact hl⟩,fun x _ h=>absurd h (by simp)⟩
 | full t' D' =>
  rw[hA] at bG;have e:A.prog p t D=(A,9,[]):=by
   unfold CS.prog;rw[hA]
  have e2:=first (by
   unfold Chip.write;rw[if_neg hC,if_pos (bG.2.2.2.2 0 (by omega)).1])
  rw[e,e2];exact⟨fun _=>⟨rfl,H,by rw[show([]:List CS).length=0 from rfl,fC];exact hl⟩,fun x _ h=>absurd h (by simp)⟩
def Chip.erase(C : Chip)(B : Nat) : Chip×Int :=
  if C.off then (C, 7) else if C.aM.2 = 0 then
    (if C.aM.1.failed B||C.aM.1.aH B then ({ C.aM.1 with failed := af C.aM.1.failed B true }, 8)
     else (({ C.aM.1 with failed := af C.aM.1.failed B false } : Chip).clear B, 0))
  else C.aM
def CS.erase(A:CS)(B:Nat):CS×Int :=
 if A.failed B||A.aH B then ({ A with failed:=af A.failed B true },8)
 else ({ A with failed:=af A.failed B false,pg:=fun p=>if p/8=B then .blank else A.pg p,rd:=af A.rd B 0 },0)
theorem Abs.erase{C:Chip}{A:CS}{b:Option Nat}(H:Abs C A)(B:Nat)(hl:C.left b) :
  (fits b 1->(C.erase B).2=(A.erase B).2/\Abs (C.erase B).1 (A.erase B).1/\(C.erase B).1.left (less b 1))/\(b=some 0->(C.erase B).2=7/\AT (C.erase B).1 A):=by
 unfold Chip.erase;rw[if_neg (by rw[hl.1];simp)];have s2:=H.step;refine⟨fun hf=>?_,fun hb=>?_⟩
 case refine_2 =>
  subst hb;obtain⟨o1,o2⟩:=aaz hl;rw[if_neg (by rw[o1];decide)];exact⟨o1,o2,s2⟩
 obtain⟨l1,l2⟩:=wL hl hf;rw[if_pos l1];unfold CS.erase;clear H hl hf l1;generalize C.aM.1=S at *;rw[s2.failed,s2.aH];by_cases hf:(A.failed B||A.aH B)=true
 ·rw[if_pos hf,if_pos hf];exact⟨rfl,s2.ext ⟨s2.wf.b0,s2.wf.b1,s2.wf.bf,s2.wf.now,s2.wf.cI⟩ rfl rfl rfl s2.rd rfl s2.before s2.aH,l2⟩
 ·rw[if_neg hf,if_neg hf];have hw:(({ S with failed:=af A.failed B false }:Chip).clear B).Wf:=⟨s2.wf.b0,s2.wf.b1,s2.wf.bf,fun a k i=>by
   unfold Chip.clear;simp only;split
   ·exact(by decide:255<256)
   ·exact s2.wf.now _ _ _,fun a k i=>by
   unfold Chip.clear;simp only;split
   ·exact(by decide:255<256)
   ·exact s2.wf.cI _ _ _⟩
  refine⟨rfl,⟨hw,fun p hp=>?_,fun p k hp hk=>?_,fun p t D hp h=>?_,?_,rfl,s2.before,s2.aH,fun p k hp hk=>?_⟩,l2⟩
  ·by_cases e:p/8=B
   ·simp only[if_pos e];intro k hk;unfold Chip.clear;simp only[if_pos e];exact⟨rfl,rfl⟩
   ·simp only[if_neg e];exact(s2.cM p hp).congr (fun k hk=>by unfold Chip.clear;simp only[if_neg e,and_self])
  ·unfold Chip.clear;simp only;split
   ·rw[show Chunk.blank=⟨fun _=>255,fun _=>255,false,0⟩ from rfl,gP];omega
   ·exact s2.few p k hp hk
  ·by_cases e:p/8=B
   ·simp only[if_pos e] at h
    cases h
   ·simp only[if_neg e] at h;rw[show(A.dm p)=_ from s2.dm p t D hp h];exact py 4 (fun k hk=>by unfold Chip.clear;simp only[if_neg e])
  ·show(fun b=>if b=B then 0 else S.reads b)=af A.rd B 0;rw[s2.rd];rfl
  ·unfold Chip.clear;simp only;split
   ·rw[show Chunk.blank=⟨fun _=>255,fun _=>255,false,0⟩ from rfl,gP];exact Int.le_refl 0
   ·exact s2.wst p k hp hk
end
section
open Go.RowKit
attribute [local irreducible] GF.pw GF.lg GF.mul GF.inv GF.xt
section
variable{w:World}{c B:Nat}{C:Chip}
theorem tP(w:World)(c B:Nat)(hB:B<12):Spec Tryz.prog 47 #[.pointer (some ⟨c,0,none⟩),.int .i64 B] w fun v w'=>v=.tuple #[.pointer (some ⟨c,B*4164,none⟩),ak 0]/\w=w':=by
 refine spec_of_wpE (T:=tt) ah func47 rfl (by decide +kernel) ntmps47 (by simp) ?_;conv=>whnf
 repeat ((first|(refine Ix.of B (by omega) (by omega) ?_)|refine Br.f ?_|refine Pk.f ?_|refine Br.n ?_|refine CW.s ?_);conv=>whnf)
 rw[show 0+0+B*4164=B*4164 by omega];exact⟨rfl,rfl,rfl⟩
theorem nP{B n i:Nat}(h:n=4160+i):B*4164+n=bq B+i:=by
 unfold bq;omega
theorem ahr(b o:Nat)(x:Int)(w:World)(hc:w.cell? ⟨b,o,none⟩=some (.int .i64 x)) :
  Spec Tryz.prog 49 #[.pointer (some ⟨b,o,none⟩)] w fun v w'=>v=.int .i64 x/\w'=w:=by
 refine Spec.jH (by kernel_rfl) ?_;have hl:=run_call_load (P:=Tryz.prog) func73 (by kernel_rfl) (by kernel_rfl) (by kernel_rfl) .i64 (by kernel_rfl) hc
 go_enter func49,ntmps49
 go_wp2
 go_ret
 exact⟨rfl,rfl⟩
theorem ahs(H : Ab w c C)(hw : C.Wf)(hB : B < 12) : Spec Tryz.prog 179 #[.pointer (some ⟨c, 0, none⟩), .int .i64 B] w fun v w' => v = ak (C.erase B).2 /\ Ab w' c (C.erase B).1 /\ Aa [c] w w' := by
  refine spec_of_wpE (T := tt) ah func179 rfl (by decide +kernel) ntmps179 (by simp) ?_;conv => whnf
  refine Ca.of (tP w c B hB) ?_;rintro _ _ ⟨rfl, rfl⟩;by_cases cO : C.off = true
  · conv => whnf
    repeat ((first|(refine Ld.of H.off ?_)|(refine Br.is cO ?_)|refine Br.f ?_|refine Ru.ai ?_|refine CW.s ?_); conv => whnf)
    refine⟨rfl, ?_⟩;unfold Chip.erase;rw[if_pos cO];exact⟨rfl, H, Aa.refl _ _⟩
  have tu : C.off = false := by simpa using cO
  conv => whnf
  repeat ((first|(refine Ld.of H.off ?_)|(refine Br.bF tu ?_)|refine Br.f ?_|refine Ru.ai ?_|refine CW.s ?_); conv => whnf)
  refine Ca.of (adi w c C H ⟨hw.b0, hw.b1⟩) ?_;rintro _ w1 ⟨rfl, H1, k1⟩;by_cases he : C.aM.2 = 0
  · rw[he]
    have hw1 := hw.step;have agN : C.erase B = (if C.aM.1.failed B||C.aM.1.aH B then ({ C.aM.1 with failed := af C.aM.1.failed B true }, 8)
     else (({ C.aM.1 with failed := af C.aM.1.failed B false } : Chip).clear B, 0)) := by
      unfold Chip.erase;rw[if_neg cO, if_pos he]
    rw[agN];generalize C.aM.1 = D at *;clear agN he;have hfe : ∀b : Bool, Ab (w1.setCell ⟨c, bq B+1, none⟩ (.bool b)) c { D with failed := af D.failed B b } := fun b => H1.wv hB b;have hfi : ∀b : Bool, (w1.setCell ⟨c, bq B+1, none⟩ (.bool b)).cell? ⟨c, bq B+1, none⟩ = some (.bool b) := fun b => by
      have := (hfe b).fM hB;unfold af at this;simpa using this
    have hfk : ∀b : Bool, Aa [c] w (w1.setCell ⟨c, bq B+1, none⟩ (.bool b)) := fun b => k1.trans (Aa.set c (bq B+1) (.bool b));by_cases hf : D.failed B = true
    · conv => whnf
      repeat ((first|(refine Ld.at (nP (i := 1) rfl) (H1.fM hB) ?_)|(refine Br.is hf ?_)|refine Br.t ?_|refine Br.f ?_|refine Pk.t ?_|refine Ru.ai ?_); conv => whnf)
      refine Sd.setAt _ (nP (i := 1) rfl) (H1.fM hB) (Row.free H1 _) rfl ?_;have H2 := hfe true;have k2 := hfk true;have c2 := hfi true;generalize w1.setCell _ _ = w2 at *;conv => whnf
      repeat ((first|(refine Ld.at (nP (i := 1) rfl) c2 ?_)|refine Br.t ?_|refine CW.s ?_); conv => whnf)
      rw[if_pos (by rw[hf]; rfl)];exact⟨rfl, rfl, H2, k2⟩
    have gX : D.failed B = false := by simpa using hf
    conv => whnf
    repeat ((first|(refine Ld.at (nP (i := 1) rfl) (H1.fM hB) ?_)|(refine Ld.at (nP (i := 3) rfl) (H1.aai hB) ?_)|(refine Br.bF gX ?_)|refine Br.f ?_|refine Pk.f ?_|refine Ru.ai ?_); conv => whnf)
    refine Sd.setAt _ (nP (i := 1) rfl) (H1.fM hB) (Row.free H1 _) rfl ?_;by_cases ha : D.aH B = true
    · have H2 := hfe true
      have k2 := hfk true;have c2 := hfi true;rw[ha];generalize w1.setCell _ _ = w2 at *;conv => whnf
      repeat ((first|(refine Ld.at (nP (i := 1) rfl) c2 ?_)|refine Br.t ?_|refine CW.s ?_); conv => whnf)
      rw[if_pos (by simp)];exact⟨rfl, rfl, H2, k2⟩
    have mI : D.aH B = false := by simpa using ha
    have H2 := hfe false;have k2 := hfk false;have c2 := hfi false;rw[mI];generalize w1.setCell _ _ = w2 at *;conv => whnf
    repeat ((first|(refine Ld.at (nP (i := 1) rfl) c2 ?_)|refine Br.f ?_|refine CW.s ?_); conv => whnf)
    refine Ca.of (zY w2 c B _ hB H2) ?_;rintro _ w3 ⟨rfl, H3, k3⟩;conv => whnf
    rw[if_neg (by simp[gX])];exact⟨rfl, rfl, H3, k2.trans k3⟩
  · unfold Chip.erase
    rw[if_neg cO, if_neg he];have h7 : C.aM.2 = 7 := (Chip.wy C).resolve_left he;rw[h7];conv => whnf
    repeat ((first|refine Br.t ?_|refine Ru.n1 ?_); conv => whnf)
    exact⟨rfl, rfl, H1, k1⟩
theorem ae7{m f cd g h:Nat}{n:Int}(H:Aw w m c f cd g h C n)(hw:C.Wf)(hB:B<12):Spec Tryz.prog 134 #[.pointer (some ⟨m,0,none⟩),.int .i64 B] w fun v w'=>v=ak (C.erase B).2/\Aw w' m c f cd g h (C.erase B).1 n/\Aa [c] w w':=by
 refine spec_of_wpE (T:=tt) ah func134 rfl (by decide +kernel) ntmps134 (by simp) ?_;conv=>whnf
 repeat ((refine Ld.of (H.row.cell 0 (by omega)) ?_);conv=>whnf)
 refine Ca.of (ahs H.dz hw hB) ?_;rintro _ w1 ⟨rfl,H1,k1⟩;conv=>whnf
 exact⟨rfl,rfl,H.yF k1 H1,k1⟩
theorem wM{m f cd g h:Nat}{n:Int}(H:Aw w m c f cd g h C n):Spec Tryz.prog 158 #[.pointer (some ⟨m,0,none⟩)] w fun v w'=>v=.int .i64 n/\w=w':=by
 refine spec_of_wpE (T:=tt) ah func158 rfl (by decide +kernel) ntmps158 (by simp) ?_;conv=>whnf
 refine Ca.of (ahr m _ _ w (H.row.cell 2 (by omega))) ?_;rintro _ _ ⟨rfl,rfl⟩;conv=>whnf
 exact⟨rfl,rfl,rfl⟩
end
end
section
open Go.RowKit
attribute [local irreducible] GF.pw GF.lg GF.mul GF.inv GF.xt
theorem Spec.mono{P:Program}{f:FuncId}{args:Array Value}{w:World}{Φ Ψ:Value->World->Prop}(h:Spec P f args w Φ)(k:∀v w',Φ v w'->Ψ v w'):Spec P f args w Ψ:=⟨h.1,h.2.mono fun e w' ⟨v,e1,e2⟩=>⟨v,e1,k v w' e2⟩⟩
structure Pt where
 m:Nat
 c:Nat
 f:Nat
 cd:Nat
 g:Nat
 h:Nat
def Pt.l(N:Pt):List Nat:=[N.m,N.c,N.g]
abbrev AL(w:World)(N:Pt)(C:Chip)(n:Int):Prop:=Aw w N.m N.c N.f N.cd N.g N.h C n
def MedA(w:World)(N:Pt)(P:CS)(b:Option Nat)(n:Int):Prop:=∃C,AL w N C n/\Abs C P/\C.left b
def AU(w:World)(N:Pt)(P:CS)(n:Int):Prop:=∃C,AL w N C n/\AT C P
def Ag(b:Option Nat)(tr:List CS)(ok:Option Nat->Prop)(dead:CS->Prop):Prop :=
 (fits b tr.length/\ok (less b tr.length))\/∃x,∃h:x<tr.length,b=some x/\dead tr[x]
theorem Ag.of{b:Option Nat}{tr:List CS}{ok:Option Nat->Prop}{dead:CS->Prop}(h1:fits b tr.length->ok (less b tr.length))(h2:∀x,b=some x->∀h:x<tr.length,dead tr[x]):Ag b tr ok dead:=by
 cases b with
 |none=>exact .inl ⟨fun x hx=>(by cases hx),h1 (fun x hx=>(by cases hx))⟩
 | some x =>
  by_cases h:x<tr.length
  ·exact .inr ⟨x,h,rfl,h2 x rfl h⟩
  ·have hf:fits (some x) tr.length:=fun y hy=>by injection hy with hy;omega
   exact .inl ⟨hf,h1 hf⟩
theorem Ag.nil{b:Option Nat}{ok:Option Nat->Prop}{dead:CS->Prop}(h:ok b):Ag b [] ok dead :=
 .inl ⟨fun x hx=>Nat.zero_le _,by rw[show([]:List CS).length=0 from rfl,fC];exact h⟩
theorem Ag.gone{b:Option Nat}{t1 t2:List CS}{ok:Option Nat->Prop}{dead:CS->Prop}{x:Nat}(h:x<t1.length)(hb:b=some x)(hd:dead t1[x]):Ag b (t1++t2) ok dead :=
 .inr ⟨x,by simp;omega,hb,by rw[List.getElem_append_left h];exact hd⟩
theorem Ag.then{b:Option Nat}{t1 t2:List CS}{ok:Option Nat->Prop}{dead:CS->Prop}(hf:fits b t1.length)(h:Ag (less b t1.length) t2 ok dead):Ag b (t1++t2) ok dead:=by
 rcases h with⟨h1,h2⟩|⟨x,h1,h2,h3⟩
 ·refine .inl ⟨fun x hx=>?_,?_⟩
  ·subst hx;have:=h1 (x-t1.length) rfl;have:=hf x rfl;simp;omega
  ·rw[gn] at h2;rw[List.length_append];exact h2
 ·cases b with
  |none=>cases h2
  | some y =>
   have h2:y-t1.length=x:=by simpa[less] using h2
   have:=hf y rfl;refine .inr ⟨y,by simp;omega,rfl,?_⟩;rw[List.getElem_append_right this];simp only[h2];exact h3
theorem Ag.mono{b:Option Nat}{tr:List CS}{ok ok':Option Nat->Prop}{dead aaA:CS->Prop}(h:Ag b tr ok dead)(h1:∀b,ok b->ok' b)(h2:∀X,dead X->aaA X):Ag b tr ok' aaA:=by
 rcases h with⟨f,o⟩|⟨x,hx,e,d⟩
 ·exact .inl ⟨f,h1 _ o⟩
 ·exact .inr ⟨x,hx,e,h2 _ d⟩
section
variable{w w':World}{N:Pt}{P:CS}{b:Option Nat}{n:Int}
theorem MedA.ab{S:List Nat}(H:MedA w N P b n)(k:Aa S w w')(h:N.m∉S/\N.c∉S/\N.f∉S/\N.cd∉S/\N.g∉S/\N.h∉S):MedA w' N P b n:=by
 obtain⟨C,h1,h2⟩:=H;exact⟨C,h1.ab k h.1 h.2.1 h.2.2.1 h.2.2.2.1 h.2.2.2.2.1 h.2.2.2.2.2,h2⟩
theorem MedA.aj(H:MedA w N P b n)(k:Aa [] w w'):MedA w' N P b n:=H.ab k (by simp)
theorem AU.ab{S:List Nat}(H:AU w N P n)(k:Aa S w w')(h:N.m∉S/\N.c∉S/\N.f∉S/\N.cd∉S/\N.g∉S/\N.h∉S):AU w' N P n:=by
 obtain⟨C,h1,h2⟩:=H;exact⟨C,h1.ab k h.1 h.2.1 h.2.2.1 h.2.2.2.1 h.2.2.2.2.1 h.2.2.2.2.2,h2⟩
def CS.vo(A:CS)(p:Nat)(t:Tg)(D:Nat->Nat):CS×Int×List CS:=if (A.prog p t D).2.1=0 then ((A.prog p t D).1.bL p,0,(A.prog p t D).2.2) else A.prog p t D
def one(e n:Int):Int:=if e=0 then iz (n+1) else n
theorem akq(H:MedA w N P b n){p dd:Nat}{A:Option Addr}{D:Nat->Nat}{t:Tg}(hp:p<96)(hD:∀j,D j<256)(rD:AH w A 174 D)(hdd:174<=dd)(hA:∀x,A=some x->x.block≠N.m/\x.block≠N.c/\x.block≠N.g)(ht:t.ok)(qw:t.place=p) :
  Spec Tryz.prog 159 #[.pointer (some ⟨N.m,0,none⟩),.int .i64 p,.agg t.arr,.slice A 174 dd] w fun v w' =>
   Aa N.l w w'/\Ag b (P.vo p t D).2.2 (fun b'=>v=ak (P.vo p t D).2.1/\MedA w' N (P.vo p t D).1 b' (one (P.vo p t D).2.1 n)) (fun X=>v=ak 7/\AU w' N X n):=by
 obtain⟨C,h1,h2,h3⟩:=H;refine Spec.mono (acq w N.m N.c N.f N.cd N.g N.h p dd C n A D t h1 h2.wf hp hD rD hdd hA ht qw) ?_;rintro v w' ⟨k,hv⟩;refine⟨k,?_⟩;obtain⟨g1,g2⟩:=h2.prog (b:=b) hp ht qw hD h3;have etr:(P.vo p t D).2.2=(P.prog p t D).2.2:=by
  unfold CS.vo;split<;>rfl
 rw[etr];refine Ag.of (fun hf=>?_) (fun x hx hl=>?_)
 ·obtain⟨a1,a2,a3⟩:=g1 hf;unfold CS.vo;rw[a1] at hv;rcases hv with⟨ct,rfl,hm⟩|⟨he,rfl,hm⟩
  ·rw[if_neg ct];refine⟨rfl,C.prog p (aS D t) 4 |>.1,?_,a2,a3⟩;unfold one;rw[if_neg ct];exact hm
  ·rw[if_pos he];exact⟨rfl,_,hm,a2.bL p,a3⟩
 ·obtain⟨a1,a2⟩:=g2 x hx hl;rw[a1] at hv;rcases hv with⟨-,rfl,hm⟩|⟨he,-⟩
  ·exact⟨rfl,_,hm,a2⟩
  ·exact absurd he (by decide)
theorem aaB(H:MedA w N P b n){p:Nat}(hp:p<96) :
  Spec Tryz.prog 115 #[.pointer (some ⟨N.m,0,none⟩),.int .i64 p] w fun v w' =>
   Aa N.l w w'/\∃R dv,Az P p R/\AY w w' R dv/\v=.tuple #[agg 9 (rC R.tagged R.tag R.sound dv (R.iP:Nat)),ak 0]/\MedA w' N (P.bL p) b (iz (n+1)):=by
 obtain⟨C,h1,h2,h3⟩:=H;refine Spec.mono (aaw w N.m N.c N.f N.cd N.g N.h p C n h1 h2.wf hp) ?_;rintro v w' (⟨cO,-⟩|⟨cO,dv,hd,rfl,hm,k⟩)
 ·rw[h3.1] at cO
  cases cO
 ·exact⟨k,_,dv,h2.read hp,hd,rfl,_,hm,h2.bL p,h3⟩
theorem mV(H:MedA w N P b n){B:Nat}(hB:B<12) :
  Spec Tryz.prog 134 #[.pointer (some ⟨N.m,0,none⟩),.int .i64 B] w fun v w' =>
   Aa [N.c] w w'/\Ag b [P] (fun b'=>v=ak (P.erase B).2/\MedA w' N (P.erase B).1 b' n) (fun X=>v=ak 7/\AU w' N X n):=by
 obtain⟨C,h1,h2,h3⟩:=H;refine Spec.mono (ae7 h1 h2.wf hB) ?_;rintro v w' ⟨rfl,hm,k⟩;refine⟨k,?_⟩;obtain⟨g1,g2⟩:=h2.erase B h3;refine Ag.of (fun hf=>?_) (fun x hx hl=>?_)
 ·obtain⟨a1,a2,a3⟩:=g1 hf;rw[a1];exact⟨rfl,_,hm,a2,a3⟩
 ·obtain rfl:x=0:=by simpa using hl
  obtain⟨a1,a2⟩:=g2 hx;rw[a1];exact⟨rfl,_,hm,a2⟩
theorem qy(H:MedA w N P b n):Spec Tryz.prog 158 #[.pointer (some ⟨N.m,0,none⟩)] w fun v w'=>v=.int .i64 n/\w=w':=by
 obtain⟨C,h1,h2,h3⟩:=H;exact wM h1
theorem ae8(H:AU w N P n):Spec Tryz.prog 158 #[.pointer (some ⟨N.m,0,none⟩)] w fun v w'=>v=.int .i64 n/\w=w':=by
 obtain⟨C,h1,h2⟩:=H;exact wM h1
end
end
section
open Go.RowKit
structure Fd where
 place:Int
 tp:Int
 of:Int
 seq:Int
 copy:Int
 lost:Bool
deriving DecidableEq
def Fd.zero:Fd:=⟨0,0,0,0,0,false⟩
instance:Inhabited Fd:=⟨Fd.zero⟩
def Fd.arr(f:Fd):Array Value := #[.int .i64 f.place,.int .i64 f.tp,.int .i64 f.of,.int .i64 f.seq,.int .i64 f.copy,.bool f.lost]
def Fd.cell(f:Fd)(j:Nat):Value:=f.arr.getD j .nilIface
def jn(L:List Fd)(q:Nat):Value:=(L.getD (q/6) Fd.zero).cell (q%6)
def Fd.sound(f:Fd):Bool:=decide (0<=f.place/\f.place<=95/\0<=f.of/\f.of<=24/\0<=f.seq/\f.seq<=1099511627775/\0<=f.copy/\f.copy<=255)
def Fd.wf(f:Fd):Prop:=(-9223372036854775808<=f.place/\f.place<=9223372036854775807)/\(-9223372036854775808<=f.tp/\f.tp<=9223372036854775807)/\(-9223372036854775808<=f.of/\f.of<=9223372036854775807)/\(-9223372036854775808<=f.seq/\f.seq<=9223372036854775807)/\(-9223372036854775808<=f.copy/\f.copy<=9223372036854775807)
theorem kS:(Tryz.prog.info? 69).map (fun i=>(i.zero,i.size,i.bytes))=some (some (.agg Fd.zero.arr),6,48):=by kernel_rfl
theorem aht(f:Fd)(w:World):Calls Tryz.prog 176 #[.agg f.arr] w fun e w'=>e=.returned (.bool f.sound)/\Aa [] w w':=by
 unfold Fd.arr Fd.sound;have hc:(0<=f.place/\f.place<=95/\0<=f.of/\f.of<=24/\0<=f.seq/\f.seq<=1099511627775/\0<=f.copy/\f.copy<=255)\/(0<=f.place/\f.place<=95/\0<=f.of/\f.of<=24/\0<=f.seq/\f.seq<=1099511627775/\0<=f.copy/\255<f.copy) \/
   (0<=f.place/\f.place<=95/\0<=f.of/\f.of<=24/\0<=f.seq/\f.seq<=1099511627775/\f.copy<0/\(0:Int)<=0)\/(0<=f.place/\f.place<=95/\0<=f.of/\f.of<=24/\0<=f.seq/\1099511627775<f.seq/\(0:Int)<=0/\(0:Int)<=0) \/
   (0<=f.place/\f.place<=95/\0<=f.of/\f.of<=24/\f.seq<0/\(0:Int)<=0/\(0:Int)<=0/\(0:Int)<=0)\/(0<=f.place/\f.place<=95/\0<=f.of/\24<f.of/\(0:Int)<=0/\(0:Int)<=0/\(0:Int)<=0/\(0:Int)<=0) \/
   (0<=f.place/\f.place<=95/\f.of<0/\(0:Int)<=0/\(0:Int)<=0/\(0:Int)<=0/\(0:Int)<=0/\(0:Int)<=0)\/(0<=f.place/\95<f.place/\(0:Int)<=0/\(0:Int)<=0/\(0:Int)<=0/\(0:Int)<=0/\(0:Int)<=0/\(0:Int)<=0)\/(f.place<0/\(0:Int)<=0/\(0:Int)<=0/\(0:Int)<=0/\(0:Int)<=0/\(0:Int)<=0/\(0:Int)<=0/\(0:Int)<=0):=by omega
 rcases hc with⟨h1,h2,h3,h4,h5,h6,h7,h8⟩|⟨h1,h2,h3,h4,h5,h6,h7,h8⟩|⟨h1,h2,h3,h4,h5,h6,h7,h8⟩|⟨h1,h2,h3,h4,h5,h6,h7,h8⟩|⟨h1,h2,h3,h4,h5,h6,h7,h8⟩|⟨h1,h2,h3,h4,h5,h6,h7,h8⟩|⟨h1,h2,h3,h4,h5,h6,h7,h8⟩|⟨h1,h2,h3,h4,h5,h6,h7,h8⟩|⟨h1,h2,h3,h4,h5,h6,h7,h8⟩
 all_goals
  first
   |rw[decide_eq_true (p:=0<=f.place/\_) (by omega)]
   |rw[decide_eq_false (p:=0<=f.place/\_) (by omega)]
  go_enter func176,ntmps176
  go_wp2
  go_ret
  refine⟨?_,(Aa.refl _ _).alloc _⟩;first
   |rfl
   |(simp;omega)
def ahead(a b:Int):Bool:=decide (0<=a/\a<=255/\0<=b/\b<=255/\1<=(b-a)%256/\(b-a)%256<=127)
theorem ahu(a b:Int)(w:World):Calls Tryz.prog 195 #[.int .i64 a,.int .i64 b] w fun e w'=>e=.returned (.bool (ahead a b))/\w=w':=by
 unfold ahead;have hc:(0<=a/\a<=255/\0<=b/\b<=255)\/(0<=a/\a<=255/\0<=b/\255<b)\/(0<=a/\a<=255/\b<0/\(0:Int)<=0)\/(0<=a/\255<a/\(0:Int)<=0/\(0:Int)<=0)\/(a<0/\(0:Int)<=0/\(0:Int)<=0/\(0:Int)<=0):=by omega
 rcases hc with⟨h1,h2,h3,h4⟩|hc
 ·have hd:(b-a)%256<1\/(1<=(b-a)%256/\(b-a)%256<=127)\/(127<(b-a)%256/\1<=(b-a)%256):=by omega
  rcases hd with hd|⟨hd,hd2⟩|⟨hd,hd2⟩
  all_goals
   first
    |rw[decide_eq_true (p:=0<=a/\_) (by omega)]
    |rw[decide_eq_false (p:=0<=a/\_) (by omega)]
   go_enter func195,ntmps195
   go_wp2
   go_ret
   refine⟨?_,rfl⟩;first
    |rfl
    |(simp;omega)
 ·rcases hc with⟨h1,h2,h3,h4⟩|⟨h1,h2,h3,h4⟩|⟨h1,h2,h3,h4⟩|⟨h1,h2,h3,h4⟩
  all_goals
   rw[decide_eq_false (p:=0<=a/\_) (by omega)]
   go_enter func195,ntmps195
   go_wp2
   go_ret
   refine⟨?_,rfl⟩;first
    |rfl
    |(simp;omega)
def sx:Value->Bool
 |.slice none 0 0=>true
 |_=>false
theorem acx{v:Value}(h:sx v=true):v=.slice none 0 0:=by
 unfold sx at h;split at h
 ·rfl
 ·cases h
noncomputable def yN(t:TypeId):Array Value:=(((Tryz.prog.info? t).bind (·.zero)).getD (.agg #[])).cells
theorem acy(cs:Array Value)(N:Nat)(z:Value)(p:Value->Bool)(hp:∀v,p v=true->v=z)(h:(cs.toList.length == N&&cs.toList.all p)=true):cs=(Array.range N).map (fun _=>z):=by
 simp only[Bool.and_eq_true,beq_iff_eq,List.all_eq_true] at h;apply Array.ext
 ·simpa using h.1
 ·intro i h1 h2;simp only[Array.getElem_map];exact hp _ (h.2 _ (by simp))
theorem akr:((yN 282).toList.length == 96&&(yN 282).toList.all sx)=true:=by kernel_rfl
theorem zat:yN 282=(Array.range 96).map (fun _=>.slice none 0 0):=acy _ _ _ sx (fun _ h=>acx h) akr
theorem ae9(w:World):(Instr.alloc 282 true (.tuple #[])).run Tryz.prog w=.ok (.pointer (some ⟨w.heap.size,0,none⟩)) (w.alloc (.cells (yN 282) 282)):=by kernel_rfl
theorem ahv(w:World):(Instr.alloc 282 true (.tuple #[])).run Tryz.prog w=.ok (.pointer (some ⟨w.heap.size,0,none⟩)) (w.alloc (fH 96 (fun _=>.slice none 0 0) 282)):=by
 rw[ae9,zat];rfl
theorem aks:(Tryz.prog.info? 282).map (·.size)=some 96:=by kernel_rfl
def mj(L:List Fd)(p:Nat):List Fd:=L.filter fun f=>f.sound&&f.place == (p:Int)
theorem tQ(L:List Fd)(f:Fd)(p:Nat):mj (L++[f]) p=mj L p++if f.sound&&f.place == (p:Int) then [f] else []:=by
 unfold mj;rw[List.filter_append];simp only[List.filter_cons,List.filter_nil]
theorem akt(L:List Fd)(p:Nat):(mj L p).length<=L.length:=List.length_filter_le _ _
def mW(L:List Fd)(k:Nat):List Fd:=(List.range k).flatMap fun p=>mj L p
theorem jS{L:List Fd}{k:Nat}(h:k<L.length):L.take (k+1)=L.take k++[L.getD k Fd.zero]:=by
 rw[List.take_add_one,List.getD_eq_getElem?_getD,List.getElem?_eq_getElem h];rfl
theorem ml{w:World}{A:Option Addr}{L:List Fd}(r:Rd w A (L.length*6) (jn L))(k:Nat)(hk:k<L.length) :
  ∃b o,A=some ⟨b,o,none⟩/\∀m,m<6->w.cell? ⟨b,o+k*6+m,none⟩=some ((L.getD k Fd.zero).cell m):=by
 obtain⟨b,o,e,h⟩:=r (by omega);refine⟨b,o,e,fun m hm=>?_⟩;have h1:=h (k*6+m) (by omega);have e1:(k*6+m)/6=k:=by omega
 have e2:(k*6+m)%6=m:=by omega
 unfold jn at h1;rw[e1,e2] at h1;rw[<-h1,Nat.add_assoc]
structure Bt(w:World)(g:Nat)(L:List Fd)(X:Nat->Option Addr)(C:Nat->Nat)(wr:World):Prop where
 row:Row wr g 282 96 (fun p=>.slice (X p) (mj L p).length (C p))
 ly:∀p,p<96->Ly wr 69 6 (X p) (mj L p).length (C p) (jn (mj L p))
 new:∀p,p<96->∀x,x∈aR (X p)->w.heap.size<=x
 apart:∀p q,p<96->q<96->p≠q->∀x,x∈aR (X p)->x∉aR (X q)
 ab:Aa [] w wr
theorem Bt.alu{w:World}{g:Nat}{L:List Fd}{X:Nat->Option Addr}{C:Nat->Nat}{wr w':World}(h:Bt w g L X C wr)(k:Aa [] wr w'):Bt w g L X C w' :=
 ⟨h.row.ab k (fun h=>by cases h),fun p hp=>(h.ly p hp).aj k,h.new,h.apart,h.ab.trans k⟩
theorem gQ(f:Fd)(j:Nat)(hj:j<1*6):(f.cell j).oneCell'=true:=by
 have:j=0\/j=1\/j=2\/j=3\/j=4\/j=5:=by omega
 rcases this with rfl|rfl|rfl|rfl|rfl|rfl<;>rfl
theorem tR(L:List Fd)(f:Fd)(j:Nat)(hj:j<(L.length+1)*6):jn (L++[f]) j=if j<L.length*6 then jn L j else f.cell (j-L.length*6):=by
 unfold jn;by_cases h:j<L.length*6
 ·rw[if_pos h];have h2:j/6<L.length:=by omega
  simp[List.getElem?_append_left h2]
 ·rw[if_neg h];have h2:j/6=L.length:=by omega
  have h3:j-L.length*6=j%6:=by omega
  rw[h2,h3];simp
def nu{α:Type}(X:Nat->α)(p:Nat)(y:α):Nat->α:=fun q=>if q=p then y else X q
theorem Bt.push{w:World}{L:List Fd}{X:Nat->Option Addr}{C:Nat->Nat}{w5 w6:World}{f:Fd}{p0 cY:Nat}{Y:Option Addr}(h:Bt w w.heap.size L X C w5)(hs:f.sound=true)(hp:f.place=p0)(hp1:p0<96)
  (hy:Ly w6 69 6 Y ((mj L p0).length+1) cY (fun j=>if j<(mj L p0).length*6 then jn (mj L p0) j else f.cell (j-(mj L p0).length*6))) (k:Aa (aR (X p0)) w5 w6) (dC:∀x,x∈aR Y->x∈aR (X p0)\/w5.heap.size<=x) :
  Bt w w.heap.size (L++[f]) (nu X p0 Y) (nu C p0 cY) (w6.setCell ⟨w.heap.size,p0,none⟩ (.slice Y ((mj L p0).length+1) cY)):=by
 have hnb:=(h.ly p0 hp1).aP h.row (by decide);have r6:=h.row.ab k hnb;have e0:mj (L++[f]) p0=mj L p0++[f]:=by rw[tQ,hs,hp];simp
 have e1:∀p,p≠p0->mj (L++[f]) p=mj L p:=fun p ct=>by
  rw[tQ,if_neg,List.append_nil];rw[hp];simp;omega
 have xP:=h.row.lt;refine⟨?_,?_,?_,?_,?_⟩
 ·refine(r6.set p0 _).congr (fun p hp2=>?_);unfold put nu;by_cases hq:p=p0
  ·subst hq;simp[e0]
  ·simp[hq,e1 p hq]
 ·intro p hp2;by_cases hq:p=p0
  ·subst hq;have hf:=hy.aP r6 (by decide);simp only[nu,if_pos,e0,List.length_append,List.length_singleton];exact(hy.congr (fun j hj=>(tR _ _ _ hj).symm)).ck (fun x hx e=>by
    have e2:x=w.heap.size:=e;rw[e2] at hx;exact hf hx) _
  ·simp only[nu,if_neg hq,e1 p hq];have h1:=(h.ly p hp2).ab k (fun x hx=>h.apart p p0 hp2 hp1 hq x hx);exact h1.ck (fun x hx e=>by
    have e2:x=w.heap.size:=e;rw[e2] at hx;exact h1.aP r6 (by decide) hx) _
 ·intro p hp2 x hx;by_cases hq:p=p0
  ·subst hq;simp only[nu,if_pos] at hx;rcases dC x hx with h1|h1
   ·exact h.new p hp2 x h1
   ·have:=h.ab.size;omega
  ·simp only[nu,if_neg hq] at hx;exact h.new p hp2 x hx
 ·intro p q hp2 zu ct x hx;by_cases h1:p=p0
  ·subst h1;have h2:q≠p:=fun e=>ct e.symm;simp only[nu,if_pos,if_neg h2] at hx ⊢;intro hx2;rcases dC x hx with h3|h3
   ·exact h.apart p q hp2 zu ct x h3 hx2
   ·have:=(h.ly q zu).kI hx2;omega
  ·by_cases h2:q=p0
   ·subst h2;simp only[nu,if_pos,if_neg h1] at hx ⊢;intro hx2;rcases dC x hx2 with h3|h3
    ·exact h.apart p q hp2 zu ct x hx h3
    ·have:=(h.ly p hp2).kI hx;omega
   ·simp only[nu,if_neg h1,if_neg h2] at hx ⊢;exact h.apart p q hp2 zu ct x hx
 ·exact(h.ab.then k (fun x hx=>.inr (h.new p0 hp1 x hx))).setCell _ _ (.inr (Nat.le_refl _))
theorem yO(a b c:Fd->Bool)(h:∀f,(a f=true↔False)/\(b f=true↔c f=true)\/(b f=true↔False)/\(a f=true↔c f=true))(L:List Fd):L.countP a+L.countP b=L.countP c:=by
 induction L with
 |nil=>rfl
 | cons f L ih =>
  simp only[List.countP_cons];rcases h f with⟨h1,h2⟩|⟨h1,h2⟩
  ·by_cases hc:c f=true
   ·simp[h1,h2,hc];omega
   ·simp[h1,h2,hc];omega
  ·by_cases hc:c f=true
   ·simp[h1,h2,hc];omega
   ·simp[h1,h2,hc];omega
theorem pz(L:List Fd)(k:Nat):mW L (k+1)=mW L k++mj L k:=by
 unfold mW;rw[List.range_succ,List.flatMap_append];simp
theorem afa(L:List Fd)(k:Nat):(mW L k).length=L.countP (fun f=>f.sound&&decide (0<=f.place/\f.place<(k:Int))):=by
 induction k with
 | zero =>
  have:(fun f:Fd=>f.sound&&decide (0<=f.place/\f.place<((0:Nat):Int)))=fun _=>false:=by
   funext f;have:¬(0<=f.place/\f.place<((0:Nat):Int)):=by omega
   simp[this]
  rw[this];simp[mW]
 | succ k ih =>
  rw[pz,List.length_append,ih];show _+(L.filter _).length=_;rw[<-List.countP_eq_length_filter];refine yO _ _ _ (fun f=>?_) L;by_cases hs:f.sound=true
  ·by_cases hk:f.place=(k:Int)
   ·left;simp[hs,hk];omega
   ·right;simp[hs,hk];omega
  ·left;simp[hs]
theorem yP(L:List Fd)(k:Nat):(mW L k).length<=L.length:=by
 rw[afa];exact List.countP_le_length
theorem adG(L:List Fd)(j:Nat):(jn L j).oneCell'=true:=gQ _ _ (by omega)
theorem acz(L M:List Fd)(j:Nat):jn (L++M) j=if j<L.length*6 then jn L j else jn M (j-L.length*6):=by
 unfold jn;by_cases h:j<L.length*6
 ·rw[if_pos h];have h2:j/6<L.length:=by omega
  simp[List.getElem?_append_left h2]
 ·rw[if_neg h];have h2:L.length<=j/6:=by omega
  have h3:(j-L.length*6)%6=j%6:=by omega
  have h4:(j-L.length*6)/6=j/6-L.length:=by omega
  rw[h3,h4];simp[List.getElem?_append_right h2]
theorem vL(w:World):(isAgg 64).run Tryz.prog w=.ok false w:=by
 unfold isAgg;rw[Sem.run_bind,run_underlying underlying64 w];rfl
theorem aaC:(Tryz.prog.info? 64).map (·.size)=some 1:=by kernel_rfl
theorem aaD(f:Fd):(Array.range 6).map f.cell=f.arr:=by
 apply Array.ext
 ·simp[Fd.arr]
 ·intro i h1 h2;have h3:i<6:=by simpa using h1
  have:i=0\/i=1\/i=2\/i=3\/i=4\/i=5:=by omega
  rcases this with rfl|rfl|rfl|rfl|rfl|rfl<;>simp[Fd.cell,Fd.arr]
theorem adH(f:Fd):Value.agg f.arr=agg 6 f.cell:=by
 unfold agg;rw[aaD]
theorem tS:(Tryz.prog.info? 69).map (·.size)=some 6:=by kernel_rfl
theorem bH(f:Fd)(j:Nat)(hj:j<6):(f.cell j).oneCell'=true:=gQ f j (by omega)
theorem Row.fd{w:World}{g:Nat}{f:Fd}(h:w.heap[g]?=some (.cells f.arr 69 (0,0))):Row w g 69 6 f.cell:=by
 unfold Row;rw[aaD];exact h
theorem Ru.fO{w:World}{K:Value->World->Prop}(k:∀g w',g=w.heap.size->w'.heap.size=w.heap.size+1->Row w' g 69 6 Fd.zero.cell->Aa [] w w'->K (.pointer (some ⟨g,0,none⟩)) w'):Ru Tryz.prog (Instr.alloc 69 true (.tuple #[])) w K :=
 ⟨_,w.alloc (.cells Fd.zero.arr 69),by kernel_rfl,k _ _ rfl (by simp) (Row.fd (heap_alloc_new _ _)) ((Aa.refl _ _).alloc _)⟩
theorem ahw{w:World}{g o N:Nat}{t:TypeId}{F:Nat->Value}{f:Fd}(r:Row w g t N F)(hn:o+6<=N)(hf:∀j,j<6->F (o+j)=f.cell j):(loadVar 69 ⟨g,o,none⟩).run Tryz.prog w=.ok (.agg f.arr) w:=by
 have h:=fI (P:=Tryz.prog) r hn underlying69 rfl tS;rw[show agg 6 (fun j=>F (o+j))=.agg f.arr from(br hf).trans (adH f).symm] at h;exact h
theorem Ru.yQ{w:World}{g:Nat}{t:TypeId}{f:Fd}{K:Value->World->Prop}(r:Row w g t 6 f.cell)(k:K (.agg f.arr) w):Ru Tryz.prog (loadVar 69 ⟨g,0,none⟩) w K:=⟨_,_,ahw r (by omega) (fun j _=>by rw[Nat.zero_add]),k⟩
theorem Ad.yQ{C:World->Prop}{g:Nat}{t:TypeId}{f:Fd}{K:Value->Prop}(r:∀w,C w->Row w g t 6 f.cell)(k:K (.agg f.arr)):Ad Tryz.prog C (loadVar 69 ⟨g,0,none⟩) K:=⟨_,fun w hw=>ahw (r w hw) (by omega) (fun j _=>by rw[Nat.zero_add]),k⟩
theorem aor{w:World}{g o:Nat}{f:Fd}(h:∀m,m<6->w.cell? ⟨g,o+m,none⟩=some (f.cell m)):(loadVar 69 ⟨g,o,none⟩).run Tryz.prog w=.ok (.agg f.arr) w:=by
 have e:∀m,m<6->(load ((⟨g,o,none⟩:Addr).add m)).run Tryz.prog w=.ok (f.cell m) w:=fun m hm=>by
  rw[gJ];simp[load,Sem.run,h m hm]
 have ha:(isAgg 69).run Tryz.prog w=.ok true w:=ij underlying69 rfl w;have hs:(sizeOf 69).run Tryz.prog w=.ok 6 w:=df (by kernel_rfl) w;simp only[loadVar,Sem.run_bind,ha,Result.andThen_ok,if_true,hs,loadCells,loadCellsFrom,e 0 (by omega),e 1 (by omega),e 2 (by omega),e 3 (by omega),e 4 (by omega),e 5 (by omega),Sem.run_pure];rfl
theorem Ru.aaE{w:World}{g o:Nat}{f:Fd}{K:Value->World->Prop}(h:∀m,m<6->w.cell? ⟨g,o+m,none⟩=some (f.cell m))(k:K (.agg f.arr) w):Ru Tryz.prog (loadVar 69 ⟨g,o,none⟩) w K:=⟨_,_,aor h,k⟩
theorem Ru.tU{w:World}{g:Nat}{t:TypeId}{b:Nat->Value}{f:Fd}{K:Unit->World->Prop}(r:Row w g t 6 b)(k:∀w',Row w' g t 6 f.cell->Aa [g] w w'->K () w'):Ru Tryz.prog (storeVar 69 ⟨g,0,none⟩ (.agg f.arr)) w K:=by
 rw[adH];exact Ru.gY r tS (by omega) (bH f) (fun w' r' k'=>k w' (r'.congr (fun j hj=>by unfold lay;rw[if_pos (by omega)];simp)) k')
theorem aaF(f:Fd)(w:World):Spec Tryz.prog 176 #[.agg f.arr] w fun v w'=>v=.bool f.sound/\Aa [] w w':=Spec.jH (by kernel_rfl) (aht f w)
theorem aaG(f:Fd)(w:World):(Instr.buildSlice 64 1 #[(0,.agg f.arr)]).run Tryz.prog w=.ok (.slice (some ⟨w.heap.size,0,none⟩) 1 1) (w.alloc (.cells f.arr 69)):=by kernel_rfl
theorem Ru.yR{w:World}(f:Fd){K:Value->World->Prop}(k:∀g w',g=w.heap.size->w'.heap.size=w.heap.size+1->Row w' g 69 6 f.cell->Aa [] w w'->K (.slice (some ⟨g,0,none⟩) 1 1) w'):Ru Tryz.prog (Instr.buildSlice 64 1 #[(0,.agg f.arr)]) w K :=
 ⟨_,_,aaG f w,k _ _ rfl (by simp) (Row.fd (heap_alloc_new _ _)) ((Aa.refl _ _).alloc _)⟩
def CJ(L:List Fd)(w:World)(v:Value)(w':World):Prop:=∃A c,v=.slice A (mW L 96).length c/\Ly w' 69 6 A (mW L 96).length c (jn (mW L 96))/\(∀x,x∈aR A->w.heap.size<=x)/\Aa [] w w'
theorem tV(A:Option Addr)(c:Nat)(L:List Fd)(w:World)(hr:Rd w A (L.length*6) (jn L))(hn:L.length*48<=140737488351232) :
  Spec Tryz.prog 173 #[.slice A L.length c] w (CJ L w):=by
 obtain⟨i0,hi,lZ,lP,l4⟩:=info_parts kS;refine spec_of_wpE (T:=tt) ah func173 rfl (by decide +kernel) ntmps173 (by simp) ?_;conv=>whnf
 refine Ru.of (ahv w) ?_;conv=>whnf
 repeat (refine CW.s ?_;conv=>whnf)
 refine CW.loop (ι:=Nat×(Nat->Option Addr)×(Nat->Nat)) (fun i wr=>i.1<=L.length/\Bt w w.heap.size (L.take i.1) i.2.1 i.2.2 wr) (fun i=>[(0,.slice A L.length c),(2,.slice none 0 0),(3,.pointer (some ⟨w.heap.size,0,none⟩)),(9,.slice A L.length c),(10,.int .i64 L.length),(11,.int .i64 i.1)]) (fun i=>L.length-i.1) (0,fun _=>none,fun _=>0) ah ⟨by simp,Row.obj w _ _ _,fun p _=>Ly.nil _ _ _ _,(fun _ _ _ h=>by cases h),(fun _ _ _ _ _ _ h=>by cases h),(Aa.refl _ _).alloc _⟩ ?_ ?_
 ·exact⟨rfl,rfl,rfl,rfl,rfl,rfl,trivial⟩
 rintro⟨k,X,C⟩ wr ⟨hk,I⟩;simp only at hk I;by_cases av:k<L.length
 ·obtain⟨b,o,rfl,hc⟩:=ml (hr.aj I.ab) k av;have ky:=jS av;generalize L.getD k Fd.zero=f at *;conv=>whnf
  repeat ((first|refine Ix.n ?_|refine Br.y ?_|refine CW.s ?_);conv=>whnf)
  refine Ru.aaE hc ?_;conv=>whnf
  refine Ru.fO ?_;intro g1 w1 hg1 du r1 k1;conv=>whnf
  refine Ru.tU r1 ?_;intro w2 r2 k2;conv=>whnf
  refine Ru.yQ r2 ?_;conv=>whnf
  refine Ca.of (aaF f w2) ?_;rintro _ w3 ⟨rfl,k3⟩;have r3:=r2.ab k3 (by simp);have hG:=I.row.lt;have k23:Aa [g1] wr w3:=((k1.mono (by simp)).trans k2).trans (k3.mono (by simp));have kw:Aa [] wr w3:=(k1.then (T:=[g1]) (k2.trans (k3.mono (by simp))) (fun x hx=>.inr (by rw[List.mem_singleton.1 hx,hg1];exact Nat.le_refl _)));have I3:=I.alu kw;conv=>whnf
  refine⟨fun hs=>?_,fun hs=>?_⟩
  ·have hp:0<=f.place/\f.place<=95:=by
    have:=of_decide_eq_true hs;omega
   have hp0:f.place=(f.place.toNat:Int):=by omega
   have hp1:f.place.toNat<96:=by omega
   generalize f.place.toNat=p0 at *;have hsl:(mj (L.take k) p0).length<=k:=Nat.le_trans (akt _ _) (by simp;omega);have hnb:=(I3.ly p0 hp1).aP I3.row (by decide);have aqa:g1∉aR (X p0):=fun hx=>by have:=(I.ly p0 hp1).kI hx;omega
   conv=>whnf
   refine CW.held (fun w'=>Row w' g1 69 6 f.cell/\w'.cell? ⟨w.heap.size,p0,none⟩=some (.slice (X p0) (mj (L.take k) p0).length (C p0))) [10] (.take 0 (.take 1 (.take 2 (.take 3 (.take 4 (.take 5 (.take 6 (.one 7 (.one 8 (.take 9 (.one 10 (.done)))))))))))) ah (by kernel_rfl) (by kernel_rfl) (by kernel_rfl) ?_ ?_
   ·exact⟨r3.drewN 1,I3.row.cell p0 hp1⟩
   conv=>whnf
   repeat ((first|(refine Ix.of p0 hp0 hp1 ?_)|(refine Ah.row (fun _ h=>h.1) (by omega) ?_)|(refine Ah.at (by omega) (fun _ h=>h.2) ?_)|(refine Ad.yQ (fun _ h=>h.1) ?_));conv=>whnf)
   refine Ru.yR f ?_;intro g2 w4 hg2 fE r4 k4;have q4:Aa [] w3 w4:=((Aa.refl [] w3).drewN 1).trans k4;have I4:=I3.alu q4;conv=>whnf
   refine⟨⟨r3.ab q4 (by simp),I4.row.cell p0 hp1⟩,?_⟩;conv=>whnf
   refine Bu.append underlying64 hi lZ lP l4 rfl (by omega) (I4.ly p0 hp1) _ (Rd.dh r4 (n:=1*6) (by omega)) (by omega) (by simp) (fun j hj=>gQ f j hj) (by simp only[maxLen];omega) (by omega) ?_;intro Y cY w5 hy hkp dC iq;conv=>whnf
   refine⟨⟨(r3.ab q4 (by simp)).ab hkp aqa,(I4.row.ab hkp hnb).cell p0 hp1⟩,?_⟩;conv=>whnf
   repeat ((refine Ix.of p0 hp0 hp1 ?_);conv=>whnf)
   have rG:=I4.row.ab hkp hnb;refine Sd.setAt p0 (by omega) (rG.cell p0 hp1) (rG.free p0) rfl ?_;have II:=I4.push hs hp0 hp1 hy hkp (fun x hx=>by
    rcases dC with e|e
    ·rw[e] at hx;exact .inl hx
    ·rw[e] at hx;exact .inr (by rw[List.mem_singleton.1 hx];exact Nat.le_refl _))
   rw[<-ky] at II;conv=>whnf
   repeat (refine Ar.la ?_;conv=>whnf)
   exact⟨(k+1,nu X p0 Y,nu C p0 cY),⟨av,II⟩,⟨rfl,rfl,rfl,rfl,rfl,rfl,trivial⟩,by simp only;omega⟩
  ·conv=>whnf
   repeat (refine Ar.la ?_;conv=>whnf)
   have e1:∀p,mj (L.take (k+1)) p=mj (L.take k) p:=fun p=>by rw[ky,tQ,hs];simp
   exact⟨(k+1,X,C),⟨av,⟨I3.row.congr (fun p _=>by rw[e1]),fun p hp=>by rw[e1];exact I3.ly p hp,I3.new,I3.apart,I3.ab⟩⟩,⟨rfl,rfl,rfl,rfl,rfl,rfl,trivial⟩,by simp only;omega⟩
 ·obtain rfl:k=L.length:=by omega
  rw[List.take_length] at I;conv=>whnf
  repeat ((first|refine Br.n ?_|refine CW.s ?_);conv=>whnf)
  refine Ru.ve I.row underlying282 rfl aks (by omega) ?_;conv=>whnf
  refine CW.loop (ι:=Nat×Option Addr×Nat) (fun i w2=>i.1<=96/\Ly w2 69 6 i.2.1 (mW L i.1).length i.2.2 (jn (mW L i.1))/\(∀x,x∈aR i.2.1->wr.heap.size<=x)/\Aa [] wr w2) (fun i=>[(6,.slice i.2.1 (mW L i.1).length i.2.2),(28,agg 96 (fun j=>.slice (X (0+j)) (mj L (0+j)).length (C (0+j)))),(29,.int .i64 i.1)]) (fun i=>96-i.1) (0,none,0) ah ⟨by simp,Ly.nil _ _ _ _,(fun _ h=>by cases h),Aa.refl _ _⟩ ⟨rfl,rfl,rfl,trivial⟩ ?_;rintro⟨q,Z,cz⟩ w2 ⟨hq,xZ,gN,kk⟩;simp only at hq xZ gN;by_cases amD:q<96
  ·have aku:(mW L q).length+(mj L q).length<=L.length:=by
    have:=yP L (q+1)
    rwa [pz,List.length_append] at this
   have hx:=(I.ly q amD).aj kk;conv=>whnf
   repeat ((first|refine Br.y ?_|refine CW.s ?_);conv=>whnf)
   refine Ru.of (nI 282 64 96 q underlying282 amD vL aaC w2) ?_;rw[Nat.zero_add];conv=>whnf
   refine Bu.append underlying64 hi lZ lP l4 rfl (by omega) xZ _ hx.rd hx.1 hx.2.2.1 (fun j _=>adG _ j) (by simp only[maxLen];omega) (by omega) ?_;intro Y cY w3 hy hkp dC iq;have e1:(mW L (q+1)).length=(mW L q).length+(mj L q).length:=by rw[pz,List.length_append]
   have k3:=kk.then hkp (fun x hx=>.inr (gN x hx));conv=>whnf
   repeat (refine Ar.la ?_;conv=>whnf)
   refine⟨(q+1,Y,cY),⟨amD,?_,fun x hx=>?_,k3⟩,⟨congrArg (fun n=>Value.slice Y n cY) e1.symm,rfl,rfl,trivial⟩,by simp only;omega⟩
   ·simp only;rw[e1];exact hy.congr (fun j hj=>by rw[pz,acz])
   ·rcases dC with e|e
    ·exact gN x (e ▸ hx)
    ·simp only at hx;rw[e] at hx;obtain rfl:=List.mem_singleton.1 hx;exact kk.size
  ·obtain rfl:q=96:=by omega
   conv=>whnf
   repeat ((first|refine Br.f ?_|refine CW.s ?_);conv=>whnf)
   exact⟨rfl,Z,cz,rfl,xZ,fun x hx=>Nat.le_trans I.ab.size (gN x hx),I.ab.trans kk⟩
end
section
open Go.RowKit
attribute [local irreducible] ahead Fd.sound
def jo(of above:Int)(s:Fd×Bool)(f:Fd):Fd×Bool :=
 if f.of≠of\/f.seq<=above then s else if s.2=false\/s.1.seq<f.seq\/(f.seq=s.1.seq/\ahead f.copy s.1.copy=true) then (f,true) else s
def aQ(L:List Fd)(of above:Int):Fd×Bool:=L.foldl (jo of above) (Fd.zero,false)
theorem pA(L:List Fd)(of above:Int)(f:Fd):aQ (L++[f]) of above=jo of above (aQ L of above) f:=by
 unfold aQ;rw[List.foldl_append];rfl
theorem yS{of above:Int}{qz f:Fd}{has:Bool}(h1:f.of=of)(h2:above<f.seq)(h3:has=false\/qz.seq<f.seq\/(f.seq=qz.seq/\ahead f.copy qz.copy=true)):jo of above (qz,has) f=(f,true):=by
 unfold jo;rw[if_neg (by omega),if_pos h3]
theorem yT{of above:Int}{qz f:Fd}{has:Bool}(h:f.of≠of\/f.seq<=above\/(has=true/\f.seq<=qz.seq/\(f.seq≠qz.seq\/ahead f.copy qz.copy=false))):jo of above (qz,has) f=(qz,has):=by
 unfold jo;by_cases h1:f.of≠of\/f.seq<=above
 ·rw[if_pos h1]
 ·rw[if_neg h1,if_neg];simp only;rcases h with h|h|⟨h,h2,h3⟩
  ·exact absurd (.inl h) h1
  ·exact absurd (.inr h) h1
  ·rintro(h4|h4|⟨h4,h5⟩)
   ·rw[h] at h4;cases h4
   ·omega
   ·rcases h3 with h3|h3
    ·exact h3 h4
    ·rw[h5] at h3;cases h3
theorem ahx(a b:Int)(w:World):Spec Tryz.prog 195 #[.int .i64 a,.int .i64 b] w fun v w'=>v=.bool (ahead a b)/\w=w':=Spec.jH (by kernel_rfl) (ahu a b w)
def Ba(s:Fd×Bool)(w:World)(v:Value)(w':World):Prop:=v=.tuple #[.agg s.1.arr,.bool s.2]/\Aa [] w w'
theorem wN(A:Option Addr)(c:Nat)(L:List Fd)(of above:Int)(w:World)(hr:Rd w A (L.length*6) (jn L))(hn:L.length*48<=140737488351232) :
  Spec Tryz.prog 172 #[.slice A L.length c,.int .i64 of,.int .i64 above] w (Ba (aQ L of above) w):=by
 refine spec_of_wpE (T:=tt) ah func172 rfl (by decide +kernel) ntmps172 (by simp) ?_;conv=>whnf
 refine Ru.fO ?_;intro g6 w1 hg6 du r6 k1;conv=>whnf
 refine Ru.fO ?_;intro g8 w2 hg8 fE r8 k2;have r6:=r6.ab k2 (by simp);conv=>whnf
 repeat (refine CW.s ?_;conv=>whnf)
 refine CW.loop (ι:=Nat×Fd×Bool) (fun i wr=>i.1<=L.length/\aQ (L.take i.1) of above=(i.2.1,i.2.2)/\Row wr g6 69 6 Fd.zero.cell/\Row wr g8 69 6 i.2.1.cell/\Aa [] w wr)
  (fun i=>[(1,.int .i64 of),(2,.int .i64 above),(6,.pointer (some ⟨g6,0,none⟩)),(8,.pointer (some ⟨g8,0,none⟩)),(9,.bool i.2.2),(12,.slice A L.length c),(13,.int .i64 L.length),(14,.int .i64 i.1)]) (fun i=>L.length-i.1) (0,Fd.zero,false) ah ⟨by simp,rfl,r6,r8,k1.trans k2⟩ ⟨rfl,rfl,rfl,rfl,rfl,rfl,rfl,rfl,trivial⟩ ?_;rintro⟨k,qz,has⟩ wr ⟨hk,bt,r6,r8,kk⟩;simp only at hk bt r8;have amE:=r8.lt;have amF:=r6.lt;by_cases av:k<L.length
 ·obtain⟨b,o,rfl,hc⟩:=ml (hr.aj kk) k av;have ky:=jS av;generalize L.getD k Fd.zero=f at *;conv=>whnf
  repeat ((first|refine Ix.n ?_|refine Br.y ?_|refine CW.s ?_);conv=>whnf)
  refine Ru.aaE hc ?_;conv=>whnf
  refine Ru.fO ?_;intro g11 w3 hg11 gG r11 k3;conv=>whnf
  refine Ru.tU r11 ?_;intro w4 r11 k4;have q4:Aa [] wr w4:=k3.then k4 (fun x hx=>.inr (by rw[List.mem_singleton.1 hx,hg11];exact Nat.le_refl _));have r8:=r8.ab q4 (by simp);have r6:=r6.ab q4 (by simp);have kk:=kk.trans q4;have yU:aQ (L.take (k+1)) of above=jo of above (qz,has) f:=by rw[ky,pA,bt]
  have d86:g8≠g6:=by omega
  conv=>whnf
  repeat' ((first|(refine Ld.row r11 (by omega) ?_)|(refine Ld.row r8 (by omega) ?_)|(refine Ca.of (ahx _ _ _) ?_;rintro _ _ ⟨rfl,rfl⟩)|(refine Ru.yQ r11 ?_)|(refine Ru.tU r8 ?_;intro w5 r8t k5)|refine Br.t ?_|refine Br.f ?_|refine Pk.f ?_|refine Pk.t ?_|refine Ar.la ?_|refine CW.s ?_|refine Br.d (fun _=>?_) (fun _=>?_)|refine Br.nd (fun _=>?_) (fun _=>?_)|refine Br.mk (fun _=>?_) (fun _=>?_))<;>conv=>whnf)
  all_goals
   first
    |exact⟨(k+1,f,true),⟨av,yU.trans (yS (by omega) (by omega) (by first|(left;simp_all;done)|(right;left;omega)|(right;right;exact⟨by omega,by assumption⟩))),r6.ab k5 (by simpa using d86.symm),r8t,kk.then k5 (fun x hx=>.inr (by rw[List.mem_singleton.1 hx];have:=k1.size;omega))⟩,⟨rfl,rfl,rfl,rfl,rfl,rfl,rfl,rfl,trivial⟩,by simp only;omega⟩
    |exact⟨(k+1,qz,has),⟨av,yU.trans (yT (by first|(left;omega)|(right;left;omega)|(right;right;refine⟨by simp_all,by omega,?_⟩;first|(left;omega)|(right;assumption)))),r6,r8,kk⟩,⟨rfl,rfl,rfl,rfl,rfl,rfl,rfl,rfl,trivial⟩,by simp only;omega⟩
 ·obtain rfl:k=L.length:=by omega
  rw[List.take_length] at bt;conv=>whnf
  repeat ((first|refine Br.n ?_|refine CW.s ?_);conv=>whnf)
  refine Ru.yQ r8 ?_;conv=>whnf
  refine Ru.tU r6 ?_;intro w3 r6 k3;conv=>whnf
  refine Ru.yQ r6 ?_;conv=>whnf
  exact⟨rfl,by rw[bt];rfl,kk.then k3 (fun x hx=>.inr (by rw[List.mem_singleton.1 hx];omega))⟩
end
section
open Go.RowKit
theorem Bj(A:Option Addr)(c:Nat)(L:List Fd)(of above:Int)(w:World)(hr:Rd w A (L.length*6) (jn L))(hn:L.length*48<=140737488351232) :
  Spec Tryz.prog 121 #[.slice A L.length c,.int .i64 of,.int .i64 above] w (Ba (aQ (mW L 96) of above) w):=by
 have hb:=yP L 96;refine spec_of_wpE (T:=tt) ah func121 rfl (by decide +kernel) ntmps121 (by simp) ?_;conv=>whnf
 refine Ru.fO ?_;intro g6 w1 hg6 du r6 k1;conv=>whnf
 refine Ca.of (tV A c L w1 (hr.aj k1) hn) ?_;rintro _ w2 ⟨B,d,rfl,xZ,gN,k2⟩;conv=>whnf
 refine Ca.of (wN B d (mW L 96) of above w2 xZ.rd (by omega)) ?_;rintro _ w3 ⟨rfl,k3⟩;have r6:=(r6.ab k2 (by simp)).ab k3 (by simp);conv=>whnf
 refine Ru.tU r6 ?_;intro w4 r6 k4;conv=>whnf
 refine Ru.yQ r6 ?_;conv=>whnf
 exact⟨rfl,rfl,((k1.trans k2).trans k3).then k4 (fun x hx=>.inr (by rw[List.mem_singleton.1 hx];omega))⟩
end
section
open Go.RowKit
attribute [local irreducible] ahead Fd.sound
end
section
open Go.RowKit
attribute [local irreducible] ahead Fd.sound
end
section
structure Dw(L:List Fd)(of above t:Int):Prop where
 le:∀f,f∈L->f.sound=true->f.of=of->above<f.seq->f.seq<=t
 at_:t = -1\/(0<=t/\above<t/\∃f,f∈L/\f.sound=true/\f.of=of/\f.seq=t)
theorem ep{α:Type}{p:List α->Prop}(h0:p [])(h1:∀l a,p l->p (l++[a]))(l:List α):p l:=by
 have:∀l:List α,p l.reverse:=fun l=>by
  induction l with
  |nil=>exact h0
  |cons a l ih=>rw[List.reverse_cons];exact h1 _ _ ih
 have h:=this l.reverse
 rwa [List.reverse_reverse] at h
theorem afb{L:List Fd}{f:Fd}{k:Nat}(h:f∈mW L k):f.sound=true:=by
 unfold mW mj at h;simp only[List.mem_flatMap,List.mem_range,List.mem_filter,Bool.and_eq_true,beq_iff_eq] at h;obtain⟨p,_,_,h,_⟩:=h;exact h
end
section
open Go.RowKit
attribute [local irreducible] ahead Fd.sound
structure Cp where
 fl:Nat->Int
 next:Int
 bad:Nat->Bool
 cur:Int
 reads:Nat->Int
 ia:Nat->Int
def Cp.cell(c:Cp)(j:Nat):Value:=if j<24 then .int .i64 (c.fl j) else if j=24 then .int .i64 c.next else if j<37 then .bool (c.bad (j-25)) else if j=37 then .int .i64 c.cur else if j<50 then .int .i64 (c.reads (j-38)) else .int .i64 (c.ia (j-50))
def Cp.wf(c:Cp):Prop:=(∀j,j<24->-9223372036854775808<=c.fl j/\c.fl j<=9223372036854775807)/\-9223372036854775808<=c.next/\c.next<=9223372036854775807
theorem Cp.iu(c:Cp){j:Nat}(h:j<24):c.cell j=.int .i64 (c.fl j):=if_pos h
theorem Cp.afc(c:Cp):c.cell 24=.int .i64 c.next:=rfl
theorem Cp.jT(c:Cp){j:Nat}(h:j<12):c.cell (25+j)=.bool (c.bad j):=by
 unfold Cp.cell;rw[if_neg (by omega),if_neg (by omega),if_pos (by omega)];congr 2;omega
def eZ(c:Cp)(t:Int):Nat->Int
 |0=>t
 |k+1=>max (eZ c t k) (c.fl k)
def mX(t:Int)(f:Fd):Int:=if f.sound=true then max t f.seq else t
def eu(L:List Fd)(t:Int):Int:=L.foldl mX t
def tW(L:List Fd)(c:Cp):Int:=eu L (eZ c (max c.next 0-1) 24)
def fW(L:List Fd)(c:Cp):Int:=min (tW L c) 1099511627774+1
theorem jq(L:List Fd)(t:Int)(f:Fd):eu (L++[f]) t=mX (eu L t) f:=by
 unfold eu;rw[List.foldl_append];rfl
theorem aaH(c:Cp)(hc:c.wf)(t:Int)(h1 : -1<=t)(h2:t<=9223372036854775807):∀k,k<=24->-1<=eZ c t k/\eZ c t k<=9223372036854775807
 |0,_=>⟨h1,h2⟩
 | k+1,hk=>by
  have ih:=aaH c hc t h1 h2 k (by omega);have:=hc.1 k (by omega);unfold eZ;omega
theorem ahy{f:Fd}(h:f.sound=true):0<=f.seq/\f.seq<=1099511627775:=by
 unfold Fd.sound at h;have:=of_decide_eq_true h;omega
theorem afd(t:Int)(h1 : -1<=t)(h2:t<=9223372036854775807)(L:List Fd) : -1<=eu L t/\eu L t<=9223372036854775807:=by
 induction L using ep with
 |h0=>exact⟨h1,h2⟩
 | h1 L f ih =>
  rw[jq];unfold mX;split
  ·rename_i h
   have:=ahy h;omega
  ·exact ih
theorem gq:(Tryz.prog.info? 114).map (·.size)=some 24:=by kernel_rfl
theorem tX:dV Tryz.prog 2=true:=by kernel_rfl
theorem adI(A:Option Addr)(c:Nat)(L:List Fd)(p:Cp)(w:World)(hr:Rd w A (L.length*6) (jn L))(hn:L.length*48<=140737488351232)(hp:p.wf) :
  Spec Tryz.prog 129 #[.slice A L.length c,agg 62 p.cell] w fun v w'=>v=.int .i64 (fW L p)/\Aa [] w w':=by
 have hp2:=hp.2;have hf0:=fun k hk=>aaH p hp (max p.next 0-1) (by omega) (by omega) k hk;refine spec_of_wpE (T:=tt) ah func129 rfl (by decide +kernel) ntmps129 (by simp) ?_;conv=>whnf
 refine Ru.dt ?_;intro g3 w1 hg3 du r3 k1;conv=>whnf
 repeat ((first|(refine Ld.rowAt r3 24 (by omega) (by omega) ?_)|refine Ar.la ?_|refine CW.s ?_);conv=>whnf)
 refine Ru.cG (q:=fun j=>.int .i64 (p.fl j)) r3 underlying114 rfl gq (by omega) (fun j hj=>by rw[show 0+0+j=j from by omega];exact p.iu hj) ?_;conv=>whnf
 refine CW.loop (ι:=Nat) (fun i w'=>i<=24/\w'=w1) (fun i=>[(0,.slice A L.length c),(5,.int .i64 (eZ p (max p.next 0-1) i)),(15,agg 24 (fun j=>.int .i64 (p.fl j))),(16,.int .i64 i)]) (fun i=>24-i) 0 ah ⟨by omega,rfl⟩ ⟨rfl,rfl,rfl,rfl,trivial⟩ ?_;rintro k w' ⟨hk,rfl⟩;by_cases av:k<24
 ·have bt:eZ p (max p.next 0-1) (k+1)=max (eZ p (max p.next 0-1) k) (p.fl k):=rfl;generalize eZ p (max p.next 0-1) k=t at *;conv=>whnf
  repeat ((first|(refine Ru.idx underlying114 av tX ?_)|refine Ar.la ?_|refine Br.y ?_|refine CW.s ?_);conv=>whnf)
  exact⟨k+1,⟨av,rfl⟩,⟨rfl,vi bt.symm,rfl,rfl,trivial⟩,by simp only;omega⟩
 ·obtain rfl:k=24:=by omega
  have ht:=hf0 24 (Nat.le_refl _);unfold fW tW;generalize eZ p (max p.next 0-1) 24=t at *;conv=>whnf
  repeat ((first|refine Br.f ?_|refine CW.s ?_);conv=>whnf)
  refine CW.loop (ι:=Nat) (fun i wr=>i<=L.length/\Aa [] w wr) (fun i=>[(23,.slice A L.length c),(24,.int .i64 L.length),(5,.int .i64 (eu (L.take i) t)),(25,.int .i64 i)]) (fun i=>L.length-i) 0 ah ⟨by omega,k1⟩ ⟨rfl,rfl,rfl,rfl,trivial⟩ ?_;rintro i wr ⟨hi,kk⟩;have hs:=afd t ht.1 ht.2 (L.take i);by_cases av:i<L.length
  ·obtain⟨b,o,rfl,hc⟩:=ml (hr.aj kk) i av;have ky:=jS av;generalize L.getD i Fd.zero=f at *;have bt:eu (L.take (i+1)) t=mX (eu (L.take i) t) f:=by rw[ky,jq]
   generalize eu (L.take i) t=s at *;conv=>whnf
   repeat ((first|refine Ix.n ?_|refine Br.y ?_|refine CW.s ?_);conv=>whnf)
   refine Ru.aaE hc ?_;conv=>whnf
   refine Ru.fO ?_;intro g9 w2 hg9 fE r9 k2;conv=>whnf
   refine Ru.tU r9 ?_;intro w3 r9 k3;have q3:Aa [] wr w3:=k2.then k3 (fun x hx=>.inr (by rw[List.mem_singleton.1 hx,hg9];exact Nat.le_refl _));conv=>whnf
   refine Ru.yQ r9 ?_;conv=>whnf
   refine Ca.of (aaF f w3) ?_;rintro _ w4 ⟨rfl,k4⟩;have r9:=r9.ab k4 (by simp);conv=>whnf
   refine⟨fun hs=>?_,fun hs=>?_⟩
   ·conv=>whnf
    repeat ((first|(refine Ld.row r9 (by omega) ?_)|refine Ar.la ?_);conv=>whnf)
    exact⟨i+1,⟨av,(kk.trans q3).trans k4⟩,⟨rfl,rfl,vi (bt.trans (if_pos hs)).symm,rfl,trivial⟩,by simp only;omega⟩
   ·conv=>whnf
    repeat (refine Ar.la ?_;conv=>whnf)
    exact⟨i+1,⟨av,(kk.trans q3).trans k4⟩,⟨rfl,rfl,vi (bt.trans (if_neg (by rw[hs];simp))).symm,rfl,trivial⟩,by simp only;omega⟩
  ·obtain rfl:i=L.length:=by omega
   rw[List.take_length] at hs;have e:eu (L.take L.length) t=eu L t:=by rw[List.take_length]
   generalize eu L t=s at *;generalize eu (L.take L.length) t=s2 at *;subst e;conv=>whnf
   repeat ((first|refine Ar.la ?_|refine Br.n ?_|refine CW.s ?_);conv=>whnf)
   exact⟨rfl,rfl,kk⟩
end
section
open Go.RowKit
theorem acA(w:World)(p:Nat)(hp:p<96):Spec Tryz.prog 180 #[.int .i64 p] w fun v w'=>v=.bool true/\w=w':=by
 refine spec_of_wpE (T:=tt) ah func180 rfl (by decide +kernel) ntmps180 (by simp) ?_;conv=>whnf
 repeat ((first|refine Br.t ?_|refine Pk.t ?_);conv=>whnf)
 exact⟨rfl,vb (by simp;omega),rfl⟩
theorem qA(w:World)(b i:Nat)(hb:b<12)(hi:i<=8):Spec Tryz.prog 157 #[.int .i64 b,.int .i64 i] w fun v w'=>v=(if i<8 then .tuple #[.int .i64 ((b*8+i:Nat):Int),ak 0] else .tuple #[.int .i64 0,ak 1])/\w=w':=by
 refine spec_of_wpE (T:=tt) ah func157 rfl (by decide +kernel) ntmps157 (by simp) ?_;by_cases h:i<8
 ·rw[if_pos h];conv=>whnf
  repeat ((first|refine Br.f ?_|refine Pk.f ?_|refine Ar.la ?_|refine Br.n ?_|refine CW.s ?_);conv=>whnf)
  exact⟨rfl,by rw[show((b*8+i:Nat):Int)=(b:Int)*8+i by omega];rfl,rfl⟩
 ·rw[if_neg h];conv=>whnf
  repeat ((first|refine Br.f ?_|refine Pk.f ?_|refine Br.y ?_|refine Br.n ?_|refine CW.s ?_);conv=>whnf)
  exact⟨rfl,rfl,rfl⟩
theorem aaI(w:World)(p:Nat)(hp:p<96):Spec Tryz.prog 170 #[.int .i64 p] w fun v w'=>v=.tuple #[.int .i64 ((p/8:Nat):Int),.int .i64 ((p%8:Nat):Int),ak 0]/\w=w':=by
 refine spec_of_wpE (T:=tt) ah func170 rfl (by decide +kernel) ntmps170 (by simp) ?_;conv=>whnf
 repeat (refine CW.s ?_;conv=>whnf)
 refine Ca.of (acA w p hp) ?_;rintro _ _ ⟨rfl,rfl⟩;conv=>whnf
 repeat ((first|refine Br.f ?_|refine Dv.q ?_|refine Dv.r ?_);conv=>whnf)
 exact⟨rfl,by rw[show((p/8:Nat):Int)=(p:Int)/8 by omega,show((p%8:Nat):Int)=(p:Int)%8 by omega];rfl,rfl⟩
def bp(p o:Nat):Bool:=decide (o=24)||decide (p%8<6)
theorem aaJ(w:World)(p o:Nat)(hp:p<96)(ho:o<=24):Spec Tryz.prog 177 #[.int .i64 p,.int .i64 o] w fun v w'=>v=.tuple #[.bool (bp p o),ak 0]/\w=w':=by
 refine spec_of_wpE (T:=tt) ah func177 rfl (by decide +kernel) ntmps177 (by simp) ?_;conv=>whnf
 repeat (refine CW.s ?_;conv=>whnf)
 refine Ca.of (acA w p hp) ?_;rintro _ _ ⟨rfl,rfl⟩;unfold bp;by_cases h:o=24
 ·subst h;conv=>whnf
  repeat ((first|refine Br.t ?_|refine Br.f ?_|refine Pk.f ?_|refine Pk.t ?_);conv=>whnf)
  exact⟨rfl,rfl,rfl⟩
 ·conv=>whnf
  repeat ((first|refine Br.f ?_|refine Pk.f ?_|refine Dv.r ?_|refine Br.n ?_);conv=>whnf)
  refine⟨rfl,?_,rfl⟩;have e:decide ((p:Int)%8<6)=decide (p%8<6):=decide_eq_decide.2 (by omega);simp[oneOf,h,e,gg]
theorem amG(w:World)(p:Nat)(hp:p<96):Spec Tryz.prog 141 #[.int .i64 p,.int .i64 1] w fun v w'=>v=.tuple #[.int .i64 (((p+1)%96:Nat):Int),ak 0]/\w=w':=by
 refine spec_of_wpE (T:=tt) ah func141 rfl (by decide +kernel) ntmps141 (by simp) ?_;conv=>whnf
 repeat (refine CW.s ?_;conv=>whnf)
 refine Ca.of (acA w p hp) ?_;rintro _ _ ⟨rfl,rfl⟩;conv=>whnf
 repeat ((first|refine Br.f ?_|refine Ar.la ?_|refine Dv.r ?_);conv=>whnf)
 exact⟨rfl,by rw[show(((p+1)%96:Nat):Int)=((p:Int)+1%96+96)%96 by omega];rfl,rfl⟩
/-! The table of the blocks. -/
def jU(st:Nat->Nat)(pn:Nat)(j:Nat):Value:=if j<12 then .int .i64 (st j:Nat) else .int .i64 (pn:Nat)
def Al(w:World)(p:Nat)(st:Nat->Nat)(pn:Nat):Prop:=Row w p 220 13 (jU st pn)
theorem tY(st:Nat->Nat)(pn:Nat){b:Nat}(s:Nat)(hb:b<12)(j:Nat)(hj:j<13):put (jU st pn) b (.int .i64 (s:Nat)) j=jU (af st b s) pn j:=by
 unfold put jU af;by_cases h:j=b
 ·subst h;simp[hb]
 ·simp[h]
theorem ahz(st:Nat->Nat)(pn n:Nat)(j:Nat)(hj:j<13):put (jU st pn) 12 (.int .i64 (n:Nat)) j=jU st n j:=by
 unfold put jU;by_cases h:j=12
 ·subst h;simp
 ·rw[if_neg h,if_pos (by omega),if_pos (by omega)]
section
variable{w:World}{p:Nat}{st:Nat->Nat}{pn:Nat}
theorem Al.cst(r:Al w p st pn){b:Nat}(hb:b<12):w.cell? ⟨p,b,none⟩=some (.int .i64 (st b:Nat)):=by
 have:=Row.cell r b (by omega);rw[this];unfold jU;rw[if_pos hb]
theorem Al.cpn(r:Al w p st pn):w.cell? ⟨p,12,none⟩=some (.int .i64 (pn:Nat)):=Row.cell r 12 (by omega)
theorem amH(b:Nat)(hb:b<12):Spec Tryz.prog 178 #[.int .i64 b] w fun v w'=>v=.bool true/\w=w':=by
 refine spec_of_wpE (T:=tt) ah func178 rfl (by decide +kernel) ntmps178 (by simp) ?_;conv=>whnf
 repeat ((first|refine Br.t ?_|refine Pk.t ?_);conv=>whnf)
 exact⟨rfl,vb (by simp;omega),rfl⟩
def aG(st:Nat->Nat)(b s:Nat):Nat->Nat:=if st b=3/\s≠3 then st else af st b s
theorem eK(r:Al w p st pn)(b s:Nat)(hb:b<12)(hs:s<=3):Spec Tryz.prog 133 #[.pointer (some ⟨p,0,none⟩),.int .i64 b,.int .i64 s] w fun v w'=>(∃e,v=ak e)/\Al w' p (aG st b s) pn/\Aa [p] w w':=by
 refine spec_of_wpE (T:=tt) ah func133 rfl (by decide +kernel) ntmps133 (by simp) ?_;conv=>whnf
 repeat (refine CW.s ?_;conv=>whnf)
 refine Ca.of (amH b hb) ?_;rintro _ _ ⟨rfl,rfl⟩;unfold aG;by_cases h3:st b=3
 ·by_cases gG:s=3
  ·subst gG;rw[if_neg (by simp)];conv=>whnf
   repeat ((first|(refine Ix.of b (by omega) (by omega) ?_)|(refine Ld.at (by omega) (r.cst hb) ?_)|refine Br.t ?_|refine Br.f ?_|refine Pk.f ?_|refine Pk.t ?_|refine Br.y ?_);conv=>whnf)
   refine Sd.rowAt r b (by omega) (by omega) rfl ?_;intro w2 r2 k2;conv=>whnf
   exact⟨rfl,⟨0,rfl⟩,r2.congr (fun j hj=>tY st pn 3 hb j hj),k2⟩
  ·rw[if_pos ⟨h3,gG⟩];conv=>whnf
   repeat ((first|(refine Ix.of b (by omega) (by omega) ?_)|(refine Ld.at (by omega) (r.cst hb) ?_)|refine Br.t ?_|refine Br.f ?_|refine Pk.f ?_|refine Pk.t ?_|refine Br.y ?_|refine Br.n ?_|refine Br.nn ?_);conv=>whnf)
   exact⟨rfl,⟨12,rfl⟩,r,Aa.refl _ _⟩
 ·rw[if_neg (fun e=>h3 e.1)];conv=>whnf
  repeat ((first|(refine Ix.of b (by omega) (by omega) ?_)|(refine Ld.at (by omega) (r.cst hb) ?_)|refine Br.f ?_|refine Pk.f ?_|refine Br.n ?_);conv=>whnf)
  refine Sd.rowAt r b (by omega) (by omega) rfl ?_;intro w2 r2 k2;conv=>whnf
  exact⟨rfl,⟨0,rfl⟩,r2.congr (fun j hj=>tY st pn s hb j hj),k2⟩
def cN(st:Nat->Nat)(s:Nat):Nat->Nat
 |0=>0
 |n+1=>cN st s n+(if st n=s then 1 else 0)
def an(st:Nat->Nat)(s:Nat):Nat:=cN st s 12
theorem cZ(st:Nat->Nat)(s:Nat):∀n,cN st s n<=n
 |0=>Nat.le_refl _
 | n+1=>by
  have:=cZ st s n;unfold cN;split<;>omega
theorem akv:(Tryz.prog.info? 70).map (·.size)=some 12:=by kernel_rfl
theorem iQ(r:Al w p st pn)(s:Nat):Spec Tryz.prog 144 #[.pointer (some ⟨p,0,none⟩),.int .i64 s] w fun v w'=>v=.int .i64 (an st s:Nat)/\w=w':=by
 refine spec_of_wpE (T:=tt) ah func144 rfl (by decide +kernel) ntmps144 (by simp) ?_;conv=>whnf
 repeat (refine CW.s ?_;conv=>whnf)
 refine Ru.cG r underlying70 rfl akv (by omega) (q:=fun j=>.int .i64 (st j:Nat)) (fun j hj=>by
  show jU st pn (0+j)=_;unfold jU;rw[Nat.zero_add,if_pos hj]) ?_
 conv=>whnf
 refine CW.loop (ι:=Nat) (fun i w'=>i<=12/\w'=w) (fun i=>[(1,.int .i64 s),(5,.int .i64 (cN st s i:Nat)),(11,agg 12 (fun j=>.int .i64 (st j:Nat))),(12,.int .i64 i)]) (fun i=>12-i) 0 ah ⟨by omega,rfl⟩ ⟨rfl,rfl,rfl,rfl,trivial⟩ ?_;rintro i wr ⟨hi,rfl⟩;by_cases hl:i<12
 ·have hd:cN st s (i+1)=cN st s i+(if st i=s then 1 else 0):=rfl;have hle:=cZ st s i;generalize cN st s i=n at *;by_cases he:st i=s
  ·rw[if_pos he] at hd;conv=>whnf
   repeat ((first|(refine Ru.idx underlying70 hl (by kernel_rfl) ?_)|refine Ar.la ?_|refine Br.y ?_|refine CW.s ?_);conv=>whnf)
   exact⟨i+1,⟨hl,rfl⟩,⟨rfl,vi (by rw[hd];omega),rfl,vi (by omega),trivial⟩,by simp only;omega⟩
  ·rw[if_neg he] at hd;conv=>whnf
   repeat ((first|(refine Ru.idx underlying70 hl (by kernel_rfl) ?_)|refine Ar.la ?_|refine Br.y ?_|refine Br.n ?_|refine CW.s ?_);conv=>whnf)
   exact⟨i+1,⟨hl,rfl⟩,⟨rfl,vi (by rw[hd];omega),rfl,vi (by omega),trivial⟩,by simp only;omega⟩
 ·obtain rfl:i=12:=by omega
  conv=>whnf
  repeat ((first|refine Br.f ?_|refine CW.s ?_);conv=>whnf)
  exact⟨rfl,rfl,rfl⟩
def aA(st:Nat->Nat):Bool:=decide (2<an st 3)
def kT(st:Nat->Nat):Nat:=if aA st then 0 else 1+2*(2-an st 3)
def fP(st:Nat->Nat):Bool:=decide (kT st<an st 0)
theorem eM(r:Al w p st pn):Spec Tryz.prog 100 #[.pointer (some ⟨p,0,none⟩)] w fun v w'=>v=.bool (aA st)/\w=w':=by
 refine spec_of_wpE (T:=tt) ah func100 rfl (by decide +kernel) ntmps100 (by simp) ?_;conv=>whnf
 refine Ca.of (iQ r 3) ?_;rintro _ _ ⟨rfl,rfl⟩;conv=>whnf
 exact⟨rfl,vb (by unfold aA;exact decide_eq_decide.2 (by omega)),rfl⟩
theorem ahA(r:Al w p st pn):Spec Tryz.prog 184 #[.pointer (some ⟨p,0,none⟩)] w fun v w'=>v=.int .i64 (kT st:Nat)/\w=w':=by
 have hle:=cZ st 3 12;have arb:an st 3<=12:=hle;refine spec_of_wpE (T:=tt) ah func184 rfl (by decide +kernel) ntmps184 (by simp) ?_;conv=>whnf
 repeat (refine CW.s ?_;conv=>whnf)
 refine Ca.of (eM r) ?_;rintro _ _ ⟨rfl,rfl⟩;unfold kT
 cases hw:aA st with
 | true =>
  conv=>whnf
  repeat (refine Br.t ?_;conv=>whnf)
  exact⟨rfl,rfl,rfl⟩
 | false =>
  have h2:¬2<an st 3:=of_decide_eq_false hw;conv=>whnf
  repeat (refine Br.f ?_;conv=>whnf)
  refine Ca.of (iQ r 3) ?_;rintro _ _ ⟨rfl,rfl⟩;conv=>whnf
  repeat (refine Ar.la ?_;conv=>whnf)
  exact⟨rfl,vi (by simp;omega),rfl⟩
theorem tZ(r:Al w p st pn):Spec Tryz.prog 154 #[.pointer (some ⟨p,0,none⟩)] w fun v w'=>v=.bool (fP st)/\w=w':=by
 refine spec_of_wpE (T:=tt) ah func154 rfl (by decide +kernel) ntmps154 (by simp) ?_;conv=>whnf
 refine Ca.of (iQ r 0) ?_;rintro _ _ ⟨rfl,rfl⟩;conv=>whnf
 refine Ca.of (ahA r) ?_;rintro _ _ ⟨rfl,rfl⟩;conv=>whnf
 exact⟨rfl,vb (by unfold fP;exact decide_eq_decide.2 (by omega)),rfl⟩
def fQ(st:Nat->Nat)(pn:Nat):Nat->Option Nat
 |0=>none
 |n+1=>if st ((pn+(12-(n+1)))%12)=0 then some ((pn+(12-(n+1)))%12) else fQ st pn n
def takeN(st:Nat->Nat)(pn:Nat):Option Nat:=fQ st pn 12
def AB(w:World)(p:Nat)(st:Nat->Nat)(pn:Nat)(v:Value)(w':World):Prop:=match takeN st pn with
 |some b=>v=.tuple #[.int .i64 (b:Nat),ak 0]/\Al w' p (af st b 1) (b+1)/\Aa [p] w w'
 |none=>v=.tuple #[.int .i64 0,ak 10]/\w=w'
theorem da{st:Nat->Nat}{pn:Nat}:∀ {n b:Nat},fQ st pn n=some b->b<12/\st b=0
 |0,b,h=>by cases h
 | n+1,b,h=>by
  unfold fQ at h;split at h
  ·rename_i h0
   cases h
   exact⟨Nat.mod_lt _ (by omega),h0⟩
  ·exact da h
theorem mn(r:Al w p st pn)(hpn:pn<=12):Spec Tryz.prog 147 #[.pointer (some ⟨p,0,none⟩)] w (AB w p st pn):=by
 refine spec_of_wpE (T:=tt) ah func147 rfl (by decide +kernel) ntmps147 (by simp) ?_;conv=>whnf
 repeat (refine CW.s ?_;conv=>whnf)
 refine CW.loop (ι:=Nat) (fun i w'=>i<=12/\w'=w/\takeN st pn=fQ st pn (12-i)) (fun i=>[(0,.pointer (some ⟨p,0,none⟩)),(6,.int .i64 i)]) (fun i=>12-i) 0 ah ⟨by omega,rfl,rfl⟩ ⟨rfl,rfl,trivial⟩ ?_;rintro i wr ⟨hi,rfl,ht⟩;by_cases hl:i<12
 ·have hm:(pn+i)%12<12:=Nat.mod_lt _ (by omega);have e:fQ st pn (12-i)=if st ((pn+i)%12)=0 then some ((pn+i)%12) else fQ st pn (12-(i+1)):=by
   rw[show 12-i=(12-(i+1))+1 by omega];show(if st ((pn+(12-((12-(i+1))+1)))%12)=0 then _ else _)=_;rw[show 12-((12-(i+1))+1)=i by omega]
  have em:((pn:Int)+i)%12=(((pn+i)%12:Nat):Int):=by omega
  rw[e] at ht;generalize (pn+i)%12=b at *;by_cases h0:st b=0
  ·rw[if_pos h0] at ht;conv=>whnf
   repeat ((first|(refine Ld.at (by omega) r.cpn ?_)|(refine Ix.of b (by omega) (by omega) ?_)|(refine Ld.at (by omega) (r.cst hm) ?_)|refine Ar.la ?_|refine Dv.r ?_|refine Br.y ?_|refine CW.s ?_);conv=>whnf)
   refine Sd.rowAt r b (by omega) (by omega) rfl ?_;intro w2 r2 k2;have r2:Al w2 p (af st b 1) pn:=r2.congr (fun j hj=>tY st pn 1 hm j hj);conv=>whnf
   repeat (refine Ar.la ?_;conv=>whnf)
   refine Sd.rowAt r2 12 (by omega) (by omega) rfl ?_;intro w3 r3 k3;conv=>whnf
   refine⟨rfl,?_⟩;unfold AB;rw[ht];refine⟨by rw[em];rfl,Row.congr r3 (fun j hj=>?_),k2.trans k3⟩;have e2:((pn:Int)+i)%12+1=((b+1:Nat):Int):=by omega
   rw[e2];exact ahz _ pn (b+1) j hj
  ·rw[if_neg h0] at ht;conv=>whnf
   repeat ((first|(refine Ld.at (by omega) r.cpn ?_)|(refine Ix.of b (by omega) (by omega) ?_)|(refine Ld.at (by omega) (r.cst hm) ?_)|refine Ar.la ?_|refine Dv.r ?_|refine Br.y ?_|refine Br.n ?_|refine CW.s ?_);conv=>whnf)
   exact⟨i+1,⟨hl,rfl,ht⟩,⟨rfl,vi (by omega),trivial⟩,by simp only;omega⟩
 ·obtain rfl:i=12:=by omega
  conv=>whnf
  repeat ((first|refine Br.f ?_|refine CW.s ?_);conv=>whnf)
  refine⟨rfl,?_⟩;unfold AB;rw[ht];exact⟨rfl,rfl⟩
end
def pB(at_ ow:Nat->Nat)(j:Nat):Value:=if j<25 then .int .i64 (at_ j:Nat) else .int .i64 (ow (j-25):Nat)
def Aj(w:World)(m:Nat)(at_ ow:Nat->Nat):Prop:=Row w m 188 121 (pB at_ ow)
theorem yV(at_ ow:Nat->Nat){o:Nat}(x:Nat)(ho:o<25)(j:Nat)(hj:j<121):put (pB at_ ow) o (.int .i64 (x:Nat)) j=pB (af at_ o x) ow j:=by
 unfold put pB af;by_cases h:j=o
 ·subst h;simp[ho]
 ·simp[h]
theorem yW(at_ ow:Nat->Nat){p:Nat}(x:Nat)(hp:p<96)(j:Nat)(hj:j<121):put (pB at_ ow) (25+p) (.int .i64 (x:Nat)) j=pB at_ (af ow p x) j:=by
 unfold put pB af;by_cases h:j=25+p
 ·subst h;rw[if_pos rfl,if_neg (by omega),if_pos (by omega)]
 ·rw[if_neg h];by_cases h2:j<25
  ·rw[if_pos h2,if_pos h2]
  ·rw[if_neg h2,if_neg h2,if_neg (by omega)]
structure AK(at_ ow:Nat->Nat):Prop where
 la:∀o,o<25->at_ o<=96
 lo:∀p,p<96->ow p<=25
def setAt(at_ ow:Nat->Nat)(o p:Nat):(Nat->Nat)×(Nat->Nat) :=
 if bp p o=false then (at_,ow) else if ow p≠0/\ow p≠o+1 then (at_,ow) else (af at_ o (p+1),af (if at_ o≠0 then af ow (at_ o-1) 0 else ow) p (o+1))
def iR(ow:Nat->Nat)(o p:Nat):Int:=if bp p o=false then 1 else if ow p≠0/\ow p≠o+1 then 12 else 0
section
variable{w:World}{m:Nat}{at_ ow:Nat->Nat}
theorem Aj.cat(r:Aj w m at_ ow){o:Nat}(ho:o<25):w.cell? ⟨m,o,none⟩=some (.int .i64 (at_ o:Nat)):=by
 have:=Row.cell r o (by omega);rw[this];unfold pB;rw[if_pos ho]
theorem Aj.cow(r:Aj w m at_ ow){p:Nat}(hp:p<96):w.cell? ⟨m,25+p,none⟩=some (.int .i64 (ow p:Nat)):=by
 have:=Row.cell r (25+p) (by omega);rw[this];unfold pB;rw[if_neg (by omega),Nat.add_sub_cancel_left]
theorem yX(r:Aj w m at_ ow)(W:AK at_ ow)(o p:Nat)(ho:o<=24)(hp:p<96):Spec Tryz.prog 131 #[.pointer (some ⟨m,0,none⟩),.int .i64 o,.int .i64 p] w fun v w'=>v=ak (iR ow o p)/\Aj w' m (setAt at_ ow o p).1 (setAt at_ ow o p).2/\Aa [m] w w':=by
 have jE:o<25:=by omega
 have hla:=W.la o jE;have hlo:=W.lo p hp;have main:∀(ow':Nat->Nat) (w1:World),Aj w1 m at_ ow'->Aj ((w1.setCell ⟨m,o,none⟩ (.int .i64 ((p+1:Nat):Int))).setCell ⟨m,25+p,none⟩ (.int .i64 ((o+1:Nat):Int))) m (af at_ o (p+1)) (af ow' p (o+1)):=fun ow' w1 h1 =>
  Row.congr (Row.set (Row.congr (Row.set h1 o (.int .i64 ((p+1:Nat):Int))) (fun j hj=>yV at_ ow' (p+1) jE j hj)) (25+p) _) (fun j hj=>yW _ ow' (o+1) hp j hj);refine spec_of_wpE (T:=tt) ah func131 rfl (by decide +kernel) ntmps131 (by simp) ?_;conv=>whnf
 refine Ca.of (aaJ w p o hp ho) ?_;rintro _ _ ⟨rfl,rfl⟩
 cases hh:bp p o with
 | false =>
  have e1:iR ow o p=1:=if_pos hh;have e2:setAt at_ ow o p=(at_,ow):=if_pos hh;rw[e1,e2];conv=>whnf
  repeat ((first|refine Br.t ?_|refine Br.f ?_|refine Pk.f ?_|refine Ru.ai ?_|refine CW.s ?_);conv=>whnf)
  exact⟨rfl,rfl,r,Aa.refl _ _⟩
 | true =>
  have hf:¬bp p o=false:=by rw[hh];simp
  by_cases hb:ow p≠0/\ow p≠o+1
  ·have e1:iR ow o p=12:=by unfold iR;rw[if_neg hf,if_pos hb]
   have e2:setAt at_ ow o p=(at_,ow):=by unfold setAt;rw[if_neg hf,if_pos hb]
   obtain⟨nr,qk⟩:=hb;rw[e1,e2];conv=>whnf
   repeat ((first|(refine Ix.of p (by omega) (by omega) ?_)|(refine Ld.at (by omega) (r.cow hp) ?_)|refine Br.t ?_|refine Br.f ?_|refine Pk.f ?_|refine Pk.t ?_|refine Ar.la ?_|refine Br.nn ?_|refine Ru.ai ?_|refine CW.s ?_);conv=>whnf)
   exact⟨rfl,rfl,r,Aa.refl _ _⟩
  ·have e1:iR ow o p=0:=by unfold iR;rw[if_neg hf,if_neg hb]
   have e2:setAt at_ ow o p=(af at_ o (p+1),af (if at_ o≠0 then af ow (at_ o-1) 0 else ow) p (o+1)):=by unfold setAt;rw[if_neg hf,if_neg hb]
   rw[e1,e2];clear e1 e2 hf;have hb':ow p=0\/ow p=o+1:=by omega
   conv=>whnf
   refine CW.cut (ι:=Unit) (fun _ w'=>w'=w) (fun _=>[(0,.pointer (some ⟨m,0,none⟩)),(1,.int .i64 o),(2,.int .i64 p),(6,.nilIface)]) ah ?_ ?_
   ·rcases hb' with h|h
    all_goals
     conv=>whnf
     repeat ((first|(refine Ix.of p (by omega) (by omega) ?_)|(refine Ld.at (by omega) (r.cow hp) ?_)|refine Br.t ?_|refine Br.f ?_|refine Pk.f ?_|refine Pk.t ?_|refine Ar.la ?_|refine Br.ny ?_|refine Br.nn ?_|refine Ru.ai ?_);conv=>whnf)
     exact⟨(),rfl,⟨rfl,rfl,rfl,rfl,trivial⟩⟩
   ·rintro _ w1 rfl;conv=>whnf
    refine CW.cut (ι:=Unit) (fun _ w'=>Aj w' m at_ (if at_ o≠0 then af ow (at_ o-1) 0 else ow)/\Aa [m] w1 w') (fun _=>[(0,.pointer (some ⟨m,0,none⟩)),(1,.int .i64 o),(2,.int .i64 p),(6,.nilIface)]) ah ?_ ?_
    ·by_cases h0:at_ o=0
     ·rw[if_neg (by simpa using h0)];conv=>whnf
      repeat ((first|(refine Ix.of o (by omega) (by omega) ?_)|(refine Ld.at (by omega) (r.cat jE) ?_)|refine Br.ny ?_);conv=>whnf)
      exact⟨(),⟨r,Aa.refl _ _⟩,⟨rfl,rfl,rfl,rfl,trivial⟩⟩
     ·rw[if_pos h0];have hx:at_ o-1<96:=by omega
      conv=>whnf
      repeat ((first|(refine Ix.of o (by omega) (by omega) ?_)|(refine Ld.at (by omega) (r.cat jE) ?_)|refine Br.nn ?_);conv=>whnf)
      refine CW.held (fun _=>True) [] (.take 0 (.take 1 (.take 2 (.take 3 (.take 4 (.take 5 (.take 8 (.take 9 (.one 6 (.take 7 (.take 10 (.one 11 (.done))))))))))))) ah (by kernel_rfl) (by kernel_rfl) (by kernel_rfl) trivial ?_;have r1:Aj (w1.drewN 1) m at_ ow:=Row.drewN r 1;have k1:Aa [m] w1 (w1.drewN 1):=(Aa.refl _ _).drewN 1;generalize w1.drewN 1=w2 at *;conv=>whnf
      repeat ((first|(refine Ix.of o (by omega) (by omega) ?_)|(refine Ld.at (by omega) (r1.cat jE) ?_)|(refine Ix.of (at_ o-1) (by omega) (by omega) ?_)|refine HS.t ?_|refine Ar.la ?_);conv=>whnf)
      refine Sd.rowAt r1 (25+(at_ o-1)) (by omega) (by omega) rfl ?_;intro w3 r3 k3;conv=>whnf
      repeat (refine HS.t ?_;conv=>whnf)
      exact⟨(),⟨r3.congr (fun j hj=>yW at_ ow 0 hx j hj),k1.trans k3⟩,⟨rfl,rfl,rfl,rfl,trivial⟩⟩
    ·generalize (if at_ o≠0 then af ow (at_ o-1) 0 else ow)=ow';rintro _ w2 ⟨r2,k2⟩;conv=>whnf
     refine CW.held (fun _=>True) [] (.take 0 (.take 1 (.take 2 (.take 3 (.take 4 (.take 5 (.take 6 (.take 7 (.take 8 (.take 9 (.take 10 (.take 12 (.take 13 (.one 11 (.take 14 (.one 15 (.done))))))))))))))))) ah (by kernel_rfl) (by kernel_rfl) (by kernel_rfl) trivial ?_;have r3:Aj (w2.drewN 1) m at_ ow':=Row.drewN r2 1;have k3:Aa [m] w1 (w2.drewN 1):=k2.drewN 1;generalize w2.drewN 1=w3 at *;have fin:=main ow' w3 r3;conv=>whnf
     repeat ((first|(refine Ix.of o (by omega) (by omega) ?_)|refine Ar.la ?_);conv=>whnf)
     refine Sd.setAt o (by omega) (r3.cat jE) (Row.free r3 _) rfl ?_;have r4:Aj (w3.setCell ⟨m,o,none⟩ (.int .i64 ((p+1:Nat):Int))) m (af at_ o (p+1)) ow':=Row.congr (Row.set r3 o _) (fun j hj=>yV at_ ow' (p+1) jE j hj);have k4:=k3.trans (Aa.set (w:=w3) m o (.int .i64 ((p+1:Nat):Int)));rw[show(p:Int)+1=((p+1:Nat):Int) by omega];generalize w3.setCell _ _=w4 at *;conv=>whnf
     repeat ((first|(refine Ix.of p (by omega) (by omega) ?_)|refine HS.t ?_);conv=>whnf)
     refine Sd.setAt (25+p) (by omega) (r4.cow hp) (Row.free r4 _) rfl ?_;have k5:=k4.trans (Aa.set (w:=w4) m (25+p) (.int .i64 ((o+1:Nat):Int)));rw[show(o:Int)+1=((o+1:Nat):Int) by omega];generalize w4.setCell _ _=w5 at *;conv=>whnf
     repeat (refine HS.t ?_;conv=>whnf)
     exact⟨rfl,rfl,fin,k5⟩
theorem iS(r:Aj w m at_ ow)(o:Nat)(ho:o<=24)(hl:at_ o<=96):Spec Tryz.prog 62 #[.pointer (some ⟨m,0,none⟩),.int .i64 o] w fun v w'=>v=(if at_ o=0 then .tuple #[.int .i64 0,ak 11] else .tuple #[.int .i64 ((at_ o-1:Nat):Int),ak 0])/\w=w':=by
 have jE:o<25:=by omega
 refine spec_of_wpE (T:=tt) ah func62 rfl (by decide +kernel) ntmps62 (by simp) ?_;by_cases h0:at_ o=0
 ·rw[if_pos h0];conv=>whnf
  repeat ((first|(refine Ix.of o (by omega) (by omega) ?_)|(refine Ld.at (by omega) (r.cat jE) ?_)|refine Br.f ?_|refine Pk.f ?_|refine Br.y ?_|refine Br.n ?_|refine CW.s ?_);conv=>whnf)
  exact⟨rfl,rfl,rfl⟩
 ·rw[if_neg h0];conv=>whnf
  repeat ((first|(refine Ix.of o (by omega) (by omega) ?_)|(refine Ld.at (by omega) (r.cat jE) ?_)|refine Br.f ?_|refine Pk.f ?_|refine Ar.la ?_|refine Br.n ?_|refine CW.s ?_);conv=>whnf)
  exact⟨rfl,by rw[show((at_ o-1:Nat):Int)=(at_ o:Int)-1 by omega];rfl,rfl⟩
theorem wO(r:Aj w m at_ ow)(p:Nat)(hp:p<96)(hl:ow p<=25):Spec Tryz.prog 117 #[.pointer (some ⟨m,0,none⟩),.int .i64 p] w fun v w'=>v=(if ow p=0 then .tuple #[.int .i64 0,ak 11] else .tuple #[.int .i64 ((ow p-1:Nat):Int),ak 0])/\w=w':=by
 refine spec_of_wpE (T:=tt) ah func117 rfl (by decide +kernel) ntmps117 (by simp) ?_;conv=>whnf
 repeat (refine CW.s ?_;conv=>whnf)
 refine Ca.of (aaI w p hp) ?_;rintro _ _ ⟨rfl,rfl⟩;by_cases h0:ow p=0
 ·rw[if_pos h0];conv=>whnf
  repeat ((first|(refine Ix.of p (by omega) (by omega) ?_)|(refine Ld.at (by omega) (r.cow hp) ?_)|refine Br.f ?_|refine Br.y ?_|refine Ru.ai ?_|refine CW.s ?_);conv=>whnf)
  exact⟨rfl,rfl,rfl⟩
 ·rw[if_neg h0];conv=>whnf
  repeat ((first|(refine Ix.of p (by omega) (by omega) ?_)|(refine Ld.at (by omega) (r.cow hp) ?_)|refine Br.f ?_|refine Ar.la ?_|refine Br.n ?_|refine Ru.ai ?_|refine CW.s ?_);conv=>whnf)
  exact⟨rfl,by rw[show((ow p-1:Nat):Int)=(ow p:Int)-1 by omega];rfl,rfl⟩
theorem aaK(r:Aj w m at_ ow)(o:Nat)(ho:o<=24)(hl:at_ o<=96)(h0:at_ o≠0):Spec Tryz.prog 67 #[.pointer (some ⟨m,0,none⟩),.int .i64 o] w fun v w'=>v=ak 0/\Aj w' m (af at_ o 0) (af ow (at_ o-1) 0)/\Aa [m] w w':=by
 have jE:o<25:=by omega
 have hx:at_ o-1<96:=by omega
 refine spec_of_wpE (T:=tt) ah func67 rfl (by decide +kernel) ntmps67 (by simp) ?_;conv=>whnf
 refine Ca.of (iS r o ho hl) ?_;rintro _ _ ⟨rfl,rfl⟩;rw[if_neg h0];conv=>whnf
 repeat ((first|refine Br.f ?_|refine Ru.ai ?_|refine CW.s ?_);conv=>whnf)
 refine CW.held (fun _=>True) [] (.take 0 (.take 1 (.take 2 (.take 3 (.take 4 (.take 5 (.take 6 (.take 8 (.take 9 (.one 7 (.take 10 (.one 11 (.done))))))))))))) ah (by kernel_rfl) (by kernel_rfl) (by kernel_rfl) trivial ?_;have r1:Aj (w.drewN 1) m at_ ow:=Row.drewN r 1;have k1:Aa [m] w (w.drewN 1):=(Aa.refl _ _).drewN 1;generalize w.drewN 1=w1 at *;conv=>whnf
 repeat ((refine Ix.of o (by omega) (by omega) ?_);conv=>whnf)
 refine Sd.setAt o (by omega) (r1.cat jE) (Row.free r1 _) rfl ?_;have r2:Aj (w1.setCell ⟨m,o,none⟩ (.int .i64 0)) m (af at_ o 0) ow:=Row.congr (Row.set r1 o _) (fun j hj=>yV at_ ow 0 jE j hj);have k2:=k1.trans (Aa.set (w:=w1) m o (.int .i64 0));generalize w1.setCell _ _=w2 at *;conv=>whnf
 repeat ((first|(refine Ix.of (at_ o-1) (by omega) (by omega) ?_)|refine HS.t ?_);conv=>whnf)
 refine Sd.setAt (25+(at_ o-1)) (by omega) (r2.cow hx) (Row.free r2 _) rfl ?_;have r3:Aj (w2.setCell ⟨m,25+(at_ o-1),none⟩ (.int .i64 0)) m (af at_ o 0) (af ow (at_ o-1) 0):=Row.congr (Row.set r2 _ _) (fun j hj=>yW _ ow 0 hx j hj);have k3:=k2.trans (Aa.set (w:=w2) m (25+(at_ o-1)) (.int .i64 0));generalize w2.setCell _ _=w3 at *;conv=>whnf
 repeat (refine HS.t ?_;conv=>whnf)
 exact⟨rfl,rfl,r3,k3⟩
end
end
end Go.Proofs.YtaeikigfgfcadaaGreat
