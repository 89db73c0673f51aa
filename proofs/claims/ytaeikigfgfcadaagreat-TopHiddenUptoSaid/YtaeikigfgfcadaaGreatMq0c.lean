/- Texts behind one another: Lay, Data, PutGet, App0, EqS, Tag, TagEnc, TagDec, Media, TgMath, Pgm, PgmW, Near, Abs, MedE, MedA, Claim, ByPlace, Newest, Claim2, Claim3, Claim4, ClaimMath, ClN. -/
import Derived.Deep.AppendSrc
import Derived.Laws.CopyRow
import Derived.Laws.StructEq
import Derived.Deep.RegionHeld3
import Derived.Test.YtaeikigfgfcadaaGreatMq0a
import Derived.Test.YtaeikigfgfcadaaGreatMq0b
namespace Go.Proofs.YtaeikigfgfcadaaGreat
set_option maxHeartbeats 4000000
set_option maxRecDepth 20000
set_option linter.unusedVariables false
set_option linter.unusedSimpArgs false
set_option linter.unnecessarySimpa false
section
open Go.RowKit
attribute [local irreducible] GF.pw GF.lg GF.mul GF.inv GF.xt
theorem row1(w:World)(t:TypeId)(v:Value):Row (w.alloc (.cells #[v] t)) w.heap.size t 1 (fun _=>v):=Row.of_arr (heap_alloc_new w _) (by simp[Array.range,Array.ofFn_succ])
theorem Ru.new1{P:Program}{w:World}{s:Sem Value}{t:TypeId}{v:Value}{K:Value->World->Prop}(h:s.run P w=.ok (.pointer (some ⟨w.heap.size,0,none⟩)) (w.alloc (.cells #[v] t)))(k:∀g w',g=w.heap.size->w'.heap.size=w.heap.size+1->Row w' g t 1 (fun _=>v)->Keep [] w w'->K (.pointer (some ⟨g,0,none⟩)) w'):Ru P s w K :=
 ⟨_,_,h,k _ _ rfl (by simp) (row1 w t v) ((Keep.refl _ _).alloc _)⟩
theorem new_frm(a:Addr)(w:World):(Instr.box 248 (.pointer (some a))).run Tryz.prog w=.ok (.pointer (some ⟨w.heap.size,0,none⟩)) (w.alloc (.cells #[.pointer (some a)] 248)):=by kernel_rfl
theorem new_ss(w:World):(Instr.alloc 51 true (.tuple #[])).run Tryz.prog w=.ok (.pointer (some ⟨w.heap.size,0,none⟩)) (w.alloc (.cells #[.slice none 0 0] 51)):=by kernel_rfl
theorem new_err(w:World):(Instr.alloc 33 true (.tuple #[])).run Tryz.prog w=.ok (.pointer (some ⟨w.heap.size,0,none⟩)) (w.alloc (.cells #[.nilIface] 33)):=by kernel_rfl
def layF(D B:Nat->Nat):Nat->Nat:=fun j=>if j<174 then D j else if j<224 then B (j-174) else (markF (j-224)).toNat
def msg58(q:Nat->Nat)(k:Nat):Nat->Nat:=fun i=>q (k*58+i)
theorem seal_sp(A:Option Addr)(c:Nat)(f:Nat->Int)(w:World)(r:Rd w A 50 (fun j=>.int .u8 (f j))):Spec Tryz.prog 203 #[.slice A 50 c] w fun v w'=>v=.tuple #[.slice (some ⟨w.heap.size,0,none⟩) 58 58,errOf 0]/\Row w' w.heap.size 5 58 (fun j=>.int .u8 (sealF f j))/\Keep [] w w' :=
 Spec.of_ret (by kernel_rfl) (seal_ok A c f w r) fun e w' h=>by
  obtain⟨rfl,h1,h2⟩:=h;exact⟨_,rfl,rfl,h1,h2⟩
theorem markF_nat(i:Nat):((markF i).toNat:Int)=markF i:=by
 have h:0<=markF i:=by
  by_cases hi:i<8
  ·have:∀i,i<8->0<=markF i:=by decide
   exact this i hi
  ·unfold markF;rw[List.getD_eq_getElem?_getD,List.getElem?_eq_none (by simp;omega)];decide
 omega
theorem layF_val(D B:Nat->Nat)(j:Nat):(if j<174 then natI D j else sealF (natI B) (j-174))=(layF D B j:Int):=by
 unfold layF sealF natI;by_cases h1:j<174
 ·rw[if_pos h1,if_pos h1]
 ·rw[if_neg h1,if_neg h1];by_cases h2:j<224
  ·rw[if_pos (by omega),if_pos h2]
  ·rw[if_neg (by omega),if_neg h2,markF_nat,show j-174-50=j-224 by omega]
theorem build_ss(A:Option Addr)(n c:Nat)(w:World):(Instr.buildSlice 51 1 #[(0,.slice A n c)]).run Tryz.prog w=.ok (.slice (some ⟨w.heap.size,0,none⟩) 1 1) (w.alloc (.cells #[.slice A n c] 37)):=by kernel_rfl
theorem ss_info:(Tryz.prog.info? 37).map (fun i=>(i.zero,i.size,i.bytes))=some (some (.slice none 0 0),1,24):=by kernel_rfl
theorem row_cells{W:World}{x:Nat}{t:TypeId}{n:Nat}{F:Nat->Value}(r:Row W x t n F):∀o,W.heap[x]?=some o->o.isCells=true:=fun o h=>by
 rw[r] at h
 cases h
 rfl
theorem ly_cells{W:World}{t:TypeId}{s n c:Nat}{A:Option Addr}{F:Nat->Value}(r:Ly W t s A n c F):∀x,x∈blk A->∀o,W.heap[x]?=some o->o.isCells=true:=fun x hx o h=>by
 cases A with
 |none=>cases hx
 | some a =>
  obtain⟨b,cur,fr,rfl,hh,_⟩:=r.2.2.2 a rfl;obtain rfl:=List.mem_singleton.1 hx;rw[hh] at h
  cases h
  rfl
theorem FS.cells{W:World}{g:Nat}(r:FS W g):∀o,W.heap[g]?=some o->o.isCells=true:=by
 rcases r with r|r
 ·exact row_cells r
 ·exact row_cells r
theorem keepsFrom_of{S:List Nat}{W W':World}(B:Nat)(k:Keep S W W')(h:∀x,x∈S->∀o,W.heap[x]?=some o->o.isCells=true):KeepsFrom B W W':=⟨k.size,fun i o _ hi ho=>by
 have hl:=(Array.getElem?_eq_some_iff.1 hi).1;rw[k.block i hl (fun hx=>by rw[h i hx o hi] at ho;cases ho)];exact hi⟩
structure LayI(w:World)(N0 f c g h xf xr xe xo qb e:Nat)(q:Nat->Nat)(pre:List (Fin 4))(W:World):Prop where
 sz:N0<=W.heap.size
 fk:FK w g W
 frm:Frm W f c g h
 rxf:Row W xf 248 1 (fun _=>.pointer (some ⟨f,0,none⟩))
 rxr:Row W xr 51 1 (fun _=>.slice none 0 0)
 rxe:Row W xe 33 1 (fun _=>.nilIface)
 rq:Ly W 5 1 (some ⟨qb,0,none⟩) 232 e (fun j=>.int .u8 (q j:Nat))
 out:∃(O:Option Addr) (oc:Nat) (bk ek:Nat->Nat),Row W xo 51 1 (fun _=>.slice O pre.length oc)/\Ly W 37 1 O pre.length oc (fun k=>.slice (some ⟨bk k,0,none⟩) 64 (ek k))/\(∀x,x∈blk O->N0<=x)/\∀k (hk:k<pre.length),w.heap.size<=bk k/\Wd W (bk k) (ek k) (GF.encW (msg58 q pre[k].1))
theorem Ru.ldc{P:Program}{w:World}{t:TypeId}{a:Addr}{v:Value}{K:Value->World->Prop}(hc:cellTy P t=true)(h:w.cell? a=some v)(k:K v w):Ru P (loadVar t a) w K:=⟨v,w,load_run hc h,k⟩
def LayEnd(w:World)(g:Nat)(q:Nat->Nat)(v:Value)(w':World):Prop :=
 FK w g w'/\∃(O:Option Addr) (oc:Nat) (bk ek:Nat->Nat),v=.tuple #[.slice O 4 oc,errOf 0]/\Ly w' 37 1 O 4 oc (fun k=>.slice (some ⟨bk k,0,none⟩) 64 (ek k))/\∀k,k<4->w.heap.size<=bk k/\Wd w' (bk k) (ek k) (GF.encW (msg58 q k))
theorem upto4:∀k (hk:k<4),((upto 4 (by decide) 4)[k]'(by rw[upto_length];exact hk)).1=k:=by decide
theorem markF_lt(i:Nat):(markF i).toNat<256:=by
 by_cases hi:i<8
 ·have:∀i,i<8->(markF i).toNat<256:=by decide
  exact this i hi
 ·unfold markF;rw[List.getD_eq_getElem?_getD,List.getElem?_eq_none (by simp;omega)];decide
theorem layF_lt{D B:Nat->Nat}(hD:∀j,D j<256)(hB:∀j,B j<256)(j:Nat):layF D B j<256:=by
 unfold layF;split
 ·exact hD j
 ·split
  ·exact hB _
  ·exact markF_lt _
def NoCells(W:World)(r:Nat):Prop:=∃o:Obj,W.heap[r]?=some o/\o.isCells=false
theorem NoCells.ne{W:World}{r x:Nat}{t:TypeId}{n:Nat}{F:Nat->Value}(h:NoCells W r)(k:Row W x t n F):x≠r:=fun e=>by
 obtain⟨o,h1,h2⟩:=h;subst e;rw[k] at h1
 cases h1
 cases h2
theorem NoCells.nely{W:World}{r:Nat}{t:TypeId}{s n c:Nat}{A:Option Addr}{F:Nat->Value}(h:NoCells W r)(k:Ly W t s A n c F):∀x,x∈blk A->x∉[r]:=fun x hx e=>by
 obtain⟨o,h1,h2⟩:=h
 cases A with
 |none=>cases hx
 | some a =>
  obtain⟨b,cur,fr,rfl,hh,_⟩:=k.2.2.2 a rfl;obtain rfl:=List.mem_singleton.1 hx;rw[List.mem_singleton.1 e,h1] at hh
  cases hh
  cases h2
theorem keep_grown{W W':World}{row:Option Nat}(g:W.grownBy W' row):Keep row.toList W W':=(Keep.refl _ W).grown g (fun k e=>.inl (by rw[e];simp))
theorem lay_ok(w:World)(f c g h dd db:Nat)(A X:Option Addr)(D B:Nat->Nat)(hD:∀j,D j<256)(hB:∀j,B j<256)(rD:RdB w A 174 D)(rB:RdB w X 50 B)(hdd:174<=dd)(H:Frm w f c g h) :
  Spec Tryz.prog 186 #[.pointer (some ⟨f,0,none⟩),.slice A 174 dd,.slice X 50 db] w (LayEnd w g (layF D B)):=by
 refine spec_of_wpI (T:=tt) 3 tt_ok Tryz.func186 rfl (by decide +kernel) Tryz.ntmps186 (by simp) ?_;have hAn:A=none->dd=0:=fun e=>by
  obtain⟨b,o,e2,_⟩:=rD (by omega);rw[e] at e2
  cases e2
 conv=>whnf
 refine Ru.new1 (new_frm _ _) ?_;intro xf w1 hxf hs1 rxf k1;conv=>whnf
 refine Ru.new1 (new_ss _) ?_;intro xr w2 hxr hs2 rxr k2;conv=>whnf
 refine Ru.new1 (new_err _) ?_;intro xe w3 hxe hs3 rxe k3;have k123:=(k1.trans k2).trans k3;conv=>whnf
 repeat ((first|(refine CWI.seq tt_ok fok_wide ?_)|refine Br.f ?_);conv=>whnf)
 refine Ca.of (seal_sp X db (natI B) w3 (rB.keep0 k123)) ?_;rintro _ w4 ⟨rfl,rs4,k4⟩;conv=>whnf
 repeat ((first|(refine CWI.seq tt_ok fok_wide ?_)|refine Br.f ?_|refine Ru.neq_nil0 ?_);conv=>whnf)
 refine Ru.new1 (new_ss _) ?_;intro xo w5 hxo hs5 rxo k5;have k45:=k4.trans k5;have k35:=k123.trans k45;conv=>whnf
 repeat ((first|(refine CWI.seq tt_ok fok_wide ?_));conv=>whnf)
 refine Bu.grow (Own.start w5 (fun _=>0)) (natI D) (rD.keep0 k35) hdd hAn (by omega) ?_;intro Y1 e1 w6 O1 k6;conv=>whnf
 refine Bu.grow O1 (sealF (natI B)) (Rd.of_row (Row.keep (Row.keep rs4 k5 (by simp)) O1.keep (by simp)) (Nat.le_refl _)) (by omega) (fun e=>by cases e) (by omega) ?_;intro Y2 e2 w7 O2 k7;obtain⟨qb,rfl,-,-⟩:=O2.ly.at1 (j:=0) (by omega);have hqb:=O2.new qb (List.mem_singleton.2 rfl);have rq:Ly w7 5 1 (some ⟨qb,0,none⟩) 232 e2 (fun j=>.int .u8 (layF D B j:Nat)):=O2.ly.congr (fun j hj=>by
  rw[<-layF_val];by_cases h1:j<174
  ·simp[h1]
  ·simp[h1])
 have k57:=O2.keep;have k37:=k35.trans k57;clear O1 O2 k6 k7;conv=>whnf
 refine Ca.of (pieces_ok w7 _ _ _ _) ?_;rintro _ w8 ⟨rfl,hw8⟩;conv=>whnf
 have hsz3:w3.heap.size=w.heap.size+3:=by omega
 have hs35:=k35.size;have hs57:=k57.size;have hs34:=(k123.trans k4).size;have hs44:=k4.size;have hgl:=H.cod.fs.lt;have hs7:=k37.size;have hsz8:w8.heap.size=w7.heap.size+2:=by rw[hw8];simp
 have rb:Row w8 w7.heap.size 37 1 (fun _=>.slice (some ⟨qb,0,none⟩) 232 e2):=by
  rw[hw8];exact(row1 w7 _ _).keep ((Keep.refl [] _).alloc _) (by simp)
 have rs:Row w8 (w7.heap.size+1) 3 1 (fun _=>.int .i64 58):=by
  rw[hw8];have:=row1 (w7.alloc (.cells #[.slice (some ⟨qb,0,none⟩) 232 e2] 37)) 3 (.int .i64 58);simpa using this
 have k78:Keep [] w7 w8:=by
  rw[hw8];exact((Keep.refl [] _).alloc _).alloc _
 clear hw8;have k08:=k37.trans k78;have hec:232<=e2:=rq.1;have hin:LayI w w8.heap.size f c g h xf xr xe xo qb e2 (layF D B) [] w8:=by
  have H8:=H.keep0 k08 (by simp) (by simp) (by simp) (by simp);have k5e:Keep [] w5 w8:=k57.trans k78;have k2e:Keep [] w2 w8:=k3.trans (k45.trans k5e);exact⟨Nat.le_refl _,⟨H8.cod.fs,k08.mono (by simp)⟩,H8,rxf.keep (k2.trans k2e) (by simp),rxr.keep k2e (by simp),rxe.keep (k45.trans k5e) (by simp),rq.keep0 k78,none,0,fun _=>0,fun _=>0,rxo.keep k5e (by simp),Ly.nil _ _ _ _,(fun x hx=>by cases hx),fun i hi=>absurd hi (by simp)⟩
 refine CWI.range (α:=Fin 4) tt_ok (by omega) (gf:=209) (lb := #[.pointer (some ⟨w7.heap.size+1,0,none⟩),.pointer (some ⟨w7.heap.size,0,none⟩)]) rfl (enters_of Tryz.func209 (by kernel_rfl) rfl)
  (pieces58_stops Fence.wide 2 trivial rfl (by omega) w7.heap.size (w7.heap.size+1) qb 0 e2 hec w8 (by omega) (by omega) (rb.cell 0 (by omega)) (rs.cell 0 (by omega)))
  (fun h k=>KpP.trans h k) ?kb (fun x=>rfl) (LayI w w8.heap.size f c g h xf xr xe xo qb e2 (layF D B)) (fun _ _=>False) ?own (fun s W W' row hs _ _=>hs) hin
  (fun a x=>((({ a with defers:=[] }:Act).put (some 32) (.int .i64 (x.1:Int))).put (some 33) (.slice (some ⟨qb,0+x.1*58,none⟩) ((x.1+1)*58-x.1*58) (e2-x.1*58))).put (some 12) (.slice (some ⟨qb,0+x.1*58,none⟩) ((x.1+1)*58-x.1*58) (e2-x.1*58)))
  (fun x=>[(12,.slice (some ⟨qb,0+x.1*58,none⟩) ((x.1+1)*58-x.1*58) (e2-x.1*58)),(3,.pointer (some ⟨xf,0,none⟩)),(6,.pointer (some ⟨xr,0,none⟩)),(7,.pointer (some ⟨xe,0,none⟩)),(10,.pointer (some ⟨xo,0,none⟩))])
  ?agr ?assign ?body ?done (fun D pre W _ _ hf _=>hf.elim)
 case kb =>
  intro W l o o' hl _ _ _;have h1:∀i,i<l->(W.putObj l o').cell? ⟨i,0,none⟩=W.cell? ⟨i,0,none⟩:=fun i hi=>World.cell?_of_block (w:=W) (World.putObj_heap_other (by show _≠_;first|exact Nat.ne_of_lt hi|exact Nat.ne_of_gt hi));exact⟨h1 w7.heap.size (by omega),h1 (w7.heap.size+1) (by omega)⟩
 case own =>
  intro pre W W' row hI hg hr;have k:=keep_grown hg;have hnc:∀ {x},(∀o,W.heap[x]?=some o->o.isCells=true)->x∉row.toList:=fun {x} hx hm=>by
   cases row with
   |none=>cases hm
   | some r =>
    obtain rfl:x=r:=by simpa using hm
    obtain⟨_,o,h1,h2⟩:=hr _ rfl;rw[hx o h1] at h2
    cases h2
  have hB:∀x,x∈row.toList->w.heap.size<=x:=fun x hx=>by
   cases row with
   |none=>cases hx
   | some r =>
    obtain rfl:x=r:=by simpa using hx
    have:=(hr _ rfl).1;omega
  obtain⟨O,oc,bk,ek,ro,lo,hO,hw⟩:=hI.out;have hg':=hnc (FS.cells hI.fk.fs);exact⟨Nat.le_trans hI.sz k.size,⟨hI.fk.fs.keep k hg',hI.fk.kp.then k (fun x hx=>.inr (hB x hx))⟩,hI.frm.keep0 k (hnc (row_cells hI.frm.row)) (hnc (row_cells hI.frm.cod.row)) hg' (hnc (row_cells hI.frm.cod.gen)),hI.rxf.keep k (hnc (row_cells hI.rxf)),hI.rxr.keep k (hnc (row_cells hI.rxr)),hI.rxe.keep k (hnc (row_cells hI.rxe)),hI.rq.keep k (fun x hx=>hnc (ly_cells hI.rq x hx)),
   O,oc,bk,ek,ro.keep k (hnc (row_cells ro)),lo.keep k (fun x hx=>hnc (ly_cells lo x hx)),hO,fun i hi=>⟨(hw i hi).1,Ly.keep (hw i hi).2 k (fun x hx=>hnc (ly_cells (hw i hi).2 x hx))⟩⟩
 case agr =>
  intro a x ha;have h0:Agr 51 _ { a with defers:=[] }:=⟨ha.size,rfl,ha.get⟩;refine((((h0.put 32 (by decide) _).put 33 (by decide) _).put 12 (by decide) _)).forget (sub_get ?_);exact⟨rfl,rfl,rfl,rfl,rfl,trivial⟩
 case assign =>
  intro a ha l x W K hK;have hsz:33<a.tmps.size:=by rw[ha.size];decide
  have hfo:Array.foldl (fun(t:Array Value) (x:Tmp×Value)=>match x with|(p,v)=>t.setIfInBounds p v) a.tmps (#[32,33].zip (enc58 qb 0 e2 x))=(a.tmps.setIfInBounds 32 (.int .i64 (x.1:Int))).setIfInBounds 33 (.slice (some ⟨qb,0+x.1*58,none⟩) ((x.1+1)*58-x.1*58) (e2-x.1*58)):=by
   unfold enc58;simp
  rw[hfo];refine wpIn_region_list ?_;unfold wpListIn;rw[if_pos (by rfl)];refine OpGo.wpIn (fok_round l) (go_of_run (v:=.slice (some ⟨qb,0+x.1*58,none⟩) ((x.1+1)*58-x.1*58) (e2-x.1*58)) (w':=W) (by simp) ?_ ?_)
  ·have e:((a.tmps.setIfInBounds 32 (.int .i64 (x.1:Int))).setIfInBounds 33 (.slice (some ⟨qb,0+x.1*58,none⟩) ((x.1+1)*58-x.1*58) (e2-x.1*58))).getD 33 undef=.slice (some ⟨qb,0+x.1*58,none⟩) ((x.1+1)*58-x.1*58) (e2-x.1*58):=by
    rw[Array.getD_eq_getD_getElem?,Array.getElem?_setIfInBounds_self_of_lt (by simpa using hsz)];rfl
   exact congrArg (fun v=>Result.ok (Next.value v) W) e
  ·exact hK
 case body =>
  intro l pre x W hI hl;obtain⟨O,oc,bk,ek,ro,lo,hO,hw⟩:=hI.out;have hx4:=x.2;have hqg:qb≠g:=by omega
  have rx:RdB W (some ⟨qb,0+x.1*58,none⟩) 58 (msg58 (layF D B) x.1):=fun _=>⟨qb,0+x.1*58,rfl,fun j hj=>by
   obtain⟨b2,o2,e3,hc⟩:=hI.rq.rd1 (by omega)
   cases e3
   have:=hc (x.1*58+j) (by omega);rw[show 0+x.1*58+j=0+(x.1*58+j) by omega];exact this⟩
  have hlay:∀j,layF D B j<256:=layF_lt hD hB;rw[show(x.1+1)*58-x.1*58=58 by omega];conv=>whnf
  repeat ((first|(refine Ld.row hI.rxf (by decide) ?_)|(refine Ld.row hI.frm.row (by decide) ?_));conv=>whnf)
  refine Ca.of (enc_ok W c g h (e2-x.1*58) (some ⟨qb,0+x.1*58,none⟩) (msg58 (layF D B) x.1) (fun j=>hlay _) rx (by omega) (fun a e=>by cases e;exact hqg) hI.frm.cod) ?_;rintro v W1 ⟨f1,b1,e1',hb1,rfl,wd1⟩;conv=>whnf
  repeat ((first|(refine CWI.seq tt_ok (fok_round l) ?_)|refine Br.f ?_|refine Ru.neq_nil0 ?_);conv=>whnf)
  have xog:xo≠g:=by omega
  refine Ld.row (ro.keep f1.kp (by simpa using xog)) (by decide) ?_;conv=>whnf
  refine Ru.of (build_ss _ _ _ _) ?_;have ka:Keep [] W1 (W1.alloc (.cells #[.slice (some ⟨b1,0,none⟩) 64 e1'] 37)):=(Keep.refl [] _).alloc _;have rn:=row1 W1 37 (.slice (some ⟨b1,0,none⟩) 64 e1');generalize hW2:W1.alloc (.cells #[.slice (some ⟨b1,0,none⟩) 64 e1'] 37)=W2 at *;have hOg:∀y,y∈blk O->y∉[g]:=fun y hy e=>by
   have:=hO y hy;rw[List.mem_singleton.1 e] at this;omega
  have lo2:=(lo.keep f1.kp hOg).keep0 ka;have hWs:=f1.kp.size;obtain⟨i0,hi,hz0,hz1,hz2⟩:=info_parts ss_info;conv=>whnf
  refine Bu.append Tryz.underlying51 hi hz0 hz1 hz2 rfl (by omega) lo2 (B:=some ⟨W1.heap.size,0,none⟩) (m:=1) (d:=1) (fun _=>.slice (some ⟨b1,0,none⟩) 64 e1') (by simpa using Rd.of_row rn (Nat.le_refl _)) (by omega) (fun e=>by cases e) (fun j hj=>rfl) (by simp only[maxLen];omega) (by omega) ?_;intro O' oc' W3 lo3 k3' hat hpre;have ro3:Row W3 xo 51 1 (fun _=>.slice O pre.length oc):=by
   refine Row.keep (Row.keep (ro.keep f1.kp (by simpa using xog)) ka (by simp)) k3' ?_;exact Ly.row_ne lo2 (Row.keep (ro.keep f1.kp (by simpa using xog)) ka (by simp)) (by decide)
  conv=>whnf
  refine Sd.rowAt ro3 0 (by omega) (by omega) rfl ?_;intro W4 ro4 k4';conv=>whnf
  have hsW:=hI.sz;have kW:=f1.kp;have hs2':=ka.size;have hs3':=k3'.size;have kall:Keep (g::xo::blk O) W W4:=(((kW.mono (by simp)).trans (ka.mono (by simp))).trans (k3'.mono (by intro x hx;simp[hx]))).trans (k4'.mono (by simp));have nS:∀y,y≠g->y≠xo->y<w8.heap.size->y∉g::xo::blk O:=fun y h1 h2 h3 hm=>by
   rcases List.mem_cons.1 hm with e|hm
   ·exact h1 e
   ·rcases List.mem_cons.1 hm with e|hm
    ·exact h2 e
    ·have:=hO y hm;omega
  have fcl:=H.row.lt;have ccl:=H.cod.row.lt;have hcl:=H.cod.gen.lt;have nO:∀y,y<w8.heap.size->y∉blk O:=fun y h1 h2=>by have:=hO y h2;omega
  have rq8:=rq.lt rfl;simp only at rq8;have frm4:Frm W4 f c g h:=((((hI.frm.of f1).keep0 ka (by simp) (by simp) (by simp) (by simp)).keep0 k3' (nO f (by omega)) (nO c (by omega)) (nO g (by omega)) (nO h (by omega))).keep0 k4' (by simp;omega) (by simp;omega) (by simp;omega) (by simp;omega));refine⟨?_,⟨kall.cell (p:=⟨w7.heap.size,0,none⟩) (by simp only;omega) (nS w7.heap.size (by omega) (by omega) (by omega)),kall.cell (p:=⟨w7.heap.size+1,0,none⟩) (by simp only;omega) (nS (w7.heap.size+1) (by omega) (by omega) (by omega))⟩,?_⟩
  ·exact(keepsFrom_of _ kW (fun y hy=>by rw[List.mem_singleton.1 hy];exact FS.cells hI.fk.fs)).trans ((keepsFrom_of _ ka (by simp)).trans ((keepsFrom_of _ k3' (ly_cells lo2)).trans (keepsFrom_of _ k4' (fun y hy=>by rw[List.mem_singleton.1 hy];exact row_cells ro3))))
  ·refine⟨Nat.le_trans hsW kall.size,⟨frm4.cod.fs,hI.fk.kp.then kall (fun y hy=>?_)⟩,frm4,hI.rxf.keep kall (nS xf (by omega) (by omega) (by omega)),hI.rxr.keep kall (nS xr (by omega) (by omega) (by omega)),hI.rxe.keep kall (nS xe (by omega) (by omega) (by omega)),hI.rq.keep kall (fun y hy=>by rw[List.mem_singleton.1 hy];exact nS qb hqg (by omega) (by omega)),
    O',oc',(fun i=>if i<pre.length then bk i else b1),(fun i=>if i<pre.length then ek i else e1'),?_,?_,?_,?_⟩
   ·rcases List.mem_cons.1 hy with e|hy
    ·exact .inl (by simp[e])
    ·rcases List.mem_cons.1 hy with e|hy
     ·exact .inr (by omega)
     ·exact .inr (by have:=hO y hy;omega)
   ·rw[List.length_append];exact ro4.congr (fun i hi=>by
     obtain rfl:i=0:=by omega
     rfl)
   ·rw[List.length_append];refine(lo3.keep k4' (fun y hy e=>Ly.row_ne lo3 ro3 (by decide) (by rw[List.mem_singleton.1 e] at hy;exact hy))).congr (fun i hi=>?_);simp only[Nat.mul_one];by_cases hi2:i<pre.length
    ·simp only[if_pos hi2]
    ·simp only[if_neg hi2]
   ·intro y hy;rcases hat with e|e
    ·rw[e] at hy;exact hO y hy
    ·rw[e] at hy;rw[List.mem_singleton.1 hy];simp only;omega
   ·intro i hi;rw[List.length_append] at hi;simp only[List.length_singleton] at hi;by_cases hi2:i<pre.length
    ·simp only[if_pos hi2];obtain⟨h1,h2⟩:=hw i hi2;rw[List.getElem_append_left hi2];refine⟨h1,h2.keepS kall (fun hm=>?_)⟩;rcases List.mem_cons.1 hm with e|hm
     ·omega
     ·rcases List.mem_cons.1 hm with e|hm
      ·exact Ly.row_ne h2 ro (by decide) (by rw[e];exact List.mem_singleton.2 rfl)
      ·exact Ly.type_ne h2 lo (by decide) (List.mem_singleton.2 rfl) hm
    ·simp only[if_neg hi2];obtain rfl:i=pre.length:=by omega
     have e:(pre++[x])[pre.length]'(by simp)=x:=by simp
     rw[e];have rol:=ro.lt;refine⟨by have:=hI.fk.kp.size;omega,((wd1.keepS ka (by simp)).keepS k3' (fun hm=>?_)).keepS k4' (by simp;omega)⟩;have:=Ly.blk_lt lo hm;omega
 case done =>
  rintro Dn xs W hDn rfl hI hK;obtain⟨O,oc,bk,ek,ro,lo,hO,hw⟩:=hI.out;rw[upto_length] at ro lo;conv=>whnf
  refine Ld.row ro (by decide) ?_;conv=>whnf
  refine Sd.rowAt hI.rxr 0 (by omega) (by omega) rfl ?_;intro W1 rxr1 kA;have rxe1:=hI.rxe.keep kA (by simp;omega);conv=>whnf
  refine Sd.rowAt rxe1 0 (by omega) (by omega) rfl ?_;intro W2 rxe2 kB;have rxr2:=rxr1.keep kB (by simp;omega);have nD:NoCells W Dn:=⟨_,hK,rfl⟩;have hDl:=(Array.getElem?_eq_some_iff.1 hK).1;have dxr:=nD.ne hI.rxr;have hD1:W1.heap[Dn]?=some (.deferred (some [])):=(kA.block Dn hDl (by simpa using dxr.symm)).trans hK;have nD1:NoCells W1 Dn:=⟨_,hD1,rfl⟩;have dxe:=nD1.ne rxe1;have hDW:W2.heap[Dn]?=some (.deferred (some [])):=(kB.block Dn (Array.getElem?_eq_some_iff.1 hD1).1 (by simpa using dxe.symm)).trans hD1;have nD2:NoCells W2 Dn:=⟨_,hDW,rfl⟩;conv=>whnf
  refine⟨W2.putObj Dn (.deferred none),⟨Dn,rfl,hDW,rfl⟩,?_⟩;have kD:Keep [Dn] W2 (W2.putObj Dn (.deferred none)):=keep_grown (grownBy_putObj' W2 Dn _);have rxr3:=rxr2.keep kD (by simpa using dxr);have rxe3:=rxe2.keep kD (by simpa using dxe);have hsW:=hI.sz;have fs:=((hI.fk.fs.keep kA (by simp;omega)).keep kB (by simp;omega)).keep kD (by simp;omega);have kp:=((hI.fk.kp.then kA (fun y hy=>.inr (by rw[List.mem_singleton.1 hy];omega))).then kB (fun y hy=>.inr (by rw[List.mem_singleton.1 hy];omega))).then kD (fun y hy=>.inr (by rw[List.mem_singleton.1 hy];omega));have lo3:=((lo.keep kA (fun y hy e=>by have:=hO y hy;rw[List.mem_singleton.1 e] at this;omega)).keep kB (fun y hy e=>by have:=hO y hy;rw[List.mem_singleton.1 e] at this;omega));have lo4:=lo3.keep kD (nD2.nely lo3);have hw4:∀k,k<4->w.heap.size<=bk k/\Wd (W2.putObj Dn (.deferred none)) (bk k) (ek k) (GF.encW (msg58 (layF D B) k)):=fun k hk=>by
   obtain⟨h1,h2⟩:=hw k (by rw[upto_length];exact hk);rw[upto4 k hk] at h2;have a1:=h2.keepS kA (fun e=>Ly.row_ne h2 hI.rxr (by decide) (by rw[<-List.mem_singleton.1 e];exact List.mem_singleton.2 rfl));have a2:=a1.keepS kB (fun e=>Ly.row_ne a1 rxe1 (by decide) (by rw[<-List.mem_singleton.1 e];exact List.mem_singleton.2 rfl));exact⟨h1,Ly.keep a2 kD (nD2.nely a2)⟩
  generalize W2.putObj Dn (.deferred none)=W3 at *;conv=>whnf
  refine Ru.ldc (by decide +kernel) (rxr3.cell 0 (by omega)) ?_;conv=>whnf
  refine Ru.ldc (by decide +kernel) (rxe3.cell 0 (by omega)) ?_;conv=>whnf
  exact⟨rfl,⟨fs,kp⟩,O,oc,bk,ek,rfl,lo4,hw4⟩
end
section
open Go.RowKit
attribute [local irreducible] GF.pw GF.lg GF.mul GF.inv GF.xt
theorem new_b(w:World):(Instr.alloc 37 true (.tuple #[])).run Tryz.prog w=.ok (.pointer (some ⟨w.heap.size,0,none⟩)) (w.alloc (.cells #[.slice none 0 0] 37)):=by kernel_rfl
theorem new_i(w:World):(Instr.alloc 3 true (.tuple #[])).run Tryz.prog w=.ok (.pointer (some ⟨w.heap.size,0,none⟩)) (w.alloc (.cells #[.int .i64 0] 3)):=by kernel_rfl
def Near(V W:Nat->Nat):Prop:=(∀i,V i<256)/\GF.IsCw V/\GF.dist V W<=2
def Far(W:Nat->Nat):Prop:=∀C:Nat->Nat,(∀i,C i<256)->GF.IsCw C->2<GF.dist C W
def DataEnd(w:World)(g:Nat)(p:Nat->Nat)(v:Value)(w':World):Prop :=
 FK w g w'/\((∃(O:Option Addr) (oc:Nat) (V:Nat->Nat->Nat) (m:Int),(∀k,k<3->Near (V k) (chk p k))/\v=.tuple #[.slice O 174 oc,.int .i64 m,errOf 0]/\(∀x,x∈blk O->w.heap.size<=x)/\Ly w' 5 1 O 174 oc (fun j=>.int .u8 (V (j/58) (j%58):Nat))) \/
  (v=.tuple #[.slice none 0 0,.int .i64 0,errOf 5]/\∃k,k<3/\Far (chk p k)))
structure DataI(w:World)(N0 f c g h xf xr xn xe xo xm pb o d:Nat)(p:Nat->Nat)(pre:List (Fin 3))(W:World):Prop where
 sz:N0<=W.heap.size
 fk:FK w g W
 frm:Frm W f c g h
 rxf:Row W xf 248 1 (fun _=>.pointer (some ⟨f,0,none⟩))
 rxr:Row W xr 37 1 (fun _=>.slice none 0 0)
 rxn:Row W xn 3 1 (fun _=>.int .i64 0)
 rxe:Row W xe 33 1 (fun _=>.nilIface)
 rq:RdB W (some ⟨pb,o,none⟩) 192 p
 out:∃(O:Option Addr) (oc:Nat) (V:Nat->Nat->Nat) (m:Int),Row W xo 37 1 (fun _=>.slice O (pre.length*58) oc)/\Ly W 5 1 O (pre.length*58) oc (fun j=>.int .u8 (V (j/58) (j%58):Nat))/\(∀x,x∈blk O->N0<=x)/\Row W xm 3 1 (fun _=>.int .i64 m)/\∀k (hk:k<pre.length),Near (V k) (chk p pre[k].1)
structure DataX(w:World)(N0 g xr xn xe:Nat)(p:Nat->Nat)(pre:List (Fin 3))(W:World):Prop where
 sz:N0<=W.heap.size
 fk:FK w g W
 rxr:Row W xr 37 1 (fun _=>.slice none 0 0)
 rxn:Row W xn 3 1 (fun _=>.int .i64 0)
 rxe:Row W xe 33 1 (fun _=>errOf 5)
 far:∃k,k<3/\Far (chk p k)
theorem CWI.held{P:Program}{T:TT}{n m:Nat}(S:World->Prop)(D:List Nat)(p:Plan){id:Nat}{l:List Oper}{f:Fr}{ds:List Deferred}{w:World}{Q:Exit->Fr->List Deferred->World->Prop}(hT:TT.ok P T=true)(hm:P.follows .mixedOrders=true)(hs:Region.noSelect l.toArray=true)
  (hp:planOk l.toArray D true p l.length (Array.replicate l.length false)=true) (hS:S (w.drewN 1)) (h:evP P T n S D l p f (w.drewN 1) fun f' w'=>Q .normal f' ds w'):CWI Fence.wide m P n (.region id l.toArray true) Q f ds w:=⟨fun a ha=>wpIn_wide.2 (by
 refine wp_region_any hm (wpAny_of_g (S:=S) (D:=D) _ _ _ _ ?_);have e:l.toArray.size=l.length:=by simp
 rw[e];exact evP_sound (ops:=l.toArray) hT hs (fun c a w hq=>hq.1) p _ _ hp h ha (fun _=>hS) fun f' a' w' hk hf=>⟨trivial,f',ds,hf,hk⟩)⟩
theorem upto3:∀k (hk:k<3),((upto 3 (by decide) 3)[k]'(by rw[upto_length];exact hk)).1=k:=by decide
theorem own_nc{W:World}{row:Option Nat}{B x:Nat}(hr:∀r,row=some r->B<=r/\∃o:Obj,W.heap[r]?=some o/\o.isCells=false)(hx:∀o,W.heap[x]?=some o->o.isCells=true):x∉row.toList:=fun hm=>by
 cases row with
 |none=>cases hm
 | some r =>
  obtain rfl:x=r:=by simpa using hm
  obtain⟨_,o,h1,h2⟩:=hr _ rfl;rw[hx o h1] at h2
  cases h2
theorem own_ge{W:World}{row:Option Nat}{B:Nat}(hr:∀r,row=some r->B<=r/\∃o:Obj,W.heap[r]?=some o/\o.isCells=false):∀x,x∈row.toList->B<=x:=fun x hx=>by
 cases row with
 |none=>cases hx
 | some r =>
  obtain rfl:x=r:=by simpa using hx
  exact(hr _ rfl).1
theorem rd_cells{W:World}{b o n:Nat}{F:Nat->Value}(r:Rd W (some ⟨b,o,none⟩) n F)(hn:0<n):∀q,W.heap[b]?=some q->q.isCells=true:=fun q hq=>by
 obtain⟨b2,o2,e,hc⟩:=r hn
 cases e
 obtain⟨q2,h1,h2⟩:=cells_of_cell (hc 0 hn);rw[hq] at h1
 cases h1
 exact h2
theorem data_ok(w:World)(f c g h d:Nat)(A:Option Addr)(p:Nat->Nat)(hp:∀j,p j<256)(r:RdB w A 256 p)(hd:256<=d)(hA:∀a,A=some a->a.block≠g)(H:Frm w f c g h) :
  Spec Tryz.prog 169 #[.pointer (some ⟨f,0,none⟩),.slice A 256 d] w (DataEnd w g p):=by
 obtain⟨pb,o,rfl,hpc⟩:=r (by omega);have hpg:pb≠g:=hA _ rfl;have hpl:pb<w.heap.size:=cell_lt (hpc 0 (by omega));refine spec_of_wpI (T:=tt) 3 tt_ok Tryz.func169 rfl (by decide +kernel) Tryz.ntmps169 (by simp) ?_;conv=>whnf
 refine Ru.new1 (new_frm _ _) ?_;intro xf w1 hxf hs1 rxf k1;conv=>whnf
 refine Ru.new1 (new_b _) ?_;intro xr w2 hxr hs2 rxr k2;conv=>whnf
 refine Ru.new1 (new_i _) ?_;intro xn w3 hxn hs3 rxn k3;conv=>whnf
 refine Ru.new1 (new_err _) ?_;intro xe w4 hxe hs4 rxe k4;conv=>whnf
 repeat ((first|(refine CWI.seq tt_ok fok_wide ?_)|refine Br.f ?_);conv=>whnf)
 refine Ru.new1 (new_b _) ?_;intro xo w5 hxo hs5 rxo k5;conv=>whnf
 refine Ru.new1 (new_i _) ?_;intro xm w6 hxm hs6 rxm k6;conv=>whnf
 refine Sd.rowAt rxm 0 (by omega) (by omega) rfl ?_;intro w6b rxm2 k6b;conv=>whnf
 repeat ((first|(refine CWI.seq tt_ok fok_wide ?_)|(refine Ru.sl_h Tryz.underlying37 byte_sz (h:=192) (by omega) ?_));conv=>whnf)
 refine Ca.of (pieces_ok w6b _ _ _ _) ?_;rintro _ w8 ⟨rfl,hw8⟩;conv=>whnf
 have k06:=((((k1.trans k2).trans k3).trans k4).trans k5).trans k6;have hs6b:=k6b.size;have hgl:=H.cod.fs.lt;have hfl:=H.row.lt;have hcl:=H.cod.row.lt;have hhl:=H.cod.gen.lt;have k0b:Keep [] w w6b:=k06.then k6b (fun x hx=>.inr (by rw[List.mem_singleton.1 hx];omega));have hsz8:w8.heap.size=w6b.heap.size+2:=by rw[hw8];simp
 have rb:Row w8 w6b.heap.size 37 1 (fun _=>.slice (some ⟨pb,o,none⟩) 192 d):=by
  rw[hw8];exact(row1 w6b _ _).keep ((Keep.refl [] _).alloc _) (by simp)
 have rs:Row w8 (w6b.heap.size+1) 3 1 (fun _=>.int .i64 64):=by
  rw[hw8];have:=row1 (w6b.alloc (.cells #[.slice (some ⟨pb,o,none⟩) 192 d] 37)) 3 (.int .i64 64);simpa using this
 have kb8:Keep [] w6b w8:=by
  rw[hw8];exact((Keep.refl [] _).alloc _).alloc _
 clear hw8;have k08:=k0b.trans kb8;have hin:DataI w w8.heap.size f c g h xf xr xn xe xo xm pb o d p [] w8:=by
  have H8:=H.keep0 k08 (by simp) (by simp) (by simp) (by simp);have k5b:Keep [xm] w5 w8:=((k6.mono (by simp)).trans k6b).trans (kb8.mono (by simp));have k4b:Keep [xm] w4 w8:=(k5.mono (by simp)).trans k5b;have k3b:Keep [xm] w3 w8:=(k4.mono (by simp)).trans k4b;have k2b:Keep [xm] w2 w8:=(k3.mono (by simp)).trans k3b;have k1b:Keep [xm] w1 w8:=(k2.mono (by simp)).trans k2b
  exact⟨Nat.le_refl _,⟨H8.cod.fs,k08.mono (by simp)⟩,H8,rxf.keep k1b (by simp;omega),rxr.keep k2b (by simp;omega),rxn.keep k3b (by simp;omega),rxe.keep k4b (by simp;omega),(Rd.mono_len r (by omega)).keep0 k08,none,0,fun _ _=>0,0,rxo.keep k5b (by simp;omega),Ly.nil _ _ _ _,(fun x hx=>by cases hx),(rxm2.keep kb8 (by simp)).congr (fun i hi=>by
   obtain rfl:i=0:=by omega
   rfl),fun i hi=>absurd hi (by simp)⟩
 refine CWI.range (α:=Fin 3) tt_ok (by omega) (gf:=209) (lb := #[.pointer (some ⟨w6b.heap.size+1,0,none⟩),.pointer (some ⟨w6b.heap.size,0,none⟩)]) rfl (enters_of Tryz.func209 (by kernel_rfl) rfl)
  (pieces64_stops Fence.wide 2 trivial rfl (by omega) w6b.heap.size (w6b.heap.size+1) pb o d (by omega) w8 (by omega) (by omega) (rb.cell 0 (by omega)) (rs.cell 0 (by omega)))
  (fun h k=>KpP.trans h k) ?kb (fun x=>rfl) (DataI w w8.heap.size f c g h xf xr xn xe xo xm pb o d p) (DataX w w8.heap.size g xr xn xe p) ?own ?ownx hin
  (fun a x=>((({ a with defers:=[] }:Act).put (some 21) (.int .i64 (x.1:Int))).put (some 22) (.slice (some ⟨pb,o+x.1*64,none⟩) ((x.1+1)*64-x.1*64) (d-x.1*64))).put (some 10) (.slice (some ⟨pb,o+x.1*64,none⟩) ((x.1+1)*64-x.1*64) (d-x.1*64)))
  (fun x=>[(10,.slice (some ⟨pb,o+x.1*64,none⟩) ((x.1+1)*64-x.1*64) (d-x.1*64)),(2,.pointer (some ⟨xf,0,none⟩)),(4,.pointer (some ⟨xr,0,none⟩)),(5,.pointer (some ⟨xn,0,none⟩)),(6,.pointer (some ⟨xe,0,none⟩)),(7,.pointer (some ⟨xo,0,none⟩)),(8,.pointer (some ⟨xm,0,none⟩))])
  ?agr ?assign ?body ?done ?stop
 case kb =>
  intro W l o o' hl _ _ _;have h1:∀i,i<l->(W.putObj l o').cell? ⟨i,0,none⟩=W.cell? ⟨i,0,none⟩:=fun i hi=>World.cell?_of_block (w:=W) (World.putObj_heap_other (by show _≠_;first|exact Nat.ne_of_lt hi|exact Nat.ne_of_gt hi));exact⟨h1 w6b.heap.size (by omega),h1 (w6b.heap.size+1) (by omega)⟩
 case own =>
  intro pre W W' row hI hg hr;have k:=keep_grown hg;have hB:=own_ge hr;obtain⟨O,oc,V,m,ro,lo,hO,rm,hw⟩:=hI.out;have hg':=own_nc hr (FS.cells hI.fk.fs)
  exact⟨Nat.le_trans hI.sz k.size,⟨hI.fk.fs.keep k hg',hI.fk.kp.then k (fun x hx=>.inr (by have:=hB x hx;omega))⟩,hI.frm.keep0 k (own_nc hr (row_cells hI.frm.row)) (own_nc hr (row_cells hI.frm.cod.row)) hg' (own_nc hr (row_cells hI.frm.cod.gen)),hI.rxf.keep k (own_nc hr (row_cells hI.rxf)),hI.rxr.keep k (own_nc hr (row_cells hI.rxr)),hI.rxn.keep k (own_nc hr (row_cells hI.rxn)),hI.rxe.keep k (own_nc hr (row_cells hI.rxe)),hI.rq.keep k (fun a e=>by cases e;exact own_nc hr (rd_cells hI.rq (by omega))),
   O,oc,V,m,ro.keep k (own_nc hr (row_cells ro)),lo.keep k (fun x hx=>own_nc hr (ly_cells lo x hx)),hO,rm.keep k (own_nc hr (row_cells rm)),hw⟩
 case ownx =>
  intro pre W W' row hI hg hr;have k:=keep_grown hg;have hB:=own_ge hr;exact⟨Nat.le_trans hI.sz k.size,⟨hI.fk.fs.keep k (own_nc hr (FS.cells hI.fk.fs)),hI.fk.kp.then k (fun x hx=>.inr (by have:=hB x hx;omega))⟩,hI.rxr.keep k (own_nc hr (row_cells hI.rxr)),hI.rxn.keep k (own_nc hr (row_cells hI.rxn)),hI.rxe.keep k (own_nc hr (row_cells hI.rxe)),hI.far⟩
 case agr =>
  intro a x ha;have h0:Agr 44 _ { a with defers:=[] }:=⟨ha.size,rfl,ha.get⟩;refine((((h0.put 21 (by decide) _).put 22 (by decide) _).put 10 (by decide) _)).forget (sub_get ?_);exact⟨rfl,rfl,rfl,rfl,rfl,rfl,rfl,trivial⟩
 case assign =>
  intro a ha l x W K hK;have hsz:22<a.tmps.size:=by rw[ha.size];decide
  have hfo:Array.foldl (fun(t:Array Value) (x:Tmp×Value)=>match x with|(p,v)=>t.setIfInBounds p v) a.tmps (#[21,22].zip (enc64 pb o d x))=(a.tmps.setIfInBounds 21 (.int .i64 (x.1:Int))).setIfInBounds 22 (.slice (some ⟨pb,o+x.1*64,none⟩) ((x.1+1)*64-x.1*64) (d-x.1*64)):=by
   unfold enc64;simp
  rw[hfo];refine wpIn_region_list ?_;unfold wpListIn;rw[if_pos (by rfl)];refine OpGo.wpIn (fok_round l) (go_of_run (v:=.slice (some ⟨pb,o+x.1*64,none⟩) ((x.1+1)*64-x.1*64) (d-x.1*64)) (w':=W) (by simp) ?_ ?_)
  ·have e:((a.tmps.setIfInBounds 21 (.int .i64 (x.1:Int))).setIfInBounds 22 (.slice (some ⟨pb,o+x.1*64,none⟩) ((x.1+1)*64-x.1*64) (d-x.1*64))).getD 22 undef=.slice (some ⟨pb,o+x.1*64,none⟩) ((x.1+1)*64-x.1*64) (d-x.1*64):=by
    rw[Array.getD_eq_getD_getElem?,Array.getElem?_setIfInBounds_self_of_lt (by simpa using hsz)];rfl
   exact congrArg (fun v=>Result.ok (Next.value v) W) e
  ·exact hK
 case body =>
  intro l pre x W hI hl;obtain⟨O,oc,V,m,ro,lo,hO,rm,hw⟩:=hI.out;have hx3:=x.2;have rx:RdB W (some ⟨pb,o+x.1*64,none⟩) 64 (chk p x.1):=fun _=>⟨pb,o+x.1*64,rfl,fun j hj=>by
   obtain⟨b2,o2,e3,hc⟩:=hI.rq (by omega)
   cases e3
   have:=hc (x.1*64+j) (by omega);rw[<-Nat.add_assoc] at this;exact this⟩
  rw[show(x.1+1)*64-x.1*64=64 by omega];conv=>whnf
  repeat ((first|(refine Ld.row hI.rxf (by decide) ?_)|(refine Ld.row hI.frm.row (by decide) ?_));conv=>whnf)
  refine Ca.of (dec_ok W c g h (d-x.1*64) (some ⟨pb,o+x.1*64,none⟩) (chk p x.1) (fun j=>hp _) rx (by omega) (fun a e=>by cases e;exact hpg) hI.frm.cod) ?_;rintro v W1 ⟨f1,hv⟩;rcases hv with⟨b1,e1,Vn,hb1,hV,hcw,hdst,rfl,wd1⟩|⟨rfl,hbad⟩
  ·conv=>whnf
   repeat ((first|(refine CWI.seq tt_ok (fok_round l) ?_)|refine Br.f ?_|refine Ru.neq_nil0 ?_);conv=>whnf)
   have ro1:=ro.keep f1.kp (by simp;omega);have rm1:=rm.keep f1.kp (by simp;omega);have hOg:∀y,y∈blk O->y∉[g]:=fun y hy e=>by
    have:=hO y hy;rw[List.mem_singleton.1 e] at this;omega
   have lo1:=lo.keep f1.kp hOg;refine Ld.row ro1 (by decide) ?_;obtain⟨i0,hi,hz0,hz1,hz2⟩:=info_parts byte_info;conv=>whnf
   refine Bu.append Tryz.underlying37 hi hz0 hz1 hz2 rfl (by omega) lo1 (B:=some ⟨b1,0,none⟩) (m:=58) (d:=58) (fun j=>.int .u8 (Vn j:Nat)) (by rw[Nat.mul_one];exact Rd.mono_len wd1.rd1 (by omega)) (by omega) (fun e=>by cases e) (fun j hj=>rfl) (by simp only[maxLen];omega) (by omega) ?_;intro O' oc' W2 lo2 kA hat hpre;have ro2:=ro1.keep kA (Ly.row_ne lo1 ro1 (by decide));have rm2:=rm1.keep kA (Ly.row_ne lo1 rm1 (by decide));conv=>whnf
   refine Sd.rowAt ro2 0 (by omega) (by omega) rfl ?_;intro W3 ro3 kB;have rm3:=rm2.keep kB (by simp;omega);conv=>whnf
   refine Ld.row rm3 (by decide) ?_;conv=>whnf
   refine Sd.rowAt rm3 0 (by omega) (by omega) rfl ?_;intro W4 rm4 kC;have ro4:=ro3.keep kC (by simp;omega);conv=>whnf
   have hsW:=hI.sz;have z1:=f1.kp.size;have z2:=kA.size;have z3:=kB.size;have z4:=kC.size;have c0:∀i:Nat,i<1->i=0:=fun i hi=>by omega
   have kall:Keep (g::xo::xm::blk O) W W4:=(((f1.kp.mono (by simp)).trans (kA.mono (by intro x hx;simp[hx]))).trans (kB.mono (by simp))).trans (kC.mono (by simp));have nS:∀y,y≠g->y≠xo->y≠xm->y<w8.heap.size->y∉g::xo::xm::blk O:=fun y h1 h2 h3 h4 hm=>by
    rcases List.mem_cons.1 hm with e|hm
    ·exact h1 e
    ·rcases List.mem_cons.1 hm with e|hm
     ·exact h2 e
     ·rcases List.mem_cons.1 hm with e|hm
      ·exact h3 e
      ·have:=hO y hm;omega
   have nO:∀y,y<w8.heap.size->y∉blk O:=fun y h1 h2=>by have:=hO y h2;omega
   have frm4:Frm W4 f c g h:=((((hI.frm.of f1).keep0 kA (nO f (by omega)) (nO c (by omega)) (nO g (by omega)) (nO h (by omega))).keep0 kB (by simp;omega) (by simp;omega) (by simp;omega) (by simp;omega)).keep0 kC (by simp;omega) (by simp;omega) (by simp;omega) (by simp;omega));refine⟨?_,⟨kall.cell (p:=⟨w6b.heap.size,0,none⟩) (by simp only;omega) (nS w6b.heap.size (by omega) (by omega) (by omega) (by omega)),kall.cell (p:=⟨w6b.heap.size+1,0,none⟩) (by simp only;omega) (nS (w6b.heap.size+1) (by omega) (by omega) (by omega) (by omega))⟩,?_⟩
   ·exact(keepsFrom_of _ f1.kp (fun y hy=>by rw[List.mem_singleton.1 hy];exact FS.cells hI.fk.fs)).trans ((keepsFrom_of _ kA (ly_cells lo1)).trans ((keepsFrom_of _ kB (fun y hy=>by rw[List.mem_singleton.1 hy];exact row_cells ro2)).trans (keepsFrom_of _ kC (fun y hy=>by rw[List.mem_singleton.1 hy];exact row_cells rm3))))
   ·refine⟨by omega,⟨frm4.cod.fs,hI.fk.kp.then kall (fun y hy=>?_)⟩,frm4,hI.rxf.keep kall (nS xf (by omega) (by omega) (by omega) (by omega)),hI.rxr.keep kall (nS xr (by omega) (by omega) (by omega) (by omega)),hI.rxn.keep kall (nS xn (by omega) (by omega) (by omega) (by omega)),hI.rxe.keep kall (nS xe (by omega) (by omega) (by omega) (by omega)),hI.rq.keep kall (fun a e=>by cases e;exact nS pb hpg (by omega) (by omega) (by omega)),
     O',oc',(fun k=>if k=pre.length then Vn else V k),_,?_,?_,?_,rm4.congr (fun i hi=>by rw[c0 i hi];rfl),?_⟩
    ·rcases List.mem_cons.1 hy with e|hy
     ·exact .inl (by simp[e])
     ·rcases List.mem_cons.1 hy with e|hy
      ·exact .inr (by omega)
      ·rcases List.mem_cons.1 hy with e|hy
       ·exact .inr (by omega)
       ·exact .inr (by have:=hO y hy;omega)
    ·rw[List.length_append,show(pre.length+[x].length)*58=pre.length*58+58 by simp;omega];exact ro4.congr (fun i hi=>by rw[c0 i hi];rfl)
    ·rw[List.length_append,show(pre.length+[x].length)*58=pre.length*58+58 by simp;omega];refine((lo2.keep kB (fun y hy e=>Ly.row_ne lo2 ro2 (by decide) (by rw[List.mem_singleton.1 e] at hy;exact hy))).keep kC (fun y hy e=>Ly.row_ne lo2 rm2 (by decide) (by rw[List.mem_singleton.1 e] at hy;exact hy))).congr (fun i hi=>?_);simp only[Nat.mul_one] at hi ⊢;by_cases hi2:i<pre.length*58
     ·rw[if_pos hi2,if_neg (by omega)]
     ·rw[if_neg hi2,if_pos (by omega),show i%58=i-pre.length*58 by omega]
    ·intro y hy;rcases hat with e|e
     ·rw[e] at hy;exact hO y hy
     ·rw[e] at hy;rw[List.mem_singleton.1 hy];simp only;omega
    ·intro k hk;rw[List.length_append] at hk;simp only[List.length_singleton] at hk;by_cases hk2:k=pre.length
     ·subst hk2;have e:(pre++[x])[pre.length]'(by simp)=x:=by simp
      rw[e];show Near (if pre.length=pre.length then Vn else V pre.length) _;rw[if_pos rfl];exact⟨hV,hcw,hdst⟩
     ·show Near (if k=pre.length then Vn else V k) _;rw[if_neg hk2,List.getElem_append_left (by omega)];exact hw k (by omega)
  ·conv=>whnf
   repeat ((first|(refine CWI.seq tt_ok (fok_round l) ?_)|refine Br.t ?_|refine Ru.n1 ?_);conv=>whnf)
   have r1:=hI.rxr.keep f1.kp (by simp;omega);have n1:=hI.rxn.keep f1.kp (by simp;omega);have e1:=hI.rxe.keep f1.kp (by simp;omega);refine Sd.rowAt r1 0 (by omega) (by omega) rfl ?_;intro W2 r2 kA;have n2:=n1.keep kA (by simp;omega);have e2:=e1.keep kA (by simp;omega);conv=>whnf
   refine Sd.rowAt n2 0 (by omega) (by omega) rfl ?_;intro W3 n3 kB;have r3:=r2.keep kB (by simp;omega);have e3:=e2.keep kB (by simp;omega);conv=>whnf
   refine Sd.rowAt e3 0 (by omega) (by omega) rfl ?_;intro W4 e4 kC;have r4:=r3.keep kC (by simp;omega);have n4:=n3.keep kC (by simp;omega);conv=>whnf
   have c0:∀i:Nat,i<1->i=0:=fun i hi=>by omega
   have hsz:=hI.sz;have z1:=f1.kp.size;have z2:=kA.size;have z3:=kB.size;have z4:=kC.size;refine⟨(keepsFrom_of _ f1.kp (fun y hy=>by rw[List.mem_singleton.1 hy];exact FS.cells hI.fk.fs)).trans ((keepsFrom_of _ kA (fun y hy=>by rw[List.mem_singleton.1 hy];exact row_cells r1)).trans ((keepsFrom_of _ kB (fun y hy=>by rw[List.mem_singleton.1 hy];exact row_cells n2)).trans (keepsFrom_of _ kC (fun y hy=>by rw[List.mem_singleton.1 hy];exact row_cells e3)))),by omega,⟨((f1.fs.keep kA (by simp;omega)).keep kB (by simp;omega)).keep kC (by simp;omega),(((hI.fk.kp.trans f1.kp).then kA (fun y hy=>.inr (by rw[List.mem_singleton.1 hy];omega))).then kB (fun y hy=>.inr (by rw[List.mem_singleton.1 hy];omega))).then kC (fun y hy=>.inr (by rw[List.mem_singleton.1 hy];omega))⟩,r4.congr (fun i hi=>by rw[c0 i hi];rfl),n4.congr (fun i hi=>by rw[c0 i hi];rfl),e4.congr (fun i hi=>by rw[c0 i hi];rfl),x.1,hx3,hbad⟩
 case done =>
  rintro Dn xs W hDn rfl hI hK;obtain⟨O,oc,V,m,ro,lo,hO,rm,hw⟩:=hI.out;rw[upto_length] at ro lo;conv=>whnf
  refine CWI.held (fun w'=>Row w' xo 37 1 (fun _=>.slice O (3*58) oc)/\Row w' xm 3 1 (fun _=>.int .i64 m)) [4] (.take 0 (.take 1 (.one 2 (.one 3 (.one 4 .done))))) tt_ok (by kernel_rfl) (by kernel_rfl) (by kernel_rfl) ⟨ro.drewN 1,rm.drewN 1⟩ ?_;have k0:Keep [] W (W.drewN 1):=(Keep.refl _ _).drewN 1;have hK':(W.drewN 1).heap[Dn]?=some (.deferred (some [])):=hK;have fk':FK w g (W.drewN 1):=⟨hI.fk.fs.drewN 1,hI.fk.kp.drewN 1⟩;have ro':=ro.drewN 1;have rm':=rm.drewN 1;have rr':=hI.rxr.drewN 1;have rn':=hI.rxn.drewN 1;have re':=hI.rxe.drewN 1;have lo':=lo.keep0 k0;have hsW:=hI.sz;generalize W.drewN 1=Wa at *;conv=>whnf
  repeat ((first|(refine LdQ.row (fun _ h=>h.1) (by decide) ?_)|(refine LdQ.row (fun _ h=>h.2) (by decide) ?_));conv=>whnf)
  refine Sd.rowAt rr' 0 (by omega) (by omega) rfl ?_;intro W1 r1 kA;have ro1:=ro'.keep kA (by simp;omega);have rm1:=rm'.keep kA (by simp;omega);have n1:=rn'.keep kA (by simp;omega);have e1:=re'.keep kA (by simp;omega);conv=>whnf
  refine⟨⟨ro1,rm1⟩,?_⟩;conv=>whnf
  refine Sd.rowAt n1 0 (by omega) (by omega) rfl ?_;intro W2 n2 kB;have ro2:=ro1.keep kB (by simp;omega);have rm2:=rm1.keep kB (by simp;omega);have r2:=r1.keep kB (by simp;omega);have e2:=e1.keep kB (by simp;omega);conv=>whnf
  refine⟨⟨ro2,rm2⟩,?_⟩;conv=>whnf
  refine Sd.rowAt e2 0 (by omega) (by omega) rfl ?_;intro W3 e3 kC;have r3:=r2.keep kC (by simp;omega);have n3:=n2.keep kC (by simp;omega);conv=>whnf
  have nD0:NoCells Wa Dn:=⟨_,hK',rfl⟩;have d1:=nD0.ne rr';have hK1:W1.heap[Dn]?=some (.deferred (some [])):=(kA.block Dn (Array.getElem?_eq_some_iff.1 hK').1 (by simpa using d1.symm)).trans hK';have nD1:NoCells W1 Dn:=⟨_,hK1,rfl⟩;have d2:=nD1.ne n1;have hK2:W2.heap[Dn]?=some (.deferred (some [])):=(kB.block Dn (Array.getElem?_eq_some_iff.1 hK1).1 (by simpa using d2.symm)).trans hK1;have nD2:NoCells W2 Dn:=⟨_,hK2,rfl⟩;have d3:=nD2.ne e2;have hK3:W3.heap[Dn]?=some (.deferred (some [])):=(kC.block Dn (Array.getElem?_eq_some_iff.1 hK2).1 (by simpa using d3.symm)).trans hK2;have nD3:NoCells W3 Dn:=⟨_,hK3,rfl⟩;have kD:Keep [Dn] W3 (W3.putObj Dn (.deferred none)):=keep_grown (grownBy_putObj' W3 Dn _);refine⟨W3.putObj Dn (.deferred none),⟨Dn,rfl,hK3,rfl⟩,?_⟩;have r4:=r3.keep kD (by simpa using d1);have n4:=n3.keep kD (by simpa using d2);have e4:=e3.keep kD (by simpa using d3);have fs:=(((fk'.fs.keep kA (by simp;omega)).keep kB (by simp;omega)).keep kC (by simp;omega)).keep kD (by simp;omega);have kp:=(((fk'.kp.then kA (fun y hy=>.inr (by rw[List.mem_singleton.1 hy];omega))).then kB (fun y hy=>.inr (by rw[List.mem_singleton.1 hy];omega))).then kC (fun y hy=>.inr (by rw[List.mem_singleton.1 hy];omega))).then kD (fun y hy=>.inr (by rw[List.mem_singleton.1 hy];omega));have hOx:∀z,z<w8.heap.size->∀y,y∈blk O->y∉[z]:=fun z hz y hy e=>by
   have:=hO y hy;rw[List.mem_singleton.1 e] at this;omega
  have lo3:=((lo'.keep kA (hOx _ (by omega))).keep kB (hOx _ (by omega))).keep kC (hOx _ (by omega));have lo4:=lo3.keep kD (nD3.nely lo3);generalize W3.putObj Dn (.deferred none)=W4 at *;conv=>whnf
  refine Ru.ldc (by decide +kernel) (r4.cell 0 (by omega)) ?_;conv=>whnf
  refine Ru.ldc (by decide +kernel) (n4.cell 0 (by omega)) ?_;conv=>whnf
  refine Ru.ldc (by decide +kernel) (e4.cell 0 (by omega)) ?_;conv=>whnf
  exact⟨rfl,⟨fs,kp⟩,.inl ⟨O,oc,V,m,fun k hk=>by
   have:=hw k (by rw[upto_length];exact hk);rw[upto3 k hk] at this;exact this,rfl,fun y hy=>by have:=hO y hy;omega,lo4⟩⟩
 case stop =>
  rintro Dn pre W hDn-hI hK;have nD:NoCells W Dn:=⟨_,hK,rfl⟩;refine⟨W.putObj Dn (.deferred none),⟨Dn,rfl,hK,rfl⟩,?_⟩;have kD:Keep [Dn] W (W.putObj Dn (.deferred none)):=keep_grown (grownBy_putObj' W Dn _);have r3:=hI.rxr.keep kD (by simpa using nD.ne hI.rxr);have n3:=hI.rxn.keep kD (by simpa using nD.ne hI.rxn);have e3:=hI.rxe.keep kD (by simpa using nD.ne hI.rxe);have fs:=hI.fk.fs.keep kD (by simp;omega);have kp:=hI.fk.kp.then kD (fun y hy=>.inr (by rw[List.mem_singleton.1 hy];omega));generalize W.putObj Dn (.deferred none)=W3 at *;conv=>whnf
  refine Ru.ldc (by decide +kernel) (r3.cell 0 (by omega)) ?_;conv=>whnf
  refine Ru.ldc (by decide +kernel) (n3.cell 0 (by omega)) ?_;conv=>whnf
  refine Ru.ldc (by decide +kernel) (e3.cell 0 (by omega)) ?_;conv=>whnf
  exact⟨rfl,⟨fs,kp⟩,.inr ⟨rfl,hI.far⟩⟩
end
section
open Go.RowKit
def byteOf(v:Int)(j:Nat):Int:=v/256^j%256
theorem byteOf_bd(v:Int)(j:Nat):0<=byteOf v j/\byteOf v j<=255:=by unfold byteOf;omega
theorem pow_step(v:Int)(k:Nat):v/256^(k+1)=v/256^k/256:=by
 rw[Int.pow_succ,Int.ediv_ediv_of_nonneg (by exact Int.le_of_lt (Int.pow_pos (by omega)))]
def PutPost(v:Int)(n:Nat)(w:World)(e:Ending)(w':World):Prop :=
 Keep [] w w'/\((v/256^n=0/\e=.returned (.tuple #[.slice (some ⟨w.heap.size,0,none⟩) n n,.nilIface])/\Row w' w.heap.size 5 n (fun j=>.int .u8 (byteOf v j)))
  \/ (v/256^n≠0/\e=.returned (.tuple #[.slice none 0 0,.iface 40 (.int .i64 2)])))
theorem put_any(v:Int)(n:Nat)(w:World)(h0:0<=v)(h1:v<=18446744073709551615)(hn:1<=n)(hn8:n<=8) :
  Calls Tryz.prog 221 #[.int .u64 v,.int .i64 n] w (PutPost v n w):=by
 have hmk:=run_make_row' (P:=Tryz.prog) 37 5 (.int .u8 0) 1 Tryz.underlying37 byte_info rfl .i64 .i64 n (by omega) (by omega)
 go_enter Tryz.func221,Tryz.ntmps221
 go_wp2
 have R:=Row.made w 5 (.int .u8 0) n;have kk:=(Keep.refl [] w).alloc (.cells (madeCells #[.int .u8 0] n) 5);have hp:v=v/256^0:=by simp
 have HP:=Lib.hid hp;clear hp
 go_loopw [0,19] (fun x i wr=>∃k:Nat,k<=n/\i=.int .i64 k/\x=.int .u64 (v/256^k)/\Keep [] w wr/\Row wr w.heap.size 5 n (fun j=>.int .u8 (if j<k then byteOf v j else 0))) (fun _ i _=>n-(intOf i).toNat)
 case atStart=>exact⟨0,by omega,rfl,by rw[<-HP.out],kk,R.congr (fun j hj=>by simp)⟩
 case round =>
  clear R kk HP;obtain⟨k,hk,rfl,rfl,kk,R⟩:=hrel;have hx0:0<=v/256^k:=Int.ediv_nonneg h0 (Int.le_of_lt (Int.pow_pos (by omega)));have hx1:v/256^k<=18446744073709551615:=Int.le_trans (Int.ediv_le_self _ h0) h1;have HS:=Lib.hid (pow_step v k);have HB:Hid (byteOf v k=v/256^k%256):=rfl;by_cases hlt:k<n
  ·have hc:=R.cell k hlt;have hz:=R.free k;generalize v/256^k=x at hx0 hx1 HS HB
   go_wp2
   go_roundw
   case rel=>exact⟨k+1,by omega,by go_num,by rw[HS.out],kk.setCell _ _ (.inr (Nat.le_refl _)),(R.set_int _ _).congr (fun j hj=>by
    by_cases h:j=k
    ·subst h;rw[if_pos rfl,if_pos (by omega),HB.out]
    ·rw[if_neg h];by_cases h2:j<k
     ·rw[if_pos h2,if_pos (by omega)]
     ·rw[if_neg h2,if_neg (by omega)])⟩
   case measure=>simp[intOf]<;>omega
  ·obtain rfl:k=n:=by omega
   by_cases hv:v/256^k=0
   ·have HV:=Lib.hid hv;rw[hv];clear hv
    go_wp2
    go_ret2
    exact⟨kk,.inl ⟨HV.out,rfl,R.congr (fun j hj=>by rw[if_pos hj])⟩⟩
   ·have HV:=Lib.hid hv;have hb:(v/256^k == 0)=false:=beq_eq_false_iff_ne.2 hv;clear hv;generalize v/256^k=x at hx0 hx1 hb
    go_wp2
    go_ret2
    exact⟨kk,.inr ⟨HV.out,rfl⟩⟩
def numOf(f:Nat->Int):Nat->Int
 |0=>0
 |n+1=>f 0+256*numOf (fun j=>f (j+1)) n
theorem numOf_bd(f:Nat->Int)(hf:∀j,0<=f j/\f j<=255)(n:Nat):0<=numOf f n/\numOf f n<256^n:=by
 induction n generalizing f with
 |zero=>simp[numOf]
 | succ n ih =>
  have:=ih (fun j=>f (j+1)) (fun j=>hf (j+1));have:=hf 0;rw[Int.pow_succ];unfold numOf;omega
theorem numOf_succ(f:Nat->Int)(n:Nat):numOf f (n+1)=f 0+256*numOf (fun j=>f (j+1)) n:=rfl
theorem numOf_snoc(f:Nat->Int)(n:Nat):numOf f (n+1)=numOf f n+f n*256^n:=by
 induction n generalizing f with
 |zero=>simp[numOf]
 | succ n ih =>
  have h:=ih (fun j=>f (j+1));rw[numOf_succ f (n+1),numOf_succ f n,h,Int.pow_succ, <-Int.mul_assoc];generalize f (n+1)*256^n=y;omega
theorem or_disj(a b:Nat)(k:Nat)(ha:a<2^k):a ||| (b*2^k)=a+b*2^k:=by
 rw[Nat.or_comm, <-Nat.shiftLeft_eq, <-Nat.shiftLeft_add_eq_or_of_lt ha,Nat.add_comm]
theorem wraps_u64(n:Int)(h₀:0<=n)(h₁:n<2^64):IntKind.u64.wrap n=n:=by
 have:(2:Int)^64=18446744073709551616:=by decide
 simp only[IntKind.wrap,IntKind.bits,IntKind.signed];simp;omega
theorem get_step (x y : Int) (k : Nat) (hk : k <= 7) (hx : 0 <= x) (hx1 : x < 256 ^ k) (hy : 0 <= y) (hy1 : y <= 255) :
    bits .or .u64 x (IntKind.u64.wrap (y * 2 ^ (8 * k))) = x + y * 256 ^ k := by
  have e64 : (2 : Int) ^ 64 = 18446744073709551616 := by decide
  obtain ⟨a, rfl⟩ := Int.eq_ofNat_of_zero_le hx
  obtain ⟨b, rfl⟩ := Int.eq_ofNat_of_zero_le hy
  have hp : (256 : Int) ^ k = 2 ^ (8 * k) := by rw [Int.pow_mul]; rfl
  rw [hp] at hx1 ⊢
  have ha : a < 2 ^ (8 * k) := by exact_mod_cast hx1
  have hle : 2 ^ (8 * k) <= 2 ^ 56 := Nat.pow_le_pow_right (by omega) (by omega)
  have hb : b * 2 ^ (8 * k) < 2 ^ 64 := by
    have h1 : b * 2 ^ (8 * k) <= 255 * 2 ^ (8 * k) := Nat.mul_le_mul_right _ (by omega)
    have : (2 : Nat) ^ 56 = 72057594037927936 := by decide
    have : (2 : Nat) ^ 64 = 18446744073709551616 := by decide
    omega
  have hlt : a < 2 ^ 64 := by
    have : (2 : Nat) ^ 56 = 72057594037927936 := by decide
    have : (2 : Nat) ^ 64 = 18446744073709551616 := by decide
    omega
  have hc : ((b : Int) * 2 ^ (8 * k)) = ((b * 2 ^ (8 * k) : Nat) : Int) := by simp
  rw [hc, wraps_u64 _ (by omega) (by rw [e64]; have : (2 : Nat) ^ 64 = 18446744073709551616 := by decide
                                     omega)]
  rw [(bits_nat .u64 64 (by decide) wraps_u64 a _ hlt hb).2, or_disj a b (8 * k) ha]
  simp
theorem get_ok(A:Option Addr)(n c:Nat)(f:Nat->Int)(w:World)(r:Rd w A n (fun j=>.int .u8 (f j)))(hf:∀j,0<=f j/\f j<=255)(hn:1<=n)(hn8:n<=8) :
  Calls Tryz.prog 192 #[.slice A n c] w fun e w'=>e=.returned (.tuple #[.int .u64 (numOf f n),.nilIface])/\w=w':=by
 obtain⟨b,o,rfl,hc⟩:=r (by omega)
 go_enter Tryz.func192,Tryz.ntmps192
 go_wp2
 go_loop [4,18] (fun x i=>∃k:Nat,k<=n/\i=.int .i64 k/\x=.int .u64 (numOf f k)) (fun _ i=>n-(intOf i).toNat)
 case atStart=>exact⟨0,by omega,rfl,rfl⟩
 case round =>
  obtain⟨k,hk,rfl,rfl⟩:=hrel;by_cases hlt:k<n
  ·have hck:=hc k hlt;obtain⟨f0,f1⟩:=hf k;obtain⟨x0,x1⟩:=numOf_bd f hf k;have HX:=Lib.hid x1;clear x1;have HN:=Lib.hid (numOf_snoc f k);have HS:=Lib.hid (get_step (numOf f k) (f k) k (by omega) x0 HX.out f0 f1);generalize numOf f k=x at x0 HX HN HS;clear hc;generalize f k=y at f0 f1 HN hck HS
   go_wp2
   go_round
   case rel=>exact⟨k+1,by omega,by go_num,by rw[HN.out,HS.out]⟩
   case measure=>simp[intOf]<;>omega
  ·obtain rfl:k=n:=by omega
   go_wp2
   go_ret2
   exact⟨rfl,rfl⟩
theorem wrap_nat{m:Nat}(h:m<=9223372036854775807):IntKind.i64.wrap (m:Int)=(m:Int):=IntWalk.i64_in _ ⟨by omega,by omega⟩
theorem run_append0_ly{P:Program}(w:World)(t tn ty e:TypeId)(i:TypeInfo)(ht:P.underlying t=some (.slice e))(hn:P.underlying tn=some (.int .i64))(hi:P.info? e=some i)(hz:i.zero=some (.int .u8 0))(hsize:i.size=1)(hby:i.bytes=1)
  (A:Option Addr) (n c:Nat) (f:Nat->Value) (hl:Ly w e 1 A n c f) (hn0:0<n) (m:Nat) (hm:0<m) (hbytes:n+m<=140737488355328) :
  ∃A' c' w',(Builtin.append_ #[t,tn] ty #[.slice A n c,.int .i64 (m:Int)]).run P w=.ok (.slice A' (n+m) c') w'/\Ly w' e 1 A' (n+m) c' (fun j=>if j<n then f j else .int .u8 0)/\Keep (blk A) w w'/\(A'=A\/A'=some ⟨w.heap.size,0,none⟩):=by
 have hw:=wrap_nat (m:=m) (by omega);have h0:¬((m:Int)<0):=by omega
 have h48:¬(281474976710656<(m:Int)):=by omega
 have hzc:∀k,Builtin.zeroCells #[.int .u8 0] k=((List.range k).map fun _=>(Value.int .u8 0)).toArray:=fun k=>by
  apply Array.ext
  ·simp[Builtin.zeroCells]
  ·intro j h1 h2;simp[Builtin.zeroCells];have:j%1=0:=Nat.mod_one j;simp[this]
 have hzs:(Value.int .u8 0).cells = #[Value.int .u8 0]:=rfl
 cases A with
 | none =>
  have:=hl.2.2.1 rfl;have:=hl.1;omega
 | some a =>
  obtain⟨q,cur,fr,rfl,hh,hfr,hcs,r⟩:=hl.2.2.2 a rfl;have hmax:(n+m:Int)<=9223372036854775807:=by omega
  by_cases hroom:n+m<=c
  ·have hfr0:fr=(0,0):=by
    rcases hfr with h|⟨h,_⟩
    ·exact h
    ·omega
   subst hfr0
   have hst:=run_storeCells_at (P:=P) q n e ((List.range m).map fun _=>(Value.int .u8 0)) 0 cur w hh (by simp;omega) (fun v hv=>by
    simp at hv;rw[<-hv.2];rfl)
   simp only[Nat.add_zero,List.length_map,List.length_range] at hst;refine⟨some ⟨q,0,none⟩,c,w.setRow q (cur.toList.take n++((List.range m).map fun _=>(Value.int .u8 0))++cur.toList.drop (n+m)).toArray,?_,⟨hroom,hl.2.1,(fun h=>by cases h),fun a ha=>?_⟩,⟨rfl,rfl,rfl,by simp,fun k _ hk=>setRow_other w q k _ (fun e=>hk (by rw[e];exact List.mem_singleton.2 rfl))⟩,.inl rfl⟩
   ·have hadd:(⟨q,0,none⟩:Addr).add n=⟨q,n,none⟩:=by rw[of_add rfl,Nat.zero_add]
    simp[Builtin.append_,run_underlying ht,run_underlying hn,sizeOf,typeInfo,zeroValue,hi,hz,hsize,hby,asInt,asIntOf,hw,h0,h48,hroom,hzs,hzc,hadd,Nat.ne_of_gt hm,hst]
   ·injection ha with ha;subst ha;refine⟨q,_,(0,0),rfl,setRow_heap w q cur _ e _ hh,.inl rfl,?_,fun j hj=>?_⟩
    ·simp;omega
    ·have hcl:n+m<=cur.size:=by omega
     rw[List.getElem?_toArray];simp only;by_cases h:j<n
     ·rw[if_pos h,List.append_assoc,List.getElem?_append_left (by simp;omega),List.getElem?_take,if_pos h,Array.getElem?_toList];exact r j (by omega)
     ·rw[if_neg h,List.append_assoc,List.getElem?_append_right (by simp;omega),List.getElem?_append_left (by simp;omega)];simp only[List.getElem?_map,List.length_take,Array.length_toList,List.length_map,List.length_range];rw[List.getElem?_range (by omega)];rfl
  ·have holds:∀(j:Nat) (u:Value),((List.range n).map f)[j]?=some u->w.drew.cell? ((⟨q,0,none⟩:Addr).add j)=some u:=by
    intro j u hu;have hj:j<n:=by
     have:=(List.getElem?_eq_some_iff.1 hu).1;simpa using this
    rw[of_add rfl];have h2:f j=u:=by
     simp[hj] at hu;exact hu
    have:=r j (by omega);rw[h2] at this;rw[World.cell?_drew];simp only[World.cell?,hh];simpa using this
   have hold:=run_firstCells_some (P:=P) w.drew 1 n ⟨q,0,none⟩ n c ((List.range n).map f) (by simp) holds;have hfit:=growslice_fits (old:=c) (need:=n+m) (bytes:=1) (by omega) (by omega);have h63':¬(9223372036854775807<((n:Int)+(m:Int))):=by omega
   have h48':¬(281474976710656<Builtin.nextslicecap (n+m) c):=by omega
   have hge:=grownCap_ge w (n+m) c e;refine⟨some ⟨w.heap.size,0,none⟩,grownCap w (n+m) c e,w.drew.alloc (.cells (((List.range n).map f).toArray++((List.range m).map fun _=>(Value.int .u8 0)).toArray++Builtin.zeroCells #[.int .u8 0] (grownCap w (n+m) c e-(n+m))) e),?_,⟨hge,grownCap_le_maxLen w (n+m) c e (by simp only[maxLen];omega),(fun h=>by cases h),fun a ha=>?_⟩,(Keep.refl _ w).drew.alloc _,.inr rfl⟩
   ·simp[Builtin.append_,run_underlying ht,run_underlying hn,sizeOf,typeInfo,zeroValue,hi,hz,hsize,hby,asInt,asIntOf,hw,h0,h48,hroom,hzs,hzc,Nat.ne_of_gt hm,h63',h48',Question.forced,hold,newRow,grownCap]
   ·injection ha with ha;subst ha;refine⟨_,_,(0,0),rfl,heap_alloc_new w.drew _,.inl rfl,?_,fun j hj=>?_⟩
    ·simp[size_zeroCells];omega
    ·rw[<-Array.getElem?_toList];simp only[Array.toList_append];by_cases h:j<n
     ·rw[if_pos h,List.append_assoc,List.getElem?_append_left (by simp;omega)];simp[h]
     ·rw[if_neg h,List.append_assoc,List.getElem?_append_right (by simp;omega),List.getElem?_append_left (by simp;omega)];simp only[List.getElem?_map,List.length_take,Array.length_toList,List.length_map,List.length_range];rw[List.getElem?_range (by omega)];rfl
end
section
section
variable{P:Program}{w:World}{d:Nat}{t:TypeId}{xs ys:Array Value}
theorem eqA_of{fs:Array Field}{r:Bool}(hu:P.underlying t=some (.struct fs))(hp:P.stoodInHeld t=false)(h:(Op.eqFields d xs ys fs.toList).run P w=.ok r w):(Op.equalIn (d+1) t (.agg xs) (.agg ys)).run P w=.ok r w:=by
 have hf:P.fieldsOf t=fs:=by unfold Program.fieldsOf;rw[hu]
 rw[run_equalIn_struct w d t xs ys (by rw[hf];exact hu) hp,hf];exact h
theorem eqf_nil:(Op.eqFields d xs ys []).run P w=.ok true w:=rfl
theorem eqf_cons {f : Field} {fs : List Field} {a b : Value} {r s : Bool} (hn : (f.name == "_") = false) (ha : (part f.type xs f.offset).run P w = .ok a w) (hb : (part f.type ys f.offset).run P w = .ok b w) (hr : (Op.equalIn d f.type a b).run P w = .ok r w) (hs : (Op.eqFields d xs ys fs).run P w = .ok s w) :
  (Op.eqFields d xs ys (f::fs)).run P w=.ok (r&&s) w:=by
 have hn' : f.name ≠ "_" := by simpa using hn
 simp only[Op.eqFields,ne_eq,hn',not_false_eq_true,if_true,Sem.run_bind,ha,hb,hr,Result.andThen_ok]
 cases r
 ·simp
 ·simpa using hs
theorem part_cell{e:TypeId}{cs:Array Value}{off:Nat}{v:Value}(hc:cellTy P e=true)(hv:cs[off]?=some v):(part e cs off).run P w=.ok v w:=by
 simp[part,isAgg_cell hc w,hv]
theorem eq_int{k:IntKind}{e:TypeId}{a b:Int}(hu:P.underlying e=some (.int k)):(Op.equalIn (d+1) e (.int k a) (.int k b)).run P w=.ok (decide (a=b)) w:=run_equalIn_int w d e k k a b hu
theorem eq_bool{e:TypeId}{a b:Bool}(hu:P.underlying e=some .bool):(Op.equalIn (d+1) e (.bool a) (.bool b)).run P w=.ok (decide (a=b)) w:=by
 rw[run_equalIn_bool w d e a b hu]
 cases a<;>cases b<;>rfl
end
end
section
open Go.RowKit
structure Tg where
 place:Int
 of:Int
 seq:Int
 copy:Int
 lost:Bool
deriving DecidableEq
def Tg.zero:Tg:=⟨0,0,0,0,false⟩
def Tg.arr(t:Tg):Array Value := #[.int .i64 t.place,.int .i64 t.of,.int .i64 t.seq,.int .i64 t.copy,.bool t.lost]
def Tg.cell(t:Tg)(j:Nat):Value:=t.arr.getD j .nilIface
def Tg.ok(t:Tg):Prop:=0<=t.place/\t.place<=95/\0<=t.of/\t.of<=24/\1<=t.seq/\t.seq<=1099511627775/\0<=t.copy/\t.copy<=255/\(t.of=24->t.lost=false)/\(t.of≠24->t.place%8<=5)
instance (t:Tg):Decidable t.ok:=by unfold Tg.ok;infer_instance
def Tg.wf(t:Tg):Prop:=(-9223372036854775808<=t.place/\t.place<=9223372036854775807)/\(-9223372036854775808<=t.of/\t.of<=9223372036854775807)/\(-9223372036854775808<=t.seq/\t.seq<=9223372036854775807)/\(-9223372036854775808<=t.copy/\t.copy<=9223372036854775807)
def Tg.err(t:Tg):Int:=if t.ok then 0 else 1
theorem Tg.err_no{t:Tg}(h:¬t.ok):Value.iface 40 (.int .i64 1)=errOf t.err:=by unfold Tg.err;rw[if_neg h,errOf_pos (by decide)]
theorem Tg.err_yes{t:Tg}(h:t.ok):Value.nilIface=errOf t.err:=by unfold Tg.err;rw[if_pos h];rfl
theorem tg_range(t:Tg):(Array.range 5).map t.cell=t.arr:=by
 apply Array.ext
 ·simp[Tg.arr]
 ·intro i h1 h2;have h3:i<5:=by simpa using h1
  have:i=0\/i=1\/i=2\/i=3\/i=4:=by omega
  rcases this with rfl|rfl|rfl|rfl|rfl<;>simp[Tg.cell,Tg.arr]
theorem tg_agg(t:Tg):Value.agg t.arr=agg 5 t.cell:=by
 unfold agg;rw[tg_range]
theorem size_tag:(Tryz.prog.info? 67).map (·.size)=some 5:=by kernel_rfl
theorem tg_one(t:Tg)(j:Nat)(hj:j<5):(t.cell j).oneCell'=true:=by
 have:j=0\/j=1\/j=2\/j=3\/j=4:=by omega
 rcases this with rfl|rfl|rfl|rfl|rfl<;>rfl
theorem Row.tg{w:World}{g:Nat}{t:Tg}(h:w.heap[g]?=some (.cells t.arr 67 (0,0))):Row w g 67 5 t.cell:=by
 unfold Row;rw[tg_range];exact h
theorem Ru.alloctg{w:World}{K:Value->World->Prop}(k:∀g w',g=w.heap.size->w'.heap.size=w.heap.size+1->Row w' g 67 5 Tg.zero.cell->Keep [] w w'->K (.pointer (some ⟨g,0,none⟩)) w'):Ru Tryz.prog (Instr.alloc 67 true (.tuple #[])) w K :=
 ⟨_,w.alloc (.cells Tg.zero.arr 67),by kernel_rfl,k _ _ rfl (by simp) (Row.tg (heap_alloc_new _ _)) ((Keep.refl _ _).alloc _)⟩
theorem Ru.boxtg{w:World}{t:Tg}{K:Value->World->Prop}(k:∀g w',g=w.heap.size->w'.heap.size=w.heap.size+1->Row w' g 67 5 t.cell->Keep [] w w'->K (.pointer (some ⟨g,0,none⟩)) w'):Ru Tryz.prog (Instr.box 67 (.agg t.arr)) w K :=
 ⟨_,w.alloc (.cells t.arr 67),rfl,k _ _ rfl (by simp) (Row.tg (heap_alloc_new _ _)) ((Keep.refl _ _).alloc _)⟩
theorem run_tg{w:World}{g o N:Nat}{ty:TypeId}{F:Nat->Value}{t:Tg}(r:Row w g ty N F)(hn:o+5<=N)(hf:∀j,j<5->F (o+j)=t.cell j):(loadVar 67 ⟨g,o,none⟩).run Tryz.prog w=.ok (.agg t.arr) w:=by
 have h:=run_load_agg (P:=Tryz.prog) r hn Tryz.underlying67 rfl size_tag;rw[show agg 5 (fun j=>F (o+j))=.agg t.arr from(agg_congr hf).trans (tg_agg t).symm] at h;exact h
theorem Ru.ldtg{w:World}{g:Nat}{ty:TypeId}{t:Tg}{K:Value->World->Prop}(r:Row w g ty 5 t.cell)(k:K (.agg t.arr) w):Ru Tryz.prog (loadVar 67 ⟨g,0,none⟩) w K:=⟨_,_,run_tg r (by omega) (fun j _=>by rw[Nat.zero_add]),k⟩
theorem Ru.sttg{w:World}{g:Nat}{ty:TypeId}{b:Nat->Value}{t:Tg}{K:Unit->World->Prop}(r:Row w g ty 5 b)(k:∀w',Row w' g ty 5 t.cell->Keep [g] w w'->K () w'):Ru Tryz.prog (storeVar 67 ⟨g,0,none⟩ (.agg t.arr)) w K:=by
 rw[tg_agg];exact Ru.sta r size_tag (by omega) (tg_one t) (fun w' r' k'=>k w' (r'.congr (fun j hj=>by unfold lay;rw[if_pos (by omega)];simp)) k')
theorem check_ok(t:Tg)(w:World):Spec Tryz.prog 197 #[.agg t.arr] w fun v w'=>v=errOf t.err/\Keep [] w w':=by
 have h0:∀ {g:Nat} {w:World},Row w g 67 5 t.cell->w.cell? ⟨g,0,none⟩=some (.int .i64 t.place)/\w.cell? ⟨g,1,none⟩=some (.int .i64 t.of)/\w.cell? ⟨g,2,none⟩=some (.int .i64 t.seq)/\w.cell? ⟨g,3,none⟩=some (.int .i64 t.copy)/\w.cell? ⟨g,4,none⟩=some (.bool t.lost):=fun r=>⟨r.cell 0 (by omega),r.cell 1 (by omega),r.cell 2 (by omega),r.cell 3 (by omega),r.cell 4 (by omega)⟩
 have hno:=t.err_no;have hyes:=t.err_yes;unfold Tg.ok at hno hyes;generalize hx:t.err=x at hno hyes ⊢;refine spec_of_wpE (T:=tt) tt_ok Tryz.func197 rfl (by decide +kernel) Tryz.ntmps197 (by simp) ?_;conv=>whnf
 refine Ru.boxtg ?_;intro g w1 hg hs r k1;obtain⟨c0,c1,c2,c3,c4⟩:=h0 r;clear h0 r;generalize t.place=a0 at *;generalize t.of=a1 at *;generalize t.seq=a2 at *;generalize t.copy=a3 at *
 cases hl:t.lost<;>rw[hl] at c4 hno hyes
 all_goals
  conv=>whnf
  repeat' ((first|refine Br.t ?_|refine Br.f ?_|refine Pk.f ?_|refine Pk.t ?_|refine Dv.r ?_|refine Br.ny ?_|refine Br.nn ?_|refine Ld.of (by assumption) ?_|refine CW.s ?_|refine Br.d (fun _=>?_) (fun _=>?_))<;>conv=>whnf)
  all_goals
   first
    |exact⟨rfl,hno (fun h=>by simp at h;omega),k1⟩
    |exact⟨rfl,hyes (by simp;omega),k1⟩
theorem pow8{n:Nat}(hn:n<=8):(256:Int)^n<=18446744073709551616:=by
 have h:n=0\/n=1\/n=2\/n=3\/n=4\/n=5\/n=6\/n=7\/n=8:=by omega
 rcases h with rfl|rfl|rfl|rfl|rfl|rfl|rfl|rfl|rfl<;>decide
theorem put_sp(v:Int)(n:Nat)(w:World)(h0:0<=v)(h1:v<256^n)(hn:1<=n)(hn8:n<=8) :
  Spec Tryz.prog 221 #[.int .u64 v,.int .i64 n] w fun u w'=>∃g,u=.tuple #[.slice (some ⟨g,0,none⟩) n n,.nilIface]/\g=w.heap.size/\Row w' g 5 n (fun j=>.int .u8 (byteOf v j))/\Keep [] w w':=by
 have h8:=pow8 hn8;refine⟨by kernel_rfl,(put_any v n w h0 (by omega) hn hn8).mono ?_⟩;rintro e w' ⟨k,h⟩;have hz:v/256^n=0:=Int.ediv_eq_zero_of_lt h0 h1;rcases h with⟨_,rfl,r⟩|⟨h,_⟩
 ·exact⟨_,rfl,_,rfl,rfl,r,k⟩
 ·exact absurd hz h
theorem Bu.append0{P:Program}{w:World}{t tn ty e:TypeId}{i:TypeInfo}{cs:Array Bool}{K:Value->World->Prop}(ht:P.underlying t=some (.slice e))(hn:P.underlying tn=some (.int .i64))(hi:P.info? e=some i)(hz:i.zero=some (.int .u8 0))(hsize:i.size=1)(hby:i.bytes=1)
  {A:Option Addr} {n c:Nat} {f:Nat->Value} (hl:Ly w e 1 A n c f) (hn0:0<n) {m:Nat} (hm:0<m) (hbytes:n+m<=140737488355328)
  (k:∀A' c' w',Ly w' e 1 A' (n+m) c' (fun j=>if j<n then f j else .int .u8 0)->Keep (blk A) w w'->(A'=A\/A'=some ⟨w.heap.size,0,none⟩)->K (.slice A' (n+m) c') w') :
  Bu P .append #[t,tn] ty cs #[.slice A n c,.int .i64 (m:Int)] w K:=by
 obtain⟨A',c',w',hr,h2,h3,h5⟩:=run_append0_ly (P:=P) w t tn ty e i ht hn hi hz hsize hby A n c f hl hn0 m hm hbytes;exact⟨_,w',by simp only[builtin,Sem.run_bind,hr];rfl,k A' c' w' h2 h3 h5⟩
def bodyF(t:Tg)(j:Nat):Int:=if j<2 then byteOf t.place j else if j<3 then byteOf t.of (j-2) else if j<8 then byteOf t.seq (j-3) else if j<9 then byteOf t.copy (j-8) else if j<10 then byteOf (if t.lost then 1 else 0) (j-9) else 0
theorem bodyF_bd(t:Tg)(j:Nat):0<=bodyF t j/\bodyF t j<=255:=by
 unfold bodyF;split
 ·exact byteOf_bd _ _
 split
 ·exact byteOf_bd _ _
 split
 ·exact byteOf_bd _ _
 split
 ·exact byteOf_bd _ _
 split
 ·exact byteOf_bd _ _
 omega
def wrc(t:Tg)(x:Value)(j:Nat):Value:=if j<5 then t.cell j else x
structure Wr(w:World)(g:Nat)(t:Tg)(X:Option Addr)(n c:Nat):Prop where
 row:Row w g 286 6 (wrc t (.slice X n c))
 ly:Ly w 5 1 X n c (fun j=>.int .u8 (bodyF t j))
theorem Wr.keep{w w':World}{g:Nat}{t:Tg}{X:Option Addr}{n c:Nat}{S:List Nat}(h:Wr w g t X n c)(k:Keep S w w')(hg:g∉S)(hX:∀x,x∈blk X->x∉S):Wr w' g t X n c:=⟨h.row.keep k hg,h.ly.keep k hX⟩
def WrPost(w:World)(g:Nat)(t:Tg)(X:Option Addr)(m:Nat)(v:Value)(w':World):Prop:=v=.nilIface/\∃Y d,Wr w' g t Y m d/\Keep (g::blk X) w w'/\∀x,x∈blk Y->x∈blk X\/w.heap.size<=x
theorem wput_ok(w:World)(g:Nat)(t:Tg)(X:Option Addr)(n c:Nat)(h:Wr w g t X n c)(v:Int)(k:Nat)(h0:0<=v)(h1:v<256^k)(hk:1<=k)(hk8:k<=8)(hn:n<=50)(hb:∀j,j<k->byteOf v j=bodyF t (n+j)) :
  Spec Tryz.prog 213 #[.pointer (some ⟨g,0,none⟩),.int .i64 v,.int .i64 k] w (WrPost w g t X (n+k)):=by
 obtain⟨i0,hi,hz0,hz1,hz2⟩:=info_parts byte_info;have h8:=pow8 hk8;refine spec_of_wpE (T:=tt) tt_ok Tryz.func213 rfl (by decide +kernel) Tryz.ntmps213 (by simp) ?_;conv=>whnf
 repeat ((first|refine Ar.lc ?_);conv=>whnf)
 refine Ca.of (put_sp v k w h0 h1 hk hk8) ?_;rintro _ w1 ⟨p,rfl,hp,rp,k1⟩;have h1:=h.keep k1 (by simp) (by simp);have hgX:g∉blk X:=h1.ly.row_ne h1.row (by decide);conv=>whnf
 repeat ((first|(refine Ld.rowAt h1.row 5 (by omega) (by omega) ?_));conv=>whnf)
 show Bu _ _ _ _ _ #[.slice X n c,_] _ _;refine Bu.append Tryz.underlying37 hi hz0 hz1 hz2 rfl (by omega) h1.ly _ (Rd.of_row rp (n:=k*1) (by omega)) (by omega) (by simp) (fun j hj=>rfl) (by simp only[maxLen];omega) (by omega) ?_;intro Y d w2 hy k2 hat hpre;have r2:=h1.row.keep k2 hgX;have hY:g∉blk Y:=hy.row_ne r2 (by decide);conv=>whnf
 refine Sd.rowAt r2 5 (by omega) (by omega) rfl ?_;intro w3 r3 k3;have hy3:=hy.keep k3 (by intro x hx hm;rw[List.mem_singleton.1 hm] at hx;exact hY hx);conv=>whnf
 refine⟨rfl,rfl,Y,d,⟨r3.congr (fun j hj=>?_),hy3.congr (fun j hj=>?_)⟩,?_,?_⟩
 ·unfold put wrc;by_cases h5:j=5
  ·subst h5;rfl
  ·rw[if_neg h5,if_pos (by omega),if_pos (by omega)]
 ·simp only[Nat.mul_one];by_cases hj2:j<n
  ·rw[if_pos hj2]
  ·rw[if_neg hj2,hb (j-n) (by omega),show n+(j-n)=j from by omega]
 ·exact((k1.mono (by simp)).trans (k2.mono (fun x hx=>List.mem_cons_of_mem _ hx))).trans (k3.mono (fun x hx=>by rw[List.mem_singleton.1 hx];exact List.mem_cons_self ..))
 ·intro x hx;rcases hat with e|e
  ·rw[e] at hx;exact .inl hx
  ·rw[e] at hx;rw[List.mem_singleton.1 hx];exact .inr k1.size
def preN(i:Nat):Nat:=if i=0 then 0 else if i=1 then 2 else if i=2 then 3 else if i=3 then 8 else if i=4 then 9 else 10
section
variable(w:World)(g:Nat)(t:Tg)(X:Option Addr)(c:Nat)
theorem byte0{v:Int}(h0:0<=v)(h1:v<=255):byteOf v 0=v:=by unfold byteOf;simp;omega
theorem place_ok(h:Wr w g t X 0 c)(ht:t.ok):Spec Tryz.prog 198 #[.pointer (some ⟨g,0,none⟩)] w (WrPost w g t X 2):=by
 unfold Tg.ok at ht;refine spec_of_wpE (T:=tt) tt_ok Tryz.func198 rfl (by decide +kernel) Tryz.ntmps198 (by simp) ?_;conv=>whnf
 repeat ((first|(refine Ld.rowAt h.row 0 (by omega) (by omega) ?_));conv=>whnf)
 refine Ca.of (wput_ok w g t X 0 c h t.place 2 (by omega) (by omega) (by omega) (by omega) (by omega) (fun j hj=>by unfold bodyF;rw[if_pos (by omega),Nat.zero_add])) ?_;intro v w1 hp;conv=>whnf
 exact⟨rfl,hp⟩
theorem of_ok(h:Wr w g t X 2 c)(ht:t.ok):Spec Tryz.prog 199 #[.pointer (some ⟨g,0,none⟩)] w (WrPost w g t X 3):=by
 unfold Tg.ok at ht;refine spec_of_wpE (T:=tt) tt_ok Tryz.func199 rfl (by decide +kernel) Tryz.ntmps199 (by simp) ?_;conv=>whnf
 repeat ((first|(refine Ld.rowAt h.row 1 (by omega) (by omega) ?_));conv=>whnf)
 refine Ca.of (wput_ok w g t X 2 c h t.of 1 (by omega) (by omega) (by omega) (by omega) (by omega) (fun j hj=>by unfold bodyF;rw[if_neg (by omega),if_pos (by omega)];congr 1;omega)) ?_;intro v w1 hp;conv=>whnf
 exact⟨rfl,hp⟩
theorem seq_ok(h:Wr w g t X 3 c)(ht:t.ok):Spec Tryz.prog 200 #[.pointer (some ⟨g,0,none⟩)] w (WrPost w g t X 8):=by
 unfold Tg.ok at ht;refine spec_of_wpE (T:=tt) tt_ok Tryz.func200 rfl (by decide +kernel) Tryz.ntmps200 (by simp) ?_;conv=>whnf
 repeat ((first|(refine Ld.rowAt h.row 2 (by omega) (by omega) ?_));conv=>whnf)
 refine Ca.of (wput_ok w g t X 3 c h t.seq 5 (by omega) (by omega) (by omega) (by omega) (by omega) (fun j hj=>by unfold bodyF;rw[if_neg (by omega),if_neg (by omega),if_pos (by omega)];congr 1;omega)) ?_;intro v w1 hp;conv=>whnf
 exact⟨rfl,hp⟩
theorem copies_ok(h:Wr w g t X 8 c)(ht:t.ok):Spec Tryz.prog 201 #[.pointer (some ⟨g,0,none⟩)] w (WrPost w g t X 9):=by
 unfold Tg.ok at ht;refine spec_of_wpE (T:=tt) tt_ok Tryz.func201 rfl (by decide +kernel) Tryz.ntmps201 (by simp) ?_;conv=>whnf
 repeat ((first|(refine Ld.rowAt h.row 3 (by omega) (by omega) ?_));conv=>whnf)
 refine Ca.of (wput_ok w g t X 8 c h t.copy 1 (by omega) (by omega) (by omega) (by omega) (by omega) (fun j hj=>by unfold bodyF;rw[if_neg (by omega),if_neg (by omega),if_neg (by omega),if_pos (by omega)];congr 1;omega)) ?_;intro v w1 hp;conv=>whnf
 exact⟨rfl,hp⟩
theorem lost_ok(h:Wr w g t X 9 c):Spec Tryz.prog 202 #[.pointer (some ⟨g,0,none⟩)] w (WrPost w g t X 10):=by
 have hb:∀j,j<1->byteOf (if t.lost then 1 else 0) j=bodyF t (9+j):=fun j hj=>by
  obtain rfl:j=0:=by omega
  rfl
 have hc:w.cell? ⟨g,4,none⟩=some (.bool t.lost):=h.row.cell 4 (by omega);refine spec_of_wpE (T:=tt) tt_ok Tryz.func202 rfl (by decide +kernel) Tryz.ntmps202 (by simp) ?_
 cases hl:t.lost<;>rw[hl] at hb hc
 ·conv=>whnf
  repeat ((first|(refine Ld.at (by omega) hc ?_)|refine Br.f ?_|refine CW.s ?_);conv=>whnf)
  refine Ca.of (wput_ok w g t X 9 c h 0 1 (by omega) (by omega) (by omega) (by omega) (by omega) hb) ?_;intro v w1 hp;conv=>whnf
  exact⟨rfl,hp⟩
 ·conv=>whnf
  repeat ((first|(refine Ld.at (by omega) hc ?_)|refine Br.t ?_|refine CW.s ?_);conv=>whnf)
  refine Ca.of (wput_ok w g t X 9 c h 1 1 (by omega) (by omega) (by omega) (by omega) (by omega) hb) ?_;intro v w1 hp;conv=>whnf
  exact⟨rfl,hp⟩
end
def fnF(g:Nat)(j:Nat):Value:=(#[.func (.func 198) #[.pointer (some ⟨g,0,none⟩)] #[],.func (.func 199) #[.pointer (some ⟨g,0,none⟩)] #[],.func (.func 200) #[.pointer (some ⟨g,0,none⟩)] #[],.func (.func 201) #[.pointer (some ⟨g,0,none⟩)] #[],.func (.func 202) #[.pointer (some ⟨g,0,none⟩)] #[]]:Array Value).getD j .nilIface
theorem build_fns(g:Nat)(w:World):(Instr.buildSlice 287 5 #[(0,fnF g 0),(1,fnF g 1),(2,fnF g 2),(3,fnF g 3),(4,fnF g 4)]).run Tryz.prog w=.ok (.slice (some ⟨w.heap.size,0,none⟩) 5 5) (w.alloc (.cells ((Array.range 5).map (fnF g)) 57)):=by kernel_rfl
theorem build_wr(t:Tg)(w:World):(Instr.build 286 #[(0,.agg t.arr)]).run Tryz.prog w=.ok (.agg #[.int .i64 t.place,.int .i64 t.of,.int .i64 t.seq,.int .i64 t.copy,.bool t.lost,.slice none 0 0]) w:=by kernel_rfl
theorem wr_range(t:Tg):(Array.range 6).map (wrc t (.slice none 0 0)) = #[.int .i64 t.place,.int .i64 t.of,.int .i64 t.seq,.int .i64 t.copy,.bool t.lost,.slice none 0 0]:=by
 apply Array.ext
 ·simp
 ·intro i h1 h2;have h3:i<6:=by simpa using h1
  have:i=0\/i=1\/i=2\/i=3\/i=4\/i=5:=by omega
  rcases this with rfl|rfl|rfl|rfl|rfl|rfl<;>simp[Tg.cell,Tg.arr,wrc]
structure EncIn(w:World)(g gs:Nat)(t:Tg)(i:Nat)(X:Option Addr)(c:Nat)(w':World):Prop where
 wr:Wr w' g t X (preN i) c
 fns:Row w' gs 57 5 (fnF g)
 new:w.heap.size<=g/\∀x,x∈blk X->w.heap.size<=x
 keep:Keep [] w w'
theorem EncIn.step{w:World}{g gs:Nat}{t:Tg}{i:Nat}{X:Option Addr}{c:Nat}{wr w1:World}{v:Value}(I:EncIn w g gs t i X c wr)(h:WrPost wr g t X (preN (i+1)) v w1):v=.nilIface/\∃Y d,EncIn w g gs t (i+1) Y d w1:=by
 obtain⟨rfl,Y,d,h1,k,hn⟩:=h;have hg:gs∉blk X:=I.wr.ly.row_ne I.fns (by decide);have hg2:gs≠g:=I.fns.ne_ I.wr.row (by decide);refine⟨rfl,Y,d,h1,I.fns.keep k (by simp[hg,hg2]),⟨I.new.1,fun x hx=>?_⟩,I.keep.then k (fun x hx=>?_)⟩
 ·rcases hn x hx with h|h
  ·exact I.new.2 x h
  ·have:=I.keep.size;omega
 ·rcases List.mem_cons.1 hx with rfl|hx
  ·exact .inr I.new.1
  ·exact .inr (I.new.2 x hx)
def EncPost(t:Tg)(w:World)(v:Value)(w':World):Prop:=Keep [] w w'/\((t.ok/\∃Y d,v=.tuple #[.slice Y 50 d,.nilIface]/\Ly w' 5 1 Y 50 d (fun j=>.int .u8 (bodyF t j))/\∀x,x∈blk Y->w.heap.size<=x)\/(¬t.ok/\v=.tuple #[.slice none 0 0,errOf 1]))
theorem encode_ok(t:Tg)(w:World):Spec Tryz.prog 185 #[.agg t.arr] w (EncPost t w):=by
 obtain⟨i0,hi,hz0,hz1,hz2⟩:=info_parts byte_info;refine spec_of_wpE (T:=tt) tt_ok Tryz.func185 rfl (by decide +kernel) Tryz.ntmps185 (by simp) ?_;conv=>whnf
 refine Ru.boxtg ?_;intro g1 w1 hg1 hs1 r1 k1;conv=>whnf
 repeat ((first|refine CW.s ?_);conv=>whnf)
 refine Ru.ldtg r1 ?_;conv=>whnf
 refine Ca.of (check_ok t w1) ?_;rintro _ w2 ⟨rfl,k2⟩;have r2:=r1.keep k2 (by simp);have k12:=k1.trans k2;by_cases ht:t.ok
 case neg =>
  have he:t.err=1:=by unfold Tg.err;rw[if_neg ht]
  rw[he];conv=>whnf
  repeat ((first|refine Br.t ?_|refine Ru.n1 ?_);conv=>whnf)
  exact⟨rfl,k12,.inr ⟨ht,rfl⟩⟩
 have he:t.err=0:=by unfold Tg.err;rw[if_pos ht]
 rw[he];conv=>whnf
 repeat ((first|refine Br.f ?_|refine Ru.neq_nil0 ?_);conv=>whnf)
 refine Ru.ldtg r2 ?_;conv=>whnf
 refine Ru.of (build_wr t w2) ?_;rw[<-wr_range t];conv=>whnf
 refine Ru.boxa (n:=6) (s:=wrc t (.slice none 0 0)) ?_;intro g w3 hg hs3 r3 k3;conv=>whnf
 repeat ((first|refine CW.s ?_);conv=>whnf)
 refine Ru.of (build_fns g w3) ?_;have r4:Row (w3.alloc (.cells ((Array.range 5).map (fnF g)) 57)) w3.heap.size 57 5 (fnF g):=Row.new _ _ _ _;have k4:Keep [] w3 (w3.alloc (.cells ((Array.range 5).map (fnF g)) 57)):=(Keep.refl _ _).alloc _;have r34:=r3.keep k4 (by simp);generalize w3.alloc (.cells ((Array.range 5).map (fnF g)) 57)=w4 at *;generalize w3.heap.size=gs at *;have I0:EncIn w g gs t 0 none 0 w4:=⟨⟨r34,Ly.nil _ _ _ _⟩,r4,⟨by rw[hg];exact k12.size,fun x hx=>by cases hx⟩,(k12.trans k3).trans k4⟩;conv=>whnf
 refine CW.loop (ι:=Nat×Option Addr×Nat) (fun i wr=>i.1<=5/\EncIn w g gs t i.1 i.2.1 i.2.2 wr) (fun i=>[(5,.pointer (some ⟨g,0,none⟩)),(27,.slice (some ⟨gs,0,none⟩) 5 5),(28,.int .i64 5),(29,.int .i64 i.1)]) (fun i=>5-i.1) (0,none,0) tt_ok ⟨by simp,I0⟩ ⟨rfl,rfl,rfl,rfl,trivial⟩ ?_;rintro⟨i,X,c⟩ wr ⟨hi5,I⟩;simp only at hi5 I;have:i=0\/i=1\/i=2\/i=3\/i=4\/i=5:=by omega
 have ff:∀j,j<5->wr.cell? ⟨gs,j,none⟩=some (fnF g j):=fun j hj=>I.fns.cell j hj;rcases this with rfl|rfl|rfl|rfl|rfl|rfl
 ·have f0:=ff 0 (by omega);conv=>whnf
  repeat ((first|(refine Ld.at (by omega) f0 ?_)|refine Br.t ?_|refine Ix.n ?_|refine CW.s ?_);conv=>whnf)
  refine Ca.of (place_ok wr g t X c I.wr ht) ?_;intro v w5 hp;obtain⟨rfl,Y,d,I⟩:=I.step hp;conv=>whnf
  repeat ((first|refine Br.f ?_|refine Ar.la ?_|refine Ru.neq_nil0 ?_);conv=>whnf)
  exact⟨(1,Y,d),⟨by simp,I⟩,⟨rfl,rfl,rfl,rfl,trivial⟩,by simp only;omega⟩
 ·have f0:=ff 1 (by omega);conv=>whnf
  repeat ((first|(refine Ld.at (by omega) f0 ?_)|refine Br.t ?_|refine Ix.n ?_|refine CW.s ?_);conv=>whnf)
  refine Ca.of (of_ok wr g t X c I.wr ht) ?_;intro v w5 hp;obtain⟨rfl,Y,d,I⟩:=I.step hp;conv=>whnf
  repeat ((first|refine Br.f ?_|refine Ar.la ?_|refine Ru.neq_nil0 ?_);conv=>whnf)
  exact⟨(2,Y,d),⟨by simp,I⟩,⟨rfl,rfl,rfl,rfl,trivial⟩,by simp only;omega⟩
 ·have f0:=ff 2 (by omega);conv=>whnf
  repeat ((first|(refine Ld.at (by omega) f0 ?_)|refine Br.t ?_|refine Ix.n ?_|refine CW.s ?_);conv=>whnf)
  refine Ca.of (seq_ok wr g t X c I.wr ht) ?_;intro v w5 hp;obtain⟨rfl,Y,d,I⟩:=I.step hp;conv=>whnf
  repeat ((first|refine Br.f ?_|refine Ar.la ?_|refine Ru.neq_nil0 ?_);conv=>whnf)
  exact⟨(3,Y,d),⟨by simp,I⟩,⟨rfl,rfl,rfl,rfl,trivial⟩,by simp only;omega⟩
 ·have f0:=ff 3 (by omega);conv=>whnf
  repeat ((first|(refine Ld.at (by omega) f0 ?_)|refine Br.t ?_|refine Ix.n ?_|refine CW.s ?_);conv=>whnf)
  refine Ca.of (copies_ok wr g t X c I.wr ht) ?_;intro v w5 hp;obtain⟨rfl,Y,d,I⟩:=I.step hp;conv=>whnf
  repeat ((first|refine Br.f ?_|refine Ar.la ?_|refine Ru.neq_nil0 ?_);conv=>whnf)
  exact⟨(4,Y,d),⟨by simp,I⟩,⟨rfl,rfl,rfl,rfl,trivial⟩,by simp only;omega⟩
 ·have f0:=ff 4 (by omega);conv=>whnf
  repeat ((first|(refine Ld.at (by omega) f0 ?_)|refine Br.t ?_|refine Ix.n ?_|refine CW.s ?_);conv=>whnf)
  refine Ca.of (lost_ok wr g t X c I.wr) ?_;intro v w5 hp;obtain⟨rfl,Y,d,I⟩:=I.step hp;conv=>whnf
  repeat ((first|refine Br.f ?_|refine Ar.la ?_|refine Ru.neq_nil0 ?_);conv=>whnf)
  exact⟨(5,Y,d),⟨by simp,I⟩,⟨rfl,rfl,rfl,rfl,trivial⟩,by simp only;omega⟩
 ·clear ff;have c5:wr.cell? ⟨g,5,none⟩=some (.slice X 10 c):=I.wr.row.cell 5 (by omega);conv=>whnf
  repeat ((first|refine Br.f ?_|refine CW.s ?_);conv=>whnf)
  refine CW.held (fun w'=>w'.cell? ⟨g,5,none⟩=some (.slice X 10 c)) [] (.take 0 (.take 1 (.take 2 (.take 3 (.take 4 (.take 5 (.take 6 (.take 7 (.take 8 (.take 9 (.one 10 (.take 11 (.take 12 (.done)))))))))))))) tt_ok (by kernel_rfl) (by kernel_rfl) (by kernel_rfl) ?_ ?_
  ·exact c5
  conv=>whnf
  repeat ((first|(refine LdQ.at (by omega) (fun _ h=>h) ?_)|refine Ar.la ?_);conv=>whnf)
  have hgX:g∉blk X:=I.wr.ly.row_ne I.wr.row (by decide);refine Bu.append0 Tryz.underlying37 Tryz.underlying3 hi hz0 hz1 hz2 (I.wr.ly.keep0 ((Keep.refl [] wr).drewN 1)) (by decide) (m:=40) (by omega) (by decide) ?_;intro Y d w5 hy k5 hat;conv=>whnf
  have k5':Keep (blk X) wr w5:=((Keep.refl _ wr).drewN 1).trans k5;refine⟨(k5'.cell (p:=⟨g,5,none⟩) I.wr.row.lt hgX).trans c5,?_⟩;conv=>whnf
  refine⟨rfl,I.keep.then k5' (fun x hx=>.inr (I.new.2 x hx)),.inl ⟨ht,Y,d,rfl,hy.congr (fun j hj=>?_),fun x hx=>?_⟩⟩
  ·by_cases h:j<preN 5
   ·rw[if_pos h]
   ·rw[if_neg h];have h:¬j<10:=h;unfold bodyF;rw[if_neg (by omega),if_neg (by omega),if_neg (by omega),if_neg (by omega),if_neg (by omega)]
  ·rcases hat with e|e
   ·rw[e] at hx;exact I.new.2 x hx
   ·rw[e] at hx;rw[List.mem_singleton.1 hx];exact I.keep.size
end
section
open Go.RowKit
def decT(f:Nat->Int):Tg:=⟨numOf f 2,f 2,numOf (fun j=>f (3+j)) 5,f 8,decide (f 9=1)⟩
def decOk(f:Nat->Int):Prop:=(decT f).ok/\∀j,j<50->bodyF (decT f) j=f j
open Classical in
noncomputable def decV(n:Nat)(f:Nat->Int):Tg×Int:=if n=50 then (if decOk f then (decT f,0) else (Tg.zero,3)) else (Tg.zero,1)
theorem decV_no{n:Nat}{f:Nat->Int}(h:n≠50):decV n f=(Tg.zero,1):=if_neg h
theorem decV_bad{f:Nat->Int}(h:¬decOk f):decV 50 f=(Tg.zero,3):=by unfold decV;rw[if_pos rfl,if_neg h]
theorem decV_ok{f:Nat->Int}(h:decOk f):decV 50 f=(decT f,0):=by unfold decV;rw[if_pos rfl,if_pos h]
theorem build_tg(a b c d:Int)(l:Bool)(w:World):(Instr.build 67 #[(0,.int .i64 a),(1,.int .i64 b),(2,.int .i64 c),(3,.int .i64 d),(4,.bool l)]).run Tryz.prog w=.ok (.agg (Tg.mk a b c d l).arr) w:=by kernel_rfl
theorem build_tg0(w:World):(Instr.build 67 #[]).run Tryz.prog w=.ok (.agg Tg.zero.arr) w:=by kernel_rfl
theorem byte_is:szIs Tryz.prog 5 1=true:=by kernel_rfl
theorem get_sp(A:Option Addr)(n c:Nat)(f:Nat->Int)(w:World)(r:Rd w A n (fun j=>.int .u8 (f j)))(hf:∀j,0<=f j/\f j<=255)(hn:1<=n)(hn8:n<=8) :
  Spec Tryz.prog 192 #[.slice A n c] w fun v w'=>v=.tuple #[.int .u64 (numOf f n),.nilIface]/\w=w':=Spec.of_calls (by kernel_rfl) (get_ok A n c f w r hf hn hn8)
theorem Rd.part{w:World}{b o n m k:Nat}{f:Nat->Value}(r:Rd w (some ⟨b,o,none⟩) n f)(h:k+m<=n):Rd w (some ⟨b,o+k,none⟩) m (fun j=>f (k+j)):=fun hm=>by
 obtain⟨b',o',e,hc⟩:=r (by omega);injection e with e;injection e with e1 e2 _;subst e1;subst e2;exact⟨_,_,rfl,fun j hj=>by rw[Nat.add_assoc];exact hc (k+j) (by omega)⟩
theorem decode_ok(A:Option Addr)(n c:Nat)(f:Nat->Int)(w:World)(r:Rd w A n (fun j=>.int .u8 (f j)))(hf:∀j,0<=f j/\f j<=255)(hn:n<=c) :
  Spec Tryz.prog 168 #[.slice A n c] w fun v w'=>v=.tuple #[.agg (decV n f).1.arr,errOf (decV n f).2]/\Keep [] w w':=by
 refine spec_of_wpE (T:=tt) tt_ok Tryz.func168 rfl (by decide +kernel) Tryz.ntmps168 (by simp) ?_;conv=>whnf
 refine Ru.alloctg ?_;intro g w1 hg hs1 r1 k1;by_cases h50:n=50
 case neg =>
  rw[decV_no h50];conv=>whnf
  repeat ((first|refine Br.nn ?_|refine CW.s ?_);conv=>whnf)
  refine Ru.of (build_tg0 _) ?_;conv=>whnf
  refine Ru.sttg (t:=Tg.zero) r1 ?_;intro w2 r2 k2;conv=>whnf
  refine Ru.ldtg r2 ?_;exact⟨rfl,rfl,k1.then k2 (fun x hx=>.inr (by rw[List.mem_singleton.1 hx,hg];exact Nat.le_refl _))⟩
 subst h50;obtain⟨b,o,rfl,hc⟩:=r (by omega);have R1:=r.keep0 k1;have n2:numOf f 2<65536:=(numOf_bd f hf 2).2;have n5:numOf (fun j=>f (3+j)) 5<1099511627776:=(numOf_bd (fun j=>f (3+j)) (fun j=>hf _) 5).2;have m2:=(numOf_bd f hf 2).1;have m5:=(numOf_bd (fun j=>f (3+j)) (fun j=>hf _) 5).1;conv=>whnf
 repeat ((first|refine Br.f ?_|refine CW.s ?_);conv=>whnf)
 refine Ru.sl_h Tryz.underlying37 byte_is (h:=2) (by omega) ?_;conv=>whnf
 refine Ca.of (get_sp _ 2 c f w1 (R1.mono_len (by omega)) hf (by omega) (by omega)) ?_;rintro _ _ ⟨rfl,rfl⟩;conv=>whnf
 repeat ((first|refine Br.f ?_|refine Ru.neq_nil0 ?_|refine CW.s ?_);conv=>whnf)
 refine Ru.sl_lh Tryz.underlying37 byte_is (l:=3) (h:=8) (by omega) (by omega) (by omega) ?_;conv=>whnf
 refine Ca.of (get_sp _ 5 (c-3) (fun j=>f (3+j)) w1 (R1.part (k:=3) (m:=5) (by omega)) (fun j=>hf _) (by omega) (by omega)) ?_;rintro _ _ ⟨rfl,rfl⟩;conv=>whnf
 repeat ((first|refine Br.f ?_|refine Ru.neq_nil0 ?_|refine CW.s ?_);conv=>whnf)
 have hc1:∀j,j<50->w1.cell? ⟨b,o+j,none⟩=some (.int .u8 (f j)):=fun j hj=>(k1.cell (p:=⟨b,o+j,none⟩) (cell_lt (hc j hj)) (by simp)).trans (hc j hj);refine CW.held (fun w'=>∀j,j<50->w'.cell? ⟨b,o+j,none⟩=some (.int .u8 (f j))) [18] (.take 0 (.take 1 (.take 2 (.take 3 (.take 4 (.take 5 (.take 6 (.take 7 (.take 8 (.take 9 (.take 10 (.take 11 (.take 12 (.take 13 (.take 14 (.take 15 (.take 16 (.one 17 (.one 18 (.done)))))))))))))))))))) tt_ok (by kernel_rfl) (by kernel_rfl) (by kernel_rfl) ?_ ?_
 ·exact hc1
 have f2:=hf 2;have f8:=hf 8;have f9:=hf 9;conv=>whnf
 repeat ((first|(refine LdQ.at rfl (fun _ h=>h _ (by omega)) ?_)|(refine Ix.of 2 rfl (by omega) ?_)|(refine Ix.of 8 rfl (by omega) ?_)|(refine Ix.of 9 rfl (by omega) ?_)|refine Ar.la ?_);conv=>whnf)
 refine RuQ.of (fun _ _=>build_tg _ _ _ _ _ _) ?_;have ht:Tg.mk (numOf f 2) (f 2) (numOf (fun j=>f (3+j)) 5) (f 8) (decide (f 9=1))=decT f:=rfl;rw[ht];clear ht;have hbad:¬((decT f).ok/\∀j,j<50->bodyF (decT f) j=f j)->decV 50 f=(Tg.zero,3):=decV_bad;have hgood:((decT f).ok/\∀j,j<50->bodyF (decT f) j=f j)->decV 50 f=(decT f,0):=decV_ok;generalize decT f=t at *;conv=>whnf
 refine Ru.alloctg ?_;intro g7 w2 hg7 hs2 r7 k2;have k2':Keep [] w1 w2:=((Keep.refl [] w1).drewN 1).trans k2;have hc2:∀j,j<50->w2.cell? ⟨b,o+j,none⟩=some (.int .u8 (f j)):=fun j hj=>(k2'.cell (p:=⟨b,o+j,none⟩) (cell_lt (hc1 j hj)) (by simp)).trans (hc1 j hj);conv=>whnf
 refine⟨hc2,?_⟩;conv=>whnf
 refine Ru.sttg (t:=t) r7 ?_;intro w3 r7 k3;have k13:Keep [] w1 w3:=k2'.then k3 (fun x hx=>.inr (by rw[List.mem_singleton.1 hx,hg7];exact Nat.le_refl _));conv=>whnf
 refine Ru.ldtg r7 ?_;conv=>whnf
 refine Ca.of (encode_ok t w3) ?_;rintro v w4 ⟨k4,hv⟩;have k14:=k13.trans k4;have r1:=r1.keep k14 (by simp);have r7:=r7.keep k4 (by simp);have R4:=R1.keep0 k14;have kend:∀w9,Keep [g] w4 w9->Keep [] w w9:=fun w9 k9=>(k1.trans k14).then k9 (fun x hx=>.inr (by rw[List.mem_singleton.1 hx,hg];exact Nat.le_refl _));rcases hv with⟨hok,Y,d,rfl,hy,hnew⟩|⟨hok,rfl⟩
 ·conv=>whnf
  repeat ((first|refine Br.f ?_|refine Ru.neq_nil0 ?_|refine CW.s ?_);conv=>whnf)
  refine Ca.of (bytesEqual_ok Y (some ⟨b,o,none⟩) 50 50 d c (bodyF t) f w4 hy.rd1 R4 (bodyF_bd t) hf) ?_;rintro _ _ ⟨rfl,rfl⟩;by_cases hs:∀j,j<50->bodyF t j=f j
  ·rw[hgood ⟨hok,hs⟩,sameB_yes rfl hs];conv=>whnf
   repeat ((first|refine Br.f ?_|refine Pk.f ?_);conv=>whnf)
   refine Ru.ldtg r7 ?_;conv=>whnf
   refine Ru.sttg (t:=t) r1 ?_;intro w5 r5 k5;conv=>whnf
   refine Ru.ldtg r5 ?_;exact⟨rfl,rfl,kend _ k5⟩
  ·have hs2:sameB 50 50 (bodyF t) f=false:=decide_eq_false (fun h=>hs h.2);rw[hbad (fun h=>hs h.2),hs2];conv=>whnf
   repeat ((first|refine Br.t ?_|refine Br.f ?_|refine Pk.f ?_);conv=>whnf)
   refine Ru.of (build_tg0 _) ?_;conv=>whnf
   refine Ru.sttg (t:=Tg.zero) r1 ?_;intro w5 r5 k5;conv=>whnf
   refine Ru.ldtg r5 ?_;exact⟨rfl,rfl,kend _ k5⟩
 ·rw[hbad (fun h=>hok h.1)];conv=>whnf
  repeat ((first|refine Br.t ?_|refine Pk.t ?_|refine Ru.n1 ?_|refine CW.s ?_);conv=>whnf)
  refine Ru.of (build_tg0 _) ?_;conv=>whnf
  refine Ru.sttg (t:=Tg.zero) r1 ?_;intro w5 r5 k5;conv=>whnf
  refine Ru.ldtg r5 ?_;exact⟨rfl,rfl,kend _ k5⟩
end
section
open Go.RowKit
attribute [local irreducible] GF.pw GF.lg GF.mul GF.inv GF.xt
open Classical in
noncomputable def decW(W:Nat->Nat):Option (Nat->Nat):=if h:∃V,Near V W then some h.choose else none
theorem near_near{C V p:Nat->Nat}(h:Near C p)(h':Near V p):∀i,i<64->C i=V i:=near_same (p:=p) h.1 h'.1 h.2.1 h'.2.1 (by have:=h.2.2;have:=h'.2.2;omega)
theorem decW_some{W V:Nat->Nat}(h:decW W=some V):Near V W:=by
 unfold decW at h;split at h
 ·rename_i hx
  cases h
  exact hx.choose_spec
 ·cases h
theorem decW_none{W:Nat->Nat}(h:decW W=none):∀V,¬Near V W:=fun V hV=>by
 unfold decW at h;split at h
 ·cases h
 ·rename_i hx
  exact hx ⟨V,hV⟩
theorem decW_near{W V:Nat->Nat}(h:Near V W):∃V',decW W=some V'/\∀i,i<64->V' i=V i:=by
 cases hd:decW W with
 |none=>exact absurd h (decW_none hd V)
 |some V'=>exact⟨V',rfl,near_near (decW_some hd) h⟩
theorem decW_far{W:Nat->Nat}(h:Far W):decW W=none:=by
 cases hd:decW W with
 |none=>rfl
 | some V =>
  obtain⟨h1,h2,h3⟩:=decW_some hd;have:=h V h1 h2;omega
theorem dist_congr{V V' W:Nat->Nat}(h:∀i,i<64->V i=V' i):GF.dist V W=GF.dist V' W:=by
 unfold GF.dist GF.difL;congr 1;apply List.filter_congr;intro i hi;rw[h i (List.mem_range.1 hi)]
structure PageR where
 tagged:Bool
 tag:Tg
 sound:Bool
 damage:Nat
 data:Nat->Nat
def dmgUp(p:Nat->Nat)(r:Nat->Option (Nat->Nat)):Nat->Nat
 |0=>0
 |k+1=>max (dmgUp p r k) (match r k with|some V=>GF.dist V (chk p k)|none=>0)
def TagOk(V:Nat->Nat)(a:Nat):Prop:=Marked (natI V)/\decOk (natI V)/\(decT (natI V)).place=a
open Classical in
noncomputable def readR(r:Nat->Option (Nat->Nat))(d a:Nat):PageR :=
 match r 3 with
 |none=>⟨false,Tg.zero,false,d,fun _=>0⟩
 | some V=>if TagOk V a then
   (if (r 0).isSome/\(r 1).isSome/\(r 2).isSome then ⟨true,decT (natI V),true,d,fun j=>((r (j/58)).getD (fun _=>0)) (j%58)⟩ else ⟨true,decT (natI V),false,d,fun _=>0⟩)
  else ⟨false,Tg.zero,false,d,fun _=>0⟩
noncomputable def readP(p:Nat->Nat)(a:Nat):PageR:=readR (fun k=>decW (chk p k)) (dmgUp p (fun k=>decW (chk p k)) 4) a
def pgc(tg:Bool)(t:Tg)(s:Bool)(dv:Value)(d:Int)(j:Nat):Value:=if j=0 then .bool tg else if j<6 then t.cell (j-1) else if j=6 then .bool s else if j=7 then dv else .int .i64 d
theorem nine{j:Nat}(h:j<9):j=0\/j=1\/j=2\/j=3\/j=4\/j=5\/j=6\/j=7\/j=8:=by omega
section
variable{tg s:Bool}{t:Tg}{dv:Value}{d:Int}
theorem pgc_d(d':Int)(j:Nat)(h:j<9):put (pgc tg t s dv d) 8 (.int .i64 d') j=pgc tg t s dv d' j:=by
 rcases nine h with rfl|rfl|rfl|rfl|rfl|rfl|rfl|rfl|rfl<;>rfl
theorem pgc_tg(b:Bool)(j:Nat)(h:j<9):put (pgc tg t s dv d) 0 (.bool b) j=pgc b t s dv d j:=by
 rcases nine h with rfl|rfl|rfl|rfl|rfl|rfl|rfl|rfl|rfl<;>rfl
theorem pgc_s(b:Bool)(j:Nat)(h:j<9):put (pgc tg t s dv d) 6 (.bool b) j=pgc tg t b dv d j:=by
 rcases nine h with rfl|rfl|rfl|rfl|rfl|rfl|rfl|rfl|rfl<;>rfl
theorem pgc_dv(v:Value)(j:Nat)(h:j<9):put (pgc tg t s dv d) 7 v j=pgc tg t s v d j:=by
 rcases nine h with rfl|rfl|rfl|rfl|rfl|rfl|rfl|rfl|rfl<;>rfl
theorem pgc_t(t':Tg)(j:Nat)(h:j<9):lay (pgc tg t s dv d) 1 5 t'.cell j=pgc tg t' s dv d j:=by
 rcases nine h with rfl|rfl|rfl|rfl|rfl|rfl|rfl|rfl|rfl<;>rfl
theorem pgc_one(h:dv.oneCell'=true)(j:Nat)(hj:j<9):(pgc tg t s dv d j).oneCell'=true:=by
 rcases nine hj with rfl|rfl|rfl|rfl|rfl|rfl|rfl|rfl|rfl<;>first|rfl|exact h
end
def pgArr:Array Value := #[.bool false,.int .i64 0,.int .i64 0,.int .i64 0,.int .i64 0,.bool false,.bool false,.slice none 0 0,.int .i64 0]
theorem pg_range:(Array.range 9).map (pgc false Tg.zero false (.slice none 0 0) 0)=pgArr:=by
 apply Array.ext
 ·simp[pgArr]
 ·intro i h1 h2;simp only[Array.getElem_map,Array.getElem_range];rcases nine (j:=i) (by simpa using h1) with rfl|rfl|rfl|rfl|rfl|rfl|rfl|rfl|rfl<;>rfl
theorem size_page:(Tryz.prog.info? 149).map (·.size)=some 9:=by kernel_rfl
theorem alloc_page0(w:World):(Instr.alloc 149 true (.tuple #[])).run Tryz.prog w=.ok (.pointer (some ⟨w.heap.size,0,none⟩)) (w.alloc (.cells pgArr 149)):=by kernel_rfl
theorem alloc_page(w:World):(Instr.alloc 149 true (.tuple #[])).run Tryz.prog w=.ok (.pointer (some ⟨w.heap.size,0,none⟩)) (w.alloc (rowObj 9 (pgc false Tg.zero false (.slice none 0 0) 0) 149)):=by
 rw[alloc_page0, <-pg_range];rfl
theorem build_page0(w:World):(Instr.build 149 #[]).run Tryz.prog w=.ok (.agg pgArr) w:=by kernel_rfl
theorem build_page(w:World):(Instr.build 149 #[]).run Tryz.prog w=.ok (agg 9 (pgc false Tg.zero false (.slice none 0 0) 0)) w:=by
 rw[build_page0, <-pg_range];rfl
def medF(c f:Nat)(n:Int)(j:Nat):Value:=if j=0 then .pointer (some ⟨c,0,none⟩) else if j=1 then .pointer (some ⟨f,0,none⟩) else .int .i64 n
structure Med(w:World)(m c f cd g h:Nat)(C:Chip)(n:Int):Prop where
 row:Row w m 250 3 (medF c f n)
 chip:ChipAt w c C
 frm:Frm w f cd g h
theorem FS.ty{w:World}{g:Nat}(h:FS w g):∃F,Row w g 318 769 F:=by
 rcases h with r|r<;>exact⟨_,r⟩
section
variable{w w':World}{m c f cd g h:Nat}{C:Chip}{n:Int}
theorem Med.mc(H:Med w m c f cd g h C n):m≠c:=H.row.ne_ H.chip (by decide)
theorem Med.mf(H:Med w m c f cd g h C n):m≠f:=H.row.ne_ H.frm.row (by decide)
theorem Med.md(H:Med w m c f cd g h C n):m≠cd:=H.row.ne_ H.frm.cod.row (by decide)
theorem Med.mh(H:Med w m c f cd g h C n):m≠h:=H.row.ne_ H.frm.cod.gen (by decide)
theorem Med.mg(H:Med w m c f cd g h C n):m≠g:=by
 obtain⟨F,r⟩:=H.frm.cod.fs.ty;exact H.row.ne_ r (by decide)
theorem Med.cf(H:Med w m c f cd g h C n):c≠f:=Row.ne_ H.chip H.frm.row (by decide)
theorem Med.cd'(H:Med w m c f cd g h C n):c≠cd:=Row.ne_ H.chip H.frm.cod.row (by decide)
theorem Med.ch(H:Med w m c f cd g h C n):c≠h:=Row.ne_ H.chip H.frm.cod.gen (by decide)
theorem Med.cg(H:Med w m c f cd g h C n):c≠g:=by
 obtain⟨F,r⟩:=H.frm.cod.fs.ty;exact Row.ne_ H.chip r (by decide)
theorem Med.keep{S:List Nat}(H:Med w m c f cd g h C n)(k:Keep S w w')(hm:m∉S)(hc:c∉S)(hf:f∉S)(hd:cd∉S)(hg:g∉S)(hh:h∉S):Med w' m c f cd g h C n:=⟨H.row.keep k hm,H.chip.keep k hc,H.frm.keep0 k hf hd hg hh⟩
theorem Med.keep0(H:Med w m c f cd g h C n)(k:Keep [] w w'):Med w' m c f cd g h C n:=H.keep k (by simp) (by simp) (by simp) (by simp) (by simp) (by simp)
theorem Med.of(H:Med w m c f cd g h C n)(k:FK w g w'):Med w' m c f cd g h C n:=⟨H.row.keep k.kp (by simpa using H.mg),H.chip.keep k.kp (by simpa using H.cg),H.frm.of k⟩
theorem Med.chipTo{C':Chip}(H:Med w m c f cd g h C n)(k:Keep [c] w w')(hc:ChipAt w' c C'):Med w' m c f cd g h C' n :=
 ⟨H.row.keep k (by simpa using H.mc),hc,H.frm.keep0 k (by simpa using H.cf.symm) (by simpa using H.cd'.symm) (by simpa using H.cg.symm) (by simpa using H.ch.symm)⟩
theorem Med.lt(H:Med w m c f cd g h C n):m<w.heap.size/\c<w.heap.size/\f<w.heap.size/\cd<w.heap.size/\g<w.heap.size/\h<w.heap.size:=⟨H.row.lt,Row.lt H.chip,H.frm.row.lt,H.frm.cod.row.lt,H.frm.cod.fs.lt,H.frm.cod.gen.lt⟩
end
def DvOk(w w':World)(R:PageR)(dv:Value):Prop:=(R.sound=true/\∃O oc,dv=.slice O 174 oc/\(∀x,x∈blk O->w.heap.size<=x)/\Ly w' 5 1 O 174 oc (fun j=>.int .u8 (R.data j:Nat)))\/(R.sound=false/\dv=.slice none 0 0)
def MReadEnd(w:World)(m c f cd g h a:Nat)(C:Chip)(n:Int)(v:Value)(w':World):Prop :=
 (C.off=true/\v=.tuple #[agg 9 (pgc false Tg.zero false (.slice none 0 0) 0),errOf 7]/\Med w' m c f cd g h C n/\Keep [] w w') \/
 (C.off=false/\∃dv,DvOk w w' (readP (pageW C a) a) dv/\v=.tuple #[agg 9 (pgc (readP (pageW C a) a).tagged (readP (pageW C a) a).tag (readP (pageW C a) a).sound dv ((readP (pageW C a) a).damage:Nat)),errOf 0]/\Med w' m c f cd g h (C.readE a) (w64 (n+1))/\Keep [m,c,g] w w')
theorem Ru.stpage{w:World}{x:Nat}{F s:Nat->Value}{K:Unit->World->Prop}(r:Row w x 149 9 F)(h1:∀j,j<9->(s j).oneCell'=true)(k:∀w',Row w' x 149 9 s->Keep [x] w w'->K () w'):Ru Tryz.prog (storeVar 149 ⟨x,0,none⟩ (agg 9 s)) w K :=
 Ru.sta r size_page (by omega) h1 (fun w' r' k'=>k w' (r'.congr (fun j hj=>by
  unfold lay;rw[if_pos (by omega),Nat.sub_zero])) k')
theorem Ru.ldpage{w:World}{x:Nat}{s:Nat->Value}{K:Value->World->Prop}(r:Row w x 149 9 s)(k:K (agg 9 s) w):Ru Tryz.prog (loadVar 149 ⟨x,0,none⟩) w K :=
 Ru.ldaC r Tryz.underlying149 rfl size_page (by omega) (q:=s) (fun j _=>by rw[Nat.zero_add]) k
theorem numOf_congr{f g:Nat->Int}:∀(n:Nat),(∀j,j<n->f j=g j)->numOf f n=numOf g n
 |0,_=>rfl
 | n+1,h=>by
  rw[numOf_snoc,numOf_snoc,numOf_congr n (fun j hj=>h j (by omega)),h n (by omega)]
section
variable{V V':Nat->Nat}
theorem natI_congr(h:∀i,i<64->V i=V' i){j:Nat}(hj:j<64):natI V j=natI V' j:=by
 unfold natI;rw[h j hj]
theorem Marked.congr(h:∀i,i<64->V i=V' i)(k:Marked (natI V)):Marked (natI V'):=fun j hj=>by
 rw[<-natI_congr h (by omega)];exact k j hj
theorem decT_congr(h:∀i,i<64->V i=V' i):decT (natI V)=decT (natI V'):=by
 unfold decT;rw[numOf_congr (g:=natI V') 2 (fun j hj=>natI_congr h (by omega)),numOf_congr (f:=fun j=>natI V (3+j)) (g:=fun j=>natI V' (3+j)) 5 (fun j hj=>natI_congr h (by omega)),natI_congr h (j:=2) (by omega),natI_congr h (j:=8) (by omega),natI_congr h (j:=9) (by omega)]
theorem decOk.congr(h:∀i,i<64->V i=V' i)(k:decOk (natI V)):decOk (natI V'):=by
 unfold decOk at k ⊢;rw[<-decT_congr h];exact⟨k.1,fun j hj=>by rw[k.2 j hj];exact natI_congr h (by omega)⟩
theorem TagOk.congr{a:Nat}(h:∀i,i<64->V i=V' i)(k:TagOk V a):TagOk V' a:=⟨k.1.congr h,k.2.1.congr h,by rw[<-decT_congr h];exact k.2.2⟩
end
theorem readR_none{r:Nat->Option (Nat->Nat)}{d a:Nat}(h:∀V,r 3=some V->¬TagOk V a):readR r d a=⟨false,Tg.zero,false,d,fun _=>0⟩:=by
 unfold readR
 cases hr:r 3 with
 |none=>rfl
 |some V=>exact if_neg (h V hr)
theorem readR_tag{r:Nat->Option (Nat->Nat)}{d a:Nat}{V:Nat->Nat}(h:r 3=some V)(ht:TagOk V a)(hs:¬((r 0).isSome/\(r 1).isSome/\(r 2).isSome)):readR r d a=⟨true,decT (natI V),false,d,fun _=>0⟩:=by
 unfold readR;rw[h];simp only;rw[if_pos ht,if_neg hs]
theorem readR_all{r:Nat->Option (Nat->Nat)}{d a:Nat}{V:Nat->Nat}(h:r 3=some V)(ht:TagOk V a)(hs:(r 0).isSome/\(r 1).isSome/\(r 2).isSome):readR r d a=⟨true,decT (natI V),true,d,fun j=>((r (j/58)).getD (fun _=>0)) (j%58)⟩:=by
 unfold readR;rw[h];simp only;rw[if_pos ht,if_pos hs]
theorem agg1(v:Value):Value.agg #[v]=agg 1 (fun _=>v):=by
 unfold agg;simp[Array.range,Array.ofFn_succ]
theorem build_frm0(A:Option Addr)(w:World):(Instr.build 274 #[(0,.pointer A)]).run Tryz.prog w=.ok (.agg #[.pointer A]) w:=by kernel_rfl
theorem Ru.sttgAt{w:World}{x:Nat}{tg s:Bool}{t t':Tg}{dv:Value}{d:Int}{o:Nat}{K:Unit->World->Prop}(r:Row w x 149 9 (pgc tg t s dv d))(e:o=1)(k:∀w',Row w' x 149 9 (pgc tg t' s dv d)->Keep [x] w w'->K () w'):Ru Tryz.prog (storeVar 67 ⟨x,o,none⟩ (.agg t'.arr)) w K:=by
 subst e;rw[tg_agg];exact Ru.sta r size_tag (by omega) (tg_one t') (fun w' r' k'=>k w' (r'.congr (fun j hj=>pgc_t t' j hj)) k')
theorem RuQ.ldtg{C:World->Prop}{g:Nat}{ty:TypeId}{t:Tg}{K:Value->Prop}(r:∀w,C w->Row w g ty 5 t.cell)(k:K (.agg t.arr)):RuQ Tryz.prog C (loadVar 67 ⟨g,0,none⟩) K:=⟨_,fun w hw=>run_tg (r w hw) (by omega) (fun j _=>by rw[Nat.zero_add]),k⟩
theorem fnew_ok(w:World):Spec Tryz.prog 171 #[] w fun v w'=>∃f cd g h,w.heap.size<=f/\w.heap.size<=cd/\w.heap.size<=g/\w.heap.size<=h/\v=.pointer (some ⟨f,0,none⟩)/\Frm w' f cd g h/\Keep [] w w':=by
 refine spec_of_wpE (T:=tt) tt_ok Tryz.func171 rfl (by decide +kernel) Tryz.ntmps171 (by simp) ?_;conv=>whnf
 refine Ca.of (rsnew_ok w) ?_;rintro _ w1 ⟨cd,g,h,hc,hg,hh,rfl,H,k1⟩;conv=>whnf
 refine Ru.of ((build_frm0 _ w1).trans (by rw[agg1])) ?_;conv=>whnf
 refine Ru.boxa ?_;intro f w2 hf hs2 r2 k2;conv=>whnf
 have hl:=H.fs.lt;have hs1:=k1.size;exact⟨rfl,f,cd,g,h,by omega,hc,hg,hh,rfl,⟨r2,H.keep0 k2 (by simp) (by simp) (by simp),by omega⟩,k1.trans k2⟩
theorem build_med0(A B:Option Addr)(w:World):(Instr.build 250 #[(0,.pointer A),(1,.pointer B)]).run Tryz.prog w=.ok (.agg #[.pointer A,.pointer B,.int .i64 0]) w:=by kernel_rfl
theorem three{j:Nat}(h:j<3):j=0\/j=1\/j=2:=by omega
theorem build_med(c f:Nat)(w:World):(Instr.build 250 #[(0,.pointer (some ⟨c,0,none⟩)),(1,.pointer (some ⟨f,0,none⟩))]).run Tryz.prog w=.ok (agg 3 (medF c f 0)) w:=by
 rw[build_med0];unfold agg;congr 2;apply Array.ext
 ·simp
 ·intro i h1 h2;simp only[Array.getElem_map,Array.getElem_range];rcases three (j:=i) (by simpa using h1) with rfl|rfl|rfl<;>rfl
theorem mnew_ok(w:World)(c:Nat)(C:Chip)(H:ChipAt w c C):Spec Tryz.prog 119 #[.pointer (some ⟨c,0,none⟩)] w fun v w'=>∃m f cd g h,w.heap.size<=m/\w.heap.size<=f/\w.heap.size<=cd/\w.heap.size<=g/\w.heap.size<=h/\v=.pointer (some ⟨m,0,none⟩)/\Med w' m c f cd g h C 0/\Keep [] w w':=by
 refine spec_of_wpE (T:=tt) tt_ok Tryz.func119 rfl (by decide +kernel) Tryz.ntmps119 (by simp) ?_;conv=>whnf
 refine Ca.of (fnew_ok w) ?_;rintro _ w1 ⟨f,cd,g,h,hf,hc,hg,hh,rfl,F,k1⟩;conv=>whnf
 refine Ru.of (build_med c f w1) ?_;conv=>whnf
 refine Ru.boxa ?_;intro m w2 hm hs2 r2 k2;conv=>whnf
 have hs1:=k1.size;exact⟨rfl,m,f,cd,g,h,by omega,hf,hc,hg,hh,rfl,⟨r2,(H.keep k1 (by simp)).keep k2 (by simp),F.keep0 k2 (by simp) (by simp) (by simp) (by simp)⟩,k1.trans k2⟩
theorem medF_n(c f:Nat)(n n':Int)(j:Nat)(h:j<3):put (medF c f n) 2 (.int .i64 n') j=medF c f n' j:=by
 rcases three h with rfl|rfl|rfl<;>rfl
theorem mread_ok(w:World)(m c f cd g h a:Nat)(C:Chip)(n:Int)(H:Med w m c f cd g h C n)(hw:C.Wf)(ha:a<96) :
  Spec Tryz.prog 115 #[.pointer (some ⟨m,0,none⟩),.int .i64 a] w (MReadEnd w m c f cd g h a C n):=by
 have hmc:=H.mc;have hmg:=H.mg;have hcg:=H.cg;have hlt:=H.lt;refine spec_of_wpE (T:=tt) tt_ok Tryz.func115 rfl (by decide +kernel) Tryz.ntmps115 (by simp) ?_;conv=>whnf
 refine Ru.alloca (alloc_page w) ?_;intro x4 w1 hx4 hs1 r4 k1;have H1:=H.keep0 k1;conv=>whnf
 repeat ((first|(refine Ld.rowAt H1.row 0 (by omega) (by omega) ?_));conv=>whnf)
 refine Ca.of (nread_ok w1 c a C H1.chip ha) ?_;rintro v w2 hv;rcases hv with⟨hoff,rfl,rfl⟩|⟨hoff,b,e,rfl,hb,ly,hc2,k2⟩
 ·conv=>whnf
  repeat ((first|refine Br.t ?_|refine Ru.n1 ?_|refine CW.s ?_);conv=>whnf)
  refine Ru.of (build_page _) ?_;conv=>whnf
  refine Ru.stpage r4 (pgc_one rfl) ?_;intro w3 r5 k3;conv=>whnf
  refine Ru.ldpage r5 ?_;conv=>whnf
  exact⟨rfl,.inl ⟨hoff,rfl,H1.keep k3 (by simp;omega) (by simp;omega) (by simp;omega) (by simp;omega) (by simp;omega) (by simp;omega),k1.then k3 (fun x hx=>.inr (by rw[List.mem_singleton.1 hx];omega))⟩⟩
 have H2:=H1.chipTo k2 hc2;have r42:=r4.keep k2 (by simp;omega);have hs2:=k2.size;clear hc2;generalize hp:pageW C a=p at *;have hpl:∀j,p j<256:=fun j=>by rw[<-hp];exact hw.now _ _ _
 conv=>whnf
 repeat ((first|refine Br.f ?_|refine Ru.neq_nil0 ?_|refine CW.s ?_);conv=>whnf)
 refine Ca.of (aadd_ok m 2 n 1 (w64 (n+1)) rfl w2 (H2.row.cell 2 (by omega)) (Row.free H2.row _)) ?_;rintro _ w3 ⟨rfl,rfl⟩;have rm3:=(H2.row.set 2 (.int .i64 (w64 (n+1)))).congr (fun j hj=>medF_n c f n _ j hj);have k3:Keep [m] w2 (w2.setCell ⟨m,2,none⟩ (.int .i64 (w64 (n+1)))):=Keep.set m 2 _;generalize w2.setCell _ _=w3 at *;have hbm:b≠m:=by omega
 have H3:Med w3 m c f cd g h (C.readE a) (w64 (n+1)):=⟨rm3,H2.chip.keep k3 (by simp;omega),H2.frm.keep0 k3 (by simp;have:=H.mf;omega) (by simp;have:=H.md;omega) (by simp;omega) (by simp;have:=H.mh;omega)⟩;have ly3:=ly.keep k3 (by simpa[blk] using hbm);have r43:=r42.keep k3 (by simp;omega);have hs3:=k3.size;conv=>whnf
 refine Ru.alloca (alloc_page w3) ?_;intro x8 w4 hx8 hs4 r8 k4;have H4:=H3.keep0 k4;have ly4:=ly3.keep0 k4;have r44:=r43.keep k4 (by simp);have k14:Keep [m,c,g] w1 w4:=((k2.mono (by simp)).trans (k3.mono (by simp))).trans (k4.mono (by simp));have K0:Keep [m,c,g] w w4:=(k1.mono (by simp)).trans k14;have hsz:w.heap.size<=x4/\x4<x8/\b<x8/\b≠x4:=by
  have:=Ly.lt ly3 rfl;have:=r42.lt;simp only at *;omega
 conv=>whnf
 repeat ((first|refine CW.s ?_);conv=>whnf)
 refine CW.loop (ι:=Nat) (fun i w'=>i<=4/\Row w' x8 149 9 (pgc false Tg.zero false (.slice none 0 0) ((dmgUp p (fun k=>decW (chk p k)) i:Nat):Int))/\Frm w' f cd g h/\Keep [g,x8] w4 w') (fun i=>[(0,.pointer (some ⟨m,0,none⟩)),(1,.int .i64 a),(4,.pointer (some ⟨x4,0,none⟩)),(6,.slice (some ⟨b,0,none⟩) 256 e),(8,.pointer (some ⟨x8,0,none⟩)),(36,.int .i64 i)]) (fun i=>4-i) 0 tt_ok ⟨by omega,r8,H4.frm,Keep.refl _ _⟩ ⟨rfl,rfl,rfl,rfl,rfl,rfl,trivial⟩ ?_;rintro i wr ⟨hi,r8,hfr,kr⟩;have hrow:=H4.row.keep kr (by simp;omega);have lyr:=ly4.keep kr (by simp[blk];omega);have rdb:RdB wr (some ⟨b,0,none⟩) 256 p:=lyr.rd1;have hec:256<=e:=lyr.1;have hszr:=kr.size;by_cases hl:i<4
 ·conv=>whnf
  repeat ((first|(refine Ld.rowAt hrow 1 (by omega) (by omega) ?_)|refine Br.y ?_|refine CW.s ?_);conv=>whnf)
  refine Ca.of (msg_ok wr f cd g h e (some ⟨b,0,none⟩) p hpl rdb hec (fun a e=>by cases e;simp only;omega) hfr i hl) ?_;rintro v w5 ⟨f5,hv⟩;have hfr5:=hfr.of f5;have r85:=r8.keep f5.kp (by simp;omega);have k5:Keep [g,x8] w4 w5:=kr.trans (f5.kp.mono (by simp));have hdu:dmgUp p (fun k=>decW (chk p k)) (i+1)=max (dmgUp p (fun k=>decW (chk p k)) i) (match decW (chk p i) with|some V=>GF.dist V (chk p i)|none=>0):=rfl;rcases hv with⟨b5,e5,V,hb5,hV,hcw,hdst,rfl,wd5⟩|⟨rfl,hbad⟩
  ·obtain⟨V',hV',he⟩:=decW_near (W:=chk p i) ⟨hV,hcw,hdst⟩;rw[hV'] at hdu;simp only at hdu;rw[dist_congr he] at hdu;generalize dmgUp p (fun k=>decW (chk p k)) i=D at *;conv=>whnf
   repeat ((first|(refine Ld.rowAt r85 8 (by omega) (by omega) ?_)|refine Br.t ?_|refine Ru.eql_nil0 ?_);conv=>whnf)
   refine Sd.rowAt r85 8 (by omega) (by omega) rfl ?_;intro w6 r6 k6;have r6':=r6.congr (fun j hj=>pgc_d _ j hj);conv=>whnf
   repeat ((first|refine Ar.la ?_);conv=>whnf)
   exact⟨i+1,⟨hl,by rw[hdu,show((max D (GF.dist V (chk p i)):Nat):Int)=max (D:Int) (GF.dist V (chk p i):Nat) by omega];exact r6',hfr5.keep0 k6 (by simp;have:=H.lt;omega) (by simp;have:=H.lt;omega) (by simp;omega) (by simp;have:=H.lt;omega),k5.trans (k6.mono (by simp))⟩,⟨rfl,rfl,rfl,rfl,rfl,vi (by omega),trivial⟩,by simp only;omega⟩
  ·rw[decW_far (W:=chk p i) hbad] at hdu;simp only[Nat.max_zero] at hdu;conv=>whnf
   repeat ((first|refine Br.f ?_|refine Ar.la ?_|refine Ru.e1 ?_);conv=>whnf)
   exact⟨i+1,⟨hl,by rw[hdu];exact r85,hfr5,k5⟩,⟨rfl,rfl,rfl,rfl,rfl,vi (by omega),trivial⟩,by simp only;omega⟩
 obtain rfl:i=4:=by omega
 conv=>whnf
 repeat ((first|(refine Ld.rowAt hrow 1 (by omega) (by omega) ?_)|refine Br.f ?_|refine CW.s ?_);conv=>whnf)
 refine Ca.of (body_ok wr f cd g h e (some ⟨b,0,none⟩) p hpl rdb hec (fun a e=>by cases e;simp only;omega) hfr) ?_;rintro v w5 ⟨f5,hv⟩;have hfr5:=hfr.of f5;have r85:=r8.keep f5.kp (by simp;omega);have k5:Keep [g,x8] w4 w5:=kr.trans (f5.kp.mono (by simp));have r45:=r44.keep k5 (by simp;omega);have hs5:=k5.size;have hmed:∀ {S:List Nat} {w':World},Keep S w4 w'->Frm w' f cd g h->m∉S->c∉S->Med w' m c f cd g h (C.readE a) (w64 (n+1)):=fun k hf h1 h2=>⟨H4.row.keep k h1,H4.chip.keep k h2,hf⟩
 have hR:readP p a=readR (fun k=>decW (chk p k)) (dmgUp p (fun k=>decW (chk p k)) 4) a:=rfl;generalize dmgUp p (fun k=>decW (chk p k)) 4=D at *;rcases hv with⟨X,V,hX,hV,hcw,hdst,hmk,rfl,lyX⟩|⟨er,her,rfl,hno⟩
 case inr =>
  have hR':readP p a=⟨false,Tg.zero,false,D,fun _=>0⟩:=by
   rw[hR];exact readR_none (fun V hV ht=>by
    obtain⟨h1,h2,h3⟩:=decW_some hV;exact hno V h1 h2 h3 ht.1)
  have her0:er≠0:=by omega
  conv=>whnf
  repeat ((first|(refine Ru.neq_nil rfl ?_)|(refine Br.nno her0 ?_)|refine CW.s ?_);conv=>whnf)
  refine Ru.ldpage r85 ?_;conv=>whnf
  refine Ru.stpage r45 (pgc_one rfl) ?_;intro w6 r6 k6;conv=>whnf
  refine Ru.ldpage r6 ?_;conv=>whnf
  have hT:∀x,x∈[g,x8,x4]->x∈[m,c,g]\/w.heap.size<=x:=fun x hx=>by
   simp at hx ⊢;rcases hx with h|h|h<;>omega
  have k46:Keep [g,x8,x4] w4 w6:=(k5.mono (by simp)).trans (k6.mono (by simp));refine⟨rfl,.inr ⟨hoff,.slice none 0 0,?_⟩⟩;rw[hp,hR'];exact⟨.inr ⟨rfl,rfl⟩,rfl,hmed k46 (hfr5.keep0 k6 (by simp;omega) (by simp;omega) (by simp;omega) (by simp;omega)) (by simp;omega) (by simp;omega),K0.then k46 hT⟩
 obtain⟨V',hV',heV⟩:=decW_near (W:=chk p 3) ⟨hV,hcw,hdst⟩;have rdX:Rd w5 X 50 (fun j=>.int .u8 (natI V j)):=lyX.rd1;conv=>whnf
 repeat ((first|refine Br.f ?_|refine Ru.neq_nil0 ?_|refine CW.s ?_);conv=>whnf)
 refine Ca.of (decode_ok X 50 50 (natI V) w5 rdX (fun j=>by have:=hV j;unfold natI;omega) (by omega)) ?_;rintro _ w6 ⟨rfl,k6⟩;have hfr6:=hfr5.keep0 k6 (by simp) (by simp) (by simp) (by simp);have r86:=r85.keep k6 (by simp);have r46:=r45.keep k6 (by simp);conv=>whnf
 refine Ru.alloctg ?_;intro x15 w7 hx15 hs7 r15 k7;conv=>whnf
 refine Ru.sttg r15 ?_;intro w8 r15 k8;have hs6:=k6.size;have hfr8:=(hfr6.keep0 k7 (by simp) (by simp) (by simp) (by simp)).keep0 k8 (by simp;omega) (by simp;omega) (by simp;omega) (by simp;omega);have r88:=(r86.keep k7 (by simp)).keep k8 (by simp;omega);have r48:=(r46.keep k7 (by simp)).keep k8 (by simp;omega);have k48:Keep [g,x8,x15] w4 w8:=(((k5.mono (by simp)).trans (k6.mono (by simp))).trans (k7.mono (by simp))).trans (k8.mono (by simp));have hl8:=k8.size;have hT8:∀x,x∈[g,x8,x15]->x∈[m,c,g]\/w.heap.size<=x:=fun x hx=>by
  simp at hx ⊢;rcases hx with h|h|h<;>omega
 clear k6 k7 k8 hfr5 hfr6 r85 r86 r45 r46;have bad:¬TagOk V a->readP p a=⟨false,Tg.zero,false,D,fun _=>0⟩:=fun hn=>by
  rw[hR];exact readR_none (fun U hU ht=>by
   rw[hV'] at hU
   cases hU
   exact hn (ht.congr heV))
 by_cases hok:decOk (natI V)
 case neg =>
  have hR':=bad (fun ht=>hok ht.2.1);rw[decV_bad hok];conv=>whnf
  repeat ((first|(refine Ru.neq_nil1 (by decide) ?_)|refine Br.t ?_|refine Pk.t ?_|refine CW.s ?_);conv=>whnf)
  refine Ru.ldpage r88 ?_;conv=>whnf
  refine Ru.stpage r48 (pgc_one rfl) ?_;intro w9 r9 k9;conv=>whnf
  refine Ru.ldpage r9 ?_;conv=>whnf
  have k49:Keep [g,x8,x15,x4] w4 w9:=(k48.mono (by simp)).trans (k9.mono (by simp));refine⟨rfl,.inr ⟨hoff,.slice none 0 0,?_⟩⟩;rw[hp,hR']
  exact⟨.inr ⟨rfl,rfl⟩,rfl,hmed k49 (hfr8.keep0 k9 (by simp;omega) (by simp;omega) (by simp;omega) (by simp;omega)) (by simp;omega) (by simp;omega),K0.then k49 (fun x hx=>by
   simp at hx ⊢;rcases hx with h|h|h|h<;>omega)⟩
 rw[decV_ok hok] at r15 ⊢;by_cases hpl2:(decT (natI V)).place=a
 case neg =>
  have hR':=bad (fun ht=>hpl2 ht.2.2);conv=>whnf
  repeat ((first|(refine Ld.rowAt r15 0 (by omega) (by omega) ?_)|(refine Br.nno hpl2 ?_)|refine Br.f ?_|refine Pk.f ?_|refine Ru.neq_nil0 ?_|refine CW.s ?_);conv=>whnf)
  refine Ru.ldpage r88 ?_;conv=>whnf
  refine Ru.stpage r48 (pgc_one rfl) ?_;intro w9 r9 k9;conv=>whnf
  refine Ru.ldpage r9 ?_;conv=>whnf
  have k49:Keep [g,x8,x15,x4] w4 w9:=(k48.mono (by simp)).trans (k9.mono (by simp));refine⟨rfl,.inr ⟨hoff,.slice none 0 0,?_⟩⟩;rw[hp,hR']
  exact⟨.inr ⟨rfl,rfl⟩,rfl,hmed k49 (hfr8.keep0 k9 (by simp;omega) (by simp;omega) (by simp;omega) (by simp;omega)) (by simp;omega) (by simp;omega),K0.then k49 (fun x hx=>by
   simp at hx ⊢;rcases hx with h|h|h|h<;>omega)⟩
 have htag:TagOk V a:=⟨hmk,hok,hpl2⟩;have htag':TagOk V' a:=htag.congr (fun i hi=>(heV i hi).symm);have htV:decT (natI V')=decT (natI V):=decT_congr heV;conv=>whnf
 repeat ((first|(refine Ld.rowAt r15 0 (by omega) (by omega) ?_)|refine Br.f ?_|refine Pk.f ?_|refine Br.ny ?_|refine Ru.neq_nil0 ?_|refine CW.s ?_);conv=>whnf)
 refine CW.held (fun w'=>Row w' x15 67 5 (decT (natI V)).cell) [4] (.take 0 (.take 1 (.one 2 (.take 3 (.one 4 (.done)))))) tt_ok (by kernel_rfl) (by kernel_rfl) (by kernel_rfl) ?_ ?_
 ·exact r15.drewN 1
 have r15:=r15.drewN 1;have r88:=r88.drewN 1;have r48:=r48.drewN 1;have hfr8:=hfr8.drewN 1;have k48:=k48.drewN 1;have hl8:w7.heap.size<=(w8.drewN 1).heap.size:=hl8;generalize w8.drewN 1=w9 at *;conv=>whnf
 repeat ((first|(refine RuQ.ldtg (fun _ h=>h) ?_));conv=>whnf)
 refine Sd.rowAt r88 0 (by omega) (by omega) rfl ?_;intro w10 r10 k10;have r10':=r10.congr (fun j hj=>pgc_tg _ j hj);have r15:=r15.keep k10 (by simp;omega);clear r10 r88;conv=>whnf
 refine⟨r15,?_⟩;conv=>whnf
 refine Ru.sttgAt r10' (by omega) ?_;intro w11 r11 k11;have r15:=r15.keep k11 (by simp;omega);have hfr11:=(hfr8.keep0 k10 (by simp;omega) (by simp;omega) (by simp;omega) (by simp;omega)).keep0 k11 (by simp;omega) (by simp;omega) (by simp;omega) (by simp;omega);have k411:Keep [g,x8,x15] w4 w11:=(k48.trans (k10.mono (by simp))).trans (k11.mono (by simp));have row11:=H4.row.keep k411 (by simp;omega);have ly11:=ly4.keep k411 (by simp[blk];omega);have r411:=(r48.keep k10 (by simp;omega)).keep k11 (by simp;omega);have rdb11:RdB w11 (some ⟨b,0,none⟩) 256 p:=ly11.rd1;have hec:256<=e:=ly11.1;have hs11:=k411.size;conv=>whnf
 repeat ((first|(refine Ld.rowAt row11 1 (by omega) (by omega) ?_)|refine CW.s ?_);conv=>whnf)
 refine Ca.of (data_ok w11 f cd g h e (some ⟨b,0,none⟩) p hpl rdb11 hec (fun a e=>by cases e;simp only;omega) hfr11) ?_;rintro v w12 ⟨f12,hv⟩;have hfr12:=hfr11.of f12;have r12:=r11.keep f12.kp (by simp;omega);have r412:=r411.keep f12.kp (by simp;omega);have k412:Keep [g,x8,x15] w4 w12:=k411.trans (f12.kp.mono (by simp));rcases hv with⟨O,oc,U,mm,hU,rfl,hO,lyO⟩|⟨rfl,kk,hkk,hfar⟩
 ·have hall:∀k,k<3->∃U',decW (chk p k)=some U'/\∀i,i<64->U' i=U k i:=fun k hk=>decW_near (hU k hk);have hsome:(decW (chk p 0)).isSome/\(decW (chk p 1)).isSome/\(decW (chk p 2)).isSome:=by
   obtain⟨a0,h0,_⟩:=hall 0 (by omega);obtain⟨a1,h1,_⟩:=hall 1 (by omega);obtain⟨a2,h2,_⟩:=hall 2 (by omega);rw[h0,h1,h2];exact⟨rfl,rfl,rfl⟩
  have hR':readP p a=⟨true,decT (natI V'),true,D,fun j=>((decW (chk p (j/58))).getD (fun _=>0)) (j%58)⟩:=by
   rw[hR];exact readR_all hV' htag' hsome
  conv=>whnf
  repeat ((first|refine Br.t ?_|refine Ru.eql_nil0 ?_);conv=>whnf)
  refine Sd.rowAt r12 6 (by omega) (by omega) rfl ?_;intro w13 r13 k13;have r13':=r13.congr (fun j hj=>pgc_s _ j hj);have lyO3:=lyO.keep k13 (fun x hx=>by simp;have:=hO x hx;have:=r11.lt;omega);conv=>whnf
  refine Sd.rowAt r13' 7 (by omega) (by omega) rfl ?_;intro w14 r14 k14';have r14':=r14.congr (fun j hj=>pgc_dv _ j hj);have lyO4:=lyO3.keep k14' (fun x hx=>by simp;have:=hO x hx;have:=r11.lt;omega);have r414:=(r412.keep k13 (by simp;omega)).keep k14' (by simp;omega);conv=>whnf
  refine Ru.ldpage r14' ?_;conv=>whnf
  refine Ru.stpage r414 (pgc_one rfl) ?_;intro w15 r15' k15;conv=>whnf
  refine Ru.ldpage r15' ?_;conv=>whnf
  have lyO5:=lyO4.keep k15 (fun x hx=>by simp;have:=hO x hx;have:=r48.lt;omega);have k415:Keep [g,x8,x15,x4] w4 w15:=(((k412.mono (by simp)).trans (k13.mono (by simp))).trans (k14'.mono (by simp))).trans (k15.mono (by simp));have hfr15:=((hfr12.keep0 k13 (by simp;omega) (by simp;omega) (by simp;omega) (by simp;omega)).keep0 k14' (by simp;omega) (by simp;omega) (by simp;omega) (by simp;omega)).keep0 k15 (by simp;omega) (by simp;omega) (by simp;omega) (by simp;omega);refine⟨rfl,.inr ⟨hoff,.slice O 174 oc,?_⟩⟩;rw[hp,hR',htV]
  refine⟨.inl ⟨rfl,O,oc,rfl,fun x hx=>by have:=hO x hx;omega,lyO5.congr (fun j hj=>?_)⟩,rfl,hmed k415 hfr15 (by simp;omega) (by simp;omega),K0.then k415 (fun x hx=>by
   simp at hx ⊢;rcases hx with h|h|h|h<;>omega)⟩
  have hj3:j/58<3:=by omega
  obtain⟨U',hU',he⟩:=hall (j/58) hj3;simp only[hU',Option.getD_some];rw[he _ (by omega)]
 ·have hR':readP p a=⟨true,decT (natI V'),false,D,fun _=>0⟩:=by
   rw[hR];refine readR_tag hV' htag' (fun h=>?_);have hn:=decW_far hfar;have:kk=0\/kk=1\/kk=2:=by omega
   rcases this with rfl|rfl|rfl
   ·rw[hn] at h;exact absurd h.1 (by simp)
   ·rw[hn] at h;exact absurd h.2.1 (by simp)
   ·rw[hn] at h;exact absurd h.2.2 (by simp)
  conv=>whnf
  repeat ((first|refine Br.f ?_|refine Ru.e1 ?_);conv=>whnf)
  refine Ru.ldpage r12 ?_;conv=>whnf
  refine Ru.stpage r412 (pgc_one rfl) ?_;intro w15 r15' k15;conv=>whnf
  refine Ru.ldpage r15' ?_;conv=>whnf
  have k415:Keep [g,x8,x15,x4] w4 w15:=(k412.mono (by simp)).trans (k15.mono (by simp));have hfr15:=hfr12.keep0 k15 (by simp;omega) (by simp;omega) (by simp;omega) (by simp;omega);refine⟨rfl,.inr ⟨hoff,.slice none 0 0,?_⟩⟩;rw[hp,hR',htV]
  exact⟨.inr ⟨rfl,rfl⟩,rfl,hmed k415 hfr15 (by simp;omega) (by simp;omega),K0.then k415 (fun x hx=>by
   simp at hx ⊢;rcases hx with h|h|h|h<;>omega)⟩
end
section
open Go.RowKit
theorem eq_tg(d:Nat)(f g:Tg)(w:World):(Op.equalIn (d+2) 67 (.agg f.arr) (.agg g.arr)).run Tryz.prog w=.ok (decide (f=g)) w:=by
 have e:decide (f=g)=(decide (f.place=g.place)&&(decide (f.of=g.of)&&(decide (f.seq=g.seq)&&(decide (f.copy=g.copy)&&(decide (f.lost=g.lost)&&true))))):=by
  rw[Bool.eq_iff_iff];simp only[Bool.and_eq_true,decide_eq_true_eq,Bool.and_true];obtain⟨a,b,c,d,e⟩:=f;obtain⟨a',b',c',d',e'⟩:=g;simp
 rw[e];refine eqA_of Tryz.underlying67 (by kernel_rfl) ?_;refine eqf_cons (by decide +kernel) (part_cell (by kernel_rfl) rfl) (part_cell (by kernel_rfl) rfl) (eq_int Tryz.underlying3) ?_;refine eqf_cons (by decide +kernel) (part_cell (by kernel_rfl) rfl) (part_cell (by kernel_rfl) rfl) (eq_int Tryz.underlying3) ?_;refine eqf_cons (by decide +kernel) (part_cell (by kernel_rfl) rfl) (part_cell (by kernel_rfl) rfl) (eq_int Tryz.underlying2) ?_;refine eqf_cons (by decide +kernel) (part_cell (by kernel_rfl) rfl) (part_cell (by kernel_rfl) rfl) (eq_int Tryz.underlying3) ?_;refine eqf_cons (by decide +kernel) (part_cell (by kernel_rfl) rfl) (part_cell (by kernel_rfl) rfl) (eq_bool Tryz.underlying4) ?_;exact eqf_nil
theorem neq_tg(x y:Operand)(f g:Tg)(w:World):(do eqGuard .neq 67 x y (.agg f.arr) (.agg g.arr);binOp .neq 67 (.agg f.arr) (.agg g.arr):Sem Value).run Tryz.prog w=.ok (.bool (!decide (f=g))) w:=by
 rw[Sem.run_bind,run_eqGuard_agg w _ _ _ _ _ _ (by kernel_rfl),Result.andThen_ok,run_neq_struct,eq_tg 9998];rfl
theorem numOf_byte(v:Int)(hv:0<=v)(n:Nat):numOf (byteOf v) n=v%256^n:=by
 induction n with
 |zero=>simp[numOf]
 | succ n ih =>
  rw[numOf_snoc,ih];unfold byteOf;have hp:(0:Int)<256^n:=Int.pow_pos (by omega);have h1:=Int.emod_add_mul_ediv v (256^n);have h2:=Int.emod_add_mul_ediv (v/256^n) 256;have h3:=Int.emod_add_mul_ediv v (256^(n+1));rw[Int.pow_succ] at h3 ⊢;rw[<-Int.ediv_ediv_of_nonneg (Int.le_of_lt hp)] at h3;generalize v/256^n=x at *;have e:256^n*256*(x/256)=256^n*(256*(x/256)):=Int.mul_assoc _ _ _;rw[e] at h3;have e2:256^n*x=256^n*(x%256)+256^n*(256*(x/256)):=by rw[<-Int.mul_add,h2]
  have e3:x%256*256^n=256^n*(x%256):=Int.mul_comm _ _;omega
theorem numOf_back(v:Int)(hv:0<=v)(n:Nat)(h:v/256^n=0):numOf (byteOf v) n=v:=by
 rw[numOf_byte v hv];have h1:=Int.emod_add_mul_ediv v (256^n);rw[h,Int.mul_zero,Int.add_zero] at h1;exact h1
theorem back_t{t:Tg}(ht:t.ok):decT (bodyF t)=t:=by
 obtain⟨h0,h1,h2,h3,h4,h5,h6,h7,_,_⟩:=ht;have e0:numOf (bodyF t) 2=t.place:=by
  rw[numOf_congr (f:=bodyF t) (g:=byteOf t.place) 2 (fun j hj=>by unfold bodyF;rw[if_pos (by omega)])];exact numOf_back _ (by omega) 2 (Int.ediv_eq_zero_of_lt (by omega) (by omega))
 have e2:numOf (fun j=>bodyF t (3+j)) 5=t.seq:=by
  rw[numOf_congr (f:=fun j=>bodyF t (3+j)) (g:=byteOf t.seq) 5 (fun j hj=>by
   unfold bodyF;rw[if_neg (by omega),if_neg (by omega),if_pos (by omega)];congr 1;omega)]
  exact numOf_back _ (by omega) 5 (Int.ediv_eq_zero_of_lt (by omega) (by omega))
 have e1:bodyF t 2=t.of:=byte0 (by omega) (by omega);have e3:bodyF t 8=t.copy:=byte0 (by omega) (by omega);have e4:decide (bodyF t 9=1)=t.lost:=by
  have:bodyF t 9=byteOf (if t.lost then 1 else 0) 0:=rfl;rw[this]
  cases t.lost<;>decide
 unfold decT;rw[e0,e1,e2,e3,e4]
end
section
open Go.RowKit
attribute [local irreducible] GF.pw GF.lg GF.mul GF.inv GF.xt
def Chip.prog(C:Chip)(a:Nat)(W:Nat->Nat->Nat):Nat->Chip×Int
 |0=>(C,0)
 |k+1=>if (C.prog a W k).2=0 then (C.prog a W k).1.write a k (W k) else C.prog a W k
def bodyN(t:Tg)(j:Nat):Nat:=(bodyF t j).toNat
theorem bodyN_lt(t:Tg)(j:Nat):bodyN t j<256:=by
 have:=bodyF_bd t j;unfold bodyN;omega
theorem bodyN_int(t:Tg)(j:Nat):((bodyN t j:Nat):Int)=bodyF t j:=by
 have:=bodyF_bd t j;unfold bodyN;omega
def encP(D:Nat->Nat)(t:Tg)(k:Nat):Nat->Nat:=GF.encW (msg58 (layF D (bodyN t)) k)
theorem hit_wf{C:Chip}(h:C.Wf)(B:Nat):(C.hit B).Wf:=by
 unfold Chip.hit;split
 ·refine⟨h.b0,h.b1,fun b=>?_,h.now,h.truth⟩;have:=h.bf b;have:=h.bf B;simp only[updf];split<;>omega
 ·exact h
theorem setCh_wf{C:Chip}(h:C.Wf)(a k:Nat){x:Chunk}(h1:∀i,x.now i<256)(h2:∀i,x.truth i<256):(C.setCh a k x).Wf:=by
 refine⟨h.b0,h.b1,h.bf,fun a' k' i=>?_,fun a' k' i=>?_⟩
 ·unfold Chip.setCh;simp only;split
  ·exact h1 i
  ·exact h.now _ _ _
 ·unfold Chip.setCh;simp only;split
  ·exact h2 i
  ·exact h.truth _ _ _
theorem write_wf{C:Chip}(h:C.Wf)(a k:Nat){b:Nat->Nat}(hb:∀i,b i<256):(C.write a k b).1.Wf:=by
 unfold Chip.write;split
 ·exact h
 ·split
  ·exact h
  ·split
   ·split
    ·exact hit_wf h.step _
    ·exact setCh_wf (hit_wf h.step _) _ _ hb hb
   ·exact h.step
theorem prog_wf{C:Chip}(h:C.Wf)(a:Nat){W:Nat->Nat->Nat}(hW:∀k i,W k i<256):∀n,(C.prog a W n).1.Wf
 |0=>h
 | n+1=>by
  have ih:=prog_wf h a hW n;unfold Chip.prog;split
  ·exact write_wf ih _ _ (hW n)
  ·exact ih
theorem stepE_off{C:Chip}(h:C.stepE.2=0):C.stepE.1.off=C.off:=by
 unfold Chip.stepE at h ⊢;split
 ·rename_i hc
  rw[if_pos hc] at h;split
  ·rename_i h0
   rw[if_pos h0] at h
   cases h
  ·rfl
 ·rfl
theorem hit_off(C:Chip)(B:Nat):(C.hit B).off=C.off:=by
 unfold Chip.hit;split<;>rfl
theorem write_done{C:Chip}{a k:Nat}{b:Nat->Nat}(h:(C.write a k b).2=0):C.off=false/\(C.write a k b).1.off=false/\(C.ch a k).is=false/\(C.write a k b).1.ch=(C.setCh a k ⟨b,b,true,0⟩).ch:=by
 unfold Chip.write at h ⊢;by_cases h1:C.off=true
 ·rw[if_pos h1] at h
  cases h
 rw[if_neg h1] at h ⊢;by_cases h2:(C.ch a k).is=true
 ·rw[if_pos h2] at h
  cases h
 rw[if_neg h2] at h ⊢;by_cases h3:C.stepE.2=0
 ·rw[if_pos h3] at h ⊢;by_cases h4:(C.stepE.1.hit (a/8)).failed (a/8)=true
  ·rw[if_pos h4] at h
   cases h
  ·rw[if_neg h4];refine⟨by simpa using h1,?_,by simpa using h2,?_⟩
   ·show(C.stepE.1.hit (a/8)).off=false;rw[hit_off,stepE_off h3];simpa using h1
   ·unfold Chip.setCh;simp only[Chip.hit_ch,Chip.stepE_ch]
 ·rw[if_neg h3] at h;exact absurd h h3
theorem prog_done{C:Chip}{a:Nat}{W:Nat->Nat->Nat}:∀ {n:Nat},0<n->(C.prog a W n).2=0->(C.prog a W n).1.off=false/\∀k,k<n->(C.prog a W n).1.ch a k=⟨W k,W k,true,0⟩
 |0,h0,_=>absurd h0 (by omega)
 | n+1,_,h=>by
  unfold Chip.prog at h ⊢;by_cases h1:(C.prog a W n).2=0
  ·rw[if_pos h1] at h ⊢;obtain⟨g1,g2,g3,g4⟩:=write_done h;refine⟨g2,fun k hk=>?_⟩;rw[g4];by_cases hkn:k=n
   ·subst hkn;rw[Chip.setCh_same]
   ·rw[Chip.setCh_ne _ _ (fun e=>hkn e.2)];have hn:0<n:=by omega
    exact(prog_done hn h1).2 k (by omega)
  ·rw[if_neg h1] at h;exact absurd h h1
theorem readP_enc{p D:Nat->Nat}{t:Tg}{a:Nat}(hD:∀j,D j<256)(ht:t.ok)(hta:t.place=a)(hp:∀k,k<4->∀i,i<64->chk p k i=encP D t k i) :
  (readP p a).tagged=true/\(readP p a).tag=t/\(readP p a).sound=true/\(∀j,j<174->(readP p a).data j=D j):=by
 have hq:∀j,layF D (bodyN t) j<256:=layF_lt hD (bodyN_lt t);have hnear:∀k,k<4->Near (encP D t k) (chk p k):=fun k hk=>⟨GF.encW_lt (fun j=>hq _),GF.enc_cw (fun j=>hq _),by
  rw[GF.dist_comm,dist_congr (hp k hk),dist_self];omega⟩
 have hdec:∀k,k<4->∃V,decW (chk p k)=some V/\∀i,i<64->V i=encP D t k i:=fun k hk=>decW_near (hnear k hk);obtain⟨V,hV,he⟩:=hdec 3 (by omega);have hb:∀j,j<50->natI V j=bodyF t j:=fun j hj=>by
  unfold natI;rw[he j (by omega)];unfold encP GF.encW;rw[if_pos (by omega)];unfold msg58 layF;rw[if_neg (by omega),if_pos (by omega),show 3*58+j-174=j by omega,bodyN_int]
 have hm:∀j,j<8->natI V (50+j)=markF j:=fun j hj=>by
  unfold natI;rw[he (50+j) (by omega)];unfold encP GF.encW;rw[if_pos (by omega)];unfold msg58 layF;rw[if_neg (by omega),if_neg (by omega),show 3*58+(50+j)-224=j by omega,markF_nat]
 have hdT:decT (natI V)=t:=by
  rw[<-back_t ht];unfold decT;rw[numOf_congr (f:=natI V) (g:=bodyF t) 2 (fun j hj=>hb j (by omega)),numOf_congr (f:=fun j=>natI V (3+j)) (g:=fun j=>bodyF t (3+j)) 5 (fun j hj=>hb (3+j) (by omega)),hb 2 (by omega),hb 8 (by omega),hb 9 (by omega)]
 have htag:TagOk V a:=⟨hm,by unfold decOk;rw[hdT];exact⟨ht,fun j hj=>(hb j hj).symm⟩,by rw[hdT];exact hta⟩;have hs:(decW (chk p 0)).isSome/\(decW (chk p 1)).isSome/\(decW (chk p 2)).isSome:=by
  obtain⟨a0,h0,_⟩:=hdec 0 (by omega);obtain⟨a1,h1,_⟩:=hdec 1 (by omega);obtain⟨a2,h2,_⟩:=hdec 2 (by omega);rw[h0,h1,h2];exact⟨rfl,rfl,rfl⟩
 have hR:readP p a=⟨true,decT (natI V),true,_,_⟩:=readR_all hV htag hs;rw[hR,hdT];refine⟨rfl,rfl,rfl,fun j hj=>?_⟩;simp only;obtain⟨U,hU,hUe⟩:=hdec (j/58) (by omega);rw[hU,Option.getD_some,hUe _ (by omega)];unfold encP GF.encW;rw[if_pos (by omega)];unfold msg58 layF;rw[show j/58*58+j%58=j by omega,if_pos hj]
end
section
open Go.RowKit
attribute [local irreducible] GF.pw GF.lg GF.mul GF.inv GF.xt
theorem prog_stuck{C:Chip}{a:Nat}{W:Nat->Nat->Nat}{i:Nat}(h:(C.prog a W i).2≠0):∀n,i<=n->C.prog a W n=C.prog a W i
 | 0,h0=>by
  obtain rfl:i=0:=by omega
  rfl
 | n+1,h0=>by
  by_cases hn:i=n+1
  ·subst hn;rfl
  ·have ih:=prog_stuck h n (by omega);show(if (C.prog a W n).2=0 then (C.prog a W n).1.write a n (W n) else C.prog a W n)=_;rw[ih,if_neg h]
def PgmEnd(w:World)(m c f cd g h a:Nat)(C:Chip)(n:Int)(D:Nat->Nat)(t:Tg)(v:Value)(w':World):Prop :=
 Keep [m,c,g] w w'/\(((C.prog a (encP D t) 4).2≠0/\v=errOf (C.prog a (encP D t) 4).2/\Med w' m c f cd g h (C.prog a (encP D t) 4).1 n) \/
  ((C.prog a (encP D t) 4).2=0/\v=errOf 0/\Med w' m c f cd g h ((C.prog a (encP D t) 4).1.readE a) (w64 (n+1))))
theorem Ru.ldtgAt{w:World}{x o:Nat}{tg s:Bool}{t:Tg}{dv:Value}{d:Int}{K:Value->World->Prop}(r:Row w x 149 9 (pgc tg t s dv d))(e:o=1)(k:K (.agg t.arr) w):Ru Tryz.prog (loadVar 67 ⟨x,o,none⟩) w K:=by
 subst e;refine⟨_,_,run_tg r (by omega) (fun j hj=>?_),k⟩;have:j=0\/j=1\/j=2\/j=3\/j=4:=by omega
 rcases this with rfl|rfl|rfl|rfl|rfl<;>rfl
theorem program_ok(w:World)(m c f cd g h a dd:Nat)(C:Chip)(n:Int)(A:Option Addr)(D:Nat->Nat)(t:Tg)(H:Med w m c f cd g h C n)(hw:C.Wf)(ha:a<96)(hD:∀j,D j<256)(rD:RdB w A 174 D)(hdd:174<=dd)
  (hA:∀x,A=some x->x.block≠m/\x.block≠c/\x.block≠g) (ht:t.ok) (hta:t.place=a) :
  Spec Tryz.prog 159 #[.pointer (some ⟨m,0,none⟩),.int .i64 a,.agg t.arr,.slice A 174 dd] w (PgmEnd w m c f cd g h a C n D t):=by
 have hmc:=H.mc;have hmg:=H.mg;have hcg:=H.cg;have hlt:=H.lt;refine spec_of_wpE (T:=tt) tt_ok Tryz.func159 rfl (by decide +kernel) Tryz.ntmps159 (by simp) ?_;conv=>whnf
 refine Ru.boxtg ?_;intro x6 w1 hx6 hs1 r6 k1;have H1:=H.keep0 k1;conv=>whnf
 refine Ru.ldtg r6 ?_;conv=>whnf
 refine Ca.of (encode_ok t w1) ?_;rintro v w2 ⟨k2,hv⟩;rcases hv with⟨-,X,db,rfl,lyX,hX⟩|⟨hn,-⟩
 case inr=>exact absurd ht hn
 have H2:=H1.keep0 k2;have r62:=r6.keep k2 (by simp);have rD2:=(rD.keep0 k1).keep0 k2;have rX:RdB w2 X 50 (bodyN t):=lyX.rd1.congr (fun j hj=>by rw[bodyN_int]);have hs2:=k2.size;conv=>whnf
 repeat ((first|(refine Ld.rowAt r62 0 (by omega) (by omega) ?_)|(refine Br.nyes hta ?_)|(refine Ld.rowAt H2.row 1 (by omega) (by omega) ?_)|refine Br.f ?_|refine Ru.neq_nil0 ?_|refine CW.s ?_);conv=>whnf)
 refine Ca.of (lay_ok w2 f cd g h dd db A X D (bodyN t) hD (bodyN_lt t) rD2 rX hdd H2.frm) ?_;rintro v w3 ⟨f3,O,oc,bk,ek,rfl,lyO,hO⟩;have H3:=H2.of f3;have r63:=r62.keep f3.kp (by simp;omega);have rD3:=rD2.keep f3.kp (fun x hx=>by simpa using(hA x hx).2.2);have hs3:=f3.kp.size;have K3:Keep [m,c,g] w w3:=((k1.mono (by simp)).trans (k2.mono (by simp))).trans (f3.kp.mono (by simp));have hW:∀k i,encP D t k i<256:=fun k i=>GF.encW_lt (fun j=>layF_lt hD (bodyN_lt t) _) i;have hOl:∀k,k<4->w2.heap.size<=bk k/\Wd w3 (bk k) (ek k) (encP D t k):=hO;clear hO lyX rX rD2;conv=>whnf
 repeat ((first|refine Br.f ?_|refine Ru.neq_nil0 ?_|refine CW.s ?_);conv=>whnf)
 refine CW.loop (ι:=Nat) (fun i w'=>i<=4/\(C.prog a (encP D t) i).2=0/\Med w' m c f cd g h (C.prog a (encP D t) i).1 n/\Keep [c] w3 w') (fun i=>[(0,.pointer (some ⟨m,0,none⟩)),(1,.int .i64 a),(3,.slice A 174 dd),(6,.pointer (some ⟨x6,0,none⟩)),(42,.slice O 4 oc),(43,.int .i64 4),(44,.int .i64 i)]) (fun i=>4-i) 0 tt_ok ⟨by omega,rfl,H3,Keep.refl _ _⟩ ⟨rfl,rfl,rfl,rfl,rfl,rfl,rfl,trivial⟩ ?_;rintro i wr ⟨hi,hp,Hr,kr⟩;have hsr:=kr.size;by_cases hl:i<4
 ·obtain⟨hb1,wd⟩:=hOl i hl;have lyOr:Ly wr 37 1 O 4 oc (fun k=>.slice (some ⟨bk k,0,none⟩) 64 (ek k)):=lyO.keep kr (fun x hx hc=>Ly.row_ne lyO H3.chip (by decide) (by rw[List.mem_singleton.1 hc] at hx;exact hx));have wdr:Wd wr (bk i) (ek i) (encP D t i):=Ly.keep wd kr (fun x hx=>by
   rw[List.mem_singleton.1 hx];simp;omega)
  obtain⟨bO,rfl,hcO,-⟩:=lyOr.at1 hl;have hek:64<=ek i:=wdr.1;have hnext:C.prog a (encP D t) (i+1)=(C.prog a (encP D t) i).1.write a i (encP D t i):=if_pos hp;conv=>whnf
  repeat ((first|(refine Ld.at (by omega) hcO ?_)|(refine Ld.rowAt Hr.row 0 (by omega) (by omega) ?_)|refine Ix.n ?_|refine Br.y ?_|refine CW.s ?_);conv=>whnf)
  refine Ca.of (write_ok wr c a i (ek i) (C.prog a (encP D t) i).1 (some ⟨bk i,0,none⟩) (encP D t i) Hr.chip (prog_wf hw a hW i) ha hl wdr.rd1 hek (fun x hx=>by cases hx;simp only;omega)) ?_;rintro _ w4 ⟨rfl,hc4,k4⟩;have H4:=Hr.chipTo k4 hc4;rw[<-hnext] at H4 ⊢;have k34:=kr.trans k4;by_cases he:(C.prog a (encP D t) (i+1)).2=0
  ·rw[he];conv=>whnf
   repeat ((first|refine Br.f ?_|refine Ar.la ?_|refine Ru.neq_nil0 ?_);conv=>whnf)
   exact⟨i+1,⟨hl,he,H4,k34⟩,⟨rfl,rfl,rfl,rfl,rfl,rfl,vi (by omega),trivial⟩,by simp only;omega⟩
  ·have hst:=prog_stuck he 4 (by omega);conv=>whnf
   repeat ((first|(refine Ru.neq_nil rfl ?_)|(refine Br.nno he ?_));conv=>whnf)
   refine⟨rfl,(K3.then k34 (fun x hx=>.inl (by simp at hx ⊢;omega))),.inl ?_⟩;rw[hst];exact⟨he,rfl,H4⟩
 obtain rfl:i=4:=by omega
 obtain⟨hoff,hch⟩:=prog_done (by omega) hp;have hpw:=prog_wf hw a hW 4;have rDr:=rD3.keep kr (fun x hx=>by simpa using(hA x hx).2.1);have r6r:=r63.keep kr (by simp;omega);have hres:PgmEnd w m c f cd g h a C n D t=fun v w'=>Keep [m,c,g] w w'/\(((C.prog a (encP D t) 4).2≠0/\v=errOf (C.prog a (encP D t) 4).2/\Med w' m c f cd g h (C.prog a (encP D t) 4).1 n) \/
  ((C.prog a (encP D t) 4).2=0/\v=errOf 0/\Med w' m c f cd g h ((C.prog a (encP D t) 4).1.readE a) (w64 (n+1)))):=rfl;rw[hres];clear hres;generalize C.prog a (encP D t) 4=S at *;have henc:=readP_enc (p:=pageW S.1 a) hD ht hta (fun k hk i hi=>by
  unfold chk pageW;rw[show(k*64+i)/64=k by omega,show(k*64+i)%64=i by omega,hch k hk])
 conv=>whnf
 repeat ((first|refine Br.f ?_|refine CW.s ?_);conv=>whnf)
 refine Ca.of (mread_ok wr m c f cd g h a S.1 n Hr hpw ha) ?_;rintro v w5 hv;rcases hv with⟨ho,-⟩|⟨-,dv,hdv,rfl,H5,k5⟩
 ·rw[hoff] at ho
  cases ho
 generalize readP (pageW S.1 a) a=R at *;obtain⟨e1,e2,e3,e4⟩:=henc;rcases hdv with⟨-,O5,oc5,rfl,hO5,lyO5⟩|⟨hf,-⟩
 case inr =>
  rw[e3] at hf
  cases hf
 rw[e2,e3];have rD5:=rDr.keep k5 (fun x hx=>by have:=hA x hx;simp;omega);have r65:=r6r.keep k5 (by simp;omega);have hs5:=k5.size;conv=>whnf
 refine Ru.alloca (alloc_page w5) ?_;intro x15 w6 hx15 hs6 r15 k6;conv=>whnf
 refine Ru.stpage r15 (pgc_one rfl) ?_;intro w7 r15 k7;have r67:=(r65.keep k6 (by simp)).keep k7 (by simp;omega);have rD7:=(rD5.keep0 k6).keep k7 (fun x hx=>by
  obtain⟨b0,o0,hb0,hc0⟩:=rD5 (by omega);rw[hb0] at hx
  cases hx
  have:=cell_lt (hc0 0 (by omega));simp only at this ⊢;simp;omega)
 have lyO7:=(lyO5.keep0 k6).keep k7 (fun x hx=>by
  have:=Ly.blk_lt lyO5 hx;simp;omega)
 have H7:=(H5.keep0 k6).keep k7 (by simp;omega) (by simp;omega) (by simp;omega) (by simp;omega) (by simp;omega) (by simp;omega);have K5:Keep [m,c,g] w w5:=(K3.trans (kr.mono (by simp))).trans k5;have K7:Keep [m,c,g] w w7:=(K5.trans (k6.mono (by simp))).then k7 (fun x hx=>.inr (by have:=List.mem_singleton.1 hx;omega));conv=>whnf
 repeat ((first|(refine Ld.rowAt r15 6 (by omega) (by omega) ?_)|(refine Ru.ldtgAt r15 (by omega) ?_)|(refine Ru.ldtg r67 ?_)|(refine Ru.of (neq_tg _ _ _ _ _) ?_)|refine Br.f ?_|refine Pk.f ?_|refine Ru.neq_nil0 ?_|refine CW.s ?_);conv=>whnf)
 have htt:(!decide (t=t))=false:=by simp
 rw[htt];conv=>whnf
 repeat ((first|(refine Ld.rowAt r15 7 (by omega) (by omega) ?_)|refine Br.f ?_);conv=>whnf)
 have rdO:Rd w7 O5 174 (fun j=>.int .u8 (natI D j)):=lyO7.rd1.congr (fun j hj=>by unfold natI;rw[e4 j hj]);refine Ca.of (bytesEqual_ok O5 A 174 174 oc5 dd (natI D) (natI D) w7 rdO rD7 (fun j=>by have:=hD j;unfold natI;omega) (fun j=>by have:=hD j;unfold natI;omega)) ?_;rintro _ _ ⟨rfl,rfl⟩;rw[sameB_yes (n0:=174) (n1:=174) rfl (fun _ _=>rfl)];conv=>whnf
 repeat ((first|refine Br.f ?_|refine Pk.f ?_);conv=>whnf)
 exact⟨rfl,K7,.inr ⟨hp,rfl,H7⟩⟩
end
section
open Go.RowKit
attribute [local irreducible] GF.pw GF.lg GF.mul GF.inv GF.xt
def mx(f:Nat->Nat):Nat->Nat
 |0=>0
 |k+1=>max (mx f k) (f k)
theorem mx_congr{f g:Nat->Nat}:∀n,(∀k,k<n->f k=g k)->mx f n=mx g n
 |0,_=>rfl
 | n+1,h=>by
  unfold mx;rw[mx_congr n (fun k hk=>h k (by omega)),h n (by omega)]
theorem dmgTo_len(x:Chunk):∀n,x.dmgTo n=((List.range n).filter fun i=>decide (x.now i≠x.truth i)).length
 |0=>rfl
 | n+1=>by
  rw[List.range_succ,List.filter_append,List.length_append, <-dmgTo_len x n,dmg_step];by_cases h:x.now n=x.truth n
  ·simp[h]
  ·simp[h]
theorem dmg_dist(x:Chunk):x.dmg=GF.dist x.now x.truth:=dmgTo_len x 64
section
variable{p D:Nat->Nat}{t:Tg}{a:Nat}
theorem encP_lt(hD:∀j,D j<256)(k i:Nat):encP D t k i<256:=GF.encW_lt (fun j=>layF_lt hD (bodyN_lt t) _) i
theorem encP_cw(hD:∀j,D j<256)(k:Nat):GF.IsCw (encP D t k):=GF.enc_cw (fun j=>layF_lt hD (bodyN_lt t) _)
theorem tag_word(hD:∀j,D j<256)(ht:t.ok)(hta:t.place=a){V:Nat->Nat}(he:∀i,i<64->V i=encP D t 3 i):TagOk V a/\decT (natI V)=t:=by
 have hb:∀j,j<50->natI V j=bodyF t j:=fun j hj=>by
  unfold natI;rw[he j (by omega)];unfold encP GF.encW;rw[if_pos (by omega)];unfold msg58 layF;rw[if_neg (by omega),if_pos (by omega),show 3*58+j-174=j by omega,bodyN_int]
 have hm:∀j,j<8->natI V (50+j)=markF j:=fun j hj=>by
  unfold natI;rw[he (50+j) (by omega)];unfold encP GF.encW;rw[if_pos (by omega)];unfold msg58 layF;rw[if_neg (by omega),if_neg (by omega),show 3*58+(50+j)-224=j by omega,markF_nat]
 have hdT:decT (natI V)=t:=by
  rw[<-back_t ht];unfold decT;rw[numOf_congr (f:=natI V) (g:=bodyF t) 2 (fun j hj=>hb j (by omega)),numOf_congr (f:=fun j=>natI V (3+j)) (g:=fun j=>bodyF t (3+j)) 5 (fun j hj=>hb (3+j) (by omega)),hb 2 (by omega),hb 8 (by omega),hb 9 (by omega)]
 exact⟨⟨hm,by unfold decOk;rw[hdT];exact⟨ht,fun j hj=>(hb j hj).symm⟩,by rw[hdT];exact hta⟩,hdT⟩
theorem readP_near(hD:∀j,D j<256)(ht:t.ok)(hta:t.place=a)(hp:∀k,k<4->GF.dist (encP D t k) (chk p k)<=2) :
  (readP p a).tagged=true/\(readP p a).tag=t/\(readP p a).sound=true/\(∀j,j<174->(readP p a).data j=D j)/\(readP p a).damage=mx (fun k=>GF.dist (encP D t k) (chk p k)) 4:=by
 have hdec:∀k,k<4->∃V,decW (chk p k)=some V/\∀i,i<64->V i=encP D t k i:=fun k hk=>decW_near ⟨encP_lt hD k,encP_cw hD k,hp k hk⟩;obtain⟨V,hV,he⟩:=hdec 3 (by omega);obtain⟨htag,hdT⟩:=tag_word hD ht hta he;have hs:(decW (chk p 0)).isSome/\(decW (chk p 1)).isSome/\(decW (chk p 2)).isSome:=by
  obtain⟨a0,h0,_⟩:=hdec 0 (by omega);obtain⟨a1,h1,_⟩:=hdec 1 (by omega);obtain⟨a2,h2,_⟩:=hdec 2 (by omega);rw[h0,h1,h2];exact⟨rfl,rfl,rfl⟩
 have hR:readP p a=⟨true,decT (natI V),true,dmgUp p (fun k=>decW (chk p k)) 4,_⟩:=readR_all hV htag hs;rw[hR,hdT];refine⟨rfl,rfl,rfl,fun j hj=>?_,?_⟩
 ·simp only;obtain⟨U,hU,hUe⟩:=hdec (j/58) (by omega);rw[hU,Option.getD_some,hUe _ (by omega)];unfold encP GF.encW;rw[if_pos (by omega)];unfold msg58 layF;rw[show j/58*58+j%58=j by omega,if_pos hj]
 ·simp only;have key:∀n,n<=4->dmgUp p (fun k=>decW (chk p k)) n=mx (fun k=>GF.dist (encP D t k) (chk p k)) n:=by
   intro n
   induction n with
   |zero=>intro _;rfl
   | succ n ih =>
    intro hn;unfold dmgUp mx;rw[ih (by omega)];obtain⟨U,hU,hUe⟩:=hdec n (by omega);simp only[hU];rw[dist_congr hUe]
  exact key 4 (Nat.le_refl _)
end
theorem mark_ne:∀j,j<8->markF j≠255:=by decide
end
section
open Go.RowKit
attribute [local irreducible] GF.pw GF.lg GF.mul GF.inv GF.xt
inductive Pg where
 |blank
 |torn (n:Nat)
 |full (t:Tg) (D:Nat->Nat)
structure CS where
 pg:Nat->Pg
 dm:Nat->Nat
 rd:Nat->Int
 failed:Nat->Bool
 before:Nat->Int
 atErase:Nat->Bool
def cutD(D:Nat->Nat):Nat->Nat:=fun j=>if j<174 then D j else 0
theorem cutD_cut(D:Nat->Nat):cutD (cutD D)=cutD D:=by
 funext j;unfold cutD;by_cases h:j<174<;>simp[h]
theorem cutD_congr{D D':Nat->Nat}(h:∀j,j<174->D j=D' j):cutD D=cutD D':=by
 funext j;unfold cutD;by_cases hj:j<174
 ·rw[if_pos hj,if_pos hj,h j hj]
 ·rw[if_neg hj,if_neg hj]
theorem layF_congr{D D' B:Nat->Nat}(h:∀j,j<174->D j=D' j):layF D B=layF D' B:=by
 funext j;unfold layF;by_cases hj:j<174
 ·rw[if_pos hj,if_pos hj,h j hj]
 ·rw[if_neg hj,if_neg hj]
theorem encP_congr{D D':Nat->Nat}(h:∀j,j<174->D j=D' j)(t:Tg):encP D t=encP D' t:=by
 unfold encP;rw[layF_congr h]
theorem encP_cut(D:Nat->Nat)(t:Tg):encP (cutD D) t=encP D t:=encP_congr (fun j hj=>by unfold cutD;rw[if_pos hj]) t
def PgOk(C:Chip)(p:Nat):Pg->Prop
 |.blank=>∀k,k<4->(C.ch p k).is=false/\(C.ch p k).truth=(fun _=>255)
 |.torn n=>1<=n/\n<=3/\∀k,k<4->(C.ch p k).is=decide (k<n)/\(n<=k->(C.ch p k).truth=(fun _=>255))
 |.full t D=>t.ok/\t.place=p/\(∀j,D j<256)/\cutD D=D/\∀k,k<4->(C.ch p k).is=true/\(C.ch p k).truth=encP D t k
structure Abs(C:Chip)(A:CS):Prop where
 wf:C.Wf
 page:∀p,p<96->PgOk C p (A.pg p)
 few:∀p k,p<96->k<4->(C.ch p k).dmg<=2
 dm:∀p t D,p<96->A.pg p=.full t D->A.dm p=mx (fun k=>(C.ch p k).dmg) 4
 rd:C.reads=A.rd
 failed:C.failed=A.failed
 before:C.before=A.before
 atErase:C.atErase=A.atErase
 wst:∀p k,p<96->k<4->((C.ch p k).dmg:Int)<=(C.ch p k).worst
def PgRead(A:CS)(p:Nat)(R:PageR):Prop:=match A.pg p with
 |.full t D=>R.tagged=true/\R.tag=t/\R.sound=true/\cutD R.data=D/\R.damage=A.dm p
 |_=>R.tagged=false/\R.tag=Tg.zero/\R.sound=false
theorem dist_chk(C:Chip)(p k:Nat)(U:Nat->Nat):GF.dist U (chk (pageW C p) k)=GF.dist (C.ch p k).now U:=by
 rw[GF.dist_comm];apply dist_congr;intro i hi;unfold chk pageW;rw[show(k*64+i)/64=k by omega,show(k*64+i)%64=i by omega]
theorem no_mark2{V U:Nat->Nat}(hV:Near V U)(hU:GF.dist U (fun _=>255)<=4):¬Marked (natI V):=fun hm=>by
 have h2:=GF.dist_tri V U (fun _=>255);have h3:=hV.2.2;have h4:8<=GF.dist V (fun _=>255):=by
  have h5:((List.range 64).filter fun i=>decide (50<=i/\i<58)).length=8:=by decide +kernel
  rw[<-h5];unfold GF.dist GF.difL;rw[<-List.countP_eq_length_filter, <-List.countP_eq_length_filter];refine List.countP_mono_left (fun i _ h=>?_);have h:50<=i/\i<58:=by simpa using h
  have hmi:=hm (i-50) (by omega);have hne:=mark_ne (i-50) (by omega);rw[show 50+(i-50)=i by omega] at hmi;unfold natI at hmi;simp only[ne_eq,decide_eq_true_eq];intro e;rw[e] at hmi;exact hne hmi.symm
 omega
theorem Abs.read{C:Chip}{A:CS}(H:Abs C A){p:Nat}(hp:p<96):PgRead A p (readP (pageW C p) p):=by
 have hpg:=H.page p hp;have hdm:=fun t D=>H.dm p t D hp;have hfew:=fun k=>H.few p k hp;have hno:∀k:Nat,(C.ch p 3).truth=(fun _=>255)->readP (pageW C p) p=⟨false,Tg.zero,false,dmgUp (pageW C p) (fun k=>decW (chk (pageW C p) k)) 4,fun _=>0⟩:=fun _ ht=>readR_none (fun V hV hta=>no_mark2 (decW_some hV) (by
  rw[GF.dist_comm,dist_chk, <-ht, <-dmg_dist];have:=hfew 3 (by omega);omega) hta.1)
 unfold PgRead
 cases hA:A.pg p with
 | blank =>
  rw[hA] at hpg;rw[hno 0 (hpg 3 (by omega)).2];exact⟨rfl,rfl,rfl⟩
 | torn n =>
  rw[hA] at hpg;rw[hno 0 ((hpg.2.2 3 (by omega)).2 hpg.2.1)];exact⟨rfl,rfl,rfl⟩
 | full t D =>
  rw[hA] at hpg;obtain⟨ht,hta,hD,hc,hk⟩:=hpg;have e:∀k,k<4->GF.dist (encP D t k) (chk (pageW C p) k)=(C.ch p k).dmg:=fun k h=>by
   rw[dist_chk,dmg_dist,(hk k h).2]
  obtain⟨h1,h2,h3,h4,h5⟩:=readP_near (p:=pageW C p) hD ht hta (fun k h=>by rw[e k h];exact hfew k h);refine⟨h1,h2,h3,?_,?_⟩
  ·rw[<-hc];exact cutD_congr h4
  ·rw[h5,hdm t D hA];exact mx_congr 4 e
theorem PgOk.congr{C C':Chip}{p:Nat}{x:Pg}(h:PgOk C p x)(e:∀k,k<4->(C'.ch p k).is=(C.ch p k).is/\(C'.ch p k).truth=(C.ch p k).truth):PgOk C' p x:=by
 cases x with
 |blank=>exact fun k hk=>by rw[(e k hk).1,(e k hk).2];exact h k hk
 |torn n=>exact⟨h.1,h.2.1,fun k hk=>by rw[(e k hk).1,(e k hk).2];exact h.2.2 k hk⟩
 |full t D=>exact⟨h.1,h.2.1,h.2.2.1,h.2.2.2.1,fun k hk=>by rw[(e k hk).1,(e k hk).2];exact h.2.2.2.2 k hk⟩
theorem Abs.ext{C C':Chip}{A A':CS}(H:Abs C A)(hw:C'.Wf)(hch:C'.ch=C.ch)(hpg:A'.pg=A.pg)(hdm:A'.dm=A.dm)(h1:C'.reads=A'.rd)(h2:C'.failed=A'.failed)(h3:C'.before=A'.before)(h4:C'.atErase=A'.atErase):Abs C' A' :=
 ⟨hw,fun p hp=>by rw[hpg];exact(H.page p hp).congr (fun k hk=>by rw[hch];exact⟨rfl,rfl⟩),fun p k hp hk=>by rw[hch];exact H.few p k hp hk,fun p t D hp h=>by rw[hpg] at h;rw[hdm,hch];exact H.dm p t D hp h,h1,h2,h3,h4,fun p k hp hk=>by rw[hch];exact H.wst p k hp hk⟩
def CS.readE(A:CS)(p:Nat):CS:={ A with rd:=updf A.rd (p/8) (w64 (A.rd (p/8)+1)) }
theorem Abs.readE{C:Chip}{A:CS}(H:Abs C A)(p:Nat):Abs (C.readE p) (A.readE p) :=
 H.ext ⟨H.wf.b0,H.wf.b1,H.wf.bf,H.wf.now,H.wf.truth⟩ rfl rfl rfl (by show updf C.reads _ _=_;rw[H.rd];rfl) H.failed H.before H.atErase
def CS.hit(A:CS)(B:Nat):CS:=if 0<A.before B then { A with before:=updf A.before B (A.before B-1),failed:=updf A.failed B (A.failed B||decide (A.before B-1=0)) } else A
def CS.setPg(A:CS)(p:Nat)(x:Pg):CS:={ A with pg:=updf A.pg p x,dm:=updf A.dm p 0 }
def CS.wr(A:CS)(p k:Nat)(t:Tg)(D:Nat->Nat):CS×Int :=
 if (A.hit (p/8)).failed (p/8) then (A.hit (p/8),8) else ((A.hit (p/8)).setPg p (if k=3 then .full t (cutD D) else .torn (k+1)),0)
def CS.progTo(A:CS)(p:Nat)(t:Tg)(D:Nat->Nat):Nat->CS×Int
 |0=>(A,0)
 |k+1=>if (A.progTo p t D k).2=0 then (A.progTo p t D k).1.wr p k t D else A.progTo p t D k
def CS.progTr(A:CS)(p:Nat)(t:Tg)(D:Nat->Nat):Nat->List CS
 |0=>[]
 |k+1=>if (A.progTo p t D k).2=0 then A.progTr p t D k++[(A.progTo p t D k).1] else A.progTr p t D k
theorem Abs.step{C:Chip}{A:CS}(H:Abs C A):Abs C.stepE.1 A:=by
 refine H.ext H.wf.step C.stepE_ch rfl rfl ?_ ?_ ?_ ?_
 all_goals
  unfold Chip.stepE;first|rw[<-H.rd] | rw[<-H.failed] | rw[<-H.before] | rw[<-H.atErase]
  split
  ·split<;>rfl
  ·rfl
theorem Abs.hit{C:Chip}{A:CS}(H:Abs C A)(B:Nat):Abs (C.hit B) (A.hit B):=by
 have hw:=hit_wf H.wf B;have hch:=C.hit_ch B;unfold Chip.hit CS.hit at *;rw[<-H.before, <-H.failed];by_cases hb:0<C.before B
 ·rw[if_pos hb] at hw hch ⊢;rw[if_pos hb];exact H.ext hw hch rfl rfl H.rd rfl rfl H.atErase
 ·rw[if_neg hb] at hw hch ⊢;rw[if_neg hb];exact H
theorem dmg_self(b:Nat->Nat)(i:Bool)(wo:Int):(⟨b,b,i,wo⟩:Chunk).dmg=0:=by
 rw[dmg_dist];exact dist_self b
theorem mx_zero{f:Nat->Nat}:∀n,(∀k,k<n->f k=0)->mx f n=0
 |0,_=>rfl
 | n+1,h=>by
  unfold mx;rw[mx_zero n (fun k hk=>h k (by omega)),h n (by omega)];rfl
theorem CS.setPg_same(A:CS)(p:Nat)(x:Pg):(A.setPg p x).pg p=x:=if_pos rfl
theorem CS.setPg_ne(A:CS){p q:Nat}(x:Pg)(h:q≠p):(A.setPg p x).pg q=A.pg q:=if_neg h
theorem Abs.put{C:Chip}{A:CS}(H:Abs C A){p k:Nat}(hp:p<96)(hk:k<4){x:Pg}{b:Nat->Nat}(hb:∀i,b i<256)(hx:PgOk (C.setCh p k ⟨b,b,true,0⟩) p x)(hdm:∀t D,x=.full t D->∀j,j<4->j≠k->(C.ch p j).dmg=0):Abs (C.setCh p k ⟨b,b,true,0⟩) (A.setPg p x):=by
 refine⟨setCh_wf H.wf p k hb hb,fun q hq=>?_,fun q j hq hj=>?_,fun q t D hq h=>?_,H.rd,H.failed,H.before,H.atErase,fun q j hq hj=>?_⟩
 ·by_cases e:q=p
  ·subst e;rw[CS.setPg_same];exact hx
  ·rw[CS.setPg_ne _ _ e];exact(H.page q hq).congr (fun j hj=>by rw[Chip.setCh_ne _ _ (fun h=>e h.1)];exact⟨rfl,rfl⟩)
 ·by_cases e:q=p/\j=k
  ·obtain⟨rfl,rfl⟩:=e;rw[Chip.setCh_same,dmg_self];omega
  ·rw[Chip.setCh_ne _ _ e];exact H.few q j hq hj
 ·by_cases e:q=p
  ·subst e;rw[CS.setPg_same] at h;have:(A.setPg q x).dm q=0:=if_pos rfl;rw[this]
   symm
   refine mx_zero 4 (fun j hj=>?_);by_cases ej:j=k
   ·subst ej;rw[Chip.setCh_same,dmg_self]
   ·rw[Chip.setCh_ne _ _ (fun h=>ej h.2)];exact hdm t D h j hj ej
  ·rw[CS.setPg_ne _ _ e] at h;have:(A.setPg p x).dm q=A.dm q:=if_neg e;rw[this,H.dm q t D hq h];exact mx_congr 4 (fun j hj=>by rw[Chip.setCh_ne _ _ (fun h=>e h.1)])
 ·by_cases e:q=p/\j=k
  ·obtain⟨rfl,rfl⟩:=e;rw[Chip.setCh_same,dmg_self];exact Int.le_refl 0
  ·rw[Chip.setCh_ne _ _ e];exact H.wst q j hq hj
def Chip.left(C:Chip)(b:Option Nat):Prop:=C.off=false/\(match b with|none=>C.cut=false|some n=>C.cut=true/\C.budget=n)
def fits(b:Option Nat)(n:Nat):Prop:=∀x,b=some x->n<=x
def less(b:Option Nat)(n:Nat):Option Nat:=b.map (· - n)
theorem left_step{C:Chip}{b:Option Nat}(h:C.left b)(hf:fits b 1):C.stepE.2=0/\C.stepE.1.left (less b 1):=by
 obtain⟨h1,h2⟩:=h;unfold Chip.stepE
 cases b with
 | none =>
  simp only at h2;rw[if_neg (by rw[h2];simp)];exact⟨rfl,h1,h2⟩
 | some n =>
  simp only at h2;have hn:=hf n rfl;rw[if_pos h2.1,if_neg (by rw[h2.2];omega)];exact⟨rfl,h1,h2.1,by show C.budget-1=((n-1:Nat):Int);rw[h2.2];omega⟩
theorem out_step{C:Chip}(h:C.left (some 0)):C.stepE.2=7/\C.stepE.1.off=true:=by
 obtain⟨h1,h2,h3⟩:=h;unfold Chip.stepE;rw[if_pos h2,if_pos (by rw[h3];rfl)];exact⟨rfl,rfl⟩
theorem hit_left{C:Chip}{b:Option Nat}(h:C.left b)(B:Nat):(C.hit B).left b:=by
 unfold Chip.hit;split
 ·exact h
 ·exact h
theorem setCh_left{C:Chip}{b:Option Nat}(h:C.left b)(a k:Nat)(x:Chunk):(C.setCh a k x).left b:=h
def DeadAs(C:Chip)(A:CS):Prop:=C.off=true/\Abs C A
theorem less_less(b:Option Nat)(m n:Nat):less (less b m) n=less b (m+n):=by
 cases b with
 |none=>rfl
 |some x=>simp[less];omega
theorem less_zero(b:Option Nat):less b 0=b:=by
 cases b<;>rfl
theorem abs_progTo{C:Chip}{A:CS}(H:Abs C A){p:Nat}{t:Tg}{D:Nat->Nat}{b:Option Nat}(hp:p<96)(ht:t.ok)(hta:t.place=p)(hD:∀j,D j<256)(hl:C.left b)(hbl:A.pg p=.blank):∀n,n<=4 ->
  (fits b (A.progTr p t D n).length->(C.prog p (encP D t) n).2=(A.progTo p t D n).2/\Abs (C.prog p (encP D t) n).1 (A.progTo p t D n).1/\(C.prog p (encP D t) n).1.left (less b (A.progTr p t D n).length)/\((A.progTo p t D n).2=0->∀k,n<=k->k<4->((C.prog p (encP D t) n).1.ch p k).is=false/\((C.prog p (encP D t) n).1.ch p k).truth=fun _=>255)) /\
  (∀x,b=some x->∀h:x<(A.progTr p t D n).length,(C.prog p (encP D t) n).2=7/\DeadAs (C.prog p (encP D t) n).1 (A.progTr p t D n)[x])
 | 0,_=>by
  have h:=H.page p hp;rw[hbl] at h;refine⟨fun _=>⟨rfl,H,?_,fun _ k _ hk=>h k hk⟩,fun x _ hx=>absurd hx (by simp[CS.progTr])⟩;rw[show(A.progTr p t D 0).length=0 from rfl,less_zero];exact hl
 | n+1,hn=>by
  obtain⟨ih1,ih2⟩:=abs_progTo H hp ht hta hD hl hbl n (by omega);by_cases h0:(A.progTo p t D n).2=0
  case neg =>
   have e2:A.progTo p t D (n+1)=A.progTo p t D n:=if_neg h0;have e3:A.progTr p t D (n+1)=A.progTr p t D n:=if_neg h0;rw[e2,e3];refine⟨fun hf=>?_,fun x hx hlt=>?_⟩
   ·obtain⟨g1,g2,g3,g4⟩:=ih1 hf;have e1:C.prog p (encP D t) (n+1)=C.prog p (encP D t) n:=if_neg (by rw[g1];exact h0);rw[e1];exact⟨g1,g2,g3,fun h=>absurd h h0⟩
   ·obtain⟨g1,g2⟩:=ih2 x hx hlt;have e1:C.prog p (encP D t) (n+1)=C.prog p (encP D t) n:=if_neg (by rw[g1];decide);rw[e1];exact⟨g1,g2⟩
  have e2:A.progTo p t D (n+1)=(A.progTo p t D n).1.wr p n t D:=if_pos h0;have e3:A.progTr p t D (n+1)=A.progTr p t D n++[(A.progTo p t D n).1]:=if_pos h0;rw[e2,e3];have hlen:(A.progTr p t D n++[(A.progTo p t D n).1]).length=(A.progTr p t D n).length+1:=by simp
  by_cases hfit:fits b (A.progTr p t D n).length
  case neg =>
   refine⟨fun hf=>absurd (fun x hx=>by have:=hf x hx;rw[hlen] at this;omega) hfit,fun x hx hlt=>?_⟩;have hx2:x<(A.progTr p t D n).length:=by
    by_cases h:x<(A.progTr p t D n).length
    ·exact h
    ·exact absurd (fun y hy=>by rw[hx] at hy;injection hy with hy;omega) hfit
   obtain⟨g1,g2⟩:=ih2 x hx hx2;have e1:C.prog p (encP D t) (n+1)=C.prog p (encP D t) n:=if_neg (by rw[g1];decide);rw[e1,List.getElem_append_left hx2];exact⟨g1,g2⟩
  obtain⟨g1,g2,g3,g4⟩:=ih1 hfit;have g4:=g4 h0;have e1:C.prog p (encP D t) (n+1)=(C.prog p (encP D t) n).1.write p n (encP D t n):=if_pos (by rw[g1];exact h0);have hdone:∀k,k<n->(C.prog p (encP D t) n).1.ch p k=⟨encP D t k,encP D t k,true,0⟩:=fun k hk=>(prog_done (by omega) (by rw[g1];exact h0)).2 k hk;rw[e1];clear e1 e2 e3 g1 h0 ih1 ih2;generalize (C.prog p (encP D t) n).1=S at *;generalize (A.progTo p t D n).1=T at *;generalize A.progTr p t D n=L at *;have e3:S.write p n (encP D t n)=if S.stepE.2=0 then (if (S.stepE.1.hit (p/8)).failed (p/8) then (S.stepE.1.hit (p/8),8) else ((S.stepE.1.hit (p/8)).setCh p n ⟨encP D t n,encP D t n,true,0⟩,0)) else S.stepE:=by
   unfold Chip.write;rw[if_neg (by rw[g3.1];simp),if_neg (by rw[(g4 n (Nat.le_refl _) (by omega)).1];simp)]
  rw[e3];have s2:=g2.step;refine⟨fun hf=>?_,fun x hx hlt=>?_⟩
  case refine_2 =>
   have hxe:x=L.length:=by
    have:=hfit x hx;rw[hlen] at hlt;omega
   subst hxe;have hz:S.left (some 0):=by
    have:less b L.length=some 0:=by rw[hx];simp[less]
    rw[this] at g3;exact g3
   obtain⟨o1,o2⟩:=out_step hz;rw[if_neg (by rw[o1];decide)];refine⟨o1,o2,?_⟩;rw[List.getElem_append_right (Nat.le_refl _)];simpa using s2
  obtain⟨l1,l2⟩:=left_step g3 (fun x hx=>by
   cases b with
   |none=>cases hx
   | some y =>
    have:=hf y rfl;rw[hlen] at this;simp[less] at hx;omega)
  rw[if_pos l1,hlen];rw[less_less] at l2;have s3:=s2.hit (p/8);have l3:=hit_left l2 (p/8);unfold CS.wr;rw[s3.failed];have hch:(S.stepE.1.hit (p/8)).ch=S.ch:=by rw[Chip.hit_ch,Chip.stepE_ch]
  by_cases hfl:(T.hit (p/8)).failed (p/8)=true
  ·rw[if_pos hfl,if_pos hfl];exact⟨rfl,s3,l3,fun h=>by cases h⟩
  rw[if_neg hfl,if_neg hfl];have hlt:∀i,encP D t n i<256:=encP_lt hD n;refine⟨rfl,s3.put hp (by omega) hlt ?_ ?_,setCh_left l3 _ _ _,fun _ k hk hk4=>?_⟩
  ·have hc:∀k,k<n+1->((S.stepE.1.hit (p/8)).setCh p n ⟨encP D t n,encP D t n,true,0⟩).ch p k=⟨encP D t k,encP D t k,true,0⟩:=fun k hk=>by
    by_cases e:k=n
    ·subst e;rw[Chip.setCh_same]
    ·rw[Chip.setCh_ne _ _ (fun h=>e h.2),hch];exact hdone k (by omega)
   have hc2:∀k,n+1<=k->k<4->(((S.stepE.1.hit (p/8)).setCh p n ⟨encP D t n,encP D t n,true,0⟩).ch p k).is=false/\(((S.stepE.1.hit (p/8)).setCh p n ⟨encP D t n,encP D t n,true,0⟩).ch p k).truth=fun _=>255:=fun k hk hk4=>by
    rw[Chip.setCh_ne _ _ (fun h=>by omega),hch];exact g4 k (by omega) hk4
   by_cases h3:n=3
   ·rw[if_pos h3];refine⟨ht,hta,fun j=>?_,cutD_cut D,fun k hk=>?_⟩
    ·unfold cutD;split
     ·exact hD j
     ·omega
    ·rw[hc k (by omega),encP_cut];exact⟨rfl,rfl⟩
   ·rw[if_neg h3];refine⟨by omega,by omega,fun k hk=>?_⟩;by_cases hkn:k<n+1
    ·rw[hc k hkn];exact⟨by simp[hkn],fun h=>by omega⟩
    ·rw[(hc2 k (by omega) hk).1];exact⟨by simp[hkn],fun _=>(hc2 k (by omega) hk).2⟩
  ·intro t' D' hx j hj hjn;by_cases h3:n=3
   ·rw[hch,hdone j (by omega),dmg_self]
   ·rw[if_neg h3] at hx
    cases hx
  ·rw[Chip.setCh_ne _ _ (fun h=>by omega),hch];exact g4 k (by omega) hk4
def CS.prog(A:CS)(p:Nat)(t:Tg)(D:Nat->Nat):CS×Int×List CS:=match A.pg p with
 |.blank=>((A.progTo p t D 4).1,(A.progTo p t D 4).2,A.progTr p t D 4)
 |_=>(A,9,[])
theorem Abs.prog{C:Chip}{A:CS}(H:Abs C A){p:Nat}{t:Tg}{D:Nat->Nat}{b:Option Nat}(hp:p<96)(ht:t.ok)(hta:t.place=p)(hD:∀j,D j<256)(hl:C.left b) :
  (fits b (A.prog p t D).2.2.length->(C.prog p (encP D t) 4).2=(A.prog p t D).2.1/\Abs (C.prog p (encP D t) 4).1 (A.prog p t D).1/\(C.prog p (encP D t) 4).1.left (less b (A.prog p t D).2.2.length)) /\
  (∀x,b=some x->∀h:x<(A.prog p t D).2.2.length,(C.prog p (encP D t) 4).2=7/\DeadAs (C.prog p (encP D t) 4).1 (A.prog p t D).2.2[x]):=by
 have first:C.write p 0 (encP D t 0)=(C,9)->C.prog p (encP D t) 4=(C,9):=fun h=>by
  have e1:C.prog p (encP D t) 1=(C,9):=by
   show(if (0:Int)=0 then C.write p 0 (encP D t 0) else (C,0))=_;rw[if_pos rfl,h]
  rw[prog_stuck (i:=1) (by rw[e1];exact(by decide:(9:Int)≠0)) 4 (by omega),e1]
 have hC:¬C.off=true:=by rw[hl.1];simp
 have hpg:=H.page p hp
 cases hA:A.pg p with
 | blank =>
  obtain⟨g1,g2⟩:=abs_progTo H hp ht hta hD hl hA 4 (by omega);have e:A.prog p t D=((A.progTo p t D 4).1,(A.progTo p t D 4).2,A.progTr p t D 4):=by
   unfold CS.prog;rw[hA]
  rw[e];exact⟨fun hf=>⟨(g1 hf).1,(g1 hf).2.1,(g1 hf).2.2.1⟩,g2⟩
 | torn n =>
  rw[hA] at hpg;have e:A.prog p t D=(A,9,[]):=by
   unfold CS.prog;rw[hA]
  have e2:=first (by
   unfold Chip.write;rw[if_neg hC,if_pos (by rw[(hpg.2.2 0 (by omega)).1];simp;exact hpg.1)])
  rw[e,e2];exact⟨fun _=>⟨rfl,H,by rw[show([]:List CS).length=0 from rfl,less_zero];exact hl⟩,fun x _ h=>absurd h (by simp)⟩
 | full t' D' =>
  rw[hA] at hpg;have e:A.prog p t D=(A,9,[]):=by
   unfold CS.prog;rw[hA]
  have e2:=first (by
   unfold Chip.write;rw[if_neg hC,if_pos (hpg.2.2.2.2 0 (by omega)).1])
  rw[e,e2];exact⟨fun _=>⟨rfl,H,by rw[show([]:List CS).length=0 from rfl,less_zero];exact hl⟩,fun x _ h=>absurd h (by simp)⟩
def Chip.erase(C : Chip)(B : Nat) : Chip×Int :=
  if C.off then (C, 7) else if C.stepE.2 = 0 then
    (if C.stepE.1.failed B||C.stepE.1.atErase B then ({ C.stepE.1 with failed := updf C.stepE.1.failed B true }, 8)
     else (({ C.stepE.1 with failed := updf C.stepE.1.failed B false } : Chip).clear B, 0))
  else C.stepE
def CS.erase(A:CS)(B:Nat):CS×Int :=
 if A.failed B||A.atErase B then ({ A with failed:=updf A.failed B true },8)
 else ({ A with failed:=updf A.failed B false,pg:=fun p=>if p/8=B then .blank else A.pg p,rd:=updf A.rd B 0 },0)
theorem Abs.erase{C:Chip}{A:CS}{b:Option Nat}(H:Abs C A)(B:Nat)(hl:C.left b) :
  (fits b 1->(C.erase B).2=(A.erase B).2/\Abs (C.erase B).1 (A.erase B).1/\(C.erase B).1.left (less b 1))/\(b=some 0->(C.erase B).2=7/\DeadAs (C.erase B).1 A):=by
 unfold Chip.erase;rw[if_neg (by rw[hl.1];simp)];have s2:=H.step;refine⟨fun hf=>?_,fun hb=>?_⟩
 case refine_2 =>
  subst hb;obtain⟨o1,o2⟩:=out_step hl;rw[if_neg (by rw[o1];decide)];exact⟨o1,o2,s2⟩
 obtain⟨l1,l2⟩:=left_step hl hf;rw[if_pos l1];unfold CS.erase;clear H hl hf l1;generalize C.stepE.1=S at *;rw[s2.failed,s2.atErase];by_cases hf:(A.failed B||A.atErase B)=true
 ·rw[if_pos hf,if_pos hf];exact⟨rfl,s2.ext ⟨s2.wf.b0,s2.wf.b1,s2.wf.bf,s2.wf.now,s2.wf.truth⟩ rfl rfl rfl s2.rd rfl s2.before s2.atErase,l2⟩
 ·rw[if_neg hf,if_neg hf];have hw:(({ S with failed:=updf A.failed B false }:Chip).clear B).Wf:=⟨s2.wf.b0,s2.wf.b1,s2.wf.bf,fun a k i=>by
   unfold Chip.clear;simp only;split
   ·exact(by decide:255<256)
   ·exact s2.wf.now _ _ _,fun a k i=>by
   unfold Chip.clear;simp only;split
   ·exact(by decide:255<256)
   ·exact s2.wf.truth _ _ _⟩
  refine⟨rfl,⟨hw,fun p hp=>?_,fun p k hp hk=>?_,fun p t D hp h=>?_,?_,rfl,s2.before,s2.atErase,fun p k hp hk=>?_⟩,l2⟩
  ·by_cases e:p/8=B
   ·simp only[if_pos e];intro k hk;unfold Chip.clear;simp only[if_pos e];exact⟨rfl,rfl⟩
   ·simp only[if_neg e];exact(s2.page p hp).congr (fun k hk=>by unfold Chip.clear;simp only[if_neg e,and_self])
  ·unfold Chip.clear;simp only;split
   ·rw[show Chunk.blank=⟨fun _=>255,fun _=>255,false,0⟩ from rfl,dmg_self];omega
   ·exact s2.few p k hp hk
  ·by_cases e:p/8=B
   ·simp only[if_pos e] at h
    cases h
   ·simp only[if_neg e] at h;rw[show(A.dm p)=_ from s2.dm p t D hp h];exact mx_congr 4 (fun k hk=>by unfold Chip.clear;simp only[if_neg e])
  ·show(fun b=>if b=B then 0 else S.reads b)=updf A.rd B 0;rw[s2.rd];rfl
  ·unfold Chip.clear;simp only;split
   ·rw[show Chunk.blank=⟨fun _=>255,fun _=>255,false,0⟩ from rfl,dmg_self];exact Int.le_refl 0
   ·exact s2.wst p k hp hk
end
section
open Go.RowKit
attribute [local irreducible] GF.pw GF.lg GF.mul GF.inv GF.xt
section
variable{w:World}{c B:Nat}{C:Chip}
theorem block_ok(w:World)(c B:Nat)(hB:B<12):Spec Tryz.prog 47 #[.pointer (some ⟨c,0,none⟩),.int .i64 B] w fun v w'=>v=.tuple #[.pointer (some ⟨c,B*4164,none⟩),errOf 0]/\w=w':=by
 refine spec_of_wpE (T:=tt) tt_ok Tryz.func47 rfl (by decide +kernel) Tryz.ntmps47 (by simp) ?_;conv=>whnf
 repeat ((first|(refine Ix.of B (by omega) (by omega) ?_)|refine Br.f ?_|refine Pk.f ?_|refine Br.n ?_|refine CW.s ?_);conv=>whnf)
 rw[show 0+0+B*4164=B*4164 by omega];exact⟨rfl,rfl,rfl⟩
theorem ebase{B n i:Nat}(h:n=4160+i):B*4164+n=bbase B+i:=by
 unfold bbase;omega
theorem aload_ok(b o:Nat)(x:Int)(w:World)(hc:w.cell? ⟨b,o,none⟩=some (.int .i64 x)) :
  Spec Tryz.prog 49 #[.pointer (some ⟨b,o,none⟩)] w fun v w'=>v=.int .i64 x/\w'=w:=by
 refine Spec.of_calls (by kernel_rfl) ?_;have hl:=run_call_load (P:=Tryz.prog) Tryz.func73 (by kernel_rfl) (by kernel_rfl) (by kernel_rfl) .i64 (by kernel_rfl) hc
 go_enter Tryz.func49,Tryz.ntmps49
 go_wp2
 go_ret
 exact⟨rfl,rfl⟩
theorem erase_ok(H : ChipAt w c C)(hw : C.Wf)(hB : B < 12) : Spec Tryz.prog 179 #[.pointer (some ⟨c, 0, none⟩), .int .i64 B] w fun v w' => v = errOf (C.erase B).2 /\ ChipAt w' c (C.erase B).1 /\ Keep [c] w w' := by
  refine spec_of_wpE (T := tt) tt_ok Tryz.func179 rfl (by decide +kernel) Tryz.ntmps179 (by simp) ?_;conv => whnf
  refine Ca.of (block_ok w c B hB) ?_;rintro _ _ ⟨rfl, rfl⟩;by_cases hoff : C.off = true
  · conv => whnf
    repeat ((first|(refine Ld.of H.off ?_)|(refine Br.is hoff ?_)|refine Br.f ?_|refine Ru.neq_nil0 ?_|refine CW.s ?_); conv => whnf)
    refine⟨rfl, ?_⟩;unfold Chip.erase;rw[if_pos hoff];exact⟨rfl, H, Keep.refl _ _⟩
  have hoff' : C.off = false := by simpa using hoff
  conv => whnf
  repeat ((first|(refine Ld.of H.off ?_)|(refine Br.isnt hoff' ?_)|refine Br.f ?_|refine Ru.neq_nil0 ?_|refine CW.s ?_); conv => whnf)
  refine Ca.of (step_ok w c C H ⟨hw.b0, hw.b1⟩) ?_;rintro _ w1 ⟨rfl, H1, k1⟩;by_cases he : C.stepE.2 = 0
  · rw[he]
    have hw1 := hw.step;have hdef : C.erase B = (if C.stepE.1.failed B||C.stepE.1.atErase B then ({ C.stepE.1 with failed := updf C.stepE.1.failed B true }, 8)
     else (({ C.stepE.1 with failed := updf C.stepE.1.failed B false } : Chip).clear B, 0)) := by
      unfold Chip.erase;rw[if_neg hoff, if_pos he]
    rw[hdef];generalize C.stepE.1 = D at *;clear hdef he;have hfe : ∀b : Bool, ChipAt (w1.setCell ⟨c, bbase B+1, none⟩ (.bool b)) c { D with failed := updf D.failed B b } := fun b => H1.setFailed hB b;have hfi : ∀b : Bool, (w1.setCell ⟨c, bbase B+1, none⟩ (.bool b)).cell? ⟨c, bbase B+1, none⟩ = some (.bool b) := fun b => by
      have := (hfe b).failedC hB;unfold updf at this;simpa using this
    have hfk : ∀b : Bool, Keep [c] w (w1.setCell ⟨c, bbase B+1, none⟩ (.bool b)) := fun b => k1.trans (Keep.set c (bbase B+1) (.bool b));by_cases hf : D.failed B = true
    · conv => whnf
      repeat ((first|(refine Ld.at (ebase (i := 1) rfl) (H1.failedC hB) ?_)|(refine Br.is hf ?_)|refine Br.t ?_|refine Br.f ?_|refine Pk.t ?_|refine Ru.neq_nil0 ?_); conv => whnf)
      refine Sd.setAt _ (ebase (i := 1) rfl) (H1.failedC hB) (Row.free H1 _) rfl ?_;have H2 := hfe true;have k2 := hfk true;have c2 := hfi true;generalize w1.setCell _ _ = w2 at *;conv => whnf
      repeat ((first|(refine Ld.at (ebase (i := 1) rfl) c2 ?_)|refine Br.t ?_|refine CW.s ?_); conv => whnf)
      rw[if_pos (by rw[hf]; rfl)];exact⟨rfl, rfl, H2, k2⟩
    have hf' : D.failed B = false := by simpa using hf
    conv => whnf
    repeat ((first|(refine Ld.at (ebase (i := 1) rfl) (H1.failedC hB) ?_)|(refine Ld.at (ebase (i := 3) rfl) (H1.atEraseC hB) ?_)|(refine Br.isnt hf' ?_)|refine Br.f ?_|refine Pk.f ?_|refine Ru.neq_nil0 ?_); conv => whnf)
    refine Sd.setAt _ (ebase (i := 1) rfl) (H1.failedC hB) (Row.free H1 _) rfl ?_;by_cases ha : D.atErase B = true
    · have H2 := hfe true
      have k2 := hfk true;have c2 := hfi true;rw[ha];generalize w1.setCell _ _ = w2 at *;conv => whnf
      repeat ((first|(refine Ld.at (ebase (i := 1) rfl) c2 ?_)|refine Br.t ?_|refine CW.s ?_); conv => whnf)
      rw[if_pos (by simp)];exact⟨rfl, rfl, H2, k2⟩
    have ha' : D.atErase B = false := by simpa using ha
    have H2 := hfe false;have k2 := hfk false;have c2 := hfi false;rw[ha'];generalize w1.setCell _ _ = w2 at *;conv => whnf
    repeat ((first|(refine Ld.at (ebase (i := 1) rfl) c2 ?_)|refine Br.f ?_|refine CW.s ?_); conv => whnf)
    refine Ca.of (clear_ok w2 c B _ hB H2) ?_;rintro _ w3 ⟨rfl, H3, k3⟩;conv => whnf
    rw[if_neg (by simp[hf'])];exact⟨rfl, rfl, H3, k2.trans k3⟩
  · unfold Chip.erase
    rw[if_neg hoff, if_neg he];have h7 : C.stepE.2 = 7 := (Chip.stepE_err C).resolve_left he;rw[h7];conv => whnf
    repeat ((first|refine Br.t ?_|refine Ru.n1 ?_); conv => whnf)
    exact⟨rfl, rfl, H1, k1⟩
theorem merase_ok{m f cd g h:Nat}{n:Int}(H:Med w m c f cd g h C n)(hw:C.Wf)(hB:B<12):Spec Tryz.prog 134 #[.pointer (some ⟨m,0,none⟩),.int .i64 B] w fun v w'=>v=errOf (C.erase B).2/\Med w' m c f cd g h (C.erase B).1 n/\Keep [c] w w':=by
 refine spec_of_wpE (T:=tt) tt_ok Tryz.func134 rfl (by decide +kernel) Tryz.ntmps134 (by simp) ?_;conv=>whnf
 repeat ((first|(refine Ld.of (H.row.cell 0 (by omega)) ?_));conv=>whnf)
 refine Ca.of (erase_ok H.chip hw hB) ?_;rintro _ w1 ⟨rfl,H1,k1⟩;conv=>whnf
 exact⟨rfl,rfl,H.chipTo k1 H1,k1⟩
theorem mreads_ok{m f cd g h:Nat}{n:Int}(H:Med w m c f cd g h C n):Spec Tryz.prog 158 #[.pointer (some ⟨m,0,none⟩)] w fun v w'=>v=.int .i64 n/\w=w':=by
 refine spec_of_wpE (T:=tt) tt_ok Tryz.func158 rfl (by decide +kernel) Tryz.ntmps158 (by simp) ?_;conv=>whnf
 refine Ca.of (aload_ok m _ _ w (H.row.cell 2 (by omega))) ?_;rintro _ _ ⟨rfl,rfl⟩;conv=>whnf
 exact⟨rfl,rfl,rfl⟩
end
end
section
open Go.RowKit
attribute [local irreducible] GF.pw GF.lg GF.mul GF.inv GF.xt
theorem Spec.mono{P:Program}{f:FuncId}{args:Array Value}{w:World}{Φ Ψ:Value->World->Prop}(h:Spec P f args w Φ)(k:∀v w',Φ v w'->Ψ v w'):Spec P f args w Ψ:=⟨h.1,h.2.mono fun e w' ⟨v,e1,e2⟩=>⟨v,e1,k v w' e2⟩⟩
structure Pt where
 m:Nat
 c:Nat
 f:Nat
 cd:Nat
 g:Nat
 h:Nat
def Pt.l(N:Pt):List Nat:=[N.m,N.c,N.g]
abbrev MedAt(w:World)(N:Pt)(C:Chip)(n:Int):Prop:=Med w N.m N.c N.f N.cd N.g N.h C n
def MedA(w:World)(N:Pt)(P:CS)(b:Option Nat)(n:Int):Prop:=∃C,MedAt w N C n/\Abs C P/\C.left b
def MedX(w:World)(N:Pt)(P:CS)(n:Int):Prop:=∃C,MedAt w N C n/\DeadAs C P
def Runs(b:Option Nat)(tr:List CS)(ok:Option Nat->Prop)(dead:CS->Prop):Prop :=
 (fits b tr.length/\ok (less b tr.length))\/∃x,∃h:x<tr.length,b=some x/\dead tr[x]
theorem Runs.of{b:Option Nat}{tr:List CS}{ok:Option Nat->Prop}{dead:CS->Prop}(h1:fits b tr.length->ok (less b tr.length))(h2:∀x,b=some x->∀h:x<tr.length,dead tr[x]):Runs b tr ok dead:=by
 cases b with
 |none=>exact .inl ⟨fun x hx=>(by cases hx),h1 (fun x hx=>(by cases hx))⟩
 | some x =>
  by_cases h:x<tr.length
  ·exact .inr ⟨x,h,rfl,h2 x rfl h⟩
  ·have hf:fits (some x) tr.length:=fun y hy=>by injection hy with hy;omega
   exact .inl ⟨hf,h1 hf⟩
theorem Runs.nil{b:Option Nat}{ok:Option Nat->Prop}{dead:CS->Prop}(h:ok b):Runs b [] ok dead :=
 .inl ⟨fun x hx=>Nat.zero_le _,by rw[show([]:List CS).length=0 from rfl,less_zero];exact h⟩
theorem Runs.gone{b:Option Nat}{t1 t2:List CS}{ok:Option Nat->Prop}{dead:CS->Prop}{x:Nat}(h:x<t1.length)(hb:b=some x)(hd:dead t1[x]):Runs b (t1++t2) ok dead :=
 .inr ⟨x,by simp;omega,hb,by rw[List.getElem_append_left h];exact hd⟩
theorem Runs.then{b:Option Nat}{t1 t2:List CS}{ok:Option Nat->Prop}{dead:CS->Prop}(hf:fits b t1.length)(h:Runs (less b t1.length) t2 ok dead):Runs b (t1++t2) ok dead:=by
 rcases h with⟨h1,h2⟩|⟨x,h1,h2,h3⟩
 ·refine .inl ⟨fun x hx=>?_,?_⟩
  ·subst hx;have:=h1 (x-t1.length) rfl;have:=hf x rfl;simp;omega
  ·rw[less_less] at h2;rw[List.length_append];exact h2
 ·cases b with
  |none=>cases h2
  | some y =>
   have h2:y-t1.length=x:=by simpa[less] using h2
   have:=hf y rfl;refine .inr ⟨y,by simp;omega,rfl,?_⟩;rw[List.getElem_append_right this];simp only[h2];exact h3
theorem Runs.mono{b:Option Nat}{tr:List CS}{ok ok':Option Nat->Prop}{dead dead':CS->Prop}(h:Runs b tr ok dead)(h1:∀b,ok b->ok' b)(h2:∀X,dead X->dead' X):Runs b tr ok' dead':=by
 rcases h with⟨f,o⟩|⟨x,hx,e,d⟩
 ·exact .inl ⟨f,h1 _ o⟩
 ·exact .inr ⟨x,hx,e,h2 _ d⟩
section
variable{w w':World}{N:Pt}{P:CS}{b:Option Nat}{n:Int}
theorem MedA.keep{S:List Nat}(H:MedA w N P b n)(k:Keep S w w')(h:N.m∉S/\N.c∉S/\N.f∉S/\N.cd∉S/\N.g∉S/\N.h∉S):MedA w' N P b n:=by
 obtain⟨C,h1,h2⟩:=H;exact⟨C,h1.keep k h.1 h.2.1 h.2.2.1 h.2.2.2.1 h.2.2.2.2.1 h.2.2.2.2.2,h2⟩
theorem MedA.keep0(H:MedA w N P b n)(k:Keep [] w w'):MedA w' N P b n:=H.keep k (by simp)
theorem MedX.keep{S:List Nat}(H:MedX w N P n)(k:Keep S w w')(h:N.m∉S/\N.c∉S/\N.f∉S/\N.cd∉S/\N.g∉S/\N.h∉S):MedX w' N P n:=by
 obtain⟨C,h1,h2⟩:=H;exact⟨C,h1.keep k h.1 h.2.1 h.2.2.1 h.2.2.2.1 h.2.2.2.2.1 h.2.2.2.2.2,h2⟩
def CS.pgm(A:CS)(p:Nat)(t:Tg)(D:Nat->Nat):CS×Int×List CS:=if (A.prog p t D).2.1=0 then ((A.prog p t D).1.readE p,0,(A.prog p t D).2.2) else A.prog p t D
def one(e n:Int):Int:=if e=0 then w64 (n+1) else n
theorem apgm_ok(H:MedA w N P b n){p dd:Nat}{A:Option Addr}{D:Nat->Nat}{t:Tg}(hp:p<96)(hD:∀j,D j<256)(rD:RdB w A 174 D)(hdd:174<=dd)(hA:∀x,A=some x->x.block≠N.m/\x.block≠N.c/\x.block≠N.g)(ht:t.ok)(hta:t.place=p) :
  Spec Tryz.prog 159 #[.pointer (some ⟨N.m,0,none⟩),.int .i64 p,.agg t.arr,.slice A 174 dd] w fun v w' =>
   Keep N.l w w'/\Runs b (P.pgm p t D).2.2 (fun b'=>v=errOf (P.pgm p t D).2.1/\MedA w' N (P.pgm p t D).1 b' (one (P.pgm p t D).2.1 n)) (fun X=>v=errOf 7/\MedX w' N X n):=by
 obtain⟨C,h1,h2,h3⟩:=H;refine Spec.mono (program_ok w N.m N.c N.f N.cd N.g N.h p dd C n A D t h1 h2.wf hp hD rD hdd hA ht hta) ?_;rintro v w' ⟨k,hv⟩;refine⟨k,?_⟩;obtain⟨g1,g2⟩:=h2.prog (b:=b) hp ht hta hD h3;have etr:(P.pgm p t D).2.2=(P.prog p t D).2.2:=by
  unfold CS.pgm;split<;>rfl
 rw[etr];refine Runs.of (fun hf=>?_) (fun x hx hl=>?_)
 ·obtain⟨a1,a2,a3⟩:=g1 hf;unfold CS.pgm;rw[a1] at hv;rcases hv with⟨hne,rfl,hm⟩|⟨he,rfl,hm⟩
  ·rw[if_neg hne];refine⟨rfl,C.prog p (encP D t) 4 |>.1,?_,a2,a3⟩;unfold one;rw[if_neg hne];exact hm
  ·rw[if_pos he];exact⟨rfl,_,hm,a2.readE p,a3⟩
 ·obtain⟨a1,a2⟩:=g2 x hx hl;rw[a1] at hv;rcases hv with⟨-,rfl,hm⟩|⟨he,-⟩
  ·exact⟨rfl,_,hm,a2⟩
  ·exact absurd he (by decide)
theorem aread_ok(H:MedA w N P b n){p:Nat}(hp:p<96) :
  Spec Tryz.prog 115 #[.pointer (some ⟨N.m,0,none⟩),.int .i64 p] w fun v w' =>
   Keep N.l w w'/\∃R dv,PgRead P p R/\DvOk w w' R dv/\v=.tuple #[agg 9 (pgc R.tagged R.tag R.sound dv (R.damage:Nat)),errOf 0]/\MedA w' N (P.readE p) b (w64 (n+1)):=by
 obtain⟨C,h1,h2,h3⟩:=H;refine Spec.mono (mread_ok w N.m N.c N.f N.cd N.g N.h p C n h1 h2.wf hp) ?_;rintro v w' (⟨hoff,-⟩|⟨hoff,dv,hd,rfl,hm,k⟩)
 ·rw[h3.1] at hoff
  cases hoff
 ·exact⟨k,_,dv,h2.read hp,hd,rfl,_,hm,h2.readE p,h3⟩
theorem aerase_ok(H:MedA w N P b n){B:Nat}(hB:B<12) :
  Spec Tryz.prog 134 #[.pointer (some ⟨N.m,0,none⟩),.int .i64 B] w fun v w' =>
   Keep [N.c] w w'/\Runs b [P] (fun b'=>v=errOf (P.erase B).2/\MedA w' N (P.erase B).1 b' n) (fun X=>v=errOf 7/\MedX w' N X n):=by
 obtain⟨C,h1,h2,h3⟩:=H;refine Spec.mono (merase_ok h1 h2.wf hB) ?_;rintro v w' ⟨rfl,hm,k⟩;refine⟨k,?_⟩;obtain⟨g1,g2⟩:=h2.erase B h3;refine Runs.of (fun hf=>?_) (fun x hx hl=>?_)
 ·obtain⟨a1,a2,a3⟩:=g1 hf;rw[a1];exact⟨rfl,_,hm,a2,a3⟩
 ·obtain rfl:x=0:=by simpa using hl
  obtain⟨a1,a2⟩:=g2 hx;rw[a1];exact⟨rfl,_,hm,a2⟩
theorem areads_ok(H:MedA w N P b n):Spec Tryz.prog 158 #[.pointer (some ⟨N.m,0,none⟩)] w fun v w'=>v=.int .i64 n/\w=w':=by
 obtain⟨C,h1,h2,h3⟩:=H;exact mreads_ok h1
theorem xreads_ok(H:MedX w N P n):Spec Tryz.prog 158 #[.pointer (some ⟨N.m,0,none⟩)] w fun v w'=>v=.int .i64 n/\w=w':=by
 obtain⟨C,h1,h2⟩:=H;exact mreads_ok h1
end
end
section
open Go.RowKit
structure Fd where
 place:Int
 tp:Int
 of:Int
 seq:Int
 copy:Int
 lost:Bool
deriving DecidableEq
def Fd.zero:Fd:=⟨0,0,0,0,0,false⟩
instance:Inhabited Fd:=⟨Fd.zero⟩
def Fd.arr(f:Fd):Array Value := #[.int .i64 f.place,.int .i64 f.tp,.int .i64 f.of,.int .i64 f.seq,.int .i64 f.copy,.bool f.lost]
def Fd.cell(f:Fd)(j:Nat):Value:=f.arr.getD j .nilIface
def fdF(L:List Fd)(q:Nat):Value:=(L.getD (q/6) Fd.zero).cell (q%6)
def Fd.sound(f:Fd):Bool:=decide (0<=f.place/\f.place<=95/\0<=f.of/\f.of<=24/\0<=f.seq/\f.seq<=1099511627775/\0<=f.copy/\f.copy<=255)
def Fd.wf(f:Fd):Prop:=(-9223372036854775808<=f.place/\f.place<=9223372036854775807)/\(-9223372036854775808<=f.tp/\f.tp<=9223372036854775807)/\(-9223372036854775808<=f.of/\f.of<=9223372036854775807)/\(-9223372036854775808<=f.seq/\f.seq<=9223372036854775807)/\(-9223372036854775808<=f.copy/\f.copy<=9223372036854775807)
theorem found_info:(Tryz.prog.info? 69).map (fun i=>(i.zero,i.size,i.bytes))=some (some (.agg Fd.zero.arr),6,48):=by kernel_rfl
theorem sound_ok(f:Fd)(w:World):Calls Tryz.prog 176 #[.agg f.arr] w fun e w'=>e=.returned (.bool f.sound)/\Keep [] w w':=by
 unfold Fd.arr Fd.sound;have hc:(0<=f.place/\f.place<=95/\0<=f.of/\f.of<=24/\0<=f.seq/\f.seq<=1099511627775/\0<=f.copy/\f.copy<=255)\/(0<=f.place/\f.place<=95/\0<=f.of/\f.of<=24/\0<=f.seq/\f.seq<=1099511627775/\0<=f.copy/\255<f.copy) \/
   (0<=f.place/\f.place<=95/\0<=f.of/\f.of<=24/\0<=f.seq/\f.seq<=1099511627775/\f.copy<0/\(0:Int)<=0)\/(0<=f.place/\f.place<=95/\0<=f.of/\f.of<=24/\0<=f.seq/\1099511627775<f.seq/\(0:Int)<=0/\(0:Int)<=0) \/
   (0<=f.place/\f.place<=95/\0<=f.of/\f.of<=24/\f.seq<0/\(0:Int)<=0/\(0:Int)<=0/\(0:Int)<=0)\/(0<=f.place/\f.place<=95/\0<=f.of/\24<f.of/\(0:Int)<=0/\(0:Int)<=0/\(0:Int)<=0/\(0:Int)<=0) \/
   (0<=f.place/\f.place<=95/\f.of<0/\(0:Int)<=0/\(0:Int)<=0/\(0:Int)<=0/\(0:Int)<=0/\(0:Int)<=0)\/(0<=f.place/\95<f.place/\(0:Int)<=0/\(0:Int)<=0/\(0:Int)<=0/\(0:Int)<=0/\(0:Int)<=0/\(0:Int)<=0)\/(f.place<0/\(0:Int)<=0/\(0:Int)<=0/\(0:Int)<=0/\(0:Int)<=0/\(0:Int)<=0/\(0:Int)<=0/\(0:Int)<=0):=by omega
 rcases hc with⟨h1,h2,h3,h4,h5,h6,h7,h8⟩|⟨h1,h2,h3,h4,h5,h6,h7,h8⟩|⟨h1,h2,h3,h4,h5,h6,h7,h8⟩|⟨h1,h2,h3,h4,h5,h6,h7,h8⟩|⟨h1,h2,h3,h4,h5,h6,h7,h8⟩|⟨h1,h2,h3,h4,h5,h6,h7,h8⟩|⟨h1,h2,h3,h4,h5,h6,h7,h8⟩|⟨h1,h2,h3,h4,h5,h6,h7,h8⟩|⟨h1,h2,h3,h4,h5,h6,h7,h8⟩
 all_goals
  first
   |rw[decide_eq_true (p:=0<=f.place/\_) (by omega)]
   |rw[decide_eq_false (p:=0<=f.place/\_) (by omega)]
  go_enter Tryz.func176,Tryz.ntmps176
  go_wp2
  go_ret
  refine⟨?_,(Keep.refl _ _).alloc _⟩;first
   |rfl
   |(simp;omega)
def ahead(a b:Int):Bool:=decide (0<=a/\a<=255/\0<=b/\b<=255/\1<=(b-a)%256/\(b-a)%256<=127)
theorem ahead_ok(a b:Int)(w:World):Calls Tryz.prog 195 #[.int .i64 a,.int .i64 b] w fun e w'=>e=.returned (.bool (ahead a b))/\w=w':=by
 unfold ahead;have hc:(0<=a/\a<=255/\0<=b/\b<=255)\/(0<=a/\a<=255/\0<=b/\255<b)\/(0<=a/\a<=255/\b<0/\(0:Int)<=0)\/(0<=a/\255<a/\(0:Int)<=0/\(0:Int)<=0)\/(a<0/\(0:Int)<=0/\(0:Int)<=0/\(0:Int)<=0):=by omega
 rcases hc with⟨h1,h2,h3,h4⟩|hc
 ·have hd:(b-a)%256<1\/(1<=(b-a)%256/\(b-a)%256<=127)\/(127<(b-a)%256/\1<=(b-a)%256):=by omega
  rcases hd with hd|⟨hd,hd2⟩|⟨hd,hd2⟩
  all_goals
   first
    |rw[decide_eq_true (p:=0<=a/\_) (by omega)]
    |rw[decide_eq_false (p:=0<=a/\_) (by omega)]
   go_enter Tryz.func195,Tryz.ntmps195
   go_wp2
   go_ret
   refine⟨?_,rfl⟩;first
    |rfl
    |(simp;omega)
 ·rcases hc with⟨h1,h2,h3,h4⟩|⟨h1,h2,h3,h4⟩|⟨h1,h2,h3,h4⟩|⟨h1,h2,h3,h4⟩
  all_goals
   rw[decide_eq_false (p:=0<=a/\_) (by omega)]
   go_enter Tryz.func195,Tryz.ntmps195
   go_wp2
   go_ret
   refine⟨?_,rfl⟩;first
    |rfl
    |(simp;omega)
def isNilSl:Value->Bool
 |.slice none 0 0=>true
 |_=>false
theorem isNilSl_eq{v:Value}(h:isNilSl v=true):v=.slice none 0 0:=by
 unfold isNilSl at h;split at h
 ·rfl
 ·cases h
noncomputable def zcells(t:TypeId):Array Value:=(((Tryz.prog.info? t).bind (·.zero)).getD (.agg #[])).cells
theorem arr_of_all(cs:Array Value)(N:Nat)(z:Value)(p:Value->Bool)(hp:∀v,p v=true->v=z)(h:(cs.toList.length == N&&cs.toList.all p)=true):cs=(Array.range N).map (fun _=>z):=by
 simp only[Bool.and_eq_true,beq_iff_eq,List.all_eq_true] at h;apply Array.ext
 ·simpa using h.1
 ·intro i h1 h2;simp only[Array.getElem_map];exact hp _ (h.2 _ (by simp))
theorem zat_chk:((zcells 282).toList.length == 96&&(zcells 282).toList.all isNilSl)=true:=by kernel_rfl
theorem zat:zcells 282=(Array.range 96).map (fun _=>.slice none 0 0):=arr_of_all _ _ _ isNilSl (fun _ h=>isNilSl_eq h) zat_chk
theorem alloc_at0(w:World):(Instr.alloc 282 true (.tuple #[])).run Tryz.prog w=.ok (.pointer (some ⟨w.heap.size,0,none⟩)) (w.alloc (.cells (zcells 282) 282)):=by kernel_rfl
theorem alloc_at(w:World):(Instr.alloc 282 true (.tuple #[])).run Tryz.prog w=.ok (.pointer (some ⟨w.heap.size,0,none⟩)) (w.alloc (rowObj 96 (fun _=>.slice none 0 0) 282)):=by
 rw[alloc_at0,zat];rfl
theorem size_at:(Tryz.prog.info? 282).map (·.size)=some 96:=by kernel_rfl
def sel(L:List Fd)(p:Nat):List Fd:=L.filter fun f=>f.sound&&f.place == (p:Int)
theorem sel_snoc(L:List Fd)(f:Fd)(p:Nat):sel (L++[f]) p=sel L p++if f.sound&&f.place == (p:Int) then [f] else []:=by
 unfold sel;rw[List.filter_append];simp only[List.filter_cons,List.filter_nil]
theorem sel_len(L:List Fd)(p:Nat):(sel L p).length<=L.length:=List.length_filter_le _ _
def byP(L:List Fd)(k:Nat):List Fd:=(List.range k).flatMap fun p=>sel L p
theorem take_snoc{L:List Fd}{k:Nat}(h:k<L.length):L.take (k+1)=L.take k++[L.getD k Fd.zero]:=by
 rw[List.take_add_one,List.getD_eq_getElem?_getD,List.getElem?_eq_getElem h];rfl
theorem fd_cells{w:World}{A:Option Addr}{L:List Fd}(r:Rd w A (L.length*6) (fdF L))(k:Nat)(hk:k<L.length) :
  ∃b o,A=some ⟨b,o,none⟩/\∀m,m<6->w.cell? ⟨b,o+k*6+m,none⟩=some ((L.getD k Fd.zero).cell m):=by
 obtain⟨b,o,e,h⟩:=r (by omega);refine⟨b,o,e,fun m hm=>?_⟩;have h1:=h (k*6+m) (by omega);have e1:(k*6+m)/6=k:=by omega
 have e2:(k*6+m)%6=m:=by omega
 unfold fdF at h1;rw[e1,e2] at h1;rw[<-h1,Nat.add_assoc]
structure ByIn(w:World)(g:Nat)(L:List Fd)(X:Nat->Option Addr)(C:Nat->Nat)(wr:World):Prop where
 row:Row wr g 282 96 (fun p=>.slice (X p) (sel L p).length (C p))
 ly:∀p,p<96->Ly wr 69 6 (X p) (sel L p).length (C p) (fdF (sel L p))
 new:∀p,p<96->∀x,x∈blk (X p)->w.heap.size<=x
 apart:∀p q,p<96->q<96->p≠q->∀x,x∈blk (X p)->x∉blk (X q)
 keep:Keep [] w wr
theorem ByIn.keep'{w:World}{g:Nat}{L:List Fd}{X:Nat->Option Addr}{C:Nat->Nat}{wr w':World}(h:ByIn w g L X C wr)(k:Keep [] wr w'):ByIn w g L X C w' :=
 ⟨h.row.keep k (fun h=>by cases h),fun p hp=>(h.ly p hp).keep0 k,h.new,h.apart,h.keep.trans k⟩
theorem fd_one_cell(f:Fd)(j:Nat)(hj:j<1*6):(f.cell j).oneCell'=true:=by
 have:j=0\/j=1\/j=2\/j=3\/j=4\/j=5:=by omega
 rcases this with rfl|rfl|rfl|rfl|rfl|rfl<;>rfl
theorem fdF_snoc(L:List Fd)(f:Fd)(j:Nat)(hj:j<(L.length+1)*6):fdF (L++[f]) j=if j<L.length*6 then fdF L j else f.cell (j-L.length*6):=by
 unfold fdF;by_cases h:j<L.length*6
 ·rw[if_pos h];have h2:j/6<L.length:=by omega
  simp[List.getElem?_append_left h2]
 ·rw[if_neg h];have h2:j/6=L.length:=by omega
  have h3:j-L.length*6=j%6:=by omega
  rw[h2,h3];simp
def upd{α:Type}(X:Nat->α)(p:Nat)(y:α):Nat->α:=fun q=>if q=p then y else X q
theorem ByIn.push{w:World}{L:List Fd}{X:Nat->Option Addr}{C:Nat->Nat}{w5 w6:World}{f:Fd}{p0 cY:Nat}{Y:Option Addr}(h:ByIn w w.heap.size L X C w5)(hs:f.sound=true)(hp:f.place=p0)(hp1:p0<96)
  (hy:Ly w6 69 6 Y ((sel L p0).length+1) cY (fun j=>if j<(sel L p0).length*6 then fdF (sel L p0) j else f.cell (j-(sel L p0).length*6))) (k:Keep (blk (X p0)) w5 w6) (hat:∀x,x∈blk Y->x∈blk (X p0)\/w5.heap.size<=x) :
  ByIn w w.heap.size (L++[f]) (upd X p0 Y) (upd C p0 cY) (w6.setCell ⟨w.heap.size,p0,none⟩ (.slice Y ((sel L p0).length+1) cY)):=by
 have hnb:=(h.ly p0 hp1).row_ne h.row (by decide);have r6:=h.row.keep k hnb;have e0:sel (L++[f]) p0=sel L p0++[f]:=by rw[sel_snoc,hs,hp];simp
 have e1:∀p,p≠p0->sel (L++[f]) p=sel L p:=fun p hne=>by
  rw[sel_snoc,if_neg,List.append_nil];rw[hp];simp;omega
 have hge:=h.row.lt;refine⟨?_,?_,?_,?_,?_⟩
 ·refine(r6.set p0 _).congr (fun p hp2=>?_);unfold put upd;by_cases hq:p=p0
  ·subst hq;simp[e0]
  ·simp[hq,e1 p hq]
 ·intro p hp2;by_cases hq:p=p0
  ·subst hq;have hf:=hy.row_ne r6 (by decide);simp only[upd,if_pos,e0,List.length_append,List.length_singleton];exact(hy.congr (fun j hj=>(fdF_snoc _ _ _ hj).symm)).far (fun x hx e=>by
    have e2:x=w.heap.size:=e;rw[e2] at hx;exact hf hx) _
  ·simp only[upd,if_neg hq,e1 p hq];have h1:=(h.ly p hp2).keep k (fun x hx=>h.apart p p0 hp2 hp1 hq x hx);exact h1.far (fun x hx e=>by
    have e2:x=w.heap.size:=e;rw[e2] at hx;exact h1.row_ne r6 (by decide) hx) _
 ·intro p hp2 x hx;by_cases hq:p=p0
  ·subst hq;simp only[upd,if_pos] at hx;rcases hat x hx with h1|h1
   ·exact h.new p hp2 x h1
   ·have:=h.keep.size;omega
  ·simp only[upd,if_neg hq] at hx;exact h.new p hp2 x hx
 ·intro p q hp2 hq2 hne x hx;by_cases h1:p=p0
  ·subst h1;have h2:q≠p:=fun e=>hne e.symm;simp only[upd,if_pos,if_neg h2] at hx ⊢;intro hx2;rcases hat x hx with h3|h3
   ·exact h.apart p q hp2 hq2 hne x h3 hx2
   ·have:=(h.ly q hq2).blk_lt hx2;omega
  ·by_cases h2:q=p0
   ·subst h2;simp only[upd,if_pos,if_neg h1] at hx ⊢;intro hx2;rcases hat x hx2 with h3|h3
    ·exact h.apart p q hp2 hq2 hne x hx h3
    ·have:=(h.ly p hp2).blk_lt hx;omega
   ·simp only[upd,if_neg h1,if_neg h2] at hx ⊢;exact h.apart p q hp2 hq2 hne x hx
 ·exact(h.keep.then k (fun x hx=>.inr (h.new p0 hp1 x hx))).setCell _ _ (.inr (Nat.le_refl _))
theorem countP_split(a b c:Fd->Bool)(h:∀f,(a f=true↔False)/\(b f=true↔c f=true)\/(b f=true↔False)/\(a f=true↔c f=true))(L:List Fd):L.countP a+L.countP b=L.countP c:=by
 induction L with
 |nil=>rfl
 | cons f L ih =>
  simp only[List.countP_cons];rcases h f with⟨h1,h2⟩|⟨h1,h2⟩
  ·by_cases hc:c f=true
   ·simp[h1,h2,hc];omega
   ·simp[h1,h2,hc];omega
  ·by_cases hc:c f=true
   ·simp[h1,h2,hc];omega
   ·simp[h1,h2,hc];omega
theorem byP_succ(L:List Fd)(k:Nat):byP L (k+1)=byP L k++sel L k:=by
 unfold byP;rw[List.range_succ,List.flatMap_append];simp
theorem byP_count(L:List Fd)(k:Nat):(byP L k).length=L.countP (fun f=>f.sound&&decide (0<=f.place/\f.place<(k:Int))):=by
 induction k with
 | zero =>
  have:(fun f:Fd=>f.sound&&decide (0<=f.place/\f.place<((0:Nat):Int)))=fun _=>false:=by
   funext f;have:¬(0<=f.place/\f.place<((0:Nat):Int)):=by omega
   simp[this]
  rw[this];simp[byP]
 | succ k ih =>
  rw[byP_succ,List.length_append,ih];show _+(L.filter _).length=_;rw[<-List.countP_eq_length_filter];refine countP_split _ _ _ (fun f=>?_) L;by_cases hs:f.sound=true
  ·by_cases hk:f.place=(k:Int)
   ·left;simp[hs,hk];omega
   ·right;simp[hs,hk];omega
  ·left;simp[hs]
theorem byP_len(L:List Fd)(k:Nat):(byP L k).length<=L.length:=by
 rw[byP_count];exact List.countP_le_length
theorem fdF_one(L:List Fd)(j:Nat):(fdF L j).oneCell'=true:=fd_one_cell _ _ (by omega)
theorem fdF_append(L M:List Fd)(j:Nat):fdF (L++M) j=if j<L.length*6 then fdF L j else fdF M (j-L.length*6):=by
 unfold fdF;by_cases h:j<L.length*6
 ·rw[if_pos h];have h2:j/6<L.length:=by omega
  simp[List.getElem?_append_left h2]
 ·rw[if_neg h];have h2:L.length<=j/6:=by omega
  have h3:(j-L.length*6)%6=j%6:=by omega
  have h4:(j-L.length*6)/6=j/6-L.length:=by omega
  rw[h3,h4];simp[List.getElem?_append_right h2]
theorem notAgg_founds(w:World):(isAgg 64).run Tryz.prog w=.ok false w:=by
 unfold isAgg;rw[Sem.run_bind,run_underlying Tryz.underlying64 w];rfl
theorem size_founds:(Tryz.prog.info? 64).map (·.size)=some 1:=by kernel_rfl
theorem fd_range(f:Fd):(Array.range 6).map f.cell=f.arr:=by
 apply Array.ext
 ·simp[Fd.arr]
 ·intro i h1 h2;have h3:i<6:=by simpa using h1
  have:i=0\/i=1\/i=2\/i=3\/i=4\/i=5:=by omega
  rcases this with rfl|rfl|rfl|rfl|rfl|rfl<;>simp[Fd.cell,Fd.arr]
theorem arr_agg(f:Fd):Value.agg f.arr=agg 6 f.cell:=by
 unfold agg;rw[fd_range]
theorem size_found:(Tryz.prog.info? 69).map (·.size)=some 6:=by kernel_rfl
theorem cell_one(f:Fd)(j:Nat)(hj:j<6):(f.cell j).oneCell'=true:=fd_one_cell f j (by omega)
theorem Row.fd{w:World}{g:Nat}{f:Fd}(h:w.heap[g]?=some (.cells f.arr 69 (0,0))):Row w g 69 6 f.cell:=by
 unfold Row;rw[fd_range];exact h
theorem Ru.allocfd{w:World}{K:Value->World->Prop}(k:∀g w',g=w.heap.size->w'.heap.size=w.heap.size+1->Row w' g 69 6 Fd.zero.cell->Keep [] w w'->K (.pointer (some ⟨g,0,none⟩)) w'):Ru Tryz.prog (Instr.alloc 69 true (.tuple #[])) w K :=
 ⟨_,w.alloc (.cells Fd.zero.arr 69),by kernel_rfl,k _ _ rfl (by simp) (Row.fd (heap_alloc_new _ _)) ((Keep.refl _ _).alloc _)⟩
theorem run_fd{w:World}{g o N:Nat}{t:TypeId}{F:Nat->Value}{f:Fd}(r:Row w g t N F)(hn:o+6<=N)(hf:∀j,j<6->F (o+j)=f.cell j):(loadVar 69 ⟨g,o,none⟩).run Tryz.prog w=.ok (.agg f.arr) w:=by
 have h:=run_load_agg (P:=Tryz.prog) r hn Tryz.underlying69 rfl size_found;rw[show agg 6 (fun j=>F (o+j))=.agg f.arr from(agg_congr hf).trans (arr_agg f).symm] at h;exact h
theorem Ru.ldfd{w:World}{g:Nat}{t:TypeId}{f:Fd}{K:Value->World->Prop}(r:Row w g t 6 f.cell)(k:K (.agg f.arr) w):Ru Tryz.prog (loadVar 69 ⟨g,0,none⟩) w K:=⟨_,_,run_fd r (by omega) (fun j _=>by rw[Nat.zero_add]),k⟩
theorem RuQ.ldfd{C:World->Prop}{g:Nat}{t:TypeId}{f:Fd}{K:Value->Prop}(r:∀w,C w->Row w g t 6 f.cell)(k:K (.agg f.arr)):RuQ Tryz.prog C (loadVar 69 ⟨g,0,none⟩) K:=⟨_,fun w hw=>run_fd (r w hw) (by omega) (fun j _=>by rw[Nat.zero_add]),k⟩
theorem load6{w:World}{g o:Nat}{f:Fd}(h:∀m,m<6->w.cell? ⟨g,o+m,none⟩=some (f.cell m)):(loadVar 69 ⟨g,o,none⟩).run Tryz.prog w=.ok (.agg f.arr) w:=by
 have e:∀m,m<6->(load ((⟨g,o,none⟩:Addr).add m)).run Tryz.prog w=.ok (f.cell m) w:=fun m hm=>by
  rw[add_none];simp[load,Sem.run,h m hm]
 have ha:(isAgg 69).run Tryz.prog w=.ok true w:=run_isAgg_of Tryz.underlying69 rfl w;have hs:(sizeOf 69).run Tryz.prog w=.ok 6 w:=size_of_is (by kernel_rfl) w;simp only[loadVar,Sem.run_bind,ha,Result.andThen_ok,if_true,hs,loadCells,loadCellsFrom,e 0 (by omega),e 1 (by omega),e 2 (by omega),e 3 (by omega),e 4 (by omega),e 5 (by omega),Sem.run_pure];rfl
theorem Ru.ldfds{w:World}{g o:Nat}{f:Fd}{K:Value->World->Prop}(h:∀m,m<6->w.cell? ⟨g,o+m,none⟩=some (f.cell m))(k:K (.agg f.arr) w):Ru Tryz.prog (loadVar 69 ⟨g,o,none⟩) w K:=⟨_,_,load6 h,k⟩
theorem Ru.stfd{w:World}{g:Nat}{t:TypeId}{b:Nat->Value}{f:Fd}{K:Unit->World->Prop}(r:Row w g t 6 b)(k:∀w',Row w' g t 6 f.cell->Keep [g] w w'->K () w'):Ru Tryz.prog (storeVar 69 ⟨g,0,none⟩ (.agg f.arr)) w K:=by
 rw[arr_agg];exact Ru.sta r size_found (by omega) (cell_one f) (fun w' r' k'=>k w' (r'.congr (fun j hj=>by unfold lay;rw[if_pos (by omega)];simp)) k')
theorem sound_sp(f:Fd)(w:World):Spec Tryz.prog 176 #[.agg f.arr] w fun v w'=>v=.bool f.sound/\Keep [] w w':=Spec.of_calls (by kernel_rfl) (sound_ok f w)
theorem buildfd_run(f:Fd)(w:World):(Instr.buildSlice 64 1 #[(0,.agg f.arr)]).run Tryz.prog w=.ok (.slice (some ⟨w.heap.size,0,none⟩) 1 1) (w.alloc (.cells f.arr 69)):=by kernel_rfl
theorem Ru.buildfd{w:World}(f:Fd){K:Value->World->Prop}(k:∀g w',g=w.heap.size->w'.heap.size=w.heap.size+1->Row w' g 69 6 f.cell->Keep [] w w'->K (.slice (some ⟨g,0,none⟩) 1 1) w'):Ru Tryz.prog (Instr.buildSlice 64 1 #[(0,.agg f.arr)]) w K :=
 ⟨_,_,buildfd_run f w,k _ _ rfl (by simp) (Row.fd (heap_alloc_new _ _)) ((Keep.refl _ _).alloc _)⟩
def ByPost(L:List Fd)(w:World)(v:Value)(w':World):Prop:=∃A c,v=.slice A (byP L 96).length c/\Ly w' 69 6 A (byP L 96).length c (fdF (byP L 96))/\(∀x,x∈blk A->w.heap.size<=x)/\Keep [] w w'
theorem byPlace_ok(A:Option Addr)(c:Nat)(L:List Fd)(w:World)(hr:Rd w A (L.length*6) (fdF L))(hn:L.length*48<=140737488351232) :
  Spec Tryz.prog 173 #[.slice A L.length c] w (ByPost L w):=by
 obtain⟨i0,hi,hz0,hz1,hz2⟩:=info_parts found_info;refine spec_of_wpE (T:=tt) tt_ok Tryz.func173 rfl (by decide +kernel) Tryz.ntmps173 (by simp) ?_;conv=>whnf
 refine Ru.of (alloc_at w) ?_;conv=>whnf
 repeat ((first|refine CW.s ?_);conv=>whnf)
 refine CW.loop (ι:=Nat×(Nat->Option Addr)×(Nat->Nat)) (fun i wr=>i.1<=L.length/\ByIn w w.heap.size (L.take i.1) i.2.1 i.2.2 wr) (fun i=>[(0,.slice A L.length c),(2,.slice none 0 0),(3,.pointer (some ⟨w.heap.size,0,none⟩)),(9,.slice A L.length c),(10,.int .i64 L.length),(11,.int .i64 i.1)]) (fun i=>L.length-i.1) (0,fun _=>none,fun _=>0) tt_ok ⟨by simp,Row.obj w _ _ _,fun p _=>Ly.nil _ _ _ _,(fun _ _ _ h=>by cases h),(fun _ _ _ _ _ _ h=>by cases h),(Keep.refl _ _).alloc _⟩ ?_ ?_
 ·exact⟨rfl,rfl,rfl,rfl,rfl,rfl,trivial⟩
 rintro⟨k,X,C⟩ wr ⟨hk,I⟩;simp only at hk I;by_cases hlt:k<L.length
 ·obtain⟨b,o,rfl,hc⟩:=fd_cells (hr.keep0 I.keep) k hlt;have htk:=take_snoc hlt;generalize L.getD k Fd.zero=f at *;conv=>whnf
  repeat ((first|refine Ix.n ?_|refine Br.y ?_|refine CW.s ?_);conv=>whnf)
  refine Ru.ldfds hc ?_;conv=>whnf
  refine Ru.allocfd ?_;intro g1 w1 hg1 hs1 r1 k1;conv=>whnf
  refine Ru.stfd r1 ?_;intro w2 r2 k2;conv=>whnf
  refine Ru.ldfd r2 ?_;conv=>whnf
  refine Ca.of (sound_sp f w2) ?_;rintro _ w3 ⟨rfl,k3⟩;have r3:=r2.keep k3 (by simp);have hG:=I.row.lt;have k23:Keep [g1] wr w3:=((k1.mono (by simp)).trans k2).trans (k3.mono (by simp));have kw:Keep [] wr w3:=(k1.then (T:=[g1]) (k2.trans (k3.mono (by simp))) (fun x hx=>.inr (by rw[List.mem_singleton.1 hx,hg1];exact Nat.le_refl _)));have I3:=I.keep' kw;conv=>whnf
  refine⟨fun hs=>?_,fun hs=>?_⟩
  ·have hp:0<=f.place/\f.place<=95:=by
    have:=of_decide_eq_true hs;omega
   have hp0:f.place=(f.place.toNat:Int):=by omega
   have hp1:f.place.toNat<96:=by omega
   generalize f.place.toNat=p0 at *;have hsl:(sel (L.take k) p0).length<=k:=Nat.le_trans (sel_len _ _) (by simp;omega);have hnb:=(I3.ly p0 hp1).row_ne I3.row (by decide);have hg1b:g1∉blk (X p0):=fun hx=>by have:=(I.ly p0 hp1).blk_lt hx;omega
   conv=>whnf
   refine CW.held (fun w'=>Row w' g1 69 6 f.cell/\w'.cell? ⟨w.heap.size,p0,none⟩=some (.slice (X p0) (sel (L.take k) p0).length (C p0))) [10] (.take 0 (.take 1 (.take 2 (.take 3 (.take 4 (.take 5 (.take 6 (.one 7 (.one 8 (.take 9 (.one 10 (.done)))))))))))) tt_ok (by kernel_rfl) (by kernel_rfl) (by kernel_rfl) ?_ ?_
   ·exact⟨r3.drewN 1,I3.row.cell p0 hp1⟩
   conv=>whnf
   repeat ((first|(refine Ix.of p0 hp0 hp1 ?_)|(refine LdQ.row (fun _ h=>h.1) (by omega) ?_)|(refine LdQ.at (by omega) (fun _ h=>h.2) ?_)|(refine RuQ.ldfd (fun _ h=>h.1) ?_));conv=>whnf)
   refine Ru.buildfd f ?_;intro g2 w4 hg2 hs2 r4 k4;have q4:Keep [] w3 w4:=((Keep.refl [] w3).drewN 1).trans k4;have I4:=I3.keep' q4;conv=>whnf
   refine⟨⟨r3.keep q4 (by simp),I4.row.cell p0 hp1⟩,?_⟩;conv=>whnf
   refine Bu.append Tryz.underlying64 hi hz0 hz1 hz2 rfl (by omega) (I4.ly p0 hp1) _ (Rd.of_row r4 (n:=1*6) (by omega)) (by omega) (by simp) (fun j hj=>fd_one_cell f j hj) (by simp only[maxLen];omega) (by omega) ?_;intro Y cY w5 hy hkp hat hpre;conv=>whnf
   refine⟨⟨(r3.keep q4 (by simp)).keep hkp hg1b,(I4.row.keep hkp hnb).cell p0 hp1⟩,?_⟩;conv=>whnf
   repeat ((first|(refine Ix.of p0 hp0 hp1 ?_));conv=>whnf)
   have rG:=I4.row.keep hkp hnb;refine Sd.setAt p0 (by omega) (rG.cell p0 hp1) (rG.free p0) rfl ?_;have II:=I4.push hs hp0 hp1 hy hkp (fun x hx=>by
    rcases hat with e|e
    ·rw[e] at hx;exact .inl hx
    ·rw[e] at hx;exact .inr (by rw[List.mem_singleton.1 hx];exact Nat.le_refl _))
   rw[<-htk] at II;conv=>whnf
   repeat ((first|refine Ar.la ?_);conv=>whnf)
   exact⟨(k+1,upd X p0 Y,upd C p0 cY),⟨hlt,II⟩,⟨rfl,rfl,rfl,rfl,rfl,rfl,trivial⟩,by simp only;omega⟩
  ·conv=>whnf
   repeat ((first|refine Ar.la ?_);conv=>whnf)
   have e1:∀p,sel (L.take (k+1)) p=sel (L.take k) p:=fun p=>by rw[htk,sel_snoc,hs];simp
   exact⟨(k+1,X,C),⟨hlt,⟨I3.row.congr (fun p _=>by rw[e1]),fun p hp=>by rw[e1];exact I3.ly p hp,I3.new,I3.apart,I3.keep⟩⟩,⟨rfl,rfl,rfl,rfl,rfl,rfl,trivial⟩,by simp only;omega⟩
 ·obtain rfl:k=L.length:=by omega
  rw[List.take_length] at I;conv=>whnf
  repeat ((first|refine Br.n ?_|refine CW.s ?_);conv=>whnf)
  refine Ru.lda I.row Tryz.underlying282 rfl size_at (by omega) ?_;conv=>whnf
  refine CW.loop (ι:=Nat×Option Addr×Nat) (fun i w2=>i.1<=96/\Ly w2 69 6 i.2.1 (byP L i.1).length i.2.2 (fdF (byP L i.1))/\(∀x,x∈blk i.2.1->wr.heap.size<=x)/\Keep [] wr w2) (fun i=>[(6,.slice i.2.1 (byP L i.1).length i.2.2),(28,agg 96 (fun j=>.slice (X (0+j)) (sel L (0+j)).length (C (0+j)))),(29,.int .i64 i.1)]) (fun i=>96-i.1) (0,none,0) tt_ok ⟨by simp,Ly.nil _ _ _ _,(fun _ h=>by cases h),Keep.refl _ _⟩ ⟨rfl,rfl,rfl,trivial⟩ ?_;rintro⟨q,Z,cz⟩ w2 ⟨hq,hly,hnew,kk⟩;simp only at hq hly hnew;by_cases hlt2:q<96
  ·have hsum:(byP L q).length+(sel L q).length<=L.length:=by
    have:=byP_len L (q+1)
    rwa [byP_succ,List.length_append] at this
   have hx:=(I.ly q hlt2).keep0 kk;conv=>whnf
   repeat ((first|refine Br.y ?_|refine CW.s ?_);conv=>whnf)
   refine Ru.of (run_index_agg 282 64 96 q Tryz.underlying282 hlt2 notAgg_founds size_founds w2) ?_;rw[Nat.zero_add];conv=>whnf
   refine Bu.append Tryz.underlying64 hi hz0 hz1 hz2 rfl (by omega) hly _ hx.rd hx.1 hx.2.2.1 (fun j _=>fdF_one _ j) (by simp only[maxLen];omega) (by omega) ?_;intro Y cY w3 hy hkp hat hpre;have e1:(byP L (q+1)).length=(byP L q).length+(sel L q).length:=by rw[byP_succ,List.length_append]
   have k3:=kk.then hkp (fun x hx=>.inr (hnew x hx));conv=>whnf
   repeat ((first|refine Ar.la ?_);conv=>whnf)
   refine⟨(q+1,Y,cY),⟨hlt2,?_,fun x hx=>?_,k3⟩,⟨congrArg (fun n=>Value.slice Y n cY) e1.symm,rfl,rfl,trivial⟩,by simp only;omega⟩
   ·simp only;rw[e1];exact hy.congr (fun j hj=>by rw[byP_succ,fdF_append])
   ·rcases hat with e|e
    ·exact hnew x (e ▸ hx)
    ·simp only at hx;rw[e] at hx;obtain rfl:=List.mem_singleton.1 hx;exact kk.size
  ·obtain rfl:q=96:=by omega
   conv=>whnf
   repeat ((first|refine Br.f ?_|refine CW.s ?_);conv=>whnf)
   exact⟨rfl,Z,cz,rfl,hly,fun x hx=>Nat.le_trans I.keep.size (hnew x hx),I.keep.trans kk⟩
end
section
open Go.RowKit
attribute [local irreducible] ahead Fd.sound
def newStep(of above:Int)(s:Fd×Bool)(f:Fd):Fd×Bool :=
 if f.of≠of\/f.seq<=above then s else if s.2=false\/s.1.seq<f.seq\/(f.seq=s.1.seq/\ahead f.copy s.1.copy=true) then (f,true) else s
def newestF(L:List Fd)(of above:Int):Fd×Bool:=L.foldl (newStep of above) (Fd.zero,false)
theorem newestF_snoc(L:List Fd)(of above:Int)(f:Fd):newestF (L++[f]) of above=newStep of above (newestF L of above) f:=by
 unfold newestF;rw[List.foldl_append];rfl
theorem newStep_take{of above:Int}{best f:Fd}{has:Bool}(h1:f.of=of)(h2:above<f.seq)(h3:has=false\/best.seq<f.seq\/(f.seq=best.seq/\ahead f.copy best.copy=true)):newStep of above (best,has) f=(f,true):=by
 unfold newStep;rw[if_neg (by omega),if_pos h3]
theorem newStep_skip{of above:Int}{best f:Fd}{has:Bool}(h:f.of≠of\/f.seq<=above\/(has=true/\f.seq<=best.seq/\(f.seq≠best.seq\/ahead f.copy best.copy=false))):newStep of above (best,has) f=(best,has):=by
 unfold newStep;by_cases h1:f.of≠of\/f.seq<=above
 ·rw[if_pos h1]
 ·rw[if_neg h1,if_neg];simp only;rcases h with h|h|⟨h,h2,h3⟩
  ·exact absurd (.inl h) h1
  ·exact absurd (.inr h) h1
  ·rintro(h4|h4|⟨h4,h5⟩)
   ·rw[h] at h4;cases h4
   ·omega
   ·rcases h3 with h3|h3
    ·exact h3 h4
    ·rw[h5] at h3;cases h3
theorem ahead_sp(a b:Int)(w:World):Spec Tryz.prog 195 #[.int .i64 a,.int .i64 b] w fun v w'=>v=.bool (ahead a b)/\w=w':=Spec.of_calls (by kernel_rfl) (ahead_ok a b w)
def NewPost(s:Fd×Bool)(w:World)(v:Value)(w':World):Prop:=v=.tuple #[.agg s.1.arr,.bool s.2]/\Keep [] w w'
theorem newest_ok(A:Option Addr)(c:Nat)(L:List Fd)(of above:Int)(w:World)(hr:Rd w A (L.length*6) (fdF L))(hn:L.length*48<=140737488351232) :
  Spec Tryz.prog 172 #[.slice A L.length c,.int .i64 of,.int .i64 above] w (NewPost (newestF L of above) w):=by
 refine spec_of_wpE (T:=tt) tt_ok Tryz.func172 rfl (by decide +kernel) Tryz.ntmps172 (by simp) ?_;conv=>whnf
 refine Ru.allocfd ?_;intro g6 w1 hg6 hs1 r6 k1;conv=>whnf
 refine Ru.allocfd ?_;intro g8 w2 hg8 hs2 r8 k2;have r6:=r6.keep k2 (by simp);conv=>whnf
 repeat ((first|refine CW.s ?_);conv=>whnf)
 refine CW.loop (ι:=Nat×Fd×Bool) (fun i wr=>i.1<=L.length/\newestF (L.take i.1) of above=(i.2.1,i.2.2)/\Row wr g6 69 6 Fd.zero.cell/\Row wr g8 69 6 i.2.1.cell/\Keep [] w wr)
  (fun i=>[(1,.int .i64 of),(2,.int .i64 above),(6,.pointer (some ⟨g6,0,none⟩)),(8,.pointer (some ⟨g8,0,none⟩)),(9,.bool i.2.2),(12,.slice A L.length c),(13,.int .i64 L.length),(14,.int .i64 i.1)]) (fun i=>L.length-i.1) (0,Fd.zero,false) tt_ok ⟨by simp,rfl,r6,r8,k1.trans k2⟩ ⟨rfl,rfl,rfl,rfl,rfl,rfl,rfl,rfl,trivial⟩ ?_;rintro⟨k,best,has⟩ wr ⟨hk,hst,r6,r8,kk⟩;simp only at hk hst r8;have hlt8:=r8.lt;have hlt6:=r6.lt;by_cases hlt:k<L.length
 ·obtain⟨b,o,rfl,hc⟩:=fd_cells (hr.keep0 kk) k hlt;have htk:=take_snoc hlt;generalize L.getD k Fd.zero=f at *;conv=>whnf
  repeat ((first|refine Ix.n ?_|refine Br.y ?_|refine CW.s ?_);conv=>whnf)
  refine Ru.ldfds hc ?_;conv=>whnf
  refine Ru.allocfd ?_;intro g11 w3 hg11 hs3 r11 k3;conv=>whnf
  refine Ru.stfd r11 ?_;intro w4 r11 k4;have q4:Keep [] wr w4:=k3.then k4 (fun x hx=>.inr (by rw[List.mem_singleton.1 hx,hg11];exact Nat.le_refl _));have r8:=r8.keep q4 (by simp);have r6:=r6.keep q4 (by simp);have kk:=kk.trans q4;have hst1:newestF (L.take (k+1)) of above=newStep of above (best,has) f:=by rw[htk,newestF_snoc,hst]
  have d86:g8≠g6:=by omega
  conv=>whnf
  repeat' ((first|(refine Ld.row r11 (by omega) ?_)|(refine Ld.row r8 (by omega) ?_)|(refine Ca.of (ahead_sp _ _ _) ?_;rintro _ _ ⟨rfl,rfl⟩)|(refine Ru.ldfd r11 ?_)|(refine Ru.stfd r8 ?_;intro w5 r8t k5)|refine Br.t ?_|refine Br.f ?_|refine Pk.f ?_|refine Pk.t ?_|refine Ar.la ?_|refine CW.s ?_|refine Br.d (fun _=>?_) (fun _=>?_)|refine Br.nd (fun _=>?_) (fun _=>?_)|refine Br.mk (fun _=>?_) (fun _=>?_))<;>conv=>whnf)
  all_goals
   first
    |exact⟨(k+1,f,true),⟨hlt,hst1.trans (newStep_take (by omega) (by omega) (by first|(left;simp_all;done)|(right;left;omega)|(right;right;exact⟨by omega,by assumption⟩))),r6.keep k5 (by simpa using d86.symm),r8t,kk.then k5 (fun x hx=>.inr (by rw[List.mem_singleton.1 hx];have:=k1.size;omega))⟩,⟨rfl,rfl,rfl,rfl,rfl,rfl,rfl,rfl,trivial⟩,by simp only;omega⟩
    |exact⟨(k+1,best,has),⟨hlt,hst1.trans (newStep_skip (by first|(left;omega)|(right;left;omega)|(right;right;refine⟨by simp_all,by omega,?_⟩;first|(left;omega)|(right;assumption)))),r6,r8,kk⟩,⟨rfl,rfl,rfl,rfl,rfl,rfl,rfl,rfl,trivial⟩,by simp only;omega⟩
 ·obtain rfl:k=L.length:=by omega
  rw[List.take_length] at hst;conv=>whnf
  repeat ((first|refine Br.n ?_|refine CW.s ?_);conv=>whnf)
  refine Ru.ldfd r8 ?_;conv=>whnf
  refine Ru.stfd r6 ?_;intro w3 r6 k3;conv=>whnf
  refine Ru.ldfd r6 ?_;conv=>whnf
  exact⟨rfl,by rw[hst];rfl,kk.then k3 (fun x hx=>.inr (by rw[List.mem_singleton.1 hx];omega))⟩
end
section
open Go.RowKit
theorem Newest_ok(A:Option Addr)(c:Nat)(L:List Fd)(of above:Int)(w:World)(hr:Rd w A (L.length*6) (fdF L))(hn:L.length*48<=140737488351232) :
  Spec Tryz.prog 121 #[.slice A L.length c,.int .i64 of,.int .i64 above] w (NewPost (newestF (byP L 96) of above) w):=by
 have hb:=byP_len L 96;refine spec_of_wpE (T:=tt) tt_ok Tryz.func121 rfl (by decide +kernel) Tryz.ntmps121 (by simp) ?_;conv=>whnf
 refine Ru.allocfd ?_;intro g6 w1 hg6 hs1 r6 k1;conv=>whnf
 refine Ca.of (byPlace_ok A c L w1 (hr.keep0 k1) hn) ?_;rintro _ w2 ⟨B,d,rfl,hly,hnew,k2⟩;conv=>whnf
 refine Ca.of (newest_ok B d (byP L 96) of above w2 hly.rd (by omega)) ?_;rintro _ w3 ⟨rfl,k3⟩;have r6:=(r6.keep k2 (by simp)).keep k3 (by simp);conv=>whnf
 refine Ru.stfd r6 ?_;intro w4 r6 k4;conv=>whnf
 refine Ru.ldfd r6 ?_;conv=>whnf
 exact⟨rfl,rfl,((k1.trans k2).trans k3).then k4 (fun x hx=>.inr (by rw[List.mem_singleton.1 hx];omega))⟩
end
section
open Go.RowKit
attribute [local irreducible] ahead Fd.sound
end
section
open Go.RowKit
attribute [local irreducible] ahead Fd.sound
end
section
structure IsTop(L:List Fd)(of above t:Int):Prop where
 le:∀f,f∈L->f.sound=true->f.of=of->above<f.seq->f.seq<=t
 at_:t = -1\/(0<=t/\above<t/\∃f,f∈L/\f.sound=true/\f.of=of/\f.seq=t)
theorem snoc_rec{α:Type}{p:List α->Prop}(h0:p [])(h1:∀l a,p l->p (l++[a]))(l:List α):p l:=by
 have:∀l:List α,p l.reverse:=fun l=>by
  induction l with
  |nil=>exact h0
  |cons a l ih=>rw[List.reverse_cons];exact h1 _ _ ih
 have h:=this l.reverse
 rwa [List.reverse_reverse] at h
theorem byP_sound{L:List Fd}{f:Fd}{k:Nat}(h:f∈byP L k):f.sound=true:=by
 unfold byP sel at h;simp only[List.mem_flatMap,List.mem_range,List.mem_filter,Bool.and_eq_true,beq_iff_eq] at h;obtain⟨p,_,_,h,_⟩:=h;exact h
end
section
open Go.RowKit
attribute [local irreducible] ahead Fd.sound
structure Cp where
 fl:Nat->Int
 next:Int
 bad:Nat->Bool
 cur:Int
 reads:Nat->Int
 scores:Nat->Int
def Cp.cell(c:Cp)(j:Nat):Value:=if j<24 then .int .i64 (c.fl j) else if j=24 then .int .i64 c.next else if j<37 then .bool (c.bad (j-25)) else if j=37 then .int .i64 c.cur else if j<50 then .int .i64 (c.reads (j-38)) else .int .i64 (c.scores (j-50))
def Cp.wf(c:Cp):Prop:=(∀j,j<24->-9223372036854775808<=c.fl j/\c.fl j<=9223372036854775807)/\-9223372036854775808<=c.next/\c.next<=9223372036854775807
theorem Cp.cell_fl(c:Cp){j:Nat}(h:j<24):c.cell j=.int .i64 (c.fl j):=if_pos h
theorem Cp.cell_next(c:Cp):c.cell 24=.int .i64 c.next:=rfl
theorem Cp.cell_bad(c:Cp){j:Nat}(h:j<12):c.cell (25+j)=.bool (c.bad j):=by
 unfold Cp.cell;rw[if_neg (by omega),if_neg (by omega),if_pos (by omega)];congr 2;omega
def flTop(c:Cp)(t:Int):Nat->Int
 |0=>t
 |k+1=>max (flTop c t k) (c.fl k)
def seqStep(t:Int)(f:Fd):Int:=if f.sound=true then max t f.seq else t
def seqTop(L:List Fd)(t:Int):Int:=L.foldl seqStep t
def topOf(L:List Fd)(c:Cp):Int:=seqTop L (flTop c (max c.next 0-1) 24)
def nextF(L:List Fd)(c:Cp):Int:=min (topOf L c) 1099511627774+1
theorem seqTop_snoc(L:List Fd)(t:Int)(f:Fd):seqTop (L++[f]) t=seqStep (seqTop L t) f:=by
 unfold seqTop;rw[List.foldl_append];rfl
theorem flTop_in(c:Cp)(hc:c.wf)(t:Int)(h1 : -1<=t)(h2:t<=9223372036854775807):∀k,k<=24->-1<=flTop c t k/\flTop c t k<=9223372036854775807
 |0,_=>⟨h1,h2⟩
 | k+1,hk=>by
  have ih:=flTop_in c hc t h1 h2 k (by omega);have:=hc.1 k (by omega);unfold flTop;omega
theorem sound_le{f:Fd}(h:f.sound=true):0<=f.seq/\f.seq<=1099511627775:=by
 unfold Fd.sound at h;have:=of_decide_eq_true h;omega
theorem seqTop_in(t:Int)(h1 : -1<=t)(h2:t<=9223372036854775807)(L:List Fd) : -1<=seqTop L t/\seqTop L t<=9223372036854775807:=by
 induction L using snoc_rec with
 |h0=>exact⟨h1,h2⟩
 | h1 L f ih =>
  rw[seqTop_snoc];unfold seqStep;split
  ·rename_i h
   have:=sound_le h;omega
  ·exact ih
theorem arr24_size:(Tryz.prog.info? 114).map (·.size)=some 24:=by kernel_rfl
theorem cell_i64:cellTy Tryz.prog 2=true:=by kernel_rfl
theorem next_ok(A:Option Addr)(c:Nat)(L:List Fd)(p:Cp)(w:World)(hr:Rd w A (L.length*6) (fdF L))(hn:L.length*48<=140737488351232)(hp:p.wf) :
  Spec Tryz.prog 129 #[.slice A L.length c,agg 62 p.cell] w fun v w'=>v=.int .i64 (nextF L p)/\Keep [] w w':=by
 have hp2:=hp.2;have hf0:=fun k hk=>flTop_in p hp (max p.next 0-1) (by omega) (by omega) k hk;refine spec_of_wpE (T:=tt) tt_ok Tryz.func129 rfl (by decide +kernel) Tryz.ntmps129 (by simp) ?_;conv=>whnf
 refine Ru.boxa ?_;intro g3 w1 hg3 hs1 r3 k1;conv=>whnf
 repeat ((first|(refine Ld.rowAt r3 24 (by omega) (by omega) ?_)|refine Ar.la ?_|refine CW.s ?_);conv=>whnf)
 refine Ru.ldaC (q:=fun j=>.int .i64 (p.fl j)) r3 Tryz.underlying114 rfl arr24_size (by omega) (fun j hj=>by rw[show 0+0+j=j from by omega];exact p.cell_fl hj) ?_;conv=>whnf
 refine CW.loop (ι:=Nat) (fun i w'=>i<=24/\w'=w1) (fun i=>[(0,.slice A L.length c),(5,.int .i64 (flTop p (max p.next 0-1) i)),(15,agg 24 (fun j=>.int .i64 (p.fl j))),(16,.int .i64 i)]) (fun i=>24-i) 0 tt_ok ⟨by omega,rfl⟩ ⟨rfl,rfl,rfl,rfl,trivial⟩ ?_;rintro k w' ⟨hk,rfl⟩;by_cases hlt:k<24
 ·have hst:flTop p (max p.next 0-1) (k+1)=max (flTop p (max p.next 0-1) k) (p.fl k):=rfl;generalize flTop p (max p.next 0-1) k=t at *;conv=>whnf
  repeat ((first|(refine Ru.idx Tryz.underlying114 hlt cell_i64 ?_)|refine Ar.la ?_|refine Br.y ?_|refine CW.s ?_);conv=>whnf)
  exact⟨k+1,⟨hlt,rfl⟩,⟨rfl,vi hst.symm,rfl,rfl,trivial⟩,by simp only;omega⟩
 ·obtain rfl:k=24:=by omega
  have ht:=hf0 24 (Nat.le_refl _);unfold nextF topOf;generalize flTop p (max p.next 0-1) 24=t at *;conv=>whnf
  repeat ((first|refine Br.f ?_|refine CW.s ?_);conv=>whnf)
  refine CW.loop (ι:=Nat) (fun i wr=>i<=L.length/\Keep [] w wr) (fun i=>[(23,.slice A L.length c),(24,.int .i64 L.length),(5,.int .i64 (seqTop (L.take i) t)),(25,.int .i64 i)]) (fun i=>L.length-i) 0 tt_ok ⟨by omega,k1⟩ ⟨rfl,rfl,rfl,rfl,trivial⟩ ?_;rintro i wr ⟨hi,kk⟩;have hs:=seqTop_in t ht.1 ht.2 (L.take i);by_cases hlt:i<L.length
  ·obtain⟨b,o,rfl,hc⟩:=fd_cells (hr.keep0 kk) i hlt;have htk:=take_snoc hlt;generalize L.getD i Fd.zero=f at *;have hst:seqTop (L.take (i+1)) t=seqStep (seqTop (L.take i) t) f:=by rw[htk,seqTop_snoc]
   generalize seqTop (L.take i) t=s at *;conv=>whnf
   repeat ((first|refine Ix.n ?_|refine Br.y ?_|refine CW.s ?_);conv=>whnf)
   refine Ru.ldfds hc ?_;conv=>whnf
   refine Ru.allocfd ?_;intro g9 w2 hg9 hs2 r9 k2;conv=>whnf
   refine Ru.stfd r9 ?_;intro w3 r9 k3;have q3:Keep [] wr w3:=k2.then k3 (fun x hx=>.inr (by rw[List.mem_singleton.1 hx,hg9];exact Nat.le_refl _));conv=>whnf
   refine Ru.ldfd r9 ?_;conv=>whnf
   refine Ca.of (sound_sp f w3) ?_;rintro _ w4 ⟨rfl,k4⟩;have r9:=r9.keep k4 (by simp);conv=>whnf
   refine⟨fun hs=>?_,fun hs=>?_⟩
   ·conv=>whnf
    repeat ((first|(refine Ld.row r9 (by omega) ?_)|refine Ar.la ?_);conv=>whnf)
    exact⟨i+1,⟨hlt,(kk.trans q3).trans k4⟩,⟨rfl,rfl,vi (hst.trans (if_pos hs)).symm,rfl,trivial⟩,by simp only;omega⟩
   ·conv=>whnf
    repeat ((first|refine Ar.la ?_);conv=>whnf)
    exact⟨i+1,⟨hlt,(kk.trans q3).trans k4⟩,⟨rfl,rfl,vi (hst.trans (if_neg (by rw[hs];simp))).symm,rfl,trivial⟩,by simp only;omega⟩
  ·obtain rfl:i=L.length:=by omega
   rw[List.take_length] at hs;have e:seqTop (L.take L.length) t=seqTop L t:=by rw[List.take_length]
   generalize seqTop L t=s at *;generalize seqTop (L.take L.length) t=s2 at *;subst e;conv=>whnf
   repeat ((first|refine Ar.la ?_|refine Br.n ?_|refine CW.s ?_);conv=>whnf)
   exact⟨rfl,rfl,kk⟩
end
end Go.Proofs.YtaeikigfgfcadaaGreat
