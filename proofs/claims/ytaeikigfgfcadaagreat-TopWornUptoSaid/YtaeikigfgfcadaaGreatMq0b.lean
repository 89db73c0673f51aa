/- Texts behind one another: Field, Once, OnceDo, FieldOps, FieldOps2, Poly, Own, Eval, RsMath, Gring, RsDecode, Same, Bytes, Sl, RsNew, NandW, NandR, RsSyn, RsOne, RsTwo, RsDec, RsEncM, RsEnc, Frm, EIn, Pieces, Lay. -/
import Derived.Tactics
import Derived.Tactics2
import Derived.Defers
import Derived.Laws.Pointers
import Derived.Laws.LoneSync
import Derived.RegionTactic
import Derived.RegionCalls
import Derived.ChangeAlike
import Derived.Laws.BytesArg
import Derived.Lib.Bytes
import Derived.RangeFuncNested
import Derived.RangeFuncBound
import Derived.RangeFuncCalls
import Derived.RangeFuncLeaves
import Derived.OwnWalkIn
import Derived.RangeFuncBox
import Derived.Shelf.Abstract
import Derived.TacticsInMore
import Derived.LoopNIn
import Derived.LoopIn
import Derived.Test.YtaeikigfgfcadaaGreatMq0a
namespace Go.Proofs.YtaeikigfgfcadaaGreat
open Go.Proofs.Tryz
set_option maxHeartbeats 4000000
set_option maxRecDepth 100000
set_option linter.unusedVariables false
set_option linter.unusedSimpArgs false
set_option linter.unnecessarySimpa false
section
open Go.RowKit
attribute [local irreducible] GF.pw GF.lg GF.mul GF.inv GF.xt
def dM(d st:Int)(ke kl:Nat)(j:Nat):Value :=
 if j=0 then .int .u32 d else if j=1 then .int .i32 st else if j=2 then .int .u32 0
 else if j<513 then .int .u8 ((if (j-3)%255<ke then GF.pw (j-3) else 0:Nat):Int)
 else .int .i64 ((if j-513≠0/\GF.lg (j-513)<kl then GF.lg (j-513) else 0:Nat):Int)
section
variable(d st:Int)(ke kl:Nat)
theorem ql{j:Nat}(h:j<510):dM d st ke kl (3+j)=.int .u8 ((if j%255<ke then GF.pw j else 0:Nat):Int):=by
 unfold dM;rw[if_neg (by omega),if_neg (by omega),if_neg (by omega),if_pos (by omega),show 3+j-3=j by omega]
theorem wh{a:Nat}(h:a<256):dM d st ke kl (513+a)=.int .i64 ((if a≠0/\GF.lg a<kl then GF.lg a else 0:Nat):Int):=by
 unfold dM;rw[if_neg (by omega),if_neg (by omega),if_neg (by omega),if_neg (by omega),show 513+a-513=a by omega]
theorem ago{k:Nat}(hk:k<255){j:Nat}:put (put (dM d st k kl) (3+k) (.int .u8 (GF.pw k:Int))) (3+(k+255)) (.int .u8 (GF.pw k:Int)) j=dM d st (k+1) kl j:=by
 unfold put;by_cases h1:j=3+(k+255)
 ·rw[if_pos h1,h1,ql _ _ _ _ (by omega),if_pos (by omega),GF.we]
 rw[if_neg h1];by_cases h2:j=3+k
 ·rw[if_pos h2,h2,ql _ _ _ _ (by omega),if_pos (by omega)]
 rw[if_neg h2];unfold dM;split
 ·rfl
 split
 ·rfl
 split
 ·rfl
 split
 ·refine vi (congrArg Nat.cast ?_);by_cases h:(j-3)%255<k
  ·rw[if_pos h,if_pos (by omega)]
  ·rw[if_neg h,if_neg (by omega)]
 ·rfl
theorem ajH{k:Nat}(hk:k<255){j:Nat}(hj:j<769):put (dM d st ke k) (513+GF.pw k) (.int .i64 (k:Int)) j=dM d st ke (k+1) j:=by
 unfold put;by_cases h1:j=513+GF.pw k
 ·rw[if_pos h1,h1,wh _ _ _ _ (GF.bE k),GF.yc k hk,if_pos ⟨GF.yd k,by omega⟩]
 rw[if_neg h1];unfold dM;split
 ·rfl
 split
 ·rfl
 split
 ·rfl
 split
 ·rfl
 ·refine vi (congrArg Nat.cast ?_);by_cases h0:j-513=0
  ·rw[if_neg (fun h=>h.1 h0),if_neg (fun h=>h.1 h0)]
  ·have hs:=GF.eG (j-513) (by omega) h0;have ct:GF.lg (j-513)≠k:=fun e=>by
    rw[e] at hs;have:=hs.2;omega
   by_cases h:GF.lg (j-513)<k
   ·rw[if_pos ⟨h0,h⟩,if_pos ⟨h0,by omega⟩]
   ·rw[if_neg (fun e=>h e.2),if_neg (fun e=>by have:=e.2;omega)]
end
theorem Sh.dbl{p:Nat}{K:Value->Prop}(h:p<256)(k:K (.int .i64 (2*(p:Int)))):Sh .shl .i64 (p:Int) 1 K:=by
 refine Sh.agn (n:=1) ?_ (by decide) ?_
 ·rw[Nat.shiftLeft_eq];omega
 ·rw[Nat.shiftLeft_eq,show((p*2^1:Nat):Int)=2*(p:Int) by omega];exact k
abbrev BD(w:World)(g:Nat)(d st:Int)(ke kl:Nat):Prop:=Row w g 318 769 (dM d st ke kl)
theorem ajI(w:World)(g:Nat)(d st:Int)(r:BD w g d st 0 0):Spec Tryz.prog 220 #[.pointer (some ⟨g,0,none⟩)] w fun v w'=>v=.tuple #[]/\BD w' g d st 255 255/\Aa [g] w w':=by
 refine spec_of_wpE (T:=tt) ah func220 rfl (by decide +kernel) ntmps220 (by simp) ?_;conv=>whnf
 refine CW.loop (ι:=Nat) (fun i w'=>i<=255/\BD w' g d st i i/\Aa [g] w w') (fun i=>[(0,.pointer (some ⟨g,0,none⟩)),(2,.int .i64 (GF.pw i)),(4,.int .i64 i)]) (fun i=>255-i) 0 ah ⟨by omega,r,Aa.refl _ _⟩ ⟨rfl,vi (by decide +kernel),rfl,trivial⟩ ?_;rintro k wr ⟨hk,r,kk⟩;by_cases av:k<255
 ·have hp:=GF.bE k;have bt:GF.pw (k+1)=GF.xt (GF.pw k):=GF.yb k;rw[GF.alN] at bt;generalize hq:GF.pw k=p at *;conv=>whnf
  repeat ((first|refine Br.y ?_|refine CW.s ?_);conv=>whnf)
  refine CW.held (fun _=>True) [] (.take 0 (.take 1 (.take 2 (.take 3 (.take 4 (.take 5 (.take 6 (.take 7 (.take 8 (.take 9 (.take 10 (.take 11 (.take 13 (.take 14 (.one 12 (.take 15 (.one 16 (.done)))))))))))))))))) ah (by kernel_rfl) (by kernel_rfl) (by kernel_rfl) trivial ?_;conv=>whnf
  repeat ((first|refine Ix.n ?_|refine Ar.la ?_|refine Ar.lb ?_);conv=>whnf)
  refine Sd.rowAt (r.drewN 1) (3+k) (by omega) (by omega) rfl ?_;intro w2 r2 k2;conv=>whnf
  repeat ((first|refine HS.t ?_|refine Ix.i ?_);conv=>whnf)
  refine Sd.rowAt r2 (3+(k+255)) (by omega) (by omega) rfl ?_;intro w3 r3 k3;rw[<-hq] at r3;have r3:=r3.congr (fun j _=>ago d st k av);have bK:Aa [g] w w3:=((kk.drewN 1).trans k2).trans k3;conv=>whnf
  repeat ((first|refine HS.t ?_|refine Ix.n ?_);conv=>whnf)
  refine Sd.rowAt r3 (513+p) (by omega) (by omega) rfl ?_;intro w4 r4 k4;rw[<-hq] at r4;have r4:=r4.congr (fun j hj=>ajH d st (k+1) av hj);have bT:=bK.trans k4;conv=>whnf
  refine Sh.dbl hp ?_;by_cases h2:255<2*p
  ·rw[if_pos h2] at bt;conv=>whnf
   repeat ((first|refine Ar.la ?_|refine Br.y ?_);conv=>whnf)
   refine⟨k+1,⟨av,r4,bT⟩,⟨rfl,vi ?_,rfl,trivial⟩,by simp only;omega⟩;rw[bt];exact abX (a:=2*p) (b:=285) (by omega) (by omega)
  ·rw[if_neg h2] at bt;conv=>whnf
   repeat ((first|refine Ar.la ?_|refine Br.n ?_);conv=>whnf)
   refine⟨k+1,⟨av,r4,bT⟩,⟨rfl,vi ?_,rfl,trivial⟩,by simp only;omega⟩;rw[bt];omega
 ·obtain rfl:k=255:=by omega
  conv=>whnf
  repeat ((first|refine Br.f ?_|refine CW.s ?_);conv=>whnf)
  exact⟨rfl,rfl,r,kk⟩
end
section
open Go.RowKit
theorem oX(w:World):(callFunc 233 #[]).run Tryz.prog w=.ok (.value (.tuple #[])) w:=run_call_mark0 func233 (by kernel_rfl) (by kernel_rfl) (by kernel_rfl) .disable (by kernel_rfl) w
theorem qY(w:World):(callFunc 235 #[]).run Tryz.prog w=.ok (.value (.tuple #[])) w:=run_call_mark0 func235 (by kernel_rfl) (by kernel_rfl) (by kernel_rfl) .enable (by kernel_rfl) w
theorem yh(a:Addr)(w:World):(callFunc 236 #[.pointer (some a)]).run Tryz.prog w=.ok (.value (.tuple #[])) w:=run_call_marked func236 (by kernel_rfl) (by kernel_rfl) (by kernel_rfl) .acquire (by kernel_rfl) a w
theorem yi(a:Addr)(w:World):(callFunc 238 #[.pointer (some a)]).run Tryz.prog w=.ok (.value (.tuple #[])) w:=run_call_marked func238 (by kernel_rfl) (by kernel_rfl) (by kernel_rfl) .releaseMerge (by kernel_rfl) a w
theorem tb(a:Addr)(x:Value)(u:FrameMode)(w:World)(hc:w.cell? a=some x)(hz:w.frozen? a=false) :
  CallsD Tryz.prog 228 #[.pointer (some a),.bool true] u w fun e u' w'=>u'=u/\(e=.returned (.tuple #[])/\w'=w.drew.setCell a (.int .u32 1)):=by
 have hc':w.drew.cell? a=some x:=by go_simp
 have hz':w.drew.frozen? a=false:=by go_simp
 have bt:=run_call_store (P:=Tryz.prog) func231 (by kernel_rfl) (by kernel_rfl) (by kernel_rfl) (by kernel_rfl) (k:=.u32) (y:=1) hc' hz'
 go_enter_d func228,ntmps228
 go_wp2
 go_region_calls
 all_goals (go_end0;exact⟨rfl,rfl⟩)
theorem rS(a:Addr)(u:FrameMode)(w:World)(hc:w.cell? a=some (.int .i32 1))(hz:w.frozen? a=false) :
  CallsD Tryz.prog 227 #[.pointer (some a)] u w fun e u' w'=>u'=u/\(e=.returned (.tuple #[])/\w'=w.setCell a (.int .i32 0)):=by
 have hd:=oX;have he:=qY;have hr:=yi;have af5:=run_call_add (P:=Tryz.prog) func239 (by kernel_rfl) (by kernel_rfl) (by kernel_rfl) .i32 (by kernel_rfl) (y:=-1) (s:=0) hc hz (by simp[go_sem];rfl);have hcv:=run_convert_to_unsafe (P:=Tryz.prog) (src:=330) (dst:=334) underlying330 underlying334 (by kernel_rfl) hc
 go_enter_d func227,ntmps227
 go_wp2
 go_end0
 go_wp2
 go_end0
 exact⟨rfl,rfl⟩
theorem aeL(a:Addr)(w:World)(hc:w.cell? a=some (.int .i32 0))(hz:w.frozen? a=false) :
  Calls Tryz.prog 226 #[.pointer (some a)] w fun e w'=>e=.returned (.tuple #[])/\w'=w.setCell a (.int .i32 1):=by
 have hd:=oX;have he:=qY;have ha:=yh;have aqY:=run_call_cas_hit (P:=Tryz.prog) func234 (by kernel_rfl) (by kernel_rfl) (by kernel_rfl) .i32 (by kernel_rfl) (y:=1) hc hz;have hc':(w.setCell a (.int .i32 1)).cell? a=some (.int .i32 1):=World.cell?_setCell_same w a _ hc;have hcv:=run_convert_to_unsafe (P:=Tryz.prog) (src:=330) (dst:=334) underlying330 underlying334 (by kernel_rfl) hc'
 go_enter func226,ntmps226
 go_wp2
 first|go_end0|(simp only[Exit.inBlock,Exit.then];refine bodyPost_ret (results_none rfl _ _ _) rfl ?_)|refine bodyPost_ret (results_none rfl _ _ _) rfl ?_
 go_wp2
 go_end0
 exact⟨rfl,rfl⟩
end
section
open Go.RowKit
attribute [local irreducible] GF.pw GF.lg GF.mul GF.inv GF.xt
theorem agp(d st:Int)(ke kl:Nat)(s:Int)(j:Nat):put (dM d st ke kl) 1 (.int .i32 s) j=dM d s ke kl j:=by
 unfold put;by_cases h:j=1
 ·subst h;rfl
 ·rw[if_neg h];unfold dM;by_cases h0:j=0
  ·rw[if_pos h0,if_pos h0]
  ·rw[if_neg h0,if_neg h0,if_neg h,if_neg h]
theorem anO(d st:Int)(ke kl:Nat)(s:Int)(j:Nat):put (dM d st ke kl) 0 (.int .u32 s) j=dM s st ke kl j:=by
 unfold put;by_cases h:j=0
 ·subst h;rfl
 ·rw[if_neg h];unfold dM;rw[if_neg h,if_neg h]
def BL(g:Nat)(w:World)(e:Ending)(w':World):Prop:=e=.returned (.tuple #[])/\BD w' g 1 0 255 255/\Aa [g] w w'
theorem abY(g:Nat)(w:World)(r:BD w g 0 0 0 0):Calls Tryz.prog 224 #[.pointer (some ⟨g,0,none⟩),.func (.func 220) #[.pointer (some ⟨g,0,none⟩)] #[]] w (BL g w):=by
 have r1:BD (w.setCell ⟨g,1,none⟩ (.int .i32 1)) g 0 1 0 0:=(r.set 1 (.int .i32 1)).congr (fun j _=>agp 0 0 0 0 1 j);have k1:Aa [g] w (w.setCell ⟨g,1,none⟩ (.int .i32 1)):=Aa.set g 1 _;have c1:w.cell? ⟨g,1,none⟩=some (.int .i32 0):=r.cell 1 (by omega);have z1:w.frozen? ⟨g,1,none⟩=false:=r.free 1;have c0:(w.setCell ⟨g,1,none⟩ (.int .i32 1)).cell? ⟨g,0,none⟩=some (.int .u32 0):=r1.cell 0 (by omega);have hl:=run_call_load (P:=Tryz.prog) func225 (by kernel_rfl) (by kernel_rfl) (by kernel_rfl) .u32 (by kernel_rfl) c0;have lE:∀(x:Bool) (w:World),(Op.unary .not (.bool x)).run Tryz.prog w=.ok (.bool (!x)) w:=fun _ _=>rfl;have R:=Lib.hid r;have R1:=Lib.hid r1;have K1:=Lib.hid k1;clear r r1 k1
 go_enter_defers func224,ntmps224
 go_wp2_with (first
  |(go_at_call 226;refine(aeL ⟨g,1,none⟩ _ c1 z1).mono ?_;rintro e w' ⟨rfl,rfl⟩)
  |(go_at_call 220;refine((ajI _ g 0 1 R1.out).2).mono ?_;rintro e w2 ⟨v,rfl,rfl,r2,k2⟩)
  |(go_at_call 223;go_in))
 have c20:w2.cell? ⟨g,0,none⟩=some (.int .u32 0):=r2.cell 0 (by omega);have z20:w2.frozen? ⟨g,0,none⟩=false:=r2.free 0;have r3:BD (w2.drew.setCell ⟨g,0,none⟩ (.int .u32 1)) g 1 1 255 255:=((r2.drewN 1).set 0 (.int .u32 1)).congr (fun j _=>anO 0 1 255 255 1 j);have c31:(w2.drew.setCell ⟨g,0,none⟩ (.int .u32 1)).cell? ⟨g,1,none⟩=some (.int .i32 1):=r3.cell 1 (by omega);have z31:(w2.drew.setCell ⟨g,0,none⟩ (.int .u32 1)).frozen? ⟨g,1,none⟩=false:=r3.free 1;have r4:BD ((w2.drew.setCell ⟨g,0,none⟩ (.int .u32 1)).setCell ⟨g,1,none⟩ (.int .i32 0)) g 1 0 255 255:=(r3.set 1 (.int .i32 0)).congr (fun j _=>agp 1 1 255 255 0 j);have k4:Aa [g] w ((w2.drew.setCell ⟨g,0,none⟩ (.int .u32 1)).setCell ⟨g,1,none⟩ (.int .i32 0)):=(((K1.out.trans k2).drewN 1).trans (Aa.set g 0 _)).trans (Aa.set g 1 _);have R4:=Lib.hid r4;have K4:=Lib.hid k4;clear r4 k4 r3 r2 k2;refine leaves_cons (f:=228) (args := #[.pointer (some ⟨g,0,none⟩),.bool true]) (by simp) (by simp[go_sem]) ?_;refine(tb ⟨g,0,none⟩ (.int .u32 0) .returning _ c20 z20).mono ?_;rintro e u' w'' ⟨rfl,rfl,rfl⟩;refine leaves_cons (f:=227) (args := #[.pointer (some ⟨g,1,none⟩)]) (by simp[settle]) (by simp[go_sem]) ?_;refine(rS ⟨g,1,none⟩ _ _ c31 z31).mono ?_;rintro e u' w'' ⟨rfl,rfl,rfl⟩;exact⟨_,results_none rfl _ _ _,rfl,R4.out,K4.out⟩
def BM(g:Nat)(w:World)(v:Value)(w':World):Prop:=v=.tuple #[]/\BD w' g 1 0 255 255/\Aa [g] w w'
theorem agq(g:Nat)(w:World)(r:BD w g 0 0 0 0):Spec Tryz.prog 219 #[.pointer (some ⟨g,0,none⟩),.func (.func 220) #[.pointer (some ⟨g,0,none⟩)] #[]] w (BM g w):=by
 refine⟨by kernel_rfl,?_⟩;have c0:w.cell? ⟨g,0,none⟩=some (.int .u32 0):=r.cell 0 (by omega);have hl:=run_call_load (P:=Tryz.prog) func225 (by kernel_rfl) (by kernel_rfl) (by kernel_rfl) .u32 (by kernel_rfl) c0;have lE:∀(x:Bool) (w:World),(Op.unary .not (.bool x)).run Tryz.prog w=.ok (.bool (!x)) w:=fun _ _=>rfl;have R:=Lib.hid r;clear r
 go_enter func219,ntmps219
 go_wp2_with (first
  |(go_at_call 224;refine(abY g _ R.out).mono ?_;rintro e w' ⟨rfl,r2,k2⟩)
  |(go_at_call 223;go_in))
 go_end0
 exact⟨_,rfl,rfl,r2,k2⟩
theorem ajJ(g:Nat)(w:World)(st:Int)(ke kl:Nat)(r:BD w g 1 st ke kl)(fv:Value):Spec Tryz.prog 219 #[.pointer (some ⟨g,0,none⟩),fv] w fun v w'=>v=.tuple #[]/\w=w':=by
 refine⟨by kernel_rfl,?_⟩;have c0:w.cell? ⟨g,0,none⟩=some (.int .u32 1):=r.cell 0 (by omega);have hl:=run_call_load (P:=Tryz.prog) func225 (by kernel_rfl) (by kernel_rfl) (by kernel_rfl) .u32 (by kernel_rfl) c0;have lE:∀(x:Bool) (w:World),(Op.unary .not (.bool x)).run Tryz.prog w=.ok (.bool (!x)) w:=fun _ _=>rfl;clear r
 go_enter func219,ntmps219
 go_wp2
 go_end0
 exact⟨_,rfl,rfl,rfl⟩
end
section
open Go.RowKit
attribute [local irreducible] GF.pw GF.lg GF.mul GF.inv GF.xt
def FS(w:World)(g:Nat):Prop:=BD w g 0 0 0 0\/BD w g 1 0 255 255
theorem FS.ab{S:List Nat}{w w':World}{g:Nat}(h:FS w g)(k:Aa S w w')(hg:g∉S):FS w' g:=h.elim (fun h=>.inl (h.ab k hg)) (fun h=>.inr (h.ab k hg))
theorem FS.aj{w w':World}{g:Nat}(h:FS w g)(k:Aa [] w w'):FS w' g:=h.ab k (by simp)
theorem FS.drewN{w:World}{g:Nat}(h:FS w g)(n:Nat):FS (w.drewN n) g:=h.aj ((Aa.refl _ _).drewN n)
theorem FS.lt{w:World}{g:Nat}(h:FS w g):g<w.heap.size:=h.elim (fun h=>h.lt) (fun h=>h.lt)
theorem adl(g:Nat)(w:World)(r:FS w g):Spec Tryz.prog 219 #[.pointer (some ⟨g,0,none⟩),.func (.func 220) #[.pointer (some ⟨g,0,none⟩)] #[]] w (BM g w):=by
 rcases r with r|r
 ·exact agq g w r
 ·obtain⟨h1,h2⟩:=ajJ g w 0 255 255 r (.func (.func 220) #[.pointer (some ⟨g,0,none⟩)] #[]);refine⟨h1,h2.mono ?_⟩;rintro e w' ⟨v,rfl,rfl,rfl⟩;exact⟨_,rfl,rfl,r,Aa.refl _ _⟩
def isZ(j:Nat):Value->Bool
 |.int .u32 n=>(j == 0||j == 2)&&n == 0
 |.int .i32 n=>j == 1&&n == 0
 |.int .u8 n => !(j<3)&&decide (j<513)&&n == 0
 |.int .i64 n => !(j<513)&&n == 0
 |_=>false
def ajK:Nat->List Value->Bool
 |_,[]=>true
 |j,v::l=>isZ j v&&ajK (j+1) l
theorem alQ{j:Nat}{v:Value}(h:isZ j v=true):v=dM 0 0 0 0 j:=by
 have he:∀p q:Nat,(if p%255<0 then q else 0)=0:=fun p q=>if_neg (by omega);unfold isZ at h;split at h<;>try simp only[Bool.and_eq_true,Bool.or_eq_true,beq_iff_eq,Bool.not_eq_true',decide_eq_true_eq,decide_eq_false_iff_not] at h
 ·obtain⟨h|h,rfl⟩:=h<;>subst h<;>rfl
 ·obtain⟨h,rfl⟩:=h;subst h;rfl
 ·obtain⟨⟨h1,h2⟩,rfl⟩:=h;unfold dM;rw[if_neg (by omega),if_neg (by omega),if_neg (by omega),if_pos (by omega),if_neg (by omega)];rfl
 ·obtain⟨h1,rfl⟩:=h;unfold dM;rw[if_neg (by omega),if_neg (by omega),if_neg (by omega),if_neg (by omega),if_neg (fun e=>by have:=e.2;omega)];rfl
 ·cases h
theorem aac:∀(l:List Value) (j:Nat),ajK j l=true->∀i v,l[i]?=some v->v=dM 0 0 0 0 (j+i)
 | [],j,_,i,v,hv=>by simp at hv
 | u::l,j,h,i,v,hv=>by
  unfold ajK at h;rw[Bool.and_eq_true] at h
  cases i with
  | zero =>
   simp at hv;rw[<-hv];exact alQ h.1
  | succ i =>
   have:=aac l (j+1) h.2 i v (by simpa using hv);rw[this];congr 1;omega
noncomputable def oY:Array Value:=(((Tryz.prog.info? 318).bind (·.zero)).getD (.agg #[])).cells
theorem alR:(oY.toList.length == 769&&ajK 0 oY.toList)=true:=by kernel_rfl
theorem zF:oY=(Array.range 769).map (dM 0 0 0 0):=by
 have h:=alR;simp only[Bool.and_eq_true,beq_iff_eq] at h;apply Array.ext
 ·simpa using h.1
 ·intro i h1 h2;simp only[Array.getElem_map,Array.getElem_range];have:=aac _ 0 h.2 i (oY[i]'h1) (by rw[Array.getElem?_toList];exact Array.getElem?_eq_getElem h1);rw[this,Nat.zero_add]
theorem ags(w:World):(Instr.build 318 #[]).run Tryz.prog w=.ok (.agg oY) w:=by kernel_rfl
theorem ajL(w:World):(Instr.build 318 #[]).run Tryz.prog w=.ok (agg 769 (dM 0 0 0 0)) w:=by
 rw[ags,zF];rfl
theorem yj(w:World):Spec Tryz.prog 210 #[] w fun v w'=>v=.pointer (some ⟨w.heap.size,0,none⟩)/\FS w' w.heap.size/\Aa [] w w':=by
 refine spec_of_wpE (T:=tt) ah func210 rfl (by decide +kernel) ntmps210 (by simp) ?_;conv=>whnf
 refine Ru.of (ajL w) ?_;conv=>whnf
 refine Ru.dt ?_;rintro h w1 rfl du r k1;conv=>whnf
 exact⟨rfl,rfl,.inl r,k1⟩
theorem tc{j:Nat}(h:j<510):dM 1 0 255 255 (3+j)=.int .u8 (GF.pw j:Int):=by
 rw[ql _ _ _ _ h,if_pos (Nat.mod_lt _ (by omega))]
theorem oZ{a:Nat}(h:a<256)(h0:a≠0):dM 1 0 255 255 (513+a)=.int .i64 (GF.lg a:Int):=by
 rw[wh _ _ _ _ h,if_pos ⟨h0,(GF.eG a h h0).1⟩]
def A3(g:Nat)(w:World)(u:Value)(v:Value)(w':World):Prop:=v=u/\FS w' g/\Aa [g] w w'
theorem yk(w:World)(g a b:Nat)(ha:a<256)(hb:b<256)(r:FS w g):Spec Tryz.prog 214 #[.pointer (some ⟨g,0,none⟩),.int .u8 a,.int .u8 b] w (A3 g w (.int .u8 (GF.mul a b:Nat))):=by
 by_cases kL:a=0
 ·subst kL;rw[GF.bX];refine spec_of_wpE (T:=tt) ah func214 rfl (by decide +kernel) ntmps214 (by simp) ?_;conv=>whnf
  repeat ((first|refine Br.t ?_|refine Pk.t ?_|refine CW.s ?_);conv=>whnf)
  exact⟨rfl,rfl,r,Aa.refl _ _⟩
 by_cases jK:b=0
 ·subst jK;rw[GF.dj];refine spec_of_wpE (T:=tt) ah func214 rfl (by decide +kernel) ntmps214 (by simp) ?_;conv=>whnf
  repeat ((first|refine Br.t ?_|refine Br.f ?_|refine Pk.f ?_|refine Br.n ?_|refine CW.s ?_);conv=>whnf)
  exact⟨rfl,rfl,r,Aa.refl _ _⟩
 have hla:=(GF.eG a ha kL).1;have hlb:=(GF.eG b hb jK).1;have ea:=oZ ha kL;have eb:=oZ hb jK;have ee:=tc (j:=GF.lg a+GF.lg b) (by omega);rw[GF.yg ha hb kL jK];generalize GF.lg a=x at *;generalize GF.lg b=y at *;refine spec_of_wpE (T:=tt) ah func214 rfl (by decide +kernel) ntmps214 (by simp) ?_;conv=>whnf
 repeat ((first|refine Br.f ?_|refine Pk.f ?_|refine Br.n ?_|refine CW.s ?_);conv=>whnf)
 refine Ca.of (adl g w r) ?_;rintro _ w2 ⟨rfl,r2,k2⟩;conv=>whnf
 refine CW.quiet (fun w'=>w'=w2.drewN 1) ah (by kernel_rfl) (by kernel_rfl) ?_ ?_
 ·rfl
 conv=>whnf
 repeat ((first|(refine Ah.at (j:=513+a) (by omega) (fun _ h=>by subst h;exact(r2.cell _ (by omega)).trans (congrArg some ea)) ?_)|(refine Ah.at (j:=513+b) (by omega) (fun _ h=>by subst h;exact(r2.cell _ (by omega)).trans (congrArg some eb)) ?_)|(refine Ix.of (x+y) (by omega) (by omega) ?_)|(refine Ah.at (j:=3+(x+y)) (by omega) (fun _ h=>by subst h;exact(r2.cell _ (by omega)).trans (congrArg some ee)) ?_)|refine Ix.n ?_|refine Ar.la ?_);conv=>whnf)
 rintro w3 rfl;conv=>whnf
 exact⟨rfl,rfl,(FS.drewN (.inr r2) 1),k2.drewN 1⟩
end
section
open Go.RowKit
attribute [local irreducible] GF.pw GF.lg GF.mul GF.inv GF.xt
def alS(a:Nat):Nat:=if a=0 then 0 else GF.inv a
def qZ(a:Nat):Int:=if a=0 then 4 else 0
theorem alT(w:World)(g a:Nat)(ha:a<256)(r:FS w g):Spec Tryz.prog 222 #[.pointer (some ⟨g,0,none⟩),.int .u8 a] w (A3 g w (.tuple #[.int .u8 (alS a:Nat),ak (qZ a)])):=by
 by_cases kL:a=0
 ·subst kL;refine spec_of_wpE (T:=tt) ah func222 rfl (by decide +kernel) ntmps222 (by simp) ?_;conv=>whnf
  repeat ((first|refine Br.t ?_|refine CW.s ?_);conv=>whnf)
  exact⟨rfl,rfl,r,Aa.refl _ _⟩
 have hla:=(GF.eG a ha kL).1;have ea:=oZ ha kL;have ee:=tc (j:=255-GF.lg a) (by omega);have e1:alS a=GF.pw (255-GF.lg a):=(if_neg kL).trans (GF.inv_def a);have e2:qZ a=0:=if_neg kL;rw[e1,e2];clear e1 e2;generalize GF.lg a=x at *;refine spec_of_wpE (T:=tt) ah func222 rfl (by decide +kernel) ntmps222 (by simp) ?_;conv=>whnf
 repeat ((first|refine Br.n ?_|refine CW.s ?_);conv=>whnf)
 refine Ca.of (adl g w r) ?_;rintro _ w2 ⟨rfl,r2,k2⟩;conv=>whnf
 refine CW.quiet (fun w'=>w'=w2.drewN 1) ah (by kernel_rfl) (by kernel_rfl) ?_ ?_
 ·rfl
 conv=>whnf
 repeat ((first|(refine Ah.at (j:=513+a) (by omega) (fun _ h=>by subst h;exact(r2.cell _ (by omega)).trans (congrArg some ea)) ?_)|(refine Ix.of (255-x) (by omega) (by omega) ?_)|(refine Ah.at (j:=3+(255-x)) (by omega) (fun _ h=>by subst h;exact(r2.cell _ (by omega)).trans (congrArg some ee)) ?_)|refine Ix.n ?_|refine Ar.la ?_);conv=>whnf)
 rintro w3 rfl;conv=>whnf
 exact⟨rfl,rfl,(FS.drewN (.inr r2) 1),k2.drewN 1⟩
def alU(a b:Nat):Nat:=if b=0 then 0 else GF.mul a (GF.inv b)
theorem agt(w:World)(g a b:Nat)(ha:a<256)(hb:b<256)(r:FS w g):Spec Tryz.prog 216 #[.pointer (some ⟨g,0,none⟩),.int .u8 a,.int .u8 b] w (A3 g w (.tuple #[.int .u8 (alU a b:Nat),ak (qZ b)])):=by
 refine spec_of_wpE (T:=tt) ah func216 rfl (by decide +kernel) ntmps216 (by simp) ?_;conv=>whnf
 refine Ca.of (alT w g b hb r) ?_;rintro _ w2 ⟨rfl,r2,k2⟩;by_cases jK:b=0
 ·subst jK;conv=>whnf
  repeat ((first|refine Br.t ?_|refine Ru.n1 ?_|refine CW.s ?_);conv=>whnf)
  exact⟨rfl,rfl,r2,k2⟩
 have e1:alS b=GF.inv b:=if_neg jK;have e2:qZ b=0:=if_neg jK;have e3:alU a b=GF.mul a (GF.inv b):=if_neg jK;rw[e1,e2,e3];have hi:=GF.oq b;conv=>whnf
 repeat ((first|refine Br.f ?_|refine Ru.ai ?_|refine CW.s ?_);conv=>whnf)
 refine Ca.of (yk w2 g a (GF.inv b) ha hi r2) ?_;rintro _ w3 ⟨rfl,r3,k3⟩;conv=>whnf
 exact⟨rfl,rfl,r3,k2.trans k3⟩
def pwI(k:Int):Nat:=GF.pw (k%255).toNat
theorem alV{k m q:Int}(h:m=k-255*q)(h1 : -255<m):GF.pw (m+255).toNat=pwI k:=by
 unfold pwI;rw[<-GF.agm (m+255).toNat];congr 1;omega
theorem Dv.apx{k:IntKind}{a b:Int}{K:Value->Prop}(hb:b≠0)(h:K (.int k (a.tmod b))):Dv .rem k a b K:=⟨hb,h⟩
theorem ajM(k:Int):∃q,k.tmod 255=k-255*q/\-255<k.tmod 255/\k.tmod 255<255/\(0<=k->0<=k.tmod 255)/\(k<=0->k.tmod 255<=0):=by
 refine⟨k.tdiv 255,Int.tmod_def k 255,?_⟩;have h:=Int.tmod_def k 255;by_cases hk:0<=k
 ·have e:=Int.tmod_eq_emod_of_nonneg (b:=255) hk;rw[e];omega
 ·have e:k.tmod 255 = -((-k)%255):=by
   have:=Int.neg_tmod (-k) 255;rw[Int.neg_neg] at this;rw[this,Int.tmod_eq_emod_of_nonneg (by omega)]
  rw[e];omega
theorem alW(w:World)(g:Nat)(k:Int)(r:FS w g):Spec Tryz.prog 212 #[.pointer (some ⟨g,0,none⟩),.int .i64 k] w (A3 g w (.int .u8 (pwI k:Nat))):=by
 obtain⟨q,h1,h2,h3,-,-⟩:=ajM k;rw[<-alV h1 h2];have ee:=tc (j:=(k.tmod 255+255).toNat) (by omega);refine spec_of_wpE (T:=tt) ah func212 rfl (by decide +kernel) ntmps212 (by simp) ?_;conv=>whnf
 refine Ca.of (adl g w r) ?_;rintro _ w2 ⟨rfl,r2,k2⟩;conv=>whnf
 refine Dv.apx (by decide) ?_;generalize k.tmod 255=m at *;conv=>whnf
 repeat ((first|(refine Ix.of (m+255).toNat (by omega) (by omega) ?_)|(refine Ld.at (j:=3+(m+255).toNat) (by omega) ((r2.cell _ (by omega)).trans (congrArg some ee)) ?_)|refine Ar.la ?_);conv=>whnf)
 exact⟨rfl,rfl,.inr r2,k2⟩
def lgN(a:Nat):Nat:=if a=0 then 0 else GF.lg a
theorem alX(w:World)(g a:Nat)(ha:a<256)(r:FS w g):Spec Tryz.prog 217 #[.pointer (some ⟨g,0,none⟩),.int .u8 a] w (A3 g w (.tuple #[.int .i64 (lgN a:Nat),ak (qZ a)])):=by
 by_cases kL:a=0
 ·subst kL;refine spec_of_wpE (T:=tt) ah func217 rfl (by decide +kernel) ntmps217 (by simp) ?_;conv=>whnf
  repeat ((first|refine Br.t ?_|refine CW.s ?_);conv=>whnf)
  exact⟨rfl,rfl,r,Aa.refl _ _⟩
 have ea:=oZ ha kL;have e1:lgN a=GF.lg a:=if_neg kL;have e2:qZ a=0:=if_neg kL;rw[e1,e2];clear e1 e2;generalize GF.lg a=x at *;refine spec_of_wpE (T:=tt) ah func217 rfl (by decide +kernel) ntmps217 (by simp) ?_;conv=>whnf
 repeat ((first|refine Br.n ?_|refine CW.s ?_);conv=>whnf)
 refine Ca.of (adl g w r) ?_;rintro _ w2 ⟨rfl,r2,k2⟩;conv=>whnf
 repeat ((first|(refine Ld.at (j:=513+a) (by omega) ((r2.cell _ (by omega)).trans (congrArg some ea)) ?_)|refine Ix.n ?_);conv=>whnf)
 exact⟨rfl,rfl,.inr r2,k2⟩
end
section
namespace GF
attribute [local irreducible] GF.pw GF.lg GF.mul GF.inv GF.xt
def gZ:Nat->(Nat->Nat)->Nat
 |0,_=>0
 |n+1,f=>gZ n f ^^^ f n
theorem cS(n:Nat)(f:Nat->Nat):gZ (n+1) f=gZ n f ^^^ f n:=rfl
theorem kM{f:Nat->Nat}:∀ {n:Nat},(∀i,i<n->f i<256)->gZ n f<256
 |0,_=>(by decide:0<256)
 |n+1,h=>bo (kM (fun i hi=>h i (by omega))) (h n (by omega))
theorem gi{f g:Nat->Nat}:∀ {n:Nat},(∀i,i<n->f i=g i)->gZ n f=gZ n g
 |0,_=>rfl
 |n+1,h=>by rw[cS,cS,gi (fun i hi=>h i (by omega)),h n (by omega)]
theorem wj:∀(n:Nat) {f:Nat->Nat},(∀i,i<n->f i=0)->gZ n f=0
 |0,_,_=>rfl
 |n+1,f,h=>by rw[cS,wj n (fun i hi=>h i (by omega)),h n (by omega),Nat.xor_self]
theorem agu(n:Nat)(f g:Nat->Nat):gZ n (fun i=>f i ^^^ g i)=gZ n f ^^^ gZ n g:=by
 induction n with
 |zero=>exact(Nat.xor_self 0).symm
 |succ n ih=>rw[cS,cS,cS,ih,ajD]
theorem agv{n a:Nat}(ha:a<n)(v:Nat):gZ n (fun s=>if a=s then v else 0)=v:=by
 induction n with
 |zero=>omega
 | succ n ih =>
  rw[cS];by_cases h:a=n
  ·subst h;rw[if_pos rfl,wj _ (fun i hi=>if_neg (by omega)),Nat.zero_xor]
  ·rw[if_neg h,Nat.xor_zero];exact ih (by omega)
theorem abZ{a:Nat}(f:Nat->Nat)(n:Nat):mul a (gZ n f)=gZ n (fun i=>mul a (f i)):=by
 induction n with
 |zero=>exact dj a
 |succ n ih=>rw[cS,fB,ih];rfl
theorem ab0{a:Nat}{f:Nat->Nat}{n:Nat}(ha:a<256)(hf:∀i,f i<256):mul (gZ n f) a=gZ n (fun i=>mul (f i) a):=by
 rw[mul_comm (kM (fun i _=>hf i)) ha,abZ];exact gi (fun i _=>mul_comm ha (hf i))
def aT(p:Nat->Nat)(x:Nat):Nat->Nat
 |0=>0
 |n+1=>mul (aT p x n) x ^^^ p n
theorem kN(p:Nat->Nat)(x n:Nat):aT p x (n+1)=mul (aT p x n) x ^^^ p n:=rfl
theorem fL{p:Nat->Nat}(hp:∀j,p j<256)(x n:Nat):aT p x n<256:=by
 induction n with
 |zero=>exact(by decide:0<256)
 |succ n ih=>exact bo (mul_lt ih) (hp n)
theorem ef{p q:Nat->Nat}(x:Nat):∀ {n:Nat},(∀j,j<n->p j=q j)->aT p x n=aT q x n
 |0,_=>rfl
 |n+1,h=>by rw[kN,kN,ef x (fun j hj=>h j (by omega)),h n (by omega)]
def gp(x:Nat):Nat->Nat
 |0=>1
 |n+1=>mul (gp x n) x
theorem adn(x n:Nat):gp x (n+1)=mul (gp x n) x:=rfl
theorem aad(x n:Nat):gp x n<256:=by
 induction n with
 |zero=>exact(by decide:1<256)
 |succ n ih=>exact mul_lt ih
theorem agw{p:Nat->Nat}(hp:∀j,p j<256){x:Nat}(hx:x<256)(n:Nat):aT p x n=gZ n (fun i=>mul (p i) (gp x (n-1-i))):=by
 induction n with
 |zero=>rfl
 | succ n ih =>
  rw[kN,ih,cS,show n+1-1-n=0 by omega,show gp x 0=1 from rfl,eY _ (hp n),ab0 hx (fun i=>mul_lt (hp i))];congr 1;refine gi (fun i hi=>?_);rw[show n+1-1-i=(n-1-i)+1 by omega,adn,mul_assoc (hp i) (aad x _) hx]
def term(p q:Nat->Nat)(i k s:Nat):Nat:=if i+k=s then mul (p i) (q k) else 0
theorem yl{p q:Nat->Nat}(hp:∀j,p j<256)(i k s:Nat):term p q i k s<256:=by
 unfold term;split
 ·exact mul_lt (hp i)
 ·decide
def zx(p q:Nat->Nat)(m i k s:Nat):Nat:=gZ i (fun a=>gZ m (fun b=>term p q a b s)) ^^^ gZ k (fun b=>term p q i b s)
theorem alY{p q:Nat->Nat}(hp:∀j,p j<256)(m i k s:Nat):zx p q m i k s<256:=bo (kM (fun a _=>kM (fun b _=>yl hp a b s))) (kM (fun b _=>yl hp i b s))
theorem agx(p q:Nat->Nat)(m s:Nat):zx p q m 0 0 s=0:=by
 unfold zx;exact Nat.xor_self 0
theorem agy(p q:Nat->Nat)(m i k:Nat)(s:Nat):zx p q m i (k+1) s=if s=i+k then zx p q m i k s ^^^ mul (p i) (q k) else zx p q m i k s:=by
 unfold zx;rw[cS, <-Nat.xor_assoc];unfold term;by_cases h:s=i+k
 ·rw[if_pos h,if_pos h.symm]
 ·rw[if_neg h,if_neg (fun e=>h e.symm),Nat.xor_zero]
theorem ajN(p q:Nat->Nat)(m i s:Nat):zx p q m i m s=zx p q m (i+1) 0 s:=by
 unfold zx;rw[cS,show gZ 0 (fun b=>term p q (i+1) b s)=0 from rfl,Nat.xor_zero]
def conv(p q:Nat->Nat)(n m s:Nat):Nat:=gZ n (fun a=>gZ m (fun b=>term p q a b s))
theorem ajO(p q:Nat->Nat)(m n s:Nat):zx p q m n 0 s=conv p q n m s:=by
 unfold zx conv;rw[show gZ 0 (fun b=>term p q n b s)=0 from rfl,Nat.xor_zero]
theorem ajP{p q:Nat->Nat}(hp:∀j,p j<256)(n m s:Nat):conv p q n m s<256:=kM (fun a _=>kM (fun b _=>yl hp a b s))
end GF
end
section
open Go.RowKit
theorem Ly.aP{w:World}{t t':TypeId}{s n c g m:Nat}{A:Option Addr}{f f':Nat->Value}(h:Ly w t s A n c f)(r:Row w g t' m f')(ht:t≠t'):g∉aR A:=by
 intro hx
 cases A with
 |none=>cases hx
 | some a =>
  obtain⟨b,cur,fr,rfl,hh,_⟩:=h.2.2.2 a rfl;obtain rfl:=List.mem_singleton.1 hx;rw[r] at hh;injection hh with hh;injection hh with _ e;exact ht e.symm
structure Own(w0 w:World)(X:Option Addr)(n c:Nat)(f:Nat->Int):Prop where
 ly:Ly w 5 1 X n c (fun j=>.int .u8 (f j))
 new:∀x,x∈aR X->w0.heap.size<=x
 ab:Aa [] w0 w
theorem Own.congr{w0 w:World}{X:Option Addr}{n c:Nat}{f f':Nat->Int}(h:Own w0 w X n c f)(e:∀j,j<n->f j=f' j):Own w0 w X n c f':=⟨h.ly.congr (fun j hj=>by rw[e j (by omega)]),h.new,h.ab⟩
theorem Own.start(w:World)(f:Nat->Int):Own w w none 0 0 f:=⟨Ly.nil _ _ _ _,(fun _ h=>by cases h),Aa.refl _ _⟩
theorem Bu.grow{w0 w:World}{X:Option Addr}{n c:Nat}{f:Nat->Int}{ty:TypeId}{cs:Array Bool}{K:Value->World->Prop}(O:Own w0 w X n c f){B:Option Addr}{m d:Nat}(g:Nat->Int)(hr:Rd w B m (fun j=>.int .u8 (g j)))(hm:m<=d)(hB:B=none->d=0)(hb:n+m<=140737488355328)
  (k:∀Y e w',Own w0 w' Y (n+m) e (fun j=>if j<n then f j else g (j-n))->Aa (aR X) w w'->K (.slice Y (n+m) e) w') :
  Bu Tryz.prog .append #[37,37] ty cs #[.slice X n c,.slice B m d] w K:=by
 obtain⟨i0,hi,lZ,lP,l4⟩:=info_parts dQ;refine Bu.append underlying37 hi lZ lP l4 rfl (by omega) O.ly _ (by rw[Nat.mul_one];exact hr) hm hB (fun j hj=>rfl) (by simp only[maxLen];omega) (by omega) ?_;intro Y e w' hy hk dC iq;refine k Y e w' ⟨hy.congr (fun j hj=>?_),fun x hx=>?_,O.ab.then hk (fun x hx=>.inr (O.new x hx))⟩ hk
 ·simp only[Nat.mul_one];by_cases h:j<n
  ·rw[if_pos h,if_pos h]
  ·rw[if_neg h,if_neg h]
 ·rcases dC with h|h
  ·exact O.new x (h ▸ hx)
  ·rw[h] at hx;rw[List.mem_singleton.1 hx];exact O.ab.size
theorem aae(v:Int)(w:World):(Instr.buildSlice 37 1 #[(0,.int .u8 v)]).run Tryz.prog w=.ok (.slice (some ⟨w.heap.size,0,none⟩) 1 1) (w.alloc (.cells #[.int .u8 v] 5)):=by kernel_rfl
theorem agz(u v:Int)(w:World):(Instr.buildSlice 37 2 #[(0,.int .u8 u),(1,.int .u8 v)]).run Tryz.prog w=.ok (.slice (some ⟨w.heap.size,0,none⟩) 2 2) (w.alloc (.cells #[.int .u8 u,.int .u8 v] 5)):=by kernel_rfl
theorem Ru.b2{u v:Int}{w:World}{K:Value->World->Prop}(k:∀g w',g=w.heap.size->Rd w' (some ⟨g,0,none⟩) 2 (fun j=>.int .u8 (if j=0 then u else v))->Aa [] w w'->K (.slice (some ⟨g,0,none⟩) 2 2) w'):Ru Tryz.prog (Instr.buildSlice 37 2 #[(0,.int .u8 u),(1,.int .u8 v)]) w K :=
 ⟨_,_,agz u v w,k _ _ rfl (fun _=>⟨_,0,rfl,fun j hj=>by
  have:j=0\/j=1:=by omega
  rcases this with rfl|rfl<;>(simp only[World.cell?,heap_alloc_new];rfl)⟩) ((Aa.refl _ _).alloc _)⟩
end
section
open Go.RowKit
attribute [local irreducible] GF.pw GF.lg GF.mul GF.inv GF.xt
structure FK(w0:World)(g:Nat)(w:World):Prop where
 fs:FS w g
 kp:Aa [g] w0 w
section
variable{w0 w:World}{g:Nat}
theorem FK.of{u v:Value}{w':World}(h:FK w0 g w)(k:A3 g w u v w'):v=u/\FK w0 g w':=⟨k.1,k.2.1,h.kp.trans k.2.2⟩
theorem Ca.mul{K:Value->World->Prop}(h:FK w0 g w)(a b:Nat)(ha:a<256)(hb:b<256)(k:∀w',FK w0 g w'->K (.int .u8 (GF.mul a b:Nat)) w'):Ca Tryz.prog 214 #[.pointer (some ⟨g,0,none⟩),.int .u8 a,.int .u8 b] w K:=Ca.of (yk w g a b ha hb h.fs) fun v w' hp=>by
 obtain⟨rfl,hf⟩:=h.of hp;exact k w' hf
theorem Ca.ot{K:Value->World->Prop}(k:∀g w',w.heap.size<=g->FK w' g w'->Aa [] w w'->K (.pointer (some ⟨g,0,none⟩)) w'):Ca Tryz.prog 210 #[] w K:=Ca.of (yj w) fun v w' ⟨hv,hf,hk⟩=>by
 subst hv;exact k _ w' (Nat.le_refl _) ⟨hf,Aa.refl _ _⟩ hk
end
abbrev AH(w:World)(A:Option Addr)(n:Nat)(p:Nat->Nat):Prop:=Rd w A n (fun j=>.int .u8 (p j:Nat))
theorem vn{k:IntKind}{a b:Nat}(h:a=b):Value.int k (a:Int)=.int k (b:Int):=by rw[h]
theorem ajQ(w0 w:World)(g n c x:Nat)(A:Option Addr)(p:Nat->Nat)(hx:x<256)(hp:∀j,p j<256)(r:AH w A n p)(hA:0<n->∀a,A=some a->a.block≠g)(fk:FK w0 g w)(hn:n<=281474976710656) :
  Spec Tryz.prog 215 #[.pointer (some ⟨g,0,none⟩),.slice A n c,.int .u8 x] w fun v w'=>v=.int .u8 (GF.aT p x n:Nat)/\FK w0 g w'/\Aa [g] w w':=by
 refine spec_of_wpE (T:=tt) ah func215 rfl (by decide +kernel) ntmps215 (by simp) ?_;conv=>whnf
 repeat (refine CW.s ?_;conv=>whnf)
 refine CW.loop (ι:=Nat) (fun i w'=>i<=n/\FK w g w') (fun i=>[(0,.pointer (some ⟨g,0,none⟩)),(2,.int .u8 x),(7,.int .u8 (GF.aT p x i:Nat)),(10,.slice A n c),(11,.int .i64 n),(12,.int .i64 i)]) (fun i=>n-i) 0 ah ⟨by omega,fk.fs,Aa.refl _ _⟩ ⟨rfl,rfl,rfl,rfl,rfl,rfl,trivial⟩ ?_;rintro i wr ⟨hi,f1⟩;have he:=GF.fL hp x i;by_cases av:i<n
 ·have bt:GF.aT p x (i+1)=GF.mul (GF.aT p x i) x ^^^ p i:=rfl;have hpi:=hp i;obtain⟨b,o,rfl,hc⟩:=(r.ab f1.kp (fun a ha=>by simpa using hA (by omega) a ha)) (by omega);have hci:=hc i av;generalize GF.aT p x i=e at *;conv=>whnf
  repeat ((first|(refine Ld.of hci ?_)|refine Ix.n ?_|refine Br.y ?_|refine CW.s ?_);conv=>whnf)
  refine Ca.mul f1 e x he hx ?_;intro w2 f2;conv=>whnf
  repeat (refine Ar.la ?_;conv=>whnf)
  refine⟨i+1,⟨av,f2⟩,⟨rfl,rfl,vi ?_,rfl,rfl,rfl,trivial⟩,by simp only;omega⟩;rw[bt];exact bR (GF.mul_lt he) hpi
 ·obtain rfl:i=n:=by omega
  conv=>whnf
  repeat ((first|refine Br.n ?_|refine CW.s ?_);conv=>whnf)
  exact⟨rfl,rfl,⟨f1.fs,fk.kp.trans f1.kp⟩,f1.kp⟩
theorem Ru.anP{w:World}{N:Nat}{x:Int}{K:Value->World->Prop}(e:x=(N:Int))(hn:N<=281474976710656)(k:∀g w',g=w.heap.size->w'.heap.size=w.heap.size+1->Row w' g 5 N (fun _=>.int .u8 0)->Aa [] w w'->K (.slice (some ⟨g,0,none⟩) N N) w'):Ru Tryz.prog (Instr.makeSlice 37 (.int .i64 x) (.int .i64 x)) w K:=by
 subst e;exact⟨_,_,run_make_row' (P:=Tryz.prog) 37 5 (.int .u8 0) 1 underlying37 dQ rfl .i64 .i64 N (by omega) (by omega) w,k _ _ rfl (by simp) (Row.made _ _ _ _) ((Aa.refl _ _).alloc _)⟩
def B9(w:World)(p q:Nat->Nat)(n m:Nat)(v:Value)(w':World):Prop:=((n=0\/m=0)/\v=.slice none 0 0)\/(0<n/\0<m/\∃h,w.heap.size<=h/\v=.slice (some ⟨h,0,none⟩) (n+m-1) (n+m-1)/\Row w' h 5 (n+m-1) (fun s=>.int .u8 (GF.conv p q n m s:Nat)))
theorem ajR(p q:Nat->Nat)(m i k:Nat):put (fun s=>Value.int .u8 (GF.zx p q m i k s:Nat)) (i+k) (.int .u8 ((GF.zx p q m i k (i+k) ^^^ GF.mul (p i) (q k):Nat):Int))=fun s=>.int .u8 (GF.zx p q m i (k+1) s:Nat):=by
 funext s;unfold put;rw[GF.agy];by_cases h:s=i+k
 ·subst h;rw[if_pos rfl,if_pos rfl]
 ·rw[if_neg h,if_neg h]
theorem agA(w0 w:World)(g n m c d:Nat)(A B:Option Addr)(p q:Nat->Nat)(hp:∀j,p j<256)(hq:∀j,q j<256)(ra:AH w A n p)(rb:AH w B m q)(hA:0<n->∀a,A=some a->a.block≠g)(hB:0<m->∀a,B=some a->a.block≠g)(fk:FK w0 g w)(hn:n<=140737488351232)(hm:m<=140737488351232) :
  Spec Tryz.prog 211 #[.pointer (some ⟨g,0,none⟩),.slice A n c,.slice B m d] w fun v w'=>B9 w p q n m v w'/\FK w0 g w'/\Aa [g] w w':=by
 refine spec_of_wpE (T:=tt) ah func211 rfl (by decide +kernel) ntmps211 (by simp) ?_;by_cases zw:n=0
 ·conv=>whnf
  repeat ((first|refine Br.t ?_|refine Pk.t ?_|refine Br.y ?_|refine CW.s ?_);conv=>whnf)
  exact⟨rfl,.inl ⟨.inl zw,rfl⟩,fk,Aa.refl _ _⟩
 by_cases hm0:m=0
 ·conv=>whnf
  repeat ((first|refine Br.f ?_|refine Pk.f ?_|refine Br.y ?_|refine Br.n ?_|refine CW.s ?_);conv=>whnf)
  exact⟨rfl,.inl ⟨.inr hm0,rfl⟩,fk,Aa.refl _ _⟩
 conv=>whnf
 repeat ((first|refine Br.f ?_|refine Pk.f ?_|refine Ar.la ?_|refine Br.n ?_|refine CW.s ?_);conv=>whnf)
 refine Ru.anP (N:=n+m-1) (by omega) (by omega) ?_;intro h w1 hh du rh k1;have hlg:=fk.fs.lt;have dg:g≠h:=by omega
 conv=>whnf
 repeat (refine CW.s ?_;conv=>whnf)
 refine CW.loop (ι:=Nat) (fun i w'=>i<=n/\FK w g w'/\Row w' h 5 (n+m-1) (fun s=>.int .u8 (GF.zx p q m i 0 s:Nat))) (fun i=>[(0,.pointer (some ⟨g,0,none⟩)),(2,.slice B m d),(7,.slice (some ⟨h,0,none⟩) (n+m-1) (n+m-1)),(27,.slice A n c),(28,.int .i64 n),(29,.int .i64 i)]) (fun i=>n-i) 0 ah ⟨by omega,⟨fk.fs.aj k1,k1.mono (by simp)⟩,rh.congr (fun s _=>by rw[GF.agx];rfl)⟩ ⟨rfl,rfl,rfl,rfl,rfl,rfl,trivial⟩ ?_;rintro i wr ⟨hi,f1,rh⟩;by_cases av:i<n
 ·obtain⟨b,o,rfl,hc⟩:=(ra.ab f1.kp (fun a ha=>by simpa using hA (by omega) a ha)) (by omega);have hci:=hc i av;have hpi:=hp i;have hl1:=rh.lt;conv=>whnf
  repeat ((first|(refine Ld.of hci ?_)|refine Ix.n ?_|refine Br.y ?_|refine CW.s ?_);conv=>whnf)
  refine CW.loop (ι:=Nat) (fun k w'=>k<=m/\FK w g w'/\Row w' h 5 (n+m-1) (fun s=>.int .u8 (GF.zx p q m i k s:Nat))) (fun k=>[(0,.pointer (some ⟨g,0,none⟩)),(2,.slice B m d),(7,.slice (some ⟨h,0,none⟩) (n+m-1) (n+m-1)),(8,.int .i64 i),(9,.int .u8 (p i:Nat)),(27,.slice (some ⟨b,o,none⟩) n c),(28,.int .i64 n),(29,.int .i64 i),(34,.slice B m d),(35,.int .i64 m),(36,.int .i64 k)]) (fun k=>m-k) 0 ah ⟨by omega,f1,rh⟩ ⟨rfl,rfl,rfl,rfl,rfl,rfl,rfl,rfl,rfl,rfl,rfl,trivial⟩ ?_;rintro k w2 ⟨hk,f2,rh⟩;by_cases alZ:k<m
  ·obtain⟨b2,o2,rfl,lT⟩:=(rb.ab f2.kp (fun a ha=>by simpa using hB (by omega) a ha)) (by omega);have apy:=lT k alZ;have hqk:=hq k;have ht:=GF.alY (q:=q) hp m i k (i+k);have apz:=ajR p q m i k;have bu:=rh.cell (i+k) (by omega);conv=>whnf
   repeat ((first|(refine Ld.of apy ?_)|refine Ix.n ?_|refine Br.y ?_|refine CW.s ?_);conv=>whnf)
   refine CW.held (fun w'=>Row w' h 5 (n+m-1) (fun s=>.int .u8 (GF.zx p q m i k s:Nat))) [12] (.take 0 (.take 1 (.take 2 (.take 3 (.take 4 (.take 5 (.take 6 (.take 7 (.take 8 (.one 9 (.take 10 (.take 11 (.one 12 (.done)))))))))))))) ah (by kernel_rfl) (by kernel_rfl) (by kernel_rfl) ?_ ?_
   ·exact rh.drewN 1
   have f2:FK w g (w2.drewN 1):=⟨f2.fs.drewN 1,f2.kp.drewN 1⟩;have rh:=rh.drewN 1;generalize w2.drewN 1=w3 at *;conv=>whnf
   repeat ((first|(refine Ah.at (j:=i+k) (by omega) (fun _ h=>h.cell (i+k) (by omega)) ?_)|refine Ix.n ?_|refine Ar.la ?_);conv=>whnf)
   refine Ca.of (yk w3 g (p i) (q k) hpi hqk f2.fs) ?_;rintro _ w4 ⟨rfl,s4,k4⟩;have rh:=rh.ab k4 (by simpa using dg.symm);conv=>whnf
   refine⟨rh,?_⟩;conv=>whnf
   repeat (refine Ix.n ?_;conv=>whnf)
   refine Sd.rowAt rh (i+k) (by omega) (by omega) rfl ?_;intro w5 rh k5;rw[bR ht (GF.mul_lt hpi),apz] at rh;conv=>whnf
   repeat (refine Ar.la ?_;conv=>whnf)
   exact⟨k+1,⟨alZ,⟨s4.ab k5 (by simpa using dg),(f2.kp.trans k4).then k5 (fun x hx=>.inr (by rw[List.mem_singleton.1 hx];omega))⟩,rh⟩,⟨rfl,rfl,rfl,rfl,rfl,rfl,rfl,rfl,rfl,rfl,rfl,trivial⟩,by simp only;omega⟩
  ·obtain rfl:k=m:=by omega
   conv=>whnf
   repeat ((first|refine Ar.la ?_|refine Br.n ?_|refine CW.s ?_);conv=>whnf)
   exact⟨i+1,⟨av,f2,rh.congr (fun s _=>vn (GF.ajN p q k i s))⟩,⟨rfl,rfl,rfl,rfl,rfl,rfl,trivial⟩,by simp only;omega⟩
 ·obtain rfl:i=n:=by omega
  conv=>whnf
  repeat ((first|refine Br.n ?_|refine CW.s ?_);conv=>whnf)
  exact⟨rfl,.inr ⟨by omega,by omega,h,by omega,rfl,rh.congr (fun s _=>vn (GF.ajO p q m i s))⟩,⟨f1.fs,fk.kp.trans f1.kp⟩,f1.kp⟩
theorem Ca.anQ{w0 w:World}{g n c x:Nat}{A:Option Addr}{p:Nat->Nat}{K:Value->World->Prop}(hx:x<256)(hp:∀j,p j<256)(r:AH w A n p)(hA:0<n->∀a,A=some a->a.block≠g)(fk:FK w0 g w)(hn:n<=281474976710656)
  (k:∀w',FK w0 g w'->Aa [g] w w'->K (.int .u8 (GF.aT p x n:Nat)) w'):Ca Tryz.prog 215 #[.pointer (some ⟨g,0,none⟩),.slice A n c,.int .u8 x] w K:=Ca.of (ajQ w0 w g n c x A p hx hp r hA fk hn) fun v w' ⟨h1,h2,h3⟩=>by
 subst h1;exact k w' h2 h3
end
section
namespace GF
attribute [local irreducible] GF.pw GF.lg GF.mul GF.inv GF.xt
theorem o5:pw 0=1:=by decide +kernel
theorem agB{i j:Nat}(hi:i<255)(hj:j<255)(h:i≠j):pw i ^^^ pw j≠0:=fun e=>h (abW hi hj (by
 have:=congrArg (· ^^^ pw j) e;simp only[Nat.xor_assoc,Nat.xor_self,Nat.xor_zero,Nat.zero_xor] at this;exact this))
theorem xor_eq{a b:Nat}(h:a ^^^ b=0):a=b:=by
 have:=congrArg (· ^^^ b) h;simp only[Nat.xor_assoc,Nat.xor_self,Nat.xor_zero,Nat.zero_xor] at this;exact this
theorem ado{a b:Nat}(ha:a<256)(hb:b<256)(h:mul a b=0)(jK:b≠0):a=0:=by
 by_cases e:a=0
 ·exact e
 ·exact absurd h (sk ha hb e jK)
def hH:List (Nat×Nat)->Nat->Nat
 | [],_=>0
 |(k,e)::P,j=>mul e (pw (j*k)) ^^^ hH P j
theorem adp:∀(P:List (Nat×Nat)) (j:Nat),(∀x,x∈P->x.2<256)->hH P j<256
 | [],_,_=>(by decide:0<256)
 |(k,e)::P,j,h=>bo (mul_lt (h (k,e) (by simp))) (adp P j (fun x hx=>h x (by simp[hx])))
def strip(k0:Nat)(P:List (Nat×Nat)):List (Nat×Nat):=P.map fun x=>(x.1,mul x.2 (pw x.1 ^^^ pw k0))
theorem tf(k0:Nat):∀(P:List (Nat×Nat)) (j:Nat),(∀x,x∈P->x.2<256)->hH (strip k0 P) j=hH P (j+1) ^^^ mul (pw k0) (hH P j)
 | [],j,_=>by
  show 0=0 ^^^ mul (pw k0) 0;rw[dj,Nat.xor_self]
 | (k,e)::P,j,h=>by
  have he:e<256:=h (k,e) (by simp);have ih:=tf k0 P j (fun x hx=>h x (by simp[hx]));have hs:=adp P j (fun x hx=>h x (by simp[hx]));show mul (mul e (pw k ^^^ pw k0)) (pw (j*k)) ^^^ hH (strip k0 P) j=(mul e (pw ((j+1)*k)) ^^^ hH P (j+1)) ^^^ mul (pw k0) (mul e (pw (j*k)) ^^^ hH P j);rw[ih,fB (pw k0),fB e,gh (mul_lt he) (mul_lt he) (bE _),mul_assoc he (bE _) (bE _),fJ,show k+j*k=(j+1)*k by rw[Nat.succ_mul];omega];have e1:mul (mul e (pw k0)) (pw (j*k))=mul (pw k0) (mul e (pw (j*k))):=by rw[mul_comm he (bE _),mul_assoc (bE _) he (bE _)]
  rw[e1];generalize mul e (pw ((j+1)*k))=a;generalize mul (pw k0) (mul e (pw (j*k)))=b;generalize hH P (j+1)=c;generalize mul (pw k0) (hH P j)=d;rw[ajD]
theorem van:∀(P:List (Nat×Nat)),(P.map Prod.fst).Nodup->(∀x,x∈P->x.1<255/\x.2<256)->(∀j,j<P.length->hH P j=0)->∀x,x∈P->x.2=0
 | [],_,_,_,x,hx=>by cases hx
 | (k0,e0)::P,hn,hb,hs,x,hx=>by
  have hk0:=hb (k0,e0) (by simp);have hbP:∀y,y∈P->y.1<255/\y.2<256:=fun y hy=>hb y (by simp[hy]);rw[List.map_cons,List.nodup_cons] at hn;have hP:=van (strip k0 P) (by
    rw[show(strip k0 P).map Prod.fst=P.map Prod.fst by unfold strip;rw[List.map_map];rfl];exact hn.2) (fun y hy=>by
    obtain⟨z,hz,rfl⟩:=List.mem_map.1 hy;exact⟨(hbP z hz).1,mul_lt (hbP z hz).2⟩) (fun j hj=>by
    have hj:j<P.length:=by simpa[strip] using hj
    rw[tf k0 P j (fun y hy=>(hbP y hy).2)];have h1:=hs j (by simp;omega);have h2:=hs (j+1) (by simp;omega);have h1:mul e0 (pw (j*k0)) ^^^ hH P j=0:=h1;have h2:mul e0 (pw ((j+1)*k0)) ^^^ hH P (j+1)=0:=h2;rw[<-xor_eq h1, <-xor_eq h2,mul_comm (bE _) (mul_lt hk0.2),mul_assoc hk0.2 (bE _) (bE _),fJ,show j*k0+k0=(j+1)*k0 by rw[Nat.succ_mul],Nat.xor_self])
  have cu:∀y,y∈P->y.2=0:=fun y hy=>by
   have h1:=hP (y.1,mul y.2 (pw y.1 ^^^ pw k0)) (List.mem_map.2 ⟨y,hy,rfl⟩);refine ado (hbP y hy).2 (bo (bE _) (bE _)) h1 (agB (hbP y hy).1 hk0.1 (fun e=>hn.1 ?_));rw[<-e];exact List.mem_map.2 ⟨y,hy,rfl⟩
  rcases List.mem_cons.1 hx with rfl|hx
  ·have h0:mul e0 (pw (0*k0)) ^^^ hH P 0=0:=hs 0 (by simp);have hz:∀(Q:List (Nat×Nat)),(∀y,y∈Q->y.2=0)->hH Q 0=0:=fun Q=>by
    induction Q with
    |nil=>intro _;rfl
    | cons y Q ih =>
     intro h;show mul y.2 _ ^^^ hH Q 0=0;rw[h y (by simp),bX,ih (fun z hz=>h z (by simp[hz])),Nat.xor_self]
   rw[hz P cu,Nat.xor_zero,Nat.zero_mul,o5,eY _ hk0.2] at h0;exact h0
  ·exact cu x hx
termination_by P=>P.length
decreasing_by simp[strip]
def dw(W:Nat->Nat)(j:Nat):Nat:=aT W (pw j) 64
def Ay(C:Nat->Nat):Prop:=∀j,j<6->dw C j=0
theorem anR(j e:Nat):gp (pw j) e=pw (j*e):=by
 induction e with
 |zero=>exact o5.symm
 |succ e ih=>rw[adn,ih,fJ,Nat.mul_succ]
theorem o9{W:Nat->Nat}(hW:∀i,W i<256)(j:Nat):dw W j=gZ 64 (fun i=>mul (W i) (pw (j*(63-i)))):=by
 unfold dw;rw[agw hW (bE j)];exact gi (fun i _=>by rw[anR])
theorem ym{W:Nat->Nat}(hW:∀i,W i<256)(j:Nat):dw W j<256:=fL hW _ _
theorem adq{W V:Nat->Nat}(hW:∀i,W i<256)(hV:∀i,V i<256)(j:Nat):dw (fun i=>W i ^^^ V i) j=dw W j ^^^ dw V j:=by
 rw[o9 (fun i=>bo (hW i) (hV i)),o9 hW,o9 hV, <-agu];exact gi (fun i _=>gh (hW i) (hV i) (bE _))
theorem ajS{p v:Nat}(hp:p<64)(hv:v<256)(j:Nat):dw (fun i=>if p=i then v else 0) j=mul v (pw (j*(63-p))):=by
 rw[o9 (fun i=>by split<;>omega)];have e:∀i,mul (if p=i then v else 0) (pw (j*(63-i)))=if p=i then mul v (pw (j*(63-p))) else 0:=fun i=>by
  by_cases h:p=i
  ·subst h;rw[if_pos rfl,if_pos rfl]
  ·rw[if_neg h,if_neg h,bX]
 rw[gi (fun i _=>e i),agv hp]
def iN(W V:Nat->Nat):List Nat:=(List.range 64).filter fun i=>decide (W i≠V i)
def cm(W V:Nat->Nat):Nat:=(iN W V).length
theorem rf(f:Nat->Nat)(j:Nat)(p:Nat->Bool):∀(n:Nat),n<=64->(∀i,i<n->p i=false->f i=0)->hH (((List.range n).filter p).map fun i=>(63-i,f i)) j=gZ n (fun i=>mul (f i) (pw (j*(63-i))))
 |0,_,_=>rfl
 | n+1,hn,h=>by
  have ih:=rf f j p n (by omega) (fun i hi=>h i (by omega));have app:∀(P Q:List (Nat×Nat)),hH (P++Q) j=hH P j ^^^ hH Q j:=fun P Q=>by
   induction P with
   |nil=>exact(Nat.zero_xor _).symm
   | cons x P ih =>
    show mul x.2 _ ^^^ hH (P++Q) j=(mul x.2 _ ^^^ hH P j) ^^^ hH Q j;rw[ih,Nat.xor_assoc]
  rw[List.range_succ,List.filter_append,List.map_append,app,ih,cS];congr 1;by_cases e:p n=true
  ·simp only[List.filter_cons,e,if_true,List.filter_nil,List.map_cons,List.map_nil,hH,Nat.xor_zero]
  ·have e:p n=false:=by simpa using e
   simp only[List.filter_cons,e,List.filter_nil];rw[h n (by omega) e,bX];rfl
theorem agC{C D:Nat->Nat}(hC:∀i,C i<256)(hD:∀i,D i<256)(cC:Ay C)(cD:Ay D)(hd:cm C D<=6):∀i,i<64->C i=D i:=by
 have hs:∀j,j<6->hH ((iN C D).map fun i=>(63-i,C i ^^^ D i)) j=0:=fun j hj=>by
  unfold iN;rw[rf (fun i=>C i ^^^ D i) j _ 64 (Nat.le_refl _) (fun i hi h=>by
   have:C i=D i:=by simpa using h
   rw[this,Nat.xor_self]), <-o9 (W:=fun i=>C i ^^^ D i) (fun i=>bo (hC i) (hD i)),adq hC hD,cC j hj,cD j hj,Nat.xor_self]
 have yn:∀i,i∈iN C D->i<64:=fun i hi=>List.mem_range.1 (List.mem_filter.1 hi).1;have hv:=van ((iN C D).map fun i=>(63-i,C i ^^^ D i)) (by
  rw[List.map_map];have:((iN C D).map ((Prod.fst:Nat×Nat->Nat) ∘ fun i=>(63-i,C i ^^^ D i)))=(iN C D).map (fun i=>63-i):=rfl;rw[this,List.Nodup,List.pairwise_map];refine(List.Pairwise.and_mem.1 (List.Pairwise.filter _ List.nodup_range:(iN C D).Pairwise _)).imp ?_;rintro a b ⟨ha,hb,ct⟩ e;have:=yn a ha;have:=yn b hb;exact ct (by omega)) (fun x hx=>by
  obtain⟨i,hi,rfl⟩:=List.mem_map.1 hx;have:=yn i hi;exact⟨by simp only;omega,bo (hC i) (hD i)⟩) (fun j hj=>hs j (by
  rw[List.length_map] at hj;exact Nat.lt_of_lt_of_le hj hd))
 intro i hi;by_cases e:C i=D i
 ·exact e
 ·have hm:i∈iN C D:=List.mem_filter.2 ⟨List.mem_range.2 hi,by simpa using e⟩;exact xor_eq (hv (63-i,C i ^^^ D i) (List.mem_map.2 ⟨i,hm,rfl⟩))
theorem th(a b c:Nat->Bool)(h:∀i,c i=true->a i=true\/b i=true):∀l:List Nat,l.countP c<=l.countP a+l.countP b
 | []=>by simp
 | i::l=>by
  have ih:=th a b c h l;rw[List.countP_cons,List.countP_cons,List.countP_cons];by_cases hc:c i=true
  ·rw[if_pos hc];rcases h i hc with h1|h1
   ·rw[if_pos h1];split<;>omega
   ·rw[if_pos h1];split<;>omega
  ·rw[if_neg hc];split<;>split<;>omega
theorem aaf(A B C:Nat->Nat):cm A C<=cm A B+cm B C:=by
 unfold cm iN;rw[<-List.countP_eq_length_filter, <-List.countP_eq_length_filter, <-List.countP_eq_length_filter];refine th _ _ _ (fun i hi=>?_) _;have hi:=of_decide_eq_true hi;by_cases h:A i=B i
 ·exact .inr (decide_eq_true (fun e=>hi (h.trans e)))
 ·exact .inl (decide_eq_true h)
theorem iA(A B:Nat->Nat):cm A B=cm B A:=by
 unfold cm iN;congr 1;refine List.filter_congr (fun i _=>?_);exact decide_eq_decide.2 ⟨fun h e=>h e.symm,fun h e=>h e.symm⟩
end GF
end
section
namespace GF
attribute [local irreducible] GF.pw GF.lg GF.mul GF.inv GF.xt
structure G where
 v:Nat
 lt:v<256
theorem G.eq{a b:G}(h:a.v=b.v):a=b:=by
 cases a
 cases b
 simp only at h;subst h;rfl
instance:Add G:=⟨fun a b=>⟨a.v ^^^ b.v,bo a.lt b.lt⟩⟩
instance:Mul G:=⟨fun a b=>⟨GF.mul a.v b.v,mul_lt a.lt⟩⟩
instance:Zero G:=⟨⟨0,by decide⟩⟩
instance:One G:=⟨⟨1,by decide⟩⟩
theorem G.add_comm(a b:G):a+b=b+a:=G.eq (Nat.xor_comm _ _)
theorem G.add_assoc(a b c:G):a+b+c=a+(b+c):=G.eq (Nat.xor_assoc _ _ _)
theorem G.mul_comm(a b:G):a*b=b*a:=G.eq (GF.mul_comm a.lt b.lt)
theorem G.mul_assoc(a b c:G):a*b*c=a*(b*c):=G.eq (GF.mul_assoc a.lt b.lt c.lt)
theorem G.mul_add(a b c:G):a*(b+c)=a*b+a*c:=G.eq (fB _ _ _)
theorem G.add_mul(a b c:G):(a+b)*c=a*c+b*c:=G.eq (gh a.lt b.lt c.lt)
theorem G.pc(a:G):a+a=0:=G.eq (Nat.xor_self _)
theorem G.add_zero(a:G):a+0=a:=G.eq (Nat.xor_zero _)
theorem G.zero_add(a:G):0+a=a:=G.eq (Nat.zero_xor _)
theorem G.mul_zero(a:G):a*0=0:=G.eq (dj _)
theorem G.zero_mul(a:G):0*a=0:=G.eq (bX _)
instance:Std.Commutative (α:=G) (· + ·):=⟨G.add_comm⟩
instance:Std.Associative (α:=G) (· + ·):=⟨G.add_assoc⟩
instance:Std.Commutative (α:=G) (· * ·):=⟨G.mul_comm⟩
instance:Std.Associative (α:=G) (· * ·):=⟨G.mul_assoc⟩
theorem G.dH(a b:G):a+(a+b)=b:=by rw[<-G.add_assoc,G.pc,G.zero_add]
theorem G.add_eq_zero{a b:G}(h:a+b=0):a=b:=by
 have:=congrArg (· + b) h;simp only[G.add_assoc,G.pc,G.add_zero,G.zero_add] at this;exact this
theorem G.mul_eq_zero{a b:G}(h:a*b=0):a=0\/b=0:=by
 by_cases hb:b.v=0
 ·exact .inr (G.eq hb)
 ·exact .inl (G.eq (ado a.lt b.lt (congrArg G.v h) hb))
theorem G.agD(a b:G):(a+b)*(a+b)=a*a+b*b:=by
 rw[G.mul_add,G.add_mul,G.add_mul,G.mul_comm b a];have:a*a+a*b+(a*b+b*b)=a*a+((a*b)+((a*b)+b*b)):=by ac_rfl
 rw[this,G.dH]
section
variable(u v X Y:G)
theorem G.al0:u*X+v*Y=(u+v)*Y+u*(X+Y):=by
 rw[G.add_mul,G.mul_add];have:u*Y+v*Y+(u*X+u*Y)=(u*Y)+((u*Y)+(u*X+v*Y)):=by ac_rfl
 rw[this,G.dH]
theorem G.apA:u*(X*X)+v*(Y*Y)=(u+v)*(Y*Y)+u*((X+Y)*(X+Y)):=by rw[G.agD,G.al0]
theorem G.ajT:(u*X+v*Y)*(u*X+v*Y)+(u+v)*(u*(X*X)+v*(Y*Y))=v*(u*((X+Y)*(X+Y))):=by
 rw[G.al0 u v X Y,G.apA u v X Y];generalize hd:X+Y=d;generalize hs:u+v=s;have hv:v=u+s:=by rw[<-hs,G.dH]
 rw[G.agD,G.mul_add,hv,G.add_mul];have e1:s*Y*(s*Y)=s*(s*(Y*Y)):=by ac_rfl
 have e2:u*d*(u*d)=u*(u*(d*d)):=by ac_rfl
 rw[e1,e2];have:s*(s*(Y*Y))+u*(u*(d*d))+(s*(s*(Y*Y))+s*(u*(d*d)))=s*(s*(Y*Y))+(s*(s*(Y*Y))+(u*(u*(d*d))+s*(u*(d*d)))):=by ac_rfl
 rw[this,G.dH]
theorem G.adr(p q:G):p*(X*X)+q*(Y*Y)=(X+Y)*(p*X+q*Y)+(X*Y)*(p+q):=by
 rw[G.add_mul,G.mul_add,G.mul_add,G.mul_add];have:X*(p*X)+X*(q*Y)+(Y*(p*X)+Y*(q*Y))+(X*Y*p+X*Y*q)=(X*Y*q)+((X*Y*q)+((X*Y*p)+((X*Y*p)+(p*(X*X)+q*(Y*Y))))):=by ac_rfl
 rw[this,G.dH,G.dH]
end
section
variable{s0 s1 s2 s3 a b:G}(h2:s2=a*s1+b*s0)(h3:s3=a*s2+b*s1)
include h2 h3
theorem G.ajU:s1*s2+s0*s3=a*(s1*s1+s0*s2):=by
 have e:s1*s2=s1*(a*s1+b*s0):=by rw[<-h2]
 rw[e,h3,G.mul_add,G.mul_add,G.mul_add];have:s1*(a*s1)+s1*(b*s0)+(s0*(a*s2)+s0*(b*s1))=(s1*(b*s0))+((s1*(b*s0))+(a*(s1*s1)+a*(s0*s2))):=by ac_rfl
 rw[this,G.dH]
theorem G.ajV:s2*s2+s1*s3=b*(s1*s1+s0*s2):=by
 have e:s2*s2=s2*(a*s1+b*s0):=by rw[<-h2]
 rw[e,h3,G.mul_add,G.mul_add,G.mul_add];have:s2*(a*s1)+s2*(b*s0)+(s1*(a*s2)+s1*(b*s1))=(s2*(a*s1))+((s2*(a*s1))+(b*(s1*s1)+b*(s0*s2))):=by ac_rfl
 rw[this,G.dH]
end
theorem G.root(x X Y:G):x*x+(X+Y)*x+X*Y=(x+X)*(x+Y):=by
 rw[G.add_mul,G.add_mul,G.mul_add,G.mul_add]
 ac_rfl
end GF
end
section
namespace GF
attribute [local irreducible] GF.pw GF.lg GF.mul GF.inv GF.xt
def fix(W:Nat->Nat)(p v:Nat):Nat->Nat:=fun i=>if i=p then W i ^^^ v else W i
theorem yo{W:Nat->Nat}(hW:∀i,W i<256){p v:Nat}(hv:v<256):∀i,fix W p v i<256:=fun i=>by
 unfold fix;split
 ·exact bo (hW i) hv
 ·exact hW i
theorem sn{W:Nat->Nat}(hW:∀i,W i<256){k v:Nat}(hk:k<64)(hv:v<256)(j:Nat):dw (fix W (63-k) v) j=dw W j ^^^ mul v (pw (j*k)):=by
 have h1:=ajS (p:=63-k) (by omega) hv j;rw[show 63-(63-k)=k by omega] at h1;rw[<-h1, <-adq hW (fun i=>by split<;>omega)];unfold dw;refine ef _ (fun i _=>?_);unfold fix;by_cases h:i=63-k
 ·rw[if_pos h,if_pos h.symm]
 ·rw[if_neg h,if_neg (fun e=>h e.symm),Nat.xor_zero]
def jL(s:Nat->Nat):Nat:=mul (s 1) (inv (s 0))
structure Bi(s:Nat->Nat):Prop where
 z0:s 0≠0
 z1:s 1≠0
 all:∀j,1<=j->j<6->mul (s (j-1)) (jL s)=s j
 at_:lg (jL s)<64
theorem ads{s:Nat->Nat}(hs:∀j,s j<256):jL s<256:=mul_lt (hs 1)
theorem one_pow{s:Nat->Nat}(hs:∀j,s j<256)(h:Bi s):∀j,j<6->s j=mul (s 0) (pw (j*lg (jL s))):=by
 have hx:=ads hs;have hx0:jL s≠0:=sk (hs 1) (oq _) h.z1 (adk _);have hl:=(eG _ hx hx0).2;intro j
 induction j with
 | zero =>
  intro _;rw[Nat.zero_mul,o5,eY _ (hs 0)]
 | succ j ih =>
  intro hj;have h1:=h.all (j+1) (by omega) hj;rw[show j+1-1=j by omega] at h1;rw[<-h1,ih (by omega),mul_assoc (hs 0) (bE _) hx,Nat.succ_mul, <-fJ,hl]
theorem agE{W:Nat->Nat}{k v:Nat}(hk:k<64)(hv:v≠0):cm W (fix W (63-k) v)=1:=by
 unfold cm iN;rw[<-List.countP_eq_length_filter];have:(List.range 64).countP (fun i=>decide (W i≠fix W (63-k) v i))=(List.range 64).countP (fun i=>i == 63-k):=by
  refine List.countP_congr (fun i hi=>?_);unfold fix;by_cases h:i=63-k
  ·simp only[h,if_true,decide_eq_true_eq,beq_self_eq_true,iff_true];intro e;have:W (63-k) ^^^ (W (63-k) ^^^ v)=0:=by rw[<-e,Nat.xor_self]
   rw[<-Nat.xor_assoc,Nat.xor_self,Nat.zero_xor] at this;exact hv this
  ·simp[h]
 rw[this];have hc:∀p,p<64->(List.range 64).countP (fun i=>i == p)=1:=by decide
 exact hc (63-k) (by omega)
theorem aeM{W:Nat->Nat}(hW:∀i,W i<256)(h:Bi (dw W)):Ay (fix W (63-lg (jL (dw W))) (dw W 0))/\cm W (fix W (63-lg (jL (dw W))) (dw W 0))=1 :=
 ⟨fun j hj=>by rw[sn hW h.at_ (ym hW 0), <-one_pow (ym hW) h j hj,Nat.xor_self],agE h.at_ h.z0⟩
theorem agF{C W:Nat->Nat}(h:cm C W=1):∃p,p<64/\C p≠W p/\∀i,i<64->i≠p->C i=W i:=by
 unfold cm at h;obtain⟨p,hp⟩:=List.length_eq_one_iff.1 h;have hm:p∈iN C W:=by rw[hp];simp
 have hm2:=List.mem_filter.1 hm;refine⟨p,List.mem_range.1 hm2.1,of_decide_eq_true hm2.2,fun i hi ct=>?_⟩;by_cases e:C i=W i
 ·exact e
 ·have:i∈iN C W:=List.mem_filter.2 ⟨List.mem_range.2 hi,decide_eq_true e⟩;rw[hp] at this;exact absurd (List.mem_singleton.1 this) ct
theorem mM{W V:Nat->Nat}(h:∀i,i<64->W i=V i)(j:Nat):dw W j=dw V j:=ef _ h
theorem yp{C W:Nat->Nat}(hC:∀i,C i<256)(hW:∀i,W i<256)(hc:Ay C)(h:cm C W=1):Bi (dw W):=by
 obtain⟨p,hp,ct,cu⟩:=agF h;have hv:C p ^^^ W p≠0:=fun e=>ct (xor_eq e);have hvl:C p ^^^ W p<256:=bo (hC p) (hW p);have hs:∀j,j<6->dw W j=mul (C p ^^^ W p) (pw (j*(63-p))):=fun j hj=>by
  have e1:dw W j=dw (fix C (63-(63-p)) (C p ^^^ W p)) j:=mM (fun i hi=>by
   unfold fix;by_cases e:i=63-(63-p)
   ·have e:i=p:=by omega
    subst e;rw[if_pos (by omega), <-Nat.xor_assoc,Nat.xor_self,Nat.zero_xor]
   ·rw[if_neg e,cu i hi (by omega)]) j
  rw[e1,sn hC (by omega) hvl,hc j hj,Nat.zero_xor]
 generalize C p ^^^ W p=v at *;have hl:lg (pw (63-p))=63-p:=yc _ (by omega);have s0:dw W 0=v:=by rw[hs 0 (by omega),Nat.zero_mul,o5,eY _ hvl]
 have s1:dw W 1=mul v (pw (63-p)):=by rw[hs 1 (by omega),Nat.one_mul]
 have hx:jL (dw W)=pw (63-p):=by
  unfold jL;rw[s0,s1,mul_assoc hvl (bE _) (oq _),mul_comm (bE _) (oq _), <-mul_assoc hvl (oq _) (bE _),adj hvl hv,wg (bE _)]
 refine⟨by rw[s0];exact hv,by rw[s1];exact sk hvl (bE _) hv (yd _),fun j h1 h6=>?_,by rw[hx,hl];omega⟩;rw[hx,hs (j-1) (by omega),hs j h6,mul_assoc hvl (bE _) (bE _),fJ];congr 2;have:j=(j-1)+1:=by omega
 conv=>rhs;rw[this,Nat.succ_mul]
def ou(s:Nat->Nat):Nat:=mul (s 1) (s 1) ^^^ mul (s 0) (s 2)
def aN(s:Nat->Nat):Nat:=mul (mul (s 1) (s 2) ^^^ mul (s 0) (s 3)) (inv (ou s))
def bN(s:Nat->Nat):Nat:=mul (mul (s 2) (s 2) ^^^ mul (s 1) (s 3)) (inv (ou s))
def aag(a b k:Nat):Bool:=mul (pw k) (pw k) ^^^ mul a (pw k) ^^^ b == 0
def cn(a b n:Nat):List Nat:=(List.range n).filter (aag a b)
def rT(s:Nat->Nat)(k0 k1:Nat):Nat:=mul (s 1 ^^^ mul (s 0) (pw k1)) (inv (pw k0 ^^^ pw k1))
structure AX(s:Nat->Nat)(k0 k1:Nat):Prop where
 det:ou s≠0
 roots:cn (aN s) (bN s) 64=[k0,k1]
 e0:rT s k0 k1≠0
 e1:rT s k0 k1≠s 0
def vD(W:Nat->Nat)(s:Nat->Nat)(k0 k1:Nat):Nat->Nat:=fix (fix W (63-k0) (rT s k0 k1)) (63-k1) (rT s k0 k1 ^^^ s 0)
theorem yq{s:Nat->Nat}(hs:∀j,s j<256)(k0 k1:Nat):rT s k0 k1<256:=mul_lt (bo (hs 1) (mul_lt (hs 0)))
theorem AX.lt{s:Nat->Nat}{k0 k1:Nat}(h:AX s k0 k1):k0<k1/\k1<64:=by
 have h1:k1∈cn (aN s) (bN s) 64:=by rw[h.roots];simp
 have h2:=List.mem_range.1 (List.mem_filter.1 h1).1;have h3:(cn (aN s) (bN s) 64).Pairwise (· < ·):=List.Pairwise.filter _ List.pairwise_lt_range;rw[h.roots] at h3;have:=(List.pairwise_cons.1 h3).1 k1 (by simp);exact⟨this,h2⟩
theorem agG{W s:Nat->Nat}{k0 k1:Nat}(h:AX s k0 k1):cm W (vD W s k0 k1)=2:=by
 obtain⟨h1,h2⟩:=h.lt;have hv1:rT s k0 k1≠0:=h.e0;have rU:rT s k0 k1 ^^^ s 0≠0:=fun e=>h.e1 (xor_eq e);unfold cm iN vD;generalize rT s k0 k1=u at *;generalize u ^^^ s 0=v at *;rw[<-List.countP_eq_length_filter];have hx:∀a v:Nat,a=a ^^^ v->v=0:=fun a v e=>by
  have:a ^^^ (a ^^^ v)=0:=by rw[<-e,Nat.xor_self]
  rw[<-Nat.xor_assoc,Nat.xor_self,Nat.zero_xor] at this;exact this
 have:(List.range 64).countP (fun i=>decide (W i≠fix (fix W (63-k0) u) (63-k1) v i))=(List.range 64).countP (fun i=>i == 63-k0||i == 63-k1):=by
  refine List.countP_congr (fun i hi=>?_);unfold fix;by_cases e1:i=63-k1
  ·have e0:¬63-k1=63-k0:=by omega
   simp only[e1,e0,if_true,if_false,decide_eq_true_eq,beq_self_eq_true,Bool.or_true,iff_true];exact fun e=>rU (hx _ _ e)
  ·by_cases e0:i=63-k0
   ·simp only[e1,if_false,e0,if_true,decide_eq_true_eq,beq_self_eq_true,Bool.true_or,iff_true];rw[if_neg (by omega)];exact fun e=>hv1 (hx _ _ e)
   ·simp[e0,e1]
 rw[this];have hc:∀p,p<64->∀q,q<64->p≠q->(List.range 64).countP (fun i=>i == p||i == q)=2:=by decide +kernel
 exact hc (63-k0) (by omega) (63-k1) (by omega) (by omega)
theorem agH{C W:Nat->Nat}(h:cm C W=2):∃p q,p<q/\q<64/\C p≠W p/\C q≠W q/\∀i,i<64->i≠p->i≠q->C i=W i:=by
 unfold cm at h;have h2:∀l:List Nat,l.length=2->∃p q,l=[p,q]:=fun l=>by
  match l with
  | []=>intro h;exact absurd h (by decide)
  | [_]=>intro h;exact absurd h (by simp)
  | [p,q]=>intro _;exact⟨p,q,rfl⟩
  |_::_::_::_=>intro h;simp at h
 obtain⟨p,q,hp⟩:=h2 _ h;have hm:p∈iN C W:=by rw[hp];simp
 have hm2:q∈iN C W:=by rw[hp];simp
 have ho:(iN C W).Pairwise (· < ·):=List.Pairwise.filter _ List.pairwise_lt_range;rw[hp] at ho;refine⟨p,q,(List.pairwise_cons.1 ho).1 q (by simp),List.mem_range.1 (List.mem_filter.1 hm2).1,of_decide_eq_true (List.mem_filter.1 hm).2,of_decide_eq_true (List.mem_filter.1 hm2).2,fun i hi h1 h2=>?_⟩;by_cases e:C i=W i
 ·exact e
 ·have:i∈iN C W:=List.mem_filter.2 ⟨List.mem_range.2 hi,decide_eq_true e⟩;rw[hp] at this;rcases List.mem_cons.1 this with e1|e1
  ·exact absurd e1 h1
  ·exact absurd (List.mem_singleton.1 e1) h2
theorem mul_div{a b:Nat}(ha:a<256)(hb:b<256)(jK:b≠0):mul (mul a b) (inv b)=a:=by rw[mul_assoc ha hb (oq _),adj hb jK,eY _ ha]
theorem ab1:∀k0,k0<64->∀k1,k1<64->k0<k1->(List.range 64).filter (fun k=>k == k0||k == k1)=[k0,k1]:=by decide +kernel
theorem yr{C W:Nat->Nat}(hC:∀i,C i<256)(hW:∀i,W i<256)(hc:Ay C)(h:cm C W=2):∃k0 k1,AX (dw W) k0 k1/\∀i,i<64->vD W (dw W) k0 k1 i=C i:=by
 obtain⟨p,q,hpq,hq,hnp,hnq,cu⟩:=agH h;have hv0:C p ^^^ W p≠0:=fun e=>hnp (xor_eq e);have hu0:C q ^^^ W q≠0:=fun e=>hnq (xor_eq e);have hvl:C p ^^^ W p<256:=bo (hC p) (hW p);have hul:C q ^^^ W q<256:=bo (hC q) (hW q);have hs:∀j,j<6->dw W j=mul (C q ^^^ W q) (pw (j*(63-q))) ^^^ mul (C p ^^^ W p) (pw (j*(63-p))):=fun j hj=>by
  have e1:dw W j=dw (fix (fix C (63-(63-q)) (C q ^^^ W q)) (63-(63-p)) (C p ^^^ W p)) j:=mM (fun i hi=>by
   unfold fix;by_cases e:i=p
   ·rw[if_pos (by omega),if_neg (by omega),e, <-Nat.xor_assoc,Nat.xor_self,Nat.zero_xor]
   ·rw[if_neg (by omega)];by_cases e2:i=q
    ·rw[if_pos (by omega),e2, <-Nat.xor_assoc,Nat.xor_self,Nat.zero_xor]
    ·rw[if_neg (by omega),cu i hi e e2]) j
  rw[e1,sn (yo hC hul) (by omega) hvl,sn hC (by omega) hul,hc j hj,Nat.zero_xor]
 have anS:W q ^^^ (C q ^^^ W q)=C q:=by rw[Nat.xor_comm (C q), <-Nat.xor_assoc,Nat.xor_self,Nat.zero_xor]
 have anT:W p ^^^ (C p ^^^ W p)=C p:=by rw[Nat.xor_comm (C p), <-Nat.xor_assoc,Nat.xor_self,Nat.zero_xor]
 generalize hu:C q ^^^ W q=u at *;generalize hv:C p ^^^ W p=v at *;have hX:=bE (63-q);have hY:=bE (63-p);have hD:pw (63-q) ^^^ pw (63-p)≠0:=agB (by omega) (by omega) (by omega);have t0:dw W 0=u ^^^ v:=by rw[hs 0 (by omega),Nat.zero_mul,Nat.zero_mul,o5,eY _ hul,eY _ hvl]
 have t1:dw W 1=mul u (pw (63-q)) ^^^ mul v (pw (63-p)):=by rw[hs 1 (by omega),Nat.one_mul,Nat.one_mul]
 have t2:dw W 2=mul u (mul (pw (63-q)) (pw (63-q))) ^^^ mul v (mul (pw (63-p)) (pw (63-p))):=by rw[hs 2 (by omega),fJ,fJ,show 2*(63-q)=(63-q)+(63-q) by omega,show 2*(63-p)=(63-p)+(63-p) by omega]
 have t3:dw W 3=mul (mul u (pw (63-q))) (mul (pw (63-q)) (pw (63-q))) ^^^ mul (mul v (pw (63-p))) (mul (pw (63-p)) (pw (63-p))):=by
  rw[hs 3 (by omega),fJ,fJ,mul_assoc hul hX (bE _),mul_assoc hvl hY (bE _),fJ,fJ,show 3*(63-q)=(63-q)+((63-q)+(63-q)) by omega,show 3*(63-p)=(63-p)+((63-p)+(63-p)) by omega]
 have hb:=ym hW;have apB:∀k,k<64->(pw k=pw (63-q)↔k=63-q):=fun k hk=>⟨fun e=>abW (by omega) (by omega) e,fun e=>by rw[e]⟩
 have apC:∀k,k<64->(pw k=pw (63-p)↔k=63-p):=fun k hk=>⟨fun e=>abW (by omega) (by omega) e,fun e=>by rw[e]⟩
 have hkx:pw (63-q)=pw (63-q):=rfl;generalize hXX:pw (63-q)=x at *;generalize hYY:pw (63-p)=y at *;let U:G:=⟨u,hul⟩;let V:G:=⟨v,hvl⟩;let X:G:=⟨x,hX⟩;let Y:G:=⟨y,hY⟩;let S0:G:=⟨dw W 0,hb 0⟩;let S1:G:=⟨dw W 1,hb 1⟩;let S2:G:=⟨dw W 2,hb 2⟩;let S3:G:=⟨dw W 3,hb 3⟩;have g0:S0=U+V:=G.eq t0;have g1:S1=U*X+V*Y:=G.eq t1;have g2:S2=U*(X*X)+V*(Y*Y):=G.eq t2;have g3:S3=U*X*(X*X)+V*Y*(Y*Y):=G.eq t3;have r2:S2=(X+Y)*S1+(X*Y)*S0:=by rw[g2,g1,g0];exact G.adr X Y U V
 have r3:S3=(X+Y)*S2+(X*Y)*S1:=by
  rw[g3,g2,g1,G.adr X Y (U*X) (V*Y)];simp only[G.mul_assoc]
 have apD:S1*S1+S0*S2=V*(U*((X+Y)*(X+Y))):=by rw[g1,g0,g2];exact G.ajT U V X Y
 have hD':(X+Y)≠0:=fun e=>hD (congrArg G.v e);have hU':U≠0:=fun e=>hu0 (congrArg G.v e);have hV':V≠0:=fun e=>hv0 (congrArg G.v e);have anU:S1*S1+S0*S2≠0:=fun e=>by
  rw[apD] at e;rcases G.mul_eq_zero e with e|e
  ·exact hV' e
  ·rcases G.mul_eq_zero e with e|e
   ·exact hU' e
   ·rcases G.mul_eq_zero e with e|e
    ·exact hD' e
    ·exact hD' e
 have hdn:ou (dw W)=(S1*S1+S0*S2).v:=rfl;have al1:ou (dw W)≠0:=fun e=>anU (G.eq e);have hdl:ou (dw W)<256:=(S1*S1+S0*S2).lt;have ha:aN (dw W)=x ^^^ y:=by
  have e:=congrArg G.v (G.ajU r2 r3);have e:mul (dw W 1) (dw W 2) ^^^ mul (dw W 0) (dw W 3)=mul (x ^^^ y) (ou (dw W)):=e;unfold aN;rw[e,mul_div (bo hX hY) hdl al1]
 have hbN:bN (dw W)=mul x y:=by
  have e:=congrArg G.v (G.ajV r2 r3);have e:mul (dw W 2) (dw W 2) ^^^ mul (dw W 1) (dw W 3)=mul (mul x y) (ou (dw W)):=e;unfold bN;rw[e,mul_div (mul_lt hX) hdl al1]
 have al2:cn (aN (dw W)) (bN (dw W)) 64=[63-q,63-p]:=by
  rw[<-ab1 (63-q) (by omega) (63-p) (by omega) (by omega),ha,hbN];unfold cn;refine List.filter_congr (fun k hk=>?_);have hk:=List.mem_range.1 hk;rw[Bool.eq_iff_iff];unfold aag;rw[beq_iff_eq,Bool.or_eq_true,beq_iff_eq,beq_iff_eq, <-apB k hk, <-apC k hk];have hkl:=bE k;let Z:G:=⟨pw k,hkl⟩;have e:mul (pw k) (pw k) ^^^ mul (x ^^^ y) (pw k) ^^^ mul x y=((Z+X)*(Z+Y)).v:=by
   rw[<-G.root Z X Y];rfl
  rw[e];constructor
  ·intro h0;rcases G.mul_eq_zero (G.eq h0:(Z+X)*(Z+Y)=0) with h1|h1
   ·exact .inl (congrArg G.v (G.add_eq_zero h1))
   ·exact .inr (congrArg G.v (G.add_eq_zero h1))
  ·rintro(h0|h0)
   ·have:Z+X=0:=by rw[show Z=X from G.eq h0,G.pc]
    rw[this,G.zero_mul];rfl
   ·have:Z+Y=0:=by rw[show Z=Y from G.eq h0,G.pc]
    rw[this,G.mul_zero];rfl
 have yu:rT (dw W) (63-q) (63-p)=u:=by
  have e:=G.al0 U V X Y;rw[<-g1, <-g0] at e;have e2:S1+S0*Y=U*(X+Y):=by
   rw[e,G.add_comm,G.dH]
  have e3:dw W 1 ^^^ mul (dw W 0) y=mul u (x ^^^ y):=congrArg G.v e2;unfold rT;rw[hXX,hYY,e3,mul_div hul (bo hX hY) hD]
 have hue:u ^^^ dw W 0=v:=by rw[t0, <-Nat.xor_assoc,Nat.xor_self,Nat.zero_xor]
 refine⟨63-q,63-p,⟨al1,al2,by rw[yu];exact hu0,fun e=>hv0 ?_⟩,fun i hi=>?_⟩
 ·rw[yu] at e;rw[<-hue, <-e,Nat.xor_self]
 ·unfold vD;rw[yu,hue];unfold fix;by_cases e1:i=p
  ·rw[if_pos (by omega),if_neg (by omega),e1];exact anT
  ·rw[if_neg (by omega)];by_cases e2:i=q
   ·rw[if_pos (by omega),e2];exact anS
   ·rw[if_neg (by omega)];exact(cu i hi e1 e2).symm
end GF
end
section
open Go.RowKit
def wm(n0 n1:Nat)(f g:Nat->Int):Bool:=decide (n0=n1/\∀j,j<n0->f j=g j)
theorem jM{n0 n1:Nat}{f g:Nat->Int}(h:n0=n1)(h2:∀j,j<n0->f j=g j):wm n0 n1 f g=true:=decide_eq_true ⟨h,h2⟩
section
variable{P:Program}{w:World}
theorem jN{t e:TypeId}{n:Nat}(hu:P.underlying t=some (.slice e))(hs:kF P e n=true):P.underlying t=some (.slice (P.elem t))/\(sizeOf (P.elem t)).run P w=.ok n w:=by
 have he:P.elem t=e:=by simp[Program.elem,hu]
 rw[he];exact⟨hu,df hs w⟩
theorem Ru.adt{t e:TypeId}{b o n c l h:Nat}{K:Value->World->Prop}(hu:P.underlying t=some (.slice e))(hs:kF P e 1=true)(hl:l<=h)(hh:h<=c)(hc:l<c)(k:K (.slice (some ⟨b,o+l,none⟩) (h-l) (c-l)) w) :
  Ru P (Instr.sliceAt t (.slice (some ⟨b,o,none⟩) n c) (some (.int .i64 (l:Int))) (some (.int .i64 (h:Int))) none) w K:=by
 obtain⟨h1,h2⟩:=jN (w:=w) hu hs;refine⟨_,_,?_,k⟩;rw[run_sliceAt_slice w t _ _ _ _ h1,run_slice_lh w t _ n c h1 .i64 .i64 l h (by omega) (by omega) (by omega),h2];simp only[Result.andThen_ok,Int.toNat_natCast,sliced,if_neg (show ¬c=l by omega),Option.map_some,fG,Nat.mul_one]
theorem Ru.aeN{t e:TypeId}{b o n c h:Nat}{K:Value->World->Prop}(hu:P.underlying t=some (.slice e))(hs:kF P e 1=true)(hh:h<=c)(k:K (.slice (some ⟨b,o,none⟩) h c) w) :
  Ru P (Instr.sliceAt t (.slice (some ⟨b,o,none⟩) n c) none (some (.int .i64 (h:Int))) none) w K:=by
 obtain⟨h1,h2⟩:=jN (w:=w) hu hs;refine⟨_,_,?_,k⟩;rw[run_sliceAt_slice w t _ _ _ _ h1,run_slice_h w t _ n c h1 .i64 h (by omega) (by omega),h2];by_cases hc:c=0<;>simp[sliced,hc,fG]
theorem Ad.adt{C:World->Prop}{t e:TypeId}{b o n c l h:Nat}{K:Value->Prop}(hu:P.underlying t=some (.slice e))(hs:kF P e 1=true)(hl:l<=h)(hh:h<=c)(hc:l<c)(k:K (.slice (some ⟨b,o+l,none⟩) (h-l) (c-l))) :
  Ad P C (Instr.sliceAt t (.slice (some ⟨b,o,none⟩) n c) (some (.int .i64 (l:Int))) (some (.int .i64 (h:Int))) none) K:=⟨_,fun w _=>by
 obtain⟨v,w',h1,h2⟩:=Ru.adt (w:=w) (K:=fun v w'=>v=_/\w'=w) hu hs hl hh hc ⟨rfl,rfl⟩;rw[h1,h2.1,h2.2],k⟩
theorem Ru.pd{src dst e:TypeId}{A:Option Addr}{n c:Nat}{f:Nat->Int}{K:Value->World->Prop}(hs:P.underlying src=some (.slice e))(he:P.underlying e=some (.int .u8))(hd:P.underlying dst=some .string)(r:Rd w A n (fun j=>.int .u8 (f j)))(k:K (.string (strOfNums ((List.range n).map f))) w) :
  Ru P (convert src dst (.slice A n c)) w K:=by
 refine⟨_,_,?_,k⟩;by_cases hn:0<n
 ·obtain⟨b,o,rfl,hc⟩:=r hn;exact run_convert_bytes_arg w src e hs he b o n c _ (by simp) (fun i hi=>by rw[hc i hi,List.getD_eq_getElem?_getD,List.getElem?_map,List.getElem?_range hi];rfl) dst hd
 ·obtain rfl:n=0:=by omega
  cases A with
  |none=>exact run_convert_bytes_nil w src e hs he 0 c dst hd
  | some a =>
   rw[run_convert_bytes_string w src dst e _ 0 c hs he hd,run_bytesToString w a 0 c [] rfl];rfl
theorem Ru.agI{t:TypeId}{x y:Operand}{a b:ByteArray}{K:Value->World->Prop}(hu:P.underlying t=some .string)(k:K (.bool (a.toList == b.toList)) w):Ru P (do eqGuard .eql t x y (.string a) (.string b);binOp .eql t (.string a) (.string b)) w K:=by
 refine⟨_,_,?_,k⟩;simp[eqGuard,binOp_string_eql]
end
theorem ofNat_inj{a b:Int}(ha:0<=a/\a<=255)(hb:0<=b/\b<=255)(h:UInt8.ofNat a.toNat=UInt8.ofNat b.toNat):a=b:=by
 have:=congrArg UInt8.toNat h;simp only[UInt8.toNat_ofNat'] at this;omega
theorem aah{n m:Nat}{f g:Nat->Int}(hf:∀j,0<=f j/\f j<=255)(hg:∀j,0<=g j/\g j<=255):((strOfNums ((List.range n).map f)).toList == (strOfNums ((List.range m).map g)).toList)=wm n m f g:=by
 rw[Bool.eq_iff_iff,wm,beq_iff_eq,decide_eq_true_eq,Lib.strOfNums_toList,Lib.strOfNums_toList];unfold Lib.bytesOf;constructor
 ·intro h;have hl:=congrArg List.length h;simp at hl;subst hl;refine⟨rfl,fun j hj=>?_⟩;have:=congrArg (fun l=>l[j]?) h;simp[hj] at this;exact ofNat_inj (hf j) (hg j) this
 ·rintro⟨rfl,h⟩;congr 1;exact List.map_congr_left (fun j hj=>h j (List.mem_range.1 hj))
theorem nN(A B:Option Addr)(n m c d:Nat)(f g:Nat->Int)(w:World)(r0:Rd w A n (fun j=>.int .u8 (f j)))(r1:Rd w B m (fun j=>.int .u8 (g j)))(hf:∀j,0<=f j/\f j<=255)(hg:∀j,0<=g j/\g j<=255) :
  Spec Tryz.prog 188 #[.slice A n c,.slice B m d] w fun v w'=>v=.bool (wm n m f g)/\w=w':=by
 rw[<-aah hf hg];refine spec_of_wpE (T:=tt) ah func188 rfl (by decide +kernel) ntmps188 (by simp) ?_;conv=>whnf
 refine Ru.pd underlying37 underlying5 underlying9 r0 ?_;generalize strOfNums ((List.range n).map f)=x;conv=>whnf
 refine Ru.pd underlying37 underlying5 underlying9 r1 ?_;generalize strOfNums ((List.range m).map g)=y;conv=>whnf
 refine Ru.agI underlying9 ?_;conv=>whnf
 exact⟨rfl,rfl,rfl⟩
section
variable{P:Program}{w:World}
theorem Ru.al3{t e:TypeId}{b o n c l:Nat}{K:Value->World->Prop}(hu:P.underlying t=some (.slice e))(hs:kF P e 1=true)(hl:l<=n)(hn:n<=c)(hc:l<c)(k:K (.slice (some ⟨b,o+l,none⟩) (n-l) (c-l)) w) :
  Ru P (Instr.sliceAt t (.slice (some ⟨b,o,none⟩) n c) (some (.int .i64 (l:Int))) none none) w K:=by
 obtain⟨h1,h2⟩:=jN (w:=w) hu hs;refine⟨_,_,?_,k⟩;rw[run_sliceAt_slice w t _ _ _ _ h1,run_slice_l w t _ n c h1 .i64 l (by omega) (by omega),h2];simp only[Result.andThen_ok,Int.toNat_natCast,sliced,if_neg (show ¬c=l by omega),Option.map_some,fG,Nat.mul_one]
theorem Ru.agJ{t e:TypeId}{b o n c h m:Nat}{K:Value->World->Prop}(hu:P.underlying t=some (.slice e))(hs:kF P e 1=true)(hh:h<=m)(hm:m<=c)(k:K (.slice (some ⟨b,o,none⟩) h m) w) :
  Ru P (Instr.sliceAt t (.slice (some ⟨b,o,none⟩) n c) none (some (.int .i64 (h:Int))) (some (.int .i64 (m:Int)))) w K:=by
 obtain⟨h1,h2⟩:=jN (w:=w) hu hs;refine⟨_,_,?_,k⟩;rw[run_sliceAt_slice w t _ _ _ _ h1,run_slice_hm w t _ n c h1 .i64 .i64 h m (by omega) (by omega) (by omega),h2];by_cases hc:m=0<;>simp[sliced,hc,fG]
end
end
section
open Go.RowKit
attribute [local irreducible] GF.pw GF.lg GF.mul GF.inv GF.xt
def tj:Nat->Nat->Nat
 |0,_=>1
 |j+1,s=>GF.conv (tj j) (fun s=>if s=0 then 1 else GF.pw j) (j+1) 2 s
theorem al4(j s:Nat):(if s=0 then 1 else GF.pw j)<256:=by
 have:=GF.bE j;split<;>omega
theorem so:∀(j s:Nat),tj j s<256
 |0,s=>(by decide:1<256)
 |j+1,s=>GF.ajP (q:=fun s=>if s=0 then 1 else GF.pw j) (so j) (j+1) 2 s
def vF(g h:Nat):Nat->Value:=fun j=>if j=0 then .pointer (some ⟨g,0,none⟩) else .slice (some ⟨h,1,none⟩) 6 6
structure A8(w:World)(c g h:Nat):Prop where
 row:Row w c 297 2 (vF g h)
 gen:Row w h 5 7 (fun s=>.int .u8 (tj 6 s:Nat))
 fs:FS w g
 cg:c≠g
 hg:h≠g
theorem A8.ab{w w':World}{c g h:Nat}(H:A8 w c g h)(k:Aa [g] w w')(f:FS w' g):A8 w' c g h:=⟨H.row.ab k (by simpa using H.cg),H.gen.ab k (by simpa using H.hg),f,H.cg,H.hg⟩
theorem A8.aj{S:List Nat}{w w':World}{c g h:Nat}(H:A8 w c g h)(k:Aa S w w')(hc:c∉S)(hg:g∉S)(hh:h∉S):A8 w' c g h:=⟨H.row.ab k hc,H.gen.ab k hh,H.fs.ab k hg,H.cg,H.hg⟩
theorem A8.drewN{w:World}{c g h:Nat}(H:A8 w c g h)(n:Nat):A8 (w.drewN n) c g h:=H.aj ((Aa.refl [] w).drewN n) (by simp) (by simp) (by simp)
theorem A8.of{w w':World}{c g h:Nat}(H:A8 w c g h)(f:FK w g w'):A8 w' c g h:=H.ab f.kp f.fs
theorem al5(w:World)(v:Value):Row (w.alloc (.cells #[v] 5)) w.heap.size 5 1 (fun _=>v):=Row.nZ (heap_alloc_new w _) (by simp[Array.range,Array.ofFn_succ])
theorem ajW{j:Nat}(h:j<255):pwI (j:Int)=GF.pw j:=by
 unfold pwI;rw[show((j:Int)%255).toNat=j by omega]
theorem Ca.al6{w0 w:World}{g:Nat}{K:Value->World->Prop}(h:FK w0 g w)(j:Nat)(hj:j<255)(k:∀w',FK w0 g w'->FK w g w'->K (.int .u8 (GF.pw j:Nat)) w'):Ca Tryz.prog 212 #[.pointer (some ⟨g,0,none⟩),.int .i64 j] w K:=Ca.of (alW w g j h.fs) fun v w' hp=>by
 obtain⟨rfl,hf⟩:=h.of hp;have h2:=hp.2.2;rw[ajW hj];exact k w' hf ⟨hf.fs,h2⟩
theorem ab2(A B:Option Addr)(n m:Nat)(w:World):(Instr.build 297 #[(0,.pointer A),(1,.slice B n m)]).run Tryz.prog w=.ok (.agg #[.pointer A,.slice B n m]) w:=by kernel_rfl
theorem aeO(g h:Nat)(w:World):(Instr.build 297 #[(0,.pointer (some ⟨g,0,none⟩)),(1,.slice (some ⟨h,1,none⟩) 6 6)]).run Tryz.prog w=.ok (agg 2 (vF g h)) w:=by
 rw[ab2];have e:(#[Value.pointer (some ⟨g,0,none⟩),.slice (some ⟨h,1,none⟩) 6 6]:Array Value)=(Array.range 2).map (vF g h):=by simp[Array.range,Array.ofFn_succ,vF]
 rw[e];rfl
theorem Ru.b1R{v:Int}{w:World}{K:Value->World->Prop}(k:∀g w',g=w.heap.size->Row w' g 5 1 (fun j=>.int .u8 v)->Aa [] w w'->K (.slice (some ⟨g,0,none⟩) 1 1) w'):Ru Tryz.prog (Instr.buildSlice 37 1 #[(0,.int .u8 v)]) w K :=
 ⟨_,_,aae v w,k _ _ rfl (al5 _ _) ((Aa.refl _ _).alloc _)⟩
theorem agK(w:World):Spec Tryz.prog 194 #[] w fun v w'=>∃c g h,w.heap.size<=c/\w.heap.size<=g/\w.heap.size<=h/\v=.pointer (some ⟨c,0,none⟩)/\A8 w' c g h/\Aa [] w w':=by
 refine spec_of_wpE (T:=tt) ah func194 rfl (by decide +kernel) ntmps194 (by simp) ?_;conv=>whnf
 refine Ca.ot ?_;intro g w2 hg fk k2;conv=>whnf
 refine Ru.b1R ?_;intro h0 w3 hh0 r3 k3;have fk3:FK w3 g w3:=⟨fk.fs.aj k3,Aa.refl _ _⟩;have qm:=fk.fs.lt;conv=>whnf
 repeat (refine CW.s ?_;conv=>whnf)
 refine CW.loop (ι:=Nat×Nat) (fun i w'=>i.1<=6/\FK w3 g w'/\w.heap.size<=i.2/\i.2≠g/\Row w' i.2 5 (i.1+1) (fun s=>.int .u8 (tj i.1 s:Nat))) (fun i=>[(1,.pointer (some ⟨g,0,none⟩)),(2,.slice (some ⟨i.2,0,none⟩) (i.1+1) (i.1+1)),(6,.int .i64 i.1)]) (fun i=>6-i.1) (0,h0) ah ⟨by simp,fk3,by have:=k2.size;simp only;omega,by simp only;omega,?_⟩ ⟨rfl,rfl,rfl,trivial⟩ ?_
 ·exact r3
 rintro⟨j,hb⟩ wr ⟨hj,fk,hw,ct,rg⟩;simp only at hj fk hw ct rg;by_cases av:j<6
 ·conv=>whnf
  repeat ((first|refine Br.y ?_|refine CW.s ?_);conv=>whnf)
  refine Ca.al6 fk j (by omega) ?_;intro w4 fk4 f4;conv=>whnf
  refine Ru.b2 ?_;intro q w5 hq r5 k5;have fk5:FK w3 g w5:=⟨fk4.fs.aj k5,fk4.kp.trans (k5.mono (by simp))⟩;have rg5:=(rg.ab f4.kp (by simpa using ct)).ab k5 (by simp);have gl4:=fk4.fs.lt;have apE:=fk4.kp.size;conv=>whnf
  refine Ca.of (agA w3 w5 g (j+1) 2 (j+1) 2 (some ⟨hb,0,none⟩) (some ⟨q,0,none⟩) (tj j) (fun s=>if s=0 then 1 else GF.pw j) (so j) (al4 j) (Rd.dh rg5 (Nat.le_refl _)) (r5.congr (fun s _=>by by_cases e:s=0<;>simp[e])) (fun _ a e=>by cases e;exact ct) (fun _ a e=>by cases e;simp only;omega) fk5 (by omega) (by omega)) ?_;rintro v w6 ⟨hv,fk6,k6⟩;rcases hv with⟨h0|h0,-⟩|⟨-,-,h,hh,rfl,rh⟩
  ·omega
  ·omega
  conv=>whnf
  repeat (refine Ar.la ?_;conv=>whnf)
  have wu:=k5.size;have fE:=k2.size;have gG:=k3.size;exact⟨(j+1,h),⟨by simp only;omega,fk6,by simp only;omega,by simp only;omega,rh⟩,⟨rfl,rfl,rfl,trivial⟩,by simp only;omega⟩
 ·obtain rfl:j=6:=by omega
  conv=>whnf
  repeat ((first|refine Br.f ?_|refine CW.s ?_);conv=>whnf)
  refine Ru.al3 (l:=1) underlying37 (by kernel_rfl) (by simp) (by simp) (by simp) ?_;conv=>whnf
  refine Ru.of (aeO g hb wr) ?_;conv=>whnf
  refine Ru.dt ?_;intro c w7 hc hs7 rc k7;have gl:=fk.fs.lt;have hl:=rg.lt;conv=>whnf
  have fE:=k2.size;have gG:=k3.size;have hsr:=fk.kp.size;exact⟨rfl,c,g,hb,by omega,hg,hw,rfl,⟨rc,rg.ab k7 (by simp),fk.fs.aj k7,by omega,ct⟩,((k2.trans k3).then fk.kp (fun x hx=>.inr (by rw[List.mem_singleton.1 hx];exact hg))).trans k7⟩
end
section
open Go.RowKit
theorem Chip.l5(C:Chip)(a k:Nat)(x y:Chunk):(C.cU a k x).cU a k y=C.cU a k y:=by
 unfold Chip.cU;simp only;congr 1;funext a' k';by_cases h:a'=a/\k'=k
 ·rw[if_pos h,if_pos h]
 ·rw[if_neg h,if_neg h,if_neg h]
theorem Chunk.gO(x:Chunk){i:Nat}(h:i<64):x.cell i=.int .u8 (x.now i:Nat):=if_pos h
theorem Chunk.fy(x:Chunk){i:Nat}(h:64<=i)(h2:i<128):x.cell i=.int .u8 (x.cI (i-64):Nat):=by
 unfold Chunk.cell;rw[if_neg (by omega),if_pos h2]
theorem Chunk.gj(x:Chunk){i:Nat}(h:129<=i):x.cell i=.int .i64 x.oT:=by
 unfold Chunk.cell;rw[if_neg (by omega),if_neg (by omega),if_neg (by omega)]
theorem kO(i:Nat):i<64\/(64<=i/\i<128)\/i=128\/129<=i:=by omega
theorem Chunk.ajX(x:Chunk)(b:Nat->Nat)(i:Nat):lay x.cell 0 64 (fun j=>.int .u8 (b j:Nat)) i=({ x with now:=b }:Chunk).cell i:=by
 unfold lay;by_cases h:0<=i/\i<0+64
 ·rw[if_pos h,Chunk.gO _ (by omega),Nat.sub_zero]
 ·rw[if_neg h];rcases kO i with h1|⟨h1,h2⟩|rfl|h1
  ·omega
  ·rw[Chunk.fy _ h1 h2,Chunk.fy _ h1 h2]
  ·rfl
  ·rw[Chunk.gj _ h1,Chunk.gj _ h1]
theorem Chunk.aeP(x:Chunk)(b:Nat->Nat)(i:Nat):lay x.cell 64 64 (fun j=>.int .u8 (b j:Nat)) i=({ x with cI:=b }:Chunk).cell i:=by
 unfold lay;by_cases h:64<=i/\i<64+64
 ·rw[if_pos h,Chunk.fy _ (by omega) (by omega)]
 ·rw[if_neg h];rcases kO i with h1|⟨h1,h2⟩|rfl|h1
  ·rw[Chunk.gO _ h1,Chunk.gO _ h1]
  ·omega
  ·rfl
  ·rw[Chunk.gj _ h1,Chunk.gj _ h1]
theorem Chunk.al7(x:Chunk)(b:Bool)(i:Nat)(hi:i<130):put x.cell 128 (.bool b) i=({ x with is:=b }:Chunk).cell i:=by
 unfold put;by_cases h:i=128
 ·subst h;rfl
 ·rw[if_neg h];rcases kO i with h1|⟨h1,h2⟩|h1|h1
  ·rw[Chunk.gO _ h1,Chunk.gO _ h1]
  ·rw[Chunk.fy _ h1 h2,Chunk.fy _ h1 h2]
  ·omega
  ·rw[Chunk.gj _ h1,Chunk.gj _ h1]
theorem Chunk.aeQ(x:Chunk)(b:Int)(i:Nat)(hi:i<130):put x.cell 129 (.int .i64 b) i=({ x with oT:=b }:Chunk).cell i:=by
 unfold put;by_cases h:i=129
 ·subst h;rfl
 ·rw[if_neg h];rcases kO i with h1|⟨h1,h2⟩|rfl|h1
  ·rw[Chunk.gO _ h1,Chunk.gO _ h1]
  ·rw[Chunk.fy _ h1 h2,Chunk.fy _ h1 h2]
  ·rfl
  ·omega
section
variable{w:World}{c:Nat}{C:Chip}
theorem Ab.alk{w':World}{a k o n:Nat}{s:Nat->Value}{x:Chunk}(r:Row w' c 104 49972 (lay C.cell (aU a k+o) n s))(ha:a<96)(hk:k<4)(hn:o+n<=130)(h:∀i,i<130->lay ((C.ch a k).cell) o n s i=x.cell i):Ab w' c (C.cU a k x) :=
 Row.congr r (C.abO ha hk hn s x h)
theorem Ab.alm{w':World}{a k i:Nat}{v:Value}{x:Chunk}(r:Row w' c 104 49972 (put C.cell (aU a k+i) v))(ha:a<96)(hk:k<4)(hi:i<130)(h:∀j,j<130->put ((C.ch a k).cell) i v j=x.cell j):Ab w' c (C.cU a k x) :=
 Row.congr r (C.alK ha hk hi v x h)
def af{α:Type}(f:Nat->α)(B:Nat)(v:α):Nat->α:=fun b=>if b=B then v else f b
theorem pf{C D:Chip}{B i:Nat}{v:Value}(h0:∀b,D.tail b i=if b=B then v else C.tail b i)(h1:∀b j,j<4->j≠i->D.tail b j=C.tail b j)(B' i':Nat)(oh:i'<4):(if B'=B/\i'=i then v else C.tail B' i')=D.tail B' i':=by
 by_cases hj:i'=i
 ·subst hj;rw[h0];by_cases hb:B'=B
  ·rw[if_pos ⟨hb,rfl⟩,if_pos hb]
  ·rw[if_neg (fun e=>hb e.1),if_neg hb]
 ·rw[h1 _ _ oh hj,if_neg (fun e=>hj e.2)]
theorem Ab.agL(H:Ab w c C){B:Nat}(hB:B<12)(v:Int):Ab (w.setCell ⟨c,bq B+0,none⟩ (.int .i64 v)) c { C with reads:=af C.reads B v } :=
 H.oW (i:=0) hB (by omega) rfl (fun _=>rfl) (fun B' i' _ oh=>pf (fun b=>by
  unfold Chip.tail af;by_cases h:b=B<;>simp[h]) (fun b j hj hn=>by rcases fx hj with rfl|rfl|rfl|rfl<;>first|rfl|exact absurd rfl hn) B' i' oh)
theorem Ab.wv(H:Ab w c C){B:Nat}(hB:B<12)(v:Bool):Ab (w.setCell ⟨c,bq B+1,none⟩ (.bool v)) c { C with failed:=af C.failed B v } :=
 H.oW (i:=1) hB (by omega) rfl (fun _=>rfl) (fun B' i' _ oh=>pf (fun b=>by
  unfold Chip.tail af;by_cases h:b=B<;>simp[h]) (fun b j hj hn=>by rcases fx hj with rfl|rfl|rfl|rfl<;>first|rfl|exact absurd rfl hn) B' i' oh)
theorem Ab.wx(H:Ab w c C){B:Nat}(hB:B<12)(v:Int):Ab (w.setCell ⟨c,bq B+2,none⟩ (.int .i64 v)) c { C with before:=af C.before B v } :=
 H.oW (i:=2) hB (by omega) rfl (fun _=>rfl) (fun B' i' _ oh=>pf (fun b=>by
  unfold Chip.tail af;by_cases h:b=B<;>simp[h]) (fun b j hj hn=>by rcases fx hj with rfl|rfl|rfl|rfl<;>first|rfl|exact absurd rfl hn) B' i' oh)
theorem Ab.ab3(H:Ab w c C){B:Nat}(hB:B<12)(v:Bool):Ab (w.setCell ⟨c,bq B+3,none⟩ (.bool v)) c { C with aH:=af C.aH B v } :=
 H.oW (i:=3) hB (by omega) rfl (fun _=>rfl) (fun B' i' _ oh=>pf (fun b=>by
  unfold Chip.tail af;by_cases h:b=B<;>simp[h]) (fun b j hj hn=>by rcases fx hj with rfl|rfl|rfl|rfl<;>first|rfl|exact absurd rfl hn) B' i' oh)
end
structure Chip.Wf(C:Chip):Prop where
 b0:0<=C.dW
 b1:C.dW<=9223372036854775807
 bf:∀B,C.before B<=9223372036854775807
 now:∀a k i,(C.ch a k).now i<256
 cI:∀a k i,(C.ch a k).cI i<256
theorem Chip.Wf.step{C:Chip}(h:C.Wf):C.aM.1.Wf:=by
 have h1:=h.b0;have h2:=h.b1;unfold Chip.aM;split
 ·split
  ·exact⟨h.b0,h.b1,h.bf,h.now,h.cI⟩
  ·exact⟨by simp only;omega,by simp only;omega,h.bf,h.now,h.cI⟩
 ·exact⟨h.b0,h.b1,h.bf,h.now,h.cI⟩
def Chip.ie(C:Chip)(B:Nat):Chip:=if 0<C.before B then { C with before:=af C.before B (C.before B-1),failed:=af C.failed B (C.failed B||decide (C.before B-1=0)) } else C
def Chip.write(C:Chip)(a k:Nat)(b:Nat->Nat):Chip×Int :=
 if C.off then (C,7) else if (C.ch a k).is then (C,9) else if C.aM.2=0 then (if (C.aM.1.ie (a/8)).failed (a/8) then (C.aM.1.ie (a/8),8) else ((C.aM.1.ie (a/8)).cU a k ⟨b,b,true,0⟩,0)) else C.aM
theorem Chip.wy(C:Chip):C.aM.2=0\/C.aM.2=7:=by
 unfold Chip.aM;split
 ·split
  ·exact .inr rfl
  ·exact .inl rfl
 ·exact .inl rfl
theorem Chip.tm(C:Chip):C.aM.1.ch=C.ch:=by
 unfold Chip.aM;split
 ·split<;>rfl
 ·rfl
theorem Chip.ab4(C:Chip)(B:Nat):(C.ie B).ch=C.ch:=by
 unfold Chip.ie;split<;>rfl
theorem eh{a n:Nat}(i:Nat)(h:n=4160+i):0+0+a/8*4164+n=bq (a/8)+i:=by
 unfold bq;omega
section
variable{w:World}{c B:Nat}{C:Chip}
theorem Ab.al8(H:Ab w c C)(hB:B<12):w.cell? ⟨c,bq B+0,none⟩=some (.int .i64 (C.reads B)):=H.tail hB (by omega)
theorem Ab.fM(H:Ab w c C)(hB:B<12):w.cell? ⟨c,bq B+1,none⟩=some (.bool (C.failed B)):=H.tail hB (by omega)
theorem Ab.ph(H:Ab w c C)(hB:B<12):w.cell? ⟨c,bq B+2,none⟩=some (.int .i64 (C.before B)):=H.tail hB (by omega)
theorem Ab.aai(H:Ab w c C)(hB:B<12):w.cell? ⟨c,bq B+3,none⟩=some (.bool (C.aH B)):=H.tail hB (by omega)
end
theorem tq:kF Tryz.prog 5 1=true:=by kernel_rfl
theorem l6:(Tryz.prog.info? 5).map (·.size)=some 1:=by kernel_rfl
theorem agM(w:World)(c a k d:Nat)(C:Chip)(A:Option Addr)(b:Nat->Nat)(H:Ab w c C)(hw:C.Wf)(ha:a<96)(hk:k<4)(r:AH w A 64 b)(hd:64<=d)(hA:∀x,A=some x->x.block≠c) :
  Spec Tryz.prog 187 #[.pointer (some ⟨c,0,none⟩),.int .i64 a,.int .i64 k,.slice A 64 d] w fun v w'=>v=ak (C.write a k b).2/\Ab w' c (C.write a k b).1/\Aa [c] w w':=by
 refine spec_of_wpE (T:=tt) ah func187 rfl (by decide +kernel) ntmps187 (by simp) ?_;conv=>whnf
 refine Ca.of (alj w c a k ha hk) ?_;rintro _ _ ⟨rfl,rfl⟩;by_cases cO:C.off=true
 ·conv=>whnf
  repeat ((first|(refine Ld.of H.off ?_)|(refine Br.is cO ?_)|refine Br.f ?_|refine Ru.ai ?_|refine CW.s ?_);conv=>whnf)
  refine⟨rfl,?_⟩;unfold Chip.write;rw[if_pos cO];exact⟨rfl,H,Aa.refl _ _⟩
 have tu:C.off=false:=by simpa using cO
 by_cases his:(C.ch a k).is=true
 ·conv=>whnf
  repeat ((first|(refine Ld.of H.off ?_)|(refine Br.bF tu ?_)|(refine Ld.of (H.is ha hk) ?_)|(refine Br.is his ?_)|refine Br.f ?_|refine Ru.ai ?_|refine CW.s ?_);conv=>whnf)
  refine⟨rfl,?_⟩;unfold Chip.write;rw[if_neg cO,if_pos his];exact⟨rfl,H,Aa.refl _ _⟩
 have apF:(C.ch a k).is=false:=by simpa using his
 conv=>whnf
 repeat ((first|(refine Ld.of H.off ?_)|(refine Br.bF tu ?_)|(refine Ld.of (H.is ha hk) ?_)|(refine Br.bF apF ?_)|refine Br.f ?_|refine Ru.ai ?_|refine CW.s ?_);conv=>whnf)
 refine Ca.of (adi w c C H ⟨hw.b0,hw.b1⟩) ?_;rintro _ w1 ⟨rfl,H1,k1⟩;by_cases he:C.aM.2=0
 ·rw[he];have hw1:=hw.step;have agN:C.write a k b=(if (C.aM.1.ie (a/8)).failed (a/8) then (C.aM.1.ie (a/8),8) else ((C.aM.1.ie (a/8)).cU a k ⟨b,b,true,0⟩,0)):=by
   unfold Chip.write;rw[if_neg cO,if_neg his,if_pos he]
  rw[agN];generalize C.aM.1=D at *;clear agN he;have hB:a/8<12:=by omega
  have ra1:=r.ab k1 (fun x hx=>by simpa using hA x hx);conv=>whnf
  repeat ((first|(refine Ix.of (a/8) (by omega) (by omega) ?_)|refine Br.f ?_|refine Dv.q ?_|refine Ru.ai ?_);conv=>whnf)
  refine CW.cut (ι:=Unit) (fun _ w'=>Ab w' c (D.ie (a/8))/\Aa [c] w w') (fun _=>[(3,.slice A 64 d),(9,.pointer (some ⟨c,aU a k,none⟩)),(12,.pointer (some ⟨c,0+0+a/8*4164,none⟩))]) ah ?_ ?_
  ·by_cases anV:0<D.before (a/8)
   ·have hbb:=hw1.bf (a/8);have al9:D.ie (a/8)={ D with before:=af D.before (a/8) (D.before (a/8)-1),failed:=af D.failed (a/8) (D.failed (a/8)||decide (D.before (a/8)-1=0)) }:=by
     unfold Chip.ie;rw[if_pos anV]
    rw[al9];conv=>whnf
    repeat ((first|(refine Ld.at (eh 2 rfl) (H1.ph hB) ?_)|refine Ar.la ?_|refine Br.y ?_);conv=>whnf)
    refine Sd.setAt _ (eh 2 rfl) (H1.ph hB) (Row.free H1 _) rfl ?_;have H2:=H1.wx hB (D.before (a/8)-1);have k2:=k1.trans (Aa.set c (bq (a/8)+2) (.int .i64 (D.before (a/8)-1)));have c3:(w1.setCell ⟨c,bq (a/8)+2,none⟩ (.int .i64 (D.before (a/8)-1))).cell? ⟨c,bq (a/8)+2,none⟩=some (.int .i64 (D.before (a/8)-1)):=by
     have:=H2.ph hB;unfold af at this;simpa using this
    generalize w1.setCell _ _=w2 at *;have hfe:∀b:Bool,(D.failed (a/8)||decide (D.before (a/8)-1=0))=b->Ab (w2.setCell ⟨c,bq (a/8)+1,none⟩ (.bool b)) c { D with before:=af D.before (a/8) (D.before (a/8)-1),failed:=af D.failed (a/8) (D.failed (a/8)||decide (D.before (a/8)-1=0)) }:=fun b hb=>by
     subst hb;exact H2.wv hB _
    by_cases hf:D.failed (a/8)=true
    ·conv=>whnf
     repeat ((first|(refine Ld.at (eh 1 rfl) (H2.fM hB) ?_)|(refine Br.is hf ?_)|refine Br.t ?_|refine Pk.t ?_);conv=>whnf)
     refine Sd.setAt _ (eh 1 rfl) (H2.fM hB) (Row.free H2 _) rfl ?_;have H3:=hfe true (by rw[hf];rfl);have k3:=k2.trans (Aa.set c (bq (a/8)+1) (.bool true));generalize w2.setCell _ _=w3 at *;conv=>whnf
     exact⟨(),⟨H3,k3⟩,⟨rfl,rfl,rfl,trivial⟩⟩
    ·have gX:D.failed (a/8)=false:=by simpa using hf
     conv=>whnf
     repeat ((first|(refine Ld.at (eh 1 rfl) (H2.fM hB) ?_)|(refine Br.bF gX ?_)|(refine Ld.at (eh 2 rfl) c3 ?_)|refine Br.f ?_|refine Pk.f ?_);conv=>whnf)
     refine Sd.setAt _ (eh 1 rfl) (H2.fM hB) (Row.free H2 _) rfl ?_;have H3:=hfe (decide (D.before (a/8)-1=0)) (by rw[gX];rfl);have k3:=k2.trans (Aa.set c (bq (a/8)+1) (.bool (decide (D.before (a/8)-1=0))));generalize w2.setCell _ _=w3 at *;conv=>whnf
     exact⟨(),⟨H3,k3⟩,⟨rfl,rfl,rfl,trivial⟩⟩
   ·have al9:D.ie (a/8)=D:=by
     unfold Chip.ie;rw[if_neg anV]
    rw[al9];conv=>whnf
    repeat ((first|(refine Ld.at (eh 2 rfl) (H1.ph hB) ?_)|refine Br.n ?_);conv=>whnf)
    exact⟨(),⟨H1,k1⟩,⟨rfl,rfl,rfl,trivial⟩⟩
  ·generalize D.ie (a/8)=E;rintro _ w2 ⟨H2,k2⟩;by_cases hf:E.failed (a/8)=true
   ·rw[if_pos hf];conv=>whnf
    repeat ((first|(refine Ld.at (eh 1 rfl) (H2.fM hB) ?_)|(refine Br.is hf ?_)|refine CW.s ?_);conv=>whnf)
    exact⟨rfl,rfl,H2,k2⟩
   rw[if_neg hf];have gX:E.failed (a/8)=false:=by simpa using hf
   conv=>whnf
   repeat ((first|(refine Ld.at (eh 1 rfl) (H2.fM hB) ?_)|(refine Br.bF gX ?_)|(refine Ru.jI underlying90 l6 ?_)|refine CW.s ?_);conv=>whnf)
   have av:=iM ha hk (s:=129) (by omega);refine Bu.copy underlying37 l6 H2 A 64 d 64 rfl ((r.ab k2 (fun x hx=>by simpa using hA x hx))) (fun e=>?_) (by omega) (fun _ _=>rfl) ?_
   ·obtain⟨b1,o1,e1,_⟩:=r (by omega);rw[e] at e1
    cases e1
   intro w3 r3 k3;have H3:=Ab.alk (o:=0) (x:={ E.ch a k with now:=b }) r3 ha hk (by omega) (fun i _=>Chunk.ajX _ b i);conv=>whnf
   refine Ru.cG H3 underlying90 rfl oV (by omega) (q:=fun j=>.int .u8 (b j:Nat)) (fun j hj=>?_) ?_
   ·rw[Nat.add_zero,Chip.eB _ ha hk (by omega),Chip.di,Chunk.gO _ hj]
   conv=>whnf
   refine Ru.gY H3 oV (by omega) (fun _ _=>rfl) ?_;intro w4 r4 k4;have H4:=Ab.alk (o:=64) (x:={ E.ch a k with now:=b,cI:=b }) r4 ha hk (by omega) (fun i _=>by rw[Chip.di];exact Chunk.aeP _ b i);rw[Chip.l5] at H4;clear r3 r4 H3;conv=>whnf
   refine Sd.setAt (aU a k+128) rfl (H4.is ha hk) (Row.free H4 _) rfl ?_;have H5:=Ab.alm (i:=128) (x:={ E.ch a k with now:=b,cI:=b,is:=true }) (Row.set H4 (aU a k+128) (.bool true)) ha hk (by omega) (fun i hi=>by rw[Chip.di];exact Chunk.al7 _ true i hi);rw[Chip.l5] at H5;have k5:=k4.trans (Aa.set c (aU a k+128) (.bool true));generalize w4.setCell _ _=w5 at *;conv=>whnf
   refine Sd.setAt (aU a k+129) rfl (H5.oT ha hk) (Row.free H5 _) rfl ?_;have H6:=Ab.alm (i:=129) (x:=⟨b,b,true,0⟩) (Row.set H5 (aU a k+129) (.int .i64 0)) ha hk (by omega) (fun i hi=>by rw[Chip.di];exact Chunk.aeQ _ 0 i hi);rw[Chip.l5] at H6;have k6:=k5.trans (Aa.set c (aU a k+129) (.int .i64 0));generalize w5.setCell _ _=w6 at *;conv=>whnf
   exact⟨rfl,rfl,H6,(k2.trans k3).trans k6⟩
 ·unfold Chip.write;rw[if_neg cO,if_neg his,if_neg he];have h7:C.aM.2=7:=(Chip.wy C).resolve_left he;conv=>whnf
  repeat ((first|refine Br.nn ?_|refine Ru.ax rfl ?_);conv=>whnf)
  exact⟨rfl,rfl,H1,k1⟩
def eO(C:Chip)(a:Nat):Nat->Nat:=fun j=>(C.ch a (j/64)).now (j%64)
def Chip.bL(C:Chip)(a:Nat):Chip:={ C with reads:=af C.reads (a/8) (iz (C.reads (a/8)+1)) }
theorem aeR(w:World):(Instr.makeSlice 37 (.int .i64 0) (.int .i64 256)).run Tryz.prog w=.ok (.slice (some ⟨w.heap.size,0,none⟩) 0 256) (w.alloc (.cells (madeCells #[.int .u8 0] 256) 5)):=by kernel_rfl
theorem Own.anW{w0 w:World}(k:Aa [] w0 w)(f:Nat->Int):Own w0 (w.alloc (.cells (madeCells #[.int .u8 0] 256) 5)) (some ⟨w.heap.size,0,none⟩) 0 256 f :=
 ⟨(Ly.dh (Row.made w 5 (.int .u8 0) 256) (by omega) (by omega) (by simp[maxLen])).congr (fun j hj=>by omega),fun x hx=>by rw[List.mem_singleton.1 hx];exact k.size,k.alloc _⟩
def Cb(w:World)(c a:Nat)(C:Chip)(v:Value)(w':World):Prop :=
 (C.off=true/\v=.tuple #[.slice none 0 0,ak 7]/\w'=w)\/(C.off=false/\∃b e,v=.tuple #[.slice (some ⟨b,0,none⟩) 256 e,ak 0]/\w.heap.size<=b/\Ly w' 5 1 (some ⟨b,0,none⟩) 256 e (fun j=>.int .u8 (eO C a j:Nat))/\Ab w' c (C.bL a)/\Aa [c] w w')
theorem agO(w:World)(c a:Nat)(C:Chip)(H:Ab w c C)(ha:a<96):Spec Tryz.prog 164 #[.pointer (some ⟨c,0,none⟩),.int .i64 a] w (Cb w c a C):=by
 refine spec_of_wpE (T:=tt) ah func164 rfl (by decide +kernel) ntmps164 (by simp) ?_;conv=>whnf
 repeat (refine CW.s ?_;conv=>whnf)
 refine Ca.of (alj w c a 0 ha (by omega)) ?_;rintro _ _ ⟨rfl,rfl⟩;by_cases cO:C.off=true
 ·conv=>whnf
  repeat ((first|(refine Ld.of H.off ?_)|(refine Br.is cO ?_)|refine Br.f ?_|refine Ru.ai ?_|refine CW.s ?_);conv=>whnf)
  exact⟨rfl,.inl ⟨cO,rfl,rfl⟩⟩
 have tu:C.off=false:=by simpa using cO
 have hB:a/8<12:=by omega
 conv=>whnf
 repeat ((first|(refine Ld.of H.off ?_)|(refine Br.bF tu ?_)|(refine Ix.of (a/8) (by omega) (by omega) ?_)|refine Br.f ?_|refine Dv.q ?_|refine Ru.ai ?_|refine CW.s ?_);conv=>whnf)
 refine Ca.args (args' := #[.pointer (some ⟨c,bq (a/8)+0,none⟩),.int .i64 1]) (by rw[<-eh (a:=a) (n:=4160) 0 rfl]) ?_;refine Ca.of (adh c _ _ 1 (iz (C.reads (a/8)+1)) rfl w (H.al8 hB) (Row.free H _)) ?_;rintro _ w1 ⟨rfl,rfl⟩;have H1:=H.agL hB (iz (C.reads (a/8)+1));have k1:=Aa.set (w:=w) c (bq (a/8)+0) (.int .i64 (iz (C.reads (a/8)+1)));generalize w.setCell _ _=w1 at *;have H1:Ab w1 c (C.bL a):=H1;have hcl:=Row.lt H;conv=>whnf
 refine Ru.of (aeR w1) ?_;have O:=Own.anW (Aa.refl [] w1) (fun j=>((eO C a j:Nat):Int));generalize w1.alloc _=w2 at *;conv=>whnf
 repeat (refine CW.s ?_;conv=>whnf)
 refine CW.loop (ι:=Nat×Option Addr×Nat) (fun i w'=>i.1<=4/\Own w1 w' i.2.1 (i.1*64) i.2.2 (fun j=>((eO C a j:Nat):Int))) (fun i=>[(1,.int .i64 a),(8,.pointer (some ⟨c,0+0+a/8*4164,none⟩)),(9,.slice i.2.1 (i.1*64) i.2.2),(36,.int .i64 i.1)]) (fun i=>4-i.1) (0,some ⟨w1.heap.size,0,none⟩,256) ah ⟨by simp,O⟩ ⟨rfl,rfl,rfl,rfl,trivial⟩ ?_;rintro⟨i,X,e⟩ wr ⟨hi,Oi⟩;simp only at hi Oi ⊢;by_cases av:i<4
 ·have Hr:Ab wr c (C.bL a):=Ab.ab H1 Oi.ab (by simp);conv=>whnf
  repeat ((first|(refine Ix.of (a%8) (by omega) (by omega) ?_)|(refine Ru.jI underlying90 l6 ?_)|refine Ix.n ?_|refine Dv.r ?_|refine Br.y ?_|refine CW.s ?_);conv=>whnf)
  refine Bu.grow Oi (fun j=>((eO C a (i*64+j):Nat):Int)) (fun _=>⟨_,_,rfl,fun j hj=>?_⟩) (by omega) (fun e=>by cases e) (by omega) ?_
  ·have h1:=Hr.now ha av hj;have e1:0+0+a/8*4164+0+a%8*520+i*130+0+j=aU a i+j:=by
    unfold aU;omega
   rw[e1,h1];unfold eO Chip.bL;simp only;rw[show(i*64+j)/64=i by omega,show(i*64+j)%64=j by omega]
  intro Y e2 w3 O3 k3;conv=>whnf
  repeat (refine Ar.la ?_;conv=>whnf)
  refine⟨(i+1,Y,e2),⟨by simp only;omega,?_⟩,⟨rfl,rfl,?_,vi (by simp only;omega),trivial⟩,by simp only;omega⟩
  ·simp only;rw[show(i+1)*64=i*64+64 by omega];exact O3.congr (fun j hj=>by
    by_cases h:j<i*64
    ·rw[if_pos h]
    ·rw[if_neg h,show i*64+(j-i*64)=j by omega])
  ·simp only;rw[show(i+1)*64=i*64+64 by omega];exact rfl
 ·obtain rfl:i=4:=by omega
  obtain⟨b,rfl,-,-⟩:=Oi.ly.zv (j:=0) (by omega);have hb:=Oi.new b (List.mem_singleton.2 rfl);have sQ:=k1.size;conv=>whnf
  repeat ((first|refine Br.f ?_|refine CW.s ?_);conv=>whnf)
  exact⟨rfl,.inr ⟨tu,b,e,rfl,by omega,Oi.ly,Ab.ab H1 Oi.ab (by simp),k1.then Oi.ab (fun x hx=>by cases hx)⟩⟩
theorem agP(x:Chunk){i:Nat}:x.zT (i+1)=x.zT i+(if x.now i=x.cI i then 0 else 1):=rfl
def Chunk.anX(x:Chunk)(b:Nat)(m:Nat):Chunk:={ x with now:=fun j=>if j=b then x.now b ^^^ m else x.now j }
def Chunk.flip(x:Chunk)(b:Nat)(m:Nat):Chunk:={ x.anX b m with oT:=max x.oT ((x.anX b m).dmg:Nat) }
def Chip.flip(C:Chip)(a bit:Nat):Chip:=C.cU a (bit/512) ((C.ch a (bit/512)).flip (bit/8%64) (2^(bit%8)))
end
section
open Go.RowKit
attribute [local irreducible] GF.pw GF.lg GF.mul GF.inv GF.xt
theorem ov(w:World)(k:Nat)(hk:k<64):Spec Tryz.prog 218 #[.int .i64 k] w fun v w'=>v=.int .i64 ((63-k:Nat):Int)/\w=w':=by
 refine spec_of_wpE (T:=tt) ah func218 rfl (by decide +kernel) ntmps218 (by simp) ?_;conv=>whnf
 repeat (refine Ar.la ?_;conv=>whnf)
 exact⟨rfl,vi (by omega),rfl⟩
theorem tv:(Tryz.prog.info? 288).map (·.size)=some 6:=by kernel_rfl
theorem yv(w:World):(Instr.alloc 288 true (.tuple #[])).run Tryz.prog w=.ok (.pointer (some ⟨w.heap.size,0,none⟩)) (w.alloc (fH 6 (fun _=>.int .u8 0) 288)):=by kernel_rfl
def agQ(p:Nat->Nat):Nat->Value:=fun j=>.int .u8 (GF.dw p j:Nat)
def tx(p:Nat->Nat)(j:Nat):Nat->Value:=fun i=>if i<j then agQ p i else .int .u8 0
theorem wA(p:Nat->Nat){i:Nat}(h:i<6):tx p 6 i=agQ p i:=if_pos h
theorem aeS(p:Nat->Nat)(j s:Nat):tx p (j+1) s=put (tx p j) j (agQ p j) s:=by
 unfold put tx;by_cases e:s=j
 ·rw[if_pos e,if_pos (by omega),e]
 ·rw[if_neg e];by_cases e2:s<j
  ·rw[if_pos e2,if_pos (by omega)]
  ·rw[if_neg e2,if_neg (by omega)]
theorem ajY{f s:Nat->Value}{n i:Nat}(h:i<n):lay f 0 n (fun j=>s (0+j)) (0+i)=s i:=by
 unfold lay;rw[if_pos (by omega)];show s (0+(0+i-0))=s i;rw[show 0+(0+i-0)=i by omega]
theorem ab5(w:World)(c g h d:Nat)(A:Option Addr)(p:Nat->Nat)(hp:∀j,p j<256)(r:AH w A 64 p)(hA:∀a,A=some a->a.block≠g)(H:A8 w c g h) :
  Spec Tryz.prog 205 #[.pointer (some ⟨c,0,none⟩),.slice A 64 d] w fun v w'=>v=agg 6 (agQ p)/\FK w g w':=by
 refine spec_of_wpE (T:=tt) ah func205 rfl (by decide +kernel) ntmps205 (by simp) ?_;conv=>whnf
 refine Ru.aF (n:=6) (s:=fun _=>.int .u8 0) (yv _) ?_;intro rg w1 hrg du r1 k1;conv=>whnf
 refine Ru.aF (n:=6) (s:=fun _=>.int .u8 0) (yv _) ?_;intro sg w2 hsg fE r2 k2;have vG:=k1.trans k2;have fk2:FK w g w2:=⟨(H.fs.aj k1).aj k2,vG.mono (by simp)⟩;have r12:=r1.ab k2 (by simp);have gl:=H.fs.lt;have cl:=H.row.lt;conv=>whnf
 repeat (refine CW.s ?_;conv=>whnf)
 refine CW.loop (ι:=Nat) (fun i w'=>i<=6/\FK w g w'/\Row w' sg 288 6 (tx p i)/\Row w' rg 288 6 (fun _=>.int .u8 0)) (fun i=>[(0,.pointer (some ⟨c,0,none⟩)),(1,.slice A 64 d),(4,.pointer (some ⟨rg,0,none⟩)),(5,.pointer (some ⟨sg,0,none⟩)),(7,.int .i64 i)]) (fun i=>6-i) 0 ah ⟨by simp,fk2,r2.congr (fun s _=>by simp[tx]),r12⟩ ⟨rfl,rfl,rfl,rfl,rfl,trivial⟩ ?_;rintro j wr ⟨hj,fk,rs,rz⟩;by_cases av:j<6
 ·conv=>whnf
  repeat ((first|refine Br.y ?_|refine CW.s ?_);conv=>whnf)
  have Hr:=H.of fk;have rr:=r.ab fk.kp (by simpa using hA);have rsl:=rs.lt;have rzl:=rz.lt;refine CW.held (fun w'=>Row w' c 297 2 (vF g h)) [14] (.take 0 (.take 1 (.take 2 (.take 3 (.take 4 (.take 5 (.take 6 (.take 7 (.take 8 (.take 9 (.take 10 (.one 11 (.one 12 (.take 13 (.one 14 (.done)))))))))))))))) ah (by kernel_rfl) (by kernel_rfl) (by kernel_rfl) ?_ ?_
  ·exact Hr.row.drewN 1
  have fk:FK w g (wr.drewN 1):=⟨fk.fs.drewN 1,fk.kp.drewN 1⟩;have rs:=rs.drewN 1;have rz:=rz.drewN 1;have rr:AH (wr.drewN 1) A 64 p:=rr.aj ((Aa.refl _ _).drewN 1);have rc:=Hr.row.drewN 1;generalize wr.drewN 1=w3 at *;conv=>whnf
  repeat ((refine Ah.row (fun _ h=>h) (by decide) ?_);conv=>whnf)
  refine Ca.al6 fk j (by omega) ?_;intro w4 fk4 f4;have rc:=rc.ab f4.kp (by simpa using H.cg);conv=>whnf
  refine⟨rc,?_⟩;conv=>whnf
  refine Ca.anQ (GF.bE j) hp (rr.ab f4.kp (by simpa using hA)) (fun _=>hA) fk4 (by omega) ?_;intro w5 fk5 k5;have rc:=rc.ab k5 (by simpa using H.cg);have rs:=(rs.ab f4.kp (by simp;omega)).ab k5 (by simp;omega);have rz:=(rz.ab f4.kp (by simp;omega)).ab k5 (by simp;omega);conv=>whnf
  refine⟨rc,?_⟩;conv=>whnf
  repeat (refine Ix.n ?_;conv=>whnf)
  refine Sd.rowAt rs j (by omega) (by omega) rfl ?_;intro w6 rs k6;conv=>whnf
  repeat (refine Ar.la ?_;conv=>whnf)
  refine⟨j+1,⟨av,⟨fk5.fs.ab k6 (by simp;omega),fk5.kp.then k6 (fun x hx=>.inr (by rw[List.mem_singleton.1 hx];omega))⟩,rs.congr (fun s hs=>?_),rz.ab k6 (by simp;omega)⟩,⟨rfl,rfl,rfl,rfl,rfl,trivial⟩,by simp only;omega⟩;exact(aeS p j s).symm
 ·obtain rfl:j=6:=by omega
  conv=>whnf
  repeat ((first|refine Br.f ?_|refine CW.s ?_);conv=>whnf)
  refine Ru.ve rs underlying288 rfl tv (by omega) ?_;conv=>whnf
  refine Ru.gY rz tv (by omega) (fun i hi=>by show(tx p 6 (0+i)).oneCell'=true;rw[wA p (by omega)];rfl) ?_;intro w7 rz k7;conv=>whnf
  refine Ru.ve rz underlying288 rfl tv (by omega) ?_;conv=>whnf
  refine⟨rfl,?_,⟨fk.fs.ab k7 (by simp;omega),fk.kp.then k7 (fun x hx=>.inr (by rw[List.mem_singleton.1 hx];omega))⟩⟩;refine br (fun i hi=>?_);rw[ajY hi,wA p hi]
end
section
open Go.RowKit
attribute [local irreducible] GF.pw GF.lg GF.mul GF.inv GF.xt
abbrev Wd(w:World)(b d:Nat)(W:Nat->Nat):Prop:=Ly w 5 1 (some ⟨b,0,none⟩) 64 d (fun j=>.int .u8 (W j:Nat))
theorem Wd.at{w:World}{b d:Nat}{W:Nat->Nat}(h:Wd w b d W){j:Nat}(hj:j<64):w.cell? ⟨b,j,none⟩=some (.int .u8 (W j:Nat))/\w.frozen? ⟨b,j,none⟩=false:=by
 obtain⟨g,e,h1,h2⟩:=h.zv hj
 cases e
 exact⟨h1,h2⟩
theorem Wd.dN{S:List Nat}{w w':World}{b d:Nat}{W:Nat->Nat}(h:Wd w b d W)(k:Aa S w w')(hb:b∉S):Wd w' b d W:=h.ab k (fun x hx=>by rw[List.mem_singleton.1 hx];exact hb)
theorem Wd.lt{w:World}{b d:Nat}{W:Nat->Nat}(h:Wd w b d W):b<w.heap.size:=Ly.lt h rfl
theorem Sd.wd{w:World}{b d i:Nat}{W:Nat->Nat}{x:Int}{K:World->Prop}(h:Wd w b d W)(j u:Nat)(e:i=j)(hj:j<64)(hx:x=(u:Int))(k:∀w',Wd w' b d (fun i=>if i=j then u else W i)->Aa [b] w w'->K w'):Sd w ⟨b,i,none⟩ (.int .u8 x) K:=by
 subst e;subst hx;obtain⟨h1,h2⟩:=h.at hj;refine⟨⟨_,h1⟩,h2,rfl,k _ ?_ (Aa.set b i _)⟩;refine(h.set rfl i (.int .u8 (u:Nat))).congr (fun j _=>?_);unfold put;by_cases e:j=i
 ·simp only[if_pos e]
 ·simp only[if_neg e]
def sF(s:Nat->Nat):Nat->Value:=fun j=>.int .u8 (s j:Nat)
def CG(w:World)(g b d:Nat)(W s:Nat->Nat)(v:Value)(w':World):Prop :=
 FS w' g/\Aa [g,b] w w'/\((GF.Bi s/\v=.int .i64 1/\Wd w' b d (GF.fix W (63-GF.lg (GF.jL s)) (s 0)))\/(¬GF.Bi s/\v=.int .i64 0/\Wd w' b d W))
theorem Ca.apG{w0 w:World}{g:Nat}{K:Value->World->Prop}(h:FK w0 g w)(a b:Nat)(ha:a<256)(hb:b<256)(jK:b≠0)(k:∀w',FK w0 g w'->FK w g w'->K (.tuple #[.int .u8 (GF.mul a (GF.inv b):Nat),ak 0]) w'):Ca Tryz.prog 216 #[.pointer (some ⟨g,0,none⟩),.int .u8 a,.int .u8 b] w K:=Ca.of (agt w g a b ha hb h.fs) fun v w' hp=>by
 have e1:alU a b=GF.mul a (GF.inv b):=if_neg jK;have e2:qZ b=0:=if_neg jK;have h2:=hp.2.2;have h3:=hp.2.1;obtain⟨rfl,hf⟩:=h.of hp;rw[e1,e2];exact k w' hf ⟨h3,h2⟩
theorem Ca.anY{w0 w:World}{g:Nat}{K:Value->World->Prop}(h:FK w0 g w)(a b:Nat)(ha:a<256)(hb:b<256)(k:∀w',FK w0 g w'->FK w g w'->K (.int .u8 (GF.mul a b:Nat)) w'):Ca Tryz.prog 214 #[.pointer (some ⟨g,0,none⟩),.int .u8 a,.int .u8 b] w K:=Ca.of (yk w g a b ha hb h.fs) fun v w' hp=>by
 have h2:=hp.2.2;have h3:=hp.2.1;obtain⟨rfl,hf⟩:=h.of hp;exact k w' hf ⟨h3,h2⟩
structure Ctx(w0:World)(c g h sg b d:Nat)(s W:Nat->Nat)(w:World):Prop where
 fk:FK w0 g w
 iB:A8 w c g h
 row:Row w sg 288 6 (sF s)
 wd:Wd w b d W
 agR:sg≠g
 bne:b≠g
section
variable{w0 w w':World}{c g h sg b d:Nat}{s W:Nat->Nat}
theorem Ctx.step(H:Ctx w0 c g h sg b d s W w)(f:FK w g w'):Ctx w0 c g h sg b d s W w':=⟨⟨f.fs,H.fk.kp.trans f.kp⟩,H.iB.of f,H.row.ab f.kp (by simpa using H.agR),H.wd.dN f.kp (by simpa using H.bne),H.agR,H.bne⟩
theorem Ctx.draw(H:Ctx w0 c g h sg b d s W w):Ctx w0 c g h sg b d s W (w.drewN 1):=H.step ⟨H.fk.fs.drewN 1,(Aa.refl _ _).drewN 1⟩
theorem Ctx.rows(H:Ctx w0 c g h sg b d s W w):Row w sg 288 6 (sF s)/\Row w c 297 2 (vF g h):=⟨H.row,H.iB.row⟩
theorem Ca.cdiv{K:Value->World->Prop}(H:Ctx w0 c g h sg b d s W w)(x y:Nat)(hx:x<256)(hy:y<256)(hy0:y≠0)(k:∀w',Ctx w0 c g h sg b d s W w'->FK w g w'->K (.tuple #[.int .u8 (GF.mul x (GF.inv y):Nat),ak 0]) w'):Ca Tryz.prog 216 #[.pointer (some ⟨g,0,none⟩),.int .u8 x,.int .u8 y] w K:=Ca.apG H.fk x y hx hy hy0 fun w' _ f=>k w' (H.step f) f
theorem Ca.anZ{K:Value->World->Prop}(H:Ctx w0 c g h sg b d s W w)(x y:Nat)(hx:x<256)(hy0:y=0)(k:∀w',Ctx w0 c g h sg b d s W w'->FK w g w'->K (.tuple #[.int .u8 (0:Nat),ak 4]) w'):Ca Tryz.prog 216 #[.pointer (some ⟨g,0,none⟩),.int .u8 x,.int .u8 y] w K:=Ca.of (agt w g x y hx (by omega) H.fk.fs) fun v w' hp=>by
 subst hy0;obtain⟨rfl,h1,h2⟩:=hp;exact k w' (H.step ⟨h1,h2⟩) ⟨h1,h2⟩
theorem Ca.vH{K:Value->World->Prop}(H:Ctx w0 c g h sg b d s W w)(x y:Nat)(hx:x<256)(hy:y<256)(k:∀w',Ctx w0 c g h sg b d s W w'->FK w g w'->K (.int .u8 (GF.mul x y:Nat)) w'):Ca Tryz.prog 214 #[.pointer (some ⟨g,0,none⟩),.int .u8 x,.int .u8 y] w K:=Ca.anY H.fk x y hx hy fun w' _ f=>k w' (H.step f) f
theorem Ca.ama{K:Value->World->Prop}(H:Ctx w0 c g h sg b d s W w)(j:Nat)(hj:j<255)(k:∀w',Ctx w0 c g h sg b d s W w'->FK w g w'->K (.int .u8 (GF.pw j:Nat)) w'):Ca Tryz.prog 212 #[.pointer (some ⟨g,0,none⟩),.int .i64 j] w K:=Ca.al6 H.fk j hj fun w' _ f=>k w' (H.step f) f
theorem Ca.apH{K:Value->World->Prop}(H:Ctx w0 c g h sg b d s W w)(x:Nat)(hx:x<256)(hx0:x≠0)(k:∀w',Ctx w0 c g h sg b d s W w'->FK w g w'->K (.tuple #[.int .i64 (GF.lg x:Nat),ak 0]) w'):Ca Tryz.prog 217 #[.pointer (some ⟨g,0,none⟩),.int .u8 x] w K:=Ca.of (alX w g x hx H.fk.fs) fun v w' hp=>by
 obtain⟨rfl,h1,h2⟩:=hp;have e1:lgN x=GF.lg x:=if_neg hx0;have e2:qZ x=0:=if_neg hx0;rw[e1,e2];exact k w' (H.step ⟨h1,h2⟩) ⟨h1,h2⟩
end
theorem amb(w:World)(c g h b d:Nat)(W s:Nat->Nat)(hW:∀j,W j<256)(hs:∀j,s j<256)(r:Wd w b d W)(hb:b≠g)(H:A8 w c g h)(hbc:b≠c) :
  Spec Tryz.prog 206 #[.pointer (some ⟨c,0,none⟩),.slice (some ⟨b,0,none⟩) 64 d,agg 6 (sF s)] w (CG w g b d W s):=by
 refine spec_of_wpE (T:=tt) ah func206 rfl (by decide +kernel) ntmps206 (by simp) ?_;conv=>whnf
 refine Ru.dt ?_;intro sg w1 hsg du rs k1;have gl:=H.fs.lt;have cl:=H.row.lt;have bl:=r.lt;have C1:Ctx w c g h sg b d s W w1:=⟨⟨H.fs.aj k1,k1.mono (by simp)⟩,H.aj k1 (by simp) (by simp) (by simp),rs,r.dN k1 (by simp),by omega,hb⟩;have kk:∀ {w'},Aa [g] w w'->Aa [g,b] w w':=fun k=>k.mono (by simp);have l0:w1.cell? ⟨sg,0,none⟩=some (.int .u8 (s 0:Nat)):=rs.cell 0 (by omega);have l1:w1.cell? ⟨sg,1,none⟩=some (.int .u8 (s 1:Nat)):=rs.cell 1 (by omega);by_cases h0:s 0=0
 ·conv=>whnf
  repeat ((first|refine Br.t ?_|refine Pk.t ?_|refine Ix.i ?_|refine Br.y ?_|refine Ld.of (by assumption) ?_|refine CW.s ?_);conv=>whnf)
  exact⟨rfl,C1.fk.fs,kk C1.fk.kp,.inr ⟨fun o=>o.z0 h0,rfl,C1.wd⟩⟩
 by_cases h1:s 1=0
 ·conv=>whnf
  repeat ((first|refine Br.f ?_|refine Pk.f ?_|refine Ix.i ?_|refine Br.y ?_|refine Br.n ?_|refine Ld.of (by assumption) ?_|refine CW.s ?_);conv=>whnf)
  exact⟨rfl,C1.fk.fs,kk C1.fk.kp,.inr ⟨fun o=>o.z1 h1,rfl,C1.wd⟩⟩
 conv=>whnf
 repeat ((first|refine Br.f ?_|refine Pk.f ?_|refine Ix.i ?_|refine Br.n ?_|refine Ld.of (by assumption) ?_|refine CW.s ?_);conv=>whnf)
 refine CW.held (fun w'=>Row w' sg 288 6 (sF s)/\Row w' c 297 2 (vF g h)) [] (.take 0 (.take 1 (.take 2 (.take 3 (.take 4 (.take 5 (.take 6 (.take 7 (.one 8 (.take 9 (.take 10 (.take 11 (.take 12 (.take 13 (.done))))))))))))))) ah (by kernel_rfl) (by kernel_rfl) (by kernel_rfl) ?_ ?_
 ·exact C1.draw.rows
 have C2:=C1.draw;clear C1 l0 l1;generalize w1.drewN 1=w2 at *;have hx:GF.mul (s 1) (GF.inv (s 0))=GF.jL s:=rfl;have hx0:GF.jL s≠0:=GF.sk (hs 1) (GF.oq _) h1 (GF.adk _);have hxl:=GF.ads hs;conv=>whnf
 repeat ((first|(refine Ah.row (fun _ h=>h.1) (by decide) ?_)|(refine Ah.row (fun _ h=>h.2) (by decide) ?_)|(refine Ca.cdiv C2 (s 1) (s 0) (hs 1) (hs 0) h0 ?_)|refine Ix.i ?_);conv=>whnf)
 intro w3 C3 _;rw[hx];conv=>whnf
 refine⟨C3.rows,?_⟩;conv=>whnf
 repeat ((first|refine Br.f ?_|refine Ru.ai ?_|refine CW.s ?_);conv=>whnf)
 refine CW.loop (ι:=Nat) (fun j w'=>1<=j/\j<=6/\Ctx w c g h sg b d s W w'/\∀i,1<=i->i<j->GF.mul (s (i-1)) (GF.jL s)=s i) (fun j=>[(0,.pointer (some ⟨c,0,none⟩)),(1,.slice (some ⟨b,0,none⟩) 64 d),(5,.pointer (some ⟨sg,0,none⟩)),(7,.int .u8 (GF.jL s:Nat)),(9,.int .i64 j)]) (fun j=>6-j) 1 ah ⟨by omega,by omega,C3,fun i h1 h2=>by omega⟩ ⟨rfl,rfl,rfl,rfl,rfl,trivial⟩ ?_;rintro j wr ⟨hj1,hj,C,cu⟩;have hsj:=hs (j-1);by_cases av:j<6
 ·conv=>whnf
  repeat ((first|refine Br.y ?_|refine CW.s ?_);conv=>whnf)
  refine CW.held (fun w'=>Row w' sg 288 6 (sF s)/\Row w' c 297 2 (vF g h)) [] (.take 0 (.take 1 (.take 2 (.take 3 (.take 4 (.take 5 (.take 6 (.take 7 (.take 8 (.take 10 (.take 11 (.take 12 (.one 9 (.take 13 (.done))))))))))))))) ah (by kernel_rfl) (by kernel_rfl) (by kernel_rfl) ?_ ?_
  ·exact C.draw.rows
  have C:=C.draw;generalize wr.drewN 1=w4 at *;conv=>whnf
  repeat ((first|(refine Ah.at (j:=j) (by omega) (fun _ h=>h.1.cell j (by omega)) ?_)|(refine Ah.at (j:=j-1) (by omega) (fun _ h=>h.1.cell (j-1) (by omega)) ?_)|(refine Ah.row (fun _ h=>h.2) (by decide) ?_)|(refine Ca.vH C (s (j-1)) (GF.jL s) hsj hxl ?_)|refine Ix.n ?_|refine Ix.i ?_|refine Ar.la ?_);conv=>whnf)
  intro w5 C5 _;conv=>whnf
  refine⟨C5.rows,?_⟩;by_cases he:GF.mul (s (j-1)) (GF.jL s)=s j
  ·conv=>whnf
   repeat ((first|refine Ar.la ?_|refine Br.ny ?_);conv=>whnf)
   exact⟨j+1,⟨by omega,by omega,C5,fun i h1 h2=>by
    by_cases e:i=j
    ·rw[e];exact he
    ·exact cu i h1 (by omega)⟩,⟨rfl,rfl,rfl,rfl,rfl,trivial⟩,by simp only;omega⟩
  ·conv=>whnf
   repeat (refine Br.nn ?_;conv=>whnf)
   exact⟨rfl,C5.fk.fs,kk C5.fk.kp,.inr ⟨fun o=>he (o.all j hj1 av),rfl,C5.wd⟩⟩
 ·obtain rfl:j=6:=by omega
  have hlg:=(GF.eG _ hxl hx0).1;conv=>whnf
  repeat ((first|(refine Ld.row C.iB.row (by decide) ?_)|(refine Ca.apH C (GF.jL s) hxl hx0 ?_)|refine Br.f ?_|refine CW.s ?_);conv=>whnf)
  intro w5 C5 _;generalize hk:GF.lg (GF.jL s)=k at *;by_cases an0:64<=k
  ·conv=>whnf
   repeat ((first|refine Br.f ?_|refine Pk.f ?_|refine Br.y ?_|refine Ru.ai ?_|refine CW.s ?_);conv=>whnf)
   exact⟨rfl,C5.fk.fs,kk C5.fk.kp,.inr ⟨fun o=>by have:=o.at_;omega,rfl,C5.wd⟩⟩
  conv=>whnf
  repeat ((first|refine Br.f ?_|refine Pk.f ?_|refine Br.n ?_|refine Ru.ai ?_|refine CW.s ?_);conv=>whnf)
  have an0:k<64:=by omega
  have C:=C5.draw;have apI:=hW (63-k);refine CW.held (fun w'=>Row w' sg 288 6 (sF s)/\Wd w' b d W) [9] (.take 0 (.take 1 (.take 5 (.take 6 (.one 2 (.take 3 (.take 4 (.take 7 (.take 8 (.one 9 (.done))))))))))) ah (by kernel_rfl) (by kernel_rfl) (by kernel_rfl) ?_ ?_
  ·exact⟨C.row,C.wd⟩
  generalize w5.drewN 1=w6 at *;conv=>whnf
  repeat ((first|(refine Ah.at (j:=0) (by omega) (fun _ h=>h.1.cell 0 (by omega)) ?_)|refine Ix.i ?_);conv=>whnf)
  refine Ca.of (ov w6 k (by omega)) ?_;rintro _ w7 ⟨rfl,rfl⟩;conv=>whnf
  refine⟨⟨C.row,C.wd⟩,?_⟩;conv=>whnf
  repeat ((first|(refine Ix.of (63-k) (by omega) (by omega) ?_)|(refine Ah.at (j:=63-k) (by omega) (fun _ h=>(h.2.at (by omega)).1) ?_));conv=>whnf)
  refine Sd.wd C.wd (63-k) (W (63-k) ^^^ s 0) (by omega) (by omega) (bR apI (hs 0)) ?_;intro w8 wd8 k8;conv=>whnf
  have hsg:=C.agR;refine⟨rfl,C.fk.fs.ab k8 (by simp;omega),(kk C.fk.kp).trans (k8.mono (by simp)),.inl ⟨⟨h0,h1,fun j a1 a2=>cu j a1 a2,by rw[hk];exact an0⟩,rfl,?_⟩⟩;refine wd8.congr (fun i _=>?_);unfold GF.fix;rw[hk];by_cases e:i=63-k
  ·simp only[if_pos e,e]
  ·simp only[if_neg e]
end
section
open Go.RowKit
attribute [local irreducible] GF.pw GF.lg GF.mul GF.inv GF.xt
def CH(w:World)(g b d:Nat)(W s:Nat->Nat)(v:Value)(w':World):Prop :=
 FS w' g/\Aa [g,b] w w'/\((∃k0 k1,GF.AX s k0 k1/\v=.int .i64 2/\Wd w' b d (GF.vD W s k0 k1))\/((∀k0 k1,¬GF.AX s k0 k1)/\v=.int .i64 0/\Wd w' b d W))
theorem Ca.ab6{w0 w:World}{c g h sg b d:Nat}{s W:Nat->Nat}{K:Value->World->Prop}{x y:Int}(H:Ctx w0 c g h sg b d s W w)(m n:Nat)(ex:x=(m:Int))(ey:y=(n:Int))(hx:m<256)(hy:n<256)(hy0:n≠0)(k:∀w',Ctx w0 c g h sg b d s W w'->FK w g w'->K (.tuple #[.int .u8 (GF.mul m (GF.inv n):Nat),ak 0]) w'):Ca Tryz.prog 216 #[.pointer (some ⟨g,0,none⟩),.int .u8 x,.int .u8 y] w K:=by
 subst ex ey;exact Ca.cdiv H m n hx hy hy0 k
theorem Ca.ajZ{w0 w:World}{c g h sg b d:Nat}{s W:Nat->Nat}{K:Value->World->Prop}{x y:Int}(H:Ctx w0 c g h sg b d s W w)(m:Nat)(ex:x=(m:Int))(ey:y=0)(hx:m<256)(k:∀w',Ctx w0 c g h sg b d s W w'->FK w g w'->K (.tuple #[.int .u8 (0:Nat),ak 4]) w'):Ca Tryz.prog 216 #[.pointer (some ⟨g,0,none⟩),.int .u8 x,.int .u8 y] w K:=by
 subst ex ey;exact Ca.anZ H m 0 hx rfl k
theorem aj0{s:Nat->Nat}(hs:∀j,s j<256):GF.ou s<256:=GF.bo (GF.mul_lt (hs 1)) (GF.mul_lt (hs 0))
theorem an1{s:Nat->Nat}(hs:∀j,s j<256):GF.aN s<256:=GF.mul_lt (GF.bo (GF.mul_lt (hs 1)) (GF.mul_lt (hs 0)))
theorem an2{s:Nat->Nat}(hs:∀j,s j<256):GF.bN s<256:=GF.mul_lt (GF.bo (GF.mul_lt (hs 2)) (GF.mul_lt (hs 1)))
theorem Ctx.other{w0 w w':World}{c g h sg b d ag:Nat}{s W:Nat->Nat}(H:Ctx w0 c g h sg b d s W w)(k:Aa [ag] w w')(hn:ag≠g/\ag≠c/\ag≠h/\ag≠sg/\ag≠b/\w0.heap.size<=ag):Ctx w0 c g h sg b d s W w':=by
 obtain⟨h1,h2,h3,h4,h5,h6⟩:=hn;exact⟨⟨H.fk.fs.ab k (by simpa using h1.symm),H.fk.kp.then k (fun x hx=>.inr (by rw[List.mem_singleton.1 hx];exact h6))⟩,H.iB.aj k (by simpa using h2.symm) (by simpa using h1.symm) (by simpa using h3.symm),H.row.ab k (by simpa using h4.symm),H.wd.dN k (by simpa using h5.symm),H.agR,H.bne⟩
theorem aj1(w:World):(Instr.alloc 304 true (.tuple #[])).run Tryz.prog w=.ok (.pointer (some ⟨w.heap.size,0,none⟩)) (w.alloc (fH 2 (fun _=>.int .i64 0) 304)):=by kernel_rfl
theorem GF.rj(a b k:Nat):GF.cn a b (k+1)=GF.cn a b k++(if GF.aag a b k then [k] else []):=by
 unfold GF.cn;rw[List.range_succ,List.filter_append];congr 1;by_cases e:GF.aag a b k=true
 ·simp[e]
 ·simp[e]
theorem GF.aeT(a b:Nat){k m:Nat}(h:k<=m):(GF.cn a b k).length<=(GF.cn a b m).length:=by
 induction m with
 | zero =>
  obtain rfl:k=0:=by omega
  exact Nat.le_refl _
 | succ m ih =>
  by_cases e:k=m+1
  ·rw[e];exact Nat.le_refl _
  ·rw[GF.rj,List.length_append];have:=ih (by omega);omega
theorem aj2{s:Nat->Nat}{k:Nat}(hk:k<=64)(h:2<(GF.cn (GF.aN s) (GF.bN s) k).length)(k0 k1:Nat):¬GF.AX s k0 k1:=fun o=>by
 have:=GF.aeT (GF.aN s) (GF.bN s) hk;rw[o.roots] at this;simp at this;omega
theorem aeU{a b:Nat}(h:(GF.cn a b 64).length=2):∃k0 k1,GF.cn a b 64=[k0,k1]/\k0<k1/\k1<64:=by
 have h3:(GF.cn a b 64).Pairwise (· < ·):=List.Pairwise.filter _ List.pairwise_lt_range;have hm:∀k,k∈GF.cn a b 64->k<64:=fun k hk=>List.mem_range.1 (List.mem_filter.1 hk).1;generalize GF.cn a b 64=L at *
 match L,h with
 | [k0,k1],_=>exact⟨k0,k1,rfl,(List.pairwise_cons.1 h3).1 k1 (by simp),hm k1 (by simp)⟩
def atF(L:List Nat):Nat->Value:=fun j=>.int .i64 ((L[j]?.getD 0:Nat):Int)
theorem amc(w:World)(c g h b d:Nat)(W s:Nat->Nat)(hW:∀j,W j<256)(hs:∀j,s j<256)(r:Wd w b d W)(hb:b≠g)(H:A8 w c g h)(hbc:b≠c) :
  Spec Tryz.prog 207 #[.pointer (some ⟨c,0,none⟩),.slice (some ⟨b,0,none⟩) 64 d,agg 6 (sF s)] w (CH w g b d W s):=by
 refine spec_of_wpE (T:=tt) ah func207 rfl (by decide +kernel) ntmps207 (by simp) ?_;conv=>whnf
 refine Ru.dt ?_;intro sg w1 hsg du rs k1;have gl:=H.fs.lt;have cl:=H.row.lt;have bl:=r.lt;have C1:Ctx w c g h sg b d s W w1:=⟨⟨H.fs.aj k1,k1.mono (by simp)⟩,H.aj k1 (by simp) (by simp) (by simp),rs,r.dN k1 (by simp),by omega,hb⟩;have kk:∀ {w'},Aa [g] w w'->Aa [g,b] w w':=fun k=>k.mono (by simp);have m11:=GF.mul_lt (a:=s 1) (b:=s 1) (hs 1);have m02:=GF.mul_lt (a:=s 0) (b:=s 2) (hs 0);have m12:=GF.mul_lt (a:=s 1) (b:=s 2) (hs 1);have m03:=GF.mul_lt (a:=s 0) (b:=s 3) (hs 0);have m22:=GF.mul_lt (a:=s 2) (b:=s 2) (hs 2);have m13:=GF.mul_lt (a:=s 1) (b:=s 3) (hs 1);have apJ:fZ .xor .u8 (GF.mul (s 1) (s 1):Nat) (GF.mul (s 0) (s 2):Nat)=(GF.ou s:Int):=bR m11 m02;have hdl:=aj0 hs;conv=>whnf
 repeat ((refine Ld.row C1.iB.row (by decide) ?_);conv=>whnf)
 refine CW.held (fun w'=>Row w' sg 288 6 (sF s)) [] (.take 0 (.take 1 (.take 2 (.take 3 (.take 4 (.take 6 (.take 7 (.take 8 (.take 9 (.take 10 (.one 5 (.one 11 (.take 12 (.take 13 (.done))))))))))))))) ah (by kernel_rfl) (by kernel_rfl) (by kernel_rfl) ?_ ?_
 ·exact C1.draw.row
 have C:=C1.draw;clear C1;generalize w1.drewN 1=w2 at *;conv=>whnf
 repeat ((first|(refine Ah.row (fun _ h=>h) (by decide) ?_)|refine Ix.i ?_);conv=>whnf)
 refine Ca.vH C (s 1) (s 1) (hs 1) (hs 1) ?_;intro w3 C _;conv=>whnf
 refine⟨C.row,?_⟩;conv=>whnf
 refine Ca.vH C (s 0) (s 2) (hs 0) (hs 2) ?_;intro w4 C _;conv=>whnf
 refine⟨C.row,?_⟩;conv=>whnf
 rw[apJ];refine CW.held (fun w'=>Row w' sg 288 6 (sF s)) [] (.take 0 (.take 1 (.take 2 (.take 3 (.take 4 (.take 5 (.take 7 (.take 8 (.take 9 (.take 10 (.take 11 (.take 14 (.one 6 (.one 12 (.take 13 (.one 15 (.take 16 (.take 17 (.take 18 (.take 19 (.take 20 (.done)))))))))))))))))))))) ah (by kernel_rfl) (by kernel_rfl) (by kernel_rfl) ?_ ?_
 ·exact C.draw.row
 replace C:=C.draw;generalize w4.drewN 1=w5 at *;conv=>whnf
 repeat ((first|(refine Ah.row (fun _ h=>h) (by decide) ?_)|refine Ix.i ?_);conv=>whnf)
 refine Ca.vH C (s 1) (s 2) (hs 1) (hs 2) ?_;clear C;intro w6 C _;conv=>whnf
 refine⟨C.row,?_⟩;conv=>whnf
 refine Ca.vH C (s 0) (s 3) (hs 0) (hs 3) ?_;clear C;intro w7 C _;conv=>whnf
 refine⟨C.row,?_⟩;by_cases vf:GF.ou s=0
 ·conv=>whnf
  repeat ((refine Ca.ajZ C (GF.mul (s 1) (s 2) ^^^ GF.mul (s 0) (s 3)) (bR m12 m03) (by rw[vf];rfl) (GF.bo m12 m03) ?_);conv=>whnf)
  clear C;intro w8 C _;conv=>whnf
  refine⟨C.row,?_⟩;conv=>whnf
  repeat ((first|refine Br.t ?_|refine Ru.n1 ?_|refine CW.s ?_);conv=>whnf)
  exact⟨rfl,C.fk.fs,kk C.fk.kp,.inr ⟨fun k0 k1 o=>o.det vf,rfl,C.wd⟩⟩
 conv=>whnf
 repeat ((refine Ca.ab6 C (GF.mul (s 1) (s 2) ^^^ GF.mul (s 0) (s 3)) (GF.ou s) (bR m12 m03) rfl (GF.bo m12 m03) hdl vf ?_);conv=>whnf)
 clear C;intro w8 C _;conv=>whnf
 refine⟨C.row,?_⟩;conv=>whnf
 repeat ((first|refine Br.f ?_|refine Ru.ai ?_|refine CW.s ?_);conv=>whnf)
 refine CW.held (fun w'=>Row w' sg 288 6 (sF s)) [] (.take 0 (.take 1 (.take 2 (.take 3 (.take 4 (.take 5 (.take 7 (.take 8 (.take 9 (.take 10 (.take 11 (.take 14 (.one 6 (.one 12 (.take 13 (.one 15 (.take 16 (.take 17 (.take 18 (.take 19 (.take 20 (.done)))))))))))))))))))))) ah (by kernel_rfl) (by kernel_rfl) (by kernel_rfl) ?_ ?_
 ·exact C.draw.row
 replace C:=C.draw;generalize w8.drewN 1=w9 at *;conv=>whnf
 repeat ((first|(refine Ah.row (fun _ h=>h) (by decide) ?_)|refine Ix.i ?_);conv=>whnf)
 refine Ca.vH C (s 2) (s 2) (hs 2) (hs 2) ?_;clear C;intro yy C _;conv=>whnf
 refine⟨C.row,?_⟩;conv=>whnf
 refine Ca.vH C (s 1) (s 3) (hs 1) (hs 3) ?_;clear C;intro zy C _;conv=>whnf
 refine⟨C.row,?_⟩;conv=>whnf
 repeat ((refine Ca.ab6 C (GF.mul (s 2) (s 2) ^^^ GF.mul (s 1) (s 3)) (GF.ou s) (bR m22 m13) rfl (GF.bo m22 m13) hdl vf ?_);conv=>whnf)
 clear C;intro w12 C _;conv=>whnf
 refine⟨C.row,?_⟩;have ea:GF.mul (GF.mul (s 1) (s 2) ^^^ GF.mul (s 0) (s 3)) (GF.inv (GF.ou s))=GF.aN s:=rfl;have eb:GF.mul (GF.mul (s 2) (s 2) ^^^ GF.mul (s 1) (s 3)) (GF.inv (GF.ou s))=GF.bN s:=rfl;have hal:=an1 hs;have ox:=an2 hs;conv=>whnf
 repeat ((first|refine Br.f ?_|refine Ru.ai ?_|refine CW.s ?_);conv=>whnf)
 rw[ea,eb];refine Ru.aF (n:=2) (s:=fun _=>.int .i64 0) (aj1 _) ?_;intro ag w13 vX hs13 ra zZ;have aqZ:=C.fk.fs.lt;have aqQ:=C.row.lt;have aqR:=C.wd.lt;have aqS:=C.iB.row.lt;have aqT:=C.iB.gen.lt;have apK:=C.fk.kp;replace C:Ctx w c g h sg b d s W w13:=⟨⟨C.fk.fs.aj zZ,C.fk.kp.trans (zZ.mono (by simp))⟩,C.iB.aj zZ (by simp) (by simp) (by simp),C.row.ab zZ (by simp),C.wd.dN zZ (by simp),C.agR,C.bne⟩;conv=>whnf
 repeat (refine CW.s ?_;conv=>whnf)
 have ct:ag≠g/\ag≠c/\ag≠h/\ag≠sg/\ag≠b/\w.heap.size<=ag:=⟨by omega,by omega,by omega,by omega,by omega,by have:=apK.size;omega⟩;have eP:vF g h (0+0)=.pointer (some ⟨g,0,none⟩):=rfl;rw[eP];refine CW.loop (ι:=Nat) (fun k w'=>k<=64/\Ctx w c g h sg b d s W w'/\(GF.cn (GF.aN s) (GF.bN s) k).length<=2/\Row w' ag 304 2 (atF (GF.cn (GF.aN s) (GF.bN s) k))) (fun k=>[(0,.pointer (some ⟨c,0,none⟩)),(1,.slice (some ⟨b,0,none⟩) 64 d),(5,.pointer (some ⟨sg,0,none⟩)),(7,.pointer (some ⟨g,0,none⟩)),(9,.int .u8 (GF.aN s:Nat)),(11,.int .u8 (GF.bN s:Nat)),(12,.pointer (some ⟨ag,0,none⟩)),(13,.int .i64 ((GF.cn (GF.aN s) (GF.bN s) k).length:Nat)),(78,.int .i64 k)]) (fun k=>64-k) 0 ah ⟨by omega,C,by simp[GF.cn],ra.congr (fun i _=>by simp[GF.cn,atF])⟩ ⟨rfl,rfl,rfl,rfl,rfl,rfl,rfl,rfl,rfl,trivial⟩ ?_;clear C ra zZ;rintro k wr ⟨hk,C,hlen,ra⟩;by_cases av:k<64
 ·have hx:=GF.bE k;have mxx:=GF.mul_lt (a:=GF.pw k) (b:=GF.pw k) hx;have max:=GF.mul_lt (a:=GF.aN s) (b:=GF.pw k) hal;have hrs:=GF.rj (GF.aN s) (GF.bN s) k;generalize hL:GF.cn (GF.aN s) (GF.bN s) k=L at *;conv=>whnf
  repeat ((first|(refine Ca.ama C k (by omega) ?_)|refine Br.y ?_|refine CW.s ?_);conv=>whnf)
  clear C;intro w14 C f;replace ra:=ra.ab f.kp (by simpa using ct.1);clear f;conv=>whnf
  repeat ((first|(refine Ca.vH C (GF.pw k) (GF.pw k) hx hx ?_)|refine CW.s ?_);conv=>whnf)
  clear C;intro w15 C f;replace ra:=ra.ab f.kp (by simpa using ct.1);clear f;conv=>whnf
  repeat ((refine Ca.vH C (GF.aN s) (GF.pw k) hal hx ?_);conv=>whnf)
  clear C;intro w16 C f;replace ra:=ra.ab f.kp (by simpa using ct.1);clear f;have l8:fZ .xor .u8 (fZ .xor .u8 (GF.mul (GF.pw k) (GF.pw k):Nat) (GF.mul (GF.aN s) (GF.pw k):Nat)) (GF.bN s:Nat)=((GF.mul (GF.pw k) (GF.pw k) ^^^ GF.mul (GF.aN s) (GF.pw k) ^^^ GF.bN s:Nat):Int):=by
   rw[bR mxx max,bR (GF.bo mxx max) ox]
  have hrb:GF.aag (GF.aN s) (GF.bN s) k=(GF.mul (GF.pw k) (GF.pw k) ^^^ GF.mul (GF.aN s) (GF.pw k) ^^^ GF.bN s == 0):=rfl;conv=>whnf
  rw[l8];generalize GF.mul (GF.pw k) (GF.pw k) ^^^ GF.mul (GF.aN s) (GF.pw k) ^^^ GF.bN s=z at *;by_cases hz:z=0
  ·subst hz;rw[hrb] at hrs;replace hrs:GF.cn (GF.aN s) (GF.bN s) (k+1)=L++[k]:=hrs;by_cases h2:L.length=2
   ·conv=>whnf
    repeat ((first|refine Br.f ?_|refine Br.y ?_);conv=>whnf)
    exact⟨rfl,C.fk.fs,kk C.fk.kp,.inr ⟨aj2 (k:=k+1) (by omega) (by rw[hrs,List.length_append,h2];simp),rfl,C.wd⟩⟩
   ·conv=>whnf
    repeat ((first|refine Br.f ?_|refine Ix.n ?_|refine Br.n ?_);conv=>whnf)
    refine Sd.rowAt ra L.length (by omega) (by omega) rfl ?_;intro w17 ra2 k17;conv=>whnf
    repeat (refine Ar.la ?_;conv=>whnf)
    refine⟨k+1,⟨by omega,C.other k17 ct,by rw[hrs];simp;omega,ra2.congr (fun i hi=>?_)⟩,⟨rfl,rfl,rfl,rfl,rfl,rfl,rfl,vi (by rw[hrs];simp),rfl,trivial⟩,by simp only;omega⟩;rw[hrs];unfold put atF;by_cases e:i=L.length
    ·rw[if_pos e,e];simp
    ·rw[if_neg e];by_cases e2:i<L.length
     ·rw[List.getElem?_append_left e2]
     ·rw[List.getElem?_eq_none (by omega),List.getElem?_eq_none (by simp;omega)]
  ·have hf:(z == 0)=false:=by simpa using hz
   rw[hrb,hf] at hrs;replace hrs:GF.cn (GF.aN s) (GF.bN s) (k+1)=L:=by rw[hrs];simp
   conv=>whnf
   repeat ((first|refine Ar.la ?_|refine Br.nn ?_);conv=>whnf)
   exact⟨k+1,⟨by omega,C,by rw[hrs];exact hlen,by rw[hrs];exact ra⟩,⟨rfl,rfl,rfl,rfl,rfl,rfl,rfl,vi (by rw[hrs]),rfl,trivial⟩,by simp only;omega⟩
 ·obtain rfl:k=64:=by omega
  conv=>whnf
  repeat ((first|refine Br.f ?_|refine CW.s ?_);conv=>whnf)
  by_cases h2:¬(GF.cn (GF.aN s) (GF.bN s) 64).length=2
  ·conv=>whnf
   repeat (refine Br.nn ?_;conv=>whnf)
   exact⟨rfl,C.fk.fs,kk C.fk.kp,.inr ⟨fun k0 k1 o=>h2 (by rw[o.roots];rfl),rfl,C.wd⟩⟩
  obtain⟨k0,k1,hL,aq0,hk1⟩:=aeU (Decidable.not_not.1 h2);have h2:(GF.cn (GF.aN s) (GF.bN s) 64).length=2:=Decidable.not_not.1 h2;rw[hL] at ra;have ra0:∀ {w'},Row w' ag 304 2 (atF [k0,k1])->w'.cell? ⟨ag,0,none⟩=some (.int .i64 (k0:Nat)):=fun r=>r.cell 0 (by omega);have ra1:∀ {w'},Row w' ag 304 2 (atF [k0,k1])->w'.cell? ⟨ag,1,none⟩=some (.int .i64 (k1:Nat)):=fun r=>r.cell 1 (by omega);have hx:=GF.bE k0;have hy:=GF.bE k1;have m0y:=GF.mul_lt (a:=s 0) (b:=GF.pw k1) (hs 0);conv=>whnf
  repeat (refine Br.ny ?_;conv=>whnf)
  refine CW.held (fun w'=>Row w' ag 304 2 (atF [k0,k1])) [] (.take 0 (.take 1 (.take 2 (.take 4 (.take 5 (.take 6 (.one 3 (.one 7 (.take 8 (.take 9 (.done))))))))))) ah (by kernel_rfl) (by kernel_rfl) (by kernel_rfl) ?_ ?_
  ·exact ra.drewN 1
  replace C:=C.draw;replace ra:=ra.drewN 1;generalize wr.drewN 1=w14 at *;conv=>whnf
  repeat ((first|(refine Ah.at (j:=0) (by omega) (fun _ h=>ra0 h) ?_)|(refine Ah.at (j:=1) (by omega) (fun _ h=>ra1 h) ?_)|refine Ix.i ?_);conv=>whnf)
  refine Ca.ama C k0 (by omega) ?_;clear C;intro w15 C f;replace ra:=ra.ab f.kp (by simpa using ct.1);clear f;conv=>whnf
  refine⟨ra,?_⟩;conv=>whnf
  refine Ca.ama C k1 (by omega) ?_;clear C;intro w16 C f;replace ra:=ra.ab f.kp (by simpa using ct.1);clear f;conv=>whnf
  refine⟨ra,?_⟩;conv=>whnf
  refine CW.held (fun w'=>Row w' sg 288 6 (sF s)) [] (.take 0 (.take 1 (.take 2 (.take 3 (.take 4 (.take 5 (.take 6 (.take 9 (.take 10 (.take 11 (.one 7 (.take 8 (.one 12 (.take 13 (.take 14 (.take 15 (.take 16 (.take 17 (.done))))))))))))))))))) ah (by kernel_rfl) (by kernel_rfl) (by kernel_rfl) ?_ ?_
  ·exact C.draw.row
  replace C:=C.draw;replace ra:=ra.drewN 1;generalize w16.drewN 1=w17 at *;conv=>whnf
  repeat ((first|(refine Ah.row (fun _ h=>h) (by decide) ?_)|refine Ix.i ?_);conv=>whnf)
  refine Ca.vH C (s 0) (GF.pw k1) (hs 0) hy ?_;clear C;intro w18 C f;replace ra:=ra.ab f.kp (by simpa using ct.1);clear f;conv=>whnf
  refine⟨C.row,?_⟩;have hxy:=GF.agB (i:=k0) (j:=k1) (by omega) (by omega) (by omega);have hel:=GF.yq hs k0 k1;have eE:GF.mul (s 1 ^^^ GF.mul (s 0) (GF.pw k1)) (GF.inv (GF.pw k0 ^^^ GF.pw k1))=GF.rT s k0 k1:=rfl;conv=>whnf
  refine Ca.ab6 C (s 1 ^^^ GF.mul (s 0) (GF.pw k1)) (GF.pw k0 ^^^ GF.pw k1) (bR (hs 1) m0y) (bR hx hy) (GF.bo (hs 1) m0y) (GF.bo hx hy) hxy ?_;clear C;intro w19 C f;replace ra:=ra.ab f.kp (by simpa using ct.1);clear f;rw[eE];conv=>whnf
  refine⟨C.row,?_⟩;generalize hEq:GF.rT s k0 k1=e at *;have l0:w19.cell? ⟨sg,0,none⟩=some (.int .u8 (s 0:Nat)):=C.row.cell 0 (by omega);have lE:(e=0\/e=s 0)->∀a0 a1,¬GF.AX s a0 a1:=fun hh a0 a1 o=>by
   have:=o.roots;rw[hL] at this;injection this with e1 e2;injection e2 with e2 _;subst e1 e2;rcases hh with hh|hh
   ·exact o.e0 (hEq.trans hh)
   ·exact o.e1 (hEq.trans hh)
  by_cases he0:e=0
  ·conv=>whnf
   repeat ((first|refine Br.t ?_|refine Br.f ?_|refine Pk.f ?_|refine Pk.t ?_|refine Br.y ?_|refine Ru.ai ?_|refine CW.s ?_);conv=>whnf)
   exact⟨rfl,C.fk.fs,kk C.fk.kp,.inr ⟨lE (.inl he0),rfl,C.wd⟩⟩
  by_cases he1:e=s 0
  ·conv=>whnf
   repeat ((first|refine Br.f ?_|refine Pk.f ?_|refine Ix.i ?_|refine Br.y ?_|refine Br.n ?_|refine Ld.of (by assumption) ?_|refine Ru.ai ?_|refine CW.s ?_);conv=>whnf)
   exact⟨rfl,C.fk.fs,kk C.fk.kp,.inr ⟨lE (.inr he1),rfl,C.wd⟩⟩
  have hp0:w19.cell? ⟨ag,0,none⟩=some (.int .i64 (k0:Nat)):=ra0 ra;have hw0:=hW (63-k0);have hw1:=hW (63-k1);conv=>whnf
  repeat ((first|(refine Ca.of (ov w19 k0 (by omega)) ?_)|refine Br.f ?_|refine Pk.f ?_|refine Ix.i ?_|refine Br.n ?_|refine Ld.of (by assumption) ?_|refine Ru.ai ?_|refine CW.s ?_);conv=>whnf)
  rintro _ w20 ⟨rfl,rfl⟩;conv=>whnf
  repeat ((first|(refine Ix.of (63-k0) (by omega) (by omega) ?_)|(refine Ld.at (j:=63-k0) (by omega) (C.wd.at (by omega)).1 ?_));conv=>whnf)
  refine Sd.wd C.wd (63-k0) (W (63-k0) ^^^ e) (by omega) (by omega) (bR hw0 hel) ?_;intro w21 wd21 k21;have apL:b≠ag:=ct.2.2.2.2.1.symm;have yz:=C.row.ab k21 (by simp;omega);replace ra:=ra.ab k21 (by simpa using apL.symm);have sP:g≠b:=C.bne.symm;have amd:=C.fk.fs.ab k21 (by simpa using sP);have ame:Aa [g,b] w w21:=(kk C.fk.kp).trans (k21.mono (by simp));have apM:(if 63-k1=63-k0 then W (63-k0) ^^^ e else W (63-k1))=W (63-k1):=if_neg (by omega);have apN:e ^^^ s 0<256:=GF.bo hel (hs 0);have hxx:fZ .xor .u8 (W (63-k1):Nat) (fZ .xor .u8 (e:Nat) (s 0:Nat))=((W (63-k1) ^^^ (e ^^^ s 0):Nat):Int):=by
   rw[bR hel (hs 0),bR hw1 apN]
  have u9:∀ {w'},Wd w' b d (fun i=>if i=63-k0 then W (63-k0) ^^^ e else W i)->w'.cell? ⟨b,63-k1,none⟩=some (.int .u8 (W (63-k1):Nat)):=fun h=>by
   have:=(h.at (j:=63-k1) (by omega)).1;rw[apM] at this;exact this
  conv=>whnf
  refine CW.held (fun w'=>Row w' ag 304 2 (atF [k0,k1])/\Row w' sg 288 6 (sF s)/\Wd w' b d (fun i=>if i=63-k0 then W (63-k0) ^^^ e else W i)) [12] (.take 0 (.take 1 (.take 2 (.take 6 (.take 7 (.take 8 (.take 9 (.one 3 (.take 4 (.take 5 (.take 10 (.take 11 (.one 12 (.done)))))))))))))) ah (by kernel_rfl) (by kernel_rfl) (by kernel_rfl) ?_ ?_
  ·exact⟨ra.drewN 1,yz.drewN 1,wd21.aj ((Aa.refl _ _).drewN 1)⟩
  replace ra:=ra.drewN 1;replace yz:=yz.drewN 1;replace wd21:Wd (w21.drewN 1) b d _:=wd21.aj ((Aa.refl _ _).drewN 1);replace amd:=amd.drewN 1;replace ame:=ame.drewN 1;generalize w21.drewN 1=w22 at *;conv=>whnf
  repeat ((first|(refine Ah.at (j:=1) (by omega) (fun _ h=>ra1 h.1) ?_)|(refine Ah.at (j:=0) (by omega) (fun _ h=>h.2.1.cell 0 (by omega)) ?_)|refine Ix.i ?_);conv=>whnf)
  refine Ca.of (ov w22 k1 (by omega)) ?_;rintro _ w23 ⟨rfl,rfl⟩;conv=>whnf
  refine⟨⟨ra,yz,wd21⟩,?_⟩;conv=>whnf
  repeat ((first|(refine Ix.of (63-k1) (by omega) (by omega) ?_)|(refine Ah.at (j:=63-k1) (by omega) (fun _ h=>u9 h.2.2) ?_));conv=>whnf)
  refine Sd.wd wd21 (63-k1) (W (63-k1) ^^^ (e ^^^ s 0)) (by omega) (by omega) hxx ?_;intro w24 wd24 k24;conv=>whnf
  refine⟨rfl,amd.ab k24 (by simpa using sP),ame.trans (k24.mono (by simp)),.inl ⟨k0,k1,⟨vf,hL,by rw[hEq];exact he0,by rw[hEq];exact he1⟩,rfl,wd24.congr (fun i _=>?_)⟩⟩;unfold GF.vD GF.fix;rw[hEq];by_cases e1:i=63-k1
  ·have e0:¬i=63-k0:=by omega
   subst e1;simp only[if_true,if_neg e0]
  ·simp only[if_neg e1];by_cases e0:i=63-k0
   ·simp only[if_pos e0,e0]
   ·simp only[if_neg e0]
end
section
open Go.RowKit
attribute [local irreducible] GF.pw GF.lg GF.mul GF.inv GF.xt
theorem pj:kF Tryz.prog 5 1=true:=by kernel_rfl
theorem ab7(w:World):(Instr.build 288 #[]).run Tryz.prog w=.ok (agg 6 (fun _=>.int .u8 0)) w:=by kernel_rfl
def yA(s:Nat->Nat):Bool:=(List.range 6).all fun j=>(s j:Int) == 0
theorem l9(s:Nat->Nat):yA s=true↔∀j,j<6->s j=0:=by
 unfold yA;rw[List.all_eq_true];constructor
 ·intro h j hj;have:=h j (List.mem_range.2 hj);simpa using this
 ·intro h j hj;have:=h j (List.mem_range.1 hj);simp[this]
theorem agS:Tryz.prog.eqGuardType Tryz.prog.depth 288=false:=by kernel_rfl
theorem apO{w:World}{x y:Operand}(s:Nat->Nat):(do eqGuard .eql 288 x y (agg 6 (sF s)) (agg 6 (fun _=>.int .u8 0));binOp .eql 288 (agg 6 (sF s)) (agg 6 (fun _=>.int .u8 0)):Sem Value).run Tryz.prog w=.ok (.bool (yA s)) w:=by
 rw[Sem.run_bind,v7 _ _ _ _ _ _ _ _ agS,Result.andThen_ok];exact zN (fun j=>(s j:Int)) (fun _=>0) underlying288 underlying5 (by kernel_rfl) w
theorem an3{w:World}{x y:Operand}(s:Nat->Nat):(do eqGuard .neq 288 x y (agg 6 (sF s)) (agg 6 (fun _=>.int .u8 0));binOp .neq 288 (agg 6 (sF s)) (agg 6 (fun _=>.int .u8 0)):Sem Value).run Tryz.prog w=.ok (.bool (!yA s)) w:=by
 rw[Sem.run_bind,v7 _ _ _ _ _ _ _ _ agS,Result.andThen_ok];exact zO (fun j=>(s j:Int)) (fun _=>0) underlying288 underlying5 (by kernel_rfl) w
def BN(w:World)(g:Nat)(p:Nat->Nat)(v:Value)(w':World):Prop :=
 FK w g w'/\((∃b d V,w.heap.size<=b/\(∀i,V i<256)/\GF.Ay V/\GF.cm V p<=2/\v=.tuple #[.slice (some ⟨b,0,none⟩) 58 58,.int .i64 (GF.cm V p:Nat),ak 0]/\Wd w' b d V) \/
  (v=.tuple #[.slice none 0 0,.int .i64 0,ak 5]/\∀C:Nat->Nat,(∀i,C i<256)->GF.Ay C->2<GF.cm C p))
theorem ab8(p:Nat->Nat):agQ p=sF (GF.dw p):=rfl
theorem A8.next{S:List Nat}{w w':World}{c g h:Nat}(H:A8 w c g h)(k:Aa S w w')(hc:c∉S)(hh:h∉S)(f:FS w' g):A8 w' c g h:=⟨H.row.ab k hc,H.gen.ab k hh,f,H.cg,H.hg⟩
theorem mN(p:Nat->Nat):GF.cm p p=0:=by
 unfold GF.cm GF.iN;simp
theorem aaj{p:Nat->Nat}(hp:∀j,p j<256)(h0:¬GF.Ay p)(h1:¬GF.Bi (GF.dw p))(h2:∀k0 k1,GF.AX (GF.dw p) k0 k1->¬GF.Ay (GF.vD p (GF.dw p) k0 k1))(C:Nat->Nat)(hC:∀i,C i<256)(hc:GF.Ay C):2<GF.cm C p:=by
 refine Nat.lt_of_not_le (fun hle=>?_);have h3:GF.cm C p=0\/GF.cm C p=1\/GF.cm C p=2:=by omega
 rcases h3 with h3|h3|h3
 ·have he:∀i,i<64->C i=p i:=fun i hi=>by
   unfold GF.cm at h3;have hn:=List.eq_nil_of_length_eq_zero h3;by_cases e:C i=p i
   ·exact e
   ·have:i∈GF.iN C p:=List.mem_filter.2 ⟨List.mem_range.2 hi,decide_eq_true e⟩;rw[hn] at this
    cases this
  exact h0 (fun j hj=>by rw[<-GF.mM he j];exact hc j hj)
 ·exact h1 (GF.yp hC hp hc h3)
 ·obtain⟨k0,k1,ht,he⟩:=GF.yr hC hp hc h3;exact h2 k0 k1 ht (fun j hj=>by rw[GF.mM he j];exact hc j hj)
theorem agT(w:World)(c g h d:Nat)(A:Option Addr)(p:Nat->Nat)(hp:∀j,p j<256)(r:AH w A 64 p)(hd:64<=d)(hA:∀a,A=some a->a.block≠g)(H:A8 w c g h) :
  Spec Tryz.prog 190 #[.pointer (some ⟨c,0,none⟩),.slice A 64 d] w (BN w g p):=by
 have hAn:A=none->d=0:=fun e=>by
  obtain⟨b,o,e2,_⟩:=r (by omega);rw[e] at e2
  cases e2
 refine spec_of_wpE (T:=tt) ah func190 rfl (by decide +kernel) ntmps190 (by simp) ?_;conv=>whnf
 repeat ((first|refine Br.f ?_|refine CW.s ?_);conv=>whnf)
 refine Bu.grow (Own.start w (fun _=>0)) (fun j=>(p j:Int)) r hd hAn (by omega) ?_;intro Y e w1 O k1;obtain⟨b,rfl,-,-⟩:=O.ly.zv (j:=0) (by omega);have eQ:w.heap.size<=b:=O.new b (List.mem_singleton.2 rfl);have W1:Wd w1 b e p:=O.ly.congr (fun j _=>by simp);clear O;have gl:=H.fs.lt;have cl:=H.row.lt;have hl:=H.gen.lt;have k1:Aa [] w w1:=k1;have C1:=H.aj k1 (by simp) (by simp) (by simp);have f1:FK w g w1:=⟨C1.fs,k1.mono (by simp)⟩;have hbg:b≠g:=by omega
 have aq1:=W1.lt;rw[show 0+64=64 from rfl];conv=>whnf
 refine Ca.of (ab5 w1 c g h e (some ⟨b,0,none⟩) p hp W1.u9 (fun a e=>by cases e;exact hbg) C1) ?_;rintro _ w2 ⟨rfl,f2⟩;rw[ab8];have hs:=GF.ym hp;have C2:=C1.of f2;have W2:=W1.dN f2.kp (by simpa using hbg);have f12:FK w g w2:=⟨f2.fs,f1.kp.trans f2.kp⟩;conv=>whnf
 refine Ru.aF (n:=6) (s:=fun _=>.int .u8 0) (yv _) ?_;intro sg w3 hsg gG rs k3;have fE:=f2.kp.size;have C3:=C2.aj k3 (by simp) (by simp) (by simp);have W3:=W2.dN k3 (by simp);have f3:FK w g w3:=⟨C3.fs,f12.kp.trans (k3.mono (by simp))⟩;have w1s:=k1.size;conv=>whnf
 refine Ru.gY rs tv (by omega) (fun i _=>rfl) ?_;intro w4 rs4 k4;have mO:sg≠g/\sg≠c/\sg≠h/\sg≠b:=⟨by omega,by omega,by omega,by omega⟩;have C4:=C3.aj k4 (by simpa using mO.2.1.symm) (by simpa using mO.1.symm) (by simpa using mO.2.2.1.symm);have W4:=W3.dN k4 (by simpa using mO.2.2.2.symm);have f4:FK w g w4:=⟨C4.fs,f3.kp.then k4 (fun x hx=>.inr (by rw[List.mem_singleton.1 hx];omega))⟩;have rs4:Row w4 sg 288 6 (sF (GF.dw p)):=rs4.congr (fun i hi=>by unfold lay;rw[if_pos (by omega)];rfl);clear C3 W3 f3 C2 W2 f12 f2 rs k3 C1 W1 f1 k4;conv=>whnf
 repeat (refine CW.s ?_;conv=>whnf)
 refine Ru.cG (q:=sF (GF.dw p)) rs4 underlying288 rfl tv (by omega) (fun i _=>by rw[Nat.zero_add]) ?_;conv=>whnf
 refine Ru.of (ab7 _) ?_;conv=>whnf
 refine Ru.of (apO _) ?_;conv=>whnf
 by_cases hz:yA (GF.dw p)=true
 ·conv=>whnf
  repeat (refine Br.is (by assumption) ?_;conv=>whnf)
  refine Ru.agJ (h:=58) (m:=58) underlying37 pj (by omega) (by have:=W4.1;omega) ?_;conv=>whnf
  have oA:GF.Ay p:=(l9 _).1 hz;exact⟨rfl,f4,.inl ⟨b,e,p,eQ,hp,oA,by rw[mN];omega,by rw[mN];rfl,W4⟩⟩
 have hz:yA (GF.dw p)=false:=by simpa using hz
 have an4:¬GF.Ay p:=fun hc=>by
  rw[(l9 _).2 hc] at hz
  cases hz
 conv=>whnf
 repeat (refine Br.bF (by assumption) ?_;conv=>whnf)
 refine Ru.cG (q:=sF (GF.dw p)) rs4 underlying288 rfl tv (by omega) (fun i _=>by rw[Nat.zero_add]) ?_;conv=>whnf
 have hbc:b≠c:=by omega
 have hbh:b≠h:=by omega
 refine Ca.of (amb w4 c g h b e p (GF.dw p) hp hs W4 hbg C4 hbc) ?_;rintro v w5 ⟨fs5,k5,hv⟩;have C5:=C4.next k5 (by simp;exact⟨H.cg,fun e=>hbc e.symm⟩) (by simp;exact⟨H.hg,fun e=>hbh e.symm⟩) fs5;have rs5:=rs4.ab k5 (by simp;exact⟨mO.1,mO.2.2.2⟩);have f5:FK w g w5:=⟨fs5,f4.kp.then k5 (fun x hx=>by
  rcases List.mem_cons.1 hx with rfl|hx
  ·exact .inl (by simp)
  ·exact .inr (by rw[List.mem_singleton.1 hx];exact eQ))⟩
 clear C4 W4 f4 rs4 k5;rcases hv with⟨h1,rfl,W5⟩|⟨h1,rfl,W5⟩
 ·obtain⟨oA,aak⟩:=GF.aeM hp h1;have hV:∀i,GF.fix p (63-GF.lg (GF.jL (GF.dw p))) (GF.dw p 0) i<256:=GF.yo hp (hs 0);generalize GF.fix p (63-GF.lg (GF.jL (GF.dw p))) (GF.dw p 0)=V at *;have hzV:yA (GF.dw V)=true:=(l9 _).2 oA;conv=>whnf
  repeat ((first|(refine Ca.of (ab5 w5 c g h e (some ⟨b,0,none⟩) V hV W5.u9 (fun a e=>by cases e;exact hbg) C5) ?_)|refine Br.f ?_|refine CW.s ?_);conv=>whnf)
  rintro _ w6 ⟨rfl,f6⟩;rw[ab8];conv=>whnf
  repeat (refine Br.f ?_;conv=>whnf)
  refine Ru.of (ab7 _) ?_;conv=>whnf
  repeat (refine Br.f ?_;conv=>whnf)
  refine Ru.of (an3 _) ?_;rw[hzV];conv=>whnf
  repeat ((first|refine Br.f ?_|refine Pk.f ?_);conv=>whnf)
  refine Ru.agJ (h:=58) (m:=58) underlying37 pj (by omega) (by have:=W5.1;omega) ?_;conv=>whnf
  rw[GF.iA] at aak;exact⟨rfl,⟨f6.fs,f5.kp.trans f6.kp⟩,.inl ⟨b,e,V,eQ,hV,oA,by omega,by rw[aak];rfl,W5.dN f6.kp (by simpa using hbg)⟩⟩
 ·conv=>whnf
  repeat ((first|refine Br.t ?_|refine CW.s ?_);conv=>whnf)
  refine Ru.cG (q:=sF (GF.dw p)) rs5 underlying288 rfl tv (by omega) (fun i _=>by rw[Nat.zero_add]) ?_;conv=>whnf
  refine Ca.of (amc w5 c g h b e p (GF.dw p) hp hs W5 hbg C5 hbc) ?_;rintro v w6 ⟨fs6,k6,hv⟩;have C6:=C5.next k6 (by simp;exact⟨H.cg,fun e=>hbc e.symm⟩) (by simp;exact⟨H.hg,fun e=>hbh e.symm⟩) fs6;have f6:FK w g w6:=⟨fs6,f5.kp.then k6 (fun x hx=>by
   rcases List.mem_cons.1 hx with rfl|hx
   ·exact .inl (by simp)
   ·exact .inr (by rw[List.mem_singleton.1 hx];exact eQ))⟩
  clear C5 W5 f5 rs5 k6;rcases hv with⟨k0,k1',h2,rfl,W6⟩|⟨h2,rfl,W6⟩
  ·have aak:=GF.agG (W:=p) h2;have hV:∀i,GF.vD p (GF.dw p) k0 k1' i<256:=GF.yo (GF.yo hp (GF.yq hs k0 k1')) (GF.bo (GF.yq hs k0 k1') (hs 0));have cL:¬GF.Ay (GF.vD p (GF.dw p) k0 k1')->∀C:Nat->Nat,(∀i,C i<256)->GF.Ay C->2<GF.cm C p:=fun hn=>aaj hp an4 h1 (fun a0 a1 ha=>by
    have e1:=ha.roots;rw[h2.roots] at e1;injection e1 with e1 e2;injection e2 with e2 _;subst e1 e2;exact hn)
   generalize GF.vD p (GF.dw p) k0 k1'=V at *;conv=>whnf
   repeat ((first|(refine Ca.of (ab5 w6 c g h e (some ⟨b,0,none⟩) V hV W6.u9 (fun a e=>by cases e;exact hbg) C6) ?_)|refine Br.f ?_|refine CW.s ?_);conv=>whnf)
   rintro _ w7 ⟨rfl,f7⟩;rw[ab8];conv=>whnf
   repeat (refine Br.f ?_;conv=>whnf)
   refine Ru.of (ab7 _) ?_;conv=>whnf
   repeat (refine Br.f ?_;conv=>whnf)
   refine Ru.of (an3 _) ?_;by_cases oA:GF.Ay V
   ·have hzV:yA (GF.dw V)=true:=(l9 _).2 oA;rw[hzV];conv=>whnf
    repeat ((first|refine Br.f ?_|refine Pk.f ?_);conv=>whnf)
    refine Ru.agJ (h:=58) (m:=58) underlying37 pj (by omega) (by have:=W6.1;omega) ?_;conv=>whnf
    rw[GF.iA] at aak;exact⟨rfl,⟨f7.fs,f6.kp.trans f7.kp⟩,.inl ⟨b,e,V,eQ,hV,oA,by omega,by rw[aak];rfl,W6.dN f7.kp (by simpa using hbg)⟩⟩
   ·have hzV:yA (GF.dw V)=false:=by
     cases e:yA (GF.dw V) with
     |false=>rfl
     |true=>exact absurd ((l9 _).1 e) oA
    rw[hzV];conv=>whnf
    repeat ((first|refine Br.t ?_|refine Pk.f ?_);conv=>whnf)
    exact⟨rfl,⟨f7.fs,f6.kp.trans f7.kp⟩,.inr ⟨rfl,cL oA⟩⟩
  ·conv=>whnf
   repeat ((first|refine Br.t ?_|refine Pk.t ?_|refine CW.s ?_);conv=>whnf)
   exact⟨rfl,f6,.inr ⟨rfl,aaj hp an4 h1 (fun a0 a1 ha=>absurd ha (h2 a0 a1))⟩⟩
end
section
namespace GF
theorem agU:∀j,j<6->aT (tj 6) (pw j) 7=0:=by decide +kernel
theorem agV:tj 6 0=1:=by decide +kernel
attribute [local irreducible] GF.pw GF.lg GF.mul GF.inv GF.xt
theorem mP{W:Nat->Nat}(hW:∀i,W i<256){x:Nat}(hx:x<256)(m:Nat):∀n,aT W x (m+n)=mul (aT W x m) (gp x n) ^^^ aT (fun i=>W (m+i)) x n
 | 0=>by
  show aT W x m=mul (aT W x m) 1 ^^^ 0;rw[eY _ (fL hW x m),Nat.xor_zero]
 | n+1=>by
  have h1:=fL hW x m;have h2:=fL (fun i=>hW (m+i)) x n;show mul (aT W x (m+n)) x ^^^ W (m+n)=mul (aT W x m) (mul (gp x n) x) ^^^ (mul (aT (fun i=>W (m+i)) x n) x ^^^ W (m+n));rw[mP hW hx m n,gh (mul_lt h1) h2 hx,mul_assoc h1 (aad x n) hx,Nat.xor_assoc]
theorem wB{p q:Nat->Nat}(hp:∀j,p j<256)(hq:∀j,q j<256){x:Nat}(hx:x<256):∀n,aT (fun i=>p i ^^^ q i) x n=aT p x n ^^^ aT q x n
 |0=>(Nat.xor_self 0).symm
 | n+1=>by
  show mul (aT (fun i=>p i ^^^ q i) x n) x ^^^ (p n ^^^ q n)=(mul (aT p x n) x ^^^ p n) ^^^ (mul (aT q x n) x ^^^ q n);rw[wB hp hq hx n,gh (fL hp x n) (fL hq x n) hx,ajD]
theorem wC{q:Nat->Nat}(hq:∀j,q j<256){t x:Nat}(ht:t<256)(hx:x<256):∀n,aT (fun i=>mul t (q i)) x n=mul t (aT q x n)
 |0=>(dj t).symm
 | n+1=>by
  show mul (aT (fun i=>mul t (q i)) x n) x ^^^ mul t (q n)=mul t (mul (aT q x n) x ^^^ q n);rw[wC hq ht hx n,fB,mul_assoc ht (fL hq x n) hx]
def tz(i:Nat):Nat:=tj 6 (i+1)
theorem adu(i:Nat):tz i<256:=so 6 (i+1)
def ab9(R:Nat->Nat)(m:Nat)(i:Nat):Nat:=(if i<5 then R (i+1) else 0) ^^^ mul (R 0 ^^^ m) (tz i)
def jO(M:Nat->Nat):Nat->Nat->Nat
 |0,_=>0
 |k+1,i=>ab9 (jO M k) (M k) i
theorem adv{R:Nat->Nat}(hR:∀i,R i<256){m:Nat}(hm:m<256)(i:Nat):ab9 R m i<256:=by
 refine bo ?_ (mul_lt (bo (hR 0) hm));have:=hR (i+1);split<;>omega
theorem sr{M:Nat->Nat}(hM:∀i,M i<256):∀k i,jO M k i<256
 |0,i=>(by decide:0<256)
 |k+1,i=>adv (sr hM k) (hM k) i
theorem amf{j:Nat}(hj:j<6):gp (pw j) 6=aT tz (pw j) 6:=by
 have h:=agU j hj;have e:=mP (so 6) (bE j) 1 6;rw[show 1+6=7 from rfl,h] at e;have e1:aT (tj 6) (pw j) 1=1:=by
  show mul 0 (pw j) ^^^ tj 6 0=1;rw[bX,agV,Nat.zero_xor]
 have e2:(fun i=>tj 6 (1+i))=tz:=by
  funext i;unfold tz;rw[Nat.add_comm]
 rw[e1,e2,wg (aad _ _)] at e;exact xor_eq e.symm
theorem aeV{R:Nat->Nat}(hR:∀i,R i<256){m:Nat}(hm:m<256){j:Nat}(hj:j<6):aT (ab9 R m) (pw j) 6=mul (aT R (pw j) 6) (pw j) ^^^ mul m (gp (pw j) 6):=by
 have hx:=bE j;have hs:∀i,(if i<5 then R (i+1) else 0)<256:=fun i=>by
  have:=hR (i+1);split<;>omega
 have ht:R 0 ^^^ m<256:=bo (hR 0) hm;have e1:aT (ab9 R m) (pw j) 6=aT (fun i=>if i<5 then R (i+1) else 0) (pw j) 6 ^^^ mul (R 0 ^^^ m) (aT tz (pw j) 6):=by
  rw[<-wC adu ht hx 6, <-wB hs (fun i=>mul_lt ht) hx 6];rfl
 have hR':∀i,(if i<6 then R i else 0)<256:=fun i=>by
  have:=hR i;split<;>omega
 have e2:=mP hR' hx 1 6;have e3:aT (fun i=>if i<6 then R i else 0) (pw j) (1+6)=mul (aT R (pw j) 6) (pw j):=by
  show mul (aT (fun i=>if i<6 then R i else 0) (pw j) 6) (pw j) ^^^ 0=_;rw[Nat.xor_zero,ef _ (fun i hi=>if_pos hi)]
 have e4:aT (fun i=>if i<6 then R i else 0) (pw j) 1=R 0:=by
  show mul 0 (pw j) ^^^ R 0=R 0;rw[bX,Nat.zero_xor]
 have e5:aT (fun i=>if 1+i<6 then R (1+i) else 0) (pw j) 6=aT (fun i=>if i<5 then R (i+1) else 0) (pw j) 6:=ef _ (fun i _=>by
  by_cases h:i<5
  ·rw[if_pos h,if_pos (by omega),Nat.add_comm]
  ·rw[if_neg h,if_neg (by omega)])
 rw[e3,e4,e5] at e2;rw[e1,e2, <-amf hj,gh (hR 0) hm (aad _ _)];generalize mul (R 0) (gp (pw j) 6)=a;generalize mul m (gp (pw j) 6)=b;generalize aT _ (pw j) 6=c;rw[Nat.xor_comm a c,Nat.xor_assoc]
theorem wD{M:Nat->Nat}(hM:∀i,M i<256){j:Nat}(hj:j<6):∀k,aT (jO M k) (pw j) 6=mul (aT M (pw j) k) (gp (pw j) 6)
 | 0=>by
  have hx:=bE j;have:∀n,aT (fun _=>0) (pw j) n=0:=fun n=>by
   induction n with
   |zero=>rfl
   | succ n ih =>
    show mul (aT (fun _=>0) (pw j) n) (pw j) ^^^ 0=0;rw[ih,bX,Nat.xor_zero]
  exact(this 6).trans (bX _).symm
 | k+1=>by
  have hx:=bE j;have h1:=fL hM (pw j) k;have hg:=aad (pw j) 6;have e:aT (jO M (k+1)) (pw j) 6=aT (ab9 (jO M k) (M k)) (pw j) 6:=rfl;rw[e,aeV (sr hM k) (hM k) hj,wD hM hj k,kN,gh (mul_lt h1) (hM k) hg,mul_assoc h1 hg hx,mul_assoc h1 hx hg,mul_comm hg hx]
def lF(M:Nat->Nat)(i:Nat):Nat:=if i<58 then M i else jO M 58 (i-58)
theorem ss{M:Nat->Nat}(hM:∀i,M i<256)(i:Nat):lF M i<256:=by
 unfold lF;split
 ·exact hM i
 ·exact sr hM 58 _
theorem agW{M:Nat->Nat}(hM:∀i,M i<256):Ay (lF M):=fun j hj=>by
 have hx:=bE j;have e:=mP (ss hM) hx 58 6;have e1:aT (lF M) (pw j) 58=aT M (pw j) 58:=ef _ (fun i hi=>if_pos hi);have e2:aT (fun i=>lF M (58+i)) (pw j) 6=aT (jO M 58) (pw j) 6:=ef _ (fun i _=>by
  unfold lF;rw[if_neg (by omega),show 58+i-58=i by omega])
 rw[e1,e2,wD hM hj 58,Nat.xor_self] at e;exact e
end GF
end
section
open Go.RowKit
attribute [local irreducible] GF.pw GF.lg GF.mul GF.inv GF.xt
theorem adw(g:Nat)(w:World):(Instr.sliceAt 288 (.pointer (some ⟨g,0,none⟩)) none none none).run Tryz.prog w=.ok (.slice (some ⟨g,0,none⟩) 6 6) w:=by kernel_rfl
theorem agX(g:Nat)(w:World):(Instr.sliceAt 288 (.pointer (some ⟨g,0,none⟩)) (some (.int .i64 1)) none none).run Tryz.prog w=.ok (.slice (some ⟨g,1,none⟩) 5 5) w:=by kernel_rfl
theorem agY(w:World):(Instr.makeSlice 37 (.int .i64 0) (.int .i64 64)).run Tryz.prog w=.ok (.slice (some ⟨w.heap.size,0,none⟩) 0 64) (w.alloc (.cells (madeCells #[.int .u8 0] 64) 5)):=by kernel_rfl
theorem Own.apP{w0 w:World}(k:Aa [] w0 w)(f:Nat->Int):Own w0 (w.alloc (.cells (madeCells #[.int .u8 0] 64) 5)) (some ⟨w.heap.size,0,none⟩) 0 64 f :=
 ⟨(Ly.dh (Row.made w 5 (.int .u8 0) 64) (by omega) (by omega) (by simp[maxLen])).congr (fun j hj=>by omega),fun x hx=>by rw[List.mem_singleton.1 hx];exact k.size,k.alloc _⟩
def aal(M:Nat->Nat)(k:Nat):Nat->Value:=fun i=>.int .u8 (GF.jO M k i:Nat)
def shR(R:Nat->Nat)(i:Nat):Nat:=if i<5 then R (i+1) else 0
theorem an5(M:Nat->Nat)(k:Nat)(i:Nat)(hi:i<6):put (lay (aal M k) 0 5 (fun j=>aal M k (1+j))) 5 (.int .u8 0) i=.int .u8 (shR (GF.jO M k) i:Nat):=by
 unfold put lay shR;by_cases h:i=5
 ·rw[if_pos h,if_neg (by omega)];rfl
 ·rw[if_neg h,if_pos (by omega),if_pos (by omega)];show aal M k (1+(i-0))=_;rw[show 1+(i-0)=i+1 by omega];rfl
def vI(R:Nat->Nat)(m n i:Nat):Nat:=if i<n then GF.ab9 R m i else shR R i
theorem su{R:Nat->Nat}{m n i:Nat}(h:i<n):vI R m n i=GF.ab9 R m i:=if_pos h
theorem sw{R:Nat->Nat}{m n i:Nat}(h:¬i<n):vI R m n i=shR R i:=if_neg h
theorem aj3{R:Nat->Nat}(hR:∀i,R i<256){m:Nat}(hm:m<256)(n i:Nat):vI R m n i<256:=by
 unfold vI shR;have h1:=GF.adv hR hm i;have h2:=hR (i+1);split
 ·exact h1
 ·split<;>omega
theorem agZ(R:Nat->Nat)(m n i:Nat):put (fun i=>Value.int .u8 (vI R m n i:Nat)) n (.int .u8 ((vI R m n n ^^^ GF.mul (R 0 ^^^ m) (GF.tz n):Nat):Int)) i=.int .u8 (vI R m (n+1) i:Nat):=by
 unfold put;by_cases h:i=n
 ·subst h;rw[if_pos rfl,sw (by omega),su (by omega)];rfl
 ·rw[if_neg h];by_cases h2:i<n
  ·simp only[su h2,su (show i<n+1 by omega)]
  ·simp only[sw h2,sw (show ¬i<n+1 by omega)]
theorem amg(w:World)(c g h d:Nat)(A:Option Addr)(M:Nat->Nat)(hM:∀j,M j<256)(r:AH w A 58 M)(hd:58<=d)(hA:∀a,A=some a->a.block≠g)(H:A8 w c g h) :
  Spec Tryz.prog 204 #[.pointer (some ⟨c,0,none⟩),.slice A 58 d] w fun v w'=>FK w g w'/\∃b e,w.heap.size<=b/\v=.tuple #[.slice (some ⟨b,0,none⟩) 64 e,ak 0]/\Wd w' b e (GF.lF M):=by
 refine spec_of_wpE (T:=tt) ah func204 rfl (by decide +kernel) ntmps204 (by simp) ?_;conv=>whnf
 repeat ((first|refine Br.f ?_|refine CW.s ?_);conv=>whnf)
 refine Ru.aF (n:=6) (s:=fun _=>.int .u8 0) (yv _) ?_;intro rg w1 hrg du rs k1;have gl:=H.fs.lt;have cl:=H.row.lt;have hl:=H.gen.lt;have C1:=H.aj k1 (by simp) (by simp) (by simp);have f1:FK w g w1:=⟨C1.fs,k1.mono (by simp)⟩;conv=>whnf
 repeat (refine CW.s ?_;conv=>whnf)
 have hAr:∀a,A=some a->a.block<w.heap.size:=fun a e=>by
  obtain⟨b,o,e2,hc⟩:=r (by omega);rw[e] at e2
  cases e2
  exact aI (hc 0 (by omega))
 have ct:rg≠g/\rg≠c/\rg≠h:=⟨by omega,by omega,by omega⟩;refine CW.loop (ι:=Nat) (fun i w'=>i<=58/\FK w g w'/\A8 w' c g h/\AH w' A 58 M/\Row w' rg 288 6 (aal M i)) (fun i=>[(0,.pointer (some ⟨c,0,none⟩)),(1,.slice A 58 d),(6,.pointer (some ⟨rg,0,none⟩)),(16,.slice A 58 d),(17,.int .i64 58),(18,.int .i64 i)]) (fun i=>58-i) 0 ah ⟨by omega,f1,C1,r.aj k1,rs.congr (fun _ _=>rfl)⟩ ⟨rfl,rfl,rfl,rfl,rfl,rfl,trivial⟩ ?_;clear f1 C1 rs k1;rintro i wr ⟨hi,fk,C,ra,rs⟩;by_cases av:i<58
 ·have hMi:=hM i;have hRl:=GF.sr hM i;have apQ:fZ .xor .u8 (GF.jO M i 0:Nat) (M i:Nat)=((GF.jO M i 0 ^^^ M i:Nat):Int):=bR (hRl 0) hMi;obtain⟨b,o,rfl,hc⟩:=ra (by omega);have hci:=hc i av;have l0:wr.cell? ⟨rg,0,none⟩=some (.int .u8 (GF.jO M i 0:Nat)):=rs.cell 0 (by omega);have hbr:b≠rg:=by
   have:=hAr _ rfl;simp only at this;omega
  conv=>whnf
  repeat ((first|refine Ix.n ?_|refine Ix.i ?_|refine Br.y ?_|refine Ld.of (by assumption) ?_|refine CW.s ?_);conv=>whnf)
  rw[apQ];have htl:GF.jO M i 0 ^^^ M i<256:=GF.bo (hRl 0) hMi;refine CW.held (fun w'=>True) [] (.take 0 (.take 1 (.one 2 (.done)))) ah (by kernel_rfl) (by kernel_rfl) (by kernel_rfl) ?_ ?_
  ·trivial
  conv=>whnf
  repeat ((first|(refine Ad.of (fun w _=>adw rg w) ?_)|(refine Ad.of (fun w _=>agX rg w) ?_));conv=>whnf)
  have fk:=fk.kp.drewN 1;replace rs:=rs.drewN 1;replace C:=C.drewN 1;replace ra:AH (wr.drewN 1) (some ⟨b,o,none⟩) 58 M:=ra.aj ((Aa.refl _ _).drewN 1);generalize wr.drewN 1=w2 at *;refine Bu.copy (s:=fun j=>aal M i (1+j)) underlying37 (by kernel_rfl) rs (some ⟨rg,1,none⟩) 5 5 5 (by decide) (fun _=>⟨rg,1,rfl,fun j hj=>rs.cell (1+j) (by omega)⟩) (fun e=>by cases e) (by omega) (fun j _=>rfl) ?_;intro w3 rs3 k3;have C3:=C.aj k3 (by simpa using ct.2.1.symm) (by simpa using ct.1.symm) (by simpa using ct.2.2.symm);have fk3:FK w g w3:=⟨C3.fs,fk.then k3 (fun x hx=>.inr (by rw[List.mem_singleton.1 hx];omega))⟩;have ra3:AH w3 (some ⟨b,o,none⟩) 58 M:=ra.ab k3 (fun a e=>by cases e;simpa using hbr);conv=>whnf
  repeat ((first|refine HS.t ?_|refine Ix.i ?_);conv=>whnf)
  refine Sd.rowAt rs3 5 (by rfl) (by omega) rfl ?_;intro w4 rs4 k4;have C4:=C3.aj k4 (by simpa using ct.2.1.symm) (by simpa using ct.1.symm) (by simpa using ct.2.2.symm);have fk4:FK w g w4:=⟨C4.fs,fk3.kp.then k4 (fun x hx=>.inr (by rw[List.mem_singleton.1 hx];omega))⟩;have ra4:AH w4 (some ⟨b,o,none⟩) 58 M:=ra3.ab k4 (fun a e=>by cases e;simpa using hbr);replace rs4:Row w4 rg 288 6 (fun j=>.int .u8 (vI (GF.jO M i) (M i) 0 j:Nat)):=rs4.congr (fun j hj=>(an5 M i j hj).trans (by rw[sw (by omega)]));clear C3 fk3 ra3 rs3 k3 k4 rs C fk ra;conv=>whnf
  repeat ((refine Ld.row C4.row (by decide) ?_);conv=>whnf)
  refine CW.loop (ι:=Nat) (fun k w'=>k<=6/\FK w g w'/\A8 w' c g h/\AH w' (some ⟨b,o,none⟩) 58 M/\Row w' rg 288 6 (fun j=>.int .u8 (vI (GF.jO M i) (M i) k j:Nat))) (fun k=>[(0,.pointer (some ⟨c,0,none⟩)),(1,.slice (some ⟨b,o,none⟩) 58 d),(6,.pointer (some ⟨rg,0,none⟩)),(9,.int .u8 (GF.jO M i 0 ^^^ M i:Nat)),(16,.slice (some ⟨b,o,none⟩) 58 d),(17,.int .i64 58),(18,.int .i64 i),(33,.slice (some ⟨h,1,none⟩) 6 6),(34,.int .i64 6),(35,.int .i64 k)]) (fun k=>6-k) 0 ah ⟨by omega,fk4,C4,ra4,rs4⟩ ⟨rfl,rfl,rfl,rfl,rfl,rfl,rfl,rfl,rfl,rfl,trivial⟩ ?_;clear fk4 C4 ra4 rs4;rintro k wq ⟨hk,fk,C,ra,rs⟩;by_cases alZ:k<6
  ·have lg:wq.cell? ⟨h,1+k,none⟩=some (.int .u8 (GF.tz k:Nat)):=by
    have:=C.gen.cell (1+k) (by omega);unfold GF.tz;rw[Nat.add_comm] at this ⊢;exact this
   have qm:=GF.adu k;have hml:=aj3 hRl hMi k k;have hmx:=GF.mul_lt (a:=GF.jO M i 0 ^^^ M i) (b:=GF.tz k) htl;conv=>whnf
   repeat ((first|refine Ix.n ?_|refine Br.y ?_|refine Ld.of (by assumption) ?_|refine CW.s ?_);conv=>whnf)
   refine CW.held (fun w'=>Row w' c 297 2 (vF g h)/\Row w' rg 288 6 (fun j=>.int .u8 (vI (GF.jO M i) (M i) k j:Nat))) [12] (.take 0 (.take 1 (.take 2 (.take 3 (.take 4 (.take 5 (.take 6 (.take 7 (.take 8 (.one 9 (.take 10 (.take 11 (.one 12 (.done)))))))))))))) ah (by kernel_rfl) (by kernel_rfl) (by kernel_rfl) ?_ ?_
   ·exact⟨C.row.drewN 1,rs.drewN 1⟩
   replace fk:FK w g (wq.drewN 1):=⟨fk.fs.drewN 1,fk.kp.drewN 1⟩;replace C:=C.drewN 1;replace rs:=rs.drewN 1;replace ra:AH (wq.drewN 1) (some ⟨b,o,none⟩) 58 M:=ra.aj ((Aa.refl _ _).drewN 1);clear lg;generalize wq.drewN 1=w5 at *;conv=>whnf
   repeat ((first|(refine Ah.at (j:=k) (by omega) (fun _ h=>h.2.cell k (by omega)) ?_)|(refine Ah.row (fun _ h=>h.1) (by decide) ?_)|refine Ix.n ?_);conv=>whnf)
   refine Ca.anY fk (GF.jO M i 0 ^^^ M i) (GF.tz k) htl qm ?_;intro w6 fk6 f6;have C6:=C.of f6;have rs6:=rs.ab f6.kp (by simpa using ct.1);have ra6:AH w6 (some ⟨b,o,none⟩) 58 M:=ra.ab f6.kp (by simpa using hA);conv=>whnf
   refine⟨⟨C6.row,rs6⟩,?_⟩;conv=>whnf
   repeat (refine Ix.n ?_;conv=>whnf)
   rw[bR hml hmx];refine Sd.rowAt rs6 k (by omega) (by omega) rfl ?_;intro w7 rs7 k7;conv=>whnf
   repeat (refine Ar.la ?_;conv=>whnf)
   have C7:=C6.aj k7 (by simpa using ct.2.1.symm) (by simpa using ct.1.symm) (by simpa using ct.2.2.symm);exact⟨k+1,⟨by omega,⟨C7.fs,fk6.kp.then k7 (fun x hx=>.inr (by rw[List.mem_singleton.1 hx];omega))⟩,C7,ra6.ab k7 (fun a e=>by cases e;simpa using hbr),rs7.congr (fun j _=>agZ _ _ _ _)⟩,⟨rfl,rfl,rfl,rfl,rfl,rfl,rfl,rfl,rfl,rfl,trivial⟩,by simp only;omega⟩
  ·obtain rfl:k=6:=by omega
   conv=>whnf
   repeat ((first|refine Br.f ?_|refine Ar.la ?_|refine CW.s ?_);conv=>whnf)
   exact⟨i+1,⟨by omega,fk,C,ra,rs.congr (fun j hj=>by simp only[su hj];rfl)⟩,⟨rfl,rfl,rfl,rfl,rfl,rfl,trivial⟩,by simp only;omega⟩
 ·obtain rfl:i=58:=by omega
  conv=>whnf
  repeat ((first|refine Br.f ?_|refine CW.s ?_);conv=>whnf)
  refine CW.held (fun w'=>True) [] (.take 1 (.take 3 (.one 0 (.one 2 (.one 4 (.take 5 (.take 6 (.done)))))))) ah (by kernel_rfl) (by kernel_rfl) (by kernel_rfl) ?_ ?_
  ·trivial
  replace fk:FK w g (wr.drewN 1):=⟨fk.fs.drewN 1,fk.kp.drewN 1⟩;replace C:=C.drewN 1;replace rs:=rs.drewN 1;replace ra:AH (wr.drewN 1) A 58 M:=ra.aj ((Aa.refl _ _).drewN 1);generalize wr.drewN 1=w2 at *;conv=>whnf
  repeat ((refine Ad.of (fun w _=>adw rg w) ?_);conv=>whnf)
  refine Ru.of (agY _) ?_;have O1:=Own.apP (Aa.refl [] w2) (fun _=>0);have ra3:AH (w2.alloc (.cells (madeCells #[.int .u8 0] 64) 5)) A 58 M:=ra.aj O1.ab;conv=>whnf
  repeat (refine HS.t ?_;conv=>whnf)
  refine Bu.grow O1 (fun j=>(M j:Int)) ra3 hd (fun e=>by
   obtain⟨b,o,e2,_⟩:=r (by omega);rw[e] at e2
   cases e2) (by omega) ?_
  intro Y e w3 O2 k2;have rs3:=Row.ab rs O2.ab (by simp);conv=>whnf
  repeat (refine HS.t ?_;conv=>whnf)
  refine Bu.grow O2 (fun j=>(GF.jO M 58 j:Int)) (m:=6) (fun _=>⟨rg,0,rfl,fun j hj=>by rw[Nat.zero_add];exact rs3.cell j hj⟩) (by omega) (fun e=>by cases e) (by omega) ?_;intro Y e2 w4 O3 k3;obtain⟨b,rfl,-,-⟩:=O3.ly.zv (j:=0) (by omega);have hb:=O3.new b (List.mem_singleton.2 rfl);have kp:=O3.ab;conv=>whnf
  repeat (refine HS.t ?_;conv=>whnf)
  refine⟨rfl,⟨C.fs.aj kp,fk.kp.trans (kp.mono (by simp))⟩,b,e2,Nat.le_trans fk.kp.size hb,rfl,O3.ly.congr (fun j hj=>?_)⟩;unfold GF.lF;by_cases h1:j<58
  ·simp[h1]
  ·simp[h1]
end
section
open Go.RowKit
attribute [local irreducible] GF.pw GF.lg GF.mul GF.inv GF.xt
theorem Ad.amh{P:Program}{C:World->Prop}{t e:TypeId}{b o n c l h:Nat}{x y:Int}{K:Value->Prop}(ex:x=(l:Int))(ey:y=(h:Int))(hu:P.underlying t=some (.slice e))(hs:kF P e 1=true)(hl:l<=h)(hh:h<=c)(hc:l<c)(k:K (.slice (some ⟨b,o+l,none⟩) (h-l) (c-l))) :
  Ad P C (Instr.sliceAt t (.slice (some ⟨b,o,none⟩) n c) (some (.int .i64 x)) (some (.int .i64 y)) none) K:=by
 subst ex ey;exact Ad.adt hu hs hl hh hc k
structure Frm(w:World)(f c g h:Nat):Prop where
 row:Row w f 274 1 (fun _=>.pointer (some ⟨c,0,none⟩))
 iB:A8 w c g h
 fg:f≠g
theorem Frm.of{w w':World}{f c g h:Nat}(H:Frm w f c g h)(k:FK w g w'):Frm w' f c g h:=⟨H.row.ab k.kp (by simpa using H.fg),H.iB.of k,H.fg⟩
theorem Frm.aj{S:List Nat}{w w':World}{f c g h:Nat}(H:Frm w f c g h)(k:Aa S w w')(hf:f∉S)(hc:c∉S)(hg:g∉S)(hh:h∉S):Frm w' f c g h:=⟨H.row.ab k hf,H.iB.aj k hc hg hh,H.fg⟩
theorem Frm.drewN{w:World}{f c g h:Nat}(H:Frm w f c g h)(n:Nat):Frm (w.drewN n) f c g h:=H.aj ((Aa.refl [] w).drewN n) (by simp) (by simp) (by simp) (by simp)
def gk(p:Nat->Nat)(k:Nat):Nat->Nat:=fun i=>p (k*64+i)
theorem ag0(w:World)(f c g h d:Nat)(A:Option Addr)(p:Nat->Nat)(hp:∀j,p j<256)(r:AH w A 256 p)(hd:256<=d)(hA:∀a,A=some a->a.block≠g)(H:Frm w f c g h)(k:Nat)(hk:k<4) :
  Spec Tryz.prog 166 #[.pointer (some ⟨f,0,none⟩),.slice A 256 d,.int .i64 k] w (BN w g (gk p k)):=by
 obtain⟨b,o,rfl,hc⟩:=r (by omega);have hbg:b≠g:=hA _ rfl;refine spec_of_wpE (T:=tt) ah func166 rfl (by decide +kernel) ntmps166 (by simp) ?_;conv=>whnf
 repeat ((first|refine Br.f ?_|refine Pk.f ?_|refine Br.n ?_|refine CW.s ?_);conv=>whnf)
 refine CW.held (fun w'=>Row w' f 274 1 (fun _=>.pointer (some ⟨c,0,none⟩))) [] (.take 0 (.take 1 (.take 2 (.take 3 (.take 4 (.take 5 (.take 6 (.take 7 (.take 8 (.take 9 (.take 10 (.one 11 (.take 12 (.take 13 (.take 14 (.take 15 (.take 16 (.take 17 (.done))))))))))))))))))) ah (by kernel_rfl) (by kernel_rfl) (by kernel_rfl) ?_ ?_
 ·exact H.row.drewN 1
 have H1:=H.drewN 1;have r1:AH (w.drewN 1) (some ⟨b,o,none⟩) 256 p:=r.aj ((Aa.refl _ _).drewN 1);conv=>whnf
 repeat ((first|(refine Ah.row (fun _ h=>h) (by decide) ?_)|(refine Ad.amh (l:=k*64) (h:=k*64+64) (by omega) (by omega) underlying37 pj (by omega) (by omega) (by omega) ?_)|refine Ar.la ?_);conv=>whnf)
 have rk:AH (w.drewN 1) (some ⟨b,o+k*64,none⟩) 64 (gk p k):=fun _=>⟨b,o+k*64,rfl,fun j hj=>by
  have:=hc (k*64+j) (by omega);rw[<-Nat.add_assoc] at this;exact this⟩
 have f1:FK w g (w.drewN 1):=⟨H1.iB.fs,(Aa.refl _ _).drewN 1⟩;have hks:k*64+64-k*64=64:=by omega
 rw[hks];refine Ca.of (agT (w.drewN 1) c g h (d-k*64) (some ⟨b,o+k*64,none⟩) (gk p k) (fun j=>hp _) rk (by omega) (fun a e=>by cases e;exact hbg) H1.iB) ?_;rintro v w2 ⟨f2,hv⟩;have f12:FK w g w2:=⟨f2.fs,f1.kp.trans f2.kp⟩;have H2:=H1.of f2;rcases hv with⟨b2,e2,V,qk,hV,oA,yB,rfl,hwd⟩|⟨rfl,cL⟩
 ·conv=>whnf
  refine⟨H2.row,?_⟩;conv=>whnf
  exact⟨rfl,f12,.inl ⟨b2,e2,V,qk,hV,oA,yB,rfl,hwd⟩⟩
 ·conv=>whnf
  refine⟨H2.row,?_⟩;conv=>whnf
  exact⟨rfl,f12,.inr ⟨rfl,cL⟩⟩
theorem Spec.aca{P:Program}{f:FuncId}{args:Array Value}{w:World}{Ψ:Ending->World->Prop}{Φ:Value->World->Prop}(hf:abG P f=true)(h:Calls P f args w Ψ)(k:∀e w',Ψ e w'->∃v,e=.returned v/\Φ v w'):Spec P f args w Φ:=⟨hf,h.mono k⟩
def bB(V:Nat->Nat):Nat->Int:=fun j=>(V j:Int)
def Cc(w:World)(g:Nat)(p:Nat->Nat)(v:Value)(w':World):Prop :=
 FK w g w'/\((∃X V,(∀x,x∈aR X->w.heap.size<=x)/\(∀i,V i<256)/\GF.Ay V/\GF.cm V (gk p 3)<=2/\Ap (bB V)/\v=.tuple #[.slice X 50 50,.int .i64 (GF.cm V (gk p 3):Nat),ak 0]/\Ly w' 5 1 X 50 50 (fun j=>.int .u8 (V j:Nat))) \/
  (∃e,(e=5\/e=6)/\v=.tuple #[.slice none 0 0,.int .i64 0,ak e]/\∀C:Nat->Nat,(∀i,C i<256)->GF.Ay C->GF.cm C (gk p 3)<=2->¬Ap (bB C)))
theorem wE{C V p:Nat->Nat}(hC:∀i,C i<256)(hV:∀i,V i<256)(cC:GF.Ay C)(cV:GF.Ay V)(h:GF.cm C p+GF.cm V p<=6):∀i,i<64->C i=V i:=GF.agC hC hV cC cV (by
 have:=GF.aaf C p V;rw[GF.iA p V] at this;omega)
theorem aj4(A:Option Addr)(c:Nat)(f:Nat->Int)(w:World)(r:Rd w A 58 (fun j=>.int .u8 (f j)))(hc:58<=c)(hf:∀j,0<=f j/\f j<=255) :
  Spec Tryz.prog 191 #[.slice A 58 c] w fun v w'=>(Ap f/\∃X,v=.tuple #[.slice X 50 50,ak 0]/\Ly w' 5 1 X 50 50 (fun j=>.int .u8 (f j))/\(∀x,x∈aR X->w.heap.size<=x)/\Aa [] w w')\/(¬Ap f/\v=.tuple #[.slice none 0 0,ak 6]/\Aa [] w w') :=
 Spec.aca (by kernel_rfl) (agh A c f w r hc hf) fun e w' h=>by
  rcases h with⟨hm,X,rfl,h1,h2,h3⟩|⟨hm,rfl,h3⟩
  ·exact⟨_,rfl,.inl ⟨hm,X,rfl,h1,h2,h3⟩⟩
  ·exact⟨_,rfl,.inr ⟨hm,rfl,h3⟩⟩
theorem aj5(w:World)(f c g h d:Nat)(A:Option Addr)(p:Nat->Nat)(hp:∀j,p j<256)(r:AH w A 256 p)(hd:256<=d)(hA:∀a,A=some a->a.block≠g)(H:Frm w f c g h) :
  Spec Tryz.prog 167 #[.pointer (some ⟨f,0,none⟩),.slice A 256 d] w (Cc w g p):=by
 refine spec_of_wpE (T:=tt) ah func167 rfl (by decide +kernel) ntmps167 (by simp) ?_;conv=>whnf
 refine Ca.of (ag0 w f c g h d A p hp r hd hA H 3 (by omega)) ?_;rintro v w2 ⟨f2,hv⟩;have H2:=H.of f2;rcases hv with⟨b,e,V,hb,hV,oA,yB,rfl,hwd⟩|⟨rfl,cL⟩
 ·have r2:Rd w2 (some ⟨b,0,none⟩) 58 (fun j=>.int .u8 (bB V j)):=Rd.oR hwd.u9 (by omega);conv=>whnf
  repeat ((first|refine Br.f ?_|refine Ru.ai ?_|refine CW.s ?_);conv=>whnf)
  refine Ca.of (aj4 (some ⟨b,0,none⟩) 58 (bB V) w2 r2 (by omega) (fun j=>by have:=hV j;unfold bB;omega)) ?_;rintro v w3 hv;rcases hv with⟨hm,X,rfl,xZ,hX,k3⟩|⟨hm,rfl,k3⟩
  ·conv=>whnf
   repeat ((first|refine Br.f ?_|refine Ru.ai ?_|refine CW.s ?_);conv=>whnf)
   exact⟨rfl,⟨f2.fs.aj k3,f2.kp.trans (k3.mono (by simp))⟩,.inl ⟨X,V,fun x hx=>Nat.le_trans f2.kp.size (hX x hx),hV,oA,yB,hm,rfl,xZ⟩⟩
  ·conv=>whnf
   repeat ((first|refine Br.t ?_|refine Ru.n1 ?_|refine CW.s ?_);conv=>whnf)
   refine⟨rfl,⟨f2.fs.aj k3,f2.kp.trans (k3.mono (by simp))⟩,.inr ⟨6,.inr rfl,rfl,fun C hC cC hdC hmC=>hm (fun j hj=>?_)⟩⟩;have e:=wE hC hV cC oA (p:=gk p 3) (by omega) (50+j) (by omega);have:=hmC j hj;unfold bB at this ⊢;rw[<-e];exact this
 ·conv=>whnf
  repeat ((first|refine Br.t ?_|refine Ru.n1 ?_|refine CW.s ?_);conv=>whnf)
  exact⟨rfl,f2,.inr ⟨5,.inl rfl,rfl,fun C hC cC hdC=>by have:=cL C hC cC;omega⟩⟩
end
section
open Go.RowKit
structure CO(F:Fence)(P:Program):Prop where
 fn:∀f,F.fn f
 depth:F.depth=none
 calls:∀ {m f args w R},Calls P f args w R->CallsIn F m P f args w R
theorem jP{P:Program}:CO Fence.wide P:=⟨fun _=>trivial,rfl,fun h=>callsIn_wide.2 h⟩
theorem iC{P:Program}(l:Nat):CO (Fence.wide.inRound l) P:=⟨fun _=>trivial,rfl,fun h=>CallsIn.inRound l (callsIn_wide.2 h)⟩
def QD(n:Nat)(Q:Exit->Fr->List Deferred->World->Prop):Exit->Act->World->Prop:=fun e a w=>adf e/\∃f ds,As n f a ds/\Q e f ds w
structure A5(F:Fence)(m:Nat)(P:Program)(n:Nat)(c:Code)(Q:Exit->Fr->List Deferred->World->Prop)(f:Fr)(ds:List Deferred)(w:World):Prop where
 go:∀a,As n f a ds->Code.wpIn F m P c (QD n Q) a w
def wpI(F:Fence)(m:Nat)(P:Program)(T:TT)(n:Nat)(c:Code):Fr->List Deferred->World->(Exit->Fr->List Deferred->World->Prop)->Prop :=
 Code.rec (motive:=fun _=>Fr->List Deferred->World->(Exit->Fr->List Deferred->World->Prop)->Prop)
  (fun f ds w Q=>Q .normal f ds w)
  (fun id ops d f ds w Q=>match d with
   |false=>iH P T n ops.toList ops.toList f w fun f w=>Q .normal f ds w
   |true=>A5 F m P n (.region id ops true) Q f ds w)
  (fun a b iha ihb f ds w Q=>cond (qT a) (A5 F m P n (.seq a b) Q f ds w) (iha f ds w fun e f ds w=>(match e with
    |.normal=>ihb f ds w Q
    |e=>Q e f ds w)))
  (fun c _ _ iha ihb f ds w Q=>fu f c fun v=>(match v with
   |.bool t=>Br t (iha f ds w Q) (ihb f ds w Q)
   |_=>False))
  (fun id _ ih f ds w Q=>ih f ds w fun e f ds w=>(match e with
   |.exit i=>cond (Nat.beq i id) (Q .normal f ds w) (Q (.exit i) f ds w)
   |e=>Q e f ds w))
  (fun c _ f ds w Q=>A5 F m P n (.loop c) Q f ds w)
  (fun g ps a b _ _ f ds w Q=>A5 F m P n (.rangeFunc g ps a b) Q f ds w)
  (fun id f ds w Q=>Q (.exit id) f ds w)
  (fun _ _ _ _ _ _=>False)
  (fun _ f ds w Q=>Q .normal f ds w)
  (fun _ _ _ _ _=>False)
  (fun f ds w Q=>Q .ret f ds w)
  (fun _ _ _ _ _=>False) c
theorem aj6(F:Fence)(m:Nat)(P:Program)(T:TT)(n:Nat)(x y:Code)(f:Fr)(ds:List Deferred)(w:World)(Q:Exit->Fr->List Deferred->World->Prop):wpI F m P T n (.seq x y) f ds w Q=cond (qT x) (A5 F m P n (.seq x y) Q f ds w) (wpI F m P T n x f ds w fun e f ds w=>(match e with
    |.normal=>wpI F m P T n y f ds w Q
    |e=>Q e f ds w)):=rfl
section sound
variable{P:Program}{T:TT}{n m:Nat}{F:Fence}{ds:List Deferred}
theorem Bb.wpIn(hF:CO F P){o:Oper}{a:Act}{w:World}{N:Act->World->Prop}{Q':Exit->Act->World->Prop}(h:Bb P o a w N):o.wpIn F m P a w N Q':=by
 obtain⟨hd,h⟩:=h;refine⟨fun f _=>hF.fn f,?_⟩;rw[Oper.semAt_eq _ _ _ hd];rcases h with⟨v,w',h,hn⟩|⟨w',h,hn⟩|⟨f,args,w1,h,hc⟩
 ·rw[h];exact hn
 ·rw[h];exact hn
 ·rw[h,Oper.uponIn_enter];refine⟨fun e=>(by rw[hF.depth] at e;cases e),hF.calls (hc.mono fun e w' ⟨v,he,hk⟩=>?_)⟩;subst he;exact hk
theorem fN(hT:TT.ok P T=true)(hF:CO F P){ops:Array Oper}{Q:Exit->Act->World->Prop}:∀(l:List Oper) {f:Fr} {w:World} {K:Fr->World->Prop} {a:Act},iH P T n ops.toList l f w K->As n f a ds ->
  (∀f' a' w',K f' w'->As n f' a' ds->Q .normal a' w')->wpListIn F m P ops Q l a w
 | [],f,w,K,a,h,ha,hQ=>hQ _ _ _ h ha
 | o::l,f,w,K,a,h,ha,hQ=>by
  rw[sN] at h;split at h
  ·rename_i hg
   have hw:Region.wanted o (yielded ops a.tmps)=true:=by simp[Region.wanted,hg]
   unfold wpListIn;rw[if_pos hw];refine(Bb.wpIn hF (xN hT h ha fun v w' hk=>?_));obtain⟨f',mI,lM⟩:=cx hk ha;exact fN hT hF l lM mI hQ
  ·rename_i j b hg
   obtain⟨oj,hj,h⟩:=cw h;split at h
   ·rename_i t ht
    obtain⟨vg,hvg,h⟩:=kE h;have u7:=ha.get t vg hvg;split at h
    ·rename_i g
     have hy:yielded ops a.tmps j=some g:=by
      have hj':ops[j]?=some oj:=by simpa using hj
      unfold yielded;simp only[hj',Option.bind_some,ht,getD_some u7]
     unfold wpListIn;have h:Br (g == b) (cond (Nat.ble n t) False (rO P T o ((t,.bool b)::f) w fun v w'=>pt n ((t,.bool b)::f) o.dst v fun f'=>iH P T n ops.toList l f' w' K))
       (cond (Nat.ble n t) False (pt n ((t,.bool (!b))::f) o.dst undef fun f'=>iH P T n ops.toList l f' w K)):=by
      cases b with
      |true=>exact⟨fun hb=>Br.tt h (by simpa using hb),fun hb=>Br.ff h (by simpa using hb)⟩
      |false=>exact⟨fun hb=>Br.ff h (by simpa using hb),fun hb=>Br.tt h (by simpa using hb)⟩
     by_cases sP:(g == b)=true
     ·have hw:Region.wanted o (yielded ops a.tmps)=true:=by
       simp only[Region.wanted,hg,hy];simpa using sP
      rw[if_pos hw];have h:=h.tt sP
      cases hb:Nat.ble n t with
      |true=>rw[hb] at h;exact h.elim
      | false =>
       rw[hb] at h;simp only[cond_false] at h;have mI:=ha.cons t (.bool b) (by rw[u7];simpa using sP);refine(Bb.wpIn hF (xN hT h mI fun v w' hk=>?_));obtain⟨f',gX,lM⟩:=cx hk mI;exact fN hT hF l lM gX hQ
     ·have zH:(g == b)=false:=by simpa using sP
      have hw:¬Region.wanted o (yielded ops a.tmps)=true:=by
       simp only[Region.wanted,hg,hy];simpa using sP
      rw[if_neg hw];refine⟨fun f _=>hF.fn f,?_⟩;have h:=h.ff zH
      cases hb:Nat.ble n t with
      |true=>rw[hb] at h;exact h.elim
      | false =>
       rw[hb] at h;simp only[cond_false] at h;have mI:=ha.cons t (.bool (!b)) (by rw[u7];congr 1;revert zH;cases g<;>cases b<;>simp);obtain⟨f',gX,lM⟩:=cx h mI;exact fN hT hF l lM gX hQ
    ·rename_i vs
     have hw:¬Region.wanted o (yielded ops a.tmps)=true:=by
      rw[ig hg hj ht u7];simp
     unfold wpListIn;rw[if_neg hw];refine⟨fun f _=>hF.fn f,?_⟩;obtain⟨f',gX,lM⟩:=cx h ha;exact fN hT hF l lM gX hQ
    ·exact h.elim
   ·exact h.elim
theorem eH(hT:TT.ok P T=true)(hF:CO F P):∀(c:Code) {f:Fr} {ds:List Deferred} {w:World} {Q:Exit->Fr->List Deferred->World->Prop} {a:Act},wpI F m P T n c f ds w Q->As n f a ds->Code.wpIn F m P c (QD n Q) a w
 |.skip,f,ds,w,Q,a,h,ha=>wpIn_skip ⟨trivial,f,ds,ha,h⟩
 | .region id ops d,f,ds,w,Q,a,h,ha=>by
  cases d with
  |false=>exact wpIn_region_list (fN hT hF ops.toList h ha fun f' a' w' hk hf=>⟨trivial,f',ds,hf,hk⟩)
  |true=>exact A5.go h a ha
 | .seq x y,f,ds,w,Q,a,h,ha=>by
  rw[aj6] at h
  cases hj:qT x with
  | true =>
   rw[hj] at h;exact A5.go h a ha
  | false =>
   rw[hj] at h;simp only[cond_false] at h;refine wpIn_seq (wpIn_mono (eH hT hF x h ha) fun e a' w' ⟨np,f',ds',hf,hq⟩=>?_)
   cases e with
   |normal=>exact eH hT hF y hq hf
   |_=>exact⟨np,f',ds',hf,hq⟩
 | .cond c x y,f,ds,w,Q,a,h,ha=>by
  have h:fu f c fun v=>(match v with
   |.bool t=>Br t (wpI F m P T n x f ds w Q) (wpI F m P T n y f ds w Q)
   |_=>False):=h;have h:=al h ha;split at h
  ·rename_i t hc
   cases t with
   |true=>exact wpIn_cond_true hc (eH hT hF x (h.tt rfl) ha)
   |false=>exact wpIn_cond_false hc (eH hT hF y (h.ff rfl) ha)
  ·exact h.elim
 | .block id c,f,ds,w,Q,a,h,ha=>by
  have h:wpI F m P T n c f ds w fun e f ds w=>(match e with
   |.exit i=>cond (Nat.beq i id) (Q .normal f ds w) (Q (.exit i) f ds w)
   |e=>Q e f ds w):=h;refine wpIn_block (wpIn_mono (eH hT hF c h ha) fun e a' w' ⟨np,f',ds',hf,hq⟩=>?_)
  cases e with
  | exit i =>
   simp only[Exit.inBlock];by_cases hi:i=id
   ·subst hi;simp only[if_true];have hb:Nat.beq i i=true:=Nat.beq_refl i;simp only[hb] at hq;exact⟨trivial,f',ds',hf,hq⟩
   ·simp only[if_neg hi];have hb:Nat.beq i id=false:=by
     cases hb:Nat.beq i id with
     |true=>exact absurd (Nat.eq_of_beq_eq_true hb) hi
     |false=>rfl
    simp only[hb] at hq;exact⟨trivial,f',ds',hf,hq⟩
  |_=>exact⟨np,f',ds',hf,hq⟩
 |.loop c,f,ds,w,Q,a,h,ha=>A5.go h a ha
 |.rangeFunc ..,f,ds,w,Q,a,h,ha=>A5.go h a ha
 |.exit id,f,ds,w,Q,a,h,ha=>wpIn_exit ⟨trivial,f,ds,ha,h⟩
 |.scope c,f,ds,w,Q,a,h,ha=>h.elim
 |.label l,f,ds,w,Q,a,h,ha=>wpIn_label ⟨trivial,f,ds,ha,h⟩
 |.goto l,f,ds,w,Q,a,h,ha=>h.elim
 |.ret,f,ds,w,Q,a,h,ha=>wpIn_ret ⟨trivial,f,ds,ha,h⟩
 |.refuse s,f,ds,w,Q,a,h,ha=>h.elim
theorem A5.seq{x y:Code}{f:Fr}{ds:List Deferred}{w:World}{Q:Exit->Fr->List Deferred->World->Prop}(hT:TT.ok P T=true)(hF:CO F P) (h:wpI F m P T n x f ds w fun e f ds w=>(match e with
  |.normal=>wpI F m P T n y f ds w Q
  |e=>Q e f ds w)):A5 F m P n (.seq x y) Q f ds w:=⟨fun a ha=>by
 refine wpIn_seq (wpIn_mono (eH hT hF x h ha) fun e a' w' ⟨np,f',ds',hf,hq⟩=>?_)
 cases e with
 |normal=>exact eH hT hF y hq hf
 |_=>exact⟨np,f',ds',hf,hq⟩⟩
def aam:List Deferred->World->World->Prop
 | [],w,w2=>w2=w
 | [d],w,w2=>∃D,d={ target:=.collected D,args := #[] }/\w.heap[D]?=some (.deferred (some []))/\w2=w.putObj D (.deferred none)
 |_,_,_=>False
def acb(P:Program)(rs:List ResultVar)(Φ:Value->World->Prop)(f:Fr)(ds:List Deferred)(w:World):Prop:=∃w2,aam ds w w2/\zK P rs f w2 fun vs w'=>w'=w2/\Φ (oneOf vs) w'
theorem spec_of_wpI {fid : FuncId} {fn : Func} {c : Code} {args : List Value} {w : World} {Φ : Value → World → Prop} (m : Nat) (hT : TT.ok P T = true) (hf : P.funcs[fid]? = some fn) (hb : fn.body = some c) (hnm : (fn.name == "runtime.NumGoroutine") = false) (hn : fn.ntmps = n) (ha : args.length ≤ n)
  (h:wpI Fence.wide m P T n c (fr0 0 args) [] w fun e f ds w=>(match e with
   |.normal=>acb P fn.results.toList Φ f ds w
   |.ret=>acb P fn.results.toList Φ f ds w
   |_=>False)):Spec P fid args.toArray w Φ:=by
 refine⟨by simp[abG,hf,hb,hnm],?_⟩;refine(callsIn_wide (n:=m)).1 (callsIn_of_wp_marks hf hb trivial ?_ rfl);have alF:As n (fr0 0 args) { tmps:=args.toArray++Array.replicate (fn.ntmps-args.toArray.size) undef,defers:=[] }:=by
  refine⟨by simp[hn];omega,rfl,fun d v hd=>?_⟩;obtain⟨_,h1⟩:=xO args 0 d v hd;simp only[Nat.sub_zero] at h1;rw[Array.getD_eq_getD_getElem?,Array.getElem?_append_left (by simpa using(List.getElem?_eq_some_iff.1 h1).1)];simp[h1]
 have res:∀(f:Fr) (a:Act) (ds:List Deferred) (w:World),As n f a ds->(zK P fn.results.toList f w fun vs w'=>w'=w/\Φ (oneOf vs) w')->∃v,(results fn a.tmps).run P w=.ok v w/\∃u,Ending.returned v=.returned u/\Φ u w:=by
  intro f a ds w vX hr;have apR:As n f { a with defers:=[] }:=⟨vX.size,rfl,vX.get⟩;obtain⟨vs,w',h1,rfl,h2⟩:=kH apR (g:=fun x=>match x with | .tmp t=>pure (a.tmps.getD t undef) | .cell b t=>do loadVar t (<-asAddr (a.tmps.getD b undef))) (fun _=>rfl) (fun _ _=>rfl) hr;refine⟨oneOf vs,?_,_,rfl,h2⟩;have e:results fn a.tmps=(do
   let vs <-fn.results.mapM (fun x=>match x with | .tmp t=>pure (a.tmps.getD t undef) | .cell b t=>do loadVar t (<-asAddr (a.tmps.getD b undef)):ResultVar->Sem Value)
   pure (if h:vs.size=1 then vs[0] else .tuple vs)):=rfl
  rw[e,Array.mapM_eq_mapM_toList];simp only[map_eq_pure_bind,Sem.run_bind,Sem.run_pure];rw[h1];simp only[Result.andThen_ok]
  cases vs with
  |nil=>simp[oneOf]
  | cons v vs=>cases vs with
   |nil=>simp[oneOf]
   |cons u vs=>simp[oneOf]
 have key:∀(f:Fr) (ds:List Deferred) (a:Act) (w:World),As n f a ds->acb P fn.results.toList Φ f ds w->LeavesInM Fence.wide m P fn a.tmps (fun e w'=>∃v,e=.returned v/\Φ v w') a.defers .returning w:=by
  intro f ds a w vX ⟨w2,ht,hr⟩;have hd:=vX.defers
  match ds,ht with
  | [],ht =>
   obtain rfl:w2=w:=ht;rw[hd];exact res f a _ _ vX hr
  | [d],ht =>
   obtain⟨D,rfl,hD,rfl⟩:=ht;rw[hd];exact⟨by simp,.inl ⟨D,_,rfl,run_takeDeferred hD,res f a _ _ vX hr⟩⟩
 refine wpIn_mono (eH hT jP c h alF) fun e a w' ⟨np,f,ds,vX,hq⟩=>?_
 cases e with
 |normal=>exact key f ds a w' vX hq
 |ret=>exact key f ds a w' vX hq
 |_=>exact hq.elim
def ami{α:Type}(B:Nat)(Kp:World->World->Prop)(I:List α->World->Prop)(Ix:List α->World->Prop)(xs:List α)(W:World):Exit->Fr->List Deferred->World->Prop
 |.normal,_,_,W'=>KeepsFrom B W W'/\Kp W W'/\I xs W'
 |.ret,_,_,W'=>KeepsFrom B W W'/\Ix xs W'
 |_,_,_,_=>False
theorem A5.range{α:Type}{g:Operand}{ps:Array Tmp}{assign body:Code}{f:Fr}{ds:List Deferred}{w:World}{Q:Exit->Fr->List Deferred->World->Prop}(hT:TT.ok P T=true)(h1:1<=m){gf:Nat}{lb:Array Value}(hg:fu f g fun v=>v=.func (.func gf) #[] lb)(eg:∀args w,(callFunc gf args).run P w=.ok (.enter gf args) w)
  {amj:α->Array Value} {Kp:World->World->Prop} {S Sp:List α->Prop} {N:Nat} (pk:SeqStopsK Fence.wide (m-1) P gf lb amj Kp S Sp N w)
  (hKt:∀ {A B C:World},Kp A B->Kp B C->Kp A C) (hKb:∀(W:World) (l:Nat) (o o':Obj),w.heap.size<=l->W.heap[l]?=some o->o.isCells=false->o.isWalk=false->Kp W (W.putObj l o')) (hps:∀x,(amj x).size=ps.size)
  (I:List α->World->Prop) (Ix:List α->World->Prop) (hI:OwnFrom w.heap.size I) (hIx:OwnFrom w.heap.size Ix) (h0:I [] w) (a₁:Act->α->Act) (fb:α->Fr) (vX:∀a x,As n f a ds->As n (fb x) (a₁ a x))
  (aj7:∀(a:Act),As n f a ds->∀(l:Nat) (x:α) (W:World) (K:Act->World->Prop),K (a₁ a x) W ->
   assign.wpIn (Fence.wide.inRound l) (m-1-1) P (Exit.then K (fun _ _ _=>False)) { tmps:=(ps.zip (amj x)).foldl (fun t (p,v)=>t.setIfInBounds p v) a.tmps,defers:=[] } W)
  (an6:∀(l:Nat) (pre:List α) (x:α) (W:World),I pre W->pre.length<N->wpI (Fence.wide.inRound l) (m-1-1) P T n body (fb x) [] W (ami w.heap.size Kp I Ix (pre++[x]) W))
  (adx:∀(D:Nat) (xs:List α) (W:World),w.heap.size<=D->S xs->I xs W->W.heap[D]?=some (.deferred (some []))->Q .normal f ({ target:=.collected D,args := #[] }::ds) W)
  (an7:∀(D:Nat) (pre:List α) (W:World),w.heap.size<=D->Sp pre->Ix pre W->W.heap[D]?=some (.deferred (some []))->Q .ret f ({ target:=.collected D,args := #[] }::ds) W) :
  A5 Fence.wide m P n (.rangeFunc g ps assign body) Q f ds w:=⟨fun a ha=>by
 have u7:a.eval g=.func (.func gf) #[] lb:=al hg ha;have hup:∀D,As n f { a with defers:={ target:=.collected D,args := #[] }::a.defers } ({ target:=.collected D,args := #[] }::ds):=fun D=>⟨ha.size,by rw[<-ha.defers],ha.get⟩
 refine wpIn_rangeFunc_ownG rfl h1 u7 trivial eg pk hKt hKb (Below.refl _ _) hps I (fun c pre W=>c=.ret/\Ix pre W) hI
  (fun c s W W' row hs hgr hr=>⟨hs.1,hIx s W W' row hs.2 hgr hr⟩) h0 (a₁ a) (aj7 a ha)
  (fun l pre x W hi hl=>wpIn_mono (eH hT (iC l) body (an6 l pre x W hi hl) (vX a x ha)) fun e a' W' ⟨np,f',ds',hf,hq⟩=>?_)
  (fun D xs W hD hS hi hK=>⟨trivial,f,_,hup D,adx D xs W hD hS hi hK⟩)
  (fun D c pre W hD hS hi hK=>?_)
 ·cases e with
  |normal=>exact hq
  |ret=>exact⟨hq.1,rfl,hq.2⟩
  |_=>exact hq.elim
 ·obtain⟨rfl,hi⟩:=hi;exact wpIn_ret ⟨trivial,f,_,hup D,an7 D pre W hD hS hi hK⟩⟩
end sound
end
section
open Go.RowKit Go.Shelf
attribute [local go_sem] Oper.semAt_some
def B6(xb xs:Nat)(W W':World):Prop:=W'.cell? ⟨xb,0,none⟩=W.cell? ⟨xb,0,none⟩/\W'.cell? ⟨xs,0,none⟩=W.cell? ⟨xs,0,none⟩
theorem B6.trans{xb xs:Nat}{A B C:World}(h:B6 xb xs A B)(k:B6 xb xs B C):B6 xb xs A C:=⟨k.1.trans h.1,k.2.trans h.2⟩
def pcs(N:Nat)(hN:0<N)(j:Nat):Fin N:=⟨min j (N-1),by omega⟩
def upto(N:Nat)(hN:0<N)(k:Nat):List (Fin N):=(List.range k).map (pcs N hN)
theorem mQ(N:Nat)(hN:0<N)(k:Nat):upto N hN (k+1)=upto N hN k++[pcs N hN k]:=by simp[upto,List.range_succ]
theorem dF(N:Nat)(hN:0<N)(k:Nat):(upto N hN k).length=k:=by simp[upto]
theorem wF(w:World)(A:Option Addr)(n c:Nat)(sz:Int):Spec Tryz.prog 193 #[.slice A n c,.int .i64 sz] w fun v w'=>v=.func (.func 209) #[] #[.pointer (some ⟨w.heap.size+1,0,none⟩),.pointer (some ⟨w.heap.size,0,none⟩)]/\w'=(w.alloc (.cells #[.slice A n c] 37)).alloc (.cells #[.int .i64 sz] 3):=by
 refine⟨by kernel_rfl,?_⟩
 go_enter func193,ntmps193
 go_wp2
 go_ret
 exact⟨_,rfl,rfl,rfl⟩
def aan(b o c:Nat)(x:Fin 3):Array Value := #[.int .i64 (x.1:Int),.slice (some ⟨b,o+x.1*64,none⟩) ((x.1+1)*64-x.1*64) (c-x.1*64)]
theorem aao(F:Fence)(n:Nat)(h7:F.fn 209)(ma:F.round=none)(hn:1<=n)(l xb xs b o c:Nat)(hc:192<=c)(J Jx:List (Fin 3)->World->Prop)
  (hY:∀pre x W,J pre W->pre.length<3->YieldAt F (n-1) Tryz.prog l (aan b o c x) W fun e W' =>
   (e=.returned (.bool true)/\J (pre++[x]) W'/\B6 xb xs W W')\/(e=.returned (.bool false)/\Jx (pre++[x]) W'))
  (W:World) (hB:W.cell? ⟨xb,0,none⟩=some (.slice (some ⟨b,o,none⟩) 192 c)) (hS:W.cell? ⟨xs,0,none⟩=some (.int .i64 64)) (h0:J [] W) :
  CallsIn F n Tryz.prog 209 #[.func (.yield l) #[] #[],.pointer (some ⟨xs,0,none⟩),.pointer (some ⟨xb,0,none⟩)] W fun e W'=>(∃v,e=.returned v) /\
   ((∃ys,ys=upto 3 (by decide) 3/\J ys W')\/(∃pre,(∃k,k<=3/\pre=upto 3 (by decide) k)/\Jx pre W')):=by
 refine callsIn_of_wp func209 rfl h7 ?_ ma;simp only[ntmps209,List.size_toArray,List.length_cons,List.length_nil,Nat.reduceAdd,Nat.reduceSub,Array.replicate_succ,Array.replicate_zero,List.push_toArray,List.append_toArray,List.nil_append,List.cons_append]
 gi_wp2
 gi_loopw [4] (fun i wr=>∃k:Nat,k<=3/\i=.int .i64 k/\J (upto 3 (by decide) k) wr/\wr.cell? ⟨xb,0,none⟩=some (.slice (some ⟨b,o,none⟩) 192 c)/\wr.cell? ⟨xs,0,none⟩=some (.int .i64 64))
  (fun i _=>3-(intOf i).toNat)
 case atStart=>exact⟨0,Nat.zero_le _,rfl,h0,hB,hS⟩
 case round =>
  obtain⟨k,hk,rfl,hJs,hB,hS⟩:=hrel;by_cases av:k<3
  ·obtain⟨fn,tmps,assign,body,hy,hR⟩:=hY _ (pcs 3 (by decide) k) wr hJs (by rw[dF];exact av);have hp:(pcs 3 (by decide) k).1=k:=by show min k (3-1)=k;omega
   unfold aan at hy;rw[hp] at hy
   gi_wp2
   refine hR.mono ?_;rintro e W3 (⟨rfl,hJ3,hk3⟩|⟨rfl,amk⟩)
   ·gi_wp2
    go_roundw
    case rel=>exact⟨k+1,by omega,by simp,by rw[mQ];exact hJ3,hk3.1.trans hB,hk3.2.trans hS⟩
    case measure=>simp[intOf];omega
   ·gi_wp2
    refine bodyPost_ret (results_none rfl _ _ _) rfl ?_;exact⟨⟨_,rfl⟩,.inr ⟨_,⟨k+1,by omega,(mQ _ _ _).symm⟩,amk⟩⟩
  ·obtain rfl:k=3:=by omega
   gi_wp2
   go_end0
   exact⟨⟨_,rfl⟩,.inl ⟨_,rfl,hJs⟩⟩
theorem acd(k:Nat)(hk:k<=3):upto 3 (by decide) k <+: upto 3 (by decide) 3:=by
 have h:∀k,k<=3->upto 3 (by decide) k <+: upto 3 (by decide) 3:=by decide
 exact h k hk
theorem tA(F:Fence)(n:Nat)(h7:F.fn 209)(ma:F.round=none)(hn:1<=n)(xb xs b o c:Nat)(hc:192<=c)(w:World)(po:xb<w.heap.size)(hxs:xs<w.heap.size)
  (hB:w.cell? ⟨xb,0,none⟩=some (.slice (some ⟨b,o,none⟩) 192 c)) (hS:w.cell? ⟨xs,0,none⟩=some (.int .i64 64)) :
  SeqStopsK F n Tryz.prog 209 #[.pointer (some ⟨xs,0,none⟩),.pointer (some ⟨xb,0,none⟩)] (aan b o c) (B6 xb xs) (fun ys=>ys=upto 3 (by decide) 3) (fun pre=>pre <+: upto 3 (by decide) 3) 3 w:=fun l J Jx W hW _ _ hY h0=>by
 have hB':=(hW.cell (p:=⟨xb,0,none⟩) po).trans hB;have hS':=(hW.cell (p:=⟨xs,0,none⟩) hxs).trans hS;refine(aao F n h7 ma hn l xb xs b o c hc J Jx hY W hB' hS' h0).mono ?_;rintro e W' ⟨he,⟨ys,rfl,hj⟩|⟨pre,⟨k,hk,rfl⟩,hj⟩⟩
 ·exact⟨he,.inl ⟨_,rfl,hj⟩⟩
 ·exact⟨he,.inr ⟨_,acd k hk,hj⟩⟩
def aap(b o c:Nat)(x:Fin 4):Array Value := #[.int .i64 (x.1:Int),.slice (some ⟨b,o+x.1*58,none⟩) ((x.1+1)*58-x.1*58) (c-x.1*58)]
theorem aaq(F:Fence)(n:Nat)(h7:F.fn 209)(ma:F.round=none)(hn:1<=n)(l xb xs b o c:Nat)(hc:232<=c)(J Jx:List (Fin 4)->World->Prop)
  (hY:∀pre x W,J pre W->pre.length<4->YieldAt F (n-1) Tryz.prog l (aap b o c x) W fun e W' =>
   (e=.returned (.bool true)/\J (pre++[x]) W'/\B6 xb xs W W')\/(e=.returned (.bool false)/\Jx (pre++[x]) W'))
  (W:World) (hB:W.cell? ⟨xb,0,none⟩=some (.slice (some ⟨b,o,none⟩) 232 c)) (hS:W.cell? ⟨xs,0,none⟩=some (.int .i64 58)) (h0:J [] W) :
  CallsIn F n Tryz.prog 209 #[.func (.yield l) #[] #[],.pointer (some ⟨xs,0,none⟩),.pointer (some ⟨xb,0,none⟩)] W fun e W'=>(∃v,e=.returned v) /\
   ((∃ys,ys=upto 4 (by decide) 4/\J ys W')\/(∃pre,(∃k,k<=4/\pre=upto 4 (by decide) k)/\Jx pre W')):=by
 refine callsIn_of_wp func209 rfl h7 ?_ ma;simp only[ntmps209,List.size_toArray,List.length_cons,List.length_nil,Nat.reduceAdd,Nat.reduceSub,Array.replicate_succ,Array.replicate_zero,List.push_toArray,List.append_toArray,List.nil_append,List.cons_append]
 gi_wp2
 gi_loopw [4] (fun i wr=>∃k:Nat,k<=4/\i=.int .i64 k/\J (upto 4 (by decide) k) wr/\wr.cell? ⟨xb,0,none⟩=some (.slice (some ⟨b,o,none⟩) 232 c)/\wr.cell? ⟨xs,0,none⟩=some (.int .i64 58))
  (fun i _=>4-(intOf i).toNat)
 case atStart=>exact⟨0,Nat.zero_le _,rfl,h0,hB,hS⟩
 case round =>
  obtain⟨k,hk,rfl,hJs,hB,hS⟩:=hrel;by_cases av:k<4
  ·obtain⟨fn,tmps,assign,body,hy,hR⟩:=hY _ (pcs 4 (by decide) k) wr hJs (by rw[dF];exact av);have hp:(pcs 4 (by decide) k).1=k:=by show min k (4-1)=k;omega
   unfold aap at hy;rw[hp] at hy
   gi_wp2
   refine hR.mono ?_;rintro e W3 (⟨rfl,hJ3,hk3⟩|⟨rfl,amk⟩)
   ·gi_wp2
    go_roundw
    case rel=>exact⟨k+1,by omega,by simp,by rw[mQ];exact hJ3,hk3.1.trans hB,hk3.2.trans hS⟩
    case measure=>simp[intOf];omega
   ·gi_wp2
    refine bodyPost_ret (results_none rfl _ _ _) rfl ?_;exact⟨⟨_,rfl⟩,.inr ⟨_,⟨k+1,by omega,(mQ _ _ _).symm⟩,amk⟩⟩
  ·obtain rfl:k=4:=by omega
   gi_wp2
   go_end0
   exact⟨⟨_,rfl⟩,.inl ⟨_,rfl,hJs⟩⟩
theorem ace(k:Nat)(hk:k<=4):upto 4 (by decide) k <+: upto 4 (by decide) 4:=by
 have h:∀k,k<=4->upto 4 (by decide) k <+: upto 4 (by decide) 4:=by decide
 exact h k hk
theorem tB(F:Fence)(n:Nat)(h7:F.fn 209)(ma:F.round=none)(hn:1<=n)(xb xs b o c:Nat)(hc:232<=c)(w:World)(po:xb<w.heap.size)(hxs:xs<w.heap.size)
  (hB:w.cell? ⟨xb,0,none⟩=some (.slice (some ⟨b,o,none⟩) 232 c)) (hS:w.cell? ⟨xs,0,none⟩=some (.int .i64 58)) :
  SeqStopsK F n Tryz.prog 209 #[.pointer (some ⟨xs,0,none⟩),.pointer (some ⟨xb,0,none⟩)] (aap b o c) (B6 xb xs) (fun ys=>ys=upto 4 (by decide) 4) (fun pre=>pre <+: upto 4 (by decide) 4) 4 w:=fun l J Jx W hW _ _ hY h0=>by
 have hB':=(hW.cell (p:=⟨xb,0,none⟩) po).trans hB;have hS':=(hW.cell (p:=⟨xs,0,none⟩) hxs).trans hS;refine(aaq F n h7 ma hn l xb xs b o c hc J Jx hY W hB' hS' h0).mono ?_;rintro e W' ⟨he,⟨ys,rfl,hj⟩|⟨pre,⟨k,hk,rfl⟩,hj⟩⟩
 ·exact⟨he,.inl ⟨_,rfl,hj⟩⟩
 ·exact⟨he,.inr ⟨_,ace k hk,hj⟩⟩
end
section
open Go.RowKit
attribute [local irreducible] GF.pw GF.lg GF.mul GF.inv GF.xt
theorem aeW(w:World)(t:TypeId)(v:Value):Row (w.alloc (.cells #[v] t)) w.heap.size t 1 (fun _=>v):=Row.nZ (heap_alloc_new w _) (by simp[Array.range,Array.ofFn_succ])
theorem Ru.qn{P:Program}{w:World}{s:Sem Value}{t:TypeId}{v:Value}{K:Value->World->Prop}(h:s.run P w=.ok (.pointer (some ⟨w.heap.size,0,none⟩)) (w.alloc (.cells #[v] t)))(k:∀g w',g=w.heap.size->w'.heap.size=w.heap.size+1->Row w' g t 1 (fun _=>v)->Aa [] w w'->K (.pointer (some ⟨g,0,none⟩)) w'):Ru P s w K :=
 ⟨_,_,h,k _ _ rfl (by simp) (aeW w t v) ((Aa.refl _ _).alloc _)⟩
theorem ady(a:Addr)(w:World):(Instr.box 248 (.pointer (some a))).run Tryz.prog w=.ok (.pointer (some ⟨w.heap.size,0,none⟩)) (w.alloc (.cells #[.pointer (some a)] 248)):=by kernel_rfl
theorem ag1(w:World):(Instr.alloc 51 true (.tuple #[])).run Tryz.prog w=.ok (.pointer (some ⟨w.heap.size,0,none⟩)) (w.alloc (.cells #[.slice none 0 0] 51)):=by kernel_rfl
theorem adz(w:World):(Instr.alloc 33 true (.tuple #[])).run Tryz.prog w=.ok (.pointer (some ⟨w.heap.size,0,none⟩)) (w.alloc (.cells #[.nilIface] 33)):=by kernel_rfl
def iO(D B:Nat->Nat):Nat->Nat:=fun j=>if j<174 then D j else if j<224 then B (j-174) else (jm (j-224)).toNat
def lB(q:Nat->Nat)(k:Nat):Nat->Nat:=fun i=>q (k*58+i)
theorem aj8(A:Option Addr)(c:Nat)(f:Nat->Int)(w:World)(r:Rd w A 50 (fun j=>.int .u8 (f j))):Spec Tryz.prog 203 #[.slice A 50 c] w fun v w'=>v=.tuple #[.slice (some ⟨w.heap.size,0,none⟩) 58 58,ak 0]/\Row w' w.heap.size 5 58 (fun j=>.int .u8 (wc f j))/\Aa [] w w' :=
 Spec.aca (by kernel_rfl) (ajA A c f w r) fun e w' h=>by
  obtain⟨rfl,h1,h2⟩:=h;exact⟨_,rfl,rfl,h1,h2⟩
theorem qp(i:Nat):((jm i).toNat:Int)=jm i:=by
 have h:0<=jm i:=by
  by_cases hi:i<8
  ·have:∀i,i<8->0<=jm i:=by decide
   exact this i hi
  ·unfold jm;rw[List.getD_eq_getElem?_getD,List.getElem?_eq_none (by simp;omega)];decide
 omega
theorem ag2(D B:Nat->Nat)(j:Nat):(if j<174 then bB D j else wc (bB B) (j-174))=(iO D B j:Int):=by
 unfold iO wc bB;by_cases h1:j<174
 ·rw[if_pos h1,if_pos h1]
 ·rw[if_neg h1,if_neg h1];by_cases h2:j<224
  ·rw[if_pos (by omega),if_pos h2]
  ·rw[if_neg (by omega),if_neg h2,qp,show j-174-50=j-224 by omega]
theorem ag3(A:Option Addr)(n c:Nat)(w:World):(Instr.buildSlice 51 1 #[(0,.slice A n c)]).run Tryz.prog w=.ok (.slice (some ⟨w.heap.size,0,none⟩) 1 1) (w.alloc (.cells #[.slice A n c] 37)):=by kernel_rfl
theorem aj9:(Tryz.prog.info? 37).map (fun i=>(i.zero,i.size,i.bytes))=some (some (.slice none 0 0),1,24):=by kernel_rfl
theorem aK{W:World}{x:Nat}{t:TypeId}{n:Nat}{F:Nat->Value}(r:Row W x t n F):∀o,W.heap[x]?=some o->o.isCells=true:=fun o h=>by
 rw[r] at h
 cases h
 rfl
theorem jQ{W:World}{t:TypeId}{s n c:Nat}{A:Option Addr}{F:Nat->Value}(r:Ly W t s A n c F):∀x,x∈aR A->∀o,W.heap[x]?=some o->o.isCells=true:=fun x hx o h=>by
 cases A with
 |none=>cases hx
 | some a =>
  obtain⟨b,cur,fr,rfl,hh,_⟩:=r.2.2.2 a rfl;obtain rfl:=List.mem_singleton.1 hx;rw[hh] at h
  cases h
  rfl
theorem FS.cells{W:World}{g:Nat}(r:FS W g):∀o,W.heap[g]?=some o->o.isCells=true:=by
 rcases r with r|r
 ·exact aK r
 ·exact aK r
theorem bD{S:List Nat}{W W':World}(B:Nat)(k:Aa S W W')(h:∀x,x∈S->∀o,W.heap[x]?=some o->o.isCells=true):KeepsFrom B W W':=⟨k.size,fun i o _ hi ho=>by
 have hl:=(Array.getElem?_eq_some_iff.1 hi).1;rw[k.block i hl (fun hx=>by rw[h i hx o hi] at ho;cases ho)];exact hi⟩
structure CQ(w:World)(N0 f c g h xf xr xe xo qb e:Nat)(q:Nat->Nat)(pre:List (Fin 4))(W:World):Prop where
 sz:N0<=W.heap.size
 fk:FK w g W
 jf:Frm W f c g h
 rxf:Row W xf 248 1 (fun _=>.pointer (some ⟨f,0,none⟩))
 vJ:Row W xr 51 1 (fun _=>.slice none 0 0)
 yC:Row W xe 33 1 (fun _=>.nilIface)
 rq:Ly W 5 1 (some ⟨qb,0,none⟩) 232 e (fun j=>.int .u8 (q j:Nat))
 out:∃(O:Option Addr) (oc:Nat) (bk ek:Nat->Nat),Row W xo 51 1 (fun _=>.slice O pre.length oc)/\Ly W 37 1 O pre.length oc (fun k=>.slice (some ⟨bk k,0,none⟩) 64 (ek k))/\(∀x,x∈aR O->N0<=x)/\∀k (hk:k<pre.length),w.heap.size<=bk k/\Wd W (bk k) (ek k) (GF.lF (lB q pre[k].1))
theorem Ru.ldc{P:Program}{w:World}{t:TypeId}{a:Addr}{v:Value}{K:Value->World->Prop}(hc:dV P t=true)(h:w.cell? a=some v)(k:K v w):Ru P (loadVar t a) w K:=⟨v,w,oP hc h,k⟩
def CI(w:World)(g:Nat)(q:Nat->Nat)(v:Value)(w':World):Prop :=
 FK w g w'/\∃(O:Option Addr) (oc:Nat) (bk ek:Nat->Nat),v=.tuple #[.slice O 4 oc,ak 0]/\Ly w' 37 1 O 4 oc (fun k=>.slice (some ⟨bk k,0,none⟩) 64 (ek k))/\∀k,k<4->w.heap.size<=bk k/\Wd w' (bk k) (ek k) (GF.lF (lB q k))
theorem an8:∀k (hk:k<4),((upto 4 (by decide) 4)[k]'(by rw[dF];exact hk)).1=k:=by decide
theorem ag4(i:Nat):(jm i).toNat<256:=by
 by_cases hi:i<8
 ·have:∀i,i<8->(jm i).toNat<256:=by decide
  exact this i hi
 ·unfold jm;rw[List.getD_eq_getElem?_getD,List.getElem?_eq_none (by simp;omega)];decide
theorem px{D B:Nat->Nat}(hD:∀j,D j<256)(hB:∀j,B j<256)(j:Nat):iO D B j<256:=by
 unfold iO;split
 ·exact hD j
 ·split
  ·exact hB _
  ·exact ag4 _
def Ao(W:World)(r:Nat):Prop:=∃o:Obj,W.heap[r]?=some o/\o.isCells=false
theorem Ao.ne{W:World}{r x:Nat}{t:TypeId}{n:Nat}{F:Nat->Value}(h:Ao W r)(k:Row W x t n F):x≠r:=fun e=>by
 obtain⟨o,h1,h2⟩:=h;subst e;rw[k] at h1
 cases h1
 cases h2
theorem Ao.aml{W:World}{r:Nat}{t:TypeId}{s n c:Nat}{A:Option Addr}{F:Nat->Value}(h:Ao W r)(k:Ly W t s A n c F):∀x,x∈aR A->x∉[r]:=fun x hx e=>by
 obtain⟨o,h1,h2⟩:=h
 cases A with
 |none=>cases hx
 | some a =>
  obtain⟨b,cur,fr,rfl,hh,_⟩:=k.2.2.2 a rfl;obtain rfl:=List.mem_singleton.1 hx;rw[List.mem_singleton.1 e,h1] at hh
  cases hh
  cases h2
theorem gm{W W':World}{row:Option Nat}(g:W.grownBy W' row):Aa row.toList W W':=(Aa.refl _ W).grown g (fun k e=>.inl (by rw[e];simp))
theorem amm(w:World)(f c g h dd db:Nat)(A X:Option Addr)(D B:Nat->Nat)(hD:∀j,D j<256)(hB:∀j,B j<256)(rD:AH w A 174 D)(rB:AH w X 50 B)(hdd:174<=dd)(H:Frm w f c g h) :
  Spec Tryz.prog 186 #[.pointer (some ⟨f,0,none⟩),.slice A 174 dd,.slice X 50 db] w (CI w g (iO D B)):=by
 refine spec_of_wpI (T:=tt) 3 ah func186 rfl (by decide +kernel) ntmps186 (by simp) ?_;have hAn:A=none->dd=0:=fun e=>by
  obtain⟨b,o,e2,_⟩:=rD (by omega);rw[e] at e2
  cases e2
 conv=>whnf
 refine Ru.qn (ady _ _) ?_;intro xf w1 hxf du rxf k1;conv=>whnf
 refine Ru.qn (ag1 _) ?_;intro xr w2 hxr fE vJ k2;conv=>whnf
 refine Ru.qn (adz _) ?_;intro xe w3 hxe gG yC k3;have amn:=(k1.trans k2).trans k3;conv=>whnf
 repeat ((first|(refine A5.seq ah jP ?_)|refine Br.f ?_);conv=>whnf)
 refine Ca.of (aj8 X db (bB B) w3 (rB.aj amn)) ?_;rintro _ w4 ⟨rfl,rs4,k4⟩;conv=>whnf
 repeat ((first|(refine A5.seq ah jP ?_)|refine Br.f ?_|refine Ru.ai ?_);conv=>whnf)
 refine Ru.qn (ag1 _) ?_;intro xo w5 hxo wu rxo k5;have k45:=k4.trans k5;have k35:=amn.trans k45;conv=>whnf
 repeat ((refine A5.seq ah jP ?_);conv=>whnf)
 refine Bu.grow (Own.start w5 (fun _=>0)) (bB D) (rD.aj k35) hdd hAn (by omega) ?_;intro Y1 e1 w6 O1 k6;conv=>whnf
 refine Bu.grow O1 (wc (bB B)) (Rd.dh (Row.ab (Row.ab rs4 k5 (by simp)) O1.ab (by simp)) (Nat.le_refl _)) (by omega) (fun e=>by cases e) (by omega) ?_;intro Y2 e2 w7 O2 k7;obtain⟨qb,rfl,-,-⟩:=O2.ly.zv (j:=0) (by omega);have hqb:=O2.new qb (List.mem_singleton.2 rfl);have rq:Ly w7 5 1 (some ⟨qb,0,none⟩) 232 e2 (fun j=>.int .u8 (iO D B j:Nat)):=O2.ly.congr (fun j hj=>by
  rw[<-ag2];by_cases h1:j<174
  ·simp[h1]
  ·simp[h1])
 have k57:=O2.ab;have k37:=k35.trans k57;clear O1 O2 k6 k7;conv=>whnf
 refine Ca.of (wF w7 _ _ _ _) ?_;rintro _ w8 ⟨rfl,hw8⟩;conv=>whnf
 have aq2:w3.heap.size=w.heap.size+3:=by omega
 have aq3:=k35.size;have aq4:=k57.size;have apE:=(amn.trans k4).size;have aq5:=k4.size;have qm:=H.iB.fs.lt;have hs7:=k37.size;have apS:w8.heap.size=w7.heap.size+2:=by rw[hw8];simp
 have rb:Row w8 w7.heap.size 37 1 (fun _=>.slice (some ⟨qb,0,none⟩) 232 e2):=by
  rw[hw8];exact(aeW w7 _ _).ab ((Aa.refl [] _).alloc _) (by simp)
 have rs:Row w8 (w7.heap.size+1) 3 1 (fun _=>.int .i64 58):=by
  rw[hw8];have:=aeW (w7.alloc (.cells #[.slice (some ⟨qb,0,none⟩) 232 e2] 37)) 3 (.int .i64 58);simpa using this
 have k78:Aa [] w7 w8:=by
  rw[hw8];exact((Aa.refl [] _).alloc _).alloc _
 clear hw8;have k08:=k37.trans k78;have hec:232<=e2:=rq.1;have yD:CQ w w8.heap.size f c g h xf xr xe xo qb e2 (iO D B) [] w8:=by
  have H8:=H.aj k08 (by simp) (by simp) (by simp) (by simp);have k5e:Aa [] w5 w8:=k57.trans k78;have k2e:Aa [] w2 w8:=k3.trans (k45.trans k5e);exact⟨Nat.le_refl _,⟨H8.iB.fs,k08.mono (by simp)⟩,H8,rxf.ab (k2.trans k2e) (by simp),vJ.ab k2e (by simp),yC.ab (k45.trans k5e) (by simp),rq.aj k78,none,0,fun _=>0,fun _=>0,rxo.ab k5e (by simp),Ly.nil _ _ _ _,(fun x hx=>by cases hx),fun i hi=>absurd hi (by simp)⟩
 refine A5.range (α:=Fin 4) ah (by omega) (gf:=209) (lb := #[.pointer (some ⟨w7.heap.size+1,0,none⟩),.pointer (some ⟨w7.heap.size,0,none⟩)]) rfl (enters_of func209 (by kernel_rfl) rfl)
  (tB Fence.wide 2 trivial rfl (by omega) w7.heap.size (w7.heap.size+1) qb 0 e2 hec w8 (by omega) (by omega) (rb.cell 0 (by omega)) (rs.cell 0 (by omega)))
  (fun h k=>B6.trans h k) ?kb (fun x=>rfl) (CQ w w8.heap.size f c g h xf xr xe xo qb e2 (iO D B)) (fun _ _=>False) ?own (fun s W W' row hs _ _=>hs) yD
  (fun a x=>((({ a with defers:=[] }:Act).put (some 32) (.int .i64 (x.1:Int))).put (some 33) (.slice (some ⟨qb,0+x.1*58,none⟩) ((x.1+1)*58-x.1*58) (e2-x.1*58))).put (some 12) (.slice (some ⟨qb,0+x.1*58,none⟩) ((x.1+1)*58-x.1*58) (e2-x.1*58)))
  (fun x=>[(12,.slice (some ⟨qb,0+x.1*58,none⟩) ((x.1+1)*58-x.1*58) (e2-x.1*58)),(3,.pointer (some ⟨xf,0,none⟩)),(6,.pointer (some ⟨xr,0,none⟩)),(7,.pointer (some ⟨xe,0,none⟩)),(10,.pointer (some ⟨xo,0,none⟩))])
  ?agr ?assign ?body ?done (fun D pre W _ _ hf _=>hf.elim)
 case kb =>
  intro W l o o' hl _ _ _;have h1:∀i,i<l->(W.putObj l o').cell? ⟨i,0,none⟩=W.cell? ⟨i,0,none⟩:=fun i hi=>World.cell?_of_block (w:=W) (World.putObj_heap_other (by show _≠_;first|exact Nat.ne_of_lt hi|exact Nat.ne_of_gt hi));exact⟨h1 w7.heap.size (by omega),h1 (w7.heap.size+1) (by omega)⟩
 case own =>
  intro pre W W' row hI hg hr;have k:=gm hg;have hnc:∀ {x},(∀o,W.heap[x]?=some o->o.isCells=true)->x∉row.toList:=fun {x} hx hm=>by
   cases row with
   |none=>cases hm
   | some r =>
    obtain rfl:x=r:=by simpa using hm
    obtain⟨_,o,h1,h2⟩:=hr _ rfl;rw[hx o h1] at h2
    cases h2
  have hB:∀x,x∈row.toList->w.heap.size<=x:=fun x hx=>by
   cases row with
   |none=>cases hx
   | some r =>
    obtain rfl:x=r:=by simpa using hx
    have:=(hr _ rfl).1;omega
  obtain⟨O,oc,bk,ek,ro,lo,hO,hw⟩:=hI.out;have hg':=hnc (FS.cells hI.fk.fs);exact⟨Nat.le_trans hI.sz k.size,⟨hI.fk.fs.ab k hg',hI.fk.kp.then k (fun x hx=>.inr (hB x hx))⟩,hI.jf.aj k (hnc (aK hI.jf.row)) (hnc (aK hI.jf.iB.row)) hg' (hnc (aK hI.jf.iB.gen)),hI.rxf.ab k (hnc (aK hI.rxf)),hI.vJ.ab k (hnc (aK hI.vJ)),hI.yC.ab k (hnc (aK hI.yC)),hI.rq.ab k (fun x hx=>hnc (jQ hI.rq x hx)),
   O,oc,bk,ek,ro.ab k (hnc (aK ro)),lo.ab k (fun x hx=>hnc (jQ lo x hx)),hO,fun i hi=>⟨(hw i hi).1,Ly.ab (hw i hi).2 k (fun x hx=>hnc (jQ (hw i hi).2 x hx))⟩⟩
 case agr =>
  intro a x ha;have h0:As 51 _ { a with defers:=[] }:=⟨ha.size,rfl,ha.get⟩;refine((((h0.put 32 (by decide) _).put 33 (by decide) _).put 12 (by decide) _)).forget (mJ ?_);exact⟨rfl,rfl,rfl,rfl,rfl,trivial⟩
 case assign =>
  intro a ha l x W K hK;have sQ:33<a.tmps.size:=by rw[ha.size];decide
  have fT:Array.foldl (fun(t:Array Value) (x:Tmp×Value)=>match x with|(p,v)=>t.setIfInBounds p v) a.tmps (#[32,33].zip (aap qb 0 e2 x))=(a.tmps.setIfInBounds 32 (.int .i64 (x.1:Int))).setIfInBounds 33 (.slice (some ⟨qb,0+x.1*58,none⟩) ((x.1+1)*58-x.1*58) (e2-x.1*58)):=by
   unfold aap;simp
  rw[fT];refine wpIn_region_list ?_;unfold wpListIn;rw[if_pos (by rfl)];refine Bb.wpIn (iC l) (aD (v:=.slice (some ⟨qb,0+x.1*58,none⟩) ((x.1+1)*58-x.1*58) (e2-x.1*58)) (w':=W) (by simp) ?_ ?_)
  ·have e:((a.tmps.setIfInBounds 32 (.int .i64 (x.1:Int))).setIfInBounds 33 (.slice (some ⟨qb,0+x.1*58,none⟩) ((x.1+1)*58-x.1*58) (e2-x.1*58))).getD 33 undef=.slice (some ⟨qb,0+x.1*58,none⟩) ((x.1+1)*58-x.1*58) (e2-x.1*58):=by
    rw[Array.getD_eq_getD_getElem?,Array.getElem?_setIfInBounds_self_of_lt (by simpa using sQ)];rfl
   exact congrArg (fun v=>Result.ok (Next.value v) W) e
  ·exact hK
 case body =>
  intro l pre x W hI hl;obtain⟨O,oc,bk,ek,ro,lo,hO,hw⟩:=hI.out;have pY:=x.2;have hqg:qb≠g:=by omega
  have rx:AH W (some ⟨qb,0+x.1*58,none⟩) 58 (lB (iO D B) x.1):=fun _=>⟨qb,0+x.1*58,rfl,fun j hj=>by
   obtain⟨b2,o2,e3,hc⟩:=hI.rq.u9 (by omega)
   cases e3
   have:=hc (x.1*58+j) (by omega);rw[show 0+x.1*58+j=0+(x.1*58+j) by omega];exact this⟩
  have apT:∀j,iO D B j<256:=px hD hB;rw[show(x.1+1)*58-x.1*58=58 by omega];conv=>whnf
  repeat ((first|(refine Ld.row hI.rxf (by decide) ?_)|(refine Ld.row hI.jf.row (by decide) ?_));conv=>whnf)
  refine Ca.of (amg W c g h (e2-x.1*58) (some ⟨qb,0+x.1*58,none⟩) (lB (iO D B) x.1) (fun j=>apT _) rx (by omega) (fun a e=>by cases e;exact hqg) hI.jf.iB) ?_;rintro v W1 ⟨f1,b1,e1',nr,rfl,wd1⟩;conv=>whnf
  repeat ((first|(refine A5.seq ah (iC l) ?_)|refine Br.f ?_|refine Ru.ai ?_);conv=>whnf)
  have xog:xo≠g:=by omega
  refine Ld.row (ro.ab f1.kp (by simpa using xog)) (by decide) ?_;conv=>whnf
  refine Ru.of (ag3 _ _ _ _) ?_;have ka:Aa [] W1 (W1.alloc (.cells #[.slice (some ⟨b1,0,none⟩) 64 e1'] 37)):=(Aa.refl [] _).alloc _;have rn:=aeW W1 37 (.slice (some ⟨b1,0,none⟩) 64 e1');generalize hW2:W1.alloc (.cells #[.slice (some ⟨b1,0,none⟩) 64 e1'] 37)=W2 at *;have hOg:∀y,y∈aR O->y∉[g]:=fun y hy e=>by
   have:=hO y hy;rw[List.mem_singleton.1 e] at this;omega
  have lo2:=(lo.ab f1.kp hOg).aj ka;have hWs:=f1.kp.size;obtain⟨i0,hi,lZ,lP,l4⟩:=info_parts aj9;conv=>whnf
  refine Bu.append underlying51 hi lZ lP l4 rfl (by omega) lo2 (B:=some ⟨W1.heap.size,0,none⟩) (m:=1) (d:=1) (fun _=>.slice (some ⟨b1,0,none⟩) 64 e1') (by simpa using Rd.dh rn (Nat.le_refl _)) (by omega) (fun e=>by cases e) (fun j hj=>rfl) (by simp only[maxLen];omega) (by omega) ?_;intro O' oc' W3 lo3 k3' dC iq;have ro3:Row W3 xo 51 1 (fun _=>.slice O pre.length oc):=by
   refine Row.ab (Row.ab (ro.ab f1.kp (by simpa using xog)) ka (by simp)) k3' ?_;exact Ly.aP lo2 (Row.ab (ro.ab f1.kp (by simpa using xog)) ka (by simp)) (by decide)
  conv=>whnf
  refine Sd.rowAt ro3 0 (by omega) (by omega) rfl ?_;intro W4 ro4 k4';conv=>whnf
  have hsW:=hI.sz;have kW:=f1.kp;have aq6:=ka.size;have aq7:=k3'.size;have lG:Aa (g::xo::aR O) W W4:=(((kW.mono (by simp)).trans (ka.mono (by simp))).trans (k3'.mono (by intro x hx;simp[hx]))).trans (k4'.mono (by simp));have nS:∀y,y≠g->y≠xo->y<w8.heap.size->y∉g::xo::aR O:=fun y h1 h2 h3 hm=>by
   rcases List.mem_cons.1 hm with e|hm
   ·exact h1 e
   ·rcases List.mem_cons.1 hm with e|hm
    ·exact h2 e
    ·have:=hO y hm;omega
  have fcl:=H.row.lt;have ccl:=H.iB.row.lt;have hcl:=H.iB.gen.lt;have nO:∀y,y<w8.heap.size->y∉aR O:=fun y h1 h2=>by have:=hO y h2;omega
  have rq8:=rq.lt rfl;simp only at rq8;have ag5:Frm W4 f c g h:=((((hI.jf.of f1).aj ka (by simp) (by simp) (by simp) (by simp)).aj k3' (nO f (by omega)) (nO c (by omega)) (nO g (by omega)) (nO h (by omega))).aj k4' (by simp;omega) (by simp;omega) (by simp;omega) (by simp;omega));refine⟨?_,⟨lG.cell (p:=⟨w7.heap.size,0,none⟩) (by simp only;omega) (nS w7.heap.size (by omega) (by omega) (by omega)),lG.cell (p:=⟨w7.heap.size+1,0,none⟩) (by simp only;omega) (nS (w7.heap.size+1) (by omega) (by omega) (by omega))⟩,?_⟩
  ·exact(bD _ kW (fun y hy=>by rw[List.mem_singleton.1 hy];exact FS.cells hI.fk.fs)).trans ((bD _ ka (by simp)).trans ((bD _ k3' (jQ lo2)).trans (bD _ k4' (fun y hy=>by rw[List.mem_singleton.1 hy];exact aK ro3))))
  ·refine⟨Nat.le_trans hsW lG.size,⟨ag5.iB.fs,hI.fk.kp.then lG (fun y hy=>?_)⟩,ag5,hI.rxf.ab lG (nS xf (by omega) (by omega) (by omega)),hI.vJ.ab lG (nS xr (by omega) (by omega) (by omega)),hI.yC.ab lG (nS xe (by omega) (by omega) (by omega)),hI.rq.ab lG (fun y hy=>by rw[List.mem_singleton.1 hy];exact nS qb hqg (by omega) (by omega)),
    O',oc',(fun i=>if i<pre.length then bk i else b1),(fun i=>if i<pre.length then ek i else e1'),?_,?_,?_,?_⟩
   ·rcases List.mem_cons.1 hy with e|hy
    ·exact .inl (by simp[e])
    ·rcases List.mem_cons.1 hy with e|hy
     ·exact .inr (by omega)
     ·exact .inr (by have:=hO y hy;omega)
   ·rw[List.length_append];exact ro4.congr (fun i hi=>by
     obtain rfl:i=0:=by omega
     rfl)
   ·rw[List.length_append];refine(lo3.ab k4' (fun y hy e=>Ly.aP lo3 ro3 (by decide) (by rw[List.mem_singleton.1 e] at hy;exact hy))).congr (fun i hi=>?_);simp only[Nat.mul_one];by_cases hi2:i<pre.length
    ·simp only[if_pos hi2]
    ·simp only[if_neg hi2]
   ·intro y hy;rcases dC with e|e
    ·rw[e] at hy;exact hO y hy
    ·rw[e] at hy;rw[List.mem_singleton.1 hy];simp only;omega
   ·intro i hi;rw[List.length_append] at hi;simp only[List.length_singleton] at hi;by_cases hi2:i<pre.length
    ·simp only[if_pos hi2];obtain⟨h1,h2⟩:=hw i hi2;rw[List.getElem_append_left hi2];refine⟨h1,h2.dN lG (fun hm=>?_)⟩;rcases List.mem_cons.1 hm with e|hm
     ·omega
     ·rcases List.mem_cons.1 hm with e|hm
      ·exact Ly.aP h2 ro (by decide) (by rw[e];exact List.mem_singleton.2 rfl)
      ·exact Ly.mL h2 lo (by decide) (List.mem_singleton.2 rfl) hm
    ·simp only[if_neg hi2];obtain rfl:i=pre.length:=by omega
     have e:(pre++[x])[pre.length]'(by simp)=x:=by simp
     rw[e];have rol:=ro.lt;refine⟨by have:=hI.fk.kp.size;omega,((wd1.dN ka (by simp)).dN k3' (fun hm=>?_)).dN k4' (by simp;omega)⟩;have:=Ly.kI lo hm;omega
 case done =>
  rintro Dn xs W hDn rfl hI hK;obtain⟨O,oc,bk,ek,ro,lo,hO,hw⟩:=hI.out;rw[dF] at ro lo;conv=>whnf
  refine Ld.row ro (by decide) ?_;conv=>whnf
  refine Sd.rowAt hI.vJ 0 (by omega) (by omega) rfl ?_;intro W1 rxr1 kA;have amo:=hI.yC.ab kA (by simp;omega);conv=>whnf
  refine Sd.rowAt amo 0 (by omega) (by omega) rfl ?_;intro W2 rxe2 kB;have apU:=rxr1.ab kB (by simp;omega);have nD:Ao W Dn:=⟨_,hK,rfl⟩;have hDl:=(Array.getElem?_eq_some_iff.1 hK).1;have dxr:=nD.ne hI.vJ;have hD1:W1.heap[Dn]?=some (.deferred (some [])):=(kA.block Dn hDl (by simpa using dxr.symm)).trans hK;have nD1:Ao W1 Dn:=⟨_,hD1,rfl⟩;have dxe:=nD1.ne amo;have hDW:W2.heap[Dn]?=some (.deferred (some [])):=(kB.block Dn (Array.getElem?_eq_some_iff.1 hD1).1 (by simpa using dxe.symm)).trans hD1;have nD2:Ao W2 Dn:=⟨_,hDW,rfl⟩;conv=>whnf
  refine⟨W2.putObj Dn (.deferred none),⟨Dn,rfl,hDW,rfl⟩,?_⟩;have kD:Aa [Dn] W2 (W2.putObj Dn (.deferred none)):=gm (grownBy_putObj' W2 Dn _);have apV:=apU.ab kD (by simpa using dxr);have apW:=rxe2.ab kD (by simpa using dxe);have hsW:=hI.sz;have fs:=((hI.fk.fs.ab kA (by simp;omega)).ab kB (by simp;omega)).ab kD (by simp;omega);have kp:=((hI.fk.kp.then kA (fun y hy=>.inr (by rw[List.mem_singleton.1 hy];omega))).then kB (fun y hy=>.inr (by rw[List.mem_singleton.1 hy];omega))).then kD (fun y hy=>.inr (by rw[List.mem_singleton.1 hy];omega));have lo3:=((lo.ab kA (fun y hy e=>by have:=hO y hy;rw[List.mem_singleton.1 e] at this;omega)).ab kB (fun y hy e=>by have:=hO y hy;rw[List.mem_singleton.1 e] at this;omega));have lo4:=lo3.ab kD (nD2.aml lo3);have hw4:∀k,k<4->w.heap.size<=bk k/\Wd (W2.putObj Dn (.deferred none)) (bk k) (ek k) (GF.lF (lB (iO D B) k)):=fun k hk=>by
   obtain⟨h1,h2⟩:=hw k (by rw[dF];exact hk);rw[an8 k hk] at h2;have a1:=h2.dN kA (fun e=>Ly.aP h2 hI.vJ (by decide) (by rw[<-List.mem_singleton.1 e];exact List.mem_singleton.2 rfl));have a2:=a1.dN kB (fun e=>Ly.aP a1 amo (by decide) (by rw[<-List.mem_singleton.1 e];exact List.mem_singleton.2 rfl));exact⟨h1,Ly.ab a2 kD (nD2.aml a2)⟩
  generalize W2.putObj Dn (.deferred none)=W3 at *;conv=>whnf
  refine Ru.ldc (by decide +kernel) (apV.cell 0 (by omega)) ?_;conv=>whnf
  refine Ru.ldc (by decide +kernel) (apW.cell 0 (by omega)) ?_;conv=>whnf
  exact⟨rfl,⟨fs,kp⟩,O,oc,bk,ek,rfl,lo4,hw4⟩
end
end Go.Proofs.YtaeikigfgfcadaaGreat
