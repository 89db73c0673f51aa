/- Texts behind one another: Once, OnceDo, FieldOps, FieldOps2, Poly, Own, Eval, RsMath, Gring, RsDecode, Same, Bytes, Sl, RsNew, NandW, NandR, RsSyn, RsOne, RsTwo, RsDec, RsEncM, RsEnc, Frm, EIn, Pieces, Lay. -/
import Derived.Tactics
import Derived.Tactics2
import Derived.Defers
import Derived.Laws.Pointers
import Derived.Laws.LoneSync
import Derived.RegionTactic
import Derived.RegionCalls
import Derived.ChangeAlike
import Derived.Laws.BytesArg
import Derived.Lib.Bytes
import Derived.RangeFuncNested
import Derived.RangeFuncBound
import Derived.RangeFuncCalls
import Derived.RangeFuncLeaves
import Derived.OwnWalkIn
import Derived.RangeFuncBox
import Derived.Shelf.Abstract
import Derived.TacticsInMore
import Derived.LoopNIn
import Derived.LoopIn
import Derived.Test.YtaeikigfgfcadaaGreatMr0a
namespace Go.Proofs.YtaeikigfgfcadaaGreat
open Go.Proofs.Tryz
set_option maxHeartbeats 4000000
set_option maxRecDepth 100000
set_option linter.unusedVariables false
set_option linter.unusedSimpArgs false
set_option linter.unnecessarySimpa false
section
open Go.RowKit
theorem py(w:World):(callFunc 233 #[]).run Tryz.prog w=.ok (.value (.tuple #[])) w:=run_call_mark0 func233 (by kernel_rfl) (by kernel_rfl) (by kernel_rfl) .disable (by kernel_rfl) w
theorem rL(w:World):(callFunc 235 #[]).run Tryz.prog w=.ok (.value (.tuple #[])) w:=run_call_mark0 func235 (by kernel_rfl) (by kernel_rfl) (by kernel_rfl) .enable (by kernel_rfl) w
theorem yT(a:Addr)(w:World):(callFunc 236 #[.pointer (some a)]).run Tryz.prog w=.ok (.value (.tuple #[])) w:=run_call_marked func236 (by kernel_rfl) (by kernel_rfl) (by kernel_rfl) .acquire (by kernel_rfl) a w
theorem yU(a:Addr)(w:World):(callFunc 238 #[.pointer (some a)]).run Tryz.prog w=.ok (.value (.tuple #[])) w:=run_call_marked func238 (by kernel_rfl) (by kernel_rfl) (by kernel_rfl) .releaseMerge (by kernel_rfl) a w
theorem tF(a:Addr)(x:Value)(u:FrameMode)(w:World)(hc:w.cell? a=some x)(hz:w.frozen? a=false) :
  CallsD Tryz.prog 228 #[.pointer (some a),.bool true] u w fun e u' w'=>u'=u/\(e=.returned (.tuple #[])/\w'=w.drew.setCell a (.int .u32 1)):=by
 have hc':w.drew.cell? a=some x:=by go_simp
 have hz':w.drew.frozen? a=false:=by go_simp
 have bq:=run_call_store (P:=Tryz.prog) func231 (by kernel_rfl) (by kernel_rfl) (by kernel_rfl) (by kernel_rfl) (k:=.u32) (y:=1) hc' hz'
 go_enter_d func228,ntmps228
 go_wp2
 go_region_calls
 all_goals (go_end0;exact⟨rfl,rfl⟩)
theorem sk(a:Addr)(u:FrameMode)(w:World)(hc:w.cell? a=some (.int .i32 1))(hz:w.frozen? a=false) :
  CallsD Tryz.prog 227 #[.pointer (some a)] u w fun e u' w'=>u'=u/\(e=.returned (.tuple #[])/\w'=w.setCell a (.int .i32 0)):=by
 have hd:=py;have he:=rL;have hr:=yU;have agp:=run_call_add (P:=Tryz.prog) func239 (by kernel_rfl) (by kernel_rfl) (by kernel_rfl) .i32 (by kernel_rfl) (y:=-1) (s:=0) hc hz (by simp[go_sem];rfl);have hcv:=run_convert_to_unsafe (P:=Tryz.prog) (src:=330) (dst:=334) underlying330 underlying334 (by kernel_rfl) hc
 go_enter_d func227,ntmps227
 go_wp2
 go_end0
 go_wp2
 go_end0
 exact⟨rfl,rfl⟩
theorem ae4(a:Addr)(w:World)(hc:w.cell? a=some (.int .i32 0))(hz:w.frozen? a=false) :
  Calls Tryz.prog 226 #[.pointer (some a)] w fun e w'=>e=.returned (.tuple #[])/\w'=w.setCell a (.int .i32 1):=by
 have hd:=py;have he:=rL;have ha:=yT;have arS:=run_call_cas_hit (P:=Tryz.prog) func234 (by kernel_rfl) (by kernel_rfl) (by kernel_rfl) .i32 (by kernel_rfl) (y:=1) hc hz;have hc':(w.setCell a (.int .i32 1)).cell? a=some (.int .i32 1):=World.cell?_setCell_same w a _ hc;have hcv:=run_convert_to_unsafe (P:=Tryz.prog) (src:=330) (dst:=334) underlying330 underlying334 (by kernel_rfl) hc'
 go_enter func226,ntmps226
 go_wp2
 first|go_end0|(simp only[Exit.inBlock,Exit.then];refine bodyPost_ret (results_none rfl _ _ _) rfl ?_)|refine bodyPost_ret (results_none rfl _ _ _) rfl ?_
 go_wp2
 go_end0
 exact⟨rfl,rfl⟩
end
section
open Go.RowKit
attribute [local irreducible] GF.pw GF.lg GF.mul GF.inv GF.xt
theorem agL(d st:Int)(ke kl:Nat)(s:Int)(j:Nat):put (dM d st ke kl) 1 (.int .i32 s) j=dM d s ke kl j:=by
 unfold put;by_cases h:j=1
 ·subst h;rfl
 ·rw[if_neg h];unfold dM;by_cases h0:j=0
  ·rw[if_pos h0,if_pos h0]
  ·rw[if_neg h0,if_neg h0,if_neg h,if_neg h]
theorem aot(d st:Int)(ke kl:Nat)(s:Int)(j:Nat):put (dM d st ke kl) 0 (.int .u32 s) j=dM s st ke kl j:=by
 unfold put;by_cases h:j=0
 ·subst h;rfl
 ·rw[if_neg h];unfold dM;rw[if_neg h,if_neg h]
def BP(g:Nat)(w:World)(e:Ending)(w':World):Prop:=e=.returned (.tuple #[])/\BG w' g 1 0 255 255/\Aa [g] w w'
theorem acj(g:Nat)(w:World)(r:BG w g 0 0 0 0):Calls Tryz.prog 224 #[.pointer (some ⟨g,0,none⟩),.func (.func 220) #[.pointer (some ⟨g,0,none⟩)] #[]] w (BP g w):=by
 have r1:BG (w.setCell ⟨g,1,none⟩ (.int .i32 1)) g 0 1 0 0:=(r.set 1 (.int .i32 1)).congr (fun j _=>agL 0 0 0 0 1 j);have k1:Aa [g] w (w.setCell ⟨g,1,none⟩ (.int .i32 1)):=Aa.set g 1 _;have c1:w.cell? ⟨g,1,none⟩=some (.int .i32 0):=r.cell 1 (by omega);have z1:w.frozen? ⟨g,1,none⟩=false:=r.free 1;have c0:(w.setCell ⟨g,1,none⟩ (.int .i32 1)).cell? ⟨g,0,none⟩=some (.int .u32 0):=r1.cell 0 (by omega);have hl:=run_call_load (P:=Tryz.prog) func225 (by kernel_rfl) (by kernel_rfl) (by kernel_rfl) .u32 (by kernel_rfl) c0;have lV:∀(x:Bool) (w:World),(Op.unary .not (.bool x)).run Tryz.prog w=.ok (.bool (!x)) w:=fun _ _=>rfl;have R:=Lib.hid r;have R1:=Lib.hid r1;have K1:=Lib.hid k1;clear r r1 k1
 go_enter_defers func224,ntmps224
 go_wp2_with (first
  |(go_at_call 226;refine(ae4 ⟨g,1,none⟩ _ c1 z1).mono ?_;rintro e w' ⟨rfl,rfl⟩)
  |(go_at_call 220;refine((ake _ g 0 1 R1.out).2).mono ?_;rintro e w2 ⟨v,rfl,rfl,r2,k2⟩)
  |(go_at_call 223;go_in))
 have c20:w2.cell? ⟨g,0,none⟩=some (.int .u32 0):=r2.cell 0 (by omega);have z20:w2.frozen? ⟨g,0,none⟩=false:=r2.free 0;have r3:BG (w2.drew.setCell ⟨g,0,none⟩ (.int .u32 1)) g 1 1 255 255:=((r2.drewN 1).set 0 (.int .u32 1)).congr (fun j _=>aot 0 1 255 255 1 j);have c31:(w2.drew.setCell ⟨g,0,none⟩ (.int .u32 1)).cell? ⟨g,1,none⟩=some (.int .i32 1):=r3.cell 1 (by omega);have z31:(w2.drew.setCell ⟨g,0,none⟩ (.int .u32 1)).frozen? ⟨g,1,none⟩=false:=r3.free 1;have r4:BG ((w2.drew.setCell ⟨g,0,none⟩ (.int .u32 1)).setCell ⟨g,1,none⟩ (.int .i32 0)) g 1 0 255 255:=(r3.set 1 (.int .i32 0)).congr (fun j _=>agL 1 1 255 255 0 j);have k4:Aa [g] w ((w2.drew.setCell ⟨g,0,none⟩ (.int .u32 1)).setCell ⟨g,1,none⟩ (.int .i32 0)):=(((K1.out.trans k2).drewN 1).trans (Aa.set g 0 _)).trans (Aa.set g 1 _);have R4:=Lib.hid r4;have K4:=Lib.hid k4;clear r4 k4 r3 r2 k2;refine leaves_cons (f:=228) (args := #[.pointer (some ⟨g,0,none⟩),.bool true]) (by simp) (by simp[go_sem]) ?_;refine(tF ⟨g,0,none⟩ (.int .u32 0) .returning _ c20 z20).mono ?_;rintro e u' w'' ⟨rfl,rfl,rfl⟩;refine leaves_cons (f:=227) (args := #[.pointer (some ⟨g,1,none⟩)]) (by simp[settle]) (by simp[go_sem]) ?_;refine(sk ⟨g,1,none⟩ _ _ c31 z31).mono ?_;rintro e u' w'' ⟨rfl,rfl,rfl⟩;exact⟨_,results_none rfl _ _ _,rfl,R4.out,K4.out⟩
def BQ(g:Nat)(w:World)(v:Value)(w':World):Prop:=v=.tuple #[]/\BG w' g 1 0 255 255/\Aa [g] w w'
theorem agM(g:Nat)(w:World)(r:BG w g 0 0 0 0):Spec Tryz.prog 219 #[.pointer (some ⟨g,0,none⟩),.func (.func 220) #[.pointer (some ⟨g,0,none⟩)] #[]] w (BQ g w):=by
 refine⟨by kernel_rfl,?_⟩;have c0:w.cell? ⟨g,0,none⟩=some (.int .u32 0):=r.cell 0 (by omega);have hl:=run_call_load (P:=Tryz.prog) func225 (by kernel_rfl) (by kernel_rfl) (by kernel_rfl) .u32 (by kernel_rfl) c0;have lV:∀(x:Bool) (w:World),(Op.unary .not (.bool x)).run Tryz.prog w=.ok (.bool (!x)) w:=fun _ _=>rfl;have R:=Lib.hid r;clear r
 go_enter func219,ntmps219
 go_wp2_with (first
  |(go_at_call 224;refine(acj g _ R.out).mono ?_;rintro e w' ⟨rfl,r2,k2⟩)
  |(go_at_call 223;go_in))
 go_end0
 exact⟨_,rfl,rfl,r2,k2⟩
theorem akf(g:Nat)(w:World)(st:Int)(ke kl:Nat)(r:BG w g 1 st ke kl)(fv:Value):Spec Tryz.prog 219 #[.pointer (some ⟨g,0,none⟩),fv] w fun v w'=>v=.tuple #[]/\w=w':=by
 refine⟨by kernel_rfl,?_⟩;have c0:w.cell? ⟨g,0,none⟩=some (.int .u32 1):=r.cell 0 (by omega);have hl:=run_call_load (P:=Tryz.prog) func225 (by kernel_rfl) (by kernel_rfl) (by kernel_rfl) .u32 (by kernel_rfl) c0;have lV:∀(x:Bool) (w:World),(Op.unary .not (.bool x)).run Tryz.prog w=.ok (.bool (!x)) w:=fun _ _=>rfl;clear r
 go_enter func219,ntmps219
 go_wp2
 go_end0
 exact⟨_,rfl,rfl,rfl⟩
end
section
open Go.RowKit
attribute [local irreducible] GF.pw GF.lg GF.mul GF.inv GF.xt
def FS(w:World)(g:Nat):Prop:=BG w g 0 0 0 0\/BG w g 1 0 255 255
theorem FS.ab{S:List Nat}{w w':World}{g:Nat}(h:FS w g)(k:Aa S w w')(hg:g∉S):FS w' g:=h.elim (fun h=>.inl (h.ab k hg)) (fun h=>.inr (h.ab k hg))
theorem FS.aj{w w':World}{g:Nat}(h:FS w g)(k:Aa [] w w'):FS w' g:=h.ab k (by simp)
theorem FS.drewN{w:World}{g:Nat}(h:FS w g)(n:Nat):FS (w.drewN n) g:=h.aj ((Aa.refl _ _).drewN n)
theorem FS.lt{w:World}{g:Nat}(h:FS w g):g<w.heap.size:=h.elim (fun h=>h.lt) (fun h=>h.lt)
theorem adM(g:Nat)(w:World)(r:FS w g):Spec Tryz.prog 219 #[.pointer (some ⟨g,0,none⟩),.func (.func 220) #[.pointer (some ⟨g,0,none⟩)] #[]] w (BQ g w):=by
 rcases r with r|r
 ·exact agM g w r
 ·obtain⟨h1,h2⟩:=akf g w 0 255 255 r (.func (.func 220) #[.pointer (some ⟨g,0,none⟩)] #[]);refine⟨h1,h2.mono ?_⟩;rintro e w' ⟨v,rfl,rfl,rfl⟩;exact⟨_,rfl,rfl,r,Aa.refl _ _⟩
def isZ(j:Nat):Value->Bool
 |.int .u32 n=>(j == 0||j == 2)&&n == 0
 |.int .i32 n=>j == 1&&n == 0
 |.int .u8 n => !(j<3)&&decide (j<513)&&n == 0
 |.int .i64 n => !(j<513)&&n == 0
 |_=>false
def akg:Nat->List Value->Bool
 |_,[]=>true
 |j,v::l=>isZ j v&&akg (j+1) l
theorem amr{j:Nat}{v:Value}(h:isZ j v=true):v=dM 0 0 0 0 j:=by
 have he:∀p q:Nat,(if p%255<0 then q else 0)=0:=fun p q=>if_neg (by omega);unfold isZ at h;split at h<;>try simp only[Bool.and_eq_true,Bool.or_eq_true,beq_iff_eq,Bool.not_eq_true',decide_eq_true_eq,decide_eq_false_iff_not] at h
 ·obtain⟨h|h,rfl⟩:=h<;>subst h<;>rfl
 ·obtain⟨h,rfl⟩:=h;subst h;rfl
 ·obtain⟨⟨h1,h2⟩,rfl⟩:=h;unfold dM;rw[if_neg (by omega),if_neg (by omega),if_neg (by omega),if_pos (by omega),if_neg (by omega)];rfl
 ·obtain⟨h1,rfl⟩:=h;unfold dM;rw[if_neg (by omega),if_neg (by omega),if_neg (by omega),if_neg (by omega),if_neg (fun e=>by have:=e.2;omega)];rfl
 ·cases h
theorem aaz:∀(l:List Value) (j:Nat),akg j l=true->∀i v,l[i]?=some v->v=dM 0 0 0 0 (j+i)
 | [],j,_,i,v,hv=>by simp at hv
 | u::l,j,h,i,v,hv=>by
  unfold akg at h;rw[Bool.and_eq_true] at h
  cases i with
  | zero =>
   simp at hv;rw[<-hv];exact amr h.1
  | succ i =>
   have:=aaz l (j+1) h.2 i v (by simpa using hv);rw[this];congr 1;omega
noncomputable def pz:Array Value:=(((Tryz.prog.info? 318).bind (·.zero)).getD (.agg #[])).cells
theorem ams:(pz.toList.length == 769&&akg 0 pz.toList)=true:=by kernel_rfl
theorem zF:pz=(Array.range 769).map (dM 0 0 0 0):=by
 have h:=ams;simp only[Bool.and_eq_true,beq_iff_eq] at h;apply Array.ext
 ·simpa using h.1
 ·intro i h1 h2;simp only[Array.getElem_map,Array.getElem_range];have:=aaz _ 0 h.2 i (pz[i]'h1) (by rw[Array.getElem?_toList];exact Array.getElem?_eq_getElem h1);rw[this,Nat.zero_add]
theorem agN(w:World):(Instr.build 318 #[]).run Tryz.prog w=.ok (.agg pz) w:=by kernel_rfl
theorem akh(w:World):(Instr.build 318 #[]).run Tryz.prog w=.ok (agg 769 (dM 0 0 0 0)) w:=by
 rw[agN,zF];rfl
theorem yV(w:World):Spec Tryz.prog 210 #[] w fun v w'=>v=.pointer (some ⟨w.heap.size,0,none⟩)/\FS w' w.heap.size/\Aa [] w w':=by
 refine spec_of_wpE (T:=tt) ai func210 rfl (by decide +kernel) ntmps210 (by simp) ?_;conv=>whnf
 refine Ru.of (akh w) ?_;conv=>whnf
 refine Ru.dr ?_;rintro h w1 rfl dj r k1;conv=>whnf
 exact⟨rfl,rfl,.inl r,k1⟩
theorem tG{j:Nat}(h:j<510):dM 1 0 255 255 (3+j)=.int .u8 (GF.pw j:Int):=by
 rw[qy _ _ _ _ h,if_pos (Nat.mod_lt _ (by omega))]
theorem pA{a:Nat}(h:a<256)(h0:a≠0):dM 1 0 255 255 (513+a)=.int .i64 (GF.lg a:Int):=by
 rw[xg _ _ _ _ h,if_pos ⟨h0,(GF.eH a h h0).1⟩]
def A5(g:Nat)(w:World)(u:Value)(v:Value)(w':World):Prop:=v=u/\FS w' g/\Aa [g] w w'
theorem yW(w:World)(g a b:Nat)(ha:a<256)(hb:b<256)(r:FS w g):Spec Tryz.prog 214 #[.pointer (some ⟨g,0,none⟩),.int .u8 a,.int .u8 b] w (A5 g w (.int .u8 (GF.mul a b:Nat))):=by
 by_cases oL:a=0
 ·subst oL;rw[GF.bT];refine spec_of_wpE (T:=tt) ai func214 rfl (by decide +kernel) ntmps214 (by simp) ?_;conv=>whnf
  repeat ((first|refine Br.t ?_|refine Pk.t ?_|refine CW.s ?_);conv=>whnf)
  exact⟨rfl,rfl,r,Aa.refl _ _⟩
 by_cases jR:b=0
 ·subst jR;rw[GF.du];refine spec_of_wpE (T:=tt) ai func214 rfl (by decide +kernel) ntmps214 (by simp) ?_;conv=>whnf
  repeat ((first|refine Br.t ?_|refine Br.f ?_|refine Pk.f ?_|refine Br.n ?_|refine CW.s ?_);conv=>whnf)
  exact⟨rfl,rfl,r,Aa.refl _ _⟩
 have hla:=(GF.eH a ha oL).1;have hlb:=(GF.eH b hb jR).1;have ea:=pA ha oL;have eb:=pA hb jR;have ee:=tG (j:=GF.lg a+GF.lg b) (by omega);rw[GF.yS ha hb oL jR];generalize GF.lg a=x at *;generalize GF.lg b=y at *;refine spec_of_wpE (T:=tt) ai func214 rfl (by decide +kernel) ntmps214 (by simp) ?_;conv=>whnf
 repeat ((first|refine Br.f ?_|refine Pk.f ?_|refine Br.n ?_|refine CW.s ?_);conv=>whnf)
 refine Ca.of (adM g w r) ?_;rintro _ w2 ⟨rfl,r2,k2⟩;conv=>whnf
 refine CW.quiet (fun w'=>w'=w2.drewN 1) ai (by kernel_rfl) (by kernel_rfl) ?_ ?_
 ·rfl
 conv=>whnf
 repeat ((first|(refine Ag.at (j:=513+a) (by omega) (fun _ h=>by subst h;exact(r2.cell _ (by omega)).trans (congrArg some ea)) ?_)|(refine Ag.at (j:=513+b) (by omega) (fun _ h=>by subst h;exact(r2.cell _ (by omega)).trans (congrArg some eb)) ?_)|(refine Ix.of (x+y) (by omega) (by omega) ?_)|(refine Ag.at (j:=3+(x+y)) (by omega) (fun _ h=>by subst h;exact(r2.cell _ (by omega)).trans (congrArg some ee)) ?_)|refine Ix.n ?_|refine Ar.la ?_);conv=>whnf)
 rintro w3 rfl;conv=>whnf
 exact⟨rfl,rfl,(FS.drewN (.inr r2) 1),k2.drewN 1⟩
end
section
open Go.RowKit
attribute [local irreducible] GF.pw GF.lg GF.mul GF.inv GF.xt
def amt(a:Nat):Nat:=if a=0 then 0 else GF.inv a
def rM(a:Nat):Int:=if a=0 then 4 else 0
theorem amu(w:World)(g a:Nat)(ha:a<256)(r:FS w g):Spec Tryz.prog 222 #[.pointer (some ⟨g,0,none⟩),.int .u8 a] w (A5 g w (.tuple #[.int .u8 (amt a:Nat),al (rM a)])):=by
 by_cases oL:a=0
 ·subst oL;refine spec_of_wpE (T:=tt) ai func222 rfl (by decide +kernel) ntmps222 (by simp) ?_;conv=>whnf
  repeat ((first|refine Br.t ?_|refine CW.s ?_);conv=>whnf)
  exact⟨rfl,rfl,r,Aa.refl _ _⟩
 have hla:=(GF.eH a ha oL).1;have ea:=pA ha oL;have ee:=tG (j:=255-GF.lg a) (by omega);have e1:amt a=GF.pw (255-GF.lg a):=(if_neg oL).trans (GF.inv_def a);have e2:rM a=0:=if_neg oL;rw[e1,e2];clear e1 e2;generalize GF.lg a=x at *;refine spec_of_wpE (T:=tt) ai func222 rfl (by decide +kernel) ntmps222 (by simp) ?_;conv=>whnf
 repeat ((first|refine Br.n ?_|refine CW.s ?_);conv=>whnf)
 refine Ca.of (adM g w r) ?_;rintro _ w2 ⟨rfl,r2,k2⟩;conv=>whnf
 refine CW.quiet (fun w'=>w'=w2.drewN 1) ai (by kernel_rfl) (by kernel_rfl) ?_ ?_
 ·rfl
 conv=>whnf
 repeat ((first|(refine Ag.at (j:=513+a) (by omega) (fun _ h=>by subst h;exact(r2.cell _ (by omega)).trans (congrArg some ea)) ?_)|(refine Ix.of (255-x) (by omega) (by omega) ?_)|(refine Ag.at (j:=3+(255-x)) (by omega) (fun _ h=>by subst h;exact(r2.cell _ (by omega)).trans (congrArg some ee)) ?_)|refine Ix.n ?_|refine Ar.la ?_);conv=>whnf)
 rintro w3 rfl;conv=>whnf
 exact⟨rfl,rfl,(FS.drewN (.inr r2) 1),k2.drewN 1⟩
def amv(a b:Nat):Nat:=if b=0 then 0 else GF.mul a (GF.inv b)
theorem agO(w:World)(g a b:Nat)(ha:a<256)(hb:b<256)(r:FS w g):Spec Tryz.prog 216 #[.pointer (some ⟨g,0,none⟩),.int .u8 a,.int .u8 b] w (A5 g w (.tuple #[.int .u8 (amv a b:Nat),al (rM b)])):=by
 refine spec_of_wpE (T:=tt) ai func216 rfl (by decide +kernel) ntmps216 (by simp) ?_;conv=>whnf
 refine Ca.of (amu w g b hb r) ?_;rintro _ w2 ⟨rfl,r2,k2⟩;by_cases jR:b=0
 ·subst jR;conv=>whnf
  repeat ((first|refine Br.t ?_|refine Ru.n1 ?_|refine CW.s ?_);conv=>whnf)
  exact⟨rfl,rfl,r2,k2⟩
 have e1:amt b=GF.inv b:=if_neg jR;have e2:rM b=0:=if_neg jR;have e3:amv a b=GF.mul a (GF.inv b):=if_neg jR;rw[e1,e2,e3];have hi:=GF.oM b;conv=>whnf
 repeat ((first|refine Br.f ?_|refine Ru.ak ?_|refine CW.s ?_);conv=>whnf)
 refine Ca.of (yW w2 g a (GF.inv b) ha hi r2) ?_;rintro _ w3 ⟨rfl,r3,k3⟩;conv=>whnf
 exact⟨rfl,rfl,r3,k2.trans k3⟩
def pwI(k:Int):Nat:=GF.pw (k%255).toNat
theorem amw{k m q:Int}(h:m=k-255*q)(h1 : -255<m):GF.pw (m+255).toNat=pwI k:=by
 unfold pwI;rw[<-GF.agI (m+255).toNat];congr 1;omega
theorem Dv.aqg{k:IntKind}{a b:Int}{K:Value->Prop}(hb:b≠0)(h:K (.int k (a.tmod b))):Dv .rem k a b K:=⟨hb,h⟩
theorem aki(k:Int):∃q,k.tmod 255=k-255*q/\-255<k.tmod 255/\k.tmod 255<255/\(0<=k->0<=k.tmod 255)/\(k<=0->k.tmod 255<=0):=by
 refine⟨k.tdiv 255,Int.tmod_def k 255,?_⟩;have h:=Int.tmod_def k 255;by_cases hk:0<=k
 ·have e:=Int.tmod_eq_emod_of_nonneg (b:=255) hk;rw[e];omega
 ·have e:k.tmod 255 = -((-k)%255):=by
   have:=Int.neg_tmod (-k) 255;rw[Int.neg_neg] at this;rw[this,Int.tmod_eq_emod_of_nonneg (by omega)]
  rw[e];omega
theorem amx(w:World)(g:Nat)(k:Int)(r:FS w g):Spec Tryz.prog 212 #[.pointer (some ⟨g,0,none⟩),.int .i64 k] w (A5 g w (.int .u8 (pwI k:Nat))):=by
 obtain⟨q,h1,h2,h3,-,-⟩:=aki k;rw[<-amw h1 h2];have ee:=tG (j:=(k.tmod 255+255).toNat) (by omega);refine spec_of_wpE (T:=tt) ai func212 rfl (by decide +kernel) ntmps212 (by simp) ?_;conv=>whnf
 refine Ca.of (adM g w r) ?_;rintro _ w2 ⟨rfl,r2,k2⟩;conv=>whnf
 refine Dv.aqg (by decide) ?_;generalize k.tmod 255=m at *;conv=>whnf
 repeat ((first|(refine Ix.of (m+255).toNat (by omega) (by omega) ?_)|(refine Ld.at (j:=3+(m+255).toNat) (by omega) ((r2.cell _ (by omega)).trans (congrArg some ee)) ?_)|refine Ar.la ?_);conv=>whnf)
 exact⟨rfl,rfl,.inr r2,k2⟩
def lgN(a:Nat):Nat:=if a=0 then 0 else GF.lg a
theorem amy(w:World)(g a:Nat)(ha:a<256)(r:FS w g):Spec Tryz.prog 217 #[.pointer (some ⟨g,0,none⟩),.int .u8 a] w (A5 g w (.tuple #[.int .i64 (lgN a:Nat),al (rM a)])):=by
 by_cases oL:a=0
 ·subst oL;refine spec_of_wpE (T:=tt) ai func217 rfl (by decide +kernel) ntmps217 (by simp) ?_;conv=>whnf
  repeat ((first|refine Br.t ?_|refine CW.s ?_);conv=>whnf)
  exact⟨rfl,rfl,r,Aa.refl _ _⟩
 have ea:=pA ha oL;have e1:lgN a=GF.lg a:=if_neg oL;have e2:rM a=0:=if_neg oL;rw[e1,e2];clear e1 e2;generalize GF.lg a=x at *;refine spec_of_wpE (T:=tt) ai func217 rfl (by decide +kernel) ntmps217 (by simp) ?_;conv=>whnf
 repeat ((first|refine Br.n ?_|refine CW.s ?_);conv=>whnf)
 refine Ca.of (adM g w r) ?_;rintro _ w2 ⟨rfl,r2,k2⟩;conv=>whnf
 repeat ((first|(refine Ld.at (j:=513+a) (by omega) ((r2.cell _ (by omega)).trans (congrArg some ea)) ?_)|refine Ix.n ?_);conv=>whnf)
 exact⟨rfl,rfl,.inr r2,k2⟩
end
section
namespace GF
attribute [local irreducible] GF.pw GF.lg GF.mul GF.inv GF.xt
def hH:Nat->(Nat->Nat)->Nat
 |0,_=>0
 |n+1,f=>hH n f ^^^ f n
theorem cW(n:Nat)(f:Nat->Nat):hH (n+1) f=hH n f ^^^ f n:=rfl
theorem kV{f:Nat->Nat}:∀ {n:Nat},(∀i,i<n->f i<256)->hH n f<256
 |0,_=>(by decide:0<256)
 |n+1,h=>bo (kV (fun i hi=>h i (by omega))) (h n (by omega))
theorem fZ{f g:Nat->Nat}:∀ {n:Nat},(∀i,i<n->f i=g i)->hH n f=hH n g
 |0,_=>rfl
 |n+1,h=>by rw[cW,cW,fZ (fun i hi=>h i (by omega)),h n (by omega)]
theorem xh:∀(n:Nat) {f:Nat->Nat},(∀i,i<n->f i=0)->hH n f=0
 |0,_,_=>rfl
 |n+1,f,h=>by rw[cW,xh n (fun i hi=>h i (by omega)),h n (by omega),Nat.xor_self]
theorem agP(n:Nat)(f g:Nat->Nat):hH n (fun i=>f i ^^^ g i)=hH n f ^^^ hH n g:=by
 induction n with
 |zero=>exact(Nat.xor_self 0).symm
 |succ n ih=>rw[cW,cW,cW,ih,aj9]
theorem agQ{n a:Nat}(ha:a<n)(v:Nat):hH n (fun s=>if a=s then v else 0)=v:=by
 induction n with
 |zero=>omega
 | succ n ih =>
  rw[cW];by_cases h:a=n
  ·subst h;rw[if_pos rfl,xh _ (fun i hi=>if_neg (by omega)),Nat.zero_xor]
  ·rw[if_neg h,Nat.xor_zero];exact ih (by omega)
theorem ack{a:Nat}(f:Nat->Nat)(n:Nat):mul a (hH n f)=hH n (fun i=>mul a (f i)):=by
 induction n with
 |zero=>exact du a
 |succ n ih=>rw[cW,fD,ih];rfl
theorem acm{a:Nat}{f:Nat->Nat}{n:Nat}(ha:a<256)(hf:∀i,f i<256):mul (hH n f) a=hH n (fun i=>mul (f i) a):=by
 rw[mul_comm (kV (fun i _=>hf i)) ha,ack];exact fZ (fun i _=>mul_comm ha (hf i))
def aP(p:Nat->Nat)(x:Nat):Nat->Nat
 |0=>0
 |n+1=>mul (aP p x n) x ^^^ p n
theorem kZ(p:Nat->Nat)(x n:Nat):aP p x (n+1)=mul (aP p x n) x ^^^ p n:=rfl
theorem fJ{p:Nat->Nat}(hp:∀j,p j<256)(x n:Nat):aP p x n<256:=by
 induction n with
 |zero=>exact(by decide:0<256)
 |succ n ih=>exact bo (mul_lt ih) (hp n)
theorem ep{p q:Nat->Nat}(x:Nat):∀ {n:Nat},(∀j,j<n->p j=q j)->aP p x n=aP q x n
 |0,_=>rfl
 |n+1,h=>by rw[kZ,kZ,ep x (fun j hj=>h j (by omega)),h n (by omega)]
def gp(x:Nat):Nat->Nat
 |0=>1
 |n+1=>mul (gp x n) x
theorem adN(x n:Nat):gp x (n+1)=mul (gp x n) x:=rfl
theorem aaA(x n:Nat):gp x n<256:=by
 induction n with
 |zero=>exact(by decide:1<256)
 |succ n ih=>exact mul_lt ih
theorem agR{p:Nat->Nat}(hp:∀j,p j<256){x:Nat}(hx:x<256)(n:Nat):aP p x n=hH n (fun i=>mul (p i) (gp x (n-1-i))):=by
 induction n with
 |zero=>rfl
 | succ n ih =>
  rw[kZ,ih,cW,show n+1-1-n=0 by omega,show gp x 0=1 from rfl,fh _ (hp n),acm hx (fun i=>mul_lt (hp i))];congr 1;refine fZ (fun i hi=>?_);rw[show n+1-1-i=(n-1-i)+1 by omega,adN,mul_assoc (hp i) (aaA x _) hx]
def term(p q:Nat->Nat)(i k s:Nat):Nat:=if i+k=s then mul (p i) (q k) else 0
theorem yX{p q:Nat->Nat}(hp:∀j,p j<256)(i k s:Nat):term p q i k s<256:=by
 unfold term;split
 ·exact mul_lt (hp i)
 ·decide
def tms(p q:Nat->Nat)(m i k s:Nat):Nat:=hH i (fun a=>hH m (fun b=>term p q a b s)) ^^^ hH k (fun b=>term p q i b s)
theorem amz{p q:Nat->Nat}(hp:∀j,p j<256)(m i k s:Nat):tms p q m i k s<256:=bo (kV (fun a _=>kV (fun b _=>yX hp a b s))) (kV (fun b _=>yX hp i b s))
theorem agS(p q:Nat->Nat)(m s:Nat):tms p q m 0 0 s=0:=by
 unfold tms;exact Nat.xor_self 0
theorem agT(p q:Nat->Nat)(m i k:Nat)(s:Nat):tms p q m i (k+1) s=if s=i+k then tms p q m i k s ^^^ mul (p i) (q k) else tms p q m i k s:=by
 unfold tms;rw[cW, <-Nat.xor_assoc];unfold term;by_cases h:s=i+k
 ·rw[if_pos h,if_pos h.symm]
 ·rw[if_neg h,if_neg (fun e=>h e.symm),Nat.xor_zero]
theorem akj(p q:Nat->Nat)(m i s:Nat):tms p q m i m s=tms p q m (i+1) 0 s:=by
 unfold tms;rw[cW,show hH 0 (fun b=>term p q (i+1) b s)=0 from rfl,Nat.xor_zero]
def conv(p q:Nat->Nat)(n m s:Nat):Nat:=hH n (fun a=>hH m (fun b=>term p q a b s))
theorem akk(p q:Nat->Nat)(m n s:Nat):tms p q m n 0 s=conv p q n m s:=by
 unfold tms conv;rw[show hH 0 (fun b=>term p q n b s)=0 from rfl,Nat.xor_zero]
theorem akl{p q:Nat->Nat}(hp:∀j,p j<256)(n m s:Nat):conv p q n m s<256:=kV (fun a _=>kV (fun b _=>yX hp a b s))
end GF
end
section
open Go.RowKit
theorem Ly.aL{w:World}{t t':TypeId}{s n c g m:Nat}{A:Option Addr}{f f':Nat->Value}(h:Ly w t s A n c f)(r:Row w g t' m f')(ht:t≠t'):g∉aK A:=by
 intro hx
 cases A with
 |none=>cases hx
 | some a =>
  obtain⟨b,cur,fr,rfl,hh,_⟩:=h.2.2.2 a rfl;obtain rfl:=List.mem_singleton.1 hx;rw[r] at hh;injection hh with hh;injection hh with _ e;exact ht e.symm
structure Own(w0 w:World)(X:Option Addr)(n c:Nat)(f:Nat->Int):Prop where
 ly:Ly w 5 1 X n c (fun j=>.int .u8 (f j))
 new:∀x,x∈aK X->w0.heap.size<=x
 ab:Aa [] w0 w
theorem Own.congr{w0 w:World}{X:Option Addr}{n c:Nat}{f f':Nat->Int}(h:Own w0 w X n c f)(e:∀j,j<n->f j=f' j):Own w0 w X n c f':=⟨h.ly.congr (fun j hj=>by rw[e j (by omega)]),h.new,h.ab⟩
theorem Own.start(w:World)(f:Nat->Int):Own w w none 0 0 f:=⟨Ly.nil _ _ _ _,(fun _ h=>by cases h),Aa.refl _ _⟩
theorem Bu.grow{w0 w:World}{X:Option Addr}{n c:Nat}{f:Nat->Int}{ty:TypeId}{cs:Array Bool}{K:Value->World->Prop}(O:Own w0 w X n c f){B:Option Addr}{m d:Nat}(g:Nat->Int)(hr:Rd w B m (fun j=>.int .u8 (g j)))(hm:m<=d)(hB:B=none->d=0)(hb:n+m<=140737488355328)
  (k:∀Y e w',Own w0 w' Y (n+m) e (fun j=>if j<n then f j else g (j-n))->Aa (aK X) w w'->K (.slice Y (n+m) e) w') :
  Bu Tryz.prog .append #[37,37] ty cs #[.slice X n c,.slice B m d] w K:=by
 obtain⟨i0,hi,lZ,lR,l4⟩:=info_parts dR;refine Bu.append underlying37 hi lZ lR l4 rfl (by omega) O.ly _ (by rw[Nat.mul_one];exact hr) hm hB (fun j hj=>rfl) (by simp only[maxLen];omega) (by omega) ?_;intro Y e w' hy hk da gZ;refine k Y e w' ⟨hy.congr (fun j hj=>?_),fun x hx=>?_,O.ab.then hk (fun x hx=>.inr (O.new x hx))⟩ hk
 ·simp only[Nat.mul_one];by_cases h:j<n
  ·rw[if_pos h,if_pos h]
  ·rw[if_neg h,if_neg h]
 ·rcases da with h|h
  ·exact O.new x (h ▸ hx)
  ·rw[h] at hx;rw[List.mem_singleton.1 hx];exact O.ab.size
theorem aaB(v:Int)(w:World):(Instr.buildSlice 37 1 #[(0,.int .u8 v)]).run Tryz.prog w=.ok (.slice (some ⟨w.heap.size,0,none⟩) 1 1) (w.alloc (.cells #[.int .u8 v] 5)):=by kernel_rfl
theorem agU(u v:Int)(w:World):(Instr.buildSlice 37 2 #[(0,.int .u8 u),(1,.int .u8 v)]).run Tryz.prog w=.ok (.slice (some ⟨w.heap.size,0,none⟩) 2 2) (w.alloc (.cells #[.int .u8 u,.int .u8 v] 5)):=by kernel_rfl
theorem Ru.b2{u v:Int}{w:World}{K:Value->World->Prop}(k:∀g w',g=w.heap.size->Rd w' (some ⟨g,0,none⟩) 2 (fun j=>.int .u8 (if j=0 then u else v))->Aa [] w w'->K (.slice (some ⟨g,0,none⟩) 2 2) w'):Ru Tryz.prog (Instr.buildSlice 37 2 #[(0,.int .u8 u),(1,.int .u8 v)]) w K :=
 ⟨_,_,agU u v w,k _ _ rfl (fun _=>⟨_,0,rfl,fun j hj=>by
  have:j=0\/j=1:=by omega
  rcases this with rfl|rfl<;>(simp only[World.cell?,heap_alloc_new];rfl)⟩) ((Aa.refl _ _).alloc _)⟩
end
section
open Go.RowKit
attribute [local irreducible] GF.pw GF.lg GF.mul GF.inv GF.xt
structure FK(w0:World)(g:Nat)(w:World):Prop where
 fs:FS w g
 kp:Aa [g] w0 w
section
variable{w0 w:World}{g:Nat}
theorem FK.of{u v:Value}{w':World}(h:FK w0 g w)(k:A5 g w u v w'):v=u/\FK w0 g w':=⟨k.1,k.2.1,h.kp.trans k.2.2⟩
theorem Ca.mul{K:Value->World->Prop}(h:FK w0 g w)(a b:Nat)(ha:a<256)(hb:b<256)(k:∀w',FK w0 g w'->K (.int .u8 (GF.mul a b:Nat)) w'):Ca Tryz.prog 214 #[.pointer (some ⟨g,0,none⟩),.int .u8 a,.int .u8 b] w K:=Ca.of (yW w g a b ha hb h.fs) fun v w' hp=>by
 obtain⟨rfl,hf⟩:=h.of hp;exact k w' hf
theorem Ca.ld{K:Value->World->Prop}(k:∀g w',w.heap.size<=g->FK w' g w'->Aa [] w w'->K (.pointer (some ⟨g,0,none⟩)) w'):Ca Tryz.prog 210 #[] w K:=Ca.of (yV w) fun v w' ⟨hv,hf,hk⟩=>by
 subst hv;exact k _ w' (Nat.le_refl _) ⟨hf,Aa.refl _ _⟩ hk
end
abbrev AI(w:World)(A:Option Addr)(n:Nat)(p:Nat->Nat):Prop:=Rd w A n (fun j=>.int .u8 (p j:Nat))
theorem vn{k:IntKind}{a b:Nat}(h:a=b):Value.int k (a:Int)=.int k (b:Int):=by rw[h]
theorem akm(w0 w:World)(g n c x:Nat)(A:Option Addr)(p:Nat->Nat)(hx:x<256)(hp:∀j,p j<256)(r:AI w A n p)(hA:0<n->∀a,A=some a->a.block≠g)(fk:FK w0 g w)(hn:n<=281474976710656) :
  Spec Tryz.prog 215 #[.pointer (some ⟨g,0,none⟩),.slice A n c,.int .u8 x] w fun v w'=>v=.int .u8 (GF.aP p x n:Nat)/\FK w0 g w'/\Aa [g] w w':=by
 refine spec_of_wpE (T:=tt) ai func215 rfl (by decide +kernel) ntmps215 (by simp) ?_;conv=>whnf
 repeat (refine CW.s ?_;conv=>whnf)
 refine CW.loop (ι:=Nat) (fun i w'=>i<=n/\FK w g w') (fun i=>[(0,.pointer (some ⟨g,0,none⟩)),(2,.int .u8 x),(7,.int .u8 (GF.aP p x i:Nat)),(10,.slice A n c),(11,.int .i64 n),(12,.int .i64 i)]) (fun i=>n-i) 0 ai ⟨by omega,fk.fs,Aa.refl _ _⟩ ⟨rfl,rfl,rfl,rfl,rfl,rfl,trivial⟩ ?_;rintro i wr ⟨hi,f1⟩;have he:=GF.fJ hp x i;by_cases av:i<n
 ·have bq:GF.aP p x (i+1)=GF.mul (GF.aP p x i) x ^^^ p i:=rfl;have hpi:=hp i;obtain⟨b,o,rfl,hc⟩:=(r.ab f1.kp (fun a ha=>by simpa using hA (by omega) a ha)) (by omega);have hci:=hc i av;generalize GF.aP p x i=e at *;conv=>whnf
  repeat ((first|(refine Ld.of hci ?_)|refine Ix.n ?_|refine Br.y ?_|refine CW.s ?_);conv=>whnf)
  refine Ca.mul f1 e x he hx ?_;intro w2 f2;conv=>whnf
  repeat (refine Ar.la ?_;conv=>whnf)
  refine⟨i+1,⟨av,f2⟩,⟨rfl,rfl,vi ?_,rfl,rfl,rfl,trivial⟩,by simp only;omega⟩;rw[bq];exact bI (GF.mul_lt he) hpi
 ·obtain rfl:i=n:=by omega
  conv=>whnf
  repeat ((first|refine Br.n ?_|refine CW.s ?_);conv=>whnf)
  exact⟨rfl,rfl,⟨f1.fs,fk.kp.trans f1.kp⟩,f1.kp⟩
theorem Ru.aou{w:World}{N:Nat}{x:Int}{K:Value->World->Prop}(e:x=(N:Int))(hn:N<=281474976710656)(k:∀g w',g=w.heap.size->w'.heap.size=w.heap.size+1->Row w' g 5 N (fun _=>.int .u8 0)->Aa [] w w'->K (.slice (some ⟨g,0,none⟩) N N) w'):Ru Tryz.prog (Instr.makeSlice 37 (.int .i64 x) (.int .i64 x)) w K:=by
 subst e;exact⟨_,_,run_make_row' (P:=Tryz.prog) 37 5 (.int .u8 0) 1 underlying37 dR rfl .i64 .i64 N (by omega) (by omega) w,k _ _ rfl (by simp) (Row.made _ _ _ _) ((Aa.refl _ _).alloc _)⟩
def Ce(w:World)(p q:Nat->Nat)(n m:Nat)(v:Value)(w':World):Prop:=((n=0\/m=0)/\v=.slice none 0 0)\/(0<n/\0<m/\∃h,w.heap.size<=h/\v=.slice (some ⟨h,0,none⟩) (n+m-1) (n+m-1)/\Row w' h 5 (n+m-1) (fun s=>.int .u8 (GF.conv p q n m s:Nat)))
theorem akn(p q:Nat->Nat)(m i k:Nat):put (fun s=>Value.int .u8 (GF.tms p q m i k s:Nat)) (i+k) (.int .u8 ((GF.tms p q m i k (i+k) ^^^ GF.mul (p i) (q k):Nat):Int))=fun s=>.int .u8 (GF.tms p q m i (k+1) s:Nat):=by
 funext s;unfold put;rw[GF.agT];by_cases h:s=i+k
 ·subst h;rw[if_pos rfl,if_pos rfl]
 ·rw[if_neg h,if_neg h]
theorem agV(w0 w:World)(g n m c d:Nat)(A B:Option Addr)(p q:Nat->Nat)(hp:∀j,p j<256)(hq:∀j,q j<256)(ra:AI w A n p)(rb:AI w B m q)(hA:0<n->∀a,A=some a->a.block≠g)(hB:0<m->∀a,B=some a->a.block≠g)(fk:FK w0 g w)(hn:n<=140737488351232)(hm:m<=140737488351232) :
  Spec Tryz.prog 211 #[.pointer (some ⟨g,0,none⟩),.slice A n c,.slice B m d] w fun v w'=>Ce w p q n m v w'/\FK w0 g w'/\Aa [g] w w':=by
 refine spec_of_wpE (T:=tt) ai func211 rfl (by decide +kernel) ntmps211 (by simp) ?_;by_cases hn0:n=0
 ·conv=>whnf
  repeat ((first|refine Br.t ?_|refine Pk.t ?_|refine Br.y ?_|refine CW.s ?_);conv=>whnf)
  exact⟨rfl,.inl ⟨.inl hn0,rfl⟩,fk,Aa.refl _ _⟩
 by_cases hm0:m=0
 ·conv=>whnf
  repeat ((first|refine Br.f ?_|refine Pk.f ?_|refine Br.y ?_|refine Br.n ?_|refine CW.s ?_);conv=>whnf)
  exact⟨rfl,.inl ⟨.inr hm0,rfl⟩,fk,Aa.refl _ _⟩
 conv=>whnf
 repeat ((first|refine Br.f ?_|refine Pk.f ?_|refine Ar.la ?_|refine Br.n ?_|refine CW.s ?_);conv=>whnf)
 refine Ru.aou (N:=n+m-1) (by omega) (by omega) ?_;intro h w1 hh dj rh k1;have hlg:=fk.fs.lt;have dg:g≠h:=by omega
 conv=>whnf
 repeat (refine CW.s ?_;conv=>whnf)
 refine CW.loop (ι:=Nat) (fun i w'=>i<=n/\FK w g w'/\Row w' h 5 (n+m-1) (fun s=>.int .u8 (GF.tms p q m i 0 s:Nat))) (fun i=>[(0,.pointer (some ⟨g,0,none⟩)),(2,.slice B m d),(7,.slice (some ⟨h,0,none⟩) (n+m-1) (n+m-1)),(27,.slice A n c),(28,.int .i64 n),(29,.int .i64 i)]) (fun i=>n-i) 0 ai ⟨by omega,⟨fk.fs.aj k1,k1.mono (by simp)⟩,rh.congr (fun s _=>by rw[GF.agS];rfl)⟩ ⟨rfl,rfl,rfl,rfl,rfl,rfl,trivial⟩ ?_;rintro i wr ⟨hi,f1,rh⟩;by_cases av:i<n
 ·obtain⟨b,o,rfl,hc⟩:=(ra.ab f1.kp (fun a ha=>by simpa using hA (by omega) a ha)) (by omega);have hci:=hc i av;have hpi:=hp i;have hl1:=rh.lt;conv=>whnf
  repeat ((first|(refine Ld.of hci ?_)|refine Ix.n ?_|refine Br.y ?_|refine CW.s ?_);conv=>whnf)
  refine CW.loop (ι:=Nat) (fun k w'=>k<=m/\FK w g w'/\Row w' h 5 (n+m-1) (fun s=>.int .u8 (GF.tms p q m i k s:Nat))) (fun k=>[(0,.pointer (some ⟨g,0,none⟩)),(2,.slice B m d),(7,.slice (some ⟨h,0,none⟩) (n+m-1) (n+m-1)),(8,.int .i64 i),(9,.int .u8 (p i:Nat)),(27,.slice (some ⟨b,o,none⟩) n c),(28,.int .i64 n),(29,.int .i64 i),(34,.slice B m d),(35,.int .i64 m),(36,.int .i64 k)]) (fun k=>m-k) 0 ai ⟨by omega,f1,rh⟩ ⟨rfl,rfl,rfl,rfl,rfl,rfl,rfl,rfl,rfl,rfl,rfl,trivial⟩ ?_;rintro k w2 ⟨hk,f2,rh⟩;by_cases amA:k<m
  ·obtain⟨b2,o2,rfl,lU⟩:=(rb.ab f2.kp (fun a ha=>by simpa using hB (by omega) a ha)) (by omega);have aqh:=lU k amA;have hqk:=hq k;have ht:=GF.amz (q:=q) hp m i k (i+k);have aqi:=akn p q m i k;have bM:=rh.cell (i+k) (by omega);conv=>whnf
   repeat ((first|(refine Ld.of aqh ?_)|refine Ix.n ?_|refine Br.y ?_|refine CW.s ?_);conv=>whnf)
   refine CW.held (fun w'=>Row w' h 5 (n+m-1) (fun s=>.int .u8 (GF.tms p q m i k s:Nat))) [12] (.take 0 (.take 1 (.take 2 (.take 3 (.take 4 (.take 5 (.take 6 (.take 7 (.take 8 (.one 9 (.take 10 (.take 11 (.one 12 (.done)))))))))))))) ai (by kernel_rfl) (by kernel_rfl) (by kernel_rfl) ?_ ?_
   ·exact rh.drewN 1
   have f2:FK w g (w2.drewN 1):=⟨f2.fs.drewN 1,f2.kp.drewN 1⟩;have rh:=rh.drewN 1;generalize w2.drewN 1=w3 at *;conv=>whnf
   repeat ((first|(refine Ag.at (j:=i+k) (by omega) (fun _ h=>h.cell (i+k) (by omega)) ?_)|refine Ix.n ?_|refine Ar.la ?_);conv=>whnf)
   refine Ca.of (yW w3 g (p i) (q k) hpi hqk f2.fs) ?_;rintro _ w4 ⟨rfl,s4,k4⟩;have rh:=rh.ab k4 (by simpa using dg.symm);conv=>whnf
   refine⟨rh,?_⟩;conv=>whnf
   repeat (refine Ix.n ?_;conv=>whnf)
   refine Sd.rowAt rh (i+k) (by omega) (by omega) rfl ?_;intro w5 rh k5;rw[bI ht (GF.mul_lt hpi),aqi] at rh;conv=>whnf
   repeat (refine Ar.la ?_;conv=>whnf)
   exact⟨k+1,⟨amA,⟨s4.ab k5 (by simpa using dg),(f2.kp.trans k4).then k5 (fun x hx=>.inr (by rw[List.mem_singleton.1 hx];omega))⟩,rh⟩,⟨rfl,rfl,rfl,rfl,rfl,rfl,rfl,rfl,rfl,rfl,rfl,trivial⟩,by simp only;omega⟩
  ·obtain rfl:k=m:=by omega
   conv=>whnf
   repeat ((first|refine Ar.la ?_|refine Br.n ?_|refine CW.s ?_);conv=>whnf)
   exact⟨i+1,⟨av,f2,rh.congr (fun s _=>vn (GF.akj p q k i s))⟩,⟨rfl,rfl,rfl,rfl,rfl,rfl,trivial⟩,by simp only;omega⟩
 ·obtain rfl:i=n:=by omega
  conv=>whnf
  repeat ((first|refine Br.n ?_|refine CW.s ?_);conv=>whnf)
  exact⟨rfl,.inr ⟨by omega,by omega,h,by omega,rfl,rh.congr (fun s _=>vn (GF.akk p q m i s))⟩,⟨f1.fs,fk.kp.trans f1.kp⟩,f1.kp⟩
theorem Ca.aov{w0 w:World}{g n c x:Nat}{A:Option Addr}{p:Nat->Nat}{K:Value->World->Prop}(hx:x<256)(hp:∀j,p j<256)(r:AI w A n p)(hA:0<n->∀a,A=some a->a.block≠g)(fk:FK w0 g w)(hn:n<=281474976710656)
  (k:∀w',FK w0 g w'->Aa [g] w w'->K (.int .u8 (GF.aP p x n:Nat)) w'):Ca Tryz.prog 215 #[.pointer (some ⟨g,0,none⟩),.slice A n c,.int .u8 x] w K:=Ca.of (akm w0 w g n c x A p hx hp r hA fk hn) fun v w' ⟨h1,h2,h3⟩=>by
 subst h1;exact k w' h2 h3
end
section
namespace GF
attribute [local irreducible] GF.pw GF.lg GF.mul GF.inv GF.xt
theorem pB:pw 0=1:=by decide +kernel
theorem agW{i j:Nat}(hi:i<255)(hj:j<255)(h:i≠j):pw i ^^^ pw j≠0:=fun e=>h (ach hi hj (by
 have:=congrArg (· ^^^ pw j) e;simp only[Nat.xor_assoc,Nat.xor_self,Nat.xor_zero,Nat.zero_xor] at this;exact this))
theorem xor_eq{a b:Nat}(h:a ^^^ b=0):a=b:=by
 have:=congrArg (· ^^^ b) h;simp only[Nat.xor_assoc,Nat.xor_self,Nat.xor_zero,Nat.zero_xor] at this;exact this
theorem adO{a b:Nat}(ha:a<256)(hb:b<256)(h:mul a b=0)(jR:b≠0):a=0:=by
 by_cases e:a=0
 ·exact e
 ·exact absurd h (sC ha hb e jR)
def hJ:List (Nat×Nat)->Nat->Nat
 | [],_=>0
 |(k,e)::P,j=>mul e (pw (j*k)) ^^^ hJ P j
theorem adP:∀(P:List (Nat×Nat)) (j:Nat),(∀x,x∈P->x.2<256)->hJ P j<256
 | [],_,_=>(by decide:0<256)
 |(k,e)::P,j,h=>bo (mul_lt (h (k,e) (by simp))) (adP P j (fun x hx=>h x (by simp[hx])))
def strip(k0:Nat)(P:List (Nat×Nat)):List (Nat×Nat):=P.map fun x=>(x.1,mul x.2 (pw x.1 ^^^ pw k0))
theorem tH(k0:Nat):∀(P:List (Nat×Nat)) (j:Nat),(∀x,x∈P->x.2<256)->hJ (strip k0 P) j=hJ P (j+1) ^^^ mul (pw k0) (hJ P j)
 | [],j,_=>by
  show 0=0 ^^^ mul (pw k0) 0;rw[du,Nat.xor_self]
 | (k,e)::P,j,h=>by
  have he:e<256:=h (k,e) (by simp);have ih:=tH k0 P j (fun x hx=>h x (by simp[hx]));have hs:=adP P j (fun x hx=>h x (by simp[hx]));show mul (mul e (pw k ^^^ pw k0)) (pw (j*k)) ^^^ hJ (strip k0 P) j=(mul e (pw ((j+1)*k)) ^^^ hJ P (j+1)) ^^^ mul (pw k0) (mul e (pw (j*k)) ^^^ hJ P j);rw[ih,fD (pw k0),fD e,fY (mul_lt he) (mul_lt he) (bB _),mul_assoc he (bB _) (bB _),fI,show k+j*k=(j+1)*k by rw[Nat.succ_mul];omega];have e1:mul (mul e (pw k0)) (pw (j*k))=mul (pw k0) (mul e (pw (j*k))):=by rw[mul_comm he (bB _),mul_assoc (bB _) he (bB _)]
  rw[e1];generalize mul e (pw ((j+1)*k))=a;generalize mul (pw k0) (mul e (pw (j*k)))=b;generalize hJ P (j+1)=c;generalize mul (pw k0) (hJ P j)=d;rw[aj9]
theorem van:∀(P:List (Nat×Nat)),(P.map Prod.fst).Nodup->(∀x,x∈P->x.1<255/\x.2<256)->(∀j,j<P.length->hJ P j=0)->∀x,x∈P->x.2=0
 | [],_,_,_,x,hx=>by cases hx
 | (k0,e0)::P,hn,hb,hs,x,hx=>by
  have hk0:=hb (k0,e0) (by simp);have hbP:∀y,y∈P->y.1<255/\y.2<256:=fun y hy=>hb y (by simp[hy]);rw[List.map_cons,List.nodup_cons] at hn;have hP:=van (strip k0 P) (by
    rw[show(strip k0 P).map Prod.fst=P.map Prod.fst by unfold strip;rw[List.map_map];rfl];exact hn.2) (fun y hy=>by
    obtain⟨z,hz,rfl⟩:=List.mem_map.1 hy;exact⟨(hbP z hz).1,mul_lt (hbP z hz).2⟩) (fun j hj=>by
    have hj:j<P.length:=by simpa[strip] using hj
    rw[tH k0 P j (fun y hy=>(hbP y hy).2)];have h1:=hs j (by simp;omega);have h2:=hs (j+1) (by simp;omega);have h1:mul e0 (pw (j*k0)) ^^^ hJ P j=0:=h1;have h2:mul e0 (pw ((j+1)*k0)) ^^^ hJ P (j+1)=0:=h2;rw[<-xor_eq h1, <-xor_eq h2,mul_comm (bB _) (mul_lt hk0.2),mul_assoc hk0.2 (bB _) (bB _),fI,show j*k0+k0=(j+1)*k0 by rw[Nat.succ_mul],Nat.xor_self])
  have cq:∀y,y∈P->y.2=0:=fun y hy=>by
   have h1:=hP (y.1,mul y.2 (pw y.1 ^^^ pw k0)) (List.mem_map.2 ⟨y,hy,rfl⟩);refine adO (hbP y hy).2 (bo (bB _) (bB _)) h1 (agW (hbP y hy).1 hk0.1 (fun e=>hn.1 ?_));rw[<-e];exact List.mem_map.2 ⟨y,hy,rfl⟩
  rcases List.mem_cons.1 hx with rfl|hx
  ·have h0:mul e0 (pw (0*k0)) ^^^ hJ P 0=0:=hs 0 (by simp);have hz:∀(Q:List (Nat×Nat)),(∀y,y∈Q->y.2=0)->hJ Q 0=0:=fun Q=>by
    induction Q with
    |nil=>intro _;rfl
    | cons y Q ih =>
     intro h;show mul y.2 _ ^^^ hJ Q 0=0;rw[h y (by simp),bT,ih (fun z hz=>h z (by simp[hz])),Nat.xor_self]
   rw[hz P cq,Nat.xor_zero,Nat.zero_mul,pB,fh _ hk0.2] at h0;exact h0
  ·exact cq x hx
termination_by P=>P.length
decreasing_by simp[strip]
def dA(W:Nat->Nat)(j:Nat):Nat:=aP W (pw j) 64
def Az(C:Nat->Nat):Prop:=∀j,j<6->dA C j=0
theorem aow(j e:Nat):gp (pw j) e=pw (j*e):=by
 induction e with
 |zero=>exact pB.symm
 |succ e ih=>rw[adN,ih,fI,Nat.mul_succ]
theorem pC{W:Nat->Nat}(hW:∀i,W i<256)(j:Nat):dA W j=hH 64 (fun i=>mul (W i) (pw (j*(63-i)))):=by
 unfold dA;rw[agR hW (bB j)];exact fZ (fun i _=>by rw[aow])
theorem yY{W:Nat->Nat}(hW:∀i,W i<256)(j:Nat):dA W j<256:=fJ hW _ _
theorem adQ{W V:Nat->Nat}(hW:∀i,W i<256)(hV:∀i,V i<256)(j:Nat):dA (fun i=>W i ^^^ V i) j=dA W j ^^^ dA V j:=by
 rw[pC (fun i=>bo (hW i) (hV i)),pC hW,pC hV, <-agP];exact fZ (fun i _=>fY (hW i) (hV i) (bB _))
theorem ako{p v:Nat}(hp:p<64)(hv:v<256)(j:Nat):dA (fun i=>if p=i then v else 0) j=mul v (pw (j*(63-p))):=by
 rw[pC (fun i=>by split<;>omega)];have e:∀i,mul (if p=i then v else 0) (pw (j*(63-i)))=if p=i then mul v (pw (j*(63-p))) else 0:=fun i=>by
  by_cases h:p=i
  ·subst h;rw[if_pos rfl,if_pos rfl]
  ·rw[if_neg h,if_neg h,bT]
 rw[fZ (fun i _=>e i),agQ hp]
def iS(W V:Nat->Nat):List Nat:=(List.range 64).filter fun i=>decide (W i≠V i)
def cc(W V:Nat->Nat):Nat:=(iS W V).length
theorem rN(f:Nat->Nat)(j:Nat)(p:Nat->Bool):∀(n:Nat),n<=64->(∀i,i<n->p i=false->f i=0)->hJ (((List.range n).filter p).map fun i=>(63-i,f i)) j=hH n (fun i=>mul (f i) (pw (j*(63-i))))
 |0,_,_=>rfl
 | n+1,hn,h=>by
  have ih:=rN f j p n (by omega) (fun i hi=>h i (by omega));have app:∀(P Q:List (Nat×Nat)),hJ (P++Q) j=hJ P j ^^^ hJ Q j:=fun P Q=>by
   induction P with
   |nil=>exact(Nat.zero_xor _).symm
   | cons x P ih =>
    show mul x.2 _ ^^^ hJ (P++Q) j=(mul x.2 _ ^^^ hJ P j) ^^^ hJ Q j;rw[ih,Nat.xor_assoc]
  rw[List.range_succ,List.filter_append,List.map_append,app,ih,cW];congr 1;by_cases e:p n=true
  ·simp only[List.filter_cons,e,if_true,List.filter_nil,List.map_cons,List.map_nil,hJ,Nat.xor_zero]
  ·have e:p n=false:=by simpa using e
   simp only[List.filter_cons,e,List.filter_nil];rw[h n (by omega) e,bT];rfl
theorem agX{C D:Nat->Nat}(hC:∀i,C i<256)(hD:∀i,D i<256)(cC:Az C)(cD:Az D)(hd:cc C D<=6):∀i,i<64->C i=D i:=by
 have hs:∀j,j<6->hJ ((iS C D).map fun i=>(63-i,C i ^^^ D i)) j=0:=fun j hj=>by
  unfold iS;rw[rN (fun i=>C i ^^^ D i) j _ 64 (Nat.le_refl _) (fun i hi h=>by
   have:C i=D i:=by simpa using h
   rw[this,Nat.xor_self]), <-pC (W:=fun i=>C i ^^^ D i) (fun i=>bo (hC i) (hD i)),adQ hC hD,cC j hj,cD j hj,Nat.xor_self]
 have yZ:∀i,i∈iS C D->i<64:=fun i hi=>List.mem_range.1 (List.mem_filter.1 hi).1;have hv:=van ((iS C D).map fun i=>(63-i,C i ^^^ D i)) (by
  rw[List.map_map];have:((iS C D).map ((Prod.fst:Nat×Nat->Nat) ∘ fun i=>(63-i,C i ^^^ D i)))=(iS C D).map (fun i=>63-i):=rfl;rw[this,List.Nodup,List.pairwise_map];refine(List.Pairwise.and_mem.1 (List.Pairwise.filter _ List.nodup_range:(iS C D).Pairwise _)).imp ?_;rintro a b ⟨ha,hb,cn⟩ e;have:=yZ a ha;have:=yZ b hb;exact cn (by omega)) (fun x hx=>by
  obtain⟨i,hi,rfl⟩:=List.mem_map.1 hx;have:=yZ i hi;exact⟨by simp only;omega,bo (hC i) (hD i)⟩) (fun j hj=>hs j (by
  rw[List.length_map] at hj;exact Nat.lt_of_lt_of_le hj hd))
 intro i hi;by_cases e:C i=D i
 ·exact e
 ·have hm:i∈iS C D:=List.mem_filter.2 ⟨List.mem_range.2 hi,by simpa using e⟩;exact xor_eq (hv (63-i,C i ^^^ D i) (List.mem_map.2 ⟨i,hm,rfl⟩))
theorem tI(a b c:Nat->Bool)(h:∀i,c i=true->a i=true\/b i=true):∀l:List Nat,l.countP c<=l.countP a+l.countP b
 | []=>by simp
 | i::l=>by
  have ih:=tI a b c h l;rw[List.countP_cons,List.countP_cons,List.countP_cons];by_cases hc:c i=true
  ·rw[if_pos hc];rcases h i hc with h1|h1
   ·rw[if_pos h1];split<;>omega
   ·rw[if_pos h1];split<;>omega
  ·rw[if_neg hc];split<;>split<;>omega
theorem aaC(A B C:Nat->Nat):cc A C<=cc A B+cc B C:=by
 unfold cc iS;rw[<-List.countP_eq_length_filter, <-List.countP_eq_length_filter, <-List.countP_eq_length_filter];refine tI _ _ _ (fun i hi=>?_) _;have hi:=of_decide_eq_true hi;by_cases h:A i=B i
 ·exact .inr (decide_eq_true (fun e=>hi (h.trans e)))
 ·exact .inl (decide_eq_true h)
theorem iG(A B:Nat->Nat):cc A B=cc B A:=by
 unfold cc iS;congr 1;refine List.filter_congr (fun i _=>?_);exact decide_eq_decide.2 ⟨fun h e=>h e.symm,fun h e=>h e.symm⟩
end GF
end
section
namespace GF
attribute [local irreducible] GF.pw GF.lg GF.mul GF.inv GF.xt
structure G where
 v:Nat
 lt:v<256
theorem G.eq{a b:G}(h:a.v=b.v):a=b:=by
 cases a
 cases b
 simp only at h;subst h;rfl
instance:Add G:=⟨fun a b=>⟨a.v ^^^ b.v,bo a.lt b.lt⟩⟩
instance:Mul G:=⟨fun a b=>⟨GF.mul a.v b.v,mul_lt a.lt⟩⟩
instance:Zero G:=⟨⟨0,by decide⟩⟩
instance:One G:=⟨⟨1,by decide⟩⟩
theorem G.add_comm(a b:G):a+b=b+a:=G.eq (Nat.xor_comm _ _)
theorem G.add_assoc(a b c:G):a+b+c=a+(b+c):=G.eq (Nat.xor_assoc _ _ _)
theorem G.mul_comm(a b:G):a*b=b*a:=G.eq (GF.mul_comm a.lt b.lt)
theorem G.mul_assoc(a b c:G):a*b*c=a*(b*c):=G.eq (GF.mul_assoc a.lt b.lt c.lt)
theorem G.mul_add(a b c:G):a*(b+c)=a*b+a*c:=G.eq (fD _ _ _)
theorem G.add_mul(a b c:G):(a+b)*c=a*c+b*c:=G.eq (fY a.lt b.lt c.lt)
theorem G.pD(a:G):a+a=0:=G.eq (Nat.xor_self _)
theorem G.add_zero(a:G):a+0=a:=G.eq (Nat.xor_zero _)
theorem G.zero_add(a:G):0+a=a:=G.eq (Nat.zero_xor _)
theorem G.mul_zero(a:G):a*0=0:=G.eq (du _)
theorem G.zero_mul(a:G):0*a=0:=G.eq (bT _)
instance:Std.Commutative (α:=G) (· + ·):=⟨G.add_comm⟩
instance:Std.Associative (α:=G) (· + ·):=⟨G.add_assoc⟩
instance:Std.Commutative (α:=G) (· * ·):=⟨G.mul_comm⟩
instance:Std.Associative (α:=G) (· * ·):=⟨G.mul_assoc⟩
theorem G.dI(a b:G):a+(a+b)=b:=by rw[<-G.add_assoc,G.pD,G.zero_add]
theorem G.add_eq_zero{a b:G}(h:a+b=0):a=b:=by
 have:=congrArg (· + b) h;simp only[G.add_assoc,G.pD,G.add_zero,G.zero_add] at this;exact this
theorem G.mul_eq_zero{a b:G}(h:a*b=0):a=0\/b=0:=by
 by_cases hb:b.v=0
 ·exact .inr (G.eq hb)
 ·exact .inl (G.eq (adO a.lt b.lt (congrArg G.v h) hb))
theorem G.agY(a b:G):(a+b)*(a+b)=a*a+b*b:=by
 rw[G.mul_add,G.add_mul,G.add_mul,G.mul_comm b a];have:a*a+a*b+(a*b+b*b)=a*a+((a*b)+((a*b)+b*b)):=by ac_rfl
 rw[this,G.dI]
section
variable(u v X Y:G)
theorem G.amB:u*X+v*Y=(u+v)*Y+u*(X+Y):=by
 rw[G.add_mul,G.mul_add];have:u*Y+v*Y+(u*X+u*Y)=(u*Y)+((u*Y)+(u*X+v*Y)):=by ac_rfl
 rw[this,G.dI]
theorem G.aqj:u*(X*X)+v*(Y*Y)=(u+v)*(Y*Y)+u*((X+Y)*(X+Y)):=by rw[G.agY,G.amB]
theorem G.akp:(u*X+v*Y)*(u*X+v*Y)+(u+v)*(u*(X*X)+v*(Y*Y))=v*(u*((X+Y)*(X+Y))):=by
 rw[G.amB u v X Y,G.aqj u v X Y];generalize hd:X+Y=d;generalize hs:u+v=s;have hv:v=u+s:=by rw[<-hs,G.dI]
 rw[G.agY,G.mul_add,hv,G.add_mul];have e1:s*Y*(s*Y)=s*(s*(Y*Y)):=by ac_rfl
 have e2:u*d*(u*d)=u*(u*(d*d)):=by ac_rfl
 rw[e1,e2];have:s*(s*(Y*Y))+u*(u*(d*d))+(s*(s*(Y*Y))+s*(u*(d*d)))=s*(s*(Y*Y))+(s*(s*(Y*Y))+(u*(u*(d*d))+s*(u*(d*d)))):=by ac_rfl
 rw[this,G.dI]
theorem G.adR(p q:G):p*(X*X)+q*(Y*Y)=(X+Y)*(p*X+q*Y)+(X*Y)*(p+q):=by
 rw[G.add_mul,G.mul_add,G.mul_add,G.mul_add];have:X*(p*X)+X*(q*Y)+(Y*(p*X)+Y*(q*Y))+(X*Y*p+X*Y*q)=(X*Y*q)+((X*Y*q)+((X*Y*p)+((X*Y*p)+(p*(X*X)+q*(Y*Y))))):=by ac_rfl
 rw[this,G.dI,G.dI]
end
section
variable{s0 s1 s2 s3 a b:G}(h2:s2=a*s1+b*s0)(h3:s3=a*s2+b*s1)
include h2 h3
theorem G.akq:s1*s2+s0*s3=a*(s1*s1+s0*s2):=by
 have e:s1*s2=s1*(a*s1+b*s0):=by rw[<-h2]
 rw[e,h3,G.mul_add,G.mul_add,G.mul_add];have:s1*(a*s1)+s1*(b*s0)+(s0*(a*s2)+s0*(b*s1))=(s1*(b*s0))+((s1*(b*s0))+(a*(s1*s1)+a*(s0*s2))):=by ac_rfl
 rw[this,G.dI]
theorem G.akr:s2*s2+s1*s3=b*(s1*s1+s0*s2):=by
 have e:s2*s2=s2*(a*s1+b*s0):=by rw[<-h2]
 rw[e,h3,G.mul_add,G.mul_add,G.mul_add];have:s2*(a*s1)+s2*(b*s0)+(s1*(a*s2)+s1*(b*s1))=(s2*(a*s1))+((s2*(a*s1))+(b*(s1*s1)+b*(s0*s2))):=by ac_rfl
 rw[this,G.dI]
end
theorem G.root(x X Y:G):x*x+(X+Y)*x+X*Y=(x+X)*(x+Y):=by
 rw[G.add_mul,G.add_mul,G.mul_add,G.mul_add]
 ac_rfl
end GF
end
section
namespace GF
attribute [local irreducible] GF.pw GF.lg GF.mul GF.inv GF.xt
def fix(W:Nat->Nat)(p v:Nat):Nat->Nat:=fun i=>if i=p then W i ^^^ v else W i
theorem y6{W:Nat->Nat}(hW:∀i,W i<256){p v:Nat}(hv:v<256):∀i,fix W p v i<256:=fun i=>by
 unfold fix;split
 ·exact bo (hW i) hv
 ·exact hW i
theorem sE{W:Nat->Nat}(hW:∀i,W i<256){k v:Nat}(hk:k<64)(hv:v<256)(j:Nat):dA (fix W (63-k) v) j=dA W j ^^^ mul v (pw (j*k)):=by
 have h1:=ako (p:=63-k) (by omega) hv j;rw[show 63-(63-k)=k by omega] at h1;rw[<-h1, <-adQ hW (fun i=>by split<;>omega)];unfold dA;refine ep _ (fun i _=>?_);unfold fix;by_cases h:i=63-k
 ·rw[if_pos h,if_pos h.symm]
 ·rw[if_neg h,if_neg (fun e=>h e.symm),Nat.xor_zero]
def jS(s:Nat->Nat):Nat:=mul (s 1) (inv (s 0))
structure Bj(s:Nat->Nat):Prop where
 z0:s 0≠0
 z1:s 1≠0
 all:∀j,1<=j->j<6->mul (s (j-1)) (jS s)=s j
 at_:lg (jS s)<64
theorem adS{s:Nat->Nat}(hs:∀j,s j<256):jS s<256:=mul_lt (hs 1)
theorem one_pow{s:Nat->Nat}(hs:∀j,s j<256)(h:Bj s):∀j,j<6->s j=mul (s 0) (pw (j*lg (jS s))):=by
 have hx:=adS hs;have hx0:jS s≠0:=sC (hs 1) (oM _) h.z1 (adL _);have hl:=(eH _ hx hx0).2;intro j
 induction j with
 | zero =>
  intro _;rw[Nat.zero_mul,pB,fh _ (hs 0)]
 | succ j ih =>
  intro hj;have h1:=h.all (j+1) (by omega) hj;rw[show j+1-1=j by omega] at h1;rw[<-h1,ih (by omega),mul_assoc (hs 0) (bB _) hx,Nat.succ_mul, <-fI,hl]
theorem agZ{W:Nat->Nat}{k v:Nat}(hk:k<64)(hv:v≠0):cc W (fix W (63-k) v)=1:=by
 unfold cc iS;rw[<-List.countP_eq_length_filter];have:(List.range 64).countP (fun i=>decide (W i≠fix W (63-k) v i))=(List.range 64).countP (fun i=>i == 63-k):=by
  refine List.countP_congr (fun i hi=>?_);unfold fix;by_cases h:i=63-k
  ·simp only[h,if_true,decide_eq_true_eq,beq_self_eq_true,iff_true];intro e;have:W (63-k) ^^^ (W (63-k) ^^^ v)=0:=by rw[<-e,Nat.xor_self]
   rw[<-Nat.xor_assoc,Nat.xor_self,Nat.zero_xor] at this;exact hv this
  ·simp[h]
 rw[this];have hc:∀p,p<64->(List.range 64).countP (fun i=>i == p)=1:=by decide
 exact hc (63-k) (by omega)
theorem ae5{W:Nat->Nat}(hW:∀i,W i<256)(h:Bj (dA W)):Az (fix W (63-lg (jS (dA W))) (dA W 0))/\cc W (fix W (63-lg (jS (dA W))) (dA W 0))=1 :=
 ⟨fun j hj=>by rw[sE hW h.at_ (yY hW 0), <-one_pow (yY hW) h j hj,Nat.xor_self],agZ h.at_ h.z0⟩
theorem ag0{C W:Nat->Nat}(h:cc C W=1):∃p,p<64/\C p≠W p/\∀i,i<64->i≠p->C i=W i:=by
 unfold cc at h;obtain⟨p,hp⟩:=List.length_eq_one_iff.1 h;have hm:p∈iS C W:=by rw[hp];simp
 have hm2:=List.mem_filter.1 hm;refine⟨p,List.mem_range.1 hm2.1,of_decide_eq_true hm2.2,fun i hi cn=>?_⟩;by_cases e:C i=W i
 ·exact e
 ·have:i∈iS C W:=List.mem_filter.2 ⟨List.mem_range.2 hi,decide_eq_true e⟩;rw[hp] at this;exact absurd (List.mem_singleton.1 this) cn
theorem m8{W V:Nat->Nat}(h:∀i,i<64->W i=V i)(j:Nat):dA W j=dA V j:=ep _ h
theorem y7{C W:Nat->Nat}(hC:∀i,C i<256)(hW:∀i,W i<256)(hc:Az C)(h:cc C W=1):Bj (dA W):=by
 obtain⟨p,hp,cn,cq⟩:=ag0 h;have hv:C p ^^^ W p≠0:=fun e=>cn (xor_eq e);have hvl:C p ^^^ W p<256:=bo (hC p) (hW p);have hs:∀j,j<6->dA W j=mul (C p ^^^ W p) (pw (j*(63-p))):=fun j hj=>by
  have e1:dA W j=dA (fix C (63-(63-p)) (C p ^^^ W p)) j:=m8 (fun i hi=>by
   unfold fix;by_cases e:i=63-(63-p)
   ·have e:i=p:=by omega
    subst e;rw[if_pos (by omega), <-Nat.xor_assoc,Nat.xor_self,Nat.zero_xor]
   ·rw[if_neg e,cq i hi (by omega)]) j
  rw[e1,sE hC (by omega) hvl,hc j hj,Nat.zero_xor]
 generalize C p ^^^ W p=v at *;have hl:lg (pw (63-p))=63-p:=yQ _ (by omega);have s0:dA W 0=v:=by rw[hs 0 (by omega),Nat.zero_mul,pB,fh _ hvl]
 have s1:dA W 1=mul v (pw (63-p)):=by rw[hs 1 (by omega),Nat.one_mul]
 have hx:jS (dA W)=pw (63-p):=by
  unfold jS;rw[s0,s1,mul_assoc hvl (bB _) (oM _),mul_comm (bB _) (oM _), <-mul_assoc hvl (oM _) (bB _),adK hvl hv,xd (bB _)]
 refine⟨by rw[s0];exact hv,by rw[s1];exact sC hvl (bB _) hv (yR _),fun j h1 h6=>?_,by rw[hx,hl];omega⟩;rw[hx,hs (j-1) (by omega),hs j h6,mul_assoc hvl (bB _) (bB _),fI];congr 2;have:j=(j-1)+1:=by omega
 conv=>rhs;rw[this,Nat.succ_mul]
def oN(s:Nat->Nat):Nat:=mul (s 1) (s 1) ^^^ mul (s 0) (s 2)
def aN(s:Nat->Nat):Nat:=mul (mul (s 1) (s 2) ^^^ mul (s 0) (s 3)) (inv (oN s))
def bN(s:Nat->Nat):Nat:=mul (mul (s 2) (s 2) ^^^ mul (s 1) (s 3)) (inv (oN s))
def aaD(a b k:Nat):Bool:=mul (pw k) (pw k) ^^^ mul a (pw k) ^^^ b == 0
def ck(a b n:Nat):List Nat:=(List.range n).filter (aaD a b)
def sm(s:Nat->Nat)(k0 k1:Nat):Nat:=mul (s 1 ^^^ mul (s 0) (pw k1)) (inv (pw k0 ^^^ pw k1))
structure AY(s:Nat->Nat)(k0 k1:Nat):Prop where
 det:oN s≠0
 roots:ck (aN s) (bN s) 64=[k0,k1]
 e0:sm s k0 k1≠0
 e1:sm s k0 k1≠s 0
def wu(W:Nat->Nat)(s:Nat->Nat)(k0 k1:Nat):Nat->Nat:=fix (fix W (63-k0) (sm s k0 k1)) (63-k1) (sm s k0 k1 ^^^ s 0)
theorem y8{s:Nat->Nat}(hs:∀j,s j<256)(k0 k1:Nat):sm s k0 k1<256:=mul_lt (bo (hs 1) (mul_lt (hs 0)))
theorem AY.lt{s:Nat->Nat}{k0 k1:Nat}(h:AY s k0 k1):k0<k1/\k1<64:=by
 have h1:k1∈ck (aN s) (bN s) 64:=by rw[h.roots];simp
 have h2:=List.mem_range.1 (List.mem_filter.1 h1).1;have h3:(ck (aN s) (bN s) 64).Pairwise (· < ·):=List.Pairwise.filter _ List.pairwise_lt_range;rw[h.roots] at h3;have:=(List.pairwise_cons.1 h3).1 k1 (by simp);exact⟨this,h2⟩
theorem ag1{W s:Nat->Nat}{k0 k1:Nat}(h:AY s k0 k1):cc W (wu W s k0 k1)=2:=by
 obtain⟨h1,h2⟩:=h.lt;have hv1:sm s k0 k1≠0:=h.e0;have sn:sm s k0 k1 ^^^ s 0≠0:=fun e=>h.e1 (xor_eq e);unfold cc iS wu;generalize sm s k0 k1=u at *;generalize u ^^^ s 0=v at *;rw[<-List.countP_eq_length_filter];have hx:∀a v:Nat,a=a ^^^ v->v=0:=fun a v e=>by
  have:a ^^^ (a ^^^ v)=0:=by rw[<-e,Nat.xor_self]
  rw[<-Nat.xor_assoc,Nat.xor_self,Nat.zero_xor] at this;exact this
 have:(List.range 64).countP (fun i=>decide (W i≠fix (fix W (63-k0) u) (63-k1) v i))=(List.range 64).countP (fun i=>i == 63-k0||i == 63-k1):=by
  refine List.countP_congr (fun i hi=>?_);unfold fix;by_cases e1:i=63-k1
  ·have e0:¬63-k1=63-k0:=by omega
   simp only[e1,e0,if_true,if_false,decide_eq_true_eq,beq_self_eq_true,Bool.or_true,iff_true];exact fun e=>sn (hx _ _ e)
  ·by_cases e0:i=63-k0
   ·simp only[e1,if_false,e0,if_true,decide_eq_true_eq,beq_self_eq_true,Bool.true_or,iff_true];rw[if_neg (by omega)];exact fun e=>hv1 (hx _ _ e)
   ·simp[e0,e1]
 rw[this];have hc:∀p,p<64->∀q,q<64->p≠q->(List.range 64).countP (fun i=>i == p||i == q)=2:=by decide +kernel
 exact hc (63-k0) (by omega) (63-k1) (by omega) (by omega)
theorem ag2{C W:Nat->Nat}(h:cc C W=2):∃p q,p<q/\q<64/\C p≠W p/\C q≠W q/\∀i,i<64->i≠p->i≠q->C i=W i:=by
 unfold cc at h;have h2:∀l:List Nat,l.length=2->∃p q,l=[p,q]:=fun l=>by
  match l with
  | []=>intro h;exact absurd h (by decide)
  | [_]=>intro h;exact absurd h (by simp)
  | [p,q]=>intro _;exact⟨p,q,rfl⟩
  |_::_::_::_=>intro h;simp at h
 obtain⟨p,q,hp⟩:=h2 _ h;have hm:p∈iS C W:=by rw[hp];simp
 have hm2:q∈iS C W:=by rw[hp];simp
 have ho:(iS C W).Pairwise (· < ·):=List.Pairwise.filter _ List.pairwise_lt_range;rw[hp] at ho;refine⟨p,q,(List.pairwise_cons.1 ho).1 q (by simp),List.mem_range.1 (List.mem_filter.1 hm2).1,of_decide_eq_true (List.mem_filter.1 hm).2,of_decide_eq_true (List.mem_filter.1 hm2).2,fun i hi h1 h2=>?_⟩;by_cases e:C i=W i
 ·exact e
 ·have:i∈iS C W:=List.mem_filter.2 ⟨List.mem_range.2 hi,decide_eq_true e⟩;rw[hp] at this;rcases List.mem_cons.1 this with e1|e1
  ·exact absurd e1 h1
  ·exact absurd (List.mem_singleton.1 e1) h2
theorem mul_div{a b:Nat}(ha:a<256)(hb:b<256)(jR:b≠0):mul (mul a b) (inv b)=a:=by rw[mul_assoc ha hb (oM _),adK hb jR,fh _ ha]
theorem acn:∀k0,k0<64->∀k1,k1<64->k0<k1->(List.range 64).filter (fun k=>k == k0||k == k1)=[k0,k1]:=by decide +kernel
theorem y9{C W:Nat->Nat}(hC:∀i,C i<256)(hW:∀i,W i<256)(hc:Az C)(h:cc C W=2):∃k0 k1,AY (dA W) k0 k1/\∀i,i<64->wu W (dA W) k0 k1 i=C i:=by
 obtain⟨p,q,hpq,hq,hnp,hnq,cq⟩:=ag2 h;have hv0:C p ^^^ W p≠0:=fun e=>hnp (xor_eq e);have hu0:C q ^^^ W q≠0:=fun e=>hnq (xor_eq e);have hvl:C p ^^^ W p<256:=bo (hC p) (hW p);have hul:C q ^^^ W q<256:=bo (hC q) (hW q);have hs:∀j,j<6->dA W j=mul (C q ^^^ W q) (pw (j*(63-q))) ^^^ mul (C p ^^^ W p) (pw (j*(63-p))):=fun j hj=>by
  have e1:dA W j=dA (fix (fix C (63-(63-q)) (C q ^^^ W q)) (63-(63-p)) (C p ^^^ W p)) j:=m8 (fun i hi=>by
   unfold fix;by_cases e:i=p
   ·rw[if_pos (by omega),if_neg (by omega),e, <-Nat.xor_assoc,Nat.xor_self,Nat.zero_xor]
   ·rw[if_neg (by omega)];by_cases e2:i=q
    ·rw[if_pos (by omega),e2, <-Nat.xor_assoc,Nat.xor_self,Nat.zero_xor]
    ·rw[if_neg (by omega),cq i hi e e2]) j
  rw[e1,sE (y6 hC hul) (by omega) hvl,sE hC (by omega) hul,hc j hj,Nat.zero_xor]
 have aox:W q ^^^ (C q ^^^ W q)=C q:=by rw[Nat.xor_comm (C q), <-Nat.xor_assoc,Nat.xor_self,Nat.zero_xor]
 have aoy:W p ^^^ (C p ^^^ W p)=C p:=by rw[Nat.xor_comm (C p), <-Nat.xor_assoc,Nat.xor_self,Nat.zero_xor]
 generalize hu:C q ^^^ W q=u at *;generalize hv:C p ^^^ W p=v at *;have hX:=bB (63-q);have hY:=bB (63-p);have hD:pw (63-q) ^^^ pw (63-p)≠0:=agW (by omega) (by omega) (by omega);have t0:dA W 0=u ^^^ v:=by rw[hs 0 (by omega),Nat.zero_mul,Nat.zero_mul,pB,fh _ hul,fh _ hvl]
 have t1:dA W 1=mul u (pw (63-q)) ^^^ mul v (pw (63-p)):=by rw[hs 1 (by omega),Nat.one_mul,Nat.one_mul]
 have t2:dA W 2=mul u (mul (pw (63-q)) (pw (63-q))) ^^^ mul v (mul (pw (63-p)) (pw (63-p))):=by rw[hs 2 (by omega),fI,fI,show 2*(63-q)=(63-q)+(63-q) by omega,show 2*(63-p)=(63-p)+(63-p) by omega]
 have t3:dA W 3=mul (mul u (pw (63-q))) (mul (pw (63-q)) (pw (63-q))) ^^^ mul (mul v (pw (63-p))) (mul (pw (63-p)) (pw (63-p))):=by
  rw[hs 3 (by omega),fI,fI,mul_assoc hul hX (bB _),mul_assoc hvl hY (bB _),fI,fI,show 3*(63-q)=(63-q)+((63-q)+(63-q)) by omega,show 3*(63-p)=(63-p)+((63-p)+(63-p)) by omega]
 have hb:=yY hW;have aqk:∀k,k<64->(pw k=pw (63-q)↔k=63-q):=fun k hk=>⟨fun e=>ach (by omega) (by omega) e,fun e=>by rw[e]⟩
 have aql:∀k,k<64->(pw k=pw (63-p)↔k=63-p):=fun k hk=>⟨fun e=>ach (by omega) (by omega) e,fun e=>by rw[e]⟩
 have hkx:pw (63-q)=pw (63-q):=rfl;generalize hXX:pw (63-q)=x at *;generalize hYY:pw (63-p)=y at *;let U:G:=⟨u,hul⟩;let V:G:=⟨v,hvl⟩;let X:G:=⟨x,hX⟩;let Y:G:=⟨y,hY⟩;let S0:G:=⟨dA W 0,hb 0⟩;let S1:G:=⟨dA W 1,hb 1⟩;let S2:G:=⟨dA W 2,hb 2⟩;let S3:G:=⟨dA W 3,hb 3⟩;have g0:S0=U+V:=G.eq t0;have g1:S1=U*X+V*Y:=G.eq t1;have g2:S2=U*(X*X)+V*(Y*Y):=G.eq t2;have g3:S3=U*X*(X*X)+V*Y*(Y*Y):=G.eq t3;have r2:S2=(X+Y)*S1+(X*Y)*S0:=by rw[g2,g1,g0];exact G.adR X Y U V
 have r3:S3=(X+Y)*S2+(X*Y)*S1:=by
  rw[g3,g2,g1,G.adR X Y (U*X) (V*Y)];simp only[G.mul_assoc]
 have aqm:S1*S1+S0*S2=V*(U*((X+Y)*(X+Y))):=by rw[g1,g0,g2];exact G.akp U V X Y
 have hD':(X+Y)≠0:=fun e=>hD (congrArg G.v e);have hU':U≠0:=fun e=>hu0 (congrArg G.v e);have hV':V≠0:=fun e=>hv0 (congrArg G.v e);have aoz:S1*S1+S0*S2≠0:=fun e=>by
  rw[aqm] at e;rcases G.mul_eq_zero e with e|e
  ·exact hV' e
  ·rcases G.mul_eq_zero e with e|e
   ·exact hU' e
   ·rcases G.mul_eq_zero e with e|e
    ·exact hD' e
    ·exact hD' e
 have hdn:oN (dA W)=(S1*S1+S0*S2).v:=rfl;have amC:oN (dA W)≠0:=fun e=>aoz (G.eq e);have hdl:oN (dA W)<256:=(S1*S1+S0*S2).lt;have ha:aN (dA W)=x ^^^ y:=by
  have e:=congrArg G.v (G.akq r2 r3);have e:mul (dA W 1) (dA W 2) ^^^ mul (dA W 0) (dA W 3)=mul (x ^^^ y) (oN (dA W)):=e;unfold aN;rw[e,mul_div (bo hX hY) hdl amC]
 have hbN:bN (dA W)=mul x y:=by
  have e:=congrArg G.v (G.akr r2 r3);have e:mul (dA W 2) (dA W 2) ^^^ mul (dA W 1) (dA W 3)=mul (mul x y) (oN (dA W)):=e;unfold bN;rw[e,mul_div (mul_lt hX) hdl amC]
 have amD:ck (aN (dA W)) (bN (dA W)) 64=[63-q,63-p]:=by
  rw[<-acn (63-q) (by omega) (63-p) (by omega) (by omega),ha,hbN];unfold ck;refine List.filter_congr (fun k hk=>?_);have hk:=List.mem_range.1 hk;rw[Bool.eq_iff_iff];unfold aaD;rw[beq_iff_eq,Bool.or_eq_true,beq_iff_eq,beq_iff_eq, <-aqk k hk, <-aql k hk];have hkl:=bB k;let Z:G:=⟨pw k,hkl⟩;have e:mul (pw k) (pw k) ^^^ mul (x ^^^ y) (pw k) ^^^ mul x y=((Z+X)*(Z+Y)).v:=by
   rw[<-G.root Z X Y];rfl
  rw[e];constructor
  ·intro h0;rcases G.mul_eq_zero (G.eq h0:(Z+X)*(Z+Y)=0) with h1|h1
   ·exact .inl (congrArg G.v (G.add_eq_zero h1))
   ·exact .inr (congrArg G.v (G.add_eq_zero h1))
  ·rintro(h0|h0)
   ·have:Z+X=0:=by rw[show Z=X from G.eq h0,G.pD]
    rw[this,G.zero_mul];rfl
   ·have:Z+Y=0:=by rw[show Z=Y from G.eq h0,G.pD]
    rw[this,G.mul_zero];rfl
 have za:sm (dA W) (63-q) (63-p)=u:=by
  have e:=G.amB U V X Y;rw[<-g1, <-g0] at e;have e2:S1+S0*Y=U*(X+Y):=by
   rw[e,G.add_comm,G.dI]
  have e3:dA W 1 ^^^ mul (dA W 0) y=mul u (x ^^^ y):=congrArg G.v e2;unfold sm;rw[hXX,hYY,e3,mul_div hul (bo hX hY) hD]
 have hue:u ^^^ dA W 0=v:=by rw[t0, <-Nat.xor_assoc,Nat.xor_self,Nat.zero_xor]
 refine⟨63-q,63-p,⟨amC,amD,by rw[za];exact hu0,fun e=>hv0 ?_⟩,fun i hi=>?_⟩
 ·rw[za] at e;rw[<-hue, <-e,Nat.xor_self]
 ·unfold wu;rw[za,hue];unfold fix;by_cases e1:i=p
  ·rw[if_pos (by omega),if_neg (by omega),e1];exact aoy
  ·rw[if_neg (by omega)];by_cases e2:i=q
   ·rw[if_pos (by omega),e2];exact aox
   ·rw[if_neg (by omega)];exact(cq i hi e1 e2).symm
end GF
end
section
open Go.RowKit
def rO(n0 n1:Nat)(f g:Nat->Int):Bool:=decide (n0=n1/\∀j,j<n0->f j=g j)
theorem m9{n0 n1:Nat}{f g:Nat->Int}(h:n0=n1)(h2:∀j,j<n0->f j=g j):rO n0 n1 f g=true:=decide_eq_true ⟨h,h2⟩
section
variable{P:Program}{w:World}
theorem jT{t e:TypeId}{n:Nat}(hu:P.underlying t=some (.slice e))(hs:kO P e n=true):P.underlying t=some (.slice (P.elem t))/\(sizeOf (P.elem t)).run P w=.ok n w:=by
 have he:P.elem t=e:=by simp[Program.elem,hu]
 rw[he];exact⟨hu,dp hs w⟩
theorem Ru.adT{t e:TypeId}{b o n c l h:Nat}{K:Value->World->Prop}(hu:P.underlying t=some (.slice e))(hs:kO P e 1=true)(hl:l<=h)(hh:h<=c)(hc:l<c)(k:K (.slice (some ⟨b,o+l,none⟩) (h-l) (c-l)) w) :
  Ru P (Instr.sliceAt t (.slice (some ⟨b,o,none⟩) n c) (some (.int .i64 (l:Int))) (some (.int .i64 (h:Int))) none) w K:=by
 obtain⟨h1,h2⟩:=jT (w:=w) hu hs;refine⟨_,_,?_,k⟩;rw[run_sliceAt_slice w t _ _ _ _ h1,run_slice_lh w t _ n c h1 .i64 .i64 l h (by omega) (by omega) (by omega),h2];simp only[Result.andThen_ok,Int.toNat_natCast,sliced,if_neg (show ¬c=l by omega),Option.map_some,fW,Nat.mul_one]
theorem Ru.ae6{t e:TypeId}{b o n c h:Nat}{K:Value->World->Prop}(hu:P.underlying t=some (.slice e))(hs:kO P e 1=true)(hh:h<=c)(k:K (.slice (some ⟨b,o,none⟩) h c) w) :
  Ru P (Instr.sliceAt t (.slice (some ⟨b,o,none⟩) n c) none (some (.int .i64 (h:Int))) none) w K:=by
 obtain⟨h1,h2⟩:=jT (w:=w) hu hs;refine⟨_,_,?_,k⟩;rw[run_sliceAt_slice w t _ _ _ _ h1,run_slice_h w t _ n c h1 .i64 h (by omega) (by omega),h2];by_cases hc:c=0<;>simp[sliced,hc,fW]
theorem Am.adT{C:World->Prop}{t e:TypeId}{b o n c l h:Nat}{K:Value->Prop}(hu:P.underlying t=some (.slice e))(hs:kO P e 1=true)(hl:l<=h)(hh:h<=c)(hc:l<c)(k:K (.slice (some ⟨b,o+l,none⟩) (h-l) (c-l))) :
  Am P C (Instr.sliceAt t (.slice (some ⟨b,o,none⟩) n c) (some (.int .i64 (l:Int))) (some (.int .i64 (h:Int))) none) K:=⟨_,fun w _=>by
 obtain⟨v,w',h1,h2⟩:=Ru.adT (w:=w) (K:=fun v w'=>v=_/\w'=w) hu hs hl hh hc ⟨rfl,rfl⟩;rw[h1,h2.1,h2.2],k⟩
theorem Ru.pE{src dst e:TypeId}{A:Option Addr}{n c:Nat}{f:Nat->Int}{K:Value->World->Prop}(hs:P.underlying src=some (.slice e))(he:P.underlying e=some (.int .u8))(hd:P.underlying dst=some .string)(r:Rd w A n (fun j=>.int .u8 (f j)))(k:K (.string (strOfNums ((List.range n).map f))) w) :
  Ru P (convert src dst (.slice A n c)) w K:=by
 refine⟨_,_,?_,k⟩;by_cases hn:0<n
 ·obtain⟨b,o,rfl,hc⟩:=r hn;exact run_convert_bytes_arg w src e hs he b o n c _ (by simp) (fun i hi=>by rw[hc i hi,List.getD_eq_getElem?_getD,List.getElem?_map,List.getElem?_range hi];rfl) dst hd
 ·obtain rfl:n=0:=by omega
  cases A with
  |none=>exact run_convert_bytes_nil w src e hs he 0 c dst hd
  | some a =>
   rw[run_convert_bytes_string w src dst e _ 0 c hs he hd,run_bytesToString w a 0 c [] rfl];rfl
theorem Ru.ag3{t:TypeId}{x y:Operand}{a b:ByteArray}{K:Value->World->Prop}(hu:P.underlying t=some .string)(k:K (.bool (a.toList == b.toList)) w):Ru P (do eqGuard .eql t x y (.string a) (.string b);binOp .eql t (.string a) (.string b)) w K:=by
 refine⟨_,_,?_,k⟩;simp[eqGuard,binOp_string_eql]
end
theorem ofNat_inj{a b:Int}(ha:0<=a/\a<=255)(hb:0<=b/\b<=255)(h:UInt8.ofNat a.toNat=UInt8.ofNat b.toNat):a=b:=by
 have:=congrArg UInt8.toNat h;simp only[UInt8.toNat_ofNat'] at this;omega
theorem aaE{n m:Nat}{f g:Nat->Int}(hf:∀j,0<=f j/\f j<=255)(hg:∀j,0<=g j/\g j<=255):((strOfNums ((List.range n).map f)).toList == (strOfNums ((List.range m).map g)).toList)=rO n m f g:=by
 rw[Bool.eq_iff_iff,rO,beq_iff_eq,decide_eq_true_eq,Lib.strOfNums_toList,Lib.strOfNums_toList];unfold Lib.bytesOf;constructor
 ·intro h;have hl:=congrArg List.length h;simp at hl;subst hl;refine⟨rfl,fun j hj=>?_⟩;have:=congrArg (fun l=>l[j]?) h;simp[hj] at this;exact ofNat_inj (hf j) (hg j) this
 ·rintro⟨rfl,h⟩;congr 1;exact List.map_congr_left (fun j hj=>h j (List.mem_range.1 hj))
theorem ov(A B:Option Addr)(n m c d:Nat)(f g:Nat->Int)(w:World)(r0:Rd w A n (fun j=>.int .u8 (f j)))(r1:Rd w B m (fun j=>.int .u8 (g j)))(hf:∀j,0<=f j/\f j<=255)(hg:∀j,0<=g j/\g j<=255) :
  Spec Tryz.prog 188 #[.slice A n c,.slice B m d] w fun v w'=>v=.bool (rO n m f g)/\w=w':=by
 rw[<-aaE hf hg];refine spec_of_wpE (T:=tt) ai func188 rfl (by decide +kernel) ntmps188 (by simp) ?_;conv=>whnf
 refine Ru.pE underlying37 underlying5 underlying9 r0 ?_;generalize strOfNums ((List.range n).map f)=x;conv=>whnf
 refine Ru.pE underlying37 underlying5 underlying9 r1 ?_;generalize strOfNums ((List.range m).map g)=y;conv=>whnf
 refine Ru.ag3 underlying9 ?_;conv=>whnf
 exact⟨rfl,rfl,rfl⟩
section
variable{P:Program}{w:World}
theorem Ru.amE{t e:TypeId}{b o n c l:Nat}{K:Value->World->Prop}(hu:P.underlying t=some (.slice e))(hs:kO P e 1=true)(hl:l<=n)(hn:n<=c)(hc:l<c)(k:K (.slice (some ⟨b,o+l,none⟩) (n-l) (c-l)) w) :
  Ru P (Instr.sliceAt t (.slice (some ⟨b,o,none⟩) n c) (some (.int .i64 (l:Int))) none none) w K:=by
 obtain⟨h1,h2⟩:=jT (w:=w) hu hs;refine⟨_,_,?_,k⟩;rw[run_sliceAt_slice w t _ _ _ _ h1,run_slice_l w t _ n c h1 .i64 l (by omega) (by omega),h2];simp only[Result.andThen_ok,Int.toNat_natCast,sliced,if_neg (show ¬c=l by omega),Option.map_some,fW,Nat.mul_one]
theorem Ru.ag4{t e:TypeId}{b o n c h m:Nat}{K:Value->World->Prop}(hu:P.underlying t=some (.slice e))(hs:kO P e 1=true)(hh:h<=m)(hm:m<=c)(k:K (.slice (some ⟨b,o,none⟩) h m) w) :
  Ru P (Instr.sliceAt t (.slice (some ⟨b,o,none⟩) n c) none (some (.int .i64 (h:Int))) (some (.int .i64 (m:Int)))) w K:=by
 obtain⟨h1,h2⟩:=jT (w:=w) hu hs;refine⟨_,_,?_,k⟩;rw[run_sliceAt_slice w t _ _ _ _ h1,run_slice_hm w t _ n c h1 .i64 .i64 h m (by omega) (by omega) (by omega),h2];by_cases hc:m=0<;>simp[sliced,hc,fW]
end
end
section
open Go.RowKit
attribute [local irreducible] GF.pw GF.lg GF.mul GF.inv GF.xt
def tJ:Nat->Nat->Nat
 |0,_=>1
 |j+1,s=>GF.conv (tJ j) (fun s=>if s=0 then 1 else GF.pw j) (j+1) 2 s
theorem amF(j s:Nat):(if s=0 then 1 else GF.pw j)<256:=by
 have:=GF.bB j;split<;>omega
theorem sG:∀(j s:Nat),tJ j s<256
 |0,s=>(by decide:1<256)
 |j+1,s=>GF.akl (q:=fun s=>if s=0 then 1 else GF.pw j) (sG j) (j+1) 2 s
def wv(g h:Nat):Nat->Value:=fun j=>if j=0 then .pointer (some ⟨g,0,none⟩) else .slice (some ⟨h,1,none⟩) 6 6
structure Ba(w:World)(c g h:Nat):Prop where
 row:Row w c 297 2 (wv g h)
 gen:Row w h 5 7 (fun s=>.int .u8 (tJ 6 s:Nat))
 fs:FS w g
 cg:c≠g
 hg:h≠g
theorem Ba.ab{w w':World}{c g h:Nat}(H:Ba w c g h)(k:Aa [g] w w')(f:FS w' g):Ba w' c g h:=⟨H.row.ab k (by simpa using H.cg),H.gen.ab k (by simpa using H.hg),f,H.cg,H.hg⟩
theorem Ba.aj{S:List Nat}{w w':World}{c g h:Nat}(H:Ba w c g h)(k:Aa S w w')(hc:c∉S)(hg:g∉S)(hh:h∉S):Ba w' c g h:=⟨H.row.ab k hc,H.gen.ab k hh,H.fs.ab k hg,H.cg,H.hg⟩
theorem Ba.drewN{w:World}{c g h:Nat}(H:Ba w c g h)(n:Nat):Ba (w.drewN n) c g h:=H.aj ((Aa.refl [] w).drewN n) (by simp) (by simp) (by simp)
theorem Ba.of{w w':World}{c g h:Nat}(H:Ba w c g h)(f:FK w g w'):Ba w' c g h:=H.ab f.kp f.fs
theorem amG(w:World)(v:Value):Row (w.alloc (.cells #[v] 5)) w.heap.size 5 1 (fun _=>v):=Row.oG (heap_alloc_new w _) (by simp[Array.range,Array.ofFn_succ])
theorem aks{j:Nat}(h:j<255):pwI (j:Int)=GF.pw j:=by
 unfold pwI;rw[show((j:Int)%255).toNat=j by omega]
theorem Ca.amH{w0 w:World}{g:Nat}{K:Value->World->Prop}(h:FK w0 g w)(j:Nat)(hj:j<255)(k:∀w',FK w0 g w'->FK w g w'->K (.int .u8 (GF.pw j:Nat)) w'):Ca Tryz.prog 212 #[.pointer (some ⟨g,0,none⟩),.int .i64 j] w K:=Ca.of (amx w g j h.fs) fun v w' hp=>by
 obtain⟨rfl,hf⟩:=h.of hp;have h2:=hp.2.2;rw[aks hj];exact k w' hf ⟨hf.fs,h2⟩
theorem aco(A B:Option Addr)(n m:Nat)(w:World):(Instr.build 297 #[(0,.pointer A),(1,.slice B n m)]).run Tryz.prog w=.ok (.agg #[.pointer A,.slice B n m]) w:=by kernel_rfl
theorem ae7(g h:Nat)(w:World):(Instr.build 297 #[(0,.pointer (some ⟨g,0,none⟩)),(1,.slice (some ⟨h,1,none⟩) 6 6)]).run Tryz.prog w=.ok (agg 2 (wv g h)) w:=by
 rw[aco];have e:(#[Value.pointer (some ⟨g,0,none⟩),.slice (some ⟨h,1,none⟩) 6 6]:Array Value)=(Array.range 2).map (wv g h):=by simp[Array.range,Array.ofFn_succ,wv]
 rw[e];rfl
theorem Ru.b1R{v:Int}{w:World}{K:Value->World->Prop}(k:∀g w',g=w.heap.size->Row w' g 5 1 (fun j=>.int .u8 v)->Aa [] w w'->K (.slice (some ⟨g,0,none⟩) 1 1) w'):Ru Tryz.prog (Instr.buildSlice 37 1 #[(0,.int .u8 v)]) w K :=
 ⟨_,_,aaB v w,k _ _ rfl (amG _ _) ((Aa.refl _ _).alloc _)⟩
theorem ag5(w:World):Spec Tryz.prog 194 #[] w fun v w'=>∃c g h,w.heap.size<=c/\w.heap.size<=g/\w.heap.size<=h/\v=.pointer (some ⟨c,0,none⟩)/\Ba w' c g h/\Aa [] w w':=by
 refine spec_of_wpE (T:=tt) ai func194 rfl (by decide +kernel) ntmps194 (by simp) ?_;conv=>whnf
 refine Ca.ld ?_;intro g w2 hg fk k2;conv=>whnf
 refine Ru.b1R ?_;intro h0 w3 hh0 r3 k3;have fk3:FK w3 g w3:=⟨fk.fs.aj k3,Aa.refl _ _⟩;have qz:=fk.fs.lt;conv=>whnf
 repeat (refine CW.s ?_;conv=>whnf)
 refine CW.loop (ι:=Nat×Nat) (fun i w'=>i.1<=6/\FK w3 g w'/\w.heap.size<=i.2/\i.2≠g/\Row w' i.2 5 (i.1+1) (fun s=>.int .u8 (tJ i.1 s:Nat))) (fun i=>[(1,.pointer (some ⟨g,0,none⟩)),(2,.slice (some ⟨i.2,0,none⟩) (i.1+1) (i.1+1)),(6,.int .i64 i.1)]) (fun i=>6-i.1) (0,h0) ai ⟨by simp,fk3,by have:=k2.size;simp only;omega,by simp only;omega,?_⟩ ⟨rfl,rfl,rfl,trivial⟩ ?_
 ·exact r3
 rintro⟨j,hb⟩ wr ⟨hj,fk,hw,cn,rg⟩;simp only at hj fk hw cn rg;by_cases av:j<6
 ·conv=>whnf
  repeat ((first|refine Br.y ?_|refine CW.s ?_);conv=>whnf)
  refine Ca.amH fk j (by omega) ?_;intro w4 fk4 f4;conv=>whnf
  refine Ru.b2 ?_;intro q w5 hq r5 k5;have fk5:FK w3 g w5:=⟨fk4.fs.aj k5,fk4.kp.trans (k5.mono (by simp))⟩;have rg5:=(rg.ab f4.kp (by simpa using cn)).ab k5 (by simp);have gl4:=fk4.fs.lt;have aqn:=fk4.kp.size;conv=>whnf
  refine Ca.of (agV w3 w5 g (j+1) 2 (j+1) 2 (some ⟨hb,0,none⟩) (some ⟨q,0,none⟩) (tJ j) (fun s=>if s=0 then 1 else GF.pw j) (sG j) (amF j) (Rd.dq rg5 (Nat.le_refl _)) (r5.congr (fun s _=>by by_cases e:s=0<;>simp[e])) (fun _ a e=>by cases e;exact cn) (fun _ a e=>by cases e;simp only;omega) fk5 (by omega) (by omega)) ?_;rintro v w6 ⟨hv,fk6,k6⟩;rcases hv with⟨h0|h0,-⟩|⟨-,-,h,hh,rfl,rh⟩
  ·omega
  ·omega
  conv=>whnf
  repeat (refine Ar.la ?_;conv=>whnf)
  have hs5:=k5.size;have gO:=k2.size;have gg:=k3.size;exact⟨(j+1,h),⟨by simp only;omega,fk6,by simp only;omega,by simp only;omega,rh⟩,⟨rfl,rfl,rfl,trivial⟩,by simp only;omega⟩
 ·obtain rfl:j=6:=by omega
  conv=>whnf
  repeat ((first|refine Br.f ?_|refine CW.s ?_);conv=>whnf)
  refine Ru.amE (l:=1) underlying37 (by kernel_rfl) (by simp) (by simp) (by simp) ?_;conv=>whnf
  refine Ru.of (ae7 g hb wr) ?_;conv=>whnf
  refine Ru.dr ?_;intro c w7 hc hs7 rc k7;have gl:=fk.fs.lt;have hl:=rg.lt;conv=>whnf
  have gO:=k2.size;have gg:=k3.size;have hsr:=fk.kp.size;exact⟨rfl,c,g,hb,by omega,hg,hw,rfl,⟨rc,rg.ab k7 (by simp),fk.fs.aj k7,by omega,cn⟩,((k2.trans k3).then fk.kp (fun x hx=>.inr (by rw[List.mem_singleton.1 hx];exact hg))).trans k7⟩
end
section
open Go.RowKit
theorem Chip.mA(C:Chip)(a k:Nat)(x y:Chunk):(C.cZ a k x).cZ a k y=C.cZ a k y:=by
 unfold Chip.cZ;simp only;congr 1;funext a' k';by_cases h:a'=a/\k'=k
 ·rw[if_pos h,if_pos h]
 ·rw[if_neg h,if_neg h,if_neg h]
theorem Chunk.gP(x:Chunk){i:Nat}(h:i<64):x.cell i=.int .u8 (x.now i:Nat):=if_pos h
theorem Chunk.fz(x:Chunk){i:Nat}(h:64<=i)(h2:i<128):x.cell i=.int .u8 (x.cy (i-64):Nat):=by
 unfold Chunk.cell;rw[if_neg (by omega),if_pos h2]
theorem Chunk.gh(x:Chunk){i:Nat}(h:129<=i):x.cell i=.int .i64 x.pk:=by
 unfold Chunk.cell;rw[if_neg (by omega),if_neg (by omega),if_neg (by omega)]
theorem lh(i:Nat):i<64\/(64<=i/\i<128)\/i=128\/129<=i:=by omega
theorem Chunk.akt(x:Chunk)(b:Nat->Nat)(i:Nat):lay x.cell 0 64 (fun j=>.int .u8 (b j:Nat)) i=({ x with now:=b }:Chunk).cell i:=by
 unfold lay;by_cases h:0<=i/\i<0+64
 ·rw[if_pos h,Chunk.gP _ (by omega),Nat.sub_zero]
 ·rw[if_neg h];rcases lh i with h1|⟨h1,h2⟩|rfl|h1
  ·omega
  ·rw[Chunk.fz _ h1 h2,Chunk.fz _ h1 h2]
  ·rfl
  ·rw[Chunk.gh _ h1,Chunk.gh _ h1]
theorem Chunk.ae8(x:Chunk)(b:Nat->Nat)(i:Nat):lay x.cell 64 64 (fun j=>.int .u8 (b j:Nat)) i=({ x with cy:=b }:Chunk).cell i:=by
 unfold lay;by_cases h:64<=i/\i<64+64
 ·rw[if_pos h,Chunk.fz _ (by omega) (by omega)]
 ·rw[if_neg h];rcases lh i with h1|⟨h1,h2⟩|rfl|h1
  ·rw[Chunk.gP _ h1,Chunk.gP _ h1]
  ·omega
  ·rfl
  ·rw[Chunk.gh _ h1,Chunk.gh _ h1]
theorem Chunk.amI(x:Chunk)(b:Bool)(i:Nat)(hi:i<130):put x.cell 128 (.bool b) i=({ x with is:=b }:Chunk).cell i:=by
 unfold put;by_cases h:i=128
 ·subst h;rfl
 ·rw[if_neg h];rcases lh i with h1|⟨h1,h2⟩|h1|h1
  ·rw[Chunk.gP _ h1,Chunk.gP _ h1]
  ·rw[Chunk.fz _ h1 h2,Chunk.fz _ h1 h2]
  ·omega
  ·rw[Chunk.gh _ h1,Chunk.gh _ h1]
theorem Chunk.ae9(x:Chunk)(b:Int)(i:Nat)(hi:i<130):put x.cell 129 (.int .i64 b) i=({ x with pk:=b }:Chunk).cell i:=by
 unfold put;by_cases h:i=129
 ·subst h;rfl
 ·rw[if_neg h];rcases lh i with h1|⟨h1,h2⟩|rfl|h1
  ·rw[Chunk.gP _ h1,Chunk.gP _ h1]
  ·rw[Chunk.fz _ h1 h2,Chunk.fz _ h1 h2]
  ·rfl
  ·omega
section
variable{w:World}{c:Nat}{C:Chip}
theorem Ab.alV{w':World}{a k o n:Nat}{s:Nat->Value}{x:Chunk}(r:Row w' c 104 49972 (lay C.cell (aM a k+o) n s))(ha:a<96)(hk:k<4)(hn:o+n<=130)(h:∀i,i<130->lay ((C.ch a k).cell) o n s i=x.cell i):Ab w' c (C.cZ a k x) :=
 Row.congr r (C.ab8 ha hk hn s x h)
theorem Ab.alW{w':World}{a k i:Nat}{v:Value}{x:Chunk}(r:Row w' c 104 49972 (put C.cell (aM a k+i) v))(ha:a<96)(hk:k<4)(hi:i<130)(h:∀j,j<130->put ((C.ch a k).cell) i v j=x.cell j):Ab w' c (C.cZ a k x) :=
 Row.congr r (C.amm ha hk hi v x h)
def ah{α:Type}(f:Nat->α)(B:Nat)(v:α):Nat->α:=fun b=>if b=B then v else f b
theorem gQ{C D:Chip}{B i:Nat}{v:Value}(h0:∀b,D.tail b i=if b=B then v else C.tail b i)(h1:∀b j,j<4->j≠i->D.tail b j=C.tail b j)(B' i':Nat)(jH:i'<4):(if B'=B/\i'=i then v else C.tail B' i')=D.tail B' i':=by
 by_cases hj:i'=i
 ·subst hj;rw[h0];by_cases hb:B'=B
  ·rw[if_pos ⟨hb,rfl⟩,if_pos hb]
  ·rw[if_neg (fun e=>hb e.1),if_neg hb]
 ·rw[h1 _ _ jH hj,if_neg (fun e=>hj e.2)]
theorem Ab.ag6(H:Ab w c C){B:Nat}(hB:B<12)(v:Int):Ab (w.setCell ⟨c,aQ B+0,none⟩ (.int .i64 v)) c { C with reads:=ah C.reads B v } :=
 H.ix (i:=0) hB (by omega) rfl (fun _=>rfl) (fun B' i' _ jH=>gQ (fun b=>by
  unfold Chip.tail ah;by_cases h:b=B<;>simp[h]) (fun b j hj hn=>by rcases bS hj with rfl|rfl|rfl|rfl<;>first|rfl|exact absurd rfl hn) B' i' jH)
theorem Ab.xi(H:Ab w c C){B:Nat}(hB:B<12)(v:Bool):Ab (w.setCell ⟨c,aQ B+1,none⟩ (.bool v)) c { C with failed:=ah C.failed B v } :=
 H.ix (i:=1) hB (by omega) rfl (fun _=>rfl) (fun B' i' _ jH=>gQ (fun b=>by
  unfold Chip.tail ah;by_cases h:b=B<;>simp[h]) (fun b j hj hn=>by rcases bS hj with rfl|rfl|rfl|rfl<;>first|rfl|exact absurd rfl hn) B' i' jH)
theorem Ab.xj(H:Ab w c C){B:Nat}(hB:B<12)(v:Int):Ab (w.setCell ⟨c,aQ B+2,none⟩ (.int .i64 v)) c { C with before:=ah C.before B v } :=
 H.ix (i:=2) hB (by omega) rfl (fun _=>rfl) (fun B' i' _ jH=>gQ (fun b=>by
  unfold Chip.tail ah;by_cases h:b=B<;>simp[h]) (fun b j hj hn=>by rcases bS hj with rfl|rfl|rfl|rfl<;>first|rfl|exact absurd rfl hn) B' i' jH)
theorem Ab.acp(H:Ab w c C){B:Nat}(hB:B<12)(v:Bool):Ab (w.setCell ⟨c,aQ B+3,none⟩ (.bool v)) c { C with aC:=ah C.aC B v } :=
 H.ix (i:=3) hB (by omega) rfl (fun _=>rfl) (fun B' i' _ jH=>gQ (fun b=>by
  unfold Chip.tail ah;by_cases h:b=B<;>simp[h]) (fun b j hj hn=>by rcases bS hj with rfl|rfl|rfl|rfl<;>first|rfl|exact absurd rfl hn) B' i' jH)
end
structure Chip.Wf(C:Chip):Prop where
 b0:0<=C.bK
 b1:C.bK<=9223372036854775807
 bf:∀B,C.before B<=9223372036854775807
 now:∀a k i,(C.ch a k).now i<256
 cy:∀a k i,(C.ch a k).cy i<256
theorem Chip.Wf.step{C:Chip}(h:C.Wf):C.aI.1.Wf:=by
 have h1:=h.b0;have h2:=h.b1;unfold Chip.aI;split
 ·split
  ·exact⟨h.b0,h.b1,h.bf,h.now,h.cy⟩
  ·exact⟨by simp only;omega,by simp only;omega,h.bf,h.now,h.cy⟩
 ·exact⟨h.b0,h.b1,h.bf,h.now,h.cy⟩
def Chip.iq(C:Chip)(B:Nat):Chip:=if 0<C.before B then { C with before:=ah C.before B (C.before B-1),failed:=ah C.failed B (C.failed B||decide (C.before B-1=0)) } else C
def Chip.write(C:Chip)(a k:Nat)(b:Nat->Nat):Chip×Int :=
 if C.off then (C,7) else if (C.ch a k).is then (C,9) else if C.aI.2=0 then (if (C.aI.1.iq (a/8)).failed (a/8) then (C.aI.1.iq (a/8),8) else ((C.aI.1.iq (a/8)).cZ a k ⟨b,b,true,0⟩,0)) else C.aI
theorem Chip.xk(C:Chip):C.aI.2=0\/C.aI.2=7:=by
 unfold Chip.aI;split
 ·split
  ·exact .inr rfl
  ·exact .inl rfl
 ·exact .inl rfl
theorem Chip.tK(C:Chip):C.aI.1.ch=C.ch:=by
 unfold Chip.aI;split
 ·split<;>rfl
 ·rfl
theorem Chip.acq(C:Chip)(B:Nat):(C.iq B).ch=C.ch:=by
 unfold Chip.iq;split<;>rfl
theorem eu{a n:Nat}(i:Nat)(h:n=4160+i):0+0+a/8*4164+n=aQ (a/8)+i:=by
 unfold aQ;omega
section
variable{w:World}{c B:Nat}{C:Chip}
theorem Ab.acr(H:Ab w c C)(hB:B<12):w.cell? ⟨c,aQ B+0,none⟩=some (.int .i64 (C.reads B)):=H.tail hB (by omega)
theorem Ab.eI(H:Ab w c C)(hB:B<12):w.cell? ⟨c,aQ B+1,none⟩=some (.bool (C.failed B)):=H.tail hB (by omega)
theorem Ab.lj(H:Ab w c C)(hB:B<12):w.cell? ⟨c,aQ B+2,none⟩=some (.int .i64 (C.before B)):=H.tail hB (by omega)
theorem Ab.pF(H:Ab w c C)(hB:B<12):w.cell? ⟨c,aQ B+3,none⟩=some (.bool (C.aC B)):=H.tail hB (by omega)
end
theorem tL:kO Tryz.prog 5 1=true:=by kernel_rfl
theorem mB:(Tryz.prog.info? 5).map (·.size)=some 1:=by kernel_rfl
theorem ag7(w:World)(c a k d:Nat)(C:Chip)(A:Option Addr)(b:Nat->Nat)(H:Ab w c C)(hw:C.Wf)(ha:a<96)(hk:k<4)(r:AI w A 64 b)(hd:64<=d)(hA:∀x,A=some x->x.block≠c) :
  Spec Tryz.prog 187 #[.pointer (some ⟨c,0,none⟩),.int .i64 a,.int .i64 k,.slice A 64 d] w fun v w'=>v=al (C.write a k b).2/\Ab w' c (C.write a k b).1/\Aa [c] w w':=by
 refine spec_of_wpE (T:=tt) ai func187 rfl (by decide +kernel) ntmps187 (by simp) ?_;conv=>whnf
 refine Ca.of (alU w c a k ha hk) ?_;rintro _ _ ⟨rfl,rfl⟩;by_cases cj:C.off=true
 ·conv=>whnf
  repeat ((first|(refine Ld.of H.off ?_)|(refine Br.is cj ?_)|refine Br.f ?_|refine Ru.ak ?_|refine CW.s ?_);conv=>whnf)
  refine⟨rfl,?_⟩;unfold Chip.write;rw[if_pos cj];exact⟨rfl,H,Aa.refl _ _⟩
 have tM:C.off=false:=by simpa using cj
 by_cases his:(C.ch a k).is=true
 ·conv=>whnf
  repeat ((first|(refine Ld.of H.off ?_)|(refine Br.jB tM ?_)|(refine Ld.of (H.is ha hk) ?_)|(refine Br.is his ?_)|refine Br.f ?_|refine Ru.ak ?_|refine CW.s ?_);conv=>whnf)
  refine⟨rfl,?_⟩;unfold Chip.write;rw[if_neg cj,if_pos his];exact⟨rfl,H,Aa.refl _ _⟩
 have aqo:(C.ch a k).is=false:=by simpa using his
 conv=>whnf
 repeat ((first|(refine Ld.of H.off ?_)|(refine Br.jB tM ?_)|(refine Ld.of (H.is ha hk) ?_)|(refine Br.jB aqo ?_)|refine Br.f ?_|refine Ru.ak ?_|refine CW.s ?_);conv=>whnf)
 refine Ca.of (adJ w c C H ⟨hw.b0,hw.b1⟩) ?_;rintro _ w1 ⟨rfl,H1,k1⟩;by_cases he:C.aI.2=0
 ·rw[he];have hw1:=hw.step;have ag8:C.write a k b=(if (C.aI.1.iq (a/8)).failed (a/8) then (C.aI.1.iq (a/8),8) else ((C.aI.1.iq (a/8)).cZ a k ⟨b,b,true,0⟩,0)):=by
   unfold Chip.write;rw[if_neg cj,if_neg his,if_pos he]
  rw[ag8];generalize C.aI.1=D at *;clear ag8 he;have hB:a/8<12:=by omega
  have ra1:=r.ab k1 (fun x hx=>by simpa using hA x hx);conv=>whnf
  repeat ((first|(refine Ix.of (a/8) (by omega) (by omega) ?_)|refine Br.f ?_|refine Dv.q ?_|refine Ru.ak ?_);conv=>whnf)
  refine CW.cut (ι:=Unit) (fun _ w'=>Ab w' c (D.iq (a/8))/\Aa [c] w w') (fun _=>[(3,.slice A 64 d),(9,.pointer (some ⟨c,aM a k,none⟩)),(12,.pointer (some ⟨c,0+0+a/8*4164,none⟩))]) ai ?_ ?_
  ·by_cases aoA:0<D.before (a/8)
   ·have hbb:=hw1.bf (a/8);have amJ:D.iq (a/8)={ D with before:=ah D.before (a/8) (D.before (a/8)-1),failed:=ah D.failed (a/8) (D.failed (a/8)||decide (D.before (a/8)-1=0)) }:=by
     unfold Chip.iq;rw[if_pos aoA]
    rw[amJ];conv=>whnf
    repeat ((first|(refine Ld.at (eu 2 rfl) (H1.lj hB) ?_)|refine Ar.la ?_|refine Br.y ?_);conv=>whnf)
    refine Sd.setAt _ (eu 2 rfl) (H1.lj hB) (Row.free H1 _) rfl ?_;have H2:=H1.xj hB (D.before (a/8)-1);have k2:=k1.trans (Aa.set c (aQ (a/8)+2) (.int .i64 (D.before (a/8)-1)));have c3:(w1.setCell ⟨c,aQ (a/8)+2,none⟩ (.int .i64 (D.before (a/8)-1))).cell? ⟨c,aQ (a/8)+2,none⟩=some (.int .i64 (D.before (a/8)-1)):=by
     have:=H2.lj hB;unfold ah at this;simpa using this
    generalize w1.setCell _ _=w2 at *;have hfe:∀b:Bool,(D.failed (a/8)||decide (D.before (a/8)-1=0))=b->Ab (w2.setCell ⟨c,aQ (a/8)+1,none⟩ (.bool b)) c { D with before:=ah D.before (a/8) (D.before (a/8)-1),failed:=ah D.failed (a/8) (D.failed (a/8)||decide (D.before (a/8)-1=0)) }:=fun b hb=>by
     subst hb;exact H2.xi hB _
    by_cases hf:D.failed (a/8)=true
    ·conv=>whnf
     repeat ((first|(refine Ld.at (eu 1 rfl) (H2.eI hB) ?_)|(refine Br.is hf ?_)|refine Br.t ?_|refine Pk.t ?_);conv=>whnf)
     refine Sd.setAt _ (eu 1 rfl) (H2.eI hB) (Row.free H2 _) rfl ?_;have H3:=hfe true (by rw[hf];rfl);have k3:=k2.trans (Aa.set c (aQ (a/8)+1) (.bool true));generalize w2.setCell _ _=w3 at *;conv=>whnf
     exact⟨(),⟨H3,k3⟩,⟨rfl,rfl,rfl,trivial⟩⟩
    ·have gY:D.failed (a/8)=false:=by simpa using hf
     conv=>whnf
     repeat ((first|(refine Ld.at (eu 1 rfl) (H2.eI hB) ?_)|(refine Br.jB gY ?_)|(refine Ld.at (eu 2 rfl) c3 ?_)|refine Br.f ?_|refine Pk.f ?_);conv=>whnf)
     refine Sd.setAt _ (eu 1 rfl) (H2.eI hB) (Row.free H2 _) rfl ?_;have H3:=hfe (decide (D.before (a/8)-1=0)) (by rw[gY];rfl);have k3:=k2.trans (Aa.set c (aQ (a/8)+1) (.bool (decide (D.before (a/8)-1=0))));generalize w2.setCell _ _=w3 at *;conv=>whnf
     exact⟨(),⟨H3,k3⟩,⟨rfl,rfl,rfl,trivial⟩⟩
   ·have amJ:D.iq (a/8)=D:=by
     unfold Chip.iq;rw[if_neg aoA]
    rw[amJ];conv=>whnf
    repeat ((first|(refine Ld.at (eu 2 rfl) (H1.lj hB) ?_)|refine Br.n ?_);conv=>whnf)
    exact⟨(),⟨H1,k1⟩,⟨rfl,rfl,rfl,trivial⟩⟩
  ·generalize D.iq (a/8)=E;rintro _ w2 ⟨H2,k2⟩;by_cases hf:E.failed (a/8)=true
   ·rw[if_pos hf];conv=>whnf
    repeat ((first|(refine Ld.at (eu 1 rfl) (H2.eI hB) ?_)|(refine Br.is hf ?_)|refine CW.s ?_);conv=>whnf)
    exact⟨rfl,rfl,H2,k2⟩
   rw[if_neg hf];have gY:E.failed (a/8)=false:=by simpa using hf
   conv=>whnf
   repeat ((first|(refine Ld.at (eu 1 rfl) (H2.eI hB) ?_)|(refine Br.jB gY ?_)|(refine Ru.jO underlying90 mB ?_)|refine CW.s ?_);conv=>whnf)
   have av:=gM ha hk (s:=129) (by omega);refine Bu.copy underlying37 mB H2 A 64 d 64 rfl ((r.ab k2 (fun x hx=>by simpa using hA x hx))) (fun e=>?_) (by omega) (fun _ _=>rfl) ?_
   ·obtain⟨b1,o1,e1,_⟩:=r (by omega);rw[e] at e1
    cases e1
   intro w3 r3 k3;have H3:=Ab.alV (o:=0) (x:={ E.ch a k with now:=b }) r3 ha hk (by omega) (fun i _=>Chunk.akt _ b i);conv=>whnf
   refine Ru.cx H3 underlying90 rfl px (by omega) (q:=fun j=>.int .u8 (b j:Nat)) (fun j hj=>?_) ?_
   ·rw[Nat.add_zero,Chip.cL _ ha hk (by omega),Chip.dt,Chunk.gP _ hj]
   conv=>whnf
   refine Ru.im H3 px (by omega) (fun _ _=>rfl) ?_;intro w4 r4 k4;have H4:=Ab.alV (o:=64) (x:={ E.ch a k with now:=b,cy:=b }) r4 ha hk (by omega) (fun i _=>by rw[Chip.dt];exact Chunk.ae8 _ b i);rw[Chip.mA] at H4;clear r3 r4 H3;conv=>whnf
   refine Sd.setAt (aM a k+128) rfl (H4.is ha hk) (Row.free H4 _) rfl ?_;have H5:=Ab.alW (i:=128) (x:={ E.ch a k with now:=b,cy:=b,is:=true }) (Row.set H4 (aM a k+128) (.bool true)) ha hk (by omega) (fun i hi=>by rw[Chip.dt];exact Chunk.amI _ true i hi);rw[Chip.mA] at H5;have k5:=k4.trans (Aa.set c (aM a k+128) (.bool true));generalize w4.setCell _ _=w5 at *;conv=>whnf
   refine Sd.setAt (aM a k+129) rfl (H5.pk ha hk) (Row.free H5 _) rfl ?_;have H6:=Ab.alW (i:=129) (x:=⟨b,b,true,0⟩) (Row.set H5 (aM a k+129) (.int .i64 0)) ha hk (by omega) (fun i hi=>by rw[Chip.dt];exact Chunk.ae9 _ 0 i hi);rw[Chip.mA] at H6;have k6:=k5.trans (Aa.set c (aM a k+129) (.int .i64 0));generalize w5.setCell _ _=w6 at *;conv=>whnf
   exact⟨rfl,rfl,H6,(k2.trans k3).trans k6⟩
 ·unfold Chip.write;rw[if_neg cj,if_neg his,if_neg he];have h7:C.aI.2=7:=(Chip.xk C).resolve_left he;conv=>whnf
  repeat ((first|refine Br.nn ?_|refine Ru.js rfl ?_);conv=>whnf)
  exact⟨rfl,rfl,H1,k1⟩
def eR(C:Chip)(a:Nat):Nat->Nat:=fun j=>(C.ch a (j/64)).now (j%64)
def Chip.bC(C:Chip)(a:Nat):Chip:={ C with reads:=ah C.reads (a/8) (jI (C.reads (a/8)+1)) }
theorem afa(w:World):(Instr.makeSlice 37 (.int .i64 0) (.int .i64 256)).run Tryz.prog w=.ok (.slice (some ⟨w.heap.size,0,none⟩) 0 256) (w.alloc (.cells (madeCells #[.int .u8 0] 256) 5)):=by kernel_rfl
theorem Own.aoB{w0 w:World}(k:Aa [] w0 w)(f:Nat->Int):Own w0 (w.alloc (.cells (madeCells #[.int .u8 0] 256) 5)) (some ⟨w.heap.size,0,none⟩) 0 256 f :=
 ⟨(Ly.dq (Row.made w 5 (.int .u8 0) 256) (by omega) (by omega) (by simp[maxLen])).congr (fun j hj=>by omega),fun x hx=>by rw[List.mem_singleton.1 hx];exact k.size,k.alloc _⟩
def Cf(w:World)(c a:Nat)(C:Chip)(v:Value)(w':World):Prop :=
 (C.off=true/\v=.tuple #[.slice none 0 0,al 7]/\w'=w)\/(C.off=false/\∃b e,v=.tuple #[.slice (some ⟨b,0,none⟩) 256 e,al 0]/\w.heap.size<=b/\Ly w' 5 1 (some ⟨b,0,none⟩) 256 e (fun j=>.int .u8 (eR C a j:Nat))/\Ab w' c (C.bC a)/\Aa [c] w w')
theorem ag9(w:World)(c a:Nat)(C:Chip)(H:Ab w c C)(ha:a<96):Spec Tryz.prog 164 #[.pointer (some ⟨c,0,none⟩),.int .i64 a] w (Cf w c a C):=by
 refine spec_of_wpE (T:=tt) ai func164 rfl (by decide +kernel) ntmps164 (by simp) ?_;conv=>whnf
 repeat (refine CW.s ?_;conv=>whnf)
 refine Ca.of (alU w c a 0 ha (by omega)) ?_;rintro _ _ ⟨rfl,rfl⟩;by_cases cj:C.off=true
 ·conv=>whnf
  repeat ((first|(refine Ld.of H.off ?_)|(refine Br.is cj ?_)|refine Br.f ?_|refine Ru.ak ?_|refine CW.s ?_);conv=>whnf)
  exact⟨rfl,.inl ⟨cj,rfl,rfl⟩⟩
 have tM:C.off=false:=by simpa using cj
 have hB:a/8<12:=by omega
 conv=>whnf
 repeat ((first|(refine Ld.of H.off ?_)|(refine Br.jB tM ?_)|(refine Ix.of (a/8) (by omega) (by omega) ?_)|refine Br.f ?_|refine Dv.q ?_|refine Ru.ak ?_|refine CW.s ?_);conv=>whnf)
 refine Ca.args (args' := #[.pointer (some ⟨c,aQ (a/8)+0,none⟩),.int .i64 1]) (by rw[<-eu (a:=a) (n:=4160) 0 rfl]) ?_;refine Ca.of (adI c _ _ 1 (jI (C.reads (a/8)+1)) rfl w (H.acr hB) (Row.free H _)) ?_;rintro _ w1 ⟨rfl,rfl⟩;have H1:=H.ag6 hB (jI (C.reads (a/8)+1));have k1:=Aa.set (w:=w) c (aQ (a/8)+0) (.int .i64 (jI (C.reads (a/8)+1)));generalize w.setCell _ _=w1 at *;have H1:Ab w1 c (C.bC a):=H1;have hcl:=Row.lt H;conv=>whnf
 refine Ru.of (afa w1) ?_;have O:=Own.aoB (Aa.refl [] w1) (fun j=>((eR C a j:Nat):Int));generalize w1.alloc _=w2 at *;conv=>whnf
 repeat (refine CW.s ?_;conv=>whnf)
 refine CW.loop (ι:=Nat×Option Addr×Nat) (fun i w'=>i.1<=4/\Own w1 w' i.2.1 (i.1*64) i.2.2 (fun j=>((eR C a j:Nat):Int))) (fun i=>[(1,.int .i64 a),(8,.pointer (some ⟨c,0+0+a/8*4164,none⟩)),(9,.slice i.2.1 (i.1*64) i.2.2),(36,.int .i64 i.1)]) (fun i=>4-i.1) (0,some ⟨w1.heap.size,0,none⟩,256) ai ⟨by simp,O⟩ ⟨rfl,rfl,rfl,rfl,trivial⟩ ?_;rintro⟨i,X,e⟩ wr ⟨hi,Oi⟩;simp only at hi Oi ⊢;by_cases av:i<4
 ·have Hr:Ab wr c (C.bC a):=Ab.ab H1 Oi.ab (by simp);conv=>whnf
  repeat ((first|(refine Ix.of (a%8) (by omega) (by omega) ?_)|(refine Ru.jO underlying90 mB ?_)|refine Ix.n ?_|refine Dv.r ?_|refine Br.y ?_|refine CW.s ?_);conv=>whnf)
  refine Bu.grow Oi (fun j=>((eR C a (i*64+j):Nat):Int)) (fun _=>⟨_,_,rfl,fun j hj=>?_⟩) (by omega) (fun e=>by cases e) (by omega) ?_
  ·have h1:=Hr.now ha av hj;have e1:0+0+a/8*4164+0+a%8*520+i*130+0+j=aM a i+j:=by
    unfold aM;omega
   rw[e1,h1];unfold eR Chip.bC;simp only;rw[show(i*64+j)/64=i by omega,show(i*64+j)%64=j by omega]
  intro Y e2 w3 O3 k3;conv=>whnf
  repeat (refine Ar.la ?_;conv=>whnf)
  refine⟨(i+1,Y,e2),⟨by simp only;omega,?_⟩,⟨rfl,rfl,?_,vi (by simp only;omega),trivial⟩,by simp only;omega⟩
  ·simp only;rw[show(i+1)*64=i*64+64 by omega];exact O3.congr (fun j hj=>by
    by_cases h:j<i*64
    ·rw[if_pos h]
    ·rw[if_neg h,show i*64+(j-i*64)=j by omega])
  ·simp only;rw[show(i+1)*64=i*64+64 by omega];exact rfl
 ·obtain rfl:i=4:=by omega
  obtain⟨b,rfl,-,-⟩:=Oi.ly.yF (j:=0) (by omega);have hb:=Oi.new b (List.mem_singleton.2 rfl);have vP:=k1.size;conv=>whnf
  repeat ((first|refine Br.f ?_|refine CW.s ?_);conv=>whnf)
  exact⟨rfl,.inr ⟨tM,b,e,rfl,by omega,Oi.ly,Ab.ab H1 Oi.ab (by simp),k1.then Oi.ab (fun x hx=>by cases hx)⟩⟩
theorem aha(x:Chunk){i:Nat}:x.aap (i+1)=x.aap i+(if x.now i=x.cy i then 0 else 1):=rfl
def Chunk.aoC(x:Chunk)(b:Nat)(m:Nat):Chunk:={ x with now:=fun j=>if j=b then x.now b ^^^ m else x.now j }
def Chunk.flip(x:Chunk)(b:Nat)(m:Nat):Chunk:={ x.aoC b m with pk:=max x.pk ((x.aoC b m).dmg:Nat) }
def Chip.flip(C:Chip)(a bit:Nat):Chip:=C.cZ a (bit/512) ((C.ch a (bit/512)).flip (bit/8%64) (2^(bit%8)))
def Chip.afb(C:Chip)(n:Int):Chip:=if C.off then C else { C with cut:=true,bK:=n }
theorem amK(w:World)(c n:Nat)(C:Chip)(H:Ab w c C)(hn:n<=9223372036854775807):Spec Tryz.prog 18 #[.pointer (some ⟨c,0,none⟩),.int .i64 n] w fun v w'=>v=al 0/\Ab w' c (C.afb n)/\Aa [c] w w':=by
 refine spec_of_wpE (T:=tt) ai func18 rfl (by decide +kernel) ntmps18 (by simp) ?_;by_cases cj:C.off=true
 ·conv=>whnf
  repeat ((first|(refine Ld.of H.off ?_)|(refine Br.jB (by rw[cj];rfl) ?_)|refine Br.f ?_|refine CW.s ?_);conv=>whnf)
  refine⟨rfl,rfl,?_,Aa.refl _ _⟩;unfold Chip.afb;rw[if_pos cj];exact H
 ·conv=>whnf
  repeat ((first|(refine Ld.of H.off ?_)|(refine Br.is (by simpa using cj) ?_)|refine Br.f ?_|refine CW.s ?_);conv=>whnf)
  refine Sd.cellAt H.cut (Row.free H _) rfl ?_;intro k1;have H1:=H.agA true;generalize w.setCell _ _=w1 at *;conv=>whnf
  refine Sd.cellAt H1.bK (Row.free H1 _) rfl ?_;intro k2;have H2:=H1.qx n;generalize w1.setCell _ _=w2 at *;conv=>whnf
  refine⟨rfl,rfl,?_,k1.trans k2⟩;unfold Chip.afb;rw[if_neg cj];exact H2
def Chip.ahb(C:Chip):Chip:={ C with off:=false,cut:=false,bK:=0 }
theorem ahc(w:World)(c:Nat)(C:Chip)(H:Ab w c C):Spec Tryz.prog 20 #[.pointer (some ⟨c,0,none⟩)] w fun v w'=>v=.tuple #[]/\Ab w' c C.ahb/\Aa [c] w w':=by
 refine spec_of_wpE (T:=tt) ai func20 rfl (by decide +kernel) ntmps20 (by simp) ?_;conv=>whnf
 refine Sd.cellAt H.off (Row.free H _) rfl ?_;intro k1;have H1:=H.agz false;generalize w.setCell _ _=w1 at *;conv=>whnf
 refine Sd.cellAt H1.cut (Row.free H1 _) rfl ?_;intro k2;have H2:=H1.agA false;generalize w1.setCell _ _=w2 at *;conv=>whnf
 refine Sd.cellAt H2.bK (Row.free H2 _) rfl ?_;intro k3;have H3:=H2.qx 0;generalize w2.setCell _ _=w3 at *;conv=>whnf
 exact⟨rfl,rfl,H3,(k1.trans k2).trans k3⟩
end
section
open Go.RowKit
attribute [local irreducible] GF.pw GF.lg GF.mul GF.inv GF.xt
theorem oO(w:World)(k:Nat)(hk:k<64):Spec Tryz.prog 218 #[.int .i64 k] w fun v w'=>v=.int .i64 ((63-k:Nat):Int)/\w=w':=by
 refine spec_of_wpE (T:=tt) ai func218 rfl (by decide +kernel) ntmps218 (by simp) ?_;conv=>whnf
 repeat (refine Ar.la ?_;conv=>whnf)
 exact⟨rfl,vi (by omega),rfl⟩
theorem tN:(Tryz.prog.info? 288).map (·.size)=some 6:=by kernel_rfl
theorem zb(w:World):(Instr.alloc 288 true (.tuple #[])).run Tryz.prog w=.ok (.pointer (some ⟨w.heap.size,0,none⟩)) (w.alloc (eS 6 (fun _=>.int .u8 0) 288)):=by kernel_rfl
def ahd(p:Nat->Nat):Nat->Value:=fun j=>.int .u8 (GF.dA p j:Nat)
def tO(p:Nat->Nat)(j:Nat):Nat->Value:=fun i=>if i<j then ahd p i else .int .u8 0
theorem xl(p:Nat->Nat){i:Nat}(h:i<6):tO p 6 i=ahd p i:=if_pos h
theorem afc(p:Nat->Nat)(j s:Nat):tO p (j+1) s=put (tO p j) j (ahd p j) s:=by
 unfold put tO;by_cases e:s=j
 ·rw[if_pos e,if_pos (by omega),e]
 ·rw[if_neg e];by_cases e2:s<j
  ·rw[if_pos e2,if_pos (by omega)]
  ·rw[if_neg e2,if_neg (by omega)]
theorem aku{f s:Nat->Value}{n i:Nat}(h:i<n):lay f 0 n (fun j=>s (0+j)) (0+i)=s i:=by
 unfold lay;rw[if_pos (by omega)];show s (0+(0+i-0))=s i;rw[show 0+(0+i-0)=i by omega]
theorem acs(w:World)(c g h d:Nat)(A:Option Addr)(p:Nat->Nat)(hp:∀j,p j<256)(r:AI w A 64 p)(hA:∀a,A=some a->a.block≠g)(H:Ba w c g h) :
  Spec Tryz.prog 205 #[.pointer (some ⟨c,0,none⟩),.slice A 64 d] w fun v w'=>v=agg 6 (ahd p)/\FK w g w':=by
 refine spec_of_wpE (T:=tt) ai func205 rfl (by decide +kernel) ntmps205 (by simp) ?_;conv=>whnf
 refine Ru.aE (n:=6) (s:=fun _=>.int .u8 0) (zb _) ?_;intro rg w1 hrg dj r1 k1;conv=>whnf
 refine Ru.aE (n:=6) (s:=fun _=>.int .u8 0) (zb _) ?_;intro sg w2 hsg gO r2 k2;have so:=k1.trans k2;have fk2:FK w g w2:=⟨(H.fs.aj k1).aj k2,so.mono (by simp)⟩;have r12:=r1.ab k2 (by simp);have gl:=H.fs.lt;have cl:=H.row.lt;conv=>whnf
 repeat (refine CW.s ?_;conv=>whnf)
 refine CW.loop (ι:=Nat) (fun i w'=>i<=6/\FK w g w'/\Row w' sg 288 6 (tO p i)/\Row w' rg 288 6 (fun _=>.int .u8 0)) (fun i=>[(0,.pointer (some ⟨c,0,none⟩)),(1,.slice A 64 d),(4,.pointer (some ⟨rg,0,none⟩)),(5,.pointer (some ⟨sg,0,none⟩)),(7,.int .i64 i)]) (fun i=>6-i) 0 ai ⟨by simp,fk2,r2.congr (fun s _=>by simp[tO]),r12⟩ ⟨rfl,rfl,rfl,rfl,rfl,trivial⟩ ?_;rintro j wr ⟨hj,fk,rs,rz⟩;by_cases av:j<6
 ·conv=>whnf
  repeat ((first|refine Br.y ?_|refine CW.s ?_);conv=>whnf)
  have Hr:=H.of fk;have rr:=r.ab fk.kp (by simpa using hA);have rsl:=rs.lt;have rzl:=rz.lt;refine CW.held (fun w'=>Row w' c 297 2 (wv g h)) [14] (.take 0 (.take 1 (.take 2 (.take 3 (.take 4 (.take 5 (.take 6 (.take 7 (.take 8 (.take 9 (.take 10 (.one 11 (.one 12 (.take 13 (.one 14 (.done)))))))))))))))) ai (by kernel_rfl) (by kernel_rfl) (by kernel_rfl) ?_ ?_
  ·exact Hr.row.drewN 1
  have fk:FK w g (wr.drewN 1):=⟨fk.fs.drewN 1,fk.kp.drewN 1⟩;have rs:=rs.drewN 1;have rz:=rz.drewN 1;have rr:AI (wr.drewN 1) A 64 p:=rr.aj ((Aa.refl _ _).drewN 1);have rc:=Hr.row.drewN 1;generalize wr.drewN 1=w3 at *;conv=>whnf
  repeat ((refine Ag.row (fun _ h=>h) (by decide) ?_);conv=>whnf)
  refine Ca.amH fk j (by omega) ?_;intro w4 fk4 f4;have rc:=rc.ab f4.kp (by simpa using H.cg);conv=>whnf
  refine⟨rc,?_⟩;conv=>whnf
  refine Ca.aov (GF.bB j) hp (rr.ab f4.kp (by simpa using hA)) (fun _=>hA) fk4 (by omega) ?_;intro w5 fk5 k5;have rc:=rc.ab k5 (by simpa using H.cg);have rs:=(rs.ab f4.kp (by simp;omega)).ab k5 (by simp;omega);have rz:=(rz.ab f4.kp (by simp;omega)).ab k5 (by simp;omega);conv=>whnf
  refine⟨rc,?_⟩;conv=>whnf
  repeat (refine Ix.n ?_;conv=>whnf)
  refine Sd.rowAt rs j (by omega) (by omega) rfl ?_;intro w6 rs k6;conv=>whnf
  repeat (refine Ar.la ?_;conv=>whnf)
  refine⟨j+1,⟨av,⟨fk5.fs.ab k6 (by simp;omega),fk5.kp.then k6 (fun x hx=>.inr (by rw[List.mem_singleton.1 hx];omega))⟩,rs.congr (fun s hs=>?_),rz.ab k6 (by simp;omega)⟩,⟨rfl,rfl,rfl,rfl,rfl,trivial⟩,by simp only;omega⟩;exact(afc p j s).symm
 ·obtain rfl:j=6:=by omega
  conv=>whnf
  repeat ((first|refine Br.f ?_|refine CW.s ?_);conv=>whnf)
  refine Ru.vR rs underlying288 rfl tN (by omega) ?_;conv=>whnf
  refine Ru.im rz tN (by omega) (fun i hi=>by show(tO p 6 (0+i)).oneCell'=true;rw[xl p (by omega)];rfl) ?_;intro w7 rz k7;conv=>whnf
  refine Ru.vR rz underlying288 rfl tN (by omega) ?_;conv=>whnf
  refine⟨rfl,?_,⟨fk.fs.ab k7 (by simp;omega),fk.kp.then k7 (fun x hx=>.inr (by rw[List.mem_singleton.1 hx];omega))⟩⟩;refine br (fun i hi=>?_);rw[aku hi,xl p hi]
end
section
open Go.RowKit
attribute [local irreducible] GF.pw GF.lg GF.mul GF.inv GF.xt
abbrev Wd(w:World)(b d:Nat)(W:Nat->Nat):Prop:=Ly w 5 1 (some ⟨b,0,none⟩) 64 d (fun j=>.int .u8 (W j:Nat))
theorem Wd.at{w:World}{b d:Nat}{W:Nat->Nat}(h:Wd w b d W){j:Nat}(hj:j<64):w.cell? ⟨b,j,none⟩=some (.int .u8 (W j:Nat))/\w.frozen? ⟨b,j,none⟩=false:=by
 obtain⟨g,e,h1,h2⟩:=h.yF hj
 cases e
 exact⟨h1,h2⟩
theorem Wd.dN{S:List Nat}{w w':World}{b d:Nat}{W:Nat->Nat}(h:Wd w b d W)(k:Aa S w w')(hb:b∉S):Wd w' b d W:=h.ab k (fun x hx=>by rw[List.mem_singleton.1 hx];exact hb)
theorem Wd.lt{w:World}{b d:Nat}{W:Nat->Nat}(h:Wd w b d W):b<w.heap.size:=Ly.lt h rfl
theorem Sd.wd{w:World}{b d i:Nat}{W:Nat->Nat}{x:Int}{K:World->Prop}(h:Wd w b d W)(j u:Nat)(e:i=j)(hj:j<64)(hx:x=(u:Int))(k:∀w',Wd w' b d (fun i=>if i=j then u else W i)->Aa [b] w w'->K w'):Sd w ⟨b,i,none⟩ (.int .u8 x) K:=by
 subst e;subst hx;obtain⟨h1,h2⟩:=h.at hj;refine⟨⟨_,h1⟩,h2,rfl,k _ ?_ (Aa.set b i _)⟩;refine(h.set rfl i (.int .u8 (u:Nat))).congr (fun j _=>?_);unfold put;by_cases e:j=i
 ·simp only[if_pos e]
 ·simp only[if_neg e]
def sF(s:Nat->Nat):Nat->Value:=fun j=>.int .u8 (s j:Nat)
def CH(w:World)(g b d:Nat)(W s:Nat->Nat)(v:Value)(w':World):Prop :=
 FS w' g/\Aa [g,b] w w'/\((GF.Bj s/\v=.int .i64 1/\Wd w' b d (GF.fix W (63-GF.lg (GF.jS s)) (s 0)))\/(¬GF.Bj s/\v=.int .i64 0/\Wd w' b d W))
theorem Ca.aqp{w0 w:World}{g:Nat}{K:Value->World->Prop}(h:FK w0 g w)(a b:Nat)(ha:a<256)(hb:b<256)(jR:b≠0)(k:∀w',FK w0 g w'->FK w g w'->K (.tuple #[.int .u8 (GF.mul a (GF.inv b):Nat),al 0]) w'):Ca Tryz.prog 216 #[.pointer (some ⟨g,0,none⟩),.int .u8 a,.int .u8 b] w K:=Ca.of (agO w g a b ha hb h.fs) fun v w' hp=>by
 have e1:amv a b=GF.mul a (GF.inv b):=if_neg jR;have e2:rM b=0:=if_neg jR;have h2:=hp.2.2;have h3:=hp.2.1;obtain⟨rfl,hf⟩:=h.of hp;rw[e1,e2];exact k w' hf ⟨h3,h2⟩
theorem Ca.aoD{w0 w:World}{g:Nat}{K:Value->World->Prop}(h:FK w0 g w)(a b:Nat)(ha:a<256)(hb:b<256)(k:∀w',FK w0 g w'->FK w g w'->K (.int .u8 (GF.mul a b:Nat)) w'):Ca Tryz.prog 214 #[.pointer (some ⟨g,0,none⟩),.int .u8 a,.int .u8 b] w K:=Ca.of (yW w g a b ha hb h.fs) fun v w' hp=>by
 have h2:=hp.2.2;have h3:=hp.2.1;obtain⟨rfl,hf⟩:=h.of hp;exact k w' hf ⟨h3,h2⟩
structure Ctx(w0:World)(c g h sg b d:Nat)(s W:Nat->Nat)(w:World):Prop where
 fk:FK w0 g w
 iH:Ba w c g h
 row:Row w sg 288 6 (sF s)
 wd:Wd w b d W
 ahe:sg≠g
 bne:b≠g
section
variable{w0 w w':World}{c g h sg b d:Nat}{s W:Nat->Nat}
theorem Ctx.step(H:Ctx w0 c g h sg b d s W w)(f:FK w g w'):Ctx w0 c g h sg b d s W w':=⟨⟨f.fs,H.fk.kp.trans f.kp⟩,H.iH.of f,H.row.ab f.kp (by simpa using H.ahe),H.wd.dN f.kp (by simpa using H.bne),H.ahe,H.bne⟩
theorem Ctx.draw(H:Ctx w0 c g h sg b d s W w):Ctx w0 c g h sg b d s W (w.drewN 1):=H.step ⟨H.fk.fs.drewN 1,(Aa.refl _ _).drewN 1⟩
theorem Ctx.rows(H:Ctx w0 c g h sg b d s W w):Row w sg 288 6 (sF s)/\Row w c 297 2 (wv g h):=⟨H.row,H.iH.row⟩
theorem Ca.cdiv{K:Value->World->Prop}(H:Ctx w0 c g h sg b d s W w)(x y:Nat)(hx:x<256)(hy:y<256)(hy0:y≠0)(k:∀w',Ctx w0 c g h sg b d s W w'->FK w g w'->K (.tuple #[.int .u8 (GF.mul x (GF.inv y):Nat),al 0]) w'):Ca Tryz.prog 216 #[.pointer (some ⟨g,0,none⟩),.int .u8 x,.int .u8 y] w K:=Ca.aqp H.fk x y hx hy hy0 fun w' _ f=>k w' (H.step f) f
theorem Ca.aoE{K:Value->World->Prop}(H:Ctx w0 c g h sg b d s W w)(x y:Nat)(hx:x<256)(hy0:y=0)(k:∀w',Ctx w0 c g h sg b d s W w'->FK w g w'->K (.tuple #[.int .u8 (0:Nat),al 4]) w'):Ca Tryz.prog 216 #[.pointer (some ⟨g,0,none⟩),.int .u8 x,.int .u8 y] w K:=Ca.of (agO w g x y hx (by omega) H.fk.fs) fun v w' hp=>by
 subst hy0;obtain⟨rfl,h1,h2⟩:=hp;exact k w' (H.step ⟨h1,h2⟩) ⟨h1,h2⟩
theorem Ca.wx{K:Value->World->Prop}(H:Ctx w0 c g h sg b d s W w)(x y:Nat)(hx:x<256)(hy:y<256)(k:∀w',Ctx w0 c g h sg b d s W w'->FK w g w'->K (.int .u8 (GF.mul x y:Nat)) w'):Ca Tryz.prog 214 #[.pointer (some ⟨g,0,none⟩),.int .u8 x,.int .u8 y] w K:=Ca.aoD H.fk x y hx hy fun w' _ f=>k w' (H.step f) f
theorem Ca.amL{K:Value->World->Prop}(H:Ctx w0 c g h sg b d s W w)(j:Nat)(hj:j<255)(k:∀w',Ctx w0 c g h sg b d s W w'->FK w g w'->K (.int .u8 (GF.pw j:Nat)) w'):Ca Tryz.prog 212 #[.pointer (some ⟨g,0,none⟩),.int .i64 j] w K:=Ca.amH H.fk j hj fun w' _ f=>k w' (H.step f) f
theorem Ca.aqq{K:Value->World->Prop}(H:Ctx w0 c g h sg b d s W w)(x:Nat)(hx:x<256)(hx0:x≠0)(k:∀w',Ctx w0 c g h sg b d s W w'->FK w g w'->K (.tuple #[.int .i64 (GF.lg x:Nat),al 0]) w'):Ca Tryz.prog 217 #[.pointer (some ⟨g,0,none⟩),.int .u8 x] w K:=Ca.of (amy w g x hx H.fk.fs) fun v w' hp=>by
 obtain⟨rfl,h1,h2⟩:=hp;have e1:lgN x=GF.lg x:=if_neg hx0;have e2:rM x=0:=if_neg hx0;rw[e1,e2];exact k w' (H.step ⟨h1,h2⟩) ⟨h1,h2⟩
end
theorem amM(w:World)(c g h b d:Nat)(W s:Nat->Nat)(hW:∀j,W j<256)(hs:∀j,s j<256)(r:Wd w b d W)(hb:b≠g)(H:Ba w c g h)(hbc:b≠c) :
  Spec Tryz.prog 206 #[.pointer (some ⟨c,0,none⟩),.slice (some ⟨b,0,none⟩) 64 d,agg 6 (sF s)] w (CH w g b d W s):=by
 refine spec_of_wpE (T:=tt) ai func206 rfl (by decide +kernel) ntmps206 (by simp) ?_;conv=>whnf
 refine Ru.dr ?_;intro sg w1 hsg dj rs k1;have gl:=H.fs.lt;have cl:=H.row.lt;have bl:=r.lt;have C1:Ctx w c g h sg b d s W w1:=⟨⟨H.fs.aj k1,k1.mono (by simp)⟩,H.aj k1 (by simp) (by simp) (by simp),rs,r.dN k1 (by simp),by omega,hb⟩;have kk:∀ {w'},Aa [g] w w'->Aa [g,b] w w':=fun k=>k.mono (by simp);have l0:w1.cell? ⟨sg,0,none⟩=some (.int .u8 (s 0:Nat)):=rs.cell 0 (by omega);have l1:w1.cell? ⟨sg,1,none⟩=some (.int .u8 (s 1:Nat)):=rs.cell 1 (by omega);by_cases h0:s 0=0
 ·conv=>whnf
  repeat ((first|refine Br.t ?_|refine Pk.t ?_|refine Ix.i ?_|refine Br.y ?_|refine Ld.of (by assumption) ?_|refine CW.s ?_);conv=>whnf)
  exact⟨rfl,C1.fk.fs,kk C1.fk.kp,.inr ⟨fun o=>o.z0 h0,rfl,C1.wd⟩⟩
 by_cases h1:s 1=0
 ·conv=>whnf
  repeat ((first|refine Br.f ?_|refine Pk.f ?_|refine Ix.i ?_|refine Br.y ?_|refine Br.n ?_|refine Ld.of (by assumption) ?_|refine CW.s ?_);conv=>whnf)
  exact⟨rfl,C1.fk.fs,kk C1.fk.kp,.inr ⟨fun o=>o.z1 h1,rfl,C1.wd⟩⟩
 conv=>whnf
 repeat ((first|refine Br.f ?_|refine Pk.f ?_|refine Ix.i ?_|refine Br.n ?_|refine Ld.of (by assumption) ?_|refine CW.s ?_);conv=>whnf)
 refine CW.held (fun w'=>Row w' sg 288 6 (sF s)/\Row w' c 297 2 (wv g h)) [] (.take 0 (.take 1 (.take 2 (.take 3 (.take 4 (.take 5 (.take 6 (.take 7 (.one 8 (.take 9 (.take 10 (.take 11 (.take 12 (.take 13 (.done))))))))))))))) ai (by kernel_rfl) (by kernel_rfl) (by kernel_rfl) ?_ ?_
 ·exact C1.draw.rows
 have C2:=C1.draw;clear C1 l0 l1;generalize w1.drewN 1=w2 at *;have hx:GF.mul (s 1) (GF.inv (s 0))=GF.jS s:=rfl;have hx0:GF.jS s≠0:=GF.sC (hs 1) (GF.oM _) h1 (GF.adL _);have hxl:=GF.adS hs;conv=>whnf
 repeat ((first|(refine Ag.row (fun _ h=>h.1) (by decide) ?_)|(refine Ag.row (fun _ h=>h.2) (by decide) ?_)|(refine Ca.cdiv C2 (s 1) (s 0) (hs 1) (hs 0) h0 ?_)|refine Ix.i ?_);conv=>whnf)
 intro w3 C3 _;rw[hx];conv=>whnf
 refine⟨C3.rows,?_⟩;conv=>whnf
 repeat ((first|refine Br.f ?_|refine Ru.ak ?_|refine CW.s ?_);conv=>whnf)
 refine CW.loop (ι:=Nat) (fun j w'=>1<=j/\j<=6/\Ctx w c g h sg b d s W w'/\∀i,1<=i->i<j->GF.mul (s (i-1)) (GF.jS s)=s i) (fun j=>[(0,.pointer (some ⟨c,0,none⟩)),(1,.slice (some ⟨b,0,none⟩) 64 d),(5,.pointer (some ⟨sg,0,none⟩)),(7,.int .u8 (GF.jS s:Nat)),(9,.int .i64 j)]) (fun j=>6-j) 1 ai ⟨by omega,by omega,C3,fun i h1 h2=>by omega⟩ ⟨rfl,rfl,rfl,rfl,rfl,trivial⟩ ?_;rintro j wr ⟨hj1,hj,C,cq⟩;have hsj:=hs (j-1);by_cases av:j<6
 ·conv=>whnf
  repeat ((first|refine Br.y ?_|refine CW.s ?_);conv=>whnf)
  refine CW.held (fun w'=>Row w' sg 288 6 (sF s)/\Row w' c 297 2 (wv g h)) [] (.take 0 (.take 1 (.take 2 (.take 3 (.take 4 (.take 5 (.take 6 (.take 7 (.take 8 (.take 10 (.take 11 (.take 12 (.one 9 (.take 13 (.done))))))))))))))) ai (by kernel_rfl) (by kernel_rfl) (by kernel_rfl) ?_ ?_
  ·exact C.draw.rows
  have C:=C.draw;generalize wr.drewN 1=w4 at *;conv=>whnf
  repeat ((first|(refine Ag.at (j:=j) (by omega) (fun _ h=>h.1.cell j (by omega)) ?_)|(refine Ag.at (j:=j-1) (by omega) (fun _ h=>h.1.cell (j-1) (by omega)) ?_)|(refine Ag.row (fun _ h=>h.2) (by decide) ?_)|(refine Ca.wx C (s (j-1)) (GF.jS s) hsj hxl ?_)|refine Ix.n ?_|refine Ix.i ?_|refine Ar.la ?_);conv=>whnf)
  intro w5 C5 _;conv=>whnf
  refine⟨C5.rows,?_⟩;by_cases he:GF.mul (s (j-1)) (GF.jS s)=s j
  ·conv=>whnf
   repeat ((first|refine Ar.la ?_|refine Br.ny ?_);conv=>whnf)
   exact⟨j+1,⟨by omega,by omega,C5,fun i h1 h2=>by
    by_cases e:i=j
    ·rw[e];exact he
    ·exact cq i h1 (by omega)⟩,⟨rfl,rfl,rfl,rfl,rfl,trivial⟩,by simp only;omega⟩
  ·conv=>whnf
   repeat (refine Br.nn ?_;conv=>whnf)
   exact⟨rfl,C5.fk.fs,kk C5.fk.kp,.inr ⟨fun o=>he (o.all j hj1 av),rfl,C5.wd⟩⟩
 ·obtain rfl:j=6:=by omega
  have hlg:=(GF.eH _ hxl hx0).1;conv=>whnf
  repeat ((first|(refine Ld.row C.iH.row (by decide) ?_)|(refine Ca.aqq C (GF.jS s) hxl hx0 ?_)|refine Br.f ?_|refine CW.s ?_);conv=>whnf)
  intro w5 C5 _;generalize hk:GF.lg (GF.jS s)=k at *;by_cases aoF:64<=k
  ·conv=>whnf
   repeat ((first|refine Br.f ?_|refine Pk.f ?_|refine Br.y ?_|refine Ru.ak ?_|refine CW.s ?_);conv=>whnf)
   exact⟨rfl,C5.fk.fs,kk C5.fk.kp,.inr ⟨fun o=>by have:=o.at_;omega,rfl,C5.wd⟩⟩
  conv=>whnf
  repeat ((first|refine Br.f ?_|refine Pk.f ?_|refine Br.n ?_|refine Ru.ak ?_|refine CW.s ?_);conv=>whnf)
  have aoF:k<64:=by omega
  have C:=C5.draw;have aqr:=hW (63-k);refine CW.held (fun w'=>Row w' sg 288 6 (sF s)/\Wd w' b d W) [9] (.take 0 (.take 1 (.take 5 (.take 6 (.one 2 (.take 3 (.take 4 (.take 7 (.take 8 (.one 9 (.done))))))))))) ai (by kernel_rfl) (by kernel_rfl) (by kernel_rfl) ?_ ?_
  ·exact⟨C.row,C.wd⟩
  generalize w5.drewN 1=w6 at *;conv=>whnf
  repeat ((first|(refine Ag.at (j:=0) (by omega) (fun _ h=>h.1.cell 0 (by omega)) ?_)|refine Ix.i ?_);conv=>whnf)
  refine Ca.of (oO w6 k (by omega)) ?_;rintro _ w7 ⟨rfl,rfl⟩;conv=>whnf
  refine⟨⟨C.row,C.wd⟩,?_⟩;conv=>whnf
  repeat ((first|(refine Ix.of (63-k) (by omega) (by omega) ?_)|(refine Ag.at (j:=63-k) (by omega) (fun _ h=>(h.2.at (by omega)).1) ?_));conv=>whnf)
  refine Sd.wd C.wd (63-k) (W (63-k) ^^^ s 0) (by omega) (by omega) (bI aqr (hs 0)) ?_;intro w8 wd8 k8;conv=>whnf
  have hsg:=C.ahe;refine⟨rfl,C.fk.fs.ab k8 (by simp;omega),(kk C.fk.kp).trans (k8.mono (by simp)),.inl ⟨⟨h0,h1,fun j a1 a2=>cq j a1 a2,by rw[hk];exact aoF⟩,rfl,?_⟩⟩;refine wd8.congr (fun i _=>?_);unfold GF.fix;rw[hk];by_cases e:i=63-k
  ·simp only[if_pos e,e]
  ·simp only[if_neg e]
end
section
open Go.RowKit
attribute [local irreducible] GF.pw GF.lg GF.mul GF.inv GF.xt
def CI(w:World)(g b d:Nat)(W s:Nat->Nat)(v:Value)(w':World):Prop :=
 FS w' g/\Aa [g,b] w w'/\((∃k0 k1,GF.AY s k0 k1/\v=.int .i64 2/\Wd w' b d (GF.wu W s k0 k1))\/((∀k0 k1,¬GF.AY s k0 k1)/\v=.int .i64 0/\Wd w' b d W))
theorem Ca.acu{w0 w:World}{c g h sg b d:Nat}{s W:Nat->Nat}{K:Value->World->Prop}{x y:Int}(H:Ctx w0 c g h sg b d s W w)(m n:Nat)(ex:x=(m:Int))(ey:y=(n:Int))(hx:m<256)(hy:n<256)(hy0:n≠0)(k:∀w',Ctx w0 c g h sg b d s W w'->FK w g w'->K (.tuple #[.int .u8 (GF.mul m (GF.inv n):Nat),al 0]) w'):Ca Tryz.prog 216 #[.pointer (some ⟨g,0,none⟩),.int .u8 x,.int .u8 y] w K:=by
 subst ex ey;exact Ca.cdiv H m n hx hy hy0 k
theorem Ca.akv{w0 w:World}{c g h sg b d:Nat}{s W:Nat->Nat}{K:Value->World->Prop}{x y:Int}(H:Ctx w0 c g h sg b d s W w)(m:Nat)(ex:x=(m:Int))(ey:y=0)(hx:m<256)(k:∀w',Ctx w0 c g h sg b d s W w'->FK w g w'->K (.tuple #[.int .u8 (0:Nat),al 4]) w'):Ca Tryz.prog 216 #[.pointer (some ⟨g,0,none⟩),.int .u8 x,.int .u8 y] w K:=by
 subst ex ey;exact Ca.aoE H m 0 hx rfl k
theorem akw{s:Nat->Nat}(hs:∀j,s j<256):GF.oN s<256:=GF.bo (GF.mul_lt (hs 1)) (GF.mul_lt (hs 0))
theorem aoG{s:Nat->Nat}(hs:∀j,s j<256):GF.aN s<256:=GF.mul_lt (GF.bo (GF.mul_lt (hs 1)) (GF.mul_lt (hs 0)))
theorem aoH{s:Nat->Nat}(hs:∀j,s j<256):GF.bN s<256:=GF.mul_lt (GF.bo (GF.mul_lt (hs 2)) (GF.mul_lt (hs 1)))
theorem Ctx.other{w0 w w':World}{c g h sg b d ag:Nat}{s W:Nat->Nat}(H:Ctx w0 c g h sg b d s W w)(k:Aa [ag] w w')(hn:ag≠g/\ag≠c/\ag≠h/\ag≠sg/\ag≠b/\w0.heap.size<=ag):Ctx w0 c g h sg b d s W w':=by
 obtain⟨h1,h2,h3,h4,h5,h6⟩:=hn;exact⟨⟨H.fk.fs.ab k (by simpa using h1.symm),H.fk.kp.then k (fun x hx=>.inr (by rw[List.mem_singleton.1 hx];exact h6))⟩,H.iH.aj k (by simpa using h2.symm) (by simpa using h1.symm) (by simpa using h3.symm),H.row.ab k (by simpa using h4.symm),H.wd.dN k (by simpa using h5.symm),H.ahe,H.bne⟩
theorem akx(w:World):(Instr.alloc 304 true (.tuple #[])).run Tryz.prog w=.ok (.pointer (some ⟨w.heap.size,0,none⟩)) (w.alloc (eS 2 (fun _=>.int .i64 0) 304)):=by kernel_rfl
theorem GF.rP(a b k:Nat):GF.ck a b (k+1)=GF.ck a b k++(if GF.aaD a b k then [k] else []):=by
 unfold GF.ck;rw[List.range_succ,List.filter_append];congr 1;by_cases e:GF.aaD a b k=true
 ·simp[e]
 ·simp[e]
theorem GF.afd(a b:Nat){k m:Nat}(h:k<=m):(GF.ck a b k).length<=(GF.ck a b m).length:=by
 induction m with
 | zero =>
  obtain rfl:k=0:=by omega
  exact Nat.le_refl _
 | succ m ih =>
  by_cases e:k=m+1
  ·rw[e];exact Nat.le_refl _
  ·rw[GF.rP,List.length_append];have:=ih (by omega);omega
theorem aky{s:Nat->Nat}{k:Nat}(hk:k<=64)(h:2<(GF.ck (GF.aN s) (GF.bN s) k).length)(k0 k1:Nat):¬GF.AY s k0 k1:=fun o=>by
 have:=GF.afd (GF.aN s) (GF.bN s) hk;rw[o.roots] at this;simp at this;omega
theorem afe{a b:Nat}(h:(GF.ck a b 64).length=2):∃k0 k1,GF.ck a b 64=[k0,k1]/\k0<k1/\k1<64:=by
 have h3:(GF.ck a b 64).Pairwise (· < ·):=List.Pairwise.filter _ List.pairwise_lt_range;have hm:∀k,k∈GF.ck a b 64->k<64:=fun k hk=>List.mem_range.1 (List.mem_filter.1 hk).1;generalize GF.ck a b 64=L at *
 match L,h with
 | [k0,k1],_=>exact⟨k0,k1,rfl,(List.pairwise_cons.1 h3).1 k1 (by simp),hm k1 (by simp)⟩
def atF(L:List Nat):Nat->Value:=fun j=>.int .i64 ((L[j]?.getD 0:Nat):Int)
theorem amN(w:World)(c g h b d:Nat)(W s:Nat->Nat)(hW:∀j,W j<256)(hs:∀j,s j<256)(r:Wd w b d W)(hb:b≠g)(H:Ba w c g h)(hbc:b≠c) :
  Spec Tryz.prog 207 #[.pointer (some ⟨c,0,none⟩),.slice (some ⟨b,0,none⟩) 64 d,agg 6 (sF s)] w (CI w g b d W s):=by
 refine spec_of_wpE (T:=tt) ai func207 rfl (by decide +kernel) ntmps207 (by simp) ?_;conv=>whnf
 refine Ru.dr ?_;intro sg w1 hsg dj rs k1;have gl:=H.fs.lt;have cl:=H.row.lt;have bl:=r.lt;have C1:Ctx w c g h sg b d s W w1:=⟨⟨H.fs.aj k1,k1.mono (by simp)⟩,H.aj k1 (by simp) (by simp) (by simp),rs,r.dN k1 (by simp),by omega,hb⟩;have kk:∀ {w'},Aa [g] w w'->Aa [g,b] w w':=fun k=>k.mono (by simp);have m11:=GF.mul_lt (a:=s 1) (b:=s 1) (hs 1);have m02:=GF.mul_lt (a:=s 0) (b:=s 2) (hs 0);have m12:=GF.mul_lt (a:=s 1) (b:=s 2) (hs 1);have m03:=GF.mul_lt (a:=s 0) (b:=s 3) (hs 0);have m22:=GF.mul_lt (a:=s 2) (b:=s 2) (hs 2);have m13:=GF.mul_lt (a:=s 1) (b:=s 3) (hs 1);have aqs:fV .xor .u8 (GF.mul (s 1) (s 1):Nat) (GF.mul (s 0) (s 2):Nat)=(GF.oN s:Int):=bI m11 m02;have hdl:=akw hs;conv=>whnf
 repeat ((refine Ld.row C1.iH.row (by decide) ?_);conv=>whnf)
 refine CW.held (fun w'=>Row w' sg 288 6 (sF s)) [] (.take 0 (.take 1 (.take 2 (.take 3 (.take 4 (.take 6 (.take 7 (.take 8 (.take 9 (.take 10 (.one 5 (.one 11 (.take 12 (.take 13 (.done))))))))))))))) ai (by kernel_rfl) (by kernel_rfl) (by kernel_rfl) ?_ ?_
 ·exact C1.draw.row
 have C:=C1.draw;clear C1;generalize w1.drewN 1=w2 at *;conv=>whnf
 repeat ((first|(refine Ag.row (fun _ h=>h) (by decide) ?_)|refine Ix.i ?_);conv=>whnf)
 refine Ca.wx C (s 1) (s 1) (hs 1) (hs 1) ?_;intro w3 C _;conv=>whnf
 refine⟨C.row,?_⟩;conv=>whnf
 refine Ca.wx C (s 0) (s 2) (hs 0) (hs 2) ?_;intro w4 C _;conv=>whnf
 refine⟨C.row,?_⟩;conv=>whnf
 rw[aqs];refine CW.held (fun w'=>Row w' sg 288 6 (sF s)) [] (.take 0 (.take 1 (.take 2 (.take 3 (.take 4 (.take 5 (.take 7 (.take 8 (.take 9 (.take 10 (.take 11 (.take 14 (.one 6 (.one 12 (.take 13 (.one 15 (.take 16 (.take 17 (.take 18 (.take 19 (.take 20 (.done)))))))))))))))))))))) ai (by kernel_rfl) (by kernel_rfl) (by kernel_rfl) ?_ ?_
 ·exact C.draw.row
 replace C:=C.draw;generalize w4.drewN 1=w5 at *;conv=>whnf
 repeat ((first|(refine Ag.row (fun _ h=>h) (by decide) ?_)|refine Ix.i ?_);conv=>whnf)
 refine Ca.wx C (s 1) (s 2) (hs 1) (hs 2) ?_;clear C;intro w6 C _;conv=>whnf
 refine⟨C.row,?_⟩;conv=>whnf
 refine Ca.wx C (s 0) (s 3) (hs 0) (hs 3) ?_;clear C;intro w7 C _;conv=>whnf
 refine⟨C.row,?_⟩;by_cases vT:GF.oN s=0
 ·conv=>whnf
  repeat ((refine Ca.akv C (GF.mul (s 1) (s 2) ^^^ GF.mul (s 0) (s 3)) (bI m12 m03) (by rw[vT];rfl) (GF.bo m12 m03) ?_);conv=>whnf)
  clear C;intro w8 C _;conv=>whnf
  refine⟨C.row,?_⟩;conv=>whnf
  repeat ((first|refine Br.t ?_|refine Ru.n1 ?_|refine CW.s ?_);conv=>whnf)
  exact⟨rfl,C.fk.fs,kk C.fk.kp,.inr ⟨fun k0 k1 o=>o.det vT,rfl,C.wd⟩⟩
 conv=>whnf
 repeat ((refine Ca.acu C (GF.mul (s 1) (s 2) ^^^ GF.mul (s 0) (s 3)) (GF.oN s) (bI m12 m03) rfl (GF.bo m12 m03) hdl vT ?_);conv=>whnf)
 clear C;intro w8 C _;conv=>whnf
 refine⟨C.row,?_⟩;conv=>whnf
 repeat ((first|refine Br.f ?_|refine Ru.ak ?_|refine CW.s ?_);conv=>whnf)
 refine CW.held (fun w'=>Row w' sg 288 6 (sF s)) [] (.take 0 (.take 1 (.take 2 (.take 3 (.take 4 (.take 5 (.take 7 (.take 8 (.take 9 (.take 10 (.take 11 (.take 14 (.one 6 (.one 12 (.take 13 (.one 15 (.take 16 (.take 17 (.take 18 (.take 19 (.take 20 (.done)))))))))))))))))))))) ai (by kernel_rfl) (by kernel_rfl) (by kernel_rfl) ?_ ?_
 ·exact C.draw.row
 replace C:=C.draw;generalize w8.drewN 1=w9 at *;conv=>whnf
 repeat ((first|(refine Ag.row (fun _ h=>h) (by decide) ?_)|refine Ix.i ?_);conv=>whnf)
 refine Ca.wx C (s 2) (s 2) (hs 2) (hs 2) ?_;clear C;intro tP C _;conv=>whnf
 refine⟨C.row,?_⟩;conv=>whnf
 refine Ca.wx C (s 1) (s 3) (hs 1) (hs 3) ?_;clear C;intro zc C _;conv=>whnf
 refine⟨C.row,?_⟩;conv=>whnf
 repeat ((refine Ca.acu C (GF.mul (s 2) (s 2) ^^^ GF.mul (s 1) (s 3)) (GF.oN s) (bI m22 m13) rfl (GF.bo m22 m13) hdl vT ?_);conv=>whnf)
 clear C;intro w12 C _;conv=>whnf
 refine⟨C.row,?_⟩;have ea:GF.mul (GF.mul (s 1) (s 2) ^^^ GF.mul (s 0) (s 3)) (GF.inv (GF.oN s))=GF.aN s:=rfl;have eb:GF.mul (GF.mul (s 2) (s 2) ^^^ GF.mul (s 1) (s 3)) (GF.inv (GF.oN s))=GF.bN s:=rfl;have hal:=aoG hs;have na:=aoH hs;conv=>whnf
 repeat ((first|refine Br.f ?_|refine Ru.ak ?_|refine CW.s ?_);conv=>whnf)
 rw[ea,eb];refine Ru.aE (n:=2) (s:=fun _=>.int .i64 0) (akx _) ?_;intro ag w13 wR hs13 ra vS;have arT:=C.fk.fs.lt;have arK:=C.row.lt;have arL:=C.wd.lt;have arM:=C.iH.row.lt;have arN:=C.iH.gen.lt;have aqt:=C.fk.kp;replace C:Ctx w c g h sg b d s W w13:=⟨⟨C.fk.fs.aj vS,C.fk.kp.trans (vS.mono (by simp))⟩,C.iH.aj vS (by simp) (by simp) (by simp),C.row.ab vS (by simp),C.wd.dN vS (by simp),C.ahe,C.bne⟩;conv=>whnf
 repeat (refine CW.s ?_;conv=>whnf)
 have cn:ag≠g/\ag≠c/\ag≠h/\ag≠sg/\ag≠b/\w.heap.size<=ag:=⟨by omega,by omega,by omega,by omega,by omega,by have:=aqt.size;omega⟩;have eP:wv g h (0+0)=.pointer (some ⟨g,0,none⟩):=rfl;rw[eP];refine CW.loop (ι:=Nat) (fun k w'=>k<=64/\Ctx w c g h sg b d s W w'/\(GF.ck (GF.aN s) (GF.bN s) k).length<=2/\Row w' ag 304 2 (atF (GF.ck (GF.aN s) (GF.bN s) k))) (fun k=>[(0,.pointer (some ⟨c,0,none⟩)),(1,.slice (some ⟨b,0,none⟩) 64 d),(5,.pointer (some ⟨sg,0,none⟩)),(7,.pointer (some ⟨g,0,none⟩)),(9,.int .u8 (GF.aN s:Nat)),(11,.int .u8 (GF.bN s:Nat)),(12,.pointer (some ⟨ag,0,none⟩)),(13,.int .i64 ((GF.ck (GF.aN s) (GF.bN s) k).length:Nat)),(78,.int .i64 k)]) (fun k=>64-k) 0 ai ⟨by omega,C,by simp[GF.ck],ra.congr (fun i _=>by simp[GF.ck,atF])⟩ ⟨rfl,rfl,rfl,rfl,rfl,rfl,rfl,rfl,rfl,trivial⟩ ?_;clear C ra vS;rintro k wr ⟨hk,C,hlen,ra⟩;by_cases av:k<64
 ·have hx:=GF.bB k;have mxx:=GF.mul_lt (a:=GF.pw k) (b:=GF.pw k) hx;have max:=GF.mul_lt (a:=GF.aN s) (b:=GF.pw k) hal;have hrs:=GF.rP (GF.aN s) (GF.bN s) k;generalize hL:GF.ck (GF.aN s) (GF.bN s) k=L at *;conv=>whnf
  repeat ((first|(refine Ca.amL C k (by omega) ?_)|refine Br.y ?_|refine CW.s ?_);conv=>whnf)
  clear C;intro w14 C f;replace ra:=ra.ab f.kp (by simpa using cn.1);clear f;conv=>whnf
  repeat ((first|(refine Ca.wx C (GF.pw k) (GF.pw k) hx hx ?_)|refine CW.s ?_);conv=>whnf)
  clear C;intro w15 C f;replace ra:=ra.ab f.kp (by simpa using cn.1);clear f;conv=>whnf
  repeat ((refine Ca.wx C (GF.aN s) (GF.pw k) hal hx ?_);conv=>whnf)
  clear C;intro w16 C f;replace ra:=ra.ab f.kp (by simpa using cn.1);clear f;have mC:fV .xor .u8 (fV .xor .u8 (GF.mul (GF.pw k) (GF.pw k):Nat) (GF.mul (GF.aN s) (GF.pw k):Nat)) (GF.bN s:Nat)=((GF.mul (GF.pw k) (GF.pw k) ^^^ GF.mul (GF.aN s) (GF.pw k) ^^^ GF.bN s:Nat):Int):=by
   rw[bI mxx max,bI (GF.bo mxx max) na]
  have hrb:GF.aaD (GF.aN s) (GF.bN s) k=(GF.mul (GF.pw k) (GF.pw k) ^^^ GF.mul (GF.aN s) (GF.pw k) ^^^ GF.bN s == 0):=rfl;conv=>whnf
  rw[mC];generalize GF.mul (GF.pw k) (GF.pw k) ^^^ GF.mul (GF.aN s) (GF.pw k) ^^^ GF.bN s=z at *;by_cases hz:z=0
  ·subst hz;rw[hrb] at hrs;replace hrs:GF.ck (GF.aN s) (GF.bN s) (k+1)=L++[k]:=hrs;by_cases h2:L.length=2
   ·conv=>whnf
    repeat ((first|refine Br.f ?_|refine Br.y ?_);conv=>whnf)
    exact⟨rfl,C.fk.fs,kk C.fk.kp,.inr ⟨aky (k:=k+1) (by omega) (by rw[hrs,List.length_append,h2];simp),rfl,C.wd⟩⟩
   ·conv=>whnf
    repeat ((first|refine Br.f ?_|refine Ix.n ?_|refine Br.n ?_);conv=>whnf)
    refine Sd.rowAt ra L.length (by omega) (by omega) rfl ?_;intro w17 ra2 k17;conv=>whnf
    repeat (refine Ar.la ?_;conv=>whnf)
    refine⟨k+1,⟨by omega,C.other k17 cn,by rw[hrs];simp;omega,ra2.congr (fun i hi=>?_)⟩,⟨rfl,rfl,rfl,rfl,rfl,rfl,rfl,vi (by rw[hrs];simp),rfl,trivial⟩,by simp only;omega⟩;rw[hrs];unfold put atF;by_cases e:i=L.length
    ·rw[if_pos e,e];simp
    ·rw[if_neg e];by_cases e2:i<L.length
     ·rw[List.getElem?_append_left e2]
     ·rw[List.getElem?_eq_none (by omega),List.getElem?_eq_none (by simp;omega)]
  ·have hf:(z == 0)=false:=by simpa using hz
   rw[hrb,hf] at hrs;replace hrs:GF.ck (GF.aN s) (GF.bN s) (k+1)=L:=by rw[hrs];simp
   conv=>whnf
   repeat ((first|refine Ar.la ?_|refine Br.nn ?_);conv=>whnf)
   exact⟨k+1,⟨by omega,C,by rw[hrs];exact hlen,by rw[hrs];exact ra⟩,⟨rfl,rfl,rfl,rfl,rfl,rfl,rfl,vi (by rw[hrs]),rfl,trivial⟩,by simp only;omega⟩
 ·obtain rfl:k=64:=by omega
  conv=>whnf
  repeat ((first|refine Br.f ?_|refine CW.s ?_);conv=>whnf)
  by_cases h2:¬(GF.ck (GF.aN s) (GF.bN s) 64).length=2
  ·conv=>whnf
   repeat (refine Br.nn ?_;conv=>whnf)
   exact⟨rfl,C.fk.fs,kk C.fk.kp,.inr ⟨fun k0 k1 o=>h2 (by rw[o.roots];rfl),rfl,C.wd⟩⟩
  obtain⟨k0,k1,hL,arU,hk1⟩:=afe (Decidable.not_not.1 h2);have h2:(GF.ck (GF.aN s) (GF.bN s) 64).length=2:=Decidable.not_not.1 h2;rw[hL] at ra;have ra0:∀ {w'},Row w' ag 304 2 (atF [k0,k1])->w'.cell? ⟨ag,0,none⟩=some (.int .i64 (k0:Nat)):=fun r=>r.cell 0 (by omega);have ra1:∀ {w'},Row w' ag 304 2 (atF [k0,k1])->w'.cell? ⟨ag,1,none⟩=some (.int .i64 (k1:Nat)):=fun r=>r.cell 1 (by omega);have hx:=GF.bB k0;have hy:=GF.bB k1;have m0y:=GF.mul_lt (a:=s 0) (b:=GF.pw k1) (hs 0);conv=>whnf
  repeat (refine Br.ny ?_;conv=>whnf)
  refine CW.held (fun w'=>Row w' ag 304 2 (atF [k0,k1])) [] (.take 0 (.take 1 (.take 2 (.take 4 (.take 5 (.take 6 (.one 3 (.one 7 (.take 8 (.take 9 (.done))))))))))) ai (by kernel_rfl) (by kernel_rfl) (by kernel_rfl) ?_ ?_
  ·exact ra.drewN 1
  replace C:=C.draw;replace ra:=ra.drewN 1;generalize wr.drewN 1=w14 at *;conv=>whnf
  repeat ((first|(refine Ag.at (j:=0) (by omega) (fun _ h=>ra0 h) ?_)|(refine Ag.at (j:=1) (by omega) (fun _ h=>ra1 h) ?_)|refine Ix.i ?_);conv=>whnf)
  refine Ca.amL C k0 (by omega) ?_;clear C;intro w15 C f;replace ra:=ra.ab f.kp (by simpa using cn.1);clear f;conv=>whnf
  refine⟨ra,?_⟩;conv=>whnf
  refine Ca.amL C k1 (by omega) ?_;clear C;intro w16 C f;replace ra:=ra.ab f.kp (by simpa using cn.1);clear f;conv=>whnf
  refine⟨ra,?_⟩;conv=>whnf
  refine CW.held (fun w'=>Row w' sg 288 6 (sF s)) [] (.take 0 (.take 1 (.take 2 (.take 3 (.take 4 (.take 5 (.take 6 (.take 9 (.take 10 (.take 11 (.one 7 (.take 8 (.one 12 (.take 13 (.take 14 (.take 15 (.take 16 (.take 17 (.done))))))))))))))))))) ai (by kernel_rfl) (by kernel_rfl) (by kernel_rfl) ?_ ?_
  ·exact C.draw.row
  replace C:=C.draw;replace ra:=ra.drewN 1;generalize w16.drewN 1=w17 at *;conv=>whnf
  repeat ((first|(refine Ag.row (fun _ h=>h) (by decide) ?_)|refine Ix.i ?_);conv=>whnf)
  refine Ca.wx C (s 0) (GF.pw k1) (hs 0) hy ?_;clear C;intro w18 C f;replace ra:=ra.ab f.kp (by simpa using cn.1);clear f;conv=>whnf
  refine⟨C.row,?_⟩;have hxy:=GF.agW (i:=k0) (j:=k1) (by omega) (by omega) (by omega);have hel:=GF.y8 hs k0 k1;have eE:GF.mul (s 1 ^^^ GF.mul (s 0) (GF.pw k1)) (GF.inv (GF.pw k0 ^^^ GF.pw k1))=GF.sm s k0 k1:=rfl;conv=>whnf
  refine Ca.acu C (s 1 ^^^ GF.mul (s 0) (GF.pw k1)) (GF.pw k0 ^^^ GF.pw k1) (bI (hs 1) m0y) (bI hx hy) (GF.bo (hs 1) m0y) (GF.bo hx hy) hxy ?_;clear C;intro w19 C f;replace ra:=ra.ab f.kp (by simpa using cn.1);clear f;rw[eE];conv=>whnf
  refine⟨C.row,?_⟩;generalize hEq:GF.sm s k0 k1=e at *;have l0:w19.cell? ⟨sg,0,none⟩=some (.int .u8 (s 0:Nat)):=C.row.cell 0 (by omega);have lV:(e=0\/e=s 0)->∀a0 a1,¬GF.AY s a0 a1:=fun hh a0 a1 o=>by
   have:=o.roots;rw[hL] at this;injection this with e1 e2;injection e2 with e2 _;subst e1 e2;rcases hh with hh|hh
   ·exact o.e0 (hEq.trans hh)
   ·exact o.e1 (hEq.trans hh)
  by_cases he0:e=0
  ·conv=>whnf
   repeat ((first|refine Br.t ?_|refine Br.f ?_|refine Pk.f ?_|refine Pk.t ?_|refine Br.y ?_|refine Ru.ak ?_|refine CW.s ?_);conv=>whnf)
   exact⟨rfl,C.fk.fs,kk C.fk.kp,.inr ⟨lV (.inl he0),rfl,C.wd⟩⟩
  by_cases he1:e=s 0
  ·conv=>whnf
   repeat ((first|refine Br.f ?_|refine Pk.f ?_|refine Ix.i ?_|refine Br.y ?_|refine Br.n ?_|refine Ld.of (by assumption) ?_|refine Ru.ak ?_|refine CW.s ?_);conv=>whnf)
   exact⟨rfl,C.fk.fs,kk C.fk.kp,.inr ⟨lV (.inr he1),rfl,C.wd⟩⟩
  have hp0:w19.cell? ⟨ag,0,none⟩=some (.int .i64 (k0:Nat)):=ra0 ra;have hw0:=hW (63-k0);have hw1:=hW (63-k1);conv=>whnf
  repeat ((first|(refine Ca.of (oO w19 k0 (by omega)) ?_)|refine Br.f ?_|refine Pk.f ?_|refine Ix.i ?_|refine Br.n ?_|refine Ld.of (by assumption) ?_|refine Ru.ak ?_|refine CW.s ?_);conv=>whnf)
  rintro _ w20 ⟨rfl,rfl⟩;conv=>whnf
  repeat ((first|(refine Ix.of (63-k0) (by omega) (by omega) ?_)|(refine Ld.at (j:=63-k0) (by omega) (C.wd.at (by omega)).1 ?_));conv=>whnf)
  refine Sd.wd C.wd (63-k0) (W (63-k0) ^^^ e) (by omega) (by omega) (bI hw0 hel) ?_;intro w21 wd21 k21;have aqu:b≠ag:=cn.2.2.2.2.1.symm;have zd:=C.row.ab k21 (by simp;omega);replace ra:=ra.ab k21 (by simpa using aqu.symm);have vO:g≠b:=C.bne.symm;have amO:=C.fk.fs.ab k21 (by simpa using vO);have amP:Aa [g,b] w w21:=(kk C.fk.kp).trans (k21.mono (by simp));have aqv:(if 63-k1=63-k0 then W (63-k0) ^^^ e else W (63-k1))=W (63-k1):=if_neg (by omega);have aqw:e ^^^ s 0<256:=GF.bo hel (hs 0);have hxx:fV .xor .u8 (W (63-k1):Nat) (fV .xor .u8 (e:Nat) (s 0:Nat))=((W (63-k1) ^^^ (e ^^^ s 0):Nat):Int):=by
   rw[bI hel (hs 0),bI hw1 aqw]
  have th:∀ {w'},Wd w' b d (fun i=>if i=63-k0 then W (63-k0) ^^^ e else W i)->w'.cell? ⟨b,63-k1,none⟩=some (.int .u8 (W (63-k1):Nat)):=fun h=>by
   have:=(h.at (j:=63-k1) (by omega)).1;rw[aqv] at this;exact this
  conv=>whnf
  refine CW.held (fun w'=>Row w' ag 304 2 (atF [k0,k1])/\Row w' sg 288 6 (sF s)/\Wd w' b d (fun i=>if i=63-k0 then W (63-k0) ^^^ e else W i)) [12] (.take 0 (.take 1 (.take 2 (.take 6 (.take 7 (.take 8 (.take 9 (.one 3 (.take 4 (.take 5 (.take 10 (.take 11 (.one 12 (.done)))))))))))))) ai (by kernel_rfl) (by kernel_rfl) (by kernel_rfl) ?_ ?_
  ·exact⟨ra.drewN 1,zd.drewN 1,wd21.aj ((Aa.refl _ _).drewN 1)⟩
  replace ra:=ra.drewN 1;replace zd:=zd.drewN 1;replace wd21:Wd (w21.drewN 1) b d _:=wd21.aj ((Aa.refl _ _).drewN 1);replace amO:=amO.drewN 1;replace amP:=amP.drewN 1;generalize w21.drewN 1=w22 at *;conv=>whnf
  repeat ((first|(refine Ag.at (j:=1) (by omega) (fun _ h=>ra1 h.1) ?_)|(refine Ag.at (j:=0) (by omega) (fun _ h=>h.2.1.cell 0 (by omega)) ?_)|refine Ix.i ?_);conv=>whnf)
  refine Ca.of (oO w22 k1 (by omega)) ?_;rintro _ w23 ⟨rfl,rfl⟩;conv=>whnf
  refine⟨⟨ra,zd,wd21⟩,?_⟩;conv=>whnf
  repeat ((first|(refine Ix.of (63-k1) (by omega) (by omega) ?_)|(refine Ag.at (j:=63-k1) (by omega) (fun _ h=>th h.2.2) ?_));conv=>whnf)
  refine Sd.wd wd21 (63-k1) (W (63-k1) ^^^ (e ^^^ s 0)) (by omega) (by omega) hxx ?_;intro w24 wd24 k24;conv=>whnf
  refine⟨rfl,amO.ab k24 (by simpa using vO),amP.trans (k24.mono (by simp)),.inl ⟨k0,k1,⟨vT,hL,by rw[hEq];exact he0,by rw[hEq];exact he1⟩,rfl,wd24.congr (fun i _=>?_)⟩⟩;unfold GF.wu GF.fix;rw[hEq];by_cases e1:i=63-k1
  ·have e0:¬i=63-k0:=by omega
   subst e1;simp only[if_true,if_neg e0]
  ·simp only[if_neg e1];by_cases e0:i=63-k0
   ·simp only[if_pos e0,e0]
   ·simp only[if_neg e0]
end
section
open Go.RowKit
attribute [local irreducible] GF.pw GF.lg GF.mul GF.inv GF.xt
theorem pG:kO Tryz.prog 5 1=true:=by kernel_rfl
theorem acv(w:World):(Instr.build 288 #[]).run Tryz.prog w=.ok (agg 6 (fun _=>.int .u8 0)) w:=by kernel_rfl
def ze(s:Nat->Nat):Bool:=(List.range 6).all fun j=>(s j:Int) == 0
theorem mD(s:Nat->Nat):ze s=true↔∀j,j<6->s j=0:=by
 unfold ze;rw[List.all_eq_true];constructor
 ·intro h j hj;have:=h j (List.mem_range.2 hj);simpa using this
 ·intro h j hj;have:=h j (List.mem_range.1 hj);simp[this]
theorem ahf:Tryz.prog.eqGuardType Tryz.prog.depth 288=false:=by kernel_rfl
theorem aqx{w:World}{x y:Operand}(s:Nat->Nat):(do eqGuard .eql 288 x y (agg 6 (sF s)) (agg 6 (fun _=>.int .u8 0));binOp .eql 288 (agg 6 (sF s)) (agg 6 (fun _=>.int .u8 0)):Sem Value).run Tryz.prog w=.ok (.bool (ze s)) w:=by
 rw[Sem.run_bind,wW _ _ _ _ _ _ _ _ ahf,Result.andThen_ok];exact aaj (fun j=>(s j:Int)) (fun _=>0) underlying288 underlying5 (by kernel_rfl) w
theorem aoI{w:World}{x y:Operand}(s:Nat->Nat):(do eqGuard .neq 288 x y (agg 6 (sF s)) (agg 6 (fun _=>.int .u8 0));binOp .neq 288 (agg 6 (sF s)) (agg 6 (fun _=>.int .u8 0)):Sem Value).run Tryz.prog w=.ok (.bool (!ze s)) w:=by
 rw[Sem.run_bind,wW _ _ _ _ _ _ _ _ ahf,Result.andThen_ok];exact aak (fun j=>(s j:Int)) (fun _=>0) underlying288 underlying5 (by kernel_rfl) w
def BR(w:World)(g:Nat)(p:Nat->Nat)(v:Value)(w':World):Prop :=
 FK w g w'/\((∃b d V,w.heap.size<=b/\(∀i,V i<256)/\GF.Az V/\GF.cc V p<=2/\v=.tuple #[.slice (some ⟨b,0,none⟩) 58 58,.int .i64 (GF.cc V p:Nat),al 0]/\Wd w' b d V) \/
  (v=.tuple #[.slice none 0 0,.int .i64 0,al 5]/\∀C:Nat->Nat,(∀i,C i<256)->GF.Az C->2<GF.cc C p))
theorem acw(p:Nat->Nat):ahd p=sF (GF.dA p):=rfl
theorem Ba.next{S:List Nat}{w w':World}{c g h:Nat}(H:Ba w c g h)(k:Aa S w w')(hc:c∉S)(hh:h∉S)(f:FS w' g):Ba w' c g h:=⟨H.row.ab k hc,H.gen.ab k hh,f,H.cg,H.hg⟩
theorem nc(p:Nat->Nat):GF.cc p p=0:=by
 unfold GF.cc GF.iS;simp
theorem aaF{p:Nat->Nat}(hp:∀j,p j<256)(h0:¬GF.Az p)(h1:¬GF.Bj (GF.dA p))(h2:∀k0 k1,GF.AY (GF.dA p) k0 k1->¬GF.Az (GF.wu p (GF.dA p) k0 k1))(C:Nat->Nat)(hC:∀i,C i<256)(hc:GF.Az C):2<GF.cc C p:=by
 refine Nat.lt_of_not_le (fun hle=>?_);have h3:GF.cc C p=0\/GF.cc C p=1\/GF.cc C p=2:=by omega
 rcases h3 with h3|h3|h3
 ·have he:∀i,i<64->C i=p i:=fun i hi=>by
   unfold GF.cc at h3;have hn:=List.eq_nil_of_length_eq_zero h3;by_cases e:C i=p i
   ·exact e
   ·have:i∈GF.iS C p:=List.mem_filter.2 ⟨List.mem_range.2 hi,decide_eq_true e⟩;rw[hn] at this
    cases this
  exact h0 (fun j hj=>by rw[<-GF.m8 he j];exact hc j hj)
 ·exact h1 (GF.y7 hC hp hc h3)
 ·obtain⟨k0,k1,ht,he⟩:=GF.y9 hC hp hc h3;exact h2 k0 k1 ht (fun j hj=>by rw[GF.m8 he j];exact hc j hj)
theorem ahg(w:World)(c g h d:Nat)(A:Option Addr)(p:Nat->Nat)(hp:∀j,p j<256)(r:AI w A 64 p)(hd:64<=d)(hA:∀a,A=some a->a.block≠g)(H:Ba w c g h) :
  Spec Tryz.prog 190 #[.pointer (some ⟨c,0,none⟩),.slice A 64 d] w (BR w g p):=by
 have hAn:A=none->d=0:=fun e=>by
  obtain⟨b,o,e2,_⟩:=r (by omega);rw[e] at e2
  cases e2
 refine spec_of_wpE (T:=tt) ai func190 rfl (by decide +kernel) ntmps190 (by simp) ?_;conv=>whnf
 repeat ((first|refine Br.f ?_|refine CW.s ?_);conv=>whnf)
 refine Bu.grow (Own.start w (fun _=>0)) (fun j=>(p j:Int)) r hd hAn (by omega) ?_;intro Y e w1 O k1;obtain⟨b,rfl,-,-⟩:=O.ly.yF (j:=0) (by omega);have eU:w.heap.size<=b:=O.new b (List.mem_singleton.2 rfl);have W1:Wd w1 b e p:=O.ly.congr (fun j _=>by simp);clear O;have gl:=H.fs.lt;have cl:=H.row.lt;have hl:=H.gen.lt;have k1:Aa [] w w1:=k1;have C1:=H.aj k1 (by simp) (by simp) (by simp);have f1:FK w g w1:=⟨C1.fs,k1.mono (by simp)⟩;have hbg:b≠g:=by omega
 have arV:=W1.lt;rw[show 0+64=64 from rfl];conv=>whnf
 refine Ca.of (acs w1 c g h e (some ⟨b,0,none⟩) p hp W1.th (fun a e=>by cases e;exact hbg) C1) ?_;rintro _ w2 ⟨rfl,f2⟩;rw[acw];have hs:=GF.yY hp;have C2:=C1.of f2;have W2:=W1.dN f2.kp (by simpa using hbg);have f12:FK w g w2:=⟨f2.fs,f1.kp.trans f2.kp⟩;conv=>whnf
 refine Ru.aE (n:=6) (s:=fun _=>.int .u8 0) (zb _) ?_;intro sg w3 hsg gg rs k3;have gO:=f2.kp.size;have C3:=C2.aj k3 (by simp) (by simp) (by simp);have W3:=W2.dN k3 (by simp);have f3:FK w g w3:=⟨C3.fs,f12.kp.trans (k3.mono (by simp))⟩;have w1s:=k1.size;conv=>whnf
 refine Ru.im rs tN (by omega) (fun i _=>rfl) ?_;intro w4 rs4 k4;have ng:sg≠g/\sg≠c/\sg≠h/\sg≠b:=⟨by omega,by omega,by omega,by omega⟩;have C4:=C3.aj k4 (by simpa using ng.2.1.symm) (by simpa using ng.1.symm) (by simpa using ng.2.2.1.symm);have W4:=W3.dN k4 (by simpa using ng.2.2.2.symm);have f4:FK w g w4:=⟨C4.fs,f3.kp.then k4 (fun x hx=>.inr (by rw[List.mem_singleton.1 hx];omega))⟩;have rs4:Row w4 sg 288 6 (sF (GF.dA p)):=rs4.congr (fun i hi=>by unfold lay;rw[if_pos (by omega)];rfl);clear C3 W3 f3 C2 W2 f12 f2 rs k3 C1 W1 f1 k4;conv=>whnf
 repeat (refine CW.s ?_;conv=>whnf)
 refine Ru.cx (q:=sF (GF.dA p)) rs4 underlying288 rfl tN (by omega) (fun i _=>by rw[Nat.zero_add]) ?_;conv=>whnf
 refine Ru.of (acv _) ?_;conv=>whnf
 refine Ru.of (aqx _) ?_;conv=>whnf
 by_cases hz:ze (GF.dA p)=true
 ·conv=>whnf
  repeat (refine Br.is (by assumption) ?_;conv=>whnf)
  refine Ru.ag4 (h:=58) (m:=58) underlying37 pG (by omega) (by have:=W4.1;omega) ?_;conv=>whnf
  have pH:GF.Az p:=(mD _).1 hz;exact⟨rfl,f4,.inl ⟨b,e,p,eU,hp,pH,by rw[nc];omega,by rw[nc];rfl,W4⟩⟩
 have hz:ze (GF.dA p)=false:=by simpa using hz
 have aoJ:¬GF.Az p:=fun hc=>by
  rw[(mD _).2 hc] at hz
  cases hz
 conv=>whnf
 repeat (refine Br.jB (by assumption) ?_;conv=>whnf)
 refine Ru.cx (q:=sF (GF.dA p)) rs4 underlying288 rfl tN (by omega) (fun i _=>by rw[Nat.zero_add]) ?_;conv=>whnf
 have hbc:b≠c:=by omega
 have hbh:b≠h:=by omega
 refine Ca.of (amM w4 c g h b e p (GF.dA p) hp hs W4 hbg C4 hbc) ?_;rintro v w5 ⟨fs5,k5,hv⟩;have C5:=C4.next k5 (by simp;exact⟨H.cg,fun e=>hbc e.symm⟩) (by simp;exact⟨H.hg,fun e=>hbh e.symm⟩) fs5;have rs5:=rs4.ab k5 (by simp;exact⟨ng.1,ng.2.2.2⟩);have f5:FK w g w5:=⟨fs5,f4.kp.then k5 (fun x hx=>by
  rcases List.mem_cons.1 hx with rfl|hx
  ·exact .inl (by simp)
  ·exact .inr (by rw[List.mem_singleton.1 hx];exact eU))⟩
 clear C4 W4 f4 rs4 k5;rcases hv with⟨h1,rfl,W5⟩|⟨h1,rfl,W5⟩
 ·obtain⟨pH,aaG⟩:=GF.ae5 hp h1;have hV:∀i,GF.fix p (63-GF.lg (GF.jS (GF.dA p))) (GF.dA p 0) i<256:=GF.y6 hp (hs 0);generalize GF.fix p (63-GF.lg (GF.jS (GF.dA p))) (GF.dA p 0)=V at *;have hzV:ze (GF.dA V)=true:=(mD _).2 pH;conv=>whnf
  repeat ((first|(refine Ca.of (acs w5 c g h e (some ⟨b,0,none⟩) V hV W5.th (fun a e=>by cases e;exact hbg) C5) ?_)|refine Br.f ?_|refine CW.s ?_);conv=>whnf)
  rintro _ w6 ⟨rfl,f6⟩;rw[acw];conv=>whnf
  repeat (refine Br.f ?_;conv=>whnf)
  refine Ru.of (acv _) ?_;conv=>whnf
  repeat (refine Br.f ?_;conv=>whnf)
  refine Ru.of (aoI _) ?_;rw[hzV];conv=>whnf
  repeat ((first|refine Br.f ?_|refine Pk.f ?_);conv=>whnf)
  refine Ru.ag4 (h:=58) (m:=58) underlying37 pG (by omega) (by have:=W5.1;omega) ?_;conv=>whnf
  rw[GF.iG] at aaG;exact⟨rfl,⟨f6.fs,f5.kp.trans f6.kp⟩,.inl ⟨b,e,V,eU,hV,pH,by omega,by rw[aaG];rfl,W5.dN f6.kp (by simpa using hbg)⟩⟩
 ·conv=>whnf
  repeat ((first|refine Br.t ?_|refine CW.s ?_);conv=>whnf)
  refine Ru.cx (q:=sF (GF.dA p)) rs5 underlying288 rfl tN (by omega) (fun i _=>by rw[Nat.zero_add]) ?_;conv=>whnf
  refine Ca.of (amN w5 c g h b e p (GF.dA p) hp hs W5 hbg C5 hbc) ?_;rintro v w6 ⟨fs6,k6,hv⟩;have C6:=C5.next k6 (by simp;exact⟨H.cg,fun e=>hbc e.symm⟩) (by simp;exact⟨H.hg,fun e=>hbh e.symm⟩) fs6;have f6:FK w g w6:=⟨fs6,f5.kp.then k6 (fun x hx=>by
   rcases List.mem_cons.1 hx with rfl|hx
   ·exact .inl (by simp)
   ·exact .inr (by rw[List.mem_singleton.1 hx];exact eU))⟩
  clear C5 W5 f5 rs5 k6;rcases hv with⟨k0,k1',h2,rfl,W6⟩|⟨h2,rfl,W6⟩
  ·have aaG:=GF.ag1 (W:=p) h2;have hV:∀i,GF.wu p (GF.dA p) k0 k1' i<256:=GF.y6 (GF.y6 hp (GF.y8 hs k0 k1')) (GF.bo (GF.y8 hs k0 k1') (hs 0));have cN:¬GF.Az (GF.wu p (GF.dA p) k0 k1')->∀C:Nat->Nat,(∀i,C i<256)->GF.Az C->2<GF.cc C p:=fun hn=>aaF hp aoJ h1 (fun a0 a1 ha=>by
    have e1:=ha.roots;rw[h2.roots] at e1;injection e1 with e1 e2;injection e2 with e2 _;subst e1 e2;exact hn)
   generalize GF.wu p (GF.dA p) k0 k1'=V at *;conv=>whnf
   repeat ((first|(refine Ca.of (acs w6 c g h e (some ⟨b,0,none⟩) V hV W6.th (fun a e=>by cases e;exact hbg) C6) ?_)|refine Br.f ?_|refine CW.s ?_);conv=>whnf)
   rintro _ w7 ⟨rfl,f7⟩;rw[acw];conv=>whnf
   repeat (refine Br.f ?_;conv=>whnf)
   refine Ru.of (acv _) ?_;conv=>whnf
   repeat (refine Br.f ?_;conv=>whnf)
   refine Ru.of (aoI _) ?_;by_cases pH:GF.Az V
   ·have hzV:ze (GF.dA V)=true:=(mD _).2 pH;rw[hzV];conv=>whnf
    repeat ((first|refine Br.f ?_|refine Pk.f ?_);conv=>whnf)
    refine Ru.ag4 (h:=58) (m:=58) underlying37 pG (by omega) (by have:=W6.1;omega) ?_;conv=>whnf
    rw[GF.iG] at aaG;exact⟨rfl,⟨f7.fs,f6.kp.trans f7.kp⟩,.inl ⟨b,e,V,eU,hV,pH,by omega,by rw[aaG];rfl,W6.dN f7.kp (by simpa using hbg)⟩⟩
   ·have hzV:ze (GF.dA V)=false:=by
     cases e:ze (GF.dA V) with
     |false=>rfl
     |true=>exact absurd ((mD _).1 e) pH
    rw[hzV];conv=>whnf
    repeat ((first|refine Br.t ?_|refine Pk.f ?_);conv=>whnf)
    exact⟨rfl,⟨f7.fs,f6.kp.trans f7.kp⟩,.inr ⟨rfl,cN pH⟩⟩
  ·conv=>whnf
   repeat ((first|refine Br.t ?_|refine Pk.t ?_|refine CW.s ?_);conv=>whnf)
   exact⟨rfl,f6,.inr ⟨rfl,aaF hp aoJ h1 (fun a0 a1 ha=>absurd ha (h2 a0 a1))⟩⟩
end
section
namespace GF
theorem ahh:∀j,j<6->aP (tJ 6) (pw j) 7=0:=by decide +kernel
theorem ahi:tJ 6 0=1:=by decide +kernel
attribute [local irreducible] GF.pw GF.lg GF.mul GF.inv GF.xt
theorem nh{W:Nat->Nat}(hW:∀i,W i<256){x:Nat}(hx:x<256)(m:Nat):∀n,aP W x (m+n)=mul (aP W x m) (gp x n) ^^^ aP (fun i=>W (m+i)) x n
 | 0=>by
  show aP W x m=mul (aP W x m) 1 ^^^ 0;rw[fh _ (fJ hW x m),Nat.xor_zero]
 | n+1=>by
  have h1:=fJ hW x m;have h2:=fJ (fun i=>hW (m+i)) x n;show mul (aP W x (m+n)) x ^^^ W (m+n)=mul (aP W x m) (mul (gp x n) x) ^^^ (mul (aP (fun i=>W (m+i)) x n) x ^^^ W (m+n));rw[nh hW hx m n,fY (mul_lt h1) h2 hx,mul_assoc h1 (aaA x n) hx,Nat.xor_assoc]
theorem xp{p q:Nat->Nat}(hp:∀j,p j<256)(hq:∀j,q j<256){x:Nat}(hx:x<256):∀n,aP (fun i=>p i ^^^ q i) x n=aP p x n ^^^ aP q x n
 |0=>(Nat.xor_self 0).symm
 | n+1=>by
  show mul (aP (fun i=>p i ^^^ q i) x n) x ^^^ (p n ^^^ q n)=(mul (aP p x n) x ^^^ p n) ^^^ (mul (aP q x n) x ^^^ q n);rw[xp hp hq hx n,fY (fJ hp x n) (fJ hq x n) hx,aj9]
theorem xq{q:Nat->Nat}(hq:∀j,q j<256){t x:Nat}(ht:t<256)(hx:x<256):∀n,aP (fun i=>mul t (q i)) x n=mul t (aP q x n)
 |0=>(du t).symm
 | n+1=>by
  show mul (aP (fun i=>mul t (q i)) x n) x ^^^ mul t (q n)=mul t (mul (aP q x n) x ^^^ q n);rw[xq hq ht hx n,fD,mul_assoc ht (fJ hq x n) hx]
def tQ(i:Nat):Nat:=tJ 6 (i+1)
theorem adU(i:Nat):tQ i<256:=sG 6 (i+1)
def acx(R:Nat->Nat)(m:Nat)(i:Nat):Nat:=(if i<5 then R (i+1) else 0) ^^^ mul (R 0 ^^^ m) (tQ i)
def jU(M:Nat->Nat):Nat->Nat->Nat
 |0,_=>0
 |k+1,i=>acx (jU M k) (M k) i
theorem adV{R:Nat->Nat}(hR:∀i,R i<256){m:Nat}(hm:m<256)(i:Nat):acx R m i<256:=by
 refine bo ?_ (mul_lt (bo (hR 0) hm));have:=hR (i+1);split<;>omega
theorem sH{M:Nat->Nat}(hM:∀i,M i<256):∀k i,jU M k i<256
 |0,i=>(by decide:0<256)
 |k+1,i=>adV (sH hM k) (hM k) i
theorem amQ{j:Nat}(hj:j<6):gp (pw j) 6=aP tQ (pw j) 6:=by
 have h:=ahh j hj;have e:=nh (sG 6) (bB j) 1 6;rw[show 1+6=7 from rfl,h] at e;have e1:aP (tJ 6) (pw j) 1=1:=by
  show mul 0 (pw j) ^^^ tJ 6 0=1;rw[bT,ahi,Nat.zero_xor]
 have e2:(fun i=>tJ 6 (1+i))=tQ:=by
  funext i;unfold tQ;rw[Nat.add_comm]
 rw[e1,e2,xd (aaA _ _)] at e;exact xor_eq e.symm
theorem aff{R:Nat->Nat}(hR:∀i,R i<256){m:Nat}(hm:m<256){j:Nat}(hj:j<6):aP (acx R m) (pw j) 6=mul (aP R (pw j) 6) (pw j) ^^^ mul m (gp (pw j) 6):=by
 have hx:=bB j;have hs:∀i,(if i<5 then R (i+1) else 0)<256:=fun i=>by
  have:=hR (i+1);split<;>omega
 have ht:R 0 ^^^ m<256:=bo (hR 0) hm;have e1:aP (acx R m) (pw j) 6=aP (fun i=>if i<5 then R (i+1) else 0) (pw j) 6 ^^^ mul (R 0 ^^^ m) (aP tQ (pw j) 6):=by
  rw[<-xq adU ht hx 6, <-xp hs (fun i=>mul_lt ht) hx 6];rfl
 have hR':∀i,(if i<6 then R i else 0)<256:=fun i=>by
  have:=hR i;split<;>omega
 have e2:=nh hR' hx 1 6;have e3:aP (fun i=>if i<6 then R i else 0) (pw j) (1+6)=mul (aP R (pw j) 6) (pw j):=by
  show mul (aP (fun i=>if i<6 then R i else 0) (pw j) 6) (pw j) ^^^ 0=_;rw[Nat.xor_zero,ep _ (fun i hi=>if_pos hi)]
 have e4:aP (fun i=>if i<6 then R i else 0) (pw j) 1=R 0:=by
  show mul 0 (pw j) ^^^ R 0=R 0;rw[bT,Nat.zero_xor]
 have e5:aP (fun i=>if 1+i<6 then R (1+i) else 0) (pw j) 6=aP (fun i=>if i<5 then R (i+1) else 0) (pw j) 6:=ep _ (fun i _=>by
  by_cases h:i<5
  ·rw[if_pos h,if_pos (by omega),Nat.add_comm]
  ·rw[if_neg h,if_neg (by omega)])
 rw[e3,e4,e5] at e2;rw[e1,e2, <-amQ hj,fY (hR 0) hm (aaA _ _)];generalize mul (R 0) (gp (pw j) 6)=a;generalize mul m (gp (pw j) 6)=b;generalize aP _ (pw j) 6=c;rw[Nat.xor_comm a c,Nat.xor_assoc]
theorem xu{M:Nat->Nat}(hM:∀i,M i<256){j:Nat}(hj:j<6):∀k,aP (jU M k) (pw j) 6=mul (aP M (pw j) k) (gp (pw j) 6)
 | 0=>by
  have hx:=bB j;have:∀n,aP (fun _=>0) (pw j) n=0:=fun n=>by
   induction n with
   |zero=>rfl
   | succ n ih =>
    show mul (aP (fun _=>0) (pw j) n) (pw j) ^^^ 0=0;rw[ih,bT,Nat.xor_zero]
  exact(this 6).trans (bT _).symm
 | k+1=>by
  have hx:=bB j;have h1:=fJ hM (pw j) k;have hg:=aaA (pw j) 6;have e:aP (jU M (k+1)) (pw j) 6=aP (acx (jU M k) (M k)) (pw j) 6:=rfl;rw[e,aff (sH hM k) (hM k) hj,xu hM hj k,kZ,fY (mul_lt h1) (hM k) hg,mul_assoc h1 hg hx,mul_assoc h1 hx hg,mul_comm hg hx]
def l5(M:Nat->Nat)(i:Nat):Nat:=if i<58 then M i else jU M 58 (i-58)
theorem sI{M:Nat->Nat}(hM:∀i,M i<256)(i:Nat):l5 M i<256:=by
 unfold l5;split
 ·exact hM i
 ·exact sH hM 58 _
theorem ahj{M:Nat->Nat}(hM:∀i,M i<256):Az (l5 M):=fun j hj=>by
 have hx:=bB j;have e:=nh (sI hM) hx 58 6;have e1:aP (l5 M) (pw j) 58=aP M (pw j) 58:=ep _ (fun i hi=>if_pos hi);have e2:aP (fun i=>l5 M (58+i)) (pw j) 6=aP (jU M 58) (pw j) 6:=ep _ (fun i _=>by
  unfold l5;rw[if_neg (by omega),show 58+i-58=i by omega])
 rw[e1,e2,xu hM hj 58,Nat.xor_self] at e;exact e
end GF
end
section
open Go.RowKit
attribute [local irreducible] GF.pw GF.lg GF.mul GF.inv GF.xt
theorem adW(g:Nat)(w:World):(Instr.sliceAt 288 (.pointer (some ⟨g,0,none⟩)) none none none).run Tryz.prog w=.ok (.slice (some ⟨g,0,none⟩) 6 6) w:=by kernel_rfl
theorem ahk(g:Nat)(w:World):(Instr.sliceAt 288 (.pointer (some ⟨g,0,none⟩)) (some (.int .i64 1)) none none).run Tryz.prog w=.ok (.slice (some ⟨g,1,none⟩) 5 5) w:=by kernel_rfl
theorem ahl(w:World):(Instr.makeSlice 37 (.int .i64 0) (.int .i64 64)).run Tryz.prog w=.ok (.slice (some ⟨w.heap.size,0,none⟩) 0 64) (w.alloc (.cells (madeCells #[.int .u8 0] 64) 5)):=by kernel_rfl
theorem Own.aqy{w0 w:World}(k:Aa [] w0 w)(f:Nat->Int):Own w0 (w.alloc (.cells (madeCells #[.int .u8 0] 64) 5)) (some ⟨w.heap.size,0,none⟩) 0 64 f :=
 ⟨(Ly.dq (Row.made w 5 (.int .u8 0) 64) (by omega) (by omega) (by simp[maxLen])).congr (fun j hj=>by omega),fun x hx=>by rw[List.mem_singleton.1 hx];exact k.size,k.alloc _⟩
def aaH(M:Nat->Nat)(k:Nat):Nat->Value:=fun i=>.int .u8 (GF.jU M k i:Nat)
def shR(R:Nat->Nat)(i:Nat):Nat:=if i<5 then R (i+1) else 0
theorem aoK(M:Nat->Nat)(k:Nat)(i:Nat)(hi:i<6):put (lay (aaH M k) 0 5 (fun j=>aaH M k (1+j))) 5 (.int .u8 0) i=.int .u8 (shR (GF.jU M k) i:Nat):=by
 unfold put lay shR;by_cases h:i=5
 ·rw[if_pos h,if_neg (by omega)];rfl
 ·rw[if_neg h,if_pos (by omega),if_pos (by omega)];show aaH M k (1+(i-0))=_;rw[show 1+(i-0)=i+1 by omega];rfl
def wy(R:Nat->Nat)(m n i:Nat):Nat:=if i<n then GF.acx R m i else shR R i
theorem sJ{R:Nat->Nat}{m n i:Nat}(h:i<n):wy R m n i=GF.acx R m i:=if_pos h
theorem sK{R:Nat->Nat}{m n i:Nat}(h:¬i<n):wy R m n i=shR R i:=if_neg h
theorem akz{R:Nat->Nat}(hR:∀i,R i<256){m:Nat}(hm:m<256)(n i:Nat):wy R m n i<256:=by
 unfold wy shR;have h1:=GF.adV hR hm i;have h2:=hR (i+1);split
 ·exact h1
 ·split<;>omega
theorem ahm(R:Nat->Nat)(m n i:Nat):put (fun i=>Value.int .u8 (wy R m n i:Nat)) n (.int .u8 ((wy R m n n ^^^ GF.mul (R 0 ^^^ m) (GF.tQ n):Nat):Int)) i=.int .u8 (wy R m (n+1) i:Nat):=by
 unfold put;by_cases h:i=n
 ·subst h;rw[if_pos rfl,sK (by omega),sJ (by omega)];rfl
 ·rw[if_neg h];by_cases h2:i<n
  ·simp only[sJ h2,sJ (show i<n+1 by omega)]
  ·simp only[sK h2,sK (show ¬i<n+1 by omega)]
theorem amR(w:World)(c g h d:Nat)(A:Option Addr)(M:Nat->Nat)(hM:∀j,M j<256)(r:AI w A 58 M)(hd:58<=d)(hA:∀a,A=some a->a.block≠g)(H:Ba w c g h) :
  Spec Tryz.prog 204 #[.pointer (some ⟨c,0,none⟩),.slice A 58 d] w fun v w'=>FK w g w'/\∃b e,w.heap.size<=b/\v=.tuple #[.slice (some ⟨b,0,none⟩) 64 e,al 0]/\Wd w' b e (GF.l5 M):=by
 refine spec_of_wpE (T:=tt) ai func204 rfl (by decide +kernel) ntmps204 (by simp) ?_;conv=>whnf
 repeat ((first|refine Br.f ?_|refine CW.s ?_);conv=>whnf)
 refine Ru.aE (n:=6) (s:=fun _=>.int .u8 0) (zb _) ?_;intro rg w1 hrg dj rs k1;have gl:=H.fs.lt;have cl:=H.row.lt;have hl:=H.gen.lt;have C1:=H.aj k1 (by simp) (by simp) (by simp);have f1:FK w g w1:=⟨C1.fs,k1.mono (by simp)⟩;conv=>whnf
 repeat (refine CW.s ?_;conv=>whnf)
 have hAr:∀a,A=some a->a.block<w.heap.size:=fun a e=>by
  obtain⟨b,o,e2,hc⟩:=r (by omega);rw[e] at e2
  cases e2
  exact aZ (hc 0 (by omega))
 have cn:rg≠g/\rg≠c/\rg≠h:=⟨by omega,by omega,by omega⟩;refine CW.loop (ι:=Nat) (fun i w'=>i<=58/\FK w g w'/\Ba w' c g h/\AI w' A 58 M/\Row w' rg 288 6 (aaH M i)) (fun i=>[(0,.pointer (some ⟨c,0,none⟩)),(1,.slice A 58 d),(6,.pointer (some ⟨rg,0,none⟩)),(16,.slice A 58 d),(17,.int .i64 58),(18,.int .i64 i)]) (fun i=>58-i) 0 ai ⟨by omega,f1,C1,r.aj k1,rs.congr (fun _ _=>rfl)⟩ ⟨rfl,rfl,rfl,rfl,rfl,rfl,trivial⟩ ?_;clear f1 C1 rs k1;rintro i wr ⟨hi,fk,C,ra,rs⟩;by_cases av:i<58
 ·have hMi:=hM i;have hRl:=GF.sH hM i;have aqz:fV .xor .u8 (GF.jU M i 0:Nat) (M i:Nat)=((GF.jU M i 0 ^^^ M i:Nat):Int):=bI (hRl 0) hMi;obtain⟨b,o,rfl,hc⟩:=ra (by omega);have hci:=hc i av;have l0:wr.cell? ⟨rg,0,none⟩=some (.int .u8 (GF.jU M i 0:Nat)):=rs.cell 0 (by omega);have hbr:b≠rg:=by
   have:=hAr _ rfl;simp only at this;omega
  conv=>whnf
  repeat ((first|refine Ix.n ?_|refine Ix.i ?_|refine Br.y ?_|refine Ld.of (by assumption) ?_|refine CW.s ?_);conv=>whnf)
  rw[aqz];have htl:GF.jU M i 0 ^^^ M i<256:=GF.bo (hRl 0) hMi;refine CW.held (fun w'=>True) [] (.take 0 (.take 1 (.one 2 (.done)))) ai (by kernel_rfl) (by kernel_rfl) (by kernel_rfl) ?_ ?_
  ·trivial
  conv=>whnf
  repeat ((first|(refine Am.of (fun w _=>adW rg w) ?_)|(refine Am.of (fun w _=>ahk rg w) ?_));conv=>whnf)
  have fk:=fk.kp.drewN 1;replace rs:=rs.drewN 1;replace C:=C.drewN 1;replace ra:AI (wr.drewN 1) (some ⟨b,o,none⟩) 58 M:=ra.aj ((Aa.refl _ _).drewN 1);generalize wr.drewN 1=w2 at *;refine Bu.copy (s:=fun j=>aaH M i (1+j)) underlying37 (by kernel_rfl) rs (some ⟨rg,1,none⟩) 5 5 5 (by decide) (fun _=>⟨rg,1,rfl,fun j hj=>rs.cell (1+j) (by omega)⟩) (fun e=>by cases e) (by omega) (fun j _=>rfl) ?_;intro w3 rs3 k3;have C3:=C.aj k3 (by simpa using cn.2.1.symm) (by simpa using cn.1.symm) (by simpa using cn.2.2.symm);have fk3:FK w g w3:=⟨C3.fs,fk.then k3 (fun x hx=>.inr (by rw[List.mem_singleton.1 hx];omega))⟩;have ra3:AI w3 (some ⟨b,o,none⟩) 58 M:=ra.ab k3 (fun a e=>by cases e;simpa using hbr);conv=>whnf
  repeat ((first|refine HS.t ?_|refine Ix.i ?_);conv=>whnf)
  refine Sd.rowAt rs3 5 (by rfl) (by omega) rfl ?_;intro w4 rs4 k4;have C4:=C3.aj k4 (by simpa using cn.2.1.symm) (by simpa using cn.1.symm) (by simpa using cn.2.2.symm);have fk4:FK w g w4:=⟨C4.fs,fk3.kp.then k4 (fun x hx=>.inr (by rw[List.mem_singleton.1 hx];omega))⟩;have ra4:AI w4 (some ⟨b,o,none⟩) 58 M:=ra3.ab k4 (fun a e=>by cases e;simpa using hbr);replace rs4:Row w4 rg 288 6 (fun j=>.int .u8 (wy (GF.jU M i) (M i) 0 j:Nat)):=rs4.congr (fun j hj=>(aoK M i j hj).trans (by rw[sK (by omega)]));clear C3 fk3 ra3 rs3 k3 k4 rs C fk ra;conv=>whnf
  repeat ((refine Ld.row C4.row (by decide) ?_);conv=>whnf)
  refine CW.loop (ι:=Nat) (fun k w'=>k<=6/\FK w g w'/\Ba w' c g h/\AI w' (some ⟨b,o,none⟩) 58 M/\Row w' rg 288 6 (fun j=>.int .u8 (wy (GF.jU M i) (M i) k j:Nat))) (fun k=>[(0,.pointer (some ⟨c,0,none⟩)),(1,.slice (some ⟨b,o,none⟩) 58 d),(6,.pointer (some ⟨rg,0,none⟩)),(9,.int .u8 (GF.jU M i 0 ^^^ M i:Nat)),(16,.slice (some ⟨b,o,none⟩) 58 d),(17,.int .i64 58),(18,.int .i64 i),(33,.slice (some ⟨h,1,none⟩) 6 6),(34,.int .i64 6),(35,.int .i64 k)]) (fun k=>6-k) 0 ai ⟨by omega,fk4,C4,ra4,rs4⟩ ⟨rfl,rfl,rfl,rfl,rfl,rfl,rfl,rfl,rfl,rfl,trivial⟩ ?_;clear fk4 C4 ra4 rs4;rintro k wq ⟨hk,fk,C,ra,rs⟩;by_cases amA:k<6
  ·have lg:wq.cell? ⟨h,1+k,none⟩=some (.int .u8 (GF.tQ k:Nat)):=by
    have:=C.gen.cell (1+k) (by omega);unfold GF.tQ;rw[Nat.add_comm] at this ⊢;exact this
   have qz:=GF.adU k;have hml:=akz hRl hMi k k;have hmx:=GF.mul_lt (a:=GF.jU M i 0 ^^^ M i) (b:=GF.tQ k) htl;conv=>whnf
   repeat ((first|refine Ix.n ?_|refine Br.y ?_|refine Ld.of (by assumption) ?_|refine CW.s ?_);conv=>whnf)
   refine CW.held (fun w'=>Row w' c 297 2 (wv g h)/\Row w' rg 288 6 (fun j=>.int .u8 (wy (GF.jU M i) (M i) k j:Nat))) [12] (.take 0 (.take 1 (.take 2 (.take 3 (.take 4 (.take 5 (.take 6 (.take 7 (.take 8 (.one 9 (.take 10 (.take 11 (.one 12 (.done)))))))))))))) ai (by kernel_rfl) (by kernel_rfl) (by kernel_rfl) ?_ ?_
   ·exact⟨C.row.drewN 1,rs.drewN 1⟩
   replace fk:FK w g (wq.drewN 1):=⟨fk.fs.drewN 1,fk.kp.drewN 1⟩;replace C:=C.drewN 1;replace rs:=rs.drewN 1;replace ra:AI (wq.drewN 1) (some ⟨b,o,none⟩) 58 M:=ra.aj ((Aa.refl _ _).drewN 1);clear lg;generalize wq.drewN 1=w5 at *;conv=>whnf
   repeat ((first|(refine Ag.at (j:=k) (by omega) (fun _ h=>h.2.cell k (by omega)) ?_)|(refine Ag.row (fun _ h=>h.1) (by decide) ?_)|refine Ix.n ?_);conv=>whnf)
   refine Ca.aoD fk (GF.jU M i 0 ^^^ M i) (GF.tQ k) htl qz ?_;intro w6 fk6 f6;have C6:=C.of f6;have rs6:=rs.ab f6.kp (by simpa using cn.1);have ra6:AI w6 (some ⟨b,o,none⟩) 58 M:=ra.ab f6.kp (by simpa using hA);conv=>whnf
   refine⟨⟨C6.row,rs6⟩,?_⟩;conv=>whnf
   repeat (refine Ix.n ?_;conv=>whnf)
   rw[bI hml hmx];refine Sd.rowAt rs6 k (by omega) (by omega) rfl ?_;intro w7 rs7 k7;conv=>whnf
   repeat (refine Ar.la ?_;conv=>whnf)
   have C7:=C6.aj k7 (by simpa using cn.2.1.symm) (by simpa using cn.1.symm) (by simpa using cn.2.2.symm);exact⟨k+1,⟨by omega,⟨C7.fs,fk6.kp.then k7 (fun x hx=>.inr (by rw[List.mem_singleton.1 hx];omega))⟩,C7,ra6.ab k7 (fun a e=>by cases e;simpa using hbr),rs7.congr (fun j _=>ahm _ _ _ _)⟩,⟨rfl,rfl,rfl,rfl,rfl,rfl,rfl,rfl,rfl,rfl,trivial⟩,by simp only;omega⟩
  ·obtain rfl:k=6:=by omega
   conv=>whnf
   repeat ((first|refine Br.f ?_|refine Ar.la ?_|refine CW.s ?_);conv=>whnf)
   exact⟨i+1,⟨by omega,fk,C,ra,rs.congr (fun j hj=>by simp only[sJ hj];rfl)⟩,⟨rfl,rfl,rfl,rfl,rfl,rfl,trivial⟩,by simp only;omega⟩
 ·obtain rfl:i=58:=by omega
  conv=>whnf
  repeat ((first|refine Br.f ?_|refine CW.s ?_);conv=>whnf)
  refine CW.held (fun w'=>True) [] (.take 1 (.take 3 (.one 0 (.one 2 (.one 4 (.take 5 (.take 6 (.done)))))))) ai (by kernel_rfl) (by kernel_rfl) (by kernel_rfl) ?_ ?_
  ·trivial
  replace fk:FK w g (wr.drewN 1):=⟨fk.fs.drewN 1,fk.kp.drewN 1⟩;replace C:=C.drewN 1;replace rs:=rs.drewN 1;replace ra:AI (wr.drewN 1) A 58 M:=ra.aj ((Aa.refl _ _).drewN 1);generalize wr.drewN 1=w2 at *;conv=>whnf
  repeat ((refine Am.of (fun w _=>adW rg w) ?_);conv=>whnf)
  refine Ru.of (ahl _) ?_;have O1:=Own.aqy (Aa.refl [] w2) (fun _=>0);have ra3:AI (w2.alloc (.cells (madeCells #[.int .u8 0] 64) 5)) A 58 M:=ra.aj O1.ab;conv=>whnf
  repeat (refine HS.t ?_;conv=>whnf)
  refine Bu.grow O1 (fun j=>(M j:Int)) ra3 hd (fun e=>by
   obtain⟨b,o,e2,_⟩:=r (by omega);rw[e] at e2
   cases e2) (by omega) ?_
  intro Y e w3 O2 k2;have rs3:=Row.ab rs O2.ab (by simp);conv=>whnf
  repeat (refine HS.t ?_;conv=>whnf)
  refine Bu.grow O2 (fun j=>(GF.jU M 58 j:Int)) (m:=6) (fun _=>⟨rg,0,rfl,fun j hj=>by rw[Nat.zero_add];exact rs3.cell j hj⟩) (by omega) (fun e=>by cases e) (by omega) ?_;intro Y e2 w4 O3 k3;obtain⟨b,rfl,-,-⟩:=O3.ly.yF (j:=0) (by omega);have hb:=O3.new b (List.mem_singleton.2 rfl);have kp:=O3.ab;conv=>whnf
  repeat (refine HS.t ?_;conv=>whnf)
  refine⟨rfl,⟨C.fs.aj kp,fk.kp.trans (kp.mono (by simp))⟩,b,e2,Nat.le_trans fk.kp.size hb,rfl,O3.ly.congr (fun j hj=>?_)⟩;unfold GF.l5;by_cases h1:j<58
  ·simp[h1]
  ·simp[h1]
end
section
open Go.RowKit
attribute [local irreducible] GF.pw GF.lg GF.mul GF.inv GF.xt
theorem Am.amS{P:Program}{C:World->Prop}{t e:TypeId}{b o n c l h:Nat}{x y:Int}{K:Value->Prop}(ex:x=(l:Int))(ey:y=(h:Int))(hu:P.underlying t=some (.slice e))(hs:kO P e 1=true)(hl:l<=h)(hh:h<=c)(hc:l<c)(k:K (.slice (some ⟨b,o+l,none⟩) (h-l) (c-l))) :
  Am P C (Instr.sliceAt t (.slice (some ⟨b,o,none⟩) n c) (some (.int .i64 x)) (some (.int .i64 y)) none) K:=by
 subst ex ey;exact Am.adT hu hs hl hh hc k
structure Frm(w:World)(f c g h:Nat):Prop where
 row:Row w f 274 1 (fun _=>.pointer (some ⟨c,0,none⟩))
 iH:Ba w c g h
 fg:f≠g
theorem Frm.of{w w':World}{f c g h:Nat}(H:Frm w f c g h)(k:FK w g w'):Frm w' f c g h:=⟨H.row.ab k.kp (by simpa using H.fg),H.iH.of k,H.fg⟩
theorem Frm.aj{S:List Nat}{w w':World}{f c g h:Nat}(H:Frm w f c g h)(k:Aa S w w')(hf:f∉S)(hc:c∉S)(hg:g∉S)(hh:h∉S):Frm w' f c g h:=⟨H.row.ab k hf,H.iH.aj k hc hg hh,H.fg⟩
theorem Frm.drewN{w:World}{f c g h:Nat}(H:Frm w f c g h)(n:Nat):Frm (w.drewN n) f c g h:=H.aj ((Aa.refl [] w).drewN n) (by simp) (by simp) (by simp) (by simp)
def gi(p:Nat->Nat)(k:Nat):Nat->Nat:=fun i=>p (k*64+i)
theorem ahn(w:World)(f c g h d:Nat)(A:Option Addr)(p:Nat->Nat)(hp:∀j,p j<256)(r:AI w A 256 p)(hd:256<=d)(hA:∀a,A=some a->a.block≠g)(H:Frm w f c g h)(k:Nat)(hk:k<4) :
  Spec Tryz.prog 166 #[.pointer (some ⟨f,0,none⟩),.slice A 256 d,.int .i64 k] w (BR w g (gi p k)):=by
 obtain⟨b,o,rfl,hc⟩:=r (by omega);have hbg:b≠g:=hA _ rfl;refine spec_of_wpE (T:=tt) ai func166 rfl (by decide +kernel) ntmps166 (by simp) ?_;conv=>whnf
 repeat ((first|refine Br.f ?_|refine Pk.f ?_|refine Br.n ?_|refine CW.s ?_);conv=>whnf)
 refine CW.held (fun w'=>Row w' f 274 1 (fun _=>.pointer (some ⟨c,0,none⟩))) [] (.take 0 (.take 1 (.take 2 (.take 3 (.take 4 (.take 5 (.take 6 (.take 7 (.take 8 (.take 9 (.take 10 (.one 11 (.take 12 (.take 13 (.take 14 (.take 15 (.take 16 (.take 17 (.done))))))))))))))))))) ai (by kernel_rfl) (by kernel_rfl) (by kernel_rfl) ?_ ?_
 ·exact H.row.drewN 1
 have H1:=H.drewN 1;have r1:AI (w.drewN 1) (some ⟨b,o,none⟩) 256 p:=r.aj ((Aa.refl _ _).drewN 1);conv=>whnf
 repeat ((first|(refine Ag.row (fun _ h=>h) (by decide) ?_)|(refine Am.amS (l:=k*64) (h:=k*64+64) (by omega) (by omega) underlying37 pG (by omega) (by omega) (by omega) ?_)|refine Ar.la ?_);conv=>whnf)
 have rk:AI (w.drewN 1) (some ⟨b,o+k*64,none⟩) 64 (gi p k):=fun _=>⟨b,o+k*64,rfl,fun j hj=>by
  have:=hc (k*64+j) (by omega);rw[<-Nat.add_assoc] at this;exact this⟩
 have f1:FK w g (w.drewN 1):=⟨H1.iH.fs,(Aa.refl _ _).drewN 1⟩;have hks:k*64+64-k*64=64:=by omega
 rw[hks];refine Ca.of (ahg (w.drewN 1) c g h (d-k*64) (some ⟨b,o+k*64,none⟩) (gi p k) (fun j=>hp _) rk (by omega) (fun a e=>by cases e;exact hbg) H1.iH) ?_;rintro v w2 ⟨f2,hv⟩;have f12:FK w g w2:=⟨f2.fs,f1.kp.trans f2.kp⟩;have H2:=H1.of f2;rcases hv with⟨b2,e2,V,tC,hV,pH,zf,rfl,hwd⟩|⟨rfl,cN⟩
 ·conv=>whnf
  refine⟨H2.row,?_⟩;conv=>whnf
  exact⟨rfl,f12,.inl ⟨b2,e2,V,tC,hV,pH,zf,rfl,hwd⟩⟩
 ·conv=>whnf
  refine⟨H2.row,?_⟩;conv=>whnf
  exact⟨rfl,f12,.inr ⟨rfl,cN⟩⟩
theorem Spec.acy{P:Program}{f:FuncId}{args:Array Value}{w:World}{Ψ:Ending->World->Prop}{Φ:Value->World->Prop}(hf:ab1 P f=true)(h:Calls P f args w Ψ)(k:∀e w',Ψ e w'->∃v,e=.returned v/\Φ v w'):Spec P f args w Φ:=⟨hf,h.mono k⟩
def bw(V:Nat->Nat):Nat->Int:=fun j=>(V j:Int)
def Cg(w:World)(g:Nat)(p:Nat->Nat)(v:Value)(w':World):Prop :=
 FK w g w'/\((∃X V,(∀x,x∈aK X->w.heap.size<=x)/\(∀i,V i<256)/\GF.Az V/\GF.cc V (gi p 3)<=2/\As (bw V)/\v=.tuple #[.slice X 50 50,.int .i64 (GF.cc V (gi p 3):Nat),al 0]/\Ly w' 5 1 X 50 50 (fun j=>.int .u8 (V j:Nat))) \/
  (∃e,(e=5\/e=6)/\v=.tuple #[.slice none 0 0,.int .i64 0,al e]/\∀C:Nat->Nat,(∀i,C i<256)->GF.Az C->GF.cc C (gi p 3)<=2->¬As (bw C)))
theorem xv{C V p:Nat->Nat}(hC:∀i,C i<256)(hV:∀i,V i<256)(cC:GF.Az C)(cV:GF.Az V)(h:GF.cc C p+GF.cc V p<=6):∀i,i<64->C i=V i:=GF.agX hC hV cC cV (by
 have:=GF.aaC C p V;rw[GF.iG p V] at this;omega)
theorem akA(A:Option Addr)(c:Nat)(f:Nat->Int)(w:World)(r:Rd w A 58 (fun j=>.int .u8 (f j)))(hc:58<=c)(hf:∀j,0<=f j/\f j<=255) :
  Spec Tryz.prog 191 #[.slice A 58 c] w fun v w'=>(As f/\∃X,v=.tuple #[.slice X 50 50,al 0]/\Ly w' 5 1 X 50 50 (fun j=>.int .u8 (f j))/\(∀x,x∈aK X->w.heap.size<=x)/\Aa [] w w')\/(¬As f/\v=.tuple #[.slice none 0 0,al 6]/\Aa [] w w') :=
 Spec.acy (by kernel_rfl) (agD A c f w r hc hf) fun e w' h=>by
  rcases h with⟨hm,X,rfl,h1,h2,h3⟩|⟨hm,rfl,h3⟩
  ·exact⟨_,rfl,.inl ⟨hm,X,rfl,h1,h2,h3⟩⟩
  ·exact⟨_,rfl,.inr ⟨hm,rfl,h3⟩⟩
theorem akB(w:World)(f c g h d:Nat)(A:Option Addr)(p:Nat->Nat)(hp:∀j,p j<256)(r:AI w A 256 p)(hd:256<=d)(hA:∀a,A=some a->a.block≠g)(H:Frm w f c g h) :
  Spec Tryz.prog 167 #[.pointer (some ⟨f,0,none⟩),.slice A 256 d] w (Cg w g p):=by
 refine spec_of_wpE (T:=tt) ai func167 rfl (by decide +kernel) ntmps167 (by simp) ?_;conv=>whnf
 refine Ca.of (ahn w f c g h d A p hp r hd hA H 3 (by omega)) ?_;rintro v w2 ⟨f2,hv⟩;have H2:=H.of f2;rcases hv with⟨b,e,V,hb,hV,pH,zf,rfl,hwd⟩|⟨rfl,cN⟩
 ·have r2:Rd w2 (some ⟨b,0,none⟩) 58 (fun j=>.int .u8 (bw V j)):=Rd.pf hwd.th (by omega);conv=>whnf
  repeat ((first|refine Br.f ?_|refine Ru.ak ?_|refine CW.s ?_);conv=>whnf)
  refine Ca.of (akA (some ⟨b,0,none⟩) 58 (bw V) w2 r2 (by omega) (fun j=>by have:=hV j;unfold bw;omega)) ?_;rintro v w3 hv;rcases hv with⟨hm,X,rfl,yO,hX,k3⟩|⟨hm,rfl,k3⟩
  ·conv=>whnf
   repeat ((first|refine Br.f ?_|refine Ru.ak ?_|refine CW.s ?_);conv=>whnf)
   exact⟨rfl,⟨f2.fs.aj k3,f2.kp.trans (k3.mono (by simp))⟩,.inl ⟨X,V,fun x hx=>Nat.le_trans f2.kp.size (hX x hx),hV,pH,zf,hm,rfl,yO⟩⟩
  ·conv=>whnf
   repeat ((first|refine Br.t ?_|refine Ru.n1 ?_|refine CW.s ?_);conv=>whnf)
   refine⟨rfl,⟨f2.fs.aj k3,f2.kp.trans (k3.mono (by simp))⟩,.inr ⟨6,.inr rfl,rfl,fun C hC cC hdC hmC=>hm (fun j hj=>?_)⟩⟩;have e:=xv hC hV cC pH (p:=gi p 3) (by omega) (50+j) (by omega);have:=hmC j hj;unfold bw at this ⊢;rw[<-e];exact this
 ·conv=>whnf
  repeat ((first|refine Br.t ?_|refine Ru.n1 ?_|refine CW.s ?_);conv=>whnf)
  exact⟨rfl,f2,.inr ⟨5,.inl rfl,rfl,fun C hC cC hdC=>by have:=cN C hC cC;omega⟩⟩
end
section
open Go.RowKit
structure CP(F:Fence)(P:Program):Prop where
 fn:∀f,F.fn f
 depth:F.depth=none
 calls:∀ {m f args w R},Calls P f args w R->CallsIn F m P f args w R
theorem jV{P:Program}:CP Fence.wide P:=⟨fun _=>trivial,rfl,fun h=>callsIn_wide.2 h⟩
theorem iI{P:Program}(l:Nat):CP (Fence.wide.inRound l) P:=⟨fun _=>trivial,rfl,fun h=>CallsIn.inRound l (callsIn_wide.2 h)⟩
def QD(n:Nat)(Q:Exit->Fr->List Deferred->World->Prop):Exit->Act->World->Prop:=fun e a w=>adG e/\∃f ds,Au n f a ds/\Q e f ds w
structure A7(F:Fence)(m:Nat)(P:Program)(n:Nat)(c:Code)(Q:Exit->Fr->List Deferred->World->Prop)(f:Fr)(ds:List Deferred)(w:World):Prop where
 go:∀a,Au n f a ds->Code.wpIn F m P c (QD n Q) a w
def wpI(F:Fence)(m:Nat)(P:Program)(T:TT)(n:Nat)(c:Code):Fr->List Deferred->World->(Exit->Fr->List Deferred->World->Prop)->Prop :=
 Code.rec (motive:=fun _=>Fr->List Deferred->World->(Exit->Fr->List Deferred->World->Prop)->Prop)
  (fun f ds w Q=>Q .normal f ds w)
  (fun id ops d f ds w Q=>match d with
   |false=>iN P T n ops.toList ops.toList f w fun f w=>Q .normal f ds w
   |true=>A7 F m P n (.region id ops true) Q f ds w)
  (fun a b iha ihb f ds w Q=>cond (rH a) (A7 F m P n (.seq a b) Q f ds w) (iha f ds w fun e f ds w=>(match e with
    |.normal=>ihb f ds w Q
    |e=>Q e f ds w)))
  (fun c _ _ iha ihb f ds w Q=>fx f c fun v=>(match v with
   |.bool t=>Br t (iha f ds w Q) (ihb f ds w Q)
   |_=>False))
  (fun id _ ih f ds w Q=>ih f ds w fun e f ds w=>(match e with
   |.exit i=>cond (Nat.beq i id) (Q .normal f ds w) (Q (.exit i) f ds w)
   |e=>Q e f ds w))
  (fun c _ f ds w Q=>A7 F m P n (.loop c) Q f ds w)
  (fun g ps a b _ _ f ds w Q=>A7 F m P n (.rangeFunc g ps a b) Q f ds w)
  (fun id f ds w Q=>Q (.exit id) f ds w)
  (fun _ _ _ _ _ _=>False)
  (fun _ f ds w Q=>Q .normal f ds w)
  (fun _ _ _ _ _=>False)
  (fun f ds w Q=>Q .ret f ds w)
  (fun _ _ _ _ _=>False) c
theorem akC(F:Fence)(m:Nat)(P:Program)(T:TT)(n:Nat)(x y:Code)(f:Fr)(ds:List Deferred)(w:World)(Q:Exit->Fr->List Deferred->World->Prop):wpI F m P T n (.seq x y) f ds w Q=cond (rH x) (A7 F m P n (.seq x y) Q f ds w) (wpI F m P T n x f ds w fun e f ds w=>(match e with
    |.normal=>wpI F m P T n y f ds w Q
    |e=>Q e f ds w)):=rfl
section sound
variable{P:Program}{T:TT}{n m:Nat}{F:Fence}{ds:List Deferred}
theorem Bd.wpIn(hF:CP F P){o:Oper}{a:Act}{w:World}{N:Act->World->Prop}{Q':Exit->Act->World->Prop}(h:Bd P o a w N):o.wpIn F m P a w N Q':=by
 obtain⟨hd,h⟩:=h;refine⟨fun f _=>hF.fn f,?_⟩;rw[Oper.semAt_eq _ _ _ hd];rcases h with⟨v,w',h,hn⟩|⟨w',h,hn⟩|⟨f,args,w1,h,hc⟩
 ·rw[h];exact hn
 ·rw[h];exact hn
 ·rw[h,Oper.uponIn_enter];refine⟨fun e=>(by rw[hF.depth] at e;cases e),hF.calls (hc.mono fun e w' ⟨v,he,hk⟩=>?_)⟩;subst he;exact hk
theorem fL(hT:TT.ok P T=true)(hF:CP F P){ops:Array Oper}{Q:Exit->Act->World->Prop}:∀(l:List Oper) {f:Fr} {w:World} {K:Fr->World->Prop} {a:Act},iN P T n ops.toList l f w K->Au n f a ds ->
  (∀f' a' w',K f' w'->Au n f' a' ds->Q .normal a' w')->wpListIn F m P ops Q l a w
 | [],f,w,K,a,h,ha,hQ=>hQ _ _ _ h ha
 | o::l,f,w,K,a,h,ha,hQ=>by
  rw[tb] at h;split at h
  ·rename_i hg
   have hw:Region.wanted o (yielded ops a.tmps)=true:=by simp[Region.wanted,hg]
   unfold wpListIn;rw[if_pos hw];refine(Bd.wpIn hF (yC hT h ha fun v w' hk=>?_));obtain⟨f',m6,me⟩:=cw hk ha;exact fL hT hF l me m6 hQ
  ·rename_i j b hg
   obtain⟨oj,hj,h⟩:=cv h;split at h
   ·rename_i t ht
    obtain⟨vg,hvg,h⟩:=kN h;have vN:=ha.get t vg hvg;split at h
    ·rename_i g
     have hy:yielded ops a.tmps j=some g:=by
      have hj':ops[j]?=some oj:=by simpa using hj
      unfold yielded;simp only[hj',Option.bind_some,ht,getD_some vN]
     unfold wpListIn;have h:Br (g == b) (cond (Nat.ble n t) False (se P T o ((t,.bool b)::f) w fun v w'=>pt n ((t,.bool b)::f) o.dst v fun f'=>iN P T n ops.toList l f' w' K))
       (cond (Nat.ble n t) False (pt n ((t,.bool (!b))::f) o.dst undef fun f'=>iN P T n ops.toList l f' w K)):=by
      cases b with
      |true=>exact⟨fun hb=>Br.tt h (by simpa using hb),fun hb=>Br.ff h (by simpa using hb)⟩
      |false=>exact⟨fun hb=>Br.ff h (by simpa using hb),fun hb=>Br.tt h (by simpa using hb)⟩
     by_cases vO:(g == b)=true
     ·have hw:Region.wanted o (yielded ops a.tmps)=true:=by
       simp only[Region.wanted,hg,hy];simpa using vO
      rw[if_pos hw];have h:=h.tt vO
      cases hb:Nat.ble n t with
      |true=>rw[hb] at h;exact h.elim
      | false =>
       rw[hb] at h;simp only[cond_false] at h;have m6:=ha.cons t (.bool b) (by rw[vN];simpa using vO);refine(Bd.wpIn hF (yC hT h m6 fun v w' hk=>?_));obtain⟨f',gY,me⟩:=cw hk m6;exact fL hT hF l me gY hQ
     ·have aae:(g == b)=false:=by simpa using vO
      have hw:¬Region.wanted o (yielded ops a.tmps)=true:=by
       simp only[Region.wanted,hg,hy];simpa using vO
      rw[if_neg hw];refine⟨fun f _=>hF.fn f,?_⟩;have h:=h.ff aae
      cases hb:Nat.ble n t with
      |true=>rw[hb] at h;exact h.elim
      | false =>
       rw[hb] at h;simp only[cond_false] at h;have m6:=ha.cons t (.bool (!b)) (by rw[vN];congr 1;revert aae;cases g<;>cases b<;>simp);obtain⟨f',gY,me⟩:=cw h m6;exact fL hT hF l me gY hQ
    ·rename_i vs
     have hw:¬Region.wanted o (yielded ops a.tmps)=true:=by
      rw[iu hg hj ht vN];simp
     unfold wpListIn;rw[if_neg hw];refine⟨fun f _=>hF.fn f,?_⟩;obtain⟨f',gY,me⟩:=cw h ha;exact fL hT hF l me gY hQ
    ·exact h.elim
   ·exact h.elim
theorem eJ(hT:TT.ok P T=true)(hF:CP F P):∀(c:Code) {f:Fr} {ds:List Deferred} {w:World} {Q:Exit->Fr->List Deferred->World->Prop} {a:Act},wpI F m P T n c f ds w Q->Au n f a ds->Code.wpIn F m P c (QD n Q) a w
 |.skip,f,ds,w,Q,a,h,ha=>wpIn_skip ⟨trivial,f,ds,ha,h⟩
 | .region id ops d,f,ds,w,Q,a,h,ha=>by
  cases d with
  |false=>exact wpIn_region_list (fL hT hF ops.toList h ha fun f' a' w' hk hf=>⟨trivial,f',ds,hf,hk⟩)
  |true=>exact A7.go h a ha
 | .seq x y,f,ds,w,Q,a,h,ha=>by
  rw[akC] at h
  cases hj:rH x with
  | true =>
   rw[hj] at h;exact A7.go h a ha
  | false =>
   rw[hj] at h;simp only[cond_false] at h;refine wpIn_seq (wpIn_mono (eJ hT hF x h ha) fun e a' w' ⟨np,f',ds',hf,hq⟩=>?_)
   cases e with
   |normal=>exact eJ hT hF y hq hf
   |_=>exact⟨np,f',ds',hf,hq⟩
 | .cond c x y,f,ds,w,Q,a,h,ha=>by
  have h:fx f c fun v=>(match v with
   |.bool t=>Br t (wpI F m P T n x f ds w Q) (wpI F m P T n y f ds w Q)
   |_=>False):=h;have h:=ao h ha;split at h
  ·rename_i t hc
   cases t with
   |true=>exact wpIn_cond_true hc (eJ hT hF x (h.tt rfl) ha)
   |false=>exact wpIn_cond_false hc (eJ hT hF y (h.ff rfl) ha)
  ·exact h.elim
 | .block id c,f,ds,w,Q,a,h,ha=>by
  have h:wpI F m P T n c f ds w fun e f ds w=>(match e with
   |.exit i=>cond (Nat.beq i id) (Q .normal f ds w) (Q (.exit i) f ds w)
   |e=>Q e f ds w):=h;refine wpIn_block (wpIn_mono (eJ hT hF c h ha) fun e a' w' ⟨np,f',ds',hf,hq⟩=>?_)
  cases e with
  | exit i =>
   simp only[Exit.inBlock];by_cases hi:i=id
   ·subst hi;simp only[if_true];have hb:Nat.beq i i=true:=Nat.beq_refl i;simp only[hb] at hq;exact⟨trivial,f',ds',hf,hq⟩
   ·simp only[if_neg hi];have hb:Nat.beq i id=false:=by
     cases hb:Nat.beq i id with
     |true=>exact absurd (Nat.eq_of_beq_eq_true hb) hi
     |false=>rfl
    simp only[hb] at hq;exact⟨trivial,f',ds',hf,hq⟩
  |_=>exact⟨np,f',ds',hf,hq⟩
 |.loop c,f,ds,w,Q,a,h,ha=>A7.go h a ha
 |.rangeFunc ..,f,ds,w,Q,a,h,ha=>A7.go h a ha
 |.exit id,f,ds,w,Q,a,h,ha=>wpIn_exit ⟨trivial,f,ds,ha,h⟩
 |.scope c,f,ds,w,Q,a,h,ha=>h.elim
 |.label l,f,ds,w,Q,a,h,ha=>wpIn_label ⟨trivial,f,ds,ha,h⟩
 |.goto l,f,ds,w,Q,a,h,ha=>h.elim
 |.ret,f,ds,w,Q,a,h,ha=>wpIn_ret ⟨trivial,f,ds,ha,h⟩
 |.refuse s,f,ds,w,Q,a,h,ha=>h.elim
theorem A7.seq{x y:Code}{f:Fr}{ds:List Deferred}{w:World}{Q:Exit->Fr->List Deferred->World->Prop}(hT:TT.ok P T=true)(hF:CP F P) (h:wpI F m P T n x f ds w fun e f ds w=>(match e with
  |.normal=>wpI F m P T n y f ds w Q
  |e=>Q e f ds w)):A7 F m P n (.seq x y) Q f ds w:=⟨fun a ha=>by
 refine wpIn_seq (wpIn_mono (eJ hT hF x h ha) fun e a' w' ⟨np,f',ds',hf,hq⟩=>?_)
 cases e with
 |normal=>exact eJ hT hF y hq hf
 |_=>exact⟨np,f',ds',hf,hq⟩⟩
def aaI:List Deferred->World->World->Prop
 | [],w,w2=>w2=w
 | [d],w,w2=>∃D,d={ target:=.collected D,args := #[] }/\w.heap[D]?=some (.deferred (some []))/\w2=w.putObj D (.deferred none)
 |_,_,_=>False
def acz(P:Program)(rs:List ResultVar)(Φ:Value->World->Prop)(f:Fr)(ds:List Deferred)(w:World):Prop:=∃w2,aaI ds w w2/\aag P rs f w2 fun vs w'=>w'=w2/\Φ (oneOf vs) w'
theorem spec_of_wpI {fid : FuncId} {fn : Func} {c : Code} {args : List Value} {w : World} {Φ : Value → World → Prop} (m : Nat) (hT : TT.ok P T = true) (hf : P.funcs[fid]? = some fn) (hb : fn.body = some c) (hnm : (fn.name == "runtime.NumGoroutine") = false) (hn : fn.ntmps = n) (ha : args.length ≤ n)
  (h:wpI Fence.wide m P T n c (fr0 0 args) [] w fun e f ds w=>(match e with
   |.normal=>acz P fn.results.toList Φ f ds w
   |.ret=>acz P fn.results.toList Φ f ds w
   |_=>False)):Spec P fid args.toArray w Φ:=by
 refine⟨by simp[ab1,hf,hb,hnm],?_⟩;refine(callsIn_wide (n:=m)).1 (callsIn_of_wp_marks hf hb trivial ?_ rfl);have amh:Au n (fr0 0 args) { tmps:=args.toArray++Array.replicate (fn.ntmps-args.toArray.size) undef,defers:=[] }:=by
  refine⟨by simp[hn];omega,rfl,fun d v hd=>?_⟩;obtain⟨_,h1⟩:=yD args 0 d v hd;simp only[Nat.sub_zero] at h1;rw[Array.getD_eq_getD_getElem?,Array.getElem?_append_left (by simpa using(List.getElem?_eq_some_iff.1 h1).1)];simp[h1]
 have res:∀(f:Fr) (a:Act) (ds:List Deferred) (w:World),Au n f a ds->(aag P fn.results.toList f w fun vs w'=>w'=w/\Φ (oneOf vs) w')->∃v,(results fn a.tmps).run P w=.ok v w/\∃u,Ending.returned v=.returned u/\Φ u w:=by
  intro f a ds w wR hr;have aqA:Au n f { a with defers:=[] }:=⟨wR.size,rfl,wR.get⟩;obtain⟨vs,w',h1,rfl,h2⟩:=kQ aqA (g:=fun x=>match x with | .tmp t=>pure (a.tmps.getD t undef) | .cell b t=>do loadVar t (<-asAddr (a.tmps.getD b undef))) (fun _=>rfl) (fun _ _=>rfl) hr;refine⟨oneOf vs,?_,_,rfl,h2⟩;have e:results fn a.tmps=(do
   let vs <-fn.results.mapM (fun x=>match x with | .tmp t=>pure (a.tmps.getD t undef) | .cell b t=>do loadVar t (<-asAddr (a.tmps.getD b undef)):ResultVar->Sem Value)
   pure (if h:vs.size=1 then vs[0] else .tuple vs)):=rfl
  rw[e,Array.mapM_eq_mapM_toList];simp only[map_eq_pure_bind,Sem.run_bind,Sem.run_pure];rw[h1];simp only[Result.andThen_ok]
  cases vs with
  |nil=>simp[oneOf]
  | cons v vs=>cases vs with
   |nil=>simp[oneOf]
   |cons u vs=>simp[oneOf]
 have key:∀(f:Fr) (ds:List Deferred) (a:Act) (w:World),Au n f a ds->acz P fn.results.toList Φ f ds w->LeavesInM Fence.wide m P fn a.tmps (fun e w'=>∃v,e=.returned v/\Φ v w') a.defers .returning w:=by
  intro f ds a w wR ⟨w2,ht,hr⟩;have hd:=wR.defers
  match ds,ht with
  | [],ht =>
   obtain rfl:w2=w:=ht;rw[hd];exact res f a _ _ wR hr
  | [d],ht =>
   obtain⟨D,rfl,hD,rfl⟩:=ht;rw[hd];exact⟨by simp,.inl ⟨D,_,rfl,run_takeDeferred hD,res f a _ _ wR hr⟩⟩
 refine wpIn_mono (eJ hT jV c h amh) fun e a w' ⟨np,f,ds,wR,hq⟩=>?_
 cases e with
 |normal=>exact key f ds a w' wR hq
 |ret=>exact key f ds a w' wR hq
 |_=>exact hq.elim
def amT{α:Type}(B:Nat)(Kp:World->World->Prop)(I:List α->World->Prop)(Ix:List α->World->Prop)(xs:List α)(W:World):Exit->Fr->List Deferred->World->Prop
 |.normal,_,_,W'=>KeepsFrom B W W'/\Kp W W'/\I xs W'
 |.ret,_,_,W'=>KeepsFrom B W W'/\Ix xs W'
 |_,_,_,_=>False
theorem A7.range{α:Type}{g:Operand}{ps:Array Tmp}{assign body:Code}{f:Fr}{ds:List Deferred}{w:World}{Q:Exit->Fr->List Deferred->World->Prop}(hT:TT.ok P T=true)(h1:1<=m){gf:Nat}{lb:Array Value}(hg:fx f g fun v=>v=.func (.func gf) #[] lb)(eg:∀args w,(callFunc gf args).run P w=.ok (.enter gf args) w)
  {amU:α->Array Value} {Kp:World->World->Prop} {S Sp:List α->Prop} {N:Nat} (mE:SeqStopsK Fence.wide (m-1) P gf lb amU Kp S Sp N w)
  (hKt:∀ {A B C:World},Kp A B->Kp B C->Kp A C) (hKb:∀(W:World) (l:Nat) (o o':Obj),w.heap.size<=l->W.heap[l]?=some o->o.isCells=false->o.isWalk=false->Kp W (W.putObj l o')) (hps:∀x,(amU x).size=ps.size)
  (I:List α->World->Prop) (Ix:List α->World->Prop) (hI:OwnFrom w.heap.size I) (hIx:OwnFrom w.heap.size Ix) (h0:I [] w) (a₁:Act->α->Act) (fb:α->Fr) (wR:∀a x,Au n f a ds->Au n (fb x) (a₁ a x))
  (akD:∀(a:Act),Au n f a ds->∀(l:Nat) (x:α) (W:World) (K:Act->World->Prop),K (a₁ a x) W ->
   assign.wpIn (Fence.wide.inRound l) (m-1-1) P (Exit.then K (fun _ _ _=>False)) { tmps:=(ps.zip (amU x)).foldl (fun t (p,v)=>t.setIfInBounds p v) a.tmps,defers:=[] } W)
  (aoL:∀(l:Nat) (pre:List α) (x:α) (W:World),I pre W->pre.length<N->wpI (Fence.wide.inRound l) (m-1-1) P T n body (fb x) [] W (amT w.heap.size Kp I Ix (pre++[x]) W))
  (adX:∀(D:Nat) (xs:List α) (W:World),w.heap.size<=D->S xs->I xs W->W.heap[D]?=some (.deferred (some []))->Q .normal f ({ target:=.collected D,args := #[] }::ds) W)
  (aoM:∀(D:Nat) (pre:List α) (W:World),w.heap.size<=D->Sp pre->Ix pre W->W.heap[D]?=some (.deferred (some []))->Q .ret f ({ target:=.collected D,args := #[] }::ds) W) :
  A7 Fence.wide m P n (.rangeFunc g ps assign body) Q f ds w:=⟨fun a ha=>by
 have vN:a.eval g=.func (.func gf) #[] lb:=ao hg ha;have hup:∀D,Au n f { a with defers:={ target:=.collected D,args := #[] }::a.defers } ({ target:=.collected D,args := #[] }::ds):=fun D=>⟨ha.size,by rw[<-ha.defers],ha.get⟩
 refine wpIn_rangeFunc_ownG rfl h1 vN trivial eg mE hKt hKb (Below.refl _ _) hps I (fun c pre W=>c=.ret/\Ix pre W) hI
  (fun c s W W' row hs hgr hr=>⟨hs.1,hIx s W W' row hs.2 hgr hr⟩) h0 (a₁ a) (akD a ha)
  (fun l pre x W hi hl=>wpIn_mono (eJ hT (iI l) body (aoL l pre x W hi hl) (wR a x ha)) fun e a' W' ⟨np,f',ds',hf,hq⟩=>?_)
  (fun D xs W hD hS hi hK=>⟨trivial,f,_,hup D,adX D xs W hD hS hi hK⟩)
  (fun D c pre W hD hS hi hK=>?_)
 ·cases e with
  |normal=>exact hq
  |ret=>exact⟨hq.1,rfl,hq.2⟩
  |_=>exact hq.elim
 ·obtain⟨rfl,hi⟩:=hi;exact wpIn_ret ⟨trivial,f,_,hup D,aoM D pre W hD hS hi hK⟩⟩
end sound
end
section
open Go.RowKit Go.Shelf
attribute [local go_sem] Oper.semAt_some
def Cb(xb xs:Nat)(W W':World):Prop:=W'.cell? ⟨xb,0,none⟩=W.cell? ⟨xb,0,none⟩/\W'.cell? ⟨xs,0,none⟩=W.cell? ⟨xs,0,none⟩
theorem Cb.trans{xb xs:Nat}{A B C:World}(h:Cb xb xs A B)(k:Cb xb xs B C):Cb xb xs A C:=⟨k.1.trans h.1,k.2.trans h.2⟩
def pcs(N:Nat)(hN:0<N)(j:Nat):Fin N:=⟨min j (N-1),by omega⟩
def upto(N:Nat)(hN:0<N)(k:Nat):List (Fin N):=(List.range k).map (pcs N hN)
theorem ni(N:Nat)(hN:0<N)(k:Nat):upto N hN (k+1)=upto N hN k++[pcs N hN k]:=by simp[upto,List.range_succ]
theorem dF(N:Nat)(hN:0<N)(k:Nat):(upto N hN k).length=k:=by simp[upto]
theorem xw(w:World)(A:Option Addr)(n c:Nat)(sz:Int):Spec Tryz.prog 193 #[.slice A n c,.int .i64 sz] w fun v w'=>v=.func (.func 209) #[] #[.pointer (some ⟨w.heap.size+1,0,none⟩),.pointer (some ⟨w.heap.size,0,none⟩)]/\w'=(w.alloc (.cells #[.slice A n c] 37)).alloc (.cells #[.int .i64 sz] 3):=by
 refine⟨by kernel_rfl,?_⟩
 go_enter func193,ntmps193
 go_wp2
 go_ret
 exact⟨_,rfl,rfl,rfl⟩
def aaJ(b o c:Nat)(x:Fin 3):Array Value := #[.int .i64 (x.1:Int),.slice (some ⟨b,o+x.1*64,none⟩) ((x.1+1)*64-x.1*64) (c-x.1*64)]
theorem aaK(F:Fence)(n:Nat)(h7:F.fn 209)(mF:F.round=none)(hn:1<=n)(l xb xs b o c:Nat)(hc:192<=c)(J Jx:List (Fin 3)->World->Prop)
  (hY:∀pre x W,J pre W->pre.length<3->YieldAt F (n-1) Tryz.prog l (aaJ b o c x) W fun e W' =>
   (e=.returned (.bool true)/\J (pre++[x]) W'/\Cb xb xs W W')\/(e=.returned (.bool false)/\Jx (pre++[x]) W'))
  (W:World) (hB:W.cell? ⟨xb,0,none⟩=some (.slice (some ⟨b,o,none⟩) 192 c)) (hS:W.cell? ⟨xs,0,none⟩=some (.int .i64 64)) (h0:J [] W) :
  CallsIn F n Tryz.prog 209 #[.func (.yield l) #[] #[],.pointer (some ⟨xs,0,none⟩),.pointer (some ⟨xb,0,none⟩)] W fun e W'=>(∃v,e=.returned v) /\
   ((∃ys,ys=upto 3 (by decide) 3/\J ys W')\/(∃pre,(∃k,k<=3/\pre=upto 3 (by decide) k)/\Jx pre W')):=by
 refine callsIn_of_wp func209 rfl h7 ?_ mF;simp only[ntmps209,List.size_toArray,List.length_cons,List.length_nil,Nat.reduceAdd,Nat.reduceSub,Array.replicate_succ,Array.replicate_zero,List.push_toArray,List.append_toArray,List.nil_append,List.cons_append]
 gi_wp2
 gi_loopw [4] (fun i wr=>∃k:Nat,k<=3/\i=.int .i64 k/\J (upto 3 (by decide) k) wr/\wr.cell? ⟨xb,0,none⟩=some (.slice (some ⟨b,o,none⟩) 192 c)/\wr.cell? ⟨xs,0,none⟩=some (.int .i64 64))
  (fun i _=>3-(intOf i).toNat)
 case atStart=>exact⟨0,Nat.zero_le _,rfl,h0,hB,hS⟩
 case round =>
  obtain⟨k,hk,rfl,hJs,hB,hS⟩:=hrel;by_cases av:k<3
  ·obtain⟨fn,tmps,assign,body,hy,hR⟩:=hY _ (pcs 3 (by decide) k) wr hJs (by rw[dF];exact av);have hp:(pcs 3 (by decide) k).1=k:=by show min k (3-1)=k;omega
   unfold aaJ at hy;rw[hp] at hy
   gi_wp2
   refine hR.mono ?_;rintro e W3 (⟨rfl,hJ3,hk3⟩|⟨rfl,amV⟩)
   ·gi_wp2
    go_roundw
    case rel=>exact⟨k+1,by omega,by simp,by rw[ni];exact hJ3,hk3.1.trans hB,hk3.2.trans hS⟩
    case measure=>simp[intOf];omega
   ·gi_wp2
    refine bodyPost_ret (results_none rfl _ _ _) rfl ?_;exact⟨⟨_,rfl⟩,.inr ⟨_,⟨k+1,by omega,(ni _ _ _).symm⟩,amV⟩⟩
  ·obtain rfl:k=3:=by omega
   gi_wp2
   go_end0
   exact⟨⟨_,rfl⟩,.inl ⟨_,rfl,hJs⟩⟩
theorem acA(k:Nat)(hk:k<=3):upto 3 (by decide) k <+: upto 3 (by decide) 3:=by
 have h:∀k,k<=3->upto 3 (by decide) k <+: upto 3 (by decide) 3:=by decide
 exact h k hk
theorem tR(F:Fence)(n:Nat)(h7:F.fn 209)(mF:F.round=none)(hn:1<=n)(xb xs b o c:Nat)(hc:192<=c)(w:World)(pI:xb<w.heap.size)(hxs:xs<w.heap.size)
  (hB:w.cell? ⟨xb,0,none⟩=some (.slice (some ⟨b,o,none⟩) 192 c)) (hS:w.cell? ⟨xs,0,none⟩=some (.int .i64 64)) :
  SeqStopsK F n Tryz.prog 209 #[.pointer (some ⟨xs,0,none⟩),.pointer (some ⟨xb,0,none⟩)] (aaJ b o c) (Cb xb xs) (fun ys=>ys=upto 3 (by decide) 3) (fun pre=>pre <+: upto 3 (by decide) 3) 3 w:=fun l J Jx W hW _ _ hY h0=>by
 have hB':=(hW.cell (p:=⟨xb,0,none⟩) pI).trans hB;have hS':=(hW.cell (p:=⟨xs,0,none⟩) hxs).trans hS;refine(aaK F n h7 mF hn l xb xs b o c hc J Jx hY W hB' hS' h0).mono ?_;rintro e W' ⟨he,⟨ys,rfl,hj⟩|⟨pre,⟨k,hk,rfl⟩,hj⟩⟩
 ·exact⟨he,.inl ⟨_,rfl,hj⟩⟩
 ·exact⟨he,.inr ⟨_,acA k hk,hj⟩⟩
def aaL(b o c:Nat)(x:Fin 4):Array Value := #[.int .i64 (x.1:Int),.slice (some ⟨b,o+x.1*58,none⟩) ((x.1+1)*58-x.1*58) (c-x.1*58)]
theorem aaM(F:Fence)(n:Nat)(h7:F.fn 209)(mF:F.round=none)(hn:1<=n)(l xb xs b o c:Nat)(hc:232<=c)(J Jx:List (Fin 4)->World->Prop)
  (hY:∀pre x W,J pre W->pre.length<4->YieldAt F (n-1) Tryz.prog l (aaL b o c x) W fun e W' =>
   (e=.returned (.bool true)/\J (pre++[x]) W'/\Cb xb xs W W')\/(e=.returned (.bool false)/\Jx (pre++[x]) W'))
  (W:World) (hB:W.cell? ⟨xb,0,none⟩=some (.slice (some ⟨b,o,none⟩) 232 c)) (hS:W.cell? ⟨xs,0,none⟩=some (.int .i64 58)) (h0:J [] W) :
  CallsIn F n Tryz.prog 209 #[.func (.yield l) #[] #[],.pointer (some ⟨xs,0,none⟩),.pointer (some ⟨xb,0,none⟩)] W fun e W'=>(∃v,e=.returned v) /\
   ((∃ys,ys=upto 4 (by decide) 4/\J ys W')\/(∃pre,(∃k,k<=4/\pre=upto 4 (by decide) k)/\Jx pre W')):=by
 refine callsIn_of_wp func209 rfl h7 ?_ mF;simp only[ntmps209,List.size_toArray,List.length_cons,List.length_nil,Nat.reduceAdd,Nat.reduceSub,Array.replicate_succ,Array.replicate_zero,List.push_toArray,List.append_toArray,List.nil_append,List.cons_append]
 gi_wp2
 gi_loopw [4] (fun i wr=>∃k:Nat,k<=4/\i=.int .i64 k/\J (upto 4 (by decide) k) wr/\wr.cell? ⟨xb,0,none⟩=some (.slice (some ⟨b,o,none⟩) 232 c)/\wr.cell? ⟨xs,0,none⟩=some (.int .i64 58))
  (fun i _=>4-(intOf i).toNat)
 case atStart=>exact⟨0,Nat.zero_le _,rfl,h0,hB,hS⟩
 case round =>
  obtain⟨k,hk,rfl,hJs,hB,hS⟩:=hrel;by_cases av:k<4
  ·obtain⟨fn,tmps,assign,body,hy,hR⟩:=hY _ (pcs 4 (by decide) k) wr hJs (by rw[dF];exact av);have hp:(pcs 4 (by decide) k).1=k:=by show min k (4-1)=k;omega
   unfold aaL at hy;rw[hp] at hy
   gi_wp2
   refine hR.mono ?_;rintro e W3 (⟨rfl,hJ3,hk3⟩|⟨rfl,amV⟩)
   ·gi_wp2
    go_roundw
    case rel=>exact⟨k+1,by omega,by simp,by rw[ni];exact hJ3,hk3.1.trans hB,hk3.2.trans hS⟩
    case measure=>simp[intOf];omega
   ·gi_wp2
    refine bodyPost_ret (results_none rfl _ _ _) rfl ?_;exact⟨⟨_,rfl⟩,.inr ⟨_,⟨k+1,by omega,(ni _ _ _).symm⟩,amV⟩⟩
  ·obtain rfl:k=4:=by omega
   gi_wp2
   go_end0
   exact⟨⟨_,rfl⟩,.inl ⟨_,rfl,hJs⟩⟩
theorem acB(k:Nat)(hk:k<=4):upto 4 (by decide) k <+: upto 4 (by decide) 4:=by
 have h:∀k,k<=4->upto 4 (by decide) k <+: upto 4 (by decide) 4:=by decide
 exact h k hk
theorem tS(F:Fence)(n:Nat)(h7:F.fn 209)(mF:F.round=none)(hn:1<=n)(xb xs b o c:Nat)(hc:232<=c)(w:World)(pI:xb<w.heap.size)(hxs:xs<w.heap.size)
  (hB:w.cell? ⟨xb,0,none⟩=some (.slice (some ⟨b,o,none⟩) 232 c)) (hS:w.cell? ⟨xs,0,none⟩=some (.int .i64 58)) :
  SeqStopsK F n Tryz.prog 209 #[.pointer (some ⟨xs,0,none⟩),.pointer (some ⟨xb,0,none⟩)] (aaL b o c) (Cb xb xs) (fun ys=>ys=upto 4 (by decide) 4) (fun pre=>pre <+: upto 4 (by decide) 4) 4 w:=fun l J Jx W hW _ _ hY h0=>by
 have hB':=(hW.cell (p:=⟨xb,0,none⟩) pI).trans hB;have hS':=(hW.cell (p:=⟨xs,0,none⟩) hxs).trans hS;refine(aaM F n h7 mF hn l xb xs b o c hc J Jx hY W hB' hS' h0).mono ?_;rintro e W' ⟨he,⟨ys,rfl,hj⟩|⟨pre,⟨k,hk,rfl⟩,hj⟩⟩
 ·exact⟨he,.inl ⟨_,rfl,hj⟩⟩
 ·exact⟨he,.inr ⟨_,acB k hk,hj⟩⟩
end
section
open Go.RowKit
attribute [local irreducible] GF.pw GF.lg GF.mul GF.inv GF.xt
theorem afg(w:World)(t:TypeId)(v:Value):Row (w.alloc (.cells #[v] t)) w.heap.size t 1 (fun _=>v):=Row.oG (heap_alloc_new w _) (by simp[Array.range,Array.ofFn_succ])
theorem Ru.wA{P:Program}{w:World}{s:Sem Value}{t:TypeId}{v:Value}{K:Value->World->Prop}(h:s.run P w=.ok (.pointer (some ⟨w.heap.size,0,none⟩)) (w.alloc (.cells #[v] t)))(k:∀g w',g=w.heap.size->w'.heap.size=w.heap.size+1->Row w' g t 1 (fun _=>v)->Aa [] w w'->K (.pointer (some ⟨g,0,none⟩)) w'):Ru P s w K :=
 ⟨_,_,h,k _ _ rfl (by simp) (afg w t v) ((Aa.refl _ _).alloc _)⟩
theorem adY(a:Addr)(w:World):(Instr.box 248 (.pointer (some a))).run Tryz.prog w=.ok (.pointer (some ⟨w.heap.size,0,none⟩)) (w.alloc (.cells #[.pointer (some a)] 248)):=by kernel_rfl
theorem aho(w:World):(Instr.alloc 51 true (.tuple #[])).run Tryz.prog w=.ok (.pointer (some ⟨w.heap.size,0,none⟩)) (w.alloc (.cells #[.slice none 0 0] 51)):=by kernel_rfl
theorem adZ(w:World):(Instr.alloc 33 true (.tuple #[])).run Tryz.prog w=.ok (.pointer (some ⟨w.heap.size,0,none⟩)) (w.alloc (.cells #[.nilIface] 33)):=by kernel_rfl
def iT(D B:Nat->Nat):Nat->Nat:=fun j=>if j<174 then D j else if j<224 then B (j-174) else (jt (j-224)).toNat
def lS(q:Nat->Nat)(k:Nat):Nat->Nat:=fun i=>q (k*58+i)
theorem akE(A:Option Addr)(c:Nat)(f:Nat->Int)(w:World)(r:Rd w A 50 (fun j=>.int .u8 (f j))):Spec Tryz.prog 203 #[.slice A 50 c] w fun v w'=>v=.tuple #[.slice (some ⟨w.heap.size,0,none⟩) 58 58,al 0]/\Row w' w.heap.size 5 58 (fun j=>.int .u8 (xa f j))/\Aa [] w w' :=
 Spec.acy (by kernel_rfl) (aj6 A c f w r) fun e w' h=>by
  obtain⟨rfl,h1,h2⟩:=h;exact⟨_,rfl,rfl,h1,h2⟩
theorem qA(i:Nat):((jt i).toNat:Int)=jt i:=by
 have h:0<=jt i:=by
  by_cases hi:i<8
  ·have:∀i,i<8->0<=jt i:=by decide
   exact this i hi
  ·unfold jt;rw[List.getD_eq_getElem?_getD,List.getElem?_eq_none (by simp;omega)];decide
 omega
theorem ahp(D B:Nat->Nat)(j:Nat):(if j<174 then bw D j else xa (bw B) (j-174))=(iT D B j:Int):=by
 unfold iT xa bw;by_cases h1:j<174
 ·rw[if_pos h1,if_pos h1]
 ·rw[if_neg h1,if_neg h1];by_cases h2:j<224
  ·rw[if_pos (by omega),if_pos h2]
  ·rw[if_neg (by omega),if_neg h2,qA,show j-174-50=j-224 by omega]
theorem ahq(A:Option Addr)(n c:Nat)(w:World):(Instr.buildSlice 51 1 #[(0,.slice A n c)]).run Tryz.prog w=.ok (.slice (some ⟨w.heap.size,0,none⟩) 1 1) (w.alloc (.cells #[.slice A n c] 37)):=by kernel_rfl
theorem akF:(Tryz.prog.info? 37).map (fun i=>(i.zero,i.size,i.bytes))=some (some (.slice none 0 0),1,24):=by kernel_rfl
theorem aG{W:World}{x:Nat}{t:TypeId}{n:Nat}{F:Nat->Value}(r:Row W x t n F):∀o,W.heap[x]?=some o->o.isCells=true:=fun o h=>by
 rw[r] at h
 cases h
 rfl
theorem jW{W:World}{t:TypeId}{s n c:Nat}{A:Option Addr}{F:Nat->Value}(r:Ly W t s A n c F):∀x,x∈aK A->∀o,W.heap[x]?=some o->o.isCells=true:=fun x hx o h=>by
 cases A with
 |none=>cases hx
 | some a =>
  obtain⟨b,cur,fr,rfl,hh,_⟩:=r.2.2.2 a rfl;obtain rfl:=List.mem_singleton.1 hx;rw[hh] at h
  cases h
  rfl
theorem FS.cells{W:World}{g:Nat}(r:FS W g):∀o,W.heap[g]?=some o->o.isCells=true:=by
 rcases r with r|r
 ·exact aG r
 ·exact aG r
theorem bz{S:List Nat}{W W':World}(B:Nat)(k:Aa S W W')(h:∀x,x∈S->∀o,W.heap[x]?=some o->o.isCells=true):KeepsFrom B W W':=⟨k.size,fun i o _ hi ho=>by
 have hl:=(Array.getElem?_eq_some_iff.1 hi).1;rw[k.block i hl (fun hx=>by rw[h i hx o hi] at ho;cases ho)];exact hi⟩
structure CR(w:World)(N0 f c g h xf xr xe xo qb e:Nat)(q:Nat->Nat)(pre:List (Fin 4))(W:World):Prop where
 sz:N0<=W.heap.size
 fk:FK w g W
 jk:Frm W f c g h
 rxf:Row W xf 248 1 (fun _=>.pointer (some ⟨f,0,none⟩))
 wB:Row W xr 51 1 (fun _=>.slice none 0 0)
 zg:Row W xe 33 1 (fun _=>.nilIface)
 rq:Ly W 5 1 (some ⟨qb,0,none⟩) 232 e (fun j=>.int .u8 (q j:Nat))
 out:∃(O:Option Addr) (oc:Nat) (bk ek:Nat->Nat),Row W xo 51 1 (fun _=>.slice O pre.length oc)/\Ly W 37 1 O pre.length oc (fun k=>.slice (some ⟨bk k,0,none⟩) 64 (ek k))/\(∀x,x∈aK O->N0<=x)/\∀k (hk:k<pre.length),w.heap.size<=bk k/\Wd W (bk k) (ek k) (GF.l5 (lS q pre[k].1))
theorem Ru.ldc{P:Program}{w:World}{t:TypeId}{a:Addr}{v:Value}{K:Value->World->Prop}(hc:dV P t=true)(h:w.cell? a=some v)(k:K v w):Ru P (loadVar t a) w K:=⟨v,w,pc hc h,k⟩
def CJ(w:World)(g:Nat)(q:Nat->Nat)(v:Value)(w':World):Prop :=
 FK w g w'/\∃(O:Option Addr) (oc:Nat) (bk ek:Nat->Nat),v=.tuple #[.slice O 4 oc,al 0]/\Ly w' 37 1 O 4 oc (fun k=>.slice (some ⟨bk k,0,none⟩) 64 (ek k))/\∀k,k<4->w.heap.size<=bk k/\Wd w' (bk k) (ek k) (GF.l5 (lS q k))
theorem aoN:∀k (hk:k<4),((upto 4 (by decide) 4)[k]'(by rw[dF];exact hk)).1=k:=by decide
theorem ahr(i:Nat):(jt i).toNat<256:=by
 by_cases hi:i<8
 ·have:∀i,i<8->(jt i).toNat<256:=by decide
  exact this i hi
 ·unfold jt;rw[List.getD_eq_getElem?_getD,List.getElem?_eq_none (by simp;omega)];decide
theorem pJ{D B:Nat->Nat}(hD:∀j,D j<256)(hB:∀j,B j<256)(j:Nat):iT D B j<256:=by
 unfold iT;split
 ·exact hD j
 ·split
  ·exact hB _
  ·exact ahr _
def Ap(W:World)(r:Nat):Prop:=∃o:Obj,W.heap[r]?=some o/\o.isCells=false
theorem Ap.ne{W:World}{r x:Nat}{t:TypeId}{n:Nat}{F:Nat->Value}(h:Ap W r)(k:Row W x t n F):x≠r:=fun e=>by
 obtain⟨o,h1,h2⟩:=h;subst e;rw[k] at h1
 cases h1
 cases h2
theorem Ap.amW{W:World}{r:Nat}{t:TypeId}{s n c:Nat}{A:Option Addr}{F:Nat->Value}(h:Ap W r)(k:Ly W t s A n c F):∀x,x∈aK A->x∉[r]:=fun x hx e=>by
 obtain⟨o,h1,h2⟩:=h
 cases A with
 |none=>cases hx
 | some a =>
  obtain⟨b,cur,fr,rfl,hh,_⟩:=k.2.2.2 a rfl;obtain rfl:=List.mem_singleton.1 hx;rw[List.mem_singleton.1 e,h1] at hh
  cases hh
  cases h2
theorem gj{W W':World}{row:Option Nat}(g:W.grownBy W' row):Aa row.toList W W':=(Aa.refl _ W).grown g (fun k e=>.inl (by rw[e];simp))
theorem amX(w:World)(f c g h dd db:Nat)(A X:Option Addr)(D B:Nat->Nat)(hD:∀j,D j<256)(hB:∀j,B j<256)(rD:AI w A 174 D)(rB:AI w X 50 B)(hdd:174<=dd)(H:Frm w f c g h) :
  Spec Tryz.prog 186 #[.pointer (some ⟨f,0,none⟩),.slice A 174 dd,.slice X 50 db] w (CJ w g (iT D B)):=by
 refine spec_of_wpI (T:=tt) 3 ai func186 rfl (by decide +kernel) ntmps186 (by simp) ?_;have hAn:A=none->dd=0:=fun e=>by
  obtain⟨b,o,e2,_⟩:=rD (by omega);rw[e] at e2
  cases e2
 conv=>whnf
 refine Ru.wA (adY _ _) ?_;intro xf w1 hxf dj rxf k1;conv=>whnf
 refine Ru.wA (aho _) ?_;intro xr w2 hxr gO wB k2;conv=>whnf
 refine Ru.wA (adZ _) ?_;intro xe w3 hxe gg zg k3;have amY:=(k1.trans k2).trans k3;conv=>whnf
 repeat ((first|(refine A7.seq ai jV ?_)|refine Br.f ?_);conv=>whnf)
 refine Ca.of (akE X db (bw B) w3 (rB.aj amY)) ?_;rintro _ w4 ⟨rfl,rs4,k4⟩;conv=>whnf
 repeat ((first|(refine A7.seq ai jV ?_)|refine Br.f ?_|refine Ru.ak ?_);conv=>whnf)
 refine Ru.wA (aho _) ?_;intro xo w5 hxo hs5 rxo k5;have k45:=k4.trans k5;have k35:=amY.trans k45;conv=>whnf
 repeat ((refine A7.seq ai jV ?_);conv=>whnf)
 refine Bu.grow (Own.start w5 (fun _=>0)) (bw D) (rD.aj k35) hdd hAn (by omega) ?_;intro Y1 e1 w6 O1 k6;conv=>whnf
 refine Bu.grow O1 (xa (bw B)) (Rd.dq (Row.ab (Row.ab rs4 k5 (by simp)) O1.ab (by simp)) (Nat.le_refl _)) (by omega) (fun e=>by cases e) (by omega) ?_;intro Y2 e2 w7 O2 k7;obtain⟨qb,rfl,-,-⟩:=O2.ly.yF (j:=0) (by omega);have hqb:=O2.new qb (List.mem_singleton.2 rfl);have rq:Ly w7 5 1 (some ⟨qb,0,none⟩) 232 e2 (fun j=>.int .u8 (iT D B j:Nat)):=O2.ly.congr (fun j hj=>by
  rw[<-ahp];by_cases h1:j<174
  ·simp[h1]
  ·simp[h1])
 have k57:=O2.ab;have k37:=k35.trans k57;clear O1 O2 k6 k7;conv=>whnf
 refine Ca.of (xw w7 _ _ _ _) ?_;rintro _ w8 ⟨rfl,hw8⟩;conv=>whnf
 have arW:w3.heap.size=w.heap.size+3:=by omega
 have arX:=k35.size;have arY:=k57.size;have aqn:=(amY.trans k4).size;have arZ:=k4.size;have qz:=H.iH.fs.lt;have hs7:=k37.size;have aqB:w8.heap.size=w7.heap.size+2:=by rw[hw8];simp
 have rb:Row w8 w7.heap.size 37 1 (fun _=>.slice (some ⟨qb,0,none⟩) 232 e2):=by
  rw[hw8];exact(afg w7 _ _).ab ((Aa.refl [] _).alloc _) (by simp)
 have rs:Row w8 (w7.heap.size+1) 3 1 (fun _=>.int .i64 58):=by
  rw[hw8];have:=afg (w7.alloc (.cells #[.slice (some ⟨qb,0,none⟩) 232 e2] 37)) 3 (.int .i64 58);simpa using this
 have k78:Aa [] w7 w8:=by
  rw[hw8];exact((Aa.refl [] _).alloc _).alloc _
 clear hw8;have k08:=k37.trans k78;have hec:232<=e2:=rq.1;have wC:CR w w8.heap.size f c g h xf xr xe xo qb e2 (iT D B) [] w8:=by
  have H8:=H.aj k08 (by simp) (by simp) (by simp) (by simp);have k5e:Aa [] w5 w8:=k57.trans k78;have k2e:Aa [] w2 w8:=k3.trans (k45.trans k5e);exact⟨Nat.le_refl _,⟨H8.iH.fs,k08.mono (by simp)⟩,H8,rxf.ab (k2.trans k2e) (by simp),wB.ab k2e (by simp),zg.ab (k45.trans k5e) (by simp),rq.aj k78,none,0,fun _=>0,fun _=>0,rxo.ab k5e (by simp),Ly.nil _ _ _ _,(fun x hx=>by cases hx),fun i hi=>absurd hi (by simp)⟩
 refine A7.range (α:=Fin 4) ai (by omega) (gf:=209) (lb := #[.pointer (some ⟨w7.heap.size+1,0,none⟩),.pointer (some ⟨w7.heap.size,0,none⟩)]) rfl (enters_of func209 (by kernel_rfl) rfl)
  (tS Fence.wide 2 trivial rfl (by omega) w7.heap.size (w7.heap.size+1) qb 0 e2 hec w8 (by omega) (by omega) (rb.cell 0 (by omega)) (rs.cell 0 (by omega)))
  (fun h k=>Cb.trans h k) ?kb (fun x=>rfl) (CR w w8.heap.size f c g h xf xr xe xo qb e2 (iT D B)) (fun _ _=>False) ?own (fun s W W' row hs _ _=>hs) wC
  (fun a x=>((({ a with defers:=[] }:Act).put (some 32) (.int .i64 (x.1:Int))).put (some 33) (.slice (some ⟨qb,0+x.1*58,none⟩) ((x.1+1)*58-x.1*58) (e2-x.1*58))).put (some 12) (.slice (some ⟨qb,0+x.1*58,none⟩) ((x.1+1)*58-x.1*58) (e2-x.1*58)))
  (fun x=>[(12,.slice (some ⟨qb,0+x.1*58,none⟩) ((x.1+1)*58-x.1*58) (e2-x.1*58)),(3,.pointer (some ⟨xf,0,none⟩)),(6,.pointer (some ⟨xr,0,none⟩)),(7,.pointer (some ⟨xe,0,none⟩)),(10,.pointer (some ⟨xo,0,none⟩))])
  ?agr ?assign ?body ?done (fun D pre W _ _ hf _=>hf.elim)
 case kb =>
  intro W l o o' hl _ _ _;have h1:∀i,i<l->(W.putObj l o').cell? ⟨i,0,none⟩=W.cell? ⟨i,0,none⟩:=fun i hi=>World.cell?_of_block (w:=W) (World.putObj_heap_other (by show _≠_;first|exact Nat.ne_of_lt hi|exact Nat.ne_of_gt hi));exact⟨h1 w7.heap.size (by omega),h1 (w7.heap.size+1) (by omega)⟩
 case own =>
  intro pre W W' row hI hg hr;have k:=gj hg;have hnc:∀ {x},(∀o,W.heap[x]?=some o->o.isCells=true)->x∉row.toList:=fun {x} hx hm=>by
   cases row with
   |none=>cases hm
   | some r =>
    obtain rfl:x=r:=by simpa using hm
    obtain⟨_,o,h1,h2⟩:=hr _ rfl;rw[hx o h1] at h2
    cases h2
  have hB:∀x,x∈row.toList->w.heap.size<=x:=fun x hx=>by
   cases row with
   |none=>cases hx
   | some r =>
    obtain rfl:x=r:=by simpa using hx
    have:=(hr _ rfl).1;omega
  obtain⟨O,oc,bk,ek,ro,lo,hO,hw⟩:=hI.out;have hg':=hnc (FS.cells hI.fk.fs);exact⟨Nat.le_trans hI.sz k.size,⟨hI.fk.fs.ab k hg',hI.fk.kp.then k (fun x hx=>.inr (hB x hx))⟩,hI.jk.aj k (hnc (aG hI.jk.row)) (hnc (aG hI.jk.iH.row)) hg' (hnc (aG hI.jk.iH.gen)),hI.rxf.ab k (hnc (aG hI.rxf)),hI.wB.ab k (hnc (aG hI.wB)),hI.zg.ab k (hnc (aG hI.zg)),hI.rq.ab k (fun x hx=>hnc (jW hI.rq x hx)),
   O,oc,bk,ek,ro.ab k (hnc (aG ro)),lo.ab k (fun x hx=>hnc (jW lo x hx)),hO,fun i hi=>⟨(hw i hi).1,Ly.ab (hw i hi).2 k (fun x hx=>hnc (jW (hw i hi).2 x hx))⟩⟩
 case agr =>
  intro a x ha;have h0:Au 51 _ { a with defers:=[] }:=⟨ha.size,rfl,ha.get⟩;refine((((h0.put 32 (by decide) _).put 33 (by decide) _).put 12 (by decide) _)).forget (m7 ?_);exact⟨rfl,rfl,rfl,rfl,rfl,trivial⟩
 case assign =>
  intro a ha l x W K hK;have vP:33<a.tmps.size:=by rw[ha.size];decide
  have fR:Array.foldl (fun(t:Array Value) (x:Tmp×Value)=>match x with|(p,v)=>t.setIfInBounds p v) a.tmps (#[32,33].zip (aaL qb 0 e2 x))=(a.tmps.setIfInBounds 32 (.int .i64 (x.1:Int))).setIfInBounds 33 (.slice (some ⟨qb,0+x.1*58,none⟩) ((x.1+1)*58-x.1*58) (e2-x.1*58)):=by
   unfold aaL;simp
  rw[fR];refine wpIn_region_list ?_;unfold wpListIn;rw[if_pos (by rfl)];refine Bd.wpIn (iI l) (aA (v:=.slice (some ⟨qb,0+x.1*58,none⟩) ((x.1+1)*58-x.1*58) (e2-x.1*58)) (w':=W) (by simp) ?_ ?_)
  ·have e:((a.tmps.setIfInBounds 32 (.int .i64 (x.1:Int))).setIfInBounds 33 (.slice (some ⟨qb,0+x.1*58,none⟩) ((x.1+1)*58-x.1*58) (e2-x.1*58))).getD 33 undef=.slice (some ⟨qb,0+x.1*58,none⟩) ((x.1+1)*58-x.1*58) (e2-x.1*58):=by
    rw[Array.getD_eq_getD_getElem?,Array.getElem?_setIfInBounds_self_of_lt (by simpa using vP)];rfl
   exact congrArg (fun v=>Result.ok (Next.value v) W) e
  ·exact hK
 case body =>
  intro l pre x W hI hl;obtain⟨O,oc,bk,ek,ro,lo,hO,hw⟩:=hI.out;have qj:=x.2;have hqg:qb≠g:=by omega
  have rx:AI W (some ⟨qb,0+x.1*58,none⟩) 58 (lS (iT D B) x.1):=fun _=>⟨qb,0+x.1*58,rfl,fun j hj=>by
   obtain⟨b2,o2,e3,hc⟩:=hI.rq.th (by omega)
   cases e3
   have:=hc (x.1*58+j) (by omega);rw[show 0+x.1*58+j=0+(x.1*58+j) by omega];exact this⟩
  have aqC:∀j,iT D B j<256:=pJ hD hB;rw[show(x.1+1)*58-x.1*58=58 by omega];conv=>whnf
  repeat ((first|(refine Ld.row hI.rxf (by decide) ?_)|(refine Ld.row hI.jk.row (by decide) ?_));conv=>whnf)
  refine Ca.of (amR W c g h (e2-x.1*58) (some ⟨qb,0+x.1*58,none⟩) (lS (iT D B) x.1) (fun j=>aqC _) rx (by omega) (fun a e=>by cases e;exact hqg) hI.jk.iH) ?_;rintro v W1 ⟨f1,b1,e1',nR,rfl,wd1⟩;conv=>whnf
  repeat ((first|(refine A7.seq ai (iI l) ?_)|refine Br.f ?_|refine Ru.ak ?_);conv=>whnf)
  have xog:xo≠g:=by omega
  refine Ld.row (ro.ab f1.kp (by simpa using xog)) (by decide) ?_;conv=>whnf
  refine Ru.of (ahq _ _ _ _) ?_;have ka:Aa [] W1 (W1.alloc (.cells #[.slice (some ⟨b1,0,none⟩) 64 e1'] 37)):=(Aa.refl [] _).alloc _;have rn:=afg W1 37 (.slice (some ⟨b1,0,none⟩) 64 e1');generalize hW2:W1.alloc (.cells #[.slice (some ⟨b1,0,none⟩) 64 e1'] 37)=W2 at *;have hOg:∀y,y∈aK O->y∉[g]:=fun y hy e=>by
   have:=hO y hy;rw[List.mem_singleton.1 e] at this;omega
  have lo2:=(lo.ab f1.kp hOg).aj ka;have hWs:=f1.kp.size;obtain⟨i0,hi,lZ,lR,l4⟩:=info_parts akF;conv=>whnf
  refine Bu.append underlying51 hi lZ lR l4 rfl (by omega) lo2 (B:=some ⟨W1.heap.size,0,none⟩) (m:=1) (d:=1) (fun _=>.slice (some ⟨b1,0,none⟩) 64 e1') (by simpa using Rd.dq rn (Nat.le_refl _)) (by omega) (fun e=>by cases e) (fun j hj=>rfl) (by simp only[maxLen];omega) (by omega) ?_;intro O' oc' W3 lo3 k3' da gZ;have ro3:Row W3 xo 51 1 (fun _=>.slice O pre.length oc):=by
   refine Row.ab (Row.ab (ro.ab f1.kp (by simpa using xog)) ka (by simp)) k3' ?_;exact Ly.aL lo2 (Row.ab (ro.ab f1.kp (by simpa using xog)) ka (by simp)) (by decide)
  conv=>whnf
  refine Sd.rowAt ro3 0 (by omega) (by omega) rfl ?_;intro W4 ro4 k4';conv=>whnf
  have hsW:=hI.sz;have kW:=f1.kp;have ar0:=ka.size;have ar1:=k3'.size;have l6:Aa (g::xo::aK O) W W4:=(((kW.mono (by simp)).trans (ka.mono (by simp))).trans (k3'.mono (by intro x hx;simp[hx]))).trans (k4'.mono (by simp));have nS:∀y,y≠g->y≠xo->y<w8.heap.size->y∉g::xo::aK O:=fun y h1 h2 h3 hm=>by
   rcases List.mem_cons.1 hm with e|hm
   ·exact h1 e
   ·rcases List.mem_cons.1 hm with e|hm
    ·exact h2 e
    ·have:=hO y hm;omega
  have fcl:=H.row.lt;have ccl:=H.iH.row.lt;have hcl:=H.iH.gen.lt;have nO:∀y,y<w8.heap.size->y∉aK O:=fun y h1 h2=>by have:=hO y h2;omega
  have rq8:=rq.lt rfl;simp only at rq8;have ahs:Frm W4 f c g h:=((((hI.jk.of f1).aj ka (by simp) (by simp) (by simp) (by simp)).aj k3' (nO f (by omega)) (nO c (by omega)) (nO g (by omega)) (nO h (by omega))).aj k4' (by simp;omega) (by simp;omega) (by simp;omega) (by simp;omega));refine⟨?_,⟨l6.cell (p:=⟨w7.heap.size,0,none⟩) (by simp only;omega) (nS w7.heap.size (by omega) (by omega) (by omega)),l6.cell (p:=⟨w7.heap.size+1,0,none⟩) (by simp only;omega) (nS (w7.heap.size+1) (by omega) (by omega) (by omega))⟩,?_⟩
  ·exact(bz _ kW (fun y hy=>by rw[List.mem_singleton.1 hy];exact FS.cells hI.fk.fs)).trans ((bz _ ka (by simp)).trans ((bz _ k3' (jW lo2)).trans (bz _ k4' (fun y hy=>by rw[List.mem_singleton.1 hy];exact aG ro3))))
  ·refine⟨Nat.le_trans hsW l6.size,⟨ahs.iH.fs,hI.fk.kp.then l6 (fun y hy=>?_)⟩,ahs,hI.rxf.ab l6 (nS xf (by omega) (by omega) (by omega)),hI.wB.ab l6 (nS xr (by omega) (by omega) (by omega)),hI.zg.ab l6 (nS xe (by omega) (by omega) (by omega)),hI.rq.ab l6 (fun y hy=>by rw[List.mem_singleton.1 hy];exact nS qb hqg (by omega) (by omega)),
    O',oc',(fun i=>if i<pre.length then bk i else b1),(fun i=>if i<pre.length then ek i else e1'),?_,?_,?_,?_⟩
   ·rcases List.mem_cons.1 hy with e|hy
    ·exact .inl (by simp[e])
    ·rcases List.mem_cons.1 hy with e|hy
     ·exact .inr (by omega)
     ·exact .inr (by have:=hO y hy;omega)
   ·rw[List.length_append];exact ro4.congr (fun i hi=>by
     obtain rfl:i=0:=by omega
     rfl)
   ·rw[List.length_append];refine(lo3.ab k4' (fun y hy e=>Ly.aL lo3 ro3 (by decide) (by rw[List.mem_singleton.1 e] at hy;exact hy))).congr (fun i hi=>?_);simp only[Nat.mul_one];by_cases hi2:i<pre.length
    ·simp only[if_pos hi2]
    ·simp only[if_neg hi2]
   ·intro y hy;rcases da with e|e
    ·rw[e] at hy;exact hO y hy
    ·rw[e] at hy;rw[List.mem_singleton.1 hy];simp only;omega
   ·intro i hi;rw[List.length_append] at hi;simp only[List.length_singleton] at hi;by_cases hi2:i<pre.length
    ·simp only[if_pos hi2];obtain⟨h1,h2⟩:=hw i hi2;rw[List.getElem_append_left hi2];refine⟨h1,h2.dN l6 (fun hm=>?_)⟩;rcases List.mem_cons.1 hm with e|hm
     ·omega
     ·rcases List.mem_cons.1 hm with e|hm
      ·exact Ly.aL h2 ro (by decide) (by rw[e];exact List.mem_singleton.2 rfl)
      ·exact Ly.gD h2 lo (by decide) (List.mem_singleton.2 rfl) hm
    ·simp only[if_neg hi2];obtain rfl:i=pre.length:=by omega
     have e:(pre++[x])[pre.length]'(by simp)=x:=by simp
     rw[e];have rol:=ro.lt;refine⟨by have:=hI.fk.kp.size;omega,((wd1.dN ka (by simp)).dN k3' (fun hm=>?_)).dN k4' (by simp;omega)⟩;have:=Ly.kR lo hm;omega
 case done =>
  rintro Dn xs W hDn rfl hI hK;obtain⟨O,oc,bk,ek,ro,lo,hO,hw⟩:=hI.out;rw[dF] at ro lo;conv=>whnf
  refine Ld.row ro (by decide) ?_;conv=>whnf
  refine Sd.rowAt hI.wB 0 (by omega) (by omega) rfl ?_;intro W1 rxr1 kA;have amZ:=hI.zg.ab kA (by simp;omega);conv=>whnf
  refine Sd.rowAt amZ 0 (by omega) (by omega) rfl ?_;intro W2 rxe2 kB;have aqD:=rxr1.ab kB (by simp;omega);have nD:Ap W Dn:=⟨_,hK,rfl⟩;have hDl:=(Array.getElem?_eq_some_iff.1 hK).1;have dxr:=nD.ne hI.wB;have hD1:W1.heap[Dn]?=some (.deferred (some [])):=(kA.block Dn hDl (by simpa using dxr.symm)).trans hK;have nD1:Ap W1 Dn:=⟨_,hD1,rfl⟩;have dxe:=nD1.ne amZ;have hDW:W2.heap[Dn]?=some (.deferred (some [])):=(kB.block Dn (Array.getElem?_eq_some_iff.1 hD1).1 (by simpa using dxe.symm)).trans hD1;have nD2:Ap W2 Dn:=⟨_,hDW,rfl⟩;conv=>whnf
  refine⟨W2.putObj Dn (.deferred none),⟨Dn,rfl,hDW,rfl⟩,?_⟩;have kD:Aa [Dn] W2 (W2.putObj Dn (.deferred none)):=gj (grownBy_putObj' W2 Dn _);have aqE:=aqD.ab kD (by simpa using dxr);have aqF:=rxe2.ab kD (by simpa using dxe);have hsW:=hI.sz;have fs:=((hI.fk.fs.ab kA (by simp;omega)).ab kB (by simp;omega)).ab kD (by simp;omega);have kp:=((hI.fk.kp.then kA (fun y hy=>.inr (by rw[List.mem_singleton.1 hy];omega))).then kB (fun y hy=>.inr (by rw[List.mem_singleton.1 hy];omega))).then kD (fun y hy=>.inr (by rw[List.mem_singleton.1 hy];omega));have lo3:=((lo.ab kA (fun y hy e=>by have:=hO y hy;rw[List.mem_singleton.1 e] at this;omega)).ab kB (fun y hy e=>by have:=hO y hy;rw[List.mem_singleton.1 e] at this;omega));have lo4:=lo3.ab kD (nD2.amW lo3);have hw4:∀k,k<4->w.heap.size<=bk k/\Wd (W2.putObj Dn (.deferred none)) (bk k) (ek k) (GF.l5 (lS (iT D B) k)):=fun k hk=>by
   obtain⟨h1,h2⟩:=hw k (by rw[dF];exact hk);rw[aoN k hk] at h2;have a1:=h2.dN kA (fun e=>Ly.aL h2 hI.wB (by decide) (by rw[<-List.mem_singleton.1 e];exact List.mem_singleton.2 rfl));have a2:=a1.dN kB (fun e=>Ly.aL a1 amZ (by decide) (by rw[<-List.mem_singleton.1 e];exact List.mem_singleton.2 rfl));exact⟨h1,Ly.ab a2 kD (nD2.amW a2)⟩
  generalize W2.putObj Dn (.deferred none)=W3 at *;conv=>whnf
  refine Ru.ldc (by decide +kernel) (aqE.cell 0 (by omega)) ?_;conv=>whnf
  refine Ru.ldc (by decide +kernel) (aqF.cell 0 (by omega)) ?_;conv=>whnf
  exact⟨rfl,⟨fs,kp⟩,O,oc,bk,ek,rfl,lo4,hw4⟩
end
end Go.Proofs.YtaeikigfgfcadaaGreat
