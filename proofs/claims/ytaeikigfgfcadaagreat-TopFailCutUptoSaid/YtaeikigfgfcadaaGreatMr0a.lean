/- Texts behind one another: E, TT, Base, Slice, Ly, Copy, Agg, Q, H, K, Err, KE, Chip, Chip0, Atom, Nand, Seal0, FMath, FBits, Field. -/
import Derived.Test.YtaeikigfgfcadaaGreatRows
import Derived.WalkKit
import Derived.Scope
import Derived.Deep.Quiet
import Derived.KernelRfl
import Derived.WalkSpells
import Derived.WalkLawsBesides
import Derived.Lib.Hide
import Derived.BigQuiet
import Derived.Deep.QuietTactic
import Derived.Deep.CutBlock
import Derived.Deep.DeepCutAuto
import Derived.RegionTactic
import Derived.ChangeAlike
import Derived.ProofKit
import Derived.OpenShut
import Derived.ShutString
import Derived.ChangeOld
import Derived.SizedLaws
import Derived.ChangeSlices
import Derived.Maps.AppendAt
import Derived.Deep.AppendLies
import Derived.Deep.OwnRows
import Derived.Laws.CopyRow
import Derived.Lib.BufferWrite
import Derived.Laws.Rows
import Derived.Laws.StructEq
import Derived.Laws.Tables
import Derived.WideLaws
import Derived.Deep.RegionLaw
import Derived.StillTactics
import Derived.Laws.ResultCell
import Derived.OrdersHeld
import Derived.LaidEql
import Derived.Tactics
import Derived.Tactics2
import Derived.Laws.Pointers
import Derived.Laws.LoneSync
import Derived.RegionCalls
import Derived.Lib.SlBytesConst
import Derived.Lib.SliceRun
import Derived.Laws.BytesArg
namespace Go.Proofs.YtaeikigfgfcadaaGreat
open Go.Proofs.Tryz
set_option maxHeartbeats 2000000
set_option maxRecDepth 20000
set_option linter.unusedVariables false
set_option linter.unusedSimpArgs false
set_option linter.unnecessarySimpa false
section
abbrev Fr:=List (Nat×Value)
def qp:Fr->Nat->Option Value
 | [],_=>none
 |(i,v)::l,d=>cond (Nat.beq i d) (some v) (qp l d)
def lk:Fr->Nat->(Value->Prop)->Prop
 | [],_,_=>False
 |(i,v)::l,d,K=>cond (Nat.beq i d) (K v) (lk l d K)
theorem kN{K:Value->Prop}{d:Nat}:∀ {f:Fr},lk f d K->∃v,qp f d=some v/\K v
 | [],h=>h.elim
 | (i,v)::l,h=>by
  unfold lk at h;unfold qp
  cases hb:Nat.beq i d with
  |true=>rw[hb] at h;exact⟨v,rfl,h⟩
  |false=>rw[hb] at h;exact kN h
structure Au(n:Nat)(f:Fr)(a:Act)(ds:List Deferred:=[]):Prop where
 size:a.tmps.size=n
 defers:a.defers=ds
 get:∀d v,qp f d=some v->a.tmps.getD d undef=v
theorem Au.put{ds:List Deferred}{n:Nat}{f:Fr}{a:Act}(h:Au n f a ds)(d:Nat)(hd:d<n)(v:Value):Au n ((d,v)::f) (a.put (some d) v) ds:=by
 refine⟨by simp[Act.put,h.size],by simp[Act.put,h.defers],fun e u he=>?_⟩;unfold qp at he;have hs:d<a.tmps.size:=by rw[h.size];exact hd
 cases hb:Nat.beq d e with
 | true =>
  rw[hb] at he;obtain rfl:d=e:=Nat.eq_of_beq_eq_true hb;injection he with he;subst he;simp[Act.put,Array.getD,hs]
 | false =>
  rw[hb] at he;have cn:d≠e:=fun e=>by rw[e] at hb;simp at hb
  have h1:=h.get e u he;unfold Act.put;simp only[Array.getD,Array.size_setIfInBounds] at h1 ⊢;split
  ·rename_i h2
   rw[dif_pos h2] at h1;rw[<-h1];simp only[Array.getInternal_eq_getElem];exact Array.getElem_setIfInBounds_ne (by simpa using h2) cn
  ·rename_i h2
   rwa [dif_neg h2] at h1
theorem Au.forget{ds:List Deferred}{n:Nat}{f f':Fr}{a:Act}(h:Au n f a ds)(k:∀d v,qp f' d=some v->qp f d=some v):Au n f' a ds:=⟨h.size,h.defers,fun d v hd=>h.get d v (k d v hd)⟩
inductive B9 where
 |int (k:IntKind)
 |bool
 |ptr (e:TypeId)
 |sl (e:TypeId) (sz:Nat)
 |arr (len:Nat) (e:TypeId) (sz:Nat)
 |st (sb:List (Option Nat))
 |ifc
 |other
 |agg
def kO(P:Program)(t:TypeId)(n:Nat):Bool:=match P.info? t with
 |some i=>i.size == n
 |none=>false
def agm(P:Program)(t:TypeId):Bool:=match P.info? t with
 |some i => !(i.size == 0)
 |none=>false
def dV(P:Program)(t:TypeId):Bool:=kO P t 1&&(match P.underlying t with|some (.struct _)=>false|some (.array _ _)=>false|some _=>true|none=>false)
def kP(P:Program)(t:TypeId):B9->Bool
 |.int k=>(match P.underlying t with|some (.int k')=>decide (k'=k)|_=>false)&&dV P t
 |.bool=>(match P.underlying t with|some .bool=>true|_=>false)&&dV P t
 |.ptr e=>(match P.underlying t with|some (.pointer e')=>e' == e|_=>false)&&dV P t
 |.sl e n=>(match P.underlying t with|some (.slice e')=>e' == e&&kO P e n|_=>false)&&dV P t
 |.arr l e n=>(match P.underlying t with|some (.array l' e')=>l' == l&&e' == e&&kO P e n|_=>false)
 |.st sb=>(match P.underlying t with|some (.struct fs)=>fs.toList.map (fun f=>if agm P f.type then some f.offset else none) == sb|_=>false)
 |.ifc=>(match P.underlying t with|some (.interface _)=>true|_=>false)&&dV P t
 |.other=>(match P.underlying t with|some (.interface _)=>false|some _=>true|none=>false)&&dV P t
 |.agg=>(match P.underlying t with|some (.interface _)=>false|some _=>true|none=>false)
def B9.cell:B9->Bool
 |.st _=>false
 |.arr .. => false
 |.agg=>false
 |_=>true
def ik:IntKind->Nat
 |.i8=>0 | .i16=>1 | .i32=>2 | .i64=>3 | .u8=>4 | .u16=>5 | .u32=>6 | .u64=>7
theorem aog{a b:IntKind}(h:Nat.beq (ik a) (ik b)=true):a=b:=by cases a<;>cases b<;>first|rfl|cases h
abbrev TT:=List (Nat×B9)
def TT.ok(P:Program):TT->Bool
 | []=>true
 |(t,d)::l=>kP P t d&&TT.ok P l
def wP:TT->Nat->(B9->Prop)->Prop
 | [],_,_=>False
 |(i,v)::l,d,K=>cond (Nat.beq i d) (K v) (wP l d K)
theorem bt{P:Program}{K:B9->Prop}{t:Nat}:∀ {T:TT},TT.ok P T=true->wP T t K->∃d,kP P t d=true/\K d
 | [],_,h=>h.elim
 | (i,v)::l,ho,h=>by
  unfold wP at h;unfold TT.ok at ho;simp only[Bool.and_eq_true] at ho
  cases hb:Nat.beq i t with
  |true=>rw[hb] at h;obtain rfl:=Nat.eq_of_beq_eq_true hb;exact⟨v,ho.1,h⟩
  |false=>rw[hb] at h;exact bt ho.2 h
structure Ru{α:Type}(P:Program)(s:Sem α)(w:World)(K:α->World->Prop):Prop where
 ex:∃v w',s.run P w=.ok v w'/\K v w'
structure Br(b:Bool)(A B:Prop):Prop where
 tt:b=true->A
 ff:b=false->B
structure Ar(k:IntKind)(x:Int)(K:Value->Prop):Prop where
 go:K (.int k (k.wrap x))
structure Ix(i:Int)(len:Nat)(K:Nat->Prop):Prop where
 ex:∃k:Nat,i=(k:Int)/\k<len/\K k
structure Ld(w:World)(a:Addr)(K:Value->Prop):Prop where
 ex:∃v,w.cell? a=some v/\K v
structure Sd(w:World)(a:Addr)(v:Value)(K:World->Prop):Prop where
 there:∃u,w.cell? a=some u
 free:w.frozen? a=false
 one:v.oneCell'=true
 go:K (w.setCell a v)
structure Dv(op:BinOp)(k:IntKind)(a b:Int)(K:Value->Prop):Prop where
 ne:b≠0
 go:K (.int k (match op with | .quo=>k.wrap (a.tdiv b)|_=>a.tmod b))
structure Sh(op:BinOp)(k:IntKind)(a b:Int)(K:Value->Prop):Prop where
 nn:0<=b
 go:K (.int k (match op with | .shl=>k.wrap (a*2^(min b.toNat k.bits))|_=>a.fdiv (2^(min b.toNat k.bits))))
structure Pk(t:Bool)(x y:Value)(K:Value->Prop):Prop where
 go:K (if t then x else y)
def ab1(P:Program)(f:FuncId):Bool:=match P.funcs[f]? with
 |some fn => !(fn.name == "runtime.NumGoroutine") && fn.body.isSome
 |none=>false
def Spec(P:Program)(f:FuncId)(args:Array Value)(w:World)(Φ:Value->World->Prop):Prop:=ab1 P f=true/\Calls P f args w fun e w'=>∃v,e=.returned v/\Φ v w'
structure Ca(P:Program)(f:FuncId)(args:Array Value)(w:World)(K:Value->World->Prop):Prop where
 go:Spec P f args w K
structure Bu(P:Program)(b:Builtin)(argTypes:Array TypeId)(type:TypeId)(consts:Array Bool)(args:Array Value)(w:World)(K:Value->World->Prop):Prop where
 ex:∃v w',(builtin b argTypes type consts args).run P w=.ok (.value v) w'/\K v w'
def fx(f:Fr):Operand->(Value->Prop)->Prop
 |.tmp t,K=>lk f t K
 |.const v,K=>K v
 |.global g,K=>K (.pointer (some ⟨g,0,none⟩))
 |.func g,K=>K (.func (.func g) #[] #[])
def wc(f:Fr):List Operand->(List Value->Prop)->Prop
 | [],K=>K []
 |x::l,K=>fx f x fun v=>wc f l fun vs=>K (v::vs)
def agn(f:Fr):List (Nat×Operand)->(List (Nat×Value)->Prop)->Prop
 | [],K=>K []
 |(i,x)::l,K=>fx f x fun v=>agn f l fun vs=>K ((i,v)::vs)
def aac(f:Fr):Option Operand->(Option Value->Prop)->Prop
 |none,K=>K none
 |some x,K=>fx f x fun v=>K (some v)
def aeN:List Value->List Value->(List Value->Prop)->Prop
 | [],ys,K=>K ys
 |x::xs,ys,K=>aeN xs ys fun zs=>K (x::zs)
theorem mn:∀ {xs ys:List Value} {K:List Value->Prop},aeN xs ys K->K (xs++ys)
 | [],ys,K,h=>h
 |x::xs,ys,K,h=>mn (xs:=xs) (K:=fun zs=>K (x::zs)) h
def ta{α:Type}:List α->Nat->(α->Prop)->Prop
 | [],_,_=>False
 |x::l,0,K=>K x
 |x::l,n+1,K=>ta l n K
theorem cv{α:Type}{K:α->Prop}:∀ {l:List α} {n:Nat},ta l n K->∃x,l[n]?=some x/\K x
 | [],_,h=>h.elim
 |x::l,0,h=>⟨x,rfl,h⟩
 | x::l,n+1,h=>by
  obtain⟨y,h1,h2⟩:=cv (l:=l) (n:=n) h;exact⟨y,by simpa using h1,h2⟩
def aeO(k sz:Nat)(K:Nat->Prop):Prop:=cond (Nat.beq sz 1) (K k) (K (k*sz))
theorem jL{k sz:Nat}{K:Nat->Prop}(h:aeO k sz K):K (k*sz):=by
 unfold aeO at h
 cases hb:Nat.beq sz 1 with
 |true=>rw[hb] at h;rw[Nat.eq_of_beq_eq_true hb,Nat.mul_one];exact h
 |false=>rw[hb] at h;exact h
def fV(op:BinOp)(k:IntKind)(x y:Int):Int :=
 let a:=BitVec.ofInt k.bits x;let b:=BitVec.ofInt k.bits y
 k.wrap ((match op with | .and=>a &&& b | .or=>a ||| b | .xor=>a ^^^ b|_=>a &&& ~~~b).toNat:Int)
def amg(P:Program)(op:BinOp)(xt:TypeId)(x y:Operand)(vx vy:Value)(w:World)(K:Value->World->Prop):Prop :=
 match vx,vy with
 | .int k a,.int k' b=>(match op with
  |.add=>cond (Nat.beq (ik k') (ik k)) (Ar k (a+b) fun v=>K v w) False
  |.sub=>cond (Nat.beq (ik k') (ik k)) (Ar k (a-b) fun v=>K v w) False
  |.mul=>cond (Nat.beq (ik k') (ik k)) (Ar k (a*b) fun v=>K v w) False
  |.quo=>cond (Nat.beq (ik k') (ik k)) (Dv .quo k a b fun v=>K v w) False
  |.rem=>cond (Nat.beq (ik k') (ik k)) (Dv .rem k a b fun v=>K v w) False
  |.and=>cond (Nat.beq (ik k') (ik k)) (K (.int k (fV .and k a b)) w) False
  |.or=>cond (Nat.beq (ik k') (ik k)) (K (.int k (fV .or k a b)) w) False
  |.xor=>cond (Nat.beq (ik k') (ik k)) (K (.int k (fV .xor k a b)) w) False
  |.andNot=>cond (Nat.beq (ik k') (ik k)) (K (.int k (fV .andNot k a b)) w) False
  |.shl=>Sh .shl k a b fun v=>K v w
  |.shr=>Sh .shr k a b fun v=>K v w
  |.eql=>cond (Nat.beq (ik k') (ik k)) (K (.bool (decide (a=b))) w) False
  |.neq=>cond (Nat.beq (ik k') (ik k)) (K (.bool (!decide (a=b))) w) False
  |.lss=>cond (Nat.beq (ik k') (ik k)) (K (.bool (decide (a<b))) w) False
  |.leq=>cond (Nat.beq (ik k') (ik k)) (K (.bool (decide (a<=b))) w) False
  |.gtr=>cond (Nat.beq (ik k') (ik k)) (K (.bool (decide (a > b))) w) False
  |.geq=>cond (Nat.beq (ik k') (ik k)) (K (.bool (decide (a≥b))) w) False)
 |vx,vy=>Ru P (do eqGuard op xt x y vx vy;binOp op xt vx vy) w K
def se(P:Program)(T:TT)(o:Oper)(f:Fr)(w:World)(K:Value->World->Prop):Prop :=
 match o.op with
 |.move x=>fx f x fun v=>K v w
 |.assign x=>fx f x fun v=>K v w
 |.pick c a b=>fx f c fun vc=>fx f a fun va=>fx f b fun vb=>(match vc with | .bool t=>Pk t va vb fun v=>K v w|_=>False)
 | .binOp op xt x y _=>fx f x fun vx=>fx f y fun vy=>wP T xt fun d=>(match d with
  |.int _=>amg P op xt x y vx vy w K
  |_=>Ru P (do eqGuard op xt x y vx vy;binOp op xt vx vy) w K)
 | .unOp op _ x=>fx f x fun vx=>(match op,vx with
  |.not,.bool b=>K (.bool (!b)) w
  |.neg,.int k n=>Ar k (0-n) fun v=>K v w
  |op,vx=>Ru P (Op.unary op vx) w K)
 | .convert src dst x=>fx f x fun vx=>wP T src fun _=>wP T dst fun d=>(match d,vx with
  |.int k,.int _ n=>Ar k n fun v=>K v w
  |_,vx=>Ru P (convert src dst vx) w K)
 |.makeInterface t x=>fx f x fun vx=>wP T t fun d=>(match d with | .ifc=>False|_=>K (.iface t vx) w)
 |.extract x i=>fx f x fun vx=>(match vx with | .tuple vs=>ta vs.toList i fun v=>K v w|_=>False)
 |.nilCheck x=>fx f x fun vx=>(match vx with | .pointer (some a)=>K (.pointer (some a)) w|_=>False)
 | .fieldAddr s x i=>fx f x fun vx=>wP T s fun d=>(match d,vx with
  |.st sb,.pointer (some ⟨g,o,none⟩)=>ta sb i fun m=>(match m with|some n=>K (.pointer (some ⟨g,o+n,none⟩)) w|none=>False)
  |_,_=>False)
 | .indexAddr t x i=>fx f x fun vx=>fx f i fun vi=>wP T t fun d=>(match d,vx,vi with
  |.arr len _ sz,.pointer (some ⟨g,o,none⟩),.int _ i=>Ix i len fun k=>aeO k sz fun m=>K (.pointer (some ⟨g,o+m,none⟩)) w
  |.sl _ sz,.slice (some ⟨g,o,none⟩) len _,.int _ i=>Ix i len fun k=>aeO k sz fun m=>K (.pointer (some ⟨g,o+m,none⟩)) w
  |_,_,_=>False)
 |.index t x i=>fx f x fun vx=>fx f i fun vi=>Ru P (Instr.index t vx vi) w K
 |.field t x i=>fx f x fun vx=>Ru P (Instr.field t vx i) w K
 |.load t x=>fx f x fun vx=>wP T t fun d=>(match vx with | .pointer (some a)=>cond d.cell (Ld w a fun v=>K v w) (Ru P (loadVar t a) w K)|_=>False)
 |.store t x y=>fx f x fun vx=>fx f y fun vy=>wP T t fun d=>(match vx with | .pointer (some a)=>cond d.cell (Sd w a vy fun w'=>K undef w') (Ru P (storeVar t a vy) w fun _ w'=>K undef w')|_=>False)
 |.alloc t=>Ru P (Instr.alloc t true (.tuple #[])) w K
 |.box t x=>fx f x fun vx=>Ru P (Instr.box t vx) w K
 |.build t parts=>agn f parts.toList fun l=>Ru P (Instr.build t l.toArray) w K
 |.buildSlice t len parts=>agn f parts.toList fun l=>Ru P (Instr.buildSlice t len l.toArray) w K
 |.slice t x lo hi mx=>fx f x fun vx=>aac f lo fun vl=>aac f hi fun vh=>aac f mx fun vm=>Ru P (Instr.sliceAt t vx vl vh vm) w K
 |.makeSlice t l c=>fx f l fun vl=>fx f c fun vc=>Ru P (Instr.makeSlice t vl vc) w K
 |.makeFunc fn a b=>wc f a.toList fun va=>wc f b.toList fun vb=>K (.func fn va.toArray vb.toArray) w
 |.makeMap t r=>aac f r fun vr=>Ru P (Instr.makeMap t vr) w K
 |.lookup t x i ok=>fx f x fun vx=>fx f i fun vi=>Ru P (Instr.lookup t vx vi ok) w K
 |.mapUpdate t m k x=>fx f m fun vm=>fx f k fun vk=>fx f x fun vx=>Ru P (Instr.mapUpdate t vm vk vx) w fun _ w'=>K undef w'
 | .call c=>(match c.callee with
  | .value g=>fx f g fun vg=>wc f c.args.toList fun vs=>(match vg with
   |.func (.func fid) first cap=>aeN first.toList vs fun l1=>aeN l1 cap.toList fun l2=>Ca P fid l2.toArray w K
   |_=>False)
  | .builtin b=>wc f c.args.toList fun vs=>(match b,vs with
   |.len,[.slice A n m]=>ta c.argTypes.toList 0 fun t=>wP T t fun d=>(match d with | .sl _ _=>K (.int .i64 (n:Int)) w|_=>False)
   |.max,[.int k a,.int _ b]=>K (.int k (max a b)) w
   |.min,[.int k a,.int _ b]=>K (.int k (min a b)) w
   |b,vs=>Bu P b c.argTypes o.type (c.args.map fun | .const _=>true|_=>false) vs.toArray w K)
  |.invoke _ _=>False)
 |_=>False
def pt(n:Nat)(f:Fr)(d:Option Tmp)(v:Value)(K:Fr->Prop):Prop :=
 match d with
 |none=>K f
 |some d=>cond (Nat.ble n d) False (K ((d,v)::f))
def ago(ops:List Oper)(j:Nat)(K:Tmp->Prop):Prop:=ta ops j fun o=>(match o.dst with|some t=>K t|none=>False)
def iN(P:Program)(T:TT)(n:Nat)(ops:List Oper)(l:List Oper):Fr->World->(Fr->World->Prop)->Prop :=
 List.rec (motive:=fun _=>Fr->World->(Fr->World->Prop)->Prop) (fun f w K=>K f w)
  (fun o _ ih f w K=>match o.guard with
   |none=>se P T o f w fun v w'=>pt n f o.dst v fun f'=>ih f' w' K
   | some (j,b)=>ago ops j fun t=>lk f t fun vg=>(match vg with
    | .bool g=>(match b with
     | true=>Br g (cond (Nat.ble n t) False (se P T o ((t,.bool true)::f) w fun v w'=>pt n ((t,.bool true)::f) o.dst v fun f'=>ih f' w' K))
      (cond (Nat.ble n t) False (pt n ((t,.bool false)::f) o.dst undef fun f'=>ih f' w K))
     | false=>Br g (cond (Nat.ble n t) False (pt n ((t,.bool true)::f) o.dst undef fun f'=>ih f' w K))
      (cond (Nat.ble n t) False (se P T o ((t,.bool false)::f) w fun v w'=>pt n ((t,.bool false)::f) o.dst v fun f'=>ih f' w' K)))
    |.tuple _=>pt n f o.dst undef fun f'=>ih f' w K
    |_=>False)) l
theorem tb(P:Program)(T:TT)(n:Nat)(ops:List Oper)(o:Oper)(l:List Oper)(f:Fr)(w:World)(K:Fr->World->Prop):iN P T n ops (o::l) f w K=(match o.guard with
   |none=>se P T o f w fun v w'=>pt n f o.dst v fun f'=>iN P T n ops l f' w' K
   | some (j,b)=>ago ops j fun t=>lk f t fun vg=>(match vg with
    | .bool g=>(match b with
     | true=>Br g (cond (Nat.ble n t) False (se P T o ((t,.bool true)::f) w fun v w'=>pt n ((t,.bool true)::f) o.dst v fun f'=>iN P T n ops l f' w' K))
      (cond (Nat.ble n t) False (pt n ((t,.bool false)::f) o.dst undef fun f'=>iN P T n ops l f' w K))
     | false=>Br g (cond (Nat.ble n t) False (pt n ((t,.bool true)::f) o.dst undef fun f'=>iN P T n ops l f' w K))
      (cond (Nat.ble n t) False (se P T o ((t,.bool false)::f) w fun v w'=>pt n ((t,.bool false)::f) o.dst v fun f'=>iN P T n ops l f' w' K)))
    |.tuple _=>pt n f o.dst undef fun f'=>iN P T n ops l f' w K
    |_=>False)):=rfl
def adG:Exit->Prop
 |.panic _=>False
 |_=>True
def QA(n:Nat)(Q:Exit->Fr->World->Prop):Exit->Act->World->Prop:=fun e a w=>adG e/\∃f,Au n f a/\Q e f w
structure CW(P:Program)(n:Nat)(c:Code)(Q:Exit->Fr->World->Prop)(f:Fr)(w:World):Prop where
 go:∀a,Au n f a->Code.wp P c (QA n Q) a w
def rH:Code->Bool
 |.cond .. => true
 |.block .. => true
 |.seq _ b=>rH b
 |.scope c=>rH c
 |_=>false
def wpE(P:Program)(T:TT)(n:Nat)(c:Code):Fr->World->(Exit->Fr->World->Prop)->Prop :=
 Code.rec (motive:=fun _=>Fr->World->(Exit->Fr->World->Prop)->Prop)
  (fun f w Q=>Q .normal f w)
  (fun id ops d f w Q=>match d with
   |false=>iN P T n ops.toList ops.toList f w fun f w=>Q .normal f w
   |true=>CW P n (.region id ops true) Q f w)
  (fun a b iha ihb f w Q=>cond (rH a) (CW P n (.seq a b) Q f w) (iha f w fun e f w=>(match e with
    |.normal=>ihb f w Q
    |e=>Q e f w)))
  (fun c _ _ iha ihb f w Q=>fx f c fun v=>(match v with
   |.bool t=>Br t (iha f w Q) (ihb f w Q)
   |_=>False))
  (fun id _ ih f w Q=>ih f w fun e f w=>(match e with
   |.exit i=>cond (Nat.beq i id) (Q .normal f w) (Q (.exit i) f w)
   |e=>Q e f w))
  (fun c _ f w Q=>CW P n (.loop c) Q f w)
  (fun _ _ _ _ _ _ _ _ _=>False)
  (fun id f w Q=>Q (.exit id) f w)
  (fun _ ih f w Q=>ih f w fun e f w=>(match e with
   |.goto _=>False
   |e=>Q e f w))
  (fun _ f w Q=>Q .normal f w)
  (fun _ _ _ _=>False)
  (fun f w Q=>Q .ret f w)
  (fun _ _ _ _=>False) c
theorem ajZ(P:Program)(T:TT)(n:Nat)(x y:Code)(f:Fr)(w:World)(Q:Exit->Fr->World->Prop):wpE P T n (.seq x y) f w Q=cond (rH x) (CW P n (.seq x y) Q f w) (wpE P T n x f w fun e f w=>(match e with
    |.normal=>wpE P T n y f w Q
    |e=>Q e f w)):=rfl
section sound
variable{P:Program}{T:TT}{n:Nat}
theorem ao{ds:List Deferred}{f:Fr}{x:Operand}{K:Value->Prop}{a:Act}(h:fx f x K)(ha:Au n f a ds):K (a.eval x):=by
 cases x with
 | tmp t =>
  obtain⟨v,h1,h2⟩:=kN h;have:=ha.get t v h1;simp only[Act.eval,this];exact h2
 |const v=>exact h
 |global g=>exact h
 |func g=>exact h
theorem bR{ds:List Deferred}{f:Fr}{a:Act}(ha:Au n f a ds):∀ {l:List Operand} {K:List Value->Prop},wc f l K->K (l.map a.eval)
 | [],K,h=>h
 | x::l,K,h=>by
  have h1:=ao h ha;exact bR ha (K:=fun vs=>K (a.eval x::vs)) h1
theorem iO{ds:List Deferred}{f:Fr}{a:Act}(ha:Au n f a ds):∀ {l:List (Nat×Operand)} {K:List (Nat×Value)->Prop},agn f l K->K (l.map fun p=>(p.1,a.eval p.2))
 | [],K,h=>h
 | (i,x)::l,K,h=>by
  have h1:=ao h ha;exact iO ha (K:=fun vs=>K ((i,a.eval x)::vs)) h1
theorem dk{ds:List Deferred}{f:Fr}{a:Act}(ha:Au n f a ds){x:Option Operand}{K:Option Value->Prop}(h:aac f x K):K (x.map a.eval):=by
 cases x with
 |none=>exact h
 |some x=>exact ao (K:=fun v=>K (some v)) h ha
def Bd(P:Program)(o:Oper)(a:Act)(w:World)(N:Act->World->Prop):Prop :=
 (∀c,o.op≠.defer c)/\((∃v w',(execOp a.eval o).run P w=.ok (.value v) w'/\N (a.put o.dst v) w')\/(∃w',(execOp a.eval o).run P w=.ok .skip w'/\N (a.put o.dst undef) w') \/
  (∃f args w1,(execOp a.eval o).run P w=.ok (.enter f args) w1/\Calls P f args w1 fun e w'=>∃v,e=.returned v/\N (a.put o.dst v) w'))
theorem Bd.wp{o:Oper}{a:Act}{w:World}{N:Act->World->Prop}{Q':Exit->Act->World->Prop}(h:Bd P o a w N):o.wp P a w N Q':=by
 rcases h with⟨-,⟨v,w',h,hn⟩|⟨w',h,hn⟩|⟨f,args,w1,h,hc⟩⟩
 ·unfold Oper.wp;rw[h];exact hn
 ·unfold Oper.wp;rw[h];exact hn
 ·unfold Oper.wp;rw[h,Oper.upon_enter];exact hc.mono fun e w' ⟨v,he,hk⟩=>by subst he;exact hk
theorem aA{o:Oper}{a:Act}{N:Act->World->Prop}{w w':World}{v:Value}(hd:∀c,o.op≠.defer c)(h:(execOp a.eval o).run P w=.ok (.value v) w')(hn:N (a.put o.dst v) w'):Bd P o a w N:=⟨hd,.inl ⟨v,w',h,hn⟩⟩
theorem tc{o:Oper}{a:Act}{N:Act->World->Prop}{w w':World}(hd:∀c,o.op≠.defer c)(h:(execOp a.eval o).run P w=.ok .skip w')(hn:N (a.put o.dst undef) w'):Bd P o a w N:=⟨hd,.inr (.inl ⟨w',h,hn⟩)⟩
theorem qq{t:TypeId}{k:IntKind}(h:kP P t (.int k)=true):P.underlying t=some (.int k):=by
 simp only[kP,Bool.and_eq_true] at h;obtain⟨h,_⟩:=h;split at h
 ·rename_i e;rw[e,of_decide_eq_true h]
 ·cases h
theorem qs{t:TypeId}{d:B9}(h:kP P t d=true):∃u,P.underlying t=some u:=by
 cases hu:P.underlying t with
 |some u=>exact⟨u,rfl⟩
 |none=>cases d<;>simp[kP,hu] at h
theorem qt{t:TypeId}{d:B9}(h:kP P t d=true)(hd:d≠.ifc):∃u,P.underlying t=some u/\∀ms,u≠.interface ms:=by
 cases hu:P.underlying t with
 |none=>cases d<;>simp[kP,hu] at h
 | some u =>
  refine⟨u,rfl,fun ms e=>?_⟩;subst e
  cases d<;>simp[kP,hu] at h hd
theorem dp{t:TypeId}{m:Nat}(h:kO P t m=true)(w:World):(sizeOf t).run P w=.ok m w:=by
 unfold kO at h;split at h
 ·rename_i i hi
  simp only[beq_iff_eq] at h;simp[sizeOf,typeInfo,hi,h]
 ·cases h
theorem aad{t:TypeId}(h:agm P t=true)(w:World):∃m,m≠0/\(sizeOf t).run P w=.ok m w:=by
 unfold agm at h;split at h
 ·rename_i i hi
  simp only[Bool.not_eq_true',beq_eq_false_iff_ne] at h;exact⟨i.size,h,by simp[sizeOf,typeInfo,hi]⟩
 ·cases h
theorem gI(g o k:Nat):(⟨g,o,none⟩:Addr).add k=⟨g,o+k,none⟩:=by
 unfold Addr.add;by_cases hk:k=0<;>simp[hk]
theorem mq{s:TypeId}{sb:List (Option Nat)}(h:kP P s (.st sb)=true)(i m g o:Nat)(hm:sb[i]?=some (some m))(w:World):(Instr.fieldAt s (.pointer (some ⟨g,o,none⟩)) i).run P w=.ok (.pointer (some ⟨g,o+m,none⟩)) w:=by
 simp only[kP] at h;split at h
 ·rename_i fs hu
  simp only[beq_iff_eq] at h;rw[<-h] at hm;simp only[List.getElem?_map,Option.map_eq_some_iff] at hm;obtain⟨fd,hf,hm⟩:=hm;have gY:fs[i]?=some fd:=by simpa using hf
  split at hm
  case isFalse=>cases hm
  rename_i ab2
  injection hm with hm;subst hm;obtain⟨z,hz,hs⟩:=aad ab2 w;simp only[Instr.fieldAt,Sem.run_bind,run_underlying hu,Result.andThen_ok,gY,Instr.sureAddr,Sem.run_pure,fieldPlace,hs,if_neg hz,gI]
 ·cases h
theorem mr{t e:TypeId}{len sz:Nat}(h:kP P t (.arr len e sz)=true)(g o k:Nat)(kk:IntKind)(hk:k<len)(w:World):(Instr.indexAt t (.pointer (some ⟨g,o,none⟩)) (.int kk (k:Int))).run P w=.ok (.pointer (some ⟨g,o+k*sz,none⟩)) w:=by
 simp only[kP] at h;split at h
 ·rename_i l' e' hu
  simp only[Bool.and_eq_true,beq_iff_eq] at h;obtain⟨⟨rfl,rfl⟩,hs⟩:=h;have h2:(0:Int)<=(k:Int)/\(k:Int)<l':=by omega
  simp only[Instr.indexAt,asIntOf,Sem.run_bind,Sem.run_pure,Result.andThen_ok,run_underlying hu,Instr.sureAddr];by_cases ht:l'<=1
  ·simp[ht,run_underlying hu,h2,dp hs,gI]
  ·simp[ht,h2,dp hs,gI]
 ·cases h
theorem oD{t e:TypeId}{sz:Nat}(h:kP P t (.sl e sz)=true)(g o k len cap:Nat)(kk:IntKind)(hk:k<len)(w:World):(Instr.indexAt t (.slice (some ⟨g,o,none⟩) len cap) (.int kk (k:Int))).run P w=.ok (.pointer (some ⟨g,o+k*sz,none⟩)) w:=by
 unfold kP at h;rw[Bool.and_eq_true] at h;obtain⟨h,_⟩:=h;split at h
 ·rename_i e' hu
  simp only[Bool.and_eq_true,beq_iff_eq] at h;obtain⟨rfl,hs⟩:=h;have h2:(0:Int)<=(k:Int)/\(k:Int)<len:=by omega
  simp only[Instr.indexAt,asIntOf,Sem.run_bind,Sem.run_pure,Result.andThen_ok,run_underlying hu];by_cases ht:len<=1
  ·simp[ht,run_underlying hu,h2,dp hs,gI]
  ·simp[ht,h2,dp hs,gI]
 ·cases h
theorem fq{α β:Type}(g:α->β)(x:Array α):(x.toList.map g).toArray=x.map g:=by
 apply Array.ext';simp
theorem aY{k k':IntKind}{A:Prop}(h:cond (Nat.beq (ik k') (ik k)) A False):k'=k/\A:=by
 cases hb:Nat.beq (ik k') (ik k) with
 |true=>rw[hb] at h;exact⟨aog hb,h⟩
 |false=>rw[hb] at h;exact h.elim
theorem wQ(op:BinOp)(xt:TypeId)(x y:Operand)(k k':IntKind)(a b:Int)(w:World):(eqGuard op xt x y (.int k a) (.int k' b)).run P w=.ok () w:=by
 simp[go_sem]
theorem sB{t:TypeId}{d:B9}(h:kP P t d=true)(hc:d.cell=true):dV P t=true:=by
 cases d<;>simp_all [kP,B9.cell]
theorem oE{t:TypeId}(h:dV P t=true)(w:World):(isAgg t).run P w=.ok false w:=by
 simp only[dV,Bool.and_eq_true] at h;obtain⟨_,h⟩:=h;split at h
 ·cases h
 ·cases h
 ·rename_i u h1 h2 hu
  unfold isAgg;rw[Sem.run_bind,run_underlying hu w,Result.andThen_ok]
  cases u<;>first|rfl|exact absurd rfl (h1 _ )|exact absurd rfl (h2 _ _)
 ·cases h
theorem pc{t:TypeId}(h:dV P t=true){w:World}{a:Addr}{v:Value}(hv:w.cell? a=some v):(loadVar t a).run P w=.ok v w:=by
 unfold loadVar;rw[Sem.run_bind,oE h w,Result.andThen_ok];simp[load,Sem.run,hv]
theorem aeP{t:TypeId}(h:dV P t=true){w:World}{a:Addr}{u v:Value}(hu:w.cell? a=some u)(hf:w.frozen? a=false)(h1:v.oneCell'=true):(storeVar t a v).run P w=.ok () (w.setCell a v):=by
 have hs:=dp (P:=P) (t:=t) (m:=1) (by simp only[dV,Bool.and_eq_true] at h;exact h.1) w;have hc:v.cells = #[v]:=by cases v<;>first|rfl|cases h1
 unfold storeVar;rw[hc,Sem.run_bind,hs,Result.andThen_ok];have h0:a.add 0=a:=rfl;have h3:(store a v).run P w=.ok () (w.setCell a v):=by
  unfold store
  cases v<;>first|(simp[Sem.run,hu,hf];done)|cases h1
 have h4:(storeCells a #[v].toList).run P w=.ok () (w.setCell a v):=by
  simp only[storeCells,Sem.run_bind,h0,h3,Result.andThen_ok];rfl
 simpa using h4
theorem ab3{op:BinOp}{xt:TypeId}{x y:Operand}{vx vy:Value}{w:World}{K:Value->World->Prop}(h:amg P op xt x y vx vy w K) :
  ∃v w',(do eqGuard op xt x y vx vy;binOp op xt vx vy:Sem Value).run P w=.ok v w'/\K v w':=by
 unfold amg at h;split at h
 ·rename_i k a k' b
  simp only[Sem.run_bind,wQ,Result.andThen_ok]
  cases op<;>simp only at h
  case add=>obtain⟨e,g⟩:=aY h;subst e;exact⟨_,_,by simp[binOp,Op.intArith],g.go⟩
  case sub=>obtain⟨e,g⟩:=aY h;subst e;exact⟨_,_,by simp[binOp,Op.intArith],g.go⟩
  case mul=>obtain⟨e,g⟩:=aY h;subst e;exact⟨_,_,by simp[binOp,Op.intArith],g.go⟩
  case quo=>obtain⟨e,g⟩:=aY h;subst e;exact⟨_,_,by simp[binOp,Op.intDiv,g.ne],g.go⟩
  case rem=>obtain⟨e,g⟩:=aY h;subst e;exact⟨_,_,by simp[binOp,Op.intDiv,g.ne],g.go⟩
  case and=>obtain⟨e,g⟩:=aY h;subst e;exact⟨_,_,by simp[binOp,Op.intBits,fV],g⟩
  case or=>obtain⟨e,g⟩:=aY h;subst e;exact⟨_,_,by simp[binOp,Op.intBits,fV],g⟩
  case xor=>obtain⟨e,g⟩:=aY h;subst e;exact⟨_,_,by simp[binOp,Op.intBits,fV],g⟩
  case andNot=>obtain⟨e,g⟩:=aY h;subst e;exact⟨_,_,by simp[binOp,Op.intBits,fV],g⟩
  case shl=>exact⟨_,_,by have:=h.nn;simp[binOp,Op.shift,Int.not_lt.2 this],h.go⟩
  case shr=>exact⟨_,_,by have:=h.nn;simp[binOp,Op.shift,Int.not_lt.2 this],h.go⟩
  case eql=>obtain⟨e,g⟩:=aY h;subst e;exact⟨_,_,by simp[binOp,Op.intCmp];rfl,g⟩
  case neq=>obtain⟨e,g⟩:=aY h;subst e;exact⟨_,_,by simp[binOp,Op.intCmp];rfl,g⟩
  case lss=>obtain⟨e,g⟩:=aY h;subst e;exact⟨_,_,by simp[binOp,Op.intCmp],g⟩
  case leq=>obtain⟨e,g⟩:=aY h;subst e;exact⟨_,_,by simp[binOp,Op.intCmp],g⟩
  case gtr=>obtain⟨e,g⟩:=aY h;subst e;exact⟨_,_,by simp[binOp,Op.intCmp],g⟩
  case geq=>obtain⟨e,g⟩:=aY h;subst e;exact⟨_,_,by simp[binOp,Op.intCmp],g⟩
 ·exact h.ex
theorem pd{f:FuncId}{args:Array Value}(h:ab1 P f=true)(w:World):(callFunc f args).run P w=.ok (.enter f args) w:=by
 unfold ab1 at h;split at h
 ·rename_i fn hf
  simp only[Bool.and_eq_true,Bool.not_eq_true',beq_eq_false_iff_ne] at h;obtain⟨h1,h2⟩:=h;have h3:fn.body.isNone=false:=by cases hb:fn.body<;>simp[hb] at h2 ⊢
  have h4:fn.body≠none:=fun e=>by simp[e] at h2
  simp[callFunc,hf,h1,h4]
 ·cases h
theorem yz{t e:TypeId}{sz:Nat}(h:kP P t (.sl e sz)=true)(ts:Array TypeId)(ht:ts[0]?=some t)(ty:TypeId)(A:Option Addr)(l c:Nat)(w:World):(Builtin.len_ ts ty #[.slice A l c]).run P w=.ok (.int .i64 (l:Int)) w:=by
 simp only[kP,Bool.and_eq_true] at h;obtain⟨h,_⟩:=h;split at h
 ·rename_i e' hu
  simp[Builtin.len_,ht,run_underlying hu,goInt]
 ·cases h
theorem yA(ts:Array TypeId)(ty:TypeId)(k k2:IntKind)(a b:Int)(w:World):(Builtin.max_ ts ty #[.int k a,.int k2 b]).run P w=.ok (.int k (max a b)) w:=by
 have e:(if b > a then b else a)=max a b:=by omega
 simp[Builtin.max_,Builtin.max2, <-e]
theorem yB(ts:Array TypeId)(ty:TypeId)(k k2:IntKind)(a b:Int)(w:World):(Builtin.min_ ts ty #[.int k a,.int k2 b]).run P w=.ok (.int k (min a b)) w:=by
 have e:(if b<a then b else a)=min a b:=by omega
 simp[Builtin.min_,Builtin.min2, <-e]
theorem yC{ds:List Deferred}(hT:TT.ok P T=true){o:Oper}{f:Fr}{w:World}{K:Value->World->Prop}(h:se P T o f w K){a:Act}(ha:Au n f a ds){N:Act->World->Prop}
  (hn:∀v w',K v w'->N (a.put o.dst v) w'):Bd P o a w N:=by
 unfold se at h;split at h
 case h_1 x ho=>exact aA (by simp[ho]) (by simp[execOp,ho]) (hn _ _ (ao h ha))
 case h_2 x ho=>exact aA (by simp[ho]) (by simp[execOp,ho]) (hn _ _ (ao h ha))
 case h_3 c x y ho =>
  have h:=ao (ao (ao h ha) ha) ha;split at h
  ·rename_i t hc
   exact aA (by simp[ho]) (by simp[execOp,ho,hc,asBool]) (hn _ _ h.go)
  ·exact h.elim
 case h_4 op xt x y yt ho =>
  obtain⟨d,hd,h⟩:=bt hT (ao (ao h ha) ha);obtain⟨v,w',h1,h2⟩:∃v w',(do eqGuard op xt x y (a.eval x) (a.eval y);binOp op xt (a.eval x) (a.eval y):Sem Value).run P w=.ok v w'/\K v w':=by
   split at h
   ·exact ab3 h
   ·exact h.ex
  exact aA (by simp[ho]) (by simp only[execOp,ho,Sem.run_bind];rw[Sem.run_bind] at h1;rw[h1];rfl) (hn _ _ h2)
 case h_5 op xt x ho =>
  have h:=ao h ha;split at h
  ·rename_i b hx _
   exact aA (by simp[ho]) (by simp[execOp,ho,hx,Op.unary]) (hn _ _ h)
  ·rename_i k m hx _
   exact aA (by simp[ho]) (by simp[execOp,ho,hx,Op.unary,Op.intArith]) (hn _ _ h.go)
  ·obtain⟨v,w',h1,h2⟩:=h.ex;exact aA (by simp[ho]) (by simp only[execOp,ho,Sem.run_bind,h1];rfl) (hn _ _ h2)
 case h_6 src dst x ho =>
  obtain⟨ds,hs,h⟩:=bt hT (ao h ha);obtain⟨d,hd,h⟩:=bt hT h;obtain⟨us,hus⟩:=qs hs;split at h
  ·rename_i k k' m hx
   have hu:=qq hd;exact aA (by simp[ho]) (by simp[execOp,ho,hx,convert,run_underlying hus,run_underlying hu,Conv.intToInt]) (hn _ _ h.go)
  ·obtain⟨v,w',h1,h2⟩:=h.ex;exact aA (by simp[ho]) (by simp only[execOp,ho,Sem.run_bind,h1];rfl) (hn _ _ h2)
 case h_7 t x ho =>
  obtain⟨d,hd,h⟩:=bt hT (ao h ha);split at h
  ·exact h.elim
  ·rename_i hni
   obtain⟨u,hu,hu2⟩:=qt hd (fun e=>hni e);refine aA (by simp[ho]) (v:=.iface t (a.eval x)) (w':=w) ?_ (hn _ _ h);simp only[execOp,ho,Sem.run_bind,Instr.makeInterface,run_underlying hu,Result.andThen_ok]
   cases u<;>first|rfl|exact absurd rfl (hu2 _)
 case h_8 x i ho =>
  have h:=ao h ha;split at h
  ·rename_i vs hx
   obtain⟨v,hv,h⟩:=cv h;have hv':vs[i]?=some v:=by simpa using hv
   exact aA (by simp[ho]) (by simp[execOp,ho,hx,Instr.extract,hv']) (hn _ _ h)
  ·exact h.elim
 case h_9 x ho =>
  have h:=ao h ha;split at h
  ·rename_i b hx
   exact aA (by simp[ho]) (by simp[execOp,ho,hx]) (hn _ _ h)
  ·exact h.elim
 case h_10 s x i ho =>
  obtain⟨d,hd,h⟩:=bt hT (ao h ha);split at h
  ·rename_i sb g o2 hx
   obtain⟨m,hm,h⟩:=cv h;split at h
   ·exact aA (by simp[ho]) (by simp only[execOp,ho,Sem.run_bind,hx,mq hd i _ g o2 hm w];rfl) (hn _ _ h)
   ·exact h.elim
  ·exact h.elim
 case h_11 t x i ho =>
  obtain⟨d,hd,h⟩:=bt hT (ao (ao h ha) ha);split at h
  ·rename_i len e sz g o2 kk i2 hx hi
   obtain⟨k,rfl,hk,h⟩:=h.ex;have h:=jL h;exact aA (by simp[ho]) (by simp only[execOp,ho,Sem.run_bind,hx,hi,mr hd g o2 k kk hk w];rfl) (hn _ _ h)
  ·rename_i e sz g o2 len cap kk i2 hx hi
   obtain⟨k,rfl,hk,h⟩:=h.ex;have h:=jL h;exact aA (by simp[ho]) (by simp only[execOp,ho,Sem.run_bind,hx,hi,oD hd g o2 k len cap kk hk w];rfl) (hn _ _ h)
  ·exact h.elim
 case h_12 t x i ho =>
  obtain⟨v,w',h1,h2⟩:=(ao (ao h ha) ha).ex;exact aA (by simp[ho]) (by simp only[execOp,ho,Sem.run_bind,h1];rfl) (hn _ _ h2)
 case h_13 t x i ho =>
  obtain⟨v,w',h1,h2⟩:=(ao h ha).ex;exact aA (by simp[ho]) (by simp only[execOp,ho,Sem.run_bind,h1];rfl) (hn _ _ h2)
 case h_14 t x ho =>
  obtain⟨d,hd,h⟩:=bt hT (ao h ha);split at h
  ·rename_i b hx
   obtain⟨v,w',h1,h2⟩:∃v w',(loadVar t b).run P w=.ok v w'/\K v w':=by
    cases hc:d.cell with
    |false=>rw[hc] at h;exact h.ex
    | true =>
     rw[hc] at h;obtain⟨v,h1,h2⟩:=Ld.ex h;exact⟨v,w,pc (sB hd hc) h1,h2⟩
   exact aA (by simp[ho]) (by simp only[execOp,ho,Sem.run_bind,hx,Instr.loadAt,Instr.sureAddr,Sem.run_pure,Result.andThen_ok,h1]) (hn _ _ h2)
  ·exact h.elim
 case h_15 t x y ho =>
  obtain⟨d,hd,h⟩:=bt hT (ao (ao h ha) ha);split at h
  ·rename_i b hx
   obtain⟨v,w',h1,h2⟩:∃v w',(storeVar t b (a.eval y)).run P w=.ok v w'/\K undef w':=by
    cases hc:d.cell with
    |false=>rw[hc] at h;exact h.ex
    | true =>
     rw[hc] at h;have h:Sd w b (a.eval y) fun w'=>K undef w':=h;obtain⟨u,hu⟩:=h.there;exact⟨(),_,aeP (sB hd hc) hu h.free h.one,h.go⟩
   exact tc (by simp[ho]) (by simp only[execOp,ho,Sem.run_bind,hx,Instr.storeAt,Instr.sureAddr,Sem.run_pure,Result.andThen_ok,h1]) (hn _ _ h2)
  ·exact h.elim
 case h_16 t ho =>
  obtain⟨v,w',h1,h2⟩:=h.ex;exact aA (by simp[ho]) (by simp only[execOp,ho,Sem.run_bind,h1];rfl) (hn _ _ h2)
 case h_17 t x ho =>
  obtain⟨v,w',h1,h2⟩:=(ao h ha).ex;exact aA (by simp[ho]) (by simp only[execOp,ho,Sem.run_bind,h1];rfl) (hn _ _ h2)
 case h_18 t ps ho =>
  obtain⟨v,w',h1,h2⟩:=(iO ha h).ex;have e:(ps.map fun x=>(x.1,a.eval x.2))=(ps.toList.map fun p=>(p.1,a.eval p.2)).toArray:=(fq _ _).symm;exact aA (by simp[ho]) (by simp only[execOp,ho,Sem.run_bind];rw[e,h1];rfl) (hn _ _ h2)
 case h_19 t len ps ho =>
  obtain⟨v,w',h1,h2⟩:=(iO ha h).ex;have e:(ps.map fun x=>(x.1,a.eval x.2))=(ps.toList.map fun p=>(p.1,a.eval p.2)).toArray:=(fq _ _).symm;exact aA (by simp[ho]) (by simp only[execOp,ho,Sem.run_bind];rw[e,h1];rfl) (hn _ _ h2)
 case h_20 t x lo hi mx ho =>
  obtain⟨v,w',h1,h2⟩:=(dk ha (dk ha (dk ha (ao h ha)))).ex;exact aA (by simp[ho]) (by simp only[execOp,ho,Sem.run_bind,h1];rfl) (hn _ _ h2)
 case h_21 t l c ho =>
  obtain⟨v,w',h1,h2⟩:=(ao (ao h ha) ha).ex;exact aA (by simp[ho]) (by simp only[execOp,ho,Sem.run_bind,h1];rfl) (hn _ _ h2)
 case h_22 fn x y ho =>
  have h:=bR ha (bR ha h);exact aA (by simp[ho]) (by simp only[execOp,ho,Instr.makeFunc,fq];rfl) (hn _ _ h)
 case h_23 t r ho =>
  obtain⟨v,w',h1,h2⟩:=(dk ha h).ex;exact aA (by simp[ho]) (by simp only[execOp,ho,Sem.run_bind,h1];rfl) (hn _ _ h2)
 case h_24 t x i ok ho =>
  obtain⟨v,w',h1,h2⟩:=(ao (ao h ha) ha).ex;exact aA (by simp[ho]) (by simp only[execOp,ho,Sem.run_bind,h1];rfl) (hn _ _ h2)
 case h_25 t m k x ho =>
  obtain⟨v,w',h1,h2⟩:=(ao (ao (ao h ha) ha) ha).ex;exact tc (by simp[ho]) (by simp only[execOp,ho,Sem.run_bind,h1];rfl) (hn _ _ h2)
 case h_26 c ho =>
  split at h
  ·rename_i g hc
   have h:=bR ha (ao h ha);split at h
   ·rename_i fid first cap hg
    obtain⟨hf,gJ⟩:=(mn (mn h)).go;have e:(first.toList++c.args.toList.map a.eval++cap.toList).toArray=first++c.args.map a.eval++cap:=by
     rw[<-fq];apply Array.ext';simp
    rw[e] at gJ;have hx:(execOp a.eval o).run P w=.ok (.enter fid (first++c.args.map a.eval++cap)) w:=by
     simp only[execOp,ho,resolve,hc,hg,Deferred.ofValue,Sem.run_bind,Sem.run_pure,Result.andThen_ok,invoke,pd hf]
    exact⟨by simp[ho],.inr (.inr ⟨_,_,_,hx,gJ.mono fun e w' ⟨v,he,hk⟩=>⟨v,he,hn _ _ hk⟩⟩)⟩
   ·exact h.elim
  ·rename_i b hc
   have h:=bR ha h;have e:(c.args.toList.map a.eval).toArray=c.args.map a.eval:=fq _ _;split at h
   ·rename_i A l m hvs _
    obtain⟨t,ht,h⟩:=cv h;obtain⟨d,hd,h⟩:=bt hT h;split at h
    ·rename_i el sz
     have fT:c.args.map a.eval = #[.slice A l m]:=by rw[<-e,hvs]
     have ht:c.argTypes[0]?=some t:=by simpa using ht
     refine aA (by simp[ho]) ?_ (hn _ _ h);simp only[execOp,ho,resolve,hc,fT,Sem.run_bind,Sem.run_pure,Result.andThen_ok,invoke,builtin,yz hd _ ht]
    ·exact h.elim
   ·rename_i k a2 k2 b2 hvs _
    have fT:c.args.map a.eval = #[.int k a2,.int k2 b2]:=by rw[<-e,hvs]
    refine aA (by simp[ho]) (by simp only[execOp,ho,resolve,hc,fT,Sem.run_bind,Sem.run_pure,Result.andThen_ok,invoke,builtin,yA]) (hn _ _ h)
   ·rename_i k a2 k2 b2 hvs _
    have fT:c.args.map a.eval = #[.int k a2,.int k2 b2]:=by rw[<-e,hvs]
    refine aA (by simp[ho]) (by simp only[execOp,ho,resolve,hc,fT,Sem.run_bind,Sem.run_pure,Result.andThen_ok,invoke,builtin,yB]) (hn _ _ h)
   ·obtain⟨v,w',h1,h2⟩:=h.ex;rw[e] at h1;refine aA (by simp[ho]) ?_ (hn _ _ h2);simp only[execOp,ho,resolve,hc,Sem.run_bind,Sem.run_pure,Result.andThen_ok,invoke];exact h1
  ·exact h.elim
 case h_27=>exact h.elim
theorem oF{ds:List Deferred}(hT:TT.ok P T=true){o:Oper}{f:Fr}{w:World}{K:Value->World->Prop}(h:se P T o f w K){a:Act}(ha:Au n f a ds){N:Act->World->Prop}{Q':Exit->Act->World->Prop}
  (hn:∀v w',K v w'->N (a.put o.dst v) w'):o.wp P a w N Q':=(yC hT h ha hn).wp
theorem cw{ds:List Deferred}{f:Fr}{d:Option Tmp}{v:Value}{K:Fr->Prop}(h:pt n f d v K){a:Act}(ha:Au n f a ds):∃f',Au n f' (a.put d v) ds/\K f':=by
 cases d with
 |none=>exact⟨f,ha,h⟩
 | some d =>
  simp only[pt] at h
  cases hb:Nat.ble n d with
  |true=>rw[hb] at h;exact h.elim
  | false =>
   rw[hb] at h;have hd:¬n<=d:=fun e=>by rw[Nat.ble_eq_true_of_le e] at hb;cases hb
   exact⟨_,ha.put d (by omega) v,h⟩
theorem getD_some{x:Array Value}{t:Nat}{b:Bool}(h:x.getD t undef=.bool b):x[t]?=some (.bool b):=by
 rw[Array.getD_eq_getD_getElem?] at h
 cases hx:x[t]? with
 |none=>rw[hx] at h;cases h
 |some v=>rw[hx] at h;exact congrArg some h
theorem Au.cons{ds:List Deferred}{f:Fr}{a:Act}(h:Au n f a ds)(t:Nat)(v:Value)(hv:a.tmps.getD t undef=v):Au n ((t,v)::f) a ds:=⟨h.size,h.defers,fun d u hd=>by
 unfold qp at hd
 cases hb:Nat.beq t d with
 |true=>rw[hb] at hd;obtain rfl:=Nat.eq_of_beq_eq_true hb;injection hd with hd;rw[hv,hd]
 |false=>rw[hb] at hd;exact h.get d u hd⟩
theorem ab4{x:Array Value}{t:Nat}{vs:Array Value}(h:x.getD t undef=.tuple vs):x[t]?=none\/x[t]?=some (.tuple vs):=by
 rw[Array.getD_eq_getD_getElem?] at h
 cases hx:x[t]? with
 |none=>exact .inl rfl
 |some v=>rw[hx] at h;exact .inr (congrArg some h)
theorem iu{ops:Array Oper}{o oj:Oper}{j:Nat}{b:Bool}{t:Tmp}{a:Act}{vs:Array Value}(hg:o.guard=some (j,b))(hj:ops.toList[j]?=some oj)(ht:oj.dst=some t)(vN:a.tmps.getD t undef=.tuple vs):Region.wanted o (yielded ops a.tmps)=false:=by
 have hj':ops[j]?=some oj:=by simpa using hj
 have hy:yielded ops a.tmps j=none:=by
  unfold yielded;rcases ab4 vN with h|h<;>simp only[hj',Option.bind_some,ht,h,Option.bind_none]
 simp[Region.wanted,hg,hy]
theorem gK(hT:TT.ok P T=true){ops:Array Oper}{Q:Exit->Act->World->Prop}:∀(l:List Oper) {f:Fr} {w:World} {K:Fr->World->Prop} {a:Act},iN P T n ops.toList l f w K->Au n f a ->
  (∀f' a' w',K f' w'->Au n f' a'->Q .normal a' w')->wpList P ops Q l a w
 | [],f,w,K,a,h,ha,hQ=>hQ _ _ _ h ha
 | o::l,f,w,K,a,h,ha,hQ=>by
  rw[tb] at h;split at h
  ·rename_i hg
   have hw:Region.wanted o (yielded ops a.tmps)=true:=by simp[Region.wanted,hg]
   unfold wpList;rw[if_pos hw];refine .inl (oF hT h ha fun v w' hk=>?_);obtain⟨f',m6,me⟩:=cw hk ha;exact gK hT l me m6 hQ
  ·rename_i j b hg
   obtain⟨oj,hj,h⟩:=cv h;split at h
   ·rename_i t ht
    obtain⟨vg,hvg,h⟩:=kN h;have vN:=ha.get t vg hvg;split at h
    ·rename_i g
     have hy:yielded ops a.tmps j=some g:=by
      have hj':ops[j]?=some oj:=by simpa using hj
      unfold yielded;simp only[hj',Option.bind_some,ht,getD_some vN]
     unfold wpList;have h:Br (g == b) (cond (Nat.ble n t) False (se P T o ((t,.bool b)::f) w fun v w'=>pt n ((t,.bool b)::f) o.dst v fun f'=>iN P T n ops.toList l f' w' K))
       (cond (Nat.ble n t) False (pt n ((t,.bool (!b))::f) o.dst undef fun f'=>iN P T n ops.toList l f' w K)):=by
      cases b with
      |true=>exact⟨fun hb=>Br.tt h (by simpa using hb),fun hb=>Br.ff h (by simpa using hb)⟩
      |false=>exact⟨fun hb=>Br.ff h (by simpa using hb),fun hb=>Br.tt h (by simpa using hb)⟩
     by_cases vO:(g == b)=true
     ·have hw:Region.wanted o (yielded ops a.tmps)=true:=by
       simp only[Region.wanted,hg,hy];simpa using vO
      rw[if_pos hw];have h:=h.tt vO
      cases hb:Nat.ble n t with
      |true=>rw[hb] at h;exact h.elim
      | false =>
       rw[hb] at h;simp only[cond_false] at h;have m6:=ha.cons t (.bool b) (by rw[vN];simpa using vO);refine .inl (oF hT h m6 fun v w' hk=>?_);obtain⟨f',gY,me⟩:=cw hk m6;exact gK hT l me gY hQ
     ·have aae:(g == b)=false:=by simpa using vO
      have hw:¬Region.wanted o (yielded ops a.tmps)=true:=by
       simp only[Region.wanted,hg,hy];simpa using vO
      rw[if_neg hw];have h:=h.ff aae
      cases hb:Nat.ble n t with
      |true=>rw[hb] at h;exact h.elim
      | false =>
       rw[hb] at h;simp only[cond_false] at h;have m6:=ha.cons t (.bool (!b)) (by rw[vN];congr 1;revert aae;cases g<;>cases b<;>simp);obtain⟨f',gY,me⟩:=cw h m6;exact gK hT l me gY hQ
    ·rename_i vs
     have hw:¬Region.wanted o (yielded ops a.tmps)=true:=by
      rw[iu hg hj ht vN];simp
     unfold wpList;rw[if_neg hw];obtain⟨f',gY,me⟩:=cw h ha;exact gK hT l me gY hQ
    ·exact h.elim
   ·exact h.elim
theorem cR(hT:TT.ok P T=true):∀(c:Code) {f:Fr} {w:World} {Q:Exit->Fr->World->Prop} {a:Act},wpE P T n c f w Q->Au n f a->Code.wp P c (QA n Q) a w
 |.skip,f,w,Q,a,h,ha=>wp_skip ⟨trivial,f,ha,h⟩
 | .region id ops d,f,w,Q,a,h,ha=>by
  cases d with
  |false=>exact wp_region_list (gK hT ops.toList h ha fun f' a' w' hk hf=>⟨trivial,f',hf,hk⟩)
  |true=>exact CW.go h a ha
 | .seq x y,f,w,Q,a,h,ha=>by
  rw[ajZ] at h
  cases hj:rH x with
  | true =>
   rw[hj] at h;exact CW.go h a ha
  | false =>
   rw[hj] at h;simp only[cond_false] at h;refine wp_seq (wp_mono (cR hT x h ha) fun e a' w' ⟨np,f',hf,hq⟩=>?_)
   cases e with
   |normal=>exact cR hT y hq hf
   |_=>exact⟨np,f',hf,hq⟩
 | .cond c x y,f,w,Q,a,h,ha=>by
  have h:fx f c fun v=>(match v with
   |.bool t=>Br t (wpE P T n x f w Q) (wpE P T n y f w Q)
   |_=>False):=h;have h:=ao h ha;split at h
  ·rename_i t hc
   cases t with
   |true=>exact wp_cond_true hc (cR hT x (h.tt rfl) ha)
   |false=>exact wp_cond_false hc (cR hT y (h.ff rfl) ha)
  ·exact h.elim
 | .block id c,f,w,Q,a,h,ha=>by
  have h:wpE P T n c f w fun e f w=>(match e with
   |.exit i=>cond (Nat.beq i id) (Q .normal f w) (Q (.exit i) f w)
   |e=>Q e f w):=h;refine wp_block (wp_mono (cR hT c h ha) fun e a' w' ⟨np,f',hf,hq⟩=>?_)
  cases e with
  | exit i =>
   simp only[Exit.inBlock];by_cases hi:i=id
   ·subst hi;simp only[if_true];have hb:Nat.beq i i=true:=Nat.beq_refl i;simp only[hb] at hq;exact⟨trivial,f',hf,hq⟩
   ·simp only[if_neg hi];have hb:Nat.beq i id=false:=by
     cases hb:Nat.beq i id with
     |true=>exact absurd (Nat.eq_of_beq_eq_true hb) hi
     |false=>rfl
    simp only[hb] at hq;exact⟨trivial,f',hf,hq⟩
  |_=>exact⟨np,f',hf,hq⟩
 |.loop c,f,w,Q,a,h,ha=>CW.go h a ha
 |.rangeFunc ..,f,w,Q,a,h,ha=>h.elim
 |.exit id,f,w,Q,a,h,ha=>wp_exit ⟨trivial,f,ha,h⟩
 | .scope c,f,w,Q,a,h,ha=>by
  have h:wpE P T n c f w fun e f w=>(match e with
   |.goto _=>False
   |e=>Q e f w):=h;refine wp_scope_straight (wp_mono (cR hT c h ha) fun e a' w' ⟨np,f',hf,hq⟩=>?_)
  cases e with
  |goto l=>exact hq.elim
  |_=>exact⟨np,f',hf,hq⟩
 |.label l,f,w,Q,a,h,ha=>wp_label ⟨trivial,f,ha,h⟩
 |.goto l,f,w,Q,a,h,ha=>h.elim
 |.ret,f,w,Q,a,h,ha=>wp_ret ⟨trivial,f,ha,h⟩
 |.refuse s,f,w,Q,a,h,ha=>h.elim
def sub:Fr->Fr->Prop
 | [],_=>True
 |(d,v)::l,f=>lk f d (fun u=>u=v)/\sub l f
theorem m7{f:Fr}:∀ {g:Fr},sub g f->∀d v,qp g d=some v->qp f d=some v
 | [],_,_,_,h=>by cases h
 | (i,u)::l,hs,d,v,h=>by
  unfold sub at hs;unfold qp at h
  cases hb:Nat.beq i d with
  | true =>
   rw[hb] at h;obtain rfl:=Nat.eq_of_beq_eq_true hb;injection h with h;obtain⟨u',h1,h2⟩:=kN hs.1;rw[h1,h2,h]
  |false=>rw[hb] at h;exact m7 hs.2 d v h
def aoh{ι:Type}(I:ι->World->Prop)(sv:ι->Fr)(Q:Exit->Fr->World->Prop):Exit->Fr->World->Prop
 |.normal,f,w=>∃j,I j w/\sub (sv j) f
 |e,f,w=>Q e f w
def aj0{ι:Type}(I:ι->World->Prop)(sv:ι->Fr)(μ:ι->Nat)(i:ι)(Q:Exit->Fr->World->Prop):Exit->Fr->World->Prop
 |.normal,f,w=>∃j,I j w/\sub (sv j) f/\μ j<μ i
 |e,f,w=>Q e f w
theorem CW.seq{x y:Code}{f:Fr}{w:World}{Q:Exit->Fr->World->Prop}(hT:TT.ok P T=true) (h:wpE P T n x f w fun e f w=>(match e with
  |.normal=>wpE P T n y f w Q
  |e=>Q e f w)):CW P n (.seq x y) Q f w:=⟨fun a ha=>by
 refine wp_seq (wp_mono (cR hT x h ha) fun e a' w' ⟨np,f',hf,hq⟩=>?_)
 cases e with
 |normal=>exact cR hT y hq hf
 |_=>exact⟨np,f',hf,hq⟩⟩
theorem CW.cut{ι:Type}(I:ι->World->Prop)(sv:ι->Fr){x y:Code}{f:Fr}{w:World}{Q:Exit->Fr->World->Prop}(hT:TT.ok P T=true)(h:wpE P T n x f w (aoh I sv Q))(h2:∀i w,I i w->wpE P T n y (sv i) w Q):CW P n (.seq x y) Q f w:=⟨fun a ha=>by
 refine wp_seq (wp_mono (cR hT x h ha) fun e a' w' ⟨np,f',hf,hq⟩=>?_)
 cases e with
 | normal =>
  obtain⟨j,hj,hs⟩:=hq;exact cR hT y (h2 j w' hj) (hf.forget (m7 hs))
 |_=>exact⟨np,f',hf,hq⟩⟩
theorem CW.loop{ι:Type}(I:ι->World->Prop)(sv:ι->Fr)(μ:ι->Nat)(i0:ι){c:Code}{f:Fr}{w:World}{Q:Exit->Fr->World->Prop}(hT:TT.ok P T=true)(h0:I i0 w)(hs:sub (sv i0) f)
  (h:∀i w,I i w->wpE P T n c (sv i) w (aj0 I sv μ i Q)):CW P n (.loop c) Q f w:=⟨fun a ha=>by
 intro b k cs;have key:∀m i a w,μ i=m->I i w->Au n (sv i) a->∃e a' w',QA n Q e a' w'/\Arrives P (lone (b.at a (.code c :: .inLoop c::k)) cs w) b k cs e a' w':=by
  intro m
  induction m using Nat.strongRecOn with
  | _ m ih =>
   intro i a w hm hI wR;obtain⟨e,a1,w1,⟨np,f1,hf1,hq⟩,aaf⟩:=cR hT c (h i w hI) wR b (.inLoop c::k) cs
   cases e with
   | normal =>
    obtain⟨j,hj,aqb,av⟩:=hq;obtain⟨e2,a2,w2,wS,aoi⟩:=ih (μ j) (hm ▸ av) j a1 w1 rfl hj (hf1.forget (m7 aqb));exact⟨e2,a2,w2,wS,.of_steps (Steps.trans aaf (.one step_inLoop)) aoi⟩
   |exit id=>exact⟨_,a1,w1,⟨np,f1,hf1,hq⟩,.pass (x:=.inLoop c) rfl (fun _ _=>.inl (by simp)) aaf⟩
   |goto l=>exact⟨_,a1,w1,⟨np,f1,hf1,hq⟩,.pass (x:=.inLoop c) rfl (fun _ _=>.inl (by simp)) aaf⟩
   |ret=>exact⟨_,a1,w1,⟨np,f1,hf1,hq⟩,.pass (x:=.inLoop c) rfl (fun _ _=>.inl (by simp)) aaf⟩
   |panic ch=>exact⟨_,a1,w1,⟨np,f1,hf1,hq⟩,.pass (x:=.inLoop c) rfl (fun _ _=>.inl (by simp)) aaf⟩
   |outgrown=>exact⟨_,a1,w1,⟨np,f1,hf1,hq⟩,.pass (x:=.inLoop c) rfl (fun _ _=>.inl (by simp)) aaf⟩
 obtain⟨e,a',w',hq,aaf⟩:=key _ i0 a w rfl h0 (ha.forget (m7 hs));exact⟨e,a',w',hq,.of_steps (.one step_loop) aaf⟩⟩
def fr0:Nat->List Value->Fr
 |_,[]=>[]
 |i,v::l=>(i,v)::fr0 (i+1) l
theorem yD:∀(l:List Value) (i d:Nat) (v:Value),qp (fr0 i l) d=some v->i<=d/\l[d-i]?=some v
 | [],_,_,_,h=>by cases h
 | x::l,i,d,v,h=>by
  unfold fr0 qp at h
  cases hb:Nat.beq i d with
  | true =>
   rw[hb] at h;obtain rfl:=Nat.eq_of_beq_eq_true hb;injection h with h;simp[h]
  | false =>
   rw[hb] at h;obtain⟨h1,h2⟩:=yD l (i+1) d v h;refine⟨by omega,?_⟩;rw[show d-i=(d-(i+1))+1 from by omega];simpa using h2
def aag(P:Program):List ResultVar->Fr->World->(List Value->World->Prop)->Prop
 | [],f,w,K=>K [] w
 |.tmp t::l,f,w,K=>lk f t fun v=>aag P l f w fun vs w'=>K (v::vs) w'
 |.cell a t::l,f,w,K=>lk f a fun v=>(match v with | .pointer (some b)=>Ru P (loadVar t b) w fun v w'=>aag P l f w' fun vs w'=>K (v::vs) w'|_=>False)
def oneOf:List Value->Value
 | [v]=>v
 |l=>.tuple l.toArray
theorem kQ{f:Fr}{a:Act}(ha:Au n f a){g:ResultVar->Sem Value}(hg1:∀t,g (.tmp t)=pure (a.tmps.getD t undef))(hg2:∀b t,g (.cell b t)=do loadVar t (<-asAddr (a.tmps.getD b undef))) :
  ∀ {l:List ResultVar} {w:World} {K:List Value->World->Prop},aag P l f w K->∃vs w',(l.mapM g).run P w=.ok vs w'/\K vs w'
 | [],w,K,h=>⟨[],w,rfl,h⟩
 | .tmp t::l,w,K,h=>by
  obtain⟨v,hv,h⟩:=kN h;obtain⟨vs,w',h1,h2⟩:=kQ ha hg1 hg2 h;refine⟨v::vs,w',?_,h2⟩;simp only[List.mapM_cons,Sem.run_bind,Sem.run_pure,Result.andThen_ok,hg1,ha.get t v hv,h1]
 | .cell b t::l,w,K,h=>by
  obtain⟨v,hv,h⟩:=kN h;split at h
  ·rename_i ad
   obtain⟨v,w1,h1,h⟩:=h.ex;obtain⟨vs,w',h2,h3⟩:=kQ ha hg1 hg2 h;refine⟨v::vs,w',?_,h3⟩;have h5:(asAddr (.pointer (some ad))).run P w=.ok ad w:=rfl;simp only[List.mapM_cons,Sem.run_bind,Sem.run_pure,Result.andThen_ok,hg2,ha.get b _ hv,h5,h1,h2]
  ·exact h.elim
theorem spec_of_wpE {fid : FuncId} {fn : Func} {c : Code} {args : List Value} {w : World} {Φ : Value → World → Prop} (hT : TT.ok P T = true) (hf : P.funcs[fid]? = some fn) (hb : fn.body = some c) (hnm : (fn.name == "runtime.NumGoroutine") = false) (hn : fn.ntmps = n) (ha : args.length ≤ n)
  (h:wpE P T n c (fr0 0 args) w fun e f w=>(match e with
   |.normal=>aag P fn.results.toList f w fun vs w'=>w'=w/\Φ (oneOf vs) w'
   |.ret=>aag P fn.results.toList f w fun vs w'=>w'=w/\Φ (oneOf vs) w'
   |_=>False)):Spec P fid args.toArray w Φ:=by
 refine⟨by simp[ab1,hf,hb,hnm],?_⟩;refine calls_of_wp hf hb ?_;have amh:Au n (fr0 0 args) { tmps:=args.toArray++Array.replicate (fn.ntmps-args.toArray.size) undef,defers:=[] }:=by
  refine⟨by simp[hn];omega,rfl,fun d v hd=>?_⟩;obtain⟨_,h1⟩:=yD args 0 d v hd;simp only[Nat.sub_zero] at h1;rw[Array.getD_eq_getD_getElem?,Array.getElem?_append_left (by simpa using(List.getElem?_eq_some_iff.1 h1).1)];simp[h1]
 have key:∀(f:Fr) (a:Act) (w:World),Au n f a->(aag P fn.results.toList f w fun vs w'=>w'=w/\Φ (oneOf vs) w')->a.defers=[]/\∃v,(results fn a.tmps).run P w=.ok v w/\∃u,Ending.returned v=.returned u/\Φ u w:=by
  intro f a w wR hr;obtain⟨vs,w',h1,rfl,h2⟩:=kQ wR (g:=fun x=>match x with | .tmp t=>pure (a.tmps.getD t undef) | .cell b t=>do loadVar t (<-asAddr (a.tmps.getD b undef))) (fun _=>rfl) (fun _ _=>rfl) hr;refine⟨wR.defers,oneOf vs,?_,_,rfl,h2⟩;have e:results fn a.tmps=(do
   let vs <-fn.results.mapM (fun x=>match x with | .tmp t=>pure (a.tmps.getD t undef) | .cell b t=>do loadVar t (<-asAddr (a.tmps.getD b undef)):ResultVar->Sem Value)
   pure (if h:vs.size=1 then vs[0] else .tuple vs)):=rfl
  rw[e,Array.mapM_eq_mapM_toList];simp only[map_eq_pure_bind,Sem.run_bind,Sem.run_pure];rw[h1];simp only[Result.andThen_ok]
  cases vs with
  |nil=>simp[oneOf]
  | cons v vs=>cases vs with
   |nil=>simp[oneOf]
   |cons u vs=>simp[oneOf]
 refine wp_mono (cR hT c h amh) fun e a w' ⟨np,f,wR,hq⟩=>?_
 cases e with
 |normal=>exact key f a w' wR hq
 |ret=>exact key f a w' wR hq
 |_=>exact hq.elim
end sound
end
section
def tt:TT:=[(1,.other),(2,.int .i64),(3,.int .i64),(4,.bool),(5,.int .u8),(6,.int .u8),(7,.st [some 0,some 1,some 2,some 3]),(8,.st [some 0,some 1,some 2,some 3]),(9,.other),(10,.other),(11,.other),(12,.int .u64),(13,.st [some 0,some 1]),(14,.st [some 0,some 1]),(15,.ptr 341),(16,.ptr 344),(17,.ptr 352),(18,.st [some 0]),(19,.st [some 0]),(20,.ifc),(21,.int .i32),(22,.sl 36 3),(23,.sl 3 1),(24,.ptr 104),(25,.ptr 87),(26,.arr 24 3 1),(27,.st [some 0]),(28,.st [some 0]),(30,.other),(31,.other),(32,.ifc),(33,.ifc),(34,.other),(35,.st [some 0,some 1,some 2]),(36,.st [some 0,some 1,some 2]),(37,.sl 5 1),(39,.other),(40,.int .i64),(41,.other),(43,.other),(44,.other),(45,.other),(46,.other),(47,.other),(48,.other),(49,.other),(50,.other),(51,.sl 37 1),(52,.other),(53,.other),(54,.other),(56,.other),(57,.other),(58,.other),(59,.arr 25 3 1),(61,.other),(62,.other),(63,.arr 12 4 1),(64,.sl 69 6),(65,.other),(66,.st [some 0,some 1,some 2,some 3,some 4]),(67,.st [some 0,some 1,some 2,some 3,some 4]),(68,.st [some 0,some 1]),(69,.st [some 0,some 1]),(70,.arr 12 3 1),(71,.st [some 0,some 12,some 37,some 38,some 39,some 40,some 52,some 64,some 65,some 66]),(72,.st [some 0,some 12,some 37,some 38,some 39,some 40,some 52,some 64,some 65,some 66]),(74,.other),(76,.other),(77,.other),(78,.sl 2 1),(79,.other),(81,.other),(82,.other),(84,.other),(85,.ptr 143),(86,.st [some 0,some 1]),(87,.st [some 0,some 1]),(88,.other),(89,.other),(90,.arr 64 5 1),(91,.st [some 0,some 64,some 128,some 129]),(92,.st [some 0,some 64,some 128,some 129]),(93,.arr 4 92 130),(94,.arr 8 93 520),(95,.st []),(96,.st []),(97,.st []),(98,.st [none,none,some 0]),(99,.st [none,none,some 0]),(100,.st [some 0,some 4160,some 4161,some 4162,some 4163]),(101,.st [some 0,some 4160,some 4161,some 4162,some 4163]),(102,.arr 12 101 4164),(103,.st [some 0,some 49968,some 49969,some 49970,some 49971]),(104,.st [some 0,some 49968,some 49969,some 49970,some 49971]),(105,.other),(106,.int .u64),(107,.ptr 101),(109,.other),(110,.other),(111,.other),(113,.other),(114,.arr 24 2 1),(115,.st [some 0,some 24,some 25,some 37,some 38,some 50]),(116,.st [some 0,some 24,some 25,some 37,some 38,some 50]),(118,.other),(119,.other),(121,.other),(122,.other),(124,.other),(125,.other),(126,.ptr 92),(128,.other),(129,.other),(130,.other),(131,.ptr 250),(132,.ptr 220),(133,.ptr 188),(134,.ptr 210),(135,.ptr 223),(136,.ptr 217),(137,.st [some 0]),(138,.st [some 0]),(139,.st [some 0,some 1,some 2]),(140,.st [some 0,some 1,some 2]),(141,.arr 25 140 3),(142,.st [some 0,some 1,some 2,some 3,some 4,some 5,some 6,some 7,some 82,some 106,some 107,some 108,some 109]),(143,.st [some 0,some 1,some 2,some 3,some 4,some 5,some 6,some 7,some 82,some 106,some 107,some 108,some 109]),(144,.other),(145,.other),(146,.other),(147,.other),(148,.st [some 0,some 1,some 6,some 7,some 8]),(149,.st [some 0,some 1,some 6,some 7,some 8]),(151,.other),(152,.other),(153,.other),(154,.ptr 99),(155,.other),(156,.ptr 2),(157,.other),(158,.other),(160,.other),(161,.other),(162,.other),(163,.other),(165,.other),(167,.other),(168,.other),(170,.other),(171,.other),(172,.other),(173,.other),(174,.other),(175,.other),(176,.ifc),(177,.ifc),(178,.other),(179,.other),(180,.other),(182,.other),(184,.other),(185,.other),(186,.arr 96 3 1),(187,.st [some 0,some 25]),(188,.st [some 0,some 25]),(190,.other),(191,.other),(192,.other),(193,.other),(194,.ptr 196),(195,.st [some 0]),(196,.st [some 0]),(197,.other),(198,.other),(199,.other),(201,.other),(202,.other),(204,.other),(206,.other),(207,.other),(208,.other),(209,.st [some 0,some 1,some 2]),(210,.st [some 0,some 1,some 2]),(211,.other),(212,.other),(213,.other),(214,.other),(215,.other),(216,.st [some 0,some 1]),(217,.st [some 0,some 1]),(218,.other),(219,.st [some 0,some 12]),(220,.st [some 0,some 12]),(221,.arr 12 3 1),(222,.st [some 0,some 12,some 24]),(223,.st [some 0,some 12,some 24]),(224,.st [some 0]),(225,.st [some 0]),(226,.ptr 360),(227,.ifc),(229,.other),(230,.ifc),(231,.ifc),(232,.sl 33 1),(233,.other),(234,.other),(235,.ptr 138),(236,.other),(237,.other),(238,.other),(239,.sl 67 5),(241,.other),(242,.other),(244,.other),(245,.other),(246,.other),(247,.other),(248,.ptr 274),(249,.st [some 0,some 1,some 2]),(250,.st [some 0,some 1,some 2]),(251,.other),(253,.other),(254,.other),(255,.other),(256,.other),(257,.other),(258,.ptr 259),(259,.st [some 0]),(260,.other),(261,.int .u64),(262,.other),(263,.other),(264,.other),(266,.other),(267,.other),(269,.other),(270,.other),(271,.other),(272,.ptr 297),(273,.st [some 0]),(274,.st [some 0]),(275,.other),(277,.other),(278,.other),(279,.other),(280,.other),(281,.other),(282,.arr 96 64 1),(283,.other),(284,.ptr 286),(285,.st [some 0,some 5]),(286,.st [some 0,some 5]),(287,.sl 57 1),(288,.arr 6 5 1),(289,.other),(290,.other),(291,.other),(292,.ptr 318),(293,.other),(294,.other),(295,.other),(296,.st [some 0,some 1]),(297,.st [some 0,some 1]),(298,.other),(299,.other),(300,.other),(302,.other),(303,.other),(304,.arr 2 3 1),(305,.st []),(306,.int .u32),(307,.st [none,some 0]),(308,.st [none,some 0]),(309,.st [some 0,some 1]),(310,.st [some 0,some 1]),(311,.st [none,some 0]),(312,.st [none,some 0]),(313,.st [none,some 0,some 1]),(314,.st [none,some 0,some 1]),(315,.arr 510 5 1),(316,.arr 256 3 1),(317,.st [some 0,some 3,some 513]),(318,.st [some 0,some 3,some 513]),(319,.other),(320,.other),(321,.other),(322,.ptr 314),(323,.ptr 308),(324,.other),(325,.ptr 306),(326,.other),(327,.ptr 312),(328,.other),(329,.other),(330,.ptr 310),(331,.other),(332,.ptr 21),(333,.other),(334,.other),(335,.other),(336,.other),(337,.other),(338,.other),(339,.other),(340,.st [some 0,some 1,some 2,some 3]),(341,.st [some 0,some 1,some 2,some 3]),(342,.arr 0 16 1),(343,.st [none]),(344,.st [none]),(345,.int .u8),(346,.int .u8),(347,.other),(348,.ptr 5),(349,.int .i32),(350,.int .i32),(351,.st [some 0,some 1,some 2,some 3,some 4,some 5,some 6,some 7,some 8,some 9,some 10]),(352,.st [some 0,some 1,some 2,some 3,some 4,some 5,some 6,some 7,some 8,some 9,some 10]),(353,.other),(354,.other),(355,.other),(356,.other),(357,.other),(358,.other),(359,.st [some 0,some 1]),(360,.st [some 0,some 1]),(361,.ptr 365),(362,.other),(363,.int .u16),(364,.st [some 0,some 1,some 2,some 3,some 4]),(365,.st [some 0,some 1,some 2,some 3,some 4]),(366,.sl 369 4),(367,.int .i32),(368,.st [some 0,some 1,some 2,some 3]),(369,.st [some 0,some 1,some 2,some 3])]
theorem ai:TT.ok Tryz.prog tt=true:=by kernel_rfl
end
section
open Go.RowKit
section
variable{w w':World}{g:Nat}{t:TypeId}{cs:Array Value}
end
structure Aa(S:List Nat)(w w':World):Prop where
 os:w'.os=w.os
 tape:w'.tape=w.tape
 output:w'.output=w.output
 size:w.heap.size<=w'.heap.size
 block:∀k,k<w.heap.size->k∉S->w'.heap[k]?=w.heap[k]?
section
variable{S:List Nat}{a b c w w':World}
theorem Aa.refl(S:List Nat)(w:World):Aa S w w:=⟨rfl,rfl,rfl,Nat.le_refl _,fun _ _ _=>rfl⟩
theorem Aa.trans(h:Aa S a b)(k:Aa S b c):Aa S a c :=
 ⟨k.os.trans h.os,k.tape.trans h.tape,k.output.trans h.output,Nat.le_trans h.size k.size,fun i hi hn=>(k.block i (Nat.lt_of_lt_of_le hi h.size) hn).trans (h.block i hi hn)⟩
theorem Aa.then{T:List Nat}(h:Aa S a b)(k:Aa T b c)(hT:∀x,x∈T->x∈S\/a.heap.size<=x):Aa S a c :=
 ⟨k.os.trans h.os,k.tape.trans h.tape,k.output.trans h.output,Nat.le_trans h.size k.size,fun i hi hn =>
  (k.block i (Nat.lt_of_lt_of_le hi h.size) (fun hx=>by rcases hT i hx with h1|h1;exact hn h1;omega)).trans (h.block i hi hn)⟩
theorem Aa.mono{T:List Nat}(h:Aa S a b)(hT:∀x,x∈S->x∈T):Aa T a b:=⟨h.os,h.tape,h.output,h.size,fun i hi hn=>h.block i hi (fun hx=>hn (hT i hx))⟩
theorem Aa.drew(h:Aa S a w):Aa S a w.drew:=h.trans ⟨rfl,rfl,rfl,Nat.le_refl _,fun _ _ _=>rfl⟩
theorem Aa.drewN(h:Aa S a w)(n:Nat):Aa S a (w.drewN n):=h.trans ⟨rfl,rfl,rfl,Nat.le_refl _,fun _ _ _=>rfl⟩
theorem Aa.alloc(h:Aa S a w)(o:Obj):Aa S a (w.alloc o):=h.trans ⟨rfl,rfl,rfl,by simp,fun k hk _=>Below.heap_alloc _ _ _ hk⟩
theorem Aa.setCell(h:Aa S a w)(p:Addr)(u:Value)(hp:p.block∈S\/a.heap.size<=p.block):Aa S a (w.setCell p u) :=
 ⟨h.os,h.tape,h.output,by simpa[World.setCell] using h.size,fun k hk hn=>(Below.heap_setCell _ _ _ _ (by
  rintro rfl;rcases hp with hp|hp
  ·exact hn hp
  ·omega)).trans (h.block k hk hn)⟩
theorem Aa.grown{row:Option Nat}(h:Aa S a w)(g:w.grownBy w' row)(hr:∀k,row=some k->k∈S\/a.heap.size<=k):Aa S a w' :=
 h.then ⟨g.os,g.tape,g.output,g.size,fun k hk hn=>g.block k hk (fun e=>hn (by
  cases row with
  |none=>cases e
  | some r=>injection e with e;subst e;exact List.mem_singleton.2 rfl))⟩ (T:=row.toList) (fun x hx=>hr x (by
   cases row with
   |none=>simp at hx
   |some r=>simp at hx;rw[hx]))
theorem Aa.below(h:Aa S a b){B:Nat}(hB:B<=a.heap.size)(hS:∀x,x∈S->B<=x):Below B a b :=
 ⟨h.os,h.tape,h.output,h.size,fun k hk=>h.block k (by omega) (fun hx=>by have:=hS k hx;omega)⟩
theorem Aa.cell(h:Aa S a b){p:Addr}(hp:p.block<a.heap.size)(hn:p.block∉S):b.cell? p=a.cell? p:=World.cell?_of_block (w:=a) (h.block p.block hp hn)
end
def Row(w:World)(g:Nat)(t:TypeId)(n:Nat)(f:Nat->Value):Prop:=w.heap[g]?=some (.cells ((Array.range n).map f) t (0,0))
def put(f:Nat->Value)(i:Nat)(v:Value):Nat->Value:=fun j=>if j=i then v else f j
section
variable{w w':World}{g:Nat}{t:TypeId}{n:Nat}{f:Nat->Value}
theorem Row.lt(h:Row w g t n f):g<w.heap.size:=by
 unfold Row at h;exact(Array.getElem?_eq_some_iff.1 h).1
theorem Row.cell(h:Row w g t n f)(i:Nat)(hi:i<n):w.cell? ⟨g,i,none⟩=some (f i):=by
 unfold Row at h;simp[World.cell?,h,hi]
theorem Row.free(h:Row w g t n f)(i:Nat):w.frozen? ⟨g,i,none⟩=false:=by
 unfold Row at h;simp[World.frozen?,h]
theorem Row.set(h:Row w g t n f)(i:Nat)(u:Value):Row (w.setCell ⟨g,i,none⟩ u) g t n (put f i u):=by
 unfold Row at h ⊢;simp only[World.setCell,Array.getElem?_modify,h,if_true,Option.map_some];congr 2;apply Array.ext
 ·simp
 ·intro j h1 h2;by_cases hj:i=j
  ·subst hj;simp[put]
  ·have hj':¬j=i:=fun e=>hj e.symm;simp only[put,Array.getElem_map,Array.getElem_range,if_neg hj',Option.isSome_none,Bool.false_eq_true,if_false];rw[Array.getElem_setIfInBounds_ne (by simpa using h2) hj];simp
theorem Row.aj1{k:IntKind}{l:Nat->Int}(h:Row w g t n (fun j=>.int k (l j)))(i:Nat)(v:Int):Row (w.setCell ⟨g,i,none⟩ (.int k v)) g t n (fun j=>.int k (if j=i then v else l j)):=by
 have h1:=h.set i (.int k v);have e:put (fun j=>.int k (l j)) i (.int k v)=fun j=>.int k (if j=i then v else l j):=by
  funext j;unfold put;split<;>rfl
 rwa [e] at h1
theorem Row.drewN(h:Row w g t n f)(k:Nat):Row (w.drewN k) g t n f:=h
theorem Row.ab{S:List Nat}(h:Row w g t n f)(k:Aa S w w')(hg:g∉S):Row w' g t n f:=(k.block g h.lt hg).trans h
theorem Row.new(w:World)(t:TypeId)(n:Nat)(f:Nat->Value):Row (w.alloc (.cells ((Array.range n).map f) t)) w.heap.size t n f:=heap_alloc_new w _
theorem Row.congr{f':Nat->Value}(h:Row w g t n f)(hf:∀i,i<n->f i=f' i):Row w g t n f':=by
 unfold Row at h ⊢;rw[h];congr 2;apply Array.ext
 ·simp
 ·intro i h1 h2;simp;exact hf i (by simpa using h1)
theorem Row.oG{cs:Array Value}(h:w.heap[g]?=some (.cells cs t (0,0)))(e:cs=(Array.range n).map f):Row w g t n f:=by
 unfold Row;rw[h,e]
theorem Row.ed{g' n':Nat}{t':TypeId}{f':Nat->Value}(h:Row w g t n f)(h':Row w g' t' n' f')(cn:t≠t'):g≠g':=by
 rintro rfl;unfold Row at h h';rw[h] at h';injection h' with h';injection h' with _ ht;exact cn ht
end
end
section
open Go.RowKit Go.ChangeShapes Go.WideShapes Go.ChangeAt
def Rd(w:World)(A:Option Addr)(n:Nat)(f:Nat->Value):Prop:=0<n->∃b o,A=some ⟨b,o,none⟩/\∀j,j<n->w.cell? ⟨b,o+j,none⟩=some (f j)
section
variable{w w':World}{A:Option Addr}{n:Nat}{f:Nat->Value}
theorem Rd.nil(w:World)(A:Option Addr)(f:Nat->Value):Rd w A 0 f:=fun h=>absurd h (by omega)
theorem aZ{w:World}{a:Addr}{v:Value}(h:w.cell? a=some v):a.block<w.heap.size:=by
 unfold World.cell? at h;split at h
 ·rename_i heq
  exact(Array.getElem?_eq_some_iff.1 heq).1
 ·cases h
theorem Rd.ab{S:List Nat}(h:Rd w A n f)(k:Aa S w w')(hA:∀a,A=some a->a.block∉S):Rd w' A n f:=fun hn=>by
 obtain⟨b,o,rfl,hc⟩:=h hn;exact⟨b,o,rfl,fun j hj=>(k.cell (p:=⟨b,o+j,none⟩) (aZ (hc j hj)) (hA ⟨b,o,none⟩ rfl)).trans (hc j hj)⟩
theorem Rd.aj(h:Rd w A n f)(k:Aa [] w w'):Rd w' A n f:=h.ab k (fun _ _=>by simp)
theorem Rd.congr{f':Nat->Value}(h:Rd w A n f)(hf:∀j,j<n->f j=f' j):Rd w A n f':=fun hn=>by
 obtain⟨b,o,e,hc⟩:=h hn;exact⟨b,o,e,fun j hj=>by rw[<-hf j hj];exact hc j hj⟩
theorem Rd.pf(h:Rd w A n f){m:Nat}(hm:m<=n):Rd w A m f:=fun hn=>by
 obtain⟨b,o,e,hc⟩:=h (by omega);exact⟨b,o,e,fun j hj=>hc j (by omega)⟩
theorem Rd.dq{g:Nat}{t:TypeId}{m:Nat}(h:Row w g t m f)(hn:n<=m):Rd w (some ⟨g,0,none⟩) n f:=fun _ =>
 ⟨g,0,rfl,fun j hj=>by rw[Nat.zero_add];exact h.cell j (by omega)⟩
end
structure DF(w:World)(A:Option Addr)(len cap:Nat)(f:Nat->Value):Prop where
 le:len<=cap
 aqc:cap<=maxLen
 none_:A=none->cap=0
 rd:Rd w A len f
theorem fW{a:Addr}(h:a.spot=none)(j:Nat):a.add j=⟨a.block,a.off+j,none⟩:=by
 obtain⟨b,o,s⟩:=a;simp at h;subst h;unfold Addr.add;by_cases hj:j=0<;>simp[hj]
theorem yE{w:World}{a:Addr}{v:Value}(h:w.cell? a=some v):a.spot=none:=by
 unfold World.cell? at h;split at h
 ·split at h
  ·cases h
  ·rename_i hs
   simpa using hs
 ·cases h
theorem Row.made(w:World)(e:TypeId)(z:Value)(n:Nat):Row (w.alloc (.cells (madeCells #[z] n) e)) w.heap.size e n (fun _=>z):=by
 refine Row.oG (heap_alloc_new w _) ?_;unfold madeCells;apply Array.ext
 ·simp
 ·intro i h1 h2;simp[Nat.mod_one]
theorem ab5{w:World}{g:Nat}{t:TypeId}{v:Value}(h:w.heap[g]?=some (.cells #[v] t (0,0))):Rd w (some ⟨g,0,none⟩) 1 (fun _=>v):=fun _ =>
 ⟨g,0,rfl,fun j hj=>by
  obtain rfl:j=0:=by omega
  simp[World.cell?,h]⟩
theorem tf:(Tryz.prog.info? 3).map (fun i=>(i.zero,i.size,i.bytes))=some (some (.int .i64 0),1,8):=by kernel_rfl
theorem dR:(Tryz.prog.info? 5).map (fun i=>(i.zero,i.size,i.bytes))=some (some (.int .u8 0),1,1):=by kernel_rfl
end
section
open Go.RowKit
def aK:Option Addr->List Nat
 |none=>[]
 |some a=>[a.block]
def Ly(w:World)(t:TypeId)(size:Nat)(A:Option Addr)(n c:Nat)(f:Nat->Value):Prop :=
 n<=c/\c<=maxLen/\(A=none->c=0)/\∀a,A=some a->∃g cur fr,a=⟨g,0,none⟩/\w.heap[g]?=some (.cells cur t fr)/\(fr=(0,0)\/n=c/\cur.size<=fr.1)/\c*size<=cur.size/\∀j,j<n*size->cur[j]?=some (f j)
section
variable{w w':World}{t:TypeId}{size:Nat}{A:Option Addr}{n c:Nat}{f:Nat->Value}
theorem Ly.nil(w:World)(t:TypeId)(size:Nat)(f:Nat->Value):Ly w t size none 0 0 f:=⟨Nat.le_refl _,by simp[maxLen],fun _=>rfl,fun a e=>by cases e⟩
theorem Ly.lt(h:Ly w t size A n c f){a:Addr}(e:A=some a):a.block<w.heap.size:=by
 obtain⟨g,cur,fr,rfl,hh,_⟩:=h.2.2.2 a e;exact(Array.getElem?_eq_some_iff.1 hh).1
theorem Ly.ab{S:List Nat}(h:Ly w t size A n c f)(k:Aa S w w')(hS:∀x,x∈aK A->x∉S):Ly w' t size A n c f :=
 ⟨h.1,h.2.1,h.2.2.1,fun a e=>by
  obtain⟨g,cur,fr,rfl,hh,r⟩:=h.2.2.2 a e;exact⟨g,cur,fr,rfl,(k.block g (Array.getElem?_eq_some_iff.1 hh).1 (hS g (by rw[e];exact List.mem_singleton.2 rfl))).trans hh,r⟩⟩
theorem Ly.aj(h:Ly w t size A n c f)(k:Aa [] w w'):Ly w' t size A n c f:=h.ab k (fun _ _ h=>by cases h)
theorem Ly.congr{f':Nat->Value}(h:Ly w t size A n c f)(hf:∀j,j<n*size->f j=f' j):Ly w t size A n c f' :=
 ⟨h.1,h.2.1,h.2.2.1,fun a e=>by
  obtain⟨g,cur,fr,rfl,hh,rI,hc,r⟩:=h.2.2.2 a e;exact⟨g,cur,fr,rfl,hh,rI,hc,fun j hj=>by rw[<-hf j hj];exact r j hj⟩⟩
theorem Ly.rd(h:Ly w t size A n c f):Rd w A (n*size) f:=fun hn=>by
 cases A with
 | none =>
  have h0:=h.2.2.1 rfl;have h1:=h.1;obtain rfl:n=0:=by omega
  simp at hn
 | some a =>
  obtain⟨g,cur,fr,rfl,hh,_,_,r⟩:=h.2.2.2 a rfl;refine⟨g,0,rfl,fun j hj=>?_⟩;rw[Nat.zero_add];have:=r j hj;simp only[World.cell?,hh];simpa using this
theorem Ly.th(h:Ly w t 1 A n c f):Rd w A n f:=by
 have:=h.rd
 rwa [Nat.mul_one] at this
theorem Ly.dq{g m:Nat}(h:Row w g t m f)(hn:n<=c)(hc:c*size<=m)(hm:c<=maxLen):Ly w t size (some ⟨g,0,none⟩) n c f :=
 ⟨hn,hm,(fun e=>by cases e),fun a e=>by
  injection e with e;subst e;refine⟨g,_,(0,0),rfl,h,.inl rfl,by simpa using hc,fun j hj=>?_⟩;have:n*size<=c*size:=Nat.mul_le_mul_right _ hn;have hjm:j<m:=by omega
  simp[hjm]⟩
theorem Ly.oG{g:Nat}{cs:Array Value}(h:w.heap[g]?=some (.cells cs t (0,0)))(hn:n<=c)(hc:c*size<=cs.size)(hm:c<=maxLen)(hf:∀j,j<n*size->cs[j]?=some (f j)):Ly w t size (some ⟨g,0,none⟩) n c f :=
 ⟨hn,hm,(fun e=>by cases e),fun a e=>by
  injection e with e;subst e;exact⟨g,cs,(0,0),rfl,h,.inl rfl,hc,hf⟩⟩
theorem Ly.set(h:Ly w t size A n c f){g:Nat}(e:A=some ⟨g,0,none⟩)(i:Nat)(u:Value):Ly (w.setCell ⟨g,i,none⟩ u) t size A n c (put f i u) :=
 ⟨h.1,h.2.1,h.2.2.1,fun a e2=>by
  obtain⟨g2,cur,fr,rfl,hh,rI,hc,r⟩:=h.2.2.2 a e2;rw[e] at e2;injection e2 with e2;injection e2 with e2;subst e2;refine⟨g,cur.setIfInBounds i u,fr,rfl,?_,by simpa using rI,by simpa using hc,fun j hj=>?_⟩
  ·simp[World.setCell,Array.getElem?_modify,hh]
  ·unfold put;by_cases kL:j=i
   ·subst kL;have:=r j hj;have av:=(Array.getElem?_eq_some_iff.1 this).1;simp[av]
   ·rw[if_neg kL,Array.getElem?_setIfInBounds_ne (fun e=>kL e.symm)];exact r j hj⟩
theorem Ly.bW(h:Ly w t size A n c f){p:Addr}(hp:∀x,x∈aK A->x≠p.block)(u:Value):Ly (w.setCell p u) t size A n c f :=
 h.ab ((Aa.refl [p.block] w).setCell p u (.inl (List.mem_singleton.2 rfl))) (fun x hx hm=>hp x hx (List.mem_singleton.1 hm))
end
theorem Ly.gD{w:World}{t t':TypeId}{s s':Nat}{A A':Option Addr}{n c n' c':Nat}{f f':Nat->Value}(h:Ly w t s A n c f)(h':Ly w t' s' A' n' c' f')(ht:t≠t'){x:Nat}(hx:x∈aK A):x∉aK A':=by
 intro hx'
 cases A with
 |none=>cases hx
 | some a =>
  cases A' with
  |none=>cases hx'
  | some a' =>
   obtain⟨g,cur,fr,rfl,hh,_⟩:=h.2.2.2 a rfl;obtain⟨g',aj2,fr',rfl,hh',_⟩:=h'.2.2.2 a' rfl;obtain rfl:=List.mem_singleton.1 hx;obtain rfl:=List.mem_singleton.1 hx';rw[hh] at hh';injection hh' with hh';injection hh' with _ e;exact ht e
theorem Ly.kR{w:World}{t:TypeId}{s:Nat}{A:Option Addr}{n c:Nat}{f:Nat->Value}(h:Ly w t s A n c f){x:Nat}(hx:x∈aK A):x<w.heap.size:=by
 cases A with
 |none=>cases hx
 | some a =>
  obtain rfl:=List.mem_singleton.1 hx;exact h.lt rfl
theorem Ly.yF{w:World}{t:TypeId}{A:Option Addr}{n c:Nat}{f:Nat->Value}(h:Ly w t 1 A n c f){j:Nat}(hj:j<n) :
  ∃g,A=some ⟨g,0,none⟩/\w.cell? ⟨g,j,none⟩=some (f j)/\w.frozen? ⟨g,j,none⟩=false:=by
 cases A with
 |none=>have:=h.2.2.1 rfl;have:=h.1;omega
 | some a =>
  obtain⟨g,cur,fr,rfl,hh,rI,_,r⟩:=h.2.2.2 a rfl;have:=r j (by omega);have kL:=(Array.getElem?_eq_some_iff.1 this).1;refine⟨g,rfl,by simp only[World.cell?,hh];simpa using this,?_⟩;rcases rI with rfl|⟨_,rI⟩
  ·simp[World.frozen?,hh]
  ·simp only[World.frozen?,hh];simp;omega
def BL(w w':World)(x:Nat)(t:TypeId)(N:Nat):Prop:=∀cur fr,w.heap[x]?=some (.cells cur t fr)->∃aj2,w'.heap[x]?=some (.cells aj2 t fr)/\aj2.size=cur.size/\∀j,j<N->aj2[j]?=cur[j]?
theorem BL.refl(w:World)(x:Nat)(t:TypeId)(N:Nat):BL w w x t N:=fun cur fr h=>⟨cur,h,rfl,fun _ _=>rfl⟩
theorem BL.of_eq{w w':World}{x:Nat}(h:w'.heap[x]?=w.heap[x]?)(t:TypeId)(N:Nat):BL w w' x t N:=fun cur fr hc=>⟨cur,h.trans hc,rfl,fun _ _=>rfl⟩
theorem tj(xs ys:Nat->Value)(N M:Nat)(j:Nat)(hj:j<N+M)(rest:List Value):((List.range N).map xs++(List.range M).map ys++rest)[j]?=some (if j<N then xs j else ys (j-N)):=by
 by_cases h:j<N
 ·rw[if_pos h,List.append_assoc,List.getElem?_append_left (by simpa using h)];simp[h]
 ·rw[if_neg h,List.append_assoc,List.getElem?_append_right (by simpa using h),List.getElem?_append_left (by simp;omega)];rw[List.getElem?_map,List.length_map,List.length_range,List.getElem?_range (by omega)];rfl
theorem oe{P:Program}(w:World)(t ty e:TypeId)(i:TypeInfo)(z:Value)(size bytes:Nat)(ht:P.underlying t=some (.slice e))(hi:P.info? e=some i)(hz:i.zero=some z)
  (og:i.size=size) (we:i.bytes=bytes) (hzs:z.cells.size=size) (ab2:0<size)
  (A:Option Addr) (n c:Nat) (f:Nat->Value) (hl:Ly w e size A n c f)
  (B:Option Addr) (m d:Nat) (g:Nat->Value) (hr:Rd w B (m*size) g) (hm:m<=d) (hB:B=none->d=0) (h1:∀j,j<m*size->(g j).oneCell'=true)
  (h63:n+m<=maxLen) (kS:(n+m)*bytes<=140737488355328) :
  ∃A' c' w',(Builtin.append_ #[t,t] ty #[.slice A n c,.slice B m d]).run P w=.ok (.slice A' (n+m) c') w'/\Ly w' e size A' (n+m) c' (fun j=>if j<n*size then f j else g (j-n*size))/\Aa (aK A) w w' /\
   (A'=A\/A'=some ⟨w.heap.size,0,none⟩)/\∀x,x∈aK A->BL w w' x e (n*size):=by
 subst og;subst we;have aqd:n+m<=9223372036854775807:=by simp only[maxLen] at h63;omega
 have agp:(n+m)*i.size=n*i.size+m*i.size:=Nat.add_mul _ _ _
 -- what the growing arm leaves
 have grown:∀(aeQ:Nat->Value) (old:Nat),(∀j,j<n*i.size->aeQ j=f j) ->
   Ly (w.drew.alloc (.cells (((List.range (n*i.size)).map aeQ).toArray++((List.range (m*i.size)).map g).toArray++Builtin.zeroCells z.cells (grownCap w (n+m) old e-(n+m))) e)) e i.size (some ⟨w.heap.size,0,none⟩) (n+m) (grownCap w (n+m) old e) (fun j=>if j<n*i.size then f j else g (j-n*i.size)):=by
  intro aeQ old ho;have wg:=grownCap_ge w (n+m) old e;refine⟨wg,grownCap_le_maxLen w (n+m) old e h63,(fun h=>by cases h),fun a ha=>?_⟩;injection ha with ha;subst ha;refine⟨_,_,(0,0),rfl,heap_alloc_new w.drew _,.inl rfl,?_,fun j hj=>?_⟩
  ·simp only[Array.size_append,List.size_toArray,List.length_map,List.length_range,size_zeroCells,hzs];rw[<-agp, <-Nat.add_mul];exact Nat.le_of_eq (by congr 1;omega)
  ·have hc:=tj aeQ g (n*i.size) (m*i.size) j (by omega) (Builtin.zeroCells z.cells (grownCap w (n+m) old e-(n+m))).toList;have e1:(((List.range (n*i.size)).map aeQ).toArray++((List.range (m*i.size)).map g).toArray++Builtin.zeroCells z.cells (grownCap w (n+m) old e-(n+m)))[j]?=(((List.range (n*i.size)).map aeQ++(List.range (m*i.size)).map g++(Builtin.zeroCells z.cells (grownCap w (n+m) old e-(n+m))).toList))[j]?:=by
    rw[<-Array.getElem?_toList];simp
   rw[e1,hc];by_cases h:j<n*i.size
   ·simp only[if_pos h,ho j h]
   ·simp only[if_neg h]
 have kept:∀o:Obj,Aa (aK A) w (w.drew.alloc o):=fun o=>(Aa.refl _ w).drew.alloc o;rcases B with _|ad
 ·obtain rfl:=hB rfl;obtain rfl:m=0:=by omega
  refine⟨A,c,w,?_,⟨by have:=hl.1;omega,hl.2.1,hl.2.2.1,fun a ha=>?_⟩,Aa.refl _ _,.inl rfl,fun x _=>BL.refl _ _ _ _⟩
  ·have:=hl.1;rcases A with _|a
   ·simp[Builtin.append_,run_underlying ht,sizeOf,typeInfo,hi,Builtin.lenOf,Builtin.firstCells,this]
   ·simp[Builtin.append_,run_underlying ht,sizeOf,typeInfo,hi,Builtin.lenOf,Builtin.firstCells,this,storeCells]
  ·obtain⟨q,cur,fr,rfl,hh,rI,hc,r⟩:=hl.2.2.2 a ha;exact⟨q,cur,fr,rfl,hh,rI,hc,fun j hj=>by
    have kL:j<n*i.size:=by simpa using hj
    simp only[if_pos kL];exact r j kL⟩
 ·have agq:∀(j:Nat) (u:Value),((List.range (m*i.size)).map g)[j]?=some u->w.cell? (ad.add j)=some u:=by
   intro j u hu;have hj:j<m*i.size:=by
    have:=(List.getElem?_eq_some_iff.1 hu).1;simpa using this
   obtain⟨b,o,he,hc⟩:=hr (by omega);injection he with he;subst he;rw[fW rfl];have:g j=u:=by
    simp[hj] at hu;exact hu
   rw[<-this];exact hc j hj
  have ami:∀u∈(List.range (m*i.size)).map g,u.oneCell'=true:=by
   intro u hu;simp at hu;obtain⟨j,hj,rfl⟩:=hu;exact h1 j hj
  rcases A with _|a
  ·have yG:=hl.2.2.1 rfl;subst yG;have hn0:n=0:=by have:=hl.1;omega
   subst hn0;by_cases hm0:m=0
   ·subst hm0;refine⟨none,0,w,?_,Ly.nil _ _ _ _,Aa.refl _ _,.inl rfl,fun x _=>BL.refl _ _ _ _⟩;simp[Builtin.append_,run_underlying ht,sizeOf,typeInfo,hi,Builtin.lenOf,Builtin.firstCells,loadCells,loadCellsFrom]
   ·have jM:=run_append_nil (P:=P) w t ty e i z ht hi hz ad m d ((List.range (m*i.size)).map g) (by simp) agq (by omega) (by omega) (by have hb:=kS;simp only[Nat.zero_add] at hb;omega);have hg:=grown f 0 (fun _ _=>rfl);simp only[Nat.zero_mul,List.range_zero,List.map_nil,Nat.zero_add,Array.empty_append,Nat.not_lt_zero,if_false,Nat.sub_zero] at hg ⊢;exact⟨_,_,_,jM,hg,kept _,.inr rfl,fun x hx=>by cases hx⟩
  ·obtain⟨q,cur,fr,rfl,hh,rI,wT,r⟩:=hl.2.2.2 a rfl;have hlen:∀j,j<n*i.size->j<cur.size:=fun j hj=>(Array.getElem?_eq_some_iff.1 (r j hj)).1;by_cases iP:n+m<=c
   ·have ef:n*i.size+((List.range (m*i.size)).map g).length<=cur.size:=by
     have:=Nat.mul_le_mul_right i.size iP;simp only[List.length_map,List.length_range];omega
    by_cases hm0:m=0
    ·subst hm0;refine⟨_,c,w,?_,⟨by have:=hl.1;omega,hl.2.1,hl.2.2.1,fun a ha=>?_⟩,Aa.refl _ _,.inl rfl,fun x _=>BL.refl _ _ _ _⟩
     ·have:=hl.1;simp[Builtin.append_,run_underlying ht,sizeOf,typeInfo,hi,Builtin.lenOf,Builtin.firstCells,this,storeCells,loadCells,loadCellsFrom]
     ·injection ha with ha;subst ha;exact⟨q,cur,fr,rfl,hh,rI,wT,fun j hj=>by
       have kL:j<n*i.size:=by simpa using hj
       simp only[if_pos kL];exact r j kL⟩
    have amj:fr=(0,0):=by
     rcases rI with h|⟨h,_⟩
     ·exact h
     ·omega
    subst amj;have jM:=run_append_room (P:=P) w t ty e i ht hi q n c cur hh ad m d _ (by simp) agq ami iP ef;refine⟨_,_,_,jM,⟨iP,hl.2.1,(fun h=>by cases h),fun a ha=>?_⟩,⟨rfl,rfl,rfl,by simp,fun k _ hk=>setRow_other w q k _ (fun e=>hk (by rw[e];exact List.mem_singleton.2 rfl))⟩,.inl rfl,fun x hx arR fr2 lU=>?_⟩
    rotate_left
    ·obtain rfl:=List.mem_singleton.1 hx;rw[hh] at lU;injection lU with lU;injection lU with lU _ hf2;subst lU;subst hf2;refine⟨_,setRow_heap w x cur _ e _ hh,?_,fun j hj=>?_⟩
     ·simp only[List.size_toArray,List.length_append,List.length_take,List.length_drop,Array.length_toList,List.length_map,List.length_range] at ef ⊢;omega
     ·rw[List.getElem?_toArray,List.append_assoc,List.getElem?_append_left (by have:=hlen j hj;simp;omega),List.getElem?_take,if_pos hj,Array.getElem?_toList]
    injection ha with ha;subst ha;refine⟨q,_,(0,0),rfl,setRow_heap w q cur _ e _ hh,.inl rfl,?_,fun j hj=>?_⟩
    ·simp only[List.size_toArray,List.length_append,List.length_take,List.length_drop,Array.length_toList,List.length_map,List.length_range] at ef ⊢;have:=Nat.mul_le_mul_right i.size iP;omega
    ·have aoj:cur.toList.take (n*i.size)=(List.range (n*i.size)).map f:=by
      apply List.ext_getElem?;intro k;by_cases hk:k<n*i.size
      ·rw[List.getElem?_take,if_pos hk,Array.getElem?_toList,r k hk];simp[hk]
      ·rw[List.getElem?_take,if_neg hk,List.getElem?_eq_none (by simp;omega)]
     rw[aoj,List.getElem?_toArray,tj f g (n*i.size) (m*i.size) j (by omega)]
   ·have holds:∀(j:Nat) (u:Value),((List.range (n*i.size)).map f)[j]?=some u->w.cell? ((⟨q,0,none⟩:Addr).add j)=some u:=by
     intro j u hu;have hj:j<n*i.size:=by
      have:=(List.getElem?_eq_some_iff.1 hu).1;simpa using this
     rw[fW rfl];have h2:f j=u:=by
      simp[hj] at hu;exact hu
     have:=r j hj;rw[h2] at this;simp only[World.cell?,hh];simpa using this
    have jM:=run_append_grow (P:=P) w t ty e i z ht hi hz ⟨q,0,none⟩ n c ((List.range (n*i.size)).map f) (by simp) holds ad m d ((List.range (m*i.size)).map g) (by simp) agq (by omega) (by omega) (growslice_fits (by omega) kS);exact⟨_,_,_,jM,grown f c (fun _ _=>rfl),kept _,.inr rfl,fun x hx=>by
     obtain rfl:=List.mem_singleton.1 hx;exact BL.of_eq (Below.heap_alloc w.drew _ _ (Array.getElem?_eq_some_iff.1 hh).1) _ _⟩
theorem qv{P:Program}{w:World}{ops:Array Oper}{rest:List Oper}{o:Oper}{a:Act}{Q:Exit->Act->World->Prop}(hgd:o.guard=none)(s x:Operand)(t:TypeId)
  (ho:o.op=.call { callee:=.builtin .append,args := #[s,x],argTypes := #[t,t] })
  (e:TypeId) (i:TypeInfo) (z:Value) (size bytes:Nat) (ht:P.underlying t=some (.slice e)) (hi:P.info? e=some i) (hz:i.zero=some z)
  (og:i.size=size) (we:i.bytes=bytes) (hzs:z.cells.size=size) (ab2:0<size)
  (A:Option Addr) (n c:Nat) (f:Nat->Value) (hs:a.eval s=.slice A n c) (hl:Ly w e size A n c f)
  (B:Option Addr) (m d:Nat) (g:Nat->Value) (hx:a.eval x=.slice B m d) (hr:Rd w B (m*size) g) (hm:m<=d) (hB:B=none->d=0) (h1:∀j,j<m*size->(g j).oneCell'=true)
  (h63:n+m<=maxLen) (kS:(n+m)*bytes<=140737488355328)
  (h:∀A' c' w',Ly w' e size A' (n+m) c' (fun j=>if j<n*size then f j else g (j-n*size))->Aa (aK A) w w'->(A'=A\/A'=some ⟨w.heap.size,0,none⟩)->(∀x,x∈aK A->BL w w' x e (n*size))->wpList P ops Q rest (a.put o.dst (.slice A' (n+m) c')) w'):wpList P ops Q (o::rest) a w:=by
 refine wpList_plain hgd fun K hK=>?_;obtain⟨A',c',w',hr,h2,h3,h5,h6⟩:=oe (P:=P) w t o.type e i z size bytes ht hi hz og we hzs ab2 A n c f hl B m d g hr hm hB h1 h63 kS;unfold Oper.wp execOp;simp only[ho,resolve,invoke,builtin,Sem.run_bind,Sem.run_pure,Result.andThen_ok,List.map_toArray,List.map_cons,List.map_nil,hs,hx,hr];exact hK _ _ (h A' c' w' h2 h3 h5 h6)
def lay(f:Nat->Value)(o m:Nat)(s:Nat->Value):Nat->Value:=fun j=>if o<=j/\j<o+m then s (j-o) else f j
theorem tm(n o m:Nat)(f s:Nat->Value)(h:o+m<=n) :
  (((Array.range n).map f).toList.take o++(List.range m).map s++((Array.range n).map f).toList.drop (o+m)).toArray=(Array.range n).map (lay f o m s):=by
 apply Array.ext_getElem?;intro j;rw[List.getElem?_toArray];by_cases h1:j<o
 ·rw[List.append_assoc,List.getElem?_append_left (by simp;omega),List.getElem?_take,if_pos h1];have hn:j<n:=by omega
  simp[lay,hn];omega
 ·by_cases h2:j<o+m
  ·rw[List.getElem?_append_left (by simp;omega),List.getElem?_append_right (by simp;omega)];have e1:(((Array.range n).map f).toList.take o).length=o:=by simp;omega
   rw[e1,List.getElem?_map,List.getElem?_range (by omega)];have hn:j<n:=by omega
   have h3:o<=j/\j<o+m:=⟨by omega,h2⟩;simp[lay,hn,h3]
  ·rw[List.getElem?_append_right (by simp;omega)];have e1:(((Array.range n).map f).toList.take o++(List.range m).map s).length=o+m:=by simp;omega
   rw[e1,List.getElem?_drop,show o+m+(j-(o+m))=j from by omega];by_cases hn:j<n
   ·have h3:¬(o<=j/\j<o+m):=by omega
    simp[lay,hn,h3]
   ·simp[hn]
section
variable{P:Program}{w:World}{dT sT ty elem:TypeId}{g o dLen dCap n:Nat}{t:TypeId}{f s:Nat->Value}
theorem rJ(hu:P.underlying dT=some (.slice elem))(hs:(P.info? elem).map (·.size)=some 1)(hr:Row w g t n f)
  (A:Option Addr) (oH sf m:Nat) (hm:m=Nat.min oH dLen) (ha:Rd w A m s) (hA:A=none->oH=0/\sf=0) (ef:o+m<=n) (h1:∀j,j<m->(s j).oneCell'=true) :
  ∃w',(Builtin.copy_ #[dT,sT] ty #[.slice (some ⟨g,o,none⟩) dLen dCap,.slice A oH sf]).run P w=.ok (goInt m) w'/\Row w' g t n (lay f o m s)/\Aa [g] w w':=by
 by_cases h0:m=0
 ·subst h0;refine⟨w,run_copy_none (P:=P) w dT sT ty elem _ A dLen dCap oH sf hu hs hm.symm,hr.congr (fun j hj=>?_),Aa.refl _ _⟩;unfold lay;rw[if_neg (by omega)]
 ·obtain⟨b,q,rfl,hc⟩:=ha (by omega)
  have jM:=run_copy_row (P:=P) w dT sT ty elem g o dLen dCap ⟨b,q,none⟩ oH sf _ t ((List.range m).map s) hu hs hr (by simpa using hm) (fun j v hv=>by
   have hj:j<m:=by
    have:=(List.getElem?_eq_some_iff.1 hv).1;simpa using this
   rw[fW rfl];have e:s j=v:=by
    simp[hj] at hv;exact hv
   rw[<-e];exact hc j hj) (by simpa using ef) (fun v hv=>by
   simp at hv;obtain⟨j,hj,rfl⟩:=hv;exact h1 j hj)
  simp only[List.length_map,List.length_range] at jM;rw[tm n o m f s ef] at jM;exact⟨_,jM,setRow_heap w g _ _ t _ hr,⟨rfl,rfl,rfl,by simp,fun k _ hk=>setRow_other w g k _ (fun e=>hk (by rw[e];exact List.mem_singleton.2 rfl))⟩⟩
theorem yH(hu:P.underlying dT=some (.slice elem))(hs:(P.info? elem).map (·.size)=some 1)(hr:Row w g t n f)
  (x:ByteArray) (hle:x.size<=dLen) (ef:o+x.size<=n) :
  ∃w',(Builtin.copy_ #[dT,sT] ty #[.slice (some ⟨g,o,none⟩) dLen dCap,.string x]).run P w=.ok (goInt x.size) w'/\Row w' g t n (lay f o x.size (fun j=>.int .u8 ((x.data.toList.getD j 0).toNat:Int)))/\Aa [g] w w':=by
 have jM:=Lib.run_copy_row_string (P:=P) w dT sT ty elem g o dLen dCap x _ t hu hs hr hle (by simpa using ef);have e:Lib.byteCells x.data.toList=(List.range x.size).map (fun j=>Value.int .u8 ((x.data.toList.getD j 0).toNat:Int)):=by
  apply List.ext_getElem?;intro j;have vP:x.data.toList.length=x.size:=by simp
  by_cases hj:j<x.size
  ·have h2:j<x.data.toList.length:=by omega
   simp[Lib.byteCells,hj]
  ·have h2:x.data.toList.length<=j:=by omega
   rw[List.getElem?_eq_none (by simp[Lib.byteCells];omega),List.getElem?_eq_none (by simp;omega)]
 rw[e,tm n o x.size f _ ef] at jM;exact⟨_,jM,setRow_heap w g _ _ t _ hr,⟨rfl,rfl,rfl,by simp,fun k _ hk=>setRow_other w g k _ (fun e=>hk (by rw[e];exact List.mem_singleton.2 rfl))⟩⟩
theorem tq{ops:Array Oper}{rest:List Oper}{op:Oper}{a:Act}{Q:Exit->Act->World->Prop}(hgd:op.guard=none)(d x:Operand)
  (ho:op.op=.call { callee:=.builtin .copy,args := #[d,x],argTypes := #[dT,sT] })
  (hu:P.underlying dT=some (.slice elem)) (hs:(P.info? elem).map (·.size)=some 1) (hd:a.eval d=.slice (some ⟨g,o,none⟩) dLen dCap) (hr:Row w g t n f)
  (A:Option Addr) (oH sf m:Nat) (hx:a.eval x=.slice A oH sf) (hm:m=Nat.min oH dLen) (ha:Rd w A m s) (hA:A=none->oH=0/\sf=0) (ef:o+m<=n) (h1:∀j,j<m->(s j).oneCell'=true)
  (h:∀w',Row w' g t n (lay f o m s)->Aa [g] w w'->wpList P ops Q rest (a.put op.dst (goInt m)) w'):wpList P ops Q (op::rest) a w:=by
 refine wpList_plain hgd fun K hK=>?_;obtain⟨w',jM,h2,h3⟩:=rJ (P:=P) (sT:=sT) (ty:=op.type) (dLen:=dLen) (dCap:=dCap) hu hs hr A oH sf m hm ha hA ef h1;unfold Oper.wp execOp;simp only[ho,resolve,invoke,builtin,Sem.run_bind,Sem.run_pure,Result.andThen_ok,List.map_toArray,List.map_cons,List.map_nil,hd,hx,jM];exact hK _ _ (h w' h2 h3)
theorem si{ops:Array Oper}{rest:List Oper}{op:Oper}{a:Act}{Q:Exit->Act->World->Prop}(hgd:op.guard=none)(d x:Operand)
  (ho:op.op=.call { callee:=.builtin .copy,args := #[d,x],argTypes := #[dT,sT] })
  (hu:P.underlying dT=some (.slice elem)) (hs:(P.info? elem).map (·.size)=some 1) (hd:a.eval d=.slice (some ⟨g,o,none⟩) dLen dCap) (hr:Row w g t n f)
  (y:ByteArray) (hx:a.eval x=.string y) (hle:y.size<=dLen) (ef:o+y.size<=n)
  (h:∀w',Row w' g t n (lay f o y.size (fun j=>.int .u8 ((y.data.toList.getD j 0).toNat:Int)))->Aa [g] w w'->wpList P ops Q rest (a.put op.dst (goInt y.size)) w'):wpList P ops Q (op::rest) a w:=by
 refine wpList_plain hgd fun K hK=>?_;obtain⟨w',jM,h2,h3⟩:=yH (P:=P) (sT:=sT) (ty:=op.type) (dLen:=dLen) (dCap:=dCap) hu hs hr y hle ef;unfold Oper.wp execOp;simp only[ho,resolve,invoke,builtin,Sem.run_bind,Sem.run_pure,Result.andThen_ok,List.map_toArray,List.map_cons,List.map_nil,hd,hx,jM];exact hK _ _ (h w' h2 h3)
end
theorem wU:(Tryz.prog.info? 5).map (·.size)=some 1:=by kernel_rfl
def agg(n:Nat)(f:Nat->Value):Value:=.agg ((Array.range n).map f)
def eS(n:Nat)(f:Nat->Value)(t:TypeId):Obj:=.cells ((Array.range n).map f) t (0,0)
theorem wV(n:Nat)(f:Nat->Value):(agg n f).cells=(Array.range n).map f:=rfl
theorem br{n:Nat}{f g:Nat->Value}(h:∀j,j<n->f j=g j):agg n f=agg n g:=by
 unfold agg;congr 1;apply Array.ext
 ·simp
 ·intro i h1 h2;simp;exact h i (by simpa using h1)
theorem Row.obj(w:World)(t:TypeId)(n:Nat)(f:Nat->Value):Row (w.alloc (eS n f t)) w.heap.size t n f:=heap_alloc_new w _
section
variable{P:Program}{w:World}{ty:TypeId}{g o n N:Nat}{t:TypeId}{f s:Nat->Value}{d:TypeDesc}
theorem iv(hu:P.underlying ty=some d)(hd:(match d with | .struct _ | .array _ _=>true|_=>false)=true)(w:World):(isAgg ty).run P w=.ok true w:=by
 unfold isAgg;rw[Sem.run_bind,run_underlying hu w]
 cases d<;>simp_all
theorem fH(hr:Row w g t N f)(hn:o+n<=N)(hu:P.underlying ty=some d)(hd:(match d with | .struct _ | .array _ _=>true|_=>false)=true)(hi:(P.info? ty).map (·.size)=some n) :
  (Instr.loadAt ty (.pointer (some ⟨g,o,none⟩))).run P w=.ok (agg n (fun j=>f (o+j))) w:=by
 have hl:=run_loadCells_list (P:=P) w ⟨g,o,none⟩ ((List.range n).map fun j=>f (o+j)) (fun j v hv=>by
  have hj:j<n:=by
   have:=(List.getElem?_eq_some_iff.1 hv).1;simpa using this
  rw[fW rfl];have e:f (o+j)=v:=by
   simp[hj] at hv;exact hv
  rw[<-e];exact hr.cell (o+j) (by omega))
 simp only[List.length_map,List.length_range] at hl;have e:((List.range n).map fun j=>f (o+j)).toArray=(Array.range n).map fun j=>f (o+j):=by
  apply Array.ext
  ·simp
  ·intro i h1 h2;simp
 rw[e] at hl
 cases hq:P.info? ty with
 |none=>simp[hq] at hi
 | some i =>
  have hs:i.size=n:=by simpa[hq] using hi
  simp[Instr.loadAt,Instr.sureAddr,loadVar,Sem.run_bind,iv hu hd,sizeOf,typeInfo,hq,hs,hl,agg]
theorem wh(hr:Row w g t N f)(hn:o+n<=N)(hi:(P.info? ty).map (·.size)=some n)(h1:∀j,j<n->(s j).oneCell'=true) :
  ∃w',(Instr.storeAt ty (.pointer (some ⟨g,o,none⟩)) (agg n s)).run P w=.ok () w'/\Row w' g t N (lay f o n s)/\Aa [g] w w':=by
 have bq:=run_storeCells_at P g o t ((List.range n).map s) 0 _ w hr (by simpa using hn) (fun v hv=>by
  simp at hv;obtain⟨j,hj,rfl⟩:=hv;exact h1 j hj)
 simp only[Nat.add_zero,List.length_map,List.length_range] at bq;rw[tm N o n f s hn] at bq;have e:((agg n s).cells).toList=(List.range n).map s:=by
  rw[wV];apply List.ext_getElem?;intro j;by_cases hj:j<n<;>simp[hj]
 have ez:((agg n s).cells).size=n:=by simp[wV]
 refine⟨_,?_,setRow_heap w g _ _ t _ hr,⟨rfl,rfl,rfl,by simp,fun k _ hk=>setRow_other w g k _ (fun e=>hk (by rw[e];exact List.mem_singleton.2 rfl))⟩⟩
 cases hq:P.info? ty with
 |none=>simp[hq] at hi
 | some i =>
  have hs:i.size=n:=by simpa[hq] using hi
  simp only[Instr.storeAt,Instr.sureAddr,storeVar,Sem.run_bind,Sem.run_pure,Result.andThen_ok,sizeOf,typeInfo,run_program,hq,hs,ez,e];simp only[ne_eq,not_true_eq_false,if_false];exact bq
theorem aah(elem:TypeId)(n:Nat)(s:Nat->Value)(w:World):(Instr.box elem (agg n s)).run P w=.ok (.pointer (some ⟨w.heap.size,0,none⟩)) (w.alloc (eS n s elem)):=rfl
theorem oh(T e:TypeId)(len k:Nat)(hT:P.underlying T=some (.array len e))(hk:k<len)(hu:∀w:World,(isAgg e).run P w=.ok false w)(hi:(P.info? e).map (·.size)=some 1)(w:World) :
  (Instr.index T (agg len s) (.int .i64 (k:Int))).run P w=.ok (s k) w:=by
 cases hq:P.info? e with
 |none=>simp[hq] at hi
 | some i =>
  have hs:i.size=1:=by simpa[hq] using hi
  have hk2:(0:Int)<=(k:Int)/\(k:Int)<len:=by omega
  unfold agg;simp[Instr.index,asIntOf,run_underlying hT,part,hu,sizeOf,typeInfo,hq,hs,hk]
end
theorem aai{P:Program}(F:Nat->Option Bool×Unit->Sem (ForInStep (Option Bool×Unit)))(b:Nat->Bool):∀(l:List Nat),(∀i,i∈l->∀w:World,(F i (none,())).run P w=.ok (if b i then .yield (none,()) else .done (some false,())) w)->∀w:World,
  (forIn l ((none,()):Option Bool×Unit) F).run P w=.ok (if l.all b then none else some false,()) w
 | [],_,w=>rfl
 | i::l,h,w=>by
  simp only[List.forIn_cons,Sem.run_bind,h i (List.mem_cons_self ..),Result.andThen_ok]
  cases hb:b i with
  |true=>simpa[hb] using aai F b l (fun j hj=>h j (List.mem_cons_of_mem _ hj)) w
  |false=>simp[hb]
theorem yI{P:Program}{e:TypeId}{k:IntKind}(he:P.underlying e=some (.int k))(len i:Nat)(h:i<len)(a:Nat->Int)(w:World) :
  (part e ((Array.range len).map fun j=>.int k (a j)) (i*1)).run P w=.ok (.int k (a i)) w:=by
 have hg:(isAgg e).run P w=.ok false w:=by
  unfold isAgg;rw[Sem.run_bind,run_underlying he w];rfl
 simp[part,hg,h]
theorem lK{P:Program}{T e:TypeId}{len:Nat}{k:IntKind}(d:Nat)(a b:Nat->Int)(hT:P.underlying T=some (.array len e))(he:P.underlying e=some (.int k))(hi:(P.info? e).map (·.size)=some 1)(w:World) :
  (Op.equalIn (d+2) T (agg len fun j=>.int k (a j)) (agg len fun j=>.int k (b j))).run P w=.ok ((List.range len).all fun j=>a j == b j) w:=by
 have hs:∀w:World,(sizeOf e).run P w=.ok 1 w:=fun w=>by
  cases hq:P.info? e with
  |none=>simp[hq] at hi
  | some i =>
   have hs:i.size=1:=by simpa[hq] using hi
   simp[sizeOf,typeInfo,hq,hs]
 unfold agg;unfold Op.equalIn;simp only[Sem.run_bind,run_underlying hT,Result.andThen_ok,hs];rw[Std.Legacy.Range.forIn_eq_forIn_range'];rw[aai (P:=P) _ (fun j=>a j == b j)]
 ·simp[Std.Legacy.Range.size];by_cases hA:((List.range len).all fun j=>a j == b j)=true
  ·have h2:∀x,x<len->a x=b x:=by simpa using hA
   rw[if_pos h2,hA];rfl
  ·have h2:¬ ∀x,x<len->a x=b x:=fun h=>hA (by simpa using h);rw[if_neg h2,Bool.eq_false_iff.2 hA];rfl
 ·intro i hi2 w;have av:i<len:=by simpa[Std.Legacy.Range.size] using hi2
  simp only[Sem.run_bind,yI he len i av,Result.andThen_ok,run_equalIn_int w d e k k _ _ he]
  cases hq:(a i == b i)<;>simp
theorem aaj{P:Program}{T e:TypeId}{len:Nat}{k:IntKind}(a b:Nat->Int)(hT:P.underlying T=some (.array len e))(he:P.underlying e=some (.int k))(hi:(P.info? e).map (·.size)=some 1)(w:World) :
  (binOp .eql T (agg len fun j=>.int k (a j)) (agg len fun j=>.int k (b j))).run P w=.ok (.bool ((List.range len).all fun j=>a j == b j)) w:=by
 have h:=lK (P:=P) 9998 a b hT he hi w;unfold agg at h ⊢;rw[run_eql_struct,h];rfl
theorem aak{P:Program}{T e:TypeId}{len:Nat}{k:IntKind}(a b:Nat->Int)(hT:P.underlying T=some (.array len e))(he:P.underlying e=some (.int k))(hi:(P.info? e).map (·.size)=some 1)(w:World) :
  (binOp .neq T (agg len fun j=>.int k (a j)) (agg len fun j=>.int k (b j))).run P w=.ok (.bool (!(List.range len).all fun j=>a j == b j)) w:=by
 have h:=lK (P:=P) 9998 a b hT he hi w;unfold agg at h ⊢;rw[run_neq_struct,h];rfl
theorem wW{P:Program}(op:BinOp)(T:TypeId)(x y:Operand)(n m:Nat)(f g:Nat->Value)(hm:P.eqGuardType P.depth T=false)(w:World):(eqGuard op T x y (agg n f) (agg m g)).run P w=.ok () w:=by
 unfold agg;exact run_eqGuard_agg w op T x y _ _ hm
section
variable{P:Program}{w:World}{ops:Array Oper}{rest:List Oper}{op:Oper}{a:Act}{Q:Exit->Act->World->Prop}{T:TypeId}{n:Nat}{f:Nat->Value}
end
section
variable{P:Program}{w:World}{ops:Array Oper}{rest:List Oper}{op:Oper}{a:Act}{K:Act->World->Prop}{Q:Exit->Act->World->Prop}{T e:TypeId}{n len:Nat}{f g:Nat->Value}{d:TypeDesc}
end
section
variable{P:Program}{w:World}{ops:Array Oper}{rest:List Oper}{op:Oper}{a:Act}{Q:Act->Prop}{T e ty t:TypeId}{n N len g o:Nat}{f:Nat->Value}{d:TypeDesc}
end
end
section
structure Am(P:Program)(C:World->Prop)(s:Sem Value)(K:Value->Prop):Prop where
 ex:∃v,(∀w,C w->s.run P w=.ok v w)/\K v
structure Ag(C:World->Prop)(a:Addr)(K:Value->Prop):Prop where
 ex:∃v,(∀w,C w->w.cell? a=some v)/\K v
structure DV(P:Program)(C:World->Prop)(f:FuncId)(args:Array Value)(K:Value->Prop):Prop where
 ex:∃v,(∀w,C w->Spec P f args w fun u w'=>u=v/\C w')/\(∃w,C w)/\K v
structure DW(P:Program)(C:World->Prop)(b:Builtin)(argTypes:Array TypeId)(type:TypeId)(consts:Array Bool)(args:Array Value)(K:Value->Prop):Prop where
 ex:∃v,(∀w,C w->(builtin b argTypes type consts args).run P w=.ok (.value v) w)/\K v
def amk(P:Program)(C:World->Prop)(op:BinOp)(xt:TypeId)(x y:Operand)(vx vy:Value)(K:Value->Prop):Prop :=
 match vx,vy with
 | .int k a,.int k' b=>(match op with
  |.add=>cond (Nat.beq (ik k') (ik k)) (Ar k (a+b) fun v=>K v) False
  |.sub=>cond (Nat.beq (ik k') (ik k)) (Ar k (a-b) fun v=>K v) False
  |.mul=>cond (Nat.beq (ik k') (ik k)) (Ar k (a*b) fun v=>K v) False
  |.quo=>cond (Nat.beq (ik k') (ik k)) (Dv .quo k a b fun v=>K v) False
  |.rem=>cond (Nat.beq (ik k') (ik k)) (Dv .rem k a b fun v=>K v) False
  |.and=>cond (Nat.beq (ik k') (ik k)) (K (.int k (fV .and k a b))) False
  |.or=>cond (Nat.beq (ik k') (ik k)) (K (.int k (fV .or k a b))) False
  |.xor=>cond (Nat.beq (ik k') (ik k)) (K (.int k (fV .xor k a b))) False
  |.andNot=>cond (Nat.beq (ik k') (ik k)) (K (.int k (fV .andNot k a b))) False
  |.shl=>Sh .shl k a b fun v=>K v
  |.shr=>Sh .shr k a b fun v=>K v
  |.eql=>cond (Nat.beq (ik k') (ik k)) (K (.bool (decide (a=b)))) False
  |.neq=>cond (Nat.beq (ik k') (ik k)) (K (.bool (!decide (a=b)))) False
  |.lss=>cond (Nat.beq (ik k') (ik k)) (K (.bool (decide (a<b)))) False
  |.leq=>cond (Nat.beq (ik k') (ik k)) (K (.bool (decide (a<=b)))) False
  |.gtr=>cond (Nat.beq (ik k') (ik k)) (K (.bool (decide (a > b)))) False
  |.geq=>cond (Nat.beq (ik k') (ik k)) (K (.bool (decide (a≥b)))) False)
 |vx,vy=>Am P C (do eqGuard op xt x y vx vy;binOp op xt vx vy) K
def evQ(P:Program)(T:TT)(C:World->Prop)(o:Oper)(f:Fr)(K:Value->Prop):Prop :=
 match o.op with
 |.move x=>fx f x fun v=>K v
 |.assign x=>fx f x fun v=>K v
 |.pick c a b=>fx f c fun vc=>fx f a fun va=>fx f b fun vb=>(match vc with | .bool t=>Pk t va vb fun v=>K v|_=>False)
 | .binOp op xt x y _=>fx f x fun vx=>fx f y fun vy=>wP T xt fun d=>(match d with
  |.int _=>amk P C op xt x y vx vy K
  |_=>Am P C (do eqGuard op xt x y vx vy;binOp op xt vx vy) K)
 | .unOp op _ x=>fx f x fun vx=>(match op,vx with
  |.not,.bool b=>K (.bool (!b))
  |.neg,.int k n=>Ar k (0-n) fun v=>K v
  |op,vx=>Am P C (Op.unary op vx) K)
 | .convert src dst x=>fx f x fun vx=>wP T src fun _=>wP T dst fun d=>(match d,vx with
  |.int k,.int _ n=>Ar k n fun v=>K v
  |_,vx=>Am P C (convert src dst vx) K)
 |.makeInterface t x=>fx f x fun vx=>wP T t fun d=>(match d with | .ifc=>False|_=>K (.iface t vx))
 |.extract x i=>fx f x fun vx=>(match vx with | .tuple vs=>ta vs.toList i fun v=>K v|_=>False)
 |.nilCheck x=>fx f x fun vx=>(match vx with | .pointer (some a)=>K (.pointer (some a))|_=>False)
 | .fieldAddr s x i=>fx f x fun vx=>wP T s fun d=>(match d,vx with
  |.st sb,.pointer (some ⟨g,o,none⟩)=>ta sb i fun m=>(match m with|some n=>K (.pointer (some ⟨g,o+n,none⟩))|none=>False)
  |_,_=>False)
 | .indexAddr t x i=>fx f x fun vx=>fx f i fun vi=>wP T t fun d=>(match d,vx,vi with
  |.arr len _ sz,.pointer (some ⟨g,o,none⟩),.int _ i=>Ix i len fun k=>aeO k sz fun m=>K (.pointer (some ⟨g,o+m,none⟩))
  |.sl _ sz,.slice (some ⟨g,o,none⟩) len _,.int _ i=>Ix i len fun k=>aeO k sz fun m=>K (.pointer (some ⟨g,o+m,none⟩))
  |_,_,_=>False)
 |.index t x i=>fx f x fun vx=>fx f i fun vi=>Am P C (Instr.index t vx vi) K
 |.field t x i=>fx f x fun vx=>Am P C (Instr.field t vx i) K
 |.load t x=>fx f x fun vx=>wP T t fun d=>(match vx with | .pointer (some a)=>cond d.cell (Ag C a K) (Am P C (loadVar t a) K)|_=>False)
 |.build t parts=>agn f parts.toList fun l=>Am P C (Instr.build t l.toArray) K
 |.slice t x lo hi mx=>fx f x fun vx=>aac f lo fun vl=>aac f hi fun vh=>aac f mx fun vm=>Am P C (Instr.sliceAt t vx vl vh vm) K
 |.makeFunc fn a b=>wc f a.toList fun va=>wc f b.toList fun vb=>K (.func fn va.toArray vb.toArray)
 |.lookup t x i ok=>fx f x fun vx=>fx f i fun vi=>Am P C (Instr.lookup t vx vi ok) K
 | .call c=>(match c.callee with
  | .value g=>fx f g fun vg=>wc f c.args.toList fun vs=>(match vg with
   |.func (.func fid) first cap=>aeN first.toList vs fun l1=>aeN l1 cap.toList fun l2=>DV P C fid l2.toArray K
   |_=>False)
  | .builtin b=>wc f c.args.toList fun vs=>(match b,vs with
   |.len,[.slice A n m]=>ta c.argTypes.toList 0 fun t=>wP T t fun d=>(match d with | .sl _ _=>K (.int .i64 (n:Int))|_=>False)
   |.max,[.int k a,.int _ b]=>K (.int k (max a b))
   |.min,[.int k a,.int _ b]=>K (.int k (min a b))
   |b,vs=>DW P C b c.argTypes o.type (c.args.map fun | .const _=>true|_=>false) vs.toArray K)
  |.invoke _ _=>False)
 |_=>False
def tu(P:Program)(T:TT)(n:Nat)(C:World->Prop)(ops:List Oper)(l:List Oper):Fr->(Fr->Prop)->Prop :=
 List.rec (motive:=fun _=>Fr->(Fr->Prop)->Prop) (fun f K=>K f) (fun o _ ih f K=>(match o.guard with
  |none=>evQ P T C o f fun v=>pt n f o.dst v fun f'=>ih f' K
  | some (j,b)=>ago ops j fun t=>lk f t fun vg=>(match vg with
   | .bool g=>(match b with
    | true=>Br g (cond (Nat.ble n t) False (evQ P T C o ((t,.bool true)::f) fun v=>pt n ((t,.bool true)::f) o.dst v fun f'=>ih f' K))
     (cond (Nat.ble n t) False (pt n ((t,.bool false)::f) o.dst undef fun f'=>ih f' K))
    | false=>Br g (cond (Nat.ble n t) False (pt n ((t,.bool true)::f) o.dst undef fun f'=>ih f' K))
     (cond (Nat.ble n t) False (evQ P T C o ((t,.bool false)::f) fun v=>pt n ((t,.bool false)::f) o.dst v fun f'=>ih f' K)))
   |.tuple _=>pt n f o.dst undef fun f'=>ih f' K
   |_=>False))) l
theorem aeR(P:Program)(T:TT)(n:Nat)(C:World->Prop)(ops:List Oper)(o:Oper)(l:List Oper)(f:Fr)(K:Fr->Prop):tu P T n C ops (o::l) f K=(match o.guard with
  |none=>evQ P T C o f fun v=>pt n f o.dst v fun f'=>tu P T n C ops l f' K
  | some (j,b)=>ago ops j fun t=>lk f t fun vg=>(match vg with
   | .bool g=>(match b with
    | true=>Br g (cond (Nat.ble n t) False (evQ P T C o ((t,.bool true)::f) fun v=>pt n ((t,.bool true)::f) o.dst v fun f'=>tu P T n C ops l f' K))
     (cond (Nat.ble n t) False (pt n ((t,.bool false)::f) o.dst undef fun f'=>tu P T n C ops l f' K))
    | false=>Br g (cond (Nat.ble n t) False (pt n ((t,.bool true)::f) o.dst undef fun f'=>tu P T n C ops l f' K))
     (cond (Nat.ble n t) False (evQ P T C o ((t,.bool false)::f) fun v=>pt n ((t,.bool false)::f) o.dst v fun f'=>tu P T n C ops l f' K)))
   |.tuple _=>pt n f o.dst undef fun f'=>tu P T n C ops l f' K
   |_=>False)):=rfl
section sound
variable{P:Program}{T:TT}{n:Nat}
theorem tv{C:World->Prop}{op:BinOp}{xt:TypeId}{x y:Operand}{vx vy:Value}{K:Value->Prop}(h:amk P C op xt x y vx vy K) :
  ∃v,(∀w,C w->(do eqGuard op xt x y vx vy;binOp op xt vx vy:Sem Value).run P w=.ok v w)/\K v:=by
 unfold amk at h;split at h
 ·rename_i k a k' b
  simp only[Sem.run_bind,wQ,Result.andThen_ok]
  cases op<;>simp only at h
  case add=>obtain⟨e,g⟩:=aY h;subst e;exact⟨_,fun w _=>by simp[binOp,Op.intArith],g.go⟩
  case sub=>obtain⟨e,g⟩:=aY h;subst e;exact⟨_,fun w _=>by simp[binOp,Op.intArith],g.go⟩
  case mul=>obtain⟨e,g⟩:=aY h;subst e;exact⟨_,fun w _=>by simp[binOp,Op.intArith],g.go⟩
  case quo=>obtain⟨e,g⟩:=aY h;subst e;exact⟨_,fun w _=>by simp[binOp,Op.intDiv,g.ne],g.go⟩
  case rem=>obtain⟨e,g⟩:=aY h;subst e;exact⟨_,fun w _=>by simp[binOp,Op.intDiv,g.ne],g.go⟩
  case and=>obtain⟨e,g⟩:=aY h;subst e;exact⟨_,fun w _=>by simp[binOp,Op.intBits,fV],g⟩
  case or=>obtain⟨e,g⟩:=aY h;subst e;exact⟨_,fun w _=>by simp[binOp,Op.intBits,fV],g⟩
  case xor=>obtain⟨e,g⟩:=aY h;subst e;exact⟨_,fun w _=>by simp[binOp,Op.intBits,fV],g⟩
  case andNot=>obtain⟨e,g⟩:=aY h;subst e;exact⟨_,fun w _=>by simp[binOp,Op.intBits,fV],g⟩
  case shl=>exact⟨_,fun w _=>by have:=h.nn;simp[binOp,Op.shift,Int.not_lt.2 this],h.go⟩
  case shr=>exact⟨_,fun w _=>by have:=h.nn;simp[binOp,Op.shift,Int.not_lt.2 this],h.go⟩
  case eql=>obtain⟨e,g⟩:=aY h;subst e;exact⟨_,fun w _=>by simp[binOp,Op.intCmp];rfl,g⟩
  case neq=>obtain⟨e,g⟩:=aY h;subst e;exact⟨_,fun w _=>by simp[binOp,Op.intCmp];rfl,g⟩
  case lss=>obtain⟨e,g⟩:=aY h;subst e;exact⟨_,fun w _=>by simp[binOp,Op.intCmp],g⟩
  case leq=>obtain⟨e,g⟩:=aY h;subst e;exact⟨_,fun w _=>by simp[binOp,Op.intCmp],g⟩
  case gtr=>obtain⟨e,g⟩:=aY h;subst e;exact⟨_,fun w _=>by simp[binOp,Op.intCmp],g⟩
  case geq=>obtain⟨e,g⟩:=aY h;subst e;exact⟨_,fun w _=>by simp[binOp,Op.intCmp],g⟩
 ·exact h.ex
theorem aw{C:World->Prop}{o:Oper}{a:Act}{N:Act->Prop}{v:Value}(h:∀w,C w->(execOp a.eval o).run P w=.ok (.value v) w)(hn:N (a.put o.dst v)):o.quiet P a C N:=⟨v,fun w hw=>by
 unfold Oper.quietAt;rw[h w hw];exact⟨rfl,rfl⟩,hn⟩
theorem wX{ds:List Deferred}(hT:TT.ok P T=true){C:World->Prop}{o:Oper}{f:Fr}{K:Value->Prop}(h:evQ P T C o f K){a:Act}(ha:Au n f a ds){N:Act->Prop}
  (hn:∀v,K v->N (a.put o.dst v)):o.quiet P a C N:=by
 unfold evQ at h;split at h
 case h_1 x ho=>exact aw (fun w hw=>by simp[execOp,ho]) (hn _ (ao h ha))
 case h_2 x ho=>exact aw (fun w hw=>by simp[execOp,ho]) (hn _ (ao h ha))
 case h_3 c x y ho =>
  have h:=ao (ao (ao h ha) ha) ha;split at h
  ·rename_i t hc
   exact aw (fun w hw=>by simp[execOp,ho,hc,asBool]) (hn _ h.go)
  ·exact h.elim
 case h_4 op xt x y yt ho =>
  obtain⟨d,hd,h⟩:=bt hT (ao (ao h ha) ha);obtain⟨v,h1,h2⟩:∃v,(∀w,C w->(do eqGuard op xt x y (a.eval x) (a.eval y);binOp op xt (a.eval x) (a.eval y):Sem Value).run P w=.ok v w)/\K v:=by
   split at h
   ·exact tv h
   ·exact h.ex
  exact aw (fun w hw=>by simp only[execOp,ho,Sem.run_bind];have h1:=h1 w hw;rw[Sem.run_bind] at h1;rw[h1];rfl) (hn _ h2)
 case h_5 op xt x ho =>
  have h:=ao h ha;split at h
  ·rename_i b hx _
   exact aw (fun w hw=>by simp[execOp,ho,hx,Op.unary]) (hn _ h)
  ·rename_i k m hx _
   exact aw (fun w hw=>by simp[execOp,ho,hx,Op.unary,Op.intArith]) (hn _ h.go)
  ·obtain⟨v,h1,h2⟩:=h.ex;exact aw (fun w hw=>by simp only[execOp,ho,Sem.run_bind,h1 w hw];rfl) (hn _ h2)
 case h_6 src dst x ho =>
  obtain⟨ds,hs,h⟩:=bt hT (ao h ha);obtain⟨d,hd,h⟩:=bt hT h;obtain⟨us,hus⟩:=qs hs;split at h
  ·rename_i k k' m hx
   have hu:=qq hd;exact aw (fun w hw=>by simp[execOp,ho,hx,convert,run_underlying hus,run_underlying hu,Conv.intToInt]) (hn _ h.go)
  ·obtain⟨v,h1,h2⟩:=h.ex;exact aw (fun w hw=>by simp only[execOp,ho,Sem.run_bind,h1 w hw];rfl) (hn _ h2)
 case h_7 t x ho =>
  obtain⟨d,hd,h⟩:=bt hT (ao h ha);split at h
  ·exact h.elim
  ·rename_i hni
   obtain⟨u,hu,hu2⟩:=qt hd (fun e=>hni e);refine aw (v:=.iface t (a.eval x)) (fun w hw=>?_) (hn _ h);simp only[execOp,ho,Sem.run_bind,Instr.makeInterface,run_underlying hu,Result.andThen_ok]
   cases u<;>first|rfl|exact absurd rfl (hu2 _)
 case h_8 x i ho =>
  have h:=ao h ha;split at h
  ·rename_i vs hx
   obtain⟨v,hv,h⟩:=cv h;have hv':vs[i]?=some v:=by simpa using hv
   exact aw (fun w hw=>by simp[execOp,ho,hx,Instr.extract,hv']) (hn _ h)
  ·exact h.elim
 case h_9 x ho =>
  have h:=ao h ha;split at h
  ·rename_i b hx
   exact aw (fun w hw=>by simp[execOp,ho,hx]) (hn _ h)
  ·exact h.elim
 case h_10 s x i ho =>
  obtain⟨d,hd,h⟩:=bt hT (ao h ha);split at h
  ·rename_i sb g o2 hx
   obtain⟨m,hm,h⟩:=cv h;split at h
   ·exact aw (fun w hw=>by simp only[execOp,ho,Sem.run_bind,hx,mq hd i _ g o2 hm w];rfl) (hn _ h)
   ·exact h.elim
  ·exact h.elim
 case h_11 t x i ho =>
  obtain⟨d,hd,h⟩:=bt hT (ao (ao h ha) ha);split at h
  ·rename_i len e sz g o2 kk i2 hx hi
   obtain⟨k,rfl,hk,h⟩:=h.ex;have h:=jL h;exact aw (fun w hw=>by simp only[execOp,ho,Sem.run_bind,hx,hi,mr hd g o2 k kk hk w];rfl) (hn _ h)
  ·rename_i e sz g o2 len cap kk i2 hx hi
   obtain⟨k,rfl,hk,h⟩:=h.ex;have h:=jL h;exact aw (fun w hw=>by simp only[execOp,ho,Sem.run_bind,hx,hi,oD hd g o2 k len cap kk hk w];rfl) (hn _ h)
  ·exact h.elim
 case h_12 t x i ho =>
  obtain⟨v,h1,h2⟩:=(ao (ao h ha) ha).ex;exact aw (fun w hw=>by simp only[execOp,ho,Sem.run_bind,h1 w hw];rfl) (hn _ h2)
 case h_13 t x i ho =>
  obtain⟨v,h1,h2⟩:=(ao h ha).ex;exact aw (fun w hw=>by simp only[execOp,ho,Sem.run_bind,h1 w hw];rfl) (hn _ h2)
 case h_14 t x ho =>
  obtain⟨d,hd,h⟩:=bt hT (ao h ha);split at h
  ·rename_i b hx
   obtain⟨v,h1,h2⟩:∃v,(∀w,C w->(loadVar t b).run P w=.ok v w)/\K v:=by
    cases hc:d.cell with
    |false=>rw[hc] at h;exact h.ex
    | true =>
     rw[hc] at h;obtain⟨v,h1,h2⟩:=Ag.ex h;exact⟨v,fun w hw=>pc (sB hd hc) (h1 w hw),h2⟩
   exact aw (fun w hw=>by simp only[execOp,ho,Sem.run_bind,hx,Instr.loadAt,Instr.sureAddr,Sem.run_pure,Result.andThen_ok,h1 w hw]) (hn _ h2)
  ·exact h.elim
 case h_15 t ps ho =>
  obtain⟨v,h1,h2⟩:=(iO ha h).ex;have e:(ps.map fun x=>(x.1,a.eval x.2))=(ps.toList.map fun p=>(p.1,a.eval p.2)).toArray:=(fq _ _).symm;exact aw (fun w hw=>by simp only[execOp,ho,Sem.run_bind];rw[e,h1 w hw];rfl) (hn _ h2)
 case h_16 t x lo hi mx ho =>
  obtain⟨v,h1,h2⟩:=(dk ha (dk ha (dk ha (ao h ha)))).ex;exact aw (fun w hw=>by simp only[execOp,ho,Sem.run_bind,h1 w hw];rfl) (hn _ h2)
 case h_17 fn x y ho =>
  have h:=bR ha (bR ha h);exact aw (fun w hw=>by simp only[execOp,ho,Instr.makeFunc,fq];rfl) (hn _ h)
 case h_18 t x i ok ho =>
  obtain⟨v,h1,h2⟩:=(ao (ao h ha) ha).ex;exact aw (fun w hw=>by simp only[execOp,ho,Sem.run_bind,h1 w hw];rfl) (hn _ h2)
 case h_19 c ho =>
  split at h
  ·rename_i g hc
   have h:=bR ha (ao h ha);split at h
   ·rename_i fid first cap hg
    obtain⟨v,h1,⟨w0,hw0⟩,h2⟩:=(mn (mn h)).ex;have hf:=(h1 w0 hw0).1;have e:(first.toList++c.args.toList.map a.eval++cap.toList).toArray=first++c.args.map a.eval++cap:=by
     rw[<-fq];apply Array.ext';simp
    rw[e] at h1;refine⟨v,fun w hw=>?_,hn _ h2⟩;unfold Oper.quietAt;have hx:(execOp a.eval o).run P w=.ok (.enter fid (first++c.args.map a.eval++cap)) w:=by
     simp only[execOp,ho,resolve,hc,hg,Deferred.ofValue,Sem.run_bind,Sem.run_pure,Result.andThen_ok,invoke,pd hf]
    rw[hx];exact⟨rfl,(h1 w hw).2.mono fun e w' ⟨u,he,hk,hc⟩=>⟨by rw[he,hk],hc⟩⟩
   ·exact h.elim
  ·rename_i b hc
   have h:=bR ha h;have e:(c.args.toList.map a.eval).toArray=c.args.map a.eval:=fq _ _;split at h
   ·rename_i A l m hvs _
    obtain⟨t,ht,h⟩:=cv h;obtain⟨d,hd,h⟩:=bt hT h;split at h
    ·rename_i el sz
     have fT:c.args.map a.eval = #[.slice A l m]:=by rw[<-e,hvs]
     have ht:c.argTypes[0]?=some t:=by simpa using ht
     refine aw (fun w hw=>?_) (hn _ h);simp only[execOp,ho,resolve,hc,fT,Sem.run_bind,Sem.run_pure,Result.andThen_ok,invoke,builtin,yz hd _ ht]
    ·exact h.elim
   ·rename_i k a2 k2 b2 hvs _
    have fT:c.args.map a.eval = #[.int k a2,.int k2 b2]:=by rw[<-e,hvs]
    refine aw (fun w hw=>by simp only[execOp,ho,resolve,hc,fT,Sem.run_bind,Sem.run_pure,Result.andThen_ok,invoke,builtin,yA]) (hn _ h)
   ·rename_i k a2 k2 b2 hvs _
    have fT:c.args.map a.eval = #[.int k a2,.int k2 b2]:=by rw[<-e,hvs]
    refine aw (fun w hw=>by simp only[execOp,ho,resolve,hc,fT,Sem.run_bind,Sem.run_pure,Result.andThen_ok,invoke,builtin,yB]) (hn _ h)
   ·obtain⟨v,h1,h2⟩:=h.ex;rw[e] at h1;refine aw (fun w hw=>?_) (hn _ h2);simp only[execOp,ho,resolve,hc,Sem.run_bind,Sem.run_pure,Result.andThen_ok,invoke];exact h1 w hw
  ·exact h.elim
 case h_20=>exact h.elim
def yJ:Op->Bool
 |.call c=>(match c.callee with | .builtin _=>true|_=>false)
 |_=>true
theorem run_mk{C:World->Prop}{o:Oper}{a:Act}{K:Value->Prop}{v:Value}(h:∀w,C w->(execOp a.eval o).run P w=.ok (.value v) w)(hk:K v):∃v,(∀w,C w->(execOp a.eval o).run P w=.ok (.value v) w)/\K v:=⟨v,h,hk⟩
theorem aj3{ds:List Deferred}(hT:TT.ok P T=true){C:World->Prop}{o:Oper}(yG:yJ o.op=true){f:Fr}{K:Value->Prop}(h:evQ P T C o f K){a:Act}(ha:Au n f a ds) :
  ∃v,(∀w,C w->(execOp a.eval o).run P w=.ok (.value v) w)/\K v:=by
 unfold evQ at h;split at h
 case h_1 x ho=>exact run_mk (fun w hw=>by simp[execOp,ho]) (id (ao h ha))
 case h_2 x ho=>exact run_mk (fun w hw=>by simp[execOp,ho]) (id (ao h ha))
 case h_3 c x y ho =>
  have h:=ao (ao (ao h ha) ha) ha;split at h
  ·rename_i t hc
   exact run_mk (fun w hw=>by simp[execOp,ho,hc,asBool]) (id h.go)
  ·exact h.elim
 case h_4 op xt x y yt ho =>
  obtain⟨d,hd,h⟩:=bt hT (ao (ao h ha) ha);obtain⟨v,h1,h2⟩:∃v,(∀w,C w->(do eqGuard op xt x y (a.eval x) (a.eval y);binOp op xt (a.eval x) (a.eval y):Sem Value).run P w=.ok v w)/\K v:=by
   split at h
   ·exact tv h
   ·exact h.ex
  exact run_mk (fun w hw=>by simp only[execOp,ho,Sem.run_bind];have h1:=h1 w hw;rw[Sem.run_bind] at h1;rw[h1];rfl) (id h2)
 case h_5 op xt x ho =>
  have h:=ao h ha;split at h
  ·rename_i b hx _
   exact run_mk (fun w hw=>by simp[execOp,ho,hx,Op.unary]) (id h)
  ·rename_i k m hx _
   exact run_mk (fun w hw=>by simp[execOp,ho,hx,Op.unary,Op.intArith]) (id h.go)
  ·obtain⟨v,h1,h2⟩:=h.ex;exact run_mk (fun w hw=>by simp only[execOp,ho,Sem.run_bind,h1 w hw];rfl) (id h2)
 case h_6 src dst x ho =>
  obtain⟨ds,hs,h⟩:=bt hT (ao h ha);obtain⟨d,hd,h⟩:=bt hT h;obtain⟨us,hus⟩:=qs hs;split at h
  ·rename_i k k' m hx
   have hu:=qq hd;exact run_mk (fun w hw=>by simp[execOp,ho,hx,convert,run_underlying hus,run_underlying hu,Conv.intToInt]) (id h.go)
  ·obtain⟨v,h1,h2⟩:=h.ex;exact run_mk (fun w hw=>by simp only[execOp,ho,Sem.run_bind,h1 w hw];rfl) (id h2)
 case h_7 t x ho =>
  obtain⟨d,hd,h⟩:=bt hT (ao h ha);split at h
  ·exact h.elim
  ·rename_i hni
   obtain⟨u,hu,hu2⟩:=qt hd (fun e=>hni e);refine run_mk (v:=.iface t (a.eval x)) (fun w hw=>?_) (id h);simp only[execOp,ho,Sem.run_bind,Instr.makeInterface,run_underlying hu,Result.andThen_ok]
   cases u<;>first|rfl|exact absurd rfl (hu2 _)
 case h_8 x i ho =>
  have h:=ao h ha;split at h
  ·rename_i vs hx
   obtain⟨v,hv,h⟩:=cv h;have hv':vs[i]?=some v:=by simpa using hv
   exact run_mk (fun w hw=>by simp[execOp,ho,hx,Instr.extract,hv']) (id h)
  ·exact h.elim
 case h_9 x ho =>
  have h:=ao h ha;split at h
  ·rename_i b hx
   exact run_mk (fun w hw=>by simp[execOp,ho,hx]) (id h)
  ·exact h.elim
 case h_10 s x i ho =>
  obtain⟨d,hd,h⟩:=bt hT (ao h ha);split at h
  ·rename_i sb g o2 hx
   obtain⟨m,hm,h⟩:=cv h;split at h
   ·exact run_mk (fun w hw=>by simp only[execOp,ho,Sem.run_bind,hx,mq hd i _ g o2 hm w];rfl) (id h)
   ·exact h.elim
  ·exact h.elim
 case h_11 t x i ho =>
  obtain⟨d,hd,h⟩:=bt hT (ao (ao h ha) ha);split at h
  ·rename_i len e sz g o2 kk i2 hx hi
   obtain⟨k,rfl,hk,h⟩:=h.ex;have h:=jL h;exact run_mk (fun w hw=>by simp only[execOp,ho,Sem.run_bind,hx,hi,mr hd g o2 k kk hk w];rfl) (id h)
  ·rename_i e sz g o2 len cap kk i2 hx hi
   obtain⟨k,rfl,hk,h⟩:=h.ex;have h:=jL h;exact run_mk (fun w hw=>by simp only[execOp,ho,Sem.run_bind,hx,hi,oD hd g o2 k len cap kk hk w];rfl) (id h)
  ·exact h.elim
 case h_12 t x i ho =>
  obtain⟨v,h1,h2⟩:=(ao (ao h ha) ha).ex;exact run_mk (fun w hw=>by simp only[execOp,ho,Sem.run_bind,h1 w hw];rfl) (id h2)
 case h_13 t x i ho =>
  obtain⟨v,h1,h2⟩:=(ao h ha).ex;exact run_mk (fun w hw=>by simp only[execOp,ho,Sem.run_bind,h1 w hw];rfl) (id h2)
 case h_14 t x ho =>
  obtain⟨d,hd,h⟩:=bt hT (ao h ha);split at h
  ·rename_i b hx
   obtain⟨v,h1,h2⟩:∃v,(∀w,C w->(loadVar t b).run P w=.ok v w)/\K v:=by
    cases hc:d.cell with
    |false=>rw[hc] at h;exact h.ex
    | true =>
     rw[hc] at h;obtain⟨v,h1,h2⟩:=Ag.ex h;exact⟨v,fun w hw=>pc (sB hd hc) (h1 w hw),h2⟩
   exact run_mk (fun w hw=>by simp only[execOp,ho,Sem.run_bind,hx,Instr.loadAt,Instr.sureAddr,Sem.run_pure,Result.andThen_ok,h1 w hw]) (id h2)
  ·exact h.elim
 case h_15 t ps ho =>
  obtain⟨v,h1,h2⟩:=(iO ha h).ex;have e:(ps.map fun x=>(x.1,a.eval x.2))=(ps.toList.map fun p=>(p.1,a.eval p.2)).toArray:=(fq _ _).symm;exact run_mk (fun w hw=>by simp only[execOp,ho,Sem.run_bind];rw[e,h1 w hw];rfl) (id h2)
 case h_16 t x lo hi mx ho =>
  obtain⟨v,h1,h2⟩:=(dk ha (dk ha (dk ha (ao h ha)))).ex;exact run_mk (fun w hw=>by simp only[execOp,ho,Sem.run_bind,h1 w hw];rfl) (id h2)
 case h_17 fn x y ho =>
  have h:=bR ha (bR ha h);exact run_mk (fun w hw=>by simp only[execOp,ho,Instr.makeFunc,fq];rfl) (id h)
 case h_18 t x i ok ho =>
  obtain⟨v,h1,h2⟩:=(ao (ao h ha) ha).ex;exact run_mk (fun w hw=>by simp only[execOp,ho,Sem.run_bind,h1 w hw];rfl) (id h2)
 case h_19 c ho =>
  split at h
  ·rename_i g hc
   have h:=bR ha (ao h ha);split at h
   ·rename_i fid first cap hg
    simp[yJ,ho,hc] at yG
   ·exact h.elim
  ·rename_i b hc
   have h:=bR ha h;have e:(c.args.toList.map a.eval).toArray=c.args.map a.eval:=fq _ _;split at h
   ·rename_i A l m hvs _
    obtain⟨t,ht,h⟩:=cv h;obtain⟨d,hd,h⟩:=bt hT h;split at h
    ·rename_i el sz
     have fT:c.args.map a.eval = #[.slice A l m]:=by rw[<-e,hvs]
     have ht:c.argTypes[0]?=some t:=by simpa using ht
     refine run_mk (fun w hw=>?_) (id h);simp only[execOp,ho,resolve,hc,fT,Sem.run_bind,Sem.run_pure,Result.andThen_ok,invoke,builtin,yz hd _ ht]
    ·exact h.elim
   ·rename_i k a2 k2 b2 hvs _
    have fT:c.args.map a.eval = #[.int k a2,.int k2 b2]:=by rw[<-e,hvs]
    refine run_mk (fun w hw=>by simp only[execOp,ho,resolve,hc,fT,Sem.run_bind,Sem.run_pure,Result.andThen_ok,invoke,builtin,yA]) (id h)
   ·rename_i k a2 k2 b2 hvs _
    have fT:c.args.map a.eval = #[.int k a2,.int k2 b2]:=by rw[<-e,hvs]
    refine run_mk (fun w hw=>by simp only[execOp,ho,resolve,hc,fT,Sem.run_bind,Sem.run_pure,Result.andThen_ok,invoke,builtin,yB]) (id h)
   ·obtain⟨v,h1,h2⟩:=h.ex;rw[e] at h1;refine run_mk (fun w hw=>?_) (id h2);simp only[execOp,ho,resolve,hc,Sem.run_bind,Sem.run_pure,Result.andThen_ok,invoke];exact h1 w hw
  ·exact h.elim
 case h_20=>exact h.elim
theorem iQ{ds:List Deferred}(hT:TT.ok P T=true){C:World->Prop}{ops:Array Oper}{Q:Act->Prop}:∀(l:List Oper) {f:Fr} {K:Fr->Prop} {a:Act},tu P T n C ops.toList l f K->Au n f a ds ->
  (∀f' a',K f'->Au n f' a' ds->Q a')->wpQuiet P ops C Q l a
 | [],f,K,a,h,ha,hQ=>hQ _ _ h ha
 | o::l,f,K,a,h,ha,hQ=>by
  rw[aeR] at h;split at h
  ·rename_i hg
   have hw:Region.wanted o (yielded ops a.tmps)=true:=by simp[Region.wanted,hg]
   unfold wpQuiet;rw[if_pos hw];refine wX hT h ha fun v hk=>?_;obtain⟨f',m6,me⟩:=cw hk ha;exact iQ hT l me m6 hQ
  ·rename_i j b hg
   obtain⟨oj,hj,h⟩:=cv h;split at h
   ·rename_i t ht
    obtain⟨vg,hvg,h⟩:=kN h;have vN:=ha.get t vg hvg;split at h
    ·rename_i g
     have hy:yielded ops a.tmps j=some g:=by
      have hj':ops[j]?=some oj:=by simpa using hj
      unfold yielded;simp only[hj',Option.bind_some,ht,getD_some vN]
     unfold wpQuiet;have h:Br (g == b) (cond (Nat.ble n t) False (evQ P T C o ((t,.bool b)::f) fun v=>pt n ((t,.bool b)::f) o.dst v fun f'=>tu P T n C ops.toList l f' K))
       (cond (Nat.ble n t) False (pt n ((t,.bool (!b))::f) o.dst undef fun f'=>tu P T n C ops.toList l f' K)):=by
      cases b with
      |true=>exact⟨fun hb=>Br.tt h (by simpa using hb),fun hb=>Br.ff h (by simpa using hb)⟩
      |false=>exact⟨fun hb=>Br.ff h (by simpa using hb),fun hb=>Br.tt h (by simpa using hb)⟩
     by_cases vO:(g == b)=true
     ·have hw:Region.wanted o (yielded ops a.tmps)=true:=by
       simp only[Region.wanted,hg,hy];simpa using vO
      rw[if_pos hw];have h:=h.tt vO
      cases hb:Nat.ble n t with
      |true=>rw[hb] at h;exact h.elim
      | false =>
       rw[hb] at h;simp only[cond_false] at h;have m6:=ha.cons t (.bool b) (by rw[vN];simpa using vO);refine wX hT h m6 fun v hk=>?_;obtain⟨f',gY,me⟩:=cw hk m6;exact iQ hT l me gY hQ
     ·have aae:(g == b)=false:=by simpa using vO
      have hw:¬Region.wanted o (yielded ops a.tmps)=true:=by
       simp only[Region.wanted,hg,hy];simpa using vO
      rw[if_neg hw];have h:=h.ff aae
      cases hb:Nat.ble n t with
      |true=>rw[hb] at h;exact h.elim
      | false =>
       rw[hb] at h;simp only[cond_false] at h;have m6:=ha.cons t (.bool (!b)) (by rw[vN];congr 1;revert aae;cases g<;>cases b<;>simp);obtain⟨f',gY,me⟩:=cw h m6;exact iQ hT l me gY hQ
    ·rename_i vs
     have hw:¬Region.wanted o (yielded ops a.tmps)=true:=by
      rw[iu hg hj ht vN];simp
     unfold wpQuiet;rw[if_neg hw];obtain⟨f',gY,me⟩:=cw h ha;exact iQ hT l me gY hQ
    ·exact h.elim
   ·exact h.elim
theorem CW.quiet(C:World->Prop){id:Nat}{l:List Oper}{f:Fr}{w:World}{Q:Exit->Fr->World->Prop}(hT:TT.ok P T=true)(hm:P.follows .mixedOrders=true)(hB:Region.lexB .any l.toArray=true)(hC:C { w with drawn:=w.drawn+1 })
  (h:tu P T n C l l f fun f'=>∀w',C w'->Q .normal f' w'):CW P n (.region id l.toArray true) Q f w:=⟨fun a ha=>by
 refine wp_region_quiet (C:=C) hm hB hC ?_;exact iQ hT (ops:=l.toArray) l h ha fun f' a' hk hf w' hw'=>⟨trivial,f',hf,hk w' hw'⟩⟩
end sound
end
section
section any
variable{P:Program}{ops:Array Oper}{Q:Exit->Act->World->Prop}{S:World->Prop}{D:List Nat}
def jA(P:Program)(ops:Array Oper)(Q:Exit->Act->World->Prop)(S:World->Prop)(D:List Nat):Nat->Array Bool->Act->World->Prop
 |0,ay,a,w=>Region.ready .any ops ay=[]/\Q .normal a w
 | fuel+1,ay,a,w=>(Region.ready .any ops ay=[]->Q .normal a w) /\
  ∀i∈Region.ready .any ops ay,wpOp P ops Q i (fun a' w'=>(i∉D->S w')/\jA P ops Q S D fuel (ay.setIfInBounds i true) a' w') a w
theorem oI:∀(fuel:Nat) (ay:Array Bool) (a:Act) (w:World),jA P ops Q S D fuel ay a w->wpAny P .any ops Q fuel ay a w
 |0,_,_,_,h=>h
 |fuel+1,_,_,_,h=>⟨h.1,fun i hi=>wpOp_mono (fun a' w' h'=>oI fuel _ a' w' h'.2) (h.2 i hi)⟩
def yK(ops:Array Oper)(D:List Nat)(i:Nat):Bool:=D.all fun j=>match ops[j]? with
 |some o=>o.after.any fun e=>Region.binds .any e&&e.on == i
 |none=>false
theorem yL{i:Nat}{oi:Oper}{v:Value}(hi:ops[i]?=some oi)(aok:∀(j:Nat) (o:Oper) cs b,ops[j]?=some o->o.op≠.select cs b)(hD:yK ops D i=true)(hiD:i∉D)
  (hQ:∀c a w,Q (.panic c) (a.put oi.dst v) w->Q (.panic c) a w):∀(fuel:Nat) (ay:Array Bool) (a:Act) (w:World),
   (∀j oj,ops[j]?=some oj->j≠i->ay.getD j true=false->(∀e∈oj.after,Region.binds .any e=true->e.on≠i)->oi.apart ops oj=true) ->
   i∈Region.ready .any ops ay->YieldsIf P ops S oi v a->S w ->
   jA P ops Q S D fuel (ay.setIfInBounds i true) (a.put oi.dst v) w->jA P ops Q S D (fuel+1) ay a w:=by
 intro fuel
 induction fuel with
 | zero =>
  intro ay a w _ hr hy hS H;refine⟨fun h=>(by rw[h] at hr;cases hr),fun j hj=>?_⟩;by_cases vQ:j=i
  ·subst vQ;exact hy.wpOp hi hS ⟨fun _=>hS,H⟩
  ·have:=ready_mono hj vQ;rw[H.1] at this
   cases this
 | succ fuel ih =>
  intro ay a w mu hr hy hS H;refine⟨fun h=>(by rw[h] at hr;cases hr),fun j hj=>?_⟩;by_cases vQ:j=i
  ·subst vQ;exact hy.wpOp hi hS ⟨fun _=>hS,H⟩
  ·have h1:=H.2 j (ready_mono hj vQ);obtain⟨aol,oj,hoj,cq⟩:=mem_ready.1 hj;have lV:∀e∈oj.after,Region.binds .any e=true->e.on≠i:=fun e he hb heq=>by
    have h1:=cq e he hb;have h0:=(mem_ready.1 hr).1;rw[heq] at h1;rcases Nat.lt_or_ge i ay.size with h'|h'
    ·simp[h'] at h0 h1;rw[h0] at h1
     cases h1
    ·simp[Array.getElem?_eq_none h'] at h1
   have hjD:j∉D:=fun hd=>by
    have h3:=List.all_eq_true.1 hD j hd;simp only[hoj] at h3;obtain⟨x,hx,he⟩:=Array.any_eq_true.1 h3;simp only[Bool.and_eq_true,beq_iff_eq] at he;exact lV _ (Array.getElem_mem hx) he.1 he.2
   have h2:=wpOp_putIf hoj (mu j oj hoj vQ aol lV) (fun cs b=>aok i oi cs b hi) (fun cs b=>aok j oj cs b hoj) hQ hy h1;have aml:∀k ok,ops[k]?=some ok->k≠i->(ay.setIfInBounds j true).getD k true=false ->
     (∀e∈ok.after,Region.binds .any e=true->e.on≠i)->oi.apart ops ok=true:=fun k ok hk hki hun lW=>by
    refine mu k ok hk hki ?_ lW;by_cases hjk:j=k
    ·subst hjk;exact aol
    ·rw[getD_set_ne true hjk] at hun;exact hun
   refine wpOp_mono (fun a' w' h3=>⟨h3.2.1,ih (ay.setIfInBounds j true) a' w' aml (ready_mono hr (Ne.symm vQ)) h3.1 (h3.2.1 hjD) ?_⟩) h2;rw[Array.setIfInBounds_comm _ _ vQ];exact h3.2.2
theorem rK{i:Nat}{oi:Oper}{v:Value}{fuel:Nat}{ay:Array Bool}{a:Act}{w:World}(hi:ops[i]?=some oi)
  (hs:Region.noSelect ops=true) (hD:yK ops D i=true) (hiD:i∉D) (hf:Region.free .any ops ay i=true) (hr:(Region.ready .any ops ay).contains i=true)
  (hQ:∀c a w,Q (.panic c) (a.put oi.dst v) w->Q (.panic c) a w) (hy:YieldsIf P ops S oi v a) (hS:S w)
  (h:jA P ops Q S D fuel (ay.setIfInBounds i true) (a.put oi.dst v) w):jA P ops Q S D (fuel+1) ay a w :=
 yL hi (Region.noSelect_spec hs) hD hiD hQ fuel ay a w (Region.free_spec hi hf) (by simpa using hr) hy hS h
theorem oJ{rs:List Nat}{fuel:Nat}{ay:Array Bool}{a:Act}{w:World}(hr:Region.ready .any ops ay=rs)(cn:rs≠[])
  (h:∀i∈rs,wpOp P ops Q i (fun a' w'=>(i∉D->S w')/\jA P ops Q S D fuel (ay.setIfInBounds i true) a' w') a w):jA P ops Q S D (fuel+1) ay a w :=
 ⟨fun h0=>absurd (hr ▸ h0) cn,hr ▸ h⟩
theorem aal{ay:Array Bool}{a:Act}{w:World}(hr:Region.ready .any ops ay=[])(h:Q .normal a w):∀fuel,jA P ops Q S D fuel ay a w
 |0=>⟨hr,h⟩
 |_+1=>⟨fun _=>h,by rw[hr];simp⟩
end any
inductive A4 where
 |done
 |take (i:Nat) (p:A4)
 |one (i:Nat) (p:A4)
 |two (i:Nat) (p:A4) (j:Nat) (q:A4)
 |three (i:Nat) (p:A4) (j:Nat) (q:A4) (k:Nat) (r:A4)
def aam(ops:Array Oper)(i:Nat):Bool:=match ops[i]? with
 |some o=>yJ o.op
 |none=>false
def fy(ops:Array Oper)(D:List Nat):Bool->A4->Nat->Array Bool->Bool
 |_,.done,_,ay=>Region.ready .any ops ay == []
 |_,.take i p,0,_=>false
 |b,.take i p,m+1,ay=>b&&yK ops D i && !D.contains i&&Region.free .any ops ay i&&(Region.ready .any ops ay).contains i&&aam ops i&&fy ops D b p m (ay.setIfInBounds i true)
 |_,.one i p,0,_=>false
 |b,.one i p,m+1,ay=>Region.ready .any ops ay == [i]&&fy ops D (b && !D.contains i) p m (ay.setIfInBounds i true)
 |_,.two i p j q,0,_=>false
 |b,.two i p j q,m+1,ay=>Region.ready .any ops ay == [i,j]&&fy ops D (b && !D.contains i) p m (ay.setIfInBounds i true)&&fy ops D (b && !D.contains j) q m (ay.setIfInBounds j true)
 |_,.three i p j q k r,0,_=>false
 |b,.three i p j q k r,m+1,ay=>Region.ready .any ops ay == [i,j,k]&&fy ops D (b && !D.contains i) p m (ay.setIfInBounds i true)&&fy ops D (b && !D.contains j) q m (ay.setIfInBounds j true)&&fy ops D (b && !D.contains k) r m (ay.setIfInBounds k true)
structure HS(A B:Prop):Prop where
 held:A
 go:B
def gop(n:Nat)(ops:List Oper)(o:Oper)(f:Fr)(A B:Fr->Prop):Prop:=match o.guard with
 |none=>A f
 | some (j,b)=>ago ops j fun t=>lk f t fun vg=>(match vg with
  | .bool g=>(match b with
   |true=>Br g (cond (Nat.ble n t) False (A ((t,.bool true)::f))) (cond (Nat.ble n t) False (B ((t,.bool false)::f)))
   |false=>Br g (cond (Nat.ble n t) False (B ((t,.bool true)::f))) (cond (Nat.ble n t) False (A ((t,.bool false)::f))))
  |.tuple _=>B f
  |_=>False)
def hs(b:Bool)(A B:Prop):Prop:=cond b (HS A B) B
def evI(P:Program)(T:TT)(n:Nat)(S:World->Prop)(b:Bool)(ops:List Oper)(i:Nat)(f:Fr)(w:World)(K:Fr->World->Prop):Prop:=ta ops i fun o=>gop n ops o f
 (fun f'=>se P T o f' w fun v w'=>pt n f' o.dst v fun f''=>hs b (S w') (K f'' w'))
 (fun f'=>pt n f' o.dst undef fun f''=>hs b (S w) (K f'' w))
def evP(P:Program)(T:TT)(n:Nat)(S:World->Prop)(D:List Nat)(ops:List Oper)(p:A4):Fr->World->(Fr->World->Prop)->Prop :=
 A4.rec (motive:=fun _=>Fr->World->(Fr->World->Prop)->Prop) (fun f w K=>K f w)
  (fun i _ ih f w K=>ta ops i fun o=>gop n ops o f
   (fun f'=>evQ P T S o f' fun v=>pt n f' o.dst v fun f''=>ih f'' w K)
   (fun f'=>pt n f' o.dst undef fun f''=>ih f'' w K))
  (fun i _ ih f w K=>evI P T n S (!D.contains i) ops i f w fun f' w'=>ih f' w' K)
  (fun i _ j _ ih ph f w K=>evI P T n S (!D.contains i) ops i f w (fun f' w'=>ih f' w' K)/\evI P T n S (!D.contains j) ops j f w fun f' w'=>ph f' w' K)
  (fun i _ j _ k _ ih ph ih3 f w K=>evI P T n S (!D.contains i) ops i f w (fun f' w'=>ih f' w' K)/\evI P T n S (!D.contains j) ops j f w (fun f' w'=>ph f' w' K)/\evI P T n S (!D.contains k) ops k f w fun f' w'=>ih3 f' w' K) p
section sound
variable{P:Program}{T:TT}{n:Nat}{S:World->Prop}{ops:Array Oper}{Q:Exit->Act->World->Prop}
theorem wY{ds:List Deferred}{o:Oper}{f:Fr}{A B:Fr->Prop}(h:gop n ops.toList o f A B){a:Act}(ha:Au n f a ds) :
  (Region.wanted o (yielded ops a.tmps)=true/\∃f',Au n f' a ds/\A f')\/(Region.wanted o (yielded ops a.tmps)=false/\∃f',Au n f' a ds/\B f'):=by
 unfold gop at h;split at h
 ·rename_i hg
  exact .inl ⟨by simp[Region.wanted,hg],f,ha,h⟩
 ·rename_i j b hg
  obtain⟨oj,hj,h⟩:=cv h;split at h
  ·rename_i t ht
   obtain⟨vg,hvg,h⟩:=kN h;have vN:=ha.get t vg hvg;split at h
   ·rename_i g
    have hy:yielded ops a.tmps j=some g:=by
     have hj':ops[j]?=some oj:=by simpa using hj
     unfold yielded;simp only[hj',Option.bind_some,ht,getD_some vN]
    have hw:Region.wanted o (yielded ops a.tmps)=(g == b):=by
     simp only[Region.wanted,hg,hy];simp
    have m6:∀c:Bool,g=c->Au n ((t,.bool c)::f) a ds:=fun c hc=>ha.cons t (.bool c) (by rw[vN,hc]);have iR:∀ {C:Prop},cond (Nat.ble n t) False C->C:=fun {C} hc=>by
     cases hb:Nat.ble n t with
     |true=>rw[hb] at hc;exact hc.elim
     |false=>rw[hb] at hc;exact hc
    cases b with
    | true =>
     cases hgv:g with
     |true=>exact .inl ⟨by rw[hw,hgv];rfl,_,m6 true hgv,iR (Br.tt h hgv)⟩
     |false=>exact .inr ⟨by rw[hw,hgv];rfl,_,m6 false hgv,iR (Br.ff h hgv)⟩
    | false =>
     cases hgv:g with
     |true=>exact .inr ⟨by rw[hw,hgv];rfl,_,m6 true hgv,iR (Br.tt h hgv)⟩
     |false=>exact .inl ⟨by rw[hw,hgv];rfl,_,m6 false hgv,iR (Br.ff h hgv)⟩
   ·exact .inr ⟨iu hg hj ht vN,f,ha,h⟩
   ·exact h.elim
  ·exact h.elim
theorem ags{b:Bool}{A B:Prop}(h:hs b A B):(b=true->A)/\B:=by
 cases b with
 | true =>
  have h:HS A B:=h;exact⟨fun _=>h.held,h.go⟩
 |false=>exact⟨fun e=>(by cases e),h⟩
theorem iF{ds:List Deferred}(hT:TT.ok P T=true){D:List Nat}{i:Nat}{f:Fr}{w:World}{K:Fr->World->Prop}(h:evI P T n S (!D.contains i) ops.toList i f w K){a:Act}(ha:Au n f a ds){N:Act->World->Prop}
  (hn:∀f' a' w',K f' w'->(i∉D->S w')->Au n f' a' ds->N a' w'):wpOp P ops Q i (fun a' w'=>(i∉D->S w')/\N a' w') a w:=by
 obtain⟨o,ho,h⟩:=cv h;have jG:ops[i]?=some o:=by simpa using ho
 have hD:i∉D->(!D.contains i)=true:=fun hi=>by simpa using hi
 unfold wpOp;simp only[jG];rcases wY h ha with⟨hw,f',hf,h⟩|⟨hw,f',hf,h⟩
 ·rw[if_pos hw];refine .inl (oF hT h hf fun v w' hk=>?_);obtain⟨f'',ab6,hk⟩:=cw hk hf;have hk:=ags hk;exact⟨fun hi=>hk.1 (hD hi),hn _ _ _ hk.2 (fun hi=>hk.1 (hD hi)) ab6⟩
 ·rw[hw];obtain⟨f'',ab6,hk⟩:=cw h hf;have hk:=ags hk;exact⟨fun hi=>hk.1 (hD hi),hn _ _ _ hk.2 (fun hi=>hk.1 (hD hi)) ab6⟩
theorem dS{ds:List Deferred}(hT:TT.ok P T=true)(hs:Region.noSelect ops=true){D:List Nat}(hQ:∀c a w,¬Q (.panic c) a w):∀(p:A4) (m:Nat) (ay:Array Bool) {b:Bool} {f:Fr} {w:World} {K:Fr->World->Prop} {a:Act},fy ops D b p m ay=true->evP P T n S D ops.toList p f w K->Au n f a ds->(b=true->S w) ->
  (∀f' a' w',K f' w'->Au n f' a' ds->Q .normal a' w')->jA P ops Q S D m ay a w
 |.done,m,ay,b,f,w,K,a,hp,h,ha,hS,hK=>aal (by simpa[fy] using hp) (hK _ _ _ h ha) m
 |.take i p,0,ay,b,f,w,K,a,hp,h,ha,hS,hK=>by cases hp
 | .take i p,m+1,ay,b,f,w,K,a,hp,h,ha,hS,hK=>by
  simp only[fy,Bool.and_eq_true] at hp;obtain⟨⟨⟨⟨⟨⟨h0,h5⟩,h6⟩,h1⟩,h2⟩,h3⟩,h4⟩:=hp;have h6:i∉D:=by simpa using h6
  obtain⟨o,ho,h⟩:=cv h;have jG:ops[i]?=some o:=by simpa using ho
  rcases wY h ha with⟨hw,f',hf,h⟩|⟨hw,f',hf,h⟩
  ·obtain⟨v,hv,hk⟩:=aj3 hT (by simpa[aam,jG] using h3) h hf;obtain⟨f'',ab6,hk⟩:=cw hk hf;exact rK jG hs h5 h6 h1 h2 (fun c a w hq=>absurd hq (hQ _ _ _)) (.inl ⟨hw,hv⟩) (hS h0) (dS hT hs hQ p m _ h4 hk ab6 hS hK)
  ·obtain⟨f'',ab6,hk⟩:=cw h hf;exact rK jG hs h5 h6 h1 h2 (fun c a w hq=>absurd hq (hQ _ _ _)) (.inr ⟨hw,rfl⟩) (hS h0) (dS hT hs hQ p m _ h4 hk ab6 hS hK)
 |.one i p,0,ay,b,f,w,K,a,hp,h,ha,hS,hK=>by cases hp
 | .one i p,m+1,ay,b,f,w,K,a,hp,h,ha,hS,hK=>by
  simp only[fy,Bool.and_eq_true] at hp;obtain⟨h1,h2⟩:=hp;refine oJ (rs:=[i]) (by simpa using h1) (by simp) fun j hj=>?_;obtain rfl:=List.mem_singleton.1 hj;exact iF hT h ha fun f' a' w' hk hS' gY=>dS hT hs hQ p m _ h2 hk gY (fun hb=>hS' (by simp at hb;exact hb.2)) hK
 |.two i p j q,0,ay,b,f,w,K,a,hp,h,ha,hS,hK=>by cases hp
 | .two i p j q,m+1,ay,b,f,w,K,a,hp,h,ha,hS,hK=>by
  simp only[fy,Bool.and_eq_true] at hp;obtain⟨⟨h1,h2⟩,h3⟩:=hp;refine oJ (rs:=[i,j]) (by simpa using h1) (by simp) fun x hx=>?_;rcases List.mem_cons.1 hx with rfl|hx
  ·exact iF hT h.1 ha fun f' a' w' hk hS' gY=>dS hT hs hQ p m _ h2 hk gY (fun hb=>hS' (by simp at hb;exact hb.2)) hK
  ·obtain rfl:=List.mem_singleton.1 hx;exact iF hT h.2 ha fun f' a' w' hk hS' gY=>dS hT hs hQ q m _ h3 hk gY (fun hb=>hS' (by simp at hb;exact hb.2)) hK
 |.three i p j q k r,0,ay,b,f,w,K,a,hp,h,ha,hS,hK=>by cases hp
 | .three i p j q k r,m+1,ay,b,f,w,K,a,hp,h,ha,hS,hK=>by
  simp only[fy,Bool.and_eq_true] at hp;obtain⟨⟨⟨h1,h2⟩,h3⟩,h4⟩:=hp;refine oJ (rs:=[i,j,k]) (by simpa using h1) (by simp) fun x hx=>?_;rcases List.mem_cons.1 hx with rfl|hx
  ·exact iF hT h.1 ha fun f' a' w' hk hS' gY=>dS hT hs hQ p m _ h2 hk gY (fun hb=>hS' (by simp at hb;exact hb.2)) hK
  ·rcases List.mem_cons.1 hx with rfl|hx
   ·exact iF hT h.2.1 ha fun f' a' w' hk hS' gY=>dS hT hs hQ q m _ h3 hk gY (fun hb=>hS' (by simp at hb;exact hb.2)) hK
   ·obtain rfl:=List.mem_singleton.1 hx;exact iF hT h.2.2 ha fun f' a' w' hk hS' gY=>dS hT hs hQ r m _ h4 hk gY (fun hb=>hS' (by simp at hb;exact hb.2)) hK
theorem CW.held(S:World->Prop)(D:List Nat)(p:A4){id:Nat}{l:List Oper}{f:Fr}{w:World}{Q:Exit->Fr->World->Prop}(hT:TT.ok P T=true)(hm:P.follows .mixedOrders=true)(hs:Region.noSelect l.toArray=true)
  (hp:fy l.toArray D true p l.length (Array.replicate l.length false)=true) (hS:S (w.drewN 1)) (h:evP P T n S D l p f (w.drewN 1) fun f' w'=>Q .normal f' w'):CW P n (.region id l.toArray true) Q f w:=⟨fun a ha=>by
 refine wp_region_any hm (oI (S:=S) (D:=D) _ _ _ _ ?_);have e:l.toArray.size=l.length:=by simp
 rw[e];exact dS (ops:=l.toArray) hT hs (fun c a w hq=>hq.1) p _ _ hp h ha (fun _=>hS) fun f' a' w' hk hf=>⟨trivial,f',hf,hk⟩⟩
theorem Ag.of{C:World->Prop}{a:Addr}{v:Value}{K:Value->Prop}(h:∀w,C w->w.cell? a=some v)(k:K v):Ag C a K:=⟨v,h,k⟩
theorem Am.of{C:World->Prop}{s:Sem Value}{v:Value}{K:Value->Prop}(h:∀w,C w->s.run P w=.ok v w)(k:K v):Am P C s K:=⟨v,h,k⟩
end sound
end
section
open Go.RowKit
theorem vi{k:IntKind}{a b:Int}(h:a=b):Value.int k a=.int k b:=by rw[h]
theorem vb{a b:Bool}(h:a=b):Value.bool a=.bool b:=by rw[h]
section
variable{A B:Prop}
theorem Br.yes{p:Prop}[Decidable p](h:p)(k:A):Br (decide p) A B:=⟨fun _=>k,fun e=>by simp[h] at e⟩
theorem Br.no{p:Prop}[Decidable p](h:¬p)(k:B):Br (decide p) A B:=⟨fun e=>by simp[h] at e,fun _=>k⟩
theorem Br.aom{p:Prop}[Decidable p](h:p)(k:B):Br (!decide p) A B:=⟨fun e=>by simp[h] at e,fun _=>k⟩
theorem Br.nno{p:Prop}[Decidable p](h:¬p)(k:A):Br (!decide p) A B:=⟨fun _=>k,fun e=>by simp[h] at e⟩
theorem Br.t(k:A):Br true A B:=⟨fun _=>k,fun e=>(by cases e)⟩
theorem Br.f(k:B):Br false A B:=⟨fun e=>(by cases e),fun _=>k⟩
theorem Br.is{b:Bool}(h:b=true)(k:A):Br b A B:=⟨fun _=>k,fun e=>by rw[h] at e;cases e⟩
theorem Br.jB{b:Bool}(h:b=false)(k:B):Br b A B:=⟨fun e=>(by rw[h] at e;cases e),fun _=>k⟩
theorem Br.d{p:Prop}[Decidable p](h:p->A)(k:¬p->B):Br (decide p) A B:=⟨fun e=>h (of_decide_eq_true e),fun e=>k (of_decide_eq_false e)⟩
theorem Br.nd{p:Prop}[Decidable p](h:¬p->A)(k:p->B):Br (!decide p) A B:=⟨fun e=>h (by simpa using e),fun e=>k (by simpa using e)⟩
end
section
variable{K:Value->Prop}{x a b:Int}
theorem Ar.i64(h1 : -9223372036854775808<=x)(h2:x<=9223372036854775807)(h:K (.int .i64 x)):Ar .i64 x K:=⟨by rw[IntWalk.i64_in x ⟨h1,h2⟩];exact h⟩
theorem Ar.u8(h1:0<=x)(h2:x<=255)(h:K (.int .u8 x)):Ar .u8 x K:=⟨by rw[show IntKind.u8.wrap x=x from by unfold IntKind.wrap;simp[IntKind.signed,IntKind.bits];omega];exact h⟩
theorem Ar.u8m(h:K (.int .u8 (x%256))):Ar .u8 x K:=⟨by rw[show IntKind.u8.wrap x=x%256 from by unfold IntKind.wrap;simp[IntKind.signed,IntKind.bits]];exact h⟩
theorem Ar.u64(h1:0<=x)(h2:x<=18446744073709551615)(h:K (.int .u64 x)):Ar .u64 x K:=⟨by rw[show IntKind.u64.wrap x=x from by unfold IntKind.wrap;simp[IntKind.signed,IntKind.bits];omega];exact h⟩
theorem Ar.aqe(h:K (.int .u64 (x%18446744073709551616))):Ar .u64 x K:=⟨by rw[show IntKind.u64.wrap x=x%18446744073709551616 from by unfold IntKind.wrap;simp[IntKind.signed,IntKind.bits]];exact h⟩
theorem Dv.quo(h1:0<=a)(h2:0<b)(h3:a<=9223372036854775807)(h:K (.int .i64 (a/b))):Dv .quo .i64 a b K:=⟨by omega,by
 have e:a.tdiv b=a/b:=Int.tdiv_eq_ediv_of_nonneg h1;have h4:0<=a/b:=Int.ediv_nonneg h1 (by omega);have h5:a/b<=a:=Int.ediv_le_self b h1;simp only[e];rw[IntWalk.i64_in _ ⟨by omega,by omega⟩];exact h⟩
theorem Dv.rem(h1:0<=a)(h2:0<b)(h:K (.int .i64 (a%b))):Dv .rem .i64 a b K:=⟨by omega,by
 have e:a.tmod b=a%b:=Int.tmod_eq_emod_of_nonneg h1;simp only[e];exact h⟩
theorem Pk.t{u v:Value}(h:K u):Pk true u v K:=⟨h⟩
theorem Pk.f{u v:Value}(h:K v):Pk false u v K:=⟨h⟩
end
section
variable{len:Nat}{K:Nat->Prop}
theorem Ix.nat{k:Nat}(h:k<len)(hk:K k):Ix (k:Int) len K:=⟨k,rfl,h,hk⟩
theorem Ix.of{i:Int}(k:Nat)(e:i=(k:Int))(h:k<len)(hk:K k):Ix i len K:=⟨k,e,h,hk⟩
theorem Ix.int{i:Int}(h1:0<=i)(h2:i<len)(hk:K i.toNat):Ix i len K:=⟨i.toNat,by omega,by omega,hk⟩
end
section
variable{P:Program}{w:World}
theorem Ca.of{f:FuncId}{args:Array Value}{K Φ:Value->World->Prop}(h:Spec P f args w Φ)(k:∀v w',Φ v w'->K v w'):Ca P f args w K:=⟨h.1,h.2.mono fun e w' ⟨v,he,hk⟩=>⟨v,he,k v w' hk⟩⟩
theorem Spec.jN{f:FuncId}{args:Array Value}{V:Value}{Φ:World->Prop}(hf:ab1 P f=true)(h:Calls P f args w fun e w'=>e=.returned V/\Φ w'):Spec P f args w fun v w'=>v=V/\Φ w':=⟨hf,h.mono fun e w' ⟨he,hk⟩=>⟨V,he,rfl,hk⟩⟩
theorem Ca.args{f:FuncId}{args args':Array Value}{K:Value->World->Prop}(e:args=args')(h:Ca P f args' w K):Ca P f args w K:=e ▸ h
theorem Ld.of{a:Addr}{v:Value}{K:Value->Prop}(h:w.cell? a=some v)(k:K v):Ld w a K:=⟨v,h,k⟩
theorem Ld.row{g i:Nat}{t:TypeId}{n:Nat}{f:Nat->Value}{K:Value->Prop}(r:Row w g t n f)(hi:i<n)(k:K (f i)):Ld w ⟨g,i,none⟩ K:=⟨_,r.cell i hi,k⟩
theorem Aa.set(g i:Nat)(v:Value):Aa [g] w (w.setCell ⟨g,i,none⟩ v):=(Aa.refl [g] w).setCell _ _ (.inl (List.mem_singleton.2 rfl))
theorem Sd.row{g i:Nat}{t:TypeId}{n:Nat}{f:Nat->Value}{v:Value}{K:World->Prop}(r:Row w g t n f)(hi:i<n)(h1:v.oneCell'=true)(k:∀w',Row w' g t n (put f i v)->Aa [g] w w'->K w'):Sd w ⟨g,i,none⟩ v K :=
 ⟨⟨_,r.cell i hi⟩,r.free i,h1,k _ (r.set i v) (Aa.set g i v)⟩
theorem Ld.at{g i j:Nat}{v:Value}{K:Value->Prop}(e:i=j)(h:w.cell? ⟨g,j,none⟩=some v)(k:K v):Ld w ⟨g,i,none⟩ K:=⟨v,e ▸ h,k⟩
theorem Ld.rowAt{g i:Nat}{t:TypeId}{n:Nat}{f:Nat->Value}{K:Value->Prop}(r:Row w g t n f)(j:Nat)(e:i=j)(hi:j<n)(k:K (f j)):Ld w ⟨g,i,none⟩ K:=⟨_,e ▸ r.cell j hi,k⟩
theorem Sd.rowAt{g i:Nat}{t:TypeId}{n:Nat}{f:Nat->Value}{v:Value}{K:World->Prop}(r:Row w g t n f)(j:Nat)(e:i=j)(hi:j<n)(h1:v.oneCell'=true)(k:∀w',Row w' g t n (put f j v)->Aa [g] w w'->K w'):Sd w ⟨g,i,none⟩ v K:=by
 subst e;exact Sd.row r hi h1 k
theorem Sd.setAt{g i:Nat}{u v:Value}{K:World->Prop}(j:Nat)(e:i=j)(h:w.cell? ⟨g,j,none⟩=some u)(hf:w.frozen? ⟨g,j,none⟩=false)(h1:v.oneCell'=true)(k:K (w.setCell ⟨g,j,none⟩ v)):Sd w ⟨g,i,none⟩ v K:=by
 subst e;exact⟨⟨_,h⟩,hf,h1,k⟩
theorem Ru.of{α:Type}{s:Sem α}{v:α}{w':World}{K:α->World->Prop}(h:s.run P w=.ok v w')(k:K v w'):Ru P s w K:=⟨v,w',h,k⟩
theorem Ru.vR{g o n N:Nat}{t ty:TypeId}{f:Nat->Value}{d:TypeDesc}{K:Value->World->Prop}(hr:Row w g t N f)(hu:P.underlying ty=some d)(hd:(match d with | .struct _ | .array _ _=>true|_=>false)=true)(hi:(P.info? ty).map (·.size)=some n)(hn:o+n<=N)
  (k:K (agg n (fun j=>f (o+j))) w):Ru P (loadVar ty ⟨g,o,none⟩) w K:=⟨_,_,fH hr hn hu hd hi,k⟩
theorem Ru.cx{g o n N:Nat}{t ty:TypeId}{f q:Nat->Value}{d:TypeDesc}{K:Value->World->Prop}(hr:Row w g t N f)(hu:P.underlying ty=some d)(hd:(match d with | .struct _ | .array _ _=>true|_=>false)=true)(hi:(P.info? ty).map (·.size)=some n)(hn:o+n<=N)(hf:∀j,j<n->f (o+j)=q j)
  (k:K (agg n q) w):Ru P (loadVar ty ⟨g,o,none⟩) w K:=by
 refine Ru.vR hr hu hd hi hn ?_;rw[br hf];exact k
theorem Ru.dr{t:TypeId}{n:Nat}{s:Nat->Value}{K:Value->World->Prop}(k:∀g w',g=w.heap.size->w'.heap.size=w.heap.size+1->Row w' g t n s->Aa [] w w'->K (.pointer (some ⟨g,0,none⟩)) w'):Ru P (Instr.box t (agg n s)) w K :=
 ⟨_,_,aah t n s w,k _ _ rfl (by simp[eS]) (Row.obj w t n s) ((Aa.refl _ _).alloc _)⟩
theorem Ru.aE{t:TypeId}{n:Nat}{s:Nat->Value}{K:Value->World->Prop}(h:(Instr.alloc t true (.tuple #[])).run P w=.ok (.pointer (some ⟨w.heap.size,0,none⟩)) (w.alloc (eS n s t)))(k:∀g w',g=w.heap.size->w'.heap.size=w.heap.size+1->Row w' g t n s->Aa [] w w'->K (.pointer (some ⟨g,0,none⟩)) w'):Ru P (Instr.alloc t true (.tuple #[])) w K :=
 ⟨_,_,h,k _ _ rfl (by simp[eS]) (Row.obj w t n s) ((Aa.refl _ _).alloc _)⟩
theorem Ru.idx{T e:TypeId}{len k:Nat}{f:Nat->Value}{K:Value->World->Prop}(hT:P.underlying T=some (.array len e))(hk:k<len)(hc:dV P e=true)(h:K (f k) w):Ru P (Instr.index T (agg len f) (.int .i64 (k:Int))) w K:=⟨_,_,oh T e len k hT hk (fun w=>oE hc w) (by
 simp only[dV,Bool.and_eq_true] at hc;have h1:=hc.1;unfold kO at h1;split at h1
 ·rename_i i hi
  rw[hi];simpa using h1
 ·cases h1) w,h⟩
theorem ei{g o n N:Nat}{t ty:TypeId}{f q:Nat->Value}{d:TypeDesc}(hr:Row w g t N f)(hu:P.underlying ty=some d)(hd:(match d with | .struct _ | .array _ _=>true|_=>false)=true)(hi:(P.info? ty).map (·.size)=some n)(hn:o+n<=N)(hf:∀j,j<n->f (o+j)=q j):(loadVar ty ⟨g,o,none⟩).run P w=.ok (agg n q) w:=by
 have h:=fH (P:=P) hr hn hu hd hi;rw[br hf] at h;exact h
theorem Ru.im{g o n N:Nat}{t ty:TypeId}{f s:Nat->Value}{K:Unit->World->Prop}(hr:Row w g t N f)(hi:(P.info? ty).map (·.size)=some n)(hn:o+n<=N)(h1:∀j,j<n->(s j).oneCell'=true)
  (k:∀w',Row w' g t N (lay f o n s)->Aa [g] w w'->K () w'):Ru P (storeVar ty ⟨g,o,none⟩ (agg n s)) w K:=by
 obtain⟨w',h,h2,h3⟩:=wh (P:=P) (ty:=ty) hr hn hi h1;exact⟨(),w',h,k w' h2 h3⟩
end
section
variable{P:Program}{w:World}
theorem Bu.copy{dT sT ty elem:TypeId}{g o dLen dCap n:Nat}{t:TypeId}{f s:Nat->Value}{cs:Array Bool}{K:Value->World->Prop}(hu:P.underlying dT=some (.slice elem))(hs:(P.info? elem).map (·.size)=some 1)(hr:Row w g t n f)
  (A:Option Addr) (oH sf m:Nat) (hm:m=Nat.min oH dLen) (ha:Rd w A m s) (hA:A=none->oH=0/\sf=0) (ef:o+m<=n) (h1:∀j,j<m->(s j).oneCell'=true)
  (k:∀w',Row w' g t n (lay f o m s)->Aa [g] w w'->K (.int .i64 (m:Int)) w'):Bu P .copy #[dT,sT] ty cs #[.slice (some ⟨g,o,none⟩) dLen dCap,.slice A oH sf] w K:=by
 obtain⟨w',h,h2,h3⟩:=rJ (P:=P) (ty:=ty) (sT:=sT) (dCap:=dCap) hu hs hr A oH sf m hm ha hA ef h1;exact⟨_,w',by simp only[builtin,Sem.run_bind,h];rfl,k w' h2 h3⟩
theorem Bu.append{t ty e:TypeId}{i:TypeInfo}{z:Value}{size bytes:Nat}{cs:Array Bool}{K:Value->World->Prop}(ht:P.underlying t=some (.slice e))(hi:P.info? e=some i)(hz:i.zero=some z)
  (og:i.size=size) (we:i.bytes=bytes) (hzs:z.cells.size=size) (ab2:0<size)
  {A:Option Addr} {n c:Nat} {f:Nat->Value} (hl:Ly w e size A n c f)
  {B:Option Addr} {m d:Nat} (g:Nat->Value) (hr:Rd w B (m*size) g) (hm:m<=d) (hB:B=none->d=0) (h1:∀j,j<m*size->(g j).oneCell'=true)
  (h63:n+m<=maxLen) (kS:(n+m)*bytes<=140737488355328)
  (k:∀A' c' w',Ly w' e size A' (n+m) c' (fun j=>if j<n*size then f j else g (j-n*size))->Aa (aK A) w w'->(A'=A\/A'=some ⟨w.heap.size,0,none⟩)->(∀x,x∈aK A->BL w w' x e (n*size))->K (.slice A' (n+m) c') w') :
  Bu P .append #[t,t] ty cs #[.slice A n c,.slice B m d] w K:=by
 obtain⟨A',c',w',hr,h2,h3,h5,h6⟩:=oe (P:=P) w t ty e i z size bytes ht hi hz og we hzs ab2 A n c f hl B m d g hr hm hB h1 h63 kS;exact⟨_,w',by simp only[builtin,Sem.run_bind,hr];rfl,k A' c' w' h2 h3 h5 h6⟩
theorem Ru.jO{t e:TypeId}{g o n sz:Nat}{K:Value->World->Prop}(hu:P.underlying t=some (.array n e))(hs:(P.info? e).map (·.size)=some sz)(k:K (.slice (some ⟨g,o,none⟩) n n) w):Ru P (Instr.sliceAt t (.pointer (some ⟨g,o,none⟩)) none none none) w K:=by
 refine⟨_,_,?_,k⟩
 cases hq:P.info? e with
 |none=>simp[hq] at hs
 | some i =>
  have h0:(⟨g,o,none⟩:Addr).add 0=⟨g,o,none⟩:=rfl;simp[Instr.sliceAt,run_underlying hu,Instr.sureAddr,Instr.sliceBounds,sizeOf,typeInfo,hq,h0]
end
theorem Ag.at{C:World->Prop}{g i j:Nat}{v:Value}{K:Value->Prop}(e:i=j)(h:∀w,C w->w.cell? ⟨g,j,none⟩=some v)(k:K v):Ag C ⟨g,i,none⟩ K:=⟨v,fun w hw=>e ▸ h w hw,k⟩
theorem Ag.row{C:World->Prop}{g i:Nat}{t:TypeId}{n:Nat}{f:Nat->Value}{K:Value->Prop}(r:∀w,C w->Row w g t n f)(hi:i<n)(k:K (f i)):Ag C ⟨g,i,none⟩ K:=⟨_,fun w hw=>(r w hw).cell i hi,k⟩
section
variable{P:Program}{w:World}
end
/-! Short names, for the stepper's rounds. -/
section
variable{A B:Prop}{K:Value->Prop}{x a b:Int}
theorem Br.y{p:Prop}[Decidable p](k:A)(h:p:=by omega):Br (decide p) A B:=Br.yes h k
theorem Br.n{p:Prop}[Decidable p](k:B)(h:¬p:=by omega):Br (decide p) A B:=Br.no h k
theorem Br.ny{p:Prop}[Decidable p](k:B)(h:p:=by omega):Br (!decide p) A B:=Br.aom h k
theorem Br.nn{p:Prop}[Decidable p](k:A)(h:¬p:=by omega):Br (!decide p) A B:=Br.nno h k
theorem Ix.n{len k:Nat}{K:Nat->Prop}(hk:K k)(h:k<len:=by omega):Ix (k:Int) len K:=Ix.nat h hk
theorem Ix.i{i:Int}{len:Nat}{K:Nat->Prop}(hk:K i.toNat)(h1:0<=i:=by omega)(h2:i<len:=by omega):Ix i len K:=Ix.int h1 h2 hk
theorem Ar.la(h:K (.int .i64 x))(h1 : -9223372036854775808<=x:=by omega)(h2:x<=9223372036854775807:=by omega):Ar .i64 x K:=Ar.i64 h1 h2 h
theorem Ar.lb(h:K (.int .u8 x))(h1:0<=x:=by omega)(h2:x<=255:=by omega):Ar .u8 x K:=Ar.u8 h1 h2 h
theorem Ar.lc(h:K (.int .u64 x))(h1:0<=x:=by omega)(h2:x<=18446744073709551615:=by omega):Ar .u64 x K:=Ar.u64 h1 h2 h
theorem Dv.q(h:K (.int .i64 (a/b)))(h1:0<=a:=by omega)(h2:0<b:=by omega)(h3:a<=9223372036854775807:=by omega):Dv .quo .i64 a b K:=Dv.quo h1 h2 h3 h
theorem Dv.r(h:K (.int .i64 (a%b)))(h1:0<=a:=by omega)(h2:0<b:=by omega):Dv .rem .i64 a b K:=Dv.rem h1 h2 h
theorem HS.t(k:B):HS True B:=⟨trivial,k⟩
end
section
variable{w:World}{a b:Bool}{x y:Operand}{C:World->Prop}
theorem CW.s{n:Nat}{x y:Code}{f:Fr}{w:World}{Q:Exit->Fr->World->Prop} (h:wpE Tryz.prog tt n x f w fun e f w=>(match e with
  |.normal=>wpE Tryz.prog tt n y f w Q
  |e=>Q e f w)):CW Tryz.prog n (.seq x y) Q f w:=CW.seq ai h
end
end
section
open Go.RowKit
def aon(c:Int):Value:=.iface 40 (.int .i64 c)
theorem yM{P:Program}(w:World){ti tn:TypeId}{ms:Array (String×TypeId)}{i:TypeInfo}{k:IntKind}(a b:Int)
  (hi:P.underlying ti=some (.interface ms)) (hn:P.underlying tn=some (.int k)) (aoo:P.info? tn=some i) (aop:i.comparable=true) :
  (binOp .eql ti (.iface tn (.int k a)) (.iface tn (.int k b))).run P w=.ok (.bool (a == b)) w:=by
 have h:∀d:Nat,(Op.equalIn (d+2) ti (.iface tn (.int k a)) (.iface tn (.int k b))).run P w=.ok (a == b) w:=fun d=>by
  simp[Op.equalIn,run_underlying hi,run_underlying hn,typeInfo,aoo,aop]
 simp only[binOp];simp[Op.equal,Op.maxDepth,h 9998]
theorem aeS:(Tryz.prog.info? 40).map (fun i=>i.comparable)=some true:=by kernel_rfl
theorem tx(a b:Int)(w:World):(binOp .eql 33 (.iface 40 (.int .i64 a)) (.iface 40 (.int .i64 b))).run Tryz.prog w=.ok (.bool (a == b)) w:=by
 have h:=aeS
 cases hi:Tryz.prog.info? 40 with
 |none=>rw[hi] at h;simp at h
 |some i=>rw[hi] at h;exact yM w a b underlying33 underlying40 hi (by simpa using h)
def al(c:Int):Value:=if c=0 then .nilIface else aon c
theorem fX:al 0=.nilIface:=rfl
theorem cS{c:Int}(h:c≠0):al c=.iface 40 (.int .i64 c):=by unfold al aon;rw[if_neg h]
theorem om(c:Int)(w:World):(binOp .eql 33 (al c) .nilIface).run Tryz.prog w=.ok (.bool (c == 0)) w:=by
 by_cases h:c=0
 ·subst h;exact run_eql_nil_nil w 33 (by kernel_rfl)
 ·rw[cS h,run_eql_held_nil w 33 _ _ (by kernel_rfl)];simp[h]
theorem oq(c:Int)(w:World):(binOp .neq 33 (al c) .nilIface).run Tryz.prog w=.ok (.bool (c != 0)) w:=by
 by_cases h:c=0
 ·subst h;exact run_neq_nil_nil w 33 (by kernel_rfl)
 ·rw[cS h,run_neq_held_nil w 33 _ _ (by kernel_rfl)];simp[h]
theorem lL(c:Int)(x:Operand)(v:Value)(w:World):(eqGuard .eql 33 x (.const v) (al c) .nilIface).run Tryz.prog w=.ok () w:=by
 by_cases h:c=0
 ·subst h;simp[eqGuard,fX]
 ·rw[cS h];simp[eqGuard]
theorem lM(c:Int)(x:Operand)(v:Value)(w:World):(eqGuard .neq 33 x (.const v) (al c) .nilIface).run Tryz.prog w=.ok () w:=by
 by_cases h:c=0
 ·subst h;simp[eqGuard,fX]
 ·rw[cS h];simp[eqGuard]
theorem kT(a b:Int)(w:World):(binOp .neq 33 (.iface 40 (.int .i64 a)) (.iface 40 (.int .i64 b))).run Tryz.prog w=.ok (.bool (a != b)) w:=by
 have h:=tx a b w;simp only[binOp] at h ⊢
 cases hr:(Op.equal 33 (.iface 40 (.int .i64 a)) (.iface 40 (.int .i64 b))).run Tryz.prog w with
 | ok x w' =>
  simp[hr] at h;obtain⟨rfl,rfl⟩:=h;simp[hr,bne]
 |halt h2 w'=>simp[hr] at h
theorem wj(c k:Int)(hk:k≠0)(w:World):(binOp .eql 33 (al c) (.iface 40 (.int .i64 k))).run Tryz.prog w=.ok (.bool (c == k)) w:=by
 by_cases h:c=0
 ·subst h;rw[fX,run_eql_iface_nil_left w _ _ underlying33];have:¬(0:Int)=k:=fun e=>hk e.symm;simp[this]
 ·rw[cS h];exact tx c k w
theorem ot(c k:Int)(hk:k≠0)(w:World):(binOp .neq 33 (al c) (.iface 40 (.int .i64 k))).run Tryz.prog w=.ok (.bool (c != k)) w:=by
 by_cases h:c=0
 ·subst h;have h2:=run_eql_iface_nil_left (P:=Tryz.prog) w 40 (.int .i64 k) underlying33;have h3:¬(0:Int)=k:=fun e=>hk e.symm;rw[fX];simp only[binOp] at h2 ⊢
  cases hr:(Op.equal 33 .nilIface (.iface 40 (.int .i64 k))).run Tryz.prog w with
  | ok x w' =>
   simp[hr] at h2;obtain⟨rfl,rfl⟩:=h2;simp[hr,h3]
  |halt h4 w'=>simp[hr] at h2
 ·rw[cS h];exact kT c k w
theorem lP(op:BinOp)(c k:Int)(x y:Operand)(w:World):(eqGuard op 33 x y (al c) (.iface 40 (.int .i64 k))).run Tryz.prog w=.ok () w:=by
 by_cases h:c=0
 ·subst h
  cases op<;>simp[eqGuard,fX]
 ·rw[cS h]
  cases op<;>simp[eqGuard]
attribute [go_sem] kT wj ot lP
attribute [go_sem] tx om oq lL lM
end
section
section
variable{w:World}{K:Value->World->Prop}{c k:Int}{vx:Value}{x y:Operand}{u:Value}
theorem Ru.pj(hx:vx=al c)(h:K (.bool (decide (c=0))) w):Ru Tryz.prog (do eqGuard .eql 33 x (.const u) vx .nilIface;binOp .eql 33 vx .nilIface) w K:=by
 subst hx;exact⟨_,_,by simp only[Sem.run_bind,lL,Result.andThen_ok];exact om c w,h⟩
theorem Ru.js(hx:vx=al c)(h:K (.bool (!decide (c=0))) w):Ru Tryz.prog (do eqGuard .neq 33 x (.const u) vx .nilIface;binOp .neq 33 vx .nilIface) w K:=by
 subst hx;exact⟨_,_,by simp only[Sem.run_bind,lM,Result.andThen_ok];exact oq c w,h⟩
theorem Ru.kT(hx:vx=al c)(hk:k≠0)(h:K (.bool (!decide (c=k))) w):Ru Tryz.prog (do eqGuard .neq 33 x y vx (.iface 40 (.int .i64 k));binOp .neq 33 vx (.iface 40 (.int .i64 k))) w K:=by
 subst hx;exact⟨_,_,by simp only[Sem.run_bind,lP,Result.andThen_ok];exact ot c k hk w,h⟩
theorem Ru.ak(h:K (.bool false) w):Ru Tryz.prog (do eqGuard .neq 33 x (.const u) .nilIface .nilIface;binOp .neq 33 .nilIface .nilIface) w K:=Ru.js (c:=0) rfl h
theorem Ru.aan(hc:c≠0)(h:K (.bool true) w):Ru Tryz.prog (do eqGuard .neq 33 x (.const u) (.iface 40 (.int .i64 c)) .nilIface;binOp .neq 33 (.iface 40 (.int .i64 c)) .nilIface) w K:=Ru.js (c:=c) (cS hc).symm (by rw[show(decide (c=0))=false from decide_eq_false hc];exact h)
theorem Ru.bh(h:K (.bool true) w):Ru Tryz.prog (do eqGuard .eql 33 x (.const u) .nilIface .nilIface;binOp .eql 33 .nilIface .nilIface) w K:=Ru.pj (c:=0) rfl h
theorem Ru.agt(hc:c≠0)(h:K (.bool false) w):Ru Tryz.prog (do eqGuard .eql 33 x (.const u) (.iface 40 (.int .i64 c)) .nilIface;binOp .eql 33 (.iface 40 (.int .i64 c)) .nilIface) w K:=Ru.pj (c:=c) (cS hc).symm (by rw[show(decide (c=0))=false from decide_eq_false hc];exact h)
theorem Ru.agu(hc:c≠0)(hk:k≠0)(h:K (.bool (!decide (c=k))) w):Ru Tryz.prog (do eqGuard .neq 33 x y (.iface 40 (.int .i64 c)) (.iface 40 (.int .i64 k));binOp .neq 33 (.iface 40 (.int .i64 c)) (.iface 40 (.int .i64 k))) w K:=Ru.kT (cS hc).symm hk h
end
section
variable{C:World->Prop}{K:Value->Prop}{c:Int}{vx:Value}{x:Operand}{u:Value}
end
section
variable{w:World}{K:Value->World->Prop}{c k:Int}{vx:Value}{x y:Operand}{u:Value}
theorem Ru.n1(h:K (.bool true) w)(hc:c≠0:=by decide):Ru Tryz.prog (do eqGuard .neq 33 x (.const u) (.iface 40 (.int .i64 c)) .nilIface;binOp .neq 33 (.iface 40 (.int .i64 c)) .nilIface) w K:=Ru.aan hc h
theorem Ru.e1(h:K (.bool false) w)(hc:c≠0:=by decide):Ru Tryz.prog (do eqGuard .eql 33 x (.const u) (.iface 40 (.int .i64 c)) .nilIface;binOp .eql 33 (.iface 40 (.int .i64 c)) .nilIface) w K:=Ru.agt hc h
theorem Ru.n2(h:K (.bool (!decide (c=k))) w)(hc:c≠0:=by decide)(hk:k≠0:=by decide):Ru Tryz.prog (do eqGuard .neq 33 x y (.iface 40 (.int .i64 c)) (.iface 40 (.int .i64 k));binOp .neq 33 (.iface 40 (.int .i64 c)) (.iface 40 (.int .i64 k))) w K:=Ru.agu hc hk h
end
end
section
open Go.RowKit
def aM(a k:Nat):Nat:=a/8*4164+a%8*520+k*130
def aQ(B:Nat):Nat:=B*4164+4160
structure Chunk where
 now:Nat->Nat
 cy:Nat->Nat
 is:Bool
 pk:Int
structure Chip where
 ch:Nat->Nat->Chunk
 reads:Nat->Int
 failed:Nat->Bool
 before:Nat->Int
 aC:Nat->Bool
 off:Bool
 cut:Bool
 bK:Int
 steps:Int
def Chunk.cell(x:Chunk)(s:Nat):Value:=if s<64 then .int .u8 (x.now s:Nat) else if s<128 then .int .u8 (x.cy (s-64):Nat) else if s=128 then .bool x.is else .int .i64 x.pk
def Chip.tail(C:Chip)(B i:Nat):Value:=if i=0 then .int .i64 (C.reads B) else if i=1 then .bool (C.failed B) else if i=2 then .int .i64 (C.before B) else .bool (C.aC B)
def Chip.last(C:Chip)(i:Nat):Value:=if i=0 then .bool C.off else if i=1 then .bool C.cut else if i=2 then .int .i64 C.bK else .int .i64 C.steps
def Chip.cell(C:Chip)(j:Nat):Value :=
 if j<49968 then (if j%4164<4160 then (C.ch (j/4164*8+j%4164/520) (j%4164%520/130)).cell (j%4164%520%130) else C.tail (j/4164) (j%4164-4160))
 else C.last (j-49968)
theorem gL{a k s:Nat}(ha:a<96)(hk:k<4)(hs:s<130):aM a k+s<49968/\(aM a k+s)/4164=a/8/\(aM a k+s)%4164=a%8*520+k*130+s/\(aM a k+s)%4164/520=a%8/\(aM a k+s)%4164%520=k*130+s/\(aM a k+s)%4164%520/130=k/\(aM a k+s)%4164%520%130=s:=by
 have h1:(aM a k+s)%4164=a%8*520+k*130+s:=by unfold aM;omega
 have h0:(aM a k+s)/4164=a/8:=by unfold aM;omega
 have h2:(a%8*520+k*130+s)/520=a%8:=by omega
 have h3:(a%8*520+k*130+s)%520=k*130+s:=by omega
 have h4:(k*130+s)/130=k:=by omega
 have h5:(k*130+s)%130=s:=by omega
 refine⟨by unfold aM;omega,h0,h1,?_,?_,?_,?_⟩
 ·rw[h1,h2]
 ·rw[h1,h3]
 ·rw[h1,h3,h4]
 ·rw[h1,h3,h5]
theorem my{B i:Nat}(hB:B<12)(hi:i<4):aQ B+i<49968/\(aQ B+i)/4164=B/\(aQ B+i)%4164=4160+i:=by
 unfold aQ;omega
theorem Chip.cL(C:Chip){a k s:Nat}(ha:a<96)(hk:k<4)(hs:s<130):C.cell (aM a k+s)=(C.ch a k).cell s:=by
 obtain⟨h1,h2,h3,h4,h5,h6,h7⟩:=gL ha hk hs;unfold Chip.cell;rw[if_pos h1,if_pos (by rw[h3];omega),h2,h4,h6,h7,show a/8*8+a%8=a by omega]
theorem Chip.cF(C:Chip){B i:Nat}(hB:B<12)(hi:i<4):C.cell (aQ B+i)=C.tail B i:=by
 obtain⟨h1,h2,h3⟩:=my hB hi;unfold Chip.cell;rw[if_pos h1,if_neg (by rw[h3];omega),h2,h3,Nat.add_sub_cancel_left]
theorem Chip.cU(C:Chip){i:Nat}:C.cell (49968+i)=C.last i:=by
 unfold Chip.cell;rw[if_neg (by omega),Nat.add_sub_cancel_left]
theorem ab7{j:Nat}(hj:j<49972):(∃a k s,a<96/\k<4/\s<130/\j=aM a k+s)\/(∃B i,B<12/\i<4/\j=aQ B+i)\/(∃i,i<4/\j=49968+i):=by
 by_cases h:j<49968
 ·by_cases h2:j%4164<4160
  ·refine .inl ⟨j/4164*8+j%4164/520,j%4164%520/130,j%4164%520%130,by omega,by omega,by omega,?_⟩;unfold aM;have h3:(j/4164*8+j%4164/520)/8=j/4164:=by omega
   have h4:(j/4164*8+j%4164/520)%8=j%4164/520:=by omega
   rw[h3,h4];omega
  ·exact .inr (.inl ⟨j/4164,j%4164-4160,by omega,by omega,by unfold aQ;omega⟩)
 ·exact .inr (.inr ⟨j-49968,by omega,by omega⟩)
theorem aeT{a k s a' k' s':Nat}(ha:a<96)(hk:k<4)(hs:s<130)(m6:a'<96)(me:k'<4)(hs':s'<130)(e:aM a k+s=aM a' k'+s'):a=a'/\k=k'/\s=s':=by
 obtain⟨-,h2,h3,h4,h5,h6,h7⟩:=gL ha hk hs;obtain⟨-,g2,g3,g4,g5,g6,g7⟩:=gL m6 me hs';rw[e] at h2 h4 h6 h7;exact⟨by omega,by omega,by omega⟩
theorem aeU{B i B' i':Nat}(hB:B<12)(hi:i<4)(hB':B'<12)(jH:i'<4)(e:aQ B+i=aQ B'+i'):B=B'/\i=i':=by
 unfold aQ at e;omega
theorem aao{a k s B i:Nat}(ha:a<96)(hk:k<4)(hs:s<130)(hB:B<12)(hi:i<4):aM a k+s≠aQ B+i:=fun e=>by
 obtain⟨-,h2,h3,-⟩:=gL ha hk hs;obtain⟨-,g2,g3⟩:=my hB hi;rw[e,g3] at h3;omega
theorem gM{a k s:Nat}(ha:a<96)(hk:k<4)(hs:s<130):aM a k+s<49968:=(gL ha hk hs).1
theorem po{B i:Nat}(hB:B<12)(hi:i<4):aQ B+i<49968:=(my hB hi).1
theorem jP{F G:Nat->Value}(h1:∀a k s,a<96->k<4->s<130->F (aM a k+s)=G (aM a k+s))(h2:∀B i,B<12->i<4->F (aQ B+i)=G (aQ B+i))(h3:∀i,i<4->F (49968+i)=G (49968+i))(j:Nat)(hj:j<49972):F j=G j:=by
 rcases ab7 hj with⟨a,k,s,ha,hk,hs,rfl⟩|⟨B,i,hB,hi,rfl⟩|⟨i,hi,rfl⟩
 ·exact h1 a k s ha hk hs
 ·exact h2 B i hB hi
 ·exact h3 i hi
def Chip.cZ(C:Chip)(a k:Nat)(x:Chunk):Chip:={ C with ch:=fun a' k'=>if a'=a/\k'=k then x else C.ch a' k' }
theorem Chip.dt(C:Chip)(a k:Nat)(x:Chunk):(C.cZ a k x).ch a k=x:=if_pos ⟨rfl,rfl⟩
theorem Chip.fe(C:Chip){a k a' k':Nat}(x:Chunk)(h:¬(a'=a/\k'=k)):(C.cZ a k x).ch a' k'=C.ch a' k':=if_neg h
theorem Chip.ab8(C:Chip){a k o n:Nat}(ha:a<96)(hk:k<4)(hn:o+n<=130)(s:Nat->Value)(x:Chunk)(h:∀i,i<130->lay ((C.ch a k).cell) o n s i=x.cell i)(j:Nat)(hj:j<49972):lay C.cell (aM a k+o) n s j=(C.cZ a k x).cell j:=by
 refine jP (F:=lay C.cell (aM a k+o) n s) (G:=(C.cZ a k x).cell) ?_ ?_ ?_ j hj
 ·intro a' k' i m6 me hi;rw[Chip.cL _ m6 me hi];by_cases e:a'=a/\k'=k
  ·obtain⟨rfl,rfl⟩:=e;rw[Chip.dt, <-h i hi];unfold lay;by_cases h1:o<=i/\i<o+n
   ·rw[if_pos h1,if_pos (by omega),show aM a' k'+i-(aM a' k'+o)=i-o by omega]
   ·rw[if_neg h1,if_neg (by omega),Chip.cL _ m6 me hi]
  ·rw[Chip.fe _ _ e];unfold lay;rw[if_neg ?_,Chip.cL _ m6 me hi];intro h1;have h2:aM a' k'+i=aM a k+(aM a' k'+i-aM a k):=by omega
   have h3:=aeT m6 me hi ha hk (by omega) h2;exact e ⟨h3.1,h3.2.1⟩
 ·intro B i hB hi;rw[Chip.cF _ hB hi];unfold lay;rw[if_neg ?_,Chip.cF _ hB hi]
  ·rfl
  ·intro h1;exact aao ha hk (s:=aQ B+i-aM a k) (by omega) hB hi (by omega)
 ·intro i hi;rw[Chip.cU];unfold lay;rw[if_neg ?_,Chip.cU]
  ·rfl
  ·intro h1;have:=gM ha hk (s:=o+n-1) (by omega);omega
theorem adH(f:Nat->Value)(i:Nat)(v:Value)(j:Nat):put f i v j=lay f i 1 (fun _=>v) j:=by
 unfold put lay;by_cases h:j=i
 ·rw[if_pos h,if_pos (by omega)]
 ·rw[if_neg h,if_neg (by omega)]
theorem Chip.amm(C:Chip){a k i:Nat}(ha:a<96)(hk:k<4)(hi:i<130)(v:Value)(x:Chunk)(h:∀j,j<130->put ((C.ch a k).cell) i v j=x.cell j)(j:Nat)(hj:j<49972):put C.cell (aM a k+i) v j=(C.cZ a k x).cell j:=by
 rw[adH];exact C.ab8 ha hk (by omega) _ x (fun i' jH=>by rw[<-adH];exact h i' jH) j hj
theorem Chip.agv(C D:Chip){B i:Nat}(hB:B<12)(hi:i<4)(v:Value)(tz:D.ch=C.ch)(hl:∀i,D.last i=C.last i)(h:∀B' i',B'<12->i'<4->(if B'=B/\i'=i then v else C.tail B' i')=D.tail B' i')(j:Nat)(hj:j<49972):put C.cell (aQ B+i) v j=D.cell j:=by
 refine jP (F:=put C.cell (aQ B+i) v) (G:=D.cell) ?_ ?_ ?_ j hj
 ·intro a k s ha hk hs;rw[Chip.cL _ ha hk hs,tz];unfold put;rw[if_neg (aao ha hk hs hB hi),Chip.cL _ ha hk hs]
 ·intro B' i' hB' jH;rw[Chip.cF _ hB' jH, <-h B' i' hB' jH];unfold put;by_cases e:B'=B/\i'=i
  ·rw[if_pos e,if_pos (by rw[e.1,e.2])]
  ·rw[if_neg e,if_neg (fun e2=>e (aeU hB' jH hB hi e2)),Chip.cF _ hB' jH]
 ·intro i' jH;rw[Chip.cU,hl];unfold put;rw[if_neg (by have:=po hB hi;omega),Chip.cU]
theorem Chip.agw(C D:Chip){i:Nat}(v:Value)(tz:D.ch=C.ch)(ht:∀B i,D.tail B i=C.tail B i)(h:∀i',i'<4->(if i'=i then v else C.last i')=D.last i')(j:Nat)(hj:j<49972):put C.cell (49968+i) v j=D.cell j:=by
 refine jP (F:=put C.cell (49968+i) v) (G:=D.cell) ?_ ?_ ?_ j hj
 ·intro a k s ha hk hs;have:=gM ha hk hs;rw[Chip.cL _ ha hk hs,tz];unfold put;rw[if_neg (by omega),Chip.cL _ ha hk hs]
 ·intro B' i' hB' jH;have:=po hB' jH;rw[Chip.cF _ hB' jH,ht];unfold put;rw[if_neg (by omega),Chip.cF _ hB' jH]
 ·intro i' jH;rw[Chip.cU, <-h i' jH];unfold put;by_cases e:i'=i
  ·rw[if_pos e,if_pos (by omega)]
  ·rw[if_neg e,if_neg (by omega),Chip.cU]
def Ab(w:World)(c:Nat)(C:Chip):Prop:=Row w c 104 49972 C.cell
section
variable{w w':World}{c:Nat}{C:Chip}
theorem Ab.ab{S:List Nat}(h:Ab w c C)(k:Aa S w w')(hc:c∉S):Ab w' c C:=Row.ab h k hc
theorem Ab.drewN(h:Ab w c C)(n:Nat):Ab (w.drewN n) c C:=Row.drewN h n
theorem Ab.now(h:Ab w c C){a k s:Nat}(ha:a<96)(hk:k<4)(hs:s<64):w.cell? ⟨c,aM a k+s,none⟩=some (.int .u8 ((C.ch a k).now s:Nat)):=by
 have h1:=gM ha hk (s:=s) (by omega);have h2:=Row.cell h (aM a k+s) (by omega);rw[Chip.cL _ ha hk (by omega)] at h2;rw[h2];unfold Chunk.cell;rw[if_pos hs]
theorem Ab.is(h:Ab w c C){a k:Nat}(ha:a<96)(hk:k<4):w.cell? ⟨c,aM a k+128,none⟩=some (.bool (C.ch a k).is):=by
 have h1:=gM ha hk (s:=128) (by omega);have h2:=Row.cell h (aM a k+128) (by omega);rw[Chip.cL _ ha hk (by omega)] at h2;exact h2
theorem Ab.pk(h:Ab w c C){a k:Nat}(ha:a<96)(hk:k<4):w.cell? ⟨c,aM a k+129,none⟩=some (.int .i64 (C.ch a k).pk):=by
 have h1:=gM ha hk (s:=129) (by omega);have h2:=Row.cell h (aM a k+129) (by omega);rw[Chip.cL _ ha hk (by omega)] at h2;exact h2
theorem Ab.tail(h:Ab w c C){B i:Nat}(hB:B<12)(hi:i<4):w.cell? ⟨c,aQ B+i,none⟩=some (C.tail B i):=by
 have h1:=po hB hi;have h2:=Row.cell h (aQ B+i) (by omega)
 rwa [Chip.cF _ hB hi] at h2
theorem Ab.last(h:Ab w c C){i:Nat}(hi:i<4):w.cell? ⟨c,49968+i,none⟩=some (C.last i):=by
 have h2:=Row.cell h (49968+i) (by omega)
 rwa [Chip.cU] at h2
end
def Chunk.aap(x:Chunk):Nat->Nat
 |0=>0
 |n+1=>x.aap n+(if x.now n=x.cy n then 0 else 1)
def Chunk.dmg(x:Chunk):Nat:=x.aap 64
def Chunk.zero:Chunk:=⟨fun _=>0,fun _=>0,false,0⟩
def Chip.zero:Chip:=⟨fun _ _=>Chunk.zero,fun _=>0,fun _=>false,fun _=>0,fun _=>false,false,false,0,0⟩
def agx(j:Nat):Nat:=cond (Nat.blt j 49968) (cond (Nat.blt (j%4164) 4160) (cond (Nat.blt (j%4164%520%130) 128) 0 (cond (Nat.beq (j%4164%520%130) 128) 1 2)) (cond (Nat.beq (j%4164) 4160) 2 (cond (Nat.beq (j%4164) 4161) 1 (cond (Nat.beq (j%4164) 4162) 2 1)))) (cond (Nat.blt j 49970) 1 2)
def ab9(k:Nat):Value->Bool
 |.int .u8 n=>Nat.beq k 0&&n == 0
 |.int .i64 n=>Nat.beq k 2&&n == 0
 |.bool b=>Nat.beq k 1 && !b
 |_=>false
def qw(k:Nat):Value:=if k=0 then .int .u8 0 else if k=1 then .bool false else .int .i64 0
theorem aj4{k:Nat}{v:Value}(h:ab9 k v=true):v=qw k:=by
 unfold ab9 at h;split at h<;>try simp only[Bool.and_eq_true,beq_iff_eq,Bool.not_eq_true'] at h
 ·obtain⟨h1,rfl⟩:=h;obtain rfl:=Nat.eq_of_beq_eq_true h1;rfl
 ·obtain⟨h1,rfl⟩:=h;obtain rfl:=Nat.eq_of_beq_eq_true h1;rfl
 ·obtain⟨h1,rfl⟩:=h;obtain rfl:=Nat.eq_of_beq_eq_true h1;rfl
 ·cases h
theorem dz{α:Type}{p:Prop}[Decidable p]{b:Bool}(h:b=decide p)(x y:α):cond b x y=if p then x else y:=by
 subst h;by_cases hp:p<;>simp[hp]
theorem iw(a b:Nat):Nat.blt a b=decide (a<b):=by
 cases hb:Nat.blt a b with
 | true =>
  have h:a+1<=b:=Nat.le_of_ble_eq_true hb;exact(decide_eq_true h).symm
 | false =>
  refine(decide_eq_false fun h=>?_).symm;have h2:Nat.blt a b=true:=Nat.ble_eq_true_of_le h;rw[hb] at h2
  cases h2
theorem kU(a b:Nat):Nat.beq a b=decide (a=b):=by
 by_cases h:a=b
 ·subst h;simp
 ·have:Nat.beq a b=false:=by
   cases hb:Nat.beq a b
   ·rfl
   ·exact absurd (Nat.eq_of_beq_eq_true hb) h
  simp[h,this]
theorem Chip.aeV(j:Nat)(hj:j<49972):qw (agx j)=Chip.zero.cell j:=by
 unfold agx;rw[dz (iw _ _),dz (iw _ _),dz (iw _ _),dz (kU _ _),dz (kU _ _),dz (kU _ _),dz (kU _ _),dz (iw _ _)];unfold Chip.cell;by_cases h:j<49968
 ·rw[if_pos h,if_pos h];by_cases h2:j%4164<4160
  ·rw[if_pos h2,if_pos h2];show _=Chunk.zero.cell _;generalize j%4164%520%130=s;unfold Chunk.cell Chunk.zero;by_cases h3:s<128
   ·rw[if_pos h3];by_cases h4:s<64
    ·rw[if_pos h4];rfl
    ·rw[if_neg h4,if_pos h3];rfl
   ·rw[if_neg h3,if_neg (show ¬s<64 by omega),if_neg h3];by_cases h5:s=128
    ·rw[if_pos h5,if_pos h5];rfl
    ·rw[if_neg h5,if_neg h5];rfl
  ·rw[if_neg h2,if_neg h2];have h3:j%4164<4164:=Nat.mod_lt _ (by omega);generalize j%4164=r at *;unfold Chip.tail Chip.zero;have e1:(r-4160=0)=(r=4160):=propext (by omega);have e2:(r-4160=1)=(r=4161):=propext (by omega);have e3:(r-4160=2)=(r=4162):=propext (by omega);simp only[e1,e2,e3];by_cases h4:r=4160
   ·rw[if_pos h4,if_pos h4];rfl
   ·rw[if_neg h4,if_neg h4];by_cases h5:r=4161
    ·rw[if_pos h5,if_pos h5];rfl
    ·rw[if_neg h5,if_neg h5];by_cases h6:r=4162
     ·rw[if_pos h6,if_pos h6];rfl
     ·rw[if_neg h6,if_neg h6];rfl
 ·rw[if_neg h,if_neg h];have:j=49968\/j=49969\/j=49970\/j=49971:=by omega
  rcases this with rfl|rfl|rfl|rfl<;>rfl
noncomputable def wm(kind:Nat->Nat)(N:Nat)(l:List Value):Nat->Bool:=List.rec (motive:=fun _=>Nat->Bool) (fun j=>Nat.beq j N) (fun v _ ih j=>cond (ab9 (kind j) v) (ih (j+1)) false) l
theorem aaq{kind:Nat->Nat}{N:Nat}:∀(l:List Value) (j:Nat),wm kind N l j=true->j+l.length=N
 | [],j,h=>Nat.eq_of_beq_eq_true h
 | v::l,j,h=>by
  have h:cond (ab9 (kind j) v) (wm kind N l (j+1)) false=true:=h
  cases hb:ab9 (kind j) v with
  |false=>rw[hb] at h;cases h
  | true =>
   rw[hb] at h;have:=aaq l (j+1) h;simp only[List.length_cons];omega
theorem aar{kind:Nat->Nat}{N:Nat}:∀(l:List Value) (j:Nat),wm kind N l j=true->∀i v,l[i]?=some v->v=qw (kind (j+i))
 | [],j,h,i,v,hv=>by simp at hv
 | u::l,j,h,i,v,hv=>by
  have h:cond (ab9 (kind j) u) (wm kind N l (j+1)) false=true:=h
  cases hb:ab9 (kind j) u with
  |false=>rw[hb] at h;cases h
  | true =>
   rw[hb] at h
   cases i with
   | zero =>
    simp at hv;rw[<-hv];exact aj4 hb
   | succ i =>
    have:=aar l (j+1) h i v (by simpa using hv);rw[this,show j+1+i=j+(i+1) by omega]
theorem mz{kind:Nat->Nat}{N:Nat}{a:Array Value}(h:wm kind N a.toList 0=true):a=(Array.range N).map (fun j=>qw (kind j)):=by
 have hl:=aaq _ 0 h;apply Array.ext
 ·simp at hl ⊢;omega
 ·intro i h1 h2;simp only[Array.getElem_map,Array.getElem_range];have:=aar _ 0 h i (a[i]'h1) (by rw[Array.getElem?_toList];exact Array.getElem?_eq_getElem h1);rw[this,Nat.zero_add]
noncomputable def zcl(t:TypeId):Array Value:=(((Tryz.prog.info? t).bind (·.zero)).getD (.agg #[])).cells
theorem aeW:wm agx 49972 (zcl 104).toList 0=true:=by kernel_rfl
theorem alS:zcl 104=(Array.range 49972).map Chip.zero.cell:=by
 rw[mz aeW];apply Array.ext
 ·simp
 ·intro i h1 h2;simp only[Array.getElem_map,Array.getElem_range];exact Chip.aeV i (by simpa using h1)
theorem aas(w:World):(Instr.build 104 #[]).run Tryz.prog w=.ok (.agg (zcl 104)) w:=by kernel_rfl
theorem aca(w:World):(Instr.build 104 #[]).run Tryz.prog w=.ok (agg 49972 Chip.zero.cell) w:=by
 rw[aas,alS];rfl
def alT(j:Nat):Nat:=cond (Nat.blt j 128) 0 (cond (Nat.beq j 128) 1 2)
theorem acb:wm alT 130 (zcl 92).toList 0=true:=by kernel_rfl
theorem amn:zcl 92=(Array.range 130).map Chunk.zero.cell:=by
 rw[mz acb];apply Array.ext
 ·simp
 ·intro i h1 h2;simp only[Array.getElem_map,Array.getElem_range];unfold alT;rw[dz (iw _ _),dz (kU _ _)];unfold Chunk.cell Chunk.zero;by_cases h3:i<128
  ·rw[if_pos h3];by_cases h4:i<64
   ·rw[if_pos h4];rfl
   ·rw[if_neg h4,if_pos h3];rfl
  ·rw[if_neg h3,if_neg (show ¬i<64 by omega),if_neg h3];by_cases h5:i=128
   ·rw[if_pos h5,if_pos h5];rfl
   ·rw[if_neg h5,if_neg h5];rfl
theorem yN(w:World):(Instr.alloc 92 true (.tuple #[])).run Tryz.prog w=.ok (.pointer (some ⟨w.heap.size,0,none⟩)) (w.alloc (.cells (zcl 92) 92)):=by kernel_rfl
theorem aat(w:World):(Instr.alloc 92 true (.tuple #[])).run Tryz.prog w=.ok (.pointer (some ⟨w.heap.size,0,none⟩)) (w.alloc (eS 130 Chunk.zero.cell 92)):=by
 rw[yN,amn];rfl
theorem wZ(b o:Nat)(x:Value)(y:Int)(w:World)(hc:w.cell? ⟨b,o,none⟩=some x)(hz:w.frozen? ⟨b,o,none⟩=false) :
  Spec Tryz.prog 48 #[.pointer (some ⟨b,o,none⟩),.int .i64 y] w fun v w'=>v=.tuple #[]/\w'=w.setCell ⟨b,o,none⟩ (.int .i64 y):=by
 refine Spec.jN (by kernel_rfl) ?_;have bq:=run_call_store (P:=Tryz.prog) func72 (by kernel_rfl) (by kernel_rfl) (by kernel_rfl) (by kernel_rfl) (k:=.i64) (y:=y) hc hz
 go_enter func48,ntmps48
 go_wp2
 go_end0
 exact⟨rfl,rfl⟩
theorem adI(b o:Nat)(x y s:Int)(hs:s=IntKind.i64.wrap (x+y))(w:World)(hc:w.cell? ⟨b,o,none⟩=some (.int .i64 x))(hz:w.frozen? ⟨b,o,none⟩=false) :
  Spec Tryz.prog 165 #[.pointer (some ⟨b,o,none⟩),.int .i64 y] w fun v w'=>v=.int .i64 s/\w'=w.setCell ⟨b,o,none⟩ (.int .i64 s):=by
 refine Spec.jN (by kernel_rfl) ?_;have agp:=run_call_add (P:=Tryz.prog) func189 (by kernel_rfl) (by kernel_rfl) (by kernel_rfl) .i64 (by kernel_rfl) (y:=y) (s:=s) hc hz (by rw[hs];simp[Op.intArith]);clear hs
 go_enter func165,ntmps165
 go_wp2
 go_ret
 exact⟨rfl,rfl⟩
def Chunk.blank:Chunk:=⟨fun _=>255,fun _=>255,false,0⟩
def Chip.clear(C:Chip)(B:Nat):Chip:={ C with ch:=fun a k=>if a/8=B then Chunk.blank else C.ch a k,reads:=fun b=>if b=B then 0 else C.reads b }
theorem Chip.acd{C D:Chip}(h1:∀a k,a<96->k<4->C.ch a k=D.ch a k)(h2:∀B i,B<12->i<4->C.tail B i=D.tail B i)(h3:∀i,i<4->C.last i=D.last i)(j:Nat)(hj:j<49972):C.cell j=D.cell j :=
 jP (F:=C.cell) (G:=D.cell) (fun a k s ha hk hs=>by rw[Chip.cL _ ha hk hs,Chip.cL _ ha hk hs,h1 a k ha hk]) (fun B i hB hi=>by rw[Chip.cF _ hB hi,Chip.cF _ hB hi,h2 B i hB hi]) (fun i hi=>by rw[Chip.cU,Chip.cU,h3 i hi]) j hj
theorem Ab.congr{w:World}{c:Nat}{C D:Chip}(h:Ab w c C)(h1:∀a k,a<96->k<4->C.ch a k=D.ch a k)(h2:∀B i,B<12->i<4->C.tail B i=D.tail B i)(h3:∀i,i<4->C.last i=D.last i):Ab w c D:=Row.congr h (Chip.acd h1 h2 h3)
def Chip.dE(C:Chip)(B i k:Nat):Chip:={ C with ch:=fun a k'=>if a/8=B/\(a%8<i\/(a%8=i/\k'<k)) then Chunk.blank else C.ch a k' }
def lQ(n:Nat)(j:Nat):Value:=if j<n then .int .u8 255 else Chunk.zero.cell j
theorem aeX(n j:Nat):put (lQ n) n (.int .u8 255) j=lQ (n+1) j:=by
 unfold put lQ;by_cases h:j=n
 ·rw[if_pos h,if_pos (by omega)]
 ·rw[if_neg h];by_cases h2:j<n
  ·rw[if_pos h2,if_pos (by omega)]
  ·rw[if_neg h2,if_neg (by omega)]
theorem ace(j:Nat)(hj:j<130):lay (lQ 64) 64 64 (fun i=>lQ 64 (0+i)) j=Chunk.blank.cell j:=by
 unfold lay;by_cases h:64<=j/\j<64+64
 ·rw[if_pos h];show lQ 64 (0+(j-64))=_;unfold lQ;rw[if_pos (by omega)];unfold Chunk.cell;rw[if_neg (by omega),if_pos (by omega)];rfl
 ·rw[if_neg h];unfold lQ;by_cases h2:j<64
  ·rw[if_pos h2];unfold Chunk.cell;rw[if_pos h2];rfl
  ·have h3:¬j<128:=by omega
   rw[if_neg h2];unfold Chunk.cell;rw[if_neg h2,if_neg h3,if_neg h2,if_neg h3];rfl
theorem aeY(j:Nat):(Chunk.blank.cell j).oneCell'=true:=by
 unfold Chunk.cell;by_cases h1:j<64
 ·rw[if_pos h1];rfl
 ·rw[if_neg h1];by_cases h2:j<128
  ·rw[if_pos h2];rfl
  ·rw[if_neg h2];by_cases h3:j=128
   ·rw[if_pos h3];rfl
   ·rw[if_neg h3];rfl
theorem px:(Tryz.prog.info? 90).map (·.size)=some 64:=by kernel_rfl
theorem tA:(Tryz.prog.info? 92).map (·.size)=some 130:=by kernel_rfl
theorem aeZ(n j:Nat)(hj:j<64)(hn:64<=n):(lQ n j).oneCell'=true:=by
 unfold lQ;rw[if_pos (by omega)];rfl
theorem ae0(C:Chip){B i k:Nat}(hB:B<12)(hi:i<8)(hk:k<4)(a k':Nat)(ha:a<96)(me:k'<4):((C.dE B i k).cZ (8*B+i) k Chunk.blank).ch a k'=(C.dE B i (k+1)).ch a k':=by
 unfold Chip.cZ Chip.dE;by_cases h:a=8*B+i/\k'=k
 ·simp only[if_pos h];rw[if_pos (by omega)]
 ·simp only[if_neg h];by_cases h2:a/8=B/\(a%8<i\/(a%8=i/\k'<k))
  ·rw[if_pos h2,if_pos (by omega)]
  ·rw[if_neg h2,if_neg (by omega)]
theorem agy(C:Chip){B i:Nat}(a k':Nat)(me:k'<4):(C.dE B i 4).ch a k'=(C.dE B (i+1) 0).ch a k':=by
 unfold Chip.dE;by_cases h2:a/8=B/\(a%8<i\/(a%8=i/\k'<4))
 ·simp only[if_pos h2];rw[if_pos (by omega)]
 ·simp only[if_neg h2];rw[if_neg (by omega)]
theorem ae1{B i k:Nat}(hB:B<12)(hi:i<8):aM (8*B+i) k=B*4164+i*520+k*130:=by
 unfold aM;rw[show(8*B+i)/8=B by omega,show(8*B+i)%8=i by omega]
theorem Am.vR{P:Program}{C:World->Prop}{g o n N:Nat}{t ty:TypeId}{f:Nat->Value}{d:TypeDesc}{K:Value->Prop}(hr:∀w,C w->Row w g t N f)(hu:P.underlying ty=some d)(hd:(match d with | .struct _ | .array _ _=>true|_=>false)=true)(hi:(P.info? ty).map (·.size)=some n)(hn:o+n<=N)
  (k:K (agg n (fun j=>f (o+j)))):Am P C (loadVar ty ⟨g,o,none⟩) K:=⟨_,fun w hw=>fH (hr w hw) hn hu hd hi,k⟩
theorem Ru.aj5{w:World}{c o a k:Nat}{C:Chip}{x:Chunk}{s:Nat->Value}{K:Unit->World->Prop}(H:Ab w c C)(ha:a<96)(hk:k<4)(e:o=aM a k)(hs:∀j,j<130->s j=x.cell j)(h1:∀j,(x.cell j).oneCell'=true)
  (kk:∀w',Ab w' c (C.cZ a k x)->Aa [c] w w'->K () w'):Ru Tryz.prog (storeVar 92 ⟨c,o,none⟩ (agg 130 s)) w K:=by
 subst e;refine Ru.im H tA (by have:=gM ha hk (s:=129) (by omega);omega) (fun j hj=>by rw[hs j hj];exact h1 j) (fun w' r' k'=>kk w' ?_ k')
 exact Row.congr r' (fun j hj=>C.ab8 (o:=0) ha hk (by omega) s x (fun i hi=>by
  unfold lay;rw[if_pos (by omega),Nat.sub_zero];exact hs i hi) j hj)
theorem Ab.ix{w:World}{c B i:Nat}{C D:Chip}{v:Value}(H:Ab w c C)(hB:B<12)(hi:i<4)(tz:D.ch=C.ch)(hl:∀i,D.last i=C.last i)(h:∀B' i',B'<12->i'<4->(if B'=B/\i'=i then v else C.tail B' i')=D.tail B' i'):Ab (w.setCell ⟨c,aQ B+i,none⟩ v) c D :=
 Row.congr (Row.set H (aQ B+i) v) (Chip.agv C D hB hi v tz hl h)
theorem Ab.setLast{w:World}{c i:Nat}{C D:Chip}{v:Value}(H:Ab w c C)(tz:D.ch=C.ch)(ht:∀B i,D.tail B i=C.tail B i)(h:∀i',i'<4->(if i'=i then v else C.last i')=D.last i'):Ab (w.setCell ⟨c,49968+i,none⟩ v) c D :=
 Row.congr (Row.set H (49968+i) v) (Chip.agw C D v tz ht h)
theorem aau(w:World)(c B:Nat)(C:Chip)(hB:B<12)(H:Ab w c C):Spec Tryz.prog 59 #[.pointer (some ⟨c,B*4164,none⟩)] w fun v w'=>v=.tuple #[]/\Ab w' c (C.clear B)/\Aa [c] w w':=by
 have hcl:=Row.lt H;refine spec_of_wpE (T:=tt) ai func59 rfl (by decide +kernel) ntmps59 (by simp) ?_;conv=>whnf
 refine Ru.aE (aat w) ?_;intro x w1 hx dj rx k1;have H1:=Ab.ab H k1 (by simp);have dx:x≠c:=by omega
 have rx0:Row w1 x 92 130 (lQ 0):=rx;clear rx;conv=>whnf
 repeat (refine CW.s ?_;conv=>whnf)
 refine CW.loop (ι:=Nat) (fun i w'=>i<=64/\Row w' x 92 130 (lQ i)/\Aa [x] w1 w') (fun i=>[(0,.pointer (some ⟨c,B*4164,none⟩)),(2,.pointer (some ⟨x,0,none⟩)),(6,.int .i64 i)]) (fun i=>64-i) 0 ai ⟨by omega,rx0,Aa.refl _ _⟩ ⟨rfl,rfl,rfl,trivial⟩ ?_;rintro i wr ⟨hi,ri,ki⟩;by_cases av:i<64
 ·conv=>whnf
  repeat ((first|refine Ix.n ?_|refine Br.y ?_|refine CW.s ?_);conv=>whnf)
  refine Sd.rowAt ri i (by omega) (by omega) rfl ?_;intro w2 r2 k2;conv=>whnf
  repeat (refine Ar.la ?_;conv=>whnf)
  exact⟨i+1,⟨av,r2.congr (fun j _=>aeX i j),ki.trans k2⟩,⟨rfl,rfl,vi (by omega),trivial⟩,by simp only;omega⟩
 obtain rfl:i=64:=by omega
 have H2:=Ab.ab H1 ki (by simpa using dx.symm);conv=>whnf
 repeat ((first|refine Br.f ?_|refine CW.s ?_);conv=>whnf)
 refine Ru.vR ri underlying90 rfl px (by omega) ?_;conv=>whnf
 refine Ru.im ri px (by omega) (fun j hj=>aeZ 64 (0+j) (by omega) (by omega)) ?_;intro w3 r3 k3;have rb:=r3.congr (fun j hj=>ace j hj);have H3:=Ab.ab H2 k3 (by simpa using dx.symm);have vS:Aa [x] w1 w3:=ki.trans k3;have kw3:Aa [c] w w3:=(k1.mono (by simp)).then vS (fun y hy=>.inr (by rw[List.mem_singleton.1 hy];omega));clear r3 ri H2 H1 k3 ki;conv=>whnf
 repeat (refine CW.s ?_;conv=>whnf)
 refine CW.loop (ι:=Nat) (fun i w'=>i<=8/\Row w' x 92 130 Chunk.blank.cell/\Ab w' c (C.dE B i 0)/\Aa [c] w w') (fun i=>[(0,.pointer (some ⟨c,B*4164,none⟩)),(2,.pointer (some ⟨x,0,none⟩)),(16,.int .i64 i)]) (fun i=>8-i) 0 ai
  ⟨by omega,rb,H3.congr (fun a k _ _=>by unfold Chip.dE;simp only;rw[if_neg (by omega)]) (fun _ _ _ _=>rfl) (fun _ _=>rfl),kw3⟩ ⟨rfl,rfl,rfl,trivial⟩ ?_;rintro i wr ⟨hi,ri,Hi,ki⟩;by_cases av:i<8
 ·conv=>whnf
  repeat ((first|refine Br.y ?_|refine CW.s ?_);conv=>whnf)
  refine CW.loop (ι:=Nat) (fun k w'=>k<=4/\Row w' x 92 130 Chunk.blank.cell/\Ab w' c (C.dE B i k)/\Aa [c] w w') (fun k=>[(0,.pointer (some ⟨c,B*4164,none⟩)),(2,.pointer (some ⟨x,0,none⟩)),(4,.int .i64 i),(16,.int .i64 i),(19,.int .i64 k)]) (fun k=>4-k) 0 ai ⟨by omega,ri,Hi,ki⟩ ⟨rfl,rfl,rfl,rfl,rfl,trivial⟩ ?_;rintro k wk ⟨hk,rk,Hk,kk⟩;by_cases hlk:k<4
  ·conv=>whnf
   repeat ((first|refine Br.y ?_|refine CW.s ?_);conv=>whnf)
   refine CW.held (fun w'=>Row w' x 92 130 Chunk.blank.cell) [] (.take 0 (.take 1 (.take 2 (.take 3 (.take 4 (.take 5 (.take 6 (.take 7 (.one 8 (.done)))))))))) ai (by kernel_rfl) (by kernel_rfl) (by kernel_rfl) ?_ ?_
   ·exact rk.drewN 1
   have Hk:=Hk.drewN 1;have rk:=rk.drewN 1;have kk:=kk.drewN 1;generalize wk.drewN 1=w4 at *;conv=>whnf
   repeat ((first|(refine Am.vR (fun _ h=>h) underlying92 rfl tA (by omega) ?_)|refine Ix.n ?_);conv=>whnf)
   refine Ru.aj5 Hk (a:=8*B+i) (k:=k) (x:=Chunk.blank) (by omega) hlk (by rw[ae1 hB av];omega) (fun j hj=>by rw[Nat.zero_add]) aeY ?_;intro w5 H5 k5;have r5:=rk.ab k5 (by simpa using dx);conv=>whnf
   refine⟨r5,?_⟩;conv=>whnf
   repeat (refine Ar.la ?_;conv=>whnf)
   exact⟨k+1,⟨hlk,r5,H5.congr (fun a k' ha me=>ae0 C hB av hlk a k' ha me) (fun _ _ _ _=>rfl) (fun _ _=>rfl),kk.trans k5⟩,⟨rfl,rfl,rfl,rfl,vi (by omega),trivial⟩,by simp only;omega⟩
  ·obtain rfl:k=4:=by omega
   conv=>whnf
   repeat ((first|refine Br.f ?_|refine Ar.la ?_|refine CW.s ?_);conv=>whnf)
   exact⟨i+1,⟨av,rk,Hk.congr (fun a k' _ me=>agy C a k' me) (fun _ _ _ _=>rfl) (fun _ _=>rfl),kk⟩,⟨rfl,rfl,vi (by omega),trivial⟩,by simp only;omega⟩
 obtain rfl:i=8:=by omega
 conv=>whnf
 repeat ((first|refine Br.f ?_|refine CW.s ?_);conv=>whnf)
 refine Ca.of (wZ c (B*4164+4160) _ 0 wr (Hi.tail (B:=B) (i:=0) hB (by omega)) (Row.free Hi _)) ?_;rintro _ w6 ⟨rfl,rfl⟩;conv=>whnf
 refine⟨rfl,rfl,Ab.ix (i:=0) (D:=C.clear B) ((Hi.congr (D:={ C with ch:=(C.clear B).ch }) (fun a k _ hk=>?_) (fun _ _ _ _=>rfl) (fun _ _=>rfl))) hB (by omega) rfl (fun _=>rfl) ?_,ki.trans (Aa.set _ _ _)⟩
 ·unfold Chip.dE Chip.clear;simp only;by_cases h:a/8=B
  ·rw[if_pos ⟨h,by omega⟩,if_pos h]
  ·rw[if_neg (fun e=>h e.1),if_neg h]
 ·intro B' i' _ jH;unfold Chip.clear Chip.tail;simp only;by_cases h:B'=B/\i'=0
  ·obtain⟨rfl,rfl⟩:=h;simp
  ·rw[if_neg h];by_cases h2:i'=0
   ·rw[if_pos h2,if_pos h2,if_neg (fun e=>h ⟨e,h2⟩)]
   ·rw[if_neg h2,if_neg h2]
def Chip.fresh:Chip:={ Chip.zero with ch:=fun _ _=>Chunk.blank }
def Chip.begun(i:Nat):Chip:={ Chip.zero with ch:=fun a _=>if a/8<i then Chunk.blank else Chunk.zero }
theorem acf(w:World):Spec Tryz.prog 40 #[] w fun v w'=>v=.pointer (some ⟨w.heap.size,0,none⟩)/\Ab w' w.heap.size Chip.fresh/\Aa [] w w':=by
 refine spec_of_wpE (T:=tt) ai func40 rfl (by decide +kernel) ntmps40 (by simp) ?_;conv=>whnf
 refine Ru.of (aca w) ?_;conv=>whnf
 refine Ru.dr ?_;intro c w1 hc dj r1 k1;have lU:=hc;subst hc;have H1:Ab w1 w.heap.size Chip.zero:=r1;clear r1;conv=>whnf
 repeat (refine CW.s ?_;conv=>whnf)
 refine CW.loop (ι:=Nat) (fun i w'=>i<=12/\Ab w' w.heap.size (Chip.begun i)/\Aa [] w w') (fun i=>[(1,.pointer (some ⟨w.heap.size,0,none⟩)),(5,.int .i64 i)]) (fun i=>12-i) 0 ai
  ⟨by omega,H1.congr (fun a k _ _=>by unfold Chip.begun;simp only;rw[if_neg (by omega)];rfl) (fun _ _ _ _=>rfl) (fun _ _=>rfl),k1⟩ ⟨rfl,rfl,trivial⟩ ?_;rintro i wr ⟨hi,Hi,ki⟩;by_cases av:i<12
 ·conv=>whnf
  repeat ((first|refine Ix.n ?_|refine Br.y ?_|refine CW.s ?_);conv=>whnf)
  rw[show 0+0+i*4164=i*4164 by omega];refine Ca.of (aau wr w.heap.size i _ av Hi) ?_;rintro _ w2 ⟨rfl,H2,k2⟩;conv=>whnf
  repeat (refine Ar.la ?_;conv=>whnf)
  refine⟨i+1,⟨av,H2.congr (fun a k _ _=>?_) (fun B j _ _=>?_) (fun _ _=>rfl),ki.then k2 (fun x hx=>.inr (by rw[List.mem_singleton.1 hx];omega))⟩,⟨rfl,vi (by omega),trivial⟩,by simp only;omega⟩
  ·unfold Chip.clear Chip.begun;simp only;by_cases h:a/8=i
   ·rw[if_pos h,if_pos (by omega)]
   ·rw[if_neg h];by_cases h2:a/8<i
    ·rw[if_pos h2,if_pos (by omega)]
    ·rw[if_neg h2,if_neg (by omega)]
  ·unfold Chip.tail Chip.clear Chip.begun Chip.zero;simp
 ·obtain rfl:i=12:=by omega
  conv=>whnf
  repeat ((first|refine Br.f ?_|refine CW.s ?_);conv=>whnf)
  exact⟨rfl,rfl,Hi.congr (fun a k ha _=>by unfold Chip.begun Chip.fresh;simp only;rw[if_pos (by omega)]) (fun _ _ _ _=>rfl) (fun _ _=>rfl),ki⟩
theorem alU(w:World)(c a k:Nat)(ha:a<96)(hk:k<4):Spec Tryz.prog 57 #[.pointer (some ⟨c,0,none⟩),.int .i64 a,.int .i64 k] w fun v w'=>v=.tuple #[.pointer (some ⟨c,aM a k,none⟩),al 0]/\w=w':=by
 refine spec_of_wpE (T:=tt) ai func57 rfl (by decide +kernel) ntmps57 (by simp) ?_;conv=>whnf
 repeat ((first|(refine Ix.of (a/8) (by omega) (by omega) ?_)|(refine Ix.of (a%8) (by omega) (by omega) ?_)|refine Br.f ?_|refine Pk.f ?_|refine Ix.n ?_|refine Dv.q ?_|refine Dv.r ?_|refine Br.n ?_|refine CW.s ?_);conv=>whnf)
 have e:0+0+a/8*4164+0+a%8*520+k*130=aM a k:=by
  unfold aM;omega
 rw[e];exact⟨rfl,rfl,rfl⟩
def jI(x:Int):Int:=IntKind.i64.wrap x
def Chip.aI(C:Chip):Chip×Int :=
 if C.cut then (if C.bK=0 then ({ C with off:=true },7) else ({ C with bK:=C.bK-1,steps:=jI (C.steps+1) },0)) else ({ C with steps:=jI (C.steps+1) },0)
theorem Ab.cut{w:World}{c:Nat}{C:Chip}(H:Ab w c C):w.cell? ⟨c,49969,none⟩=some (.bool C.cut):=H.last (i:=1) (by omega)
theorem Ab.off{w:World}{c:Nat}{C:Chip}(H:Ab w c C):w.cell? ⟨c,49968,none⟩=some (.bool C.off):=H.last (i:=0) (by omega)
theorem Ab.bK{w:World}{c:Nat}{C:Chip}(H:Ab w c C):w.cell? ⟨c,49970,none⟩=some (.int .i64 C.bK):=H.last (i:=2) (by omega)
theorem Ab.steps{w:World}{c:Nat}{C:Chip}(H:Ab w c C):w.cell? ⟨c,49971,none⟩=some (.int .i64 C.steps):=H.last (i:=3) (by omega)
theorem bS{i:Nat}(h:i<4):i=0\/i=1\/i=2\/i=3:=by omega
theorem Ab.agz{w:World}{c:Nat}{C:Chip}(H:Ab w c C)(b:Bool):Ab (w.setCell ⟨c,49968,none⟩ (.bool b)) c { C with off:=b } :=
 H.setLast (i:=0) rfl (fun _ _=>rfl) (fun i hi=>by rcases bS hi with rfl|rfl|rfl|rfl<;>rfl)
theorem Ab.agA{w:World}{c:Nat}{C:Chip}(H:Ab w c C)(b:Bool):Ab (w.setCell ⟨c,49969,none⟩ (.bool b)) c { C with cut:=b } :=
 H.setLast (i:=1) rfl (fun _ _=>rfl) (fun i hi=>by rcases bS hi with rfl|rfl|rfl|rfl<;>rfl)
theorem Ab.qx{w:World}{c:Nat}{C:Chip}(H:Ab w c C)(b:Int):Ab (w.setCell ⟨c,49970,none⟩ (.int .i64 b)) c { C with bK:=b } :=
 H.setLast (i:=2) rfl (fun _ _=>rfl) (fun i hi=>by rcases bS hi with rfl|rfl|rfl|rfl<;>rfl)
theorem Ab.aav{w:World}{c:Nat}{C:Chip}(H:Ab w c C)(b:Int):Ab (w.setCell ⟨c,49971,none⟩ (.int .i64 b)) c { C with steps:=b } :=
 H.setLast (i:=3) rfl (fun _ _=>rfl) (fun i hi=>by rcases bS hi with rfl|rfl|rfl|rfl<;>rfl)
theorem Sd.cellAt{w:World}{c i:Nat}{u v:Value}{K:World->Prop}(h:w.cell? ⟨c,i,none⟩=some u)(hf:w.frozen? ⟨c,i,none⟩=false)(h1:v.oneCell'=true)(k:Aa [c] w (w.setCell ⟨c,i,none⟩ v)->K (w.setCell ⟨c,i,none⟩ v)):Sd w ⟨c,i,none⟩ v K:=⟨⟨_,h⟩,hf,h1,k (Aa.set c i v)⟩
theorem Ar.tB{x:Int}{K:Value->Prop}(h:K (.int .i64 (jI x))):Ar .i64 x K:=⟨h⟩
theorem adJ(w:World)(c:Nat)(C:Chip)(H:Ab w c C)(hb:0<=C.bK/\C.bK<=9223372036854775807):Spec Tryz.prog 196 #[.pointer (some ⟨c,0,none⟩)] w fun v w'=>v=al C.aI.2/\Ab w' c C.aI.1/\Aa [c] w w':=by
 refine spec_of_wpE (T:=tt) ai func196 rfl (by decide +kernel) ntmps196 (by simp) ?_;by_cases iR:C.cut=true
 ·by_cases h0:C.bK=0
  ·conv=>whnf
   repeat ((first|(refine Ld.of H.cut ?_)|(refine Ld.of H.bK ?_)|(refine Br.is iR ?_)|refine Br.y ?_|refine CW.s ?_);conv=>whnf)
   refine Sd.cellAt H.off (Row.free H _) rfl ?_;intro k1;have H1:=H.agz true;generalize w.setCell _ _=w1 at *;conv=>whnf
   refine⟨rfl,?_⟩;unfold Chip.aI;rw[if_pos iR,if_pos h0];exact⟨rfl,H1,k1⟩
  ·conv=>whnf
   repeat ((first|(refine Ld.of H.cut ?_)|(refine Ld.of H.bK ?_)|(refine Br.is iR ?_)|refine Ar.la ?_|refine Br.n ?_|refine CW.s ?_);conv=>whnf)
   refine Sd.cellAt H.bK (Row.free H _) rfl ?_;intro k1;have H1:=H.qx (C.bK-1);generalize w.setCell _ _=w1 at *;conv=>whnf
   repeat ((first|(refine Ld.of H1.steps ?_)|(refine Ar.tB ?_));conv=>whnf)
   refine Sd.cellAt H1.steps (Row.free H1 _) rfl ?_;intro k2;have H2:=H1.aav (jI (C.steps+1));generalize w1.setCell _ _=w2 at *;conv=>whnf
   refine⟨rfl,?_⟩;unfold Chip.aI;rw[if_pos iR,if_neg h0];exact⟨rfl,H2,k1.trans k2⟩
 ·conv=>whnf
  repeat ((first|(refine Ld.of H.cut ?_)|(refine Br.jB (by simpa using iR) ?_)|(refine Ld.of H.steps ?_)|(refine Ar.tB ?_)|refine CW.s ?_);conv=>whnf)
  refine Sd.cellAt H.steps (Row.free H _) rfl ?_;intro k2;have H2:=H.aav (jI (C.steps+1));generalize w.setCell _ _=w2 at *;conv=>whnf
  refine⟨rfl,?_⟩;unfold Chip.aI;rw[if_neg iR];exact⟨rfl,H2,k2⟩
def jt:Nat->Int:=fun j=>([112,97,116,105,110,97,48,49]:List Int).getD j 0
def xa(f:Nat->Int):Nat->Int:=fun j=>if j<50 then f j else jt (j-50)
def BM(w:World)(f:Nat->Int)(e:Ending)(w':World):Prop :=
 e=.returned (.tuple #[.slice (some ⟨w.heap.size,0,none⟩) 58 58,.nilIface])/\Row w' w.heap.size 5 58 (fun j=>.int .u8 (xa f j))/\Aa [] w w'
theorem aj6(A : Option Addr)(c : Nat)(f : Nat -> Int)(w : World)(r : Rd w A 50 (fun j => .int .u8 (f j))) :
    Calls Tryz.prog 203 #[.slice A 50 c] w (BM w f) := by
  have hmk : ∀w : World, (Instr.makeSlice 37 (.int .i64 58) (.int .i64 58)).run Tryz.prog w=.ok (.slice (some ⟨w.heap.size, 0, none⟩) 58 58) (w.alloc (.cells (madeCells #[.int .u8 0] 58) 5)) := fun w => run_make_row' (P := Tryz.prog) 37 5 (.int .u8 0) 1 underlying37 dR rfl .i64 .i64 58 (by omega) (by omega) w;have hA : A = none -> 50 = 0 /\ c = 0 := fun e => by
    obtain⟨b, o, e2, _⟩ := r (by omega);rw[e2] at e
    cases e
  have R := Lib.hid r; have HA := Lib.hid hA; clear r hA
  go_enter func203, ntmps203
  go_wp2_with (first
    | (with_reducible refine tq rfl (.tmp 10) (.tmp 11) rfl underlying37 wU (dLen := 58) (dCap := 58) (g := w.heap.size) (o := 0) rfl (Row.made w 5 (.int .u8 0) 58) A 50 c 50 rfl rfl (R.out.aj ((Aa.refl [] w).alloc _)) HA.out (by omega) (fun _ _ => rfl) ?_
       intro w1 r1 k1;have R1 := Lib.hid r1; have K1 := Lib.hid k1;clear r1 k1)
    | (with_reducible refine si rfl (.tmp 14) _ rfl underlying37 wU (dLen := 8) (dCap := 8) (g := w.heap.size) (o := 50) rfl R1.out _ rfl (by decide) (by decide) ?_
       intro w2 r2 k2;have R2 := Lib.hid r2; have K2 := Lib.hid k2;clear r2 k2))
  go_ret2
  refine⟨rfl, R2.out.congr (fun j hj => ?_), (((Aa.refl [] w).alloc _).then K1.out (fun x hx => .inr (by rw[List.mem_singleton.1 hx]; exact Nat.le_refl _))).then K2.out (fun x hx => .inr (by rw[List.mem_singleton.1 hx]; exact Nat.le_refl _))⟩;unfold lay xa;by_cases h : j < 50
  · rw[if_neg (by omega), if_pos (by omega), if_pos h]
    rfl
  · rw[if_pos ⟨by omega, by show j < 50+8; omega⟩, if_neg h]
    obtain⟨q, rfl⟩ : ∃q, j = 50+q := ⟨j-50, by omega⟩;rw[show 50+q-50 = q from by omega];have hq : q = 0 \/ q = 1 \/ q = 2 \/ q = 3 \/ q = 4 \/ q = 5 \/ q = 6 \/ q = 7 := by omega
    rcases hq with rfl|rfl|rfl|rfl|rfl|rfl|rfl|rfl <;> rfl
theorem Ly.empty(w:World)(t:TypeId)(size:Nat)(f:Nat->Value):Ly (w.alloc (.cells #[] t)) t size (some ⟨w.heap.size,0,none⟩) 0 0 f :=
 ⟨Nat.le_refl _,by decide,(fun e=>by cases e),fun a e=>by
  injection e with e;subst e;exact⟨_,_,_,rfl,heap_alloc_new w _,.inl rfl,by simp,fun j hj=>by simp at hj⟩⟩
def BF(w:World)(n:Nat)(f:Nat->Value)(e:Ending)(w':World):Prop :=
 ∃X c,e=.returned (.slice X n c)/\Ly w' 5 1 X n c f/\(∀x,x∈aK X->w.heap.size<=x)/\Aa [] w w'
theorem jQ (a : Addr) (n c : Nat) (f : Nat -> Value) (w : World) (r : Rd w (some a) n f) (hn : n <= c) (hl : n <= 140737488351232) (h1 : ∀ j, j < n -> (f j).oneCell' = true) :
    Calls Tryz.prog 208 #[.slice (some a) n c] w (BF w n f) := by
  obtain ⟨i0, hi, lZ, lR, l4⟩ := info_parts dR
  have R := Lib.hid r; have H1 := Lib.hid h1; clear r h1
  have oK : ∀ w : World, (binOp .eql 37 (.slice (some a) n c) (.slice none 0 0)).run Tryz.prog w = .ok (.bool false) w := fun w => Lib.run_eql_slice_nil w 37 5 (some a) n c 0 0 underlying37
  go_enter func208, ntmps208
  go_wp2_with (at_builtin
               refine qv rfl (.tmp 5) (.tmp 6) 37 rfl 5 i0 _ 1 1 underlying37 hi lZ lR l4 rfl (by omega) (some ⟨w.heap.size, 0, none⟩) 0 0 (fun _ => .int .u8 0) rfl (Ly.empty w 5 1 _) (some a) n c f rfl (by rw [Nat.mul_one]; exact R.out.aj ((Aa.refl [] w).alloc _)) hn (fun e => by cases e) (by rw [Nat.mul_one]; exact H1.out) (by simp only [maxLen]; omega) (by omega) ?_
               intro X cX w1 yO hkp da gZ
               have HY := Lib.hid yO; have HK := Lib.hid hkp; have DX := Lib.hid da
               clear yO hkp da gZ)
  go_ret
  refine ⟨X, cX, rfl, ?_, ?_, ((Aa.refl [] w).alloc _).then HK.out (fun x hx => .inr (by rw [List.mem_singleton.1 hx]; exact Nat.le_refl _))⟩
  · have h := HY.out
    rw [Nat.zero_add] at h
    exact h.congr (fun j hj => by simp)
  · intro x hx
    rcases DX.out with e | e
    · rw [e] at hx
      rw [List.mem_singleton.1 hx]
      exact Nat.le_refl _
    · rw [e] at hx
      rw [List.mem_singleton.1 hx]
      simp
theorem Ly.aqf{w:World}{t:TypeId}{A:Option Addr}{n c:Nat}{f:Nat->Value}(h:Ly w t 1 A n c f){k:Nat}(hk:k<=n):Ly w t 1 A k k f :=
 ⟨Nat.le_refl _,by have:=h.1;have:=h.2.1;omega,fun e=>by have:=h.2.2.1 e;have:=h.1;omega,fun a e=>by
  obtain⟨g,cur,fr,e2,hh,rI,hc,r⟩:=h.2.2.2 a e;exact⟨g,cur,fr,e2,hh,by rcases rI with h|⟨_,h⟩;exact .inl h;exact .inr ⟨rfl,h⟩,by have:=h.1;omega,fun j hj=>r j (by omega)⟩⟩
def As(f:Nat->Int):Prop:=∀j,j<8->f (50+j)=jt j
def ou(f:Nat->Int):ByteArray:=strOfNums ((List.range 8).map fun j=>f (50+j))
theorem agB{a b:Int}(ha:0<=a)(ha2:a<=255)(hb:0<=b)(tC:b<=255)(h:UInt8.ofNat a.toNat=UInt8.ofNat b.toNat):a=b:=by
 have h2:=congrArg UInt8.toNat h;simp only[UInt8.toNat_ofNat'] at h2;omega
theorem aaw{f:Nat->Int}(h:As f):ou f=⟨#[112,97,116,105,110,97,48,49]⟩:=by
 unfold ou;rw[show((List.range 8).map fun j=>f (50+j))=[112,97,116,105,110,97,48,49] from by
  simp only[show List.range 8=[0,1,2,3,4,5,6,7] from rfl,List.map_cons,List.map_nil];rw[h 0 (by omega),h 1 (by omega),h 2 (by omega),h 3 (by omega),h 4 (by omega),h 5 (by omega),h 6 (by omega),h 7 (by omega)];rfl]
 rfl
theorem agC{f:Nat->Int}(hf:∀j,0<=f j/\f j<=255)(h:¬As f):ou f≠⟨#[112,97,116,105,110,97,48,49]⟩:=by
 intro e;apply h;unfold ou strOfNums at e;injection e with e;simp only[show List.range 8=[0,1,2,3,4,5,6,7] from rfl,List.map_cons,List.map_nil] at e;injection e with e;simp only[List.cons.injEq] at e;obtain⟨e0,e1,e2,e3,e4,e5,e6,e7,_⟩:=e;have key:∀(a:Int) (b:Nat),b<=255->0<=a->a<=255->UInt8.ofNat a.toNat=UInt8.ofNat b->a=b:=fun a b hb h0 h1 hh=>by
  have:=agB (b:=(b:Int)) h0 h1 (by omega) (by omega) (by simpa using hh);exact this
 intro j hj;have hj8:j=0\/j=1\/j=2\/j=3\/j=4\/j=5\/j=6\/j=7:=by omega
 rcases hj8 with rfl|rfl|rfl|rfl|rfl|rfl|rfl|rfl
 ·exact key _ 112 (by omega) (hf _).1 (hf _).2 e0
 ·exact key _ 97 (by omega) (hf _).1 (hf _).2 e1
 ·exact key _ 116 (by omega) (hf _).1 (hf _).2 e2
 ·exact key _ 105 (by omega) (hf _).1 (hf _).2 e3
 ·exact key _ 110 (by omega) (hf _).1 (hf _).2 e4
 ·exact key _ 97 (by omega) (hf _).1 (hf _).2 e5
 ·exact key _ 48 (by omega) (hf _).1 (hf _).2 e6
 ·exact key _ 49 (by omega) (hf _).1 (hf _).2 e7
def BN(w:World)(f:Nat->Int)(e:Ending)(w':World):Prop :=
 ∃X,e=.returned (.tuple #[.slice X 50 50,.nilIface])/\Ly w' 5 1 X 50 50 (fun j=>.int .u8 (f j))/\(∀x,x∈aK X->w.heap.size<=x)/\Aa [] w w'
def Cd(w:World)(f:Nat->Int)(e:Ending)(w':World):Prop :=
 (As f/\BN w f e w')\/(¬As f/\e=.returned (.tuple #[.slice none 0 0,.iface 40 (.int .i64 6)])/\Aa [] w w')
theorem agD(A:Option Addr)(c:Nat)(f:Nat->Int)(w:World)(r:Rd w A 58 (fun j=>.int .u8 (f j)))(hc:58<=c)(hf:∀j,0<=f j/\f j<=255) :
  Calls Tryz.prog 191 #[.slice A 58 c] w (Cd w f):=by
 obtain⟨b0,o0,rfl,_⟩:=id r (by omega);have R:=Lib.hid r;have HF:=Lib.hid hf;clear r hf
 go_enter func191,ntmps191
 go_wp2_with fail
 refine(jQ _ 58 c _ w R.out hc (by omega) (fun _ _=>rfl)).mono ?_;rintro e w1 ⟨X,cX,rfl,yO,gN,kk⟩;obtain⟨g,rfl,yG,_⟩:=yO.yF (show 0<58 by omega);have hcx:=yO.1;have hcm:=yO.2.1;unfold maxLen at hcm
 have hcv:=run_convert_bytes_arg (P:=Tryz.prog) w1 37 5 underlying37 underlying5 g 50 8 (cX-50) ((List.range 8).map fun j=>f (50+j)) (by simp) (fun i hi=>by
  obtain⟨g2,e,hcc,_⟩:=yO.yF (show 50+i<58 by omega);injection e with e;injection e with e;subst e;rw[hcc];have hr:(List.range 8)[i]?=some i:=List.getElem?_range hi;simp[List.getD_eq_getElem?_getD,hr])
 have DY:=Lib.hid yO;have HN:=Lib.hid gN;have HK:=Lib.hid kk;have aoq:∀dst,Tryz.prog.underlying dst=some .string->(convert 37 dst (.slice (some ⟨g,50,none⟩) 8 (cX-50))).run Tryz.prog w1=.ok (.string (ou f)) w1:=hcv;have aor:=aoq 9 underlying9;clear yO gN kk hcv aoq yG;by_cases hm:As f
 ·have hs:((ou f).toList == [112,97,116,105,110,97,48,49])=true:=by rw[aaw hm];simp
  have HM:=Lib.hid hm;clear hm;generalize ou f=S at hs aor
  go_wp2
  go_ret2
  exact .inl ⟨HM.out,_,rfl,DY.out.aqf (by omega),HN.out,HK.out⟩
 ·have hs:((ou f).toList == [112,97,116,105,110,97,48,49])=false:=beq_eq_false_iff_ne.2 fun e=>agC HF.out hm (by
   rw[ByteArray.toList_eq] at e;generalize ou f=S at e;obtain⟨d⟩:=S;exact congrArg ByteArray.mk (Array.toList_inj.1 e))
  have HM:=Lib.hid hm;clear hm;generalize ou f=S at hs aor
  go_wp2
  go_ret2
  exact .inr ⟨HM.out,rfl,HK.out⟩
end
section
namespace GF
def xt(a:Nat):Nat:=if 255<2*a then (2*a) ^^^ 0x11d else 2*a
theorem amo(a:Nat):xt a=if 255<2*a then (2*a) ^^^ 0x11d else 2*a:=rfl
def xtN:Nat->Nat->Nat
 |0,a=>a
 |n+1,a=>xt (xtN n a)
def sj(a b:Nat):Nat->Nat
 |0=>0
 |n+1=>sj a b n ^^^ (if b.testBit n then xtN n a else 0)
def mul(a b:Nat):Nat:=sj a b 8
def pw(k:Nat):Nat:=xtN k 1
def lgF(a:Nat):Nat->Nat->Nat->Nat
 |0,_,k=>k
 |n+1,p,k=>if p=a then k else lgF a n (xt p) (k+1)
def lg(a:Nat):Nat:=lgF a 255 1 0
theorem aos:∀a,a<256->xt a<256:=by decide +kernel
theorem agE(n:Nat){a:Nat}(h:a<256):xtN n a<256:=by
 induction n with
 |zero=>exact h
 |succ n ih=>exact aos _ ih
theorem bo{a b:Nat}(ha:a<256)(hb:b<256):a ^^^ b<256:=Nat.xor_lt_two_pow (n:=8) ha hb
theorem bits{P:Nat->Prop}(h0:P 0)(h1:∀i,i<8->P (2^i))(h2:∀x y,x<256->y<256->P x->P y->P (x ^^^ y)):∀b,b<256->P b:=by
 have hd:∀n,n<8->∀b,b<256->2^n<=b->b<2^(n+1)->b ^^^ 2^n<2^n:=by decide +kernel
 have hp:∀n,n<8->2^n<256:=by decide
 have key:∀n,n<=8->∀b,b<2^n->P b:=by
  intro n
  induction n with
  | zero =>
   intro _ b hb;obtain rfl:b=0:=by simpa using hb
   exact h0
  | succ n ih =>
   intro hn b hb;by_cases h:b<2^n
   ·exact ih (by omega) b h
   ·have hn8:n<8:=by omega
    have tD:b<256:=Nat.lt_of_lt_of_le hb (Nat.pow_le_pow_right (by omega) hn:2^(n+1)<=2^8);have hl:=hd n hn8 b tD (by omega) hb;have e:b=(b ^^^ 2^n) ^^^ 2^n:=by rw[Nat.xor_assoc,Nat.xor_self,Nat.xor_zero]
    rw[e];exact h2 _ _ (bo tD (hp n hn8)) (hp n hn8) (ih (by omega) _ hl) (h1 n hn8)
 exact fun b hb=>key 8 (Nat.le_refl _) b hb
theorem aj7:∀i,i<8->∀a,a<256->xt (a ^^^ 2^i)=xt a ^^^ xt (2^i):=by decide +kernel
theorem agF{a b:Nat}(ha:a<256)(hb:b<256):xt (a ^^^ b)=xt a ^^^ xt b:=by
 have key:∀b,b<256->∀a,a<256->xt (a ^^^ b)=xt a ^^^ xt b:=by
  refine bits ?_ ?_ ?_
  ·intro a _;rw[Nat.xor_zero,show xt 0=0 from rfl,Nat.xor_zero]
  ·intro i hi a ha;exact aj7 i hi a ha
  ·intro x y hx hy h1 h2 a ha;rw[<-Nat.xor_assoc,h2 _ (bo ha hx),h1 _ ha,h2 _ hx,Nat.xor_assoc]
 exact key b hb a ha
theorem agG(n:Nat):xtN n 0=0:=by
 induction n with
 |zero=>rfl
 |succ n ih=>unfold xtN;rw[ih];rfl
theorem aj8(s t:Bool)(m:Nat):(if (s ^^ t)=true then m else 0)=(if s=true then m else 0) ^^^ (if t=true then m else 0):=by
 cases s<;>cases t<;>simp
theorem aj9(a b c d:Nat):(a ^^^ b) ^^^ (c ^^^ d)=(a ^^^ c) ^^^ (b ^^^ d):=by
 rw[Nat.xor_assoc,Nat.xor_assoc, <-Nat.xor_assoc b,Nat.xor_comm b c,Nat.xor_assoc]
theorem acg(a b c:Nat)(n:Nat):sj a (b ^^^ c) n=sj a b n ^^^ sj a c n:=by
 induction n with
 |zero=>exact(Nat.xor_self 0).symm
 | succ n ih =>
  unfold sj;rw[ih,Nat.testBit_xor,aj8,aj9]
theorem aka{a:Nat}(b:Nat)(h:a<256)(n:Nat):sj a b n<256:=by
 induction n with
 |zero=>exact(by decide:0<256)
 | succ n ih =>
  unfold sj;refine bo ih ?_;split
  ·exact agE n h
  ·decide
theorem mul_lt{a b:Nat}(h:a<256):mul a b<256:=aka b h 8
theorem fD(a b c:Nat):mul a (b ^^^ c)=mul a b ^^^ mul a c:=acg a b c 8
theorem aax(a n:Nat):sj a 0 n=0:=by
 induction n with
 |zero=>rfl
 |succ n ih=>unfold sj;rw[ih];simp
theorem du(a:Nat):mul a 0=0:=aax a 8
theorem aay(b n:Nat):sj 0 b n=0:=by
 induction n with
 |zero=>rfl
 |succ n ih=>unfold sj;rw[ih,agG];simp
theorem bT(b:Nat):mul 0 b=0:=aay b 8
theorem fh:∀a,a<256->mul a 1=a:=by decide +kernel
theorem akb:∀i,i<8->∀a,a<256->mul a (xt (2^i))=xt (mul a (2^i)):=by decide +kernel
theorem amp{a b:Nat}(ha:a<256)(hb:b<256):mul a (xt b)=xt (mul a b):=by
 refine bits (P:=fun b=>mul a (xt b)=xt (mul a b)) ?_ (fun i hi=>akb i hi a ha) ?_ b hb
 ·simp only[show xt 0=0 from rfl,du]
 ·intro x y hx hy h1 h2;rw[agF hx hy,fD,fD,h1,h2,agF (mul_lt ha) (mul_lt ha)]
theorem bB(k:Nat):pw k<256:=agE k (by decide)
theorem yP(k:Nat):pw (k+1)=xt (pw k):=rfl
theorem fI(i j:Nat):mul (pw i) (pw j)=pw (i+j):=by
 induction j with
 |zero=>exact fh _ (bB i)
 |succ j ih=>rw[yP,amp (bB i) (bB j),ih, <-Nat.add_assoc,yP]
theorem akc(m n a:Nat):xtN (m+n) a=xtN m (xtN n a):=by
 induction m with
 |zero=>simp[xtN]
 |succ m ih=>rw[show m+1+n=m+n+1 by omega];unfold xtN;rw[ih]
theorem agH:pw 255=1:=by decide +kernel
theorem xc(k:Nat):pw (k+255)=pw k:=by
 unfold pw;rw[akc,show xtN 255 1=1 from agH]
theorem ae2(q r:Nat):pw (r+255*q)=pw r:=by
 induction q with
 |zero=>rfl
 |succ q ih=>rw[show r+255*(q+1)=r+255*q+255 by omega,xc,ih]
theorem agI(k:Nat):pw (k%255)=pw k:=by
 conv=>rhs;rw[<-Nat.mod_add_div k 255]
 rw[ae2]
theorem eH:∀a,a<256->a≠0->lg a<255/\pw (lg a)=a:=by decide +kernel
theorem yQ:∀k,k<255->lg (pw k)=k:=by decide +kernel
theorem yR(k:Nat):pw k≠0:=by
 have h:∀k,k<255->pw k≠0:=by decide +kernel
 rw[<-agI];exact h _ (Nat.mod_lt _ (by decide))
theorem ach{i j:Nat}(hi:i<255)(hj:j<255)(h:pw i=pw j):i=j:=by
 have:=congrArg lg h
 rwa [yQ i hi,yQ j hj] at this
theorem yS{a b:Nat}(ha:a<256)(hb:b<256)(oL:a≠0)(jR:b≠0):mul a b=pw (lg a+lg b):=by
 obtain⟨_,h1⟩:=eH a ha oL;obtain⟨_,h2⟩:=eH b hb jR;rw[<-fI,h1,h2]
theorem mul_comm{a b:Nat}(ha:a<256)(hb:b<256):mul a b=mul b a:=by
 by_cases oL:a=0
 ·subst oL;rw[bT,du]
 by_cases jR:b=0
 ·subst jR;rw[bT,du]
 rw[yS ha hb oL jR,yS hb ha jR oL,Nat.add_comm]
theorem sC{a b:Nat}(ha:a<256)(hb:b<256)(oL:a≠0)(jR:b≠0):mul a b≠0:=by
 rw[yS ha hb oL jR];exact yR _
theorem mul_assoc{a b c:Nat}(ha:a<256)(hb:b<256)(hc:c<256):mul (mul a b) c=mul a (mul b c):=by
 by_cases oL:a=0
 ·subst oL;simp only[bT]
 by_cases jR:b=0
 ·subst jR;simp only[bT,du]
 by_cases yG:c=0
 ·subst yG;simp only[du]
 obtain⟨_,h1⟩:=eH a ha oL;obtain⟨_,h2⟩:=eH b hb jR;obtain⟨_,h3⟩:=eH c hc yG;rw[<-h1, <-h2, <-h3];simp only[fI,Nat.add_assoc]
theorem fY{a b c:Nat}(ha:a<256)(hb:b<256)(hc:c<256):mul (a ^^^ b) c=mul a c ^^^ mul b c:=by
 rw[mul_comm (bo ha hb) hc,fD,mul_comm hc ha,mul_comm hc hb]
theorem xd{a:Nat}(ha:a<256):mul 1 a=a:=by rw[mul_comm (by decide) ha,fh a ha]
def inv(a:Nat):Nat:=pw (255-lg a)
theorem inv_def(a:Nat):inv a=pw (255-lg a):=rfl
theorem oM(a:Nat):inv a<256:=bB _
theorem adK{a:Nat}(ha:a<256)(oL:a≠0):mul a (inv a)=1:=by
 obtain⟨h0,h1⟩:=eH a ha oL;have h2:mul (pw (lg a)) (inv a)=1:=by
  unfold inv;rw[fI,show lg a+(255-lg a)=255 by omega,agH]
 rwa [h1] at h2
theorem adL(a:Nat):inv a≠0:=yR _
end GF
end
section
open Go.RowKit
theorem sD{n:Nat}(h:n<2^63):IntKind.i64.wrap (n:Int)=(n:Int):=IntWalk.i64_in _ ⟨by omega,by omega⟩
theorem amq{n:Nat}(h:n<256):IntKind.u8.wrap (n:Int)=(n:Int):=by
 simp[IntKind.wrap,IntKind.signed,IntKind.bits];omega
theorem ae3{a:Nat}(ha:a<2^63):(BitVec.ofInt 64 (a:Int)).toNat=a:=by
 rw[BitVec.ofInt_natCast,BitVec.toNat_ofNat];exact Nat.mod_eq_of_lt (by omega)
theorem bv8{a:Nat}(ha:a<256):(BitVec.ofInt 8 (a:Int)).toNat=a:=by
 rw[BitVec.ofInt_natCast,BitVec.toNat_ofNat];exact Nat.mod_eq_of_lt (by omega)
theorem aci{a b:Nat}(ha:a<2^63)(hb:b<2^63):fV .xor .i64 (a:Int) (b:Int)=((a ^^^ b:Nat):Int):=by
 show IntKind.i64.wrap (((BitVec.ofInt 64 (a:Int) ^^^ BitVec.ofInt 64 (b:Int)).toNat:Nat):Int)=_;rw[BitVec.toNat_xor,ae3 ha,ae3 hb,sD (Nat.xor_lt_two_pow ha hb)]
theorem tE{a b:Nat}(ha:a<2^63)(hb:b<2^63):fV .and .i64 (a:Int) (b:Int)=((a &&& b:Nat):Int):=by
 show IntKind.i64.wrap (((BitVec.ofInt 64 (a:Int) &&& BitVec.ofInt 64 (b:Int)).toNat:Nat):Int)=_;rw[BitVec.toNat_and,ae3 ha,ae3 hb,sD (Nat.and_lt_two_pow _ hb)]
theorem bI{a b:Nat}(ha:a<256)(hb:b<256):fV .xor .u8 (a:Int) (b:Int)=((a ^^^ b:Nat):Int):=by
 show IntKind.u8.wrap (((BitVec.ofInt 8 (a:Int) ^^^ BitVec.ofInt 8 (b:Int)).toNat:Nat):Int)=_;rw[BitVec.toNat_xor,bv8 ha,bv8 hb,amq (GF.bo ha hb)]
section
variable{K:Value->Prop}
theorem Sh.agJ{a n:Nat}(h:a <<< n<2^63)(hn:n<64)(k:K (.int .i64 ((a <<< n:Nat):Int))):Sh .shl .i64 (a:Int) (n:Int) K:=by
 refine⟨by omega,?_⟩;have e:min ((n:Int)).toNat IntKind.i64.bits=n:=by simp[IntKind.bits];omega
 have e2:((a:Int)*2^n)=((a <<< n:Nat):Int):=by rw[Nat.shiftLeft_eq];push_cast;rfl
 simp only[e,e2,sD h];exact k
end
end
section
open Go.RowKit
attribute [local irreducible] GF.pw GF.lg GF.mul GF.inv GF.xt
def dM(d st:Int)(ke kl:Nat)(j:Nat):Value :=
 if j=0 then .int .u32 d else if j=1 then .int .i32 st else if j=2 then .int .u32 0
 else if j<513 then .int .u8 ((if (j-3)%255<ke then GF.pw (j-3) else 0:Nat):Int)
 else .int .i64 ((if j-513≠0/\GF.lg (j-513)<kl then GF.lg (j-513) else 0:Nat):Int)
section
variable(d st:Int)(ke kl:Nat)
theorem qy{j:Nat}(h:j<510):dM d st ke kl (3+j)=.int .u8 ((if j%255<ke then GF.pw j else 0:Nat):Int):=by
 unfold dM;rw[if_neg (by omega),if_neg (by omega),if_neg (by omega),if_pos (by omega),show 3+j-3=j by omega]
theorem xg{a:Nat}(h:a<256):dM d st ke kl (513+a)=.int .i64 ((if a≠0/\GF.lg a<kl then GF.lg a else 0:Nat):Int):=by
 unfold dM;rw[if_neg (by omega),if_neg (by omega),if_neg (by omega),if_neg (by omega),show 513+a-513=a by omega]
theorem agK{k:Nat}(hk:k<255){j:Nat}:put (put (dM d st k kl) (3+k) (.int .u8 (GF.pw k:Int))) (3+(k+255)) (.int .u8 (GF.pw k:Int)) j=dM d st (k+1) kl j:=by
 unfold put;by_cases h1:j=3+(k+255)
 ·rw[if_pos h1,h1,qy _ _ _ _ (by omega),if_pos (by omega),GF.xc]
 rw[if_neg h1];by_cases h2:j=3+k
 ·rw[if_pos h2,h2,qy _ _ _ _ (by omega),if_pos (by omega)]
 rw[if_neg h2];unfold dM;split
 ·rfl
 split
 ·rfl
 split
 ·rfl
 split
 ·refine vi (congrArg Nat.cast ?_);by_cases h:(j-3)%255<k
  ·rw[if_pos h,if_pos (by omega)]
  ·rw[if_neg h,if_neg (by omega)]
 ·rfl
theorem akd{k:Nat}(hk:k<255){j:Nat}(hj:j<769):put (dM d st ke k) (513+GF.pw k) (.int .i64 (k:Int)) j=dM d st ke (k+1) j:=by
 unfold put;by_cases h1:j=513+GF.pw k
 ·rw[if_pos h1,h1,xg _ _ _ _ (GF.bB k),GF.yQ k hk,if_pos ⟨GF.yR k,by omega⟩]
 rw[if_neg h1];unfold dM;split
 ·rfl
 split
 ·rfl
 split
 ·rfl
 split
 ·rfl
 ·refine vi (congrArg Nat.cast ?_);by_cases h0:j-513=0
  ·rw[if_neg (fun h=>h.1 h0),if_neg (fun h=>h.1 h0)]
  ·have hs:=GF.eH (j-513) (by omega) h0;have cn:GF.lg (j-513)≠k:=fun e=>by
    rw[e] at hs;have:=hs.2;omega
   by_cases h:GF.lg (j-513)<k
   ·rw[if_pos ⟨h0,h⟩,if_pos ⟨h0,by omega⟩]
   ·rw[if_neg (fun e=>h e.2),if_neg (fun e=>by have:=e.2;omega)]
end
theorem Sh.dbl{p:Nat}{K:Value->Prop}(h:p<256)(k:K (.int .i64 (2*(p:Int)))):Sh .shl .i64 (p:Int) 1 K:=by
 refine Sh.agJ (n:=1) ?_ (by decide) ?_
 ·rw[Nat.shiftLeft_eq];omega
 ·rw[Nat.shiftLeft_eq,show((p*2^1:Nat):Int)=2*(p:Int) by omega];exact k
abbrev BG(w:World)(g:Nat)(d st:Int)(ke kl:Nat):Prop:=Row w g 318 769 (dM d st ke kl)
theorem ake(w:World)(g:Nat)(d st:Int)(r:BG w g d st 0 0):Spec Tryz.prog 220 #[.pointer (some ⟨g,0,none⟩)] w fun v w'=>v=.tuple #[]/\BG w' g d st 255 255/\Aa [g] w w':=by
 refine spec_of_wpE (T:=tt) ai func220 rfl (by decide +kernel) ntmps220 (by simp) ?_;conv=>whnf
 refine CW.loop (ι:=Nat) (fun i w'=>i<=255/\BG w' g d st i i/\Aa [g] w w') (fun i=>[(0,.pointer (some ⟨g,0,none⟩)),(2,.int .i64 (GF.pw i)),(4,.int .i64 i)]) (fun i=>255-i) 0 ai ⟨by omega,r,Aa.refl _ _⟩ ⟨rfl,vi (by decide +kernel),rfl,trivial⟩ ?_;rintro k wr ⟨hk,r,kk⟩;by_cases av:k<255
 ·have hp:=GF.bB k;have bq:GF.pw (k+1)=GF.xt (GF.pw k):=GF.yP k;rw[GF.amo] at bq;generalize hq:GF.pw k=p at *;conv=>whnf
  repeat ((first|refine Br.y ?_|refine CW.s ?_);conv=>whnf)
  refine CW.held (fun _=>True) [] (.take 0 (.take 1 (.take 2 (.take 3 (.take 4 (.take 5 (.take 6 (.take 7 (.take 8 (.take 9 (.take 10 (.take 11 (.take 13 (.take 14 (.one 12 (.take 15 (.one 16 (.done)))))))))))))))))) ai (by kernel_rfl) (by kernel_rfl) (by kernel_rfl) trivial ?_;conv=>whnf
  repeat ((first|refine Ix.n ?_|refine Ar.la ?_|refine Ar.lb ?_);conv=>whnf)
  refine Sd.rowAt (r.drewN 1) (3+k) (by omega) (by omega) rfl ?_;intro w2 r2 k2;conv=>whnf
  repeat ((first|refine HS.t ?_|refine Ix.i ?_);conv=>whnf)
  refine Sd.rowAt r2 (3+(k+255)) (by omega) (by omega) rfl ?_;intro w3 r3 k3;rw[<-hq] at r3;have r3:=r3.congr (fun j _=>agK d st k av);have bG:Aa [g] w w3:=((kk.drewN 1).trans k2).trans k3;conv=>whnf
  repeat ((first|refine HS.t ?_|refine Ix.n ?_);conv=>whnf)
  refine Sd.rowAt r3 (513+p) (by omega) (by omega) rfl ?_;intro w4 r4 k4;rw[<-hq] at r4;have r4:=r4.congr (fun j hj=>akd d st (k+1) av hj);have bU:=bG.trans k4;conv=>whnf
  refine Sh.dbl hp ?_;by_cases h2:255<2*p
  ·rw[if_pos h2] at bq;conv=>whnf
   repeat ((first|refine Ar.la ?_|refine Br.y ?_);conv=>whnf)
   refine⟨k+1,⟨av,r4,bU⟩,⟨rfl,vi ?_,rfl,trivial⟩,by simp only;omega⟩;rw[bq];exact aci (a:=2*p) (b:=285) (by omega) (by omega)
  ·rw[if_neg h2] at bq;conv=>whnf
   repeat ((first|refine Ar.la ?_|refine Br.n ?_);conv=>whnf)
   refine⟨k+1,⟨av,r4,bU⟩,⟨rfl,vi ?_,rfl,trivial⟩,by simp only;omega⟩;rw[bq];omega
 ·obtain rfl:k=255:=by omega
  conv=>whnf
  repeat ((first|refine Br.f ?_|refine CW.s ?_);conv=>whnf)
  exact⟨rfl,rfl,r,kk⟩
end
end Go.Proofs.YtaeikigfgfcadaaGreat
