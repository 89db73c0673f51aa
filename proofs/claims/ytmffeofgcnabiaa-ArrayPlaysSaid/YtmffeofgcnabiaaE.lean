/- The stepper of this seat: what a piece of code comes to is computed by definition; it stops where a fact of memory, a bound, a call or a loop is asked for. -/
import Derived.Test.YtmffeofgcnabiaaRows
import Derived.WalkKit
import Derived.Deep.Quiet
import Derived.KernelRfl
namespace Go.Proofs.Ytmffeofgcnabiaa
set_option linter.unusedVariables false
set_option linter.unusedSimpArgs false

/-- What is known of a frame: some slots and their values (the first one of a number counts). -/
abbrev Fr := List (Nat × Value)
def fget : Fr → Nat → Option Value
  | [], _ => none
  | (i, v) :: l, d => cond (Nat.beq i d) (some v) (fget l d)
def lk : Fr → Nat → (Value → Prop) → Prop
  | [], _, _ => False
  | (i, v) :: l, d, K => cond (Nat.beq i d) (K v) (lk l d K)
theorem lk_get {K : Value → Prop} {d : Nat} : ∀ {f : Fr}, lk f d K → ∃ v, fget f d = some v ∧ K v
  | [], h => h.elim
  | (i, v) :: l, h => by
    unfold lk at h
    unfold fget
    cases hb : Nat.beq i d with
    | true => rw [hb] at h; exact ⟨v, rfl, h⟩
    | false => rw [hb] at h; exact lk_get h
structure Agr (n : Nat) (f : Fr) (a : Act) : Prop where
  size : a.tmps.size = n
  defers : a.defers = []
  get : ∀ d v, fget f d = some v → a.tmps.getD d undef = v
theorem Agr.put {n : Nat} {f : Fr} {a : Act} (h : Agr n f a) (d : Nat) (hd : d < n) (v : Value) : Agr n ((d, v) :: f) (a.put (some d) v) := by
  refine ⟨by simp [Act.put, h.size], by simp [Act.put, h.defers], fun e u he => ?_⟩
  unfold fget at he
  have hs : d < a.tmps.size := by rw [h.size]; exact hd
  cases hb : Nat.beq d e with
  | true =>
    rw [hb] at he
    obtain rfl : d = e := Nat.eq_of_beq_eq_true hb
    injection he with he
    subst he
    simp [Act.put, Array.getD, hs]
  | false =>
    rw [hb] at he
    have hne : d ≠ e := fun e => by rw [e] at hb; simp at hb
    have h1 := h.get e u he
    unfold Act.put
    simp only [Array.getD, Array.size_setIfInBounds] at h1 ⊢
    split
    · rename_i h2
      rw [dif_pos h2] at h1
      rw [← h1]
      simp only [Array.getInternal_eq_getElem]
      exact Array.getElem_setIfInBounds_ne (by simpa using h2) hne
    · rename_i h2
      rwa [dif_neg h2] at h1
theorem Agr.put' {n : Nat} {f : Fr} {a : Act} (h : Agr n f a) (v : Value) : Agr n f (a.put none v) := h
theorem Agr.forget {n : Nat} {f f' : Fr} {a : Act} (h : Agr n f a) (k : ∀ d v, fget f' d = some v → fget f d = some v) : Agr n f' a := ⟨h.size, h.defers, fun d v hd => h.get d v (k d v hd)⟩

/-- Types, as far as the stepper asks for them. -/
inductive TyD where
  | int (k : IntKind)
  | bool
  | ptr (e : TypeId)
  | sl (e : TypeId) (sz : Nat)
  | arr (len : Nat) (e : TypeId) (sz : Nat)
  | st (offs : List (Option Nat))
  | ifc
  | other
  | agg
def szIs (P : Program) (t : TypeId) (n : Nat) : Bool := match P.info? t with
  | some i => i.size == n
  | none => false
def szPos (P : Program) (t : TypeId) : Bool := match P.info? t with
  | some i => !(i.size == 0)
  | none => false
def cellTy (P : Program) (t : TypeId) : Bool := szIs P t 1 && (match P.underlying t with | some (.struct _) => false | some (.array _ _) => false | some _ => true | none => false)
def tyOk (P : Program) (t : TypeId) : TyD → Bool
  | .int k => (match P.underlying t with | some (.int k') => decide (k' = k) | _ => false) && cellTy P t
  | .bool => (match P.underlying t with | some .bool => true | _ => false) && cellTy P t
  | .ptr e => (match P.underlying t with | some (.pointer e') => e' == e | _ => false) && cellTy P t
  | .sl e n => (match P.underlying t with | some (.slice e') => e' == e && szIs P e n | _ => false) && cellTy P t
  | .arr l e n => (match P.underlying t with | some (.array l' e') => l' == l && e' == e && szIs P e n | _ => false)
  | .st offs => (match P.underlying t with | some (.struct fs) => fs.toList.map (fun f => if szPos P f.type then some f.offset else none) == offs | _ => false)
  | .ifc => (match P.underlying t with | some (.interface _) => true | _ => false) && cellTy P t
  | .other => (match P.underlying t with | some (.interface _) => false | some _ => true | none => false) && cellTy P t
  | .agg => (match P.underlying t with | some (.interface _) => false | some _ => true | none => false)
def TyD.cell : TyD → Bool
  | .st _ => false
  | .arr .. => false
  | .agg => false
  | _ => true
def ik : IntKind → Nat
  | .i8 => 0 | .i16 => 1 | .i32 => 2 | .i64 => 3 | .u8 => 4 | .u16 => 5 | .u32 => 6 | .u64 => 7
theorem ik_eq {a b : IntKind} (h : Nat.beq (ik a) (ik b) = true) : a = b := by cases a <;> cases b <;> first | rfl | cases h
abbrev TT := List (Nat × TyD)
def TT.ok (P : Program) : TT → Bool
  | [] => true
  | (t, d) :: l => tyOk P t d && TT.ok P l
def tlk : TT → Nat → (TyD → Prop) → Prop
  | [], _, _ => False
  | (i, v) :: l, d, K => cond (Nat.beq i d) (K v) (tlk l d K)
theorem tlk_get {P : Program} {K : TyD → Prop} {t : Nat} : ∀ {T : TT}, TT.ok P T = true → tlk T t K → ∃ d, tyOk P t d = true ∧ K d
  | [], _, h => h.elim
  | (i, v) :: l, ho, h => by
    unfold tlk at h
    unfold TT.ok at ho
    simp only [Bool.and_eq_true] at ho
    cases hb : Nat.beq i t with
    | true => rw [hb] at h; obtain rfl := Nat.eq_of_beq_eq_true hb; exact ⟨v, ho.1, h⟩
    | false => rw [hb] at h; exact tlk_get ho.2 h

/-- Stops. -/
structure Ru {α : Type} (P : Program) (s : Sem α) (w : World) (K : α → World → Prop) : Prop where
  ex : ∃ v w', s.run P w = .ok v w' ∧ K v w'
structure Br (b : Bool) (A B : Prop) : Prop where
  tt : b = true → A
  ff : b = false → B
structure Ar (k : IntKind) (x : Int) (K : Value → Prop) : Prop where
  go : K (.int k (k.wrap x))
structure Ix (i : Int) (len : Nat) (K : Nat → Prop) : Prop where
  ex : ∃ k : Nat, i = (k : Int) ∧ k < len ∧ K k
/-- A cell is read. -/
structure Ld (w : World) (a : Addr) (K : Value → Prop) : Prop where
  ex : ∃ v, w.cell? a = some v ∧ K v
/-- A cell is written. -/
structure Sd (w : World) (a : Addr) (v : Value) (K : World → Prop) : Prop where
  there : ∃ u, w.cell? a = some u
  free : w.frozen? a = false
  one : v.oneCell' = true
  go : K (w.setCell a v)
structure Dv (op : BinOp) (k : IntKind) (a b : Int) (K : Value → Prop) : Prop where
  ne : b ≠ 0
  go : K (.int k (match op with | .quo => k.wrap (a.tdiv b) | _ => a.tmod b))
structure Sh (op : BinOp) (k : IntKind) (a b : Int) (K : Value → Prop) : Prop where
  nn : 0 ≤ b
  go : K (.int k (match op with | .shl => k.wrap (a * 2 ^ (min b.toNat k.bits)) | _ => a.fdiv (2 ^ (min b.toNat k.bits))))
structure Pk (t : Bool) (x y : Value) (K : Value → Prop) : Prop where
  go : K (if t then x else y)
/-- A function that is there with its body. -/
def fnOk (P : Program) (f : FuncId) : Bool := match P.funcs[f]? with
  | some fn => !(fn.name == "runtime.NumGoroutine") && fn.body.isSome
  | none => false
/-- A call returns a value, and what holds of it and of the world behind it. -/
def Spec (P : Program) (f : FuncId) (args : Array Value) (w : World) (Φ : Value → World → Prop) : Prop := fnOk P f = true ∧ Calls P f args w fun e w' => ∃ v, e = .returned v ∧ Φ v w'
structure Ca (P : Program) (f : FuncId) (args : Array Value) (w : World) (K : Value → World → Prop) : Prop where
  go : Spec P f args w K
structure Bu (P : Program) (b : Builtin) (argTypes : Array TypeId) (type : TypeId) (consts : Array Bool) (args : Array Value) (w : World) (K : Value → World → Prop) : Prop where
  ex : ∃ v w', (builtin b argTypes type consts args).run P w = .ok (.value v) w' ∧ K v w'

def opd (f : Fr) : Operand → (Value → Prop) → Prop
  | .tmp t, K => lk f t K
  | .const v, K => K v
  | .global g, K => K (.pointer (some ⟨g, 0, none⟩))
  | .func g, K => K (.func (.func g) #[] #[])
def opds (f : Fr) : List Operand → (List Value → Prop) → Prop
  | [], K => K []
  | x :: l, K => opd f x fun v => opds f l fun vs => K (v :: vs)
def opdp (f : Fr) : List (Nat × Operand) → (List (Nat × Value) → Prop) → Prop
  | [], K => K []
  | (i, x) :: l, K => opd f x fun v => opdp f l fun vs => K ((i, v) :: vs)
def opdo (f : Fr) : Option Operand → (Option Value → Prop) → Prop
  | none, K => K none
  | some x, K => opd f x fun v => K (some v)
def appl : List Value → List Value → (List Value → Prop) → Prop
  | [], ys, K => K ys
  | x :: xs, ys, K => appl xs ys fun zs => K (x :: zs)
theorem appl_out : ∀ {xs ys : List Value} {K : List Value → Prop}, appl xs ys K → K (xs ++ ys)
  | [], ys, K, h => h
  | x :: xs, ys, K, h => appl_out (xs := xs) (K := fun zs => K (x :: zs)) h
def lnth {α : Type} : List α → Nat → (α → Prop) → Prop
  | [], _, _ => False
  | x :: l, 0, K => K x
  | x :: l, n + 1, K => lnth l n K
theorem lnth_get {α : Type} {K : α → Prop} : ∀ {l : List α} {n : Nat}, lnth l n K → ∃ x, l[n]? = some x ∧ K x
  | [], _, h => h.elim
  | x :: l, 0, h => ⟨x, rfl, h⟩
  | x :: l, n + 1, h => by
    obtain ⟨y, h1, h2⟩ := lnth_get (l := l) (n := n) h
    exact ⟨y, by simpa using h1, h2⟩

/-- k elements of sz cells. -/
def muls (k sz : Nat) (K : Nat → Prop) : Prop := cond (Nat.beq sz 1) (K k) (K (k * sz))
theorem muls_out {k sz : Nat} {K : Nat → Prop} (h : muls k sz K) : K (k * sz) := by
  unfold muls at h
  cases hb : Nat.beq sz 1 with
  | true => rw [hb] at h; rw [Nat.eq_of_beq_eq_true hb, Nat.mul_one]; exact h
  | false => rw [hb] at h; exact h
def bitv (op : BinOp) (k : IntKind) (x y : Int) : Int :=
  let a := BitVec.ofInt k.bits x
  let b := BitVec.ofInt k.bits y
  k.wrap ((match op with | .and => a &&& b | .or => a ||| b | .xor => a ^^^ b | _ => a &&& ~~~b).toNat : Int)
def binE (P : Program) (op : BinOp) (xt : TypeId) (x y : Operand) (vx vy : Value) (w : World) (K : Value → World → Prop) : Prop :=
  match vx, vy with
  | .int k a, .int k' b => (match op with
    | .add => cond (Nat.beq (ik k') (ik k)) (Ar k (a + b) fun v => K v w) False
    | .sub => cond (Nat.beq (ik k') (ik k)) (Ar k (a - b) fun v => K v w) False
    | .mul => cond (Nat.beq (ik k') (ik k)) (Ar k (a * b) fun v => K v w) False
    | .quo => cond (Nat.beq (ik k') (ik k)) (Dv .quo k a b fun v => K v w) False
    | .rem => cond (Nat.beq (ik k') (ik k)) (Dv .rem k a b fun v => K v w) False
    | .and => cond (Nat.beq (ik k') (ik k)) (K (.int k (bitv .and k a b)) w) False
    | .or => cond (Nat.beq (ik k') (ik k)) (K (.int k (bitv .or k a b)) w) False
    | .xor => cond (Nat.beq (ik k') (ik k)) (K (.int k (bitv .xor k a b)) w) False
    | .andNot => cond (Nat.beq (ik k') (ik k)) (K (.int k (bitv .andNot k a b)) w) False
    | .shl => Sh .shl k a b fun v => K v w
    | .shr => Sh .shr k a b fun v => K v w
    | .eql => cond (Nat.beq (ik k') (ik k)) (K (.bool (decide (a = b))) w) False
    | .neq => cond (Nat.beq (ik k') (ik k)) (K (.bool (!decide (a = b))) w) False
    | .lss => cond (Nat.beq (ik k') (ik k)) (K (.bool (decide (a < b))) w) False
    | .leq => cond (Nat.beq (ik k') (ik k)) (K (.bool (decide (a ≤ b))) w) False
    | .gtr => cond (Nat.beq (ik k') (ik k)) (K (.bool (decide (a > b))) w) False
    | .geq => cond (Nat.beq (ik k') (ik k)) (K (.bool (decide (a ≥ b))) w) False)
  | vx, vy => Ru P (do eqGuard op xt x y vx vy; binOp op xt vx vy) w K

def isConst' : Operand → Bool
  | .const _ => true
  | _ => false
def evOp (P : Program) (T : TT) (o : Oper) (f : Fr) (w : World) (K : Value → World → Prop) : Prop :=
  match o.op with
  | .move x => opd f x fun v => K v w
  | .assign x => opd f x fun v => K v w
  | .pick c a b => opd f c fun vc => opd f a fun va => opd f b fun vb => (match vc with | .bool t => Pk t va vb fun v => K v w | _ => False)
  | .binOp op xt x y _ => opd f x fun vx => opd f y fun vy => tlk T xt fun d => (match d with
    | .int _ => binE P op xt x y vx vy w K
    | _ => Ru P (do eqGuard op xt x y vx vy; binOp op xt vx vy) w K)
  | .unOp op _ x => opd f x fun vx => (match op, vx with
    | .not, .bool b => K (.bool (!b)) w
    | .neg, .int k n => Ar k (0 - n) fun v => K v w
    | op, vx => Ru P (Op.unary op vx) w K)
  | .convert src dst x => opd f x fun vx => tlk T src fun _ => tlk T dst fun d => (match d, vx with
    | .int k, .int _ n => Ar k n fun v => K v w
    | _, vx => Ru P (convert src dst vx) w K)
  | .makeInterface t x => opd f x fun vx => tlk T t fun d => (match d with | .ifc => False | _ => K (.iface t vx) w)
  | .extract x i => opd f x fun vx => (match vx with | .tuple vs => lnth vs.toList i fun v => K v w | _ => False)
  | .nilCheck x => opd f x fun vx => (match vx with | .pointer (some a) => K (.pointer (some a)) w | _ => False)
  | .fieldAddr s x i => opd f x fun vx => tlk T s fun d => (match d, vx with
    | .st offs, .pointer (some ⟨g, o, none⟩) => lnth offs i fun m => (match m with | some n => K (.pointer (some ⟨g, o + n, none⟩)) w | none => False)
    | _, _ => False)
  | .indexAddr t x i => opd f x fun vx => opd f i fun vi => tlk T t fun d => (match d, vx, vi with
    | .arr len _ sz, .pointer (some ⟨g, o, none⟩), .int _ i => Ix i len fun k => muls k sz fun m => K (.pointer (some ⟨g, o + m, none⟩)) w
    | .sl _ sz, .slice (some ⟨g, o, none⟩) len _, .int _ i => Ix i len fun k => muls k sz fun m => K (.pointer (some ⟨g, o + m, none⟩)) w
    | _, _, _ => False)
  | .index t x i => opd f x fun vx => opd f i fun vi => Ru P (Instr.index t vx vi) w K
  | .field t x i => opd f x fun vx => Ru P (Instr.field t vx i) w K
  | .load t x => opd f x fun vx => tlk T t fun d => (match vx with | .pointer (some a) => cond d.cell (Ld w a fun v => K v w) (Ru P (loadVar t a) w K) | _ => False)
  | .store t x y => opd f x fun vx => opd f y fun vy => tlk T t fun d => (match vx with | .pointer (some a) => cond d.cell (Sd w a vy fun w' => K undef w') (Ru P (storeVar t a vy) w fun _ w' => K undef w') | _ => False)
  | .alloc t => Ru P (Instr.alloc t true (.tuple #[])) w K
  | .box t x => opd f x fun vx => Ru P (Instr.box t vx) w K
  | .build t parts => opdp f parts.toList fun l => Ru P (Instr.build t l.toArray) w K
  | .buildSlice t len parts => opdp f parts.toList fun l => Ru P (Instr.buildSlice t len l.toArray) w K
  | .slice t x lo hi mx => opd f x fun vx => opdo f lo fun vl => opdo f hi fun vh => opdo f mx fun vm => Ru P (Instr.sliceAt t vx vl vh vm) w K
  | .makeSlice t l c => opd f l fun vl => opd f c fun vc => Ru P (Instr.makeSlice t vl vc) w K
  | .makeFunc fn a b => opds f a.toList fun va => opds f b.toList fun vb => K (.func fn va.toArray vb.toArray) w
  | .makeMap t r => opdo f r fun vr => Ru P (Instr.makeMap t vr) w K
  | .lookup t x i ok => opd f x fun vx => opd f i fun vi => Ru P (Instr.lookup t vx vi ok) w K
  | .mapUpdate t m k x => opd f m fun vm => opd f k fun vk => opd f x fun vx => Ru P (Instr.mapUpdate t vm vk vx) w fun _ w' => K undef w'
  | .call c => (match c.callee with
    | .value g => opd f g fun vg => opds f c.args.toList fun vs => (match vg with
      | .func (.func fid) first cap => appl first.toList vs fun l1 => appl l1 cap.toList fun l2 => Ca P fid l2.toArray w K
      | _ => False)
    | .builtin b => opds f c.args.toList fun vs => (match b, vs with
      | .len, [.slice A n m] => lnth c.argTypes.toList 0 fun t => tlk T t fun d => (match d with | .sl _ _ => K (.int .i64 (n : Int)) w | _ => False)
      | .max, [.int k a, .int _ b] => K (.int k (max a b)) w
      | .min, [.int k a, .int _ b] => K (.int k (min a b)) w
      | b, vs => Bu P b c.argTypes o.type (c.args.map fun | .const _ => true | _ => false) vs.toArray w K)
    | .invoke _ _ => False)
  | _ => False

def pt (n : Nat) (f : Fr) (d : Option Tmp) (v : Value) (K : Fr → Prop) : Prop :=
  match d with
  | none => K f
  | some d => cond (Nat.ble n d) False (K ((d, v) :: f))
def gdst (ops : List Oper) (j : Nat) (K : Tmp → Prop) : Prop := lnth ops j fun o => (match o.dst with | some t => K t | none => False)
/-- The operations of a region, in their order. (By the recursor itself: the kernel's unfolding is then the elaborator's.) -/
def evOps (P : Program) (T : TT) (n : Nat) (ops : List Oper) (l : List Oper) : Fr → World → (Fr → World → Prop) → Prop :=
  List.rec (motive := fun _ => Fr → World → (Fr → World → Prop) → Prop) (fun f w K => K f w)
    (fun o _ ih f w K => match o.guard with
      | none => evOp P T o f w fun v w' => pt n f o.dst v fun f' => ih f' w' K
      | some (j, b) => gdst ops j fun t => lk f t fun vg => (match vg with
        | .bool g => (match b with
          | true => Br g (cond (Nat.ble n t) False (evOp P T o ((t, .bool true) :: f) w fun v w' => pt n ((t, .bool true) :: f) o.dst v fun f' => ih f' w' K))
            (cond (Nat.ble n t) False (pt n ((t, .bool false) :: f) o.dst undef fun f' => ih f' w K))
          | false => Br g (cond (Nat.ble n t) False (pt n ((t, .bool true) :: f) o.dst undef fun f' => ih f' w K))
            (cond (Nat.ble n t) False (evOp P T o ((t, .bool false) :: f) w fun v w' => pt n ((t, .bool false) :: f) o.dst v fun f' => ih f' w' K)))
        | .tuple _ => pt n f o.dst undef fun f' => ih f' w K
        | _ => False)) l
theorem evOps_cons (P : Program) (T : TT) (n : Nat) (ops : List Oper) (o : Oper) (l : List Oper) (f : Fr) (w : World) (K : Fr → World → Prop) : evOps P T n ops (o :: l) f w K = (match o.guard with
      | none => evOp P T o f w fun v w' => pt n f o.dst v fun f' => evOps P T n ops l f' w' K
      | some (j, b) => gdst ops j fun t => lk f t fun vg => (match vg with
        | .bool g => (match b with
          | true => Br g (cond (Nat.ble n t) False (evOp P T o ((t, .bool true) :: f) w fun v w' => pt n ((t, .bool true) :: f) o.dst v fun f' => evOps P T n ops l f' w' K))
            (cond (Nat.ble n t) False (pt n ((t, .bool false) :: f) o.dst undef fun f' => evOps P T n ops l f' w K))
          | false => Br g (cond (Nat.ble n t) False (pt n ((t, .bool true) :: f) o.dst undef fun f' => evOps P T n ops l f' w K))
            (cond (Nat.ble n t) False (evOp P T o ((t, .bool false) :: f) w fun v w' => pt n ((t, .bool false) :: f) o.dst v fun f' => evOps P T n ops l f' w' K)))
        | .tuple _ => pt n f o.dst undef fun f' => evOps P T n ops l f' w K
        | _ => False)) := rfl

/-- An exit that is no panic. -/
def noPanic : Exit → Prop
  | .panic _ => False
  | _ => True
/-- What wpE speaks of, as the kit says it. -/
def QA (n : Nat) (Q : Exit → Fr → World → Prop) : Exit → Act → World → Prop := fun e a w => noPanic e ∧ ∃ f, Agr n f a ∧ Q e f w
/-- Code's wp, of all frames of which so much is known. -/
structure CW (P : Program) (n : Nat) (c : Code) (Q : Exit → Fr → World → Prop) (f : Fr) (w : World) : Prop where
  go : ∀ a, Agr n f a → Code.wp P c (QA n Q) a w
/-- Code that ends where ways may meet. -/
def joins : Code → Bool
  | .cond .. => true
  | .block .. => true
  | .seq _ b => joins b
  | _ => false
def wpE (P : Program) (T : TT) (n : Nat) (c : Code) : Fr → World → (Exit → Fr → World → Prop) → Prop :=
  Code.rec (motive := fun _ => Fr → World → (Exit → Fr → World → Prop) → Prop)
    (fun f w Q => Q .normal f w)
    (fun id ops d f w Q => match d with
      | false => evOps P T n ops.toList ops.toList f w fun f w => Q .normal f w
      | true => CW P n (.region id ops true) Q f w)
    (fun a b iha ihb f w Q => cond (joins a) (CW P n (.seq a b) Q f w) (iha f w fun e f w => (match e with
        | .normal => ihb f w Q
        | e => Q e f w)))
    (fun c _ _ iha ihb f w Q => opd f c fun v => (match v with
      | .bool t => Br t (iha f w Q) (ihb f w Q)
      | _ => False))
    (fun id _ ih f w Q => ih f w fun e f w => (match e with
      | .exit i => cond (Nat.beq i id) (Q .normal f w) (Q (.exit i) f w)
      | e => Q e f w))
    (fun c _ f w Q => CW P n (.loop c) Q f w)
    (fun _ _ _ _ _ _ _ _ _ => False)
    (fun id f w Q => Q (.exit id) f w)
    (fun _ _ _ _ _ => False)
    (fun _ _ _ _ => False)
    (fun _ _ _ _ => False)
    (fun f w Q => Q .ret f w)
    (fun _ _ _ _ => False) c

theorem wpE_seq (P : Program) (T : TT) (n : Nat) (x y : Code) (f : Fr) (w : World) (Q : Exit → Fr → World → Prop) : wpE P T n (.seq x y) f w Q = cond (joins x) (CW P n (.seq x y) Q f w) (wpE P T n x f w fun e f w => (match e with
        | .normal => wpE P T n y f w Q
        | e => Q e f w)) := rfl
section sound
variable {P : Program} {T : TT} {n : Nat}
theorem opd_sound {f : Fr} {x : Operand} {K : Value → Prop} {a : Act} (h : opd f x K) (ha : Agr n f a) : K (a.eval x) := by
  cases x with
  | tmp t =>
    obtain ⟨v, h1, h2⟩ := lk_get h
    have := ha.get t v h1
    simp only [Act.eval, this]
    exact h2
  | const v => exact h
  | global g => exact h
  | func g => exact h
theorem opds_sound {f : Fr} {a : Act} (ha : Agr n f a) : ∀ {l : List Operand} {K : List Value → Prop}, opds f l K → K (l.map a.eval)
  | [], K, h => h
  | x :: l, K, h => by
    have h1 := opd_sound h ha
    exact opds_sound ha (K := fun vs => K (a.eval x :: vs)) h1
theorem opdp_sound {f : Fr} {a : Act} (ha : Agr n f a) : ∀ {l : List (Nat × Operand)} {K : List (Nat × Value) → Prop}, opdp f l K → K (l.map fun p => (p.1, a.eval p.2))
  | [], K, h => h
  | (i, x) :: l, K, h => by
    have h1 := opd_sound h ha
    exact opdp_sound ha (K := fun vs => K ((i, a.eval x) :: vs)) h1
theorem opdo_sound {f : Fr} {a : Act} (ha : Agr n f a) {x : Option Operand} {K : Option Value → Prop} (h : opdo f x K) : K (x.map a.eval) := by
  cases x with
  | none => exact h
  | some x => exact opd_sound (K := fun v => K (some v)) h ha
theorem wp_of_run {o : Oper} {a : Act} {N : Act → World → Prop} {Q' : Exit → Act → World → Prop} {w w' : World} {v : Value} (h : (execOp a.eval o).run P w = .ok (.value v) w') (hn : N (a.put o.dst v) w') : o.wp P a w N Q' := by
  unfold Oper.wp
  rw [h]
  exact hn
theorem wp_of_run' {o : Oper} {a : Act} {N : Act → World → Prop} {Q' : Exit → Act → World → Prop} {w w' : World} (h : (execOp a.eval o).run P w = .ok .skip w') (hn : N (a.put o.dst undef) w') : o.wp P a w N Q' := by
  unfold Oper.wp
  rw [h]
  exact hn
theorem int_of_ok {t : TypeId} {k : IntKind} (h : tyOk P t (.int k) = true) : P.underlying t = some (.int k) := by
  simp only [tyOk, Bool.and_eq_true] at h
  obtain ⟨h, _⟩ := h
  split at h
  · rename_i e; rw [e, of_decide_eq_true h]
  · cases h
theorem und_of_ok {t : TypeId} {d : TyD} (h : tyOk P t d = true) : ∃ u, P.underlying t = some u := by
  cases hu : P.underlying t with
  | some u => exact ⟨u, rfl⟩
  | none => cases d <;> simp [tyOk, hu] at h
theorem ifc_of_ok {t : TypeId} {d : TyD} (h : tyOk P t d = true) (hd : d ≠ .ifc) : ∃ u, P.underlying t = some u ∧ ∀ ms, u ≠ .interface ms := by
  cases hu : P.underlying t with
  | none => cases d <;> simp [tyOk, hu] at h
  | some u =>
    refine ⟨u, rfl, fun ms e => ?_⟩
    subst e
    cases d <;> simp [tyOk, hu] at h hd
theorem size_of_is {t : TypeId} {m : Nat} (h : szIs P t m = true) (w : World) : (sizeOf t).run P w = .ok m w := by
  unfold szIs at h
  split at h
  · rename_i i hi
    simp only [beq_iff_eq] at h
    simp [sizeOf, typeInfo, hi, h]
  · cases h
theorem size_of_pos {t : TypeId} (h : szPos P t = true) (w : World) : ∃ m, m ≠ 0 ∧ (sizeOf t).run P w = .ok m w := by
  unfold szPos at h
  split at h
  · rename_i i hi
    simp only [Bool.not_eq_true', beq_eq_false_iff_ne] at h
    exact ⟨i.size, h, by simp [sizeOf, typeInfo, hi]⟩
  · cases h
theorem add_none (g o k : Nat) : (⟨g, o, none⟩ : Addr).add k = ⟨g, o + k, none⟩ := by
  unfold Addr.add
  by_cases hk : k = 0 <;> simp [hk]
theorem fieldAt_run {s : TypeId} {offs : List (Option Nat)} (h : tyOk P s (.st offs) = true) (i m g o : Nat) (hm : offs[i]? = some (some m)) (w : World) : (Instr.fieldAt s (.pointer (some ⟨g, o, none⟩)) i).run P w = .ok (.pointer (some ⟨g, o + m, none⟩)) w := by
  simp only [tyOk] at h
  split at h
  · rename_i fs hu
    simp only [beq_iff_eq] at h
    rw [← h] at hm
    simp only [List.getElem?_map, Option.map_eq_some_iff] at hm
    obtain ⟨fd, hf, hm⟩ := hm
    have hf' : fs[i]? = some fd := by simpa using hf
    split at hm
    case isFalse => cases hm
    rename_i hpos
    injection hm with hm
    subst hm
    obtain ⟨z, hz, hs⟩ := size_of_pos hpos w
    simp only [Instr.fieldAt, Sem.run_bind, run_underlying hu, Result.andThen_ok, hf', Instr.sureAddr, Sem.run_pure, fieldPlace, hs, if_neg hz, add_none]
  · cases h
theorem indexAt_arr {t e : TypeId} {len sz : Nat} (h : tyOk P t (.arr len e sz) = true) (g o k : Nat) (kk : IntKind) (hk : k < len) (w : World) : (Instr.indexAt t (.pointer (some ⟨g, o, none⟩)) (.int kk (k : Int))).run P w = .ok (.pointer (some ⟨g, o + k * sz, none⟩)) w := by
  simp only [tyOk] at h
  split at h
  · rename_i l' e' hu
    simp only [Bool.and_eq_true, beq_iff_eq] at h
    obtain ⟨⟨rfl, rfl⟩, hs⟩ := h
    have h2 : (0 : Int) ≤ (k : Int) ∧ (k : Int) < l' := by omega
    simp only [Instr.indexAt, asIntOf, Sem.run_bind, Sem.run_pure, Result.andThen_ok, run_underlying hu, Instr.sureAddr]
    by_cases ht : l' ≤ 1
    · simp [ht, run_underlying hu, h2, size_of_is hs, add_none]
    · simp [ht, h2, size_of_is hs, add_none]
  · cases h
theorem indexAt_sl {t e : TypeId} {sz : Nat} (h : tyOk P t (.sl e sz) = true) (g o k len cap : Nat) (kk : IntKind) (hk : k < len) (w : World) : (Instr.indexAt t (.slice (some ⟨g, o, none⟩) len cap) (.int kk (k : Int))).run P w = .ok (.pointer (some ⟨g, o + k * sz, none⟩)) w := by
  unfold tyOk at h
  rw [Bool.and_eq_true] at h
  obtain ⟨h, _⟩ := h
  split at h
  · rename_i e' hu
    simp only [Bool.and_eq_true, beq_iff_eq] at h
    obtain ⟨rfl, hs⟩ := h
    have h2 : (0 : Int) ≤ (k : Int) ∧ (k : Int) < len := by omega
    simp only [Instr.indexAt, asIntOf, Sem.run_bind, Sem.run_pure, Result.andThen_ok, run_underlying hu]
    by_cases ht : len ≤ 1
    · simp [ht, run_underlying hu, h2, size_of_is hs, add_none]
    · simp [ht, h2, size_of_is hs, add_none]
  · cases h
theorem map_arr {α β : Type} (g : α → β) (x : Array α) : (x.toList.map g).toArray = x.map g := by
  apply Array.ext'
  simp
theorem cond_ik {k k' : IntKind} {A : Prop} (h : cond (Nat.beq (ik k') (ik k)) A False) : k' = k ∧ A := by
  cases hb : Nat.beq (ik k') (ik k) with
  | true => rw [hb] at h; exact ⟨ik_eq hb, h⟩
  | false => rw [hb] at h; exact h.elim
theorem guard_int (op : BinOp) (xt : TypeId) (x y : Operand) (k k' : IntKind) (a b : Int) (w : World) : (eqGuard op xt x y (.int k a) (.int k' b)).run P w = .ok () w := by
  simp [go_sem]
theorem cell_ok {t : TypeId} {d : TyD} (h : tyOk P t d = true) (hc : d.cell = true) : cellTy P t = true := by
  cases d <;> simp_all [tyOk, TyD.cell]
theorem isAgg_cell {t : TypeId} (h : cellTy P t = true) (w : World) : (isAgg t).run P w = .ok false w := by
  simp only [cellTy, Bool.and_eq_true] at h
  obtain ⟨_, h⟩ := h
  split at h
  · cases h
  · cases h
  · rename_i u h1 h2 hu
    unfold isAgg
    rw [Sem.run_bind, run_underlying hu w, Result.andThen_ok]
    cases u <;> first | rfl | exact absurd rfl (h1 _ ) | exact absurd rfl (h2 _ _)
  · cases h
theorem load_run {t : TypeId} (h : cellTy P t = true) {w : World} {a : Addr} {v : Value} (hv : w.cell? a = some v) : (loadVar t a).run P w = .ok v w := by
  unfold loadVar
  rw [Sem.run_bind, isAgg_cell h w, Result.andThen_ok]
  simp [load, Sem.run, hv]
theorem store_run {t : TypeId} (h : cellTy P t = true) {w : World} {a : Addr} {u v : Value} (hu : w.cell? a = some u) (hf : w.frozen? a = false) (h1 : v.oneCell' = true) : (storeVar t a v).run P w = .ok () (w.setCell a v) := by
  have hs := size_of_is (P := P) (t := t) (m := 1) (by simp only [cellTy, Bool.and_eq_true] at h; exact h.1) w
  have hc : v.cells = #[v] := by cases v <;> first | rfl | cases h1
  unfold storeVar
  rw [hc, Sem.run_bind, hs, Result.andThen_ok]
  have h0 : a.add 0 = a := rfl
  have h3 : (store a v).run P w = .ok () (w.setCell a v) := by
    unfold store
    cases v <;> first | (simp [Sem.run, hu, hf]; done) | cases h1
  have h4 : (storeCells a #[v].toList).run P w = .ok () (w.setCell a v) := by
    simp only [storeCells, Sem.run_bind, h0, h3, Result.andThen_ok]
    rfl
  simpa using h4
theorem binE_sound {op : BinOp} {xt : TypeId} {x y : Operand} {vx vy : Value} {w : World} {K : Value → World → Prop} (h : binE P op xt x y vx vy w K) :
    ∃ v w', (do eqGuard op xt x y vx vy; binOp op xt vx vy : Sem Value).run P w = .ok v w' ∧ K v w' := by
  unfold binE at h
  split at h
  · rename_i k a k' b
    simp only [Sem.run_bind, guard_int, Result.andThen_ok]
    cases op <;> simp only at h
    case add => obtain ⟨e, g⟩ := cond_ik h; subst e; exact ⟨_, _, by simp [binOp, Op.intArith], g.go⟩
    case sub => obtain ⟨e, g⟩ := cond_ik h; subst e; exact ⟨_, _, by simp [binOp, Op.intArith], g.go⟩
    case mul => obtain ⟨e, g⟩ := cond_ik h; subst e; exact ⟨_, _, by simp [binOp, Op.intArith], g.go⟩
    case quo => obtain ⟨e, g⟩ := cond_ik h; subst e; exact ⟨_, _, by simp [binOp, Op.intDiv, g.ne], g.go⟩
    case rem => obtain ⟨e, g⟩ := cond_ik h; subst e; exact ⟨_, _, by simp [binOp, Op.intDiv, g.ne], g.go⟩
    case and => obtain ⟨e, g⟩ := cond_ik h; subst e; exact ⟨_, _, by simp [binOp, Op.intBits, bitv], g⟩
    case or => obtain ⟨e, g⟩ := cond_ik h; subst e; exact ⟨_, _, by simp [binOp, Op.intBits, bitv], g⟩
    case xor => obtain ⟨e, g⟩ := cond_ik h; subst e; exact ⟨_, _, by simp [binOp, Op.intBits, bitv], g⟩
    case andNot => obtain ⟨e, g⟩ := cond_ik h; subst e; exact ⟨_, _, by simp [binOp, Op.intBits, bitv], g⟩
    case shl => exact ⟨_, _, by have := h.nn; simp [binOp, Op.shift, Int.not_lt.2 this], h.go⟩
    case shr => exact ⟨_, _, by have := h.nn; simp [binOp, Op.shift, Int.not_lt.2 this], h.go⟩
    case eql => obtain ⟨e, g⟩ := cond_ik h; subst e; exact ⟨_, _, by simp [binOp, Op.intCmp]; rfl, g⟩
    case neq => obtain ⟨e, g⟩ := cond_ik h; subst e; exact ⟨_, _, by simp [binOp, Op.intCmp]; rfl, g⟩
    case lss => obtain ⟨e, g⟩ := cond_ik h; subst e; exact ⟨_, _, by simp [binOp, Op.intCmp], g⟩
    case leq => obtain ⟨e, g⟩ := cond_ik h; subst e; exact ⟨_, _, by simp [binOp, Op.intCmp], g⟩
    case gtr => obtain ⟨e, g⟩ := cond_ik h; subst e; exact ⟨_, _, by simp [binOp, Op.intCmp], g⟩
    case geq => obtain ⟨e, g⟩ := cond_ik h; subst e; exact ⟨_, _, by simp [binOp, Op.intCmp], g⟩
  · exact h.ex
theorem callFunc_run {f : FuncId} {args : Array Value} (h : fnOk P f = true) (w : World) : (callFunc f args).run P w = .ok (.enter f args) w := by
  unfold fnOk at h
  split at h
  · rename_i fn hf
    simp only [Bool.and_eq_true, Bool.not_eq_true', beq_eq_false_iff_ne] at h
    obtain ⟨h1, h2⟩ := h
    have h3 : fn.body.isNone = false := by cases hb : fn.body <;> simp [hb] at h2 ⊢
    have h4 : fn.body ≠ none := fun e => by simp [e] at h2
    simp [callFunc, hf, h1, h4]
  · cases h
theorem len_run {t e : TypeId} {sz : Nat} (h : tyOk P t (.sl e sz) = true) (ts : Array TypeId) (ht : ts[0]? = some t) (ty : TypeId) (A : Option Addr) (l c : Nat) (w : World) : (Builtin.len_ ts ty #[.slice A l c]).run P w = .ok (.int .i64 (l : Int)) w := by
  simp only [tyOk, Bool.and_eq_true] at h
  obtain ⟨h, _⟩ := h
  split at h
  · rename_i e' hu
    simp [Builtin.len_, ht, run_underlying hu, goInt]
  · cases h
theorem max_run (ts : Array TypeId) (ty : TypeId) (k k2 : IntKind) (a b : Int) (w : World) : (Builtin.max_ ts ty #[.int k a, .int k2 b]).run P w = .ok (.int k (max a b)) w := by
  have e : (if b > a then b else a) = max a b := by omega
  simp [Builtin.max_, Builtin.max2, ← e]
theorem min_run (ts : Array TypeId) (ty : TypeId) (k k2 : IntKind) (a b : Int) (w : World) : (Builtin.min_ ts ty #[.int k a, .int k2 b]).run P w = .ok (.int k (min a b)) w := by
  have e : (if b < a then b else a) = min a b := by omega
  simp [Builtin.min_, Builtin.min2, ← e]
theorem evOp_sound (hT : TT.ok P T = true) {o : Oper} {f : Fr} {w : World} {K : Value → World → Prop} (h : evOp P T o f w K) {a : Act} (ha : Agr n f a) {N : Act → World → Prop} {Q' : Exit → Act → World → Prop}
    (hn : ∀ v w', K v w' → N (a.put o.dst v) w') : o.wp P a w N Q' := by
  unfold evOp at h
  split at h
  case h_1 x ho => exact wp_of_run (by simp [execOp, ho]) (hn _ _ (opd_sound h ha))
  case h_2 x ho => exact wp_of_run (by simp [execOp, ho]) (hn _ _ (opd_sound h ha))
  case h_3 c x y ho =>
    have h := opd_sound (opd_sound (opd_sound h ha) ha) ha
    split at h
    · rename_i t hc
      exact wp_of_run (by simp [execOp, ho, hc, asBool]) (hn _ _ h.go)
    · exact h.elim
  case h_4 op xt x y yt ho =>
    obtain ⟨d, hd, h⟩ := tlk_get hT (opd_sound (opd_sound h ha) ha)
    obtain ⟨v, w', h1, h2⟩ : ∃ v w', (do eqGuard op xt x y (a.eval x) (a.eval y); binOp op xt (a.eval x) (a.eval y) : Sem Value).run P w = .ok v w' ∧ K v w' := by
      split at h
      · exact binE_sound h
      · exact h.ex
    exact wp_of_run (by simp only [execOp, ho, Sem.run_bind]; rw [Sem.run_bind] at h1; rw [h1]; rfl) (hn _ _ h2)
  case h_5 op xt x ho =>
    have h := opd_sound h ha
    split at h
    · rename_i b hx _
      exact wp_of_run (by simp [execOp, ho, hx, Op.unary]) (hn _ _ h)
    · rename_i k m hx _
      exact wp_of_run (by simp [execOp, ho, hx, Op.unary, Op.intArith]) (hn _ _ h.go)
    · obtain ⟨v, w', h1, h2⟩ := h.ex
      exact wp_of_run (by simp only [execOp, ho, Sem.run_bind, h1]; rfl) (hn _ _ h2)
  case h_6 src dst x ho =>
    obtain ⟨ds, hs, h⟩ := tlk_get hT (opd_sound h ha)
    obtain ⟨d, hd, h⟩ := tlk_get hT h
    obtain ⟨us, hus⟩ := und_of_ok hs
    split at h
    · rename_i k k' m hx
      have hu := int_of_ok hd
      exact wp_of_run (by simp [execOp, ho, hx, convert, run_underlying hus, run_underlying hu, Conv.intToInt]) (hn _ _ h.go)
    · obtain ⟨v, w', h1, h2⟩ := h.ex
      exact wp_of_run (by simp only [execOp, ho, Sem.run_bind, h1]; rfl) (hn _ _ h2)
  case h_7 t x ho =>
    obtain ⟨d, hd, h⟩ := tlk_get hT (opd_sound h ha)
    split at h
    · exact h.elim
    · rename_i hni
      obtain ⟨u, hu, hu2⟩ := ifc_of_ok hd (fun e => hni e)
      refine wp_of_run (v := .iface t (a.eval x)) (w' := w) ?_ (hn _ _ h)
      simp only [execOp, ho, Sem.run_bind, Instr.makeInterface, run_underlying hu, Result.andThen_ok]
      cases u <;> first | rfl | exact absurd rfl (hu2 _)
  case h_8 x i ho =>
    have h := opd_sound h ha
    split at h
    · rename_i vs hx
      obtain ⟨v, hv, h⟩ := lnth_get h
      have hv' : vs[i]? = some v := by simpa using hv
      exact wp_of_run (by simp [execOp, ho, hx, Instr.extract, hv']) (hn _ _ h)
    · exact h.elim
  case h_9 x ho =>
    have h := opd_sound h ha
    split at h
    · rename_i b hx
      exact wp_of_run (by simp [execOp, ho, hx]) (hn _ _ h)
    · exact h.elim
  case h_10 s x i ho =>
    obtain ⟨d, hd, h⟩ := tlk_get hT (opd_sound h ha)
    split at h
    · rename_i offs g o2 hx
      obtain ⟨m, hm, h⟩ := lnth_get h
      split at h
      · exact wp_of_run (by simp only [execOp, ho, Sem.run_bind, hx, fieldAt_run hd i _ g o2 hm w]; rfl) (hn _ _ h)
      · exact h.elim
    · exact h.elim
  case h_11 t x i ho =>
    obtain ⟨d, hd, h⟩ := tlk_get hT (opd_sound (opd_sound h ha) ha)
    split at h
    · rename_i len e sz g o2 kk i2 hx hi
      obtain ⟨k, rfl, hk, h⟩ := h.ex
      have h := muls_out h
      exact wp_of_run (by simp only [execOp, ho, Sem.run_bind, hx, hi, indexAt_arr hd g o2 k kk hk w]; rfl) (hn _ _ h)
    · rename_i e sz g o2 len cap kk i2 hx hi
      obtain ⟨k, rfl, hk, h⟩ := h.ex
      have h := muls_out h
      exact wp_of_run (by simp only [execOp, ho, Sem.run_bind, hx, hi, indexAt_sl hd g o2 k len cap kk hk w]; rfl) (hn _ _ h)
    · exact h.elim
  case h_12 t x i ho =>
    obtain ⟨v, w', h1, h2⟩ := (opd_sound (opd_sound h ha) ha).ex
    exact wp_of_run (by simp only [execOp, ho, Sem.run_bind, h1]; rfl) (hn _ _ h2)
  case h_13 t x i ho =>
    obtain ⟨v, w', h1, h2⟩ := (opd_sound h ha).ex
    exact wp_of_run (by simp only [execOp, ho, Sem.run_bind, h1]; rfl) (hn _ _ h2)
  case h_14 t x ho =>
    obtain ⟨d, hd, h⟩ := tlk_get hT (opd_sound h ha)
    split at h
    · rename_i b hx
      obtain ⟨v, w', h1, h2⟩ : ∃ v w', (loadVar t b).run P w = .ok v w' ∧ K v w' := by
        cases hc : d.cell with
        | false => rw [hc] at h; exact h.ex
        | true =>
          rw [hc] at h
          obtain ⟨v, h1, h2⟩ := Ld.ex h
          exact ⟨v, w, load_run (cell_ok hd hc) h1, h2⟩
      exact wp_of_run (by simp only [execOp, ho, Sem.run_bind, hx, Instr.loadAt, Instr.sureAddr, Sem.run_pure, Result.andThen_ok, h1]) (hn _ _ h2)
    · exact h.elim
  case h_15 t x y ho =>
    obtain ⟨d, hd, h⟩ := tlk_get hT (opd_sound (opd_sound h ha) ha)
    split at h
    · rename_i b hx
      obtain ⟨v, w', h1, h2⟩ : ∃ v w', (storeVar t b (a.eval y)).run P w = .ok v w' ∧ K undef w' := by
        cases hc : d.cell with
        | false => rw [hc] at h; exact h.ex
        | true =>
          rw [hc] at h
          have h : Sd w b (a.eval y) fun w' => K undef w' := h
          obtain ⟨u, hu⟩ := h.there
          exact ⟨(), _, store_run (cell_ok hd hc) hu h.free h.one, h.go⟩
      exact wp_of_run' (by simp only [execOp, ho, Sem.run_bind, hx, Instr.storeAt, Instr.sureAddr, Sem.run_pure, Result.andThen_ok, h1]) (hn _ _ h2)
    · exact h.elim
  case h_16 t ho =>
    obtain ⟨v, w', h1, h2⟩ := h.ex
    exact wp_of_run (by simp only [execOp, ho, Sem.run_bind, h1]; rfl) (hn _ _ h2)
  case h_17 t x ho =>
    obtain ⟨v, w', h1, h2⟩ := (opd_sound h ha).ex
    exact wp_of_run (by simp only [execOp, ho, Sem.run_bind, h1]; rfl) (hn _ _ h2)
  case h_18 t ps ho =>
    obtain ⟨v, w', h1, h2⟩ := (opdp_sound ha h).ex
    have e : (ps.map fun x => (x.1, a.eval x.2)) = (ps.toList.map fun p => (p.1, a.eval p.2)).toArray := (map_arr _ _).symm
    exact wp_of_run (by simp only [execOp, ho, Sem.run_bind]; rw [e, h1]; rfl) (hn _ _ h2)
  case h_19 t len ps ho =>
    obtain ⟨v, w', h1, h2⟩ := (opdp_sound ha h).ex
    have e : (ps.map fun x => (x.1, a.eval x.2)) = (ps.toList.map fun p => (p.1, a.eval p.2)).toArray := (map_arr _ _).symm
    exact wp_of_run (by simp only [execOp, ho, Sem.run_bind]; rw [e, h1]; rfl) (hn _ _ h2)
  case h_20 t x lo hi mx ho =>
    obtain ⟨v, w', h1, h2⟩ := (opdo_sound ha (opdo_sound ha (opdo_sound ha (opd_sound h ha)))).ex
    exact wp_of_run (by simp only [execOp, ho, Sem.run_bind, h1]; rfl) (hn _ _ h2)
  case h_21 t l c ho =>
    obtain ⟨v, w', h1, h2⟩ := (opd_sound (opd_sound h ha) ha).ex
    exact wp_of_run (by simp only [execOp, ho, Sem.run_bind, h1]; rfl) (hn _ _ h2)
  case h_22 fn x y ho =>
    have h := opds_sound ha (opds_sound ha h)
    exact wp_of_run (by simp only [execOp, ho, Instr.makeFunc, map_arr]; rfl) (hn _ _ h)
  case h_23 t r ho =>
    obtain ⟨v, w', h1, h2⟩ := (opdo_sound ha h).ex
    exact wp_of_run (by simp only [execOp, ho, Sem.run_bind, h1]; rfl) (hn _ _ h2)
  case h_24 t x i ok ho =>
    obtain ⟨v, w', h1, h2⟩ := (opd_sound (opd_sound h ha) ha).ex
    exact wp_of_run (by simp only [execOp, ho, Sem.run_bind, h1]; rfl) (hn _ _ h2)
  case h_25 t m k x ho =>
    obtain ⟨v, w', h1, h2⟩ := (opd_sound (opd_sound (opd_sound h ha) ha) ha).ex
    exact wp_of_run' (by simp only [execOp, ho, Sem.run_bind, h1]; rfl) (hn _ _ h2)
  case h_26 c ho =>
    split at h
    · rename_i g hc
      have h := opds_sound ha (opd_sound h ha)
      split at h
      · rename_i fid first cap hg
        obtain ⟨hf, hcall⟩ := (appl_out (appl_out h)).go
        have e : (first.toList ++ c.args.toList.map a.eval ++ cap.toList).toArray = first ++ c.args.map a.eval ++ cap := by
          rw [← map_arr]
          apply Array.ext'
          simp
        rw [e] at hcall
        unfold Oper.wp
        have hx : (execOp a.eval o).run P w = .ok (.enter fid (first ++ c.args.map a.eval ++ cap)) w := by
          simp only [execOp, ho, resolve, hc, hg, Deferred.ofValue, Sem.run_bind, Sem.run_pure, Result.andThen_ok, invoke, callFunc_run hf]
        rw [hx, Oper.upon_enter]
        exact hcall.mono fun e w' ⟨v, he, hk⟩ => by subst he; exact hn _ _ hk
      · exact h.elim
    · rename_i b hc
      have h := opds_sound ha h
      have e : (c.args.toList.map a.eval).toArray = c.args.map a.eval := map_arr _ _
      split at h
      · rename_i A l m hvs _
        obtain ⟨t, ht, h⟩ := lnth_get h
        obtain ⟨d, hd, h⟩ := tlk_get hT h
        split at h
        · rename_i el sz
          have hargs : c.args.map a.eval = #[.slice A l m] := by rw [← e, hvs]
          have ht : c.argTypes[0]? = some t := by simpa using ht
          refine wp_of_run ?_ (hn _ _ h)
          simp only [execOp, ho, resolve, hc, hargs, Sem.run_bind, Sem.run_pure, Result.andThen_ok, invoke, builtin, len_run hd _ ht]
        · exact h.elim
      · rename_i k a2 k2 b2 hvs _
        have hargs : c.args.map a.eval = #[.int k a2, .int k2 b2] := by rw [← e, hvs]
        refine wp_of_run (by simp only [execOp, ho, resolve, hc, hargs, Sem.run_bind, Sem.run_pure, Result.andThen_ok, invoke, builtin, max_run]) (hn _ _ h)
      · rename_i k a2 k2 b2 hvs _
        have hargs : c.args.map a.eval = #[.int k a2, .int k2 b2] := by rw [← e, hvs]
        refine wp_of_run (by simp only [execOp, ho, resolve, hc, hargs, Sem.run_bind, Sem.run_pure, Result.andThen_ok, invoke, builtin, min_run]) (hn _ _ h)
      · obtain ⟨v, w', h1, h2⟩ := h.ex
        rw [e] at h1
        refine wp_of_run ?_ (hn _ _ h2)
        simp only [execOp, ho, resolve, hc, Sem.run_bind, Sem.run_pure, Result.andThen_ok, invoke]
        exact h1
    · exact h.elim
  case h_27 => exact h.elim
theorem pt_sound {f : Fr} {d : Option Tmp} {v : Value} {K : Fr → Prop} (h : pt n f d v K) {a : Act} (ha : Agr n f a) : ∃ f', Agr n f' (a.put d v) ∧ K f' := by
  cases d with
  | none => exact ⟨f, ha, h⟩
  | some d =>
    simp only [pt] at h
    cases hb : Nat.ble n d with
    | true => rw [hb] at h; exact h.elim
    | false =>
      rw [hb] at h
      have hd : ¬ n ≤ d := fun e => by rw [Nat.ble_eq_true_of_le e] at hb; cases hb
      exact ⟨_, ha.put d (by omega) v, h⟩
theorem getD_some {x : Array Value} {t : Nat} {b : Bool} (h : x.getD t undef = .bool b) : x[t]? = some (.bool b) := by
  rw [Array.getD_eq_getD_getElem?] at h
  cases hx : x[t]? with
  | none => rw [hx] at h; cases h
  | some v => rw [hx] at h; exact congrArg some h
theorem Agr.cons {f : Fr} {a : Act} (h : Agr n f a) (t : Nat) (v : Value) (hv : a.tmps.getD t undef = v) : Agr n ((t, v) :: f) a := ⟨h.size, h.defers, fun d u hd => by
  unfold fget at hd
  cases hb : Nat.beq t d with
  | true => rw [hb] at hd; obtain rfl := Nat.eq_of_beq_eq_true hb; injection hd with hd; rw [hv, hd]
  | false => rw [hb] at hd; exact h.get d u hd⟩
theorem getD_tuple {x : Array Value} {t : Nat} {vs : Array Value} (h : x.getD t undef = .tuple vs) : x[t]? = none ∨ x[t]? = some (.tuple vs) := by
  rw [Array.getD_eq_getD_getElem?] at h
  cases hx : x[t]? with
  | none => exact .inl rfl
  | some v => rw [hx] at h; exact .inr (congrArg some h)
theorem wanted_tuple {ops : Array Oper} {o oj : Oper} {j : Nat} {b : Bool} {t : Tmp} {a : Act} {vs : Array Value} (hg : o.guard = some (j, b)) (hj : ops.toList[j]? = some oj) (ht : oj.dst = some t) (hga : a.tmps.getD t undef = .tuple vs) : Region.wanted o (yielded ops a.tmps) = false := by
  have hj' : ops[j]? = some oj := by simpa using hj
  have hy : yielded ops a.tmps j = none := by
    unfold yielded
    rcases getD_tuple hga with h | h <;> simp only [hj', Option.bind_some, ht, h, Option.bind_none]
  simp [Region.wanted, hg, hy]
theorem evOps_sound (hT : TT.ok P T = true) {ops : Array Oper} {Q : Exit → Act → World → Prop} : ∀ (l : List Oper) {f : Fr} {w : World} {K : Fr → World → Prop} {a : Act}, evOps P T n ops.toList l f w K → Agr n f a →
    (∀ f' a' w', K f' w' → Agr n f' a' → Q .normal a' w') → wpList P ops Q l a w
  | [], f, w, K, a, h, ha, hQ => hQ _ _ _ h ha
  | o :: l, f, w, K, a, h, ha, hQ => by
    rw [evOps_cons] at h
    split at h
    · rename_i hg
      have hw : Region.wanted o (yielded ops a.tmps) = true := by simp [Region.wanted, hg]
      unfold wpList
      rw [if_pos hw]
      refine .inl (evOp_sound hT h ha fun v w' hk => ?_)
      obtain ⟨f', ha', hk'⟩ := pt_sound hk ha
      exact evOps_sound hT l hk' ha' hQ
    · rename_i j b hg
      obtain ⟨oj, hj, h⟩ := lnth_get h
      split at h
      · rename_i t ht
        obtain ⟨vg, hvg, h⟩ := lk_get h
        have hga := ha.get t vg hvg
        split at h
        · rename_i g
          have hy : yielded ops a.tmps j = some g := by
            have hj' : ops[j]? = some oj := by simpa using hj
            unfold yielded
            simp only [hj', Option.bind_some, ht, getD_some hga]
          unfold wpList
          have h : Br (g == b) (cond (Nat.ble n t) False (evOp P T o ((t, .bool b) :: f) w fun v w' => pt n ((t, .bool b) :: f) o.dst v fun f' => evOps P T n ops.toList l f' w' K))
              (cond (Nat.ble n t) False (pt n ((t, .bool (!b)) :: f) o.dst undef fun f' => evOps P T n ops.toList l f' w K)) := by
            cases b with
            | true => exact ⟨fun hb => Br.tt h (by simpa using hb), fun hb => Br.ff h (by simpa using hb)⟩
            | false => exact ⟨fun hb => Br.ff h (by simpa using hb), fun hb => Br.tt h (by simpa using hb)⟩
          by_cases hgb : (g == b) = true
          · have hw : Region.wanted o (yielded ops a.tmps) = true := by
              simp only [Region.wanted, hg, hy]
              simpa using hgb
            rw [if_pos hw]
            have h := h.tt hgb
            cases hb : Nat.ble n t with
            | true => rw [hb] at h; exact h.elim
            | false =>
              rw [hb] at h
              simp only [cond_false] at h
              have ha' := ha.cons t (.bool b) (by rw [hga]; simpa using hgb)
              refine .inl (evOp_sound hT h ha' fun v w' hk => ?_)
              obtain ⟨f', hf', hk'⟩ := pt_sound hk ha'
              exact evOps_sound hT l hk' hf' hQ
          · have hgb' : (g == b) = false := by simpa using hgb
            have hw : ¬ Region.wanted o (yielded ops a.tmps) = true := by
              simp only [Region.wanted, hg, hy]
              simpa using hgb
            rw [if_neg hw]
            have h := h.ff hgb'
            cases hb : Nat.ble n t with
            | true => rw [hb] at h; exact h.elim
            | false =>
              rw [hb] at h
              simp only [cond_false] at h
              have ha' := ha.cons t (.bool (!b)) (by rw [hga]; congr 1; revert hgb'; cases g <;> cases b <;> simp)
              obtain ⟨f', hf', hk'⟩ := pt_sound h ha'
              exact evOps_sound hT l hk' hf' hQ
        · rename_i vs
          have hw : ¬ Region.wanted o (yielded ops a.tmps) = true := by
            rw [wanted_tuple hg hj ht hga]
            simp
          unfold wpList
          rw [if_neg hw]
          obtain ⟨f', hf', hk'⟩ := pt_sound h ha
          exact evOps_sound hT l hk' hf' hQ
        · exact h.elim
      · exact h.elim
theorem wpE_sound (hT : TT.ok P T = true) : ∀ (c : Code) {f : Fr} {w : World} {Q : Exit → Fr → World → Prop} {a : Act}, wpE P T n c f w Q → Agr n f a → Code.wp P c (QA n Q) a w
  | .skip, f, w, Q, a, h, ha => wp_skip ⟨trivial, f, ha, h⟩
  | .region id ops d, f, w, Q, a, h, ha => by
    cases d with
    | false => exact wp_region_list (evOps_sound hT ops.toList h ha fun f' a' w' hk hf => ⟨trivial, f', hf, hk⟩)
    | true => exact CW.go h a ha
  | .seq x y, f, w, Q, a, h, ha => by
    rw [wpE_seq] at h
    cases hj : joins x with
    | true =>
      rw [hj] at h
      exact CW.go h a ha
    | false =>
      rw [hj] at h
      simp only [cond_false] at h
      refine wp_seq (wp_mono (wpE_sound hT x h ha) fun e a' w' ⟨np, f', hf, hq⟩ => ?_)
      cases e with
      | normal => exact wpE_sound hT y hq hf
      | _ => exact ⟨np, f', hf, hq⟩
  | .cond c x y, f, w, Q, a, h, ha => by
    have h : opd f c fun v => (match v with
      | .bool t => Br t (wpE P T n x f w Q) (wpE P T n y f w Q)
      | _ => False) := h
    have h := opd_sound h ha
    split at h
    · rename_i t hc
      cases t with
      | true => exact wp_cond_true hc (wpE_sound hT x (h.tt rfl) ha)
      | false => exact wp_cond_false hc (wpE_sound hT y (h.ff rfl) ha)
    · exact h.elim
  | .block id c, f, w, Q, a, h, ha => by
    have h : wpE P T n c f w fun e f w => (match e with
      | .exit i => cond (Nat.beq i id) (Q .normal f w) (Q (.exit i) f w)
      | e => Q e f w) := h
    refine wp_block (wp_mono (wpE_sound hT c h ha) fun e a' w' ⟨np, f', hf, hq⟩ => ?_)
    cases e with
    | exit i =>
      simp only [Exit.inBlock]
      by_cases hi : i = id
      · subst hi
        simp only [if_true]
        have hb : Nat.beq i i = true := Nat.beq_refl i
        simp only [hb] at hq
        exact ⟨trivial, f', hf, hq⟩
      · simp only [if_neg hi]
        have hb : Nat.beq i id = false := by
          cases hb : Nat.beq i id with
          | true => exact absurd (Nat.eq_of_beq_eq_true hb) hi
          | false => rfl
        simp only [hb] at hq
        exact ⟨trivial, f', hf, hq⟩
    | _ => exact ⟨np, f', hf, hq⟩
  | .loop c, f, w, Q, a, h, ha => CW.go h a ha
  | .rangeFunc .., f, w, Q, a, h, ha => h.elim
  | .exit id, f, w, Q, a, h, ha => wp_exit ⟨trivial, f, ha, h⟩
  | .scope c, f, w, Q, a, h, ha => h.elim
  | .label l, f, w, Q, a, h, ha => h.elim
  | .goto l, f, w, Q, a, h, ha => h.elim
  | .ret, f, w, Q, a, h, ha => wp_ret ⟨trivial, f, ha, h⟩
  | .refuse s, f, w, Q, a, h, ha => h.elim
/-- Some slots are known to hold certain values. -/
def sub : Fr → Fr → Prop
  | [], _ => True
  | (d, v) :: l, f => lk f d (fun u => u = v) ∧ sub l f
theorem sub_get {f : Fr} : ∀ {g : Fr}, sub g f → ∀ d v, fget g d = some v → fget f d = some v
  | [], _, _, _, h => by cases h
  | (i, u) :: l, hs, d, v, h => by
    unfold sub at hs
    unfold fget at h
    cases hb : Nat.beq i d with
    | true =>
      rw [hb] at h
      obtain rfl := Nat.eq_of_beq_eq_true hb
      injection h with h
      obtain ⟨u', h1, h2⟩ := lk_get hs.1
      rw [h1, h2, h]
    | false => rw [hb] at h; exact sub_get hs.2 d v h
/-- Code that comes to its end in one of a family of frames; its other exits are Q's. -/
def endIn {ι : Type} (I : ι → World → Prop) (sv : ι → Fr) (Q : Exit → Fr → World → Prop) : Exit → Fr → World → Prop
  | .normal, f, w => ∃ j, I j w ∧ sub (sv j) f
  | e, f, w => Q e f w
/-- A round of a loop. -/
def roundIn {ι : Type} (I : ι → World → Prop) (sv : ι → Fr) (μ : ι → Nat) (i : ι) (Q : Exit → Fr → World → Prop) : Exit → Fr → World → Prop
  | .normal, f, w => ∃ j, I j w ∧ sub (sv j) f ∧ μ j < μ i
  | e, f, w => Q e f w
theorem CW.of {c : Code} {f : Fr} {w : World} {Q : Exit → Fr → World → Prop} (hT : TT.ok P T = true) (h : wpE P T n c f w Q) : CW P n c Q f w := ⟨fun a ha => wpE_sound hT c h ha⟩
theorem CW.seq {x y : Code} {f : Fr} {w : World} {Q : Exit → Fr → World → Prop} (hT : TT.ok P T = true) (h : wpE P T n x f w fun e f w => (match e with
    | .normal => wpE P T n y f w Q
    | e => Q e f w)) : CW P n (.seq x y) Q f w := ⟨fun a ha => by
  refine wp_seq (wp_mono (wpE_sound hT x h ha) fun e a' w' ⟨np, f', hf, hq⟩ => ?_)
  cases e with
  | normal => exact wpE_sound hT y hq hf
  | _ => exact ⟨np, f', hf, hq⟩⟩
theorem CW.cut {ι : Type} (I : ι → World → Prop) (sv : ι → Fr) {x y : Code} {f : Fr} {w : World} {Q : Exit → Fr → World → Prop} (hT : TT.ok P T = true) (h : wpE P T n x f w (endIn I sv Q)) (h2 : ∀ i w, I i w → wpE P T n y (sv i) w Q) : CW P n (.seq x y) Q f w := ⟨fun a ha => by
  refine wp_seq (wp_mono (wpE_sound hT x h ha) fun e a' w' ⟨np, f', hf, hq⟩ => ?_)
  cases e with
  | normal =>
    obtain ⟨j, hj, hs⟩ := hq
    exact wpE_sound hT y (h2 j w' hj) (hf.forget (sub_get hs))
  | _ => exact ⟨np, f', hf, hq⟩⟩
theorem CW.loop {ι : Type} (I : ι → World → Prop) (sv : ι → Fr) (μ : ι → Nat) (i0 : ι) {c : Code} {f : Fr} {w : World} {Q : Exit → Fr → World → Prop} (hT : TT.ok P T = true) (h0 : I i0 w) (hs : sub (sv i0) f)
    (h : ∀ i w, I i w → wpE P T n c (sv i) w (roundIn I sv μ i Q)) : CW P n (.loop c) Q f w := ⟨fun a ha => by
  intro b k cs
  have key : ∀ m i a w, μ i = m → I i w → Agr n (sv i) a → ∃ e a' w', QA n Q e a' w' ∧ Arrives P (lone (b.at a (.code c :: .inLoop c :: k)) cs w) b k cs e a' w' := by
    intro m
    induction m using Nat.strongRecOn with
    | _ m ih =>
      intro i a w hm hI hag
      obtain ⟨e, a1, w1, ⟨np, f1, hf1, hq⟩, harr⟩ := wpE_sound hT c (h i w hI) hag b (.inLoop c :: k) cs
      cases e with
      | normal =>
        obtain ⟨j, hj, hsub, hlt⟩ := hq
        obtain ⟨e2, a2, w2, hq2, harr2⟩ := ih (μ j) (hm ▸ hlt) j a1 w1 rfl hj (hf1.forget (sub_get hsub))
        exact ⟨e2, a2, w2, hq2, .of_steps (Steps.trans harr (.one step_inLoop)) harr2⟩
      | exit id => exact ⟨_, a1, w1, ⟨np, f1, hf1, hq⟩, .pass (x := .inLoop c) rfl (fun _ _ => .inl (by simp)) harr⟩
      | goto l => exact ⟨_, a1, w1, ⟨np, f1, hf1, hq⟩, .pass (x := .inLoop c) rfl (fun _ _ => .inl (by simp)) harr⟩
      | ret => exact ⟨_, a1, w1, ⟨np, f1, hf1, hq⟩, .pass (x := .inLoop c) rfl (fun _ _ => .inl (by simp)) harr⟩
      | panic ch => exact ⟨_, a1, w1, ⟨np, f1, hf1, hq⟩, .pass (x := .inLoop c) rfl (fun _ _ => .inl (by simp)) harr⟩
      | outgrown => exact ⟨_, a1, w1, ⟨np, f1, hf1, hq⟩, .pass (x := .inLoop c) rfl (fun _ _ => .inl (by simp)) harr⟩
  obtain ⟨e, a', w', hq, harr⟩ := key _ i0 a w rfl h0 (ha.forget (sub_get hs))
  exact ⟨e, a', w', hq, .of_steps (.one step_loop) harr⟩⟩
/-- The frame in which a function begins. -/
def fr0 : Nat → List Value → Fr
  | _, [] => []
  | i, v :: l => (i, v) :: fr0 (i + 1) l
theorem fr0_get : ∀ (l : List Value) (i d : Nat) (v : Value), fget (fr0 i l) d = some v → i ≤ d ∧ l[d - i]? = some v
  | [], _, _, _, h => by cases h
  | x :: l, i, d, v, h => by
    unfold fr0 fget at h
    cases hb : Nat.beq i d with
    | true =>
      rw [hb] at h
      obtain rfl := Nat.eq_of_beq_eq_true hb
      injection h with h
      simp [h]
    | false =>
      rw [hb] at h
      obtain ⟨h1, h2⟩ := fr0_get l (i + 1) d v h
      refine ⟨by omega, ?_⟩
      rw [show d - i = (d - (i + 1)) + 1 from by omega]
      simpa using h2
def resE (P : Program) : List ResultVar → Fr → World → (List Value → World → Prop) → Prop
  | [], f, w, K => K [] w
  | .tmp t :: l, f, w, K => lk f t fun v => resE P l f w fun vs w' => K (v :: vs) w'
  | .cell a t :: l, f, w, K => lk f a fun v => (match v with | .pointer (some b) => Ru P (loadVar t b) w fun v w' => resE P l f w' fun vs w' => K (v :: vs) w' | _ => False)
def oneOf : List Value → Value
  | [v] => v
  | l => .tuple l.toArray
theorem resE_sound {f : Fr} {a : Act} (ha : Agr n f a) {g : ResultVar → Sem Value} (hg1 : ∀ t, g (.tmp t) = pure (a.tmps.getD t undef)) (hg2 : ∀ b t, g (.cell b t) = do loadVar t (← asAddr (a.tmps.getD b undef))) :
    ∀ {l : List ResultVar} {w : World} {K : List Value → World → Prop}, resE P l f w K → ∃ vs w', (l.mapM g).run P w = .ok vs w' ∧ K vs w'
  | [], w, K, h => ⟨[], w, rfl, h⟩
  | .tmp t :: l, w, K, h => by
    obtain ⟨v, hv, h⟩ := lk_get h
    obtain ⟨vs, w', h1, h2⟩ := resE_sound ha hg1 hg2 h
    refine ⟨v :: vs, w', ?_, h2⟩
    simp only [List.mapM_cons, Sem.run_bind, Sem.run_pure, Result.andThen_ok, hg1, ha.get t v hv, h1]
  | .cell b t :: l, w, K, h => by
    obtain ⟨v, hv, h⟩ := lk_get h
    split at h
    · rename_i ad
      obtain ⟨v, w1, h1, h⟩ := h.ex
      obtain ⟨vs, w', h2, h3⟩ := resE_sound ha hg1 hg2 h
      refine ⟨v :: vs, w', ?_, h3⟩
      have h5 : (asAddr (.pointer (some ad))).run P w = .ok ad w := rfl
      simp only [List.mapM_cons, Sem.run_bind, Sem.run_pure, Result.andThen_ok, hg2, ha.get b _ hv, h5, h1, h2]
    · exact h.elim
/-- A function is met: its code, its parameters, its results. -/
theorem spec_of_wpE {fid : FuncId} {fn : Func} {c : Code} {args : List Value} {w : World} {Φ : Value → World → Prop} (hT : TT.ok P T = true) (hf : P.funcs[fid]? = some fn) (hb : fn.body = some c) (hnm : (fn.name == "runtime.NumGoroutine") = false) (hn : fn.ntmps = n) (ha : args.length ≤ n)
    (h : wpE P T n c (fr0 0 args) w fun e f w => (match e with
      | .normal => resE P fn.results.toList f w fun vs w' => w' = w ∧ Φ (oneOf vs) w'
      | .ret => resE P fn.results.toList f w fun vs w' => w' = w ∧ Φ (oneOf vs) w'
      | _ => False)) : Spec P fid args.toArray w Φ := by
  refine ⟨by simp [fnOk, hf, hb, hnm], ?_⟩
  refine calls_of_wp hf hb ?_
  have hagr : Agr n (fr0 0 args) { tmps := args.toArray ++ Array.replicate (fn.ntmps - args.toArray.size) undef, defers := [] } := by
    refine ⟨by simp [hn]; omega, rfl, fun d v hd => ?_⟩
    obtain ⟨_, h1⟩ := fr0_get args 0 d v hd
    simp only [Nat.sub_zero] at h1
    rw [Array.getD_eq_getD_getElem?, Array.getElem?_append_left (by simpa using (List.getElem?_eq_some_iff.1 h1).1)]
    simp [h1]
  have key : ∀ (f : Fr) (a : Act) (w : World), Agr n f a → (resE P fn.results.toList f w fun vs w' => w' = w ∧ Φ (oneOf vs) w') → a.defers = [] ∧ ∃ v, (results fn a.tmps).run P w = .ok v w ∧ ∃ u, Ending.returned v = .returned u ∧ Φ u w := by
    intro f a w hag hr
    obtain ⟨vs, w', h1, rfl, h2⟩ := resE_sound hag (g := fun x => match x with | .tmp t => pure (a.tmps.getD t undef) | .cell b t => do loadVar t (← asAddr (a.tmps.getD b undef))) (fun _ => rfl) (fun _ _ => rfl) hr
    refine ⟨hag.defers, oneOf vs, ?_, _, rfl, h2⟩
    have e : results fn a.tmps = (do
      let vs ← fn.results.mapM (fun x => match x with | .tmp t => pure (a.tmps.getD t undef) | .cell b t => do loadVar t (← asAddr (a.tmps.getD b undef)) : ResultVar → Sem Value)
      pure (if h : vs.size = 1 then vs[0] else .tuple vs)) := rfl
    rw [e, Array.mapM_eq_mapM_toList]
    simp only [map_eq_pure_bind, Sem.run_bind, Sem.run_pure]
    rw [h1]
    simp only [Result.andThen_ok]
    cases vs with
    | nil => simp [oneOf]
    | cons v vs => cases vs with
      | nil => simp [oneOf]
      | cons u vs => simp [oneOf]
  refine wp_mono (wpE_sound hT c h hagr) fun e a w' ⟨np, f, hag, hq⟩ => ?_
  cases e with
  | normal => exact key f a w' hag hq
  | ret => exact key f a w' hag hq
  | _ => exact hq.elim
end sound
end Go.Proofs.Ytmffeofgcnabiaa
