/- The stepper for regions that draw their order and whose operations leave the world in a class of worlds: one walk of the text's order serves. -/
import Derived.Test.YtmffeofgcnabiaaE
import Derived.BigQuiet
namespace Go.Proofs.Ytmffeofgcnabiaa
set_option linter.unusedVariables false
set_option linter.unusedSimpArgs false
structure RuQ (P : Program) (C : World → Prop) (s : Sem Value) (K : Value → Prop) : Prop where
  ex : ∃ v, (∀ w, C w → s.run P w = .ok v w) ∧ K v
structure LdQ (C : World → Prop) (a : Addr) (K : Value → Prop) : Prop where
  ex : ∃ v, (∀ w, C w → w.cell? a = some v) ∧ K v
structure CaQ (P : Program) (C : World → Prop) (f : FuncId) (args : Array Value) (K : Value → Prop) : Prop where
  ex : ∃ v, (∀ w, C w → Spec P f args w fun u w' => u = v ∧ C w') ∧ (∃ w, C w) ∧ K v
structure BuQ (P : Program) (C : World → Prop) (b : Builtin) (argTypes : Array TypeId) (type : TypeId) (consts : Array Bool) (args : Array Value) (K : Value → Prop) : Prop where
  ex : ∃ v, (∀ w, C w → (builtin b argTypes type consts args).run P w = .ok (.value v) w) ∧ K v
def binQ (P : Program) (C : World → Prop) (op : BinOp) (xt : TypeId) (x y : Operand) (vx vy : Value) (K : Value → Prop) : Prop :=
  match vx, vy with
  | .int k a, .int k' b => (match op with
    | .add => cond (Nat.beq (ik k') (ik k)) (Ar k (a + b) fun v => K v) False
    | .sub => cond (Nat.beq (ik k') (ik k)) (Ar k (a - b) fun v => K v) False
    | .mul => cond (Nat.beq (ik k') (ik k)) (Ar k (a * b) fun v => K v) False
    | .quo => cond (Nat.beq (ik k') (ik k)) (Dv .quo k a b fun v => K v) False
    | .rem => cond (Nat.beq (ik k') (ik k)) (Dv .rem k a b fun v => K v) False
    | .and => cond (Nat.beq (ik k') (ik k)) (K (.int k (bitv .and k a b))) False
    | .or => cond (Nat.beq (ik k') (ik k)) (K (.int k (bitv .or k a b))) False
    | .xor => cond (Nat.beq (ik k') (ik k)) (K (.int k (bitv .xor k a b))) False
    | .andNot => cond (Nat.beq (ik k') (ik k)) (K (.int k (bitv .andNot k a b))) False
    | .shl => Sh .shl k a b fun v => K v
    | .shr => Sh .shr k a b fun v => K v
    | .eql => cond (Nat.beq (ik k') (ik k)) (K (.bool (decide (a = b)))) False
    | .neq => cond (Nat.beq (ik k') (ik k)) (K (.bool (!decide (a = b)))) False
    | .lss => cond (Nat.beq (ik k') (ik k)) (K (.bool (decide (a < b)))) False
    | .leq => cond (Nat.beq (ik k') (ik k)) (K (.bool (decide (a ≤ b)))) False
    | .gtr => cond (Nat.beq (ik k') (ik k)) (K (.bool (decide (a > b)))) False
    | .geq => cond (Nat.beq (ik k') (ik k)) (K (.bool (decide (a ≥ b)))) False)
  | vx, vy => RuQ P C (do eqGuard op xt x y vx vy; binOp op xt vx vy) K

def evQ (P : Program) (T : TT) (C : World → Prop) (o : Oper) (f : Fr) (K : Value → Prop) : Prop :=
  match o.op with
  | .move x => opd f x fun v => K v
  | .assign x => opd f x fun v => K v
  | .pick c a b => opd f c fun vc => opd f a fun va => opd f b fun vb => (match vc with | .bool t => Pk t va vb fun v => K v | _ => False)
  | .binOp op xt x y _ => opd f x fun vx => opd f y fun vy => tlk T xt fun d => (match d with
    | .int _ => binQ P C op xt x y vx vy K
    | _ => RuQ P C (do eqGuard op xt x y vx vy; binOp op xt vx vy) K)
  | .unOp op _ x => opd f x fun vx => (match op, vx with
    | .not, .bool b => K (.bool (!b))
    | .neg, .int k n => Ar k (0 - n) fun v => K v
    | op, vx => RuQ P C (Op.unary op vx) K)
  | .convert src dst x => opd f x fun vx => tlk T src fun _ => tlk T dst fun d => (match d, vx with
    | .int k, .int _ n => Ar k n fun v => K v
    | _, vx => RuQ P C (convert src dst vx) K)
  | .makeInterface t x => opd f x fun vx => tlk T t fun d => (match d with | .ifc => False | _ => K (.iface t vx))
  | .extract x i => opd f x fun vx => (match vx with | .tuple vs => lnth vs.toList i fun v => K v | _ => False)
  | .nilCheck x => opd f x fun vx => (match vx with | .pointer (some a) => K (.pointer (some a)) | _ => False)
  | .fieldAddr s x i => opd f x fun vx => tlk T s fun d => (match d, vx with
    | .st offs, .pointer (some ⟨g, o, none⟩) => lnth offs i fun m => (match m with | some n => K (.pointer (some ⟨g, o + n, none⟩)) | none => False)
    | _, _ => False)
  | .indexAddr t x i => opd f x fun vx => opd f i fun vi => tlk T t fun d => (match d, vx, vi with
    | .arr len _ sz, .pointer (some ⟨g, o, none⟩), .int _ i => Ix i len fun k => muls k sz fun m => K (.pointer (some ⟨g, o + m, none⟩))
    | .sl _ sz, .slice (some ⟨g, o, none⟩) len _, .int _ i => Ix i len fun k => muls k sz fun m => K (.pointer (some ⟨g, o + m, none⟩))
    | _, _, _ => False)
  | .index t x i => opd f x fun vx => opd f i fun vi => RuQ P C (Instr.index t vx vi) K
  | .field t x i => opd f x fun vx => RuQ P C (Instr.field t vx i) K
  | .load t x => opd f x fun vx => tlk T t fun d => (match vx with | .pointer (some a) => cond d.cell (LdQ C a K) (RuQ P C (loadVar t a) K) | _ => False)
  | .build t parts => opdp f parts.toList fun l => RuQ P C (Instr.build t l.toArray) K
  | .slice t x lo hi mx => opd f x fun vx => opdo f lo fun vl => opdo f hi fun vh => opdo f mx fun vm => RuQ P C (Instr.sliceAt t vx vl vh vm) K
  | .makeFunc fn a b => opds f a.toList fun va => opds f b.toList fun vb => K (.func fn va.toArray vb.toArray)
  | .lookup t x i ok => opd f x fun vx => opd f i fun vi => RuQ P C (Instr.lookup t vx vi ok) K
  | .call c => (match c.callee with
    | .value g => opd f g fun vg => opds f c.args.toList fun vs => (match vg with
      | .func (.func fid) first cap => appl first.toList vs fun l1 => appl l1 cap.toList fun l2 => CaQ P C fid l2.toArray K
      | _ => False)
    | .builtin b => opds f c.args.toList fun vs => (match b, vs with
      | .len, [.slice A n m] => lnth c.argTypes.toList 0 fun t => tlk T t fun d => (match d with | .sl _ _ => K (.int .i64 (n : Int)) | _ => False)
      | .max, [.int k a, .int _ b] => K (.int k (max a b))
      | .min, [.int k a, .int _ b] => K (.int k (min a b))
      | b, vs => BuQ P C b c.argTypes o.type (c.args.map fun | .const _ => true | _ => false) vs.toArray K)
    | .invoke _ _ => False)
  | _ => False

def qOps (P : Program) (T : TT) (n : Nat) (C : World → Prop) (ops : List Oper) (l : List Oper) : Fr → (Fr → Prop) → Prop :=
  List.rec (motive := fun _ => Fr → (Fr → Prop) → Prop) (fun f K => K f) (fun o _ ih f K => (match o.guard with
    | none => evQ P T C o f fun v => pt n f o.dst v fun f' => ih f' K
    | some (j, b) => gdst ops j fun t => lk f t fun vg => (match vg with
      | .bool g => (match b with
        | true => Br g (cond (Nat.ble n t) False (evQ P T C o ((t, .bool true) :: f) fun v => pt n ((t, .bool true) :: f) o.dst v fun f' => ih f' K))
          (cond (Nat.ble n t) False (pt n ((t, .bool false) :: f) o.dst undef fun f' => ih f' K))
        | false => Br g (cond (Nat.ble n t) False (pt n ((t, .bool true) :: f) o.dst undef fun f' => ih f' K))
          (cond (Nat.ble n t) False (evQ P T C o ((t, .bool false) :: f) fun v => pt n ((t, .bool false) :: f) o.dst v fun f' => ih f' K)))
      | .tuple _ => pt n f o.dst undef fun f' => ih f' K
      | _ => False))) l
theorem qOps_cons (P : Program) (T : TT) (n : Nat) (C : World → Prop) (ops : List Oper) (o : Oper) (l : List Oper) (f : Fr) (K : Fr → Prop) : qOps P T n C ops (o :: l) f K = (match o.guard with
    | none => evQ P T C o f fun v => pt n f o.dst v fun f' => qOps P T n C ops l f' K
    | some (j, b) => gdst ops j fun t => lk f t fun vg => (match vg with
      | .bool g => (match b with
        | true => Br g (cond (Nat.ble n t) False (evQ P T C o ((t, .bool true) :: f) fun v => pt n ((t, .bool true) :: f) o.dst v fun f' => qOps P T n C ops l f' K))
          (cond (Nat.ble n t) False (pt n ((t, .bool false) :: f) o.dst undef fun f' => qOps P T n C ops l f' K))
        | false => Br g (cond (Nat.ble n t) False (pt n ((t, .bool true) :: f) o.dst undef fun f' => qOps P T n C ops l f' K))
          (cond (Nat.ble n t) False (evQ P T C o ((t, .bool false) :: f) fun v => pt n ((t, .bool false) :: f) o.dst v fun f' => qOps P T n C ops l f' K)))
      | .tuple _ => pt n f o.dst undef fun f' => qOps P T n C ops l f' K
      | _ => False)) := rfl
section sound
variable {P : Program} {T : TT} {n : Nat}
theorem binQ_sound {C : World → Prop} {op : BinOp} {xt : TypeId} {x y : Operand} {vx vy : Value} {K : Value → Prop} (h : binQ P C op xt x y vx vy K) :
    ∃ v, (∀ w, C w → (do eqGuard op xt x y vx vy; binOp op xt vx vy : Sem Value).run P w = .ok v w) ∧ K v := by
  unfold binQ at h
  split at h
  · rename_i k a k' b
    simp only [Sem.run_bind, guard_int, Result.andThen_ok]
    cases op <;> simp only at h
    case add => obtain ⟨e, g⟩ := cond_ik h; subst e; exact ⟨_, fun w _ => by simp [binOp, Op.intArith], g.go⟩
    case sub => obtain ⟨e, g⟩ := cond_ik h; subst e; exact ⟨_, fun w _ => by simp [binOp, Op.intArith], g.go⟩
    case mul => obtain ⟨e, g⟩ := cond_ik h; subst e; exact ⟨_, fun w _ => by simp [binOp, Op.intArith], g.go⟩
    case quo => obtain ⟨e, g⟩ := cond_ik h; subst e; exact ⟨_, fun w _ => by simp [binOp, Op.intDiv, g.ne], g.go⟩
    case rem => obtain ⟨e, g⟩ := cond_ik h; subst e; exact ⟨_, fun w _ => by simp [binOp, Op.intDiv, g.ne], g.go⟩
    case and => obtain ⟨e, g⟩ := cond_ik h; subst e; exact ⟨_, fun w _ => by simp [binOp, Op.intBits, bitv], g⟩
    case or => obtain ⟨e, g⟩ := cond_ik h; subst e; exact ⟨_, fun w _ => by simp [binOp, Op.intBits, bitv], g⟩
    case xor => obtain ⟨e, g⟩ := cond_ik h; subst e; exact ⟨_, fun w _ => by simp [binOp, Op.intBits, bitv], g⟩
    case andNot => obtain ⟨e, g⟩ := cond_ik h; subst e; exact ⟨_, fun w _ => by simp [binOp, Op.intBits, bitv], g⟩
    case shl => exact ⟨_, fun w _ => by have := h.nn; simp [binOp, Op.shift, Int.not_lt.2 this], h.go⟩
    case shr => exact ⟨_, fun w _ => by have := h.nn; simp [binOp, Op.shift, Int.not_lt.2 this], h.go⟩
    case eql => obtain ⟨e, g⟩ := cond_ik h; subst e; exact ⟨_, fun w _ => by simp [binOp, Op.intCmp]; rfl, g⟩
    case neq => obtain ⟨e, g⟩ := cond_ik h; subst e; exact ⟨_, fun w _ => by simp [binOp, Op.intCmp]; rfl, g⟩
    case lss => obtain ⟨e, g⟩ := cond_ik h; subst e; exact ⟨_, fun w _ => by simp [binOp, Op.intCmp], g⟩
    case leq => obtain ⟨e, g⟩ := cond_ik h; subst e; exact ⟨_, fun w _ => by simp [binOp, Op.intCmp], g⟩
    case gtr => obtain ⟨e, g⟩ := cond_ik h; subst e; exact ⟨_, fun w _ => by simp [binOp, Op.intCmp], g⟩
    case geq => obtain ⟨e, g⟩ := cond_ik h; subst e; exact ⟨_, fun w _ => by simp [binOp, Op.intCmp], g⟩
  · exact h.ex
theorem quiet_of_run {C : World → Prop} {o : Oper} {a : Act} {N : Act → Prop} {v : Value} (h : ∀ w, C w → (execOp a.eval o).run P w = .ok (.value v) w) (hn : N (a.put o.dst v)) : o.quiet P a C N := ⟨v, fun w hw => by
  unfold Oper.quietAt
  rw [h w hw]
  exact ⟨rfl, rfl⟩, hn⟩
theorem evQ_sound (hT : TT.ok P T = true) {C : World → Prop} {o : Oper} {f : Fr} {K : Value → Prop} (h : evQ P T C o f K) {a : Act} (ha : Agr n f a) {N : Act → Prop}
    (hn : ∀ v, K v → N (a.put o.dst v)) : o.quiet P a C N := by
  unfold evQ at h
  split at h
  case h_1 x ho => exact quiet_of_run (fun w hw => by simp [execOp, ho]) (hn _ (opd_sound h ha))
  case h_2 x ho => exact quiet_of_run (fun w hw => by simp [execOp, ho]) (hn _ (opd_sound h ha))
  case h_3 c x y ho =>
    have h := opd_sound (opd_sound (opd_sound h ha) ha) ha
    split at h
    · rename_i t hc
      exact quiet_of_run (fun w hw => by simp [execOp, ho, hc, asBool]) (hn _ h.go)
    · exact h.elim
  case h_4 op xt x y yt ho =>
    obtain ⟨d, hd, h⟩ := tlk_get hT (opd_sound (opd_sound h ha) ha)
    obtain ⟨v, h1, h2⟩ : ∃ v, (∀ w, C w → (do eqGuard op xt x y (a.eval x) (a.eval y); binOp op xt (a.eval x) (a.eval y) : Sem Value).run P w = .ok v w) ∧ K v := by
      split at h
      · exact binQ_sound h
      · exact h.ex
    exact quiet_of_run (fun w hw => by simp only [execOp, ho, Sem.run_bind]; have h1 := h1 w hw; rw [Sem.run_bind] at h1; rw [h1]; rfl) (hn _ h2)
  case h_5 op xt x ho =>
    have h := opd_sound h ha
    split at h
    · rename_i b hx _
      exact quiet_of_run (fun w hw => by simp [execOp, ho, hx, Op.unary]) (hn _ h)
    · rename_i k m hx _
      exact quiet_of_run (fun w hw => by simp [execOp, ho, hx, Op.unary, Op.intArith]) (hn _ h.go)
    · obtain ⟨v, h1, h2⟩ := h.ex
      exact quiet_of_run (fun w hw => by simp only [execOp, ho, Sem.run_bind, h1 w hw]; rfl) (hn _ h2)
  case h_6 src dst x ho =>
    obtain ⟨ds, hs, h⟩ := tlk_get hT (opd_sound h ha)
    obtain ⟨d, hd, h⟩ := tlk_get hT h
    obtain ⟨us, hus⟩ := und_of_ok hs
    split at h
    · rename_i k k' m hx
      have hu := int_of_ok hd
      exact quiet_of_run (fun w hw => by simp [execOp, ho, hx, convert, run_underlying hus, run_underlying hu, Conv.intToInt]) (hn _ h.go)
    · obtain ⟨v, h1, h2⟩ := h.ex
      exact quiet_of_run (fun w hw => by simp only [execOp, ho, Sem.run_bind, h1 w hw]; rfl) (hn _ h2)
  case h_7 t x ho =>
    obtain ⟨d, hd, h⟩ := tlk_get hT (opd_sound h ha)
    split at h
    · exact h.elim
    · rename_i hni
      obtain ⟨u, hu, hu2⟩ := ifc_of_ok hd (fun e => hni e)
      refine quiet_of_run (v := .iface t (a.eval x)) (fun w hw => ?_) (hn _ h)
      simp only [execOp, ho, Sem.run_bind, Instr.makeInterface, run_underlying hu, Result.andThen_ok]
      cases u <;> first | rfl | exact absurd rfl (hu2 _)
  case h_8 x i ho =>
    have h := opd_sound h ha
    split at h
    · rename_i vs hx
      obtain ⟨v, hv, h⟩ := lnth_get h
      have hv' : vs[i]? = some v := by simpa using hv
      exact quiet_of_run (fun w hw => by simp [execOp, ho, hx, Instr.extract, hv']) (hn _ h)
    · exact h.elim
  case h_9 x ho =>
    have h := opd_sound h ha
    split at h
    · rename_i b hx
      exact quiet_of_run (fun w hw => by simp [execOp, ho, hx]) (hn _ h)
    · exact h.elim
  case h_10 s x i ho =>
    obtain ⟨d, hd, h⟩ := tlk_get hT (opd_sound h ha)
    split at h
    · rename_i offs g o2 hx
      obtain ⟨m, hm, h⟩ := lnth_get h
      split at h
      · exact quiet_of_run (fun w hw => by simp only [execOp, ho, Sem.run_bind, hx, fieldAt_run hd i _ g o2 hm w]; rfl) (hn _ h)
      · exact h.elim
    · exact h.elim
  case h_11 t x i ho =>
    obtain ⟨d, hd, h⟩ := tlk_get hT (opd_sound (opd_sound h ha) ha)
    split at h
    · rename_i len e sz g o2 kk i2 hx hi
      obtain ⟨k, rfl, hk, h⟩ := h.ex
      have h := muls_out h
      exact quiet_of_run (fun w hw => by simp only [execOp, ho, Sem.run_bind, hx, hi, indexAt_arr hd g o2 k kk hk w]; rfl) (hn _ h)
    · rename_i e sz g o2 len cap kk i2 hx hi
      obtain ⟨k, rfl, hk, h⟩ := h.ex
      have h := muls_out h
      exact quiet_of_run (fun w hw => by simp only [execOp, ho, Sem.run_bind, hx, hi, indexAt_sl hd g o2 k len cap kk hk w]; rfl) (hn _ h)
    · exact h.elim
  case h_12 t x i ho =>
    obtain ⟨v, h1, h2⟩ := (opd_sound (opd_sound h ha) ha).ex
    exact quiet_of_run (fun w hw => by simp only [execOp, ho, Sem.run_bind, h1 w hw]; rfl) (hn _ h2)
  case h_13 t x i ho =>
    obtain ⟨v, h1, h2⟩ := (opd_sound h ha).ex
    exact quiet_of_run (fun w hw => by simp only [execOp, ho, Sem.run_bind, h1 w hw]; rfl) (hn _ h2)
  case h_14 t x ho =>
    obtain ⟨d, hd, h⟩ := tlk_get hT (opd_sound h ha)
    split at h
    · rename_i b hx
      obtain ⟨v, h1, h2⟩ : ∃ v, (∀ w, C w → (loadVar t b).run P w = .ok v w) ∧ K v := by
        cases hc : d.cell with
        | false => rw [hc] at h; exact h.ex
        | true =>
          rw [hc] at h
          obtain ⟨v, h1, h2⟩ := LdQ.ex h
          exact ⟨v, fun w hw => load_run (cell_ok hd hc) (h1 w hw), h2⟩
      exact quiet_of_run (fun w hw => by simp only [execOp, ho, Sem.run_bind, hx, Instr.loadAt, Instr.sureAddr, Sem.run_pure, Result.andThen_ok, h1 w hw]) (hn _ h2)
    · exact h.elim
  case h_15 t ps ho =>
    obtain ⟨v, h1, h2⟩ := (opdp_sound ha h).ex
    have e : (ps.map fun x => (x.1, a.eval x.2)) = (ps.toList.map fun p => (p.1, a.eval p.2)).toArray := (map_arr _ _).symm
    exact quiet_of_run (fun w hw => by simp only [execOp, ho, Sem.run_bind]; rw [e, h1 w hw]; rfl) (hn _ h2)
  case h_16 t x lo hi mx ho =>
    obtain ⟨v, h1, h2⟩ := (opdo_sound ha (opdo_sound ha (opdo_sound ha (opd_sound h ha)))).ex
    exact quiet_of_run (fun w hw => by simp only [execOp, ho, Sem.run_bind, h1 w hw]; rfl) (hn _ h2)
  case h_17 fn x y ho =>
    have h := opds_sound ha (opds_sound ha h)
    exact quiet_of_run (fun w hw => by simp only [execOp, ho, Instr.makeFunc, map_arr]; rfl) (hn _ h)
  case h_18 t x i ok ho =>
    obtain ⟨v, h1, h2⟩ := (opd_sound (opd_sound h ha) ha).ex
    exact quiet_of_run (fun w hw => by simp only [execOp, ho, Sem.run_bind, h1 w hw]; rfl) (hn _ h2)
  case h_19 c ho =>
    split at h
    · rename_i g hc
      have h := opds_sound ha (opd_sound h ha)
      split at h
      · rename_i fid first cap hg
        obtain ⟨v, h1, ⟨w0, hw0⟩, h2⟩ := (appl_out (appl_out h)).ex
        have hf := (h1 w0 hw0).1
        have e : (first.toList ++ c.args.toList.map a.eval ++ cap.toList).toArray = first ++ c.args.map a.eval ++ cap := by
          rw [← map_arr]
          apply Array.ext'
          simp
        rw [e] at h1
        refine ⟨v, fun w hw => ?_, hn _ h2⟩
        unfold Oper.quietAt
        have hx : (execOp a.eval o).run P w = .ok (.enter fid (first ++ c.args.map a.eval ++ cap)) w := by
          simp only [execOp, ho, resolve, hc, hg, Deferred.ofValue, Sem.run_bind, Sem.run_pure, Result.andThen_ok, invoke, callFunc_run hf]
        rw [hx]
        exact ⟨rfl, (h1 w hw).2.mono fun e w' ⟨u, he, hk, hc⟩ => ⟨by rw [he, hk], hc⟩⟩
      · exact h.elim
    · rename_i b hc
      have h := opds_sound ha h
      have e : (c.args.toList.map a.eval).toArray = c.args.map a.eval := map_arr _ _
      split at h
      · rename_i A l m hvs _
        obtain ⟨t, ht, h⟩ := lnth_get h
        obtain ⟨d, hd, h⟩ := tlk_get hT h
        split at h
        · rename_i el sz
          have hargs : c.args.map a.eval = #[.slice A l m] := by rw [← e, hvs]
          have ht : c.argTypes[0]? = some t := by simpa using ht
          refine quiet_of_run (fun w hw => ?_) (hn _ h)
          simp only [execOp, ho, resolve, hc, hargs, Sem.run_bind, Sem.run_pure, Result.andThen_ok, invoke, builtin, len_run hd _ ht]
        · exact h.elim
      · rename_i k a2 k2 b2 hvs _
        have hargs : c.args.map a.eval = #[.int k a2, .int k2 b2] := by rw [← e, hvs]
        refine quiet_of_run (fun w hw => by simp only [execOp, ho, resolve, hc, hargs, Sem.run_bind, Sem.run_pure, Result.andThen_ok, invoke, builtin, max_run]) (hn _ h)
      · rename_i k a2 k2 b2 hvs _
        have hargs : c.args.map a.eval = #[.int k a2, .int k2 b2] := by rw [← e, hvs]
        refine quiet_of_run (fun w hw => by simp only [execOp, ho, resolve, hc, hargs, Sem.run_bind, Sem.run_pure, Result.andThen_ok, invoke, builtin, min_run]) (hn _ h)
      · obtain ⟨v, h1, h2⟩ := h.ex
        rw [e] at h1
        refine quiet_of_run (fun w hw => ?_) (hn _ h2)
        simp only [execOp, ho, resolve, hc, Sem.run_bind, Sem.run_pure, Result.andThen_ok, invoke]
        exact h1 w hw
    · exact h.elim
  case h_20 => exact h.elim
/-- An operation that calls no function. -/
def notCall : Op → Bool
  | .call c => (match c.callee with | .builtin _ => true | _ => false)
  | _ => true
theorem run_mk {C : World → Prop} {o : Oper} {a : Act} {K : Value → Prop} {v : Value} (h : ∀ w, C w → (execOp a.eval o).run P w = .ok (.value v) w) (hk : K v) : ∃ v, (∀ w, C w → (execOp a.eval o).run P w = .ok (.value v) w) ∧ K v := ⟨v, h, hk⟩
theorem evQ_run (hT : TT.ok P T = true) {C : World → Prop} {o : Oper} (hc0 : notCall o.op = true) {f : Fr} {K : Value → Prop} (h : evQ P T C o f K) {a : Act} (ha : Agr n f a) :
    ∃ v, (∀ w, C w → (execOp a.eval o).run P w = .ok (.value v) w) ∧ K v := by
  unfold evQ at h
  split at h
  case h_1 x ho => exact run_mk (fun w hw => by simp [execOp, ho]) (id (opd_sound h ha))
  case h_2 x ho => exact run_mk (fun w hw => by simp [execOp, ho]) (id (opd_sound h ha))
  case h_3 c x y ho =>
    have h := opd_sound (opd_sound (opd_sound h ha) ha) ha
    split at h
    · rename_i t hc
      exact run_mk (fun w hw => by simp [execOp, ho, hc, asBool]) (id h.go)
    · exact h.elim
  case h_4 op xt x y yt ho =>
    obtain ⟨d, hd, h⟩ := tlk_get hT (opd_sound (opd_sound h ha) ha)
    obtain ⟨v, h1, h2⟩ : ∃ v, (∀ w, C w → (do eqGuard op xt x y (a.eval x) (a.eval y); binOp op xt (a.eval x) (a.eval y) : Sem Value).run P w = .ok v w) ∧ K v := by
      split at h
      · exact binQ_sound h
      · exact h.ex
    exact run_mk (fun w hw => by simp only [execOp, ho, Sem.run_bind]; have h1 := h1 w hw; rw [Sem.run_bind] at h1; rw [h1]; rfl) (id h2)
  case h_5 op xt x ho =>
    have h := opd_sound h ha
    split at h
    · rename_i b hx _
      exact run_mk (fun w hw => by simp [execOp, ho, hx, Op.unary]) (id h)
    · rename_i k m hx _
      exact run_mk (fun w hw => by simp [execOp, ho, hx, Op.unary, Op.intArith]) (id h.go)
    · obtain ⟨v, h1, h2⟩ := h.ex
      exact run_mk (fun w hw => by simp only [execOp, ho, Sem.run_bind, h1 w hw]; rfl) (id h2)
  case h_6 src dst x ho =>
    obtain ⟨ds, hs, h⟩ := tlk_get hT (opd_sound h ha)
    obtain ⟨d, hd, h⟩ := tlk_get hT h
    obtain ⟨us, hus⟩ := und_of_ok hs
    split at h
    · rename_i k k' m hx
      have hu := int_of_ok hd
      exact run_mk (fun w hw => by simp [execOp, ho, hx, convert, run_underlying hus, run_underlying hu, Conv.intToInt]) (id h.go)
    · obtain ⟨v, h1, h2⟩ := h.ex
      exact run_mk (fun w hw => by simp only [execOp, ho, Sem.run_bind, h1 w hw]; rfl) (id h2)
  case h_7 t x ho =>
    obtain ⟨d, hd, h⟩ := tlk_get hT (opd_sound h ha)
    split at h
    · exact h.elim
    · rename_i hni
      obtain ⟨u, hu, hu2⟩ := ifc_of_ok hd (fun e => hni e)
      refine run_mk (v := .iface t (a.eval x)) (fun w hw => ?_) (id h)
      simp only [execOp, ho, Sem.run_bind, Instr.makeInterface, run_underlying hu, Result.andThen_ok]
      cases u <;> first | rfl | exact absurd rfl (hu2 _)
  case h_8 x i ho =>
    have h := opd_sound h ha
    split at h
    · rename_i vs hx
      obtain ⟨v, hv, h⟩ := lnth_get h
      have hv' : vs[i]? = some v := by simpa using hv
      exact run_mk (fun w hw => by simp [execOp, ho, hx, Instr.extract, hv']) (id h)
    · exact h.elim
  case h_9 x ho =>
    have h := opd_sound h ha
    split at h
    · rename_i b hx
      exact run_mk (fun w hw => by simp [execOp, ho, hx]) (id h)
    · exact h.elim
  case h_10 s x i ho =>
    obtain ⟨d, hd, h⟩ := tlk_get hT (opd_sound h ha)
    split at h
    · rename_i offs g o2 hx
      obtain ⟨m, hm, h⟩ := lnth_get h
      split at h
      · exact run_mk (fun w hw => by simp only [execOp, ho, Sem.run_bind, hx, fieldAt_run hd i _ g o2 hm w]; rfl) (id h)
      · exact h.elim
    · exact h.elim
  case h_11 t x i ho =>
    obtain ⟨d, hd, h⟩ := tlk_get hT (opd_sound (opd_sound h ha) ha)
    split at h
    · rename_i len e sz g o2 kk i2 hx hi
      obtain ⟨k, rfl, hk, h⟩ := h.ex
      have h := muls_out h
      exact run_mk (fun w hw => by simp only [execOp, ho, Sem.run_bind, hx, hi, indexAt_arr hd g o2 k kk hk w]; rfl) (id h)
    · rename_i e sz g o2 len cap kk i2 hx hi
      obtain ⟨k, rfl, hk, h⟩ := h.ex
      have h := muls_out h
      exact run_mk (fun w hw => by simp only [execOp, ho, Sem.run_bind, hx, hi, indexAt_sl hd g o2 k len cap kk hk w]; rfl) (id h)
    · exact h.elim
  case h_12 t x i ho =>
    obtain ⟨v, h1, h2⟩ := (opd_sound (opd_sound h ha) ha).ex
    exact run_mk (fun w hw => by simp only [execOp, ho, Sem.run_bind, h1 w hw]; rfl) (id h2)
  case h_13 t x i ho =>
    obtain ⟨v, h1, h2⟩ := (opd_sound h ha).ex
    exact run_mk (fun w hw => by simp only [execOp, ho, Sem.run_bind, h1 w hw]; rfl) (id h2)
  case h_14 t x ho =>
    obtain ⟨d, hd, h⟩ := tlk_get hT (opd_sound h ha)
    split at h
    · rename_i b hx
      obtain ⟨v, h1, h2⟩ : ∃ v, (∀ w, C w → (loadVar t b).run P w = .ok v w) ∧ K v := by
        cases hc : d.cell with
        | false => rw [hc] at h; exact h.ex
        | true =>
          rw [hc] at h
          obtain ⟨v, h1, h2⟩ := LdQ.ex h
          exact ⟨v, fun w hw => load_run (cell_ok hd hc) (h1 w hw), h2⟩
      exact run_mk (fun w hw => by simp only [execOp, ho, Sem.run_bind, hx, Instr.loadAt, Instr.sureAddr, Sem.run_pure, Result.andThen_ok, h1 w hw]) (id h2)
    · exact h.elim
  case h_15 t ps ho =>
    obtain ⟨v, h1, h2⟩ := (opdp_sound ha h).ex
    have e : (ps.map fun x => (x.1, a.eval x.2)) = (ps.toList.map fun p => (p.1, a.eval p.2)).toArray := (map_arr _ _).symm
    exact run_mk (fun w hw => by simp only [execOp, ho, Sem.run_bind]; rw [e, h1 w hw]; rfl) (id h2)
  case h_16 t x lo hi mx ho =>
    obtain ⟨v, h1, h2⟩ := (opdo_sound ha (opdo_sound ha (opdo_sound ha (opd_sound h ha)))).ex
    exact run_mk (fun w hw => by simp only [execOp, ho, Sem.run_bind, h1 w hw]; rfl) (id h2)
  case h_17 fn x y ho =>
    have h := opds_sound ha (opds_sound ha h)
    exact run_mk (fun w hw => by simp only [execOp, ho, Instr.makeFunc, map_arr]; rfl) (id h)
  case h_18 t x i ok ho =>
    obtain ⟨v, h1, h2⟩ := (opd_sound (opd_sound h ha) ha).ex
    exact run_mk (fun w hw => by simp only [execOp, ho, Sem.run_bind, h1 w hw]; rfl) (id h2)
  case h_19 c ho =>
    split at h
    · rename_i g hc
      have h := opds_sound ha (opd_sound h ha)
      split at h
      · rename_i fid first cap hg
        simp [notCall, ho, hc] at hc0
      · exact h.elim
    · rename_i b hc
      have h := opds_sound ha h
      have e : (c.args.toList.map a.eval).toArray = c.args.map a.eval := map_arr _ _
      split at h
      · rename_i A l m hvs _
        obtain ⟨t, ht, h⟩ := lnth_get h
        obtain ⟨d, hd, h⟩ := tlk_get hT h
        split at h
        · rename_i el sz
          have hargs : c.args.map a.eval = #[.slice A l m] := by rw [← e, hvs]
          have ht : c.argTypes[0]? = some t := by simpa using ht
          refine run_mk (fun w hw => ?_) (id h)
          simp only [execOp, ho, resolve, hc, hargs, Sem.run_bind, Sem.run_pure, Result.andThen_ok, invoke, builtin, len_run hd _ ht]
        · exact h.elim
      · rename_i k a2 k2 b2 hvs _
        have hargs : c.args.map a.eval = #[.int k a2, .int k2 b2] := by rw [← e, hvs]
        refine run_mk (fun w hw => by simp only [execOp, ho, resolve, hc, hargs, Sem.run_bind, Sem.run_pure, Result.andThen_ok, invoke, builtin, max_run]) (id h)
      · rename_i k a2 k2 b2 hvs _
        have hargs : c.args.map a.eval = #[.int k a2, .int k2 b2] := by rw [← e, hvs]
        refine run_mk (fun w hw => by simp only [execOp, ho, resolve, hc, hargs, Sem.run_bind, Sem.run_pure, Result.andThen_ok, invoke, builtin, min_run]) (id h)
      · obtain ⟨v, h1, h2⟩ := h.ex
        rw [e] at h1
        refine run_mk (fun w hw => ?_) (id h2)
        simp only [execOp, ho, resolve, hc, Sem.run_bind, Sem.run_pure, Result.andThen_ok, invoke]
        exact h1 w hw
    · exact h.elim
  case h_20 => exact h.elim
theorem qOps_sound (hT : TT.ok P T = true) {C : World → Prop} {ops : Array Oper} {Q : Act → Prop} : ∀ (l : List Oper) {f : Fr} {K : Fr → Prop} {a : Act}, qOps P T n C ops.toList l f K → Agr n f a →
    (∀ f' a', K f' → Agr n f' a' → Q a') → wpQuiet P ops C Q l a
  | [], f, K, a, h, ha, hQ => hQ _ _ h ha
  | o :: l, f, K, a, h, ha, hQ => by
    rw [qOps_cons] at h
    split at h
    · rename_i hg
      have hw : Region.wanted o (yielded ops a.tmps) = true := by simp [Region.wanted, hg]
      unfold wpQuiet
      rw [if_pos hw]
      refine evQ_sound hT h ha fun v hk => ?_
      obtain ⟨f', ha', hk'⟩ := pt_sound hk ha
      exact qOps_sound hT l hk' ha' hQ
    · rename_i j b hg
      obtain ⟨oj, hj, h⟩ := lnth_get h
      split at h
      · rename_i t ht
        obtain ⟨vg, hvg, h⟩ := lk_get h
        have hga := ha.get t vg hvg
        split at h
        · rename_i g
          have hy : yielded ops a.tmps j = some g := by
            have hj' : ops[j]? = some oj := by simpa using hj
            unfold yielded
            simp only [hj', Option.bind_some, ht, getD_some hga]
          unfold wpQuiet
          have h : Br (g == b) (cond (Nat.ble n t) False (evQ P T C o ((t, .bool b) :: f) fun v => pt n ((t, .bool b) :: f) o.dst v fun f' => qOps P T n C ops.toList l f' K))
              (cond (Nat.ble n t) False (pt n ((t, .bool (!b)) :: f) o.dst undef fun f' => qOps P T n C ops.toList l f' K)) := by
            cases b with
            | true => exact ⟨fun hb => Br.tt h (by simpa using hb), fun hb => Br.ff h (by simpa using hb)⟩
            | false => exact ⟨fun hb => Br.ff h (by simpa using hb), fun hb => Br.tt h (by simpa using hb)⟩
          by_cases hgb : (g == b) = true
          · have hw : Region.wanted o (yielded ops a.tmps) = true := by
              simp only [Region.wanted, hg, hy]
              simpa using hgb
            rw [if_pos hw]
            have h := h.tt hgb
            cases hb : Nat.ble n t with
            | true => rw [hb] at h; exact h.elim
            | false =>
              rw [hb] at h
              simp only [cond_false] at h
              have ha' := ha.cons t (.bool b) (by rw [hga]; simpa using hgb)
              refine evQ_sound hT h ha' fun v hk => ?_
              obtain ⟨f', hf', hk'⟩ := pt_sound hk ha'
              exact qOps_sound hT l hk' hf' hQ
          · have hgb' : (g == b) = false := by simpa using hgb
            have hw : ¬ Region.wanted o (yielded ops a.tmps) = true := by
              simp only [Region.wanted, hg, hy]
              simpa using hgb
            rw [if_neg hw]
            have h := h.ff hgb'
            cases hb : Nat.ble n t with
            | true => rw [hb] at h; exact h.elim
            | false =>
              rw [hb] at h
              simp only [cond_false] at h
              have ha' := ha.cons t (.bool (!b)) (by rw [hga]; congr 1; revert hgb'; cases g <;> cases b <;> simp)
              obtain ⟨f', hf', hk'⟩ := pt_sound h ha'
              exact qOps_sound hT l hk' hf' hQ
        · rename_i vs
          have hw : ¬ Region.wanted o (yielded ops a.tmps) = true := by
            rw [wanted_tuple hg hj ht hga]
            simp
          unfold wpQuiet
          rw [if_neg hw]
          obtain ⟨f', hf', hk'⟩ := pt_sound h ha
          exact qOps_sound hT l hk' hf' hQ
        · exact h.elim
      · exact h.elim
/-- A region that draws its order, of quiet operations. -/
theorem CW.quiet (C : World → Prop) {id : Nat} {l : List Oper} {f : Fr} {w : World} {Q : Exit → Fr → World → Prop} (hT : TT.ok P T = true) (hm : P.follows .mixedOrders = true) (hB : Region.lexB .any l.toArray = true) (hC : C { w with drawn := w.drawn + 1 })
    (h : qOps P T n C l l f fun f' => ∀ w', C w' → Q .normal f' w') : CW P n (.region id l.toArray true) Q f w := ⟨fun a ha => by
  refine wp_region_quiet (C := C) hm hB hC ?_
  exact qOps_sound hT (ops := l.toArray) l h ha fun f' a' hk hf w' hw' => ⟨trivial, f', hf, hk w' hw'⟩⟩
end sound
end Go.Proofs.Ytmffeofgcnabiaa
