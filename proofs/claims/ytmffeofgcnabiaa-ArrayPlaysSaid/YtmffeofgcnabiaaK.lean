/- What the stepper's stops are met with: bounds, cells, whole values, errors, append, copy. -/
import Derived.Test.YtmffeofgcnabiaaTT
import Derived.Test.YtmffeofgcnabiaaAgg
import Derived.Test.YtmffeofgcnabiaaCopy
import Derived.Test.YtmffeofgcnabiaaH
namespace Go.Proofs.Ytmffeofgcnabiaa
open Go.RowKit
set_option linter.unusedVariables false
theorem vi {k : IntKind} {a b : Int} (h : a = b) : Value.int k a = .int k b := by rw [h]
theorem vb {a b : Bool} (h : a = b) : Value.bool a = .bool b := by rw [h]
section
variable {A B : Prop}
theorem Br.yes {p : Prop} [Decidable p] (h : p) (k : A) : Br (decide p) A B := ⟨fun _ => k, fun e => by simp [h] at e⟩
theorem Br.no {p : Prop} [Decidable p] (h : ¬ p) (k : B) : Br (decide p) A B := ⟨fun e => by simp [h] at e, fun _ => k⟩
theorem Br.nyes {p : Prop} [Decidable p] (h : p) (k : B) : Br (!decide p) A B := ⟨fun e => by simp [h] at e, fun _ => k⟩
theorem Br.nno {p : Prop} [Decidable p] (h : ¬ p) (k : A) : Br (!decide p) A B := ⟨fun _ => k, fun e => by simp [h] at e⟩
theorem Br.t (k : A) : Br true A B := ⟨fun _ => k, fun e => (by cases e)⟩
theorem Br.f (k : B) : Br false A B := ⟨fun e => (by cases e), fun _ => k⟩
theorem Br.nt (k : B) : Br (!true) A B := ⟨fun e => (by cases e), fun _ => k⟩
theorem Br.nf (k : A) : Br (!false) A B := ⟨fun _ => k, fun e => by cases e⟩
theorem Br.is {b : Bool} (h : b = true) (k : A) : Br b A B := ⟨fun _ => k, fun e => by rw [h] at e; cases e⟩
theorem Br.isnt {b : Bool} (h : b = false) (k : B) : Br b A B := ⟨fun e => (by rw [h] at e; cases e), fun _ => k⟩
/-- Both ways, the test as a fact. -/
theorem Br.d {p : Prop} [Decidable p] (h : p → A) (k : ¬ p → B) : Br (decide p) A B := ⟨fun e => h (of_decide_eq_true e), fun e => k (of_decide_eq_false e)⟩
theorem Br.nd {p : Prop} [Decidable p] (h : ¬ p → A) (k : p → B) : Br (!decide p) A B := ⟨fun e => h (by simpa using e), fun e => k (by simpa using e)⟩
end
section
variable {K : Value → Prop} {x a b : Int}
theorem Ar.i64 (h1 : -9223372036854775808 ≤ x) (h2 : x ≤ 9223372036854775807) (h : K (.int .i64 x)) : Ar .i64 x K := ⟨by rw [IntWalk.i64_in x ⟨h1, h2⟩]; exact h⟩
theorem Ar.u8 (h1 : 0 ≤ x) (h2 : x ≤ 255) (h : K (.int .u8 x)) : Ar .u8 x K := ⟨by rw [show IntKind.u8.wrap x = x from by unfold IntKind.wrap; simp [IntKind.signed, IntKind.bits]; omega]; exact h⟩
theorem Ar.u8m (h : K (.int .u8 (x % 256))) : Ar .u8 x K := ⟨by rw [show IntKind.u8.wrap x = x % 256 from by unfold IntKind.wrap; simp [IntKind.signed, IntKind.bits]]; exact h⟩
theorem Ar.u64 (h1 : 0 ≤ x) (h2 : x ≤ 18446744073709551615) (h : K (.int .u64 x)) : Ar .u64 x K := ⟨by rw [show IntKind.u64.wrap x = x from by unfold IntKind.wrap; simp [IntKind.signed, IntKind.bits]; omega]; exact h⟩
theorem Ar.u64m (h : K (.int .u64 (x % 18446744073709551616))) : Ar .u64 x K := ⟨by rw [show IntKind.u64.wrap x = x % 18446744073709551616 from by unfold IntKind.wrap; simp [IntKind.signed, IntKind.bits]]; exact h⟩
theorem Dv.quo (h1 : 0 ≤ a) (h2 : 0 < b) (h3 : a ≤ 9223372036854775807) (h : K (.int .i64 (a / b))) : Dv .quo .i64 a b K := ⟨by omega, by
  have e : a.tdiv b = a / b := Int.tdiv_eq_ediv_of_nonneg h1
  have h4 : 0 ≤ a / b := Int.ediv_nonneg h1 (by omega)
  have h5 : a / b ≤ a := Int.ediv_le_self b h1
  simp only [e]
  rw [IntWalk.i64_in _ ⟨by omega, by omega⟩]
  exact h⟩
theorem Dv.rem (h1 : 0 ≤ a) (h2 : 0 < b) (h : K (.int .i64 (a % b))) : Dv .rem .i64 a b K := ⟨by omega, by
  have e : a.tmod b = a % b := Int.tmod_eq_emod_of_nonneg h1
  simp only [e]
  exact h⟩
theorem Pk.t {u v : Value} (h : K u) : Pk true u v K := ⟨h⟩
theorem Pk.f {u v : Value} (h : K v) : Pk false u v K := ⟨h⟩
theorem Pk.or {s t : Bool} (h : K (.bool (s || t))) : Pk s (.bool true) (.bool t) K := ⟨by cases s <;> exact h⟩
theorem Pk.and {s t : Bool} (h : K (.bool (s && t))) : Pk s (.bool t) (.bool false) K := ⟨by cases s <;> exact h⟩
end
section
variable {len : Nat} {K : Nat → Prop}
theorem Ix.nat {k : Nat} (h : k < len) (hk : K k) : Ix (k : Int) len K := ⟨k, rfl, h, hk⟩
theorem Ix.of {i : Int} (k : Nat) (e : i = (k : Int)) (h : k < len) (hk : K k) : Ix i len K := ⟨k, e, h, hk⟩
theorem Ix.int {i : Int} (h1 : 0 ≤ i) (h2 : i < len) (hk : K i.toNat) : Ix i len K := ⟨i.toNat, by omega, by omega, hk⟩
end
section
variable {P : Program} {w : World}
theorem Ca.of {f : FuncId} {args : Array Value} {K Φ : Value → World → Prop} (h : Spec P f args w Φ) (k : ∀ v w', Φ v w' → K v w') : Ca P f args w K := ⟨h.1, h.2.mono fun e w' ⟨v, he, hk⟩ => ⟨v, he, k v w' hk⟩⟩
theorem Spec.of_calls {f : FuncId} {args : Array Value} {V : Value} {Φ : World → Prop} (hf : fnOk P f = true) (h : Calls P f args w fun e w' => e = .returned V ∧ Φ w') : Spec P f args w fun v w' => v = V ∧ Φ w' := ⟨hf, h.mono fun e w' ⟨he, hk⟩ => ⟨V, he, rfl, hk⟩⟩
theorem Ca.args {f : FuncId} {args args' : Array Value} {K : Value → World → Prop} (e : args = args') (h : Ca P f args' w K) : Ca P f args w K := e ▸ h
theorem Ld.of {a : Addr} {v : Value} {K : Value → Prop} (h : w.cell? a = some v) (k : K v) : Ld w a K := ⟨v, h, k⟩
theorem Ld.row {g i : Nat} {t : TypeId} {n : Nat} {f : Nat → Value} {K : Value → Prop} (r : Row w g t n f) (hi : i < n) (k : K (f i)) : Ld w ⟨g, i, none⟩ K := ⟨_, r.cell i hi, k⟩
theorem Keep.set (g i : Nat) (v : Value) : Keep [g] w (w.setCell ⟨g, i, none⟩ v) := (Keep.refl [g] w).setCell _ _ (.inl (List.mem_singleton.2 rfl))
theorem Sd.row {g i : Nat} {t : TypeId} {n : Nat} {f : Nat → Value} {v : Value} {K : World → Prop} (r : Row w g t n f) (hi : i < n) (h1 : v.oneCell' = true) (k : ∀ w', Row w' g t n (put f i v) → Keep [g] w w' → K w') : Sd w ⟨g, i, none⟩ v K :=
  ⟨⟨_, r.cell i hi⟩, r.free i, h1, k _ (r.set i v) (Keep.set g i v)⟩
theorem Ld.at {g i j : Nat} {v : Value} {K : Value → Prop} (e : i = j) (h : w.cell? ⟨g, j, none⟩ = some v) (k : K v) : Ld w ⟨g, i, none⟩ K := ⟨v, e ▸ h, k⟩
theorem Ld.rowAt {g i : Nat} {t : TypeId} {n : Nat} {f : Nat → Value} {K : Value → Prop} (r : Row w g t n f) (j : Nat) (e : i = j) (hi : j < n) (k : K (f j)) : Ld w ⟨g, i, none⟩ K := ⟨_, e ▸ r.cell j hi, k⟩
theorem Sd.rowAt {g i : Nat} {t : TypeId} {n : Nat} {f : Nat → Value} {v : Value} {K : World → Prop} (r : Row w g t n f) (j : Nat) (e : i = j) (hi : j < n) (h1 : v.oneCell' = true) (k : ∀ w', Row w' g t n (put f j v) → Keep [g] w w' → K w') : Sd w ⟨g, i, none⟩ v K := by
  subst e
  exact Sd.row r hi h1 k
theorem Sd.setAt {g i : Nat} {u v : Value} {K : World → Prop} (j : Nat) (e : i = j) (h : w.cell? ⟨g, j, none⟩ = some u) (hf : w.frozen? ⟨g, j, none⟩ = false) (h1 : v.oneCell' = true) (k : K (w.setCell ⟨g, j, none⟩ v)) : Sd w ⟨g, i, none⟩ v K := by
  subst e
  exact ⟨⟨_, h⟩, hf, h1, k⟩
theorem Ru.of {α : Type} {s : Sem α} {v : α} {w' : World} {K : α → World → Prop} (h : s.run P w = .ok v w') (k : K v w') : Ru P s w K := ⟨v, w', h, k⟩
/-- A whole struct or array is read. -/
theorem Ru.lda {g o n N : Nat} {t ty : TypeId} {f : Nat → Value} {d : TypeDesc} {K : Value → World → Prop} (hr : Row w g t N f) (hu : P.underlying ty = some d) (hd : (match d with | .struct _ | .array _ _ => true | _ => false) = true) (hi : (P.info? ty).map (·.size) = some n) (hn : o + n ≤ N)
    (k : K (agg n (fun j => f (o + j))) w) : Ru P (loadVar ty ⟨g, o, none⟩) w K := ⟨_, _, run_load_agg hr hn hu hd hi, k⟩
theorem Ru.ldaC {g o n N : Nat} {t ty : TypeId} {f q : Nat → Value} {d : TypeDesc} {K : Value → World → Prop} (hr : Row w g t N f) (hu : P.underlying ty = some d) (hd : (match d with | .struct _ | .array _ _ => true | _ => false) = true) (hi : (P.info? ty).map (·.size) = some n) (hn : o + n ≤ N) (hf : ∀ j, j < n → f (o + j) = q j)
    (k : K (agg n q) w) : Ru P (loadVar ty ⟨g, o, none⟩) w K := by
  refine Ru.lda hr hu hd hi hn ?_
  rw [agg_congr hf]
  exact k
/-- A value of cells goes into a variable of its own. -/
theorem Ru.boxa {t : TypeId} {n : Nat} {s : Nat → Value} {K : Value → World → Prop} (k : ∀ g w', g = w.heap.size → w'.heap.size = w.heap.size + 1 → Row w' g t n s → Keep [] w w' → K (.pointer (some ⟨g, 0, none⟩)) w') : Ru P (Instr.box t (agg n s)) w K :=
  ⟨_, _, run_box_agg t n s w, k _ _ rfl (by simp [rowObj]) (Row.obj w t n s) ((Keep.refl _ _).alloc _)⟩
theorem Ru.alloca {t : TypeId} {n : Nat} {s : Nat → Value} {K : Value → World → Prop} (h : (Instr.alloc t true (.tuple #[])).run P w = .ok (.pointer (some ⟨w.heap.size, 0, none⟩)) (w.alloc (rowObj n s t))) (k : ∀ g w', g = w.heap.size → w'.heap.size = w.heap.size + 1 → Row w' g t n s → Keep [] w w' → K (.pointer (some ⟨g, 0, none⟩)) w') : Ru P (Instr.alloc t true (.tuple #[])) w K :=
  ⟨_, _, h, k _ _ rfl (by simp [rowObj]) (Row.obj w t n s) ((Keep.refl _ _).alloc _)⟩
theorem Ru.idx {T e : TypeId} {len k : Nat} {f : Nat → Value} {K : Value → World → Prop} (hT : P.underlying T = some (.array len e)) (hk : k < len) (hc : cellTy P e = true) (h : K (f k) w) : Ru P (Instr.index T (agg len f) (.int .i64 (k : Int))) w K := ⟨_, _, run_index_agg T e len k hT hk (fun w => isAgg_cell hc w) (by
  simp only [cellTy, Bool.and_eq_true] at hc
  have h1 := hc.1
  unfold szIs at h1
  split at h1
  · rename_i i hi
    rw [hi]
    simpa using h1
  · cases h1) w, h⟩
theorem run_ldaC {g o n N : Nat} {t ty : TypeId} {f q : Nat → Value} {d : TypeDesc} (hr : Row w g t N f) (hu : P.underlying ty = some d) (hd : (match d with | .struct _ | .array _ _ => true | _ => false) = true) (hi : (P.info? ty).map (·.size) = some n) (hn : o + n ≤ N) (hf : ∀ j, j < n → f (o + j) = q j) : (loadVar ty ⟨g, o, none⟩).run P w = .ok (agg n q) w := by
  have h := run_load_agg (P := P) hr hn hu hd hi
  rw [agg_congr hf] at h
  exact h
theorem Ru.sta {g o n N : Nat} {t ty : TypeId} {f s : Nat → Value} {K : Unit → World → Prop} (hr : Row w g t N f) (hi : (P.info? ty).map (·.size) = some n) (hn : o + n ≤ N) (h1 : ∀ j, j < n → (s j).oneCell' = true)
    (k : ∀ w', Row w' g t N (lay f o n s) → Keep [g] w w' → K () w') : Ru P (storeVar ty ⟨g, o, none⟩ (agg n s)) w K := by
  obtain ⟨w', h, h2, h3⟩ := run_store_agg (P := P) (ty := ty) hr hn hi h1
  exact ⟨(), w', h, k w' h2 h3⟩
end
section
variable {P : Program} {w : World}
/-- A slice of one-cell elements is copied into a part of a row. -/
theorem Bu.copy {dT sT ty elem : TypeId} {g o dLen dCap n : Nat} {t : TypeId} {f s : Nat → Value} {cs : Array Bool} {K : Value → World → Prop} (hu : P.underlying dT = some (.slice elem)) (hs : (P.info? elem).map (·.size) = some 1) (hr : Row w g t n f)
    (A : Option Addr) (sLen sCap m : Nat) (hm : m = Nat.min sLen dLen) (ha : Rd w A m s) (hA : A = none → sLen = 0 ∧ sCap = 0) (hfit : o + m ≤ n) (h1 : ∀ j, j < m → (s j).oneCell' = true)
    (k : ∀ w', Row w' g t n (lay f o m s) → Keep [g] w w' → K (.int .i64 (m : Int)) w') : Bu P .copy #[dT, sT] ty cs #[.slice (some ⟨g, o, none⟩) dLen dCap, .slice A sLen sCap] w K := by
  obtain ⟨w', h, h2, h3⟩ := run_copy_rd (P := P) (ty := ty) (sT := sT) (dCap := dCap) hu hs hr A sLen sCap m hm ha hA hfit h1
  exact ⟨_, w', by simp only [builtin, Sem.run_bind, h]; rfl, k w' h2 h3⟩
theorem Bu.append {t ty e : TypeId} {i : TypeInfo} {z : Value} {size bytes : Nat} {cs : Array Bool} {K : Value → World → Prop} (ht : P.underlying t = some (.slice e)) (hi : P.info? e = some i) (hz : i.zero = some z)
    (hsize : i.size = size) (hby : i.bytes = bytes) (hzs : z.cells.size = size) (hpos : 0 < size)
    {A : Option Addr} {n c : Nat} {f : Nat → Value} (hl : Ly w e size A n c f)
    {B : Option Addr} {m d : Nat} (g : Nat → Value) (hr : Rd w B (m * size) g) (hm : m ≤ d) (hB : B = none → d = 0) (h1 : ∀ j, j < m * size → (g j).oneCell' = true)
    (h63 : n + m ≤ maxLen) (hbytes : (n + m) * bytes ≤ 140737488355328)
    (k : ∀ A' c' w', Ly w' e size A' (n + m) c' (fun j => if j < n * size then f j else g (j - n * size)) → Keep (blk A) w w' → (A' = A ∨ A' = some ⟨w.heap.size, 0, none⟩) → (∀ x, x ∈ blk A → Pre w w' x e (n * size)) → K (.slice A' (n + m) c') w') :
    Bu P .append #[t, t] ty cs #[.slice A n c, .slice B m d] w K := by
  obtain ⟨A', c', w', hr, h2, h3, h5, h6⟩ := run_append_ly (P := P) w t ty e i z size bytes ht hi hz hsize hby hzs hpos A n c f hl B m d g hr hm hB h1 h63 hbytes
  exact ⟨_, w', by simp only [builtin, Sem.run_bind, hr]; rfl, k A' c' w' h2 h3 h5 h6⟩
theorem Ru.sliceArr {t e : TypeId} {g o n sz : Nat} {K : Value → World → Prop} (hu : P.underlying t = some (.array n e)) (hs : (P.info? e).map (·.size) = some sz) (k : K (.slice (some ⟨g, o, none⟩) n n) w) : Ru P (Instr.sliceAt t (.pointer (some ⟨g, o, none⟩)) none none none) w K := by
  refine ⟨_, _, ?_, k⟩
  cases hq : P.info? e with
  | none => simp [hq] at hs
  | some i =>
    have h0 : (⟨g, o, none⟩ : Addr).add 0 = ⟨g, o, none⟩ := rfl
    simp [Instr.sliceAt, run_underlying hu, Instr.sureAddr, Instr.sliceBounds, sizeOf, typeInfo, hq, h0]
end
theorem LdQ.at {C : World → Prop} {g i j : Nat} {v : Value} {K : Value → Prop} (e : i = j) (h : ∀ w, C w → w.cell? ⟨g, j, none⟩ = some v) (k : K v) : LdQ C ⟨g, i, none⟩ K := ⟨v, fun w hw => e ▸ h w hw, k⟩
theorem LdQ.row {C : World → Prop} {g i : Nat} {t : TypeId} {n : Nat} {f : Nat → Value} {K : Value → Prop} (r : ∀ w, C w → Row w g t n f) (hi : i < n) (k : K (f i)) : LdQ C ⟨g, i, none⟩ K := ⟨_, fun w hw => (r w hw).cell i hi, k⟩
section
variable {P : Program} {w : World}
theorem run_eql_bools {t : TypeId} {a b : Bool} (hu : P.underlying t = some .bool) (x y : Operand) : (do eqGuard .eql t x y (.bool a) (.bool b); binOp .eql t (.bool a) (.bool b) : Sem Value).run P w = .ok (.bool (decide (a = b))) w := by
  have h : (Op.equalIn 10000 t (.bool a) (.bool b)).run P w = .ok (a == b) w := run_equalIn_bool w 9999 t a b hu
  have e : (a == b) = decide (a = b) := by cases a <;> cases b <;> rfl
  simp [eqGuard, binOp, Op.equal, Op.maxDepth, h, e]
theorem run_neq_bools {t : TypeId} {a b : Bool} (hu : P.underlying t = some .bool) (x y : Operand) : (do eqGuard .neq t x y (.bool a) (.bool b); binOp .neq t (.bool a) (.bool b) : Sem Value).run P w = .ok (.bool (!decide (a = b))) w := by
  have h : (Op.equalIn 10000 t (.bool a) (.bool b)).run P w = .ok (a == b) w := run_equalIn_bool w 9999 t a b hu
  have e : (a == b) = decide (a = b) := by cases a <;> cases b <;> rfl
  simp [eqGuard, binOp, Op.equal, Op.maxDepth, h, e]
theorem Ru.eqlb {t : TypeId} {a b : Bool} {x y : Operand} {K : Value → World → Prop} (hu : P.underlying t = some .bool) (h : K (.bool (decide (a = b))) w) : Ru P (do eqGuard .eql t x y (.bool a) (.bool b); binOp .eql t (.bool a) (.bool b)) w K := ⟨_, _, run_eql_bools hu x y, h⟩
theorem Ru.neqb {t : TypeId} {a b : Bool} {x y : Operand} {K : Value → World → Prop} (hu : P.underlying t = some .bool) (h : K (.bool (!decide (a = b))) w) : Ru P (do eqGuard .neq t x y (.bool a) (.bool b); binOp .neq t (.bool a) (.bool b)) w K := ⟨_, _, run_neq_bools hu x y, h⟩
theorem RuQ.eqlb {C : World → Prop} {t : TypeId} {a b : Bool} {x y : Operand} {K : Value → Prop} (hu : P.underlying t = some .bool) (h : K (.bool (decide (a = b)))) : RuQ P C (do eqGuard .eql t x y (.bool a) (.bool b); binOp .eql t (.bool a) (.bool b)) K := ⟨_, fun _ _ => run_eql_bools hu x y, h⟩
theorem RuQ.neqb {C : World → Prop} {t : TypeId} {a b : Bool} {x y : Operand} {K : Value → Prop} (hu : P.underlying t = some .bool) (h : K (.bool (!decide (a = b)))) : RuQ P C (do eqGuard .neq t x y (.bool a) (.bool b); binOp .neq t (.bool a) (.bool b)) K := ⟨_, fun _ _ => run_neq_bools hu x y, h⟩
end
end Go.Proofs.Ytmffeofgcnabiaa
