/- Whole arrays and structs as values of n cells: made, boxed, loaded, stored, indexed, compared; without writing the cells out. -/
import Derived.Test.YtmffeofgcnabiaaCopy
import Derived.Laws.Rows
import Derived.Laws.StructEq
import Derived.Laws.Tables
import Derived.WideLaws
import Derived.Deep.RegionLaw
import Derived.StillTactics
import Derived.Laws.ResultCell
namespace Go.Proofs.Ytmffeofgcnabiaa
open Go.RowKit
set_option linter.unusedVariables false
/-- The aggregate of n cells f 0, f 1, .. -/
def agg (n : Nat) (f : Nat → Value) : Value := .agg ((Array.range n).map f)
/-- A block of n cells. -/
def rowObj (n : Nat) (f : Nat → Value) (t : TypeId) : Obj := .cells ((Array.range n).map f) t (0, 0)
theorem agg_cells (n : Nat) (f : Nat → Value) : (agg n f).cells = (Array.range n).map f := rfl
theorem agg_congr {n : Nat} {f g : Nat → Value} (h : ∀ j, j < n → f j = g j) : agg n f = agg n g := by
  unfold agg
  congr 1
  apply Array.ext
  · simp
  · intro i h1 h2
    simp
    exact h i (by simpa using h1)
theorem Row.obj (w : World) (t : TypeId) (n : Nat) (f : Nat → Value) : Row (w.alloc (rowObj n f t)) w.heap.size t n f := heap_alloc_new w _
section
variable {P : Program} {w : World} {ty : TypeId} {g o n N : Nat} {t : TypeId} {f s : Nat → Value} {d : TypeDesc}
theorem run_isAgg_of (hu : P.underlying ty = some d) (hd : (match d with | .struct _ | .array _ _ => true | _ => false) = true) (w : World) : (isAgg ty).run P w = .ok true w := by
  unfold isAgg
  rw [Sem.run_bind, run_underlying hu w]
  cases d <;> simp_all
theorem run_load_agg (hr : Row w g t N f) (hn : o + n ≤ N) (hu : P.underlying ty = some d) (hd : (match d with | .struct _ | .array _ _ => true | _ => false) = true) (hi : (P.info? ty).map (·.size) = some n) :
    (Instr.loadAt ty (.pointer (some ⟨g, o, none⟩))).run P w = .ok (agg n (fun j => f (o + j))) w := by
  have hl := run_loadCells_list (P := P) w ⟨g, o, none⟩ ((List.range n).map fun j => f (o + j)) (fun j v hv => by
    have hj : j < n := by
      have := (List.getElem?_eq_some_iff.1 hv).1
      simpa using this
    rw [of_add rfl]
    have e : f (o + j) = v := by
      simp [hj] at hv
      exact hv
    rw [← e]
    exact hr.cell (o + j) (by omega))
  simp only [List.length_map, List.length_range] at hl
  have e : ((List.range n).map fun j => f (o + j)).toArray = (Array.range n).map fun j => f (o + j) := by
    apply Array.ext
    · simp
    · intro i h1 h2
      simp
  rw [e] at hl
  cases hq : P.info? ty with
  | none => simp [hq] at hi
  | some i =>
    have hs : i.size = n := by simpa [hq] using hi
    simp [Instr.loadAt, Instr.sureAddr, loadVar, Sem.run_bind, run_isAgg_of hu hd, sizeOf, typeInfo, hq, hs, hl, agg]
theorem run_store_agg (hr : Row w g t N f) (hn : o + n ≤ N) (hi : (P.info? ty).map (·.size) = some n) (h1 : ∀ j, j < n → (s j).oneCell' = true) :
    ∃ w', (Instr.storeAt ty (.pointer (some ⟨g, o, none⟩)) (agg n s)).run P w = .ok () w' ∧ Row w' g t N (lay f o n s) ∧ Keep [g] w w' := by
  have hst := run_storeCells_at P g o t ((List.range n).map s) 0 _ w hr (by simpa using hn) (fun v hv => by
    simp at hv
    obtain ⟨j, hj, rfl⟩ := hv
    exact h1 j hj)
  simp only [Nat.add_zero, List.length_map, List.length_range] at hst
  rw [lay_list N o n f s hn] at hst
  have e : ((agg n s).cells).toList = (List.range n).map s := by
    rw [agg_cells]
    apply List.ext_getElem?
    intro j
    by_cases hj : j < n <;> simp [hj]
  have ez : ((agg n s).cells).size = n := by simp [agg_cells]
  refine ⟨_, ?_, setRow_heap w g _ _ t _ hr, ⟨rfl, rfl, rfl, by simp, fun k _ hk => setRow_other w g k _ (fun e => hk (by rw [e]; exact List.mem_singleton.2 rfl))⟩⟩
  cases hq : P.info? ty with
  | none => simp [hq] at hi
  | some i =>
    have hs : i.size = n := by simpa [hq] using hi
    simp only [Instr.storeAt, Instr.sureAddr, storeVar, Sem.run_bind, Sem.run_pure, Result.andThen_ok, sizeOf, typeInfo, run_program, hq, hs, ez, e]
    simp only [ne_eq, not_true_eq_false, if_false]
    exact hst
theorem wpList_load_agg {ops : Array Oper} {rest : List Oper} {op : Oper} {a : Act} {Q : Exit → Act → World → Prop} (hgd : op.guard = none) (x : Operand) (ho : op.op = .load ty x)
    (hx : a.eval x = .pointer (some ⟨g, o, none⟩)) (hr : Row w g t N f) (hn : o + n ≤ N) (hu : P.underlying ty = some d) (hd : (match d with | .struct _ | .array _ _ => true | _ => false) = true) (hi : (P.info? ty).map (·.size) = some n)
    (h : wpList P ops Q rest (a.put op.dst (agg n (fun j => f (o + j)))) w) : wpList P ops Q (op :: rest) a w :=
  wpList_plain hgd fun _ hK => by
    unfold Oper.wp execOp
    simp only [ho, hx, Sem.run_bind, Sem.run_pure, Result.andThen_ok, run_load_agg hr hn hu hd hi]
    exact hK _ _ h
theorem step_load_agg {ops : Array Oper} {op : Oper} {a : Act} {K : Act → World → Prop} {Q : Exit → Act → World → Prop} {E : Prop} (hgd : op.guard = none) (x : Operand) (ho : op.op = .load ty x)
    (hx : a.eval x = .pointer (some ⟨g, o, none⟩)) (hr : Row w g t N f) (hn : o + n ≤ N) (hu : P.underlying ty = some d) (hd : (match d with | .struct _ | .array _ _ => true | _ => false) = true) (hi : (P.info? ty).map (·.size) = some n)
    (h : K (a.put op.dst (agg n (fun j => f (o + j)))) w) : if Region.wanted op (yielded ops a.tmps) = true then Oper.wp P op a w K Q else E := by
  have hw : Region.wanted op (yielded ops a.tmps) = true := by simp [Region.wanted, hgd]
  rw [if_pos hw]
  unfold Oper.wp execOp
  simp only [ho, hx, Sem.run_bind, Sem.run_pure, Result.andThen_ok, run_load_agg hr hn hu hd hi]
  exact h
theorem wpList_store_agg {ops : Array Oper} {rest : List Oper} {op : Oper} {a : Act} {Q : Exit → Act → World → Prop} (hgd : op.guard = none) (x y : Operand) (ho : op.op = .store ty x y)
    (hx : a.eval x = .pointer (some ⟨g, o, none⟩)) (hy : a.eval y = agg n s) (hr : Row w g t N f) (hn : o + n ≤ N) (hi : (P.info? ty).map (·.size) = some n) (h1 : ∀ j, j < n → (s j).oneCell' = true)
    (h : ∀ w', Row w' g t N (lay f o n s) → Keep [g] w w' → wpList P ops Q rest (a.put op.dst undef) w') : wpList P ops Q (op :: rest) a w :=
  wpList_plain hgd fun _ hK => by
    obtain ⟨w', hrun, h2, h3⟩ := run_store_agg (P := P) (ty := ty) hr hn hi h1
    unfold Oper.wp execOp
    simp only [ho, hx, hy, Sem.run_bind, Sem.run_pure, Result.andThen_ok, hrun]
    exact hK _ _ (h w' h2 h3)
theorem run_box_agg (elem : TypeId) (n : Nat) (s : Nat → Value) (w : World) : (Instr.box elem (agg n s)).run P w = .ok (.pointer (some ⟨w.heap.size, 0, none⟩)) (w.alloc (rowObj n s elem)) := rfl
theorem run_index_agg (T e : TypeId) (len k : Nat) (hT : P.underlying T = some (.array len e)) (hk : k < len) (hu : ∀ w : World, (isAgg e).run P w = .ok false w) (hi : (P.info? e).map (·.size) = some 1) (w : World) :
    (Instr.index T (agg len s) (.int .i64 (k : Int))).run P w = .ok (s k) w := by
  cases hq : P.info? e with
  | none => simp [hq] at hi
  | some i =>
    have hs : i.size = 1 := by simpa [hq] using hi
    have hk2 : (0 : Int) ≤ (k : Int) ∧ (k : Int) < len := by omega
    unfold agg
    simp [Instr.index, asIntOf, run_underlying hT, part, hu, sizeOf, typeInfo, hq, hs, hk]
end
theorem list_all {P : Program} (F : Nat → Option Bool × Unit → Sem (ForInStep (Option Bool × Unit))) (b : Nat → Bool) : ∀ (l : List Nat), (∀ i, i ∈ l → ∀ w : World, (F i (none, ())).run P w = .ok (if b i then .yield (none, ()) else .done (some false, ())) w) → ∀ w : World,
    (forIn l ((none, ()) : Option Bool × Unit) F).run P w = .ok (if l.all b then none else some false, ()) w
  | [], _, w => rfl
  | i :: l, h, w => by
    simp only [List.forIn_cons, Sem.run_bind, h i (List.mem_cons_self ..), Result.andThen_ok]
    cases hb : b i with
    | true => simpa [hb] using list_all F b l (fun j hj => h j (List.mem_cons_of_mem _ hj)) w
    | false => simp [hb]
theorem run_part_int {P : Program} {e : TypeId} {k : IntKind} (he : P.underlying e = some (.int k)) (len i : Nat) (h : i < len) (a : Nat → Int) (w : World) :
    (part e ((Array.range len).map fun j => .int k (a j)) (i * 1)).run P w = .ok (.int k (a i)) w := by
  have hg : (isAgg e).run P w = .ok false w := by
    unfold isAgg
    rw [Sem.run_bind, run_underlying he w]
    rfl
  simp [part, hg, h]
theorem run_equalIn_arr {P : Program} {T e : TypeId} {len : Nat} {k : IntKind} (d : Nat) (a b : Nat → Int) (hT : P.underlying T = some (.array len e)) (he : P.underlying e = some (.int k)) (hi : (P.info? e).map (·.size) = some 1) (w : World) :
    (Op.equalIn (d + 2) T (agg len fun j => .int k (a j)) (agg len fun j => .int k (b j))).run P w = .ok ((List.range len).all fun j => a j == b j) w := by
  have hs : ∀ w : World, (sizeOf e).run P w = .ok 1 w := fun w => by
    cases hq : P.info? e with
    | none => simp [hq] at hi
    | some i =>
      have hs : i.size = 1 := by simpa [hq] using hi
      simp [sizeOf, typeInfo, hq, hs]
  unfold agg
  unfold Op.equalIn
  simp only [Sem.run_bind, run_underlying hT, Result.andThen_ok, hs]
  rw [Std.Legacy.Range.forIn_eq_forIn_range']
  rw [list_all (P := P) _ (fun j => a j == b j)]
  · simp [Std.Legacy.Range.size]
    by_cases hA : ((List.range len).all fun j => a j == b j) = true
    · have h2 : ∀ x, x < len → a x = b x := by simpa using hA
      rw [if_pos h2, hA]
      rfl
    · have h2 : ¬ ∀ x, x < len → a x = b x := fun h => hA (by simpa using h)
      rw [if_neg h2, Bool.eq_false_iff.2 hA]
      rfl
  · intro i hi2 w
    have hlt : i < len := by simpa [Std.Legacy.Range.size] using hi2
    simp only [Sem.run_bind, run_part_int he len i hlt, Result.andThen_ok, run_equalIn_int w d e k k _ _ he]
    cases hq : (a i == b i) <;> simp
theorem run_eql_arr {P : Program} {T e : TypeId} {len : Nat} {k : IntKind} (a b : Nat → Int) (hT : P.underlying T = some (.array len e)) (he : P.underlying e = some (.int k)) (hi : (P.info? e).map (·.size) = some 1) (w : World) :
    (binOp .eql T (agg len fun j => .int k (a j)) (agg len fun j => .int k (b j))).run P w = .ok (.bool ((List.range len).all fun j => a j == b j)) w := by
  have h := run_equalIn_arr (P := P) 9998 a b hT he hi w
  unfold agg at h ⊢
  rw [run_eql_struct, h]
  rfl
theorem run_neq_arr {P : Program} {T e : TypeId} {len : Nat} {k : IntKind} (a b : Nat → Int) (hT : P.underlying T = some (.array len e)) (he : P.underlying e = some (.int k)) (hi : (P.info? e).map (·.size) = some 1) (w : World) :
    (binOp .neq T (agg len fun j => .int k (a j)) (agg len fun j => .int k (b j))).run P w = .ok (.bool (!(List.range len).all fun j => a j == b j)) w := by
  have h := run_equalIn_arr (P := P) 9998 a b hT he hi w
  unfold agg at h ⊢
  rw [run_neq_struct, h]
  rfl
theorem guard_agg {P : Program} (op : BinOp) (T : TypeId) (x y : Operand) (n m : Nat) (f g : Nat → Value) (hm : P.eqGuardType P.depth T = false) (w : World) : (eqGuard op T x y (agg n f) (agg m g)).run P w = .ok () w := by
  unfold agg
  exact run_eqGuard_agg w op T x y _ _ hm
section
variable {P : Program} {w : World} {ops : Array Oper} {rest : List Oper} {op : Oper} {a : Act} {Q : Exit → Act → World → Prop} {T : TypeId} {n : Nat} {f : Nat → Value}
/-- A zero value is made (no part is given). -/
theorem wpList_build0 (hgd : op.guard = none) (ho : op.op = .build T #[]) (hb : ∀ w, (Instr.build T #[]).run P w = .ok (agg n f) w) (h : wpList P ops Q rest (a.put op.dst (agg n f)) w) : wpList P ops Q (op :: rest) a w :=
  wpList_plain hgd fun _ hK => by
    unfold Oper.wp execOp
    simp only [ho, Sem.run_bind, Sem.run_pure, Result.andThen_ok, List.map_toArray, List.map_nil, hb]
    exact hK _ _ h
theorem wpList_box0 (hgd : op.guard = none) (x : Operand) (ho : op.op = .box T x) (hx : a.eval x = agg n f) (h : wpList P ops Q rest (a.put op.dst (.pointer (some ⟨w.heap.size, 0, none⟩))) (w.alloc (rowObj n f T))) : wpList P ops Q (op :: rest) a w :=
  wpList_plain hgd fun _ hK => by
    unfold Oper.wp execOp
    simp only [ho, hx, Sem.run_bind, Sem.run_pure, Result.andThen_ok, run_box_agg]
    exact hK _ _ h
theorem wpList_alloc0 (hgd : op.guard = none) (ho : op.op = .alloc T) (hb : ∀ w : World, (Instr.alloc T true (.tuple #[])).run P w = .ok (.pointer (some ⟨w.heap.size, 0, none⟩)) (w.alloc (rowObj n f T))) (h : wpList P ops Q rest (a.put op.dst (.pointer (some ⟨w.heap.size, 0, none⟩))) (w.alloc (rowObj n f T))) : wpList P ops Q (op :: rest) a w :=
  wpList_plain hgd fun _ hK => by
    unfold Oper.wp execOp
    simp only [ho, Sem.run_bind, Sem.run_pure, Result.andThen_ok, hb]
    exact hK _ _ h
end

theorem extract_range (N k m : Nat) (s : Nat → Value) (h : k * m + m ≤ N) : ((Array.range N).map s).extract (k * m) (k * m + m) = (Array.range m).map fun j => s (k * m + j) := by
  apply Array.ext
  · simp
    omega
  · intro i h1 h2
    simp
theorem run_index_aggs {P : Program} {s : Nat → Value} {d : TypeDesc} (T e : TypeId) (len k m : Nat) (hT : P.underlying T = some (.array len e)) (hk : k < len) (hu : P.underlying e = some d) (hd : (match d with | .struct _ | .array _ _ => true | _ => false) = true) (hi : (P.info? e).map (·.size) = some m) (w : World) :
    (Instr.index T (agg (len * m) s) (.int .i64 (k : Int))).run P w = .ok (agg m fun j => s (k * m + j)) w := by
  cases hq : P.info? e with
  | none => simp [hq] at hi
  | some i =>
    have hs : i.size = m := by simpa [hq] using hi
    have hk2 : (0 : Int) ≤ (k : Int) ∧ (k : Int) < len := by omega
    have hle : k * m + m ≤ len * m := by
      have := Nat.mul_le_mul_right m (show k + 1 ≤ len from hk)
      rwa [Nat.add_mul, Nat.one_mul] at this
    have hx := extract_range (len * m) k m s hle
    unfold agg
    simp only [Instr.index, asIntOf, Sem.run_bind, Sem.run_pure, Result.andThen_ok, run_underlying hT, hk2, and_self, if_true, part, run_isAgg_of hu hd, sizeOf, typeInfo, run_program, hq, hs, Int.toNat_natCast, hx]
section
variable {P : Program} {w : World} {ops : Array Oper} {rest : List Oper} {op : Oper} {a : Act} {K : Act → World → Prop} {Q : Exit → Act → World → Prop} {T e : TypeId} {n len : Nat} {f g : Nat → Value} {d : TypeDesc}
theorem wpList_index_aggs (hgd : op.guard = none) (x y : Operand) (ho : op.op = .index T x y) (len m k : Nat) (hx : a.eval x = agg (len * m) f) (hy : a.eval y = .int .i64 (k : Int)) (hT : P.underlying T = some (.array len e)) (hk : k < len) (hu : P.underlying e = some d) (hd : (match d with | .struct _ | .array _ _ => true | _ => false) = true) (hi : (P.info? e).map (·.size) = some m)
    (h : wpList P ops Q rest (a.put op.dst (agg m fun j => f (k * m + j))) w) : wpList P ops Q (op :: rest) a w :=
  wpList_plain hgd fun _ hK => by
    unfold Oper.wp execOp
    simp only [ho, hx, hy, Sem.run_bind, Sem.run_pure, Result.andThen_ok, run_index_aggs T e len k m hT hk hu hd hi]
    exact hK _ _ h
theorem wpList_index_agg (hgd : op.guard = none) (x y : Operand) (ho : op.op = .index T x y) (len k : Nat) (hx : a.eval x = agg len f) (hy : a.eval y = .int .i64 (k : Int)) (hT : P.underlying T = some (.array len e)) (hk : k < len) (hu : ∀ w : World, (isAgg e).run P w = .ok false w) (hi : (P.info? e).map (·.size) = some 1)
    (h : wpList P ops Q rest (a.put op.dst (f k)) w) : wpList P ops Q (op :: rest) a w :=
  wpList_plain hgd fun _ hK => by
    unfold Oper.wp execOp
    simp only [ho, hx, hy, Sem.run_bind, Sem.run_pure, Result.andThen_ok, run_index_agg T e len k hT hk hu hi]
    exact hK _ _ h
theorem step_neq_arr {E : Prop} {k : IntKind} {u v : Nat → Int} {t : TypeId} (hgd : op.guard = none) (x y : Operand) (ho : op.op = .binOp .neq T x y t) (hx : a.eval x = agg len (fun j => .int k (u j))) (hy : a.eval y = agg len (fun j => .int k (v j)))
    (hT : P.underlying T = some (.array len e)) (he : P.underlying e = some (.int k)) (hi : (P.info? e).map (·.size) = some 1) (hm : P.eqGuardType P.depth T = false)
    (h : K (a.put op.dst (.bool (!(List.range len).all fun j => u j == v j))) w) : if Region.wanted op (yielded ops a.tmps) = true then Oper.wp P op a w K Q else E := by
  have hw : Region.wanted op (yielded ops a.tmps) = true := by simp [Region.wanted, hgd]
  rw [if_pos hw]
  unfold Oper.wp execOp
  simp only [ho, hx, hy, Sem.run_bind, Sem.run_pure, Result.andThen_ok, guard_agg _ _ _ _ _ _ _ _ hm, run_neq_arr u v hT he hi]
  exact h
end
/-- One operation of a region that only reads, by what it yields in the world at hand. -/
theorem still_op {P : Program} {w : World} {ops : Array Oper} {rest : List Oper} {op : Oper} {a : Act} {Q : Act → Prop} {v : Value} (hgd : op.guard = none) (hrun : (execOp a.eval op).run P w = .ok (.value v) w) (h : wpStill P ops w Q rest (a.put op.dst v)) : wpStill P ops w Q (op :: rest) a :=
  wpStill_step fun K hK => by
    have hw : Region.wanted op (yielded ops a.tmps) = true := by simp [Region.wanted, hgd]
    rw [if_pos hw]
    unfold Oper.still
    rw [hrun, Oper.stillUpon_value]
    exact hK _ h
section
variable {P : Program} {w : World} {ops : Array Oper} {rest : List Oper} {op : Oper} {a : Act} {Q : Act → Prop} {T e ty t : TypeId} {n N len g o : Nat} {f : Nat → Value} {d : TypeDesc}
theorem still_load_agg (hgd : op.guard = none) (x : Operand) (ho : op.op = .load ty x)
    (hx : a.eval x = .pointer (some ⟨g, o, none⟩)) (hr : Row w g t N f) (hn : o + n ≤ N) (hu : P.underlying ty = some d) (hd : (match d with | .struct _ | .array _ _ => true | _ => false) = true) (hi : (P.info? ty).map (·.size) = some n)
    (h : wpStill P ops w Q rest (a.put op.dst (agg n (fun j => f (o + j))))) : wpStill P ops w Q (op :: rest) a :=
  still_op hgd (by
    unfold execOp
    simp only [ho, hx, Sem.run_bind, Sem.run_pure, Result.andThen_ok, run_load_agg hr hn hu hd hi]) h
theorem still_neq_arr {k : IntKind} {u v : Nat → Int} {t : TypeId} (hgd : op.guard = none) (x y : Operand) (ho : op.op = .binOp .neq T x y t) (hx : a.eval x = agg len (fun j => .int k (u j))) (hy : a.eval y = agg len (fun j => .int k (v j)))
    (hT : P.underlying T = some (.array len e)) (he : P.underlying e = some (.int k)) (hi : (P.info? e).map (·.size) = some 1) (hm : P.eqGuardType P.depth T = false)
    (h : wpStill P ops w Q rest (a.put op.dst (.bool (!(List.range len).all fun j => u j == v j)))) : wpStill P ops w Q (op :: rest) a :=
  still_op hgd (by
    unfold execOp
    simp only [ho, hx, hy, Sem.run_bind, Sem.run_pure, Result.andThen_ok, guard_agg _ _ _ _ _ _ _ _ hm, run_neq_arr u v hT he hi]) h
end
/-- A result that is a variable of n cells, and one that is a slot. -/
theorem results_row_tmp {P : Program} {fn : Func} {p u : Tmp} {ty : TypeId} (h : fn.results = #[.cell p ty, .tmp u]) (tmps : Array Value) (w : World) {g n : Nat} {t : TypeId} {f : Nat → Value} {d : TypeDesc}
    (hp : tmps.getD p undef = .pointer (some ⟨g, 0, none⟩)) (hr : Row w g t n f) (hu : P.underlying ty = some d) (hd : (match d with | .struct _ | .array _ _ => true | _ => false) = true) (hi : (P.info? ty).map (·.size) = some n) :
    (results fn tmps).run P w = .ok (.tuple #[agg n f, tmps.getD u undef]) w := by
  rw [results_cell_tmp h, hp]
  have h1 : (asAddr (.pointer (some ⟨g, 0, none⟩))).run P w = .ok ⟨g, 0, none⟩ w := rfl
  rw [h1, Result.andThen_ok, run_loadVar_row w g t ty _ (0, 0) d hr hu hd (by simpa using hi)]
  rfl
/-- A result that is a variable of n cells. -/
theorem results_row {P : Program} {fn : Func} {p : Tmp} {ty : TypeId} (h : fn.results = #[.cell p ty]) (tmps : Array Value) (w : World) {g n : Nat} {t : TypeId} {f : Nat → Value} {d : TypeDesc}
    (hp : tmps.getD p undef = .pointer (some ⟨g, 0, none⟩)) (hr : Row w g t n f) (hu : P.underlying ty = some d) (hd : (match d with | .struct _ | .array _ _ => true | _ => false) = true) (hi : (P.info? ty).map (·.size) = some n) :
    (results fn tmps).run P w = .ok (agg n f) w := results_cell_row h tmps w g t _ (0, 0) d hp hr hu hd (by simpa using hi)
end Go.Proofs.Ytmffeofgcnabiaa
