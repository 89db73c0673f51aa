/- Texts behind one another: Media, TgMath, Pgm, PgmW, Cells, Cells2, PagesM, PgI, TornM, TopTorn. -/
import Derived.Test.YtkpaafjnjmmehaaMg2
import Derived.Test.YtkpaafjnjmmehaaMg3
import Derived.Test.YtkpaafjnjmmehaaMg1
/- Layer 8: New, Read. -/
namespace Go.Proofs.Ytkpaafjnjmmehaa
open Go.RowKit
set_option linter.unusedVariables false
set_option maxRecDepth 20000
attribute [local irreducible] GF.pw GF.lg GF.mul GF.inv GF.xt
open Classical in
/-- The codeword near a word, if there is one. -/
noncomputable def decW (W : Nat → Nat) : Option (Nat → Nat) := if h : ∃ V, Near V W then some h.choose else none
theorem near_near {C V p : Nat → Nat} (h : Near C p) (h' : Near V p) : ∀ i, i < 64 → C i = V i := near_same (p := p) h.1 h'.1 h.2.1 h'.2.1 (by have := h.2.2; have := h'.2.2; omega)
theorem decW_some {W V : Nat → Nat} (h : decW W = some V) : Near V W := by
  unfold decW at h
  split at h
  · rename_i hx
    cases h
    exact hx.choose_spec
  · cases h
theorem decW_none {W : Nat → Nat} (h : decW W = none) : ∀ V, ¬ Near V W := fun V hV => by
  unfold decW at h
  split at h
  · cases h
  · rename_i hx
    exact hx ⟨V, hV⟩
theorem decW_near {W V : Nat → Nat} (h : Near V W) : ∃ V', decW W = some V' ∧ ∀ i, i < 64 → V' i = V i := by
  cases hd : decW W with
  | none => exact absurd h (decW_none hd V)
  | some V' => exact ⟨V', rfl, near_near (decW_some hd) h⟩
theorem decW_far {W : Nat → Nat} (h : Far W) : decW W = none := by
  cases hd : decW W with
  | none => rfl
  | some V =>
    obtain ⟨h1, h2, h3⟩ := decW_some hd
    have := h V h1 h2
    omega
theorem dist_congr {V V' W : Nat → Nat} (h : ∀ i, i < 64 → V i = V' i) : GF.dist V W = GF.dist V' W := by
  unfold GF.dist GF.difL
  congr 1
  apply List.filter_congr
  intro i hi
  rw [h i (List.mem_range.1 hi)]
/-- What a page is read as. -/
structure PageR where
  tagged : Bool
  tag : Tg
  sound : Bool
  damage : Nat
  data : Nat → Nat
def dmgUp (p : Nat → Nat) (r : Nat → Option (Nat → Nat)) : Nat → Nat
  | 0 => 0
  | k + 1 => max (dmgUp p r k) (match r k with | some V => GF.dist V (chk p k) | none => 0)
theorem dmgUp_le (p : Nat → Nat) (r : Nat → Option (Nat → Nat)) (h : ∀ k V, r k = some V → GF.dist V (chk p k) ≤ 2) : ∀ k, dmgUp p r k ≤ 2
  | 0 => Nat.zero_le _
  | k + 1 => by
    have := dmgUp_le p r h k
    unfold dmgUp
    cases hr : r k with
    | none => simp; exact this
    | some V => have := h k V hr; simp; omega
/-- A tag's bytes that are one. -/
def TagOk (V : Nat → Nat) (a : Nat) : Prop := Marked (natI V) ∧ decOk (natI V) ∧ (decT (natI V)).place = a
open Classical in
noncomputable def readR (r : Nat → Option (Nat → Nat)) (d a : Nat) : PageR :=
  match r 3 with
  | none => ⟨false, Tg.zero, false, d, fun _ => 0⟩
  | some V => if TagOk V a then
      (if (r 0).isSome ∧ (r 1).isSome ∧ (r 2).isSome then ⟨true, decT (natI V), true, d, fun j => ((r (j / 58)).getD (fun _ => 0)) (j % 58)⟩ else ⟨true, decT (natI V), false, d, fun _ => 0⟩)
    else ⟨false, Tg.zero, false, d, fun _ => 0⟩
noncomputable def readP (p : Nat → Nat) (a : Nat) : PageR := readR (fun k => decW (chk p k)) (dmgUp p (fun k => decW (chk p k)) 4) a
/-- A page's nine cells. -/
def pgc (tg : Bool) (t : Tg) (s : Bool) (dv : Value) (d : Int) (j : Nat) : Value := if j = 0 then .bool tg else if j < 6 then t.cell (j - 1) else if j = 6 then .bool s else if j = 7 then dv else .int .i64 d
theorem nine {j : Nat} (h : j < 9) : j = 0 ∨ j = 1 ∨ j = 2 ∨ j = 3 ∨ j = 4 ∨ j = 5 ∨ j = 6 ∨ j = 7 ∨ j = 8 := by omega
section
variable {tg s : Bool} {t : Tg} {dv : Value} {d : Int}
theorem pgc_d (d' : Int) (j : Nat) (h : j < 9) : put (pgc tg t s dv d) 8 (.int .i64 d') j = pgc tg t s dv d' j := by
  rcases nine h with rfl | rfl | rfl | rfl | rfl | rfl | rfl | rfl | rfl <;> rfl
theorem pgc_tg (b : Bool) (j : Nat) (h : j < 9) : put (pgc tg t s dv d) 0 (.bool b) j = pgc b t s dv d j := by
  rcases nine h with rfl | rfl | rfl | rfl | rfl | rfl | rfl | rfl | rfl <;> rfl
theorem pgc_s (b : Bool) (j : Nat) (h : j < 9) : put (pgc tg t s dv d) 6 (.bool b) j = pgc tg t b dv d j := by
  rcases nine h with rfl | rfl | rfl | rfl | rfl | rfl | rfl | rfl | rfl <;> rfl
theorem pgc_dv (v : Value) (j : Nat) (h : j < 9) : put (pgc tg t s dv d) 7 v j = pgc tg t s v d j := by
  rcases nine h with rfl | rfl | rfl | rfl | rfl | rfl | rfl | rfl | rfl <;> rfl
theorem pgc_t (t' : Tg) (j : Nat) (h : j < 9) : lay (pgc tg t s dv d) 1 5 t'.cell j = pgc tg t' s dv d j := by
  rcases nine h with rfl | rfl | rfl | rfl | rfl | rfl | rfl | rfl | rfl <;> rfl
theorem pgc_one (h : dv.oneCell' = true) (j : Nat) (hj : j < 9) : (pgc tg t s dv d j).oneCell' = true := by
  rcases nine hj with rfl | rfl | rfl | rfl | rfl | rfl | rfl | rfl | rfl <;> first | rfl | exact h
end
def pgArr : Array Value := #[.bool false, .int .i64 0, .int .i64 0, .int .i64 0, .int .i64 0, .bool false, .bool false, .slice none 0 0, .int .i64 0]
theorem pg_range : (Array.range 9).map (pgc false Tg.zero false (.slice none 0 0) 0) = pgArr := by
  apply Array.ext
  · simp [pgArr]
  · intro i h1 h2
    simp only [Array.getElem_map, Array.getElem_range]
    rcases nine (j := i) (by simpa using h1) with rfl | rfl | rfl | rfl | rfl | rfl | rfl | rfl | rfl <;> rfl
theorem size_page : (Try.prog.info? 36).map (·.size) = some 9 := by kernel_rfl
theorem alloc_page0 (w : World) : (Instr.alloc 36 true (.tuple #[])).run Try.prog w = .ok (.pointer (some ⟨w.heap.size, 0, none⟩)) (w.alloc (.cells pgArr 36)) := by kernel_rfl
theorem alloc_page (w : World) : (Instr.alloc 36 true (.tuple #[])).run Try.prog w = .ok (.pointer (some ⟨w.heap.size, 0, none⟩)) (w.alloc (rowObj 9 (pgc false Tg.zero false (.slice none 0 0) 0) 36)) := by
  rw [alloc_page0, ← pg_range]
  rfl
theorem build_page0 (w : World) : (Instr.build 36 #[]).run Try.prog w = .ok (.agg pgArr) w := by kernel_rfl
theorem build_page (w : World) : (Instr.build 36 #[]).run Try.prog w = .ok (agg 9 (pgc false Tg.zero false (.slice none 0 0) 0)) w := by
  rw [build_page0, ← pg_range]
  rfl
def medF (c f : Nat) (n : Int) (j : Nat) : Value := if j = 0 then .pointer (some ⟨c, 0, none⟩) else if j = 1 then .pointer (some ⟨f, 0, none⟩) else .int .i64 n
/-- A media over a chip. -/
structure Med (w : World) (m c f cd g h : Nat) (C : Chip) (n : Int) : Prop where
  row : Row w m 66 3 (medF c f n)
  chip : ChipAt w c C
  frm : Frm w f cd g h
theorem FS.ty {w : World} {g : Nat} (h : FS w g) : ∃ F, Row w g 135 769 F := by
  rcases h with r | r <;> exact ⟨_, r⟩
section
variable {w w' : World} {m c f cd g h : Nat} {C : Chip} {n : Int}
theorem Med.mc (H : Med w m c f cd g h C n) : m ≠ c := H.row.ne_ H.chip (by decide)
theorem Med.mf (H : Med w m c f cd g h C n) : m ≠ f := H.row.ne_ H.frm.row (by decide)
theorem Med.md (H : Med w m c f cd g h C n) : m ≠ cd := H.row.ne_ H.frm.cod.row (by decide)
theorem Med.mh (H : Med w m c f cd g h C n) : m ≠ h := H.row.ne_ H.frm.cod.gen (by decide)
theorem Med.mg (H : Med w m c f cd g h C n) : m ≠ g := by
  obtain ⟨F, r⟩ := H.frm.cod.fs.ty
  exact H.row.ne_ r (by decide)
theorem Med.cf (H : Med w m c f cd g h C n) : c ≠ f := Row.ne_ H.chip H.frm.row (by decide)
theorem Med.cd' (H : Med w m c f cd g h C n) : c ≠ cd := Row.ne_ H.chip H.frm.cod.row (by decide)
theorem Med.ch (H : Med w m c f cd g h C n) : c ≠ h := Row.ne_ H.chip H.frm.cod.gen (by decide)
theorem Med.cg (H : Med w m c f cd g h C n) : c ≠ g := by
  obtain ⟨F, r⟩ := H.frm.cod.fs.ty
  exact Row.ne_ H.chip r (by decide)
theorem Med.keep {S : List Nat} (H : Med w m c f cd g h C n) (k : Keep S w w') (hm : m ∉ S) (hc : c ∉ S) (hf : f ∉ S) (hd : cd ∉ S) (hg : g ∉ S) (hh : h ∉ S) : Med w' m c f cd g h C n := ⟨H.row.keep k hm, H.chip.keep k hc, H.frm.keep0 k hf hd hg hh⟩
theorem Med.keep0 (H : Med w m c f cd g h C n) (k : Keep [] w w') : Med w' m c f cd g h C n := H.keep k (by simp) (by simp) (by simp) (by simp) (by simp) (by simp)
theorem Med.of (H : Med w m c f cd g h C n) (k : FK w g w') : Med w' m c f cd g h C n := ⟨H.row.keep k.kp (by simpa using H.mg), H.chip.keep k.kp (by simpa using H.cg), H.frm.of k⟩
/-- Only the chip changes. -/
theorem Med.chipTo {C' : Chip} (H : Med w m c f cd g h C n) (k : Keep [c] w w') (hc : ChipAt w' c C') : Med w' m c f cd g h C' n :=
  ⟨H.row.keep k (by simpa using H.mc), hc, H.frm.keep0 k (by simpa using H.cf.symm) (by simpa using H.cd'.symm) (by simpa using H.cg.symm) (by simpa using H.ch.symm)⟩
theorem Med.lt (H : Med w m c f cd g h C n) : m < w.heap.size ∧ c < w.heap.size ∧ f < w.heap.size ∧ cd < w.heap.size ∧ g < w.heap.size ∧ h < w.heap.size := ⟨H.row.lt, Row.lt H.chip, H.frm.row.lt, H.frm.cod.row.lt, H.frm.cod.fs.lt, H.frm.cod.gen.lt⟩
end
/-- The data that came with a page. -/
def DvOk (w w' : World) (R : PageR) (dv : Value) : Prop := (R.sound = true ∧ ∃ O oc, dv = .slice O 174 oc ∧ (∀ x, x ∈ blk O → w.heap.size ≤ x) ∧ Ly w' 5 1 O 174 oc (fun j => .int .u8 (R.data j : Nat))) ∨ (R.sound = false ∧ dv = .slice none 0 0)
def MReadEnd (w : World) (m c f cd g h a : Nat) (C : Chip) (n : Int) (v : Value) (w' : World) : Prop :=
  (C.off = true ∧ v = .tuple #[agg 9 (pgc false Tg.zero false (.slice none 0 0) 0), errOf 7] ∧ Med w' m c f cd g h C n ∧ Keep [] w w') ∨
  (C.off = false ∧ ∃ dv, DvOk w w' (readP (pageW C a) a) dv ∧ v = .tuple #[agg 9 (pgc (readP (pageW C a) a).tagged (readP (pageW C a) a).tag (readP (pageW C a) a).sound dv ((readP (pageW C a) a).damage : Nat)), errOf 0] ∧ Med w' m c f cd g h (C.readE a) (w64 (n + 1)) ∧ Keep [m, c, g] w w')
/-- A whole page is stored. -/
theorem Ru.stpage {w : World} {x : Nat} {F s : Nat → Value} {K : Unit → World → Prop} (r : Row w x 36 9 F) (h1 : ∀ j, j < 9 → (s j).oneCell' = true) (k : ∀ w', Row w' x 36 9 s → Keep [x] w w' → K () w') : Ru Try.prog (storeVar 36 ⟨x, 0, none⟩ (agg 9 s)) w K :=
  Ru.sta r size_page (by omega) h1 (fun w' r' k' => k w' (r'.congr (fun j hj => by
    unfold lay
    rw [if_pos (by omega), Nat.sub_zero])) k')
theorem Ru.ldpage {w : World} {x : Nat} {s : Nat → Value} {K : Value → World → Prop} (r : Row w x 36 9 s) (k : K (agg 9 s) w) : Ru Try.prog (loadVar 36 ⟨x, 0, none⟩) w K :=
  Ru.ldaC r Try.underlying36 rfl size_page (by omega) (q := s) (fun j _ => by rw [Nat.zero_add]) k
theorem numOf_congr {f g : Nat → Int} : ∀ (n : Nat), (∀ j, j < n → f j = g j) → numOf f n = numOf g n
  | 0, _ => rfl
  | n + 1, h => by
    rw [numOf_snoc, numOf_snoc, numOf_congr n (fun j hj => h j (by omega)), h n (by omega)]
section
variable {V V' : Nat → Nat}
theorem natI_congr (h : ∀ i, i < 64 → V i = V' i) {j : Nat} (hj : j < 64) : natI V j = natI V' j := by
  unfold natI
  rw [h j hj]
theorem Marked.congr (h : ∀ i, i < 64 → V i = V' i) (k : Marked (natI V)) : Marked (natI V') := fun j hj => by
  rw [← natI_congr h (by omega)]
  exact k j hj
theorem decT_congr (h : ∀ i, i < 64 → V i = V' i) : decT (natI V) = decT (natI V') := by
  unfold decT
  rw [numOf_congr (g := natI V') 2 (fun j hj => natI_congr h (by omega)), numOf_congr (f := fun j => natI V (3 + j)) (g := fun j => natI V' (3 + j)) 5 (fun j hj => natI_congr h (by omega)), natI_congr h (j := 2) (by omega), natI_congr h (j := 8) (by omega), natI_congr h (j := 9) (by omega)]
theorem decOk.congr (h : ∀ i, i < 64 → V i = V' i) (k : decOk (natI V)) : decOk (natI V') := by
  unfold decOk at k ⊢
  rw [← decT_congr h]
  exact ⟨k.1, fun j hj => by rw [k.2 j hj]; exact natI_congr h (by omega)⟩
theorem TagOk.congr {a : Nat} (h : ∀ i, i < 64 → V i = V' i) (k : TagOk V a) : TagOk V' a := ⟨k.1.congr h, k.2.1.congr h, by rw [← decT_congr h]; exact k.2.2⟩
end
theorem readR_none {r : Nat → Option (Nat → Nat)} {d a : Nat} (h : ∀ V, r 3 = some V → ¬ TagOk V a) : readR r d a = ⟨false, Tg.zero, false, d, fun _ => 0⟩ := by
  unfold readR
  cases hr : r 3 with
  | none => rfl
  | some V => exact if_neg (h V hr)
theorem readR_tag {r : Nat → Option (Nat → Nat)} {d a : Nat} {V : Nat → Nat} (h : r 3 = some V) (ht : TagOk V a) (hs : ¬ ((r 0).isSome ∧ (r 1).isSome ∧ (r 2).isSome)) : readR r d a = ⟨true, decT (natI V), false, d, fun _ => 0⟩ := by
  unfold readR
  rw [h]
  simp only
  rw [if_pos ht, if_neg hs]
theorem readR_all {r : Nat → Option (Nat → Nat)} {d a : Nat} {V : Nat → Nat} (h : r 3 = some V) (ht : TagOk V a) (hs : (r 0).isSome ∧ (r 1).isSome ∧ (r 2).isSome) : readR r d a = ⟨true, decT (natI V), true, d, fun j => ((r (j / 58)).getD (fun _ => 0)) (j % 58)⟩ := by
  unfold readR
  rw [h]
  simp only
  rw [if_pos ht, if_pos hs]
theorem agg1 (v : Value) : Value.agg #[v] = agg 1 (fun _ => v) := by
  unfold agg
  simp [Array.range, Array.ofFn_succ]
theorem build_frm0 (A : Option Addr) (w : World) : (Instr.build 91 #[(0, .pointer A)]).run Try.prog w = .ok (.agg #[.pointer A]) w := by kernel_rfl
theorem Ru.sttgAt {w : World} {x : Nat} {tg s : Bool} {t t' : Tg} {dv : Value} {d : Int} {o : Nat} {K : Unit → World → Prop} (r : Row w x 36 9 (pgc tg t s dv d)) (e : o = 1) (k : ∀ w', Row w' x 36 9 (pgc tg t' s dv d) → Keep [x] w w' → K () w') : Ru Try.prog (storeVar 29 ⟨x, o, none⟩ (.agg t'.arr)) w K := by
  subst e
  rw [tg_agg]
  exact Ru.sta r size_tag (by omega) (tg_one t') (fun w' r' k' => k w' (r'.congr (fun j hj => pgc_t t' j hj)) k')
theorem RuQ.ldtg {C : World → Prop} {g : Nat} {ty : TypeId} {t : Tg} {K : Value → Prop} (r : ∀ w, C w → Row w g ty 5 t.cell) (k : K (.agg t.arr)) : RuQ Try.prog C (loadVar 29 ⟨g, 0, none⟩) K := ⟨_, fun w hw => run_tg (r w hw) (by omega) (fun j _ => by rw [Nat.zero_add]), k⟩
theorem fnew_ok (w : World) : Spec Try.prog 19 #[] w fun v w' => ∃ f cd g h, w.heap.size ≤ f ∧ w.heap.size ≤ cd ∧ w.heap.size ≤ g ∧ w.heap.size ≤ h ∧ v = .pointer (some ⟨f, 0, none⟩) ∧ Frm w' f cd g h ∧ Keep [] w w' := by
  refine spec_of_wpE (T := tt) tt_ok Try.func19 rfl (by decide +kernel) Try.ntmps19 (by simp) ?_
  conv => whnf
  repeat ((first
    | refine HS.t ?_|refine Br.t ?_|refine Br.f ?_|refine Pk.f ?_|refine Pk.t ?_|refine Pk.and ?_|refine Pk.or ?_|refine Ix.n ?_|refine Ix.of _ (by rfl) (by omega) ?_|refine Ix.i ?_|refine Ar.la ?_|refine Ar.lb ?_|refine Ar.lc ?_|refine Dv.q ?_|refine Dv.r ?_|refine Br.y ?_|refine Br.n ?_|refine Br.ny ?_|refine Br.nn ?_|refine Br.is (by assumption) ?_|refine Br.isnt (by assumption) ?_|refine Ld.of (by assumption) ?_|refine Ru.neq_nil0 ?_|refine Ru.n1 ?_|refine Ru.eql_nil0 ?_|refine Ru.e1 ?_|refine Ru.e2 ?_|refine Ru.e3 ?_|refine Ru.n2 ?_|refine Ru.n3 ?_|refine Ru.neq_nil rfl ?_|refine Ru.eql_nil rfl ?_|refine Ru.eql_err rfl (by decide) ?_|refine Ru.neq_err rfl (by decide) ?_|refine Ru.be ?_|refine Ru.bn ?_|refine RuQ.be ?_|refine RuQ.bn ?_|refine CW.s ?_); conv => whnf)
  refine Ca.of (rsnew_ok w) ?_
  rintro _ w1 ⟨cd, g, h, hc, hg, hh, rfl, H, k1⟩
  conv => whnf
  repeat ((first
    | refine HS.t ?_|refine Br.t ?_|refine Br.f ?_|refine Pk.f ?_|refine Pk.t ?_|refine Pk.and ?_|refine Pk.or ?_|refine Ix.n ?_|refine Ix.of _ (by rfl) (by omega) ?_|refine Ix.i ?_|refine Ar.la ?_|refine Ar.lb ?_|refine Ar.lc ?_|refine Dv.q ?_|refine Dv.r ?_|refine Br.y ?_|refine Br.n ?_|refine Br.ny ?_|refine Br.nn ?_|refine Br.is (by assumption) ?_|refine Br.isnt (by assumption) ?_|refine Ld.of (by assumption) ?_|refine Ru.neq_nil0 ?_|refine Ru.n1 ?_|refine Ru.eql_nil0 ?_|refine Ru.e1 ?_|refine Ru.e2 ?_|refine Ru.e3 ?_|refine Ru.n2 ?_|refine Ru.n3 ?_|refine Ru.neq_nil rfl ?_|refine Ru.eql_nil rfl ?_|refine Ru.eql_err rfl (by decide) ?_|refine Ru.neq_err rfl (by decide) ?_|refine Ru.be ?_|refine Ru.bn ?_|refine RuQ.be ?_|refine RuQ.bn ?_|refine CW.s ?_); conv => whnf)
  refine Ru.of ((build_frm0 _ w1).trans (by rw [agg1])) ?_
  conv => whnf
  repeat ((first
    | refine HS.t ?_|refine Br.t ?_|refine Br.f ?_|refine Pk.f ?_|refine Pk.t ?_|refine Pk.and ?_|refine Pk.or ?_|refine Ix.n ?_|refine Ix.of _ (by rfl) (by omega) ?_|refine Ix.i ?_|refine Ar.la ?_|refine Ar.lb ?_|refine Ar.lc ?_|refine Dv.q ?_|refine Dv.r ?_|refine Br.y ?_|refine Br.n ?_|refine Br.ny ?_|refine Br.nn ?_|refine Br.is (by assumption) ?_|refine Br.isnt (by assumption) ?_|refine Ld.of (by assumption) ?_|refine Ru.neq_nil0 ?_|refine Ru.n1 ?_|refine Ru.eql_nil0 ?_|refine Ru.e1 ?_|refine Ru.e2 ?_|refine Ru.e3 ?_|refine Ru.n2 ?_|refine Ru.n3 ?_|refine Ru.neq_nil rfl ?_|refine Ru.eql_nil rfl ?_|refine Ru.eql_err rfl (by decide) ?_|refine Ru.neq_err rfl (by decide) ?_|refine Ru.be ?_|refine Ru.bn ?_|refine RuQ.be ?_|refine RuQ.bn ?_|refine CW.s ?_); conv => whnf)
  refine Ru.boxa ?_
  intro f w2 hf hs2 r2 k2
  conv => whnf
  repeat ((first
    | refine HS.t ?_|refine Br.t ?_|refine Br.f ?_|refine Pk.f ?_|refine Pk.t ?_|refine Pk.and ?_|refine Pk.or ?_|refine Ix.n ?_|refine Ix.of _ (by rfl) (by omega) ?_|refine Ix.i ?_|refine Ar.la ?_|refine Ar.lb ?_|refine Ar.lc ?_|refine Dv.q ?_|refine Dv.r ?_|refine Br.y ?_|refine Br.n ?_|refine Br.ny ?_|refine Br.nn ?_|refine Br.is (by assumption) ?_|refine Br.isnt (by assumption) ?_|refine Ld.of (by assumption) ?_|refine Ru.neq_nil0 ?_|refine Ru.n1 ?_|refine Ru.eql_nil0 ?_|refine Ru.e1 ?_|refine Ru.e2 ?_|refine Ru.e3 ?_|refine Ru.n2 ?_|refine Ru.n3 ?_|refine Ru.neq_nil rfl ?_|refine Ru.eql_nil rfl ?_|refine Ru.eql_err rfl (by decide) ?_|refine Ru.neq_err rfl (by decide) ?_|refine Ru.be ?_|refine Ru.bn ?_|refine RuQ.be ?_|refine RuQ.bn ?_|refine CW.s ?_); conv => whnf)
  have hl := H.fs.lt
  have hs1 := k1.size
  exact ⟨rfl, f, cd, g, h, by omega, hc, hg, hh, rfl, ⟨r2, H.keep0 k2 (by simp) (by simp) (by simp), by omega⟩, k1.trans k2⟩
theorem build_med0 (A B : Option Addr) (w : World) : (Instr.build 66 #[(0, .pointer A), (1, .pointer B)]).run Try.prog w = .ok (.agg #[.pointer A, .pointer B, .int .i64 0]) w := by kernel_rfl
theorem three {j : Nat} (h : j < 3) : j = 0 ∨ j = 1 ∨ j = 2 := by omega
theorem build_med (c f : Nat) (w : World) : (Instr.build 66 #[(0, .pointer (some ⟨c, 0, none⟩)), (1, .pointer (some ⟨f, 0, none⟩))]).run Try.prog w = .ok (agg 3 (medF c f 0)) w := by
  rw [build_med0]
  unfold agg
  congr 2
  apply Array.ext
  · simp
  · intro i h1 h2
    simp only [Array.getElem_map, Array.getElem_range]
    rcases three (j := i) (by simpa using h1) with rfl | rfl | rfl <;> rfl
theorem mnew_ok (w : World) (c : Nat) (C : Chip) (H : ChipAt w c C) : Spec Try.prog 6 #[.pointer (some ⟨c, 0, none⟩)] w fun v w' => ∃ m f cd g h, w.heap.size ≤ m ∧ w.heap.size ≤ f ∧ w.heap.size ≤ cd ∧ w.heap.size ≤ g ∧ w.heap.size ≤ h ∧ v = .pointer (some ⟨m, 0, none⟩) ∧ Med w' m c f cd g h C 0 ∧ Keep [] w w' := by
  refine spec_of_wpE (T := tt) tt_ok Try.func6 rfl (by decide +kernel) Try.ntmps6 (by simp) ?_
  conv => whnf
  repeat ((first
    | refine HS.t ?_|refine Br.t ?_|refine Br.f ?_|refine Pk.f ?_|refine Pk.t ?_|refine Pk.and ?_|refine Pk.or ?_|refine Ix.n ?_|refine Ix.of _ (by rfl) (by omega) ?_|refine Ix.i ?_|refine Ar.la ?_|refine Ar.lb ?_|refine Ar.lc ?_|refine Dv.q ?_|refine Dv.r ?_|refine Br.y ?_|refine Br.n ?_|refine Br.ny ?_|refine Br.nn ?_|refine Br.is (by assumption) ?_|refine Br.isnt (by assumption) ?_|refine Ld.of (by assumption) ?_|refine Ru.neq_nil0 ?_|refine Ru.n1 ?_|refine Ru.eql_nil0 ?_|refine Ru.e1 ?_|refine Ru.e2 ?_|refine Ru.e3 ?_|refine Ru.n2 ?_|refine Ru.n3 ?_|refine Ru.neq_nil rfl ?_|refine Ru.eql_nil rfl ?_|refine Ru.eql_err rfl (by decide) ?_|refine Ru.neq_err rfl (by decide) ?_|refine Ru.be ?_|refine Ru.bn ?_|refine RuQ.be ?_|refine RuQ.bn ?_|refine CW.s ?_); conv => whnf)
  refine Ca.of (fnew_ok w) ?_
  rintro _ w1 ⟨f, cd, g, h, hf, hc, hg, hh, rfl, F, k1⟩
  conv => whnf
  repeat ((first
    | refine HS.t ?_|refine Br.t ?_|refine Br.f ?_|refine Pk.f ?_|refine Pk.t ?_|refine Pk.and ?_|refine Pk.or ?_|refine Ix.n ?_|refine Ix.of _ (by rfl) (by omega) ?_|refine Ix.i ?_|refine Ar.la ?_|refine Ar.lb ?_|refine Ar.lc ?_|refine Dv.q ?_|refine Dv.r ?_|refine Br.y ?_|refine Br.n ?_|refine Br.ny ?_|refine Br.nn ?_|refine Br.is (by assumption) ?_|refine Br.isnt (by assumption) ?_|refine Ld.of (by assumption) ?_|refine Ru.neq_nil0 ?_|refine Ru.n1 ?_|refine Ru.eql_nil0 ?_|refine Ru.e1 ?_|refine Ru.e2 ?_|refine Ru.e3 ?_|refine Ru.n2 ?_|refine Ru.n3 ?_|refine Ru.neq_nil rfl ?_|refine Ru.eql_nil rfl ?_|refine Ru.eql_err rfl (by decide) ?_|refine Ru.neq_err rfl (by decide) ?_|refine Ru.be ?_|refine Ru.bn ?_|refine RuQ.be ?_|refine RuQ.bn ?_|refine CW.s ?_); conv => whnf)
  refine Ru.of (build_med c f w1) ?_
  conv => whnf
  repeat ((first
    | refine HS.t ?_|refine Br.t ?_|refine Br.f ?_|refine Pk.f ?_|refine Pk.t ?_|refine Pk.and ?_|refine Pk.or ?_|refine Ix.n ?_|refine Ix.of _ (by rfl) (by omega) ?_|refine Ix.i ?_|refine Ar.la ?_|refine Ar.lb ?_|refine Ar.lc ?_|refine Dv.q ?_|refine Dv.r ?_|refine Br.y ?_|refine Br.n ?_|refine Br.ny ?_|refine Br.nn ?_|refine Br.is (by assumption) ?_|refine Br.isnt (by assumption) ?_|refine Ld.of (by assumption) ?_|refine Ru.neq_nil0 ?_|refine Ru.n1 ?_|refine Ru.eql_nil0 ?_|refine Ru.e1 ?_|refine Ru.e2 ?_|refine Ru.e3 ?_|refine Ru.n2 ?_|refine Ru.n3 ?_|refine Ru.neq_nil rfl ?_|refine Ru.eql_nil rfl ?_|refine Ru.eql_err rfl (by decide) ?_|refine Ru.neq_err rfl (by decide) ?_|refine Ru.be ?_|refine Ru.bn ?_|refine RuQ.be ?_|refine RuQ.bn ?_|refine CW.s ?_); conv => whnf)
  refine Ru.boxa ?_
  intro m w2 hm hs2 r2 k2
  conv => whnf
  repeat ((first
    | refine HS.t ?_|refine Br.t ?_|refine Br.f ?_|refine Pk.f ?_|refine Pk.t ?_|refine Pk.and ?_|refine Pk.or ?_|refine Ix.n ?_|refine Ix.of _ (by rfl) (by omega) ?_|refine Ix.i ?_|refine Ar.la ?_|refine Ar.lb ?_|refine Ar.lc ?_|refine Dv.q ?_|refine Dv.r ?_|refine Br.y ?_|refine Br.n ?_|refine Br.ny ?_|refine Br.nn ?_|refine Br.is (by assumption) ?_|refine Br.isnt (by assumption) ?_|refine Ld.of (by assumption) ?_|refine Ru.neq_nil0 ?_|refine Ru.n1 ?_|refine Ru.eql_nil0 ?_|refine Ru.e1 ?_|refine Ru.e2 ?_|refine Ru.e3 ?_|refine Ru.n2 ?_|refine Ru.n3 ?_|refine Ru.neq_nil rfl ?_|refine Ru.eql_nil rfl ?_|refine Ru.eql_err rfl (by decide) ?_|refine Ru.neq_err rfl (by decide) ?_|refine Ru.be ?_|refine Ru.bn ?_|refine RuQ.be ?_|refine RuQ.bn ?_|refine CW.s ?_); conv => whnf)
  have hs1 := k1.size
  exact ⟨rfl, m, f, cd, g, h, by omega, hf, hc, hg, hh, rfl, ⟨r2, (H.keep k1 (by simp)).keep k2 (by simp), F.keep0 k2 (by simp) (by simp) (by simp) (by simp)⟩, k1.trans k2⟩
theorem medF_n (c f : Nat) (n n' : Int) (j : Nat) (h : j < 3) : put (medF c f n) 2 (.int .i64 n') j = medF c f n' j := by
  rcases three h with rfl | rfl | rfl <;> rfl
set_option maxHeartbeats 4000000 in
theorem mread_ok (w : World) (m c f cd g h a : Nat) (C : Chip) (n : Int) (H : Med w m c f cd g h C n) (hw : C.Wf) (ha : a < 96) :
    Spec Try.prog 11 #[.pointer (some ⟨m, 0, none⟩), .int .i64 a] w (MReadEnd w m c f cd g h a C n) := by
  have hmc := H.mc
  have hmg := H.mg
  have hcg := H.cg
  have hlt := H.lt
  refine spec_of_wpE (T := tt) tt_ok Try.func11 rfl (by decide +kernel) Try.ntmps11 (by simp) ?_
  conv => whnf
  repeat ((first
    | refine HS.t ?_|refine Br.t ?_|refine Br.f ?_|refine Pk.f ?_|refine Pk.t ?_|refine Pk.and ?_|refine Pk.or ?_|refine Ix.n ?_|refine Ix.of _ (by rfl) (by omega) ?_|refine Ix.i ?_|refine Ar.la ?_|refine Ar.lb ?_|refine Ar.lc ?_|refine Dv.q ?_|refine Dv.r ?_|refine Br.y ?_|refine Br.n ?_|refine Br.ny ?_|refine Br.nn ?_|refine Br.is (by assumption) ?_|refine Br.isnt (by assumption) ?_|refine Ld.of (by assumption) ?_|refine Ru.neq_nil0 ?_|refine Ru.n1 ?_|refine Ru.eql_nil0 ?_|refine Ru.e1 ?_|refine Ru.e2 ?_|refine Ru.e3 ?_|refine Ru.n2 ?_|refine Ru.n3 ?_|refine Ru.neq_nil rfl ?_|refine Ru.eql_nil rfl ?_|refine Ru.eql_err rfl (by decide) ?_|refine Ru.neq_err rfl (by decide) ?_|refine Ru.be ?_|refine Ru.bn ?_|refine RuQ.be ?_|refine RuQ.bn ?_|refine CW.s ?_); conv => whnf)
  refine Ru.alloca (alloc_page w) ?_
  intro x4 w1 hx4 hs1 r4 k1
  have H1 := H.keep0 k1
  conv => whnf
  repeat ((first
    | (refine Ld.rowAt H1.row 0 (by omega) (by omega) ?_)
    | refine HS.t ?_|refine Br.t ?_|refine Br.f ?_|refine Pk.f ?_|refine Pk.t ?_|refine Pk.and ?_|refine Pk.or ?_|refine Ix.n ?_|refine Ix.of _ (by rfl) (by omega) ?_|refine Ix.i ?_|refine Ar.la ?_|refine Ar.lb ?_|refine Ar.lc ?_|refine Dv.q ?_|refine Dv.r ?_|refine Br.y ?_|refine Br.n ?_|refine Br.ny ?_|refine Br.nn ?_|refine Br.is (by assumption) ?_|refine Br.isnt (by assumption) ?_|refine Ld.of (by assumption) ?_|refine Ru.neq_nil0 ?_|refine Ru.n1 ?_|refine Ru.eql_nil0 ?_|refine Ru.e1 ?_|refine Ru.e2 ?_|refine Ru.e3 ?_|refine Ru.n2 ?_|refine Ru.n3 ?_|refine Ru.neq_nil rfl ?_|refine Ru.eql_nil rfl ?_|refine Ru.eql_err rfl (by decide) ?_|refine Ru.neq_err rfl (by decide) ?_|refine Ru.be ?_|refine Ru.bn ?_|refine RuQ.be ?_|refine RuQ.bn ?_|refine CW.s ?_); conv => whnf)
  refine Ca.of (nread_ok w1 c a C H1.chip ha) ?_
  rintro v w2 hv
  rcases hv with ⟨hoff, rfl, rfl⟩ | ⟨hoff, b, e, rfl, hb, ly, hc2, k2⟩
  · conv => whnf
    repeat ((first
      | refine HS.t ?_|refine Br.t ?_|refine Br.f ?_|refine Pk.f ?_|refine Pk.t ?_|refine Pk.and ?_|refine Pk.or ?_|refine Ix.n ?_|refine Ix.of _ (by rfl) (by omega) ?_|refine Ix.i ?_|refine Ar.la ?_|refine Ar.lb ?_|refine Ar.lc ?_|refine Dv.q ?_|refine Dv.r ?_|refine Br.y ?_|refine Br.n ?_|refine Br.ny ?_|refine Br.nn ?_|refine Br.is (by assumption) ?_|refine Br.isnt (by assumption) ?_|refine Ld.of (by assumption) ?_|refine Ru.neq_nil0 ?_|refine Ru.n1 ?_|refine Ru.eql_nil0 ?_|refine Ru.e1 ?_|refine Ru.e2 ?_|refine Ru.e3 ?_|refine Ru.n2 ?_|refine Ru.n3 ?_|refine Ru.neq_nil rfl ?_|refine Ru.eql_nil rfl ?_|refine Ru.eql_err rfl (by decide) ?_|refine Ru.neq_err rfl (by decide) ?_|refine Ru.be ?_|refine Ru.bn ?_|refine RuQ.be ?_|refine RuQ.bn ?_|refine CW.s ?_); conv => whnf)
    refine Ru.of (build_page _) ?_
    conv => whnf
    repeat ((first
      | refine HS.t ?_|refine Br.t ?_|refine Br.f ?_|refine Pk.f ?_|refine Pk.t ?_|refine Pk.and ?_|refine Pk.or ?_|refine Ix.n ?_|refine Ix.of _ (by rfl) (by omega) ?_|refine Ix.i ?_|refine Ar.la ?_|refine Ar.lb ?_|refine Ar.lc ?_|refine Dv.q ?_|refine Dv.r ?_|refine Br.y ?_|refine Br.n ?_|refine Br.ny ?_|refine Br.nn ?_|refine Br.is (by assumption) ?_|refine Br.isnt (by assumption) ?_|refine Ld.of (by assumption) ?_|refine Ru.neq_nil0 ?_|refine Ru.n1 ?_|refine Ru.eql_nil0 ?_|refine Ru.e1 ?_|refine Ru.e2 ?_|refine Ru.e3 ?_|refine Ru.n2 ?_|refine Ru.n3 ?_|refine Ru.neq_nil rfl ?_|refine Ru.eql_nil rfl ?_|refine Ru.eql_err rfl (by decide) ?_|refine Ru.neq_err rfl (by decide) ?_|refine Ru.be ?_|refine Ru.bn ?_|refine RuQ.be ?_|refine RuQ.bn ?_|refine CW.s ?_); conv => whnf)
    refine Ru.stpage r4 (pgc_one rfl) ?_
    intro w3 r5 k3
    conv => whnf
    repeat ((first
      | refine HS.t ?_|refine Br.t ?_|refine Br.f ?_|refine Pk.f ?_|refine Pk.t ?_|refine Pk.and ?_|refine Pk.or ?_|refine Ix.n ?_|refine Ix.of _ (by rfl) (by omega) ?_|refine Ix.i ?_|refine Ar.la ?_|refine Ar.lb ?_|refine Ar.lc ?_|refine Dv.q ?_|refine Dv.r ?_|refine Br.y ?_|refine Br.n ?_|refine Br.ny ?_|refine Br.nn ?_|refine Br.is (by assumption) ?_|refine Br.isnt (by assumption) ?_|refine Ld.of (by assumption) ?_|refine Ru.neq_nil0 ?_|refine Ru.n1 ?_|refine Ru.eql_nil0 ?_|refine Ru.e1 ?_|refine Ru.e2 ?_|refine Ru.e3 ?_|refine Ru.n2 ?_|refine Ru.n3 ?_|refine Ru.neq_nil rfl ?_|refine Ru.eql_nil rfl ?_|refine Ru.eql_err rfl (by decide) ?_|refine Ru.neq_err rfl (by decide) ?_|refine Ru.be ?_|refine Ru.bn ?_|refine RuQ.be ?_|refine RuQ.bn ?_|refine CW.s ?_); conv => whnf)
    refine Ru.ldpage r5 ?_
    conv => whnf
    repeat ((first
      | refine HS.t ?_|refine Br.t ?_|refine Br.f ?_|refine Pk.f ?_|refine Pk.t ?_|refine Pk.and ?_|refine Pk.or ?_|refine Ix.n ?_|refine Ix.of _ (by rfl) (by omega) ?_|refine Ix.i ?_|refine Ar.la ?_|refine Ar.lb ?_|refine Ar.lc ?_|refine Dv.q ?_|refine Dv.r ?_|refine Br.y ?_|refine Br.n ?_|refine Br.ny ?_|refine Br.nn ?_|refine Br.is (by assumption) ?_|refine Br.isnt (by assumption) ?_|refine Ld.of (by assumption) ?_|refine Ru.neq_nil0 ?_|refine Ru.n1 ?_|refine Ru.eql_nil0 ?_|refine Ru.e1 ?_|refine Ru.e2 ?_|refine Ru.e3 ?_|refine Ru.n2 ?_|refine Ru.n3 ?_|refine Ru.neq_nil rfl ?_|refine Ru.eql_nil rfl ?_|refine Ru.eql_err rfl (by decide) ?_|refine Ru.neq_err rfl (by decide) ?_|refine Ru.be ?_|refine Ru.bn ?_|refine RuQ.be ?_|refine RuQ.bn ?_|refine CW.s ?_); conv => whnf)
    exact ⟨rfl, .inl ⟨hoff, rfl, H1.keep k3 (by simp; omega) (by simp; omega) (by simp; omega) (by simp; omega) (by simp; omega) (by simp; omega), k1.then k3 (fun x hx => .inr (by rw [List.mem_singleton.1 hx]; omega))⟩⟩
  have H2 := H1.chipTo k2 hc2
  have r42 := r4.keep k2 (by simp; omega)
  have hs2 := k2.size
  clear hc2
  generalize hp : pageW C a = p at *
  have hpl : ∀ j, p j < 256 := fun j => by rw [← hp]; exact hw.now _ _ _
  conv => whnf
  repeat ((first
    | refine HS.t ?_|refine Br.t ?_|refine Br.f ?_|refine Pk.f ?_|refine Pk.t ?_|refine Pk.and ?_|refine Pk.or ?_|refine Ix.n ?_|refine Ix.of _ (by rfl) (by omega) ?_|refine Ix.i ?_|refine Ar.la ?_|refine Ar.lb ?_|refine Ar.lc ?_|refine Dv.q ?_|refine Dv.r ?_|refine Br.y ?_|refine Br.n ?_|refine Br.ny ?_|refine Br.nn ?_|refine Br.is (by assumption) ?_|refine Br.isnt (by assumption) ?_|refine Ld.of (by assumption) ?_|refine Ru.neq_nil0 ?_|refine Ru.n1 ?_|refine Ru.eql_nil0 ?_|refine Ru.e1 ?_|refine Ru.e2 ?_|refine Ru.e3 ?_|refine Ru.n2 ?_|refine Ru.n3 ?_|refine Ru.neq_nil rfl ?_|refine Ru.eql_nil rfl ?_|refine Ru.eql_err rfl (by decide) ?_|refine Ru.neq_err rfl (by decide) ?_|refine Ru.be ?_|refine Ru.bn ?_|refine RuQ.be ?_|refine RuQ.bn ?_|refine CW.s ?_); conv => whnf)
  refine Ca.of (aadd_ok m 2 n 1 (w64 (n + 1)) rfl w2 (H2.row.cell 2 (by omega)) (Row.free H2.row _)) ?_
  rintro _ w3 ⟨rfl, rfl⟩
  have rm3 := (H2.row.set 2 (.int .i64 (w64 (n + 1)))).congr (fun j hj => medF_n c f n _ j hj)
  have k3 : Keep [m] w2 (w2.setCell ⟨m, 2, none⟩ (.int .i64 (w64 (n + 1)))) := Keep.set m 2 _
  generalize w2.setCell _ _ = w3 at *
  have hbm : b ≠ m := by omega
  have H3 : Med w3 m c f cd g h (C.readE a) (w64 (n + 1)) := ⟨rm3, H2.chip.keep k3 (by simp; omega), H2.frm.keep0 k3 (by simp; have := H.mf; omega) (by simp; have := H.md; omega) (by simp; omega) (by simp; have := H.mh; omega)⟩
  have ly3 := ly.keep k3 (by simpa [blk] using hbm)
  have r43 := r42.keep k3 (by simp; omega)
  have hs3 := k3.size
  conv => whnf
  repeat ((first
    | refine HS.t ?_|refine Br.t ?_|refine Br.f ?_|refine Pk.f ?_|refine Pk.t ?_|refine Pk.and ?_|refine Pk.or ?_|refine Ix.n ?_|refine Ix.of _ (by rfl) (by omega) ?_|refine Ix.i ?_|refine Ar.la ?_|refine Ar.lb ?_|refine Ar.lc ?_|refine Dv.q ?_|refine Dv.r ?_|refine Br.y ?_|refine Br.n ?_|refine Br.ny ?_|refine Br.nn ?_|refine Br.is (by assumption) ?_|refine Br.isnt (by assumption) ?_|refine Ld.of (by assumption) ?_|refine Ru.neq_nil0 ?_|refine Ru.n1 ?_|refine Ru.eql_nil0 ?_|refine Ru.e1 ?_|refine Ru.e2 ?_|refine Ru.e3 ?_|refine Ru.n2 ?_|refine Ru.n3 ?_|refine Ru.neq_nil rfl ?_|refine Ru.eql_nil rfl ?_|refine Ru.eql_err rfl (by decide) ?_|refine Ru.neq_err rfl (by decide) ?_|refine Ru.be ?_|refine Ru.bn ?_|refine RuQ.be ?_|refine RuQ.bn ?_|refine CW.s ?_); conv => whnf)
  refine Ru.alloca (alloc_page w3) ?_
  intro x8 w4 hx8 hs4 r8 k4
  have H4 := H3.keep0 k4
  have ly4 := ly3.keep0 k4
  have r44 := r43.keep k4 (by simp)
  have k14 : Keep [m, c, g] w1 w4 := ((k2.mono (by simp)).trans (k3.mono (by simp))).trans (k4.mono (by simp))
  have K0 : Keep [m, c, g] w w4 := (k1.mono (by simp)).trans k14
  have hsz : w.heap.size ≤ x4 ∧ x4 < x8 ∧ b < x8 ∧ b ≠ x4 := by
    have := Ly.lt ly3 rfl
    have := r42.lt
    simp only at *
    omega
  conv => whnf
  repeat ((first
    | refine HS.t ?_|refine Br.t ?_|refine Br.f ?_|refine Pk.f ?_|refine Pk.t ?_|refine Pk.and ?_|refine Pk.or ?_|refine Ix.n ?_|refine Ix.of _ (by rfl) (by omega) ?_|refine Ix.i ?_|refine Ar.la ?_|refine Ar.lb ?_|refine Ar.lc ?_|refine Dv.q ?_|refine Dv.r ?_|refine Br.y ?_|refine Br.n ?_|refine Br.ny ?_|refine Br.nn ?_|refine Br.is (by assumption) ?_|refine Br.isnt (by assumption) ?_|refine Ld.of (by assumption) ?_|refine Ru.neq_nil0 ?_|refine Ru.n1 ?_|refine Ru.eql_nil0 ?_|refine Ru.e1 ?_|refine Ru.e2 ?_|refine Ru.e3 ?_|refine Ru.n2 ?_|refine Ru.n3 ?_|refine Ru.neq_nil rfl ?_|refine Ru.eql_nil rfl ?_|refine Ru.eql_err rfl (by decide) ?_|refine Ru.neq_err rfl (by decide) ?_|refine Ru.be ?_|refine Ru.bn ?_|refine RuQ.be ?_|refine RuQ.bn ?_|refine CW.s ?_); conv => whnf)
  refine CW.loop (ι := Nat) (fun i w' => i ≤ 4 ∧ Row w' x8 36 9 (pgc false Tg.zero false (.slice none 0 0) ((dmgUp p (fun k => decW (chk p k)) i : Nat) : Int)) ∧ Frm w' f cd g h ∧ Keep [g, x8] w4 w') (fun i => [(0, .pointer (some ⟨m, 0, none⟩)), (1, .int .i64 a), (4, .pointer (some ⟨x4, 0, none⟩)), (6, .slice (some ⟨b, 0, none⟩) 256 e), (8, .pointer (some ⟨x8, 0, none⟩)), (36, .int .i64 i)]) (fun i => 4 - i) 0 tt_ok ⟨by omega, r8, H4.frm, Keep.refl _ _⟩ ⟨rfl, rfl, rfl, rfl, rfl, rfl, trivial⟩ ?_
  rintro i wr ⟨hi, r8, hfr, kr⟩
  have hrow := H4.row.keep kr (by simp; omega)
  have lyr := ly4.keep kr (by simp [blk]; omega)
  have rdb : RdB wr (some ⟨b, 0, none⟩) 256 p := lyr.rd1
  have hec : 256 ≤ e := lyr.1
  have hszr := kr.size
  by_cases hl : i < 4
  · conv => whnf
    repeat ((first
      | (refine Ld.rowAt hrow 1 (by omega) (by omega) ?_)
      | refine HS.t ?_|refine Br.t ?_|refine Br.f ?_|refine Pk.f ?_|refine Pk.t ?_|refine Pk.and ?_|refine Pk.or ?_|refine Ix.n ?_|refine Ix.of _ (by rfl) (by omega) ?_|refine Ix.i ?_|refine Ar.la ?_|refine Ar.lb ?_|refine Ar.lc ?_|refine Dv.q ?_|refine Dv.r ?_|refine Br.y ?_|refine Br.n ?_|refine Br.ny ?_|refine Br.nn ?_|refine Br.is (by assumption) ?_|refine Br.isnt (by assumption) ?_|refine Ld.of (by assumption) ?_|refine Ru.neq_nil0 ?_|refine Ru.n1 ?_|refine Ru.eql_nil0 ?_|refine Ru.e1 ?_|refine Ru.e2 ?_|refine Ru.e3 ?_|refine Ru.n2 ?_|refine Ru.n3 ?_|refine Ru.neq_nil rfl ?_|refine Ru.eql_nil rfl ?_|refine Ru.eql_err rfl (by decide) ?_|refine Ru.neq_err rfl (by decide) ?_|refine Ru.be ?_|refine Ru.bn ?_|refine RuQ.be ?_|refine RuQ.bn ?_|refine CW.s ?_); conv => whnf)
    refine Ca.of (msg_ok wr f cd g h e (some ⟨b, 0, none⟩) p hpl rdb hec (fun a e => by cases e; simp only; omega) hfr i hl) ?_
    rintro v w5 ⟨f5, hv⟩
    have hfr5 := hfr.of f5
    have r85 := r8.keep f5.kp (by simp; omega)
    have k5 : Keep [g, x8] w4 w5 := kr.trans (f5.kp.mono (by simp))
    have hdu : dmgUp p (fun k => decW (chk p k)) (i + 1) = max (dmgUp p (fun k => decW (chk p k)) i) (match decW (chk p i) with | some V => GF.dist V (chk p i) | none => 0) := rfl
    rcases hv with ⟨b5, e5, V, hb5, hV, hcw, hdst, rfl, wd5⟩ | ⟨rfl, hbad⟩
    · obtain ⟨V', hV', he⟩ := decW_near (W := chk p i) ⟨hV, hcw, hdst⟩
      rw [hV'] at hdu
      simp only at hdu
      rw [dist_congr he] at hdu
      generalize dmgUp p (fun k => decW (chk p k)) i = D at *
      conv => whnf
      repeat ((first
        | (refine Ld.rowAt r85 8 (by omega) (by omega) ?_)
        | refine HS.t ?_|refine Br.t ?_|refine Br.f ?_|refine Pk.f ?_|refine Pk.t ?_|refine Pk.and ?_|refine Pk.or ?_|refine Ix.n ?_|refine Ix.of _ (by rfl) (by omega) ?_|refine Ix.i ?_|refine Ar.la ?_|refine Ar.lb ?_|refine Ar.lc ?_|refine Dv.q ?_|refine Dv.r ?_|refine Br.y ?_|refine Br.n ?_|refine Br.ny ?_|refine Br.nn ?_|refine Br.is (by assumption) ?_|refine Br.isnt (by assumption) ?_|refine Ld.of (by assumption) ?_|refine Ru.neq_nil0 ?_|refine Ru.n1 ?_|refine Ru.eql_nil0 ?_|refine Ru.e1 ?_|refine Ru.e2 ?_|refine Ru.e3 ?_|refine Ru.n2 ?_|refine Ru.n3 ?_|refine Ru.neq_nil rfl ?_|refine Ru.eql_nil rfl ?_|refine Ru.eql_err rfl (by decide) ?_|refine Ru.neq_err rfl (by decide) ?_|refine Ru.be ?_|refine Ru.bn ?_|refine RuQ.be ?_|refine RuQ.bn ?_|refine CW.s ?_); conv => whnf)
      refine Sd.rowAt r85 8 (by omega) (by omega) rfl ?_
      intro w6 r6 k6
      have r6' := r6.congr (fun j hj => pgc_d _ j hj)
      conv => whnf
      repeat ((first
        | refine HS.t ?_|refine Br.t ?_|refine Br.f ?_|refine Pk.f ?_|refine Pk.t ?_|refine Pk.and ?_|refine Pk.or ?_|refine Ix.n ?_|refine Ix.of _ (by rfl) (by omega) ?_|refine Ix.i ?_|refine Ar.la ?_|refine Ar.lb ?_|refine Ar.lc ?_|refine Dv.q ?_|refine Dv.r ?_|refine Br.y ?_|refine Br.n ?_|refine Br.ny ?_|refine Br.nn ?_|refine Br.is (by assumption) ?_|refine Br.isnt (by assumption) ?_|refine Ld.of (by assumption) ?_|refine Ru.neq_nil0 ?_|refine Ru.n1 ?_|refine Ru.eql_nil0 ?_|refine Ru.e1 ?_|refine Ru.e2 ?_|refine Ru.e3 ?_|refine Ru.n2 ?_|refine Ru.n3 ?_|refine Ru.neq_nil rfl ?_|refine Ru.eql_nil rfl ?_|refine Ru.eql_err rfl (by decide) ?_|refine Ru.neq_err rfl (by decide) ?_|refine Ru.be ?_|refine Ru.bn ?_|refine RuQ.be ?_|refine RuQ.bn ?_|refine CW.s ?_); conv => whnf)
      exact ⟨i + 1, ⟨hl, by rw [hdu, show ((max D (GF.dist V (chk p i)) : Nat) : Int) = max (D : Int) (GF.dist V (chk p i) : Nat) by omega]; exact r6', hfr5.keep0 k6 (by simp; have := H.lt; omega) (by simp; have := H.lt; omega) (by simp; omega) (by simp; have := H.lt; omega), k5.trans (k6.mono (by simp))⟩, ⟨rfl, rfl, rfl, rfl, rfl, vi (by omega), trivial⟩, by simp only; omega⟩
    · rw [decW_far (W := chk p i) hbad] at hdu
      simp only [Nat.max_zero] at hdu
      conv => whnf
      repeat ((first
        | refine HS.t ?_|refine Br.t ?_|refine Br.f ?_|refine Pk.f ?_|refine Pk.t ?_|refine Pk.and ?_|refine Pk.or ?_|refine Ix.n ?_|refine Ix.of _ (by rfl) (by omega) ?_|refine Ix.i ?_|refine Ar.la ?_|refine Ar.lb ?_|refine Ar.lc ?_|refine Dv.q ?_|refine Dv.r ?_|refine Br.y ?_|refine Br.n ?_|refine Br.ny ?_|refine Br.nn ?_|refine Br.is (by assumption) ?_|refine Br.isnt (by assumption) ?_|refine Ld.of (by assumption) ?_|refine Ru.neq_nil0 ?_|refine Ru.n1 ?_|refine Ru.eql_nil0 ?_|refine Ru.e1 ?_|refine Ru.e2 ?_|refine Ru.e3 ?_|refine Ru.n2 ?_|refine Ru.n3 ?_|refine Ru.neq_nil rfl ?_|refine Ru.eql_nil rfl ?_|refine Ru.eql_err rfl (by decide) ?_|refine Ru.neq_err rfl (by decide) ?_|refine Ru.be ?_|refine Ru.bn ?_|refine RuQ.be ?_|refine RuQ.bn ?_|refine CW.s ?_); conv => whnf)
      exact ⟨i + 1, ⟨hl, by rw [hdu]; exact r85, hfr5, k5⟩, ⟨rfl, rfl, rfl, rfl, rfl, vi (by omega), trivial⟩, by simp only; omega⟩
  obtain rfl : i = 4 := by omega
  conv => whnf
  repeat ((first
    | (refine Ld.rowAt hrow 1 (by omega) (by omega) ?_)
    | refine HS.t ?_|refine Br.t ?_|refine Br.f ?_|refine Pk.f ?_|refine Pk.t ?_|refine Pk.and ?_|refine Pk.or ?_|refine Ix.n ?_|refine Ix.of _ (by rfl) (by omega) ?_|refine Ix.i ?_|refine Ar.la ?_|refine Ar.lb ?_|refine Ar.lc ?_|refine Dv.q ?_|refine Dv.r ?_|refine Br.y ?_|refine Br.n ?_|refine Br.ny ?_|refine Br.nn ?_|refine Br.is (by assumption) ?_|refine Br.isnt (by assumption) ?_|refine Ld.of (by assumption) ?_|refine Ru.neq_nil0 ?_|refine Ru.n1 ?_|refine Ru.eql_nil0 ?_|refine Ru.e1 ?_|refine Ru.e2 ?_|refine Ru.e3 ?_|refine Ru.n2 ?_|refine Ru.n3 ?_|refine Ru.neq_nil rfl ?_|refine Ru.eql_nil rfl ?_|refine Ru.eql_err rfl (by decide) ?_|refine Ru.neq_err rfl (by decide) ?_|refine Ru.be ?_|refine Ru.bn ?_|refine RuQ.be ?_|refine RuQ.bn ?_|refine CW.s ?_); conv => whnf)
  refine Ca.of (body_ok wr f cd g h e (some ⟨b, 0, none⟩) p hpl rdb hec (fun a e => by cases e; simp only; omega) hfr) ?_
  rintro v w5 ⟨f5, hv⟩
  have hfr5 := hfr.of f5
  have r85 := r8.keep f5.kp (by simp; omega)
  have k5 : Keep [g, x8] w4 w5 := kr.trans (f5.kp.mono (by simp))
  have r45 := r44.keep k5 (by simp; omega)
  have hs5 := k5.size
  have hmed : ∀ {S : List Nat} {w' : World}, Keep S w4 w' → Frm w' f cd g h → m ∉ S → c ∉ S → Med w' m c f cd g h (C.readE a) (w64 (n + 1)) := fun k hf h1 h2 => ⟨H4.row.keep k h1, H4.chip.keep k h2, hf⟩
  have hR : readP p a = readR (fun k => decW (chk p k)) (dmgUp p (fun k => decW (chk p k)) 4) a := rfl
  generalize dmgUp p (fun k => decW (chk p k)) 4 = D at *
  rcases hv with ⟨X, V, hX, hV, hcw, hdst, hmk, rfl, lyX⟩ | ⟨er, her, rfl, hno⟩
  case inr =>
    have hR' : readP p a = ⟨false, Tg.zero, false, D, fun _ => 0⟩ := by
      rw [hR]
      exact readR_none (fun V hV ht => by
        obtain ⟨h1, h2, h3⟩ := decW_some hV
        exact hno V h1 h2 h3 ht.1)
    have her0 : er ≠ 0 := by omega
    conv => whnf
    repeat ((first
      | (refine Ru.neq_nil rfl ?_)
      | (refine Br.yes her0 ?_)
      | (refine Br.nno her0 ?_)
      | refine HS.t ?_|refine Br.t ?_|refine Br.f ?_|refine Pk.f ?_|refine Pk.t ?_|refine Pk.and ?_|refine Pk.or ?_|refine Ix.n ?_|refine Ix.of _ (by rfl) (by omega) ?_|refine Ix.i ?_|refine Ar.la ?_|refine Ar.lb ?_|refine Ar.lc ?_|refine Dv.q ?_|refine Dv.r ?_|refine Br.y ?_|refine Br.n ?_|refine Br.ny ?_|refine Br.nn ?_|refine Br.is (by assumption) ?_|refine Br.isnt (by assumption) ?_|refine Ld.of (by assumption) ?_|refine Ru.neq_nil0 ?_|refine Ru.n1 ?_|refine Ru.eql_nil0 ?_|refine Ru.e1 ?_|refine Ru.e2 ?_|refine Ru.e3 ?_|refine Ru.n2 ?_|refine Ru.n3 ?_|refine Ru.neq_nil rfl ?_|refine Ru.eql_nil rfl ?_|refine Ru.eql_err rfl (by decide) ?_|refine Ru.neq_err rfl (by decide) ?_|refine Ru.be ?_|refine Ru.bn ?_|refine RuQ.be ?_|refine RuQ.bn ?_|refine CW.s ?_); conv => whnf)
    refine Ru.ldpage r85 ?_
    conv => whnf
    repeat ((first
      | refine HS.t ?_|refine Br.t ?_|refine Br.f ?_|refine Pk.f ?_|refine Pk.t ?_|refine Pk.and ?_|refine Pk.or ?_|refine Ix.n ?_|refine Ix.of _ (by rfl) (by omega) ?_|refine Ix.i ?_|refine Ar.la ?_|refine Ar.lb ?_|refine Ar.lc ?_|refine Dv.q ?_|refine Dv.r ?_|refine Br.y ?_|refine Br.n ?_|refine Br.ny ?_|refine Br.nn ?_|refine Br.is (by assumption) ?_|refine Br.isnt (by assumption) ?_|refine Ld.of (by assumption) ?_|refine Ru.neq_nil0 ?_|refine Ru.n1 ?_|refine Ru.eql_nil0 ?_|refine Ru.e1 ?_|refine Ru.e2 ?_|refine Ru.e3 ?_|refine Ru.n2 ?_|refine Ru.n3 ?_|refine Ru.neq_nil rfl ?_|refine Ru.eql_nil rfl ?_|refine Ru.eql_err rfl (by decide) ?_|refine Ru.neq_err rfl (by decide) ?_|refine Ru.be ?_|refine Ru.bn ?_|refine RuQ.be ?_|refine RuQ.bn ?_|refine CW.s ?_); conv => whnf)
    refine Ru.stpage r45 (pgc_one rfl) ?_
    intro w6 r6 k6
    conv => whnf
    repeat ((first
      | refine HS.t ?_|refine Br.t ?_|refine Br.f ?_|refine Pk.f ?_|refine Pk.t ?_|refine Pk.and ?_|refine Pk.or ?_|refine Ix.n ?_|refine Ix.of _ (by rfl) (by omega) ?_|refine Ix.i ?_|refine Ar.la ?_|refine Ar.lb ?_|refine Ar.lc ?_|refine Dv.q ?_|refine Dv.r ?_|refine Br.y ?_|refine Br.n ?_|refine Br.ny ?_|refine Br.nn ?_|refine Br.is (by assumption) ?_|refine Br.isnt (by assumption) ?_|refine Ld.of (by assumption) ?_|refine Ru.neq_nil0 ?_|refine Ru.n1 ?_|refine Ru.eql_nil0 ?_|refine Ru.e1 ?_|refine Ru.e2 ?_|refine Ru.e3 ?_|refine Ru.n2 ?_|refine Ru.n3 ?_|refine Ru.neq_nil rfl ?_|refine Ru.eql_nil rfl ?_|refine Ru.eql_err rfl (by decide) ?_|refine Ru.neq_err rfl (by decide) ?_|refine Ru.be ?_|refine Ru.bn ?_|refine RuQ.be ?_|refine RuQ.bn ?_|refine CW.s ?_); conv => whnf)
    refine Ru.ldpage r6 ?_
    conv => whnf
    repeat ((first
      | refine HS.t ?_|refine Br.t ?_|refine Br.f ?_|refine Pk.f ?_|refine Pk.t ?_|refine Pk.and ?_|refine Pk.or ?_|refine Ix.n ?_|refine Ix.of _ (by rfl) (by omega) ?_|refine Ix.i ?_|refine Ar.la ?_|refine Ar.lb ?_|refine Ar.lc ?_|refine Dv.q ?_|refine Dv.r ?_|refine Br.y ?_|refine Br.n ?_|refine Br.ny ?_|refine Br.nn ?_|refine Br.is (by assumption) ?_|refine Br.isnt (by assumption) ?_|refine Ld.of (by assumption) ?_|refine Ru.neq_nil0 ?_|refine Ru.n1 ?_|refine Ru.eql_nil0 ?_|refine Ru.e1 ?_|refine Ru.e2 ?_|refine Ru.e3 ?_|refine Ru.n2 ?_|refine Ru.n3 ?_|refine Ru.neq_nil rfl ?_|refine Ru.eql_nil rfl ?_|refine Ru.eql_err rfl (by decide) ?_|refine Ru.neq_err rfl (by decide) ?_|refine Ru.be ?_|refine Ru.bn ?_|refine RuQ.be ?_|refine RuQ.bn ?_|refine CW.s ?_); conv => whnf)
    have hT : ∀ x, x ∈ [g, x8, x4] → x ∈ [m, c, g] ∨ w.heap.size ≤ x := fun x hx => by
      simp at hx ⊢
      rcases hx with h | h | h <;> omega
    have k46 : Keep [g, x8, x4] w4 w6 := (k5.mono (by simp)).trans (k6.mono (by simp))
    refine ⟨rfl, .inr ⟨hoff, .slice none 0 0, ?_⟩⟩
    rw [hp, hR']
    exact ⟨.inr ⟨rfl, rfl⟩, rfl, hmed k46 (hfr5.keep0 k6 (by simp; omega) (by simp; omega) (by simp; omega) (by simp; omega)) (by simp; omega) (by simp; omega), K0.then k46 hT⟩
  obtain ⟨V', hV', heV⟩ := decW_near (W := chk p 3) ⟨hV, hcw, hdst⟩
  have rdX : Rd w5 X 50 (fun j => .int .u8 (natI V j)) := lyX.rd1
  conv => whnf
  repeat ((first
    | refine HS.t ?_|refine Br.t ?_|refine Br.f ?_|refine Pk.f ?_|refine Pk.t ?_|refine Pk.and ?_|refine Pk.or ?_|refine Ix.n ?_|refine Ix.of _ (by rfl) (by omega) ?_|refine Ix.i ?_|refine Ar.la ?_|refine Ar.lb ?_|refine Ar.lc ?_|refine Dv.q ?_|refine Dv.r ?_|refine Br.y ?_|refine Br.n ?_|refine Br.ny ?_|refine Br.nn ?_|refine Br.is (by assumption) ?_|refine Br.isnt (by assumption) ?_|refine Ld.of (by assumption) ?_|refine Ru.neq_nil0 ?_|refine Ru.n1 ?_|refine Ru.eql_nil0 ?_|refine Ru.e1 ?_|refine Ru.e2 ?_|refine Ru.e3 ?_|refine Ru.n2 ?_|refine Ru.n3 ?_|refine Ru.neq_nil rfl ?_|refine Ru.eql_nil rfl ?_|refine Ru.eql_err rfl (by decide) ?_|refine Ru.neq_err rfl (by decide) ?_|refine Ru.be ?_|refine Ru.bn ?_|refine RuQ.be ?_|refine RuQ.bn ?_|refine CW.s ?_); conv => whnf)
  refine Ca.of (decode_ok X 50 50 (natI V) w5 rdX (fun j => by have := hV j; unfold natI; omega) (by omega)) ?_
  rintro _ w6 ⟨rfl, k6⟩
  have hfr6 := hfr5.keep0 k6 (by simp) (by simp) (by simp) (by simp)
  have r86 := r85.keep k6 (by simp)
  have r46 := r45.keep k6 (by simp)
  conv => whnf
  repeat ((first
    | refine HS.t ?_|refine Br.t ?_|refine Br.f ?_|refine Pk.f ?_|refine Pk.t ?_|refine Pk.and ?_|refine Pk.or ?_|refine Ix.n ?_|refine Ix.of _ (by rfl) (by omega) ?_|refine Ix.i ?_|refine Ar.la ?_|refine Ar.lb ?_|refine Ar.lc ?_|refine Dv.q ?_|refine Dv.r ?_|refine Br.y ?_|refine Br.n ?_|refine Br.ny ?_|refine Br.nn ?_|refine Br.is (by assumption) ?_|refine Br.isnt (by assumption) ?_|refine Ld.of (by assumption) ?_|refine Ru.neq_nil0 ?_|refine Ru.n1 ?_|refine Ru.eql_nil0 ?_|refine Ru.e1 ?_|refine Ru.e2 ?_|refine Ru.e3 ?_|refine Ru.n2 ?_|refine Ru.n3 ?_|refine Ru.neq_nil rfl ?_|refine Ru.eql_nil rfl ?_|refine Ru.eql_err rfl (by decide) ?_|refine Ru.neq_err rfl (by decide) ?_|refine Ru.be ?_|refine Ru.bn ?_|refine RuQ.be ?_|refine RuQ.bn ?_|refine CW.s ?_); conv => whnf)
  refine Ru.alloctg ?_
  intro x15 w7 hx15 hs7 r15 k7
  conv => whnf
  repeat ((first
    | refine HS.t ?_|refine Br.t ?_|refine Br.f ?_|refine Pk.f ?_|refine Pk.t ?_|refine Pk.and ?_|refine Pk.or ?_|refine Ix.n ?_|refine Ix.of _ (by rfl) (by omega) ?_|refine Ix.i ?_|refine Ar.la ?_|refine Ar.lb ?_|refine Ar.lc ?_|refine Dv.q ?_|refine Dv.r ?_|refine Br.y ?_|refine Br.n ?_|refine Br.ny ?_|refine Br.nn ?_|refine Br.is (by assumption) ?_|refine Br.isnt (by assumption) ?_|refine Ld.of (by assumption) ?_|refine Ru.neq_nil0 ?_|refine Ru.n1 ?_|refine Ru.eql_nil0 ?_|refine Ru.e1 ?_|refine Ru.e2 ?_|refine Ru.e3 ?_|refine Ru.n2 ?_|refine Ru.n3 ?_|refine Ru.neq_nil rfl ?_|refine Ru.eql_nil rfl ?_|refine Ru.eql_err rfl (by decide) ?_|refine Ru.neq_err rfl (by decide) ?_|refine Ru.be ?_|refine Ru.bn ?_|refine RuQ.be ?_|refine RuQ.bn ?_|refine CW.s ?_); conv => whnf)
  refine Ru.sttg r15 ?_
  intro w8 r15 k8
  have hs6 := k6.size
  have hfr8 := (hfr6.keep0 k7 (by simp) (by simp) (by simp) (by simp)).keep0 k8 (by simp; omega) (by simp; omega) (by simp; omega) (by simp; omega)
  have r88 := (r86.keep k7 (by simp)).keep k8 (by simp; omega)
  have r48 := (r46.keep k7 (by simp)).keep k8 (by simp; omega)
  have k48 : Keep [g, x8, x15] w4 w8 := (((k5.mono (by simp)).trans (k6.mono (by simp))).trans (k7.mono (by simp))).trans (k8.mono (by simp))
  have hl8 := k8.size
  have hT8 : ∀ x, x ∈ [g, x8, x15] → x ∈ [m, c, g] ∨ w.heap.size ≤ x := fun x hx => by
    simp at hx ⊢
    rcases hx with h | h | h <;> omega
  clear k6 k7 k8 hfr5 hfr6 r85 r86 r45 r46
  have bad : ¬ TagOk V a → readP p a = ⟨false, Tg.zero, false, D, fun _ => 0⟩ := fun hn => by
    rw [hR]
    exact readR_none (fun U hU ht => by
      rw [hV'] at hU
      cases hU
      exact hn (ht.congr heV))
  by_cases hok : decOk (natI V)
  case neg =>
    have hR' := bad (fun ht => hok ht.2.1)
    rw [decV_bad hok]
    conv => whnf
    repeat ((first
      | (refine Ru.neq_nil1 (by decide) ?_)
      | refine HS.t ?_|refine Br.t ?_|refine Br.f ?_|refine Pk.f ?_|refine Pk.t ?_|refine Pk.and ?_|refine Pk.or ?_|refine Ix.n ?_|refine Ix.of _ (by rfl) (by omega) ?_|refine Ix.i ?_|refine Ar.la ?_|refine Ar.lb ?_|refine Ar.lc ?_|refine Dv.q ?_|refine Dv.r ?_|refine Br.y ?_|refine Br.n ?_|refine Br.ny ?_|refine Br.nn ?_|refine Br.is (by assumption) ?_|refine Br.isnt (by assumption) ?_|refine Ld.of (by assumption) ?_|refine Ru.neq_nil0 ?_|refine Ru.n1 ?_|refine Ru.eql_nil0 ?_|refine Ru.e1 ?_|refine Ru.e2 ?_|refine Ru.e3 ?_|refine Ru.n2 ?_|refine Ru.n3 ?_|refine Ru.neq_nil rfl ?_|refine Ru.eql_nil rfl ?_|refine Ru.eql_err rfl (by decide) ?_|refine Ru.neq_err rfl (by decide) ?_|refine Ru.be ?_|refine Ru.bn ?_|refine RuQ.be ?_|refine RuQ.bn ?_|refine CW.s ?_); conv => whnf)
    refine Ru.ldpage r88 ?_
    conv => whnf
    repeat ((first
      | refine HS.t ?_|refine Br.t ?_|refine Br.f ?_|refine Pk.f ?_|refine Pk.t ?_|refine Pk.and ?_|refine Pk.or ?_|refine Ix.n ?_|refine Ix.of _ (by rfl) (by omega) ?_|refine Ix.i ?_|refine Ar.la ?_|refine Ar.lb ?_|refine Ar.lc ?_|refine Dv.q ?_|refine Dv.r ?_|refine Br.y ?_|refine Br.n ?_|refine Br.ny ?_|refine Br.nn ?_|refine Br.is (by assumption) ?_|refine Br.isnt (by assumption) ?_|refine Ld.of (by assumption) ?_|refine Ru.neq_nil0 ?_|refine Ru.n1 ?_|refine Ru.eql_nil0 ?_|refine Ru.e1 ?_|refine Ru.e2 ?_|refine Ru.e3 ?_|refine Ru.n2 ?_|refine Ru.n3 ?_|refine Ru.neq_nil rfl ?_|refine Ru.eql_nil rfl ?_|refine Ru.eql_err rfl (by decide) ?_|refine Ru.neq_err rfl (by decide) ?_|refine Ru.be ?_|refine Ru.bn ?_|refine RuQ.be ?_|refine RuQ.bn ?_|refine CW.s ?_); conv => whnf)
    refine Ru.stpage r48 (pgc_one rfl) ?_
    intro w9 r9 k9
    conv => whnf
    repeat ((first
      | refine HS.t ?_|refine Br.t ?_|refine Br.f ?_|refine Pk.f ?_|refine Pk.t ?_|refine Pk.and ?_|refine Pk.or ?_|refine Ix.n ?_|refine Ix.of _ (by rfl) (by omega) ?_|refine Ix.i ?_|refine Ar.la ?_|refine Ar.lb ?_|refine Ar.lc ?_|refine Dv.q ?_|refine Dv.r ?_|refine Br.y ?_|refine Br.n ?_|refine Br.ny ?_|refine Br.nn ?_|refine Br.is (by assumption) ?_|refine Br.isnt (by assumption) ?_|refine Ld.of (by assumption) ?_|refine Ru.neq_nil0 ?_|refine Ru.n1 ?_|refine Ru.eql_nil0 ?_|refine Ru.e1 ?_|refine Ru.e2 ?_|refine Ru.e3 ?_|refine Ru.n2 ?_|refine Ru.n3 ?_|refine Ru.neq_nil rfl ?_|refine Ru.eql_nil rfl ?_|refine Ru.eql_err rfl (by decide) ?_|refine Ru.neq_err rfl (by decide) ?_|refine Ru.be ?_|refine Ru.bn ?_|refine RuQ.be ?_|refine RuQ.bn ?_|refine CW.s ?_); conv => whnf)
    refine Ru.ldpage r9 ?_
    conv => whnf
    repeat ((first
      | refine HS.t ?_|refine Br.t ?_|refine Br.f ?_|refine Pk.f ?_|refine Pk.t ?_|refine Pk.and ?_|refine Pk.or ?_|refine Ix.n ?_|refine Ix.of _ (by rfl) (by omega) ?_|refine Ix.i ?_|refine Ar.la ?_|refine Ar.lb ?_|refine Ar.lc ?_|refine Dv.q ?_|refine Dv.r ?_|refine Br.y ?_|refine Br.n ?_|refine Br.ny ?_|refine Br.nn ?_|refine Br.is (by assumption) ?_|refine Br.isnt (by assumption) ?_|refine Ld.of (by assumption) ?_|refine Ru.neq_nil0 ?_|refine Ru.n1 ?_|refine Ru.eql_nil0 ?_|refine Ru.e1 ?_|refine Ru.e2 ?_|refine Ru.e3 ?_|refine Ru.n2 ?_|refine Ru.n3 ?_|refine Ru.neq_nil rfl ?_|refine Ru.eql_nil rfl ?_|refine Ru.eql_err rfl (by decide) ?_|refine Ru.neq_err rfl (by decide) ?_|refine Ru.be ?_|refine Ru.bn ?_|refine RuQ.be ?_|refine RuQ.bn ?_|refine CW.s ?_); conv => whnf)
    have k49 : Keep [g, x8, x15, x4] w4 w9 := (k48.mono (by simp)).trans (k9.mono (by simp))
    refine ⟨rfl, .inr ⟨hoff, .slice none 0 0, ?_⟩⟩
    rw [hp, hR']
    exact ⟨.inr ⟨rfl, rfl⟩, rfl, hmed k49 (hfr8.keep0 k9 (by simp; omega) (by simp; omega) (by simp; omega) (by simp; omega)) (by simp; omega) (by simp; omega), K0.then k49 (fun x hx => by
      simp at hx ⊢
      rcases hx with h | h | h | h <;> omega)⟩
  rw [decV_ok hok] at r15 ⊢
  by_cases hpl2 : (decT (natI V)).place = a
  case neg =>
    have hR' := bad (fun ht => hpl2 ht.2.2)
    conv => whnf
    repeat ((first
      | (refine Ld.rowAt r15 0 (by omega) (by omega) ?_)
      | (refine Br.nyes hpl2 ?_)
      | (refine Br.nno hpl2 ?_)
      | refine HS.t ?_|refine Br.t ?_|refine Br.f ?_|refine Pk.f ?_|refine Pk.t ?_|refine Pk.and ?_|refine Pk.or ?_|refine Ix.n ?_|refine Ix.of _ (by rfl) (by omega) ?_|refine Ix.i ?_|refine Ar.la ?_|refine Ar.lb ?_|refine Ar.lc ?_|refine Dv.q ?_|refine Dv.r ?_|refine Br.y ?_|refine Br.n ?_|refine Br.ny ?_|refine Br.nn ?_|refine Br.is (by assumption) ?_|refine Br.isnt (by assumption) ?_|refine Ld.of (by assumption) ?_|refine Ru.neq_nil0 ?_|refine Ru.n1 ?_|refine Ru.eql_nil0 ?_|refine Ru.e1 ?_|refine Ru.e2 ?_|refine Ru.e3 ?_|refine Ru.n2 ?_|refine Ru.n3 ?_|refine Ru.neq_nil rfl ?_|refine Ru.eql_nil rfl ?_|refine Ru.eql_err rfl (by decide) ?_|refine Ru.neq_err rfl (by decide) ?_|refine Ru.be ?_|refine Ru.bn ?_|refine RuQ.be ?_|refine RuQ.bn ?_|refine CW.s ?_); conv => whnf)
    refine Ru.ldpage r88 ?_
    conv => whnf
    repeat ((first
      | refine HS.t ?_|refine Br.t ?_|refine Br.f ?_|refine Pk.f ?_|refine Pk.t ?_|refine Pk.and ?_|refine Pk.or ?_|refine Ix.n ?_|refine Ix.of _ (by rfl) (by omega) ?_|refine Ix.i ?_|refine Ar.la ?_|refine Ar.lb ?_|refine Ar.lc ?_|refine Dv.q ?_|refine Dv.r ?_|refine Br.y ?_|refine Br.n ?_|refine Br.ny ?_|refine Br.nn ?_|refine Br.is (by assumption) ?_|refine Br.isnt (by assumption) ?_|refine Ld.of (by assumption) ?_|refine Ru.neq_nil0 ?_|refine Ru.n1 ?_|refine Ru.eql_nil0 ?_|refine Ru.e1 ?_|refine Ru.e2 ?_|refine Ru.e3 ?_|refine Ru.n2 ?_|refine Ru.n3 ?_|refine Ru.neq_nil rfl ?_|refine Ru.eql_nil rfl ?_|refine Ru.eql_err rfl (by decide) ?_|refine Ru.neq_err rfl (by decide) ?_|refine Ru.be ?_|refine Ru.bn ?_|refine RuQ.be ?_|refine RuQ.bn ?_|refine CW.s ?_); conv => whnf)
    refine Ru.stpage r48 (pgc_one rfl) ?_
    intro w9 r9 k9
    conv => whnf
    repeat ((first
      | refine HS.t ?_|refine Br.t ?_|refine Br.f ?_|refine Pk.f ?_|refine Pk.t ?_|refine Pk.and ?_|refine Pk.or ?_|refine Ix.n ?_|refine Ix.of _ (by rfl) (by omega) ?_|refine Ix.i ?_|refine Ar.la ?_|refine Ar.lb ?_|refine Ar.lc ?_|refine Dv.q ?_|refine Dv.r ?_|refine Br.y ?_|refine Br.n ?_|refine Br.ny ?_|refine Br.nn ?_|refine Br.is (by assumption) ?_|refine Br.isnt (by assumption) ?_|refine Ld.of (by assumption) ?_|refine Ru.neq_nil0 ?_|refine Ru.n1 ?_|refine Ru.eql_nil0 ?_|refine Ru.e1 ?_|refine Ru.e2 ?_|refine Ru.e3 ?_|refine Ru.n2 ?_|refine Ru.n3 ?_|refine Ru.neq_nil rfl ?_|refine Ru.eql_nil rfl ?_|refine Ru.eql_err rfl (by decide) ?_|refine Ru.neq_err rfl (by decide) ?_|refine Ru.be ?_|refine Ru.bn ?_|refine RuQ.be ?_|refine RuQ.bn ?_|refine CW.s ?_); conv => whnf)
    refine Ru.ldpage r9 ?_
    conv => whnf
    repeat ((first
      | refine HS.t ?_|refine Br.t ?_|refine Br.f ?_|refine Pk.f ?_|refine Pk.t ?_|refine Pk.and ?_|refine Pk.or ?_|refine Ix.n ?_|refine Ix.of _ (by rfl) (by omega) ?_|refine Ix.i ?_|refine Ar.la ?_|refine Ar.lb ?_|refine Ar.lc ?_|refine Dv.q ?_|refine Dv.r ?_|refine Br.y ?_|refine Br.n ?_|refine Br.ny ?_|refine Br.nn ?_|refine Br.is (by assumption) ?_|refine Br.isnt (by assumption) ?_|refine Ld.of (by assumption) ?_|refine Ru.neq_nil0 ?_|refine Ru.n1 ?_|refine Ru.eql_nil0 ?_|refine Ru.e1 ?_|refine Ru.e2 ?_|refine Ru.e3 ?_|refine Ru.n2 ?_|refine Ru.n3 ?_|refine Ru.neq_nil rfl ?_|refine Ru.eql_nil rfl ?_|refine Ru.eql_err rfl (by decide) ?_|refine Ru.neq_err rfl (by decide) ?_|refine Ru.be ?_|refine Ru.bn ?_|refine RuQ.be ?_|refine RuQ.bn ?_|refine CW.s ?_); conv => whnf)
    have k49 : Keep [g, x8, x15, x4] w4 w9 := (k48.mono (by simp)).trans (k9.mono (by simp))
    refine ⟨rfl, .inr ⟨hoff, .slice none 0 0, ?_⟩⟩
    rw [hp, hR']
    exact ⟨.inr ⟨rfl, rfl⟩, rfl, hmed k49 (hfr8.keep0 k9 (by simp; omega) (by simp; omega) (by simp; omega) (by simp; omega)) (by simp; omega) (by simp; omega), K0.then k49 (fun x hx => by
      simp at hx ⊢
      rcases hx with h | h | h | h <;> omega)⟩
  have htag : TagOk V a := ⟨hmk, hok, hpl2⟩
  have htag' : TagOk V' a := htag.congr (fun i hi => (heV i hi).symm)
  have htV : decT (natI V') = decT (natI V) := decT_congr heV
  conv => whnf
  repeat ((first
    | (refine Ld.rowAt r15 0 (by omega) (by omega) ?_)
    | (refine Br.nno (fun h => h hpl2) ?_)
    | (refine Br.nno (not_not_intro hpl2) ?_)
    | refine HS.t ?_|refine Br.t ?_|refine Br.f ?_|refine Pk.f ?_|refine Pk.t ?_|refine Pk.and ?_|refine Pk.or ?_|refine Ix.n ?_|refine Ix.of _ (by rfl) (by omega) ?_|refine Ix.i ?_|refine Ar.la ?_|refine Ar.lb ?_|refine Ar.lc ?_|refine Dv.q ?_|refine Dv.r ?_|refine Br.y ?_|refine Br.n ?_|refine Br.ny ?_|refine Br.nn ?_|refine Br.is (by assumption) ?_|refine Br.isnt (by assumption) ?_|refine Ld.of (by assumption) ?_|refine Ru.neq_nil0 ?_|refine Ru.n1 ?_|refine Ru.eql_nil0 ?_|refine Ru.e1 ?_|refine Ru.e2 ?_|refine Ru.e3 ?_|refine Ru.n2 ?_|refine Ru.n3 ?_|refine Ru.neq_nil rfl ?_|refine Ru.eql_nil rfl ?_|refine Ru.eql_err rfl (by decide) ?_|refine Ru.neq_err rfl (by decide) ?_|refine Ru.be ?_|refine Ru.bn ?_|refine RuQ.be ?_|refine RuQ.bn ?_|refine CW.s ?_); conv => whnf)
  refine CW.held (fun w' => Row w' x15 29 5 (decT (natI V)).cell) [4] (.take 0 (.take 1 (.one 2 (.take 3 (.one 4 (.done)))))) tt_ok (by kernel_rfl) (by kernel_rfl) (by kernel_rfl) ?_ ?_
  · exact r15.drewN 1
  have r15 := r15.drewN 1
  have r88 := r88.drewN 1
  have r48 := r48.drewN 1
  have hfr8 := hfr8.drewN 1
  have k48 := k48.drewN 1
  have hl8 : w7.heap.size ≤ (w8.drewN 1).heap.size := hl8
  generalize w8.drewN 1 = w9 at *
  conv => whnf
  repeat ((first
    | (refine RuQ.ldtg (fun _ h => h) ?_)
    | refine HS.t ?_|refine Br.t ?_|refine Br.f ?_|refine Pk.f ?_|refine Pk.t ?_|refine Pk.and ?_|refine Pk.or ?_|refine Ix.n ?_|refine Ix.of _ (by rfl) (by omega) ?_|refine Ix.i ?_|refine Ar.la ?_|refine Ar.lb ?_|refine Ar.lc ?_|refine Dv.q ?_|refine Dv.r ?_|refine Br.y ?_|refine Br.n ?_|refine Br.ny ?_|refine Br.nn ?_|refine Br.is (by assumption) ?_|refine Br.isnt (by assumption) ?_|refine Ld.of (by assumption) ?_|refine Ru.neq_nil0 ?_|refine Ru.n1 ?_|refine Ru.eql_nil0 ?_|refine Ru.e1 ?_|refine Ru.e2 ?_|refine Ru.e3 ?_|refine Ru.n2 ?_|refine Ru.n3 ?_|refine Ru.neq_nil rfl ?_|refine Ru.eql_nil rfl ?_|refine Ru.eql_err rfl (by decide) ?_|refine Ru.neq_err rfl (by decide) ?_|refine Ru.be ?_|refine Ru.bn ?_|refine RuQ.be ?_|refine RuQ.bn ?_|refine CW.s ?_); conv => whnf)
  refine Sd.rowAt r88 0 (by omega) (by omega) rfl ?_
  intro w10 r10 k10
  have r10' := r10.congr (fun j hj => pgc_tg _ j hj)
  have r15 := r15.keep k10 (by simp; omega)
  clear r10 r88
  conv => whnf
  repeat ((first
    | refine HS.t ?_|refine Br.t ?_|refine Br.f ?_|refine Pk.f ?_|refine Pk.t ?_|refine Pk.and ?_|refine Pk.or ?_|refine Ix.n ?_|refine Ix.of _ (by rfl) (by omega) ?_|refine Ix.i ?_|refine Ar.la ?_|refine Ar.lb ?_|refine Ar.lc ?_|refine Dv.q ?_|refine Dv.r ?_|refine Br.y ?_|refine Br.n ?_|refine Br.ny ?_|refine Br.nn ?_|refine Br.is (by assumption) ?_|refine Br.isnt (by assumption) ?_|refine Ld.of (by assumption) ?_|refine Ru.neq_nil0 ?_|refine Ru.n1 ?_|refine Ru.eql_nil0 ?_|refine Ru.e1 ?_|refine Ru.e2 ?_|refine Ru.e3 ?_|refine Ru.n2 ?_|refine Ru.n3 ?_|refine Ru.neq_nil rfl ?_|refine Ru.eql_nil rfl ?_|refine Ru.eql_err rfl (by decide) ?_|refine Ru.neq_err rfl (by decide) ?_|refine Ru.be ?_|refine Ru.bn ?_|refine RuQ.be ?_|refine RuQ.bn ?_|refine CW.s ?_); conv => whnf)
  refine ⟨r15, ?_⟩
  conv => whnf
  repeat ((first
    | refine HS.t ?_|refine Br.t ?_|refine Br.f ?_|refine Pk.f ?_|refine Pk.t ?_|refine Pk.and ?_|refine Pk.or ?_|refine Ix.n ?_|refine Ix.of _ (by rfl) (by omega) ?_|refine Ix.i ?_|refine Ar.la ?_|refine Ar.lb ?_|refine Ar.lc ?_|refine Dv.q ?_|refine Dv.r ?_|refine Br.y ?_|refine Br.n ?_|refine Br.ny ?_|refine Br.nn ?_|refine Br.is (by assumption) ?_|refine Br.isnt (by assumption) ?_|refine Ld.of (by assumption) ?_|refine Ru.neq_nil0 ?_|refine Ru.n1 ?_|refine Ru.eql_nil0 ?_|refine Ru.e1 ?_|refine Ru.e2 ?_|refine Ru.e3 ?_|refine Ru.n2 ?_|refine Ru.n3 ?_|refine Ru.neq_nil rfl ?_|refine Ru.eql_nil rfl ?_|refine Ru.eql_err rfl (by decide) ?_|refine Ru.neq_err rfl (by decide) ?_|refine Ru.be ?_|refine Ru.bn ?_|refine RuQ.be ?_|refine RuQ.bn ?_|refine CW.s ?_); conv => whnf)
  refine Ru.sttgAt r10' (by omega) ?_
  intro w11 r11 k11
  have r15 := r15.keep k11 (by simp; omega)
  have hfr11 := (hfr8.keep0 k10 (by simp; omega) (by simp; omega) (by simp; omega) (by simp; omega)).keep0 k11 (by simp; omega) (by simp; omega) (by simp; omega) (by simp; omega)
  have k411 : Keep [g, x8, x15] w4 w11 := (k48.trans (k10.mono (by simp))).trans (k11.mono (by simp))
  have row11 := H4.row.keep k411 (by simp; omega)
  have ly11 := ly4.keep k411 (by simp [blk]; omega)
  have r411 := (r48.keep k10 (by simp; omega)).keep k11 (by simp; omega)
  have rdb11 : RdB w11 (some ⟨b, 0, none⟩) 256 p := ly11.rd1
  have hec : 256 ≤ e := ly11.1
  have hs11 := k411.size
  conv => whnf
  repeat ((first
    | (refine Ld.rowAt row11 1 (by omega) (by omega) ?_)
    | refine HS.t ?_|refine Br.t ?_|refine Br.f ?_|refine Pk.f ?_|refine Pk.t ?_|refine Pk.and ?_|refine Pk.or ?_|refine Ix.n ?_|refine Ix.of _ (by rfl) (by omega) ?_|refine Ix.i ?_|refine Ar.la ?_|refine Ar.lb ?_|refine Ar.lc ?_|refine Dv.q ?_|refine Dv.r ?_|refine Br.y ?_|refine Br.n ?_|refine Br.ny ?_|refine Br.nn ?_|refine Br.is (by assumption) ?_|refine Br.isnt (by assumption) ?_|refine Ld.of (by assumption) ?_|refine Ru.neq_nil0 ?_|refine Ru.n1 ?_|refine Ru.eql_nil0 ?_|refine Ru.e1 ?_|refine Ru.e2 ?_|refine Ru.e3 ?_|refine Ru.n2 ?_|refine Ru.n3 ?_|refine Ru.neq_nil rfl ?_|refine Ru.eql_nil rfl ?_|refine Ru.eql_err rfl (by decide) ?_|refine Ru.neq_err rfl (by decide) ?_|refine Ru.be ?_|refine Ru.bn ?_|refine RuQ.be ?_|refine RuQ.bn ?_|refine CW.s ?_); conv => whnf)
  refine Ca.of (data_ok w11 f cd g h e (some ⟨b, 0, none⟩) p hpl rdb11 hec (fun a e => by cases e; simp only; omega) hfr11) ?_
  rintro v w12 ⟨f12, hv⟩
  have hfr12 := hfr11.of f12
  have r12 := r11.keep f12.kp (by simp; omega)
  have r412 := r411.keep f12.kp (by simp; omega)
  have k412 : Keep [g, x8, x15] w4 w12 := k411.trans (f12.kp.mono (by simp))
  rcases hv with ⟨O, oc, U, mm, hU, rfl, hO, lyO⟩ | ⟨rfl, kk, hkk, hfar⟩
  · have hall : ∀ k, k < 3 → ∃ U', decW (chk p k) = some U' ∧ ∀ i, i < 64 → U' i = U k i := fun k hk => decW_near (hU k hk)
    have hsome : (decW (chk p 0)).isSome ∧ (decW (chk p 1)).isSome ∧ (decW (chk p 2)).isSome := by
      obtain ⟨a0, h0, _⟩ := hall 0 (by omega)
      obtain ⟨a1, h1, _⟩ := hall 1 (by omega)
      obtain ⟨a2, h2, _⟩ := hall 2 (by omega)
      rw [h0, h1, h2]
      exact ⟨rfl, rfl, rfl⟩
    have hR' : readP p a = ⟨true, decT (natI V'), true, D, fun j => ((decW (chk p (j / 58))).getD (fun _ => 0)) (j % 58)⟩ := by
      rw [hR]
      exact readR_all hV' htag' hsome
    conv => whnf
    repeat ((first
      | refine HS.t ?_|refine Br.t ?_|refine Br.f ?_|refine Pk.f ?_|refine Pk.t ?_|refine Pk.and ?_|refine Pk.or ?_|refine Ix.n ?_|refine Ix.of _ (by rfl) (by omega) ?_|refine Ix.i ?_|refine Ar.la ?_|refine Ar.lb ?_|refine Ar.lc ?_|refine Dv.q ?_|refine Dv.r ?_|refine Br.y ?_|refine Br.n ?_|refine Br.ny ?_|refine Br.nn ?_|refine Br.is (by assumption) ?_|refine Br.isnt (by assumption) ?_|refine Ld.of (by assumption) ?_|refine Ru.neq_nil0 ?_|refine Ru.n1 ?_|refine Ru.eql_nil0 ?_|refine Ru.e1 ?_|refine Ru.e2 ?_|refine Ru.e3 ?_|refine Ru.n2 ?_|refine Ru.n3 ?_|refine Ru.neq_nil rfl ?_|refine Ru.eql_nil rfl ?_|refine Ru.eql_err rfl (by decide) ?_|refine Ru.neq_err rfl (by decide) ?_|refine Ru.be ?_|refine Ru.bn ?_|refine RuQ.be ?_|refine RuQ.bn ?_|refine CW.s ?_); conv => whnf)
    refine Sd.rowAt r12 6 (by omega) (by omega) rfl ?_
    intro w13 r13 k13
    have r13' := r13.congr (fun j hj => pgc_s _ j hj)
    have lyO3 := lyO.keep k13 (fun x hx => by simp; have := hO x hx; have := r11.lt; omega)
    conv => whnf
    repeat ((first
      | refine HS.t ?_|refine Br.t ?_|refine Br.f ?_|refine Pk.f ?_|refine Pk.t ?_|refine Pk.and ?_|refine Pk.or ?_|refine Ix.n ?_|refine Ix.of _ (by rfl) (by omega) ?_|refine Ix.i ?_|refine Ar.la ?_|refine Ar.lb ?_|refine Ar.lc ?_|refine Dv.q ?_|refine Dv.r ?_|refine Br.y ?_|refine Br.n ?_|refine Br.ny ?_|refine Br.nn ?_|refine Br.is (by assumption) ?_|refine Br.isnt (by assumption) ?_|refine Ld.of (by assumption) ?_|refine Ru.neq_nil0 ?_|refine Ru.n1 ?_|refine Ru.eql_nil0 ?_|refine Ru.e1 ?_|refine Ru.e2 ?_|refine Ru.e3 ?_|refine Ru.n2 ?_|refine Ru.n3 ?_|refine Ru.neq_nil rfl ?_|refine Ru.eql_nil rfl ?_|refine Ru.eql_err rfl (by decide) ?_|refine Ru.neq_err rfl (by decide) ?_|refine Ru.be ?_|refine Ru.bn ?_|refine RuQ.be ?_|refine RuQ.bn ?_|refine CW.s ?_); conv => whnf)
    refine Sd.rowAt r13' 7 (by omega) (by omega) rfl ?_
    intro w14 r14 k14'
    have r14' := r14.congr (fun j hj => pgc_dv _ j hj)
    have lyO4 := lyO3.keep k14' (fun x hx => by simp; have := hO x hx; have := r11.lt; omega)
    have r414 := (r412.keep k13 (by simp; omega)).keep k14' (by simp; omega)
    conv => whnf
    repeat ((first
      | refine HS.t ?_|refine Br.t ?_|refine Br.f ?_|refine Pk.f ?_|refine Pk.t ?_|refine Pk.and ?_|refine Pk.or ?_|refine Ix.n ?_|refine Ix.of _ (by rfl) (by omega) ?_|refine Ix.i ?_|refine Ar.la ?_|refine Ar.lb ?_|refine Ar.lc ?_|refine Dv.q ?_|refine Dv.r ?_|refine Br.y ?_|refine Br.n ?_|refine Br.ny ?_|refine Br.nn ?_|refine Br.is (by assumption) ?_|refine Br.isnt (by assumption) ?_|refine Ld.of (by assumption) ?_|refine Ru.neq_nil0 ?_|refine Ru.n1 ?_|refine Ru.eql_nil0 ?_|refine Ru.e1 ?_|refine Ru.e2 ?_|refine Ru.e3 ?_|refine Ru.n2 ?_|refine Ru.n3 ?_|refine Ru.neq_nil rfl ?_|refine Ru.eql_nil rfl ?_|refine Ru.eql_err rfl (by decide) ?_|refine Ru.neq_err rfl (by decide) ?_|refine Ru.be ?_|refine Ru.bn ?_|refine RuQ.be ?_|refine RuQ.bn ?_|refine CW.s ?_); conv => whnf)
    refine Ru.ldpage r14' ?_
    conv => whnf
    repeat ((first
      | refine HS.t ?_|refine Br.t ?_|refine Br.f ?_|refine Pk.f ?_|refine Pk.t ?_|refine Pk.and ?_|refine Pk.or ?_|refine Ix.n ?_|refine Ix.of _ (by rfl) (by omega) ?_|refine Ix.i ?_|refine Ar.la ?_|refine Ar.lb ?_|refine Ar.lc ?_|refine Dv.q ?_|refine Dv.r ?_|refine Br.y ?_|refine Br.n ?_|refine Br.ny ?_|refine Br.nn ?_|refine Br.is (by assumption) ?_|refine Br.isnt (by assumption) ?_|refine Ld.of (by assumption) ?_|refine Ru.neq_nil0 ?_|refine Ru.n1 ?_|refine Ru.eql_nil0 ?_|refine Ru.e1 ?_|refine Ru.e2 ?_|refine Ru.e3 ?_|refine Ru.n2 ?_|refine Ru.n3 ?_|refine Ru.neq_nil rfl ?_|refine Ru.eql_nil rfl ?_|refine Ru.eql_err rfl (by decide) ?_|refine Ru.neq_err rfl (by decide) ?_|refine Ru.be ?_|refine Ru.bn ?_|refine RuQ.be ?_|refine RuQ.bn ?_|refine CW.s ?_); conv => whnf)
    refine Ru.stpage r414 (pgc_one rfl) ?_
    intro w15 r15' k15
    conv => whnf
    repeat ((first
      | refine HS.t ?_|refine Br.t ?_|refine Br.f ?_|refine Pk.f ?_|refine Pk.t ?_|refine Pk.and ?_|refine Pk.or ?_|refine Ix.n ?_|refine Ix.of _ (by rfl) (by omega) ?_|refine Ix.i ?_|refine Ar.la ?_|refine Ar.lb ?_|refine Ar.lc ?_|refine Dv.q ?_|refine Dv.r ?_|refine Br.y ?_|refine Br.n ?_|refine Br.ny ?_|refine Br.nn ?_|refine Br.is (by assumption) ?_|refine Br.isnt (by assumption) ?_|refine Ld.of (by assumption) ?_|refine Ru.neq_nil0 ?_|refine Ru.n1 ?_|refine Ru.eql_nil0 ?_|refine Ru.e1 ?_|refine Ru.e2 ?_|refine Ru.e3 ?_|refine Ru.n2 ?_|refine Ru.n3 ?_|refine Ru.neq_nil rfl ?_|refine Ru.eql_nil rfl ?_|refine Ru.eql_err rfl (by decide) ?_|refine Ru.neq_err rfl (by decide) ?_|refine Ru.be ?_|refine Ru.bn ?_|refine RuQ.be ?_|refine RuQ.bn ?_|refine CW.s ?_); conv => whnf)
    refine Ru.ldpage r15' ?_
    conv => whnf
    repeat ((first
      | refine HS.t ?_|refine Br.t ?_|refine Br.f ?_|refine Pk.f ?_|refine Pk.t ?_|refine Pk.and ?_|refine Pk.or ?_|refine Ix.n ?_|refine Ix.of _ (by rfl) (by omega) ?_|refine Ix.i ?_|refine Ar.la ?_|refine Ar.lb ?_|refine Ar.lc ?_|refine Dv.q ?_|refine Dv.r ?_|refine Br.y ?_|refine Br.n ?_|refine Br.ny ?_|refine Br.nn ?_|refine Br.is (by assumption) ?_|refine Br.isnt (by assumption) ?_|refine Ld.of (by assumption) ?_|refine Ru.neq_nil0 ?_|refine Ru.n1 ?_|refine Ru.eql_nil0 ?_|refine Ru.e1 ?_|refine Ru.e2 ?_|refine Ru.e3 ?_|refine Ru.n2 ?_|refine Ru.n3 ?_|refine Ru.neq_nil rfl ?_|refine Ru.eql_nil rfl ?_|refine Ru.eql_err rfl (by decide) ?_|refine Ru.neq_err rfl (by decide) ?_|refine Ru.be ?_|refine Ru.bn ?_|refine RuQ.be ?_|refine RuQ.bn ?_|refine CW.s ?_); conv => whnf)
    have lyO5 := lyO4.keep k15 (fun x hx => by simp; have := hO x hx; have := r48.lt; omega)
    have k415 : Keep [g, x8, x15, x4] w4 w15 := (((k412.mono (by simp)).trans (k13.mono (by simp))).trans (k14'.mono (by simp))).trans (k15.mono (by simp))
    have hfr15 := ((hfr12.keep0 k13 (by simp; omega) (by simp; omega) (by simp; omega) (by simp; omega)).keep0 k14' (by simp; omega) (by simp; omega) (by simp; omega) (by simp; omega)).keep0 k15 (by simp; omega) (by simp; omega) (by simp; omega) (by simp; omega)
    refine ⟨rfl, .inr ⟨hoff, .slice O 174 oc, ?_⟩⟩
    rw [hp, hR', htV]
    refine ⟨.inl ⟨rfl, O, oc, rfl, fun x hx => by have := hO x hx; omega, lyO5.congr (fun j hj => ?_)⟩, rfl, hmed k415 hfr15 (by simp; omega) (by simp; omega), K0.then k415 (fun x hx => by
      simp at hx ⊢
      rcases hx with h | h | h | h <;> omega)⟩
    have hj3 : j / 58 < 3 := by omega
    obtain ⟨U', hU', he⟩ := hall (j / 58) hj3
    simp only [hU', Option.getD_some]
    rw [he _ (by omega)]
  · have hR' : readP p a = ⟨true, decT (natI V'), false, D, fun _ => 0⟩ := by
      rw [hR]
      refine readR_tag hV' htag' (fun h => ?_)
      have hn := decW_far hfar
      have : kk = 0 ∨ kk = 1 ∨ kk = 2 := by omega
      rcases this with rfl | rfl | rfl
      · rw [hn] at h; exact absurd h.1 (by simp)
      · rw [hn] at h; exact absurd h.2.1 (by simp)
      · rw [hn] at h; exact absurd h.2.2 (by simp)
    conv => whnf
    repeat ((first
      | refine HS.t ?_|refine Br.t ?_|refine Br.f ?_|refine Pk.f ?_|refine Pk.t ?_|refine Pk.and ?_|refine Pk.or ?_|refine Ix.n ?_|refine Ix.of _ (by rfl) (by omega) ?_|refine Ix.i ?_|refine Ar.la ?_|refine Ar.lb ?_|refine Ar.lc ?_|refine Dv.q ?_|refine Dv.r ?_|refine Br.y ?_|refine Br.n ?_|refine Br.ny ?_|refine Br.nn ?_|refine Br.is (by assumption) ?_|refine Br.isnt (by assumption) ?_|refine Ld.of (by assumption) ?_|refine Ru.neq_nil0 ?_|refine Ru.n1 ?_|refine Ru.eql_nil0 ?_|refine Ru.e1 ?_|refine Ru.e2 ?_|refine Ru.e3 ?_|refine Ru.n2 ?_|refine Ru.n3 ?_|refine Ru.neq_nil rfl ?_|refine Ru.eql_nil rfl ?_|refine Ru.eql_err rfl (by decide) ?_|refine Ru.neq_err rfl (by decide) ?_|refine Ru.be ?_|refine Ru.bn ?_|refine RuQ.be ?_|refine RuQ.bn ?_|refine CW.s ?_); conv => whnf)
    refine Ru.ldpage r12 ?_
    conv => whnf
    repeat ((first
      | refine HS.t ?_|refine Br.t ?_|refine Br.f ?_|refine Pk.f ?_|refine Pk.t ?_|refine Pk.and ?_|refine Pk.or ?_|refine Ix.n ?_|refine Ix.of _ (by rfl) (by omega) ?_|refine Ix.i ?_|refine Ar.la ?_|refine Ar.lb ?_|refine Ar.lc ?_|refine Dv.q ?_|refine Dv.r ?_|refine Br.y ?_|refine Br.n ?_|refine Br.ny ?_|refine Br.nn ?_|refine Br.is (by assumption) ?_|refine Br.isnt (by assumption) ?_|refine Ld.of (by assumption) ?_|refine Ru.neq_nil0 ?_|refine Ru.n1 ?_|refine Ru.eql_nil0 ?_|refine Ru.e1 ?_|refine Ru.e2 ?_|refine Ru.e3 ?_|refine Ru.n2 ?_|refine Ru.n3 ?_|refine Ru.neq_nil rfl ?_|refine Ru.eql_nil rfl ?_|refine Ru.eql_err rfl (by decide) ?_|refine Ru.neq_err rfl (by decide) ?_|refine Ru.be ?_|refine Ru.bn ?_|refine RuQ.be ?_|refine RuQ.bn ?_|refine CW.s ?_); conv => whnf)
    refine Ru.stpage r412 (pgc_one rfl) ?_
    intro w15 r15' k15
    conv => whnf
    repeat ((first
      | refine HS.t ?_|refine Br.t ?_|refine Br.f ?_|refine Pk.f ?_|refine Pk.t ?_|refine Pk.and ?_|refine Pk.or ?_|refine Ix.n ?_|refine Ix.of _ (by rfl) (by omega) ?_|refine Ix.i ?_|refine Ar.la ?_|refine Ar.lb ?_|refine Ar.lc ?_|refine Dv.q ?_|refine Dv.r ?_|refine Br.y ?_|refine Br.n ?_|refine Br.ny ?_|refine Br.nn ?_|refine Br.is (by assumption) ?_|refine Br.isnt (by assumption) ?_|refine Ld.of (by assumption) ?_|refine Ru.neq_nil0 ?_|refine Ru.n1 ?_|refine Ru.eql_nil0 ?_|refine Ru.e1 ?_|refine Ru.e2 ?_|refine Ru.e3 ?_|refine Ru.n2 ?_|refine Ru.n3 ?_|refine Ru.neq_nil rfl ?_|refine Ru.eql_nil rfl ?_|refine Ru.eql_err rfl (by decide) ?_|refine Ru.neq_err rfl (by decide) ?_|refine Ru.be ?_|refine Ru.bn ?_|refine RuQ.be ?_|refine RuQ.bn ?_|refine CW.s ?_); conv => whnf)
    refine Ru.ldpage r15' ?_
    conv => whnf
    repeat ((first
      | refine HS.t ?_|refine Br.t ?_|refine Br.f ?_|refine Pk.f ?_|refine Pk.t ?_|refine Pk.and ?_|refine Pk.or ?_|refine Ix.n ?_|refine Ix.of _ (by rfl) (by omega) ?_|refine Ix.i ?_|refine Ar.la ?_|refine Ar.lb ?_|refine Ar.lc ?_|refine Dv.q ?_|refine Dv.r ?_|refine Br.y ?_|refine Br.n ?_|refine Br.ny ?_|refine Br.nn ?_|refine Br.is (by assumption) ?_|refine Br.isnt (by assumption) ?_|refine Ld.of (by assumption) ?_|refine Ru.neq_nil0 ?_|refine Ru.n1 ?_|refine Ru.eql_nil0 ?_|refine Ru.e1 ?_|refine Ru.e2 ?_|refine Ru.e3 ?_|refine Ru.n2 ?_|refine Ru.n3 ?_|refine Ru.neq_nil rfl ?_|refine Ru.eql_nil rfl ?_|refine Ru.eql_err rfl (by decide) ?_|refine Ru.neq_err rfl (by decide) ?_|refine Ru.be ?_|refine Ru.bn ?_|refine RuQ.be ?_|refine RuQ.bn ?_|refine CW.s ?_); conv => whnf)
    have k415 : Keep [g, x8, x15, x4] w4 w15 := (k412.mono (by simp)).trans (k15.mono (by simp))
    have hfr15 := hfr12.keep0 k15 (by simp; omega) (by simp; omega) (by simp; omega) (by simp; omega)
    refine ⟨rfl, .inr ⟨hoff, .slice none 0 0, ?_⟩⟩
    rw [hp, hR', htV]
    exact ⟨.inr ⟨rfl, rfl⟩, rfl, hmed k415 hfr15 (by simp; omega) (by simp; omega), K0.then k415 (fun x hx => by
      simp at hx ⊢
      rcases hx with h | h | h | h <;> omega)⟩
end Go.Proofs.Ytkpaafjnjmmehaa
/- Tags: their equality; what was encoded comes back. -/
namespace Go.Proofs.Ytkpaafjnjmmehaa
open Go.RowKit
set_option linter.unusedVariables false
theorem eq_tg (d : Nat) (f g : Tg) (w : World) : (Op.equalIn (d + 2) 29 (.agg f.arr) (.agg g.arr)).run Try.prog w = .ok (decide (f = g)) w := by
  have e : decide (f = g) = (decide (f.place = g.place) && (decide (f.of = g.of) && (decide (f.seq = g.seq) && (decide (f.copy = g.copy) && (decide (f.lost = g.lost) && true))))) := by
    rw [Bool.eq_iff_iff]
    simp only [Bool.and_eq_true, decide_eq_true_eq, Bool.and_true]
    obtain ⟨a, b, c, d, e⟩ := f
    obtain ⟨a', b', c', d', e'⟩ := g
    simp
  rw [e]
  refine eqA_of Try.underlying29 (by kernel_rfl) ?_
  refine eqf_cons (by decide +kernel) (part_cell (by kernel_rfl) rfl) (part_cell (by kernel_rfl) rfl) (eq_int Try.underlying3) ?_
  refine eqf_cons (by decide +kernel) (part_cell (by kernel_rfl) rfl) (part_cell (by kernel_rfl) rfl) (eq_int Try.underlying3) ?_
  refine eqf_cons (by decide +kernel) (part_cell (by kernel_rfl) rfl) (part_cell (by kernel_rfl) rfl) (eq_int Try.underlying2) ?_
  refine eqf_cons (by decide +kernel) (part_cell (by kernel_rfl) rfl) (part_cell (by kernel_rfl) rfl) (eq_int Try.underlying3) ?_
  refine eqf_cons (by decide +kernel) (part_cell (by kernel_rfl) rfl) (part_cell (by kernel_rfl) rfl) (eq_bool Try.underlying4) ?_
  exact eqf_nil
theorem eql_tg (x y : Operand) (f g : Tg) (w : World) : (do eqGuard .eql 29 x y (.agg f.arr) (.agg g.arr); binOp .eql 29 (.agg f.arr) (.agg g.arr) : Sem Value).run Try.prog w = .ok (.bool (decide (f = g))) w := by
  rw [Sem.run_bind, run_eqGuard_agg w _ _ _ _ _ _ (by kernel_rfl), Result.andThen_ok, run_eql_struct, eq_tg 9998]
  rfl
theorem neq_tg (x y : Operand) (f g : Tg) (w : World) : (do eqGuard .neq 29 x y (.agg f.arr) (.agg g.arr); binOp .neq 29 (.agg f.arr) (.agg g.arr) : Sem Value).run Try.prog w = .ok (.bool (!decide (f = g))) w := by
  rw [Sem.run_bind, run_eqGuard_agg w _ _ _ _ _ _ (by kernel_rfl), Result.andThen_ok, run_neq_struct, eq_tg 9998]
  rfl
theorem numOf_byte (v : Int) (hv : 0 ≤ v) (n : Nat) : numOf (byteOf v) n = v % 256 ^ n := by
  induction n with
  | zero => simp [numOf]
  | succ n ih =>
    rw [numOf_snoc, ih]
    unfold byteOf
    have hp : (0 : Int) < 256 ^ n := Int.pow_pos (by omega)
    have h1 := Int.emod_add_mul_ediv v (256 ^ n)
    have h2 := Int.emod_add_mul_ediv (v / 256 ^ n) 256
    have h3 := Int.emod_add_mul_ediv v (256 ^ (n + 1))
    rw [Int.pow_succ] at h3 ⊢
    rw [← Int.ediv_ediv_of_nonneg (Int.le_of_lt hp)] at h3
    generalize v / 256 ^ n = x at *
    have e : 256 ^ n * 256 * (x / 256) = 256 ^ n * (256 * (x / 256)) := Int.mul_assoc _ _ _
    rw [e] at h3
    have e2 : 256 ^ n * x = 256 ^ n * (x % 256) + 256 ^ n * (256 * (x / 256)) := by rw [← Int.mul_add, h2]
    have e3 : x % 256 * 256 ^ n = 256 ^ n * (x % 256) := Int.mul_comm _ _
    omega
theorem numOf_back (v : Int) (hv : 0 ≤ v) (n : Nat) (h : v / 256 ^ n = 0) : numOf (byteOf v) n = v := by
  rw [numOf_byte v hv]
  have h1 := Int.emod_add_mul_ediv v (256 ^ n)
  rw [h, Int.mul_zero, Int.add_zero] at h1
  exact h1
theorem back_t {t : Tg} (ht : t.ok) : decT (bodyF t) = t := by
  obtain ⟨h0, h1, h2, h3, h4, h5, h6, h7, _, _⟩ := ht
  have e0 : numOf (bodyF t) 2 = t.place := by
    rw [numOf_congr (f := bodyF t) (g := byteOf t.place) 2 (fun j hj => by unfold bodyF; rw [if_pos (by omega)])]
    exact numOf_back _ (by omega) 2 (Int.ediv_eq_zero_of_lt (by omega) (by omega))
  have e2 : numOf (fun j => bodyF t (3 + j)) 5 = t.seq := by
    rw [numOf_congr (f := fun j => bodyF t (3 + j)) (g := byteOf t.seq) 5 (fun j hj => by
      unfold bodyF
      rw [if_neg (by omega), if_neg (by omega), if_pos (by omega)]
      congr 1
      omega)]
    exact numOf_back _ (by omega) 5 (Int.ediv_eq_zero_of_lt (by omega) (by omega))
  have e1 : bodyF t 2 = t.of := byte0 (by omega) (by omega)
  have e3 : bodyF t 8 = t.copy := byte0 (by omega) (by omega)
  have e4 : decide (bodyF t 9 = 1) = t.lost := by
    have : bodyF t 9 = byteOf (if t.lost then 1 else 0) 0 := rfl
    rw [this]
    cases t.lost <;> decide
  unfold decT
  rw [e0, e1, e2, e3, e4]
theorem back_ok {t : Tg} (ht : t.ok) : decV 50 (bodyF t) = (t, 0) := by
  have e := back_t ht
  have : decOk (bodyF t) := by
    unfold decOk
    rw [e]
    exact ⟨ht, fun _ _ => rfl⟩
  rw [decV_ok this, e]
end Go.Proofs.Ytkpaafjnjmmehaa
/- Layer 8: Program. -/
namespace Go.Proofs.Ytkpaafjnjmmehaa
open Go.RowKit
set_option linter.unusedVariables false
set_option maxRecDepth 20000
attribute [local irreducible] GF.pw GF.lg GF.mul GF.inv GF.xt
/-- The first n chunks of a page are written, until one can't be. -/
def Chip.prog (C : Chip) (a : Nat) (W : Nat → Nat → Nat) : Nat → Chip × Int
  | 0 => (C, 0)
  | k + 1 => if (C.prog a W k).2 = 0 then (C.prog a W k).1.write a k (W k) else C.prog a W k
def bodyN (t : Tg) (j : Nat) : Nat := (bodyF t j).toNat
theorem bodyN_lt (t : Tg) (j : Nat) : bodyN t j < 256 := by
  have := bodyF_bd t j
  unfold bodyN
  omega
theorem bodyN_int (t : Tg) (j : Nat) : ((bodyN t j : Nat) : Int) = bodyF t j := by
  have := bodyF_bd t j
  unfold bodyN
  omega
/-- The codewords of a page. -/
def encP (D : Nat → Nat) (t : Tg) (k : Nat) : Nat → Nat := GF.encW (msg58 (layF D (bodyN t)) k)
theorem hit_wf {C : Chip} (h : C.Wf) (B : Nat) : (C.hit B).Wf := by
  unfold Chip.hit
  split
  · refine ⟨h.b0, h.b1, fun b => ?_, h.now, h.truth⟩
    have := h.bf b
    have := h.bf B
    simp only [upd]
    split <;> omega
  · exact h
theorem setCh_wf {C : Chip} (h : C.Wf) (a k : Nat) {x : Chunk} (h1 : ∀ i, x.now i < 256) (h2 : ∀ i, x.truth i < 256) : (C.setCh a k x).Wf := by
  refine ⟨h.b0, h.b1, h.bf, fun a' k' i => ?_, fun a' k' i => ?_⟩
  · unfold Chip.setCh
    simp only
    split
    · exact h1 i
    · exact h.now _ _ _
  · unfold Chip.setCh
    simp only
    split
    · exact h2 i
    · exact h.truth _ _ _
theorem write_wf {C : Chip} (h : C.Wf) (a k : Nat) {b : Nat → Nat} (hb : ∀ i, b i < 256) : (C.write a k b).1.Wf := by
  unfold Chip.write
  split
  · exact h
  · split
    · exact h
    · split
      · split
        · exact hit_wf h.step _
        · exact setCh_wf (hit_wf h.step _) _ _ hb hb
      · exact h.step
theorem prog_wf {C : Chip} (h : C.Wf) (a : Nat) {W : Nat → Nat → Nat} (hW : ∀ k i, W k i < 256) : ∀ n, (C.prog a W n).1.Wf
  | 0 => h
  | n + 1 => by
    have ih := prog_wf h a hW n
    unfold Chip.prog
    split
    · exact write_wf ih _ _ (hW n)
    · exact ih
theorem stepE_off {C : Chip} (h : C.stepE.2 = 0) : C.stepE.1.off = C.off := by
  unfold Chip.stepE at h ⊢
  split
  · rename_i hc
    rw [if_pos hc] at h
    split
    · rename_i h0
      rw [if_pos h0] at h
      cases h
    · rfl
  · rfl
theorem hit_off (C : Chip) (B : Nat) : (C.hit B).off = C.off := by
  unfold Chip.hit
  split <;> rfl
/-- A write that was done. -/
theorem write_done {C : Chip} {a k : Nat} {b : Nat → Nat} (h : (C.write a k b).2 = 0) : C.off = false ∧ (C.write a k b).1.off = false ∧ (C.ch a k).is = false ∧ (C.write a k b).1.ch = (C.setCh a k ⟨b, b, true, 0⟩).ch := by
  unfold Chip.write at h ⊢
  by_cases h1 : C.off = true
  · rw [if_pos h1] at h
    cases h
  rw [if_neg h1] at h ⊢
  by_cases h2 : (C.ch a k).is = true
  · rw [if_pos h2] at h
    cases h
  rw [if_neg h2] at h ⊢
  by_cases h3 : C.stepE.2 = 0
  · rw [if_pos h3] at h ⊢
    by_cases h4 : (C.stepE.1.hit (a / 8)).failed (a / 8) = true
    · rw [if_pos h4] at h
      cases h
    · rw [if_neg h4]
      refine ⟨by simpa using h1, ?_, by simpa using h2, ?_⟩
      · show (C.stepE.1.hit (a / 8)).off = false
        rw [hit_off, stepE_off h3]
        simpa using h1
      · unfold Chip.setCh
        simp only [Chip.hit_ch, Chip.stepE_ch]
  · rw [if_neg h3] at h
    exact absurd h h3
theorem prog_done {C : Chip} {a : Nat} {W : Nat → Nat → Nat} : ∀ {n : Nat}, 0 < n → (C.prog a W n).2 = 0 → (C.prog a W n).1.off = false ∧ ∀ k, k < n → (C.prog a W n).1.ch a k = ⟨W k, W k, true, 0⟩
  | 0, h0, _ => absurd h0 (by omega)
  | n + 1, _, h => by
    unfold Chip.prog at h ⊢
    by_cases h1 : (C.prog a W n).2 = 0
    · rw [if_pos h1] at h ⊢
      obtain ⟨g1, g2, g3, g4⟩ := write_done h
      refine ⟨g2, fun k hk => ?_⟩
      rw [g4]
      by_cases hkn : k = n
      · subst hkn
        rw [Chip.setCh_same]
      · rw [Chip.setCh_ne _ _ (fun e => hkn e.2)]
        have hn : 0 < n := by omega
        exact (prog_done hn h1).2 k (by omega)
    · rw [if_neg h1] at h
      exact absurd h h1
/-- A page that was programmed is read as it was. -/
theorem readP_enc {p D : Nat → Nat} {t : Tg} {a : Nat} (hD : ∀ j, D j < 256) (ht : t.ok) (hta : t.place = a) (hp : ∀ k, k < 4 → ∀ i, i < 64 → chk p k i = encP D t k i) :
    (readP p a).tagged = true ∧ (readP p a).tag = t ∧ (readP p a).sound = true ∧ (∀ j, j < 174 → (readP p a).data j = D j) := by
  have hq : ∀ j, layF D (bodyN t) j < 256 := layF_lt hD (bodyN_lt t)
  have hnear : ∀ k, k < 4 → Near (encP D t k) (chk p k) := fun k hk => ⟨GF.encW_lt (fun j => hq _), GF.enc_cw (fun j => hq _), by
    rw [GF.dist_comm, dist_congr (hp k hk), dist_self]
    omega⟩
  have hdec : ∀ k, k < 4 → ∃ V, decW (chk p k) = some V ∧ ∀ i, i < 64 → V i = encP D t k i := fun k hk => decW_near (hnear k hk)
  obtain ⟨V, hV, he⟩ := hdec 3 (by omega)
  have hb : ∀ j, j < 50 → natI V j = bodyF t j := fun j hj => by
    unfold natI
    rw [he j (by omega)]
    unfold encP GF.encW
    rw [if_pos (by omega)]
    unfold msg58 layF
    rw [if_neg (by omega), if_pos (by omega), show 3 * 58 + j - 174 = j by omega, bodyN_int]
  have hm : ∀ j, j < 8 → natI V (50 + j) = markF j := fun j hj => by
    unfold natI
    rw [he (50 + j) (by omega)]
    unfold encP GF.encW
    rw [if_pos (by omega)]
    unfold msg58 layF
    rw [if_neg (by omega), if_neg (by omega), show 3 * 58 + (50 + j) - 224 = j by omega, markF_nat]
  have hdT : decT (natI V) = t := by
    rw [← back_t ht]
    unfold decT
    rw [numOf_congr (f := natI V) (g := bodyF t) 2 (fun j hj => hb j (by omega)), numOf_congr (f := fun j => natI V (3 + j)) (g := fun j => bodyF t (3 + j)) 5 (fun j hj => hb (3 + j) (by omega)), hb 2 (by omega), hb 8 (by omega), hb 9 (by omega)]
  have htag : TagOk V a := ⟨hm, by unfold decOk; rw [hdT]; exact ⟨ht, fun j hj => (hb j hj).symm⟩, by rw [hdT]; exact hta⟩
  have hs : (decW (chk p 0)).isSome ∧ (decW (chk p 1)).isSome ∧ (decW (chk p 2)).isSome := by
    obtain ⟨a0, h0, _⟩ := hdec 0 (by omega)
    obtain ⟨a1, h1, _⟩ := hdec 1 (by omega)
    obtain ⟨a2, h2, _⟩ := hdec 2 (by omega)
    rw [h0, h1, h2]
    exact ⟨rfl, rfl, rfl⟩
  have hR : readP p a = ⟨true, decT (natI V), true, _, _⟩ := readR_all hV htag hs
  rw [hR, hdT]
  refine ⟨rfl, rfl, rfl, fun j hj => ?_⟩
  simp only
  obtain ⟨U, hU, hUe⟩ := hdec (j / 58) (by omega)
  rw [hU, Option.getD_some, hUe _ (by omega)]
  unfold encP GF.encW
  rw [if_pos (by omega)]
  unfold msg58 layF
  rw [show j / 58 * 58 + j % 58 = j by omega, if_pos hj]
end Go.Proofs.Ytkpaafjnjmmehaa
/- Layer 8: Program: its walk. -/
namespace Go.Proofs.Ytkpaafjnjmmehaa
open Go.RowKit
set_option linter.unusedVariables false
set_option maxRecDepth 20000
attribute [local irreducible] GF.pw GF.lg GF.mul GF.inv GF.xt
theorem prog_stuck {C : Chip} {a : Nat} {W : Nat → Nat → Nat} {i : Nat} (h : (C.prog a W i).2 ≠ 0) : ∀ n, i ≤ n → C.prog a W n = C.prog a W i
  | 0, h0 => by
    obtain rfl : i = 0 := by omega
    rfl
  | n + 1, h0 => by
    by_cases hn : i = n + 1
    · subst hn
      rfl
    · have ih := prog_stuck h n (by omega)
      show (if (C.prog a W n).2 = 0 then (C.prog a W n).1.write a n (W n) else C.prog a W n) = _
      rw [ih, if_neg h]
def PgmEnd (w : World) (m c f cd g h a : Nat) (C : Chip) (n : Int) (D : Nat → Nat) (t : Tg) (v : Value) (w' : World) : Prop :=
  Keep [m, c, g] w w' ∧ (((C.prog a (encP D t) 4).2 ≠ 0 ∧ v = errOf (C.prog a (encP D t) 4).2 ∧ Med w' m c f cd g h (C.prog a (encP D t) 4).1 n) ∨
    ((C.prog a (encP D t) 4).2 = 0 ∧ v = errOf 0 ∧ Med w' m c f cd g h ((C.prog a (encP D t) 4).1.readE a) (w64 (n + 1))))
theorem Ru.ldtgAt {w : World} {x o : Nat} {tg s : Bool} {t : Tg} {dv : Value} {d : Int} {K : Value → World → Prop} (r : Row w x 36 9 (pgc tg t s dv d)) (e : o = 1) (k : K (.agg t.arr) w) : Ru Try.prog (loadVar 29 ⟨x, o, none⟩) w K := by
  subst e
  refine ⟨_, _, run_tg r (by omega) (fun j hj => ?_), k⟩
  have : j = 0 ∨ j = 1 ∨ j = 2 ∨ j = 3 ∨ j = 4 := by omega
  rcases this with rfl | rfl | rfl | rfl | rfl <;> rfl
set_option maxHeartbeats 4000000 in
theorem program_ok (w : World) (m c f cd g h a dd : Nat) (C : Chip) (n : Int) (A : Option Addr) (D : Nat → Nat) (t : Tg) (H : Med w m c f cd g h C n) (hw : C.Wf) (ha : a < 96) (hD : ∀ j, D j < 256) (rD : RdB w A 174 D) (hdd : 174 ≤ dd)
    (hA : ∀ x, A = some x → x.block ≠ m ∧ x.block ≠ c ∧ x.block ≠ g) (ht : t.ok) (hta : t.place = a) :
    Spec Try.prog 9 #[.pointer (some ⟨m, 0, none⟩), .int .i64 a, .agg t.arr, .slice A 174 dd] w (PgmEnd w m c f cd g h a C n D t) := by
  have hmc := H.mc
  have hmg := H.mg
  have hcg := H.cg
  have hlt := H.lt
  refine spec_of_wpE (T := tt) tt_ok Try.func9 rfl (by decide +kernel) Try.ntmps9 (by simp) ?_
  conv => whnf
  repeat ((first
    | refine HS.t ?_|refine Br.t ?_|refine Br.f ?_|refine Pk.f ?_|refine Pk.t ?_|refine Pk.and ?_|refine Pk.or ?_|refine Ix.n ?_|refine Ix.of _ (by rfl) (by omega) ?_|refine Ix.i ?_|refine Ar.la ?_|refine Ar.lb ?_|refine Ar.lc ?_|refine Dv.q ?_|refine Dv.r ?_|refine Br.y ?_|refine Br.n ?_|refine Br.ny ?_|refine Br.nn ?_|refine Br.is (by assumption) ?_|refine Br.isnt (by assumption) ?_|refine Ld.of (by assumption) ?_|refine Ru.neq_nil0 ?_|refine Ru.n1 ?_|refine Ru.eql_nil0 ?_|refine Ru.e1 ?_|refine Ru.e2 ?_|refine Ru.e3 ?_|refine Ru.n2 ?_|refine Ru.n3 ?_|refine Ru.neq_nil rfl ?_|refine Ru.eql_nil rfl ?_|refine Ru.eql_err rfl (by decide) ?_|refine Ru.neq_err rfl (by decide) ?_|refine Ru.be ?_|refine Ru.bn ?_|refine RuQ.be ?_|refine RuQ.bn ?_|refine CW.s ?_); conv => whnf)
  refine Ru.boxtg ?_
  intro x6 w1 hx6 hs1 r6 k1
  have H1 := H.keep0 k1
  conv => whnf
  repeat ((first
    | refine HS.t ?_|refine Br.t ?_|refine Br.f ?_|refine Pk.f ?_|refine Pk.t ?_|refine Pk.and ?_|refine Pk.or ?_|refine Ix.n ?_|refine Ix.of _ (by rfl) (by omega) ?_|refine Ix.i ?_|refine Ar.la ?_|refine Ar.lb ?_|refine Ar.lc ?_|refine Dv.q ?_|refine Dv.r ?_|refine Br.y ?_|refine Br.n ?_|refine Br.ny ?_|refine Br.nn ?_|refine Br.is (by assumption) ?_|refine Br.isnt (by assumption) ?_|refine Ld.of (by assumption) ?_|refine Ru.neq_nil0 ?_|refine Ru.n1 ?_|refine Ru.eql_nil0 ?_|refine Ru.e1 ?_|refine Ru.e2 ?_|refine Ru.e3 ?_|refine Ru.n2 ?_|refine Ru.n3 ?_|refine Ru.neq_nil rfl ?_|refine Ru.eql_nil rfl ?_|refine Ru.eql_err rfl (by decide) ?_|refine Ru.neq_err rfl (by decide) ?_|refine Ru.be ?_|refine Ru.bn ?_|refine RuQ.be ?_|refine RuQ.bn ?_|refine CW.s ?_); conv => whnf)
  refine Ru.ldtg r6 ?_
  conv => whnf
  repeat ((first
    | refine HS.t ?_|refine Br.t ?_|refine Br.f ?_|refine Pk.f ?_|refine Pk.t ?_|refine Pk.and ?_|refine Pk.or ?_|refine Ix.n ?_|refine Ix.of _ (by rfl) (by omega) ?_|refine Ix.i ?_|refine Ar.la ?_|refine Ar.lb ?_|refine Ar.lc ?_|refine Dv.q ?_|refine Dv.r ?_|refine Br.y ?_|refine Br.n ?_|refine Br.ny ?_|refine Br.nn ?_|refine Br.is (by assumption) ?_|refine Br.isnt (by assumption) ?_|refine Ld.of (by assumption) ?_|refine Ru.neq_nil0 ?_|refine Ru.n1 ?_|refine Ru.eql_nil0 ?_|refine Ru.e1 ?_|refine Ru.e2 ?_|refine Ru.e3 ?_|refine Ru.n2 ?_|refine Ru.n3 ?_|refine Ru.neq_nil rfl ?_|refine Ru.eql_nil rfl ?_|refine Ru.eql_err rfl (by decide) ?_|refine Ru.neq_err rfl (by decide) ?_|refine Ru.be ?_|refine Ru.bn ?_|refine RuQ.be ?_|refine RuQ.bn ?_|refine CW.s ?_); conv => whnf)
  refine Ca.of (encode_ok t w1) ?_
  rintro v w2 ⟨k2, hv⟩
  rcases hv with ⟨-, X, db, rfl, lyX, hX⟩ | ⟨hn, -⟩
  case inr => exact absurd ht hn
  have H2 := H1.keep0 k2
  have r62 := r6.keep k2 (by simp)
  have rD2 := (rD.keep0 k1).keep0 k2
  have rX : RdB w2 X 50 (bodyN t) := lyX.rd1.congr (fun j hj => by rw [bodyN_int])
  have hs2 := k2.size
  conv => whnf
  repeat ((first
    | (refine Ld.rowAt r62 0 (by omega) (by omega) ?_)
    | (refine Br.no (not_not_intro hta) ?_)
    | (refine Br.nno (not_not_intro hta) ?_)
    | (refine Br.nyes hta ?_)
    | (refine Br.nno hta ?_)
    | (refine Ld.rowAt H2.row 1 (by omega) (by omega) ?_)
    | refine HS.t ?_|refine Br.t ?_|refine Br.f ?_|refine Pk.f ?_|refine Pk.t ?_|refine Pk.and ?_|refine Pk.or ?_|refine Ix.n ?_|refine Ix.of _ (by rfl) (by omega) ?_|refine Ix.i ?_|refine Ar.la ?_|refine Ar.lb ?_|refine Ar.lc ?_|refine Dv.q ?_|refine Dv.r ?_|refine Br.y ?_|refine Br.n ?_|refine Br.ny ?_|refine Br.nn ?_|refine Br.is (by assumption) ?_|refine Br.isnt (by assumption) ?_|refine Ld.of (by assumption) ?_|refine Ru.neq_nil0 ?_|refine Ru.n1 ?_|refine Ru.eql_nil0 ?_|refine Ru.e1 ?_|refine Ru.e2 ?_|refine Ru.e3 ?_|refine Ru.n2 ?_|refine Ru.n3 ?_|refine Ru.neq_nil rfl ?_|refine Ru.eql_nil rfl ?_|refine Ru.eql_err rfl (by decide) ?_|refine Ru.neq_err rfl (by decide) ?_|refine Ru.be ?_|refine Ru.bn ?_|refine RuQ.be ?_|refine RuQ.bn ?_|refine CW.s ?_); conv => whnf)
  refine Ca.of (lay_ok w2 f cd g h dd db A X D (bodyN t) hD (bodyN_lt t) rD2 rX hdd H2.frm) ?_
  rintro v w3 ⟨f3, O, oc, bk, ek, rfl, lyO, hO⟩
  have H3 := H2.of f3
  have r63 := r62.keep f3.kp (by simp; omega)
  have rD3 := rD2.keep f3.kp (fun x hx => by simpa using (hA x hx).2.2)
  have hs3 := f3.kp.size
  have K3 : Keep [m, c, g] w w3 := ((k1.mono (by simp)).trans (k2.mono (by simp))).trans (f3.kp.mono (by simp))
  have hW : ∀ k i, encP D t k i < 256 := fun k i => GF.encW_lt (fun j => layF_lt hD (bodyN_lt t) _) i
  have hOl : ∀ k, k < 4 → w2.heap.size ≤ bk k ∧ Wd w3 (bk k) (ek k) (encP D t k) := hO
  clear hO lyX rX rD2
  conv => whnf
  repeat ((first
    | refine HS.t ?_|refine Br.t ?_|refine Br.f ?_|refine Pk.f ?_|refine Pk.t ?_|refine Pk.and ?_|refine Pk.or ?_|refine Ix.n ?_|refine Ix.of _ (by rfl) (by omega) ?_|refine Ix.i ?_|refine Ar.la ?_|refine Ar.lb ?_|refine Ar.lc ?_|refine Dv.q ?_|refine Dv.r ?_|refine Br.y ?_|refine Br.n ?_|refine Br.ny ?_|refine Br.nn ?_|refine Br.is (by assumption) ?_|refine Br.isnt (by assumption) ?_|refine Ld.of (by assumption) ?_|refine Ru.neq_nil0 ?_|refine Ru.n1 ?_|refine Ru.eql_nil0 ?_|refine Ru.e1 ?_|refine Ru.e2 ?_|refine Ru.e3 ?_|refine Ru.n2 ?_|refine Ru.n3 ?_|refine Ru.neq_nil rfl ?_|refine Ru.eql_nil rfl ?_|refine Ru.eql_err rfl (by decide) ?_|refine Ru.neq_err rfl (by decide) ?_|refine Ru.be ?_|refine Ru.bn ?_|refine RuQ.be ?_|refine RuQ.bn ?_|refine CW.s ?_); conv => whnf)
  refine CW.loop (ι := Nat) (fun i w' => i ≤ 4 ∧ (C.prog a (encP D t) i).2 = 0 ∧ Med w' m c f cd g h (C.prog a (encP D t) i).1 n ∧ Keep [c] w3 w') (fun i => [(0, .pointer (some ⟨m, 0, none⟩)), (1, .int .i64 a), (3, .slice A 174 dd), (6, .pointer (some ⟨x6, 0, none⟩)), (42, .slice O 4 oc), (43, .int .i64 4), (44, .int .i64 i)]) (fun i => 4 - i) 0 tt_ok ⟨by omega, rfl, H3, Keep.refl _ _⟩ ⟨rfl, rfl, rfl, rfl, rfl, rfl, rfl, trivial⟩ ?_
  rintro i wr ⟨hi, hp, Hr, kr⟩
  have hsr := kr.size
  by_cases hl : i < 4
  · obtain ⟨hb1, wd⟩ := hOl i hl
    have lyOr : Ly wr 22 1 O 4 oc (fun k => .slice (some ⟨bk k, 0, none⟩) 64 (ek k)) := lyO.keep kr (fun x hx hc => Ly.row_ne lyO H3.chip (by decide) (by rw [List.mem_singleton.1 hc] at hx; exact hx))
    have wdr : Wd wr (bk i) (ek i) (encP D t i) := Ly.keep wd kr (fun x hx => by
      rw [List.mem_singleton.1 hx]
      simp
      omega)
    obtain ⟨bO, rfl, hcO, -⟩ := lyOr.at1 hl
    have hek : 64 ≤ ek i := wdr.1
    have hnext : C.prog a (encP D t) (i + 1) = (C.prog a (encP D t) i).1.write a i (encP D t i) := if_pos hp
    conv => whnf
    repeat ((first
      | (refine Ld.at (by omega) hcO ?_)
      | (refine Ld.rowAt Hr.row 0 (by omega) (by omega) ?_)
      | refine HS.t ?_|refine Br.t ?_|refine Br.f ?_|refine Pk.f ?_|refine Pk.t ?_|refine Pk.and ?_|refine Pk.or ?_|refine Ix.n ?_|refine Ix.of _ (by rfl) (by omega) ?_|refine Ix.i ?_|refine Ar.la ?_|refine Ar.lb ?_|refine Ar.lc ?_|refine Dv.q ?_|refine Dv.r ?_|refine Br.y ?_|refine Br.n ?_|refine Br.ny ?_|refine Br.nn ?_|refine Br.is (by assumption) ?_|refine Br.isnt (by assumption) ?_|refine Ld.of (by assumption) ?_|refine Ru.neq_nil0 ?_|refine Ru.n1 ?_|refine Ru.eql_nil0 ?_|refine Ru.e1 ?_|refine Ru.e2 ?_|refine Ru.e3 ?_|refine Ru.n2 ?_|refine Ru.n3 ?_|refine Ru.neq_nil rfl ?_|refine Ru.eql_nil rfl ?_|refine Ru.eql_err rfl (by decide) ?_|refine Ru.neq_err rfl (by decide) ?_|refine Ru.be ?_|refine Ru.bn ?_|refine RuQ.be ?_|refine RuQ.bn ?_|refine CW.s ?_); conv => whnf)
    refine Ca.of (write_ok wr c a i (ek i) (C.prog a (encP D t) i).1 (some ⟨bk i, 0, none⟩) (encP D t i) Hr.chip (prog_wf hw a hW i) ha hl wdr.rd1 hek (fun x hx => by cases hx; simp only; omega)) ?_
    rintro _ w4 ⟨rfl, hc4, k4⟩
    have H4 := Hr.chipTo k4 hc4
    rw [← hnext] at H4 ⊢
    have k34 := kr.trans k4
    by_cases he : (C.prog a (encP D t) (i + 1)).2 = 0
    · rw [he]
      conv => whnf
      repeat ((first
        | refine HS.t ?_|refine Br.t ?_|refine Br.f ?_|refine Pk.f ?_|refine Pk.t ?_|refine Pk.and ?_|refine Pk.or ?_|refine Ix.n ?_|refine Ix.of _ (by rfl) (by omega) ?_|refine Ix.i ?_|refine Ar.la ?_|refine Ar.lb ?_|refine Ar.lc ?_|refine Dv.q ?_|refine Dv.r ?_|refine Br.y ?_|refine Br.n ?_|refine Br.ny ?_|refine Br.nn ?_|refine Br.is (by assumption) ?_|refine Br.isnt (by assumption) ?_|refine Ld.of (by assumption) ?_|refine Ru.neq_nil0 ?_|refine Ru.n1 ?_|refine Ru.eql_nil0 ?_|refine Ru.e1 ?_|refine Ru.e2 ?_|refine Ru.e3 ?_|refine Ru.n2 ?_|refine Ru.n3 ?_|refine Ru.neq_nil rfl ?_|refine Ru.eql_nil rfl ?_|refine Ru.eql_err rfl (by decide) ?_|refine Ru.neq_err rfl (by decide) ?_|refine Ru.be ?_|refine Ru.bn ?_|refine RuQ.be ?_|refine RuQ.bn ?_|refine CW.s ?_); conv => whnf)
      exact ⟨i + 1, ⟨hl, he, H4, k34⟩, ⟨rfl, rfl, rfl, rfl, rfl, rfl, vi (by omega), trivial⟩, by simp only; omega⟩
    · have hst := prog_stuck he 4 (by omega)
      conv => whnf
      repeat ((first
        | (refine Ru.neq_nil rfl ?_)
        | (refine Br.yes he ?_)
        | (refine Br.nno he ?_)
        | refine HS.t ?_|refine Br.t ?_|refine Br.f ?_|refine Pk.f ?_|refine Pk.t ?_|refine Pk.and ?_|refine Pk.or ?_|refine Ix.n ?_|refine Ix.of _ (by rfl) (by omega) ?_|refine Ix.i ?_|refine Ar.la ?_|refine Ar.lb ?_|refine Ar.lc ?_|refine Dv.q ?_|refine Dv.r ?_|refine Br.y ?_|refine Br.n ?_|refine Br.ny ?_|refine Br.nn ?_|refine Br.is (by assumption) ?_|refine Br.isnt (by assumption) ?_|refine Ld.of (by assumption) ?_|refine Ru.neq_nil0 ?_|refine Ru.n1 ?_|refine Ru.eql_nil0 ?_|refine Ru.e1 ?_|refine Ru.e2 ?_|refine Ru.e3 ?_|refine Ru.n2 ?_|refine Ru.n3 ?_|refine Ru.neq_nil rfl ?_|refine Ru.eql_nil rfl ?_|refine Ru.eql_err rfl (by decide) ?_|refine Ru.neq_err rfl (by decide) ?_|refine Ru.be ?_|refine Ru.bn ?_|refine RuQ.be ?_|refine RuQ.bn ?_|refine CW.s ?_); conv => whnf)
      refine ⟨rfl, (K3.then k34 (fun x hx => .inl (by simp at hx ⊢; omega))), .inl ?_⟩
      rw [hst]
      exact ⟨he, rfl, H4⟩
  obtain rfl : i = 4 := by omega
  obtain ⟨hoff, hch⟩ := prog_done (by omega) hp
  have hpw := prog_wf hw a hW 4
  have rDr := rD3.keep kr (fun x hx => by simpa using (hA x hx).2.1)
  have r6r := r63.keep kr (by simp; omega)
  have hres : PgmEnd w m c f cd g h a C n D t = fun v w' => Keep [m, c, g] w w' ∧ (((C.prog a (encP D t) 4).2 ≠ 0 ∧ v = errOf (C.prog a (encP D t) 4).2 ∧ Med w' m c f cd g h (C.prog a (encP D t) 4).1 n) ∨
    ((C.prog a (encP D t) 4).2 = 0 ∧ v = errOf 0 ∧ Med w' m c f cd g h ((C.prog a (encP D t) 4).1.readE a) (w64 (n + 1)))) := rfl
  rw [hres]
  clear hres
  generalize C.prog a (encP D t) 4 = S at *
  have henc := readP_enc (p := pageW S.1 a) hD ht hta (fun k hk i hi => by
    unfold chk pageW
    rw [show (k * 64 + i) / 64 = k by omega, show (k * 64 + i) % 64 = i by omega, hch k hk])
  conv => whnf
  repeat ((first
    | refine HS.t ?_|refine Br.t ?_|refine Br.f ?_|refine Pk.f ?_|refine Pk.t ?_|refine Pk.and ?_|refine Pk.or ?_|refine Ix.n ?_|refine Ix.of _ (by rfl) (by omega) ?_|refine Ix.i ?_|refine Ar.la ?_|refine Ar.lb ?_|refine Ar.lc ?_|refine Dv.q ?_|refine Dv.r ?_|refine Br.y ?_|refine Br.n ?_|refine Br.ny ?_|refine Br.nn ?_|refine Br.is (by assumption) ?_|refine Br.isnt (by assumption) ?_|refine Ld.of (by assumption) ?_|refine Ru.neq_nil0 ?_|refine Ru.n1 ?_|refine Ru.eql_nil0 ?_|refine Ru.e1 ?_|refine Ru.e2 ?_|refine Ru.e3 ?_|refine Ru.n2 ?_|refine Ru.n3 ?_|refine Ru.neq_nil rfl ?_|refine Ru.eql_nil rfl ?_|refine Ru.eql_err rfl (by decide) ?_|refine Ru.neq_err rfl (by decide) ?_|refine Ru.be ?_|refine Ru.bn ?_|refine RuQ.be ?_|refine RuQ.bn ?_|refine CW.s ?_); conv => whnf)
  refine Ca.of (mread_ok wr m c f cd g h a S.1 n Hr hpw ha) ?_
  rintro v w5 hv
  rcases hv with ⟨ho, -⟩ | ⟨-, dv, hdv, rfl, H5, k5⟩
  · rw [hoff] at ho
    cases ho
  generalize readP (pageW S.1 a) a = R at *
  obtain ⟨e1, e2, e3, e4⟩ := henc
  rcases hdv with ⟨-, O5, oc5, rfl, hO5, lyO5⟩ | ⟨hf, -⟩
  case inr =>
    rw [e3] at hf
    cases hf
  rw [e2, e3]
  have rD5 := rDr.keep k5 (fun x hx => by have := hA x hx; simp; omega)
  have r65 := r6r.keep k5 (by simp; omega)
  have hs5 := k5.size
  conv => whnf
  repeat ((first
    | refine HS.t ?_|refine Br.t ?_|refine Br.f ?_|refine Pk.f ?_|refine Pk.t ?_|refine Pk.and ?_|refine Pk.or ?_|refine Ix.n ?_|refine Ix.of _ (by rfl) (by omega) ?_|refine Ix.i ?_|refine Ar.la ?_|refine Ar.lb ?_|refine Ar.lc ?_|refine Dv.q ?_|refine Dv.r ?_|refine Br.y ?_|refine Br.n ?_|refine Br.ny ?_|refine Br.nn ?_|refine Br.is (by assumption) ?_|refine Br.isnt (by assumption) ?_|refine Ld.of (by assumption) ?_|refine Ru.neq_nil0 ?_|refine Ru.n1 ?_|refine Ru.eql_nil0 ?_|refine Ru.e1 ?_|refine Ru.e2 ?_|refine Ru.e3 ?_|refine Ru.n2 ?_|refine Ru.n3 ?_|refine Ru.neq_nil rfl ?_|refine Ru.eql_nil rfl ?_|refine Ru.eql_err rfl (by decide) ?_|refine Ru.neq_err rfl (by decide) ?_|refine Ru.be ?_|refine Ru.bn ?_|refine RuQ.be ?_|refine RuQ.bn ?_|refine CW.s ?_); conv => whnf)
  refine Ru.alloca (alloc_page w5) ?_
  intro x15 w6 hx15 hs6 r15 k6
  conv => whnf
  repeat ((first
    | refine HS.t ?_|refine Br.t ?_|refine Br.f ?_|refine Pk.f ?_|refine Pk.t ?_|refine Pk.and ?_|refine Pk.or ?_|refine Ix.n ?_|refine Ix.of _ (by rfl) (by omega) ?_|refine Ix.i ?_|refine Ar.la ?_|refine Ar.lb ?_|refine Ar.lc ?_|refine Dv.q ?_|refine Dv.r ?_|refine Br.y ?_|refine Br.n ?_|refine Br.ny ?_|refine Br.nn ?_|refine Br.is (by assumption) ?_|refine Br.isnt (by assumption) ?_|refine Ld.of (by assumption) ?_|refine Ru.neq_nil0 ?_|refine Ru.n1 ?_|refine Ru.eql_nil0 ?_|refine Ru.e1 ?_|refine Ru.e2 ?_|refine Ru.e3 ?_|refine Ru.n2 ?_|refine Ru.n3 ?_|refine Ru.neq_nil rfl ?_|refine Ru.eql_nil rfl ?_|refine Ru.eql_err rfl (by decide) ?_|refine Ru.neq_err rfl (by decide) ?_|refine Ru.be ?_|refine Ru.bn ?_|refine RuQ.be ?_|refine RuQ.bn ?_|refine CW.s ?_); conv => whnf)
  refine Ru.stpage r15 (pgc_one rfl) ?_
  intro w7 r15 k7
  have r67 := (r65.keep k6 (by simp)).keep k7 (by simp; omega)
  have rD7 := (rD5.keep0 k6).keep k7 (fun x hx => by
    obtain ⟨b0, o0, hb0, hc0⟩ := rD5 (by omega)
    rw [hb0] at hx
    cases hx
    have := cell_lt (hc0 0 (by omega))
    simp only at this ⊢
    simp
    omega)
  have lyO7 := (lyO5.keep0 k6).keep k7 (fun x hx => by
    have := Ly.blk_lt lyO5 hx
    simp
    omega)
  have H7 := (H5.keep0 k6).keep k7 (by simp; omega) (by simp; omega) (by simp; omega) (by simp; omega) (by simp; omega) (by simp; omega)
  have K5 : Keep [m, c, g] w w5 := (K3.trans (kr.mono (by simp))).trans k5
  have K7 : Keep [m, c, g] w w7 := (K5.trans (k6.mono (by simp))).then k7 (fun x hx => .inr (by have := List.mem_singleton.1 hx; omega))
  conv => whnf
  repeat ((first
    | (refine Ld.rowAt r15 6 (by omega) (by omega) ?_)
    | (refine Ld.rowAt r15 7 (by omega) (by omega) ?_)
    | (refine Ru.ldtgAt r15 (by omega) ?_)
    | (refine Ru.ldtg r67 ?_)
    | (refine Ru.of (neq_tg _ _ _ _ _) ?_)
    | refine HS.t ?_|refine Br.t ?_|refine Br.f ?_|refine Pk.f ?_|refine Pk.t ?_|refine Pk.and ?_|refine Pk.or ?_|refine Ix.n ?_|refine Ix.of _ (by rfl) (by omega) ?_|refine Ix.i ?_|refine Ar.la ?_|refine Ar.lb ?_|refine Ar.lc ?_|refine Dv.q ?_|refine Dv.r ?_|refine Br.y ?_|refine Br.n ?_|refine Br.ny ?_|refine Br.nn ?_|refine Br.is (by assumption) ?_|refine Br.isnt (by assumption) ?_|refine Ld.of (by assumption) ?_|refine Ru.neq_nil0 ?_|refine Ru.n1 ?_|refine Ru.eql_nil0 ?_|refine Ru.e1 ?_|refine Ru.e2 ?_|refine Ru.e3 ?_|refine Ru.n2 ?_|refine Ru.n3 ?_|refine Ru.neq_nil rfl ?_|refine Ru.eql_nil rfl ?_|refine Ru.eql_err rfl (by decide) ?_|refine Ru.neq_err rfl (by decide) ?_|refine Ru.be ?_|refine Ru.bn ?_|refine RuQ.be ?_|refine RuQ.bn ?_|refine CW.s ?_); conv => whnf)
  have htt : (!decide (t = t)) = false := by simp
  rw [htt]
  conv => whnf
  repeat ((first
    | (refine Ld.rowAt r15 7 (by omega) (by omega) ?_)
    | refine HS.t ?_|refine Br.t ?_|refine Br.f ?_|refine Pk.f ?_|refine Pk.t ?_|refine Pk.and ?_|refine Pk.or ?_|refine Ix.n ?_|refine Ix.of _ (by rfl) (by omega) ?_|refine Ix.i ?_|refine Ar.la ?_|refine Ar.lb ?_|refine Ar.lc ?_|refine Dv.q ?_|refine Dv.r ?_|refine Br.y ?_|refine Br.n ?_|refine Br.ny ?_|refine Br.nn ?_|refine Br.is (by assumption) ?_|refine Br.isnt (by assumption) ?_|refine Ld.of (by assumption) ?_|refine Ru.neq_nil0 ?_|refine Ru.n1 ?_|refine Ru.eql_nil0 ?_|refine Ru.e1 ?_|refine Ru.e2 ?_|refine Ru.e3 ?_|refine Ru.n2 ?_|refine Ru.n3 ?_|refine Ru.neq_nil rfl ?_|refine Ru.eql_nil rfl ?_|refine Ru.eql_err rfl (by decide) ?_|refine Ru.neq_err rfl (by decide) ?_|refine Ru.be ?_|refine Ru.bn ?_|refine RuQ.be ?_|refine RuQ.bn ?_|refine CW.s ?_); conv => whnf)
  have rdO : Rd w7 O5 174 (fun j => .int .u8 (natI D j)) := lyO7.rd1.congr (fun j hj => by unfold natI; rw [e4 j hj])
  refine Ca.of (bytesEqual_ok O5 A 174 174 oc5 dd (natI D) (natI D) w7 rdO rD7 (fun j => by have := hD j; unfold natI; omega) (fun j => by have := hD j; unfold natI; omega)) ?_
  rintro _ _ ⟨rfl, rfl⟩
  rw [sameB_yes (n0 := 174) (n1 := 174) rfl (fun _ _ => rfl)]
  conv => whnf
  repeat ((first
    | refine HS.t ?_|refine Br.t ?_|refine Br.f ?_|refine Pk.f ?_|refine Pk.t ?_|refine Pk.and ?_|refine Pk.or ?_|refine Ix.n ?_|refine Ix.of _ (by rfl) (by omega) ?_|refine Ix.i ?_|refine Ar.la ?_|refine Ar.lb ?_|refine Ar.lc ?_|refine Dv.q ?_|refine Dv.r ?_|refine Br.y ?_|refine Br.n ?_|refine Br.ny ?_|refine Br.nn ?_|refine Br.is (by assumption) ?_|refine Br.isnt (by assumption) ?_|refine Ld.of (by assumption) ?_|refine Ru.neq_nil0 ?_|refine Ru.n1 ?_|refine Ru.eql_nil0 ?_|refine Ru.e1 ?_|refine Ru.e2 ?_|refine Ru.e3 ?_|refine Ru.n2 ?_|refine Ru.n3 ?_|refine Ru.neq_nil rfl ?_|refine Ru.eql_nil rfl ?_|refine Ru.eql_err rfl (by decide) ?_|refine Ru.neq_err rfl (by decide) ?_|refine Ru.be ?_|refine Ru.bn ?_|refine RuQ.be ?_|refine RuQ.bn ?_|refine CW.s ?_); conv => whnf)
  exact ⟨rfl, K7, .inr ⟨hp, rfl, H7⟩⟩
end Go.Proofs.Ytkpaafjnjmmehaa
/- What the laws turn: some, tagOf, cells. -/
namespace Go.Proofs.Ytkpaafjnjmmehaa
open Go.RowKit
set_option linter.unusedVariables false
set_option maxRecDepth 20000
attribute [local irreducible] GF.pw GF.lg GF.mul GF.inv GF.xt
def InI (x : Int) : Prop := -9223372036854775808 ≤ x ∧ x ≤ 9223372036854775807
theorem w64_in (x : Int) : InI (w64 x) := by
  have h : w64 x = wrap64 x := IntWalk.i64_left x
  rw [h]
  unfold InI wrap64
  omega
/-- Which of n things a raw number speaks of. -/
def someN (c : Int) (n : Nat) : Nat := ((if c < 0 then -(c + 1) else c) % (n : Int)).toNat
theorem someN_lt (c : Int) {n : Nat} (hn : 0 < n) : someN c n < n := by
  unfold someN
  have := Int.emod_lt_of_pos (if c < 0 then -(c + 1) else c) (show (0 : Int) < n by omega)
  have := Int.emod_nonneg (if c < 0 then -(c + 1) else c) (show (n : Int) ≠ 0 by omega)
  omega
theorem some_ok (w : World) (x : Int) (n : Nat) (hx : InI x) (hn : 0 < n) (hn2 : n ≤ 1000000) : Spec Try.prog 7 #[.int .i64 x, .int .i64 n] w fun v w' => v = .int .i64 (someN x n : Nat) ∧ w = w' := by
  obtain ⟨h1, h2⟩ := hx
  have e : ∀ y : Int, (if x < 0 then -(x + 1) else x) = y → y % (n : Int) = ((someN x n : Nat) : Int) := fun y hy => by
    unfold someN
    rw [hy]
    have := Int.emod_nonneg y (show (n : Int) ≠ 0 by omega)
    omega
  refine spec_of_wpE (T := tt) tt_ok Try.func7 rfl (by decide +kernel) Try.ntmps7 (by simp) ?_
  by_cases hneg : x < 0
  · conv => whnf
    repeat ((first
      | refine HS.t ?_|refine Br.t ?_|refine Br.f ?_|refine Pk.f ?_|refine Pk.t ?_|refine Pk.and ?_|refine Pk.or ?_|refine Ix.n ?_|refine Ix.of _ (by rfl) (by omega) ?_|refine Ix.i ?_|refine Ar.la ?_|refine Ar.lb ?_|refine Ar.lc ?_|refine Dv.q ?_|refine Dv.r ?_|refine Br.y ?_|refine Br.n ?_|refine Br.ny ?_|refine Br.nn ?_|refine Br.is (by assumption) ?_|refine Br.isnt (by assumption) ?_|refine Ld.of (by assumption) ?_|refine Ru.neq_nil0 ?_|refine Ru.n1 ?_|refine Ru.eql_nil0 ?_|refine Ru.e1 ?_|refine Ru.e2 ?_|refine Ru.e3 ?_|refine Ru.n2 ?_|refine Ru.n3 ?_|refine Ru.neq_nil rfl ?_|refine Ru.eql_nil rfl ?_|refine Ru.eql_err rfl (by decide) ?_|refine Ru.neq_err rfl (by decide) ?_|refine Ru.be ?_|refine Ru.bn ?_|refine RuQ.be ?_|refine RuQ.bn ?_|refine CW.s ?_); conv => whnf)
    exact ⟨rfl, vi (e _ (by rw [if_pos hneg]; omega)), rfl⟩
  · conv => whnf
    repeat ((first
      | refine HS.t ?_|refine Br.t ?_|refine Br.f ?_|refine Pk.f ?_|refine Pk.t ?_|refine Pk.and ?_|refine Pk.or ?_|refine Ix.n ?_|refine Ix.of _ (by rfl) (by omega) ?_|refine Ix.i ?_|refine Ar.la ?_|refine Ar.lb ?_|refine Ar.lc ?_|refine Dv.q ?_|refine Dv.r ?_|refine Br.y ?_|refine Br.n ?_|refine Br.ny ?_|refine Br.nn ?_|refine Br.is (by assumption) ?_|refine Br.isnt (by assumption) ?_|refine Ld.of (by assumption) ?_|refine Ru.neq_nil0 ?_|refine Ru.n1 ?_|refine Ru.eql_nil0 ?_|refine Ru.e1 ?_|refine Ru.e2 ?_|refine Ru.e3 ?_|refine Ru.n2 ?_|refine Ru.n3 ?_|refine Ru.neq_nil rfl ?_|refine Ru.eql_nil rfl ?_|refine Ru.eql_err rfl (by decide) ?_|refine Ru.neq_err rfl (by decide) ?_|refine Ru.be ?_|refine Ru.bn ?_|refine RuQ.be ?_|refine RuQ.bn ?_|refine CW.s ?_); conv => whnf)
    exact ⟨rfl, vi (e _ (by rw [if_neg hneg])), rfl⟩
theorem bitv_and_le (x : Int) : 0 ≤ bitv .and .i64 x 1099511627775 ∧ bitv .and .i64 x 1099511627775 ≤ 1099511627775 := by
  have h : bitv .and .i64 x 1099511627775 = IntKind.i64.wrap (((BitVec.ofInt 64 x &&& BitVec.ofInt 64 1099511627775).toNat : Nat) : Int) := rfl
  rw [h, BitVec.toNat_and]
  have h2 : (BitVec.ofInt 64 x).toNat &&& (BitVec.ofInt 64 1099511627775).toNat ≤ 1099511627775 := Nat.and_le_right
  generalize (BitVec.ofInt 64 x).toNat &&& (BitVec.ofInt 64 1099511627775).toNat = y at *
  rw [i64_nat (by omega)]
  omega
/-- What tagOf answers. -/
def TagEnd (w : World) (a : Nat) (v : Value) (w' : World) : Prop := ∃ t : Tg, v = .agg t.arr ∧ t.ok ∧ t.place = a ∧ Keep [] w w'
theorem tg_put_of (t : Tg) (x : Int) (j : Nat) (hj : j < 5) : put t.cell 1 (.int .i64 x) j = ({ t with of := x } : Tg).cell j := by
  have : j = 0 ∨ j = 1 ∨ j = 2 ∨ j = 3 ∨ j = 4 := by omega
  rcases this with rfl | rfl | rfl | rfl | rfl <;> rfl
theorem Dv.quoT {a b : Int} {K : Value → Prop} (h : b ≠ 0) (k : K (.int .i64 (w64 (a.tdiv b)))) : Dv .quo .i64 a b K := ⟨h, k⟩
theorem build_tg4 (a b c d : Int) (w : World) : (Instr.build 29 #[(0, .int .i64 a), (1, .int .i64 b), (2, .int .i64 c), (3, .int .i64 d)]).run Try.prog w = .ok (.agg (Tg.mk a b c d false).arr) w := by kernel_rfl
set_option maxHeartbeats 2000000 in
theorem tagOf_ok (w : World) (a : Nat) (x s : Int) (ha : a < 96) (hx : InI x) (hs : InI s) : Spec Try.prog 8 #[.int .i64 a, .int .i64 x, .int .i64 s] w (TagEnd w a) := by
  have hb := bitv_and_le s
  have ho := someN_lt x (n := 25) (by omega)
  have hc := someN_lt (w64 (x.tdiv 25)) (n := 256) (by omega)
  refine spec_of_wpE (T := tt) tt_ok Try.func8 rfl (by decide +kernel) Try.ntmps8 (by simp) ?_
  conv => whnf
  repeat ((first
    | refine HS.t ?_|refine Br.t ?_|refine Br.f ?_|refine Pk.f ?_|refine Pk.t ?_|refine Pk.and ?_|refine Pk.or ?_|refine Ix.n ?_|refine Ix.of _ (by rfl) (by omega) ?_|refine Ix.i ?_|refine Ar.la ?_|refine Ar.lb ?_|refine Ar.lc ?_|refine Dv.q ?_|refine Dv.r ?_|refine Br.y ?_|refine Br.n ?_|refine Br.ny ?_|refine Br.nn ?_|refine Br.is (by assumption) ?_|refine Br.isnt (by assumption) ?_|refine Ld.of (by assumption) ?_|refine Ru.neq_nil0 ?_|refine Ru.n1 ?_|refine Ru.eql_nil0 ?_|refine Ru.e1 ?_|refine Ru.e2 ?_|refine Ru.e3 ?_|refine Ru.n2 ?_|refine Ru.n3 ?_|refine Ru.neq_nil rfl ?_|refine Ru.eql_nil rfl ?_|refine Ru.eql_err rfl (by decide) ?_|refine Ru.neq_err rfl (by decide) ?_|refine Ru.be ?_|refine Ru.bn ?_|refine RuQ.be ?_|refine RuQ.bn ?_|refine CW.s ?_); conv => whnf)
  refine Ru.alloctg ?_
  intro g6 w1 hg6 hs1 r6 k1
  conv => whnf
  repeat ((first
    | refine HS.t ?_|refine Br.t ?_|refine Br.f ?_|refine Pk.f ?_|refine Pk.t ?_|refine Pk.and ?_|refine Pk.or ?_|refine Ix.n ?_|refine Ix.of _ (by rfl) (by omega) ?_|refine Ix.i ?_|refine Ar.la ?_|refine Ar.lb ?_|refine Ar.lc ?_|refine Dv.q ?_|refine Dv.r ?_|refine Br.y ?_|refine Br.n ?_|refine Br.ny ?_|refine Br.nn ?_|refine Br.is (by assumption) ?_|refine Br.isnt (by assumption) ?_|refine Ld.of (by assumption) ?_|refine Ru.neq_nil0 ?_|refine Ru.n1 ?_|refine Ru.eql_nil0 ?_|refine Ru.e1 ?_|refine Ru.e2 ?_|refine Ru.e3 ?_|refine Ru.n2 ?_|refine Ru.n3 ?_|refine Ru.neq_nil rfl ?_|refine Ru.eql_nil rfl ?_|refine Ru.eql_err rfl (by decide) ?_|refine Ru.neq_err rfl (by decide) ?_|refine Ru.be ?_|refine Ru.bn ?_|refine RuQ.be ?_|refine RuQ.bn ?_|refine CW.s ?_); conv => whnf)
  refine Ca.of (some_ok w1 x 25 hx (by omega) (by omega)) ?_
  rintro _ _ ⟨rfl, rfl⟩
  generalize someN x 25 = o at *
  conv => whnf
  repeat ((first
    | (refine Dv.quoT (by decide) ?_)
    | refine HS.t ?_|refine Br.t ?_|refine Br.f ?_|refine Pk.f ?_|refine Pk.t ?_|refine Pk.and ?_|refine Pk.or ?_|refine Ix.n ?_|refine Ix.of _ (by rfl) (by omega) ?_|refine Ix.i ?_|refine Ar.la ?_|refine Ar.lb ?_|refine Ar.lc ?_|refine Dv.q ?_|refine Dv.r ?_|refine Br.y ?_|refine Br.n ?_|refine Br.ny ?_|refine Br.nn ?_|refine Br.is (by assumption) ?_|refine Br.isnt (by assumption) ?_|refine Ld.of (by assumption) ?_|refine Ru.neq_nil0 ?_|refine Ru.n1 ?_|refine Ru.eql_nil0 ?_|refine Ru.e1 ?_|refine Ru.e2 ?_|refine Ru.e3 ?_|refine Ru.n2 ?_|refine Ru.n3 ?_|refine Ru.neq_nil rfl ?_|refine Ru.eql_nil rfl ?_|refine Ru.eql_err rfl (by decide) ?_|refine Ru.neq_err rfl (by decide) ?_|refine Ru.be ?_|refine Ru.bn ?_|refine RuQ.be ?_|refine RuQ.bn ?_|refine CW.s ?_); conv => whnf)
  refine Ca.of (some_ok w1 _ 256 (w64_in _) (by omega) (by omega)) ?_
  rintro _ _ ⟨rfl, rfl⟩
  generalize someN (w64 (x.tdiv 25)) 256 = q at *
  conv => whnf
  repeat ((first
    | refine HS.t ?_|refine Br.t ?_|refine Br.f ?_|refine Pk.f ?_|refine Pk.t ?_|refine Pk.and ?_|refine Pk.or ?_|refine Ix.n ?_|refine Ix.of _ (by rfl) (by omega) ?_|refine Ix.i ?_|refine Ar.la ?_|refine Ar.lb ?_|refine Ar.lc ?_|refine Dv.q ?_|refine Dv.r ?_|refine Br.y ?_|refine Br.n ?_|refine Br.ny ?_|refine Br.nn ?_|refine Br.is (by assumption) ?_|refine Br.isnt (by assumption) ?_|refine Ld.of (by assumption) ?_|refine Ru.neq_nil0 ?_|refine Ru.n1 ?_|refine Ru.eql_nil0 ?_|refine Ru.e1 ?_|refine Ru.e2 ?_|refine Ru.e3 ?_|refine Ru.n2 ?_|refine Ru.n3 ?_|refine Ru.neq_nil rfl ?_|refine Ru.eql_nil rfl ?_|refine Ru.eql_err rfl (by decide) ?_|refine Ru.neq_err rfl (by decide) ?_|refine Ru.be ?_|refine Ru.bn ?_|refine RuQ.be ?_|refine RuQ.bn ?_|refine CW.s ?_); conv => whnf)
  refine Ru.of (build_tg4 _ _ _ _ _) ?_
  conv => whnf
  repeat ((first
    | refine HS.t ?_|refine Br.t ?_|refine Br.f ?_|refine Pk.f ?_|refine Pk.t ?_|refine Pk.and ?_|refine Pk.or ?_|refine Ix.n ?_|refine Ix.of _ (by rfl) (by omega) ?_|refine Ix.i ?_|refine Ar.la ?_|refine Ar.lb ?_|refine Ar.lc ?_|refine Dv.q ?_|refine Dv.r ?_|refine Br.y ?_|refine Br.n ?_|refine Br.ny ?_|refine Br.nn ?_|refine Br.is (by assumption) ?_|refine Br.isnt (by assumption) ?_|refine Ld.of (by assumption) ?_|refine Ru.neq_nil0 ?_|refine Ru.n1 ?_|refine Ru.eql_nil0 ?_|refine Ru.e1 ?_|refine Ru.e2 ?_|refine Ru.e3 ?_|refine Ru.n2 ?_|refine Ru.n3 ?_|refine Ru.neq_nil rfl ?_|refine Ru.eql_nil rfl ?_|refine Ru.eql_err rfl (by decide) ?_|refine Ru.neq_err rfl (by decide) ?_|refine Ru.be ?_|refine Ru.bn ?_|refine RuQ.be ?_|refine RuQ.bn ?_|refine CW.s ?_); conv => whnf)
  refine Ru.alloctg ?_
  intro g7 w2 hg7 hs2 r7 k2
  conv => whnf
  repeat ((first
    | refine HS.t ?_|refine Br.t ?_|refine Br.f ?_|refine Pk.f ?_|refine Pk.t ?_|refine Pk.and ?_|refine Pk.or ?_|refine Ix.n ?_|refine Ix.of _ (by rfl) (by omega) ?_|refine Ix.i ?_|refine Ar.la ?_|refine Ar.lb ?_|refine Ar.lc ?_|refine Dv.q ?_|refine Dv.r ?_|refine Br.y ?_|refine Br.n ?_|refine Br.ny ?_|refine Br.nn ?_|refine Br.is (by assumption) ?_|refine Br.isnt (by assumption) ?_|refine Ld.of (by assumption) ?_|refine Ru.neq_nil0 ?_|refine Ru.n1 ?_|refine Ru.eql_nil0 ?_|refine Ru.e1 ?_|refine Ru.e2 ?_|refine Ru.e3 ?_|refine Ru.n2 ?_|refine Ru.n3 ?_|refine Ru.neq_nil rfl ?_|refine Ru.eql_nil rfl ?_|refine Ru.eql_err rfl (by decide) ?_|refine Ru.neq_err rfl (by decide) ?_|refine Ru.be ?_|refine Ru.bn ?_|refine RuQ.be ?_|refine RuQ.bn ?_|refine CW.s ?_); conv => whnf)
  refine Ru.sttg r7 ?_
  intro w3 r7 k3
  have r63 := (r6.keep k2 (by simp)).keep k3 (by simp; omega)
  have kk : Keep [] w w3 := (k1.trans k2).then k3 (fun x hx => .inr (by rw [List.mem_singleton.1 hx]; omega))
  by_cases h6 : 6 ≤ a % 8
  · conv => whnf
    repeat ((first
      | refine HS.t ?_|refine Br.t ?_|refine Br.f ?_|refine Pk.f ?_|refine Pk.t ?_|refine Pk.and ?_|refine Pk.or ?_|refine Ix.n ?_|refine Ix.of _ (by rfl) (by omega) ?_|refine Ix.i ?_|refine Ar.la ?_|refine Ar.lb ?_|refine Ar.lc ?_|refine Dv.q ?_|refine Dv.r ?_|refine Br.y ?_|refine Br.n ?_|refine Br.ny ?_|refine Br.nn ?_|refine Br.is (by assumption) ?_|refine Br.isnt (by assumption) ?_|refine Ld.of (by assumption) ?_|refine Ru.neq_nil0 ?_|refine Ru.n1 ?_|refine Ru.eql_nil0 ?_|refine Ru.e1 ?_|refine Ru.e2 ?_|refine Ru.e3 ?_|refine Ru.n2 ?_|refine Ru.n3 ?_|refine Ru.neq_nil rfl ?_|refine Ru.eql_nil rfl ?_|refine Ru.eql_err rfl (by decide) ?_|refine Ru.neq_err rfl (by decide) ?_|refine Ru.be ?_|refine Ru.bn ?_|refine RuQ.be ?_|refine RuQ.bn ?_|refine CW.s ?_); conv => whnf)
    refine Sd.rowAt r7 1 (by omega) (by omega) rfl ?_
    intro w4 r7 k4
    have r7 := r7.congr (fun j hj => tg_put_of _ _ j hj)
    have r64 := r63.keep k4 (by simp; omega)
    conv => whnf
    repeat ((first
      | refine HS.t ?_|refine Br.t ?_|refine Br.f ?_|refine Pk.f ?_|refine Pk.t ?_|refine Pk.and ?_|refine Pk.or ?_|refine Ix.n ?_|refine Ix.of _ (by rfl) (by omega) ?_|refine Ix.i ?_|refine Ar.la ?_|refine Ar.lb ?_|refine Ar.lc ?_|refine Dv.q ?_|refine Dv.r ?_|refine Br.y ?_|refine Br.n ?_|refine Br.ny ?_|refine Br.nn ?_|refine Br.is (by assumption) ?_|refine Br.isnt (by assumption) ?_|refine Ld.of (by assumption) ?_|refine Ru.neq_nil0 ?_|refine Ru.n1 ?_|refine Ru.eql_nil0 ?_|refine Ru.e1 ?_|refine Ru.e2 ?_|refine Ru.e3 ?_|refine Ru.n2 ?_|refine Ru.n3 ?_|refine Ru.neq_nil rfl ?_|refine Ru.eql_nil rfl ?_|refine Ru.eql_err rfl (by decide) ?_|refine Ru.neq_err rfl (by decide) ?_|refine Ru.be ?_|refine Ru.bn ?_|refine RuQ.be ?_|refine RuQ.bn ?_|refine CW.s ?_); conv => whnf)
    refine Ru.ldtg r7 ?_
    conv => whnf
    repeat ((first
      | refine HS.t ?_|refine Br.t ?_|refine Br.f ?_|refine Pk.f ?_|refine Pk.t ?_|refine Pk.and ?_|refine Pk.or ?_|refine Ix.n ?_|refine Ix.of _ (by rfl) (by omega) ?_|refine Ix.i ?_|refine Ar.la ?_|refine Ar.lb ?_|refine Ar.lc ?_|refine Dv.q ?_|refine Dv.r ?_|refine Br.y ?_|refine Br.n ?_|refine Br.ny ?_|refine Br.nn ?_|refine Br.is (by assumption) ?_|refine Br.isnt (by assumption) ?_|refine Ld.of (by assumption) ?_|refine Ru.neq_nil0 ?_|refine Ru.n1 ?_|refine Ru.eql_nil0 ?_|refine Ru.e1 ?_|refine Ru.e2 ?_|refine Ru.e3 ?_|refine Ru.n2 ?_|refine Ru.n3 ?_|refine Ru.neq_nil rfl ?_|refine Ru.eql_nil rfl ?_|refine Ru.eql_err rfl (by decide) ?_|refine Ru.neq_err rfl (by decide) ?_|refine Ru.be ?_|refine Ru.bn ?_|refine RuQ.be ?_|refine RuQ.bn ?_|refine CW.s ?_); conv => whnf)
    refine Ru.sttg r64 ?_
    intro w5 r65 k5
    conv => whnf
    repeat ((first
      | refine HS.t ?_|refine Br.t ?_|refine Br.f ?_|refine Pk.f ?_|refine Pk.t ?_|refine Pk.and ?_|refine Pk.or ?_|refine Ix.n ?_|refine Ix.of _ (by rfl) (by omega) ?_|refine Ix.i ?_|refine Ar.la ?_|refine Ar.lb ?_|refine Ar.lc ?_|refine Dv.q ?_|refine Dv.r ?_|refine Br.y ?_|refine Br.n ?_|refine Br.ny ?_|refine Br.nn ?_|refine Br.is (by assumption) ?_|refine Br.isnt (by assumption) ?_|refine Ld.of (by assumption) ?_|refine Ru.neq_nil0 ?_|refine Ru.n1 ?_|refine Ru.eql_nil0 ?_|refine Ru.e1 ?_|refine Ru.e2 ?_|refine Ru.e3 ?_|refine Ru.n2 ?_|refine Ru.n3 ?_|refine Ru.neq_nil rfl ?_|refine Ru.eql_nil rfl ?_|refine Ru.eql_err rfl (by decide) ?_|refine Ru.neq_err rfl (by decide) ?_|refine Ru.be ?_|refine Ru.bn ?_|refine RuQ.be ?_|refine RuQ.bn ?_|refine CW.s ?_); conv => whnf)
    refine Ru.ldtg r65 ?_
    conv => whnf
    repeat ((first
      | refine HS.t ?_|refine Br.t ?_|refine Br.f ?_|refine Pk.f ?_|refine Pk.t ?_|refine Pk.and ?_|refine Pk.or ?_|refine Ix.n ?_|refine Ix.of _ (by rfl) (by omega) ?_|refine Ix.i ?_|refine Ar.la ?_|refine Ar.lb ?_|refine Ar.lc ?_|refine Dv.q ?_|refine Dv.r ?_|refine Br.y ?_|refine Br.n ?_|refine Br.ny ?_|refine Br.nn ?_|refine Br.is (by assumption) ?_|refine Br.isnt (by assumption) ?_|refine Ld.of (by assumption) ?_|refine Ru.neq_nil0 ?_|refine Ru.n1 ?_|refine Ru.eql_nil0 ?_|refine Ru.e1 ?_|refine Ru.e2 ?_|refine Ru.e3 ?_|refine Ru.n2 ?_|refine Ru.n3 ?_|refine Ru.neq_nil rfl ?_|refine Ru.eql_nil rfl ?_|refine Ru.eql_err rfl (by decide) ?_|refine Ru.neq_err rfl (by decide) ?_|refine Ru.be ?_|refine Ru.bn ?_|refine RuQ.be ?_|refine RuQ.bn ?_|refine CW.s ?_); conv => whnf)
    refine ⟨rfl, _, rfl, ⟨?_, ?_, ?_, ?_, ?_, ?_, ?_, ?_, ?_, ?_⟩, rfl, (kk.then k4 (fun x hx => .inr (by rw [List.mem_singleton.1 hx]; omega))).then k5 (fun x hx => .inr (by rw [List.mem_singleton.1 hx]; omega))⟩
    all_goals first | (simp only; omega) | (intro _; rfl) | (intro h; exact absurd rfl h)
  · conv => whnf
    repeat ((first
      | refine HS.t ?_|refine Br.t ?_|refine Br.f ?_|refine Pk.f ?_|refine Pk.t ?_|refine Pk.and ?_|refine Pk.or ?_|refine Ix.n ?_|refine Ix.of _ (by rfl) (by omega) ?_|refine Ix.i ?_|refine Ar.la ?_|refine Ar.lb ?_|refine Ar.lc ?_|refine Dv.q ?_|refine Dv.r ?_|refine Br.y ?_|refine Br.n ?_|refine Br.ny ?_|refine Br.nn ?_|refine Br.is (by assumption) ?_|refine Br.isnt (by assumption) ?_|refine Ld.of (by assumption) ?_|refine Ru.neq_nil0 ?_|refine Ru.n1 ?_|refine Ru.eql_nil0 ?_|refine Ru.e1 ?_|refine Ru.e2 ?_|refine Ru.e3 ?_|refine Ru.n2 ?_|refine Ru.n3 ?_|refine Ru.neq_nil rfl ?_|refine Ru.eql_nil rfl ?_|refine Ru.eql_err rfl (by decide) ?_|refine Ru.neq_err rfl (by decide) ?_|refine Ru.be ?_|refine Ru.bn ?_|refine RuQ.be ?_|refine RuQ.bn ?_|refine CW.s ?_); conv => whnf)
    refine Ru.ldtg r7 ?_
    conv => whnf
    repeat ((first
      | refine HS.t ?_|refine Br.t ?_|refine Br.f ?_|refine Pk.f ?_|refine Pk.t ?_|refine Pk.and ?_|refine Pk.or ?_|refine Ix.n ?_|refine Ix.of _ (by rfl) (by omega) ?_|refine Ix.i ?_|refine Ar.la ?_|refine Ar.lb ?_|refine Ar.lc ?_|refine Dv.q ?_|refine Dv.r ?_|refine Br.y ?_|refine Br.n ?_|refine Br.ny ?_|refine Br.nn ?_|refine Br.is (by assumption) ?_|refine Br.isnt (by assumption) ?_|refine Ld.of (by assumption) ?_|refine Ru.neq_nil0 ?_|refine Ru.n1 ?_|refine Ru.eql_nil0 ?_|refine Ru.e1 ?_|refine Ru.e2 ?_|refine Ru.e3 ?_|refine Ru.n2 ?_|refine Ru.n3 ?_|refine Ru.neq_nil rfl ?_|refine Ru.eql_nil rfl ?_|refine Ru.eql_err rfl (by decide) ?_|refine Ru.neq_err rfl (by decide) ?_|refine Ru.be ?_|refine Ru.bn ?_|refine RuQ.be ?_|refine RuQ.bn ?_|refine CW.s ?_); conv => whnf)
    refine Ru.sttg r63 ?_
    intro w5 r65 k5
    conv => whnf
    repeat ((first
      | refine HS.t ?_|refine Br.t ?_|refine Br.f ?_|refine Pk.f ?_|refine Pk.t ?_|refine Pk.and ?_|refine Pk.or ?_|refine Ix.n ?_|refine Ix.of _ (by rfl) (by omega) ?_|refine Ix.i ?_|refine Ar.la ?_|refine Ar.lb ?_|refine Ar.lc ?_|refine Dv.q ?_|refine Dv.r ?_|refine Br.y ?_|refine Br.n ?_|refine Br.ny ?_|refine Br.nn ?_|refine Br.is (by assumption) ?_|refine Br.isnt (by assumption) ?_|refine Ld.of (by assumption) ?_|refine Ru.neq_nil0 ?_|refine Ru.n1 ?_|refine Ru.eql_nil0 ?_|refine Ru.e1 ?_|refine Ru.e2 ?_|refine Ru.e3 ?_|refine Ru.n2 ?_|refine Ru.n3 ?_|refine Ru.neq_nil rfl ?_|refine Ru.eql_nil rfl ?_|refine Ru.eql_err rfl (by decide) ?_|refine Ru.neq_err rfl (by decide) ?_|refine Ru.be ?_|refine Ru.bn ?_|refine RuQ.be ?_|refine RuQ.bn ?_|refine CW.s ?_); conv => whnf)
    refine Ru.ldtg r65 ?_
    conv => whnf
    repeat ((first
      | refine HS.t ?_|refine Br.t ?_|refine Br.f ?_|refine Pk.f ?_|refine Pk.t ?_|refine Pk.and ?_|refine Pk.or ?_|refine Ix.n ?_|refine Ix.of _ (by rfl) (by omega) ?_|refine Ix.i ?_|refine Ar.la ?_|refine Ar.lb ?_|refine Ar.lc ?_|refine Dv.q ?_|refine Dv.r ?_|refine Br.y ?_|refine Br.n ?_|refine Br.ny ?_|refine Br.nn ?_|refine Br.is (by assumption) ?_|refine Br.isnt (by assumption) ?_|refine Ld.of (by assumption) ?_|refine Ru.neq_nil0 ?_|refine Ru.n1 ?_|refine Ru.eql_nil0 ?_|refine Ru.e1 ?_|refine Ru.e2 ?_|refine Ru.e3 ?_|refine Ru.n2 ?_|refine Ru.n3 ?_|refine Ru.neq_nil rfl ?_|refine Ru.eql_nil rfl ?_|refine Ru.eql_err rfl (by decide) ?_|refine Ru.neq_err rfl (by decide) ?_|refine Ru.be ?_|refine Ru.bn ?_|refine RuQ.be ?_|refine RuQ.bn ?_|refine CW.s ?_); conv => whnf)
    refine ⟨rfl, _, rfl, ⟨?_, ?_, ?_, ?_, ?_, ?_, ?_, ?_, ?_, ?_⟩, rfl, kk.then k5 (fun x hx => .inr (by rw [List.mem_singleton.1 hx]; omega))⟩
    all_goals first | (simp only; omega) | (intro _; rfl) | (intro h; simp only; omega)
end Go.Proofs.Ytkpaafjnjmmehaa
/- What the laws turn: cells. -/
namespace Go.Proofs.Ytkpaafjnjmmehaa
open Go.RowKit
set_option linter.unusedVariables false
set_option maxRecDepth 20000
attribute [local irreducible] GF.pw GF.lg GF.mul GF.inv GF.xt
/-- Which byte is turned next. -/
def cpos (F : Int) (s : Nat) (i : Nat) : Nat := someN (w64 (F + w64 ((i : Int) * w64 (1 + s)))) 64
theorem cpos_lt (F : Int) (s i : Nat) : cpos F s i < 64 := someN_lt _ (by omega)
def hadTo (F : Int) (s : Nat) : Nat → Nat → Bool
  | 0, _ => false
  | i + 1, b => hadTo F s i b || decide (b = cpos F s i)
/-- By what each byte is turned. -/
def patTo (F : Int) (s : Nat) (M : Nat → Nat) : Nat → Nat → Nat
  | 0, _ => 0
  | i + 1, b => if b = cpos F s i ∧ hadTo F s i b = false then M i else patTo F s M i b
theorem pat_had (F : Int) (s : Nat) (M : Nat → Nat) : ∀ i b, hadTo F s i b = false → patTo F s M i b = 0
  | 0, _, _ => rfl
  | i + 1, b, h => by
    unfold hadTo at h
    simp only [Bool.or_eq_false_iff, decide_eq_false_iff_not] at h
    unfold patTo
    rw [if_neg (fun e => h.2 e.1)]
    exact pat_had F s M i b h.1
theorem pat_lt (F : Int) (s : Nat) {M : Nat → Nat} (hM : ∀ j, M j < 256) : ∀ i b, patTo F s M i b < 256
  | 0, _ => by unfold patTo; omega
  | i + 1, b => by
    unfold patTo
    split
    · exact hM i
    · exact pat_lt F s hM i b
/-- The bytes that were turned are few. -/
theorem had_count (F : Int) (s : Nat) : ∀ i, ((List.range 64).filter (hadTo F s i)).length ≤ i
  | 0 => by
    have : (List.range 64).filter (hadTo F s 0) = [] := List.filter_eq_nil_iff.2 (fun b _ => by simp [hadTo])
    rw [this]
    exact Nat.le_refl _
  | i + 1 => by
    have ih := had_count F s i
    have h1 : ((List.range 64).filter (hadTo F s (i + 1))).length ≤ ((List.range 64).filter (hadTo F s i)).length + ((List.range 64).filter (fun b => decide (b = cpos F s i))).length := by
      rw [← List.countP_eq_length_filter, ← List.countP_eq_length_filter, ← List.countP_eq_length_filter]
      exact GF.countP_two _ _ _ (fun b hb => by
        unfold hadTo at hb
        simpa using hb) _
    have h2 : ((List.range 64).filter (fun b => decide (b = cpos F s i))).length ≤ 1 := by
      have : ∀ c, c < 64 → ((List.range 64).filter (fun b => decide (b = c))).length ≤ 1 := by decide +kernel
      exact this _ (cpos_lt F s i)
    omega
/-- A chunk whose bytes were turned. -/
def Chip.turned (C : Chip) (a k : Nat) (P : Nat → Nat) (wo : Int) : Chip := C.setCh a k { C.ch a k with now := fun j => (C.ch a k).now j ^^^ P j, worst := wo }
theorem turned_flip (C : Chip) {a k b x : Nat} (P : Nat → Nat) (wo : Int) (hk : k < 4) (hb : b < 64) (hx : x < 8) : ∃ wo', (C.turned a k P wo).flip a ((k * 64 + b) * 8 + x) = C.turned a k (fun j => if j = b then P b ^^^ 2 ^ x else P j) wo' := by
  have e1 : ((k * 64 + b) * 8 + x) / 512 = k := by omega
  have e2 : ((k * 64 + b) * 8 + x) / 8 % 64 = b := by omega
  have e3 : ((k * 64 + b) * 8 + x) % 8 = x := by omega
  unfold Chip.flip
  rw [e1, e2, e3]
  unfold Chip.turned
  rw [Chip.setCh_same, Chip.setCh_setCh]
  have key : ∀ X : Chunk, (∀ j, X.now j = (C.ch a k).now j ^^^ P j) → X.truth = (C.ch a k).truth → X.is = (C.ch a k).is → X.flip b (2 ^ x) = { C.ch a k with now := fun j => (C.ch a k).now j ^^^ (if j = b then P b ^^^ 2 ^ x else P j), worst := (X.flip b (2 ^ x)).worst } := fun X h1 h2 h3 => by
    unfold Chunk.flip Chunk.turn
    simp only [h2, h3, Chunk.mk.injEq, true_and, and_true]
    funext j
    by_cases hj : j = b
    · rw [if_pos hj, if_pos hj, h1, Nat.xor_assoc, hj]
    · rw [if_neg hj, if_neg hj, h1]
  exact ⟨_, congrArg (C.setCh a k) (key _ (fun _ => rfl) rfl rfl)⟩
theorem turned_zero (C : Chip) {a k : Nat} (a' k' : Nat) : C.ch a' k' = (C.turned a k (fun _ => 0) (C.ch a k).worst).ch a' k' := by
  unfold Chip.turned Chip.setCh
  simp only [Nat.xor_zero]
  by_cases h : a' = a ∧ k' = k
  · rw [if_pos h, h.1, h.2]
  · rw [if_neg h]
theorem turned_congr (C : Chip) {a k : Nat} {P Q : Nat → Nat} (wo : Int) (h : ∀ j, P j = Q j) : C.turned a k P wo = C.turned a k Q wo := by
  rw [show P = Q from funext h]
theorem turned_wf {C : Chip} (hw : C.Wf) {a k : Nat} {P : Nat → Nat} (hP : ∀ j, P j < 256) (wo : Int) : (C.turned a k P wo).Wf :=
  setCh_wf hw a k (fun i => Nat.xor_lt_two_pow (n := 8) (hw.now _ _ _) (hP i)) (fun i => hw.truth _ _ _)
theorem mod_bit (m x : Nat) : m % 2 ^ (x + 1) = (m % 2 ^ x) ^^^ (if m.testBit x then 2 ^ x else 0) := by
  apply Nat.eq_of_testBit_eq
  intro i
  rw [Nat.testBit_xor, Nat.testBit_mod_two_pow, Nat.testBit_mod_two_pow]
  by_cases h : m.testBit x = true
  · rw [if_pos h, Nat.testBit_two_pow]
    rcases Nat.lt_trichotomy i x with h1 | h1 | h1
    · have : ¬ x = i := by omega
      simp [h1, this, show i < x + 1 by omega]
    · subst h1
      simp [h]
    · have : ¬ x = i := by omega
      simp [this, show ¬ i < x by omega, show ¬ i < x + 1 by omega]
  · have h : m.testBit x = false := by simpa using h
    rw [h]
    simp only [Bool.false_eq_true, if_false, Nat.zero_testBit, Bool.xor_false]
    by_cases h1 : i = x
    · subst h1
      simp [h]
    · by_cases h2 : i < x
      · simp [h2, show i < x + 1 by omega]
      · simp [h2, show ¬ i < x + 1 by omega]
theorem bit8 : ∀ m, m < 256 → ∀ x, x < 8 → decide (bitv .and .u8 (Int.fdiv (m : Nat) (2 ^ (min x 8))) 1 = 1) = m.testBit x := by decide +kernel
theorem Sh.shr8 {m x : Nat} {K : Value → Prop} (k : K (.int .u8 (Int.fdiv (m : Nat) (2 ^ (min x 8))))) : Sh .shr .u8 (m : Int) (x : Int) K := ⟨by omega, k⟩
theorem alloc_had0 (w : World) : (Instr.alloc 73 true (.tuple #[])).run Try.prog w = .ok (.pointer (some ⟨w.heap.size, 0, none⟩)) (w.alloc (.cells ((Array.range 64).map fun _ => .bool false) 73)) := by kernel_rfl
/-- What cells does: the bytes of a chunk are turned by a pattern. -/
def CellsEnd (w : World) (c a k : Nat) (C : Chip) (P : Nat → Nat) (v : Value) (w' : World) : Prop := v = .tuple #[] ∧ ∃ wo, ChipAt w' c (C.turned a k P wo) ∧ Keep [c] w w'
set_option maxHeartbeats 4000000 in
theorem cells_ok (w : World) (c a k n d many : Nat) (C : Chip) (F S : Int) (A : Option Addr) (M : Nat → Nat) (H : ChipAt w c C) (hw : C.Wf) (ha : a < 96) (hk : k < 4) (hF : InI F) (hS : InI S) (r : RdB w A n M) (hM : ∀ j, M j < 256) (hm : many ≤ 4) (hn : n ≤ 140737488355328) (hA : 0 < n → ∀ x, A = some x → x.block ≠ c) :
    Spec Try.prog 10 #[.pointer (some ⟨c, 0, none⟩), .int .i64 a, .int .i64 k, .int .i64 F, .int .i64 S, .slice A n d, .int .i64 many] w (CellsEnd w c a k C (patTo F (someN S 60) M (min many n))) := by
  have hcl := Row.lt H
  refine spec_of_wpE (T := tt) tt_ok Try.func10 rfl (by decide +kernel) Try.ntmps10 (by simp) ?_
  conv => whnf
  repeat ((first
    | refine HS.t ?_|refine Br.t ?_|refine Br.f ?_|refine Pk.f ?_|refine Pk.t ?_|refine Pk.and ?_|refine Pk.or ?_|refine Ix.n ?_|refine Ix.of _ (by rfl) (by omega) ?_|refine Ix.i ?_|refine Ar.la ?_|refine Ar.lb ?_|refine Ar.lc ?_|refine Dv.q ?_|refine Dv.r ?_|refine Br.y ?_|refine Br.n ?_|refine Br.ny ?_|refine Br.nn ?_|refine Br.is (by assumption) ?_|refine Br.isnt (by assumption) ?_|refine Ld.of (by assumption) ?_|refine Ru.neq_nil0 ?_|refine Ru.n1 ?_|refine Ru.eql_nil0 ?_|refine Ru.e1 ?_|refine Ru.e2 ?_|refine Ru.e3 ?_|refine Ru.n2 ?_|refine Ru.n3 ?_|refine Ru.neq_nil rfl ?_|refine Ru.eql_nil rfl ?_|refine Ru.eql_err rfl (by decide) ?_|refine Ru.neq_err rfl (by decide) ?_|refine Ru.be ?_|refine Ru.bn ?_|refine RuQ.be ?_|refine RuQ.bn ?_|refine CW.s ?_); conv => whnf)
  refine Ru.alloca (s := fun _ => .bool false) (n := 64) (alloc_had0 w) ?_
  intro x w1 hx hs1 rx k1
  have H1 := ChipAt.keep H k1 (by simp)
  have r1 := r.keep0 k1
  generalize hs : someN S 60 = s
  have hs60 : s < 60 := by rw [← hs]; exact someN_lt _ (by omega)
  conv => whnf
  repeat ((first
    | refine HS.t ?_|refine Br.t ?_|refine Br.f ?_|refine Pk.f ?_|refine Pk.t ?_|refine Pk.and ?_|refine Pk.or ?_|refine Ix.n ?_|refine Ix.of _ (by rfl) (by omega) ?_|refine Ix.i ?_|refine Ar.la ?_|refine Ar.lb ?_|refine Ar.lc ?_|refine Dv.q ?_|refine Dv.r ?_|refine Br.y ?_|refine Br.n ?_|refine Br.ny ?_|refine Br.nn ?_|refine Br.is (by assumption) ?_|refine Br.isnt (by assumption) ?_|refine Ld.of (by assumption) ?_|refine Ru.neq_nil0 ?_|refine Ru.n1 ?_|refine Ru.eql_nil0 ?_|refine Ru.e1 ?_|refine Ru.e2 ?_|refine Ru.e3 ?_|refine Ru.n2 ?_|refine Ru.n3 ?_|refine Ru.neq_nil rfl ?_|refine Ru.eql_nil rfl ?_|refine Ru.eql_err rfl (by decide) ?_|refine Ru.neq_err rfl (by decide) ?_|refine Ru.be ?_|refine Ru.bn ?_|refine RuQ.be ?_|refine RuQ.bn ?_|refine CW.s ?_); conv => whnf)
  refine CW.loop (ι := Nat) (fun i w' => i ≤ min many n ∧ Row w' x 73 64 (fun j => .bool (hadTo F s i j)) ∧ (∃ wo, ChipAt w' c (C.turned a k (patTo F s M i) wo)) ∧ Keep [c, x] w1 w') (fun i => [(0, .pointer (some ⟨c, 0, none⟩)), (1, .int .i64 a), (2, .int .i64 k), (3, .int .i64 F), (4, .int .i64 S), (5, .slice A n d), (6, .int .i64 many), (14, .pointer (some ⟨x, 0, none⟩)), (15, .int .i64 i)]) (fun i => min many n - i) 0 tt_ok
    ⟨by omega, rx, ⟨(C.ch a k).worst, ?_⟩, Keep.refl _ _⟩ ⟨rfl, rfl, rfl, rfl, rfl, rfl, rfl, rfl, rfl, trivial⟩ ?_
  · exact ChipAt.congr H1 (fun a' k' _ _ => turned_zero C a' k') (fun _ _ _ _ => rfl) (fun _ _ => rfl)
  rintro i wr ⟨hi, ri, ⟨wo, Hi⟩, ki⟩
  have kw : Keep [c] w wr := (k1.mono (by simp)).then ki (fun y hy => by simp at hy ⊢; rcases hy with h | h <;> omega)
  by_cases hlt : i < min many n
  case neg =>
    obtain rfl : i = min many n := by omega
    by_cases hmn : many ≤ n
    · have hm1 : ¬ ((min many n : Nat) : Int) < many := by omega
      conv => whnf
      repeat ((first
        | refine HS.t ?_|refine Br.t ?_|refine Br.f ?_|refine Pk.f ?_|refine Pk.t ?_|refine Pk.and ?_|refine Pk.or ?_|refine Ix.n ?_|refine Ix.of _ (by rfl) (by omega) ?_|refine Ix.i ?_|refine Ar.la ?_|refine Ar.lb ?_|refine Ar.lc ?_|refine Dv.q ?_|refine Dv.r ?_|refine Br.y ?_|refine Br.n ?_|refine Br.ny ?_|refine Br.nn ?_|refine Br.is (by assumption) ?_|refine Br.isnt (by assumption) ?_|refine Ld.of (by assumption) ?_|refine Ru.neq_nil0 ?_|refine Ru.n1 ?_|refine Ru.eql_nil0 ?_|refine Ru.e1 ?_|refine Ru.e2 ?_|refine Ru.e3 ?_|refine Ru.n2 ?_|refine Ru.n3 ?_|refine Ru.neq_nil rfl ?_|refine Ru.eql_nil rfl ?_|refine Ru.eql_err rfl (by decide) ?_|refine Ru.neq_err rfl (by decide) ?_|refine Ru.be ?_|refine Ru.bn ?_|refine RuQ.be ?_|refine RuQ.bn ?_|refine CW.s ?_); conv => whnf)
      exact ⟨rfl, rfl, wo, Hi, kw⟩
    · have hm1 : ((min many n : Nat) : Int) < many := by omega
      have hm2 : ¬ ((min many n : Nat) : Int) < n := by omega
      conv => whnf
      repeat ((first
        | refine HS.t ?_|refine Br.t ?_|refine Br.f ?_|refine Pk.f ?_|refine Pk.t ?_|refine Pk.and ?_|refine Pk.or ?_|refine Ix.n ?_|refine Ix.of _ (by rfl) (by omega) ?_|refine Ix.i ?_|refine Ar.la ?_|refine Ar.lb ?_|refine Ar.lc ?_|refine Dv.q ?_|refine Dv.r ?_|refine Br.y ?_|refine Br.n ?_|refine Br.ny ?_|refine Br.nn ?_|refine Br.is (by assumption) ?_|refine Br.isnt (by assumption) ?_|refine Ld.of (by assumption) ?_|refine Ru.neq_nil0 ?_|refine Ru.n1 ?_|refine Ru.eql_nil0 ?_|refine Ru.e1 ?_|refine Ru.e2 ?_|refine Ru.e3 ?_|refine Ru.n2 ?_|refine Ru.n3 ?_|refine Ru.neq_nil rfl ?_|refine Ru.eql_nil rfl ?_|refine Ru.eql_err rfl (by decide) ?_|refine Ru.neq_err rfl (by decide) ?_|refine Ru.be ?_|refine Ru.bn ?_|refine RuQ.be ?_|refine RuQ.bn ?_|refine CW.s ?_); conv => whnf)
      exact ⟨rfl, rfl, wo, Hi, kw⟩
  have hn0 : 0 < n := by omega
  obtain ⟨ba, oa, rfl, hca⟩ := r (by omega)
  have hbac : ba ≠ c := hA hn0 _ rfl
  have hbal := cell_lt (hca 0 (by omega))
  simp only at hbal
  have hsr := ki.size
  have hmi := hca i (by omega)
  have hmi2 : wr.cell? ⟨ba, oa + i, none⟩ = some (.int .u8 (M i : Nat)) := by
    rw [← hmi]
    exact (kw.cell (p := ⟨ba, oa + i, none⟩) hbal (by simpa using hbac))
  have hpos := cpos_lt F s i
  have hcp : cpos F s i = someN (w64 (F + w64 ((i : Int) * w64 (1 + s)))) 64 := rfl
  have hi1 : ((i : Nat) : Int) < many := by omega
  have hi2 : ((i : Nat) : Int) < n := by omega
  conv => whnf
  repeat ((first
    | refine HS.t ?_|refine Br.t ?_|refine Br.f ?_|refine Pk.f ?_|refine Pk.t ?_|refine Pk.and ?_|refine Pk.or ?_|refine Ix.n ?_|refine Ix.of _ (by rfl) (by omega) ?_|refine Ix.i ?_|refine Ar.la ?_|refine Ar.lb ?_|refine Ar.lc ?_|refine Dv.q ?_|refine Dv.r ?_|refine Br.y ?_|refine Br.n ?_|refine Br.ny ?_|refine Br.nn ?_|refine Br.is (by assumption) ?_|refine Br.isnt (by assumption) ?_|refine Ld.of (by assumption) ?_|refine Ru.neq_nil0 ?_|refine Ru.n1 ?_|refine Ru.eql_nil0 ?_|refine Ru.e1 ?_|refine Ru.e2 ?_|refine Ru.e3 ?_|refine Ru.n2 ?_|refine Ru.n3 ?_|refine Ru.neq_nil rfl ?_|refine Ru.eql_nil rfl ?_|refine Ru.eql_err rfl (by decide) ?_|refine Ru.neq_err rfl (by decide) ?_|refine Ru.be ?_|refine Ru.bn ?_|refine RuQ.be ?_|refine RuQ.bn ?_|refine CW.s ?_); conv => whnf)
  refine Ca.of (some_ok wr S 60 hS (by omega) (by omega)) ?_
  rintro _ _ ⟨rfl, rfl⟩
  rw [hs]
  conv => whnf
  repeat ((first
    | (refine Ar.i64w ?_)
    | refine HS.t ?_|refine Br.t ?_|refine Br.f ?_|refine Pk.f ?_|refine Pk.t ?_|refine Pk.and ?_|refine Pk.or ?_|refine Ix.n ?_|refine Ix.of _ (by rfl) (by omega) ?_|refine Ix.i ?_|refine Ar.la ?_|refine Ar.lb ?_|refine Ar.lc ?_|refine Dv.q ?_|refine Dv.r ?_|refine Br.y ?_|refine Br.n ?_|refine Br.ny ?_|refine Br.nn ?_|refine Br.is (by assumption) ?_|refine Br.isnt (by assumption) ?_|refine Ld.of (by assumption) ?_|refine Ru.neq_nil0 ?_|refine Ru.n1 ?_|refine Ru.eql_nil0 ?_|refine Ru.e1 ?_|refine Ru.e2 ?_|refine Ru.e3 ?_|refine Ru.n2 ?_|refine Ru.n3 ?_|refine Ru.neq_nil rfl ?_|refine Ru.eql_nil rfl ?_|refine Ru.eql_err rfl (by decide) ?_|refine Ru.neq_err rfl (by decide) ?_|refine Ru.be ?_|refine Ru.bn ?_|refine RuQ.be ?_|refine RuQ.bn ?_|refine CW.s ?_); conv => whnf)
  refine Ca.of (some_ok wr _ 64 (w64_in _) (by omega) (by omega)) ?_
  rintro _ _ ⟨rfl, rfl⟩
  rw [← hcp]
  have hhad : ∀ b, hadTo F s (i + 1) b = (hadTo F s i b || decide (b = cpos F s i)) := fun b => rfl
  have hpat : ∀ b, patTo F s M (i + 1) b = if b = cpos F s i ∧ hadTo F s i b = false then M i else patTo F s M i b := fun b => rfl
  have hzero := pat_had F s M i (cpos F s i)
  have hplt := pat_lt F s hM i
  clear hcp
  generalize cpos F s i = p at *
  cases hp : hadTo F s i p with
  | true =>
    conv => whnf
    repeat ((first
      | (refine Ix.of p (by omega) (by omega) ?_)
      | (refine Ld.rowAt ri p (by omega) (by omega) ?_)
      | (refine Br.is hp ?_)
      | refine HS.t ?_|refine Br.t ?_|refine Br.f ?_|refine Pk.f ?_|refine Pk.t ?_|refine Pk.and ?_|refine Pk.or ?_|refine Ix.n ?_|refine Ix.of _ (by rfl) (by omega) ?_|refine Ix.i ?_|refine Ar.la ?_|refine Ar.lb ?_|refine Ar.lc ?_|refine Dv.q ?_|refine Dv.r ?_|refine Br.y ?_|refine Br.n ?_|refine Br.ny ?_|refine Br.nn ?_|refine Br.is (by assumption) ?_|refine Br.isnt (by assumption) ?_|refine Ld.of (by assumption) ?_|refine Ru.neq_nil0 ?_|refine Ru.n1 ?_|refine Ru.eql_nil0 ?_|refine Ru.e1 ?_|refine Ru.e2 ?_|refine Ru.e3 ?_|refine Ru.n2 ?_|refine Ru.n3 ?_|refine Ru.neq_nil rfl ?_|refine Ru.eql_nil rfl ?_|refine Ru.eql_err rfl (by decide) ?_|refine Ru.neq_err rfl (by decide) ?_|refine Ru.be ?_|refine Ru.bn ?_|refine RuQ.be ?_|refine RuQ.bn ?_|refine CW.s ?_); conv => whnf)
    refine ⟨i + 1, ⟨hlt, ri.congr (fun j _ => vb ?_), ⟨wo, ?_⟩, ki⟩, ⟨rfl, rfl, rfl, rfl, rfl, rfl, rfl, rfl, vi (by omega), trivial⟩, by simp only; omega⟩
    · rw [hhad]
      by_cases hj : j = p
      · rw [hj, hp]; rfl
      · simp [hj]
    · rw [turned_congr C wo (fun j => ?_)] at Hi
      · exact Hi
      · rw [hpat]
        by_cases hj : j = p
        · rw [if_neg (fun e => by rw [e.1, hp] at e; exact absurd e.2 (by simp))]
        · rw [if_neg (fun e => hj e.1)]
  | false =>
    have hpz := hzero hp
    have hMi := hM i
    conv => whnf
    repeat ((first
      | (refine Ix.of p (by omega) (by omega) ?_)
      | (refine Ld.rowAt ri p (by omega) (by omega) ?_)
      | (refine Br.isnt hp ?_)
      | refine HS.t ?_|refine Br.t ?_|refine Br.f ?_|refine Pk.f ?_|refine Pk.t ?_|refine Pk.and ?_|refine Pk.or ?_|refine Ix.n ?_|refine Ix.of _ (by rfl) (by omega) ?_|refine Ix.i ?_|refine Ar.la ?_|refine Ar.lb ?_|refine Ar.lc ?_|refine Dv.q ?_|refine Dv.r ?_|refine Br.y ?_|refine Br.n ?_|refine Br.ny ?_|refine Br.nn ?_|refine Br.is (by assumption) ?_|refine Br.isnt (by assumption) ?_|refine Ld.of (by assumption) ?_|refine Ru.neq_nil0 ?_|refine Ru.n1 ?_|refine Ru.eql_nil0 ?_|refine Ru.e1 ?_|refine Ru.e2 ?_|refine Ru.e3 ?_|refine Ru.n2 ?_|refine Ru.n3 ?_|refine Ru.neq_nil rfl ?_|refine Ru.eql_nil rfl ?_|refine Ru.eql_err rfl (by decide) ?_|refine Ru.neq_err rfl (by decide) ?_|refine Ru.be ?_|refine Ru.bn ?_|refine RuQ.be ?_|refine RuQ.bn ?_|refine CW.s ?_); conv => whnf)
    refine Sd.rowAt ri p (by omega) (by omega) rfl ?_
    intro w2 r2 k2
    have Hi2 := ChipAt.keep Hi k2 (by simp; omega)
    have k12 : Keep [c, x] w1 w2 := ki.trans (k2.mono (by simp))
    have hm2 : w2.cell? ⟨ba, oa + i, none⟩ = some (.int .u8 (M i : Nat)) := by
      rw [← hmi2]
      exact k2.cell (p := ⟨ba, oa + i, none⟩) (by simp only; omega) (by simp; omega)
    have hs2 := k2.size
    conv => whnf
    repeat ((first
      | refine HS.t ?_|refine Br.t ?_|refine Br.f ?_|refine Pk.f ?_|refine Pk.t ?_|refine Pk.and ?_|refine Pk.or ?_|refine Ix.n ?_|refine Ix.of _ (by rfl) (by omega) ?_|refine Ix.i ?_|refine Ar.la ?_|refine Ar.lb ?_|refine Ar.lc ?_|refine Dv.q ?_|refine Dv.r ?_|refine Br.y ?_|refine Br.n ?_|refine Br.ny ?_|refine Br.nn ?_|refine Br.is (by assumption) ?_|refine Br.isnt (by assumption) ?_|refine Ld.of (by assumption) ?_|refine Ru.neq_nil0 ?_|refine Ru.n1 ?_|refine Ru.eql_nil0 ?_|refine Ru.e1 ?_|refine Ru.e2 ?_|refine Ru.e3 ?_|refine Ru.n2 ?_|refine Ru.n3 ?_|refine Ru.neq_nil rfl ?_|refine Ru.eql_nil rfl ?_|refine Ru.eql_err rfl (by decide) ?_|refine Ru.neq_err rfl (by decide) ?_|refine Ru.be ?_|refine Ru.bn ?_|refine RuQ.be ?_|refine RuQ.bn ?_|refine CW.s ?_); conv => whnf)
    refine CW.loop (ι := Nat) (fun y w' => y ≤ 8 ∧ (∃ wo, ChipAt w' c (C.turned a k (fun j => if j = p then M i % 2 ^ y else patTo F s M i j) wo)) ∧ Keep [c] w2 w') (fun y => [(0, .pointer (some ⟨c, 0, none⟩)), (1, .int .i64 a), (2, .int .i64 k), (3, .int .i64 F), (4, .int .i64 S), (5, .slice (some ⟨ba, oa, none⟩) n d), (6, .int .i64 many), (14, .pointer (some ⟨x, 0, none⟩)), (15, .int .i64 i), (16, .int .i64 p), (17, .int .i64 y)]) (fun y => 8 - y) 0 tt_ok
      ⟨by omega, ⟨wo, ?_⟩, Keep.refl _ _⟩ ⟨rfl, rfl, rfl, rfl, rfl, rfl, rfl, rfl, rfl, rfl, rfl, trivial⟩ ?_
    · rw [turned_congr C wo (fun j => ?_)] at Hi2
      · exact Hi2
      · by_cases hj : j = p
        · rw [if_pos hj, hj, hpz, Nat.pow_zero, Nat.mod_one]
        · rw [if_neg hj]
    rintro y wy ⟨hy, ⟨woy, Hy⟩, ky⟩
    have hmy : wy.cell? ⟨ba, oa + i, none⟩ = some (.int .u8 (M i : Nat)) := by
      rw [← hm2]
      exact ky.cell (p := ⟨ba, oa + i, none⟩) (by simp only; omega) (by simpa using hbac)
    by_cases hly : y < 8
    · have hb8 := bit8 (M i) hMi y hly
      have hmod := mod_bit (M i) y
      by_cases hbit : (M i).testBit y = true
      · rw [hbit] at hb8
        rw [if_pos hbit] at hmod
        conv => whnf
        repeat ((first
          | (refine Ld.at (by omega) hmy ?_)
          | (refine Ix.of i (by omega) (by omega) ?_)
          | (refine Sh.shr8 ?_)
          | (refine Br.is hb8 ?_)
          | refine HS.t ?_|refine Br.t ?_|refine Br.f ?_|refine Pk.f ?_|refine Pk.t ?_|refine Pk.and ?_|refine Pk.or ?_|refine Ix.n ?_|refine Ix.of _ (by rfl) (by omega) ?_|refine Ix.i ?_|refine Ar.la ?_|refine Ar.lb ?_|refine Ar.lc ?_|refine Dv.q ?_|refine Dv.r ?_|refine Br.y ?_|refine Br.n ?_|refine Br.ny ?_|refine Br.nn ?_|refine Br.is (by assumption) ?_|refine Br.isnt (by assumption) ?_|refine Ld.of (by assumption) ?_|refine Ru.neq_nil0 ?_|refine Ru.n1 ?_|refine Ru.eql_nil0 ?_|refine Ru.e1 ?_|refine Ru.e2 ?_|refine Ru.e3 ?_|refine Ru.n2 ?_|refine Ru.n3 ?_|refine Ru.neq_nil rfl ?_|refine Ru.eql_nil rfl ?_|refine Ru.eql_err rfl (by decide) ?_|refine Ru.neq_err rfl (by decide) ?_|refine Ru.be ?_|refine Ru.bn ?_|refine RuQ.be ?_|refine RuQ.bn ?_|refine CW.s ?_); conv => whnf)
        refine Ca.args (args' := #[.pointer (some ⟨c, 0, none⟩), .int .i64 a, .int .i64 (((k * 64 + p) * 8 + y : Nat) : Int)]) (by
          rw [show (((k * 64 + p) * 8 + y : Nat) : Int) = ((k : Int) * 64 + p) * 8 + y by omega]) ?_
        refine Ca.of (flip_ok wy c a ((k * 64 + p) * 8 + y) _ Hy (turned_wf hw (fun j => ?_) woy) ha (by omega)) ?_
        · show (if j = p then M i % 2 ^ y else patTo F s M i j) < 256
          split
          · exact Nat.lt_of_le_of_lt (Nat.mod_le _ _) hMi
          · exact hplt j
        rintro _ w3 ⟨rfl, H3, k3⟩
        obtain ⟨wo3, e3⟩ := turned_flip C (a := a) (fun j => if j = p then M i % 2 ^ y else patTo F s M i j) woy hk hpos hly
        rw [e3] at H3
        conv => whnf
        repeat ((first
          | refine HS.t ?_|refine Br.t ?_|refine Br.f ?_|refine Pk.f ?_|refine Pk.t ?_|refine Pk.and ?_|refine Pk.or ?_|refine Ix.n ?_|refine Ix.of _ (by rfl) (by omega) ?_|refine Ix.i ?_|refine Ar.la ?_|refine Ar.lb ?_|refine Ar.lc ?_|refine Dv.q ?_|refine Dv.r ?_|refine Br.y ?_|refine Br.n ?_|refine Br.ny ?_|refine Br.nn ?_|refine Br.is (by assumption) ?_|refine Br.isnt (by assumption) ?_|refine Ld.of (by assumption) ?_|refine Ru.neq_nil0 ?_|refine Ru.n1 ?_|refine Ru.eql_nil0 ?_|refine Ru.e1 ?_|refine Ru.e2 ?_|refine Ru.e3 ?_|refine Ru.n2 ?_|refine Ru.n3 ?_|refine Ru.neq_nil rfl ?_|refine Ru.eql_nil rfl ?_|refine Ru.eql_err rfl (by decide) ?_|refine Ru.neq_err rfl (by decide) ?_|refine Ru.be ?_|refine Ru.bn ?_|refine RuQ.be ?_|refine RuQ.bn ?_|refine CW.s ?_); conv => whnf)
        refine ⟨y + 1, ⟨hly, ⟨wo3, ?_⟩, ky.trans k3⟩, ⟨rfl, rfl, rfl, rfl, rfl, rfl, rfl, rfl, rfl, rfl, vi (by omega), trivial⟩, by simp only; omega⟩
        rw [turned_congr C wo3 (fun j => ?_)] at H3
        · exact H3
        · by_cases hj : j = p
          · simp only [if_pos hj, hmod, if_true]
          · simp only [if_neg hj]
      · have hbit : (M i).testBit y = false := by simpa using hbit
        rw [hbit] at hb8
        rw [hbit] at hmod
        simp only [Bool.false_eq_true, if_false, Nat.xor_zero] at hmod
        conv => whnf
        repeat ((first
          | (refine Ld.at (by omega) hmy ?_)
          | (refine Ix.of i (by omega) (by omega) ?_)
          | (refine Sh.shr8 ?_)
          | (refine Br.isnt hb8 ?_)
          | refine HS.t ?_|refine Br.t ?_|refine Br.f ?_|refine Pk.f ?_|refine Pk.t ?_|refine Pk.and ?_|refine Pk.or ?_|refine Ix.n ?_|refine Ix.of _ (by rfl) (by omega) ?_|refine Ix.i ?_|refine Ar.la ?_|refine Ar.lb ?_|refine Ar.lc ?_|refine Dv.q ?_|refine Dv.r ?_|refine Br.y ?_|refine Br.n ?_|refine Br.ny ?_|refine Br.nn ?_|refine Br.is (by assumption) ?_|refine Br.isnt (by assumption) ?_|refine Ld.of (by assumption) ?_|refine Ru.neq_nil0 ?_|refine Ru.n1 ?_|refine Ru.eql_nil0 ?_|refine Ru.e1 ?_|refine Ru.e2 ?_|refine Ru.e3 ?_|refine Ru.n2 ?_|refine Ru.n3 ?_|refine Ru.neq_nil rfl ?_|refine Ru.eql_nil rfl ?_|refine Ru.eql_err rfl (by decide) ?_|refine Ru.neq_err rfl (by decide) ?_|refine Ru.be ?_|refine Ru.bn ?_|refine RuQ.be ?_|refine RuQ.bn ?_|refine CW.s ?_); conv => whnf)
        refine ⟨y + 1, ⟨hly, ⟨woy, ?_⟩, ky⟩, ⟨rfl, rfl, rfl, rfl, rfl, rfl, rfl, rfl, rfl, rfl, vi (by omega), trivial⟩, by simp only; omega⟩
        rw [turned_congr C woy (fun j => ?_)] at Hy
        · exact Hy
        · by_cases hj : j = p
          · simp only [if_pos hj, hmod]
          · simp only [if_neg hj]
    · obtain rfl : y = 8 := by omega
      conv => whnf
      repeat ((first
        | refine HS.t ?_|refine Br.t ?_|refine Br.f ?_|refine Pk.f ?_|refine Pk.t ?_|refine Pk.and ?_|refine Pk.or ?_|refine Ix.n ?_|refine Ix.of _ (by rfl) (by omega) ?_|refine Ix.i ?_|refine Ar.la ?_|refine Ar.lb ?_|refine Ar.lc ?_|refine Dv.q ?_|refine Dv.r ?_|refine Br.y ?_|refine Br.n ?_|refine Br.ny ?_|refine Br.nn ?_|refine Br.is (by assumption) ?_|refine Br.isnt (by assumption) ?_|refine Ld.of (by assumption) ?_|refine Ru.neq_nil0 ?_|refine Ru.n1 ?_|refine Ru.eql_nil0 ?_|refine Ru.e1 ?_|refine Ru.e2 ?_|refine Ru.e3 ?_|refine Ru.n2 ?_|refine Ru.n3 ?_|refine Ru.neq_nil rfl ?_|refine Ru.eql_nil rfl ?_|refine Ru.eql_err rfl (by decide) ?_|refine Ru.neq_err rfl (by decide) ?_|refine Ru.be ?_|refine Ru.bn ?_|refine RuQ.be ?_|refine RuQ.bn ?_|refine CW.s ?_); conv => whnf)
      refine ⟨i + 1, ⟨hlt, (r2.keep ky (by simp; omega)).congr (fun j _ => ?_), ⟨woy, ?_⟩, k12.trans (ky.mono (by simp))⟩, ⟨rfl, rfl, rfl, rfl, rfl, rfl, rfl, rfl, vi (by omega), trivial⟩, by simp only; omega⟩
      · unfold put
        rw [hhad]
        by_cases hj : j = p
        · simp [hj]
        · simp [hj]
      · rw [turned_congr C woy (fun j => ?_)] at Hy
        · exact Hy
        · rw [hpat]
          by_cases hj : j = p
          · rw [if_pos hj, if_pos ⟨hj, by rw [hj, hp]⟩, Nat.mod_eq_of_lt (by omega)]
          · rw [if_neg hj, if_neg (fun e => hj e.1)]
end Go.Proofs.Ytkpaafjnjmmehaa
/- The plain law of pages: what a page is read as, whatever few bytes of it are turned. -/
namespace Go.Proofs.Ytkpaafjnjmmehaa
open Go.RowKit
set_option linter.unusedVariables false
set_option maxRecDepth 20000
attribute [local irreducible] GF.pw GF.lg GF.mul GF.inv GF.xt
/-- The greatest of the first n. -/
def mx (f : Nat → Nat) : Nat → Nat
  | 0 => 0
  | k + 1 => max (mx f k) (f k)
theorem mx_congr {f g : Nat → Nat} : ∀ n, (∀ k, k < n → f k = g k) → mx f n = mx g n
  | 0, _ => rfl
  | n + 1, h => by
    unfold mx
    rw [mx_congr n (fun k hk => h k (by omega)), h n (by omega)]
theorem dmgTo_len (x : Chunk) : ∀ n, x.dmgTo n = ((List.range n).filter fun i => decide (x.now i ≠ x.truth i)).length
  | 0 => rfl
  | n + 1 => by
    rw [List.range_succ, List.filter_append, List.length_append, ← dmgTo_len x n, dmg_step]
    by_cases h : x.now n = x.truth n
    · simp [h]
    · simp [h]
theorem dmg_dist (x : Chunk) : x.dmg = GF.dist x.now x.truth := dmgTo_len x 64
theorem dist_right {V W W' : Nat → Nat} (h : ∀ i, i < 64 → W i = W' i) : GF.dist V W = GF.dist V W' := by
  rw [GF.dist_comm V W, GF.dist_comm V W', dist_congr h]
/-- A page: its chunks' truth is W; Q is what was turned. -/
structure PageSt (C : Chip) (a : Nat) (W Q : Nat → Nat → Nat) : Prop where
  on : C.off = false
  wf : C.Wf
  now : ∀ k, k < 4 → ∀ j, (C.ch a k).now j = W k j ^^^ Q k j
  truth : ∀ k, k < 4 → (C.ch a k).truth = W k
theorem PageSt.turn {C : Chip} {a : Nat} {W Q : Nat → Nat → Nat} (H : PageSt C a W Q) {k : Nat} {P : Nat → Nat} (hP : ∀ j, P j < 256) (wo : Int) : PageSt (C.turned a k P wo) a W (fun k' j => if k' = k then Q k' j ^^^ P j else Q k' j) := by
  refine ⟨H.on, turned_wf H.wf hP wo, fun k' hk' j => ?_, fun k' hk' => ?_⟩
  · unfold Chip.turned
    by_cases h : k' = k
    · subst h
      rw [Chip.setCh_same]
      show (C.ch a k').now j ^^^ P j = _
      rw [H.now k' hk' j, if_pos rfl, Nat.xor_assoc]
    · rw [Chip.setCh_ne _ _ (fun e => h e.2), if_neg h]
      exact H.now k' hk' j
  · unfold Chip.turned
    by_cases h : k' = k
    · subst h
      rw [Chip.setCh_same]
      exact H.truth k' hk'
    · rw [Chip.setCh_ne _ _ (fun e => h e.2)]
      exact H.truth k' hk'
theorem PageSt.congr {C : Chip} {a : Nat} {W Q Q' : Nat → Nat → Nat} (H : PageSt C a W Q) (h : ∀ k, k < 4 → ∀ j, Q k j = Q' k j) : PageSt C a W Q' := ⟨H.on, H.wf, fun k hk j => by rw [← h k hk j]; exact H.now k hk j, H.truth⟩
theorem PageSt.readE {C : Chip} {a : Nat} {W Q : Nat → Nat → Nat} (H : PageSt C a W Q) (b : Nat) : PageSt (C.readE b) a W Q := ⟨H.on, ⟨H.wf.b0, H.wf.b1, H.wf.bf, H.wf.now, H.wf.truth⟩, H.now, H.truth⟩
theorem PageSt.chunk {C : Chip} {a : Nat} {W Q : Nat → Nat → Nat} (H : PageSt C a W Q) {k : Nat} (hk : k < 4) (i : Nat) (hi : i < 64) : chk (pageW C a) k i = (C.ch a k).now i := by
  unfold chk pageW
  rw [show (k * 64 + i) / 64 = k by omega, show (k * 64 + i) % 64 = i by omega]
theorem PageSt.dist {C : Chip} {a : Nat} {W Q : Nat → Nat → Nat} (H : PageSt C a W Q) {k : Nat} (hk : k < 4) : GF.dist (W k) (chk (pageW C a) k) = (C.ch a k).dmg := by
  rw [dmg_dist, H.truth k hk, GF.dist_comm, dist_congr (H.chunk hk)]
/-- In how many bytes a pattern turns. -/
def cnt (Q : Nat → Nat) : Nat := ((List.range 64).filter fun i => decide (Q i ≠ 0)).length
theorem xor_ne (a b : Nat) : (a ^^^ b ≠ a) ↔ b ≠ 0 := by
  constructor
  · rintro h rfl
    exact h (Nat.xor_zero a)
  · intro h e
    apply h
    have : a ^^^ (a ^^^ b) = a ^^^ a := by rw [e]
    rwa [← Nat.xor_assoc, Nat.xor_self, Nat.zero_xor] at this
theorem PageSt.dmg {C : Chip} {a : Nat} {W Q : Nat → Nat → Nat} (H : PageSt C a W Q) {k : Nat} (hk : k < 4) : (C.ch a k).dmg = cnt (Q k) := by
  rw [dmg_dist]
  unfold GF.dist GF.difL cnt
  congr 1
  apply List.filter_congr
  intro i _
  rw [H.now k hk i, H.truth k hk]
  exact decide_eq_decide.2 (xor_ne _ _)
theorem cnt_zero : cnt (fun _ => 0) = 0 := by
  unfold cnt
  simp
theorem cnt_pat (F : Int) (s : Nat) (M : Nat → Nat) (i : Nat) : cnt (patTo F s M i) ≤ i := by
  refine Nat.le_trans ?_ (had_count F s i)
  unfold cnt
  rw [← List.countP_eq_length_filter, ← List.countP_eq_length_filter]
  refine List.countP_mono_left (fun b _ h => ?_)
  cases hb : hadTo F s i b with
  | true => rfl
  | false =>
    rw [pat_had F s M i b hb] at h
    simp at h
section
variable {p D : Nat → Nat} {t : Tg} {a : Nat}
theorem encP_lt (hD : ∀ j, D j < 256) (k i : Nat) : encP D t k i < 256 := GF.encW_lt (fun j => layF_lt hD (bodyN_lt t) _) i
theorem encP_cw (hD : ∀ j, D j < 256) (k : Nat) : GF.IsCw (encP D t k) := GF.enc_cw (fun j => layF_lt hD (bodyN_lt t) _)
/-- The word of the tag. -/
theorem tag_word (hD : ∀ j, D j < 256) (ht : t.ok) (hta : t.place = a) {V : Nat → Nat} (he : ∀ i, i < 64 → V i = encP D t 3 i) : TagOk V a ∧ decT (natI V) = t := by
  have hb : ∀ j, j < 50 → natI V j = bodyF t j := fun j hj => by
    unfold natI
    rw [he j (by omega)]
    unfold encP GF.encW
    rw [if_pos (by omega)]
    unfold msg58 layF
    rw [if_neg (by omega), if_pos (by omega), show 3 * 58 + j - 174 = j by omega, bodyN_int]
  have hm : ∀ j, j < 8 → natI V (50 + j) = markF j := fun j hj => by
    unfold natI
    rw [he (50 + j) (by omega)]
    unfold encP GF.encW
    rw [if_pos (by omega)]
    unfold msg58 layF
    rw [if_neg (by omega), if_neg (by omega), show 3 * 58 + (50 + j) - 224 = j by omega, markF_nat]
  have hdT : decT (natI V) = t := by
    rw [← back_t ht]
    unfold decT
    rw [numOf_congr (f := natI V) (g := bodyF t) 2 (fun j hj => hb j (by omega)), numOf_congr (f := fun j => natI V (3 + j)) (g := fun j => bodyF t (3 + j)) 5 (fun j hj => hb (3 + j) (by omega)), hb 2 (by omega), hb 8 (by omega), hb 9 (by omega)]
  exact ⟨⟨hm, by unfold decOk; rw [hdT]; exact ⟨ht, fun j hj => (hb j hj).symm⟩, by rw [hdT]; exact hta⟩, hdT⟩
/-- A page whose codewords are near those that were programmed is read as it was. -/
theorem readP_near (hD : ∀ j, D j < 256) (ht : t.ok) (hta : t.place = a) (hp : ∀ k, k < 4 → GF.dist (encP D t k) (chk p k) ≤ 2) :
    (readP p a).tagged = true ∧ (readP p a).tag = t ∧ (readP p a).sound = true ∧ (∀ j, j < 174 → (readP p a).data j = D j) ∧ (readP p a).damage = mx (fun k => GF.dist (encP D t k) (chk p k)) 4 := by
  have hdec : ∀ k, k < 4 → ∃ V, decW (chk p k) = some V ∧ ∀ i, i < 64 → V i = encP D t k i := fun k hk => decW_near ⟨encP_lt hD k, encP_cw hD k, hp k hk⟩
  obtain ⟨V, hV, he⟩ := hdec 3 (by omega)
  obtain ⟨htag, hdT⟩ := tag_word hD ht hta he
  have hs : (decW (chk p 0)).isSome ∧ (decW (chk p 1)).isSome ∧ (decW (chk p 2)).isSome := by
    obtain ⟨a0, h0, _⟩ := hdec 0 (by omega)
    obtain ⟨a1, h1, _⟩ := hdec 1 (by omega)
    obtain ⟨a2, h2, _⟩ := hdec 2 (by omega)
    rw [h0, h1, h2]
    exact ⟨rfl, rfl, rfl⟩
  have hR : readP p a = ⟨true, decT (natI V), true, dmgUp p (fun k => decW (chk p k)) 4, _⟩ := readR_all hV htag hs
  rw [hR, hdT]
  refine ⟨rfl, rfl, rfl, fun j hj => ?_, ?_⟩
  · simp only
    obtain ⟨U, hU, hUe⟩ := hdec (j / 58) (by omega)
    rw [hU, Option.getD_some, hUe _ (by omega)]
    unfold encP GF.encW
    rw [if_pos (by omega)]
    unfold msg58 layF
    rw [show j / 58 * 58 + j % 58 = j by omega, if_pos hj]
  · simp only
    have key : ∀ n, n ≤ 4 → dmgUp p (fun k => decW (chk p k)) n = mx (fun k => GF.dist (encP D t k) (chk p k)) n := by
      intro n
      induction n with
      | zero => intro _; rfl
      | succ n ih =>
        intro hn
        unfold dmgUp mx
        rw [ih (by omega)]
        obtain ⟨U, hU, hUe⟩ := hdec n (by omega)
        simp only [hU]
        rw [dist_congr hUe]
    exact key 4 (Nat.le_refl _)
/-- A word of which three or four bytes were turned is far from all codewords. -/
theorem far_of {U W : Nat → Nat} (hU : ∀ i, U i < 256) (hc : GF.IsCw U) (h3 : 3 ≤ GF.dist U W) (h4 : GF.dist U W ≤ 4) : Far W := fun C hC hcC => by
  by_cases h : GF.dist C W ≤ 2
  · have e := near_same (p := W) hC hU hcC hc (by omega)
    rw [dist_congr e] at h
    omega
  · omega
/-- With three or four bytes of one codeword turned. -/
theorem readP_far (hD : ∀ j, D j < 256) (ht : t.ok) (hta : t.place = a) {j : Nat} (hj : j < 4) (hp : ∀ k, k < 4 → k ≠ j → GF.dist (encP D t k) (chk p k) ≤ 2) (h3 : 3 ≤ GF.dist (encP D t j) (chk p j)) (h4 : GF.dist (encP D t j) (chk p j) ≤ 4) :
    (readP p a).sound = false ∧ (j = 3 → (readP p a).tagged = false) ∧ (j ≠ 3 → (readP p a).tagged = true ∧ (readP p a).tag = t) := by
  have hfar : decW (chk p j) = none := decW_far (far_of (encP_lt hD j) (encP_cw hD j) h3 h4)
  by_cases hj3 : j = 3
  · subst hj3
    have hR : readP p a = ⟨false, Tg.zero, false, _, _⟩ := readR_none (fun V hV => by rw [hfar] at hV; cases hV)
    rw [hR]
    exact ⟨rfl, fun _ => rfl, fun h => absurd rfl h⟩
  · obtain ⟨V, hV, he⟩ := decW_near (W := chk p 3) ⟨encP_lt hD 3, encP_cw hD 3, hp 3 (by omega) (fun e => hj3 e.symm)⟩
    obtain ⟨htag, hdT⟩ := tag_word hD ht hta he
    have hR : readP p a = ⟨true, decT (natI V), false, _, _⟩ := readR_tag hV htag (fun h => by
      have : j = 0 ∨ j = 1 ∨ j = 2 := by omega
      rcases this with rfl | rfl | rfl
      · rw [hfar] at h; exact absurd h.1 (by simp)
      · rw [hfar] at h; exact absurd h.2.1 (by simp)
      · rw [hfar] at h; exact absurd h.2.2 (by simp))
    rw [hR]
    exact ⟨rfl, fun h => absurd h hj3, fun _ => ⟨rfl, hdT⟩⟩
end
/-- A chip on which a page can be programmed. -/
structure Ready (C : Chip) (a : Nat) : Prop where
  on : C.off = false
  cut : C.cut = false
  blank : ∀ k, k < 4 → (C.ch a k).is = false
  failed : C.failed (a / 8) = false
  before : C.before (a / 8) ≤ 0
theorem ready_write {C : Chip} {a k : Nat} {b : Nat → Nat} (h1 : C.off = false) (h2 : C.cut = false) (h3 : (C.ch a k).is = false) (h4 : C.failed (a / 8) = false) (h5 : C.before (a / 8) ≤ 0) : C.write a k b = ({ C with steps := w64 (C.steps + 1) }.setCh a k ⟨b, b, true, 0⟩, 0) := by
  have e1 : C.stepE = ({ C with steps := w64 (C.steps + 1) }, 0) := by
    unfold Chip.stepE
    rw [if_neg (by rw [h2]; simp)]
  have e2 : ({ C with steps := w64 (C.steps + 1) } : Chip).hit (a / 8) = { C with steps := w64 (C.steps + 1) } := by
    unfold Chip.hit
    rw [if_neg (by simp only; omega)]
  unfold Chip.write
  rw [if_neg (by rw [h1]; simp), if_neg (by rw [h3]; simp), e1]
  simp only [if_true, e2]
  rw [if_neg (by rw [h4]; simp)]
theorem ready_prog {C : Chip} {a : Nat} {W : Nat → Nat → Nat} (h : Ready C a) : ∀ n, n ≤ 4 → (C.prog a W n).2 = 0 ∧ (C.prog a W n).1.off = false ∧ (C.prog a W n).1.cut = false ∧ (C.prog a W n).1.failed = C.failed ∧ (C.prog a W n).1.before = C.before ∧ (∀ k, n ≤ k → (C.prog a W n).1.ch a k = C.ch a k)
  | 0, _ => ⟨rfl, h.on, h.cut, rfl, rfl, fun _ _ => rfl⟩
  | n + 1, hn => by
    obtain ⟨g1, g2, g3, g4, g5, g6⟩ := ready_prog h (W := W) n (by omega)
    have e := ready_write (a := a) (k := n) (b := W n) g2 g3 (by rw [g6 n (Nat.le_refl _)]; exact h.blank n (by omega)) (by rw [g4]; exact h.failed) (by rw [g5]; exact h.before)
    unfold Chip.prog
    rw [if_pos g1, e]
    exact ⟨rfl, g2, g3, g4, g5, fun k hk => by
      rw [Chip.setCh_ne _ _ (fun e => by omega)]
      exact g6 k (by omega)⟩
theorem ready_page {C : Chip} {a : Nat} {W : Nat → Nat → Nat} (h : Ready C a) (hw : C.Wf) (hW : ∀ k i, W k i < 256) : PageSt (C.prog a W 4).1 a W (fun _ _ => 0) := by
  obtain ⟨g1, g2⟩ := ready_prog h (W := W) 4 (by omega)
  obtain ⟨h1, h2⟩ := prog_done (by omega) g1
  exact ⟨h1, prog_wf hw a hW 4, fun k hk j => by rw [h2 k hk, Nat.xor_zero], fun k hk => by rw [h2 k hk]⟩
theorem fresh_wf : Chip.fresh.Wf := ⟨by decide, by decide, fun _ => (by decide : (0 : Int) ≤ 9223372036854775807), fun _ _ _ => (by decide : 255 < 256), fun _ _ _ => (by decide : 255 < 256)⟩
theorem fresh_ready (a : Nat) : Ready Chip.fresh a := ⟨rfl, rfl, fun _ _ => rfl, rfl, (by decide : (0 : Int) ≤ 0)⟩
end Go.Proofs.Ytkpaafjnjmmehaa
/- The steps of the laws about pages, over a page whose bytes were turned. -/
namespace Go.Proofs.Ytkpaafjnjmmehaa
open Go.RowKit
set_option linter.unusedVariables false
set_option maxRecDepth 20000
attribute [local irreducible] GF.pw GF.lg GF.mul GF.inv GF.xt
theorem ptrC_no (w : World) (x : Operand) (a : Addr) : (do eqGuard .eql 23 x (.const (.pointer none)) (.pointer (some a)) (.pointer none); binOp .eql 23 (.pointer (some a)) (.pointer none) : Sem Value).run Try.prog w = .ok (.bool false) w := by kernel_rfl
theorem ptrC_neq (w : World) (x : Operand) (a : Addr) : (do eqGuard .neq 23 x (.const (.pointer none)) (.pointer (some a)) (.pointer none); binOp .neq 23 (.pointer (some a)) (.pointer none) : Sem Value).run Try.prog w = .ok (.bool true) w := by kernel_rfl
theorem ptrM_no (w : World) (x : Operand) (a : Addr) : (do eqGuard .eql 25 x (.const (.pointer none)) (.pointer (some a)) (.pointer none); binOp .eql 25 (.pointer (some a)) (.pointer none) : Sem Value).run Try.prog w = .ok (.bool false) w := by kernel_rfl
theorem same_sp (A0 A1 : Option Addr) (n0 n1 c0 c1 : Nat) (f g : Nat → Int) (w : World) (r0 : Rd w A0 n0 (fun j => .int .u8 (f j))) (r1 : Rd w A1 n1 (fun j => .int .u8 (g j))) (h0 : n0 ≤ maxLen) (h1 : n1 ≤ maxLen) :
    Spec Try.prog 12 #[.slice A0 n0 c0, .slice A1 n1 c1] w fun v w' => v = .bool (sameB n0 n1 f g) ∧ Keep [] w w' :=
  Spec.of_ret (by kernel_rfl) (same_ok A0 A1 n0 n1 c0 c1 f g w r0 r1 h0 h1) fun e w' h => ⟨_, h.1, rfl, (Keep.refl _ _).drawn h.2⟩
/-- Where everything lies. -/
structure Nm where
  m : Nat
  c : Nat
  f : Nat
  cd : Nat
  g : Nat
  h : Nat
  x : Nat
/-- What was made lies above, and stands. -/
structure PgI (w : World) (N : Nm) (a : Nat) (t : Tg) (W Q : Nat → Nat → Nat) (w' : World) : Prop where
  med : ∃ C n, Med w' N.m N.c N.f N.cd N.g N.h C n ∧ PageSt C a W Q
  row : Row w' N.x 29 5 t.cell
  kp : Keep [] w w'
  lm : w.heap.size ≤ N.m
  lc : w.heap.size ≤ N.c
  lg : w.heap.size ≤ N.g
  lx : w.heap.size ≤ N.x
section
variable {w w1 w2 : World} {N : Nm} {a : Nat} {t : Tg} {W Q Q' : Nat → Nat → Nat}
theorem PgI.xc (I : PgI w N a t W Q w1) : N.x ≠ N.c := by
  obtain ⟨C, n, H, _⟩ := I.med
  exact I.row.ne_ H.chip (by decide)
theorem PgI.xm (I : PgI w N a t W Q w1) : N.x ≠ N.m := by
  obtain ⟨C, n, H, _⟩ := I.med
  exact I.row.ne_ H.row (by decide)
theorem PgI.xg (I : PgI w N a t W Q w1) : N.x ≠ N.g := by
  obtain ⟨C, n, H, _⟩ := I.med
  obtain ⟨F, r⟩ := H.frm.cod.fs.ty
  exact I.row.ne_ r (by decide)
theorem PgI.keep {S : List Nat} (I : PgI w N a t W Q w1) (k : Keep S w1 w2) (hS : ∀ y, y ∈ S → w1.heap.size ≤ y) : PgI w N a t W Q w2 := by
  obtain ⟨C, n, H, P⟩ := I.med
  have hl := H.lt
  have hx := I.row.lt
  have hn : ∀ y, y < w1.heap.size → y ∉ S := fun y hy hm => by have := hS y hm; omega
  exact ⟨⟨C, n, H.keep k (hn _ hl.1) (hn _ hl.2.1) (hn _ hl.2.2.1) (hn _ hl.2.2.2.1) (hn _ hl.2.2.2.2.1) (hn _ hl.2.2.2.2.2), P⟩, I.row.keep k (hn _ hx), I.kp.then k (fun y hy => .inr (by have := hS y hy; have := I.kp.size; omega)), I.lm, I.lc, I.lg, I.lx⟩
theorem PgI.congr (I : PgI w N a t W Q w1) (h : ∀ k, k < 4 → ∀ j, Q k j = Q' k j) : PgI w N a t W Q' w1 := by
  obtain ⟨C, n, H, P⟩ := I.med
  exact ⟨⟨C, n, H, P.congr h⟩, I.row, I.kp, I.lm, I.lc, I.lg, I.lx⟩
def turnQ (Q : Nat → Nat → Nat) (k : Nat) (P : Nat → Nat) : Nat → Nat → Nat := fun k' j => if k' = k then Q k' j ^^^ P j else Q k' j
theorem PgI.cells {n d many k : Nat} {F S : Int} {A : Option Addr} {M : Nat → Nat} (I : PgI w N a t W Q w1) (ha : a < 96) (hk : k < 4) (hF : InI F) (hS : InI S) (r : RdB w A n M) (hM : ∀ j, M j < 256) (hm : many ≤ 4) (hn : n ≤ 140737488355328) :
    Spec Try.prog 10 #[.pointer (some ⟨N.c, 0, none⟩), .int .i64 a, .int .i64 k, .int .i64 F, .int .i64 S, .slice A n d, .int .i64 many] w1 fun v w' => v = .tuple #[] ∧ PgI w N a t W (turnQ Q k (patTo F (someN S 60) M (min many n))) w' := by
  obtain ⟨C, nn, H, P⟩ := I.med
  have hA : 0 < n → ∀ x, A = some x → x.block ≠ N.c := fun h0 x hx => by
    obtain ⟨b, o, hb, hc⟩ := r h0
    rw [hb] at hx
    cases hx
    have := cell_lt (hc 0 h0)
    have := I.lc
    simp only at *
    omega
  have h := cells_ok w1 N.c a k n d many C F S A M H.chip P.wf ha hk hF hS (r.keep0 I.kp) hM hm hn hA
  refine ⟨h.1, h.2.mono fun e w' ⟨v, he, hv, wo, hc, hkc⟩ => ⟨v, he, hv, ⟨⟨_, nn, H.chipTo hkc hc, P.turn (pat_lt _ _ hM _) wo⟩, I.row.keep hkc (by simpa using I.xc), I.kp.then hkc (fun y hy => .inr (by rw [List.mem_singleton.1 hy]; exact I.lc)), I.lm, I.lc, I.lg, I.lx⟩⟩⟩
theorem PgI.damage {k : Nat} (I : PgI w N a t W Q w1) (ha : a < 96) (hk : k < 4) : Spec Try.prog 13 #[.pointer (some ⟨N.c, 0, none⟩), .int .i64 a, .int .i64 k] w1 fun v w' => (∃ wo, v = .tuple #[.int .i64 (cnt (Q k) : Nat), .int .i64 wo, errOf 0]) ∧ PgI w N a t W Q w' ∧ Keep [] w1 w' := by
  obtain ⟨C, nn, H, P⟩ := I.med
  have h := ndamage_ok w1 N.c a k C H.chip ha hk
  rw [P.dmg hk] at h
  exact ⟨h.1, h.2.mono fun e w' ⟨v, he, hv, hkk⟩ => ⟨v, he, ⟨_, hv⟩, I.keep hkk (fun y hy => by cases hy), hkk⟩⟩
/-- What is known of a page that was read. -/
def RFacts (R : PageR) (D : Nat → Nat) (t : Tg) (Q : Nat → Nat → Nat) : Prop :=
  ((∀ k, k < 4 → cnt (Q k) ≤ 2) → R.tagged = true ∧ R.tag = t ∧ R.sound = true ∧ (∀ j, j < 174 → R.data j = D j) ∧ R.damage = mx (fun k => cnt (Q k)) 4) ∧
  (∀ j, j < 4 → (∀ k, k < 4 → k ≠ j → cnt (Q k) ≤ 2) → 3 ≤ cnt (Q j) → cnt (Q j) ≤ 4 → R.sound = false ∧ (j = 3 → R.tagged = false) ∧ (j ≠ 3 → R.tagged = true ∧ R.tag = t))
theorem PageSt.facts {C : Chip} {D : Nat → Nat} (P : PageSt C a (encP D t) Q) (hD : ∀ j, D j < 256) (ht : t.ok) (hta : t.place = a) : RFacts (readP (pageW C a) a) D t Q := by
  have e : ∀ k, k < 4 → GF.dist (encP D t k) (chk (pageW C a) k) = cnt (Q k) := fun k hk => by rw [P.dist hk, P.dmg hk]
  refine ⟨fun h => ?_, fun j hj h h3 h4 => ?_⟩
  · obtain ⟨h1, h2, h3, h4, h5⟩ := readP_near (p := pageW C a) hD ht hta (fun k hk => by rw [e k hk]; exact h k hk)
    exact ⟨h1, h2, h3, h4, by rw [h5]; exact mx_congr 4 e⟩
  · exact readP_far (p := pageW C a) hD ht hta hj (fun k hk hne => by rw [e k hk]; exact h k hk hne) (by rw [e j hj]; exact h3) (by rw [e j hj]; exact h4)
theorem PgI.read {D : Nat → Nat} (I : PgI w N a t (encP D t) Q w1) (ha : a < 96) (hD : ∀ j, D j < 256) (ht : t.ok) (hta : t.place = a) : Spec Try.prog 11 #[.pointer (some ⟨N.m, 0, none⟩), .int .i64 a] w1 fun v w' =>
    ∃ R dv, RFacts R D t Q ∧ DvOk w1 w' R dv ∧ v = .tuple #[agg 9 (pgc R.tagged R.tag R.sound dv (R.damage : Nat)), errOf 0] ∧ PgI w N a t (encP D t) Q w' ∧ Keep [N.m, N.c, N.g] w1 w' := by
  obtain ⟨C, nn, H, P⟩ := I.med
  have h := mread_ok w1 N.m N.c N.f N.cd N.g N.h a C nn H P.wf ha
  refine ⟨h.1, h.2.mono fun e w' ⟨v, he, hv⟩ => ⟨v, he, ?_⟩⟩
  rcases hv with ⟨ho, _⟩ | ⟨_, dv, hdv, hv, H', hk⟩
  · rw [P.on] at ho
    cases ho
  · exact ⟨_, dv, P.facts hD ht hta, hdv, hv, ⟨⟨_, _, H', P.readE a⟩, I.row.keep hk (by have := I.xc; have := I.xm; have := I.xg; simp; omega), I.kp.then hk (fun y hy => .inr (by have := I.lm; have := I.lc; have := I.lg; simp at hy; omega)), I.lm, I.lc, I.lg, I.lx⟩, hk⟩
end
end Go.Proofs.Ytkpaafjnjmmehaa
/- The plain law of torn pages. -/
namespace Go.Proofs.Ytkpaafjnjmmehaa
open Go.RowKit
set_option linter.unusedVariables false
set_option maxRecDepth 20000
attribute [local irreducible] GF.pw GF.lg GF.mul GF.inv GF.xt
/-- A page of which the first n chunks were programmed; Q is what was turned since. -/
structure TornSt (C : Chip) (a n : Nat) (W Q : Nat → Nat → Nat) : Prop where
  on : C.off = false
  cut : C.cut = false
  failed : C.failed (a / 8) = false
  before : C.before (a / 8) ≤ 0
  wf : C.Wf
  is : ∀ k, k < 4 → (C.ch a k).is = decide (k < n)
  now : ∀ k, k < 4 → ∀ j, (C.ch a k).now j = (if k < n then W k j else 255) ^^^ Q k j
theorem TornSt.turn {C : Chip} {a n : Nat} {W Q : Nat → Nat → Nat} (H : TornSt C a n W Q) {k : Nat} {P : Nat → Nat} (hP : ∀ j, P j < 256) (wo : Int) : TornSt (C.turned a k P wo) a n W (turnQ Q k P) := by
  refine ⟨H.on, H.cut, H.failed, H.before, turned_wf H.wf hP wo, fun k' hk' => ?_, fun k' hk' j => ?_⟩
  · unfold Chip.turned
    by_cases h : k' = k
    · subst h
      rw [Chip.setCh_same]
      exact H.is k' hk'
    · rw [Chip.setCh_ne _ _ (fun e => h e.2)]
      exact H.is k' hk'
  · unfold Chip.turned turnQ
    by_cases h : k' = k
    · subst h
      rw [Chip.setCh_same]
      show (C.ch a k').now j ^^^ P j = _
      rw [H.now k' hk' j, if_pos rfl, Nat.xor_assoc]
    · rw [Chip.setCh_ne _ _ (fun e => h e.2), if_neg h]
      exact H.now k' hk' j
theorem TornSt.readE {C : Chip} {a n : Nat} {W Q : Nat → Nat → Nat} (H : TornSt C a n W Q) (b : Nat) : TornSt (C.readE b) a n W Q := ⟨H.on, H.cut, H.failed, H.before, ⟨H.wf.b0, H.wf.b1, H.wf.bf, H.wf.now, H.wf.truth⟩, H.is, H.now⟩
/-- The chip whose power goes behind n writes. -/
theorem torn_prog (a n : Nat) (W : Nat → Nat → Nat) (hW : ∀ k i, W k i < 256) : ∀ k, k ≤ n → n ≤ 3 → ((Chip.fresh.cutE n).prog a W k).2 = 0 ∧ ((Chip.fresh.cutE n).prog a W k).1.off = false ∧ ((Chip.fresh.cutE n).prog a W k).1.cut = true ∧ ((Chip.fresh.cutE n).prog a W k).1.budget = ((n - k : Nat) : Int) ∧ ((Chip.fresh.cutE n).prog a W k).1.failed = Chip.fresh.failed ∧ ((Chip.fresh.cutE n).prog a W k).1.before = Chip.fresh.before ∧
    (∀ j, k ≤ j → ((Chip.fresh.cutE n).prog a W k).1.ch a j = Chunk.blank) ∧ (∀ j, j < k → ((Chip.fresh.cutE n).prog a W k).1.ch a j = ⟨W j, W j, true, 0⟩)
  | 0, _, _ => ⟨rfl, rfl, rfl, rfl, rfl, rfl, fun _ _ => rfl, fun j h => absurd h (by omega)⟩
  | k + 1, hk, hn => by
    obtain ⟨g1, g2, g3, g4, g5, g6, g7, g8⟩ := torn_prog a n W hW k (by omega) hn
    show ((if ((Chip.fresh.cutE n).prog a W k).2 = 0 then ((Chip.fresh.cutE n).prog a W k).1.write a k (W k) else (Chip.fresh.cutE n).prog a W k)).2 = 0 ∧ _
    have e : (Chip.fresh.cutE n).prog a W (k + 1) = ((Chip.fresh.cutE n).prog a W k).1.write a k (W k) := if_pos g1
    rw [if_pos g1, e]
    generalize ((Chip.fresh.cutE n).prog a W k).1 = S at *
    have e1 : S.stepE = ({ S with budget := S.budget - 1, steps := w64 (S.steps + 1) }, 0) := by
      unfold Chip.stepE
      rw [if_pos g3, if_neg (by rw [g4]; omega)]
    have e2 : ({ S with budget := S.budget - 1, steps := w64 (S.steps + 1) } : Chip).hit (a / 8) = { S with budget := S.budget - 1, steps := w64 (S.steps + 1) } := by
      unfold Chip.hit
      rw [if_neg (by simp only [g6]; exact (by decide : ¬ (0 : Int) < 0))]
    have e3 : S.write a k (W k) = ({ S with budget := S.budget - 1, steps := w64 (S.steps + 1) }.setCh a k ⟨W k, W k, true, 0⟩, 0) := by
      unfold Chip.write
      rw [if_neg (by rw [g2]; simp), if_neg (by rw [g7 k (Nat.le_refl _)]; simp [Chunk.blank]), e1]
      simp only [if_true, e2]
      rw [if_neg (by rw [g5]; simp [Chip.fresh, Chip.zero])]
    rw [e3]
    refine ⟨rfl, g2, g3, ?_, g5, g6, fun j hj => ?_, fun j hj => ?_⟩
    · show S.budget - 1 = _
      rw [g4]
      omega
    · rw [Chip.setCh_ne _ _ (fun e => by omega)]
      exact g7 j (by omega)
    · by_cases hjk : j = k
      · subst hjk
        rw [Chip.setCh_same]
      · rw [Chip.setCh_ne _ _ (fun e => hjk e.2)]
        exact g8 j (by omega)
theorem torn_end (a n : Nat) (W : Nat → Nat → Nat) (hW : ∀ k i, W k i < 256) (hn : n ≤ 3) : ((Chip.fresh.cutE n).prog a W 4).2 = 7 ∧ TornSt ((Chip.fresh.cutE n).prog a W 4).1.power a n W (fun _ _ => 0) := by
  obtain ⟨g1, g2, g3, g4, g5, g6, g7, g8⟩ := torn_prog a n W hW n (Nat.le_refl _) hn
  have hcw : (Chip.fresh.cutE n).Wf := ⟨by show (0 : Int) ≤ n; omega, by show (n : Int) ≤ _; omega, fresh_wf.bf, fresh_wf.now, fresh_wf.truth⟩
  have hw := prog_wf hcw a hW n
  have e : (Chip.fresh.cutE n).prog a W (n + 1) = ((Chip.fresh.cutE n).prog a W n).1.write a n (W n) := if_pos g1
  have hst : ((Chip.fresh.cutE n).prog a W (n + 1)).2 ≠ 0 → (Chip.fresh.cutE n).prog a W 4 = (Chip.fresh.cutE n).prog a W (n + 1) := fun h => prog_stuck h 4 (by omega)
  rw [e] at hst
  generalize ((Chip.fresh.cutE n).prog a W n).1 = S at *
  have e1 : S.stepE = ({ S with off := true }, 7) := by
    unfold Chip.stepE
    rw [if_pos g3, if_pos (by rw [g4]; omega)]
  have e3 : S.write a n (W n) = ({ S with off := true }, 7) := by
    unfold Chip.write
    rw [if_neg (by rw [g2]; simp), if_neg (by rw [g7 n (Nat.le_refl _)]; simp [Chunk.blank]), e1]
    rw [if_neg (by simp)]
  rw [e3] at hst
  rw [hst (by simp)]
  refine ⟨rfl, rfl, rfl, ?_, ?_, ⟨(by decide : (0 : Int) ≤ 0), (by decide : (0 : Int) ≤ 9223372036854775807), hw.bf, hw.now, hw.truth⟩, fun k hk => ?_, fun k hk j => ?_⟩
  · show S.failed (a / 8) = false
    rw [g5]
    rfl
  · show S.before (a / 8) ≤ 0
    rw [g6]
    exact (by decide : (0 : Int) ≤ 0)
  · show (S.ch a k).is = _
    by_cases h : k < n
    · rw [g8 k h]; simp [h]
    · rw [g7 k (by omega)]; simp [h, Chunk.blank]
  · show (S.ch a k).now j = _
    by_cases h : k < n
    · rw [g8 k h, if_pos h, Nat.xor_zero]
    · rw [g7 k (by omega), if_neg h, Nat.xor_zero]
      rfl
theorem mark_ne : ∀ j, j < 8 → markF j ≠ 255 := by decide
/-- A codeword near to bytes that are 255 but for four bears no mark. -/
theorem no_mark {V U Q : Nat → Nat} (hV : Near V U) (hU : ∀ i, i < 64 → U i = 255 ^^^ Q i) (hQ : cnt Q ≤ 4) : ¬ Marked (natI V) := fun hm => by
  have h1 : GF.dist U (fun _ => 255) = cnt Q := by
    unfold GF.dist GF.difL cnt
    congr 1
    apply List.filter_congr
    intro i hi
    rw [hU i (List.mem_range.1 hi)]
    exact decide_eq_decide.2 (xor_ne _ _)
  have h2 := GF.dist_tri V U (fun _ => 255)
  have h3 := hV.2.2
  have h4 : 8 ≤ GF.dist V (fun _ => 255) := by
    have h5 : ((List.range 64).filter fun i => decide (50 ≤ i ∧ i < 58)).length = 8 := by decide +kernel
    rw [← h5]
    unfold GF.dist GF.difL
    rw [← List.countP_eq_length_filter, ← List.countP_eq_length_filter]
    refine List.countP_mono_left (fun i _ h => ?_)
    have h : 50 ≤ i ∧ i < 58 := by simpa using h
    have hmi := hm (i - 50) (by omega)
    have hne := mark_ne (i - 50) (by omega)
    rw [show 50 + (i - 50) = i by omega] at hmi
    unfold natI at hmi
    simp only [ne_eq, decide_eq_true_eq]
    intro e
    rw [e] at hmi
    exact hne hmi.symm
  omega
theorem TornSt.read {C : Chip} {a n : Nat} {W Q : Nat → Nat → Nat} (H : TornSt C a n W Q) (hn : n ≤ 3) (hQ : cnt (Q 3) ≤ 4) : (readP (pageW C a) a).tagged = false ∧ (readP (pageW C a) a).sound = false := by
  have hR : readP (pageW C a) a = ⟨false, Tg.zero, false, _, _⟩ := readR_none (fun V hV ht => no_mark (decW_some hV) (fun i hi => by
    unfold chk pageW
    rw [show (3 * 64 + i) / 64 = 3 by omega, show (3 * 64 + i) % 64 = i by omega, H.now 3 (by omega), if_neg (by omega)]) hQ ht.1)
  rw [hR]
  exact ⟨rfl, rfl⟩
theorem TornSt.again {C : Chip} {a n : Nat} {W Q : Nat → Nat → Nat} (H : TornSt C a n W Q) (W' : Nat → Nat → Nat) : (C.prog a W' 4).2 = if 0 < n then 9 else 0 := by
  by_cases h : 0 < n
  · rw [if_pos h]
    have e : C.prog a W' 1 = (C, 9) := by
      show (if (0 : Int) = 0 then C.write a 0 (W' 0) else (C, 0)) = _
      rw [if_pos rfl]
      unfold Chip.write
      rw [if_neg (by rw [H.on]; simp), if_pos (by rw [H.is 0 (by omega)]; simp [h])]
    rw [prog_stuck (i := 1) (by rw [e]; simp) 4 (by omega), e]
  · rw [if_neg h]
    exact (ready_prog (W := W') ⟨H.on, H.cut, fun k hk => by rw [H.is k hk]; simp; omega, H.failed, H.before⟩ 4 (by omega)).1
end Go.Proofs.Ytkpaafjnjmmehaa
/- TopTorn: its walk. -/
namespace Go.Proofs.Ytkpaafjnjmmehaa
open Go.RowKit
set_option linter.unusedVariables false
set_option maxRecDepth 20000
attribute [local irreducible] GF.pw GF.lg GF.mul GF.inv GF.xt sameB
structure TnI (w : World) (N : Nm) (t : Tg) (P : Chip → Prop) (w' : World) : Prop where
  med : ∃ C n, Med w' N.m N.c N.f N.cd N.g N.h C n ∧ P C
  row : Row w' N.x 29 5 t.cell
  kp : Keep [] w w'
  lm : w.heap.size ≤ N.m
  lc : w.heap.size ≤ N.c
  lg : w.heap.size ≤ N.g
  lx : w.heap.size ≤ N.x
section
variable {w w1 w2 : World} {N : Nm} {a : Nat} {t : Tg} {P P' : Chip → Prop} {W Q : Nat → Nat → Nat}
theorem TnI.xne (I : TnI w N t P w1) : N.x ≠ N.c ∧ N.x ≠ N.m ∧ N.x ≠ N.g := by
  obtain ⟨C, n, H, _⟩ := I.med
  obtain ⟨F, r⟩ := H.frm.cod.fs.ty
  exact ⟨I.row.ne_ H.chip (by decide), I.row.ne_ H.row (by decide), I.row.ne_ r (by decide)⟩
theorem TnI.keep {S : List Nat} (I : TnI w N t P w1) (k : Keep S w1 w2) (hS : ∀ y, y ∈ S → w1.heap.size ≤ y) : TnI w N t P w2 := by
  obtain ⟨C, n, H, hP⟩ := I.med
  have hl := H.lt
  have hx := I.row.lt
  have hn : ∀ y, y < w1.heap.size → y ∉ S := fun y hy hm => by have := hS y hm; omega
  exact ⟨⟨C, n, H.keep k (hn _ hl.1) (hn _ hl.2.1) (hn _ hl.2.2.1) (hn _ hl.2.2.2.1) (hn _ hl.2.2.2.2.1) (hn _ hl.2.2.2.2.2), hP⟩, I.row.keep k (hn _ hx), I.kp.then k (fun y hy => .inr (by have := hS y hy; have := I.kp.size; omega)), I.lm, I.lc, I.lg, I.lx⟩
/-- Only the chip changes. -/
theorem TnI.to {C : Chip} {n : Int} (I : TnI w N t P w1) (H : Med w1 N.m N.c N.f N.cd N.g N.h C n) {C' : Chip} (k : Keep [N.c] w1 w2) (hc : ChipAt w2 N.c C') (hP : P' C') : TnI w N t P' w2 :=
  ⟨⟨C', n, H.chipTo k hc, hP⟩, I.row.keep k (by simpa using I.xne.1), I.kp.then k (fun y hy => .inr (by rw [List.mem_singleton.1 hy]; exact I.lc)), I.lm, I.lc, I.lg, I.lx⟩
theorem TnI.med_ {C' : Chip} {n' : Int} (I : TnI w N t P w1) (k : Keep [N.m, N.c, N.g] w1 w2) (H : Med w2 N.m N.c N.f N.cd N.g N.h C' n') (hP : P' C') : TnI w N t P' w2 := by
  obtain ⟨h1, h2, h3⟩ := I.xne
  exact ⟨⟨C', n', H, hP⟩, I.row.keep k (by simp; omega), I.kp.then k (fun y hy => .inr (by have := I.lm; have := I.lc; have := I.lg; simp at hy; omega)), I.lm, I.lc, I.lg, I.lx⟩
theorem TnI.cells {n d many k tn : Nat} {F S : Int} {A : Option Addr} {M : Nat → Nat} (I : TnI w N t (fun C => TornSt C a tn W Q) w1) (ha : a < 96) (hk : k < 4) (hF : InI F) (hS : InI S) (r : RdB w A n M) (hM : ∀ j, M j < 256) (hm : many ≤ 4) (hn : n ≤ 140737488355328) :
    Spec Try.prog 10 #[.pointer (some ⟨N.c, 0, none⟩), .int .i64 a, .int .i64 k, .int .i64 F, .int .i64 S, .slice A n d, .int .i64 many] w1 fun v w' => v = .tuple #[] ∧ TnI w N t (fun C => TornSt C a tn W (turnQ Q k (patTo F (someN S 60) M (min many n)))) w' := by
  obtain ⟨C, nn, H, P⟩ := I.med
  have hA : 0 < n → ∀ x, A = some x → x.block ≠ N.c := fun h0 x hx => by
    obtain ⟨b, o, hb, hc⟩ := r h0
    rw [hb] at hx
    cases hx
    have := cell_lt (hc 0 h0)
    have := I.lc
    simp only at *
    omega
  have h := cells_ok w1 N.c a k n d many C F S A M H.chip P.wf ha hk hF hS (r.keep0 I.kp) hM hm hn hA
  exact ⟨h.1, h.2.mono fun e w' ⟨v, he, hv, wo, hc, hkc⟩ => ⟨v, he, hv, I.to H hkc hc (P.turn (pat_lt _ _ hM _) wo)⟩⟩
end
theorem errOf_iface : errOf 7 = .iface 44 (.int .i64 7) := rfl
theorem sameError_ok (w : World) (a b : Int) : Spec Try.prog 17 #[errOf a, errOf b] w fun v w' => v = .bool (decide (a = b)) ∧ w = w' := by
  by_cases ha : a = 0
  · subst ha
    by_cases hb : b = 0
    · subst hb
      refine spec_of_wpE (T := tt) tt_ok Try.func17 rfl (by decide +kernel) Try.ntmps17 (by simp) ?_
      conv => whnf
      repeat ((first
        | refine HS.t ?_|refine Br.t ?_|refine Br.f ?_|refine Pk.f ?_|refine Pk.t ?_|refine Pk.and ?_|refine Pk.or ?_|refine Ix.n ?_|refine Ix.of _ (by rfl) (by omega) ?_|refine Ix.i ?_|refine Ar.la ?_|refine Ar.lb ?_|refine Ar.lc ?_|refine Dv.q ?_|refine Dv.r ?_|refine Br.y ?_|refine Br.n ?_|refine Br.ny ?_|refine Br.nn ?_|refine Br.is (by assumption) ?_|refine Br.isnt (by assumption) ?_|refine Ld.of (by assumption) ?_|refine Ru.neq_nil0 ?_|refine Ru.n1 ?_|refine Ru.eql_nil0 ?_|refine Ru.e1 ?_|refine Ru.e2 ?_|refine Ru.e3 ?_|refine Ru.n2 ?_|refine Ru.n3 ?_|refine Ru.neq_nil rfl ?_|refine Ru.eql_nil rfl ?_|refine Ru.eql_err rfl (by decide) ?_|refine Ru.neq_err rfl (by decide) ?_|refine Ru.be ?_|refine Ru.bn ?_|refine RuQ.be ?_|refine RuQ.bn ?_|refine CW.s ?_); conv => whnf)
      exact ⟨rfl, rfl, rfl⟩
    · have hb' : ¬ b = 0 := hb
      rw [errOf_pos hb, show errOf 0 = .nilIface from rfl]
      refine spec_of_wpE (T := tt) tt_ok Try.func17 rfl (by decide +kernel) Try.ntmps17 (by simp) ?_
      conv => whnf
      repeat ((first
        | (refine Ru.eql_nil1 hb ?_)
        | refine HS.t ?_|refine Br.t ?_|refine Br.f ?_|refine Pk.f ?_|refine Pk.t ?_|refine Pk.and ?_|refine Pk.or ?_|refine Ix.n ?_|refine Ix.of _ (by rfl) (by omega) ?_|refine Ix.i ?_|refine Ar.la ?_|refine Ar.lb ?_|refine Ar.lc ?_|refine Dv.q ?_|refine Dv.r ?_|refine Br.y ?_|refine Br.n ?_|refine Br.ny ?_|refine Br.nn ?_|refine Br.is (by assumption) ?_|refine Br.isnt (by assumption) ?_|refine Ld.of (by assumption) ?_|refine Ru.neq_nil0 ?_|refine Ru.n1 ?_|refine Ru.eql_nil0 ?_|refine Ru.e1 ?_|refine Ru.e2 ?_|refine Ru.e3 ?_|refine Ru.n2 ?_|refine Ru.n3 ?_|refine Ru.neq_nil rfl ?_|refine Ru.eql_nil rfl ?_|refine Ru.eql_err rfl (by decide) ?_|refine Ru.neq_err rfl (by decide) ?_|refine Ru.be ?_|refine Ru.bn ?_|refine RuQ.be ?_|refine RuQ.bn ?_|refine CW.s ?_); conv => whnf)
      exact ⟨rfl, vb (by simp; omega), rfl⟩
  · rw [errOf_pos ha]
    by_cases hb : b = 0
    · subst hb
      refine spec_of_wpE (T := tt) tt_ok Try.func17 rfl (by decide +kernel) Try.ntmps17 (by simp) ?_
      conv => whnf
      repeat ((first
        | (refine Ru.eql_nil1 ha ?_)
        | refine HS.t ?_|refine Br.t ?_|refine Br.f ?_|refine Pk.f ?_|refine Pk.t ?_|refine Pk.and ?_|refine Pk.or ?_|refine Ix.n ?_|refine Ix.of _ (by rfl) (by omega) ?_|refine Ix.i ?_|refine Ar.la ?_|refine Ar.lb ?_|refine Ar.lc ?_|refine Dv.q ?_|refine Dv.r ?_|refine Br.y ?_|refine Br.n ?_|refine Br.ny ?_|refine Br.nn ?_|refine Br.is (by assumption) ?_|refine Br.isnt (by assumption) ?_|refine Ld.of (by assumption) ?_|refine Ru.neq_nil0 ?_|refine Ru.n1 ?_|refine Ru.eql_nil0 ?_|refine Ru.e1 ?_|refine Ru.e2 ?_|refine Ru.e3 ?_|refine Ru.n2 ?_|refine Ru.n3 ?_|refine Ru.neq_nil rfl ?_|refine Ru.eql_nil rfl ?_|refine Ru.eql_err rfl (by decide) ?_|refine Ru.neq_err rfl (by decide) ?_|refine Ru.be ?_|refine Ru.bn ?_|refine RuQ.be ?_|refine RuQ.bn ?_|refine CW.s ?_); conv => whnf)
      exact ⟨rfl, vb (by simp; omega), rfl⟩
    · rw [errOf_pos hb]
      refine spec_of_wpE (T := tt) tt_ok Try.func17 rfl (by decide +kernel) Try.ntmps17 (by simp) ?_
      conv => whnf
      repeat ((first
        | (refine Ru.eql_nil1 ha ?_)
        | (refine Ru.eql_nil1 hb ?_)
        | (refine Ru.eql_errs ha hb ?_)
        | refine HS.t ?_|refine Br.t ?_|refine Br.f ?_|refine Pk.f ?_|refine Pk.t ?_|refine Pk.and ?_|refine Pk.or ?_|refine Ix.n ?_|refine Ix.of _ (by rfl) (by omega) ?_|refine Ix.i ?_|refine Ar.la ?_|refine Ar.lb ?_|refine Ar.lc ?_|refine Dv.q ?_|refine Dv.r ?_|refine Br.y ?_|refine Br.n ?_|refine Br.ny ?_|refine Br.nn ?_|refine Br.is (by assumption) ?_|refine Br.isnt (by assumption) ?_|refine Ld.of (by assumption) ?_|refine Ru.neq_nil0 ?_|refine Ru.n1 ?_|refine Ru.eql_nil0 ?_|refine Ru.e1 ?_|refine Ru.e2 ?_|refine Ru.e3 ?_|refine Ru.n2 ?_|refine Ru.n3 ?_|refine Ru.neq_nil rfl ?_|refine Ru.eql_nil rfl ?_|refine Ru.eql_err rfl (by decide) ?_|refine Ru.neq_err rfl (by decide) ?_|refine Ru.be ?_|refine Ru.bn ?_|refine RuQ.be ?_|refine RuQ.bn ?_|refine CW.s ?_); conv => whnf)
      exact ⟨rfl, rfl, rfl⟩
theorem may_ok (w : World) (t : Tg) (ht : t.ok) : Spec Try.prog 16 #[.agg t.arr] w fun v w' => v = .bool true ∧ Keep [] w w' := by
  obtain ⟨t0, t1, t2, t3, t4, t5, t6, t7, t8, t9⟩ := ht
  refine spec_of_wpE (T := tt) tt_ok Try.func16 rfl (by decide +kernel) Try.ntmps16 (by simp) ?_
  conv => whnf
  repeat ((first
    | refine HS.t ?_|refine Br.t ?_|refine Br.f ?_|refine Pk.f ?_|refine Pk.t ?_|refine Pk.and ?_|refine Pk.or ?_|refine Ix.n ?_|refine Ix.of _ (by rfl) (by omega) ?_|refine Ix.i ?_|refine Ar.la ?_|refine Ar.lb ?_|refine Ar.lc ?_|refine Dv.q ?_|refine Dv.r ?_|refine Br.y ?_|refine Br.n ?_|refine Br.ny ?_|refine Br.nn ?_|refine Br.is (by assumption) ?_|refine Br.isnt (by assumption) ?_|refine Ld.of (by assumption) ?_|refine Ru.neq_nil0 ?_|refine Ru.n1 ?_|refine Ru.eql_nil0 ?_|refine Ru.e1 ?_|refine Ru.e2 ?_|refine Ru.e3 ?_|refine Ru.n2 ?_|refine Ru.n3 ?_|refine Ru.neq_nil rfl ?_|refine Ru.eql_nil rfl ?_|refine Ru.eql_err rfl (by decide) ?_|refine Ru.neq_err rfl (by decide) ?_|refine Ru.be ?_|refine Ru.bn ?_|refine RuQ.be ?_|refine RuQ.bn ?_|refine CW.s ?_); conv => whnf)
  refine Ru.boxtg ?_
  intro x w1 hx hs1 r k1
  by_cases h24 : t.of = 24
  · have hl := t8 h24
    conv => whnf
    repeat ((first
      | (refine Ld.rowAt r 0 (by omega) (by omega) ?_)
      | (refine Ld.rowAt r 1 (by omega) (by omega) ?_)
      | (refine Ld.rowAt r 2 (by omega) (by omega) ?_)
      | (refine Ld.rowAt r 3 (by omega) (by omega) ?_)
      | (refine Ld.rowAt r 4 (by omega) (by omega) ?_)
      | refine HS.t ?_|refine Br.t ?_|refine Br.f ?_|refine Pk.f ?_|refine Pk.t ?_|refine Pk.and ?_|refine Pk.or ?_|refine Ix.n ?_|refine Ix.of _ (by rfl) (by omega) ?_|refine Ix.i ?_|refine Ar.la ?_|refine Ar.lb ?_|refine Ar.lc ?_|refine Dv.q ?_|refine Dv.r ?_|refine Br.y ?_|refine Br.n ?_|refine Br.ny ?_|refine Br.nn ?_|refine Br.is (by assumption) ?_|refine Br.isnt (by assumption) ?_|refine Ld.of (by assumption) ?_|refine Ru.neq_nil0 ?_|refine Ru.n1 ?_|refine Ru.eql_nil0 ?_|refine Ru.e1 ?_|refine Ru.e2 ?_|refine Ru.e3 ?_|refine Ru.n2 ?_|refine Ru.n3 ?_|refine Ru.neq_nil rfl ?_|refine Ru.eql_nil rfl ?_|refine Ru.eql_err rfl (by decide) ?_|refine Ru.neq_err rfl (by decide) ?_|refine Ru.be ?_|refine Ru.bn ?_|refine RuQ.be ?_|refine RuQ.bn ?_|refine CW.s ?_); conv => whnf)
    exact ⟨rfl, vb (by rw [hl]; rfl), k1⟩
  · have hl := t9 h24
    conv => whnf
    repeat ((first
      | (refine Ld.rowAt r 0 (by omega) (by omega) ?_)
      | (refine Ld.rowAt r 1 (by omega) (by omega) ?_)
      | (refine Ld.rowAt r 2 (by omega) (by omega) ?_)
      | (refine Ld.rowAt r 3 (by omega) (by omega) ?_)
      | (refine Ld.rowAt r 4 (by omega) (by omega) ?_)
      | refine HS.t ?_|refine Br.t ?_|refine Br.f ?_|refine Pk.f ?_|refine Pk.t ?_|refine Pk.and ?_|refine Pk.or ?_|refine Ix.n ?_|refine Ix.of _ (by rfl) (by omega) ?_|refine Ix.i ?_|refine Ar.la ?_|refine Ar.lb ?_|refine Ar.lc ?_|refine Dv.q ?_|refine Dv.r ?_|refine Br.y ?_|refine Br.n ?_|refine Br.ny ?_|refine Br.nn ?_|refine Br.is (by assumption) ?_|refine Br.isnt (by assumption) ?_|refine Ld.of (by assumption) ?_|refine Ru.neq_nil0 ?_|refine Ru.n1 ?_|refine Ru.eql_nil0 ?_|refine Ru.e1 ?_|refine Ru.e2 ?_|refine Ru.e3 ?_|refine Ru.n2 ?_|refine Ru.n3 ?_|refine Ru.neq_nil rfl ?_|refine Ru.eql_nil rfl ?_|refine Ru.eql_err rfl (by decide) ?_|refine Ru.neq_err rfl (by decide) ?_|refine Ru.be ?_|refine Ru.bn ?_|refine RuQ.be ?_|refine RuQ.bn ?_|refine CW.s ?_); conv => whnf)
    exact ⟨rfl, vb (decide_eq_true (by omega)), k1⟩
theorem mk174_run (w : World) : (Instr.makeSlice 22 (.int .i64 174) (.int .i64 174)).run Try.prog w = .ok (.slice (some ⟨w.heap.size, 0, none⟩) 174 174) (w.alloc (.cells (madeCells #[.int .u8 0] 174) 5)) := by kernel_rfl
set_option maxHeartbeats 8000000 in
theorem topTorn_ok (w : World) (x0 x1 x2 x3 x4 x5 : Int) (h0 : InI x0) (h1 : InI x1) (h2 : InI x2) (h3 : InI x3) (h4 : InI x4) (h5 : InI x5) (B : Option Addr) (mm cm : Nat) (M : Nat → Nat) (hmm : mm ≤ cm) (hmm2 : mm ≤ 140737488355328) (rM : RdB w B mm M) (hM : ∀ j, M j < 256) :
    Spec Try.prog 4 #[.int .i64 x0, .int .i64 x1, .int .i64 x2, .int .i64 x3, .int .i64 x4, .int .i64 x5, .slice B mm cm] w fun v w' => v = .bool true ∧ Keep [] w w' := by
  refine spec_of_wpE (T := tt) tt_ok Try.func4 rfl (by decide +kernel) Try.ntmps4 (by simp) ?_
  conv => whnf
  repeat ((first
    | refine HS.t ?_|refine Br.t ?_|refine Br.f ?_|refine Pk.f ?_|refine Pk.t ?_|refine Pk.and ?_|refine Pk.or ?_|refine Ix.n ?_|refine Ix.of _ (by rfl) (by omega) ?_|refine Ix.i ?_|refine Ar.la ?_|refine Ar.lb ?_|refine Ar.lc ?_|refine Dv.q ?_|refine Dv.r ?_|refine Br.y ?_|refine Br.n ?_|refine Br.ny ?_|refine Br.nn ?_|refine Br.is (by assumption) ?_|refine Br.isnt (by assumption) ?_|refine Ld.of (by assumption) ?_|refine Ru.neq_nil0 ?_|refine Ru.n1 ?_|refine Ru.eql_nil0 ?_|refine Ru.e1 ?_|refine Ru.e2 ?_|refine Ru.e3 ?_|refine Ru.n2 ?_|refine Ru.n3 ?_|refine Ru.neq_nil rfl ?_|refine Ru.eql_nil rfl ?_|refine Ru.eql_err rfl (by decide) ?_|refine Ru.neq_err rfl (by decide) ?_|refine Ru.be ?_|refine Ru.bn ?_|refine RuQ.be ?_|refine RuQ.bn ?_|refine CW.s ?_); conv => whnf)
  refine Ca.of (nandnew_ok w) ?_
  rintro _ w1 ⟨rfl, hc1, k1⟩
  have hcl := Row.lt hc1
  conv => whnf
  repeat ((first
    | (refine Ru.of (ptrC_no _ _ _) ?_)
    | refine HS.t ?_|refine Br.t ?_|refine Br.f ?_|refine Pk.f ?_|refine Pk.t ?_|refine Pk.and ?_|refine Pk.or ?_|refine Ix.n ?_|refine Ix.of _ (by rfl) (by omega) ?_|refine Ix.i ?_|refine Ar.la ?_|refine Ar.lb ?_|refine Ar.lc ?_|refine Dv.q ?_|refine Dv.r ?_|refine Br.y ?_|refine Br.n ?_|refine Br.ny ?_|refine Br.nn ?_|refine Br.is (by assumption) ?_|refine Br.isnt (by assumption) ?_|refine Ld.of (by assumption) ?_|refine Ru.neq_nil0 ?_|refine Ru.n1 ?_|refine Ru.eql_nil0 ?_|refine Ru.e1 ?_|refine Ru.e2 ?_|refine Ru.e3 ?_|refine Ru.n2 ?_|refine Ru.n3 ?_|refine Ru.neq_nil rfl ?_|refine Ru.eql_nil rfl ?_|refine Ru.eql_err rfl (by decide) ?_|refine Ru.neq_err rfl (by decide) ?_|refine Ru.be ?_|refine Ru.bn ?_|refine RuQ.be ?_|refine RuQ.bn ?_|refine CW.s ?_); conv => whnf)
  refine Ca.of (mnew_ok w1 w.heap.size Chip.fresh hc1) ?_
  rintro _ w2 ⟨m, f, cdc, g, h, hm, hf, hcd, hg, hh, rfl, H2, k2⟩
  have ha := someN_lt x0 (n := 96) (by omega)
  have hn := someN_lt x3 (n := 4) (by omega)
  conv => whnf
  repeat ((first
    | (refine Ru.of (ptrM_no _ _ _) ?_)
    | refine HS.t ?_|refine Br.t ?_|refine Br.f ?_|refine Pk.f ?_|refine Pk.t ?_|refine Pk.and ?_|refine Pk.or ?_|refine Ix.n ?_|refine Ix.of _ (by rfl) (by omega) ?_|refine Ix.i ?_|refine Ar.la ?_|refine Ar.lb ?_|refine Ar.lc ?_|refine Dv.q ?_|refine Dv.r ?_|refine Br.y ?_|refine Br.n ?_|refine Br.ny ?_|refine Br.nn ?_|refine Br.is (by assumption) ?_|refine Br.isnt (by assumption) ?_|refine Ld.of (by assumption) ?_|refine Ru.neq_nil0 ?_|refine Ru.n1 ?_|refine Ru.eql_nil0 ?_|refine Ru.e1 ?_|refine Ru.e2 ?_|refine Ru.e3 ?_|refine Ru.n2 ?_|refine Ru.n3 ?_|refine Ru.neq_nil rfl ?_|refine Ru.eql_nil rfl ?_|refine Ru.eql_err rfl (by decide) ?_|refine Ru.neq_err rfl (by decide) ?_|refine Ru.be ?_|refine Ru.bn ?_|refine RuQ.be ?_|refine RuQ.bn ?_|refine CW.s ?_); conv => whnf)
  refine Ca.of (some_ok w2 x0 96 h0 (by omega) (by omega)) ?_
  rintro _ _ ⟨rfl, rfl⟩
  generalize someN x0 96 = a at *
  conv => whnf
  repeat ((first
    | refine HS.t ?_|refine Br.t ?_|refine Br.f ?_|refine Pk.f ?_|refine Pk.t ?_|refine Pk.and ?_|refine Pk.or ?_|refine Ix.n ?_|refine Ix.of _ (by rfl) (by omega) ?_|refine Ix.i ?_|refine Ar.la ?_|refine Ar.lb ?_|refine Ar.lc ?_|refine Dv.q ?_|refine Dv.r ?_|refine Br.y ?_|refine Br.n ?_|refine Br.ny ?_|refine Br.nn ?_|refine Br.is (by assumption) ?_|refine Br.isnt (by assumption) ?_|refine Ld.of (by assumption) ?_|refine Ru.neq_nil0 ?_|refine Ru.n1 ?_|refine Ru.eql_nil0 ?_|refine Ru.e1 ?_|refine Ru.e2 ?_|refine Ru.e3 ?_|refine Ru.n2 ?_|refine Ru.n3 ?_|refine Ru.neq_nil rfl ?_|refine Ru.eql_nil rfl ?_|refine Ru.eql_err rfl (by decide) ?_|refine Ru.neq_err rfl (by decide) ?_|refine Ru.be ?_|refine Ru.bn ?_|refine RuQ.be ?_|refine RuQ.bn ?_|refine CW.s ?_); conv => whnf)
  refine Ca.of (tagOf_ok w2 a x1 x2 ha h1 h2) ?_
  rintro _ w3 ⟨t, rfl, ht, hta, k3⟩
  conv => whnf
  repeat ((first
    | refine HS.t ?_|refine Br.t ?_|refine Br.f ?_|refine Pk.f ?_|refine Pk.t ?_|refine Pk.and ?_|refine Pk.or ?_|refine Ix.n ?_|refine Ix.of _ (by rfl) (by omega) ?_|refine Ix.i ?_|refine Ar.la ?_|refine Ar.lb ?_|refine Ar.lc ?_|refine Dv.q ?_|refine Dv.r ?_|refine Br.y ?_|refine Br.n ?_|refine Br.ny ?_|refine Br.nn ?_|refine Br.is (by assumption) ?_|refine Br.isnt (by assumption) ?_|refine Ld.of (by assumption) ?_|refine Ru.neq_nil0 ?_|refine Ru.n1 ?_|refine Ru.eql_nil0 ?_|refine Ru.e1 ?_|refine Ru.e2 ?_|refine Ru.e3 ?_|refine Ru.n2 ?_|refine Ru.n3 ?_|refine Ru.neq_nil rfl ?_|refine Ru.eql_nil rfl ?_|refine Ru.eql_err rfl (by decide) ?_|refine Ru.neq_err rfl (by decide) ?_|refine Ru.be ?_|refine Ru.bn ?_|refine RuQ.be ?_|refine RuQ.bn ?_|refine CW.s ?_); conv => whnf)
  refine Ru.alloctg ?_
  intro x w4 hx hs4 r4 k4
  conv => whnf
  repeat ((first
    | refine HS.t ?_|refine Br.t ?_|refine Br.f ?_|refine Pk.f ?_|refine Pk.t ?_|refine Pk.and ?_|refine Pk.or ?_|refine Ix.n ?_|refine Ix.of _ (by rfl) (by omega) ?_|refine Ix.i ?_|refine Ar.la ?_|refine Ar.lb ?_|refine Ar.lc ?_|refine Dv.q ?_|refine Dv.r ?_|refine Br.y ?_|refine Br.n ?_|refine Br.ny ?_|refine Br.nn ?_|refine Br.is (by assumption) ?_|refine Br.isnt (by assumption) ?_|refine Ld.of (by assumption) ?_|refine Ru.neq_nil0 ?_|refine Ru.n1 ?_|refine Ru.eql_nil0 ?_|refine Ru.e1 ?_|refine Ru.e2 ?_|refine Ru.e3 ?_|refine Ru.n2 ?_|refine Ru.n3 ?_|refine Ru.neq_nil rfl ?_|refine Ru.eql_nil rfl ?_|refine Ru.eql_err rfl (by decide) ?_|refine Ru.neq_err rfl (by decide) ?_|refine Ru.be ?_|refine Ru.bn ?_|refine RuQ.be ?_|refine RuQ.bn ?_|refine CW.s ?_); conv => whnf)
  refine Ru.sttg r4 ?_
  intro w5 r5 k5
  have hs1 := k1.size
  have hs2 := k2.size
  have hs3 := k3.size
  have hl2 := H2.lt
  have H3 := H2.keep0 k3
  have I5 : TnI w ⟨m, w.heap.size, f, cdc, g, h, x⟩ t (fun C => C = Chip.fresh) w5 := by
    have H4 := H3.keep ((k4.mono (by simp)).trans k5) (S := [x]) (by simp; omega) (by simp; omega) (by simp; omega) (by simp; omega) (by simp; omega) (by simp; omega)
    exact ⟨⟨_, _, H4, rfl⟩, r5, (((k1.trans k2).trans k3).trans k4).then k5 (fun y hy => .inr (by have := List.mem_singleton.1 hy; omega)), by simp only; omega, Nat.le_refl _, by simp only; omega, by simp only; omega⟩
  have hN : (⟨m, w.heap.size, f, cdc, g, h, x⟩ : Nm).m = m ∧ (⟨m, w.heap.size, f, cdc, g, h, x⟩ : Nm).c = w.heap.size ∧ (⟨m, w.heap.size, f, cdc, g, h, x⟩ : Nm).x = x := ⟨rfl, rfl, rfl⟩
  clear H3 r5 r4 H2 hc1 k1 k2 k3 k4 k5
  generalize hc : w.heap.size = c at *
  generalize (⟨m, c, f, cdc, g, h, x⟩ : Nm) = N at *
  obtain ⟨e1, e2, e3⟩ := hN
  subst e1 e2 e3
  conv => whnf
  repeat ((first
    | refine HS.t ?_|refine Br.t ?_|refine Br.f ?_|refine Pk.f ?_|refine Pk.t ?_|refine Pk.and ?_|refine Pk.or ?_|refine Ix.n ?_|refine Ix.of _ (by rfl) (by omega) ?_|refine Ix.i ?_|refine Ar.la ?_|refine Ar.lb ?_|refine Ar.lc ?_|refine Dv.q ?_|refine Dv.r ?_|refine Br.y ?_|refine Br.n ?_|refine Br.ny ?_|refine Br.nn ?_|refine Br.is (by assumption) ?_|refine Br.isnt (by assumption) ?_|refine Ld.of (by assumption) ?_|refine Ru.neq_nil0 ?_|refine Ru.n1 ?_|refine Ru.eql_nil0 ?_|refine Ru.e1 ?_|refine Ru.e2 ?_|refine Ru.e3 ?_|refine Ru.n2 ?_|refine Ru.n3 ?_|refine Ru.neq_nil rfl ?_|refine Ru.eql_nil rfl ?_|refine Ru.eql_err rfl (by decide) ?_|refine Ru.neq_err rfl (by decide) ?_|refine Ru.be ?_|refine Ru.bn ?_|refine RuQ.be ?_|refine RuQ.bn ?_|refine CW.s ?_); conv => whnf)
  refine Ca.of (some_ok w5 x3 4 h3 (by omega) (by omega)) ?_
  rintro _ _ ⟨rfl, rfl⟩
  generalize someN x3 4 = n at *
  obtain ⟨C5, n5, H5, rfl⟩ := I5.med
  conv => whnf
  repeat ((first
    | refine HS.t ?_|refine Br.t ?_|refine Br.f ?_|refine Pk.f ?_|refine Pk.t ?_|refine Pk.and ?_|refine Pk.or ?_|refine Ix.n ?_|refine Ix.of _ (by rfl) (by omega) ?_|refine Ix.i ?_|refine Ar.la ?_|refine Ar.lb ?_|refine Ar.lc ?_|refine Dv.q ?_|refine Dv.r ?_|refine Br.y ?_|refine Br.n ?_|refine Br.ny ?_|refine Br.nn ?_|refine Br.is (by assumption) ?_|refine Br.isnt (by assumption) ?_|refine Ld.of (by assumption) ?_|refine Ru.neq_nil0 ?_|refine Ru.n1 ?_|refine Ru.eql_nil0 ?_|refine Ru.e1 ?_|refine Ru.e2 ?_|refine Ru.e3 ?_|refine Ru.n2 ?_|refine Ru.n3 ?_|refine Ru.neq_nil rfl ?_|refine Ru.eql_nil rfl ?_|refine Ru.eql_err rfl (by decide) ?_|refine Ru.neq_err rfl (by decide) ?_|refine Ru.be ?_|refine Ru.bn ?_|refine RuQ.be ?_|refine RuQ.bn ?_|refine CW.s ?_); conv => whnf)
  refine Ca.of (cut_ok w5 N.c n Chip.fresh H5.chip (by omega)) ?_
  rintro _ w6 ⟨rfl, hc6, k6⟩
  have I6 : TnI w N t (fun C => C = Chip.fresh.cutE n) w6 := I5.to H5 k6 hc6 rfl
  clear I5 H5 hc6 k6
  conv => whnf
  repeat ((first
    | refine HS.t ?_|refine Br.t ?_|refine Br.f ?_|refine Pk.f ?_|refine Pk.t ?_|refine Pk.and ?_|refine Pk.or ?_|refine Ix.n ?_|refine Ix.of _ (by rfl) (by omega) ?_|refine Ix.i ?_|refine Ar.la ?_|refine Ar.lb ?_|refine Ar.lc ?_|refine Dv.q ?_|refine Dv.r ?_|refine Br.y ?_|refine Br.n ?_|refine Br.ny ?_|refine Br.nn ?_|refine Br.is (by assumption) ?_|refine Br.isnt (by assumption) ?_|refine Ld.of (by assumption) ?_|refine Ru.neq_nil0 ?_|refine Ru.n1 ?_|refine Ru.eql_nil0 ?_|refine Ru.e1 ?_|refine Ru.e2 ?_|refine Ru.e3 ?_|refine Ru.n2 ?_|refine Ru.n3 ?_|refine Ru.neq_nil rfl ?_|refine Ru.eql_nil rfl ?_|refine Ru.eql_err rfl (by decide) ?_|refine Ru.neq_err rfl (by decide) ?_|refine Ru.be ?_|refine Ru.bn ?_|refine RuQ.be ?_|refine RuQ.bn ?_|refine CW.s ?_); conv => whnf)
  refine CW.held (fun w' => Row w' N.x 29 5 t.cell) [] (.take 0 (.take 1 (.take 2 (.one 3 (.one 4 (.take 5 (.done))))))) tt_ok (by kernel_rfl) (by kernel_rfl) (by kernel_rfl) ?_ ?_
  · exact I6.row.drewN 1
  have I7 := I6.keep ((Keep.refl [] w6).drewN 1) (fun y hy => by cases hy)
  generalize w6.drewN 1 = w7 at *
  clear I6
  conv => whnf
  repeat ((first
    | (refine RuQ.ldtg (fun _ h => h) ?_)
    | refine HS.t ?_|refine Br.t ?_|refine Br.f ?_|refine Pk.f ?_|refine Pk.t ?_|refine Pk.and ?_|refine Pk.or ?_|refine Ix.n ?_|refine Ix.of _ (by rfl) (by omega) ?_|refine Ix.i ?_|refine Ar.la ?_|refine Ar.lb ?_|refine Ar.lc ?_|refine Dv.q ?_|refine Dv.r ?_|refine Br.y ?_|refine Br.n ?_|refine Br.ny ?_|refine Br.nn ?_|refine Br.is (by assumption) ?_|refine Br.isnt (by assumption) ?_|refine Ld.of (by assumption) ?_|refine Ru.neq_nil0 ?_|refine Ru.n1 ?_|refine Ru.eql_nil0 ?_|refine Ru.e1 ?_|refine Ru.e2 ?_|refine Ru.e3 ?_|refine Ru.n2 ?_|refine Ru.n3 ?_|refine Ru.neq_nil rfl ?_|refine Ru.eql_nil rfl ?_|refine Ru.eql_err rfl (by decide) ?_|refine Ru.neq_err rfl (by decide) ?_|refine Ru.be ?_|refine Ru.bn ?_|refine RuQ.be ?_|refine RuQ.bn ?_|refine CW.s ?_); conv => whnf)
  refine Ru.of (mk174_run w7) ?_
  have o8 := Own.made (Keep.refl [] w7) 174 (by decide)
  have k8 : Keep [] w7 (w7.alloc (.cells (madeCells #[.int .u8 0] 174) 5)) := o8.keep
  generalize w7.alloc _ = w8 at *
  have I8 := I7.keep k8 (fun y hy => by cases hy)
  have hl7 : N.m < w7.heap.size ∧ N.c < w7.heap.size ∧ N.g < w7.heap.size := by
    obtain ⟨C, nn, H, _⟩ := I7.med
    have := H.lt
    omega
  clear I7
  obtain ⟨C8, n8, H8, rfl⟩ := I8.med
  conv => whnf
  repeat ((first
    | refine HS.t ?_|refine Br.t ?_|refine Br.f ?_|refine Pk.f ?_|refine Pk.t ?_|refine Pk.and ?_|refine Pk.or ?_|refine Ix.n ?_|refine Ix.of _ (by rfl) (by omega) ?_|refine Ix.i ?_|refine Ar.la ?_|refine Ar.lb ?_|refine Ar.lc ?_|refine Dv.q ?_|refine Dv.r ?_|refine Br.y ?_|refine Br.n ?_|refine Br.ny ?_|refine Br.nn ?_|refine Br.is (by assumption) ?_|refine Br.isnt (by assumption) ?_|refine Ld.of (by assumption) ?_|refine Ru.neq_nil0 ?_|refine Ru.n1 ?_|refine Ru.eql_nil0 ?_|refine Ru.e1 ?_|refine Ru.e2 ?_|refine Ru.e3 ?_|refine Ru.n2 ?_|refine Ru.n3 ?_|refine Ru.neq_nil rfl ?_|refine Ru.eql_nil rfl ?_|refine Ru.eql_err rfl (by decide) ?_|refine Ru.neq_err rfl (by decide) ?_|refine Ru.be ?_|refine Ru.bn ?_|refine RuQ.be ?_|refine RuQ.bn ?_|refine CW.s ?_); conv => whnf)
  refine ⟨I8.row, ?_⟩
  have hcw : (Chip.fresh.cutE n).Wf := ⟨by show (0 : Int) ≤ n; omega, by show (n : Int) ≤ _; omega, fresh_wf.bf, fresh_wf.now, fresh_wf.truth⟩
  conv => whnf
  repeat ((first
    | refine HS.t ?_|refine Br.t ?_|refine Br.f ?_|refine Pk.f ?_|refine Pk.t ?_|refine Pk.and ?_|refine Pk.or ?_|refine Ix.n ?_|refine Ix.of _ (by rfl) (by omega) ?_|refine Ix.i ?_|refine Ar.la ?_|refine Ar.lb ?_|refine Ar.lc ?_|refine Dv.q ?_|refine Dv.r ?_|refine Br.y ?_|refine Br.n ?_|refine Br.ny ?_|refine Br.nn ?_|refine Br.is (by assumption) ?_|refine Br.isnt (by assumption) ?_|refine Ld.of (by assumption) ?_|refine Ru.neq_nil0 ?_|refine Ru.n1 ?_|refine Ru.eql_nil0 ?_|refine Ru.e1 ?_|refine Ru.e2 ?_|refine Ru.e3 ?_|refine Ru.n2 ?_|refine Ru.n3 ?_|refine Ru.neq_nil rfl ?_|refine Ru.eql_nil rfl ?_|refine Ru.eql_err rfl (by decide) ?_|refine Ru.neq_err rfl (by decide) ?_|refine Ru.be ?_|refine Ru.bn ?_|refine RuQ.be ?_|refine RuQ.bn ?_|refine CW.s ?_); conv => whnf)
  refine Ca.of (program_ok w8 N.m N.c N.f N.cd N.g N.h a 174 (Chip.fresh.cutE n) n8 (some ⟨w7.heap.size, 0, none⟩) (fun _ => 0) t H8 hcw ha (fun _ => by decide) o8.ly.rd1 (by omega) (fun z hz => by cases hz; simp only; omega) ht hta) ?_
  rintro v w9 ⟨k9, hv⟩
  obtain ⟨hp7, hts⟩ := torn_end a n (encP (fun _ => 0) t) (encP_lt (fun _ => by decide)) (by omega)
  rcases hv with ⟨_, rfl, H9⟩ | ⟨h0, _⟩
  case inr =>
    rw [hp7] at h0
    cases h0
  rw [hp7]
  have I9 : TnI w N t (fun C => C = ((Chip.fresh.cutE n).prog a (encP (fun _ => 0) t) 4).1) w9 := I8.med_ k9 H9 rfl
  clear H8 H9 I8 k9
  generalize (Chip.fresh.cutE n).prog a (encP (fun _ => 0) t) 4 = S9 at *
  obtain ⟨C9, n9, H9, rfl⟩ := I9.med
  conv => whnf
  repeat ((first
    | refine HS.t ?_|refine Br.t ?_|refine Br.f ?_|refine Pk.f ?_|refine Pk.t ?_|refine Pk.and ?_|refine Pk.or ?_|refine Ix.n ?_|refine Ix.of _ (by rfl) (by omega) ?_|refine Ix.i ?_|refine Ar.la ?_|refine Ar.lb ?_|refine Ar.lc ?_|refine Dv.q ?_|refine Dv.r ?_|refine Br.y ?_|refine Br.n ?_|refine Br.ny ?_|refine Br.nn ?_|refine Br.is (by assumption) ?_|refine Br.isnt (by assumption) ?_|refine Ld.of (by assumption) ?_|refine Ru.neq_nil0 ?_|refine Ru.n1 ?_|refine Ru.eql_nil0 ?_|refine Ru.e1 ?_|refine Ru.e2 ?_|refine Ru.e3 ?_|refine Ru.n2 ?_|refine Ru.n3 ?_|refine Ru.neq_nil rfl ?_|refine Ru.eql_nil rfl ?_|refine Ru.eql_err rfl (by decide) ?_|refine Ru.neq_err rfl (by decide) ?_|refine Ru.be ?_|refine Ru.bn ?_|refine RuQ.be ?_|refine RuQ.bn ?_|refine CW.s ?_); conv => whnf)
  refine ⟨I9.row, ?_⟩
  conv => whnf
  repeat ((first
    | refine HS.t ?_|refine Br.t ?_|refine Br.f ?_|refine Pk.f ?_|refine Pk.t ?_|refine Pk.and ?_|refine Pk.or ?_|refine Ix.n ?_|refine Ix.of _ (by rfl) (by omega) ?_|refine Ix.i ?_|refine Ar.la ?_|refine Ar.lb ?_|refine Ar.lc ?_|refine Dv.q ?_|refine Dv.r ?_|refine Br.y ?_|refine Br.n ?_|refine Br.ny ?_|refine Br.nn ?_|refine Br.is (by assumption) ?_|refine Br.isnt (by assumption) ?_|refine Ld.of (by assumption) ?_|refine Ru.neq_nil0 ?_|refine Ru.n1 ?_|refine Ru.eql_nil0 ?_|refine Ru.e1 ?_|refine Ru.e2 ?_|refine Ru.e3 ?_|refine Ru.n2 ?_|refine Ru.n3 ?_|refine Ru.neq_nil rfl ?_|refine Ru.eql_nil rfl ?_|refine Ru.eql_err rfl (by decide) ?_|refine Ru.neq_err rfl (by decide) ?_|refine Ru.be ?_|refine Ru.bn ?_|refine RuQ.be ?_|refine RuQ.bn ?_|refine CW.s ?_); conv => whnf)
  refine Ca.of (power_ok w9 N.c S9.1 H9.chip) ?_
  rintro _ w10 ⟨rfl, hc10, k10⟩
  have I10 : TnI w N t (fun C => TornSt C a n (encP (fun _ => 0) t) (fun _ _ => 0)) w10 := I9.to H9 k10 hc10 hts
  clear I9 H9 hc10 k10 hts
  conv => whnf
  repeat ((first
    | (refine Ru.neq_err (c := 7) rfl (by decide) ?_)
    | refine HS.t ?_|refine Br.t ?_|refine Br.f ?_|refine Pk.f ?_|refine Pk.t ?_|refine Pk.and ?_|refine Pk.or ?_|refine Ix.n ?_|refine Ix.of _ (by rfl) (by omega) ?_|refine Ix.i ?_|refine Ar.la ?_|refine Ar.lb ?_|refine Ar.lc ?_|refine Dv.q ?_|refine Dv.r ?_|refine Br.y ?_|refine Br.n ?_|refine Br.ny ?_|refine Br.nn ?_|refine Br.is (by assumption) ?_|refine Br.isnt (by assumption) ?_|refine Ld.of (by assumption) ?_|refine Ru.neq_nil0 ?_|refine Ru.n1 ?_|refine Ru.eql_nil0 ?_|refine Ru.e1 ?_|refine Ru.e2 ?_|refine Ru.e3 ?_|refine Ru.n2 ?_|refine Ru.n3 ?_|refine Ru.neq_nil rfl ?_|refine Ru.eql_nil rfl ?_|refine Ru.eql_err rfl (by decide) ?_|refine Ru.neq_err rfl (by decide) ?_|refine Ru.be ?_|refine Ru.bn ?_|refine RuQ.be ?_|refine RuQ.bn ?_|refine CW.s ?_); conv => whnf)
  refine CW.loop (ι := Nat) (fun i w' => i ≤ 4 ∧ ∃ Q : Nat → Nat → Nat, (cnt (Q 3) ≤ 4) ∧ (∀ k, i ≤ k → ∀ j, Q k j = 0) ∧ TnI w N t (fun C => TornSt C a n (encP (fun _ => 0) t) Q) w') (fun i => [(4, .int .i64 x4), (5, .int .i64 x5), (6, .slice B mm cm), (15, .pointer (some ⟨N.c, 0, none⟩)), (16, .pointer (some ⟨N.m, 0, none⟩)), (17, .int .i64 a), (18, .pointer (some ⟨N.x, 0, none⟩)), (19, .int .i64 n), (21, .int .i64 i)]) (fun i => 4 - i) 0 tt_ok ⟨by omega, fun _ _ => 0, by rw [cnt_zero]; omega, fun _ _ _ => rfl, I10⟩ ⟨rfl, rfl, rfl, rfl, rfl, rfl, rfl, rfl, rfl, trivial⟩ ?_
  rintro i w11 ⟨hi, Q, hQ3, hQ0, I11⟩
  by_cases hl : i < 4
  · conv => whnf
    repeat ((first
      | (refine Ar.i64w ?_)
      | refine HS.t ?_|refine Br.t ?_|refine Br.f ?_|refine Pk.f ?_|refine Pk.t ?_|refine Pk.and ?_|refine Pk.or ?_|refine Ix.n ?_|refine Ix.of _ (by rfl) (by omega) ?_|refine Ix.i ?_|refine Ar.la ?_|refine Ar.lb ?_|refine Ar.lc ?_|refine Dv.q ?_|refine Dv.r ?_|refine Br.y ?_|refine Br.n ?_|refine Br.ny ?_|refine Br.nn ?_|refine Br.is (by assumption) ?_|refine Br.isnt (by assumption) ?_|refine Ld.of (by assumption) ?_|refine Ru.neq_nil0 ?_|refine Ru.n1 ?_|refine Ru.eql_nil0 ?_|refine Ru.e1 ?_|refine Ru.e2 ?_|refine Ru.e3 ?_|refine Ru.n2 ?_|refine Ru.n3 ?_|refine Ru.neq_nil rfl ?_|refine Ru.eql_nil rfl ?_|refine Ru.eql_err rfl (by decide) ?_|refine Ru.neq_err rfl (by decide) ?_|refine Ru.be ?_|refine Ru.bn ?_|refine RuQ.be ?_|refine RuQ.bn ?_|refine CW.s ?_); conv => whnf)
    refine Ca.of (I11.cells (many := 4) ha hl (w64_in _) h5 rM hM (by omega) hmm2) ?_
    rintro _ w12 ⟨rfl, I12⟩
    conv => whnf
    repeat ((first
      | refine HS.t ?_|refine Br.t ?_|refine Br.f ?_|refine Pk.f ?_|refine Pk.t ?_|refine Pk.and ?_|refine Pk.or ?_|refine Ix.n ?_|refine Ix.of _ (by rfl) (by omega) ?_|refine Ix.i ?_|refine Ar.la ?_|refine Ar.lb ?_|refine Ar.lc ?_|refine Dv.q ?_|refine Dv.r ?_|refine Br.y ?_|refine Br.n ?_|refine Br.ny ?_|refine Br.nn ?_|refine Br.is (by assumption) ?_|refine Br.isnt (by assumption) ?_|refine Ld.of (by assumption) ?_|refine Ru.neq_nil0 ?_|refine Ru.n1 ?_|refine Ru.eql_nil0 ?_|refine Ru.e1 ?_|refine Ru.e2 ?_|refine Ru.e3 ?_|refine Ru.n2 ?_|refine Ru.n3 ?_|refine Ru.neq_nil rfl ?_|refine Ru.eql_nil rfl ?_|refine Ru.eql_err rfl (by decide) ?_|refine Ru.neq_err rfl (by decide) ?_|refine Ru.be ?_|refine Ru.bn ?_|refine RuQ.be ?_|refine RuQ.bn ?_|refine CW.s ?_); conv => whnf)
    refine ⟨i + 1, ⟨hl, _, ?_, fun k hk j => ?_, I12⟩, ⟨rfl, rfl, rfl, rfl, rfl, rfl, rfl, rfl, vi (by omega), trivial⟩, by simp only; omega⟩
    · by_cases h3i : 3 = i
      · have e : turnQ Q i (patTo (w64 (x4 + i)) (someN x5 60) M (min 4 mm)) 3 = patTo (w64 (x4 + i)) (someN x5 60) M (min 4 mm) := by
          funext j
          unfold turnQ
          rw [if_pos h3i, hQ0 3 (by omega), Nat.zero_xor]
        rw [e]
        exact Nat.le_trans (cnt_pat _ _ _ _) (Nat.min_le_left _ _)
      · have e : turnQ Q i (patTo (w64 (x4 + i)) (someN x5 60) M (min 4 mm)) 3 = Q 3 := by
          funext j
          unfold turnQ
          rw [if_neg h3i]
        rw [e]
        exact hQ3
    · unfold turnQ
      rw [if_neg (by omega)]
      exact hQ0 k (by omega) j
  obtain rfl : i = 4 := by omega
  clear I10 hQ0
  obtain ⟨C11, n11, H11, T11⟩ := I11.med
  conv => whnf
  repeat ((first
    | refine HS.t ?_|refine Br.t ?_|refine Br.f ?_|refine Pk.f ?_|refine Pk.t ?_|refine Pk.and ?_|refine Pk.or ?_|refine Ix.n ?_|refine Ix.of _ (by rfl) (by omega) ?_|refine Ix.i ?_|refine Ar.la ?_|refine Ar.lb ?_|refine Ar.lc ?_|refine Dv.q ?_|refine Dv.r ?_|refine Br.y ?_|refine Br.n ?_|refine Br.ny ?_|refine Br.nn ?_|refine Br.is (by assumption) ?_|refine Br.isnt (by assumption) ?_|refine Ld.of (by assumption) ?_|refine Ru.neq_nil0 ?_|refine Ru.n1 ?_|refine Ru.eql_nil0 ?_|refine Ru.e1 ?_|refine Ru.e2 ?_|refine Ru.e3 ?_|refine Ru.n2 ?_|refine Ru.n3 ?_|refine Ru.neq_nil rfl ?_|refine Ru.eql_nil rfl ?_|refine Ru.eql_err rfl (by decide) ?_|refine Ru.neq_err rfl (by decide) ?_|refine Ru.be ?_|refine Ru.bn ?_|refine RuQ.be ?_|refine RuQ.bn ?_|refine CW.s ?_); conv => whnf)
  refine Ca.of (mread_ok w11 N.m N.c N.f N.cd N.g N.h a C11 n11 H11 T11.wf ha) ?_
  rintro v w12 hv
  rcases hv with ⟨ho, -⟩ | ⟨-, dv, hdv, rfl, H12, k12⟩
  · rw [T11.on] at ho
    cases ho
  have I12 : TnI w N t (fun C => TornSt C a n (encP (fun _ => 0) t) Q) w12 := I11.med_ k12 H12 (T11.readE a)
  obtain ⟨e1, e2⟩ := T11.read (by omega) hQ3
  generalize readP (pageW C11 a) a = R at *
  rcases hdv with ⟨hs, -⟩ | ⟨-, rfl⟩
  · rw [e2] at hs
    cases hs
  rw [e1, e2]
  clear I11 H11 T11 H12 k12
  conv => whnf
  repeat ((first
    | refine HS.t ?_|refine Br.t ?_|refine Br.f ?_|refine Pk.f ?_|refine Pk.t ?_|refine Pk.and ?_|refine Pk.or ?_|refine Ix.n ?_|refine Ix.of _ (by rfl) (by omega) ?_|refine Ix.i ?_|refine Ar.la ?_|refine Ar.lb ?_|refine Ar.lc ?_|refine Dv.q ?_|refine Dv.r ?_|refine Br.y ?_|refine Br.n ?_|refine Br.ny ?_|refine Br.nn ?_|refine Br.is (by assumption) ?_|refine Br.isnt (by assumption) ?_|refine Ld.of (by assumption) ?_|refine Ru.neq_nil0 ?_|refine Ru.n1 ?_|refine Ru.eql_nil0 ?_|refine Ru.e1 ?_|refine Ru.e2 ?_|refine Ru.e3 ?_|refine Ru.n2 ?_|refine Ru.n3 ?_|refine Ru.neq_nil rfl ?_|refine Ru.eql_nil rfl ?_|refine Ru.eql_err rfl (by decide) ?_|refine Ru.neq_err rfl (by decide) ?_|refine Ru.be ?_|refine Ru.bn ?_|refine RuQ.be ?_|refine RuQ.bn ?_|refine CW.s ?_); conv => whnf)
  refine Ru.alloca (alloc_page w12) ?_
  intro z w13 hz hs13 rz k13
  conv => whnf
  repeat ((first
    | refine HS.t ?_|refine Br.t ?_|refine Br.f ?_|refine Pk.f ?_|refine Pk.t ?_|refine Pk.and ?_|refine Pk.or ?_|refine Ix.n ?_|refine Ix.of _ (by rfl) (by omega) ?_|refine Ix.i ?_|refine Ar.la ?_|refine Ar.lb ?_|refine Ar.lc ?_|refine Dv.q ?_|refine Dv.r ?_|refine Br.y ?_|refine Br.n ?_|refine Br.ny ?_|refine Br.nn ?_|refine Br.is (by assumption) ?_|refine Br.isnt (by assumption) ?_|refine Ld.of (by assumption) ?_|refine Ru.neq_nil0 ?_|refine Ru.n1 ?_|refine Ru.eql_nil0 ?_|refine Ru.e1 ?_|refine Ru.e2 ?_|refine Ru.e3 ?_|refine Ru.n2 ?_|refine Ru.n3 ?_|refine Ru.neq_nil rfl ?_|refine Ru.eql_nil rfl ?_|refine Ru.eql_err rfl (by decide) ?_|refine Ru.neq_err rfl (by decide) ?_|refine Ru.be ?_|refine Ru.bn ?_|refine RuQ.be ?_|refine RuQ.bn ?_|refine CW.s ?_); conv => whnf)
  refine Ru.stpage rz (pgc_one rfl) ?_
  intro w14 rz k14
  have I14 := I12.keep ((k13.mono (by simp)).trans k14) (S := [z]) (fun y hy => by have := List.mem_singleton.1 hy; omega)
  have hzl : N.x < z ∧ N.c < z ∧ N.m < z ∧ N.g < z := by
    obtain ⟨C, nn, H, _⟩ := I12.med
    have := H.lt
    have := I12.row.lt
    omega
  clear I12 k13 k14
  conv => whnf
  repeat ((first
    | refine HS.t ?_|refine Br.t ?_|refine Br.f ?_|refine Pk.f ?_|refine Pk.t ?_|refine Pk.and ?_|refine Pk.or ?_|refine Ix.n ?_|refine Ix.of _ (by rfl) (by omega) ?_|refine Ix.i ?_|refine Ar.la ?_|refine Ar.lb ?_|refine Ar.lc ?_|refine Dv.q ?_|refine Dv.r ?_|refine Br.y ?_|refine Br.n ?_|refine Br.ny ?_|refine Br.nn ?_|refine Br.is (by assumption) ?_|refine Br.isnt (by assumption) ?_|refine Ld.of (by assumption) ?_|refine Ru.neq_nil0 ?_|refine Ru.n1 ?_|refine Ru.eql_nil0 ?_|refine Ru.e1 ?_|refine Ru.e2 ?_|refine Ru.e3 ?_|refine Ru.n2 ?_|refine Ru.n3 ?_|refine Ru.neq_nil rfl ?_|refine Ru.eql_nil rfl ?_|refine Ru.eql_err rfl (by decide) ?_|refine Ru.neq_err rfl (by decide) ?_|refine Ru.be ?_|refine Ru.bn ?_|refine RuQ.be ?_|refine RuQ.bn ?_|refine CW.s ?_); conv => whnf)
  refine CW.held (fun w' => Row w' N.x 29 5 t.cell) [] (.take 0 (.take 1 (.take 2 (.one 3 (.one 4 (.take 5 (.done))))))) tt_ok (by kernel_rfl) (by kernel_rfl) (by kernel_rfl) ?_ ?_
  · exact I14.row.drewN 1
  have I15 := I14.keep ((Keep.refl [] w14).drewN 1) (fun y hy => by cases hy)
  have rz := rz.drewN 1
  generalize w14.drewN 1 = w15 at *
  clear I14
  conv => whnf
  repeat ((first
    | (refine RuQ.ldtg (fun _ h => h) ?_)
    | refine HS.t ?_|refine Br.t ?_|refine Br.f ?_|refine Pk.f ?_|refine Pk.t ?_|refine Pk.and ?_|refine Pk.or ?_|refine Ix.n ?_|refine Ix.of _ (by rfl) (by omega) ?_|refine Ix.i ?_|refine Ar.la ?_|refine Ar.lb ?_|refine Ar.lc ?_|refine Dv.q ?_|refine Dv.r ?_|refine Br.y ?_|refine Br.n ?_|refine Br.ny ?_|refine Br.nn ?_|refine Br.is (by assumption) ?_|refine Br.isnt (by assumption) ?_|refine Ld.of (by assumption) ?_|refine Ru.neq_nil0 ?_|refine Ru.n1 ?_|refine Ru.eql_nil0 ?_|refine Ru.e1 ?_|refine Ru.e2 ?_|refine Ru.e3 ?_|refine Ru.n2 ?_|refine Ru.n3 ?_|refine Ru.neq_nil rfl ?_|refine Ru.eql_nil rfl ?_|refine Ru.eql_err rfl (by decide) ?_|refine Ru.neq_err rfl (by decide) ?_|refine Ru.be ?_|refine Ru.bn ?_|refine RuQ.be ?_|refine RuQ.bn ?_|refine CW.s ?_); conv => whnf)
  refine Ru.of (mk174_run w15) ?_
  have o16 := Own.made (Keep.refl [] w15) 174 (by decide)
  have k16 : Keep [] w15 (w15.alloc (.cells (madeCells #[.int .u8 0] 174) 5)) := o16.keep
  generalize w15.alloc _ = w16 at *
  have I16 := I15.keep k16 (fun y hy => by cases hy)
  have rz16 := rz.keep k16 (by simp)
  have hl15 : N.m < w15.heap.size ∧ N.c < w15.heap.size ∧ N.g < w15.heap.size := by
    obtain ⟨C, nn, H, _⟩ := I15.med
    have := H.lt
    omega
  clear I15
  obtain ⟨C16, n16, H16, T16⟩ := I16.med
  conv => whnf
  repeat ((first
    | refine HS.t ?_|refine Br.t ?_|refine Br.f ?_|refine Pk.f ?_|refine Pk.t ?_|refine Pk.and ?_|refine Pk.or ?_|refine Ix.n ?_|refine Ix.of _ (by rfl) (by omega) ?_|refine Ix.i ?_|refine Ar.la ?_|refine Ar.lb ?_|refine Ar.lc ?_|refine Dv.q ?_|refine Dv.r ?_|refine Br.y ?_|refine Br.n ?_|refine Br.ny ?_|refine Br.nn ?_|refine Br.is (by assumption) ?_|refine Br.isnt (by assumption) ?_|refine Ld.of (by assumption) ?_|refine Ru.neq_nil0 ?_|refine Ru.n1 ?_|refine Ru.eql_nil0 ?_|refine Ru.e1 ?_|refine Ru.e2 ?_|refine Ru.e3 ?_|refine Ru.n2 ?_|refine Ru.n3 ?_|refine Ru.neq_nil rfl ?_|refine Ru.eql_nil rfl ?_|refine Ru.eql_err rfl (by decide) ?_|refine Ru.neq_err rfl (by decide) ?_|refine Ru.be ?_|refine Ru.bn ?_|refine RuQ.be ?_|refine RuQ.bn ?_|refine CW.s ?_); conv => whnf)
  refine ⟨I16.row, ?_⟩
  conv => whnf
  repeat ((first
    | refine HS.t ?_|refine Br.t ?_|refine Br.f ?_|refine Pk.f ?_|refine Pk.t ?_|refine Pk.and ?_|refine Pk.or ?_|refine Ix.n ?_|refine Ix.of _ (by rfl) (by omega) ?_|refine Ix.i ?_|refine Ar.la ?_|refine Ar.lb ?_|refine Ar.lc ?_|refine Dv.q ?_|refine Dv.r ?_|refine Br.y ?_|refine Br.n ?_|refine Br.ny ?_|refine Br.nn ?_|refine Br.is (by assumption) ?_|refine Br.isnt (by assumption) ?_|refine Ld.of (by assumption) ?_|refine Ru.neq_nil0 ?_|refine Ru.n1 ?_|refine Ru.eql_nil0 ?_|refine Ru.e1 ?_|refine Ru.e2 ?_|refine Ru.e3 ?_|refine Ru.n2 ?_|refine Ru.n3 ?_|refine Ru.neq_nil rfl ?_|refine Ru.eql_nil rfl ?_|refine Ru.eql_err rfl (by decide) ?_|refine Ru.neq_err rfl (by decide) ?_|refine Ru.be ?_|refine Ru.bn ?_|refine RuQ.be ?_|refine RuQ.bn ?_|refine CW.s ?_); conv => whnf)
  refine Ca.of (program_ok w16 N.m N.c N.f N.cd N.g N.h a 174 C16 n16 (some ⟨w15.heap.size, 0, none⟩) (fun _ => 0) t H16 T16.wf ha (fun _ => by decide) o16.ly.rd1 (by omega) (fun z hz => by cases hz; simp only; omega) ht hta) ?_
  rintro v w17 ⟨k17, hv⟩
  have hag := T16.again (encP (fun _ => 0) t)
  have hv' : v = errOf (if 0 < n then 9 else 0) := by
    rcases hv with ⟨_, rfl, _⟩ | ⟨h0, rfl, _⟩
    · rw [hag]
    · rw [hag] at h0
      rw [h0]
  subst hv'
  have K17 : Keep [] w w17 := I16.kp.then k17 (fun y hy => .inr (by have := I16.lm; have := I16.lc; have := I16.lg; simp at hy; omega))
  have r17 : Row w17 N.x 29 5 t.cell := I16.row.keep k17 (by have := I16.xne; simp; omega)
  have rz17 := rz16.keep k17 (by simp; omega)
  clear hv I16 H16 T16 k17 rz16 rz
  conv => whnf
  repeat ((first
    | refine HS.t ?_|refine Br.t ?_|refine Br.f ?_|refine Pk.f ?_|refine Pk.t ?_|refine Pk.and ?_|refine Pk.or ?_|refine Ix.n ?_|refine Ix.of _ (by rfl) (by omega) ?_|refine Ix.i ?_|refine Ar.la ?_|refine Ar.lb ?_|refine Ar.lc ?_|refine Dv.q ?_|refine Dv.r ?_|refine Br.y ?_|refine Br.n ?_|refine Br.ny ?_|refine Br.nn ?_|refine Br.is (by assumption) ?_|refine Br.isnt (by assumption) ?_|refine Ld.of (by assumption) ?_|refine Ru.neq_nil0 ?_|refine Ru.n1 ?_|refine Ru.eql_nil0 ?_|refine Ru.e1 ?_|refine Ru.e2 ?_|refine Ru.e3 ?_|refine Ru.n2 ?_|refine Ru.n3 ?_|refine Ru.neq_nil rfl ?_|refine Ru.eql_nil rfl ?_|refine Ru.eql_err rfl (by decide) ?_|refine Ru.neq_err rfl (by decide) ?_|refine Ru.be ?_|refine Ru.bn ?_|refine RuQ.be ?_|refine RuQ.bn ?_|refine CW.s ?_); conv => whnf)
  refine ⟨r17, ?_⟩
  conv => whnf
  repeat ((first
    | refine HS.t ?_|refine Br.t ?_|refine Br.f ?_|refine Pk.f ?_|refine Pk.t ?_|refine Pk.and ?_|refine Pk.or ?_|refine Ix.n ?_|refine Ix.of _ (by rfl) (by omega) ?_|refine Ix.i ?_|refine Ar.la ?_|refine Ar.lb ?_|refine Ar.lc ?_|refine Dv.q ?_|refine Dv.r ?_|refine Br.y ?_|refine Br.n ?_|refine Br.ny ?_|refine Br.nn ?_|refine Br.is (by assumption) ?_|refine Br.isnt (by assumption) ?_|refine Ld.of (by assumption) ?_|refine Ru.neq_nil0 ?_|refine Ru.n1 ?_|refine Ru.eql_nil0 ?_|refine Ru.e1 ?_|refine Ru.e2 ?_|refine Ru.e3 ?_|refine Ru.n2 ?_|refine Ru.n3 ?_|refine Ru.neq_nil rfl ?_|refine Ru.eql_nil rfl ?_|refine Ru.eql_err rfl (by decide) ?_|refine Ru.neq_err rfl (by decide) ?_|refine Ru.be ?_|refine Ru.bn ?_|refine RuQ.be ?_|refine RuQ.bn ?_|refine CW.s ?_); conv => whnf)
  refine Ru.ldtg r17 ?_
  conv => whnf
  repeat ((first
    | refine HS.t ?_|refine Br.t ?_|refine Br.f ?_|refine Pk.f ?_|refine Pk.t ?_|refine Pk.and ?_|refine Pk.or ?_|refine Ix.n ?_|refine Ix.of _ (by rfl) (by omega) ?_|refine Ix.i ?_|refine Ar.la ?_|refine Ar.lb ?_|refine Ar.lc ?_|refine Dv.q ?_|refine Dv.r ?_|refine Br.y ?_|refine Br.n ?_|refine Br.ny ?_|refine Br.nn ?_|refine Br.is (by assumption) ?_|refine Br.isnt (by assumption) ?_|refine Ld.of (by assumption) ?_|refine Ru.neq_nil0 ?_|refine Ru.n1 ?_|refine Ru.eql_nil0 ?_|refine Ru.e1 ?_|refine Ru.e2 ?_|refine Ru.e3 ?_|refine Ru.n2 ?_|refine Ru.n3 ?_|refine Ru.neq_nil rfl ?_|refine Ru.eql_nil rfl ?_|refine Ru.eql_err rfl (by decide) ?_|refine Ru.neq_err rfl (by decide) ?_|refine Ru.be ?_|refine Ru.bn ?_|refine RuQ.be ?_|refine RuQ.bn ?_|refine CW.s ?_); conv => whnf)
  refine Ca.of (may_ok w17 t ht) ?_
  rintro _ w18 ⟨rfl, k18⟩
  have rz18 := rz17.keep k18 (by simp)
  by_cases hn0 : 0 < n
  · rw [if_pos hn0]
    conv => whnf
    repeat ((first
      | (refine Ld.rowAt rz18 0 (by omega) (by omega) ?_)
      | (refine Ld.rowAt rz18 6 (by omega) (by omega) ?_)
      | refine HS.t ?_|refine Br.t ?_|refine Br.f ?_|refine Pk.f ?_|refine Pk.t ?_|refine Pk.and ?_|refine Pk.or ?_|refine Ix.n ?_|refine Ix.of _ (by rfl) (by omega) ?_|refine Ix.i ?_|refine Ar.la ?_|refine Ar.lb ?_|refine Ar.lc ?_|refine Dv.q ?_|refine Dv.r ?_|refine Br.y ?_|refine Br.n ?_|refine Br.ny ?_|refine Br.nn ?_|refine Br.is (by assumption) ?_|refine Br.isnt (by assumption) ?_|refine Ld.of (by assumption) ?_|refine Ru.neq_nil0 ?_|refine Ru.n1 ?_|refine Ru.eql_nil0 ?_|refine Ru.e1 ?_|refine Ru.e2 ?_|refine Ru.e3 ?_|refine Ru.n2 ?_|refine Ru.n3 ?_|refine Ru.neq_nil rfl ?_|refine Ru.eql_nil rfl ?_|refine Ru.eql_err rfl (by decide) ?_|refine Ru.neq_err rfl (by decide) ?_|refine Ru.be ?_|refine Ru.bn ?_|refine RuQ.be ?_|refine RuQ.bn ?_|refine CW.s ?_); conv => whnf)
    refine Ca.args (args' := #[errOf 9, errOf 9]) rfl ?_
    refine Ca.of (sameError_ok w18 9 9) ?_
    rintro _ _ ⟨rfl, rfl⟩
    conv => whnf
    repeat ((first
      | refine HS.t ?_|refine Br.t ?_|refine Br.f ?_|refine Pk.f ?_|refine Pk.t ?_|refine Pk.and ?_|refine Pk.or ?_|refine Ix.n ?_|refine Ix.of _ (by rfl) (by omega) ?_|refine Ix.i ?_|refine Ar.la ?_|refine Ar.lb ?_|refine Ar.lc ?_|refine Dv.q ?_|refine Dv.r ?_|refine Br.y ?_|refine Br.n ?_|refine Br.ny ?_|refine Br.nn ?_|refine Br.is (by assumption) ?_|refine Br.isnt (by assumption) ?_|refine Ld.of (by assumption) ?_|refine Ru.neq_nil0 ?_|refine Ru.n1 ?_|refine Ru.eql_nil0 ?_|refine Ru.e1 ?_|refine Ru.e2 ?_|refine Ru.e3 ?_|refine Ru.n2 ?_|refine Ru.n3 ?_|refine Ru.neq_nil rfl ?_|refine Ru.eql_nil rfl ?_|refine Ru.eql_err rfl (by decide) ?_|refine Ru.neq_err rfl (by decide) ?_|refine Ru.be ?_|refine Ru.bn ?_|refine RuQ.be ?_|refine RuQ.bn ?_|refine CW.s ?_); conv => whnf)
    exact ⟨rfl, vb (by decide), K17.trans k18⟩
  · rw [if_neg hn0]
    conv => whnf
    repeat ((first
      | (refine Ld.rowAt rz18 0 (by omega) (by omega) ?_)
      | (refine Ld.rowAt rz18 6 (by omega) (by omega) ?_)
      | refine HS.t ?_|refine Br.t ?_|refine Br.f ?_|refine Pk.f ?_|refine Pk.t ?_|refine Pk.and ?_|refine Pk.or ?_|refine Ix.n ?_|refine Ix.of _ (by rfl) (by omega) ?_|refine Ix.i ?_|refine Ar.la ?_|refine Ar.lb ?_|refine Ar.lc ?_|refine Dv.q ?_|refine Dv.r ?_|refine Br.y ?_|refine Br.n ?_|refine Br.ny ?_|refine Br.nn ?_|refine Br.is (by assumption) ?_|refine Br.isnt (by assumption) ?_|refine Ld.of (by assumption) ?_|refine Ru.neq_nil0 ?_|refine Ru.n1 ?_|refine Ru.eql_nil0 ?_|refine Ru.e1 ?_|refine Ru.e2 ?_|refine Ru.e3 ?_|refine Ru.n2 ?_|refine Ru.n3 ?_|refine Ru.neq_nil rfl ?_|refine Ru.eql_nil rfl ?_|refine Ru.eql_err rfl (by decide) ?_|refine Ru.neq_err rfl (by decide) ?_|refine Ru.be ?_|refine Ru.bn ?_|refine RuQ.be ?_|refine RuQ.bn ?_|refine CW.s ?_); conv => whnf)
    refine Ca.args (args' := #[errOf 0, errOf 0]) rfl ?_
    refine Ca.of (sameError_ok w18 0 0) ?_
    rintro _ _ ⟨rfl, rfl⟩
    conv => whnf
    repeat ((first
      | refine HS.t ?_|refine Br.t ?_|refine Br.f ?_|refine Pk.f ?_|refine Pk.t ?_|refine Pk.and ?_|refine Pk.or ?_|refine Ix.n ?_|refine Ix.of _ (by rfl) (by omega) ?_|refine Ix.i ?_|refine Ar.la ?_|refine Ar.lb ?_|refine Ar.lc ?_|refine Dv.q ?_|refine Dv.r ?_|refine Br.y ?_|refine Br.n ?_|refine Br.ny ?_|refine Br.nn ?_|refine Br.is (by assumption) ?_|refine Br.isnt (by assumption) ?_|refine Ld.of (by assumption) ?_|refine Ru.neq_nil0 ?_|refine Ru.n1 ?_|refine Ru.eql_nil0 ?_|refine Ru.e1 ?_|refine Ru.e2 ?_|refine Ru.e3 ?_|refine Ru.n2 ?_|refine Ru.n3 ?_|refine Ru.neq_nil rfl ?_|refine Ru.eql_nil rfl ?_|refine Ru.eql_err rfl (by decide) ?_|refine Ru.neq_err rfl (by decide) ?_|refine Ru.be ?_|refine Ru.bn ?_|refine RuQ.be ?_|refine RuQ.bn ?_|refine CW.s ?_); conv => whnf)
    exact ⟨rfl, vb (by decide), K17.trans k18⟩
theorem topTorn_all (w : World) (x0 x1 x2 x3 x4 x5 : Int) (h0 : InI x0) (h1 : InI x1) (h2 : InI x2) (h3 : InI x3) (h4 : InI x4) (h5 : InI x5)
    (B : Option Addr) (mm cm : Nat) (f2 : Nat → Int) (rB : SlArg w B mm cm (fun j => .int .u8 (f2 j))) (hf2 : ∀ j, 0 ≤ f2 j ∧ f2 j ≤ 255) (yB : mm * 1 ≤ 140737488351232) :
    Calls Try.prog 4 #[.int .i64 x0, .int .i64 x1, .int .i64 x2, .int .i64 x3, .int .i64 x4, .int .i64 x5, .slice B mm cm] w fun e w' => e = .returned (.bool true) ∧ Keep [] w w' :=
  (topTorn_ok w x0 x1 x2 x3 x4 x5 h0 h1 h2 h3 h4 h5 B mm cm (fun j => (f2 j).toNat) rB.le (by omega) (rB.rd.congr (fun j _ => by
    have e : ((f2 j).toNat : Int) = f2 j := by have := hf2 j; omega
    show Value.int .u8 (f2 j) = Value.int .u8 ((f2 j).toNat : Int)
    rw [e])) (fun j => by have := hf2 j; omega)).2.mono fun e w' ⟨v, he, hv, hk⟩ => ⟨by rw [he, hv], hk⟩
end Go.Proofs.Ytkpaafjnjmmehaa
