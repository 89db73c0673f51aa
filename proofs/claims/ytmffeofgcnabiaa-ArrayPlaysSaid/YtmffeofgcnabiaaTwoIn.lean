/- Layer 20: the pair of arrays and their document's, and what came out. -/
import Derived.Test.YtmffeofgcnabiaaTwo
namespace Go.Proofs.Ytmffeofgcnabiaa
open Go.RowKit
set_option linter.unusedVariables false
structure Tw where
  ga : Nat
  gb : Nat
  r : Nat
  s : Nat
  sa : Option Addr
  ca : Nat
  sb : Option Addr
  cb : Nat
  X : Nat → Option Addr
  XC : Nat → Nat
  Y : Nat → Option Addr
  YC : Nat → Nat
  S : Nat → Int
  T : Nat → Int
  n : Nat
  TA : Option Addr
  tc : Nat
  WA : Option Addr
  wc : Nat
  A : Nat → Option Addr
  AC : Nat → Nat
  B : Nat → Option Addr
  BC : Nat → Nat
  nn : Nat → Nat
  f : Nat → Nat → Int
def Tw.cell (z : Tw) (j : Nat) : Value := if j = 0 then .pointer (some ⟨z.ga, 0, none⟩) else if j = 1 then .pointer (some ⟨z.gb, 0, none⟩) else if j = 2 then .pointer (some ⟨z.r, 0, none⟩) else if j = 3 then .pointer (some ⟨z.s, 0, none⟩) else if j = 4 then .slice z.TA z.n z.tc else .slice z.WA z.n z.wc
/-- Blocks that lie apart, and all of them the call's own. -/
structure TwOk (w0 : World) (t : Nat) (z : Tw) : Prop where
  ab : z.ga ≠ z.gb
  rs : z.r ≠ z.s
  ss : ∀ x, x ∈ blk z.sa → x ∉ blk z.sb
  aT : ∀ x, x ∈ blk z.sa → x ∉ blk z.TA
  aW : ∀ x, x ∈ blk z.sa → x ∉ blk z.WA
  bT : ∀ x, x ∈ blk z.sb → x ∉ blk z.TA
  bW : ∀ x, x ∈ blk z.sb → x ∉ blk z.WA
  tW : ∀ x, x ∈ blk z.TA → x ∉ blk z.WA
  nt : w0.heap.size ≤ t
  na : w0.heap.size ≤ z.ga
  nb : w0.heap.size ≤ z.gb
  nr : w0.heap.size ≤ z.r
  ns : w0.heap.size ≤ z.s
  nsa : ∀ x, x ∈ blk z.sa → w0.heap.size ≤ x
  nsb : ∀ x, x ∈ blk z.sb → w0.heap.size ≤ x
  nT : ∀ x, x ∈ blk z.TA → w0.heap.size ≤ x
  nW : ∀ x, x ∈ blk z.WA → w0.heap.size ≤ x
/-- What came out, as it came out: lists in blocks of their own. -/
structure TwCame (w0 w : World) (z : Tw) : Prop where
  told : ∀ k, k < z.n → Ly w 5 1 (z.A k) (z.nn k) (z.AC k) (fun j => .int .u8 (z.f k j))
  want : ∀ k, k < z.n → Ly w 5 1 (z.B k) (z.nn k) (z.BC k) (fun j => .int .u8 (z.f k j))
  short : ∀ k, z.nn k ≤ 160
  dis : ∀ k k', k < z.n → k' < z.n → k ≠ k' → ∀ x, x ∈ blk (z.A k) → x ∉ blk (z.A k')
  disX : ∀ k, k < z.n → ∀ i, i < 24 → ∀ x, x ∈ blk (z.A k) → x ∉ blk (z.X i)
  disY : ∀ k, k < z.n → ∀ i, i < 24 → ∀ x, x ∈ blk (z.A k) → x ∉ blk (z.Y i)
  new : ∀ k, k < z.n → ∀ x, x ∈ blk (z.A k) → w0.heap.size ≤ x
structure In (c : Bool) (w0 w : World) (t : Nat) (z : Tw) : Prop where
  box : Row w t 45 6 z.cell
  a : ArrAt w z.ga z.S
  b : ArrAt w z.gb z.T
  ra : RefN w z.r 24 z.sa z.ca z.X z.XC z.S
  rb : RefN w z.s 24 z.sb z.cb z.Y z.YC z.T
  told : Ly w 29 1 z.TA z.n z.tc (slv z.A z.nn z.AC)
  want : Ly w 29 1 z.WA z.n z.wc (slv z.B z.nn z.BC)
  ok : TwOk w0 t z
  came : c = true → TwCame w0 w z
  keep : Keep [] w0 w
theorem ArrAt.keep {w w' : World} {g : Nat} {S : Nat → Int} {Z : List Nat} (h : ArrAt w g S) (k : Keep Z w w') (hg : g ∉ Z) : ArrAt w' g S := Row.keep (w := w) h k hg
theorem TwCame.keep {w0 w w' : World} {z : Tw} {Z : List Nat} (h : TwCame w0 w z) (k : Keep Z w w') (h1 : ∀ i, i < z.n → ∀ x, x ∈ blk (z.A i) → x ∉ Z) (h2 : ∀ i, i < z.n → ∀ x, x ∈ blk (z.B i) → x ∉ Z) : TwCame w0 w' z :=
  ⟨fun i hi => (h.told i hi).keep k (h1 i hi), fun i hi => (h.want i hi).keep k (h2 i hi), h.short, h.dis, h.disX, h.disY, h.new⟩
section
variable {c : Bool} {w0 w w' : World} {t : Nat} {z : Tw}
theorem In.keep0 (h : In c w0 w t z) (k : Keep [] w w') : In c w0 w' t z :=
  ⟨h.box.keep k (by simp), h.a.keep k (by simp), h.b.keep k (by simp), h.ra.keep0 k, h.rb.keep0 k, h.told.keep0 k, h.want.keep0 k, h.ok, fun e => (h.came e).keep k (fun _ _ _ _ => by simp) (fun _ _ _ _ => by simp), h.keep.trans k⟩
/-- The blocks' kinds part them. -/
structure Far (t : Nat) (z : Tw) : Prop where
  ta : t ≠ z.ga
  tb : t ≠ z.gb
  ra : z.r ≠ z.ga
  rb : z.r ≠ z.gb
  sa : z.s ≠ z.ga
  sb : z.s ≠ z.gb
  tr : t ≠ z.r
  ts : t ≠ z.s
  tsa : t ∉ blk z.sa
  tsb : t ∉ blk z.sb
  tT : t ∉ blk z.TA
  tW : t ∉ blk z.WA
  asa : z.ga ∉ blk z.sa
  asb : z.ga ∉ blk z.sb
  aT : z.ga ∉ blk z.TA
  aW : z.ga ∉ blk z.WA
  bsa : z.gb ∉ blk z.sa
  bsb : z.gb ∉ blk z.sb
  bT : z.gb ∉ blk z.TA
  bW : z.gb ∉ blk z.WA
  rsa : z.r ∉ blk z.sa
  rsb : z.r ∉ blk z.sb
  rT : z.r ∉ blk z.TA
  rW : z.r ∉ blk z.WA
  ssa : z.s ∉ blk z.sa
  ssb : z.s ∉ blk z.sb
  sT : z.s ∉ blk z.TA
  sW : z.s ∉ blk z.WA
theorem In.far (h : In c w0 w t z) : Far t z := by
  have a : Row w z.ga 54 3840 _ := h.a
  have b : Row w z.gb 54 3840 _ := h.b
  exact ⟨h.box.ne_ a (by decide), h.box.ne_ b (by decide), h.ra.box.ne_ a (by decide), h.ra.box.ne_ b (by decide), h.rb.box.ne_ a (by decide), h.rb.box.ne_ b (by decide), h.box.ne_ h.ra.box (by decide), h.box.ne_ h.rb.box (by decide),
    h.ra.rows.row_ne h.box (by decide), h.rb.rows.row_ne h.box (by decide), h.told.row_ne h.box (by decide), h.want.row_ne h.box (by decide),
    h.ra.rows.row_ne a (by decide), h.rb.rows.row_ne a (by decide), h.told.row_ne a (by decide), h.want.row_ne a (by decide),
    h.ra.rows.row_ne b (by decide), h.rb.rows.row_ne b (by decide), h.told.row_ne b (by decide), h.want.row_ne b (by decide),
    h.ra.rows.row_ne h.ra.box (by decide), h.rb.rows.row_ne h.ra.box (by decide), h.told.row_ne h.ra.box (by decide), h.want.row_ne h.ra.box (by decide),
    h.ra.rows.row_ne h.rb.box (by decide), h.rb.rows.row_ne h.rb.box (by decide), h.told.row_ne h.rb.box (by decide), h.want.row_ne h.rb.box (by decide)⟩
/-- A block of bytes is none of the others. -/
theorem In.bytes (h : In c w0 w t z) {A : Option Addr} {n k : Nat} {f : Nat → Value} (l : Ly w 5 1 A n k f) {x : Nat} (hx : x ∈ blk A) : x ≠ z.ga ∧ x ≠ z.gb ∧ x ≠ t ∧ x ∉ blk z.sa ∧ x ∉ blk z.sb ∧ x ∉ blk z.TA ∧ x ∉ blk z.WA := by
  have a : Row w z.ga 54 3840 _ := h.a
  have b : Row w z.gb 54 3840 _ := h.b
  exact ⟨fun e => l.row_ne a (by decide) (e ▸ hx), fun e => l.row_ne b (by decide) (e ▸ hx), fun e => l.row_ne h.box (by decide) (e ▸ hx), l.type_ne h.ra.rows (by decide) hx, l.type_ne h.rb.rows (by decide) hx, l.type_ne h.told (by decide) hx, l.type_ne h.want (by decide) hx⟩
theorem In.keepA (h : In c w0 w t z) (k : Keep [z.ga] w w') : Row w' t 45 6 z.cell ∧ RefN w' z.r 24 z.sa z.ca z.X z.XC z.S := by
  have F := h.far
  refine ⟨h.box.keep k (by simpa using F.ta), h.ra.keep k (by simpa using F.ra) (fun x hx hm => F.asa (by rw [← List.mem_singleton.1 hm]; exact hx)) (fun i hi x hx hm => (h.bytes (h.ra.each i hi) hx).1 (List.mem_singleton.1 hm))⟩
/-- The first array and the document's are turned alike. -/
theorem In.upd (h : In c w0 w t z) {S' : Nat → Int} {X' : Nat → Option Addr} {XC' : Nat → Nat} (k : Keep (z.ga :: blk z.sa) w w') (ha : ArrAt w' z.ga S') (hr : RefN w' z.r 24 z.sa z.ca X' XC' S')
    (hX : ∀ i, i < 24 → ∀ x, x ∈ blk (X' i) → x ∈ blk (z.X i) ∨ w.heap.size ≤ x) : In c w0 w' t { z with S := S', X := X', XC := XC' } := by
  have F := h.far
  have o := h.ok
  have bz : ∀ {A : Option Addr} {n k : Nat} {f : Nat → Value}, Ly w 5 1 A n k f → ∀ x, x ∈ blk A → x ∉ z.ga :: blk z.sa := fun l x hx hm => by
    have := h.bytes l hx
    rcases List.mem_cons.1 hm with e | e
    · exact this.1 e
    · exact this.2.2.2.1 e
  have lz : ∀ {A : Option Addr}, z.ga ∉ blk A → (∀ x, x ∈ blk z.sa → x ∉ blk A) → ∀ x, x ∈ blk A → x ∉ z.ga :: blk z.sa := fun h1 h2 x hx hm => by
    rcases List.mem_cons.1 hm with e | e
    · exact h1 (e ▸ hx)
    · exact h2 x e hx
  refine ⟨h.box.keep k (fun hm => ?_), ha, h.b.keep k (fun hm => ?_), hr, h.rb.keep k (fun hm => ?_) (lz F.asb o.ss) (fun i hi => bz (h.rb.each i hi)), h.told.keep k (lz F.aT o.aT), h.want.keep k (lz F.aW o.aW), ⟨o.ab, o.rs, o.ss, o.aT, o.aW, o.bT, o.bW, o.tW, o.nt, o.na, o.nb, o.nr, o.ns, o.nsa, o.nsb, o.nT, o.nW⟩, fun e => ?_, h.keep.then k (fun x hx => ?_)⟩
  · rcases List.mem_cons.1 hm with e | e
    · exact F.ta e
    · exact F.tsa e
  · rcases List.mem_cons.1 hm with e | e
    · exact o.ab e.symm
    · exact F.bsa e
  · rcases List.mem_cons.1 hm with e | e
    · exact F.sa e
    · exact F.ssa e
  · have q := (h.came e).keep k (fun i hi => bz ((h.came e).told i hi)) (fun i hi => bz ((h.came e).want i hi))
    refine ⟨q.told, q.want, q.short, q.dis, fun i hi j hj x hx hy => ?_, q.disY, q.new⟩
    rcases hX j hj x hy with h1 | h1
    · exact q.disX i hi j hj x hx h1
    · have := ((h.came e).told i hi).blk_lt hx
      omega
  · rcases List.mem_cons.1 hx with e | e
    · exact .inr (e ▸ o.na)
    · exact .inr (o.nsa x e)
/-- The second array and the document's are clones. -/
theorem In.clone (h : In c w0 w t z) {g r' c' : Nat} {A' : Option Addr} {X' : Nat → Option Addr} {XC' : Nat → Nat} (k : Keep [t] w w') (hg : w.heap.size ≤ g) (hn : RefNew w r' 24 A' X') (box : Row w' t 45 6 (put (put z.cell 1 (.pointer (some ⟨g, 0, none⟩))) 3 (.pointer (some ⟨r', 0, none⟩)))) (hb : ArrAt w' g z.S) (hr : RefN w' r' 24 A' c' X' XC' z.S) :
    In c w0 w' t { z with gb := g, T := z.S, s := r', sb := A', cb := c', Y := X', YC := XC' } := by
  have F := h.far
  have o := h.ok
  have s0 := h.keep.size
  have bz : ∀ {A : Option Addr} {n k : Nat} {f : Nat → Value}, Ly w 5 1 A n k f → ∀ x, x ∈ blk A → x ∉ [t] := fun l x hx hm => (h.bytes l hx).2.2.1 (List.mem_singleton.1 hm)
  have tz : ∀ {A : Option Addr}, t ∉ blk A → ∀ x, x ∈ blk A → x ∉ [t] := fun h1 x hx hm => h1 (List.mem_singleton.1 hm ▸ hx)
  have la : ∀ x, x ∈ blk z.sa → x < w.heap.size := fun x hx => h.ra.rows.blk_lt hx
  have lT : ∀ x, x ∈ blk z.TA → x < w.heap.size := fun x hx => h.told.blk_lt hx
  have lW : ∀ x, x ∈ blk z.WA → x < w.heap.size := fun x hx => h.want.blk_lt hx
  have lga : z.ga < w.heap.size := Row.lt (w := w) h.a
  have lr : z.r < w.heap.size := h.ra.box.lt
  refine ⟨box.congr (fun j hj => ?_), h.a.keep k (by simpa using F.ta.symm), hb, h.ra.keep k (by simpa using F.tr.symm) (tz F.tsa) (fun i hi => bz (h.ra.each i hi)), hr, h.told.keep k (tz F.tT), h.want.keep k (tz F.tW), ⟨?_, ?_, fun x hx hy => ?_, o.aT, o.aW, fun x hx hy => ?_, fun x hx hy => ?_, o.tW, o.nt, o.na, Nat.le_trans s0 hg, o.nr, Nat.le_trans s0 hn.r, o.nsa, fun x hx => Nat.le_trans s0 (hn.a x hx), o.nT, o.nW⟩, fun e => ?_, h.keep.then k (fun x hx => .inr (List.mem_singleton.1 hx ▸ o.nt))⟩
  · have : j = 0 ∨ j = 1 ∨ j = 2 ∨ j = 3 ∨ j = 4 ∨ j = 5 := by omega
    rcases this with rfl | rfl | rfl | rfl | rfl | rfl <;> rfl
  · show z.ga ≠ g
    omega
  · show z.r ≠ r'
    have := hn.r
    omega
  · have := la x hx
    have := hn.a x hy
    omega
  · have := hn.a x hx
    have := lT x hy
    omega
  · have := hn.a x hx
    have := lW x hy
    omega
  · have q := (h.came e).keep k (fun i hi => bz ((h.came e).told i hi)) (fun i hi => bz ((h.came e).want i hi))
    exact ⟨q.told, q.want, q.short, q.dis, q.disX, fun i hi j hj x hx hy => by
      have := ((h.came e).told i hi).blk_lt hx
      have := hn.x j hj x hy
      omega, q.new⟩
def Tw.swap (z : Tw) : Tw := { z with ga := z.gb, gb := z.ga, r := z.s, s := z.r, sa := z.sb, ca := z.cb, sb := z.sa, cb := z.ca, X := z.Y, XC := z.YC, Y := z.X, YC := z.XC, S := z.T, T := z.S }
/-- They change places. -/
theorem In.swap (h : In c w0 w t z) (k : Keep [t] w w') (box : Row w' t 45 6 z.swap.cell) : In c w0 w' t z.swap := by
  have F := h.far
  have o := h.ok
  have bz : ∀ {A : Option Addr} {n k : Nat} {f : Nat → Value}, Ly w 5 1 A n k f → ∀ x, x ∈ blk A → x ∉ [t] := fun l x hx hm => (h.bytes l hx).2.2.1 (List.mem_singleton.1 hm)
  have tz : ∀ {A : Option Addr}, t ∉ blk A → ∀ x, x ∈ blk A → x ∉ [t] := fun h1 x hx hm => h1 (List.mem_singleton.1 hm ▸ hx)
  exact ⟨box, h.b.keep k (by simpa using F.tb.symm), h.a.keep k (by simpa using F.ta.symm), h.rb.keep k (by simpa using F.ts.symm) (tz F.tsb) (fun i hi => bz (h.rb.each i hi)), h.ra.keep k (by simpa using F.tr.symm) (tz F.tsa) (fun i hi => bz (h.ra.each i hi)), h.told.keep k (tz F.tT), h.want.keep k (tz F.tW),
    ⟨o.ab.symm, o.rs.symm, fun x hx hy => o.ss x hy hx, o.bT, o.bW, o.aT, o.aW, o.tW, o.nt, o.nb, o.na, o.ns, o.nr, o.nsb, o.nsa, o.nT, o.nW⟩,
    fun e => by
      have q := (h.came e).keep k (fun i hi => bz ((h.came e).told i hi)) (fun i hi => bz ((h.came e).want i hi))
      exact ⟨q.told, q.want, q.short, q.dis, q.disY, q.disX, q.new⟩, h.keep.then k (fun x hx => .inr (List.mem_singleton.1 hx ▸ o.nt))⟩
def Tw.push (z : Tw) (TA WA : Option Addr) (tc wc : Nat) (Z Z2 : Option Addr) (a b l : Nat) (f : Nat → Int) : Tw := { z with n := z.n + 1, TA := TA, tc := tc, WA := WA, wc := wc, A := up1 z.A z.n Z, AC := up1 z.AC z.n a, B := up1 z.B z.n Z2, BC := up1 z.BC z.n b, nn := up1 z.nn z.n l, f := up1 z.f z.n f }
/-- What was read is kept with the others. -/
theorem In.push (h : In c w0 w t z) {TA WA Z Z2 : Option Addr} {tc wc a b l : Nat} {f : Nat → Int} (k : Keep (t :: (blk z.TA ++ blk z.WA)) w w') (box : Row w' t 45 6 (z.push TA WA tc wc Z Z2 a b l f).cell) (told : Ly w' 29 1 TA (z.n + 1) tc (slv (up1 z.A z.n Z) (up1 z.nn z.n l) (up1 z.AC z.n a))) (want : Ly w' 29 1 WA (z.n + 1) wc (slv (up1 z.B z.n Z2) (up1 z.nn z.n l) (up1 z.BC z.n b)))
    (hT : ∀ x, x ∈ blk TA → x ∈ blk z.TA ∨ w.heap.size ≤ x) (hW : ∀ x, x ∈ blk WA → x ∈ blk z.WA ∨ w.heap.size ≤ x) (dTW : ∀ x, x ∈ blk TA → x ∉ blk WA) (lz : Ly w' 5 1 Z l a (fun j => .int .u8 (f j))) (lz2 : Ly w' 5 1 Z2 l b (fun j => .int .u8 (f j))) (hl : l ≤ 160) (nz : ∀ x, x ∈ blk Z → w.heap.size ≤ x) :
    In c w0 w' t (z.push TA WA tc wc Z Z2 a b l f) := by
  have F := h.far
  have o := h.ok
  have s0 := h.keep.size
  have bz : ∀ {A : Option Addr} {n k : Nat} {f : Nat → Value}, Ly w 5 1 A n k f → ∀ x, x ∈ blk A → x ∉ t :: (blk z.TA ++ blk z.WA) := fun l x hx hm => by
    have q := h.bytes l hx
    rcases List.mem_cons.1 hm with e | e
    · exact q.2.2.1 e
    · rcases List.mem_append.1 e with e | e
      · exact q.2.2.2.2.2.1 e
      · exact q.2.2.2.2.2.2 e
  have nz1 : ∀ {y : Nat}, t ≠ y → y ∉ blk z.TA → y ∉ blk z.WA → y ∉ t :: (blk z.TA ++ blk z.WA) := fun h1 h2 h3 hm => by
    rcases List.mem_cons.1 hm with e | e
    · exact h1 e.symm
    · rcases List.mem_append.1 e with e | e
      · exact h2 e
      · exact h3 e
  have sz : ∀ {A : Option Addr}, t ∉ blk A → (∀ x, x ∈ blk A → x ∉ blk z.TA) → (∀ x, x ∈ blk A → x ∉ blk z.WA) → ∀ x, x ∈ blk A → x ∉ t :: (blk z.TA ++ blk z.WA) := fun h1 h2 h3 x hx => nz1 (fun e => h1 (e ▸ hx)) (h2 x hx) (h3 x hx)
  have la : ∀ x, x ∈ blk z.sa → x < w.heap.size := fun x hx => h.ra.rows.blk_lt hx
  have lb : ∀ x, x ∈ blk z.sb → x < w.heap.size := fun x hx => h.rb.rows.blk_lt hx
  refine ⟨box, h.a.keep k (nz1 F.ta F.aT F.aW), h.b.keep k (nz1 F.tb F.bT F.bW), h.ra.keep k (nz1 F.tr F.rT F.rW) (sz F.tsa o.aT o.aW) (fun i hi => bz (h.ra.each i hi)), h.rb.keep k (nz1 F.ts F.sT F.sW) (sz F.tsb o.bT o.bW) (fun i hi => bz (h.rb.each i hi)), told, want,
    ⟨o.ab, o.rs, o.ss, fun x hx hy => ?_, fun x hx hy => ?_, fun x hx hy => ?_, fun x hx hy => ?_, dTW, o.nt, o.na, o.nb, o.nr, o.ns, o.nsa, o.nsb, fun x hx => ?_, fun x hx => ?_⟩, fun e => ?_, h.keep.then k (fun x hx => ?_)⟩
  · rcases hT x hy with e | e
    · exact o.aT x hx e
    · have := la x hx; omega
  · rcases hW x hy with e | e
    · exact o.aW x hx e
    · have := la x hx; omega
  · rcases hT x hy with e | e
    · exact o.bT x hx e
    · have := lb x hx; omega
  · rcases hW x hy with e | e
    · exact o.bW x hx e
    · have := lb x hx; omega
  · rcases hT x hx with e | e
    · exact o.nT x e
    · omega
  · rcases hW x hx with e | e
    · exact o.nW x e
    · omega
  · have q := h.came e
    have q2 := q.keep k (fun i hi => bz (q.told i hi)) (fun i hi => bz (q.want i hi))
    refine ⟨fun i hi => ?_, fun i hi => ?_, fun i => ?_, fun i j hi hj hne x hx hy => ?_, fun i hi j hj x hx hy => ?_, fun i hi j hj x hx hy => ?_, fun i hi x hx => ?_⟩
    · simp only [Tw.push, up1]
      by_cases e : i = z.n
      · rw [if_pos e, if_pos e, if_pos e, if_pos e]; exact lz
      · rw [if_neg e, if_neg e, if_neg e, if_neg e]; exact q2.told i (by simp only [Tw.push] at hi; omega)
    · simp only [Tw.push, up1]
      by_cases e : i = z.n
      · rw [if_pos e, if_pos e, if_pos e, if_pos e]; exact lz2
      · rw [if_neg e, if_neg e, if_neg e, if_neg e]; exact q2.want i (by simp only [Tw.push] at hi; omega)
    · simp only [Tw.push, up1]
      split
      · exact hl
      · exact q.short i
    · simp only [Tw.push, up1] at hx hy hi hj
      by_cases e : i = z.n
      · rw [if_pos e] at hx
        rw [if_neg (by omega)] at hy
        have := nz x hx
        have := (q.told j (by omega)).blk_lt hy
        omega
      · rw [if_neg e] at hx
        by_cases e2 : j = z.n
        · rw [if_pos e2] at hy
          have := nz x hy
          have := (q.told i (by omega)).blk_lt hx
          omega
        · rw [if_neg e2] at hy
          exact q.dis i j (by omega) (by omega) hne x hx hy
    · simp only [Tw.push, up1] at hx hi
      by_cases e : i = z.n
      · rw [if_pos e] at hx
        have := nz x hx
        have := (h.ra.each j hj).blk_lt hy
        omega
      · rw [if_neg e] at hx
        exact q.disX i (by omega) j hj x hx hy
    · simp only [Tw.push, up1] at hx hi
      by_cases e : i = z.n
      · rw [if_pos e] at hx
        have := nz x hx
        have := (h.rb.each j hj).blk_lt hy
        omega
      · rw [if_neg e] at hx
        exact q.disY i (by omega) j hj x hx hy
    · simp only [Tw.push, up1] at hx hi
      by_cases e : i = z.n
      · rw [if_pos e] at hx
        have := nz x hx
        omega
      · rw [if_neg e] at hx
        exact q.new i (by omega) x hx
  · rcases List.mem_cons.1 hx with e | e
    · exact .inr (e ▸ o.nt)
    · rcases List.mem_append.1 e with e | e
      · exact .inr (o.nT x e)
      · exact .inr (o.nW x e)
/-- What came out was written over and grown. -/
theorem In.apart (h : In true w0 w t z) (k : Keep (allBlk z.A z.n) w w') : In false w0 w' t z := by
  have F := h.far
  have q := h.came rfl
  have hx : ∀ x, x ∈ allBlk z.A z.n → ∃ i, i < z.n ∧ x ∈ blk (z.A i) := fun x hx => by
    obtain ⟨i, hi, hx⟩ := List.mem_flatMap.1 hx
    exact ⟨i, List.mem_range.1 hi, hx⟩
  have nb : ∀ x, x ∈ allBlk z.A z.n → x ≠ z.ga ∧ x ≠ z.gb ∧ x ≠ t ∧ x ∉ blk z.sa ∧ x ∉ blk z.sb ∧ x ∉ blk z.TA ∧ x ∉ blk z.WA := fun x hm => by
    obtain ⟨i, hi, hx⟩ := hx x hm
    exact h.bytes (q.told i hi) hx
  have nr : ∀ x, x ∈ allBlk z.A z.n → x ≠ z.r ∧ x ≠ z.s := fun x hm => by
    obtain ⟨i, hi, hx⟩ := hx x hm
    exact ⟨fun e => (q.told i hi).row_ne h.ra.box (by decide) (e ▸ hx), fun e => (q.told i hi).row_ne h.rb.box (by decide) (e ▸ hx)⟩
  exact ⟨h.box.keep k (fun hm => (nb t hm).2.2.1 rfl), h.a.keep k (fun hm => (nb _ hm).1 rfl), h.b.keep k (fun hm => (nb _ hm).2.1 rfl),
    h.ra.keep k (fun hm => (nr _ hm).1 rfl) (fun x hy hm => (nb x hm).2.2.2.1 hy) (fun i hi x hy hm => by
      obtain ⟨j, hj, hz⟩ := hx x hm
      exact q.disX j hj i hi x hz hy),
    h.rb.keep k (fun hm => (nr _ hm).2 rfl) (fun x hy hm => (nb x hm).2.2.2.2.1 hy) (fun i hi x hy hm => by
      obtain ⟨j, hj, hz⟩ := hx x hm
      exact q.disY j hj i hi x hz hy),
    h.told.keep k (fun x hy hm => (nb x hm).2.2.2.2.2.1 hy), h.want.keep k (fun x hy hm => (nb x hm).2.2.2.2.2.2 hy), h.ok, (fun e => by cases e),
    h.keep.then k (fun x hm => by
      obtain ⟨i, hi, hy⟩ := hx x hm
      exact .inr (q.new i hi x hy))⟩
end
end Go.Proofs.Ytmffeofgcnabiaa
