/- Texts behind one another: NandW, NandR, RsSyn, RsOne, RsTwo, RsDec, RsEncM, RsEnc. -/
import Derived.Test.YtkpaafjnjmmehaaMg1
/- Layer 5: Write, Read, damage, Flip, Damage, Cut, Power. -/
namespace Go.Proofs.Ytkpaafjnjmmehaa
open Go.RowKit
set_option linter.unusedVariables false
set_option maxRecDepth 20000
theorem Chip.setCh_setCh (C : Chip) (a k : Nat) (x y : Chunk) : (C.setCh a k x).setCh a k y = C.setCh a k y := by
  unfold Chip.setCh
  simp only
  congr 1
  funext a' k'
  by_cases h : a' = a ∧ k' = k
  · rw [if_pos h, if_pos h]
  · rw [if_neg h, if_neg h, if_neg h]
theorem Chunk.cell_now (x : Chunk) {i : Nat} (h : i < 64) : x.cell i = .int .u8 (x.now i : Nat) := if_pos h
theorem Chunk.cell_truth (x : Chunk) {i : Nat} (h : 64 ≤ i) (h2 : i < 128) : x.cell i = .int .u8 (x.truth (i - 64) : Nat) := by
  unfold Chunk.cell
  rw [if_neg (by omega), if_pos h2]
theorem Chunk.cell_is (x : Chunk) : x.cell 128 = .bool x.is := rfl
theorem Chunk.cell_worst (x : Chunk) {i : Nat} (h : 129 ≤ i) : x.cell i = .int .i64 x.worst := by
  unfold Chunk.cell
  rw [if_neg (by omega), if_neg (by omega), if_neg (by omega)]
theorem cell_cases (i : Nat) : i < 64 ∨ (64 ≤ i ∧ i < 128) ∨ i = 128 ∨ 129 ≤ i := by omega
theorem Chunk.lay_now (x : Chunk) (b : Nat → Nat) (i : Nat) : lay x.cell 0 64 (fun j => .int .u8 (b j : Nat)) i = ({ x with now := b } : Chunk).cell i := by
  unfold lay
  by_cases h : 0 ≤ i ∧ i < 0 + 64
  · rw [if_pos h, Chunk.cell_now _ (by omega), Nat.sub_zero]
  · rw [if_neg h]
    rcases cell_cases i with h1 | ⟨h1, h2⟩ | rfl | h1
    · omega
    · rw [Chunk.cell_truth _ h1 h2, Chunk.cell_truth _ h1 h2]
    · rfl
    · rw [Chunk.cell_worst _ h1, Chunk.cell_worst _ h1]
theorem Chunk.lay_truth (x : Chunk) (b : Nat → Nat) (i : Nat) : lay x.cell 64 64 (fun j => .int .u8 (b j : Nat)) i = ({ x with truth := b } : Chunk).cell i := by
  unfold lay
  by_cases h : 64 ≤ i ∧ i < 64 + 64
  · rw [if_pos h, Chunk.cell_truth _ (by omega) (by omega)]
  · rw [if_neg h]
    rcases cell_cases i with h1 | ⟨h1, h2⟩ | rfl | h1
    · rw [Chunk.cell_now _ h1, Chunk.cell_now _ h1]
    · omega
    · rfl
    · rw [Chunk.cell_worst _ h1, Chunk.cell_worst _ h1]
theorem Chunk.put_is (x : Chunk) (b : Bool) (i : Nat) (hi : i < 130) : put x.cell 128 (.bool b) i = ({ x with is := b } : Chunk).cell i := by
  unfold put
  by_cases h : i = 128
  · subst h; rfl
  · rw [if_neg h]
    rcases cell_cases i with h1 | ⟨h1, h2⟩ | h1 | h1
    · rw [Chunk.cell_now _ h1, Chunk.cell_now _ h1]
    · rw [Chunk.cell_truth _ h1 h2, Chunk.cell_truth _ h1 h2]
    · omega
    · rw [Chunk.cell_worst _ h1, Chunk.cell_worst _ h1]
theorem Chunk.put_worst (x : Chunk) (b : Int) (i : Nat) (hi : i < 130) : put x.cell 129 (.int .i64 b) i = ({ x with worst := b } : Chunk).cell i := by
  unfold put
  by_cases h : i = 129
  · subst h; rfl
  · rw [if_neg h]
    rcases cell_cases i with h1 | ⟨h1, h2⟩ | rfl | h1
    · rw [Chunk.cell_now _ h1, Chunk.cell_now _ h1]
    · rw [Chunk.cell_truth _ h1 h2, Chunk.cell_truth _ h1 h2]
    · rfl
    · omega
theorem Chunk.put_now (x : Chunk) (v : Nat) {n : Nat} (hn : n < 64) (i : Nat) : put x.cell n (.int .u8 (v : Nat)) i = ({ x with now := fun j => if j = n then v else x.now j } : Chunk).cell i := by
  unfold put
  by_cases h : i = n
  · subst h
    rw [if_pos rfl, Chunk.cell_now _ hn]
    simp only [if_pos]
  · rw [if_neg h]
    rcases cell_cases i with h1 | ⟨h1, h2⟩ | rfl | h1
    · rw [Chunk.cell_now _ h1, Chunk.cell_now _ h1]
      simp only [if_neg h]
    · rw [Chunk.cell_truth _ h1 h2, Chunk.cell_truth _ h1 h2]
    · rfl
    · rw [Chunk.cell_worst _ h1, Chunk.cell_worst _ h1]
section
variable {w : World} {c : Nat} {C : Chip}
theorem ChipAt.layCh {w' : World} {a k o n : Nat} {s : Nat → Value} {x : Chunk} (r : Row w' c 62 49972 (lay C.cell (cbase a k + o) n s)) (ha : a < 96) (hk : k < 4) (hn : o + n ≤ 130) (h : ∀ i, i < 130 → lay ((C.ch a k).cell) o n s i = x.cell i) : ChipAt w' c (C.setCh a k x) :=
  Row.congr r (C.lay_ch ha hk hn s x h)
theorem ChipAt.putCh {w' : World} {a k i : Nat} {v : Value} {x : Chunk} (r : Row w' c 62 49972 (put C.cell (cbase a k + i) v)) (ha : a < 96) (hk : k < 4) (hi : i < 130) (h : ∀ j, j < 130 → put ((C.ch a k).cell) i v j = x.cell j) : ChipAt w' c (C.setCh a k x) :=
  Row.congr r (C.put_ch ha hk hi v x h)
def upd {α : Type} (f : Nat → α) (B : Nat) (v : α) : Nat → α := fun b => if b = B then v else f b
theorem tail_upd {C D : Chip} {B i : Nat} {v : Value} (h0 : ∀ b, D.tail b i = if b = B then v else C.tail b i) (h1 : ∀ b j, j < 4 → j ≠ i → D.tail b j = C.tail b j) (B' i' : Nat) (hi' : i' < 4) : (if B' = B ∧ i' = i then v else C.tail B' i') = D.tail B' i' := by
  by_cases hj : i' = i
  · subst hj
    rw [h0]
    by_cases hb : B' = B
    · rw [if_pos ⟨hb, rfl⟩, if_pos hb]
    · rw [if_neg (fun e => hb e.1), if_neg hb]
  · rw [h1 _ _ hi' hj, if_neg (fun e => hj e.2)]
theorem ChipAt.setReads (H : ChipAt w c C) {B : Nat} (hB : B < 12) (v : Int) : ChipAt (w.setCell ⟨c, bbase B + 0, none⟩ (.int .i64 v)) c { C with reads := upd C.reads B v } :=
  H.setTail (i := 0) hB (by omega) rfl (fun _ => rfl) (fun B' i' _ hi' => tail_upd (fun b => by
    unfold Chip.tail upd
    by_cases h : b = B <;> simp [h]) (fun b j hj hn => by rcases last_cases hj with rfl | rfl | rfl | rfl <;> first | rfl | exact absurd rfl hn) B' i' hi')
theorem ChipAt.setFailed (H : ChipAt w c C) {B : Nat} (hB : B < 12) (v : Bool) : ChipAt (w.setCell ⟨c, bbase B + 1, none⟩ (.bool v)) c { C with failed := upd C.failed B v } :=
  H.setTail (i := 1) hB (by omega) rfl (fun _ => rfl) (fun B' i' _ hi' => tail_upd (fun b => by
    unfold Chip.tail upd
    by_cases h : b = B <;> simp [h]) (fun b j hj hn => by rcases last_cases hj with rfl | rfl | rfl | rfl <;> first | rfl | exact absurd rfl hn) B' i' hi')
theorem ChipAt.setBefore (H : ChipAt w c C) {B : Nat} (hB : B < 12) (v : Int) : ChipAt (w.setCell ⟨c, bbase B + 2, none⟩ (.int .i64 v)) c { C with before := upd C.before B v } :=
  H.setTail (i := 2) hB (by omega) rfl (fun _ => rfl) (fun B' i' _ hi' => tail_upd (fun b => by
    unfold Chip.tail upd
    by_cases h : b = B <;> simp [h]) (fun b j hj hn => by rcases last_cases hj with rfl | rfl | rfl | rfl <;> first | rfl | exact absurd rfl hn) B' i' hi')
theorem ChipAt.setAtErase (H : ChipAt w c C) {B : Nat} (hB : B < 12) (v : Bool) : ChipAt (w.setCell ⟨c, bbase B + 3, none⟩ (.bool v)) c { C with atErase := upd C.atErase B v } :=
  H.setTail (i := 3) hB (by omega) rfl (fun _ => rfl) (fun B' i' _ hi' => tail_upd (fun b => by
    unfold Chip.tail upd
    by_cases h : b = B <;> simp [h]) (fun b j hj hn => by rcases last_cases hj with rfl | rfl | rfl | rfl <;> first | rfl | exact absurd rfl hn) B' i' hi')
end
/-- What a chip's numbers keep to. -/
structure Chip.Wf (C : Chip) : Prop where
  b0 : 0 ≤ C.budget
  b1 : C.budget ≤ 9223372036854775807
  bf : ∀ B, C.before B ≤ 9223372036854775807
  now : ∀ a k i, (C.ch a k).now i < 256
  truth : ∀ a k i, (C.ch a k).truth i < 256
theorem Chip.Wf.step {C : Chip} (h : C.Wf) : C.stepE.1.Wf := by
  have h1 := h.b0
  have h2 := h.b1
  unfold Chip.stepE
  split
  · split
    · exact ⟨h.b0, h.b1, h.bf, h.now, h.truth⟩
    · exact ⟨by simp only; omega, by simp only; omega, h.bf, h.now, h.truth⟩
  · exact ⟨h.b0, h.b1, h.bf, h.now, h.truth⟩
/-- A write to a block counts; it may fail by it. -/
def Chip.hit (C : Chip) (B : Nat) : Chip := if 0 < C.before B then { C with before := upd C.before B (C.before B - 1), failed := upd C.failed B (C.failed B || decide (C.before B - 1 = 0)) } else C
def Chip.write (C : Chip) (a k : Nat) (b : Nat → Nat) : Chip × Int :=
  if C.off then (C, 7) else if (C.ch a k).is then (C, 9) else if C.stepE.2 = 0 then (if (C.stepE.1.hit (a / 8)).failed (a / 8) then (C.stepE.1.hit (a / 8), 8) else ((C.stepE.1.hit (a / 8)).setCh a k ⟨b, b, true, 0⟩, 0)) else C.stepE
theorem Chip.stepE_err (C : Chip) : C.stepE.2 = 0 ∨ C.stepE.2 = 7 := by
  unfold Chip.stepE
  split
  · split
    · exact .inr rfl
    · exact .inl rfl
  · exact .inl rfl
theorem Chip.stepE_ch (C : Chip) : C.stepE.1.ch = C.ch := by
  unfold Chip.stepE
  split
  · split <;> rfl
  · rfl
theorem Chip.hit_ch (C : Chip) (B : Nat) : (C.hit B).ch = C.ch := by
  unfold Chip.hit
  split <;> rfl
theorem bbase_at {a n : Nat} (i : Nat) (h : n = 4160 + i) : 0 + 0 + a / 8 * 4164 + n = bbase (a / 8) + i := by
  unfold bbase
  omega
section
variable {w : World} {c B : Nat} {C : Chip}
theorem ChipAt.readsC (H : ChipAt w c C) (hB : B < 12) : w.cell? ⟨c, bbase B + 0, none⟩ = some (.int .i64 (C.reads B)) := H.tail hB (by omega)
theorem ChipAt.failedC (H : ChipAt w c C) (hB : B < 12) : w.cell? ⟨c, bbase B + 1, none⟩ = some (.bool (C.failed B)) := H.tail hB (by omega)
theorem ChipAt.beforeC (H : ChipAt w c C) (hB : B < 12) : w.cell? ⟨c, bbase B + 2, none⟩ = some (.int .i64 (C.before B)) := H.tail hB (by omega)
theorem ChipAt.atEraseC (H : ChipAt w c C) (hB : B < 12) : w.cell? ⟨c, bbase B + 3, none⟩ = some (.bool (C.atErase B)) := H.tail hB (by omega)
end
theorem byte_szI : szIs Try.prog 5 1 = true := by kernel_rfl
theorem byte_sz1 : (Try.prog.info? 5).map (·.size) = some 1 := by kernel_rfl
set_option maxHeartbeats 4000000 in
theorem write_ok (w : World) (c a k d : Nat) (C : Chip) (A : Option Addr) (b : Nat → Nat) (H : ChipAt w c C) (hw : C.Wf) (ha : a < 96) (hk : k < 4) (r : RdB w A 64 b) (hd : 64 ≤ d) (hA : ∀ x, A = some x → x.block ≠ c) :
    Spec Try.prog 22 #[.pointer (some ⟨c, 0, none⟩), .int .i64 a, .int .i64 k, .slice A 64 d] w fun v w' => v = errOf (C.write a k b).2 ∧ ChipAt w' c (C.write a k b).1 ∧ Keep [c] w w' := by
  refine spec_of_wpE (T := tt) tt_ok Try.func22 rfl (by decide +kernel) Try.ntmps22 (by simp) ?_
  conv => whnf
  repeat ((first
    | refine HS.t ?_|refine Br.t ?_|refine Br.f ?_|refine Pk.f ?_|refine Pk.t ?_|refine Pk.and ?_|refine Pk.or ?_|refine Ix.n ?_|refine Ix.of _ (by rfl) (by omega) ?_|refine Ix.i ?_|refine Ar.la ?_|refine Ar.lb ?_|refine Ar.lc ?_|refine Dv.q ?_|refine Dv.r ?_|refine Br.y ?_|refine Br.n ?_|refine Br.ny ?_|refine Br.nn ?_|refine Br.is (by assumption) ?_|refine Br.isnt (by assumption) ?_|refine Ld.of (by assumption) ?_|refine Ru.neq_nil0 ?_|refine Ru.n1 ?_|refine Ru.eql_nil0 ?_|refine Ru.e1 ?_|refine Ru.e2 ?_|refine Ru.e3 ?_|refine Ru.n2 ?_|refine Ru.n3 ?_|refine Ru.neq_nil rfl ?_|refine Ru.eql_nil rfl ?_|refine Ru.eql_err rfl (by decide) ?_|refine Ru.neq_err rfl (by decide) ?_|refine Ru.be ?_|refine Ru.bn ?_|refine RuQ.be ?_|refine RuQ.bn ?_|refine CW.s ?_); conv => whnf)
  refine Ca.of (at_ok w c a k ha hk) ?_
  rintro _ _ ⟨rfl, rfl⟩
  by_cases hoff : C.off = true
  · conv => whnf
    repeat ((first
      | (refine Ld.of H.off ?_)
      | (refine Br.is hoff ?_)
      | refine HS.t ?_|refine Br.t ?_|refine Br.f ?_|refine Pk.f ?_|refine Pk.t ?_|refine Pk.and ?_|refine Pk.or ?_|refine Ix.n ?_|refine Ix.of _ (by rfl) (by omega) ?_|refine Ix.i ?_|refine Ar.la ?_|refine Ar.lb ?_|refine Ar.lc ?_|refine Dv.q ?_|refine Dv.r ?_|refine Br.y ?_|refine Br.n ?_|refine Br.ny ?_|refine Br.nn ?_|refine Br.is (by assumption) ?_|refine Br.isnt (by assumption) ?_|refine Ld.of (by assumption) ?_|refine Ru.neq_nil0 ?_|refine Ru.n1 ?_|refine Ru.eql_nil0 ?_|refine Ru.e1 ?_|refine Ru.e2 ?_|refine Ru.e3 ?_|refine Ru.n2 ?_|refine Ru.n3 ?_|refine Ru.neq_nil rfl ?_|refine Ru.eql_nil rfl ?_|refine Ru.eql_err rfl (by decide) ?_|refine Ru.neq_err rfl (by decide) ?_|refine Ru.be ?_|refine Ru.bn ?_|refine RuQ.be ?_|refine RuQ.bn ?_|refine CW.s ?_); conv => whnf)
    refine ⟨rfl, ?_⟩
    unfold Chip.write
    rw [if_pos hoff]
    exact ⟨rfl, H, Keep.refl _ _⟩
  have hoff' : C.off = false := by simpa using hoff
  by_cases his : (C.ch a k).is = true
  · conv => whnf
    repeat ((first
      | (refine Ld.of H.off ?_)
      | (refine Br.isnt hoff' ?_)
      | (refine Ld.of (H.is ha hk) ?_)
      | (refine Br.is his ?_)
      | refine HS.t ?_|refine Br.t ?_|refine Br.f ?_|refine Pk.f ?_|refine Pk.t ?_|refine Pk.and ?_|refine Pk.or ?_|refine Ix.n ?_|refine Ix.of _ (by rfl) (by omega) ?_|refine Ix.i ?_|refine Ar.la ?_|refine Ar.lb ?_|refine Ar.lc ?_|refine Dv.q ?_|refine Dv.r ?_|refine Br.y ?_|refine Br.n ?_|refine Br.ny ?_|refine Br.nn ?_|refine Br.is (by assumption) ?_|refine Br.isnt (by assumption) ?_|refine Ld.of (by assumption) ?_|refine Ru.neq_nil0 ?_|refine Ru.n1 ?_|refine Ru.eql_nil0 ?_|refine Ru.e1 ?_|refine Ru.e2 ?_|refine Ru.e3 ?_|refine Ru.n2 ?_|refine Ru.n3 ?_|refine Ru.neq_nil rfl ?_|refine Ru.eql_nil rfl ?_|refine Ru.eql_err rfl (by decide) ?_|refine Ru.neq_err rfl (by decide) ?_|refine Ru.be ?_|refine Ru.bn ?_|refine RuQ.be ?_|refine RuQ.bn ?_|refine CW.s ?_); conv => whnf)
    refine ⟨rfl, ?_⟩
    unfold Chip.write
    rw [if_neg hoff, if_pos his]
    exact ⟨rfl, H, Keep.refl _ _⟩
  have his' : (C.ch a k).is = false := by simpa using his
  conv => whnf
  repeat ((first
    | (refine Ld.of H.off ?_)
    | (refine Br.isnt hoff' ?_)
    | (refine Ld.of (H.is ha hk) ?_)
    | (refine Br.isnt his' ?_)
    | refine HS.t ?_|refine Br.t ?_|refine Br.f ?_|refine Pk.f ?_|refine Pk.t ?_|refine Pk.and ?_|refine Pk.or ?_|refine Ix.n ?_|refine Ix.of _ (by rfl) (by omega) ?_|refine Ix.i ?_|refine Ar.la ?_|refine Ar.lb ?_|refine Ar.lc ?_|refine Dv.q ?_|refine Dv.r ?_|refine Br.y ?_|refine Br.n ?_|refine Br.ny ?_|refine Br.nn ?_|refine Br.is (by assumption) ?_|refine Br.isnt (by assumption) ?_|refine Ld.of (by assumption) ?_|refine Ru.neq_nil0 ?_|refine Ru.n1 ?_|refine Ru.eql_nil0 ?_|refine Ru.e1 ?_|refine Ru.e2 ?_|refine Ru.e3 ?_|refine Ru.n2 ?_|refine Ru.n3 ?_|refine Ru.neq_nil rfl ?_|refine Ru.eql_nil rfl ?_|refine Ru.eql_err rfl (by decide) ?_|refine Ru.neq_err rfl (by decide) ?_|refine Ru.be ?_|refine Ru.bn ?_|refine RuQ.be ?_|refine RuQ.bn ?_|refine CW.s ?_); conv => whnf)
  refine Ca.of (step_ok w c C H ⟨hw.b0, hw.b1⟩) ?_
  rintro _ w1 ⟨rfl, H1, k1⟩
  by_cases he : C.stepE.2 = 0
  · rw [he]
    have hw1 := hw.step
    have hdef : C.write a k b = (if (C.stepE.1.hit (a / 8)).failed (a / 8) then (C.stepE.1.hit (a / 8), 8) else ((C.stepE.1.hit (a / 8)).setCh a k ⟨b, b, true, 0⟩, 0)) := by
      unfold Chip.write
      rw [if_neg hoff, if_neg his, if_pos he]
    rw [hdef]
    generalize C.stepE.1 = D at *
    clear hdef he
    have hB : a / 8 < 12 := by omega
    have ra1 := r.keep k1 (fun x hx => by simpa using hA x hx)
    conv => whnf
    repeat ((first
      | (refine Ix.of (a / 8) (by omega) (by omega) ?_)
      | refine HS.t ?_|refine Br.t ?_|refine Br.f ?_|refine Pk.f ?_|refine Pk.t ?_|refine Pk.and ?_|refine Pk.or ?_|refine Ix.n ?_|refine Ix.of _ (by rfl) (by omega) ?_|refine Ix.i ?_|refine Ar.la ?_|refine Ar.lb ?_|refine Ar.lc ?_|refine Dv.q ?_|refine Dv.r ?_|refine Br.y ?_|refine Br.n ?_|refine Br.ny ?_|refine Br.nn ?_|refine Br.is (by assumption) ?_|refine Br.isnt (by assumption) ?_|refine Ld.of (by assumption) ?_|refine Ru.neq_nil0 ?_|refine Ru.n1 ?_|refine Ru.eql_nil0 ?_|refine Ru.e1 ?_|refine Ru.e2 ?_|refine Ru.e3 ?_|refine Ru.n2 ?_|refine Ru.n3 ?_|refine Ru.neq_nil rfl ?_|refine Ru.eql_nil rfl ?_|refine Ru.eql_err rfl (by decide) ?_|refine Ru.neq_err rfl (by decide) ?_|refine Ru.be ?_|refine Ru.bn ?_|refine RuQ.be ?_|refine RuQ.bn ?_); conv => whnf)
    refine CW.cut (ι := Unit) (fun _ w' => ChipAt w' c (D.hit (a / 8)) ∧ Keep [c] w w') (fun _ => [(3, .slice A 64 d), (9, .pointer (some ⟨c, cbase a k, none⟩)), (12, .pointer (some ⟨c, 0 + 0 + a / 8 * 4164, none⟩))]) tt_ok ?_ ?_
    · by_cases hbef : 0 < D.before (a / 8)
      · have hbb := hw1.bf (a / 8)
        have hhit : D.hit (a / 8) = { D with before := upd D.before (a / 8) (D.before (a / 8) - 1), failed := upd D.failed (a / 8) (D.failed (a / 8) || decide (D.before (a / 8) - 1 = 0)) } := by
          unfold Chip.hit
          rw [if_pos hbef]
        rw [hhit]
        conv => whnf
        repeat ((first
          | (refine Ld.at (bbase_at 2 rfl) (H1.beforeC hB) ?_)
          | refine HS.t ?_|refine Br.t ?_|refine Br.f ?_|refine Pk.f ?_|refine Pk.t ?_|refine Pk.and ?_|refine Pk.or ?_|refine Ix.n ?_|refine Ix.of _ (by rfl) (by omega) ?_|refine Ix.i ?_|refine Ar.la ?_|refine Ar.lb ?_|refine Ar.lc ?_|refine Dv.q ?_|refine Dv.r ?_|refine Br.y ?_|refine Br.n ?_|refine Br.ny ?_|refine Br.nn ?_|refine Br.is (by assumption) ?_|refine Br.isnt (by assumption) ?_|refine Ld.of (by assumption) ?_|refine Ru.neq_nil0 ?_|refine Ru.n1 ?_|refine Ru.eql_nil0 ?_|refine Ru.e1 ?_|refine Ru.e2 ?_|refine Ru.e3 ?_|refine Ru.n2 ?_|refine Ru.n3 ?_|refine Ru.neq_nil rfl ?_|refine Ru.eql_nil rfl ?_|refine Ru.eql_err rfl (by decide) ?_|refine Ru.neq_err rfl (by decide) ?_|refine Ru.be ?_|refine Ru.bn ?_|refine RuQ.be ?_|refine RuQ.bn ?_|refine CW.s ?_); conv => whnf)
        refine Sd.setAt _ (bbase_at 2 rfl) (H1.beforeC hB) (Row.free H1 _) rfl ?_
        have H2 := H1.setBefore hB (D.before (a / 8) - 1)
        have k2 := k1.trans (Keep.set c (bbase (a / 8) + 2) (.int .i64 (D.before (a / 8) - 1)))
        have c3 : (w1.setCell ⟨c, bbase (a / 8) + 2, none⟩ (.int .i64 (D.before (a / 8) - 1))).cell? ⟨c, bbase (a / 8) + 2, none⟩ = some (.int .i64 (D.before (a / 8) - 1)) := by
          have := H2.beforeC hB
          unfold upd at this
          simpa using this
        generalize w1.setCell _ _ = w2 at *
        have hfe : ∀ b : Bool, (D.failed (a / 8) || decide (D.before (a / 8) - 1 = 0)) = b → ChipAt (w2.setCell ⟨c, bbase (a / 8) + 1, none⟩ (.bool b)) c { D with before := upd D.before (a / 8) (D.before (a / 8) - 1), failed := upd D.failed (a / 8) (D.failed (a / 8) || decide (D.before (a / 8) - 1 = 0)) } := fun b hb => by
          subst hb
          exact H2.setFailed hB _
        by_cases hf : D.failed (a / 8) = true
        · conv => whnf
          repeat ((first
            | (refine Ld.at (bbase_at 1 rfl) (H2.failedC hB) ?_)
            | (refine Br.is hf ?_)
            | (refine Br.isnt hf ?_)
            | refine HS.t ?_|refine Br.t ?_|refine Br.f ?_|refine Pk.f ?_|refine Pk.t ?_|refine Pk.and ?_|refine Pk.or ?_|refine Ix.n ?_|refine Ix.of _ (by rfl) (by omega) ?_|refine Ix.i ?_|refine Ar.la ?_|refine Ar.lb ?_|refine Ar.lc ?_|refine Dv.q ?_|refine Dv.r ?_|refine Br.y ?_|refine Br.n ?_|refine Br.ny ?_|refine Br.nn ?_|refine Br.is (by assumption) ?_|refine Br.isnt (by assumption) ?_|refine Ld.of (by assumption) ?_|refine Ru.neq_nil0 ?_|refine Ru.n1 ?_|refine Ru.eql_nil0 ?_|refine Ru.e1 ?_|refine Ru.e2 ?_|refine Ru.e3 ?_|refine Ru.n2 ?_|refine Ru.n3 ?_|refine Ru.neq_nil rfl ?_|refine Ru.eql_nil rfl ?_|refine Ru.eql_err rfl (by decide) ?_|refine Ru.neq_err rfl (by decide) ?_|refine Ru.be ?_|refine Ru.bn ?_|refine RuQ.be ?_|refine RuQ.bn ?_|refine CW.s ?_); conv => whnf)
          refine Sd.setAt _ (bbase_at 1 rfl) (H2.failedC hB) (Row.free H2 _) rfl ?_
          have H3 := hfe true (by rw [hf]; rfl)
          have k3 := k2.trans (Keep.set c (bbase (a / 8) + 1) (.bool true))
          generalize w2.setCell _ _ = w3 at *
          conv => whnf
          repeat ((first
            | refine HS.t ?_|refine Br.t ?_|refine Br.f ?_|refine Pk.f ?_|refine Pk.t ?_|refine Pk.and ?_|refine Pk.or ?_|refine Ix.n ?_|refine Ix.of _ (by rfl) (by omega) ?_|refine Ix.i ?_|refine Ar.la ?_|refine Ar.lb ?_|refine Ar.lc ?_|refine Dv.q ?_|refine Dv.r ?_|refine Br.y ?_|refine Br.n ?_|refine Br.ny ?_|refine Br.nn ?_|refine Br.is (by assumption) ?_|refine Br.isnt (by assumption) ?_|refine Ld.of (by assumption) ?_|refine Ru.neq_nil0 ?_|refine Ru.n1 ?_|refine Ru.eql_nil0 ?_|refine Ru.e1 ?_|refine Ru.e2 ?_|refine Ru.e3 ?_|refine Ru.n2 ?_|refine Ru.n3 ?_|refine Ru.neq_nil rfl ?_|refine Ru.eql_nil rfl ?_|refine Ru.eql_err rfl (by decide) ?_|refine Ru.neq_err rfl (by decide) ?_|refine Ru.be ?_|refine Ru.bn ?_|refine RuQ.be ?_|refine RuQ.bn ?_|refine CW.s ?_); conv => whnf)
          exact ⟨(), ⟨H3, k3⟩, ⟨rfl, rfl, rfl, trivial⟩⟩
        · have hf' : D.failed (a / 8) = false := by simpa using hf
          conv => whnf
          repeat ((first
            | (refine Ld.at (bbase_at 1 rfl) (H2.failedC hB) ?_)
            | (refine Br.isnt hf' ?_)
            | (refine Ld.at (bbase_at 2 rfl) c3 ?_)
            | refine HS.t ?_|refine Br.t ?_|refine Br.f ?_|refine Pk.f ?_|refine Pk.t ?_|refine Pk.and ?_|refine Pk.or ?_|refine Ix.n ?_|refine Ix.of _ (by rfl) (by omega) ?_|refine Ix.i ?_|refine Ar.la ?_|refine Ar.lb ?_|refine Ar.lc ?_|refine Dv.q ?_|refine Dv.r ?_|refine Br.y ?_|refine Br.n ?_|refine Br.ny ?_|refine Br.nn ?_|refine Br.is (by assumption) ?_|refine Br.isnt (by assumption) ?_|refine Ld.of (by assumption) ?_|refine Ru.neq_nil0 ?_|refine Ru.n1 ?_|refine Ru.eql_nil0 ?_|refine Ru.e1 ?_|refine Ru.e2 ?_|refine Ru.e3 ?_|refine Ru.n2 ?_|refine Ru.n3 ?_|refine Ru.neq_nil rfl ?_|refine Ru.eql_nil rfl ?_|refine Ru.eql_err rfl (by decide) ?_|refine Ru.neq_err rfl (by decide) ?_|refine Ru.be ?_|refine Ru.bn ?_|refine RuQ.be ?_|refine RuQ.bn ?_|refine CW.s ?_); conv => whnf)
          refine Sd.setAt _ (bbase_at 1 rfl) (H2.failedC hB) (Row.free H2 _) rfl ?_
          have H3 := hfe (decide (D.before (a / 8) - 1 = 0)) (by rw [hf']; rfl)
          have k3 := k2.trans (Keep.set c (bbase (a / 8) + 1) (.bool (decide (D.before (a / 8) - 1 = 0))))
          generalize w2.setCell _ _ = w3 at *
          conv => whnf
          repeat ((first
            | refine HS.t ?_|refine Br.t ?_|refine Br.f ?_|refine Pk.f ?_|refine Pk.t ?_|refine Pk.and ?_|refine Pk.or ?_|refine Ix.n ?_|refine Ix.of _ (by rfl) (by omega) ?_|refine Ix.i ?_|refine Ar.la ?_|refine Ar.lb ?_|refine Ar.lc ?_|refine Dv.q ?_|refine Dv.r ?_|refine Br.y ?_|refine Br.n ?_|refine Br.ny ?_|refine Br.nn ?_|refine Br.is (by assumption) ?_|refine Br.isnt (by assumption) ?_|refine Ld.of (by assumption) ?_|refine Ru.neq_nil0 ?_|refine Ru.n1 ?_|refine Ru.eql_nil0 ?_|refine Ru.e1 ?_|refine Ru.e2 ?_|refine Ru.e3 ?_|refine Ru.n2 ?_|refine Ru.n3 ?_|refine Ru.neq_nil rfl ?_|refine Ru.eql_nil rfl ?_|refine Ru.eql_err rfl (by decide) ?_|refine Ru.neq_err rfl (by decide) ?_|refine Ru.be ?_|refine Ru.bn ?_|refine RuQ.be ?_|refine RuQ.bn ?_|refine CW.s ?_); conv => whnf)
          exact ⟨(), ⟨H3, k3⟩, ⟨rfl, rfl, rfl, trivial⟩⟩
      · have hhit : D.hit (a / 8) = D := by
          unfold Chip.hit
          rw [if_neg hbef]
        rw [hhit]
        conv => whnf
        repeat ((first
          | (refine Ld.at (bbase_at 2 rfl) (H1.beforeC hB) ?_)
          | refine HS.t ?_|refine Br.t ?_|refine Br.f ?_|refine Pk.f ?_|refine Pk.t ?_|refine Pk.and ?_|refine Pk.or ?_|refine Ix.n ?_|refine Ix.of _ (by rfl) (by omega) ?_|refine Ix.i ?_|refine Ar.la ?_|refine Ar.lb ?_|refine Ar.lc ?_|refine Dv.q ?_|refine Dv.r ?_|refine Br.y ?_|refine Br.n ?_|refine Br.ny ?_|refine Br.nn ?_|refine Br.is (by assumption) ?_|refine Br.isnt (by assumption) ?_|refine Ld.of (by assumption) ?_|refine Ru.neq_nil0 ?_|refine Ru.n1 ?_|refine Ru.eql_nil0 ?_|refine Ru.e1 ?_|refine Ru.e2 ?_|refine Ru.e3 ?_|refine Ru.n2 ?_|refine Ru.n3 ?_|refine Ru.neq_nil rfl ?_|refine Ru.eql_nil rfl ?_|refine Ru.eql_err rfl (by decide) ?_|refine Ru.neq_err rfl (by decide) ?_|refine Ru.be ?_|refine Ru.bn ?_|refine RuQ.be ?_|refine RuQ.bn ?_|refine CW.s ?_); conv => whnf)
        exact ⟨(), ⟨H1, k1⟩, ⟨rfl, rfl, rfl, trivial⟩⟩
    · generalize D.hit (a / 8) = E
      rintro _ w2 ⟨H2, k2⟩
      by_cases hf : E.failed (a / 8) = true
      · rw [if_pos hf]
        conv => whnf
        repeat ((first
          | (refine Ld.at (bbase_at 1 rfl) (H2.failedC hB) ?_)
          | (refine Br.is hf ?_)
          | refine HS.t ?_|refine Br.t ?_|refine Br.f ?_|refine Pk.f ?_|refine Pk.t ?_|refine Pk.and ?_|refine Pk.or ?_|refine Ix.n ?_|refine Ix.of _ (by rfl) (by omega) ?_|refine Ix.i ?_|refine Ar.la ?_|refine Ar.lb ?_|refine Ar.lc ?_|refine Dv.q ?_|refine Dv.r ?_|refine Br.y ?_|refine Br.n ?_|refine Br.ny ?_|refine Br.nn ?_|refine Br.is (by assumption) ?_|refine Br.isnt (by assumption) ?_|refine Ld.of (by assumption) ?_|refine Ru.neq_nil0 ?_|refine Ru.n1 ?_|refine Ru.eql_nil0 ?_|refine Ru.e1 ?_|refine Ru.e2 ?_|refine Ru.e3 ?_|refine Ru.n2 ?_|refine Ru.n3 ?_|refine Ru.neq_nil rfl ?_|refine Ru.eql_nil rfl ?_|refine Ru.eql_err rfl (by decide) ?_|refine Ru.neq_err rfl (by decide) ?_|refine Ru.be ?_|refine Ru.bn ?_|refine RuQ.be ?_|refine RuQ.bn ?_|refine CW.s ?_); conv => whnf)
        exact ⟨rfl, rfl, H2, k2⟩
      rw [if_neg hf]
      have hf' : E.failed (a / 8) = false := by simpa using hf
      conv => whnf
      repeat ((first
        | (refine Ld.at (bbase_at 1 rfl) (H2.failedC hB) ?_)
        | (refine Br.isnt hf' ?_)
        | (refine Ru.sliceArr Try.underlying48 byte_sz1 ?_)
        | refine HS.t ?_|refine Br.t ?_|refine Br.f ?_|refine Pk.f ?_|refine Pk.t ?_|refine Pk.and ?_|refine Pk.or ?_|refine Ix.n ?_|refine Ix.of _ (by rfl) (by omega) ?_|refine Ix.i ?_|refine Ar.la ?_|refine Ar.lb ?_|refine Ar.lc ?_|refine Dv.q ?_|refine Dv.r ?_|refine Br.y ?_|refine Br.n ?_|refine Br.ny ?_|refine Br.nn ?_|refine Br.is (by assumption) ?_|refine Br.isnt (by assumption) ?_|refine Ld.of (by assumption) ?_|refine Ru.neq_nil0 ?_|refine Ru.n1 ?_|refine Ru.eql_nil0 ?_|refine Ru.e1 ?_|refine Ru.e2 ?_|refine Ru.e3 ?_|refine Ru.n2 ?_|refine Ru.n3 ?_|refine Ru.neq_nil rfl ?_|refine Ru.eql_nil rfl ?_|refine Ru.eql_err rfl (by decide) ?_|refine Ru.neq_err rfl (by decide) ?_|refine Ru.be ?_|refine Ru.bn ?_|refine RuQ.be ?_|refine RuQ.bn ?_|refine CW.s ?_); conv => whnf)
      have hlt := cbase_lt ha hk (s := 129) (by omega)
      refine Bu.copy Try.underlying22 byte_sz1 H2 A 64 d 64 rfl ((r.keep k2 (fun x hx => by simpa using hA x hx))) (fun e => ?_) (by omega) (fun _ _ => rfl) ?_
      · obtain ⟨b1, o1, e1, _⟩ := r (by omega)
        rw [e] at e1
        cases e1
      intro w3 r3 k3
      have H3 := ChipAt.layCh (o := 0) (x := { E.ch a k with now := b }) r3 ha hk (by omega) (fun i _ => Chunk.lay_now _ b i)
      conv => whnf
      repeat ((first
        | refine HS.t ?_|refine Br.t ?_|refine Br.f ?_|refine Pk.f ?_|refine Pk.t ?_|refine Pk.and ?_|refine Pk.or ?_|refine Ix.n ?_|refine Ix.of _ (by rfl) (by omega) ?_|refine Ix.i ?_|refine Ar.la ?_|refine Ar.lb ?_|refine Ar.lc ?_|refine Dv.q ?_|refine Dv.r ?_|refine Br.y ?_|refine Br.n ?_|refine Br.ny ?_|refine Br.nn ?_|refine Br.is (by assumption) ?_|refine Br.isnt (by assumption) ?_|refine Ld.of (by assumption) ?_|refine Ru.neq_nil0 ?_|refine Ru.n1 ?_|refine Ru.eql_nil0 ?_|refine Ru.e1 ?_|refine Ru.e2 ?_|refine Ru.e3 ?_|refine Ru.n2 ?_|refine Ru.n3 ?_|refine Ru.neq_nil rfl ?_|refine Ru.eql_nil rfl ?_|refine Ru.eql_err rfl (by decide) ?_|refine Ru.neq_err rfl (by decide) ?_|refine Ru.be ?_|refine Ru.bn ?_|refine RuQ.be ?_|refine RuQ.bn ?_|refine CW.s ?_); conv => whnf)
      refine Ru.ldaC H3 Try.underlying48 rfl size_u64 (by omega) (q := fun j => .int .u8 (b j : Nat)) (fun j hj => ?_) ?_
      · rw [Nat.add_zero, Chip.cell_ch _ ha hk (by omega), Chip.setCh_same, Chunk.cell_now _ hj]
      conv => whnf
      repeat ((first
        | refine HS.t ?_|refine Br.t ?_|refine Br.f ?_|refine Pk.f ?_|refine Pk.t ?_|refine Pk.and ?_|refine Pk.or ?_|refine Ix.n ?_|refine Ix.of _ (by rfl) (by omega) ?_|refine Ix.i ?_|refine Ar.la ?_|refine Ar.lb ?_|refine Ar.lc ?_|refine Dv.q ?_|refine Dv.r ?_|refine Br.y ?_|refine Br.n ?_|refine Br.ny ?_|refine Br.nn ?_|refine Br.is (by assumption) ?_|refine Br.isnt (by assumption) ?_|refine Ld.of (by assumption) ?_|refine Ru.neq_nil0 ?_|refine Ru.n1 ?_|refine Ru.eql_nil0 ?_|refine Ru.e1 ?_|refine Ru.e2 ?_|refine Ru.e3 ?_|refine Ru.n2 ?_|refine Ru.n3 ?_|refine Ru.neq_nil rfl ?_|refine Ru.eql_nil rfl ?_|refine Ru.eql_err rfl (by decide) ?_|refine Ru.neq_err rfl (by decide) ?_|refine Ru.be ?_|refine Ru.bn ?_|refine RuQ.be ?_|refine RuQ.bn ?_|refine CW.s ?_); conv => whnf)
      refine Ru.sta H3 size_u64 (by omega) (fun _ _ => rfl) ?_
      intro w4 r4 k4
      have H4 := ChipAt.layCh (o := 64) (x := { E.ch a k with now := b, truth := b }) r4 ha hk (by omega) (fun i _ => by rw [Chip.setCh_same]; exact Chunk.lay_truth _ b i)
      rw [Chip.setCh_setCh] at H4
      clear r3 r4 H3
      conv => whnf
      repeat ((first
        | refine HS.t ?_|refine Br.t ?_|refine Br.f ?_|refine Pk.f ?_|refine Pk.t ?_|refine Pk.and ?_|refine Pk.or ?_|refine Ix.n ?_|refine Ix.of _ (by rfl) (by omega) ?_|refine Ix.i ?_|refine Ar.la ?_|refine Ar.lb ?_|refine Ar.lc ?_|refine Dv.q ?_|refine Dv.r ?_|refine Br.y ?_|refine Br.n ?_|refine Br.ny ?_|refine Br.nn ?_|refine Br.is (by assumption) ?_|refine Br.isnt (by assumption) ?_|refine Ld.of (by assumption) ?_|refine Ru.neq_nil0 ?_|refine Ru.n1 ?_|refine Ru.eql_nil0 ?_|refine Ru.e1 ?_|refine Ru.e2 ?_|refine Ru.e3 ?_|refine Ru.n2 ?_|refine Ru.n3 ?_|refine Ru.neq_nil rfl ?_|refine Ru.eql_nil rfl ?_|refine Ru.eql_err rfl (by decide) ?_|refine Ru.neq_err rfl (by decide) ?_|refine Ru.be ?_|refine Ru.bn ?_|refine RuQ.be ?_|refine RuQ.bn ?_|refine CW.s ?_); conv => whnf)
      refine Sd.setAt (cbase a k + 128) rfl (H4.is ha hk) (Row.free H4 _) rfl ?_
      have H5 := ChipAt.putCh (i := 128) (x := { E.ch a k with now := b, truth := b, is := true }) (Row.set H4 (cbase a k + 128) (.bool true)) ha hk (by omega) (fun i hi => by rw [Chip.setCh_same]; exact Chunk.put_is _ true i hi)
      rw [Chip.setCh_setCh] at H5
      have k5 := k4.trans (Keep.set c (cbase a k + 128) (.bool true))
      generalize w4.setCell _ _ = w5 at *
      conv => whnf
      repeat ((first
        | refine HS.t ?_|refine Br.t ?_|refine Br.f ?_|refine Pk.f ?_|refine Pk.t ?_|refine Pk.and ?_|refine Pk.or ?_|refine Ix.n ?_|refine Ix.of _ (by rfl) (by omega) ?_|refine Ix.i ?_|refine Ar.la ?_|refine Ar.lb ?_|refine Ar.lc ?_|refine Dv.q ?_|refine Dv.r ?_|refine Br.y ?_|refine Br.n ?_|refine Br.ny ?_|refine Br.nn ?_|refine Br.is (by assumption) ?_|refine Br.isnt (by assumption) ?_|refine Ld.of (by assumption) ?_|refine Ru.neq_nil0 ?_|refine Ru.n1 ?_|refine Ru.eql_nil0 ?_|refine Ru.e1 ?_|refine Ru.e2 ?_|refine Ru.e3 ?_|refine Ru.n2 ?_|refine Ru.n3 ?_|refine Ru.neq_nil rfl ?_|refine Ru.eql_nil rfl ?_|refine Ru.eql_err rfl (by decide) ?_|refine Ru.neq_err rfl (by decide) ?_|refine Ru.be ?_|refine Ru.bn ?_|refine RuQ.be ?_|refine RuQ.bn ?_|refine CW.s ?_); conv => whnf)
      refine Sd.setAt (cbase a k + 129) rfl (H5.worst ha hk) (Row.free H5 _) rfl ?_
      have H6 := ChipAt.putCh (i := 129) (x := ⟨b, b, true, 0⟩) (Row.set H5 (cbase a k + 129) (.int .i64 0)) ha hk (by omega) (fun i hi => by rw [Chip.setCh_same]; exact Chunk.put_worst _ 0 i hi)
      rw [Chip.setCh_setCh] at H6
      have k6 := k5.trans (Keep.set c (cbase a k + 129) (.int .i64 0))
      generalize w5.setCell _ _ = w6 at *
      conv => whnf
      repeat ((first
        | refine HS.t ?_|refine Br.t ?_|refine Br.f ?_|refine Pk.f ?_|refine Pk.t ?_|refine Pk.and ?_|refine Pk.or ?_|refine Ix.n ?_|refine Ix.of _ (by rfl) (by omega) ?_|refine Ix.i ?_|refine Ar.la ?_|refine Ar.lb ?_|refine Ar.lc ?_|refine Dv.q ?_|refine Dv.r ?_|refine Br.y ?_|refine Br.n ?_|refine Br.ny ?_|refine Br.nn ?_|refine Br.is (by assumption) ?_|refine Br.isnt (by assumption) ?_|refine Ld.of (by assumption) ?_|refine Ru.neq_nil0 ?_|refine Ru.n1 ?_|refine Ru.eql_nil0 ?_|refine Ru.e1 ?_|refine Ru.e2 ?_|refine Ru.e3 ?_|refine Ru.n2 ?_|refine Ru.n3 ?_|refine Ru.neq_nil rfl ?_|refine Ru.eql_nil rfl ?_|refine Ru.eql_err rfl (by decide) ?_|refine Ru.neq_err rfl (by decide) ?_|refine Ru.be ?_|refine Ru.bn ?_|refine RuQ.be ?_|refine RuQ.bn ?_|refine CW.s ?_); conv => whnf)
      exact ⟨rfl, rfl, H6, (k2.trans k3).trans k6⟩
  · unfold Chip.write
    rw [if_neg hoff, if_neg his, if_neg he]
    have h7 : C.stepE.2 = 7 := (Chip.stepE_err C).resolve_left he
    conv => whnf
    repeat ((first
      | refine HS.t ?_|refine Br.t ?_|refine Br.f ?_|refine Pk.f ?_|refine Pk.t ?_|refine Pk.and ?_|refine Pk.or ?_|refine Ix.n ?_|refine Ix.of _ (by rfl) (by omega) ?_|refine Ix.i ?_|refine Ar.la ?_|refine Ar.lb ?_|refine Ar.lc ?_|refine Dv.q ?_|refine Dv.r ?_|refine Br.y ?_|refine Br.n ?_|refine Br.ny ?_|refine Br.nn ?_|refine Br.is (by assumption) ?_|refine Br.isnt (by assumption) ?_|refine Ld.of (by assumption) ?_|refine Ru.neq_nil0 ?_|refine Ru.n1 ?_|refine Ru.eql_nil0 ?_|refine Ru.e1 ?_|refine Ru.e2 ?_|refine Ru.e3 ?_|refine Ru.n2 ?_|refine Ru.n3 ?_|refine Ru.neq_nil rfl ?_|refine Ru.eql_nil rfl ?_|refine Ru.eql_err rfl (by decide) ?_|refine Ru.neq_err rfl (by decide) ?_|refine Ru.be ?_|refine Ru.bn ?_|refine RuQ.be ?_|refine RuQ.bn ?_|refine CW.s ?_); conv => whnf)
    exact ⟨rfl, rfl, H1, k1⟩
end Go.Proofs.Ytkpaafjnjmmehaa
/- Layer 5: Read, damage, Flip, Damage, Cut, Power. -/
namespace Go.Proofs.Ytkpaafjnjmmehaa
open Go.RowKit
set_option linter.unusedVariables false
set_option maxRecDepth 20000
/-- A page's bytes. -/
def pageW (C : Chip) (a : Nat) : Nat → Nat := fun j => (C.ch a (j / 64)).now (j % 64)
def Chip.readE (C : Chip) (a : Nat) : Chip := { C with reads := upd C.reads (a / 8) (w64 (C.reads (a / 8) + 1)) }
theorem mk256_run (w : World) : (Instr.makeSlice 22 (.int .i64 0) (.int .i64 256)).run Try.prog w = .ok (.slice (some ⟨w.heap.size, 0, none⟩) 0 256) (w.alloc (.cells (madeCells #[.int .u8 0] 256) 5)) := by kernel_rfl
theorem Own.mk256 {w0 w : World} (k : Keep [] w0 w) (f : Nat → Int) : Own w0 (w.alloc (.cells (madeCells #[.int .u8 0] 256) 5)) (some ⟨w.heap.size, 0, none⟩) 0 256 f :=
  ⟨(Ly.of_row (Row.made w 5 (.int .u8 0) 256) (by omega) (by omega) (by simp [maxLen])).congr (fun j hj => by omega), fun x hx => by rw [List.mem_singleton.1 hx]; exact k.size, k.alloc _⟩
def ReadEnd (w : World) (c a : Nat) (C : Chip) (v : Value) (w' : World) : Prop :=
  (C.off = true ∧ v = .tuple #[.slice none 0 0, errOf 7] ∧ w' = w) ∨ (C.off = false ∧ ∃ b e, v = .tuple #[.slice (some ⟨b, 0, none⟩) 256 e, errOf 0] ∧ w.heap.size ≤ b ∧ Ly w' 5 1 (some ⟨b, 0, none⟩) 256 e (fun j => .int .u8 (pageW C a j : Nat)) ∧ ChipAt w' c (C.readE a) ∧ Keep [c] w w')
set_option maxHeartbeats 2000000 in
theorem nread_ok (w : World) (c a : Nat) (C : Chip) (H : ChipAt w c C) (ha : a < 96) : Spec Try.prog 25 #[.pointer (some ⟨c, 0, none⟩), .int .i64 a] w (ReadEnd w c a C) := by
  refine spec_of_wpE (T := tt) tt_ok Try.func25 rfl (by decide +kernel) Try.ntmps25 (by simp) ?_
  conv => whnf
  repeat ((first
    | refine HS.t ?_|refine Br.t ?_|refine Br.f ?_|refine Pk.f ?_|refine Pk.t ?_|refine Pk.and ?_|refine Pk.or ?_|refine Ix.n ?_|refine Ix.of _ (by rfl) (by omega) ?_|refine Ix.i ?_|refine Ar.la ?_|refine Ar.lb ?_|refine Ar.lc ?_|refine Dv.q ?_|refine Dv.r ?_|refine Br.y ?_|refine Br.n ?_|refine Br.ny ?_|refine Br.nn ?_|refine Br.is (by assumption) ?_|refine Br.isnt (by assumption) ?_|refine Ld.of (by assumption) ?_|refine Ru.neq_nil0 ?_|refine Ru.n1 ?_|refine Ru.eql_nil0 ?_|refine Ru.e1 ?_|refine Ru.e2 ?_|refine Ru.e3 ?_|refine Ru.n2 ?_|refine Ru.n3 ?_|refine Ru.neq_nil rfl ?_|refine Ru.eql_nil rfl ?_|refine Ru.eql_err rfl (by decide) ?_|refine Ru.neq_err rfl (by decide) ?_|refine Ru.be ?_|refine Ru.bn ?_|refine RuQ.be ?_|refine RuQ.bn ?_|refine CW.s ?_); conv => whnf)
  refine Ca.of (at_ok w c a 0 ha (by omega)) ?_
  rintro _ _ ⟨rfl, rfl⟩
  by_cases hoff : C.off = true
  · conv => whnf
    repeat ((first
      | (refine Ld.of H.off ?_)
      | (refine Br.is hoff ?_)
      | refine HS.t ?_|refine Br.t ?_|refine Br.f ?_|refine Pk.f ?_|refine Pk.t ?_|refine Pk.and ?_|refine Pk.or ?_|refine Ix.n ?_|refine Ix.of _ (by rfl) (by omega) ?_|refine Ix.i ?_|refine Ar.la ?_|refine Ar.lb ?_|refine Ar.lc ?_|refine Dv.q ?_|refine Dv.r ?_|refine Br.y ?_|refine Br.n ?_|refine Br.ny ?_|refine Br.nn ?_|refine Br.is (by assumption) ?_|refine Br.isnt (by assumption) ?_|refine Ld.of (by assumption) ?_|refine Ru.neq_nil0 ?_|refine Ru.n1 ?_|refine Ru.eql_nil0 ?_|refine Ru.e1 ?_|refine Ru.e2 ?_|refine Ru.e3 ?_|refine Ru.n2 ?_|refine Ru.n3 ?_|refine Ru.neq_nil rfl ?_|refine Ru.eql_nil rfl ?_|refine Ru.eql_err rfl (by decide) ?_|refine Ru.neq_err rfl (by decide) ?_|refine Ru.be ?_|refine Ru.bn ?_|refine RuQ.be ?_|refine RuQ.bn ?_|refine CW.s ?_); conv => whnf)
    exact ⟨rfl, .inl ⟨hoff, rfl, rfl⟩⟩
  have hoff' : C.off = false := by simpa using hoff
  have hB : a / 8 < 12 := by omega
  conv => whnf
  repeat ((first
    | (refine Ld.of H.off ?_)
    | (refine Br.isnt hoff' ?_)
    | (refine Ix.of (a / 8) (by omega) (by omega) ?_)
    | refine HS.t ?_|refine Br.t ?_|refine Br.f ?_|refine Pk.f ?_|refine Pk.t ?_|refine Pk.and ?_|refine Pk.or ?_|refine Ix.n ?_|refine Ix.of _ (by rfl) (by omega) ?_|refine Ix.i ?_|refine Ar.la ?_|refine Ar.lb ?_|refine Ar.lc ?_|refine Dv.q ?_|refine Dv.r ?_|refine Br.y ?_|refine Br.n ?_|refine Br.ny ?_|refine Br.nn ?_|refine Br.is (by assumption) ?_|refine Br.isnt (by assumption) ?_|refine Ld.of (by assumption) ?_|refine Ru.neq_nil0 ?_|refine Ru.n1 ?_|refine Ru.eql_nil0 ?_|refine Ru.e1 ?_|refine Ru.e2 ?_|refine Ru.e3 ?_|refine Ru.n2 ?_|refine Ru.n3 ?_|refine Ru.neq_nil rfl ?_|refine Ru.eql_nil rfl ?_|refine Ru.eql_err rfl (by decide) ?_|refine Ru.neq_err rfl (by decide) ?_|refine Ru.be ?_|refine Ru.bn ?_|refine RuQ.be ?_|refine RuQ.bn ?_|refine CW.s ?_); conv => whnf)
  refine Ca.args (args' := #[.pointer (some ⟨c, bbase (a / 8) + 0, none⟩), .int .i64 1]) (by rw [← bbase_at (a := a) (n := 4160) 0 rfl]) ?_
  refine Ca.of (aadd_ok c _ _ 1 (w64 (C.reads (a / 8) + 1)) rfl w (H.readsC hB) (Row.free H _)) ?_
  rintro _ w1 ⟨rfl, rfl⟩
  have H1 := H.setReads hB (w64 (C.reads (a / 8) + 1))
  have k1 := Keep.set (w := w) c (bbase (a / 8) + 0) (.int .i64 (w64 (C.reads (a / 8) + 1)))
  generalize w.setCell _ _ = w1 at *
  have H1 : ChipAt w1 c (C.readE a) := H1
  have hcl := Row.lt H
  conv => whnf
  repeat ((first
    | refine HS.t ?_|refine Br.t ?_|refine Br.f ?_|refine Pk.f ?_|refine Pk.t ?_|refine Pk.and ?_|refine Pk.or ?_|refine Ix.n ?_|refine Ix.of _ (by rfl) (by omega) ?_|refine Ix.i ?_|refine Ar.la ?_|refine Ar.lb ?_|refine Ar.lc ?_|refine Dv.q ?_|refine Dv.r ?_|refine Br.y ?_|refine Br.n ?_|refine Br.ny ?_|refine Br.nn ?_|refine Br.is (by assumption) ?_|refine Br.isnt (by assumption) ?_|refine Ld.of (by assumption) ?_|refine Ru.neq_nil0 ?_|refine Ru.n1 ?_|refine Ru.eql_nil0 ?_|refine Ru.e1 ?_|refine Ru.e2 ?_|refine Ru.e3 ?_|refine Ru.n2 ?_|refine Ru.n3 ?_|refine Ru.neq_nil rfl ?_|refine Ru.eql_nil rfl ?_|refine Ru.eql_err rfl (by decide) ?_|refine Ru.neq_err rfl (by decide) ?_|refine Ru.be ?_|refine Ru.bn ?_|refine RuQ.be ?_|refine RuQ.bn ?_|refine CW.s ?_); conv => whnf)
  refine Ru.of (mk256_run w1) ?_
  have O := Own.mk256 (Keep.refl [] w1) (fun j => ((pageW C a j : Nat) : Int))
  generalize w1.alloc _ = w2 at *
  conv => whnf
  repeat ((first
    | refine HS.t ?_|refine Br.t ?_|refine Br.f ?_|refine Pk.f ?_|refine Pk.t ?_|refine Pk.and ?_|refine Pk.or ?_|refine Ix.n ?_|refine Ix.of _ (by rfl) (by omega) ?_|refine Ix.i ?_|refine Ar.la ?_|refine Ar.lb ?_|refine Ar.lc ?_|refine Dv.q ?_|refine Dv.r ?_|refine Br.y ?_|refine Br.n ?_|refine Br.ny ?_|refine Br.nn ?_|refine Br.is (by assumption) ?_|refine Br.isnt (by assumption) ?_|refine Ld.of (by assumption) ?_|refine Ru.neq_nil0 ?_|refine Ru.n1 ?_|refine Ru.eql_nil0 ?_|refine Ru.e1 ?_|refine Ru.e2 ?_|refine Ru.e3 ?_|refine Ru.n2 ?_|refine Ru.n3 ?_|refine Ru.neq_nil rfl ?_|refine Ru.eql_nil rfl ?_|refine Ru.eql_err rfl (by decide) ?_|refine Ru.neq_err rfl (by decide) ?_|refine Ru.be ?_|refine Ru.bn ?_|refine RuQ.be ?_|refine RuQ.bn ?_|refine CW.s ?_); conv => whnf)
  refine CW.loop (ι := Nat × Option Addr × Nat) (fun i w' => i.1 ≤ 4 ∧ Own w1 w' i.2.1 (i.1 * 64) i.2.2 (fun j => ((pageW C a j : Nat) : Int))) (fun i => [(1, .int .i64 a), (8, .pointer (some ⟨c, 0 + 0 + a / 8 * 4164, none⟩)), (9, .slice i.2.1 (i.1 * 64) i.2.2), (36, .int .i64 i.1)]) (fun i => 4 - i.1) (0, some ⟨w1.heap.size, 0, none⟩, 256) tt_ok ⟨by simp, O⟩ ⟨rfl, rfl, rfl, rfl, trivial⟩ ?_
  rintro ⟨i, X, e⟩ wr ⟨hi, Oi⟩
  simp only at hi Oi ⊢
  by_cases hlt : i < 4
  · have Hr : ChipAt wr c (C.readE a) := ChipAt.keep H1 Oi.keep (by simp)
    conv => whnf
    repeat ((first
      | (refine Ix.of (a % 8) (by omega) (by omega) ?_)
      | (refine Ru.sliceArr Try.underlying48 byte_sz1 ?_)
      | refine HS.t ?_|refine Br.t ?_|refine Br.f ?_|refine Pk.f ?_|refine Pk.t ?_|refine Pk.and ?_|refine Pk.or ?_|refine Ix.n ?_|refine Ix.of _ (by rfl) (by omega) ?_|refine Ix.i ?_|refine Ar.la ?_|refine Ar.lb ?_|refine Ar.lc ?_|refine Dv.q ?_|refine Dv.r ?_|refine Br.y ?_|refine Br.n ?_|refine Br.ny ?_|refine Br.nn ?_|refine Br.is (by assumption) ?_|refine Br.isnt (by assumption) ?_|refine Ld.of (by assumption) ?_|refine Ru.neq_nil0 ?_|refine Ru.n1 ?_|refine Ru.eql_nil0 ?_|refine Ru.e1 ?_|refine Ru.e2 ?_|refine Ru.e3 ?_|refine Ru.n2 ?_|refine Ru.n3 ?_|refine Ru.neq_nil rfl ?_|refine Ru.eql_nil rfl ?_|refine Ru.eql_err rfl (by decide) ?_|refine Ru.neq_err rfl (by decide) ?_|refine Ru.be ?_|refine Ru.bn ?_|refine RuQ.be ?_|refine RuQ.bn ?_|refine CW.s ?_); conv => whnf)
    refine Bu.grow Oi (fun j => ((pageW C a (i * 64 + j) : Nat) : Int)) (fun _ => ⟨_, _, rfl, fun j hj => ?_⟩) (by omega) (fun e => by cases e) (by omega) ?_
    · have h1 := Hr.now ha hlt hj
      have e1 : 0 + 0 + a / 8 * 4164 + 0 + a % 8 * 520 + i * 130 + 0 + j = cbase a i + j := by
        unfold cbase
        omega
      rw [e1, h1]
      unfold pageW Chip.readE
      simp only
      rw [show (i * 64 + j) / 64 = i by omega, show (i * 64 + j) % 64 = j by omega]
    intro Y e2 w3 O3 k3
    conv => whnf
    repeat ((first
      | refine HS.t ?_|refine Br.t ?_|refine Br.f ?_|refine Pk.f ?_|refine Pk.t ?_|refine Pk.and ?_|refine Pk.or ?_|refine Ix.n ?_|refine Ix.of _ (by rfl) (by omega) ?_|refine Ix.i ?_|refine Ar.la ?_|refine Ar.lb ?_|refine Ar.lc ?_|refine Dv.q ?_|refine Dv.r ?_|refine Br.y ?_|refine Br.n ?_|refine Br.ny ?_|refine Br.nn ?_|refine Br.is (by assumption) ?_|refine Br.isnt (by assumption) ?_|refine Ld.of (by assumption) ?_|refine Ru.neq_nil0 ?_|refine Ru.n1 ?_|refine Ru.eql_nil0 ?_|refine Ru.e1 ?_|refine Ru.e2 ?_|refine Ru.e3 ?_|refine Ru.n2 ?_|refine Ru.n3 ?_|refine Ru.neq_nil rfl ?_|refine Ru.eql_nil rfl ?_|refine Ru.eql_err rfl (by decide) ?_|refine Ru.neq_err rfl (by decide) ?_|refine Ru.be ?_|refine Ru.bn ?_|refine RuQ.be ?_|refine RuQ.bn ?_|refine CW.s ?_); conv => whnf)
    refine ⟨(i + 1, Y, e2), ⟨by simp only; omega, ?_⟩, ⟨rfl, rfl, ?_, vi (by simp only; omega), trivial⟩, by simp only; omega⟩
    · simp only
      rw [show (i + 1) * 64 = i * 64 + 64 by omega]
      exact O3.congr (fun j hj => by
        by_cases h : j < i * 64
        · rw [if_pos h]
        · rw [if_neg h, show i * 64 + (j - i * 64) = j by omega])
    · simp only
      rw [show (i + 1) * 64 = i * 64 + 64 by omega]
      exact rfl
  · obtain rfl : i = 4 := by omega
    obtain ⟨b, rfl, -, -⟩ := Oi.ly.at1 (j := 0) (by omega)
    have hb := Oi.new b (List.mem_singleton.2 rfl)
    have hsz := k1.size
    conv => whnf
    repeat ((first
      | refine HS.t ?_|refine Br.t ?_|refine Br.f ?_|refine Pk.f ?_|refine Pk.t ?_|refine Pk.and ?_|refine Pk.or ?_|refine Ix.n ?_|refine Ix.of _ (by rfl) (by omega) ?_|refine Ix.i ?_|refine Ar.la ?_|refine Ar.lb ?_|refine Ar.lc ?_|refine Dv.q ?_|refine Dv.r ?_|refine Br.y ?_|refine Br.n ?_|refine Br.ny ?_|refine Br.nn ?_|refine Br.is (by assumption) ?_|refine Br.isnt (by assumption) ?_|refine Ld.of (by assumption) ?_|refine Ru.neq_nil0 ?_|refine Ru.n1 ?_|refine Ru.eql_nil0 ?_|refine Ru.e1 ?_|refine Ru.e2 ?_|refine Ru.e3 ?_|refine Ru.n2 ?_|refine Ru.n3 ?_|refine Ru.neq_nil rfl ?_|refine Ru.eql_nil rfl ?_|refine Ru.eql_err rfl (by decide) ?_|refine Ru.neq_err rfl (by decide) ?_|refine Ru.be ?_|refine Ru.bn ?_|refine RuQ.be ?_|refine RuQ.bn ?_|refine CW.s ?_); conv => whnf)
    exact ⟨rfl, .inr ⟨hoff', b, e, rfl, by omega, Oi.ly, ChipAt.keep H1 Oi.keep (by simp), k1.then Oi.keep (fun x hx => by cases hx)⟩⟩
theorem dmg_step (x : Chunk) {i : Nat} : x.dmgTo (i + 1) = x.dmgTo i + (if x.now i = x.truth i then 0 else 1) := rfl
set_option maxHeartbeats 2000000 in
theorem damage_ok (w : World) (c a k : Nat) (C : Chip) (H : ChipAt w c C) (ha : a < 96) (hk : k < 4) : Spec Try.prog 32 #[.pointer (some ⟨c, cbase a k, none⟩)] w fun v w' => v = .int .i64 ((C.ch a k).dmg : Nat) ∧ w = w' := by
  have hlt := cbase_lt ha hk (s := 129) (by omega)
  refine spec_of_wpE (T := tt) tt_ok Try.func32 rfl (by decide +kernel) Try.ntmps32 (by simp) ?_
  conv => whnf
  repeat ((first
    | refine HS.t ?_|refine Br.t ?_|refine Br.f ?_|refine Pk.f ?_|refine Pk.t ?_|refine Pk.and ?_|refine Pk.or ?_|refine Ix.n ?_|refine Ix.of _ (by rfl) (by omega) ?_|refine Ix.i ?_|refine Ar.la ?_|refine Ar.lb ?_|refine Ar.lc ?_|refine Dv.q ?_|refine Dv.r ?_|refine Br.y ?_|refine Br.n ?_|refine Br.ny ?_|refine Br.nn ?_|refine Br.is (by assumption) ?_|refine Br.isnt (by assumption) ?_|refine Ld.of (by assumption) ?_|refine Ru.neq_nil0 ?_|refine Ru.n1 ?_|refine Ru.eql_nil0 ?_|refine Ru.e1 ?_|refine Ru.e2 ?_|refine Ru.e3 ?_|refine Ru.n2 ?_|refine Ru.n3 ?_|refine Ru.neq_nil rfl ?_|refine Ru.eql_nil rfl ?_|refine Ru.eql_err rfl (by decide) ?_|refine Ru.neq_err rfl (by decide) ?_|refine Ru.be ?_|refine Ru.bn ?_|refine RuQ.be ?_|refine RuQ.bn ?_|refine CW.s ?_); conv => whnf)
  refine Ru.ldaC H Try.underlying48 rfl size_u64 (by omega) (q := fun j => .int .u8 ((C.ch a k).now j : Nat)) (fun j hj => by rw [Nat.add_zero, Chip.cell_ch _ ha hk (by omega), Chunk.cell_now _ hj]) ?_
  conv => whnf
  repeat ((first
    | refine HS.t ?_|refine Br.t ?_|refine Br.f ?_|refine Pk.f ?_|refine Pk.t ?_|refine Pk.and ?_|refine Pk.or ?_|refine Ix.n ?_|refine Ix.of _ (by rfl) (by omega) ?_|refine Ix.i ?_|refine Ar.la ?_|refine Ar.lb ?_|refine Ar.lc ?_|refine Dv.q ?_|refine Dv.r ?_|refine Br.y ?_|refine Br.n ?_|refine Br.ny ?_|refine Br.nn ?_|refine Br.is (by assumption) ?_|refine Br.isnt (by assumption) ?_|refine Ld.of (by assumption) ?_|refine Ru.neq_nil0 ?_|refine Ru.n1 ?_|refine Ru.eql_nil0 ?_|refine Ru.e1 ?_|refine Ru.e2 ?_|refine Ru.e3 ?_|refine Ru.n2 ?_|refine Ru.n3 ?_|refine Ru.neq_nil rfl ?_|refine Ru.eql_nil rfl ?_|refine Ru.eql_err rfl (by decide) ?_|refine Ru.neq_err rfl (by decide) ?_|refine Ru.be ?_|refine Ru.bn ?_|refine RuQ.be ?_|refine RuQ.bn ?_|refine CW.s ?_); conv => whnf)
  refine CW.loop (ι := Nat) (fun i w' => i ≤ 64 ∧ w' = w) (fun i => [(0, .pointer (some ⟨c, cbase a k, none⟩)), (3, .int .i64 ((C.ch a k).dmgTo i : Nat)), (9, agg 64 (fun j => .int .u8 ((C.ch a k).now j : Nat))), (10, .int .i64 i)]) (fun i => 64 - i) 0 tt_ok ⟨by omega, rfl⟩ ⟨rfl, rfl, rfl, rfl, trivial⟩ ?_
  rintro i wr ⟨hi, rfl⟩
  by_cases hl : i < 64
  · have hd := dmg_step (C.ch a k) (i := i)
    have hle := (C.ch a k).dmgTo_le i
    generalize (C.ch a k).dmgTo i = n at *
    by_cases he : (C.ch a k).now i = (C.ch a k).truth i
    · rw [if_pos he] at hd
      conv => whnf
      repeat ((first
        | (refine Ru.idx Try.underlying48 hl (by kernel_rfl) ?_)
        | (refine Ld.at (by omega) (H.truth ha hk hl) ?_)
        | refine HS.t ?_|refine Br.t ?_|refine Br.f ?_|refine Pk.f ?_|refine Pk.t ?_|refine Pk.and ?_|refine Pk.or ?_|refine Ix.n ?_|refine Ix.of _ (by rfl) (by omega) ?_|refine Ix.i ?_|refine Ar.la ?_|refine Ar.lb ?_|refine Ar.lc ?_|refine Dv.q ?_|refine Dv.r ?_|refine Br.y ?_|refine Br.n ?_|refine Br.ny ?_|refine Br.nn ?_|refine Br.is (by assumption) ?_|refine Br.isnt (by assumption) ?_|refine Ld.of (by assumption) ?_|refine Ru.neq_nil0 ?_|refine Ru.n1 ?_|refine Ru.eql_nil0 ?_|refine Ru.e1 ?_|refine Ru.e2 ?_|refine Ru.e3 ?_|refine Ru.n2 ?_|refine Ru.n3 ?_|refine Ru.neq_nil rfl ?_|refine Ru.eql_nil rfl ?_|refine Ru.eql_err rfl (by decide) ?_|refine Ru.neq_err rfl (by decide) ?_|refine Ru.be ?_|refine Ru.bn ?_|refine RuQ.be ?_|refine RuQ.bn ?_|refine CW.s ?_); conv => whnf)
      exact ⟨i + 1, ⟨hl, rfl⟩, ⟨rfl, vi (by rw [hd, Nat.add_zero]), rfl, vi (by omega), trivial⟩, by simp only; omega⟩
    · rw [if_neg he] at hd
      conv => whnf
      repeat ((first
        | (refine Ru.idx Try.underlying48 hl (by kernel_rfl) ?_)
        | (refine Ld.at (by omega) (H.truth ha hk hl) ?_)
        | refine HS.t ?_|refine Br.t ?_|refine Br.f ?_|refine Pk.f ?_|refine Pk.t ?_|refine Pk.and ?_|refine Pk.or ?_|refine Ix.n ?_|refine Ix.of _ (by rfl) (by omega) ?_|refine Ix.i ?_|refine Ar.la ?_|refine Ar.lb ?_|refine Ar.lc ?_|refine Dv.q ?_|refine Dv.r ?_|refine Br.y ?_|refine Br.n ?_|refine Br.ny ?_|refine Br.nn ?_|refine Br.is (by assumption) ?_|refine Br.isnt (by assumption) ?_|refine Ld.of (by assumption) ?_|refine Ru.neq_nil0 ?_|refine Ru.n1 ?_|refine Ru.eql_nil0 ?_|refine Ru.e1 ?_|refine Ru.e2 ?_|refine Ru.e3 ?_|refine Ru.n2 ?_|refine Ru.n3 ?_|refine Ru.neq_nil rfl ?_|refine Ru.eql_nil rfl ?_|refine Ru.eql_err rfl (by decide) ?_|refine Ru.neq_err rfl (by decide) ?_|refine Ru.be ?_|refine Ru.bn ?_|refine RuQ.be ?_|refine RuQ.bn ?_|refine CW.s ?_); conv => whnf)
      exact ⟨i + 1, ⟨hl, rfl⟩, ⟨rfl, vi (by rw [hd]; omega), rfl, vi (by omega), trivial⟩, by simp only; omega⟩
  · obtain rfl : i = 64 := by omega
    conv => whnf
    repeat ((first
      | refine HS.t ?_|refine Br.t ?_|refine Br.f ?_|refine Pk.f ?_|refine Pk.t ?_|refine Pk.and ?_|refine Pk.or ?_|refine Ix.n ?_|refine Ix.of _ (by rfl) (by omega) ?_|refine Ix.i ?_|refine Ar.la ?_|refine Ar.lb ?_|refine Ar.lc ?_|refine Dv.q ?_|refine Dv.r ?_|refine Br.y ?_|refine Br.n ?_|refine Br.ny ?_|refine Br.nn ?_|refine Br.is (by assumption) ?_|refine Br.isnt (by assumption) ?_|refine Ld.of (by assumption) ?_|refine Ru.neq_nil0 ?_|refine Ru.n1 ?_|refine Ru.eql_nil0 ?_|refine Ru.e1 ?_|refine Ru.e2 ?_|refine Ru.e3 ?_|refine Ru.n2 ?_|refine Ru.n3 ?_|refine Ru.neq_nil rfl ?_|refine Ru.eql_nil rfl ?_|refine Ru.eql_err rfl (by decide) ?_|refine Ru.neq_err rfl (by decide) ?_|refine Ru.be ?_|refine Ru.bn ?_|refine RuQ.be ?_|refine RuQ.bn ?_|refine CW.s ?_); conv => whnf)
    exact ⟨rfl, rfl, rfl⟩
/-- A bit of a chunk is turned. -/
def Chunk.turn (x : Chunk) (b : Nat) (m : Nat) : Chunk := { x with now := fun j => if j = b then x.now b ^^^ m else x.now j }
def Chunk.flip (x : Chunk) (b : Nat) (m : Nat) : Chunk := { x.turn b m with worst := max x.worst ((x.turn b m).dmg : Nat) }
def Chip.flip (C : Chip) (a bit : Nat) : Chip := C.setCh a (bit / 512) ((C.ch a (bit / 512)).flip (bit / 8 % 64) (2 ^ (bit % 8)))
theorem Sh.shl8 {n : Nat} {K : Value → Prop} (hn : n < 8) (k : K (.int .u8 ((2 ^ n : Nat) : Int))) : Sh .shl .u8 1 (n : Int) K := ⟨by omega, by
  have h : n = 0 ∨ n = 1 ∨ n = 2 ∨ n = 3 ∨ n = 4 ∨ n = 5 ∨ n = 6 ∨ n = 7 := by omega
  rcases h with rfl | rfl | rfl | rfl | rfl | rfl | rfl | rfl <;> exact k⟩
theorem Sh.shl8I {x : Int} {K : Value → Prop} (n : Nat) (e : x = (n : Int)) (hn : n < 8) (k : K (.int .u8 ((2 ^ n : Nat) : Int))) : Sh .shl .u8 1 x K := by
  subst e
  exact Sh.shl8 hn k
theorem two_pow8 {n : Nat} (h : n < 8) : 2 ^ n < 256 := by
  have h : n = 0 ∨ n = 1 ∨ n = 2 ∨ n = 3 ∨ n = 4 ∨ n = 5 ∨ n = 6 ∨ n = 7 := by omega
  rcases h with rfl | rfl | rfl | rfl | rfl | rfl | rfl | rfl <;> decide
set_option maxHeartbeats 4000000 in
theorem flip_ok (w : World) (c a bit : Nat) (C : Chip) (H : ChipAt w c C) (hw : C.Wf) (ha : a < 96) (hbit : bit < 2048) : Spec Try.prog 24 #[.pointer (some ⟨c, 0, none⟩), .int .i64 a, .int .i64 bit] w fun v w' => v = errOf 0 ∧ ChipAt w' c (C.flip a bit) ∧ Keep [c] w w' := by
  have hk : bit / 512 < 4 := by omega
  have hb : bit / 8 % 64 < 64 := by omega
  have hm : bit % 8 < 8 := by omega
  refine spec_of_wpE (T := tt) tt_ok Try.func24 rfl (by decide +kernel) Try.ntmps24 (by simp) ?_
  conv => whnf
  repeat ((first
    | refine HS.t ?_|refine Br.t ?_|refine Br.f ?_|refine Pk.f ?_|refine Pk.t ?_|refine Pk.and ?_|refine Pk.or ?_|refine Ix.n ?_|refine Ix.of _ (by rfl) (by omega) ?_|refine Ix.i ?_|refine Ar.la ?_|refine Ar.lb ?_|refine Ar.lc ?_|refine Dv.q ?_|refine Dv.r ?_|refine Br.y ?_|refine Br.n ?_|refine Br.ny ?_|refine Br.nn ?_|refine Br.is (by assumption) ?_|refine Br.isnt (by assumption) ?_|refine Ld.of (by assumption) ?_|refine Ru.neq_nil0 ?_|refine Ru.n1 ?_|refine Ru.eql_nil0 ?_|refine Ru.e1 ?_|refine Ru.e2 ?_|refine Ru.e3 ?_|refine Ru.n2 ?_|refine Ru.n3 ?_|refine Ru.neq_nil rfl ?_|refine Ru.eql_nil rfl ?_|refine Ru.eql_err rfl (by decide) ?_|refine Ru.neq_err rfl (by decide) ?_|refine Ru.be ?_|refine Ru.bn ?_|refine RuQ.be ?_|refine RuQ.bn ?_|refine CW.s ?_); conv => whnf)
  refine Ca.args (args' := #[.pointer (some ⟨c, 0, none⟩), .int .i64 a, .int .i64 ((bit / 512 : Nat) : Int)]) (by
    rw [show ((bit : Int) / 8 / 64) = ((bit / 512 : Nat) : Int) by omega]) ?_
  refine Ca.of (at_ok w c a (bit / 512) ha hk) ?_
  rintro _ _ ⟨rfl, rfl⟩
  conv => whnf
  repeat ((first
    | refine HS.t ?_|refine Br.t ?_|refine Br.f ?_|refine Pk.f ?_|refine Pk.t ?_|refine Pk.and ?_|refine Pk.or ?_|refine Ix.n ?_|refine Ix.of _ (by rfl) (by omega) ?_|refine Ix.i ?_|refine Ar.la ?_|refine Ar.lb ?_|refine Ar.lc ?_|refine Dv.q ?_|refine Dv.r ?_|refine Br.y ?_|refine Br.n ?_|refine Br.ny ?_|refine Br.nn ?_|refine Br.is (by assumption) ?_|refine Br.isnt (by assumption) ?_|refine Ld.of (by assumption) ?_|refine Ru.neq_nil0 ?_|refine Ru.n1 ?_|refine Ru.eql_nil0 ?_|refine Ru.e1 ?_|refine Ru.e2 ?_|refine Ru.e3 ?_|refine Ru.n2 ?_|refine Ru.n3 ?_|refine Ru.neq_nil rfl ?_|refine Ru.eql_nil rfl ?_|refine Ru.eql_err rfl (by decide) ?_|refine Ru.neq_err rfl (by decide) ?_|refine Ru.be ?_|refine Ru.bn ?_|refine RuQ.be ?_|refine RuQ.bn ?_|refine CW.s ?_); conv => whnf)
  refine CW.held (fun _ => True) [] (.take 0 (.take 1 (.take 2 (.take 3 (.take 4 (.take 5 (.take 6 (.take 8 (.take 9 (.take 10 (.take 12 (.take 13 (.one 7 (.take 11 (.take 14 (.one 15 (.done))))))))))))))))) tt_ok (by kernel_rfl) (by kernel_rfl) (by kernel_rfl) trivial ?_
  have H := H.drewN 1
  have k1 := (Keep.refl [c] w).drewN 1
  generalize w.drewN 1 = w1 at *
  conv => whnf
  repeat ((first
    | (refine Ix.of (bit / 8 % 64) (by omega) hb ?_)
    | (refine Ld.at (by omega) (H.now ha hk hb) ?_)
    | (refine Sh.shl8I (bit % 8) (by omega) hm ?_)
    | refine HS.t ?_|refine Br.t ?_|refine Br.f ?_|refine Pk.f ?_|refine Pk.t ?_|refine Pk.and ?_|refine Pk.or ?_|refine Ix.n ?_|refine Ix.of _ (by rfl) (by omega) ?_|refine Ix.i ?_|refine Ar.la ?_|refine Ar.lb ?_|refine Ar.lc ?_|refine Dv.q ?_|refine Dv.r ?_|refine Br.y ?_|refine Br.n ?_|refine Br.ny ?_|refine Br.nn ?_|refine Br.is (by assumption) ?_|refine Br.isnt (by assumption) ?_|refine Ld.of (by assumption) ?_|refine Ru.neq_nil0 ?_|refine Ru.n1 ?_|refine Ru.eql_nil0 ?_|refine Ru.e1 ?_|refine Ru.e2 ?_|refine Ru.e3 ?_|refine Ru.n2 ?_|refine Ru.n3 ?_|refine Ru.neq_nil rfl ?_|refine Ru.eql_nil rfl ?_|refine Ru.eql_err rfl (by decide) ?_|refine Ru.neq_err rfl (by decide) ?_|refine Ru.be ?_|refine Ru.bn ?_|refine RuQ.be ?_|refine RuQ.bn ?_|refine CW.s ?_); conv => whnf)
  rw [bitv_xor8 (hw.now _ _ _) (two_pow8 hm)]
  refine Sd.setAt (cbase a (bit / 512) + bit / 8 % 64) (by omega) (H.now ha hk hb) (Row.free H _) rfl ?_
  have H2 := ChipAt.putCh (i := bit / 8 % 64) (x := (C.ch a (bit / 512)).turn (bit / 8 % 64) (2 ^ (bit % 8))) (Row.set H (cbase a (bit / 512) + bit / 8 % 64) (.int .u8 (((C.ch a (bit / 512)).now (bit / 8 % 64) ^^^ 2 ^ (bit % 8) : Nat) : Int))) ha hk (by omega) (fun i hi => Chunk.put_now _ _ hb i)
  have k2 := k1.trans (Keep.set (w := w1) c (cbase a (bit / 512) + bit / 8 % 64) (.int .u8 (((C.ch a (bit / 512)).now (bit / 8 % 64) ^^^ 2 ^ (bit % 8) : Nat) : Int)))
  generalize w1.setCell _ _ = w2 at *
  conv => whnf
  repeat ((first
    | refine HS.t ?_|refine Br.t ?_|refine Br.f ?_|refine Pk.f ?_|refine Pk.t ?_|refine Pk.and ?_|refine Pk.or ?_|refine Ix.n ?_|refine Ix.of _ (by rfl) (by omega) ?_|refine Ix.i ?_|refine Ar.la ?_|refine Ar.lb ?_|refine Ar.lc ?_|refine Dv.q ?_|refine Dv.r ?_|refine Br.y ?_|refine Br.n ?_|refine Br.ny ?_|refine Br.nn ?_|refine Br.is (by assumption) ?_|refine Br.isnt (by assumption) ?_|refine Ld.of (by assumption) ?_|refine Ru.neq_nil0 ?_|refine Ru.n1 ?_|refine Ru.eql_nil0 ?_|refine Ru.e1 ?_|refine Ru.e2 ?_|refine Ru.e3 ?_|refine Ru.n2 ?_|refine Ru.n3 ?_|refine Ru.neq_nil rfl ?_|refine Ru.eql_nil rfl ?_|refine Ru.eql_err rfl (by decide) ?_|refine Ru.neq_err rfl (by decide) ?_|refine Ru.be ?_|refine Ru.bn ?_|refine RuQ.be ?_|refine RuQ.bn ?_|refine CW.s ?_); conv => whnf)
  refine CW.held (fun _ => True) [] (.take 0 (.take 1 (.take 2 (.take 3 (.take 5 (.two 4 (.one 6 (.take 7 (.take 8 (.take 9 (.one 10 (.done)))))) 6 (.one 4 (.take 7 (.take 8 (.take 9 (.one 10 (.done)))))))))))) tt_ok (by kernel_rfl) (by kernel_rfl) (by kernel_rfl) trivial ?_
  have H2 := H2.drewN 1
  have k2 := k2.drewN 1
  generalize w2.drewN 1 = w3 at *
  have hd : (((C.setCh a (bit / 512) ((C.ch a (bit / 512)).turn (bit / 8 % 64) (2 ^ (bit % 8)))).ch a (bit / 512))) = (C.ch a (bit / 512)).turn (bit / 8 % 64) (2 ^ (bit % 8)) := Chip.setCh_same _ _ _ _
  have dok := damage_ok w3 c a (bit / 512) _ H2 ha hk
  have wok := H2.worst ha hk
  rw [hd] at dok wok
  have wok : w3.cell? ⟨c, cbase a (bit / 512) + 129, none⟩ = some (.int .i64 (C.ch a (bit / 512)).worst) := wok
  conv => whnf
  repeat' ((first
    | (refine And.intro ?_ ?_)
    | (refine Ld.at (by omega) wok ?_)
    | (refine Ca.of dok ?_; rintro _ _ ⟨rfl, rfl⟩)
    | refine HS.t ?_|refine Br.t ?_|refine Br.f ?_|refine Pk.f ?_|refine Pk.t ?_|refine Pk.and ?_|refine Pk.or ?_|refine Ix.n ?_|refine Ix.of _ (by rfl) (by omega) ?_|refine Ix.i ?_|refine Ar.la ?_|refine Ar.lb ?_|refine Ar.lc ?_|refine Dv.q ?_|refine Dv.r ?_|refine Br.y ?_|refine Br.n ?_|refine Br.ny ?_|refine Br.nn ?_|refine Br.is (by assumption) ?_|refine Br.isnt (by assumption) ?_|refine Ld.of (by assumption) ?_|refine Ru.neq_nil0 ?_|refine Ru.n1 ?_|refine Ru.eql_nil0 ?_|refine Ru.e1 ?_|refine Ru.e2 ?_|refine Ru.e3 ?_|refine Ru.n2 ?_|refine Ru.n3 ?_|refine Ru.neq_nil rfl ?_|refine Ru.eql_nil rfl ?_|refine Ru.eql_err rfl (by decide) ?_|refine Ru.neq_err rfl (by decide) ?_|refine Ru.be ?_|refine Ru.bn ?_|refine RuQ.be ?_|refine RuQ.bn ?_|refine CW.s ?_|refine Br.d (fun _ => ?_) (fun _ => ?_)|refine Br.nd (fun _ => ?_) (fun _ => ?_)|refine Br.mk (fun _ => ?_) (fun _ => ?_)) <;> conv => whnf)
  all_goals
    refine Sd.setAt (cbase a (bit / 512) + 129) rfl wok (Row.free H2 _) rfl ?_
    have H3 := ChipAt.putCh (i := 129) (x := (C.ch a (bit / 512)).flip (bit / 8 % 64) (2 ^ (bit % 8))) (Row.set H2 (cbase a (bit / 512) + 129) (.int .i64 (max (C.ch a (bit / 512)).worst (((C.ch a (bit / 512)).turn (bit / 8 % 64) (2 ^ (bit % 8))).dmg : Nat)))) ha hk (by omega) (fun i hi => by
      rw [hd]
      exact Chunk.put_worst _ _ i hi)
    rw [Chip.setCh_setCh] at H3
    have k3 := k2.trans (Keep.set (w := w3) c (cbase a (bit / 512) + 129) (.int .i64 (max (C.ch a (bit / 512)).worst (((C.ch a (bit / 512)).turn (bit / 8 % 64) (2 ^ (bit % 8))).dmg : Nat))))
    generalize w3.setCell _ _ = w4 at *
    conv => whnf
    repeat ((first
      | refine HS.t ?_|refine Br.t ?_|refine Br.f ?_|refine Pk.f ?_|refine Pk.t ?_|refine Pk.and ?_|refine Pk.or ?_|refine Ix.n ?_|refine Ix.of _ (by rfl) (by omega) ?_|refine Ix.i ?_|refine Ar.la ?_|refine Ar.lb ?_|refine Ar.lc ?_|refine Dv.q ?_|refine Dv.r ?_|refine Br.y ?_|refine Br.n ?_|refine Br.ny ?_|refine Br.nn ?_|refine Br.is (by assumption) ?_|refine Br.isnt (by assumption) ?_|refine Ld.of (by assumption) ?_|refine Ru.neq_nil0 ?_|refine Ru.n1 ?_|refine Ru.eql_nil0 ?_|refine Ru.e1 ?_|refine Ru.e2 ?_|refine Ru.e3 ?_|refine Ru.n2 ?_|refine Ru.n3 ?_|refine Ru.neq_nil rfl ?_|refine Ru.eql_nil rfl ?_|refine Ru.eql_err rfl (by decide) ?_|refine Ru.neq_err rfl (by decide) ?_|refine Ru.be ?_|refine Ru.bn ?_|refine RuQ.be ?_|refine RuQ.bn ?_|refine CW.s ?_); conv => whnf)
    exact ⟨rfl, rfl, H3, k3⟩
theorem Chip.flip_wf {C : Chip} (hw : C.Wf) (a bit : Nat) : (C.flip a bit).Wf := by
  refine ⟨hw.b0, hw.b1, hw.bf, fun a' k' i => ?_, fun a' k' i => ?_⟩
  · unfold Chip.flip Chip.setCh
    simp only
    split
    · show (if i = _ then _ else _) < 256
      split
      · exact Nat.xor_lt_two_pow (n := 8) (hw.now _ _ _) (two_pow8 (Nat.mod_lt _ (by omega)))
      · exact hw.now _ _ _
    · exact hw.now _ _ _
  · unfold Chip.flip Chip.setCh
    simp only
    split
    · exact hw.truth _ _ _
    · exact hw.truth _ _ _
set_option maxHeartbeats 2000000 in
theorem ndamage_ok (w : World) (c a k : Nat) (C : Chip) (H : ChipAt w c C) (ha : a < 96) (hk : k < 4) : Spec Try.prog 13 #[.pointer (some ⟨c, 0, none⟩), .int .i64 a, .int .i64 k] w fun v w' => v = .tuple #[.int .i64 ((C.ch a k).dmg : Nat), .int .i64 (C.ch a k).worst, errOf 0] ∧ Keep [] w w' := by
  refine spec_of_wpE (T := tt) tt_ok Try.func13 rfl (by decide +kernel) Try.ntmps13 (by simp) ?_
  conv => whnf
  repeat ((first
    | refine HS.t ?_|refine Br.t ?_|refine Br.f ?_|refine Pk.f ?_|refine Pk.t ?_|refine Pk.and ?_|refine Pk.or ?_|refine Ix.n ?_|refine Ix.of _ (by rfl) (by omega) ?_|refine Ix.i ?_|refine Ar.la ?_|refine Ar.lb ?_|refine Ar.lc ?_|refine Dv.q ?_|refine Dv.r ?_|refine Br.y ?_|refine Br.n ?_|refine Br.ny ?_|refine Br.nn ?_|refine Br.is (by assumption) ?_|refine Br.isnt (by assumption) ?_|refine Ld.of (by assumption) ?_|refine Ru.neq_nil0 ?_|refine Ru.n1 ?_|refine Ru.eql_nil0 ?_|refine Ru.e1 ?_|refine Ru.e2 ?_|refine Ru.e3 ?_|refine Ru.n2 ?_|refine Ru.n3 ?_|refine Ru.neq_nil rfl ?_|refine Ru.eql_nil rfl ?_|refine Ru.eql_err rfl (by decide) ?_|refine Ru.neq_err rfl (by decide) ?_|refine Ru.be ?_|refine Ru.bn ?_|refine RuQ.be ?_|refine RuQ.bn ?_|refine CW.s ?_); conv => whnf)
  refine Ca.of (at_ok w c a k ha hk) ?_
  rintro _ _ ⟨rfl, rfl⟩
  conv => whnf
  repeat ((first
    | refine HS.t ?_|refine Br.t ?_|refine Br.f ?_|refine Pk.f ?_|refine Pk.t ?_|refine Pk.and ?_|refine Pk.or ?_|refine Ix.n ?_|refine Ix.of _ (by rfl) (by omega) ?_|refine Ix.i ?_|refine Ar.la ?_|refine Ar.lb ?_|refine Ar.lc ?_|refine Dv.q ?_|refine Dv.r ?_|refine Br.y ?_|refine Br.n ?_|refine Br.ny ?_|refine Br.nn ?_|refine Br.is (by assumption) ?_|refine Br.isnt (by assumption) ?_|refine Ld.of (by assumption) ?_|refine Ru.neq_nil0 ?_|refine Ru.n1 ?_|refine Ru.eql_nil0 ?_|refine Ru.e1 ?_|refine Ru.e2 ?_|refine Ru.e3 ?_|refine Ru.n2 ?_|refine Ru.n3 ?_|refine Ru.neq_nil rfl ?_|refine Ru.eql_nil rfl ?_|refine Ru.eql_err rfl (by decide) ?_|refine Ru.neq_err rfl (by decide) ?_|refine Ru.be ?_|refine Ru.bn ?_|refine RuQ.be ?_|refine RuQ.bn ?_|refine CW.s ?_); conv => whnf)
  refine CW.held (fun _ => True) [] (.take 0 (.take 2 (.take 3 (.take 4 (.two 1 (.take 6 (.one 5 (.take 7 (.take 8 (.done))))) 5 (.one 1 (.take 6 (.take 7 (.take 8 (.done)))))))))) tt_ok (by kernel_rfl) (by kernel_rfl) (by kernel_rfl) trivial ?_
  have H := H.drewN 1
  have k1 := (Keep.refl [] w).drewN 1
  generalize w.drewN 1 = w1 at *
  have dok := damage_ok w1 c a k C H ha hk
  conv => whnf
  repeat' ((first
    | (refine And.intro ?_ ?_)
    | (refine Ld.at (by omega) (H.worst ha hk) ?_)
    | (refine Ca.of dok ?_; rintro _ _ ⟨rfl, rfl⟩)
    | refine HS.t ?_|refine Br.t ?_|refine Br.f ?_|refine Pk.f ?_|refine Pk.t ?_|refine Pk.and ?_|refine Pk.or ?_|refine Ix.n ?_|refine Ix.of _ (by rfl) (by omega) ?_|refine Ix.i ?_|refine Ar.la ?_|refine Ar.lb ?_|refine Ar.lc ?_|refine Dv.q ?_|refine Dv.r ?_|refine Br.y ?_|refine Br.n ?_|refine Br.ny ?_|refine Br.nn ?_|refine Br.is (by assumption) ?_|refine Br.isnt (by assumption) ?_|refine Ld.of (by assumption) ?_|refine Ru.neq_nil0 ?_|refine Ru.n1 ?_|refine Ru.eql_nil0 ?_|refine Ru.e1 ?_|refine Ru.e2 ?_|refine Ru.e3 ?_|refine Ru.n2 ?_|refine Ru.n3 ?_|refine Ru.neq_nil rfl ?_|refine Ru.eql_nil rfl ?_|refine Ru.eql_err rfl (by decide) ?_|refine Ru.neq_err rfl (by decide) ?_|refine Ru.be ?_|refine Ru.bn ?_|refine RuQ.be ?_|refine RuQ.bn ?_|refine CW.s ?_|refine Br.d (fun _ => ?_) (fun _ => ?_)|refine Br.nd (fun _ => ?_) (fun _ => ?_)|refine Br.mk (fun _ => ?_) (fun _ => ?_)) <;> conv => whnf)
  all_goals first | exact k1 | rfl
/-- The power goes behind so many writes and erases. -/
def Chip.cutE (C : Chip) (n : Int) : Chip := if C.off then C else { C with cut := true, budget := n }
theorem cut_ok (w : World) (c n : Nat) (C : Chip) (H : ChipAt w c C) (hn : n ≤ 9223372036854775807) : Spec Try.prog 14 #[.pointer (some ⟨c, 0, none⟩), .int .i64 n] w fun v w' => v = errOf 0 ∧ ChipAt w' c (C.cutE n) ∧ Keep [c] w w' := by
  refine spec_of_wpE (T := tt) tt_ok Try.func14 rfl (by decide +kernel) Try.ntmps14 (by simp) ?_
  by_cases hoff : C.off = true
  · conv => whnf
    repeat ((first
      | (refine Ld.of H.off ?_)
      | (refine Br.isnt (by rw [hoff]; rfl) ?_)
      | refine HS.t ?_|refine Br.t ?_|refine Br.f ?_|refine Pk.f ?_|refine Pk.t ?_|refine Pk.and ?_|refine Pk.or ?_|refine Ix.n ?_|refine Ix.of _ (by rfl) (by omega) ?_|refine Ix.i ?_|refine Ar.la ?_|refine Ar.lb ?_|refine Ar.lc ?_|refine Dv.q ?_|refine Dv.r ?_|refine Br.y ?_|refine Br.n ?_|refine Br.ny ?_|refine Br.nn ?_|refine Br.is (by assumption) ?_|refine Br.isnt (by assumption) ?_|refine Ld.of (by assumption) ?_|refine Ru.neq_nil0 ?_|refine Ru.n1 ?_|refine Ru.eql_nil0 ?_|refine Ru.e1 ?_|refine Ru.e2 ?_|refine Ru.e3 ?_|refine Ru.n2 ?_|refine Ru.n3 ?_|refine Ru.neq_nil rfl ?_|refine Ru.eql_nil rfl ?_|refine Ru.eql_err rfl (by decide) ?_|refine Ru.neq_err rfl (by decide) ?_|refine Ru.be ?_|refine Ru.bn ?_|refine RuQ.be ?_|refine RuQ.bn ?_|refine CW.s ?_); conv => whnf)
    refine ⟨rfl, rfl, ?_, Keep.refl _ _⟩
    unfold Chip.cutE
    rw [if_pos hoff]
    exact H
  · conv => whnf
    repeat ((first
      | (refine Ld.of H.off ?_)
      | (refine Br.is (by simpa using hoff) ?_)
      | refine HS.t ?_|refine Br.t ?_|refine Br.f ?_|refine Pk.f ?_|refine Pk.t ?_|refine Pk.and ?_|refine Pk.or ?_|refine Ix.n ?_|refine Ix.of _ (by rfl) (by omega) ?_|refine Ix.i ?_|refine Ar.la ?_|refine Ar.lb ?_|refine Ar.lc ?_|refine Dv.q ?_|refine Dv.r ?_|refine Br.y ?_|refine Br.n ?_|refine Br.ny ?_|refine Br.nn ?_|refine Br.is (by assumption) ?_|refine Br.isnt (by assumption) ?_|refine Ld.of (by assumption) ?_|refine Ru.neq_nil0 ?_|refine Ru.n1 ?_|refine Ru.eql_nil0 ?_|refine Ru.e1 ?_|refine Ru.e2 ?_|refine Ru.e3 ?_|refine Ru.n2 ?_|refine Ru.n3 ?_|refine Ru.neq_nil rfl ?_|refine Ru.eql_nil rfl ?_|refine Ru.eql_err rfl (by decide) ?_|refine Ru.neq_err rfl (by decide) ?_|refine Ru.be ?_|refine Ru.bn ?_|refine RuQ.be ?_|refine RuQ.bn ?_|refine CW.s ?_); conv => whnf)
    refine Sd.cellAt H.cut (Row.free H _) rfl ?_
    intro k1
    have H1 := H.setCut true
    generalize w.setCell _ _ = w1 at *
    conv => whnf
    repeat ((first
      | refine HS.t ?_|refine Br.t ?_|refine Br.f ?_|refine Pk.f ?_|refine Pk.t ?_|refine Pk.and ?_|refine Pk.or ?_|refine Ix.n ?_|refine Ix.of _ (by rfl) (by omega) ?_|refine Ix.i ?_|refine Ar.la ?_|refine Ar.lb ?_|refine Ar.lc ?_|refine Dv.q ?_|refine Dv.r ?_|refine Br.y ?_|refine Br.n ?_|refine Br.ny ?_|refine Br.nn ?_|refine Br.is (by assumption) ?_|refine Br.isnt (by assumption) ?_|refine Ld.of (by assumption) ?_|refine Ru.neq_nil0 ?_|refine Ru.n1 ?_|refine Ru.eql_nil0 ?_|refine Ru.e1 ?_|refine Ru.e2 ?_|refine Ru.e3 ?_|refine Ru.n2 ?_|refine Ru.n3 ?_|refine Ru.neq_nil rfl ?_|refine Ru.eql_nil rfl ?_|refine Ru.eql_err rfl (by decide) ?_|refine Ru.neq_err rfl (by decide) ?_|refine Ru.be ?_|refine Ru.bn ?_|refine RuQ.be ?_|refine RuQ.bn ?_|refine CW.s ?_); conv => whnf)
    refine Sd.cellAt H1.budget (Row.free H1 _) rfl ?_
    intro k2
    have H2 := H1.setBudget n
    generalize w1.setCell _ _ = w2 at *
    conv => whnf
    repeat ((first
      | refine HS.t ?_|refine Br.t ?_|refine Br.f ?_|refine Pk.f ?_|refine Pk.t ?_|refine Pk.and ?_|refine Pk.or ?_|refine Ix.n ?_|refine Ix.of _ (by rfl) (by omega) ?_|refine Ix.i ?_|refine Ar.la ?_|refine Ar.lb ?_|refine Ar.lc ?_|refine Dv.q ?_|refine Dv.r ?_|refine Br.y ?_|refine Br.n ?_|refine Br.ny ?_|refine Br.nn ?_|refine Br.is (by assumption) ?_|refine Br.isnt (by assumption) ?_|refine Ld.of (by assumption) ?_|refine Ru.neq_nil0 ?_|refine Ru.n1 ?_|refine Ru.eql_nil0 ?_|refine Ru.e1 ?_|refine Ru.e2 ?_|refine Ru.e3 ?_|refine Ru.n2 ?_|refine Ru.n3 ?_|refine Ru.neq_nil rfl ?_|refine Ru.eql_nil rfl ?_|refine Ru.eql_err rfl (by decide) ?_|refine Ru.neq_err rfl (by decide) ?_|refine Ru.be ?_|refine Ru.bn ?_|refine RuQ.be ?_|refine RuQ.bn ?_|refine CW.s ?_); conv => whnf)
    refine ⟨rfl, rfl, ?_, k1.trans k2⟩
    unfold Chip.cutE
    rw [if_neg hoff]
    exact H2
def Chip.power (C : Chip) : Chip := { C with off := false, cut := false, budget := 0 }
theorem power_ok (w : World) (c : Nat) (C : Chip) (H : ChipAt w c C) : Spec Try.prog 15 #[.pointer (some ⟨c, 0, none⟩)] w fun v w' => v = .tuple #[] ∧ ChipAt w' c C.power ∧ Keep [c] w w' := by
  refine spec_of_wpE (T := tt) tt_ok Try.func15 rfl (by decide +kernel) Try.ntmps15 (by simp) ?_
  conv => whnf
  repeat ((first
    | refine HS.t ?_|refine Br.t ?_|refine Br.f ?_|refine Pk.f ?_|refine Pk.t ?_|refine Pk.and ?_|refine Pk.or ?_|refine Ix.n ?_|refine Ix.of _ (by rfl) (by omega) ?_|refine Ix.i ?_|refine Ar.la ?_|refine Ar.lb ?_|refine Ar.lc ?_|refine Dv.q ?_|refine Dv.r ?_|refine Br.y ?_|refine Br.n ?_|refine Br.ny ?_|refine Br.nn ?_|refine Br.is (by assumption) ?_|refine Br.isnt (by assumption) ?_|refine Ld.of (by assumption) ?_|refine Ru.neq_nil0 ?_|refine Ru.n1 ?_|refine Ru.eql_nil0 ?_|refine Ru.e1 ?_|refine Ru.e2 ?_|refine Ru.e3 ?_|refine Ru.n2 ?_|refine Ru.n3 ?_|refine Ru.neq_nil rfl ?_|refine Ru.eql_nil rfl ?_|refine Ru.eql_err rfl (by decide) ?_|refine Ru.neq_err rfl (by decide) ?_|refine Ru.be ?_|refine Ru.bn ?_|refine RuQ.be ?_|refine RuQ.bn ?_|refine CW.s ?_); conv => whnf)
  refine Sd.cellAt H.off (Row.free H _) rfl ?_
  intro k1
  have H1 := H.setOff false
  generalize w.setCell _ _ = w1 at *
  conv => whnf
  repeat ((first
    | refine HS.t ?_|refine Br.t ?_|refine Br.f ?_|refine Pk.f ?_|refine Pk.t ?_|refine Pk.and ?_|refine Pk.or ?_|refine Ix.n ?_|refine Ix.of _ (by rfl) (by omega) ?_|refine Ix.i ?_|refine Ar.la ?_|refine Ar.lb ?_|refine Ar.lc ?_|refine Dv.q ?_|refine Dv.r ?_|refine Br.y ?_|refine Br.n ?_|refine Br.ny ?_|refine Br.nn ?_|refine Br.is (by assumption) ?_|refine Br.isnt (by assumption) ?_|refine Ld.of (by assumption) ?_|refine Ru.neq_nil0 ?_|refine Ru.n1 ?_|refine Ru.eql_nil0 ?_|refine Ru.e1 ?_|refine Ru.e2 ?_|refine Ru.e3 ?_|refine Ru.n2 ?_|refine Ru.n3 ?_|refine Ru.neq_nil rfl ?_|refine Ru.eql_nil rfl ?_|refine Ru.eql_err rfl (by decide) ?_|refine Ru.neq_err rfl (by decide) ?_|refine Ru.be ?_|refine Ru.bn ?_|refine RuQ.be ?_|refine RuQ.bn ?_|refine CW.s ?_); conv => whnf)
  refine Sd.cellAt H1.cut (Row.free H1 _) rfl ?_
  intro k2
  have H2 := H1.setCut false
  generalize w1.setCell _ _ = w2 at *
  conv => whnf
  repeat ((first
    | refine HS.t ?_|refine Br.t ?_|refine Br.f ?_|refine Pk.f ?_|refine Pk.t ?_|refine Pk.and ?_|refine Pk.or ?_|refine Ix.n ?_|refine Ix.of _ (by rfl) (by omega) ?_|refine Ix.i ?_|refine Ar.la ?_|refine Ar.lb ?_|refine Ar.lc ?_|refine Dv.q ?_|refine Dv.r ?_|refine Br.y ?_|refine Br.n ?_|refine Br.ny ?_|refine Br.nn ?_|refine Br.is (by assumption) ?_|refine Br.isnt (by assumption) ?_|refine Ld.of (by assumption) ?_|refine Ru.neq_nil0 ?_|refine Ru.n1 ?_|refine Ru.eql_nil0 ?_|refine Ru.e1 ?_|refine Ru.e2 ?_|refine Ru.e3 ?_|refine Ru.n2 ?_|refine Ru.n3 ?_|refine Ru.neq_nil rfl ?_|refine Ru.eql_nil rfl ?_|refine Ru.eql_err rfl (by decide) ?_|refine Ru.neq_err rfl (by decide) ?_|refine Ru.be ?_|refine Ru.bn ?_|refine RuQ.be ?_|refine RuQ.bn ?_|refine CW.s ?_); conv => whnf)
  refine Sd.cellAt H2.budget (Row.free H2 _) rfl ?_
  intro k3
  have H3 := H2.setBudget 0
  generalize w2.setCell _ _ = w3 at *
  conv => whnf
  repeat ((first
    | refine HS.t ?_|refine Br.t ?_|refine Br.f ?_|refine Pk.f ?_|refine Pk.t ?_|refine Pk.and ?_|refine Pk.or ?_|refine Ix.n ?_|refine Ix.of _ (by rfl) (by omega) ?_|refine Ix.i ?_|refine Ar.la ?_|refine Ar.lb ?_|refine Ar.lc ?_|refine Dv.q ?_|refine Dv.r ?_|refine Br.y ?_|refine Br.n ?_|refine Br.ny ?_|refine Br.nn ?_|refine Br.is (by assumption) ?_|refine Br.isnt (by assumption) ?_|refine Ld.of (by assumption) ?_|refine Ru.neq_nil0 ?_|refine Ru.n1 ?_|refine Ru.eql_nil0 ?_|refine Ru.e1 ?_|refine Ru.e2 ?_|refine Ru.e3 ?_|refine Ru.n2 ?_|refine Ru.n3 ?_|refine Ru.neq_nil rfl ?_|refine Ru.eql_nil rfl ?_|refine Ru.eql_err rfl (by decide) ?_|refine Ru.neq_err rfl (by decide) ?_|refine Ru.be ?_|refine Ru.bn ?_|refine RuQ.be ?_|refine RuQ.bn ?_|refine CW.s ?_); conv => whnf)
  exact ⟨rfl, rfl, H3, (k1.trans k2).trans k3⟩
end Go.Proofs.Ytkpaafjnjmmehaa
/- Layer 2: syndromes, place. -/
namespace Go.Proofs.Ytkpaafjnjmmehaa
open Go.RowKit
set_option linter.unusedVariables false
set_option maxRecDepth 20000
attribute [local irreducible] GF.pw GF.lg GF.mul GF.inv GF.xt
theorem rsplace_ok (w : World) (k : Nat) (hk : k < 64) : Spec Try.prog 66 #[.int .i64 k] w fun v w' => v = .int .i64 ((63 - k : Nat) : Int) ∧ w = w' := by
  refine spec_of_wpE (T := tt) tt_ok Try.func66 rfl (by decide +kernel) Try.ntmps66 (by simp) ?_
  conv => whnf
  repeat ((first
    | refine HS.t ?_|refine Br.t ?_|refine Br.f ?_|refine Pk.f ?_|refine Pk.t ?_|refine Pk.and ?_|refine Pk.or ?_|refine Ix.n ?_|refine Ix.of _ (by rfl) (by omega) ?_|refine Ix.i ?_|refine Ar.la ?_|refine Ar.lb ?_|refine Ar.lc ?_|refine Dv.q ?_|refine Dv.r ?_|refine Br.y ?_|refine Br.n ?_|refine Br.ny ?_|refine Br.nn ?_|refine Br.is (by assumption) ?_|refine Br.isnt (by assumption) ?_|refine Ld.of (by assumption) ?_|refine Ru.neq_nil0 ?_|refine Ru.n1 ?_|refine Ru.eql_nil0 ?_|refine Ru.e1 ?_|refine Ru.e2 ?_|refine Ru.e3 ?_|refine Ru.n2 ?_|refine Ru.n3 ?_|refine Ru.neq_nil rfl ?_|refine Ru.eql_nil rfl ?_|refine Ru.eql_err rfl (by decide) ?_|refine Ru.neq_err rfl (by decide) ?_|refine Ru.be ?_|refine Ru.bn ?_|refine RuQ.be ?_|refine RuQ.bn ?_|refine CW.s ?_); conv => whnf)
  exact ⟨rfl, vi (by omega), rfl⟩
theorem size6 : (Try.prog.info? 117).map (·.size) = some 6 := by kernel_rfl
theorem alloc6 (w : World) : (Instr.alloc 117 true (.tuple #[])).run Try.prog w = .ok (.pointer (some ⟨w.heap.size, 0, none⟩)) (w.alloc (rowObj 6 (fun _ => .int .u8 0) 117)) := by kernel_rfl
def synF (p : Nat → Nat) : Nat → Value := fun j => .int .u8 (GF.syn p j : Nat)
def synTo (p : Nat → Nat) (j : Nat) : Nat → Value := fun i => if i < j then synF p i else .int .u8 0
theorem synTo_all (p : Nat → Nat) {i : Nat} (h : i < 6) : synTo p 6 i = synF p i := if_pos h
theorem synTo_put (p : Nat → Nat) (j s : Nat) : synTo p (j + 1) s = put (synTo p j) j (synF p j) s := by
  unfold put synTo
  by_cases e : s = j
  · rw [if_pos e, if_pos (by omega), e]
  · rw [if_neg e]
    by_cases e2 : s < j
    · rw [if_pos e2, if_pos (by omega)]
    · rw [if_neg e2, if_neg (by omega)]
theorem lay_all {f s : Nat → Value} {n i : Nat} (h : i < n) : lay f 0 n (fun j => s (0 + j)) (0 + i) = s i := by
  unfold lay
  rw [if_pos (by omega)]
  show s (0 + (0 + i - 0)) = s i
  rw [show 0 + (0 + i - 0) = i by omega]
set_option maxHeartbeats 2000000 in
theorem syn_ok (w : World) (c g h d : Nat) (A : Option Addr) (p : Nat → Nat) (hp : ∀ j, p j < 256) (r : RdB w A 64 p) (hA : ∀ a, A = some a → a.block ≠ g) (H : Cod w c g h) :
    Spec Try.prog 56 #[.pointer (some ⟨c, 0, none⟩), .slice A 64 d] w fun v w' => v = agg 6 (synF p) ∧ FK w g w' := by
  refine spec_of_wpE (T := tt) tt_ok Try.func56 rfl (by decide +kernel) Try.ntmps56 (by simp) ?_
  conv => whnf
  repeat ((first
    | refine HS.t ?_|refine Br.t ?_|refine Br.f ?_|refine Pk.f ?_|refine Pk.t ?_|refine Pk.and ?_|refine Pk.or ?_|refine Ix.n ?_|refine Ix.of _ (by rfl) (by omega) ?_|refine Ix.i ?_|refine Ar.la ?_|refine Ar.lb ?_|refine Ar.lc ?_|refine Dv.q ?_|refine Dv.r ?_|refine Br.y ?_|refine Br.n ?_|refine Br.ny ?_|refine Br.nn ?_|refine Br.is (by assumption) ?_|refine Br.isnt (by assumption) ?_|refine Ld.of (by assumption) ?_|refine Ru.neq_nil0 ?_|refine Ru.n1 ?_|refine Ru.eql_nil0 ?_|refine Ru.e1 ?_|refine Ru.e2 ?_|refine Ru.e3 ?_|refine Ru.n2 ?_|refine Ru.n3 ?_|refine Ru.neq_nil rfl ?_|refine Ru.eql_nil rfl ?_|refine Ru.eql_err rfl (by decide) ?_|refine Ru.neq_err rfl (by decide) ?_|refine Ru.be ?_|refine Ru.bn ?_|refine RuQ.be ?_|refine RuQ.bn ?_|refine CW.s ?_); conv => whnf)
  refine Ru.alloca (n := 6) (s := fun _ => .int .u8 0) (alloc6 _) ?_
  intro rg w1 hrg hs1 r1 k1
  conv => whnf
  repeat ((first
    | refine HS.t ?_|refine Br.t ?_|refine Br.f ?_|refine Pk.f ?_|refine Pk.t ?_|refine Pk.and ?_|refine Pk.or ?_|refine Ix.n ?_|refine Ix.of _ (by rfl) (by omega) ?_|refine Ix.i ?_|refine Ar.la ?_|refine Ar.lb ?_|refine Ar.lc ?_|refine Dv.q ?_|refine Dv.r ?_|refine Br.y ?_|refine Br.n ?_|refine Br.ny ?_|refine Br.nn ?_|refine Br.is (by assumption) ?_|refine Br.isnt (by assumption) ?_|refine Ld.of (by assumption) ?_|refine Ru.neq_nil0 ?_|refine Ru.n1 ?_|refine Ru.eql_nil0 ?_|refine Ru.e1 ?_|refine Ru.e2 ?_|refine Ru.e3 ?_|refine Ru.n2 ?_|refine Ru.n3 ?_|refine Ru.neq_nil rfl ?_|refine Ru.eql_nil rfl ?_|refine Ru.eql_err rfl (by decide) ?_|refine Ru.neq_err rfl (by decide) ?_|refine Ru.be ?_|refine Ru.bn ?_|refine RuQ.be ?_|refine RuQ.bn ?_|refine CW.s ?_); conv => whnf)
  refine Ru.alloca (n := 6) (s := fun _ => .int .u8 0) (alloc6 _) ?_
  intro sg w2 hsg hs2 r2 k2
  have k12 := k1.trans k2
  have fk2 : FK w g w2 := ⟨(H.fs.keep0 k1).keep0 k2, k12.mono (by simp)⟩
  have r12 := r1.keep k2 (by simp)
  have gl := H.fs.lt
  have cl := H.row.lt
  conv => whnf
  repeat ((first
    | refine HS.t ?_|refine Br.t ?_|refine Br.f ?_|refine Pk.f ?_|refine Pk.t ?_|refine Pk.and ?_|refine Pk.or ?_|refine Ix.n ?_|refine Ix.of _ (by rfl) (by omega) ?_|refine Ix.i ?_|refine Ar.la ?_|refine Ar.lb ?_|refine Ar.lc ?_|refine Dv.q ?_|refine Dv.r ?_|refine Br.y ?_|refine Br.n ?_|refine Br.ny ?_|refine Br.nn ?_|refine Br.is (by assumption) ?_|refine Br.isnt (by assumption) ?_|refine Ld.of (by assumption) ?_|refine Ru.neq_nil0 ?_|refine Ru.n1 ?_|refine Ru.eql_nil0 ?_|refine Ru.e1 ?_|refine Ru.e2 ?_|refine Ru.e3 ?_|refine Ru.n2 ?_|refine Ru.n3 ?_|refine Ru.neq_nil rfl ?_|refine Ru.eql_nil rfl ?_|refine Ru.eql_err rfl (by decide) ?_|refine Ru.neq_err rfl (by decide) ?_|refine Ru.be ?_|refine Ru.bn ?_|refine RuQ.be ?_|refine RuQ.bn ?_|refine CW.s ?_); conv => whnf)
  refine CW.loop (ι := Nat) (fun i w' => i ≤ 6 ∧ FK w g w' ∧ Row w' sg 117 6 (synTo p i) ∧ Row w' rg 117 6 (fun _ => .int .u8 0)) (fun i => [(0, .pointer (some ⟨c, 0, none⟩)), (1, .slice A 64 d), (4, .pointer (some ⟨rg, 0, none⟩)), (5, .pointer (some ⟨sg, 0, none⟩)), (7, .int .i64 i)]) (fun i => 6 - i) 0 tt_ok ⟨by simp, fk2, r2.congr (fun s _ => by simp [synTo]), r12⟩ ⟨rfl, rfl, rfl, rfl, rfl, trivial⟩ ?_
  rintro j wr ⟨hj, fk, rs, rz⟩
  by_cases hlt : j < 6
  · conv => whnf
    repeat ((first
      | refine HS.t ?_|refine Br.t ?_|refine Br.f ?_|refine Pk.f ?_|refine Pk.t ?_|refine Pk.and ?_|refine Pk.or ?_|refine Ix.n ?_|refine Ix.of _ (by rfl) (by omega) ?_|refine Ix.i ?_|refine Ar.la ?_|refine Ar.lb ?_|refine Ar.lc ?_|refine Dv.q ?_|refine Dv.r ?_|refine Br.y ?_|refine Br.n ?_|refine Br.ny ?_|refine Br.nn ?_|refine Br.is (by assumption) ?_|refine Br.isnt (by assumption) ?_|refine Ld.of (by assumption) ?_|refine Ru.neq_nil0 ?_|refine Ru.n1 ?_|refine Ru.eql_nil0 ?_|refine Ru.e1 ?_|refine Ru.e2 ?_|refine Ru.e3 ?_|refine Ru.n2 ?_|refine Ru.n3 ?_|refine Ru.neq_nil rfl ?_|refine Ru.eql_nil rfl ?_|refine Ru.eql_err rfl (by decide) ?_|refine Ru.neq_err rfl (by decide) ?_|refine Ru.be ?_|refine Ru.bn ?_|refine RuQ.be ?_|refine RuQ.bn ?_|refine CW.s ?_); conv => whnf)
    have Hr := H.of fk
    have rr := r.keep fk.kp (by simpa using hA)
    have rsl := rs.lt
    have rzl := rz.lt
    refine CW.held (fun w' => Row w' c 114 2 (codF g h)) [14] (.take 0 (.take 1 (.take 2 (.take 3 (.take 4 (.take 5 (.take 6 (.take 7 (.take 8 (.take 9 (.take 10 (.one 11 (.one 12 (.take 13 (.one 14 (.done)))))))))))))))) tt_ok (by kernel_rfl) (by kernel_rfl) (by kernel_rfl) ?_ ?_
    · exact Hr.row.drewN 1
    have fk : FK w g (wr.drewN 1) := ⟨fk.fs.drewN 1, fk.kp.drewN 1⟩
    have rs := rs.drewN 1
    have rz := rz.drewN 1
    have rr : RdB (wr.drewN 1) A 64 p := rr.keep0 ((Keep.refl _ _).drewN 1)
    have rc := Hr.row.drewN 1
    generalize wr.drewN 1 = w3 at *
    conv => whnf
    repeat ((first
      | (refine LdQ.row (fun _ h => h) (by decide) ?_)
      | refine HS.t ?_|refine Br.t ?_|refine Br.f ?_|refine Pk.f ?_|refine Pk.t ?_|refine Pk.and ?_|refine Pk.or ?_|refine Ix.n ?_|refine Ix.of _ (by rfl) (by omega) ?_|refine Ix.i ?_|refine Ar.la ?_|refine Ar.lb ?_|refine Ar.lc ?_|refine Dv.q ?_|refine Dv.r ?_|refine Br.y ?_|refine Br.n ?_|refine Br.ny ?_|refine Br.nn ?_|refine Br.is (by assumption) ?_|refine Br.isnt (by assumption) ?_|refine Ld.of (by assumption) ?_|refine Ru.neq_nil0 ?_|refine Ru.n1 ?_|refine Ru.eql_nil0 ?_|refine Ru.e1 ?_|refine Ru.e2 ?_|refine Ru.e3 ?_|refine Ru.n2 ?_|refine Ru.n3 ?_|refine Ru.neq_nil rfl ?_|refine Ru.eql_nil rfl ?_|refine Ru.eql_err rfl (by decide) ?_|refine Ru.neq_err rfl (by decide) ?_|refine Ru.be ?_|refine Ru.bn ?_|refine RuQ.be ?_|refine RuQ.bn ?_|refine CW.s ?_); conv => whnf)
    refine Ca.expn fk j (by omega) ?_
    intro w4 fk4 f4
    have rc := rc.keep f4.kp (by simpa using H.cg)
    conv => whnf
    repeat ((first
      | refine HS.t ?_|refine Br.t ?_|refine Br.f ?_|refine Pk.f ?_|refine Pk.t ?_|refine Pk.and ?_|refine Pk.or ?_|refine Ix.n ?_|refine Ix.of _ (by rfl) (by omega) ?_|refine Ix.i ?_|refine Ar.la ?_|refine Ar.lb ?_|refine Ar.lc ?_|refine Dv.q ?_|refine Dv.r ?_|refine Br.y ?_|refine Br.n ?_|refine Br.ny ?_|refine Br.nn ?_|refine Br.is (by assumption) ?_|refine Br.isnt (by assumption) ?_|refine Ld.of (by assumption) ?_|refine Ru.neq_nil0 ?_|refine Ru.n1 ?_|refine Ru.eql_nil0 ?_|refine Ru.e1 ?_|refine Ru.e2 ?_|refine Ru.e3 ?_|refine Ru.n2 ?_|refine Ru.n3 ?_|refine Ru.neq_nil rfl ?_|refine Ru.eql_nil rfl ?_|refine Ru.eql_err rfl (by decide) ?_|refine Ru.neq_err rfl (by decide) ?_|refine Ru.be ?_|refine Ru.bn ?_|refine RuQ.be ?_|refine RuQ.bn ?_|refine CW.s ?_); conv => whnf)
    refine ⟨rc, ?_⟩
    conv => whnf
    repeat ((first
      | refine HS.t ?_|refine Br.t ?_|refine Br.f ?_|refine Pk.f ?_|refine Pk.t ?_|refine Pk.and ?_|refine Pk.or ?_|refine Ix.n ?_|refine Ix.of _ (by rfl) (by omega) ?_|refine Ix.i ?_|refine Ar.la ?_|refine Ar.lb ?_|refine Ar.lc ?_|refine Dv.q ?_|refine Dv.r ?_|refine Br.y ?_|refine Br.n ?_|refine Br.ny ?_|refine Br.nn ?_|refine Br.is (by assumption) ?_|refine Br.isnt (by assumption) ?_|refine Ld.of (by assumption) ?_|refine Ru.neq_nil0 ?_|refine Ru.n1 ?_|refine Ru.eql_nil0 ?_|refine Ru.e1 ?_|refine Ru.e2 ?_|refine Ru.e3 ?_|refine Ru.n2 ?_|refine Ru.n3 ?_|refine Ru.neq_nil rfl ?_|refine Ru.eql_nil rfl ?_|refine Ru.eql_err rfl (by decide) ?_|refine Ru.neq_err rfl (by decide) ?_|refine Ru.be ?_|refine Ru.bn ?_|refine RuQ.be ?_|refine RuQ.bn ?_|refine CW.s ?_); conv => whnf)
    refine Ca.evalF (GF.pw_lt j) hp (rr.keep f4.kp (by simpa using hA)) (fun _ => hA) fk4 (by omega) ?_
    intro w5 fk5 k5
    have rc := rc.keep k5 (by simpa using H.cg)
    have rs := (rs.keep f4.kp (by simp; omega)).keep k5 (by simp; omega)
    have rz := (rz.keep f4.kp (by simp; omega)).keep k5 (by simp; omega)
    conv => whnf
    repeat ((first
      | refine HS.t ?_|refine Br.t ?_|refine Br.f ?_|refine Pk.f ?_|refine Pk.t ?_|refine Pk.and ?_|refine Pk.or ?_|refine Ix.n ?_|refine Ix.of _ (by rfl) (by omega) ?_|refine Ix.i ?_|refine Ar.la ?_|refine Ar.lb ?_|refine Ar.lc ?_|refine Dv.q ?_|refine Dv.r ?_|refine Br.y ?_|refine Br.n ?_|refine Br.ny ?_|refine Br.nn ?_|refine Br.is (by assumption) ?_|refine Br.isnt (by assumption) ?_|refine Ld.of (by assumption) ?_|refine Ru.neq_nil0 ?_|refine Ru.n1 ?_|refine Ru.eql_nil0 ?_|refine Ru.e1 ?_|refine Ru.e2 ?_|refine Ru.e3 ?_|refine Ru.n2 ?_|refine Ru.n3 ?_|refine Ru.neq_nil rfl ?_|refine Ru.eql_nil rfl ?_|refine Ru.eql_err rfl (by decide) ?_|refine Ru.neq_err rfl (by decide) ?_|refine Ru.be ?_|refine Ru.bn ?_|refine RuQ.be ?_|refine RuQ.bn ?_|refine CW.s ?_); conv => whnf)
    refine ⟨rc, ?_⟩
    conv => whnf
    repeat ((first
      | refine HS.t ?_|refine Br.t ?_|refine Br.f ?_|refine Pk.f ?_|refine Pk.t ?_|refine Pk.and ?_|refine Pk.or ?_|refine Ix.n ?_|refine Ix.of _ (by rfl) (by omega) ?_|refine Ix.i ?_|refine Ar.la ?_|refine Ar.lb ?_|refine Ar.lc ?_|refine Dv.q ?_|refine Dv.r ?_|refine Br.y ?_|refine Br.n ?_|refine Br.ny ?_|refine Br.nn ?_|refine Br.is (by assumption) ?_|refine Br.isnt (by assumption) ?_|refine Ld.of (by assumption) ?_|refine Ru.neq_nil0 ?_|refine Ru.n1 ?_|refine Ru.eql_nil0 ?_|refine Ru.e1 ?_|refine Ru.e2 ?_|refine Ru.e3 ?_|refine Ru.n2 ?_|refine Ru.n3 ?_|refine Ru.neq_nil rfl ?_|refine Ru.eql_nil rfl ?_|refine Ru.eql_err rfl (by decide) ?_|refine Ru.neq_err rfl (by decide) ?_|refine Ru.be ?_|refine Ru.bn ?_|refine RuQ.be ?_|refine RuQ.bn ?_|refine CW.s ?_); conv => whnf)
    refine Sd.rowAt rs j (by omega) (by omega) rfl ?_
    intro w6 rs k6
    conv => whnf
    repeat ((first
      | refine HS.t ?_|refine Br.t ?_|refine Br.f ?_|refine Pk.f ?_|refine Pk.t ?_|refine Pk.and ?_|refine Pk.or ?_|refine Ix.n ?_|refine Ix.of _ (by rfl) (by omega) ?_|refine Ix.i ?_|refine Ar.la ?_|refine Ar.lb ?_|refine Ar.lc ?_|refine Dv.q ?_|refine Dv.r ?_|refine Br.y ?_|refine Br.n ?_|refine Br.ny ?_|refine Br.nn ?_|refine Br.is (by assumption) ?_|refine Br.isnt (by assumption) ?_|refine Ld.of (by assumption) ?_|refine Ru.neq_nil0 ?_|refine Ru.n1 ?_|refine Ru.eql_nil0 ?_|refine Ru.e1 ?_|refine Ru.e2 ?_|refine Ru.e3 ?_|refine Ru.n2 ?_|refine Ru.n3 ?_|refine Ru.neq_nil rfl ?_|refine Ru.eql_nil rfl ?_|refine Ru.eql_err rfl (by decide) ?_|refine Ru.neq_err rfl (by decide) ?_|refine Ru.be ?_|refine Ru.bn ?_|refine RuQ.be ?_|refine RuQ.bn ?_|refine CW.s ?_); conv => whnf)
    refine ⟨j + 1, ⟨hlt, ⟨fk5.fs.keep k6 (by simp; omega), fk5.kp.then k6 (fun x hx => .inr (by rw [List.mem_singleton.1 hx]; omega))⟩, rs.congr (fun s hs => ?_), rz.keep k6 (by simp; omega)⟩, ⟨rfl, rfl, rfl, rfl, rfl, trivial⟩, by simp only; omega⟩
    exact (synTo_put p j s).symm
  · obtain rfl : j = 6 := by omega
    conv => whnf
    repeat ((first
      | refine HS.t ?_|refine Br.t ?_|refine Br.f ?_|refine Pk.f ?_|refine Pk.t ?_|refine Pk.and ?_|refine Pk.or ?_|refine Ix.n ?_|refine Ix.of _ (by rfl) (by omega) ?_|refine Ix.i ?_|refine Ar.la ?_|refine Ar.lb ?_|refine Ar.lc ?_|refine Dv.q ?_|refine Dv.r ?_|refine Br.y ?_|refine Br.n ?_|refine Br.ny ?_|refine Br.nn ?_|refine Br.is (by assumption) ?_|refine Br.isnt (by assumption) ?_|refine Ld.of (by assumption) ?_|refine Ru.neq_nil0 ?_|refine Ru.n1 ?_|refine Ru.eql_nil0 ?_|refine Ru.e1 ?_|refine Ru.e2 ?_|refine Ru.e3 ?_|refine Ru.n2 ?_|refine Ru.n3 ?_|refine Ru.neq_nil rfl ?_|refine Ru.eql_nil rfl ?_|refine Ru.eql_err rfl (by decide) ?_|refine Ru.neq_err rfl (by decide) ?_|refine Ru.be ?_|refine Ru.bn ?_|refine RuQ.be ?_|refine RuQ.bn ?_|refine CW.s ?_); conv => whnf)
    refine Ru.lda rs Try.underlying117 rfl size6 (by omega) ?_
    conv => whnf
    repeat ((first
      | refine HS.t ?_|refine Br.t ?_|refine Br.f ?_|refine Pk.f ?_|refine Pk.t ?_|refine Pk.and ?_|refine Pk.or ?_|refine Ix.n ?_|refine Ix.of _ (by rfl) (by omega) ?_|refine Ix.i ?_|refine Ar.la ?_|refine Ar.lb ?_|refine Ar.lc ?_|refine Dv.q ?_|refine Dv.r ?_|refine Br.y ?_|refine Br.n ?_|refine Br.ny ?_|refine Br.nn ?_|refine Br.is (by assumption) ?_|refine Br.isnt (by assumption) ?_|refine Ld.of (by assumption) ?_|refine Ru.neq_nil0 ?_|refine Ru.n1 ?_|refine Ru.eql_nil0 ?_|refine Ru.e1 ?_|refine Ru.e2 ?_|refine Ru.e3 ?_|refine Ru.n2 ?_|refine Ru.n3 ?_|refine Ru.neq_nil rfl ?_|refine Ru.eql_nil rfl ?_|refine Ru.eql_err rfl (by decide) ?_|refine Ru.neq_err rfl (by decide) ?_|refine Ru.be ?_|refine Ru.bn ?_|refine RuQ.be ?_|refine RuQ.bn ?_|refine CW.s ?_); conv => whnf)
    refine Ru.sta rz size6 (by omega) (fun i hi => by show (synTo p 6 (0 + i)).oneCell' = true; rw [synTo_all p (by omega)]; rfl) ?_
    intro w7 rz k7
    conv => whnf
    repeat ((first
      | refine HS.t ?_|refine Br.t ?_|refine Br.f ?_|refine Pk.f ?_|refine Pk.t ?_|refine Pk.and ?_|refine Pk.or ?_|refine Ix.n ?_|refine Ix.of _ (by rfl) (by omega) ?_|refine Ix.i ?_|refine Ar.la ?_|refine Ar.lb ?_|refine Ar.lc ?_|refine Dv.q ?_|refine Dv.r ?_|refine Br.y ?_|refine Br.n ?_|refine Br.ny ?_|refine Br.nn ?_|refine Br.is (by assumption) ?_|refine Br.isnt (by assumption) ?_|refine Ld.of (by assumption) ?_|refine Ru.neq_nil0 ?_|refine Ru.n1 ?_|refine Ru.eql_nil0 ?_|refine Ru.e1 ?_|refine Ru.e2 ?_|refine Ru.e3 ?_|refine Ru.n2 ?_|refine Ru.n3 ?_|refine Ru.neq_nil rfl ?_|refine Ru.eql_nil rfl ?_|refine Ru.eql_err rfl (by decide) ?_|refine Ru.neq_err rfl (by decide) ?_|refine Ru.be ?_|refine Ru.bn ?_|refine RuQ.be ?_|refine RuQ.bn ?_|refine CW.s ?_); conv => whnf)
    refine Ru.lda rz Try.underlying117 rfl size6 (by omega) ?_
    conv => whnf
    repeat ((first
      | refine HS.t ?_|refine Br.t ?_|refine Br.f ?_|refine Pk.f ?_|refine Pk.t ?_|refine Pk.and ?_|refine Pk.or ?_|refine Ix.n ?_|refine Ix.of _ (by rfl) (by omega) ?_|refine Ix.i ?_|refine Ar.la ?_|refine Ar.lb ?_|refine Ar.lc ?_|refine Dv.q ?_|refine Dv.r ?_|refine Br.y ?_|refine Br.n ?_|refine Br.ny ?_|refine Br.nn ?_|refine Br.is (by assumption) ?_|refine Br.isnt (by assumption) ?_|refine Ld.of (by assumption) ?_|refine Ru.neq_nil0 ?_|refine Ru.n1 ?_|refine Ru.eql_nil0 ?_|refine Ru.e1 ?_|refine Ru.e2 ?_|refine Ru.e3 ?_|refine Ru.n2 ?_|refine Ru.n3 ?_|refine Ru.neq_nil rfl ?_|refine Ru.eql_nil rfl ?_|refine Ru.eql_err rfl (by decide) ?_|refine Ru.neq_err rfl (by decide) ?_|refine Ru.be ?_|refine Ru.bn ?_|refine RuQ.be ?_|refine RuQ.bn ?_|refine CW.s ?_); conv => whnf)
    refine ⟨rfl, ?_, ⟨fk.fs.keep k7 (by simp; omega), fk.kp.then k7 (fun x hx => .inr (by rw [List.mem_singleton.1 hx]; omega))⟩⟩
    refine agg_congr (fun i hi => ?_)
    rw [lay_all hi, synTo_all p hi]
end Go.Proofs.Ytkpaafjnjmmehaa
/- Layer 2: one. -/
namespace Go.Proofs.Ytkpaafjnjmmehaa
open Go.RowKit
set_option linter.unusedVariables false
set_option maxRecDepth 20000
attribute [local irreducible] GF.pw GF.lg GF.mul GF.inv GF.xt
/-- The 64 bytes at the head of block b are W. -/
abbrev Wd (w : World) (b d : Nat) (W : Nat → Nat) : Prop := Ly w 5 1 (some ⟨b, 0, none⟩) 64 d (fun j => .int .u8 (W j : Nat))
theorem Wd.at {w : World} {b d : Nat} {W : Nat → Nat} (h : Wd w b d W) {j : Nat} (hj : j < 64) : w.cell? ⟨b, j, none⟩ = some (.int .u8 (W j : Nat)) ∧ w.frozen? ⟨b, j, none⟩ = false := by
  obtain ⟨g, e, h1, h2⟩ := h.at1 hj
  cases e
  exact ⟨h1, h2⟩
theorem Wd.keepS {S : List Nat} {w w' : World} {b d : Nat} {W : Nat → Nat} (h : Wd w b d W) (k : Keep S w w') (hb : b ∉ S) : Wd w' b d W := h.keep k (fun x hx => by rw [List.mem_singleton.1 hx]; exact hb)
theorem Wd.lt {w : World} {b d : Nat} {W : Nat → Nat} (h : Wd w b d W) : b < w.heap.size := Ly.lt h rfl
theorem Sd.wd {w : World} {b d i : Nat} {W : Nat → Nat} {x : Int} {K : World → Prop} (h : Wd w b d W) (j u : Nat) (e : i = j) (hj : j < 64) (hx : x = (u : Int)) (k : ∀ w', Wd w' b d (fun i => if i = j then u else W i) → Keep [b] w w' → K w') : Sd w ⟨b, i, none⟩ (.int .u8 x) K := by
  subst e
  subst hx
  obtain ⟨h1, h2⟩ := h.at hj
  refine ⟨⟨_, h1⟩, h2, rfl, k _ ?_ (Keep.set b i _)⟩
  refine (h.set rfl i (.int .u8 (u : Nat))).congr (fun j _ => ?_)
  unfold put
  by_cases e : j = i
  · simp only [if_pos e]
  · simp only [if_neg e]
def sF (s : Nat → Nat) : Nat → Value := fun j => .int .u8 (s j : Nat)
/-- What one leaves. -/
def OneEnd (w : World) (g b d : Nat) (W s : Nat → Nat) (v : Value) (w' : World) : Prop :=
  FS w' g ∧ Keep [g, b] w w' ∧ ((GF.OneOk s ∧ v = .int .i64 1 ∧ Wd w' b d (GF.fix W (63 - GF.lg (GF.oneX s)) (s 0))) ∨ (¬ GF.OneOk s ∧ v = .int .i64 0 ∧ Wd w' b d W))
theorem Ca.divZ {w0 w : World} {g : Nat} {K : Value → World → Prop} (h : FK w0 g w) (a b : Nat) (ha : a < 256) (hb : b < 256) (hb0 : b ≠ 0) (k : ∀ w', FK w0 g w' → FK w g w' → K (.tuple #[.int .u8 (GF.mul a (GF.inv b) : Nat), errOf 0]) w') : Ca Try.prog 64 #[.pointer (some ⟨g, 0, none⟩), .int .u8 a, .int .u8 b] w K := Ca.of (div_ok w g a b ha hb h.fs) fun v w' hp => by
  have e1 : divN a b = GF.mul a (GF.inv b) := if_neg hb0
  have e2 : zeroE b = 0 := if_neg hb0
  have h2 := hp.2.2
  have h3 := hp.2.1
  obtain ⟨rfl, hf⟩ := h.of hp
  rw [e1, e2]
  exact k w' hf ⟨h3, h2⟩
theorem Ca.mulK {w0 w : World} {g : Nat} {K : Value → World → Prop} (h : FK w0 g w) (a b : Nat) (ha : a < 256) (hb : b < 256) (k : ∀ w', FK w0 g w' → FK w g w' → K (.int .u8 (GF.mul a b : Nat)) w') : Ca Try.prog 55 #[.pointer (some ⟨g, 0, none⟩), .int .u8 a, .int .u8 b] w K := Ca.of (mul_ok w g a b ha hb h.fs) fun v w' hp => by
  have h2 := hp.2.2
  have h3 := hp.2.1
  obtain ⟨rfl, hf⟩ := h.of hp
  exact k w' hf ⟨h3, h2⟩
/-- How the world stands on the way: the codec, the sums, the word. -/
structure Ctx (w0 : World) (c g h sg b d : Nat) (s W : Nat → Nat) (w : World) : Prop where
  fk : FK w0 g w
  cod : Cod w c g h
  row : Row w sg 117 6 (sF s)
  wd : Wd w b d W
  sgne : sg ≠ g
  bne : b ≠ g
section
variable {w0 w w' : World} {c g h sg b d : Nat} {s W : Nat → Nat}
theorem Ctx.step (H : Ctx w0 c g h sg b d s W w) (f : FK w g w') : Ctx w0 c g h sg b d s W w' := ⟨⟨f.fs, H.fk.kp.trans f.kp⟩, H.cod.of f, H.row.keep f.kp (by simpa using H.sgne), H.wd.keepS f.kp (by simpa using H.bne), H.sgne, H.bne⟩
theorem Ctx.draw (H : Ctx w0 c g h sg b d s W w) : Ctx w0 c g h sg b d s W (w.drewN 1) := H.step ⟨H.fk.fs.drewN 1, (Keep.refl _ _).drewN 1⟩
theorem Ctx.rows (H : Ctx w0 c g h sg b d s W w) : Row w sg 117 6 (sF s) ∧ Row w c 114 2 (codF g h) := ⟨H.row, H.cod.row⟩
theorem Ca.cdiv {K : Value → World → Prop} (H : Ctx w0 c g h sg b d s W w) (x y : Nat) (hx : x < 256) (hy : y < 256) (hy0 : y ≠ 0) (k : ∀ w', Ctx w0 c g h sg b d s W w' → FK w g w' → K (.tuple #[.int .u8 (GF.mul x (GF.inv y) : Nat), errOf 0]) w') : Ca Try.prog 64 #[.pointer (some ⟨g, 0, none⟩), .int .u8 x, .int .u8 y] w K := Ca.divZ H.fk x y hx hy hy0 fun w' _ f => k w' (H.step f) f
theorem Ca.cdiv0 {K : Value → World → Prop} (H : Ctx w0 c g h sg b d s W w) (x y : Nat) (hx : x < 256) (hy0 : y = 0) (k : ∀ w', Ctx w0 c g h sg b d s W w' → FK w g w' → K (.tuple #[.int .u8 (0 : Nat), errOf 4]) w') : Ca Try.prog 64 #[.pointer (some ⟨g, 0, none⟩), .int .u8 x, .int .u8 y] w K := Ca.of (div_ok w g x y hx (by omega) H.fk.fs) fun v w' hp => by
  subst hy0
  obtain ⟨rfl, h1, h2⟩ := hp
  exact k w' (H.step ⟨h1, h2⟩) ⟨h1, h2⟩
theorem Ca.cmul {K : Value → World → Prop} (H : Ctx w0 c g h sg b d s W w) (x y : Nat) (hx : x < 256) (hy : y < 256) (k : ∀ w', Ctx w0 c g h sg b d s W w' → FK w g w' → K (.int .u8 (GF.mul x y : Nat)) w') : Ca Try.prog 55 #[.pointer (some ⟨g, 0, none⟩), .int .u8 x, .int .u8 y] w K := Ca.mulK H.fk x y hx hy fun w' _ f => k w' (H.step f) f
theorem Ca.cexp {K : Value → World → Prop} (H : Ctx w0 c g h sg b d s W w) (j : Nat) (hj : j < 255) (k : ∀ w', Ctx w0 c g h sg b d s W w' → FK w g w' → K (.int .u8 (GF.pw j : Nat)) w') : Ca Try.prog 52 #[.pointer (some ⟨g, 0, none⟩), .int .i64 j] w K := Ca.expn H.fk j hj fun w' _ f => k w' (H.step f) f
theorem Ca.clog {K : Value → World → Prop} (H : Ctx w0 c g h sg b d s W w) (x : Nat) (hx : x < 256) (hx0 : x ≠ 0) (k : ∀ w', Ctx w0 c g h sg b d s W w' → FK w g w' → K (.tuple #[.int .i64 (GF.lg x : Nat), errOf 0]) w') : Ca Try.prog 65 #[.pointer (some ⟨g, 0, none⟩), .int .u8 x] w K := Ca.of (log_ok w g x hx H.fk.fs) fun v w' hp => by
  obtain ⟨rfl, h1, h2⟩ := hp
  have e1 : lgN x = GF.lg x := if_neg hx0
  have e2 : zeroE x = 0 := if_neg hx0
  rw [e1, e2]
  exact k w' (H.step ⟨h1, h2⟩) ⟨h1, h2⟩
end
set_option maxHeartbeats 4000000 in
theorem one_ok (w : World) (c g h b d : Nat) (W s : Nat → Nat) (hW : ∀ j, W j < 256) (hs : ∀ j, s j < 256) (r : Wd w b d W) (hb : b ≠ g) (H : Cod w c g h) (hbc : b ≠ c) :
    Spec Try.prog 57 #[.pointer (some ⟨c, 0, none⟩), .slice (some ⟨b, 0, none⟩) 64 d, agg 6 (sF s)] w (OneEnd w g b d W s) := by
  refine spec_of_wpE (T := tt) tt_ok Try.func57 rfl (by decide +kernel) Try.ntmps57 (by simp) ?_
  conv => whnf
  repeat ((first
    | refine HS.t ?_|refine Br.t ?_|refine Br.f ?_|refine Pk.f ?_|refine Pk.t ?_|refine Pk.and ?_|refine Pk.or ?_|refine Ix.n ?_|refine Ix.of _ (by rfl) (by omega) ?_|refine Ix.i ?_|refine Ar.la ?_|refine Ar.lb ?_|refine Ar.lc ?_|refine Dv.q ?_|refine Dv.r ?_|refine Br.y ?_|refine Br.n ?_|refine Br.ny ?_|refine Br.nn ?_|refine Br.is (by assumption) ?_|refine Br.isnt (by assumption) ?_|refine Ld.of (by assumption) ?_|refine Ru.neq_nil0 ?_|refine Ru.n1 ?_|refine Ru.eql_nil0 ?_|refine Ru.e1 ?_|refine Ru.e2 ?_|refine Ru.e3 ?_|refine Ru.n2 ?_|refine Ru.n3 ?_|refine Ru.neq_nil rfl ?_|refine Ru.eql_nil rfl ?_|refine Ru.eql_err rfl (by decide) ?_|refine Ru.neq_err rfl (by decide) ?_|refine Ru.be ?_|refine Ru.bn ?_|refine RuQ.be ?_|refine RuQ.bn ?_|refine CW.s ?_); conv => whnf)
  refine Ru.boxa ?_
  intro sg w1 hsg hs1 rs k1
  have gl := H.fs.lt
  have cl := H.row.lt
  have bl := r.lt
  have C1 : Ctx w c g h sg b d s W w1 := ⟨⟨H.fs.keep0 k1, k1.mono (by simp)⟩, H.keep0 k1 (by simp) (by simp) (by simp), rs, r.keepS k1 (by simp), by omega, hb⟩
  have kk : ∀ {w'}, Keep [g] w w' → Keep [g, b] w w' := fun k => k.mono (by simp)
  have l0 : w1.cell? ⟨sg, 0, none⟩ = some (.int .u8 (s 0 : Nat)) := rs.cell 0 (by omega)
  have l1 : w1.cell? ⟨sg, 1, none⟩ = some (.int .u8 (s 1 : Nat)) := rs.cell 1 (by omega)
  by_cases h0 : s 0 = 0
  · conv => whnf
    repeat ((first
      | refine HS.t ?_|refine Br.t ?_|refine Br.f ?_|refine Pk.f ?_|refine Pk.t ?_|refine Pk.and ?_|refine Pk.or ?_|refine Ix.n ?_|refine Ix.of _ (by rfl) (by omega) ?_|refine Ix.i ?_|refine Ar.la ?_|refine Ar.lb ?_|refine Ar.lc ?_|refine Dv.q ?_|refine Dv.r ?_|refine Br.y ?_|refine Br.n ?_|refine Br.ny ?_|refine Br.nn ?_|refine Br.is (by assumption) ?_|refine Br.isnt (by assumption) ?_|refine Ld.of (by assumption) ?_|refine Ru.neq_nil0 ?_|refine Ru.n1 ?_|refine Ru.eql_nil0 ?_|refine Ru.e1 ?_|refine Ru.e2 ?_|refine Ru.e3 ?_|refine Ru.n2 ?_|refine Ru.n3 ?_|refine Ru.neq_nil rfl ?_|refine Ru.eql_nil rfl ?_|refine Ru.eql_err rfl (by decide) ?_|refine Ru.neq_err rfl (by decide) ?_|refine Ru.be ?_|refine Ru.bn ?_|refine RuQ.be ?_|refine RuQ.bn ?_|refine CW.s ?_); conv => whnf)
    exact ⟨rfl, C1.fk.fs, kk C1.fk.kp, .inr ⟨fun o => o.z0 h0, rfl, C1.wd⟩⟩
  by_cases h1 : s 1 = 0
  · conv => whnf
    repeat ((first
      | refine HS.t ?_|refine Br.t ?_|refine Br.f ?_|refine Pk.f ?_|refine Pk.t ?_|refine Pk.and ?_|refine Pk.or ?_|refine Ix.n ?_|refine Ix.of _ (by rfl) (by omega) ?_|refine Ix.i ?_|refine Ar.la ?_|refine Ar.lb ?_|refine Ar.lc ?_|refine Dv.q ?_|refine Dv.r ?_|refine Br.y ?_|refine Br.n ?_|refine Br.ny ?_|refine Br.nn ?_|refine Br.is (by assumption) ?_|refine Br.isnt (by assumption) ?_|refine Ld.of (by assumption) ?_|refine Ru.neq_nil0 ?_|refine Ru.n1 ?_|refine Ru.eql_nil0 ?_|refine Ru.e1 ?_|refine Ru.e2 ?_|refine Ru.e3 ?_|refine Ru.n2 ?_|refine Ru.n3 ?_|refine Ru.neq_nil rfl ?_|refine Ru.eql_nil rfl ?_|refine Ru.eql_err rfl (by decide) ?_|refine Ru.neq_err rfl (by decide) ?_|refine Ru.be ?_|refine Ru.bn ?_|refine RuQ.be ?_|refine RuQ.bn ?_|refine CW.s ?_); conv => whnf)
    exact ⟨rfl, C1.fk.fs, kk C1.fk.kp, .inr ⟨fun o => o.z1 h1, rfl, C1.wd⟩⟩
  conv => whnf
  repeat ((first
    | refine HS.t ?_|refine Br.t ?_|refine Br.f ?_|refine Pk.f ?_|refine Pk.t ?_|refine Pk.and ?_|refine Pk.or ?_|refine Ix.n ?_|refine Ix.of _ (by rfl) (by omega) ?_|refine Ix.i ?_|refine Ar.la ?_|refine Ar.lb ?_|refine Ar.lc ?_|refine Dv.q ?_|refine Dv.r ?_|refine Br.y ?_|refine Br.n ?_|refine Br.ny ?_|refine Br.nn ?_|refine Br.is (by assumption) ?_|refine Br.isnt (by assumption) ?_|refine Ld.of (by assumption) ?_|refine Ru.neq_nil0 ?_|refine Ru.n1 ?_|refine Ru.eql_nil0 ?_|refine Ru.e1 ?_|refine Ru.e2 ?_|refine Ru.e3 ?_|refine Ru.n2 ?_|refine Ru.n3 ?_|refine Ru.neq_nil rfl ?_|refine Ru.eql_nil rfl ?_|refine Ru.eql_err rfl (by decide) ?_|refine Ru.neq_err rfl (by decide) ?_|refine Ru.be ?_|refine Ru.bn ?_|refine RuQ.be ?_|refine RuQ.bn ?_|refine CW.s ?_); conv => whnf)
  refine CW.held (fun w' => Row w' sg 117 6 (sF s) ∧ Row w' c 114 2 (codF g h)) [] (.take 0 (.take 1 (.take 2 (.take 3 (.take 4 (.take 5 (.take 6 (.take 7 (.one 8 (.take 9 (.take 10 (.take 11 (.take 12 (.take 13 (.done))))))))))))))) tt_ok (by kernel_rfl) (by kernel_rfl) (by kernel_rfl) ?_ ?_
  · exact C1.draw.rows
  have C2 := C1.draw
  clear C1 l0 l1
  generalize w1.drewN 1 = w2 at *
  have hx : GF.mul (s 1) (GF.inv (s 0)) = GF.oneX s := rfl
  have hx0 : GF.oneX s ≠ 0 := GF.mul_ne0 (hs 1) (GF.inv_lt _) h1 (GF.inv_ne0 _)
  have hxl := GF.oneX_lt hs
  conv => whnf
  repeat ((first
    | (refine LdQ.row (fun _ h => h.1) (by decide) ?_)
    | (refine LdQ.row (fun _ h => h.2) (by decide) ?_)
    | (refine Ca.cdiv C2 (s 1) (s 0) (hs 1) (hs 0) h0 ?_)
    | refine HS.t ?_|refine Br.t ?_|refine Br.f ?_|refine Pk.f ?_|refine Pk.t ?_|refine Pk.and ?_|refine Pk.or ?_|refine Ix.n ?_|refine Ix.of _ (by rfl) (by omega) ?_|refine Ix.i ?_|refine Ar.la ?_|refine Ar.lb ?_|refine Ar.lc ?_|refine Dv.q ?_|refine Dv.r ?_|refine Br.y ?_|refine Br.n ?_|refine Br.ny ?_|refine Br.nn ?_|refine Br.is (by assumption) ?_|refine Br.isnt (by assumption) ?_|refine Ld.of (by assumption) ?_|refine Ru.neq_nil0 ?_|refine Ru.n1 ?_|refine Ru.eql_nil0 ?_|refine Ru.e1 ?_|refine Ru.e2 ?_|refine Ru.e3 ?_|refine Ru.n2 ?_|refine Ru.n3 ?_|refine Ru.neq_nil rfl ?_|refine Ru.eql_nil rfl ?_|refine Ru.eql_err rfl (by decide) ?_|refine Ru.neq_err rfl (by decide) ?_|refine Ru.be ?_|refine Ru.bn ?_|refine RuQ.be ?_|refine RuQ.bn ?_|refine CW.s ?_); conv => whnf)
  intro w3 C3 _
  rw [hx]
  conv => whnf
  repeat ((first
    | refine HS.t ?_|refine Br.t ?_|refine Br.f ?_|refine Pk.f ?_|refine Pk.t ?_|refine Pk.and ?_|refine Pk.or ?_|refine Ix.n ?_|refine Ix.of _ (by rfl) (by omega) ?_|refine Ix.i ?_|refine Ar.la ?_|refine Ar.lb ?_|refine Ar.lc ?_|refine Dv.q ?_|refine Dv.r ?_|refine Br.y ?_|refine Br.n ?_|refine Br.ny ?_|refine Br.nn ?_|refine Br.is (by assumption) ?_|refine Br.isnt (by assumption) ?_|refine Ld.of (by assumption) ?_|refine Ru.neq_nil0 ?_|refine Ru.n1 ?_|refine Ru.eql_nil0 ?_|refine Ru.e1 ?_|refine Ru.e2 ?_|refine Ru.e3 ?_|refine Ru.n2 ?_|refine Ru.n3 ?_|refine Ru.neq_nil rfl ?_|refine Ru.eql_nil rfl ?_|refine Ru.eql_err rfl (by decide) ?_|refine Ru.neq_err rfl (by decide) ?_|refine Ru.be ?_|refine Ru.bn ?_|refine RuQ.be ?_|refine RuQ.bn ?_|refine CW.s ?_); conv => whnf)
  refine ⟨C3.rows, ?_⟩
  conv => whnf
  repeat ((first
    | refine HS.t ?_|refine Br.t ?_|refine Br.f ?_|refine Pk.f ?_|refine Pk.t ?_|refine Pk.and ?_|refine Pk.or ?_|refine Ix.n ?_|refine Ix.of _ (by rfl) (by omega) ?_|refine Ix.i ?_|refine Ar.la ?_|refine Ar.lb ?_|refine Ar.lc ?_|refine Dv.q ?_|refine Dv.r ?_|refine Br.y ?_|refine Br.n ?_|refine Br.ny ?_|refine Br.nn ?_|refine Br.is (by assumption) ?_|refine Br.isnt (by assumption) ?_|refine Ld.of (by assumption) ?_|refine Ru.neq_nil0 ?_|refine Ru.n1 ?_|refine Ru.eql_nil0 ?_|refine Ru.e1 ?_|refine Ru.e2 ?_|refine Ru.e3 ?_|refine Ru.n2 ?_|refine Ru.n3 ?_|refine Ru.neq_nil rfl ?_|refine Ru.eql_nil rfl ?_|refine Ru.eql_err rfl (by decide) ?_|refine Ru.neq_err rfl (by decide) ?_|refine Ru.be ?_|refine Ru.bn ?_|refine RuQ.be ?_|refine RuQ.bn ?_|refine CW.s ?_); conv => whnf)
  refine CW.loop (ι := Nat) (fun j w' => 1 ≤ j ∧ j ≤ 6 ∧ Ctx w c g h sg b d s W w' ∧ ∀ i, 1 ≤ i → i < j → GF.mul (s (i - 1)) (GF.oneX s) = s i) (fun j => [(0, .pointer (some ⟨c, 0, none⟩)), (1, .slice (some ⟨b, 0, none⟩) 64 d), (5, .pointer (some ⟨sg, 0, none⟩)), (7, .int .u8 (GF.oneX s : Nat)), (9, .int .i64 j)]) (fun j => 6 - j) 1 tt_ok ⟨by omega, by omega, C3, fun i h1 h2 => by omega⟩ ⟨rfl, rfl, rfl, rfl, rfl, trivial⟩ ?_
  rintro j wr ⟨hj1, hj, C, hall⟩
  have hsj := hs (j - 1)
  by_cases hlt : j < 6
  · conv => whnf
    repeat ((first
      | refine HS.t ?_|refine Br.t ?_|refine Br.f ?_|refine Pk.f ?_|refine Pk.t ?_|refine Pk.and ?_|refine Pk.or ?_|refine Ix.n ?_|refine Ix.of _ (by rfl) (by omega) ?_|refine Ix.i ?_|refine Ar.la ?_|refine Ar.lb ?_|refine Ar.lc ?_|refine Dv.q ?_|refine Dv.r ?_|refine Br.y ?_|refine Br.n ?_|refine Br.ny ?_|refine Br.nn ?_|refine Br.is (by assumption) ?_|refine Br.isnt (by assumption) ?_|refine Ld.of (by assumption) ?_|refine Ru.neq_nil0 ?_|refine Ru.n1 ?_|refine Ru.eql_nil0 ?_|refine Ru.e1 ?_|refine Ru.e2 ?_|refine Ru.e3 ?_|refine Ru.n2 ?_|refine Ru.n3 ?_|refine Ru.neq_nil rfl ?_|refine Ru.eql_nil rfl ?_|refine Ru.eql_err rfl (by decide) ?_|refine Ru.neq_err rfl (by decide) ?_|refine Ru.be ?_|refine Ru.bn ?_|refine RuQ.be ?_|refine RuQ.bn ?_|refine CW.s ?_); conv => whnf)
    refine CW.held (fun w' => Row w' sg 117 6 (sF s) ∧ Row w' c 114 2 (codF g h)) [] (.take 0 (.take 1 (.take 2 (.take 3 (.take 4 (.take 5 (.take 6 (.take 7 (.take 8 (.take 10 (.take 11 (.take 12 (.one 9 (.take 13 (.done))))))))))))))) tt_ok (by kernel_rfl) (by kernel_rfl) (by kernel_rfl) ?_ ?_
    · exact C.draw.rows
    have C := C.draw
    generalize wr.drewN 1 = w4 at *
    conv => whnf
    repeat ((first
      | (refine LdQ.at (j := j) (by omega) (fun _ h => h.1.cell j (by omega)) ?_)
      | (refine LdQ.at (j := j - 1) (by omega) (fun _ h => h.1.cell (j - 1) (by omega)) ?_)
      | (refine LdQ.row (fun _ h => h.2) (by decide) ?_)
      | (refine Ca.cmul C (s (j - 1)) (GF.oneX s) hsj hxl ?_)
      | refine HS.t ?_|refine Br.t ?_|refine Br.f ?_|refine Pk.f ?_|refine Pk.t ?_|refine Pk.and ?_|refine Pk.or ?_|refine Ix.n ?_|refine Ix.of _ (by rfl) (by omega) ?_|refine Ix.i ?_|refine Ar.la ?_|refine Ar.lb ?_|refine Ar.lc ?_|refine Dv.q ?_|refine Dv.r ?_|refine Br.y ?_|refine Br.n ?_|refine Br.ny ?_|refine Br.nn ?_|refine Br.is (by assumption) ?_|refine Br.isnt (by assumption) ?_|refine Ld.of (by assumption) ?_|refine Ru.neq_nil0 ?_|refine Ru.n1 ?_|refine Ru.eql_nil0 ?_|refine Ru.e1 ?_|refine Ru.e2 ?_|refine Ru.e3 ?_|refine Ru.n2 ?_|refine Ru.n3 ?_|refine Ru.neq_nil rfl ?_|refine Ru.eql_nil rfl ?_|refine Ru.eql_err rfl (by decide) ?_|refine Ru.neq_err rfl (by decide) ?_|refine Ru.be ?_|refine Ru.bn ?_|refine RuQ.be ?_|refine RuQ.bn ?_|refine CW.s ?_); conv => whnf)
    intro w5 C5 _
    conv => whnf
    repeat ((first
      | refine HS.t ?_|refine Br.t ?_|refine Br.f ?_|refine Pk.f ?_|refine Pk.t ?_|refine Pk.and ?_|refine Pk.or ?_|refine Ix.n ?_|refine Ix.of _ (by rfl) (by omega) ?_|refine Ix.i ?_|refine Ar.la ?_|refine Ar.lb ?_|refine Ar.lc ?_|refine Dv.q ?_|refine Dv.r ?_|refine Br.y ?_|refine Br.n ?_|refine Br.ny ?_|refine Br.nn ?_|refine Br.is (by assumption) ?_|refine Br.isnt (by assumption) ?_|refine Ld.of (by assumption) ?_|refine Ru.neq_nil0 ?_|refine Ru.n1 ?_|refine Ru.eql_nil0 ?_|refine Ru.e1 ?_|refine Ru.e2 ?_|refine Ru.e3 ?_|refine Ru.n2 ?_|refine Ru.n3 ?_|refine Ru.neq_nil rfl ?_|refine Ru.eql_nil rfl ?_|refine Ru.eql_err rfl (by decide) ?_|refine Ru.neq_err rfl (by decide) ?_|refine Ru.be ?_|refine Ru.bn ?_|refine RuQ.be ?_|refine RuQ.bn ?_|refine CW.s ?_); conv => whnf)
    refine ⟨C5.rows, ?_⟩
    by_cases he : GF.mul (s (j - 1)) (GF.oneX s) = s j
    · conv => whnf
      repeat ((first
        | refine HS.t ?_|refine Br.t ?_|refine Br.f ?_|refine Pk.f ?_|refine Pk.t ?_|refine Pk.and ?_|refine Pk.or ?_|refine Ix.n ?_|refine Ix.of _ (by rfl) (by omega) ?_|refine Ix.i ?_|refine Ar.la ?_|refine Ar.lb ?_|refine Ar.lc ?_|refine Dv.q ?_|refine Dv.r ?_|refine Br.y ?_|refine Br.n ?_|refine Br.ny ?_|refine Br.nn ?_|refine Br.is (by assumption) ?_|refine Br.isnt (by assumption) ?_|refine Ld.of (by assumption) ?_|refine Ru.neq_nil0 ?_|refine Ru.n1 ?_|refine Ru.eql_nil0 ?_|refine Ru.e1 ?_|refine Ru.e2 ?_|refine Ru.e3 ?_|refine Ru.n2 ?_|refine Ru.n3 ?_|refine Ru.neq_nil rfl ?_|refine Ru.eql_nil rfl ?_|refine Ru.eql_err rfl (by decide) ?_|refine Ru.neq_err rfl (by decide) ?_|refine Ru.be ?_|refine Ru.bn ?_|refine RuQ.be ?_|refine RuQ.bn ?_|refine CW.s ?_); conv => whnf)
      exact ⟨j + 1, ⟨by omega, by omega, C5, fun i h1 h2 => by
        by_cases e : i = j
        · rw [e]; exact he
        · exact hall i h1 (by omega)⟩, ⟨rfl, rfl, rfl, rfl, rfl, trivial⟩, by simp only; omega⟩
    · conv => whnf
      repeat ((first
        | refine HS.t ?_|refine Br.t ?_|refine Br.f ?_|refine Pk.f ?_|refine Pk.t ?_|refine Pk.and ?_|refine Pk.or ?_|refine Ix.n ?_|refine Ix.of _ (by rfl) (by omega) ?_|refine Ix.i ?_|refine Ar.la ?_|refine Ar.lb ?_|refine Ar.lc ?_|refine Dv.q ?_|refine Dv.r ?_|refine Br.y ?_|refine Br.n ?_|refine Br.ny ?_|refine Br.nn ?_|refine Br.is (by assumption) ?_|refine Br.isnt (by assumption) ?_|refine Ld.of (by assumption) ?_|refine Ru.neq_nil0 ?_|refine Ru.n1 ?_|refine Ru.eql_nil0 ?_|refine Ru.e1 ?_|refine Ru.e2 ?_|refine Ru.e3 ?_|refine Ru.n2 ?_|refine Ru.n3 ?_|refine Ru.neq_nil rfl ?_|refine Ru.eql_nil rfl ?_|refine Ru.eql_err rfl (by decide) ?_|refine Ru.neq_err rfl (by decide) ?_|refine Ru.be ?_|refine Ru.bn ?_|refine RuQ.be ?_|refine RuQ.bn ?_|refine CW.s ?_); conv => whnf)
      exact ⟨rfl, C5.fk.fs, kk C5.fk.kp, .inr ⟨fun o => he (o.all j hj1 hlt), rfl, C5.wd⟩⟩
  · obtain rfl : j = 6 := by omega
    have hlg := (GF.lg_spec _ hxl hx0).1
    conv => whnf
    repeat ((first
      | (refine Ld.row C.cod.row (by decide) ?_)
      | (refine Ca.clog C (GF.oneX s) hxl hx0 ?_)
      | refine HS.t ?_|refine Br.t ?_|refine Br.f ?_|refine Pk.f ?_|refine Pk.t ?_|refine Pk.and ?_|refine Pk.or ?_|refine Ix.n ?_|refine Ix.of _ (by rfl) (by omega) ?_|refine Ix.i ?_|refine Ar.la ?_|refine Ar.lb ?_|refine Ar.lc ?_|refine Dv.q ?_|refine Dv.r ?_|refine Br.y ?_|refine Br.n ?_|refine Br.ny ?_|refine Br.nn ?_|refine Br.is (by assumption) ?_|refine Br.isnt (by assumption) ?_|refine Ld.of (by assumption) ?_|refine Ru.neq_nil0 ?_|refine Ru.n1 ?_|refine Ru.eql_nil0 ?_|refine Ru.e1 ?_|refine Ru.e2 ?_|refine Ru.e3 ?_|refine Ru.n2 ?_|refine Ru.n3 ?_|refine Ru.neq_nil rfl ?_|refine Ru.eql_nil rfl ?_|refine Ru.eql_err rfl (by decide) ?_|refine Ru.neq_err rfl (by decide) ?_|refine Ru.be ?_|refine Ru.bn ?_|refine RuQ.be ?_|refine RuQ.bn ?_|refine CW.s ?_); conv => whnf)
    intro w5 C5 _
    generalize hk : GF.lg (GF.oneX s) = k at *
    by_cases hk64 : 64 ≤ k
    · conv => whnf
      repeat ((first
        | refine HS.t ?_|refine Br.t ?_|refine Br.f ?_|refine Pk.f ?_|refine Pk.t ?_|refine Pk.and ?_|refine Pk.or ?_|refine Ix.n ?_|refine Ix.of _ (by rfl) (by omega) ?_|refine Ix.i ?_|refine Ar.la ?_|refine Ar.lb ?_|refine Ar.lc ?_|refine Dv.q ?_|refine Dv.r ?_|refine Br.y ?_|refine Br.n ?_|refine Br.ny ?_|refine Br.nn ?_|refine Br.is (by assumption) ?_|refine Br.isnt (by assumption) ?_|refine Ld.of (by assumption) ?_|refine Ru.neq_nil0 ?_|refine Ru.n1 ?_|refine Ru.eql_nil0 ?_|refine Ru.e1 ?_|refine Ru.e2 ?_|refine Ru.e3 ?_|refine Ru.n2 ?_|refine Ru.n3 ?_|refine Ru.neq_nil rfl ?_|refine Ru.eql_nil rfl ?_|refine Ru.eql_err rfl (by decide) ?_|refine Ru.neq_err rfl (by decide) ?_|refine Ru.be ?_|refine Ru.bn ?_|refine RuQ.be ?_|refine RuQ.bn ?_|refine CW.s ?_); conv => whnf)
      exact ⟨rfl, C5.fk.fs, kk C5.fk.kp, .inr ⟨fun o => by have := o.at_; omega, rfl, C5.wd⟩⟩
    conv => whnf
    repeat ((first
      | refine HS.t ?_|refine Br.t ?_|refine Br.f ?_|refine Pk.f ?_|refine Pk.t ?_|refine Pk.and ?_|refine Pk.or ?_|refine Ix.n ?_|refine Ix.of _ (by rfl) (by omega) ?_|refine Ix.i ?_|refine Ar.la ?_|refine Ar.lb ?_|refine Ar.lc ?_|refine Dv.q ?_|refine Dv.r ?_|refine Br.y ?_|refine Br.n ?_|refine Br.ny ?_|refine Br.nn ?_|refine Br.is (by assumption) ?_|refine Br.isnt (by assumption) ?_|refine Ld.of (by assumption) ?_|refine Ru.neq_nil0 ?_|refine Ru.n1 ?_|refine Ru.eql_nil0 ?_|refine Ru.e1 ?_|refine Ru.e2 ?_|refine Ru.e3 ?_|refine Ru.n2 ?_|refine Ru.n3 ?_|refine Ru.neq_nil rfl ?_|refine Ru.eql_nil rfl ?_|refine Ru.eql_err rfl (by decide) ?_|refine Ru.neq_err rfl (by decide) ?_|refine Ru.be ?_|refine Ru.bn ?_|refine RuQ.be ?_|refine RuQ.bn ?_|refine CW.s ?_); conv => whnf)
    have hk64 : k < 64 := by omega
    have C := C5.draw
    have hw63 := hW (63 - k)
    refine CW.held (fun w' => Row w' sg 117 6 (sF s) ∧ Wd w' b d W) [9] (.take 0 (.take 1 (.take 5 (.take 6 (.one 2 (.take 3 (.take 4 (.take 7 (.take 8 (.one 9 (.done))))))))))) tt_ok (by kernel_rfl) (by kernel_rfl) (by kernel_rfl) ?_ ?_
    · exact ⟨C.row, C.wd⟩
    generalize w5.drewN 1 = w6 at *
    conv => whnf
    repeat ((first
      | (refine LdQ.at (j := 0) (by omega) (fun _ h => h.1.cell 0 (by omega)) ?_)
      | (refine LdQ.at (j := 63 - k) (by omega) (fun _ h => (h.2.at (by omega)).1) ?_)
      | refine HS.t ?_|refine Br.t ?_|refine Br.f ?_|refine Pk.f ?_|refine Pk.t ?_|refine Pk.and ?_|refine Pk.or ?_|refine Ix.n ?_|refine Ix.of _ (by rfl) (by omega) ?_|refine Ix.i ?_|refine Ar.la ?_|refine Ar.lb ?_|refine Ar.lc ?_|refine Dv.q ?_|refine Dv.r ?_|refine Br.y ?_|refine Br.n ?_|refine Br.ny ?_|refine Br.nn ?_|refine Br.is (by assumption) ?_|refine Br.isnt (by assumption) ?_|refine Ld.of (by assumption) ?_|refine Ru.neq_nil0 ?_|refine Ru.n1 ?_|refine Ru.eql_nil0 ?_|refine Ru.e1 ?_|refine Ru.e2 ?_|refine Ru.e3 ?_|refine Ru.n2 ?_|refine Ru.n3 ?_|refine Ru.neq_nil rfl ?_|refine Ru.eql_nil rfl ?_|refine Ru.eql_err rfl (by decide) ?_|refine Ru.neq_err rfl (by decide) ?_|refine Ru.be ?_|refine Ru.bn ?_|refine RuQ.be ?_|refine RuQ.bn ?_|refine CW.s ?_); conv => whnf)
    refine Ca.of (rsplace_ok w6 k (by omega)) ?_
    rintro _ w7 ⟨rfl, rfl⟩
    conv => whnf
    repeat ((first
      | refine HS.t ?_|refine Br.t ?_|refine Br.f ?_|refine Pk.f ?_|refine Pk.t ?_|refine Pk.and ?_|refine Pk.or ?_|refine Ix.n ?_|refine Ix.of _ (by rfl) (by omega) ?_|refine Ix.i ?_|refine Ar.la ?_|refine Ar.lb ?_|refine Ar.lc ?_|refine Dv.q ?_|refine Dv.r ?_|refine Br.y ?_|refine Br.n ?_|refine Br.ny ?_|refine Br.nn ?_|refine Br.is (by assumption) ?_|refine Br.isnt (by assumption) ?_|refine Ld.of (by assumption) ?_|refine Ru.neq_nil0 ?_|refine Ru.n1 ?_|refine Ru.eql_nil0 ?_|refine Ru.e1 ?_|refine Ru.e2 ?_|refine Ru.e3 ?_|refine Ru.n2 ?_|refine Ru.n3 ?_|refine Ru.neq_nil rfl ?_|refine Ru.eql_nil rfl ?_|refine Ru.eql_err rfl (by decide) ?_|refine Ru.neq_err rfl (by decide) ?_|refine Ru.be ?_|refine Ru.bn ?_|refine RuQ.be ?_|refine RuQ.bn ?_|refine CW.s ?_); conv => whnf)
    refine ⟨⟨C.row, C.wd⟩, ?_⟩
    conv => whnf
    repeat ((first
      | (refine Ix.of (63 - k) (by omega) (by omega) ?_)
      | (refine LdQ.at (j := 63 - k) (by omega) (fun _ h => (h.2.at (by omega)).1) ?_)
      | refine HS.t ?_|refine Br.t ?_|refine Br.f ?_|refine Pk.f ?_|refine Pk.t ?_|refine Pk.and ?_|refine Pk.or ?_|refine Ix.n ?_|refine Ix.of _ (by rfl) (by omega) ?_|refine Ix.i ?_|refine Ar.la ?_|refine Ar.lb ?_|refine Ar.lc ?_|refine Dv.q ?_|refine Dv.r ?_|refine Br.y ?_|refine Br.n ?_|refine Br.ny ?_|refine Br.nn ?_|refine Br.is (by assumption) ?_|refine Br.isnt (by assumption) ?_|refine Ld.of (by assumption) ?_|refine Ru.neq_nil0 ?_|refine Ru.n1 ?_|refine Ru.eql_nil0 ?_|refine Ru.e1 ?_|refine Ru.e2 ?_|refine Ru.e3 ?_|refine Ru.n2 ?_|refine Ru.n3 ?_|refine Ru.neq_nil rfl ?_|refine Ru.eql_nil rfl ?_|refine Ru.eql_err rfl (by decide) ?_|refine Ru.neq_err rfl (by decide) ?_|refine Ru.be ?_|refine Ru.bn ?_|refine RuQ.be ?_|refine RuQ.bn ?_|refine CW.s ?_); conv => whnf)
    refine Sd.wd C.wd (63 - k) (W (63 - k) ^^^ s 0) (by omega) (by omega) (bitv_xor8 hw63 (hs 0)) ?_
    intro w8 wd8 k8
    conv => whnf
    repeat ((first
      | refine HS.t ?_|refine Br.t ?_|refine Br.f ?_|refine Pk.f ?_|refine Pk.t ?_|refine Pk.and ?_|refine Pk.or ?_|refine Ix.n ?_|refine Ix.of _ (by rfl) (by omega) ?_|refine Ix.i ?_|refine Ar.la ?_|refine Ar.lb ?_|refine Ar.lc ?_|refine Dv.q ?_|refine Dv.r ?_|refine Br.y ?_|refine Br.n ?_|refine Br.ny ?_|refine Br.nn ?_|refine Br.is (by assumption) ?_|refine Br.isnt (by assumption) ?_|refine Ld.of (by assumption) ?_|refine Ru.neq_nil0 ?_|refine Ru.n1 ?_|refine Ru.eql_nil0 ?_|refine Ru.e1 ?_|refine Ru.e2 ?_|refine Ru.e3 ?_|refine Ru.n2 ?_|refine Ru.n3 ?_|refine Ru.neq_nil rfl ?_|refine Ru.eql_nil rfl ?_|refine Ru.eql_err rfl (by decide) ?_|refine Ru.neq_err rfl (by decide) ?_|refine Ru.be ?_|refine Ru.bn ?_|refine RuQ.be ?_|refine RuQ.bn ?_|refine CW.s ?_); conv => whnf)
    have hsg := C.sgne
    refine ⟨rfl, C.fk.fs.keep k8 (by simp; omega), (kk C.fk.kp).trans (k8.mono (by simp)), .inl ⟨⟨h0, h1, fun j a1 a2 => hall j a1 a2, by rw [hk]; exact hk64⟩, rfl, ?_⟩⟩
    refine wd8.congr (fun i _ => ?_)
    unfold GF.fix
    rw [hk]
    by_cases e : i = 63 - k
    · simp only [if_pos e, e]
    · simp only [if_neg e]
end Go.Proofs.Ytkpaafjnjmmehaa
/- Layer 2: two. -/
namespace Go.Proofs.Ytkpaafjnjmmehaa
open Go.RowKit
set_option linter.unusedVariables false
set_option maxRecDepth 20000
attribute [local irreducible] GF.pw GF.lg GF.mul GF.inv GF.xt
/-- What two leaves. -/
def TwoEnd (w : World) (g b d : Nat) (W s : Nat → Nat) (v : Value) (w' : World) : Prop :=
  FS w' g ∧ Keep [g, b] w w' ∧ ((∃ k0 k1, GF.TwoOk s k0 k1 ∧ v = .int .i64 2 ∧ Wd w' b d (GF.fix2 W s k0 k1)) ∨ ((∀ k0 k1, ¬ GF.TwoOk s k0 k1) ∧ v = .int .i64 0 ∧ Wd w' b d W))
theorem Ca.cmulAt {w0 w : World} {c g h sg b d : Nat} {s W : Nat → Nat} {K : Value → World → Prop} {x y : Int} (H : Ctx w0 c g h sg b d s W w) (m n : Nat) (ex : x = (m : Int)) (ey : y = (n : Int)) (hx : m < 256) (hy : n < 256) (k : ∀ w', Ctx w0 c g h sg b d s W w' → FK w g w' → K (.int .u8 (GF.mul m n : Nat)) w') : Ca Try.prog 55 #[.pointer (some ⟨g, 0, none⟩), .int .u8 x, .int .u8 y] w K := by
  subst ex ey
  exact Ca.cmul H m n hx hy k
theorem Ca.cdivAt {w0 w : World} {c g h sg b d : Nat} {s W : Nat → Nat} {K : Value → World → Prop} {x y : Int} (H : Ctx w0 c g h sg b d s W w) (m n : Nat) (ex : x = (m : Int)) (ey : y = (n : Int)) (hx : m < 256) (hy : n < 256) (hy0 : n ≠ 0) (k : ∀ w', Ctx w0 c g h sg b d s W w' → FK w g w' → K (.tuple #[.int .u8 (GF.mul m (GF.inv n) : Nat), errOf 0]) w') : Ca Try.prog 64 #[.pointer (some ⟨g, 0, none⟩), .int .u8 x, .int .u8 y] w K := by
  subst ex ey
  exact Ca.cdiv H m n hx hy hy0 k
theorem Ca.cdiv0At {w0 w : World} {c g h sg b d : Nat} {s W : Nat → Nat} {K : Value → World → Prop} {x y : Int} (H : Ctx w0 c g h sg b d s W w) (m : Nat) (ex : x = (m : Int)) (ey : y = 0) (hx : m < 256) (k : ∀ w', Ctx w0 c g h sg b d s W w' → FK w g w' → K (.tuple #[.int .u8 (0 : Nat), errOf 4]) w') : Ca Try.prog 64 #[.pointer (some ⟨g, 0, none⟩), .int .u8 x, .int .u8 y] w K := by
  subst ex ey
  exact Ca.cdiv0 H m 0 hx rfl k
theorem detN_lt {s : Nat → Nat} (hs : ∀ j, s j < 256) : GF.detN s < 256 := GF.xor_lt (GF.mul_lt (hs 1)) (GF.mul_lt (hs 0))
theorem aN_lt {s : Nat → Nat} (hs : ∀ j, s j < 256) : GF.aN s < 256 := GF.mul_lt (GF.xor_lt (GF.mul_lt (hs 1)) (GF.mul_lt (hs 0)))
theorem bN_lt {s : Nat → Nat} (hs : ∀ j, s j < 256) : GF.bN s < 256 := GF.mul_lt (GF.xor_lt (GF.mul_lt (hs 2)) (GF.mul_lt (hs 1)))
theorem Ctx.other {w0 w w' : World} {c g h sg b d ag : Nat} {s W : Nat → Nat} (H : Ctx w0 c g h sg b d s W w) (k : Keep [ag] w w') (hn : ag ≠ g ∧ ag ≠ c ∧ ag ≠ h ∧ ag ≠ sg ∧ ag ≠ b ∧ w0.heap.size ≤ ag) : Ctx w0 c g h sg b d s W w' := by
  obtain ⟨h1, h2, h3, h4, h5, h6⟩ := hn
  exact ⟨⟨H.fk.fs.keep k (by simpa using h1.symm), H.fk.kp.then k (fun x hx => .inr (by rw [List.mem_singleton.1 hx]; exact h6))⟩, H.cod.keep0 k (by simpa using h2.symm) (by simpa using h1.symm) (by simpa using h3.symm), H.row.keep k (by simpa using h4.symm), H.wd.keepS k (by simpa using h5.symm), H.sgne, H.bne⟩
theorem alloc2i (w : World) : (Instr.alloc 144 true (.tuple #[])).run Try.prog w = .ok (.pointer (some ⟨w.heap.size, 0, none⟩)) (w.alloc (rowObj 2 (fun _ => .int .i64 0) 144)) := by kernel_rfl
theorem GF.rootsL_succ (a b k : Nat) : GF.rootsL a b (k + 1) = GF.rootsL a b k ++ (if GF.rootB a b k then [k] else []) := by
  unfold GF.rootsL
  rw [List.range_succ, List.filter_append]
  congr 1
  by_cases e : GF.rootB a b k = true
  · simp [e]
  · simp [e]
theorem GF.rootsL_le (a b : Nat) {k m : Nat} (h : k ≤ m) : (GF.rootsL a b k).length ≤ (GF.rootsL a b m).length := by
  induction m with
  | zero =>
    obtain rfl : k = 0 := by omega
    exact Nat.le_refl _
  | succ m ih =>
    by_cases e : k = m + 1
    · rw [e]; exact Nat.le_refl _
    · rw [GF.rootsL_succ, List.length_append]
      have := ih (by omega)
      omega
theorem two_not {s : Nat → Nat} {k : Nat} (hk : k ≤ 64) (h : 2 < (GF.rootsL (GF.aN s) (GF.bN s) k).length) (k0 k1 : Nat) : ¬ GF.TwoOk s k0 k1 := fun o => by
  have := GF.rootsL_le (GF.aN s) (GF.bN s) hk
  rw [o.roots] at this
  simp at this
  omega
theorem roots_two {a b : Nat} (h : (GF.rootsL a b 64).length = 2) : ∃ k0 k1, GF.rootsL a b 64 = [k0, k1] ∧ k0 < k1 ∧ k1 < 64 := by
  have h3 : (GF.rootsL a b 64).Pairwise (· < ·) := List.Pairwise.filter _ List.pairwise_lt_range
  have hm : ∀ k, k ∈ GF.rootsL a b 64 → k < 64 := fun k hk => List.mem_range.1 (List.mem_filter.1 hk).1
  generalize GF.rootsL a b 64 = L at *
  match L, h with
  | [k0, k1], _ => exact ⟨k0, k1, rfl, (List.pairwise_cons.1 h3).1 k1 (by simp), hm k1 (by simp)⟩
/-- The places found so far, as the two cells tell them. -/
def atF (L : List Nat) : Nat → Value := fun j => .int .i64 ((L[j]?.getD 0 : Nat) : Int)
set_option maxHeartbeats 4000000 in
theorem two_ok (w : World) (c g h b d : Nat) (W s : Nat → Nat) (hW : ∀ j, W j < 256) (hs : ∀ j, s j < 256) (r : Wd w b d W) (hb : b ≠ g) (H : Cod w c g h) (hbc : b ≠ c) :
    Spec Try.prog 58 #[.pointer (some ⟨c, 0, none⟩), .slice (some ⟨b, 0, none⟩) 64 d, agg 6 (sF s)] w (TwoEnd w g b d W s) := by
  refine spec_of_wpE (T := tt) tt_ok Try.func58 rfl (by decide +kernel) Try.ntmps58 (by simp) ?_
  conv => whnf
  repeat ((first
    | refine HS.t ?_|refine Br.t ?_|refine Br.f ?_|refine Pk.f ?_|refine Pk.t ?_|refine Pk.and ?_|refine Pk.or ?_|refine Ix.n ?_|refine Ix.of _ (by rfl) (by omega) ?_|refine Ix.i ?_|refine Ar.la ?_|refine Ar.lb ?_|refine Ar.lc ?_|refine Dv.q ?_|refine Dv.r ?_|refine Br.y ?_|refine Br.n ?_|refine Br.ny ?_|refine Br.nn ?_|refine Br.is (by assumption) ?_|refine Br.isnt (by assumption) ?_|refine Ld.of (by assumption) ?_|refine Ru.neq_nil0 ?_|refine Ru.n1 ?_|refine Ru.eql_nil0 ?_|refine Ru.e1 ?_|refine Ru.e2 ?_|refine Ru.e3 ?_|refine Ru.n2 ?_|refine Ru.n3 ?_|refine Ru.neq_nil rfl ?_|refine Ru.eql_nil rfl ?_|refine Ru.eql_err rfl (by decide) ?_|refine Ru.neq_err rfl (by decide) ?_|refine Ru.be ?_|refine Ru.bn ?_|refine RuQ.be ?_|refine RuQ.bn ?_|refine CW.s ?_); conv => whnf)
  refine Ru.boxa ?_
  intro sg w1 hsg hs1 rs k1
  have gl := H.fs.lt
  have cl := H.row.lt
  have bl := r.lt
  have C1 : Ctx w c g h sg b d s W w1 := ⟨⟨H.fs.keep0 k1, k1.mono (by simp)⟩, H.keep0 k1 (by simp) (by simp) (by simp), rs, r.keepS k1 (by simp), by omega, hb⟩
  have kk : ∀ {w'}, Keep [g] w w' → Keep [g, b] w w' := fun k => k.mono (by simp)
  have m11 := GF.mul_lt (a := s 1) (b := s 1) (hs 1)
  have m02 := GF.mul_lt (a := s 0) (b := s 2) (hs 0)
  have m12 := GF.mul_lt (a := s 1) (b := s 2) (hs 1)
  have m03 := GF.mul_lt (a := s 0) (b := s 3) (hs 0)
  have m22 := GF.mul_lt (a := s 2) (b := s 2) (hs 2)
  have m13 := GF.mul_lt (a := s 1) (b := s 3) (hs 1)
  have edet : bitv .xor .u8 (GF.mul (s 1) (s 1) : Nat) (GF.mul (s 0) (s 2) : Nat) = (GF.detN s : Int) := bitv_xor8 m11 m02
  have hdl := detN_lt hs
  conv => whnf
  repeat ((first
    | (refine Ld.row C1.cod.row (by decide) ?_)
    | refine HS.t ?_|refine Br.t ?_|refine Br.f ?_|refine Pk.f ?_|refine Pk.t ?_|refine Pk.and ?_|refine Pk.or ?_|refine Ix.n ?_|refine Ix.of _ (by rfl) (by omega) ?_|refine Ix.i ?_|refine Ar.la ?_|refine Ar.lb ?_|refine Ar.lc ?_|refine Dv.q ?_|refine Dv.r ?_|refine Br.y ?_|refine Br.n ?_|refine Br.ny ?_|refine Br.nn ?_|refine Br.is (by assumption) ?_|refine Br.isnt (by assumption) ?_|refine Ld.of (by assumption) ?_|refine Ru.neq_nil0 ?_|refine Ru.n1 ?_|refine Ru.eql_nil0 ?_|refine Ru.e1 ?_|refine Ru.e2 ?_|refine Ru.e3 ?_|refine Ru.n2 ?_|refine Ru.n3 ?_|refine Ru.neq_nil rfl ?_|refine Ru.eql_nil rfl ?_|refine Ru.eql_err rfl (by decide) ?_|refine Ru.neq_err rfl (by decide) ?_|refine Ru.be ?_|refine Ru.bn ?_|refine RuQ.be ?_|refine RuQ.bn ?_|refine CW.s ?_); conv => whnf)
  refine CW.held (fun w' => Row w' sg 117 6 (sF s)) [] (.take 0 (.take 1 (.take 2 (.take 3 (.take 4 (.take 6 (.take 7 (.take 8 (.take 9 (.take 10 (.one 5 (.one 11 (.take 12 (.take 13 (.done))))))))))))))) tt_ok (by kernel_rfl) (by kernel_rfl) (by kernel_rfl) ?_ ?_
  · exact C1.draw.row
  have C := C1.draw
  clear C1
  generalize w1.drewN 1 = w2 at *
  conv => whnf
  repeat ((first
    | (refine LdQ.row (fun _ h => h) (by decide) ?_)
    | refine HS.t ?_|refine Br.t ?_|refine Br.f ?_|refine Pk.f ?_|refine Pk.t ?_|refine Pk.and ?_|refine Pk.or ?_|refine Ix.n ?_|refine Ix.of _ (by rfl) (by omega) ?_|refine Ix.i ?_|refine Ar.la ?_|refine Ar.lb ?_|refine Ar.lc ?_|refine Dv.q ?_|refine Dv.r ?_|refine Br.y ?_|refine Br.n ?_|refine Br.ny ?_|refine Br.nn ?_|refine Br.is (by assumption) ?_|refine Br.isnt (by assumption) ?_|refine Ld.of (by assumption) ?_|refine Ru.neq_nil0 ?_|refine Ru.n1 ?_|refine Ru.eql_nil0 ?_|refine Ru.e1 ?_|refine Ru.e2 ?_|refine Ru.e3 ?_|refine Ru.n2 ?_|refine Ru.n3 ?_|refine Ru.neq_nil rfl ?_|refine Ru.eql_nil rfl ?_|refine Ru.eql_err rfl (by decide) ?_|refine Ru.neq_err rfl (by decide) ?_|refine Ru.be ?_|refine Ru.bn ?_|refine RuQ.be ?_|refine RuQ.bn ?_|refine CW.s ?_); conv => whnf)
  refine Ca.cmul C (s 1) (s 1) (hs 1) (hs 1) ?_
  intro w3 C _
  conv => whnf
  repeat ((first
    | refine HS.t ?_|refine Br.t ?_|refine Br.f ?_|refine Pk.f ?_|refine Pk.t ?_|refine Pk.and ?_|refine Pk.or ?_|refine Ix.n ?_|refine Ix.of _ (by rfl) (by omega) ?_|refine Ix.i ?_|refine Ar.la ?_|refine Ar.lb ?_|refine Ar.lc ?_|refine Dv.q ?_|refine Dv.r ?_|refine Br.y ?_|refine Br.n ?_|refine Br.ny ?_|refine Br.nn ?_|refine Br.is (by assumption) ?_|refine Br.isnt (by assumption) ?_|refine Ld.of (by assumption) ?_|refine Ru.neq_nil0 ?_|refine Ru.n1 ?_|refine Ru.eql_nil0 ?_|refine Ru.e1 ?_|refine Ru.e2 ?_|refine Ru.e3 ?_|refine Ru.n2 ?_|refine Ru.n3 ?_|refine Ru.neq_nil rfl ?_|refine Ru.eql_nil rfl ?_|refine Ru.eql_err rfl (by decide) ?_|refine Ru.neq_err rfl (by decide) ?_|refine Ru.be ?_|refine Ru.bn ?_|refine RuQ.be ?_|refine RuQ.bn ?_|refine CW.s ?_); conv => whnf)
  refine ⟨C.row, ?_⟩
  conv => whnf
  repeat ((first
    | refine HS.t ?_|refine Br.t ?_|refine Br.f ?_|refine Pk.f ?_|refine Pk.t ?_|refine Pk.and ?_|refine Pk.or ?_|refine Ix.n ?_|refine Ix.of _ (by rfl) (by omega) ?_|refine Ix.i ?_|refine Ar.la ?_|refine Ar.lb ?_|refine Ar.lc ?_|refine Dv.q ?_|refine Dv.r ?_|refine Br.y ?_|refine Br.n ?_|refine Br.ny ?_|refine Br.nn ?_|refine Br.is (by assumption) ?_|refine Br.isnt (by assumption) ?_|refine Ld.of (by assumption) ?_|refine Ru.neq_nil0 ?_|refine Ru.n1 ?_|refine Ru.eql_nil0 ?_|refine Ru.e1 ?_|refine Ru.e2 ?_|refine Ru.e3 ?_|refine Ru.n2 ?_|refine Ru.n3 ?_|refine Ru.neq_nil rfl ?_|refine Ru.eql_nil rfl ?_|refine Ru.eql_err rfl (by decide) ?_|refine Ru.neq_err rfl (by decide) ?_|refine Ru.be ?_|refine Ru.bn ?_|refine RuQ.be ?_|refine RuQ.bn ?_|refine CW.s ?_); conv => whnf)
  refine Ca.cmul C (s 0) (s 2) (hs 0) (hs 2) ?_
  intro w4 C _
  conv => whnf
  repeat ((first
    | refine HS.t ?_|refine Br.t ?_|refine Br.f ?_|refine Pk.f ?_|refine Pk.t ?_|refine Pk.and ?_|refine Pk.or ?_|refine Ix.n ?_|refine Ix.of _ (by rfl) (by omega) ?_|refine Ix.i ?_|refine Ar.la ?_|refine Ar.lb ?_|refine Ar.lc ?_|refine Dv.q ?_|refine Dv.r ?_|refine Br.y ?_|refine Br.n ?_|refine Br.ny ?_|refine Br.nn ?_|refine Br.is (by assumption) ?_|refine Br.isnt (by assumption) ?_|refine Ld.of (by assumption) ?_|refine Ru.neq_nil0 ?_|refine Ru.n1 ?_|refine Ru.eql_nil0 ?_|refine Ru.e1 ?_|refine Ru.e2 ?_|refine Ru.e3 ?_|refine Ru.n2 ?_|refine Ru.n3 ?_|refine Ru.neq_nil rfl ?_|refine Ru.eql_nil rfl ?_|refine Ru.eql_err rfl (by decide) ?_|refine Ru.neq_err rfl (by decide) ?_|refine Ru.be ?_|refine Ru.bn ?_|refine RuQ.be ?_|refine RuQ.bn ?_|refine CW.s ?_); conv => whnf)
  refine ⟨C.row, ?_⟩
  conv => whnf
  repeat ((first
    | refine HS.t ?_|refine Br.t ?_|refine Br.f ?_|refine Pk.f ?_|refine Pk.t ?_|refine Pk.and ?_|refine Pk.or ?_|refine Ix.n ?_|refine Ix.of _ (by rfl) (by omega) ?_|refine Ix.i ?_|refine Ar.la ?_|refine Ar.lb ?_|refine Ar.lc ?_|refine Dv.q ?_|refine Dv.r ?_|refine Br.y ?_|refine Br.n ?_|refine Br.ny ?_|refine Br.nn ?_|refine Br.is (by assumption) ?_|refine Br.isnt (by assumption) ?_|refine Ld.of (by assumption) ?_|refine Ru.neq_nil0 ?_|refine Ru.n1 ?_|refine Ru.eql_nil0 ?_|refine Ru.e1 ?_|refine Ru.e2 ?_|refine Ru.e3 ?_|refine Ru.n2 ?_|refine Ru.n3 ?_|refine Ru.neq_nil rfl ?_|refine Ru.eql_nil rfl ?_|refine Ru.eql_err rfl (by decide) ?_|refine Ru.neq_err rfl (by decide) ?_|refine Ru.be ?_|refine Ru.bn ?_|refine RuQ.be ?_|refine RuQ.bn ?_|refine CW.s ?_); conv => whnf)
  rw [edet]
  refine CW.held (fun w' => Row w' sg 117 6 (sF s)) [] (.take 0 (.take 1 (.take 2 (.take 3 (.take 4 (.take 5 (.take 7 (.take 8 (.take 9 (.take 10 (.take 11 (.take 14 (.one 6 (.one 12 (.take 13 (.one 15 (.take 16 (.take 17 (.take 18 (.take 19 (.take 20 (.done)))))))))))))))))))))) tt_ok (by kernel_rfl) (by kernel_rfl) (by kernel_rfl) ?_ ?_
  · exact C.draw.row
  replace C := C.draw
  generalize w4.drewN 1 = w5 at *
  conv => whnf
  repeat ((first
    | (refine LdQ.row (fun _ h => h) (by decide) ?_)
    | refine HS.t ?_|refine Br.t ?_|refine Br.f ?_|refine Pk.f ?_|refine Pk.t ?_|refine Pk.and ?_|refine Pk.or ?_|refine Ix.n ?_|refine Ix.of _ (by rfl) (by omega) ?_|refine Ix.i ?_|refine Ar.la ?_|refine Ar.lb ?_|refine Ar.lc ?_|refine Dv.q ?_|refine Dv.r ?_|refine Br.y ?_|refine Br.n ?_|refine Br.ny ?_|refine Br.nn ?_|refine Br.is (by assumption) ?_|refine Br.isnt (by assumption) ?_|refine Ld.of (by assumption) ?_|refine Ru.neq_nil0 ?_|refine Ru.n1 ?_|refine Ru.eql_nil0 ?_|refine Ru.e1 ?_|refine Ru.e2 ?_|refine Ru.e3 ?_|refine Ru.n2 ?_|refine Ru.n3 ?_|refine Ru.neq_nil rfl ?_|refine Ru.eql_nil rfl ?_|refine Ru.eql_err rfl (by decide) ?_|refine Ru.neq_err rfl (by decide) ?_|refine Ru.be ?_|refine Ru.bn ?_|refine RuQ.be ?_|refine RuQ.bn ?_|refine CW.s ?_); conv => whnf)
  refine Ca.cmul C (s 1) (s 2) (hs 1) (hs 2) ?_
  clear C
  intro w6 C _
  conv => whnf
  repeat ((first
    | refine HS.t ?_|refine Br.t ?_|refine Br.f ?_|refine Pk.f ?_|refine Pk.t ?_|refine Pk.and ?_|refine Pk.or ?_|refine Ix.n ?_|refine Ix.of _ (by rfl) (by omega) ?_|refine Ix.i ?_|refine Ar.la ?_|refine Ar.lb ?_|refine Ar.lc ?_|refine Dv.q ?_|refine Dv.r ?_|refine Br.y ?_|refine Br.n ?_|refine Br.ny ?_|refine Br.nn ?_|refine Br.is (by assumption) ?_|refine Br.isnt (by assumption) ?_|refine Ld.of (by assumption) ?_|refine Ru.neq_nil0 ?_|refine Ru.n1 ?_|refine Ru.eql_nil0 ?_|refine Ru.e1 ?_|refine Ru.e2 ?_|refine Ru.e3 ?_|refine Ru.n2 ?_|refine Ru.n3 ?_|refine Ru.neq_nil rfl ?_|refine Ru.eql_nil rfl ?_|refine Ru.eql_err rfl (by decide) ?_|refine Ru.neq_err rfl (by decide) ?_|refine Ru.be ?_|refine Ru.bn ?_|refine RuQ.be ?_|refine RuQ.bn ?_|refine CW.s ?_); conv => whnf)
  refine ⟨C.row, ?_⟩
  conv => whnf
  repeat ((first
    | refine HS.t ?_|refine Br.t ?_|refine Br.f ?_|refine Pk.f ?_|refine Pk.t ?_|refine Pk.and ?_|refine Pk.or ?_|refine Ix.n ?_|refine Ix.of _ (by rfl) (by omega) ?_|refine Ix.i ?_|refine Ar.la ?_|refine Ar.lb ?_|refine Ar.lc ?_|refine Dv.q ?_|refine Dv.r ?_|refine Br.y ?_|refine Br.n ?_|refine Br.ny ?_|refine Br.nn ?_|refine Br.is (by assumption) ?_|refine Br.isnt (by assumption) ?_|refine Ld.of (by assumption) ?_|refine Ru.neq_nil0 ?_|refine Ru.n1 ?_|refine Ru.eql_nil0 ?_|refine Ru.e1 ?_|refine Ru.e2 ?_|refine Ru.e3 ?_|refine Ru.n2 ?_|refine Ru.n3 ?_|refine Ru.neq_nil rfl ?_|refine Ru.eql_nil rfl ?_|refine Ru.eql_err rfl (by decide) ?_|refine Ru.neq_err rfl (by decide) ?_|refine Ru.be ?_|refine Ru.bn ?_|refine RuQ.be ?_|refine RuQ.bn ?_|refine CW.s ?_); conv => whnf)
  refine Ca.cmul C (s 0) (s 3) (hs 0) (hs 3) ?_
  clear C
  intro w7 C _
  conv => whnf
  repeat ((first
    | refine HS.t ?_|refine Br.t ?_|refine Br.f ?_|refine Pk.f ?_|refine Pk.t ?_|refine Pk.and ?_|refine Pk.or ?_|refine Ix.n ?_|refine Ix.of _ (by rfl) (by omega) ?_|refine Ix.i ?_|refine Ar.la ?_|refine Ar.lb ?_|refine Ar.lc ?_|refine Dv.q ?_|refine Dv.r ?_|refine Br.y ?_|refine Br.n ?_|refine Br.ny ?_|refine Br.nn ?_|refine Br.is (by assumption) ?_|refine Br.isnt (by assumption) ?_|refine Ld.of (by assumption) ?_|refine Ru.neq_nil0 ?_|refine Ru.n1 ?_|refine Ru.eql_nil0 ?_|refine Ru.e1 ?_|refine Ru.e2 ?_|refine Ru.e3 ?_|refine Ru.n2 ?_|refine Ru.n3 ?_|refine Ru.neq_nil rfl ?_|refine Ru.eql_nil rfl ?_|refine Ru.eql_err rfl (by decide) ?_|refine Ru.neq_err rfl (by decide) ?_|refine Ru.be ?_|refine Ru.bn ?_|refine RuQ.be ?_|refine RuQ.bn ?_|refine CW.s ?_); conv => whnf)
  refine ⟨C.row, ?_⟩
  by_cases hd0 : GF.detN s = 0
  · conv => whnf
    repeat ((first
      | (refine Ca.cdiv0At C (GF.mul (s 1) (s 2) ^^^ GF.mul (s 0) (s 3)) (bitv_xor8 m12 m03) (by rw [hd0]; rfl) (GF.xor_lt m12 m03) ?_)
      | refine HS.t ?_|refine Br.t ?_|refine Br.f ?_|refine Pk.f ?_|refine Pk.t ?_|refine Pk.and ?_|refine Pk.or ?_|refine Ix.n ?_|refine Ix.of _ (by rfl) (by omega) ?_|refine Ix.i ?_|refine Ar.la ?_|refine Ar.lb ?_|refine Ar.lc ?_|refine Dv.q ?_|refine Dv.r ?_|refine Br.y ?_|refine Br.n ?_|refine Br.ny ?_|refine Br.nn ?_|refine Br.is (by assumption) ?_|refine Br.isnt (by assumption) ?_|refine Ld.of (by assumption) ?_|refine Ru.neq_nil0 ?_|refine Ru.n1 ?_|refine Ru.eql_nil0 ?_|refine Ru.e1 ?_|refine Ru.e2 ?_|refine Ru.e3 ?_|refine Ru.n2 ?_|refine Ru.n3 ?_|refine Ru.neq_nil rfl ?_|refine Ru.eql_nil rfl ?_|refine Ru.eql_err rfl (by decide) ?_|refine Ru.neq_err rfl (by decide) ?_|refine Ru.be ?_|refine Ru.bn ?_|refine RuQ.be ?_|refine RuQ.bn ?_|refine CW.s ?_); conv => whnf)
    clear C
    intro w8 C _
    conv => whnf
    repeat ((first
      | refine HS.t ?_|refine Br.t ?_|refine Br.f ?_|refine Pk.f ?_|refine Pk.t ?_|refine Pk.and ?_|refine Pk.or ?_|refine Ix.n ?_|refine Ix.of _ (by rfl) (by omega) ?_|refine Ix.i ?_|refine Ar.la ?_|refine Ar.lb ?_|refine Ar.lc ?_|refine Dv.q ?_|refine Dv.r ?_|refine Br.y ?_|refine Br.n ?_|refine Br.ny ?_|refine Br.nn ?_|refine Br.is (by assumption) ?_|refine Br.isnt (by assumption) ?_|refine Ld.of (by assumption) ?_|refine Ru.neq_nil0 ?_|refine Ru.n1 ?_|refine Ru.eql_nil0 ?_|refine Ru.e1 ?_|refine Ru.e2 ?_|refine Ru.e3 ?_|refine Ru.n2 ?_|refine Ru.n3 ?_|refine Ru.neq_nil rfl ?_|refine Ru.eql_nil rfl ?_|refine Ru.eql_err rfl (by decide) ?_|refine Ru.neq_err rfl (by decide) ?_|refine Ru.be ?_|refine Ru.bn ?_|refine RuQ.be ?_|refine RuQ.bn ?_|refine CW.s ?_); conv => whnf)
    refine ⟨C.row, ?_⟩
    conv => whnf
    repeat ((first
      | refine HS.t ?_|refine Br.t ?_|refine Br.f ?_|refine Pk.f ?_|refine Pk.t ?_|refine Pk.and ?_|refine Pk.or ?_|refine Ix.n ?_|refine Ix.of _ (by rfl) (by omega) ?_|refine Ix.i ?_|refine Ar.la ?_|refine Ar.lb ?_|refine Ar.lc ?_|refine Dv.q ?_|refine Dv.r ?_|refine Br.y ?_|refine Br.n ?_|refine Br.ny ?_|refine Br.nn ?_|refine Br.is (by assumption) ?_|refine Br.isnt (by assumption) ?_|refine Ld.of (by assumption) ?_|refine Ru.neq_nil0 ?_|refine Ru.n1 ?_|refine Ru.eql_nil0 ?_|refine Ru.e1 ?_|refine Ru.e2 ?_|refine Ru.e3 ?_|refine Ru.n2 ?_|refine Ru.n3 ?_|refine Ru.neq_nil rfl ?_|refine Ru.eql_nil rfl ?_|refine Ru.eql_err rfl (by decide) ?_|refine Ru.neq_err rfl (by decide) ?_|refine Ru.be ?_|refine Ru.bn ?_|refine RuQ.be ?_|refine RuQ.bn ?_|refine CW.s ?_); conv => whnf)
    exact ⟨rfl, C.fk.fs, kk C.fk.kp, .inr ⟨fun k0 k1 o => o.det hd0, rfl, C.wd⟩⟩
  conv => whnf
  repeat ((first
    | (refine Ca.cdivAt C (GF.mul (s 1) (s 2) ^^^ GF.mul (s 0) (s 3)) (GF.detN s) (bitv_xor8 m12 m03) rfl (GF.xor_lt m12 m03) hdl hd0 ?_)
    | refine HS.t ?_|refine Br.t ?_|refine Br.f ?_|refine Pk.f ?_|refine Pk.t ?_|refine Pk.and ?_|refine Pk.or ?_|refine Ix.n ?_|refine Ix.of _ (by rfl) (by omega) ?_|refine Ix.i ?_|refine Ar.la ?_|refine Ar.lb ?_|refine Ar.lc ?_|refine Dv.q ?_|refine Dv.r ?_|refine Br.y ?_|refine Br.n ?_|refine Br.ny ?_|refine Br.nn ?_|refine Br.is (by assumption) ?_|refine Br.isnt (by assumption) ?_|refine Ld.of (by assumption) ?_|refine Ru.neq_nil0 ?_|refine Ru.n1 ?_|refine Ru.eql_nil0 ?_|refine Ru.e1 ?_|refine Ru.e2 ?_|refine Ru.e3 ?_|refine Ru.n2 ?_|refine Ru.n3 ?_|refine Ru.neq_nil rfl ?_|refine Ru.eql_nil rfl ?_|refine Ru.eql_err rfl (by decide) ?_|refine Ru.neq_err rfl (by decide) ?_|refine Ru.be ?_|refine Ru.bn ?_|refine RuQ.be ?_|refine RuQ.bn ?_|refine CW.s ?_); conv => whnf)
  clear C
  intro w8 C _
  conv => whnf
  repeat ((first
    | refine HS.t ?_|refine Br.t ?_|refine Br.f ?_|refine Pk.f ?_|refine Pk.t ?_|refine Pk.and ?_|refine Pk.or ?_|refine Ix.n ?_|refine Ix.of _ (by rfl) (by omega) ?_|refine Ix.i ?_|refine Ar.la ?_|refine Ar.lb ?_|refine Ar.lc ?_|refine Dv.q ?_|refine Dv.r ?_|refine Br.y ?_|refine Br.n ?_|refine Br.ny ?_|refine Br.nn ?_|refine Br.is (by assumption) ?_|refine Br.isnt (by assumption) ?_|refine Ld.of (by assumption) ?_|refine Ru.neq_nil0 ?_|refine Ru.n1 ?_|refine Ru.eql_nil0 ?_|refine Ru.e1 ?_|refine Ru.e2 ?_|refine Ru.e3 ?_|refine Ru.n2 ?_|refine Ru.n3 ?_|refine Ru.neq_nil rfl ?_|refine Ru.eql_nil rfl ?_|refine Ru.eql_err rfl (by decide) ?_|refine Ru.neq_err rfl (by decide) ?_|refine Ru.be ?_|refine Ru.bn ?_|refine RuQ.be ?_|refine RuQ.bn ?_|refine CW.s ?_); conv => whnf)
  refine ⟨C.row, ?_⟩
  conv => whnf
  repeat ((first
    | refine HS.t ?_|refine Br.t ?_|refine Br.f ?_|refine Pk.f ?_|refine Pk.t ?_|refine Pk.and ?_|refine Pk.or ?_|refine Ix.n ?_|refine Ix.of _ (by rfl) (by omega) ?_|refine Ix.i ?_|refine Ar.la ?_|refine Ar.lb ?_|refine Ar.lc ?_|refine Dv.q ?_|refine Dv.r ?_|refine Br.y ?_|refine Br.n ?_|refine Br.ny ?_|refine Br.nn ?_|refine Br.is (by assumption) ?_|refine Br.isnt (by assumption) ?_|refine Ld.of (by assumption) ?_|refine Ru.neq_nil0 ?_|refine Ru.n1 ?_|refine Ru.eql_nil0 ?_|refine Ru.e1 ?_|refine Ru.e2 ?_|refine Ru.e3 ?_|refine Ru.n2 ?_|refine Ru.n3 ?_|refine Ru.neq_nil rfl ?_|refine Ru.eql_nil rfl ?_|refine Ru.eql_err rfl (by decide) ?_|refine Ru.neq_err rfl (by decide) ?_|refine Ru.be ?_|refine Ru.bn ?_|refine RuQ.be ?_|refine RuQ.bn ?_|refine CW.s ?_); conv => whnf)
  refine CW.held (fun w' => Row w' sg 117 6 (sF s)) [] (.take 0 (.take 1 (.take 2 (.take 3 (.take 4 (.take 5 (.take 7 (.take 8 (.take 9 (.take 10 (.take 11 (.take 14 (.one 6 (.one 12 (.take 13 (.one 15 (.take 16 (.take 17 (.take 18 (.take 19 (.take 20 (.done)))))))))))))))))))))) tt_ok (by kernel_rfl) (by kernel_rfl) (by kernel_rfl) ?_ ?_
  · exact C.draw.row
  replace C := C.draw
  generalize w8.drewN 1 = w9 at *
  conv => whnf
  repeat ((first
    | (refine LdQ.row (fun _ h => h) (by decide) ?_)
    | refine HS.t ?_|refine Br.t ?_|refine Br.f ?_|refine Pk.f ?_|refine Pk.t ?_|refine Pk.and ?_|refine Pk.or ?_|refine Ix.n ?_|refine Ix.of _ (by rfl) (by omega) ?_|refine Ix.i ?_|refine Ar.la ?_|refine Ar.lb ?_|refine Ar.lc ?_|refine Dv.q ?_|refine Dv.r ?_|refine Br.y ?_|refine Br.n ?_|refine Br.ny ?_|refine Br.nn ?_|refine Br.is (by assumption) ?_|refine Br.isnt (by assumption) ?_|refine Ld.of (by assumption) ?_|refine Ru.neq_nil0 ?_|refine Ru.n1 ?_|refine Ru.eql_nil0 ?_|refine Ru.e1 ?_|refine Ru.e2 ?_|refine Ru.e3 ?_|refine Ru.n2 ?_|refine Ru.n3 ?_|refine Ru.neq_nil rfl ?_|refine Ru.eql_nil rfl ?_|refine Ru.eql_err rfl (by decide) ?_|refine Ru.neq_err rfl (by decide) ?_|refine Ru.be ?_|refine Ru.bn ?_|refine RuQ.be ?_|refine RuQ.bn ?_|refine CW.s ?_); conv => whnf)
  refine Ca.cmul C (s 2) (s 2) (hs 2) (hs 2) ?_
  clear C
  intro w10 C _
  conv => whnf
  repeat ((first
    | refine HS.t ?_|refine Br.t ?_|refine Br.f ?_|refine Pk.f ?_|refine Pk.t ?_|refine Pk.and ?_|refine Pk.or ?_|refine Ix.n ?_|refine Ix.of _ (by rfl) (by omega) ?_|refine Ix.i ?_|refine Ar.la ?_|refine Ar.lb ?_|refine Ar.lc ?_|refine Dv.q ?_|refine Dv.r ?_|refine Br.y ?_|refine Br.n ?_|refine Br.ny ?_|refine Br.nn ?_|refine Br.is (by assumption) ?_|refine Br.isnt (by assumption) ?_|refine Ld.of (by assumption) ?_|refine Ru.neq_nil0 ?_|refine Ru.n1 ?_|refine Ru.eql_nil0 ?_|refine Ru.e1 ?_|refine Ru.e2 ?_|refine Ru.e3 ?_|refine Ru.n2 ?_|refine Ru.n3 ?_|refine Ru.neq_nil rfl ?_|refine Ru.eql_nil rfl ?_|refine Ru.eql_err rfl (by decide) ?_|refine Ru.neq_err rfl (by decide) ?_|refine Ru.be ?_|refine Ru.bn ?_|refine RuQ.be ?_|refine RuQ.bn ?_|refine CW.s ?_); conv => whnf)
  refine ⟨C.row, ?_⟩
  conv => whnf
  repeat ((first
    | refine HS.t ?_|refine Br.t ?_|refine Br.f ?_|refine Pk.f ?_|refine Pk.t ?_|refine Pk.and ?_|refine Pk.or ?_|refine Ix.n ?_|refine Ix.of _ (by rfl) (by omega) ?_|refine Ix.i ?_|refine Ar.la ?_|refine Ar.lb ?_|refine Ar.lc ?_|refine Dv.q ?_|refine Dv.r ?_|refine Br.y ?_|refine Br.n ?_|refine Br.ny ?_|refine Br.nn ?_|refine Br.is (by assumption) ?_|refine Br.isnt (by assumption) ?_|refine Ld.of (by assumption) ?_|refine Ru.neq_nil0 ?_|refine Ru.n1 ?_|refine Ru.eql_nil0 ?_|refine Ru.e1 ?_|refine Ru.e2 ?_|refine Ru.e3 ?_|refine Ru.n2 ?_|refine Ru.n3 ?_|refine Ru.neq_nil rfl ?_|refine Ru.eql_nil rfl ?_|refine Ru.eql_err rfl (by decide) ?_|refine Ru.neq_err rfl (by decide) ?_|refine Ru.be ?_|refine Ru.bn ?_|refine RuQ.be ?_|refine RuQ.bn ?_|refine CW.s ?_); conv => whnf)
  refine Ca.cmul C (s 1) (s 3) (hs 1) (hs 3) ?_
  clear C
  intro w11 C _
  conv => whnf
  repeat ((first
    | refine HS.t ?_|refine Br.t ?_|refine Br.f ?_|refine Pk.f ?_|refine Pk.t ?_|refine Pk.and ?_|refine Pk.or ?_|refine Ix.n ?_|refine Ix.of _ (by rfl) (by omega) ?_|refine Ix.i ?_|refine Ar.la ?_|refine Ar.lb ?_|refine Ar.lc ?_|refine Dv.q ?_|refine Dv.r ?_|refine Br.y ?_|refine Br.n ?_|refine Br.ny ?_|refine Br.nn ?_|refine Br.is (by assumption) ?_|refine Br.isnt (by assumption) ?_|refine Ld.of (by assumption) ?_|refine Ru.neq_nil0 ?_|refine Ru.n1 ?_|refine Ru.eql_nil0 ?_|refine Ru.e1 ?_|refine Ru.e2 ?_|refine Ru.e3 ?_|refine Ru.n2 ?_|refine Ru.n3 ?_|refine Ru.neq_nil rfl ?_|refine Ru.eql_nil rfl ?_|refine Ru.eql_err rfl (by decide) ?_|refine Ru.neq_err rfl (by decide) ?_|refine Ru.be ?_|refine Ru.bn ?_|refine RuQ.be ?_|refine RuQ.bn ?_|refine CW.s ?_); conv => whnf)
  refine ⟨C.row, ?_⟩
  conv => whnf
  repeat ((first
    | (refine Ca.cdivAt C (GF.mul (s 2) (s 2) ^^^ GF.mul (s 1) (s 3)) (GF.detN s) (bitv_xor8 m22 m13) rfl (GF.xor_lt m22 m13) hdl hd0 ?_)
    | refine HS.t ?_|refine Br.t ?_|refine Br.f ?_|refine Pk.f ?_|refine Pk.t ?_|refine Pk.and ?_|refine Pk.or ?_|refine Ix.n ?_|refine Ix.of _ (by rfl) (by omega) ?_|refine Ix.i ?_|refine Ar.la ?_|refine Ar.lb ?_|refine Ar.lc ?_|refine Dv.q ?_|refine Dv.r ?_|refine Br.y ?_|refine Br.n ?_|refine Br.ny ?_|refine Br.nn ?_|refine Br.is (by assumption) ?_|refine Br.isnt (by assumption) ?_|refine Ld.of (by assumption) ?_|refine Ru.neq_nil0 ?_|refine Ru.n1 ?_|refine Ru.eql_nil0 ?_|refine Ru.e1 ?_|refine Ru.e2 ?_|refine Ru.e3 ?_|refine Ru.n2 ?_|refine Ru.n3 ?_|refine Ru.neq_nil rfl ?_|refine Ru.eql_nil rfl ?_|refine Ru.eql_err rfl (by decide) ?_|refine Ru.neq_err rfl (by decide) ?_|refine Ru.be ?_|refine Ru.bn ?_|refine RuQ.be ?_|refine RuQ.bn ?_|refine CW.s ?_); conv => whnf)
  clear C
  intro w12 C _
  conv => whnf
  repeat ((first
    | refine HS.t ?_|refine Br.t ?_|refine Br.f ?_|refine Pk.f ?_|refine Pk.t ?_|refine Pk.and ?_|refine Pk.or ?_|refine Ix.n ?_|refine Ix.of _ (by rfl) (by omega) ?_|refine Ix.i ?_|refine Ar.la ?_|refine Ar.lb ?_|refine Ar.lc ?_|refine Dv.q ?_|refine Dv.r ?_|refine Br.y ?_|refine Br.n ?_|refine Br.ny ?_|refine Br.nn ?_|refine Br.is (by assumption) ?_|refine Br.isnt (by assumption) ?_|refine Ld.of (by assumption) ?_|refine Ru.neq_nil0 ?_|refine Ru.n1 ?_|refine Ru.eql_nil0 ?_|refine Ru.e1 ?_|refine Ru.e2 ?_|refine Ru.e3 ?_|refine Ru.n2 ?_|refine Ru.n3 ?_|refine Ru.neq_nil rfl ?_|refine Ru.eql_nil rfl ?_|refine Ru.eql_err rfl (by decide) ?_|refine Ru.neq_err rfl (by decide) ?_|refine Ru.be ?_|refine Ru.bn ?_|refine RuQ.be ?_|refine RuQ.bn ?_|refine CW.s ?_); conv => whnf)
  refine ⟨C.row, ?_⟩
  have ea : GF.mul (GF.mul (s 1) (s 2) ^^^ GF.mul (s 0) (s 3)) (GF.inv (GF.detN s)) = GF.aN s := rfl
  have eb : GF.mul (GF.mul (s 2) (s 2) ^^^ GF.mul (s 1) (s 3)) (GF.inv (GF.detN s)) = GF.bN s := rfl
  have hal := aN_lt hs
  have hbl := bN_lt hs
  conv => whnf
  repeat ((first
    | refine HS.t ?_|refine Br.t ?_|refine Br.f ?_|refine Pk.f ?_|refine Pk.t ?_|refine Pk.and ?_|refine Pk.or ?_|refine Ix.n ?_|refine Ix.of _ (by rfl) (by omega) ?_|refine Ix.i ?_|refine Ar.la ?_|refine Ar.lb ?_|refine Ar.lc ?_|refine Dv.q ?_|refine Dv.r ?_|refine Br.y ?_|refine Br.n ?_|refine Br.ny ?_|refine Br.nn ?_|refine Br.is (by assumption) ?_|refine Br.isnt (by assumption) ?_|refine Ld.of (by assumption) ?_|refine Ru.neq_nil0 ?_|refine Ru.n1 ?_|refine Ru.eql_nil0 ?_|refine Ru.e1 ?_|refine Ru.e2 ?_|refine Ru.e3 ?_|refine Ru.n2 ?_|refine Ru.n3 ?_|refine Ru.neq_nil rfl ?_|refine Ru.eql_nil rfl ?_|refine Ru.eql_err rfl (by decide) ?_|refine Ru.neq_err rfl (by decide) ?_|refine Ru.be ?_|refine Ru.bn ?_|refine RuQ.be ?_|refine RuQ.bn ?_|refine CW.s ?_); conv => whnf)
  rw [ea, eb]
  refine Ru.alloca (n := 2) (s := fun _ => .int .i64 0) (alloc2i _) ?_
  intro ag w13 hag hs13 ra k13
  have hl12 := C.fk.fs.lt
  have hl12b := C.row.lt
  have hl12c := C.wd.lt
  have hl12d := C.cod.row.lt
  have hl12e := C.cod.gen.lt
  have kp12 := C.fk.kp
  replace C : Ctx w c g h sg b d s W w13 := ⟨⟨C.fk.fs.keep0 k13, C.fk.kp.trans (k13.mono (by simp))⟩, C.cod.keep0 k13 (by simp) (by simp) (by simp), C.row.keep k13 (by simp), C.wd.keepS k13 (by simp), C.sgne, C.bne⟩
  conv => whnf
  repeat ((first
    | refine HS.t ?_|refine Br.t ?_|refine Br.f ?_|refine Pk.f ?_|refine Pk.t ?_|refine Pk.and ?_|refine Pk.or ?_|refine Ix.n ?_|refine Ix.of _ (by rfl) (by omega) ?_|refine Ix.i ?_|refine Ar.la ?_|refine Ar.lb ?_|refine Ar.lc ?_|refine Dv.q ?_|refine Dv.r ?_|refine Br.y ?_|refine Br.n ?_|refine Br.ny ?_|refine Br.nn ?_|refine Br.is (by assumption) ?_|refine Br.isnt (by assumption) ?_|refine Ld.of (by assumption) ?_|refine Ru.neq_nil0 ?_|refine Ru.n1 ?_|refine Ru.eql_nil0 ?_|refine Ru.e1 ?_|refine Ru.e2 ?_|refine Ru.e3 ?_|refine Ru.n2 ?_|refine Ru.n3 ?_|refine Ru.neq_nil rfl ?_|refine Ru.eql_nil rfl ?_|refine Ru.eql_err rfl (by decide) ?_|refine Ru.neq_err rfl (by decide) ?_|refine Ru.be ?_|refine Ru.bn ?_|refine RuQ.be ?_|refine RuQ.bn ?_|refine CW.s ?_); conv => whnf)
  have hne : ag ≠ g ∧ ag ≠ c ∧ ag ≠ h ∧ ag ≠ sg ∧ ag ≠ b ∧ w.heap.size ≤ ag := ⟨by omega, by omega, by omega, by omega, by omega, by have := kp12.size; omega⟩
  have eP : codF g h (0 + 0) = .pointer (some ⟨g, 0, none⟩) := rfl
  rw [eP]
  refine CW.loop (ι := Nat) (fun k w' => k ≤ 64 ∧ Ctx w c g h sg b d s W w' ∧ (GF.rootsL (GF.aN s) (GF.bN s) k).length ≤ 2 ∧ Row w' ag 144 2 (atF (GF.rootsL (GF.aN s) (GF.bN s) k))) (fun k => [(0, .pointer (some ⟨c, 0, none⟩)), (1, .slice (some ⟨b, 0, none⟩) 64 d), (5, .pointer (some ⟨sg, 0, none⟩)), (7, .pointer (some ⟨g, 0, none⟩)), (9, .int .u8 (GF.aN s : Nat)), (11, .int .u8 (GF.bN s : Nat)), (12, .pointer (some ⟨ag, 0, none⟩)), (13, .int .i64 ((GF.rootsL (GF.aN s) (GF.bN s) k).length : Nat)), (78, .int .i64 k)]) (fun k => 64 - k) 0 tt_ok ⟨by omega, C, by simp [GF.rootsL], ra.congr (fun i _ => by simp [GF.rootsL, atF])⟩ ⟨rfl, rfl, rfl, rfl, rfl, rfl, rfl, rfl, rfl, trivial⟩ ?_
  clear C ra k13
  rintro k wr ⟨hk, C, hlen, ra⟩
  by_cases hlt : k < 64
  · have hx := GF.pw_lt k
    have mxx := GF.mul_lt (a := GF.pw k) (b := GF.pw k) hx
    have max := GF.mul_lt (a := GF.aN s) (b := GF.pw k) hal
    have hrs := GF.rootsL_succ (GF.aN s) (GF.bN s) k
    generalize hL : GF.rootsL (GF.aN s) (GF.bN s) k = L at *
    conv => whnf
    repeat ((first
      | (refine Ca.cexp C k (by omega) ?_)
      | refine HS.t ?_|refine Br.t ?_|refine Br.f ?_|refine Pk.f ?_|refine Pk.t ?_|refine Pk.and ?_|refine Pk.or ?_|refine Ix.n ?_|refine Ix.of _ (by rfl) (by omega) ?_|refine Ix.i ?_|refine Ar.la ?_|refine Ar.lb ?_|refine Ar.lc ?_|refine Dv.q ?_|refine Dv.r ?_|refine Br.y ?_|refine Br.n ?_|refine Br.ny ?_|refine Br.nn ?_|refine Br.is (by assumption) ?_|refine Br.isnt (by assumption) ?_|refine Ld.of (by assumption) ?_|refine Ru.neq_nil0 ?_|refine Ru.n1 ?_|refine Ru.eql_nil0 ?_|refine Ru.e1 ?_|refine Ru.e2 ?_|refine Ru.e3 ?_|refine Ru.n2 ?_|refine Ru.n3 ?_|refine Ru.neq_nil rfl ?_|refine Ru.eql_nil rfl ?_|refine Ru.eql_err rfl (by decide) ?_|refine Ru.neq_err rfl (by decide) ?_|refine Ru.be ?_|refine Ru.bn ?_|refine RuQ.be ?_|refine RuQ.bn ?_|refine CW.s ?_); conv => whnf)
    clear C
    intro w14 C f
    replace ra := ra.keep f.kp (by simpa using hne.1)
    clear f
    conv => whnf
    repeat ((first
      | (refine Ca.cmul C (GF.pw k) (GF.pw k) hx hx ?_)
      | refine HS.t ?_|refine Br.t ?_|refine Br.f ?_|refine Pk.f ?_|refine Pk.t ?_|refine Pk.and ?_|refine Pk.or ?_|refine Ix.n ?_|refine Ix.of _ (by rfl) (by omega) ?_|refine Ix.i ?_|refine Ar.la ?_|refine Ar.lb ?_|refine Ar.lc ?_|refine Dv.q ?_|refine Dv.r ?_|refine Br.y ?_|refine Br.n ?_|refine Br.ny ?_|refine Br.nn ?_|refine Br.is (by assumption) ?_|refine Br.isnt (by assumption) ?_|refine Ld.of (by assumption) ?_|refine Ru.neq_nil0 ?_|refine Ru.n1 ?_|refine Ru.eql_nil0 ?_|refine Ru.e1 ?_|refine Ru.e2 ?_|refine Ru.e3 ?_|refine Ru.n2 ?_|refine Ru.n3 ?_|refine Ru.neq_nil rfl ?_|refine Ru.eql_nil rfl ?_|refine Ru.eql_err rfl (by decide) ?_|refine Ru.neq_err rfl (by decide) ?_|refine Ru.be ?_|refine Ru.bn ?_|refine RuQ.be ?_|refine RuQ.bn ?_|refine CW.s ?_); conv => whnf)
    clear C
    intro w15 C f
    replace ra := ra.keep f.kp (by simpa using hne.1)
    clear f
    conv => whnf
    repeat ((first
      | (refine Ca.cmul C (GF.aN s) (GF.pw k) hal hx ?_)
      | refine HS.t ?_|refine Br.t ?_|refine Br.f ?_|refine Pk.f ?_|refine Pk.t ?_|refine Pk.and ?_|refine Pk.or ?_|refine Ix.n ?_|refine Ix.of _ (by rfl) (by omega) ?_|refine Ix.i ?_|refine Ar.la ?_|refine Ar.lb ?_|refine Ar.lc ?_|refine Dv.q ?_|refine Dv.r ?_|refine Br.y ?_|refine Br.n ?_|refine Br.ny ?_|refine Br.nn ?_|refine Br.is (by assumption) ?_|refine Br.isnt (by assumption) ?_|refine Ld.of (by assumption) ?_|refine Ru.neq_nil0 ?_|refine Ru.n1 ?_|refine Ru.eql_nil0 ?_|refine Ru.e1 ?_|refine Ru.e2 ?_|refine Ru.e3 ?_|refine Ru.n2 ?_|refine Ru.n3 ?_|refine Ru.neq_nil rfl ?_|refine Ru.eql_nil rfl ?_|refine Ru.eql_err rfl (by decide) ?_|refine Ru.neq_err rfl (by decide) ?_|refine Ru.be ?_|refine Ru.bn ?_|refine RuQ.be ?_|refine RuQ.bn ?_|refine CW.s ?_); conv => whnf)
    clear C
    intro w16 C f
    replace ra := ra.keep f.kp (by simpa using hne.1)
    clear f
    have hbv : bitv .xor .u8 (bitv .xor .u8 (GF.mul (GF.pw k) (GF.pw k) : Nat) (GF.mul (GF.aN s) (GF.pw k) : Nat)) (GF.bN s : Nat) = ((GF.mul (GF.pw k) (GF.pw k) ^^^ GF.mul (GF.aN s) (GF.pw k) ^^^ GF.bN s : Nat) : Int) := by
      rw [bitv_xor8 mxx max, bitv_xor8 (GF.xor_lt mxx max) hbl]
    have hrb : GF.rootB (GF.aN s) (GF.bN s) k = (GF.mul (GF.pw k) (GF.pw k) ^^^ GF.mul (GF.aN s) (GF.pw k) ^^^ GF.bN s == 0) := rfl
    conv => whnf
    repeat ((first
      | refine HS.t ?_|refine Br.t ?_|refine Br.f ?_|refine Pk.f ?_|refine Pk.t ?_|refine Pk.and ?_|refine Pk.or ?_|refine Ix.n ?_|refine Ix.of _ (by rfl) (by omega) ?_|refine Ix.i ?_|refine Ar.la ?_|refine Ar.lb ?_|refine Ar.lc ?_|refine Dv.q ?_|refine Dv.r ?_|refine Br.y ?_|refine Br.n ?_|refine Br.ny ?_|refine Br.nn ?_|refine Br.is (by assumption) ?_|refine Br.isnt (by assumption) ?_|refine Ld.of (by assumption) ?_|refine Ru.neq_nil0 ?_|refine Ru.n1 ?_|refine Ru.eql_nil0 ?_|refine Ru.e1 ?_|refine Ru.e2 ?_|refine Ru.e3 ?_|refine Ru.n2 ?_|refine Ru.n3 ?_|refine Ru.neq_nil rfl ?_|refine Ru.eql_nil rfl ?_|refine Ru.eql_err rfl (by decide) ?_|refine Ru.neq_err rfl (by decide) ?_|refine Ru.be ?_|refine Ru.bn ?_|refine RuQ.be ?_|refine RuQ.bn ?_|refine CW.s ?_); conv => whnf)
    rw [hbv]
    generalize GF.mul (GF.pw k) (GF.pw k) ^^^ GF.mul (GF.aN s) (GF.pw k) ^^^ GF.bN s = z at *
    by_cases hz : z = 0
    · subst hz
      rw [hrb] at hrs
      replace hrs : GF.rootsL (GF.aN s) (GF.bN s) (k + 1) = L ++ [k] := hrs
      by_cases h2 : L.length = 2
      · conv => whnf
        repeat ((first
          | refine HS.t ?_|refine Br.t ?_|refine Br.f ?_|refine Pk.f ?_|refine Pk.t ?_|refine Pk.and ?_|refine Pk.or ?_|refine Ix.n ?_|refine Ix.of _ (by rfl) (by omega) ?_|refine Ix.i ?_|refine Ar.la ?_|refine Ar.lb ?_|refine Ar.lc ?_|refine Dv.q ?_|refine Dv.r ?_|refine Br.y ?_|refine Br.n ?_|refine Br.ny ?_|refine Br.nn ?_|refine Br.is (by assumption) ?_|refine Br.isnt (by assumption) ?_|refine Ld.of (by assumption) ?_|refine Ru.neq_nil0 ?_|refine Ru.n1 ?_|refine Ru.eql_nil0 ?_|refine Ru.e1 ?_|refine Ru.e2 ?_|refine Ru.e3 ?_|refine Ru.n2 ?_|refine Ru.n3 ?_|refine Ru.neq_nil rfl ?_|refine Ru.eql_nil rfl ?_|refine Ru.eql_err rfl (by decide) ?_|refine Ru.neq_err rfl (by decide) ?_|refine Ru.be ?_|refine Ru.bn ?_|refine RuQ.be ?_|refine RuQ.bn ?_|refine CW.s ?_); conv => whnf)
        exact ⟨rfl, C.fk.fs, kk C.fk.kp, .inr ⟨two_not (k := k + 1) (by omega) (by rw [hrs, List.length_append, h2]; simp), rfl, C.wd⟩⟩
      · conv => whnf
        repeat ((first
          | refine HS.t ?_|refine Br.t ?_|refine Br.f ?_|refine Pk.f ?_|refine Pk.t ?_|refine Pk.and ?_|refine Pk.or ?_|refine Ix.n ?_|refine Ix.of _ (by rfl) (by omega) ?_|refine Ix.i ?_|refine Ar.la ?_|refine Ar.lb ?_|refine Ar.lc ?_|refine Dv.q ?_|refine Dv.r ?_|refine Br.y ?_|refine Br.n ?_|refine Br.ny ?_|refine Br.nn ?_|refine Br.is (by assumption) ?_|refine Br.isnt (by assumption) ?_|refine Ld.of (by assumption) ?_|refine Ru.neq_nil0 ?_|refine Ru.n1 ?_|refine Ru.eql_nil0 ?_|refine Ru.e1 ?_|refine Ru.e2 ?_|refine Ru.e3 ?_|refine Ru.n2 ?_|refine Ru.n3 ?_|refine Ru.neq_nil rfl ?_|refine Ru.eql_nil rfl ?_|refine Ru.eql_err rfl (by decide) ?_|refine Ru.neq_err rfl (by decide) ?_|refine Ru.be ?_|refine Ru.bn ?_|refine RuQ.be ?_|refine RuQ.bn ?_|refine CW.s ?_); conv => whnf)
        refine Sd.rowAt ra L.length (by omega) (by omega) rfl ?_
        intro w17 ra2 k17
        conv => whnf
        repeat ((first
          | refine HS.t ?_|refine Br.t ?_|refine Br.f ?_|refine Pk.f ?_|refine Pk.t ?_|refine Pk.and ?_|refine Pk.or ?_|refine Ix.n ?_|refine Ix.of _ (by rfl) (by omega) ?_|refine Ix.i ?_|refine Ar.la ?_|refine Ar.lb ?_|refine Ar.lc ?_|refine Dv.q ?_|refine Dv.r ?_|refine Br.y ?_|refine Br.n ?_|refine Br.ny ?_|refine Br.nn ?_|refine Br.is (by assumption) ?_|refine Br.isnt (by assumption) ?_|refine Ld.of (by assumption) ?_|refine Ru.neq_nil0 ?_|refine Ru.n1 ?_|refine Ru.eql_nil0 ?_|refine Ru.e1 ?_|refine Ru.e2 ?_|refine Ru.e3 ?_|refine Ru.n2 ?_|refine Ru.n3 ?_|refine Ru.neq_nil rfl ?_|refine Ru.eql_nil rfl ?_|refine Ru.eql_err rfl (by decide) ?_|refine Ru.neq_err rfl (by decide) ?_|refine Ru.be ?_|refine Ru.bn ?_|refine RuQ.be ?_|refine RuQ.bn ?_|refine CW.s ?_); conv => whnf)
        refine ⟨k + 1, ⟨by omega, C.other k17 hne, by rw [hrs]; simp; omega, ra2.congr (fun i hi => ?_)⟩, ⟨rfl, rfl, rfl, rfl, rfl, rfl, rfl, vi (by rw [hrs]; simp), rfl, trivial⟩, by simp only; omega⟩
        rw [hrs]
        unfold put atF
        by_cases e : i = L.length
        · rw [if_pos e, e]
          simp
        · rw [if_neg e]
          by_cases e2 : i < L.length
          · rw [List.getElem?_append_left e2]
          · rw [List.getElem?_eq_none (by omega), List.getElem?_eq_none (by simp; omega)]
    · have hf : (z == 0) = false := by simpa using hz
      rw [hrb, hf] at hrs
      replace hrs : GF.rootsL (GF.aN s) (GF.bN s) (k + 1) = L := by rw [hrs]; simp
      conv => whnf
      repeat ((first
        | refine HS.t ?_|refine Br.t ?_|refine Br.f ?_|refine Pk.f ?_|refine Pk.t ?_|refine Pk.and ?_|refine Pk.or ?_|refine Ix.n ?_|refine Ix.of _ (by rfl) (by omega) ?_|refine Ix.i ?_|refine Ar.la ?_|refine Ar.lb ?_|refine Ar.lc ?_|refine Dv.q ?_|refine Dv.r ?_|refine Br.y ?_|refine Br.n ?_|refine Br.ny ?_|refine Br.nn ?_|refine Br.is (by assumption) ?_|refine Br.isnt (by assumption) ?_|refine Ld.of (by assumption) ?_|refine Ru.neq_nil0 ?_|refine Ru.n1 ?_|refine Ru.eql_nil0 ?_|refine Ru.e1 ?_|refine Ru.e2 ?_|refine Ru.e3 ?_|refine Ru.n2 ?_|refine Ru.n3 ?_|refine Ru.neq_nil rfl ?_|refine Ru.eql_nil rfl ?_|refine Ru.eql_err rfl (by decide) ?_|refine Ru.neq_err rfl (by decide) ?_|refine Ru.be ?_|refine Ru.bn ?_|refine RuQ.be ?_|refine RuQ.bn ?_|refine CW.s ?_); conv => whnf)
      exact ⟨k + 1, ⟨by omega, C, by rw [hrs]; exact hlen, by rw [hrs]; exact ra⟩, ⟨rfl, rfl, rfl, rfl, rfl, rfl, rfl, vi (by rw [hrs]), rfl, trivial⟩, by simp only; omega⟩
  · obtain rfl : k = 64 := by omega
    conv => whnf
    repeat ((first
      | refine HS.t ?_|refine Br.t ?_|refine Br.f ?_|refine Pk.f ?_|refine Pk.t ?_|refine Pk.and ?_|refine Pk.or ?_|refine Ix.n ?_|refine Ix.of _ (by rfl) (by omega) ?_|refine Ix.i ?_|refine Ar.la ?_|refine Ar.lb ?_|refine Ar.lc ?_|refine Dv.q ?_|refine Dv.r ?_|refine Br.y ?_|refine Br.n ?_|refine Br.ny ?_|refine Br.nn ?_|refine Br.is (by assumption) ?_|refine Br.isnt (by assumption) ?_|refine Ld.of (by assumption) ?_|refine Ru.neq_nil0 ?_|refine Ru.n1 ?_|refine Ru.eql_nil0 ?_|refine Ru.e1 ?_|refine Ru.e2 ?_|refine Ru.e3 ?_|refine Ru.n2 ?_|refine Ru.n3 ?_|refine Ru.neq_nil rfl ?_|refine Ru.eql_nil rfl ?_|refine Ru.eql_err rfl (by decide) ?_|refine Ru.neq_err rfl (by decide) ?_|refine Ru.be ?_|refine Ru.bn ?_|refine RuQ.be ?_|refine RuQ.bn ?_|refine CW.s ?_); conv => whnf)
    by_cases h2 : ¬ (GF.rootsL (GF.aN s) (GF.bN s) 64).length = 2
    · conv => whnf
      repeat ((first
        | refine HS.t ?_|refine Br.t ?_|refine Br.f ?_|refine Pk.f ?_|refine Pk.t ?_|refine Pk.and ?_|refine Pk.or ?_|refine Ix.n ?_|refine Ix.of _ (by rfl) (by omega) ?_|refine Ix.i ?_|refine Ar.la ?_|refine Ar.lb ?_|refine Ar.lc ?_|refine Dv.q ?_|refine Dv.r ?_|refine Br.y ?_|refine Br.n ?_|refine Br.ny ?_|refine Br.nn ?_|refine Br.is (by assumption) ?_|refine Br.isnt (by assumption) ?_|refine Ld.of (by assumption) ?_|refine Ru.neq_nil0 ?_|refine Ru.n1 ?_|refine Ru.eql_nil0 ?_|refine Ru.e1 ?_|refine Ru.e2 ?_|refine Ru.e3 ?_|refine Ru.n2 ?_|refine Ru.n3 ?_|refine Ru.neq_nil rfl ?_|refine Ru.eql_nil rfl ?_|refine Ru.eql_err rfl (by decide) ?_|refine Ru.neq_err rfl (by decide) ?_|refine Ru.be ?_|refine Ru.bn ?_|refine RuQ.be ?_|refine RuQ.bn ?_|refine CW.s ?_); conv => whnf)
      exact ⟨rfl, C.fk.fs, kk C.fk.kp, .inr ⟨fun k0 k1 o => h2 (by rw [o.roots]; rfl), rfl, C.wd⟩⟩
    obtain ⟨k0, k1, hL, hk01, hk1⟩ := roots_two (Decidable.not_not.1 h2)
    have h2 : (GF.rootsL (GF.aN s) (GF.bN s) 64).length = 2 := Decidable.not_not.1 h2
    rw [hL] at ra
    have ra0 : ∀ {w'}, Row w' ag 144 2 (atF [k0, k1]) → w'.cell? ⟨ag, 0, none⟩ = some (.int .i64 (k0 : Nat)) := fun r => r.cell 0 (by omega)
    have ra1 : ∀ {w'}, Row w' ag 144 2 (atF [k0, k1]) → w'.cell? ⟨ag, 1, none⟩ = some (.int .i64 (k1 : Nat)) := fun r => r.cell 1 (by omega)
    have hx := GF.pw_lt k0
    have hy := GF.pw_lt k1
    have m0y := GF.mul_lt (a := s 0) (b := GF.pw k1) (hs 0)
    conv => whnf
    repeat ((first
      | refine HS.t ?_|refine Br.t ?_|refine Br.f ?_|refine Pk.f ?_|refine Pk.t ?_|refine Pk.and ?_|refine Pk.or ?_|refine Ix.n ?_|refine Ix.of _ (by rfl) (by omega) ?_|refine Ix.i ?_|refine Ar.la ?_|refine Ar.lb ?_|refine Ar.lc ?_|refine Dv.q ?_|refine Dv.r ?_|refine Br.y ?_|refine Br.n ?_|refine Br.ny ?_|refine Br.nn ?_|refine Br.is (by assumption) ?_|refine Br.isnt (by assumption) ?_|refine Ld.of (by assumption) ?_|refine Ru.neq_nil0 ?_|refine Ru.n1 ?_|refine Ru.eql_nil0 ?_|refine Ru.e1 ?_|refine Ru.e2 ?_|refine Ru.e3 ?_|refine Ru.n2 ?_|refine Ru.n3 ?_|refine Ru.neq_nil rfl ?_|refine Ru.eql_nil rfl ?_|refine Ru.eql_err rfl (by decide) ?_|refine Ru.neq_err rfl (by decide) ?_|refine Ru.be ?_|refine Ru.bn ?_|refine RuQ.be ?_|refine RuQ.bn ?_|refine CW.s ?_); conv => whnf)
    refine CW.held (fun w' => Row w' ag 144 2 (atF [k0, k1])) [] (.take 0 (.take 1 (.take 2 (.take 4 (.take 5 (.take 6 (.one 3 (.one 7 (.take 8 (.take 9 (.done))))))))))) tt_ok (by kernel_rfl) (by kernel_rfl) (by kernel_rfl) ?_ ?_
    · exact ra.drewN 1
    replace C := C.draw
    replace ra := ra.drewN 1
    generalize wr.drewN 1 = w14 at *
    conv => whnf
    repeat ((first
      | (refine LdQ.at (j := 0) (by omega) (fun _ h => ra0 h) ?_)
      | (refine LdQ.at (j := 1) (by omega) (fun _ h => ra1 h) ?_)
      | refine HS.t ?_|refine Br.t ?_|refine Br.f ?_|refine Pk.f ?_|refine Pk.t ?_|refine Pk.and ?_|refine Pk.or ?_|refine Ix.n ?_|refine Ix.of _ (by rfl) (by omega) ?_|refine Ix.i ?_|refine Ar.la ?_|refine Ar.lb ?_|refine Ar.lc ?_|refine Dv.q ?_|refine Dv.r ?_|refine Br.y ?_|refine Br.n ?_|refine Br.ny ?_|refine Br.nn ?_|refine Br.is (by assumption) ?_|refine Br.isnt (by assumption) ?_|refine Ld.of (by assumption) ?_|refine Ru.neq_nil0 ?_|refine Ru.n1 ?_|refine Ru.eql_nil0 ?_|refine Ru.e1 ?_|refine Ru.e2 ?_|refine Ru.e3 ?_|refine Ru.n2 ?_|refine Ru.n3 ?_|refine Ru.neq_nil rfl ?_|refine Ru.eql_nil rfl ?_|refine Ru.eql_err rfl (by decide) ?_|refine Ru.neq_err rfl (by decide) ?_|refine Ru.be ?_|refine Ru.bn ?_|refine RuQ.be ?_|refine RuQ.bn ?_|refine CW.s ?_); conv => whnf)
    refine Ca.cexp C k0 (by omega) ?_
    clear C
    intro w15 C f
    replace ra := ra.keep f.kp (by simpa using hne.1)
    clear f
    conv => whnf
    repeat ((first
      | refine HS.t ?_|refine Br.t ?_|refine Br.f ?_|refine Pk.f ?_|refine Pk.t ?_|refine Pk.and ?_|refine Pk.or ?_|refine Ix.n ?_|refine Ix.of _ (by rfl) (by omega) ?_|refine Ix.i ?_|refine Ar.la ?_|refine Ar.lb ?_|refine Ar.lc ?_|refine Dv.q ?_|refine Dv.r ?_|refine Br.y ?_|refine Br.n ?_|refine Br.ny ?_|refine Br.nn ?_|refine Br.is (by assumption) ?_|refine Br.isnt (by assumption) ?_|refine Ld.of (by assumption) ?_|refine Ru.neq_nil0 ?_|refine Ru.n1 ?_|refine Ru.eql_nil0 ?_|refine Ru.e1 ?_|refine Ru.e2 ?_|refine Ru.e3 ?_|refine Ru.n2 ?_|refine Ru.n3 ?_|refine Ru.neq_nil rfl ?_|refine Ru.eql_nil rfl ?_|refine Ru.eql_err rfl (by decide) ?_|refine Ru.neq_err rfl (by decide) ?_|refine Ru.be ?_|refine Ru.bn ?_|refine RuQ.be ?_|refine RuQ.bn ?_|refine CW.s ?_); conv => whnf)
    refine ⟨ra, ?_⟩
    conv => whnf
    repeat ((first
      | refine HS.t ?_|refine Br.t ?_|refine Br.f ?_|refine Pk.f ?_|refine Pk.t ?_|refine Pk.and ?_|refine Pk.or ?_|refine Ix.n ?_|refine Ix.of _ (by rfl) (by omega) ?_|refine Ix.i ?_|refine Ar.la ?_|refine Ar.lb ?_|refine Ar.lc ?_|refine Dv.q ?_|refine Dv.r ?_|refine Br.y ?_|refine Br.n ?_|refine Br.ny ?_|refine Br.nn ?_|refine Br.is (by assumption) ?_|refine Br.isnt (by assumption) ?_|refine Ld.of (by assumption) ?_|refine Ru.neq_nil0 ?_|refine Ru.n1 ?_|refine Ru.eql_nil0 ?_|refine Ru.e1 ?_|refine Ru.e2 ?_|refine Ru.e3 ?_|refine Ru.n2 ?_|refine Ru.n3 ?_|refine Ru.neq_nil rfl ?_|refine Ru.eql_nil rfl ?_|refine Ru.eql_err rfl (by decide) ?_|refine Ru.neq_err rfl (by decide) ?_|refine Ru.be ?_|refine Ru.bn ?_|refine RuQ.be ?_|refine RuQ.bn ?_|refine CW.s ?_); conv => whnf)
    refine Ca.cexp C k1 (by omega) ?_
    clear C
    intro w16 C f
    replace ra := ra.keep f.kp (by simpa using hne.1)
    clear f
    conv => whnf
    repeat ((first
      | refine HS.t ?_|refine Br.t ?_|refine Br.f ?_|refine Pk.f ?_|refine Pk.t ?_|refine Pk.and ?_|refine Pk.or ?_|refine Ix.n ?_|refine Ix.of _ (by rfl) (by omega) ?_|refine Ix.i ?_|refine Ar.la ?_|refine Ar.lb ?_|refine Ar.lc ?_|refine Dv.q ?_|refine Dv.r ?_|refine Br.y ?_|refine Br.n ?_|refine Br.ny ?_|refine Br.nn ?_|refine Br.is (by assumption) ?_|refine Br.isnt (by assumption) ?_|refine Ld.of (by assumption) ?_|refine Ru.neq_nil0 ?_|refine Ru.n1 ?_|refine Ru.eql_nil0 ?_|refine Ru.e1 ?_|refine Ru.e2 ?_|refine Ru.e3 ?_|refine Ru.n2 ?_|refine Ru.n3 ?_|refine Ru.neq_nil rfl ?_|refine Ru.eql_nil rfl ?_|refine Ru.eql_err rfl (by decide) ?_|refine Ru.neq_err rfl (by decide) ?_|refine Ru.be ?_|refine Ru.bn ?_|refine RuQ.be ?_|refine RuQ.bn ?_|refine CW.s ?_); conv => whnf)
    refine ⟨ra, ?_⟩
    conv => whnf
    repeat ((first
      | refine HS.t ?_|refine Br.t ?_|refine Br.f ?_|refine Pk.f ?_|refine Pk.t ?_|refine Pk.and ?_|refine Pk.or ?_|refine Ix.n ?_|refine Ix.of _ (by rfl) (by omega) ?_|refine Ix.i ?_|refine Ar.la ?_|refine Ar.lb ?_|refine Ar.lc ?_|refine Dv.q ?_|refine Dv.r ?_|refine Br.y ?_|refine Br.n ?_|refine Br.ny ?_|refine Br.nn ?_|refine Br.is (by assumption) ?_|refine Br.isnt (by assumption) ?_|refine Ld.of (by assumption) ?_|refine Ru.neq_nil0 ?_|refine Ru.n1 ?_|refine Ru.eql_nil0 ?_|refine Ru.e1 ?_|refine Ru.e2 ?_|refine Ru.e3 ?_|refine Ru.n2 ?_|refine Ru.n3 ?_|refine Ru.neq_nil rfl ?_|refine Ru.eql_nil rfl ?_|refine Ru.eql_err rfl (by decide) ?_|refine Ru.neq_err rfl (by decide) ?_|refine Ru.be ?_|refine Ru.bn ?_|refine RuQ.be ?_|refine RuQ.bn ?_|refine CW.s ?_); conv => whnf)
    refine CW.held (fun w' => Row w' sg 117 6 (sF s)) [] (.take 0 (.take 1 (.take 2 (.take 3 (.take 4 (.take 5 (.take 6 (.take 9 (.take 10 (.take 11 (.one 7 (.take 8 (.one 12 (.take 13 (.take 14 (.take 15 (.take 16 (.take 17 (.done))))))))))))))))))) tt_ok (by kernel_rfl) (by kernel_rfl) (by kernel_rfl) ?_ ?_
    · exact C.draw.row
    replace C := C.draw
    replace ra := ra.drewN 1
    generalize w16.drewN 1 = w17 at *
    conv => whnf
    repeat ((first
      | (refine LdQ.row (fun _ h => h) (by decide) ?_)
      | refine HS.t ?_|refine Br.t ?_|refine Br.f ?_|refine Pk.f ?_|refine Pk.t ?_|refine Pk.and ?_|refine Pk.or ?_|refine Ix.n ?_|refine Ix.of _ (by rfl) (by omega) ?_|refine Ix.i ?_|refine Ar.la ?_|refine Ar.lb ?_|refine Ar.lc ?_|refine Dv.q ?_|refine Dv.r ?_|refine Br.y ?_|refine Br.n ?_|refine Br.ny ?_|refine Br.nn ?_|refine Br.is (by assumption) ?_|refine Br.isnt (by assumption) ?_|refine Ld.of (by assumption) ?_|refine Ru.neq_nil0 ?_|refine Ru.n1 ?_|refine Ru.eql_nil0 ?_|refine Ru.e1 ?_|refine Ru.e2 ?_|refine Ru.e3 ?_|refine Ru.n2 ?_|refine Ru.n3 ?_|refine Ru.neq_nil rfl ?_|refine Ru.eql_nil rfl ?_|refine Ru.eql_err rfl (by decide) ?_|refine Ru.neq_err rfl (by decide) ?_|refine Ru.be ?_|refine Ru.bn ?_|refine RuQ.be ?_|refine RuQ.bn ?_|refine CW.s ?_); conv => whnf)
    refine Ca.cmul C (s 0) (GF.pw k1) (hs 0) hy ?_
    clear C
    intro w18 C f
    replace ra := ra.keep f.kp (by simpa using hne.1)
    clear f
    conv => whnf
    repeat ((first
      | refine HS.t ?_|refine Br.t ?_|refine Br.f ?_|refine Pk.f ?_|refine Pk.t ?_|refine Pk.and ?_|refine Pk.or ?_|refine Ix.n ?_|refine Ix.of _ (by rfl) (by omega) ?_|refine Ix.i ?_|refine Ar.la ?_|refine Ar.lb ?_|refine Ar.lc ?_|refine Dv.q ?_|refine Dv.r ?_|refine Br.y ?_|refine Br.n ?_|refine Br.ny ?_|refine Br.nn ?_|refine Br.is (by assumption) ?_|refine Br.isnt (by assumption) ?_|refine Ld.of (by assumption) ?_|refine Ru.neq_nil0 ?_|refine Ru.n1 ?_|refine Ru.eql_nil0 ?_|refine Ru.e1 ?_|refine Ru.e2 ?_|refine Ru.e3 ?_|refine Ru.n2 ?_|refine Ru.n3 ?_|refine Ru.neq_nil rfl ?_|refine Ru.eql_nil rfl ?_|refine Ru.eql_err rfl (by decide) ?_|refine Ru.neq_err rfl (by decide) ?_|refine Ru.be ?_|refine Ru.bn ?_|refine RuQ.be ?_|refine RuQ.bn ?_|refine CW.s ?_); conv => whnf)
    refine ⟨C.row, ?_⟩
    have hxy := GF.pw_ne (i := k0) (j := k1) (by omega) (by omega) (by omega)
    have hel := GF.errN_lt hs k0 k1
    have eE : GF.mul (s 1 ^^^ GF.mul (s 0) (GF.pw k1)) (GF.inv (GF.pw k0 ^^^ GF.pw k1)) = GF.errN s k0 k1 := rfl
    conv => whnf
    repeat ((first
      | refine HS.t ?_|refine Br.t ?_|refine Br.f ?_|refine Pk.f ?_|refine Pk.t ?_|refine Pk.and ?_|refine Pk.or ?_|refine Ix.n ?_|refine Ix.of _ (by rfl) (by omega) ?_|refine Ix.i ?_|refine Ar.la ?_|refine Ar.lb ?_|refine Ar.lc ?_|refine Dv.q ?_|refine Dv.r ?_|refine Br.y ?_|refine Br.n ?_|refine Br.ny ?_|refine Br.nn ?_|refine Br.is (by assumption) ?_|refine Br.isnt (by assumption) ?_|refine Ld.of (by assumption) ?_|refine Ru.neq_nil0 ?_|refine Ru.n1 ?_|refine Ru.eql_nil0 ?_|refine Ru.e1 ?_|refine Ru.e2 ?_|refine Ru.e3 ?_|refine Ru.n2 ?_|refine Ru.n3 ?_|refine Ru.neq_nil rfl ?_|refine Ru.eql_nil rfl ?_|refine Ru.eql_err rfl (by decide) ?_|refine Ru.neq_err rfl (by decide) ?_|refine Ru.be ?_|refine Ru.bn ?_|refine RuQ.be ?_|refine RuQ.bn ?_|refine CW.s ?_); conv => whnf)
    refine Ca.cdivAt C (s 1 ^^^ GF.mul (s 0) (GF.pw k1)) (GF.pw k0 ^^^ GF.pw k1) (bitv_xor8 (hs 1) m0y) (bitv_xor8 hx hy) (GF.xor_lt (hs 1) m0y) (GF.xor_lt hx hy) hxy ?_
    clear C
    intro w19 C f
    replace ra := ra.keep f.kp (by simpa using hne.1)
    clear f
    rw [eE]
    conv => whnf
    repeat ((first
      | refine HS.t ?_|refine Br.t ?_|refine Br.f ?_|refine Pk.f ?_|refine Pk.t ?_|refine Pk.and ?_|refine Pk.or ?_|refine Ix.n ?_|refine Ix.of _ (by rfl) (by omega) ?_|refine Ix.i ?_|refine Ar.la ?_|refine Ar.lb ?_|refine Ar.lc ?_|refine Dv.q ?_|refine Dv.r ?_|refine Br.y ?_|refine Br.n ?_|refine Br.ny ?_|refine Br.nn ?_|refine Br.is (by assumption) ?_|refine Br.isnt (by assumption) ?_|refine Ld.of (by assumption) ?_|refine Ru.neq_nil0 ?_|refine Ru.n1 ?_|refine Ru.eql_nil0 ?_|refine Ru.e1 ?_|refine Ru.e2 ?_|refine Ru.e3 ?_|refine Ru.n2 ?_|refine Ru.n3 ?_|refine Ru.neq_nil rfl ?_|refine Ru.eql_nil rfl ?_|refine Ru.eql_err rfl (by decide) ?_|refine Ru.neq_err rfl (by decide) ?_|refine Ru.be ?_|refine Ru.bn ?_|refine RuQ.be ?_|refine RuQ.bn ?_|refine CW.s ?_); conv => whnf)
    refine ⟨C.row, ?_⟩
    generalize hEq : GF.errN s k0 k1 = e at *
    have l0 : w19.cell? ⟨sg, 0, none⟩ = some (.int .u8 (s 0 : Nat)) := C.row.cell 0 (by omega)
    have hnot : (e = 0 ∨ e = s 0) → ∀ a0 a1, ¬ GF.TwoOk s a0 a1 := fun hh a0 a1 o => by
      have := o.roots
      rw [hL] at this
      injection this with e1 e2
      injection e2 with e2 _
      subst e1 e2
      rcases hh with hh | hh
      · exact o.e0 (hEq.trans hh)
      · exact o.e1 (hEq.trans hh)
    by_cases he0 : e = 0
    · conv => whnf
      repeat ((first
        | refine HS.t ?_|refine Br.t ?_|refine Br.f ?_|refine Pk.f ?_|refine Pk.t ?_|refine Pk.and ?_|refine Pk.or ?_|refine Ix.n ?_|refine Ix.of _ (by rfl) (by omega) ?_|refine Ix.i ?_|refine Ar.la ?_|refine Ar.lb ?_|refine Ar.lc ?_|refine Dv.q ?_|refine Dv.r ?_|refine Br.y ?_|refine Br.n ?_|refine Br.ny ?_|refine Br.nn ?_|refine Br.is (by assumption) ?_|refine Br.isnt (by assumption) ?_|refine Ld.of (by assumption) ?_|refine Ru.neq_nil0 ?_|refine Ru.n1 ?_|refine Ru.eql_nil0 ?_|refine Ru.e1 ?_|refine Ru.e2 ?_|refine Ru.e3 ?_|refine Ru.n2 ?_|refine Ru.n3 ?_|refine Ru.neq_nil rfl ?_|refine Ru.eql_nil rfl ?_|refine Ru.eql_err rfl (by decide) ?_|refine Ru.neq_err rfl (by decide) ?_|refine Ru.be ?_|refine Ru.bn ?_|refine RuQ.be ?_|refine RuQ.bn ?_|refine CW.s ?_); conv => whnf)
      exact ⟨rfl, C.fk.fs, kk C.fk.kp, .inr ⟨hnot (.inl he0), rfl, C.wd⟩⟩
    by_cases he1 : e = s 0
    · conv => whnf
      repeat ((first
        | refine HS.t ?_|refine Br.t ?_|refine Br.f ?_|refine Pk.f ?_|refine Pk.t ?_|refine Pk.and ?_|refine Pk.or ?_|refine Ix.n ?_|refine Ix.of _ (by rfl) (by omega) ?_|refine Ix.i ?_|refine Ar.la ?_|refine Ar.lb ?_|refine Ar.lc ?_|refine Dv.q ?_|refine Dv.r ?_|refine Br.y ?_|refine Br.n ?_|refine Br.ny ?_|refine Br.nn ?_|refine Br.is (by assumption) ?_|refine Br.isnt (by assumption) ?_|refine Ld.of (by assumption) ?_|refine Ru.neq_nil0 ?_|refine Ru.n1 ?_|refine Ru.eql_nil0 ?_|refine Ru.e1 ?_|refine Ru.e2 ?_|refine Ru.e3 ?_|refine Ru.n2 ?_|refine Ru.n3 ?_|refine Ru.neq_nil rfl ?_|refine Ru.eql_nil rfl ?_|refine Ru.eql_err rfl (by decide) ?_|refine Ru.neq_err rfl (by decide) ?_|refine Ru.be ?_|refine Ru.bn ?_|refine RuQ.be ?_|refine RuQ.bn ?_|refine CW.s ?_); conv => whnf)
      exact ⟨rfl, C.fk.fs, kk C.fk.kp, .inr ⟨hnot (.inr he1), rfl, C.wd⟩⟩
    have hp0 : w19.cell? ⟨ag, 0, none⟩ = some (.int .i64 (k0 : Nat)) := ra0 ra
    have hw0 := hW (63 - k0)
    have hw1 := hW (63 - k1)
    conv => whnf
    repeat ((first
      | (refine Ca.of (rsplace_ok w19 k0 (by omega)) ?_)
      | refine HS.t ?_|refine Br.t ?_|refine Br.f ?_|refine Pk.f ?_|refine Pk.t ?_|refine Pk.and ?_|refine Pk.or ?_|refine Ix.n ?_|refine Ix.of _ (by rfl) (by omega) ?_|refine Ix.i ?_|refine Ar.la ?_|refine Ar.lb ?_|refine Ar.lc ?_|refine Dv.q ?_|refine Dv.r ?_|refine Br.y ?_|refine Br.n ?_|refine Br.ny ?_|refine Br.nn ?_|refine Br.is (by assumption) ?_|refine Br.isnt (by assumption) ?_|refine Ld.of (by assumption) ?_|refine Ru.neq_nil0 ?_|refine Ru.n1 ?_|refine Ru.eql_nil0 ?_|refine Ru.e1 ?_|refine Ru.e2 ?_|refine Ru.e3 ?_|refine Ru.n2 ?_|refine Ru.n3 ?_|refine Ru.neq_nil rfl ?_|refine Ru.eql_nil rfl ?_|refine Ru.eql_err rfl (by decide) ?_|refine Ru.neq_err rfl (by decide) ?_|refine Ru.be ?_|refine Ru.bn ?_|refine RuQ.be ?_|refine RuQ.bn ?_|refine CW.s ?_); conv => whnf)
    rintro _ w20 ⟨rfl, rfl⟩
    conv => whnf
    repeat ((first
      | (refine Ix.of (63 - k0) (by omega) (by omega) ?_)
      | (refine Ld.at (j := 63 - k0) (by omega) (C.wd.at (by omega)).1 ?_)
      | refine HS.t ?_|refine Br.t ?_|refine Br.f ?_|refine Pk.f ?_|refine Pk.t ?_|refine Pk.and ?_|refine Pk.or ?_|refine Ix.n ?_|refine Ix.of _ (by rfl) (by omega) ?_|refine Ix.i ?_|refine Ar.la ?_|refine Ar.lb ?_|refine Ar.lc ?_|refine Dv.q ?_|refine Dv.r ?_|refine Br.y ?_|refine Br.n ?_|refine Br.ny ?_|refine Br.nn ?_|refine Br.is (by assumption) ?_|refine Br.isnt (by assumption) ?_|refine Ld.of (by assumption) ?_|refine Ru.neq_nil0 ?_|refine Ru.n1 ?_|refine Ru.eql_nil0 ?_|refine Ru.e1 ?_|refine Ru.e2 ?_|refine Ru.e3 ?_|refine Ru.n2 ?_|refine Ru.n3 ?_|refine Ru.neq_nil rfl ?_|refine Ru.eql_nil rfl ?_|refine Ru.eql_err rfl (by decide) ?_|refine Ru.neq_err rfl (by decide) ?_|refine Ru.be ?_|refine Ru.bn ?_|refine RuQ.be ?_|refine RuQ.bn ?_|refine CW.s ?_); conv => whnf)
    refine Sd.wd C.wd (63 - k0) (W (63 - k0) ^^^ e) (by omega) (by omega) (bitv_xor8 hw0 hel) ?_
    intro w21 wd21 k21
    have hbne : b ≠ ag := hne.2.2.2.2.1.symm
    have hrow21 := C.row.keep k21 (by simp; omega)
    replace ra := ra.keep k21 (by simpa using hbne.symm)
    have hgb : g ≠ b := C.bne.symm
    have fs21 := C.fk.fs.keep k21 (by simpa using hgb)
    have kp21 : Keep [g, b] w w21 := (kk C.fk.kp).trans (k21.mono (by simp))
    have hw1' : (if 63 - k1 = 63 - k0 then W (63 - k0) ^^^ e else W (63 - k1)) = W (63 - k1) := if_neg (by omega)
    have he0' : e ^^^ s 0 < 256 := GF.xor_lt hel (hs 0)
    have hxx : bitv .xor .u8 (W (63 - k1) : Nat) (bitv .xor .u8 (e : Nat) (s 0 : Nat)) = ((W (63 - k1) ^^^ (e ^^^ s 0) : Nat) : Int) := by
      rw [bitv_xor8 hel (hs 0), bitv_xor8 hw1 he0']
    have rd1 : ∀ {w'}, Wd w' b d (fun i => if i = 63 - k0 then W (63 - k0) ^^^ e else W i) → w'.cell? ⟨b, 63 - k1, none⟩ = some (.int .u8 (W (63 - k1) : Nat)) := fun h => by
      have := (h.at (j := 63 - k1) (by omega)).1
      rw [hw1'] at this
      exact this
    conv => whnf
    repeat ((first
      | refine HS.t ?_|refine Br.t ?_|refine Br.f ?_|refine Pk.f ?_|refine Pk.t ?_|refine Pk.and ?_|refine Pk.or ?_|refine Ix.n ?_|refine Ix.of _ (by rfl) (by omega) ?_|refine Ix.i ?_|refine Ar.la ?_|refine Ar.lb ?_|refine Ar.lc ?_|refine Dv.q ?_|refine Dv.r ?_|refine Br.y ?_|refine Br.n ?_|refine Br.ny ?_|refine Br.nn ?_|refine Br.is (by assumption) ?_|refine Br.isnt (by assumption) ?_|refine Ld.of (by assumption) ?_|refine Ru.neq_nil0 ?_|refine Ru.n1 ?_|refine Ru.eql_nil0 ?_|refine Ru.e1 ?_|refine Ru.e2 ?_|refine Ru.e3 ?_|refine Ru.n2 ?_|refine Ru.n3 ?_|refine Ru.neq_nil rfl ?_|refine Ru.eql_nil rfl ?_|refine Ru.eql_err rfl (by decide) ?_|refine Ru.neq_err rfl (by decide) ?_|refine Ru.be ?_|refine Ru.bn ?_|refine RuQ.be ?_|refine RuQ.bn ?_|refine CW.s ?_); conv => whnf)
    refine CW.held (fun w' => Row w' ag 144 2 (atF [k0, k1]) ∧ Row w' sg 117 6 (sF s) ∧ Wd w' b d (fun i => if i = 63 - k0 then W (63 - k0) ^^^ e else W i)) [12] (.take 0 (.take 1 (.take 2 (.take 6 (.take 7 (.take 8 (.take 9 (.one 3 (.take 4 (.take 5 (.take 10 (.take 11 (.one 12 (.done)))))))))))))) tt_ok (by kernel_rfl) (by kernel_rfl) (by kernel_rfl) ?_ ?_
    · exact ⟨ra.drewN 1, hrow21.drewN 1, wd21.keep0 ((Keep.refl _ _).drewN 1)⟩
    replace ra := ra.drewN 1
    replace hrow21 := hrow21.drewN 1
    replace wd21 : Wd (w21.drewN 1) b d _ := wd21.keep0 ((Keep.refl _ _).drewN 1)
    replace fs21 := fs21.drewN 1
    replace kp21 := kp21.drewN 1
    generalize w21.drewN 1 = w22 at *
    conv => whnf
    repeat ((first
      | (refine LdQ.at (j := 1) (by omega) (fun _ h => ra1 h.1) ?_)
      | (refine LdQ.at (j := 0) (by omega) (fun _ h => h.2.1.cell 0 (by omega)) ?_)
      | (refine LdQ.at (j := 63 - k1) (by omega) (fun _ h => rd1 h.2.2) ?_)
      | refine HS.t ?_|refine Br.t ?_|refine Br.f ?_|refine Pk.f ?_|refine Pk.t ?_|refine Pk.and ?_|refine Pk.or ?_|refine Ix.n ?_|refine Ix.of _ (by rfl) (by omega) ?_|refine Ix.i ?_|refine Ar.la ?_|refine Ar.lb ?_|refine Ar.lc ?_|refine Dv.q ?_|refine Dv.r ?_|refine Br.y ?_|refine Br.n ?_|refine Br.ny ?_|refine Br.nn ?_|refine Br.is (by assumption) ?_|refine Br.isnt (by assumption) ?_|refine Ld.of (by assumption) ?_|refine Ru.neq_nil0 ?_|refine Ru.n1 ?_|refine Ru.eql_nil0 ?_|refine Ru.e1 ?_|refine Ru.e2 ?_|refine Ru.e3 ?_|refine Ru.n2 ?_|refine Ru.n3 ?_|refine Ru.neq_nil rfl ?_|refine Ru.eql_nil rfl ?_|refine Ru.eql_err rfl (by decide) ?_|refine Ru.neq_err rfl (by decide) ?_|refine Ru.be ?_|refine Ru.bn ?_|refine RuQ.be ?_|refine RuQ.bn ?_|refine CW.s ?_); conv => whnf)
    refine Ca.of (rsplace_ok w22 k1 (by omega)) ?_
    rintro _ w23 ⟨rfl, rfl⟩
    conv => whnf
    repeat ((first
      | refine HS.t ?_|refine Br.t ?_|refine Br.f ?_|refine Pk.f ?_|refine Pk.t ?_|refine Pk.and ?_|refine Pk.or ?_|refine Ix.n ?_|refine Ix.of _ (by rfl) (by omega) ?_|refine Ix.i ?_|refine Ar.la ?_|refine Ar.lb ?_|refine Ar.lc ?_|refine Dv.q ?_|refine Dv.r ?_|refine Br.y ?_|refine Br.n ?_|refine Br.ny ?_|refine Br.nn ?_|refine Br.is (by assumption) ?_|refine Br.isnt (by assumption) ?_|refine Ld.of (by assumption) ?_|refine Ru.neq_nil0 ?_|refine Ru.n1 ?_|refine Ru.eql_nil0 ?_|refine Ru.e1 ?_|refine Ru.e2 ?_|refine Ru.e3 ?_|refine Ru.n2 ?_|refine Ru.n3 ?_|refine Ru.neq_nil rfl ?_|refine Ru.eql_nil rfl ?_|refine Ru.eql_err rfl (by decide) ?_|refine Ru.neq_err rfl (by decide) ?_|refine Ru.be ?_|refine Ru.bn ?_|refine RuQ.be ?_|refine RuQ.bn ?_|refine CW.s ?_); conv => whnf)
    refine ⟨⟨ra, hrow21, wd21⟩, ?_⟩
    conv => whnf
    repeat ((first
      | (refine Ix.of (63 - k1) (by omega) (by omega) ?_)
      | (refine LdQ.at (j := 63 - k1) (by omega) (fun _ h => rd1 h.2.2) ?_)
      | refine HS.t ?_|refine Br.t ?_|refine Br.f ?_|refine Pk.f ?_|refine Pk.t ?_|refine Pk.and ?_|refine Pk.or ?_|refine Ix.n ?_|refine Ix.of _ (by rfl) (by omega) ?_|refine Ix.i ?_|refine Ar.la ?_|refine Ar.lb ?_|refine Ar.lc ?_|refine Dv.q ?_|refine Dv.r ?_|refine Br.y ?_|refine Br.n ?_|refine Br.ny ?_|refine Br.nn ?_|refine Br.is (by assumption) ?_|refine Br.isnt (by assumption) ?_|refine Ld.of (by assumption) ?_|refine Ru.neq_nil0 ?_|refine Ru.n1 ?_|refine Ru.eql_nil0 ?_|refine Ru.e1 ?_|refine Ru.e2 ?_|refine Ru.e3 ?_|refine Ru.n2 ?_|refine Ru.n3 ?_|refine Ru.neq_nil rfl ?_|refine Ru.eql_nil rfl ?_|refine Ru.eql_err rfl (by decide) ?_|refine Ru.neq_err rfl (by decide) ?_|refine Ru.be ?_|refine Ru.bn ?_|refine RuQ.be ?_|refine RuQ.bn ?_|refine CW.s ?_); conv => whnf)
    refine Sd.wd wd21 (63 - k1) (W (63 - k1) ^^^ (e ^^^ s 0)) (by omega) (by omega) hxx ?_
    intro w24 wd24 k24
    conv => whnf
    repeat ((first
      | refine HS.t ?_|refine Br.t ?_|refine Br.f ?_|refine Pk.f ?_|refine Pk.t ?_|refine Pk.and ?_|refine Pk.or ?_|refine Ix.n ?_|refine Ix.of _ (by rfl) (by omega) ?_|refine Ix.i ?_|refine Ar.la ?_|refine Ar.lb ?_|refine Ar.lc ?_|refine Dv.q ?_|refine Dv.r ?_|refine Br.y ?_|refine Br.n ?_|refine Br.ny ?_|refine Br.nn ?_|refine Br.is (by assumption) ?_|refine Br.isnt (by assumption) ?_|refine Ld.of (by assumption) ?_|refine Ru.neq_nil0 ?_|refine Ru.n1 ?_|refine Ru.eql_nil0 ?_|refine Ru.e1 ?_|refine Ru.e2 ?_|refine Ru.e3 ?_|refine Ru.n2 ?_|refine Ru.n3 ?_|refine Ru.neq_nil rfl ?_|refine Ru.eql_nil rfl ?_|refine Ru.eql_err rfl (by decide) ?_|refine Ru.neq_err rfl (by decide) ?_|refine Ru.be ?_|refine Ru.bn ?_|refine RuQ.be ?_|refine RuQ.bn ?_|refine CW.s ?_); conv => whnf)
    refine ⟨rfl, fs21.keep k24 (by simpa using hgb), kp21.trans (k24.mono (by simp)), .inl ⟨k0, k1, ⟨hd0, hL, by rw [hEq]; exact he0, by rw [hEq]; exact he1⟩, rfl, wd24.congr (fun i _ => ?_)⟩⟩
    unfold GF.fix2 GF.fix
    rw [hEq]
    by_cases e1 : i = 63 - k1
    · have e0 : ¬ i = 63 - k0 := by omega
      subst e1
      simp only [if_true, if_neg e0]
    · simp only [if_neg e1]
      by_cases e0 : i = 63 - k0
      · simp only [if_pos e0, e0]
      · simp only [if_neg e0]
end Go.Proofs.Ytkpaafjnjmmehaa
/- Layer 2: Decode. -/
namespace Go.Proofs.Ytkpaafjnjmmehaa
open Go.RowKit
set_option linter.unusedVariables false
set_option maxRecDepth 20000
attribute [local irreducible] GF.pw GF.lg GF.mul GF.inv GF.xt
theorem byte_sz : szIs Try.prog 5 1 = true := by kernel_rfl
theorem build6 (w : World) : (Instr.build 117 #[]).run Try.prog w = .ok (agg 6 (fun _ => .int .u8 0)) w := by kernel_rfl
def nil6 (s : Nat → Nat) : Bool := (List.range 6).all fun j => (s j : Int) == 0
theorem nil6_iff (s : Nat → Nat) : nil6 s = true ↔ ∀ j, j < 6 → s j = 0 := by
  unfold nil6
  rw [List.all_eq_true]
  constructor
  · intro h j hj
    have := h j (List.mem_range.2 hj)
    simpa using this
  · intro h j hj
    have := h j (List.mem_range.1 hj)
    simp [this]
theorem guard6 : Try.prog.eqGuardType Try.prog.depth 117 = false := by kernel_rfl
theorem eql6 {w : World} {x y : Operand} (s : Nat → Nat) : (do eqGuard .eql 117 x y (agg 6 (sF s)) (agg 6 (fun _ => .int .u8 0)); binOp .eql 117 (agg 6 (sF s)) (agg 6 (fun _ => .int .u8 0)) : Sem Value).run Try.prog w = .ok (.bool (nil6 s)) w := by
  rw [Sem.run_bind, guard_agg _ _ _ _ _ _ _ _ guard6, Result.andThen_ok]
  exact run_eql_arr (fun j => (s j : Int)) (fun _ => 0) Try.underlying117 Try.underlying5 (by kernel_rfl) w
theorem neq6 {w : World} {x y : Operand} (s : Nat → Nat) : (do eqGuard .neq 117 x y (agg 6 (sF s)) (agg 6 (fun _ => .int .u8 0)); binOp .neq 117 (agg 6 (sF s)) (agg 6 (fun _ => .int .u8 0)) : Sem Value).run Try.prog w = .ok (.bool (!nil6 s)) w := by
  rw [Sem.run_bind, guard_agg _ _ _ _ _ _ _ _ guard6, Result.andThen_ok]
  exact run_neq_arr (fun j => (s j : Int)) (fun _ => 0) Try.underlying117 Try.underlying5 (by kernel_rfl) w
/-- What Decode answers at 64 bytes p. -/
def DecEnd (w : World) (g : Nat) (p : Nat → Nat) (v : Value) (w' : World) : Prop :=
  FK w g w' ∧ ((∃ b d V, w.heap.size ≤ b ∧ (∀ i, V i < 256) ∧ GF.IsCw V ∧ GF.dist V p ≤ 2 ∧ v = .tuple #[.slice (some ⟨b, 0, none⟩) 58 58, .int .i64 (GF.dist V p : Nat), errOf 0] ∧ Wd w' b d V) ∨
    (v = .tuple #[.slice none 0 0, .int .i64 0, errOf 5] ∧ ∀ C : Nat → Nat, (∀ i, C i < 256) → GF.IsCw C → 2 < GF.dist C p))
theorem sF_syn (p : Nat → Nat) : synF p = sF (GF.syn p) := rfl
theorem Cod.next {S : List Nat} {w w' : World} {c g h : Nat} (H : Cod w c g h) (k : Keep S w w') (hc : c ∉ S) (hh : h ∉ S) (f : FS w' g) : Cod w' c g h := ⟨H.row.keep k hc, H.gen.keep k hh, f, H.cg, H.hg⟩
theorem dist_self (p : Nat → Nat) : GF.dist p p = 0 := by
  unfold GF.dist GF.difL
  simp
/-- What is wrong cannot be mended. -/
theorem dec_none {p : Nat → Nat} (hp : ∀ j, p j < 256) (h0 : ¬ GF.IsCw p) (h1 : ¬ GF.OneOk (GF.syn p)) (h2 : ∀ k0 k1, GF.TwoOk (GF.syn p) k0 k1 → ¬ GF.IsCw (GF.fix2 p (GF.syn p) k0 k1)) (C : Nat → Nat) (hC : ∀ i, C i < 256) (hc : GF.IsCw C) : 2 < GF.dist C p := by
  refine Nat.lt_of_not_le (fun hle => ?_)
  have h3 : GF.dist C p = 0 ∨ GF.dist C p = 1 ∨ GF.dist C p = 2 := by omega
  rcases h3 with h3 | h3 | h3
  · have he : ∀ i, i < 64 → C i = p i := fun i hi => by
      unfold GF.dist at h3
      have hn := List.eq_nil_of_length_eq_zero h3
      by_cases e : C i = p i
      · exact e
      · have : i ∈ GF.difL C p := List.mem_filter.2 ⟨List.mem_range.2 hi, decide_eq_true e⟩
        rw [hn] at this
        cases this
    exact h0 (fun j hj => by rw [← GF.syn_congr he j]; exact hc j hj)
  · exact h1 (GF.one_complete hC hp hc h3)
  · obtain ⟨k0, k1, ht, he⟩ := GF.two_complete hC hp hc h3
    exact h2 k0 k1 ht (fun j hj => by rw [GF.syn_congr he j]; exact hc j hj)
set_option maxHeartbeats 4000000 in
theorem dec_ok (w : World) (c g h d : Nat) (A : Option Addr) (p : Nat → Nat) (hp : ∀ j, p j < 256) (r : RdB w A 64 p) (hd : 64 ≤ d) (hA : ∀ a, A = some a → a.block ≠ g) (H : Cod w c g h) :
    Spec Try.prog 46 #[.pointer (some ⟨c, 0, none⟩), .slice A 64 d] w (DecEnd w g p) := by
  have hAn : A = none → d = 0 := fun e => by
    obtain ⟨b, o, e2, _⟩ := r (by omega)
    rw [e] at e2
    cases e2
  refine spec_of_wpE (T := tt) tt_ok Try.func46 rfl (by decide +kernel) Try.ntmps46 (by simp) ?_
  conv => whnf
  repeat ((first
    | refine HS.t ?_|refine Br.t ?_|refine Br.f ?_|refine Pk.f ?_|refine Pk.t ?_|refine Pk.and ?_|refine Pk.or ?_|refine Ix.n ?_|refine Ix.of _ (by rfl) (by omega) ?_|refine Ix.i ?_|refine Ar.la ?_|refine Ar.lb ?_|refine Ar.lc ?_|refine Dv.q ?_|refine Dv.r ?_|refine Br.y ?_|refine Br.n ?_|refine Br.ny ?_|refine Br.nn ?_|refine Br.is (by assumption) ?_|refine Br.isnt (by assumption) ?_|refine Ld.of (by assumption) ?_|refine Ru.neq_nil0 ?_|refine Ru.n1 ?_|refine Ru.eql_nil0 ?_|refine Ru.e1 ?_|refine Ru.e2 ?_|refine Ru.e3 ?_|refine Ru.n2 ?_|refine Ru.n3 ?_|refine Ru.neq_nil rfl ?_|refine Ru.eql_nil rfl ?_|refine Ru.eql_err rfl (by decide) ?_|refine Ru.neq_err rfl (by decide) ?_|refine Ru.be ?_|refine Ru.bn ?_|refine RuQ.be ?_|refine RuQ.bn ?_|refine CW.s ?_); conv => whnf)
  refine Bu.grow (Own.start w (fun _ => 0)) (fun j => (p j : Int)) r hd hAn (by omega) ?_
  intro Y e w1 O k1
  obtain ⟨b, rfl, -, -⟩ := O.ly.at1 (j := 0) (by omega)
  have hbn : w.heap.size ≤ b := O.new b (List.mem_singleton.2 rfl)
  have W1 : Wd w1 b e p := O.ly.congr (fun j _ => by simp)
  clear O
  have gl := H.fs.lt
  have cl := H.row.lt
  have hl := H.gen.lt
  have k1 : Keep [] w w1 := k1
  have C1 := H.keep0 k1 (by simp) (by simp) (by simp)
  have f1 : FK w g w1 := ⟨C1.fs, k1.mono (by simp)⟩
  have hbg : b ≠ g := by omega
  have hw1l := W1.lt
  rw [show 0 + 64 = 64 from rfl]
  conv => whnf
  repeat ((first
    | refine HS.t ?_|refine Br.t ?_|refine Br.f ?_|refine Pk.f ?_|refine Pk.t ?_|refine Pk.and ?_|refine Pk.or ?_|refine Ix.n ?_|refine Ix.of _ (by rfl) (by omega) ?_|refine Ix.i ?_|refine Ar.la ?_|refine Ar.lb ?_|refine Ar.lc ?_|refine Dv.q ?_|refine Dv.r ?_|refine Br.y ?_|refine Br.n ?_|refine Br.ny ?_|refine Br.nn ?_|refine Br.is (by assumption) ?_|refine Br.isnt (by assumption) ?_|refine Ld.of (by assumption) ?_|refine Ru.neq_nil0 ?_|refine Ru.n1 ?_|refine Ru.eql_nil0 ?_|refine Ru.e1 ?_|refine Ru.e2 ?_|refine Ru.e3 ?_|refine Ru.n2 ?_|refine Ru.n3 ?_|refine Ru.neq_nil rfl ?_|refine Ru.eql_nil rfl ?_|refine Ru.eql_err rfl (by decide) ?_|refine Ru.neq_err rfl (by decide) ?_|refine Ru.be ?_|refine Ru.bn ?_|refine RuQ.be ?_|refine RuQ.bn ?_|refine CW.s ?_); conv => whnf)
  refine Ca.of (syn_ok w1 c g h e (some ⟨b, 0, none⟩) p hp W1.rd1 (fun a e => by cases e; exact hbg) C1) ?_
  rintro _ w2 ⟨rfl, f2⟩
  rw [sF_syn]
  have hs := GF.syn_lt hp
  have C2 := C1.of f2
  have W2 := W1.keepS f2.kp (by simpa using hbg)
  have f12 : FK w g w2 := ⟨f2.fs, f1.kp.trans f2.kp⟩
  conv => whnf
  repeat ((first
    | refine HS.t ?_|refine Br.t ?_|refine Br.f ?_|refine Pk.f ?_|refine Pk.t ?_|refine Pk.and ?_|refine Pk.or ?_|refine Ix.n ?_|refine Ix.of _ (by rfl) (by omega) ?_|refine Ix.i ?_|refine Ar.la ?_|refine Ar.lb ?_|refine Ar.lc ?_|refine Dv.q ?_|refine Dv.r ?_|refine Br.y ?_|refine Br.n ?_|refine Br.ny ?_|refine Br.nn ?_|refine Br.is (by assumption) ?_|refine Br.isnt (by assumption) ?_|refine Ld.of (by assumption) ?_|refine Ru.neq_nil0 ?_|refine Ru.n1 ?_|refine Ru.eql_nil0 ?_|refine Ru.e1 ?_|refine Ru.e2 ?_|refine Ru.e3 ?_|refine Ru.n2 ?_|refine Ru.n3 ?_|refine Ru.neq_nil rfl ?_|refine Ru.eql_nil rfl ?_|refine Ru.eql_err rfl (by decide) ?_|refine Ru.neq_err rfl (by decide) ?_|refine Ru.be ?_|refine Ru.bn ?_|refine RuQ.be ?_|refine RuQ.bn ?_|refine CW.s ?_); conv => whnf)
  refine Ru.alloca (n := 6) (s := fun _ => .int .u8 0) (alloc6 _) ?_
  intro sg w3 hsg hs3 rs k3
  have hs2 := f2.kp.size
  have C3 := C2.keep0 k3 (by simp) (by simp) (by simp)
  have W3 := W2.keepS k3 (by simp)
  have f3 : FK w g w3 := ⟨C3.fs, f12.kp.trans (k3.mono (by simp))⟩
  have w1s := k1.size
  conv => whnf
  repeat ((first
    | refine HS.t ?_|refine Br.t ?_|refine Br.f ?_|refine Pk.f ?_|refine Pk.t ?_|refine Pk.and ?_|refine Pk.or ?_|refine Ix.n ?_|refine Ix.of _ (by rfl) (by omega) ?_|refine Ix.i ?_|refine Ar.la ?_|refine Ar.lb ?_|refine Ar.lc ?_|refine Dv.q ?_|refine Dv.r ?_|refine Br.y ?_|refine Br.n ?_|refine Br.ny ?_|refine Br.nn ?_|refine Br.is (by assumption) ?_|refine Br.isnt (by assumption) ?_|refine Ld.of (by assumption) ?_|refine Ru.neq_nil0 ?_|refine Ru.n1 ?_|refine Ru.eql_nil0 ?_|refine Ru.e1 ?_|refine Ru.e2 ?_|refine Ru.e3 ?_|refine Ru.n2 ?_|refine Ru.n3 ?_|refine Ru.neq_nil rfl ?_|refine Ru.eql_nil rfl ?_|refine Ru.eql_err rfl (by decide) ?_|refine Ru.neq_err rfl (by decide) ?_|refine Ru.be ?_|refine Ru.bn ?_|refine RuQ.be ?_|refine RuQ.bn ?_|refine CW.s ?_); conv => whnf)
  refine Ru.sta rs size6 (by omega) (fun i _ => rfl) ?_
  intro w4 rs4 k4
  have hsn : sg ≠ g ∧ sg ≠ c ∧ sg ≠ h ∧ sg ≠ b := ⟨by omega, by omega, by omega, by omega⟩
  have C4 := C3.keep0 k4 (by simpa using hsn.2.1.symm) (by simpa using hsn.1.symm) (by simpa using hsn.2.2.1.symm)
  have W4 := W3.keepS k4 (by simpa using hsn.2.2.2.symm)
  have f4 : FK w g w4 := ⟨C4.fs, f3.kp.then k4 (fun x hx => .inr (by rw [List.mem_singleton.1 hx]; omega))⟩
  have rs4 : Row w4 sg 117 6 (sF (GF.syn p)) := rs4.congr (fun i hi => by unfold lay; rw [if_pos (by omega)]; rfl)
  clear C3 W3 f3 C2 W2 f12 f2 rs k3 C1 W1 f1 k4
  conv => whnf
  repeat ((first
    | refine HS.t ?_|refine Br.t ?_|refine Br.f ?_|refine Pk.f ?_|refine Pk.t ?_|refine Pk.and ?_|refine Pk.or ?_|refine Ix.n ?_|refine Ix.of _ (by rfl) (by omega) ?_|refine Ix.i ?_|refine Ar.la ?_|refine Ar.lb ?_|refine Ar.lc ?_|refine Dv.q ?_|refine Dv.r ?_|refine Br.y ?_|refine Br.n ?_|refine Br.ny ?_|refine Br.nn ?_|refine Br.is (by assumption) ?_|refine Br.isnt (by assumption) ?_|refine Ld.of (by assumption) ?_|refine Ru.neq_nil0 ?_|refine Ru.n1 ?_|refine Ru.eql_nil0 ?_|refine Ru.e1 ?_|refine Ru.e2 ?_|refine Ru.e3 ?_|refine Ru.n2 ?_|refine Ru.n3 ?_|refine Ru.neq_nil rfl ?_|refine Ru.eql_nil rfl ?_|refine Ru.eql_err rfl (by decide) ?_|refine Ru.neq_err rfl (by decide) ?_|refine Ru.be ?_|refine Ru.bn ?_|refine RuQ.be ?_|refine RuQ.bn ?_|refine CW.s ?_); conv => whnf)
  refine Ru.ldaC (q := sF (GF.syn p)) rs4 Try.underlying117 rfl size6 (by omega) (fun i _ => by rw [Nat.zero_add]) ?_
  conv => whnf
  repeat ((first
    | refine HS.t ?_|refine Br.t ?_|refine Br.f ?_|refine Pk.f ?_|refine Pk.t ?_|refine Pk.and ?_|refine Pk.or ?_|refine Ix.n ?_|refine Ix.of _ (by rfl) (by omega) ?_|refine Ix.i ?_|refine Ar.la ?_|refine Ar.lb ?_|refine Ar.lc ?_|refine Dv.q ?_|refine Dv.r ?_|refine Br.y ?_|refine Br.n ?_|refine Br.ny ?_|refine Br.nn ?_|refine Br.is (by assumption) ?_|refine Br.isnt (by assumption) ?_|refine Ld.of (by assumption) ?_|refine Ru.neq_nil0 ?_|refine Ru.n1 ?_|refine Ru.eql_nil0 ?_|refine Ru.e1 ?_|refine Ru.e2 ?_|refine Ru.e3 ?_|refine Ru.n2 ?_|refine Ru.n3 ?_|refine Ru.neq_nil rfl ?_|refine Ru.eql_nil rfl ?_|refine Ru.eql_err rfl (by decide) ?_|refine Ru.neq_err rfl (by decide) ?_|refine Ru.be ?_|refine Ru.bn ?_|refine RuQ.be ?_|refine RuQ.bn ?_|refine CW.s ?_); conv => whnf)
  refine Ru.of (build6 _) ?_
  conv => whnf
  repeat ((first
    | refine HS.t ?_|refine Br.t ?_|refine Br.f ?_|refine Pk.f ?_|refine Pk.t ?_|refine Pk.and ?_|refine Pk.or ?_|refine Ix.n ?_|refine Ix.of _ (by rfl) (by omega) ?_|refine Ix.i ?_|refine Ar.la ?_|refine Ar.lb ?_|refine Ar.lc ?_|refine Dv.q ?_|refine Dv.r ?_|refine Br.y ?_|refine Br.n ?_|refine Br.ny ?_|refine Br.nn ?_|refine Br.is (by assumption) ?_|refine Br.isnt (by assumption) ?_|refine Ld.of (by assumption) ?_|refine Ru.neq_nil0 ?_|refine Ru.n1 ?_|refine Ru.eql_nil0 ?_|refine Ru.e1 ?_|refine Ru.e2 ?_|refine Ru.e3 ?_|refine Ru.n2 ?_|refine Ru.n3 ?_|refine Ru.neq_nil rfl ?_|refine Ru.eql_nil rfl ?_|refine Ru.eql_err rfl (by decide) ?_|refine Ru.neq_err rfl (by decide) ?_|refine Ru.be ?_|refine Ru.bn ?_|refine RuQ.be ?_|refine RuQ.bn ?_|refine CW.s ?_); conv => whnf)
  refine Ru.of (eql6 _) ?_
  conv => whnf
  repeat ((first
    | refine HS.t ?_|refine Br.t ?_|refine Br.f ?_|refine Pk.f ?_|refine Pk.t ?_|refine Pk.and ?_|refine Pk.or ?_|refine Ix.n ?_|refine Ix.of _ (by rfl) (by omega) ?_|refine Ix.i ?_|refine Ar.la ?_|refine Ar.lb ?_|refine Ar.lc ?_|refine Dv.q ?_|refine Dv.r ?_|refine Br.y ?_|refine Br.n ?_|refine Br.ny ?_|refine Br.nn ?_|refine Br.is (by assumption) ?_|refine Br.isnt (by assumption) ?_|refine Ld.of (by assumption) ?_|refine Ru.neq_nil0 ?_|refine Ru.n1 ?_|refine Ru.eql_nil0 ?_|refine Ru.e1 ?_|refine Ru.e2 ?_|refine Ru.e3 ?_|refine Ru.n2 ?_|refine Ru.n3 ?_|refine Ru.neq_nil rfl ?_|refine Ru.eql_nil rfl ?_|refine Ru.eql_err rfl (by decide) ?_|refine Ru.neq_err rfl (by decide) ?_|refine Ru.be ?_|refine Ru.bn ?_|refine RuQ.be ?_|refine RuQ.bn ?_|refine CW.s ?_); conv => whnf)
  by_cases hz : nil6 (GF.syn p) = true
  · conv => whnf
    repeat ((first
      | refine HS.t ?_|refine Br.t ?_|refine Br.f ?_|refine Pk.f ?_|refine Pk.t ?_|refine Pk.and ?_|refine Pk.or ?_|refine Ix.n ?_|refine Ix.of _ (by rfl) (by omega) ?_|refine Ix.i ?_|refine Ar.la ?_|refine Ar.lb ?_|refine Ar.lc ?_|refine Dv.q ?_|refine Dv.r ?_|refine Br.y ?_|refine Br.n ?_|refine Br.ny ?_|refine Br.nn ?_|refine Br.is (by assumption) ?_|refine Br.isnt (by assumption) ?_|refine Ld.of (by assumption) ?_|refine Ru.neq_nil0 ?_|refine Ru.n1 ?_|refine Ru.eql_nil0 ?_|refine Ru.e1 ?_|refine Ru.e2 ?_|refine Ru.e3 ?_|refine Ru.n2 ?_|refine Ru.n3 ?_|refine Ru.neq_nil rfl ?_|refine Ru.eql_nil rfl ?_|refine Ru.eql_err rfl (by decide) ?_|refine Ru.neq_err rfl (by decide) ?_|refine Ru.be ?_|refine Ru.bn ?_|refine RuQ.be ?_|refine RuQ.bn ?_|refine CW.s ?_); conv => whnf)
    refine Ru.sl_hm (h := 58) (m := 58) Try.underlying22 byte_sz (by omega) (by have := W4.1; omega) ?_
    conv => whnf
    repeat ((first
      | refine HS.t ?_|refine Br.t ?_|refine Br.f ?_|refine Pk.f ?_|refine Pk.t ?_|refine Pk.and ?_|refine Pk.or ?_|refine Ix.n ?_|refine Ix.of _ (by rfl) (by omega) ?_|refine Ix.i ?_|refine Ar.la ?_|refine Ar.lb ?_|refine Ar.lc ?_|refine Dv.q ?_|refine Dv.r ?_|refine Br.y ?_|refine Br.n ?_|refine Br.ny ?_|refine Br.nn ?_|refine Br.is (by assumption) ?_|refine Br.isnt (by assumption) ?_|refine Ld.of (by assumption) ?_|refine Ru.neq_nil0 ?_|refine Ru.n1 ?_|refine Ru.eql_nil0 ?_|refine Ru.e1 ?_|refine Ru.e2 ?_|refine Ru.e3 ?_|refine Ru.n2 ?_|refine Ru.n3 ?_|refine Ru.neq_nil rfl ?_|refine Ru.eql_nil rfl ?_|refine Ru.eql_err rfl (by decide) ?_|refine Ru.neq_err rfl (by decide) ?_|refine Ru.be ?_|refine Ru.bn ?_|refine RuQ.be ?_|refine RuQ.bn ?_|refine CW.s ?_); conv => whnf)
    have hcw : GF.IsCw p := (nil6_iff _).1 hz
    exact ⟨rfl, f4, .inl ⟨b, e, p, hbn, hp, hcw, by rw [dist_self]; omega, by rw [dist_self]; rfl, W4⟩⟩
  have hz : nil6 (GF.syn p) = false := by simpa using hz
  have hncw : ¬ GF.IsCw p := fun hc => by
    rw [(nil6_iff _).2 hc] at hz
    cases hz
  conv => whnf
  repeat ((first
    | refine HS.t ?_|refine Br.t ?_|refine Br.f ?_|refine Pk.f ?_|refine Pk.t ?_|refine Pk.and ?_|refine Pk.or ?_|refine Ix.n ?_|refine Ix.of _ (by rfl) (by omega) ?_|refine Ix.i ?_|refine Ar.la ?_|refine Ar.lb ?_|refine Ar.lc ?_|refine Dv.q ?_|refine Dv.r ?_|refine Br.y ?_|refine Br.n ?_|refine Br.ny ?_|refine Br.nn ?_|refine Br.is (by assumption) ?_|refine Br.isnt (by assumption) ?_|refine Ld.of (by assumption) ?_|refine Ru.neq_nil0 ?_|refine Ru.n1 ?_|refine Ru.eql_nil0 ?_|refine Ru.e1 ?_|refine Ru.e2 ?_|refine Ru.e3 ?_|refine Ru.n2 ?_|refine Ru.n3 ?_|refine Ru.neq_nil rfl ?_|refine Ru.eql_nil rfl ?_|refine Ru.eql_err rfl (by decide) ?_|refine Ru.neq_err rfl (by decide) ?_|refine Ru.be ?_|refine Ru.bn ?_|refine RuQ.be ?_|refine RuQ.bn ?_|refine CW.s ?_); conv => whnf)
  refine Ru.ldaC (q := sF (GF.syn p)) rs4 Try.underlying117 rfl size6 (by omega) (fun i _ => by rw [Nat.zero_add]) ?_
  conv => whnf
  repeat ((first
    | refine HS.t ?_|refine Br.t ?_|refine Br.f ?_|refine Pk.f ?_|refine Pk.t ?_|refine Pk.and ?_|refine Pk.or ?_|refine Ix.n ?_|refine Ix.of _ (by rfl) (by omega) ?_|refine Ix.i ?_|refine Ar.la ?_|refine Ar.lb ?_|refine Ar.lc ?_|refine Dv.q ?_|refine Dv.r ?_|refine Br.y ?_|refine Br.n ?_|refine Br.ny ?_|refine Br.nn ?_|refine Br.is (by assumption) ?_|refine Br.isnt (by assumption) ?_|refine Ld.of (by assumption) ?_|refine Ru.neq_nil0 ?_|refine Ru.n1 ?_|refine Ru.eql_nil0 ?_|refine Ru.e1 ?_|refine Ru.e2 ?_|refine Ru.e3 ?_|refine Ru.n2 ?_|refine Ru.n3 ?_|refine Ru.neq_nil rfl ?_|refine Ru.eql_nil rfl ?_|refine Ru.eql_err rfl (by decide) ?_|refine Ru.neq_err rfl (by decide) ?_|refine Ru.be ?_|refine Ru.bn ?_|refine RuQ.be ?_|refine RuQ.bn ?_|refine CW.s ?_); conv => whnf)
  have hbc : b ≠ c := by omega
  have hbh : b ≠ h := by omega
  refine Ca.of (one_ok w4 c g h b e p (GF.syn p) hp hs W4 hbg C4 hbc) ?_
  rintro v w5 ⟨fs5, k5, hv⟩
  have C5 := C4.next k5 (by simp; exact ⟨H.cg, fun e => hbc e.symm⟩) (by simp; exact ⟨H.hg, fun e => hbh e.symm⟩) fs5
  have rs5 := rs4.keep k5 (by simp; exact ⟨hsn.1, hsn.2.2.2⟩)
  have f5 : FK w g w5 := ⟨fs5, f4.kp.then k5 (fun x hx => by
    rcases List.mem_cons.1 hx with rfl | hx
    · exact .inl (by simp)
    · exact .inr (by rw [List.mem_singleton.1 hx]; exact hbn))⟩
  clear C4 W4 f4 rs4 k5
  rcases hv with ⟨h1, rfl, W5⟩ | ⟨h1, rfl, W5⟩
  · obtain ⟨hcw, hdist⟩ := GF.one_sound hp h1
    have hV : ∀ i, GF.fix p (63 - GF.lg (GF.oneX (GF.syn p))) (GF.syn p 0) i < 256 := GF.fix_lt hp (hs 0)
    generalize GF.fix p (63 - GF.lg (GF.oneX (GF.syn p))) (GF.syn p 0) = V at *
    have hzV : nil6 (GF.syn V) = true := (nil6_iff _).2 hcw
    conv => whnf
    repeat ((first
      | (refine Ca.of (syn_ok w5 c g h e (some ⟨b, 0, none⟩) V hV W5.rd1 (fun a e => by cases e; exact hbg) C5) ?_)
      | refine HS.t ?_|refine Br.t ?_|refine Br.f ?_|refine Pk.f ?_|refine Pk.t ?_|refine Pk.and ?_|refine Pk.or ?_|refine Ix.n ?_|refine Ix.of _ (by rfl) (by omega) ?_|refine Ix.i ?_|refine Ar.la ?_|refine Ar.lb ?_|refine Ar.lc ?_|refine Dv.q ?_|refine Dv.r ?_|refine Br.y ?_|refine Br.n ?_|refine Br.ny ?_|refine Br.nn ?_|refine Br.is (by assumption) ?_|refine Br.isnt (by assumption) ?_|refine Ld.of (by assumption) ?_|refine Ru.neq_nil0 ?_|refine Ru.n1 ?_|refine Ru.eql_nil0 ?_|refine Ru.e1 ?_|refine Ru.e2 ?_|refine Ru.e3 ?_|refine Ru.n2 ?_|refine Ru.n3 ?_|refine Ru.neq_nil rfl ?_|refine Ru.eql_nil rfl ?_|refine Ru.eql_err rfl (by decide) ?_|refine Ru.neq_err rfl (by decide) ?_|refine Ru.be ?_|refine Ru.bn ?_|refine RuQ.be ?_|refine RuQ.bn ?_|refine CW.s ?_); conv => whnf)
    rintro _ w6 ⟨rfl, f6⟩
    rw [sF_syn]
    conv => whnf
    repeat ((first
      | refine HS.t ?_|refine Br.t ?_|refine Br.f ?_|refine Pk.f ?_|refine Pk.t ?_|refine Pk.and ?_|refine Pk.or ?_|refine Ix.n ?_|refine Ix.of _ (by rfl) (by omega) ?_|refine Ix.i ?_|refine Ar.la ?_|refine Ar.lb ?_|refine Ar.lc ?_|refine Dv.q ?_|refine Dv.r ?_|refine Br.y ?_|refine Br.n ?_|refine Br.ny ?_|refine Br.nn ?_|refine Br.is (by assumption) ?_|refine Br.isnt (by assumption) ?_|refine Ld.of (by assumption) ?_|refine Ru.neq_nil0 ?_|refine Ru.n1 ?_|refine Ru.eql_nil0 ?_|refine Ru.e1 ?_|refine Ru.e2 ?_|refine Ru.e3 ?_|refine Ru.n2 ?_|refine Ru.n3 ?_|refine Ru.neq_nil rfl ?_|refine Ru.eql_nil rfl ?_|refine Ru.eql_err rfl (by decide) ?_|refine Ru.neq_err rfl (by decide) ?_|refine Ru.be ?_|refine Ru.bn ?_|refine RuQ.be ?_|refine RuQ.bn ?_|refine CW.s ?_); conv => whnf)
    refine Ru.of (build6 _) ?_
    conv => whnf
    repeat ((first
      | refine HS.t ?_|refine Br.t ?_|refine Br.f ?_|refine Pk.f ?_|refine Pk.t ?_|refine Pk.and ?_|refine Pk.or ?_|refine Ix.n ?_|refine Ix.of _ (by rfl) (by omega) ?_|refine Ix.i ?_|refine Ar.la ?_|refine Ar.lb ?_|refine Ar.lc ?_|refine Dv.q ?_|refine Dv.r ?_|refine Br.y ?_|refine Br.n ?_|refine Br.ny ?_|refine Br.nn ?_|refine Br.is (by assumption) ?_|refine Br.isnt (by assumption) ?_|refine Ld.of (by assumption) ?_|refine Ru.neq_nil0 ?_|refine Ru.n1 ?_|refine Ru.eql_nil0 ?_|refine Ru.e1 ?_|refine Ru.e2 ?_|refine Ru.e3 ?_|refine Ru.n2 ?_|refine Ru.n3 ?_|refine Ru.neq_nil rfl ?_|refine Ru.eql_nil rfl ?_|refine Ru.eql_err rfl (by decide) ?_|refine Ru.neq_err rfl (by decide) ?_|refine Ru.be ?_|refine Ru.bn ?_|refine RuQ.be ?_|refine RuQ.bn ?_|refine CW.s ?_); conv => whnf)
    refine Ru.of (neq6 _) ?_
    rw [hzV]
    conv => whnf
    repeat ((first
      | refine HS.t ?_|refine Br.t ?_|refine Br.f ?_|refine Pk.f ?_|refine Pk.t ?_|refine Pk.and ?_|refine Pk.or ?_|refine Ix.n ?_|refine Ix.of _ (by rfl) (by omega) ?_|refine Ix.i ?_|refine Ar.la ?_|refine Ar.lb ?_|refine Ar.lc ?_|refine Dv.q ?_|refine Dv.r ?_|refine Br.y ?_|refine Br.n ?_|refine Br.ny ?_|refine Br.nn ?_|refine Br.is (by assumption) ?_|refine Br.isnt (by assumption) ?_|refine Ld.of (by assumption) ?_|refine Ru.neq_nil0 ?_|refine Ru.n1 ?_|refine Ru.eql_nil0 ?_|refine Ru.e1 ?_|refine Ru.e2 ?_|refine Ru.e3 ?_|refine Ru.n2 ?_|refine Ru.n3 ?_|refine Ru.neq_nil rfl ?_|refine Ru.eql_nil rfl ?_|refine Ru.eql_err rfl (by decide) ?_|refine Ru.neq_err rfl (by decide) ?_|refine Ru.be ?_|refine Ru.bn ?_|refine RuQ.be ?_|refine RuQ.bn ?_|refine CW.s ?_); conv => whnf)
    refine Ru.sl_hm (h := 58) (m := 58) Try.underlying22 byte_sz (by omega) (by have := W5.1; omega) ?_
    conv => whnf
    repeat ((first
      | refine HS.t ?_|refine Br.t ?_|refine Br.f ?_|refine Pk.f ?_|refine Pk.t ?_|refine Pk.and ?_|refine Pk.or ?_|refine Ix.n ?_|refine Ix.of _ (by rfl) (by omega) ?_|refine Ix.i ?_|refine Ar.la ?_|refine Ar.lb ?_|refine Ar.lc ?_|refine Dv.q ?_|refine Dv.r ?_|refine Br.y ?_|refine Br.n ?_|refine Br.ny ?_|refine Br.nn ?_|refine Br.is (by assumption) ?_|refine Br.isnt (by assumption) ?_|refine Ld.of (by assumption) ?_|refine Ru.neq_nil0 ?_|refine Ru.n1 ?_|refine Ru.eql_nil0 ?_|refine Ru.e1 ?_|refine Ru.e2 ?_|refine Ru.e3 ?_|refine Ru.n2 ?_|refine Ru.n3 ?_|refine Ru.neq_nil rfl ?_|refine Ru.eql_nil rfl ?_|refine Ru.eql_err rfl (by decide) ?_|refine Ru.neq_err rfl (by decide) ?_|refine Ru.be ?_|refine Ru.bn ?_|refine RuQ.be ?_|refine RuQ.bn ?_|refine CW.s ?_); conv => whnf)
    rw [GF.dist_comm] at hdist
    exact ⟨rfl, ⟨f6.fs, f5.kp.trans f6.kp⟩, .inl ⟨b, e, V, hbn, hV, hcw, by omega, by rw [hdist]; rfl, W5.keepS f6.kp (by simpa using hbg)⟩⟩
  · conv => whnf
    repeat ((first
      | refine HS.t ?_|refine Br.t ?_|refine Br.f ?_|refine Pk.f ?_|refine Pk.t ?_|refine Pk.and ?_|refine Pk.or ?_|refine Ix.n ?_|refine Ix.of _ (by rfl) (by omega) ?_|refine Ix.i ?_|refine Ar.la ?_|refine Ar.lb ?_|refine Ar.lc ?_|refine Dv.q ?_|refine Dv.r ?_|refine Br.y ?_|refine Br.n ?_|refine Br.ny ?_|refine Br.nn ?_|refine Br.is (by assumption) ?_|refine Br.isnt (by assumption) ?_|refine Ld.of (by assumption) ?_|refine Ru.neq_nil0 ?_|refine Ru.n1 ?_|refine Ru.eql_nil0 ?_|refine Ru.e1 ?_|refine Ru.e2 ?_|refine Ru.e3 ?_|refine Ru.n2 ?_|refine Ru.n3 ?_|refine Ru.neq_nil rfl ?_|refine Ru.eql_nil rfl ?_|refine Ru.eql_err rfl (by decide) ?_|refine Ru.neq_err rfl (by decide) ?_|refine Ru.be ?_|refine Ru.bn ?_|refine RuQ.be ?_|refine RuQ.bn ?_|refine CW.s ?_); conv => whnf)
    refine Ru.ldaC (q := sF (GF.syn p)) rs5 Try.underlying117 rfl size6 (by omega) (fun i _ => by rw [Nat.zero_add]) ?_
    conv => whnf
    repeat ((first
      | refine HS.t ?_|refine Br.t ?_|refine Br.f ?_|refine Pk.f ?_|refine Pk.t ?_|refine Pk.and ?_|refine Pk.or ?_|refine Ix.n ?_|refine Ix.of _ (by rfl) (by omega) ?_|refine Ix.i ?_|refine Ar.la ?_|refine Ar.lb ?_|refine Ar.lc ?_|refine Dv.q ?_|refine Dv.r ?_|refine Br.y ?_|refine Br.n ?_|refine Br.ny ?_|refine Br.nn ?_|refine Br.is (by assumption) ?_|refine Br.isnt (by assumption) ?_|refine Ld.of (by assumption) ?_|refine Ru.neq_nil0 ?_|refine Ru.n1 ?_|refine Ru.eql_nil0 ?_|refine Ru.e1 ?_|refine Ru.e2 ?_|refine Ru.e3 ?_|refine Ru.n2 ?_|refine Ru.n3 ?_|refine Ru.neq_nil rfl ?_|refine Ru.eql_nil rfl ?_|refine Ru.eql_err rfl (by decide) ?_|refine Ru.neq_err rfl (by decide) ?_|refine Ru.be ?_|refine Ru.bn ?_|refine RuQ.be ?_|refine RuQ.bn ?_|refine CW.s ?_); conv => whnf)
    refine Ca.of (two_ok w5 c g h b e p (GF.syn p) hp hs W5 hbg C5 hbc) ?_
    rintro v w6 ⟨fs6, k6, hv⟩
    have C6 := C5.next k6 (by simp; exact ⟨H.cg, fun e => hbc e.symm⟩) (by simp; exact ⟨H.hg, fun e => hbh e.symm⟩) fs6
    have f6 : FK w g w6 := ⟨fs6, f5.kp.then k6 (fun x hx => by
      rcases List.mem_cons.1 hx with rfl | hx
      · exact .inl (by simp)
      · exact .inr (by rw [List.mem_singleton.1 hx]; exact hbn))⟩
    clear C5 W5 f5 rs5 k6
    rcases hv with ⟨k0, k1', h2, rfl, W6⟩ | ⟨h2, rfl, W6⟩
    · have hdist := GF.two_dist (W := p) h2
      have hV : ∀ i, GF.fix2 p (GF.syn p) k0 k1' i < 256 := GF.fix_lt (GF.fix_lt hp (GF.errN_lt hs k0 k1')) (GF.xor_lt (GF.errN_lt hs k0 k1') (hs 0))
      have hbad : ¬ GF.IsCw (GF.fix2 p (GF.syn p) k0 k1') → ∀ C : Nat → Nat, (∀ i, C i < 256) → GF.IsCw C → 2 < GF.dist C p := fun hn => dec_none hp hncw h1 (fun a0 a1 ha => by
        have e1 := ha.roots
        rw [h2.roots] at e1
        injection e1 with e1 e2
        injection e2 with e2 _
        subst e1 e2
        exact hn)
      generalize GF.fix2 p (GF.syn p) k0 k1' = V at *
      conv => whnf
      repeat ((first
        | (refine Ca.of (syn_ok w6 c g h e (some ⟨b, 0, none⟩) V hV W6.rd1 (fun a e => by cases e; exact hbg) C6) ?_)
        | refine HS.t ?_|refine Br.t ?_|refine Br.f ?_|refine Pk.f ?_|refine Pk.t ?_|refine Pk.and ?_|refine Pk.or ?_|refine Ix.n ?_|refine Ix.of _ (by rfl) (by omega) ?_|refine Ix.i ?_|refine Ar.la ?_|refine Ar.lb ?_|refine Ar.lc ?_|refine Dv.q ?_|refine Dv.r ?_|refine Br.y ?_|refine Br.n ?_|refine Br.ny ?_|refine Br.nn ?_|refine Br.is (by assumption) ?_|refine Br.isnt (by assumption) ?_|refine Ld.of (by assumption) ?_|refine Ru.neq_nil0 ?_|refine Ru.n1 ?_|refine Ru.eql_nil0 ?_|refine Ru.e1 ?_|refine Ru.e2 ?_|refine Ru.e3 ?_|refine Ru.n2 ?_|refine Ru.n3 ?_|refine Ru.neq_nil rfl ?_|refine Ru.eql_nil rfl ?_|refine Ru.eql_err rfl (by decide) ?_|refine Ru.neq_err rfl (by decide) ?_|refine Ru.be ?_|refine Ru.bn ?_|refine RuQ.be ?_|refine RuQ.bn ?_|refine CW.s ?_); conv => whnf)
      rintro _ w7 ⟨rfl, f7⟩
      rw [sF_syn]
      conv => whnf
      repeat ((first
        | refine HS.t ?_|refine Br.t ?_|refine Br.f ?_|refine Pk.f ?_|refine Pk.t ?_|refine Pk.and ?_|refine Pk.or ?_|refine Ix.n ?_|refine Ix.of _ (by rfl) (by omega) ?_|refine Ix.i ?_|refine Ar.la ?_|refine Ar.lb ?_|refine Ar.lc ?_|refine Dv.q ?_|refine Dv.r ?_|refine Br.y ?_|refine Br.n ?_|refine Br.ny ?_|refine Br.nn ?_|refine Br.is (by assumption) ?_|refine Br.isnt (by assumption) ?_|refine Ld.of (by assumption) ?_|refine Ru.neq_nil0 ?_|refine Ru.n1 ?_|refine Ru.eql_nil0 ?_|refine Ru.e1 ?_|refine Ru.e2 ?_|refine Ru.e3 ?_|refine Ru.n2 ?_|refine Ru.n3 ?_|refine Ru.neq_nil rfl ?_|refine Ru.eql_nil rfl ?_|refine Ru.eql_err rfl (by decide) ?_|refine Ru.neq_err rfl (by decide) ?_|refine Ru.be ?_|refine Ru.bn ?_|refine RuQ.be ?_|refine RuQ.bn ?_|refine CW.s ?_); conv => whnf)
      refine Ru.of (build6 _) ?_
      conv => whnf
      repeat ((first
        | refine HS.t ?_|refine Br.t ?_|refine Br.f ?_|refine Pk.f ?_|refine Pk.t ?_|refine Pk.and ?_|refine Pk.or ?_|refine Ix.n ?_|refine Ix.of _ (by rfl) (by omega) ?_|refine Ix.i ?_|refine Ar.la ?_|refine Ar.lb ?_|refine Ar.lc ?_|refine Dv.q ?_|refine Dv.r ?_|refine Br.y ?_|refine Br.n ?_|refine Br.ny ?_|refine Br.nn ?_|refine Br.is (by assumption) ?_|refine Br.isnt (by assumption) ?_|refine Ld.of (by assumption) ?_|refine Ru.neq_nil0 ?_|refine Ru.n1 ?_|refine Ru.eql_nil0 ?_|refine Ru.e1 ?_|refine Ru.e2 ?_|refine Ru.e3 ?_|refine Ru.n2 ?_|refine Ru.n3 ?_|refine Ru.neq_nil rfl ?_|refine Ru.eql_nil rfl ?_|refine Ru.eql_err rfl (by decide) ?_|refine Ru.neq_err rfl (by decide) ?_|refine Ru.be ?_|refine Ru.bn ?_|refine RuQ.be ?_|refine RuQ.bn ?_|refine CW.s ?_); conv => whnf)
      refine Ru.of (neq6 _) ?_
      by_cases hcw : GF.IsCw V
      · have hzV : nil6 (GF.syn V) = true := (nil6_iff _).2 hcw
        rw [hzV]
        conv => whnf
        repeat ((first
          | refine HS.t ?_|refine Br.t ?_|refine Br.f ?_|refine Pk.f ?_|refine Pk.t ?_|refine Pk.and ?_|refine Pk.or ?_|refine Ix.n ?_|refine Ix.of _ (by rfl) (by omega) ?_|refine Ix.i ?_|refine Ar.la ?_|refine Ar.lb ?_|refine Ar.lc ?_|refine Dv.q ?_|refine Dv.r ?_|refine Br.y ?_|refine Br.n ?_|refine Br.ny ?_|refine Br.nn ?_|refine Br.is (by assumption) ?_|refine Br.isnt (by assumption) ?_|refine Ld.of (by assumption) ?_|refine Ru.neq_nil0 ?_|refine Ru.n1 ?_|refine Ru.eql_nil0 ?_|refine Ru.e1 ?_|refine Ru.e2 ?_|refine Ru.e3 ?_|refine Ru.n2 ?_|refine Ru.n3 ?_|refine Ru.neq_nil rfl ?_|refine Ru.eql_nil rfl ?_|refine Ru.eql_err rfl (by decide) ?_|refine Ru.neq_err rfl (by decide) ?_|refine Ru.be ?_|refine Ru.bn ?_|refine RuQ.be ?_|refine RuQ.bn ?_|refine CW.s ?_); conv => whnf)
        refine Ru.sl_hm (h := 58) (m := 58) Try.underlying22 byte_sz (by omega) (by have := W6.1; omega) ?_
        conv => whnf
        repeat ((first
          | refine HS.t ?_|refine Br.t ?_|refine Br.f ?_|refine Pk.f ?_|refine Pk.t ?_|refine Pk.and ?_|refine Pk.or ?_|refine Ix.n ?_|refine Ix.of _ (by rfl) (by omega) ?_|refine Ix.i ?_|refine Ar.la ?_|refine Ar.lb ?_|refine Ar.lc ?_|refine Dv.q ?_|refine Dv.r ?_|refine Br.y ?_|refine Br.n ?_|refine Br.ny ?_|refine Br.nn ?_|refine Br.is (by assumption) ?_|refine Br.isnt (by assumption) ?_|refine Ld.of (by assumption) ?_|refine Ru.neq_nil0 ?_|refine Ru.n1 ?_|refine Ru.eql_nil0 ?_|refine Ru.e1 ?_|refine Ru.e2 ?_|refine Ru.e3 ?_|refine Ru.n2 ?_|refine Ru.n3 ?_|refine Ru.neq_nil rfl ?_|refine Ru.eql_nil rfl ?_|refine Ru.eql_err rfl (by decide) ?_|refine Ru.neq_err rfl (by decide) ?_|refine Ru.be ?_|refine Ru.bn ?_|refine RuQ.be ?_|refine RuQ.bn ?_|refine CW.s ?_); conv => whnf)
        rw [GF.dist_comm] at hdist
        exact ⟨rfl, ⟨f7.fs, f6.kp.trans f7.kp⟩, .inl ⟨b, e, V, hbn, hV, hcw, by omega, by rw [hdist]; rfl, W6.keepS f7.kp (by simpa using hbg)⟩⟩
      · have hzV : nil6 (GF.syn V) = false := by
          cases e : nil6 (GF.syn V) with
          | false => rfl
          | true => exact absurd ((nil6_iff _).1 e) hcw
        rw [hzV]
        conv => whnf
        repeat ((first
          | refine HS.t ?_|refine Br.t ?_|refine Br.f ?_|refine Pk.f ?_|refine Pk.t ?_|refine Pk.and ?_|refine Pk.or ?_|refine Ix.n ?_|refine Ix.of _ (by rfl) (by omega) ?_|refine Ix.i ?_|refine Ar.la ?_|refine Ar.lb ?_|refine Ar.lc ?_|refine Dv.q ?_|refine Dv.r ?_|refine Br.y ?_|refine Br.n ?_|refine Br.ny ?_|refine Br.nn ?_|refine Br.is (by assumption) ?_|refine Br.isnt (by assumption) ?_|refine Ld.of (by assumption) ?_|refine Ru.neq_nil0 ?_|refine Ru.n1 ?_|refine Ru.eql_nil0 ?_|refine Ru.e1 ?_|refine Ru.e2 ?_|refine Ru.e3 ?_|refine Ru.n2 ?_|refine Ru.n3 ?_|refine Ru.neq_nil rfl ?_|refine Ru.eql_nil rfl ?_|refine Ru.eql_err rfl (by decide) ?_|refine Ru.neq_err rfl (by decide) ?_|refine Ru.be ?_|refine Ru.bn ?_|refine RuQ.be ?_|refine RuQ.bn ?_|refine CW.s ?_); conv => whnf)
        exact ⟨rfl, ⟨f7.fs, f6.kp.trans f7.kp⟩, .inr ⟨rfl, hbad hcw⟩⟩
    · conv => whnf
      repeat ((first
        | refine HS.t ?_|refine Br.t ?_|refine Br.f ?_|refine Pk.f ?_|refine Pk.t ?_|refine Pk.and ?_|refine Pk.or ?_|refine Ix.n ?_|refine Ix.of _ (by rfl) (by omega) ?_|refine Ix.i ?_|refine Ar.la ?_|refine Ar.lb ?_|refine Ar.lc ?_|refine Dv.q ?_|refine Dv.r ?_|refine Br.y ?_|refine Br.n ?_|refine Br.ny ?_|refine Br.nn ?_|refine Br.is (by assumption) ?_|refine Br.isnt (by assumption) ?_|refine Ld.of (by assumption) ?_|refine Ru.neq_nil0 ?_|refine Ru.n1 ?_|refine Ru.eql_nil0 ?_|refine Ru.e1 ?_|refine Ru.e2 ?_|refine Ru.e3 ?_|refine Ru.n2 ?_|refine Ru.n3 ?_|refine Ru.neq_nil rfl ?_|refine Ru.eql_nil rfl ?_|refine Ru.eql_err rfl (by decide) ?_|refine Ru.neq_err rfl (by decide) ?_|refine Ru.be ?_|refine Ru.bn ?_|refine RuQ.be ?_|refine RuQ.bn ?_|refine CW.s ?_); conv => whnf)
      exact ⟨rfl, f6, .inr ⟨rfl, dec_none hp hncw h1 (fun a0 a1 ha => absurd ha (h2 a0 a1))⟩⟩
end Go.Proofs.Ytkpaafjnjmmehaa
/- Layer 2: what Encode's shift register leaves is a codeword: plain laws. -/
namespace Go.Proofs.Ytkpaafjnjmmehaa
set_option linter.unusedVariables false
set_option maxRecDepth 20000
namespace GF
theorem gen_root : ∀ j, j < 6 → evalH (genP 6) (pw j) 7 = 0 := by decide +kernel
theorem gen_lead : genP 6 0 = 1 := by decide +kernel
attribute [local irreducible] GF.pw GF.lg GF.mul GF.inv GF.xt
theorem evalH_app {W : Nat → Nat} (hW : ∀ i, W i < 256) {x : Nat} (hx : x < 256) (m : Nat) : ∀ n, evalH W x (m + n) = mul (evalH W x m) (gp x n) ^^^ evalH (fun i => W (m + i)) x n
  | 0 => by
    show evalH W x m = mul (evalH W x m) 1 ^^^ 0
    rw [mul_one1 _ (evalH_lt hW x m), Nat.xor_zero]
  | n + 1 => by
    have h1 := evalH_lt hW x m
    have h2 := evalH_lt (fun i => hW (m + i)) x n
    show mul (evalH W x (m + n)) x ^^^ W (m + n) = mul (evalH W x m) (mul (gp x n) x) ^^^ (mul (evalH (fun i => W (m + i)) x n) x ^^^ W (m + n))
    rw [evalH_app hW hx m n, mul_xor_l (mul_lt h1) h2 hx, mul_assoc h1 (gp_lt x n) hx, Nat.xor_assoc]
theorem evalH_xor {p q : Nat → Nat} (hp : ∀ j, p j < 256) (hq : ∀ j, q j < 256) {x : Nat} (hx : x < 256) : ∀ n, evalH (fun i => p i ^^^ q i) x n = evalH p x n ^^^ evalH q x n
  | 0 => (Nat.xor_self 0).symm
  | n + 1 => by
    show mul (evalH (fun i => p i ^^^ q i) x n) x ^^^ (p n ^^^ q n) = (mul (evalH p x n) x ^^^ p n) ^^^ (mul (evalH q x n) x ^^^ q n)
    rw [evalH_xor hp hq hx n, mul_xor_l (evalH_lt hp x n) (evalH_lt hq x n) hx, xor4]
theorem evalH_mul {q : Nat → Nat} (hq : ∀ j, q j < 256) {t x : Nat} (ht : t < 256) (hx : x < 256) : ∀ n, evalH (fun i => mul t (q i)) x n = mul t (evalH q x n)
  | 0 => (mul_zero_r t).symm
  | n + 1 => by
    show mul (evalH (fun i => mul t (q i)) x n) x ^^^ mul t (q n) = mul t (mul (evalH q x n) x ^^^ q n)
    rw [evalH_mul hq ht hx n, mul_xor_r, mul_assoc ht (evalH_lt hq x n) hx]
def genG (i : Nat) : Nat := genP 6 (i + 1)
theorem genG_lt (i : Nat) : genG i < 256 := genP_lt 6 (i + 1)
/-- The register behind one more byte. -/
def lfsr (R : Nat → Nat) (m : Nat) (i : Nat) : Nat := (if i < 5 then R (i + 1) else 0) ^^^ mul (R 0 ^^^ m) (genG i)
def encR (M : Nat → Nat) : Nat → Nat → Nat
  | 0, _ => 0
  | k + 1, i => lfsr (encR M k) (M k) i
theorem lfsr_lt {R : Nat → Nat} (hR : ∀ i, R i < 256) {m : Nat} (hm : m < 256) (i : Nat) : lfsr R m i < 256 := by
  refine xor_lt ?_ (mul_lt (xor_lt (hR 0) hm))
  have := hR (i + 1)
  split <;> omega
theorem encR_lt {M : Nat → Nat} (hM : ∀ i, M i < 256) : ∀ k i, encR M k i < 256
  | 0, i => (by decide : 0 < 256)
  | k + 1, i => lfsr_lt (encR_lt hM k) (hM k) i
theorem gen_eq {j : Nat} (hj : j < 6) : gp (pw j) 6 = evalH genG (pw j) 6 := by
  have h := gen_root j hj
  have e := evalH_app (genP_lt 6) (pw_lt j) 1 6
  rw [show 1 + 6 = 7 from rfl, h] at e
  have e1 : evalH (genP 6) (pw j) 1 = 1 := by
    show mul 0 (pw j) ^^^ genP 6 0 = 1
    rw [mul_zero_l, gen_lead, Nat.zero_xor]
  have e2 : (fun i => genP 6 (1 + i)) = genG := by
    funext i
    unfold genG
    rw [Nat.add_comm]
  rw [e1, e2, mul_one_l (gp_lt _ _)] at e
  exact xor_eq e.symm
theorem lfsr_eval {R : Nat → Nat} (hR : ∀ i, R i < 256) {m : Nat} (hm : m < 256) {j : Nat} (hj : j < 6) : evalH (lfsr R m) (pw j) 6 = mul (evalH R (pw j) 6) (pw j) ^^^ mul m (gp (pw j) 6) := by
  have hx := pw_lt j
  have hs : ∀ i, (if i < 5 then R (i + 1) else 0) < 256 := fun i => by
    have := hR (i + 1)
    split <;> omega
  have ht : R 0 ^^^ m < 256 := xor_lt (hR 0) hm
  have e1 : evalH (lfsr R m) (pw j) 6 = evalH (fun i => if i < 5 then R (i + 1) else 0) (pw j) 6 ^^^ mul (R 0 ^^^ m) (evalH genG (pw j) 6) := by
    rw [← evalH_mul genG_lt ht hx 6, ← evalH_xor hs (fun i => mul_lt ht) hx 6]
    rfl
  have hR' : ∀ i, (if i < 6 then R i else 0) < 256 := fun i => by
    have := hR i
    split <;> omega
  have e2 := evalH_app hR' hx 1 6
  have e3 : evalH (fun i => if i < 6 then R i else 0) (pw j) (1 + 6) = mul (evalH R (pw j) 6) (pw j) := by
    show mul (evalH (fun i => if i < 6 then R i else 0) (pw j) 6) (pw j) ^^^ 0 = _
    rw [Nat.xor_zero, evalH_congr _ (fun i hi => if_pos hi)]
  have e4 : evalH (fun i => if i < 6 then R i else 0) (pw j) 1 = R 0 := by
    show mul 0 (pw j) ^^^ R 0 = R 0
    rw [mul_zero_l, Nat.zero_xor]
  have e5 : evalH (fun i => if 1 + i < 6 then R (1 + i) else 0) (pw j) 6 = evalH (fun i => if i < 5 then R (i + 1) else 0) (pw j) 6 := evalH_congr _ (fun i _ => by
    by_cases h : i < 5
    · rw [if_pos h, if_pos (by omega), Nat.add_comm]
    · rw [if_neg h, if_neg (by omega)])
  rw [e3, e4, e5] at e2
  rw [e1, e2, ← gen_eq hj, mul_xor_l (hR 0) hm (gp_lt _ _)]
  generalize mul (R 0) (gp (pw j) 6) = a
  generalize mul m (gp (pw j) 6) = b
  generalize evalH _ (pw j) 6 = c
  rw [Nat.xor_comm a c, Nat.xor_assoc]
theorem encR_eval {M : Nat → Nat} (hM : ∀ i, M i < 256) {j : Nat} (hj : j < 6) : ∀ k, evalH (encR M k) (pw j) 6 = mul (evalH M (pw j) k) (gp (pw j) 6)
  | 0 => by
    have hx := pw_lt j
    have : ∀ n, evalH (fun _ => 0) (pw j) n = 0 := fun n => by
      induction n with
      | zero => rfl
      | succ n ih =>
        show mul (evalH (fun _ => 0) (pw j) n) (pw j) ^^^ 0 = 0
        rw [ih, mul_zero_l, Nat.xor_zero]
    exact (this 6).trans (mul_zero_l _).symm
  | k + 1 => by
    have hx := pw_lt j
    have h1 := evalH_lt hM (pw j) k
    have hg := gp_lt (pw j) 6
    have e : evalH (encR M (k + 1)) (pw j) 6 = evalH (lfsr (encR M k) (M k)) (pw j) 6 := rfl
    rw [e, lfsr_eval (encR_lt hM k) (hM k) hj, encR_eval hM hj k, evalH_succ, mul_xor_l (mul_lt h1) (hM k) hg, mul_assoc h1 hg hx, mul_assoc h1 hx hg, mul_comm hg hx]
/-- The codeword of a message. -/
def encW (M : Nat → Nat) (i : Nat) : Nat := if i < 58 then M i else encR M 58 (i - 58)
theorem encW_lt {M : Nat → Nat} (hM : ∀ i, M i < 256) (i : Nat) : encW M i < 256 := by
  unfold encW
  split
  · exact hM i
  · exact encR_lt hM 58 _
theorem enc_cw {M : Nat → Nat} (hM : ∀ i, M i < 256) : IsCw (encW M) := fun j hj => by
  have hx := pw_lt j
  have e := evalH_app (encW_lt hM) hx 58 6
  have e1 : evalH (encW M) (pw j) 58 = evalH M (pw j) 58 := evalH_congr _ (fun i hi => if_pos hi)
  have e2 : evalH (fun i => encW M (58 + i)) (pw j) 6 = evalH (encR M 58) (pw j) 6 := evalH_congr _ (fun i _ => by
    unfold encW
    rw [if_neg (by omega), show 58 + i - 58 = i by omega])
  rw [e1, e2, encR_eval hM hj 58, Nat.xor_self] at e
  exact e
end GF
end Go.Proofs.Ytkpaafjnjmmehaa
/- Layer 2: Encode. -/
namespace Go.Proofs.Ytkpaafjnjmmehaa
open Go.RowKit
set_option linter.unusedVariables false
set_option maxRecDepth 20000
attribute [local irreducible] GF.pw GF.lg GF.mul GF.inv GF.xt
theorem sl6_run (g : Nat) (w : World) : (Instr.sliceAt 117 (.pointer (some ⟨g, 0, none⟩)) none none none).run Try.prog w = .ok (.slice (some ⟨g, 0, none⟩) 6 6) w := by kernel_rfl
theorem sl6_run1 (g : Nat) (w : World) : (Instr.sliceAt 117 (.pointer (some ⟨g, 0, none⟩)) (some (.int .i64 1)) none none).run Try.prog w = .ok (.slice (some ⟨g, 1, none⟩) 5 5) w := by kernel_rfl
theorem mk64_run (w : World) : (Instr.makeSlice 22 (.int .i64 0) (.int .i64 64)).run Try.prog w = .ok (.slice (some ⟨w.heap.size, 0, none⟩) 0 64) (w.alloc (.cells (madeCells #[.int .u8 0] 64) 5)) := by kernel_rfl
theorem Own.mk64 {w0 w : World} (k : Keep [] w0 w) (f : Nat → Int) : Own w0 (w.alloc (.cells (madeCells #[.int .u8 0] 64) 5)) (some ⟨w.heap.size, 0, none⟩) 0 64 f :=
  ⟨(Ly.of_row (Row.made w 5 (.int .u8 0) 64) (by omega) (by omega) (by simp [maxLen])).congr (fun j hj => by omega), fun x hx => by rw [List.mem_singleton.1 hx]; exact k.size, k.alloc _⟩
def encSt (M : Nat → Nat) (k : Nat) : Nat → Value := fun i => .int .u8 (GF.encR M k i : Nat)
def shR (R : Nat → Nat) (i : Nat) : Nat := if i < 5 then R (i + 1) else 0
theorem encSh (M : Nat → Nat) (k : Nat) (i : Nat) (hi : i < 6) : put (lay (encSt M k) 0 5 (fun j => encSt M k (1 + j))) 5 (.int .u8 0) i = .int .u8 (shR (GF.encR M k) i : Nat) := by
  unfold put lay shR
  by_cases h : i = 5
  · rw [if_pos h, if_neg (by omega)]
    rfl
  · rw [if_neg h, if_pos (by omega), if_pos (by omega)]
    show encSt M k (1 + (i - 0)) = _
    rw [show 1 + (i - 0) = i + 1 by omega]
    rfl
/-- The register while a byte is taken in: so many of its cells are done. -/
def midR (R : Nat → Nat) (m n i : Nat) : Nat := if i < n then GF.lfsr R m i else shR R i
theorem midR_lo {R : Nat → Nat} {m n i : Nat} (h : i < n) : midR R m n i = GF.lfsr R m i := if_pos h
theorem midR_hi {R : Nat → Nat} {m n i : Nat} (h : ¬ i < n) : midR R m n i = shR R i := if_neg h
theorem midR_lt {R : Nat → Nat} (hR : ∀ i, R i < 256) {m : Nat} (hm : m < 256) (n i : Nat) : midR R m n i < 256 := by
  unfold midR shR
  have h1 := GF.lfsr_lt hR hm i
  have h2 := hR (i + 1)
  split
  · exact h1
  · split <;> omega
theorem midR_put (R : Nat → Nat) (m n i : Nat) : put (fun i => Value.int .u8 (midR R m n i : Nat)) n (.int .u8 ((midR R m n n ^^^ GF.mul (R 0 ^^^ m) (GF.genG n) : Nat) : Int)) i = .int .u8 (midR R m (n + 1) i : Nat) := by
  unfold put
  by_cases h : i = n
  · subst h
    rw [if_pos rfl, midR_hi (by omega), midR_lo (by omega)]
    rfl
  · rw [if_neg h]
    by_cases h2 : i < n
    · simp only [midR_lo h2, midR_lo (show i < n + 1 by omega)]
    · simp only [midR_hi h2, midR_hi (show ¬ i < n + 1 by omega)]
set_option maxHeartbeats 4000000 in
theorem enc_ok (w : World) (c g h d : Nat) (A : Option Addr) (M : Nat → Nat) (hM : ∀ j, M j < 256) (r : RdB w A 58 M) (hd : 58 ≤ d) (hA : ∀ a, A = some a → a.block ≠ g) (H : Cod w c g h) :
    Spec Try.prog 43 #[.pointer (some ⟨c, 0, none⟩), .slice A 58 d] w fun v w' => FK w g w' ∧ ∃ b e, w.heap.size ≤ b ∧ v = .tuple #[.slice (some ⟨b, 0, none⟩) 64 e, errOf 0] ∧ Wd w' b e (GF.encW M) := by
  refine spec_of_wpE (T := tt) tt_ok Try.func43 rfl (by decide +kernel) Try.ntmps43 (by simp) ?_
  conv => whnf
  repeat ((first
    | refine HS.t ?_|refine Br.t ?_|refine Br.f ?_|refine Pk.f ?_|refine Pk.t ?_|refine Pk.and ?_|refine Pk.or ?_|refine Ix.n ?_|refine Ix.of _ (by rfl) (by omega) ?_|refine Ix.i ?_|refine Ar.la ?_|refine Ar.lb ?_|refine Ar.lc ?_|refine Dv.q ?_|refine Dv.r ?_|refine Br.y ?_|refine Br.n ?_|refine Br.ny ?_|refine Br.nn ?_|refine Br.is (by assumption) ?_|refine Br.isnt (by assumption) ?_|refine Ld.of (by assumption) ?_|refine Ru.neq_nil0 ?_|refine Ru.n1 ?_|refine Ru.eql_nil0 ?_|refine Ru.e1 ?_|refine Ru.e2 ?_|refine Ru.e3 ?_|refine Ru.n2 ?_|refine Ru.n3 ?_|refine Ru.neq_nil rfl ?_|refine Ru.eql_nil rfl ?_|refine Ru.eql_err rfl (by decide) ?_|refine Ru.neq_err rfl (by decide) ?_|refine Ru.be ?_|refine Ru.bn ?_|refine RuQ.be ?_|refine RuQ.bn ?_|refine CW.s ?_); conv => whnf)
  refine Ru.alloca (n := 6) (s := fun _ => .int .u8 0) (alloc6 _) ?_
  intro rg w1 hrg hs1 rs k1
  have gl := H.fs.lt
  have cl := H.row.lt
  have hl := H.gen.lt
  have C1 := H.keep0 k1 (by simp) (by simp) (by simp)
  have f1 : FK w g w1 := ⟨C1.fs, k1.mono (by simp)⟩
  conv => whnf
  repeat ((first
    | refine HS.t ?_|refine Br.t ?_|refine Br.f ?_|refine Pk.f ?_|refine Pk.t ?_|refine Pk.and ?_|refine Pk.or ?_|refine Ix.n ?_|refine Ix.of _ (by rfl) (by omega) ?_|refine Ix.i ?_|refine Ar.la ?_|refine Ar.lb ?_|refine Ar.lc ?_|refine Dv.q ?_|refine Dv.r ?_|refine Br.y ?_|refine Br.n ?_|refine Br.ny ?_|refine Br.nn ?_|refine Br.is (by assumption) ?_|refine Br.isnt (by assumption) ?_|refine Ld.of (by assumption) ?_|refine Ru.neq_nil0 ?_|refine Ru.n1 ?_|refine Ru.eql_nil0 ?_|refine Ru.e1 ?_|refine Ru.e2 ?_|refine Ru.e3 ?_|refine Ru.n2 ?_|refine Ru.n3 ?_|refine Ru.neq_nil rfl ?_|refine Ru.eql_nil rfl ?_|refine Ru.eql_err rfl (by decide) ?_|refine Ru.neq_err rfl (by decide) ?_|refine Ru.be ?_|refine Ru.bn ?_|refine RuQ.be ?_|refine RuQ.bn ?_|refine CW.s ?_); conv => whnf)
  have hAr : ∀ a, A = some a → a.block < w.heap.size := fun a e => by
    obtain ⟨b, o, e2, hc⟩ := r (by omega)
    rw [e] at e2
    cases e2
    exact cell_lt (hc 0 (by omega))
  have hne : rg ≠ g ∧ rg ≠ c ∧ rg ≠ h := ⟨by omega, by omega, by omega⟩
  refine CW.loop (ι := Nat) (fun i w' => i ≤ 58 ∧ FK w g w' ∧ Cod w' c g h ∧ RdB w' A 58 M ∧ Row w' rg 117 6 (encSt M i)) (fun i => [(0, .pointer (some ⟨c, 0, none⟩)), (1, .slice A 58 d), (6, .pointer (some ⟨rg, 0, none⟩)), (16, .slice A 58 d), (17, .int .i64 58), (18, .int .i64 i)]) (fun i => 58 - i) 0 tt_ok ⟨by omega, f1, C1, r.keep0 k1, rs.congr (fun _ _ => rfl)⟩ ⟨rfl, rfl, rfl, rfl, rfl, rfl, trivial⟩ ?_
  clear f1 C1 rs k1
  rintro i wr ⟨hi, fk, C, ra, rs⟩
  by_cases hlt : i < 58
  · have hMi := hM i
    have hRl := GF.encR_lt hM i
    have hxor : bitv .xor .u8 (GF.encR M i 0 : Nat) (M i : Nat) = ((GF.encR M i 0 ^^^ M i : Nat) : Int) := bitv_xor8 (hRl 0) hMi
    obtain ⟨b, o, rfl, hc⟩ := ra (by omega)
    have hci := hc i hlt
    have l0 : wr.cell? ⟨rg, 0, none⟩ = some (.int .u8 (GF.encR M i 0 : Nat)) := rs.cell 0 (by omega)
    have hbr : b ≠ rg := by
      have := hAr _ rfl
      simp only at this
      omega
    conv => whnf
    repeat ((first
      | refine HS.t ?_|refine Br.t ?_|refine Br.f ?_|refine Pk.f ?_|refine Pk.t ?_|refine Pk.and ?_|refine Pk.or ?_|refine Ix.n ?_|refine Ix.of _ (by rfl) (by omega) ?_|refine Ix.i ?_|refine Ar.la ?_|refine Ar.lb ?_|refine Ar.lc ?_|refine Dv.q ?_|refine Dv.r ?_|refine Br.y ?_|refine Br.n ?_|refine Br.ny ?_|refine Br.nn ?_|refine Br.is (by assumption) ?_|refine Br.isnt (by assumption) ?_|refine Ld.of (by assumption) ?_|refine Ru.neq_nil0 ?_|refine Ru.n1 ?_|refine Ru.eql_nil0 ?_|refine Ru.e1 ?_|refine Ru.e2 ?_|refine Ru.e3 ?_|refine Ru.n2 ?_|refine Ru.n3 ?_|refine Ru.neq_nil rfl ?_|refine Ru.eql_nil rfl ?_|refine Ru.eql_err rfl (by decide) ?_|refine Ru.neq_err rfl (by decide) ?_|refine Ru.be ?_|refine Ru.bn ?_|refine RuQ.be ?_|refine RuQ.bn ?_|refine CW.s ?_); conv => whnf)
    rw [hxor]
    have htl : GF.encR M i 0 ^^^ M i < 256 := GF.xor_lt (hRl 0) hMi
    refine CW.held (fun w' => True) [] (.take 0 (.take 1 (.one 2 (.done)))) tt_ok (by kernel_rfl) (by kernel_rfl) (by kernel_rfl) ?_ ?_
    · trivial
    conv => whnf
    repeat ((first
      | (refine RuQ.of (fun w _ => sl6_run rg w) ?_)
      | (refine RuQ.of (fun w _ => sl6_run1 rg w) ?_)
      | refine HS.t ?_|refine Br.t ?_|refine Br.f ?_|refine Pk.f ?_|refine Pk.t ?_|refine Pk.and ?_|refine Pk.or ?_|refine Ix.n ?_|refine Ix.of _ (by rfl) (by omega) ?_|refine Ix.i ?_|refine Ar.la ?_|refine Ar.lb ?_|refine Ar.lc ?_|refine Dv.q ?_|refine Dv.r ?_|refine Br.y ?_|refine Br.n ?_|refine Br.ny ?_|refine Br.nn ?_|refine Br.is (by assumption) ?_|refine Br.isnt (by assumption) ?_|refine Ld.of (by assumption) ?_|refine Ru.neq_nil0 ?_|refine Ru.n1 ?_|refine Ru.eql_nil0 ?_|refine Ru.e1 ?_|refine Ru.e2 ?_|refine Ru.e3 ?_|refine Ru.n2 ?_|refine Ru.n3 ?_|refine Ru.neq_nil rfl ?_|refine Ru.eql_nil rfl ?_|refine Ru.eql_err rfl (by decide) ?_|refine Ru.neq_err rfl (by decide) ?_|refine Ru.be ?_|refine Ru.bn ?_|refine RuQ.be ?_|refine RuQ.bn ?_|refine CW.s ?_); conv => whnf)
    have fk := fk.kp.drewN 1
    replace rs := rs.drewN 1
    replace C := C.drewN 1
    replace ra : RdB (wr.drewN 1) (some ⟨b, o, none⟩) 58 M := ra.keep0 ((Keep.refl _ _).drewN 1)
    generalize wr.drewN 1 = w2 at *
    refine Bu.copy (s := fun j => encSt M i (1 + j)) Try.underlying22 (by kernel_rfl) rs (some ⟨rg, 1, none⟩) 5 5 5 (by decide) (fun _ => ⟨rg, 1, rfl, fun j hj => rs.cell (1 + j) (by omega)⟩) (fun e => by cases e) (by omega) (fun j _ => rfl) ?_
    intro w3 rs3 k3
    have C3 := C.keep0 k3 (by simpa using hne.2.1.symm) (by simpa using hne.1.symm) (by simpa using hne.2.2.symm)
    have fk3 : FK w g w3 := ⟨C3.fs, fk.then k3 (fun x hx => .inr (by rw [List.mem_singleton.1 hx]; omega))⟩
    have ra3 : RdB w3 (some ⟨b, o, none⟩) 58 M := ra.keep k3 (fun a e => by cases e; simpa using hbr)
    conv => whnf
    repeat ((first
      | refine HS.t ?_|refine Br.t ?_|refine Br.f ?_|refine Pk.f ?_|refine Pk.t ?_|refine Pk.and ?_|refine Pk.or ?_|refine Ix.n ?_|refine Ix.of _ (by rfl) (by omega) ?_|refine Ix.i ?_|refine Ar.la ?_|refine Ar.lb ?_|refine Ar.lc ?_|refine Dv.q ?_|refine Dv.r ?_|refine Br.y ?_|refine Br.n ?_|refine Br.ny ?_|refine Br.nn ?_|refine Br.is (by assumption) ?_|refine Br.isnt (by assumption) ?_|refine Ld.of (by assumption) ?_|refine Ru.neq_nil0 ?_|refine Ru.n1 ?_|refine Ru.eql_nil0 ?_|refine Ru.e1 ?_|refine Ru.e2 ?_|refine Ru.e3 ?_|refine Ru.n2 ?_|refine Ru.n3 ?_|refine Ru.neq_nil rfl ?_|refine Ru.eql_nil rfl ?_|refine Ru.eql_err rfl (by decide) ?_|refine Ru.neq_err rfl (by decide) ?_|refine Ru.be ?_|refine Ru.bn ?_|refine RuQ.be ?_|refine RuQ.bn ?_|refine CW.s ?_); conv => whnf)
    refine Sd.rowAt rs3 5 (by rfl) (by omega) rfl ?_
    intro w4 rs4 k4
    have C4 := C3.keep0 k4 (by simpa using hne.2.1.symm) (by simpa using hne.1.symm) (by simpa using hne.2.2.symm)
    have fk4 : FK w g w4 := ⟨C4.fs, fk3.kp.then k4 (fun x hx => .inr (by rw [List.mem_singleton.1 hx]; omega))⟩
    have ra4 : RdB w4 (some ⟨b, o, none⟩) 58 M := ra3.keep k4 (fun a e => by cases e; simpa using hbr)
    replace rs4 : Row w4 rg 117 6 (fun j => .int .u8 (midR (GF.encR M i) (M i) 0 j : Nat)) := rs4.congr (fun j hj => (encSh M i j hj).trans (by rw [midR_hi (by omega)]))
    clear C3 fk3 ra3 rs3 k3 k4 rs C fk ra
    conv => whnf
    repeat ((first
      | (refine Ld.row C4.row (by decide) ?_)
      | refine HS.t ?_|refine Br.t ?_|refine Br.f ?_|refine Pk.f ?_|refine Pk.t ?_|refine Pk.and ?_|refine Pk.or ?_|refine Ix.n ?_|refine Ix.of _ (by rfl) (by omega) ?_|refine Ix.i ?_|refine Ar.la ?_|refine Ar.lb ?_|refine Ar.lc ?_|refine Dv.q ?_|refine Dv.r ?_|refine Br.y ?_|refine Br.n ?_|refine Br.ny ?_|refine Br.nn ?_|refine Br.is (by assumption) ?_|refine Br.isnt (by assumption) ?_|refine Ld.of (by assumption) ?_|refine Ru.neq_nil0 ?_|refine Ru.n1 ?_|refine Ru.eql_nil0 ?_|refine Ru.e1 ?_|refine Ru.e2 ?_|refine Ru.e3 ?_|refine Ru.n2 ?_|refine Ru.n3 ?_|refine Ru.neq_nil rfl ?_|refine Ru.eql_nil rfl ?_|refine Ru.eql_err rfl (by decide) ?_|refine Ru.neq_err rfl (by decide) ?_|refine Ru.be ?_|refine Ru.bn ?_|refine RuQ.be ?_|refine RuQ.bn ?_|refine CW.s ?_); conv => whnf)
    refine CW.loop (ι := Nat) (fun k w' => k ≤ 6 ∧ FK w g w' ∧ Cod w' c g h ∧ RdB w' (some ⟨b, o, none⟩) 58 M ∧ Row w' rg 117 6 (fun j => .int .u8 (midR (GF.encR M i) (M i) k j : Nat))) (fun k => [(0, .pointer (some ⟨c, 0, none⟩)), (1, .slice (some ⟨b, o, none⟩) 58 d), (6, .pointer (some ⟨rg, 0, none⟩)), (9, .int .u8 (GF.encR M i 0 ^^^ M i : Nat)), (16, .slice (some ⟨b, o, none⟩) 58 d), (17, .int .i64 58), (18, .int .i64 i), (33, .slice (some ⟨h, 1, none⟩) 6 6), (34, .int .i64 6), (35, .int .i64 k)]) (fun k => 6 - k) 0 tt_ok ⟨by omega, fk4, C4, ra4, rs4⟩ ⟨rfl, rfl, rfl, rfl, rfl, rfl, rfl, rfl, rfl, rfl, trivial⟩ ?_
    clear fk4 C4 ra4 rs4
    rintro k wq ⟨hk, fk, C, ra, rs⟩
    by_cases hltk : k < 6
    · have lg : wq.cell? ⟨h, 1 + k, none⟩ = some (.int .u8 (GF.genG k : Nat)) := by
        have := C.gen.cell (1 + k) (by omega)
        unfold GF.genG
        rw [Nat.add_comm] at this ⊢
        exact this
      have hgl := GF.genG_lt k
      have hml := midR_lt hRl hMi k k
      have hmx := GF.mul_lt (a := GF.encR M i 0 ^^^ M i) (b := GF.genG k) htl
      conv => whnf
      repeat ((first
        | refine HS.t ?_|refine Br.t ?_|refine Br.f ?_|refine Pk.f ?_|refine Pk.t ?_|refine Pk.and ?_|refine Pk.or ?_|refine Ix.n ?_|refine Ix.of _ (by rfl) (by omega) ?_|refine Ix.i ?_|refine Ar.la ?_|refine Ar.lb ?_|refine Ar.lc ?_|refine Dv.q ?_|refine Dv.r ?_|refine Br.y ?_|refine Br.n ?_|refine Br.ny ?_|refine Br.nn ?_|refine Br.is (by assumption) ?_|refine Br.isnt (by assumption) ?_|refine Ld.of (by assumption) ?_|refine Ru.neq_nil0 ?_|refine Ru.n1 ?_|refine Ru.eql_nil0 ?_|refine Ru.e1 ?_|refine Ru.e2 ?_|refine Ru.e3 ?_|refine Ru.n2 ?_|refine Ru.n3 ?_|refine Ru.neq_nil rfl ?_|refine Ru.eql_nil rfl ?_|refine Ru.eql_err rfl (by decide) ?_|refine Ru.neq_err rfl (by decide) ?_|refine Ru.be ?_|refine Ru.bn ?_|refine RuQ.be ?_|refine RuQ.bn ?_|refine CW.s ?_); conv => whnf)
      refine CW.held (fun w' => Row w' c 114 2 (codF g h) ∧ Row w' rg 117 6 (fun j => .int .u8 (midR (GF.encR M i) (M i) k j : Nat))) [12] (.take 0 (.take 1 (.take 2 (.take 3 (.take 4 (.take 5 (.take 6 (.take 7 (.take 8 (.one 9 (.take 10 (.take 11 (.one 12 (.done)))))))))))))) tt_ok (by kernel_rfl) (by kernel_rfl) (by kernel_rfl) ?_ ?_
      · exact ⟨C.row.drewN 1, rs.drewN 1⟩
      replace fk : FK w g (wq.drewN 1) := ⟨fk.fs.drewN 1, fk.kp.drewN 1⟩
      replace C := C.drewN 1
      replace rs := rs.drewN 1
      replace ra : RdB (wq.drewN 1) (some ⟨b, o, none⟩) 58 M := ra.keep0 ((Keep.refl _ _).drewN 1)
      clear lg
      generalize wq.drewN 1 = w5 at *
      conv => whnf
      repeat ((first
        | (refine LdQ.at (j := k) (by omega) (fun _ h => h.2.cell k (by omega)) ?_)
        | (refine LdQ.row (fun _ h => h.1) (by decide) ?_)
        | refine HS.t ?_|refine Br.t ?_|refine Br.f ?_|refine Pk.f ?_|refine Pk.t ?_|refine Pk.and ?_|refine Pk.or ?_|refine Ix.n ?_|refine Ix.of _ (by rfl) (by omega) ?_|refine Ix.i ?_|refine Ar.la ?_|refine Ar.lb ?_|refine Ar.lc ?_|refine Dv.q ?_|refine Dv.r ?_|refine Br.y ?_|refine Br.n ?_|refine Br.ny ?_|refine Br.nn ?_|refine Br.is (by assumption) ?_|refine Br.isnt (by assumption) ?_|refine Ld.of (by assumption) ?_|refine Ru.neq_nil0 ?_|refine Ru.n1 ?_|refine Ru.eql_nil0 ?_|refine Ru.e1 ?_|refine Ru.e2 ?_|refine Ru.e3 ?_|refine Ru.n2 ?_|refine Ru.n3 ?_|refine Ru.neq_nil rfl ?_|refine Ru.eql_nil rfl ?_|refine Ru.eql_err rfl (by decide) ?_|refine Ru.neq_err rfl (by decide) ?_|refine Ru.be ?_|refine Ru.bn ?_|refine RuQ.be ?_|refine RuQ.bn ?_|refine CW.s ?_); conv => whnf)
      refine Ca.mulK fk (GF.encR M i 0 ^^^ M i) (GF.genG k) htl hgl ?_
      intro w6 fk6 f6
      have C6 := C.of f6
      have rs6 := rs.keep f6.kp (by simpa using hne.1)
      have ra6 : RdB w6 (some ⟨b, o, none⟩) 58 M := ra.keep f6.kp (by simpa using hA)
      conv => whnf
      repeat ((first
        | refine HS.t ?_|refine Br.t ?_|refine Br.f ?_|refine Pk.f ?_|refine Pk.t ?_|refine Pk.and ?_|refine Pk.or ?_|refine Ix.n ?_|refine Ix.of _ (by rfl) (by omega) ?_|refine Ix.i ?_|refine Ar.la ?_|refine Ar.lb ?_|refine Ar.lc ?_|refine Dv.q ?_|refine Dv.r ?_|refine Br.y ?_|refine Br.n ?_|refine Br.ny ?_|refine Br.nn ?_|refine Br.is (by assumption) ?_|refine Br.isnt (by assumption) ?_|refine Ld.of (by assumption) ?_|refine Ru.neq_nil0 ?_|refine Ru.n1 ?_|refine Ru.eql_nil0 ?_|refine Ru.e1 ?_|refine Ru.e2 ?_|refine Ru.e3 ?_|refine Ru.n2 ?_|refine Ru.n3 ?_|refine Ru.neq_nil rfl ?_|refine Ru.eql_nil rfl ?_|refine Ru.eql_err rfl (by decide) ?_|refine Ru.neq_err rfl (by decide) ?_|refine Ru.be ?_|refine Ru.bn ?_|refine RuQ.be ?_|refine RuQ.bn ?_|refine CW.s ?_); conv => whnf)
      refine ⟨⟨C6.row, rs6⟩, ?_⟩
      conv => whnf
      repeat ((first
        | refine HS.t ?_|refine Br.t ?_|refine Br.f ?_|refine Pk.f ?_|refine Pk.t ?_|refine Pk.and ?_|refine Pk.or ?_|refine Ix.n ?_|refine Ix.of _ (by rfl) (by omega) ?_|refine Ix.i ?_|refine Ar.la ?_|refine Ar.lb ?_|refine Ar.lc ?_|refine Dv.q ?_|refine Dv.r ?_|refine Br.y ?_|refine Br.n ?_|refine Br.ny ?_|refine Br.nn ?_|refine Br.is (by assumption) ?_|refine Br.isnt (by assumption) ?_|refine Ld.of (by assumption) ?_|refine Ru.neq_nil0 ?_|refine Ru.n1 ?_|refine Ru.eql_nil0 ?_|refine Ru.e1 ?_|refine Ru.e2 ?_|refine Ru.e3 ?_|refine Ru.n2 ?_|refine Ru.n3 ?_|refine Ru.neq_nil rfl ?_|refine Ru.eql_nil rfl ?_|refine Ru.eql_err rfl (by decide) ?_|refine Ru.neq_err rfl (by decide) ?_|refine Ru.be ?_|refine Ru.bn ?_|refine RuQ.be ?_|refine RuQ.bn ?_|refine CW.s ?_); conv => whnf)
      rw [bitv_xor8 hml hmx]
      refine Sd.rowAt rs6 k (by omega) (by omega) rfl ?_
      intro w7 rs7 k7
      conv => whnf
      repeat ((first
        | refine HS.t ?_|refine Br.t ?_|refine Br.f ?_|refine Pk.f ?_|refine Pk.t ?_|refine Pk.and ?_|refine Pk.or ?_|refine Ix.n ?_|refine Ix.of _ (by rfl) (by omega) ?_|refine Ix.i ?_|refine Ar.la ?_|refine Ar.lb ?_|refine Ar.lc ?_|refine Dv.q ?_|refine Dv.r ?_|refine Br.y ?_|refine Br.n ?_|refine Br.ny ?_|refine Br.nn ?_|refine Br.is (by assumption) ?_|refine Br.isnt (by assumption) ?_|refine Ld.of (by assumption) ?_|refine Ru.neq_nil0 ?_|refine Ru.n1 ?_|refine Ru.eql_nil0 ?_|refine Ru.e1 ?_|refine Ru.e2 ?_|refine Ru.e3 ?_|refine Ru.n2 ?_|refine Ru.n3 ?_|refine Ru.neq_nil rfl ?_|refine Ru.eql_nil rfl ?_|refine Ru.eql_err rfl (by decide) ?_|refine Ru.neq_err rfl (by decide) ?_|refine Ru.be ?_|refine Ru.bn ?_|refine RuQ.be ?_|refine RuQ.bn ?_|refine CW.s ?_); conv => whnf)
      have C7 := C6.keep0 k7 (by simpa using hne.2.1.symm) (by simpa using hne.1.symm) (by simpa using hne.2.2.symm)
      exact ⟨k + 1, ⟨by omega, ⟨C7.fs, fk6.kp.then k7 (fun x hx => .inr (by rw [List.mem_singleton.1 hx]; omega))⟩, C7, ra6.keep k7 (fun a e => by cases e; simpa using hbr), rs7.congr (fun j _ => midR_put _ _ _ _)⟩, ⟨rfl, rfl, rfl, rfl, rfl, rfl, rfl, rfl, rfl, rfl, trivial⟩, by simp only; omega⟩
    · obtain rfl : k = 6 := by omega
      conv => whnf
      repeat ((first
        | refine HS.t ?_|refine Br.t ?_|refine Br.f ?_|refine Pk.f ?_|refine Pk.t ?_|refine Pk.and ?_|refine Pk.or ?_|refine Ix.n ?_|refine Ix.of _ (by rfl) (by omega) ?_|refine Ix.i ?_|refine Ar.la ?_|refine Ar.lb ?_|refine Ar.lc ?_|refine Dv.q ?_|refine Dv.r ?_|refine Br.y ?_|refine Br.n ?_|refine Br.ny ?_|refine Br.nn ?_|refine Br.is (by assumption) ?_|refine Br.isnt (by assumption) ?_|refine Ld.of (by assumption) ?_|refine Ru.neq_nil0 ?_|refine Ru.n1 ?_|refine Ru.eql_nil0 ?_|refine Ru.e1 ?_|refine Ru.e2 ?_|refine Ru.e3 ?_|refine Ru.n2 ?_|refine Ru.n3 ?_|refine Ru.neq_nil rfl ?_|refine Ru.eql_nil rfl ?_|refine Ru.eql_err rfl (by decide) ?_|refine Ru.neq_err rfl (by decide) ?_|refine Ru.be ?_|refine Ru.bn ?_|refine RuQ.be ?_|refine RuQ.bn ?_|refine CW.s ?_); conv => whnf)
      exact ⟨i + 1, ⟨by omega, fk, C, ra, rs.congr (fun j hj => by simp only [midR_lo hj]; rfl)⟩, ⟨rfl, rfl, rfl, rfl, rfl, rfl, trivial⟩, by simp only; omega⟩
  · obtain rfl : i = 58 := by omega
    conv => whnf
    repeat ((first
      | refine HS.t ?_|refine Br.t ?_|refine Br.f ?_|refine Pk.f ?_|refine Pk.t ?_|refine Pk.and ?_|refine Pk.or ?_|refine Ix.n ?_|refine Ix.of _ (by rfl) (by omega) ?_|refine Ix.i ?_|refine Ar.la ?_|refine Ar.lb ?_|refine Ar.lc ?_|refine Dv.q ?_|refine Dv.r ?_|refine Br.y ?_|refine Br.n ?_|refine Br.ny ?_|refine Br.nn ?_|refine Br.is (by assumption) ?_|refine Br.isnt (by assumption) ?_|refine Ld.of (by assumption) ?_|refine Ru.neq_nil0 ?_|refine Ru.n1 ?_|refine Ru.eql_nil0 ?_|refine Ru.e1 ?_|refine Ru.e2 ?_|refine Ru.e3 ?_|refine Ru.n2 ?_|refine Ru.n3 ?_|refine Ru.neq_nil rfl ?_|refine Ru.eql_nil rfl ?_|refine Ru.eql_err rfl (by decide) ?_|refine Ru.neq_err rfl (by decide) ?_|refine Ru.be ?_|refine Ru.bn ?_|refine RuQ.be ?_|refine RuQ.bn ?_|refine CW.s ?_); conv => whnf)
    refine CW.held (fun w' => True) [] (.take 1 (.take 3 (.one 0 (.one 2 (.one 4 (.take 5 (.take 6 (.done)))))))) tt_ok (by kernel_rfl) (by kernel_rfl) (by kernel_rfl) ?_ ?_
    · trivial
    replace fk : FK w g (wr.drewN 1) := ⟨fk.fs.drewN 1, fk.kp.drewN 1⟩
    replace C := C.drewN 1
    replace rs := rs.drewN 1
    replace ra : RdB (wr.drewN 1) A 58 M := ra.keep0 ((Keep.refl _ _).drewN 1)
    generalize wr.drewN 1 = w2 at *
    conv => whnf
    repeat ((first
      | (refine RuQ.of (fun w _ => sl6_run rg w) ?_)
      | refine HS.t ?_|refine Br.t ?_|refine Br.f ?_|refine Pk.f ?_|refine Pk.t ?_|refine Pk.and ?_|refine Pk.or ?_|refine Ix.n ?_|refine Ix.of _ (by rfl) (by omega) ?_|refine Ix.i ?_|refine Ar.la ?_|refine Ar.lb ?_|refine Ar.lc ?_|refine Dv.q ?_|refine Dv.r ?_|refine Br.y ?_|refine Br.n ?_|refine Br.ny ?_|refine Br.nn ?_|refine Br.is (by assumption) ?_|refine Br.isnt (by assumption) ?_|refine Ld.of (by assumption) ?_|refine Ru.neq_nil0 ?_|refine Ru.n1 ?_|refine Ru.eql_nil0 ?_|refine Ru.e1 ?_|refine Ru.e2 ?_|refine Ru.e3 ?_|refine Ru.n2 ?_|refine Ru.n3 ?_|refine Ru.neq_nil rfl ?_|refine Ru.eql_nil rfl ?_|refine Ru.eql_err rfl (by decide) ?_|refine Ru.neq_err rfl (by decide) ?_|refine Ru.be ?_|refine Ru.bn ?_|refine RuQ.be ?_|refine RuQ.bn ?_|refine CW.s ?_); conv => whnf)
    refine Ru.of (mk64_run _) ?_
    have O1 := Own.mk64 (Keep.refl [] w2) (fun _ => 0)
    have ra3 : RdB (w2.alloc (.cells (madeCells #[.int .u8 0] 64) 5)) A 58 M := ra.keep0 O1.keep
    conv => whnf
    repeat ((first
      | refine HS.t ?_|refine Br.t ?_|refine Br.f ?_|refine Pk.f ?_|refine Pk.t ?_|refine Pk.and ?_|refine Pk.or ?_|refine Ix.n ?_|refine Ix.of _ (by rfl) (by omega) ?_|refine Ix.i ?_|refine Ar.la ?_|refine Ar.lb ?_|refine Ar.lc ?_|refine Dv.q ?_|refine Dv.r ?_|refine Br.y ?_|refine Br.n ?_|refine Br.ny ?_|refine Br.nn ?_|refine Br.is (by assumption) ?_|refine Br.isnt (by assumption) ?_|refine Ld.of (by assumption) ?_|refine Ru.neq_nil0 ?_|refine Ru.n1 ?_|refine Ru.eql_nil0 ?_|refine Ru.e1 ?_|refine Ru.e2 ?_|refine Ru.e3 ?_|refine Ru.n2 ?_|refine Ru.n3 ?_|refine Ru.neq_nil rfl ?_|refine Ru.eql_nil rfl ?_|refine Ru.eql_err rfl (by decide) ?_|refine Ru.neq_err rfl (by decide) ?_|refine Ru.be ?_|refine Ru.bn ?_|refine RuQ.be ?_|refine RuQ.bn ?_|refine CW.s ?_); conv => whnf)
    refine Bu.grow O1 (fun j => (M j : Int)) ra3 hd (fun e => by
      obtain ⟨b, o, e2, _⟩ := r (by omega)
      rw [e] at e2
      cases e2) (by omega) ?_
    intro Y e w3 O2 k2
    have rs3 := Row.keep rs O2.keep (by simp)
    conv => whnf
    repeat ((first
      | refine HS.t ?_|refine Br.t ?_|refine Br.f ?_|refine Pk.f ?_|refine Pk.t ?_|refine Pk.and ?_|refine Pk.or ?_|refine Ix.n ?_|refine Ix.of _ (by rfl) (by omega) ?_|refine Ix.i ?_|refine Ar.la ?_|refine Ar.lb ?_|refine Ar.lc ?_|refine Dv.q ?_|refine Dv.r ?_|refine Br.y ?_|refine Br.n ?_|refine Br.ny ?_|refine Br.nn ?_|refine Br.is (by assumption) ?_|refine Br.isnt (by assumption) ?_|refine Ld.of (by assumption) ?_|refine Ru.neq_nil0 ?_|refine Ru.n1 ?_|refine Ru.eql_nil0 ?_|refine Ru.e1 ?_|refine Ru.e2 ?_|refine Ru.e3 ?_|refine Ru.n2 ?_|refine Ru.n3 ?_|refine Ru.neq_nil rfl ?_|refine Ru.eql_nil rfl ?_|refine Ru.eql_err rfl (by decide) ?_|refine Ru.neq_err rfl (by decide) ?_|refine Ru.be ?_|refine Ru.bn ?_|refine RuQ.be ?_|refine RuQ.bn ?_|refine CW.s ?_); conv => whnf)
    refine Bu.grow O2 (fun j => (GF.encR M 58 j : Int)) (m := 6) (fun _ => ⟨rg, 0, rfl, fun j hj => by rw [Nat.zero_add]; exact rs3.cell j hj⟩) (by omega) (fun e => by cases e) (by omega) ?_
    intro Y e2 w4 O3 k3
    obtain ⟨b, rfl, -, -⟩ := O3.ly.at1 (j := 0) (by omega)
    have hb := O3.new b (List.mem_singleton.2 rfl)
    have kp := O3.keep
    conv => whnf
    repeat ((first
      | refine HS.t ?_|refine Br.t ?_|refine Br.f ?_|refine Pk.f ?_|refine Pk.t ?_|refine Pk.and ?_|refine Pk.or ?_|refine Ix.n ?_|refine Ix.of _ (by rfl) (by omega) ?_|refine Ix.i ?_|refine Ar.la ?_|refine Ar.lb ?_|refine Ar.lc ?_|refine Dv.q ?_|refine Dv.r ?_|refine Br.y ?_|refine Br.n ?_|refine Br.ny ?_|refine Br.nn ?_|refine Br.is (by assumption) ?_|refine Br.isnt (by assumption) ?_|refine Ld.of (by assumption) ?_|refine Ru.neq_nil0 ?_|refine Ru.n1 ?_|refine Ru.eql_nil0 ?_|refine Ru.e1 ?_|refine Ru.e2 ?_|refine Ru.e3 ?_|refine Ru.n2 ?_|refine Ru.n3 ?_|refine Ru.neq_nil rfl ?_|refine Ru.eql_nil rfl ?_|refine Ru.eql_err rfl (by decide) ?_|refine Ru.neq_err rfl (by decide) ?_|refine Ru.be ?_|refine Ru.bn ?_|refine RuQ.be ?_|refine RuQ.bn ?_|refine CW.s ?_); conv => whnf)
    refine ⟨rfl, ⟨C.fs.keep0 kp, fk.kp.trans (kp.mono (by simp))⟩, b, e2, Nat.le_trans fk.kp.size hb, rfl, O3.ly.congr (fun j hj => ?_)⟩
    unfold GF.encW
    by_cases h1 : j < 58
    · simp [h1]
    · simp [h1]
end Go.Proofs.Ytkpaafjnjmmehaa
