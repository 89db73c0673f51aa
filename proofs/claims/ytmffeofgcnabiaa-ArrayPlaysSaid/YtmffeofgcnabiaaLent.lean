/- patinaref01.Lent: bytes that are lent, with marked places behind them. -/
import Derived.Test.YtmffeofgcnabiaaLy
import Derived.Test.YtmffeofgcnabiaaSame
import Derived.Deep.RegionLaw
namespace Go.Proofs.Ytmffeofgcnabiaa
open Go.RowKit
set_option linter.unusedVariables false
/-- A Lent at block p: n bytes are lent; full reads f, was reads g; all lies from block B on. -/
structure Lent (w : World) (B p n : Nat) (F : Option Addr) (cF : Nat) (V : Option Addr) (cV : Nat) (f g : Nat → Int) : Prop where
  box : w.heap[p]? = some (.cells #[.slice F (n + 5) cF, .slice V (n + 5) cV, .int .i64 n] 71 (0, 0))
  full : Ly w 5 1 F (n + 5) cF (fun j => .int .u8 (f j))
  was : Ly w 5 1 V (n + 5) cV (fun j => .int .u8 (g j))
  new : B ≤ p ∧ (∀ x, x ∈ blk F → B ≤ x) ∧ ∀ x, x ∈ blk V → B ≤ x
  apart : ∀ x, x ∈ blk F → x ∉ blk V
theorem box_ne {w : World} {p : Nat} {cs : Array Value} {t t' : TypeId} {s n c : Nat} {A : Option Addr} {f : Nat → Value} (h : w.heap[p]? = some (.cells cs t (0, 0))) (l : Ly w t' s A n c f) (ht : t ≠ t') : p ∉ blk A := by
  intro hp
  cases A with
  | none => cases hp
  | some a =>
    obtain ⟨g, cur, fr, rfl, hh, _⟩ := l.2.2.2 a rfl
    obtain rfl := List.mem_singleton.1 hp
    rw [h] at hh
    injection hh with hh
    injection hh with _ e
    exact ht e
theorem box_cell {w : World} {p : Nat} {cs : Array Value} {t : TypeId} (h : w.heap[p]? = some (.cells cs t (0, 0))) (i : Nat) : w.cell? ⟨p, i, none⟩ = cs[i]? := by simp [World.cell?, h]
theorem box_free {w : World} {p : Nat} {cs : Array Value} {t : TypeId} (h : w.heap[p]? = some (.cells cs t (0, 0))) (i : Nat) : w.frozen? ⟨p, i, none⟩ = false := by simp [World.frozen?, h]
theorem box_set {w : World} {p : Nat} {cs : Array Value} {t : TypeId} (h : w.heap[p]? = some (.cells cs t (0, 0))) (i : Nat) (v : Value) : (w.setCell ⟨p, i, none⟩ v).heap[p]? = some (.cells (cs.setIfInBounds i v) t (0, 0)) := by
  simp [World.setCell, Array.getElem?_modify, h]
theorem box_keep {w w' : World} {p : Nat} {o : Obj} {S : List Nat} (h : w.heap[p]? = some o) (k : Keep S w w') (hp : p ∉ S) : w'.heap[p]? = some o := (k.block p (Array.getElem?_eq_some_iff.1 h).1 hp).trans h
theorem box_lt {w : World} {p : Nat} {o : Obj} (h : w.heap[p]? = some o) : p < w.heap.size := (Array.getElem?_eq_some_iff.1 h).1
theorem Ly.far_box {w : World} {p : Nat} {cs : Array Value} {t t' : TypeId} {s n c : Nat} {A : Option Addr} {f : Nat → Value} (l : Ly w t' s A n c f) (h : w.heap[p]? = some (.cells cs t (0, 0))) (ht : t ≠ t') (i : Nat) (v : Value) : Ly (w.setCell ⟨p, i, none⟩ v) t' s A n c f :=
  l.far (p := ⟨p, i, none⟩) (fun x hx e => box_ne h l ht (show p ∈ blk A from (show x = p from e) ▸ hx)) v
def lendF (n : Nat) (f : Nat → Int) : Nat → Int := fun j => if j < n then f j else 70 + ((j : Int) - n)
theorem lendF_lt {n : Nat} {f : Nat → Int} {j : Nat} (h : j < n) : lendF n f j = f j := if_pos h
theorem Lent.keep {w w' : World} {B p n : Nat} {F : Option Addr} {cF : Nat} {V : Option Addr} {cV : Nat} {f g : Nat → Int} {S : List Nat} (h : Lent w B p n F cF V cV f g) (k : Keep S w w') (hS : ∀ x, x ∈ S → x < B) : Lent w' B p n F cF V cV f g :=
  ⟨box_keep h.box k (fun hp => by have := hS p hp; have := h.new.1; omega), h.full.keep k (fun x hx hm => by have := hS x hm; have := h.new.2.1 x hx; omega), h.was.keep k (fun x hx hm => by have := hS x hm; have := h.new.2.2 x hx; omega), h.new, h.apart⟩
theorem Lent.keep' {w w' : World} {B p n : Nat} {F : Option Addr} {cF : Nat} {V : Option Addr} {cV : Nat} {f g : Nat → Int} {S : List Nat} (h : Lent w B p n F cF V cV f g) (k : Keep S w w') (hS : ∀ x, x ∈ S → x ≠ p ∧ x ∉ blk F ∧ x ∉ blk V) : Lent w' B p n F cF V cV f g :=
  ⟨box_keep h.box k (fun hp => (hS p hp).1 rfl), h.full.keep k (fun x hx hm => (hS x hm).2.1 hx), h.was.keep k (fun x hx hm => (hS x hm).2.2 hx), h.new, h.apart⟩
theorem Lent.keep0 {w w' : World} {B p n : Nat} {F : Option Addr} {cF : Nat} {V : Option Addr} {cV : Nat} {f g : Nat → Int} (h : Lent w B p n F cF V cV f g) (k : Keep [] w w') : Lent w' B p n F cF V cV f g := h.keep k (fun _ h => by cases h)
def LendPost (w : World) (n : Nat) (f : Nat → Int) (e : Ending) (w' : World) : Prop :=
  ∃ p F cF V cV, e = .returned (.pointer (some ⟨p, 0, none⟩)) ∧ Lent w' w.heap.size p n F cF V cV (lendF n f) (lendF n f) ∧ Keep [] w w'
set_option maxHeartbeats 2000000 in
theorem lend_ok (A : Option Addr) (n c : Nat) (f : Nat → Int) (w : World) (r : Rd w A n (fun j => .int .u8 (f j))) (hn : n ≤ c) (hA : A = none → c = 0) (hl : n ≤ 140737488351232) :
    Calls Try.prog 19 #[.slice A n c] w (LendPost w n f) := by
  obtain ⟨i0, hi, hz0, hz1, hz2⟩ := info_parts byte_info
  have R := Lib.hid r; have HN := Lib.hid hn; have HA := Lib.hid hA
  clear r hn hA
  go_enter Try.func19, Try.ntmps19
  go_wp2_with (at_builtin
               refine wpList_append_ly rfl (.tmp 13) (.tmp 14) 29 rfl 5 i0 _ 1 1 Try.underlying29 hi hz0 hz1 hz2 rfl (by omega) none 0 0 (fun _ => .int .u8 0) rfl (Ly.nil _ _ _ _) A n c (fun j => .int .u8 (f j)) rfl (by rw [Nat.mul_one]; exact R.out.keep0 ((Keep.refl [] w).alloc _)) HN.out HA.out (fun _ _ => rfl) (by simp only [maxLen]; omega) (by omega) ?_
               intro F cF w1 hly hkp hat hpre
               have hbox : w1.heap[w.heap.size]? = some (.cells #[.slice none 0 0, .slice none 0 0, .int .i64 n] 71 (0, 0)) := box_keep (heap_alloc_new w _) hkp (fun h => by cases h)
               have c0 : w1.cell? ⟨w.heap.size, 0, none⟩ = some (.slice none 0 0) := box_cell hbox 0
               have z0 := box_free hbox 0
               have hly2 : Ly w1 5 1 F n cF (fun j => .int .u8 (f j)) := by
                 rw [Nat.zero_add] at hly
                 exact hly.congr (fun j hj => by simp)
               have hF : ∀ x, x ∈ blk F → w.heap.size ≤ x := by
                 intro x hx
                 rcases hat with e | e
                 · rw [e] at hx; cases hx
                 · rw [e] at hx
                   obtain rfl := List.mem_singleton.1 hx
                   simp
               have k1 : Keep [] w w1 := ((Keep.refl [] w).alloc _).trans hkp
               have HLY := Lib.hid hly2; have HK := Lib.hid k1; have HF := Lib.hid hF; have HBOX := Lib.hid hbox
               clear hly hkp hat hpre hly2 hF k1 hbox)
  go_loopw [4] (fun i wr => ∃ (k : Nat) (F : Option Addr) (cF : Nat), k ≤ 5 ∧ i = .int .i64 k ∧ wr.heap[w.heap.size]? = some (.cells #[.slice F (n + k) cF, .slice none 0 0, .int .i64 n] 71 (0, 0)) ∧ Ly wr 5 1 F (n + k) cF (fun j => .int .u8 (lendF n f j)) ∧ (∀ x, x ∈ blk F → w.heap.size ≤ x) ∧ Keep [] w wr) (fun i _ => 5 - (intOf i).toNat)
  case atStart => exact ⟨0, F, cF, by omega, rfl, (by simpa using box_set HBOX.out 0 (.slice F n cF)), ((HLY.out.congr (fun j hj => by rw [lendF_lt (by omega)])).far_box HBOX.out (by decide) _ _), HF.out, HK.out.setCell _ _ (.inr (Nat.le_refl _))⟩
  case round =>
    clear HLY HK HF HBOX c0 z0
    obtain ⟨k, G, cG, hk, rfl, hbox, hF, hnew, kk⟩ := hrel
    have hsz := kk.size
    have HBOX := Lib.hid hbox; have HLY := Lib.hid hF; have HF := Lib.hid hnew; have HK := Lib.hid kk
    have c0 : wr.cell? ⟨w.heap.size, 0, none⟩ = some (.slice G (n + k) cG) := box_cell hbox 0
    have hp := box_lt hbox
    clear hbox hF hnew kk
    by_cases hlt : k < 5
    · go_wp2_with (at_builtin
                   refine wpList_append_ly rfl (.tmp 26) (.tmp 30) 29 rfl 5 i0 _ 1 1 Try.underlying29 hi hz0 hz1 hz2 rfl (by omega) G (n + k) cG _ rfl (HLY.out.keep0 ((Keep.refl [] wr).alloc _)) (some ⟨wr.heap.size, 0, none⟩) 1 1 (fun _ => .int .u8 (70 + (k : Int))) rfl (rd_one (heap_alloc_new _ _)) (Nat.le_refl _) (fun e => by cases e) (fun _ _ => rfl) (by simp only [maxLen]; omega) (by omega) ?_
                   intro X cX w1 hly hkp hat hpre
                   have hpF : w.heap.size ∉ blk G := box_ne HBOX.out HLY.out (by decide)
                   have hbox : w1.heap[w.heap.size]? = some (.cells #[.slice G (n + k) cG, .slice none 0 0, .int .i64 n] 71 (0, 0)) := box_keep ((Below.heap_alloc wr _ _ hp).trans HBOX.out) hkp hpF
                   have c1 : w1.cell? ⟨w.heap.size, 0, none⟩ = some (.slice G (n + k) cG) := box_cell hbox 0
                   have z1 := box_free hbox 0
                   have HX := Lib.hid hly; have HB := Lib.hid hbox; have HAT := Lib.hid hat; have HKP := Lib.hid hkp
                   clear hly hkp hat hpre hbox hpF c0)
      go_roundw
      case measure => simp [intOf] <;> omega
      case rel =>
        have hX : Ly w1 5 1 X (n + (k + 1)) cX (fun j => .int .u8 (lendF n f j)) := HX.out.congr (fun j hj => by
          by_cases h : j < (n + k) * 1
          · simp only [if_pos h]
          · have h2 : ¬ j < n := by omega
            simp only [if_neg h, lendF, if_neg h2]
            congr 1
            omega)
        exact ⟨k + 1, X, cX, by omega, by go_num, (by rw [show n + (k + 1) = n + k + 1 from rfl]; simpa using box_set HB.out 0 (.slice X (n + k + 1) cX)), hX.far_box HB.out (by decide) _ _, fun x hx => by
          rcases HAT.out with e | e
          · exact HF.out x (e ▸ hx)
          · rw [e] at hx
            obtain rfl := List.mem_singleton.1 hx
            simp
            omega, ((HK.out.alloc _).then HKP.out (fun x hx => .inr (HF.out x hx))).setCell _ _ (.inr (Nat.le_refl _))⟩
    · obtain rfl : k = 5 := by omega
      have cz1 : wr.cell? ⟨w.heap.size, 1, none⟩ = some (.slice none 0 0) := box_cell HBOX.out 1
      have HN2 := Lib.hid (HLY.out.1)
      go_wp2
      go_region_law (refine step_append_ly rfl (.tmp 38) (.tmp 42) 29 rfl 5 i0 _ 1 1 Try.underlying29 hi hz0 hz1 hz2 rfl (by omega) none 0 0 (fun _ => .int .u8 0) rfl (Ly.nil _ _ _ _) G (n + 5) cG (fun j => .int .u8 (lendF n f j)) rfl (by rw [Nat.mul_one]; exact HLY.out.rd1) HN2.out HLY.out.2.2.1 (fun _ _ => rfl) (by simp only [maxLen]; omega) (by omega) ?_
                     intro V cV w1 hly hkp hat hpre
                     have hbox : w1.heap[w.heap.size]? = some (.cells #[.slice G (n + 5) cG, .slice none 0 0, .int .i64 n] 71 (0, 0)) := box_keep (w := wr.drew) HBOX.out hkp (fun h => by cases h)
                     have c1 : w1.cell? ⟨w.heap.size, 1, none⟩ = some (.slice none 0 0) := box_cell hbox 1
                     have z1 := box_free hbox 1
                     have HX := Lib.hid hly; have HB := Lib.hid hbox; have HAT := Lib.hid hat; have HKP := Lib.hid hkp
                     clear hly hkp hat hpre hbox)
      all_goals
        go_wp2
        go_ret
        have kG : Keep [] wr w1 := (Keep.refl [] wr).drew.trans HKP.out
        have hG := HLY.out.keep0 kG
        have hV : Ly w1 5 1 V (n + 5) cV (fun j => .int .u8 (lendF n f j)) := by
          have h := HX.out
          rw [Nat.zero_add] at h
          exact h.congr (fun j hj => by simp)
        have hV2 : ∀ x, x ∈ blk V → wr.heap.size ≤ x := fun x hx => by
          rcases HAT.out with e | e
          · rw [e] at hx; cases hx
          · rw [e] at hx
            obtain rfl := List.mem_singleton.1 hx
            exact Nat.le_refl _
        exact ⟨w.heap.size, G, cG, V, cV, rfl, ⟨by simpa using box_set HB.out 1 (.slice V (n + 5) cV), hG.far_box HB.out (by decide) _ _, hV.far_box HB.out (by decide) _ _, ⟨Nat.le_refl _, HF.out, fun x hx => by have := hV2 x hx; omega⟩, fun x hx hx2 => by have := hV2 x hx2; have := HLY.out.blk_lt hx; omega⟩, ((HK.out.trans kG).setCell _ _ (.inr (Nat.le_refl _)))⟩

set_option maxHeartbeats 1000000 in
theorem bytes_ok {B p n : Nat} {F : Option Addr} {cF : Nat} {V : Option Addr} {cV : Nat} {f g : Nat → Int} (w : World) (h : Lent w B p n F cF V cV f g) (hn : n ≤ 140737488351232) :
    Calls Try.prog 20 #[.pointer (some ⟨p, 0, none⟩)] w fun e w' => e = .returned (.slice F n cF) ∧ Drawn w w' := by
  have c0 : w.cell? ⟨p, 0, none⟩ = some (.slice F (n + 5) cF) := box_cell h.box 0
  have c2 : w.cell? ⟨p, 2, none⟩ = some (.int .i64 n) := box_cell h.box 2
  have hc := h.full.1
  have hm := h.full.2.1
  unfold maxLen at hm
  go_enter Try.func20, Try.ntmps20
  go_wp2
  go_quiet (fail)
  go_wp2
  go_ret
  exact ⟨rfl, by first | exact Drawn.of _ _ | exact Drawn.refl _⟩
set_option maxHeartbeats 1000000 in
theorem kept_ok {B p n : Nat} {F : Option Addr} {cF : Nat} {V : Option Addr} {cV : Nat} {f g : Nat → Int} (w : World) (h : Lent w B p n F cF V cV f g) (hn : n ≤ 140737488351232) :
    Calls Try.prog 21 #[.pointer (some ⟨p, 0, none⟩)] w fun e w' => e = .returned (.bool (sameB (n + 5) (n + 5) f g)) ∧ Drawn w w' := by
  have c0 : w.cell? ⟨p, 0, none⟩ = some (.slice F (n + 5) cF) := box_cell h.box 0
  have c1 : w.cell? ⟨p, 1, none⟩ = some (.slice V (n + 5) cV) := box_cell h.box 1
  have H := Lib.hid h; clear h
  go_enter Try.func21, Try.ntmps21
  go_wp2
  go_quiet ((go_at_call 12; exact Calls.quiet_of (same_ok F V (n + 5) (n + 5) cF cV f g _ (by exact H.out.full.rd1) (by exact H.out.was.rd1) (by unfold maxLen; omega) (by unfold maxLen; omega))))
  go_wp2
  go_ret
  exact ⟨rfl, by first | exact Drawn.of _ _ | exact Drawn.refl _⟩
def turnF (k : Nat) (f : Nat → Int) : Nat → Int := fun j => if j < k then (90 + (j : Int)) % 256 else f j
theorem turnF_step (k : Nat) (f : Nat → Int) : (fun j => if j = k then (90 + (k : Int)) % 256 else turnF k f j) = turnF (k + 1) f := by
  funext j
  unfold turnF
  by_cases h : j = k
  · subst h
    rw [if_pos rfl, if_pos (by omega)]
  · rw [if_neg h]
    by_cases h2 : j < k
    · rw [if_pos h2, if_pos (by omega)]
    · rw [if_neg h2, if_neg (by omega)]
set_option maxHeartbeats 2000000 in
theorem turn_ok {B p n : Nat} {F : Option Addr} {cF : Nat} {V : Option Addr} {cV : Nat} {f g : Nat → Int} (w : World) (h : Lent w B p n F cF V cV f g) (hn : n ≤ 140737488351232) :
    Calls Try.prog 22 #[.pointer (some ⟨p, 0, none⟩)] w fun e w' => e = .returned (.tuple #[]) ∧ Lent w' B p n F cF V cV (turnF (n + 5) f) (turnF (n + 5) g) ∧ Keep (blk F ++ blk V) w w' := by
  have H := Lib.hid h; clear h
  go_enter Try.func22, Try.ntmps22
  go_wp2
  go_loopw [2] (fun i wr => ∃ k : Nat, k ≤ n + 5 ∧ i = .int .i64 k ∧ Lent wr B p n F cF V cV (turnF k f) (turnF k g) ∧ Keep (blk F ++ blk V) w wr) (fun i _ => n + 5 - (intOf i).toNat)
  case atStart => exact ⟨0, by omega, rfl, by
    have e : ∀ x : Nat → Int, turnF 0 x = x := fun x => by funext j; simp [turnF]
    rw [e, e]
    exact H.out, Keep.refl _ _⟩
  case round =>
    clear H
    obtain ⟨k, hk, rfl, hL, kk⟩ := hrel
    have c0 : wr.cell? ⟨p, 0, none⟩ = some (.slice F (n + 5) cF) := box_cell hL.box 0
    by_cases hlt : k < n + 5
    · obtain ⟨gF, rfl, cF0, zF⟩ := hL.full.at1 hlt
      obtain ⟨gV, rfl, cV0, zV⟩ := hL.was.at1 hlt
      have hpF : p ≠ gF := fun e => box_ne hL.box hL.full (by decide) (e ▸ List.mem_singleton.2 rfl)
      have hpV : p ≠ gV := fun e => box_ne hL.box hL.was (by decide) (e ▸ List.mem_singleton.2 rfl)
      have hFV : gF ≠ gV := fun e => hL.apart gF (List.mem_singleton.2 rfl) (e ▸ List.mem_singleton.2 rfl)
      have HL := Lib.hid hL; have HK := Lib.hid kk
      have hb1 := box_keep hL.box ((Keep.refl [gF] wr).setCell ⟨gF, k, none⟩ (.int .u8 ((90 + (k : Int)) % 256)) (.inl (List.mem_singleton.2 rfl))) (fun h => hpF (List.mem_singleton.1 h))
      have HB1 := Lib.hid hb1
      clear hL kk hb1
      have d0 : (wr.setCell ⟨gF, k, none⟩ (.int .u8 ((90 + (k : Int)) % 256))).cell? ⟨p, 0, none⟩ = some (.slice (some ⟨gF, 0, none⟩) (n + 5) cF) := box_cell HB1.out 0
      have d1 : (wr.setCell ⟨gF, k, none⟩ (.int .u8 ((90 + (k : Int)) % 256))).cell? ⟨p, 1, none⟩ = some (.slice (some ⟨gV, 0, none⟩) (n + 5) cV) := box_cell HB1.out 1
      have hV1 := HL.out.was.far (p := ⟨gF, k, none⟩) (fun x hx e => hFV (by have := List.mem_singleton.1 hx; exact e.symm.trans this)) (.int .u8 ((90 + (k : Int)) % 256))
      have hF1 := HL.out.full.set_int rfl k ((90 + (k : Int)) % 256)
      obtain ⟨_, e3, d3, z3⟩ := hV1.at1 hlt
      injection e3 with e3
      injection e3 with e3
      subst e3
      obtain ⟨_, e4, d4, z4⟩ := hF1.at1 hlt
      injection e4 with e4
      injection e4 with e4
      subst e4
      rw [if_pos rfl] at d4
      have HV1 := Lib.hid hV1; have HF1 := Lib.hid hF1
      clear hV1 hF1 hpF hpV hFV
      go_wp2
      generalize hW : wr.setCell ⟨gF, k, none⟩ (.int .u8 ((90 + (k : Int)) % 256)) = W at d0 d1 d3 d4 z3 z4 HB1 HV1 HF1
      have HW := Lib.hid hW; clear hW
      go_region
      all_goals
        go_wp2
        go_roundw
        case measure => simp [intOf] <;> omega
        case rel =>
          have L := HL.out
          have hpV : p ≠ gV := fun e => box_ne L.box L.was (by decide) (e ▸ List.mem_singleton.2 rfl)
          have hFV : gF ≠ gV := fun e => L.apart gF (List.mem_singleton.2 rfl) (e ▸ List.mem_singleton.2 rfl)
          refine ⟨k + 1, by omega, by go_num, ⟨box_keep HB1.out ((Keep.refl [gV] W).drew.setCell ⟨gV, k, none⟩ _ (.inl (List.mem_singleton.2 rfl))) (fun h => hpV (List.mem_singleton.1 h)), ?_, ?_, L.new, L.apart⟩, ?_⟩
          · have h := HF1.out.keep ((Keep.refl [gV] W).drew.setCell ⟨gV, k, none⟩ (.int .u8 ((90 + (k : Int)) % 256)) (.inl (List.mem_singleton.2 rfl))) (fun x hx hm => hFV ((show x = gF from List.mem_singleton.1 hx).symm.trans (List.mem_singleton.1 hm)))
            rw [← turnF_step]
            exact h
          · have h := (HV1.out.keep0 (Keep.refl [] W).drew).set_int rfl k ((90 + (k : Int)) % 256)
            rw [← turnF_step]
            exact h
          · have h := HK.out.setCell ⟨gF, k, none⟩ (.int .u8 ((90 + (k : Int)) % 256)) (.inl (by simp [blk]))
            rw [HW.out] at h
            exact h.drew.setCell _ _ (.inl (by simp [blk]))
    · obtain rfl : k = n + 5 := by omega
      go_wp2
      go_end0
      exact ⟨rfl, hL, kk⟩
end Go.Proofs.Ytmffeofgcnabiaa
