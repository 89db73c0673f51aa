/- Bytes that a call gathers in a slice of its own. -/
import Derived.Test.YtikjedefbflklaaK
import Derived.Test.YtikjedefbflklaaLy
namespace Go.Proofs.Ytikjedefbflklaa
open Go.RowKit
set_option linter.unusedVariables false
theorem Ly.row_ne {w : World} {t t' : TypeId} {s n c g m : Nat} {A : Option Addr} {f f' : Nat → Value} (h : Ly w t s A n c f) (r : Row w g t' m f') (ht : t ≠ t') : g ∉ blk A := by
  intro hx
  cases A with
  | none => cases hx
  | some a =>
    obtain ⟨b, cur, fr, rfl, hh, _⟩ := h.2.2.2 a rfl
    obtain rfl := List.mem_singleton.1 hx
    rw [r] at hh
    injection hh with hh
    injection hh with _ e
    exact ht e.symm
structure Own (w0 w : World) (X : Option Addr) (n c : Nat) (f : Nat → Int) : Prop where
  ly : Ly w 5 1 X n c (fun j => .int .u8 (f j))
  new : ∀ x, x ∈ blk X → w0.heap.size ≤ x
  keep : Keep [] w0 w
theorem Own.keep0 {w0 w w' : World} {X : Option Addr} {n c : Nat} {f : Nat → Int} (h : Own w0 w X n c f) (k : Keep [] w w') : Own w0 w' X n c f := ⟨h.ly.keep0 k, h.new, h.keep.trans k⟩
theorem Own.congr {w0 w : World} {X : Option Addr} {n c : Nat} {f f' : Nat → Int} (h : Own w0 w X n c f) (e : ∀ j, j < n → f j = f' j) : Own w0 w X n c f' := ⟨h.ly.congr (fun j hj => by rw [e j (by omega)]), h.new, h.keep⟩
theorem Own.from {u0 w0 w : World} {X : Option Addr} {n c : Nat} {f : Nat → Int} (h : Own w0 w X n c f) (k : Keep [] u0 w0) : Own u0 w X n c f := ⟨h.ly, fun x hx => Nat.le_trans k.size (h.new x hx), k.trans h.keep⟩
theorem Own.start (w : World) (f : Nat → Int) : Own w w none 0 0 f := ⟨Ly.nil _ _ _ _, (fun _ h => by cases h), Keep.refl _ _⟩
theorem Own.made {w0 w : World} (k : Keep [] w0 w) (n : Nat) (hn : n ≤ maxLen) : Own w0 (w.alloc (.cells (madeCells #[.int .u8 0] n) 5)) (some ⟨w.heap.size, 0, none⟩) n n (fun _ => 0) :=
  ⟨Ly.of_row (Row.made w 5 (.int .u8 0) n) (Nat.le_refl _) (by omega) hn, fun x hx => by rw [List.mem_singleton.1 hx]; exact k.size, k.alloc _⟩
theorem Bu.grow {w0 w : World} {X : Option Addr} {n c : Nat} {f : Nat → Int} {ty : TypeId} {cs : Array Bool} {K : Value → World → Prop} (O : Own w0 w X n c f) {B : Option Addr} {m d : Nat} (g : Nat → Int) (hr : Rd w B m (fun j => .int .u8 (g j))) (hm : m ≤ d) (hB : B = none → d = 0) (hb : n + m ≤ 140737488355328)
    (k : ∀ Y e w', Own w0 w' Y (n + m) e (fun j => if j < n then f j else g (j - n)) → Keep (blk X) w w' → K (.slice Y (n + m) e) w') :
    Bu Try.prog .append #[41, 41] ty cs #[.slice X n c, .slice B m d] w K := by
  obtain ⟨i0, hi, hz0, hz1, hz2⟩ := info_parts byte_info
  refine Bu.append Try.underlying41 hi hz0 hz1 hz2 rfl (by omega) O.ly _ (by rw [Nat.mul_one]; exact hr) hm hB (fun j hj => rfl) (by simp only [maxLen]; omega) (by omega) ?_
  intro Y e w' hy hk hat hpre
  refine k Y e w' ⟨hy.congr (fun j hj => ?_), fun x hx => ?_, O.keep.then hk (fun x hx => .inr (O.new x hx))⟩ hk
  · simp only [Nat.mul_one]
    by_cases h : j < n
    · rw [if_pos h, if_pos h]
    · rw [if_neg h, if_neg h]
  · rcases hat with h | h
    · exact O.new x (h ▸ hx)
    · rw [h] at hx
      rw [List.mem_singleton.1 hx]
      exact O.keep.size
theorem build_b1 (v : Int) (w : World) : (Instr.buildSlice 41 1 #[(0, .int .u8 v)]).run Try.prog w = .ok (.slice (some ⟨w.heap.size, 0, none⟩) 1 1) (w.alloc (.cells #[.int .u8 v] 5)) := by kernel_rfl
theorem build_b2 (u v : Int) (w : World) : (Instr.buildSlice 41 2 #[(0, .int .u8 u), (1, .int .u8 v)]).run Try.prog w = .ok (.slice (some ⟨w.heap.size, 0, none⟩) 2 2) (w.alloc (.cells #[.int .u8 u, .int .u8 v] 5)) := by kernel_rfl
theorem Ru.b1 {v : Int} {w : World} {K : Value → World → Prop} (k : ∀ g w', g = w.heap.size → Rd w' (some ⟨g, 0, none⟩) 1 (fun j => .int .u8 v) → Keep [] w w' → K (.slice (some ⟨g, 0, none⟩) 1 1) w') : Ru Try.prog (Instr.buildSlice 41 1 #[(0, .int .u8 v)]) w K :=
  ⟨_, _, build_b1 v w, k _ _ rfl (rd_one (heap_alloc_new _ _)) ((Keep.refl _ _).alloc _)⟩
theorem Ru.b2 {u v : Int} {w : World} {K : Value → World → Prop} (k : ∀ g w', g = w.heap.size → Rd w' (some ⟨g, 0, none⟩) 2 (fun j => .int .u8 (if j = 0 then u else v)) → Keep [] w w' → K (.slice (some ⟨g, 0, none⟩) 2 2) w') : Ru Try.prog (Instr.buildSlice 41 2 #[(0, .int .u8 u), (1, .int .u8 v)]) w K :=
  ⟨_, _, build_b2 u v w, k _ _ rfl (fun _ => ⟨_, 0, rfl, fun j hj => by
    have : j = 0 ∨ j = 1 := by omega
    rcases this with rfl | rfl <;> (simp only [World.cell?, heap_alloc_new]; rfl)⟩) ((Keep.refl _ _).alloc _)⟩
theorem Ru.mkb {w0 w : World} {n : Nat} {K : Value → World → Prop} (kw : Keep [] w0 w) (hn : n ≤ 281474976710656) (k : ∀ g w', g = w.heap.size → w'.heap.size = w.heap.size + 1 → Own w0 w' (some ⟨g, 0, none⟩) n n (fun _ => 0) → Keep [] w w' → K (.slice (some ⟨g, 0, none⟩) n n) w') : Ru Try.prog (Instr.makeSlice 41 (.int .i64 (n : Int)) (.int .i64 (n : Int))) w K :=
  ⟨_, _, run_make_row' (P := Try.prog) 41 5 (.int .u8 0) 1 Try.underlying41 byte_info rfl .i64 .i64 n (by omega) (by omega) w, k _ _ rfl (by simp) (Own.made kw n (by simp only [maxLen]; omega)) ((Keep.refl _ _).alloc _)⟩
end Go.Proofs.Ytikjedefbflklaa
