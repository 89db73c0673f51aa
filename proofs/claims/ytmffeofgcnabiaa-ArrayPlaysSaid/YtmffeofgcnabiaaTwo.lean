/- Layer 20: uniform contracts of both arrays; a pair of them. -/
import Derived.Test.YtmffeofgcnabiaaRDiffer
import Derived.Test.YtmffeofgcnabiaaLent
import Derived.Test.YtmffeofgcnabiaaCode
namespace Go.Proofs.Ytmffeofgcnabiaa
open Go.RowKit
set_option linter.unusedVariables false
def isIn (i : Int) : Prop := 0 ≤ i ∧ i < 24
instance (i : Int) : Decidable (isIn i) := inferInstanceAs (Decidable (0 ≤ i ∧ i < 24))
def tE (i : Int) : Int := if isIn i then 0 else 1
def wE (i : Int) (m : Nat) : Int := if isIn i ∧ m = 160 then 0 else 1
def rl (i : Int) : Nat := if isIn i then 160 else 0
def tS (S : Nat → Int) (i : Int) (f : Nat → Int) : Nat → Int := if isIn i then setSec S i.toNat f else S
def wS (S : Nat → Int) (i : Int) (m : Nat) (f : Nat → Int) : Nat → Int := if isIn i ∧ m = 160 then setSec S i.toNat f else S
theorem isIn_nat {i : Int} (h : isIn i) : ∃ n : Nat, i = n ∧ n < 24 ∧ i.toNat = n := ⟨i.toNat, by unfold isIn at h; omega, by unfold isIn at h; omega, rfl⟩
theorem not_in {i : Int} (h : ¬ isIn i) : i < 0 ∨ 24 ≤ i := by unfold isIn at h; omega
section
variable {ga : Nat} {S : Nat → Int} (w : World) (h : ArrAt w ga S) (i : Int)
include h
theorem aread_sp : Spec Try.prog 11 #[.pointer (some ⟨ga, 0, none⟩), .int .i64 i] w fun v w' => ∃ Z z, v = .tuple #[.slice Z (rl i) z, errOf (tE i)] ∧ Ly w' 5 1 Z (rl i) z (fun j => .int .u8 (S (i.toNat * 160 + j))) ∧ (∀ x, x ∈ blk Z → w.heap.size ≤ x) ∧ Keep [] w w' := by
  by_cases hi : isIn i
  · obtain ⟨n, rfl, hn, e⟩ := isIn_nat hi
    have e1 : rl (n : Int) = 160 := if_pos hi
    have e2 : tE (n : Int) = 0 := if_pos hi
    rw [e1, e2, e]
    exact Spec.of_ret (by kernel_rfl) (read_ok ga n S w hn h) (fun e w' ⟨Z, z, h1, h2, h3, h4⟩ => ⟨_, h1, Z, z, rfl, h2, h3, h4⟩)
  · have e1 : rl i = 0 := if_neg hi
    have e2 : tE i = 1 := if_neg hi
    rw [e1, e2]
    exact Spec.of_ret (by kernel_rfl) (read_arg ga i w (not_in hi)) (fun e w' ⟨h1, h2⟩ => ⟨_, h1, none, 0, rfl, Ly.nil _ _ _ _, (fun x hx => by cases hx), h2 ▸ Keep.refl _ _⟩)
theorem awrite_sp (Z : Option Addr) (m d : Nat) (f : Nat → Int) (hm : m ≤ maxLen) (hz : Rd w Z m (fun j => .int .u8 (f j))) : Spec Try.prog 7 #[.pointer (some ⟨ga, 0, none⟩), .int .i64 i, .slice Z m d] w fun v w' => v = errOf (wE i m) ∧ ArrAt w' ga (wS S i m f) ∧ Keep [ga] w w' := by
  unfold wE wS
  by_cases hi : isIn i
  · obtain ⟨n, rfl, hn, e⟩ := isIn_nat hi
    by_cases hm1 : m = 160
    · subst hm1
      rw [if_pos ⟨hi, rfl⟩, if_pos ⟨hi, rfl⟩, e]
      exact Spec.of_ret (by kernel_rfl) (write_ok ga n d Z S f w hn h hz) (fun e w' ⟨h1, h2, h3⟩ => ⟨_, h1, rfl, h2, h3⟩)
    · rw [if_neg (fun e => hm1 e.2), if_neg (fun e => hm1 e.2)]
      exact Spec.of_ret (by kernel_rfl) (write_len ga m n d Z w hn hm1 hm) (fun e w' ⟨h1, h2⟩ => ⟨_, h1, rfl, h2 ▸ h, h2 ▸ Keep.refl _ _⟩)
  · rw [if_neg (fun e => hi e.1), if_neg (fun e => hi e.1)]
    exact Spec.of_ret (by kernel_rfl) (write_arg ga m d i Z w (not_in hi)) (fun e w' ⟨h1, h2⟩ => ⟨_, h1, rfl, h2 ▸ h, h2 ▸ Keep.refl _ _⟩)
theorem atrim_sp : Spec Try.prog 10 #[.pointer (some ⟨ga, 0, none⟩), .int .i64 i] w fun v w' => v = errOf (tE i) ∧ ArrAt w' ga (tS S i (fun _ => 0)) ∧ Keep [ga] w w' := by
  unfold tE tS
  by_cases hi : isIn i
  · obtain ⟨n, rfl, hn, e⟩ := isIn_nat hi
    rw [if_pos hi, if_pos hi, e]
    exact Spec.of_ret (by kernel_rfl) (trim_ok ga n S w hn h) (fun e w' ⟨h1, h2, h3⟩ => ⟨_, h1, rfl, h2, h3⟩)
  · rw [if_neg hi, if_neg hi]
    exact Spec.of_ret (by kernel_rfl) (trim_arg ga i w (not_in hi)) (fun e w' ⟨h1, h2⟩ => ⟨_, h1, rfl, h2 ▸ h, h2 ▸ Keep.refl _ _⟩)
omit i in
theorem aclone_sp : Spec Try.prog 27 #[.pointer (some ⟨ga, 0, none⟩)] w fun v w' => v = .pointer (some ⟨w.heap.size, 0, none⟩) ∧ ArrAt w' w.heap.size S ∧ Keep [] w w' := Spec.of_ret (by kernel_rfl) (aclone_ok ga S w h) (fun e w' ⟨h1, h2, h3⟩ => ⟨_, h1, rfl, h2, h3⟩)
end
theorem anew_sp (w : World) : Spec Try.prog 6 #[] w fun v w' => v = .pointer (some ⟨w.heap.size, 0, none⟩) ∧ ArrAt w' w.heap.size (fun _ => 0) ∧ Keep [] w w' := Spec.of_ret (by kernel_rfl) (new_ok w) (fun e w' ⟨h1, h2, h3⟩ => ⟨_, h1, rfl, h2, h3⟩)
theorem adiffer_sp {g h : Nat} {S T : Nat → Int} (w : World) (hr : ArrAt w g S) (hr2 : ArrAt w h T) : Spec Try.prog 16 #[.pointer (some ⟨g, 0, none⟩), .pointer (some ⟨h, 0, none⟩)] w (IntsPost w (difOf S T 24)) := Spec.of_ret (by kernel_rfl) (differ_ok g h S T w hr hr2) (fun e w' ⟨X, c, h1, h2, h3, h4⟩ => ⟨_, h1, X, c, rfl, h2, h3, h4⟩)
theorem adiffer_nil_sp {g : Nat} {S : Nat → Int} (w : World) (hr : ArrAt w g S) : Spec Try.prog 16 #[.pointer (some ⟨g, 0, none⟩), .pointer none] w (IntsPost w (difOf S (fun _ => 0) 24)) := Spec.of_ret (by kernel_rfl) (differ_nil g S w hr) (fun e w' ⟨X, c, h1, h2, h3, h4⟩ => ⟨_, h1, X, c, rfl, h2, h3, h4⟩)
theorem code_sp (c : Int) (h0 : 0 ≤ c) (h1 : c ≤ 19) (w : World) : Spec Try.prog 23 #[errOf c] w fun v w' => v = .int .i64 c ∧ w = w' := Spec.of_ret (by kernel_rfl) (code_any c h0 h1 w) (fun e w' ⟨h1, h2⟩ => ⟨_, h1, rfl, h2⟩)
theorem pick_sp (c : Int) (n : Nat) (w : World) (h : -9223372036854775808 ≤ c ∧ c ≤ 9223372036854775807) (hn : 0 < n) (hn2 : n ≤ 100) : Spec Try.prog 9 #[.int .i64 c, .int .i64 n] w fun v w' => v = .int .i64 (pickN c n) ∧ w = w' := Spec.of_ret (by kernel_rfl) (pick_ok c n w h.1 h.2 hn hn2) (fun e w' ⟨h1, h2⟩ => ⟨_, h1, rfl, h2⟩)
theorem some_sp (v : Int) (n : Nat) (w : World) (h : 0 ≤ v ∧ v ≤ 255) (hn : n ≤ 499) : Spec Try.prog 8 #[.int .i64 n, .int .u8 v] w fun u w' => u = .slice (some ⟨w.heap.size, 0, none⟩) n n ∧ Row w' w.heap.size 5 n (fun j => .int .u8 (someF v j)) ∧ Keep [] w w' := Spec.of_ret (by kernel_rfl) (some_ok v n w h.1 h.2 hn) (fun e w' ⟨h1, h2, h3⟩ => ⟨_, h1, rfl, h2, h3⟩)
theorem shown_sp (w : World) : Spec Try.prog 5 #[] w fun v w' => v = .bool true ∧ Keep [] w w' := Spec.of_ret (by kernel_rfl) (shown_ok w) (fun e w' ⟨h1, h2⟩ => ⟨_, h1, rfl, h2⟩)
theorem lend_sp (A : Option Addr) (n c : Nat) (f : Nat → Int) (w : World) (r : Rd w A n (fun j => .int .u8 (f j))) (hn : n ≤ c) (hA : A = none → c = 0) (hl : n ≤ 140737488351232) :
    Spec Try.prog 19 #[.slice A n c] w fun v w' => ∃ p F cF V cV, v = .pointer (some ⟨p, 0, none⟩) ∧ Lent w' w.heap.size p n F cF V cV (lendF n f) (lendF n f) ∧ Keep [] w w' :=
  Spec.of_ret (by kernel_rfl) (lend_ok A n c f w r hn hA hl) (fun e w' ⟨p, F, cF, V, cV, h1, h2, h3⟩ => ⟨_, h1, p, F, cF, V, cV, rfl, h2, h3⟩)
section
variable {B p n : Nat} {F : Option Addr} {cF : Nat} {V : Option Addr} {cV : Nat} {f g : Nat → Int} (w : World) (h : Lent w B p n F cF V cV f g) (hn : n ≤ 140737488351232)
include h hn
theorem bytes_sp : Spec Try.prog 20 #[.pointer (some ⟨p, 0, none⟩)] w fun v w' => v = .slice F n cF ∧ Keep [] w w' := Spec.of_ret (by kernel_rfl) (bytes_ok w h hn) (fun e w' h => ⟨_, h.1, rfl, (Keep.refl [] w).drawn h.2⟩)
theorem kept_sp : Spec Try.prog 21 #[.pointer (some ⟨p, 0, none⟩)] w fun v w' => v = .bool (sameB (n + 5) (n + 5) f g) ∧ Keep [] w w' := Spec.of_ret (by kernel_rfl) (kept_ok w h hn) (fun e w' h => ⟨_, h.1, rfl, (Keep.refl [] w).drawn h.2⟩)
theorem turn_sp : Spec Try.prog 22 #[.pointer (some ⟨p, 0, none⟩)] w fun v w' => v = .tuple #[] ∧ Lent w' B p n F cF V cV (turnF (n + 5) f) (turnF (n + 5) g) ∧ Keep (blk F ++ blk V) w w' := Spec.of_ret (by kernel_rfl) (turn_ok w h hn) (fun e w' h => ⟨_, h.1, rfl, h.2.1, h.2.2⟩)
end
theorem same_sp (A0 A1 : Option Addr) (n0 n1 c0 c1 : Nat) (f g : Nat → Int) (w : World) (r0 : Rd w A0 n0 (fun j => .int .u8 (f j))) (r1 : Rd w A1 n1 (fun j => .int .u8 (g j))) (h0 : n0 ≤ maxLen) (h1 : n1 ≤ maxLen) :
    Spec Try.prog 12 #[.slice A0 n0 c0, .slice A1 n1 c1] w fun v w' => v = .bool (sameB n0 n1 f g) ∧ Keep [] w w' := Spec.of_ret (by kernel_rfl) (same_ok A0 A1 n0 n1 c0 c1 f g w r0 r1 h0 h1) (fun e w' h => ⟨_, h.1, rfl, (Keep.refl [] w).drawn h.2⟩)
theorem sameB_self (n : Nat) (f : Nat → Int) : sameB n n f f = true := sameB_yes rfl (fun _ _ => rfl)
/-- A row of the document's array was turned, or none. -/
def TurnPost (r : Nat) (A : Option Addr) (c : Nat) (X : Nat → Option Addr) (S : Nat → Int) (w w' : World) : Prop := ∃ X' XC', RefN w' r 24 A c X' XC' S ∧ (∀ k, k < 24 → ∀ x, x ∈ blk (X' k) → x ∈ blk (X k) ∨ w.heap.size ≤ x) ∧ Keep (blk A) w w'
section
variable {r : Nat} {A : Option Addr} {c : Nat} {X : Nat → Option Addr} {XC : Nat → Nat} {S : Nat → Int} (w : World) (h : RefN w r 24 A c X XC S) (i : Int)
include h
omit h in
theorem wr_turn {n : Nat} {f : Nat → Int} {w' : World} (k : WrPost r A c X XC S n f w w') : TurnPost r A c X (setSec S n f) w w' := by
  obtain ⟨Y, y, h1, h2, h3⟩ := k
  refine ⟨_, _, h1, fun k hk x hx => ?_, h3⟩
  unfold up1 at hx
  by_cases e : k = n
  · rw [if_pos e] at hx; exact .inr (h2 x hx)
  · rw [if_neg e] at hx; exact .inl hx
theorem rread_sp : Spec Try.prog 25 #[.pointer (some ⟨r, 0, none⟩), .int .i64 i] w fun v w' => ∃ Z z, v = .tuple #[.slice Z (rl i) z, .int .i64 (tE i)] ∧ Ly w' 5 1 Z (rl i) z (fun j => .int .u8 (S (i.toNat * 160 + j))) ∧ (∀ x, x ∈ blk Z → w.heap.size ≤ x) ∧ Keep [] w w' := by
  by_cases hi : isIn i
  · obtain ⟨n, rfl, hn, e⟩ := isIn_nat hi
    have e1 : rl (n : Int) = 160 := if_pos hi
    have e2 : tE (n : Int) = 0 := if_pos hi
    rw [e1, e2, e]
    obtain ⟨h1, h2⟩ := rread_in w h n hn
    exact ⟨h1, h2.mono fun e w' ⟨v, he, Y, y, h1, h2, h3, h4⟩ => ⟨v, he, Y, y, h1, h2, h3, h4⟩⟩
  · have e1 : rl i = 0 := if_neg hi
    have e2 : tE i = 1 := if_neg hi
    rw [e1, e2]
    obtain ⟨h1, h2⟩ := rread_out w r i (not_in hi)
    exact ⟨h1, h2.mono fun e w' ⟨v, he, h3, h4⟩ => ⟨v, he, none, 0, h3, Ly.nil _ _ _ _, (fun x hx => by cases hx), h4 ▸ Keep.refl _ _⟩⟩
theorem rwrite_sp (Z : Option Addr) (m d : Nat) (f : Nat → Int) (hz : Rd w Z m (fun j => .int .u8 (f j))) (hd : m ≤ d) (hzt : ∀ a, Z = some a → a.block ∉ blk A) : Spec Try.prog 24 #[.pointer (some ⟨r, 0, none⟩), .int .i64 i, .slice Z m d] w fun v w' => v = .int .i64 (wE i m) ∧ TurnPost r A c X (wS S i m f) w w' := by
  unfold wE wS
  by_cases hi : isIn i ∧ m = 160
  · obtain ⟨hi, rfl⟩ := hi
    rw [if_pos ⟨hi, rfl⟩, if_pos ⟨hi, rfl⟩]
    obtain ⟨n, rfl, hn, e⟩ := isIn_nat hi
    rw [e]
    obtain ⟨h1, h2⟩ := rwrite_in w h n hn Z d f hz hd hzt
    exact ⟨h1, h2.mono fun e w' ⟨v, he, h3, h4⟩ => ⟨v, he, h3, wr_turn w h4⟩⟩
  · rw [if_neg hi, if_neg hi]
    obtain ⟨h1, h2⟩ := rwrite_out w r i Z m d (by unfold isIn at hi; omega)
    exact ⟨h1, h2.mono fun e w' ⟨v, he, h3, h4⟩ => ⟨v, he, h3, X, XC, h4 ▸ h, fun k hk x hx => .inl hx, h4 ▸ Keep.refl _ _⟩⟩
theorem rtrim_sp : Spec Try.prog 26 #[.pointer (some ⟨r, 0, none⟩), .int .i64 i] w fun v w' => v = .int .i64 (tE i) ∧ TurnPost r A c X (tS S i (fun _ => 0)) w w' := by
  unfold tE tS
  by_cases hi : isIn i
  · rw [if_pos hi, if_pos hi]
    obtain ⟨n, rfl, hn, e⟩ := isIn_nat hi
    rw [e]
    obtain ⟨h1, h2⟩ := rtrim_in w h n hn
    exact ⟨h1, h2.mono fun e w' ⟨v, he, h3, h4⟩ => ⟨v, he, h3, wr_turn w h4⟩⟩
  · rw [if_neg hi, if_neg hi]
    obtain ⟨h1, h2⟩ := rtrim_out w r i (not_in hi)
    exact ⟨h1, h2.mono fun e w' ⟨v, he, h3, h4⟩ => ⟨v, he, h3, X, XC, h4 ▸ h, fun k hk x hx => .inl hx, h4 ▸ Keep.refl _ _⟩⟩
end
end Go.Proofs.Ytmffeofgcnabiaa
