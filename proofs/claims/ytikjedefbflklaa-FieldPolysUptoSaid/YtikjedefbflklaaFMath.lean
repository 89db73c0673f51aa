/- The field of 256 elements: plain laws. -/

namespace Go.Proofs.Ytikjedefbflklaa
set_option linter.unusedVariables false
namespace GF
/-- x^8 + x^4 + x^3 + x^2 + 1 is 0x11d: times x. -/
def xt (a : Nat) : Nat := if 255 < 2 * a then (2 * a) ^^^ 0x11d else 2 * a
theorem xt_def (a : Nat) : xt a = if 255 < 2 * a then (2 * a) ^^^ 0x11d else 2 * a := rfl
def xtN : Nat → Nat → Nat
  | 0, a => a
  | n + 1, a => xt (xtN n a)
def mulN (a b : Nat) : Nat → Nat
  | 0 => 0
  | n + 1 => mulN a b n ^^^ (if b.testBit n then xtN n a else 0)
def mul (a b : Nat) : Nat := mulN a b 8
def pw (k : Nat) : Nat := xtN k 1
def lgF (a : Nat) : Nat → Nat → Nat → Nat
  | 0, _, k => k
  | n + 1, p, k => if p = a then k else lgF a n (xt p) (k + 1)
def lg (a : Nat) : Nat := lgF a 255 1 0
theorem xt_lt : ∀ a, a < 256 → xt a < 256 := by decide +kernel
theorem xtN_lt (n : Nat) {a : Nat} (h : a < 256) : xtN n a < 256 := by
  induction n with
  | zero => exact h
  | succ n ih => exact xt_lt _ ih
theorem xor_lt {a b : Nat} (ha : a < 256) (hb : b < 256) : a ^^^ b < 256 := Nat.xor_lt_two_pow (n := 8) ha hb
theorem bits {P : Nat → Prop} (h0 : P 0) (h1 : ∀ i, i < 8 → P (2 ^ i)) (h2 : ∀ x y, x < 256 → y < 256 → P x → P y → P (x ^^^ y)) : ∀ b, b < 256 → P b := by
  have hd : ∀ n, n < 8 → ∀ b, b < 256 → 2 ^ n ≤ b → b < 2 ^ (n + 1) → b ^^^ 2 ^ n < 2 ^ n := by decide +kernel
  have hp : ∀ n, n < 8 → 2 ^ n < 256 := by decide
  have key : ∀ n, n ≤ 8 → ∀ b, b < 2 ^ n → P b := by
    intro n
    induction n with
    | zero =>
      intro _ b hb
      obtain rfl : b = 0 := by simpa using hb
      exact h0
    | succ n ih =>
      intro hn b hb
      by_cases h : b < 2 ^ n
      · exact ih (by omega) b h
      · have hn8 : n < 8 := by omega
        have hb8 : b < 256 := Nat.lt_of_lt_of_le hb (Nat.pow_le_pow_right (by omega) hn : 2 ^ (n + 1) ≤ 2 ^ 8)
        have hl := hd n hn8 b hb8 (by omega) hb
        have e : b = (b ^^^ 2 ^ n) ^^^ 2 ^ n := by rw [Nat.xor_assoc, Nat.xor_self, Nat.xor_zero]
        rw [e]
        exact h2 _ _ (xor_lt hb8 (hp n hn8)) (hp n hn8) (ih (by omega) _ hl) (h1 n hn8)
  exact fun b hb => key 8 (Nat.le_refl _) b hb
theorem xt_xor1 : ∀ i, i < 8 → ∀ a, a < 256 → xt (a ^^^ 2 ^ i) = xt a ^^^ xt (2 ^ i) := by decide +kernel
theorem xt_xor {a b : Nat} (ha : a < 256) (hb : b < 256) : xt (a ^^^ b) = xt a ^^^ xt b := by
  have key : ∀ b, b < 256 → ∀ a, a < 256 → xt (a ^^^ b) = xt a ^^^ xt b := by
    refine bits ?_ ?_ ?_
    · intro a _
      rw [Nat.xor_zero, show xt 0 = 0 from rfl, Nat.xor_zero]
    · intro i hi a ha
      exact xt_xor1 i hi a ha
    · intro x y hx hy h1 h2 a ha
      rw [← Nat.xor_assoc, h2 _ (xor_lt ha hx), h1 _ ha, h2 _ hx, Nat.xor_assoc]
  exact key b hb a ha
theorem xtN_xor (n : Nat) {a b : Nat} (ha : a < 256) (hb : b < 256) : xtN n (a ^^^ b) = xtN n a ^^^ xtN n b := by
  induction n with
  | zero => rfl
  | succ n ih =>
    unfold xtN
    rw [ih, xt_xor (xtN_lt n ha) (xtN_lt n hb)]
theorem xtN_zero (n : Nat) : xtN n 0 = 0 := by
  induction n with
  | zero => rfl
  | succ n ih => unfold xtN; rw [ih]; rfl
theorem ite_xor (s t : Bool) (m : Nat) : (if (s ^^ t) = true then m else 0) = (if s = true then m else 0) ^^^ (if t = true then m else 0) := by
  cases s <;> cases t <;> simp
theorem xor4 (a b c d : Nat) : (a ^^^ b) ^^^ (c ^^^ d) = (a ^^^ c) ^^^ (b ^^^ d) := by
  rw [Nat.xor_assoc, Nat.xor_assoc, ← Nat.xor_assoc b, Nat.xor_comm b c, Nat.xor_assoc]
theorem mulN_xor_r (a b c : Nat) (n : Nat) : mulN a (b ^^^ c) n = mulN a b n ^^^ mulN a c n := by
  induction n with
  | zero => exact (Nat.xor_self 0).symm
  | succ n ih =>
    unfold mulN
    rw [ih, Nat.testBit_xor, ite_xor, xor4]
theorem mulN_lt {a : Nat} (b : Nat) (h : a < 256) (n : Nat) : mulN a b n < 256 := by
  induction n with
  | zero => exact (by decide : 0 < 256)
  | succ n ih =>
    unfold mulN
    refine xor_lt ih ?_
    split
    · exact xtN_lt n h
    · decide
theorem mul_lt {a b : Nat} (h : a < 256) : mul a b < 256 := mulN_lt b h 8
theorem mul_xor_r (a b c : Nat) : mul a (b ^^^ c) = mul a b ^^^ mul a c := mulN_xor_r a b c 8
theorem mulN_zero_r (a n : Nat) : mulN a 0 n = 0 := by
  induction n with
  | zero => rfl
  | succ n ih => unfold mulN; rw [ih]; simp
theorem mul_zero_r (a : Nat) : mul a 0 = 0 := mulN_zero_r a 8
theorem mulN_zero_l (b n : Nat) : mulN 0 b n = 0 := by
  induction n with
  | zero => rfl
  | succ n ih => unfold mulN; rw [ih, xtN_zero]; simp
theorem mul_zero_l (b : Nat) : mul 0 b = 0 := mulN_zero_l b 8
theorem mul_one1 : ∀ a, a < 256 → mul a 1 = a := by decide +kernel
theorem mul_xt1 : ∀ i, i < 8 → ∀ a, a < 256 → mul a (xt (2 ^ i)) = xt (mul a (2 ^ i)) := by decide +kernel
theorem mul_xt {a b : Nat} (ha : a < 256) (hb : b < 256) : mul a (xt b) = xt (mul a b) := by
  refine bits (P := fun b => mul a (xt b) = xt (mul a b)) ?_ (fun i hi => mul_xt1 i hi a ha) ?_ b hb
  · simp only [show xt 0 = 0 from rfl, mul_zero_r]
  · intro x y hx hy h1 h2
    rw [xt_xor hx hy, mul_xor_r, mul_xor_r, h1, h2, xt_xor (mul_lt ha) (mul_lt ha)]
theorem pw_lt (k : Nat) : pw k < 256 := xtN_lt k (by decide)
theorem pw_succ (k : Nat) : pw (k + 1) = xt (pw k) := rfl
theorem mul_pw (i j : Nat) : mul (pw i) (pw j) = pw (i + j) := by
  induction j with
  | zero => exact mul_one1 _ (pw_lt i)
  | succ j ih => rw [pw_succ, mul_xt (pw_lt i) (pw_lt j), ih, ← Nat.add_assoc, pw_succ]
theorem xtN_add (m n a : Nat) : xtN (m + n) a = xtN m (xtN n a) := by
  induction m with
  | zero => simp [xtN]
  | succ m ih => rw [show m + 1 + n = m + n + 1 by omega]; unfold xtN; rw [ih]
theorem pw_255 : pw 255 = 1 := by decide +kernel
theorem pw_add255 (k : Nat) : pw (k + 255) = pw k := by
  unfold pw
  rw [xtN_add, show xtN 255 1 = 1 from pw_255]
theorem pw_mul255 (q r : Nat) : pw (r + 255 * q) = pw r := by
  induction q with
  | zero => rfl
  | succ q ih => rw [show r + 255 * (q + 1) = r + 255 * q + 255 by omega, pw_add255, ih]
theorem pw_mod (k : Nat) : pw (k % 255) = pw k := by
  conv => rhs; rw [← Nat.mod_add_div k 255]
  rw [pw_mul255]
theorem lg_spec : ∀ a, a < 256 → a ≠ 0 → lg a < 255 ∧ pw (lg a) = a := by decide +kernel
theorem lg_pw1 : ∀ k, k < 255 → lg (pw k) = k := by decide +kernel
theorem lg_pw (k : Nat) : lg (pw k) = k % 255 := by
  rw [← pw_mod]
  exact lg_pw1 _ (Nat.mod_lt _ (by decide))
theorem pw_ne0 (k : Nat) : pw k ≠ 0 := by
  have h : ∀ k, k < 255 → pw k ≠ 0 := by decide +kernel
  rw [← pw_mod]
  exact h _ (Nat.mod_lt _ (by decide))
theorem pw_inj {i j : Nat} (hi : i < 255) (hj : j < 255) (h : pw i = pw j) : i = j := by
  have := congrArg lg h
  rwa [lg_pw1 i hi, lg_pw1 j hj] at this
theorem mul_lg {a b : Nat} (ha : a < 256) (hb : b < 256) (ha0 : a ≠ 0) (hb0 : b ≠ 0) : mul a b = pw (lg a + lg b) := by
  obtain ⟨_, h1⟩ := lg_spec a ha ha0
  obtain ⟨_, h2⟩ := lg_spec b hb hb0
  rw [← mul_pw, h1, h2]
theorem mul_comm {a b : Nat} (ha : a < 256) (hb : b < 256) : mul a b = mul b a := by
  by_cases ha0 : a = 0
  · subst ha0; rw [mul_zero_l, mul_zero_r]
  by_cases hb0 : b = 0
  · subst hb0; rw [mul_zero_l, mul_zero_r]
  rw [mul_lg ha hb ha0 hb0, mul_lg hb ha hb0 ha0, Nat.add_comm]
theorem mul_ne0 {a b : Nat} (ha : a < 256) (hb : b < 256) (ha0 : a ≠ 0) (hb0 : b ≠ 0) : mul a b ≠ 0 := by
  rw [mul_lg ha hb ha0 hb0]
  exact pw_ne0 _
theorem mul_assoc {a b c : Nat} (ha : a < 256) (hb : b < 256) (hc : c < 256) : mul (mul a b) c = mul a (mul b c) := by
  by_cases ha0 : a = 0
  · subst ha0; simp only [mul_zero_l]
  by_cases hb0 : b = 0
  · subst hb0; simp only [mul_zero_l, mul_zero_r]
  by_cases hc0 : c = 0
  · subst hc0; simp only [mul_zero_r]
  obtain ⟨_, h1⟩ := lg_spec a ha ha0
  obtain ⟨_, h2⟩ := lg_spec b hb hb0
  obtain ⟨_, h3⟩ := lg_spec c hc hc0
  rw [← h1, ← h2, ← h3]
  simp only [mul_pw, Nat.add_assoc]
theorem mul_xor_l {a b c : Nat} (ha : a < 256) (hb : b < 256) (hc : c < 256) : mul (a ^^^ b) c = mul a c ^^^ mul b c := by
  rw [mul_comm (xor_lt ha hb) hc, mul_xor_r, mul_comm hc ha, mul_comm hc hb]
theorem mul_one_l {a : Nat} (ha : a < 256) : mul 1 a = a := by rw [mul_comm (by decide) ha, mul_one1 a ha]
def inv (a : Nat) : Nat := pw (255 - lg a)
theorem inv_def (a : Nat) : inv a = pw (255 - lg a) := rfl
theorem inv_lt (a : Nat) : inv a < 256 := pw_lt _
theorem mul_inv {a : Nat} (ha : a < 256) (ha0 : a ≠ 0) : mul a (inv a) = 1 := by
  obtain ⟨h0, h1⟩ := lg_spec a ha ha0
  have h2 : mul (pw (lg a)) (inv a) = 1 := by
    unfold inv
    rw [mul_pw, show lg a + (255 - lg a) = 255 by omega, pw_255]
  rwa [h1] at h2
theorem inv_uniq {a x : Nat} (ha : a < 256) (ha0 : a ≠ 0) (hx : x < 256) (h : mul a x = 1) : x = inv a := by
  have h1 : mul (inv a) (mul a x) = inv a := by rw [h, mul_one1 _ (inv_lt a)]
  rw [← mul_assoc (inv_lt a) ha hx, mul_comm (inv_lt a) ha, mul_inv ha ha0, mul_one_l hx] at h1
  exact h1
theorem inv_ne0 (a : Nat) : inv a ≠ 0 := pw_ne0 _
/-- The reference's product. -/
def clmN (a b : Nat) : Nat → Nat
  | 0 => 0
  | n + 1 => clmN a b n ^^^ (if b.testBit n then a <<< n else 0)
def rstep (i s : Nat) : Nat := if s.testBit i then s ^^^ (0x11d <<< (i - 8)) else s
def redF : Nat → Nat → Nat
  | 0, s => s
  | m + 1, s => redF m (rstep (m + 8) s)
theorem rstep_xor (i s t : Nat) : rstep i (s ^^^ t) = rstep i s ^^^ rstep i t := by
  unfold rstep
  rw [Nat.testBit_xor]
  generalize 285 <<< (i - 8) = c
  cases s.testBit i <;> cases t.testBit i <;> simp
  · rw [Nat.xor_assoc]
  · rw [Nat.xor_assoc, Nat.xor_comm t, ← Nat.xor_assoc]
  · rw [xor4, Nat.xor_self, Nat.xor_zero]
theorem redF_xor (m s t : Nat) : redF m (s ^^^ t) = redF m s ^^^ redF m t := by
  induction m generalizing s t with
  | zero => rfl
  | succ m ih => unfold redF; rw [rstep_xor, ih]
theorem clmN_xor_r (a b c n : Nat) : clmN a (b ^^^ c) n = clmN a b n ^^^ clmN a c n := by
  induction n with
  | zero => exact (Nat.xor_self 0).symm
  | succ n ih =>
    unfold clmN
    rw [ih, Nat.testBit_xor, ite_xor, xor4]
theorem ref_mul1 : ∀ i, i < 8 → ∀ a, a < 256 → redF 7 (clmN a (2 ^ i) 8) = mul a (2 ^ i) := by decide +kernel
theorem ref_mul {a b : Nat} (ha : a < 256) (hb : b < 256) : redF 7 (clmN a b 8) = mul a b := by
  refine bits (P := fun b => redF 7 (clmN a b 8) = mul a b) ?_ (fun i hi => ref_mul1 i hi a ha) ?_ b hb
  · simp only [mul_zero_r]
    rw [show clmN a 0 8 = 0 by simp [clmN]]
    rfl
  · intro x y hx hy h1 h2
    rw [clmN_xor_r, redF_xor, mul_xor_r, h1, h2]
theorem mul_two : ∀ a, a < 256 → mul a 2 = xt a := by decide +kernel
theorem clmN_lt {a : Nat} (b : Nat) (ha : a < 256) (n : Nat) (hn : n ≤ 8) : clmN a b n < 32768 := by
  induction n with
  | zero => exact (by decide : 0 < 32768)
  | succ n ih =>
    unfold clmN
    refine Nat.xor_lt_two_pow (n := 15) (ih (by omega)) ?_
    split
    · rw [Nat.shiftLeft_eq]
      have h : 2 ^ n ≤ 2 ^ 7 := Nat.pow_le_pow_right (by omega) (by omega)
      have h2 : a * 2 ^ n ≤ 255 * 2 ^ 7 := Nat.mul_le_mul (by omega) h
      exact Nat.lt_of_le_of_lt h2 (by decide)
    · decide
theorem rstep_lt {i s : Nat} (h : s < 32768) (h1 : 8 ≤ i) (h2 : i ≤ 14) : rstep i s < 32768 := by
  unfold rstep
  split
  · refine Nat.xor_lt_two_pow (n := 15) h ?_
    have : ∀ i, i ≤ 14 → 0x11d <<< (i - 8) < 2 ^ 15 := by decide
    exact this i h2
  · exact h
end GF
end Go.Proofs.Ytikjedefbflklaa
