/- Bits of numbers, plain: words made of booleans; how many are set. -/
import Derived.Laws.BitsLemmas
import Derived.Laws.Bits64b
import Derived.Lib.TrailingZeros
namespace Go.Proofs.YtdhkhbejedndoaaDoor.H
set_option linter.unusedVariables false
set_option linter.unusedSimpArgs false
/-- The number whose lowest n bits are f's. -/
def wN (f : Nat → Bool) : Nat → Nat
  | 0 => 0
  | n + 1 => wN f n + if f n then 2 ^ n else 0
theorem wN_lt (f : Nat → Bool) : ∀ n, wN f n < 2 ^ n
  | 0 => by simp [wN]
  | n + 1 => by
    have := wN_lt f n
    rw [wN, Nat.pow_succ]
    split <;> omega
theorem wN_bit (f : Nat → Bool) : ∀ n i, (wN f n).testBit i = (decide (i < n) && f i)
  | 0, i => by simp [wN]
  | n + 1, i => by
    have hlt := wN_lt f n
    rw [wN]
    cases hf : f n with
    | true =>
      simp only [if_true]
      rw [Nat.add_comm]
      rcases Nat.lt_trichotomy i n with h | h | h
      · rw [Nat.testBit_two_pow_add_gt h, wN_bit f n i]
        simp [h, Nat.lt_succ_of_lt h]
      · subst h
        rw [Nat.testBit_two_pow_add_eq, wN_bit f i i]
        simp [hf]
      · have h1 : 2 ^ n + wN f n < 2 ^ i := by
          have : 2 ^ (n + 1) ≤ 2 ^ i := Nat.pow_le_pow_right (by decide) h
          rw [Nat.pow_succ] at this
          omega
        rw [Nat.testBit_lt_two_pow h1]
        simp [show ¬ i < n + 1 by omega]
    | false =>
      simp only [Bool.false_eq_true, if_false, Nat.add_zero]
      rw [wN_bit f n i]
      rcases Nat.lt_trichotomy i n with h | h | h
      · simp [h, Nat.lt_succ_of_lt h]
      · subst h; simp [hf]
      · simp [show ¬ i < n by omega, show ¬ i < n + 1 by omega]
theorem wN_ext {f : Nat → Bool} {n x : Nat} (hx : x < 2 ^ n) (h : ∀ i, i < n → x.testBit i = f i) : wN f n = x := by
  apply Nat.eq_of_testBit_eq
  intro i
  rw [wN_bit]
  by_cases hi : i < n
  · rw [h i hi]; simp [hi]
  · have : x < 2 ^ i := Nat.lt_of_lt_of_le hx (Nat.pow_le_pow_right (by decide) (by omega))
    rw [Nat.testBit_lt_two_pow this]; simp [hi]
theorem wN_zero (n : Nat) : wN (fun _ => false) n = 0 := wN_ext (Nat.two_pow_pos n) (fun i _ => Nat.zero_testBit i)
theorem wN_congr {f g : Nat → Bool} {n : Nat} (h : ∀ i, i < n → f i = g i) : wN f n = wN g n := wN_ext (wN_lt g n) fun i hi => by rw [wN_bit, ← h i hi]; simp [hi]
theorem wN_and (f g : Nat → Bool) (n : Nat) : wN f n &&& wN g n = wN (fun i => f i && g i) n :=
  (wN_ext (Nat.and_lt_two_pow _ (wN_lt g n)) fun i hi => by rw [Nat.testBit_and, wN_bit, wN_bit]; simp [hi]).symm
theorem wN_or (f g : Nat → Bool) (n : Nat) : wN f n ||| wN g n = wN (fun i => f i || g i) n :=
  (wN_ext (Nat.or_lt_two_pow (wN_lt f n) (wN_lt g n)) fun i hi => by rw [Nat.testBit_or, wN_bit, wN_bit]; simp [hi]).symm
theorem wN_set (f : Nat → Bool) (n k : Nat) (hk : k < n) : wN f n ||| 2 ^ k = wN (fun i => f i || decide (i = k)) n :=
  (wN_ext (Nat.or_lt_two_pow (wN_lt f n) (Nat.pow_lt_pow_right (by decide) hk)) fun i hi => by
    rw [Nat.testBit_or, wN_bit, Nat.testBit_two_pow]
    simp only [hi, decide_true, Bool.true_and]
    by_cases e : i = k
    · subst e; simp
    · simp [e, show ¬ k = i by omega]).symm
/-! ### how many are set -/
def popN : Nat → Nat → Nat
  | 0, _ => 0
  | n + 1, x => x % 2 + popN n (x / 2)
theorem popN_add : ∀ m n x, popN (m + n) x = popN m x + popN n (x / 2 ^ m)
  | 0, n, x => by simp [popN]
  | m + 1, n, x => by
    rw [show m + 1 + n = (m + n) + 1 by omega, popN, popN_add m n (x / 2), popN, Nat.div_div_eq_div_mul, Nat.pow_succ, Nat.mul_comm 2]
    omega
theorem popN_le : ∀ n x, popN n x ≤ n
  | 0, _ => Nat.le_refl _
  | n + 1, x => by have := popN_le n (x / 2); rw [popN]; omega
/-- The bits' sum. -/
def cntF (f : Nat → Bool) : Nat → Nat
  | 0 => 0
  | n + 1 => cntF f n + if f n then 1 else 0
theorem cntF_head (f : Nat → Bool) : ∀ n, cntF f (n + 1) = (if f 0 then 1 else 0) + cntF (fun i => f (i + 1)) n
  | 0 => by simp [cntF]
  | n + 1 => by rw [cntF, cntF_head f n, cntF]; omega
theorem wN_head (f : Nat → Bool) : ∀ n, wN f (n + 1) = (if f 0 then 1 else 0) + 2 * wN (fun i => f (i + 1)) n
  | 0 => by simp [wN]
  | n + 1 => by
    rw [wN, wN_head f n, wN, Nat.pow_succ]
    split <;> split <;> omega
theorem popN_wN (f : Nat → Bool) (n : Nat) : popN n (wN f n) = cntF f n := by
  induction n generalizing f with
  | zero => rfl
  | succ n ih =>
    rw [popN, wN_head, cntF_head]
    have h1 : ((if f 0 then 1 else 0) + 2 * wN (fun i => f (i + 1)) n) % 2 = if f 0 then 1 else 0 := by split <;> omega
    have h2 : ((if f 0 then 1 else 0) + 2 * wN (fun i => f (i + 1)) n) / 2 = wN (fun i => f (i + 1)) n := by split <;> omega
    rw [h1, h2, ih]
/-! ### the fields' sums -/
theorem and_parts (k q r m s : Nat) (hr : r < 2 ^ k) (hs : s < 2 ^ k) : (r + 2 ^ k * q) &&& (s + 2 ^ k * m) = (r &&& s) + 2 ^ k * (q &&& m) := by
  apply Nat.eq_of_testBit_eq
  intro i
  have hrs : (r &&& s) < 2 ^ k := Nat.and_lt_two_pow _ hs
  rw [Nat.testBit_and, Nat.add_comm r, Nat.add_comm s, Nat.add_comm (r &&& s), Nat.testBit_two_pow_mul_add q hr, Nat.testBit_two_pow_mul_add m hs, Nat.testBit_two_pow_mul_add _ hrs]
  split <;> simp [Nat.testBit_and]
def m5 : Nat → Nat
  | 0 => 0
  | n + 1 => 1 + 4 * m5 n
def m3 : Nat → Nat
  | 0 => 0
  | n + 1 => 3 + 16 * m3 n
def mf : Nat → Nat
  | 0 => 0
  | n + 1 => 15 + 256 * mf n
theorem m5_32 : m5 32 = 6148914691236517205 := by decide
theorem m3_16 : m3 16 = 3689348814741910323 := by decide
theorem mf_8 : mf 8 = 1085102592571150095 := by decide
def y1 : Nat → Nat → Nat
  | 0, _ => 0
  | n + 1, x => popN 2 x + 4 * y1 n (x / 4)
def y2 : Nat → Nat → Nat
  | 0, _ => 0
  | n + 1, x => popN 4 x + 16 * y2 n (x / 16)
def y3 : Nat → Nat → Nat
  | 0, _ => 0
  | n + 1, x => popN 8 x + 256 * y3 n (x / 256)
theorem and_m5 (n x : Nat) : x &&& m5 (n + 1) = x % 2 + 4 * (x / 4 &&& m5 n) := by
  have h := and_parts 2 (x / 4) (x % 4) (m5 n) 1 (Nat.mod_lt _ (by decide)) (by decide)
  rw [show x % 4 + 2 ^ 2 * (x / 4) = x by omega, show 1 + 2 ^ 2 * m5 n = m5 (n + 1) from rfl] at h
  rw [h, Nat.and_one_is_mod]
  omega
theorem and_m3 (n x : Nat) : x &&& m3 (n + 1) = x % 4 + 16 * (x / 16 &&& m3 n) := by
  have h := and_parts 4 (x / 16) (x % 16) (m3 n) 3 (Nat.mod_lt _ (by decide)) (by decide)
  rw [show x % 16 + 2 ^ 4 * (x / 16) = x by omega, show 3 + 2 ^ 4 * m3 n = m3 (n + 1) from rfl] at h
  rw [h, show (3 : Nat) = 2 ^ 2 - 1 from rfl, Nat.and_two_pow_sub_one_eq_mod]
  omega
theorem and_mf (n x : Nat) : x &&& mf (n + 1) = x % 16 + 256 * (x / 256 &&& mf n) := by
  have h := and_parts 8 (x / 256) (x % 256) (mf n) 15 (Nat.mod_lt _ (by decide)) (by decide)
  rw [show x % 256 + 2 ^ 8 * (x / 256) = x by omega, show 15 + 2 ^ 8 * mf n = mf (n + 1) from rfl] at h
  rw [h, show (15 : Nat) = 2 ^ 4 - 1 from rfl, Nat.and_two_pow_sub_one_eq_mod]
  omega
theorem step1 : ∀ n x, (x / 2 &&& m5 n) + (x &&& m5 n) = y1 n x
  | 0, x => by simp [m5, y1]
  | n + 1, x => by
    have ih := step1 n (x / 4)
    rw [and_m5, and_m5, y1, ← ih, show x / 2 / 4 = x / 4 / 2 by omega]
    simp only [popN]
    omega
theorem y1_le (n x : Nat) : y1 n x < 4 ^ n := by
  induction n generalizing x with
  | zero => simp [y1]
  | succ n ih =>
    have := ih (x / 4)
    have := popN_le 2 x
    rw [y1, Nat.pow_succ]
    omega
theorem step2 : ∀ n x, (y1 (2 * n) x / 4 &&& m3 n) + (y1 (2 * n) x &&& m3 n) = y2 n x
  | 0, x => by simp [m3, y2]
  | n + 1, x => by
    have ih := step2 n (x / 16)
    have e : y1 (2 * (n + 1)) x = popN 2 x + 4 * (popN 2 (x / 4) + 4 * y1 (2 * n) (x / 16)) := by
      rw [show 2 * (n + 1) = (2 * n + 1) + 1 by omega, y1, y1, Nat.div_div_eq_div_mul]
    have h2 := popN_le 2 x
    have h3 := popN_le 2 (x / 4)
    have h4 : popN 4 x = popN 2 x + popN 2 (x / 4) := popN_add 2 2 x
    rw [and_m3, and_m3, y2, e, h4, ← ih]
    generalize popN 2 x = a at *
    generalize popN 2 (x / 4) = b at *
    generalize y1 (2 * n) (x / 16) = y at *
    rw [show (a + 4 * (b + 4 * y)) / 16 = y by omega, show (a + 4 * (b + 4 * y)) / 4 = b + 4 * y by omega, show (b + 4 * y) / 16 = y / 4 by omega]
    omega
theorem y2_mod (n x : Nat) : y2 n x % 16 ≤ 4 := by
  cases n with
  | zero => simp [y2]
  | succ n =>
    have := popN_le 4 x
    rw [y2]
    omega
theorem step3 : ∀ n x, (y2 (2 * n) x / 16 + y2 (2 * n) x) &&& mf n = y3 n x
  | 0, x => by simp [mf, y3]
  | n + 1, x => by
    have ih := step3 n (x / 256)
    have e : y2 (2 * (n + 1)) x = popN 4 x + 16 * (popN 4 (x / 16) + 16 * y2 (2 * n) (x / 256)) := by
      rw [show 2 * (n + 1) = (2 * n + 1) + 1 by omega, y2, y2, Nat.div_div_eq_div_mul]
    have h2 := popN_le 4 x
    have h3 := popN_le 4 (x / 16)
    have h4 : popN 8 x = popN 4 x + popN 4 (x / 16) := popN_add 4 4 x
    have h5 := y2_mod (2 * n) (x / 256)
    rw [and_mf, y3, e, h4, ← ih]
    generalize popN 4 x = a at *
    generalize popN 4 (x / 16) = b at *
    generalize y2 (2 * n) (x / 256) = y at *
    rw [show ((a + 16 * (b + 16 * y)) / 16 + (a + 16 * (b + 16 * y))) / 256 = y / 16 + y by omega]
    omega
theorem y2_lt (n x : Nat) : y2 n x < 16 ^ n := by
  induction n generalizing x with
  | zero => simp [y2]
  | succ n ih =>
    have := ih (x / 16)
    have := popN_le 4 x
    rw [y2, Nat.pow_succ]
    omega
theorem y3_lt (n x : Nat) : y3 n x < 256 ^ n := by
  induction n generalizing x with
  | zero => simp [y3]
  | succ n ih =>
    have := ih (x / 256)
    have := popN_le 8 x
    rw [y3, Nat.pow_succ]
    omega
end Go.Proofs.YtdhkhbejedndoaaDoor.H
