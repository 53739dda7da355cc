/- NumP -/
import Derived.Test.YtpaknjmcjblahaaCNum3
namespace Go.Proofs.Ytpaknjmcjblahaa.H
set_option linter.unusedVariables false
set_option linter.unusedSimpArgs false
theorem foldl_val (l : List Int) : ∀ a : Int, l.foldl (fun n c => n * 256 + c) a = a * 256 ^ l.length + val l := by
  induction l with
  | nil => intro a; simp [val]
  | cons c l ih =>
    intro a
    have h0 := ih c
    have h1 := ih (a * 256 + c)
    simp only [val, List.foldl_cons, List.length_cons] at *
    rw [h1, Int.zero_mul, Int.zero_add, h0, Int.pow_succ, Int.add_mul, Int.mul_assoc, Int.mul_comm 256]
    omega
theorem val_cons (c : Int) (l : List Int) : val (c :: l) = c * 256 ^ l.length + val l := by
  have := foldl_val l (0 * 256 + c)
  rw [Int.zero_mul, Int.zero_add] at this
  simp only [val, List.foldl_cons, Int.zero_mul, Int.zero_add] at *
  exact this
def be (k n : Nat) : List Int := (List.range k).map fun i => (byteAt n k i : Int)
theorem be_length (k n : Nat) : (be k n).length = k := by simp [be]
theorem be_succ (k n : Nat) : be (k + 1) n = ((n / 2 ^ (8 * k) % 256 : Nat) : Int) :: be k n := by
  simp only [be, List.range_succ_eq_map, List.map_cons, List.map_map]
  congr 1
  apply List.map_congr_left
  intro i hi
  simp only [Function.comp, byteAt]
  rw [show k + 1 - 1 - (i + 1) = k - 1 - i by omega]
theorem be_bytes (k n : Nat) : bytes (be k n) := by
  intro x hx
  obtain ⟨i, _, rfl⟩ := List.mem_map.1 hx
  unfold byteAt
  omega
theorem pow256 (k : Nat) : 2 ^ (8 * k) = 256 ^ k := by rw [Nat.pow_mul]
theorem be_val (k n : Nat) : val (be k n) = ((n % 256 ^ k : Nat) : Int) := by
  induction k with
  | zero => simp [be, val, Nat.mod_one]
  | succ k ih =>
    rw [be_succ, val_cons, be_length, ih, pow256, Nat.pow_succ, Nat.mod_mul, Int.natCast_add, Int.natCast_mul, Int.natCast_pow]
    rw [Int.mul_comm, Int.add_comm]
    rfl
theorem val_inj : ∀ (l m : List Int), l.length = m.length → bytes l → bytes m → val l = val m → l = m
  | [], m, hl, _, _, _ => (List.eq_nil_of_length_eq_zero hl.symm).symm
  | c :: l, [], hl, _, _, _ => by simp at hl
  | c :: l, d :: m, hl, hb, hb', hv => by
    simp only [List.length_cons, Nat.add_right_cancel_iff] at hl
    rw [val_cons, val_cons, hl] at hv
    have h1 := val_bound m.length l hl (fun x hx => hb x (List.mem_cons_of_mem _ hx))
    have h2 := val_bound m.length m rfl (fun x hx => hb' x (List.mem_cons_of_mem _ hx))
    have hP : (0 : Int) < 256 ^ m.length := Int.pow_pos (by omega)
    generalize (256 : Int) ^ m.length = P at *
    have hcd : c = d := by
      rcases Int.lt_trichotomy c d with h | h | h
      · have := Int.mul_le_mul_of_nonneg_right (show c + 1 ≤ d by omega) (Int.le_of_lt hP)
        rw [Int.add_mul] at this
        omega
      · exact h
      · have := Int.mul_le_mul_of_nonneg_right (show d + 1 ≤ c by omega) (Int.le_of_lt hP)
        rw [Int.add_mul] at this
        omega
    subst hcd
    rw [val_inj l m hl (fun x hx => hb x (List.mem_cons_of_mem _ hx)) (fun x hx => hb' x (List.mem_cons_of_mem _ hx)) (by omega)]
def bs (l : List Int) : List UInt8 := l.map fun n => UInt8.ofNat n.toNat
theorem u8_eq {a b : Int} (ha : 0 ≤ a ∧ a ≤ 255) (hb : 0 ≤ b ∧ b ≤ 255) : (UInt8.ofNat a.toNat = UInt8.ofNat b.toNat) ↔ a = b := by
  rw [← UInt8.toNat_inj]
  simp only [UInt8.toNat_ofNat']
  omega
theorem bs_inj : ∀ (l m : List Int), bytes l → bytes m → bs l = bs m → l = m
  | [], [], _, _, _ => rfl
  | [], d :: m, _, _, h => by simp [bs] at h
  | c :: l, [], _, _, h => by simp [bs] at h
  | c :: l, d :: m, hb, hb', h => by
    simp only [bs, List.map_cons, List.cons.injEq] at h
    rw [(u8_eq (hb c (by simp)) (hb' d (by simp))).1 h.1, bs_inj l m (fun x hx => hb x (List.mem_cons_of_mem _ hx)) (fun x hx => hb' x (List.mem_cons_of_mem _ hx)) h.2]
def nb (n : Nat) : Nat := (bl n + 7) / 8
theorem nb_spec (n : Nat) (h : 1 ≤ n) : 1 ≤ nb n ∧ 256 ^ (nb n - 1) ≤ n ∧ n < 256 ^ nb n := by
  have h1 := bl_lt n 0
  have h2 : 1 ≤ bl n := by omega
  refine ⟨by unfold nb; omega, ?_, ?_⟩
  · rw [← pow256]
    have := bl_lt n (8 * (nb n - 1))
    have h3 : 8 * (nb n - 1) < bl n := by unfold nb; omega
    omega
  · rw [← pow256]
    exact (bl_lt n _).1 (by unfold nb; omega)
theorem nb_le (n : Nat) (h : n < 18446744073709551616) : nb n ≤ 8 := by
  have := (bl_lt n 64).2 h
  unfold nb
  omega
theorem put_small (n : Nat) (h : n < 240) : put n = [(n : Int)] := by unfold put; rw [if_pos h]
theorem put_large (n : Nat) (h : 240 ≤ n) : put n = ((239 + nb n : Nat) : Int) :: be (nb n) n := by unfold put; rw [if_neg (by omega)]; rfl
theorem put_bytes (n : Nat) (h : n < 18446744073709551616) : bytes (put n) := by
  by_cases hs : n < 240
  · rw [put_small n hs]; intro x hx; simp at hx; omega
  · rw [put_large n (by omega)]
    intro x hx
    have := nb_le n h
    rcases List.mem_cons.1 hx with rfl | hx
    · omega
    · exact be_bytes _ _ x hx
theorem put_len (n : Nat) : (put n).length = if n < 240 then 1 else 1 + nb n := by
  split
  · rename_i h; rw [put_small n h]; rfl
  · rename_i h; rw [put_large n (by omega), List.length_cons, be_length]; omega
end Go.Proofs.Ytpaknjmcjblahaa.H
