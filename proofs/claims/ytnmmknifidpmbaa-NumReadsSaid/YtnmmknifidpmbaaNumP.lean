import Derived.Test.YtnmmknifidpmbaaNum3
namespace Go.Proofs.Ytnmmknifidpmbaa.H
set_option linter.unusedVariables false
set_option linter.unusedSimpArgs false

theorem foldl_val (l : List Int) : ∀ a : Int, l.foldl (fun n c => n * 256 + c) a = a * 256 ^ l.length + val l := by
  induction l with
  | nil => intro a; simp [val]
  | cons c l ih =>
    intro a
    have h0 := ih c
    have h1 := ih (a * 256 + c)
    simp only [val, List.foldl_cons, List.length_cons] at *
    rw [h1, Int.zero_mul, Int.zero_add, h0, Int.pow_succ, Int.add_mul, Int.mul_assoc, Int.mul_comm 256]
    omega
theorem val_cons (c : Int) (l : List Int) : val (c :: l) = c * 256 ^ l.length + val l := by
  have := foldl_val l (0 * 256 + c)
  rw [Int.zero_mul, Int.zero_add] at this
  simp only [val, List.foldl_cons, Int.zero_mul, Int.zero_add] at *
  exact this
/-- k bytes of a number, the highest first. -/
def be (k n : Nat) : List Int := (List.range k).map fun i => (byteAt n k i : Int)
theorem be_length (k n : Nat) : (be k n).length = k := by simp [be]
theorem be_succ (k n : Nat) : be (k + 1) n = ((n / 2 ^ (8 * k) % 256 : Nat) : Int) :: be k n := by
  simp only [be, List.range_succ_eq_map, List.map_cons, List.map_map]
  congr 1
  apply List.map_congr_left
  intro i hi
  simp only [Function.comp, byteAt]
  rw [show k + 1 - 1 - (i + 1) = k - 1 - i by omega]
theorem be_bytes (k n : Nat) : bytes (be k n) := by
  intro x hx
  obtain ⟨i, _, rfl⟩ := List.mem_map.1 hx
  unfold byteAt
  omega
theorem pow256 (k : Nat) : 2 ^ (8 * k) = 256 ^ k := by rw [Nat.pow_mul]
theorem be_val (k n : Nat) : val (be k n) = ((n % 256 ^ k : Nat) : Int) := by
  induction k with
  | zero => simp [be, val, Nat.mod_one]
  | succ k ih =>
    rw [be_succ, val_cons, be_length, ih, pow256, Nat.pow_succ, Nat.mod_mul, Int.natCast_add, Int.natCast_mul, Int.natCast_pow]
    rw [Int.mul_comm, Int.add_comm]
    rfl
theorem val_inj : ∀ (l m : List Int), l.length = m.length → bytes l → bytes m → val l = val m → l = m
  | [], m, hl, _, _, _ => (List.eq_nil_of_length_eq_zero hl.symm).symm
  | c :: l, [], hl, _, _, _ => by simp at hl
  | c :: l, d :: m, hl, hb, hb', hv => by
    simp only [List.length_cons, Nat.add_right_cancel_iff] at hl
    rw [val_cons, val_cons, hl] at hv
    have h1 := val_bound m.length l hl (fun x hx => hb x (List.mem_cons_of_mem _ hx))
    have h2 := val_bound m.length m rfl (fun x hx => hb' x (List.mem_cons_of_mem _ hx))
    have hP : (0 : Int) < 256 ^ m.length := Int.pow_pos (by omega)
    generalize (256 : Int) ^ m.length = P at *
    have hcd : c = d := by
      rcases Int.lt_trichotomy c d with h | h | h
      · have := Int.mul_le_mul_of_nonneg_right (show c + 1 ≤ d by omega) (Int.le_of_lt hP)
        rw [Int.add_mul] at this
        omega
      · exact h
      · have := Int.mul_le_mul_of_nonneg_right (show d + 1 ≤ c by omega) (Int.le_of_lt hP)
        rw [Int.add_mul] at this
        omega
    subst hcd
    rw [val_inj l m hl (fun x hx => hb x (List.mem_cons_of_mem _ hx)) (fun x hx => hb' x (List.mem_cons_of_mem _ hx)) (by omega)]
def bs (l : List Int) : List UInt8 := l.map fun n => UInt8.ofNat n.toNat
theorem u8_eq {a b : Int} (ha : 0 ≤ a ∧ a ≤ 255) (hb : 0 ≤ b ∧ b ≤ 255) : (UInt8.ofNat a.toNat = UInt8.ofNat b.toNat) ↔ a = b := by
  rw [← UInt8.toNat_inj]
  simp only [UInt8.toNat_ofNat']
  omega
theorem u8_lt {a b : Int} (ha : 0 ≤ a ∧ a ≤ 255) (hb : 0 ≤ b ∧ b ≤ 255) : (UInt8.ofNat a.toNat < UInt8.ofNat b.toNat) ↔ a < b := by
  rw [UInt8.lt_iff_toNat_lt]
  simp only [UInt8.toNat_ofNat']
  omega
theorem bs_inj : ∀ (l m : List Int), bytes l → bytes m → bs l = bs m → l = m
  | [], [], _, _, _ => rfl
  | [], d :: m, _, _, h => by simp [bs] at h
  | c :: l, [], _, _, h => by simp [bs] at h
  | c :: l, d :: m, hb, hb', h => by
    simp only [bs, List.map_cons, List.cons.injEq] at h
    rw [(u8_eq (hb c (by simp)) (hb' d (by simp))).1 h.1, bs_inj l m (fun x hx => hb x (List.mem_cons_of_mem _ hx)) (fun x hx => hb' x (List.mem_cons_of_mem _ hx)) h.2]
theorem less_cons (c d : Int) (l m : List Int) (hc : 0 ≤ c ∧ c ≤ 255) (hd : 0 ≤ d ∧ d ≤ 255) :
    Op.bytesLess (bs (c :: l)) (bs (d :: m)) = (decide (c < d) || (decide (c = d) && Op.bytesLess (bs l) (bs m))) := by
  simp only [bs, List.map_cons, Op.bytesLess]
  congr 1
  · simp only [u8_lt hc hd]
  · congr 1
    rw [Bool.eq_iff_iff, beq_iff_eq, u8_eq hc hd, decide_eq_true_eq]
theorem less_val : ∀ (l m : List Int), l.length = m.length → bytes l → bytes m → Op.bytesLess (bs l) (bs m) = decide (val l < val m)
  | [], [], _, _, _ => by simp [bs, Op.bytesLess, val]
  | c :: l, [], hl, _, _ => by simp at hl
  | [], d :: m, hl, _, _ => by simp at hl
  | c :: l, d :: m, hl, hb, hb' => by
    simp only [List.length_cons, Nat.add_right_cancel_iff] at hl
    rw [less_cons c d l m (hb c (by simp)) (hb' d (by simp)), less_val l m hl (fun x hx => hb x (List.mem_cons_of_mem _ hx)) (fun x hx => hb' x (List.mem_cons_of_mem _ hx)), val_cons, val_cons, hl]
    have h1 := val_bound m.length l hl (fun x hx => hb x (List.mem_cons_of_mem _ hx))
    have h2 := val_bound m.length m rfl (fun x hx => hb' x (List.mem_cons_of_mem _ hx))
    have hP : (0 : Int) < 256 ^ m.length := Int.pow_pos (by omega)
    generalize (256 : Int) ^ m.length = P at *
    rcases Int.lt_trichotomy c d with h | h | h
    · have := Int.mul_le_mul_of_nonneg_right (show c + 1 ≤ d by omega) (Int.le_of_lt hP)
      rw [Int.add_mul] at this
      simp only [h, decide_true, Bool.true_or]
      symm
      rw [decide_eq_true_eq]
      omega
    · subst h
      simp
    · have := Int.mul_le_mul_of_nonneg_right (show d + 1 ≤ c by omega) (Int.le_of_lt hP)
      rw [Int.add_mul] at this
      have e : decide (c < d) = false := by simp; omega
      have e' : decide (c = d) = false := by simp; omega
      rw [e, e']
      simp only [Bool.false_or, Bool.false_and]
      symm
      rw [decide_eq_false_iff_not]
      omega
/-- How many bytes follow. -/
def nb (n : Nat) : Nat := (bl n + 7) / 8
theorem nb_spec (n : Nat) (h : 1 ≤ n) : 1 ≤ nb n ∧ 256 ^ (nb n - 1) ≤ n ∧ n < 256 ^ nb n := by
  have h1 := bl_lt n 0
  have h2 : 1 ≤ bl n := by omega
  refine ⟨by unfold nb; omega, ?_, ?_⟩
  · rw [← pow256]
    have := bl_lt n (8 * (nb n - 1))
    have h3 : 8 * (nb n - 1) < bl n := by unfold nb; omega
    omega
  · rw [← pow256]
    exact (bl_lt n _).1 (by unfold nb; omega)
theorem nb_mono (n m : Nat) (h : n ≤ m) : nb n ≤ nb m := by
  have h1 := (bl_lt n (bl m)).2 (by have := (bl_lt m (bl m)).1 (Nat.le_refl _); omega)
  unfold nb
  omega
theorem nb_le (n : Nat) (h : n < 18446744073709551616) : nb n ≤ 8 := by
  have := (bl_lt n 64).2 h
  unfold nb
  omega
theorem put_small (n : Nat) (h : n < 240) : put n = [(n : Int)] := by unfold put; rw [if_pos h]
theorem put_large (n : Nat) (h : 240 ≤ n) : put n = ((239 + nb n : Nat) : Int) :: be (nb n) n := by unfold put; rw [if_neg (by omega)]; rfl
theorem put_bytes (n : Nat) (h : n < 18446744073709551616) : bytes (put n) := by
  by_cases hs : n < 240
  · rw [put_small n hs]; intro x hx; simp at hx; omega
  · rw [put_large n (by omega)]
    intro x hx
    have := nb_le n h
    rcases List.mem_cons.1 hx with rfl | hx
    · omega
    · exact be_bytes _ _ x hx
theorem put_less (n m : Nat) (hn : n < 18446744073709551616) (hm : m < 18446744073709551616) : Op.bytesLess (bs (put n)) (bs (put m)) = decide (n < m) := by
  have h8 := nb_le n hn
  have h8' := nb_le m hm
  by_cases h1 : n < 240
  · rw [put_small n h1]
    by_cases h2 : m < 240
    · rw [put_small m h2, less_cons _ _ _ _ (by omega) (by omega)]
      have e : Op.bytesLess (bs []) (bs []) = false := rfl
      rw [e, Bool.and_false, Bool.or_false]
      simp
    · rw [put_large m (by omega), less_cons _ _ _ _ (by omega) (by omega)]
      have := (nb_spec m (by omega)).1
      have e : decide ((n : Int) < ((239 + nb m : Nat) : Int)) = true := by simp; omega
      rw [e, Bool.true_or]
      symm
      simp
      omega
  · rw [put_large n (by omega)]
    have hs := nb_spec n (by omega)
    by_cases h2 : m < 240
    · rw [put_small m h2, less_cons _ _ _ _ (by omega) (by omega)]
      have e : decide (((239 + nb n : Nat) : Int) < (m : Int)) = false := by simp; omega
      have e' : decide (((239 + nb n : Nat) : Int) = (m : Int)) = false := by simp; omega
      rw [e, e', Bool.false_or, Bool.false_and]
      symm
      simp
      omega
    · rw [put_large m (by omega), less_cons _ _ _ _ (by omega) (by omega)]
      have hs' := nb_spec m (by omega)
      rcases Nat.lt_trichotomy (nb n) (nb m) with h | h | h
      · have e : decide (((239 + nb n : Nat) : Int) < ((239 + nb m : Nat) : Int)) = true := by simp; omega
        rw [e, Bool.true_or]
        symm
        rw [decide_eq_true_eq]
        rcases Nat.lt_or_ge n m with h' | h'
        · exact h'
        · have := nb_mono m n h'; omega
      · rw [h, less_val _ _ (by rw [be_length, be_length]) (be_bytes _ _) (be_bytes _ _), be_val, be_val, Nat.mod_eq_of_lt (by rw [← h]; exact hs.2.2), Nat.mod_eq_of_lt hs'.2.2]
        simp
      · have e : decide (((239 + nb n : Nat) : Int) < ((239 + nb m : Nat) : Int)) = false := by simp; omega
        have e' : decide (((239 + nb n : Nat) : Int) = ((239 + nb m : Nat) : Int)) = false := by simp; omega
        rw [e, e', Bool.false_or, Bool.false_and]
        symm
        rw [decide_eq_false_iff_not]
        intro h'
        have := nb_mono n m (by omega)
        omega
theorem put_inj (n m : Nat) (hn : n < 18446744073709551616) (hm : m < 18446744073709551616) (h : put n = put m) : n = m := by
  have h1 := put_less n m hn hm
  have h2 := put_less m n hm hn
  rw [h] at h1
  rw [h] at h2
  have : decide (n < m) = decide (m < n) := h1.symm.trans h2
  simp at this
  omega
theorem put_len (n : Nat) : (put n).length = if n < 240 then 1 else 1 + nb n := by
  split
  · rename_i h; rw [put_small n h]; rfl
  · rename_i h; rw [put_large n (by omega), List.length_cons, be_length]; omega
theorem put_len_mono (n m : Nat) (h : n ≤ m) : (put n).length ≤ (put m).length := by
  rw [put_len, put_len]
  have := nb_mono n m h
  split <;> split <;> omega
/-- None begins another one. -/
theorem put_prefix (n m : Nat) (hn : n < 18446744073709551616) (hm : m < 18446744073709551616) (hne : n ≠ m) (k : Nat) (hk : k = min (put n).length (put m).length) : (put n).take k ≠ (put m).take k := by
  have h8 := nb_le n hn
  have h8' := nb_le m hm
  by_cases h1 : n < 240
  · rw [put_small n h1] at *
    by_cases h2 : m < 240
    · rw [put_small m h2] at *
      subst hk
      simp
      omega
    · have := (nb_spec m (by omega)).1
      rw [put_large m (by omega)] at *
      subst hk
      simp
      omega
  · have hs := nb_spec n (by omega)
    rw [put_large n (by omega)] at *
    by_cases h2 : m < 240
    · rw [put_small m h2] at *
      subst hk
      simp
      omega
    · have hs' := nb_spec m (by omega)
      rw [put_large m (by omega)] at *
      intro h
      have hk1 : 1 ≤ k := by rw [hk]; simp
      obtain ⟨j, rfl⟩ : ∃ j, k = j + 1 := ⟨k - 1, by omega⟩
      simp only [List.take_succ_cons, List.cons.injEq] at h
      have hnb : nb n = nb m := by omega
      rw [hnb] at h hk hs
      have hj : j = nb m := by rw [List.length_cons, List.length_cons, be_length, be_length] at hk; omega
      rw [hj, List.take_of_length_le (by rw [be_length]; exact Nat.le_refl _), List.take_of_length_le (by rw [be_length]; exact Nat.le_refl _)] at h
      have := congrArg val h.2
      rw [be_val, be_val, Nat.mod_eq_of_lt hs.2.2, Nat.mod_eq_of_lt hs'.2.2] at this
      omega
end Go.Proofs.Ytnmmknifidpmbaa.H
