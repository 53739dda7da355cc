/- Num8, NumP, NumB1. -/
import Derived.Test.YtpaknjmcjblahaaENum7
import Derived.Test.YtpaknjmcjblahaaENum3
/-! ### Num8 -/
namespace Go.Proofs.Ytpaknjmcjblahaa.H
open Go.RowKit Go.Proofs.Ytpaknjmcjblahaa.P Go.Proofs.YtpaknjmcjblahaaW.PrintWords Go.Proofs.YtpaknjmcjblahaaW.PrintLast Go.Proofs.YtpaknjmcjblahaaW.PrintMore
set_option linter.unusedVariables false
set_option linter.unusedSimpArgs false
theorem RD.set {w : World} {g : Nat} {l : List Int} (h : RD w g l) {B : Option Addr} {n : Nat} {m : List Int} (hC : Kd.C (Kd.int .u8) w B n m) (v : Value) : Kd.C (Kd.int .u8) (w.setCell ⟨g, 0, none⟩ v) B n m := by
  obtain ⟨A, c, hg, _, _⟩ := h
  exact C_setCell hC hg (fun _ _ h => h) (RD.apart hg hC)
theorem RD.below {w w' : World} {g : Nat} {l : List Int} (h : RD w g l) (hb : Below w.heap.size w w') : RD w' g l := by
  obtain ⟨A, c, hg, hc, hr, hbl⟩ := h
  exact ⟨A, c, blk_below hg hb, hc, Kd.C_below hr hb, hbl⟩
end Go.Proofs.Ytpaknjmcjblahaa.H
/-! ### NumP -/
namespace Go.Proofs.Ytpaknjmcjblahaa.H
set_option linter.unusedVariables false
set_option linter.unusedSimpArgs false
theorem foldl_val (l : List Int) : ∀ a : Int, l.foldl (fun n c => n * 256 + c) a = a * 256 ^ l.length + val l := by
  induction l with
  | nil => intro a; simp [val]
  | cons c l ih =>
    intro a
    have h0 := ih c
    have h1 := ih (a * 256 + c)
    simp only [val, List.foldl_cons, List.length_cons] at *
    rw [h1, Int.zero_mul, Int.zero_add, h0, Int.pow_succ, Int.add_mul, Int.mul_assoc, Int.mul_comm 256]
    omega
theorem val_cons (c : Int) (l : List Int) : val (c :: l) = c * 256 ^ l.length + val l := by
  have := foldl_val l (0 * 256 + c)
  rw [Int.zero_mul, Int.zero_add] at this
  simp only [val, List.foldl_cons, Int.zero_mul, Int.zero_add] at *
  exact this
def be (k n : Nat) : List Int := (List.range k).map fun i => (byteAt n k i : Int)
theorem be_length (k n : Nat) : (be k n).length = k := by simp [be]
theorem be_succ (k n : Nat) : be (k + 1) n = ((n / 2 ^ (8 * k) % 256 : Nat) : Int) :: be k n := by
  simp only [be, List.range_succ_eq_map, List.map_cons, List.map_map]
  congr 1
  apply List.map_congr_left
  intro i hi
  simp only [Function.comp, byteAt]
  rw [show k + 1 - 1 - (i + 1) = k - 1 - i by omega]
theorem be_bytes (k n : Nat) : bytes (be k n) := by
  intro x hx
  obtain ⟨i, _, rfl⟩ := List.mem_map.1 hx
  unfold byteAt
  omega
theorem pow256 (k : Nat) : 2 ^ (8 * k) = 256 ^ k := by rw [Nat.pow_mul]
theorem be_val (k n : Nat) : val (be k n) = ((n % 256 ^ k : Nat) : Int) := by
  induction k with
  | zero => simp [be, val, Nat.mod_one]
  | succ k ih =>
    rw [be_succ, val_cons, be_length, ih, pow256, Nat.pow_succ, Nat.mod_mul, Int.natCast_add, Int.natCast_mul, Int.natCast_pow]
    rw [Int.mul_comm, Int.add_comm]
    rfl
theorem val_inj : ∀ (l m : List Int), l.length = m.length → bytes l → bytes m → val l = val m → l = m
  | [], m, hl, _, _, _ => (List.eq_nil_of_length_eq_zero hl.symm).symm
  | c :: l, [], hl, _, _, _ => by simp at hl
  | c :: l, d :: m, hl, hb, hb', hv => by
    simp only [List.length_cons, Nat.add_right_cancel_iff] at hl
    rw [val_cons, val_cons, hl] at hv
    have h1 := val_bound m.length l hl (fun x hx => hb x (List.mem_cons_of_mem _ hx))
    have h2 := val_bound m.length m rfl (fun x hx => hb' x (List.mem_cons_of_mem _ hx))
    have hP : (0 : Int) < 256 ^ m.length := Int.pow_pos (by omega)
    generalize (256 : Int) ^ m.length = P at *
    have hcd : c = d := by
      rcases Int.lt_trichotomy c d with h | h | h
      · have := Int.mul_le_mul_of_nonneg_right (show c + 1 ≤ d by omega) (Int.le_of_lt hP)
        rw [Int.add_mul] at this
        omega
      · exact h
      · have := Int.mul_le_mul_of_nonneg_right (show d + 1 ≤ c by omega) (Int.le_of_lt hP)
        rw [Int.add_mul] at this
        omega
    subst hcd
    rw [val_inj l m hl (fun x hx => hb x (List.mem_cons_of_mem _ hx)) (fun x hx => hb' x (List.mem_cons_of_mem _ hx)) (by omega)]
def bs (l : List Int) : List UInt8 := l.map fun n => UInt8.ofNat n.toNat
theorem u8_eq {a b : Int} (ha : 0 ≤ a ∧ a ≤ 255) (hb : 0 ≤ b ∧ b ≤ 255) : (UInt8.ofNat a.toNat = UInt8.ofNat b.toNat) ↔ a = b := by
  rw [← UInt8.toNat_inj]
  simp only [UInt8.toNat_ofNat']
  omega
theorem bs_inj : ∀ (l m : List Int), bytes l → bytes m → bs l = bs m → l = m
  | [], [], _, _, _ => rfl
  | [], d :: m, _, _, h => by simp [bs] at h
  | c :: l, [], _, _, h => by simp [bs] at h
  | c :: l, d :: m, hb, hb', h => by
    simp only [bs, List.map_cons, List.cons.injEq] at h
    rw [(u8_eq (hb c (by simp)) (hb' d (by simp))).1 h.1, bs_inj l m (fun x hx => hb x (List.mem_cons_of_mem _ hx)) (fun x hx => hb' x (List.mem_cons_of_mem _ hx)) h.2]
def nb (n : Nat) : Nat := (bl n + 7) / 8
theorem nb_spec (n : Nat) (h : 1 ≤ n) : 1 ≤ nb n ∧ 256 ^ (nb n - 1) ≤ n ∧ n < 256 ^ nb n := by
  have h1 := bl_lt n 0
  have h2 : 1 ≤ bl n := by omega
  refine ⟨by unfold nb; omega, ?_, ?_⟩
  · rw [← pow256]
    have := bl_lt n (8 * (nb n - 1))
    have h3 : 8 * (nb n - 1) < bl n := by unfold nb; omega
    omega
  · rw [← pow256]
    exact (bl_lt n _).1 (by unfold nb; omega)
theorem nb_le (n : Nat) (h : n < 18446744073709551616) : nb n ≤ 8 := by
  have := (bl_lt n 64).2 h
  unfold nb
  omega
theorem put_small (n : Nat) (h : n < 240) : put n = [(n : Int)] := by unfold put; rw [if_pos h]
theorem put_large (n : Nat) (h : 240 ≤ n) : put n = ((239 + nb n : Nat) : Int) :: be (nb n) n := by unfold put; rw [if_neg (by omega)]; rfl
theorem put_bytes (n : Nat) (h : n < 18446744073709551616) : bytes (put n) := by
  by_cases hs : n < 240
  · rw [put_small n hs]; intro x hx; simp at hx; omega
  · rw [put_large n (by omega)]
    intro x hx
    have := nb_le n h
    rcases List.mem_cons.1 hx with rfl | hx
    · omega
    · exact be_bytes _ _ x hx
theorem put_len (n : Nat) : (put n).length = if n < 240 then 1 else 1 + nb n := by
  split
  · rename_i h; rw [put_small n h]; rfl
  · rename_i h; rw [put_large n (by omega), List.length_cons, be_length]; omega
end Go.Proofs.Ytpaknjmcjblahaa.H
/-! ### NumB1 -/
namespace Go.Proofs.Ytpaknjmcjblahaa.H
open Go.RowKit Go.Proofs.Ytpaknjmcjblahaa.P Go.Proofs.YtpaknjmcjblahaaW.PrintWords Go.Proofs.YtpaknjmcjblahaaW.PrintLast Go.Proofs.YtpaknjmcjblahaaW.PrintMore
set_option linter.unusedVariables false
set_option linter.unusedSimpArgs false
theorem pow_mono {i j : Nat} (h : i ≤ j) : 256 ^ i ≤ 256 ^ j := Nat.pow_le_pow_right (by decide) h
theorem nb_eq (n k : Nat) (h0 : 1 ≤ n) (hk : 1 ≤ k) (h1 : 256 ^ (k - 1) ≤ n) (h2 : n < 256 ^ k) : nb n = k := by
  obtain ⟨s0, s1, s2⟩ := nb_spec n h0
  rcases Nat.lt_trichotomy (nb n) k with h | h | h
  · have := pow_mono (i := nb n) (j := k - 1) (by omega)
    omega
  · exact h
  · have := pow_mono (i := k) (j := nb n - 1) (by omega)
    omega
theorem cp (k : Nat) : ((256 ^ k : Nat) : Int) = (256 : Int) ^ k := by
  induction k with
  | zero => rfl
  | succ k ih => rw [Nat.pow_succ, Int.pow_succ, ← ih, Int.natCast_mul]; rfl
theorem be_head (k n : Nat) (hk : 1 ≤ k) (h1 : 256 ^ (k - 1) ≤ n) (h2 : n < 256 ^ k) : (be k n).getD 0 0 ≠ 0 := by
  obtain ⟨j, rfl⟩ : ∃ j, k = j + 1 := ⟨k - 1, by omega⟩
  rw [be_succ]
  simp only [Nat.add_sub_cancel] at h1
  simp only [List.getD_cons_zero]
  rw [pow256]
  have hp : 0 < 256 ^ j := Nat.pow_pos (by decide)
  have h3 : 1 ≤ n / 256 ^ j := (Nat.le_div_iff_mul_le hp).2 (by omega)
  have h4 : n / 256 ^ j < 256 := (Nat.div_lt_iff_lt_mul hp).2 (by rw [Nat.pow_succ] at h2; omega)
  omega
theorem nextS_put (n : Nat) (hn : n < 18446744073709551616) (rest : List Int) : nextS (put n ++ rest) = ((n : Int), (put n).length) := by
  by_cases hs : n < 240
  · rw [put_small n hs]
    show nextS ((n : Int) :: rest) = _
    unfold nextS
    dsimp only
    rw [if_pos (by omega)]
    rfl
  · rw [put_large n (by omega)]
    obtain ⟨s0, s1, s2⟩ := nb_spec n (by omega)
    have h8 := nb_le n hn
    show nextS (((239 + nb n : Nat) : Int) :: (be (nb n) n ++ rest)) = _
    unfold nextS
    dsimp only
    have e : (((239 + nb n : Nat) : Int) - 239).toNat = nb n := by omega
    rw [e, if_neg (by omega)]
    have ht : (be (nb n) n ++ rest).take (nb n) = be (nb n) n := by rw [List.take_append_of_le_length (by rw [be_length]; exact Nat.le_refl _), List.take_of_length_le (by rw [be_length]; exact Nat.le_refl _)]
    have hg : (be (nb n) n ++ rest).getD 0 0 = (be (nb n) n).getD 0 0 := by
      rw [List.getD_eq_getElem?_getD, List.getD_eq_getElem?_getD, List.getElem?_append_left (by rw [be_length]; omega)]
    rw [ht, hg, be_val, Nat.mod_eq_of_lt s2]
    have h0 := be_head (nb n) n s0 s1 s2
    have hno : ¬ (248 ≤ ((239 + nb n : Nat) : Int) ∨ (be (nb n) n ++ rest).length < nb n ∨ (be (nb n) n).getD 0 0 = 0) := by
      rintro (h | h | h)
      · omega
      · rw [List.length_append, be_length] at h
        omega
      · exact h0 h
    rw [if_neg hno, if_neg (by omega), List.length_cons, be_length]
    rw [Nat.add_comm 1]
theorem put_nextS (l : List Int) (hb : bytes l) (h : (nextS l).2 ≠ 0) : l.take (nextS l).2 = put (nextS l).1.toNat ∧ 0 ≤ (nextS l).1 ∧ (nextS l).1 < 18446744073709551616 := by
  unfold nextS at h ⊢
  split at h
  · exact absurd rfl h
  · rename_i c rest
    have hc := hb c (by simp)
    by_cases h1 : c < 240
    · rw [if_pos h1]
      refine ⟨?_, hc.1, by dsimp only; omega⟩
      rw [put_small _ (by dsimp only; omega)]
      dsimp only
      rw [List.take_succ_cons, List.take_zero, Int.toNat_of_nonneg hc.1]
    · rw [if_neg h1] at h ⊢
      by_cases h2 : 248 ≤ c ∨ rest.length < (c - 239).toNat ∨ rest.getD 0 0 = 0
      · rw [if_pos h2] at h; exact absurd rfl h
      · rw [if_neg h2] at h ⊢
        by_cases h3 : val (rest.take (c - 239).toNat) < 240
        · rw [if_pos h3] at h; exact absurd rfl h
        · rw [if_neg h3]
          dsimp only
          have hk : 1 ≤ (c - 239).toNat ∧ (c - 239).toNat ≤ 8 ∧ (c - 239).toNat ≤ rest.length ∧ rest.getD 0 0 ≠ 0 ∧ c = 239 + ((c - 239).toNat : Nat) := by
            refine ⟨by omega, by omega, by omega, fun h => h2 (.inr (.inr h)), by omega⟩
          generalize hK : (c - 239).toNat = k at *
          obtain ⟨k1, k8, kl, hz, hce⟩ := hk
          have hbr : bytes (rest.take k) := bytes_take (fun x hx => hb x (by simp [hx])) k
          have hlen : (rest.take k).length = k := by simp; omega
          obtain ⟨v0, v1⟩ := val_bound k _ hlen hbr
          have hge : (256 : Int) ^ (k - 1) ≤ val (rest.take k) := by
            obtain ⟨j, rfl⟩ : ∃ j, k = j + 1 := ⟨k - 1, by omega⟩
            obtain ⟨d, ds, rfl⟩ : ∃ d ds, rest = d :: ds := by
              cases rest with
              | nil => exact absurd kl (by rw [List.length_nil]; omega)
              | cons d ds => exact ⟨d, ds, rfl⟩
            rw [List.take_succ_cons] at hbr hlen ⊢
            have hd := hbr d (List.mem_cons_self ..)
            have hbd : bytes (ds.take j) := fun x hx => hbr x (List.mem_cons_of_mem _ hx)
            have hjl : (ds.take j).length = j := by rw [List.length_cons] at hlen; omega
            rw [val_cons, hjl]
            have hz' : d ≠ 0 := hz
            have hnn := (val_bound j _ hjl hbd).1
            have hp : (0 : Int) ≤ 256 ^ j := by rw [← cp]; exact Int.natCast_nonneg _
            have h1 : (1 : Int) * 256 ^ j ≤ d * 256 ^ j := Int.mul_le_mul_of_nonneg_right (by omega) hp
            simp only [Nat.add_sub_cancel]
            omega
          generalize hV : val (rest.take k) = V at *
          obtain ⟨n, rfl⟩ : ∃ n : Nat, V = n := ⟨V.toNat, by omega⟩
          have g1 : 256 ^ (k - 1) ≤ n := by rw [← cp] at hge; exact Int.ofNat_le.1 hge
          have g2 : n < 256 ^ k := by rw [← cp] at v1; exact Int.ofNat_lt.1 v1
          have hn := nb_eq n k (by omega) k1 g1 g2
          have hp8 := pow_mono k8
          refine ⟨?_, by omega, by have : (256 : Nat) ^ 8 = 18446744073709551616 := by decide
                                   omega⟩
          rw [Int.toNat_natCast, put_large n (by omega), hn, Nat.add_comm 1, List.take_succ_cons]
          have : be k n = rest.take k := val_inj _ _ (by rw [be_length, hlen]) (be_bytes _ _) hbr (by rw [be_val, Nat.mod_eq_of_lt g2, hV])
          rw [this, hce]
          simp
end Go.Proofs.Ytpaknjmcjblahaa.H
