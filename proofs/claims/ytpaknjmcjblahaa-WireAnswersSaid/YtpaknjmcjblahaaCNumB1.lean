/- NumB1 -/
import Derived.Test.YtpaknjmcjblahaaCNum8
import Derived.Test.YtpaknjmcjblahaaCNumP
namespace Go.Proofs.Ytpaknjmcjblahaa.H
open Go.RowKit Go.Proofs.Ytpaknjmcjblahaa.P Go.Proofs.YtpaknjmcjblahaaW.PrintWords Go.Proofs.YtpaknjmcjblahaaW.PrintLast Go.Proofs.YtpaknjmcjblahaaW.PrintMore
set_option linter.unusedVariables false
set_option linter.unusedSimpArgs false
theorem pow_mono {i j : Nat} (h : i ≤ j) : 256 ^ i ≤ 256 ^ j := Nat.pow_le_pow_right (by decide) h
theorem nb_eq (n k : Nat) (h0 : 1 ≤ n) (hk : 1 ≤ k) (h1 : 256 ^ (k - 1) ≤ n) (h2 : n < 256 ^ k) : nb n = k := by
  obtain ⟨s0, s1, s2⟩ := nb_spec n h0
  rcases Nat.lt_trichotomy (nb n) k with h | h | h
  · have := pow_mono (i := nb n) (j := k - 1) (by omega)
    omega
  · exact h
  · have := pow_mono (i := k) (j := nb n - 1) (by omega)
    omega
theorem cp (k : Nat) : ((256 ^ k : Nat) : Int) = (256 : Int) ^ k := by
  induction k with
  | zero => rfl
  | succ k ih => rw [Nat.pow_succ, Int.pow_succ, ← ih, Int.natCast_mul]; rfl
theorem be_head (k n : Nat) (hk : 1 ≤ k) (h1 : 256 ^ (k - 1) ≤ n) (h2 : n < 256 ^ k) : (be k n).getD 0 0 ≠ 0 := by
  obtain ⟨j, rfl⟩ : ∃ j, k = j + 1 := ⟨k - 1, by omega⟩
  rw [be_succ]
  simp only [Nat.add_sub_cancel] at h1
  simp only [List.getD_cons_zero]
  rw [pow256]
  have hp : 0 < 256 ^ j := Nat.pow_pos (by decide)
  have h3 : 1 ≤ n / 256 ^ j := (Nat.le_div_iff_mul_le hp).2 (by omega)
  have h4 : n / 256 ^ j < 256 := (Nat.div_lt_iff_lt_mul hp).2 (by rw [Nat.pow_succ] at h2; omega)
  omega
theorem nextS_put (n : Nat) (hn : n < 18446744073709551616) (rest : List Int) : nextS (put n ++ rest) = ((n : Int), (put n).length) := by
  by_cases hs : n < 240
  · rw [put_small n hs]
    show nextS ((n : Int) :: rest) = _
    unfold nextS
    dsimp only
    rw [if_pos (by omega)]
    rfl
  · rw [put_large n (by omega)]
    obtain ⟨s0, s1, s2⟩ := nb_spec n (by omega)
    have h8 := nb_le n hn
    show nextS (((239 + nb n : Nat) : Int) :: (be (nb n) n ++ rest)) = _
    unfold nextS
    dsimp only
    have e : (((239 + nb n : Nat) : Int) - 239).toNat = nb n := by omega
    rw [e, if_neg (by omega)]
    have ht : (be (nb n) n ++ rest).take (nb n) = be (nb n) n := by rw [List.take_append_of_le_length (by rw [be_length]; exact Nat.le_refl _), List.take_of_length_le (by rw [be_length]; exact Nat.le_refl _)]
    have hg : (be (nb n) n ++ rest).getD 0 0 = (be (nb n) n).getD 0 0 := by
      rw [List.getD_eq_getElem?_getD, List.getD_eq_getElem?_getD, List.getElem?_append_left (by rw [be_length]; omega)]
    rw [ht, hg, be_val, Nat.mod_eq_of_lt s2]
    have h0 := be_head (nb n) n s0 s1 s2
    have hno : ¬ (248 ≤ ((239 + nb n : Nat) : Int) ∨ (be (nb n) n ++ rest).length < nb n ∨ (be (nb n) n).getD 0 0 = 0) := by
      rintro (h | h | h)
      · omega
      · rw [List.length_append, be_length] at h
        omega
      · exact h0 h
    rw [if_neg hno, if_neg (by omega), List.length_cons, be_length]
    rw [Nat.add_comm 1]
theorem put_nextS (l : List Int) (hb : bytes l) (h : (nextS l).2 ≠ 0) : l.take (nextS l).2 = put (nextS l).1.toNat ∧ 0 ≤ (nextS l).1 ∧ (nextS l).1 < 18446744073709551616 := by
  unfold nextS at h ⊢
  split at h
  · exact absurd rfl h
  · rename_i c rest
    have hc := hb c (by simp)
    by_cases h1 : c < 240
    · rw [if_pos h1]
      refine ⟨?_, hc.1, by dsimp only; omega⟩
      rw [put_small _ (by dsimp only; omega)]
      dsimp only
      rw [List.take_succ_cons, List.take_zero, Int.toNat_of_nonneg hc.1]
    · rw [if_neg h1] at h ⊢
      by_cases h2 : 248 ≤ c ∨ rest.length < (c - 239).toNat ∨ rest.getD 0 0 = 0
      · rw [if_pos h2] at h; exact absurd rfl h
      · rw [if_neg h2] at h ⊢
        by_cases h3 : val (rest.take (c - 239).toNat) < 240
        · rw [if_pos h3] at h; exact absurd rfl h
        · rw [if_neg h3]
          dsimp only
          have hk : 1 ≤ (c - 239).toNat ∧ (c - 239).toNat ≤ 8 ∧ (c - 239).toNat ≤ rest.length ∧ rest.getD 0 0 ≠ 0 ∧ c = 239 + ((c - 239).toNat : Nat) := by
            refine ⟨by omega, by omega, by omega, fun h => h2 (.inr (.inr h)), by omega⟩
          generalize hK : (c - 239).toNat = k at *
          obtain ⟨k1, k8, kl, hz, hce⟩ := hk
          have hbr : bytes (rest.take k) := bytes_take (fun x hx => hb x (by simp [hx])) k
          have hlen : (rest.take k).length = k := by simp; omega
          obtain ⟨v0, v1⟩ := val_bound k _ hlen hbr
          have hge : (256 : Int) ^ (k - 1) ≤ val (rest.take k) := by
            obtain ⟨j, rfl⟩ : ∃ j, k = j + 1 := ⟨k - 1, by omega⟩
            obtain ⟨d, ds, rfl⟩ : ∃ d ds, rest = d :: ds := by
              cases rest with
              | nil => exact absurd kl (by rw [List.length_nil]; omega)
              | cons d ds => exact ⟨d, ds, rfl⟩
            rw [List.take_succ_cons] at hbr hlen ⊢
            have hd := hbr d (List.mem_cons_self ..)
            have hbd : bytes (ds.take j) := fun x hx => hbr x (List.mem_cons_of_mem _ hx)
            have hjl : (ds.take j).length = j := by rw [List.length_cons] at hlen; omega
            rw [val_cons, hjl]
            have hz' : d ≠ 0 := hz
            have hnn := (val_bound j _ hjl hbd).1
            have hp : (0 : Int) ≤ 256 ^ j := by rw [← cp]; exact Int.natCast_nonneg _
            have h1 : (1 : Int) * 256 ^ j ≤ d * 256 ^ j := Int.mul_le_mul_of_nonneg_right (by omega) hp
            simp only [Nat.add_sub_cancel]
            omega
          generalize hV : val (rest.take k) = V at *
          obtain ⟨n, rfl⟩ : ∃ n : Nat, V = n := ⟨V.toNat, by omega⟩
          have g1 : 256 ^ (k - 1) ≤ n := by rw [← cp] at hge; exact Int.ofNat_le.1 hge
          have g2 : n < 256 ^ k := by rw [← cp] at v1; exact Int.ofNat_lt.1 v1
          have hn := nb_eq n k (by omega) k1 g1 g2
          have hp8 := pow_mono k8
          refine ⟨?_, by omega, by have : (256 : Nat) ^ 8 = 18446744073709551616 := by decide
                                   omega⟩
          rw [Int.toNat_natCast, put_large n (by omega), hn, Nat.add_comm 1, List.take_succ_cons]
          have : be k n = rest.take k := val_inj _ _ (by rw [be_length, hlen]) (be_bytes _ _) hbr (by rw [be_val, Nat.mod_eq_of_lt g2, hV])
          rw [this, hce]
          simp
theorem bytesOf_bytes (s : ByteArray) : bytes (bytesOf s) := by
  intro x hx
  unfold bytesOf at hx
  obtain ⟨b, _, rfl⟩ := List.mem_map.1 hx
  have := b.toNat_lt
  omega
theorem bytes_append {l m : List Int} (hl : bytes l) (hm : bytes m) : bytes (l ++ m) := fun x hx => by
  rcases List.mem_append.1 hx with h | h
  · exact hl x h
  · exact hm x h
end Go.Proofs.Ytpaknjmcjblahaa.H
