/- TreeFull: NO MORE THAN MAY BE: the plain law. -/
import Derived.Test.YtbiccahkniadfaaTreeB
import Derived.Test.YtbiccahkniadfaaPx1
namespace Go.Proofs.Ytbiccahkniadfaa.H
open Go.RowKit Go.Proofs.Ytbiccahkniadfaa.P Go.Proofs.YtbiccahkniadfaaW.PrintWords Go.Proofs.YtbiccahkniadfaaW.PrintLast Go.Proofs.YtbiccahkniadfaaW.PrintMore
set_option linter.unusedVariables false
set_option linter.unusedSimpArgs false
theorem odd_dvd (q : Int) : ∀ (n : Nat) (d : Int), ((2 : Int) ^ n) ∣ d * (2 * q + 1) → ((2 : Int) ^ n) ∣ d
  | 0, d, _ => by simp
  | n + 1, d, h => by
    obtain ⟨c, hc⟩ := h
    rw [Int.pow_succ] at hc ⊢
    obtain ⟨e, he⟩ := odd_dvd q n d ⟨2 * c, by rw [hc, Int.mul_assoc]⟩
    have hp : (2 : Int) ^ n ≠ 0 := Int.ne_of_gt (Int.pow_pos (by decide))
    have h1 : e * (2 * q + 1) = 2 * c := by
      apply Int.eq_of_mul_eq_mul_left hp
      rw [← Int.mul_assoc, ← Int.mul_assoc, ← he, hc]
    have h2 : e * (2 * q + 1) = 2 * (e * q) + e := by rw [Int.mul_add, Int.mul_one, ← Int.mul_assoc, Int.mul_comm e 2, Int.mul_assoc]
    have h3 : e = 2 * (c - e * q) := by omega
    exact ⟨c - e * q, by rw [Int.mul_assoc, ← h3]; exact he⟩
def keyF (a o : Int) (j : Nat) : Int := IntKind.u64.wrap (a + IntKind.u64.wrap ((j : Int) * o))
theorem wrapu (n : Int) : IntKind.u64.wrap n = n % 18446744073709551616 := by simp [IntKind.wrap, IntKind.bits, IntKind.signed]
theorem keyF_eq (a o : Int) (j : Nat) : keyF a o j = (a + (j : Int) * o) % 18446744073709551616 := by
  unfold keyF
  rw [wrapu, wrapu]
  omega
theorem keyF_inj (a q : Int) (i j : Nat) (hi : i ≤ 1024) (hj : j ≤ 1024) (h : keyF a (2 * q + 1) i = keyF a (2 * q + 1) j) : i = j := by
  rw [keyF_eq, keyF_eq] at h
  have h1 : ((2 : Int) ^ 64) ∣ ((i : Int) - j) * (2 * q + 1) := by
    rw [Int.sub_mul]
    have e : (2 : Int) ^ 64 = 18446744073709551616 := by decide
    rw [e]
    generalize (i : Int) * (2 * q + 1) = x at *
    generalize (j : Int) * (2 * q + 1) = y at *
    omega
  have h2 := odd_dvd q 64 _ h1
  have e : (2 : Int) ^ 64 = 18446744073709551616 := by decide
  rw [e] at h2
  omega
/-- How things stand when j keys are laid. -/
structure InvF (a o : Int) (j : Nat) (t : T) : Prop where
  size : sz t = j
  low : bal t
  sorted : srt t
  keys : ∀ x, hasT x t = true ↔ ∃ i, i < j ∧ x = keyF a o i
theorem InvF.step {a q : Int} {j : Nat} {t : T} (h : InvF a (2 * q + 1) j t) (hj : j < 1024) (v : Int) : fullT (keyF a (2 * q + 1) j) t = false ∧ InvF a (2 * q + 1) (j + 1) (withT (keyF a (2 * q + 1) j) v t) := by
  have hn : hasT (keyF a (2 * q + 1) j) t = false := by
    rw [Bool.eq_false_iff]
    intro hh
    obtain ⟨i, hi, e⟩ := (h.keys _).1 hh
    have := keyF_inj a q j i (by omega) (by omega) e
    omega
  obtain ⟨s1, m1⟩ := mem_with (keyF a (2 * q + 1) j) v t h.sorted
  refine ⟨by rw [fullT, hn, decide_eq_false (by rw [h.size]; omega)]; rfl, ⟨by rw [sz_with_eq, hn, h.size]; rfl, (bal_with _ v t h.low).1, s1, fun x => ?_⟩⟩
  rw [has_iff x _ s1]
  constructor
  · rintro ⟨b, hb⟩
    rcases (m1 x b).1 hb with ⟨e, _⟩ | ⟨_, o⟩
    · exact ⟨j, by omega, e⟩
    · obtain ⟨i, hi, e⟩ := (h.keys x).1 ((has_iff x t h.sorted).2 ⟨b, o⟩)
      exact ⟨i, by omega, e⟩
  · rintro ⟨i, hi, e⟩
    by_cases c : i = j
    · subst c
      exact ⟨v, (m1 x v).2 (.inl ⟨e, rfl⟩)⟩
    · obtain ⟨b, hb⟩ := (has_iff x t h.sorted).1 ((h.keys x).2 ⟨i, by omega, e⟩)
      refine ⟨b, (m1 x b).2 (.inr ⟨?_, hb⟩)⟩
      rw [e]
      intro e2
      exact c (keyF_inj a q i j (by omega) (by omega) e2)
theorem InvF.start (a o : Int) : InvF a o 0 .leaf := ⟨rfl, trivial, List.Pairwise.nil, fun x => ⟨fun h => (by cases h), fun ⟨i, hi, _⟩ => absurd hi (Nat.not_lt_zero _)⟩⟩
/-- What is asked in the end. -/
structure EndF (a o : Int) (t : T) : Prop where
  full : fullT o t = true
  has : hasT a t = true
  nofull : fullT a t = false
  got : getT a (withT a 7 t) = some 7
  lesser : sz (withoutT a t) = 1023
  room : fullT o (withoutT a t) = false
  again : sz (withT o 0 (withoutT a t)) = 1024
  size : sz t = 1024
  low : ht t ≤ 17
theorem InvF.finish {a q : Int} {t : T} (h : InvF a (2 * q + 1) 1024 t) (ha : 0 ≤ a) (ha2 : a < 18446744073709551616) : EndF a (keyF a (2 * q + 1) 1024) t := by
  have h0 : a = keyF a (2 * q + 1) 0 := by rw [keyF_eq]; simp; omega
  have hh : hasT a t = true := (h.keys a).2 ⟨0, by omega, h0⟩
  have hn : hasT (keyF a (2 * q + 1) 1024) t = false := by
    rw [Bool.eq_false_iff]
    intro hh
    obtain ⟨i, hi, e⟩ := (h.keys _).1 hh
    have := keyF_inj a q 1024 i (by omega) (by omega) e
    omega
  have hw := toL_without a t
  have hl : sz (withoutT a t) = 1023 := by have := hw.2 hh; rw [h.size] at this; omega
  have hn2 : hasT (keyF a (2 * q + 1) 1024) (withoutT a t) = false := by
    rw [Bool.eq_false_iff]
    intro h2
    have hs : srt (withoutT a t) := List.Pairwise.sublist hw.1 h.sorted
    obtain ⟨b, hb⟩ := (has_iff _ _ hs).1 h2
    have := (has_iff (keyF a (2 * q + 1) 1024) t h.sorted).2 ⟨b, hw.1.subset hb⟩
    rw [hn] at this
    cases this
  obtain ⟨s1, m1⟩ := mem_with a 7 t h.sorted
  refine ⟨by rw [fullT, hn, decide_eq_true (by rw [h.size]; omega)]; rfl, hh, by rw [fullT, hh]; rfl, (get_iff a 7 _ s1).2 ((m1 a 7).2 (.inl ⟨rfl, rfl⟩)), hl, by rw [fullT, hn2, hl]; rfl, by rw [sz_with_eq, hn2, hl]; rfl, h.size, H.low t h.low (by rw [h.size]; exact Nat.le_refl _)⟩
theorem high_f : waystoneref04_High.f 20 1024 = some 17 := by kernel_rfl
end Go.Proofs.Ytbiccahkniadfaa.H
