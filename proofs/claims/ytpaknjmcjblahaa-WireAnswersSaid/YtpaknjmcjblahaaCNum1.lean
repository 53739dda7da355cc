/- Num1 -/
import Derived.Test.YtpaknjmcjblahaaCPx0
namespace Go.Proofs.Ytpaknjmcjblahaa.H
open Go.RowKit Go.Proofs.Ytpaknjmcjblahaa.P Go.Proofs.YtpaknjmcjblahaaW.PrintWords Go.Proofs.YtpaknjmcjblahaaW.PrintLast Go.Proofs.YtpaknjmcjblahaaW.PrintMore
set_option linter.unusedVariables false
set_option linter.unusedSimpArgs false
def bl (n : Nat) : Nat := if n = 0 then 0 else Nat.log2 n + 1
theorem bl_lt (n k : Nat) : bl n ≤ k ↔ n < 2 ^ k := by
  unfold bl
  by_cases h : n = 0
  · subst h; simp [Nat.two_pow_pos]
  · rw [if_neg h, Nat.succ_le_iff, Nat.log2_lt h]
theorem bl_div (n j : Nat) (h : 2 ^ j ≤ n) : bl n = bl (n / 2 ^ j) + j := by
  have h1 : ∀ k, bl n ≤ k + j ↔ bl (n / 2 ^ j) ≤ k := fun k => by
    rw [bl_lt, bl_lt, Nat.div_lt_iff_lt_mul (Nat.two_pow_pos j), Nat.pow_add]
  have h2 : j < bl n := by
    have := bl_lt n j
    omega
  have h3 := h1 (bl n - j)
  have h4 := h1 (bl (n / 2 ^ j))
  omega
theorem len_leaf (T : ByteArray) (hT : T.size = 256) (hv : ((List.range 256).all fun n => ((T.data.toList.getD n 0).toNat == bl n)) = true) (j : Nat) (h : j < T.size) (c : Nat) (n : Nat) (hb : c + bl j = bl n) (hc : c ≤ 56) :
    Ending.returned (.int .i64 (wrap64 ((c : Int) + wrap64 ((T[j]'h).toNat : Int)))) = .returned (.int .i64 (bl n : Int)) := by
  have e : (T[j]'h).toNat = bl j := by
    have h' := List.all_eq_true.1 hv j (by simp; omega)
    rw [beq_iff_eq] at h'
    rw [← h']
    have h2 : j < T.data.toList.length := by rw [Array.length_toList]; exact h
    rw [List.getD_eq_getElem?_getD, List.getElem?_eq_getElem h2]
    rfl
  have hj : bl j ≤ 255 := by rw [← e]; have := (T[j]'h).toNat_lt; omega
  rw [e, ← hb]
  congr 2
  unfold wrap64
  omega
theorem len_step {x : Int} {j : Int} {n : Nat} {c : Nat} (hx : 0 ≤ x) (hj : j = x / (2 ^ c : Nat)) (h : c = 0 ∨ (2 ^ c : Nat) ≤ x) : c + bl j.toNat = bl x.toNat := by
  obtain ⟨m, rfl⟩ := Int.eq_ofNat_of_zero_le hx
  subst hj
  rcases h with rfl | h
  · simp
  · have h' : 2 ^ c ≤ m := by exact_mod_cast h
    rw [Int.toNat_natCast, bl_div m c h']
    have : ((m : Int) / ((2 ^ c : Nat) : Int)).toNat = m / 2 ^ c := by rw [← Int.natCast_ediv, Int.toNat_natCast]
    rw [this]
    omega
set_option maxRecDepth 100000 in
theorem len64_any (x : Int) (w : World) (h0 : 0 ≤ x) (h1 : x < 18446744073709551616)  :
    Calls Try.prog 64 #[.int .u64 x] w fun e w' => e = .returned (.int .i64 (bl x.toNat : Int)) ∧ w = w' := by
  go_enter Try.func64, Try.ntmps64
  go_wp2
  all_goals go_ret
  all_goals refine ⟨?_, rfl⟩
  all_goals dsimp only [Array.getD, List.getElem_toArray]
  all_goals simp only [List.size_toArray, List.length_cons, List.length_nil, Nat.reduceAdd, Nat.reduceLT, ↓reduceDIte, Array.getInternal_eq_getElem, List.getElem_toArray, List.getElem_cons_succ, List.getElem_cons_zero]
  · exact len_leaf _ rfl (by decide +kernel) _ _ 56 _ (len_step (n := 0) h0 (by omega) (by omega)) (by omega)
  · exact len_leaf _ rfl (by decide +kernel) _ _ 48 _ (len_step (n := 0) h0 (by omega) (by omega)) (by omega)
  · exact len_leaf _ rfl (by decide +kernel) _ _ 40 _ (len_step (n := 0) h0 (by omega) (by omega)) (by omega)
  · exact len_leaf _ rfl (by decide +kernel) _ _ 32 _ (len_step (n := 0) h0 (by omega) (by omega)) (by omega)
  · exact len_leaf _ rfl (by decide +kernel) _ _ 24 _ (len_step (n := 0) h0 (by omega) (by omega)) (by omega)
  · exact len_leaf _ rfl (by decide +kernel) _ _ 16 _ (len_step (n := 0) h0 (by omega) (by omega)) (by omega)
  · exact len_leaf _ rfl (by decide +kernel) _ _ 8 _ (len_step (n := 0) h0 (by omega) (by omega)) (by omega)
  · refine Eq.trans (congrArg (fun z => Ending.returned (.int .i64 (wrap64 z))) (Int.zero_add _).symm) ?_
    exact len_leaf _ rfl (by decide +kernel) _ _ 0 _ (len_step (n := 0) h0 (by omega) (by omega)) (by omega)
end Go.Proofs.Ytpaknjmcjblahaa.H
