/- The document's Drop and Get on sorted pairs. -/
import Derived.Test.YtbiccahkniadfaaTreeG
namespace Go.Proofs.Ytbiccahkniadfaa.H
open Go.RowKit Go.Proofs.Ytbiccahkniadfaa.P Go.Proofs.YtbiccahkniadfaaW.PrintWords Go.Proofs.YtbiccahkniadfaaW.PrintLast Go.Proofs.YtbiccahkniadfaaW.PrintMore
set_option linter.unusedVariables false
set_option linter.unusedSimpArgs false
theorem rest_upp (k : Int) (L : List (Int × Int)) (hs : L.Pairwise fun a b => a.1 < b.1) :
    (hasL k L = true → ∃ v, L.filter (fun p => !decide (p.1 < k)) = (k, v) :: uppL k L) ∧ (hasL k L = false → L.filter (fun p => !decide (p.1 < k)) = uppL k L) := by
  obtain ⟨h1, h2⟩ := cut_list k L hs
  have hsr : (L.filter (fun p => !decide (p.1 < k))).Pairwise fun a b => a.1 < b.1 := List.Pairwise.filter _ hs
  have hu : uppL k L = uppL k (L.filter (fun p => !decide (p.1 < k))) := by
    conv => lhs; rw [h1]
    unfold uppL
    rw [List.filter_append]
    have : (lowL k L).filter (fun p => decide (k < p.1)) = [] := List.filter_eq_nil_iff.2 fun a ha => by
      have := (List.mem_filter.1 ha).2
      simp at this ⊢
      omega
    rw [this]; rfl
  rw [hu]
  unfold hasL
  generalize L.filter (fun p => !decide (p.1 < k)) = R at *
  cases R with
  | nil => exact ⟨fun h => by simp at h, fun _ => rfl⟩
  | cons b t =>
    rw [List.pairwise_cons] at hsr
    have hb := h2 b rfl
    simp only [List.head?_cons, Option.map_some, Option.getD_some]
    constructor
    · intro e
      have e' : b.1 = k := by simpa using e
      refine ⟨b.2, ?_⟩
      unfold uppL
      rw [List.filter_cons, if_neg (by simp; omega), List.filter_eq_self.2 fun a ha => by have := hsr.1 a ha; simp; omega]
      rw [← e']
    · intro e
      have e' : ¬ b.1 = k := by simpa using e
      exact (uppL_all fun a ha => by
        rw [List.mem_cons] at ha
        rcases ha with rfl | ha
        · omega
        · have := hsr.1 a ha; omega).symm
theorem drop_past : ∀ (A : List (Int × Int)) (x : Int × Int) (U : List (Int × Int)), (A ++ x :: U).drop (A.length + 1) = U
  | [], _, _ => rfl
  | a :: t, x, U => by
    rw [List.cons_append, List.length_cons, List.drop_succ_cons]
    exact drop_past t x U
theorem parts (k : Int) (L : List (Int × Int)) (hs : L.Pairwise fun a b => a.1 < b.1) :
    L.take (lowL k L).length = lowL k L ∧ (hasL k L = true → L.drop ((lowL k L).length + 1) = uppL k L ∧ (lowL k L).length + 1 ≤ L.length) ∧ (hasL k L = false → L.drop (lowL k L).length = uppL k L) := by
  obtain ⟨h1, _⟩ := cut_list k L hs
  obtain ⟨r1, r2⟩ := rest_upp k L hs
  generalize hA : lowL k L = A at *
  generalize hR : L.filter (fun p => !decide (p.1 < k)) = R at *
  refine ⟨by rw [h1, List.take_left], fun h => ?_, fun h => ?_⟩
  · obtain ⟨v, e⟩ := r1 h
    rw [e] at h1
    refine ⟨?_, by rw [h1]; simp⟩
    conv => lhs; rw [h1]
    exact drop_past A (k, v) (uppL k L)
  · rw [r2 h] at h1
    conv => lhs; rw [h1]
    rw [List.drop_left]
end Go.Proofs.Ytbiccahkniadfaa.H
