/- Plain laws: what the acts do to the pairs. -/
import Derived.Test.YtbiccahkniadfaaTreeE
namespace Go.Proofs.Ytbiccahkniadfaa.H
open Go.RowKit Go.Proofs.Ytbiccahkniadfaa.P Go.Proofs.YtbiccahkniadfaaW.PrintWords Go.Proofs.YtbiccahkniadfaaW.PrintLast Go.Proofs.YtbiccahkniadfaaW.PrintMore
set_option linter.unusedVariables false
set_option linter.unusedSimpArgs false
def lowL (k : Int) (L : List (Int × Int)) : List (Int × Int) := L.filter fun p => decide (p.1 < k)
def uppL (k : Int) (L : List (Int × Int)) : List (Int × Int) := L.filter fun p => decide (k < p.1)
theorem lowL_all {k : Int} {L : List (Int × Int)} (h : ∀ a ∈ L, a.1 < k) : lowL k L = L := List.filter_eq_self.2 fun a ha => by have := h a ha; simp; omega
theorem lowL_none {k : Int} {L : List (Int × Int)} (h : ∀ a ∈ L, ¬ a.1 < k) : lowL k L = [] := List.filter_eq_nil_iff.2 fun a ha => by have := h a ha; simp; omega
theorem uppL_all {k : Int} {L : List (Int × Int)} (h : ∀ a ∈ L, k < a.1) : uppL k L = L := List.filter_eq_self.2 fun a ha => by have := h a ha; simp; omega
theorem uppL_none {k : Int} {L : List (Int × Int)} (h : ∀ a ∈ L, ¬ k < a.1) : uppL k L = [] := List.filter_eq_nil_iff.2 fun a ha => by have := h a ha; simp; omega
theorem low_node (k : Int) (l : T) (k1 v1 : Int) (r : T) : lowL k (toL (.node l k1 v1 r)) = lowL k (toL l) ++ ((if k1 < k then [(k1, v1)] else []) ++ lowL k (toL r)) := by
  unfold lowL
  rw [toL, List.filter_append, List.filter_cons]
  by_cases c : k1 < k <;> simp [c]
theorem upp_node (k : Int) (l : T) (k1 v1 : Int) (r : T) : uppL k (toL (.node l k1 v1 r)) = uppL k (toL l) ++ ((if k < k1 then [(k1, v1)] else []) ++ uppL k (toL r)) := by
  unfold uppL
  rw [toL, List.filter_append, List.filter_cons]
  by_cases c : k < k1 <;> simp [c]
theorem toL_with (k v : Int) : ∀ t : T, srt t → toL (withT k v t) = lowL k (toL t) ++ (k, v) :: uppL k (toL t)
  | .leaf, _ => rfl
  | .node l k1 v1 r, h => by
    obtain ⟨h1, h2, h3, h4⟩ := srt_node h
    have il := toL_with k v l h1
    have ir := toL_with k v r h2
    rw [low_node, upp_node]
    unfold withT
    split
    · rename_i c
      rw [toL_even, il, if_neg (by omega), lowL_none (L := toL r) fun a ha => by have := h4 a ha; omega, uppL_all (L := toL r) fun a ha => by have := h4 a ha; omega]
      simp
    · split
      · rename_i c
        rw [toL_even, ir, lowL_all (L := toL l) fun a ha => by have := h3 a ha; omega, uppL_none (L := toL l) fun a ha => by have := h3 a ha; omega]
        simp
      · have e : k = k1 := by omega
        subst e
        rw [toL, lowL_all (L := toL l) fun a ha => h3 a ha, uppL_none (L := toL l) fun a ha => by have := h3 a ha; omega, lowL_none (L := toL r) fun a ha => by have := h4 a ha; omega, uppL_all (L := toL r) fun a ha => h4 a ha]
        simp
theorem toL_drop (k : Int) : ∀ t : T, srt t → hasT k t = true → toL (withoutT k t) = lowL k (toL t) ++ uppL k (toL t)
  | .leaf, _, h => by cases h
  | .node l k1 v1 r, h, hh => by
    obtain ⟨h1, h2, h3, h4⟩ := srt_node h
    have il := toL_drop k l h1
    have ir := toL_drop k r h2
    rw [low_node, upp_node]
    unfold hasT at hh
    unfold withoutT
    split
    · rename_i c
      rw [if_pos c] at hh
      rw [toL_even, il hh, if_neg (by omega), lowL_none (L := toL r) fun a ha => by have := h4 a ha; omega, uppL_all (L := toL r) fun a ha => by have := h4 a ha; omega]
      simp
    · rename_i c0
      rw [if_neg c0] at hh
      split
      · rename_i c
        rw [if_pos c] at hh
        rw [toL_even, ir hh, lowL_all (L := toL l) fun a ha => by have := h3 a ha; omega, uppL_none (L := toL l) fun a ha => by have := h3 a ha; omega]
        simp
      · have e : k = k1 := by omega
        subst e
        rw [lowL_all (L := toL l) fun a ha => h3 a ha, uppL_none (L := toL l) fun a ha => by have := h3 a ha; omega, lowL_none (L := toL r) fun a ha => by have := h4 a ha; omega, uppL_all (L := toL r) fun a ha => h4 a ha]
        cases r with
        | leaf => simp [toL]
        | node rl rk rv rr =>
          dsimp only
          rw [toL_even, ← toL_least rl rk rv rr]
          simp
theorem below_low (k : Int) : ∀ t : T, srt t → belowT k t = (lowL k (toL t)).length
  | .leaf, _ => rfl
  | .node l k1 v1 r, h => by
    obtain ⟨h1, h2, h3, h4⟩ := srt_node h
    have il := below_low k l h1
    have ir := below_low k r h2
    rw [low_node]
    unfold belowT
    split
    · rename_i c
      rw [lowL_all (L := toL l) fun a ha => by have := h3 a ha; omega, List.length_append, List.length_append, toL_len, ir]
      simp only [List.length_cons, List.length_nil]
      omega
    · rename_i c
      rw [lowL_none (L := toL r) fun a ha => by have := h4 a ha; omega, il]
      simp
end Go.Proofs.Ytbiccahkniadfaa.H
