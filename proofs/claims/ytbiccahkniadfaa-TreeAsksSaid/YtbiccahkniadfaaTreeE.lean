/- Plain laws of join and cut. -/
import Derived.Test.YtbiccahkniadfaaTree11
import Derived.Test.YtbiccahkniadfaaTreeB
namespace Go.Proofs.Ytbiccahkniadfaa.H
open Go.RowKit Go.Proofs.Ytbiccahkniadfaa.P Go.Proofs.YtbiccahkniadfaaW.PrintWords Go.Proofs.YtbiccahkniadfaaW.PrintLast Go.Proofs.YtbiccahkniadfaaW.PrintMore
set_option linter.unusedVariables false
set_option linter.unusedSimpArgs false
theorem toL_joinN (k v : Int) : ∀ (n : Nat) (l r : T), toL (joinN n l k v r) = toL l ++ (k, v) :: toL r
  | 0, l, r => rfl
  | n + 1, l, r => by
    unfold joinN
    split
    · cases l with
      | leaf => rfl
      | node ll lk lv lr => dsimp only; rw [toL_even, toL_joinN k v n lr r, toL]; simp
    · split
      · cases r with
        | leaf => rfl
        | node rl rk rv rr => dsimp only; rw [toL_even, toL_joinN k v n l rl, toL]; simp
      · rfl
theorem toL_join (l : T) (k v : Int) (r : T) : toL (joinT l k v r) = toL l ++ (k, v) :: toL r := toL_joinN k v _ l r
theorem bal_joinN (k v : Int) : ∀ (n : Nat) (l r : T), sz l + sz r < n → bal l → bal r → bal (joinN n l k v r) ∧ max (ht l) (ht r) ≤ ht (joinN n l k v r) ∧ ht (joinN n l k v r) ≤ 1 + max (ht l) (ht r)
  | 0, l, r, h, _, _ => absurd h (Nat.not_lt_zero _)
  | n + 1, l, r, hn, bl, br => by
    unfold joinN
    split
    · rename_i hc
      cases l with
      | leaf => simp [ht] at hc
      | node ll lk lv lr =>
        obtain ⟨b1, b2, b3, b4⟩ := bl
        have ih := bal_joinN k v n lr r (by simp only [sz] at hn; omega) b2 br
        simp only [ht] at hc ⊢
        have h := bal_even ll lk lv (joinN n lr k v r) b1 ih.1 (by omega) (by omega)
        refine ⟨h.1, ?_, ?_⟩
        · by_cases c : ht ll ≤ ht (joinN n lr k v r) + 1 ∧ ht (joinN n lr k v r) ≤ ht ll + 1
          · have := h.2.2.2 c.1 c.2; omega
          · omega
        · by_cases c : ht ll ≤ ht (joinN n lr k v r) + 1 ∧ ht (joinN n lr k v r) ≤ ht ll + 1
          · have := h.2.2.2 c.1 c.2; omega
          · omega
    · rename_i hc
      split
      · rename_i hd
        cases r with
        | leaf => simp [ht] at hd
        | node rl rk rv rr =>
          obtain ⟨b1, b2, b3, b4⟩ := br
          have ih := bal_joinN k v n l rl (by simp only [sz] at hn; omega) bl b1
          simp only [ht] at hd hc ⊢
          have h := bal_even (joinN n l k v rl) rk rv rr ih.1 b2 (by omega) (by omega)
          refine ⟨h.1, ?_, ?_⟩
          · by_cases c : ht (joinN n l k v rl) ≤ ht rr + 1 ∧ ht rr ≤ ht (joinN n l k v rl) + 1
            · have := h.2.2.2 c.1 c.2; omega
            · omega
          · by_cases c : ht (joinN n l k v rl) ≤ ht rr + 1 ∧ ht rr ≤ ht (joinN n l k v rl) + 1
            · have := h.2.2.2 c.1 c.2; omega
            · omega
      · refine ⟨⟨bl, br, by omega, by omega⟩, by simp only [ht]; omega, by simp only [ht]; omega⟩
theorem bal_join (l : T) (k v : Int) (r : T) (hl : bal l) (hr : bal r) : bal (joinT l k v r) := (bal_joinN k v _ l r (by omega) hl hr).1
theorem bal_cut (k : Int) : ∀ t : T, bal t → bal (cutT k t).1 ∧ bal (cutT k t).2
  | .leaf, _ => ⟨trivial, trivial⟩
  | .node l k1 v1 r, ⟨b1, b2, _, _⟩ => by
    have h1 := bal_cut k l b1
    have h2 := bal_cut k r b2
    unfold cutT
    split
    · exact ⟨bal_join _ _ _ _ b1 h2.1, h2.2⟩
    · exact ⟨h1.1, bal_join _ _ _ _ h1.2 b2⟩
theorem toL_cut (k : Int) : ∀ t : T, srt t → toL (cutT k t).1 = (toL t).filter (fun p => decide (p.1 < k)) ∧ toL (cutT k t).2 = (toL t).filter fun p => !decide (p.1 < k)
  | .leaf, _ => ⟨rfl, rfl⟩
  | .node l k1 v1 r, h => by
    obtain ⟨h1, h2, h3, h4⟩ := srt_node h
    have il := toL_cut k l h1
    have ir := toL_cut k r h2
    unfold cutT
    rw [toL, List.filter_append, List.filter_append, List.filter_cons, List.filter_cons]
    split
    · rename_i c
      have e1 : (toL l).filter (fun p => decide (p.1 < k)) = toL l := List.filter_eq_self.2 fun a ha => by have := h3 a ha; simp; omega
      have e2 : (toL l).filter (fun p => !decide (p.1 < k)) = [] := List.filter_eq_nil_iff.2 fun a ha => by have := h3 a ha; simp; omega
      dsimp only
      rw [toL_join, ir.1, ir.2, e1, e2]
      simp [c]
    · rename_i c
      have e1 : (toL r).filter (fun p => decide (p.1 < k)) = [] := List.filter_eq_nil_iff.2 fun a ha => by have := h4 a ha; simp; omega
      have e2 : (toL r).filter (fun p => !decide (p.1 < k)) = toL r := List.filter_eq_self.2 fun a ha => by have := h4 a ha; simp; omega
      dsimp only
      rw [toL_join, il.1, il.2, e1, e2]
      simp [c]
theorem bal_least : ∀ t : T, bal t → bal (leastT t).2 ∧ ht (leastT t).2 ≤ ht t ∧ ht t ≤ ht (leastT t).2 + 1
  | .leaf, _ => ⟨trivial, Nat.le_refl _, Nat.zero_le _⟩
  | .node .leaf k v r, ⟨_, b2, _, b4⟩ => by
    refine ⟨b2, ?_, ?_⟩ <;> simp only [leastT, ht] at * <;> omega
  | .node (.node ll lk lv lr) k v r, ⟨b1, b2, b3, b4⟩ => by
    have ih := bal_least (.node ll lk lv lr) b1
    rw [leastT]
    generalize T.node ll lk lv lr = l at *
    have h := bal_even (leastT l).2 k v r ih.1 b2 (by omega) (by omega)
    refine ⟨h.1, ?_, ?_⟩
    · simp only [ht]
      by_cases c : ht (leastT l).2 ≤ ht r + 1 ∧ ht r ≤ ht (leastT l).2 + 1
      · have := h.2.2.2 c.1 c.2; omega
      · omega
    · simp only [ht]
      by_cases c : ht (leastT l).2 ≤ ht r + 1 ∧ ht r ≤ ht (leastT l).2 + 1
      · have := h.2.2.2 c.1 c.2; omega
      · omega
theorem bal_without (k : Int) : ∀ t : T, bal t → bal (withoutT k t) ∧ ht (withoutT k t) ≤ ht t ∧ ht t ≤ ht (withoutT k t) + 1
  | .leaf, _ => ⟨trivial, Nat.le_refl _, Nat.zero_le _⟩
  | .node l k1 v1 r, ⟨b1, b2, b3, b4⟩ => by
    have il := bal_without k l b1
    have ir := bal_without k r b2
    unfold withoutT
    split
    · have h := bal_even (withoutT k l) k1 v1 r il.1 b2 (by omega) (by omega)
      simp only [ht]
      by_cases c : ht (withoutT k l) ≤ ht r + 1 ∧ ht r ≤ ht (withoutT k l) + 1
      · have := h.2.2.2 c.1 c.2; exact ⟨h.1, by omega, by omega⟩
      · exact ⟨h.1, by omega, by omega⟩
    · split
      · have h := bal_even l k1 v1 (withoutT k r) b1 ir.1 (by omega) (by omega)
        simp only [ht]
        by_cases c : ht l ≤ ht (withoutT k r) + 1 ∧ ht (withoutT k r) ≤ ht l + 1
        · have := h.2.2.2 c.1 c.2; exact ⟨h.1, by omega, by omega⟩
        · exact ⟨h.1, by omega, by omega⟩
      · cases r with
        | leaf =>
          simp only [ht] at b3 b4 ⊢
          exact ⟨b1, by omega, by omega⟩
        | node rl rk rv rr =>
          have hl := bal_least (.node rl rk rv rr) b2
          dsimp only
          generalize T.node rl rk rv rr = r at *
          have h := bal_even l (leastT r).1.1 (leastT r).1.2 (leastT r).2 b1 hl.1 (by omega) (by omega)
          simp only [ht]
          by_cases c : ht l ≤ ht (leastT r).2 + 1 ∧ ht (leastT r).2 ≤ ht l + 1
          · have := h.2.2.2 c.1 c.2; exact ⟨h.1, by omega, by omega⟩
          · exact ⟨h.1, by omega, by omega⟩
end Go.Proofs.Ytbiccahkniadfaa.H
