/- Plain laws of trees: balance, order, sizes. -/
import Derived.Test.YtbiccahkniadfaaTreeA
namespace Go.Proofs.Ytbiccahkniadfaa.H
open Go.RowKit Go.Proofs.Ytbiccahkniadfaa.P Go.Proofs.YtbiccahkniadfaaW.PrintWords Go.Proofs.YtbiccahkniadfaaW.PrintLast Go.Proofs.YtbiccahkniadfaaW.PrintMore
set_option linter.unusedVariables false
set_option linter.unusedSimpArgs false
/-! ### balance -/
def bal : T → Prop
  | .leaf => True
  | .node l _ _ r => bal l ∧ bal r ∧ ht l ≤ ht r + 1 ∧ ht r ≤ ht l + 1
theorem bal_even (l : T) (k v : Int) (r : T) (hl : bal l) (hr : bal r) (h1 : ht l ≤ ht r + 2) (h2 : ht r ≤ ht l + 2) :
    bal (evenT l k v r) ∧ ht (evenT l k v r) ≤ 1 + max (ht l) (ht r) ∧ max (ht l) (ht r) ≤ ht (evenT l k v r) ∧ (ht l ≤ ht r + 1 → ht r ≤ ht l + 1 → ht (evenT l k v r) = 1 + max (ht l) (ht r)) := by
  unfold evenT
  split
  · rename_i hc
    cases l with
    | leaf => simp [ht] at hc
    | node ll lk lv lr =>
      obtain ⟨b1, b2, b3, b4⟩ := hl
      simp only [ht] at h1 h2 hc
      dsimp only
      split
      · refine ⟨⟨b1, ⟨b2, hr, by omega, by omega⟩, by simp only [ht]; omega, by simp only [ht]; omega⟩, by simp only [ht]; omega, by simp only [ht]; omega, fun h3 h4 => by simp only [ht] at h3 h4 ⊢; omega⟩
      · cases lr with
        | leaf => rename_i hn; simp [ht] at hn
        | node m1 mk mv m2 =>
          obtain ⟨c1, c2, c3, c4⟩ := b2
          simp only [ht] at *
          refine ⟨⟨⟨b1, c1, by omega, by omega⟩, ⟨c2, hr, by omega, by omega⟩, by simp only [ht]; omega, by simp only [ht]; omega⟩, by omega, by omega, fun h3 h4 => by omega⟩
  · rename_i hc
    split
    · rename_i hd
      cases r with
      | leaf => simp [ht] at hd
      | node rl rk rv rr =>
        obtain ⟨b1, b2, b3, b4⟩ := hr
        simp only [ht] at h1 h2 hd hc
        dsimp only
        split
        · refine ⟨⟨⟨hl, b1, by omega, by omega⟩, b2, by simp only [ht]; omega, by simp only [ht]; omega⟩, by simp only [ht]; omega, by simp only [ht]; omega, fun h3 h4 => by simp only [ht] at h3 h4 ⊢; omega⟩
        · cases rl with
          | leaf => rename_i hn; simp [ht] at hn
          | node m1 mk mv m2 =>
            obtain ⟨c1, c2, c3, c4⟩ := b1
            simp only [ht] at *
            refine ⟨⟨⟨hl, c1, by omega, by omega⟩, ⟨c2, b2, by omega, by omega⟩, by simp only [ht]; omega, by simp only [ht]; omega⟩, by omega, by omega, fun h3 h4 => by omega⟩
    · refine ⟨⟨hl, hr, by omega, by omega⟩, by simp only [ht]; omega, by simp only [ht]; omega, fun _ _ => by simp only [ht]⟩
theorem bal_with (k v : Int) : ∀ t : T, bal t → bal (withT k v t) ∧ (ht (withT k v t) = ht t ∨ ht (withT k v t) = ht t + 1)
  | .leaf, _ => ⟨⟨trivial, trivial, Nat.zero_le _, Nat.zero_le _⟩, .inr rfl⟩
  | .node l k1 v1 r, ⟨b1, b2, b3, b4⟩ => by
    have il := bal_with k v l b1
    have ir := bal_with k v r b2
    unfold withT
    split
    · have h := bal_even (withT k v l) k1 v1 r il.1 b2 (by omega) (by omega)
      refine ⟨h.1, ?_⟩
      simp only [ht]
      by_cases c : ht (withT k v l) ≤ ht r + 1
      · have := h.2.2.2 c (by omega); omega
      · omega
    · split
      · have h := bal_even l k1 v1 (withT k v r) b1 ir.1 (by omega) (by omega)
        refine ⟨h.1, ?_⟩
        simp only [ht]
        by_cases c : ht (withT k v r) ≤ ht l + 1
        · have := h.2.2.2 (by omega) c; omega
        · omega
      · exact ⟨⟨b1, b2, b3, b4⟩, .inl rfl⟩
def minN : Nat → Nat
  | 0 => 0
  | 1 => 1
  | n + 2 => 1 + minN (n + 1) + minN n
theorem minN_le : ∀ n, minN n ≤ minN (n + 1)
  | 0 => by decide
  | 1 => by decide
  | n + 2 => by
    have h1 := minN_le n
    have h2 : minN (n + 1) ≤ minN (n + 2) := minN_le (n + 1)
    show 1 + minN (n + 1) + minN n ≤ 1 + minN (n + 2) + minN (n + 1)
    omega
theorem minN_mono {m n : Nat} (h : m ≤ n) : minN m ≤ minN n := by
  induction h with
  | refl => exact Nat.le_refl _
  | step _ ih => exact Nat.le_trans ih (minN_le _)
theorem bal_size : ∀ t : T, bal t → minN (ht t) ≤ sz t
  | .leaf, _ => Nat.le_refl _
  | .node l k v r, ⟨b1, b2, b3, b4⟩ => by
    have h1 := bal_size l b1
    have h2 := bal_size r b2
    simp only [ht, sz]
    have key : ∀ a b : Nat, a ≤ b → b ≤ a + 1 → minN (1 + b) ≤ 1 + minN b + minN a := by
      intro a b h3 h4
      rcases Nat.lt_or_ge a b with h5 | h5
      · obtain rfl : b = a + 1 := by omega
        rw [show 1 + (a + 1) = a + 2 by omega]
        exact Nat.le_refl _
      · obtain rfl : a = b := by omega
        cases a with
        | zero => decide
        | succ n =>
          rw [show 1 + (n + 1) = n + 2 by omega]
          show 1 + minN (n + 1) + minN n ≤ _
          have := minN_le n
          omega
    rcases Nat.le_total (ht l) (ht r) with h | h
    · rw [Nat.max_eq_right h]
      have := key _ _ h b4
      omega
    · rw [Nat.max_eq_left h]
      have := key _ _ h b3
      omega
theorem low (t : T) (hb : bal t) (hs : sz t ≤ 1024) : ht t ≤ 17 := by
  rcases Nat.lt_or_ge (ht t) 18 with h | h
  · omega
  · have h1 := minN_mono h
    have h2 := bal_size t hb
    have h3 : minN 18 = 6764 := by decide
    omega
/-! ### order -/
theorem toL_even (l : T) (k v : Int) (r : T) : toL (evenT l k v r) = toL l ++ (k, v) :: toL r := by
  unfold evenT
  split
  · split
    · rfl
    · split
      · simp [toL]
      · split
        · rfl
        · simp [toL]
  · split
    · split
      · rfl
      · split
        · simp [toL]
        · split
          · rfl
          · simp [toL]
    · rfl
def srt (t : T) : Prop := (toL t).Pairwise fun a b => a.1 < b.1
theorem srt_node {l : T} {k v : Int} {r : T} (h : srt (.node l k v r)) : srt l ∧ srt r ∧ (∀ a ∈ toL l, a.1 < k) ∧ (∀ b ∈ toL r, k < b.1) := by
  unfold srt at h
  rw [toL, List.pairwise_append] at h
  obtain ⟨h1, h2, h3⟩ := h
  rw [List.pairwise_cons] at h2
  exact ⟨h1, h2.2, fun a ha => h3 a ha _ List.mem_cons_self, fun b hb => h2.1 b hb⟩
theorem get_iff (k v : Int) : ∀ t : T, srt t → (getT k t = some v ↔ (k, v) ∈ toL t)
  | .leaf, _ => by simp [getT, toL]
  | .node l k1 v1 r, h => by
    obtain ⟨h1, h2, h3, h4⟩ := srt_node h
    have il := get_iff k v l h1
    have ir := get_iff k v r h2
    unfold getT
    rw [toL, List.mem_append, List.mem_cons]
    split
    · rename_i c
      rw [il]
      exact ⟨.inl, fun o => o.elim id fun o => o.elim (fun e => by cases e; omega) fun o => by have := h4 _ o; simp at this; omega⟩
    · split
      · rename_i c
        rw [ir]
        exact ⟨fun o => .inr (.inr o), fun o => o.elim (fun o => by have := h3 _ o; simp at this; omega) fun o => o.elim (fun e => by cases e; omega) id⟩
      · have e : k = k1 := by omega
        subst e
        constructor
        · intro e; cases e; exact .inr (.inl rfl)
        · rintro (o | o | o)
          · have := h3 _ o; simp at this
          · cases o; rfl
          · have := h4 _ o; simp at this
theorem has_iff (k : Int) (t : T) (h : srt t) : hasT k t = true ↔ ∃ v, (k, v) ∈ toL t := by
  rw [← get_has, Option.isSome_iff_exists]
  exact exists_congr fun v => get_iff k v t h
/-- A pair is laid among others. -/
theorem mem_with (k v : Int) : ∀ t : T, srt t → srt (withT k v t) ∧ ∀ a b, (a, b) ∈ toL (withT k v t) ↔ (a = k ∧ b = v) ∨ (a ≠ k ∧ (a, b) ∈ toL t)
  | .leaf, _ => by
    refine ⟨by simp [srt, withT, toL], fun a b => ?_⟩
    simp [withT, toL]
  | .node l k1 v1 r, h => by
    obtain ⟨h1, h2, h3, h4⟩ := srt_node h
    obtain ⟨sl, ml⟩ := mem_with k v l h1
    obtain ⟨sr, mr⟩ := mem_with k v r h2
    unfold withT
    split
    · rename_i c
      refine ⟨?_, fun a b => ?_⟩
      · unfold srt
        rw [toL_even, List.pairwise_append, List.pairwise_cons]
        refine ⟨sl, ⟨fun b hb => h4 b hb, h2⟩, fun a ha b hb => ?_⟩
        have ha1 : a.1 < k1 := by
          rcases (ml a.1 a.2).1 ha with ⟨e, _⟩ | ⟨_, o⟩
          · omega
          · exact h3 _ o
        rw [List.mem_cons] at hb
        rcases hb with rfl | hb
        · exact ha1
        · have := h4 b hb; omega
      · rw [toL_even, List.mem_append, List.mem_cons, ml, toL, List.mem_append, List.mem_cons]
        constructor
        · rintro ((o | o) | o | o)
          · exact .inl o
          · exact .inr ⟨o.1, .inl o.2⟩
          · cases o; exact .inr ⟨by omega, .inr (.inl rfl)⟩
          · exact .inr ⟨by have := h4 _ o; simp at this; omega, .inr (.inr o)⟩
        · rintro (o | ⟨o1, o | o | o⟩)
          · exact .inl (.inl o)
          · exact .inl (.inr ⟨o1, o⟩)
          · exact .inr (.inl o)
          · exact .inr (.inr o)
    · split
      · rename_i c
        refine ⟨?_, fun a b => ?_⟩
        · unfold srt
          rw [toL_even, List.pairwise_append, List.pairwise_cons]
          have hr1 : ∀ b ∈ toL (withT k v r), k1 < b.1 := fun b hb => by
            rcases (mr b.1 b.2).1 hb with ⟨e, _⟩ | ⟨_, o⟩
            · omega
            · exact h4 _ o
          refine ⟨h1, ⟨hr1, sr⟩, fun a ha b hb => ?_⟩
          rw [List.mem_cons] at hb
          rcases hb with rfl | hb
          · exact h3 a ha
          · have := h3 a ha; have := hr1 b hb; omega
        · rw [toL_even, List.mem_append, List.mem_cons, mr, toL, List.mem_append, List.mem_cons]
          constructor
          · rintro (o | o | o | o)
            · exact .inr ⟨by have := h3 _ o; simp at this; omega, .inl o⟩
            · cases o; exact .inr ⟨by omega, .inr (.inl rfl)⟩
            · exact .inl o
            · exact .inr ⟨o.1, .inr (.inr o.2)⟩
          · rintro (o | ⟨o1, o | o | o⟩)
            · exact .inr (.inr (.inl o))
            · exact .inl o
            · exact .inr (.inl o)
            · exact .inr (.inr (.inr ⟨o1, o⟩))
      · have e : k = k1 := by omega
        subst e
        refine ⟨?_, fun a b => ?_⟩
        · unfold srt
          rw [toL, List.pairwise_append, List.pairwise_cons]
          refine ⟨h1, ⟨fun b hb => h4 b hb, h2⟩, fun a ha b hb => ?_⟩
          rw [List.mem_cons] at hb
          rcases hb with rfl | hb
          · exact h3 a ha
          · have := h3 a ha; have := h4 b hb; omega
        · rw [toL, List.mem_append, List.mem_cons, toL, List.mem_append, List.mem_cons]
          constructor
          · rintro (o | o | o)
            · exact .inr ⟨by have := h3 _ o; simp at this; omega, .inl o⟩
            · cases o; exact .inl ⟨rfl, rfl⟩
            · exact .inr ⟨by have := h4 _ o; simp at this; omega, .inr (.inr o)⟩
          · rintro (⟨rfl, rfl⟩ | ⟨o1, o | o | o⟩)
            · exact .inr (.inl rfl)
            · exact .inl o
            · cases o; exact absurd rfl o1
            · exact .inr (.inr o)
theorem sz_with_eq (k v : Int) : ∀ t : T, sz (withT k v t) = sz t + if hasT k t then 0 else 1
  | .leaf => rfl
  | .node l k1 v1 r => by
    have il := sz_with_eq k v l
    have ir := sz_with_eq k v r
    unfold withT hasT
    split
    · rw [sz_even, il]; simp only [sz]; omega
    · split
      · rw [sz_even, ir]; simp only [sz]; omega
      · simp [sz]
theorem toL_least : ∀ (l : T) (k v : Int) (r : T), toL (.node l k v r) = (leastT (.node l k v r)).1 :: toL (leastT (.node l k v r)).2
  | .leaf, k, v, r => rfl
  | .node ll lk lv lr, k, v, r => by
    have ih := toL_least ll lk lv lr
    rw [leastT, toL_even, toL, ih]
    rfl
theorem toL_without (k : Int) : ∀ t : T, (toL (withoutT k t)).Sublist (toL t) ∧ (hasT k t = true → sz (withoutT k t) + 1 = sz t)
  | .leaf => ⟨List.Sublist.refl _, fun h => by cases h⟩
  | .node l k1 v1 r => by
    have il := toL_without k l
    have ir := toL_without k r
    unfold withoutT hasT
    split
    · rw [toL_even, toL, sz_even]
      exact ⟨il.1.append (List.Sublist.refl _), fun h => by have := il.2 h; simp only [sz]; omega⟩
    · split
      · rw [toL_even, toL, sz_even]
        exact ⟨(List.Sublist.refl _).append (ir.1.cons_cons _), fun h => by have := ir.2 h; simp only [sz]; omega⟩
      · cases r with
        | leaf =>
          refine ⟨?_, fun _ => by simp only [sz]; omega⟩
          rw [toL]
          exact List.sublist_append_left _ _
        | node rl rk rv rr =>
          have h1 := toL_least rl rk rv rr
          have h2 := congrArg List.length h1
          rw [List.length_cons, toL_len, toL_len] at h2
          dsimp only
          rw [toL_even, sz_even, toL]
          refine ⟨?_, fun _ => by simp only [sz] at h2 ⊢; omega⟩
          rw [show ((leastT (.node rl rk rv rr)).1.1, (leastT (.node rl rk rv rr)).1.2) = (leastT (.node rl rk rv rr)).1 from rfl, ← h1]
          exact (List.Sublist.refl _).append (List.sublist_cons_self _ _)
end Go.Proofs.Ytbiccahkniadfaa.H
