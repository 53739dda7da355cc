import Derived.Test.YtglfpobapkkgdaaTopo10
namespace Go.Proofs.Ytglfpobapkkgdaa.H
open Go.RowKit Go.Proofs.Ytglfpobapkkgdaa.P Go.Proofs.YtglfpobapkkgdaaW.PrintWords Go.Proofs.YtglfpobapkkgdaaW.PrintLast Go.Proofs.YtglfpobapkkgdaaW.PrintMore
set_option linter.unusedVariables false
set_option linter.unusedSimpArgs false
def lks (l1 : List S38) : List (S27 × S27) := l1.map fun l => (l.f0, l.f1)
theorem look_right {l0 : List Int} {l1 : List S38} (h : RightT l0 l1) (p : S27) : look (joinL l1) p = nxt (lks l1) p := by
  rw [joinL_jn]; exact look_jn0 p _ h.nodup
theorem port_has {l0 : List Int} {l1 : List S38} (h : RightT l0 l1) (p : S27) (hp : p ∈ ports2 (lks l1)) : hasB l0 p = true := by
  have key : ∀ t : List S38, (∀ l, l ∈ t → hasB l0 l.f0 = true ∧ hasB l0 l.f1 = true) → p ∈ ports2 (lks t) → hasB l0 p = true := by
    intro t
    induction t with
    | nil => intro _ h; simp [lks, ports2] at h
    | cons x t ih =>
      intro hh hm
      simp only [lks, List.map_cons, ports2, List.mem_cons] at hm
      rcases hm with rfl | rfl | hm
      · exact (hh x (by simp)).1
      · exact (hh x (by simp)).2
      · exact ih (fun l hl => hh l (by simp [hl])) hm
  exact key l1 h.has hp
/-- What Next tells of a right topology's port that is joined. -/
theorem next_yes {l0 : List Int} {l1 : List S38} (h : RightT l0 l1) (p : S27) (hp : nextB l1 p = true) :
    nextB l1 (nextQ l1 p) = true ∧ nextQ l1 (nextQ l1 p) = p ∧ nextQ l1 p ≠ p ∧ hasB l0 p = true ∧ hasB l0 (nextQ l1 p) = true := by
  unfold nextB nextQ at *
  rw [look_right h p] at *
  cases hq : nxt (lks l1) p with
  | none => rw [hq] at hp; cases hp
  | some q =>
    simp only [Option.getD_some]
    have hm := nxt_mem hq
    have hb := nxt_back h.nodup hq
    rw [look_right h q]
    rw [show nxt (lks l1) q = some p from hb.1]
    exact ⟨rfl, rfl, hb.2, port_has h p hm.1, port_has h q hm.2⟩
/-! ### all ports -/
def rowA (i : Nat) : Nat → List S27
  | 0 => []
  | k + 1 => rowA i k ++ [⟨(i : Int), (k : Int)⟩]
def allP (l0 : List Int) : Nat → List S27
  | 0 => []
  | m + 1 => allP l0 m ++ rowA m (rdOf 0 l0 (m : Int)).toNat
theorem rowE_filter (L : List (S27 × S27)) (i : Nat) : ∀ k, rowE L i k = (rowA i k).filter fun p => !(look L p).isSome
  | 0 => rfl
  | k + 1 => by
    rw [rowE, rowA, List.filter_append, rowE_filter L i k]
    congr 1
    rw [List.filter_cons]
    cases look L ⟨(i : Int), (k : Int)⟩ <;> rfl
theorem mem_rowA (i : Nat) (p : S27) : ∀ k, p ∈ rowA i k ↔ p.f0 = i ∧ 0 ≤ p.f1 ∧ p.f1 < k
  | 0 => by simp [rowA] <;> omega
  | k + 1 => by
    rw [rowA, List.mem_append, mem_rowA i p k, List.mem_singleton]
    constructor
    · rintro (h | rfl)
      · exact ⟨h.1, h.2.1, by omega⟩
      · exact ⟨rfl, by simp, by show (k : Int) < ((k + 1 : Nat) : Int); omega⟩
    · rintro ⟨h1, h2, h3⟩
      by_cases h : p.f1 < k
      · exact .inl ⟨h1, h2, h⟩
      · right
        have h4 : p.f1 = k := by omega
        cases p
        simp_all
theorem nodup_rowA (i : Nat) : ∀ k, (rowA i k).Nodup
  | 0 => List.nodup_nil
  | k + 1 => by
    rw [rowA, List.nodup_append]
    refine ⟨nodup_rowA i k, by simp, fun a ha b hb => ?_⟩
    rw [List.mem_singleton] at hb
    subst hb
    rintro rfl
    have := (mem_rowA i _ k).1 ha
    simp at this
theorem len_rowA (i : Nat) : ∀ k, (rowA i k).length = k
  | 0 => rfl
  | k + 1 => by rw [rowA, List.length_append, len_rowA i k]; rfl
theorem mem_allP (l0 : List Int) (p : S27) : ∀ m, p ∈ allP l0 m ↔ 0 ≤ p.f0 ∧ p.f0 < m ∧ 0 ≤ p.f1 ∧ p.f1 < rdOf 0 l0 p.f0
  | 0 => by simp [allP] <;> omega
  | m + 1 => by
    rw [allP, List.mem_append, mem_allP l0 p m, mem_rowA]
    constructor
    · rintro (h | ⟨h1, h2, h3⟩)
      · exact ⟨h.1, by omega, h.2.2⟩
      · rw [h1]
        exact ⟨by omega, by omega, h2, by omega⟩
    · rintro ⟨h1, h2, h3, h4⟩
      by_cases h : p.f0 < m
      · exact .inl ⟨h1, h, h3, h4⟩
      · right
        have e : p.f0 = m := by omega
        rw [e] at h4
        exact ⟨e, h3, by omega⟩
theorem nodup_allP (l0 : List Int) : ∀ m, (allP l0 m).Nodup
  | 0 => List.nodup_nil
  | m + 1 => by
    rw [allP, List.nodup_append]
    refine ⟨nodup_allP l0 m, nodup_rowA _ _, fun a ha b hb => ?_⟩
    rintro rfl
    have h1 := (mem_allP l0 a m).1 ha
    have h2 := (mem_rowA _ _ _).1 hb
    omega
theorem getD_range {l0 : List Int} (h : ∀ n, n ∈ l0 → 1 ≤ n ∧ n ≤ 4) (m : Nat) (hm : m < l0.length) : 1 ≤ rdOf 0 l0 (m : Int) ∧ rdOf 0 l0 (m : Int) ≤ 4 := by
  unfold rdOf
  rw [Int.toNat_natCast, List.getD_eq_getElem?_getD, List.getElem?_eq_getElem hm]
  exact h _ (List.getElem_mem _)
theorem edges_filter {l0 : List Int} (L : List (S27 × S27)) (h : ∀ n, n ∈ l0 → 1 ≤ n ∧ n ≤ 4) : ∀ m, m ≤ l0.length → edgesE l0 L m = (allP l0 m).filter fun p => !(look L p).isSome
  | 0, _ => rfl
  | m + 1, hm => by
    have hr := getD_range h m (by omega)
    rw [edgesE, allP, List.filter_append, edges_filter L h m (by omega), rowE_filter]
    rw [show mn (rdOf 0 l0 (m : Int)) 4 = rdOf 0 l0 (m : Int) from by unfold mn; rw [if_neg (by omega)]]
theorem len_allP {l0 : List Int} (h : ∀ n, n ∈ l0 → 1 ≤ n ∧ n ≤ 4) : ∀ m, m ≤ l0.length → ((allP l0 m).length : Int) = (l0.take m).sum
  | 0, _ => by simp [allP]
  | m + 1, hm => by
    have hr := getD_range h m (by omega)
    have ih := len_allP h m (by omega)
    rw [allP, List.length_append, len_rowA, List.take_succ_eq_append_getElem (by omega), List.sum_append]
    have e : rdOf 0 l0 (m : Int) = l0[m]'(by omega) := by unfold rdOf; rw [Int.toNat_natCast, List.getD_eq_getElem?_getD, List.getElem?_eq_getElem (by omega)]; rfl
    rw [e] at hr ⊢
    simp
    omega
theorem sum_range {l0 : List Int} (h : ∀ n, n ∈ l0 → 1 ≤ n ∧ n ≤ 4) : ∀ m, m ≤ l0.length → 0 ≤ (l0.take m).sum ∧ (l0.take m).sum ≤ 4 * m
  | 0, _ => by simp
  | m + 1, hm => by
    have ih := sum_range h m (by omega)
    have hr := h _ (List.getElem_mem (l := l0) (n := m) (by omega))
    rw [List.take_succ_eq_append_getElem (by omega), List.sum_append]
    simp
    omega
/-- What Edges tells of a right topology. -/
theorem edges_right {l0 : List Int} {l1 : List S38} (h : RightT l0 l1) : edgesE l0 (joinL l1) l0.length = (allP l0 l0.length).filter fun p => (nxt (lks l1) p).isNone := by
  rw [edges_filter _ h.ports _ (Nat.le_refl _)]
  apply List.filter_congr
  intro p _
  rw [look_right h p]
  cases nxt (lks l1) p <;> rfl
theorem edges_count {l0 : List Int} {l1 : List S38} (h : RightT l0 l1) : l0.sum = ((edgesE l0 (joinL l1) l0.length).length : Int) + 2 * (l1.length : Int) := by
  have hc := count_joined (allP l0 l0.length) (lks l1) (nodup_allP _ _) h.nodup (fun x hx => by
    have h1 := (hasB_iff _ _).1 (port_has h x hx)
    exact (mem_allP l0 x _).2 h1)
  rw [← edges_right h] at hc
  have hl := len_allP h.ports l0.length (Nat.le_refl _)
  rw [List.take_length] at hl
  have e : (lks l1).length = l1.length := by simp [lks]
  rw [e] at hc
  omega
theorem edges_mem {l0 : List Int} {l1 : List S38} (h : RightT l0 l1) (p : S27) (hp : nextB l1 p = false) : (edgesE l0 (joinL l1) l0.length).any (fun x => decide (x = p)) = hasB l0 p := by
  rw [Bool.eq_iff_iff, List.any_eq_true, hasB_iff, edges_right h]
  have hn : (nxt (lks l1) p).isNone = true := by
    unfold nextB at hp
    rw [look_right h p] at hp
    cases hq : nxt (lks l1) p with
    | none => rfl
    | some q => rw [hq] at hp; cases hp
  constructor
  · rintro ⟨x, hx, e⟩
    have e' := of_decide_eq_true e
    subst e'
    exact (mem_allP l0 _ _).1 (List.mem_filter.1 hx).1
  · intro hh
    exact ⟨p, List.mem_filter.2 ⟨(mem_allP l0 p _).2 hh, hn⟩, by simp⟩
end Go.Proofs.Ytglfpobapkkgdaa.H
