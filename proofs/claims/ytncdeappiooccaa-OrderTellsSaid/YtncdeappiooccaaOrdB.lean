/- Plain laws of orders: what respects. -/
import Derived.Test.YtncdeappiooccaaOrd9
namespace Go.Proofs.Ytncdeappiooccaa.H
open Go.RowKit Go.Proofs.Ytncdeappiooccaa.P Go.Proofs.YtncdeappiooccaaW.PrintWords Go.Proofs.YtncdeappiooccaaW.PrintLast Go.Proofs.YtncdeappiooccaaW.PrintMore
set_option linter.unusedVariables false
set_option linter.unusedSimpArgs false
theorem mem_ofL (h : List S47) (kind id : Int) : id ∈ ofL h kind ↔ (⟨kind, id⟩ : S47) ∈ h := by
  unfold ofL
  rw [List.mem_map]
  constructor
  · rintro ⟨⟨x0, x1⟩, hx, rfl⟩
    rw [List.mem_filter] at hx
    have e : x0 = kind := by simpa using hx.2
    subst e
    exact hx.1
  · intro hm
    exact ⟨_, List.mem_filter.2 ⟨hm, by simp⟩, rfl⟩
theorem new_at (h : List S47) (hr : rightH h = true) (j : Nat) (x : S47) (hx : h[j]? = some x) : ¬ x ∈ h.take j := by
  have := right_at h hr j x hx
  unfold stepOk at this
  simp at this
  exact this.1
theorem pos_at (h : List S47) (hr : rightH h = true) (j : Nat) (x : S47) (hx : h[j]? = some x) : posE h x = (j : Int) + 1 := by
  have hj := (List.getElem?_eq_some_iff.1 hx).1
  have hm : x ∈ h.take (j + 1) := by
    rw [List.take_succ_eq_append_getElem hj, (List.getElem?_eq_some_iff.1 hx).2]; simp
  have h1 := pos_take h x (j + 1) hm
  obtain ⟨i, h2, h3, _⟩ := pos_get h x h1.1
  have h4 : ¬ i < j := fun hi => new_at h hr j x hx (List.mem_of_getElem? (i := i) (by rw [List.getElem?_take_of_lt hi]; exact h3))
  omega
theorem ofL_succ (h : List S47) (kind : Int) (j : Nat) (hj : j < h.length) : ofL (h.take (j + 1)) kind = ofL (h.take j) kind ++ if h[j].f0 = kind then [h[j].f1] else [] := by
  rw [List.take_succ_eq_append_getElem hj, ofL_snoc]
theorem new_of (h : List S47) (hr : rightH h = true) (kind : Int) (j : Nat) (hj : j < h.length) (hk : h[j].f0 = kind) : ¬ h[j].f1 ∈ ofL (h.take j) kind := by
  intro hm
  rw [mem_ofL] at hm
  subst hk
  exact new_at h hr j _ (List.getElem?_eq_getElem hj) hm
theorem nodup_of (h : List S47) (hr : rightH h = true) (kind : Int) : ∀ j, j ≤ h.length → (ofL (h.take j) kind).Nodup
  | 0, _ => by simp [ofL]
  | j + 1, hj => by
    have ih := nodup_of h hr kind j (by omega)
    rw [ofL_succ h kind j (by omega)]
    by_cases e : h[j].f0 = kind
    · rw [if_pos e, List.nodup_append]
      refine ⟨ih, by simp, fun a ha b hb => ?_⟩
      rw [List.mem_singleton] at hb
      subst hb
      rintro rfl
      exact new_of h hr kind j (by omega) e ha
    · rw [if_neg e, List.append_nil]
      exact ih
theorem nodup_ofL (h : List S47) (hr : rightH h = true) (kind : Int) : (ofL h kind).Nodup := by
  have := nodup_of h hr kind h.length (Nat.le_refl _)
  rwa [List.take_length] at this
theorem fold_le (h : List S47) (K : Int) : ∀ (pre : List Int) (m : Int), m ≤ K → (∀ x ∈ pre, posE h ⟨1, x⟩ ≤ K) → pre.foldl (fun m id => max m (posE h ⟨1, id⟩)) m ≤ K
  | [], m, hm, _ => hm
  | x :: t, m, hm, hp => by
    rw [List.foldl_cons]
    refine fold_le h K t _ ?_ fun y hy => hp y (List.mem_cons_of_mem _ hy)
    have := hp x List.mem_cons_self
    omega
theorem resp_pinned (h : List S47) (hr : rightH h = true) : ∀ j, j ≤ h.length → respF h [] (ofL (h.take j) 2) = true
  | 0, _ => rfl
  | j + 1, hj => by
    have ih := resp_pinned h hr j (by omega)
    have hlt : j < h.length := by omega
    rw [ofL_succ h 2 j hlt]
    by_cases e : h[j].f0 = 2
    · rw [if_pos e, respF_append, ih, Bool.true_and, List.nil_append]
      have hnew := new_of h hr 2 j hlt e
      have hx : h[j]? = some (⟨2, h[j].f1⟩ : S47) := by
        rw [List.getElem?_eq_getElem hlt, ← e]
      generalize h[j].f1 = id at *
      have hp := pos_at h hr j _ hx
      have h1 : 0 < posE h ⟨1, id⟩ ∧ posE h ⟨1, id⟩ < posE h ⟨2, id⟩ := before h hr 2 (.inl rfl) id (by omega)
      have hla : lastE h (ofL (h.take j) 2) ≤ j := by
        refine fold_le h j _ 0 (by omega) fun x hx => ?_
        rw [mem_ofL] at hx
        have h2 := pos_take h _ j hx
        have h3 : 0 < posE h ⟨1, x⟩ ∧ posE h ⟨1, x⟩ < posE h ⟨2, x⟩ := before h hr 2 (.inl rfl) x h2.1
        omega
      have hth : (decide (0 < posE h ⟨3, id⟩) && decide (posE h ⟨3, id⟩ < lastE h (ofL (h.take j) 2))) = false := by
        by_cases e3 : 0 < posE h ⟨3, id⟩
        · have h4 : 0 < posE h ⟨2, id⟩ ∧ posE h ⟨2, id⟩ < posE h ⟨3, id⟩ := before h hr 3 (.inr rfl) id e3
          rw [Bool.and_eq_false_iff]
          right
          rw [decide_eq_false_iff_not]
          omega
        · simp [e3]
      simp only [respF, okStep, hth, decide_eq_false hnew]
      rw [beq_eq_false_iff_ne.2 (by omega)]
      rfl
    · rw [if_neg e, List.append_nil]
      exact ih
theorem resp_more (h : List S47) : ∀ (q pre : List Int), (∀ id ∈ q, 0 < posE h ⟨1, id⟩ ∧ ¬ 0 < posE h ⟨3, id⟩ ∧ ¬ id ∈ pre) → q.Nodup → respF h pre q = true
  | [], _, _, _ => rfl
  | id :: t, pre, hq, hn => by
    rw [List.nodup_cons] at hn
    have h1 := hq id List.mem_cons_self
    have ih := resp_more h t (pre ++ [id]) (fun x hx => by
      have h2 := hq x (List.mem_cons_of_mem _ hx)
      refine ⟨h2.1, h2.2.1, fun hm => ?_⟩
      rw [List.mem_append, List.mem_singleton] at hm
      rcases hm with hm | rfl
      · exact h2.2.2 hm
      · exact hn.1 hx) hn.2
    rw [respF, ih]
    simp only [okStep, decide_eq_false h1.2.1, decide_eq_false h1.2.2]
    rw [beq_eq_false_iff_ne.2 (by omega)]
    rfl
def allL (h : List S47) : List Int := ofL h 2 ++ (pendL h).filter fun id => !decide (id ∈ ofL h 2)
theorem answered_in (h : List S47) (hr : rightH h = true) (l : List Int) (hl : ∀ id, id ∈ ofL h 2 → id ∈ l) : ((ofL h 3).all fun id => decide (id ∈ l)) = true := by
  rw [List.all_eq_true]
  intro id hm
  rw [mem_ofL] at hm
  have h1 := posE_mem h _ hm
  have h2 : 0 < posE h ⟨2, id⟩ ∧ posE h ⟨2, id⟩ < posE h ⟨3, id⟩ := before h hr 3 (.inr rfl) id h1.1
  obtain ⟨j, _, h3, _⟩ := pos_get h _ h2.1
  rw [decide_eq_true_iff]
  exact hl id ((mem_ofL h 2 id).2 (List.mem_of_getElem? h3))
theorem resp_order (h : List S47) (hr : rightH h = true) : respH h (ofL h 2) = true := by
  have := resp_pinned h hr h.length (Nat.le_refl _)
  rw [List.take_length] at this
  rw [respH, hr, this, answered_in h hr _ fun _ h => h]
  rfl
theorem resp_all (h : List S47) (hr : rightH h = true) : respH h (allL h) = true := by
  have h1 := resp_pinned h hr h.length (Nat.le_refl _)
  rw [List.take_length] at h1
  have h2 : respF h (ofL h 2) ((pendL h).filter fun id => !decide (id ∈ ofL h 2)) = true := by
    refine resp_more h _ _ (fun id hm => ?_) ?_
    · rw [List.mem_filter] at hm
      have hp := hm.1
      unfold pendL at hp
      rw [hr, if_pos rfl, List.mem_filter, mem_ofL] at hp
      exact ⟨(posE_mem h _ hp.1).1, by simpa using hp.2, by simpa using hm.2⟩
    · refine List.Pairwise.filter _ ?_
      unfold pendL
      rw [hr, if_pos rfl]
      exact List.Pairwise.filter _ (nodup_ofL h hr 1)
  rw [respH, hr, allL, respF_append, h1, List.nil_append, h2, answered_in h hr _ fun _ h => List.mem_append_left _ h]
  rfl
theorem of_take (h : List S47) (kind : Int) (n : Nat) : ofL (h.take n) kind = (ofL h kind).take (ofL (h.take n) kind).length := by
  have : ofL h kind = ofL (h.take n) kind ++ ofL (h.drop n) kind := by
    conv => lhs; rw [← List.take_append_drop n h]
    unfold ofL
    rw [List.filter_append, List.map_append]
  rw [this, List.take_left]
end Go.Proofs.Ytncdeappiooccaa.H
