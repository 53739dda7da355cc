/- Atoms follow one another; each range is made of some: plain. -/
import Derived.Test.YtjfbiabgeickjaaAtmZ
namespace Go.Proofs.Ytjfbiabgeickjaa.H
open Go.RowKit Go.Proofs.Ytjfbiabgeickjaa.P Go.Proofs.YtjfbiabgeickjaaW.PrintWords Go.Proofs.YtjfbiabgeickjaaW.PrintLast Go.Proofs.YtjfbiabgeickjaaW.PrintMore
set_option linter.unusedVariables false
theorem up_ge {b : Int} {K : List Int} (hu : Up (b :: K)) {x : Int} (h : x ∈ b :: K) : b ≤ x := by
  rcases List.mem_cons.1 h with rfl | h
  · exact Int.le_refl _
  · exact Int.le_of_lt ((List.pairwise_cons.1 hu).1 x h)
theorem of_unique (a : Int) (p : Rg) : ∀ (K : List Int) (i : Nat), Up K → (atomsK K)[i]? = some p → p.f0 ≤ a → a ≤ p.f1 → ofA a (atomsK K) = i
  | [], i, _, h, _, _ => by simp [atomsK] at h
  | [k], 0, _, h, h1, h2 => by
    simp [atomsK] at h
    subst h
    simp only [atomsK, ofA]
    rw [if_neg (by simp only [] at h2; omega)]
  | [k], i + 1, _, h, _, _ => by simp [atomsK] at h
  | k :: b :: K, 0, hu, h, h1, h2 => by
    simp [atomsK] at h
    subst h
    simp only [atomsK, ofA]
    rw [if_neg (by simp only [] at h2; omega)]
  | k :: b :: K, i + 1, hu, h, h1, h2 => by
    have hu2 := (List.pairwise_cons.1 hu).2
    have h' : (atomsK (b :: K))[i]? = some p := by simpa [atomsK] using h
    have hat := atomsK_at (b :: K) i
    rw [h'] at hat
    have hb : b ≤ p.f0 := by
      cases hk : (b :: K)[i]? with
      | none => rw [hk] at hat; cases hat
      | some z =>
        rw [hk] at hat
        have hz := up_ge hu2 (List.mem_of_getElem? hk)
        simp only [Option.map_some, Option.some.injEq] at hat
        rw [hat]; exact hz
    have ih := of_unique a p (b :: K) i hu2 h' h1 h2
    simp only [atomsK, ofA]
    rw [if_pos (by omega), ih]; omega
def atK (K : List Int) (i : Nat) : Int := K[i]?.getD 4294967296
theorem end_at (K : List Int) (i : Nat) : endK K i + 1 = atK K (i + 1) := by
  unfold endK atK
  cases K[i + 1]? <;> simp
theorem atom_get (K : List Int) (i : Nat) (h : i < K.length) : (atomsK K)[i]? = some ⟨K[i], endK K i⟩ := by rw [atomsK_at, List.getElem?_eq_getElem h]; rfl
theorem end_ge (K : List Int) (hu : Up K) (hr : ∀ k ∈ K, 0 ≤ k ∧ k ≤ 4294967295) (i : Nat) (h : i < K.length) : K[i] ≤ endK K i ∧ endK K i ≤ 4294967295 := by
  have h1 := hr _ (List.getElem_mem h)
  unfold endK
  by_cases c : i + 1 < K.length
  · rw [List.getElem?_eq_getElem c]
    have h2 := List.pairwise_iff_getElem.1 hu i (i + 1) h c (Nat.lt_succ_self i)
    have h3 := hr _ (List.getElem_mem c)
    simp only []; omega
  · rw [List.getElem?_eq_none (by omega)]; simp only []; omega
/-- The i-th atom, and what is said of it. -/
theorem Inv.atom {m : Nat} {x : Tab} {L : List Rg} (h : Inv m x L) (i : Nat) (hi : i < (keysT x.b).length) :
    ∃ p : Rg, atomR (keysT x.b) (i : Int) = (p, true) ∧ 0 ≤ p.f0 ∧ p.f0 ≤ p.f1 ∧ p.f1 ≤ 4294967295 ∧ p.f0 = atK (keysT x.b) i ∧ p.f1 + 1 = atK (keysT x.b) (i + 1) ∧ ofA p.f0 (atomsK (keysT x.b)) = i ∧ ofA p.f1 (atomsK (keysT x.b)) = i := by
  have hu := keys_up h.b.1
  have hg := atom_get (keysT x.b) i hi
  have he := end_ge (keysT x.b) hu h.range i hi
  have h0 := (h.range _ (List.getElem_mem hi)).1
  refine ⟨⟨(keysT x.b)[i], endK (keysT x.b) i⟩, ?_, h0, he.1, he.2, ?_, end_at _ _, of_unique _ _ _ _ hu hg (Int.le_refl _) he.1, of_unique _ _ _ _ hu hg he.1 (Int.le_refl _)⟩
  · unfold atomR
    rw [if_pos (by omega), Int.toNat_natCast, List.getD_eq_getElem?_getD, hg]; rfl
  · unfold atK; rw [List.getElem?_eq_getElem hi]; rfl
theorem Inv.at0 {m : Nat} {x : Tab} {L : List Rg} (h : Inv m x L) : atK (keysT x.b) 0 = 0 := by
  obtain ⟨K, hK⟩ := h.zero
  rw [hK]; rfl
theorem at_end (K : List Int) : atK K K.length = 4294967296 := by unfold atK; rw [List.getElem?_eq_none (Nat.le_refl _)]; rfl
/-- A range begins with an atom, and ends with one. -/
theorem Inv.made {m : Nat} {x : Tab} {L : List Rg} (h : Inv m x L) (p : Rg) (hp : p ∈ L) :
    (∃ q : Rg, atomR (keysT x.b) ((ofA p.f0 (atomsK (keysT x.b)) : Nat) : Int) = (q, true) ∧ q.f0 = p.f0) ∧ ∃ q : Rg, atomR (keysT x.b) ((ofA p.f1 (atomsK (keysT x.b)) : Nat) : Int) = (q, true) ∧ q.f1 = p.f1 := by
  obtain ⟨o1, o2, o3⟩ := h.ok p hp
  have hu := keys_up h.b.1
  have hm := allL_mem' L p hp
  constructor
  · have hk : p.f0 ∈ keysT x.b := (h.keys _).2 ⟨List.mem_cons_of_mem _ hm.1, by omega⟩
    obtain ⟨i, hi, e⟩ := List.getElem_of_mem hk
    obtain ⟨q, q1, q2, q3, q4, q5, q6, q7, q8⟩ := h.atom i hi
    have e5 : q.f0 = p.f0 := by rw [q5, ← e]; unfold atK; rw [List.getElem?_eq_getElem hi]; rfl
    rw [e5] at q7
    exact ⟨q, by rw [q7]; exact q1, e5⟩
  · by_cases c : p.f1 < 4294967295
    · have hk : p.f1 + 1 ∈ keysT x.b := (h.keys _).2 ⟨List.mem_cons_of_mem _ hm.2, by omega⟩
      obtain ⟨i, hi, e⟩ := List.getElem_of_mem hk
      obtain ⟨K, hK⟩ := h.zero
      have hi0 : i ≠ 0 := by
        rintro rfl
        have : (keysT x.b)[0] = 0 := by simp only [hK]; rfl
        omega
      obtain ⟨j, rfl⟩ : ∃ j, i = j + 1 := ⟨i - 1, by omega⟩
      obtain ⟨q, q1, q2, q3, q4, q5, q6, q7, q8⟩ := h.atom j (by omega)
      have e6 : atK (keysT x.b) (j + 1) = p.f1 + 1 := by unfold atK; rw [List.getElem?_eq_getElem hi]; exact e
      have e5 : q.f1 = p.f1 := by omega
      rw [e5] at q8
      exact ⟨q, by rw [q8]; exact q1, e5⟩
    · obtain ⟨K, hK⟩ := h.zero
      have hlen : 0 < (keysT x.b).length := by rw [hK]; simp
      obtain ⟨q, q1, q2, q3, q4, q5, q6, q7, q8⟩ := h.atom ((keysT x.b).length - 1) (by omega)
      rw [show (keysT x.b).length - 1 + 1 = (keysT x.b).length from by omega, at_end] at q6
      have e5 : q.f1 = p.f1 := by omega
      rw [e5] at q8
      exact ⟨q, by rw [q8]; exact q1, e5⟩
where allL_mem' : ∀ (L : List Rg) (p : Rg), p ∈ L → p.f0 ∈ allL L ∧ p.f1 + 1 ∈ allL L
  | [], _, h => by cases h
  | q :: L, p, h => by
    simp only [allL, List.mem_cons]
    rcases List.mem_cons.1 h with rfl | h
    · exact ⟨.inl rfl, .inr (.inl rfl)⟩
    · have := allL_mem' L p h; exact ⟨.inr (.inr this.1), .inr (.inr this.2)⟩
end Go.Proofs.Ytjfbiabgeickjaa.H
