/- Plain laws of joined ports: a map filled link by link against a list of links. -/
import Derived.Test.YtglfpobapkkgdaaMap
namespace Go.Proofs.Ytglfpobapkkgdaa.H
set_option linter.unusedVariables false
set_option linter.unusedSimpArgs false
set_option linter.unusedSectionVars false
section
variable {α : Type} [DecidableEq α]
/-- All ports of links, in order. -/
def ports2 : List (α × α) → List α
  | [] => []
  | (a, b) :: t => a :: b :: ports2 t
def keysOf {β : Type} (L : List (α × β)) : List α := L.map (·.1)
theorem keys_upd {β : Type} (k : α) (v : β) : ∀ L : List (α × β), keysOf (upd L k v) = if k ∈ keysOf L then keysOf L else keysOf L ++ [k]
  | [] => by simp [upd, keysOf]
  | (a, b) :: t => by
    have ih := keys_upd k v t
    unfold upd
    by_cases h : k = a
    · subst h
      simp [keysOf]
    · simp only [if_neg h]
      show a :: keysOf (upd t k v) = _
      rw [ih]
      by_cases h2 : k ∈ keysOf t
      · simp only [if_pos h2]
        rw [if_pos (by show k ∈ a :: keysOf t; exact List.mem_cons_of_mem _ h2)]; rfl
      · simp only [if_neg h2]
        rw [if_neg (by show ¬ k ∈ a :: keysOf t; simp [h, h2])]; rfl
/-- Link by link, as a map. -/
def jn : List (α × α) → List (α × α) → List (α × α)
  | L, [] => L
  | L, (a, b) :: t => jn (upd (upd L a b) b a) t
theorem upd_len {β : Type} (k : α) (v : β) (L : List (α × β)) : (upd L k v).length = if k ∈ keysOf L then L.length else L.length + 1 := by
  have h := congrArg List.length (keys_upd k v L)
  by_cases hk : k ∈ keysOf L
  · rw [if_pos hk] at h ⊢
    simpa [keysOf] using h
  · rw [if_neg hk] at h ⊢
    simpa [keysOf] using h
theorem jn_len_le : ∀ (t : List (α × α)) (L : List (α × α)), (jn L t).length ≤ L.length + 2 * t.length
  | [], L => by simp [jn]
  | (a, b) :: t, L => by
    have ih := jn_len_le t (upd (upd L a b) b a)
    have h1 := upd_len a b L
    have h2 := upd_len b a (upd L a b)
    simp only [jn, List.length_cons]
    split at h1 <;> split at h2 <;> omega
theorem jn_len : ∀ (t : List (α × α)) (L : List (α × α)), (jn L t).length = L.length + 2 * t.length ↔ ((ports2 t).Nodup ∧ ∀ x, x ∈ ports2 t → ¬ x ∈ keysOf L)
  | [], L => by simp [jn, ports2]
  | (a, b) :: t, L => by
    have le := jn_len_le t (upd (upd L a b) b a)
    have ih := jn_len t (upd (upd L a b) b a)
    have h1 := upd_len a b L
    have h2 := upd_len b a (upd L a b)
    have k1 := keys_upd a b L
    have k2 := keys_upd b a (upd L a b)
    simp only [jn, List.length_cons, ports2, List.nodup_cons, List.mem_cons]
    by_cases ha : a ∈ keysOf L
    · rw [if_pos ha] at h1
      refine ⟨fun h => ?_, fun h => absurd ha (h.2 a (.inl rfl))⟩
      split at h2 <;> omega
    · rw [if_neg ha] at h1 k1
      by_cases hb : b ∈ keysOf (upd L a b)
      · rw [if_pos hb] at h2
        refine ⟨fun h => by omega, fun h => ?_⟩
        rw [k1, List.mem_append, List.mem_singleton] at hb
        rcases hb with hb | hb
        · exact absurd hb (h.2 b (.inr (.inl rfl)))
        · exact absurd hb.symm (fun e => h.1.1 (.inl e))
      · rw [if_neg hb] at h2 k2
        rw [k1, List.mem_append, List.mem_singleton] at hb
        have e : (jn (upd (upd L a b) b a) t).length = L.length + 2 * (t.length + 1) ↔ (jn (upd (upd L a b) b a) t).length = (upd (upd L a b) b a).length + 2 * t.length := by omega
        rw [e, ih, k2, k1]
        simp only [List.mem_append, List.mem_singleton]
        constructor
        · rintro ⟨n1, n2⟩
          refine ⟨⟨fun hh => ?_, fun hh => n2 b hh (.inr rfl), n1⟩, fun x hx => ?_⟩
          · rcases hh with hh | hh
            · exact hb (.inr hh.symm)
            · exact n2 a hh (.inl (.inr rfl))
          · rcases hx with rfl | rfl | hx
            · exact ha
            · exact fun h => hb (.inl h)
            · exact fun h => n2 x hx (.inl (.inl h))
        · rintro ⟨⟨n1, n2, n3⟩, n4⟩
          refine ⟨n3, fun x hx hh => ?_⟩
          rcases hh with (hh | hh) | hh
          · exact n4 x (.inr (.inr hx)) hh
          · subst hh; exact n1 (.inr hx)
          · subst hh; exact n2 hx
theorem jn_nodup (t : List (α × α)) : (jn [] t).length = 2 * t.length ↔ (ports2 t).Nodup := by
  have h := jn_len t []
  simp only [List.length_nil, Nat.zero_add] at h
  rw [h]
  simp [keysOf]
/-- The other end of a port's link: the first that has it. -/
def nxt : List (α × α) → α → Option α
  | [], _ => none
  | (a, b) :: t, p => if a = p then some b else if b = p then some a else nxt t p
theorem nxt_none (p : α) : ∀ t : List (α × α), nxt t p = none ↔ ¬ p ∈ ports2 t
  | [] => by simp [nxt, ports2]
  | (a, b) :: t => by
    have ih := nxt_none p t
    unfold nxt
    simp only [ports2, List.mem_cons]
    by_cases h1 : a = p
    · simp [h1]
    · by_cases h2 : b = p
      · simp [h1, h2]
      · simp [h1, h2, ih, Ne.symm h1, Ne.symm h2, eq_comm]
theorem look_jn (p : α) : ∀ (t : List (α × α)) (L : List (α × α)), (ports2 t).Nodup → look (jn L t) p = (nxt t p).or (look L p)
  | [], L, _ => by simp [jn, nxt]
  | (a, b) :: t, L, h => by
    simp only [ports2, List.nodup_cons, List.mem_cons] at h
    have ih := look_jn p t (upd (upd L a b) b a) h.2.2
    have hn := nxt_none p t
    simp only [jn, nxt]
    rw [ih, look_upd, look_upd]
    by_cases h1 : a = p
    · subst h1
      have h0 : nxt t a = none := hn.2 (fun e => h.1 (.inr e))
      have h3 : ¬ a = b := fun e => h.1 (.inl e)
      simp [h0, h3]
    · by_cases h2 : b = p
      · subst h2
        have h0 : nxt t b = none := hn.2 h.2.1
        simp [h0, h1]
      · simp [h1, h2, Ne.symm h1, Ne.symm h2, eq_comm]
theorem look_jn0 (p : α) (t : List (α × α)) (h : (ports2 t).Nodup) : look (jn [] t) p = nxt t p := by
  rw [look_jn p t [] h]; simp [look]
theorem nxt_mem {p q : α} : ∀ {t : List (α × α)}, nxt t p = some q → p ∈ ports2 t ∧ q ∈ ports2 t
  | (a, b) :: t, h => by
    unfold nxt at h
    simp only [ports2, List.mem_cons]
    by_cases h1 : a = p
    · simp [h1] at h; subst h1 h; simp
    · by_cases h2 : b = p
      · simp [h1, h2] at h; subst h2 h; simp
      · simp [h1, h2] at h
        have := nxt_mem h
        exact ⟨.inr (.inr this.1), .inr (.inr this.2)⟩
theorem nxt_back {p q : α} : ∀ {t : List (α × α)}, (ports2 t).Nodup → nxt t p = some q → nxt t q = some p ∧ q ≠ p
  | (a, b) :: t, hd, h => by
    simp only [ports2, List.nodup_cons, List.mem_cons] at hd
    have hab : ¬ a = b := fun e => hd.1 (.inl e)
    unfold nxt at h ⊢
    by_cases h1 : a = p
    · simp [h1] at h; subst h1 h
      exact ⟨by simp [hab], fun e => hab e.symm⟩
    · by_cases h2 : b = p
      · simp [h1, h2] at h; subst h2 h
        exact ⟨by simp, hab⟩
      · simp [h1, h2] at h
        have hm := nxt_mem h
        have ih := nxt_back hd.2.2 h
        have h3 : ¬ a = q := fun e => hd.1 (.inr (by rw [e]; exact hm.2))
        have h4 : ¬ b = q := fun e => hd.2.1 (by rw [e]; exact hm.2)
        exact ⟨by simp [h3, h4, ih.1], ih.2⟩
theorem ports2_length : ∀ t : List (α × α), (ports2 t).length = 2 * t.length
  | [] => rfl
  | (a, b) :: t => by simp [ports2, ports2_length t]; omega
/-- Of a list without doubles as many are joined as there are ports of links. -/
theorem count_joined (all : List α) (t : List (α × α)) (hd : all.Nodup) (hp : (ports2 t).Nodup) (hs : ∀ x, x ∈ ports2 t → x ∈ all) :
    (all.filter fun p => (nxt t p).isNone).length + 2 * t.length = all.length := by
  have h1 : (all.filter fun p => (nxt t p).isNone).length + (all.filter fun p => !(nxt t p).isNone).length = all.length := by
    induction all with
    | nil => rfl
    | cons a l ih => 
      clear hd hs ih
      rw [← List.countP_eq_length_filter, ← List.countP_eq_length_filter]
      have := List.length_eq_countP_add_countP (fun p => (nxt t p).isNone) (l := a :: l)
      rw [this]
      congr 1
      exact List.countP_congr fun x _ => by cases nxt t x <;> simp
  have h2 : (all.filter fun p => !(nxt t p).isNone).Perm (ports2 t) := by
    rw [List.perm_ext_iff_of_nodup (hd.filter _) hp]
    intro x
    rw [List.mem_filter]
    have hn := nxt_none x t
    constructor
    · rintro ⟨_, h⟩
      apply Classical.byContradiction
      intro hx
      rw [hn.2 hx] at h
      simp at h
    · intro hx
      refine ⟨hs x hx, ?_⟩
      cases hq : nxt t x with
      | none => exact absurd hx (hn.1 hq)
      | some _ => rfl
  have h3 := h2.length_eq
  rw [ports2_length] at h3
  omega
end
end Go.Proofs.Ytglfpobapkkgdaa.H
