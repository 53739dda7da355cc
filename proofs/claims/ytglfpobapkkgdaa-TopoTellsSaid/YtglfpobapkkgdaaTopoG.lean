/- Plain laws of devices that are joined: a walk in depth, and rounds. -/
import Derived.WalkKit
namespace Go.Proofs.Ytglfpobapkkgdaa.H
set_option linter.unusedVariables false
set_option linter.unusedSimpArgs false
def Adj (ls : List (Int × Int)) (i j : Int) : Prop := (i, j) ∈ ls ∨ (j, i) ∈ ls
theorem Adj.symm {ls : List (Int × Int)} {i j : Int} (h : Adj ls i j) : Adj ls j i := Or.symm h
/-- From a device one comes to another one, of n devices. -/
inductive Conn (ls : List (Int × Int)) (n : Nat) (i : Int) : Int → Prop
  | self : 0 ≤ i → i < n → Conn ls n i i
  | step {j k : Int} : Conn ls n i j → Adj ls j k → 0 ≤ k → k < n → Conn ls n i k
theorem Conn.range {ls : List (Int × Int)} {n : Nat} {i j : Int} (h : Conn ls n i j) : 0 ≤ i ∧ i < n ∧ 0 ≤ j ∧ j < n := by
  induction h with
  | self h1 h2 => exact ⟨h1, h2, h1, h2⟩
  | step _ _ h1 h2 ih => exact ⟨ih.1, ih.2.1, h1, h2⟩
theorem Conn.trans {ls : List (Int × Int)} {n : Nat} {i j k : Int} (h : Conn ls n i j) (g : Conn ls n j k) : Conn ls n i k := by
  induction g with
  | self _ _ => exact h
  | step _ ha h1 h2 ih => exact .step ih ha h1 h2
theorem Conn.symm {ls : List (Int × Int)} {n : Nat} {i j : Int} (h : Conn ls n i j) : Conn ls n j i := by
  induction h with
  | self h1 h2 => exact .self h1 h2
  | step hc ha h1 h2 ih => exact (Conn.step (.self h1 h2) ha.symm hc.range.2.2.1 hc.range.2.2.2).trans ih
def On (s : List Bool) (i : Int) : Prop := 0 ≤ i ∧ s.getD i.toNat false = true
theorem On.lt {s : List Bool} {i : Int} (h : On s i) : i < s.length := by
  have h2 := h.2
  apply Classical.byContradiction
  intro hn
  rw [List.getD_eq_getElem?_getD, List.getElem?_eq_none (by have := h.1; omega)] at h2
  simp at h2
theorem on_set (s : List Bool) (i j : Int) (hi : 0 ≤ i) (hl : i < s.length) : On (s.set i.toNat true) j ↔ (j = i ∨ On s j) := by
  unfold On
  by_cases h : j = i
  · subst h
    simp [hi, List.getD_eq_getElem?_getD, show j.toNat < s.length by omega]
  · constructor
    · rintro ⟨h1, h2⟩
      refine .inr ⟨h1, ?_⟩
      rwa [List.getD_eq_getElem?_getD, List.getElem?_set_ne (by omega), ← List.getD_eq_getElem?_getD] at h2
    · rintro (h1 | ⟨h1, h2⟩)
      · exact absurd h1 h
      · refine ⟨h1, ?_⟩
        rwa [List.getD_eq_getElem?_getD, List.getElem?_set_ne (by omega), ← List.getD_eq_getElem?_getD]
theorem on_none (n : Nat) (j : Int) : ¬ On (List.replicate n false) j := by
  rintro ⟨h1, h2⟩
  rw [List.getD_eq_getElem?_getD, List.getElem?_replicate] at h2
  split at h2 <;> simp at h2
/-- How many were not seen. -/
def off (s : List Bool) : Nat := s.countP (!·)
theorem off_le : ∀ (s t : List Bool), s.length = t.length → (∀ j, On s j → On t j) → off t ≤ off s
  | [], [], _, _ => Nat.le_refl _
  | a :: s, b :: t, hl, h => by
    have ih := off_le s t (by simpa using hl) (fun j hj => by
      have := h (j + 1) ⟨by have := hj.1; omega, by have h2 := hj.2; rw [show (j + 1).toNat = j.toNat + 1 by have := hj.1; omega]; simpa using h2⟩
      refine ⟨hj.1, ?_⟩
      have h3 := this.2
      rw [show (j + 1).toNat = j.toNat + 1 by have := hj.1; omega] at h3
      simpa using h3)
    unfold off at ih ⊢
    rw [List.countP_cons, List.countP_cons]
    cases a with
    | false => cases b <;> simp <;> omega
    | true =>
      have := (h 0 ⟨by omega, by simp⟩).2
      simp at this
      subst this
      simpa using ih
theorem off_set : ∀ (s : List Bool) (i : Nat), i < s.length → s.getD i false = false → off (s.set i true) + 1 = off s
  | a :: s, 0, _, h => by
    simp at h; subst h
    simp [off, List.countP_cons]
  | a :: s, i + 1, hl, h => by
    have ih := off_set s i (by simpa using hl) (by simpa using h)
    unfold off at ih ⊢
    rw [List.set_cons_succ, List.countP_cons, List.countP_cons]
    omega
theorem off_pos_lt (s t : List Bool) (hl : s.length = t.length) (h : ∀ j, On s j → On t j) (j : Int) (h1 : On t j) (h2 : ¬ On s j) : off t < off s := by
  have hj := h1.lt
  have h0 := h1.1
  have e : s.getD j.toNat false = false := by
    cases hs : s.getD j.toNat false with
    | false => rfl
    | true => exact absurd ⟨h0, hs⟩ h2
  have k := off_set s j.toNat (by omega) e
  have k2 := off_le (s.set j.toNat true) t (by simpa using hl) (fun x hx => by
    rcases (on_set s j x h0 (by omega)).1 hx with rfl | hx
    · exact h1
    · exact h x hx)
  omega
/-- What a walk from a device on makes of those that were seen. -/
structure Walked (ls : List (Int × Int)) (n : Nat) (i : Int) (s t : List Bool) : Prop where
  len : t.length = s.length
  le : ∀ j, On s j → On t j
  from_ : ∀ j, On t j → On s j ∨ Conn ls n i j
  closed : ∀ j k, On t j → Adj ls j k → 0 ≤ k → k < n → On s j ∨ On t k
theorem Walked.refl (ls : List (Int × Int)) (n : Nat) (i : Int) (s : List Bool) : Walked ls n i s s := ⟨rfl, fun _ h => h, fun _ h => .inl h, fun _ _ h _ _ _ => .inl h⟩
theorem Walked.trans {ls : List (Int × Int)} {n : Nat} {i i' : Int} {s t u : List Bool} (h : Walked ls n i s t) (g : Walked ls n i' t u) (hc : Conn ls n i i' ∨ ∀ j, ¬ Conn ls n i' j) : Walked ls n i s u :=
  ⟨g.len.trans h.len, fun j hj => g.le j (h.le j hj), fun j hj => by
    rcases g.from_ j hj with h1 | h1
    · exact h.from_ j h1
    · rcases hc with hc | hc
      · exact .inr (hc.trans h1)
      · exact absurd h1 (hc j), fun j k hj ha h0 hn => by
    rcases g.closed j k hj ha h0 hn with h1 | h1
    · rcases h.closed j k h1 ha h0 hn with h2 | h2
      · exact .inl h2
      · exact .inr (g.le k h2)
    · exact .inr h1⟩
/-- The end: a device that was not seen, and all its neighbours. -/
theorem Walked.close {ls : List (Int × Int)} {n : Nat} {i : Int} {s t : List Bool} (h0 : 0 ≤ i) (hn : i < n) (hs : s.length = n) (h : Walked ls n i (s.set i.toNat true) t) (ha : ∀ k, Adj ls i k → 0 ≤ k → k < n → On t k) :
    Walked ls n i s t ∧ On t i := by
  have hl : i < s.length := by omega
  refine ⟨⟨by simpa using h.len, fun j hj => h.le j ((on_set s i j h0 hl).2 (.inr hj)), fun j hj => ?_, fun j k hj hj2 hk0 hkn => ?_⟩, h.le i ((on_set s i i h0 hl).2 (.inl rfl))⟩
  · rcases h.from_ j hj with h1 | h1
    · rcases (on_set s i j h0 hl).1 h1 with rfl | h2
      · exact .inr (.self h0 hn)
      · exact .inl h2
    · exact .inr h1
  · rcases h.closed j k hj hj2 hk0 hkn with h1 | h1
    · rcases (on_set s i j h0 hl).1 h1 with rfl | h2
      · exact .inr (ha k hj2 hk0 hkn)
      · exact .inl h2
    · exact .inr h1
theorem Walked.all {ls : List (Int × Int)} {n : Nat} {i : Int} {t : List Bool} (h : Walked ls n i (List.replicate n false) t) (hi : On t i) (j : Int) : On t j ↔ Conn ls n i j := by
  constructor
  · intro hj
    rcases h.from_ j hj with h1 | h1
    · exact absurd h1 (on_none _ _)
    · exact h1
  · intro hc
    induction hc with
    | self _ _ => exact hi
    | step _ ha h0 hn ih =>
      rcases h.closed _ _ ih ha h0 hn with h1 | h1
      · exact absurd h1 (on_none _ _)
      · exact h1

/-! ### rounds -/
/-- One link in a round. -/
def rlink (s : List Bool) (l : Int × Int) : List Bool :=
  (s.set l.1.toNat (s.getD l.1.toNat false || s.getD l.2.toNat false)).set l.2.toNat (s.getD l.1.toNat false || s.getD l.2.toNat false)
def rround (ls : List (Int × Int)) (s : List Bool) : List Bool := ls.foldl rlink s
def rrounds (ls : List (Int × Int)) : Nat → List Bool → List Bool
  | 0, s => s
  | r + 1, s => rrounds ls r (rround ls s)
theorem rlink_len (s : List Bool) (l : Int × Int) : (rlink s l).length = s.length := by simp [rlink]
theorem rround_len : ∀ (ls : List (Int × Int)) (s : List Bool), (rround ls s).length = s.length
  | [], s => rfl
  | l :: ls, s => by unfold rround; rw [List.foldl_cons]; exact (rround_len ls _).trans (rlink_len s l)
theorem on_rlink (s : List Bool) (x y : Int) (hx : 0 ≤ x) (hxl : x < s.length) (hy : 0 ≤ y) (hyl : y < s.length) (j : Int) :
    On (rlink s (x, y)) j ↔ (On s j ∨ ((j = x ∨ j = y) ∧ (On s x ∨ On s y))) := by
  unfold On rlink
  simp only []
  by_cases hj0 : 0 ≤ j
  · simp only [hj0, hx, hy, true_and]
    have e1 : ∀ (a b : Int), 0 ≤ a → 0 ≤ b → (a.toNat = b.toNat ↔ a = b) := by intro a b _ _; omega
    by_cases h1 : j = y
    · subst h1
      rw [List.getD_eq_getElem?_getD, List.getElem?_set_self (by simp; omega)]
      simp
      exact fun h => .inr h
    · rw [List.getD_eq_getElem?_getD, List.getElem?_set_ne (by omega)]
      by_cases h2 : j = x
      · subst h2
        rw [List.getElem?_set_self (by omega)]
        simp
      · rw [List.getElem?_set_ne (by omega), ← List.getD_eq_getElem?_getD]
        simp [h1, h2]
  · simp [hj0]
    rintro (rfl | rfl) <;> omega
structure Ranged (ls : List (Int × Int)) (n : Nat) : Prop where
  all : ∀ l, l ∈ ls → 0 ≤ l.1 ∧ l.1 < n ∧ 0 ≤ l.2 ∧ l.2 < n
theorem rround_le : ∀ (ls : List (Int × Int)) (n : Nat) (s : List Bool), Ranged ls n → s.length = n → ∀ j, On s j → On (rround ls s) j
  | [], _, s, _, _, j, h => h
  | l :: ls, n, s, hr, hs, j, h => by
    have h1 := hr.all l (by simp)
    show On (rround ls (rlink s l)) j
    exact rround_le ls n _ ⟨fun x hx => hr.all x (by simp [hx])⟩ (by rw [rlink_len]; exact hs) j ((on_rlink s l.1 l.2 h1.1 (by omega) h1.2.2.1 (by omega) j).2 (.inl h))
theorem rround_from (all : List (Int × Int)) (n : Nat) (a : Int) : ∀ (ls : List (Int × Int)) (s : List Bool), (∀ l, l ∈ ls → l ∈ all) → Ranged ls n → s.length = n → (∀ j, On s j → Conn all n a j) → ∀ j, On (rround ls s) j → Conn all n a j
  | [], s, _, _, _, h, j, hj => h j hj
  | l :: ls, s, hm, hr, hs, h, j, hj => by
    have h1 := hr.all l (by simp)
    refine rround_from all n a ls (rlink s l) (fun x hx => hm x (by simp [hx])) ⟨fun x hx => hr.all x (by simp [hx])⟩ (by rw [rlink_len]; exact hs) (fun k hk => ?_) j hj
    rcases (on_rlink s l.1 l.2 h1.1 (by omega) h1.2.2.1 (by omega) k).1 hk with h2 | ⟨h2, h3⟩
    · exact h k h2
    · have hl : (l.1, l.2) ∈ all := hm l (by simp)
      rcases h3 with h3 | h3 <;> rcases h2 with rfl | rfl
      · exact h _ h3
      · exact .step (h _ h3) (.inl hl) h1.2.2.1 h1.2.2.2
      · exact .step (h _ h3) (.inr hl) h1.1 h1.2.1
      · exact h _ h3
/-- Behind a round the neighbours of those that were on are on. -/
theorem rround_adj : ∀ (ls : List (Int × Int)) (n : Nat) (s : List Bool), Ranged ls n → s.length = n → ∀ j k, On s j → Adj ls j k → On (rround ls s) k
  | [], _, s, _, _, j, k, h, ha => by rcases ha with h | h <;> simp at h
  | l :: ls, n, s, hr, hs, j, k, h, ha => by
    have h1 := hr.all l (by simp)
    have hr' : Ranged ls n := ⟨fun x hx => hr.all x (by simp [hx])⟩
    have hl' : (rlink s l).length = n := by rw [rlink_len]; exact hs
    have on1 := fun x => on_rlink s l.1 l.2 h1.1 (by omega) h1.2.2.1 (by omega) x
    show On (rround ls (rlink s l)) k
    have hj1 : On (rlink s l) j := (on1 j).2 (.inl h)
    by_cases h2 : Adj ls j k
    · exact rround_adj ls n _ hr' hl' j k hj1 h2
    · refine rround_le ls n _ hr' hl' k ((on1 k).2 ?_)
      rcases ha with ha | ha <;> rw [List.mem_cons] at ha <;> rcases ha with ha | ha
      · subst ha; exact .inr ⟨.inr rfl, .inl h⟩
      · exact absurd (.inl ha) h2
      · subst ha; exact .inr ⟨.inl rfl, .inr h⟩
      · exact absurd (.inr ha) h2
def Closed (ls : List (Int × Int)) (s : List Bool) : Prop := ∀ j k, On s j → Adj ls j k → On s k
theorem rround_closed (n : Nat) : ∀ (ls : List (Int × Int)) (s : List Bool), Ranged ls n → s.length = n → Closed ls s → ∀ j, On (rround ls s) j ↔ On s j
  | [], s, _, _, _, j => Iff.rfl
  | l :: ls, s, hr, hs, hc, j => by
    have h1 := hr.all l (by simp)
    have hr' : Ranged ls n := ⟨fun x hx => hr.all x (by simp [hx])⟩
    have hl' : (rlink s l).length = n := by rw [rlink_len]; exact hs
    have on1 : ∀ x, On (rlink s l) x ↔ On s x := fun x => by
      rw [show rlink s l = rlink s (l.1, l.2) from rfl, on_rlink s l.1 l.2 h1.1 (by omega) h1.2.2.1 (by omega) x]
      constructor
      · rintro (h | ⟨h2, h3⟩)
        · exact h
        · have hm : (l.1, l.2) ∈ l :: ls := by simp
          rcases h3 with h3 | h3 <;> rcases h2 with rfl | rfl
          · exact h3
          · exact hc _ _ h3 (.inl hm)
          · exact hc _ _ h3 (.inr hm)
          · exact h3
      · exact .inl
    show On (rround ls (rlink s l)) j ↔ _
    rw [rround_closed n ls _ hr' hl' (fun x y hx ha => (on1 y).2 (hc x y ((on1 x).1 hx) (by rcases ha with ha | ha; exact .inl (by simp [ha]); exact .inr (by simp [ha])))) j, on1]
theorem rrounds_all (ls : List (Int × Int)) (n : Nat) (a : Int) (hr : Ranged ls n) : ∀ (r : Nat) (s : List Bool), s.length = n → On s a → (∀ j, On s j → Conn ls n a j) → (Closed ls s ∨ off s < r + 1) →
    ∀ j, On (rrounds ls r s) j ↔ Conn ls n a j
  | 0, s, hs, ha, hf, hc, j => by
    have hc' : Closed ls s := by
      rcases hc with hc | hc
      · exact hc
      · intro j k hj hadj
        have hk : 0 ≤ k ∧ k < n := by rcases hadj with h | h <;> have := hr.all _ h <;> simp at this <;> omega
        refine ⟨hk.1, ?_⟩
        have h0 : off s = 0 := by omega
        unfold off at h0
        rw [List.countP_eq_zero] at h0
        have hm : s[k.toNat]'(by omega) ∈ s := List.getElem_mem _
        have := h0 _ hm
        rw [List.getD_eq_getElem?_getD, List.getElem?_eq_getElem (by omega)]
        simpa using this
    refine ⟨hf j, fun h => ?_⟩
    induction h with
    | self _ _ => exact ha
    | step _ hadj _ _ ih => exact hc' _ _ ih hadj
  | r + 1, s, hs, ha, hf, hc, j => by
    have hl : (rround ls s).length = n := by rw [rround_len]; exact hs
    refine rrounds_all ls n a hr r (rround ls s) hl (rround_le ls n s hr hs a ha) (rround_from ls n a ls s (fun _ h => h) hr hs hf) ?_ j
    by_cases hcl : Closed ls s
    · left
      intro x y hx hadj
      have e := rround_closed n ls s hr hs hcl
      exact (e y).2 (hcl x y ((e x).1 hx) hadj)
    · right
      rcases hc with hc | hc
      · exact absurd hc hcl
      · unfold Closed at hcl
        simp only [Classical.not_forall] at hcl
        obtain ⟨x, y, hx, hadj, hy⟩ := hcl
        have := off_pos_lt s (rround ls s) (by rw [hl, hs]) (rround_le ls n s hr hs) y (rround_adj ls n s hr hs x y hx hadj) hy
        omega
theorem rrounds_conn (ls : List (Int × Int)) (n : Nat) (a : Int) (h0 : 0 ≤ a) (hn : a < n) (hr : Ranged ls n) (j : Int) :
    On (rrounds ls n ((List.replicate n false).set a.toNat true)) j ↔ Conn ls n a j := by
  have hl : a < (List.replicate n false).length := by simpa using hn
  refine rrounds_all ls n a hr n _ (by simp) ((on_set _ a a h0 hl).2 (.inl rfl)) (fun k hk => ?_) (.inr ?_) j
  · rcases (on_set _ a k h0 hl).1 hk with rfl | hk
    · exact .self h0 hn
    · exact absurd hk (on_none _ _)
  · have : off ((List.replicate n false).set a.toNat true) ≤ ((List.replicate n false).set a.toNat true).length := List.countP_le_length
    simp at this
    omega
end Go.Proofs.Ytglfpobapkkgdaa.H
