/- Laws of sets, in plain words. -/
import Derived.Test.YtdhkhbejedndoaaDoorBitD
namespace Go.Proofs.YtdhkhbejedndoaaDoor.H
open Go.RowKit Go.Proofs.YtdhkhbejedndoaaDoor.P Go.Proofs.YtdhkhbejedndoaaDoorW.PrintWords Go.Proofs.YtdhkhbejedndoaaDoorW.PrintLast Go.Proofs.YtdhkhbejedndoaaDoorW.PrintMore
set_option linter.unusedVariables false
theorem bool_ext (m n : List Bool) (hl : m.length = n.length) (h : ∀ p, p < m.length → m.getD p false = n.getD p false) : m = n := by
  apply List.ext_getElem hl
  intro p h1 h2
  have := h p h1
  rw [List.getD_eq_getElem?_getD, List.getD_eq_getElem?_getD, List.getElem?_eq_getElem h1, List.getElem?_eq_getElem h2] at this
  exact this
theorem setR_at (d : Nat) : ∀ (m : List Bool) (i p : Nat), i + d ≤ m.length → (setR m i d).getD p false = (m.getD p false || (decide (i ≤ p) && decide (p < i + d))) := by
  induction d with
  | zero =>
    intro m i p h
    rw [setR]
    by_cases c : i ≤ p
    · rw [decide_eq_false (show ¬ p < i + 0 by omega), Bool.and_false, Bool.or_false]
    · rw [decide_eq_false c, Bool.false_and, Bool.or_false]
  | succ d ih =>
    intro m i p h
    rw [setR, ih _ _ _ (by rw [List.length_set]; omega), getD_set m i p (by omega)]
    by_cases c1 : p = i
    · subst c1
      rw [decide_eq_true rfl, decide_eq_true (Nat.le_refl _), decide_eq_true (show p < p + (d + 1) by omega)]
      simp
    · rw [decide_eq_false c1, Bool.or_false]
      congr 2
      · exact decide_eq_decide.2 (by omega)
      · exact decide_eq_decide.2 (by omega)
theorem allM_at (n p : Nat) (h : p < n) : (allM n).getD p false = true := by
  unfold allM
  rw [setR_at _ _ _ _ (by rw [List.length_replicate]; omega), decide_eq_true (Nat.zero_le _), decide_eq_true (show p < 0 + n by omega)]
  simp
theorem both_at (f : Bool → Bool → Bool) (m1 m2 : List Bool) (p : Nat) (h : p < m1.length) : (bothM f m1 m2).getD p false = f (m1.getD p false) (m2.getD p false) := by
  unfold bothM
  rw [List.getD_eq_getElem?_getD, List.getElem?_map, List.getElem?_range h]
  rfl
theorem notM_at (m : List Bool) (p : Nat) (h : p < m.length) : (notM m).getD p false = !m.getD p false := by
  unfold notM
  rw [both_at _ _ _ _ (by rw [allM_len]; exact h), allM_at _ _ h]
  rfl
theorem law_one (m n : List Bool) (h : n.length = m.length) : bothM (· || ·) (bothM (fun a b => a && !b) m n) (bothM (· && ·) m n) = m := by
  apply bool_ext
  · rw [bothM_len, bothM_len]
  · intro p hp
    rw [bothM_len, bothM_len] at hp
    rw [both_at _ _ _ _ (by rw [bothM_len]; exact hp), both_at _ _ _ _ hp, both_at _ _ _ _ hp]
    cases m.getD p false <;> cases n.getD p false <;> rfl
theorem law_two (m n : List Bool) (h : n.length = m.length) : bothM (· && ·) (notM m) (notM n) = notM (bothM (· || ·) m n) := by
  apply bool_ext
  · rw [bothM_len, notM_len, notM_len, bothM_len]
  · intro p hp
    rw [bothM_len, notM_len] at hp
    rw [both_at _ _ _ _ (by rw [notM_len]; exact hp), notM_at _ _ hp, notM_at _ _ (by rw [h]; exact hp), notM_at _ _ (by rw [bothM_len]; exact hp), both_at _ _ _ _ hp]
    cases m.getD p false <;> cases n.getD p false <;> rfl
theorem law_three (m : List Bool) : notM (notM m) = m := by
  apply bool_ext
  · rw [notM_len, notM_len]
  · intro p hp
    rw [notM_len, notM_len] at hp
    rw [notM_at _ _ (by rw [notM_len]; exact hp), notM_at _ _ hp, Bool.not_not]
theorem cntF_ext {f g : Nat → Bool} : ∀ n, (∀ i, i < n → f i = g i) → cntF f n = cntF g n
  | 0, _ => rfl
  | n + 1, h => by rw [cntF, cntF, cntF_ext n (fun i hi => h i (by omega)), h n (by omega)]
theorem cntF_both (f g : Nat → Bool) : ∀ n, cntF (fun i => f i && g i) n + cntF (fun i => f i || g i) n = cntF f n + cntF g n
  | 0 => rfl
  | n + 1 => by
    have := cntF_both f g n
    simp only [cntF]
    rcases Bool.eq_false_or_eq_true (f n) with h1 | h1 <;> rcases Bool.eq_false_or_eq_true (g n) with h2 | h2 <;> simp [h1, h2] <;> omega
theorem law_four (m n : List Bool) (h : n.length = m.length) : cntM (bothM (· && ·) m n) + cntM (bothM (· || ·) m n) = cntM m + cntM n := by
  unfold cntM
  rw [bothM_len, bothM_len, h, ← cntF_both (fun p => m.getD p false) (fun p => n.getD p false)]
  rw [cntF_ext m.length (f := fun p => (bothM (· && ·) m n).getD p false) (g := fun i => m.getD i false && n.getD i false) (fun i hi => both_at _ _ _ _ hi),
    cntF_ext m.length (f := fun p => (bothM (· || ·) m n).getD p false) (g := fun i => m.getD i false || n.getD i false) (fun i hi => both_at _ _ _ _ hi)]
theorem cntF_not (f : Nat → Bool) : ∀ n, cntF f n + cntF (fun i => !f i) n = n
  | 0 => rfl
  | n + 1 => by
    have := cntF_not f n
    simp only [cntF]
    rcases Bool.eq_false_or_eq_true (f n) with h1 | h1 <;> simp [h1] <;> omega
theorem law_five (m : List Bool) : cntM m + cntM (notM m) = m.length := by
  unfold cntM
  rw [notM_len, cntF_ext m.length (f := fun p => (notM m).getD p false) (g := fun p => !m.getD p false) (fun i hi => notM_at m i hi)]
  exact cntF_not _ _
theorem bothF_one : bothF 1 = (· && ·) := by funext a b; rfl
theorem bothF_two : bothF 2 = (· || ·) := by funext a b; rfl
theorem bothF_three : bothF 3 = (fun a b => a && !b) := by funext a b; rfl
theorem with_all (m : List Bool) : withM m 0 (m.length : Nat) = some (setR m 0 m.length) := by
  rw [withM, if_pos (by omega), show ((m.length : Nat) : Int) - 0 = (m.length : Nat) by omega, Int.toNat_natCast]
  rfl
theorem not_all (m : List Bool) : bothM (fun a b => a && !b) (setR m 0 m.length) m = notM m := by
  apply bool_ext
  · rw [bothM_len, setR_len, notM_len]
  · intro p hp
    rw [bothM_len, setR_len] at hp
    rw [both_at _ _ _ _ (by rw [setR_len]; exact hp), notM_at _ _ hp, setR_at _ _ _ _ (by omega), decide_eq_true (Nat.zero_le _), decide_eq_true (show p < 0 + m.length by omega)]
    simp
end Go.Proofs.YtdhkhbejedndoaaDoor.H
