/- EdtQ, EdtR, EdtS, EdtT, EdtU, EdtW, EdaJ, EdaH, EdaD, Ex1. -/
import Derived.Test.YtckjhdlpbfcaiaaAEdtP
import Derived.Test.YtckjhdlpbfcaiaaAEdaC
/-! ### EdtQ -/
namespace Go.Proofs.Ytckjhdlpbfcaiaa.H
open Go.RowKit Go.Proofs.Ytckjhdlpbfcaiaa.P Go.Proofs.YtckjhdlpbfcaiaaW.PrintWords
set_option linter.unusedVariables false
set_option linter.unusedSimpArgs false
instance : DecidableEq Rle := fun a b => decidable_of_decidable_of_iff (p := a.f0 = b.f0 ∧ a.f1 = b.f1 ∧ a.f2 = b.f2 ∧ a.f3 = b.f3 ∧ a.f4.f0 = b.f4.f0 ∧ a.f4.f1 = b.f4.f1 ∧ a.f5 = b.f5) (by
  obtain ⟨a0, a1, a2, a3, ⟨a4, a5⟩, a6⟩ := a
  obtain ⟨b0, b1, b2, b3, ⟨b4, b5⟩, b6⟩ := b
  constructor
  · rintro ⟨rfl, rfl, rfl, rfl, rfl, rfl, rfl⟩; rfl
  · intro h; cases h; exact ⟨rfl, rfl, rfl, rfl, rfl, rfl, rfl⟩)
def cellK (a b : Option Rle) : Option (Int × Rle) := match a, b with
  | some a, none => some (1, a)
  | none, some b => some (0, b)
  | some a, some b => if a = b then none else some (2, b)
  | none, none => none
def allK (c : Codes) (m : Nat) (right : Rle → Bool) : List Rle → Int → List (Int × Rle) → List Rle × Int × Int
  | l, n, [] => (l, n, 0)
  | l, n, e :: d => if (applyK c m right l e.1 e.2).2 ≠ 0 then ([], n, (applyK c m right l e.1 e.2).2) else allK c m right (applyK c m right l e.1 e.2).1 (n + 1) d
section
variable {c : Codes} {m : Nat} {right : Rle → Bool} {x y : List Rle}
theorem allK_cons (l : List Rle) (n : Int) (e : Int × Rle) (d : List (Int × Rle)) : allK c m right l n (e :: d) = if (applyK c m right l e.1 e.2).2 ≠ 0 then ([], n, (applyK c m right l e.1 e.2).2) else allK c m right (applyK c m right l e.1 e.2).1 (n + 1) d := rfl
end
end Go.Proofs.Ytckjhdlpbfcaiaa.H
/-! ### EdtR -/
namespace Go.Proofs.Ytckjhdlpbfcaiaa.H
open Go.RowKit Go.Proofs.Ytckjhdlpbfcaiaa.P Go.Proofs.YtckjhdlpbfcaiaaW.PrintWords
set_option linter.unusedVariables false
set_option linter.unusedSimpArgs false
def diffS : List Rle → List Rle → List (Int × Rle)
  | [], [] => []
  | x :: l, [] => (1, x) :: diffS l []
  | [], y :: m => (0, y) :: diffS [] m
  | x :: l, y :: m => if x.f0 < y.f0 then (1, x) :: diffS l (y :: m) else if y.f0 < x.f0 then (0, y) :: diffS (x :: l) m else if x = y then diffS l m else (2, y) :: diffS l m
termination_by x y => x.length + y.length
theorem findK_tail {x : Rle} {l : List Rle} (h : Rising (x :: l)) {id : Int} (hi : id ≤ x.f0) : findK l id = none := findK_none.2 (fun r hr => by
  have := (List.pairwise_cons.1 h).1 r hr
  omega)
theorem findK_low {x : Rle} {l : List Rle} (h : Rising (x :: l)) {id : Int} (hi : id < x.f0) : findK (x :: l) id = none := by
  rw [findK_cons, if_neg (by omega)]
  exact findK_tail h (by omega)
theorem cell_id {x y : List Rle} {id : Int} {e : Int × Rle} (h : cellK (findK x id) (findK y id) = some e) : e.2.f0 = id := by
  unfold cellK at h
  split at h
  · rename_i a h1 h2
    injection h with h
    rw [← h]
    exact (findK_id h1).1
  · rename_i b h1 h2
    injection h with h
    rw [← h]
    exact (findK_id h2).1
  · rename_i a b h1 h2
    split at h
    · cases h
    · injection h with h
      rw [← h]
      exact (findK_id h2).1
  · cases h
theorem rising_tail {x : Rle} {l : List Rle} (h : Rising (x :: l)) : Rising l := (List.pairwise_cons.1 h).2
theorem diff_iff : ∀ (x y : List Rle), Rising x → Rising y → ∀ e : Int × Rle, e ∈ diffS x y ↔ cellK (findK x e.2.f0) (findK y e.2.f0) = some e
  | [], [], _, _, e => by
    rw [diffS]
    simp [findK, cellK]
  | x :: l, [], hx, hy, e => by
    rw [diffS, List.mem_cons, diff_iff l [] (rising_tail hx) hy e, findK_cons]
    by_cases q : x.f0 = e.2.f0
    · rw [if_pos q, findK_tail hx (by omega : e.2.f0 ≤ x.f0)]
      simp only [findK, List.find?_nil, cellK, Option.some.injEq]
      constructor
      · rintro (h | h)
        · exact h.symm
        · cases h
      · intro h; exact .inl h.symm
    · rw [if_neg q]
      constructor
      · rintro (h | h)
        · rw [h] at q; exact absurd rfl q
        · exact h
      · exact .inr
  | [], y :: m, hx, hy, e => by
    rw [diffS, List.mem_cons, diff_iff [] m hx (rising_tail hy) e, findK_cons y m]
    by_cases q : y.f0 = e.2.f0
    · rw [if_pos q, findK_tail hy (by omega : e.2.f0 ≤ y.f0)]
      simp only [findK, List.find?_nil, cellK, Option.some.injEq]
      constructor
      · rintro (h | h)
        · exact h.symm
        · cases h
      · intro h; exact .inl h.symm
    · rw [if_neg q]
      constructor
      · rintro (h | h)
        · rw [h] at q; exact absurd rfl q
        · exact h
      · exact .inr
  | x :: l, y :: m, hx, hy, e => by
    rw [diffS]
    by_cases c1 : x.f0 < y.f0
    · rw [if_pos c1, List.mem_cons, diff_iff l (y :: m) (rising_tail hx) hy e, findK_cons x l]
      by_cases q : x.f0 = e.2.f0
      · rw [if_pos q, findK_tail hx (by omega : e.2.f0 ≤ x.f0), findK_low hy (by omega : e.2.f0 < y.f0)]
        simp only [cellK, Option.some.injEq]
        constructor
        · rintro (h | h)
          · exact h.symm
          · cases h
        · intro h; exact .inl h.symm
      · rw [if_neg q]
        constructor
        · rintro (h | h)
          · rw [h] at q; exact absurd rfl q
          · exact h
        · exact .inr
    · rw [if_neg c1]
      by_cases c2 : y.f0 < x.f0
      · rw [if_pos c2, List.mem_cons, diff_iff (x :: l) m hx (rising_tail hy) e, findK_cons y m]
        by_cases q : y.f0 = e.2.f0
        · rw [if_pos q, findK_tail hy (by omega : e.2.f0 ≤ y.f0), findK_low hx (by omega : e.2.f0 < x.f0)]
          simp only [cellK, Option.some.injEq]
          constructor
          · rintro (h | h)
            · exact h.symm
            · cases h
          · intro h; exact .inl h.symm
        · rw [if_neg q]
          constructor
          · rintro (h | h)
            · rw [h] at q; exact absurd rfl q
            · exact h
          · exact .inr
      · rw [if_neg c2]
        have hid : x.f0 = y.f0 := by omega
        have ih := diff_iff l m (rising_tail hx) (rising_tail hy) e
        by_cases c3 : x = y
        · rw [if_pos c3, ih, findK_cons, findK_cons]
          by_cases q : x.f0 = e.2.f0
          · rw [if_pos q, if_pos (by omega), findK_tail hx (by omega : e.2.f0 ≤ x.f0), findK_tail hy (by omega : e.2.f0 ≤ y.f0)]
            simp only [cellK]
            rw [if_pos c3]
          · rw [if_neg q, if_neg (by omega)]
        · rw [if_neg c3, List.mem_cons, ih, findK_cons, findK_cons]
          by_cases q : x.f0 = e.2.f0
          · rw [if_pos q, if_pos (by omega), findK_tail hx (by omega : e.2.f0 ≤ x.f0), findK_tail hy (by omega : e.2.f0 ≤ y.f0)]
            simp only [cellK]
            rw [if_neg c3]
            simp only [Option.some.injEq]
            constructor
            · rintro (h | h)
              · exact h.symm
              · cases h
            · intro h; exact .inl h.symm
          · rw [if_neg q, if_neg (by omega)]
            constructor
            · rintro (h | h)
              · rw [h] at q; exact absurd hid q
              · exact h
            · exact .inr
termination_by x y => x.length + y.length
theorem diff_ids {x y : List Rle} (hx : Rising x) (hy : Rising y) {e : Int × Rle} (h : e ∈ diffS x y) : (∃ r ∈ x, r.f0 = e.2.f0) ∨ ∃ r ∈ y, r.f0 = e.2.f0 := by
  have h := (diff_iff x y hx hy e).1 h
  unfold cellK at h
  split at h
  · rename_i a h1 h2
    exact .inl ⟨a, (findK_id h1).2, (findK_id h1).1⟩
  · rename_i b h1 h2
    exact .inr ⟨b, (findK_id h2).2, (findK_id h2).1⟩
  · rename_i a b h1 h2
    exact .inl ⟨a, (findK_id h1).2, (findK_id h1).1⟩
  · cases h
theorem diff_low {x y : List Rle} (hx : Rising x) (hy : Rising y) {b : Int} (h1 : ∀ r ∈ x, b < r.f0) (h2 : ∀ r ∈ y, b < r.f0) : ∀ e ∈ diffS x y, b < e.2.f0 := by
  intro e he
  rcases diff_ids hx hy he with ⟨r, hr, q⟩ | ⟨r, hr, q⟩
  · have := h1 r hr; omega
  · have := h2 r hr; omega
theorem diff_up : ∀ (x y : List Rle), Rising x → Rising y → (diffS x y).Pairwise (fun a b => a.2.f0 < b.2.f0)
  | [], [], _, _ => by rw [diffS]; exact .nil
  | x :: l, [], hx, hy => by
    rw [diffS]
    exact List.pairwise_cons.2 ⟨diff_low (rising_tail hx) hy (List.pairwise_cons.1 hx).1 (by simp), diff_up l [] (rising_tail hx) hy⟩
  | [], y :: m, hx, hy => by
    rw [diffS]
    exact List.pairwise_cons.2 ⟨diff_low hx (rising_tail hy) (by simp) (List.pairwise_cons.1 hy).1, diff_up [] m hx (rising_tail hy)⟩
  | x :: l, y :: m, hx, hy => by
    rw [diffS]
    have a1 := (List.pairwise_cons.1 hx).1
    have a2 := (List.pairwise_cons.1 hy).1
    by_cases c1 : x.f0 < y.f0
    · rw [if_pos c1]
      refine List.pairwise_cons.2 ⟨diff_low (rising_tail hx) hy a1 (fun r hr => ?_), diff_up l (y :: m) (rising_tail hx) hy⟩
      rcases List.mem_cons.1 hr with rfl | hr
      · exact c1
      · have := a2 r hr; show x.f0 < r.f0; omega
    · rw [if_neg c1]
      by_cases c2 : y.f0 < x.f0
      · rw [if_pos c2]
        refine List.pairwise_cons.2 ⟨diff_low hx (rising_tail hy) (fun r hr => ?_) a2, diff_up (x :: l) m hx (rising_tail hy)⟩
        rcases List.mem_cons.1 hr with rfl | hr
        · exact c2
        · have := a1 r hr; show y.f0 < r.f0; omega
      · rw [if_neg c2]
        have ih := diff_up l m (rising_tail hx) (rising_tail hy)
        by_cases c3 : x = y
        · rw [if_pos c3]; exact ih
        · rw [if_neg c3]
          refine List.pairwise_cons.2 ⟨diff_low (rising_tail hx) (rising_tail hy) (fun r hr => ?_) a2, ih⟩
          have := a1 r hr
          show y.f0 < r.f0
          omega
termination_by x y => x.length + y.length
end Go.Proofs.Ytckjhdlpbfcaiaa.H
/-! ### EdtS -/
namespace Go.Proofs.Ytckjhdlpbfcaiaa.H
open Go.RowKit Go.Proofs.Ytckjhdlpbfcaiaa.P Go.Proofs.YtckjhdlpbfcaiaaW.PrintWords
set_option linter.unusedVariables false
set_option linter.unusedSimpArgs false
theorem up_ext {α : Type} (f : α → Int) : ∀ {l m : List α}, l.Pairwise (fun a b => f a < f b) → m.Pairwise (fun a b => f a < f b) → (∀ x, x ∈ l ↔ x ∈ m) → l = m
  | [], [], _, _, _ => rfl
  | [], y :: m, _, _, h => by
    have := (h y).2 (by simp)
    cases this
  | x :: l, [], _, _, h => by
    have := (h x).1 (by simp)
    cases this
  | x :: l, y :: m, hl, hm, h => by
    have a := List.pairwise_cons.1 hl
    have b := List.pairwise_cons.1 hm
    have hxy : x = y := by
      rcases List.mem_cons.1 ((h x).1 (by simp)) with q | q
      · exact q
      · rcases List.mem_cons.1 ((h y).2 (by simp)) with p | p
        · exact p.symm
        · have := b.1 x q
          have := a.1 y p
          omega
    subst hxy
    rw [up_ext f a.2 b.2 (fun z => by
      constructor
      · intro hz
        rcases List.mem_cons.1 ((h z).1 (List.mem_cons_of_mem _ hz)) with q | q
        · have := a.1 z hz
          rw [q] at this
          omega
        · exact q
      · intro hz
        rcases List.mem_cons.1 ((h z).2 (List.mem_cons_of_mem _ hz)) with q | q
        · have := b.1 z hz
          rw [q] at this
          omega
        · exact q)]
section
variable {c : Codes} {m : Nat} {right : Rle → Bool} {x y : List Rle}
end
end Go.Proofs.Ytckjhdlpbfcaiaa.H
/-! ### EdtT -/
namespace Go.Proofs.Ytckjhdlpbfcaiaa.H
open Go.RowKit Go.Proofs.Ytckjhdlpbfcaiaa.P Go.Proofs.YtckjhdlpbfcaiaaW.PrintWords
set_option linter.unusedVariables false
set_option linter.unusedSimpArgs false
theorem filter_all {α : Type} {p : α → Bool} {l : List α} (h : ∀ x ∈ l, p x = true) : l.filter p = l := List.filter_eq_self.2 h
theorem filter_no {α : Type} {p : α → Bool} {l : List α} (h : ∀ x ∈ l, p x = false) : l.filter p = [] := List.filter_eq_nil_iff.2 (fun x hx => by rw [h x hx]; simp)
theorem put_at {A B : List Rle} {r : Rle} (h1 : ∀ x ∈ A, x.f0 < r.f0) (h2 : ∀ x ∈ B, r.f0 < x.f0) : putK (A ++ B) r = A ++ r :: B := by
  unfold putK
  rw [List.filter_append, List.filter_append, filter_all (fun x hx => by simpa using h1 x hx), filter_no (l := B) (fun x hx => by have := h2 x hx; simp only [decide_eq_false_iff_not]; omega),
    filter_no (l := A) (fun x hx => by have := h1 x hx; simp only [decide_eq_false_iff_not]; omega), filter_all (l := B) (fun x hx => by simpa using h2 x hx)]
  simp
theorem set_at {A B : List Rle} {a r : Rle} (h : Rising (A ++ a :: B)) (e : a.f0 = r.f0) : putK (A ++ a :: B) r = A ++ r :: B := by
  unfold Rising at h
  rw [List.pairwise_append, List.pairwise_cons] at h
  obtain ⟨_, ⟨hb, _⟩, ha⟩ := h
  unfold putK
  rw [List.filter_append, List.filter_append, List.filter_cons, List.filter_cons, if_neg (by simp only [decide_eq_true_eq]; omega), if_neg (by simp only [decide_eq_true_eq]; omega),
    filter_all (l := A) (fun x hx => by have := ha x hx a (by simp); simp only [decide_eq_true_eq]; omega), filter_no (l := B) (fun x hx => by have := hb x hx; simp only [decide_eq_false_iff_not]; omega),
    filter_no (l := A) (fun x hx => by have := ha x hx a (by simp); simp only [decide_eq_false_iff_not]; omega), filter_all (l := B) (fun x hx => by have := hb x hx; simp only [decide_eq_true_eq]; omega)]
  simp
theorem del_at {A B : List Rle} {a : Rle} (h : Rising (A ++ a :: B)) : delK (A ++ a :: B) a.f0 = A ++ B := by
  unfold Rising at h
  rw [List.pairwise_append, List.pairwise_cons] at h
  obtain ⟨_, ⟨hb, _⟩, ha⟩ := h
  unfold delK
  rw [List.filter_append, List.filter_cons, if_neg (by simp), filter_all (l := A) (fun x hx => by have := ha x hx a (by simp); simp; omega), filter_all (l := B) (fun x hx => by have := hb x hx; simp; omega)]
theorem find_at {A B : List Rle} {a : Rle} (h : Rising (A ++ a :: B)) : findK (A ++ a :: B) a.f0 = some a := findK_mem h (by simp)
theorem find_gap {A B : List Rle} {id : Int} (h1 : ∀ x ∈ A, x.f0 < id) (h2 : ∀ x ∈ B, id < x.f0) : findK (A ++ B) id = none := findK_none.2 (fun r hr => by
  rcases List.mem_append.1 hr with h | h
  · have := h1 r h; omega
  · have := h2 r h; omega)
theorem put_doc {l : List Rle} (h : Rising l) (r : Rle) : l.takeWhile (fun x => decide (x.f0 < r.f0)) ++ r :: l.filter (fun x => decide (r.f0 < x.f0)) = putK l r := by
  unfold putK
  congr 1
  induction l with
  | nil => rfl
  | cons x l ih =>
    rw [List.takeWhile_cons, List.filter_cons]
    by_cases c : x.f0 < r.f0
    · rw [if_pos (by simpa using c), if_pos (by simpa using c), ih (List.pairwise_cons.1 h).2]
    · rw [if_neg (by simpa using c), if_neg (by simpa using c), filter_no (fun y hy => by have := (List.pairwise_cons.1 h).1 y hy; simp only [decide_eq_false_iff_not]; omega)]
theorem place (l : List Rle) (h : Rising l) (id : Int) : ∃ A B, l = A ++ B ∧ (∀ x ∈ A, x.f0 < id) ∧ ((∀ x ∈ B, id < x.f0) ∨ ∃ a B', B = a :: B' ∧ a.f0 = id) := by
  induction l with
  | nil => exact ⟨[], [], rfl, by simp, .inl (by simp)⟩
  | cons x l ih =>
    have hp := List.pairwise_cons.1 h
    by_cases c : x.f0 < id
    · obtain ⟨A, B, e, h1, h2⟩ := ih hp.2
      exact ⟨x :: A, B, by rw [e]; rfl, fun y hy => by
        rcases List.mem_cons.1 hy with rfl | hy
        · exact c
        · exact h1 y hy, h2⟩
    · refine ⟨[], x :: l, rfl, by simp, ?_⟩
      by_cases e : x.f0 = id
      · exact .inr ⟨x, l, rfl, e⟩
      · exact .inl (fun y hy => by
          rcases List.mem_cons.1 hy with rfl | hy
          · omega
          · have := hp.1 y hy; omega)
end Go.Proofs.Ytckjhdlpbfcaiaa.H
/-! ### EdtU -/
namespace Go.Proofs.Ytckjhdlpbfcaiaa.H
open Go.RowKit Go.Proofs.Ytckjhdlpbfcaiaa.P Go.Proofs.YtckjhdlpbfcaiaaW.PrintWords
set_option linter.unusedVariables false
set_option linter.unusedSimpArgs false
def idsS (x y : List Rle) : List Int := (y.foldl putK x).map (·.f0)
def docDiff (x y : List Rle) : List (Int × Rle) := (idsS x y).filterMap (fun id => cellK (findK x id) (findK y id))
theorem fold_rising : ∀ (y x : List Rle), Rising x → Rising (y.foldl putK x)
  | [], x, h => h
  | r :: y, x, h => fold_rising y (putK x r) (rising_put h r)
theorem fold_has : ∀ (y x : List Rle) (id : Int), (findK (y.foldl putK x) id).isSome = true ↔ (findK x id).isSome = true ∨ (findK y id).isSome = true
  | [], x, id => by simp [findK]
  | r :: y, x, id => by
    rw [List.foldl_cons, fold_has y (putK x r) id, findK_put, findK_cons]
    by_cases q : r.f0 = id
    · rw [if_pos q, if_pos q]; simp
    · rw [if_neg q, if_neg q]
theorem mem_isSome {l : List Rle} (h : Rising l) {id : Int} : id ∈ l.map (·.f0) ↔ (findK l id).isSome = true := by
  constructor
  · intro hm
    obtain ⟨r, hr, e⟩ := List.mem_map.1 hm
    have hk := findK_mem h hr
    rw [show r.f0 = id from e] at hk
    rw [hk]; rfl
  · intro hs
    cases e : findK l id with
    | none => rw [e] at hs; cases hs
    | some r =>
      obtain ⟨h1, h2⟩ := findK_id e
      exact List.mem_map.2 ⟨r, h2, h1⟩
theorem cell_has {a b : Option Rle} {e : Int × Rle} (h : cellK a b = some e) : a.isSome = true ∨ b.isSome = true := by
  cases a with
  | some _ => exact .inl rfl
  | none =>
    cases b with
    | some _ => exact .inr rfl
    | none => cases h
theorem doc_diff (x y : List Rle) (hx : Rising x) (hy : Rising y) : docDiff x y = diffS x y := by
  refine up_ext (fun e => e.2.f0) ?_ (diff_up x y hx hy) (fun e => ?_)
  · unfold docDiff idsS
    rw [List.pairwise_filterMap, List.pairwise_map]
    refine List.Pairwise.imp ?_ (fold_rising y x hx)
    intro a b hab e he e' he'
    have h1 := cell_id he
    have h2 := cell_id he'
    show e.2.f0 < e'.2.f0
    omega
  · rw [diff_iff x y hx hy e]
    unfold docDiff
    rw [List.mem_filterMap]
    constructor
    · rintro ⟨id, _, h⟩
      have := cell_id h
      rw [this]
      exact h
    · intro h
      refine ⟨e.2.f0, ?_, h⟩
      unfold idsS
      rw [mem_isSome (fold_rising y x hx), fold_has]
      exact cell_has h
end Go.Proofs.Ytckjhdlpbfcaiaa.H
/-! ### EdtW -/
namespace Go.Proofs.Ytckjhdlpbfcaiaa.H
open Go.RowKit Go.Proofs.Ytckjhdlpbfcaiaa.P Go.Proofs.YtckjhdlpbfcaiaaW.PrintWords
set_option linter.unusedVariables false
set_option linter.unusedSimpArgs false
def allP (right : Rle → Bool) : Int → List Rle → Bool
  | _, [] => true
  | last, r :: l => right r && (decide (last < r.f0) && allP right r.f0 l)
def allD (right : Rle → Bool) : Option Int → List Rle → Bool
  | _, [] => true
  | none, r :: l => right r && allD right (some r.f0) l
  | some a, r :: l => right r && (decide (a < r.f0) && allD right (some r.f0) l)
theorem all_some (right : Rle → Bool) : ∀ (l : List Rle) (a : Int), allP right a l = allD right (some a) l
  | [], a => rfl
  | r :: l, a => by rw [allP, allD, all_some right l]
theorem all_same (right : Rle → Bool) (hp : ∀ r, right r = true → 0 < r.f0) : ∀ l : List Rle, allP right 0 l = allD right none l
  | [] => rfl
  | r :: l => by
    rw [allP, allD, all_some right l]
    cases e : right r with
    | false => rfl
    | true =>
      have := hp r e
      rw [decide_eq_true this]
      rfl
theorem all_iff (right : Rle → Bool) : ∀ (l : List Rle) (a : Int), allP right a l = true ↔ (∀ r ∈ l, right r = true ∧ a < r.f0) ∧ Rising l
  | [], a => by simp [allP, Rising]
  | r :: l, a => by
    rw [allP, Bool.and_eq_true, Bool.and_eq_true, decide_eq_true_eq, all_iff right l r.f0]
    unfold Rising
    rw [List.pairwise_cons]
    constructor
    · rintro ⟨h1, h2, h3, h4⟩
      refine ⟨fun x hx => ?_, fun x hx => (h3 x hx).2, h4⟩
      rcases List.mem_cons.1 hx with rfl | hx
      · exact ⟨h1, h2⟩
      · have := h3 x hx
        exact ⟨this.1, by omega⟩
    · rintro ⟨h1, h2, h3⟩
      have := h1 r (by simp)
      exact ⟨this.1, this.2, fun x hx => ⟨(h1 x (List.mem_cons_of_mem _ hx)).1, h2 x hx⟩, h3⟩
theorem all_good {right : Rle → Bool} {l : List Rle} {m : Nat} (h : allP right 0 l = true) (hm : l.length ≤ m) : GoodL m right l :=
  ⟨((all_iff right l 0).1 h).2, fun r hr => (((all_iff right l 0).1 h).1 r hr).1, hm⟩
end Go.Proofs.Ytckjhdlpbfcaiaa.H
/-! ### EdaJ -/
namespace Go.Proofs.Ytckjhdlpbfcaiaa.H
open Go.RowKit Go.Proofs.Ytckjhdlpbfcaiaa.P Go.Proofs.YtckjhdlpbfcaiaaW.PrintWords Go.Proofs.YtckjhdlpbfcaiaaW.PrintLast Go.Proofs.YtckjhdlpbfcaiaaW.PrintMore
set_option linter.unusedVariables false
set_option linter.unusedSimpArgs false
theorem wrap_up {j n : Nat} (h : j < n) (hn : n ≤ 9223372036854775807) : wrap64 ((j : Int) + 1) = ((j + 1 : Nat) : Int) := by unfold wrap64; omega
theorem rd_rule (l : List Rul) (j : Nat) (h : j < l.length) : rd_T35 l (j : Int) = l[j] := by unfold rd_T35; rw [Int.toNat_natCast, List.getD_eq_getElem?_getD, List.getElem?_eq_getElem h]; rfl
theorem okRule_pos (r : Rul) (h : okRule r = true) : 0 < r.f0 := by
  unfold okRule inB at h
  simp only [Bool.and_eq_true, decide_eq_true_iff] at h
  omega
theorem bsGo_at {A B : List Rul} {id : Int} (h1 : ∀ x ∈ A, x.f0 < id) (h2 : ∀ x ∈ B, id ≤ x.f0) : ∀ (k i j : Nat), j - i ≤ k → i ≤ A.length → A.length ≤ j → j ≤ (A ++ B).length → bsGo (A ++ B) id k i j = A.length
  | 0, i, j, hk, hi, hj, _ => by rw [bsGo]; omega
  | k + 1, i, j, hk, hi, hj, hn => by
    rw [bsGo]
    by_cases c : i < j
    · rw [if_pos c]
      obtain ⟨h, hh⟩ : ∃ h, (i + j) / 2 = h := ⟨_, rfl⟩
      rw [hh]
      have hlt : h < (A ++ B).length := by omega
      rw [rd_rule _ _ hlt]
      by_cases q : h < A.length
      · rw [List.getElem_append_left q, if_pos (h1 _ (List.getElem_mem q))]
        exact bsGo_at h1 h2 k _ _ (by omega) (by omega) hj hn
      · rw [List.getElem_append_right (by omega), if_neg (by have := h2 _ (List.getElem_mem (l := B) (n := h - A.length) (by rw [List.length_append] at hlt; omega)); omega)]
        exact bsGo_at h1 h2 k _ _ (by omega) hi (by omega) (by omega)
    · rw [if_neg c]; omega
theorem bs_gap {A B : List Rul} {id : Int} (h1 : ∀ x ∈ A, x.f0 < id) (h2 : ∀ x ∈ B, id < x.f0) : bsI (A ++ B) id = A.length ∧ bsF (A ++ B) id = false := by
  have e : bsI (A ++ B) id = A.length := bsGo_at h1 (fun x hx => by have := h2 x hx; omega) _ _ _ (by omega) (Nat.zero_le _) (by simp) (Nat.le_refl _)
  refine ⟨e, ?_⟩
  unfold bsF
  rw [e]
  cases B with
  | nil => simp
  | cons b B =>
    rw [rd_rule _ _ (by simp), List.getElem_append_right (Nat.le_refl _)]
    have := h2 b (by simp)
    have : (b.f0 == id) = false := by rw [beq_eq_false_iff_ne]; omega
    simp [this]
theorem bs_at {A B : List Rul} {a : Rul} {id : Int} (h1 : ∀ x ∈ A, x.f0 < id) (h2 : ∀ x ∈ B, id ≤ x.f0) (ha : a.f0 = id) : bsI (A ++ a :: B) id = A.length ∧ bsF (A ++ a :: B) id = true := by
  have e : bsI (A ++ a :: B) id = A.length := bsGo_at h1 (fun x hx => by
    rcases List.mem_cons.1 hx with rfl | hx
    · omega
    · exact h2 x hx) _ _ _ (by omega) (Nat.zero_le _) (by simp) (Nat.le_refl _)
  refine ⟨e, ?_⟩
  unfold bsF
  rw [e, rd_rule _ _ (by simp), List.getElem_append_right (Nat.le_refl _)]
  simp [ha]
theorem rising_parts {A B : List Rul} {a : Rul} (h : Rising (A ++ a :: B)) : (∀ x ∈ A, x.f0 < a.f0) ∧ ∀ x ∈ B, a.f0 < x.f0 := by
  unfold Rising at h
  rw [List.pairwise_append, List.pairwise_cons] at h
  exact ⟨fun x hx => h.2.2 x hx a (by simp), h.2.1.1⟩
theorem bs_find {l : List Rul} (h : Rising l) (id : Int) : bsF l id = (findK l id).isSome := by
  obtain ⟨A, B, rfl, h1, h2 | ⟨a, B', rfl, ha⟩⟩ := place l h id
  · rw [(bs_gap h1 h2).2, find_gap h1 h2]; rfl
  · have hp := rising_parts h
    rw [(bs_at h1 (fun x hx => by have := hp.2 x hx; omega) ha).2, ← ha, find_at h]; rfl
def codesE : Codes := ⟨141, 142, 143, 41⟩
theorem codesE_ok : codesE.w ≠ 0 ∧ codesE.t ≠ 0 ∧ codesE.n ≠ 0 ∧ codesE.f ≠ 0 := by decide
theorem applyL_K {l : List Rul} (h : Rising l) (k : Int) (r : Rul) : applyL l k r = applyK codesE 40 okRule l k r := by
  unfold applyL applyK
  by_cases c1 : (k < 0 ∨ 2 < k) ∨ (k ≠ 1 ∧ okRule r = false)
  · rw [if_pos c1, if_pos c1]; rfl
  · rw [if_neg c1, if_neg c1, bs_find h]
    obtain ⟨A, B, rfl, h1, h2 | ⟨a, B', rfl, ha⟩⟩ := place l h r.f0
    · obtain ⟨e1, e2⟩ := bs_gap h1 h2
      rw [find_gap h1 h2, e1, put_at h1 h2]
      by_cases k0 : k = 0
      · simp only [if_pos k0, Option.isSome_none, Bool.false_eq_true, if_false]
        split
        · rfl
        · simp
      · simp only [if_neg k0, Option.isSome_none, if_true]; rfl
    · have hp := rising_parts h
      obtain ⟨e1, e2⟩ := bs_at h1 (fun x hx => by have := hp.2 x hx; omega) ha
      have e3 := find_at h
      rw [ha] at e3
      rw [e3, e1, set_at h ha]
      have e4 := del_at h
      rw [ha] at e4
      rw [e4]
      by_cases k0 : k = 0
      · simp only [if_pos k0, Option.isSome_some, if_true]; rfl
      · by_cases k1 : k = 1
        · simp [k1]
        · simp [k0, k1]
end Go.Proofs.Ytckjhdlpbfcaiaa.H
/-! ### EdaH -/
namespace Go.Proofs.Ytckjhdlpbfcaiaa.P
open Go.RowKit Go.Proofs.YtckjhdlpbfcaiaaW.PrintWords Go.Proofs.YtckjhdlpbfcaiaaW.PrintLast Go.Proofs.YtckjhdlpbfcaiaaW.PrintMore
theorem k33_heap : Kd.Heap k33 := Kd.heap_iso _ (Kd.heap_pair (Kd.heap_int .u32) (Kd.heap_int .u32))
theorem k35_heap : Kd.Heap k35 := Kd.heap_iso _ (Kd.heap_pair (Kd.heap_int .i64) (Kd.heap_pair (Kd.heap_int .i64) (Kd.heap_pair (Kd.heap_int .i64) (Kd.heap_pair (Kd.heap_int .i64) (Kd.heap_pair k33_heap (Kd.heap_int .i64))))))
end Go.Proofs.Ytckjhdlpbfcaiaa.P
/-! ### EdaD -/
namespace Go.Proofs.Ytckjhdlpbfcaiaa.H
open Go.RowKit Go.Proofs.Ytckjhdlpbfcaiaa.P Go.Proofs.YtckjhdlpbfcaiaaW.PrintWords Go.Proofs.YtckjhdlpbfcaiaaW.PrintLast Go.Proofs.YtckjhdlpbfcaiaaW.PrintMore
set_option linter.unusedVariables false
set_option linter.unusedSimpArgs false
theorem rflat_slice : ∀ (l : List Rul) (j : Nat) (y : Rul), l[j]? = some y → ((rflat l).drop (j * 7)).take 7 = rcells y
  | [], j, y, h => by simp at h
  | x :: t, 0, y, h => by
    simp at h
    subst h
    show ((rcells x ++ rflat t).drop (0 * 7)).take 7 = _
    rw [Nat.zero_mul, List.drop_zero, List.take_append_of_le_length (by exact Nat.le_refl 7), List.take_of_length_le (by exact Nat.le_refl 7)]
  | x :: t, j + 1, y, h => by
    have := rflat_slice t j y (by simpa using h)
    show ((rcells x ++ rflat t).drop ((j + 1) * 7)).take 7 = _
    rw [show (j + 1) * 7 = 7 + j * 7 by omega, ← List.drop_drop, List.drop_append_of_le_length (by exact Nat.le_refl 7), show List.drop 7 (rcells x) = [] from rfl, List.nil_append]
    exact this
theorem R_own {w : World} {B : Nat} {v : Value} {l : List Rul} (h : OwnR B v l w) : Kd.R k35 35 w B (fun _ => True) v l := by
  refine ⟨fun _ _ => trivial, rflat l, h, ⟨rflat_len l, fun j y hy => ?_⟩⟩
  have := rflat_slice l j y hy
  show k35.M w B _ y (((rflat l).drop (j * 7)).take 7)
  rw [this]
  exact k35_mkM _ _ _ _
theorem apply_told (A : Option Addr) (c : Nat) (l : List Rul) (k : Int) (r : Rul) (w : World) (hr : Kd.C k35 w A l.length l) (hc : l.length ≤ c) (hl : l.length * 48 ≤ 140737488355328) :
    Calls Try.prog 17 #[.slice A l.length c, encEd k r] w fun e w' => ∃ v0_ : Value, e = .returned (.tuple #[v0_, .int .i64 (applyL l k r).2]) ∧ Kd.R k35 35 w' w.heap.size (fun _ => True) v0_ (applyL l k r).1 ∧ Below w.heap.size w w' := by
  refine (apply_any A c l k r w hr hc hl).mono ?_
  rintro e w' ⟨v, rfl, ho, hb⟩
  exact ⟨v, rfl, R_own ho, hb⟩
theorem clone_told (A : Option Addr) (c : Nat) (l : List Rul) (w : World) (hr : Kd.C k35 w A l.length l) (hc : l.length ≤ c) (hl : l.length * 48 ≤ 140737488355328) :
    Calls Try.prog 30 #[.slice A l.length c] w fun e w' => ∃ v0_ : Value, e = .returned v0_ ∧ Kd.R k35 35 w' w.heap.size (fun _ => True) v0_ l ∧ Below w.heap.size w w' := by
  refine (cloneR_any A c l w hr hc hl).mono ?_
  rintro e w' ⟨v, rfl, ho, hb⟩
  exact ⟨v, rfl, R_own ho, hb⟩
end Go.Proofs.Ytckjhdlpbfcaiaa.H
/-! ### Ex1 -/
namespace Go.Proofs.Ytckjhdlpbfcaiaa.E
open Go.Proofs.Ytckjhdlpbfcaiaa.P
open Go.RowKit Go.Proofs.YtckjhdlpbfcaiaaW.PrintWords Go.Proofs.YtckjhdlpbfcaiaaW.PrintLast Go.Proofs.YtckjhdlpbfcaiaaW.PrintMore
set_option linter.unusedVariables false
set_option linter.unusedSimpArgs false
theorem eqA33 (d : Nat) (w : World) (x0 y0 : Int) (x1 y1 : Int) :
    (Op.equalIn (d + 2) 33 (.agg #[.int .u32 x0, .int .u32 x1]) (.agg #[.int .u32 y0, .int .u32 y1])).run Try.prog w = .ok (x0 == y0 && (x1 == y1)) w := by
  refine eqA_of Try.underlying33 (by kernel_rfl) ?_
  refine eqf_cons (by rfl) (by go_simp; rfl) (by go_simp; rfl) (by go_simp) ?_
  exact eqf_last (by rfl) (by go_simp; rfl) (by go_simp; rfl) (by go_simp)
theorem eqA35 (d : Nat) (w : World) (x0 y0 : Int) (x1 y1 : Int) (x2 y2 : Int) (x3 y3 : Int) (x4 y4 : Int) (x5 y5 : Int) (x6 y6 : Int) :
    (Op.equalIn (d + 3) 35 (.agg #[.int .i64 x0, .int .i64 x1, .int .i64 x2, .int .i64 x3, .int .u32 x4, .int .u32 x5, .int .i64 x6]) (.agg #[.int .i64 y0, .int .i64 y1, .int .i64 y2, .int .i64 y3, .int .u32 y4, .int .u32 y5, .int .i64 y6])).run Try.prog w = .ok (x0 == y0 && (x1 == y1 && (x2 == y2 && (x3 == y3 && ((x4 == y4 && (x5 == y5)) && (x6 == y6)))))) w := by
  refine eqA_of Try.underlying35 (by kernel_rfl) ?_
  refine eqf_cons (by rfl) (by go_simp; rfl) (by go_simp; rfl) (by go_simp) ?_
  refine eqf_cons (by rfl) (by go_simp; rfl) (by go_simp; rfl) (by go_simp) ?_
  refine eqf_cons (by rfl) (by go_simp; rfl) (by go_simp; rfl) (by go_simp) ?_
  refine eqf_cons (by rfl) (by go_simp; rfl) (by go_simp; rfl) (by go_simp) ?_
  refine eqf_cons (by rfl) (by go_simp) (by go_simp) (eqA33 (d + 0) w _ _ _ _) ?_
  exact eqf_last (by rfl) (by go_simp; rfl) (by go_simp; rfl) (by go_simp)
end Go.Proofs.Ytckjhdlpbfcaiaa.E
