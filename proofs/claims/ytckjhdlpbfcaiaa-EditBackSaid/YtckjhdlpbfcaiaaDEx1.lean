/- EdtQ, EdtT, EdtW, EdaJ, EdaD, Ex1. -/
import Derived.Test.YtckjhdlpbfcaiaaDEdtP
import Derived.Test.YtckjhdlpbfcaiaaDEdaC
/-! ### EdtQ -/
namespace Go.Proofs.Ytckjhdlpbfcaiaa.H
open Go.RowKit Go.Proofs.Ytckjhdlpbfcaiaa.P Go.Proofs.YtckjhdlpbfcaiaaW.PrintWords
set_option linter.unusedVariables false
set_option linter.unusedSimpArgs false
instance : DecidableEq Rle := fun a b => decidable_of_decidable_of_iff (p := a.f0 = b.f0 ∧ a.f1 = b.f1 ∧ a.f2 = b.f2 ∧ a.f3 = b.f3 ∧ a.f4.f0 = b.f4.f0 ∧ a.f4.f1 = b.f4.f1 ∧ a.f5 = b.f5) (by
  obtain ⟨a0, a1, a2, a3, ⟨a4, a5⟩, a6⟩ := a
  obtain ⟨b0, b1, b2, b3, ⟨b4, b5⟩, b6⟩ := b
  constructor
  · rintro ⟨rfl, rfl, rfl, rfl, rfl, rfl, rfl⟩; rfl
  · intro h; cases h; exact ⟨rfl, rfl, rfl, rfl, rfl, rfl, rfl⟩)
section
variable {c : Codes} {m : Nat} {right : Rle → Bool} {x y : List Rle}
end
end Go.Proofs.Ytckjhdlpbfcaiaa.H
/-! ### EdtT -/
namespace Go.Proofs.Ytckjhdlpbfcaiaa.H
open Go.RowKit Go.Proofs.Ytckjhdlpbfcaiaa.P Go.Proofs.YtckjhdlpbfcaiaaW.PrintWords
set_option linter.unusedVariables false
set_option linter.unusedSimpArgs false
theorem filter_all {α : Type} {p : α → Bool} {l : List α} (h : ∀ x ∈ l, p x = true) : l.filter p = l := List.filter_eq_self.2 h
theorem filter_no {α : Type} {p : α → Bool} {l : List α} (h : ∀ x ∈ l, p x = false) : l.filter p = [] := List.filter_eq_nil_iff.2 (fun x hx => by rw [h x hx]; simp)
theorem put_at {A B : List Rle} {r : Rle} (h1 : ∀ x ∈ A, x.f0 < r.f0) (h2 : ∀ x ∈ B, r.f0 < x.f0) : putK (A ++ B) r = A ++ r :: B := by
  unfold putK
  rw [List.filter_append, List.filter_append, filter_all (fun x hx => by simpa using h1 x hx), filter_no (l := B) (fun x hx => by have := h2 x hx; simp only [decide_eq_false_iff_not]; omega),
    filter_no (l := A) (fun x hx => by have := h1 x hx; simp only [decide_eq_false_iff_not]; omega), filter_all (l := B) (fun x hx => by simpa using h2 x hx)]
  simp
theorem set_at {A B : List Rle} {a r : Rle} (h : Rising (A ++ a :: B)) (e : a.f0 = r.f0) : putK (A ++ a :: B) r = A ++ r :: B := by
  unfold Rising at h
  rw [List.pairwise_append, List.pairwise_cons] at h
  obtain ⟨_, ⟨hb, _⟩, ha⟩ := h
  unfold putK
  rw [List.filter_append, List.filter_append, List.filter_cons, List.filter_cons, if_neg (by simp only [decide_eq_true_eq]; omega), if_neg (by simp only [decide_eq_true_eq]; omega),
    filter_all (l := A) (fun x hx => by have := ha x hx a (by simp); simp only [decide_eq_true_eq]; omega), filter_no (l := B) (fun x hx => by have := hb x hx; simp only [decide_eq_false_iff_not]; omega),
    filter_no (l := A) (fun x hx => by have := ha x hx a (by simp); simp only [decide_eq_false_iff_not]; omega), filter_all (l := B) (fun x hx => by have := hb x hx; simp only [decide_eq_true_eq]; omega)]
  simp
theorem del_at {A B : List Rle} {a : Rle} (h : Rising (A ++ a :: B)) : delK (A ++ a :: B) a.f0 = A ++ B := by
  unfold Rising at h
  rw [List.pairwise_append, List.pairwise_cons] at h
  obtain ⟨_, ⟨hb, _⟩, ha⟩ := h
  unfold delK
  rw [List.filter_append, List.filter_cons, if_neg (by simp), filter_all (l := A) (fun x hx => by have := ha x hx a (by simp); simp; omega), filter_all (l := B) (fun x hx => by have := hb x hx; simp; omega)]
theorem find_at {A B : List Rle} {a : Rle} (h : Rising (A ++ a :: B)) : findK (A ++ a :: B) a.f0 = some a := findK_mem h (by simp)
theorem find_gap {A B : List Rle} {id : Int} (h1 : ∀ x ∈ A, x.f0 < id) (h2 : ∀ x ∈ B, id < x.f0) : findK (A ++ B) id = none := findK_none.2 (fun r hr => by
  rcases List.mem_append.1 hr with h | h
  · have := h1 r h; omega
  · have := h2 r h; omega)
theorem place (l : List Rle) (h : Rising l) (id : Int) : ∃ A B, l = A ++ B ∧ (∀ x ∈ A, x.f0 < id) ∧ ((∀ x ∈ B, id < x.f0) ∨ ∃ a B', B = a :: B' ∧ a.f0 = id) := by
  induction l with
  | nil => exact ⟨[], [], rfl, by simp, .inl (by simp)⟩
  | cons x l ih =>
    have hp := List.pairwise_cons.1 h
    by_cases c : x.f0 < id
    · obtain ⟨A, B, e, h1, h2⟩ := ih hp.2
      exact ⟨x :: A, B, by rw [e]; rfl, fun y hy => by
        rcases List.mem_cons.1 hy with rfl | hy
        · exact c
        · exact h1 y hy, h2⟩
    · refine ⟨[], x :: l, rfl, by simp, ?_⟩
      by_cases e : x.f0 = id
      · exact .inr ⟨x, l, rfl, e⟩
      · exact .inl (fun y hy => by
          rcases List.mem_cons.1 hy with rfl | hy
          · omega
          · have := hp.1 y hy; omega)
end Go.Proofs.Ytckjhdlpbfcaiaa.H
/-! ### EdtW -/
namespace Go.Proofs.Ytckjhdlpbfcaiaa.H
open Go.RowKit Go.Proofs.Ytckjhdlpbfcaiaa.P Go.Proofs.YtckjhdlpbfcaiaaW.PrintWords
set_option linter.unusedVariables false
set_option linter.unusedSimpArgs false
def allP (right : Rle → Bool) : Int → List Rle → Bool
  | _, [] => true
  | last, r :: l => right r && (decide (last < r.f0) && allP right r.f0 l)
def allD (right : Rle → Bool) : Option Int → List Rle → Bool
  | _, [] => true
  | none, r :: l => right r && allD right (some r.f0) l
  | some a, r :: l => right r && (decide (a < r.f0) && allD right (some r.f0) l)
theorem all_some (right : Rle → Bool) : ∀ (l : List Rle) (a : Int), allP right a l = allD right (some a) l
  | [], a => rfl
  | r :: l, a => by rw [allP, allD, all_some right l]
theorem all_same (right : Rle → Bool) (hp : ∀ r, right r = true → 0 < r.f0) : ∀ l : List Rle, allP right 0 l = allD right none l
  | [] => rfl
  | r :: l => by
    rw [allP, allD, all_some right l]
    cases e : right r with
    | false => rfl
    | true =>
      have := hp r e
      rw [decide_eq_true this]
      rfl
theorem all_iff (right : Rle → Bool) : ∀ (l : List Rle) (a : Int), allP right a l = true ↔ (∀ r ∈ l, right r = true ∧ a < r.f0) ∧ Rising l
  | [], a => by simp [allP, Rising]
  | r :: l, a => by
    rw [allP, Bool.and_eq_true, Bool.and_eq_true, decide_eq_true_eq, all_iff right l r.f0]
    unfold Rising
    rw [List.pairwise_cons]
    constructor
    · rintro ⟨h1, h2, h3, h4⟩
      refine ⟨fun x hx => ?_, fun x hx => (h3 x hx).2, h4⟩
      rcases List.mem_cons.1 hx with rfl | hx
      · exact ⟨h1, h2⟩
      · have := h3 x hx
        exact ⟨this.1, by omega⟩
    · rintro ⟨h1, h2, h3⟩
      have := h1 r (by simp)
      exact ⟨this.1, this.2, fun x hx => ⟨(h1 x (List.mem_cons_of_mem _ hx)).1, h2 x hx⟩, h3⟩
theorem all_good {right : Rle → Bool} {l : List Rle} {m : Nat} (h : allP right 0 l = true) (hm : l.length ≤ m) : GoodL m right l :=
  ⟨((all_iff right l 0).1 h).2, fun r hr => (((all_iff right l 0).1 h).1 r hr).1, hm⟩
theorem good_all {right : Rle → Bool} {l : List Rle} {m : Nat} (hp : ∀ r, right r = true → 0 < r.f0) (h : GoodL m right l) : allP right 0 l = true :=
  (all_iff right l 0).2 ⟨fun r hr => ⟨h.ok r hr, hp r (h.ok r hr)⟩, h.up⟩
end Go.Proofs.Ytckjhdlpbfcaiaa.H
/-! ### EdaJ -/
namespace Go.Proofs.Ytckjhdlpbfcaiaa.H
open Go.RowKit Go.Proofs.Ytckjhdlpbfcaiaa.P Go.Proofs.YtckjhdlpbfcaiaaW.PrintWords Go.Proofs.YtckjhdlpbfcaiaaW.PrintLast Go.Proofs.YtckjhdlpbfcaiaaW.PrintMore
set_option linter.unusedVariables false
set_option linter.unusedSimpArgs false
theorem wrap_up {j n : Nat} (h : j < n) (hn : n ≤ 9223372036854775807) : wrap64 ((j : Int) + 1) = ((j + 1 : Nat) : Int) := by unfold wrap64; omega
theorem rd_rule (l : List Rul) (j : Nat) (h : j < l.length) : rd_T35 l (j : Int) = l[j] := by unfold rd_T35; rw [Int.toNat_natCast, List.getD_eq_getElem?_getD, List.getElem?_eq_getElem h]; rfl
theorem okRule_pos (r : Rul) (h : okRule r = true) : 0 < r.f0 := by
  unfold okRule inB at h
  simp only [Bool.and_eq_true, decide_eq_true_iff] at h
  omega
theorem bsGo_at {A B : List Rul} {id : Int} (h1 : ∀ x ∈ A, x.f0 < id) (h2 : ∀ x ∈ B, id ≤ x.f0) : ∀ (k i j : Nat), j - i ≤ k → i ≤ A.length → A.length ≤ j → j ≤ (A ++ B).length → bsGo (A ++ B) id k i j = A.length
  | 0, i, j, hk, hi, hj, _ => by rw [bsGo]; omega
  | k + 1, i, j, hk, hi, hj, hn => by
    rw [bsGo]
    by_cases c : i < j
    · rw [if_pos c]
      obtain ⟨h, hh⟩ : ∃ h, (i + j) / 2 = h := ⟨_, rfl⟩
      rw [hh]
      have hlt : h < (A ++ B).length := by omega
      rw [rd_rule _ _ hlt]
      by_cases q : h < A.length
      · rw [List.getElem_append_left q, if_pos (h1 _ (List.getElem_mem q))]
        exact bsGo_at h1 h2 k _ _ (by omega) (by omega) hj hn
      · rw [List.getElem_append_right (by omega), if_neg (by have := h2 _ (List.getElem_mem (l := B) (n := h - A.length) (by rw [List.length_append] at hlt; omega)); omega)]
        exact bsGo_at h1 h2 k _ _ (by omega) hi (by omega) (by omega)
    · rw [if_neg c]; omega
theorem bs_gap {A B : List Rul} {id : Int} (h1 : ∀ x ∈ A, x.f0 < id) (h2 : ∀ x ∈ B, id < x.f0) : bsI (A ++ B) id = A.length ∧ bsF (A ++ B) id = false := by
  have e : bsI (A ++ B) id = A.length := bsGo_at h1 (fun x hx => by have := h2 x hx; omega) _ _ _ (by omega) (Nat.zero_le _) (by simp) (Nat.le_refl _)
  refine ⟨e, ?_⟩
  unfold bsF
  rw [e]
  cases B with
  | nil => simp
  | cons b B =>
    rw [rd_rule _ _ (by simp), List.getElem_append_right (Nat.le_refl _)]
    have := h2 b (by simp)
    have : (b.f0 == id) = false := by rw [beq_eq_false_iff_ne]; omega
    simp [this]
theorem bs_at {A B : List Rul} {a : Rul} {id : Int} (h1 : ∀ x ∈ A, x.f0 < id) (h2 : ∀ x ∈ B, id ≤ x.f0) (ha : a.f0 = id) : bsI (A ++ a :: B) id = A.length ∧ bsF (A ++ a :: B) id = true := by
  have e : bsI (A ++ a :: B) id = A.length := bsGo_at h1 (fun x hx => by
    rcases List.mem_cons.1 hx with rfl | hx
    · omega
    · exact h2 x hx) _ _ _ (by omega) (Nat.zero_le _) (by simp) (Nat.le_refl _)
  refine ⟨e, ?_⟩
  unfold bsF
  rw [e, rd_rule _ _ (by simp), List.getElem_append_right (Nat.le_refl _)]
  simp [ha]
theorem rising_parts {A B : List Rul} {a : Rul} (h : Rising (A ++ a :: B)) : (∀ x ∈ A, x.f0 < a.f0) ∧ ∀ x ∈ B, a.f0 < x.f0 := by
  unfold Rising at h
  rw [List.pairwise_append, List.pairwise_cons] at h
  exact ⟨fun x hx => h.2.2 x hx a (by simp), h.2.1.1⟩
theorem bs_find {l : List Rul} (h : Rising l) (id : Int) : bsF l id = (findK l id).isSome := by
  obtain ⟨A, B, rfl, h1, h2 | ⟨a, B', rfl, ha⟩⟩ := place l h id
  · rw [(bs_gap h1 h2).2, find_gap h1 h2]; rfl
  · have hp := rising_parts h
    rw [(bs_at h1 (fun x hx => by have := hp.2 x hx; omega) ha).2, ← ha, find_at h]; rfl
theorem findR_at {l : List Rul} (h : Rising l) (id : Int) : findR l id = (findK l id).getD z35 := by
  unfold findR
  obtain ⟨A, B, rfl, h1, h2 | ⟨a, B', rfl, ha⟩⟩ := place l h id
  · rw [(bs_gap h1 h2).2, find_gap h1 h2]; rfl
  · have hp := rising_parts h
    obtain ⟨e1, e2⟩ := bs_at h1 (fun x hx => by have := hp.2 x hx; omega) ha
    rw [e1, e2, if_pos rfl, rd_rule _ _ (by simp), List.getElem_append_right (Nat.le_refl _), ← ha, find_at h]
    simp
def codesE : Codes := ⟨141, 142, 143, 41⟩
theorem codesE_ok : codesE.w ≠ 0 ∧ codesE.t ≠ 0 ∧ codesE.n ≠ 0 ∧ codesE.f ≠ 0 := by decide
theorem applyL_K {l : List Rul} (h : Rising l) (k : Int) (r : Rul) : applyL l k r = applyK codesE 40 okRule l k r := by
  unfold applyL applyK
  by_cases c1 : (k < 0 ∨ 2 < k) ∨ (k ≠ 1 ∧ okRule r = false)
  · rw [if_pos c1, if_pos c1]; rfl
  · rw [if_neg c1, if_neg c1, bs_find h]
    obtain ⟨A, B, rfl, h1, h2 | ⟨a, B', rfl, ha⟩⟩ := place l h r.f0
    · obtain ⟨e1, e2⟩ := bs_gap h1 h2
      rw [find_gap h1 h2, e1, put_at h1 h2]
      by_cases k0 : k = 0
      · simp only [if_pos k0, Option.isSome_none, Bool.false_eq_true, if_false]
        split
        · rfl
        · simp
      · simp only [if_neg k0, Option.isSome_none, if_true]; rfl
    · have hp := rising_parts h
      obtain ⟨e1, e2⟩ := bs_at h1 (fun x hx => by have := hp.2 x hx; omega) ha
      have e3 := find_at h
      rw [ha] at e3
      rw [e3, e1, set_at h ha]
      have e4 := del_at h
      rw [ha] at e4
      rw [e4]
      by_cases k0 : k = 0
      · simp only [if_pos k0, Option.isSome_some, if_true]; rfl
      · by_cases k1 : k = 1
        · simp [k1]
        · simp [k0, k1]
end Go.Proofs.Ytckjhdlpbfcaiaa.H
/-! ### EdaD -/
namespace Go.Proofs.Ytckjhdlpbfcaiaa.H
open Go.RowKit Go.Proofs.Ytckjhdlpbfcaiaa.P Go.Proofs.YtckjhdlpbfcaiaaW.PrintWords Go.Proofs.YtckjhdlpbfcaiaaW.PrintLast Go.Proofs.YtckjhdlpbfcaiaaW.PrintMore
set_option linter.unusedVariables false
set_option linter.unusedSimpArgs false
theorem rflat_slice : ∀ (l : List Rul) (j : Nat) (y : Rul), l[j]? = some y → ((rflat l).drop (j * 7)).take 7 = rcells y
  | [], j, y, h => by simp at h
  | x :: t, 0, y, h => by
    simp at h
    subst h
    show ((rcells x ++ rflat t).drop (0 * 7)).take 7 = _
    rw [Nat.zero_mul, List.drop_zero, List.take_append_of_le_length (by exact Nat.le_refl 7), List.take_of_length_le (by exact Nat.le_refl 7)]
  | x :: t, j + 1, y, h => by
    have := rflat_slice t j y (by simpa using h)
    show ((rcells x ++ rflat t).drop ((j + 1) * 7)).take 7 = _
    rw [show (j + 1) * 7 = 7 + j * 7 by omega, ← List.drop_drop, List.drop_append_of_le_length (by exact Nat.le_refl 7), show List.drop 7 (rcells x) = [] from rfl, List.nil_append]
    exact this
theorem R_own {w : World} {B : Nat} {v : Value} {l : List Rul} (h : OwnR B v l w) : Kd.R k35 35 w B (fun _ => True) v l := by
  refine ⟨fun _ _ => trivial, rflat l, h, ⟨rflat_len l, fun j y hy => ?_⟩⟩
  have := rflat_slice l j y hy
  show k35.M w B _ y (((rflat l).drop (j * 7)).take 7)
  rw [this]
  exact k35_mkM _ _ _ _
theorem apply_told (A : Option Addr) (c : Nat) (l : List Rul) (k : Int) (r : Rul) (w : World) (hr : Kd.C k35 w A l.length l) (hc : l.length ≤ c) (hl : l.length * 48 ≤ 140737488355328) :
    Calls Try.prog 17 #[.slice A l.length c, encEd k r] w fun e w' => ∃ v0_ : Value, e = .returned (.tuple #[v0_, .int .i64 (applyL l k r).2]) ∧ Kd.R k35 35 w' w.heap.size (fun _ => True) v0_ (applyL l k r).1 ∧ Below w.heap.size w w' := by
  refine (apply_any A c l k r w hr hc hl).mono ?_
  rintro e w' ⟨v, rfl, ho, hb⟩
  exact ⟨v, rfl, R_own ho, hb⟩
theorem clone_told (A : Option Addr) (c : Nat) (l : List Rul) (w : World) (hr : Kd.C k35 w A l.length l) (hc : l.length ≤ c) (hl : l.length * 48 ≤ 140737488355328) :
    Calls Try.prog 30 #[.slice A l.length c] w fun e w' => ∃ v0_ : Value, e = .returned v0_ ∧ Kd.R k35 35 w' w.heap.size (fun _ => True) v0_ l ∧ Below w.heap.size w w' := by
  refine (cloneR_any A c l w hr hc hl).mono ?_
  rintro e w' ⟨v, rfl, ho, hb⟩
  exact ⟨v, rfl, R_own ho, hb⟩
end Go.Proofs.Ytckjhdlpbfcaiaa.H
/-! ### Ex1 -/
namespace Go.Proofs.Ytckjhdlpbfcaiaa.E
open Go.Proofs.Ytckjhdlpbfcaiaa.P
open Go.RowKit Go.Proofs.YtckjhdlpbfcaiaaW.PrintWords Go.Proofs.YtckjhdlpbfcaiaaW.PrintLast Go.Proofs.YtckjhdlpbfcaiaaW.PrintMore
set_option linter.unusedVariables false
set_option linter.unusedSimpArgs false
theorem eqA33 (d : Nat) (w : World) (x0 y0 : Int) (x1 y1 : Int) :
    (Op.equalIn (d + 2) 33 (.agg #[.int .u32 x0, .int .u32 x1]) (.agg #[.int .u32 y0, .int .u32 y1])).run Try.prog w = .ok (x0 == y0 && (x1 == y1)) w := by
  refine eqA_of Try.underlying33 (by kernel_rfl) ?_
  refine eqf_cons (by rfl) (by go_simp; rfl) (by go_simp; rfl) (by go_simp) ?_
  exact eqf_last (by rfl) (by go_simp; rfl) (by go_simp; rfl) (by go_simp)
theorem eqA35 (d : Nat) (w : World) (x0 y0 : Int) (x1 y1 : Int) (x2 y2 : Int) (x3 y3 : Int) (x4 y4 : Int) (x5 y5 : Int) (x6 y6 : Int) :
    (Op.equalIn (d + 3) 35 (.agg #[.int .i64 x0, .int .i64 x1, .int .i64 x2, .int .i64 x3, .int .u32 x4, .int .u32 x5, .int .i64 x6]) (.agg #[.int .i64 y0, .int .i64 y1, .int .i64 y2, .int .i64 y3, .int .u32 y4, .int .u32 y5, .int .i64 y6])).run Try.prog w = .ok (x0 == y0 && (x1 == y1 && (x2 == y2 && (x3 == y3 && ((x4 == y4 && (x5 == y5)) && (x6 == y6)))))) w := by
  refine eqA_of Try.underlying35 (by kernel_rfl) ?_
  refine eqf_cons (by rfl) (by go_simp; rfl) (by go_simp; rfl) (by go_simp) ?_
  refine eqf_cons (by rfl) (by go_simp; rfl) (by go_simp; rfl) (by go_simp) ?_
  refine eqf_cons (by rfl) (by go_simp; rfl) (by go_simp; rfl) (by go_simp) ?_
  refine eqf_cons (by rfl) (by go_simp; rfl) (by go_simp; rfl) (by go_simp) ?_
  refine eqf_cons (by rfl) (by go_simp) (by go_simp) (eqA33 (d + 0) w _ _ _ _) ?_
  exact eqf_last (by rfl) (by go_simp; rfl) (by go_simp; rfl) (by go_simp)
end Go.Proofs.Ytckjhdlpbfcaiaa.E
