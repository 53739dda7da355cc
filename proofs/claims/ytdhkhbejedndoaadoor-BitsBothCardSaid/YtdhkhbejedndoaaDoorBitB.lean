/- The document's answers about sets, in plain words. -/
import Derived.Test.YtdhkhbejedndoaaDoorBitA
import Derived.Test.YtdhkhbejedndoaaDoorPx2
namespace Go.Proofs.YtdhkhbejedndoaaDoor.H
open Go.RowKit Go.Proofs.YtdhkhbejedndoaaDoor.P Go.Proofs.YtdhkhbejedndoaaDoorW.PrintWords Go.Proofs.YtdhkhbejedndoaaDoorW.PrintLast Go.Proofs.YtdhkhbejedndoaaDoorW.PrintMore
set_option linter.unusedVariables false
set_option linter.unusedSimpArgs false
theorem evCast {α : Type} {g : Nat → Option α} {r r' : α} (h : Ev g r) (e : r = r') : Ev g r' := e ▸ h
def ofM (size : Int) (l : List Int) : Option (List Bool) := if size < 0 ∨ 1024 < size then none else layL (List.replicate size.toNat false) l
def ofR (r : Option (List Bool)) : List Bool × Int := match r with
  | none => ([], 61)
  | some m => (m, 0)
theorem wr1 (j : Nat) (h : j < 9223372036854775807) : wrap64 ((j : Int) + 1) = ((j + 1 : Nat) : Int) := by unfold wrap64; omega
theorem rd_app (l t : List Int) (i : Int) : rd (l ++ i :: t) (l.length : Int) = i := by
  unfold rd
  rw [Int.toNat_natCast, List.getD_eq_getElem?_getD, List.getElem?_append_right (Nat.le_refl _), Nat.sub_self]
  rfl
theorem of_l0 (n : Nat) : ∀ (t l : List Int) (m : List Bool), (l ++ t).length ≤ 9223372036854775807 → m.length = n →
    Ev (fun k => waystoneref06_Of.l0 k (n : Int) (l ++ t) m (l.length : Int)) (ofR (layL m t))
  | [], l, m, hl, hm => by
    refine Ev.step (fun k => by rw [waystoneref06_Of.l0]) ?_
    simp only [List.append_nil, Int.lt_irrefl, if_false]
    exact Ev.now _
  | i :: t, l, m, hl, hm => by
    have h1 : ((l.length : Nat) : Int) < ((l ++ i :: t).length : Int) := by rw [List.length_append, List.length_cons]; omega
    have h0 : (0 : Int) ≤ (l.length : Int) := by omega
    have hw := wr1 l.length (by rw [List.length_append, List.length_cons] at hl; omega)
    refine Ev.step (fun k => by rw [waystoneref06_Of.l0]) ?_
    simp only [h1, h0, if_true, rd_app, hw]
    by_cases c1 : i < 0
    · simp only [c1, if_true]
      exact evCast (Ev.now _) (by rw [layL, if_neg (by omega)]; rfl)
    · by_cases c2 : i ≥ (n : Int)
      · simp only [c1, c2, if_true, if_false]
        exact evCast (Ev.now _) (by rw [layL, if_neg (by omega)]; rfl)
      · have c3 : 0 ≤ i := by omega
        have c4 : i < (m.length : Int) := by omega
        simp only [c1, c2, c3, c4, if_true, if_false]
        have ih := of_l0 n t (l ++ [i]) (m.set i.toNat true) (by rw [List.append_assoc]; exact hl) (by rw [List.length_set]; exact hm)
        rw [List.append_assoc, List.length_append, List.length_singleton] at ih
        exact evCast ih (by rw [layL, if_pos ⟨c3, c4⟩])
theorem of_ev (size : Int) (l : List Int) (hl : l.length ≤ 9223372036854775807) : Ev (fun k => waystoneref06_Of.f k size l) (ofR (ofM size l)) := by
  by_cases c1 : size < 0
  · refine Ev.congr (fun k => by rw [waystoneref06_Of.f, if_pos c1]) ?_
    refine Ev.step (fun k => by rw [waystoneref06_Of.j0]) ?_
    simp only [if_true]
    exact evCast (Ev.now _) (by rw [ofM, if_pos (.inl c1)]; rfl)
  · by_cases c2 : size > 1024
    · refine Ev.congr (fun k => by rw [waystoneref06_Of.f, if_neg c1, decide_eq_true c2]) ?_
      refine Ev.step (fun k => by rw [waystoneref06_Of.j0]) ?_
      simp only [if_true]
      exact evCast (Ev.now _) (by rw [ofM, if_pos (.inr c2)]; rfl)
    · obtain ⟨n, rfl⟩ : ∃ n : Nat, size = (n : Int) := ⟨size.toNat, by omega⟩
      refine Ev.congr (fun k => by rw [waystoneref06_Of.f, if_neg c1, decide_eq_false c2]) ?_
      refine Ev.step (fun k => by rw [waystoneref06_Of.j0]) ?_
      have h0 : (0 : Int) ≤ (n : Int) := by omega
      have h1 : n ≤ 281474976710656 := by omega
      simp only [Bool.false_eq_true, if_false, h0, if_true, Int.toNat_natCast, h1]
      have := of_l0 n l [] (List.replicate n false) hl List.length_replicate
      exact evCast this (by rw [ofM, if_neg (by omega), Int.toNat_natCast])
theorem with_l0 (kk : Nat) (hk : kk ≤ 1024) (d : Nat) : ∀ (i : Nat) (m : List Bool), kk ≤ m.length → kk - i = d → i ≤ kk →
    Ev (fun k => waystoneref06_With.l0 k (kk : Int) m (i : Int)) (setR m i d, 0) := by
  induction d with
  | zero =>
    intro i m hm hd hi
    have h1 : ¬ (i : Int) < (kk : Int) := by omega
    refine Ev.step (fun k => by rw [waystoneref06_With.l0]) ?_
    simp only [h1, if_false]
    exact Ev.now _
  | succ d ih =>
    intro i m hm hd hi
    have h1 : (i : Int) < (kk : Int) := by omega
    have h0 : (0 : Int) ≤ (i : Int) := by omega
    have h2 : (i : Int) < (m.length : Int) := by omega
    have hw := wr1 i (by omega)
    refine Ev.step (fun k => by rw [waystoneref06_With.l0]) ?_
    simp only [h1, h0, h2, if_true, hw, Int.toNat_natCast]
    exact ih (i + 1) (m.set i true) (by rw [List.length_set]; exact hm) (by omega) (by omega)
theorem with_ev (m : List Bool) (i k : Int) (hm : m.length ≤ 1024) : Ev (fun n => waystoneref06_With.f n m i k) (ofR (withM m i k)) := by
  by_cases c1 : i < 0
  · refine Ev.congr (fun n => by rw [waystoneref06_With.f, if_pos c1]) ?_
    refine Ev.step (fun n => by rw [waystoneref06_With.j0]) ?_
    simp only [if_true]
    exact evCast (Ev.now _) (by rw [withM, if_neg (by omega)]; rfl)
  · by_cases c2 : i > k
    · refine Ev.congr (fun n => by rw [waystoneref06_With.f, if_neg c1, if_pos c2]) ?_
      refine Ev.step (fun n => by rw [waystoneref06_With.j0]) ?_
      simp only [if_true]
      exact evCast (Ev.now _) (by rw [withM, if_neg (by omega)]; rfl)
    · by_cases c3 : k > (m.length : Int)
      · refine Ev.congr (fun n => by rw [waystoneref06_With.f, if_neg c1, if_neg c2, decide_eq_true c3]) ?_
        refine Ev.step (fun n => by rw [waystoneref06_With.j0]) ?_
        simp only [if_true]
        exact evCast (Ev.now _) (by rw [withM, if_neg (by omega)]; rfl)
      · refine Ev.congr (fun n => by rw [waystoneref06_With.f, if_neg c1, if_neg c2, decide_eq_false c3]) ?_
        refine Ev.step (fun n => by rw [waystoneref06_With.j0]) ?_
        obtain ⟨a, rfl⟩ : ∃ a : Nat, i = (a : Int) := ⟨i.toNat, by omega⟩
        obtain ⟨b, rfl⟩ : ∃ b : Nat, k = (b : Int) := ⟨k.toNat, by omega⟩
        have h1 : ([] : List Bool).length + m.length < 140737488355328 := by rw [List.length_nil]; omega
        simp only [Bool.false_eq_true, if_false, Option.bind_some, h1, if_true, List.nil_append]
        refine evCast (with_l0 b (by omega) (b - a) a m (by omega) rfl (by omega)) ?_
        rw [withM, if_pos (by omega), Int.toNat_natCast, show ((b : Int) - (a : Int)).toNat = b - a by omega]
        rfl
theorem list_l0 (m : List Bool) (hm : m.length ≤ 1024) (d : Nat) : ∀ (j : Nat) (out : List Int), m.length - j = d → j ≤ m.length → out.length ≤ j →
    Ev (fun k => waystoneref06_List.l0 k m out (j : Int)) (out ++ idxF (fun p => m.getD p false) j d) := by
  induction d with
  | zero =>
    intro j out hd hj ho
    have h1 : ¬ (j : Int) < (m.length : Int) := by omega
    refine Ev.step (fun k => by rw [waystoneref06_List.l0]) ?_
    simp only [h1, if_false]
    exact evCast (Ev.now _) (by rw [idxF, List.append_nil])
  | succ d ih =>
    intro j out hd hj ho
    have h1 : (j : Int) < (m.length : Int) := by omega
    have h0 : (0 : Int) ≤ (j : Int) := by omega
    have hw := wr1 j (by omega)
    have hr : rdOf false m (j : Int) = m.getD j false := by unfold rdOf; rw [Int.toNat_natCast]
    have hl : out.length < 17592186044416 := by omega
    refine Ev.step (fun k => by rw [waystoneref06_List.l0]) ?_
    cases hb : m.getD j false with
    | true =>
      simp only [h1, h0, if_true, hw, hr, hb, hl]
      refine evCast (ih (j + 1) (out ++ [(j : Int)]) (by omega) (by omega) (by rw [List.length_append, List.length_singleton]; omega)) ?_
      rw [idxF, hb, if_pos rfl, List.append_assoc]
      rfl
    | false =>
      simp only [h1, h0, if_true, hw, hr, hb, Bool.false_eq_true, if_false]
      refine evCast (ih (j + 1) out (by omega) (by omega) (by omega)) ?_
      rw [idxF, hb, if_neg Bool.false_ne_true]
theorem list_ev (m : List Bool) (hm : m.length ≤ 1024) : Ev (fun n => waystoneref06_List.f n m) (listM m) := list_l0 m hm m.length 0 [] rfl (Nat.zero_le _) (Nat.le_refl _)
theorem ints_l0 : ∀ (t u a b : List Int), a.length = b.length → t.length = u.length → (a ++ t).length ≤ 2000 →
    Ev (fun k => waystoneref06_Ints.l0 k (a ++ t) (b ++ u) (a.length : Int)) (decide (t = u))
  | [], [], a, b, hab, _, hl => by
    refine Ev.step (fun k => by rw [waystoneref06_Ints.l0]) ?_
    simp only [List.append_nil, Int.lt_irrefl, if_false]
    exact Ev.now _
  | x :: t, y :: u, a, b, hab, htu, hl => by
    have h1 : ((a.length : Nat) : Int) < ((a ++ x :: t).length : Int) := by rw [List.length_append, List.length_cons]; omega
    have h2 : ((a.length : Nat) : Int) < ((b ++ y :: u).length : Int) := by rw [List.length_append, List.length_cons]; omega
    have h0 : (0 : Int) ≤ (a.length : Int) := by omega
    have hw := wr1 a.length (by rw [List.length_append] at hl; omega)
    have e1 : rd (b ++ y :: u) (a.length : Int) = y := by rw [hab]; exact rd_app b u y
    refine Ev.step (fun k => by rw [waystoneref06_Ints.l0]) ?_
    simp only [h1, h2, h0, if_true, rd_app, e1, hw]
    by_cases c : x = y
    · subst c
      simp only [if_true]
      have ih := ints_l0 t u (a ++ [x]) (b ++ [x]) (by rw [List.length_append, List.length_append, hab]) (by simpa using htu) (by rw [List.append_assoc]; exact hl)
      rw [List.append_assoc, List.append_assoc, List.length_append, List.length_singleton] at ih
      exact evCast ih (by simp)
    · simp only [c, if_false]
      exact evCast (Ev.now _) (by simp [c])
theorem ints_ev (a b : List Int) (ha : a.length ≤ 2000) : Ev (fun n => waystoneref06_Ints.f n a b) (decide (a = b)) := by
  by_cases c : a.length = b.length
  · have c' : (a.length : Int) = (b.length : Int) := by omega
    refine Ev.congr (fun n => by rw [waystoneref06_Ints.f, if_pos c']) ?_
    exact ints_l0 a b [] [] rfl c ha
  · have c' : ¬ (a.length : Int) = (b.length : Int) := by omega
    refine Ev.congr (fun n => by rw [waystoneref06_Ints.f, if_neg c']) ?_
    exact evCast (Ev.now _) (decide_eq_false fun e => c (by rw [e])).symm
def bothF (how : Int) (a b : Bool) : Bool := if how = 1 then a && b else if how = 2 then a || b else a && !b
theorem range_push (f : Nat → Bool) (j : Nat) : (List.range j).map f ++ [f j] = (List.range (j + 1)).map f := by rw [List.range_succ, List.map_append]; rfl
theorem both_l0 (a b : List Bool) (how : Int) (hh : how = 1 ∨ how = 2 ∨ how = 3) (hl : b.length = a.length) (ha : a.length ≤ 1024) (d : Nat) : ∀ (j : Nat), a.length - j = d → j ≤ a.length →
    Ev (fun k => waystoneref06_Both.l0 k a b how ((List.range j).map fun i => bothF how (a.getD i false) (b.getD i false)) (j : Int)) ((List.range a.length).map fun i => bothF how (a.getD i false) (b.getD i false)) := by
  induction d with
  | zero =>
    intro j hd hj
    have h1 : ¬ (j : Int) < (a.length : Int) := by omega
    obtain rfl : j = a.length := by omega
    refine Ev.step (fun k => by rw [waystoneref06_Both.l0]) ?_
    simp only [h1, if_false]
    exact Ev.now _
  | succ d ih =>
    intro j hd hj
    have ih := ih (j + 1) (by omega) (by omega)
    rw [← range_push] at ih
    have h1 : (j : Int) < (a.length : Int) := by omega
    have h2 : (j : Int) < (b.length : Int) := by omega
    have h0 : (0 : Int) ≤ (j : Int) := by omega
    have hw := wr1 j (by omega)
    have hr : rdOf false a (j : Int) = a.getD j false := by unfold rdOf; rw [Int.toNat_natCast]
    have hr2 : rdOf false b (j : Int) = b.getD j false := by unfold rdOf; rw [Int.toNat_natCast]
    generalize hy : ((List.range j).map fun i => bothF how (a.getD i false) (b.getD i false)) = y at *
    have hyl : y.length < 140737488355328 := by rw [← hy, List.length_map, List.length_range]; omega
    refine Ev.step (fun k => by rw [waystoneref06_Both.l0]) ?_
    rcases hh with rfl | rfl | rfl <;> cases hA : a.getD j false <;> cases hB : b.getD j false <;> rw [hA, hB] at ih <;>
      simp only [h1, h2, h0, hw, hr, hr2, hyl, hA, hB, if_true, if_false, Bool.false_eq_true, Bool.not_true, Bool.not_false, show ¬ (1 : Int) = 2 by decide, show ¬ (1 : Int) = 3 by decide, show ¬ (2 : Int) = 1 by decide, show ¬ (2 : Int) = 3 by decide, show ¬ (3 : Int) = 1 by decide, show ¬ (3 : Int) = 2 by decide] <;> exact ih
theorem both_ev (a b : List Bool) (how : Int) (hh : how = 1 ∨ how = 2 ∨ how = 3) (hl : b.length = a.length) (ha : a.length ≤ 1024) : Ev (fun n => waystoneref06_Both.f n a b how) (bothM (bothF how) a b) := both_l0 a b how hh hl ha a.length 0 rfl (Nat.zero_le _)
end Go.Proofs.YtdhkhbejedndoaaDoor.H
