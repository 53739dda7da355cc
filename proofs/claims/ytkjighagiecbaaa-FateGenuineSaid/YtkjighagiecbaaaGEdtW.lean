/- FatX2, EdtP, EdtW. -/
import Derived.Test.YtkjighagiecbaaaGRx3
import Derived.Test.YtkjighagiecbaaaGFatR
import Derived.Test.YtkjighagiecbaaaGTopo5
import Derived.Test.YtkjighagiecbaaaGTopo4b
import Derived.Test.YtkjighagiecbaaaGFatN
import Derived.Test.YtkjighagiecbaaaGRx4
import Derived.Test.YtkjighagiecbaaaGRx5
import Derived.Test.YtkjighagiecbaaaGRx6
/-! ### FatX2 -/
namespace Go.Proofs.Ytkjighagiecbaaa.H
open Go.RowKit Go.Proofs.Ytkjighagiecbaaa.P Go.Proofs.YtkjighagiecbaaaW.PrintWords Go.Proofs.YtkjighagiecbaaaW.PrintLast Go.Proofs.YtkjighagiecbaaaW.PrintMore
set_option linter.unusedVariables false
set_option linter.unusedSimpArgs false
theorem ref8Has (l0 : List Int) (l1 : List S66) (x y : Int) : R.waystoneref08_Has.f l0 l1 x y = some (hasB l0 ⟨x, y⟩) := rfl
theorem refR_l0 (l0 : List Int) (l1 : List S66) (h0 : l0.length ≤ 1000) (r : Bool) (hr : Ev (fun k => R.waystoneref08_Right.l1 k [] 0 l0 l1) r) (d : Nat) : ∀ j : Nat, j ≤ l0.length → l0.length - j = d →
    Ev (fun k => R.waystoneref08_Right.l0 k (j : Int) l0 l1) (if (l0.drop j).any badI then false else r) := by
  induction d with
  | zero =>
    intro j hj hd
    obtain rfl : j = l0.length := by omega
    refine Ev.step (fun k => by rw [R.waystoneref08_Right.l0]) ?_
    rw [List.drop_length, List.any_nil]
    simp only [Int.lt_irrefl, if_false, Bool.false_eq_true]
    exact hr
  | succ d ih =>
    intro j hj hd
    have hlt : j < l0.length := by omega
    have ih := ih (j + 1) (by omega) (by omega)
    refine Ev.step (fun k => by rw [R.waystoneref08_Right.l0]) ?_
    rw [List.drop_eq_getElem_cons hlt, List.any_cons]
    have e : rd l0 (j : Int) = l0[j] := by unfold rd; rw [Int.toNat_natCast, List.getD_eq_getElem?_getD, List.getElem?_eq_getElem hlt]; rfl
    simp only [show ((j : Int) < (l0.length : Int)) from by omega, show (0 : Int) ≤ (j : Int) from by omega, if_true, e, wrap_up hlt (by omega)]
    by_cases h1 : l0[j] < 1
    · have hb : badI l0[j] = true := by simp [badI, h1]
      simp only [h1, if_true, hb, Bool.true_or]
      exact Ev.now _
    · by_cases h2 : l0[j] > 4
      · have hb : badI l0[j] = true := by simp [badI]; omega
        simp only [h1, h2, if_true, if_false, hb, Bool.true_or]
        exact Ev.now _
      · have hb : badI l0[j] = false := by simp [badI]; omega
        simp only [h1, h2, if_true, if_false, hb, Bool.false_or]
        exact ih
def lp2 : List S66 → List S33
  | [] => []
  | l :: t => l.f0 :: l.f1 :: lp2 t
theorem lp2_ports : ∀ t : List S66, lp2 t = ports2 (t.map fun l => (l.f0, l.f1))
  | [] => rfl
  | l :: t => by simp [lp2, ports2, lp2_ports t]
theorem lp2_len : ∀ t : List S66, (lp2 t).length = 2 * t.length
  | [] => rfl
  | l :: t => by simp [lp2, lp2_len t]; omega
theorem lp2_append : ∀ s t : List S66, lp2 (s ++ t) = lp2 s ++ lp2 t
  | [], t => rfl
  | l :: s, t => by simp [lp2, lp2_append s t]
theorem refR_l1 (l0 : List Int) (l1 : List S66) (h1 : l1.length ≤ 1000) (r : Bool) (hr : Ev (fun k => R.waystoneref08_Right.l2 k (lp2 l1) 0 l0 l1) r) (d : Nat) : ∀ j : Nat, j ≤ l1.length → l1.length - j = d →
    Ev (fun k => R.waystoneref08_Right.l1 k (lp2 (l1.take j)) (j : Int) l0 l1) r := by
  induction d with
  | zero =>
    intro j hj hd
    obtain rfl : j = l1.length := by omega
    refine Ev.step (fun k => by rw [R.waystoneref08_Right.l1]) ?_
    rw [List.take_length]
    simp only [Int.lt_irrefl, if_false]
    exact hr
  | succ d ih =>
    intro j hj hd
    have hlt : j < l1.length := by omega
    have ih := ih (j + 1) (by omega) (by omega)
    refine Ev.step (fun k => by rw [R.waystoneref08_Right.l1]) ?_
    have e : rd_T66 l1 (j : Int) = l1[j] := by unfold rd_T66; rw [Int.toNat_natCast, List.getD_eq_getElem?_getD, List.getElem?_eq_getElem hlt]; rfl
    have hl : (lp2 (l1.take j)).length = 2 * j := by rw [lp2_len, List.length_take]; omega
    rw [List.take_succ_eq_append_getElem hlt, lp2_append] at ih
    simp only [show ((j : Int) < (l1.length : Int)) from by omega, show (0 : Int) ≤ (j : Int) from by omega, if_true, e, wrap_up hlt (by omega), Option.bind_some, List.length_cons, List.length_nil, hl, show 2 * j + (0 + 1 + 1) < 8796093022208 from by omega]
    exact ih
def chk (l0 : List Int) (pre : List S33) : List S33 → Bool
  | [] => true
  | x :: t => hasB l0 x && (!(pre.any fun y => decide (y = x)) && chk l0 (pre ++ [x]) t)
theorem chk_iff (l0 : List Int) : ∀ (t pre : List S33), chk l0 pre t = true ↔ ((∀ x, x ∈ t → hasB l0 x = true) ∧ t.Nodup ∧ ∀ x, x ∈ t → ¬ x ∈ pre)
  | [], pre => by simp [chk]
  | x :: t, pre => by
    have ih := chk_iff l0 t (pre ++ [x])
    simp only [chk, Bool.and_eq_true, Bool.not_eq_true', List.any_eq_false, decide_eq_true_iff, ih, List.mem_cons, List.nodup_cons, List.mem_append, List.mem_singleton]
    constructor
    · rintro ⟨h1, h2, h3, h4, h5⟩
      refine ⟨fun y hy => ?_, ⟨fun hx => h5 x hx (.inr (by simp)), h4⟩, fun y hy hp => ?_⟩
      · rcases hy with rfl | hy
        · exact h1
        · exact h3 y hy
      · rcases hy with rfl | hy
        · exact h2 y hp rfl
        · exact h5 y hy (.inl hp)
    · rintro ⟨h1, ⟨h2, h3⟩, h4⟩
      refine ⟨h1 x (.inl rfl), fun y hy e => ?_, fun y hy => h1 y (.inr hy), h3, fun y hy hp => ?_⟩
      · subst e; exact h4 y (.inl rfl) hy
      · rcases hp with hp | hp
        · exact h4 y (.inr hy) hp
        · simp at hp; subst hp; exact h2 hy
theorem rd27_at (L : List S33) (j : Nat) (h : j < L.length) : rd_T33 L (j : Int) = L[j] := by unfold rd_T33; rw [Int.toNat_natCast, List.getD_eq_getElem?_getD, List.getElem?_eq_getElem h]; rfl
theorem refR_l3 (l0 : List Int) (l1 : List S66) (all : List S33) (hl : all.length ≤ 10000) (i : Nat) (hi : i < all.length) (r : Bool) (hr : Ev (fun k => R.waystoneref08_Right.l2 k all ((i + 1 : Nat) : Int) l0 l1) r) (d : Nat) : ∀ m : Nat, m ≤ i → i - m = d →
    Ev (fun k => R.waystoneref08_Right.l3 k all (i : Int) (m : Int) l0 l1) (!(((all.take i).drop m).any fun y => decide (y = all[i])) && r) := by
  induction d with
  | zero =>
    intro m hm hd
    obtain rfl : m = i := by omega
    refine Ev.step (fun k => by rw [R.waystoneref08_Right.l3]) ?_
    rw [List.drop_eq_nil_of_le (by rw [List.length_take]; omega), List.any_nil]
    simp only [Int.lt_irrefl, if_false, Bool.not_false, Bool.true_and, wrap_up hi (by omega)]
    exact hr
  | succ d ih =>
    intro m hm hd
    have hlt : m < i := by omega
    have ih := ih (m + 1) (by omega) (by omega)
    refine Ev.step (fun k => by rw [R.waystoneref08_Right.l3]) ?_
    have hm2 : m < (all.take i).length := by rw [List.length_take]; omega
    rw [List.drop_eq_getElem_cons hm2, List.any_cons, List.getElem_take]
    simp only [show ((m : Int) < (i : Int)) from by omega, show (0 : Int) ≤ (m : Int) from by omega, show ((m : Int) < (all.length : Int)) from by omega, show (0 : Int) ≤ (i : Int) from by omega, show ((i : Int) < (all.length : Int)) from by omega, if_true, wrap_up (show m < all.length by omega) (by omega), rd27_at all m (by omega), rd27_at all i hi]
    rw [eqP_dec]
    by_cases h : all[m] = all[i]
    · simp only [h, decide_true, if_true, Bool.true_or, Bool.not_true, Bool.false_and]
      exact Ev.now _
    · simp only [h, decide_false, Bool.false_eq_true, if_false, Bool.false_or]
      exact ih
theorem refR_l2 (l0 : List Int) (l1 : List S66) (all : List S33) (hl : all.length ≤ 10000) (d : Nat) : ∀ i : Nat, i ≤ all.length → all.length - i = d →
    Ev (fun k => R.waystoneref08_Right.l2 k all (i : Int) l0 l1) (chk l0 (all.take i) (all.drop i)) := by
  induction d with
  | zero =>
    intro i hi hd
    obtain rfl : i = all.length := by omega
    refine Ev.step (fun k => by rw [R.waystoneref08_Right.l2]) ?_
    rw [List.drop_length]
    simp only [Int.lt_irrefl, if_false, chk]
    exact Ev.now _
  | succ d ih =>
    intro i hi hd
    have hlt : i < all.length := by omega
    have ih := ih (i + 1) (by omega) (by omega)
    refine Ev.step (fun k => by rw [R.waystoneref08_Right.l2]) ?_
    rw [List.drop_eq_getElem_cons hlt, chk]
    simp only [show ((i : Int) < (all.length : Int)) from by omega, show (0 : Int) ≤ (i : Int) from by omega, if_true, rd27_at all i hlt, ref8Has, Option.bind_some]
    show Ev (fun k => if hasB l0 all[i] = true then _ else _) _
    cases hq : hasB l0 all[i] with
    | false =>
      simp only [Bool.false_eq_true, if_false, Bool.false_and]
      exact Ev.now _
    | true =>
      simp only [if_true, Bool.true_and]
      rw [List.take_succ_eq_append_getElem hlt] at ih
      have h3 := refR_l3 l0 l1 all hl i hlt _ ih i 0 (by omega) (by omega)
      rw [List.drop_zero] at h3
      exact h3
theorem refRight_ev (l0 : List Int) (l1 : List S66) (h0 : l0.length ≤ 1000) (h1 : l1.length ≤ 1000) : Ev (fun k => R.waystoneref08_Right.f k l0 l1) (rightB l0 l1) := by
  have h2 := refR_l2 l0 l1 (lp2 l1) (by rw [lp2_len]; omega) _ 0 (by omega) rfl
  rw [List.take_zero, List.drop_zero] at h2
  have h3 := refR_l1 l0 l1 h1 _ h2 _ 0 (by omega) rfl
  rw [List.take_zero] at h3
  have h4 := refR_l0 l0 l1 h0 _ h3 _ 0 (by omega) rfl
  rw [List.drop_zero] at h4
  unfold R.waystoneref08_Right.f
  have hj : ∀ b : Bool, Ev (fun k => R.waystoneref08_Right.j0 k b l0 l1) (if b then false else (if l0.any badI then false else chk l0 [] (lp2 l1))) := by
    intro b
    refine Ev.step (fun k => by rw [R.waystoneref08_Right.j0]) ?_
    cases b with
    | true => simp only [if_true]; exact Ev.now _
    | false => simp only [Bool.false_eq_true, if_false]; exact h4
  by_cases c1 : (l0.length : Int) < 1
  · simp only [c1, if_true]
    have e : rightB l0 l1 = false := by unfold rightB; rw [if_pos (by omega)]
    rw [e]
    exact hj true
  · by_cases c2 : (l0.length : Int) > 8
    · simp only [c1, c2, if_true, if_false]
      have e : rightB l0 l1 = false := by unfold rightB; rw [if_neg (by omega), if_pos (by omega)]
      rw [e]
      exact hj true
    · simp only [c1, c2, if_false]
      by_cases c3 : (l1.length : Int) > 16
      · have e : rightB l0 l1 = false := by unfold rightB; rw [if_neg (by omega), if_neg (by omega), if_pos (by omega)]
        rw [e]
        have := hj true
        simp only [c3, decide_true]
        exact this
      · have hh := hj false
        simp only [c3, decide_false]
        simp only [Bool.false_eq_true, if_false] at hh
        have e : rightB l0 l1 = (if l0.any badI then false else chk l0 [] (lp2 l1)) := by
          rw [Bool.eq_iff_iff, right_iff]
          constructor
          · intro hr
            have hn : l0.any badI = false := by
              rw [List.any_eq_false]
              intro n hn
              have := hr.ports n hn
              simp [badI]; omega
            rw [hn]
            simp only [Bool.false_eq_true, if_false]
            rw [chk_iff, lp2_ports]
            refine ⟨fun x hx => ?_, hr.nodup, by simp⟩
            have key : ∀ t : List S66, (∀ l, l ∈ t → hasB l0 l.f0 = true ∧ hasB l0 l.f1 = true) → x ∈ ports2 (t.map fun l => (l.f0, l.f1)) → hasB l0 x = true := by
              intro t
              induction t with
              | nil => intro _ h; simp [ports2] at h
              | cons y t ih =>
                intro hh hm
                simp only [List.map_cons, ports2, List.mem_cons] at hm
                rcases hm with rfl | rfl | hm
                · exact (hh y (by simp)).1
                · exact (hh y (by simp)).2
                · exact ih (fun l hl => hh l (by simp [hl])) hm
            exact key l1 hr.has hx
          · intro hc
            split at hc
            · cases hc
            rename_i hn
            rw [chk_iff, lp2_ports] at hc
            refine ⟨by omega, by omega, fun l hl => ?_, fun n hn2 => ?_, hc.2.1, by omega⟩
            · have key : ∀ t : List S66, l ∈ t → l.f0 ∈ ports2 (t.map fun l => (l.f0, l.f1)) ∧ l.f1 ∈ ports2 (t.map fun l => (l.f0, l.f1)) := by
                intro t
                induction t with
                | nil => intro h; simp at h
                | cons y t ih =>
                  intro hm
                  simp only [List.map_cons, ports2, List.mem_cons]
                  rcases List.mem_cons.1 hm with rfl | hm
                  · exact ⟨.inl rfl, .inr (.inl rfl)⟩
                  · have := ih hm
                    exact ⟨.inr (.inr this.1), .inr (.inr this.2)⟩
              have hk := key l1 hl
              exact ⟨hc.1 _ hk.1, hc.1 _ hk.2⟩
            · have := (List.any_eq_false.1 (by simpa using hn)) n hn2
              simp [badI] at this
              omega
        rw [e]
        exact hh
theorem refF_l0 (l0 : List Int) (l1 : List S66) (l : List S62) (hl : l.length ≤ 9223372036854775807) (d : Nat) : ∀ j : Nat, j ≤ l.length → l.length - j = d →
    Ev (fun k => R.waystoneref08_Fits.l0 k l (j : Int) l0 l1) (!(l.drop j).any (badR l0)) := by
  induction d with
  | zero =>
    intro j hj hd
    obtain rfl : j = l.length := by omega
    refine Ev.step (fun k => by rw [R.waystoneref08_Fits.l0]) ?_
    rw [List.drop_length, List.any_nil]
    simp only [Int.lt_irrefl, if_false, Bool.not_false]
    exact Ev.now _
  | succ d ih =>
    intro j hj hd
    have hlt : j < l.length := by omega
    have ih := ih (j + 1) (by omega) (by omega)
    refine Ev.step (fun k => by rw [R.waystoneref08_Fits.l0]) ?_
    rw [List.drop_eq_getElem_cons hlt, List.any_cons]
    have e : rd_T62 l (j : Int) = l[j] := by unfold rd_T62; rw [Int.toNat_natCast, List.getD_eq_getElem?_getD, List.getElem?_eq_getElem hlt]; rfl
    simp only [show ((j : Int) < (l.length : Int)) from by omega, show (0 : Int) ≤ (j : Int) from by omega, if_true, e, wrap_up hlt hl, ref8Has, Option.bind_some]
    cases hq : hasB l0 ⟨(l[j]).f1, (l[j]).f5⟩ with
    | false =>
      have hb : badR l0 l[j] = true := by simp [badR, hq]
      simp only [Bool.false_eq_true, if_false, hb, Bool.true_or, Bool.not_true]
      exact Ev.now _
    | true =>
      have hb : badR l0 l[j] = false := by simp [badR, hq]
      simp only [if_true, hb, Bool.false_or]
      exact ih
theorem refFits_ev (l0 : List Int) (l1 : List S66) (l : List S62) (hl : l.length ≤ 9223372036854775807) : Ev (fun k => R.waystoneref08_Fits.f k l0 l1 l) (!l.any (badR l0)) := by
  have h := refF_l0 l0 l1 l hl _ 0 (by omega) rfl
  rw [List.drop_zero] at h
  exact h
end Go.Proofs.Ytkjighagiecbaaa.H
/-! ### EdtP -/
namespace Go.Proofs.Ytkjighagiecbaaa.H
open Go.RowKit Go.Proofs.Ytkjighagiecbaaa.P Go.Proofs.YtkjighagiecbaaaW.PrintWords
set_option linter.unusedVariables false
set_option linter.unusedSimpArgs false
abbrev Rle := S62
structure Codes where
  w : Int
  t : Int
  n : Int
  f : Int
section
variable {c : Codes} {m : Nat} {right : Rle → Bool}
end
section
variable {c : Codes} {m : Nat} {right : Rle → Bool}
end
end Go.Proofs.Ytkjighagiecbaaa.H
/-! ### EdtW -/
namespace Go.Proofs.Ytkjighagiecbaaa.H
open Go.RowKit Go.Proofs.Ytkjighagiecbaaa.P Go.Proofs.YtkjighagiecbaaaW.PrintWords
set_option linter.unusedVariables false
set_option linter.unusedSimpArgs false
def allP (right : Rle → Bool) : Int → List Rle → Bool
  | _, [] => true
  | last, r :: l => right r && (decide (last < r.f0) && allP right r.f0 l)
def allD (right : Rle → Bool) : Option Int → List Rle → Bool
  | _, [] => true
  | none, r :: l => right r && allD right (some r.f0) l
  | some a, r :: l => right r && (decide (a < r.f0) && allD right (some r.f0) l)
theorem all_some (right : Rle → Bool) : ∀ (l : List Rle) (a : Int), allP right a l = allD right (some a) l
  | [], a => rfl
  | r :: l, a => by rw [allP, allD, all_some right l]
theorem all_same (right : Rle → Bool) (hp : ∀ r, right r = true → 0 < r.f0) : ∀ l : List Rle, allP right 0 l = allD right none l
  | [] => rfl
  | r :: l => by
    rw [allP, allD, all_some right l]
    cases e : right r with
    | false => rfl
    | true =>
      have := hp r e
      rw [decide_eq_true this]
      rfl
end Go.Proofs.Ytkjighagiecbaaa.H
