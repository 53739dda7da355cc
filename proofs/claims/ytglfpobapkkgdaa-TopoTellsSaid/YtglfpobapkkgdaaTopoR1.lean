/- What the document's answers for topologies come to. -/
import Derived.Test.YtglfpobapkkgdaaTopo10
import Derived.Test.YtglfpobapkkgdaaPx4
import Derived.Test.YtglfpobapkkgdaaPx7
import Derived.Test.YtglfpobapkkgdaaPx8
import Derived.Test.YtglfpobapkkgdaaPx9
namespace Go.Proofs.Ytglfpobapkkgdaa.H
open Go.RowKit Go.Proofs.Ytglfpobapkkgdaa.P Go.Proofs.YtglfpobapkkgdaaW.PrintWords Go.Proofs.YtglfpobapkkgdaaW.PrintLast Go.Proofs.YtglfpobapkkgdaaW.PrintMore
set_option linter.unusedVariables false
set_option linter.unusedSimpArgs false
theorem wrap_up {j n : Nat} (h : j < n) (hn : n ≤ 9223372036854775807) : wrap64 ((j : Int) + 1) = ((j + 1 : Nat) : Int) := by unfold wrap64; omega
theorem Ev.mk' {α : Type} {g : Nat → Option α} {r : α} (h : ∃ K, ∀ k, K ≤ k → g k = some r) : Ev g r := h
/-! ### Right -/
theorem refR_l0 (l0 : List Int) (l1 : List S38) (h0 : l0.length ≤ 1000) (r : Bool) (hr : Ev (fun k => waystoneref08_Right.l1 k [] 0 l0 l1) r) (d : Nat) : ∀ j : Nat, j ≤ l0.length → l0.length - j = d →
    Ev (fun k => waystoneref08_Right.l0 k (j : Int) l0 l1) (if (l0.drop j).any badI then false else r) := by
  induction d with
  | zero =>
    intro j hj hd
    obtain rfl : j = l0.length := by omega
    refine Ev.step (fun k => by rw [waystoneref08_Right.l0]) ?_
    rw [List.drop_length, List.any_nil]
    simp only [Int.lt_irrefl, if_false, Bool.false_eq_true]
    exact hr
  | succ d ih =>
    intro j hj hd
    have hlt : j < l0.length := by omega
    have ih := ih (j + 1) (by omega) (by omega)
    refine Ev.step (fun k => by rw [waystoneref08_Right.l0]) ?_
    rw [List.drop_eq_getElem_cons hlt, List.any_cons]
    have e : rd l0 (j : Int) = l0[j] := by unfold rd; rw [Int.toNat_natCast, List.getD_eq_getElem?_getD, List.getElem?_eq_getElem hlt]; rfl
    simp only [show ((j : Int) < (l0.length : Int)) from by omega, show (0 : Int) ≤ (j : Int) from by omega, if_true, e, wrap_up hlt (by omega)]
    by_cases h1 : l0[j] < 1
    · have hb : badI l0[j] = true := by simp [badI, h1]
      simp only [h1, if_true, hb, Bool.true_or]
      exact Ev.now _
    · by_cases h2 : l0[j] > 4
      · have hb : badI l0[j] = true := by simp [badI]; omega
        simp only [h1, h2, if_true, if_false, hb, Bool.true_or]
        exact Ev.now _
      · have hb : badI l0[j] = false := by simp [badI]; omega
        simp only [h1, h2, if_true, if_false, hb, Bool.false_or]
        exact ih
def lp2 : List S38 → List S27
  | [] => []
  | l :: t => l.f0 :: l.f1 :: lp2 t
theorem lp2_ports : ∀ t : List S38, lp2 t = ports2 (t.map fun l => (l.f0, l.f1))
  | [] => rfl
  | l :: t => by simp [lp2, ports2, lp2_ports t]
theorem lp2_len : ∀ t : List S38, (lp2 t).length = 2 * t.length
  | [] => rfl
  | l :: t => by simp [lp2, lp2_len t]; omega
theorem lp2_append : ∀ s t : List S38, lp2 (s ++ t) = lp2 s ++ lp2 t
  | [], t => rfl
  | l :: s, t => by simp [lp2, lp2_append s t]
theorem refR_l1 (l0 : List Int) (l1 : List S38) (h1 : l1.length ≤ 1000) (r : Bool) (hr : Ev (fun k => waystoneref08_Right.l2 k (lp2 l1) 0 l0 l1) r) (d : Nat) : ∀ j : Nat, j ≤ l1.length → l1.length - j = d →
    Ev (fun k => waystoneref08_Right.l1 k (lp2 (l1.take j)) (j : Int) l0 l1) r := by
  induction d with
  | zero =>
    intro j hj hd
    obtain rfl : j = l1.length := by omega
    refine Ev.step (fun k => by rw [waystoneref08_Right.l1]) ?_
    rw [List.take_length]
    simp only [Int.lt_irrefl, if_false]
    exact hr
  | succ d ih =>
    intro j hj hd
    have hlt : j < l1.length := by omega
    have ih := ih (j + 1) (by omega) (by omega)
    refine Ev.step (fun k => by rw [waystoneref08_Right.l1]) ?_
    have e : rd_T38 l1 (j : Int) = l1[j] := by unfold rd_T38; rw [Int.toNat_natCast, List.getD_eq_getElem?_getD, List.getElem?_eq_getElem hlt]; rfl
    have hl : (lp2 (l1.take j)).length = 2 * j := by rw [lp2_len, List.length_take]; omega
    rw [List.take_succ_eq_append_getElem hlt, lp2_append] at ih
    simp only [show ((j : Int) < (l1.length : Int)) from by omega, show (0 : Int) ≤ (j : Int) from by omega, if_true, e, wrap_up hlt (by omega), Option.bind_some, List.length_cons, List.length_nil, hl, show 2 * j + (0 + 1 + 1) < 8796093022208 from by omega]
    exact ih
/-- Each one there, and none twice. -/
def chk (l0 : List Int) (pre : List S27) : List S27 → Bool
  | [] => true
  | x :: t => hasB l0 x && (!(pre.any fun y => decide (y = x)) && chk l0 (pre ++ [x]) t)
theorem chk_iff (l0 : List Int) : ∀ (t pre : List S27), chk l0 pre t = true ↔ ((∀ x, x ∈ t → hasB l0 x = true) ∧ t.Nodup ∧ ∀ x, x ∈ t → ¬ x ∈ pre)
  | [], pre => by simp [chk]
  | x :: t, pre => by
    have ih := chk_iff l0 t (pre ++ [x])
    simp only [chk, Bool.and_eq_true, Bool.not_eq_true', List.any_eq_false, decide_eq_true_iff, ih, List.mem_cons, List.nodup_cons, List.mem_append, List.mem_singleton]
    constructor
    · rintro ⟨h1, h2, h3, h4, h5⟩
      refine ⟨fun y hy => ?_, ⟨fun hx => h5 x hx (.inr (by simp)), h4⟩, fun y hy hp => ?_⟩
      · rcases hy with rfl | hy
        · exact h1
        · exact h3 y hy
      · rcases hy with rfl | hy
        · exact h2 y hp rfl
        · exact h5 y hy (.inl hp)
    · rintro ⟨h1, ⟨h2, h3⟩, h4⟩
      refine ⟨h1 x (.inl rfl), fun y hy e => ?_, fun y hy => h1 y (.inr hy), h3, fun y hy hp => ?_⟩
      · subst e; exact h4 y (.inl rfl) hy
      · rcases hp with hp | hp
        · exact h4 y (.inr hy) hp
        · simp at hp; subst hp; exact h2 hy
theorem rd27_at (L : List S27) (j : Nat) (h : j < L.length) : rd_T27 L (j : Int) = L[j] := by unfold rd_T27; rw [Int.toNat_natCast, List.getD_eq_getElem?_getD, List.getElem?_eq_getElem h]; rfl
theorem refR_l3 (l0 : List Int) (l1 : List S38) (all : List S27) (hl : all.length ≤ 10000) (i : Nat) (hi : i < all.length) (r : Bool) (hr : Ev (fun k => waystoneref08_Right.l2 k all ((i + 1 : Nat) : Int) l0 l1) r) (d : Nat) : ∀ m : Nat, m ≤ i → i - m = d →
    Ev (fun k => waystoneref08_Right.l3 k all (i : Int) (m : Int) l0 l1) (!(((all.take i).drop m).any fun y => decide (y = all[i])) && r) := by
  induction d with
  | zero =>
    intro m hm hd
    obtain rfl : m = i := by omega
    refine Ev.step (fun k => by rw [waystoneref08_Right.l3]) ?_
    rw [List.drop_eq_nil_of_le (by rw [List.length_take]; omega), List.any_nil]
    simp only [Int.lt_irrefl, if_false, Bool.not_false, Bool.true_and, wrap_up hi (by omega)]
    exact hr
  | succ d ih =>
    intro m hm hd
    have hlt : m < i := by omega
    have ih := ih (m + 1) (by omega) (by omega)
    refine Ev.step (fun k => by rw [waystoneref08_Right.l3]) ?_
    have hm2 : m < (all.take i).length := by rw [List.length_take]; omega
    rw [List.drop_eq_getElem_cons hm2, List.any_cons, List.getElem_take]
    simp only [show ((m : Int) < (i : Int)) from by omega, show (0 : Int) ≤ (m : Int) from by omega, show ((m : Int) < (all.length : Int)) from by omega, show (0 : Int) ≤ (i : Int) from by omega, show ((i : Int) < (all.length : Int)) from by omega, if_true, wrap_up (show m < all.length by omega) (by omega), rd27_at all m (by omega), rd27_at all i hi]
    rw [eqP_dec]
    by_cases h : all[m] = all[i]
    · simp only [h, decide_true, if_true, Bool.true_or, Bool.not_true, Bool.false_and]
      exact Ev.now _
    · simp only [h, decide_false, Bool.false_eq_true, if_false, Bool.false_or]
      exact ih
theorem refR_l2 (l0 : List Int) (l1 : List S38) (all : List S27) (hl : all.length ≤ 10000) (d : Nat) : ∀ i : Nat, i ≤ all.length → all.length - i = d →
    Ev (fun k => waystoneref08_Right.l2 k all (i : Int) l0 l1) (chk l0 (all.take i) (all.drop i)) := by
  induction d with
  | zero =>
    intro i hi hd
    obtain rfl : i = all.length := by omega
    refine Ev.step (fun k => by rw [waystoneref08_Right.l2]) ?_
    rw [List.drop_length]
    simp only [Int.lt_irrefl, if_false, chk]
    exact Ev.now _
  | succ d ih =>
    intro i hi hd
    have hlt : i < all.length := by omega
    have ih := ih (i + 1) (by omega) (by omega)
    refine Ev.step (fun k => by rw [waystoneref08_Right.l2]) ?_
    rw [List.drop_eq_getElem_cons hlt, chk]
    simp only [show ((i : Int) < (all.length : Int)) from by omega, show (0 : Int) ≤ (i : Int) from by omega, if_true, rd27_at all i hlt, waystoneref08_Has.f, Option.bind_some]
    show Ev (fun k => if hasB l0 all[i] = true then _ else _) _
    cases hq : hasB l0 all[i] with
    | false =>
      simp only [Bool.false_eq_true, if_false, Bool.false_and]
      exact Ev.now _
    | true =>
      simp only [if_true, Bool.true_and]
      rw [List.take_succ_eq_append_getElem hlt] at ih
      have h3 := refR_l3 l0 l1 all hl i hlt _ ih i 0 (by omega) (by omega)
      rw [List.drop_zero] at h3
      exact h3
theorem ev_true_false {g : Nat → Option Bool} {b : Bool} (h : Ev g b) : Ev g b := h
theorem refRight_ev (l0 : List Int) (l1 : List S38) (h0 : l0.length ≤ 1000) (h1 : l1.length ≤ 1000) : Ev (fun k => waystoneref08_Right.f k l0 l1) (rightB l0 l1) := by
  have h2 := refR_l2 l0 l1 (lp2 l1) (by rw [lp2_len]; omega) _ 0 (by omega) rfl
  rw [List.take_zero, List.drop_zero] at h2
  have h3 := refR_l1 l0 l1 h1 _ h2 _ 0 (by omega) rfl
  rw [List.take_zero] at h3
  have h4 := refR_l0 l0 l1 h0 _ h3 _ 0 (by omega) rfl
  rw [List.drop_zero] at h4
  unfold waystoneref08_Right.f
  have hj : ∀ b : Bool, Ev (fun k => waystoneref08_Right.j0 k b l0 l1) (if b then false else (if l0.any badI then false else chk l0 [] (lp2 l1))) := by
    intro b
    refine Ev.step (fun k => by rw [waystoneref08_Right.j0]) ?_
    cases b with
    | true => simp only [if_true]; exact Ev.now _
    | false => simp only [Bool.false_eq_true, if_false]; exact h4
  by_cases c1 : (l0.length : Int) < 1
  · simp only [c1, if_true]
    have e : rightB l0 l1 = false := by unfold rightB; rw [if_pos (by omega)]
    rw [e]
    exact hj true
  · by_cases c2 : (l0.length : Int) > 8
    · simp only [c1, c2, if_true, if_false]
      have e : rightB l0 l1 = false := by unfold rightB; rw [if_neg (by omega), if_pos (by omega)]
      rw [e]
      exact hj true
    · simp only [c1, c2, if_false]
      by_cases c3 : (l1.length : Int) > 16
      · have e : rightB l0 l1 = false := by unfold rightB; rw [if_neg (by omega), if_neg (by omega), if_pos (by omega)]
        rw [e]
        have := hj true
        simp only [c3, decide_true]
        exact this
      · have hh := hj false
        simp only [c3, decide_false]
        simp only [Bool.false_eq_true, if_false] at hh
        have e : rightB l0 l1 = (if l0.any badI then false else chk l0 [] (lp2 l1)) := by
          rw [Bool.eq_iff_iff, right_iff]
          constructor
          · intro hr
            have hn : l0.any badI = false := by
              rw [List.any_eq_false]
              intro n hn
              have := hr.ports n hn
              simp [badI]; omega
            rw [hn]
            simp only [Bool.false_eq_true, if_false]
            rw [chk_iff, lp2_ports]
            refine ⟨fun x hx => ?_, hr.nodup, by simp⟩
            have key : ∀ t : List S38, (∀ l, l ∈ t → hasB l0 l.f0 = true ∧ hasB l0 l.f1 = true) → x ∈ ports2 (t.map fun l => (l.f0, l.f1)) → hasB l0 x = true := by
              intro t
              induction t with
              | nil => intro _ h; simp [ports2] at h
              | cons y t ih =>
                intro hh hm
                simp only [List.map_cons, ports2, List.mem_cons] at hm
                rcases hm with rfl | rfl | hm
                · exact (hh y (by simp)).1
                · exact (hh y (by simp)).2
                · exact ih (fun l hl => hh l (by simp [hl])) hm
            exact key l1 hr.has hx
          · intro hc
            split at hc
            · cases hc
            rename_i hn
            rw [chk_iff, lp2_ports] at hc
            refine ⟨by omega, by omega, fun l hl => ?_, fun n hn2 => ?_, hc.2.1, by omega⟩
            · have key : ∀ t : List S38, l ∈ t → l.f0 ∈ ports2 (t.map fun l => (l.f0, l.f1)) ∧ l.f1 ∈ ports2 (t.map fun l => (l.f0, l.f1)) := by
                intro t
                induction t with
                | nil => intro h; simp at h
                | cons y t ih =>
                  intro hm
                  simp only [List.map_cons, ports2, List.mem_cons]
                  rcases List.mem_cons.1 hm with rfl | hm
                  · exact ⟨.inl rfl, .inr (.inl rfl)⟩
                  · have := ih hm
                    exact ⟨.inr (.inr this.1), .inr (.inr this.2)⟩
              have hk := key l1 hl
              exact ⟨hc.1 _ hk.1, hc.1 _ hk.2⟩
            · have := (List.any_eq_false.1 (by simpa using hn)) n hn2
              simp [badI] at this
              omega
        rw [e]
        exact hh
/-! ### Fits -/
theorem refF_l0 (l0 : List Int) (l1 : List S38) (l : List S63) (hl : l.length ≤ 9223372036854775807) (d : Nat) : ∀ j : Nat, j ≤ l.length → l.length - j = d →
    Ev (fun k => waystoneref08_Fits.l0 k l (j : Int) l0 l1) (!(l.drop j).any (badR l0)) := by
  induction d with
  | zero =>
    intro j hj hd
    obtain rfl : j = l.length := by omega
    refine Ev.step (fun k => by rw [waystoneref08_Fits.l0]) ?_
    rw [List.drop_length, List.any_nil]
    simp only [Int.lt_irrefl, if_false, Bool.not_false]
    exact Ev.now _
  | succ d ih =>
    intro j hj hd
    have hlt : j < l.length := by omega
    have ih := ih (j + 1) (by omega) (by omega)
    refine Ev.step (fun k => by rw [waystoneref08_Fits.l0]) ?_
    rw [List.drop_eq_getElem_cons hlt, List.any_cons]
    have e : rd_T63 l (j : Int) = l[j] := by unfold rd_T63; rw [Int.toNat_natCast, List.getD_eq_getElem?_getD, List.getElem?_eq_getElem hlt]; rfl
    simp only [show ((j : Int) < (l.length : Int)) from by omega, show (0 : Int) ≤ (j : Int) from by omega, if_true, e, wrap_up hlt hl, waystoneref08_Has.f, Option.bind_some]
    cases hq : hasB l0 ⟨(l[j]).f1, (l[j]).f5⟩ with
    | false =>
      have hb : badR l0 l[j] = true := by simp [badR, hq]
      simp only [Bool.false_eq_true, if_false, hb, Bool.true_or, Bool.not_true]
      exact Ev.now _
    | true =>
      have hb : badR l0 l[j] = false := by simp [badR, hq]
      simp only [if_true, hb, Bool.false_or]
      exact ih
theorem refFits_ev (l0 : List Int) (l1 : List S38) (l : List S63) (hl : l.length ≤ 9223372036854775807) : Ev (fun k => waystoneref08_Fits.f k l0 l1 l) (!l.any (badR l0)) := by
  have h := refF_l0 l0 l1 l hl _ 0 (by omega) rfl
  rw [List.drop_zero] at h
  exact h
/-! ### All -/
theorem within_some (a b : Int) : ∃ r, waystoneref07_within.f a b = some r := by
  unfold waystoneref07_within.f
  split <;> exact ⟨_, rfl⟩
theorem ref7Right_some (a b c d e f g : Int) : ∃ r, waystoneref07_Right.f a b c d e f g = some r := by
  obtain ⟨r1, h1⟩ := within_some (wrap64 (a - 1)) 1048575
  obtain ⟨r2, h2⟩ := within_some b 7
  obtain ⟨r3, h3⟩ := within_some c 1024
  obtain ⟨r4, h4⟩ := within_some d 3
  obtain ⟨r5, h5⟩ := within_some g 3
  unfold waystoneref07_Right.f
  simp only [h1, h2, h3, h4, h5, Option.bind_some]
  repeat' split
  all_goals exact ⟨_, rfl⟩
theorem refA_l0 (l : List S63) (hl : l.length ≤ 9223372036854775807) (d : Nat) : ∀ j : Nat, j ≤ l.length → l.length - j = d → ∃ r, Ev (fun k => waystoneref07_All.l0 k l (j : Int)) r := by
  induction d with
  | zero =>
    intro j hj hd
    obtain rfl : j = l.length := by omega
    refine ⟨decide ((l.length : Int) ≤ 40), Ev.step (fun k => by rw [waystoneref07_All.l0]) ?_⟩
    simp only [Int.lt_irrefl, if_false]
    exact Ev.now _
  | succ d ih =>
    intro j hj hd
    have hlt : j < l.length := by omega
    obtain ⟨r, ih⟩ := ih (j + 1) (by omega) (by omega)
    obtain ⟨q, hq⟩ := ref7Right_some (rd_T63 l (j : Int)).f0 (rd_T63 l (j : Int)).f1 (rd_T63 l (j : Int)).f2 (rd_T63 l (j : Int)).f3 (rd_T63 l (j : Int)).f4.f0 (rd_T63 l (j : Int)).f4.f1 (rd_T63 l (j : Int)).f5
    have key : ∃ r, Ev (fun k => if q = true then (if (j : Int) > 0 then (if 0 ≤ (wrap64 ((j : Int) - 1)) then (if (wrap64 ((j : Int) - 1)) < (l.length : Int) then (if ((rd_T63 l (wrap64 ((j : Int) - 1))).f0) ≥ ((rd_T63 l (j : Int)).f0) then (some false) else (waystoneref07_All.l0 k l (((j + 1 : Nat) : Int)))) else (none)) else (none)) else (waystoneref07_All.l0 k l (((j + 1 : Nat) : Int)))) else (some false)) r := by
      cases q with
      | false => exact ⟨false, by simp only [Bool.false_eq_true, if_false]; exact Ev.now _⟩
      | true =>
        simp only [if_true]
        by_cases c1 : (j : Int) > 0
        · have hw : wrap64 ((j : Int) - 1) = (j : Int) - 1 := by unfold wrap64; omega
          simp only [c1, if_true, hw, show (0 : Int) ≤ (j : Int) - 1 from by omega, show (j : Int) - 1 < (l.length : Int) from by omega]
          by_cases c2 : (rd_T63 l ((j : Int) - 1)).f0 ≥ (rd_T63 l (j : Int)).f0
          · simp only [c2, if_true]; exact ⟨false, Ev.now _⟩
          · simp only [c2, if_false]; exact ⟨r, ih⟩
        · simp only [c1, if_false]; exact ⟨r, ih⟩
    obtain ⟨r', hr'⟩ := key
    refine ⟨r', Ev.step (fun k => by rw [waystoneref07_All.l0]) ?_⟩
    simp only [show ((j : Int) < (l.length : Int)) from by omega, show (0 : Int) ≤ (j : Int) from by omega, if_true, hq, Option.bind_some, wrap_up hlt hl]
    exact hr'
theorem refAll_ev (l : List S63) (hl : l.length ≤ 9223372036854775807) : ∃ r, Ev (fun k => waystoneref07_All.f k l) r := refA_l0 l hl _ 0 (by omega) rfl
/-! ### Reaches -/
theorem rd38_at (L : List S38) (j : Nat) (h : j < L.length) : rd_T38 L (j : Int) = L[j] := by unfold rd_T38; rw [Int.toNat_natCast, List.getD_eq_getElem?_getD, List.getElem?_eq_getElem h]; rfl
theorem refX_l1 (l0 : List Int) (l1 : List S38) (n : Nat) (hrg : Ranged (devs l1) n) (h1 : l1.length ≤ 1000) (b : Int) (r : Nat) (q : Bool)
    (d : Nat) : ∀ (j : Nat) (s : List Bool), j ≤ l1.length → l1.length - j = d → s.length = n →
    Ev (fun k => waystoneref08_Reaches.l0 k b (n : Int) (rround ((devs l1).drop j) s) (wrap64 ((r : Int) + 1)) l0 l1) q →
    Ev (fun k => waystoneref08_Reaches.l1 k b (n : Int) s (r : Int) (j : Int) l0 l1) q := by
  induction d with
  | zero =>
    intro j s hj hd hs h
    obtain rfl : j = l1.length := by omega
    refine Ev.step (fun k => by rw [waystoneref08_Reaches.l1]) ?_
    rw [List.drop_eq_nil_of_le (by simp [devs])] at h
    simp only [Int.lt_irrefl, if_false]
    exact h
  | succ d ih =>
    intro j s hj hd hs h
    have hlt : j < l1.length := by omega
    refine Ev.step (fun k => by rw [waystoneref08_Reaches.l1]) ?_
    have hm := hrg.all _ (link_at l1 j hlt)
    rw [rd38_at l1 j hlt] at hm
    simp only [] at hm
    have hdl : j < (devs l1).length := by simpa [devs] using hlt
    rw [List.drop_eq_getElem_cons hdl] at h
    have e : (devs l1)[j] = ((l1[j]).f0.f0, (l1[j]).f1.f0) := by simp [devs]
    rw [e] at h
    have h2 : Ev (fun k => waystoneref08_Reaches.l0 k b (n : Int) (rround ((devs l1).drop (j + 1)) (rlink s ((l1[j]).f0.f0, (l1[j]).f1.f0))) (wrap64 ((r : Int) + 1)) l0 l1) q := h
    have ih := ih (j + 1) _ (by omega) (by omega) ((rlink_len _ _).trans hs) h2
    simp only [show ((j : Int) < (l1.length : Int)) from by omega, show (0 : Int) ≤ (j : Int) from by omega, if_true, rd38_at l1 j hlt, wrap_up hlt (by omega), hm.1, show ((l1[j]).f0.f0 < (s.length : Int)) from by omega, hm.2.2.1, show ((l1[j]).f1.f0 < (s.length : Int)) from by omega]
    unfold rlink at ih
    simp only [] at ih
    cases hq : rdOf false s (l1[j]).f0.f0 with
    | true =>
      unfold rdOf at hq
      rw [hq] at ih
      simp only [if_true, Bool.true_or] at ih ⊢
      exact ih
    | false =>
      unfold rdOf at hq ⊢
      rw [hq] at ih
      simp only [Bool.false_eq_true, if_false, Bool.false_or] at ih ⊢
      exact ih
theorem refX_l0 (l0 : List Int) (l1 : List S38) (n : Nat) (hn : n ≤ 1000) (hrg : Ranged (devs l1) n) (h1 : l1.length ≤ 1000) (b : Int) (hb0 : 0 ≤ b) (hbn : b < n) (d : Nat) : ∀ (r : Nat) (s : List Bool), r ≤ n → n - r = d → s.length = n →
    Ev (fun k => waystoneref08_Reaches.l0 k b (n : Int) s (r : Int) l0 l1) (rdOf false (rrounds (devs l1) d s) b) := by
  induction d with
  | zero =>
    intro r s hr hd hs
    obtain rfl : r = n := by omega
    refine Ev.step (fun k => by rw [waystoneref08_Reaches.l0]) ?_
    simp only [Int.lt_irrefl, if_false, hb0, if_true, show b < (s.length : Int) from by omega, rrounds]
    exact Ev.now _
  | succ d ih =>
    intro r s hr hd hs
    have hlt : r < n := by omega
    have ih := ih (r + 1) (rround (devs l1) s) (by omega) (by omega) (by rw [rround_len]; exact hs)
    refine Ev.step (fun k => by rw [waystoneref08_Reaches.l0]) ?_
    simp only [show ((r : Int) < (n : Int)) from by omega, if_true]
    refine refX_l1 l0 l1 n hrg h1 b r _ _ 0 s (by omega) rfl hs ?_
    rw [List.drop_zero, wrap_up hlt (by omega)]
    exact ih
theorem refReaches_ev (l0 : List Int) (l1 : List S38) (a b : Int) (hn : l0.length ≤ 1000) (hrg : Ranged (devs l1) l0.length) (h1 : l1.length ≤ 1000) : Ev (fun k => waystoneref08_Reaches.f k l0 l1 a b) (connB l0.length l1 a b) := by
  unfold waystoneref08_Reaches.f
  have ht : Ev (fun k => waystoneref08_Reaches.j0 k a b (l0.length : Int) true l0 l1) false := by
    refine Ev.step (fun k => by rw [waystoneref08_Reaches.j0]) ?_
    simp only [if_true]
    exact Ev.now _
  by_cases c1 : a < 0
  · simp only [c1, if_true]
    rw [connB_out _ _ _ _ (by omega)]
    exact ht
  · by_cases c2 : a ≥ (l0.length : Int)
    · simp only [c1, c2, if_true, if_false]
      rw [connB_out _ _ _ _ (by omega)]
      exact ht
    · by_cases c3 : b < 0
      · simp only [c1, c2, c3, if_true, if_false]
        rw [connB_out _ _ _ _ (by omega)]
        exact ht
      · by_cases c4 : b ≥ (l0.length : Int)
        · simp only [c1, c2, c3, c4, if_false, decide_true]
          rw [connB_out _ _ _ _ (by omega)]
          exact ht
        · simp only [c1, c2, c3, c4, if_false, decide_false]
          refine Ev.step (fun k => by rw [waystoneref08_Reaches.j0]) ?_
          have h := refX_l0 l0 l1 l0.length hn hrg h1 b (by omega) (by omega) l0.length 0 ((List.replicate l0.length false).set a.toNat true) (by omega) rfl (by simp)
          have e : connB l0.length l1 a b = rdOf false (rrounds (devs l1) l0.length ((List.replicate l0.length false).set a.toNat true)) b := by
            have := rrounds_conn (devs l1) l0.length a (by omega) (by omega) hrg b
            rw [Bool.eq_iff_iff, connB_iff, ← this]
            exact ⟨fun h => h.2, fun h => ⟨by omega, h⟩⟩
          rw [e]
          simp only [Bool.false_eq_true, if_false, show (0 : Int) ≤ (l0.length : Int) from by omega, if_true, Int.toNat_natCast, show l0.length ≤ 281474976710656 from by omega, Option.bind_some, show 0 ≤ a from by omega, List.length_replicate, show a < (l0.length : Int) from by omega]
          exact h
end Go.Proofs.Ytglfpobapkkgdaa.H
