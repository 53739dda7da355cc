/- OrderDoes: IT DOES. -/
import Derived.Test.YtncdeappiooccaaQx2
namespace Go.Proofs.Ytncdeappiooccaa.H
open Go.RowKit Go.Proofs.Ytncdeappiooccaa.P Go.Proofs.YtncdeappiooccaaW.PrintWords Go.Proofs.YtncdeappiooccaaW.PrintLast Go.Proofs.YtncdeappiooccaaW.PrintMore
set_option linter.unusedVariables false
set_option linter.unusedSimpArgs false
theorem w64 (j : Nat) (hj : j ≤ 1000) : wrap64 ((j : Int) + 1) = ((j + 1 : Nat) : Int) := by unfold wrap64; omega
theorem ints_same : ∀ (n j : Nat) (l : List Int), l.length ≤ 1000 → l.length - j < n → j ≤ l.length → Q.waystoneref06_Ints.l0 n l l (j : Int) = some true
  | 0, _, _, _, hn, _ => absurd hn (by omega)
  | n + 1, j, l, hl, hn, hj => by
    rw [Q.waystoneref06_Ints.l0]
    by_cases e : j < l.length
    · have ih := ints_same n (j + 1) l hl (by omega) (by omega)
      rw [w64 j (by omega)]
      simp [e]
      simpa using ih
    · obtain rfl : j = l.length := by omega
      simp
theorem does_l1 (h : List S47) (a1 : Int) (l p acc : List Int) (x6 : Int) (i : Nat) (r : Option Bool) (hl : l.length ≤ 1000) (hi : i < p.length) (hp : p.length ≤ 1000) (ha : acc.length ≤ 2000) (N : Nat)
    (next : ∀ k, N ≤ k → Q.waystonelaw21_OrderDoes.l0 k h a1 l x6 (if p[i] ∈ l then acc else acc ++ [p[i]]) p ((i + 1 : Nat) : Int) = r) : ∀ (n j : Nat), l.length - j < n → j ≤ l.length →
    Q.waystonelaw21_OrderDoes.l1 (N + n) h a1 l x6 acc p (i : Int) (decide (p[i] ∈ l.take j)) (j : Int) = r
  | 0, _, hn, _ => absurd hn (by omega)
  | n + 1, j, hn, hj => by
    have er : rd p (i : Int) = p[i] := rdI p i hi
    rw [← Nat.add_assoc, Q.waystonelaw21_OrderDoes.l1]
    by_cases e : j < l.length
    · have ih := does_l1 h a1 l p acc x6 i r hl hi hp ha N next n (j + 1) (by omega) (by omega)
      have er2 : rd l (j : Int) = l[j] := rdI l j e
      rw [if_pos (by omega), w64 j (by omega), er, er2]
      have ht : decide (p[i] ∈ l.take (j + 1)) = (decide (p[i] ∈ l.take j) || (l[j] == p[i])) := by
        rw [List.take_succ_eq_append_getElem e, Bool.eq_iff_iff]
        simp only [List.mem_append, List.mem_singleton, Bool.or_eq_true, decide_eq_true_eq, beq_iff_eq]
        exact ⟨fun o => o.imp id Eq.symm, fun o => o.imp id Eq.symm⟩
      rw [ht] at ih
      by_cases e2 : p[i] ∈ l.take j
      · rw [if_pos (by simpa using e2)]
        rw [decide_eq_true e2, Bool.true_or] at ih
        exact ih
      · rw [if_neg (by simpa using e2), if_pos (by omega), if_pos (by omega), if_pos (by omega)]
        rw [decide_eq_false e2, Bool.false_or] at ih
        exact ih
    · obtain rfl : j = l.length := by omega
      have nx := next (N + n) (by omega)
      rw [if_neg (by omega), List.take_length, w64 i (by omega), er]
      by_cases e2 : p[i] ∈ l
      · rw [if_pos (by simpa using e2)]
        rw [if_pos e2] at nx
        exact nx
      · rw [if_neg (by simpa using e2), if_pos (by omega), if_pos (by omega), if_pos (by omega)]
        rw [if_neg e2] at nx
        exact nx
theorem does_end (h : List S47) (a1 : Int) (hr : rightH h = true) (hl : h.length ≤ 120) (k : Nat) (hk : 200 ≤ k) : Q.waystonelaw21_OrderDoes.l0 (k + 1) h a1 (ofL h 2) 0 (allL h) (pendL h) ((pendL h).length : Int) = some true := by
  rw [Q.waystonelaw21_OrderDoes.l0]
  have hn0 : ∃ n : Nat, mn (mx a1 0) (h.length : Int) = (n : Int) ∧ n ≤ h.length := ⟨(mn (mx a1 0) (h.length : Int)).toNat, by unfold mn mx; split <;> split <;> omega, by unfold mn mx; split <;> split <;> omega⟩
  obtain ⟨n, hn1, hn2⟩ := hn0
  have h2 := ofL_le h 2
  have hrn := rightH_take h n hr
  have ht := of_take h 2 n
  have hle : (ofL (h.take n) 2).length ≤ (ofL h 2).length := by
    have := congrArg List.length ht
    rw [List.length_take] at this
    omega
  have hal : (allL h).length ≤ 1000 := by
    unfold allL
    rw [List.length_append]
    have h3 : ((pendL h).filter fun id => !decide (id ∈ ofL h 2)).length ≤ (pendL h).length := List.length_filter_le _ _
    have h4 : (pendL h).length ≤ (ofL h 1).length := by
      unfold pendL
      rw [hr, if_pos rfl]
      exact List.length_filter_le _ _
    have h5 := ofL_le h 1
    omega
  have hI : Q.waystoneref06_Ints.f k (ofL (h.take n) 2) ((ofL h 2).take ((ofL (h.take n) 2).length : Int).toNat) = some true := by
    rw [Int.toNat_natCast, ← ht]
    unfold Q.waystoneref06_Ints.f
    rw [if_pos rfl]
    have h9 := ints_same k 0 (ofL (h.take n) 2) (by omega) (by omega) (Nat.zero_le _)
    exact h9
  have e1 : orderL (h.take n) = ofL (h.take n) 2 := by rw [orderL, hrn, if_pos rfl]
  have e2 : orderE (h.take n) = 0 := by rw [orderE, hrn, if_pos rfl]
  have e3 : (h.take n).length ≤ 1000 := by rw [List.length_take]; omega
  rw [if_neg (by omega), hn1, if_pos (by omega), if_pos (by omega), Int.toNat_natCast]
  simp only [Q.order_Order.f, if_pos e3, e1, e2, Option.bind_some]
  rw [if_neg (by omega)]
  simp only [Q.waystonelaw21_alive.f, Option.bind_some, if_true]
  simp only [Q.order_Respects.f, if_pos (show h.length ≤ 1000 ∧ (ofL h 2).length ≤ 1000 from ⟨by omega, by omega⟩), resp_order h hr, Option.bind_some, if_true]
  simp only [if_pos (show h.length ≤ 1000 ∧ (allL h).length ≤ 1000 from ⟨by omega, hal⟩), resp_all h hr, Option.bind_some, if_true]
  rw [if_pos (by omega), if_pos (by omega), hI]
  rfl
theorem does_all (h : List S47) (a1 : Int) (hr : rightH h = true) (hl : h.length ≤ 120) : ∀ (m i : Nat), i + m = (pendL h).length → ∃ N, ∀ k, N ≤ k → Q.waystonelaw21_OrderDoes.l0 k h a1 (ofL h 2) 0 (ofL h 2 ++ ((pendL h).take i).filter fun id => !decide (id ∈ ofL h 2)) (pendL h) (i : Int) = some true
  | 0, i, hi => by
    refine ⟨201, fun k hk => ?_⟩
    obtain ⟨k', rfl⟩ : ∃ k', k = k' + 1 := ⟨k - 1, by omega⟩
    obtain rfl : i = (pendL h).length := by omega
    rw [List.take_length]
    exact does_end h a1 hr hl k' (by omega)
  | m + 1, i, hi => by
    obtain ⟨N, hN⟩ := does_all h a1 hr hl m (i + 1) (by omega)
    have h2 := ofL_le h 2
    have hp : (pendL h).length ≤ (ofL h 1).length := by
      unfold pendL
      rw [hr, if_pos rfl]
      exact List.length_filter_le _ _
    have h1 := ofL_le h 1
    have hlt : i < (pendL h).length := by omega
    have ha : (ofL h 2 ++ ((pendL h).take i).filter fun id => !decide (id ∈ ofL h 2)).length ≤ 2000 := by
      rw [List.length_append]
      have h3 : (((pendL h).take i).filter fun id => !decide (id ∈ ofL h 2)).length ≤ ((pendL h).take i).length := List.length_filter_le _ _
      rw [List.length_take] at h3
      omega
    refine ⟨N + (ofL h 2).length + 2, fun k hk => ?_⟩
    obtain ⟨k', rfl⟩ : ∃ k', k = k' + 1 := ⟨k - 1, by omega⟩
    rw [Q.waystonelaw21_OrderDoes.l0, if_pos (by omega)]
    have h4 := does_l1 h a1 (ofL h 2) (pendL h) _ 0 i (some true) (by omega) hlt (by omega) ha N (fun k hk => by
      have h5 := hN k hk
      rw [List.take_succ_eq_append_getElem hlt, List.filter_append] at h5
      by_cases e : (pendL h)[i] ∈ ofL h 2
      · rw [if_pos e]
        simpa [e] using h5
      · rw [if_neg e]
        simpa [e] using h5) (k' - N) 0 (by omega) (Nat.zero_le _)
    rw [show N + (k' - N) = k' from by omega] at h4
    simpa using h4
theorem OrderDoes_f (h : List S47) (a1 : Int) : ∃ k, Q.waystonelaw21_OrderDoes.f k h a1 = some true := by
  have hal : ∀ k, Q.waystonelaw21_OrderDoes.j0 (k + 1) h a1 true = some true := fun k => by
    rw [Q.waystonelaw21_OrderDoes.j0, if_pos rfl]; rfl
  by_cases hl : h.length ≤ 120
  · cases hr : rightH h with
    | false =>
      refine ⟨1, ?_⟩
      unfold Q.waystonelaw21_OrderDoes.f Q.order_Right.f
      rw [if_neg (by omega), hr]
      exact hal 0
    | true =>
      obtain ⟨N, hN⟩ := does_all h a1 hr hl (pendL h).length 0 (by omega)
      refine ⟨N + 1, ?_⟩
      have h2 := ofL_le h 2
      have h5 := hN N (Nat.le_refl _)
      have e1 : orderL h = ofL h 2 := by rw [orderL, hr, if_pos rfl]
      have e2 : orderE h = 0 := by rw [orderE, hr, if_pos rfl]
      unfold Q.waystonelaw21_OrderDoes.f Q.order_Right.f
      rw [if_neg (by omega), hr]
      show Q.waystonelaw21_OrderDoes.j0 (N + 1) h a1 (!true) = some true
      rw [Q.waystonelaw21_OrderDoes.j0, if_neg (by simp)]
      simp only [Q.order_Order.f, Q.order_Pending.f, if_pos (show h.length ≤ 1000 by omega), Option.bind_some, e1, e2, List.nil_append, List.length_nil, Nat.zero_add]
      rw [if_pos (by omega)]
      simpa using h5
  · refine ⟨1, ?_⟩
    unfold Q.waystonelaw21_OrderDoes.f
    rw [if_pos (by omega)]
    exact hal 0
theorem OrderDoes_any (A : Option Addr) (c : Nat) (h : List S47) (a1 : Int) (w : World) (hr : Kd.C k47 w A h.length h) (hc : h.length ≤ c) {I J : Prop} (hI : I) (hJ : J) :
    Calls Try.prog 4 #[.slice A h.length c, .int .i64 a1] w fun e w' => e = .returned (.bool true) ∧ Below w.heap.size w w' := by
  obtain ⟨k, hk⟩ := OrderDoes_f h a1
  exact Q.waystonelaw21_OrderDoes.calls k A c h a1 true w hr hc hk
end Go.Proofs.Ytncdeappiooccaa.H
