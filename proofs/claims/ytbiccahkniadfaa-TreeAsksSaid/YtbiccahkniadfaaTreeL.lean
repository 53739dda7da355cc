/- What the trees answer, and what the document answers on their pairs: Get, Floor, Ceil, At. -/
import Derived.Test.YtbiccahkniadfaaTree15
namespace Go.Proofs.Ytbiccahkniadfaa.H
open Go.RowKit Go.Proofs.Ytbiccahkniadfaa.P Go.Proofs.YtbiccahkniadfaaW.PrintWords Go.Proofs.YtbiccahkniadfaaW.PrintLast Go.Proofs.YtbiccahkniadfaaW.PrintMore
set_option linter.unusedVariables false
set_option linter.unusedSimpArgs false
theorem at_yes (t : T) (i : Int) (h0 : 0 ≤ i) (h1 : i < sz t) : (atT t i).2 = true ∧ rd_T50 (encT (toL t)) i = ⟨(atT t i).1.1, (atT t i).1.2⟩ := by
  obtain ⟨j, rfl⟩ : ∃ j : Nat, i = j := ⟨i.toNat, by omega⟩
  have hj : j < (toL t).length := by rw [toL_len]; omega
  have e : atT t (j : Int) = ((toL t)[j], true) := by
    unfold atT
    rw [if_pos ⟨h0, h1⟩, Int.toNat_natCast, List.getD_eq_getElem?_getD, List.getElem?_eq_getElem hj]
    rfl
  rw [e, rd50 _ j hj]
  exact ⟨rfl, rfl⟩
theorem at_no (t : T) (i : Int) (h : ¬ (0 ≤ i ∧ i < sz t)) : (atT t i).2 = false := by
  unfold atT
  rw [if_neg h]
/-- A pair at a place, or none. -/
def Is (t : T) (x : (Int × Int) × Bool) (f : Int) : Prop := x.2 = decide (0 ≤ f) ∧ (0 ≤ f → f < ((encT (toL t)).length : Int) ∧ rd_T50 (encT (toL t)) f = ⟨x.1.1, x.1.2⟩)
theorem is_at (t : T) (i : Int) (h1 : i < sz t) : Is t (atT t i) i := by
  by_cases h0 : 0 ≤ i
  · obtain ⟨h2, h3⟩ := at_yes t i h0 h1
    exact ⟨by rw [h2, decide_eq_true h0], fun _ => ⟨by rw [encT_len, toL_len]; exact h1, h3⟩⟩
  · exact ⟨by rw [at_no t i (fun h => h0 h.1), decide_eq_false h0], fun h => absurd h h0⟩
theorem low_size (k : Int) (t : T) : (lowL k (toL t)).length ≤ sz t := by rw [← toL_len]; exact low_le k _
theorem ceil_is (k : Int) (t : T) (h : srt t) : Is t (ceilT k t) (if (lowL k (toL t)).length = (toL t).length then (-1 : Int) else ((lowL k (toL t)).length : Int)) := by
  have hle := low_size k t
  unfold ceilT
  rw [below_low k t h]
  split
  · rename_i e
    rw [toL_len] at e
    refine ⟨?_, fun h => by omega⟩
    rw [at_no t _ (by omega)]; rfl
  · rename_i e
    rw [toL_len] at e
    exact is_at t _ (by omega)
theorem has_place (k : Int) (t : T) (h : srt t) (hh : hasT k t = true) : ∃ v, getT k t = some v ∧ ∃ hm : (lowL k (toL t)).length < (toL t).length, (toL t)[(lowL k (toL t)).length] = (k, v) := by
  obtain ⟨v, e⟩ := (rest_upp k (toL t) h).1 (by rw [hasL_eq k t h]; exact hh)
  have e1 := (cut_list k (toL t) h).1
  have hv : (k, v) ∈ toL t := by rw [e1, e]; simp
  refine ⟨v, (get_iff k v t h).2 hv, ?_⟩
  generalize lowL k (toL t) = A at *
  rw [e] at e1
  refine ⟨by rw [e1]; simp, ?_⟩
  have : (toL t)[A.length]? = some (k, v) := by rw [e1]; simp
  exact (List.getElem?_eq_some_iff.1 this).2
theorem no_place (k : Int) (t : T) (h : srt t) (hh : hasT k t = false) : getT k t = none ∧ ∀ hm : (lowL k (toL t)).length < (toL t).length, ¬ ((toL t)[(lowL k (toL t)).length]).1 = k := by
  refine ⟨by have := get_has k t; rw [hh] at this; simpa using this, fun hm e => ?_⟩
  have : hasT k t = true := (has_iff k t h).2 ⟨_, by
    have := List.getElem_mem hm
    rw [← e]
    exact this⟩
  rw [hh] at this
  cases this
theorem floor_is (k : Int) (t : T) (h : srt t) : Is t (floorT k t) (if hasT k t then ((lowL k (toL t)).length : Int) else ((lowL k (toL t)).length : Int) - 1) := by
  have hle := low_size k t
  unfold floorT
  rw [below_low k t h]
  cases hh : hasT k t with
  | true =>
    obtain ⟨v, hg, hm, e⟩ := has_place k t h hh
    have hi := is_at t ((lowL k (toL t)).length : Int) (by rw [toL_len] at hm; omega)
    obtain ⟨h2, h3⟩ := at_yes t ((lowL k (toL t)).length : Int) (by omega) (by rw [toL_len] at hm; omega)
    have h4 : (atT t ((lowL k (toL t)).length : Int)).1.1 = k := by
      rw [rd50 _ _ hm, e] at h3
      injection h3 with h3 _
      exact h3.symm
    rw [h2, h4]
    simp only [beq_self_eq_true, Bool.and_self, if_true]
    rw [← h2]
    exact hi
  | false =>
    obtain ⟨_, hp⟩ := no_place k t h hh
    have hi := is_at t (((lowL k (toL t)).length : Int) - 1) (by omega)
    have hn : ((atT t ((lowL k (toL t)).length : Int)).2 && (atT t ((lowL k (toL t)).length : Int)).1.1 == k) = false := by
      by_cases hm : (lowL k (toL t)).length < (toL t).length
      · obtain ⟨h2, h3⟩ := at_yes t ((lowL k (toL t)).length : Int) (by omega) (by rw [toL_len] at hm; omega)
        rw [rd50 _ _ hm] at h3
        injection h3 with h3 _
        rw [h2, ← h3, Bool.true_and]
        exact beq_eq_false_iff_ne.2 (hp hm)
      · rw [at_no t _ (by rw [toL_len] at hm; omega), Bool.false_and]
    rw [hn]
    exact hi
theorem get_ev (k : Int) (t : T) (h : Fit t) : Ev (fun n => waystoneref04_Get.f n (encT (toL t)) k) ((getT k t).getD 0, (getT k t).isSome) := by
  unfold waystoneref04_Get.f
  refine Ev.bind (find_srt k (toL t) (by rw [toL_len]; have := h.size; omega) h.srt) ?_
  rw [hasL_eq k t h.srt]
  cases hh : hasT k t with
  | true =>
    obtain ⟨v, hg, hm, e⟩ := has_place k t h.srt hh
    have h1 : ((lowL k (toL t)).length : Int) < ((encT (toL t)).length : Int) := by rw [encT_len]; omega
    simp only [if_true, h1, show (0 : Int) ≤ ((lowL k (toL t)).length : Int) from by omega]
    rw [rd50 _ _ hm, e, hg]
    exact Ev.now _
  | false =>
    obtain ⟨hg, _⟩ := no_place k t h.srt hh
    rw [hg]
    exact Ev.now _
theorem ref_get (k : Int) (t : T) (hf : Fit t) (A : Option Addr) (c : Nat) (w : World) (hc : Kd.C k50 w A (encT (toL t)).length (encT (toL t))) (hl : (encT (toL t)).length ≤ c) :
    Calls Try.prog 18 #[.slice A (encT (toL t)).length c, .int .u64 k] w fun e w' => e = .returned (.tuple #[.int .i64 ((getT k t).getD 0), .bool (getT k t).isSome]) ∧ Below w.heap.size w w' := by
  obtain ⟨n, hn⟩ := (get_ev k t hf).rounds
  refine (waystoneref04_Get.calls n A c _ k _ _ w hc hl hn).mono ?_
  rintro e w' ⟨rfl, ⟨m, rfl⟩⟩
  exact ⟨rfl, below_drewN (Below.refl _ _) m⟩
def ceilP (k : Int) (t : T) : Int := if (lowL k (toL t)).length = (toL t).length then (-1 : Int) else ((lowL k (toL t)).length : Int)
def floorP (k : Int) (t : T) : Int := if hasT k t then ((lowL k (toL t)).length : Int) else ((lowL k (toL t)).length : Int) - 1
theorem ref_ceilP (k : Int) (t : T) (hf : Fit t) (A : Option Addr) (c : Nat) (w : World) (hc : Kd.C k50 w A (encT (toL t)).length (encT (toL t))) (hl : (encT (toL t)).length ≤ c) :
    Calls Try.prog 23 #[.slice A (encT (toL t)).length c, .int .u64 k] w fun e w' => e = .returned (.int .i64 (ceilP k t)) ∧ Below w.heap.size w w' := by
  refine (ref_ceil k t hf A c w hc hl).mono ?_
  rintro e w' ⟨rfl, hb⟩
  exact ⟨by unfold ceilP; rw [encT_len], hb⟩
theorem ref_floor (k : Int) (t : T) (hf : Fit t) (A : Option Addr) (c : Nat) (w : World) (hc : Kd.C k50 w A (encT (toL t)).length (encT (toL t))) (hl : (encT (toL t)).length ≤ c) :
    Calls Try.prog 22 #[.slice A (encT (toL t)).length c, .int .u64 k] w fun e w' => e = .returned (.int .i64 (floorP k t)) ∧ Below w.heap.size w w' := by
  have h1 := floor_ev k (toL t) (by rw [toL_len]; have := hf.size; omega) hf.srt
  obtain ⟨n, hn⟩ := h1.rounds
  rw [hasL_eq k t hf.srt] at hn
  refine (waystoneref04_Floor.calls n A c _ k _ w hc hl hn).mono ?_
  rintro e w' ⟨rfl, ⟨m, rfl⟩⟩
  exact ⟨rfl, below_drewN (Below.refl _ _) m⟩
end Go.Proofs.Ytbiccahkniadfaa.H
