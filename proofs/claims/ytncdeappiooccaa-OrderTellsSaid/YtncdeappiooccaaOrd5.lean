/- of, Right, Ahead: walked. -/
import Derived.Test.YtncdeappiooccaaOrd4
import Derived.Test.YtncdeappiooccaaPx1
import Derived.BigQuiet
namespace Go.Proofs.Ytncdeappiooccaa.H
open Go.RowKit Go.Proofs.Ytncdeappiooccaa.P Go.Proofs.YtncdeappiooccaaW.PrintWords Go.Proofs.YtncdeappiooccaaW.PrintLast Go.Proofs.YtncdeappiooccaaW.PrintMore
set_option linter.unusedVariables false
set_option linter.unusedSimpArgs false
/-- The requests to which something happened. -/
def ofL (h : List S47) (kind : Int) : List Int := (h.filter fun x => x.f0 == kind).map fun x => x.f1
theorem rd47 (h : List S47) (j : Nat) (hj : j < h.length) : rd_T47 h (j : Int) = h[j] := by unfold rd_T47; rw [Int.toNat_natCast, List.getD_eq_getElem?_getD, List.getElem?_eq_getElem hj]; rfl
theorem ofL_snoc (s : List S47) (x : S47) (kind : Int) : ofL (s ++ [x]) kind = ofL s kind ++ if x.f0 = kind then [x.f1] else [] := by
  unfold ofL
  rw [List.filter_append, List.map_append]
  by_cases e : x.f0 = kind
  · simp [e]
  · simp [e]
theorem ofL_le (h : List S47) (kind : Int) : (ofL h kind).length ≤ h.length := by
  unfold ofL
  rw [List.length_map]
  exact List.length_filter_le _ _
theorem of_l0 (h : List S47) (kind : Int) (hl : h.length ≤ 1000) : ∀ (n j : Nat), h.length - j < n → j ≤ h.length → order_of.l0 n kind (ofL (h.take j) kind) h (h.length : Int) (j : Int) = some (ofL h kind)
  | 0, _, hn, _ => absurd hn (by omega)
  | n + 1, j, hn, hj => by
    rw [order_of.l0]
    by_cases e : j < h.length
    · have hw : wrap64 ((j : Int) + 1) = ((j + 1 : Nat) : Int) := by unfold wrap64; omega
      have ih := of_l0 h kind hl n (j + 1) (by omega) (by omega)
      rw [List.take_succ_eq_append_getElem e, ofL_snoc] at ih
      have h1 := ofL_le (h.take j) kind
      rw [List.length_take] at h1
      rw [if_pos (by omega), if_pos (by omega), if_pos (by omega), rd47 h j e, hw]
      by_cases e2 : h[j].f0 = kind
      · rw [if_pos e2, if_pos (by omega)]
        rw [if_pos e2] at ih
        exact ih
      · rw [if_neg e2]
        rw [if_neg e2, List.append_nil] at ih
        exact ih
    · obtain rfl : j = h.length := by omega
      rw [if_neg (by omega), List.take_length]
theorem of_any (A : Option Addr) (c : Nat) (h : List S47) (kind : Int) (w : World) (hr : Kd.C k47 w A h.length h) (hc : h.length ≤ c) (hl : h.length ≤ 1000) :
    Calls Try.prog 20 #[.slice A h.length c, .int .i64 kind] w fun e w' => ∃ v, e = .returned v ∧ Kd.R (Kd.int .i64) 3 w' w.heap.size (fun _ => True) v (ofL h kind) ∧ Below w.heap.size w w' :=
  order_of.calls (h.length + 1) A c h kind _ w hr hc (of_l0 h kind hl (h.length + 1) 0 (by omega) (Nat.zero_le _))
theorem right_any (A : Option Addr) (c : Nat) (h : List S47) (w : World) (hr : Kd.C k47 w A h.length h) :
    Calls Try.prog 13 #[.slice A h.length c] w fun e w' => e = .returned (.bool (rightH h)) ∧ Below w.heap.size w w' := by
  have hp := places_any A c h w hr
  clear hr
  go_enter Try.func13, Try.ntmps13
  go_wp2_with fail
  refine hp.mono ?_
  rintro e w' hd
  clear hp
  rcases hd with ⟨hq, g, rfl, hm, hb⟩ | ⟨hq, rfl, hb⟩
  all_goals
    have HQ := Aside0.mk hq
    clear hq
    go_wp2_with fail
    go_ret
    exact ⟨by rw [HQ.out]; rfl, hb⟩
theorem look_nil (k0 k1 : Int) (W : World) : (Instr.lookup 50 (.map none) (.agg #[.int .i64 k0, .int .i64 k1]) false).run Try.prog W = .ok (.int .i64 0) W := by
  have hk := keyE.chk true ⟨k0, k1⟩ W
  have hf := run_findKey (encV := encN) keyE ⟨k0, k1⟩ W [] [] rfl
  have hz := zeroN W
  have hfe : fnd ([] : List (S47 × Int)) ⟨k0, k1⟩ 0 = none := rfl
  rw [hfe] at hf
  simp only [encE] at hk hf
  simp [Instr.lookup, go_sem, Try.underlying50, hk, hf, hz, Result.andThen]
theorem below_drewN {B : Nat} {w w1 : World} (h : Below B w w1) (n : Nat) : Below B w (w1.drewN n) := ⟨h.os, h.tape, h.output, h.size, h.block⟩
/-- Is one ahead of the other? -/
def aheadH (h : List S47) (a b : Int) : Bool := rightH h && (decide (0 < posE h ⟨3, a⟩) && decide (posE h ⟨3, a⟩ < posE h ⟨1, b⟩))
set_option maxHeartbeats 1000000 in
theorem ahead_any (A : Option Addr) (c : Nat) (h : List S47) (a b : Int) (w : World) (hr : Kd.C k47 w A h.length h) :
    Calls Try.prog 15 #[.slice A h.length c, .int .i64 a, .int .i64 b] w fun e w' => e = .returned (.bool (aheadH h a b)) ∧ Below w.heap.size w w' := by
  have hp := places_any A c h w hr
  clear hr
  generalize hq : aheadH h a b = q
  have HQ := Aside0.mk hq
  clear hq
  go_enter Try.func15, Try.ntmps15
  go_wp2_with fail
  refine hp.mono ?_
  rintro e w' hd
  clear hp
  rcases hd with ⟨hq, g, rfl, hm, hb⟩ | ⟨hq, rfl, hb⟩
  · have HH := Aside0.mk hq
    have l1 := fun W hW => look_e g (idxL h) ⟨3, a⟩ W hW
    have l2 := fun W hW => look_e g (idxL h) ⟨1, b⟩ W hW
    have HQ2 := Aside0.mk (show (decide (0 < posE h ⟨3, a⟩) && decide (posE h ⟨3, a⟩ < posE h ⟨1, b⟩)) = q from by rw [← HQ.out, aheadH, HH.out]; rfl)
    unfold posE at HQ2
    generalize (look (idxL h) ⟨3, a⟩).getD 0 = v1 at l1 HQ2
    generalize (look (idxL h) ⟨1, b⟩).getD 0 = v2 at l2 HQ2
    clear hq
    cases m1 : decide (0 < v1) with
    | true =>
      have M1 := Aside0.mk (show (decide (v1 < v2)) = q from by rw [← HQ2.out, m1]; rfl)
      have l1' := fun n => l1 (w'.drewN n) hm.drewN
      have l2' := fun n => l2 (w'.drewN n) hm.drewN
      have HB := Aside0.mk hb
      clear l1 l2 hm hb
      go_wp2_with fail
      go_quiet (fail)
      go_wp2_with fail
      go_ret
      exact ⟨by rw [M1.out]; rfl, below_drewN HB.out nq⟩
    | false =>
      have M1 := Aside0.mk (show false = q from by rw [← HQ2.out, m1]; rfl)
      have l1' := fun n => l1 (w'.drewN n) hm.drewN
      have l2' := fun n => l2 (w'.drewN n) hm.drewN
      have HB := Aside0.mk hb
      clear l1 l2 hm hb
      go_wp2_with fail
      go_quiet (fail)
      go_wp2_with fail
      go_ret
      exact ⟨by rw [← M1.out]; rfl, below_drewN HB.out nq⟩
  · have M1 := Aside0.mk (show false = q from by rw [← HQ.out, aheadH, hq]; rfl)
    have l1' := fun n => look_nil 3 a (w'.drewN n)
    have l2' := fun n => look_nil 1 b (w'.drewN n)
    have HB := Aside0.mk hb
    clear hq hb
    go_wp2_with fail
    go_quiet (fail)
    go_wp2_with fail
    go_ret
    exact ⟨by rw [← M1.out]; rfl, below_drewN HB.out nq⟩
end Go.Proofs.Ytncdeappiooccaa.H
