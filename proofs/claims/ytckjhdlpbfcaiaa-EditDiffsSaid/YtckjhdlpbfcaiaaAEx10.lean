/- Ex10. -/
import Derived.Test.YtckjhdlpbfcaiaaAEdtP
import Derived.Test.YtckjhdlpbfcaiaaAEx1
import Derived.Test.YtckjhdlpbfcaiaaAEx3
import Derived.Test.YtckjhdlpbfcaiaaAEx4
import Derived.Test.YtckjhdlpbfcaiaaAEx5
import Derived.Test.YtckjhdlpbfcaiaaAEx6
import Derived.Test.YtckjhdlpbfcaiaaAEx9
namespace Go.Proofs.Ytckjhdlpbfcaiaa.E
open Go.Proofs.Ytckjhdlpbfcaiaa.P
open Go.RowKit Go.Proofs.YtckjhdlpbfcaiaaW.PrintWords Go.Proofs.YtckjhdlpbfcaiaaW.PrintLast Go.Proofs.YtckjhdlpbfcaiaaW.PrintMore
set_option linter.unusedVariables false
set_option linter.unusedSimpArgs false
attribute [local go_sem high] eqA35
def waystonelaw14_EditDiffs.j0 : Nat → List (S35) → List (S35) → Bool → Option (Bool)
  | 0, _, _, _ => none
  | k + 1, x0, x1, x16 => if x16 = true then ((waystonelaw14_alive.f k).bind fun t299 => (some t299)) else ((waystonelaw14_alive.f k).bind fun t300 => (if t300 = true then ((edit_Diff.f k x0 x1).bind fun t301 => ((waystoneref14_Diff.f k x0 x1).bind fun t304 => ((waystoneref14_Same.f k t301 t304).bind fun t307 => (some t307)))) else (some false)))
def waystonelaw14_EditDiffs.f (k : Nat) (l0 : List (S35)) (l1 : List (S35)) : Option (Bool) := (waystonelaw14_Fits.f k l0).bind fun t297 => ((waystonelaw14_Fits.f k l1).bind fun t298 => (if t297 = true then (waystonelaw14_EditDiffs.j0 k l0 l1 (!t298)) else (waystonelaw14_EditDiffs.j0 k l0 l1 true)))
set_option maxHeartbeats 8000000 in
set_option maxRecDepth 100000 in
theorem waystonelaw14_EditDiffs.calls (k : Nat) (A0 : Option Addr) (c0 : Nat) (l0 : List (S35)) (A1 : Option Addr) (c1 : Nat) (l1 : List (S35)) (r : Bool) (w : World) (hr0 : Kd.C k35 w A0 l0.length l0) (hc0 : l0.length ≤ c0) (hr1 : Kd.C k35 w A1 l1.length l1) (hc1 : l1.length ≤ c1) (h : waystonelaw14_EditDiffs.f k l0 l1 = some r) :
    Calls Try.prog 3 #[.slice A0 l0.length c0, .slice A1 l1.length c1] w fun e w' => e = .returned (.bool r) ∧ Below w.heap.size w w' := by
  have HR0 := Aside0.mk hr0
  have HC0 := Aside0.mk hc0
  clear hr0 hc0
  have HR1 := Aside0.mk hr1
  have HC1 := Aside0.mk hc1
  clear hr1 hc1
  have HB := Aside0.mk (Below.refl w.heap.size w)
  have H : ((waystonelaw14_Fits.f k l0).bind fun t297 => ((waystonelaw14_Fits.f k l1).bind fun t298 => (if t297 = true then (waystonelaw14_EditDiffs.j0 k l0 l1 (!t298)) else (waystonelaw14_EditDiffs.j0 k l0 l1 true)))) = some r := h
  clear h
  replace H := Option.bind_eq_some_iff.mp H
  obtain ⟨t297, A30, H⟩ := H
  replace H : ((waystonelaw14_Fits.f k l1).bind fun t298 => (if t297 = true then (waystonelaw14_EditDiffs.j0 k l0 l1 (!t298)) else (waystonelaw14_EditDiffs.j0 k l0 l1 true))) = some r := H
  have A3 := Aside0.mk A30
  clear A30
  replace H := Option.bind_eq_some_iff.mp H
  obtain ⟨t298, A40, H⟩ := H
  replace H : (if t297 = true then (waystonelaw14_EditDiffs.j0 k l0 l1 (!t298)) else (waystonelaw14_EditDiffs.j0 k l0 l1 true)) = some r := H
  have A4 := Aside0.mk A40
  clear A40
  have HC5 := Aside0.mk H
  clear H
  go_enter Try.func3, Try.ntmps3
  go_upto_region 3 with (first | ((with_reducible refine gate_callee (f := 8) rfl ?_); refine goesL_ (some 8) rfl rfl Try.func8 (by kernel_rfl) rfl #[.slice A0 l0.length c0] rfl (by (try simp only [List.map_toArray, List.map_cons, List.map_nil]); first | done | rfl | (simp only [List.length_drop, List.length_take]; rfl)) ?_; (with_reducible refine (waystonelaw14_Fits.calls k _ _ l0 t297 _ ?side1 ?side2 A3.out).mono ?_); (case side1 => repeat (first | exact HR0.out | (with_reducible refine Kd.C_alloc ?_ _) | (with_reducible refine Kd.C_drewN ?_ _) | (with_reducible refine Kd.C_drew ?_))); (case side2 => exact HC0.out); rintro e w6 ⟨rfl, hb⟩; refine ⟨_, rfl, ?_⟩; have n0_ := Aside0.mk (below_step (by repeat (first | (with_reducible first | exact HB.out | apply below_alloc | apply pw_below_drewN | apply below_drew1) | exact HB.out)) hb); clear HB; have HB := n0_; clear n0_; (try clear hb); (try clear hb2); (try clear hk); (try clear hi)) | ((with_reducible refine gate_callee (f := 8) rfl ?_); refine goesL_ (some 10) rfl rfl Try.func8 (by kernel_rfl) rfl #[.slice A1 l1.length c1] rfl (by (try simp only [List.map_toArray, List.map_cons, List.map_nil]); first | done | rfl | (simp only [List.length_drop, List.length_take]; rfl)) ?_; (with_reducible refine (waystonelaw14_Fits.calls k _ _ l1 t298 _ ?side1 ?side2 A4.out).mono ?_); (case side1 => repeat (first | exact (Kd.C_below HR1.out HB.out) | (with_reducible refine Kd.C_alloc ?_ _) | (with_reducible refine Kd.C_drewN ?_ _) | (with_reducible refine Kd.C_drew ?_))); (case side2 => exact HC1.out); rintro e w7 ⟨rfl, hb⟩; refine ⟨_, rfl, ?_⟩; have n0_ := Aside0.mk (below_step (by repeat (first | (with_reducible first | exact HB.out | apply below_alloc | apply pw_below_drewN | apply below_drew1) | exact HB.out)) hb); clear HB; have HB := n0_; clear n0_; (try clear hb); (try clear hb2); (try clear hk); (try clear hi)))
  (try simp only [Act.put, List.setIfInBounds_toArray, List.set_cons_zero, List.set_cons_succ])
  go_cut [16] (fun v16 wc => ∃ (kq : Nat) (x16_4 : Bool), v16 = .bool x16_4 ∧ Aside0 (waystonelaw14_EditDiffs.j0 kq l0 l1 x16_4 = some r) ∧ Aside0 (kq ≤ k) ∧ Aside0 (Below w.heap.size w wc))
  case first =>
    have H := HC5.out
    clear HC5
    by_cases c8 : t297 = true
    · subst c8
      have H1 : (waystonelaw14_EditDiffs.j0 k l0 l1 (!t298)) = some r := by rw [if_pos rfl] at H; exact H
      clear H
      have H := H1
      clear H1
      have H' := Aside0.mk H
      clear H
      go_wp2
      go_meet
      case rel => exact ⟨_, (!t298), (by first | rfl | (simp; done) | (simp [*]; done)), H', ⟨by first | omega | exact Nat.le_refl _⟩, ⟨by repeat (first | (with_reducible first | exact HB.out | apply below_alloc | apply pw_below_drewN | apply below_drew1) | exact HB.out)⟩⟩
    · replace c8 := Bool.eq_false_iff.mpr c8
      subst c8
      have H1 : (waystonelaw14_EditDiffs.j0 k l0 l1 true) = some r := by rw [if_neg (show ¬ (false = true) by decide)] at H; exact H
      clear H
      have H := H1
      clear H1
      have H' := Aside0.mk H
      clear H
      go_wp2
      go_meet
      case rel => exact ⟨_, (true), (by first | rfl | (simp; done) | (simp [*]; done)), H', ⟨by first | omega | exact Nat.le_refl _⟩, ⟨by repeat (first | (with_reducible first | exact HB.out | apply below_alloc | apply pw_below_drewN | apply below_drew1) | exact HB.out)⟩⟩
  case rest =>
    clear HC5
    try clear c1
    try clear p2
    try clear c3
    try clear c8
    obtain ⟨kq, x16_4, rfl, HA, HJ4, HB⟩ := hcut
    cases kq with
    | zero => exact absurd HA.out (by simp [waystonelaw14_EditDiffs.j0])
    | succ kj4 =>
      have H := HA.out
      clear HA
      simp only [waystonelaw14_EditDiffs.j0] at H
      by_cases c9 : x16_4 = true
      · subst c9
        have H1 : ((waystonelaw14_alive.f kj4).bind fun t299 => (some t299)) = some r := by rw [if_pos rfl] at H; exact H
        clear H
        have H := H1
        clear H1
        replace H := Option.bind_eq_some_iff.mp H
        obtain ⟨t299, A100, H⟩ := H
        replace H : (some t299) = some r := H
        have A10 := Aside0.mk A100
        clear A100
        obtain rfl := Option.some.inj H
        go_wp2_with (first | ((with_reducible refine gate_callee (f := 9) rfl ?_); refine goesL_ (some 17) rfl rfl Try.func9 (by kernel_rfl) rfl #[] rfl (by (try simp only [List.map_toArray, List.map_cons, List.map_nil]); first | done | rfl | (simp only [List.length_drop, List.length_take]; rfl)) ?_; (with_reducible refine (waystonelaw14_alive.calls kj4  t299 _ A10.out).mono ?_); rintro e w11 ⟨rfl, hb⟩; refine ⟨_, rfl, ?_⟩; have n0_ := Aside0.mk (below_step (by repeat (first | (with_reducible first | exact HB.out | apply below_alloc | apply pw_below_drewN | apply below_drew1) | exact HB.out)) hb); clear HB; have HB := n0_; clear n0_; (try clear hb); (try clear hb2); (try clear hk); (try clear hi)))
        go_ret
        exact ⟨by first | rfl | (simp [errW_none, errW_some] <;> rfl) | (simp [*, errW_none, errW_some] <;> rfl), by repeat (first | (with_reducible first | exact HB.out | apply below_alloc | apply pw_below_drewN | apply below_drew1) | exact HB.out)⟩
      · replace c9 := Bool.eq_false_iff.mpr c9
        subst c9
        have H1 : ((waystonelaw14_alive.f kj4).bind fun t300 => (if t300 = true then ((edit_Diff.f kj4 l0 l1).bind fun t301 => ((waystoneref14_Diff.f kj4 l0 l1).bind fun t304 => ((waystoneref14_Same.f kj4 t301 t304).bind fun t307 => (some t307)))) else (some false))) = some r := by rw [if_neg (show ¬ (false = true) by decide)] at H; exact H
        clear H
        have H := H1
        clear H1
        replace H := Option.bind_eq_some_iff.mp H
        obtain ⟨t300, A120, H⟩ := H
        replace H : (if t300 = true then ((edit_Diff.f kj4 l0 l1).bind fun t301 => ((waystoneref14_Diff.f kj4 l0 l1).bind fun t304 => ((waystoneref14_Same.f kj4 t301 t304).bind fun t307 => (some t307)))) else (some false)) = some r := H
        have A12 := Aside0.mk A120
        clear A120
        by_cases c13 : t300 = true
        · subst c13
          have H1 : ((edit_Diff.f kj4 l0 l1).bind fun t301 => ((waystoneref14_Diff.f kj4 l0 l1).bind fun t304 => ((waystoneref14_Same.f kj4 t301 t304).bind fun t307 => (some t307)))) = some r := by rw [if_pos rfl] at H; exact H
          clear H
          have H := H1
          clear H1
          replace H := Option.bind_eq_some_iff.mp H
          obtain ⟨t301, A140, H⟩ := H
          replace H : ((waystoneref14_Diff.f kj4 l0 l1).bind fun t304 => ((waystoneref14_Same.f kj4 t301 t304).bind fun t307 => (some t307))) = some r := H
          have A14 := Aside0.mk A140
          clear A140
          replace H := Option.bind_eq_some_iff.mp H
          obtain ⟨t304, A150, H⟩ := H
          replace H : ((waystoneref14_Same.f kj4 t301 t304).bind fun t307 => (some t307)) = some r := H
          have A15 := Aside0.mk A150
          clear A150
          replace H := Option.bind_eq_some_iff.mp H
          obtain ⟨t307, A160, H⟩ := H
          replace H : (some t307) = some r := H
          have A16 := Aside0.mk A160
          clear A160
          obtain rfl := Option.some.inj H
          go_wp2_with (first | ((with_reducible refine gate_callee (f := 9) rfl ?_); refine goesL_ (some 18) rfl rfl Try.func9 (by kernel_rfl) rfl #[] rfl (by (try simp only [List.map_toArray, List.map_cons, List.map_nil]); first | done | rfl | (simp only [List.length_drop, List.length_take]; rfl)) ?_; (with_reducible refine (waystonelaw14_alive.calls kj4  true _ A12.out).mono ?_); rintro e w17 ⟨rfl, hb⟩; refine ⟨_, rfl, ?_⟩; have n0_ := Aside0.mk (below_step (by repeat (first | (with_reducible first | exact HB.out | apply below_alloc | apply pw_below_drewN | apply below_drew1) | exact HB.out)) hb); clear HB; have HB := n0_; clear n0_; (try clear hb); (try clear hb2); (try clear hk); (try clear hi)) | (go_at_call 11; (with_reducible refine (edit_Diff.calls kj4 (fun k_ => k_ < w.heap.size) _ _ l0 (fun k_ => k_ < w.heap.size) _ _ l1 t301 _ ?side1 ?side2 A14.out).mono ?_); (case side1 => exact Kd.V_mk HC0.out (Kd.F_below (Kd.C_F k35_heap HR0.out) (by repeat (first | (with_reducible first | exact HB.out | apply below_alloc | apply pw_below_drewN | apply below_drew1) | exact HB.out)))); (case side2 => exact Kd.V_mk HC1.out (Kd.F_below (Kd.C_F k35_heap HR1.out) (by repeat (first | (with_reducible first | exact HB.out | apply below_alloc | apply pw_below_drewN | apply below_drew1) | exact HB.out)))); rintro e w18 ⟨v302, rfl, ho0, hb⟩; have n0_ := Aside0.mk (Kd.R_lower (Kd.R_mono (ok' := fun k_ => True) ho0 (fun _ hk_ => trivial)) (below_size (by repeat (first | (with_reducible first | exact HB.out | apply below_alloc | apply pw_below_drewN | apply below_drew1) | exact HB.out)))); have n1_ := Aside0.mk (below_step (by repeat (first | (with_reducible first | exact HB.out | apply below_alloc | apply pw_below_drewN | apply below_drew1) | exact HB.out)) hb); clear HB; have HO303 := n0_; have HB := n1_; clear n0_ n1_; (try clear hb); (try clear hb2); (try clear hk); (try clear hi); (try clear ho0)) | (go_at_call 12; (with_reducible refine (waystoneref14_Diff.calls kj4 _ _ l0 _ _ l1 t304 _ ?side1 ?side2 ?side3 ?side4 A15.out).mono ?_); (case side1 => repeat (first | exact (Kd.C_below HR0.out HB.out) | (with_reducible refine Kd.C_alloc ?_ _) | (with_reducible refine Kd.C_drewN ?_ _) | (with_reducible refine Kd.C_drew ?_))); (case side2 => exact HC0.out); (case side3 => repeat (first | exact (Kd.C_below HR1.out HB.out) | (with_reducible refine Kd.C_alloc ?_ _) | (with_reducible refine Kd.C_drewN ?_ _) | (with_reducible refine Kd.C_drew ?_))); (case side4 => exact HC1.out); rintro e w19 ⟨v305, rfl, ho0, hb⟩; have n0_ := Aside0.mk (Kd.R_elder' (by (with_reducible repeat (first | apply Kd.R_alloc | apply Kd.R_drewN | apply Kd.R_drew)); exact HO303.out) (Kd.R_base ho0) hb); have n1_ := Aside0.mk (Kd.R_lower (Kd.R_new' ho0 (Kd.R_lt (by (with_reducible repeat (first | apply Kd.R_alloc | apply Kd.R_drewN | apply Kd.R_drew)); exact HO303.out))) (below_size (by repeat (first | (with_reducible first | exact HB.out | apply below_alloc | apply pw_below_drewN | apply below_drew1) | exact HB.out)))); have n2_ := Aside0.mk (below_step (by repeat (first | (with_reducible first | exact HB.out | apply below_alloc | apply pw_below_drewN | apply below_drew1) | exact HB.out)) hb); clear HO303; clear HB; have HO303 := n0_; have HO306 := n1_; have HB := n2_; clear n0_ n1_ n2_; (try clear hb); (try clear hb2); (try clear hk); (try clear hi); (try clear ho0); obtain ⟨Ao20, co20, eo20⟩ := Kd.R_slice HO303.out; subst eo20; obtain ⟨Ao21, co21, eo21⟩ := Kd.R_slice HO306.out; subst eo21) | (go_at_call 10; (with_reducible refine (waystoneref14_Same.calls kj4 _ _ t301 _ _ t304 t307 _ ?side1 ?side2 ?side3 ?side4 A16.out).mono ?_); (case side1 => repeat (first | exact (Kd.R_reads' HO303.out).2.2 | (with_reducible refine Kd.C_alloc ?_ _) | (with_reducible refine Kd.C_drewN ?_ _) | (with_reducible refine Kd.C_drew ?_))); (case side2 => exact (Kd.R_reads' HO303.out).2.1); (case side3 => repeat (first | exact (Kd.R_reads' HO306.out).2.2 | (with_reducible refine Kd.C_alloc ?_ _) | (with_reducible refine Kd.C_drewN ?_ _) | (with_reducible refine Kd.C_drew ?_))); (case side4 => exact (Kd.R_reads' HO306.out).2.1); rintro e w' ⟨rfl, ⟨nd, rfl⟩⟩))
          go_ret
          exact ⟨by first | rfl | (simp [errW_none, errW_some] <;> rfl) | (simp [*, errW_none, errW_some] <;> rfl), by repeat (first | (with_reducible first | exact HB.out | apply below_alloc | apply pw_below_drewN | apply below_drew1) | exact HB.out)⟩
        · replace c13 := Bool.eq_false_iff.mpr c13
          subst c13
          have H1 : (some false) = some r := by rw [if_neg (show ¬ (false = true) by decide)] at H; exact H
          clear H
          have H := H1
          clear H1
          obtain rfl := Option.some.inj H
          go_wp2_with (first | ((with_reducible refine gate_callee (f := 9) rfl ?_); refine goesL_ (some 18) rfl rfl Try.func9 (by kernel_rfl) rfl #[] rfl (by (try simp only [List.map_toArray, List.map_cons, List.map_nil]); first | done | rfl | (simp only [List.length_drop, List.length_take]; rfl)) ?_; (with_reducible refine (waystonelaw14_alive.calls kj4  false _ A12.out).mono ?_); rintro e w22 ⟨rfl, hb⟩; refine ⟨_, rfl, ?_⟩; have n0_ := Aside0.mk (below_step (by repeat (first | (with_reducible first | exact HB.out | apply below_alloc | apply pw_below_drewN | apply below_drew1) | exact HB.out)) hb); clear HB; have HB := n0_; clear n0_; (try clear hb); (try clear hb2); (try clear hk); (try clear hi)))
          go_ret
          exact ⟨by first | rfl | (simp [errW_none, errW_some] <;> rfl) | (simp [*, errW_none, errW_some] <;> rfl), by repeat (first | (with_reducible first | exact HB.out | apply below_alloc | apply pw_below_drewN | apply below_drew1) | exact HB.out)⟩
def waystoneref07_Same.l0 : Nat → List (S35) → List (S35) → Int → Option (Bool)
  | 0, _, _, _ => none
  | k + 1, x0, x1, x5 => if x5 < (x0.length : Int) then (if 0 ≤ x5 then (if x5 < (x1.length : Int) then (if (!(((rd_T35 x0 x5).f0) == ((rd_T35 x1 x5).f0)) || (!(((rd_T35 x0 x5).f1) == ((rd_T35 x1 x5).f1)) || (!(((rd_T35 x0 x5).f2) == ((rd_T35 x1 x5).f2)) || (!(((rd_T35 x0 x5).f3) == ((rd_T35 x1 x5).f3)) || ((!(((rd_T35 x0 x5).f4.f0) == ((rd_T35 x1 x5).f4.f0)) || (!(((rd_T35 x0 x5).f4.f1) == ((rd_T35 x1 x5).f4.f1)))) || (!(((rd_T35 x0 x5).f5) == ((rd_T35 x1 x5).f5)))))))) = true then (some false) else (waystoneref07_Same.l0 k x0 x1 (wrap64 (x5 + 1)))) else (none)) else (none)) else (some true)
def waystoneref07_Same.f (k : Nat) (l0 : List (S35)) (l1 : List (S35)) : Option (Bool) := if (l0.length : Int) = (l1.length : Int) then (waystoneref07_Same.l0 k l0 l1 0) else (some false)
set_option maxHeartbeats 8000000 in
set_option maxRecDepth 100000 in
theorem waystoneref07_Same.calls (k : Nat) (A0 : Option Addr) (c0 : Nat) (l0 : List (S35)) (A1 : Option Addr) (c1 : Nat) (l1 : List (S35)) (r : Bool) (w : World) (hr0 : Kd.C k35 w A0 l0.length l0) (hc0 : l0.length ≤ c0) (hr1 : Kd.C k35 w A1 l1.length l1) (hc1 : l1.length ≤ c1) (h : waystoneref07_Same.f k l0 l1 = some r) :
    Calls Try.prog 14 #[.slice A0 l0.length c0, .slice A1 l1.length c1] w fun e w' => e = .returned (.bool r) ∧ Drawn0 w w' := by
  have hu35 := Try.underlying35
  have HR0 := Aside0.mk hr0
  have HC0 := Aside0.mk hc0
  clear hr0 hc0
  have HR1 := Aside0.mk hr1
  have HC1 := Aside0.mk hc1
  clear hr1 hc1
  have H : (if (l0.length : Int) = (l1.length : Int) then (waystoneref07_Same.l0 k l0 l1 0) else (some false)) = some r := h
  clear h
  by_cases c3 : (l0.length : Int) = (l1.length : Int)
  · rw [if_pos c3] at H
    have c3b0 : ((l0.length : Int) == (l1.length : Int)) = true := beq_iff_eq.mpr c3
    have c3b1 : ((l0.length : Int) != (l1.length : Int)) = false := bne_eq_false_iff_eq.mpr c3
    have c3b2 : (l0.length == l1.length) = true := by first | simpa using c3 | (simp at c3 ⊢; omega)
    clear c3
    have H' := Aside0.mk H
    clear H
    go_enter Try.func14, Try.ntmps14
    go_wp2
    repeat (go_quiet (fail); try go_wp2)
    go_loopg [5] k (fun kq v5 w' => ∃ (x5_1 : Int), v5 = .int .i64 x5_1 ∧ Aside0 (waystoneref07_Same.l0 kq l0 l1 x5_1 = some r) ∧ Aside0 (kq ≤ k) ∧ Drawn0 w w')
    case atStart => exact ⟨(0), (by first | rfl | (simp; done) | (simp [*]; done)), H', ⟨Nat.le_refl _⟩, by repeat (first | exact Drawn0.refl _ | apply Drawn0.step)⟩
    case round =>
      clear H'
      try clear c1
      try clear p2
      try clear c3
      try clear c3b0
      try clear c3b1
      try clear c3b2
      obtain ⟨x5_1, rfl, HA, HK1, ⟨m1, rfl⟩⟩ := hrel
      cases gk with
      | zero => exact absurd HA.out (by simp [waystoneref07_Same.l0])
      | succ k1 =>
        have H := HA.out
        clear HA
        simp only [waystoneref07_Same.l0] at H
        by_cases c4 : x5_1 < (l0.length : Int)
        · rw [if_pos c4] at H
          have c4b0 : decide (x5_1 < (l0.length : Int)) = true := decide_eq_true c4
          clear c4
          by_cases c5 : 0 ≤ x5_1
          · rw [if_pos c5] at H
            have c5b0 : decide (0 ≤ x5_1) = true := decide_eq_true c5
            clear c5
            by_cases c6 : x5_1 < (l1.length : Int)
            · rw [if_pos c6] at H
              have c6b0 : decide (x5_1 < (l1.length : Int)) = true := decide_eq_true c6
              clear c6
              by_cases c7 : (!(((rd_T35 l0 x5_1).f0) == ((rd_T35 l1 x5_1).f0)) || (!(((rd_T35 l0 x5_1).f1) == ((rd_T35 l1 x5_1).f1)) || (!(((rd_T35 l0 x5_1).f2) == ((rd_T35 l1 x5_1).f2)) || (!(((rd_T35 l0 x5_1).f3) == ((rd_T35 l1 x5_1).f3)) || ((!(((rd_T35 l0 x5_1).f4.f0) == ((rd_T35 l1 x5_1).f4.f0)) || (!(((rd_T35 l0 x5_1).f4.f1) == ((rd_T35 l1 x5_1).f4.f1)))) || (!(((rd_T35 l0 x5_1).f5) == ((rd_T35 l1 x5_1).f5)))))))) = true
              · rw [if_pos c7] at H
                have c7b0 : (!(((rd_T35 l0 x5_1).f0) == ((rd_T35 l1 x5_1).f0)) || (!(((rd_T35 l0 x5_1).f1) == ((rd_T35 l1 x5_1).f1)) || (!(((rd_T35 l0 x5_1).f2) == ((rd_T35 l1 x5_1).f2)) || (!(((rd_T35 l0 x5_1).f3) == ((rd_T35 l1 x5_1).f3)) || ((!(((rd_T35 l0 x5_1).f4.f0) == ((rd_T35 l1 x5_1).f4.f0)) || (!(((rd_T35 l0 x5_1).f4.f1) == ((rd_T35 l1 x5_1).f4.f1)))) || (!(((rd_T35 l0 x5_1).f5) == ((rd_T35 l1 x5_1).f5)))))))) = true := c7
                clear c7
                obtain rfl := Option.some.inj H
                have p308 : 0 ≤ (x5_1 : Int) := of_decide_eq_true (by first | (with_reducible assumption) | assumption)
                have q308 : x5_1 < (l0.length : Int) := of_decide_eq_true (by first | (with_reducible assumption) | assumption)
                obtain ⟨ad308, e308, hx308_0, hx308_1, hx308_2, hx308_3, hx308_4, hx308_5, hx308_6⟩ := at_T35 HR0.out x5_1 p308 q308
                cases e308
                replace p308 := eq_true p308
                replace q308 := eq_true q308
                have p309 : 0 ≤ (x5_1 : Int) := of_decide_eq_true (by first | (with_reducible assumption) | assumption)
                have q309 : x5_1 < (l1.length : Int) := of_decide_eq_true (by first | (with_reducible assumption) | assumption)
                obtain ⟨ad309, e309, hx309_0, hx309_1, hx309_2, hx309_3, hx309_4, hx309_5, hx309_6⟩ := at_T35 HR1.out x5_1 p309 q309
                cases e309
                replace p309 := eq_true p309
                replace q309 := eq_true q309
                go_wp2
                repeat (go_quiet (fail); try go_wp2)
                go_ret
                exact ⟨by first | rfl | (simp; done) | (simp [*]; done), by repeat (first | exact Drawn0.refl _ | apply Drawn0.step)⟩
              · rw [if_neg c7] at H
                have c7b0 : (!(((rd_T35 l0 x5_1).f0) == ((rd_T35 l1 x5_1).f0)) || (!(((rd_T35 l0 x5_1).f1) == ((rd_T35 l1 x5_1).f1)) || (!(((rd_T35 l0 x5_1).f2) == ((rd_T35 l1 x5_1).f2)) || (!(((rd_T35 l0 x5_1).f3) == ((rd_T35 l1 x5_1).f3)) || ((!(((rd_T35 l0 x5_1).f4.f0) == ((rd_T35 l1 x5_1).f4.f0)) || (!(((rd_T35 l0 x5_1).f4.f1) == ((rd_T35 l1 x5_1).f4.f1)))) || (!(((rd_T35 l0 x5_1).f5) == ((rd_T35 l1 x5_1).f5)))))))) = false := by simpa using c7
                clear c7
                have H' := Aside0.mk H
                clear H
                have p308 : 0 ≤ (x5_1 : Int) := of_decide_eq_true (by first | (with_reducible assumption) | assumption)
                have q308 : x5_1 < (l0.length : Int) := of_decide_eq_true (by first | (with_reducible assumption) | assumption)
                obtain ⟨ad308, e308, hx308_0, hx308_1, hx308_2, hx308_3, hx308_4, hx308_5, hx308_6⟩ := at_T35 HR0.out x5_1 p308 q308
                cases e308
                replace p308 := eq_true p308
                replace q308 := eq_true q308
                have p309 : 0 ≤ (x5_1 : Int) := of_decide_eq_true (by first | (with_reducible assumption) | assumption)
                have q309 : x5_1 < (l1.length : Int) := of_decide_eq_true (by first | (with_reducible assumption) | assumption)
                obtain ⟨ad309, e309, hx309_0, hx309_1, hx309_2, hx309_3, hx309_4, hx309_5, hx309_6⟩ := at_T35 HR1.out x5_1 p309 q309
                cases e309
                replace p309 := eq_true p309
                replace q309 := eq_true q309
                go_wp2
                repeat (go_quiet (fail); try go_wp2)
                go_roundg k1
                case measure => have := HK1.out; omega
                case rel => exact ⟨(wrap64 (x5_1 + 1)), (by first | rfl | (simp; done) | (simp [*]; done)), H', ⟨by have := HK1.out; omega⟩, by repeat (first | exact Drawn0.refl _ | apply Drawn0.step)⟩
            · rw [if_neg c6] at H
              exact absurd H (by simp)
          · rw [if_neg c5] at H
            exact absurd H (by simp)
        · rw [if_neg c4] at H
          have c4b0 : decide (x5_1 < (l0.length : Int)) = false := decide_eq_false c4
          clear c4
          obtain rfl := Option.some.inj H
          go_wp2
          repeat (go_quiet (fail); try go_wp2)
          go_ret
          exact ⟨by first | rfl | (simp; done) | (simp [*]; done), by repeat (first | exact Drawn0.refl _ | apply Drawn0.step)⟩
  · rw [if_neg c3] at H
    have c3b0 : ((l0.length : Int) == (l1.length : Int)) = false := beq_eq_false_iff_ne.mpr c3
    have c3b1 : ((l0.length : Int) != (l1.length : Int)) = true := bne_iff_ne.mpr c3
    have c3b2 : (l0.length == l1.length) = false := by first | simpa using c3 | (simp at c3 ⊢; omega)
    obtain rfl := Option.some.inj H
    go_enter Try.func14, Try.ntmps14
    go_wp2
    repeat (go_quiet (fail); try go_wp2)
    go_ret
    exact ⟨by first | rfl | (simp; done) | (simp [*]; done), by repeat (first | exact Drawn0.refl _ | apply Drawn0.step)⟩
mutual
def waystonelaw14_EditApart.j0 : Nat → List (S35) → Bool → Int → Int → Int → Int → Int → Int → Int → Int → Int → Int → Int → Int → Int → Int → Int → Int → Option (Bool)
  | 0, _, _, _, _, _, _, _, _, _, _, _, _, _, _, _, _, _, _ => none
  | k + 1, x0, x27, x311000, x311001, x311002, x311003, x311004, x311005, x311006, x311007, x312000, x312001, x312002, x312003, x312004, x312005, x312006, x312007 => if x27 = true then ((waystonelaw14_alive.f k).bind fun t313 => (some t313)) else ((edit_All.f k x0 (([(⟨x311000, (⟨x311001, x311002, x311003, x311004, (⟨x311005, x311006⟩ : S33), x311007⟩ : S35)⟩ : S37), (⟨x312000, (⟨x312001, x312002, x312003, x312004, (⟨x312005, x312006⟩ : S33), x312007⟩ : S35)⟩ : S37)] : List (S37)))).bind fun bt317 => ((edit_All.f k x0 (([(⟨x312000, (⟨x312001, x312002, x312003, x312004, (⟨x312005, x312006⟩ : S33), x312007⟩ : S35)⟩ : S37), (⟨x311000, (⟨x311001, x311002, x311003, x311004, (⟨x311005, x311006⟩ : S33), x311007⟩ : S35)⟩ : S37)] : List (S37)))).bind fun bt325 => (if bt317.2.2 = 0 then (waystonelaw14_EditApart.j1 k bt317.1 bt317.2.1 bt325.1 bt325.2.1 (bt325.2.2 != 0)) else (waystonelaw14_EditApart.j1 k bt317.1 bt317.2.1 bt325.1 bt325.2.1 true))))
def waystonelaw14_EditApart.j1 : Nat → List (S35) → Int → List (S35) → Int → Bool → Option (Bool)
  | 0, _, _, _, _, _ => none
  | k + 1, x8, x9, x11, x12, x52 => if x52 = true then ((waystonelaw14_alive.f k).bind fun t330 => (some t330)) else ((waystoneref07_Same.f k x8 x11).bind fun t331 => ((waystonelaw14_alive.f k).bind fun t332 => (if t332 = true then (if t331 = true then (if x9 = 2 then (some (x12 == 2)) else (some false)) else (some false)) else (some false))))
end
def waystonelaw14_EditApart.f (k : Nat) (l0 : List (S35)) (a1_0 : Int) (a1_1 : Int) (a1_2 : Int) (a1_3 : Int) (a1_4 : Int) (a1_5 : Int) (a1_6 : Int) (a1_7 : Int) (a2_0 : Int) (a2_1 : Int) (a2_2 : Int) (a2_3 : Int) (a2_4 : Int) (a2_5 : Int) (a2_6 : Int) (a2_7 : Int) : Option (Bool) := (waystonelaw14_Fits.f k l0).bind fun t312 => (if t312 = true then (waystonelaw14_EditApart.j0 k l0 (a1_1 == a2_1) a1_0 a1_1 a1_2 a1_3 a1_4 a1_5 a1_6 a1_7 a2_0 a2_1 a2_2 a2_3 a2_4 a2_5 a2_6 a2_7) else (waystonelaw14_EditApart.j0 k l0 true a1_0 a1_1 a1_2 a1_3 a1_4 a1_5 a1_6 a1_7 a2_0 a2_1 a2_2 a2_3 a2_4 a2_5 a2_6 a2_7))
set_option maxHeartbeats 8000000 in
set_option maxRecDepth 100000 in
theorem waystonelaw14_EditApart.calls (k : Nat) (A0 : Option Addr) (c0 : Nat) (l0 : List (S35)) (a1_0 : Int) (a1_1 : Int) (a1_2 : Int) (a1_3 : Int) (a1_4 : Int) (a1_5 : Int) (a1_6 : Int) (a1_7 : Int) (a2_0 : Int) (a2_1 : Int) (a2_2 : Int) (a2_3 : Int) (a2_4 : Int) (a2_5 : Int) (a2_6 : Int) (a2_7 : Int) (r : Bool) (w : World) (hr0 : Kd.C k35 w A0 l0.length l0) (hc0 : l0.length ≤ c0) (h : waystonelaw14_EditApart.f k l0 a1_0 a1_1 a1_2 a1_3 a1_4 a1_5 a1_6 a1_7 a2_0 a2_1 a2_2 a2_3 a2_4 a2_5 a2_6 a2_7 = some r) :
    Calls Try.prog 4 #[.slice A0 l0.length c0, .agg #[.int .i64 a1_0, .int .i64 a1_1, .int .i64 a1_2, .int .i64 a1_3, .int .i64 a1_4, .int .u32 a1_5, .int .u32 a1_6, .int .i64 a1_7], .agg #[.int .i64 a2_0, .int .i64 a2_1, .int .i64 a2_2, .int .i64 a2_3, .int .i64 a2_4, .int .u32 a2_5, .int .u32 a2_6, .int .i64 a2_7]] w fun e w' => e = .returned (.bool r) ∧ Below w.heap.size w w' := by
  have hu37 := Try.underlying37
  have HR0 := Aside0.mk hr0
  have HC0 := Aside0.mk hc0
  clear hr0 hc0
  have HB := Aside0.mk (Below.refl w.heap.size w)
  have H : ((waystonelaw14_Fits.f k l0).bind fun t312 => (if t312 = true then (waystonelaw14_EditApart.j0 k l0 (a1_1 == a2_1) a1_0 a1_1 a1_2 a1_3 a1_4 a1_5 a1_6 a1_7 a2_0 a2_1 a2_2 a2_3 a2_4 a2_5 a2_6 a2_7) else (waystonelaw14_EditApart.j0 k l0 true a1_0 a1_1 a1_2 a1_3 a1_4 a1_5 a1_6 a1_7 a2_0 a2_1 a2_2 a2_3 a2_4 a2_5 a2_6 a2_7))) = some r := h
  clear h
  replace H := Option.bind_eq_some_iff.mp H
  obtain ⟨t312, A40, H⟩ := H
  replace H : (if t312 = true then (waystonelaw14_EditApart.j0 k l0 (a1_1 == a2_1) a1_0 a1_1 a1_2 a1_3 a1_4 a1_5 a1_6 a1_7 a2_0 a2_1 a2_2 a2_3 a2_4 a2_5 a2_6 a2_7) else (waystonelaw14_EditApart.j0 k l0 true a1_0 a1_1 a1_2 a1_3 a1_4 a1_5 a1_6 a1_7 a2_0 a2_1 a2_2 a2_3 a2_4 a2_5 a2_6 a2_7)) = some r := H
  have A4 := Aside0.mk A40
  clear A40
  have HC5 := Aside0.mk H
  clear H
  go_enter Try.func4, Try.ntmps4
  go_upto_region 2 with (first | ((with_reducible refine gate_dst (N := 4) rfl ?_); refine box_event ?hg (N := 4) ?hd (cs := #[.int .i64 a1_0, .int .i64 a1_1, .int .i64 a1_2, .int .i64 a1_3, .int .i64 a1_4, .int .u32 a1_5, .int .u32 a1_6, .int .i64 a1_7]) (t := 37) ?hr ?_; (case hd => rfl); (case hg => rfl); (case hr => first | (go_simp; done) | (go_simp; rfl)); intro gb310 hg w6 hbox hb; have n0_ := Aside0.mk (below_step (by repeat (first | (with_reducible first | exact HB.out | apply below_alloc | apply pw_below_drewN | apply below_drew1) | exact HB.out)) hb); have n1_ := Aside0.mk (hbox); have n2_ := Aside0.mk ((by rw [hg]; exact (below_size (by repeat (first | (with_reducible first | exact HB.out | apply below_alloc | apply pw_below_drewN | apply below_drew1) | exact HB.out))) : w.heap.size ≤ gb310)); have n3_ := Aside0.mk ((by rw [hg]; exact (below_size (by repeat (first | (with_reducible first | exact HB.out | apply below_alloc | apply pw_below_drewN | apply below_drew1) | exact HB.out))) : w.heap.size ≤ gb310)); clear HB; have HB := n0_; have BK310 := n1_; have GW310 := n2_; have GE310 := n3_; clear n0_ n1_ n2_ n3_; clear hb hbox hg) | ((with_reducible refine gate_dst (N := 5) rfl ?_); refine box_event ?hg (N := 5) ?hd (cs := #[.int .i64 a2_0, .int .i64 a2_1, .int .i64 a2_2, .int .i64 a2_3, .int .i64 a2_4, .int .u32 a2_5, .int .u32 a2_6, .int .i64 a2_7]) (t := 37) ?hr ?_; (case hd => rfl); (case hg => rfl); (case hr => first | (go_simp; done) | (go_simp; rfl)); intro gb311 hg w7 hbox hb; have n0_ := Aside0.mk (blk_below (g := gb310) (o := .cells #[.int .i64 a1_0, .int .i64 a1_1, .int .i64 a1_2, .int .i64 a1_3, .int .i64 a1_4, .int .u32 a1_5, .int .u32 a1_6, .int .i64 a1_7] 37 (0, 0)) (by (with_reducible repeat (first | refine blk_drewN ?_ _ | refine blk_drew ?_ | refine blk_alloc ?_ _)); exact BK310.out) hb); have n1_ := Aside0.mk (below_step (by repeat (first | (with_reducible first | exact HB.out | apply below_alloc | apply pw_below_drewN | apply below_drew1 | refine below_set ?_ GE310.out) | exact HB.out)) hb); have n2_ := Aside0.mk (hbox); have n3_ := Aside0.mk ((by rw [hg]; exact (below_size (by repeat (first | (with_reducible first | exact HB.out | apply below_alloc | apply pw_below_drewN | apply below_drew1 | refine below_set ?_ GE310.out) | exact HB.out))) : w.heap.size ≤ gb311)); have n4_ := Aside0.mk ((by rw [hg]; exact (below_size (by repeat (first | (with_reducible first | exact HB.out | apply below_alloc | apply pw_below_drewN | apply below_drew1 | refine below_set ?_ GE310.out) | exact HB.out))) : w.heap.size ≤ gb311)); have n5_ := Aside0.mk ((by rw [hg]; exact Nat.ne_of_lt (blk_lt (g := gb310) (o := .cells #[.int .i64 a1_0, .int .i64 a1_1, .int .i64 a1_2, .int .i64 a1_3, .int .i64 a1_4, .int .u32 a1_5, .int .u32 a1_6, .int .i64 a1_7] 37 (0, 0)) (by (with_reducible repeat (first | refine blk_drewN ?_ _ | refine blk_drew ?_ | refine blk_alloc ?_ _)); exact BK310.out)) : gb310 ≠ gb311)); have n6_ := Aside0.mk ((by rw [hg]; exact Nat.ne_of_gt (blk_lt (g := gb310) (o := .cells #[.int .i64 a1_0, .int .i64 a1_1, .int .i64 a1_2, .int .i64 a1_3, .int .i64 a1_4, .int .u32 a1_5, .int .u32 a1_6, .int .i64 a1_7] 37 (0, 0)) (by (with_reducible repeat (first | refine blk_drewN ?_ _ | refine blk_drew ?_ | refine blk_alloc ?_ _)); exact BK310.out)) : gb311 ≠ gb310)); clear BK310; clear HB; have BK310 := n0_; have HB := n1_; have BK311 := n2_; have GW311 := n3_; have GE311 := n4_; have NB310_311 := n5_; have NB311_310 := n6_; clear n0_ n1_ n2_ n3_ n4_ n5_ n6_; clear hb hbox hg) | ((with_reducible refine gate_callee (f := 8) rfl ?_); refine goesL_ (some 16) rfl rfl Try.func8 (by kernel_rfl) rfl #[.slice A0 l0.length c0] rfl (by (try simp only [List.map_toArray, List.map_cons, List.map_nil]); first | done | rfl | (simp only [List.length_drop, List.length_take]; rfl)) ?_; (with_reducible refine (waystonelaw14_Fits.calls k _ _ l0 t312 _ ?side1 ?side2 A4.out).mono ?_); (case side1 => repeat (first | exact (Kd.C_below HR0.out HB.out) | (with_reducible refine Kd.C_alloc ?_ _) | (with_reducible refine Kd.C_drewN ?_ _) | (with_reducible refine Kd.C_drew ?_))); (case side2 => exact HC0.out); rintro e w8 ⟨rfl, hb⟩; refine ⟨_, rfl, ?_⟩; have n0_ := Aside0.mk (blk_below (g := gb310) (o := .cells #[.int .i64 a1_0, .int .i64 a1_1, .int .i64 a1_2, .int .i64 a1_3, .int .i64 a1_4, .int .u32 a1_5, .int .u32 a1_6, .int .i64 a1_7] 37 (0, 0)) (by (with_reducible repeat (first | refine blk_drewN ?_ _ | refine blk_drew ?_ | refine blk_alloc ?_ _)); exact BK310.out) hb); have n1_ := Aside0.mk (blk_below (g := gb311) (o := .cells #[.int .i64 a2_0, .int .i64 a2_1, .int .i64 a2_2, .int .i64 a2_3, .int .i64 a2_4, .int .u32 a2_5, .int .u32 a2_6, .int .i64 a2_7] 37 (0, 0)) (by (with_reducible repeat (first | refine blk_drewN ?_ _ | refine blk_drew ?_ | refine blk_alloc ?_ _)); exact BK311.out) hb); have n2_ := Aside0.mk (below_step (by repeat (first | (with_reducible first | exact HB.out | apply below_alloc | apply pw_below_drewN | apply below_drew1 | refine below_set ?_ GE310.out | refine below_set ?_ GE311.out) | exact HB.out)) hb); clear BK310; clear BK311; clear HB; have BK310 := n0_; have BK311 := n1_; have HB := n2_; clear n0_ n1_ n2_; (try clear hb); (try clear hb2); (try clear hk); (try clear hi)))
  (try simp only [Act.put, List.setIfInBounds_toArray, List.set_cons_zero, List.set_cons_succ])
  go_cut [27] (fun v27 wc => ∃ (kq : Nat) (x27_4 : Bool), v27 = .bool x27_4 ∧ Aside0 (waystonelaw14_EditApart.j0 kq l0 x27_4 a1_0 a1_1 a1_2 a1_3 a1_4 a1_5 a1_6 a1_7 a2_0 a2_1 a2_2 a2_3 a2_4 a2_5 a2_6 a2_7 = some r) ∧ Aside0 (kq ≤ k) ∧ Aside0 (wc.heap[gb310]? = some (.cells #[.int .i64 a1_0, .int .i64 a1_1, .int .i64 a1_2, .int .i64 a1_3, .int .i64 a1_4, .int .u32 a1_5, .int .u32 a1_6, .int .i64 a1_7] 37 (0, 0))) ∧ Aside0 (wc.heap[gb311]? = some (.cells #[.int .i64 a2_0, .int .i64 a2_1, .int .i64 a2_2, .int .i64 a2_3, .int .i64 a2_4, .int .u32 a2_5, .int .u32 a2_6, .int .i64 a2_7] 37 (0, 0))) ∧ Aside0 (Below w.heap.size w wc))
  case first =>
    have H := HC5.out
    clear HC5
    by_cases c9 : t312 = true
    · subst c9
      have H1 : (waystonelaw14_EditApart.j0 k l0 (a1_1 == a2_1) a1_0 a1_1 a1_2 a1_3 a1_4 a1_5 a1_6 a1_7 a2_0 a2_1 a2_2 a2_3 a2_4 a2_5 a2_6 a2_7) = some r := by rw [if_pos rfl] at H; exact H
      clear H
      have H := H1
      clear H1
      have H' := Aside0.mk H
      clear H
      have hnb10 := NB310_311.out
      have hnc10 := NB311_310.out
      have hcz11_0 : w8.cell? ⟨gb310, 0, none⟩ = some (.int .i64 a1_0) := (blk_cell BK310.out 0).trans rfl
      have hcz11_1 : w8.cell? ⟨gb310, 1, none⟩ = some (.int .i64 a1_1) := (blk_cell BK310.out 1).trans rfl
      have hcz11_2 : w8.cell? ⟨gb310, 2, none⟩ = some (.int .i64 a1_2) := (blk_cell BK310.out 2).trans rfl
      have hcz11_3 : w8.cell? ⟨gb310, 3, none⟩ = some (.int .i64 a1_3) := (blk_cell BK310.out 3).trans rfl
      have hcz11_4 : w8.cell? ⟨gb310, 4, none⟩ = some (.int .i64 a1_4) := (blk_cell BK310.out 4).trans rfl
      have hcz11_5 : w8.cell? ⟨gb310, 5, none⟩ = some (.int .u32 a1_5) := (blk_cell BK310.out 5).trans rfl
      have hcz11_6 : w8.cell? ⟨gb310, 6, none⟩ = some (.int .u32 a1_6) := (blk_cell BK310.out 6).trans rfl
      have hcz11_7 : w8.cell? ⟨gb310, 7, none⟩ = some (.int .i64 a1_7) := (blk_cell BK310.out 7).trans rfl
      have hfz11_0 := blk_frozen BK310.out 0
      have hfz11_1 := blk_frozen BK310.out 1
      have hfz11_2 := blk_frozen BK310.out 2
      have hfz11_3 := blk_frozen BK310.out 3
      have hfz11_4 := blk_frozen BK310.out 4
      have hfz11_5 := blk_frozen BK310.out 5
      have hfz11_6 := blk_frozen BK310.out 6
      have hfz11_7 := blk_frozen BK310.out 7
      have hcz12_0 : w8.cell? ⟨gb311, 0, none⟩ = some (.int .i64 a2_0) := (blk_cell BK311.out 0).trans rfl
      have hcz12_1 : w8.cell? ⟨gb311, 1, none⟩ = some (.int .i64 a2_1) := (blk_cell BK311.out 1).trans rfl
      have hcz12_2 : w8.cell? ⟨gb311, 2, none⟩ = some (.int .i64 a2_2) := (blk_cell BK311.out 2).trans rfl
      have hcz12_3 : w8.cell? ⟨gb311, 3, none⟩ = some (.int .i64 a2_3) := (blk_cell BK311.out 3).trans rfl
      have hcz12_4 : w8.cell? ⟨gb311, 4, none⟩ = some (.int .i64 a2_4) := (blk_cell BK311.out 4).trans rfl
      have hcz12_5 : w8.cell? ⟨gb311, 5, none⟩ = some (.int .u32 a2_5) := (blk_cell BK311.out 5).trans rfl
      have hcz12_6 : w8.cell? ⟨gb311, 6, none⟩ = some (.int .u32 a2_6) := (blk_cell BK311.out 6).trans rfl
      have hcz12_7 : w8.cell? ⟨gb311, 7, none⟩ = some (.int .i64 a2_7) := (blk_cell BK311.out 7).trans rfl
      have hfz12_0 := blk_frozen BK311.out 0
      have hfz12_1 := blk_frozen BK311.out 1
      have hfz12_2 := blk_frozen BK311.out 2
      have hfz12_3 := blk_frozen BK311.out 3
      have hfz12_4 := blk_frozen BK311.out 4
      have hfz12_5 := blk_frozen BK311.out 5
      have hfz12_6 := blk_frozen BK311.out 6
      have hfz12_7 := blk_frozen BK311.out 7
      go_wp2
      go_meet
      case rel => exact ⟨_, ((a1_1 == a2_1)), (by first | rfl | (simp; done) | (simp [*]; done)), H', ⟨by first | omega | exact Nat.le_refl _⟩, ⟨by (with_reducible repeat (first | refine blk_drewN ?_ _ | refine blk_drew ?_ | refine blk_alloc ?_ _)); exact BK310.out⟩, ⟨by (with_reducible repeat (first | refine blk_drewN ?_ _ | refine blk_drew ?_ | refine blk_alloc ?_ _)); exact BK311.out⟩, ⟨by repeat (first | (with_reducible first | exact HB.out | apply below_alloc | apply pw_below_drewN | apply below_drew1 | refine below_set ?_ GE310.out | refine below_set ?_ GE311.out) | exact HB.out)⟩⟩
    · replace c9 := Bool.eq_false_iff.mpr c9
      subst c9
      have H1 : (waystonelaw14_EditApart.j0 k l0 true a1_0 a1_1 a1_2 a1_3 a1_4 a1_5 a1_6 a1_7 a2_0 a2_1 a2_2 a2_3 a2_4 a2_5 a2_6 a2_7) = some r := by rw [if_neg (show ¬ (false = true) by decide)] at H; exact H
      clear H
      have H := H1
      clear H1
      have H' := Aside0.mk H
      clear H
      go_wp2
      go_meet
      case rel => exact ⟨_, (true), (by first | rfl | (simp; done) | (simp [*]; done)), H', ⟨by first | omega | exact Nat.le_refl _⟩, ⟨by (with_reducible repeat (first | refine blk_drewN ?_ _ | refine blk_drew ?_ | refine blk_alloc ?_ _)); exact BK310.out⟩, ⟨by (with_reducible repeat (first | refine blk_drewN ?_ _ | refine blk_drew ?_ | refine blk_alloc ?_ _)); exact BK311.out⟩, ⟨by repeat (first | (with_reducible first | exact HB.out | apply below_alloc | apply pw_below_drewN | apply below_drew1 | refine below_set ?_ GE310.out | refine below_set ?_ GE311.out) | exact HB.out)⟩⟩
  case rest =>
    clear HC5
    try clear c1
    try clear p2
    try clear c4
    try clear c8
    try clear c9
    try clear c10
    try clear hcz11_0
    try clear hcz11_1
    try clear hcz11_2
    try clear hcz11_3
    try clear hcz11_4
    try clear hcz11_5
    try clear hcz11_6
    try clear hcz11_7
    try clear hcz12_0
    try clear hcz12_1
    try clear hcz12_2
    try clear hcz12_3
    try clear hcz12_4
    try clear hcz12_5
    try clear hcz12_6
    try clear hcz12_7
    try clear hfz11_0
    try clear hfz11_1
    try clear hfz11_2
    try clear hfz11_3
    try clear hfz11_4
    try clear hfz11_5
    try clear hfz11_6
    try clear hfz11_7
    try clear hfz12_0
    try clear hfz12_1
    try clear hfz12_2
    try clear hfz12_3
    try clear hfz12_4
    try clear hfz12_5
    try clear hfz12_6
    try clear hfz12_7
    obtain ⟨kq, x27_4, rfl, HA, HJ4, BK310, BK311, HB⟩ := hcut
    cases kq with
    | zero => exact absurd HA.out (by simp [waystonelaw14_EditApart.j0])
    | succ kj4 =>
      have H := HA.out
      clear HA
      simp only [waystonelaw14_EditApart.j0] at H
      by_cases c13 : x27_4 = true
      · subst c13
        have H1 : ((waystonelaw14_alive.f kj4).bind fun t313 => (some t313)) = some r := by rw [if_pos rfl] at H; exact H
        clear H
        have H := H1
        clear H1
        replace H := Option.bind_eq_some_iff.mp H
        obtain ⟨t313, A140, H⟩ := H
        replace H : (some t313) = some r := H
        have A14 := Aside0.mk A140
        clear A140
        obtain rfl := Option.some.inj H
        go_wp2_with (first | ((with_reducible refine gate_callee (f := 9) rfl ?_); refine goesL_ (some 28) rfl rfl Try.func9 (by kernel_rfl) rfl #[] rfl (by (try simp only [List.map_toArray, List.map_cons, List.map_nil]); first | done | rfl | (simp only [List.length_drop, List.length_take]; rfl)) ?_; (with_reducible refine (waystonelaw14_alive.calls kj4  t313 _ A14.out).mono ?_); rintro e w15 ⟨rfl, hb⟩; refine ⟨_, rfl, ?_⟩; have n0_ := Aside0.mk (blk_below (g := gb310) (o := .cells #[.int .i64 a1_0, .int .i64 a1_1, .int .i64 a1_2, .int .i64 a1_3, .int .i64 a1_4, .int .u32 a1_5, .int .u32 a1_6, .int .i64 a1_7] 37 (0, 0)) (by (with_reducible repeat (first | refine blk_drewN ?_ _ | refine blk_drew ?_ | refine blk_alloc ?_ _)); exact BK310.out) hb); have n1_ := Aside0.mk (blk_below (g := gb311) (o := .cells #[.int .i64 a2_0, .int .i64 a2_1, .int .i64 a2_2, .int .i64 a2_3, .int .i64 a2_4, .int .u32 a2_5, .int .u32 a2_6, .int .i64 a2_7] 37 (0, 0)) (by (with_reducible repeat (first | refine blk_drewN ?_ _ | refine blk_drew ?_ | refine blk_alloc ?_ _)); exact BK311.out) hb); have n2_ := Aside0.mk (below_step (by repeat (first | (with_reducible first | exact HB.out | apply below_alloc | apply pw_below_drewN | apply below_drew1 | refine below_set ?_ GE310.out | refine below_set ?_ GE311.out) | exact HB.out)) hb); clear BK310; clear BK311; clear HB; have BK310 := n0_; have BK311 := n1_; have HB := n2_; clear n0_ n1_ n2_; (try clear hb); (try clear hb2); (try clear hk); (try clear hi)))
        go_ret
        exact ⟨by first | rfl | (simp [errW_none, errW_some] <;> rfl) | (simp [*, errW_none, errW_some] <;> rfl), by repeat (first | (with_reducible first | exact HB.out | apply below_alloc | apply pw_below_drewN | apply below_drew1 | refine below_set ?_ GE310.out | refine below_set ?_ GE311.out) | exact HB.out)⟩
      · replace c13 := Bool.eq_false_iff.mpr c13
        subst c13
        have H1 : ((edit_All.f kj4 l0 (([(⟨a1_0, (⟨a1_1, a1_2, a1_3, a1_4, (⟨a1_5, a1_6⟩ : S33), a1_7⟩ : S35)⟩ : S37), (⟨a2_0, (⟨a2_1, a2_2, a2_3, a2_4, (⟨a2_5, a2_6⟩ : S33), a2_7⟩ : S35)⟩ : S37)] : List (S37)))).bind fun bt317 => ((edit_All.f kj4 l0 (([(⟨a2_0, (⟨a2_1, a2_2, a2_3, a2_4, (⟨a2_5, a2_6⟩ : S33), a2_7⟩ : S35)⟩ : S37), (⟨a1_0, (⟨a1_1, a1_2, a1_3, a1_4, (⟨a1_5, a1_6⟩ : S33), a1_7⟩ : S35)⟩ : S37)] : List (S37)))).bind fun bt325 => (if bt317.2.2 = 0 then (waystonelaw14_EditApart.j1 kj4 bt317.1 bt317.2.1 bt325.1 bt325.2.1 (bt325.2.2 != 0)) else (waystonelaw14_EditApart.j1 kj4 bt317.1 bt317.2.1 bt325.1 bt325.2.1 true)))) = some r := by rw [if_neg (show ¬ (false = true) by decide)] at H; exact H
        clear H
        have H := H1
        clear H1
        obtain ⟨y314, hy314⟩ : ∃ y_ : List (S37), y_ = (([(⟨a1_0, (⟨a1_1, a1_2, a1_3, a1_4, (⟨a1_5, a1_6⟩ : S33), a1_7⟩ : S35)⟩ : S37), (⟨a2_0, (⟨a2_1, a2_2, a2_3, a2_4, (⟨a2_5, a2_6⟩ : S33), a2_7⟩ : S35)⟩ : S37)] : List (S37))) := ⟨_, rfl⟩
        replace H : ((edit_All.f kj4 l0 y314).bind fun bt317 => ((edit_All.f kj4 l0 (([(⟨a2_0, (⟨a2_1, a2_2, a2_3, a2_4, (⟨a2_5, a2_6⟩ : S33), a2_7⟩ : S35)⟩ : S37), (⟨a1_0, (⟨a1_1, a1_2, a1_3, a1_4, (⟨a1_5, a1_6⟩ : S33), a1_7⟩ : S35)⟩ : S37)] : List (S37)))).bind fun bt325 => (if bt317.2.2 = 0 then (waystonelaw14_EditApart.j1 kj4 bt317.1 bt317.2.1 bt325.1 bt325.2.1 (bt325.2.2 != 0)) else (waystonelaw14_EditApart.j1 kj4 bt317.1 bt317.2.1 bt325.1 bt325.2.1 true)))) = some r := by first | (rw [hy314]; with_reducible exact H) | (have H2_ := (Option.bind_some _ _).symm.trans H; rw [hy314]; with_reducible exact H2_) | (have H2_ := (Option.bind_some _ _).symm.trans H; with_reducible exact H2_) | with_reducible exact H | (rw [hy314]; exact H) | exact H
        have Ny314 := Aside0.mk hy314
        clear hy314
        replace H := Option.bind_eq_some_iff.mp H
        obtain ⟨⟨t317, t318, t319⟩, A160, H⟩ := H
        replace H : ((edit_All.f kj4 l0 (([(⟨a2_0, (⟨a2_1, a2_2, a2_3, a2_4, (⟨a2_5, a2_6⟩ : S33), a2_7⟩ : S35)⟩ : S37), (⟨a1_0, (⟨a1_1, a1_2, a1_3, a1_4, (⟨a1_5, a1_6⟩ : S33), a1_7⟩ : S35)⟩ : S37)] : List (S37)))).bind fun bt325 => (if t319 = 0 then (waystonelaw14_EditApart.j1 kj4 t317 t318 bt325.1 bt325.2.1 (bt325.2.2 != 0)) else (waystonelaw14_EditApart.j1 kj4 t317 t318 bt325.1 bt325.2.1 true))) = some r := H
        have A16 := Aside0.mk A160
        clear A160
        obtain ⟨y322, hy322⟩ : ∃ y_ : List (S37), y_ = (([(⟨a2_0, (⟨a2_1, a2_2, a2_3, a2_4, (⟨a2_5, a2_6⟩ : S33), a2_7⟩ : S35)⟩ : S37), (⟨a1_0, (⟨a1_1, a1_2, a1_3, a1_4, (⟨a1_5, a1_6⟩ : S33), a1_7⟩ : S35)⟩ : S37)] : List (S37))) := ⟨_, rfl⟩
        replace H : ((edit_All.f kj4 l0 y322).bind fun bt325 => (if t319 = 0 then (waystonelaw14_EditApart.j1 kj4 t317 t318 bt325.1 bt325.2.1 (bt325.2.2 != 0)) else (waystonelaw14_EditApart.j1 kj4 t317 t318 bt325.1 bt325.2.1 true))) = some r := by first | (rw [hy322]; with_reducible exact H) | (have H2_ := (Option.bind_some _ _).symm.trans H; rw [hy322]; with_reducible exact H2_) | (have H2_ := (Option.bind_some _ _).symm.trans H; with_reducible exact H2_) | with_reducible exact H | (rw [hy322]; exact H) | exact H
        have Ny322 := Aside0.mk hy322
        clear hy322
        replace H := Option.bind_eq_some_iff.mp H
        obtain ⟨⟨t325, t326, t327⟩, A170, H⟩ := H
        replace H : (if t319 = 0 then (waystonelaw14_EditApart.j1 kj4 t317 t318 t325 t326 (t327 != 0)) else (waystonelaw14_EditApart.j1 kj4 t317 t318 t325 t326 true)) = some r := H
        have A17 := Aside0.mk A170
        clear A170
        have HC18 := Aside0.mk H
        clear H
        have hnb19 := NB310_311.out
        have hnc19 := NB311_310.out
        have hcz20_0 : wc.cell? ⟨gb310, 0, none⟩ = some (.int .i64 a1_0) := (blk_cell BK310.out 0).trans rfl
        have hcz20_1 : wc.cell? ⟨gb310, 1, none⟩ = some (.int .i64 a1_1) := (blk_cell BK310.out 1).trans rfl
        have hcz20_2 : wc.cell? ⟨gb310, 2, none⟩ = some (.int .i64 a1_2) := (blk_cell BK310.out 2).trans rfl
        have hcz20_3 : wc.cell? ⟨gb310, 3, none⟩ = some (.int .i64 a1_3) := (blk_cell BK310.out 3).trans rfl
        have hcz20_4 : wc.cell? ⟨gb310, 4, none⟩ = some (.int .i64 a1_4) := (blk_cell BK310.out 4).trans rfl
        have hcz20_5 : wc.cell? ⟨gb310, 5, none⟩ = some (.int .u32 a1_5) := (blk_cell BK310.out 5).trans rfl
        have hcz20_6 : wc.cell? ⟨gb310, 6, none⟩ = some (.int .u32 a1_6) := (blk_cell BK310.out 6).trans rfl
        have hcz20_7 : wc.cell? ⟨gb310, 7, none⟩ = some (.int .i64 a1_7) := (blk_cell BK310.out 7).trans rfl
        have hfz20_0 := blk_frozen BK310.out 0
        have hfz20_1 := blk_frozen BK310.out 1
        have hfz20_2 := blk_frozen BK310.out 2
        have hfz20_3 := blk_frozen BK310.out 3
        have hfz20_4 := blk_frozen BK310.out 4
        have hfz20_5 := blk_frozen BK310.out 5
        have hfz20_6 := blk_frozen BK310.out 6
        have hfz20_7 := blk_frozen BK310.out 7
        have hcz21_0 : wc.cell? ⟨gb311, 0, none⟩ = some (.int .i64 a2_0) := (blk_cell BK311.out 0).trans rfl
        have hcz21_1 : wc.cell? ⟨gb311, 1, none⟩ = some (.int .i64 a2_1) := (blk_cell BK311.out 1).trans rfl
        have hcz21_2 : wc.cell? ⟨gb311, 2, none⟩ = some (.int .i64 a2_2) := (blk_cell BK311.out 2).trans rfl
        have hcz21_3 : wc.cell? ⟨gb311, 3, none⟩ = some (.int .i64 a2_3) := (blk_cell BK311.out 3).trans rfl
        have hcz21_4 : wc.cell? ⟨gb311, 4, none⟩ = some (.int .i64 a2_4) := (blk_cell BK311.out 4).trans rfl
        have hcz21_5 : wc.cell? ⟨gb311, 5, none⟩ = some (.int .u32 a2_5) := (blk_cell BK311.out 5).trans rfl
        have hcz21_6 : wc.cell? ⟨gb311, 6, none⟩ = some (.int .u32 a2_6) := (blk_cell BK311.out 6).trans rfl
        have hcz21_7 : wc.cell? ⟨gb311, 7, none⟩ = some (.int .i64 a2_7) := (blk_cell BK311.out 7).trans rfl
        have hfz21_0 := blk_frozen BK311.out 0
        have hfz21_1 := blk_frozen BK311.out 1
        have hfz21_2 := blk_frozen BK311.out 2
        have hfz21_3 := blk_frozen BK311.out 3
        have hfz21_4 := blk_frozen BK311.out 4
        have hfz21_5 := blk_frozen BK311.out 5
        have hfz21_6 := blk_frozen BK311.out 6
        have hfz21_7 := blk_frozen BK311.out 7
        go_upto_region 6 with (first | ((with_reducible refine gate_dst (N := 33) rfl ?_); refine Kd.R_lit k37 _ 37 ?hg (N := 33) ?hd (xs := ([(⟨a1_0, (⟨a1_1, a1_2, a1_3, a1_4, (⟨a1_5, a1_6⟩ : S33), a1_7⟩ : S35)⟩ : S37), (⟨a2_0, (⟨a2_1, a2_2, a2_3, a2_4, (⟨a2_5, a2_6⟩ : S33), a2_7⟩ : S35)⟩ : S37)] : List (S37))) (inner := [.int .i64 a1_0, .int .i64 a1_1, .int .i64 a1_2, .int .i64 a1_3, .int .i64 a1_4, .int .u32 a1_5, .int .u32 a1_6, .int .i64 a1_7, .int .i64 a2_0, .int .i64 a2_1, .int .i64 a2_2, .int .i64 a2_3, .int .i64 a2_4, .int .u32 a2_5, .int .u32 a2_6, .int .i64 a2_7]) (ok := fun _ => True) (okp := fun _ => True) ?hr ?hp (fun _ hk => hk) trivial (Below.refl _ _) (Nat.le_refl _) (by simp) ?_; (case hd => rfl); (case hg => rfl); (case hr => first | (go_simp; done) | (go_simp; rfl)); (case hp => exact (Reps.c8 (show Kd.M k37 _ _ _ (⟨a1_0, (⟨a1_1, a1_2, a1_3, a1_4, (⟨a1_5, a1_6⟩ : S33), a1_7⟩ : S35)⟩ : S37) [.int .i64 a1_0, .int .i64 a1_1, .int .i64 a1_2, .int .i64 a1_3, .int .i64 a1_4, .int .u32 a1_5, .int .u32 a1_6, .int .i64 a1_7] from (k37_mkM _ _ _ (⟨a1_0, (⟨a1_1, a1_2, a1_3, a1_4, (⟨a1_5, a1_6⟩ : S33), a1_7⟩ : S35)⟩ : S37) )) (Reps.c8 (show Kd.M k37 _ _ _ (⟨a2_0, (⟨a2_1, a2_2, a2_3, a2_4, (⟨a2_5, a2_6⟩ : S33), a2_7⟩ : S35)⟩ : S37) [.int .i64 a2_0, .int .i64 a2_1, .int .i64 a2_2, .int .i64 a2_3, .int .i64 a2_4, .int .u32 a2_5, .int .u32 a2_6, .int .i64 a2_7] from (k37_mkM _ _ _ (⟨a2_0, (⟨a2_1, a2_2, a2_3, a2_4, (⟨a2_5, a2_6⟩ : S33), a2_7⟩ : S35)⟩ : S37) )) (Reps.none _ _)))); intro v315 w22 ho23 hb hg_ hnew_; clear hg_ hnew_; (first | rw [← Ny314.out] at ho23 | (simp only [Int.reduceToNat] at ho23; rw [← Ny314.out] at ho23)); have n0_ := Aside0.mk (Kd.R_lower (Kd.R_newB (Kd.R_newB ho23 (g := gb310) (o := .cells #[.int .i64 a1_0, .int .i64 a1_1, .int .i64 a1_2, .int .i64 a1_3, .int .i64 a1_4, .int .u32 a1_5, .int .u32 a1_6, .int .i64 a1_7] 37 (0, 0)) (by (with_reducible repeat (first | refine blk_drewN ?_ _ | refine blk_drew ?_ | refine blk_alloc ?_ _)); exact BK310.out)) (g := gb311) (o := .cells #[.int .i64 a2_0, .int .i64 a2_1, .int .i64 a2_2, .int .i64 a2_3, .int .i64 a2_4, .int .u32 a2_5, .int .u32 a2_6, .int .i64 a2_7] 37 (0, 0)) (by (with_reducible repeat (first | refine blk_drewN ?_ _ | refine blk_drew ?_ | refine blk_alloc ?_ _)); exact BK311.out)) (below_size (by repeat (first | (with_reducible first | exact HB.out | apply below_alloc | apply pw_below_drewN | apply below_drew1 | refine below_set ?_ GE310.out | refine below_set ?_ GE311.out) | exact HB.out)))); have n1_ := Aside0.mk (blk_below (g := gb310) (o := .cells #[.int .i64 a1_0, .int .i64 a1_1, .int .i64 a1_2, .int .i64 a1_3, .int .i64 a1_4, .int .u32 a1_5, .int .u32 a1_6, .int .i64 a1_7] 37 (0, 0)) (by (with_reducible repeat (first | refine blk_drewN ?_ _ | refine blk_drew ?_ | refine blk_alloc ?_ _)); exact BK310.out) hb); have n2_ := Aside0.mk (blk_below (g := gb311) (o := .cells #[.int .i64 a2_0, .int .i64 a2_1, .int .i64 a2_2, .int .i64 a2_3, .int .i64 a2_4, .int .u32 a2_5, .int .u32 a2_6, .int .i64 a2_7] 37 (0, 0)) (by (with_reducible repeat (first | refine blk_drewN ?_ _ | refine blk_drew ?_ | refine blk_alloc ?_ _)); exact BK311.out) hb); have n3_ := Aside0.mk (below_step (by repeat (first | (with_reducible first | exact HB.out | apply below_alloc | apply pw_below_drewN | apply below_drew1 | refine below_set ?_ GE310.out | refine below_set ?_ GE311.out) | exact HB.out)) hb); clear BK310; clear BK311; clear HB; have HO316 := n0_; have BK310 := n1_; have BK311 := n2_; have HB := n3_; clear n0_ n1_ n2_ n3_; clear hb ho23; obtain ⟨Ao24, co24, eo24⟩ := Kd.R_slice HO316.out; subst eo24) | ((with_reducible refine gate_callee (f := 13) rfl ?_); refine goesL_ (some 34) rfl rfl Try.func13 (by kernel_rfl) rfl #[.slice A0 l0.length c0, .slice Ao24 y314.length co24] rfl (by (try simp only [List.map_toArray, List.map_cons, List.map_nil]); first | done | rfl | (simp only [List.length_drop, List.length_take]; rfl)) ?_; (with_reducible refine (edit_All.calls kj4 _ _ l0 _ _ y314 t317 t318 t319 _ ?side1 ?side2 ?side3 ?side4 A16.out).mono ?_); (case side1 => repeat (first | exact (Kd.C_below HR0.out HB.out) | (with_reducible refine Kd.C_alloc ?_ _) | (with_reducible refine Kd.C_drewN ?_ _) | (with_reducible refine Kd.C_drew ?_))); (case side2 => exact HC0.out); (case side3 => repeat (first | exact (Kd.R_reads' HO316.out).2.2 | (with_reducible refine Kd.C_alloc ?_ _) | (with_reducible refine Kd.C_drewN ?_ _) | (with_reducible refine Kd.C_drew ?_))); (case side4 => exact (Kd.R_reads' HO316.out).2.1); rintro e w25 ⟨v320, rfl, ho0, hb⟩; refine ⟨_, rfl, ?_⟩; have n0_ := Aside0.mk (Kd.R_below (by (with_reducible repeat (first | apply Kd.R_alloc | apply Kd.R_drewN | apply Kd.R_drew)); exact HO316.out) hb); have n1_ := Aside0.mk (Kd.R_lower ho0 (below_size (by repeat (first | (with_reducible first | exact HB.out | apply below_alloc | apply pw_below_drewN | apply below_drew1 | refine below_set ?_ GE310.out | refine below_set ?_ GE311.out) | exact HB.out)))); have n2_ := Aside0.mk (blk_below (g := gb310) (o := .cells #[.int .i64 a1_0, .int .i64 a1_1, .int .i64 a1_2, .int .i64 a1_3, .int .i64 a1_4, .int .u32 a1_5, .int .u32 a1_6, .int .i64 a1_7] 37 (0, 0)) (by (with_reducible repeat (first | refine blk_drewN ?_ _ | refine blk_drew ?_ | refine blk_alloc ?_ _)); exact BK310.out) hb); have n3_ := Aside0.mk (blk_below (g := gb311) (o := .cells #[.int .i64 a2_0, .int .i64 a2_1, .int .i64 a2_2, .int .i64 a2_3, .int .i64 a2_4, .int .u32 a2_5, .int .u32 a2_6, .int .i64 a2_7] 37 (0, 0)) (by (with_reducible repeat (first | refine blk_drewN ?_ _ | refine blk_drew ?_ | refine blk_alloc ?_ _)); exact BK311.out) hb); have n4_ := Aside0.mk (below_step (by repeat (first | (with_reducible first | exact HB.out | apply below_alloc | apply pw_below_drewN | apply below_drew1 | refine below_set ?_ GE310.out | refine below_set ?_ GE311.out) | exact HB.out)) hb); clear HO316; clear BK310; clear BK311; clear HB; have HO316 := n0_; have HO321 := n1_; have BK310 := n2_; have BK311 := n3_; have HB := n4_; clear n0_ n1_ n2_ n3_ n4_; (try clear hb); (try clear hb2); (try clear hk); (try clear hi); (try clear ho0); have hcz26_0 : w25.cell? ⟨gb311, 0, none⟩ = some (.int .i64 a2_0) := (blk_cell BK311.out 0).trans rfl; have hcz26_1 : w25.cell? ⟨gb311, 1, none⟩ = some (.int .i64 a2_1) := (blk_cell BK311.out 1).trans rfl; have hcz26_2 : w25.cell? ⟨gb311, 2, none⟩ = some (.int .i64 a2_2) := (blk_cell BK311.out 2).trans rfl; have hcz26_3 : w25.cell? ⟨gb311, 3, none⟩ = some (.int .i64 a2_3) := (blk_cell BK311.out 3).trans rfl; have hcz26_4 : w25.cell? ⟨gb311, 4, none⟩ = some (.int .i64 a2_4) := (blk_cell BK311.out 4).trans rfl; have hcz26_5 : w25.cell? ⟨gb311, 5, none⟩ = some (.int .u32 a2_5) := (blk_cell BK311.out 5).trans rfl; have hcz26_6 : w25.cell? ⟨gb311, 6, none⟩ = some (.int .u32 a2_6) := (blk_cell BK311.out 6).trans rfl; have hcz26_7 : w25.cell? ⟨gb311, 7, none⟩ = some (.int .i64 a2_7) := (blk_cell BK311.out 7).trans rfl; have hfz26_0 := blk_frozen BK311.out 0; have hfz26_1 := blk_frozen BK311.out 1; have hfz26_2 := blk_frozen BK311.out 2; have hfz26_3 := blk_frozen BK311.out 3; have hfz26_4 := blk_frozen BK311.out 4; have hfz26_5 := blk_frozen BK311.out 5; have hfz26_6 := blk_frozen BK311.out 6; have hfz26_7 := blk_frozen BK311.out 7; have hcz27_0 : w25.cell? ⟨gb310, 0, none⟩ = some (.int .i64 a1_0) := (blk_cell BK310.out 0).trans rfl; have hcz27_1 : w25.cell? ⟨gb310, 1, none⟩ = some (.int .i64 a1_1) := (blk_cell BK310.out 1).trans rfl; have hcz27_2 : w25.cell? ⟨gb310, 2, none⟩ = some (.int .i64 a1_2) := (blk_cell BK310.out 2).trans rfl; have hcz27_3 : w25.cell? ⟨gb310, 3, none⟩ = some (.int .i64 a1_3) := (blk_cell BK310.out 3).trans rfl; have hcz27_4 : w25.cell? ⟨gb310, 4, none⟩ = some (.int .i64 a1_4) := (blk_cell BK310.out 4).trans rfl; have hcz27_5 : w25.cell? ⟨gb310, 5, none⟩ = some (.int .u32 a1_5) := (blk_cell BK310.out 5).trans rfl; have hcz27_6 : w25.cell? ⟨gb310, 6, none⟩ = some (.int .u32 a1_6) := (blk_cell BK310.out 6).trans rfl; have hcz27_7 : w25.cell? ⟨gb310, 7, none⟩ = some (.int .i64 a1_7) := (blk_cell BK310.out 7).trans rfl; have hfz27_0 := blk_frozen BK310.out 0; have hfz27_1 := blk_frozen BK310.out 1; have hfz27_2 := blk_frozen BK310.out 2; have hfz27_3 := blk_frozen BK310.out 3; have hfz27_4 := blk_frozen BK310.out 4; have hfz27_5 := blk_frozen BK310.out 5; have hfz27_6 := blk_frozen BK310.out 6; have hfz27_7 := blk_frozen BK310.out 7) | ((with_reducible refine gate_dst (N := 42) rfl ?_); refine Kd.R_lit k37 _ 37 ?hg (N := 42) ?hd (xs := ([(⟨a2_0, (⟨a2_1, a2_2, a2_3, a2_4, (⟨a2_5, a2_6⟩ : S33), a2_7⟩ : S35)⟩ : S37), (⟨a1_0, (⟨a1_1, a1_2, a1_3, a1_4, (⟨a1_5, a1_6⟩ : S33), a1_7⟩ : S35)⟩ : S37)] : List (S37))) (inner := [.int .i64 a2_0, .int .i64 a2_1, .int .i64 a2_2, .int .i64 a2_3, .int .i64 a2_4, .int .u32 a2_5, .int .u32 a2_6, .int .i64 a2_7, .int .i64 a1_0, .int .i64 a1_1, .int .i64 a1_2, .int .i64 a1_3, .int .i64 a1_4, .int .u32 a1_5, .int .u32 a1_6, .int .i64 a1_7]) (ok := fun _ => True) (okp := fun _ => True) ?hr ?hp (fun _ hk => hk) trivial (Below.refl _ _) (Nat.le_refl _) (by simp) ?_; (case hd => rfl); (case hg => rfl); (case hr => first | (go_simp; done) | (go_simp; rfl)); (case hp => exact (Reps.c8 (show Kd.M k37 _ _ _ (⟨a2_0, (⟨a2_1, a2_2, a2_3, a2_4, (⟨a2_5, a2_6⟩ : S33), a2_7⟩ : S35)⟩ : S37) [.int .i64 a2_0, .int .i64 a2_1, .int .i64 a2_2, .int .i64 a2_3, .int .i64 a2_4, .int .u32 a2_5, .int .u32 a2_6, .int .i64 a2_7] from (k37_mkM _ _ _ (⟨a2_0, (⟨a2_1, a2_2, a2_3, a2_4, (⟨a2_5, a2_6⟩ : S33), a2_7⟩ : S35)⟩ : S37) )) (Reps.c8 (show Kd.M k37 _ _ _ (⟨a1_0, (⟨a1_1, a1_2, a1_3, a1_4, (⟨a1_5, a1_6⟩ : S33), a1_7⟩ : S35)⟩ : S37) [.int .i64 a1_0, .int .i64 a1_1, .int .i64 a1_2, .int .i64 a1_3, .int .i64 a1_4, .int .u32 a1_5, .int .u32 a1_6, .int .i64 a1_7] from (k37_mkM _ _ _ (⟨a1_0, (⟨a1_1, a1_2, a1_3, a1_4, (⟨a1_5, a1_6⟩ : S33), a1_7⟩ : S35)⟩ : S37) )) (Reps.none _ _)))); intro v323 w28 ho29 hb hg_ hnew_; clear hg_ hnew_; (first | rw [← Ny322.out] at ho29 | (simp only [Int.reduceToNat] at ho29; rw [← Ny322.out] at ho29)); have n0_ := Aside0.mk (Kd.R_elder' (by (with_reducible repeat (first | apply Kd.R_alloc | apply Kd.R_drewN | apply Kd.R_drew)); exact HO316.out) (Kd.R_base ho29) hb); have n1_ := Aside0.mk (Kd.R_below (by (with_reducible repeat (first | apply Kd.R_alloc | apply Kd.R_drewN | apply Kd.R_drew)); exact HO321.out) hb); have n2_ := Aside0.mk (Kd.R_lower (Kd.R_newB (Kd.R_newB (Kd.R_new' ho29 (Kd.R_lt (by (with_reducible repeat (first | apply Kd.R_alloc | apply Kd.R_drewN | apply Kd.R_drew)); exact HO316.out))) (g := gb310) (o := .cells #[.int .i64 a1_0, .int .i64 a1_1, .int .i64 a1_2, .int .i64 a1_3, .int .i64 a1_4, .int .u32 a1_5, .int .u32 a1_6, .int .i64 a1_7] 37 (0, 0)) (by (with_reducible repeat (first | refine blk_drewN ?_ _ | refine blk_drew ?_ | refine blk_alloc ?_ _)); exact BK310.out)) (g := gb311) (o := .cells #[.int .i64 a2_0, .int .i64 a2_1, .int .i64 a2_2, .int .i64 a2_3, .int .i64 a2_4, .int .u32 a2_5, .int .u32 a2_6, .int .i64 a2_7] 37 (0, 0)) (by (with_reducible repeat (first | refine blk_drewN ?_ _ | refine blk_drew ?_ | refine blk_alloc ?_ _)); exact BK311.out)) (below_size (by repeat (first | (with_reducible first | exact HB.out | apply below_alloc | apply pw_below_drewN | apply below_drew1 | refine below_set ?_ GE310.out | refine below_set ?_ GE311.out) | exact HB.out)))); have n3_ := Aside0.mk (blk_below (g := gb310) (o := .cells #[.int .i64 a1_0, .int .i64 a1_1, .int .i64 a1_2, .int .i64 a1_3, .int .i64 a1_4, .int .u32 a1_5, .int .u32 a1_6, .int .i64 a1_7] 37 (0, 0)) (by (with_reducible repeat (first | refine blk_drewN ?_ _ | refine blk_drew ?_ | refine blk_alloc ?_ _)); exact BK310.out) hb); have n4_ := Aside0.mk (blk_below (g := gb311) (o := .cells #[.int .i64 a2_0, .int .i64 a2_1, .int .i64 a2_2, .int .i64 a2_3, .int .i64 a2_4, .int .u32 a2_5, .int .u32 a2_6, .int .i64 a2_7] 37 (0, 0)) (by (with_reducible repeat (first | refine blk_drewN ?_ _ | refine blk_drew ?_ | refine blk_alloc ?_ _)); exact BK311.out) hb); have n5_ := Aside0.mk (below_step (by repeat (first | (with_reducible first | exact HB.out | apply below_alloc | apply pw_below_drewN | apply below_drew1 | refine below_set ?_ GE310.out | refine below_set ?_ GE311.out) | exact HB.out)) hb); clear HO316; clear HO321; clear BK310; clear BK311; clear HB; have HO316 := n0_; have HO321 := n1_; have HO324 := n2_; have BK310 := n3_; have BK311 := n4_; have HB := n5_; clear n0_ n1_ n2_ n3_ n4_ n5_; clear hb ho29; obtain ⟨Ao30, co30, eo30⟩ := Kd.R_slice HO324.out; subst eo30) | ((with_reducible refine gate_callee (f := 13) rfl ?_); refine goesL_ (some 43) rfl rfl Try.func13 (by kernel_rfl) rfl #[.slice A0 l0.length c0, .slice Ao30 y322.length co30] rfl (by (try simp only [List.map_toArray, List.map_cons, List.map_nil]); first | done | rfl | (simp only [List.length_drop, List.length_take]; rfl)) ?_; (with_reducible refine (edit_All.calls kj4 _ _ l0 _ _ y322 t325 t326 t327 _ ?side1 ?side2 ?side3 ?side4 A17.out).mono ?_); (case side1 => repeat (first | exact (Kd.C_below HR0.out HB.out) | (with_reducible refine Kd.C_alloc ?_ _) | (with_reducible refine Kd.C_drewN ?_ _) | (with_reducible refine Kd.C_drew ?_))); (case side2 => exact HC0.out); (case side3 => repeat (first | exact (Kd.R_reads' HO324.out).2.2 | (with_reducible refine Kd.C_alloc ?_ _) | (with_reducible refine Kd.C_drewN ?_ _) | (with_reducible refine Kd.C_drew ?_))); (case side4 => exact (Kd.R_reads' HO324.out).2.1); rintro e w31 ⟨v328, rfl, ho0, hb⟩; refine ⟨_, rfl, ?_⟩; have n0_ := Aside0.mk (Kd.R_below (by (with_reducible repeat (first | apply Kd.R_alloc | apply Kd.R_drewN | apply Kd.R_drew)); exact HO316.out) hb); have n1_ := Aside0.mk (Kd.R_elder' (by (with_reducible repeat (first | apply Kd.R_alloc | apply Kd.R_drewN | apply Kd.R_drew)); exact HO321.out) (Kd.R_base ho0) hb); have n2_ := Aside0.mk (Kd.R_below (by (with_reducible repeat (first | apply Kd.R_alloc | apply Kd.R_drewN | apply Kd.R_drew)); exact HO324.out) hb); have n3_ := Aside0.mk (Kd.R_lower (Kd.R_new' ho0 (Kd.R_lt (by (with_reducible repeat (first | apply Kd.R_alloc | apply Kd.R_drewN | apply Kd.R_drew)); exact HO321.out))) (below_size (by repeat (first | (with_reducible first | exact HB.out | apply below_alloc | apply pw_below_drewN | apply below_drew1 | refine below_set ?_ GE310.out | refine below_set ?_ GE311.out) | exact HB.out)))); have n4_ := Aside0.mk (blk_below (g := gb310) (o := .cells #[.int .i64 a1_0, .int .i64 a1_1, .int .i64 a1_2, .int .i64 a1_3, .int .i64 a1_4, .int .u32 a1_5, .int .u32 a1_6, .int .i64 a1_7] 37 (0, 0)) (by (with_reducible repeat (first | refine blk_drewN ?_ _ | refine blk_drew ?_ | refine blk_alloc ?_ _)); exact BK310.out) hb); have n5_ := Aside0.mk (blk_below (g := gb311) (o := .cells #[.int .i64 a2_0, .int .i64 a2_1, .int .i64 a2_2, .int .i64 a2_3, .int .i64 a2_4, .int .u32 a2_5, .int .u32 a2_6, .int .i64 a2_7] 37 (0, 0)) (by (with_reducible repeat (first | refine blk_drewN ?_ _ | refine blk_drew ?_ | refine blk_alloc ?_ _)); exact BK311.out) hb); have n6_ := Aside0.mk (below_step (by repeat (first | (with_reducible first | exact HB.out | apply below_alloc | apply pw_below_drewN | apply below_drew1 | refine below_set ?_ GE310.out | refine below_set ?_ GE311.out) | exact HB.out)) hb); clear HO316; clear HO321; clear HO324; clear BK310; clear BK311; clear HB; have HO316 := n0_; have HO321 := n1_; have HO324 := n2_; have HO329 := n3_; have BK310 := n4_; have BK311 := n5_; have HB := n6_; clear n0_ n1_ n2_ n3_ n4_ n5_ n6_; (try clear hb); (try clear hb2); (try clear hk); (try clear hi); (try clear ho0)))
        (try simp only [Act.put, List.setIfInBounds_toArray, List.set_cons_zero, List.set_cons_succ])
        go_cut [52] (fun v52 wc => ∃ (kq : Nat) (x52_17 : Bool), v52 = .bool x52_17 ∧ Aside0 (waystonelaw14_EditApart.j1 kq t317 t318 t325 t326 x52_17 = some r) ∧ Aside0 (kq ≤ kj4) ∧ Aside0 (Kd.R k35 35 wc w.heap.size (fun k_ => some k_ ≠ (v328 : Value).ownBlock) v320 t317) ∧ Aside0 (Kd.R k35 35 wc w.heap.size (fun k_ => some k_ ≠ (v320 : Value).ownBlock) v328 t325) ∧ Aside0 (wc.heap[gb310]? = some (.cells #[.int .i64 a1_0, .int .i64 a1_1, .int .i64 a1_2, .int .i64 a1_3, .int .i64 a1_4, .int .u32 a1_5, .int .u32 a1_6, .int .i64 a1_7] 37 (0, 0))) ∧ Aside0 (wc.heap[gb311]? = some (.cells #[.int .i64 a2_0, .int .i64 a2_1, .int .i64 a2_2, .int .i64 a2_3, .int .i64 a2_4, .int .u32 a2_5, .int .u32 a2_6, .int .i64 a2_7] 37 (0, 0))) ∧ Aside0 (Below w.heap.size w wc))
        case first =>
          have H := HC18.out
          clear HC18
          by_cases c32 : t319 = 0
          · rw [if_pos c32] at H
            have c32b0 : (t319 == 0) = true := beq_iff_eq.mpr c32
            have c32b1 : (t319 != 0) = false := bne_eq_false_iff_eq.mpr c32
            clear c32
            (first | rw [c32b0] | (simp only [i64_w, i32_w]; rw [c32b0]) | skip)
            have H' := Aside0.mk H
            clear H
            go_wp2
            go_meet
            case rel => exact ⟨_, ((t327 != 0)), (by first | rfl | (simp; done) | (simp [*]; done)), H', ⟨by have := HJ4.out; first | omega | exact Nat.le_refl _⟩, ⟨by (with_reducible repeat (first | apply Kd.R_alloc | apply Kd.R_drewN | apply Kd.R_drew)); exact Kd.R_mono HO321.out (fun _ hk => hk.2)⟩, ⟨by (with_reducible repeat (first | apply Kd.R_alloc | apply Kd.R_drewN | apply Kd.R_drew)); exact Kd.R_mono HO329.out (fun _ hk => hk.2)⟩, ⟨by (with_reducible repeat (first | refine blk_drewN ?_ _ | refine blk_drew ?_ | refine blk_alloc ?_ _)); exact BK310.out⟩, ⟨by (with_reducible repeat (first | refine blk_drewN ?_ _ | refine blk_drew ?_ | refine blk_alloc ?_ _)); exact BK311.out⟩, ⟨by repeat (first | (with_reducible first | exact HB.out | apply below_alloc | apply pw_below_drewN | apply below_drew1 | refine below_set ?_ GE310.out | refine below_set ?_ GE311.out) | exact HB.out)⟩⟩
          · rw [if_neg c32] at H
            have c32b0 : (t319 == 0) = false := beq_eq_false_iff_ne.mpr c32
            have c32b1 : (t319 != 0) = true := bne_iff_ne.mpr c32
            (first | rw [c32b0] | (simp only [i64_w, i32_w]; rw [c32b0]) | skip)
            have H' := Aside0.mk H
            clear H
            go_wp2
            go_meet
            case rel => exact ⟨_, (true), (by first | rfl | (simp; done) | (simp [*]; done)), H', ⟨by have := HJ4.out; first | omega | exact Nat.le_refl _⟩, ⟨by (with_reducible repeat (first | apply Kd.R_alloc | apply Kd.R_drewN | apply Kd.R_drew)); exact Kd.R_mono HO321.out (fun _ hk => hk.2)⟩, ⟨by (with_reducible repeat (first | apply Kd.R_alloc | apply Kd.R_drewN | apply Kd.R_drew)); exact Kd.R_mono HO329.out (fun _ hk => hk.2)⟩, ⟨by (with_reducible repeat (first | refine blk_drewN ?_ _ | refine blk_drew ?_ | refine blk_alloc ?_ _)); exact BK310.out⟩, ⟨by (with_reducible repeat (first | refine blk_drewN ?_ _ | refine blk_drew ?_ | refine blk_alloc ?_ _)); exact BK311.out⟩, ⟨by repeat (first | (with_reducible first | exact HB.out | apply below_alloc | apply pw_below_drewN | apply below_drew1 | refine below_set ?_ GE310.out | refine below_set ?_ GE311.out) | exact HB.out)⟩⟩
        case rest =>
          clear HC18
          try clear c1
          try clear p2
          try clear c3
          try clear c4
          try clear c8
          try clear c9
          try clear c10
          try clear c13
          try clear c19
          try clear c32
          try clear c32b0
          try clear c32b1
          try clear hcz11_0
          try clear hcz11_1
          try clear hcz11_2
          try clear hcz11_3
          try clear hcz11_4
          try clear hcz11_5
          try clear hcz11_6
          try clear hcz11_7
          try clear hcz12_0
          try clear hcz12_1
          try clear hcz12_2
          try clear hcz12_3
          try clear hcz12_4
          try clear hcz12_5
          try clear hcz12_6
          try clear hcz12_7
          try clear hcz20_0
          try clear hcz20_1
          try clear hcz20_2
          try clear hcz20_3
          try clear hcz20_4
          try clear hcz20_5
          try clear hcz20_6
          try clear hcz20_7
          try clear hcz21_0
          try clear hcz21_1
          try clear hcz21_2
          try clear hcz21_3
          try clear hcz21_4
          try clear hcz21_5
          try clear hcz21_6
          try clear hcz21_7
          try clear hcz26_0
          try clear hcz26_1
          try clear hcz26_2
          try clear hcz26_3
          try clear hcz26_4
          try clear hcz26_5
          try clear hcz26_6
          try clear hcz26_7
          try clear hcz27_0
          try clear hcz27_1
          try clear hcz27_2
          try clear hcz27_3
          try clear hcz27_4
          try clear hcz27_5
          try clear hcz27_6
          try clear hcz27_7
          try clear hfz11_0
          try clear hfz11_1
          try clear hfz11_2
          try clear hfz11_3
          try clear hfz11_4
          try clear hfz11_5
          try clear hfz11_6
          try clear hfz11_7
          try clear hfz12_0
          try clear hfz12_1
          try clear hfz12_2
          try clear hfz12_3
          try clear hfz12_4
          try clear hfz12_5
          try clear hfz12_6
          try clear hfz12_7
          try clear hfz20_0
          try clear hfz20_1
          try clear hfz20_2
          try clear hfz20_3
          try clear hfz20_4
          try clear hfz20_5
          try clear hfz20_6
          try clear hfz20_7
          try clear hfz21_0
          try clear hfz21_1
          try clear hfz21_2
          try clear hfz21_3
          try clear hfz21_4
          try clear hfz21_5
          try clear hfz21_6
          try clear hfz21_7
          try clear hfz26_0
          try clear hfz26_1
          try clear hfz26_2
          try clear hfz26_3
          try clear hfz26_4
          try clear hfz26_5
          try clear hfz26_6
          try clear hfz26_7
          try clear hfz27_0
          try clear hfz27_1
          try clear hfz27_2
          try clear hfz27_3
          try clear hfz27_4
          try clear hfz27_5
          try clear hfz27_6
          try clear hfz27_7
          try clear p2
          obtain ⟨kq, x52_17, rfl, HA, HJ17, HO_8, HO_11, BK310, BK311, HB⟩ := hcut
          cases kq with
          | zero => exact absurd HA.out (by simp [waystonelaw14_EditApart.j1])
          | succ kj17 =>
            have H := HA.out
            clear HA
            simp only [waystonelaw14_EditApart.j1] at H
            by_cases c33 : x52_17 = true
            · subst c33
              have H1 : ((waystonelaw14_alive.f kj17).bind fun t330 => (some t330)) = some r := by rw [if_pos rfl] at H; exact H
              clear H
              have H := H1
              clear H1
              replace H := Option.bind_eq_some_iff.mp H
              obtain ⟨t330, A340, H⟩ := H
              replace H : (some t330) = some r := H
              have A34 := Aside0.mk A340
              clear A340
              obtain rfl := Option.some.inj H
              go_wp2_with (first | ((with_reducible refine gate_callee (f := 9) rfl ?_); refine goesL_ (some 53) rfl rfl Try.func9 (by kernel_rfl) rfl #[] rfl (by (try simp only [List.map_toArray, List.map_cons, List.map_nil]); first | done | rfl | (simp only [List.length_drop, List.length_take]; rfl)) ?_; (with_reducible refine (waystonelaw14_alive.calls kj17  t330 _ A34.out).mono ?_); rintro e w35 ⟨rfl, hb⟩; refine ⟨_, rfl, ?_⟩; have n0_ := Aside0.mk (Kd.R_below (by (with_reducible repeat (first | apply Kd.R_alloc | apply Kd.R_drewN | apply Kd.R_drew)); exact HO_8.out) hb); have n1_ := Aside0.mk (Kd.R_below (by (with_reducible repeat (first | apply Kd.R_alloc | apply Kd.R_drewN | apply Kd.R_drew)); exact HO_11.out) hb); have n2_ := Aside0.mk (blk_below (g := gb310) (o := .cells #[.int .i64 a1_0, .int .i64 a1_1, .int .i64 a1_2, .int .i64 a1_3, .int .i64 a1_4, .int .u32 a1_5, .int .u32 a1_6, .int .i64 a1_7] 37 (0, 0)) (by (with_reducible repeat (first | refine blk_drewN ?_ _ | refine blk_drew ?_ | refine blk_alloc ?_ _)); exact BK310.out) hb); have n3_ := Aside0.mk (blk_below (g := gb311) (o := .cells #[.int .i64 a2_0, .int .i64 a2_1, .int .i64 a2_2, .int .i64 a2_3, .int .i64 a2_4, .int .u32 a2_5, .int .u32 a2_6, .int .i64 a2_7] 37 (0, 0)) (by (with_reducible repeat (first | refine blk_drewN ?_ _ | refine blk_drew ?_ | refine blk_alloc ?_ _)); exact BK311.out) hb); have n4_ := Aside0.mk (below_step (by repeat (first | (with_reducible first | exact HB.out | apply below_alloc | apply pw_below_drewN | apply below_drew1 | refine below_set ?_ GE310.out | refine below_set ?_ GE311.out) | exact HB.out)) hb); clear HO_8; clear HO_11; clear BK310; clear BK311; clear HB; have HO_8 := n0_; have HO_11 := n1_; have BK310 := n2_; have BK311 := n3_; have HB := n4_; clear n0_ n1_ n2_ n3_ n4_; (try clear hb); (try clear hb2); (try clear hk); (try clear hi)))
              go_ret
              exact ⟨by first | rfl | (simp [errW_none, errW_some] <;> rfl) | (simp [*, errW_none, errW_some] <;> rfl), by repeat (first | (with_reducible first | exact HB.out | apply below_alloc | apply pw_below_drewN | apply below_drew1 | refine below_set ?_ GE310.out | refine below_set ?_ GE311.out) | exact HB.out)⟩
            · replace c33 := Bool.eq_false_iff.mpr c33
              subst c33
              have H1 : ((waystoneref07_Same.f kj17 t317 t325).bind fun t331 => ((waystonelaw14_alive.f kj17).bind fun t332 => (if t332 = true then (if t331 = true then (if t318 = 2 then (some (t326 == 2)) else (some false)) else (some false)) else (some false)))) = some r := by rw [if_neg (show ¬ (false = true) by decide)] at H; exact H
              clear H
              have H := H1
              clear H1
              replace H := Option.bind_eq_some_iff.mp H
              obtain ⟨t331, A360, H⟩ := H
              replace H : ((waystonelaw14_alive.f kj17).bind fun t332 => (if t332 = true then (if t331 = true then (if t318 = 2 then (some (t326 == 2)) else (some false)) else (some false)) else (some false))) = some r := H
              have A36 := Aside0.mk A360
              clear A360
              replace H := Option.bind_eq_some_iff.mp H
              obtain ⟨t332, A370, H⟩ := H
              replace H : (if t332 = true then (if t331 = true then (if t318 = 2 then (some (t326 == 2)) else (some false)) else (some false)) else (some false)) = some r := H
              have A37 := Aside0.mk A370
              clear A370
              by_cases c38 : t332 = true
              · subst c38
                have H1 : (if t331 = true then (if t318 = 2 then (some (t326 == 2)) else (some false)) else (some false)) = some r := by rw [if_pos rfl] at H; exact H
                clear H
                have H := H1
                clear H1
                by_cases c39 : t331 = true
                · subst c39
                  have H1 : (if t318 = 2 then (some (t326 == 2)) else (some false)) = some r := by rw [if_pos rfl] at H; exact H
                  clear H
                  have H := H1
                  clear H1
                  by_cases c40 : t318 = 2
                  · rw [if_pos c40] at H
                    have c40b0 : (t318 == 2) = true := beq_iff_eq.mpr c40
                    have c40b1 : (t318 != 2) = false := bne_eq_false_iff_eq.mpr c40
                    clear c40
                    obtain rfl := Option.some.inj H
                    obtain ⟨Ao41, co41, eo41⟩ := Kd.R_slice HO_8.out
                    subst eo41
                    obtain ⟨Ao42, co42, eo42⟩ := Kd.R_slice HO_11.out
                    subst eo42
                    go_wp2_with (first | ((with_reducible refine gate_callee (f := 14) rfl ?_); refine goesL_ (some 56) rfl rfl Try.func14 (by kernel_rfl) rfl #[.slice Ao41 t317.length co41, .slice Ao42 t325.length co42] rfl (by (try simp only [List.map_toArray, List.map_cons, List.map_nil]); first | done | rfl | (simp only [List.length_drop, List.length_take]; rfl)) ?_; (with_reducible refine (waystoneref07_Same.calls kj17 _ _ t317 _ _ t325 true _ ?side1 ?side2 ?side3 ?side4 A36.out).mono ?_); (case side1 => repeat (first | exact (Kd.R_reads' HO_8.out).2.2 | (with_reducible refine Kd.C_alloc ?_ _) | (with_reducible refine Kd.C_drewN ?_ _) | (with_reducible refine Kd.C_drew ?_))); (case side2 => exact (Kd.R_reads' HO_8.out).2.1); (case side3 => repeat (first | exact (Kd.R_reads' HO_11.out).2.2 | (with_reducible refine Kd.C_alloc ?_ _) | (with_reducible refine Kd.C_drewN ?_ _) | (with_reducible refine Kd.C_drew ?_))); (case side4 => exact (Kd.R_reads' HO_11.out).2.1); rintro e w' ⟨rfl, ⟨nd, rfl⟩⟩; refine ⟨_, rfl, ?_⟩) | ((with_reducible refine gate_callee (f := 9) rfl ?_); refine goesL_ (some 57) rfl rfl Try.func9 (by kernel_rfl) rfl #[] rfl (by (try simp only [List.map_toArray, List.map_cons, List.map_nil]); first | done | rfl | (simp only [List.length_drop, List.length_take]; rfl)) ?_; (with_reducible refine (waystonelaw14_alive.calls kj17  true _ A37.out).mono ?_); rintro e w43 ⟨rfl, hb⟩; refine ⟨_, rfl, ?_⟩; have n0_ := Aside0.mk (Kd.R_below (by (with_reducible repeat (first | apply Kd.R_alloc | apply Kd.R_drewN | apply Kd.R_drew)); exact HO_8.out) hb); have n1_ := Aside0.mk (Kd.R_below (by (with_reducible repeat (first | apply Kd.R_alloc | apply Kd.R_drewN | apply Kd.R_drew)); exact HO_11.out) hb); have n2_ := Aside0.mk (blk_below (g := gb310) (o := .cells #[.int .i64 a1_0, .int .i64 a1_1, .int .i64 a1_2, .int .i64 a1_3, .int .i64 a1_4, .int .u32 a1_5, .int .u32 a1_6, .int .i64 a1_7] 37 (0, 0)) (by (with_reducible repeat (first | refine blk_drewN ?_ _ | refine blk_drew ?_ | refine blk_alloc ?_ _)); exact BK310.out) hb); have n3_ := Aside0.mk (blk_below (g := gb311) (o := .cells #[.int .i64 a2_0, .int .i64 a2_1, .int .i64 a2_2, .int .i64 a2_3, .int .i64 a2_4, .int .u32 a2_5, .int .u32 a2_6, .int .i64 a2_7] 37 (0, 0)) (by (with_reducible repeat (first | refine blk_drewN ?_ _ | refine blk_drew ?_ | refine blk_alloc ?_ _)); exact BK311.out) hb); have n4_ := Aside0.mk (below_step (by repeat (first | (with_reducible first | exact HB.out | apply below_alloc | apply pw_below_drewN | apply below_drew1 | refine below_set ?_ GE310.out | refine below_set ?_ GE311.out) | exact HB.out)) hb); clear HO_8; clear HO_11; clear BK310; clear BK311; clear HB; have HO_8 := n0_; have HO_11 := n1_; have BK310 := n2_; have BK311 := n3_; have HB := n4_; clear n0_ n1_ n2_ n3_ n4_; (try clear hb); (try clear hb2); (try clear hk); (try clear hi)))
                    go_ret
                    exact ⟨by first | rfl | (simp [errW_none, errW_some] <;> rfl) | (simp [*, errW_none, errW_some] <;> rfl), by repeat (first | (with_reducible first | exact HB.out | apply below_alloc | apply pw_below_drewN | apply below_drew1 | refine below_set ?_ GE310.out | refine below_set ?_ GE311.out) | exact HB.out)⟩
                  · rw [if_neg c40] at H
                    have c40b0 : (t318 == 2) = false := beq_eq_false_iff_ne.mpr c40
                    have c40b1 : (t318 != 2) = true := bne_iff_ne.mpr c40
                    obtain rfl := Option.some.inj H
                    obtain ⟨Ao44, co44, eo44⟩ := Kd.R_slice HO_8.out
                    subst eo44
                    obtain ⟨Ao45, co45, eo45⟩ := Kd.R_slice HO_11.out
                    subst eo45
                    go_wp2_with (first | ((with_reducible refine gate_callee (f := 14) rfl ?_); refine goesL_ (some 56) rfl rfl Try.func14 (by kernel_rfl) rfl #[.slice Ao44 t317.length co44, .slice Ao45 t325.length co45] rfl (by (try simp only [List.map_toArray, List.map_cons, List.map_nil]); first | done | rfl | (simp only [List.length_drop, List.length_take]; rfl)) ?_; (with_reducible refine (waystoneref07_Same.calls kj17 _ _ t317 _ _ t325 true _ ?side1 ?side2 ?side3 ?side4 A36.out).mono ?_); (case side1 => repeat (first | exact (Kd.R_reads' HO_8.out).2.2 | (with_reducible refine Kd.C_alloc ?_ _) | (with_reducible refine Kd.C_drewN ?_ _) | (with_reducible refine Kd.C_drew ?_))); (case side2 => exact (Kd.R_reads' HO_8.out).2.1); (case side3 => repeat (first | exact (Kd.R_reads' HO_11.out).2.2 | (with_reducible refine Kd.C_alloc ?_ _) | (with_reducible refine Kd.C_drewN ?_ _) | (with_reducible refine Kd.C_drew ?_))); (case side4 => exact (Kd.R_reads' HO_11.out).2.1); rintro e w' ⟨rfl, ⟨nd, rfl⟩⟩; refine ⟨_, rfl, ?_⟩) | ((with_reducible refine gate_callee (f := 9) rfl ?_); refine goesL_ (some 57) rfl rfl Try.func9 (by kernel_rfl) rfl #[] rfl (by (try simp only [List.map_toArray, List.map_cons, List.map_nil]); first | done | rfl | (simp only [List.length_drop, List.length_take]; rfl)) ?_; (with_reducible refine (waystonelaw14_alive.calls kj17  true _ A37.out).mono ?_); rintro e w46 ⟨rfl, hb⟩; refine ⟨_, rfl, ?_⟩; have n0_ := Aside0.mk (Kd.R_below (by (with_reducible repeat (first | apply Kd.R_alloc | apply Kd.R_drewN | apply Kd.R_drew)); exact HO_8.out) hb); have n1_ := Aside0.mk (Kd.R_below (by (with_reducible repeat (first | apply Kd.R_alloc | apply Kd.R_drewN | apply Kd.R_drew)); exact HO_11.out) hb); have n2_ := Aside0.mk (blk_below (g := gb310) (o := .cells #[.int .i64 a1_0, .int .i64 a1_1, .int .i64 a1_2, .int .i64 a1_3, .int .i64 a1_4, .int .u32 a1_5, .int .u32 a1_6, .int .i64 a1_7] 37 (0, 0)) (by (with_reducible repeat (first | refine blk_drewN ?_ _ | refine blk_drew ?_ | refine blk_alloc ?_ _)); exact BK310.out) hb); have n3_ := Aside0.mk (blk_below (g := gb311) (o := .cells #[.int .i64 a2_0, .int .i64 a2_1, .int .i64 a2_2, .int .i64 a2_3, .int .i64 a2_4, .int .u32 a2_5, .int .u32 a2_6, .int .i64 a2_7] 37 (0, 0)) (by (with_reducible repeat (first | refine blk_drewN ?_ _ | refine blk_drew ?_ | refine blk_alloc ?_ _)); exact BK311.out) hb); have n4_ := Aside0.mk (below_step (by repeat (first | (with_reducible first | exact HB.out | apply below_alloc | apply pw_below_drewN | apply below_drew1 | refine below_set ?_ GE310.out | refine below_set ?_ GE311.out) | exact HB.out)) hb); clear HO_8; clear HO_11; clear BK310; clear BK311; clear HB; have HO_8 := n0_; have HO_11 := n1_; have BK310 := n2_; have BK311 := n3_; have HB := n4_; clear n0_ n1_ n2_ n3_ n4_; (try clear hb); (try clear hb2); (try clear hk); (try clear hi)))
                    go_ret
                    exact ⟨by first | rfl | (simp [errW_none, errW_some] <;> rfl) | (simp [*, errW_none, errW_some] <;> rfl), by repeat (first | (with_reducible first | exact HB.out | apply below_alloc | apply pw_below_drewN | apply below_drew1 | refine below_set ?_ GE310.out | refine below_set ?_ GE311.out) | exact HB.out)⟩
                · replace c39 := Bool.eq_false_iff.mpr c39
                  subst c39
                  have H1 : (some false) = some r := by rw [if_neg (show ¬ (false = true) by decide)] at H; exact H
                  clear H
                  have H := H1
                  clear H1
                  obtain rfl := Option.some.inj H
                  obtain ⟨Ao47, co47, eo47⟩ := Kd.R_slice HO_8.out
                  subst eo47
                  obtain ⟨Ao48, co48, eo48⟩ := Kd.R_slice HO_11.out
                  subst eo48
                  go_wp2_with (first | ((with_reducible refine gate_callee (f := 14) rfl ?_); refine goesL_ (some 56) rfl rfl Try.func14 (by kernel_rfl) rfl #[.slice Ao47 t317.length co47, .slice Ao48 t325.length co48] rfl (by (try simp only [List.map_toArray, List.map_cons, List.map_nil]); first | done | rfl | (simp only [List.length_drop, List.length_take]; rfl)) ?_; (with_reducible refine (waystoneref07_Same.calls kj17 _ _ t317 _ _ t325 false _ ?side1 ?side2 ?side3 ?side4 A36.out).mono ?_); (case side1 => repeat (first | exact (Kd.R_reads' HO_8.out).2.2 | (with_reducible refine Kd.C_alloc ?_ _) | (with_reducible refine Kd.C_drewN ?_ _) | (with_reducible refine Kd.C_drew ?_))); (case side2 => exact (Kd.R_reads' HO_8.out).2.1); (case side3 => repeat (first | exact (Kd.R_reads' HO_11.out).2.2 | (with_reducible refine Kd.C_alloc ?_ _) | (with_reducible refine Kd.C_drewN ?_ _) | (with_reducible refine Kd.C_drew ?_))); (case side4 => exact (Kd.R_reads' HO_11.out).2.1); rintro e w' ⟨rfl, ⟨nd, rfl⟩⟩; refine ⟨_, rfl, ?_⟩) | ((with_reducible refine gate_callee (f := 9) rfl ?_); refine goesL_ (some 57) rfl rfl Try.func9 (by kernel_rfl) rfl #[] rfl (by (try simp only [List.map_toArray, List.map_cons, List.map_nil]); first | done | rfl | (simp only [List.length_drop, List.length_take]; rfl)) ?_; (with_reducible refine (waystonelaw14_alive.calls kj17  true _ A37.out).mono ?_); rintro e w49 ⟨rfl, hb⟩; refine ⟨_, rfl, ?_⟩; have n0_ := Aside0.mk (Kd.R_below (by (with_reducible repeat (first | apply Kd.R_alloc | apply Kd.R_drewN | apply Kd.R_drew)); exact HO_8.out) hb); have n1_ := Aside0.mk (Kd.R_below (by (with_reducible repeat (first | apply Kd.R_alloc | apply Kd.R_drewN | apply Kd.R_drew)); exact HO_11.out) hb); have n2_ := Aside0.mk (blk_below (g := gb310) (o := .cells #[.int .i64 a1_0, .int .i64 a1_1, .int .i64 a1_2, .int .i64 a1_3, .int .i64 a1_4, .int .u32 a1_5, .int .u32 a1_6, .int .i64 a1_7] 37 (0, 0)) (by (with_reducible repeat (first | refine blk_drewN ?_ _ | refine blk_drew ?_ | refine blk_alloc ?_ _)); exact BK310.out) hb); have n3_ := Aside0.mk (blk_below (g := gb311) (o := .cells #[.int .i64 a2_0, .int .i64 a2_1, .int .i64 a2_2, .int .i64 a2_3, .int .i64 a2_4, .int .u32 a2_5, .int .u32 a2_6, .int .i64 a2_7] 37 (0, 0)) (by (with_reducible repeat (first | refine blk_drewN ?_ _ | refine blk_drew ?_ | refine blk_alloc ?_ _)); exact BK311.out) hb); have n4_ := Aside0.mk (below_step (by repeat (first | (with_reducible first | exact HB.out | apply below_alloc | apply pw_below_drewN | apply below_drew1 | refine below_set ?_ GE310.out | refine below_set ?_ GE311.out) | exact HB.out)) hb); clear HO_8; clear HO_11; clear BK310; clear BK311; clear HB; have HO_8 := n0_; have HO_11 := n1_; have BK310 := n2_; have BK311 := n3_; have HB := n4_; clear n0_ n1_ n2_ n3_ n4_; (try clear hb); (try clear hb2); (try clear hk); (try clear hi)))
                  go_ret
                  exact ⟨by first | rfl | (simp [errW_none, errW_some] <;> rfl) | (simp [*, errW_none, errW_some] <;> rfl), by repeat (first | (with_reducible first | exact HB.out | apply below_alloc | apply pw_below_drewN | apply below_drew1 | refine below_set ?_ GE310.out | refine below_set ?_ GE311.out) | exact HB.out)⟩
              · replace c38 := Bool.eq_false_iff.mpr c38
                subst c38
                have H1 : (some false) = some r := by rw [if_neg (show ¬ (false = true) by decide)] at H; exact H
                clear H
                have H := H1
                clear H1
                obtain rfl := Option.some.inj H
                obtain ⟨Ao50, co50, eo50⟩ := Kd.R_slice HO_8.out
                subst eo50
                obtain ⟨Ao51, co51, eo51⟩ := Kd.R_slice HO_11.out
                subst eo51
                go_wp2_with (first | ((with_reducible refine gate_callee (f := 14) rfl ?_); refine goesL_ (some 56) rfl rfl Try.func14 (by kernel_rfl) rfl #[.slice Ao50 t317.length co50, .slice Ao51 t325.length co51] rfl (by (try simp only [List.map_toArray, List.map_cons, List.map_nil]); first | done | rfl | (simp only [List.length_drop, List.length_take]; rfl)) ?_; (with_reducible refine (waystoneref07_Same.calls kj17 _ _ t317 _ _ t325 t331 _ ?side1 ?side2 ?side3 ?side4 A36.out).mono ?_); (case side1 => repeat (first | exact (Kd.R_reads' HO_8.out).2.2 | (with_reducible refine Kd.C_alloc ?_ _) | (with_reducible refine Kd.C_drewN ?_ _) | (with_reducible refine Kd.C_drew ?_))); (case side2 => exact (Kd.R_reads' HO_8.out).2.1); (case side3 => repeat (first | exact (Kd.R_reads' HO_11.out).2.2 | (with_reducible refine Kd.C_alloc ?_ _) | (with_reducible refine Kd.C_drewN ?_ _) | (with_reducible refine Kd.C_drew ?_))); (case side4 => exact (Kd.R_reads' HO_11.out).2.1); rintro e w' ⟨rfl, ⟨nd, rfl⟩⟩; refine ⟨_, rfl, ?_⟩) | ((with_reducible refine gate_callee (f := 9) rfl ?_); refine goesL_ (some 57) rfl rfl Try.func9 (by kernel_rfl) rfl #[] rfl (by (try simp only [List.map_toArray, List.map_cons, List.map_nil]); first | done | rfl | (simp only [List.length_drop, List.length_take]; rfl)) ?_; (with_reducible refine (waystonelaw14_alive.calls kj17  false _ A37.out).mono ?_); rintro e w52 ⟨rfl, hb⟩; refine ⟨_, rfl, ?_⟩; have n0_ := Aside0.mk (Kd.R_below (by (with_reducible repeat (first | apply Kd.R_alloc | apply Kd.R_drewN | apply Kd.R_drew)); exact HO_8.out) hb); have n1_ := Aside0.mk (Kd.R_below (by (with_reducible repeat (first | apply Kd.R_alloc | apply Kd.R_drewN | apply Kd.R_drew)); exact HO_11.out) hb); have n2_ := Aside0.mk (blk_below (g := gb310) (o := .cells #[.int .i64 a1_0, .int .i64 a1_1, .int .i64 a1_2, .int .i64 a1_3, .int .i64 a1_4, .int .u32 a1_5, .int .u32 a1_6, .int .i64 a1_7] 37 (0, 0)) (by (with_reducible repeat (first | refine blk_drewN ?_ _ | refine blk_drew ?_ | refine blk_alloc ?_ _)); exact BK310.out) hb); have n3_ := Aside0.mk (blk_below (g := gb311) (o := .cells #[.int .i64 a2_0, .int .i64 a2_1, .int .i64 a2_2, .int .i64 a2_3, .int .i64 a2_4, .int .u32 a2_5, .int .u32 a2_6, .int .i64 a2_7] 37 (0, 0)) (by (with_reducible repeat (first | refine blk_drewN ?_ _ | refine blk_drew ?_ | refine blk_alloc ?_ _)); exact BK311.out) hb); have n4_ := Aside0.mk (below_step (by repeat (first | (with_reducible first | exact HB.out | apply below_alloc | apply pw_below_drewN | apply below_drew1 | refine below_set ?_ GE310.out | refine below_set ?_ GE311.out) | exact HB.out)) hb); clear HO_8; clear HO_11; clear BK310; clear BK311; clear HB; have HO_8 := n0_; have HO_11 := n1_; have BK310 := n2_; have BK311 := n3_; have HB := n4_; clear n0_ n1_ n2_ n3_ n4_; (try clear hb); (try clear hb2); (try clear hk); (try clear hi)))
                go_ret
                exact ⟨by first | rfl | (simp [errW_none, errW_some] <;> rfl) | (simp [*, errW_none, errW_some] <;> rfl), by repeat (first | (with_reducible first | exact HB.out | apply below_alloc | apply pw_below_drewN | apply below_drew1 | refine below_set ?_ GE310.out | refine below_set ?_ GE311.out) | exact HB.out)⟩
end Go.Proofs.Ytckjhdlpbfcaiaa.E
