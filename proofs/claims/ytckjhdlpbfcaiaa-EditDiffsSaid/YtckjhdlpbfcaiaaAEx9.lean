/- Ex9. -/
import Derived.Test.YtckjhdlpbfcaiaaAEdtP
import Derived.Test.YtckjhdlpbfcaiaaAEx1
import Derived.Test.YtckjhdlpbfcaiaaAEx7
import Derived.Test.YtckjhdlpbfcaiaaAEx8
namespace Go.Proofs.Ytckjhdlpbfcaiaa.E
open Go.Proofs.Ytckjhdlpbfcaiaa.P
open Go.RowKit Go.Proofs.YtckjhdlpbfcaiaaW.PrintWords Go.Proofs.YtckjhdlpbfcaiaaW.PrintLast Go.Proofs.YtckjhdlpbfcaiaaW.PrintMore
set_option linter.unusedVariables false
set_option linter.unusedSimpArgs false
attribute [local go_sem high] eqA35
mutual
def waystoneref14_Diff.l0 : Nat → List (S35) → List (S35) → List (S37) → List Int → Int → Option ((List (S37)))
  | 0, _, _, _, _, _ => none
  | k + 1, x0, x1, x5, x6, x7 => if x7 < (x6.length : Int) then (if 0 ≤ x7 then ((waystoneref07_Find.f k x0 (rd x6 x7)).bind fun bt266 => ((waystoneref07_Find.f k x1 (rd x6 x7)).bind fun bt276 => (if bt266.2.2.2.2.2.2.2 = true then (waystoneref14_Diff.j1 k x0 x1 x5 x6 x7 bt266.2.2.2.2.2.2.2 bt276.2.2.2.2.2.2.2 (!bt276.2.2.2.2.2.2.2) bt266.1 bt266.2.1 bt266.2.2.1 bt266.2.2.2.1 bt266.2.2.2.2.1 bt266.2.2.2.2.2.1 bt266.2.2.2.2.2.2.1 bt276.1 bt276.2.1 bt276.2.2.1 bt276.2.2.2.1 bt276.2.2.2.2.1 bt276.2.2.2.2.2.1 bt276.2.2.2.2.2.2.1) else (waystoneref14_Diff.j1 k x0 x1 x5 x6 x7 bt266.2.2.2.2.2.2.2 bt276.2.2.2.2.2.2.2 false bt266.1 bt266.2.1 bt266.2.2.1 bt266.2.2.2.1 bt266.2.2.2.2.1 bt266.2.2.2.2.2.1 bt266.2.2.2.2.2.2.1 bt276.1 bt276.2.1 bt276.2.2.1 bt276.2.2.2.1 bt276.2.2.2.2.1 bt276.2.2.2.2.2.1 bt276.2.2.2.2.2.2.1)))) else (none)) else (some x5)
def waystoneref14_Diff.j1 : Nat → List (S35) → List (S35) → List (S37) → List Int → Int → Bool → Bool → Bool → Int → Int → Int → Int → Int → Int → Int → Int → Int → Int → Int → Int → Int → Int → Option ((List (S37)))
  | 0, _, _, _, _, _, _, _, _, _, _, _, _, _, _, _, _, _, _, _, _, _, _ => none
  | k + 1, x0, x1, x5, x6, x7, x9, x11, x43, x275000, x275001, x275002, x275003, x275004, x275005, x275006, x285000, x285001, x285002, x285003, x285004, x285005, x285006 => if x43 = true then (if x5.length < 2513169434916 then (waystoneref14_Diff.j2 k x0 x1 (x5 ++ [(⟨1, (⟨x275000, x275001, x275002, x275003, (⟨x275004, x275005⟩ : S33), x275006⟩ : S35)⟩ : S37)]) x6 x7 x9 x11 x275000 x275001 x275002 x275003 x275004 x275005 x275006 x285000 x285001 x285002 x285003 x285004 x285005 x285006) else (none)) else (waystoneref14_Diff.j2 k x0 x1 x5 x6 x7 x9 x11 x275000 x275001 x275002 x275003 x275004 x275005 x275006 x285000 x285001 x285002 x285003 x285004 x285005 x285006)
def waystoneref14_Diff.j2 : Nat → List (S35) → List (S35) → List (S37) → List Int → Int → Bool → Bool → Int → Int → Int → Int → Int → Int → Int → Int → Int → Int → Int → Int → Int → Int → Option ((List (S37)))
  | 0, _, _, _, _, _, _, _, _, _, _, _, _, _, _, _, _, _, _, _, _, _ => none
  | k + 1, x0, x1, x5, x6, x7, x9, x11, x275000, x275001, x275002, x275003, x275004, x275005, x275006, x285000, x285001, x285002, x285003, x285004, x285005, x285006 => if x9 = true then (waystoneref14_Diff.j3 k x0 x1 x5 x6 x7 x9 x11 false x275000 x275001 x275002 x275003 x275004 x275005 x275006 x285000 x285001 x285002 x285003 x285004 x285005 x285006) else (waystoneref14_Diff.j3 k x0 x1 x5 x6 x7 x9 x11 x11 x275000 x275001 x275002 x275003 x275004 x275005 x275006 x285000 x285001 x285002 x285003 x285004 x285005 x285006)
def waystoneref14_Diff.j3 : Nat → List (S35) → List (S35) → List (S37) → List Int → Int → Bool → Bool → Bool → Int → Int → Int → Int → Int → Int → Int → Int → Int → Int → Int → Int → Int → Int → Option ((List (S37)))
  | 0, _, _, _, _, _, _, _, _, _, _, _, _, _, _, _, _, _, _, _, _, _, _ => none
  | k + 1, x0, x1, x5, x6, x7, x9, x11, x53, x275000, x275001, x275002, x275003, x275004, x275005, x275006, x285000, x285001, x285002, x285003, x285004, x285005, x285006 => if x53 = true then (if x5.length < 2513169434916 then ((some (x5 ++ [(⟨0, (⟨x285000, x285001, x285002, x285003, (⟨x285004, x285005⟩ : S33), x285006⟩ : S35)⟩ : S37)] : List (S37))).bind fun y288 => (if x9 = true then (if x11 = true then (if (!(x275000 == x285000) || (!(x275001 == x285001) || (!(x275002 == x285002) || (!(x275003 == x285003) || ((!(x275004 == x285004) || (!(x275005 == x285005))) || (!(x275006 == x285006))))))) = true then (if y288.length < 2513169434916 then (waystoneref14_Diff.l0 k x0 x1 (y288 ++ [(⟨2, (⟨x285000, x285001, x285002, x285003, (⟨x285004, x285005⟩ : S33), x285006⟩ : S35)⟩ : S37)]) x6 (wrap64 (x7 + 1))) else (none)) else (waystoneref14_Diff.l0 k x0 x1 y288 x6 (wrap64 (x7 + 1)))) else (waystoneref14_Diff.l0 k x0 x1 y288 x6 (wrap64 (x7 + 1)))) else (waystoneref14_Diff.l0 k x0 x1 y288 x6 (wrap64 (x7 + 1))))) else (none)) else (if x9 = true then (if x11 = true then (if (!(x275000 == x285000) || (!(x275001 == x285001) || (!(x275002 == x285002) || (!(x275003 == x285003) || ((!(x275004 == x285004) || (!(x275005 == x285005))) || (!(x275006 == x285006))))))) = true then (if x5.length < 2513169434916 then (waystoneref14_Diff.l0 k x0 x1 (x5 ++ [(⟨2, (⟨x285000, x285001, x285002, x285003, (⟨x285004, x285005⟩ : S33), x285006⟩ : S35)⟩ : S37)]) x6 (wrap64 (x7 + 1))) else (none)) else (waystoneref14_Diff.l0 k x0 x1 x5 x6 (wrap64 (x7 + 1)))) else (waystoneref14_Diff.l0 k x0 x1 x5 x6 (wrap64 (x7 + 1)))) else (waystoneref14_Diff.l0 k x0 x1 x5 x6 (wrap64 (x7 + 1))))
end
def waystoneref14_Diff.f (k : Nat) (l0 : List (S35)) (l1 : List (S35)) : Option ((List (S37))) := (waystoneref14_ids.f k l0 l1).bind fun t262 => (waystoneref14_Diff.l0 k l0 l1 ([] : List (S37)) t262 0)
set_option maxHeartbeats 8000000 in
set_option maxRecDepth 100000 in
theorem waystoneref14_Diff.calls (k : Nat) (A0 : Option Addr) (c0 : Nat) (l0 : List (S35)) (A1 : Option Addr) (c1 : Nat) (l1 : List (S35)) (r : List (S37)) (w : World) (hr0 : Kd.C k35 w A0 l0.length l0) (hc0 : l0.length ≤ c0) (hr1 : Kd.C k35 w A1 l1.length l1) (hc1 : l1.length ≤ c1) (h : waystoneref14_Diff.f k l0 l1 = some r) :
    Calls Try.prog 12 #[.slice A0 l0.length c0, .slice A1 l1.length c1] w fun e w' => ∃ v0_ : Value, e = .returned (v0_) ∧ Kd.R k37 37 w' w.heap.size (fun _ => True) v0_ r ∧ Below w.heap.size w w' := by
  have hu35 := Try.underlying35
  have hu37 := Try.underlying37
  have HR0 := Aside0.mk hr0
  have HC0 := Aside0.mk hc0
  clear hr0 hc0
  have HR1 := Aside0.mk hr1
  have HC1 := Aside0.mk hc1
  clear hr1 hc1
  have HB := Aside0.mk (Below.refl w.heap.size w)
  have H : ((waystoneref14_ids.f k l0 l1).bind fun t262 => (waystoneref14_Diff.l0 k l0 l1 ([] : List (S37)) t262 0)) = some r := h
  clear h
  replace H := Option.bind_eq_some_iff.mp H
  obtain ⟨t262, A30, H⟩ := H
  replace H : (waystoneref14_Diff.l0 k l0 l1 ([] : List (S37)) t262 0) = some r := H
  have A3 := Aside0.mk A30
  clear A30
  have H' := Aside0.mk H
  clear H
  go_enter Try.func12, Try.ntmps12
  go_wp2_with (first | ((with_reducible refine gate_callee (f := 28) rfl ?_); refine goesL_ (some 14) rfl rfl Try.func28 (by kernel_rfl) rfl #[.slice A0 l0.length c0, .slice A1 l1.length c1] rfl (by (try simp only [List.map_toArray, List.map_cons, List.map_nil]); first | done | rfl | (simp only [List.length_drop, List.length_take]; rfl)) ?_; (with_reducible refine (waystoneref14_ids.calls k _ _ l0 _ _ l1 t262 _ ?side1 ?side2 ?side3 ?side4 A3.out).mono ?_); (case side1 => repeat (first | exact HR0.out | (with_reducible refine Kd.C_alloc ?_ _) | (with_reducible refine Kd.C_drewN ?_ _) | (with_reducible refine Kd.C_drew ?_))); (case side2 => exact HC0.out); (case side3 => repeat (first | exact HR1.out | (with_reducible refine Kd.C_alloc ?_ _) | (with_reducible refine Kd.C_drewN ?_ _) | (with_reducible refine Kd.C_drew ?_))); (case side4 => exact HC1.out); rintro e w4 ⟨v263, rfl, ho0, hb⟩; refine ⟨_, rfl, ?_⟩; have n0_ := Aside0.mk (Kd.R_lower ho0 (below_size (by repeat (first | (with_reducible first | exact HB.out | apply below_alloc | apply pw_below_drewN | apply below_drew1) | exact HB.out)))); have n1_ := Aside0.mk (below_step (by repeat (first | (with_reducible first | exact HB.out | apply below_alloc | apply pw_below_drewN | apply below_drew1) | exact HB.out)) hb); clear HB; have HO264 := n0_; have HB := n1_; clear n0_ n1_; (try clear hb); (try clear hb2); (try clear hk); (try clear hi); (try clear ho0)))
  go_loopg [5, 7] k (fun kq v5 v7 w' => ∃ (x5_1 : List (S37)) (x7_1 : Int), v7 = .int .i64 x7_1 ∧ Aside0 (waystoneref14_Diff.l0 kq l0 l1 x5_1 t262 x7_1 = some r) ∧ Aside0 (kq ≤ k) ∧ Aside0 (Kd.R k37 37 w' w.heap.size (fun _ => True) v5 x5_1) ∧ Aside0 (Kd.R (Kd.int .i64) 3 w' w.heap.size (fun _ => True) v263 t262) ∧ Aside0 (Below w.heap.size w w'))
  case atStart => exact ⟨(([] : List (S37))), (0), (by first | rfl | (simp; done) | (simp [*]; done)), H', ⟨Nat.le_refl _⟩, ⟨by first | exact Kd.R_nil _ _ _ _ _ | exact Kd.N_nil _ _ _ _ _ | exact Kd.V_nil _ _ _ _ _ | exact Kd.Q_nil _ _ _ _ _ | exact Kd.S_nil _ _ _ _ _⟩, ⟨by (with_reducible repeat (first | apply Kd.R_alloc | apply Kd.R_drewN | apply Kd.R_drew)); exact HO264.out⟩, ⟨by repeat (first | (with_reducible first | exact HB.out | apply below_alloc | apply pw_below_drewN | apply below_drew1) | exact HB.out)⟩⟩
  case round =>
    clear H'
    try clear c1
    try clear c2
    try clear p2
    obtain ⟨x5_1, x7_1, rfl, HA, HK1, HO_5, HO_6, HB⟩ := hrel
    cases gk with
    | zero => exact absurd HA.out (by simp [waystoneref14_Diff.l0])
    | succ k1 =>
      have H := HA.out
      clear HA
      simp only [waystoneref14_Diff.l0] at H
      by_cases c5 : x7_1 < (t262.length : Int)
      · rw [if_pos c5] at H
        have c5b0 : decide (x7_1 < (t262.length : Int)) = true := decide_eq_true c5
        clear c5
        by_cases c6 : 0 ≤ x7_1
        · rw [if_pos c6] at H
          have c6b0 : decide (0 ≤ x7_1) = true := decide_eq_true c6
          clear c6
          replace H := Option.bind_eq_some_iff.mp H
          obtain ⟨⟨t266, t267, t268, t269, t270, t271, t272, t273⟩, A70, H⟩ := H
          replace H : ((waystoneref07_Find.f k1 l1 (rd t262 x7_1)).bind fun bt276 => (if t273 = true then (waystoneref14_Diff.j1 k1 l0 l1 x5_1 t262 x7_1 t273 bt276.2.2.2.2.2.2.2 (!bt276.2.2.2.2.2.2.2) t266 t267 t268 t269 t270 t271 t272 bt276.1 bt276.2.1 bt276.2.2.1 bt276.2.2.2.1 bt276.2.2.2.2.1 bt276.2.2.2.2.2.1 bt276.2.2.2.2.2.2.1) else (waystoneref14_Diff.j1 k1 l0 l1 x5_1 t262 x7_1 t273 bt276.2.2.2.2.2.2.2 false t266 t267 t268 t269 t270 t271 t272 bt276.1 bt276.2.1 bt276.2.2.1 bt276.2.2.2.1 bt276.2.2.2.2.1 bt276.2.2.2.2.2.1 bt276.2.2.2.2.2.2.1))) = some r := H
          have A7 := Aside0.mk A70
          clear A70
          replace H := Option.bind_eq_some_iff.mp H
          obtain ⟨⟨t276, t277, t278, t279, t280, t281, t282, t283⟩, A80, H⟩ := H
          replace H : (if t273 = true then (waystoneref14_Diff.j1 k1 l0 l1 x5_1 t262 x7_1 t273 t283 (!t283) t266 t267 t268 t269 t270 t271 t272 t276 t277 t278 t279 t280 t281 t282) else (waystoneref14_Diff.j1 k1 l0 l1 x5_1 t262 x7_1 t273 t283 false t266 t267 t268 t269 t270 t271 t272 t276 t277 t278 t279 t280 t281 t282)) = some r := H
          have A8 := Aside0.mk A80
          clear A80
          have HC9 := Aside0.mk H
          clear H
          obtain ⟨Ao10, co10, eo10⟩ := Kd.R_slice HO_6.out
          subst eo10
          have p265 : 0 ≤ (x7_1 : Int) := of_decide_eq_true (by first | (with_reducible assumption) | assumption)
          have q265 : x7_1 < (t262.length : Int) := of_decide_eq_true (by first | (with_reducible assumption) | assumption)
          obtain ⟨ad265, e265, hx265_0⟩ := Kd.at_int (Kd.R_reads' HO_6.out).2.2 x7_1 p265 q265
          cases e265
          replace p265 := eq_true p265
          replace q265 := eq_true q265
          go_upto_region 8 with (first | ((with_reducible refine gate_callee (f := 29) rfl ?_); refine goesL_ (some 27) rfl rfl Try.func29 (by kernel_rfl) rfl #[.slice A0 l0.length c0, .int .i64 (rd t262 x7_1)] rfl (by (try simp only [List.map_toArray, List.map_cons, List.map_nil]); first | done | rfl | (simp only [List.length_drop, List.length_take]; rfl)) ?_; (with_reducible refine (waystoneref07_Find.calls k1 _ _ l0 (rd t262 x7_1) t266 t267 t268 t269 t270 t271 t272 t273 _ ?side1 ?side2 A7.out).mono ?_); (case side1 => repeat (first | exact (Kd.C_below HR0.out HB.out) | (with_reducible refine Kd.C_alloc ?_ _) | (with_reducible refine Kd.C_drewN ?_ _) | (with_reducible refine Kd.C_drew ?_))); (case side2 => exact HC0.out); rintro e w11 ⟨rfl, hb⟩; refine ⟨_, rfl, ?_⟩; have n0_ := Aside0.mk (Kd.R_below (by (with_reducible repeat (first | apply Kd.R_alloc | apply Kd.R_drewN | apply Kd.R_drew)); exact HO_5.out) hb); have n1_ := Aside0.mk (Kd.R_below (by (with_reducible repeat (first | apply Kd.R_alloc | apply Kd.R_drewN | apply Kd.R_drew)); exact HO_6.out) hb); have n2_ := Aside0.mk (below_step (by repeat (first | (with_reducible first | exact HB.out | apply below_alloc | apply pw_below_drewN | apply below_drew1) | exact HB.out)) hb); clear HO_5; clear HO_6; clear HB; have HO_5 := n0_; have HO_6 := n1_; have HB := n2_; clear n0_ n1_ n2_; (try clear hb); (try clear hb2); (try clear hk); (try clear hi)) | ((with_reducible refine gate_dst (N := 8) rfl ?_); refine box_event ?hg (N := 8) ?hd (cs := #[.int .i64 0, .int .i64 0, .int .i64 0, .int .i64 0, .int .u32 0, .int .u32 0, .int .i64 0]) (t := 35) ?hr ?_; (case hd => rfl); (case hg => rfl); (case hr => first | (go_simp; done) | (go_simp; rfl)); intro gb274 hg w12 hbox hb; have n0_ := Aside0.mk (Kd.R_below (by (with_reducible repeat (first | apply Kd.R_alloc | apply Kd.R_drewN | apply Kd.R_drew)); exact HO_5.out) hb); have n1_ := Aside0.mk (Kd.R_below (by (with_reducible repeat (first | apply Kd.R_alloc | apply Kd.R_drewN | apply Kd.R_drew)); exact HO_6.out) hb); have n2_ := Aside0.mk (below_step (by repeat (first | (with_reducible first | exact HB.out | apply below_alloc | apply pw_below_drewN | apply below_drew1) | exact HB.out)) hb); have n3_ := Aside0.mk (hbox); have n4_ := Aside0.mk ((by rw [hg]; exact (below_size (by repeat (first | (with_reducible first | exact HB.out | apply below_alloc | apply pw_below_drewN | apply below_drew1) | exact HB.out))) : w.heap.size ≤ gb274)); have n5_ := Aside0.mk ((by rw [hg]; exact (below_size (by repeat (first | (with_reducible first | exact HB.out | apply below_alloc | apply pw_below_drewN | apply below_drew1) | exact HB.out))) : w.heap.size ≤ gb274)); clear HO_5; clear HO_6; clear HB; have HO_5 := n0_; have HO_6 := n1_; have HB := n2_; have BK274 := n3_; have GW274 := n4_; have GE274 := n5_; clear n0_ n1_ n2_ n3_ n4_ n5_; clear hb hbox hg; have hcz13_0 : w12.cell? ⟨gb274, 0, none⟩ = some (.int .i64 0) := (blk_cell BK274.out 0).trans rfl; have hcz13_1 : w12.cell? ⟨gb274, 1, none⟩ = some (.int .i64 0) := (blk_cell BK274.out 1).trans rfl; have hcz13_2 : w12.cell? ⟨gb274, 2, none⟩ = some (.int .i64 0) := (blk_cell BK274.out 2).trans rfl; have hcz13_3 : w12.cell? ⟨gb274, 3, none⟩ = some (.int .i64 0) := (blk_cell BK274.out 3).trans rfl; have hcz13_4 : w12.cell? ⟨gb274, 4, none⟩ = some (.int .u32 0) := (blk_cell BK274.out 4).trans rfl; have hcz13_5 : w12.cell? ⟨gb274, 5, none⟩ = some (.int .u32 0) := (blk_cell BK274.out 5).trans rfl; have hcz13_6 : w12.cell? ⟨gb274, 6, none⟩ = some (.int .i64 0) := (blk_cell BK274.out 6).trans rfl; have hfz13_0 := blk_frozen BK274.out 0; have hfz13_1 := blk_frozen BK274.out 1; have hfz13_2 := blk_frozen BK274.out 2; have hfz13_3 := blk_frozen BK274.out 3; have hfz13_4 := blk_frozen BK274.out 4; have hfz13_5 := blk_frozen BK274.out 5; have hfz13_6 := blk_frozen BK274.out 6; have p275 : 0 ≤ (x7_1 : Int) := of_decide_eq_true (by first | (with_reducible assumption) | assumption); have q275 : x7_1 < (t262.length : Int) := of_decide_eq_true (by first | (with_reducible assumption) | assumption); obtain ⟨ad275, e275, hx275_0⟩ := Kd.at_int (Kd.R_reads' HO_6.out).2.2 x7_1 p275 q275; obtain rfl : ad265 = ad275 := (by injection e275); have hn275_0 : ad265.block ≠ gb274 := Kd.own_blk (Kd.R_ne HO_6.out BK274.out (by decide)); have hn275_1 : ad265.block ≠ gb274 := Kd.own_blk (Kd.R_ne HO_6.out BK274.out (by decide)); have hn275_2 : ad265.block ≠ gb274 := Kd.own_blk (Kd.R_ne HO_6.out BK274.out (by decide)); have hn275_3 : ad265.block ≠ gb274 := Kd.own_blk (Kd.R_ne HO_6.out BK274.out (by decide)); have hn275_4 : ad265.block ≠ gb274 := Kd.own_blk (Kd.R_ne HO_6.out BK274.out (by decide)); have hn275_5 : ad265.block ≠ gb274 := Kd.own_blk (Kd.R_ne HO_6.out BK274.out (by decide)); have hn275_6 : ad265.block ≠ gb274 := Kd.own_blk (Kd.R_ne HO_6.out BK274.out (by decide)); replace hx275_0 := (cell_far (p := ⟨gb274, 0, none⟩) (by first | (rw [add_block]; exact hn275_0) | (show (Addr.add _ _).block ≠ _; rw [add_block]; exact hn275_0) | exact hn275_0) (.int .i64 t266)).trans hx275_0; replace hx275_0 := (cell_far (p := ⟨gb274, 1, none⟩) (by first | (rw [add_block]; exact hn275_1) | (show (Addr.add _ _).block ≠ _; rw [add_block]; exact hn275_1) | exact hn275_1) (.int .i64 t267)).trans hx275_0; replace hx275_0 := (cell_far (p := ⟨gb274, 2, none⟩) (by first | (rw [add_block]; exact hn275_2) | (show (Addr.add _ _).block ≠ _; rw [add_block]; exact hn275_2) | exact hn275_2) (.int .i64 t268)).trans hx275_0; replace hx275_0 := (cell_far (p := ⟨gb274, 3, none⟩) (by first | (rw [add_block]; exact hn275_3) | (show (Addr.add _ _).block ≠ _; rw [add_block]; exact hn275_3) | exact hn275_3) (.int .i64 t269)).trans hx275_0; replace hx275_0 := (cell_far (p := ⟨gb274, 4, none⟩) (by first | (rw [add_block]; exact hn275_4) | (show (Addr.add _ _).block ≠ _; rw [add_block]; exact hn275_4) | exact hn275_4) (.int .u32 t270)).trans hx275_0; replace hx275_0 := (cell_far (p := ⟨gb274, 5, none⟩) (by first | (rw [add_block]; exact hn275_5) | (show (Addr.add _ _).block ≠ _; rw [add_block]; exact hn275_5) | exact hn275_5) (.int .u32 t271)).trans hx275_0; replace hx275_0 := (cell_far (p := ⟨gb274, 6, none⟩) (by first | (rw [add_block]; exact hn275_6) | (show (Addr.add _ _).block ≠ _; rw [add_block]; exact hn275_6) | exact hn275_6) (.int .i64 t272)).trans hx275_0; clear hn275_0; clear hn275_1; clear hn275_2; clear hn275_3; clear hn275_4; clear hn275_5; clear hn275_6; replace p275 := eq_true p275; replace q275 := eq_true q275) | ((with_reducible refine gate_callee (f := 29) rfl ?_); refine goesL_ (some 36) rfl rfl Try.func29 (by kernel_rfl) rfl #[.slice A1 l1.length c1, .int .i64 (rd t262 x7_1)] rfl (by (try simp only [List.map_toArray, List.map_cons, List.map_nil]); first | done | rfl | (simp only [List.length_drop, List.length_take]; rfl)) ?_; (with_reducible refine (waystoneref07_Find.calls k1 _ _ l1 (rd t262 x7_1) t276 t277 t278 t279 t280 t281 t282 t283 _ ?side1 ?side2 A8.out).mono ?_); (case side1 => exact Kd.C_below HR1.out (by repeat (first | (with_reducible first | exact HB.out | apply below_alloc | apply pw_below_drewN | apply below_drew1 | refine below_set ?_ GE274.out) | exact HB.out))); (case side2 => exact HC1.out); rintro e w14 ⟨rfl, hb⟩; refine ⟨_, rfl, ?_⟩; have n0_ := Aside0.mk (Kd.R_below (by (with_reducible repeat (first | apply Kd.R_alloc | apply Kd.R_drewN | apply Kd.R_drew)); exact (Kd.R_mono (Kd.R_far (p := ⟨gb274, 6, none⟩) (Kd.R_far (p := ⟨gb274, 5, none⟩) (Kd.R_far (p := ⟨gb274, 4, none⟩) (Kd.R_far (p := ⟨gb274, 3, none⟩) (Kd.R_far (p := ⟨gb274, 2, none⟩) (Kd.R_far (p := ⟨gb274, 1, none⟩) (Kd.R_far (p := ⟨gb274, 0, none⟩) (Kd.R_types HO_5.out BK274.out (by decide)) (fun _ hk => hk.2) (.int .i64 t266)) (fun _ hk => hk.2) (.int .i64 t267)) (fun _ hk => hk.2) (.int .i64 t268)) (fun _ hk => hk.2) (.int .i64 t269)) (fun _ hk => hk.2) (.int .u32 t270)) (fun _ hk => hk.2) (.int .u32 t271)) (fun _ hk => hk.2) (.int .i64 t272)) (fun _ h_ => h_.1))) hb); have n1_ := Aside0.mk (Kd.R_below (by (with_reducible repeat (first | apply Kd.R_alloc | apply Kd.R_drewN | apply Kd.R_drew)); exact (Kd.R_mono (Kd.R_far (p := ⟨gb274, 6, none⟩) (Kd.R_far (p := ⟨gb274, 5, none⟩) (Kd.R_far (p := ⟨gb274, 4, none⟩) (Kd.R_far (p := ⟨gb274, 3, none⟩) (Kd.R_far (p := ⟨gb274, 2, none⟩) (Kd.R_far (p := ⟨gb274, 1, none⟩) (Kd.R_far (p := ⟨gb274, 0, none⟩) (Kd.R_types HO_6.out BK274.out (by decide)) (fun _ hk => hk.2) (.int .i64 t266)) (fun _ hk => hk.2) (.int .i64 t267)) (fun _ hk => hk.2) (.int .i64 t268)) (fun _ hk => hk.2) (.int .i64 t269)) (fun _ hk => hk.2) (.int .u32 t270)) (fun _ hk => hk.2) (.int .u32 t271)) (fun _ hk => hk.2) (.int .i64 t272)) (fun _ h_ => h_.1))) hb); have n2_ := Aside0.mk (blk_below (g := gb274) (o := .cells #[.int .i64 t266, .int .i64 t267, .int .i64 t268, .int .i64 t269, .int .u32 t270, .int .u32 t271, .int .i64 t272] 35 (0, 0)) (by (with_reducible repeat (first | refine blk_drewN ?_ _ | refine blk_drew ?_ | refine blk_alloc ?_ _)); refine blk_put (cs := #[.int .i64 t266, .int .i64 t267, .int .i64 t268, .int .i64 t269, .int .u32 t270, .int .u32 t271, .int .i64 0]) ?_ 6 _ rfl; (with_reducible repeat (first | refine blk_drewN ?_ _ | refine blk_drew ?_ | refine blk_alloc ?_ _)); refine blk_put (cs := #[.int .i64 t266, .int .i64 t267, .int .i64 t268, .int .i64 t269, .int .u32 t270, .int .u32 0, .int .i64 0]) ?_ 5 _ rfl; (with_reducible repeat (first | refine blk_drewN ?_ _ | refine blk_drew ?_ | refine blk_alloc ?_ _)); refine blk_put (cs := #[.int .i64 t266, .int .i64 t267, .int .i64 t268, .int .i64 t269, .int .u32 0, .int .u32 0, .int .i64 0]) ?_ 4 _ rfl; (with_reducible repeat (first | refine blk_drewN ?_ _ | refine blk_drew ?_ | refine blk_alloc ?_ _)); refine blk_put (cs := #[.int .i64 t266, .int .i64 t267, .int .i64 t268, .int .i64 0, .int .u32 0, .int .u32 0, .int .i64 0]) ?_ 3 _ rfl; (with_reducible repeat (first | refine blk_drewN ?_ _ | refine blk_drew ?_ | refine blk_alloc ?_ _)); refine blk_put (cs := #[.int .i64 t266, .int .i64 t267, .int .i64 0, .int .i64 0, .int .u32 0, .int .u32 0, .int .i64 0]) ?_ 2 _ rfl; (with_reducible repeat (first | refine blk_drewN ?_ _ | refine blk_drew ?_ | refine blk_alloc ?_ _)); refine blk_put (cs := #[.int .i64 t266, .int .i64 0, .int .i64 0, .int .i64 0, .int .u32 0, .int .u32 0, .int .i64 0]) ?_ 1 _ rfl; (with_reducible repeat (first | refine blk_drewN ?_ _ | refine blk_drew ?_ | refine blk_alloc ?_ _)); refine blk_put (cs := #[.int .i64 0, .int .i64 0, .int .i64 0, .int .i64 0, .int .u32 0, .int .u32 0, .int .i64 0]) ?_ 0 _ rfl; (with_reducible repeat (first | refine blk_drewN ?_ _ | refine blk_drew ?_ | refine blk_alloc ?_ _)); exact BK274.out) hb); have n3_ := Aside0.mk (below_step (by repeat (first | (with_reducible first | exact HB.out | apply below_alloc | apply pw_below_drewN | apply below_drew1 | refine below_set ?_ GE274.out) | exact HB.out)) hb); clear HO_5; clear HO_6; clear BK274; clear HB; have HO_5 := n0_; have HO_6 := n1_; have BK274 := n2_; have HB := n3_; clear n0_ n1_ n2_ n3_; (try clear hb); (try clear hb2); (try clear hk); (try clear hi)) | ((with_reducible refine gate_dst (N := 10) rfl ?_); refine box_event ?hg (N := 10) ?hd (cs := #[.int .i64 0, .int .i64 0, .int .i64 0, .int .i64 0, .int .u32 0, .int .u32 0, .int .i64 0]) (t := 35) ?hr ?_; (case hd => rfl); (case hg => rfl); (case hr => first | (go_simp; done) | (go_simp; rfl)); intro gb284 hg w15 hbox hb; have n0_ := Aside0.mk (Kd.R_below (by (with_reducible repeat (first | apply Kd.R_alloc | apply Kd.R_drewN | apply Kd.R_drew)); exact HO_5.out) hb); have n1_ := Aside0.mk (Kd.R_below (by (with_reducible repeat (first | apply Kd.R_alloc | apply Kd.R_drewN | apply Kd.R_drew)); exact HO_6.out) hb); have n2_ := Aside0.mk (blk_below (g := gb274) (o := .cells #[.int .i64 t266, .int .i64 t267, .int .i64 t268, .int .i64 t269, .int .u32 t270, .int .u32 t271, .int .i64 t272] 35 (0, 0)) (by (with_reducible repeat (first | refine blk_drewN ?_ _ | refine blk_drew ?_ | refine blk_alloc ?_ _)); exact BK274.out) hb); have n3_ := Aside0.mk (below_step (by repeat (first | (with_reducible first | exact HB.out | apply below_alloc | apply pw_below_drewN | apply below_drew1 | refine below_set ?_ GE274.out) | exact HB.out)) hb); have n4_ := Aside0.mk (hbox); have n5_ := Aside0.mk ((by rw [hg]; exact (below_size (by repeat (first | (with_reducible first | exact HB.out | apply below_alloc | apply pw_below_drewN | apply below_drew1 | refine below_set ?_ GE274.out) | exact HB.out))) : w.heap.size ≤ gb284)); have n6_ := Aside0.mk ((by rw [hg]; exact (below_size (by repeat (first | (with_reducible first | exact HB.out | apply below_alloc | apply pw_below_drewN | apply below_drew1 | refine below_set ?_ GE274.out) | exact HB.out))) : w.heap.size ≤ gb284)); have n7_ := Aside0.mk ((by rw [hg]; exact Nat.ne_of_lt (blk_lt (g := gb274) (o := .cells #[.int .i64 t266, .int .i64 t267, .int .i64 t268, .int .i64 t269, .int .u32 t270, .int .u32 t271, .int .i64 t272] 35 (0, 0)) (by (with_reducible repeat (first | refine blk_drewN ?_ _ | refine blk_drew ?_ | refine blk_alloc ?_ _)); exact BK274.out)) : gb274 ≠ gb284)); have n8_ := Aside0.mk ((by rw [hg]; exact Nat.ne_of_gt (blk_lt (g := gb274) (o := .cells #[.int .i64 t266, .int .i64 t267, .int .i64 t268, .int .i64 t269, .int .u32 t270, .int .u32 t271, .int .i64 t272] 35 (0, 0)) (by (with_reducible repeat (first | refine blk_drewN ?_ _ | refine blk_drew ?_ | refine blk_alloc ?_ _)); exact BK274.out)) : gb284 ≠ gb274)); clear HO_5; clear HO_6; clear BK274; clear HB; have HO_5 := n0_; have HO_6 := n1_; have BK274 := n2_; have HB := n3_; have BK284 := n4_; have GW284 := n5_; have GE284 := n6_; have NB274_284 := n7_; have NB284_274 := n8_; clear n0_ n1_ n2_ n3_ n4_ n5_ n6_ n7_ n8_; clear hb hbox hg; have hnb16 := NB284_274.out; have hnc16 := NB274_284.out; have hcz17_0 : w15.cell? ⟨gb284, 0, none⟩ = some (.int .i64 0) := (blk_cell BK284.out 0).trans rfl; have hcz17_1 : w15.cell? ⟨gb284, 1, none⟩ = some (.int .i64 0) := (blk_cell BK284.out 1).trans rfl; have hcz17_2 : w15.cell? ⟨gb284, 2, none⟩ = some (.int .i64 0) := (blk_cell BK284.out 2).trans rfl; have hcz17_3 : w15.cell? ⟨gb284, 3, none⟩ = some (.int .i64 0) := (blk_cell BK284.out 3).trans rfl; have hcz17_4 : w15.cell? ⟨gb284, 4, none⟩ = some (.int .u32 0) := (blk_cell BK284.out 4).trans rfl; have hcz17_5 : w15.cell? ⟨gb284, 5, none⟩ = some (.int .u32 0) := (blk_cell BK284.out 5).trans rfl; have hcz17_6 : w15.cell? ⟨gb284, 6, none⟩ = some (.int .i64 0) := (blk_cell BK284.out 6).trans rfl; have hfz17_0 := blk_frozen BK284.out 0; have hfz17_1 := blk_frozen BK284.out 1; have hfz17_2 := blk_frozen BK284.out 2; have hfz17_3 := blk_frozen BK284.out 3; have hfz17_4 := blk_frozen BK284.out 4; have hfz17_5 := blk_frozen BK284.out 5; have hfz17_6 := blk_frozen BK284.out 6))
          (try simp only [Act.put, List.setIfInBounds_toArray, List.set_cons_zero, List.set_cons_succ])
          go_cut [43] (fun v43 wc => ∃ (kq : Nat) (x43_8 : Bool), v43 = .bool x43_8 ∧ Aside0 (waystoneref14_Diff.j1 kq l0 l1 x5_1 t262 x7_1 t273 t283 x43_8 t266 t267 t268 t269 t270 t271 t272 t276 t277 t278 t279 t280 t281 t282 = some r) ∧ Aside0 (kq ≤ k1) ∧ Aside0 (Kd.R k37 37 wc w.heap.size (fun _ => True) u5 x5_1) ∧ Aside0 (Kd.R (Kd.int .i64) 3 wc w.heap.size (fun _ => True) (.slice (some ad265) t262.length co10) t262) ∧ Aside0 (wc.heap[gb274]? = some (.cells #[.int .i64 t266, .int .i64 t267, .int .i64 t268, .int .i64 t269, .int .u32 t270, .int .u32 t271, .int .i64 t272] 35 (0, 0))) ∧ Aside0 (wc.heap[gb284]? = some (.cells #[.int .i64 t276, .int .i64 t277, .int .i64 t278, .int .i64 t279, .int .u32 t280, .int .u32 t281, .int .i64 t282] 35 (0, 0))) ∧ Aside0 (Below w.heap.size w wc))
          case first =>
            have H := HC9.out
            clear HC9
            by_cases c18 : t273 = true
            · subst c18
              have H1 : (waystoneref14_Diff.j1 k1 l0 l1 x5_1 t262 x7_1 true t283 (!t283) t266 t267 t268 t269 t270 t271 t272 t276 t277 t278 t279 t280 t281 t282) = some r := by rw [if_pos rfl] at H; exact H
              clear H
              have H := H1
              clear H1
              have H' := Aside0.mk H
              clear H
              go_wp2
              go_meet
              case rel => exact ⟨_, (!t283), (by first | rfl | (simp; done) | (simp [*]; done)), H', ⟨by have := HK1.out; first | omega | exact Nat.le_refl _⟩, ⟨by (with_reducible repeat (first | apply Kd.R_alloc | apply Kd.R_drewN | apply Kd.R_drew)); exact Kd.R_mono (Kd.R_far (p := ⟨gb284, 6, none⟩) (Kd.R_far (p := ⟨gb284, 5, none⟩) (Kd.R_far (p := ⟨gb284, 4, none⟩) (Kd.R_far (p := ⟨gb284, 3, none⟩) (Kd.R_far (p := ⟨gb284, 2, none⟩) (Kd.R_far (p := ⟨gb284, 1, none⟩) (Kd.R_far (p := ⟨gb284, 0, none⟩) (Kd.R_types HO_5.out BK284.out (by decide)) (fun _ hk => hk.2) (.int .i64 t276)) (fun _ hk => hk.2) (.int .i64 t277)) (fun _ hk => hk.2) (.int .i64 t278)) (fun _ hk => hk.2) (.int .i64 t279)) (fun _ hk => hk.2) (.int .u32 t280)) (fun _ hk => hk.2) (.int .u32 t281)) (fun _ hk => hk.2) (.int .i64 t282)) (fun _ hk => trivial)⟩, ⟨by (with_reducible repeat (first | apply Kd.R_alloc | apply Kd.R_drewN | apply Kd.R_drew)); exact Kd.R_mono (Kd.R_far (p := ⟨gb284, 6, none⟩) (Kd.R_far (p := ⟨gb284, 5, none⟩) (Kd.R_far (p := ⟨gb284, 4, none⟩) (Kd.R_far (p := ⟨gb284, 3, none⟩) (Kd.R_far (p := ⟨gb284, 2, none⟩) (Kd.R_far (p := ⟨gb284, 1, none⟩) (Kd.R_far (p := ⟨gb284, 0, none⟩) (Kd.R_types HO_6.out BK284.out (by decide)) (fun _ hk => hk.2) (.int .i64 t276)) (fun _ hk => hk.2) (.int .i64 t277)) (fun _ hk => hk.2) (.int .i64 t278)) (fun _ hk => hk.2) (.int .i64 t279)) (fun _ hk => hk.2) (.int .u32 t280)) (fun _ hk => hk.2) (.int .u32 t281)) (fun _ hk => hk.2) (.int .i64 t282)) (fun _ hk => trivial)⟩, ⟨by (with_reducible repeat (first | refine blk_drewN ?_ _ | refine blk_drew ?_ | refine blk_alloc ?_ _)); refine blk_far ?_ NB274_284.out _; (with_reducible repeat (first | refine blk_drewN ?_ _ | refine blk_drew ?_ | refine blk_alloc ?_ _)); refine blk_far ?_ NB274_284.out _; (with_reducible repeat (first | refine blk_drewN ?_ _ | refine blk_drew ?_ | refine blk_alloc ?_ _)); refine blk_far ?_ NB274_284.out _; (with_reducible repeat (first | refine blk_drewN ?_ _ | refine blk_drew ?_ | refine blk_alloc ?_ _)); refine blk_far ?_ NB274_284.out _; (with_reducible repeat (first | refine blk_drewN ?_ _ | refine blk_drew ?_ | refine blk_alloc ?_ _)); refine blk_far ?_ NB274_284.out _; (with_reducible repeat (first | refine blk_drewN ?_ _ | refine blk_drew ?_ | refine blk_alloc ?_ _)); refine blk_far ?_ NB274_284.out _; (with_reducible repeat (first | refine blk_drewN ?_ _ | refine blk_drew ?_ | refine blk_alloc ?_ _)); refine blk_far ?_ NB274_284.out _; (with_reducible repeat (first | refine blk_drewN ?_ _ | refine blk_drew ?_ | refine blk_alloc ?_ _)); exact BK274.out⟩, ⟨by (with_reducible repeat (first | refine blk_drewN ?_ _ | refine blk_drew ?_ | refine blk_alloc ?_ _)); refine blk_put (cs := #[.int .i64 t276, .int .i64 t277, .int .i64 t278, .int .i64 t279, .int .u32 t280, .int .u32 t281, .int .i64 0]) ?_ 6 _ rfl; (with_reducible repeat (first | refine blk_drewN ?_ _ | refine blk_drew ?_ | refine blk_alloc ?_ _)); refine blk_put (cs := #[.int .i64 t276, .int .i64 t277, .int .i64 t278, .int .i64 t279, .int .u32 t280, .int .u32 0, .int .i64 0]) ?_ 5 _ rfl; (with_reducible repeat (first | refine blk_drewN ?_ _ | refine blk_drew ?_ | refine blk_alloc ?_ _)); refine blk_put (cs := #[.int .i64 t276, .int .i64 t277, .int .i64 t278, .int .i64 t279, .int .u32 0, .int .u32 0, .int .i64 0]) ?_ 4 _ rfl; (with_reducible repeat (first | refine blk_drewN ?_ _ | refine blk_drew ?_ | refine blk_alloc ?_ _)); refine blk_put (cs := #[.int .i64 t276, .int .i64 t277, .int .i64 t278, .int .i64 0, .int .u32 0, .int .u32 0, .int .i64 0]) ?_ 3 _ rfl; (with_reducible repeat (first | refine blk_drewN ?_ _ | refine blk_drew ?_ | refine blk_alloc ?_ _)); refine blk_put (cs := #[.int .i64 t276, .int .i64 t277, .int .i64 0, .int .i64 0, .int .u32 0, .int .u32 0, .int .i64 0]) ?_ 2 _ rfl; (with_reducible repeat (first | refine blk_drewN ?_ _ | refine blk_drew ?_ | refine blk_alloc ?_ _)); refine blk_put (cs := #[.int .i64 t276, .int .i64 0, .int .i64 0, .int .i64 0, .int .u32 0, .int .u32 0, .int .i64 0]) ?_ 1 _ rfl; (with_reducible repeat (first | refine blk_drewN ?_ _ | refine blk_drew ?_ | refine blk_alloc ?_ _)); refine blk_put (cs := #[.int .i64 0, .int .i64 0, .int .i64 0, .int .i64 0, .int .u32 0, .int .u32 0, .int .i64 0]) ?_ 0 _ rfl; (with_reducible repeat (first | refine blk_drewN ?_ _ | refine blk_drew ?_ | refine blk_alloc ?_ _)); exact BK284.out⟩, ⟨by repeat (first | (with_reducible first | exact HB.out | apply below_alloc | apply pw_below_drewN | apply below_drew1 | refine below_set ?_ GE274.out | refine below_set ?_ GE284.out) | exact HB.out)⟩⟩
            · replace c18 := Bool.eq_false_iff.mpr c18
              subst c18
              have H1 : (waystoneref14_Diff.j1 k1 l0 l1 x5_1 t262 x7_1 false t283 false t266 t267 t268 t269 t270 t271 t272 t276 t277 t278 t279 t280 t281 t282) = some r := by rw [if_neg (show ¬ (false = true) by decide)] at H; exact H
              clear H
              have H := H1
              clear H1
              have H' := Aside0.mk H
              clear H
              go_wp2
              go_meet
              case rel => exact ⟨_, (false), (by first | rfl | (simp; done) | (simp [*]; done)), H', ⟨by have := HK1.out; first | omega | exact Nat.le_refl _⟩, ⟨by (with_reducible repeat (first | apply Kd.R_alloc | apply Kd.R_drewN | apply Kd.R_drew)); exact Kd.R_mono (Kd.R_far (p := ⟨gb284, 6, none⟩) (Kd.R_far (p := ⟨gb284, 5, none⟩) (Kd.R_far (p := ⟨gb284, 4, none⟩) (Kd.R_far (p := ⟨gb284, 3, none⟩) (Kd.R_far (p := ⟨gb284, 2, none⟩) (Kd.R_far (p := ⟨gb284, 1, none⟩) (Kd.R_far (p := ⟨gb284, 0, none⟩) (Kd.R_types HO_5.out BK284.out (by decide)) (fun _ hk => hk.2) (.int .i64 t276)) (fun _ hk => hk.2) (.int .i64 t277)) (fun _ hk => hk.2) (.int .i64 t278)) (fun _ hk => hk.2) (.int .i64 t279)) (fun _ hk => hk.2) (.int .u32 t280)) (fun _ hk => hk.2) (.int .u32 t281)) (fun _ hk => hk.2) (.int .i64 t282)) (fun _ hk => trivial)⟩, ⟨by (with_reducible repeat (first | apply Kd.R_alloc | apply Kd.R_drewN | apply Kd.R_drew)); exact Kd.R_mono (Kd.R_far (p := ⟨gb284, 6, none⟩) (Kd.R_far (p := ⟨gb284, 5, none⟩) (Kd.R_far (p := ⟨gb284, 4, none⟩) (Kd.R_far (p := ⟨gb284, 3, none⟩) (Kd.R_far (p := ⟨gb284, 2, none⟩) (Kd.R_far (p := ⟨gb284, 1, none⟩) (Kd.R_far (p := ⟨gb284, 0, none⟩) (Kd.R_types HO_6.out BK284.out (by decide)) (fun _ hk => hk.2) (.int .i64 t276)) (fun _ hk => hk.2) (.int .i64 t277)) (fun _ hk => hk.2) (.int .i64 t278)) (fun _ hk => hk.2) (.int .i64 t279)) (fun _ hk => hk.2) (.int .u32 t280)) (fun _ hk => hk.2) (.int .u32 t281)) (fun _ hk => hk.2) (.int .i64 t282)) (fun _ hk => trivial)⟩, ⟨by (with_reducible repeat (first | refine blk_drewN ?_ _ | refine blk_drew ?_ | refine blk_alloc ?_ _)); refine blk_far ?_ NB274_284.out _; (with_reducible repeat (first | refine blk_drewN ?_ _ | refine blk_drew ?_ | refine blk_alloc ?_ _)); refine blk_far ?_ NB274_284.out _; (with_reducible repeat (first | refine blk_drewN ?_ _ | refine blk_drew ?_ | refine blk_alloc ?_ _)); refine blk_far ?_ NB274_284.out _; (with_reducible repeat (first | refine blk_drewN ?_ _ | refine blk_drew ?_ | refine blk_alloc ?_ _)); refine blk_far ?_ NB274_284.out _; (with_reducible repeat (first | refine blk_drewN ?_ _ | refine blk_drew ?_ | refine blk_alloc ?_ _)); refine blk_far ?_ NB274_284.out _; (with_reducible repeat (first | refine blk_drewN ?_ _ | refine blk_drew ?_ | refine blk_alloc ?_ _)); refine blk_far ?_ NB274_284.out _; (with_reducible repeat (first | refine blk_drewN ?_ _ | refine blk_drew ?_ | refine blk_alloc ?_ _)); refine blk_far ?_ NB274_284.out _; (with_reducible repeat (first | refine blk_drewN ?_ _ | refine blk_drew ?_ | refine blk_alloc ?_ _)); exact BK274.out⟩, ⟨by (with_reducible repeat (first | refine blk_drewN ?_ _ | refine blk_drew ?_ | refine blk_alloc ?_ _)); refine blk_put (cs := #[.int .i64 t276, .int .i64 t277, .int .i64 t278, .int .i64 t279, .int .u32 t280, .int .u32 t281, .int .i64 0]) ?_ 6 _ rfl; (with_reducible repeat (first | refine blk_drewN ?_ _ | refine blk_drew ?_ | refine blk_alloc ?_ _)); refine blk_put (cs := #[.int .i64 t276, .int .i64 t277, .int .i64 t278, .int .i64 t279, .int .u32 t280, .int .u32 0, .int .i64 0]) ?_ 5 _ rfl; (with_reducible repeat (first | refine blk_drewN ?_ _ | refine blk_drew ?_ | refine blk_alloc ?_ _)); refine blk_put (cs := #[.int .i64 t276, .int .i64 t277, .int .i64 t278, .int .i64 t279, .int .u32 0, .int .u32 0, .int .i64 0]) ?_ 4 _ rfl; (with_reducible repeat (first | refine blk_drewN ?_ _ | refine blk_drew ?_ | refine blk_alloc ?_ _)); refine blk_put (cs := #[.int .i64 t276, .int .i64 t277, .int .i64 t278, .int .i64 0, .int .u32 0, .int .u32 0, .int .i64 0]) ?_ 3 _ rfl; (with_reducible repeat (first | refine blk_drewN ?_ _ | refine blk_drew ?_ | refine blk_alloc ?_ _)); refine blk_put (cs := #[.int .i64 t276, .int .i64 t277, .int .i64 0, .int .i64 0, .int .u32 0, .int .u32 0, .int .i64 0]) ?_ 2 _ rfl; (with_reducible repeat (first | refine blk_drewN ?_ _ | refine blk_drew ?_ | refine blk_alloc ?_ _)); refine blk_put (cs := #[.int .i64 t276, .int .i64 0, .int .i64 0, .int .i64 0, .int .u32 0, .int .u32 0, .int .i64 0]) ?_ 1 _ rfl; (with_reducible repeat (first | refine blk_drewN ?_ _ | refine blk_drew ?_ | refine blk_alloc ?_ _)); refine blk_put (cs := #[.int .i64 0, .int .i64 0, .int .i64 0, .int .i64 0, .int .u32 0, .int .u32 0, .int .i64 0]) ?_ 0 _ rfl; (with_reducible repeat (first | refine blk_drewN ?_ _ | refine blk_drew ?_ | refine blk_alloc ?_ _)); exact BK284.out⟩, ⟨by repeat (first | (with_reducible first | exact HB.out | apply below_alloc | apply pw_below_drewN | apply below_drew1 | refine below_set ?_ GE274.out | refine below_set ?_ GE284.out) | exact HB.out)⟩⟩
          case rest =>
            clear HC9
            try clear c1
            try clear c2
            try clear p2
            try clear q2
            try clear hx2
            try clear c5
            try clear c5b0
            try clear c6
            try clear c6b0
            try clear c12
            try clear c16
            try clear c18
            try clear hcz13_0
            try clear hcz13_1
            try clear hcz13_2
            try clear hcz13_3
            try clear hcz13_4
            try clear hcz13_5
            try clear hcz13_6
            try clear hcz17_0
            try clear hcz17_1
            try clear hcz17_2
            try clear hcz17_3
            try clear hcz17_4
            try clear hcz17_5
            try clear hcz17_6
            try clear hfz13_0
            try clear hfz13_1
            try clear hfz13_2
            try clear hfz13_3
            try clear hfz13_4
            try clear hfz13_5
            try clear hfz13_6
            try clear hfz17_0
            try clear hfz17_1
            try clear hfz17_2
            try clear hfz17_3
            try clear hfz17_4
            try clear hfz17_5
            try clear hfz17_6
            try clear hx265_0
            try clear hx275_0
            try clear p2
            try clear p265
            try clear p275
            try clear q265
            try clear q275
            obtain ⟨kq, x43_8, rfl, HA, HJ8, HO_5, HO_6, BK274, BK284, HB⟩ := hcut
            cases kq with
            | zero => exact absurd HA.out (by simp [waystoneref14_Diff.j1])
            | succ kj8 =>
              have H := HA.out
              clear HA
              simp only [waystoneref14_Diff.j1] at H
              have HC19 := Aside0.mk H
              clear H
              go_upto_if 43 with (fail)
              go_cut [5] (fun v5 wc => ∃ (kq : Nat) (x5_18 : List (S37)), Aside0 (waystoneref14_Diff.j2 kq l0 l1 x5_18 t262 x7_1 t273 t283 t266 t267 t268 t269 t270 t271 t272 t276 t277 t278 t279 t280 t281 t282 = some r) ∧ Aside0 (kq ≤ kj8) ∧ Aside0 (Kd.R k37 37 wc w.heap.size (fun _ => True) v5 x5_18) ∧ Aside0 (Kd.R (Kd.int .i64) 3 wc w.heap.size (fun _ => True) (.slice (some ad265) t262.length co10) t262) ∧ Aside0 (wc.heap[gb274]? = some (.cells #[.int .i64 t266, .int .i64 t267, .int .i64 t268, .int .i64 t269, .int .u32 t270, .int .u32 t271, .int .i64 t272] 35 (0, 0))) ∧ Aside0 (wc.heap[gb284]? = some (.cells #[.int .i64 t276, .int .i64 t277, .int .i64 t278, .int .i64 t279, .int .u32 t280, .int .u32 t281, .int .i64 t282] 35 (0, 0))) ∧ Aside0 (Below w.heap.size w wc))
              case first =>
                have H := HC19.out
                clear HC19
                by_cases c20 : x43_8 = true
                · subst c20
                  have H1 : (if x5_1.length < 2513169434916 then (waystoneref14_Diff.j2 kj8 l0 l1 (x5_1 ++ [(⟨1, (⟨t266, t267, t268, t269, (⟨t270, t271⟩ : S33), t272⟩ : S35)⟩ : S37)]) t262 x7_1 t273 t283 t266 t267 t268 t269 t270 t271 t272 t276 t277 t278 t279 t280 t281 t282) else (none)) = some r := by rw [if_pos rfl] at H; exact H
                  clear H
                  have H := H1
                  clear H1
                  by_cases c21 : x5_1.length < 2513169434916
                  · rw [if_pos c21] at H
                    have LMc21 := Aside0.mk c21
                    clear c21
                    obtain ⟨y285, hy285⟩ : ∃ y_ : List (S37), y_ = (x5_1 ++ [(⟨1, (⟨t266, t267, t268, t269, (⟨t270, t271⟩ : S33), t272⟩ : S35)⟩ : S37)]) := ⟨_, rfl⟩
                    replace H : (waystoneref14_Diff.j2 kj8 l0 l1 y285 t262 x7_1 t273 t283 t266 t267 t268 t269 t270 t271 t272 t276 t277 t278 t279 t280 t281 t282) = some r := by first | (rw [hy285]; with_reducible exact H) | (have H2_ := (Option.bind_some _ _).symm.trans H; rw [hy285]; with_reducible exact H2_) | (have H2_ := (Option.bind_some _ _).symm.trans H; with_reducible exact H2_) | with_reducible exact H | (rw [hy285]; exact H) | exact H
                    have Ny285 := Aside0.mk hy285
                    clear hy285
                    have H' := Aside0.mk H
                    clear H
                    have hnb22 := NB274_284.out
                    have hnc22 := NB284_274.out
                    have hcz23_0 : wc.cell? ⟨gb274, 0, none⟩ = some (.int .i64 t266) := (blk_cell BK274.out 0).trans rfl
                    have hcz23_1 : wc.cell? ⟨gb274, 1, none⟩ = some (.int .i64 t267) := (blk_cell BK274.out 1).trans rfl
                    have hcz23_2 : wc.cell? ⟨gb274, 2, none⟩ = some (.int .i64 t268) := (blk_cell BK274.out 2).trans rfl
                    have hcz23_3 : wc.cell? ⟨gb274, 3, none⟩ = some (.int .i64 t269) := (blk_cell BK274.out 3).trans rfl
                    have hcz23_4 : wc.cell? ⟨gb274, 4, none⟩ = some (.int .u32 t270) := (blk_cell BK274.out 4).trans rfl
                    have hcz23_5 : wc.cell? ⟨gb274, 5, none⟩ = some (.int .u32 t271) := (blk_cell BK274.out 5).trans rfl
                    have hcz23_6 : wc.cell? ⟨gb274, 6, none⟩ = some (.int .i64 t272) := (blk_cell BK274.out 6).trans rfl
                    have hfz23_0 := blk_frozen BK274.out 0
                    have hfz23_1 := blk_frozen BK274.out 1
                    have hfz23_2 := blk_frozen BK274.out 2
                    have hfz23_3 := blk_frozen BK274.out 3
                    have hfz23_4 := blk_frozen BK274.out 4
                    have hfz23_5 := blk_frozen BK274.out 5
                    have hfz23_6 := blk_frozen BK274.out 6
                    go_wp2_with (first | ((with_reducible refine gate_builtin (b := .append) (xs := #[.tmp 44, .tmp 47]) rfl ?_); at_builtin; refine Kd.R_append k37 (w0 := w) w.heap.size rfl (.tmp 44) (.tmp 47) 26 37 (.agg #[(.int .i64 0), (.int .i64 0), (.int .i64 0), (.int .i64 0), (.int .i64 0), (.int .u32 0), (.int .u32 0), (.int .i64 0)]) 56 rfl Try.underlying26 info37 rfl (by decide) (by omega) u5 x5_1 (⟨1, (⟨t266, t267, t268, t269, (⟨t270, t271⟩ : S33), t272⟩ : S35)⟩ : S37) [.int .i64 1, .int .i64 t266, .int .i64 t267, .int .i64 t268, .int .i64 t269, .int .u32 t270, .int .u32 t271, .int .i64 t272] (fun _ => True) (fun _ => False) rfl rfl ?aP (fun _ hk => hk.elim) ?aF ?aO ?aB ?aS ?aL ?_; (case aP => exact k37_mkM _ _ _ (⟨1, (⟨t266, t267, t268, t269, (⟨t270, t271⟩ : S33), t272⟩ : S35)⟩ : S37)); (case aB => exact (by repeat (first | (with_reducible first | exact HB.out | apply below_alloc | apply pw_below_drewN | apply below_drew1 | refine below_set ?_ GE274.out | refine below_set ?_ GE284.out) | exact HB.out))); (case aF => exact (fun _ _ => trivial)); (case aO => exact (by (with_reducible repeat (first | apply Kd.R_alloc | apply Kd.R_drewN | apply Kd.R_drew)); exact HO_5.out)); (case aS => exact (below_size (by repeat (first | (with_reducible first | exact HB.out | apply below_alloc | apply pw_below_drewN | apply below_drew1 | refine below_set ?_ GE274.out | refine below_set ?_ GE284.out) | exact HB.out)))); (case aL => have := LMc21.out; omega); intro v286 w24 ho hb hg hat; rw [← Ny285.out] at ho; have n0_ := Aside0.mk (Kd.R_over' (by (with_reducible repeat (first | apply Kd.R_alloc | apply Kd.R_drewN | apply Kd.R_drew)); exact HO_6.out) (Kd.R_typed (by (with_reducible repeat (first | apply Kd.R_alloc | apply Kd.R_drewN | apply Kd.R_drew)); exact HO_5.out)) (by decide) hg); have n1_ := Aside0.mk (blk_grown (g := gb274) (o := .cells #[.int .i64 t266, .int .i64 t267, .int .i64 t268, .int .i64 t269, .int .u32 t270, .int .u32 t271, .int .i64 t272] 35 (0, 0)) (by (with_reducible repeat (first | refine blk_drewN ?_ _ | refine blk_drew ?_ | refine blk_alloc ?_ _)); exact BK274.out) hg (Kd.R_ne HO_5.out BK274.out (by decide))); have n2_ := Aside0.mk (blk_grown (g := gb284) (o := .cells #[.int .i64 t276, .int .i64 t277, .int .i64 t278, .int .i64 t279, .int .u32 t280, .int .u32 t281, .int .i64 t282] 35 (0, 0)) (by (with_reducible repeat (first | refine blk_drewN ?_ _ | refine blk_drew ?_ | refine blk_alloc ?_ _)); exact BK284.out) hg (Kd.R_ne HO_5.out BK284.out (by decide))); have n3_ := Aside0.mk (hb); have n4_ := Aside0.mk (ho); clear HO_6; clear BK274; clear BK284; clear HB; clear HO_5; have HO_6 := n0_; have BK274 := n1_; have BK284 := n2_; have HB := n3_; have HO287 := n4_; clear n0_ n1_ n2_ n3_ n4_; clear ho hb hg hat))
                    go_meet
                    case rel => exact ⟨_, (y285), H', ⟨by have := HK1.out; have := HJ8.out; first | omega | exact Nat.le_refl _⟩, ⟨by (with_reducible repeat (first | apply Kd.R_alloc | apply Kd.R_drewN | apply Kd.R_drew)); exact HO287.out⟩, ⟨by (with_reducible repeat (first | apply Kd.R_alloc | apply Kd.R_drewN | apply Kd.R_drew)); exact HO_6.out⟩, ⟨by (with_reducible repeat (first | refine blk_drewN ?_ _ | refine blk_drew ?_ | refine blk_alloc ?_ _)); exact BK274.out⟩, ⟨by (with_reducible repeat (first | refine blk_drewN ?_ _ | refine blk_drew ?_ | refine blk_alloc ?_ _)); exact BK284.out⟩, ⟨by repeat (first | (with_reducible first | exact HB.out | apply below_alloc | apply pw_below_drewN | apply below_drew1 | refine below_set ?_ GE274.out | refine below_set ?_ GE284.out) | exact HB.out)⟩⟩
                  · rw [if_neg c21] at H
                    exact absurd H (by simp)
                · replace c20 := Bool.eq_false_iff.mpr c20
                  subst c20
                  have H1 : (waystoneref14_Diff.j2 kj8 l0 l1 x5_1 t262 x7_1 t273 t283 t266 t267 t268 t269 t270 t271 t272 t276 t277 t278 t279 t280 t281 t282) = some r := by rw [if_neg (show ¬ (false = true) by decide)] at H; exact H
                  clear H
                  have H := H1
                  clear H1
                  have H' := Aside0.mk H
                  clear H
                  go_wp2
                  go_meet
                  case rel => exact ⟨_, (x5_1), H', ⟨by have := HK1.out; have := HJ8.out; first | omega | exact Nat.le_refl _⟩, ⟨by (with_reducible repeat (first | apply Kd.R_alloc | apply Kd.R_drewN | apply Kd.R_drew)); exact HO_5.out⟩, ⟨by (with_reducible repeat (first | apply Kd.R_alloc | apply Kd.R_drewN | apply Kd.R_drew)); exact HO_6.out⟩, ⟨by (with_reducible repeat (first | refine blk_drewN ?_ _ | refine blk_drew ?_ | refine blk_alloc ?_ _)); exact BK274.out⟩, ⟨by (with_reducible repeat (first | refine blk_drewN ?_ _ | refine blk_drew ?_ | refine blk_alloc ?_ _)); exact BK284.out⟩, ⟨by repeat (first | (with_reducible first | exact HB.out | apply below_alloc | apply pw_below_drewN | apply below_drew1 | refine below_set ?_ GE274.out | refine below_set ?_ GE284.out) | exact HB.out)⟩⟩
              case rest =>
                clear HC19
                try clear c1
                try clear c2
                try clear p2
                try clear q2
                try clear hx2
                try clear c5
                try clear c5b0
                try clear c6
                try clear c6b0
                try clear c12
                try clear c16
                try clear c18
                try clear c20
                try clear c21
                try clear c22
                try clear hcz13_0
                try clear hcz13_1
                try clear hcz13_2
                try clear hcz13_3
                try clear hcz13_4
                try clear hcz13_5
                try clear hcz13_6
                try clear hcz17_0
                try clear hcz17_1
                try clear hcz17_2
                try clear hcz17_3
                try clear hcz17_4
                try clear hcz17_5
                try clear hcz17_6
                try clear hcz23_0
                try clear hcz23_1
                try clear hcz23_2
                try clear hcz23_3
                try clear hcz23_4
                try clear hcz23_5
                try clear hcz23_6
                try clear hfz13_0
                try clear hfz13_1
                try clear hfz13_2
                try clear hfz13_3
                try clear hfz13_4
                try clear hfz13_5
                try clear hfz13_6
                try clear hfz17_0
                try clear hfz17_1
                try clear hfz17_2
                try clear hfz17_3
                try clear hfz17_4
                try clear hfz17_5
                try clear hfz17_6
                try clear hfz23_0
                try clear hfz23_1
                try clear hfz23_2
                try clear hfz23_3
                try clear hfz23_4
                try clear hfz23_5
                try clear hfz23_6
                try clear hx265_0
                try clear hx275_0
                try clear p2
                try clear p265
                try clear p275
                try clear q2
                try clear q265
                try clear q275
                obtain ⟨kq, x5_18, HA, HJ18, HO_5, HO_6, BK274, BK284, HB⟩ := hcut
                cases kq with
                | zero => exact absurd HA.out (by simp [waystoneref14_Diff.j2])
                | succ kj18 =>
                  have H := HA.out
                  clear HA
                  simp only [waystoneref14_Diff.j2] at H
                  have HC25 := Aside0.mk H
                  clear H
                  go_upto_region 10 with (fail)
                  go_cut [53] (fun v53 wc => ∃ (kq : Nat) (x53_24 : Bool), v53 = .bool x53_24 ∧ Aside0 (waystoneref14_Diff.j3 kq l0 l1 x5_18 t262 x7_1 t273 t283 x53_24 t266 t267 t268 t269 t270 t271 t272 t276 t277 t278 t279 t280 t281 t282 = some r) ∧ Aside0 (kq ≤ kj18) ∧ Aside0 (Kd.R k37 37 wc w.heap.size (fun _ => True) u5 x5_18) ∧ Aside0 (Kd.R (Kd.int .i64) 3 wc w.heap.size (fun _ => True) (.slice (some ad265) t262.length co10) t262) ∧ Aside0 (wc.heap[gb274]? = some (.cells #[.int .i64 t266, .int .i64 t267, .int .i64 t268, .int .i64 t269, .int .u32 t270, .int .u32 t271, .int .i64 t272] 35 (0, 0))) ∧ Aside0 (wc.heap[gb284]? = some (.cells #[.int .i64 t276, .int .i64 t277, .int .i64 t278, .int .i64 t279, .int .u32 t280, .int .u32 t281, .int .i64 t282] 35 (0, 0))) ∧ Aside0 (Below w.heap.size w wc))
                  case first =>
                    have H := HC25.out
                    clear HC25
                    by_cases c26 : t273 = true
                    · subst c26
                      have H1 : (waystoneref14_Diff.j3 kj18 l0 l1 x5_18 t262 x7_1 true t283 false t266 t267 t268 t269 t270 t271 t272 t276 t277 t278 t279 t280 t281 t282) = some r := by rw [if_pos rfl] at H; exact H
                      clear H
                      have H := H1
                      clear H1
                      have H' := Aside0.mk H
                      clear H
                      go_wp2
                      go_meet
                      case rel => exact ⟨_, (false), (by first | rfl | (simp; done) | (simp [*]; done)), H', ⟨by have := HK1.out; have := HJ8.out; have := HJ18.out; first | omega | exact Nat.le_refl _⟩, ⟨by (with_reducible repeat (first | apply Kd.R_alloc | apply Kd.R_drewN | apply Kd.R_drew)); exact HO_5.out⟩, ⟨by (with_reducible repeat (first | apply Kd.R_alloc | apply Kd.R_drewN | apply Kd.R_drew)); exact HO_6.out⟩, ⟨by (with_reducible repeat (first | refine blk_drewN ?_ _ | refine blk_drew ?_ | refine blk_alloc ?_ _)); exact BK274.out⟩, ⟨by (with_reducible repeat (first | refine blk_drewN ?_ _ | refine blk_drew ?_ | refine blk_alloc ?_ _)); exact BK284.out⟩, ⟨by repeat (first | (with_reducible first | exact HB.out | apply below_alloc | apply pw_below_drewN | apply below_drew1 | refine below_set ?_ GE274.out | refine below_set ?_ GE284.out) | exact HB.out)⟩⟩
                    · replace c26 := Bool.eq_false_iff.mpr c26
                      subst c26
                      have H1 : (waystoneref14_Diff.j3 kj18 l0 l1 x5_18 t262 x7_1 false t283 t283 t266 t267 t268 t269 t270 t271 t272 t276 t277 t278 t279 t280 t281 t282) = some r := by rw [if_neg (show ¬ (false = true) by decide)] at H; exact H
                      clear H
                      have H := H1
                      clear H1
                      have H' := Aside0.mk H
                      clear H
                      go_wp2
                      go_meet
                      case rel => exact ⟨_, (t283), (by first | rfl | (simp; done) | (simp [*]; done)), H', ⟨by have := HK1.out; have := HJ8.out; have := HJ18.out; first | omega | exact Nat.le_refl _⟩, ⟨by (with_reducible repeat (first | apply Kd.R_alloc | apply Kd.R_drewN | apply Kd.R_drew)); exact HO_5.out⟩, ⟨by (with_reducible repeat (first | apply Kd.R_alloc | apply Kd.R_drewN | apply Kd.R_drew)); exact HO_6.out⟩, ⟨by (with_reducible repeat (first | refine blk_drewN ?_ _ | refine blk_drew ?_ | refine blk_alloc ?_ _)); exact BK274.out⟩, ⟨by (with_reducible repeat (first | refine blk_drewN ?_ _ | refine blk_drew ?_ | refine blk_alloc ?_ _)); exact BK284.out⟩, ⟨by repeat (first | (with_reducible first | exact HB.out | apply below_alloc | apply pw_below_drewN | apply below_drew1 | refine below_set ?_ GE274.out | refine below_set ?_ GE284.out) | exact HB.out)⟩⟩
                  case rest =>
                    clear HC25
                    try clear c1
                    try clear c2
                    try clear p2
                    try clear q2
                    try clear hx2
                    try clear c5
                    try clear c5b0
                    try clear c6
                    try clear c6b0
                    try clear c12
                    try clear c16
                    try clear c18
                    try clear c20
                    try clear c21
                    try clear c22
                    try clear c26
                    try clear p26
                    try clear q26
                    try clear hx26
                    try clear hcz13_0
                    try clear hcz13_1
                    try clear hcz13_2
                    try clear hcz13_3
                    try clear hcz13_4
                    try clear hcz13_5
                    try clear hcz13_6
                    try clear hcz17_0
                    try clear hcz17_1
                    try clear hcz17_2
                    try clear hcz17_3
                    try clear hcz17_4
                    try clear hcz17_5
                    try clear hcz17_6
                    try clear hcz23_0
                    try clear hcz23_1
                    try clear hcz23_2
                    try clear hcz23_3
                    try clear hcz23_4
                    try clear hcz23_5
                    try clear hcz23_6
                    try clear hfz13_0
                    try clear hfz13_1
                    try clear hfz13_2
                    try clear hfz13_3
                    try clear hfz13_4
                    try clear hfz13_5
                    try clear hfz13_6
                    try clear hfz17_0
                    try clear hfz17_1
                    try clear hfz17_2
                    try clear hfz17_3
                    try clear hfz17_4
                    try clear hfz17_5
                    try clear hfz17_6
                    try clear hfz23_0
                    try clear hfz23_1
                    try clear hfz23_2
                    try clear hfz23_3
                    try clear hfz23_4
                    try clear hfz23_5
                    try clear hfz23_6
                    try clear hx265_0
                    try clear hx275_0
                    try clear p2
                    try clear p265
                    try clear p275
                    try clear q2
                    try clear q265
                    try clear q275
                    obtain ⟨kq, x53_24, rfl, HA, HJ24, HO_5, HO_6, BK274, BK284, HB⟩ := hcut
                    cases kq with
                    | zero => exact absurd HA.out (by simp [waystoneref14_Diff.j3])
                    | succ kj24 =>
                      have H := HA.out
                      clear HA
                      simp only [waystoneref14_Diff.j3] at H
                      by_cases c27 : x53_24 = true
                      · subst c27
                        have H1 : (if x5_18.length < 2513169434916 then ((some (x5_18 ++ [(⟨0, (⟨t276, t277, t278, t279, (⟨t280, t281⟩ : S33), t282⟩ : S35)⟩ : S37)] : List (S37))).bind fun y288 => (if t273 = true then (if t283 = true then (if (!(t266 == t276) || (!(t267 == t277) || (!(t268 == t278) || (!(t269 == t279) || ((!(t270 == t280) || (!(t271 == t281))) || (!(t272 == t282))))))) = true then (if y288.length < 2513169434916 then (waystoneref14_Diff.l0 kj24 l0 l1 (y288 ++ [(⟨2, (⟨t276, t277, t278, t279, (⟨t280, t281⟩ : S33), t282⟩ : S35)⟩ : S37)]) t262 (wrap64 (x7_1 + 1))) else (none)) else (waystoneref14_Diff.l0 kj24 l0 l1 y288 t262 (wrap64 (x7_1 + 1)))) else (waystoneref14_Diff.l0 kj24 l0 l1 y288 t262 (wrap64 (x7_1 + 1)))) else (waystoneref14_Diff.l0 kj24 l0 l1 y288 t262 (wrap64 (x7_1 + 1))))) else (none)) = some r := by rw [if_pos rfl] at H; exact H
                        clear H
                        have H := H1
                        clear H1
                        by_cases c28 : x5_18.length < 2513169434916
                        · rw [if_pos c28] at H
                          have LMc28 := Aside0.mk c28
                          clear c28
                          obtain ⟨y288, hy288⟩ : ∃ y_ : List (S37), y_ = (x5_18 ++ [(⟨0, (⟨t276, t277, t278, t279, (⟨t280, t281⟩ : S33), t282⟩ : S35)⟩ : S37)]) := ⟨_, rfl⟩
                          replace H : (if t273 = true then (if t283 = true then (if (!(t266 == t276) || (!(t267 == t277) || (!(t268 == t278) || (!(t269 == t279) || ((!(t270 == t280) || (!(t271 == t281))) || (!(t272 == t282))))))) = true then (if y288.length < 2513169434916 then (waystoneref14_Diff.l0 kj24 l0 l1 (y288 ++ [(⟨2, (⟨t276, t277, t278, t279, (⟨t280, t281⟩ : S33), t282⟩ : S35)⟩ : S37)]) t262 (wrap64 (x7_1 + 1))) else (none)) else (waystoneref14_Diff.l0 kj24 l0 l1 y288 t262 (wrap64 (x7_1 + 1)))) else (waystoneref14_Diff.l0 kj24 l0 l1 y288 t262 (wrap64 (x7_1 + 1)))) else (waystoneref14_Diff.l0 kj24 l0 l1 y288 t262 (wrap64 (x7_1 + 1)))) = some r := by first | (rw [hy288]; with_reducible exact H) | (have H2_ := (Option.bind_some _ _).symm.trans H; rw [hy288]; with_reducible exact H2_) | (have H2_ := (Option.bind_some _ _).symm.trans H; with_reducible exact H2_) | with_reducible exact H | (rw [hy288]; exact H) | exact H
                          have Ny288 := Aside0.mk hy288
                          clear hy288
                          by_cases c29 : t273 = true
                          · subst c29
                            have H1 : (if t283 = true then (if (!(t266 == t276) || (!(t267 == t277) || (!(t268 == t278) || (!(t269 == t279) || ((!(t270 == t280) || (!(t271 == t281))) || (!(t272 == t282))))))) = true then (if y288.length < 2513169434916 then (waystoneref14_Diff.l0 kj24 l0 l1 (y288 ++ [(⟨2, (⟨t276, t277, t278, t279, (⟨t280, t281⟩ : S33), t282⟩ : S35)⟩ : S37)]) t262 (wrap64 (x7_1 + 1))) else (none)) else (waystoneref14_Diff.l0 kj24 l0 l1 y288 t262 (wrap64 (x7_1 + 1)))) else (waystoneref14_Diff.l0 kj24 l0 l1 y288 t262 (wrap64 (x7_1 + 1)))) = some r := by rw [if_pos rfl] at H; exact H
                            clear H
                            have H := H1
                            clear H1
                            by_cases c30 : t283 = true
                            · subst c30
                              have H1 : (if (!(t266 == t276) || (!(t267 == t277) || (!(t268 == t278) || (!(t269 == t279) || ((!(t270 == t280) || (!(t271 == t281))) || (!(t272 == t282))))))) = true then (if y288.length < 2513169434916 then (waystoneref14_Diff.l0 kj24 l0 l1 (y288 ++ [(⟨2, (⟨t276, t277, t278, t279, (⟨t280, t281⟩ : S33), t282⟩ : S35)⟩ : S37)]) t262 (wrap64 (x7_1 + 1))) else (none)) else (waystoneref14_Diff.l0 kj24 l0 l1 y288 t262 (wrap64 (x7_1 + 1)))) = some r := by rw [if_pos rfl] at H; exact H
                              clear H
                              have H := H1
                              clear H1
                              by_cases c31 : (!(t266 == t276) || (!(t267 == t277) || (!(t268 == t278) || (!(t269 == t279) || ((!(t270 == t280) || (!(t271 == t281))) || (!(t272 == t282))))))) = true
                              · rw [if_pos c31] at H
                                have c31b0 : (!(t266 == t276) || (!(t267 == t277) || (!(t268 == t278) || (!(t269 == t279) || ((!(t270 == t280) || (!(t271 == t281))) || (!(t272 == t282))))))) = true := c31
                                clear c31
                                by_cases c32 : y288.length < 2513169434916
                                · rw [if_pos c32] at H
                                  have LMc32 := Aside0.mk c32
                                  clear c32
                                  obtain ⟨y291, hy291⟩ : ∃ y_ : List (S37), y_ = (y288 ++ [(⟨2, (⟨t276, t277, t278, t279, (⟨t280, t281⟩ : S33), t282⟩ : S35)⟩ : S37)]) := ⟨_, rfl⟩
                                  replace H : (waystoneref14_Diff.l0 kj24 l0 l1 y291 t262 (wrap64 (x7_1 + 1))) = some r := by first | (rw [hy291]; with_reducible exact H) | (have H2_ := (Option.bind_some _ _).symm.trans H; rw [hy291]; with_reducible exact H2_) | (have H2_ := (Option.bind_some _ _).symm.trans H; with_reducible exact H2_) | with_reducible exact H | (rw [hy291]; exact H) | exact H
                                  have Ny291 := Aside0.mk hy291
                                  clear hy291
                                  have H' := Aside0.mk H
                                  clear H
                                  have hnb33 := NB284_274.out
                                  have hnc33 := NB274_284.out
                                  have hcz34_0 : wc.cell? ⟨gb284, 0, none⟩ = some (.int .i64 t276) := (blk_cell BK284.out 0).trans rfl
                                  have hcz34_1 : wc.cell? ⟨gb284, 1, none⟩ = some (.int .i64 t277) := (blk_cell BK284.out 1).trans rfl
                                  have hcz34_2 : wc.cell? ⟨gb284, 2, none⟩ = some (.int .i64 t278) := (blk_cell BK284.out 2).trans rfl
                                  have hcz34_3 : wc.cell? ⟨gb284, 3, none⟩ = some (.int .i64 t279) := (blk_cell BK284.out 3).trans rfl
                                  have hcz34_4 : wc.cell? ⟨gb284, 4, none⟩ = some (.int .u32 t280) := (blk_cell BK284.out 4).trans rfl
                                  have hcz34_5 : wc.cell? ⟨gb284, 5, none⟩ = some (.int .u32 t281) := (blk_cell BK284.out 5).trans rfl
                                  have hcz34_6 : wc.cell? ⟨gb284, 6, none⟩ = some (.int .i64 t282) := (blk_cell BK284.out 6).trans rfl
                                  have hfz34_0 := blk_frozen BK284.out 0
                                  have hfz34_1 := blk_frozen BK284.out 1
                                  have hfz34_2 := blk_frozen BK284.out 2
                                  have hfz34_3 := blk_frozen BK284.out 3
                                  have hfz34_4 := blk_frozen BK284.out 4
                                  have hfz34_5 := blk_frozen BK284.out 5
                                  have hfz34_6 := blk_frozen BK284.out 6
                                  go_wp2_with (first | ((with_reducible refine gate_builtin (b := .append) (xs := #[.tmp 54, .tmp 57]) rfl ?_); at_builtin; refine Kd.R_append k37 (w0 := w) w.heap.size rfl (.tmp 54) (.tmp 57) 26 37 (.agg #[(.int .i64 0), (.int .i64 0), (.int .i64 0), (.int .i64 0), (.int .i64 0), (.int .u32 0), (.int .u32 0), (.int .i64 0)]) 56 rfl Try.underlying26 info37 rfl (by decide) (by omega) u5 x5_18 (⟨0, (⟨t276, t277, t278, t279, (⟨t280, t281⟩ : S33), t282⟩ : S35)⟩ : S37) [.int .i64 0, .int .i64 t276, .int .i64 t277, .int .i64 t278, .int .i64 t279, .int .u32 t280, .int .u32 t281, .int .i64 t282] (fun _ => True) (fun _ => False) rfl rfl ?aP (fun _ hk => hk.elim) ?aF ?aO ?aB ?aS ?aL ?_; (case aP => exact k37_mkM _ _ _ (⟨0, (⟨t276, t277, t278, t279, (⟨t280, t281⟩ : S33), t282⟩ : S35)⟩ : S37)); (case aB => exact (by repeat (first | (with_reducible first | exact HB.out | apply below_alloc | apply pw_below_drewN | apply below_drew1 | refine below_set ?_ GE274.out | refine below_set ?_ GE284.out) | exact HB.out))); (case aF => exact (fun _ _ => trivial)); (case aO => exact (by (with_reducible repeat (first | apply Kd.R_alloc | apply Kd.R_drewN | apply Kd.R_drew)); exact HO_5.out)); (case aS => exact (below_size (by repeat (first | (with_reducible first | exact HB.out | apply below_alloc | apply pw_below_drewN | apply below_drew1 | refine below_set ?_ GE274.out | refine below_set ?_ GE284.out) | exact HB.out)))); (case aL => have := LMc28.out; omega); intro v289 w35 ho hb hg hat; rw [← Ny288.out] at ho; have n0_ := Aside0.mk (Kd.R_over' (by (with_reducible repeat (first | apply Kd.R_alloc | apply Kd.R_drewN | apply Kd.R_drew)); exact HO_6.out) (Kd.R_typed (by (with_reducible repeat (first | apply Kd.R_alloc | apply Kd.R_drewN | apply Kd.R_drew)); exact HO_5.out)) (by decide) hg); have n1_ := Aside0.mk (blk_grown (g := gb274) (o := .cells #[.int .i64 t266, .int .i64 t267, .int .i64 t268, .int .i64 t269, .int .u32 t270, .int .u32 t271, .int .i64 t272] 35 (0, 0)) (by (with_reducible repeat (first | refine blk_drewN ?_ _ | refine blk_drew ?_ | refine blk_alloc ?_ _)); exact BK274.out) hg (Kd.R_ne HO_5.out BK274.out (by decide))); have n2_ := Aside0.mk (blk_grown (g := gb284) (o := .cells #[.int .i64 t276, .int .i64 t277, .int .i64 t278, .int .i64 t279, .int .u32 t280, .int .u32 t281, .int .i64 t282] 35 (0, 0)) (by (with_reducible repeat (first | refine blk_drewN ?_ _ | refine blk_drew ?_ | refine blk_alloc ?_ _)); exact BK284.out) hg (Kd.R_ne HO_5.out BK284.out (by decide))); have n3_ := Aside0.mk (hb); have n4_ := Aside0.mk (ho); clear HO_6; clear BK274; clear BK284; clear HB; clear HO_5; have HO_6 := n0_; have BK274 := n1_; have BK284 := n2_; have HB := n3_; have HO290 := n4_; clear n0_ n1_ n2_ n3_ n4_; clear ho hb hg hat; have hcz36_0 : w35.cell? ⟨gb274, 0, none⟩ = some (.int .i64 t266) := (blk_cell BK274.out 0).trans rfl; have hcz36_1 : w35.cell? ⟨gb274, 1, none⟩ = some (.int .i64 t267) := (blk_cell BK274.out 1).trans rfl; have hcz36_2 : w35.cell? ⟨gb274, 2, none⟩ = some (.int .i64 t268) := (blk_cell BK274.out 2).trans rfl; have hcz36_3 : w35.cell? ⟨gb274, 3, none⟩ = some (.int .i64 t269) := (blk_cell BK274.out 3).trans rfl; have hcz36_4 : w35.cell? ⟨gb274, 4, none⟩ = some (.int .u32 t270) := (blk_cell BK274.out 4).trans rfl; have hcz36_5 : w35.cell? ⟨gb274, 5, none⟩ = some (.int .u32 t271) := (blk_cell BK274.out 5).trans rfl; have hcz36_6 : w35.cell? ⟨gb274, 6, none⟩ = some (.int .i64 t272) := (blk_cell BK274.out 6).trans rfl; have hfz36_0 := blk_frozen BK274.out 0; have hfz36_1 := blk_frozen BK274.out 1; have hfz36_2 := blk_frozen BK274.out 2; have hfz36_3 := blk_frozen BK274.out 3; have hfz36_4 := blk_frozen BK274.out 4; have hfz36_5 := blk_frozen BK274.out 5; have hfz36_6 := blk_frozen BK274.out 6; have hcz37_0 : w35.cell? ⟨gb284, 0, none⟩ = some (.int .i64 t276) := (blk_cell BK284.out 0).trans rfl; have hcz37_1 : w35.cell? ⟨gb284, 1, none⟩ = some (.int .i64 t277) := (blk_cell BK284.out 1).trans rfl; have hcz37_2 : w35.cell? ⟨gb284, 2, none⟩ = some (.int .i64 t278) := (blk_cell BK284.out 2).trans rfl; have hcz37_3 : w35.cell? ⟨gb284, 3, none⟩ = some (.int .i64 t279) := (blk_cell BK284.out 3).trans rfl; have hcz37_4 : w35.cell? ⟨gb284, 4, none⟩ = some (.int .u32 t280) := (blk_cell BK284.out 4).trans rfl; have hcz37_5 : w35.cell? ⟨gb284, 5, none⟩ = some (.int .u32 t281) := (blk_cell BK284.out 5).trans rfl; have hcz37_6 : w35.cell? ⟨gb284, 6, none⟩ = some (.int .i64 t282) := (blk_cell BK284.out 6).trans rfl; have hfz37_0 := blk_frozen BK284.out 0; have hfz37_1 := blk_frozen BK284.out 1; have hfz37_2 := blk_frozen BK284.out 2; have hfz37_3 := blk_frozen BK284.out 3; have hfz37_4 := blk_frozen BK284.out 4; have hfz37_5 := blk_frozen BK284.out 5; have hfz37_6 := blk_frozen BK284.out 6) | ((with_reducible refine gate_builtin (b := .append) (xs := #[.tmp 68, .tmp 71]) rfl ?_); at_builtin; refine Kd.R_append k37 (w0 := w) w.heap.size rfl (.tmp 68) (.tmp 71) 26 37 (.agg #[(.int .i64 0), (.int .i64 0), (.int .i64 0), (.int .i64 0), (.int .i64 0), (.int .u32 0), (.int .u32 0), (.int .i64 0)]) 56 rfl Try.underlying26 info37 rfl (by decide) (by omega) v289 y288 (⟨2, (⟨t276, t277, t278, t279, (⟨t280, t281⟩ : S33), t282⟩ : S35)⟩ : S37) [.int .i64 2, .int .i64 t276, .int .i64 t277, .int .i64 t278, .int .i64 t279, .int .u32 t280, .int .u32 t281, .int .i64 t282] (fun _ => True) (fun _ => False) rfl rfl ?aP (fun _ hk => hk.elim) ?aF ?aO ?aB ?aS ?aL ?_; (case aP => exact k37_mkM _ _ _ (⟨2, (⟨t276, t277, t278, t279, (⟨t280, t281⟩ : S33), t282⟩ : S35)⟩ : S37)); (case aB => exact (by repeat (first | (with_reducible first | exact HB.out | apply below_alloc | apply pw_below_drewN | apply below_drew1 | refine below_set ?_ GE274.out | refine below_set ?_ GE284.out) | exact HB.out))); (case aF => exact (fun _ _ => trivial)); (case aO => exact (by (with_reducible repeat (first | apply Kd.R_alloc | apply Kd.R_drewN | apply Kd.R_drew)); exact HO290.out)); (case aS => exact (below_size (by repeat (first | (with_reducible first | exact HB.out | apply below_alloc | apply pw_below_drewN | apply below_drew1 | refine below_set ?_ GE274.out | refine below_set ?_ GE284.out) | exact HB.out)))); (case aL => have := LMc32.out; omega); intro v292 w38 ho hb hg hat; rw [← Ny291.out] at ho; have n0_ := Aside0.mk (Kd.R_over' (by (with_reducible repeat (first | apply Kd.R_alloc | apply Kd.R_drewN | apply Kd.R_drew)); exact HO_6.out) (Kd.R_typed (by (with_reducible repeat (first | apply Kd.R_alloc | apply Kd.R_drewN | apply Kd.R_drew)); exact HO290.out)) (by decide) hg); have n1_ := Aside0.mk (blk_grown (g := gb274) (o := .cells #[.int .i64 t266, .int .i64 t267, .int .i64 t268, .int .i64 t269, .int .u32 t270, .int .u32 t271, .int .i64 t272] 35 (0, 0)) (by (with_reducible repeat (first | refine blk_drewN ?_ _ | refine blk_drew ?_ | refine blk_alloc ?_ _)); exact BK274.out) hg (Kd.R_ne HO290.out BK274.out (by decide))); have n2_ := Aside0.mk (blk_grown (g := gb284) (o := .cells #[.int .i64 t276, .int .i64 t277, .int .i64 t278, .int .i64 t279, .int .u32 t280, .int .u32 t281, .int .i64 t282] 35 (0, 0)) (by (with_reducible repeat (first | refine blk_drewN ?_ _ | refine blk_drew ?_ | refine blk_alloc ?_ _)); exact BK284.out) hg (Kd.R_ne HO290.out BK284.out (by decide))); have n3_ := Aside0.mk (hb); have n4_ := Aside0.mk (ho); clear HO_6; clear BK274; clear BK284; clear HB; clear HO290; have HO_6 := n0_; have BK274 := n1_; have BK284 := n2_; have HB := n3_; have HO293 := n4_; clear n0_ n1_ n2_ n3_ n4_; clear ho hb hg hat))
                                  go_roundg kj24
                                  case measure => have := HK1.out; have := HJ8.out; have := HJ18.out; have := HJ24.out; omega
                                  case rel => exact ⟨(y291), (wrap64 (x7_1 + 1)), (by first | rfl | (simp; done) | (simp [*]; done)), H', ⟨by have := HK1.out; have := HJ8.out; have := HJ18.out; have := HJ24.out; omega⟩, ⟨by (with_reducible repeat (first | apply Kd.R_alloc | apply Kd.R_drewN | apply Kd.R_drew)); exact HO293.out⟩, ⟨by (with_reducible repeat (first | apply Kd.R_alloc | apply Kd.R_drewN | apply Kd.R_drew)); exact HO_6.out⟩, ⟨by repeat (first | (with_reducible first | exact HB.out | apply below_alloc | apply pw_below_drewN | apply below_drew1 | refine below_set ?_ GE274.out | refine below_set ?_ GE284.out) | exact HB.out)⟩⟩
                                · rw [if_neg c32] at H
                                  exact absurd H (by simp)
                              · rw [if_neg c31] at H
                                have c31b0 : (!(t266 == t276) || (!(t267 == t277) || (!(t268 == t278) || (!(t269 == t279) || ((!(t270 == t280) || (!(t271 == t281))) || (!(t272 == t282))))))) = false := by simpa using c31
                                clear c31
                                have H' := Aside0.mk H
                                clear H
                                have hnb39 := NB284_274.out
                                have hnc39 := NB274_284.out
                                have hcz40_0 : wc.cell? ⟨gb284, 0, none⟩ = some (.int .i64 t276) := (blk_cell BK284.out 0).trans rfl
                                have hcz40_1 : wc.cell? ⟨gb284, 1, none⟩ = some (.int .i64 t277) := (blk_cell BK284.out 1).trans rfl
                                have hcz40_2 : wc.cell? ⟨gb284, 2, none⟩ = some (.int .i64 t278) := (blk_cell BK284.out 2).trans rfl
                                have hcz40_3 : wc.cell? ⟨gb284, 3, none⟩ = some (.int .i64 t279) := (blk_cell BK284.out 3).trans rfl
                                have hcz40_4 : wc.cell? ⟨gb284, 4, none⟩ = some (.int .u32 t280) := (blk_cell BK284.out 4).trans rfl
                                have hcz40_5 : wc.cell? ⟨gb284, 5, none⟩ = some (.int .u32 t281) := (blk_cell BK284.out 5).trans rfl
                                have hcz40_6 : wc.cell? ⟨gb284, 6, none⟩ = some (.int .i64 t282) := (blk_cell BK284.out 6).trans rfl
                                have hfz40_0 := blk_frozen BK284.out 0
                                have hfz40_1 := blk_frozen BK284.out 1
                                have hfz40_2 := blk_frozen BK284.out 2
                                have hfz40_3 := blk_frozen BK284.out 3
                                have hfz40_4 := blk_frozen BK284.out 4
                                have hfz40_5 := blk_frozen BK284.out 5
                                have hfz40_6 := blk_frozen BK284.out 6
                                go_wp2_with (first | ((with_reducible refine gate_builtin (b := .append) (xs := #[.tmp 54, .tmp 57]) rfl ?_); at_builtin; refine Kd.R_append k37 (w0 := w) w.heap.size rfl (.tmp 54) (.tmp 57) 26 37 (.agg #[(.int .i64 0), (.int .i64 0), (.int .i64 0), (.int .i64 0), (.int .i64 0), (.int .u32 0), (.int .u32 0), (.int .i64 0)]) 56 rfl Try.underlying26 info37 rfl (by decide) (by omega) u5 x5_18 (⟨0, (⟨t276, t277, t278, t279, (⟨t280, t281⟩ : S33), t282⟩ : S35)⟩ : S37) [.int .i64 0, .int .i64 t276, .int .i64 t277, .int .i64 t278, .int .i64 t279, .int .u32 t280, .int .u32 t281, .int .i64 t282] (fun _ => True) (fun _ => False) rfl rfl ?aP (fun _ hk => hk.elim) ?aF ?aO ?aB ?aS ?aL ?_; (case aP => exact k37_mkM _ _ _ (⟨0, (⟨t276, t277, t278, t279, (⟨t280, t281⟩ : S33), t282⟩ : S35)⟩ : S37)); (case aB => exact (by repeat (first | (with_reducible first | exact HB.out | apply below_alloc | apply pw_below_drewN | apply below_drew1 | refine below_set ?_ GE274.out | refine below_set ?_ GE284.out) | exact HB.out))); (case aF => exact (fun _ _ => trivial)); (case aO => exact (by (with_reducible repeat (first | apply Kd.R_alloc | apply Kd.R_drewN | apply Kd.R_drew)); exact HO_5.out)); (case aS => exact (below_size (by repeat (first | (with_reducible first | exact HB.out | apply below_alloc | apply pw_below_drewN | apply below_drew1 | refine below_set ?_ GE274.out | refine below_set ?_ GE284.out) | exact HB.out)))); (case aL => have := LMc28.out; omega); intro v289 w41 ho hb hg hat; rw [← Ny288.out] at ho; have n0_ := Aside0.mk (Kd.R_over' (by (with_reducible repeat (first | apply Kd.R_alloc | apply Kd.R_drewN | apply Kd.R_drew)); exact HO_6.out) (Kd.R_typed (by (with_reducible repeat (first | apply Kd.R_alloc | apply Kd.R_drewN | apply Kd.R_drew)); exact HO_5.out)) (by decide) hg); have n1_ := Aside0.mk (blk_grown (g := gb274) (o := .cells #[.int .i64 t266, .int .i64 t267, .int .i64 t268, .int .i64 t269, .int .u32 t270, .int .u32 t271, .int .i64 t272] 35 (0, 0)) (by (with_reducible repeat (first | refine blk_drewN ?_ _ | refine blk_drew ?_ | refine blk_alloc ?_ _)); exact BK274.out) hg (Kd.R_ne HO_5.out BK274.out (by decide))); have n2_ := Aside0.mk (blk_grown (g := gb284) (o := .cells #[.int .i64 t276, .int .i64 t277, .int .i64 t278, .int .i64 t279, .int .u32 t280, .int .u32 t281, .int .i64 t282] 35 (0, 0)) (by (with_reducible repeat (first | refine blk_drewN ?_ _ | refine blk_drew ?_ | refine blk_alloc ?_ _)); exact BK284.out) hg (Kd.R_ne HO_5.out BK284.out (by decide))); have n3_ := Aside0.mk (hb); have n4_ := Aside0.mk (ho); clear HO_6; clear BK274; clear BK284; clear HB; clear HO_5; have HO_6 := n0_; have BK274 := n1_; have BK284 := n2_; have HB := n3_; have HO290 := n4_; clear n0_ n1_ n2_ n3_ n4_; clear ho hb hg hat; have hcz42_0 : w41.cell? ⟨gb274, 0, none⟩ = some (.int .i64 t266) := (blk_cell BK274.out 0).trans rfl; have hcz42_1 : w41.cell? ⟨gb274, 1, none⟩ = some (.int .i64 t267) := (blk_cell BK274.out 1).trans rfl; have hcz42_2 : w41.cell? ⟨gb274, 2, none⟩ = some (.int .i64 t268) := (blk_cell BK274.out 2).trans rfl; have hcz42_3 : w41.cell? ⟨gb274, 3, none⟩ = some (.int .i64 t269) := (blk_cell BK274.out 3).trans rfl; have hcz42_4 : w41.cell? ⟨gb274, 4, none⟩ = some (.int .u32 t270) := (blk_cell BK274.out 4).trans rfl; have hcz42_5 : w41.cell? ⟨gb274, 5, none⟩ = some (.int .u32 t271) := (blk_cell BK274.out 5).trans rfl; have hcz42_6 : w41.cell? ⟨gb274, 6, none⟩ = some (.int .i64 t272) := (blk_cell BK274.out 6).trans rfl; have hfz42_0 := blk_frozen BK274.out 0; have hfz42_1 := blk_frozen BK274.out 1; have hfz42_2 := blk_frozen BK274.out 2; have hfz42_3 := blk_frozen BK274.out 3; have hfz42_4 := blk_frozen BK274.out 4; have hfz42_5 := blk_frozen BK274.out 5; have hfz42_6 := blk_frozen BK274.out 6; have hcz43_0 : w41.cell? ⟨gb284, 0, none⟩ = some (.int .i64 t276) := (blk_cell BK284.out 0).trans rfl; have hcz43_1 : w41.cell? ⟨gb284, 1, none⟩ = some (.int .i64 t277) := (blk_cell BK284.out 1).trans rfl; have hcz43_2 : w41.cell? ⟨gb284, 2, none⟩ = some (.int .i64 t278) := (blk_cell BK284.out 2).trans rfl; have hcz43_3 : w41.cell? ⟨gb284, 3, none⟩ = some (.int .i64 t279) := (blk_cell BK284.out 3).trans rfl; have hcz43_4 : w41.cell? ⟨gb284, 4, none⟩ = some (.int .u32 t280) := (blk_cell BK284.out 4).trans rfl; have hcz43_5 : w41.cell? ⟨gb284, 5, none⟩ = some (.int .u32 t281) := (blk_cell BK284.out 5).trans rfl; have hcz43_6 : w41.cell? ⟨gb284, 6, none⟩ = some (.int .i64 t282) := (blk_cell BK284.out 6).trans rfl; have hfz43_0 := blk_frozen BK284.out 0; have hfz43_1 := blk_frozen BK284.out 1; have hfz43_2 := blk_frozen BK284.out 2; have hfz43_3 := blk_frozen BK284.out 3; have hfz43_4 := blk_frozen BK284.out 4; have hfz43_5 := blk_frozen BK284.out 5; have hfz43_6 := blk_frozen BK284.out 6))
                                go_roundg kj24
                                case measure => have := HK1.out; have := HJ8.out; have := HJ18.out; have := HJ24.out; omega
                                case rel => exact ⟨(y288), (wrap64 (x7_1 + 1)), (by first | rfl | (simp; done) | (simp [*]; done)), H', ⟨by have := HK1.out; have := HJ8.out; have := HJ18.out; have := HJ24.out; omega⟩, ⟨by (with_reducible repeat (first | apply Kd.R_alloc | apply Kd.R_drewN | apply Kd.R_drew)); exact HO290.out⟩, ⟨by (with_reducible repeat (first | apply Kd.R_alloc | apply Kd.R_drewN | apply Kd.R_drew)); exact HO_6.out⟩, ⟨by repeat (first | (with_reducible first | exact HB.out | apply below_alloc | apply pw_below_drewN | apply below_drew1 | refine below_set ?_ GE274.out | refine below_set ?_ GE284.out) | exact HB.out)⟩⟩
                            · replace c30 := Bool.eq_false_iff.mpr c30
                              subst c30
                              have H1 : (waystoneref14_Diff.l0 kj24 l0 l1 y288 t262 (wrap64 (x7_1 + 1))) = some r := by rw [if_neg (show ¬ (false = true) by decide)] at H; exact H
                              clear H
                              have H := H1
                              clear H1
                              have H' := Aside0.mk H
                              clear H
                              have hnb44 := NB284_274.out
                              have hnc44 := NB274_284.out
                              have hcz45_0 : wc.cell? ⟨gb284, 0, none⟩ = some (.int .i64 t276) := (blk_cell BK284.out 0).trans rfl
                              have hcz45_1 : wc.cell? ⟨gb284, 1, none⟩ = some (.int .i64 t277) := (blk_cell BK284.out 1).trans rfl
                              have hcz45_2 : wc.cell? ⟨gb284, 2, none⟩ = some (.int .i64 t278) := (blk_cell BK284.out 2).trans rfl
                              have hcz45_3 : wc.cell? ⟨gb284, 3, none⟩ = some (.int .i64 t279) := (blk_cell BK284.out 3).trans rfl
                              have hcz45_4 : wc.cell? ⟨gb284, 4, none⟩ = some (.int .u32 t280) := (blk_cell BK284.out 4).trans rfl
                              have hcz45_5 : wc.cell? ⟨gb284, 5, none⟩ = some (.int .u32 t281) := (blk_cell BK284.out 5).trans rfl
                              have hcz45_6 : wc.cell? ⟨gb284, 6, none⟩ = some (.int .i64 t282) := (blk_cell BK284.out 6).trans rfl
                              have hfz45_0 := blk_frozen BK284.out 0
                              have hfz45_1 := blk_frozen BK284.out 1
                              have hfz45_2 := blk_frozen BK284.out 2
                              have hfz45_3 := blk_frozen BK284.out 3
                              have hfz45_4 := blk_frozen BK284.out 4
                              have hfz45_5 := blk_frozen BK284.out 5
                              have hfz45_6 := blk_frozen BK284.out 6
                              go_wp2_with (first | ((with_reducible refine gate_builtin (b := .append) (xs := #[.tmp 54, .tmp 57]) rfl ?_); at_builtin; refine Kd.R_append k37 (w0 := w) w.heap.size rfl (.tmp 54) (.tmp 57) 26 37 (.agg #[(.int .i64 0), (.int .i64 0), (.int .i64 0), (.int .i64 0), (.int .i64 0), (.int .u32 0), (.int .u32 0), (.int .i64 0)]) 56 rfl Try.underlying26 info37 rfl (by decide) (by omega) u5 x5_18 (⟨0, (⟨t276, t277, t278, t279, (⟨t280, t281⟩ : S33), t282⟩ : S35)⟩ : S37) [.int .i64 0, .int .i64 t276, .int .i64 t277, .int .i64 t278, .int .i64 t279, .int .u32 t280, .int .u32 t281, .int .i64 t282] (fun _ => True) (fun _ => False) rfl rfl ?aP (fun _ hk => hk.elim) ?aF ?aO ?aB ?aS ?aL ?_; (case aP => exact k37_mkM _ _ _ (⟨0, (⟨t276, t277, t278, t279, (⟨t280, t281⟩ : S33), t282⟩ : S35)⟩ : S37)); (case aB => exact (by repeat (first | (with_reducible first | exact HB.out | apply below_alloc | apply pw_below_drewN | apply below_drew1 | refine below_set ?_ GE274.out | refine below_set ?_ GE284.out) | exact HB.out))); (case aF => exact (fun _ _ => trivial)); (case aO => exact (by (with_reducible repeat (first | apply Kd.R_alloc | apply Kd.R_drewN | apply Kd.R_drew)); exact HO_5.out)); (case aS => exact (below_size (by repeat (first | (with_reducible first | exact HB.out | apply below_alloc | apply pw_below_drewN | apply below_drew1 | refine below_set ?_ GE274.out | refine below_set ?_ GE284.out) | exact HB.out)))); (case aL => have := LMc28.out; omega); intro v289 w46 ho hb hg hat; rw [← Ny288.out] at ho; have n0_ := Aside0.mk (Kd.R_over' (by (with_reducible repeat (first | apply Kd.R_alloc | apply Kd.R_drewN | apply Kd.R_drew)); exact HO_6.out) (Kd.R_typed (by (with_reducible repeat (first | apply Kd.R_alloc | apply Kd.R_drewN | apply Kd.R_drew)); exact HO_5.out)) (by decide) hg); have n1_ := Aside0.mk (blk_grown (g := gb274) (o := .cells #[.int .i64 t266, .int .i64 t267, .int .i64 t268, .int .i64 t269, .int .u32 t270, .int .u32 t271, .int .i64 t272] 35 (0, 0)) (by (with_reducible repeat (first | refine blk_drewN ?_ _ | refine blk_drew ?_ | refine blk_alloc ?_ _)); exact BK274.out) hg (Kd.R_ne HO_5.out BK274.out (by decide))); have n2_ := Aside0.mk (blk_grown (g := gb284) (o := .cells #[.int .i64 t276, .int .i64 t277, .int .i64 t278, .int .i64 t279, .int .u32 t280, .int .u32 t281, .int .i64 t282] 35 (0, 0)) (by (with_reducible repeat (first | refine blk_drewN ?_ _ | refine blk_drew ?_ | refine blk_alloc ?_ _)); exact BK284.out) hg (Kd.R_ne HO_5.out BK284.out (by decide))); have n3_ := Aside0.mk (hb); have n4_ := Aside0.mk (ho); clear HO_6; clear BK274; clear BK284; clear HB; clear HO_5; have HO_6 := n0_; have BK274 := n1_; have BK284 := n2_; have HB := n3_; have HO290 := n4_; clear n0_ n1_ n2_ n3_ n4_; clear ho hb hg hat))
                              go_roundg kj24
                              case measure => have := HK1.out; have := HJ8.out; have := HJ18.out; have := HJ24.out; omega
                              case rel => exact ⟨(y288), (wrap64 (x7_1 + 1)), (by first | rfl | (simp; done) | (simp [*]; done)), H', ⟨by have := HK1.out; have := HJ8.out; have := HJ18.out; have := HJ24.out; omega⟩, ⟨by (with_reducible repeat (first | apply Kd.R_alloc | apply Kd.R_drewN | apply Kd.R_drew)); exact HO290.out⟩, ⟨by (with_reducible repeat (first | apply Kd.R_alloc | apply Kd.R_drewN | apply Kd.R_drew)); exact HO_6.out⟩, ⟨by repeat (first | (with_reducible first | exact HB.out | apply below_alloc | apply pw_below_drewN | apply below_drew1 | refine below_set ?_ GE274.out | refine below_set ?_ GE284.out) | exact HB.out)⟩⟩
                          · replace c29 := Bool.eq_false_iff.mpr c29
                            subst c29
                            have H1 : (waystoneref14_Diff.l0 kj24 l0 l1 y288 t262 (wrap64 (x7_1 + 1))) = some r := by rw [if_neg (show ¬ (false = true) by decide)] at H; exact H
                            clear H
                            have H := H1
                            clear H1
                            have H' := Aside0.mk H
                            clear H
                            have hnb47 := NB284_274.out
                            have hnc47 := NB274_284.out
                            have hcz48_0 : wc.cell? ⟨gb284, 0, none⟩ = some (.int .i64 t276) := (blk_cell BK284.out 0).trans rfl
                            have hcz48_1 : wc.cell? ⟨gb284, 1, none⟩ = some (.int .i64 t277) := (blk_cell BK284.out 1).trans rfl
                            have hcz48_2 : wc.cell? ⟨gb284, 2, none⟩ = some (.int .i64 t278) := (blk_cell BK284.out 2).trans rfl
                            have hcz48_3 : wc.cell? ⟨gb284, 3, none⟩ = some (.int .i64 t279) := (blk_cell BK284.out 3).trans rfl
                            have hcz48_4 : wc.cell? ⟨gb284, 4, none⟩ = some (.int .u32 t280) := (blk_cell BK284.out 4).trans rfl
                            have hcz48_5 : wc.cell? ⟨gb284, 5, none⟩ = some (.int .u32 t281) := (blk_cell BK284.out 5).trans rfl
                            have hcz48_6 : wc.cell? ⟨gb284, 6, none⟩ = some (.int .i64 t282) := (blk_cell BK284.out 6).trans rfl
                            have hfz48_0 := blk_frozen BK284.out 0
                            have hfz48_1 := blk_frozen BK284.out 1
                            have hfz48_2 := blk_frozen BK284.out 2
                            have hfz48_3 := blk_frozen BK284.out 3
                            have hfz48_4 := blk_frozen BK284.out 4
                            have hfz48_5 := blk_frozen BK284.out 5
                            have hfz48_6 := blk_frozen BK284.out 6
                            go_wp2_with (first | ((with_reducible refine gate_builtin (b := .append) (xs := #[.tmp 54, .tmp 57]) rfl ?_); at_builtin; refine Kd.R_append k37 (w0 := w) w.heap.size rfl (.tmp 54) (.tmp 57) 26 37 (.agg #[(.int .i64 0), (.int .i64 0), (.int .i64 0), (.int .i64 0), (.int .i64 0), (.int .u32 0), (.int .u32 0), (.int .i64 0)]) 56 rfl Try.underlying26 info37 rfl (by decide) (by omega) u5 x5_18 (⟨0, (⟨t276, t277, t278, t279, (⟨t280, t281⟩ : S33), t282⟩ : S35)⟩ : S37) [.int .i64 0, .int .i64 t276, .int .i64 t277, .int .i64 t278, .int .i64 t279, .int .u32 t280, .int .u32 t281, .int .i64 t282] (fun _ => True) (fun _ => False) rfl rfl ?aP (fun _ hk => hk.elim) ?aF ?aO ?aB ?aS ?aL ?_; (case aP => exact k37_mkM _ _ _ (⟨0, (⟨t276, t277, t278, t279, (⟨t280, t281⟩ : S33), t282⟩ : S35)⟩ : S37)); (case aB => exact (by repeat (first | (with_reducible first | exact HB.out | apply below_alloc | apply pw_below_drewN | apply below_drew1 | refine below_set ?_ GE274.out | refine below_set ?_ GE284.out) | exact HB.out))); (case aF => exact (fun _ _ => trivial)); (case aO => exact (by (with_reducible repeat (first | apply Kd.R_alloc | apply Kd.R_drewN | apply Kd.R_drew)); exact HO_5.out)); (case aS => exact (below_size (by repeat (first | (with_reducible first | exact HB.out | apply below_alloc | apply pw_below_drewN | apply below_drew1 | refine below_set ?_ GE274.out | refine below_set ?_ GE284.out) | exact HB.out)))); (case aL => have := LMc28.out; omega); intro v289 w49 ho hb hg hat; rw [← Ny288.out] at ho; have n0_ := Aside0.mk (Kd.R_over' (by (with_reducible repeat (first | apply Kd.R_alloc | apply Kd.R_drewN | apply Kd.R_drew)); exact HO_6.out) (Kd.R_typed (by (with_reducible repeat (first | apply Kd.R_alloc | apply Kd.R_drewN | apply Kd.R_drew)); exact HO_5.out)) (by decide) hg); have n1_ := Aside0.mk (blk_grown (g := gb274) (o := .cells #[.int .i64 t266, .int .i64 t267, .int .i64 t268, .int .i64 t269, .int .u32 t270, .int .u32 t271, .int .i64 t272] 35 (0, 0)) (by (with_reducible repeat (first | refine blk_drewN ?_ _ | refine blk_drew ?_ | refine blk_alloc ?_ _)); exact BK274.out) hg (Kd.R_ne HO_5.out BK274.out (by decide))); have n2_ := Aside0.mk (blk_grown (g := gb284) (o := .cells #[.int .i64 t276, .int .i64 t277, .int .i64 t278, .int .i64 t279, .int .u32 t280, .int .u32 t281, .int .i64 t282] 35 (0, 0)) (by (with_reducible repeat (first | refine blk_drewN ?_ _ | refine blk_drew ?_ | refine blk_alloc ?_ _)); exact BK284.out) hg (Kd.R_ne HO_5.out BK284.out (by decide))); have n3_ := Aside0.mk (hb); have n4_ := Aside0.mk (ho); clear HO_6; clear BK274; clear BK284; clear HB; clear HO_5; have HO_6 := n0_; have BK274 := n1_; have BK284 := n2_; have HB := n3_; have HO290 := n4_; clear n0_ n1_ n2_ n3_ n4_; clear ho hb hg hat))
                            go_roundg kj24
                            case measure => have := HK1.out; have := HJ8.out; have := HJ18.out; have := HJ24.out; omega
                            case rel => exact ⟨(y288), (wrap64 (x7_1 + 1)), (by first | rfl | (simp; done) | (simp [*]; done)), H', ⟨by have := HK1.out; have := HJ8.out; have := HJ18.out; have := HJ24.out; omega⟩, ⟨by (with_reducible repeat (first | apply Kd.R_alloc | apply Kd.R_drewN | apply Kd.R_drew)); exact HO290.out⟩, ⟨by (with_reducible repeat (first | apply Kd.R_alloc | apply Kd.R_drewN | apply Kd.R_drew)); exact HO_6.out⟩, ⟨by repeat (first | (with_reducible first | exact HB.out | apply below_alloc | apply pw_below_drewN | apply below_drew1 | refine below_set ?_ GE274.out | refine below_set ?_ GE284.out) | exact HB.out)⟩⟩
                        · rw [if_neg c28] at H
                          exact absurd H (by simp)
                      · replace c27 := Bool.eq_false_iff.mpr c27
                        subst c27
                        have H1 : (if t273 = true then (if t283 = true then (if (!(t266 == t276) || (!(t267 == t277) || (!(t268 == t278) || (!(t269 == t279) || ((!(t270 == t280) || (!(t271 == t281))) || (!(t272 == t282))))))) = true then (if x5_18.length < 2513169434916 then (waystoneref14_Diff.l0 kj24 l0 l1 (x5_18 ++ [(⟨2, (⟨t276, t277, t278, t279, (⟨t280, t281⟩ : S33), t282⟩ : S35)⟩ : S37)]) t262 (wrap64 (x7_1 + 1))) else (none)) else (waystoneref14_Diff.l0 kj24 l0 l1 x5_18 t262 (wrap64 (x7_1 + 1)))) else (waystoneref14_Diff.l0 kj24 l0 l1 x5_18 t262 (wrap64 (x7_1 + 1)))) else (waystoneref14_Diff.l0 kj24 l0 l1 x5_18 t262 (wrap64 (x7_1 + 1)))) = some r := by rw [if_neg (show ¬ (false = true) by decide)] at H; exact H
                        clear H
                        have H := H1
                        clear H1
                        by_cases c50 : t273 = true
                        · subst c50
                          have H1 : (if t283 = true then (if (!(t266 == t276) || (!(t267 == t277) || (!(t268 == t278) || (!(t269 == t279) || ((!(t270 == t280) || (!(t271 == t281))) || (!(t272 == t282))))))) = true then (if x5_18.length < 2513169434916 then (waystoneref14_Diff.l0 kj24 l0 l1 (x5_18 ++ [(⟨2, (⟨t276, t277, t278, t279, (⟨t280, t281⟩ : S33), t282⟩ : S35)⟩ : S37)]) t262 (wrap64 (x7_1 + 1))) else (none)) else (waystoneref14_Diff.l0 kj24 l0 l1 x5_18 t262 (wrap64 (x7_1 + 1)))) else (waystoneref14_Diff.l0 kj24 l0 l1 x5_18 t262 (wrap64 (x7_1 + 1)))) = some r := by rw [if_pos rfl] at H; exact H
                          clear H
                          have H := H1
                          clear H1
                          by_cases c51 : t283 = true
                          · subst c51
                            have H1 : (if (!(t266 == t276) || (!(t267 == t277) || (!(t268 == t278) || (!(t269 == t279) || ((!(t270 == t280) || (!(t271 == t281))) || (!(t272 == t282))))))) = true then (if x5_18.length < 2513169434916 then (waystoneref14_Diff.l0 kj24 l0 l1 (x5_18 ++ [(⟨2, (⟨t276, t277, t278, t279, (⟨t280, t281⟩ : S33), t282⟩ : S35)⟩ : S37)]) t262 (wrap64 (x7_1 + 1))) else (none)) else (waystoneref14_Diff.l0 kj24 l0 l1 x5_18 t262 (wrap64 (x7_1 + 1)))) = some r := by rw [if_pos rfl] at H; exact H
                            clear H
                            have H := H1
                            clear H1
                            by_cases c52 : (!(t266 == t276) || (!(t267 == t277) || (!(t268 == t278) || (!(t269 == t279) || ((!(t270 == t280) || (!(t271 == t281))) || (!(t272 == t282))))))) = true
                            · rw [if_pos c52] at H
                              have c52b0 : (!(t266 == t276) || (!(t267 == t277) || (!(t268 == t278) || (!(t269 == t279) || ((!(t270 == t280) || (!(t271 == t281))) || (!(t272 == t282))))))) = true := c52
                              clear c52
                              by_cases c53 : x5_18.length < 2513169434916
                              · rw [if_pos c53] at H
                                have LMc53 := Aside0.mk c53
                                clear c53
                                obtain ⟨y294, hy294⟩ : ∃ y_ : List (S37), y_ = (x5_18 ++ [(⟨2, (⟨t276, t277, t278, t279, (⟨t280, t281⟩ : S33), t282⟩ : S35)⟩ : S37)]) := ⟨_, rfl⟩
                                replace H : (waystoneref14_Diff.l0 kj24 l0 l1 y294 t262 (wrap64 (x7_1 + 1))) = some r := by first | (rw [hy294]; with_reducible exact H) | (have H2_ := (Option.bind_some _ _).symm.trans H; rw [hy294]; with_reducible exact H2_) | (have H2_ := (Option.bind_some _ _).symm.trans H; with_reducible exact H2_) | with_reducible exact H | (rw [hy294]; exact H) | exact H
                                have Ny294 := Aside0.mk hy294
                                clear hy294
                                have H' := Aside0.mk H
                                clear H
                                have hnb54 := NB274_284.out
                                have hnc54 := NB284_274.out
                                have hcz55_0 : wc.cell? ⟨gb274, 0, none⟩ = some (.int .i64 t266) := (blk_cell BK274.out 0).trans rfl
                                have hcz55_1 : wc.cell? ⟨gb274, 1, none⟩ = some (.int .i64 t267) := (blk_cell BK274.out 1).trans rfl
                                have hcz55_2 : wc.cell? ⟨gb274, 2, none⟩ = some (.int .i64 t268) := (blk_cell BK274.out 2).trans rfl
                                have hcz55_3 : wc.cell? ⟨gb274, 3, none⟩ = some (.int .i64 t269) := (blk_cell BK274.out 3).trans rfl
                                have hcz55_4 : wc.cell? ⟨gb274, 4, none⟩ = some (.int .u32 t270) := (blk_cell BK274.out 4).trans rfl
                                have hcz55_5 : wc.cell? ⟨gb274, 5, none⟩ = some (.int .u32 t271) := (blk_cell BK274.out 5).trans rfl
                                have hcz55_6 : wc.cell? ⟨gb274, 6, none⟩ = some (.int .i64 t272) := (blk_cell BK274.out 6).trans rfl
                                have hfz55_0 := blk_frozen BK274.out 0
                                have hfz55_1 := blk_frozen BK274.out 1
                                have hfz55_2 := blk_frozen BK274.out 2
                                have hfz55_3 := blk_frozen BK274.out 3
                                have hfz55_4 := blk_frozen BK274.out 4
                                have hfz55_5 := blk_frozen BK274.out 5
                                have hfz55_6 := blk_frozen BK274.out 6
                                have hcz56_0 : wc.cell? ⟨gb284, 0, none⟩ = some (.int .i64 t276) := (blk_cell BK284.out 0).trans rfl
                                have hcz56_1 : wc.cell? ⟨gb284, 1, none⟩ = some (.int .i64 t277) := (blk_cell BK284.out 1).trans rfl
                                have hcz56_2 : wc.cell? ⟨gb284, 2, none⟩ = some (.int .i64 t278) := (blk_cell BK284.out 2).trans rfl
                                have hcz56_3 : wc.cell? ⟨gb284, 3, none⟩ = some (.int .i64 t279) := (blk_cell BK284.out 3).trans rfl
                                have hcz56_4 : wc.cell? ⟨gb284, 4, none⟩ = some (.int .u32 t280) := (blk_cell BK284.out 4).trans rfl
                                have hcz56_5 : wc.cell? ⟨gb284, 5, none⟩ = some (.int .u32 t281) := (blk_cell BK284.out 5).trans rfl
                                have hcz56_6 : wc.cell? ⟨gb284, 6, none⟩ = some (.int .i64 t282) := (blk_cell BK284.out 6).trans rfl
                                have hfz56_0 := blk_frozen BK284.out 0
                                have hfz56_1 := blk_frozen BK284.out 1
                                have hfz56_2 := blk_frozen BK284.out 2
                                have hfz56_3 := blk_frozen BK284.out 3
                                have hfz56_4 := blk_frozen BK284.out 4
                                have hfz56_5 := blk_frozen BK284.out 5
                                have hfz56_6 := blk_frozen BK284.out 6
                                go_wp2_with (first | ((with_reducible refine gate_builtin (b := .append) (xs := #[.tmp 68, .tmp 71]) rfl ?_); at_builtin; refine Kd.R_append k37 (w0 := w) w.heap.size rfl (.tmp 68) (.tmp 71) 26 37 (.agg #[(.int .i64 0), (.int .i64 0), (.int .i64 0), (.int .i64 0), (.int .i64 0), (.int .u32 0), (.int .u32 0), (.int .i64 0)]) 56 rfl Try.underlying26 info37 rfl (by decide) (by omega) u5 x5_18 (⟨2, (⟨t276, t277, t278, t279, (⟨t280, t281⟩ : S33), t282⟩ : S35)⟩ : S37) [.int .i64 2, .int .i64 t276, .int .i64 t277, .int .i64 t278, .int .i64 t279, .int .u32 t280, .int .u32 t281, .int .i64 t282] (fun _ => True) (fun _ => False) rfl rfl ?aP (fun _ hk => hk.elim) ?aF ?aO ?aB ?aS ?aL ?_; (case aP => exact k37_mkM _ _ _ (⟨2, (⟨t276, t277, t278, t279, (⟨t280, t281⟩ : S33), t282⟩ : S35)⟩ : S37)); (case aB => exact (by repeat (first | (with_reducible first | exact HB.out | apply below_alloc | apply pw_below_drewN | apply below_drew1 | refine below_set ?_ GE274.out | refine below_set ?_ GE284.out) | exact HB.out))); (case aF => exact (fun _ _ => trivial)); (case aO => exact (by (with_reducible repeat (first | apply Kd.R_alloc | apply Kd.R_drewN | apply Kd.R_drew)); exact HO_5.out)); (case aS => exact (below_size (by repeat (first | (with_reducible first | exact HB.out | apply below_alloc | apply pw_below_drewN | apply below_drew1 | refine below_set ?_ GE274.out | refine below_set ?_ GE284.out) | exact HB.out)))); (case aL => have := LMc53.out; omega); intro v295 w57 ho hb hg hat; rw [← Ny294.out] at ho; have n0_ := Aside0.mk (Kd.R_over' (by (with_reducible repeat (first | apply Kd.R_alloc | apply Kd.R_drewN | apply Kd.R_drew)); exact HO_6.out) (Kd.R_typed (by (with_reducible repeat (first | apply Kd.R_alloc | apply Kd.R_drewN | apply Kd.R_drew)); exact HO_5.out)) (by decide) hg); have n1_ := Aside0.mk (blk_grown (g := gb274) (o := .cells #[.int .i64 t266, .int .i64 t267, .int .i64 t268, .int .i64 t269, .int .u32 t270, .int .u32 t271, .int .i64 t272] 35 (0, 0)) (by (with_reducible repeat (first | refine blk_drewN ?_ _ | refine blk_drew ?_ | refine blk_alloc ?_ _)); exact BK274.out) hg (Kd.R_ne HO_5.out BK274.out (by decide))); have n2_ := Aside0.mk (blk_grown (g := gb284) (o := .cells #[.int .i64 t276, .int .i64 t277, .int .i64 t278, .int .i64 t279, .int .u32 t280, .int .u32 t281, .int .i64 t282] 35 (0, 0)) (by (with_reducible repeat (first | refine blk_drewN ?_ _ | refine blk_drew ?_ | refine blk_alloc ?_ _)); exact BK284.out) hg (Kd.R_ne HO_5.out BK284.out (by decide))); have n3_ := Aside0.mk (hb); have n4_ := Aside0.mk (ho); clear HO_6; clear BK274; clear BK284; clear HB; clear HO_5; have HO_6 := n0_; have BK274 := n1_; have BK284 := n2_; have HB := n3_; have HO296 := n4_; clear n0_ n1_ n2_ n3_ n4_; clear ho hb hg hat))
                                go_roundg kj24
                                case measure => have := HK1.out; have := HJ8.out; have := HJ18.out; have := HJ24.out; omega
                                case rel => exact ⟨(y294), (wrap64 (x7_1 + 1)), (by first | rfl | (simp; done) | (simp [*]; done)), H', ⟨by have := HK1.out; have := HJ8.out; have := HJ18.out; have := HJ24.out; omega⟩, ⟨by (with_reducible repeat (first | apply Kd.R_alloc | apply Kd.R_drewN | apply Kd.R_drew)); exact HO296.out⟩, ⟨by (with_reducible repeat (first | apply Kd.R_alloc | apply Kd.R_drewN | apply Kd.R_drew)); exact HO_6.out⟩, ⟨by repeat (first | (with_reducible first | exact HB.out | apply below_alloc | apply pw_below_drewN | apply below_drew1 | refine below_set ?_ GE274.out | refine below_set ?_ GE284.out) | exact HB.out)⟩⟩
                              · rw [if_neg c53] at H
                                exact absurd H (by simp)
                            · rw [if_neg c52] at H
                              have c52b0 : (!(t266 == t276) || (!(t267 == t277) || (!(t268 == t278) || (!(t269 == t279) || ((!(t270 == t280) || (!(t271 == t281))) || (!(t272 == t282))))))) = false := by simpa using c52
                              clear c52
                              have H' := Aside0.mk H
                              clear H
                              have hnb58 := NB274_284.out
                              have hnc58 := NB284_274.out
                              have hcz59_0 : wc.cell? ⟨gb274, 0, none⟩ = some (.int .i64 t266) := (blk_cell BK274.out 0).trans rfl
                              have hcz59_1 : wc.cell? ⟨gb274, 1, none⟩ = some (.int .i64 t267) := (blk_cell BK274.out 1).trans rfl
                              have hcz59_2 : wc.cell? ⟨gb274, 2, none⟩ = some (.int .i64 t268) := (blk_cell BK274.out 2).trans rfl
                              have hcz59_3 : wc.cell? ⟨gb274, 3, none⟩ = some (.int .i64 t269) := (blk_cell BK274.out 3).trans rfl
                              have hcz59_4 : wc.cell? ⟨gb274, 4, none⟩ = some (.int .u32 t270) := (blk_cell BK274.out 4).trans rfl
                              have hcz59_5 : wc.cell? ⟨gb274, 5, none⟩ = some (.int .u32 t271) := (blk_cell BK274.out 5).trans rfl
                              have hcz59_6 : wc.cell? ⟨gb274, 6, none⟩ = some (.int .i64 t272) := (blk_cell BK274.out 6).trans rfl
                              have hfz59_0 := blk_frozen BK274.out 0
                              have hfz59_1 := blk_frozen BK274.out 1
                              have hfz59_2 := blk_frozen BK274.out 2
                              have hfz59_3 := blk_frozen BK274.out 3
                              have hfz59_4 := blk_frozen BK274.out 4
                              have hfz59_5 := blk_frozen BK274.out 5
                              have hfz59_6 := blk_frozen BK274.out 6
                              have hcz60_0 : wc.cell? ⟨gb284, 0, none⟩ = some (.int .i64 t276) := (blk_cell BK284.out 0).trans rfl
                              have hcz60_1 : wc.cell? ⟨gb284, 1, none⟩ = some (.int .i64 t277) := (blk_cell BK284.out 1).trans rfl
                              have hcz60_2 : wc.cell? ⟨gb284, 2, none⟩ = some (.int .i64 t278) := (blk_cell BK284.out 2).trans rfl
                              have hcz60_3 : wc.cell? ⟨gb284, 3, none⟩ = some (.int .i64 t279) := (blk_cell BK284.out 3).trans rfl
                              have hcz60_4 : wc.cell? ⟨gb284, 4, none⟩ = some (.int .u32 t280) := (blk_cell BK284.out 4).trans rfl
                              have hcz60_5 : wc.cell? ⟨gb284, 5, none⟩ = some (.int .u32 t281) := (blk_cell BK284.out 5).trans rfl
                              have hcz60_6 : wc.cell? ⟨gb284, 6, none⟩ = some (.int .i64 t282) := (blk_cell BK284.out 6).trans rfl
                              have hfz60_0 := blk_frozen BK284.out 0
                              have hfz60_1 := blk_frozen BK284.out 1
                              have hfz60_2 := blk_frozen BK284.out 2
                              have hfz60_3 := blk_frozen BK284.out 3
                              have hfz60_4 := blk_frozen BK284.out 4
                              have hfz60_5 := blk_frozen BK284.out 5
                              have hfz60_6 := blk_frozen BK284.out 6
                              go_wp2
                              go_roundg kj24
                              case measure => have := HK1.out; have := HJ8.out; have := HJ18.out; have := HJ24.out; omega
                              case rel => exact ⟨(x5_18), (wrap64 (x7_1 + 1)), (by first | rfl | (simp; done) | (simp [*]; done)), H', ⟨by have := HK1.out; have := HJ8.out; have := HJ18.out; have := HJ24.out; omega⟩, ⟨by (with_reducible repeat (first | apply Kd.R_alloc | apply Kd.R_drewN | apply Kd.R_drew)); exact HO_5.out⟩, ⟨by (with_reducible repeat (first | apply Kd.R_alloc | apply Kd.R_drewN | apply Kd.R_drew)); exact HO_6.out⟩, ⟨by repeat (first | (with_reducible first | exact HB.out | apply below_alloc | apply pw_below_drewN | apply below_drew1 | refine below_set ?_ GE274.out | refine below_set ?_ GE284.out) | exact HB.out)⟩⟩
                          · replace c51 := Bool.eq_false_iff.mpr c51
                            subst c51
                            have H1 : (waystoneref14_Diff.l0 kj24 l0 l1 x5_18 t262 (wrap64 (x7_1 + 1))) = some r := by rw [if_neg (show ¬ (false = true) by decide)] at H; exact H
                            clear H
                            have H := H1
                            clear H1
                            have H' := Aside0.mk H
                            clear H
                            go_wp2
                            go_roundg kj24
                            case measure => have := HK1.out; have := HJ8.out; have := HJ18.out; have := HJ24.out; omega
                            case rel => exact ⟨(x5_18), (wrap64 (x7_1 + 1)), (by first | rfl | (simp; done) | (simp [*]; done)), H', ⟨by have := HK1.out; have := HJ8.out; have := HJ18.out; have := HJ24.out; omega⟩, ⟨by (with_reducible repeat (first | apply Kd.R_alloc | apply Kd.R_drewN | apply Kd.R_drew)); exact HO_5.out⟩, ⟨by (with_reducible repeat (first | apply Kd.R_alloc | apply Kd.R_drewN | apply Kd.R_drew)); exact HO_6.out⟩, ⟨by repeat (first | (with_reducible first | exact HB.out | apply below_alloc | apply pw_below_drewN | apply below_drew1 | refine below_set ?_ GE274.out | refine below_set ?_ GE284.out) | exact HB.out)⟩⟩
                        · replace c50 := Bool.eq_false_iff.mpr c50
                          subst c50
                          have H1 : (waystoneref14_Diff.l0 kj24 l0 l1 x5_18 t262 (wrap64 (x7_1 + 1))) = some r := by rw [if_neg (show ¬ (false = true) by decide)] at H; exact H
                          clear H
                          have H := H1
                          clear H1
                          have H' := Aside0.mk H
                          clear H
                          go_wp2
                          go_roundg kj24
                          case measure => have := HK1.out; have := HJ8.out; have := HJ18.out; have := HJ24.out; omega
                          case rel => exact ⟨(x5_18), (wrap64 (x7_1 + 1)), (by first | rfl | (simp; done) | (simp [*]; done)), H', ⟨by have := HK1.out; have := HJ8.out; have := HJ18.out; have := HJ24.out; omega⟩, ⟨by (with_reducible repeat (first | apply Kd.R_alloc | apply Kd.R_drewN | apply Kd.R_drew)); exact HO_5.out⟩, ⟨by (with_reducible repeat (first | apply Kd.R_alloc | apply Kd.R_drewN | apply Kd.R_drew)); exact HO_6.out⟩, ⟨by repeat (first | (with_reducible first | exact HB.out | apply below_alloc | apply pw_below_drewN | apply below_drew1 | refine below_set ?_ GE274.out | refine below_set ?_ GE284.out) | exact HB.out)⟩⟩
        · rw [if_neg c6] at H
          exact absurd H (by simp)
      · rw [if_neg c5] at H
        have c5b0 : decide (x7_1 < (t262.length : Int)) = false := decide_eq_false c5
        clear c5
        obtain rfl := Option.some.inj H
        obtain ⟨Ao61, co61, eo61⟩ := Kd.R_slice HO_6.out
        subst eo61
        go_wp2
        go_ret
        exact ⟨_, by first | rfl | (simp [errW_none, errW_some] <;> rfl) | (simp [*, errW_none, errW_some] <;> rfl), by (with_reducible repeat (first | apply Kd.R_alloc | apply Kd.R_drewN | apply Kd.R_drew)); exact HO_5.out, by repeat (first | (with_reducible first | exact HB.out | apply below_alloc | apply pw_below_drewN | apply below_drew1) | exact HB.out)⟩
end Go.Proofs.Ytckjhdlpbfcaiaa.E
