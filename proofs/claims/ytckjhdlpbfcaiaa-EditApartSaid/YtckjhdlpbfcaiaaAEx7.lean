/- Ex7. -/
import Derived.Test.YtckjhdlpbfcaiaaAEdtP
import Derived.Test.YtckjhdlpbfcaiaaAEx1
namespace Go.Proofs.Ytckjhdlpbfcaiaa.E
open Go.Proofs.Ytckjhdlpbfcaiaa.P
open Go.RowKit Go.Proofs.YtckjhdlpbfcaiaaW.PrintWords Go.Proofs.YtckjhdlpbfcaiaaW.PrintLast Go.Proofs.YtckjhdlpbfcaiaaW.PrintMore
set_option linter.unusedVariables false
set_option linter.unusedSimpArgs false
mutual
def waystoneref14_put.j1 : Nat → List (S35) → List (S35) → Int → Int → Int → Int → Int → Int → Int → Option ((List (S35)))
  | 0, _, _, _, _, _, _, _, _, _ => none
  | k + 1, x0, x5, x235000, x235001, x235002, x235003, x235004, x235005, x235006 => if x5.length < 2932031007402 then (waystoneref14_put.l1 k x0 (x5 ++ [(⟨x235000, x235001, x235002, x235003, (⟨x235004, x235005⟩ : S33), x235006⟩ : S35)]) 0 x235000 x235001 x235002 x235003 x235004 x235005 x235006) else (none)
def waystoneref14_put.l1 : Nat → List (S35) → List (S35) → Int → Int → Int → Int → Int → Int → Int → Int → Option ((List (S35)))
  | 0, _, _, _, _, _, _, _, _, _, _ => none
  | k + 1, x0, x5, x7, x235000, x235001, x235002, x235003, x235004, x235005, x235006 => if x7 < (x0.length : Int) then (if 0 ≤ x7 then (if ((rd_T35 x0 x7).f0) > x235000 then (if x5.length < 2932031007402 then (waystoneref14_put.l1 k x0 (x5 ++ [(⟨(rd_T35 x0 x7).f0, (rd_T35 x0 x7).f1, (rd_T35 x0 x7).f2, (rd_T35 x0 x7).f3, (⟨(rd_T35 x0 x7).f4.f0, (rd_T35 x0 x7).f4.f1⟩ : S33), (rd_T35 x0 x7).f5⟩ : S35)]) (wrap64 (x7 + 1)) x235000 x235001 x235002 x235003 x235004 x235005 x235006) else (none)) else (waystoneref14_put.l1 k x0 x5 (wrap64 (x7 + 1)) x235000 x235001 x235002 x235003 x235004 x235005 x235006)) else (none)) else (some x5)
def waystoneref14_put.l0 : Nat → List (S35) → List (S35) → Int → Int → Int → Int → Int → Int → Int → Int → Option ((List (S35)))
  | 0, _, _, _, _, _, _, _, _, _, _ => none
  | k + 1, x0, x5, x6, x235000, x235001, x235002, x235003, x235004, x235005, x235006 => if x6 < (x0.length : Int) then (if 0 ≤ x6 then (if ((rd_T35 x0 x6).f0) < x235000 then (if x5.length < 2932031007402 then (waystoneref14_put.l0 k x0 (x5 ++ [(⟨(rd_T35 x0 x6).f0, (rd_T35 x0 x6).f1, (rd_T35 x0 x6).f2, (rd_T35 x0 x6).f3, (⟨(rd_T35 x0 x6).f4.f0, (rd_T35 x0 x6).f4.f1⟩ : S33), (rd_T35 x0 x6).f5⟩ : S35)]) (wrap64 (x6 + 1)) x235000 x235001 x235002 x235003 x235004 x235005 x235006) else (none)) else (waystoneref14_put.j1 k x0 x5 x235000 x235001 x235002 x235003 x235004 x235005 x235006)) else (none)) else (waystoneref14_put.j1 k x0 x5 x235000 x235001 x235002 x235003 x235004 x235005 x235006)
end
def waystoneref14_put.f (k : Nat) (l0 : List (S35)) (a1_0 : Int) (a1_1 : Int) (a1_2 : Int) (a1_3 : Int) (a1_4 : Int) (a1_5 : Int) (a1_6 : Int) : Option ((List (S35))) := waystoneref14_put.l0 k l0 ([] : List (S35)) 0 a1_0 a1_1 a1_2 a1_3 a1_4 a1_5 a1_6
set_option maxHeartbeats 8000000 in
set_option maxRecDepth 100000 in
theorem waystoneref14_put.calls (k : Nat) (A0 : Option Addr) (c0 : Nat) (l0 : List (S35)) (a1_0 : Int) (a1_1 : Int) (a1_2 : Int) (a1_3 : Int) (a1_4 : Int) (a1_5 : Int) (a1_6 : Int) (r : List (S35)) (w : World) (hr0 : Kd.C k35 w A0 l0.length l0) (hc0 : l0.length ≤ c0) (h : waystoneref14_put.f k l0 a1_0 a1_1 a1_2 a1_3 a1_4 a1_5 a1_6 = some r) :
    Calls Try.prog 40 #[.slice A0 l0.length c0, .agg #[.int .i64 a1_0, .int .i64 a1_1, .int .i64 a1_2, .int .i64 a1_3, .int .u32 a1_4, .int .u32 a1_5, .int .i64 a1_6]] w fun e w' => ∃ v0_ : Value, e = .returned (v0_) ∧ Kd.R k35 35 w' w.heap.size (fun _ => True) v0_ r ∧ Below w.heap.size w w' := by
  have hu35 := Try.underlying35
  have HR0 := Aside0.mk hr0
  have HC0 := Aside0.mk hc0
  clear hr0 hc0
  have HB := Aside0.mk (Below.refl w.heap.size w)
  have H : (waystoneref14_put.l0 k l0 ([] : List (S35)) 0 a1_0 a1_1 a1_2 a1_3 a1_4 a1_5 a1_6) = some r := h
  clear h
  have HC3 := Aside0.mk H
  clear H
  go_enter Try.func40, Try.ntmps40
  go_upto_block 0 with (first | ((with_reducible refine gate_dst (N := 3) rfl ?_); refine box_event ?hg (N := 3) ?hd (cs := #[.int .i64 a1_0, .int .i64 a1_1, .int .i64 a1_2, .int .i64 a1_3, .int .u32 a1_4, .int .u32 a1_5, .int .i64 a1_6]) (t := 35) ?hr ?_; (case hd => rfl); (case hg => rfl); (case hr => first | (go_simp; done) | (go_simp; rfl)); intro gb234 hg w4 hbox hb; have n0_ := Aside0.mk (below_step (by repeat (first | (with_reducible first | exact HB.out | apply below_alloc | apply pw_below_drewN | apply below_drew1) | exact HB.out)) hb); have n1_ := Aside0.mk (hbox); have n2_ := Aside0.mk ((by rw [hg]; exact (below_size (by repeat (first | (with_reducible first | exact HB.out | apply below_alloc | apply pw_below_drewN | apply below_drew1) | exact HB.out))) : w.heap.size ≤ gb234)); have n3_ := Aside0.mk ((by rw [hg]; exact (below_size (by repeat (first | (with_reducible first | exact HB.out | apply below_alloc | apply pw_below_drewN | apply below_drew1) | exact HB.out))) : w.heap.size ≤ gb234)); clear HB; have HB := n0_; have BK234 := n1_; have GW234 := n2_; have GE234 := n3_; clear n0_ n1_ n2_ n3_; clear hb hbox hg))
  repeat (go_quiet (first | ((with_reducible refine gate_dst (N := 3) rfl ?_); refine box_event ?hg (N := 3) ?hd (cs := #[.int .i64 a1_0, .int .i64 a1_1, .int .i64 a1_2, .int .i64 a1_3, .int .u32 a1_4, .int .u32 a1_5, .int .i64 a1_6]) (t := 35) ?hr ?_; (case hd => rfl); (case hg => rfl); (case hr => first | (go_simp; done) | (go_simp; rfl)); intro gb234 hg w4 hbox hb; have n0_ := Aside0.mk (below_step (by repeat (first | (with_reducible first | exact HB.out | apply below_alloc | apply pw_below_drewN | apply below_drew1) | exact HB.out)) hb); have n1_ := Aside0.mk (hbox); have n2_ := Aside0.mk ((by rw [hg]; exact (below_size (by repeat (first | (with_reducible first | exact HB.out | apply below_alloc | apply pw_below_drewN | apply below_drew1) | exact HB.out))) : w.heap.size ≤ gb234)); have n3_ := Aside0.mk ((by rw [hg]; exact (below_size (by repeat (first | (with_reducible first | exact HB.out | apply below_alloc | apply pw_below_drewN | apply below_drew1) | exact HB.out))) : w.heap.size ≤ gb234)); clear HB; have HB := n0_; have BK234 := n1_; have GW234 := n2_; have GE234 := n3_; clear n0_ n1_ n2_ n3_; clear hb hbox hg)); go_upto_block 0 with (first | ((with_reducible refine gate_dst (N := 3) rfl ?_); refine box_event ?hg (N := 3) ?hd (cs := #[.int .i64 a1_0, .int .i64 a1_1, .int .i64 a1_2, .int .i64 a1_3, .int .u32 a1_4, .int .u32 a1_5, .int .i64 a1_6]) (t := 35) ?hr ?_; (case hd => rfl); (case hg => rfl); (case hr => first | (go_simp; done) | (go_simp; rfl)); intro gb234 hg w4 hbox hb; have n0_ := Aside0.mk (below_step (by repeat (first | (with_reducible first | exact HB.out | apply below_alloc | apply pw_below_drewN | apply below_drew1) | exact HB.out)) hb); have n1_ := Aside0.mk (hbox); have n2_ := Aside0.mk ((by rw [hg]; exact (below_size (by repeat (first | (with_reducible first | exact HB.out | apply below_alloc | apply pw_below_drewN | apply below_drew1) | exact HB.out))) : w.heap.size ≤ gb234)); have n3_ := Aside0.mk ((by rw [hg]; exact (below_size (by repeat (first | (with_reducible first | exact HB.out | apply below_alloc | apply pw_below_drewN | apply below_drew1) | exact HB.out))) : w.heap.size ≤ gb234)); clear HB; have HB := n0_; have BK234 := n1_; have GW234 := n2_; have GE234 := n3_; clear n0_ n1_ n2_ n3_; clear hb hbox hg)))
  (try simp only [Act.put, List.setIfInBounds_toArray, List.set_cons_zero, List.set_cons_succ])
  go_cut [5] (fun v5 wc => ∃ (kq : Nat) (x5_2 : List (S35)), Aside0 (waystoneref14_put.j1 kq l0 x5_2 a1_0 a1_1 a1_2 a1_3 a1_4 a1_5 a1_6 = some r) ∧ Aside0 (kq ≤ k) ∧ Aside0 (Kd.R k35 35 wc w.heap.size (fun k_ => k_ ≠ gb234) v5 x5_2) ∧ Aside0 (wc.heap[gb234]? = some (.cells #[.int .i64 a1_0, .int .i64 a1_1, .int .i64 a1_2, .int .i64 a1_3, .int .u32 a1_4, .int .u32 a1_5, .int .i64 a1_6] 35 (0, 0))) ∧ Aside0 (Below w.heap.size w wc))
  case first =>
    have H := HC3.out
    clear HC3
    have H' := Aside0.mk H
    clear H
    go_wp2
    repeat (go_quiet (fail); try go_wp2)
    go_loopg [5, 6] k (fun kq v5 v6 w' => ∃ (x5_1 : List (S35)) (x6_1 : Int), v6 = .int .i64 x6_1 ∧ Aside0 (waystoneref14_put.l0 kq l0 x5_1 x6_1 a1_0 a1_1 a1_2 a1_3 a1_4 a1_5 a1_6 = some r) ∧ Aside0 (kq ≤ k) ∧ Aside0 (Kd.R k35 35 w' w.heap.size (fun k_ => k_ ≠ gb234) v5 x5_1) ∧ Aside0 (w'.heap[gb234]? = some (.cells #[.int .i64 a1_0, .int .i64 a1_1, .int .i64 a1_2, .int .i64 a1_3, .int .u32 a1_4, .int .u32 a1_5, .int .i64 a1_6] 35 (0, 0))) ∧ Aside0 (Below w.heap.size w w'))
    case atStart => exact ⟨(([] : List (S35))), (0), (by first | rfl | (simp; done) | (simp [*]; done)), H', ⟨Nat.le_refl _⟩, ⟨by first | exact Kd.R_nil _ _ _ _ _ | exact Kd.N_nil _ _ _ _ _ | exact Kd.V_nil _ _ _ _ _ | exact Kd.Q_nil _ _ _ _ _ | exact Kd.S_nil _ _ _ _ _⟩, ⟨by (with_reducible repeat (first | refine blk_drewN ?_ _ | refine blk_drew ?_ | refine blk_alloc ?_ _)); exact BK234.out⟩, ⟨by repeat (first | (with_reducible first | exact HB.out | apply below_alloc | apply pw_below_drewN | apply below_drew1 | refine below_set ?_ GE234.out) | exact HB.out)⟩⟩
    case round =>
      clear H'
      try clear p2
      try clear c4
      obtain ⟨x5_1, x6_1, rfl, HA, HK1, HO_5, BK234, HB⟩ := hrel
      cases gk with
      | zero => exact absurd HA.out (by simp [waystoneref14_put.l0])
      | succ k1 =>
        have H := HA.out
        clear HA
        simp only [waystoneref14_put.l0] at H
        by_cases c5 : x6_1 < (l0.length : Int)
        · rw [if_pos c5] at H
          have c5b0 : decide (x6_1 < (l0.length : Int)) = true := decide_eq_true c5
          clear c5
          (first | rw [c5b0] | (simp only [i64_w, i32_w]; rw [c5b0]) | skip)
          by_cases c6 : 0 ≤ x6_1
          · rw [if_pos c6] at H
            have c6b0 : decide (0 ≤ x6_1) = true := decide_eq_true c6
            clear c6
            by_cases c7 : ((rd_T35 l0 x6_1).f0) < a1_0
            · rw [if_pos c7] at H
              have c7b0 : decide (((rd_T35 l0 x6_1).f0) < a1_0) = true := decide_eq_true c7
              clear c7
              by_cases c8 : x5_1.length < 2932031007402
              · rw [if_pos c8] at H
                have LMc8 := Aside0.mk c8
                clear c8
                obtain ⟨y237, hy237⟩ : ∃ y_ : List (S35), y_ = (x5_1 ++ [(⟨(rd_T35 l0 x6_1).f0, (rd_T35 l0 x6_1).f1, (rd_T35 l0 x6_1).f2, (rd_T35 l0 x6_1).f3, (⟨(rd_T35 l0 x6_1).f4.f0, (rd_T35 l0 x6_1).f4.f1⟩ : S33), (rd_T35 l0 x6_1).f5⟩ : S35)]) := ⟨_, rfl⟩
                replace H : (waystoneref14_put.l0 k1 l0 y237 (wrap64 (x6_1 + 1)) a1_0 a1_1 a1_2 a1_3 a1_4 a1_5 a1_6) = some r := by first | (rw [hy237]; with_reducible exact H) | (have H2_ := (Option.bind_some _ _).symm.trans H; rw [hy237]; with_reducible exact H2_) | (have H2_ := (Option.bind_some _ _).symm.trans H; with_reducible exact H2_) | with_reducible exact H | (rw [hy237]; exact H) | exact H
                have Ny237 := Aside0.mk hy237
                clear hy237
                have H' := Aside0.mk H
                clear H
                have p235 : 0 ≤ (x6_1 : Int) := of_decide_eq_true (by first | (with_reducible assumption) | assumption)
                have q235 : x6_1 < (l0.length : Int) := of_decide_eq_true (by first | (with_reducible assumption) | assumption)
                obtain ⟨ad235, e235, hx235_0, hx235_1, hx235_2, hx235_3, hx235_4, hx235_5, hx235_6⟩ := at_T35 HR0.out x6_1 p235 q235
                cases e235
                replace hx235_0 := (HB.out.cell (World.block_lt_of_cell? w _ hx235_0)).trans hx235_0
                replace hx235_1 := (HB.out.cell (World.block_lt_of_cell? w _ hx235_1)).trans hx235_1
                replace hx235_2 := (HB.out.cell (World.block_lt_of_cell? w _ hx235_2)).trans hx235_2
                replace hx235_3 := (HB.out.cell (World.block_lt_of_cell? w _ hx235_3)).trans hx235_3
                replace hx235_4 := (HB.out.cell (World.block_lt_of_cell? w _ hx235_4)).trans hx235_4
                replace hx235_5 := (HB.out.cell (World.block_lt_of_cell? w _ hx235_5)).trans hx235_5
                replace hx235_6 := (HB.out.cell (World.block_lt_of_cell? w _ hx235_6)).trans hx235_6
                replace p235 := eq_true p235
                replace q235 := eq_true q235
                have hcz9_0 : wr.cell? ⟨gb234, 0, none⟩ = some (.int .i64 a1_0) := (blk_cell BK234.out 0).trans rfl
                have hcz9_1 : wr.cell? ⟨gb234, 1, none⟩ = some (.int .i64 a1_1) := (blk_cell BK234.out 1).trans rfl
                have hcz9_2 : wr.cell? ⟨gb234, 2, none⟩ = some (.int .i64 a1_2) := (blk_cell BK234.out 2).trans rfl
                have hcz9_3 : wr.cell? ⟨gb234, 3, none⟩ = some (.int .i64 a1_3) := (blk_cell BK234.out 3).trans rfl
                have hcz9_4 : wr.cell? ⟨gb234, 4, none⟩ = some (.int .u32 a1_4) := (blk_cell BK234.out 4).trans rfl
                have hcz9_5 : wr.cell? ⟨gb234, 5, none⟩ = some (.int .u32 a1_5) := (blk_cell BK234.out 5).trans rfl
                have hcz9_6 : wr.cell? ⟨gb234, 6, none⟩ = some (.int .i64 a1_6) := (blk_cell BK234.out 6).trans rfl
                have hfz9_0 := blk_frozen BK234.out 0
                have hfz9_1 := blk_frozen BK234.out 1
                have hfz9_2 := blk_frozen BK234.out 2
                have hfz9_3 := blk_frozen BK234.out 3
                have hfz9_4 := blk_frozen BK234.out 4
                have hfz9_5 := blk_frozen BK234.out 5
                have hfz9_6 := blk_frozen BK234.out 6
                have p236 : 0 ≤ (x6_1 : Int) := of_decide_eq_true (by first | (with_reducible assumption) | assumption)
                have q236 : x6_1 < (l0.length : Int) := of_decide_eq_true (by first | (with_reducible assumption) | assumption)
                obtain ⟨ad236, e236, hx236_0, hx236_1, hx236_2, hx236_3, hx236_4, hx236_5, hx236_6⟩ := at_T35 HR0.out x6_1 p236 q236
                obtain rfl : ad235 = ad236 := (by injection e236)
                replace hx236_0 := (HB.out.cell (World.block_lt_of_cell? w _ hx236_0)).trans hx236_0
                replace hx236_1 := (HB.out.cell (World.block_lt_of_cell? w _ hx236_1)).trans hx236_1
                replace hx236_2 := (HB.out.cell (World.block_lt_of_cell? w _ hx236_2)).trans hx236_2
                replace hx236_3 := (HB.out.cell (World.block_lt_of_cell? w _ hx236_3)).trans hx236_3
                replace hx236_4 := (HB.out.cell (World.block_lt_of_cell? w _ hx236_4)).trans hx236_4
                replace hx236_5 := (HB.out.cell (World.block_lt_of_cell? w _ hx236_5)).trans hx236_5
                replace hx236_6 := (HB.out.cell (World.block_lt_of_cell? w _ hx236_6)).trans hx236_6
                replace p236 := eq_true p236
                replace q236 := eq_true q236
                go_wp2_with (first | ((with_reducible refine gate_builtin (b := .append) (xs := #[.tmp 24, .tmp 29]) rfl ?_); at_builtin; refine Kd.R_append k35 (w0 := w) w.heap.size rfl (.tmp 24) (.tmp 29) 22 35 (.agg #[(.int .i64 0), (.int .i64 0), (.int .i64 0), (.int .i64 0), (.int .u32 0), (.int .u32 0), (.int .i64 0)]) 48 rfl Try.underlying22 info35 rfl (by decide) (by omega) u5 x5_1 (⟨(rd_T35 l0 x6_1).f0, (rd_T35 l0 x6_1).f1, (rd_T35 l0 x6_1).f2, (rd_T35 l0 x6_1).f3, (⟨(rd_T35 l0 x6_1).f4.f0, (rd_T35 l0 x6_1).f4.f1⟩ : S33), (rd_T35 l0 x6_1).f5⟩ : S35) [.int .i64 ((rd_T35 l0 x6_1).f0), .int .i64 ((rd_T35 l0 x6_1).f1), .int .i64 ((rd_T35 l0 x6_1).f2), .int .i64 ((rd_T35 l0 x6_1).f3), .int .u32 ((rd_T35 l0 x6_1).f4.f0), .int .u32 ((rd_T35 l0 x6_1).f4.f1), .int .i64 ((rd_T35 l0 x6_1).f5)] (fun k_ => k_ ≠ gb234) (fun _ => False) rfl rfl ?aP (fun _ hk => hk.elim) ?aF ?aO ?aB ?aS ?aL ?_; (case aP => exact k35_mkM _ _ _ (⟨(rd_T35 l0 x6_1).f0, (rd_T35 l0 x6_1).f1, (rd_T35 l0 x6_1).f2, (rd_T35 l0 x6_1).f3, (⟨(rd_T35 l0 x6_1).f4.f0, (rd_T35 l0 x6_1).f4.f1⟩ : S33), (rd_T35 l0 x6_1).f5⟩ : S35)); (case aB => exact (by repeat (first | (with_reducible first | exact HB.out | apply below_alloc | apply pw_below_drewN | apply below_drew1 | refine below_set ?_ GE234.out) | exact HB.out))); (case aF => exact (fun k_ hk => Kd.freshB (g := gb234) (o := .cells #[.int .i64 a1_0, .int .i64 a1_1, .int .i64 a1_2, .int .i64 a1_3, .int .u32 a1_4, .int .u32 a1_5, .int .i64 a1_6] 35 (0, 0)) (by (with_reducible repeat (first | refine blk_drewN ?_ _ | refine blk_drew ?_ | refine blk_alloc ?_ _)); exact BK234.out) k_ hk)); (case aO => exact (by (with_reducible repeat (first | apply Kd.R_alloc | apply Kd.R_drewN | apply Kd.R_drew)); exact HO_5.out)); (case aS => exact (below_size (by repeat (first | (with_reducible first | exact HB.out | apply below_alloc | apply pw_below_drewN | apply below_drew1 | refine below_set ?_ GE234.out) | exact HB.out)))); (case aL => have := LMc8.out; omega); intro v238 w10 ho hb hg hat; rw [← Ny237.out] at ho; have n0_ := Aside0.mk (blk_grown (g := gb234) (o := .cells #[.int .i64 a1_0, .int .i64 a1_1, .int .i64 a1_2, .int .i64 a1_3, .int .u32 a1_4, .int .u32 a1_5, .int .i64 a1_6] 35 (0, 0)) (by (with_reducible repeat (first | refine blk_drewN ?_ _ | refine blk_drew ?_ | refine blk_alloc ?_ _)); exact BK234.out) hg (Kd.R_away HO_5.out (fun _ hk => hk))); have n1_ := Aside0.mk (hb); have n2_ := Aside0.mk (ho); clear BK234; clear HB; clear HO_5; have BK234 := n0_; have HB := n1_; have HO239 := n2_; clear n0_ n1_ n2_; clear ho hb hg hat))
                repeat (go_quiet (first | ((with_reducible refine gate_builtin (b := .append) (xs := #[.tmp 24, .tmp 29]) rfl ?_); at_builtin; refine Kd.R_append k35 (w0 := w) w.heap.size rfl (.tmp 24) (.tmp 29) 22 35 (.agg #[(.int .i64 0), (.int .i64 0), (.int .i64 0), (.int .i64 0), (.int .u32 0), (.int .u32 0), (.int .i64 0)]) 48 rfl Try.underlying22 info35 rfl (by decide) (by omega) u5 x5_1 (⟨(rd_T35 l0 x6_1).f0, (rd_T35 l0 x6_1).f1, (rd_T35 l0 x6_1).f2, (rd_T35 l0 x6_1).f3, (⟨(rd_T35 l0 x6_1).f4.f0, (rd_T35 l0 x6_1).f4.f1⟩ : S33), (rd_T35 l0 x6_1).f5⟩ : S35) [.int .i64 ((rd_T35 l0 x6_1).f0), .int .i64 ((rd_T35 l0 x6_1).f1), .int .i64 ((rd_T35 l0 x6_1).f2), .int .i64 ((rd_T35 l0 x6_1).f3), .int .u32 ((rd_T35 l0 x6_1).f4.f0), .int .u32 ((rd_T35 l0 x6_1).f4.f1), .int .i64 ((rd_T35 l0 x6_1).f5)] (fun k_ => k_ ≠ gb234) (fun _ => False) rfl rfl ?aP (fun _ hk => hk.elim) ?aF ?aO ?aB ?aS ?aL ?_; (case aP => exact k35_mkM _ _ _ (⟨(rd_T35 l0 x6_1).f0, (rd_T35 l0 x6_1).f1, (rd_T35 l0 x6_1).f2, (rd_T35 l0 x6_1).f3, (⟨(rd_T35 l0 x6_1).f4.f0, (rd_T35 l0 x6_1).f4.f1⟩ : S33), (rd_T35 l0 x6_1).f5⟩ : S35)); (case aB => exact (by repeat (first | (with_reducible first | exact HB.out | apply below_alloc | apply pw_below_drewN | apply below_drew1 | refine below_set ?_ GE234.out) | exact HB.out))); (case aF => exact (fun k_ hk => Kd.freshB (g := gb234) (o := .cells #[.int .i64 a1_0, .int .i64 a1_1, .int .i64 a1_2, .int .i64 a1_3, .int .u32 a1_4, .int .u32 a1_5, .int .i64 a1_6] 35 (0, 0)) (by (with_reducible repeat (first | refine blk_drewN ?_ _ | refine blk_drew ?_ | refine blk_alloc ?_ _)); exact BK234.out) k_ hk)); (case aO => exact (by (with_reducible repeat (first | apply Kd.R_alloc | apply Kd.R_drewN | apply Kd.R_drew)); exact HO_5.out)); (case aS => exact (below_size (by repeat (first | (with_reducible first | exact HB.out | apply below_alloc | apply pw_below_drewN | apply below_drew1 | refine below_set ?_ GE234.out) | exact HB.out)))); (case aL => have := LMc8.out; omega); intro v238 w10 ho hb hg hat; rw [← Ny237.out] at ho; have n0_ := Aside0.mk (blk_grown (g := gb234) (o := .cells #[.int .i64 a1_0, .int .i64 a1_1, .int .i64 a1_2, .int .i64 a1_3, .int .u32 a1_4, .int .u32 a1_5, .int .i64 a1_6] 35 (0, 0)) (by (with_reducible repeat (first | refine blk_drewN ?_ _ | refine blk_drew ?_ | refine blk_alloc ?_ _)); exact BK234.out) hg (Kd.R_away HO_5.out (fun _ hk => hk))); have n1_ := Aside0.mk (hb); have n2_ := Aside0.mk (ho); clear BK234; clear HB; clear HO_5; have BK234 := n0_; have HB := n1_; have HO239 := n2_; clear n0_ n1_ n2_; clear ho hb hg hat)); try go_wp2_with (first | ((with_reducible refine gate_builtin (b := .append) (xs := #[.tmp 24, .tmp 29]) rfl ?_); at_builtin; refine Kd.R_append k35 (w0 := w) w.heap.size rfl (.tmp 24) (.tmp 29) 22 35 (.agg #[(.int .i64 0), (.int .i64 0), (.int .i64 0), (.int .i64 0), (.int .u32 0), (.int .u32 0), (.int .i64 0)]) 48 rfl Try.underlying22 info35 rfl (by decide) (by omega) u5 x5_1 (⟨(rd_T35 l0 x6_1).f0, (rd_T35 l0 x6_1).f1, (rd_T35 l0 x6_1).f2, (rd_T35 l0 x6_1).f3, (⟨(rd_T35 l0 x6_1).f4.f0, (rd_T35 l0 x6_1).f4.f1⟩ : S33), (rd_T35 l0 x6_1).f5⟩ : S35) [.int .i64 ((rd_T35 l0 x6_1).f0), .int .i64 ((rd_T35 l0 x6_1).f1), .int .i64 ((rd_T35 l0 x6_1).f2), .int .i64 ((rd_T35 l0 x6_1).f3), .int .u32 ((rd_T35 l0 x6_1).f4.f0), .int .u32 ((rd_T35 l0 x6_1).f4.f1), .int .i64 ((rd_T35 l0 x6_1).f5)] (fun k_ => k_ ≠ gb234) (fun _ => False) rfl rfl ?aP (fun _ hk => hk.elim) ?aF ?aO ?aB ?aS ?aL ?_; (case aP => exact k35_mkM _ _ _ (⟨(rd_T35 l0 x6_1).f0, (rd_T35 l0 x6_1).f1, (rd_T35 l0 x6_1).f2, (rd_T35 l0 x6_1).f3, (⟨(rd_T35 l0 x6_1).f4.f0, (rd_T35 l0 x6_1).f4.f1⟩ : S33), (rd_T35 l0 x6_1).f5⟩ : S35)); (case aB => exact (by repeat (first | (with_reducible first | exact HB.out | apply below_alloc | apply pw_below_drewN | apply below_drew1 | refine below_set ?_ GE234.out) | exact HB.out))); (case aF => exact (fun k_ hk => Kd.freshB (g := gb234) (o := .cells #[.int .i64 a1_0, .int .i64 a1_1, .int .i64 a1_2, .int .i64 a1_3, .int .u32 a1_4, .int .u32 a1_5, .int .i64 a1_6] 35 (0, 0)) (by (with_reducible repeat (first | refine blk_drewN ?_ _ | refine blk_drew ?_ | refine blk_alloc ?_ _)); exact BK234.out) k_ hk)); (case aO => exact (by (with_reducible repeat (first | apply Kd.R_alloc | apply Kd.R_drewN | apply Kd.R_drew)); exact HO_5.out)); (case aS => exact (below_size (by repeat (first | (with_reducible first | exact HB.out | apply below_alloc | apply pw_below_drewN | apply below_drew1 | refine below_set ?_ GE234.out) | exact HB.out)))); (case aL => have := LMc8.out; omega); intro v238 w10 ho hb hg hat; rw [← Ny237.out] at ho; have n0_ := Aside0.mk (blk_grown (g := gb234) (o := .cells #[.int .i64 a1_0, .int .i64 a1_1, .int .i64 a1_2, .int .i64 a1_3, .int .u32 a1_4, .int .u32 a1_5, .int .i64 a1_6] 35 (0, 0)) (by (with_reducible repeat (first | refine blk_drewN ?_ _ | refine blk_drew ?_ | refine blk_alloc ?_ _)); exact BK234.out) hg (Kd.R_away HO_5.out (fun _ hk => hk))); have n1_ := Aside0.mk (hb); have n2_ := Aside0.mk (ho); clear BK234; clear HB; clear HO_5; have BK234 := n0_; have HB := n1_; have HO239 := n2_; clear n0_ n1_ n2_; clear ho hb hg hat)))
                go_roundg k1
                case measure => have := HK1.out; omega
                case rel => exact ⟨(y237), (wrap64 (x6_1 + 1)), (by first | rfl | (simp; done) | (simp [*]; done)), H', ⟨by have := HK1.out; omega⟩, ⟨by (with_reducible repeat (first | apply Kd.R_alloc | apply Kd.R_drewN | apply Kd.R_drew)); exact HO239.out⟩, ⟨by (with_reducible repeat (first | refine blk_drewN ?_ _ | refine blk_drew ?_ | refine blk_alloc ?_ _)); exact BK234.out⟩, ⟨by repeat (first | (with_reducible first | exact HB.out | apply below_alloc | apply pw_below_drewN | apply below_drew1 | refine below_set ?_ GE234.out) | exact HB.out)⟩⟩
              · rw [if_neg c8] at H
                exact absurd H (by simp)
            · rw [if_neg c7] at H
              have c7b0 : decide (((rd_T35 l0 x6_1).f0) < a1_0) = false := decide_eq_false c7
              clear c7
              have H' := Aside0.mk H
              clear H
              have p235 : 0 ≤ (x6_1 : Int) := of_decide_eq_true (by first | (with_reducible assumption) | assumption)
              have q235 : x6_1 < (l0.length : Int) := of_decide_eq_true (by first | (with_reducible assumption) | assumption)
              obtain ⟨ad235, e235, hx235_0, hx235_1, hx235_2, hx235_3, hx235_4, hx235_5, hx235_6⟩ := at_T35 HR0.out x6_1 p235 q235
              cases e235
              replace hx235_0 := (HB.out.cell (World.block_lt_of_cell? w _ hx235_0)).trans hx235_0
              replace hx235_1 := (HB.out.cell (World.block_lt_of_cell? w _ hx235_1)).trans hx235_1
              replace hx235_2 := (HB.out.cell (World.block_lt_of_cell? w _ hx235_2)).trans hx235_2
              replace hx235_3 := (HB.out.cell (World.block_lt_of_cell? w _ hx235_3)).trans hx235_3
              replace hx235_4 := (HB.out.cell (World.block_lt_of_cell? w _ hx235_4)).trans hx235_4
              replace hx235_5 := (HB.out.cell (World.block_lt_of_cell? w _ hx235_5)).trans hx235_5
              replace hx235_6 := (HB.out.cell (World.block_lt_of_cell? w _ hx235_6)).trans hx235_6
              replace p235 := eq_true p235
              replace q235 := eq_true q235
              have hcz11_0 : wr.cell? ⟨gb234, 0, none⟩ = some (.int .i64 a1_0) := (blk_cell BK234.out 0).trans rfl
              have hcz11_1 : wr.cell? ⟨gb234, 1, none⟩ = some (.int .i64 a1_1) := (blk_cell BK234.out 1).trans rfl
              have hcz11_2 : wr.cell? ⟨gb234, 2, none⟩ = some (.int .i64 a1_2) := (blk_cell BK234.out 2).trans rfl
              have hcz11_3 : wr.cell? ⟨gb234, 3, none⟩ = some (.int .i64 a1_3) := (blk_cell BK234.out 3).trans rfl
              have hcz11_4 : wr.cell? ⟨gb234, 4, none⟩ = some (.int .u32 a1_4) := (blk_cell BK234.out 4).trans rfl
              have hcz11_5 : wr.cell? ⟨gb234, 5, none⟩ = some (.int .u32 a1_5) := (blk_cell BK234.out 5).trans rfl
              have hcz11_6 : wr.cell? ⟨gb234, 6, none⟩ = some (.int .i64 a1_6) := (blk_cell BK234.out 6).trans rfl
              have hfz11_0 := blk_frozen BK234.out 0
              have hfz11_1 := blk_frozen BK234.out 1
              have hfz11_2 := blk_frozen BK234.out 2
              have hfz11_3 := blk_frozen BK234.out 3
              have hfz11_4 := blk_frozen BK234.out 4
              have hfz11_5 := blk_frozen BK234.out 5
              have hfz11_6 := blk_frozen BK234.out 6
              go_wp2
              repeat (go_quiet (fail); try go_wp2)
              go_meet
              case rel => exact ⟨_, (x5_1), H', ⟨by have := HK1.out; first | omega | exact Nat.le_refl _⟩, ⟨by (with_reducible repeat (first | apply Kd.R_alloc | apply Kd.R_drewN | apply Kd.R_drew)); exact HO_5.out⟩, ⟨by (with_reducible repeat (first | refine blk_drewN ?_ _ | refine blk_drew ?_ | refine blk_alloc ?_ _)); exact BK234.out⟩, ⟨by repeat (first | (with_reducible first | exact HB.out | apply below_alloc | apply pw_below_drewN | apply below_drew1 | refine below_set ?_ GE234.out) | exact HB.out)⟩⟩
          · rw [if_neg c6] at H
            exact absurd H (by simp)
        · rw [if_neg c5] at H
          have c5b0 : decide (x6_1 < (l0.length : Int)) = false := decide_eq_false c5
          clear c5
          (first | rw [c5b0] | (simp only [i64_w, i32_w]; rw [c5b0]) | skip)
          have H' := Aside0.mk H
          clear H
          go_wp2
          repeat (go_quiet (fail); try go_wp2)
          go_meet
          case rel => exact ⟨_, (x5_1), H', ⟨by have := HK1.out; first | omega | exact Nat.le_refl _⟩, ⟨by (with_reducible repeat (first | apply Kd.R_alloc | apply Kd.R_drewN | apply Kd.R_drew)); exact HO_5.out⟩, ⟨by (with_reducible repeat (first | refine blk_drewN ?_ _ | refine blk_drew ?_ | refine blk_alloc ?_ _)); exact BK234.out⟩, ⟨by repeat (first | (with_reducible first | exact HB.out | apply below_alloc | apply pw_below_drewN | apply below_drew1 | refine below_set ?_ GE234.out) | exact HB.out)⟩⟩
  case rest =>
    clear HC3
    try clear p2
    try clear q2
    try clear hx2
    try clear c4
    try clear c5
    try clear c5b0
    try clear c6
    try clear c6b0
    try clear p6
    try clear c7
    try clear c7b0
    try clear c8
    try clear hcz11_0
    try clear hcz11_1
    try clear hcz11_2
    try clear hcz11_3
    try clear hcz11_4
    try clear hcz11_5
    try clear hcz11_6
    try clear hcz9_0
    try clear hcz9_1
    try clear hcz9_2
    try clear hcz9_3
    try clear hcz9_4
    try clear hcz9_5
    try clear hcz9_6
    try clear hfz11_0
    try clear hfz11_1
    try clear hfz11_2
    try clear hfz11_3
    try clear hfz11_4
    try clear hfz11_5
    try clear hfz11_6
    try clear hfz9_0
    try clear hfz9_1
    try clear hfz9_2
    try clear hfz9_3
    try clear hfz9_4
    try clear hfz9_5
    try clear hfz9_6
    try clear hx235_0
    try clear hx235_1
    try clear hx235_2
    try clear hx235_3
    try clear hx235_4
    try clear hx235_5
    try clear hx235_6
    try clear hx236_0
    try clear hx236_1
    try clear hx236_2
    try clear hx236_3
    try clear hx236_4
    try clear hx236_5
    try clear hx236_6
    try clear p2
    try clear p235
    try clear p236
    try clear q235
    try clear q236
    obtain ⟨kq, x5_2, HA, HJ2, HO_5, BK234, HB⟩ := hcut
    cases kq with
    | zero => exact absurd HA.out (by simp [waystoneref14_put.j1])
    | succ kj2 =>
      have H := HA.out
      clear HA
      simp only [waystoneref14_put.j1] at H
      by_cases c12 : x5_2.length < 2932031007402
      · rw [if_pos c12] at H
        have LMc12 := Aside0.mk c12
        clear c12
        obtain ⟨y240, hy240⟩ : ∃ y_ : List (S35), y_ = (x5_2 ++ [(⟨a1_0, a1_1, a1_2, a1_3, (⟨a1_4, a1_5⟩ : S33), a1_6⟩ : S35)]) := ⟨_, rfl⟩
        replace H : (waystoneref14_put.l1 kj2 l0 y240 0 a1_0 a1_1 a1_2 a1_3 a1_4 a1_5 a1_6) = some r := by first | (rw [hy240]; with_reducible exact H) | (have H2_ := (Option.bind_some _ _).symm.trans H; rw [hy240]; with_reducible exact H2_) | (have H2_ := (Option.bind_some _ _).symm.trans H; with_reducible exact H2_) | with_reducible exact H | (rw [hy240]; exact H) | exact H
        have Ny240 := Aside0.mk hy240
        clear hy240
        have H' := Aside0.mk H
        clear H
        have hcz13_0 : wc.cell? ⟨gb234, 0, none⟩ = some (.int .i64 a1_0) := (blk_cell BK234.out 0).trans rfl
        have hcz13_1 : wc.cell? ⟨gb234, 1, none⟩ = some (.int .i64 a1_1) := (blk_cell BK234.out 1).trans rfl
        have hcz13_2 : wc.cell? ⟨gb234, 2, none⟩ = some (.int .i64 a1_2) := (blk_cell BK234.out 2).trans rfl
        have hcz13_3 : wc.cell? ⟨gb234, 3, none⟩ = some (.int .i64 a1_3) := (blk_cell BK234.out 3).trans rfl
        have hcz13_4 : wc.cell? ⟨gb234, 4, none⟩ = some (.int .u32 a1_4) := (blk_cell BK234.out 4).trans rfl
        have hcz13_5 : wc.cell? ⟨gb234, 5, none⟩ = some (.int .u32 a1_5) := (blk_cell BK234.out 5).trans rfl
        have hcz13_6 : wc.cell? ⟨gb234, 6, none⟩ = some (.int .i64 a1_6) := (blk_cell BK234.out 6).trans rfl
        have hfz13_0 := blk_frozen BK234.out 0
        have hfz13_1 := blk_frozen BK234.out 1
        have hfz13_2 := blk_frozen BK234.out 2
        have hfz13_3 := blk_frozen BK234.out 3
        have hfz13_4 := blk_frozen BK234.out 4
        have hfz13_5 := blk_frozen BK234.out 5
        have hfz13_6 := blk_frozen BK234.out 6
        go_wp2_with (first | ((with_reducible refine gate_builtin (b := .append) (xs := #[.tmp 31, .tmp 33]) rfl ?_); at_builtin; refine Kd.R_append k35 (w0 := w) w.heap.size rfl (.tmp 31) (.tmp 33) 22 35 (.agg #[(.int .i64 0), (.int .i64 0), (.int .i64 0), (.int .i64 0), (.int .u32 0), (.int .u32 0), (.int .i64 0)]) 48 rfl Try.underlying22 info35 rfl (by decide) (by omega) u5 x5_2 (⟨a1_0, a1_1, a1_2, a1_3, (⟨a1_4, a1_5⟩ : S33), a1_6⟩ : S35) [.int .i64 a1_0, .int .i64 a1_1, .int .i64 a1_2, .int .i64 a1_3, .int .u32 a1_4, .int .u32 a1_5, .int .i64 a1_6] (fun k_ => k_ ≠ gb234) (fun _ => False) rfl rfl ?aP (fun _ hk => hk.elim) ?aF ?aO ?aB ?aS ?aL ?_; (case aP => exact k35_mkM _ _ _ (⟨a1_0, a1_1, a1_2, a1_3, (⟨a1_4, a1_5⟩ : S33), a1_6⟩ : S35)); (case aB => exact (by repeat (first | (with_reducible first | exact HB.out | apply below_alloc | apply pw_below_drewN | apply below_drew1 | refine below_set ?_ GE234.out) | exact HB.out))); (case aF => exact (fun k_ hk => Kd.freshB (g := gb234) (o := .cells #[.int .i64 a1_0, .int .i64 a1_1, .int .i64 a1_2, .int .i64 a1_3, .int .u32 a1_4, .int .u32 a1_5, .int .i64 a1_6] 35 (0, 0)) (by (with_reducible repeat (first | refine blk_drewN ?_ _ | refine blk_drew ?_ | refine blk_alloc ?_ _)); exact BK234.out) k_ hk)); (case aO => exact (by (with_reducible repeat (first | apply Kd.R_alloc | apply Kd.R_drewN | apply Kd.R_drew)); exact HO_5.out)); (case aS => exact (below_size (by repeat (first | (with_reducible first | exact HB.out | apply below_alloc | apply pw_below_drewN | apply below_drew1 | refine below_set ?_ GE234.out) | exact HB.out)))); (case aL => have := LMc12.out; omega); intro v241 w14 ho hb hg hat; rw [← Ny240.out] at ho; have n0_ := Aside0.mk (blk_grown (g := gb234) (o := .cells #[.int .i64 a1_0, .int .i64 a1_1, .int .i64 a1_2, .int .i64 a1_3, .int .u32 a1_4, .int .u32 a1_5, .int .i64 a1_6] 35 (0, 0)) (by (with_reducible repeat (first | refine blk_drewN ?_ _ | refine blk_drew ?_ | refine blk_alloc ?_ _)); exact BK234.out) hg (Kd.R_away HO_5.out (fun _ hk => hk))); have n1_ := Aside0.mk (hb); have n2_ := Aside0.mk (ho); clear BK234; clear HB; clear HO_5; have BK234 := n0_; have HB := n1_; have HO242 := n2_; clear n0_ n1_ n2_; clear ho hb hg hat))
        repeat (go_quiet (first | ((with_reducible refine gate_builtin (b := .append) (xs := #[.tmp 31, .tmp 33]) rfl ?_); at_builtin; refine Kd.R_append k35 (w0 := w) w.heap.size rfl (.tmp 31) (.tmp 33) 22 35 (.agg #[(.int .i64 0), (.int .i64 0), (.int .i64 0), (.int .i64 0), (.int .u32 0), (.int .u32 0), (.int .i64 0)]) 48 rfl Try.underlying22 info35 rfl (by decide) (by omega) u5 x5_2 (⟨a1_0, a1_1, a1_2, a1_3, (⟨a1_4, a1_5⟩ : S33), a1_6⟩ : S35) [.int .i64 a1_0, .int .i64 a1_1, .int .i64 a1_2, .int .i64 a1_3, .int .u32 a1_4, .int .u32 a1_5, .int .i64 a1_6] (fun k_ => k_ ≠ gb234) (fun _ => False) rfl rfl ?aP (fun _ hk => hk.elim) ?aF ?aO ?aB ?aS ?aL ?_; (case aP => exact k35_mkM _ _ _ (⟨a1_0, a1_1, a1_2, a1_3, (⟨a1_4, a1_5⟩ : S33), a1_6⟩ : S35)); (case aB => exact (by repeat (first | (with_reducible first | exact HB.out | apply below_alloc | apply pw_below_drewN | apply below_drew1 | refine below_set ?_ GE234.out) | exact HB.out))); (case aF => exact (fun k_ hk => Kd.freshB (g := gb234) (o := .cells #[.int .i64 a1_0, .int .i64 a1_1, .int .i64 a1_2, .int .i64 a1_3, .int .u32 a1_4, .int .u32 a1_5, .int .i64 a1_6] 35 (0, 0)) (by (with_reducible repeat (first | refine blk_drewN ?_ _ | refine blk_drew ?_ | refine blk_alloc ?_ _)); exact BK234.out) k_ hk)); (case aO => exact (by (with_reducible repeat (first | apply Kd.R_alloc | apply Kd.R_drewN | apply Kd.R_drew)); exact HO_5.out)); (case aS => exact (below_size (by repeat (first | (with_reducible first | exact HB.out | apply below_alloc | apply pw_below_drewN | apply below_drew1 | refine below_set ?_ GE234.out) | exact HB.out)))); (case aL => have := LMc12.out; omega); intro v241 w14 ho hb hg hat; rw [← Ny240.out] at ho; have n0_ := Aside0.mk (blk_grown (g := gb234) (o := .cells #[.int .i64 a1_0, .int .i64 a1_1, .int .i64 a1_2, .int .i64 a1_3, .int .u32 a1_4, .int .u32 a1_5, .int .i64 a1_6] 35 (0, 0)) (by (with_reducible repeat (first | refine blk_drewN ?_ _ | refine blk_drew ?_ | refine blk_alloc ?_ _)); exact BK234.out) hg (Kd.R_away HO_5.out (fun _ hk => hk))); have n1_ := Aside0.mk (hb); have n2_ := Aside0.mk (ho); clear BK234; clear HB; clear HO_5; have BK234 := n0_; have HB := n1_; have HO242 := n2_; clear n0_ n1_ n2_; clear ho hb hg hat)); try go_wp2_with (first | ((with_reducible refine gate_builtin (b := .append) (xs := #[.tmp 31, .tmp 33]) rfl ?_); at_builtin; refine Kd.R_append k35 (w0 := w) w.heap.size rfl (.tmp 31) (.tmp 33) 22 35 (.agg #[(.int .i64 0), (.int .i64 0), (.int .i64 0), (.int .i64 0), (.int .u32 0), (.int .u32 0), (.int .i64 0)]) 48 rfl Try.underlying22 info35 rfl (by decide) (by omega) u5 x5_2 (⟨a1_0, a1_1, a1_2, a1_3, (⟨a1_4, a1_5⟩ : S33), a1_6⟩ : S35) [.int .i64 a1_0, .int .i64 a1_1, .int .i64 a1_2, .int .i64 a1_3, .int .u32 a1_4, .int .u32 a1_5, .int .i64 a1_6] (fun k_ => k_ ≠ gb234) (fun _ => False) rfl rfl ?aP (fun _ hk => hk.elim) ?aF ?aO ?aB ?aS ?aL ?_; (case aP => exact k35_mkM _ _ _ (⟨a1_0, a1_1, a1_2, a1_3, (⟨a1_4, a1_5⟩ : S33), a1_6⟩ : S35)); (case aB => exact (by repeat (first | (with_reducible first | exact HB.out | apply below_alloc | apply pw_below_drewN | apply below_drew1 | refine below_set ?_ GE234.out) | exact HB.out))); (case aF => exact (fun k_ hk => Kd.freshB (g := gb234) (o := .cells #[.int .i64 a1_0, .int .i64 a1_1, .int .i64 a1_2, .int .i64 a1_3, .int .u32 a1_4, .int .u32 a1_5, .int .i64 a1_6] 35 (0, 0)) (by (with_reducible repeat (first | refine blk_drewN ?_ _ | refine blk_drew ?_ | refine blk_alloc ?_ _)); exact BK234.out) k_ hk)); (case aO => exact (by (with_reducible repeat (first | apply Kd.R_alloc | apply Kd.R_drewN | apply Kd.R_drew)); exact HO_5.out)); (case aS => exact (below_size (by repeat (first | (with_reducible first | exact HB.out | apply below_alloc | apply pw_below_drewN | apply below_drew1 | refine below_set ?_ GE234.out) | exact HB.out)))); (case aL => have := LMc12.out; omega); intro v241 w14 ho hb hg hat; rw [← Ny240.out] at ho; have n0_ := Aside0.mk (blk_grown (g := gb234) (o := .cells #[.int .i64 a1_0, .int .i64 a1_1, .int .i64 a1_2, .int .i64 a1_3, .int .u32 a1_4, .int .u32 a1_5, .int .i64 a1_6] 35 (0, 0)) (by (with_reducible repeat (first | refine blk_drewN ?_ _ | refine blk_drew ?_ | refine blk_alloc ?_ _)); exact BK234.out) hg (Kd.R_away HO_5.out (fun _ hk => hk))); have n1_ := Aside0.mk (hb); have n2_ := Aside0.mk (ho); clear BK234; clear HB; clear HO_5; have BK234 := n0_; have HB := n1_; have HO242 := n2_; clear n0_ n1_ n2_; clear ho hb hg hat)))
        go_loopg [5, 7] kj2 (fun kq v5 v7 w' => ∃ (x5_2 : List (S35)) (x7_2 : Int), v7 = .int .i64 x7_2 ∧ Aside0 (waystoneref14_put.l1 kq l0 x5_2 x7_2 a1_0 a1_1 a1_2 a1_3 a1_4 a1_5 a1_6 = some r) ∧ Aside0 (kq ≤ kj2) ∧ Aside0 (Kd.R k35 35 w' w.heap.size (fun k_ => k_ ≠ gb234) v5 x5_2) ∧ Aside0 (w'.heap[gb234]? = some (.cells #[.int .i64 a1_0, .int .i64 a1_1, .int .i64 a1_2, .int .i64 a1_3, .int .u32 a1_4, .int .u32 a1_5, .int .i64 a1_6] 35 (0, 0))) ∧ Aside0 (Below w.heap.size w w'))
        case atStart => exact ⟨(y240), (0), (by first | rfl | (simp; done) | (simp [*]; done)), H', ⟨Nat.le_refl _⟩, ⟨by (with_reducible repeat (first | apply Kd.R_alloc | apply Kd.R_drewN | apply Kd.R_drew)); exact HO242.out⟩, ⟨by (with_reducible repeat (first | refine blk_drewN ?_ _ | refine blk_drew ?_ | refine blk_alloc ?_ _)); exact BK234.out⟩, ⟨by repeat (first | (with_reducible first | exact HB.out | apply below_alloc | apply pw_below_drewN | apply below_drew1 | refine below_set ?_ GE234.out) | exact HB.out)⟩⟩
        case round =>
          clear H'
          try clear c1
          try clear p2
          try clear q2
          try clear hx2
          try clear c4
          try clear c5
          try clear c5b0
          try clear c6
          try clear c6b0
          try clear p6
          try clear c7
          try clear c7b0
          try clear c8
          try clear c12
          try clear hcz11_0
          try clear hcz11_1
          try clear hcz11_2
          try clear hcz11_3
          try clear hcz11_4
          try clear hcz11_5
          try clear hcz11_6
          try clear hcz13_0
          try clear hcz13_1
          try clear hcz13_2
          try clear hcz13_3
          try clear hcz13_4
          try clear hcz13_5
          try clear hcz13_6
          try clear hcz9_0
          try clear hcz9_1
          try clear hcz9_2
          try clear hcz9_3
          try clear hcz9_4
          try clear hcz9_5
          try clear hcz9_6
          try clear hfz11_0
          try clear hfz11_1
          try clear hfz11_2
          try clear hfz11_3
          try clear hfz11_4
          try clear hfz11_5
          try clear hfz11_6
          try clear hfz13_0
          try clear hfz13_1
          try clear hfz13_2
          try clear hfz13_3
          try clear hfz13_4
          try clear hfz13_5
          try clear hfz13_6
          try clear hfz9_0
          try clear hfz9_1
          try clear hfz9_2
          try clear hfz9_3
          try clear hfz9_4
          try clear hfz9_5
          try clear hfz9_6
          try clear hx235_0
          try clear hx235_1
          try clear hx235_2
          try clear hx235_3
          try clear hx235_4
          try clear hx235_5
          try clear hx235_6
          try clear hx236_0
          try clear hx236_1
          try clear hx236_2
          try clear hx236_3
          try clear hx236_4
          try clear hx236_5
          try clear hx236_6
          try clear p2
          try clear p235
          try clear p236
          try clear p6
          try clear q2
          try clear q235
          try clear q236
          obtain ⟨x5_2, x7_2, rfl, HA, HK2, HO_5, BK234, HB⟩ := hrel
          cases gk with
          | zero => exact absurd HA.out (by simp [waystoneref14_put.l1])
          | succ k2 =>
            have H := HA.out
            clear HA
            simp only [waystoneref14_put.l1] at H
            by_cases c15 : x7_2 < (l0.length : Int)
            · rw [if_pos c15] at H
              have c15b0 : decide (x7_2 < (l0.length : Int)) = true := decide_eq_true c15
              clear c15
              by_cases c16 : 0 ≤ x7_2
              · rw [if_pos c16] at H
                have c16b0 : decide (0 ≤ x7_2) = true := decide_eq_true c16
                clear c16
                by_cases c17 : ((rd_T35 l0 x7_2).f0) > a1_0
                · rw [if_pos c17] at H
                  have c17b0 : decide (a1_0 < ((rd_T35 l0 x7_2).f0)) = true := decide_eq_true c17
                  clear c17
                  by_cases c18 : x5_2.length < 2932031007402
                  · rw [if_pos c18] at H
                    have LMc18 := Aside0.mk c18
                    clear c18
                    obtain ⟨y245, hy245⟩ : ∃ y_ : List (S35), y_ = (x5_2 ++ [(⟨(rd_T35 l0 x7_2).f0, (rd_T35 l0 x7_2).f1, (rd_T35 l0 x7_2).f2, (rd_T35 l0 x7_2).f3, (⟨(rd_T35 l0 x7_2).f4.f0, (rd_T35 l0 x7_2).f4.f1⟩ : S33), (rd_T35 l0 x7_2).f5⟩ : S35)]) := ⟨_, rfl⟩
                    replace H : (waystoneref14_put.l1 k2 l0 y245 (wrap64 (x7_2 + 1)) a1_0 a1_1 a1_2 a1_3 a1_4 a1_5 a1_6) = some r := by first | (rw [hy245]; with_reducible exact H) | (have H2_ := (Option.bind_some _ _).symm.trans H; rw [hy245]; with_reducible exact H2_) | (have H2_ := (Option.bind_some _ _).symm.trans H; with_reducible exact H2_) | with_reducible exact H | (rw [hy245]; exact H) | exact H
                    have Ny245 := Aside0.mk hy245
                    clear hy245
                    have H' := Aside0.mk H
                    clear H
                    have p243 : 0 ≤ (x7_2 : Int) := of_decide_eq_true (by first | (with_reducible assumption) | assumption)
                    have q243 : x7_2 < (l0.length : Int) := of_decide_eq_true (by first | (with_reducible assumption) | assumption)
                    obtain ⟨ad243, e243, hx243_0, hx243_1, hx243_2, hx243_3, hx243_4, hx243_5, hx243_6⟩ := at_T35 HR0.out x7_2 p243 q243
                    cases e243
                    replace hx243_0 := (HB.out.cell (World.block_lt_of_cell? w _ hx243_0)).trans hx243_0
                    replace hx243_1 := (HB.out.cell (World.block_lt_of_cell? w _ hx243_1)).trans hx243_1
                    replace hx243_2 := (HB.out.cell (World.block_lt_of_cell? w _ hx243_2)).trans hx243_2
                    replace hx243_3 := (HB.out.cell (World.block_lt_of_cell? w _ hx243_3)).trans hx243_3
                    replace hx243_4 := (HB.out.cell (World.block_lt_of_cell? w _ hx243_4)).trans hx243_4
                    replace hx243_5 := (HB.out.cell (World.block_lt_of_cell? w _ hx243_5)).trans hx243_5
                    replace hx243_6 := (HB.out.cell (World.block_lt_of_cell? w _ hx243_6)).trans hx243_6
                    replace p243 := eq_true p243
                    replace q243 := eq_true q243
                    have hcz19_0 : wr.cell? ⟨gb234, 0, none⟩ = some (.int .i64 a1_0) := (blk_cell BK234.out 0).trans rfl
                    have hcz19_1 : wr.cell? ⟨gb234, 1, none⟩ = some (.int .i64 a1_1) := (blk_cell BK234.out 1).trans rfl
                    have hcz19_2 : wr.cell? ⟨gb234, 2, none⟩ = some (.int .i64 a1_2) := (blk_cell BK234.out 2).trans rfl
                    have hcz19_3 : wr.cell? ⟨gb234, 3, none⟩ = some (.int .i64 a1_3) := (blk_cell BK234.out 3).trans rfl
                    have hcz19_4 : wr.cell? ⟨gb234, 4, none⟩ = some (.int .u32 a1_4) := (blk_cell BK234.out 4).trans rfl
                    have hcz19_5 : wr.cell? ⟨gb234, 5, none⟩ = some (.int .u32 a1_5) := (blk_cell BK234.out 5).trans rfl
                    have hcz19_6 : wr.cell? ⟨gb234, 6, none⟩ = some (.int .i64 a1_6) := (blk_cell BK234.out 6).trans rfl
                    have hfz19_0 := blk_frozen BK234.out 0
                    have hfz19_1 := blk_frozen BK234.out 1
                    have hfz19_2 := blk_frozen BK234.out 2
                    have hfz19_3 := blk_frozen BK234.out 3
                    have hfz19_4 := blk_frozen BK234.out 4
                    have hfz19_5 := blk_frozen BK234.out 5
                    have hfz19_6 := blk_frozen BK234.out 6
                    have p244 : 0 ≤ (x7_2 : Int) := of_decide_eq_true (by first | (with_reducible assumption) | assumption)
                    have q244 : x7_2 < (l0.length : Int) := of_decide_eq_true (by first | (with_reducible assumption) | assumption)
                    obtain ⟨ad244, e244, hx244_0, hx244_1, hx244_2, hx244_3, hx244_4, hx244_5, hx244_6⟩ := at_T35 HR0.out x7_2 p244 q244
                    obtain rfl : ad243 = ad244 := (by injection e244)
                    replace hx244_0 := (HB.out.cell (World.block_lt_of_cell? w _ hx244_0)).trans hx244_0
                    replace hx244_1 := (HB.out.cell (World.block_lt_of_cell? w _ hx244_1)).trans hx244_1
                    replace hx244_2 := (HB.out.cell (World.block_lt_of_cell? w _ hx244_2)).trans hx244_2
                    replace hx244_3 := (HB.out.cell (World.block_lt_of_cell? w _ hx244_3)).trans hx244_3
                    replace hx244_4 := (HB.out.cell (World.block_lt_of_cell? w _ hx244_4)).trans hx244_4
                    replace hx244_5 := (HB.out.cell (World.block_lt_of_cell? w _ hx244_5)).trans hx244_5
                    replace hx244_6 := (HB.out.cell (World.block_lt_of_cell? w _ hx244_6)).trans hx244_6
                    replace p244 := eq_true p244
                    replace q244 := eq_true q244
                    go_wp2_with (first | ((with_reducible refine gate_builtin (b := .append) (xs := #[.tmp 49, .tmp 54]) rfl ?_); at_builtin; refine Kd.R_append k35 (w0 := w) w.heap.size rfl (.tmp 49) (.tmp 54) 22 35 (.agg #[(.int .i64 0), (.int .i64 0), (.int .i64 0), (.int .i64 0), (.int .u32 0), (.int .u32 0), (.int .i64 0)]) 48 rfl Try.underlying22 info35 rfl (by decide) (by omega) u5 x5_2 (⟨(rd_T35 l0 x7_2).f0, (rd_T35 l0 x7_2).f1, (rd_T35 l0 x7_2).f2, (rd_T35 l0 x7_2).f3, (⟨(rd_T35 l0 x7_2).f4.f0, (rd_T35 l0 x7_2).f4.f1⟩ : S33), (rd_T35 l0 x7_2).f5⟩ : S35) [.int .i64 ((rd_T35 l0 x7_2).f0), .int .i64 ((rd_T35 l0 x7_2).f1), .int .i64 ((rd_T35 l0 x7_2).f2), .int .i64 ((rd_T35 l0 x7_2).f3), .int .u32 ((rd_T35 l0 x7_2).f4.f0), .int .u32 ((rd_T35 l0 x7_2).f4.f1), .int .i64 ((rd_T35 l0 x7_2).f5)] (fun k_ => k_ ≠ gb234) (fun _ => False) rfl rfl ?aP (fun _ hk => hk.elim) ?aF ?aO ?aB ?aS ?aL ?_; (case aP => exact k35_mkM _ _ _ (⟨(rd_T35 l0 x7_2).f0, (rd_T35 l0 x7_2).f1, (rd_T35 l0 x7_2).f2, (rd_T35 l0 x7_2).f3, (⟨(rd_T35 l0 x7_2).f4.f0, (rd_T35 l0 x7_2).f4.f1⟩ : S33), (rd_T35 l0 x7_2).f5⟩ : S35)); (case aB => exact (by repeat (first | (with_reducible first | exact HB.out | apply below_alloc | apply pw_below_drewN | apply below_drew1 | refine below_set ?_ GE234.out) | exact HB.out))); (case aF => exact (fun k_ hk => Kd.freshB (g := gb234) (o := .cells #[.int .i64 a1_0, .int .i64 a1_1, .int .i64 a1_2, .int .i64 a1_3, .int .u32 a1_4, .int .u32 a1_5, .int .i64 a1_6] 35 (0, 0)) (by (with_reducible repeat (first | refine blk_drewN ?_ _ | refine blk_drew ?_ | refine blk_alloc ?_ _)); exact BK234.out) k_ hk)); (case aO => exact (by (with_reducible repeat (first | apply Kd.R_alloc | apply Kd.R_drewN | apply Kd.R_drew)); exact HO_5.out)); (case aS => exact (below_size (by repeat (first | (with_reducible first | exact HB.out | apply below_alloc | apply pw_below_drewN | apply below_drew1 | refine below_set ?_ GE234.out) | exact HB.out)))); (case aL => have := LMc18.out; omega); intro v246 w20 ho hb hg hat; rw [← Ny245.out] at ho; have n0_ := Aside0.mk (blk_grown (g := gb234) (o := .cells #[.int .i64 a1_0, .int .i64 a1_1, .int .i64 a1_2, .int .i64 a1_3, .int .u32 a1_4, .int .u32 a1_5, .int .i64 a1_6] 35 (0, 0)) (by (with_reducible repeat (first | refine blk_drewN ?_ _ | refine blk_drew ?_ | refine blk_alloc ?_ _)); exact BK234.out) hg (Kd.R_away HO_5.out (fun _ hk => hk))); have n1_ := Aside0.mk (hb); have n2_ := Aside0.mk (ho); clear BK234; clear HB; clear HO_5; have BK234 := n0_; have HB := n1_; have HO247 := n2_; clear n0_ n1_ n2_; clear ho hb hg hat))
                    repeat (go_quiet (first | ((with_reducible refine gate_builtin (b := .append) (xs := #[.tmp 49, .tmp 54]) rfl ?_); at_builtin; refine Kd.R_append k35 (w0 := w) w.heap.size rfl (.tmp 49) (.tmp 54) 22 35 (.agg #[(.int .i64 0), (.int .i64 0), (.int .i64 0), (.int .i64 0), (.int .u32 0), (.int .u32 0), (.int .i64 0)]) 48 rfl Try.underlying22 info35 rfl (by decide) (by omega) u5 x5_2 (⟨(rd_T35 l0 x7_2).f0, (rd_T35 l0 x7_2).f1, (rd_T35 l0 x7_2).f2, (rd_T35 l0 x7_2).f3, (⟨(rd_T35 l0 x7_2).f4.f0, (rd_T35 l0 x7_2).f4.f1⟩ : S33), (rd_T35 l0 x7_2).f5⟩ : S35) [.int .i64 ((rd_T35 l0 x7_2).f0), .int .i64 ((rd_T35 l0 x7_2).f1), .int .i64 ((rd_T35 l0 x7_2).f2), .int .i64 ((rd_T35 l0 x7_2).f3), .int .u32 ((rd_T35 l0 x7_2).f4.f0), .int .u32 ((rd_T35 l0 x7_2).f4.f1), .int .i64 ((rd_T35 l0 x7_2).f5)] (fun k_ => k_ ≠ gb234) (fun _ => False) rfl rfl ?aP (fun _ hk => hk.elim) ?aF ?aO ?aB ?aS ?aL ?_; (case aP => exact k35_mkM _ _ _ (⟨(rd_T35 l0 x7_2).f0, (rd_T35 l0 x7_2).f1, (rd_T35 l0 x7_2).f2, (rd_T35 l0 x7_2).f3, (⟨(rd_T35 l0 x7_2).f4.f0, (rd_T35 l0 x7_2).f4.f1⟩ : S33), (rd_T35 l0 x7_2).f5⟩ : S35)); (case aB => exact (by repeat (first | (with_reducible first | exact HB.out | apply below_alloc | apply pw_below_drewN | apply below_drew1 | refine below_set ?_ GE234.out) | exact HB.out))); (case aF => exact (fun k_ hk => Kd.freshB (g := gb234) (o := .cells #[.int .i64 a1_0, .int .i64 a1_1, .int .i64 a1_2, .int .i64 a1_3, .int .u32 a1_4, .int .u32 a1_5, .int .i64 a1_6] 35 (0, 0)) (by (with_reducible repeat (first | refine blk_drewN ?_ _ | refine blk_drew ?_ | refine blk_alloc ?_ _)); exact BK234.out) k_ hk)); (case aO => exact (by (with_reducible repeat (first | apply Kd.R_alloc | apply Kd.R_drewN | apply Kd.R_drew)); exact HO_5.out)); (case aS => exact (below_size (by repeat (first | (with_reducible first | exact HB.out | apply below_alloc | apply pw_below_drewN | apply below_drew1 | refine below_set ?_ GE234.out) | exact HB.out)))); (case aL => have := LMc18.out; omega); intro v246 w20 ho hb hg hat; rw [← Ny245.out] at ho; have n0_ := Aside0.mk (blk_grown (g := gb234) (o := .cells #[.int .i64 a1_0, .int .i64 a1_1, .int .i64 a1_2, .int .i64 a1_3, .int .u32 a1_4, .int .u32 a1_5, .int .i64 a1_6] 35 (0, 0)) (by (with_reducible repeat (first | refine blk_drewN ?_ _ | refine blk_drew ?_ | refine blk_alloc ?_ _)); exact BK234.out) hg (Kd.R_away HO_5.out (fun _ hk => hk))); have n1_ := Aside0.mk (hb); have n2_ := Aside0.mk (ho); clear BK234; clear HB; clear HO_5; have BK234 := n0_; have HB := n1_; have HO247 := n2_; clear n0_ n1_ n2_; clear ho hb hg hat)); try go_wp2_with (first | ((with_reducible refine gate_builtin (b := .append) (xs := #[.tmp 49, .tmp 54]) rfl ?_); at_builtin; refine Kd.R_append k35 (w0 := w) w.heap.size rfl (.tmp 49) (.tmp 54) 22 35 (.agg #[(.int .i64 0), (.int .i64 0), (.int .i64 0), (.int .i64 0), (.int .u32 0), (.int .u32 0), (.int .i64 0)]) 48 rfl Try.underlying22 info35 rfl (by decide) (by omega) u5 x5_2 (⟨(rd_T35 l0 x7_2).f0, (rd_T35 l0 x7_2).f1, (rd_T35 l0 x7_2).f2, (rd_T35 l0 x7_2).f3, (⟨(rd_T35 l0 x7_2).f4.f0, (rd_T35 l0 x7_2).f4.f1⟩ : S33), (rd_T35 l0 x7_2).f5⟩ : S35) [.int .i64 ((rd_T35 l0 x7_2).f0), .int .i64 ((rd_T35 l0 x7_2).f1), .int .i64 ((rd_T35 l0 x7_2).f2), .int .i64 ((rd_T35 l0 x7_2).f3), .int .u32 ((rd_T35 l0 x7_2).f4.f0), .int .u32 ((rd_T35 l0 x7_2).f4.f1), .int .i64 ((rd_T35 l0 x7_2).f5)] (fun k_ => k_ ≠ gb234) (fun _ => False) rfl rfl ?aP (fun _ hk => hk.elim) ?aF ?aO ?aB ?aS ?aL ?_; (case aP => exact k35_mkM _ _ _ (⟨(rd_T35 l0 x7_2).f0, (rd_T35 l0 x7_2).f1, (rd_T35 l0 x7_2).f2, (rd_T35 l0 x7_2).f3, (⟨(rd_T35 l0 x7_2).f4.f0, (rd_T35 l0 x7_2).f4.f1⟩ : S33), (rd_T35 l0 x7_2).f5⟩ : S35)); (case aB => exact (by repeat (first | (with_reducible first | exact HB.out | apply below_alloc | apply pw_below_drewN | apply below_drew1 | refine below_set ?_ GE234.out) | exact HB.out))); (case aF => exact (fun k_ hk => Kd.freshB (g := gb234) (o := .cells #[.int .i64 a1_0, .int .i64 a1_1, .int .i64 a1_2, .int .i64 a1_3, .int .u32 a1_4, .int .u32 a1_5, .int .i64 a1_6] 35 (0, 0)) (by (with_reducible repeat (first | refine blk_drewN ?_ _ | refine blk_drew ?_ | refine blk_alloc ?_ _)); exact BK234.out) k_ hk)); (case aO => exact (by (with_reducible repeat (first | apply Kd.R_alloc | apply Kd.R_drewN | apply Kd.R_drew)); exact HO_5.out)); (case aS => exact (below_size (by repeat (first | (with_reducible first | exact HB.out | apply below_alloc | apply pw_below_drewN | apply below_drew1 | refine below_set ?_ GE234.out) | exact HB.out)))); (case aL => have := LMc18.out; omega); intro v246 w20 ho hb hg hat; rw [← Ny245.out] at ho; have n0_ := Aside0.mk (blk_grown (g := gb234) (o := .cells #[.int .i64 a1_0, .int .i64 a1_1, .int .i64 a1_2, .int .i64 a1_3, .int .u32 a1_4, .int .u32 a1_5, .int .i64 a1_6] 35 (0, 0)) (by (with_reducible repeat (first | refine blk_drewN ?_ _ | refine blk_drew ?_ | refine blk_alloc ?_ _)); exact BK234.out) hg (Kd.R_away HO_5.out (fun _ hk => hk))); have n1_ := Aside0.mk (hb); have n2_ := Aside0.mk (ho); clear BK234; clear HB; clear HO_5; have BK234 := n0_; have HB := n1_; have HO247 := n2_; clear n0_ n1_ n2_; clear ho hb hg hat)))
                    go_roundg k2
                    case measure => have := HJ2.out; have := HK2.out; omega
                    case rel => exact ⟨(y245), (wrap64 (x7_2 + 1)), (by first | rfl | (simp; done) | (simp [*]; done)), H', ⟨by have := HJ2.out; have := HK2.out; omega⟩, ⟨by (with_reducible repeat (first | apply Kd.R_alloc | apply Kd.R_drewN | apply Kd.R_drew)); exact HO247.out⟩, ⟨by (with_reducible repeat (first | refine blk_drewN ?_ _ | refine blk_drew ?_ | refine blk_alloc ?_ _)); exact BK234.out⟩, ⟨by repeat (first | (with_reducible first | exact HB.out | apply below_alloc | apply pw_below_drewN | apply below_drew1 | refine below_set ?_ GE234.out) | exact HB.out)⟩⟩
                  · rw [if_neg c18] at H
                    exact absurd H (by simp)
                · rw [if_neg c17] at H
                  have c17b0 : decide (a1_0 < ((rd_T35 l0 x7_2).f0)) = false := decide_eq_false c17
                  clear c17
                  have H' := Aside0.mk H
                  clear H
                  have p243 : 0 ≤ (x7_2 : Int) := of_decide_eq_true (by first | (with_reducible assumption) | assumption)
                  have q243 : x7_2 < (l0.length : Int) := of_decide_eq_true (by first | (with_reducible assumption) | assumption)
                  obtain ⟨ad243, e243, hx243_0, hx243_1, hx243_2, hx243_3, hx243_4, hx243_5, hx243_6⟩ := at_T35 HR0.out x7_2 p243 q243
                  cases e243
                  replace hx243_0 := (HB.out.cell (World.block_lt_of_cell? w _ hx243_0)).trans hx243_0
                  replace hx243_1 := (HB.out.cell (World.block_lt_of_cell? w _ hx243_1)).trans hx243_1
                  replace hx243_2 := (HB.out.cell (World.block_lt_of_cell? w _ hx243_2)).trans hx243_2
                  replace hx243_3 := (HB.out.cell (World.block_lt_of_cell? w _ hx243_3)).trans hx243_3
                  replace hx243_4 := (HB.out.cell (World.block_lt_of_cell? w _ hx243_4)).trans hx243_4
                  replace hx243_5 := (HB.out.cell (World.block_lt_of_cell? w _ hx243_5)).trans hx243_5
                  replace hx243_6 := (HB.out.cell (World.block_lt_of_cell? w _ hx243_6)).trans hx243_6
                  replace p243 := eq_true p243
                  replace q243 := eq_true q243
                  have hcz21_0 : wr.cell? ⟨gb234, 0, none⟩ = some (.int .i64 a1_0) := (blk_cell BK234.out 0).trans rfl
                  have hcz21_1 : wr.cell? ⟨gb234, 1, none⟩ = some (.int .i64 a1_1) := (blk_cell BK234.out 1).trans rfl
                  have hcz21_2 : wr.cell? ⟨gb234, 2, none⟩ = some (.int .i64 a1_2) := (blk_cell BK234.out 2).trans rfl
                  have hcz21_3 : wr.cell? ⟨gb234, 3, none⟩ = some (.int .i64 a1_3) := (blk_cell BK234.out 3).trans rfl
                  have hcz21_4 : wr.cell? ⟨gb234, 4, none⟩ = some (.int .u32 a1_4) := (blk_cell BK234.out 4).trans rfl
                  have hcz21_5 : wr.cell? ⟨gb234, 5, none⟩ = some (.int .u32 a1_5) := (blk_cell BK234.out 5).trans rfl
                  have hcz21_6 : wr.cell? ⟨gb234, 6, none⟩ = some (.int .i64 a1_6) := (blk_cell BK234.out 6).trans rfl
                  have hfz21_0 := blk_frozen BK234.out 0
                  have hfz21_1 := blk_frozen BK234.out 1
                  have hfz21_2 := blk_frozen BK234.out 2
                  have hfz21_3 := blk_frozen BK234.out 3
                  have hfz21_4 := blk_frozen BK234.out 4
                  have hfz21_5 := blk_frozen BK234.out 5
                  have hfz21_6 := blk_frozen BK234.out 6
                  go_wp2
                  repeat (go_quiet (fail); try go_wp2)
                  go_roundg k2
                  case measure => have := HJ2.out; have := HK2.out; omega
                  case rel => exact ⟨(x5_2), (wrap64 (x7_2 + 1)), (by first | rfl | (simp; done) | (simp [*]; done)), H', ⟨by have := HJ2.out; have := HK2.out; omega⟩, ⟨by (with_reducible repeat (first | apply Kd.R_alloc | apply Kd.R_drewN | apply Kd.R_drew)); exact HO_5.out⟩, ⟨by (with_reducible repeat (first | refine blk_drewN ?_ _ | refine blk_drew ?_ | refine blk_alloc ?_ _)); exact BK234.out⟩, ⟨by repeat (first | (with_reducible first | exact HB.out | apply below_alloc | apply pw_below_drewN | apply below_drew1 | refine below_set ?_ GE234.out) | exact HB.out)⟩⟩
              · rw [if_neg c16] at H
                exact absurd H (by simp)
            · rw [if_neg c15] at H
              have c15b0 : decide (x7_2 < (l0.length : Int)) = false := decide_eq_false c15
              clear c15
              obtain rfl := Option.some.inj H
              go_wp2
              repeat (go_quiet (fail); try go_wp2)
              go_ret
              exact ⟨_, by first | rfl | (simp [errW_none, errW_some] <;> rfl) | (simp [*, errW_none, errW_some] <;> rfl), by (with_reducible repeat (first | apply Kd.R_alloc | apply Kd.R_drewN | apply Kd.R_drew)); exact Kd.R_mono HO_5.out (fun _ hk => trivial), by repeat (first | (with_reducible first | exact HB.out | apply below_alloc | apply pw_below_drewN | apply below_drew1 | refine below_set ?_ GE234.out) | exact HB.out)⟩
      · rw [if_neg c12] at H
        exact absurd H (by simp)
mutual
def waystoneref14_ids.l0 : Nat → List (S35) → List (S35) → Int → Option (List Int)
  | 0, _, _, _ => none
  | k + 1, x1, x5, x6 => if x6 < (x1.length : Int) then (if 0 ≤ x6 then ((waystoneref14_put.f k x5 ((rd_T35 x1 x6).f0) ((rd_T35 x1 x6).f1) ((rd_T35 x1 x6).f2) ((rd_T35 x1 x6).f3) ((rd_T35 x1 x6).f4.f0) ((rd_T35 x1 x6).f4.f1) ((rd_T35 x1 x6).f5)).bind fun t252 => (waystoneref14_ids.l0 k x1 t252 (wrap64 (x6 + 1)))) else (none)) else (waystoneref14_ids.l1 k x5 ([] : List Int) 0)
def waystoneref14_ids.l1 : Nat → List (S35) → List Int → Int → Option (List Int)
  | 0, _, _, _ => none
  | k + 1, x5, x7, x8 => if x8 < (x5.length : Int) then (if 0 ≤ x8 then (if x7.length < 17592186044416 then (waystoneref14_ids.l1 k x5 (x7 ++ [(rd_T35 x5 x8).f0]) (wrap64 (x8 + 1))) else (none)) else (none)) else (some x7)
end
def waystoneref14_ids.f (k : Nat) (l0 : List (S35)) (l1 : List (S35)) : Option (List Int) := if ([] : List (S35)).length + l0.length < 2932031007402 then (waystoneref14_ids.l0 k l1 (([] : List (S35)) ++ l0) 0) else (none)
set_option maxHeartbeats 8000000 in
set_option maxRecDepth 100000 in
theorem waystoneref14_ids.calls (k : Nat) (A0 : Option Addr) (c0 : Nat) (l0 : List (S35)) (A1 : Option Addr) (c1 : Nat) (l1 : List (S35)) (r : List Int) (w : World) (hr0 : Kd.C k35 w A0 l0.length l0) (hc0 : l0.length ≤ c0) (hr1 : Kd.C k35 w A1 l1.length l1) (hc1 : l1.length ≤ c1) (h : waystoneref14_ids.f k l0 l1 = some r) :
    Calls Try.prog 28 #[.slice A0 l0.length c0, .slice A1 l1.length c1] w fun e w' => ∃ v0_ : Value, e = .returned (v0_) ∧ Kd.R (Kd.int .i64) 3 w' w.heap.size (fun _ => True) v0_ r ∧ Below w.heap.size w w' := by
  have hu35 := Try.underlying35
  have HR0 := Aside0.mk hr0
  have HC0 := Aside0.mk hc0
  clear hr0 hc0
  have HR1 := Aside0.mk hr1
  have HC1 := Aside0.mk hc1
  clear hr1 hc1
  have HB := Aside0.mk (Below.refl w.heap.size w)
  have H : (if ([] : List (S35)).length + l0.length < 2932031007402 then (waystoneref14_ids.l0 k l1 (([] : List (S35)) ++ l0) 0) else (none)) = some r := h
  clear h
  by_cases c3 : ([] : List (S35)).length + l0.length < 2932031007402
  · rw [if_pos c3] at H
    have LMc3 := Aside0.mk c3
    clear c3
    obtain ⟨y248, hy248⟩ : ∃ y_ : List (S35), y_ = (([] : List (S35)) ++ l0) := ⟨_, rfl⟩
    replace H : (waystoneref14_ids.l0 k l1 y248 0) = some r := by first | (rw [hy248]; with_reducible exact H) | (have H2_ := (Option.bind_some _ _).symm.trans H; rw [hy248]; with_reducible exact H2_) | (have H2_ := (Option.bind_some _ _).symm.trans H; with_reducible exact H2_) | with_reducible exact H | (rw [hy248]; exact H) | exact H
    have Ny248 := Aside0.mk hy248
    clear hy248
    have H' := Aside0.mk H
    clear H
    go_enter Try.func28, Try.ntmps28
    go_wp2_with (first | ((with_reducible refine gate_builtin (b := .append) (xs := #[.tmp 9, .tmp 10]) rfl ?_); at_builtin; refine Kd.R_append_rows k35 (w0 := w) w.heap.size rfl (.tmp 9) (.tmp 10) 22 35 (.agg #[(.int .i64 0), (.int .i64 0), (.int .i64 0), (.int .i64 0), (.int .u32 0), (.int .u32 0), (.int .i64 0)]) 48 rfl Try.underlying22 info35 rfl (by decide) (by omega) (.slice none 0 0) ([] : List (S35)) l0 _ _ _ (fun _ => True) (fun _ => False) rfl rfl ?aO ?aR (fun _ _ h => h) (fun _ h => h.elim) ?aF ?aB ?aS ?aL ?_; (case aR => repeat (first | exact HR0.out | (with_reducible refine Kd.C_alloc ?_ _) | (with_reducible refine Kd.C_drewN ?_ _) | (with_reducible refine Kd.C_drew ?_))); (case aB => exact (by repeat (first | (with_reducible first | exact HB.out | apply below_alloc | apply pw_below_drewN | apply below_drew1) | exact HB.out))); (case aF => exact (fun _ _ => trivial)); (case aO => exact ((Kd.R_nil _ _ _ _ (fun _ => True)))); (case aS => exact (below_size (by repeat (first | (with_reducible first | exact HB.out | apply below_alloc | apply pw_below_drewN | apply below_drew1) | exact HB.out)))); (case aL => have := LMc3.out; omega); intro v249 w4 ho hb hg hat; rw [← Ny248.out] at ho; have n0_ := Aside0.mk (hb); have n1_ := Aside0.mk (ho); clear HB; have HB := n0_; have HO250 := n1_; clear n0_ n1_; clear ho hb hg hat))
    go_loopg [5, 6] k (fun kq v5 v6 w' => ∃ (x5_1 : List (S35)) (x6_1 : Int), v6 = .int .i64 x6_1 ∧ Aside0 (waystoneref14_ids.l0 kq l1 x5_1 x6_1 = some r) ∧ Aside0 (kq ≤ k) ∧ Aside0 (Kd.R k35 35 w' w.heap.size (fun _ => True) v5 x5_1) ∧ Aside0 (Below w.heap.size w w'))
    case atStart => exact ⟨(y248), (0), (by first | rfl | (simp; done) | (simp [*]; done)), H', ⟨Nat.le_refl _⟩, ⟨by (with_reducible repeat (first | apply Kd.R_alloc | apply Kd.R_drewN | apply Kd.R_drew)); exact HO250.out⟩, ⟨by repeat (first | (with_reducible first | exact HB.out | apply below_alloc | apply pw_below_drewN | apply below_drew1) | exact HB.out)⟩⟩
    case round =>
      clear H'
      try clear c1
      try clear c2
      try clear p2
      try clear c3
      obtain ⟨x5_1, x6_1, rfl, HA, HK1, HO_5, HB⟩ := hrel
      cases gk with
      | zero => exact absurd HA.out (by simp [waystoneref14_ids.l0])
      | succ k1 =>
        have H := HA.out
        clear HA
        simp only [waystoneref14_ids.l0] at H
        by_cases c5 : x6_1 < (l1.length : Int)
        · rw [if_pos c5] at H
          have c5b0 : decide (x6_1 < (l1.length : Int)) = true := decide_eq_true c5
          clear c5
          by_cases c6 : 0 ≤ x6_1
          · rw [if_pos c6] at H
            have c6b0 : decide (0 ≤ x6_1) = true := decide_eq_true c6
            clear c6
            replace H := Option.bind_eq_some_iff.mp H
            obtain ⟨t252, A70, H⟩ := H
            replace H : (waystoneref14_ids.l0 k1 l1 t252 (wrap64 (x6_1 + 1))) = some r := H
            have A7 := Aside0.mk A70
            clear A70
            have H' := Aside0.mk H
            clear H
            have p251 : 0 ≤ (x6_1 : Int) := of_decide_eq_true (by first | (with_reducible assumption) | assumption)
            have q251 : x6_1 < (l1.length : Int) := of_decide_eq_true (by first | (with_reducible assumption) | assumption)
            obtain ⟨ad251, e251, hx251_0, hx251_1, hx251_2, hx251_3, hx251_4, hx251_5, hx251_6⟩ := at_T35 HR1.out x6_1 p251 q251
            cases e251
            replace hx251_0 := (HB.out.cell (World.block_lt_of_cell? w _ hx251_0)).trans hx251_0
            replace hx251_1 := (HB.out.cell (World.block_lt_of_cell? w _ hx251_1)).trans hx251_1
            replace hx251_2 := (HB.out.cell (World.block_lt_of_cell? w _ hx251_2)).trans hx251_2
            replace hx251_3 := (HB.out.cell (World.block_lt_of_cell? w _ hx251_3)).trans hx251_3
            replace hx251_4 := (HB.out.cell (World.block_lt_of_cell? w _ hx251_4)).trans hx251_4
            replace hx251_5 := (HB.out.cell (World.block_lt_of_cell? w _ hx251_5)).trans hx251_5
            replace hx251_6 := (HB.out.cell (World.block_lt_of_cell? w _ hx251_6)).trans hx251_6
            replace p251 := eq_true p251
            replace q251 := eq_true q251
            obtain ⟨Ao8, co8, eo8⟩ := Kd.R_slice HO_5.out
            subst eo8
            go_wp2_with (first | ((with_reducible refine gate_callee (f := 40) rfl ?_); refine goesL_ (some 23) rfl rfl Try.func40 (by kernel_rfl) rfl #[.slice Ao8 x5_1.length co8, .agg #[.int .i64 ((rd_T35 l1 x6_1).f0), .int .i64 ((rd_T35 l1 x6_1).f1), .int .i64 ((rd_T35 l1 x6_1).f2), .int .i64 ((rd_T35 l1 x6_1).f3), .int .u32 ((rd_T35 l1 x6_1).f4.f0), .int .u32 ((rd_T35 l1 x6_1).f4.f1), .int .i64 ((rd_T35 l1 x6_1).f5)]] rfl (by (try simp only [List.map_toArray, List.map_cons, List.map_nil]); first | done | rfl | (simp only [List.length_drop, List.length_take]; rfl)) ?_; (with_reducible refine (waystoneref14_put.calls k1 _ _ x5_1 ((rd_T35 l1 x6_1).f0) ((rd_T35 l1 x6_1).f1) ((rd_T35 l1 x6_1).f2) ((rd_T35 l1 x6_1).f3) ((rd_T35 l1 x6_1).f4.f0) ((rd_T35 l1 x6_1).f4.f1) ((rd_T35 l1 x6_1).f5) t252 _ ?side1 ?side2 A7.out).mono ?_); (case side1 => repeat (first | exact (Kd.R_reads' HO_5.out).2.2 | (with_reducible refine Kd.C_alloc ?_ _) | (with_reducible refine Kd.C_drewN ?_ _) | (with_reducible refine Kd.C_drew ?_))); (case side2 => exact (Kd.R_reads' HO_5.out).2.1); rintro e w9 ⟨v253, rfl, ho0, hb⟩; refine ⟨_, rfl, ?_⟩; have n0_ := Aside0.mk (Kd.R_elder' (by (with_reducible repeat (first | apply Kd.R_alloc | apply Kd.R_drewN | apply Kd.R_drew)); exact HO_5.out) (Kd.R_base ho0) hb); have n1_ := Aside0.mk (Kd.R_lower (Kd.R_new' ho0 (Kd.R_lt (by (with_reducible repeat (first | apply Kd.R_alloc | apply Kd.R_drewN | apply Kd.R_drew)); exact HO_5.out))) (below_size (by repeat (first | (with_reducible first | exact HB.out | apply below_alloc | apply pw_below_drewN | apply below_drew1) | exact HB.out)))); have n2_ := Aside0.mk (below_step (by repeat (first | (with_reducible first | exact HB.out | apply below_alloc | apply pw_below_drewN | apply below_drew1) | exact HB.out)) hb); clear HO_5; clear HB; have HO_5 := n0_; have HO254 := n1_; have HB := n2_; clear n0_ n1_ n2_; (try clear hb); (try clear hb2); (try clear hk); (try clear hi); (try clear ho0)))
            go_roundg k1
            case measure => have := HK1.out; omega
            case rel => exact ⟨(t252), (wrap64 (x6_1 + 1)), (by first | rfl | (simp; done) | (simp [*]; done)), H', ⟨by have := HK1.out; omega⟩, ⟨by (with_reducible repeat (first | apply Kd.R_alloc | apply Kd.R_drewN | apply Kd.R_drew)); exact Kd.R_mono HO254.out (fun _ hk => trivial)⟩, ⟨by repeat (first | (with_reducible first | exact HB.out | apply below_alloc | apply pw_below_drewN | apply below_drew1) | exact HB.out)⟩⟩
          · rw [if_neg c6] at H
            exact absurd H (by simp)
        · rw [if_neg c5] at H
          have c5b0 : decide (x6_1 < (l1.length : Int)) = false := decide_eq_false c5
          clear c5
          have H' := Aside0.mk H
          clear H
          go_wp2
          go_loopg [7, 8] k1 (fun kq v7 v8 w' => ∃ (x7_2 : List Int) (x8_2 : Int), v8 = .int .i64 x8_2 ∧ Aside0 (waystoneref14_ids.l1 kq x5_1 x7_2 x8_2 = some r) ∧ Aside0 (kq ≤ k1) ∧ Aside0 (Kd.R k35 35 w' w.heap.size (fun _ => True) u5 x5_1) ∧ Aside0 (Kd.R (Kd.int .i64) 3 w' w.heap.size (fun _ => True) v7 x7_2) ∧ Aside0 (Below w.heap.size w w'))
          case atStart => exact ⟨(([] : List Int)), (0), (by first | rfl | (simp; done) | (simp [*]; done)), H', ⟨Nat.le_refl _⟩, ⟨by (with_reducible repeat (first | apply Kd.R_alloc | apply Kd.R_drewN | apply Kd.R_drew)); exact HO_5.out⟩, ⟨by first | exact Kd.R_nil _ _ _ _ _ | exact Kd.N_nil _ _ _ _ _ | exact Kd.V_nil _ _ _ _ _ | exact Kd.Q_nil _ _ _ _ _ | exact Kd.S_nil _ _ _ _ _⟩, ⟨by repeat (first | (with_reducible first | exact HB.out | apply below_alloc | apply pw_below_drewN | apply below_drew1) | exact HB.out)⟩⟩
          case round =>
            clear H'
            try clear c1
            try clear c2
            try clear p2
            try clear q2
            try clear hx2
            try clear c3
            try clear c4
            try clear c5
            try clear c5b0
            try clear c6
            try clear c6b0
            try clear p6
            try clear hx251_0
            try clear hx251_1
            try clear hx251_2
            try clear hx251_3
            try clear hx251_4
            try clear hx251_5
            try clear hx251_6
            try clear p2
            try clear p251
            try clear q251
            obtain ⟨x7_2, x8_2, rfl, HA, HK2, HO_5, HO_7, HB⟩ := hrel
            cases gk with
            | zero => exact absurd HA.out (by simp [waystoneref14_ids.l1])
            | succ k2 =>
              have H := HA.out
              clear HA
              simp only [waystoneref14_ids.l1] at H
              by_cases c10 : x8_2 < (x5_1.length : Int)
              · rw [if_pos c10] at H
                have c10b0 : decide (x8_2 < (x5_1.length : Int)) = true := decide_eq_true c10
                clear c10
                by_cases c11 : 0 ≤ x8_2
                · rw [if_pos c11] at H
                  have c11b0 : decide (0 ≤ x8_2) = true := decide_eq_true c11
                  clear c11
                  by_cases c12 : x7_2.length < 17592186044416
                  · rw [if_pos c12] at H
                    have LMc12 := Aside0.mk c12
                    clear c12
                    obtain ⟨y256, hy256⟩ : ∃ y_ : List Int, y_ = (x7_2 ++ [(rd_T35 x5_1 x8_2).f0]) := ⟨_, rfl⟩
                    replace H : (waystoneref14_ids.l1 k2 x5_1 y256 (wrap64 (x8_2 + 1))) = some r := by first | (rw [hy256]; with_reducible exact H) | (have H2_ := (Option.bind_some _ _).symm.trans H; rw [hy256]; with_reducible exact H2_) | (have H2_ := (Option.bind_some _ _).symm.trans H; with_reducible exact H2_) | with_reducible exact H | (rw [hy256]; exact H) | exact H
                    have Ny256 := Aside0.mk hy256
                    clear hy256
                    have H' := Aside0.mk H
                    clear H
                    obtain ⟨Ao13, co13, eo13⟩ := Kd.R_slice HO_5.out
                    subst eo13
                    have p255 : 0 ≤ (x8_2 : Int) := of_decide_eq_true (by first | (with_reducible assumption) | assumption)
                    have q255 : x8_2 < (x5_1.length : Int) := of_decide_eq_true (by first | (with_reducible assumption) | assumption)
                    obtain ⟨ad255, e255, hx255_0, hx255_1, hx255_2, hx255_3, hx255_4, hx255_5, hx255_6⟩ := at_T35 (Kd.R_reads' HO_5.out).2.2 x8_2 p255 q255
                    cases e255
                    replace p255 := eq_true p255
                    replace q255 := eq_true q255
                    go_wp2_with (first | ((with_reducible refine gate_builtin (b := .append) (xs := #[.tmp 30, .tmp 36]) rfl ?_); at_builtin; refine Kd.R_append (Kd.int .i64) (w0 := w) w.heap.size rfl (.tmp 30) (.tmp 36) 50 3 (.int .i64 0) 8 rfl Try.underlying50 info3 rfl (by decide) (by omega) u7 x7_2 ((rd_T35 x5_1 x8_2).f0) [.int .i64 ((rd_T35 x5_1 x8_2).f0)] (fun _ => True) (fun _ => False) rfl rfl ?aP (fun _ hk => hk.elim) ?aF ?aO ?aB ?aS ?aL ?_; (case aP => exact rfl); (case aB => exact (by repeat (first | (with_reducible first | exact HB.out | apply below_alloc | apply pw_below_drewN | apply below_drew1) | exact HB.out))); (case aF => exact (fun _ _ => trivial)); (case aO => exact (by (with_reducible repeat (first | apply Kd.R_alloc | apply Kd.R_drewN | apply Kd.R_drew)); exact HO_7.out)); (case aS => exact (below_size (by repeat (first | (with_reducible first | exact HB.out | apply below_alloc | apply pw_below_drewN | apply below_drew1) | exact HB.out)))); (case aL => have := LMc12.out; omega); intro v257 w14 ho hb hg hat; rw [← Ny256.out] at ho; have n0_ := Aside0.mk (Kd.R_over' (by (with_reducible repeat (first | apply Kd.R_alloc | apply Kd.R_drewN | apply Kd.R_drew)); exact HO_5.out) (Kd.R_typed (by (with_reducible repeat (first | apply Kd.R_alloc | apply Kd.R_drewN | apply Kd.R_drew)); exact HO_7.out)) (by decide) hg); have n1_ := Aside0.mk (hb); have n2_ := Aside0.mk (ho); clear HO_5; clear HB; clear HO_7; have HO_5 := n0_; have HB := n1_; have HO258 := n2_; clear n0_ n1_ n2_; clear ho hb hg hat))
                    go_roundg k2
                    case measure => have := HK1.out; have := HK2.out; omega
                    case rel => exact ⟨(y256), (wrap64 (x8_2 + 1)), (by first | rfl | (simp; done) | (simp [*]; done)), H', ⟨by have := HK1.out; have := HK2.out; omega⟩, ⟨by (with_reducible repeat (first | apply Kd.R_alloc | apply Kd.R_drewN | apply Kd.R_drew)); exact HO_5.out⟩, ⟨by (with_reducible repeat (first | apply Kd.R_alloc | apply Kd.R_drewN | apply Kd.R_drew)); exact HO258.out⟩, ⟨by repeat (first | (with_reducible first | exact HB.out | apply below_alloc | apply pw_below_drewN | apply below_drew1) | exact HB.out)⟩⟩
                  · rw [if_neg c12] at H
                    exact absurd H (by simp)
                · rw [if_neg c11] at H
                  exact absurd H (by simp)
              · rw [if_neg c10] at H
                have c10b0 : decide (x8_2 < (x5_1.length : Int)) = false := decide_eq_false c10
                clear c10
                obtain rfl := Option.some.inj H
                obtain ⟨Ao15, co15, eo15⟩ := Kd.R_slice HO_5.out
                subst eo15
                go_wp2
                go_ret
                exact ⟨_, by first | rfl | (simp [errW_none, errW_some] <;> rfl) | (simp [*, errW_none, errW_some] <;> rfl), by (with_reducible repeat (first | apply Kd.R_alloc | apply Kd.R_drewN | apply Kd.R_drew)); exact HO_7.out, by repeat (first | (with_reducible first | exact HB.out | apply below_alloc | apply pw_below_drewN | apply below_drew1) | exact HB.out)⟩
  · rw [if_neg c3] at H
    exact absurd H (by simp)
end Go.Proofs.Ytckjhdlpbfcaiaa.E
