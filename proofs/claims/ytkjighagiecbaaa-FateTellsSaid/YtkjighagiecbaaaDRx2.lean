/- Rx2. -/
import Derived.Test.YtkjighagiecbaaaDFatQ
import Derived.Test.YtkjighagiecbaaaDTopo5
import Derived.Test.YtkjighagiecbaaaDTopo4b
import Derived.Test.YtkjighagiecbaaaDFatN
namespace Go.Proofs.Ytkjighagiecbaaa.R
open Go.Proofs.Ytkjighagiecbaaa.P
open Go.RowKit Go.Proofs.YtkjighagiecbaaaW.PrintWords Go.Proofs.YtkjighagiecbaaaW.PrintLast Go.Proofs.YtkjighagiecbaaaW.PrintMore
set_option linter.unusedVariables false
set_option linter.unusedSimpArgs false
mutual
def waystoneref07_first.l0 : Nat → List (S62) → Int → Int → Bool → Bool → Int → Int → Int → Int → Int → Int → Int → Int → Option (Int × Int × Int × Int × Int × Int × Int × Bool)
  | 0, _, _, _, _, _, _, _, _, _, _, _, _, _ => none
  | k + 1, x0, x1, x2, x3, x11, x12, x103000, x103001, x103002, x103003, x103004, x103005, x103006 => if x12 < (x0.length : Int) then (if 0 ≤ x12 then (if ((rd_T62 x0 x12).f3) = 2 then (waystoneref07_first.j1 k x0 x1 x2 x3 x11 x12 true x103000 x103001 x103002 x103003 x103004 x103005 x103006 ((rd_T62 x0 x12).f0) ((rd_T62 x0 x12).f1) ((rd_T62 x0 x12).f2) ((rd_T62 x0 x12).f3) ((rd_T62 x0 x12).f4.f0) ((rd_T62 x0 x12).f4.f1) ((rd_T62 x0 x12).f5)) else (waystoneref07_first.j1 k x0 x1 x2 x3 x11 x12 (((rd_T62 x0 x12).f3) == 3) x103000 x103001 x103002 x103003 x103004 x103005 x103006 ((rd_T62 x0 x12).f0) ((rd_T62 x0 x12).f1) ((rd_T62 x0 x12).f2) ((rd_T62 x0 x12).f3) ((rd_T62 x0 x12).f4.f0) ((rd_T62 x0 x12).f4.f1) ((rd_T62 x0 x12).f5))) else (none)) else (some (x103000, x103001, x103002, x103003, x103004, x103005, x103006, x11))
def waystoneref07_first.j1 : Nat → List (S62) → Int → Int → Bool → Bool → Int → Bool → Int → Int → Int → Int → Int → Int → Int → Int → Int → Int → Int → Int → Int → Int → Option (Int × Int × Int × Int × Int × Int × Int × Bool)
  | 0, _, _, _, _, _, _, _, _, _, _, _, _, _, _, _, _, _, _, _, _, _ => none
  | k + 1, x0, x1, x2, x3, x11, x12, x14, x103000, x103001, x103002, x103003, x103004, x103005, x103006, x105000, x105001, x105002, x105003, x105004, x105005, x105006 => if x105001 = x1 then (if x2 < x105004 then (waystoneref07_first.j2 k x0 x1 x2 x3 x11 x12 true x103000 x103001 x103002 x103003 x103004 x103005 x103006 x105000 x105001 x105002 x105003 x105004 x105005 x105006) else (if x2 > x105005 then (waystoneref07_first.j2 k x0 x1 x2 x3 x11 x12 true x103000 x103001 x103002 x103003 x103004 x103005 x103006 x105000 x105001 x105002 x105003 x105004 x105005 x105006) else (waystoneref07_first.j2 k x0 x1 x2 x3 x11 x12 (x14 != x3) x103000 x103001 x103002 x103003 x103004 x103005 x103006 x105000 x105001 x105002 x105003 x105004 x105005 x105006))) else (waystoneref07_first.j2 k x0 x1 x2 x3 x11 x12 true x103000 x103001 x103002 x103003 x103004 x103005 x103006 x105000 x105001 x105002 x105003 x105004 x105005 x105006)
def waystoneref07_first.j2 : Nat → List (S62) → Int → Int → Bool → Bool → Int → Bool → Int → Int → Int → Int → Int → Int → Int → Int → Int → Int → Int → Int → Int → Int → Option (Int × Int × Int × Int × Int × Int × Int × Bool)
  | 0, _, _, _, _, _, _, _, _, _, _, _, _, _, _, _, _, _, _, _, _, _ => none
  | k + 1, x0, x1, x2, x3, x11, x12, x56, x103000, x103001, x103002, x103003, x103004, x103005, x103006, x105000, x105001, x105002, x105003, x105004, x105005, x105006 => if x56 = true then (waystoneref07_first.l0 k x0 x1 x2 x3 x11 (wrap64 (x12 + 1)) x103000 x103001 x103002 x103003 x103004 x103005 x103006) else (if x11 = true then (if x105002 > x103002 then (waystoneref07_first.l0 k x0 x1 x2 x3 true (wrap64 (x12 + 1)) x105000 x105001 x105002 x105003 x105004 x105005 x105006) else (if x105002 = x103002 then (if x105000 < x103000 then (waystoneref07_first.l0 k x0 x1 x2 x3 true (wrap64 (x12 + 1)) x105000 x105001 x105002 x105003 x105004 x105005 x105006) else (waystoneref07_first.l0 k x0 x1 x2 x3 x11 (wrap64 (x12 + 1)) x103000 x103001 x103002 x103003 x103004 x103005 x103006)) else (waystoneref07_first.l0 k x0 x1 x2 x3 x11 (wrap64 (x12 + 1)) x103000 x103001 x103002 x103003 x103004 x103005 x103006))) else (waystoneref07_first.l0 k x0 x1 x2 x3 true (wrap64 (x12 + 1)) x105000 x105001 x105002 x105003 x105004 x105005 x105006))
end
def waystoneref07_first.f (k : Nat) (l0 : List (S62)) (a1 : Int) (a2 : Int) (a3 : Bool) : Option (Int × Int × Int × Int × Int × Int × Int × Bool) := waystoneref07_first.l0 k l0 a1 a2 a3 false 0 0 0 0 0 0 0 0
set_option maxHeartbeats 8000000 in
set_option maxRecDepth 100000 in
theorem waystoneref07_first.calls (k : Nat) (A0 : Option Addr) (c0 : Nat) (l0 : List (S62)) (a1 : Int) (a2 : Int) (a3 : Bool) (r1 : Int) (r2 : Int) (r3 : Int) (r4 : Int) (r5 : Int) (r6 : Int) (r7 : Int) (r8 : Bool) (w : World) (hr0 : Kd.C k62 w A0 l0.length l0) (hc0 : l0.length ≤ c0) (h : waystoneref07_first.f k l0 a1 a2 a3 = some (r1, r2, r3, r4, r5, r6, r7, r8)) :
    Calls Try.prog 53 #[.slice A0 l0.length c0, .int .i64 a1, .int .u32 a2, .bool a3] w fun e w' => e = .returned (.tuple #[.agg #[.int .i64 r1, .int .i64 r2, .int .i64 r3, .int .i64 r4, .int .u32 r5, .int .u32 r6, .int .i64 r7], .bool r8]) ∧ Below w.heap.size w w' := by
  have hu62 := Try.underlying62
  have HR0 := Aside0.mk hr0
  have HC0 := Aside0.mk hc0
  clear hr0 hc0
  have HB := Aside0.mk (Below.refl w.heap.size w)
  have H : (waystoneref07_first.l0 k l0 a1 a2 a3 false 0 0 0 0 0 0 0 0) = some (r1, r2, r3, r4, r5, r6, r7, r8) := h
  clear h
  have H' := Aside0.mk H
  clear H
  go_enter Try.func53, Try.ntmps53
  go_wp2_with (first | ((with_reducible refine gate_dst (N := 8) rfl ?_); refine box_event ?hg (N := 8) ?hd (cs := #[.int .i64 0, .int .i64 0, .int .i64 0, .int .i64 0, .int .u32 0, .int .u32 0, .int .i64 0]) (t := 62) ?hr ?_; (case hd => rfl); (case hg => rfl); (case hr => first | (go_simp; done) | (go_simp; rfl)); intro gb101 hg w5 hbox hb; have n0_ := Aside0.mk (below_step (by repeat (first | (with_reducible first | exact HB.out | apply below_alloc | apply pw_below_drewN | apply below_drew1) | exact HB.out)) hb); have n1_ := Aside0.mk (hbox); have n2_ := Aside0.mk ((by rw [hg]; exact (below_size (by repeat (first | (with_reducible first | exact HB.out | apply below_alloc | apply pw_below_drewN | apply below_drew1) | exact HB.out))) : w.heap.size ≤ gb101)); have n3_ := Aside0.mk ((by rw [hg]; exact (below_size (by repeat (first | (with_reducible first | exact HB.out | apply below_alloc | apply pw_below_drewN | apply below_drew1) | exact HB.out))) : w.heap.size ≤ gb101)); clear HB; have HB := n0_; have BK101 := n1_; have GW101 := n2_; have GE101 := n3_; clear n0_ n1_ n2_ n3_; clear hb hbox hg) | ((with_reducible refine gate_dst (N := 10) rfl ?_); refine box_event ?hg (N := 10) ?hd (cs := #[.int .i64 0, .int .i64 0, .int .i64 0, .int .i64 0, .int .u32 0, .int .u32 0, .int .i64 0]) (t := 62) ?hr ?_; (case hd => rfl); (case hg => rfl); (case hr => first | (go_simp; done) | (go_simp; rfl)); intro gb102 hg w6 hbox hb; have n0_ := Aside0.mk (blk_below (g := gb101) (o := .cells #[.int .i64 0, .int .i64 0, .int .i64 0, .int .i64 0, .int .u32 0, .int .u32 0, .int .i64 0] 62 (0, 0)) (by (with_reducible repeat (first | refine blk_drewN ?_ _ | refine blk_drew ?_ | refine blk_alloc ?_ _)); exact BK101.out) hb); have n1_ := Aside0.mk (below_step (by repeat (first | (with_reducible first | exact HB.out | apply below_alloc | apply pw_below_drewN | apply below_drew1 | refine below_set ?_ GE101.out) | exact HB.out)) hb); have n2_ := Aside0.mk (hbox); have n3_ := Aside0.mk ((by rw [hg]; exact (below_size (by repeat (first | (with_reducible first | exact HB.out | apply below_alloc | apply pw_below_drewN | apply below_drew1 | refine below_set ?_ GE101.out) | exact HB.out))) : w.heap.size ≤ gb102)); have n4_ := Aside0.mk ((by rw [hg]; exact (below_size (by repeat (first | (with_reducible first | exact HB.out | apply below_alloc | apply pw_below_drewN | apply below_drew1 | refine below_set ?_ GE101.out) | exact HB.out))) : w.heap.size ≤ gb102)); have n5_ := Aside0.mk ((by rw [hg]; exact Nat.ne_of_lt (blk_lt (g := gb101) (o := .cells #[.int .i64 0, .int .i64 0, .int .i64 0, .int .i64 0, .int .u32 0, .int .u32 0, .int .i64 0] 62 (0, 0)) (by (with_reducible repeat (first | refine blk_drewN ?_ _ | refine blk_drew ?_ | refine blk_alloc ?_ _)); exact BK101.out)) : gb101 ≠ gb102)); have n6_ := Aside0.mk ((by rw [hg]; exact Nat.ne_of_gt (blk_lt (g := gb101) (o := .cells #[.int .i64 0, .int .i64 0, .int .i64 0, .int .i64 0, .int .u32 0, .int .u32 0, .int .i64 0] 62 (0, 0)) (by (with_reducible repeat (first | refine blk_drewN ?_ _ | refine blk_drew ?_ | refine blk_alloc ?_ _)); exact BK101.out)) : gb102 ≠ gb101)); clear BK101; clear HB; have BK101 := n0_; have HB := n1_; have BK102 := n2_; have GW102 := n3_; have GE102 := n4_; have NB101_102 := n5_; have NB102_101 := n6_; clear n0_ n1_ n2_ n3_ n4_ n5_ n6_; clear hb hbox hg; have hnb7 := NB102_101.out; have hnc7 := NB101_102.out; have hcz8_0 : w6.cell? ⟨gb102, 0, none⟩ = some (.int .i64 0) := (blk_cell BK102.out 0).trans rfl; have hcz8_1 : w6.cell? ⟨gb102, 1, none⟩ = some (.int .i64 0) := (blk_cell BK102.out 1).trans rfl; have hcz8_2 : w6.cell? ⟨gb102, 2, none⟩ = some (.int .i64 0) := (blk_cell BK102.out 2).trans rfl; have hcz8_3 : w6.cell? ⟨gb102, 3, none⟩ = some (.int .i64 0) := (blk_cell BK102.out 3).trans rfl; have hcz8_4 : w6.cell? ⟨gb102, 4, none⟩ = some (.int .u32 0) := (blk_cell BK102.out 4).trans rfl; have hcz8_5 : w6.cell? ⟨gb102, 5, none⟩ = some (.int .u32 0) := (blk_cell BK102.out 5).trans rfl; have hcz8_6 : w6.cell? ⟨gb102, 6, none⟩ = some (.int .i64 0) := (blk_cell BK102.out 6).trans rfl; have hfz8_0 := blk_frozen BK102.out 0; have hfz8_1 := blk_frozen BK102.out 1; have hfz8_2 := blk_frozen BK102.out 2; have hfz8_3 := blk_frozen BK102.out 3; have hfz8_4 := blk_frozen BK102.out 4; have hfz8_5 := blk_frozen BK102.out 5; have hfz8_6 := blk_frozen BK102.out 6))
  go_loopg [11, 12] k (fun kq v11 v12 w' => ∃ (x11_1 : Bool) (x12_1 : Int) (x103000_1 : Int) (x103001_1 : Int) (x103002_1 : Int) (x103003_1 : Int) (x103004_1 : Int) (x103005_1 : Int) (x103006_1 : Int), v11 = .bool x11_1 ∧ v12 = .int .i64 x12_1 ∧ Aside0 (waystoneref07_first.l0 kq l0 a1 a2 a3 x11_1 x12_1 x103000_1 x103001_1 x103002_1 x103003_1 x103004_1 x103005_1 x103006_1 = some (r1, r2, r3, r4, r5, r6, r7, r8)) ∧ Aside0 (kq ≤ k) ∧ Aside0 (w'.heap[gb101]? = some (.cells #[.int .i64 0, .int .i64 0, .int .i64 0, .int .i64 0, .int .u32 0, .int .u32 0, .int .i64 0] 62 (0, 0))) ∧ Aside0 (w'.heap[gb102]? = some (.cells #[.int .i64 x103000_1, .int .i64 x103001_1, .int .i64 x103002_1, .int .i64 x103003_1, .int .u32 x103004_1, .int .u32 x103005_1, .int .i64 x103006_1] 62 (0, 0))) ∧ Aside0 (Below w.heap.size w w'))
  case atStart => exact ⟨(false), (0), (0), (0), (0), (0), (0), (0), (0), (by first | rfl | (simp; done) | (simp [*]; done)), (by first | rfl | (simp; done) | (simp [*]; done)), H', ⟨Nat.le_refl _⟩, ⟨by (with_reducible repeat (first | refine blk_drewN ?_ _ | refine blk_drew ?_ | refine blk_alloc ?_ _)); refine blk_far ?_ NB101_102.out _; (with_reducible repeat (first | refine blk_drewN ?_ _ | refine blk_drew ?_ | refine blk_alloc ?_ _)); refine blk_far ?_ NB101_102.out _; (with_reducible repeat (first | refine blk_drewN ?_ _ | refine blk_drew ?_ | refine blk_alloc ?_ _)); refine blk_far ?_ NB101_102.out _; (with_reducible repeat (first | refine blk_drewN ?_ _ | refine blk_drew ?_ | refine blk_alloc ?_ _)); refine blk_far ?_ NB101_102.out _; (with_reducible repeat (first | refine blk_drewN ?_ _ | refine blk_drew ?_ | refine blk_alloc ?_ _)); refine blk_far ?_ NB101_102.out _; (with_reducible repeat (first | refine blk_drewN ?_ _ | refine blk_drew ?_ | refine blk_alloc ?_ _)); refine blk_far ?_ NB101_102.out _; (with_reducible repeat (first | refine blk_drewN ?_ _ | refine blk_drew ?_ | refine blk_alloc ?_ _)); refine blk_far ?_ NB101_102.out _; (with_reducible repeat (first | refine blk_drewN ?_ _ | refine blk_drew ?_ | refine blk_alloc ?_ _)); exact BK101.out⟩, ⟨by (with_reducible repeat (first | refine blk_drewN ?_ _ | refine blk_drew ?_ | refine blk_alloc ?_ _)); refine blk_put (cs := #[.int .i64 0, .int .i64 0, .int .i64 0, .int .i64 0, .int .u32 0, .int .u32 0, .int .i64 0]) ?_ 6 _ rfl; (with_reducible repeat (first | refine blk_drewN ?_ _ | refine blk_drew ?_ | refine blk_alloc ?_ _)); refine blk_put (cs := #[.int .i64 0, .int .i64 0, .int .i64 0, .int .i64 0, .int .u32 0, .int .u32 0, .int .i64 0]) ?_ 5 _ rfl; (with_reducible repeat (first | refine blk_drewN ?_ _ | refine blk_drew ?_ | refine blk_alloc ?_ _)); refine blk_put (cs := #[.int .i64 0, .int .i64 0, .int .i64 0, .int .i64 0, .int .u32 0, .int .u32 0, .int .i64 0]) ?_ 4 _ rfl; (with_reducible repeat (first | refine blk_drewN ?_ _ | refine blk_drew ?_ | refine blk_alloc ?_ _)); refine blk_put (cs := #[.int .i64 0, .int .i64 0, .int .i64 0, .int .i64 0, .int .u32 0, .int .u32 0, .int .i64 0]) ?_ 3 _ rfl; (with_reducible repeat (first | refine blk_drewN ?_ _ | refine blk_drew ?_ | refine blk_alloc ?_ _)); refine blk_put (cs := #[.int .i64 0, .int .i64 0, .int .i64 0, .int .i64 0, .int .u32 0, .int .u32 0, .int .i64 0]) ?_ 2 _ rfl; (with_reducible repeat (first | refine blk_drewN ?_ _ | refine blk_drew ?_ | refine blk_alloc ?_ _)); refine blk_put (cs := #[.int .i64 0, .int .i64 0, .int .i64 0, .int .i64 0, .int .u32 0, .int .u32 0, .int .i64 0]) ?_ 1 _ rfl; (with_reducible repeat (first | refine blk_drewN ?_ _ | refine blk_drew ?_ | refine blk_alloc ?_ _)); refine blk_put (cs := #[.int .i64 0, .int .i64 0, .int .i64 0, .int .i64 0, .int .u32 0, .int .u32 0, .int .i64 0]) ?_ 0 _ rfl; (with_reducible repeat (first | refine blk_drewN ?_ _ | refine blk_drew ?_ | refine blk_alloc ?_ _)); exact BK102.out⟩, ⟨by repeat (first | (with_reducible first | exact HB.out | apply below_alloc | apply pw_below_drewN | apply below_drew1 | refine below_set ?_ GE101.out | refine below_set ?_ GE102.out) | exact HB.out)⟩⟩
  case round =>
    clear H'
    try clear p2
    try clear c5
    try clear c7
    try clear hcz8_0
    try clear hcz8_1
    try clear hcz8_2
    try clear hcz8_3
    try clear hcz8_4
    try clear hcz8_5
    try clear hcz8_6
    try clear hfz8_0
    try clear hfz8_1
    try clear hfz8_2
    try clear hfz8_3
    try clear hfz8_4
    try clear hfz8_5
    try clear hfz8_6
    obtain ⟨x11_1, x12_1, x103000_1, x103001_1, x103002_1, x103003_1, x103004_1, x103005_1, x103006_1, rfl, rfl, HA, HK1, BK101, BK102, HB⟩ := hrel
    cases gk with
    | zero => exact absurd HA.out (by simp [waystoneref07_first.l0])
    | succ k1 =>
      have H := HA.out
      clear HA
      simp only [waystoneref07_first.l0] at H
      by_cases c9 : x12_1 < (l0.length : Int)
      · rw [if_pos c9] at H
        have c9b0 : decide (x12_1 < (l0.length : Int)) = true := decide_eq_true c9
        clear c9
        by_cases c10 : 0 ≤ x12_1
        · rw [if_pos c10] at H
          have c10b0 : decide (0 ≤ x12_1) = true := decide_eq_true c10
          clear c10
          have HC11 := Aside0.mk H
          clear H
          have p103 : 0 ≤ (x12_1 : Int) := of_decide_eq_true (by first | (with_reducible assumption) | assumption)
          have q103 : x12_1 < (l0.length : Int) := of_decide_eq_true (by first | (with_reducible assumption) | assumption)
          obtain ⟨ad103, e103, hx103_0, hx103_1, hx103_2, hx103_3, hx103_4, hx103_5, hx103_6⟩ := at_T62 HR0.out x12_1 p103 q103
          cases e103
          replace hx103_0 := (HB.out.cell (World.block_lt_of_cell? w _ hx103_0)).trans hx103_0
          replace hx103_1 := (HB.out.cell (World.block_lt_of_cell? w _ hx103_1)).trans hx103_1
          replace hx103_2 := (HB.out.cell (World.block_lt_of_cell? w _ hx103_2)).trans hx103_2
          replace hx103_3 := (HB.out.cell (World.block_lt_of_cell? w _ hx103_3)).trans hx103_3
          replace hx103_4 := (HB.out.cell (World.block_lt_of_cell? w _ hx103_4)).trans hx103_4
          replace hx103_5 := (HB.out.cell (World.block_lt_of_cell? w _ hx103_5)).trans hx103_5
          replace hx103_6 := (HB.out.cell (World.block_lt_of_cell? w _ hx103_6)).trans hx103_6
          replace p103 := eq_true p103
          replace q103 := eq_true q103
          go_upto_region 7 with (first | ((with_reducible refine gate_dst (N := 13) rfl ?_); refine box_event ?hg (N := 13) ?hd (cs := #[.int .i64 0, .int .i64 0, .int .i64 0, .int .i64 0, .int .u32 0, .int .u32 0, .int .i64 0]) (t := 62) ?hr ?_; (case hd => rfl); (case hg => rfl); (case hr => first | (go_simp; done) | (go_simp; rfl)); intro gb104 hg w12 hbox hb; have n0_ := Aside0.mk (blk_below (g := gb101) (o := .cells #[.int .i64 0, .int .i64 0, .int .i64 0, .int .i64 0, .int .u32 0, .int .u32 0, .int .i64 0] 62 (0, 0)) (by (with_reducible repeat (first | refine blk_drewN ?_ _ | refine blk_drew ?_ | refine blk_alloc ?_ _)); exact BK101.out) hb); have n1_ := Aside0.mk (blk_below (g := gb102) (o := .cells #[.int .i64 x103000_1, .int .i64 x103001_1, .int .i64 x103002_1, .int .i64 x103003_1, .int .u32 x103004_1, .int .u32 x103005_1, .int .i64 x103006_1] 62 (0, 0)) (by (with_reducible repeat (first | refine blk_drewN ?_ _ | refine blk_drew ?_ | refine blk_alloc ?_ _)); exact BK102.out) hb); have n2_ := Aside0.mk (below_step (by repeat (first | (with_reducible first | exact HB.out | apply below_alloc | apply pw_below_drewN | apply below_drew1 | refine below_set ?_ GE101.out | refine below_set ?_ GE102.out) | exact HB.out)) hb); have n3_ := Aside0.mk (hbox); have n4_ := Aside0.mk ((by rw [hg]; exact (below_size (by repeat (first | (with_reducible first | exact HB.out | apply below_alloc | apply pw_below_drewN | apply below_drew1 | refine below_set ?_ GE101.out | refine below_set ?_ GE102.out) | exact HB.out))) : w.heap.size ≤ gb104)); have n5_ := Aside0.mk ((by rw [hg]; exact (below_size (by repeat (first | (with_reducible first | exact HB.out | apply below_alloc | apply pw_below_drewN | apply below_drew1 | refine below_set ?_ GE101.out | refine below_set ?_ GE102.out) | exact HB.out))) : w.heap.size ≤ gb104)); have n6_ := Aside0.mk ((by rw [hg]; exact Nat.ne_of_lt (blk_lt (g := gb101) (o := .cells #[.int .i64 0, .int .i64 0, .int .i64 0, .int .i64 0, .int .u32 0, .int .u32 0, .int .i64 0] 62 (0, 0)) (by (with_reducible repeat (first | refine blk_drewN ?_ _ | refine blk_drew ?_ | refine blk_alloc ?_ _)); exact BK101.out)) : gb101 ≠ gb104)); have n7_ := Aside0.mk ((by rw [hg]; exact Nat.ne_of_gt (blk_lt (g := gb101) (o := .cells #[.int .i64 0, .int .i64 0, .int .i64 0, .int .i64 0, .int .u32 0, .int .u32 0, .int .i64 0] 62 (0, 0)) (by (with_reducible repeat (first | refine blk_drewN ?_ _ | refine blk_drew ?_ | refine blk_alloc ?_ _)); exact BK101.out)) : gb104 ≠ gb101)); have n8_ := Aside0.mk ((by rw [hg]; exact Nat.ne_of_lt (blk_lt (g := gb102) (o := .cells #[.int .i64 x103000_1, .int .i64 x103001_1, .int .i64 x103002_1, .int .i64 x103003_1, .int .u32 x103004_1, .int .u32 x103005_1, .int .i64 x103006_1] 62 (0, 0)) (by (with_reducible repeat (first | refine blk_drewN ?_ _ | refine blk_drew ?_ | refine blk_alloc ?_ _)); exact BK102.out)) : gb102 ≠ gb104)); have n9_ := Aside0.mk ((by rw [hg]; exact Nat.ne_of_gt (blk_lt (g := gb102) (o := .cells #[.int .i64 x103000_1, .int .i64 x103001_1, .int .i64 x103002_1, .int .i64 x103003_1, .int .u32 x103004_1, .int .u32 x103005_1, .int .i64 x103006_1] 62 (0, 0)) (by (with_reducible repeat (first | refine blk_drewN ?_ _ | refine blk_drew ?_ | refine blk_alloc ?_ _)); exact BK102.out)) : gb104 ≠ gb102)); clear BK101; clear BK102; clear HB; have BK101 := n0_; have BK102 := n1_; have HB := n2_; have BK104 := n3_; have GW104 := n4_; have GE104 := n5_; have NB101_104 := n6_; have NB104_101 := n7_; have NB102_104 := n8_; have NB104_102 := n9_; clear n0_ n1_ n2_ n3_ n4_ n5_ n6_ n7_ n8_ n9_; clear hb hbox hg; have hnb13 := NB104_101.out; have hnc13 := NB101_104.out; have hnb14 := NB104_102.out; have hnc14 := NB102_104.out; have hcz15_0 : w12.cell? ⟨gb104, 0, none⟩ = some (.int .i64 0) := (blk_cell BK104.out 0).trans rfl; have hcz15_1 : w12.cell? ⟨gb104, 1, none⟩ = some (.int .i64 0) := (blk_cell BK104.out 1).trans rfl; have hcz15_2 : w12.cell? ⟨gb104, 2, none⟩ = some (.int .i64 0) := (blk_cell BK104.out 2).trans rfl; have hcz15_3 : w12.cell? ⟨gb104, 3, none⟩ = some (.int .i64 0) := (blk_cell BK104.out 3).trans rfl; have hcz15_4 : w12.cell? ⟨gb104, 4, none⟩ = some (.int .u32 0) := (blk_cell BK104.out 4).trans rfl; have hcz15_5 : w12.cell? ⟨gb104, 5, none⟩ = some (.int .u32 0) := (blk_cell BK104.out 5).trans rfl; have hcz15_6 : w12.cell? ⟨gb104, 6, none⟩ = some (.int .i64 0) := (blk_cell BK104.out 6).trans rfl; have hfz15_0 := blk_frozen BK104.out 0; have hfz15_1 := blk_frozen BK104.out 1; have hfz15_2 := blk_frozen BK104.out 2; have hfz15_3 := blk_frozen BK104.out 3; have hfz15_4 := blk_frozen BK104.out 4; have hfz15_5 := blk_frozen BK104.out 5; have hfz15_6 := blk_frozen BK104.out 6))
          (try simp only [Act.put, List.setIfInBounds_toArray, List.set_cons_zero, List.set_cons_succ])
          go_cut [14] (fun v14 wc => ∃ (kq : Nat) (x14_10 : Bool), v14 = .bool x14_10 ∧ Aside0 (waystoneref07_first.j1 kq l0 a1 a2 a3 x11_1 x12_1 x14_10 x103000_1 x103001_1 x103002_1 x103003_1 x103004_1 x103005_1 x103006_1 ((rd_T62 l0 x12_1).f0) ((rd_T62 l0 x12_1).f1) ((rd_T62 l0 x12_1).f2) ((rd_T62 l0 x12_1).f3) ((rd_T62 l0 x12_1).f4.f0) ((rd_T62 l0 x12_1).f4.f1) ((rd_T62 l0 x12_1).f5) = some (r1, r2, r3, r4, r5, r6, r7, r8)) ∧ Aside0 (kq ≤ k1) ∧ Aside0 (wc.heap[gb101]? = some (.cells #[.int .i64 0, .int .i64 0, .int .i64 0, .int .i64 0, .int .u32 0, .int .u32 0, .int .i64 0] 62 (0, 0))) ∧ Aside0 (wc.heap[gb102]? = some (.cells #[.int .i64 x103000_1, .int .i64 x103001_1, .int .i64 x103002_1, .int .i64 x103003_1, .int .u32 x103004_1, .int .u32 x103005_1, .int .i64 x103006_1] 62 (0, 0))) ∧ Aside0 (wc.heap[gb104]? = some (.cells #[.int .i64 ((rd_T62 l0 x12_1).f0), .int .i64 ((rd_T62 l0 x12_1).f1), .int .i64 ((rd_T62 l0 x12_1).f2), .int .i64 ((rd_T62 l0 x12_1).f3), .int .u32 ((rd_T62 l0 x12_1).f4.f0), .int .u32 ((rd_T62 l0 x12_1).f4.f1), .int .i64 ((rd_T62 l0 x12_1).f5)] 62 (0, 0))) ∧ Aside0 (Below w.heap.size w wc))
          case first =>
            have H := HC11.out
            clear HC11
            by_cases c16 : ((rd_T62 l0 x12_1).f3) = 2
            · rw [if_pos c16] at H
              have c16b0 : (((rd_T62 l0 x12_1).f3) == 2) = true := beq_iff_eq.mpr c16
              have c16b1 : (((rd_T62 l0 x12_1).f3) != 2) = false := bne_eq_false_iff_eq.mpr c16
              clear c16
              (first | rw [c16b0] | (simp only [i64_w, i32_w]; rw [c16b0]) | skip)
              have H' := Aside0.mk H
              clear H
              have hnb17 := NB104_101.out
              have hnc17 := NB101_104.out
              have hnb18 := NB104_102.out
              have hnc18 := NB102_104.out
              have hcz19_0 : w12.cell? ⟨gb104, 0, none⟩ = some (.int .i64 0) := (blk_cell BK104.out 0).trans rfl
              have hcz19_1 : w12.cell? ⟨gb104, 1, none⟩ = some (.int .i64 0) := (blk_cell BK104.out 1).trans rfl
              have hcz19_2 : w12.cell? ⟨gb104, 2, none⟩ = some (.int .i64 0) := (blk_cell BK104.out 2).trans rfl
              have hcz19_3 : w12.cell? ⟨gb104, 3, none⟩ = some (.int .i64 0) := (blk_cell BK104.out 3).trans rfl
              have hcz19_4 : w12.cell? ⟨gb104, 4, none⟩ = some (.int .u32 0) := (blk_cell BK104.out 4).trans rfl
              have hcz19_5 : w12.cell? ⟨gb104, 5, none⟩ = some (.int .u32 0) := (blk_cell BK104.out 5).trans rfl
              have hcz19_6 : w12.cell? ⟨gb104, 6, none⟩ = some (.int .i64 0) := (blk_cell BK104.out 6).trans rfl
              have hfz19_0 := blk_frozen BK104.out 0
              have hfz19_1 := blk_frozen BK104.out 1
              have hfz19_2 := blk_frozen BK104.out 2
              have hfz19_3 := blk_frozen BK104.out 3
              have hfz19_4 := blk_frozen BK104.out 4
              have hfz19_5 := blk_frozen BK104.out 5
              have hfz19_6 := blk_frozen BK104.out 6
              go_wp2
              go_meet
              case rel => exact ⟨_, (true), (by first | rfl | (simp; done) | (simp [*]; done)), H', ⟨by have := HK1.out; first | omega | exact Nat.le_refl _⟩, ⟨by (with_reducible repeat (first | refine blk_drewN ?_ _ | refine blk_drew ?_ | refine blk_alloc ?_ _)); refine blk_far ?_ NB101_104.out _; (with_reducible repeat (first | refine blk_drewN ?_ _ | refine blk_drew ?_ | refine blk_alloc ?_ _)); refine blk_far ?_ NB101_104.out _; (with_reducible repeat (first | refine blk_drewN ?_ _ | refine blk_drew ?_ | refine blk_alloc ?_ _)); refine blk_far ?_ NB101_104.out _; (with_reducible repeat (first | refine blk_drewN ?_ _ | refine blk_drew ?_ | refine blk_alloc ?_ _)); refine blk_far ?_ NB101_104.out _; (with_reducible repeat (first | refine blk_drewN ?_ _ | refine blk_drew ?_ | refine blk_alloc ?_ _)); refine blk_far ?_ NB101_104.out _; (with_reducible repeat (first | refine blk_drewN ?_ _ | refine blk_drew ?_ | refine blk_alloc ?_ _)); refine blk_far ?_ NB101_104.out _; (with_reducible repeat (first | refine blk_drewN ?_ _ | refine blk_drew ?_ | refine blk_alloc ?_ _)); refine blk_far ?_ NB101_104.out _; (with_reducible repeat (first | refine blk_drewN ?_ _ | refine blk_drew ?_ | refine blk_alloc ?_ _)); exact BK101.out⟩, ⟨by (with_reducible repeat (first | refine blk_drewN ?_ _ | refine blk_drew ?_ | refine blk_alloc ?_ _)); refine blk_far ?_ NB102_104.out _; (with_reducible repeat (first | refine blk_drewN ?_ _ | refine blk_drew ?_ | refine blk_alloc ?_ _)); refine blk_far ?_ NB102_104.out _; (with_reducible repeat (first | refine blk_drewN ?_ _ | refine blk_drew ?_ | refine blk_alloc ?_ _)); refine blk_far ?_ NB102_104.out _; (with_reducible repeat (first | refine blk_drewN ?_ _ | refine blk_drew ?_ | refine blk_alloc ?_ _)); refine blk_far ?_ NB102_104.out _; (with_reducible repeat (first | refine blk_drewN ?_ _ | refine blk_drew ?_ | refine blk_alloc ?_ _)); refine blk_far ?_ NB102_104.out _; (with_reducible repeat (first | refine blk_drewN ?_ _ | refine blk_drew ?_ | refine blk_alloc ?_ _)); refine blk_far ?_ NB102_104.out _; (with_reducible repeat (first | refine blk_drewN ?_ _ | refine blk_drew ?_ | refine blk_alloc ?_ _)); refine blk_far ?_ NB102_104.out _; (with_reducible repeat (first | refine blk_drewN ?_ _ | refine blk_drew ?_ | refine blk_alloc ?_ _)); exact BK102.out⟩, ⟨by (with_reducible repeat (first | refine blk_drewN ?_ _ | refine blk_drew ?_ | refine blk_alloc ?_ _)); refine blk_put (cs := #[.int .i64 ((rd_T62 l0 x12_1).f0), .int .i64 ((rd_T62 l0 x12_1).f1), .int .i64 ((rd_T62 l0 x12_1).f2), .int .i64 ((rd_T62 l0 x12_1).f3), .int .u32 ((rd_T62 l0 x12_1).f4.f0), .int .u32 ((rd_T62 l0 x12_1).f4.f1), .int .i64 0]) ?_ 6 _ rfl; (with_reducible repeat (first | refine blk_drewN ?_ _ | refine blk_drew ?_ | refine blk_alloc ?_ _)); refine blk_put (cs := #[.int .i64 ((rd_T62 l0 x12_1).f0), .int .i64 ((rd_T62 l0 x12_1).f1), .int .i64 ((rd_T62 l0 x12_1).f2), .int .i64 ((rd_T62 l0 x12_1).f3), .int .u32 ((rd_T62 l0 x12_1).f4.f0), .int .u32 0, .int .i64 0]) ?_ 5 _ rfl; (with_reducible repeat (first | refine blk_drewN ?_ _ | refine blk_drew ?_ | refine blk_alloc ?_ _)); refine blk_put (cs := #[.int .i64 ((rd_T62 l0 x12_1).f0), .int .i64 ((rd_T62 l0 x12_1).f1), .int .i64 ((rd_T62 l0 x12_1).f2), .int .i64 ((rd_T62 l0 x12_1).f3), .int .u32 0, .int .u32 0, .int .i64 0]) ?_ 4 _ rfl; (with_reducible repeat (first | refine blk_drewN ?_ _ | refine blk_drew ?_ | refine blk_alloc ?_ _)); refine blk_put (cs := #[.int .i64 ((rd_T62 l0 x12_1).f0), .int .i64 ((rd_T62 l0 x12_1).f1), .int .i64 ((rd_T62 l0 x12_1).f2), .int .i64 0, .int .u32 0, .int .u32 0, .int .i64 0]) ?_ 3 _ rfl; (with_reducible repeat (first | refine blk_drewN ?_ _ | refine blk_drew ?_ | refine blk_alloc ?_ _)); refine blk_put (cs := #[.int .i64 ((rd_T62 l0 x12_1).f0), .int .i64 ((rd_T62 l0 x12_1).f1), .int .i64 0, .int .i64 0, .int .u32 0, .int .u32 0, .int .i64 0]) ?_ 2 _ rfl; (with_reducible repeat (first | refine blk_drewN ?_ _ | refine blk_drew ?_ | refine blk_alloc ?_ _)); refine blk_put (cs := #[.int .i64 ((rd_T62 l0 x12_1).f0), .int .i64 0, .int .i64 0, .int .i64 0, .int .u32 0, .int .u32 0, .int .i64 0]) ?_ 1 _ rfl; (with_reducible repeat (first | refine blk_drewN ?_ _ | refine blk_drew ?_ | refine blk_alloc ?_ _)); refine blk_put (cs := #[.int .i64 0, .int .i64 0, .int .i64 0, .int .i64 0, .int .u32 0, .int .u32 0, .int .i64 0]) ?_ 0 _ rfl; (with_reducible repeat (first | refine blk_drewN ?_ _ | refine blk_drew ?_ | refine blk_alloc ?_ _)); exact BK104.out⟩, ⟨by repeat (first | (with_reducible first | exact HB.out | apply below_alloc | apply pw_below_drewN | apply below_drew1 | refine below_set ?_ GE101.out | refine below_set ?_ GE102.out | refine below_set ?_ GE104.out) | exact HB.out)⟩⟩
            · rw [if_neg c16] at H
              have c16b0 : (((rd_T62 l0 x12_1).f3) == 2) = false := beq_eq_false_iff_ne.mpr c16
              have c16b1 : (((rd_T62 l0 x12_1).f3) != 2) = true := bne_iff_ne.mpr c16
              (first | rw [c16b0] | (simp only [i64_w, i32_w]; rw [c16b0]) | skip)
              have H' := Aside0.mk H
              clear H
              have hnb20 := NB104_101.out
              have hnc20 := NB101_104.out
              have hnb21 := NB104_102.out
              have hnc21 := NB102_104.out
              have hcz22_0 : w12.cell? ⟨gb104, 0, none⟩ = some (.int .i64 0) := (blk_cell BK104.out 0).trans rfl
              have hcz22_1 : w12.cell? ⟨gb104, 1, none⟩ = some (.int .i64 0) := (blk_cell BK104.out 1).trans rfl
              have hcz22_2 : w12.cell? ⟨gb104, 2, none⟩ = some (.int .i64 0) := (blk_cell BK104.out 2).trans rfl
              have hcz22_3 : w12.cell? ⟨gb104, 3, none⟩ = some (.int .i64 0) := (blk_cell BK104.out 3).trans rfl
              have hcz22_4 : w12.cell? ⟨gb104, 4, none⟩ = some (.int .u32 0) := (blk_cell BK104.out 4).trans rfl
              have hcz22_5 : w12.cell? ⟨gb104, 5, none⟩ = some (.int .u32 0) := (blk_cell BK104.out 5).trans rfl
              have hcz22_6 : w12.cell? ⟨gb104, 6, none⟩ = some (.int .i64 0) := (blk_cell BK104.out 6).trans rfl
              have hfz22_0 := blk_frozen BK104.out 0
              have hfz22_1 := blk_frozen BK104.out 1
              have hfz22_2 := blk_frozen BK104.out 2
              have hfz22_3 := blk_frozen BK104.out 3
              have hfz22_4 := blk_frozen BK104.out 4
              have hfz22_5 := blk_frozen BK104.out 5
              have hfz22_6 := blk_frozen BK104.out 6
              go_wp2
              go_meet
              case rel => exact ⟨_, ((((rd_T62 l0 x12_1).f3) == 3)), (by first | rfl | (simp; done) | (simp [*]; done)), H', ⟨by have := HK1.out; first | omega | exact Nat.le_refl _⟩, ⟨by (with_reducible repeat (first | refine blk_drewN ?_ _ | refine blk_drew ?_ | refine blk_alloc ?_ _)); refine blk_far ?_ NB101_104.out _; (with_reducible repeat (first | refine blk_drewN ?_ _ | refine blk_drew ?_ | refine blk_alloc ?_ _)); refine blk_far ?_ NB101_104.out _; (with_reducible repeat (first | refine blk_drewN ?_ _ | refine blk_drew ?_ | refine blk_alloc ?_ _)); refine blk_far ?_ NB101_104.out _; (with_reducible repeat (first | refine blk_drewN ?_ _ | refine blk_drew ?_ | refine blk_alloc ?_ _)); refine blk_far ?_ NB101_104.out _; (with_reducible repeat (first | refine blk_drewN ?_ _ | refine blk_drew ?_ | refine blk_alloc ?_ _)); refine blk_far ?_ NB101_104.out _; (with_reducible repeat (first | refine blk_drewN ?_ _ | refine blk_drew ?_ | refine blk_alloc ?_ _)); refine blk_far ?_ NB101_104.out _; (with_reducible repeat (first | refine blk_drewN ?_ _ | refine blk_drew ?_ | refine blk_alloc ?_ _)); refine blk_far ?_ NB101_104.out _; (with_reducible repeat (first | refine blk_drewN ?_ _ | refine blk_drew ?_ | refine blk_alloc ?_ _)); exact BK101.out⟩, ⟨by (with_reducible repeat (first | refine blk_drewN ?_ _ | refine blk_drew ?_ | refine blk_alloc ?_ _)); refine blk_far ?_ NB102_104.out _; (with_reducible repeat (first | refine blk_drewN ?_ _ | refine blk_drew ?_ | refine blk_alloc ?_ _)); refine blk_far ?_ NB102_104.out _; (with_reducible repeat (first | refine blk_drewN ?_ _ | refine blk_drew ?_ | refine blk_alloc ?_ _)); refine blk_far ?_ NB102_104.out _; (with_reducible repeat (first | refine blk_drewN ?_ _ | refine blk_drew ?_ | refine blk_alloc ?_ _)); refine blk_far ?_ NB102_104.out _; (with_reducible repeat (first | refine blk_drewN ?_ _ | refine blk_drew ?_ | refine blk_alloc ?_ _)); refine blk_far ?_ NB102_104.out _; (with_reducible repeat (first | refine blk_drewN ?_ _ | refine blk_drew ?_ | refine blk_alloc ?_ _)); refine blk_far ?_ NB102_104.out _; (with_reducible repeat (first | refine blk_drewN ?_ _ | refine blk_drew ?_ | refine blk_alloc ?_ _)); refine blk_far ?_ NB102_104.out _; (with_reducible repeat (first | refine blk_drewN ?_ _ | refine blk_drew ?_ | refine blk_alloc ?_ _)); exact BK102.out⟩, ⟨by (with_reducible repeat (first | refine blk_drewN ?_ _ | refine blk_drew ?_ | refine blk_alloc ?_ _)); refine blk_put (cs := #[.int .i64 ((rd_T62 l0 x12_1).f0), .int .i64 ((rd_T62 l0 x12_1).f1), .int .i64 ((rd_T62 l0 x12_1).f2), .int .i64 ((rd_T62 l0 x12_1).f3), .int .u32 ((rd_T62 l0 x12_1).f4.f0), .int .u32 ((rd_T62 l0 x12_1).f4.f1), .int .i64 0]) ?_ 6 _ rfl; (with_reducible repeat (first | refine blk_drewN ?_ _ | refine blk_drew ?_ | refine blk_alloc ?_ _)); refine blk_put (cs := #[.int .i64 ((rd_T62 l0 x12_1).f0), .int .i64 ((rd_T62 l0 x12_1).f1), .int .i64 ((rd_T62 l0 x12_1).f2), .int .i64 ((rd_T62 l0 x12_1).f3), .int .u32 ((rd_T62 l0 x12_1).f4.f0), .int .u32 0, .int .i64 0]) ?_ 5 _ rfl; (with_reducible repeat (first | refine blk_drewN ?_ _ | refine blk_drew ?_ | refine blk_alloc ?_ _)); refine blk_put (cs := #[.int .i64 ((rd_T62 l0 x12_1).f0), .int .i64 ((rd_T62 l0 x12_1).f1), .int .i64 ((rd_T62 l0 x12_1).f2), .int .i64 ((rd_T62 l0 x12_1).f3), .int .u32 0, .int .u32 0, .int .i64 0]) ?_ 4 _ rfl; (with_reducible repeat (first | refine blk_drewN ?_ _ | refine blk_drew ?_ | refine blk_alloc ?_ _)); refine blk_put (cs := #[.int .i64 ((rd_T62 l0 x12_1).f0), .int .i64 ((rd_T62 l0 x12_1).f1), .int .i64 ((rd_T62 l0 x12_1).f2), .int .i64 0, .int .u32 0, .int .u32 0, .int .i64 0]) ?_ 3 _ rfl; (with_reducible repeat (first | refine blk_drewN ?_ _ | refine blk_drew ?_ | refine blk_alloc ?_ _)); refine blk_put (cs := #[.int .i64 ((rd_T62 l0 x12_1).f0), .int .i64 ((rd_T62 l0 x12_1).f1), .int .i64 0, .int .i64 0, .int .u32 0, .int .u32 0, .int .i64 0]) ?_ 2 _ rfl; (with_reducible repeat (first | refine blk_drewN ?_ _ | refine blk_drew ?_ | refine blk_alloc ?_ _)); refine blk_put (cs := #[.int .i64 ((rd_T62 l0 x12_1).f0), .int .i64 0, .int .i64 0, .int .i64 0, .int .u32 0, .int .u32 0, .int .i64 0]) ?_ 1 _ rfl; (with_reducible repeat (first | refine blk_drewN ?_ _ | refine blk_drew ?_ | refine blk_alloc ?_ _)); refine blk_put (cs := #[.int .i64 0, .int .i64 0, .int .i64 0, .int .i64 0, .int .u32 0, .int .u32 0, .int .i64 0]) ?_ 0 _ rfl; (with_reducible repeat (first | refine blk_drewN ?_ _ | refine blk_drew ?_ | refine blk_alloc ?_ _)); exact BK104.out⟩, ⟨by repeat (first | (with_reducible first | exact HB.out | apply below_alloc | apply pw_below_drewN | apply below_drew1 | refine below_set ?_ GE101.out | refine below_set ?_ GE102.out | refine below_set ?_ GE104.out) | exact HB.out)⟩⟩
          case rest =>
            clear HC11
            try clear c1
            try clear p1
            try clear q1
            try clear hx1
            try clear c2
            try clear p2
            try clear c5
            try clear c7
            try clear c9
            try clear c9b0
            try clear c10
            try clear c10b0
            try clear p10
            try clear q10
            try clear hx10
            try clear c13
            try clear c14
            try clear c16
            try clear c16b0
            try clear c16b1
            try clear c17
            try clear c18
            try clear c20
            try clear c21
            try clear hcz15_0
            try clear hcz15_1
            try clear hcz15_2
            try clear hcz15_3
            try clear hcz15_4
            try clear hcz15_5
            try clear hcz15_6
            try clear hcz19_0
            try clear hcz19_1
            try clear hcz19_2
            try clear hcz19_3
            try clear hcz19_4
            try clear hcz19_5
            try clear hcz19_6
            try clear hcz22_0
            try clear hcz22_1
            try clear hcz22_2
            try clear hcz22_3
            try clear hcz22_4
            try clear hcz22_5
            try clear hcz22_6
            try clear hcz8_0
            try clear hcz8_1
            try clear hcz8_2
            try clear hcz8_3
            try clear hcz8_4
            try clear hcz8_5
            try clear hcz8_6
            try clear hfz15_0
            try clear hfz15_1
            try clear hfz15_2
            try clear hfz15_3
            try clear hfz15_4
            try clear hfz15_5
            try clear hfz15_6
            try clear hfz19_0
            try clear hfz19_1
            try clear hfz19_2
            try clear hfz19_3
            try clear hfz19_4
            try clear hfz19_5
            try clear hfz19_6
            try clear hfz22_0
            try clear hfz22_1
            try clear hfz22_2
            try clear hfz22_3
            try clear hfz22_4
            try clear hfz22_5
            try clear hfz22_6
            try clear hfz8_0
            try clear hfz8_1
            try clear hfz8_2
            try clear hfz8_3
            try clear hfz8_4
            try clear hfz8_5
            try clear hfz8_6
            try clear hx103_0
            try clear hx103_1
            try clear hx103_2
            try clear hx103_3
            try clear hx103_4
            try clear hx103_5
            try clear hx103_6
            try clear p103
            try clear p2
            try clear q103
            obtain ⟨kq, x14_10, rfl, HA, HJ10, BK101, BK102, BK104, HB⟩ := hcut
            cases kq with
            | zero => exact absurd HA.out (by simp [waystoneref07_first.j1])
            | succ kj10 =>
              have H := HA.out
              clear HA
              simp only [waystoneref07_first.j1] at H
              have HC23 := Aside0.mk H
              clear H
              go_upto_region 8 with (fail)
              go_cut [56] (fun v56 wc => ∃ (kq : Nat) (x56_22 : Bool), v56 = .bool x56_22 ∧ Aside0 (waystoneref07_first.j2 kq l0 a1 a2 a3 x11_1 x12_1 x56_22 x103000_1 x103001_1 x103002_1 x103003_1 x103004_1 x103005_1 x103006_1 ((rd_T62 l0 x12_1).f0) ((rd_T62 l0 x12_1).f1) ((rd_T62 l0 x12_1).f2) ((rd_T62 l0 x12_1).f3) ((rd_T62 l0 x12_1).f4.f0) ((rd_T62 l0 x12_1).f4.f1) ((rd_T62 l0 x12_1).f5) = some (r1, r2, r3, r4, r5, r6, r7, r8)) ∧ Aside0 (kq ≤ kj10) ∧ Aside0 (wc.heap[gb101]? = some (.cells #[.int .i64 0, .int .i64 0, .int .i64 0, .int .i64 0, .int .u32 0, .int .u32 0, .int .i64 0] 62 (0, 0))) ∧ Aside0 (wc.heap[gb102]? = some (.cells #[.int .i64 x103000_1, .int .i64 x103001_1, .int .i64 x103002_1, .int .i64 x103003_1, .int .u32 x103004_1, .int .u32 x103005_1, .int .i64 x103006_1] 62 (0, 0))) ∧ Aside0 (wc.heap[gb104]? = some (.cells #[.int .i64 ((rd_T62 l0 x12_1).f0), .int .i64 ((rd_T62 l0 x12_1).f1), .int .i64 ((rd_T62 l0 x12_1).f2), .int .i64 ((rd_T62 l0 x12_1).f3), .int .u32 ((rd_T62 l0 x12_1).f4.f0), .int .u32 ((rd_T62 l0 x12_1).f4.f1), .int .i64 ((rd_T62 l0 x12_1).f5)] 62 (0, 0))) ∧ Aside0 (Below w.heap.size w wc))
              case first =>
                have H := HC23.out
                clear HC23
                by_cases c24 : ((rd_T62 l0 x12_1).f1) = a1
                · rw [if_pos c24] at H
                  have c24b0 : (((rd_T62 l0 x12_1).f1) == a1) = true := beq_iff_eq.mpr c24
                  have c24b1 : (((rd_T62 l0 x12_1).f1) != a1) = false := bne_eq_false_iff_eq.mpr c24
                  clear c24
                  (first | rw [c24b0] | (simp only [i64_w, i32_w]; rw [c24b0]) | skip)
                  by_cases c25 : a2 < ((rd_T62 l0 x12_1).f4.f0)
                  · rw [if_pos c25] at H
                    have c25b0 : decide (a2 < ((rd_T62 l0 x12_1).f4.f0)) = true := decide_eq_true c25
                    clear c25
                    have H' := Aside0.mk H
                    clear H
                    have hnb26 := NB104_101.out
                    have hnc26 := NB101_104.out
                    have hnb27 := NB104_102.out
                    have hnc27 := NB102_104.out
                    have hcz28_0 : wc.cell? ⟨gb104, 0, none⟩ = some (.int .i64 ((rd_T62 l0 x12_1).f0)) := (blk_cell BK104.out 0).trans rfl
                    have hcz28_1 : wc.cell? ⟨gb104, 1, none⟩ = some (.int .i64 ((rd_T62 l0 x12_1).f1)) := (blk_cell BK104.out 1).trans rfl
                    have hcz28_2 : wc.cell? ⟨gb104, 2, none⟩ = some (.int .i64 ((rd_T62 l0 x12_1).f2)) := (blk_cell BK104.out 2).trans rfl
                    have hcz28_3 : wc.cell? ⟨gb104, 3, none⟩ = some (.int .i64 ((rd_T62 l0 x12_1).f3)) := (blk_cell BK104.out 3).trans rfl
                    have hcz28_4 : wc.cell? ⟨gb104, 4, none⟩ = some (.int .u32 ((rd_T62 l0 x12_1).f4.f0)) := (blk_cell BK104.out 4).trans rfl
                    have hcz28_5 : wc.cell? ⟨gb104, 5, none⟩ = some (.int .u32 ((rd_T62 l0 x12_1).f4.f1)) := (blk_cell BK104.out 5).trans rfl
                    have hcz28_6 : wc.cell? ⟨gb104, 6, none⟩ = some (.int .i64 ((rd_T62 l0 x12_1).f5)) := (blk_cell BK104.out 6).trans rfl
                    have hfz28_0 := blk_frozen BK104.out 0
                    have hfz28_1 := blk_frozen BK104.out 1
                    have hfz28_2 := blk_frozen BK104.out 2
                    have hfz28_3 := blk_frozen BK104.out 3
                    have hfz28_4 := blk_frozen BK104.out 4
                    have hfz28_5 := blk_frozen BK104.out 5
                    have hfz28_6 := blk_frozen BK104.out 6
                    go_wp2
                    go_meet
                    case rel => exact ⟨_, (true), (by first | rfl | (simp; done) | (simp [*]; done)), H', ⟨by have := HK1.out; have := HJ10.out; first | omega | exact Nat.le_refl _⟩, ⟨by (with_reducible repeat (first | refine blk_drewN ?_ _ | refine blk_drew ?_ | refine blk_alloc ?_ _)); exact BK101.out⟩, ⟨by (with_reducible repeat (first | refine blk_drewN ?_ _ | refine blk_drew ?_ | refine blk_alloc ?_ _)); exact BK102.out⟩, ⟨by (with_reducible repeat (first | refine blk_drewN ?_ _ | refine blk_drew ?_ | refine blk_alloc ?_ _)); exact BK104.out⟩, ⟨by repeat (first | (with_reducible first | exact HB.out | apply below_alloc | apply pw_below_drewN | apply below_drew1 | refine below_set ?_ GE101.out | refine below_set ?_ GE102.out | refine below_set ?_ GE104.out) | exact HB.out)⟩⟩
                  · rw [if_neg c25] at H
                    have c25b0 : decide (a2 < ((rd_T62 l0 x12_1).f4.f0)) = false := decide_eq_false c25
                    clear c25
                    by_cases c29 : a2 > ((rd_T62 l0 x12_1).f4.f1)
                    · rw [if_pos c29] at H
                      have c29b0 : decide (((rd_T62 l0 x12_1).f4.f1) < a2) = true := decide_eq_true c29
                      clear c29
                      have H' := Aside0.mk H
                      clear H
                      have hnb30 := NB104_101.out
                      have hnc30 := NB101_104.out
                      have hnb31 := NB104_102.out
                      have hnc31 := NB102_104.out
                      have hcz32_0 : wc.cell? ⟨gb104, 0, none⟩ = some (.int .i64 ((rd_T62 l0 x12_1).f0)) := (blk_cell BK104.out 0).trans rfl
                      have hcz32_1 : wc.cell? ⟨gb104, 1, none⟩ = some (.int .i64 ((rd_T62 l0 x12_1).f1)) := (blk_cell BK104.out 1).trans rfl
                      have hcz32_2 : wc.cell? ⟨gb104, 2, none⟩ = some (.int .i64 ((rd_T62 l0 x12_1).f2)) := (blk_cell BK104.out 2).trans rfl
                      have hcz32_3 : wc.cell? ⟨gb104, 3, none⟩ = some (.int .i64 ((rd_T62 l0 x12_1).f3)) := (blk_cell BK104.out 3).trans rfl
                      have hcz32_4 : wc.cell? ⟨gb104, 4, none⟩ = some (.int .u32 ((rd_T62 l0 x12_1).f4.f0)) := (blk_cell BK104.out 4).trans rfl
                      have hcz32_5 : wc.cell? ⟨gb104, 5, none⟩ = some (.int .u32 ((rd_T62 l0 x12_1).f4.f1)) := (blk_cell BK104.out 5).trans rfl
                      have hcz32_6 : wc.cell? ⟨gb104, 6, none⟩ = some (.int .i64 ((rd_T62 l0 x12_1).f5)) := (blk_cell BK104.out 6).trans rfl
                      have hfz32_0 := blk_frozen BK104.out 0
                      have hfz32_1 := blk_frozen BK104.out 1
                      have hfz32_2 := blk_frozen BK104.out 2
                      have hfz32_3 := blk_frozen BK104.out 3
                      have hfz32_4 := blk_frozen BK104.out 4
                      have hfz32_5 := blk_frozen BK104.out 5
                      have hfz32_6 := blk_frozen BK104.out 6
                      go_wp2
                      go_meet
                      case rel => exact ⟨_, (true), (by first | rfl | (simp; done) | (simp [*]; done)), H', ⟨by have := HK1.out; have := HJ10.out; first | omega | exact Nat.le_refl _⟩, ⟨by (with_reducible repeat (first | refine blk_drewN ?_ _ | refine blk_drew ?_ | refine blk_alloc ?_ _)); exact BK101.out⟩, ⟨by (with_reducible repeat (first | refine blk_drewN ?_ _ | refine blk_drew ?_ | refine blk_alloc ?_ _)); exact BK102.out⟩, ⟨by (with_reducible repeat (first | refine blk_drewN ?_ _ | refine blk_drew ?_ | refine blk_alloc ?_ _)); exact BK104.out⟩, ⟨by repeat (first | (with_reducible first | exact HB.out | apply below_alloc | apply pw_below_drewN | apply below_drew1 | refine below_set ?_ GE101.out | refine below_set ?_ GE102.out | refine below_set ?_ GE104.out) | exact HB.out)⟩⟩
                    · rw [if_neg c29] at H
                      have c29b0 : decide (((rd_T62 l0 x12_1).f4.f1) < a2) = false := decide_eq_false c29
                      clear c29
                      have H' := Aside0.mk H
                      clear H
                      have hnb33 := NB104_101.out
                      have hnc33 := NB101_104.out
                      have hnb34 := NB104_102.out
                      have hnc34 := NB102_104.out
                      have hcz35_0 : wc.cell? ⟨gb104, 0, none⟩ = some (.int .i64 ((rd_T62 l0 x12_1).f0)) := (blk_cell BK104.out 0).trans rfl
                      have hcz35_1 : wc.cell? ⟨gb104, 1, none⟩ = some (.int .i64 ((rd_T62 l0 x12_1).f1)) := (blk_cell BK104.out 1).trans rfl
                      have hcz35_2 : wc.cell? ⟨gb104, 2, none⟩ = some (.int .i64 ((rd_T62 l0 x12_1).f2)) := (blk_cell BK104.out 2).trans rfl
                      have hcz35_3 : wc.cell? ⟨gb104, 3, none⟩ = some (.int .i64 ((rd_T62 l0 x12_1).f3)) := (blk_cell BK104.out 3).trans rfl
                      have hcz35_4 : wc.cell? ⟨gb104, 4, none⟩ = some (.int .u32 ((rd_T62 l0 x12_1).f4.f0)) := (blk_cell BK104.out 4).trans rfl
                      have hcz35_5 : wc.cell? ⟨gb104, 5, none⟩ = some (.int .u32 ((rd_T62 l0 x12_1).f4.f1)) := (blk_cell BK104.out 5).trans rfl
                      have hcz35_6 : wc.cell? ⟨gb104, 6, none⟩ = some (.int .i64 ((rd_T62 l0 x12_1).f5)) := (blk_cell BK104.out 6).trans rfl
                      have hfz35_0 := blk_frozen BK104.out 0
                      have hfz35_1 := blk_frozen BK104.out 1
                      have hfz35_2 := blk_frozen BK104.out 2
                      have hfz35_3 := blk_frozen BK104.out 3
                      have hfz35_4 := blk_frozen BK104.out 4
                      have hfz35_5 := blk_frozen BK104.out 5
                      have hfz35_6 := blk_frozen BK104.out 6
                      go_wp2
                      go_meet
                      case rel => exact ⟨_, ((x14_10 != a3)), (by first | rfl | (simp; done) | (simp [*]; done)), H', ⟨by have := HK1.out; have := HJ10.out; first | omega | exact Nat.le_refl _⟩, ⟨by (with_reducible repeat (first | refine blk_drewN ?_ _ | refine blk_drew ?_ | refine blk_alloc ?_ _)); exact BK101.out⟩, ⟨by (with_reducible repeat (first | refine blk_drewN ?_ _ | refine blk_drew ?_ | refine blk_alloc ?_ _)); exact BK102.out⟩, ⟨by (with_reducible repeat (first | refine blk_drewN ?_ _ | refine blk_drew ?_ | refine blk_alloc ?_ _)); exact BK104.out⟩, ⟨by repeat (first | (with_reducible first | exact HB.out | apply below_alloc | apply pw_below_drewN | apply below_drew1 | refine below_set ?_ GE101.out | refine below_set ?_ GE102.out | refine below_set ?_ GE104.out) | exact HB.out)⟩⟩
                · rw [if_neg c24] at H
                  have c24b0 : (((rd_T62 l0 x12_1).f1) == a1) = false := beq_eq_false_iff_ne.mpr c24
                  have c24b1 : (((rd_T62 l0 x12_1).f1) != a1) = true := bne_iff_ne.mpr c24
                  (first | rw [c24b0] | (simp only [i64_w, i32_w]; rw [c24b0]) | skip)
                  have H' := Aside0.mk H
                  clear H
                  have hnb36 := NB104_101.out
                  have hnc36 := NB101_104.out
                  have hnb37 := NB104_102.out
                  have hnc37 := NB102_104.out
                  have hcz38_0 : wc.cell? ⟨gb104, 0, none⟩ = some (.int .i64 ((rd_T62 l0 x12_1).f0)) := (blk_cell BK104.out 0).trans rfl
                  have hcz38_1 : wc.cell? ⟨gb104, 1, none⟩ = some (.int .i64 ((rd_T62 l0 x12_1).f1)) := (blk_cell BK104.out 1).trans rfl
                  have hcz38_2 : wc.cell? ⟨gb104, 2, none⟩ = some (.int .i64 ((rd_T62 l0 x12_1).f2)) := (blk_cell BK104.out 2).trans rfl
                  have hcz38_3 : wc.cell? ⟨gb104, 3, none⟩ = some (.int .i64 ((rd_T62 l0 x12_1).f3)) := (blk_cell BK104.out 3).trans rfl
                  have hcz38_4 : wc.cell? ⟨gb104, 4, none⟩ = some (.int .u32 ((rd_T62 l0 x12_1).f4.f0)) := (blk_cell BK104.out 4).trans rfl
                  have hcz38_5 : wc.cell? ⟨gb104, 5, none⟩ = some (.int .u32 ((rd_T62 l0 x12_1).f4.f1)) := (blk_cell BK104.out 5).trans rfl
                  have hcz38_6 : wc.cell? ⟨gb104, 6, none⟩ = some (.int .i64 ((rd_T62 l0 x12_1).f5)) := (blk_cell BK104.out 6).trans rfl
                  have hfz38_0 := blk_frozen BK104.out 0
                  have hfz38_1 := blk_frozen BK104.out 1
                  have hfz38_2 := blk_frozen BK104.out 2
                  have hfz38_3 := blk_frozen BK104.out 3
                  have hfz38_4 := blk_frozen BK104.out 4
                  have hfz38_5 := blk_frozen BK104.out 5
                  have hfz38_6 := blk_frozen BK104.out 6
                  go_wp2
                  go_meet
                  case rel => exact ⟨_, (true), (by first | rfl | (simp; done) | (simp [*]; done)), H', ⟨by have := HK1.out; have := HJ10.out; first | omega | exact Nat.le_refl _⟩, ⟨by (with_reducible repeat (first | refine blk_drewN ?_ _ | refine blk_drew ?_ | refine blk_alloc ?_ _)); exact BK101.out⟩, ⟨by (with_reducible repeat (first | refine blk_drewN ?_ _ | refine blk_drew ?_ | refine blk_alloc ?_ _)); exact BK102.out⟩, ⟨by (with_reducible repeat (first | refine blk_drewN ?_ _ | refine blk_drew ?_ | refine blk_alloc ?_ _)); exact BK104.out⟩, ⟨by repeat (first | (with_reducible first | exact HB.out | apply below_alloc | apply pw_below_drewN | apply below_drew1 | refine below_set ?_ GE101.out | refine below_set ?_ GE102.out | refine below_set ?_ GE104.out) | exact HB.out)⟩⟩
              case rest =>
                clear HC23
                try clear c1
                try clear p1
                try clear q1
                try clear hx1
                try clear c2
                try clear p2
                try clear c3
                try clear c5
                try clear c7
                try clear c9
                try clear c9b0
                try clear c10
                try clear c10b0
                try clear p10
                try clear q10
                try clear hx10
                try clear c13
                try clear c14
                try clear c16
                try clear c16b0
                try clear c16b1
                try clear c17
                try clear c18
                try clear c20
                try clear c21
                try clear c24
                try clear c24b0
                try clear c24b1
                try clear c25
                try clear c25b0
                try clear c26
                try clear c27
                try clear c29
                try clear c29b0
                try clear c30
                try clear c31
                try clear c33
                try clear c34
                try clear c36
                try clear c37
                try clear hcz15_0
                try clear hcz15_1
                try clear hcz15_2
                try clear hcz15_3
                try clear hcz15_4
                try clear hcz15_5
                try clear hcz15_6
                try clear hcz19_0
                try clear hcz19_1
                try clear hcz19_2
                try clear hcz19_3
                try clear hcz19_4
                try clear hcz19_5
                try clear hcz19_6
                try clear hcz22_0
                try clear hcz22_1
                try clear hcz22_2
                try clear hcz22_3
                try clear hcz22_4
                try clear hcz22_5
                try clear hcz22_6
                try clear hcz28_0
                try clear hcz28_1
                try clear hcz28_2
                try clear hcz28_3
                try clear hcz28_4
                try clear hcz28_5
                try clear hcz28_6
                try clear hcz32_0
                try clear hcz32_1
                try clear hcz32_2
                try clear hcz32_3
                try clear hcz32_4
                try clear hcz32_5
                try clear hcz32_6
                try clear hcz35_0
                try clear hcz35_1
                try clear hcz35_2
                try clear hcz35_3
                try clear hcz35_4
                try clear hcz35_5
                try clear hcz35_6
                try clear hcz38_0
                try clear hcz38_1
                try clear hcz38_2
                try clear hcz38_3
                try clear hcz38_4
                try clear hcz38_5
                try clear hcz38_6
                try clear hcz8_0
                try clear hcz8_1
                try clear hcz8_2
                try clear hcz8_3
                try clear hcz8_4
                try clear hcz8_5
                try clear hcz8_6
                try clear hfz15_0
                try clear hfz15_1
                try clear hfz15_2
                try clear hfz15_3
                try clear hfz15_4
                try clear hfz15_5
                try clear hfz15_6
                try clear hfz19_0
                try clear hfz19_1
                try clear hfz19_2
                try clear hfz19_3
                try clear hfz19_4
                try clear hfz19_5
                try clear hfz19_6
                try clear hfz22_0
                try clear hfz22_1
                try clear hfz22_2
                try clear hfz22_3
                try clear hfz22_4
                try clear hfz22_5
                try clear hfz22_6
                try clear hfz28_0
                try clear hfz28_1
                try clear hfz28_2
                try clear hfz28_3
                try clear hfz28_4
                try clear hfz28_5
                try clear hfz28_6
                try clear hfz32_0
                try clear hfz32_1
                try clear hfz32_2
                try clear hfz32_3
                try clear hfz32_4
                try clear hfz32_5
                try clear hfz32_6
                try clear hfz35_0
                try clear hfz35_1
                try clear hfz35_2
                try clear hfz35_3
                try clear hfz35_4
                try clear hfz35_5
                try clear hfz35_6
                try clear hfz38_0
                try clear hfz38_1
                try clear hfz38_2
                try clear hfz38_3
                try clear hfz38_4
                try clear hfz38_5
                try clear hfz38_6
                try clear hfz8_0
                try clear hfz8_1
                try clear hfz8_2
                try clear hfz8_3
                try clear hfz8_4
                try clear hfz8_5
                try clear hfz8_6
                try clear hx103_0
                try clear hx103_1
                try clear hx103_2
                try clear hx103_3
                try clear hx103_4
                try clear hx103_5
                try clear hx103_6
                try clear p1
                try clear p10
                try clear p103
                try clear p2
                try clear q1
                try clear q10
                try clear q103
                obtain ⟨kq, x56_22, rfl, HA, HJ22, BK101, BK102, BK104, HB⟩ := hcut
                cases kq with
                | zero => exact absurd HA.out (by simp [waystoneref07_first.j2])
                | succ kj22 =>
                  have H := HA.out
                  clear HA
                  simp only [waystoneref07_first.j2] at H
                  by_cases c39 : x56_22 = true
                  · subst c39
                    have H1 : (waystoneref07_first.l0 kj22 l0 a1 a2 a3 x11_1 (wrap64 (x12_1 + 1)) x103000_1 x103001_1 x103002_1 x103003_1 x103004_1 x103005_1 x103006_1) = some (r1, r2, r3, r4, r5, r6, r7, r8) := by rw [if_pos rfl] at H; exact H
                    clear H
                    have H := H1
                    clear H1
                    have H' := Aside0.mk H
                    clear H
                    go_wp2
                    go_roundg kj22
                    case measure => have := HK1.out; have := HJ10.out; have := HJ22.out; omega
                    case rel => exact ⟨(x11_1), (wrap64 (x12_1 + 1)), (x103000_1), (x103001_1), (x103002_1), (x103003_1), (x103004_1), (x103005_1), (x103006_1), (by first | rfl | (simp; done) | (simp [*]; done)), (by first | rfl | (simp; done) | (simp [*]; done)), H', ⟨by have := HK1.out; have := HJ10.out; have := HJ22.out; omega⟩, ⟨by (with_reducible repeat (first | refine blk_drewN ?_ _ | refine blk_drew ?_ | refine blk_alloc ?_ _)); exact BK101.out⟩, ⟨by (with_reducible repeat (first | refine blk_drewN ?_ _ | refine blk_drew ?_ | refine blk_alloc ?_ _)); exact BK102.out⟩, ⟨by repeat (first | (with_reducible first | exact HB.out | apply below_alloc | apply pw_below_drewN | apply below_drew1 | refine below_set ?_ GE101.out | refine below_set ?_ GE102.out | refine below_set ?_ GE104.out) | exact HB.out)⟩⟩
                  · replace c39 := Bool.eq_false_iff.mpr c39
                    subst c39
                    have H1 : (if x11_1 = true then (if ((rd_T62 l0 x12_1).f2) > x103002_1 then (waystoneref07_first.l0 kj22 l0 a1 a2 a3 true (wrap64 (x12_1 + 1)) ((rd_T62 l0 x12_1).f0) ((rd_T62 l0 x12_1).f1) ((rd_T62 l0 x12_1).f2) ((rd_T62 l0 x12_1).f3) ((rd_T62 l0 x12_1).f4.f0) ((rd_T62 l0 x12_1).f4.f1) ((rd_T62 l0 x12_1).f5)) else (if ((rd_T62 l0 x12_1).f2) = x103002_1 then (if ((rd_T62 l0 x12_1).f0) < x103000_1 then (waystoneref07_first.l0 kj22 l0 a1 a2 a3 true (wrap64 (x12_1 + 1)) ((rd_T62 l0 x12_1).f0) ((rd_T62 l0 x12_1).f1) ((rd_T62 l0 x12_1).f2) ((rd_T62 l0 x12_1).f3) ((rd_T62 l0 x12_1).f4.f0) ((rd_T62 l0 x12_1).f4.f1) ((rd_T62 l0 x12_1).f5)) else (waystoneref07_first.l0 kj22 l0 a1 a2 a3 x11_1 (wrap64 (x12_1 + 1)) x103000_1 x103001_1 x103002_1 x103003_1 x103004_1 x103005_1 x103006_1)) else (waystoneref07_first.l0 kj22 l0 a1 a2 a3 x11_1 (wrap64 (x12_1 + 1)) x103000_1 x103001_1 x103002_1 x103003_1 x103004_1 x103005_1 x103006_1))) else (waystoneref07_first.l0 kj22 l0 a1 a2 a3 true (wrap64 (x12_1 + 1)) ((rd_T62 l0 x12_1).f0) ((rd_T62 l0 x12_1).f1) ((rd_T62 l0 x12_1).f2) ((rd_T62 l0 x12_1).f3) ((rd_T62 l0 x12_1).f4.f0) ((rd_T62 l0 x12_1).f4.f1) ((rd_T62 l0 x12_1).f5))) = some (r1, r2, r3, r4, r5, r6, r7, r8) := by rw [if_neg (show ¬ (false = true) by decide)] at H; exact H
                    clear H
                    have H := H1
                    clear H1
                    by_cases c40 : x11_1 = true
                    · subst c40
                      have H1 : (if ((rd_T62 l0 x12_1).f2) > x103002_1 then (waystoneref07_first.l0 kj22 l0 a1 a2 a3 true (wrap64 (x12_1 + 1)) ((rd_T62 l0 x12_1).f0) ((rd_T62 l0 x12_1).f1) ((rd_T62 l0 x12_1).f2) ((rd_T62 l0 x12_1).f3) ((rd_T62 l0 x12_1).f4.f0) ((rd_T62 l0 x12_1).f4.f1) ((rd_T62 l0 x12_1).f5)) else (if ((rd_T62 l0 x12_1).f2) = x103002_1 then (if ((rd_T62 l0 x12_1).f0) < x103000_1 then (waystoneref07_first.l0 kj22 l0 a1 a2 a3 true (wrap64 (x12_1 + 1)) ((rd_T62 l0 x12_1).f0) ((rd_T62 l0 x12_1).f1) ((rd_T62 l0 x12_1).f2) ((rd_T62 l0 x12_1).f3) ((rd_T62 l0 x12_1).f4.f0) ((rd_T62 l0 x12_1).f4.f1) ((rd_T62 l0 x12_1).f5)) else (waystoneref07_first.l0 kj22 l0 a1 a2 a3 true (wrap64 (x12_1 + 1)) x103000_1 x103001_1 x103002_1 x103003_1 x103004_1 x103005_1 x103006_1)) else (waystoneref07_first.l0 kj22 l0 a1 a2 a3 true (wrap64 (x12_1 + 1)) x103000_1 x103001_1 x103002_1 x103003_1 x103004_1 x103005_1 x103006_1))) = some (r1, r2, r3, r4, r5, r6, r7, r8) := by rw [if_pos rfl] at H; exact H
                      clear H
                      have H := H1
                      clear H1
                      by_cases c41 : ((rd_T62 l0 x12_1).f2) > x103002_1
                      · rw [if_pos c41] at H
                        have c41b0 : decide (x103002_1 < ((rd_T62 l0 x12_1).f2)) = true := decide_eq_true c41
                        clear c41
                        have H' := Aside0.mk H
                        clear H
                        have hnb42 := NB104_101.out
                        have hnc42 := NB101_104.out
                        have hnb43 := NB104_102.out
                        have hnc43 := NB102_104.out
                        have hcz44_0 : wc.cell? ⟨gb104, 0, none⟩ = some (.int .i64 ((rd_T62 l0 x12_1).f0)) := (blk_cell BK104.out 0).trans rfl
                        have hcz44_1 : wc.cell? ⟨gb104, 1, none⟩ = some (.int .i64 ((rd_T62 l0 x12_1).f1)) := (blk_cell BK104.out 1).trans rfl
                        have hcz44_2 : wc.cell? ⟨gb104, 2, none⟩ = some (.int .i64 ((rd_T62 l0 x12_1).f2)) := (blk_cell BK104.out 2).trans rfl
                        have hcz44_3 : wc.cell? ⟨gb104, 3, none⟩ = some (.int .i64 ((rd_T62 l0 x12_1).f3)) := (blk_cell BK104.out 3).trans rfl
                        have hcz44_4 : wc.cell? ⟨gb104, 4, none⟩ = some (.int .u32 ((rd_T62 l0 x12_1).f4.f0)) := (blk_cell BK104.out 4).trans rfl
                        have hcz44_5 : wc.cell? ⟨gb104, 5, none⟩ = some (.int .u32 ((rd_T62 l0 x12_1).f4.f1)) := (blk_cell BK104.out 5).trans rfl
                        have hcz44_6 : wc.cell? ⟨gb104, 6, none⟩ = some (.int .i64 ((rd_T62 l0 x12_1).f5)) := (blk_cell BK104.out 6).trans rfl
                        have hfz44_0 := blk_frozen BK104.out 0
                        have hfz44_1 := blk_frozen BK104.out 1
                        have hfz44_2 := blk_frozen BK104.out 2
                        have hfz44_3 := blk_frozen BK104.out 3
                        have hfz44_4 := blk_frozen BK104.out 4
                        have hfz44_5 := blk_frozen BK104.out 5
                        have hfz44_6 := blk_frozen BK104.out 6
                        have hnb45 := NB102_101.out
                        have hnc45 := NB101_102.out
                        have hcz46_0 : wc.cell? ⟨gb102, 0, none⟩ = some (.int .i64 x103000_1) := (blk_cell BK102.out 0).trans rfl
                        have hcz46_1 : wc.cell? ⟨gb102, 1, none⟩ = some (.int .i64 x103001_1) := (blk_cell BK102.out 1).trans rfl
                        have hcz46_2 : wc.cell? ⟨gb102, 2, none⟩ = some (.int .i64 x103002_1) := (blk_cell BK102.out 2).trans rfl
                        have hcz46_3 : wc.cell? ⟨gb102, 3, none⟩ = some (.int .i64 x103003_1) := (blk_cell BK102.out 3).trans rfl
                        have hcz46_4 : wc.cell? ⟨gb102, 4, none⟩ = some (.int .u32 x103004_1) := (blk_cell BK102.out 4).trans rfl
                        have hcz46_5 : wc.cell? ⟨gb102, 5, none⟩ = some (.int .u32 x103005_1) := (blk_cell BK102.out 5).trans rfl
                        have hcz46_6 : wc.cell? ⟨gb102, 6, none⟩ = some (.int .i64 x103006_1) := (blk_cell BK102.out 6).trans rfl
                        have hfz46_0 := blk_frozen BK102.out 0
                        have hfz46_1 := blk_frozen BK102.out 1
                        have hfz46_2 := blk_frozen BK102.out 2
                        have hfz46_3 := blk_frozen BK102.out 3
                        have hfz46_4 := blk_frozen BK102.out 4
                        have hfz46_5 := blk_frozen BK102.out 5
                        have hfz46_6 := blk_frozen BK102.out 6
                        go_wp2
                        go_roundg kj22
                        case measure => have := HK1.out; have := HJ10.out; have := HJ22.out; omega
                        case rel => exact ⟨(true), (wrap64 (x12_1 + 1)), (((rd_T62 l0 x12_1).f0)), (((rd_T62 l0 x12_1).f1)), (((rd_T62 l0 x12_1).f2)), (((rd_T62 l0 x12_1).f3)), (((rd_T62 l0 x12_1).f4.f0)), (((rd_T62 l0 x12_1).f4.f1)), (((rd_T62 l0 x12_1).f5)), (by first | rfl | (simp; done) | (simp [*]; done)), (by first | rfl | (simp; done) | (simp [*]; done)), H', ⟨by have := HK1.out; have := HJ10.out; have := HJ22.out; omega⟩, ⟨by (with_reducible repeat (first | refine blk_drewN ?_ _ | refine blk_drew ?_ | refine blk_alloc ?_ _)); refine blk_far ?_ NB101_102.out _; (with_reducible repeat (first | refine blk_drewN ?_ _ | refine blk_drew ?_ | refine blk_alloc ?_ _)); refine blk_far ?_ NB101_102.out _; (with_reducible repeat (first | refine blk_drewN ?_ _ | refine blk_drew ?_ | refine blk_alloc ?_ _)); refine blk_far ?_ NB101_102.out _; (with_reducible repeat (first | refine blk_drewN ?_ _ | refine blk_drew ?_ | refine blk_alloc ?_ _)); refine blk_far ?_ NB101_102.out _; (with_reducible repeat (first | refine blk_drewN ?_ _ | refine blk_drew ?_ | refine blk_alloc ?_ _)); refine blk_far ?_ NB101_102.out _; (with_reducible repeat (first | refine blk_drewN ?_ _ | refine blk_drew ?_ | refine blk_alloc ?_ _)); refine blk_far ?_ NB101_102.out _; (with_reducible repeat (first | refine blk_drewN ?_ _ | refine blk_drew ?_ | refine blk_alloc ?_ _)); refine blk_far ?_ NB101_102.out _; (with_reducible repeat (first | refine blk_drewN ?_ _ | refine blk_drew ?_ | refine blk_alloc ?_ _)); exact BK101.out⟩, ⟨by (with_reducible repeat (first | refine blk_drewN ?_ _ | refine blk_drew ?_ | refine blk_alloc ?_ _)); refine blk_put (cs := #[.int .i64 ((rd_T62 l0 x12_1).f0), .int .i64 ((rd_T62 l0 x12_1).f1), .int .i64 ((rd_T62 l0 x12_1).f2), .int .i64 ((rd_T62 l0 x12_1).f3), .int .u32 ((rd_T62 l0 x12_1).f4.f0), .int .u32 ((rd_T62 l0 x12_1).f4.f1), .int .i64 x103006_1]) ?_ 6 _ rfl; (with_reducible repeat (first | refine blk_drewN ?_ _ | refine blk_drew ?_ | refine blk_alloc ?_ _)); refine blk_put (cs := #[.int .i64 ((rd_T62 l0 x12_1).f0), .int .i64 ((rd_T62 l0 x12_1).f1), .int .i64 ((rd_T62 l0 x12_1).f2), .int .i64 ((rd_T62 l0 x12_1).f3), .int .u32 ((rd_T62 l0 x12_1).f4.f0), .int .u32 x103005_1, .int .i64 x103006_1]) ?_ 5 _ rfl; (with_reducible repeat (first | refine blk_drewN ?_ _ | refine blk_drew ?_ | refine blk_alloc ?_ _)); refine blk_put (cs := #[.int .i64 ((rd_T62 l0 x12_1).f0), .int .i64 ((rd_T62 l0 x12_1).f1), .int .i64 ((rd_T62 l0 x12_1).f2), .int .i64 ((rd_T62 l0 x12_1).f3), .int .u32 x103004_1, .int .u32 x103005_1, .int .i64 x103006_1]) ?_ 4 _ rfl; (with_reducible repeat (first | refine blk_drewN ?_ _ | refine blk_drew ?_ | refine blk_alloc ?_ _)); refine blk_put (cs := #[.int .i64 ((rd_T62 l0 x12_1).f0), .int .i64 ((rd_T62 l0 x12_1).f1), .int .i64 ((rd_T62 l0 x12_1).f2), .int .i64 x103003_1, .int .u32 x103004_1, .int .u32 x103005_1, .int .i64 x103006_1]) ?_ 3 _ rfl; (with_reducible repeat (first | refine blk_drewN ?_ _ | refine blk_drew ?_ | refine blk_alloc ?_ _)); refine blk_put (cs := #[.int .i64 ((rd_T62 l0 x12_1).f0), .int .i64 ((rd_T62 l0 x12_1).f1), .int .i64 x103002_1, .int .i64 x103003_1, .int .u32 x103004_1, .int .u32 x103005_1, .int .i64 x103006_1]) ?_ 2 _ rfl; (with_reducible repeat (first | refine blk_drewN ?_ _ | refine blk_drew ?_ | refine blk_alloc ?_ _)); refine blk_put (cs := #[.int .i64 ((rd_T62 l0 x12_1).f0), .int .i64 x103001_1, .int .i64 x103002_1, .int .i64 x103003_1, .int .u32 x103004_1, .int .u32 x103005_1, .int .i64 x103006_1]) ?_ 1 _ rfl; (with_reducible repeat (first | refine blk_drewN ?_ _ | refine blk_drew ?_ | refine blk_alloc ?_ _)); refine blk_put (cs := #[.int .i64 x103000_1, .int .i64 x103001_1, .int .i64 x103002_1, .int .i64 x103003_1, .int .u32 x103004_1, .int .u32 x103005_1, .int .i64 x103006_1]) ?_ 0 _ rfl; (with_reducible repeat (first | refine blk_drewN ?_ _ | refine blk_drew ?_ | refine blk_alloc ?_ _)); exact BK102.out⟩, ⟨by repeat (first | (with_reducible first | exact HB.out | apply below_alloc | apply pw_below_drewN | apply below_drew1 | refine below_set ?_ GE101.out | refine below_set ?_ GE102.out | refine below_set ?_ GE104.out) | exact HB.out)⟩⟩
                      · rw [if_neg c41] at H
                        have c41b0 : decide (x103002_1 < ((rd_T62 l0 x12_1).f2)) = false := decide_eq_false c41
                        clear c41
                        by_cases c47 : ((rd_T62 l0 x12_1).f2) = x103002_1
                        · rw [if_pos c47] at H
                          have c47b0 : (((rd_T62 l0 x12_1).f2) == x103002_1) = true := beq_iff_eq.mpr c47
                          have c47b1 : (((rd_T62 l0 x12_1).f2) != x103002_1) = false := bne_eq_false_iff_eq.mpr c47
                          clear c47
                          by_cases c48 : ((rd_T62 l0 x12_1).f0) < x103000_1
                          · rw [if_pos c48] at H
                            have c48b0 : decide (((rd_T62 l0 x12_1).f0) < x103000_1) = true := decide_eq_true c48
                            clear c48
                            have H' := Aside0.mk H
                            clear H
                            have hnb49 := NB104_101.out
                            have hnc49 := NB101_104.out
                            have hnb50 := NB104_102.out
                            have hnc50 := NB102_104.out
                            have hcz51_0 : wc.cell? ⟨gb104, 0, none⟩ = some (.int .i64 ((rd_T62 l0 x12_1).f0)) := (blk_cell BK104.out 0).trans rfl
                            have hcz51_1 : wc.cell? ⟨gb104, 1, none⟩ = some (.int .i64 ((rd_T62 l0 x12_1).f1)) := (blk_cell BK104.out 1).trans rfl
                            have hcz51_2 : wc.cell? ⟨gb104, 2, none⟩ = some (.int .i64 ((rd_T62 l0 x12_1).f2)) := (blk_cell BK104.out 2).trans rfl
                            have hcz51_3 : wc.cell? ⟨gb104, 3, none⟩ = some (.int .i64 ((rd_T62 l0 x12_1).f3)) := (blk_cell BK104.out 3).trans rfl
                            have hcz51_4 : wc.cell? ⟨gb104, 4, none⟩ = some (.int .u32 ((rd_T62 l0 x12_1).f4.f0)) := (blk_cell BK104.out 4).trans rfl
                            have hcz51_5 : wc.cell? ⟨gb104, 5, none⟩ = some (.int .u32 ((rd_T62 l0 x12_1).f4.f1)) := (blk_cell BK104.out 5).trans rfl
                            have hcz51_6 : wc.cell? ⟨gb104, 6, none⟩ = some (.int .i64 ((rd_T62 l0 x12_1).f5)) := (blk_cell BK104.out 6).trans rfl
                            have hfz51_0 := blk_frozen BK104.out 0
                            have hfz51_1 := blk_frozen BK104.out 1
                            have hfz51_2 := blk_frozen BK104.out 2
                            have hfz51_3 := blk_frozen BK104.out 3
                            have hfz51_4 := blk_frozen BK104.out 4
                            have hfz51_5 := blk_frozen BK104.out 5
                            have hfz51_6 := blk_frozen BK104.out 6
                            have hnb52 := NB102_101.out
                            have hnc52 := NB101_102.out
                            have hcz53_0 : wc.cell? ⟨gb102, 0, none⟩ = some (.int .i64 x103000_1) := (blk_cell BK102.out 0).trans rfl
                            have hcz53_1 : wc.cell? ⟨gb102, 1, none⟩ = some (.int .i64 x103001_1) := (blk_cell BK102.out 1).trans rfl
                            have hcz53_2 : wc.cell? ⟨gb102, 2, none⟩ = some (.int .i64 x103002_1) := (blk_cell BK102.out 2).trans rfl
                            have hcz53_3 : wc.cell? ⟨gb102, 3, none⟩ = some (.int .i64 x103003_1) := (blk_cell BK102.out 3).trans rfl
                            have hcz53_4 : wc.cell? ⟨gb102, 4, none⟩ = some (.int .u32 x103004_1) := (blk_cell BK102.out 4).trans rfl
                            have hcz53_5 : wc.cell? ⟨gb102, 5, none⟩ = some (.int .u32 x103005_1) := (blk_cell BK102.out 5).trans rfl
                            have hcz53_6 : wc.cell? ⟨gb102, 6, none⟩ = some (.int .i64 x103006_1) := (blk_cell BK102.out 6).trans rfl
                            have hfz53_0 := blk_frozen BK102.out 0
                            have hfz53_1 := blk_frozen BK102.out 1
                            have hfz53_2 := blk_frozen BK102.out 2
                            have hfz53_3 := blk_frozen BK102.out 3
                            have hfz53_4 := blk_frozen BK102.out 4
                            have hfz53_5 := blk_frozen BK102.out 5
                            have hfz53_6 := blk_frozen BK102.out 6
                            go_wp2
                            go_roundg kj22
                            case measure => have := HK1.out; have := HJ10.out; have := HJ22.out; omega
                            case rel => exact ⟨(true), (wrap64 (x12_1 + 1)), (((rd_T62 l0 x12_1).f0)), (((rd_T62 l0 x12_1).f1)), (((rd_T62 l0 x12_1).f2)), (((rd_T62 l0 x12_1).f3)), (((rd_T62 l0 x12_1).f4.f0)), (((rd_T62 l0 x12_1).f4.f1)), (((rd_T62 l0 x12_1).f5)), (by first | rfl | (simp; done) | (simp [*]; done)), (by first | rfl | (simp; done) | (simp [*]; done)), H', ⟨by have := HK1.out; have := HJ10.out; have := HJ22.out; omega⟩, ⟨by (with_reducible repeat (first | refine blk_drewN ?_ _ | refine blk_drew ?_ | refine blk_alloc ?_ _)); refine blk_far ?_ NB101_102.out _; (with_reducible repeat (first | refine blk_drewN ?_ _ | refine blk_drew ?_ | refine blk_alloc ?_ _)); refine blk_far ?_ NB101_102.out _; (with_reducible repeat (first | refine blk_drewN ?_ _ | refine blk_drew ?_ | refine blk_alloc ?_ _)); refine blk_far ?_ NB101_102.out _; (with_reducible repeat (first | refine blk_drewN ?_ _ | refine blk_drew ?_ | refine blk_alloc ?_ _)); refine blk_far ?_ NB101_102.out _; (with_reducible repeat (first | refine blk_drewN ?_ _ | refine blk_drew ?_ | refine blk_alloc ?_ _)); refine blk_far ?_ NB101_102.out _; (with_reducible repeat (first | refine blk_drewN ?_ _ | refine blk_drew ?_ | refine blk_alloc ?_ _)); refine blk_far ?_ NB101_102.out _; (with_reducible repeat (first | refine blk_drewN ?_ _ | refine blk_drew ?_ | refine blk_alloc ?_ _)); refine blk_far ?_ NB101_102.out _; (with_reducible repeat (first | refine blk_drewN ?_ _ | refine blk_drew ?_ | refine blk_alloc ?_ _)); exact BK101.out⟩, ⟨by (with_reducible repeat (first | refine blk_drewN ?_ _ | refine blk_drew ?_ | refine blk_alloc ?_ _)); refine blk_put (cs := #[.int .i64 ((rd_T62 l0 x12_1).f0), .int .i64 ((rd_T62 l0 x12_1).f1), .int .i64 ((rd_T62 l0 x12_1).f2), .int .i64 ((rd_T62 l0 x12_1).f3), .int .u32 ((rd_T62 l0 x12_1).f4.f0), .int .u32 ((rd_T62 l0 x12_1).f4.f1), .int .i64 x103006_1]) ?_ 6 _ rfl; (with_reducible repeat (first | refine blk_drewN ?_ _ | refine blk_drew ?_ | refine blk_alloc ?_ _)); refine blk_put (cs := #[.int .i64 ((rd_T62 l0 x12_1).f0), .int .i64 ((rd_T62 l0 x12_1).f1), .int .i64 ((rd_T62 l0 x12_1).f2), .int .i64 ((rd_T62 l0 x12_1).f3), .int .u32 ((rd_T62 l0 x12_1).f4.f0), .int .u32 x103005_1, .int .i64 x103006_1]) ?_ 5 _ rfl; (with_reducible repeat (first | refine blk_drewN ?_ _ | refine blk_drew ?_ | refine blk_alloc ?_ _)); refine blk_put (cs := #[.int .i64 ((rd_T62 l0 x12_1).f0), .int .i64 ((rd_T62 l0 x12_1).f1), .int .i64 ((rd_T62 l0 x12_1).f2), .int .i64 ((rd_T62 l0 x12_1).f3), .int .u32 x103004_1, .int .u32 x103005_1, .int .i64 x103006_1]) ?_ 4 _ rfl; (with_reducible repeat (first | refine blk_drewN ?_ _ | refine blk_drew ?_ | refine blk_alloc ?_ _)); refine blk_put (cs := #[.int .i64 ((rd_T62 l0 x12_1).f0), .int .i64 ((rd_T62 l0 x12_1).f1), .int .i64 ((rd_T62 l0 x12_1).f2), .int .i64 x103003_1, .int .u32 x103004_1, .int .u32 x103005_1, .int .i64 x103006_1]) ?_ 3 _ rfl; (with_reducible repeat (first | refine blk_drewN ?_ _ | refine blk_drew ?_ | refine blk_alloc ?_ _)); refine blk_put (cs := #[.int .i64 ((rd_T62 l0 x12_1).f0), .int .i64 ((rd_T62 l0 x12_1).f1), .int .i64 x103002_1, .int .i64 x103003_1, .int .u32 x103004_1, .int .u32 x103005_1, .int .i64 x103006_1]) ?_ 2 _ rfl; (with_reducible repeat (first | refine blk_drewN ?_ _ | refine blk_drew ?_ | refine blk_alloc ?_ _)); refine blk_put (cs := #[.int .i64 ((rd_T62 l0 x12_1).f0), .int .i64 x103001_1, .int .i64 x103002_1, .int .i64 x103003_1, .int .u32 x103004_1, .int .u32 x103005_1, .int .i64 x103006_1]) ?_ 1 _ rfl; (with_reducible repeat (first | refine blk_drewN ?_ _ | refine blk_drew ?_ | refine blk_alloc ?_ _)); refine blk_put (cs := #[.int .i64 x103000_1, .int .i64 x103001_1, .int .i64 x103002_1, .int .i64 x103003_1, .int .u32 x103004_1, .int .u32 x103005_1, .int .i64 x103006_1]) ?_ 0 _ rfl; (with_reducible repeat (first | refine blk_drewN ?_ _ | refine blk_drew ?_ | refine blk_alloc ?_ _)); exact BK102.out⟩, ⟨by repeat (first | (with_reducible first | exact HB.out | apply below_alloc | apply pw_below_drewN | apply below_drew1 | refine below_set ?_ GE101.out | refine below_set ?_ GE102.out | refine below_set ?_ GE104.out) | exact HB.out)⟩⟩
                          · rw [if_neg c48] at H
                            have c48b0 : decide (((rd_T62 l0 x12_1).f0) < x103000_1) = false := decide_eq_false c48
                            clear c48
                            have H' := Aside0.mk H
                            clear H
                            have hnb54 := NB104_101.out
                            have hnc54 := NB101_104.out
                            have hnb55 := NB104_102.out
                            have hnc55 := NB102_104.out
                            have hcz56_0 : wc.cell? ⟨gb104, 0, none⟩ = some (.int .i64 ((rd_T62 l0 x12_1).f0)) := (blk_cell BK104.out 0).trans rfl
                            have hcz56_1 : wc.cell? ⟨gb104, 1, none⟩ = some (.int .i64 ((rd_T62 l0 x12_1).f1)) := (blk_cell BK104.out 1).trans rfl
                            have hcz56_2 : wc.cell? ⟨gb104, 2, none⟩ = some (.int .i64 ((rd_T62 l0 x12_1).f2)) := (blk_cell BK104.out 2).trans rfl
                            have hcz56_3 : wc.cell? ⟨gb104, 3, none⟩ = some (.int .i64 ((rd_T62 l0 x12_1).f3)) := (blk_cell BK104.out 3).trans rfl
                            have hcz56_4 : wc.cell? ⟨gb104, 4, none⟩ = some (.int .u32 ((rd_T62 l0 x12_1).f4.f0)) := (blk_cell BK104.out 4).trans rfl
                            have hcz56_5 : wc.cell? ⟨gb104, 5, none⟩ = some (.int .u32 ((rd_T62 l0 x12_1).f4.f1)) := (blk_cell BK104.out 5).trans rfl
                            have hcz56_6 : wc.cell? ⟨gb104, 6, none⟩ = some (.int .i64 ((rd_T62 l0 x12_1).f5)) := (blk_cell BK104.out 6).trans rfl
                            have hfz56_0 := blk_frozen BK104.out 0
                            have hfz56_1 := blk_frozen BK104.out 1
                            have hfz56_2 := blk_frozen BK104.out 2
                            have hfz56_3 := blk_frozen BK104.out 3
                            have hfz56_4 := blk_frozen BK104.out 4
                            have hfz56_5 := blk_frozen BK104.out 5
                            have hfz56_6 := blk_frozen BK104.out 6
                            have hnb57 := NB102_101.out
                            have hnc57 := NB101_102.out
                            have hcz58_0 : wc.cell? ⟨gb102, 0, none⟩ = some (.int .i64 x103000_1) := (blk_cell BK102.out 0).trans rfl
                            have hcz58_1 : wc.cell? ⟨gb102, 1, none⟩ = some (.int .i64 x103001_1) := (blk_cell BK102.out 1).trans rfl
                            have hcz58_2 : wc.cell? ⟨gb102, 2, none⟩ = some (.int .i64 x103002_1) := (blk_cell BK102.out 2).trans rfl
                            have hcz58_3 : wc.cell? ⟨gb102, 3, none⟩ = some (.int .i64 x103003_1) := (blk_cell BK102.out 3).trans rfl
                            have hcz58_4 : wc.cell? ⟨gb102, 4, none⟩ = some (.int .u32 x103004_1) := (blk_cell BK102.out 4).trans rfl
                            have hcz58_5 : wc.cell? ⟨gb102, 5, none⟩ = some (.int .u32 x103005_1) := (blk_cell BK102.out 5).trans rfl
                            have hcz58_6 : wc.cell? ⟨gb102, 6, none⟩ = some (.int .i64 x103006_1) := (blk_cell BK102.out 6).trans rfl
                            have hfz58_0 := blk_frozen BK102.out 0
                            have hfz58_1 := blk_frozen BK102.out 1
                            have hfz58_2 := blk_frozen BK102.out 2
                            have hfz58_3 := blk_frozen BK102.out 3
                            have hfz58_4 := blk_frozen BK102.out 4
                            have hfz58_5 := blk_frozen BK102.out 5
                            have hfz58_6 := blk_frozen BK102.out 6
                            go_wp2
                            go_roundg kj22
                            case measure => have := HK1.out; have := HJ10.out; have := HJ22.out; omega
                            case rel => exact ⟨(true), (wrap64 (x12_1 + 1)), (x103000_1), (x103001_1), (x103002_1), (x103003_1), (x103004_1), (x103005_1), (x103006_1), (by first | rfl | (simp; done) | (simp [*]; done)), (by first | rfl | (simp; done) | (simp [*]; done)), H', ⟨by have := HK1.out; have := HJ10.out; have := HJ22.out; omega⟩, ⟨by (with_reducible repeat (first | refine blk_drewN ?_ _ | refine blk_drew ?_ | refine blk_alloc ?_ _)); exact BK101.out⟩, ⟨by (with_reducible repeat (first | refine blk_drewN ?_ _ | refine blk_drew ?_ | refine blk_alloc ?_ _)); exact BK102.out⟩, ⟨by repeat (first | (with_reducible first | exact HB.out | apply below_alloc | apply pw_below_drewN | apply below_drew1 | refine below_set ?_ GE101.out | refine below_set ?_ GE102.out | refine below_set ?_ GE104.out) | exact HB.out)⟩⟩
                        · rw [if_neg c47] at H
                          have c47b0 : (((rd_T62 l0 x12_1).f2) == x103002_1) = false := beq_eq_false_iff_ne.mpr c47
                          have c47b1 : (((rd_T62 l0 x12_1).f2) != x103002_1) = true := bne_iff_ne.mpr c47
                          have H' := Aside0.mk H
                          clear H
                          have hnb59 := NB104_101.out
                          have hnc59 := NB101_104.out
                          have hnb60 := NB104_102.out
                          have hnc60 := NB102_104.out
                          have hcz61_0 : wc.cell? ⟨gb104, 0, none⟩ = some (.int .i64 ((rd_T62 l0 x12_1).f0)) := (blk_cell BK104.out 0).trans rfl
                          have hcz61_1 : wc.cell? ⟨gb104, 1, none⟩ = some (.int .i64 ((rd_T62 l0 x12_1).f1)) := (blk_cell BK104.out 1).trans rfl
                          have hcz61_2 : wc.cell? ⟨gb104, 2, none⟩ = some (.int .i64 ((rd_T62 l0 x12_1).f2)) := (blk_cell BK104.out 2).trans rfl
                          have hcz61_3 : wc.cell? ⟨gb104, 3, none⟩ = some (.int .i64 ((rd_T62 l0 x12_1).f3)) := (blk_cell BK104.out 3).trans rfl
                          have hcz61_4 : wc.cell? ⟨gb104, 4, none⟩ = some (.int .u32 ((rd_T62 l0 x12_1).f4.f0)) := (blk_cell BK104.out 4).trans rfl
                          have hcz61_5 : wc.cell? ⟨gb104, 5, none⟩ = some (.int .u32 ((rd_T62 l0 x12_1).f4.f1)) := (blk_cell BK104.out 5).trans rfl
                          have hcz61_6 : wc.cell? ⟨gb104, 6, none⟩ = some (.int .i64 ((rd_T62 l0 x12_1).f5)) := (blk_cell BK104.out 6).trans rfl
                          have hfz61_0 := blk_frozen BK104.out 0
                          have hfz61_1 := blk_frozen BK104.out 1
                          have hfz61_2 := blk_frozen BK104.out 2
                          have hfz61_3 := blk_frozen BK104.out 3
                          have hfz61_4 := blk_frozen BK104.out 4
                          have hfz61_5 := blk_frozen BK104.out 5
                          have hfz61_6 := blk_frozen BK104.out 6
                          have hnb62 := NB102_101.out
                          have hnc62 := NB101_102.out
                          have hcz63_0 : wc.cell? ⟨gb102, 0, none⟩ = some (.int .i64 x103000_1) := (blk_cell BK102.out 0).trans rfl
                          have hcz63_1 : wc.cell? ⟨gb102, 1, none⟩ = some (.int .i64 x103001_1) := (blk_cell BK102.out 1).trans rfl
                          have hcz63_2 : wc.cell? ⟨gb102, 2, none⟩ = some (.int .i64 x103002_1) := (blk_cell BK102.out 2).trans rfl
                          have hcz63_3 : wc.cell? ⟨gb102, 3, none⟩ = some (.int .i64 x103003_1) := (blk_cell BK102.out 3).trans rfl
                          have hcz63_4 : wc.cell? ⟨gb102, 4, none⟩ = some (.int .u32 x103004_1) := (blk_cell BK102.out 4).trans rfl
                          have hcz63_5 : wc.cell? ⟨gb102, 5, none⟩ = some (.int .u32 x103005_1) := (blk_cell BK102.out 5).trans rfl
                          have hcz63_6 : wc.cell? ⟨gb102, 6, none⟩ = some (.int .i64 x103006_1) := (blk_cell BK102.out 6).trans rfl
                          have hfz63_0 := blk_frozen BK102.out 0
                          have hfz63_1 := blk_frozen BK102.out 1
                          have hfz63_2 := blk_frozen BK102.out 2
                          have hfz63_3 := blk_frozen BK102.out 3
                          have hfz63_4 := blk_frozen BK102.out 4
                          have hfz63_5 := blk_frozen BK102.out 5
                          have hfz63_6 := blk_frozen BK102.out 6
                          go_wp2
                          go_roundg kj22
                          case measure => have := HK1.out; have := HJ10.out; have := HJ22.out; omega
                          case rel => exact ⟨(true), (wrap64 (x12_1 + 1)), (x103000_1), (x103001_1), (x103002_1), (x103003_1), (x103004_1), (x103005_1), (x103006_1), (by first | rfl | (simp; done) | (simp [*]; done)), (by first | rfl | (simp; done) | (simp [*]; done)), H', ⟨by have := HK1.out; have := HJ10.out; have := HJ22.out; omega⟩, ⟨by (with_reducible repeat (first | refine blk_drewN ?_ _ | refine blk_drew ?_ | refine blk_alloc ?_ _)); exact BK101.out⟩, ⟨by (with_reducible repeat (first | refine blk_drewN ?_ _ | refine blk_drew ?_ | refine blk_alloc ?_ _)); exact BK102.out⟩, ⟨by repeat (first | (with_reducible first | exact HB.out | apply below_alloc | apply pw_below_drewN | apply below_drew1 | refine below_set ?_ GE101.out | refine below_set ?_ GE102.out | refine below_set ?_ GE104.out) | exact HB.out)⟩⟩
                    · replace c40 := Bool.eq_false_iff.mpr c40
                      subst c40
                      have H1 : (waystoneref07_first.l0 kj22 l0 a1 a2 a3 true (wrap64 (x12_1 + 1)) ((rd_T62 l0 x12_1).f0) ((rd_T62 l0 x12_1).f1) ((rd_T62 l0 x12_1).f2) ((rd_T62 l0 x12_1).f3) ((rd_T62 l0 x12_1).f4.f0) ((rd_T62 l0 x12_1).f4.f1) ((rd_T62 l0 x12_1).f5)) = some (r1, r2, r3, r4, r5, r6, r7, r8) := by rw [if_neg (show ¬ (false = true) by decide)] at H; exact H
                      clear H
                      have H := H1
                      clear H1
                      have H' := Aside0.mk H
                      clear H
                      have hnb64 := NB104_101.out
                      have hnc64 := NB101_104.out
                      have hnb65 := NB104_102.out
                      have hnc65 := NB102_104.out
                      have hcz66_0 : wc.cell? ⟨gb104, 0, none⟩ = some (.int .i64 ((rd_T62 l0 x12_1).f0)) := (blk_cell BK104.out 0).trans rfl
                      have hcz66_1 : wc.cell? ⟨gb104, 1, none⟩ = some (.int .i64 ((rd_T62 l0 x12_1).f1)) := (blk_cell BK104.out 1).trans rfl
                      have hcz66_2 : wc.cell? ⟨gb104, 2, none⟩ = some (.int .i64 ((rd_T62 l0 x12_1).f2)) := (blk_cell BK104.out 2).trans rfl
                      have hcz66_3 : wc.cell? ⟨gb104, 3, none⟩ = some (.int .i64 ((rd_T62 l0 x12_1).f3)) := (blk_cell BK104.out 3).trans rfl
                      have hcz66_4 : wc.cell? ⟨gb104, 4, none⟩ = some (.int .u32 ((rd_T62 l0 x12_1).f4.f0)) := (blk_cell BK104.out 4).trans rfl
                      have hcz66_5 : wc.cell? ⟨gb104, 5, none⟩ = some (.int .u32 ((rd_T62 l0 x12_1).f4.f1)) := (blk_cell BK104.out 5).trans rfl
                      have hcz66_6 : wc.cell? ⟨gb104, 6, none⟩ = some (.int .i64 ((rd_T62 l0 x12_1).f5)) := (blk_cell BK104.out 6).trans rfl
                      have hfz66_0 := blk_frozen BK104.out 0
                      have hfz66_1 := blk_frozen BK104.out 1
                      have hfz66_2 := blk_frozen BK104.out 2
                      have hfz66_3 := blk_frozen BK104.out 3
                      have hfz66_4 := blk_frozen BK104.out 4
                      have hfz66_5 := blk_frozen BK104.out 5
                      have hfz66_6 := blk_frozen BK104.out 6
                      have hnb67 := NB102_101.out
                      have hnc67 := NB101_102.out
                      have hcz68_0 : wc.cell? ⟨gb102, 0, none⟩ = some (.int .i64 x103000_1) := (blk_cell BK102.out 0).trans rfl
                      have hcz68_1 : wc.cell? ⟨gb102, 1, none⟩ = some (.int .i64 x103001_1) := (blk_cell BK102.out 1).trans rfl
                      have hcz68_2 : wc.cell? ⟨gb102, 2, none⟩ = some (.int .i64 x103002_1) := (blk_cell BK102.out 2).trans rfl
                      have hcz68_3 : wc.cell? ⟨gb102, 3, none⟩ = some (.int .i64 x103003_1) := (blk_cell BK102.out 3).trans rfl
                      have hcz68_4 : wc.cell? ⟨gb102, 4, none⟩ = some (.int .u32 x103004_1) := (blk_cell BK102.out 4).trans rfl
                      have hcz68_5 : wc.cell? ⟨gb102, 5, none⟩ = some (.int .u32 x103005_1) := (blk_cell BK102.out 5).trans rfl
                      have hcz68_6 : wc.cell? ⟨gb102, 6, none⟩ = some (.int .i64 x103006_1) := (blk_cell BK102.out 6).trans rfl
                      have hfz68_0 := blk_frozen BK102.out 0
                      have hfz68_1 := blk_frozen BK102.out 1
                      have hfz68_2 := blk_frozen BK102.out 2
                      have hfz68_3 := blk_frozen BK102.out 3
                      have hfz68_4 := blk_frozen BK102.out 4
                      have hfz68_5 := blk_frozen BK102.out 5
                      have hfz68_6 := blk_frozen BK102.out 6
                      go_wp2
                      go_roundg kj22
                      case measure => have := HK1.out; have := HJ10.out; have := HJ22.out; omega
                      case rel => exact ⟨(true), (wrap64 (x12_1 + 1)), (((rd_T62 l0 x12_1).f0)), (((rd_T62 l0 x12_1).f1)), (((rd_T62 l0 x12_1).f2)), (((rd_T62 l0 x12_1).f3)), (((rd_T62 l0 x12_1).f4.f0)), (((rd_T62 l0 x12_1).f4.f1)), (((rd_T62 l0 x12_1).f5)), (by first | rfl | (simp; done) | (simp [*]; done)), (by first | rfl | (simp; done) | (simp [*]; done)), H', ⟨by have := HK1.out; have := HJ10.out; have := HJ22.out; omega⟩, ⟨by (with_reducible repeat (first | refine blk_drewN ?_ _ | refine blk_drew ?_ | refine blk_alloc ?_ _)); refine blk_far ?_ NB101_102.out _; (with_reducible repeat (first | refine blk_drewN ?_ _ | refine blk_drew ?_ | refine blk_alloc ?_ _)); refine blk_far ?_ NB101_102.out _; (with_reducible repeat (first | refine blk_drewN ?_ _ | refine blk_drew ?_ | refine blk_alloc ?_ _)); refine blk_far ?_ NB101_102.out _; (with_reducible repeat (first | refine blk_drewN ?_ _ | refine blk_drew ?_ | refine blk_alloc ?_ _)); refine blk_far ?_ NB101_102.out _; (with_reducible repeat (first | refine blk_drewN ?_ _ | refine blk_drew ?_ | refine blk_alloc ?_ _)); refine blk_far ?_ NB101_102.out _; (with_reducible repeat (first | refine blk_drewN ?_ _ | refine blk_drew ?_ | refine blk_alloc ?_ _)); refine blk_far ?_ NB101_102.out _; (with_reducible repeat (first | refine blk_drewN ?_ _ | refine blk_drew ?_ | refine blk_alloc ?_ _)); refine blk_far ?_ NB101_102.out _; (with_reducible repeat (first | refine blk_drewN ?_ _ | refine blk_drew ?_ | refine blk_alloc ?_ _)); exact BK101.out⟩, ⟨by (with_reducible repeat (first | refine blk_drewN ?_ _ | refine blk_drew ?_ | refine blk_alloc ?_ _)); refine blk_put (cs := #[.int .i64 ((rd_T62 l0 x12_1).f0), .int .i64 ((rd_T62 l0 x12_1).f1), .int .i64 ((rd_T62 l0 x12_1).f2), .int .i64 ((rd_T62 l0 x12_1).f3), .int .u32 ((rd_T62 l0 x12_1).f4.f0), .int .u32 ((rd_T62 l0 x12_1).f4.f1), .int .i64 x103006_1]) ?_ 6 _ rfl; (with_reducible repeat (first | refine blk_drewN ?_ _ | refine blk_drew ?_ | refine blk_alloc ?_ _)); refine blk_put (cs := #[.int .i64 ((rd_T62 l0 x12_1).f0), .int .i64 ((rd_T62 l0 x12_1).f1), .int .i64 ((rd_T62 l0 x12_1).f2), .int .i64 ((rd_T62 l0 x12_1).f3), .int .u32 ((rd_T62 l0 x12_1).f4.f0), .int .u32 x103005_1, .int .i64 x103006_1]) ?_ 5 _ rfl; (with_reducible repeat (first | refine blk_drewN ?_ _ | refine blk_drew ?_ | refine blk_alloc ?_ _)); refine blk_put (cs := #[.int .i64 ((rd_T62 l0 x12_1).f0), .int .i64 ((rd_T62 l0 x12_1).f1), .int .i64 ((rd_T62 l0 x12_1).f2), .int .i64 ((rd_T62 l0 x12_1).f3), .int .u32 x103004_1, .int .u32 x103005_1, .int .i64 x103006_1]) ?_ 4 _ rfl; (with_reducible repeat (first | refine blk_drewN ?_ _ | refine blk_drew ?_ | refine blk_alloc ?_ _)); refine blk_put (cs := #[.int .i64 ((rd_T62 l0 x12_1).f0), .int .i64 ((rd_T62 l0 x12_1).f1), .int .i64 ((rd_T62 l0 x12_1).f2), .int .i64 x103003_1, .int .u32 x103004_1, .int .u32 x103005_1, .int .i64 x103006_1]) ?_ 3 _ rfl; (with_reducible repeat (first | refine blk_drewN ?_ _ | refine blk_drew ?_ | refine blk_alloc ?_ _)); refine blk_put (cs := #[.int .i64 ((rd_T62 l0 x12_1).f0), .int .i64 ((rd_T62 l0 x12_1).f1), .int .i64 x103002_1, .int .i64 x103003_1, .int .u32 x103004_1, .int .u32 x103005_1, .int .i64 x103006_1]) ?_ 2 _ rfl; (with_reducible repeat (first | refine blk_drewN ?_ _ | refine blk_drew ?_ | refine blk_alloc ?_ _)); refine blk_put (cs := #[.int .i64 ((rd_T62 l0 x12_1).f0), .int .i64 x103001_1, .int .i64 x103002_1, .int .i64 x103003_1, .int .u32 x103004_1, .int .u32 x103005_1, .int .i64 x103006_1]) ?_ 1 _ rfl; (with_reducible repeat (first | refine blk_drewN ?_ _ | refine blk_drew ?_ | refine blk_alloc ?_ _)); refine blk_put (cs := #[.int .i64 x103000_1, .int .i64 x103001_1, .int .i64 x103002_1, .int .i64 x103003_1, .int .u32 x103004_1, .int .u32 x103005_1, .int .i64 x103006_1]) ?_ 0 _ rfl; (with_reducible repeat (first | refine blk_drewN ?_ _ | refine blk_drew ?_ | refine blk_alloc ?_ _)); exact BK102.out⟩, ⟨by repeat (first | (with_reducible first | exact HB.out | apply below_alloc | apply pw_below_drewN | apply below_drew1 | refine below_set ?_ GE101.out | refine below_set ?_ GE102.out | refine below_set ?_ GE104.out) | exact HB.out)⟩⟩
        · rw [if_neg c10] at H
          exact absurd H (by simp)
      · rw [if_neg c9] at H
        have c9b0 : decide (x12_1 < (l0.length : Int)) = false := decide_eq_false c9
        clear c9
        simp only [Option.some.injEq, Prod.mk.injEq] at H
        obtain ⟨rfl, rfl, rfl, rfl, rfl, rfl, rfl, rfl⟩ := H
        have hnb69 := NB102_101.out
        have hnc69 := NB101_102.out
        have hcz70_0 : wr.cell? ⟨gb102, 0, none⟩ = some (.int .i64 x103000_1) := (blk_cell BK102.out 0).trans rfl
        have hcz70_1 : wr.cell? ⟨gb102, 1, none⟩ = some (.int .i64 x103001_1) := (blk_cell BK102.out 1).trans rfl
        have hcz70_2 : wr.cell? ⟨gb102, 2, none⟩ = some (.int .i64 x103002_1) := (blk_cell BK102.out 2).trans rfl
        have hcz70_3 : wr.cell? ⟨gb102, 3, none⟩ = some (.int .i64 x103003_1) := (blk_cell BK102.out 3).trans rfl
        have hcz70_4 : wr.cell? ⟨gb102, 4, none⟩ = some (.int .u32 x103004_1) := (blk_cell BK102.out 4).trans rfl
        have hcz70_5 : wr.cell? ⟨gb102, 5, none⟩ = some (.int .u32 x103005_1) := (blk_cell BK102.out 5).trans rfl
        have hcz70_6 : wr.cell? ⟨gb102, 6, none⟩ = some (.int .i64 x103006_1) := (blk_cell BK102.out 6).trans rfl
        have hfz70_0 := blk_frozen BK102.out 0
        have hfz70_1 := blk_frozen BK102.out 1
        have hfz70_2 := blk_frozen BK102.out 2
        have hfz70_3 := blk_frozen BK102.out 3
        have hfz70_4 := blk_frozen BK102.out 4
        have hfz70_5 := blk_frozen BK102.out 5
        have hfz70_6 := blk_frozen BK102.out 6
        have hcz71_0 : wr.cell? ⟨gb101, 0, none⟩ = some (.int .i64 0) := (blk_cell BK101.out 0).trans rfl
        have hcz71_1 : wr.cell? ⟨gb101, 1, none⟩ = some (.int .i64 0) := (blk_cell BK101.out 1).trans rfl
        have hcz71_2 : wr.cell? ⟨gb101, 2, none⟩ = some (.int .i64 0) := (blk_cell BK101.out 2).trans rfl
        have hcz71_3 : wr.cell? ⟨gb101, 3, none⟩ = some (.int .i64 0) := (blk_cell BK101.out 3).trans rfl
        have hcz71_4 : wr.cell? ⟨gb101, 4, none⟩ = some (.int .u32 0) := (blk_cell BK101.out 4).trans rfl
        have hcz71_5 : wr.cell? ⟨gb101, 5, none⟩ = some (.int .u32 0) := (blk_cell BK101.out 5).trans rfl
        have hcz71_6 : wr.cell? ⟨gb101, 6, none⟩ = some (.int .i64 0) := (blk_cell BK101.out 6).trans rfl
        have hfz71_0 := blk_frozen BK101.out 0
        have hfz71_1 := blk_frozen BK101.out 1
        have hfz71_2 := blk_frozen BK101.out 2
        have hfz71_3 := blk_frozen BK101.out 3
        have hfz71_4 := blk_frozen BK101.out 4
        have hfz71_5 := blk_frozen BK101.out 5
        have hfz71_6 := blk_frozen BK101.out 6
        go_wp2
        refine bodyPost_ret (results_ct rfl _ _ gb101 62 #[.int .i64 x103000_1, .int .i64 x103001_1, .int .i64 x103002_1, .int .i64 x103003_1, .int .u32 x103004_1, .int .u32 x103005_1, .int .i64 x103006_1] (0, 0) _ rfl (by (with_reducible repeat (first | refine blk_drewN ?_ _ | refine blk_drew ?_ | refine blk_alloc ?_ _)); refine blk_put (cs := #[.int .i64 x103000_1, .int .i64 x103001_1, .int .i64 x103002_1, .int .i64 x103003_1, .int .u32 x103004_1, .int .u32 x103005_1, .int .i64 0]) ?_ 6 _ rfl; (with_reducible repeat (first | refine blk_drewN ?_ _ | refine blk_drew ?_ | refine blk_alloc ?_ _)); refine blk_put (cs := #[.int .i64 x103000_1, .int .i64 x103001_1, .int .i64 x103002_1, .int .i64 x103003_1, .int .u32 x103004_1, .int .u32 0, .int .i64 0]) ?_ 5 _ rfl; (with_reducible repeat (first | refine blk_drewN ?_ _ | refine blk_drew ?_ | refine blk_alloc ?_ _)); refine blk_put (cs := #[.int .i64 x103000_1, .int .i64 x103001_1, .int .i64 x103002_1, .int .i64 x103003_1, .int .u32 0, .int .u32 0, .int .i64 0]) ?_ 4 _ rfl; (with_reducible repeat (first | refine blk_drewN ?_ _ | refine blk_drew ?_ | refine blk_alloc ?_ _)); refine blk_put (cs := #[.int .i64 x103000_1, .int .i64 x103001_1, .int .i64 x103002_1, .int .i64 0, .int .u32 0, .int .u32 0, .int .i64 0]) ?_ 3 _ rfl; (with_reducible repeat (first | refine blk_drewN ?_ _ | refine blk_drew ?_ | refine blk_alloc ?_ _)); refine blk_put (cs := #[.int .i64 x103000_1, .int .i64 x103001_1, .int .i64 0, .int .i64 0, .int .u32 0, .int .u32 0, .int .i64 0]) ?_ 2 _ rfl; (with_reducible repeat (first | refine blk_drewN ?_ _ | refine blk_drew ?_ | refine blk_alloc ?_ _)); refine blk_put (cs := #[.int .i64 x103000_1, .int .i64 0, .int .i64 0, .int .i64 0, .int .u32 0, .int .u32 0, .int .i64 0]) ?_ 1 _ rfl; (with_reducible repeat (first | refine blk_drewN ?_ _ | refine blk_drew ?_ | refine blk_alloc ?_ _)); refine blk_put (cs := #[.int .i64 0, .int .i64 0, .int .i64 0, .int .i64 0, .int .u32 0, .int .u32 0, .int .i64 0]) ?_ 0 _ rfl; (with_reducible repeat (first | refine blk_drewN ?_ _ | refine blk_drew ?_ | refine blk_alloc ?_ _)); exact BK101.out) Try.underlying62 rfl (by kernel_rfl)) rfl ?_
        exact ⟨by first | rfl | (simp [errW_none, errW_some] <;> rfl) | (simp [*, errW_none, errW_some] <;> rfl), by repeat (first | (with_reducible first | exact HB.out | apply below_alloc | apply pw_below_drewN | apply below_drew1 | refine below_set ?_ GE101.out | refine below_set ?_ GE102.out) | exact HB.out)⟩
end Go.Proofs.Ytkjighagiecbaaa.R
