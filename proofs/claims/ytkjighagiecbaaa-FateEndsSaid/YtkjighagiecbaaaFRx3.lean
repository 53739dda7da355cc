/- Rx3. -/
import Derived.Test.YtkjighagiecbaaaFFatR
import Derived.Test.YtkjighagiecbaaaFRx1
import Derived.Test.YtkjighagiecbaaaFTopo5
import Derived.Test.YtkjighagiecbaaaFTopo4b
import Derived.Test.YtkjighagiecbaaaFFatN
namespace Go.Proofs.Ytkjighagiecbaaa.R
open Go.Proofs.Ytkjighagiecbaaa.P
open Go.RowKit Go.Proofs.YtkjighagiecbaaaW.PrintWords Go.Proofs.YtkjighagiecbaaaW.PrintLast Go.Proofs.YtkjighagiecbaaaW.PrintMore
set_option linter.unusedVariables false
set_option linter.unusedSimpArgs false
attribute [local go_sem high] eqA33
def waystoneref08_Next.l0 : Nat → Int → List Int → List (S66) → Int → Int → Option (Int × Int × Bool)
  | 0, _, _, _, _, _ => none
  | k + 1, x6, x124000, x124001, x125000, x125001 => if x6 < (x124001.length : Int) then (if 0 ≤ x6 then (if (((rd_T66 x124001 x6).f0.f0) == x125000 && (((rd_T66 x124001 x6).f0.f1) == x125001)) = true then (some ((rd_T66 x124001 x6).f1.f0, (rd_T66 x124001 x6).f1.f1, true)) else (if (((rd_T66 x124001 x6).f1.f0) == x125000 && (((rd_T66 x124001 x6).f1.f1) == x125001)) = true then (some ((rd_T66 x124001 x6).f0.f0, (rd_T66 x124001 x6).f0.f1, true)) else (waystoneref08_Next.l0 k (wrap64 (x6 + 1)) x124000 x124001 x125000 x125001))) else (none)) else (some (0, 0, false))
def waystoneref08_Next.f (k : Nat) (l0_0 : List Int) (l0_1 : List (S66)) (a1_0 : Int) (a1_1 : Int) : Option (Int × Int × Bool) := waystoneref08_Next.l0 k 0 l0_0 l0_1 a1_0 a1_1
set_option maxHeartbeats 8000000 in
set_option maxRecDepth 100000 in
theorem waystoneref08_Next.calls (k : Nat) (A0_0 : Option Addr) (c0_0 : Nat) (l0_0 : List Int) (A0_1 : Option Addr) (c0_1 : Nat) (l0_1 : List (S66)) (a1_0 : Int) (a1_1 : Int) (r1 : Int) (r2 : Int) (r3 : Bool) (w : World) (hr0_0 : Kd.C (Kd.int .i64) w A0_0 l0_0.length l0_0) (hc0_0 : l0_0.length ≤ c0_0) (hr0_1 : Kd.C k66 w A0_1 l0_1.length l0_1) (hc0_1 : l0_1.length ≤ c0_1) (h : waystoneref08_Next.f k l0_0 l0_1 a1_0 a1_1 = some (r1, r2, r3)) :
    Calls Try.prog 11 #[.agg #[.slice A0_0 l0_0.length c0_0, .slice A0_1 l0_1.length c0_1], .agg #[.int .i64 a1_0, .int .i64 a1_1]] w fun e w' => e = .returned (.tuple #[.agg #[.int .i64 r1, .int .i64 r2], .bool r3]) ∧ Below w.heap.size w w' := by
  have hu25 := Try.underlying25
  have hu33 := Try.underlying33
  have HR0_0 := Aside0.mk hr0_0
  have HC0_0 := Aside0.mk hc0_0
  clear hr0_0 hc0_0
  have HR0_1 := Aside0.mk hr0_1
  have HC0_1 := Aside0.mk hc0_1
  clear hr0_1 hc0_1
  have HB := Aside0.mk (Below.refl w.heap.size w)
  have H : (waystoneref08_Next.l0 k 0 l0_0 l0_1 a1_0 a1_1) = some (r1, r2, r3) := h
  clear h
  have H' := Aside0.mk H
  clear H
  go_enter Try.func11, Try.ntmps11
  go_wp2_with (first | ((with_reducible refine gate_dst (N := 2) rfl ?_); refine box_event ?hg (N := 2) ?hd (cs := #[.slice A0_0 l0_0.length c0_0, .slice A0_1 l0_1.length c0_1]) (t := 25) ?hr ?_; (case hd => rfl); (case hg => rfl); (case hr => first | (go_simp; done) | (go_simp; rfl)); intro gb123 hg w3 hbox hb; have n0_ := Aside0.mk (below_step (by repeat (first | (with_reducible first | exact HB.out | apply below_alloc | apply pw_below_drewN | apply below_drew1) | exact HB.out)) hb); have n1_ := Aside0.mk (hbox); have n2_ := Aside0.mk ((by rw [hg]; exact (below_size (by repeat (first | (with_reducible first | exact HB.out | apply below_alloc | apply pw_below_drewN | apply below_drew1) | exact HB.out))) : w.heap.size ≤ gb123)); have n3_ := Aside0.mk ((by rw [hg]; exact (below_size (by repeat (first | (with_reducible first | exact HB.out | apply below_alloc | apply pw_below_drewN | apply below_drew1) | exact HB.out))) : w.heap.size ≤ gb123)); clear HB; have HB := n0_; have BK123 := n1_; have GW123 := n2_; have GE123 := n3_; clear n0_ n1_ n2_ n3_; clear hb hbox hg) | ((with_reducible refine gate_dst (N := 3) rfl ?_); refine box_event ?hg (N := 3) ?hd (cs := #[.int .i64 a1_0, .int .i64 a1_1]) (t := 33) ?hr ?_; (case hd => rfl); (case hg => rfl); (case hr => first | (go_simp; done) | (go_simp; rfl)); intro gb124 hg w4 hbox hb; have n0_ := Aside0.mk (blk_below (g := gb123) (o := .cells #[.slice A0_0 l0_0.length c0_0, .slice A0_1 l0_1.length c0_1] 25 (0, 0)) (by (with_reducible repeat (first | refine blk_drewN ?_ _ | refine blk_drew ?_ | refine blk_alloc ?_ _)); exact BK123.out) hb); have n1_ := Aside0.mk (below_step (by repeat (first | (with_reducible first | exact HB.out | apply below_alloc | apply pw_below_drewN | apply below_drew1 | refine below_set ?_ GE123.out) | exact HB.out)) hb); have n2_ := Aside0.mk (hbox); have n3_ := Aside0.mk ((by rw [hg]; exact (below_size (by repeat (first | (with_reducible first | exact HB.out | apply below_alloc | apply pw_below_drewN | apply below_drew1 | refine below_set ?_ GE123.out) | exact HB.out))) : w.heap.size ≤ gb124)); have n4_ := Aside0.mk ((by rw [hg]; exact (below_size (by repeat (first | (with_reducible first | exact HB.out | apply below_alloc | apply pw_below_drewN | apply below_drew1 | refine below_set ?_ GE123.out) | exact HB.out))) : w.heap.size ≤ gb124)); have n5_ := Aside0.mk ((by rw [hg]; exact Nat.ne_of_lt (blk_lt (g := gb123) (o := .cells #[.slice A0_0 l0_0.length c0_0, .slice A0_1 l0_1.length c0_1] 25 (0, 0)) (by (with_reducible repeat (first | refine blk_drewN ?_ _ | refine blk_drew ?_ | refine blk_alloc ?_ _)); exact BK123.out)) : gb123 ≠ gb124)); have n6_ := Aside0.mk ((by rw [hg]; exact Nat.ne_of_gt (blk_lt (g := gb123) (o := .cells #[.slice A0_0 l0_0.length c0_0, .slice A0_1 l0_1.length c0_1] 25 (0, 0)) (by (with_reducible repeat (first | refine blk_drewN ?_ _ | refine blk_drew ?_ | refine blk_alloc ?_ _)); exact BK123.out)) : gb124 ≠ gb123)); clear BK123; clear HB; have BK123 := n0_; have HB := n1_; have BK124 := n2_; have GW124 := n3_; have GE124 := n4_; have NB123_124 := n5_; have NB124_123 := n6_; clear n0_ n1_ n2_ n3_ n4_ n5_ n6_; clear hb hbox hg) | ((with_reducible refine gate_dst (N := 4) rfl ?_); refine box_event ?hg (N := 4) ?hd (cs := #[.int .i64 0, .int .i64 0]) (t := 33) ?hr ?_; (case hd => rfl); (case hg => rfl); (case hr => first | (go_simp; done) | (go_simp; rfl)); intro gb125 hg w5 hbox hb; have n0_ := Aside0.mk (blk_below (g := gb123) (o := .cells #[.slice A0_0 l0_0.length c0_0, .slice A0_1 l0_1.length c0_1] 25 (0, 0)) (by (with_reducible repeat (first | refine blk_drewN ?_ _ | refine blk_drew ?_ | refine blk_alloc ?_ _)); exact BK123.out) hb); have n1_ := Aside0.mk (blk_below (g := gb124) (o := .cells #[.int .i64 a1_0, .int .i64 a1_1] 33 (0, 0)) (by (with_reducible repeat (first | refine blk_drewN ?_ _ | refine blk_drew ?_ | refine blk_alloc ?_ _)); exact BK124.out) hb); have n2_ := Aside0.mk (below_step (by repeat (first | (with_reducible first | exact HB.out | apply below_alloc | apply pw_below_drewN | apply below_drew1 | refine below_set ?_ GE123.out | refine below_set ?_ GE124.out) | exact HB.out)) hb); have n3_ := Aside0.mk (hbox); have n4_ := Aside0.mk ((by rw [hg]; exact (below_size (by repeat (first | (with_reducible first | exact HB.out | apply below_alloc | apply pw_below_drewN | apply below_drew1 | refine below_set ?_ GE123.out | refine below_set ?_ GE124.out) | exact HB.out))) : w.heap.size ≤ gb125)); have n5_ := Aside0.mk ((by rw [hg]; exact (below_size (by repeat (first | (with_reducible first | exact HB.out | apply below_alloc | apply pw_below_drewN | apply below_drew1 | refine below_set ?_ GE123.out | refine below_set ?_ GE124.out) | exact HB.out))) : w.heap.size ≤ gb125)); have n6_ := Aside0.mk ((by rw [hg]; exact Nat.ne_of_lt (blk_lt (g := gb123) (o := .cells #[.slice A0_0 l0_0.length c0_0, .slice A0_1 l0_1.length c0_1] 25 (0, 0)) (by (with_reducible repeat (first | refine blk_drewN ?_ _ | refine blk_drew ?_ | refine blk_alloc ?_ _)); exact BK123.out)) : gb123 ≠ gb125)); have n7_ := Aside0.mk ((by rw [hg]; exact Nat.ne_of_gt (blk_lt (g := gb123) (o := .cells #[.slice A0_0 l0_0.length c0_0, .slice A0_1 l0_1.length c0_1] 25 (0, 0)) (by (with_reducible repeat (first | refine blk_drewN ?_ _ | refine blk_drew ?_ | refine blk_alloc ?_ _)); exact BK123.out)) : gb125 ≠ gb123)); have n8_ := Aside0.mk ((by rw [hg]; exact Nat.ne_of_lt (blk_lt (g := gb124) (o := .cells #[.int .i64 a1_0, .int .i64 a1_1] 33 (0, 0)) (by (with_reducible repeat (first | refine blk_drewN ?_ _ | refine blk_drew ?_ | refine blk_alloc ?_ _)); exact BK124.out)) : gb124 ≠ gb125)); have n9_ := Aside0.mk ((by rw [hg]; exact Nat.ne_of_gt (blk_lt (g := gb124) (o := .cells #[.int .i64 a1_0, .int .i64 a1_1] 33 (0, 0)) (by (with_reducible repeat (first | refine blk_drewN ?_ _ | refine blk_drew ?_ | refine blk_alloc ?_ _)); exact BK124.out)) : gb125 ≠ gb124)); clear BK123; clear BK124; clear HB; have BK123 := n0_; have BK124 := n1_; have HB := n2_; have BK125 := n3_; have GW125 := n4_; have GE125 := n5_; have NB123_125 := n6_; have NB125_123 := n7_; have NB124_125 := n8_; have NB125_124 := n9_; clear n0_ n1_ n2_ n3_ n4_ n5_ n6_ n7_ n8_ n9_; clear hb hbox hg))
  repeat (go_quiet (first | ((with_reducible refine gate_dst (N := 2) rfl ?_); refine box_event ?hg (N := 2) ?hd (cs := #[.slice A0_0 l0_0.length c0_0, .slice A0_1 l0_1.length c0_1]) (t := 25) ?hr ?_; (case hd => rfl); (case hg => rfl); (case hr => first | (go_simp; done) | (go_simp; rfl)); intro gb123 hg w3 hbox hb; have n0_ := Aside0.mk (below_step (by repeat (first | (with_reducible first | exact HB.out | apply below_alloc | apply pw_below_drewN | apply below_drew1) | exact HB.out)) hb); have n1_ := Aside0.mk (hbox); have n2_ := Aside0.mk ((by rw [hg]; exact (below_size (by repeat (first | (with_reducible first | exact HB.out | apply below_alloc | apply pw_below_drewN | apply below_drew1) | exact HB.out))) : w.heap.size ≤ gb123)); have n3_ := Aside0.mk ((by rw [hg]; exact (below_size (by repeat (first | (with_reducible first | exact HB.out | apply below_alloc | apply pw_below_drewN | apply below_drew1) | exact HB.out))) : w.heap.size ≤ gb123)); clear HB; have HB := n0_; have BK123 := n1_; have GW123 := n2_; have GE123 := n3_; clear n0_ n1_ n2_ n3_; clear hb hbox hg) | ((with_reducible refine gate_dst (N := 3) rfl ?_); refine box_event ?hg (N := 3) ?hd (cs := #[.int .i64 a1_0, .int .i64 a1_1]) (t := 33) ?hr ?_; (case hd => rfl); (case hg => rfl); (case hr => first | (go_simp; done) | (go_simp; rfl)); intro gb124 hg w4 hbox hb; have n0_ := Aside0.mk (blk_below (g := gb123) (o := .cells #[.slice A0_0 l0_0.length c0_0, .slice A0_1 l0_1.length c0_1] 25 (0, 0)) (by (with_reducible repeat (first | refine blk_drewN ?_ _ | refine blk_drew ?_ | refine blk_alloc ?_ _)); exact BK123.out) hb); have n1_ := Aside0.mk (below_step (by repeat (first | (with_reducible first | exact HB.out | apply below_alloc | apply pw_below_drewN | apply below_drew1 | refine below_set ?_ GE123.out) | exact HB.out)) hb); have n2_ := Aside0.mk (hbox); have n3_ := Aside0.mk ((by rw [hg]; exact (below_size (by repeat (first | (with_reducible first | exact HB.out | apply below_alloc | apply pw_below_drewN | apply below_drew1 | refine below_set ?_ GE123.out) | exact HB.out))) : w.heap.size ≤ gb124)); have n4_ := Aside0.mk ((by rw [hg]; exact (below_size (by repeat (first | (with_reducible first | exact HB.out | apply below_alloc | apply pw_below_drewN | apply below_drew1 | refine below_set ?_ GE123.out) | exact HB.out))) : w.heap.size ≤ gb124)); have n5_ := Aside0.mk ((by rw [hg]; exact Nat.ne_of_lt (blk_lt (g := gb123) (o := .cells #[.slice A0_0 l0_0.length c0_0, .slice A0_1 l0_1.length c0_1] 25 (0, 0)) (by (with_reducible repeat (first | refine blk_drewN ?_ _ | refine blk_drew ?_ | refine blk_alloc ?_ _)); exact BK123.out)) : gb123 ≠ gb124)); have n6_ := Aside0.mk ((by rw [hg]; exact Nat.ne_of_gt (blk_lt (g := gb123) (o := .cells #[.slice A0_0 l0_0.length c0_0, .slice A0_1 l0_1.length c0_1] 25 (0, 0)) (by (with_reducible repeat (first | refine blk_drewN ?_ _ | refine blk_drew ?_ | refine blk_alloc ?_ _)); exact BK123.out)) : gb124 ≠ gb123)); clear BK123; clear HB; have BK123 := n0_; have HB := n1_; have BK124 := n2_; have GW124 := n3_; have GE124 := n4_; have NB123_124 := n5_; have NB124_123 := n6_; clear n0_ n1_ n2_ n3_ n4_ n5_ n6_; clear hb hbox hg) | ((with_reducible refine gate_dst (N := 4) rfl ?_); refine box_event ?hg (N := 4) ?hd (cs := #[.int .i64 0, .int .i64 0]) (t := 33) ?hr ?_; (case hd => rfl); (case hg => rfl); (case hr => first | (go_simp; done) | (go_simp; rfl)); intro gb125 hg w5 hbox hb; have n0_ := Aside0.mk (blk_below (g := gb123) (o := .cells #[.slice A0_0 l0_0.length c0_0, .slice A0_1 l0_1.length c0_1] 25 (0, 0)) (by (with_reducible repeat (first | refine blk_drewN ?_ _ | refine blk_drew ?_ | refine blk_alloc ?_ _)); exact BK123.out) hb); have n1_ := Aside0.mk (blk_below (g := gb124) (o := .cells #[.int .i64 a1_0, .int .i64 a1_1] 33 (0, 0)) (by (with_reducible repeat (first | refine blk_drewN ?_ _ | refine blk_drew ?_ | refine blk_alloc ?_ _)); exact BK124.out) hb); have n2_ := Aside0.mk (below_step (by repeat (first | (with_reducible first | exact HB.out | apply below_alloc | apply pw_below_drewN | apply below_drew1 | refine below_set ?_ GE123.out | refine below_set ?_ GE124.out) | exact HB.out)) hb); have n3_ := Aside0.mk (hbox); have n4_ := Aside0.mk ((by rw [hg]; exact (below_size (by repeat (first | (with_reducible first | exact HB.out | apply below_alloc | apply pw_below_drewN | apply below_drew1 | refine below_set ?_ GE123.out | refine below_set ?_ GE124.out) | exact HB.out))) : w.heap.size ≤ gb125)); have n5_ := Aside0.mk ((by rw [hg]; exact (below_size (by repeat (first | (with_reducible first | exact HB.out | apply below_alloc | apply pw_below_drewN | apply below_drew1 | refine below_set ?_ GE123.out | refine below_set ?_ GE124.out) | exact HB.out))) : w.heap.size ≤ gb125)); have n6_ := Aside0.mk ((by rw [hg]; exact Nat.ne_of_lt (blk_lt (g := gb123) (o := .cells #[.slice A0_0 l0_0.length c0_0, .slice A0_1 l0_1.length c0_1] 25 (0, 0)) (by (with_reducible repeat (first | refine blk_drewN ?_ _ | refine blk_drew ?_ | refine blk_alloc ?_ _)); exact BK123.out)) : gb123 ≠ gb125)); have n7_ := Aside0.mk ((by rw [hg]; exact Nat.ne_of_gt (blk_lt (g := gb123) (o := .cells #[.slice A0_0 l0_0.length c0_0, .slice A0_1 l0_1.length c0_1] 25 (0, 0)) (by (with_reducible repeat (first | refine blk_drewN ?_ _ | refine blk_drew ?_ | refine blk_alloc ?_ _)); exact BK123.out)) : gb125 ≠ gb123)); have n8_ := Aside0.mk ((by rw [hg]; exact Nat.ne_of_lt (blk_lt (g := gb124) (o := .cells #[.int .i64 a1_0, .int .i64 a1_1] 33 (0, 0)) (by (with_reducible repeat (first | refine blk_drewN ?_ _ | refine blk_drew ?_ | refine blk_alloc ?_ _)); exact BK124.out)) : gb124 ≠ gb125)); have n9_ := Aside0.mk ((by rw [hg]; exact Nat.ne_of_gt (blk_lt (g := gb124) (o := .cells #[.int .i64 a1_0, .int .i64 a1_1] 33 (0, 0)) (by (with_reducible repeat (first | refine blk_drewN ?_ _ | refine blk_drew ?_ | refine blk_alloc ?_ _)); exact BK124.out)) : gb125 ≠ gb124)); clear BK123; clear BK124; clear HB; have BK123 := n0_; have BK124 := n1_; have HB := n2_; have BK125 := n3_; have GW125 := n4_; have GE125 := n5_; have NB123_125 := n6_; have NB125_123 := n7_; have NB124_125 := n8_; have NB125_124 := n9_; clear n0_ n1_ n2_ n3_ n4_ n5_ n6_ n7_ n8_ n9_; clear hb hbox hg)); try go_wp2_with (first | ((with_reducible refine gate_dst (N := 2) rfl ?_); refine box_event ?hg (N := 2) ?hd (cs := #[.slice A0_0 l0_0.length c0_0, .slice A0_1 l0_1.length c0_1]) (t := 25) ?hr ?_; (case hd => rfl); (case hg => rfl); (case hr => first | (go_simp; done) | (go_simp; rfl)); intro gb123 hg w3 hbox hb; have n0_ := Aside0.mk (below_step (by repeat (first | (with_reducible first | exact HB.out | apply below_alloc | apply pw_below_drewN | apply below_drew1) | exact HB.out)) hb); have n1_ := Aside0.mk (hbox); have n2_ := Aside0.mk ((by rw [hg]; exact (below_size (by repeat (first | (with_reducible first | exact HB.out | apply below_alloc | apply pw_below_drewN | apply below_drew1) | exact HB.out))) : w.heap.size ≤ gb123)); have n3_ := Aside0.mk ((by rw [hg]; exact (below_size (by repeat (first | (with_reducible first | exact HB.out | apply below_alloc | apply pw_below_drewN | apply below_drew1) | exact HB.out))) : w.heap.size ≤ gb123)); clear HB; have HB := n0_; have BK123 := n1_; have GW123 := n2_; have GE123 := n3_; clear n0_ n1_ n2_ n3_; clear hb hbox hg) | ((with_reducible refine gate_dst (N := 3) rfl ?_); refine box_event ?hg (N := 3) ?hd (cs := #[.int .i64 a1_0, .int .i64 a1_1]) (t := 33) ?hr ?_; (case hd => rfl); (case hg => rfl); (case hr => first | (go_simp; done) | (go_simp; rfl)); intro gb124 hg w4 hbox hb; have n0_ := Aside0.mk (blk_below (g := gb123) (o := .cells #[.slice A0_0 l0_0.length c0_0, .slice A0_1 l0_1.length c0_1] 25 (0, 0)) (by (with_reducible repeat (first | refine blk_drewN ?_ _ | refine blk_drew ?_ | refine blk_alloc ?_ _)); exact BK123.out) hb); have n1_ := Aside0.mk (below_step (by repeat (first | (with_reducible first | exact HB.out | apply below_alloc | apply pw_below_drewN | apply below_drew1 | refine below_set ?_ GE123.out) | exact HB.out)) hb); have n2_ := Aside0.mk (hbox); have n3_ := Aside0.mk ((by rw [hg]; exact (below_size (by repeat (first | (with_reducible first | exact HB.out | apply below_alloc | apply pw_below_drewN | apply below_drew1 | refine below_set ?_ GE123.out) | exact HB.out))) : w.heap.size ≤ gb124)); have n4_ := Aside0.mk ((by rw [hg]; exact (below_size (by repeat (first | (with_reducible first | exact HB.out | apply below_alloc | apply pw_below_drewN | apply below_drew1 | refine below_set ?_ GE123.out) | exact HB.out))) : w.heap.size ≤ gb124)); have n5_ := Aside0.mk ((by rw [hg]; exact Nat.ne_of_lt (blk_lt (g := gb123) (o := .cells #[.slice A0_0 l0_0.length c0_0, .slice A0_1 l0_1.length c0_1] 25 (0, 0)) (by (with_reducible repeat (first | refine blk_drewN ?_ _ | refine blk_drew ?_ | refine blk_alloc ?_ _)); exact BK123.out)) : gb123 ≠ gb124)); have n6_ := Aside0.mk ((by rw [hg]; exact Nat.ne_of_gt (blk_lt (g := gb123) (o := .cells #[.slice A0_0 l0_0.length c0_0, .slice A0_1 l0_1.length c0_1] 25 (0, 0)) (by (with_reducible repeat (first | refine blk_drewN ?_ _ | refine blk_drew ?_ | refine blk_alloc ?_ _)); exact BK123.out)) : gb124 ≠ gb123)); clear BK123; clear HB; have BK123 := n0_; have HB := n1_; have BK124 := n2_; have GW124 := n3_; have GE124 := n4_; have NB123_124 := n5_; have NB124_123 := n6_; clear n0_ n1_ n2_ n3_ n4_ n5_ n6_; clear hb hbox hg) | ((with_reducible refine gate_dst (N := 4) rfl ?_); refine box_event ?hg (N := 4) ?hd (cs := #[.int .i64 0, .int .i64 0]) (t := 33) ?hr ?_; (case hd => rfl); (case hg => rfl); (case hr => first | (go_simp; done) | (go_simp; rfl)); intro gb125 hg w5 hbox hb; have n0_ := Aside0.mk (blk_below (g := gb123) (o := .cells #[.slice A0_0 l0_0.length c0_0, .slice A0_1 l0_1.length c0_1] 25 (0, 0)) (by (with_reducible repeat (first | refine blk_drewN ?_ _ | refine blk_drew ?_ | refine blk_alloc ?_ _)); exact BK123.out) hb); have n1_ := Aside0.mk (blk_below (g := gb124) (o := .cells #[.int .i64 a1_0, .int .i64 a1_1] 33 (0, 0)) (by (with_reducible repeat (first | refine blk_drewN ?_ _ | refine blk_drew ?_ | refine blk_alloc ?_ _)); exact BK124.out) hb); have n2_ := Aside0.mk (below_step (by repeat (first | (with_reducible first | exact HB.out | apply below_alloc | apply pw_below_drewN | apply below_drew1 | refine below_set ?_ GE123.out | refine below_set ?_ GE124.out) | exact HB.out)) hb); have n3_ := Aside0.mk (hbox); have n4_ := Aside0.mk ((by rw [hg]; exact (below_size (by repeat (first | (with_reducible first | exact HB.out | apply below_alloc | apply pw_below_drewN | apply below_drew1 | refine below_set ?_ GE123.out | refine below_set ?_ GE124.out) | exact HB.out))) : w.heap.size ≤ gb125)); have n5_ := Aside0.mk ((by rw [hg]; exact (below_size (by repeat (first | (with_reducible first | exact HB.out | apply below_alloc | apply pw_below_drewN | apply below_drew1 | refine below_set ?_ GE123.out | refine below_set ?_ GE124.out) | exact HB.out))) : w.heap.size ≤ gb125)); have n6_ := Aside0.mk ((by rw [hg]; exact Nat.ne_of_lt (blk_lt (g := gb123) (o := .cells #[.slice A0_0 l0_0.length c0_0, .slice A0_1 l0_1.length c0_1] 25 (0, 0)) (by (with_reducible repeat (first | refine blk_drewN ?_ _ | refine blk_drew ?_ | refine blk_alloc ?_ _)); exact BK123.out)) : gb123 ≠ gb125)); have n7_ := Aside0.mk ((by rw [hg]; exact Nat.ne_of_gt (blk_lt (g := gb123) (o := .cells #[.slice A0_0 l0_0.length c0_0, .slice A0_1 l0_1.length c0_1] 25 (0, 0)) (by (with_reducible repeat (first | refine blk_drewN ?_ _ | refine blk_drew ?_ | refine blk_alloc ?_ _)); exact BK123.out)) : gb125 ≠ gb123)); have n8_ := Aside0.mk ((by rw [hg]; exact Nat.ne_of_lt (blk_lt (g := gb124) (o := .cells #[.int .i64 a1_0, .int .i64 a1_1] 33 (0, 0)) (by (with_reducible repeat (first | refine blk_drewN ?_ _ | refine blk_drew ?_ | refine blk_alloc ?_ _)); exact BK124.out)) : gb124 ≠ gb125)); have n9_ := Aside0.mk ((by rw [hg]; exact Nat.ne_of_gt (blk_lt (g := gb124) (o := .cells #[.int .i64 a1_0, .int .i64 a1_1] 33 (0, 0)) (by (with_reducible repeat (first | refine blk_drewN ?_ _ | refine blk_drew ?_ | refine blk_alloc ?_ _)); exact BK124.out)) : gb125 ≠ gb124)); clear BK123; clear BK124; clear HB; have BK123 := n0_; have BK124 := n1_; have HB := n2_; have BK125 := n3_; have GW125 := n4_; have GE125 := n5_; have NB123_125 := n6_; have NB125_123 := n7_; have NB124_125 := n8_; have NB125_124 := n9_; clear n0_ n1_ n2_ n3_ n4_ n5_ n6_ n7_ n8_ n9_; clear hb hbox hg)))
  go_loopg [6] k (fun kq v6 w' => ∃ (x6_1 : Int) (x126000_1 : Int) (x126001_1 : Int), v6 = .int .i64 x6_1 ∧ Aside0 (waystoneref08_Next.l0 kq x6_1 l0_0 l0_1 a1_0 a1_1 = some (r1, r2, r3)) ∧ Aside0 (kq ≤ k) ∧ Aside0 (w'.heap[gb123]? = some (.cells #[(.slice A0_0 l0_0.length c0_0), (.slice A0_1 l0_1.length c0_1)] 25 (0, 0))) ∧ Aside0 (w'.heap[gb124]? = some (.cells #[.int .i64 a1_0, .int .i64 a1_1] 33 (0, 0))) ∧ Aside0 (w'.heap[gb125]? = some (.cells #[.int .i64 x126000_1, .int .i64 x126001_1] 33 (0, 0))) ∧ Aside0 (Below w.heap.size w w'))
  case atStart => exact ⟨(0), (0), (0), (by first | rfl | (simp; done) | (simp [*]; done)), H', ⟨Nat.le_refl _⟩, ⟨by (with_reducible repeat (first | refine blk_drewN ?_ _ | refine blk_drew ?_ | refine blk_alloc ?_ _)); exact BK123.out⟩, ⟨by (with_reducible repeat (first | refine blk_drewN ?_ _ | refine blk_drew ?_ | refine blk_alloc ?_ _)); exact BK124.out⟩, ⟨by (with_reducible repeat (first | refine blk_drewN ?_ _ | refine blk_drew ?_ | refine blk_alloc ?_ _)); exact BK125.out⟩, ⟨by repeat (first | (with_reducible first | exact HB.out | apply below_alloc | apply pw_below_drewN | apply below_drew1 | refine below_set ?_ GE123.out | refine below_set ?_ GE124.out | refine below_set ?_ GE125.out) | exact HB.out)⟩⟩
  case round =>
    clear H'
    try clear c1
    try clear p2
    obtain ⟨x6_1, x126000_1, x126001_1, rfl, HA, HK1, BK123, BK124, BK125, HB⟩ := hrel
    cases gk with
    | zero => exact absurd HA.out (by simp [waystoneref08_Next.l0])
    | succ k1 =>
      have H := HA.out
      clear HA
      simp only [waystoneref08_Next.l0] at H
      by_cases c6 : x6_1 < (l0_1.length : Int)
      · rw [if_pos c6] at H
        have c6b0 : decide (x6_1 < (l0_1.length : Int)) = true := decide_eq_true c6
        clear c6
        by_cases c7 : 0 ≤ x6_1
        · rw [if_pos c7] at H
          have c7b0 : decide (0 ≤ x6_1) = true := decide_eq_true c7
          clear c7
          by_cases c8 : (((rd_T66 l0_1 x6_1).f0.f0) == a1_0 && (((rd_T66 l0_1 x6_1).f0.f1) == a1_1)) = true
          · rw [if_pos c8] at H
            have c8b0 : (((rd_T66 l0_1 x6_1).f0.f0) == a1_0 && (((rd_T66 l0_1 x6_1).f0.f1) == a1_1)) = true := c8
            (try (have c8b1 : decide (((rd_T66 l0_1 x6_1).f0.f0) = a1_0 && (((rd_T66 l0_1 x6_1).f0.f1) == a1_1)) = true := by simpa using c8))
            (try (have c8b2 : (((rd_T66 l0_1 x6_1).f0.f0) == a1_0 && (((rd_T66 l0_1 x6_1).f0.f1) == a1_1)) = true := by simpa using c8))
            clear c8
            simp only [Option.some.injEq, Prod.mk.injEq] at H
            obtain ⟨rfl, rfl, rfl⟩ := H
            have hnb9 := NB123_124.out
            have hnc9 := NB124_123.out
            have hnb10 := NB123_125.out
            have hnc10 := NB125_123.out
            have hcz11_0 : wr.cell? ⟨gb123, 0, none⟩ = some (.slice A0_0 l0_0.length c0_0) := (blk_cell BK123.out 0).trans rfl
            have hcz11_1 : wr.cell? ⟨gb123, 1, none⟩ = some (.slice A0_1 l0_1.length c0_1) := (blk_cell BK123.out 1).trans rfl
            have hfz11_0 := blk_frozen BK123.out 0
            have hfz11_1 := blk_frozen BK123.out 1
            have p126 : 0 ≤ (x6_1 : Int) := of_decide_eq_true (by first | (with_reducible assumption) | assumption)
            have q126 : x6_1 < (l0_1.length : Int) := of_decide_eq_true (by first | (with_reducible assumption) | assumption)
            obtain ⟨ad126, e126, hx126_0, hx126_1, hx126_2, hx126_3⟩ := at_T66 HR0_1.out x6_1 p126 q126
            cases e126
            replace hx126_0 := (HB.out.cell (World.block_lt_of_cell? w _ hx126_0)).trans hx126_0
            replace hx126_1 := (HB.out.cell (World.block_lt_of_cell? w _ hx126_1)).trans hx126_1
            replace hx126_2 := (HB.out.cell (World.block_lt_of_cell? w _ hx126_2)).trans hx126_2
            replace hx126_3 := (HB.out.cell (World.block_lt_of_cell? w _ hx126_3)).trans hx126_3
            replace p126 := eq_true p126
            replace q126 := eq_true q126
            have hnb12 := NB124_125.out
            have hnc12 := NB125_124.out
            have hcz13_0 : wr.cell? ⟨gb124, 0, none⟩ = some (.int .i64 a1_0) := (blk_cell BK124.out 0).trans rfl
            have hcz13_1 : wr.cell? ⟨gb124, 1, none⟩ = some (.int .i64 a1_1) := (blk_cell BK124.out 1).trans rfl
            have hfz13_0 := blk_frozen BK124.out 0
            have hfz13_1 := blk_frozen BK124.out 1
            have p127 : 0 ≤ (x6_1 : Int) := of_decide_eq_true (by first | (with_reducible assumption) | assumption)
            have q127 : x6_1 < (l0_1.length : Int) := of_decide_eq_true (by first | (with_reducible assumption) | assumption)
            obtain ⟨ad127, e127, hx127_0, hx127_1, hx127_2, hx127_3⟩ := at_T66 HR0_1.out x6_1 p127 q127
            obtain rfl : ad126 = ad127 := (by injection e127)
            replace hx127_0 := (HB.out.cell (World.block_lt_of_cell? w _ hx127_0)).trans hx127_0
            replace hx127_1 := (HB.out.cell (World.block_lt_of_cell? w _ hx127_1)).trans hx127_1
            replace hx127_2 := (HB.out.cell (World.block_lt_of_cell? w _ hx127_2)).trans hx127_2
            replace hx127_3 := (HB.out.cell (World.block_lt_of_cell? w _ hx127_3)).trans hx127_3
            replace p127 := eq_true p127
            replace q127 := eq_true q127
            have hcz14_0 : wr.cell? ⟨gb125, 0, none⟩ = some (.int .i64 x126000_1) := (blk_cell BK125.out 0).trans rfl
            have hcz14_1 : wr.cell? ⟨gb125, 1, none⟩ = some (.int .i64 x126001_1) := (blk_cell BK125.out 1).trans rfl
            have hfz14_0 := blk_frozen BK125.out 0
            have hfz14_1 := blk_frozen BK125.out 1
            go_wp2
            repeat (go_quiet (fail); try go_wp2)
            refine bodyPost_ret (results_ct rfl _ _ gb125 33 #[.int .i64 ((rd_T66 l0_1 x6_1).f1.f0), .int .i64 ((rd_T66 l0_1 x6_1).f1.f1)] (0, 0) _ rfl (by (with_reducible repeat (first | refine blk_drewN ?_ _ | refine blk_drew ?_ | refine blk_alloc ?_ _)); refine blk_put (cs := #[.int .i64 ((rd_T66 l0_1 x6_1).f1.f0), .int .i64 x126001_1]) ?_ 1 _ rfl; (with_reducible repeat (first | refine blk_drewN ?_ _ | refine blk_drew ?_ | refine blk_alloc ?_ _)); refine blk_put (cs := #[.int .i64 x126000_1, .int .i64 x126001_1]) ?_ 0 _ rfl; (with_reducible repeat (first | refine blk_drewN ?_ _ | refine blk_drew ?_ | refine blk_alloc ?_ _)); exact BK125.out) Try.underlying33 rfl (by kernel_rfl)) rfl ?_
            exact ⟨by first | rfl | (simp [errW_none, errW_some] <;> rfl) | (simp [*, errW_none, errW_some] <;> rfl), by repeat (first | (with_reducible first | exact HB.out | apply below_alloc | apply pw_below_drewN | apply below_drew1 | refine below_set ?_ GE123.out | refine below_set ?_ GE124.out | refine below_set ?_ GE125.out) | exact HB.out)⟩
          · rw [if_neg c8] at H
            have c8b0 : (((rd_T66 l0_1 x6_1).f0.f0) == a1_0 && (((rd_T66 l0_1 x6_1).f0.f1) == a1_1)) = false := by simpa using c8
            (try (have c8b1 : decide (((rd_T66 l0_1 x6_1).f0.f0) = a1_0 && (((rd_T66 l0_1 x6_1).f0.f1) == a1_1)) = false := by simpa using c8))
            (try (have c8b2 : (((rd_T66 l0_1 x6_1).f0.f0) == a1_0 && (((rd_T66 l0_1 x6_1).f0.f1) == a1_1)) = false := by simpa using c8))
            (try (have c8b3 : ¬ (((rd_T66 l0_1 x6_1).f0.f0) = a1_0 && (((rd_T66 l0_1 x6_1).f0.f1) == a1_1)) := by simpa using c8))
            clear c8
            by_cases c15 : (((rd_T66 l0_1 x6_1).f1.f0) == a1_0 && (((rd_T66 l0_1 x6_1).f1.f1) == a1_1)) = true
            · rw [if_pos c15] at H
              have c15b0 : (((rd_T66 l0_1 x6_1).f1.f0) == a1_0 && (((rd_T66 l0_1 x6_1).f1.f1) == a1_1)) = true := c15
              (try (have c15b1 : decide (((rd_T66 l0_1 x6_1).f1.f0) = a1_0 && (((rd_T66 l0_1 x6_1).f1.f1) == a1_1)) = true := by simpa using c15))
              (try (have c15b2 : (((rd_T66 l0_1 x6_1).f1.f0) == a1_0 && (((rd_T66 l0_1 x6_1).f1.f1) == a1_1)) = true := by simpa using c15))
              clear c15
              simp only [Option.some.injEq, Prod.mk.injEq] at H
              obtain ⟨rfl, rfl, rfl⟩ := H
              have hnb16 := NB123_124.out
              have hnc16 := NB124_123.out
              have hnb17 := NB123_125.out
              have hnc17 := NB125_123.out
              have hcz18_0 : wr.cell? ⟨gb123, 0, none⟩ = some (.slice A0_0 l0_0.length c0_0) := (blk_cell BK123.out 0).trans rfl
              have hcz18_1 : wr.cell? ⟨gb123, 1, none⟩ = some (.slice A0_1 l0_1.length c0_1) := (blk_cell BK123.out 1).trans rfl
              have hfz18_0 := blk_frozen BK123.out 0
              have hfz18_1 := blk_frozen BK123.out 1
              have p126 : 0 ≤ (x6_1 : Int) := of_decide_eq_true (by first | (with_reducible assumption) | assumption)
              have q126 : x6_1 < (l0_1.length : Int) := of_decide_eq_true (by first | (with_reducible assumption) | assumption)
              obtain ⟨ad126, e126, hx126_0, hx126_1, hx126_2, hx126_3⟩ := at_T66 HR0_1.out x6_1 p126 q126
              cases e126
              replace hx126_0 := (HB.out.cell (World.block_lt_of_cell? w _ hx126_0)).trans hx126_0
              replace hx126_1 := (HB.out.cell (World.block_lt_of_cell? w _ hx126_1)).trans hx126_1
              replace hx126_2 := (HB.out.cell (World.block_lt_of_cell? w _ hx126_2)).trans hx126_2
              replace hx126_3 := (HB.out.cell (World.block_lt_of_cell? w _ hx126_3)).trans hx126_3
              replace p126 := eq_true p126
              replace q126 := eq_true q126
              have hnb19 := NB124_125.out
              have hnc19 := NB125_124.out
              have hcz20_0 : wr.cell? ⟨gb124, 0, none⟩ = some (.int .i64 a1_0) := (blk_cell BK124.out 0).trans rfl
              have hcz20_1 : wr.cell? ⟨gb124, 1, none⟩ = some (.int .i64 a1_1) := (blk_cell BK124.out 1).trans rfl
              have hfz20_0 := blk_frozen BK124.out 0
              have hfz20_1 := blk_frozen BK124.out 1
              have p128 : 0 ≤ (x6_1 : Int) := of_decide_eq_true (by first | (with_reducible assumption) | assumption)
              have q128 : x6_1 < (l0_1.length : Int) := of_decide_eq_true (by first | (with_reducible assumption) | assumption)
              obtain ⟨ad128, e128, hx128_0, hx128_1, hx128_2, hx128_3⟩ := at_T66 HR0_1.out x6_1 p128 q128
              obtain rfl : ad126 = ad128 := (by injection e128)
              replace hx128_0 := (HB.out.cell (World.block_lt_of_cell? w _ hx128_0)).trans hx128_0
              replace hx128_1 := (HB.out.cell (World.block_lt_of_cell? w _ hx128_1)).trans hx128_1
              replace hx128_2 := (HB.out.cell (World.block_lt_of_cell? w _ hx128_2)).trans hx128_2
              replace hx128_3 := (HB.out.cell (World.block_lt_of_cell? w _ hx128_3)).trans hx128_3
              replace p128 := eq_true p128
              replace q128 := eq_true q128
              have p129 : 0 ≤ (x6_1 : Int) := of_decide_eq_true (by first | (with_reducible assumption) | assumption)
              have q129 : x6_1 < (l0_1.length : Int) := of_decide_eq_true (by first | (with_reducible assumption) | assumption)
              obtain ⟨ad129, e129, hx129_0, hx129_1, hx129_2, hx129_3⟩ := at_T66 HR0_1.out x6_1 p129 q129
              obtain rfl : ad126 = ad129 := (by injection e129)
              replace hx129_0 := (HB.out.cell (World.block_lt_of_cell? w _ hx129_0)).trans hx129_0
              replace hx129_1 := (HB.out.cell (World.block_lt_of_cell? w _ hx129_1)).trans hx129_1
              replace hx129_2 := (HB.out.cell (World.block_lt_of_cell? w _ hx129_2)).trans hx129_2
              replace hx129_3 := (HB.out.cell (World.block_lt_of_cell? w _ hx129_3)).trans hx129_3
              replace p129 := eq_true p129
              replace q129 := eq_true q129
              have hcz21_0 : wr.cell? ⟨gb125, 0, none⟩ = some (.int .i64 x126000_1) := (blk_cell BK125.out 0).trans rfl
              have hcz21_1 : wr.cell? ⟨gb125, 1, none⟩ = some (.int .i64 x126001_1) := (blk_cell BK125.out 1).trans rfl
              have hfz21_0 := blk_frozen BK125.out 0
              have hfz21_1 := blk_frozen BK125.out 1
              go_wp2
              repeat (go_quiet (fail); try go_wp2)
              refine bodyPost_ret (results_ct rfl _ _ gb125 33 #[.int .i64 ((rd_T66 l0_1 x6_1).f0.f0), .int .i64 ((rd_T66 l0_1 x6_1).f0.f1)] (0, 0) _ rfl (by (with_reducible repeat (first | refine blk_drewN ?_ _ | refine blk_drew ?_ | refine blk_alloc ?_ _)); refine blk_put (cs := #[.int .i64 ((rd_T66 l0_1 x6_1).f0.f0), .int .i64 x126001_1]) ?_ 1 _ rfl; (with_reducible repeat (first | refine blk_drewN ?_ _ | refine blk_drew ?_ | refine blk_alloc ?_ _)); refine blk_put (cs := #[.int .i64 x126000_1, .int .i64 x126001_1]) ?_ 0 _ rfl; (with_reducible repeat (first | refine blk_drewN ?_ _ | refine blk_drew ?_ | refine blk_alloc ?_ _)); exact BK125.out) Try.underlying33 rfl (by kernel_rfl)) rfl ?_
              exact ⟨by first | rfl | (simp [errW_none, errW_some] <;> rfl) | (simp [*, errW_none, errW_some] <;> rfl), by repeat (first | (with_reducible first | exact HB.out | apply below_alloc | apply pw_below_drewN | apply below_drew1 | refine below_set ?_ GE123.out | refine below_set ?_ GE124.out | refine below_set ?_ GE125.out) | exact HB.out)⟩
            · rw [if_neg c15] at H
              have c15b0 : (((rd_T66 l0_1 x6_1).f1.f0) == a1_0 && (((rd_T66 l0_1 x6_1).f1.f1) == a1_1)) = false := by simpa using c15
              (try (have c15b1 : decide (((rd_T66 l0_1 x6_1).f1.f0) = a1_0 && (((rd_T66 l0_1 x6_1).f1.f1) == a1_1)) = false := by simpa using c15))
              (try (have c15b2 : (((rd_T66 l0_1 x6_1).f1.f0) == a1_0 && (((rd_T66 l0_1 x6_1).f1.f1) == a1_1)) = false := by simpa using c15))
              (try (have c15b3 : ¬ (((rd_T66 l0_1 x6_1).f1.f0) = a1_0 && (((rd_T66 l0_1 x6_1).f1.f1) == a1_1)) := by simpa using c15))
              clear c15
              have H' := Aside0.mk H
              clear H
              have hnb22 := NB123_124.out
              have hnc22 := NB124_123.out
              have hnb23 := NB123_125.out
              have hnc23 := NB125_123.out
              have hcz24_0 : wr.cell? ⟨gb123, 0, none⟩ = some (.slice A0_0 l0_0.length c0_0) := (blk_cell BK123.out 0).trans rfl
              have hcz24_1 : wr.cell? ⟨gb123, 1, none⟩ = some (.slice A0_1 l0_1.length c0_1) := (blk_cell BK123.out 1).trans rfl
              have hfz24_0 := blk_frozen BK123.out 0
              have hfz24_1 := blk_frozen BK123.out 1
              have p126 : 0 ≤ (x6_1 : Int) := of_decide_eq_true (by first | (with_reducible assumption) | assumption)
              have q126 : x6_1 < (l0_1.length : Int) := of_decide_eq_true (by first | (with_reducible assumption) | assumption)
              obtain ⟨ad126, e126, hx126_0, hx126_1, hx126_2, hx126_3⟩ := at_T66 HR0_1.out x6_1 p126 q126
              cases e126
              replace hx126_0 := (HB.out.cell (World.block_lt_of_cell? w _ hx126_0)).trans hx126_0
              replace hx126_1 := (HB.out.cell (World.block_lt_of_cell? w _ hx126_1)).trans hx126_1
              replace hx126_2 := (HB.out.cell (World.block_lt_of_cell? w _ hx126_2)).trans hx126_2
              replace hx126_3 := (HB.out.cell (World.block_lt_of_cell? w _ hx126_3)).trans hx126_3
              replace p126 := eq_true p126
              replace q126 := eq_true q126
              have hnb25 := NB124_125.out
              have hnc25 := NB125_124.out
              have hcz26_0 : wr.cell? ⟨gb124, 0, none⟩ = some (.int .i64 a1_0) := (blk_cell BK124.out 0).trans rfl
              have hcz26_1 : wr.cell? ⟨gb124, 1, none⟩ = some (.int .i64 a1_1) := (blk_cell BK124.out 1).trans rfl
              have hfz26_0 := blk_frozen BK124.out 0
              have hfz26_1 := blk_frozen BK124.out 1
              have p128 : 0 ≤ (x6_1 : Int) := of_decide_eq_true (by first | (with_reducible assumption) | assumption)
              have q128 : x6_1 < (l0_1.length : Int) := of_decide_eq_true (by first | (with_reducible assumption) | assumption)
              obtain ⟨ad128, e128, hx128_0, hx128_1, hx128_2, hx128_3⟩ := at_T66 HR0_1.out x6_1 p128 q128
              obtain rfl : ad126 = ad128 := (by injection e128)
              replace hx128_0 := (HB.out.cell (World.block_lt_of_cell? w _ hx128_0)).trans hx128_0
              replace hx128_1 := (HB.out.cell (World.block_lt_of_cell? w _ hx128_1)).trans hx128_1
              replace hx128_2 := (HB.out.cell (World.block_lt_of_cell? w _ hx128_2)).trans hx128_2
              replace hx128_3 := (HB.out.cell (World.block_lt_of_cell? w _ hx128_3)).trans hx128_3
              replace p128 := eq_true p128
              replace q128 := eq_true q128
              go_wp2
              repeat (go_quiet (fail); try go_wp2)
              go_roundg k1
              case measure => have := HK1.out; omega
              case rel => exact ⟨(wrap64 (x6_1 + 1)), (x126000_1), (x126001_1), (by first | rfl | (simp; done) | (simp [*]; done)), H', ⟨by have := HK1.out; omega⟩, ⟨by (with_reducible repeat (first | refine blk_drewN ?_ _ | refine blk_drew ?_ | refine blk_alloc ?_ _)); exact BK123.out⟩, ⟨by (with_reducible repeat (first | refine blk_drewN ?_ _ | refine blk_drew ?_ | refine blk_alloc ?_ _)); exact BK124.out⟩, ⟨by (with_reducible repeat (first | refine blk_drewN ?_ _ | refine blk_drew ?_ | refine blk_alloc ?_ _)); exact BK125.out⟩, ⟨by repeat (first | (with_reducible first | exact HB.out | apply below_alloc | apply pw_below_drewN | apply below_drew1 | refine below_set ?_ GE123.out | refine below_set ?_ GE124.out | refine below_set ?_ GE125.out) | exact HB.out)⟩⟩
        · rw [if_neg c7] at H
          exact absurd H (by simp)
      · rw [if_neg c6] at H
        have c6b0 : decide (x6_1 < (l0_1.length : Int)) = false := decide_eq_false c6
        clear c6
        simp only [Option.some.injEq, Prod.mk.injEq] at H
        obtain ⟨rfl, rfl, rfl⟩ := H
        have hnb27 := NB123_124.out
        have hnc27 := NB124_123.out
        have hnb28 := NB123_125.out
        have hnc28 := NB125_123.out
        have hcz29_0 : wr.cell? ⟨gb123, 0, none⟩ = some (.slice A0_0 l0_0.length c0_0) := (blk_cell BK123.out 0).trans rfl
        have hcz29_1 : wr.cell? ⟨gb123, 1, none⟩ = some (.slice A0_1 l0_1.length c0_1) := (blk_cell BK123.out 1).trans rfl
        have hfz29_0 := blk_frozen BK123.out 0
        have hfz29_1 := blk_frozen BK123.out 1
        have hnb30 := NB125_124.out
        have hnc30 := NB124_125.out
        have hcz31_0 : wr.cell? ⟨gb125, 0, none⟩ = some (.int .i64 x126000_1) := (blk_cell BK125.out 0).trans rfl
        have hcz31_1 : wr.cell? ⟨gb125, 1, none⟩ = some (.int .i64 x126001_1) := (blk_cell BK125.out 1).trans rfl
        have hfz31_0 := blk_frozen BK125.out 0
        have hfz31_1 := blk_frozen BK125.out 1
        go_wp2
        repeat (go_quiet (fail); try go_wp2)
        refine bodyPost_ret (results_ct rfl _ _ gb125 33 #[.int .i64 0, .int .i64 0] (0, 0) _ rfl (by (with_reducible repeat (first | refine blk_drewN ?_ _ | refine blk_drew ?_ | refine blk_alloc ?_ _)); refine blk_put (cs := #[.int .i64 0, .int .i64 x126001_1]) ?_ 1 _ rfl; (with_reducible repeat (first | refine blk_drewN ?_ _ | refine blk_drew ?_ | refine blk_alloc ?_ _)); refine blk_put (cs := #[.int .i64 x126000_1, .int .i64 x126001_1]) ?_ 0 _ rfl; (with_reducible repeat (first | refine blk_drewN ?_ _ | refine blk_drew ?_ | refine blk_alloc ?_ _)); exact BK125.out) Try.underlying33 rfl (by kernel_rfl)) rfl ?_
        exact ⟨by first | rfl | (simp [errW_none, errW_some] <;> rfl) | (simp [*, errW_none, errW_some] <;> rfl), by repeat (first | (with_reducible first | exact HB.out | apply below_alloc | apply pw_below_drewN | apply below_drew1 | refine below_set ?_ GE123.out | refine below_set ?_ GE124.out | refine below_set ?_ GE125.out) | exact HB.out)⟩
def waystoneref08_Has.f (l0_0 : List Int) (l0_1 : List (S66)) (a1_0 : Int) (a1_1 : Int) : Option (Bool) := some (Go.Proofs.Ytkjighagiecbaaa.H.hasB l0_0 ⟨a1_0, a1_1⟩)
theorem waystoneref08_Has.calls (A0_0 : Option Addr) (c0_0 : Nat) (l0_0 : List Int) (A0_1 : Option Addr) (c0_1 : Nat) (l0_1 : List (S66)) (a1_0 : Int) (a1_1 : Int) (r : Bool) (w : World) (hr0_0 : Kd.C (Kd.int .i64) w A0_0 l0_0.length l0_0) (hc0_0 : l0_0.length ≤ c0_0) (hr0_1 : Kd.C k66 w A0_1 l0_1.length l0_1) (hc0_1 : l0_1.length ≤ c0_1) (h : waystoneref08_Has.f l0_0 l0_1 a1_0 a1_1 = some r) :
    Calls Try.prog 43 #[.agg #[.slice A0_0 l0_0.length c0_0, .slice A0_1 l0_1.length c0_1], .agg #[.int .i64 a1_0, .int .i64 a1_1]] w fun e w' => e = .returned (.bool r) ∧ Below w.heap.size w w' := by
  cases h
  exact Go.Proofs.Ytkjighagiecbaaa.H.refHas_any A0_0 c0_0 l0_0 (.slice A0_1 l0_1.length c0_1) ⟨a1_0, a1_1⟩ w hr0_0 rfl
end Go.Proofs.Ytkjighagiecbaaa.R
