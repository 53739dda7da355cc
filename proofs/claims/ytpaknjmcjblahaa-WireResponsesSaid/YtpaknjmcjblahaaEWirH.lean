/- WirH. -/
import Derived.Test.YtpaknjmcjblahaaEWirG
import Derived.Test.YtpaknjmcjblahaaEWirB
import Derived.Test.YtpaknjmcjblahaaEPx2
import Derived.Test.YtpaknjmcjblahaaEPx7
import Derived.Deep.RegionHeld3
namespace Go.Proofs.Ytpaknjmcjblahaa.H
open Go.RowKit Go.Proofs.Ytpaknjmcjblahaa.P Go.Proofs.YtpaknjmcjblahaaW.PrintWords Go.Proofs.YtpaknjmcjblahaaW.PrintLast Go.Proofs.YtpaknjmcjblahaaW.PrintMore
attribute [local go_sem high] eqA44
set_option linter.unusedVariables false
set_option linter.unusedSimpArgs false
set_option maxRecDepth 20000
theorem eqI_any (A : Option Addr) (c : Nat) (l : List Int) (B : Option Addr) (d : Nat) (m : List Int) (hl : l.length ≤ 1000000) (W : World) (hA : Kd.C (Kd.int .i64) W A l.length l) (hc : l.length ≤ c) (hB : Kd.C (Kd.int .i64) W B m.length m) (hd : m.length ≤ d) :
    Calls Try.prog 50 #[.slice A l.length c, .slice B m.length d] W fun e w' => e = .returned (.bool (sameL eqI l m)) ∧ Below W.heap.size W w' := by
  obtain ⟨n, hn⟩ := (eqI_f l m hl).rounds
  refine (slices_Equal_int_int.calls n A c l B d m _ W hA hc hB hd hn).mono ?_
  rintro e w' ⟨rfl, ⟨m, rfl⟩⟩
  exact ⟨rfl, below_drewN (Below.refl _ _) m⟩
theorem eqR_any (A : Option Addr) (c : Nat) (l : List Ru) (B : Option Addr) (d : Nat) (m : List Ru) (hl : l.length ≤ 1000000) (W : World) (hA : Kd.C k29 W A l.length l) (hc : l.length ≤ c) (hB : Kd.C k29 W B m.length m) (hd : m.length ≤ d) :
    Calls Try.prog 51 #[.slice A l.length c, .slice B m.length d] W fun e w' => e = .returned (.bool (sameL eqRu l m)) ∧ Below W.heap.size W w' := by
  obtain ⟨n, hn⟩ := (eqR_f l m hl).rounds
  refine (api_Rule_51.calls n A c l B d m _ W hA hc hB hd hn).mono ?_
  rintro e w' ⟨rfl, ⟨m, rfl⟩⟩
  exact ⟨rfl, below_drewN (Below.refl _ _) m⟩
set_option maxHeartbeats 8000000 in
theorem same_flat (xe xn : Int) (xids : List Int) (xrules : List Ru) (xh : Bool) (xfr xad : Int) (xdv : List Int) (xft xod xop : Int) (xA2 : Option Addr) (xc2 : Nat) (xA3 : Option Addr) (xc3 : Nat) (xA7 : Option Addr) (xc7 : Nat) (ye yn : Int) (yids : List Int) (yrules : List Ru) (yh : Bool) (yfr yad : Int) (ydv : List Int) (yft yod yop : Int) (yA2 : Option Addr) (yc2 : Nat) (yA3 : Option Addr) (yc3 : Nat) (yA7 : Option Addr) (yc7 : Nat) (w : World) (xh2 : Kd.C (Kd.int .i64) w xA2 xids.length xids) (xg2 : xids.length ≤ xc2) (xh3 : Kd.C k29 w xA3 xrules.length xrules) (xg3 : xrules.length ≤ xc3) (xh7 : Kd.C (Kd.int .i64) w xA7 xdv.length xdv) (xg7 : xdv.length ≤ xc7) (yh2 : Kd.C (Kd.int .i64) w yA2 yids.length yids) (yg2 : yids.length ≤ yc2) (yh3 : Kd.C k29 w yA3 yrules.length yrules) (yg3 : yrules.length ≤ yc3) (yh7 : Kd.C (Kd.int .i64) w yA7 ydv.length ydv) (yg7 : ydv.length ≤ yc7) (l1 : xids.length ≤ 1000000) (l2 : xrules.length ≤ 1000000) (l3 : xdv.length ≤ 1000000) :
    Calls Try.prog 21 #[.agg #[.int .i64 xe, .int .i64 xn, .slice xA2 xids.length xc2, .slice xA3 xrules.length xc3, .bool xh, .int .i64 xfr, .int .u32 xad, .slice xA7 xdv.length xc7, .int .i64 xft, .int .i64 xod, .int .i64 xop], .agg #[.int .i64 ye, .int .i64 yn, .slice yA2 yids.length yc2, .slice yA3 yrules.length yc3, .bool yh, .int .i64 yfr, .int .u32 yad, .slice yA7 ydv.length yc7, .int .i64 yft, .int .i64 yod, .int .i64 yop]] w fun e w' => e = .returned (.bool (sameB ⟨xe, xn, xids, xrules, xh, xfr, xad, xdv, xft, xod, xop⟩ ⟨ye, yn, yids, yrules, yh, yfr, yad, ydv, yft, yod, yop⟩)) ∧ Below w.heap.size w w' := by
  have C1 := Aside0.mk (fun (W : World) (hb : Below w.heap.size w W) => eqI_any xA2 xc2 xids yA2 yc2 yids l1 W (Kd.C_below xh2 hb) xg2 (Kd.C_below yh2 hb) yg2)
  have C2 := Aside0.mk (fun (W : World) (hb : Below w.heap.size w W) => eqR_any xA3 xc3 xrules yA3 yc3 yrules l2 W (Kd.C_below xh3 hb) xg3 (Kd.C_below yh3 hb) yg3)
  have C3 := Aside0.mk (fun (W : World) (hb : Below w.heap.size w W) => eqI_any xA7 xc7 xdv yA7 yc7 ydv l3 W (Kd.C_below xh7 hb) xg7 (Kd.C_below yh7 hb) yg7)
  clear xh2 xg2 xh3 xg3 xh7 xg7 yh2 yg2 yh3 yg3 yh7 yg7 l1 l2 l3
  have FB := Aside0.mk (show sameB ⟨xe, xn, xids, xrules, xh, xfr, xad, xdv, xft, xod, xop⟩ ⟨ye, yn, yids, yrules, yh, yfr, yad, ydv, yft, yod, yop⟩ = (sameL eqI xids yids && (sameL eqRu xrules yrules && ((sameL eqI xdv ydv && ((xft == yft) && (xod == yod && xop == yop))) && ((xh == yh) && (xfr == yfr && xad == yad)) && ((xe == ye) && (xn == yn))))) from rfl)
  generalize sameB ⟨xe, xn, xids, xrules, xh, xfr, xad, xdv, xft, xod, xop⟩ ⟨ye, yn, yids, yrules, yh, yfr, yad, ydv, yft, yod, yop⟩ = FR at *
  generalize sameL eqI xids yids = i1 at *
  generalize sameL eqRu xrules yrules = i2 at *
  generalize sameL eqI xdv ydv = i3 at *
  obtain ⟨be, beh⟩ : ∃ b, (xe == ye) = b := ⟨_, rfl⟩
  rw [beh] at FB
  obtain ⟨bn, bnh⟩ : ∃ b, (xn == yn) = b := ⟨_, rfl⟩
  rw [bnh] at FB
  obtain ⟨bh, bhh⟩ : ∃ b, (xh == yh) = b := ⟨_, rfl⟩
  rw [bhh] at FB
  obtain ⟨bf, bfh⟩ : ∃ b, (xfr == yfr) = b := ⟨_, rfl⟩
  rw [bfh] at FB
  obtain ⟨ba, bah⟩ : ∃ b, (xad == yad) = b := ⟨_, rfl⟩
  rw [bah] at FB
  obtain ⟨bt, bth⟩ : ∃ b, (xft == yft) = b := ⟨_, rfl⟩
  rw [bth] at FB
  obtain ⟨bd, bdh⟩ : ∃ b, (xod == yod) = b := ⟨_, rfl⟩
  rw [bdh] at FB
  obtain ⟨bp, bph⟩ : ∃ b, (xop == yop) = b := ⟨_, rfl⟩
  rw [bph] at FB
  go_enter Try.func21, Try.ntmps21
  try dsimp only
  repeat ((fail_if_success (show Code.wp _ (Code.seq (Code.region 1 _ _) _) _ _ _)); (first | go_values | go_skip | go_guarded | go_step | go_upon | go_back))
  have hb1 := (Below.refl w.heap.size w).alloc (Nat.le_refl _) (.cells #[.int .i64 xe, .int .i64 xn, .slice xA2 xids.length xc2, .slice xA3 xrules.length xc3, .bool xh, .int .i64 xfr, .int .u32 xad, .slice xA7 xdv.length xc7, .int .i64 xft, .int .i64 xod, .int .i64 xop] 50)
  have hb2 := (Below.refl (w.alloc (.cells #[.int .i64 xe, .int .i64 xn, .slice xA2 xids.length xc2, .slice xA3 xrules.length xc3, .bool xh, .int .i64 xfr, .int .u32 xad, .slice xA7 xdv.length xc7, .int .i64 xft, .int .i64 xod, .int .i64 xop] 50)).heap.size (w.alloc (.cells #[.int .i64 xe, .int .i64 xn, .slice xA2 xids.length xc2, .slice xA3 xrules.length xc3, .bool xh, .int .i64 xfr, .int .u32 xad, .slice xA7 xdv.length xc7, .int .i64 xft, .int .i64 xod, .int .i64 xop] 50))).alloc (Nat.le_refl _) (.cells #[.int .i64 ye, .int .i64 yn, .slice yA2 yids.length yc2, .slice yA3 yrules.length yc3, .bool yh, .int .i64 yfr, .int .u32 yad, .slice yA7 ydv.length yc7, .int .i64 yft, .int .i64 yod, .int .i64 yop] 50)
  have KX := Aside0.mk (blk_below (blk_new w (.cells #[.int .i64 xe, .int .i64 xn, .slice xA2 xids.length xc2, .slice xA3 xrules.length xc3, .bool xh, .int .i64 xfr, .int .u32 xad, .slice xA7 xdv.length xc7, .int .i64 xft, .int .i64 xod, .int .i64 xop] 50)) hb2)
  have KY := Aside0.mk (show ((w.alloc (.cells #[.int .i64 xe, .int .i64 xn, .slice xA2 xids.length xc2, .slice xA3 xrules.length xc3, .bool xh, .int .i64 xfr, .int .u32 xad, .slice xA7 xdv.length xc7, .int .i64 xft, .int .i64 xod, .int .i64 xop] 50)).alloc (.cells #[.int .i64 ye, .int .i64 yn, .slice yA2 yids.length yc2, .slice yA3 yrules.length yc3, .bool yh, .int .i64 yfr, .int .u32 yad, .slice yA7 ydv.length yc7, .int .i64 yft, .int .i64 yod, .int .i64 yop] 50)).heap[w.heap.size + 1]? = some (.cells #[.int .i64 ye, .int .i64 yn, .slice yA2 yids.length yc2, .slice yA3 yrules.length yc3, .bool yh, .int .i64 yfr, .int .u32 yad, .slice yA7 ydv.length yc7, .int .i64 yft, .int .i64 yod, .int .i64 yop] 50 (0, 0)) from by have := blk_new (w.alloc (.cells #[.int .i64 xe, .int .i64 xn, .slice xA2 xids.length xc2, .slice xA3 xrules.length xc3, .bool xh, .int .i64 xfr, .int .u32 xad, .slice xA7 xdv.length xc7, .int .i64 xft, .int .i64 xod, .int .i64 xop] 50)) (.cells #[.int .i64 ye, .int .i64 yn, .slice yA2 yids.length yc2, .slice yA3 yrules.length yc3, .bool yh, .int .i64 yfr, .int .u32 yad, .slice yA7 ydv.length yc7, .int .i64 yft, .int .i64 yod, .int .i64 yop] 50); rw [World.size_alloc] at this; exact this)
  have HB1 := Aside0.mk (hb1.trans (hb2.mono (by simp)))
  clear hb1 hb2
  generalize ((w.alloc (.cells #[.int .i64 xe, .int .i64 xn, .slice xA2 xids.length xc2, .slice xA3 xrules.length xc3, .bool xh, .int .i64 xfr, .int .u32 xad, .slice xA7 xdv.length xc7, .int .i64 xft, .int .i64 xod, .int .i64 xop] 50)).alloc (.cells #[.int .i64 ye, .int .i64 yn, .slice yA2 yids.length yc2, .slice yA3 yrules.length yc3, .bool yh, .int .i64 yfr, .int .u32 yad, .slice yA7 ydv.length yc7, .int .i64 yft, .int .i64 yod, .int .i64 yop] 50)) = W1 at *
  have cx4 := blk_cell KX.out 4
  have cy4 := blk_cell KY.out 4
  have cx5 := blk_cell KX.out 5
  have cy5 := blk_cell KY.out 5
  have cx6 := blk_cell KX.out 6
  have cy6 := blk_cell KY.out 6
  have cx7 := blk_cell KX.out 7
  have cy7 := blk_cell KY.out 7
  have cx8 := blk_cell KX.out 8
  have cy8 := blk_cell KY.out 8
  have cx9 := blk_cell KX.out 9
  have cy9 := blk_cell KY.out 9
  have cx10 := blk_cell KX.out 10
  have cy10 := blk_cell KY.out 10
  go_wp2_with fail
  go_cut [5, 6] from 9 (fun v5 v6 W => ∃ b5 b6, v5 = .pointer (some ⟨b5, 0, none⟩) ∧ v6 = .pointer (some ⟨b6, 0, none⟩) ∧ Aside0 (W.heap[b5]? = some (.cells #[.bool xh, .int .i64 xfr, .int .u32 xad, .slice xA7 xdv.length xc7, .int .i64 xft, .int .i64 xod, .int .i64 xop] 48 (0, 0))) ∧ Aside0 (W.heap[b6]? = some (.cells #[.bool yh, .int .i64 yfr, .int .u32 yad, .slice yA7 ydv.length yc7, .int .i64 yft, .int .i64 yod, .int .i64 yop] 48 (0, 0))) ∧ Aside0 (Below W1.heap.size W1 W))
  case first =>
    go_region_held3 (fun w' => w'.cell? ⟨w.heap.size, 4, none⟩ = some (.bool xh) ∧ w'.cell? ⟨w.heap.size, 5, none⟩ = some (.int .i64 xfr) ∧ w'.cell? ⟨w.heap.size, 6, none⟩ = some (.int .u32 xad) ∧ w'.cell? ⟨w.heap.size, 7, none⟩ = some (.slice xA7 xdv.length xc7) ∧ w'.cell? ⟨w.heap.size, 8, none⟩ = some (.int .i64 xft) ∧ w'.cell? ⟨w.heap.size, 9, none⟩ = some (.int .i64 xod) ∧ w'.cell? ⟨w.heap.size, 10, none⟩ = some (.int .i64 xop) ∧ w'.cell? ⟨w.heap.size + 1, 4, none⟩ = some (.bool yh) ∧ w'.cell? ⟨w.heap.size + 1, 5, none⟩ = some (.int .i64 yfr) ∧ w'.cell? ⟨w.heap.size + 1, 6, none⟩ = some (.int .u32 yad) ∧ w'.cell? ⟨w.heap.size + 1, 7, none⟩ = some (.slice yA7 ydv.length yc7) ∧ w'.cell? ⟨w.heap.size + 1, 8, none⟩ = some (.int .i64 yft) ∧ w'.cell? ⟨w.heap.size + 1, 9, none⟩ = some (.int .i64 yod) ∧ w'.cell? ⟨w.heap.size + 1, 10, none⟩ = some (.int .i64 yop)) (first | assumption | go_keep) (fail)
    all_goals (go_wp2_with fail; go_meet; case rel => first
      | exact ⟨_, _, rfl, rfl, ⟨blk_below (blk_new W1 (.cells #[.bool xh, .int .i64 xfr, .int .u32 xad, .slice xA7 xdv.length xc7, .int .i64 xft, .int .i64 xod, .int .i64 xop] 48)) (below_drew ((Below.refl _ (W1.alloc (.cells #[.bool xh, .int .i64 xfr, .int .u32 xad, .slice xA7 xdv.length xc7, .int .i64 xft, .int .i64 xod, .int .i64 xop] 48))).alloc (Nat.le_refl _) (.cells #[.bool yh, .int .i64 yfr, .int .u32 yad, .slice yA7 ydv.length yc7, .int .i64 yft, .int .i64 yod, .int .i64 yop] 48)))⟩, ⟨by have := blk_new (W1.alloc (.cells #[.bool xh, .int .i64 xfr, .int .u32 xad, .slice xA7 xdv.length xc7, .int .i64 xft, .int .i64 xod, .int .i64 xop] 48)) (.cells #[.bool yh, .int .i64 yfr, .int .u32 yad, .slice yA7 ydv.length yc7, .int .i64 yft, .int .i64 yod, .int .i64 yop] 48); rw [World.size_alloc] at this; exact this⟩, ⟨below_drew (((Below.refl _ _).alloc (Nat.le_refl _) _).alloc (by simp) _)⟩⟩
      | exact ⟨_, _, rfl, rfl, ⟨by have := blk_new (W1.alloc (.cells #[.bool yh, .int .i64 yfr, .int .u32 yad, .slice yA7 ydv.length yc7, .int .i64 yft, .int .i64 yod, .int .i64 yop] 48)) (.cells #[.bool xh, .int .i64 xfr, .int .u32 xad, .slice xA7 xdv.length xc7, .int .i64 xft, .int .i64 xod, .int .i64 xop] 48); rw [World.size_alloc] at this; exact this⟩, ⟨blk_below (blk_new W1 (.cells #[.bool yh, .int .i64 yfr, .int .u32 yad, .slice yA7 ydv.length yc7, .int .i64 yft, .int .i64 yod, .int .i64 yop] 48)) (below_drew ((Below.refl _ (W1.alloc (.cells #[.bool yh, .int .i64 yfr, .int .u32 yad, .slice yA7 ydv.length yc7, .int .i64 yft, .int .i64 yod, .int .i64 yop] 48))).alloc (Nat.le_refl _) (.cells #[.bool xh, .int .i64 xfr, .int .u32 xad, .slice xA7 xdv.length xc7, .int .i64 xft, .int .i64 xod, .int .i64 xop] 48)))⟩, ⟨below_drew (((Below.refl _ _).alloc (Nat.le_refl _) _).alloc (by simp) _)⟩⟩)
  case rest =>
  obtain ⟨b5, b6, rfl, rfl, K5, K6, HW⟩ := hcut
  clear cx4 cy4 cx5 cy5 cx6 cy6 cx7 cy7 cx8 cy8 cx9 cy9 cx10 cy10
  replace KX := Aside0.mk (blk_below KX.out HW.out)
  replace KY := Aside0.mk (blk_below KY.out HW.out)
  have HBW := Aside0.mk (HB1.out.trans (HW.out.mono HB1.out.size))
  clear HB1 HW
  rename_i wc _
  generalize wc = W2 at *
  have vx0 := blk_cell K5.out 0
  have vy0 := blk_cell K6.out 0
  have vx1 := blk_cell K5.out 1
  have vy1 := blk_cell K6.out 1
  have vx2 := blk_cell K5.out 2
  have vy2 := blk_cell K6.out 2
  have vx3 := blk_cell K5.out 3
  have vy3 := blk_cell K6.out 3
  have vx4 := blk_cell K5.out 4
  have vy4 := blk_cell K6.out 4
  have vx5 := blk_cell K5.out 5
  have vy5 := blk_cell K6.out 5
  have vx6 := blk_cell K5.out 6
  have vy6 := blk_cell K6.out 6
  repeat ((fail_if_success (show Code.wp _ (Code.seq (Code.region 2 _ _) _) _ _ _)); (first | go_values | go_skip | go_guarded | go_step | go_upon | go_back))
  first | go_step | go_upon | go_skip
  go_cut [7] from 9 (fun v7 W => v7 = .bool (bh && (bf && ba)) ∧ Aside0 (Below W2.heap.size W2 W))
  case first =>
    cases bh with
    | false =>
      go_wp2_with fail
      go_meet
      case rel => exact ⟨by simp, ⟨Below.refl _ _⟩⟩
    | true =>
      cases bf with
      | false =>
        go_wp2_with fail
        go_meet
        case rel => exact ⟨by simp, ⟨Below.refl _ _⟩⟩
      | true =>
        go_wp2_with fail
        go_meet
        case rel => exact ⟨by simp, ⟨Below.refl _ _⟩⟩
  case rest =>
  obtain ⟨rfl, HB⟩ := hcut
  rename_i wc _
  generalize wc = W3 at *
  replace KX := Aside0.mk (blk_below KX.out HB.out)
  replace KY := Aside0.mk (blk_below KY.out HB.out)
  replace K5 := Aside0.mk (blk_below K5.out HB.out)
  replace K6 := Aside0.mk (blk_below K6.out HB.out)
  replace HBW := Aside0.mk (HBW.out.trans (HB.out.mono HBW.out.size))
  clear HB vx0 vy0 vx1 vy1 vx2 vy2 vx3 vy3 vx4 vy4 vx5 vy5 vx6 vy6
  have vx0 := blk_cell K5.out 0
  have vy0 := blk_cell K6.out 0
  have vx1 := blk_cell K5.out 1
  have vy1 := blk_cell K6.out 1
  have vx2 := blk_cell K5.out 2
  have vy2 := blk_cell K6.out 2
  have vx3 := blk_cell K5.out 3
  have vy3 := blk_cell K6.out 3
  have vx4 := blk_cell K5.out 4
  have vy4 := blk_cell K6.out 4
  have vx5 := blk_cell K5.out 5
  have vy5 := blk_cell K6.out 5
  have vx6 := blk_cell K5.out 6
  have vy6 := blk_cell K6.out 6
  repeat ((fail_if_success (show Code.wp _ (Code.seq (Code.region 3 _ _) _) _ _ _)); (first | go_values | go_skip | go_guarded | go_step | go_upon | go_back))
  first | go_step | go_upon | go_skip
  obtain ⟨v7, hv7⟩ : ∃ b, (bh && (bf && ba)) = b := ⟨_, rfl⟩
  rw [hv7]
  have HV7 := Aside0.mk hv7
  clear hv7
  go_cut [8] from 9 (fun v8 W => v8 = .bool (i3 && (bt && (bd && bp))) ∧ Aside0 (Below W3.heap.size W3 W))
  case first =>
    go_wp2_with fail
    refine (C3.out _ HBW.out).mono ?_
    rintro e W4 ⟨rfl, hb⟩
    have HB4 := Aside0.mk hb
    replace K5 := Aside0.mk (blk_below K5.out hb)
    replace K6 := Aside0.mk (blk_below K6.out hb)
    clear hb C3 vx0 vy0 vx1 vy1 vx2 vy2 vx3 vy3 vx4 vy4 vx5 vy5 vx6 vy6
    have vx0 := blk_cell K5.out 0
    have vy0 := blk_cell K6.out 0
    have vx1 := blk_cell K5.out 1
    have vy1 := blk_cell K6.out 1
    have vx2 := blk_cell K5.out 2
    have vy2 := blk_cell K6.out 2
    have vx3 := blk_cell K5.out 3
    have vy3 := blk_cell K6.out 3
    have vx4 := blk_cell K5.out 4
    have vy4 := blk_cell K6.out 4
    have vx5 := blk_cell K5.out 5
    have vy5 := blk_cell K6.out 5
    have vx6 := blk_cell K5.out 6
    have vy6 := blk_cell K6.out 6
    cases i3 with
    | false =>
      go_wp2_with fail
      go_meet
      case rel => exact ⟨by simp, HB4⟩
    | true =>
      cases bt with
      | false =>
        go_wp2_with fail
        go_meet
        case rel => exact ⟨by simp, HB4⟩
      | true =>
        go_wp2_with fail
        go_meet
        case rel => exact ⟨by simp, HB4⟩
  case rest =>
  obtain ⟨rfl, HB⟩ := hcut
  rename_i wc _
  generalize wc = W4 at *
  replace KX := Aside0.mk (blk_below KX.out HB.out)
  replace KY := Aside0.mk (blk_below KY.out HB.out)
  replace HBW := Aside0.mk (HBW.out.trans (HB.out.mono HBW.out.size))
  clear HB C3 vx0 vy0 vx1 vy1 vx2 vy2 vx3 vy3 vx4 vy4 vx5 vy5 vx6 vy6
  obtain ⟨v8, hv8⟩ : ∃ b, (i3 && (bt && (bd && bp))) = b := ⟨_, rfl⟩
  rw [hv8]
  have FB2 := Aside0.mk (show FR = (i1 && (i2 && ((v8 && v7) && (be && bn)))) from by rw [FB.out, hv8, HV7.out])
  clear hv8 FB HV7
  have cx0 := blk_cell KX.out 0
  have cy0 := blk_cell KY.out 0
  have cx1 := blk_cell KX.out 1
  have cy1 := blk_cell KY.out 1
  have cx2 := blk_cell KX.out 2
  have cy2 := blk_cell KY.out 2
  have cx3 := blk_cell KX.out 3
  have cy3 := blk_cell KY.out 3
  cases be with
  | false =>
    go_wp2_with fail
    go_ret
    exact ⟨by rw [FB2.out]; simp, HBW.out⟩
  | true =>
    cases bn with
    | false =>
      go_wp2_with fail
      go_ret
      exact ⟨by rw [FB2.out]; simp, HBW.out⟩
    | true =>
      go_wp2_with fail
      refine (C1.out _ HBW.out).mono ?_
      rintro e W5 ⟨rfl, hb⟩
      replace KX := Aside0.mk (blk_below KX.out hb)
      replace KY := Aside0.mk (blk_below KY.out hb)
      replace HBW := Aside0.mk (HBW.out.trans (hb.mono HBW.out.size))
      clear hb C1 cx0 cy0 cx1 cy1 cx2 cy2 cx3 cy3
      have cx0 := blk_cell KX.out 0
      have cy0 := blk_cell KY.out 0
      have cx1 := blk_cell KX.out 1
      have cy1 := blk_cell KY.out 1
      have cx2 := blk_cell KX.out 2
      have cy2 := blk_cell KY.out 2
      have cx3 := blk_cell KX.out 3
      have cy3 := blk_cell KY.out 3
      cases i1 with
      | false =>
        go_wp2_with fail
        go_ret
        exact ⟨by rw [FB2.out]; simp, HBW.out⟩
      | true =>
        go_wp2_with fail
        refine (C2.out _ HBW.out).mono ?_
        rintro e W6 ⟨rfl, hb⟩
        replace KX := Aside0.mk (blk_below KX.out hb)
        replace KY := Aside0.mk (blk_below KY.out hb)
        replace HBW := Aside0.mk (HBW.out.trans (hb.mono HBW.out.size))
        clear hb C2 cx0 cy0 cx1 cy1 cx2 cy2 cx3 cy3
        have cx0 := blk_cell KX.out 0
        have cy0 := blk_cell KY.out 0
        have cx1 := blk_cell KX.out 1
        have cy1 := blk_cell KY.out 1
        have cx2 := blk_cell KX.out 2
        have cy2 := blk_cell KY.out 2
        have cx3 := blk_cell KX.out 3
        have cy3 := blk_cell KY.out 3
        cases i2 with
        | false =>
          go_wp2_with fail
          go_ret
          exact ⟨by rw [FB2.out]; simp, HBW.out⟩
        | true =>
          cases v7 with
          | false =>
            go_wp2_with fail
            go_ret
            exact ⟨by rw [FB2.out]; simp, HBW.out⟩
          | true =>
            go_wp2_with fail
            go_ret
            exact ⟨by rw [FB2.out]; simp, HBW.out⟩
theorem same_any (r s : Rs) (A2 : Option Addr) (c2 : Nat) (A3 : Option Addr) (c3 : Nat) (A7 : Option Addr) (c7 : Nat) (B2 : Option Addr) (d2 : Nat) (B3 : Option Addr) (d3 : Nat) (B7 : Option Addr) (d7 : Nat) (w : World)
    (h2 : Kd.C (Kd.int .i64) w A2 r.ids.length r.ids) (g2 : r.ids.length ≤ c2) (h3 : Kd.C k29 w A3 r.rules.length r.rules) (g3 : r.rules.length ≤ c3) (h7 : Kd.C (Kd.int .i64) w A7 r.dv.length r.dv) (g7 : r.dv.length ≤ c7)
    (i2 : Kd.C (Kd.int .i64) w B2 s.ids.length s.ids) (j2 : s.ids.length ≤ d2) (i3 : Kd.C k29 w B3 s.rules.length s.rules) (j3 : s.rules.length ≤ d3) (i7 : Kd.C (Kd.int .i64) w B7 s.dv.length s.dv) (j7 : s.dv.length ≤ d7)
    (l1 : r.ids.length ≤ 1000000) (l2 : r.rules.length ≤ 1000000) (l3 : r.dv.length ≤ 1000000) :
    Calls Try.prog 21 #[.agg (rsVals (.slice A2 r.ids.length c2) (.slice A3 r.rules.length c3) (.slice A7 r.dv.length c7) r).toArray, .agg (rsVals (.slice B2 s.ids.length d2) (.slice B3 s.rules.length d3) (.slice B7 s.dv.length d7) s).toArray] w fun e w' => e = .returned (.bool (sameB r s)) ∧ Below w.heap.size w w' :=
  same_flat r.e r.n r.ids r.rules r.h r.fr r.ad r.dv r.ft r.od r.op A2 c2 A3 c3 A7 c7 s.e s.n s.ids s.rules s.h s.fr s.ad s.dv s.ft s.od s.op B2 d2 B3 d3 B7 d7 w h2 g2 h3 g3 h7 g7 i2 j2 i3 j3 i7 j7 l1 l2 l3
end Go.Proofs.Ytpaknjmcjblahaa.H
