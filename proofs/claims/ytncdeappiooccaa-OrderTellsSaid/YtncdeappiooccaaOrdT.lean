/- OrderTells: as the document says. -/
import Derived.Test.YtncdeappiooccaaOrdR3
namespace Go.Proofs.Ytncdeappiooccaa.H
open Go.RowKit Go.Proofs.Ytncdeappiooccaa.P Go.Proofs.YtncdeappiooccaaW.PrintWords Go.Proofs.YtncdeappiooccaaW.PrintLast Go.Proofs.YtncdeappiooccaaW.PrintMore
set_option linter.unusedVariables false
set_option linter.unusedSimpArgs false
theorem cells2_below {W V : World} {b : Nat} {u0 u1 : Value} (h : W.cell? ⟨b, 0, none⟩ = some u0 ∧ W.cell? ⟨b, 1, none⟩ = some u1) (hb : Below W.heap.size W V) : V.cell? ⟨b, 0, none⟩ = some u0 ∧ V.cell? ⟨b, 1, none⟩ = some u1 :=
  ⟨pw_cell_below hb h.1, pw_cell_below hb h.2⟩
theorem orderL_le (h : List S47) : (orderL h).length ≤ h.length := by
  unfold orderL
  split
  · exact ofL_le h 2
  · exact Nat.zero_le _
theorem pendL_le (h : List S47) : (pendL h).length ≤ h.length := by
  unfold pendL
  split
  · exact Nat.le_trans (List.length_filter_le _ _) (ofL_le h 1)
  · exact Nat.zero_le _
set_option maxHeartbeats 4000000 in
theorem OrderTells_any (A : Option Addr) (c : Nat) (h : List S47) (a0 a1 : Int) (A2 : Option Addr) (c2 : Nat) (l : List Int) (w : World) (hr : Kd.C k47 w A h.length h) (hc : h.length ≤ c) {I J : Prop} (hI : I) (hr2 : Kd.C (Kd.int .i64) w A2 l.length l) (hc2 : l.length ≤ c2) (hJ : J) :
    Calls Try.prog 3 #[.slice A h.length c, .agg #[.int .i64 a0, .int .i64 a1], .slice A2 l.length c2] w fun e w' => e = .returned (.bool true) ∧ Below w.heap.size w w' := by
  have hmax := Kd.C_max hr
  have hmax2 := Kd.C_max hr2
  have HBX0 := Aside0.mk (blk_new w (.cells #[.int .i64 a0, .int .i64 a1] 23))
  have HBW0 := Aside0.mk ((Below.refl w.heap.size w).alloc (Nat.le_refl _) (.cells #[.int .i64 a0, .int .i64 a1] 23))
  have HR0 := Aside0.mk (Kd.C_below hr HBW0.out)
  have HL0 := Aside0.mk (Kd.C_below hr2 HBW0.out)
  clear hr hr2
  go_enter Try.func3, Try.ntmps3
  have hbail : ∀ W : World, Calls Try.prog 6 #[] W fun e w' => e = .returned (.bool true) ∧ Below W.heap.size W w' := alive_any
  by_cases hl : h.length ≤ 120
  rotate_left
  · have hlz : (120 : Int) < (h.length : Int) := by omega
    go_wp2_with fail
    generalize hw0 : (w.alloc (.cells #[.int .i64 a0, .int .i64 a1] 23)) = w0 at *
    refine (hbail w0).mono ?_
    rintro e w1 ⟨rfl, hb⟩
    have HB := Aside0.mk (HBW0.out.trans (hb.mono HBW0.out.size))
    clear hb
    go_wp2_with fail
    go_ret
    exact ⟨rfl, HB.out⟩
  have hlz : ¬ (120 : Int) < (h.length : Int) := by omega
  by_cases hl2 : l.length ≤ 120
  rotate_left
  · have hlz2 : (120 : Int) < (l.length : Int) := by omega
    go_wp2_with fail
    generalize hw0 : (w.alloc (.cells #[.int .i64 a0, .int .i64 a1] 23)) = w0 at *
    refine (hbail w0).mono ?_
    rintro e w1 ⟨rfl, hb⟩
    have HB := Aside0.mk (HBW0.out.trans (hb.mono HBW0.out.size))
    clear hb
    go_wp2_with fail
    go_ret
    exact ⟨rfl, HB.out⟩
  have hlz2 : ¬ (120 : Int) < (l.length : Int) := by omega
  go_wp2_with fail
  generalize hw0 : (w.alloc (.cells #[.int .i64 a0, .int .i64 a1] 23)) = w0 at *
  refine (ref_any A c h w0 HR0.out hc (by omega)).mono ?_
  rintro e w1 ⟨vm, rfl, hm, hb⟩
  obtain ⟨Am, cm, rfl, hcm, hCm⟩ := Kd.R_reads hm
  have HM1 := Aside0.mk hCm
  have HB1 := Aside0.mk hb
  have hml := refL_len h
  have HML := Aside0.mk hml
  have HCM := Aside0.mk hcm
  clear hm hCm hb hml hcm
  go_wp2_with fail
  refine (order_any A c h w1 (Kd.C_below HR0.out HB1.out) hc (by omega)).mono ?_
  rintro e w2 ⟨vx, rfl, hx, hb⟩
  obtain ⟨Ax, cx, rfl, hcx, hCx⟩ := Kd.R_reads hx
  have HX2 := Aside0.mk hCx
  have HCX := Aside0.mk hcx
  have HM2 := Aside0.mk (Kd.C_below HM1.out hb)
  have HB2 := Aside0.mk (HB1.out.trans (hb.mono HB1.out.size))
  clear hx hCx hb hcx
  go_wp2_with fail
  refine (refOrder_any Am cm h w2 HM2.out HCM.out (by omega)).mono ?_
  rintro e w3 ⟨vy, rfl, hy, hb⟩
  obtain ⟨Ay, cy, rfl, hcy, hCy⟩ := Kd.R_reads hy
  have HY3 := Aside0.mk hCy
  have HCY := Aside0.mk hcy
  have HX3 := Aside0.mk (Kd.C_below HX2.out hb)
  have HM3 := Aside0.mk (Kd.C_below HM2.out hb)
  have HB3 := Aside0.mk (HB2.out.trans (hb.mono HB2.out.size))
  clear hy hCy hb hcy
  go_wp2_with fail
  refine (pending_any A c h w3 (Kd.C_below HR0.out HB3.out) hc (by omega)).mono ?_
  rintro e w4 ⟨vp, rfl, hp, hb⟩
  obtain ⟨Ap, cp, rfl, hcp, hCp⟩ := Kd.R_reads hp
  have HP4 := Aside0.mk hCp
  have HCP := Aside0.mk hcp
  have HY4 := Aside0.mk (Kd.C_below HY3.out hb)
  have HX4 := Aside0.mk (Kd.C_below HX3.out hb)
  have HM4 := Aside0.mk (Kd.C_below HM3.out hb)
  have HB4 := Aside0.mk (HB3.out.trans (hb.mono HB3.out.size))
  clear hp hCp hb hcp
  go_wp2_with fail
  refine (refPending_any Am cm h w4 HM4.out HCM.out (by omega)).mono ?_
  rintro e w5 ⟨vq, rfl, hq, hb⟩
  obtain ⟨Aq, cq, rfl, hcq, hCq⟩ := Kd.R_reads hq
  have HQ5 := Aside0.mk hCq
  have HCQ := Aside0.mk hcq
  have HP5 := Aside0.mk (Kd.C_below HP4.out hb)
  have HY5 := Aside0.mk (Kd.C_below HY4.out hb)
  have HX5 := Aside0.mk (Kd.C_below HX4.out hb)
  have HM5 := Aside0.mk (Kd.C_below HM4.out hb)
  have HB5 := Aside0.mk (HB4.out.trans (hb.mono HB4.out.size))
  clear hq hCq hb hcq
  have HPL := Aside0.mk (pendL_le h)
  have HOL := Aside0.mk (orderL_le h)
  go_wp2_with fail
  refine (ints_any Ap cp Aq cq (pendL h) w5 HP5.out HCP.out HQ5.out HCQ.out (by have := HPL.out; omega)).mono ?_
  rintro e w6 ⟨rfl, hb⟩
  have HB6 := Aside0.mk (HB5.out.trans (hb.mono HB5.out.size))
  have HY6 := Aside0.mk (Kd.C_below HY5.out hb)
  have HX6 := Aside0.mk (Kd.C_below HX5.out hb)
  have HM6 := Aside0.mk (Kd.C_below HM5.out hb)
  clear hb
  have HT := Aside0.mk (show ∀ W, Below w6.heap.size w6 W → Below w.heap.size w W from fun W hW => HBW0.out.trans (((HB6.out.trans (hW.mono HB6.out.size))).mono HBW0.out.size))
  have HF := Aside0.mk (show ∀ W, Below w6.heap.size w6 W → Kd.C k47 W A h.length h ∧ Kd.C (Kd.int .i64) W A2 l.length l ∧ Kd.C k48 W Am (refL h).length (refL h) ∧ Kd.C (Kd.int .i64) W Ax (orderL h).length (orderL h) ∧ Kd.C (Kd.int .i64) W Ay (orderL h).length (orderL h) from fun W hW => by
    have h6 := HB6.out.trans (hW.mono HB6.out.size)
    exact ⟨Kd.C_below HR0.out h6, Kd.C_below HL0.out h6, Kd.C_below HM6.out hW, Kd.C_below HX6.out hW, Kd.C_below HY6.out hW⟩)
  have hN : w6.cell? ⟨w.heap.size, 0, none⟩ = some (.int .i64 a0) ∧ w6.cell? ⟨w.heap.size, 1, none⟩ = some (.int .i64 a1) := ⟨blk_cell (blk_below HBX0.out HB6.out) 0, blk_cell (blk_below HBX0.out HB6.out) 1⟩
  have H2 := Aside0.mk (fun (W : World) (hW : Below w6.heap.size w6 W) => right_any A c h W (HF.out W hW).1)
  have H3 := Aside0.mk (fun (W : World) (hW : Below w6.heap.size w6 W) => refRight_any Am cm h W (HF.out W hW).2.2.1 HCM.out (by omega))
  have H4 := Aside0.mk (fun (W : World) (hW : Below w6.heap.size w6 W) => ints_any Ax cx Ay cy (orderL h) W (HF.out W hW).2.2.2.1 HCX.out (HF.out W hW).2.2.2.2 HCY.out (by have := HOL.out; omega))
  have H5 := Aside0.mk (fun (W : World) (hW : Below w6.heap.size w6 W) => ahead_any A c h a0 a1 W (HF.out W hW).1)
  have H6 := Aside0.mk (fun (W : World) (hW : Below w6.heap.size w6 W) => refAhead_any Am cm h a0 a1 W (HF.out W hW).2.2.1 HCM.out (by omega))
  have H7 := Aside0.mk (fun (W : World) (hW : Below w6.heap.size w6 W) => respects_any A c h A2 c2 l W (HF.out W hW).1 hc (by omega) (HF.out W hW).2.1 hc2 (by omega))
  have H8 := Aside0.mk (fun (W : World) (hW : Below w6.heap.size w6 W) => refRespects_any Am cm h A2 c2 l W (HF.out W hW).2.2.1 HCM.out (by omega) (HF.out W hW).2.1 hc2 (by omega))
  clear HM1 HM2 HM3 HM4 HM5 HM6 HX2 HX3 HX4 HX5 HX6 HY3 HY4 HY5 HY6 HP4 HP5 HQ5 HB1 HB2 HB3 HB4 HB5 HB6 HR0 HL0 HBX0 HBW0
  generalize rightH h = br at *
  generalize aheadH h a0 a1 = ba at *
  generalize respH h l = bs at *
  generalize orderE h = oe at *
  generalize (orderL h).length = ol at *
  generalize (refL h).length = ml at *
  generalize hbx : w.heap.size = bx at *
  have HBN := Aside0.mk hbx
  clear hbx hw0
  have HU0 := Aside0.mk (below_drew (Below.refl w6.heap.size w6))
  go_wp2_with fail
  go_region_held3 (fun w' => w'.cell? ⟨bx, 0, none⟩ = some (.int .i64 a0) ∧ w'.cell? ⟨bx, 1, none⟩ = some (.int .i64 a1)) (first | assumption | go_keep) (first
    | (go_at_call 6; refine (alive_any _).mono ?_; rintro e v1 ⟨rfl, hb⟩; have HU1 := Aside0.mk (HU0.out.trans (hb.mono HU0.out.size)); have K1 := cells2_below (by assumption) hb; clear hb)
    | (go_at_call 13; refine (H2.out _ HU1.out).mono ?_; rintro e v2 ⟨rfl, hb⟩; have HU2 := Aside0.mk (HU1.out.trans (hb.mono HU1.out.size)); have K2 := cells2_below (by assumption) hb; clear hb)
    | (go_at_call 14; refine (H3.out _ HU2.out).mono ?_; rintro e v3 ⟨rfl, hb⟩; have HU3 := Aside0.mk (HU2.out.trans (hb.mono HU2.out.size)); have K3 := cells2_below (by assumption) hb; clear hb)
    | (go_at_call 10; refine (H4.out _ HU3.out).mono ?_; rintro e v4 ⟨rfl, hb⟩; have HU4 := Aside0.mk (HU3.out.trans (hb.mono HU3.out.size)); have K4 := cells2_below (by assumption) hb; clear hb)
    | (go_at_call 15; refine (H5.out _ HU4.out).mono ?_; rintro e v5 ⟨rfl, hb⟩; have HU5 := Aside0.mk (HU4.out.trans (hb.mono HU4.out.size)); have K5 := cells2_below (by assumption) hb; clear hb)
    | (go_at_call 16; refine (H6.out _ HU5.out).mono ?_; rintro e v6 ⟨rfl, hd⟩; have hb := drawn_below hd; clear hd; have HU6 := Aside0.mk (HU5.out.trans (hb.mono HU5.out.size)); have K6 := cells2_below (by assumption) hb; clear hb)
    | (go_at_call 17; refine (H7.out _ HU6.out).mono ?_; rintro e v7 ⟨rfl, hb⟩; have HU7 := Aside0.mk (HU6.out.trans (hb.mono HU6.out.size)); have K7 := cells2_below (by assumption) hb; clear hb)
    | (go_at_call 18; refine (H8.out _ HU7.out).mono ?_; rintro e v8 ⟨rfl, hb⟩; have HU8 := Aside0.mk (HU7.out.trans (hb.mono HU7.out.size)); have K8 := cells2_below (by assumption) hb; clear hb))
  go_wp2
  go_ret
  exact ⟨rfl, by have := HT.out _ HU8.out; rw [← HBN.out] at this; exact this⟩
end Go.Proofs.Ytncdeappiooccaa.H
