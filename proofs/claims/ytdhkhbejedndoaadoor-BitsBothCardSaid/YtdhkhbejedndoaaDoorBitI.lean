/- BitsBoth: walked. -/
import Derived.Test.YtdhkhbejedndoaaDoorBitS
namespace Go.Proofs.YtdhkhbejedndoaaDoor.H
open Go.RowKit Go.Proofs.YtdhkhbejedndoaaDoor.P Go.Proofs.YtdhkhbejedndoaaDoorW.PrintWords Go.Proofs.YtdhkhbejedndoaaDoorW.PrintLast Go.Proofs.YtdhkhbejedndoaaDoorW.PrintMore
set_option linter.unusedVariables false
set_option linter.unusedSimpArgs false
set_option maxRecDepth 20000 in
set_option maxHeartbeats 16000000 in
theorem bitsBoth_any (size : Int) (A1 : Option Addr) (c1 : Nat) (l1 : List Int) (A2 : Option Addr) (c2 : Nat) (l2 : List Int) (other : Int) (w : World) (hsz : isI64 size) (hc1 : l1.length ≤ c1) (hc2 : l2.length ≤ c2) (hr1 : Kd.C (Kd.int .i64) w A1 l1.length l1) (hr2 : Kd.C (Kd.int .i64) w A2 l2.length l2) (ho : isI64 other) (hT : TabAt 0 Lib.deBruijn64tab w) :
    Calls Tryd.prog 6 #[.int .i64 size, .agg #[.slice A1 l1.length c1, .slice A2 l2.length c2], .int .i64 other] w fun e w' => e = .returned (.bool true) ∧ Below w.heap.size w w' := by
  have hu45 := Tryd.underlying45
  have hb0 : Below w.heap.size w (w.alloc (.cells #[.slice A1 l1.length c1, .slice A2 l2.length c2] 45)) := (Below.refl w.heap.size w).alloc (Nat.le_refl _) _
  have HY := Aside0.mk (blk_new w (.cells #[.slice A1 l1.length c1, .slice A2 l2.length c2] 45))
  have HT := Aside0.mk (tab_below hT hb0)
  have HC1 := Aside0.mk (Kd.C_below hr1 hb0)
  have HC2 := Aside0.mk (Kd.C_below hr2 hb0)
  have HB := Aside0.mk hb0
  have HL1 := Aside0.mk hr1.2.1
  have HL2 := Aside0.mk hr2.2.1
  have HCC1 := Aside0.mk hc1
  have HCC2 := Aside0.mk hc2
  obtain ⟨r1, hr10⟩ : ∃ r, r = ofM size l1 := ⟨_, rfl⟩
  obtain ⟨r2, hr20⟩ : ∃ r, r = ofM size l2 := ⟨_, rfl⟩
  have HR1 := Aside0.mk hr10
  have HR2 := Aside0.mk hr20
  clear hsz hr1 hr2 hT hr10 hr20 hb0 hc1 hc2
  have y0 := blk_cell HY.out 0
  have y1 := blk_cell HY.out 1
  go_enter Tryd.func6, Tryd.ntmps6
  by_cases h1 : (200 : Int) < (l1.length : Int)
  · go_wp2_with fail
    generalize (w.alloc (.cells #[.slice A1 l1.length c1, .slice A2 l2.length c2] 45)) = w0 at *
    go_wp2_with fail
    refine (alive_any _ HT.out).mono ?_
    rintro e w1 ⟨rfl, hb⟩
    replace HB := Aside0.mk (HB.out.trans (hb.mono HB.out.size))
    replace HT := Aside0.mk (tab_below HT.out hb)
    replace HY := Aside0.mk (blk_below HY.out hb)
    replace HC1 := Aside0.mk (Kd.C_below HC1.out hb)
    replace HC2 := Aside0.mk (Kd.C_below HC2.out hb)
    clear hb
    go_wp2_with fail
    go_ret
    exact ⟨rfl, HB.out⟩
  by_cases h2 : (200 : Int) < (l2.length : Int)
  · go_wp2_with fail
    generalize (w.alloc (.cells #[.slice A1 l1.length c1, .slice A2 l2.length c2] 45)) = w0 at *
    go_wp2_with fail
    refine (alive_any _ HT.out).mono ?_
    rintro e w1 ⟨rfl, hb⟩
    replace HB := Aside0.mk (HB.out.trans (hb.mono HB.out.size))
    replace HT := Aside0.mk (tab_below HT.out hb)
    replace HY := Aside0.mk (blk_below HY.out hb)
    replace HC1 := Aside0.mk (Kd.C_below HC1.out hb)
    replace HC2 := Aside0.mk (Kd.C_below HC2.out hb)
    clear hb
    go_wp2_with fail
    go_ret
    exact ⟨rfl, HB.out⟩
  go_wp2_with fail
  generalize (w.alloc (.cells #[.slice A1 l1.length c1, .slice A2 l2.length c2] 45)) = w0 at *
  have hof := Of_int size A1 c1 l1 w0 HC1.out HL1.out
  rw [← HR1.out] at hof
  go_wp2_with fail
  refine (hof).mono ?_
  rintro e w1 ⟨h, hb⟩
  replace HB := Aside0.mk (HB.out.trans (hb.mono HB.out.size))
  replace HT := Aside0.mk (tab_below HT.out hb)
  replace HY := Aside0.mk (blk_below HY.out hb)
  replace HC1 := Aside0.mk (Kd.C_below HC1.out hb)
  replace HC2 := Aside0.mk (Kd.C_below HC2.out hb)
  clear hof hb y0 y1
  have y0 := blk_cell HY.out 0
  have y1 := blk_cell HY.out 1
  have hof := Of_int size A2 c2 l2 w1 HC2.out HL2.out
  rw [← HR2.out] at hof
  rcases h with ⟨h, rfl⟩ | ⟨m, gs, h, rfl, hs⟩
  · clear h
    go_wp2_with fail
    refine (hof).mono ?_
    rintro e w2 ⟨h, hb⟩
    replace HB := Aside0.mk (HB.out.trans (hb.mono HB.out.size))
    replace HT := Aside0.mk (tab_below HT.out hb)
    replace HY := Aside0.mk (blk_below HY.out hb)
    replace HC1 := Aside0.mk (Kd.C_below HC1.out hb)
    replace HC2 := Aside0.mk (Kd.C_below HC2.out hb)
    clear hof hb y0 y1
    rcases h with ⟨h, rfl⟩ | ⟨n, gt, h, rfl, hs⟩
    · clear h
      go_wp2_with fail
      refine (alive_any _ HT.out).mono ?_
      rintro e w3 ⟨rfl, hb⟩
      replace HB := Aside0.mk (HB.out.trans (hb.mono HB.out.size))
      replace HT := Aside0.mk (tab_below HT.out hb)
      replace HY := Aside0.mk (blk_below HY.out hb)
      replace HC1 := Aside0.mk (Kd.C_below HC1.out hb)
      replace HC2 := Aside0.mk (Kd.C_below HC2.out hb)
      clear hb
      go_wp2_with fail
      go_ret
      exact ⟨rfl, HB.out⟩
    · clear h hs
      go_wp2_with fail
      refine (alive_any _ HT.out).mono ?_
      rintro e w3 ⟨rfl, hb⟩
      replace HB := Aside0.mk (HB.out.trans (hb.mono HB.out.size))
      replace HT := Aside0.mk (tab_below HT.out hb)
      replace HY := Aside0.mk (blk_below HY.out hb)
      replace HC1 := Aside0.mk (Kd.C_below HC1.out hb)
      replace HC2 := Aside0.mk (Kd.C_below HC2.out hb)
      clear hb
      go_wp2_with fail
      go_ret
      exact ⟨rfl, HB.out⟩
  have HRM := Aside0.mk (HR1.out.symm.trans h)
  have HS := Aside0.mk hs.to
  clear h hs
  go_wp2_with fail
  refine (hof).mono ?_
  rintro e w2 ⟨h, hb⟩
  replace HB := Aside0.mk (HB.out.trans (hb.mono HB.out.size))
  replace HT := Aside0.mk (tab_below HT.out hb)
  replace HY := Aside0.mk (blk_below HY.out hb)
  replace HC1 := Aside0.mk (Kd.C_below HC1.out hb)
  replace HC2 := Aside0.mk (Kd.C_below HC2.out hb)
  replace HS := Aside0.mk (HS.out.below hb)
  clear hof hb y0 y1
  rcases h with ⟨h, rfl⟩ | ⟨n, gt, h, rfl, hs⟩
  · clear h
    go_wp2_with fail
    refine (alive_any _ HT.out).mono ?_
    rintro e w3 ⟨rfl, hb⟩
    replace HB := Aside0.mk (HB.out.trans (hb.mono HB.out.size))
    replace HT := Aside0.mk (tab_below HT.out hb)
    replace HY := Aside0.mk (blk_below HY.out hb)
    replace HC1 := Aside0.mk (Kd.C_below HC1.out hb)
    replace HC2 := Aside0.mk (Kd.C_below HC2.out hb)
    replace HS := Aside0.mk (HS.out.below hb)
    clear hb
    go_wp2_with fail
    go_ret
    exact ⟨rfl, HB.out⟩
  have HRN := Aside0.mk (HR2.out.symm.trans h)
  have HT2 := Aside0.mk hs.to
  clear h hs
  have hm1 := ofM_len HRM.out
  have hn1 := ofM_len HRN.out
  have HM := Aside0.mk hm1.2
  have HNL := Aside0.mk (show n.length = m.length from by omega)
  have HNM := Aside0.mk hn1.2
  have HSZ := Aside0.mk hm1.1
  clear hm1 hn1 h1 h2
  clear ho
  have y0 := blk_cell HY.out 0
  have y1 := blk_cell HY.out 1
  go_wp2_with fail
  refine (ref_of size l1 m HRM.out HL1.out _ _ _ HC1.out HCC1.out).mono ?_
  rintro e w3 ⟨Am, cm, rfl, hc, hC, hb⟩
  replace HB := Aside0.mk (HB.out.trans (hb.mono HB.out.size))
  replace HT := Aside0.mk (tab_below HT.out hb)
  replace HY := Aside0.mk (blk_below HY.out hb)
  replace HC1 := Aside0.mk (Kd.C_below HC1.out hb)
  replace HC2 := Aside0.mk (Kd.C_below HC2.out hb)
  replace HS := Aside0.mk (HS.out.below hb)
  replace HT2 := Aside0.mk (HT2.out.below hb)
  have HDm := Aside0.mk (hC)
  have HDCm := Aside0.mk (hc)
  clear hc hC hb
  clear y0 y1
  have y0 := blk_cell HY.out 0
  have y1 := blk_cell HY.out 1
  go_wp2_with fail
  refine (ref_of size l2 n HRN.out HL2.out _ _ _ HC2.out HCC2.out).mono ?_
  rintro e w4 ⟨An, cn, rfl, hc, hC, hb⟩
  replace HB := Aside0.mk (HB.out.trans (hb.mono HB.out.size))
  replace HT := Aside0.mk (tab_below HT.out hb)
  replace HY := Aside0.mk (blk_below HY.out hb)
  replace HC1 := Aside0.mk (Kd.C_below HC1.out hb)
  replace HC2 := Aside0.mk (Kd.C_below HC2.out hb)
  replace HS := Aside0.mk (HS.out.below hb)
  replace HT2 := Aside0.mk (HT2.out.below hb)
  replace HDm := Aside0.mk (Kd.C_below HDm.out hb)
  have HDn := Aside0.mk (hC)
  have HDCn := Aside0.mk (hc)
  clear hc hC hb
  clear y0 y1 HY HC1 HC2
  go_wp2_with fail
  refine (and_ok m n _ _ _ HS.out HT2.out HNL.out HM.out).mono ?_
  rintro e w5 ⟨ga, rfl, hs, hb⟩
  replace HB := Aside0.mk (HB.out.trans (hb.mono HB.out.size))
  replace HT := Aside0.mk (tab_below HT.out hb)
  replace HS := Aside0.mk (HS.out.below hb)
  replace HT2 := Aside0.mk (HT2.out.below hb)
  replace HDm := Aside0.mk (Kd.C_below HDm.out hb)
  replace HDn := Aside0.mk (Kd.C_below HDn.out hb)
  have HSa := Aside0.mk (hs)
  clear hs hb
  go_wp2_with fail
  refine (or_ok m n _ _ _ HS.out HT2.out HNL.out HM.out).mono ?_
  rintro e w6 ⟨gb, rfl, hs, hb⟩
  replace HB := Aside0.mk (HB.out.trans (hb.mono HB.out.size))
  replace HT := Aside0.mk (tab_below HT.out hb)
  replace HS := Aside0.mk (HS.out.below hb)
  replace HT2 := Aside0.mk (HT2.out.below hb)
  replace HDm := Aside0.mk (Kd.C_below HDm.out hb)
  replace HDn := Aside0.mk (Kd.C_below HDn.out hb)
  replace HSa := Aside0.mk (HSa.out.below hb)
  have HSb := Aside0.mk (hs)
  clear hs hb
  go_wp2_with fail
  refine (minus_ok m n _ _ _ HS.out HT2.out HNL.out HM.out).mono ?_
  rintro e w7 ⟨gc, rfl, hs, hb⟩
  replace HB := Aside0.mk (HB.out.trans (hb.mono HB.out.size))
  replace HT := Aside0.mk (tab_below HT.out hb)
  replace HS := Aside0.mk (HS.out.below hb)
  replace HT2 := Aside0.mk (HT2.out.below hb)
  replace HDm := Aside0.mk (Kd.C_below HDm.out hb)
  replace HDn := Aside0.mk (Kd.C_below HDn.out hb)
  replace HSa := Aside0.mk (HSa.out.below hb)
  replace HSb := Aside0.mk (HSb.out.below hb)
  have HSc := Aside0.mk (hs)
  clear hs hb
  have HWA := Aside0.mk (show withM m 0 size = some (setR m 0 m.length) from by rw [← HSZ.out]; exact with_all m)
  go_wp2_with fail
  refine (ref_with m _ 0 size HWA.out HM.out _ _ _ HDm.out HDCm.out).mono ?_
  rintro e w8 ⟨Al, cl, rfl, hc, hC, hb⟩
  replace HB := Aside0.mk (HB.out.trans (hb.mono HB.out.size))
  replace HT := Aside0.mk (tab_below HT.out hb)
  replace HS := Aside0.mk (HS.out.below hb)
  replace HT2 := Aside0.mk (HT2.out.below hb)
  replace HDm := Aside0.mk (Kd.C_below HDm.out hb)
  replace HDn := Aside0.mk (Kd.C_below HDn.out hb)
  replace HSa := Aside0.mk (HSa.out.below hb)
  replace HSb := Aside0.mk (HSb.out.below hb)
  replace HSc := Aside0.mk (HSc.out.below hb)
  have HDl := Aside0.mk (hC)
  have HDCl := Aside0.mk (hc)
  clear hc hC hb
  go_wp2_with fail
  refine (ref_both 1 _ bothF_one (by decide) m n HNL.out HM.out _ _ _ _ _ HDm.out HDCm.out HDn.out HDCn.out).mono ?_
  rintro e w9 ⟨Ax, cx, rfl, hc, hC, hb⟩
  replace HB := Aside0.mk (HB.out.trans (hb.mono HB.out.size))
  replace HT := Aside0.mk (tab_below HT.out hb)
  replace HS := Aside0.mk (HS.out.below hb)
  replace HT2 := Aside0.mk (HT2.out.below hb)
  replace HDm := Aside0.mk (Kd.C_below HDm.out hb)
  replace HDn := Aside0.mk (Kd.C_below HDn.out hb)
  replace HSa := Aside0.mk (HSa.out.below hb)
  replace HSb := Aside0.mk (HSb.out.below hb)
  replace HSc := Aside0.mk (HSc.out.below hb)
  replace HDl := Aside0.mk (Kd.C_below HDl.out hb)
  have HDx := Aside0.mk (hC)
  have HDCx := Aside0.mk (hc)
  clear hc hC hb
  go_wp2_with fail
  refine (same_any _ _ _ _ _ HSa.out (by first | exact HM.out | (simp only [bothM_len, notM_len]; exact HM.out) | (simp only [bothM_len, notM_len]; exact HNM.out)) HT.out HDx.out HDCx.out).mono ?_
  rintro e w10 ⟨rfl, hb⟩
  replace HB := Aside0.mk (HB.out.trans (hb.mono HB.out.size))
  replace HT := Aside0.mk (tab_below HT.out hb)
  replace HS := Aside0.mk (HS.out.below hb)
  replace HT2 := Aside0.mk (HT2.out.below hb)
  replace HDm := Aside0.mk (Kd.C_below HDm.out hb)
  replace HDn := Aside0.mk (Kd.C_below HDn.out hb)
  replace HSa := Aside0.mk (HSa.out.below hb)
  replace HSb := Aside0.mk (HSb.out.below hb)
  replace HSc := Aside0.mk (HSc.out.below hb)
  replace HDl := Aside0.mk (Kd.C_below HDl.out hb)
  replace HDx := Aside0.mk (Kd.C_below HDx.out hb)
  clear hb
  clear HDx HDCx HSa
  go_wp2_with fail
  refine (ref_both 2 _ bothF_two (by decide) m n HNL.out HM.out _ _ _ _ _ HDm.out HDCm.out HDn.out HDCn.out).mono ?_
  rintro e w11 ⟨Ax, cx, rfl, hc, hC, hb⟩
  replace HB := Aside0.mk (HB.out.trans (hb.mono HB.out.size))
  replace HT := Aside0.mk (tab_below HT.out hb)
  replace HS := Aside0.mk (HS.out.below hb)
  replace HT2 := Aside0.mk (HT2.out.below hb)
  replace HDm := Aside0.mk (Kd.C_below HDm.out hb)
  replace HDn := Aside0.mk (Kd.C_below HDn.out hb)
  replace HSb := Aside0.mk (HSb.out.below hb)
  replace HSc := Aside0.mk (HSc.out.below hb)
  replace HDl := Aside0.mk (Kd.C_below HDl.out hb)
  have HDx := Aside0.mk (hC)
  have HDCx := Aside0.mk (hc)
  clear hc hC hb
  go_wp2_with fail
  refine (same_any _ _ _ _ _ HSb.out (by first | exact HM.out | (simp only [bothM_len, notM_len]; exact HM.out) | (simp only [bothM_len, notM_len]; exact HNM.out)) HT.out HDx.out HDCx.out).mono ?_
  rintro e w12 ⟨rfl, hb⟩
  replace HB := Aside0.mk (HB.out.trans (hb.mono HB.out.size))
  replace HT := Aside0.mk (tab_below HT.out hb)
  replace HS := Aside0.mk (HS.out.below hb)
  replace HT2 := Aside0.mk (HT2.out.below hb)
  replace HDm := Aside0.mk (Kd.C_below HDm.out hb)
  replace HDn := Aside0.mk (Kd.C_below HDn.out hb)
  replace HSb := Aside0.mk (HSb.out.below hb)
  replace HSc := Aside0.mk (HSc.out.below hb)
  replace HDl := Aside0.mk (Kd.C_below HDl.out hb)
  replace HDx := Aside0.mk (Kd.C_below HDx.out hb)
  clear hb
  clear HDx HDCx HSb
  go_wp2_with fail
  refine (ref_both 3 _ bothF_three (by decide) m n HNL.out HM.out _ _ _ _ _ HDm.out HDCm.out HDn.out HDCn.out).mono ?_
  rintro e w13 ⟨Ax, cx, rfl, hc, hC, hb⟩
  replace HB := Aside0.mk (HB.out.trans (hb.mono HB.out.size))
  replace HT := Aside0.mk (tab_below HT.out hb)
  replace HS := Aside0.mk (HS.out.below hb)
  replace HT2 := Aside0.mk (HT2.out.below hb)
  replace HDm := Aside0.mk (Kd.C_below HDm.out hb)
  replace HDn := Aside0.mk (Kd.C_below HDn.out hb)
  replace HSc := Aside0.mk (HSc.out.below hb)
  replace HDl := Aside0.mk (Kd.C_below HDl.out hb)
  have HDx := Aside0.mk (hC)
  have HDCx := Aside0.mk (hc)
  clear hc hC hb
  go_wp2_with fail
  refine (same_any _ _ _ _ _ HSc.out (by first | exact HM.out | (simp only [bothM_len, notM_len]; exact HM.out) | (simp only [bothM_len, notM_len]; exact HNM.out)) HT.out HDx.out HDCx.out).mono ?_
  rintro e w14 ⟨rfl, hb⟩
  replace HB := Aside0.mk (HB.out.trans (hb.mono HB.out.size))
  replace HT := Aside0.mk (tab_below HT.out hb)
  replace HS := Aside0.mk (HS.out.below hb)
  replace HT2 := Aside0.mk (HT2.out.below hb)
  replace HDm := Aside0.mk (Kd.C_below HDm.out hb)
  replace HDn := Aside0.mk (Kd.C_below HDn.out hb)
  replace HSc := Aside0.mk (HSc.out.below hb)
  replace HDl := Aside0.mk (Kd.C_below HDl.out hb)
  replace HDx := Aside0.mk (Kd.C_below HDx.out hb)
  clear hb
  clear HDx HDCx HSc
  go_wp2_with fail
  refine (not_ok _ _ _ HS.out HM.out).mono ?_
  rintro e w15 ⟨gz, rfl, hs, hb⟩
  replace HB := Aside0.mk (HB.out.trans (hb.mono HB.out.size))
  replace HT := Aside0.mk (tab_below HT.out hb)
  replace HS := Aside0.mk (HS.out.below hb)
  replace HT2 := Aside0.mk (HT2.out.below hb)
  replace HDm := Aside0.mk (Kd.C_below HDm.out hb)
  replace HDn := Aside0.mk (Kd.C_below HDn.out hb)
  replace HDl := Aside0.mk (Kd.C_below HDl.out hb)
  have HSz := Aside0.mk (hs)
  clear hs hb
  have hbo := ref_both 3 _ bothF_three (by decide) (setR m 0 m.length) m (by rw [setR_len]) (by rw [setR_len]; exact HM.out) _ _ _ _ _ HDl.out HDCl.out HDm.out HDCm.out
  rw [not_all] at hbo
  go_wp2_with fail
  refine (hbo).mono ?_
  rintro e w16 ⟨Ax, cx, rfl, hc, hC, hb⟩
  replace HB := Aside0.mk (HB.out.trans (hb.mono HB.out.size))
  replace HT := Aside0.mk (tab_below HT.out hb)
  replace HS := Aside0.mk (HS.out.below hb)
  replace HT2 := Aside0.mk (HT2.out.below hb)
  replace HDm := Aside0.mk (Kd.C_below HDm.out hb)
  replace HDn := Aside0.mk (Kd.C_below HDn.out hb)
  replace HDl := Aside0.mk (Kd.C_below HDl.out hb)
  replace HSz := Aside0.mk (HSz.out.below hb)
  have HDx := Aside0.mk (hC)
  have HDCx := Aside0.mk (hc)
  clear hc hC hb
  clear hbo
  go_wp2_with fail
  refine (same_any _ _ _ _ _ HSz.out (by first | exact HM.out | (simp only [bothM_len, notM_len]; exact HM.out) | (simp only [bothM_len, notM_len]; exact HNM.out)) HT.out HDx.out HDCx.out).mono ?_
  rintro e w17 ⟨rfl, hb⟩
  replace HB := Aside0.mk (HB.out.trans (hb.mono HB.out.size))
  replace HT := Aside0.mk (tab_below HT.out hb)
  replace HS := Aside0.mk (HS.out.below hb)
  replace HT2 := Aside0.mk (HT2.out.below hb)
  replace HDm := Aside0.mk (Kd.C_below HDm.out hb)
  replace HDn := Aside0.mk (Kd.C_below HDn.out hb)
  replace HDl := Aside0.mk (Kd.C_below HDl.out hb)
  replace HSz := Aside0.mk (HSz.out.below hb)
  replace HDx := Aside0.mk (Kd.C_below HDx.out hb)
  clear hb
  clear HDx HDCx HSz HDl HDCl
  go_wp2_with fail
  refine (same_any _ _ _ _ _ HS.out HM.out HT.out HDm.out HDCm.out).mono ?_
  rintro e w18 ⟨rfl, hb⟩
  replace HB := Aside0.mk (HB.out.trans (hb.mono HB.out.size))
  replace HT := Aside0.mk (tab_below HT.out hb)
  replace HS := Aside0.mk (HS.out.below hb)
  replace HT2 := Aside0.mk (HT2.out.below hb)
  replace HDm := Aside0.mk (Kd.C_below HDm.out hb)
  replace HDn := Aside0.mk (Kd.C_below HDn.out hb)
  clear hb
  go_wp2_with fail
  refine (same_any _ _ _ _ _ HT2.out HNM.out HT.out HDn.out HDCn.out).mono ?_
  rintro e w19 ⟨rfl, hb⟩
  replace HB := Aside0.mk (HB.out.trans (hb.mono HB.out.size))
  replace HT := Aside0.mk (tab_below HT.out hb)
  replace HS := Aside0.mk (HS.out.below hb)
  replace HT2 := Aside0.mk (HT2.out.below hb)
  replace HDm := Aside0.mk (Kd.C_below HDm.out hb)
  replace HDn := Aside0.mk (Kd.C_below HDn.out hb)
  clear hb
  clear HDm HDCm HDn HDCn
  by_cases ho : other < 0 ∨ 1024 < other
  · have hnn := new_no other w19 ho
    clear ho
    go_wp2_with fail
    refine hnn.mono ?_
    rintro e w20 ⟨rfl, rfl⟩
    clear hnn
    have han := And_any m [] _ none w20 HS.out (.inl ⟨rfl, rfl⟩) HM.out
    obtain ⟨rr, hrr⟩ : ∃ rr, rr = (if ([] : List Bool).length = m.length then some (bothM (· && ·) m []) else none) := ⟨_, rfl⟩
    rw [← hrr] at han
    clear hrr
    go_wp2_with fail
    refine (han).mono ?_
    rintro e w21 ⟨h, hb⟩
    replace HB := Aside0.mk (HB.out.trans (hb.mono HB.out.size))
    replace HT := Aside0.mk (tab_below HT.out hb)
    replace HS := Aside0.mk (HS.out.below hb)
    replace HT2 := Aside0.mk (HT2.out.below hb)
    clear hb han
    rcases h with ⟨_, rfl⟩ | ⟨mm, gg, _, rfl, _⟩
    · skip
      go_wp2_with fail
      refine (alive_any _ HT.out).mono ?_
      rintro e w22 ⟨rfl, hb⟩
      replace HB := Aside0.mk (HB.out.trans (hb.mono HB.out.size))
      replace HT := Aside0.mk (tab_below HT.out hb)
      replace HS := Aside0.mk (HS.out.below hb)
      replace HT2 := Aside0.mk (HT2.out.below hb)
      clear hb
      go_wp2_with fail
      go_ret
      exact ⟨rfl, HB.out⟩
    · skip
      go_wp2_with fail
      refine (alive_any _ HT.out).mono ?_
      rintro e w22 ⟨rfl, hb⟩
      replace HB := Aside0.mk (HB.out.trans (hb.mono HB.out.size))
      replace HT := Aside0.mk (tab_below HT.out hb)
      replace HS := Aside0.mk (HS.out.below hb)
      replace HT2 := Aside0.mk (HT2.out.below hb)
      clear hb
      go_wp2_with fail
      go_ret
      exact ⟨rfl, HB.out⟩
  · obtain ⟨k, rfl⟩ : ∃ k : Nat, other = (k : Int) := ⟨other.toNat, by omega⟩
    have hk : k ≤ 1024 := by omega
    clear ho
    go_wp2_with fail
    refine (new_yes k _ hk).mono ?_
    rintro e w20 ⟨⟨gu, rfl, hs⟩, hb⟩
    replace HB := Aside0.mk (HB.out.trans (hb.mono HB.out.size))
    replace HT := Aside0.mk (tab_below HT.out hb)
    replace HS := Aside0.mk (HS.out.below hb)
    replace HT2 := Aside0.mk (HT2.out.below hb)
    have HSu := Aside0.mk hs.to
    clear hs hb
    have han := And_any m _ _ _ w20 HS.out HSu.out HM.out
    by_cases hke : (k : Int) = size
    · rw [if_pos (by rw [List.length_replicate]; have := HSZ.out; omega)] at han
      go_wp2_with fail
      refine (han).mono ?_
      rintro e w21 ⟨h, hb⟩
      replace HB := Aside0.mk (HB.out.trans (hb.mono HB.out.size))
      replace HT := Aside0.mk (tab_below HT.out hb)
      replace HS := Aside0.mk (HS.out.below hb)
      replace HT2 := Aside0.mk (HT2.out.below hb)
      replace HSu := Aside0.mk (HSu.out.below hb)
      clear hb han
      rcases h with ⟨h, _⟩ | ⟨mm, gg, _, rfl, _⟩
      · cases h
      go_wp2_with fail
      refine (alive_any _ HT.out).mono ?_
      rintro e w22 ⟨rfl, hb⟩
      replace HB := Aside0.mk (HB.out.trans (hb.mono HB.out.size))
      replace HT := Aside0.mk (tab_below HT.out hb)
      replace HS := Aside0.mk (HS.out.below hb)
      replace HT2 := Aside0.mk (HT2.out.below hb)
      replace HSu := Aside0.mk (HSu.out.below hb)
      clear hb
      go_wp2_with fail
      go_ret
      exact ⟨rfl, HB.out⟩
    · rw [if_neg (by rw [List.length_replicate]; have := HSZ.out; omega)] at han
      go_wp2_with fail
      refine (han).mono ?_
      rintro e w21 ⟨h, hb⟩
      replace HB := Aside0.mk (HB.out.trans (hb.mono HB.out.size))
      replace HT := Aside0.mk (tab_below HT.out hb)
      replace HS := Aside0.mk (HS.out.below hb)
      replace HT2 := Aside0.mk (HT2.out.below hb)
      replace HSu := Aside0.mk (HSu.out.below hb)
      clear hb han
      rcases h with ⟨_, rfl⟩ | ⟨mm, gg, h, _⟩
      rotate_left
      · cases h
      go_wp2_with fail
      refine (alive_any _ HT.out).mono ?_
      rintro e w22 ⟨rfl, hb⟩
      replace HB := Aside0.mk (HB.out.trans (hb.mono HB.out.size))
      replace HT := Aside0.mk (tab_below HT.out hb)
      replace HS := Aside0.mk (HS.out.below hb)
      replace HT2 := Aside0.mk (HT2.out.below hb)
      replace HSu := Aside0.mk (HSu.out.below hb)
      clear hb
      go_wp2_with fail
      go_ret
      exact ⟨by show Ending.returned (.bool ((k : Int) != size)) = _; rw [bne_iff_ne.2 hke], HB.out⟩
end Go.Proofs.YtdhkhbejedndoaaDoor.H
