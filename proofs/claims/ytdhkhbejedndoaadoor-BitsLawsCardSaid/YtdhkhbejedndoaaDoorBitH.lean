/- BitsLaws: walked. -/
import Derived.Test.YtdhkhbejedndoaaDoorBitS
namespace Go.Proofs.YtdhkhbejedndoaaDoor.H
open Go.RowKit Go.Proofs.YtdhkhbejedndoaaDoor.P Go.Proofs.YtdhkhbejedndoaaDoorW.PrintWords Go.Proofs.YtdhkhbejedndoaaDoorW.PrintLast Go.Proofs.YtdhkhbejedndoaaDoorW.PrintMore
set_option linter.unusedVariables false
set_option linter.unusedSimpArgs false
set_option maxRecDepth 20000 in
set_option maxHeartbeats 16000000 in
theorem bitsLaws_any (size : Int) (A1 : Option Addr) (c1 : Nat) (l1 : List Int) (A2 : Option Addr) (c2 : Nat) (l2 : List Int) (w : World) (hsz : isI64 size) (hc1 : l1.length ≤ c1) (hc2 : l2.length ≤ c2) (hr1 : Kd.C (Kd.int .i64) w A1 l1.length l1) (hr2 : Kd.C (Kd.int .i64) w A2 l2.length l2) (hT : TabAt 0 Lib.deBruijn64tab w) :
    Calls Tryd.prog 7 #[.int .i64 size, .agg #[.slice A1 l1.length c1, .slice A2 l2.length c2]] w fun e w' => e = .returned (.bool true) ∧ Below w.heap.size w w' := by
  have hu45 := Tryd.underlying45
  have hb0 : Below w.heap.size w (w.alloc (.cells #[.slice A1 l1.length c1, .slice A2 l2.length c2] 45)) := (Below.refl w.heap.size w).alloc (Nat.le_refl _) _
  have HY := Aside0.mk (blk_new w (.cells #[.slice A1 l1.length c1, .slice A2 l2.length c2] 45))
  have HT := Aside0.mk (tab_below hT hb0)
  have HC1 := Aside0.mk (Kd.C_below hr1 hb0)
  have HC2 := Aside0.mk (Kd.C_below hr2 hb0)
  have HB := Aside0.mk hb0
  have HL1 := Aside0.mk hr1.2.1
  have HL2 := Aside0.mk hr2.2.1
  have HCC1 := Aside0.mk hc1
  have HCC2 := Aside0.mk hc2
  obtain ⟨r1, hr10⟩ : ∃ r, r = ofM size l1 := ⟨_, rfl⟩
  obtain ⟨r2, hr20⟩ : ∃ r, r = ofM size l2 := ⟨_, rfl⟩
  have HR1 := Aside0.mk hr10
  have HR2 := Aside0.mk hr20
  clear hsz hr1 hr2 hT hr10 hr20 hb0 hc1 hc2
  have y0 := blk_cell HY.out 0
  have y1 := blk_cell HY.out 1
  go_enter Tryd.func7, Tryd.ntmps7
  by_cases h1 : (200 : Int) < (l1.length : Int)
  · go_wp2_with fail
    generalize (w.alloc (.cells #[.slice A1 l1.length c1, .slice A2 l2.length c2] 45)) = w0 at *
    go_wp2_with fail
    refine (alive_any _ HT.out).mono ?_
    rintro e w1 ⟨rfl, hb⟩
    replace HB := Aside0.mk (HB.out.trans (hb.mono HB.out.size))
    replace HT := Aside0.mk (tab_below HT.out hb)
    replace HY := Aside0.mk (blk_below HY.out hb)
    replace HC1 := Aside0.mk (Kd.C_below HC1.out hb)
    replace HC2 := Aside0.mk (Kd.C_below HC2.out hb)
    clear hb
    go_wp2_with fail
    go_ret
    exact ⟨rfl, HB.out⟩
  by_cases h2 : (200 : Int) < (l2.length : Int)
  · go_wp2_with fail
    generalize (w.alloc (.cells #[.slice A1 l1.length c1, .slice A2 l2.length c2] 45)) = w0 at *
    go_wp2_with fail
    refine (alive_any _ HT.out).mono ?_
    rintro e w1 ⟨rfl, hb⟩
    replace HB := Aside0.mk (HB.out.trans (hb.mono HB.out.size))
    replace HT := Aside0.mk (tab_below HT.out hb)
    replace HY := Aside0.mk (blk_below HY.out hb)
    replace HC1 := Aside0.mk (Kd.C_below HC1.out hb)
    replace HC2 := Aside0.mk (Kd.C_below HC2.out hb)
    clear hb
    go_wp2_with fail
    go_ret
    exact ⟨rfl, HB.out⟩
  go_wp2_with fail
  generalize (w.alloc (.cells #[.slice A1 l1.length c1, .slice A2 l2.length c2] 45)) = w0 at *
  have hof := Of_int size A1 c1 l1 w0 HC1.out HL1.out
  rw [← HR1.out] at hof
  go_wp2_with fail
  refine (hof).mono ?_
  rintro e w1 ⟨h, hb⟩
  replace HB := Aside0.mk (HB.out.trans (hb.mono HB.out.size))
  replace HT := Aside0.mk (tab_below HT.out hb)
  replace HY := Aside0.mk (blk_below HY.out hb)
  replace HC1 := Aside0.mk (Kd.C_below HC1.out hb)
  replace HC2 := Aside0.mk (Kd.C_below HC2.out hb)
  clear hof hb y0 y1
  have y0 := blk_cell HY.out 0
  have y1 := blk_cell HY.out 1
  have hof := Of_int size A2 c2 l2 w1 HC2.out HL2.out
  rw [← HR2.out] at hof
  rcases h with ⟨h, rfl⟩ | ⟨m, gs, h, rfl, hs⟩
  · clear h
    go_wp2_with fail
    refine (hof).mono ?_
    rintro e w2 ⟨h, hb⟩
    replace HB := Aside0.mk (HB.out.trans (hb.mono HB.out.size))
    replace HT := Aside0.mk (tab_below HT.out hb)
    replace HY := Aside0.mk (blk_below HY.out hb)
    replace HC1 := Aside0.mk (Kd.C_below HC1.out hb)
    replace HC2 := Aside0.mk (Kd.C_below HC2.out hb)
    clear hof hb y0 y1
    rcases h with ⟨h, rfl⟩ | ⟨n, gt, h, rfl, hs⟩
    · clear h
      go_wp2_with fail
      refine (alive_any _ HT.out).mono ?_
      rintro e w3 ⟨rfl, hb⟩
      replace HB := Aside0.mk (HB.out.trans (hb.mono HB.out.size))
      replace HT := Aside0.mk (tab_below HT.out hb)
      replace HY := Aside0.mk (blk_below HY.out hb)
      replace HC1 := Aside0.mk (Kd.C_below HC1.out hb)
      replace HC2 := Aside0.mk (Kd.C_below HC2.out hb)
      clear hb
      go_wp2_with fail
      go_ret
      exact ⟨rfl, HB.out⟩
    · clear h hs
      go_wp2_with fail
      refine (alive_any _ HT.out).mono ?_
      rintro e w3 ⟨rfl, hb⟩
      replace HB := Aside0.mk (HB.out.trans (hb.mono HB.out.size))
      replace HT := Aside0.mk (tab_below HT.out hb)
      replace HY := Aside0.mk (blk_below HY.out hb)
      replace HC1 := Aside0.mk (Kd.C_below HC1.out hb)
      replace HC2 := Aside0.mk (Kd.C_below HC2.out hb)
      clear hb
      go_wp2_with fail
      go_ret
      exact ⟨rfl, HB.out⟩
  have HRM := Aside0.mk (HR1.out.symm.trans h)
  have HS := Aside0.mk hs.to
  clear h hs
  go_wp2_with fail
  refine (hof).mono ?_
  rintro e w2 ⟨h, hb⟩
  replace HB := Aside0.mk (HB.out.trans (hb.mono HB.out.size))
  replace HT := Aside0.mk (tab_below HT.out hb)
  replace HY := Aside0.mk (blk_below HY.out hb)
  replace HC1 := Aside0.mk (Kd.C_below HC1.out hb)
  replace HC2 := Aside0.mk (Kd.C_below HC2.out hb)
  replace HS := Aside0.mk (HS.out.below hb)
  clear hof hb y0 y1
  rcases h with ⟨h, rfl⟩ | ⟨n, gt, h, rfl, hs⟩
  · clear h
    go_wp2_with fail
    refine (alive_any _ HT.out).mono ?_
    rintro e w3 ⟨rfl, hb⟩
    replace HB := Aside0.mk (HB.out.trans (hb.mono HB.out.size))
    replace HT := Aside0.mk (tab_below HT.out hb)
    replace HY := Aside0.mk (blk_below HY.out hb)
    replace HC1 := Aside0.mk (Kd.C_below HC1.out hb)
    replace HC2 := Aside0.mk (Kd.C_below HC2.out hb)
    replace HS := Aside0.mk (HS.out.below hb)
    clear hb
    go_wp2_with fail
    go_ret
    exact ⟨rfl, HB.out⟩
  have HRN := Aside0.mk (HR2.out.symm.trans h)
  have HT2 := Aside0.mk hs.to
  clear h hs
  have hm1 := ofM_len HRM.out
  have hn1 := ofM_len HRN.out
  have HM := Aside0.mk hm1.2
  have HNL := Aside0.mk (show n.length = m.length from by omega)
  have HNM := Aside0.mk hn1.2
  have HSZ := Aside0.mk hm1.1
  clear hm1 hn1 h1 h2
  go_wp2_with fail
  refine (and_ok m n _ _ _ HS.out HT2.out HNL.out HM.out).mono ?_
  rintro e w3 ⟨ga, rfl, hs, hb⟩
  replace HB := Aside0.mk (HB.out.trans (hb.mono HB.out.size))
  replace HT := Aside0.mk (tab_below HT.out hb)
  replace HY := Aside0.mk (blk_below HY.out hb)
  replace HC1 := Aside0.mk (Kd.C_below HC1.out hb)
  replace HC2 := Aside0.mk (Kd.C_below HC2.out hb)
  replace HS := Aside0.mk (HS.out.below hb)
  replace HT2 := Aside0.mk (HT2.out.below hb)
  have HSa := Aside0.mk (hs)
  clear hs hb
  go_wp2_with fail
  refine (or_ok m n _ _ _ HS.out HT2.out HNL.out HM.out).mono ?_
  rintro e w4 ⟨gb, rfl, hs, hb⟩
  replace HB := Aside0.mk (HB.out.trans (hb.mono HB.out.size))
  replace HT := Aside0.mk (tab_below HT.out hb)
  replace HY := Aside0.mk (blk_below HY.out hb)
  replace HC1 := Aside0.mk (Kd.C_below HC1.out hb)
  replace HC2 := Aside0.mk (Kd.C_below HC2.out hb)
  replace HS := Aside0.mk (HS.out.below hb)
  replace HT2 := Aside0.mk (HT2.out.below hb)
  replace HSa := Aside0.mk (HSa.out.below hb)
  have HSb := Aside0.mk (hs)
  clear hs hb
  go_wp2_with fail
  refine (minus_ok m n _ _ _ HS.out HT2.out HNL.out HM.out).mono ?_
  rintro e w5 ⟨gc, rfl, hs, hb⟩
  replace HB := Aside0.mk (HB.out.trans (hb.mono HB.out.size))
  replace HT := Aside0.mk (tab_below HT.out hb)
  replace HY := Aside0.mk (blk_below HY.out hb)
  replace HC1 := Aside0.mk (Kd.C_below HC1.out hb)
  replace HC2 := Aside0.mk (Kd.C_below HC2.out hb)
  replace HS := Aside0.mk (HS.out.below hb)
  replace HT2 := Aside0.mk (HT2.out.below hb)
  replace HSa := Aside0.mk (HSa.out.below hb)
  replace HSb := Aside0.mk (HSb.out.below hb)
  have HSc := Aside0.mk (hs)
  clear hs hb
  go_wp2_with fail
  refine (or_ok _ _ _ _ _ HSc.out HSa.out (by first | exact HNL.out | (simp only [bothM_len, notM_len]; exact HNL.out) | simp only [bothM_len, notM_len]) (by first | exact HM.out | (simp only [bothM_len, notM_len]; exact HM.out) | (simp only [bothM_len, notM_len]; exact HNM.out))).mono ?_
  rintro e w6 ⟨gd, rfl, hs, hb⟩
  replace HB := Aside0.mk (HB.out.trans (hb.mono HB.out.size))
  replace HT := Aside0.mk (tab_below HT.out hb)
  replace HY := Aside0.mk (blk_below HY.out hb)
  replace HC1 := Aside0.mk (Kd.C_below HC1.out hb)
  replace HC2 := Aside0.mk (Kd.C_below HC2.out hb)
  replace HS := Aside0.mk (HS.out.below hb)
  replace HT2 := Aside0.mk (HT2.out.below hb)
  replace HSa := Aside0.mk (HSa.out.below hb)
  replace HSb := Aside0.mk (HSb.out.below hb)
  replace HSc := Aside0.mk (HSc.out.below hb)
  rw [law_one m n HNL.out] at hs
  have HSd := Aside0.mk hs
  clear hs hb HSc
  go_wp2_with fail
  refine (not_ok m _ _ HS.out HM.out).mono ?_
  rintro e w7 ⟨ge, rfl, hs, hb⟩
  replace HB := Aside0.mk (HB.out.trans (hb.mono HB.out.size))
  replace HT := Aside0.mk (tab_below HT.out hb)
  replace HY := Aside0.mk (blk_below HY.out hb)
  replace HC1 := Aside0.mk (Kd.C_below HC1.out hb)
  replace HC2 := Aside0.mk (Kd.C_below HC2.out hb)
  replace HS := Aside0.mk (HS.out.below hb)
  replace HT2 := Aside0.mk (HT2.out.below hb)
  replace HSa := Aside0.mk (HSa.out.below hb)
  replace HSb := Aside0.mk (HSb.out.below hb)
  replace HSd := Aside0.mk (HSd.out.below hb)
  have HSe := Aside0.mk (hs)
  clear hs hb
  go_wp2_with fail
  refine (not_ok n _ _ HT2.out HNM.out).mono ?_
  rintro e w8 ⟨gf, rfl, hs, hb⟩
  replace HB := Aside0.mk (HB.out.trans (hb.mono HB.out.size))
  replace HT := Aside0.mk (tab_below HT.out hb)
  replace HY := Aside0.mk (blk_below HY.out hb)
  replace HC1 := Aside0.mk (Kd.C_below HC1.out hb)
  replace HC2 := Aside0.mk (Kd.C_below HC2.out hb)
  replace HS := Aside0.mk (HS.out.below hb)
  replace HT2 := Aside0.mk (HT2.out.below hb)
  replace HSa := Aside0.mk (HSa.out.below hb)
  replace HSb := Aside0.mk (HSb.out.below hb)
  replace HSd := Aside0.mk (HSd.out.below hb)
  replace HSe := Aside0.mk (HSe.out.below hb)
  have HSf := Aside0.mk (hs)
  clear hs hb
  go_wp2_with fail
  refine (and_ok _ _ _ _ _ HSe.out HSf.out (by first | exact HNL.out | (simp only [bothM_len, notM_len]; exact HNL.out) | simp only [bothM_len, notM_len]) (by first | exact HM.out | (simp only [bothM_len, notM_len]; exact HM.out) | (simp only [bothM_len, notM_len]; exact HNM.out))).mono ?_
  rintro e w9 ⟨gn, rfl, hs, hb⟩
  replace HB := Aside0.mk (HB.out.trans (hb.mono HB.out.size))
  replace HT := Aside0.mk (tab_below HT.out hb)
  replace HY := Aside0.mk (blk_below HY.out hb)
  replace HC1 := Aside0.mk (Kd.C_below HC1.out hb)
  replace HC2 := Aside0.mk (Kd.C_below HC2.out hb)
  replace HS := Aside0.mk (HS.out.below hb)
  replace HT2 := Aside0.mk (HT2.out.below hb)
  replace HSa := Aside0.mk (HSa.out.below hb)
  replace HSb := Aside0.mk (HSb.out.below hb)
  replace HSd := Aside0.mk (HSd.out.below hb)
  replace HSe := Aside0.mk (HSe.out.below hb)
  replace HSf := Aside0.mk (HSf.out.below hb)
  rw [law_two m n HNL.out] at hs
  have HSn := Aside0.mk hs
  clear hs hb HSe HSf
  obtain ⟨L, hL⟩ : ∃ L, listM m = L := ⟨_, rfl⟩
  have HL := Aside0.mk hL
  have HLL := Aside0.mk (show L.length ≤ 2000 from by rw [← hL]; exact listM_le m HM.out)
  clear hL
  obtain ⟨L2, hL⟩ : ∃ L2, listM (notM (bothM (· || ·) m n)) = L2 := ⟨_, rfl⟩
  have HL2x := Aside0.mk hL
  have HLL2 := Aside0.mk (show L2.length ≤ 2000 from by rw [← hL]; exact listM_le _ (by first | exact HM.out | (simp only [bothM_len, notM_len]; exact HM.out) | (simp only [bothM_len, notM_len]; exact HNM.out)))
  clear hL
  go_wp2_with fail
  refine (list_ok _ L HL.out _ _ HSd.out HM.out HT.out).mono ?_
  rintro e w10 ⟨Ap, cp, rfl, hc, hC, hb⟩
  replace HB := Aside0.mk (HB.out.trans (hb.mono HB.out.size))
  replace HT := Aside0.mk (tab_below HT.out hb)
  replace HY := Aside0.mk (blk_below HY.out hb)
  replace HC1 := Aside0.mk (Kd.C_below HC1.out hb)
  replace HC2 := Aside0.mk (Kd.C_below HC2.out hb)
  replace HS := Aside0.mk (HS.out.below hb)
  replace HT2 := Aside0.mk (HT2.out.below hb)
  replace HSa := Aside0.mk (HSa.out.below hb)
  replace HSb := Aside0.mk (HSb.out.below hb)
  replace HSd := Aside0.mk (HSd.out.below hb)
  replace HSn := Aside0.mk (HSn.out.below hb)
  have HQp := Aside0.mk (hC)
  have HQCp := Aside0.mk (hc)
  clear hc hC hb
  go_wp2_with fail
  refine (list_ok _ L HL.out _ _ HS.out HM.out HT.out).mono ?_
  rintro e w11 ⟨Aq, cq, rfl, hc, hC, hb⟩
  replace HB := Aside0.mk (HB.out.trans (hb.mono HB.out.size))
  replace HT := Aside0.mk (tab_below HT.out hb)
  replace HY := Aside0.mk (blk_below HY.out hb)
  replace HC1 := Aside0.mk (Kd.C_below HC1.out hb)
  replace HC2 := Aside0.mk (Kd.C_below HC2.out hb)
  replace HS := Aside0.mk (HS.out.below hb)
  replace HT2 := Aside0.mk (HT2.out.below hb)
  replace HSa := Aside0.mk (HSa.out.below hb)
  replace HSb := Aside0.mk (HSb.out.below hb)
  replace HSd := Aside0.mk (HSd.out.below hb)
  replace HSn := Aside0.mk (HSn.out.below hb)
  replace HQp := Aside0.mk (Kd.C_below HQp.out hb)
  have HQq := Aside0.mk (hC)
  have HQCq := Aside0.mk (hc)
  clear hc hC hb
  go_wp2_with fail
  refine (ints_ok _ HLL.out _ _ _ _ _ HQp.out HQCp.out HQq.out HQCq.out).mono ?_
  rintro e w12 ⟨rfl, hb⟩
  replace HB := Aside0.mk (HB.out.trans (hb.mono HB.out.size))
  replace HT := Aside0.mk (tab_below HT.out hb)
  replace HY := Aside0.mk (blk_below HY.out hb)
  replace HC1 := Aside0.mk (Kd.C_below HC1.out hb)
  replace HC2 := Aside0.mk (Kd.C_below HC2.out hb)
  replace HS := Aside0.mk (HS.out.below hb)
  replace HT2 := Aside0.mk (HT2.out.below hb)
  replace HSa := Aside0.mk (HSa.out.below hb)
  replace HSb := Aside0.mk (HSb.out.below hb)
  replace HSd := Aside0.mk (HSd.out.below hb)
  replace HSn := Aside0.mk (HSn.out.below hb)
  replace HQp := Aside0.mk (Kd.C_below HQp.out hb)
  replace HQq := Aside0.mk (Kd.C_below HQq.out hb)
  clear hb HQp HQCp HQq HQCq
  clear HSd
  go_wp2_with fail
  refine (not_ok _ _ _ HSb.out (by first | exact HM.out | (simp only [bothM_len, notM_len]; exact HM.out) | (simp only [bothM_len, notM_len]; exact HNM.out))).mono ?_
  rintro e w13 ⟨gg, rfl, hs, hb⟩
  replace HB := Aside0.mk (HB.out.trans (hb.mono HB.out.size))
  replace HT := Aside0.mk (tab_below HT.out hb)
  replace HY := Aside0.mk (blk_below HY.out hb)
  replace HC1 := Aside0.mk (Kd.C_below HC1.out hb)
  replace HC2 := Aside0.mk (Kd.C_below HC2.out hb)
  replace HS := Aside0.mk (HS.out.below hb)
  replace HT2 := Aside0.mk (HT2.out.below hb)
  replace HSa := Aside0.mk (HSa.out.below hb)
  replace HSb := Aside0.mk (HSb.out.below hb)
  replace HSn := Aside0.mk (HSn.out.below hb)
  have HSg := Aside0.mk (hs)
  clear hs hb
  go_wp2_with fail
  refine (list_ok _ L2 HL2x.out _ _ HSg.out (by first | exact HM.out | (simp only [bothM_len, notM_len]; exact HM.out) | (simp only [bothM_len, notM_len]; exact HNM.out)) HT.out).mono ?_
  rintro e w14 ⟨Ap, cp, rfl, hc, hC, hb⟩
  replace HB := Aside0.mk (HB.out.trans (hb.mono HB.out.size))
  replace HT := Aside0.mk (tab_below HT.out hb)
  replace HY := Aside0.mk (blk_below HY.out hb)
  replace HC1 := Aside0.mk (Kd.C_below HC1.out hb)
  replace HC2 := Aside0.mk (Kd.C_below HC2.out hb)
  replace HS := Aside0.mk (HS.out.below hb)
  replace HT2 := Aside0.mk (HT2.out.below hb)
  replace HSa := Aside0.mk (HSa.out.below hb)
  replace HSb := Aside0.mk (HSb.out.below hb)
  replace HSn := Aside0.mk (HSn.out.below hb)
  replace HSg := Aside0.mk (HSg.out.below hb)
  have HQp := Aside0.mk (hC)
  have HQCp := Aside0.mk (hc)
  clear hc hC hb
  go_wp2_with fail
  refine (list_ok _ L2 HL2x.out _ _ HSn.out (by first | exact HM.out | (simp only [bothM_len, notM_len]; exact HM.out) | (simp only [bothM_len, notM_len]; exact HNM.out)) HT.out).mono ?_
  rintro e w15 ⟨Aq, cq, rfl, hc, hC, hb⟩
  replace HB := Aside0.mk (HB.out.trans (hb.mono HB.out.size))
  replace HT := Aside0.mk (tab_below HT.out hb)
  replace HY := Aside0.mk (blk_below HY.out hb)
  replace HC1 := Aside0.mk (Kd.C_below HC1.out hb)
  replace HC2 := Aside0.mk (Kd.C_below HC2.out hb)
  replace HS := Aside0.mk (HS.out.below hb)
  replace HT2 := Aside0.mk (HT2.out.below hb)
  replace HSa := Aside0.mk (HSa.out.below hb)
  replace HSb := Aside0.mk (HSb.out.below hb)
  replace HSn := Aside0.mk (HSn.out.below hb)
  replace HSg := Aside0.mk (HSg.out.below hb)
  replace HQp := Aside0.mk (Kd.C_below HQp.out hb)
  have HQq := Aside0.mk (hC)
  have HQCq := Aside0.mk (hc)
  clear hc hC hb
  go_wp2_with fail
  refine (ints_ok _ HLL2.out _ _ _ _ _ HQp.out HQCp.out HQq.out HQCq.out).mono ?_
  rintro e w16 ⟨rfl, hb⟩
  replace HB := Aside0.mk (HB.out.trans (hb.mono HB.out.size))
  replace HT := Aside0.mk (tab_below HT.out hb)
  replace HY := Aside0.mk (blk_below HY.out hb)
  replace HC1 := Aside0.mk (Kd.C_below HC1.out hb)
  replace HC2 := Aside0.mk (Kd.C_below HC2.out hb)
  replace HS := Aside0.mk (HS.out.below hb)
  replace HT2 := Aside0.mk (HT2.out.below hb)
  replace HSa := Aside0.mk (HSa.out.below hb)
  replace HSb := Aside0.mk (HSb.out.below hb)
  replace HSn := Aside0.mk (HSn.out.below hb)
  replace HSg := Aside0.mk (HSg.out.below hb)
  replace HQp := Aside0.mk (Kd.C_below HQp.out hb)
  replace HQq := Aside0.mk (Kd.C_below HQq.out hb)
  clear hb HQp HQCp HQq HQCq
  clear HSg HSn
  go_wp2_with fail
  refine (not_ok _ _ _ HS.out HM.out).mono ?_
  rintro e w17 ⟨gg, rfl, hs, hb⟩
  replace HB := Aside0.mk (HB.out.trans (hb.mono HB.out.size))
  replace HT := Aside0.mk (tab_below HT.out hb)
  replace HY := Aside0.mk (blk_below HY.out hb)
  replace HC1 := Aside0.mk (Kd.C_below HC1.out hb)
  replace HC2 := Aside0.mk (Kd.C_below HC2.out hb)
  replace HS := Aside0.mk (HS.out.below hb)
  replace HT2 := Aside0.mk (HT2.out.below hb)
  replace HSa := Aside0.mk (HSa.out.below hb)
  replace HSb := Aside0.mk (HSb.out.below hb)
  have HSg := Aside0.mk (hs)
  clear hs hb
  go_wp2_with fail
  refine (not_ok _ _ _ HSg.out (by first | exact HM.out | (simp only [bothM_len, notM_len]; exact HM.out) | (simp only [bothM_len, notM_len]; exact HNM.out))).mono ?_
  rintro e w18 ⟨gh, rfl, hs, hb⟩
  replace HB := Aside0.mk (HB.out.trans (hb.mono HB.out.size))
  replace HT := Aside0.mk (tab_below HT.out hb)
  replace HY := Aside0.mk (blk_below HY.out hb)
  replace HC1 := Aside0.mk (Kd.C_below HC1.out hb)
  replace HC2 := Aside0.mk (Kd.C_below HC2.out hb)
  replace HS := Aside0.mk (HS.out.below hb)
  replace HT2 := Aside0.mk (HT2.out.below hb)
  replace HSa := Aside0.mk (HSa.out.below hb)
  replace HSb := Aside0.mk (HSb.out.below hb)
  replace HSg := Aside0.mk (HSg.out.below hb)
  rw [law_three] at hs
  have HSh := Aside0.mk hs
  clear hs hb HSg
  go_wp2_with fail
  refine (list_ok _ L HL.out _ _ HSh.out HM.out HT.out).mono ?_
  rintro e w19 ⟨Ap, cp, rfl, hc, hC, hb⟩
  replace HB := Aside0.mk (HB.out.trans (hb.mono HB.out.size))
  replace HT := Aside0.mk (tab_below HT.out hb)
  replace HY := Aside0.mk (blk_below HY.out hb)
  replace HC1 := Aside0.mk (Kd.C_below HC1.out hb)
  replace HC2 := Aside0.mk (Kd.C_below HC2.out hb)
  replace HS := Aside0.mk (HS.out.below hb)
  replace HT2 := Aside0.mk (HT2.out.below hb)
  replace HSa := Aside0.mk (HSa.out.below hb)
  replace HSb := Aside0.mk (HSb.out.below hb)
  replace HSh := Aside0.mk (HSh.out.below hb)
  have HQp := Aside0.mk (hC)
  have HQCp := Aside0.mk (hc)
  clear hc hC hb
  go_wp2_with fail
  refine (list_ok _ L HL.out _ _ HS.out HM.out HT.out).mono ?_
  rintro e w20 ⟨Aq, cq, rfl, hc, hC, hb⟩
  replace HB := Aside0.mk (HB.out.trans (hb.mono HB.out.size))
  replace HT := Aside0.mk (tab_below HT.out hb)
  replace HY := Aside0.mk (blk_below HY.out hb)
  replace HC1 := Aside0.mk (Kd.C_below HC1.out hb)
  replace HC2 := Aside0.mk (Kd.C_below HC2.out hb)
  replace HS := Aside0.mk (HS.out.below hb)
  replace HT2 := Aside0.mk (HT2.out.below hb)
  replace HSa := Aside0.mk (HSa.out.below hb)
  replace HSb := Aside0.mk (HSb.out.below hb)
  replace HSh := Aside0.mk (HSh.out.below hb)
  replace HQp := Aside0.mk (Kd.C_below HQp.out hb)
  have HQq := Aside0.mk (hC)
  have HQCq := Aside0.mk (hc)
  clear hc hC hb
  go_wp2_with fail
  refine (ints_ok _ HLL.out _ _ _ _ _ HQp.out HQCp.out HQq.out HQCq.out).mono ?_
  rintro e w21 ⟨rfl, hb⟩
  replace HB := Aside0.mk (HB.out.trans (hb.mono HB.out.size))
  replace HT := Aside0.mk (tab_below HT.out hb)
  replace HY := Aside0.mk (blk_below HY.out hb)
  replace HC1 := Aside0.mk (Kd.C_below HC1.out hb)
  replace HC2 := Aside0.mk (Kd.C_below HC2.out hb)
  replace HS := Aside0.mk (HS.out.below hb)
  replace HT2 := Aside0.mk (HT2.out.below hb)
  replace HSa := Aside0.mk (HSa.out.below hb)
  replace HSb := Aside0.mk (HSb.out.below hb)
  replace HSh := Aside0.mk (HSh.out.below hb)
  replace HQp := Aside0.mk (Kd.C_below HQp.out hb)
  replace HQq := Aside0.mk (Kd.C_below HQq.out hb)
  clear hb HQp HQCp HQq HQCq
  clear HSh
  go_wp2_with fail
  refine (alive_any _ HT.out).mono ?_
  rintro e w22 ⟨rfl, hb⟩
  replace HB := Aside0.mk (HB.out.trans (hb.mono HB.out.size))
  replace HT := Aside0.mk (tab_below HT.out hb)
  replace HY := Aside0.mk (blk_below HY.out hb)
  replace HC1 := Aside0.mk (Kd.C_below HC1.out hb)
  replace HC2 := Aside0.mk (Kd.C_below HC2.out hb)
  replace HS := Aside0.mk (HS.out.below hb)
  replace HT2 := Aside0.mk (HT2.out.below hb)
  replace HSa := Aside0.mk (HSa.out.below hb)
  replace HSb := Aside0.mk (HSb.out.below hb)
  clear hb
  obtain ⟨xa, hxa⟩ : ∃ x, cntM (bothM (· && ·) m n) = x := ⟨_, rfl⟩
  obtain ⟨xo, hxo⟩ : ∃ x, cntM (bothM (· || ·) m n) = x := ⟨_, rfl⟩
  obtain ⟨xs, hxs⟩ : ∃ x, cntM (m) = x := ⟨_, rfl⟩
  obtain ⟨xt, hxt⟩ : ∃ x, cntM (n) = x := ⟨_, rfl⟩
  obtain ⟨xn, hxn⟩ : ∃ x, cntM (notM m) = x := ⟨_, rfl⟩
  have hsum : (xa : Int) + (xo : Int) = (xs : Int) + (xt : Int) := by have := law_four m n HNL.out; omega
  have hall : (xs : Int) + (xn : Int) = size := by have := law_five m; have := HSZ.out; omega
  have bxa : xa ≤ 1024 := by have := cntM_le (bothM (· && ·) m n); have h5 : (bothM (· && ·) m n).length ≤ 1024 := (by first | exact HM.out | (simp only [bothM_len, notM_len]; exact HM.out) | (simp only [bothM_len, notM_len]; exact HNM.out)); omega
  have bxo : xo ≤ 1024 := by have := cntM_le (bothM (· || ·) m n); have h5 : (bothM (· || ·) m n).length ≤ 1024 := (by first | exact HM.out | (simp only [bothM_len, notM_len]; exact HM.out) | (simp only [bothM_len, notM_len]; exact HNM.out)); omega
  have bxs : xs ≤ 1024 := by have := cntM_le (m); have h5 : (m).length ≤ 1024 := (by first | exact HM.out | (simp only [bothM_len, notM_len]; exact HM.out) | (simp only [bothM_len, notM_len]; exact HNM.out)); omega
  have bxt : xt ≤ 1024 := by have := cntM_le (n); have h5 : (n).length ≤ 1024 := HNM.out; omega
  have bxn : xn ≤ 1024 := by have := cntM_le (notM m); have h5 : (notM m).length ≤ 1024 := (by first | exact HM.out | (simp only [bothM_len, notM_len]; exact HM.out) | (simp only [bothM_len, notM_len]; exact HNM.out)); omega
  have Hxa := Aside0.mk hxa
  have Hxo := Aside0.mk hxo
  have Hxs := Aside0.mk hxs
  have Hxt := Aside0.mk hxt
  have Hxn := Aside0.mk hxn
  clear hxa hxo hxs hxt hxn
  go_wp2_with fail
  refine (len_ok _ xa Hxa.out _ _ HSa.out (by first | exact HM.out | (simp only [bothM_len, notM_len]; exact HM.out) | (simp only [bothM_len, notM_len]; exact HNM.out))).mono ?_
  rintro e w23 ⟨rfl, hb⟩
  replace HB := Aside0.mk (HB.out.trans (hb.mono HB.out.size))
  replace HT := Aside0.mk (tab_below HT.out hb)
  replace HY := Aside0.mk (blk_below HY.out hb)
  replace HC1 := Aside0.mk (Kd.C_below HC1.out hb)
  replace HC2 := Aside0.mk (Kd.C_below HC2.out hb)
  replace HS := Aside0.mk (HS.out.below hb)
  replace HT2 := Aside0.mk (HT2.out.below hb)
  replace HSa := Aside0.mk (HSa.out.below hb)
  replace HSb := Aside0.mk (HSb.out.below hb)
  clear hb
  go_wp2_with fail
  refine (len_ok _ xo Hxo.out _ _ HSb.out (by first | exact HM.out | (simp only [bothM_len, notM_len]; exact HM.out) | (simp only [bothM_len, notM_len]; exact HNM.out))).mono ?_
  rintro e w24 ⟨rfl, hb⟩
  replace HB := Aside0.mk (HB.out.trans (hb.mono HB.out.size))
  replace HT := Aside0.mk (tab_below HT.out hb)
  replace HY := Aside0.mk (blk_below HY.out hb)
  replace HC1 := Aside0.mk (Kd.C_below HC1.out hb)
  replace HC2 := Aside0.mk (Kd.C_below HC2.out hb)
  replace HS := Aside0.mk (HS.out.below hb)
  replace HT2 := Aside0.mk (HT2.out.below hb)
  replace HSa := Aside0.mk (HSa.out.below hb)
  replace HSb := Aside0.mk (HSb.out.below hb)
  clear hb
  go_wp2_with fail
  refine (len_ok _ xs Hxs.out _ _ HS.out (by first | exact HM.out | (simp only [bothM_len, notM_len]; exact HM.out) | (simp only [bothM_len, notM_len]; exact HNM.out))).mono ?_
  rintro e w25 ⟨rfl, hb⟩
  replace HB := Aside0.mk (HB.out.trans (hb.mono HB.out.size))
  replace HT := Aside0.mk (tab_below HT.out hb)
  replace HY := Aside0.mk (blk_below HY.out hb)
  replace HC1 := Aside0.mk (Kd.C_below HC1.out hb)
  replace HC2 := Aside0.mk (Kd.C_below HC2.out hb)
  replace HS := Aside0.mk (HS.out.below hb)
  replace HT2 := Aside0.mk (HT2.out.below hb)
  replace HSa := Aside0.mk (HSa.out.below hb)
  replace HSb := Aside0.mk (HSb.out.below hb)
  clear hb
  go_wp2_with fail
  refine (len_ok _ xt Hxt.out _ _ HT2.out HNM.out).mono ?_
  rintro e w26 ⟨rfl, hb⟩
  replace HB := Aside0.mk (HB.out.trans (hb.mono HB.out.size))
  replace HT := Aside0.mk (tab_below HT.out hb)
  replace HY := Aside0.mk (blk_below HY.out hb)
  replace HC1 := Aside0.mk (Kd.C_below HC1.out hb)
  replace HC2 := Aside0.mk (Kd.C_below HC2.out hb)
  replace HS := Aside0.mk (HS.out.below hb)
  replace HT2 := Aside0.mk (HT2.out.below hb)
  replace HSa := Aside0.mk (HSa.out.below hb)
  replace HSb := Aside0.mk (HSb.out.below hb)
  clear hb
  go_wp2_with fail
  refine (len_ok _ xs Hxs.out _ _ HS.out (by first | exact HM.out | (simp only [bothM_len, notM_len]; exact HM.out) | (simp only [bothM_len, notM_len]; exact HNM.out))).mono ?_
  rintro e w27 ⟨rfl, hb⟩
  replace HB := Aside0.mk (HB.out.trans (hb.mono HB.out.size))
  replace HT := Aside0.mk (tab_below HT.out hb)
  replace HY := Aside0.mk (blk_below HY.out hb)
  replace HC1 := Aside0.mk (Kd.C_below HC1.out hb)
  replace HC2 := Aside0.mk (Kd.C_below HC2.out hb)
  replace HS := Aside0.mk (HS.out.below hb)
  replace HT2 := Aside0.mk (HT2.out.below hb)
  replace HSa := Aside0.mk (HSa.out.below hb)
  replace HSb := Aside0.mk (HSb.out.below hb)
  clear hb
  go_wp2_with fail
  refine (not_ok _ _ _ HS.out HM.out).mono ?_
  rintro e w28 ⟨gz, rfl, hs, hb⟩
  replace HB := Aside0.mk (HB.out.trans (hb.mono HB.out.size))
  replace HT := Aside0.mk (tab_below HT.out hb)
  replace HY := Aside0.mk (blk_below HY.out hb)
  replace HC1 := Aside0.mk (Kd.C_below HC1.out hb)
  replace HC2 := Aside0.mk (Kd.C_below HC2.out hb)
  replace HS := Aside0.mk (HS.out.below hb)
  replace HT2 := Aside0.mk (HT2.out.below hb)
  replace HSa := Aside0.mk (HSa.out.below hb)
  replace HSb := Aside0.mk (HSb.out.below hb)
  have HSz := Aside0.mk (hs)
  clear hs hb
  go_wp2_with fail
  refine (len_ok _ xn Hxn.out _ _ HSz.out (by first | exact HM.out | (simp only [bothM_len, notM_len]; exact HM.out) | (simp only [bothM_len, notM_len]; exact HNM.out))).mono ?_
  rintro e w29 ⟨rfl, hb⟩
  replace HB := Aside0.mk (HB.out.trans (hb.mono HB.out.size))
  replace HT := Aside0.mk (tab_below HT.out hb)
  replace HY := Aside0.mk (blk_below HY.out hb)
  replace HC1 := Aside0.mk (Kd.C_below HC1.out hb)
  replace HC2 := Aside0.mk (Kd.C_below HC2.out hb)
  replace HS := Aside0.mk (HS.out.below hb)
  replace HT2 := Aside0.mk (HT2.out.below hb)
  replace HSa := Aside0.mk (HSa.out.below hb)
  replace HSb := Aside0.mk (HSb.out.below hb)
  replace HSz := Aside0.mk (HSz.out.below hb)
  clear hb
  go_wp2_with fail
  go_ret
  exact ⟨rfl, HB.out⟩
end Go.Proofs.YtdhkhbejedndoaaDoor.H
