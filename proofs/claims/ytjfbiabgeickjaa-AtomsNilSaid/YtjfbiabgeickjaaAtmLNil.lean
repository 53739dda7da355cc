/- AtomsNil: walked. -/
import Derived.Test.YtjfbiabgeickjaaAtmN
namespace Go.Proofs.Ytjfbiabgeickjaa.H
open Go.BigFrame Go.RowKit Go.Proofs.Ytjfbiabgeickjaa.P Go.Proofs.Ytjfbiabgeickjaa.Open Go.Proofs.YtjfbiabgeickjaaW.PrintWords Go.Proofs.YtjfbiabgeickjaaW.PrintLast Go.Proofs.YtjfbiabgeickjaaW.PrintMore
set_option linter.unusedVariables false
set_option linter.unusedSimpArgs false
set_option maxRecDepth 20000 in
set_option maxHeartbeats 16000000 in
theorem AtomsNil_any (a f t : Int) (w : World) (ha : isU32 a) (hf : isU32 f) (ht : isU32 t) :
    Calls Try.prog 8 #[.int .u32 a, .agg #[.int .u32 f, .int .u32 t]] w fun e w' => e = .returned (.bool true) ∧ Below w.heap.size w w' := by
  obtain ⟨ha0, ha1⟩ := ha.range
  obtain ⟨hf0, hf1⟩ := hf.range
  obtain ⟨ht0, ht1⟩ := ht.range
  have hu := Try.underlying30
  have HY := Aside0.mk (blk_new w (.cells #[.int .u32 f, .int .u32 t] 30))
  have HB0 := Aside0.mk ((Below.refl w.heap.size w).alloc (Nat.le_refl _) (.cells #[.int .u32 f, .int .u32 t] 30))
  have CA := Aside0.mk (fun W => atom_any none newTab 0 W (.inr ⟨rfl, rfl⟩) (by decide) inv_new.range (keys_up inv_new.b.1))
  rw [show atomR (keysT newTab.b) 0 = (⟨0, 4294967295⟩, true) from rfl] at CA
  simp only [] at CA
  have CW := Aside0.mk (within_nil f t hf0 hf1 ht0 ht1)
  have CD := Aside0.mk (drop_nil f t hf0 hf1 ht0 ht1)
  have CO := Aside0.mk (of_nil a ha0 ha1)
  have CR := Aside0.mk (fun W => ranges_any none newTab W (.inr ⟨rfl, rfl⟩) (by decide))
  rw [show rangesT newTab.r = [] from rfl] at CR
  have CL := Aside0.mk (fun P W hW => tlen_any P x1 W hW)
  rw [a5] at CL
  clear ha hf ht ha0 ha1 hf0 hf1 ht0 ht1
  go_enter Try.func8, Try.ntmps8
  go_wp2_with fail
  generalize (w.alloc (.cells #[.int .u32 f, .int .u32 t] 30)) = w0 at *
  refine (CA.out w0).mono ?_
  rintro e w1 ⟨rfl, hb⟩
  have hb2 := hb.alloc hb.size (.cells #[.int .u32 0, .int .u32 4294967295] 30)
  have HB1 := Aside0.mk (HB0.out.trans (hb2.mono HB0.out.size))
  have HY1 := Aside0.mk (blk_below HY.out hb2)
  have HX1 := Aside0.mk (blk_new w1 (.cells #[.int .u32 0, .int .u32 4294967295] 30))
  clear hb hb2
  dsimp only
  repeat ((fail_if_success (show Code.wp _ (Code.seq (Code.region 3 _ _) _) _ _ _)); (first | go_values | go_skip | go_guarded | go_step | go_upon | go_back))
  generalize (w1.alloc (.cells #[.int .u32 0, .int .u32 4294967295] 30)) = w2 at *
  generalize w1.heap.size = bx at *
  have y0 := blk_cell HY1.out 0
  have y1 := blk_cell HY1.out 1
  go_wp2_with fail
  refine (CW.out w2).mono ?_
  rintro e w3 ⟨rfl, hb⟩
  have HB3 := Aside0.mk (HB1.out.trans (hb.mono HB1.out.size))
  have HY3 := Aside0.mk (blk_below HY1.out hb)
  have HX3 := Aside0.mk (blk_below HX1.out hb)
  have y0 := blk_cell HY3.out 0
  have y1 := blk_cell HY3.out 1
  clear hb
  go_wp2_with fail
  refine (CD.out w3).mono ?_
  rintro e w4 ⟨rfl, hb⟩
  have HB4 := Aside0.mk (HB3.out.trans (hb.mono HB3.out.size))
  have HY4 := Aside0.mk (blk_below HY3.out hb)
  have HX4 := Aside0.mk (blk_below HX3.out hb)
  clear hb y0 y1
  go_wp2_with fail
  refine (add_nil w4).mono ?_
  rintro e w5 ⟨⟨P5, rfl, h5⟩, hb⟩
  have HB5 := Aside0.mk (HB4.out.trans (hb.mono HB4.out.size))
  have HY5 := Aside0.mk (blk_below HY4.out hb)
  have HX5 := Aside0.mk (blk_below HX4.out hb)
  have HT5 := Aside0.mk h5
  clear hb h5
  go_wp2_with fail
  refine (alive_any w5).mono ?_
  rintro e w6 ⟨rfl, hb⟩
  have HB6 := Aside0.mk (HB5.out.trans (hb.mono HB5.out.size))
  have HY6 := Aside0.mk (blk_below HY5.out hb)
  have HX6 := Aside0.mk (blk_below HX5.out hb)
  have HT6 := Aside0.mk (HT5.out.below hb)
  clear hb
  go_wp2_with fail
  refine (len_nil w6).mono ?_
  rintro e w7 ⟨rfl, hb⟩
  have HB7 := Aside0.mk (HB6.out.trans (hb.mono HB6.out.size))
  have HY7 := Aside0.mk (blk_below HY6.out hb)
  have HX7 := Aside0.mk (blk_below HX6.out hb)
  have HT7 := Aside0.mk (HT6.out.below hb)
  have x0 := blk_cell HX7.out 0
  have x1 := blk_cell HX7.out 1
  clear hb
  go_wp2_with fail
  refine (CO.out w7).mono ?_
  rintro e w8 ⟨rfl, hb⟩
  have HB8 := Aside0.mk (HB7.out.trans (hb.mono HB7.out.size))
  have HY8 := Aside0.mk (blk_below HY7.out hb)
  have HT8 := Aside0.mk (HT7.out.below hb)
  have y0 := blk_cell HY8.out 0
  have y1 := blk_cell HY8.out 1
  clear hb x0 x1
  go_wp2_with fail
  refine (count_nil f t w8).mono ?_
  rintro e w9 ⟨rfl, hb⟩
  have HB9 := Aside0.mk (HB8.out.trans (hb.mono HB8.out.size))
  have HT9 := Aside0.mk (HT8.out.below hb)
  clear hb y0 y1
  go_wp2_with fail
  refine (CR.out w9).mono ?_
  rintro e w10 ⟨⟨v, rfl, hR⟩, hb⟩
  obtain ⟨Av, cv, rfl⟩ := Kd.R_slice hR
  have HB10 := Aside0.mk (HB9.out.trans (hb.mono HB9.out.size))
  have HT10 := Aside0.mk (HT9.out.below hb)
  clear hb hR
  go_wp2_with fail
  refine (CL.out P5 w10 HT10.out).mono ?_
  rintro e w11 ⟨rfl, rfl⟩
  go_wp2_with fail
  go_ret
  exact ⟨rfl, HB10.out⟩
end Go.Proofs.Ytjfbiabgeickjaa.H
