/- FatG. -/
import Derived.Test.YtkjighagiecbaaaGFatG1
import Derived.Test.YtkjighagiecbaaaGTopo1
namespace Go.Proofs.Ytkjighagiecbaaa.H
open Go.RowKit Go.Proofs.Ytkjighagiecbaaa.P Go.Proofs.YtkjighagiecbaaaW.PrintWords Go.Proofs.YtkjighagiecbaaaW.PrintLast Go.Proofs.YtkjighagiecbaaaW.PrintMore
set_option linter.unusedVariables false
set_option linter.unusedSimpArgs false
set_option maxRecDepth 100000
theorem lit_C {W : World} {g : Nat} {z : Int} (h : W.heap[g]? = some (.cells #[.int .i64 z] 3 (0, 0))) : Kd.C (Kd.int .i64) W (some ⟨g, 0, none⟩) [z].length [z] := by
  obtain ⟨A, c, e, _, hC⟩ := own_C (B := 0) (v := .slice (some ⟨g, 0, none⟩) 1 1) (l := [z]) ⟨rfl, .inr ⟨g, 1, _, rfl, Nat.zero_le _, h, Nat.le_refl _, by decide, rfl, rfl⟩⟩
  cases e
  exact hC
theorem lit_R {W : World} {g B : Nat} (hB : B ≤ g) (h : W.heap[g]? = some (.cells #[] 3 (0, 0))) : Kd.R (Kd.int .i64) 3 W B (fun _ => True) (.slice (some ⟨g, 0, none⟩) 0 0) [] := own_R (l := []) ⟨rfl, .inr ⟨g, 0, _, rfl, hB, h, Nat.le_refl _, by decide, rfl, rfl⟩⟩
theorem C_nil09 (w : World) : Kd.C (Kd.int .i64) w none ([] : List Int).length [] := (Kd.R_reads' (Kd.R_nil (Kd.int .i64) 3 w 0 (fun _ => True))).2.2
section
variable {A0 : Option Addr} {c0 : Nat} {l0 : List Int} {A1 : Option Addr} {c1 : Nat} {l1 : List S66} {A2 : Option Addr} {c2 : Nat} {l2 : List Rul}
set_option maxHeartbeats 8000000 in
theorem gen_walk (d z a : Int) (w : World) (hN : NetAt A0 c0 l0 A1 c1 l1 A2 c2 l2 w) (hs : sizesN l1 l2) (hi : idsB l2 = true) :
    Calls Try.prog 6 #[netV A0 c0 l0 A1 c1 l1 A2 c2 l2, .agg #[.int .i64 d, .int .i64 z], .int .u32 a] w fun e w' => e = .returned (.bool true) ∧ Below w.heap.size w w' := by
  have huN := Try.underlying28
  have huT := Try.underlying25
  have huR := Try.underlying35
  have huP := Try.underlying33
  have huA := Try.underlying48
  have HN := Aside0.mk hN
  have HSZ := Aside0.mk hs
  have HFI := Aside0.mk (fun W (hW : NetAt A0 c0 l0 A1 c1 l1 A2 c2 l2 W) => E.waystonelaw09_Fits.calls A0 c0 l0 A1 c1 l1 A2 c2 l2 (fitsN l0 l1 l2) W hW.r0 hW.c0 hW.r1 hW.c1 hW.r2 hW.c2 (fitsE l0 l1 l2 hi))
  have HTR := Aside0.mk (fun W (hW : NetAt A0 c0 l0 A1 c1 l1 A2 c2 l2 W) => trace_told d a W hW hs.1 hs.2)
  have HK0 := Aside0.mk (blk_alloc (blk_new w (.cells #[.slice A0 l0.length c0, .slice A1 l1.length c1, .slice A2 l2.length c2] 28)) (.cells #[.int .i64 d, .int .i64 z] 48))
  have HX0 := Aside0.mk (show ((w.alloc (.cells #[.slice A0 l0.length c0, .slice A1 l1.length c1, .slice A2 l2.length c2] 28)).alloc (.cells #[.int .i64 d, .int .i64 z] 48)).heap[w.heap.size + 1]? = some (.cells #[.int .i64 d, .int .i64 z] 48 (0, 0)) from by
    have h := blk_new (w.alloc (.cells #[.slice A0 l0.length c0, .slice A1 l1.length c1, .slice A2 l2.length c2] 28)) (.cells #[.int .i64 d, .int .i64 z] 48)
    rw [World.size_alloc] at h
    exact h)
  have HB0 := Aside0.mk (((Below.refl w.heap.size w).alloc (Nat.le_refl _) (.cells #[.slice A0 l0.length c0, .slice A1 l1.length c1, .slice A2 l2.length c2] 28)).alloc (by simp) (.cells #[.int .i64 d, .int .i64 z] 48))
  have n0 := blk_cell HK0.out 0
  have n1 := blk_cell HK0.out 1
  have n2 := blk_cell HK0.out 2
  clear hN hs hi
  go_enter Try.func6, Try.ntmps6
  go_wp2_with fail
  generalize ((w.alloc (.cells #[.slice A0 l0.length c0, .slice A1 l1.length c1, .slice A2 l2.length c2] 28)).alloc (.cells #[.int .i64 d, .int .i64 z] 48)) = W0 at *
  refine (HFI.out W0 (HN.out.below HB0.out)).mono ?_
  rintro e W1 ⟨rfl, hb⟩
  have HK1 := Aside0.mk (blk_below HK0.out hb)
  have HX1 := Aside0.mk (blk_below HX0.out hb)
  have HB1 := Aside0.mk (HB0.out.trans (hb.mono HB0.out.size))
  clear n0 n1 n2 hb HK0 HB0 HX0
  have n0 := blk_cell HK1.out 0
  have n1 := blk_cell HK1.out 1
  have n2 := blk_cell HK1.out 2
  have b0 := blk_cell HX1.out 0
  have h1 := HTR.out W1 (HN.out.below HB1.out)
  by_cases hg : fitsN l0 l1 l2 = true ∧ (0 ≤ d ∧ d < (l0.length : Int))
  · have hT := rightN_T (fits_right hg.1)
    obtain ⟨X, f, px, py, init, last, ht, hX⟩ := ends_all (l2 := l2) hT d a hg.2
    have h20 : l0.length ≤ 20 := by
      have h := hg.1
      unfold fitsN at h
      simp only [Bool.and_eq_true, decide_eq_true_iff] at h
      exact h.1
    have HTF := Aside0.mk ht
    have HFR := Aside0.mk (fate_rng hg.2 ht)
    have HX := Aside0.mk hX
    have H20 := Aside0.mk (show X.length ≤ 21 from by have := hX.len; omega)
    rw [ht] at h1
    rw [hg.1]
    have HL0 := Aside0.mk hX.size
    clear hT hX h20 ht hg HTR HFI
    go_wp2_with fail
    refine h1.mono ?_
    rintro e W2 ⟨v, rfl, hv, hb⟩
    obtain ⟨B, cB, rfl, hcB, hCB⟩ := Kd.R_reads hv
    obtain ⟨ad, rfl⟩ := C_some hCB (by have := HL0.out; omega)
    have HLT := Aside0.mk (show w.heap.size + 1 < W2.heap.size from Nat.lt_of_lt_of_le (blk_lt HX1.out) hb.size)
    have HK3 := Aside0.mk (blk_alloc (blk_below HK1.out hb) (.cells #[.slice (some ad) X.length cB, .int .i64 f, .int .i64 px, .int .i64 py] 35))
    have HX3 := Aside0.mk (blk_alloc (blk_below HX1.out hb) (.cells #[.slice (some ad) X.length cB, .int .i64 f, .int .i64 px, .int .i64 py] 35))
    have HT3 := Aside0.mk (blk_new W2 (.cells #[.slice (some ad) X.length cB, .int .i64 f, .int .i64 px, .int .i64 py] 35))
    have hb2 := HB1.out.trans (hb.mono HB1.out.size)
    have HB3 := Aside0.mk (hb2.trans (((Below.refl W2.heap.size W2).alloc (Nat.le_refl _) (.cells #[.slice (some ad) X.length cB, .int .i64 f, .int .i64 px, .int .i64 py] 35)).mono hb2.size))
    have HC3 := Aside0.mk (Kd.C_below hCB ((Below.refl W2.heap.size W2).alloc (Nat.le_refl _) (.cells #[.slice (some ad) X.length cB, .int .i64 f, .int .i64 px, .int .i64 py] 35)))
    have HSZ3 := Aside0.mk (show (W2.alloc (.cells #[.slice (some ad) X.length cB, .int .i64 f, .int .i64 px, .int .i64 py] 35)).heap.size = W2.heap.size + 1 from World.size_alloc ..)
    have HC2 := Aside0.mk hCB
    have HB2 := Aside0.mk hb2
    clear hb h1 hv n0 n1 n2 b0 HK1 HB1 HX1 hb2 hCB HC3 HB3 HSZ3
    have t0 := blk_cell HT3.out 0
    have t1 := blk_cell HT3.out 1
    have t2 := blk_cell HT3.out 2
    have t3 := blk_cell HT3.out 3
    have hk0 : ((X.length : Int) == 0) = false := by have := HL0.out; rw [beq_eq_false_iff_ne]; omega
    have hwk : wrap64 ((X.length : Int) - 1) = (init.length : Int) := by have := HL0.out; have := H20.out; unfold wrap64; omega
    have hwk2 : IntKind.i64.wrap ((X.length : Int) - 1) = (init.length : Int) := by rw [i64_w]; exact hwk
    have hk1 : (0 : Int) ≤ (init.length : Int) := by omega
    have hk2 : (init.length : Int) ≤ (cB : Int) := by have := HL0.out; omega
    go_wp2_with fail
    have HL5 := Aside0.mk (show (((W2.alloc (.cells #[.slice (some ad) X.length cB, .int .i64 f, .int .i64 px, .int .i64 py] 35)).alloc (.cells #[.slice (some ad) init.length cB, .int .i64 f, .int .i64 px, .int .i64 py] 35)).alloc (.cells #[.slice (some ad) X.length cB, .int .i64 f, .int .i64 px, .int .i64 py] 35)).heap[W2.heap.size + 1]? = some (.cells #[.slice (some ad) init.length cB, .int .i64 f, .int .i64 px, .int .i64 py] 35 (0, 0)) from blk_alloc (by
      have h := blk_new (W2.alloc (.cells #[.slice (some ad) X.length cB, .int .i64 f, .int .i64 px, .int .i64 py] 35)) (.cells #[.slice (some ad) init.length cB, .int .i64 f, .int .i64 px, .int .i64 py] 35)
      rw [World.size_alloc] at h
      exact h) (.cells #[.slice (some ad) X.length cB, .int .i64 f, .int .i64 px, .int .i64 py] 35))
    have HM5 := Aside0.mk (show (((W2.alloc (.cells #[.slice (some ad) X.length cB, .int .i64 f, .int .i64 px, .int .i64 py] 35)).alloc (.cells #[.slice (some ad) init.length cB, .int .i64 f, .int .i64 px, .int .i64 py] 35)).alloc (.cells #[.slice (some ad) X.length cB, .int .i64 f, .int .i64 px, .int .i64 py] 35)).heap[W2.heap.size + 1 + 1]? = some (.cells #[.slice (some ad) X.length cB, .int .i64 f, .int .i64 px, .int .i64 py] 35 (0, 0)) from by
      have h := blk_new ((W2.alloc (.cells #[.slice (some ad) X.length cB, .int .i64 f, .int .i64 px, .int .i64 py] 35)).alloc (.cells #[.slice (some ad) init.length cB, .int .i64 f, .int .i64 px, .int .i64 py] 35)) (.cells #[.slice (some ad) X.length cB, .int .i64 f, .int .i64 px, .int .i64 py] 35)
      rw [World.size_alloc, World.size_alloc] at h
      exact h)
    have HK5 := Aside0.mk (blk_alloc (blk_alloc HK3.out (.cells #[.slice (some ad) init.length cB, .int .i64 f, .int .i64 px, .int .i64 py] 35)) (.cells #[.slice (some ad) X.length cB, .int .i64 f, .int .i64 px, .int .i64 py] 35))
    have HX5 := Aside0.mk (blk_alloc (blk_alloc HX3.out (.cells #[.slice (some ad) init.length cB, .int .i64 f, .int .i64 px, .int .i64 py] 35)) (.cells #[.slice (some ad) X.length cB, .int .i64 f, .int .i64 px, .int .i64 py] 35))
    have HT5 := Aside0.mk (blk_alloc (blk_alloc HT3.out (.cells #[.slice (some ad) init.length cB, .int .i64 f, .int .i64 px, .int .i64 py] 35)) (.cells #[.slice (some ad) X.length cB, .int .i64 f, .int .i64 px, .int .i64 py] 35))
    have HBT := Aside0.mk ((((Below.refl W2.heap.size W2).alloc (Nat.le_refl _) (.cells #[.slice (some ad) X.length cB, .int .i64 f, .int .i64 px, .int .i64 py] 35)).alloc (by simp) (.cells #[.slice (some ad) init.length cB, .int .i64 f, .int .i64 px, .int .i64 py] 35)).alloc (by simp; omega) (.cells #[.slice (some ad) X.length cB, .int .i64 f, .int .i64 px, .int .i64 py] 35))
    clear t0 t1 t2 t3 hk0 hwk hwk2 hk1 hk2 HK3 HX3 HT3
    generalize (((W2.alloc (.cells #[.slice (some ad) X.length cB, .int .i64 f, .int .i64 px, .int .i64 py] 35)).alloc (.cells #[.slice (some ad) init.length cB, .int .i64 f, .int .i64 px, .int .i64 py] 35)).alloc (.cells #[.slice (some ad) X.length cB, .int .i64 f, .int .i64 px, .int .i64 py] 35)) = W5 at *
    have hc3 : W5.cell? ⟨W2.heap.size, 0, none⟩ = some (.slice (some ad) X.length cB) ∧ W5.cell? ⟨w.heap.size + 1, 1, none⟩ = some (.int .i64 z) := ⟨blk_cell HT5.out 0, blk_cell HX5.out 1⟩
    refine wp_region_held_drew (S := fun w' => w'.cell? ⟨W2.heap.size, 0, none⟩ = some (.slice (some ad) X.length cB) ∧ w'.cell? ⟨w.heap.size + 1, 1, none⟩ = some (.int .i64 z)) (by kernel_rfl) ?hSa0 (fun hHeld => ?_)
    case hSa0 => first | assumption | go_keep
    refine held_take 1 (some 46) (v := ?va1) rfl rfl (by kernel_rfl) (by kernel_rfl) (by kernel_rfl) (fun _ _ _ h => h) (by rfl) ?ya1 (by assumption) ?_
    case ya1 => ((intro w hSw); (try dsimp only at hSw); go_simp <;> (with_reducible rfl))
    try simp only [Act.put, List.setIfInBounds_toArray, List.set_cons_zero, List.set_cons_succ]
    refine held_take 2 (some 47) (v := ?va2) rfl rfl (by kernel_rfl) (by kernel_rfl) (by kernel_rfl) (fun _ _ _ h => h) (by rfl) ?ya2 (by assumption) ?_
    case ya2 => ((intro w hSw); (try dsimp only at hSw); go_simp <;> (with_reducible rfl))
    try simp only [Act.put, List.setIfInBounds_toArray, List.set_cons_zero, List.set_cons_succ]
    refine held_take 4 (some 49) (v := ?va4) rfl rfl (by kernel_rfl) (by kernel_rfl) (by kernel_rfl) (fun _ _ _ h => h) (by rfl) ?ya4 (by assumption) ?_
    case ya4 => ((intro w hSw); (try dsimp only at hSw); go_simp <;> (with_reducible rfl))
    try simp only [Act.put, List.setIfInBounds_toArray, List.set_cons_zero, List.set_cons_succ]
    refine held_take 5 (some 50) (v := ?va5) rfl rfl (by kernel_rfl) (by kernel_rfl) (by kernel_rfl) (fun _ _ _ h => h) (by rfl) ?ya5 (by assumption) ?_
    case ya5 => ((intro w hSw); (try dsimp only at hSw); go_simp <;> (with_reducible rfl))
    try simp only [Act.put, List.setIfInBounds_toArray, List.set_cons_zero, List.set_cons_succ]
    have HKd := Aside0.mk (blk_drew HK5.out)
    have HXd := Aside0.mk (blk_drew HX5.out)
    have HTd := Aside0.mk (blk_drew HT5.out)
    have HLd := Aside0.mk (blk_drew HL5.out)
    have HMd := Aside0.mk (blk_drew HM5.out)
    have HBd := Aside0.mk (below_drew HBT.out)
    have HCd := Aside0.mk (Kd.C_below HC2.out HBd.out)
    clear HK5 HX5 HT5 HL5 HM5 HBT hc3
    generalize W5.drew = Wd at *
    have HBV := Aside0.mk (Below.refl Wd.heap.size Wd)
    refine wpAnyH_ready (rs := [0, 6]) (by kernel_rfl) (by simp) ?_
    refine AllReadyH.cons rfl (fun K hK => ?_) (AllReadyH.cons rfl (fun K hK => ?_) AllReadyH.nil)
    · go_simp
      have HG0' := Aside0.mk (blk_new Wd (.cells #[] 3))
      have HGB0 := Aside0.mk HBV.out.size
      have HBV' := Aside0.mk (HBV.out.alloc HBV.out.size (.cells #[] 3))
      have KV : (Wd.alloc (.cells #[] 3)).cell? ⟨W2.heap.size, 0, none⟩ = some (.slice (some ad) X.length cB) ∧ (Wd.alloc (.cells #[] 3)).cell? ⟨w.heap.size + 1, 1, none⟩ = some (.int .i64 z) := (by have h := blk_below HTd.out HBV'.out; have h2 := blk_below HXd.out HBV'.out; exact ⟨blk_cell h 0, blk_cell h2 1⟩)
      refine hK.out _ _ ?hSb1 (fun hHeld => ?_)
      case hSb1 => exact KV
      clear hK K KV
      try simp only [Act.put, List.setIfInBounds_toArray, List.set_cons_zero, List.set_cons_succ]
      clear HBV
      have HBV := HBV'
      have HG0 := HG0'
      clear HBV' HG0'
      generalize Wd.alloc (.cells #[] 3) = Va at *
      refine wpAnyH_ready (rs := [3, 6]) (by kernel_rfl) (by simp) ?_
      refine AllReadyH.cons rfl (fun K hK => ?_) (AllReadyH.cons rfl (fun K hK => ?_) (AllReadyH.nil))
      · refine Kd.R_append_rows_step (Kd.int .i64) (w0 := Wd) Wd.heap.size rfl (.tmp 45) (.tmp 47) 22 3 (.int .i64 0) 8 rfl Try.underlying22 info3 rfl (by decide) (by omega) (.slice (some ⟨Wd.heap.size, 0, none⟩) 0 0) [] X (some ad) X.length cB (fun _ => True) (fun _ => False) rfl rfl ?aO ?aR (fun _ _ h => h) (fun _ h => h.elim) ?aF ?aB ?aS ?aL ?_
        case aO => exact lit_R HGB0.out HG0.out
        case aR => exact Kd.C_below HCd.out HBV.out
        case aF => exact (fun _ _ => trivial)
        case aB => exact HBV.out
        case aS => exact HBV.out.size
        case aL => have := H20.out; simp only [List.length_nil]; omega
        intro v3 w3 ho3 hb3 hg3 hat3
        have HO3 := Aside0.mk (show Kd.R (Kd.int .i64) 3 w3 Wd.heap.size (fun _ => True) v3 X from ho3)
        have HBV' := Aside0.mk hb3
        clear ho3 hb3 hg3 hat3
        have KV : w3.cell? ⟨W2.heap.size, 0, none⟩ = some (.slice (some ad) X.length cB) ∧ w3.cell? ⟨w.heap.size + 1, 1, none⟩ = some (.int .i64 z) := (by have h := blk_below HTd.out HBV'.out; have h2 := blk_below HXd.out HBV'.out; exact ⟨blk_cell h 0, blk_cell h2 1⟩)
        refine hK.out _ _ ?hSb2 (fun hHeld => ?_)
        case hSb2 => exact KV
        clear hK K KV
        try simp only [Act.put, List.setIfInBounds_toArray, List.set_cons_zero, List.set_cons_succ]
        clear HBV
        have HBV := HBV'
        clear HBV'
        refine wpAnyH_ready (rs := [6]) (by kernel_rfl) (by simp) ?_
        refine AllReadyH.cons rfl (fun K hK => ?_) (AllReadyH.nil)
        go_simp
        have HG6' := Aside0.mk (blk_new w3 (.cells #[.int .i64 z] 3))
        have HGB6 := Aside0.mk HBV.out.size
        have HBV' := Aside0.mk (HBV.out.alloc HBV.out.size (.cells #[.int .i64 z] 3))
        have HO3' := Aside0.mk (Kd.R_below HO3.out ((Below.refl _ _).alloc (Nat.le_refl _) (.cells #[.int .i64 z] 3)))
        have KV : (w3.alloc (.cells #[.int .i64 z] 3)).cell? ⟨W2.heap.size, 0, none⟩ = some (.slice (some ad) X.length cB) ∧ (w3.alloc (.cells #[.int .i64 z] 3)).cell? ⟨w.heap.size + 1, 1, none⟩ = some (.int .i64 z) := (by have h := blk_below HTd.out HBV'.out; have h2 := blk_below HXd.out HBV'.out; exact ⟨blk_cell h 0, blk_cell h2 1⟩)
        refine hK.out _ _ ?hSb3 (fun hHeld => ?_)
        case hSb3 => exact KV
        clear hK K KV
        try simp only [Act.put, List.setIfInBounds_toArray, List.set_cons_zero, List.set_cons_succ]
        clear HBV
        have HBV := HBV'
        have HG6 := HG6'
        clear HBV' HG6'
        generalize w3.alloc (.cells #[.int .i64 z] 3) = Vb at *
        clear HO3
        have HO3 := HO3'
        clear HO3'
        -- append the one
        refine wpAnyH_ready (rs := [7]) (by kernel_rfl) (by simp) ?_
        refine AllReadyH.cons rfl (fun K hK => ?_) (AllReadyH.nil)
        refine Kd.R_append_rows_step (Kd.int .i64) (w0 := Wd) Wd.heap.size rfl (.tmp 48) (.tmp 51) 22 3 (.int .i64 0) 8 rfl Try.underlying22 info3 rfl (by decide) (by omega) v3 X [z] (some ⟨w3.heap.size, 0, none⟩) 1 1 (fun _ => True) (fun _ => False) rfl rfl ?aO ?aR (fun _ _ h => h) (fun _ h => h.elim) ?aF ?aB ?aS ?aL ?_
        case aO => exact HO3.out
        case aR => exact lit_C HG6.out
        case aF => exact (fun _ _ => trivial)
        case aB => exact HBV.out
        case aS => exact HBV.out.size
        case aL => have := H20.out; omega
        intro v7 w7 ho7 hb7 hg7 hat7
        obtain ⟨Y, hY⟩ : ∃ Y, X ++ [z] = Y := ⟨_, rfl⟩
        have HO7 := Aside0.mk (show Kd.R (Kd.int .i64) 3 w7 Wd.heap.size (fun _ => True) v7 Y from by rw [← hY]; exact ho7)
        have HY := Aside0.mk hY
        clear hY
        have HBV' := Aside0.mk hb7
        clear ho7 hb7 hg7 hat7
        obtain ⟨A7, c7, rfl⟩ := Kd.R_slice HO7.out
        have KV : w7.cell? ⟨W2.heap.size, 0, none⟩ = some (.slice (some ad) X.length cB) ∧ w7.cell? ⟨w.heap.size + 1, 1, none⟩ = some (.int .i64 z) := (by have h := blk_below HTd.out HBV'.out; have h2 := blk_below HXd.out HBV'.out; exact ⟨blk_cell h 0, blk_cell h2 1⟩)
        refine hK.out _ _ ?hSb4 (fun hHeld => ?_)
        case hSb4 => exact KV
        clear hK K KV
        try simp only [Act.put, List.setIfInBounds_toArray, List.set_cons_zero, List.set_cons_succ]
        clear HBV
        have HBV := HBV'
        clear HBV' HO3 HG0 HG6 HGB0 HGB6
        refine held_take 8 (some 53) (v := ?va8) rfl rfl (by kernel_rfl) (by kernel_rfl) (by kernel_rfl) (fun _ _ _ h => h) (by rfl) ?ya8 (by assumption) ?_
        case ya8 => ((intro w hSw); (try dsimp only at hSw); go_simp <;> (with_reducible rfl))
        try simp only [Act.put, List.setIfInBounds_toArray, List.set_cons_zero, List.set_cons_succ]
        refine wpAnyH_ready (rs := [9]) (by kernel_rfl) (by simp) ?_
        refine AllReadyH.cons rfl (fun K hK => ?_) (AllReadyH.nil)
        have HM7 := Aside0.mk (blk_below HMd.out HBV.out)
        have m0 := blk_cell HM7.out 0
        have m1 := blk_frozen HM7.out 0
        go_simp
        have HBT8 := Aside0.mk ((HBd.out.trans (HBV.out.mono HBd.out.size)).setCell (p := ⟨W2.heap.size + 1 + 1, 0, none⟩) (by show W2.heap.size ≤ W2.heap.size + 1 + 1; omega) (.slice A7 Y.length c7))
        have HM8 := Aside0.mk (blk_put HM7.out 0 (.slice A7 Y.length c7) rfl)
        have hlt := HLT.out
        have HK8 := Aside0.mk (blk_far (p := ⟨W2.heap.size + 1 + 1, 0, none⟩) (blk_below HKd.out HBV.out) (show w.heap.size ≠ W2.heap.size + 1 + 1 from by omega) (.slice A7 Y.length c7))
        have HX8 := Aside0.mk (blk_far (p := ⟨W2.heap.size + 1 + 1, 0, none⟩) (blk_below HXd.out HBV.out) (show w.heap.size + 1 ≠ W2.heap.size + 1 + 1 from by omega) (.slice A7 Y.length c7))
        have HT8 := Aside0.mk (blk_far (p := ⟨W2.heap.size + 1 + 1, 0, none⟩) (blk_below HTd.out HBV.out) (show W2.heap.size ≠ W2.heap.size + 1 + 1 from by omega) (.slice A7 Y.length c7))
        have HL8 := Aside0.mk (blk_far (p := ⟨W2.heap.size + 1 + 1, 0, none⟩) (blk_below HLd.out HBV.out) (show W2.heap.size + 1 ≠ W2.heap.size + 1 + 1 from by omega) (.slice A7 Y.length c7))
        have HO8 := Aside0.mk (Kd.R_set HO7.out HM7.out (by intro q hq; rcases List.mem_cons.1 hq with rfl | h; (decide); (exact absurd (show q ∈ ([] : List Nat) from h) List.not_mem_nil)) 0 (.slice A7 Y.length c7))
        have HC8 := Aside0.mk (Kd.R_reads' HO8.out)
        have KV : (w7.setCell ⟨W2.heap.size + 1 + 1, 0, none⟩ (.slice A7 Y.length c7)).cell? ⟨W2.heap.size, 0, none⟩ = some (.slice (some ad) X.length cB) ∧ (w7.setCell ⟨W2.heap.size + 1 + 1, 0, none⟩ (.slice A7 Y.length c7)).cell? ⟨w.heap.size + 1, 1, none⟩ = some (.int .i64 z) := ⟨blk_cell HT8.out 0, blk_cell HX8.out 1⟩
        refine hK.out _ _ ?hSb5 (fun hHeld => ?_)
        case hSb5 => exact KV
        clear hK K KV m0 m1 hlt HM7 HO7 HO8
        try simp only [Act.put, List.setIfInBounds_toArray, List.set_cons_zero, List.set_cons_succ]
        refine wpAnyH_done (by kernel_rfl) ?_ _
        generalize w7.setCell ⟨W2.heap.size + 1 + 1, 0, none⟩ (.slice A7 Y.length c7) = w8 at *
        clear HBV HKd HXd HTd HLd HMd HBd HCd hHeld
        have t0 := blk_cell HT8.out 0
        have t1 := blk_cell HT8.out 1
        have t2 := blk_cell HT8.out 2
        have t3 := blk_cell HT8.out 3
        have u0 := fun o => blk_cell (blk_alloc HT8.out o) 0
        have u1 := fun o => blk_cell (blk_alloc HT8.out o) 1
        have u2 := fun o => blk_cell (blk_alloc HT8.out o) 2
        have u3 := fun o => blk_cell (blk_alloc HT8.out o) 3
        have v3 := fun o o' => blk_cell (blk_alloc (blk_alloc HT8.out o) o') 3
        have hwf : wrap64 (f + 1) = f + 1 := by have := HFR.out; unfold wrap64; omega
        have hwf2 : IntKind.i64.wrap (f + 1) = f + 1 := by rw [i64_w]; exact hwf
        go_wp2_with fail
        have HF2 := Aside0.mk (show (f + 1).tmod 5 ≠ f from by
          have h := HFR.out
          rcases (show f = 0 ∨ f = 1 ∨ f = 2 ∨ f = 3 ∨ f = 4 from by omega) with rfl | rfl | rfl | rfl | rfl <;> decide)
        have HP2 := Aside0.mk (show wrap64 (py + 1) ≠ py from by unfold wrap64; omega)
        have HBT9 := Aside0.mk ((HBT8.out.alloc HBT8.out.size (.cells #[.slice (some ad) X.length cB, .int .i64 ((f + 1).tmod 5), .int .i64 px, .int .i64 py] 35)).alloc (HBT8.out.alloc HBT8.out.size (.cells #[.slice (some ad) X.length cB, .int .i64 ((f + 1).tmod 5), .int .i64 px, .int .i64 py] 35)).size (.cells #[.slice (some ad) X.length cB, .int .i64 f, .int .i64 px, .int .i64 (wrap64 (py + 1))] 35))
        have HK9 := Aside0.mk (blk_alloc (blk_alloc HK8.out (.cells #[.slice (some ad) X.length cB, .int .i64 ((f + 1).tmod 5), .int .i64 px, .int .i64 py] 35)) (.cells #[.slice (some ad) X.length cB, .int .i64 f, .int .i64 px, .int .i64 (wrap64 (py + 1))] 35))
        have HT9 := Aside0.mk (blk_alloc (blk_alloc HT8.out (.cells #[.slice (some ad) X.length cB, .int .i64 ((f + 1).tmod 5), .int .i64 px, .int .i64 py] 35)) (.cells #[.slice (some ad) X.length cB, .int .i64 f, .int .i64 px, .int .i64 (wrap64 (py + 1))] 35))
        have HL9 := Aside0.mk (blk_alloc (blk_alloc HL8.out (.cells #[.slice (some ad) X.length cB, .int .i64 ((f + 1).tmod 5), .int .i64 px, .int .i64 py] 35)) (.cells #[.slice (some ad) X.length cB, .int .i64 f, .int .i64 px, .int .i64 (wrap64 (py + 1))] 35))
        have HM9 := Aside0.mk (blk_alloc (blk_alloc HM8.out (.cells #[.slice (some ad) X.length cB, .int .i64 ((f + 1).tmod 5), .int .i64 px, .int .i64 py] 35)) (.cells #[.slice (some ad) X.length cB, .int .i64 f, .int .i64 px, .int .i64 (wrap64 (py + 1))] 35))
        have HO9 := Aside0.mk (blk_alloc (blk_new w8 (.cells #[.slice (some ad) X.length cB, .int .i64 ((f + 1).tmod 5), .int .i64 px, .int .i64 py] 35)) (.cells #[.slice (some ad) X.length cB, .int .i64 f, .int .i64 px, .int .i64 (wrap64 (py + 1))] 35))
        have HP9 := Aside0.mk (show ((w8.alloc (.cells #[.slice (some ad) X.length cB, .int .i64 ((f + 1).tmod 5), .int .i64 px, .int .i64 py] 35)).alloc (.cells #[.slice (some ad) X.length cB, .int .i64 f, .int .i64 px, .int .i64 (wrap64 (py + 1))] 35)).heap[w8.heap.size + 1]? = some (.cells #[.slice (some ad) X.length cB, .int .i64 f, .int .i64 px, .int .i64 (wrap64 (py + 1))] 35 (0, 0)) from by
          have h := blk_new (w8.alloc (.cells #[.slice (some ad) X.length cB, .int .i64 ((f + 1).tmod 5), .int .i64 px, .int .i64 py] 35)) (.cells #[.slice (some ad) X.length cB, .int .i64 f, .int .i64 px, .int .i64 (wrap64 (py + 1))] 35)
          rw [World.size_alloc] at h
          exact h)
        have HCY9 := Aside0.mk (Kd.C_below HC8.out.2.2 (((Below.refl w8.heap.size w8).alloc (Nat.le_refl _) (.cells #[.slice (some ad) X.length cB, .int .i64 ((f + 1).tmod 5), .int .i64 px, .int .i64 py] 35)).alloc (by simp) (.cells #[.slice (some ad) X.length cB, .int .i64 f, .int .i64 px, .int .i64 (wrap64 (py + 1))] 35)))
        have HCX9 := Aside0.mk (Kd.C_below HC2.out HBT9.out)
        have HB9 := Aside0.mk (HB2.out.trans (HBT9.out.mono HB2.out.size))
        have HYC := Aside0.mk HC8.out.2.1
        clear t0 t1 t2 t3 u0 u1 u2 u3 v3 hwf hwf2 HK8 HX8 HT8 HL8 HM8 HC8 HBT8 HBT9
        generalize ((w8.alloc (.cells #[.slice (some ad) X.length cB, .int .i64 ((f + 1).tmod 5), .int .i64 px, .int .i64 py] 35)).alloc (.cells #[.slice (some ad) X.length cB, .int .i64 f, .int .i64 px, .int .i64 (wrap64 (py + 1))] 35)) = w9 at *
        generalize w8.heap.size = o at *
        generalize (f + 1).tmod 5 = f2 at *
        generalize wrap64 (py + 1) = p2 at *
        have HXL := Aside0.mk (show X.length ≤ 1000 from by have := H20.out; omega)
        have GY := Aside0.mk (gen_yes HSZ.out HTF.out HX.out.head HXL.out)
        have GL := Aside0.mk (gen_no HSZ.out HTF.out init f px py (by have := HXL.out; have := HL0.out; omega) (by
          have hh := HX.out.head
          have hf := HX.out.form
          have hl := HL0.out
          by_cases hi : init = []
          · exact .inl hi
          · refine .inr ⟨?_, .inl (fun e => by rw [e] at hl; omega)⟩
            rw [hf, List.getElem?_append_left (List.length_pos_iff.2 hi)] at hh
            exact hh))
        have GM := Aside0.mk (gen_no HSZ.out HTF.out Y f px py (by have := HXL.out; have := H20.out; rw [← HY.out]; simp; omega) (by
          have hh := HX.out.head
          have hl := HL0.out
          refine .inr ⟨?_, .inl (fun e => by have h := congrArg List.length (HY.out.trans e); simp at h)⟩
          rw [← HY.out, List.getElem?_append_left (by omega)]
          exact hh))
        have GO := Aside0.mk (gen_no HSZ.out HTF.out X f2 px py HXL.out (.inr ⟨HX.out.head, .inr (.inl HF2.out)⟩))
        have GP := Aside0.mk (gen_no HSZ.out HTF.out X f px p2 HXL.out (.inr ⟨HX.out.head, .inr (.inr HP2.out)⟩))
        have GZ := Aside0.mk (gen_no HSZ.out HTF.out [] 0 0 0 (by simp) (.inl rfl))
        clear HF2 HP2
        refine (alive_any _).mono ?_
        rintro e wa ⟨rfl, hb⟩
        have HB10 := Aside0.mk (HB9.out.trans (hb.mono HB9.out.size))
        have HK10 := Aside0.mk (blk_below HK9.out hb)
        have HT10 := Aside0.mk (blk_below HT9.out hb)
        have HL10 := Aside0.mk (blk_below HL9.out hb)
        have HM10 := Aside0.mk (blk_below HM9.out hb)
        have HO10 := Aside0.mk (blk_below HO9.out hb)
        have HP10 := Aside0.mk (blk_below HP9.out hb)
        have HCX10 := Aside0.mk (Kd.C_below HCX9.out hb)
        have HCY10 := Aside0.mk (Kd.C_below HCY9.out hb)
        clear hb HB9 HK9 HT9 HL9 HM9 HO9 HP9 HCX9 HCY9
        have n0 := blk_cell HK10.out 0
        have n1 := blk_cell HK10.out 1
        have n2 := blk_cell HK10.out 2
        have r0 := blk_cell HT10.out 0
        have r1 := blk_cell HT10.out 1
        have r2 := blk_cell HT10.out 2
        have r3 := blk_cell HT10.out 3
        go_wp2_with fail
        refine (gen_of GY.out (some ad) cB _ (HN.out.below HB10.out) HCX10.out hcB).mono ?_
        rintro e wb0 ⟨rfl, hb⟩
        clear n0 n1 n2 r0 r1 r2 r3
        have HB11 := Aside0.mk (HB10.out.trans (hb.mono HB10.out.size))
        have HK11 := Aside0.mk (blk_below HK10.out hb)
        have HL11 := Aside0.mk (blk_below HL10.out hb)
        have HM11 := Aside0.mk (blk_below HM10.out hb)
        have HO11 := Aside0.mk (blk_below HO10.out hb)
        have HP11 := Aside0.mk (blk_below HP10.out hb)
        have HCX11 := Aside0.mk (Kd.C_below HCX10.out hb)
        have HCY11 := Aside0.mk (Kd.C_below HCY10.out hb)
        clear hb HB10 HK10 HT10 HL10 HM10 HO10 HP10 HCX10 HCY10
        have n0 := blk_cell HK11.out 0
        have n1 := blk_cell HK11.out 1
        have n2 := blk_cell HK11.out 2
        have r0 := blk_cell HL11.out 0
        have r1 := blk_cell HL11.out 1
        have r2 := blk_cell HL11.out 2
        have r3 := blk_cell HL11.out 3
        go_wp2_with fail
        refine (gen_of GL.out (some ad) cB _ (HN.out.below HB11.out) (show Kd.C (Kd.int .i64) _ (some ad) init.length init from by have h := Kd.C_take (m := init.length) HCX11.out (by have := HL0.out; omega); rw [HX.out.take_] at h; exact h) (by have := HL0.out; omega)).mono ?_
        rintro e wb1 ⟨rfl, hb⟩
        clear n0 n1 n2 r0 r1 r2 r3
        have HB12 := Aside0.mk (HB11.out.trans (hb.mono HB11.out.size))
        have HK12 := Aside0.mk (blk_below HK11.out hb)
        have HM12 := Aside0.mk (blk_below HM11.out hb)
        have HO12 := Aside0.mk (blk_below HO11.out hb)
        have HP12 := Aside0.mk (blk_below HP11.out hb)
        have HCX12 := Aside0.mk (Kd.C_below HCX11.out hb)
        have HCY12 := Aside0.mk (Kd.C_below HCY11.out hb)
        clear hb HB11 HK11 HL11 HM11 HO11 HP11 HCX11 HCY11
        have n0 := blk_cell HK12.out 0
        have n1 := blk_cell HK12.out 1
        have n2 := blk_cell HK12.out 2
        have r0 := blk_cell HM12.out 0
        have r1 := blk_cell HM12.out 1
        have r2 := blk_cell HM12.out 2
        have r3 := blk_cell HM12.out 3
        go_wp2_with fail
        refine (gen_of GM.out A7 c7 _ (HN.out.below HB12.out) HCY12.out HYC.out).mono ?_
        rintro e wb2 ⟨rfl, hb⟩
        clear n0 n1 n2 r0 r1 r2 r3
        have HB13 := Aside0.mk (HB12.out.trans (hb.mono HB12.out.size))
        have HK13 := Aside0.mk (blk_below HK12.out hb)
        have HO13 := Aside0.mk (blk_below HO12.out hb)
        have HP13 := Aside0.mk (blk_below HP12.out hb)
        have HCX13 := Aside0.mk (Kd.C_below HCX12.out hb)
        clear hb HB12 HK12 HM12 HO12 HP12 HCX12 HCY12
        have n0 := blk_cell HK13.out 0
        have n1 := blk_cell HK13.out 1
        have n2 := blk_cell HK13.out 2
        have r0 := blk_cell HO13.out 0
        have r1 := blk_cell HO13.out 1
        have r2 := blk_cell HO13.out 2
        have r3 := blk_cell HO13.out 3
        go_wp2_with fail
        refine (gen_of GO.out (some ad) cB _ (HN.out.below HB13.out) HCX13.out hcB).mono ?_
        rintro e wb3 ⟨rfl, hb⟩
        clear n0 n1 n2 r0 r1 r2 r3
        have HB14 := Aside0.mk (HB13.out.trans (hb.mono HB13.out.size))
        have HK14 := Aside0.mk (blk_below HK13.out hb)
        have HP14 := Aside0.mk (blk_below HP13.out hb)
        have HCX14 := Aside0.mk (Kd.C_below HCX13.out hb)
        clear hb HB13 HK13 HO13 HP13 HCX13
        have n0 := blk_cell HK14.out 0
        have n1 := blk_cell HK14.out 1
        have n2 := blk_cell HK14.out 2
        have r0 := blk_cell HP14.out 0
        have r1 := blk_cell HP14.out 1
        have r2 := blk_cell HP14.out 2
        have r3 := blk_cell HP14.out 3
        go_wp2_with fail
        refine (gen_of GP.out (some ad) cB _ (HN.out.below HB14.out) HCX14.out hcB).mono ?_
        rintro e wb4 ⟨rfl, hb⟩
        clear n0 n1 n2 r0 r1 r2 r3
        have HB15 := Aside0.mk (HB14.out.trans (hb.mono HB14.out.size))
        have HK15 := Aside0.mk (blk_below HK14.out hb)
        clear hb HB14 HK14 HP14 HCX14
        have n0 := blk_cell HK15.out 0
        have n1 := blk_cell HK15.out 1
        have n2 := blk_cell HK15.out 2
        go_wp2_with fail
        refine (gen_of GZ.out none 0 _ (HN.out.below HB15.out) (C_nil09 _) (Nat.le_refl 0)).mono ?_
        rintro e wb5 ⟨rfl, hb⟩
        clear n0 n1 n2
        have HB16 := Aside0.mk (HB15.out.trans (hb.mono HB15.out.size))
        clear hb HB15 HK15
        go_wp2_with fail
        go_ret
        exact ⟨rfl, HB16.out⟩
      · go_simp
        have HG6' := Aside0.mk (blk_new Va (.cells #[.int .i64 z] 3))
        have HGB6 := Aside0.mk HBV.out.size
        have HBV' := Aside0.mk (HBV.out.alloc HBV.out.size (.cells #[.int .i64 z] 3))
        have HG0' := Aside0.mk (blk_alloc HG0.out (.cells #[.int .i64 z] 3))
        have HLV := Aside0.mk (blk_lt HG0.out)
        have KV : (Va.alloc (.cells #[.int .i64 z] 3)).cell? ⟨W2.heap.size, 0, none⟩ = some (.slice (some ad) X.length cB) ∧ (Va.alloc (.cells #[.int .i64 z] 3)).cell? ⟨w.heap.size + 1, 1, none⟩ = some (.int .i64 z) := (by have h := blk_below HTd.out HBV'.out; have h2 := blk_below HXd.out HBV'.out; exact ⟨blk_cell h 0, blk_cell h2 1⟩)
        refine hK.out _ _ ?hSb6 (fun hHeld => ?_)
        case hSb6 => exact KV
        clear hK K KV
        try simp only [Act.put, List.setIfInBounds_toArray, List.set_cons_zero, List.set_cons_succ]
        clear HBV
        have HBV := HBV'
        have HG6 := HG6'
        clear HBV' HG6'
        generalize Va.alloc (.cells #[.int .i64 z] 3) = Vb at *
        clear HG0
        have HG0 := HG0'
        clear HG0'
        refine wpAnyH_ready (rs := [3]) (by kernel_rfl) (by simp) ?_
        refine AllReadyH.cons rfl (fun K hK => ?_) (AllReadyH.nil)
        refine Kd.R_append_rows_step (Kd.int .i64) (w0 := Wd) Wd.heap.size rfl (.tmp 45) (.tmp 47) 22 3 (.int .i64 0) 8 rfl Try.underlying22 info3 rfl (by decide) (by omega) (.slice (some ⟨Wd.heap.size, 0, none⟩) 0 0) [] X (some ad) X.length cB (fun _ => True) (fun _ => False) rfl rfl ?aO ?aR (fun _ _ h => h) (fun _ h => h.elim) ?aF ?aB ?aS ?aL ?_
        case aO => exact lit_R HGB0.out HG0.out
        case aR => exact Kd.C_below HCd.out HBV.out
        case aF => exact (fun _ _ => trivial)
        case aB => exact HBV.out
        case aS => exact HBV.out.size
        case aL => have := H20.out; simp only [List.length_nil]; omega
        intro v3 w3 ho3 hb3 hg3 hat3
        have HO3 := Aside0.mk (show Kd.R (Kd.int .i64) 3 w3 Wd.heap.size (fun _ => True) v3 X from ho3)
        have HBV' := Aside0.mk hb3
        have HG6' := Aside0.mk (blk_grown HG6.out hg3 (by show some Va.heap.size ≠ some Wd.heap.size; intro e; injection e with e; have := HLV.out; omega))
        clear HG6
        have HG6 := HG6'
        clear HG6' HLV
        clear ho3 hb3 hg3 hat3
        have KV : w3.cell? ⟨W2.heap.size, 0, none⟩ = some (.slice (some ad) X.length cB) ∧ w3.cell? ⟨w.heap.size + 1, 1, none⟩ = some (.int .i64 z) := (by have h := blk_below HTd.out HBV'.out; have h2 := blk_below HXd.out HBV'.out; exact ⟨blk_cell h 0, blk_cell h2 1⟩)
        refine hK.out _ _ ?hSb7 (fun hHeld => ?_)
        case hSb7 => exact KV
        clear hK K KV
        try simp only [Act.put, List.setIfInBounds_toArray, List.set_cons_zero, List.set_cons_succ]
        clear HBV
        have HBV := HBV'
        clear HBV'
        -- append the one
        refine wpAnyH_ready (rs := [7]) (by kernel_rfl) (by simp) ?_
        refine AllReadyH.cons rfl (fun K hK => ?_) (AllReadyH.nil)
        refine Kd.R_append_rows_step (Kd.int .i64) (w0 := Wd) Wd.heap.size rfl (.tmp 48) (.tmp 51) 22 3 (.int .i64 0) 8 rfl Try.underlying22 info3 rfl (by decide) (by omega) v3 X [z] (some ⟨Va.heap.size, 0, none⟩) 1 1 (fun _ => True) (fun _ => False) rfl rfl ?aO ?aR (fun _ _ h => h) (fun _ h => h.elim) ?aF ?aB ?aS ?aL ?_
        case aO => exact HO3.out
        case aR => exact lit_C HG6.out
        case aF => exact (fun _ _ => trivial)
        case aB => exact HBV.out
        case aS => exact HBV.out.size
        case aL => have := H20.out; omega
        intro v7 w7 ho7 hb7 hg7 hat7
        obtain ⟨Y, hY⟩ : ∃ Y, X ++ [z] = Y := ⟨_, rfl⟩
        have HO7 := Aside0.mk (show Kd.R (Kd.int .i64) 3 w7 Wd.heap.size (fun _ => True) v7 Y from by rw [← hY]; exact ho7)
        have HY := Aside0.mk hY
        clear hY
        have HBV' := Aside0.mk hb7
        clear ho7 hb7 hg7 hat7
        obtain ⟨A7, c7, rfl⟩ := Kd.R_slice HO7.out
        have KV : w7.cell? ⟨W2.heap.size, 0, none⟩ = some (.slice (some ad) X.length cB) ∧ w7.cell? ⟨w.heap.size + 1, 1, none⟩ = some (.int .i64 z) := (by have h := blk_below HTd.out HBV'.out; have h2 := blk_below HXd.out HBV'.out; exact ⟨blk_cell h 0, blk_cell h2 1⟩)
        refine hK.out _ _ ?hSb8 (fun hHeld => ?_)
        case hSb8 => exact KV
        clear hK K KV
        try simp only [Act.put, List.setIfInBounds_toArray, List.set_cons_zero, List.set_cons_succ]
        clear HBV
        have HBV := HBV'
        clear HBV' HO3 HG0 HG6 HGB0 HGB6
        refine held_take 8 (some 53) (v := ?va8) rfl rfl (by kernel_rfl) (by kernel_rfl) (by kernel_rfl) (fun _ _ _ h => h) (by rfl) ?ya8 (by assumption) ?_
        case ya8 => ((intro w hSw); (try dsimp only at hSw); go_simp <;> (with_reducible rfl))
        try simp only [Act.put, List.setIfInBounds_toArray, List.set_cons_zero, List.set_cons_succ]
        refine wpAnyH_ready (rs := [9]) (by kernel_rfl) (by simp) ?_
        refine AllReadyH.cons rfl (fun K hK => ?_) (AllReadyH.nil)
        have HM7 := Aside0.mk (blk_below HMd.out HBV.out)
        have m0 := blk_cell HM7.out 0
        have m1 := blk_frozen HM7.out 0
        go_simp
        have HBT8 := Aside0.mk ((HBd.out.trans (HBV.out.mono HBd.out.size)).setCell (p := ⟨W2.heap.size + 1 + 1, 0, none⟩) (by show W2.heap.size ≤ W2.heap.size + 1 + 1; omega) (.slice A7 Y.length c7))
        have HM8 := Aside0.mk (blk_put HM7.out 0 (.slice A7 Y.length c7) rfl)
        have hlt := HLT.out
        have HK8 := Aside0.mk (blk_far (p := ⟨W2.heap.size + 1 + 1, 0, none⟩) (blk_below HKd.out HBV.out) (show w.heap.size ≠ W2.heap.size + 1 + 1 from by omega) (.slice A7 Y.length c7))
        have HX8 := Aside0.mk (blk_far (p := ⟨W2.heap.size + 1 + 1, 0, none⟩) (blk_below HXd.out HBV.out) (show w.heap.size + 1 ≠ W2.heap.size + 1 + 1 from by omega) (.slice A7 Y.length c7))
        have HT8 := Aside0.mk (blk_far (p := ⟨W2.heap.size + 1 + 1, 0, none⟩) (blk_below HTd.out HBV.out) (show W2.heap.size ≠ W2.heap.size + 1 + 1 from by omega) (.slice A7 Y.length c7))
        have HL8 := Aside0.mk (blk_far (p := ⟨W2.heap.size + 1 + 1, 0, none⟩) (blk_below HLd.out HBV.out) (show W2.heap.size + 1 ≠ W2.heap.size + 1 + 1 from by omega) (.slice A7 Y.length c7))
        have HO8 := Aside0.mk (Kd.R_set HO7.out HM7.out (by intro q hq; rcases List.mem_cons.1 hq with rfl | h; (decide); (exact absurd (show q ∈ ([] : List Nat) from h) List.not_mem_nil)) 0 (.slice A7 Y.length c7))
        have HC8 := Aside0.mk (Kd.R_reads' HO8.out)
        have KV : (w7.setCell ⟨W2.heap.size + 1 + 1, 0, none⟩ (.slice A7 Y.length c7)).cell? ⟨W2.heap.size, 0, none⟩ = some (.slice (some ad) X.length cB) ∧ (w7.setCell ⟨W2.heap.size + 1 + 1, 0, none⟩ (.slice A7 Y.length c7)).cell? ⟨w.heap.size + 1, 1, none⟩ = some (.int .i64 z) := ⟨blk_cell HT8.out 0, blk_cell HX8.out 1⟩
        refine hK.out _ _ ?hSb9 (fun hHeld => ?_)
        case hSb9 => exact KV
        clear hK K KV m0 m1 hlt HM7 HO7 HO8
        try simp only [Act.put, List.setIfInBounds_toArray, List.set_cons_zero, List.set_cons_succ]
        refine wpAnyH_done (by kernel_rfl) ?_ _
        generalize w7.setCell ⟨W2.heap.size + 1 + 1, 0, none⟩ (.slice A7 Y.length c7) = w8 at *
        clear HBV HKd HXd HTd HLd HMd HBd HCd hHeld
        have t0 := blk_cell HT8.out 0
        have t1 := blk_cell HT8.out 1
        have t2 := blk_cell HT8.out 2
        have t3 := blk_cell HT8.out 3
        have u0 := fun o => blk_cell (blk_alloc HT8.out o) 0
        have u1 := fun o => blk_cell (blk_alloc HT8.out o) 1
        have u2 := fun o => blk_cell (blk_alloc HT8.out o) 2
        have u3 := fun o => blk_cell (blk_alloc HT8.out o) 3
        have v3 := fun o o' => blk_cell (blk_alloc (blk_alloc HT8.out o) o') 3
        have hwf : wrap64 (f + 1) = f + 1 := by have := HFR.out; unfold wrap64; omega
        have hwf2 : IntKind.i64.wrap (f + 1) = f + 1 := by rw [i64_w]; exact hwf
        go_wp2_with fail
        have HF2 := Aside0.mk (show (f + 1).tmod 5 ≠ f from by
          have h := HFR.out
          rcases (show f = 0 ∨ f = 1 ∨ f = 2 ∨ f = 3 ∨ f = 4 from by omega) with rfl | rfl | rfl | rfl | rfl <;> decide)
        have HP2 := Aside0.mk (show wrap64 (py + 1) ≠ py from by unfold wrap64; omega)
        have HBT9 := Aside0.mk ((HBT8.out.alloc HBT8.out.size (.cells #[.slice (some ad) X.length cB, .int .i64 ((f + 1).tmod 5), .int .i64 px, .int .i64 py] 35)).alloc (HBT8.out.alloc HBT8.out.size (.cells #[.slice (some ad) X.length cB, .int .i64 ((f + 1).tmod 5), .int .i64 px, .int .i64 py] 35)).size (.cells #[.slice (some ad) X.length cB, .int .i64 f, .int .i64 px, .int .i64 (wrap64 (py + 1))] 35))
        have HK9 := Aside0.mk (blk_alloc (blk_alloc HK8.out (.cells #[.slice (some ad) X.length cB, .int .i64 ((f + 1).tmod 5), .int .i64 px, .int .i64 py] 35)) (.cells #[.slice (some ad) X.length cB, .int .i64 f, .int .i64 px, .int .i64 (wrap64 (py + 1))] 35))
        have HT9 := Aside0.mk (blk_alloc (blk_alloc HT8.out (.cells #[.slice (some ad) X.length cB, .int .i64 ((f + 1).tmod 5), .int .i64 px, .int .i64 py] 35)) (.cells #[.slice (some ad) X.length cB, .int .i64 f, .int .i64 px, .int .i64 (wrap64 (py + 1))] 35))
        have HL9 := Aside0.mk (blk_alloc (blk_alloc HL8.out (.cells #[.slice (some ad) X.length cB, .int .i64 ((f + 1).tmod 5), .int .i64 px, .int .i64 py] 35)) (.cells #[.slice (some ad) X.length cB, .int .i64 f, .int .i64 px, .int .i64 (wrap64 (py + 1))] 35))
        have HM9 := Aside0.mk (blk_alloc (blk_alloc HM8.out (.cells #[.slice (some ad) X.length cB, .int .i64 ((f + 1).tmod 5), .int .i64 px, .int .i64 py] 35)) (.cells #[.slice (some ad) X.length cB, .int .i64 f, .int .i64 px, .int .i64 (wrap64 (py + 1))] 35))
        have HO9 := Aside0.mk (blk_alloc (blk_new w8 (.cells #[.slice (some ad) X.length cB, .int .i64 ((f + 1).tmod 5), .int .i64 px, .int .i64 py] 35)) (.cells #[.slice (some ad) X.length cB, .int .i64 f, .int .i64 px, .int .i64 (wrap64 (py + 1))] 35))
        have HP9 := Aside0.mk (show ((w8.alloc (.cells #[.slice (some ad) X.length cB, .int .i64 ((f + 1).tmod 5), .int .i64 px, .int .i64 py] 35)).alloc (.cells #[.slice (some ad) X.length cB, .int .i64 f, .int .i64 px, .int .i64 (wrap64 (py + 1))] 35)).heap[w8.heap.size + 1]? = some (.cells #[.slice (some ad) X.length cB, .int .i64 f, .int .i64 px, .int .i64 (wrap64 (py + 1))] 35 (0, 0)) from by
          have h := blk_new (w8.alloc (.cells #[.slice (some ad) X.length cB, .int .i64 ((f + 1).tmod 5), .int .i64 px, .int .i64 py] 35)) (.cells #[.slice (some ad) X.length cB, .int .i64 f, .int .i64 px, .int .i64 (wrap64 (py + 1))] 35)
          rw [World.size_alloc] at h
          exact h)
        have HCY9 := Aside0.mk (Kd.C_below HC8.out.2.2 (((Below.refl w8.heap.size w8).alloc (Nat.le_refl _) (.cells #[.slice (some ad) X.length cB, .int .i64 ((f + 1).tmod 5), .int .i64 px, .int .i64 py] 35)).alloc (by simp) (.cells #[.slice (some ad) X.length cB, .int .i64 f, .int .i64 px, .int .i64 (wrap64 (py + 1))] 35)))
        have HCX9 := Aside0.mk (Kd.C_below HC2.out HBT9.out)
        have HB9 := Aside0.mk (HB2.out.trans (HBT9.out.mono HB2.out.size))
        have HYC := Aside0.mk HC8.out.2.1
        clear t0 t1 t2 t3 u0 u1 u2 u3 v3 hwf hwf2 HK8 HX8 HT8 HL8 HM8 HC8 HBT8 HBT9
        generalize ((w8.alloc (.cells #[.slice (some ad) X.length cB, .int .i64 ((f + 1).tmod 5), .int .i64 px, .int .i64 py] 35)).alloc (.cells #[.slice (some ad) X.length cB, .int .i64 f, .int .i64 px, .int .i64 (wrap64 (py + 1))] 35)) = w9 at *
        generalize w8.heap.size = o at *
        generalize (f + 1).tmod 5 = f2 at *
        generalize wrap64 (py + 1) = p2 at *
        have HXL := Aside0.mk (show X.length ≤ 1000 from by have := H20.out; omega)
        have GY := Aside0.mk (gen_yes HSZ.out HTF.out HX.out.head HXL.out)
        have GL := Aside0.mk (gen_no HSZ.out HTF.out init f px py (by have := HXL.out; have := HL0.out; omega) (by
          have hh := HX.out.head
          have hf := HX.out.form
          have hl := HL0.out
          by_cases hi : init = []
          · exact .inl hi
          · refine .inr ⟨?_, .inl (fun e => by rw [e] at hl; omega)⟩
            rw [hf, List.getElem?_append_left (List.length_pos_iff.2 hi)] at hh
            exact hh))
        have GM := Aside0.mk (gen_no HSZ.out HTF.out Y f px py (by have := HXL.out; have := H20.out; rw [← HY.out]; simp; omega) (by
          have hh := HX.out.head
          have hl := HL0.out
          refine .inr ⟨?_, .inl (fun e => by have h := congrArg List.length (HY.out.trans e); simp at h)⟩
          rw [← HY.out, List.getElem?_append_left (by omega)]
          exact hh))
        have GO := Aside0.mk (gen_no HSZ.out HTF.out X f2 px py HXL.out (.inr ⟨HX.out.head, .inr (.inl HF2.out)⟩))
        have GP := Aside0.mk (gen_no HSZ.out HTF.out X f px p2 HXL.out (.inr ⟨HX.out.head, .inr (.inr HP2.out)⟩))
        have GZ := Aside0.mk (gen_no HSZ.out HTF.out [] 0 0 0 (by simp) (.inl rfl))
        clear HF2 HP2
        refine (alive_any _).mono ?_
        rintro e wa ⟨rfl, hb⟩
        have HB10 := Aside0.mk (HB9.out.trans (hb.mono HB9.out.size))
        have HK10 := Aside0.mk (blk_below HK9.out hb)
        have HT10 := Aside0.mk (blk_below HT9.out hb)
        have HL10 := Aside0.mk (blk_below HL9.out hb)
        have HM10 := Aside0.mk (blk_below HM9.out hb)
        have HO10 := Aside0.mk (blk_below HO9.out hb)
        have HP10 := Aside0.mk (blk_below HP9.out hb)
        have HCX10 := Aside0.mk (Kd.C_below HCX9.out hb)
        have HCY10 := Aside0.mk (Kd.C_below HCY9.out hb)
        clear hb HB9 HK9 HT9 HL9 HM9 HO9 HP9 HCX9 HCY9
        have n0 := blk_cell HK10.out 0
        have n1 := blk_cell HK10.out 1
        have n2 := blk_cell HK10.out 2
        have r0 := blk_cell HT10.out 0
        have r1 := blk_cell HT10.out 1
        have r2 := blk_cell HT10.out 2
        have r3 := blk_cell HT10.out 3
        go_wp2_with fail
        refine (gen_of GY.out (some ad) cB _ (HN.out.below HB10.out) HCX10.out hcB).mono ?_
        rintro e wb0 ⟨rfl, hb⟩
        clear n0 n1 n2 r0 r1 r2 r3
        have HB11 := Aside0.mk (HB10.out.trans (hb.mono HB10.out.size))
        have HK11 := Aside0.mk (blk_below HK10.out hb)
        have HL11 := Aside0.mk (blk_below HL10.out hb)
        have HM11 := Aside0.mk (blk_below HM10.out hb)
        have HO11 := Aside0.mk (blk_below HO10.out hb)
        have HP11 := Aside0.mk (blk_below HP10.out hb)
        have HCX11 := Aside0.mk (Kd.C_below HCX10.out hb)
        have HCY11 := Aside0.mk (Kd.C_below HCY10.out hb)
        clear hb HB10 HK10 HT10 HL10 HM10 HO10 HP10 HCX10 HCY10
        have n0 := blk_cell HK11.out 0
        have n1 := blk_cell HK11.out 1
        have n2 := blk_cell HK11.out 2
        have r0 := blk_cell HL11.out 0
        have r1 := blk_cell HL11.out 1
        have r2 := blk_cell HL11.out 2
        have r3 := blk_cell HL11.out 3
        go_wp2_with fail
        refine (gen_of GL.out (some ad) cB _ (HN.out.below HB11.out) (show Kd.C (Kd.int .i64) _ (some ad) init.length init from by have h := Kd.C_take (m := init.length) HCX11.out (by have := HL0.out; omega); rw [HX.out.take_] at h; exact h) (by have := HL0.out; omega)).mono ?_
        rintro e wb1 ⟨rfl, hb⟩
        clear n0 n1 n2 r0 r1 r2 r3
        have HB12 := Aside0.mk (HB11.out.trans (hb.mono HB11.out.size))
        have HK12 := Aside0.mk (blk_below HK11.out hb)
        have HM12 := Aside0.mk (blk_below HM11.out hb)
        have HO12 := Aside0.mk (blk_below HO11.out hb)
        have HP12 := Aside0.mk (blk_below HP11.out hb)
        have HCX12 := Aside0.mk (Kd.C_below HCX11.out hb)
        have HCY12 := Aside0.mk (Kd.C_below HCY11.out hb)
        clear hb HB11 HK11 HL11 HM11 HO11 HP11 HCX11 HCY11
        have n0 := blk_cell HK12.out 0
        have n1 := blk_cell HK12.out 1
        have n2 := blk_cell HK12.out 2
        have r0 := blk_cell HM12.out 0
        have r1 := blk_cell HM12.out 1
        have r2 := blk_cell HM12.out 2
        have r3 := blk_cell HM12.out 3
        go_wp2_with fail
        refine (gen_of GM.out A7 c7 _ (HN.out.below HB12.out) HCY12.out HYC.out).mono ?_
        rintro e wb2 ⟨rfl, hb⟩
        clear n0 n1 n2 r0 r1 r2 r3
        have HB13 := Aside0.mk (HB12.out.trans (hb.mono HB12.out.size))
        have HK13 := Aside0.mk (blk_below HK12.out hb)
        have HO13 := Aside0.mk (blk_below HO12.out hb)
        have HP13 := Aside0.mk (blk_below HP12.out hb)
        have HCX13 := Aside0.mk (Kd.C_below HCX12.out hb)
        clear hb HB12 HK12 HM12 HO12 HP12 HCX12 HCY12
        have n0 := blk_cell HK13.out 0
        have n1 := blk_cell HK13.out 1
        have n2 := blk_cell HK13.out 2
        have r0 := blk_cell HO13.out 0
        have r1 := blk_cell HO13.out 1
        have r2 := blk_cell HO13.out 2
        have r3 := blk_cell HO13.out 3
        go_wp2_with fail
        refine (gen_of GO.out (some ad) cB _ (HN.out.below HB13.out) HCX13.out hcB).mono ?_
        rintro e wb3 ⟨rfl, hb⟩
        clear n0 n1 n2 r0 r1 r2 r3
        have HB14 := Aside0.mk (HB13.out.trans (hb.mono HB13.out.size))
        have HK14 := Aside0.mk (blk_below HK13.out hb)
        have HP14 := Aside0.mk (blk_below HP13.out hb)
        have HCX14 := Aside0.mk (Kd.C_below HCX13.out hb)
        clear hb HB13 HK13 HO13 HP13 HCX13
        have n0 := blk_cell HK14.out 0
        have n1 := blk_cell HK14.out 1
        have n2 := blk_cell HK14.out 2
        have r0 := blk_cell HP14.out 0
        have r1 := blk_cell HP14.out 1
        have r2 := blk_cell HP14.out 2
        have r3 := blk_cell HP14.out 3
        go_wp2_with fail
        refine (gen_of GP.out (some ad) cB _ (HN.out.below HB14.out) HCX14.out hcB).mono ?_
        rintro e wb4 ⟨rfl, hb⟩
        clear n0 n1 n2 r0 r1 r2 r3
        have HB15 := Aside0.mk (HB14.out.trans (hb.mono HB14.out.size))
        have HK15 := Aside0.mk (blk_below HK14.out hb)
        clear hb HB14 HK14 HP14 HCX14
        have n0 := blk_cell HK15.out 0
        have n1 := blk_cell HK15.out 1
        have n2 := blk_cell HK15.out 2
        go_wp2_with fail
        refine (gen_of GZ.out none 0 _ (HN.out.below HB15.out) (C_nil09 _) (Nat.le_refl 0)).mono ?_
        rintro e wb5 ⟨rfl, hb⟩
        clear n0 n1 n2
        have HB16 := Aside0.mk (HB15.out.trans (hb.mono HB15.out.size))
        clear hb HB15 HK15
        go_wp2_with fail
        go_ret
        exact ⟨rfl, HB16.out⟩
    · go_simp
      have HG6' := Aside0.mk (blk_new Wd (.cells #[.int .i64 z] 3))
      have HGB6 := Aside0.mk HBV.out.size
      have HBV' := Aside0.mk (HBV.out.alloc HBV.out.size (.cells #[.int .i64 z] 3))
      have KV : (Wd.alloc (.cells #[.int .i64 z] 3)).cell? ⟨W2.heap.size, 0, none⟩ = some (.slice (some ad) X.length cB) ∧ (Wd.alloc (.cells #[.int .i64 z] 3)).cell? ⟨w.heap.size + 1, 1, none⟩ = some (.int .i64 z) := (by have h := blk_below HTd.out HBV'.out; have h2 := blk_below HXd.out HBV'.out; exact ⟨blk_cell h 0, blk_cell h2 1⟩)
      refine hK.out _ _ ?hSb10 (fun hHeld => ?_)
      case hSb10 => exact KV
      clear hK K KV
      try simp only [Act.put, List.setIfInBounds_toArray, List.set_cons_zero, List.set_cons_succ]
      clear HBV
      have HBV := HBV'
      have HG6 := HG6'
      clear HBV' HG6'
      generalize Wd.alloc (.cells #[.int .i64 z] 3) = Va at *
      refine wpAnyH_ready (rs := [0]) (by kernel_rfl) (by simp) ?_
      refine AllReadyH.cons rfl (fun K hK => ?_) (AllReadyH.nil)
      go_simp
      have HG0' := Aside0.mk (blk_new Va (.cells #[] 3))
      have HGB0 := Aside0.mk HBV.out.size
      have HBV' := Aside0.mk (HBV.out.alloc HBV.out.size (.cells #[] 3))
      have HG6' := Aside0.mk (blk_alloc HG6.out (.cells #[] 3))
      have HLV := Aside0.mk (blk_lt HG6.out)
      have KV : (Va.alloc (.cells #[] 3)).cell? ⟨W2.heap.size, 0, none⟩ = some (.slice (some ad) X.length cB) ∧ (Va.alloc (.cells #[] 3)).cell? ⟨w.heap.size + 1, 1, none⟩ = some (.int .i64 z) := (by have h := blk_below HTd.out HBV'.out; have h2 := blk_below HXd.out HBV'.out; exact ⟨blk_cell h 0, blk_cell h2 1⟩)
      refine hK.out _ _ ?hSb11 (fun hHeld => ?_)
      case hSb11 => exact KV
      clear hK K KV
      try simp only [Act.put, List.setIfInBounds_toArray, List.set_cons_zero, List.set_cons_succ]
      clear HBV
      have HBV := HBV'
      have HG0 := HG0'
      clear HBV' HG0'
      generalize Va.alloc (.cells #[] 3) = Vb at *
      clear HG6
      have HG6 := HG6'
      clear HG6'
      refine wpAnyH_ready (rs := [3]) (by kernel_rfl) (by simp) ?_
      refine AllReadyH.cons rfl (fun K hK => ?_) (AllReadyH.nil)
      refine Kd.R_append_rows_step (Kd.int .i64) (w0 := Wd) Wd.heap.size rfl (.tmp 45) (.tmp 47) 22 3 (.int .i64 0) 8 rfl Try.underlying22 info3 rfl (by decide) (by omega) (.slice (some ⟨Va.heap.size, 0, none⟩) 0 0) [] X (some ad) X.length cB (fun _ => True) (fun _ => False) rfl rfl ?aO ?aR (fun _ _ h => h) (fun _ h => h.elim) ?aF ?aB ?aS ?aL ?_
      case aO => exact lit_R HGB0.out HG0.out
      case aR => exact Kd.C_below HCd.out HBV.out
      case aF => exact (fun _ _ => trivial)
      case aB => exact HBV.out
      case aS => exact HBV.out.size
      case aL => have := H20.out; simp only [List.length_nil]; omega
      intro v3 w3 ho3 hb3 hg3 hat3
      have HO3 := Aside0.mk (show Kd.R (Kd.int .i64) 3 w3 Wd.heap.size (fun _ => True) v3 X from ho3)
      have HBV' := Aside0.mk hb3
      have HG6' := Aside0.mk (blk_grown HG6.out hg3 (by show some Wd.heap.size ≠ some Va.heap.size; intro e; injection e with e; have := HLV.out; omega))
      clear HG6
      have HG6 := HG6'
      clear HG6' HLV
      clear ho3 hb3 hg3 hat3
      have KV : w3.cell? ⟨W2.heap.size, 0, none⟩ = some (.slice (some ad) X.length cB) ∧ w3.cell? ⟨w.heap.size + 1, 1, none⟩ = some (.int .i64 z) := (by have h := blk_below HTd.out HBV'.out; have h2 := blk_below HXd.out HBV'.out; exact ⟨blk_cell h 0, blk_cell h2 1⟩)
      refine hK.out _ _ ?hSb12 (fun hHeld => ?_)
      case hSb12 => exact KV
      clear hK K KV
      try simp only [Act.put, List.setIfInBounds_toArray, List.set_cons_zero, List.set_cons_succ]
      clear HBV
      have HBV := HBV'
      clear HBV'
      -- append the one
      refine wpAnyH_ready (rs := [7]) (by kernel_rfl) (by simp) ?_
      refine AllReadyH.cons rfl (fun K hK => ?_) (AllReadyH.nil)
      refine Kd.R_append_rows_step (Kd.int .i64) (w0 := Wd) Wd.heap.size rfl (.tmp 48) (.tmp 51) 22 3 (.int .i64 0) 8 rfl Try.underlying22 info3 rfl (by decide) (by omega) v3 X [z] (some ⟨Wd.heap.size, 0, none⟩) 1 1 (fun _ => True) (fun _ => False) rfl rfl ?aO ?aR (fun _ _ h => h) (fun _ h => h.elim) ?aF ?aB ?aS ?aL ?_
      case aO => exact HO3.out
      case aR => exact lit_C HG6.out
      case aF => exact (fun _ _ => trivial)
      case aB => exact HBV.out
      case aS => exact HBV.out.size
      case aL => have := H20.out; omega
      intro v7 w7 ho7 hb7 hg7 hat7
      obtain ⟨Y, hY⟩ : ∃ Y, X ++ [z] = Y := ⟨_, rfl⟩
      have HO7 := Aside0.mk (show Kd.R (Kd.int .i64) 3 w7 Wd.heap.size (fun _ => True) v7 Y from by rw [← hY]; exact ho7)
      have HY := Aside0.mk hY
      clear hY
      have HBV' := Aside0.mk hb7
      clear ho7 hb7 hg7 hat7
      obtain ⟨A7, c7, rfl⟩ := Kd.R_slice HO7.out
      have KV : w7.cell? ⟨W2.heap.size, 0, none⟩ = some (.slice (some ad) X.length cB) ∧ w7.cell? ⟨w.heap.size + 1, 1, none⟩ = some (.int .i64 z) := (by have h := blk_below HTd.out HBV'.out; have h2 := blk_below HXd.out HBV'.out; exact ⟨blk_cell h 0, blk_cell h2 1⟩)
      refine hK.out _ _ ?hSb13 (fun hHeld => ?_)
      case hSb13 => exact KV
      clear hK K KV
      try simp only [Act.put, List.setIfInBounds_toArray, List.set_cons_zero, List.set_cons_succ]
      clear HBV
      have HBV := HBV'
      clear HBV' HO3 HG0 HG6 HGB0 HGB6
      refine held_take 8 (some 53) (v := ?va8) rfl rfl (by kernel_rfl) (by kernel_rfl) (by kernel_rfl) (fun _ _ _ h => h) (by rfl) ?ya8 (by assumption) ?_
      case ya8 => ((intro w hSw); (try dsimp only at hSw); go_simp <;> (with_reducible rfl))
      try simp only [Act.put, List.setIfInBounds_toArray, List.set_cons_zero, List.set_cons_succ]
      refine wpAnyH_ready (rs := [9]) (by kernel_rfl) (by simp) ?_
      refine AllReadyH.cons rfl (fun K hK => ?_) (AllReadyH.nil)
      have HM7 := Aside0.mk (blk_below HMd.out HBV.out)
      have m0 := blk_cell HM7.out 0
      have m1 := blk_frozen HM7.out 0
      go_simp
      have HBT8 := Aside0.mk ((HBd.out.trans (HBV.out.mono HBd.out.size)).setCell (p := ⟨W2.heap.size + 1 + 1, 0, none⟩) (by show W2.heap.size ≤ W2.heap.size + 1 + 1; omega) (.slice A7 Y.length c7))
      have HM8 := Aside0.mk (blk_put HM7.out 0 (.slice A7 Y.length c7) rfl)
      have hlt := HLT.out
      have HK8 := Aside0.mk (blk_far (p := ⟨W2.heap.size + 1 + 1, 0, none⟩) (blk_below HKd.out HBV.out) (show w.heap.size ≠ W2.heap.size + 1 + 1 from by omega) (.slice A7 Y.length c7))
      have HX8 := Aside0.mk (blk_far (p := ⟨W2.heap.size + 1 + 1, 0, none⟩) (blk_below HXd.out HBV.out) (show w.heap.size + 1 ≠ W2.heap.size + 1 + 1 from by omega) (.slice A7 Y.length c7))
      have HT8 := Aside0.mk (blk_far (p := ⟨W2.heap.size + 1 + 1, 0, none⟩) (blk_below HTd.out HBV.out) (show W2.heap.size ≠ W2.heap.size + 1 + 1 from by omega) (.slice A7 Y.length c7))
      have HL8 := Aside0.mk (blk_far (p := ⟨W2.heap.size + 1 + 1, 0, none⟩) (blk_below HLd.out HBV.out) (show W2.heap.size + 1 ≠ W2.heap.size + 1 + 1 from by omega) (.slice A7 Y.length c7))
      have HO8 := Aside0.mk (Kd.R_set HO7.out HM7.out (by intro q hq; rcases List.mem_cons.1 hq with rfl | h; (decide); (exact absurd (show q ∈ ([] : List Nat) from h) List.not_mem_nil)) 0 (.slice A7 Y.length c7))
      have HC8 := Aside0.mk (Kd.R_reads' HO8.out)
      have KV : (w7.setCell ⟨W2.heap.size + 1 + 1, 0, none⟩ (.slice A7 Y.length c7)).cell? ⟨W2.heap.size, 0, none⟩ = some (.slice (some ad) X.length cB) ∧ (w7.setCell ⟨W2.heap.size + 1 + 1, 0, none⟩ (.slice A7 Y.length c7)).cell? ⟨w.heap.size + 1, 1, none⟩ = some (.int .i64 z) := ⟨blk_cell HT8.out 0, blk_cell HX8.out 1⟩
      refine hK.out _ _ ?hSb14 (fun hHeld => ?_)
      case hSb14 => exact KV
      clear hK K KV m0 m1 hlt HM7 HO7 HO8
      try simp only [Act.put, List.setIfInBounds_toArray, List.set_cons_zero, List.set_cons_succ]
      refine wpAnyH_done (by kernel_rfl) ?_ _
      generalize w7.setCell ⟨W2.heap.size + 1 + 1, 0, none⟩ (.slice A7 Y.length c7) = w8 at *
      clear HBV HKd HXd HTd HLd HMd HBd HCd hHeld
      have t0 := blk_cell HT8.out 0
      have t1 := blk_cell HT8.out 1
      have t2 := blk_cell HT8.out 2
      have t3 := blk_cell HT8.out 3
      have u0 := fun o => blk_cell (blk_alloc HT8.out o) 0
      have u1 := fun o => blk_cell (blk_alloc HT8.out o) 1
      have u2 := fun o => blk_cell (blk_alloc HT8.out o) 2
      have u3 := fun o => blk_cell (blk_alloc HT8.out o) 3
      have v3 := fun o o' => blk_cell (blk_alloc (blk_alloc HT8.out o) o') 3
      have hwf : wrap64 (f + 1) = f + 1 := by have := HFR.out; unfold wrap64; omega
      have hwf2 : IntKind.i64.wrap (f + 1) = f + 1 := by rw [i64_w]; exact hwf
      go_wp2_with fail
      have HF2 := Aside0.mk (show (f + 1).tmod 5 ≠ f from by
        have h := HFR.out
        rcases (show f = 0 ∨ f = 1 ∨ f = 2 ∨ f = 3 ∨ f = 4 from by omega) with rfl | rfl | rfl | rfl | rfl <;> decide)
      have HP2 := Aside0.mk (show wrap64 (py + 1) ≠ py from by unfold wrap64; omega)
      have HBT9 := Aside0.mk ((HBT8.out.alloc HBT8.out.size (.cells #[.slice (some ad) X.length cB, .int .i64 ((f + 1).tmod 5), .int .i64 px, .int .i64 py] 35)).alloc (HBT8.out.alloc HBT8.out.size (.cells #[.slice (some ad) X.length cB, .int .i64 ((f + 1).tmod 5), .int .i64 px, .int .i64 py] 35)).size (.cells #[.slice (some ad) X.length cB, .int .i64 f, .int .i64 px, .int .i64 (wrap64 (py + 1))] 35))
      have HK9 := Aside0.mk (blk_alloc (blk_alloc HK8.out (.cells #[.slice (some ad) X.length cB, .int .i64 ((f + 1).tmod 5), .int .i64 px, .int .i64 py] 35)) (.cells #[.slice (some ad) X.length cB, .int .i64 f, .int .i64 px, .int .i64 (wrap64 (py + 1))] 35))
      have HT9 := Aside0.mk (blk_alloc (blk_alloc HT8.out (.cells #[.slice (some ad) X.length cB, .int .i64 ((f + 1).tmod 5), .int .i64 px, .int .i64 py] 35)) (.cells #[.slice (some ad) X.length cB, .int .i64 f, .int .i64 px, .int .i64 (wrap64 (py + 1))] 35))
      have HL9 := Aside0.mk (blk_alloc (blk_alloc HL8.out (.cells #[.slice (some ad) X.length cB, .int .i64 ((f + 1).tmod 5), .int .i64 px, .int .i64 py] 35)) (.cells #[.slice (some ad) X.length cB, .int .i64 f, .int .i64 px, .int .i64 (wrap64 (py + 1))] 35))
      have HM9 := Aside0.mk (blk_alloc (blk_alloc HM8.out (.cells #[.slice (some ad) X.length cB, .int .i64 ((f + 1).tmod 5), .int .i64 px, .int .i64 py] 35)) (.cells #[.slice (some ad) X.length cB, .int .i64 f, .int .i64 px, .int .i64 (wrap64 (py + 1))] 35))
      have HO9 := Aside0.mk (blk_alloc (blk_new w8 (.cells #[.slice (some ad) X.length cB, .int .i64 ((f + 1).tmod 5), .int .i64 px, .int .i64 py] 35)) (.cells #[.slice (some ad) X.length cB, .int .i64 f, .int .i64 px, .int .i64 (wrap64 (py + 1))] 35))
      have HP9 := Aside0.mk (show ((w8.alloc (.cells #[.slice (some ad) X.length cB, .int .i64 ((f + 1).tmod 5), .int .i64 px, .int .i64 py] 35)).alloc (.cells #[.slice (some ad) X.length cB, .int .i64 f, .int .i64 px, .int .i64 (wrap64 (py + 1))] 35)).heap[w8.heap.size + 1]? = some (.cells #[.slice (some ad) X.length cB, .int .i64 f, .int .i64 px, .int .i64 (wrap64 (py + 1))] 35 (0, 0)) from by
        have h := blk_new (w8.alloc (.cells #[.slice (some ad) X.length cB, .int .i64 ((f + 1).tmod 5), .int .i64 px, .int .i64 py] 35)) (.cells #[.slice (some ad) X.length cB, .int .i64 f, .int .i64 px, .int .i64 (wrap64 (py + 1))] 35)
        rw [World.size_alloc] at h
        exact h)
      have HCY9 := Aside0.mk (Kd.C_below HC8.out.2.2 (((Below.refl w8.heap.size w8).alloc (Nat.le_refl _) (.cells #[.slice (some ad) X.length cB, .int .i64 ((f + 1).tmod 5), .int .i64 px, .int .i64 py] 35)).alloc (by simp) (.cells #[.slice (some ad) X.length cB, .int .i64 f, .int .i64 px, .int .i64 (wrap64 (py + 1))] 35)))
      have HCX9 := Aside0.mk (Kd.C_below HC2.out HBT9.out)
      have HB9 := Aside0.mk (HB2.out.trans (HBT9.out.mono HB2.out.size))
      have HYC := Aside0.mk HC8.out.2.1
      clear t0 t1 t2 t3 u0 u1 u2 u3 v3 hwf hwf2 HK8 HX8 HT8 HL8 HM8 HC8 HBT8 HBT9
      generalize ((w8.alloc (.cells #[.slice (some ad) X.length cB, .int .i64 ((f + 1).tmod 5), .int .i64 px, .int .i64 py] 35)).alloc (.cells #[.slice (some ad) X.length cB, .int .i64 f, .int .i64 px, .int .i64 (wrap64 (py + 1))] 35)) = w9 at *
      generalize w8.heap.size = o at *
      generalize (f + 1).tmod 5 = f2 at *
      generalize wrap64 (py + 1) = p2 at *
      have HXL := Aside0.mk (show X.length ≤ 1000 from by have := H20.out; omega)
      have GY := Aside0.mk (gen_yes HSZ.out HTF.out HX.out.head HXL.out)
      have GL := Aside0.mk (gen_no HSZ.out HTF.out init f px py (by have := HXL.out; have := HL0.out; omega) (by
        have hh := HX.out.head
        have hf := HX.out.form
        have hl := HL0.out
        by_cases hi : init = []
        · exact .inl hi
        · refine .inr ⟨?_, .inl (fun e => by rw [e] at hl; omega)⟩
          rw [hf, List.getElem?_append_left (List.length_pos_iff.2 hi)] at hh
          exact hh))
      have GM := Aside0.mk (gen_no HSZ.out HTF.out Y f px py (by have := HXL.out; have := H20.out; rw [← HY.out]; simp; omega) (by
        have hh := HX.out.head
        have hl := HL0.out
        refine .inr ⟨?_, .inl (fun e => by have h := congrArg List.length (HY.out.trans e); simp at h)⟩
        rw [← HY.out, List.getElem?_append_left (by omega)]
        exact hh))
      have GO := Aside0.mk (gen_no HSZ.out HTF.out X f2 px py HXL.out (.inr ⟨HX.out.head, .inr (.inl HF2.out)⟩))
      have GP := Aside0.mk (gen_no HSZ.out HTF.out X f px p2 HXL.out (.inr ⟨HX.out.head, .inr (.inr HP2.out)⟩))
      have GZ := Aside0.mk (gen_no HSZ.out HTF.out [] 0 0 0 (by simp) (.inl rfl))
      clear HF2 HP2
      refine (alive_any _).mono ?_
      rintro e wa ⟨rfl, hb⟩
      have HB10 := Aside0.mk (HB9.out.trans (hb.mono HB9.out.size))
      have HK10 := Aside0.mk (blk_below HK9.out hb)
      have HT10 := Aside0.mk (blk_below HT9.out hb)
      have HL10 := Aside0.mk (blk_below HL9.out hb)
      have HM10 := Aside0.mk (blk_below HM9.out hb)
      have HO10 := Aside0.mk (blk_below HO9.out hb)
      have HP10 := Aside0.mk (blk_below HP9.out hb)
      have HCX10 := Aside0.mk (Kd.C_below HCX9.out hb)
      have HCY10 := Aside0.mk (Kd.C_below HCY9.out hb)
      clear hb HB9 HK9 HT9 HL9 HM9 HO9 HP9 HCX9 HCY9
      have n0 := blk_cell HK10.out 0
      have n1 := blk_cell HK10.out 1
      have n2 := blk_cell HK10.out 2
      have r0 := blk_cell HT10.out 0
      have r1 := blk_cell HT10.out 1
      have r2 := blk_cell HT10.out 2
      have r3 := blk_cell HT10.out 3
      go_wp2_with fail
      refine (gen_of GY.out (some ad) cB _ (HN.out.below HB10.out) HCX10.out hcB).mono ?_
      rintro e wb0 ⟨rfl, hb⟩
      clear n0 n1 n2 r0 r1 r2 r3
      have HB11 := Aside0.mk (HB10.out.trans (hb.mono HB10.out.size))
      have HK11 := Aside0.mk (blk_below HK10.out hb)
      have HL11 := Aside0.mk (blk_below HL10.out hb)
      have HM11 := Aside0.mk (blk_below HM10.out hb)
      have HO11 := Aside0.mk (blk_below HO10.out hb)
      have HP11 := Aside0.mk (blk_below HP10.out hb)
      have HCX11 := Aside0.mk (Kd.C_below HCX10.out hb)
      have HCY11 := Aside0.mk (Kd.C_below HCY10.out hb)
      clear hb HB10 HK10 HT10 HL10 HM10 HO10 HP10 HCX10 HCY10
      have n0 := blk_cell HK11.out 0
      have n1 := blk_cell HK11.out 1
      have n2 := blk_cell HK11.out 2
      have r0 := blk_cell HL11.out 0
      have r1 := blk_cell HL11.out 1
      have r2 := blk_cell HL11.out 2
      have r3 := blk_cell HL11.out 3
      go_wp2_with fail
      refine (gen_of GL.out (some ad) cB _ (HN.out.below HB11.out) (show Kd.C (Kd.int .i64) _ (some ad) init.length init from by have h := Kd.C_take (m := init.length) HCX11.out (by have := HL0.out; omega); rw [HX.out.take_] at h; exact h) (by have := HL0.out; omega)).mono ?_
      rintro e wb1 ⟨rfl, hb⟩
      clear n0 n1 n2 r0 r1 r2 r3
      have HB12 := Aside0.mk (HB11.out.trans (hb.mono HB11.out.size))
      have HK12 := Aside0.mk (blk_below HK11.out hb)
      have HM12 := Aside0.mk (blk_below HM11.out hb)
      have HO12 := Aside0.mk (blk_below HO11.out hb)
      have HP12 := Aside0.mk (blk_below HP11.out hb)
      have HCX12 := Aside0.mk (Kd.C_below HCX11.out hb)
      have HCY12 := Aside0.mk (Kd.C_below HCY11.out hb)
      clear hb HB11 HK11 HL11 HM11 HO11 HP11 HCX11 HCY11
      have n0 := blk_cell HK12.out 0
      have n1 := blk_cell HK12.out 1
      have n2 := blk_cell HK12.out 2
      have r0 := blk_cell HM12.out 0
      have r1 := blk_cell HM12.out 1
      have r2 := blk_cell HM12.out 2
      have r3 := blk_cell HM12.out 3
      go_wp2_with fail
      refine (gen_of GM.out A7 c7 _ (HN.out.below HB12.out) HCY12.out HYC.out).mono ?_
      rintro e wb2 ⟨rfl, hb⟩
      clear n0 n1 n2 r0 r1 r2 r3
      have HB13 := Aside0.mk (HB12.out.trans (hb.mono HB12.out.size))
      have HK13 := Aside0.mk (blk_below HK12.out hb)
      have HO13 := Aside0.mk (blk_below HO12.out hb)
      have HP13 := Aside0.mk (blk_below HP12.out hb)
      have HCX13 := Aside0.mk (Kd.C_below HCX12.out hb)
      clear hb HB12 HK12 HM12 HO12 HP12 HCX12 HCY12
      have n0 := blk_cell HK13.out 0
      have n1 := blk_cell HK13.out 1
      have n2 := blk_cell HK13.out 2
      have r0 := blk_cell HO13.out 0
      have r1 := blk_cell HO13.out 1
      have r2 := blk_cell HO13.out 2
      have r3 := blk_cell HO13.out 3
      go_wp2_with fail
      refine (gen_of GO.out (some ad) cB _ (HN.out.below HB13.out) HCX13.out hcB).mono ?_
      rintro e wb3 ⟨rfl, hb⟩
      clear n0 n1 n2 r0 r1 r2 r3
      have HB14 := Aside0.mk (HB13.out.trans (hb.mono HB13.out.size))
      have HK14 := Aside0.mk (blk_below HK13.out hb)
      have HP14 := Aside0.mk (blk_below HP13.out hb)
      have HCX14 := Aside0.mk (Kd.C_below HCX13.out hb)
      clear hb HB13 HK13 HO13 HP13 HCX13
      have n0 := blk_cell HK14.out 0
      have n1 := blk_cell HK14.out 1
      have n2 := blk_cell HK14.out 2
      have r0 := blk_cell HP14.out 0
      have r1 := blk_cell HP14.out 1
      have r2 := blk_cell HP14.out 2
      have r3 := blk_cell HP14.out 3
      go_wp2_with fail
      refine (gen_of GP.out (some ad) cB _ (HN.out.below HB14.out) HCX14.out hcB).mono ?_
      rintro e wb4 ⟨rfl, hb⟩
      clear n0 n1 n2 r0 r1 r2 r3
      have HB15 := Aside0.mk (HB14.out.trans (hb.mono HB14.out.size))
      have HK15 := Aside0.mk (blk_below HK14.out hb)
      clear hb HB14 HK14 HP14 HCX14
      have n0 := blk_cell HK15.out 0
      have n1 := blk_cell HK15.out 1
      have n2 := blk_cell HK15.out 2
      go_wp2_with fail
      refine (gen_of GZ.out none 0 _ (HN.out.below HB15.out) (C_nil09 _) (Nat.le_refl 0)).mono ?_
      rintro e wb5 ⟨rfl, hb⟩
      clear n0 n1 n2
      have HB16 := Aside0.mk (HB15.out.trans (hb.mono HB15.out.size))
      clear hb HB15 HK15
      go_wp2_with fail
      go_ret
      exact ⟨rfl, HB16.out⟩
  · have HNO := Aside0.mk (show fitsN l0 l1 l2 = true → (traceF l0 l1 l2 d a).2.2.2.2 = 91 from fun hf => by
      unfold traceF
      rw [if_pos (by have := hf; rw [hf] at hg; simp only [true_and] at hg; omega)])
    obtain ⟨X, f, px, py, er, ht⟩ : ∃ X f px py er, traceF l0 l1 l2 d a = (X, f, px, py, er) := ⟨_, _, _, _, _, rfl⟩
    rw [ht] at h1 HNO
    have HNO := HNO
    clear ht hg HTR HFI
    cases hq : fitsN l0 l1 l2 with
    | true =>
      obtain rfl : er = 91 := HNO.out hq
      clear hq HNO
      go_wp2_with fail
      refine h1.mono ?_
      rintro e W2 ⟨v, rfl, hv, hb⟩
      obtain ⟨B, cB, rfl, hcB, hCB⟩ := Kd.R_reads hv
      have HB2 := Aside0.mk ((HB1.out.trans (hb.mono HB1.out.size)).alloc (HB1.out.trans (hb.mono HB1.out.size)).size (.cells #[.slice B X.length cB, .int .i64 f, .int .i64 px, .int .i64 py] 35))
      clear hb h1 hv n0 n1 n2 b0 HK1 HB1 HX1
      go_wp2_with fail
      refine (alive_any _).mono ?_
      rintro e w8 ⟨rfl, hb⟩
      have HB8 := Aside0.mk (HB2.out.trans (hb.mono HB2.out.size))
      clear hb
      go_wp2_with fail
      go_ret
      exact ⟨rfl, HB8.out⟩
    | false =>
      clear hq HNO
      go_wp2_with fail
      refine h1.mono ?_
      rintro e W2 ⟨v, rfl, hv, hb⟩
      obtain ⟨B, cB, rfl, hcB, hCB⟩ := Kd.R_reads hv
      have HB2 := Aside0.mk ((HB1.out.trans (hb.mono HB1.out.size)).alloc (HB1.out.trans (hb.mono HB1.out.size)).size (.cells #[.slice B X.length cB, .int .i64 f, .int .i64 px, .int .i64 py] 35))
      clear hb h1 hv n0 n1 n2 b0 HK1 HB1 HX1
      go_wp2_with fail
      refine (alive_any _).mono ?_
      rintro e w8 ⟨rfl, hb⟩
      have HB8 := Aside0.mk (HB2.out.trans (hb.mono HB2.out.size))
      clear hb
      go_wp2_with fail
      go_ret
      exact ⟨rfl, HB8.out⟩
end
theorem fateGenuine_any (A0 : Option Addr) (c0 : Nat) (A1 : Option Addr) (c1 : Nat) (A2 : Option Addr) (c2 : Nat) (x : (List Int × List S66) × List Rul) (d z a : Int) (w : World) (hN : NetAt A0 c0 x.1.1 A1 c1 x.1.2 A2 c2 x.2 w) (hI : NetOk x) (_ : (Lit.int .u32 a).wf = true) :
    Calls Try.prog 6 #[.agg #[.slice A0 x.1.1.length c0, .slice A1 x.1.2.length c1, .slice A2 x.2.length c2], .agg #[.int .i64 d, .int .i64 z], .int .u32 a] w fun e w' => e = .returned (.bool true) ∧ Below w.heap.size w w' :=
  gen_walk d z a w hN hI.1 hI.2
end Go.Proofs.Ytkjighagiecbaaa.H
