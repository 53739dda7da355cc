import Derived.Test.YtglfpobapkkgdaaTopoR1
namespace Go.Proofs.Ytglfpobapkkgdaa.H
open Go.RowKit Go.Proofs.Ytglfpobapkkgdaa.P Go.Proofs.YtglfpobapkkgdaaW.PrintWords Go.Proofs.YtglfpobapkkgdaaW.PrintLast Go.Proofs.YtglfpobapkkgdaaW.PrintMore
set_option linter.unusedVariables false
set_option linter.unusedSimpArgs false
set_option maxHeartbeats 4000000 in
set_option maxRecDepth 20000 in
theorem topoReaches_any (A0 : Option Addr) (c0 : Nat) (l0 : List Int) (A1 : Option Addr) (c1 : Nat) (l1 : List S38) (a b : Int) (AR : Option Addr) (cR : Nat) (l : List S63) (w : World) (hr0 : Kd.C (Kd.int .i64) w A0 l0.length l0) (hr1 : Kd.C k38 w A1 l1.length l1) (hc0 : l0.length ≤ c0) (hc1 : l1.length ≤ c1)
    (hrR : Kd.C k63 w AR l.length l) (hcR : l.length ≤ cR) (_ : True) :
    Calls Try.prog 5 #[.agg #[.slice A0 l0.length c0, .slice A1 l1.length c1], .agg #[.int .i64 a, .int .i64 b], .slice AR l.length cR] w fun e w' => e = .returned (.bool true) ∧ Below w.heap.size w w' := by
  have hu25 := Try.underlying25
  have hu27 := Try.underlying27
  have hu38 := Try.underlying38
  have HT := Aside0.mk (TB.start w A0 c0 l0 A1 c1 l1 #[.int .i64 a, .int .i64 b] 40 hr0 hr1)
  have hm0 := Kd.C_max hr0
  have hm1 := Kd.C_max hr1
  have hmR := Kd.C_max hrR
  have HC0 := Aside0.mk hc0
  have HC1 := Aside0.mk hc1
  have HCR := Aside0.mk hcR
  have HRR := Aside0.mk hrR
  obtain ⟨rA, hrA⟩ := refAll_ev l hmR
  obtain ⟨kA, hkA⟩ := hrA.rounds
  have HKA := Aside0.mk hkA
  clear hr0 hr1 hc0 hc1 hrR hcR hrA hkA
  have hf := fun w => fitsLaw_any A0 c0 l0 A1 c1 l1 w hm0 hm1
  have HF := Aside0.mk hf
  clear hf
  go_enter Try.func5, Try.ntmps5
  go_wp2_with fail
  generalize ((w.alloc (.cells #[.slice A0 l0.length c0, .slice A1 l1.length c1] 25)).alloc (.cells #[.int .i64 a, .int .i64 b] 40)) = W0 at *
  refine (HF.out _).mono ?_
  rintro e w1 ⟨rfl, hb⟩
  have HT1 := Aside0.mk (HT.out.below hb)
  have x0 := blk_cell HT1.out.t_ 0
  have x1 := blk_cell HT1.out.t_ 1
  clear hb HT HF
  cases hq : fitsB l0 l1 with
  | false =>
    clear hq
    go_wp2_with fail
    refine (waystoneref07_All.calls kA AR cR l rA _ (Kd.C_below HRR.out HT1.out.bel) HCR.out HKA.out).mono ?_
    rintro e w2 ⟨rfl, hb⟩
    have HT2 := Aside0.mk (HT1.out.below hb)
    clear hb
    go_wp2_with fail
    refine (alive_any _).mono ?_
    rintro e w3 ⟨rfl, hb⟩
    have HT3 := Aside0.mk (HT2.out.below hb)
    clear hb
    go_wp2
    go_ret
    exact ⟨rfl, HT3.out.bel⟩
  | true =>
    have h30 : l0.length ≤ 30 ∧ l1.length ≤ 30 := by
      unfold fitsB at hq
      simp only [Bool.and_eq_true, decide_eq_true_iff] at hq
      omega
    have hL0 : l0.length ≤ 1000 := by omega
    have hL1 : l1.length ≤ 1000 := by omega
    obtain ⟨kR, hkR⟩ := (refRight_ev l0 l1 hL0 hL1).rounds
    have HKR := Aside0.mk hkR
    clear hq hkR h30
    go_wp2_with fail
    refine (waystoneref08_Right.calls kR A0 c0 l0 A1 c1 l1 (rightB l0 l1) _ HT1.out.r0 HC0.out HT1.out.r1 HC1.out HKR.out).mono ?_
    rintro e w2 ⟨rfl, hb⟩
    have HT2 := Aside0.mk (HT1.out.below hb)
    clear hb x0 x1
    have x0 := blk_cell HT2.out.t_ 0
    have x1 := blk_cell HT2.out.t_ 1
    cases hq : rightB l0 l1 with
    | false =>
      clear hq
      go_wp2_with fail
      refine (waystoneref07_All.calls kA AR cR l rA _ (Kd.C_below HRR.out HT2.out.bel) HCR.out HKA.out).mono ?_
      rintro e w3 ⟨rfl, hb⟩
      have HT3 := Aside0.mk (HT2.out.below hb)
      clear hb
      go_wp2_with fail
      refine (alive_any _).mono ?_
      rintro e w4 ⟨rfl, hb⟩
      have HT4 := Aside0.mk (HT3.out.below hb)
      clear hb
      go_wp2
      go_ret
      exact ⟨rfl, HT4.out.bel⟩
    | true =>
      have HRT := Aside0.mk ((right_iff l0 l1).1 hq)
      clear hq
      go_wp2_with fail
      refine (waystoneref07_All.calls kA AR cR l rA _ (Kd.C_below HRR.out HT2.out.bel) HCR.out HKA.out).mono ?_
      rintro e w3 ⟨rfl, hb⟩
      have HT3 := Aside0.mk (HT2.out.below hb)
      clear hb x0 x1
      cases rA with
      | false =>
        go_wp2_with fail
        refine (alive_any _).mono ?_
        rintro e w4 ⟨rfl, hb⟩
        have HT4 := Aside0.mk (HT3.out.below hb)
        clear hb
        go_wp2
        go_ret
        exact ⟨rfl, HT4.out.bel⟩
      | true =>
        obtain ⟨kX, hkX⟩ := (refReaches_ev l0 l1 a b hL0 HRT.out.ranged hL1).rounds
        obtain ⟨kF, hkF⟩ := (refFits_ev l0 l1 l hmR).rounds
        have h1 := fun (W : World) (hW : TB w.heap.size (w.heap.size + 1) A0 c0 l0 A1 c1 l1 #[.int .i64 a, .int .i64 b] 40 w W) => reaches_any A0 c0 l0 A1 c1 l1 a b W hW.r1 HC1.out hL0 hL1 HRT.out.ranged
        have h2 := fun (W : World) (hW : TB w.heap.size (w.heap.size + 1) A0 c0 l0 A1 c1 l1 #[.int .i64 a, .int .i64 b] 40 w W) => waystoneref08_Reaches.calls kX A0 c0 l0 A1 c1 l1 a b _ W hW.r0 HC0.out hW.r1 HC1.out hkX
        have h3 := fun (W : World) (hW : TB w.heap.size (w.heap.size + 1) A0 c0 l0 A1 c1 l1 #[.int .i64 a, .int .i64 b] 40 w W) => fits_any A0 c0 l0 (.slice A1 l1.length c1) AR cR l W hW.r0 rfl (Kd.C_below HRR.out hW.bel) hmR
        have h4 := fun (W : World) (hW : TB w.heap.size (w.heap.size + 1) A0 c0 l0 A1 c1 l1 #[.int .i64 a, .int .i64 b] 40 w W) => waystoneref08_Fits.calls kF A0 c0 l0 A1 c1 l1 AR cR l _ W hW.r0 HC0.out hW.r1 HC1.out (Kd.C_below HRR.out hW.bel) HCR.out hkF
        generalize connB l0.length l1 a b = qx at h1 h2
        generalize (!l.any (badR l0)) = qf at h3 h4
        have H1 := Aside0.mk h1
        have H2 := Aside0.mk h2
        have H3 := Aside0.mk h3
        have H4 := Aside0.mk h4
        clear h1 h2 h3 h4 hkX hkF
        have hN : w3.cell? ⟨w.heap.size, 0, none⟩ = some (.slice A0 l0.length c0) ∧ w3.cell? ⟨w.heap.size, 1, none⟩ = some (.slice A1 l1.length c1) ∧ w3.cell? ⟨w.heap.size + 1, 0, none⟩ = some (.int .i64 a) ∧ w3.cell? ⟨w.heap.size + 1, 1, none⟩ = some (.int .i64 b) :=
          ⟨blk_cell HT3.out.t_ 0, blk_cell HT3.out.t_ 1, blk_cell HT3.out.o_ 0, blk_cell HT3.out.o_ 1⟩
        have HTD := Aside0.mk (HT3.out.below (below_drew (Below.refl _ _)))
        go_wp2_with fail
        go_region_held3 (fun w' => w'.cell? ⟨w.heap.size, 0, none⟩ = some (.slice A0 l0.length c0) ∧ w'.cell? ⟨w.heap.size, 1, none⟩ = some (.slice A1 l1.length c1) ∧ w'.cell? ⟨w.heap.size + 1, 0, none⟩ = some (.int .i64 a) ∧ w'.cell? ⟨w.heap.size + 1, 1, none⟩ = some (.int .i64 b)) (first | assumption | go_keep) (first
          | (go_at_call 9; refine (alive_any _).mono ?_; rintro e w4 ⟨rfl, hb⟩; have HT4 := Aside0.mk (HTD.out.below hb); have K4 := cells4_below (by assumption) hb; clear hb)
          | (go_at_call 13; refine (H1.out _ HT4.out).mono ?_; rintro e w5 ⟨rfl, hb⟩; have HT5 := Aside0.mk (HT4.out.below hb); have K5 := cells4_below (by assumption) hb; clear hb)
          | (go_at_call 16; refine (H2.out _ HT5.out).mono ?_; rintro e w6 ⟨rfl, hb⟩; have HT6 := Aside0.mk (HT5.out.below hb); have K6 := cells4_below (by assumption) hb; clear hb)
          | (go_at_call 17; refine (H3.out _ HT6.out).mono ?_; rintro e w7 ⟨rfl, hb⟩; have HT7 := Aside0.mk (HT6.out.below hb); have K7 := cells4_below (by assumption) hb; clear hb)
          | (go_at_call 18; refine (H4.out _ HT7.out).mono ?_; rintro e w8 ⟨rfl, hb⟩; have HT8 := Aside0.mk (HT7.out.below hb); have K8 := cells4_below (by assumption) hb; clear hb))
        go_wp2
        go_ret
        exact ⟨rfl, HT8.out.bel⟩
end Go.Proofs.Ytglfpobapkkgdaa.H
