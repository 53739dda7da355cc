import Derived.Test.YtglfpobapkkgdaaTopo10
namespace Go.Proofs.Ytglfpobapkkgdaa.H
open Go.RowKit Go.Proofs.Ytglfpobapkkgdaa.P Go.Proofs.YtglfpobapkkgdaaW.PrintWords Go.Proofs.YtglfpobapkkgdaaW.PrintLast Go.Proofs.YtglfpobapkkgdaaW.PrintMore
set_option linter.unusedVariables false
set_option linter.unusedSimpArgs false
set_option maxHeartbeats 4000000 in
set_option maxRecDepth 20000 in
theorem topoOn_any (A0 : Option Addr) (c0 : Nat) (l0 : List Int) (A1 : Option Addr) (c1 : Nat) (l1 : List S38) (a b c : Int) (w : World) (hr0 : Kd.C (Kd.int .i64) w A0 l0.length l0) (hr1 : Kd.C k38 w A1 l1.length l1) (hc1 : l1.length ≤ c1) :
    Calls Try.prog 4 #[.agg #[.slice A0 l0.length c0, .slice A1 l1.length c1], .agg #[.int .i64 a, .int .i64 b, .int .i64 c]] w fun e w' => e = .returned (.bool true) ∧ Below w.heap.size w w' := by
  have hu25 := Try.underlying25
  have hu27 := Try.underlying27
  have hu38 := Try.underlying38
  have hst := TB.start w A0 c0 l0 A1 c1 l1 #[.int .i64 a, .int .i64 b, .int .i64 c] 35 hr0 hr1
  have HST := Aside0.mk hst
  have hm0 := Kd.C_max hr0
  have hm1 := Kd.C_max hr1
  have HC1 := Aside0.mk hc1
  clear hr0 hr1 hst hc1
  have hf := fun w => fitsLaw_any A0 c0 l0 A1 c1 l1 w hm0 hm1
  have HF := Aside0.mk hf
  clear hf
  go_enter Try.func4, Try.ntmps4
  go_wp2_with fail
  have HT := HST
  generalize ((w.alloc (.cells #[.slice A0 l0.length c0, .slice A1 l1.length c1] 25)).alloc (.cells #[.int .i64 a, .int .i64 b, .int .i64 c] 35)) = W0 at *
  clear HST
  refine (HF.out _).mono ?_
  rintro e w1 ⟨rfl, hb⟩
  have HT1 := Aside0.mk (HT.out.below hb)
  have x0 := blk_cell HT1.out.t_ 0
  have x1 := blk_cell HT1.out.t_ 1
  clear hb HT HF
  cases hq : fitsB l0 l1 with
  | false =>
    clear hq
    go_wp2_with fail
    refine (alive_any _).mono ?_
    rintro e w2 ⟨rfl, hb⟩
    have HT2 := Aside0.mk (HT1.out.below hb)
    clear hb
    go_wp2
    go_ret
    exact ⟨rfl, HT2.out.bel⟩
  | true =>
    clear hq
    go_wp2_with fail
    refine (right_any A0 c0 l0 A1 c1 l1 _ HT1.out.r0 HT1.out.r1 HC1.out).mono ?_
    rintro e w2 ⟨rfl, hb⟩
    have HT2 := Aside0.mk (HT1.out.below hb)
    clear hb x0 x1
    have x0 := blk_cell HT2.out.t_ 0
    have x1 := blk_cell HT2.out.t_ 1
    cases hq : rightB l0 l1 with
    | false =>
      clear hq
      go_wp2_with fail
      refine (alive_any _).mono ?_
      rintro e w3 ⟨rfl, hb⟩
      have HT3 := Aside0.mk (HT2.out.below hb)
      clear hb
      go_wp2
      go_ret
      exact ⟨rfl, HT3.out.bel⟩
    | true =>
      have HRT := Aside0.mk ((right_iff l0 l1).1 hq)
      clear hq
      have hrch := fun (i j : Int) (W : World) (hW : TB w.heap.size (w.heap.size + 1) A0 c0 l0 A1 c1 l1 #[.int .i64 a, .int .i64 b, .int .i64 c] 35 w W) => reaches_any A0 c0 l0 A1 c1 l1 i j W hW.r1 HC1.out (by have := HRT.out.n8; omega) (by have := HRT.out.l16; omega) HRT.out.ranged
      have HRCH := Aside0.mk hrch
      have hl16 := HRT.out.l16
      clear hrch
      go_wp2_with fail
      go_loopw [6] (fun i wr => ∃ j : Nat, j ≤ l1.length ∧ i = .int .i64 j ∧ Aside0 (TB w.heap.size (w.heap.size + 1) A0 c0 l0 A1 c1 l1 #[.int .i64 a, .int .i64 b, .int .i64 c] 35 w wr)) (fun i _ => l1.length - (intOf i).toNat)
      case atStart => exact ⟨0, Nat.zero_le _, rfl, HT2⟩
      case round =>
        obtain ⟨j, hj, rfl, HTR⟩ := hrel
        have x0 := blk_cell HTR.out.t_ 0
        have x1 := blk_cell HTR.out.t_ 1
        by_cases hlt : j < l1.length
        · obtain ⟨ad, e, a0, a1, a2, a3⟩ := at_T38 HTR.out.r1 (j : Int) (by omega) (by omega)
          cases e
          rw [Int.toNat_natCast] at a0 a1 a2 a3
          have hjl : (j : Int) < (l1.length : Int) := by omega
          have hj0 : (0 : Int) ≤ (j : Int) := by omega
          have hcl := connB_link HRT.out j hlt
          have hcall := fun W hW => HRCH.out (rd_T38 l1 (j : Int)).f0.f0 (rd_T38 l1 (j : Int)).f1.f0 W hW
          rw [hcl] at hcall
          have HCALL := Aside0.mk hcall
          have HTRD := Aside0.mk (HTR.out.below (below_drew (Below.refl wr.heap.size wr)))
          clear hcall hcl
          generalize rd_T38 l1 (j : Int) = lk at *
          go_wp2_with fail
          go_region_held3 (fun w' => w'.cell? ⟨w.heap.size, 0, none⟩ = some (.slice A0 l0.length c0) ∧ w'.cell? ⟨w.heap.size, 1, none⟩ = some (.slice (some ad) l1.length c1) ∧ w'.cell? (ad.add (j * 4)) = some (.int .i64 lk.f0.f0) ∧ w'.cell? ⟨(ad.add (j * 4)).block, (ad.add (j * 4)).off + 2, none⟩ = some (.int .i64 lk.f1.f0)) (first | exact K4 | go_keep) (first
            | (go_at_call 13; refine (HCALL.out _ HTRD.out).mono ?_; rintro e w3 ⟨rfl, hb⟩; have HT3 := Aside0.mk (HTRD.out.below hb); have K4 := cells4_below (by assumption) hb; clear hb))
          go_wp2_with fail
          go_roundw
          case rel => exact ⟨j + 1, by omega, by go_num, HT3⟩
          case measure => simp [intOf]; omega
        · obtain rfl : j = l1.length := by omega
          clear hlt
          have y0 := blk_cell HTR.out.o_ 0
          have y1 := blk_cell HTR.out.o_ 1
          have y2 := blk_cell HTR.out.o_ 2
          have HT3 := HTR
          have hxs := connB_self l0.length l1 a
          have hsy := connB_symm l0.length l1 b a
          have htr := connB_trans l0.length l1 a b c
          obtain ⟨qx, hqx⟩ : ∃ q, connB l0.length l1 a b = q := ⟨_, rfl⟩
          obtain ⟨qy, hqy⟩ : ∃ q, connB l0.length l1 b c = q := ⟨_, rfl⟩
          obtain ⟨qz, hqz⟩ : ∃ q, connB l0.length l1 a c = q := ⟨_, rfl⟩
          have hc1 := HRCH.out a b
          have hc2 := HRCH.out b c
          have hc3 := HRCH.out a a
          have hc4 := HRCH.out b a
          have hc5 := HRCH.out a c
          rw [hqx] at hc1
          rw [hqy] at hc2
          rw [hxs] at hc3
          rw [hsy, hqx] at hc4
          rw [hqz] at hc5
          rw [hqx, hqy, hqz] at htr
          have HC1_ := Aside0.mk hc1
          have HC2_ := Aside0.mk hc2
          have HC3_ := Aside0.mk hc3
          have HC4_ := Aside0.mk hc4
          have HC5_ := Aside0.mk hc5
          have HTRN := Aside0.mk htr
          clear hc1 hc2 hc3 hc4 hc5 htr hqx hqy hqz hxs hsy
          go_wp2_with fail
          refine (HC1_.out _ HT3.out).mono ?_
          rintro e w4 ⟨rfl, hb⟩
          have HT4 := Aside0.mk (HT3.out.below hb)
          clear hb x0 x1 y0 y1 y2
          have x0 := blk_cell HT4.out.t_ 0
          have x1 := blk_cell HT4.out.t_ 1
          have y0 := blk_cell HT4.out.o_ 0
          have y1 := blk_cell HT4.out.o_ 1
          have y2 := blk_cell HT4.out.o_ 2
          go_wp2_with fail
          refine (HC2_.out _ HT4.out).mono ?_
          rintro e w5 ⟨rfl, hb⟩
          have HT5 := Aside0.mk (HT4.out.below hb)
          clear hb x0 x1 y0 y1 y2
          have x0 := blk_cell HT5.out.t_ 0
          have x1 := blk_cell HT5.out.t_ 1
          have y0 := blk_cell HT5.out.o_ 0
          have y1 := blk_cell HT5.out.o_ 1
          have y2 := blk_cell HT5.out.o_ 2
          go_wp2_with fail
          refine (HC3_.out _ HT5.out).mono ?_
          rintro e w6 ⟨rfl, hb⟩
          have HT6 := Aside0.mk (HT5.out.below hb)
          clear hb x0 x1 y0 y1 y2
          have x0 := blk_cell HT6.out.t_ 0
          have x1 := blk_cell HT6.out.t_ 1
          have y0 := blk_cell HT6.out.o_ 0
          have y1 := blk_cell HT6.out.o_ 1
          have y2 := blk_cell HT6.out.o_ 2
          go_wp2_with fail
          refine (alive_any _).mono ?_
          rintro e w7 ⟨rfl, hb⟩
          have HT7 := Aside0.mk (HT6.out.below hb)
          clear hb x0 x1 y0 y1 y2
          have x0 := blk_cell HT7.out.t_ 0
          have x1 := blk_cell HT7.out.t_ 1
          have y0 := blk_cell HT7.out.o_ 0
          have y1 := blk_cell HT7.out.o_ 1
          have y2 := blk_cell HT7.out.o_ 2
          go_wp2_with fail
          refine (HC4_.out _ HT7.out).mono ?_
          rintro e w8 ⟨rfl, hb⟩
          have HT8 := Aside0.mk (HT7.out.below hb)
          clear hb x0 x1 y0 y1 y2
          have x0 := blk_cell HT8.out.t_ 0
          have x1 := blk_cell HT8.out.t_ 1
          have y0 := blk_cell HT8.out.o_ 0
          have y1 := blk_cell HT8.out.o_ 1
          have y2 := blk_cell HT8.out.o_ 2
          cases qx with
          | false =>
            cases d1 : decide (0 ≤ a) with
            | false =>
              go_wp2
              go_ret
              exact ⟨rfl, HT8.out.bel⟩
            | true =>
              cases d2 : decide (a < (l0.length : Int)) with
              | false =>
                go_wp2
                go_ret
                exact ⟨rfl, HT8.out.bel⟩
              | true =>
                go_wp2
                go_ret
                exact ⟨rfl, HT8.out.bel⟩
          | true =>
            cases qy with
            | false =>
              cases d1 : decide (0 ≤ a) with
              | false =>
                go_wp2
                go_ret
                exact ⟨rfl, HT8.out.bel⟩
              | true =>
                cases d2 : decide (a < (l0.length : Int)) with
                | false =>
                  go_wp2
                  go_ret
                  exact ⟨rfl, HT8.out.bel⟩
                | true =>
                  go_wp2
                  go_ret
                  exact ⟨rfl, HT8.out.bel⟩
            | true =>
              obtain rfl : qz = true := HTRN.out rfl rfl
              go_wp2_with fail
              refine (HC5_.out _ HT8.out).mono ?_
              rintro e w9 ⟨rfl, hb⟩
              have HT9 := Aside0.mk (HT8.out.below hb)
              clear hb x0 x1 y0 y1 y2
              have x0 := blk_cell HT9.out.t_ 0
              have x1 := blk_cell HT9.out.t_ 1
              have y0 := blk_cell HT9.out.o_ 0
              have y1 := blk_cell HT9.out.o_ 1
              have y2 := blk_cell HT9.out.o_ 2
              cases d1 : decide (0 ≤ a) with
              | false =>
                go_wp2
                go_ret
                exact ⟨rfl, HT9.out.bel⟩
              | true =>
                cases d2 : decide (a < (l0.length : Int)) with
                | false =>
                  go_wp2
                  go_ret
                  exact ⟨rfl, HT9.out.bel⟩
                | true =>
                  go_wp2
                  go_ret
                  exact ⟨rfl, HT9.out.bel⟩
end Go.Proofs.Ytglfpobapkkgdaa.H
