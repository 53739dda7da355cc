import Derived.Test.YtglfpobapkkgdaaTopo12
namespace Go.Proofs.Ytglfpobapkkgdaa.H
open Go.RowKit Go.Proofs.Ytglfpobapkkgdaa.P Go.Proofs.YtglfpobapkkgdaaW.PrintWords Go.Proofs.YtglfpobapkkgdaaW.PrintLast Go.Proofs.YtglfpobapkkgdaaW.PrintMore
set_option linter.unusedVariables false
set_option linter.unusedSimpArgs false
theorem sum_step (l : List Int) (j : Nat) (h : j < l.length) : (l.take (j + 1)).sum = (l.take j).sum + rdOf 0 l (j : Int) := by
  unfold rdOf
  rw [Int.toNat_natCast, List.getD_eq_getElem?_getD, List.getElem?_eq_getElem h, List.take_succ_eq_append_getElem h, List.sum_append]
  simp
theorem portEq {x y : S27} (h0 : x.f0 = y.f0) (h1 : x.f1 = y.f1) : x = y := by cases x; cases y; simp_all
theorem any_take (E : List S27) (p : S27) (j : Nat) (h : j < E.length) : (E.take (j + 1)).any (fun x => decide (x = p)) = ((E.take j).any (fun x => decide (x = p)) || ((rd_T27 E (j : Int)).f0 == p.f0 && ((rd_T27 E (j : Int)).f1 == p.f1))) := by
  rw [List.take_succ_eq_append_getElem h, List.any_append]
  unfold rd_T27
  rw [Int.toNat_natCast, List.getD_eq_getElem?_getD, List.getElem?_eq_getElem h]
  simp only [List.any_cons, List.any_nil, Bool.or_false, Option.getD_some]
  rw [eqP_dec]
set_option maxHeartbeats 4000000 in
set_option maxRecDepth 20000 in
theorem topoBoth_any (A0 : Option Addr) (c0 : Nat) (l0 : List Int) (A1 : Option Addr) (c1 : Nat) (l1 : List S38) (p0 p1 : Int) (w : World) (hr0 : Kd.C (Kd.int .i64) w A0 l0.length l0) (hr1 : Kd.C k38 w A1 l1.length l1) (hc1 : l1.length ≤ c1) :
    Calls Try.prog 3 #[.agg #[.slice A0 l0.length c0, .slice A1 l1.length c1], .agg #[.int .i64 p0, .int .i64 p1]] w fun e w' => e = .returned (.bool true) ∧ Below w.heap.size w w' := by
  have hu25 := Try.underlying25
  have hu27 := Try.underlying27
  have hu38 := Try.underlying38
  have HT := Aside0.mk (TB.start w A0 c0 l0 A1 c1 l1 #[.int .i64 p0, .int .i64 p1] 27 hr0 hr1)
  have hm0 := Kd.C_max hr0
  have hm1 := Kd.C_max hr1
  have HC1 := Aside0.mk hc1
  clear hr0 hr1 hc1
  have hf := fun w => fitsLaw_any A0 c0 l0 A1 c1 l1 w hm0 hm1
  have HF := Aside0.mk hf
  clear hf
  go_enter Try.func3, Try.ntmps3
  go_wp2_with fail
  generalize ((w.alloc (.cells #[.slice A0 l0.length c0, .slice A1 l1.length c1] 25)).alloc (.cells #[.int .i64 p0, .int .i64 p1] 27)) = W0 at *
  refine (HF.out _).mono ?_
  rintro e w1 ⟨rfl, hb⟩
  have HT1 := Aside0.mk (HT.out.below hb)
  have x0 := blk_cell HT1.out.t_ 0
  have x1 := blk_cell HT1.out.t_ 1
  clear hb HT HF
  cases hq : fitsB l0 l1 with
  | false =>
    clear hq
    go_wp2_with fail
    refine (alive_any _).mono ?_
    rintro e w2 ⟨rfl, hb⟩
    have HT2 := Aside0.mk (HT1.out.below hb)
    clear hb
    go_wp2
    go_ret
    exact ⟨rfl, HT2.out.bel⟩
  | true =>
    clear hq
    go_wp2_with fail
    refine (right_any A0 c0 l0 A1 c1 l1 _ HT1.out.r0 HT1.out.r1 HC1.out).mono ?_
    rintro e w2 ⟨rfl, hb⟩
    have HT2 := Aside0.mk (HT1.out.below hb)
    clear hb x0 x1
    have x0 := blk_cell HT2.out.t_ 0
    have x1 := blk_cell HT2.out.t_ 1
    have y0 := blk_cell HT2.out.o_ 0
    have y1 := blk_cell HT2.out.o_ 1
    cases hq : rightB l0 l1 with
    | false =>
      clear hq
      go_wp2_with fail
      refine (alive_any _).mono ?_
      rintro e w3 ⟨rfl, hb⟩
      have HT3 := Aside0.mk (HT2.out.below hb)
      clear hb
      go_wp2
      go_ret
      exact ⟨rfl, HT3.out.bel⟩
    | true =>
      have HRT := Aside0.mk ((right_iff l0 l1).1 hq)
      clear hq
      have HNX := Aside0.mk (fun (r : S27) (W : World) (hW : TB w.heap.size (w.heap.size + 1) A0 c0 l0 A1 c1 l1 #[.int .i64 p0, .int .i64 p1] 27 w W) => next_any A0 c0 l0 A1 c1 l1 r W hW.r1 HC1.out)
      have HHS := Aside0.mk (fun (r : S27) (W : World) (hW : TB w.heap.size (w.heap.size + 1) A0 c0 l0 A1 c1 l1 #[.int .i64 p0, .int .i64 p1] 27 w W) => has_any A0 c0 l0 (.slice A1 l1.length c1) r W hW.r0 rfl)
      cases hnb : nextB l1 ⟨p0, p1⟩ with
      | true =>
        obtain ⟨e1, e2, e3, e4, e5⟩ := next_yes HRT.out ⟨p0, p1⟩ hnb
        have h1 := HNX.out ⟨p0, p1⟩
        rw [hnb] at h1
        have h2 := HNX.out (nextQ l1 ⟨p0, p1⟩)
        rw [e1, e2] at h2
        have h3 := HHS.out ⟨p0, p1⟩
        rw [e4] at h3
        have h4 := HHS.out (nextQ l1 ⟨p0, p1⟩)
        rw [e5] at h4
        obtain ⟨q, hq⟩ : ∃ q, nextQ l1 ⟨p0, p1⟩ = q := ⟨_, rfl⟩
        rw [hq] at h1 h2 h4 e3
        obtain ⟨q0, q1⟩ := q
        simp only [encP] at h1 h2 h3 h4
        have H1 := Aside0.mk h1
        have H2 := Aside0.mk h2
        have H3 := Aside0.mk h3
        have H4 := Aside0.mk h4
        have HE3 := Aside0.mk e3
        clear h1 h2 h3 h4 e1 e2 e3 e4 e5 hnb hq HNX HHS
        go_wp2_with fail
        refine (H1.out _ HT2.out).mono ?_
        rintro e w3 ⟨rfl, hb⟩
        have hb3 := hb.alloc hb.size (.cells #[.int .i64 q0, .int .i64 q1] 27)
        have HT3 := Aside0.mk (HT2.out.below hb3)
        have n6 := blk_new w3 (.cells #[.int .i64 q0, .int .i64 q1] 27)
        have N6 := Aside0.mk n6
        clear hb hb3 x0 x1 y0 y1 n6
        have x0 := blk_cell HT3.out.t_ 0
        have x1 := blk_cell HT3.out.t_ 1
        have y0 := blk_cell HT3.out.o_ 0
        have y1 := blk_cell HT3.out.o_ 1
        go_wp2_with fail
        generalize w3.alloc (.cells #[.int .i64 q0, .int .i64 q1] 27) = W3 at *
        generalize w3.heap.size = b6 at *
        refine (H2.out _ HT3.out).mono ?_
        rintro e w4 ⟨rfl, hb⟩
        have hb4 := hb.alloc hb.size (.cells #[.int .i64 p0, .int .i64 p1] 27)
        have HT4 := Aside0.mk (HT3.out.below hb4)
        have N6 := Aside0.mk (blk_below N6.out hb4)
        have N8 := Aside0.mk (blk_new w4 (.cells #[.int .i64 p0, .int .i64 p1] 27))
        clear hb hb4 x0 x1 y0 y1
        go_wp2_with fail
        generalize w4.alloc (.cells #[.int .i64 p0, .int .i64 p1] 27) = W4 at *
        generalize w4.heap.size = b8 at *
        refine (alive_any _).mono ?_
        rintro e w5 ⟨rfl, hb⟩
        have HT5 := Aside0.mk (HT4.out.below hb)
        have N6 := Aside0.mk (blk_below N6.out hb)
        have N8 := Aside0.mk (blk_below N8.out hb)
        clear hb
        have x0 := blk_cell HT5.out.t_ 0
        have x1 := blk_cell HT5.out.t_ 1
        have y0 := blk_cell HT5.out.o_ 0
        have y1 := blk_cell HT5.out.o_ 1
        have z0 := blk_cell N6.out 0
        have z1 := blk_cell N6.out 1
        have u0 := blk_cell N8.out 0
        have u1 := blk_cell N8.out 1
        have hne := HE3.out
        go_wp2_with fail
        all_goals first
          | (have g1 : q0 = p0 := by assumption
             have g2 : q1 = p1 := by assumption
             exact absurd (by rw [g1, g2]) hne)
          | skip
        all_goals
          subst_vars
          refine (H3.out _ HT5.out).mono ?_
          rintro e w6 ⟨rfl, hb⟩
          have HT6 := Aside0.mk (HT5.out.below hb)
          have N6 := Aside0.mk (blk_below N6.out hb)
          clear hb x0 x1 y0 y1 z0 z1 u0 u1 hne
          have x0 := blk_cell HT6.out.t_ 0
          have x1 := blk_cell HT6.out.t_ 1
          have y0 := blk_cell HT6.out.o_ 0
          have y1 := blk_cell HT6.out.o_ 1
          have z0 := blk_cell N6.out 0
          have z1 := blk_cell N6.out 1
          go_wp2_with fail
          refine (H4.out _ HT6.out).mono ?_
          rintro e w7 ⟨rfl, hb⟩
          have HT7 := Aside0.mk (HT6.out.below hb)
          clear hb
          go_wp2
          go_ret
          exact ⟨rfl, HT7.out.bel⟩
      | false =>
        obtain ⟨E, hE⟩ : ∃ E, edgesE l0 (joinL l1) l0.length = E := ⟨_, rfl⟩
        have hmem := edges_mem HRT.out ⟨p0, p1⟩ hnb
        have hcnt := edges_count HRT.out
        have h1 := HNX.out ⟨p0, p1⟩
        rw [hnb] at h1
        have h2 := HHS.out ⟨p0, p1⟩
        rw [← hmem, hE] at h2
        rw [hE] at hcnt
        have h3 := fun (W : World) (hW : TB w.heap.size (w.heap.size + 1) A0 c0 l0 A1 c1 l1 #[.int .i64 p0, .int .i64 p1] 27 w W) => edges_any A0 c0 l0 A1 c1 l1 W hW.r0 hW.r1 HC1.out (by have := HRT.out.n8; omega)
        rw [hE] at h3
        have hEl := edgesE_len l0 (joinL l1) l0.length
        rw [hE] at hEl
        obtain ⟨q, hq⟩ : ∃ q, nextQ l1 ⟨p0, p1⟩ = q := ⟨_, rfl⟩
        rw [hq] at h1
        obtain ⟨q0, q1⟩ := q
        simp only [encP] at h1 h2
        have H1 := Aside0.mk h1
        have H2 := Aside0.mk h2
        have H3 := Aside0.mk h3
        have HCN := Aside0.mk hcnt
        have HEL := Aside0.mk hEl
        clear h1 h2 h3 hq hE hmem hcnt hnb HNX HHS hEl
        go_wp2_with fail
        refine (H1.out _ HT2.out).mono ?_
        rintro e w3 ⟨rfl, hb⟩
        have hb3 := hb.alloc hb.size (.cells #[.int .i64 q0, .int .i64 q1] 27)
        have HT3 := Aside0.mk (HT2.out.below hb3)
        clear hb hb3 x0 x1 y0 y1
        have x0 := blk_cell HT3.out.t_ 0
        have x1 := blk_cell HT3.out.t_ 1
        have y0 := blk_cell HT3.out.o_ 0
        have y1 := blk_cell HT3.out.o_ 1
        go_wp2_with fail
        generalize w3.alloc (.cells #[.int .i64 q0, .int .i64 q1] 27) = W3 at *
        generalize w3.heap.size = b6 at *
        refine (H3.out _ HT3.out).mono ?_
        rintro e w4 ⟨⟨v, rfl, hv⟩, hb⟩
        obtain ⟨AE, cE, rfl, hcE, hCE⟩ := Kd.R_reads hv
        have HT4 := Aside0.mk (HT3.out.below hb)
        have HCE := Aside0.mk hCE
        clear hb x0 x1 y0 y1 hv hCE
        go_wp2_with fail
        have hE32 : E.length ≤ 32 := by have := HEL.out; have := HRT.out.n8; omega
        have hE32 : E.length ≤ 32 := by have := HEL.out; have := HRT.out.n8; omega
        go_loopw [11, 12] (fun v i wr => ∃ j : Nat, j ≤ E.length ∧ i = .int .i64 j ∧ v = .bool ((E.take j).any (fun x => decide (x = (⟨p0, p1⟩ : S27)))) ∧ Aside0 (Kd.C k27 wr AE E.length E) ∧ Aside0 (TB w.heap.size (w.heap.size + 1) A0 c0 l0 A1 c1 l1 #[.int .i64 p0, .int .i64 p1] 27 w wr)) (fun _ i _ => E.length - (intOf i).toNat)
        case atStart => exact ⟨0, Nat.zero_le _, rfl, rfl, HCE, HT4⟩
        case round =>
          obtain ⟨j, hj, rfl, rfl, HC, HTR⟩ := hrel
          have x0 := blk_cell HTR.out.t_ 0
          have x1 := blk_cell HTR.out.t_ 1
          have y0 := blk_cell HTR.out.o_ 0
          have y1 := blk_cell HTR.out.o_ 1
          by_cases hlt : j < E.length
          · have hjl : (j : Int) < (E.length : Int) := by omega
            have hj0 : (0 : Int) ≤ (j : Int) := by omega
            obtain ⟨ad, e, a0, a1⟩ := at_T27 HC.out (j : Int) (by omega) (by omega)
            cases e
            rw [Int.toNat_natCast] at a0 a1
            have HTK := Aside0.mk (any_take E ⟨p0, p1⟩ j hlt)
            obtain ⟨r, hr⟩ : ∃ r, rd_T27 E (j : Int) = r := ⟨_, rfl⟩
            rw [hr] at a0 a1 HTK
            clear hr
            obtain ⟨b0, hb0⟩ : ∃ b0, (E.take j).any (fun x => decide (x = (⟨p0, p1⟩ : S27))) = b0 := ⟨_, rfl⟩
            rw [hb0] at HTK ⊢
            clear hb0
            cases b0 with
            | true =>
              go_wp2_with fail
              go_quiet (fail)
              go_wp2_with fail
              go_roundw
              case rel => exact ⟨j + 1, by omega, by go_num, by rw [HTK.out, Bool.true_or], ⟨Kd.C_below HC.out (pw_below_drewN (Below.refl _ _) _)⟩, ⟨HTR.out.below (pw_below_drewN (Below.refl _ _) _)⟩⟩
              case measure => simp [intOf]; omega
            | false =>
              obtain ⟨r0, r1⟩ := r
              simp only [Bool.false_or] at HTK
              simp only [] at a0 a1 HTK
              by_cases g0 : r0 = p0
              · subst g0
                by_cases g1 : r1 = p1
                · subst g1
                  go_wp2_with fail
                  go_quiet (fail)
                  go_wp2_with fail
                  go_roundw
                  case rel => exact ⟨j + 1, by omega, by go_num, by rw [HTK.out]; simp, ⟨Kd.C_below HC.out (pw_below_drewN (Below.refl _ _) _)⟩, ⟨HTR.out.below (pw_below_drewN (Below.refl _ _) _)⟩⟩
                  case measure => simp [intOf]; omega
                · have G1 := Aside0.mk (show (r1 == p1) = false from beq_eq_false_iff_ne.2 g1)
                  go_wp2_with fail
                  go_quiet (fail)
                  go_wp2_with fail
                  go_roundw
                  case rel => exact ⟨j + 1, by omega, by go_num, by rw [HTK.out]; rw [G1.out, Bool.and_false], ⟨Kd.C_below HC.out (pw_below_drewN (Below.refl _ _) _)⟩, ⟨HTR.out.below (pw_below_drewN (Below.refl _ _) _)⟩⟩
                  case measure => simp [intOf]; omega
              · have G0 := Aside0.mk (show (r0 == p0) = false from beq_eq_false_iff_ne.2 g0)
                go_wp2_with fail
                go_quiet (fail)
                go_wp2_with fail
                go_roundw
                case rel => exact ⟨j + 1, by omega, by go_num, by rw [HTK.out]; rw [G0.out, Bool.false_and], ⟨Kd.C_below HC.out (pw_below_drewN (Below.refl _ _) _)⟩, ⟨HTR.out.below (pw_below_drewN (Below.refl _ _) _)⟩⟩
                case measure => simp [intOf]; omega
          · obtain rfl : j = E.length := by omega
            have hl8 := HRT.out.n8
            have HMEM := Aside0.mk (show (E.take E.length).any (fun x => decide (x = (⟨p0, p1⟩ : S27))) = E.any (fun x => decide (x = (⟨p0, p1⟩ : S27))) from by rw [List.take_length])
            rw [HMEM.out]
            obtain ⟨bin, hbin⟩ : ∃ b, E.any (fun x => decide (x = (⟨p0, p1⟩ : S27))) = b := ⟨_, rfl⟩
            have h2 := H2.out
            rw [hbin] at h2 ⊢
            have H2b := Aside0.mk h2
            clear h2 hbin HMEM H2 hlt
            have HSR := Aside0.mk (sum_range HRT.out.ports)
            have HSS := Aside0.mk (sum_step l0)
            go_wp2_with fail
            go_loopw [13, 14] (fun s i wr => ∃ j : Nat, j ≤ l0.length ∧ i = .int .i64 j ∧ s = .int .i64 (l0.take j).sum ∧ Aside0 (TB w.heap.size (w.heap.size + 1) A0 c0 l0 A1 c1 l1 #[.int .i64 p0, .int .i64 p1] 27 w wr)) (fun _ i _ => l0.length - (intOf i).toNat)
            case atStart => exact ⟨0, Nat.zero_le _, rfl, rfl, HTR⟩
            case round =>
              clear x0 x1 y0 y1 HTR HC
              obtain ⟨j, hj, rfl, rfl, HTR⟩ := hrel
              have x0 := blk_cell HTR.out.t_ 0
              have x1 := blk_cell HTR.out.t_ 1
              have y0 := blk_cell HTR.out.o_ 0
              have y1 := blk_cell HTR.out.o_ 1
              by_cases hlt : j < l0.length
              · have hjl : (j : Int) < (l0.length : Int) := by omega
                have hj0 : (0 : Int) ≤ (j : Int) := by omega
                obtain ⟨ad, e, a0⟩ := (Kd.reads_of_C (d := (0 : Int)) HTR.out.r0).at_ (j : Int) (by omega) (by omega)
                cases e
                rw [Int.toNat_natCast] at a0
                have hs0 := HSR.out j (by omega)
                have hs1 := HSR.out (j + 1) (by omega)
                have hst := HSS.out j hlt
                rw [hst] at hs1
                have HST := Aside0.mk hst
                clear hst
                generalize rdOf 0 l0 (j : Int) = r at *
                generalize (l0.take j).sum = s at *
                go_wp2_with fail
                go_roundw
                case rel => exact ⟨j + 1, by omega, by go_num, by rw [HST.out], HTR⟩
                case measure => simp [intOf]; omega
              · obtain rfl : j = l0.length := by omega
                rw [List.take_length]
                have hcn := HCN.out
                have hl16 := HRT.out.l16
                have hsum := HSR.out l0.length (Nat.le_refl _)
                rw [List.take_length] at hsum
                generalize l0.sum = s at *
                clear hlt
                go_wp2_with fail
                refine (alive_any _).mono ?_
                rintro e w5 ⟨rfl, hb⟩
                have HT5 := Aside0.mk (HTR.out.below hb)
                clear hb x0 x1 y0 y1
                have x0 := blk_cell HT5.out.t_ 0
                have x1 := blk_cell HT5.out.t_ 1
                have y0 := blk_cell HT5.out.o_ 0
                have y1 := blk_cell HT5.out.o_ 1
                go_wp2_with fail
                refine (H2b.out _ HT5.out).mono ?_
                rintro e w6 ⟨rfl, hb⟩
                have HT6 := Aside0.mk (HT5.out.below hb)
                clear hb x0 x1 y0 y1
                have x0 := blk_cell HT6.out.t_ 0
                have x1 := blk_cell HT6.out.t_ 1
                have y0 := blk_cell HT6.out.o_ 0
                have y1 := blk_cell HT6.out.o_ 1
                have hbb : (bin == bin) = true := by simp
                have hss : (s == (E.length : Int) + 2 * (l1.length : Int)) = true := by rw [beq_iff_eq]; exact hcn
                go_wp2
                go_ret
                exact ⟨rfl, HT6.out.bel⟩
end Go.Proofs.Ytglfpobapkkgdaa.H
