/- AtomsOrder: walked. -/
import Derived.Test.YtjfbiabgeickjaaAtmO
import Derived.Deep.LoopGhost
import Derived.BigQuiet
namespace Go.Proofs.Ytjfbiabgeickjaa.H
open Go.BigFrame Go.RowKit Go.Proofs.Ytjfbiabgeickjaa.P Go.Proofs.Ytjfbiabgeickjaa.Open Go.Proofs.YtjfbiabgeickjaaW.PrintWords Go.Proofs.YtjfbiabgeickjaaW.PrintLast Go.Proofs.YtjfbiabgeickjaaW.PrintMore
set_option linter.unusedVariables false
set_option linter.unusedSimpArgs false
set_option maxRecDepth 20000 in
set_option maxHeartbeats 16000000 in
theorem AtomsOrder_any (A : Option Addr) (c : Nat) (l : List Rg) (w : World) (hr : Kd.C kR w A l.length l) (hc : l.length ≤ c) (hI : ∀ y ∈ l, isU32 y.f0 ∧ isU32 y.f1) :
    Calls Try.prog 3 #[.slice A l.length c] w fun e w' => e = .returned (.bool true) ∧ Below w.heap.size w w' := by
  have HR0 := Aside0.mk hr
  have HC0 := Aside0.mk hc
  have HI0 := Aside0.mk (show ∀ j : Nat, j < l.length → (0 ≤ (rdR l (j : Int)).f0 ∧ (rdR l (j : Int)).f0 ≤ 4294967295) ∧ 0 ≤ (rdR l (j : Int)).f1 ∧ (rdR l (j : Int)).f1 ≤ 4294967295 from fun j hj => by
    have hm : rdR l (j : Int) ∈ l := by rw [rdR_eq l j hj]; exact List.getElem_mem hj
    exact ⟨(hI _ hm).1.range, (hI _ hm).2.range⟩)
  clear hr hc hI
  obtain ⟨n, hn⟩ : ∃ n : Nat, n = min l.length 60 := ⟨_, rfl⟩
  have HNL := Aside0.mk (show n ≤ l.length ∧ n ≤ 60 from by omega)
  have hmin : min (l.length : Int) 60 = (n : Int) := by omega
  go_enter Try.func3, Try.ntmps3
  go_wp2_with fail
  refine (newTab_any w).mono ?_
  rintro e w1 ⟨⟨P0, rfl, h0⟩, hb⟩
  have HB1 := Aside0.mk hb
  have H0 := Aside0.mk h0
  clear hb h0
  go_wp2_with fail
  refine (newTab_any w1).mono ?_
  rintro e w2 ⟨⟨Q0, rfl, h0⟩, hb⟩
  have HB2 := Aside0.mk (HB1.out.trans (hb.mono HB1.out.size))
  have HP0 := Aside0.mk (H0.out.below hb)
  have HQ0 := Aside0.mk h0
  clear hb h0 HB1 H0
  have hn60 := HNL.out.2
  have hnl := HNL.out.1
  dsimp only
  repeat ((fail_if_success (show Code.wp _ (Code.seq (Code.region 3 _ _) _) _ _ _)); (first | go_values | go_skip | go_guarded | go_step | go_upon | go_back))
  first | go_step | go_upon | go_skip
  go_cut [5] from 6 (fun s5 w' => s5 = .int .i64 (n : Int) ∧ w' = w2)
  case first =>
    go_wp2_with fail
    all_goals (go_meet; case rel => exact ⟨by first | rfl | (congr 1; omega), rfl⟩)
  case rest =>
  obtain ⟨rfl, rfl⟩ := hcut
  clear hn
  go_wp2_with fail
  go_loopw [3, 4, 6] (fun s3 s4 s6 wr => ∃ (j : Nat) (P : Option Addr) (x : Tab) (Q : Option Addr) (y : Tab), s3 = .pointer P ∧ s4 = .pointer Q ∧ s6 = .int .i64 j ∧ j ≤ n ∧ Aside0 (Inv j x (goodL (l.take j))) ∧ Aside0 (Inv j y (goodL ((l.take n).reverse.take j))) ∧ Aside0 (TabAtm wr P x) ∧ Aside0 (TabAtm wr Q y) ∧ Aside0 (Below w.heap.size w wr)) (fun _ _ s6 _ => n - (intOf s6).toNat)
  case atStart => exact ⟨0, P0, newTab, Q0, newTab, rfl, rfl, rfl, Nat.zero_le _, ⟨inv_new⟩, ⟨inv_new⟩, HP0, HQ0, HB2⟩
  case round =>
    clear HP0 HQ0 HB2
    obtain ⟨j, P, x, Q, y, rfl, rfl, rfl, hj, HI, HJ, HP, HQ, HB⟩ := hrel
    by_cases h1 : j < n
    · have h1' : (j : Int) < (n : Int) := by omega
      have hw := wr1 j (by omega)
      have hwa : wrap64 ((n : Int) - 1) = (n : Int) - 1 := by unfold wrap64; omega
      obtain ⟨k, hk⟩ : ∃ k : Nat, k = n - 1 - j := ⟨_, rfl⟩
      have hwb : wrap64 ((n : Int) - 1 - (j : Int)) = (k : Int) := by unfold wrap64; omega
      have HRV := Aside0.mk (show rdR (l.take n).reverse (j : Int) = rdR l (k : Int) from by rw [hk]; exact rev_at l n j (by omega) h1)
      have HLR := Aside0.mk (show j < (l.take n).reverse.length from by rw [List.length_reverse, List.length_take]; omega)
      obtain ⟨ad, rfl, a0, a1⟩ := at_T30 (Kd.C_below HR0.out HB.out) j (by omega) (by omega)
      obtain ⟨ad2, e2, _, _⟩ := at_T30 (Kd.C_below HR0.out HB.out) (k : Int) (by omega) (by omega)
      cases e2
      have HRD := Aside0.mk (fun W (hW : Below w.heap.size w W) => at_T30 (Kd.C_below HR0.out hW) (k : Int) (by omega) (by omega))
      simp only [Int.toNat_natCast] at a0 a1 HRD
      have HE1 := Aside0.mk (HI0.out j (by omega))
      have HE2 := Aside0.mk (HI0.out k (by omega))
      have HJ60 := Aside0.mk (show j ≤ 60 from by omega)
      obtain ⟨p, hp⟩ : ∃ p, rdR l (j : Int) = p := ⟨_, rfl⟩
      obtain ⟨q, hq⟩ : ∃ q, rdR l (k : Int) = q := ⟨_, rfl⟩
      rw [hp] at HE1
      rw [hq] at HE2 HRV
      have HSP := Aside0.mk (HI.out.step (by omega) (by omega) p hp HE1.out.1.1 HE1.out.1.2 HE1.out.2.1 HE1.out.2.2)
      have HSQ := Aside0.mk (HJ.out.step (by omega) HLR.out q HRV.out HE2.out.1.1 HE2.out.1.2 HE2.out.2.1 HE2.out.2.2)
      rw [show rd_T30 l (j : Int) = p from hp] at a0 a1
      rw [show rd_T30 l (k : Int) = q from hq] at HRD
      have CP := Aside0.mk (fun W hW => add_op HI.out (by have := HJ60.out; omega) P p.f0 p.f1 HE1.out.1.1 HE1.out.2.2 W hW)
      have CQ := Aside0.mk (fun W hW => add_op HJ.out (by have := HJ60.out; omega) Q q.f0 q.f1 HE2.out.1.1 HE2.out.2.2 W hW)
      have NP := Aside0.mk (fun h => HI.out.done_no false p.f0 p.f1 HE1.out.1.1 HE1.out.1.2 HE1.out.2.1 HE1.out.2.2 h)
      have NQ := Aside0.mk (fun h => HJ.out.done_no false q.f0 q.f1 HE2.out.1.1 HE2.out.1.2 HE2.out.2.1 HE2.out.2.2 h)
      have O1 := Aside0.mk (doneE_01 false p.f0 p.f1 (goodL (l.take j)))
      have O2 := Aside0.mk (doneE_01 false q.f0 q.f1 (goodL ((l.take n).reverse.take j)))
      clear hp hq HI HJ HRV HLR HE1 HE2 HJ60
      generalize doneX false p.f0 p.f1 x = x3 at *
      generalize doneX false q.f0 q.f1 y = y3 at *
      generalize doneE false p.f0 p.f1 (goodL (l.take j)) = e1 at *
      generalize doneE false q.f0 q.f1 (goodL ((l.take n).reverse.take j)) = e2 at *
      have hkl : (n : Int) - 1 - (j : Int) < (l.length : Int) := by omega
      have hk0 : (0 : Int) ≤ (n : Int) - 1 - (j : Int) := by omega
      clear hwb
      subst hk
      rcases O1.out with rfl | rfl
      · rcases O2.out with rfl | rfl
        · go_wp2_with fail
          refine (CP.out wr HP.out).mono ?_
          rintro e w3 ⟨⟨Pq, rfl, ht1, hz1⟩, hb⟩
          have HB3 := Aside0.mk (HB.out.trans (hb.mono HB.out.size))
          have HQ3 := Aside0.mk (HQ.out.below hb)
          obtain ⟨ad2, e2, b0, b1⟩ := HRD.out w3 HB3.out
          cases e2
          have HT1 := Aside0.mk (ht1 rfl)
          clear hb ht1 hz1 a0 a1
          go_wp2_with fail
          refine (CQ.out w3 HQ3.out).mono ?_
          rintro e w4 ⟨⟨Qq, rfl, ht2, hz2⟩, hb⟩
          have HB4 := Aside0.mk (HB3.out.trans (hb.mono HB3.out.size))
          have HT14 := Aside0.mk (HT1.out.below hb)
          have HT2 := Aside0.mk (ht2 rfl)
          clear hb ht2 hz2 b0 b1
          go_wp2_with fail
          go_roundw
          case rel => exact ⟨j + 1, _, _, _, _, rfl, rfl, by first | go_num | rw [hw], by omega, HSP, HSQ, HT14, HT2, HB4⟩
          case measure => (try rw [hw]); simp only [intOf]; omega
        · go_wp2_with fail
          refine (CP.out wr HP.out).mono ?_
          rintro e w3 ⟨⟨Pq, rfl, ht1, hz1⟩, hb⟩
          have HB3 := Aside0.mk (HB.out.trans (hb.mono HB.out.size))
          have HQ3 := Aside0.mk (HQ.out.below hb)
          obtain ⟨ad2, e2, b0, b1⟩ := HRD.out w3 HB3.out
          cases e2
          have HT1 := Aside0.mk (ht1 rfl)
          clear hb ht1 hz1 a0 a1
          go_wp2_with fail
          refine (CQ.out w3 HQ3.out).mono ?_
          rintro e w4 ⟨⟨Qq, rfl, ht2, hz2⟩, hb⟩
          have HB4 := Aside0.mk (HB3.out.trans (hb.mono HB3.out.size))
          have HT14 := Aside0.mk (HT1.out.below hb)
          obtain rfl := NQ.out (by decide)
          have HT2 := Aside0.mk (HQ3.out.below hb)
          clear hb ht2 hz2 b0 b1
          go_wp2_with fail
          go_roundw
          case rel => exact ⟨j + 1, _, _, _, _, rfl, rfl, by first | go_num | rw [hw], by omega, HSP, HSQ, HT14, HT2, HB4⟩
          case measure => (try rw [hw]); simp only [intOf]; omega
      · rcases O2.out with rfl | rfl
        · go_wp2_with fail
          refine (CP.out wr HP.out).mono ?_
          rintro e w3 ⟨⟨Pq, rfl, ht1, hz1⟩, hb⟩
          have HB3 := Aside0.mk (HB.out.trans (hb.mono HB.out.size))
          have HQ3 := Aside0.mk (HQ.out.below hb)
          obtain ⟨ad2, e2, b0, b1⟩ := HRD.out w3 HB3.out
          cases e2
          obtain rfl := NP.out (by decide)
          have HT1 := Aside0.mk (HP.out.below hb)
          clear hb ht1 hz1 a0 a1
          go_wp2_with fail
          refine (CQ.out w3 HQ3.out).mono ?_
          rintro e w4 ⟨⟨Qq, rfl, ht2, hz2⟩, hb⟩
          have HB4 := Aside0.mk (HB3.out.trans (hb.mono HB3.out.size))
          have HT14 := Aside0.mk (HT1.out.below hb)
          have HT2 := Aside0.mk (ht2 rfl)
          clear hb ht2 hz2 b0 b1
          go_wp2_with fail
          go_roundw
          case rel => exact ⟨j + 1, _, _, _, _, rfl, rfl, by first | go_num | rw [hw], by omega, HSP, HSQ, HT14, HT2, HB4⟩
          case measure => (try rw [hw]); simp only [intOf]; omega
        · go_wp2_with fail
          refine (CP.out wr HP.out).mono ?_
          rintro e w3 ⟨⟨Pq, rfl, ht1, hz1⟩, hb⟩
          have HB3 := Aside0.mk (HB.out.trans (hb.mono HB.out.size))
          have HQ3 := Aside0.mk (HQ.out.below hb)
          obtain ⟨ad2, e2, b0, b1⟩ := HRD.out w3 HB3.out
          cases e2
          obtain rfl := NP.out (by decide)
          have HT1 := Aside0.mk (HP.out.below hb)
          clear hb ht1 hz1 a0 a1
          go_wp2_with fail
          refine (CQ.out w3 HQ3.out).mono ?_
          rintro e w4 ⟨⟨Qq, rfl, ht2, hz2⟩, hb⟩
          have HB4 := Aside0.mk (HB3.out.trans (hb.mono HB3.out.size))
          have HT14 := Aside0.mk (HT1.out.below hb)
          obtain rfl := NQ.out (by decide)
          have HT2 := Aside0.mk (HQ3.out.below hb)
          clear hb ht2 hz2 b0 b1
          go_wp2_with fail
          go_roundw
          case rel => exact ⟨j + 1, _, _, _, _, rfl, rfl, by first | go_num | rw [hw], by omega, HSP, HSQ, HT14, HT2, HB4⟩
          case measure => (try rw [hw]); simp only [intOf]; omega
    · have h1' : ¬ (j : Int) < (n : Int) := by omega
      obtain rfl : j = n := by omega
      have HJ2 := Aside0.mk (order_end HNL.out.1 HI.out HJ.out)
      have HKE := Aside0.mk (HJ2.out.same_keys HI.out)
      have HSE := Aside0.mk (show sz y.b = sz x.b from by rw [← keys_len, HKE.out, keys_len])
      have hm4 : j ≤ 400 := by omega
      have HSB := Aside0.mk (show sz x.b ≤ 1000 from by have := HI.out.sb; omega)
      have CLT := Aside0.mk (fun W hW => tlen_any P x W hW)
      have CLU := Aside0.mk (fun W hW => tlen_any Q y W hW)
      rw [HSE.out] at CLU
      have CAT := Aside0.mk (fun i W hW => atom_any P x i W (.inl hW) (HI.out.lim hm4).1 HI.out.range (keys_up HI.out.b.1))
      have CAU := Aside0.mk (fun i W hW => atom_any Q y i W (.inl hW) (HJ2.out.lim hm4).1 HJ2.out.range (keys_up HJ2.out.b.1))
      rw [HKE.out] at CAU
      clear HJ HKE HSE HJ2 hj h1 h1'
      generalize keysT x.b = KK at *
      obtain ⟨ns, hns⟩ : ∃ ns, sz x.b = ns := ⟨_, rfl⟩
      have HNS := Aside0.mk hns
      rw [hns] at CLT CLU HSB
      clear hns
      go_wp2_with fail
      refine (CLT.out wr HP.out).mono ?_
      rintro e w3 ⟨rfl, rfl⟩
      go_wp2_with fail
      refine (CLU.out w3 HQ.out).mono ?_
      rintro e w4 ⟨rfl, rfl⟩
      clear CLU
      go_wp2_with fail
      have HW0 := Aside0.mk (Below.refl w4.heap.size w4)
      go_loopw [11] (fun s11 wr => ∃ (i : Nat), s11 = .int .i64 i ∧ i ≤ ns ∧ Aside0 (Below w4.heap.size w4 wr)) (fun s11 _ => ns - (intOf s11).toNat)
      case atStart => exact ⟨0, rfl, Nat.zero_le _, HW0⟩
      case round =>
        clear HW0
        obtain ⟨i, rfl, hi, HN⟩ := hrel
        have HPi := Aside0.mk (HP.out.below HN.out)
        have HQi := Aside0.mk (HQ.out.below HN.out)
        have cl := CLT.out wr HPi.out
        have hib := HSB.out
        by_cases h2 : i < ns
        · have h2' : (i : Int) < (ns : Int) := by omega
          have hwi := wr1 i (by omega)
          have ca := CAT.out i wr HPi.out
          have CB := Aside0.mk (fun W hW => CAU.out i W hW)
          generalize hat : atomR KK (i : Int) = ar at *
          clear hat
          obtain ⟨⟨r0, r1⟩, rb⟩ := ar
          simp only [] at ca CB
          go_wp2_with fail
          refine cl.mono ?_
          rintro e w5 ⟨rfl, rfl⟩
          clear cl
          go_wp2_with fail
          refine ca.mono ?_
          rintro e w6 ⟨rfl, hb⟩
          have hb2 := hb.alloc hb.size (.cells #[.int .u32 r0, .int .u32 r1] 30)
          have HN6 := Aside0.mk (HN.out.trans (hb2.mono HN.out.size))
          have HX6 := Aside0.mk (blk_new w6 (.cells #[.int .u32 r0, .int .u32 r1] 30))
          have HQ6 := Aside0.mk (HQi.out.below hb2)
          clear hb hb2 ca
          dsimp only
          repeat ((fail_if_success (show Code.wp _ (Code.seq (Code.region 19 _ _) _) _ _ _)); (first | go_values | go_skip | go_guarded | go_step | go_upon | go_back))
          generalize (w6.alloc (.cells #[.int .u32 r0, .int .u32 r1] 30)) = w7 at *
          generalize w6.heap.size = bx at *
          go_wp2_with fail
          refine (CB.out w7 HQ6.out).mono ?_
          rintro e w8 ⟨rfl, hb⟩
          have hb2 := hb.alloc hb.size (.cells #[.int .u32 r0, .int .u32 r1] 30)
          have HN8 := Aside0.mk (HN6.out.trans (hb2.mono HN6.out.size))
          have HX8 := Aside0.mk (blk_below HX6.out hb2)
          have HY8 := Aside0.mk (blk_new w8 (.cells #[.int .u32 r0, .int .u32 r1] 30))
          clear hb hb2
          dsimp only
          repeat ((fail_if_success (show Code.wp _ (Code.seq (Code.region 20 _ _) _) _ _ _)); (first | go_values | go_skip | go_guarded | go_step | go_upon | go_back))
          generalize (w8.alloc (.cells #[.int .u32 r0, .int .u32 r1] 30)) = w9 at *
          generalize w8.heap.size = by_ at *
          have x0 := blk_cell HX8.out 0
          have x1 := blk_cell HX8.out 1
          have y0 := blk_cell HY8.out 0
          have y1 := blk_cell HY8.out 1
          go_wp2_with fail
          go_roundw
          case rel => exact ⟨i + 1, by first | go_num | rw [hwi], by omega, HN8⟩
          case measure => (try rw [hwi]); simp only [intOf]; omega
        · have h2' : ¬ (i : Int) < (ns : Int) := by omega
          have h2d : decide ((i : Int) < (ns : Int)) = false := decide_eq_false h2'
          have h2e : decide (i < ns) = false := decide_eq_false h2
          go_wp2_with fail
          refine cl.mono ?_
          rintro e w5 ⟨rfl, rfl⟩
          clear cl CAT CAU h2 hi
          go_wp2_with fail
          have HW0 := Aside0.mk (Below.refl w5.heap.size w5)
          go_loopw [16] (fun s16 wr => ∃ (i : Nat), s16 = .int .i64 i ∧ i ≤ j ∧ Aside0 (Below w5.heap.size w5 wr)) (fun s16 _ => j - (intOf s16).toNat)
          case atStart => exact ⟨0, rfl, Nat.zero_le _, HW0⟩
          case round =>
            clear HW0
            obtain ⟨i2, rfl, hi2, HN2⟩ := hrel
            by_cases h3 : i2 < j
            · have h3' : (i2 : Int) < (j : Int) := by omega
              have hil : i2 < l.length := by have := HNL.out.1; omega
              have hwi := wr1 i2 (by omega)
              have HBw := Aside0.mk (HB.out.trans ((HN.out.trans (HN2.out.mono HN.out.size)).mono HB.out.size))
              obtain ⟨ad, rfl, a0, a1⟩ := at_T30 (Kd.C_below HR0.out HBw.out) i2 (by omega) (by omega)
              have HRD := Aside0.mk (fun W (hW : Below w.heap.size w W) => at_T30 (Kd.C_below HR0.out hW) i2 (by omega) (by omega))
              simp only [Int.toNat_natCast] at a0 a1 HRD
              have HE1 := Aside0.mk (HI0.out i2 (by omega))
              obtain ⟨p, hp⟩ : ∃ p, rdR l (i2 : Int) = p := ⟨_, rfl⟩
              rw [hp] at HE1
              rw [show rd_T30 l (i2 : Int) = p from hp] at a0 a1 HRD
              have HPw := Aside0.mk (HPi.out.below HN2.out)
              have ca := add_op HI.out hm4 P p.f0 p.f1 HE1.out.1.1 HE1.out.2.2 wr HPw.out
              by_cases hg : p.f1 < p.f0
              · rw [good_no _ hg] at ca
                clear hg hp
                go_wp2_with fail
                refine ca.mono ?_
                rintro e w6 ⟨⟨Pq, rfl, _, hz⟩, hb⟩
                have HN6 := Aside0.mk (HN2.out.trans (hb.mono HN2.out.size))
                clear hb ca a0 a1
                obtain rfl := hz (by decide)
                go_wp2_with fail
                have hc : True := trivial
                refine wp_region_held_drew (S := (fun w' => True)) (by kernel_rfl) ?hS0 (fun hHeld => ?_)
                case hS0 => trivial
                refine held_take 0 (some 96) (v := ?v0) rfl rfl (by kernel_rfl) (by kernel_rfl) (by kernel_rfl) (fun _ _ _ h => h) (by rfl) ?y0 (by assumption) ?_
                case y0 => ((intro w hSw); (try dsimp only at hSw); go_simp <;> (with_reducible rfl))
                try simp only [Act.put, List.setIfInBounds_toArray, List.set_cons_zero, List.set_cons_succ]
                refine held_take 1 (some 97) (v := ?v1) rfl rfl (by kernel_rfl) (by kernel_rfl) (by kernel_rfl) (fun _ _ _ h => h) (by rfl) ?y1 (by assumption) ?_
                case y1 => ((intro w hSw); (try dsimp only at hSw); go_simp <;> (with_reducible rfl))
                try simp only [Act.put, List.setIfInBounds_toArray, List.set_cons_zero, List.set_cons_succ]
                refine held_take 2 (some 98) (v := ?v2) rfl rfl (by kernel_rfl) (by kernel_rfl) (by kernel_rfl) (fun _ _ _ h => h) (by rfl) ?y2 (by assumption) ?_
                case y2 => ((intro w hSw); (try dsimp only at hSw); go_simp <;> (with_reducible rfl))
                try simp only [Act.put, List.setIfInBounds_toArray, List.set_cons_zero, List.set_cons_succ]
                refine held_skip 3 (some 99) rfl rfl (by kernel_rfl) (by kernel_rfl) (by kernel_rfl) (fun _ _ _ h => h) (by rfl) (by assumption) ?_
                try simp only [Act.put, List.setIfInBounds_toArray, List.set_cons_zero, List.set_cons_succ]
                refine held_skip 4 (some 100) rfl rfl (by kernel_rfl) (by kernel_rfl) (by kernel_rfl) (fun _ _ _ h => h) (by rfl) (by assumption) ?_
                try simp only [Act.put, List.setIfInBounds_toArray, List.set_cons_zero, List.set_cons_succ]
                refine held_skip 5 (some 101) rfl rfl (by kernel_rfl) (by kernel_rfl) (by kernel_rfl) (fun _ _ _ h => h) (by rfl) (by assumption) ?_
                try simp only [Act.put, List.setIfInBounds_toArray, List.set_cons_zero, List.set_cons_succ]
                refine held_skip 6 (some 102) rfl rfl (by kernel_rfl) (by kernel_rfl) (by kernel_rfl) (fun _ _ _ h => h) (by rfl) (by assumption) ?_
                try simp only [Act.put, List.setIfInBounds_toArray, List.set_cons_zero, List.set_cons_succ]
                refine held_skip 7 (some 103) rfl rfl (by kernel_rfl) (by kernel_rfl) (by kernel_rfl) (fun _ _ _ h => h) (by rfl) (by assumption) ?_
                try simp only [Act.put, List.setIfInBounds_toArray, List.set_cons_zero, List.set_cons_succ]
                refine held_skip 8 (some 104) rfl rfl (by kernel_rfl) (by kernel_rfl) (by kernel_rfl) (fun _ _ _ h => h) (by rfl) (by assumption) ?_
                try simp only [Act.put, List.setIfInBounds_toArray, List.set_cons_zero, List.set_cons_succ]
                refine held_skip 9 (some 105) rfl rfl (by kernel_rfl) (by kernel_rfl) (by kernel_rfl) (fun _ _ _ h => h) (by rfl) (by assumption) ?_
                try simp only [Act.put, List.setIfInBounds_toArray, List.set_cons_zero, List.set_cons_succ]
                refine held_skip 10 (some 106) rfl rfl (by kernel_rfl) (by kernel_rfl) (by kernel_rfl) (fun _ _ _ h => h) (by rfl) (by assumption) ?_
                try simp only [Act.put, List.setIfInBounds_toArray, List.set_cons_zero, List.set_cons_succ]
                refine held_skip 11 (some 107) rfl rfl (by kernel_rfl) (by kernel_rfl) (by kernel_rfl) (fun _ _ _ h => h) (by rfl) (by assumption) ?_
                try simp only [Act.put, List.setIfInBounds_toArray, List.set_cons_zero, List.set_cons_succ]
                refine held_skip 12 (some 108) rfl rfl (by kernel_rfl) (by kernel_rfl) (by kernel_rfl) (fun _ _ _ h => h) (by rfl) (by assumption) ?_
                try simp only [Act.put, List.setIfInBounds_toArray, List.set_cons_zero, List.set_cons_succ]
                refine held_skip 13 (some 109) rfl rfl (by kernel_rfl) (by kernel_rfl) (by kernel_rfl) (fun _ _ _ h => h) (by rfl) (by assumption) ?_
                try simp only [Act.put, List.setIfInBounds_toArray, List.set_cons_zero, List.set_cons_succ]
                refine held_skip 14 (some 110) rfl rfl (by kernel_rfl) (by kernel_rfl) (by kernel_rfl) (fun _ _ _ h => h) (by rfl) (by assumption) ?_
                try simp only [Act.put, List.setIfInBounds_toArray, List.set_cons_zero, List.set_cons_succ]
                refine held_skip 15 (some 111) rfl rfl (by kernel_rfl) (by kernel_rfl) (by kernel_rfl) (fun _ _ _ h => h) (by rfl) (by assumption) ?_
                try simp only [Act.put, List.setIfInBounds_toArray, List.set_cons_zero, List.set_cons_succ]
                refine held_skip 16 (some 112) rfl rfl (by kernel_rfl) (by kernel_rfl) (by kernel_rfl) (fun _ _ _ h => h) (by rfl) (by assumption) ?_
                try simp only [Act.put, List.setIfInBounds_toArray, List.set_cons_zero, List.set_cons_succ]
                refine held_skip 17 (some 113) rfl rfl (by kernel_rfl) (by kernel_rfl) (by kernel_rfl) (fun _ _ _ h => h) (by rfl) (by assumption) ?_
                try simp only [Act.put, List.setIfInBounds_toArray, List.set_cons_zero, List.set_cons_succ]
                refine held_skip 18 (some 114) rfl rfl (by kernel_rfl) (by kernel_rfl) (by kernel_rfl) (fun _ _ _ h => h) (by rfl) (by assumption) ?_
                try simp only [Act.put, List.setIfInBounds_toArray, List.set_cons_zero, List.set_cons_succ]
                refine held_skip 19 (some 115) rfl rfl (by kernel_rfl) (by kernel_rfl) (by kernel_rfl) (fun _ _ _ h => h) (by rfl) (by assumption) ?_
                try simp only [Act.put, List.setIfInBounds_toArray, List.set_cons_zero, List.set_cons_succ]
                refine held_skip 20 (some 116) rfl rfl (by kernel_rfl) (by kernel_rfl) (by kernel_rfl) (fun _ _ _ h => h) (by rfl) (by assumption) ?_
                try simp only [Act.put, List.setIfInBounds_toArray, List.set_cons_zero, List.set_cons_succ]
                refine held_skip 21 (some 117) rfl rfl (by kernel_rfl) (by kernel_rfl) (by kernel_rfl) (fun _ _ _ h => h) (by rfl) (by assumption) ?_
                try simp only [Act.put, List.setIfInBounds_toArray, List.set_cons_zero, List.set_cons_succ]
                refine held_skip 22 (some 118) rfl rfl (by kernel_rfl) (by kernel_rfl) (by kernel_rfl) (fun _ _ _ h => h) (by rfl) (by assumption) ?_
                try simp only [Act.put, List.setIfInBounds_toArray, List.set_cons_zero, List.set_cons_succ]
                refine held_skip 23 (some 119) rfl rfl (by kernel_rfl) (by kernel_rfl) (by kernel_rfl) (fun _ _ _ h => h) (by rfl) (by assumption) ?_
                try simp only [Act.put, List.setIfInBounds_toArray, List.set_cons_zero, List.set_cons_succ]
                refine held_take 24 (some 120) (v := ?v24) rfl rfl (by kernel_rfl) (by kernel_rfl) (by kernel_rfl) (fun _ _ _ h => h) (by rfl) ?y24 (by assumption) ?_
                case y24 => ((intro w hSw); (try dsimp only at hSw); go_simp <;> (with_reducible rfl))
                try simp only [Act.put, List.setIfInBounds_toArray, List.set_cons_zero, List.set_cons_succ]
                refine wpAnyH_done (by kernel_rfl) ?_ _
                clear hc
                go_wp2_with fail
                go_roundw
                case rel => exact ⟨i2 + 1, by first | go_num | rw [hwi], by omega, ⟨HN6.out.trans ((below_drew (Below.refl _ _)).mono HN6.out.size)⟩⟩
                case measure => (try rw [hwi]); simp only [intOf]; omega
              · have HTW := Aside0.mk (HI.out.twice hm4 HNL.out.1 h3 p hp HE1.out.1.1 HE1.out.1.2 HE1.out.2.1 HE1.out.2.2 hg)
                rw [HTW.out.2.2] at ca
                have CLX := Aside0.mk (fun P2 W hW => tlen_any P2 (doneX false p.f0 p.f1 x) W hW)
                rw [HTW.out.1, HNS.out] at CLX
                have CNT := Aside0.mk (fun W hW => count_any P x p.f0 p.f1 W hW)
                have CNX := Aside0.mk (fun P2 W hW => count_any P2 (doneX false p.f0 p.f1 x) p.f0 p.f1 W hW)
                rw [HTW.out.2.1] at CNX
                have HNN := Aside0.mk (show 0 ≤ numT (keyF p.f0 p.f1) x.r ∧ numT (keyF p.f0 p.f1) x.r ≤ 1000 from by
                  rw [HI.out.num p.f0 p.f1 HE1.out.1.1 HE1.out.1.2 HE1.out.2.1 HE1.out.2.2]
                  have q1 := cnt_le p.f0 p.f1 (goodL (l.take j))
                  have q2 := HI.out.len
                  omega)
                clear hg hp HTW
                generalize doneX false p.f0 p.f1 x = x3 at *
                generalize numT (keyF p.f0 p.f1) x.r = nn at *
                have hnn1 := HNN.out.1
                have hnn2 := HNN.out.2
                have hwn : wrap64 (nn + 1) = nn + 1 := by unfold wrap64; omega
                have hwn2 : IntKind.i64.wrap (nn + 1) = nn + 1 := by rw [IntKind.wrap_i64]; omega
                have hwn3 : (nn + 1 != IntKind.i64.wrap (nn + 1)) = false := by rw [hwn2]; simp
                go_wp2_with fail
                refine ca.mono ?_
                rintro e w6 ⟨⟨Pq, rfl, ht, _⟩, hb⟩
                have HT6 := Aside0.mk (ht rfl)
                have HN6 := Aside0.mk (HN2.out.trans (hb.mono HN2.out.size))
                have HP6 := Aside0.mk (HPw.out.below hb)
                have HB6 := Aside0.mk (HBw.out.trans (hb.mono HBw.out.size))
                clear hb ca a0 a1 ht
                obtain ⟨ad2, e2, b0, b1⟩ := HRD.out w6 HB6.out
                cases e2
                have HRD2 := Aside0.mk (show ∀ W, Below w.heap.size w W → W.cell? (ad.add (i2 * 2)) = some (.int .u32 p.f0) ∧ W.cell? ⟨(ad.add (i2 * 2)).block, (ad.add (i2 * 2)).off + 1, none⟩ = some (.int .u32 p.f1) from fun W hW => by
                  obtain ⟨ad2, e2, q1, q2⟩ := HRD.out W hW
                  cases e2
                  exact ⟨q1, q2⟩)
                go_wp2_with fail
                have hc : w6.cell? (ad.add (i2 * 2)) = some (.int .u32 p.f0) ∧ w6.cell? ⟨(ad.add (i2 * 2)).block, (ad.add (i2 * 2)).off + 1, none⟩ = some (.int .u32 p.f1) := ⟨b0, b1⟩
                have HD := Aside0.mk (below_drew (Below.refl w6.heap.size w6))
                clear b0 b1
                refine wp_region_held_drew (S := (fun w' => w'.cell? (ad.add (i2 * 2)) = some (.int .u32 p.f0) ∧ w'.cell? ⟨(ad.add (i2 * 2)).block, (ad.add (i2 * 2)).off + 1, none⟩ = some (.int .u32 p.f1))) (by kernel_rfl) ?hSg0 (fun hHeld => ?_)
                case hSg0 => (first | assumption | go_keep)
                refine held_take 0 (some 96) (v := ?vg0) rfl rfl (by kernel_rfl) (by kernel_rfl) (by kernel_rfl) (fun _ _ _ h => h) (by rfl) ?yg0 (by assumption) ?_
                case yg0 => ((intro w hSw); (try dsimp only at hSw); go_simp <;> (with_reducible rfl))
                try simp only [Act.put, List.setIfInBounds_toArray, List.set_cons_zero, List.set_cons_succ]
                refine held_take 1 (some 97) (v := ?vg1) rfl rfl (by kernel_rfl) (by kernel_rfl) (by kernel_rfl) (fun _ _ _ h => h) (by rfl) ?yg1 (by assumption) ?_
                case yg1 => ((intro w hSw); (try dsimp only at hSw); go_simp <;> (with_reducible rfl))
                try simp only [Act.put, List.setIfInBounds_toArray, List.set_cons_zero, List.set_cons_succ]
                refine held_take 2 (some 98) (v := ?vg2) rfl rfl (by kernel_rfl) (by kernel_rfl) (by kernel_rfl) (fun _ _ _ h => h) (by rfl) ?yg2 (by assumption) ?_
                case yg2 => ((intro w hSw); (try dsimp only at hSw); go_simp <;> (with_reducible rfl))
                try simp only [Act.put, List.setIfInBounds_toArray, List.set_cons_zero, List.set_cons_succ]
                refine held_take 3 (some 99) (v := ?vg3) rfl rfl (by kernel_rfl) (by kernel_rfl) (by kernel_rfl) (fun _ _ _ h => h) (by rfl) ?yg3 (by assumption) ?_
                case yg3 => ((intro w hSw); (try dsimp only at hSw); go_simp <;> (with_reducible rfl))
                try simp only [Act.put, List.setIfInBounds_toArray, List.set_cons_zero, List.set_cons_succ]
                refine held_take 5 (some 101) (v := ?vg5) rfl rfl (by kernel_rfl) (by kernel_rfl) (by kernel_rfl) (fun _ _ _ h => h) (by rfl) ?yg5 (by assumption) ?_
                case yg5 => ((intro w hSw); (try dsimp only at hSw); go_simp <;> (with_reducible rfl))
                try simp only [Act.put, List.setIfInBounds_toArray, List.set_cons_zero, List.set_cons_succ]
                refine wpAnyH_ready (rs := [4]) (by kernel_rfl) (by simp) ?_
                refine AllReadyH.cons rfl (fun K hK => ?_) AllReadyH.nil
                go_simp
                (go_at_call 11; refine (CLX.out Pq _ (HT6.out.below HD.out)).mono ?_; rintro e w7 ⟨rfl, rfl⟩)
                refine hK.out _ _ ?hSg5 (fun hHeld => ?_)
                case hSg5 => (first | assumption | go_keep)
                clear hK K
                try simp only [Act.put, List.setIfInBounds_toArray, List.set_cons_zero, List.set_cons_succ]
                refine wpAnyH_ready (rs := [6]) (by kernel_rfl) (by simp) ?_
                refine AllReadyH.cons rfl (fun K hK => ?_) AllReadyH.nil
                go_simp
                (go_at_call 11; refine (CLT.out _ (HP6.out.below HD.out)).mono ?_; rintro e w7 ⟨rfl, rfl⟩)
                refine hK.out _ _ ?hSg7 (fun hHeld => ?_)
                case hSg7 => (first | assumption | go_keep)
                clear hK K
                try simp only [Act.put, List.setIfInBounds_toArray, List.set_cons_zero, List.set_cons_succ]
                refine held_take 7 (some 103) (v := ?vg7) rfl rfl (by kernel_rfl) (by kernel_rfl) (by kernel_rfl) (fun _ _ _ h => h) (by rfl) ?yg7 (by assumption) ?_
                case yg7 => ((intro w hSw); (try dsimp only at hSw); go_simp <;> (with_reducible rfl))
                try simp only [Act.put, List.setIfInBounds_toArray, List.set_cons_zero, List.set_cons_succ]
                refine held_take 8 (some 104) (v := ?vg8) rfl rfl (by kernel_rfl) (by kernel_rfl) (by kernel_rfl) (fun _ _ _ h => h) (by rfl) ?yg8 (by assumption) ?_
                case yg8 => ((intro w hSw); (try dsimp only at hSw); go_simp <;> (with_reducible rfl))
                try simp only [Act.put, List.setIfInBounds_toArray, List.set_cons_zero, List.set_cons_succ]
                refine held_take 9 (some 105) (v := ?vg9) rfl rfl (by kernel_rfl) (by kernel_rfl) (by kernel_rfl) (fun _ _ _ h => h) (by rfl) ?yg9 (by assumption) ?_
                case yg9 => ((intro w hSw); (try dsimp only at hSw); go_simp <;> (with_reducible rfl))
                try simp only [Act.put, List.setIfInBounds_toArray, List.set_cons_zero, List.set_cons_succ]
                refine held_take 10 (some 106) (v := ?vg10) rfl rfl (by kernel_rfl) (by kernel_rfl) (by kernel_rfl) (fun _ _ _ h => h) (by rfl) ?yg10 (by assumption) ?_
                case yg10 => ((intro w hSw); (try dsimp only at hSw); go_simp <;> (with_reducible rfl))
                try simp only [Act.put, List.setIfInBounds_toArray, List.set_cons_zero, List.set_cons_succ]
                refine held_take 11 (some 107) (v := ?vg11) rfl rfl (by kernel_rfl) (by kernel_rfl) (by kernel_rfl) (fun _ _ _ h => h) (by rfl) ?yg11 (by assumption) ?_
                case yg11 => ((intro w hSw); (try dsimp only at hSw); go_simp <;> (with_reducible rfl))
                try simp only [Act.put, List.setIfInBounds_toArray, List.set_cons_zero, List.set_cons_succ]
                refine held_take 12 (some 108) (v := ?vg12) rfl rfl (by kernel_rfl) (by kernel_rfl) (by kernel_rfl) (fun _ _ _ h => h) (by rfl) ?yg12 (by assumption) ?_
                case yg12 => ((intro w hSw); (try dsimp only at hSw); go_simp <;> (with_reducible rfl))
                try simp only [Act.put, List.setIfInBounds_toArray, List.set_cons_zero, List.set_cons_succ]
                refine held_take 13 (some 109) (v := ?vg13) rfl rfl (by kernel_rfl) (by kernel_rfl) (by kernel_rfl) (fun _ _ _ h => h) (by rfl) ?yg13 (by assumption) ?_
                case yg13 => ((intro w hSw); (try dsimp only at hSw); go_simp <;> (with_reducible rfl))
                try simp only [Act.put, List.setIfInBounds_toArray, List.set_cons_zero, List.set_cons_succ]
                refine held_take 15 (some 111) (v := ?vg15) rfl rfl (by kernel_rfl) (by kernel_rfl) (by kernel_rfl) (fun _ _ _ h => h) (by rfl) ?yg15 (by assumption) ?_
                case yg15 => ((intro w hSw); (try dsimp only at hSw); go_simp <;> (with_reducible rfl))
                try simp only [Act.put, List.setIfInBounds_toArray, List.set_cons_zero, List.set_cons_succ]
                refine held_take 16 (some 112) (v := ?vg16) rfl rfl (by kernel_rfl) (by kernel_rfl) (by kernel_rfl) (fun _ _ _ h => h) (by rfl) ?yg16 (by assumption) ?_
                case yg16 => ((intro w hSw); (try dsimp only at hSw); go_simp <;> (with_reducible rfl))
                try simp only [Act.put, List.setIfInBounds_toArray, List.set_cons_zero, List.set_cons_succ]
                refine held_take 17 (some 113) (v := ?vg17) rfl rfl (by kernel_rfl) (by kernel_rfl) (by kernel_rfl) (fun _ _ _ h => h) (by rfl) ?yg17 (by assumption) ?_
                case yg17 => ((intro w hSw); (try dsimp only at hSw); go_simp <;> (with_reducible rfl))
                try simp only [Act.put, List.setIfInBounds_toArray, List.set_cons_zero, List.set_cons_succ]
                refine held_take 18 (some 114) (v := ?vg18) rfl rfl (by kernel_rfl) (by kernel_rfl) (by kernel_rfl) (fun _ _ _ h => h) (by rfl) ?yg18 (by assumption) ?_
                case yg18 => ((intro w hSw); (try dsimp only at hSw); go_simp <;> (with_reducible rfl))
                try simp only [Act.put, List.setIfInBounds_toArray, List.set_cons_zero, List.set_cons_succ]
                refine held_take 19 (some 115) (v := ?vg19) rfl rfl (by kernel_rfl) (by kernel_rfl) (by kernel_rfl) (fun _ _ _ h => h) (by rfl) ?yg19 (by assumption) ?_
                case yg19 => ((intro w hSw); (try dsimp only at hSw); go_simp <;> (with_reducible rfl))
                try simp only [Act.put, List.setIfInBounds_toArray, List.set_cons_zero, List.set_cons_succ]
                refine wpAnyH_ready (rs := [14]) (by kernel_rfl) (by simp) ?_
                refine AllReadyH.cons rfl (fun K hK => ?_) AllReadyH.nil
                go_simp
                (go_at_call 13; refine (CNX.out Pq _ (HT6.out.below HD.out)).mono ?_; rintro e w7 ⟨rfl, hb⟩; have HD7 := Aside0.mk (HD.out.trans (hb.mono HD.out.size)); have K1 : w7.cell? (ad.add (i2 * 2)) = some (.int .u32 p.f0) ∧ w7.cell? ⟨(ad.add (i2 * 2)).block, (ad.add (i2 * 2)).off + 1, none⟩ = some (.int .u32 p.f1) := HRD2.out w7 (HB6.out.trans (HD7.out.mono HB6.out.size)); clear hb)
                refine hK.out _ _ ?hSg15 (fun hHeld => ?_)
                case hSg15 => (first | assumption | go_keep)
                clear hK K
                try simp only [Act.put, List.setIfInBounds_toArray, List.set_cons_zero, List.set_cons_succ]
                refine wpAnyH_ready (rs := [20]) (by kernel_rfl) (by simp) ?_
                refine AllReadyH.cons rfl (fun K hK => ?_) AllReadyH.nil
                go_simp
                (go_at_call 13; refine (CNT.out _ (HP6.out.below HD7.out)).mono ?_; rintro e w8 ⟨rfl, hb⟩; have HD8 := Aside0.mk (HD7.out.trans (hb.mono HD7.out.size)); have K3 : w8.cell? (ad.add (i2 * 2)) = some (.int .u32 p.f0) ∧ w8.cell? ⟨(ad.add (i2 * 2)).block, (ad.add (i2 * 2)).off + 1, none⟩ = some (.int .u32 p.f1) := HRD2.out w8 (HB6.out.trans (HD8.out.mono HB6.out.size)); clear hb)
                refine hK.out _ _ ?hSg21 (fun hHeld => ?_)
                case hSg21 => (first | assumption | go_keep)
                clear hK K
                try simp only [Act.put, List.setIfInBounds_toArray, List.set_cons_zero, List.set_cons_succ]
                refine held_take 21 (some 117) (v := ?vg21) rfl rfl (by kernel_rfl) (by kernel_rfl) (by kernel_rfl) (fun _ _ _ h => h) (by rfl) ?yg21 (by assumption) ?_
                case yg21 => ((intro w hSw); (try dsimp only at hSw); go_simp <;> (with_reducible rfl))
                try simp only [Act.put, List.setIfInBounds_toArray, List.set_cons_zero, List.set_cons_succ]
                refine held_take 22 (some 118) (v := ?vg22) rfl rfl (by kernel_rfl) (by kernel_rfl) (by kernel_rfl) (fun _ _ _ h => h) (by rfl) ?yg22 (by assumption) ?_
                case yg22 => ((intro w hSw); (try dsimp only at hSw); go_simp <;> (with_reducible rfl))
                try simp only [Act.put, List.setIfInBounds_toArray, List.set_cons_zero, List.set_cons_succ]
                refine held_take 23 (some 119) (v := ?vg23) rfl rfl (by kernel_rfl) (by kernel_rfl) (by kernel_rfl) (fun _ _ _ h => h) (by rfl) ?yg23 (by assumption) ?_
                case yg23 => ((intro w hSw); (try dsimp only at hSw); go_simp <;> (with_reducible rfl))
                try simp only [Act.put, List.setIfInBounds_toArray, List.set_cons_zero, List.set_cons_succ]
                refine held_take 24 (some 120) (v := ?vg24) rfl rfl (by kernel_rfl) (by kernel_rfl) (by kernel_rfl) (fun _ _ _ h => h) (by rfl) ?yg24 (by assumption) ?_
                case yg24 => ((intro w hSw); (try dsimp only at hSw); go_simp <;> (with_reducible rfl))
                try simp only [Act.put, List.setIfInBounds_toArray, List.set_cons_zero, List.set_cons_succ]
                refine wpAnyH_done (by kernel_rfl) ?_ _
                clear hc HD K1 K3
                go_wp2_with fail
                go_roundw
                case rel => exact ⟨i2 + 1, by first | go_num | rw [hwi], by omega, ⟨HN6.out.trans (HD8.out.mono HN6.out.size)⟩⟩
                case measure => (try rw [hwi]); simp only [intOf]; omega
            · have h3' : ¬ (i2 : Int) < (j : Int) := by omega
              go_wp2_with fail
              refine (alive_any _).mono ?_
              rintro e w7 ⟨rfl, hb⟩
              have HBz := Aside0.mk (HB.out.trans ((HN.out.trans ((HN2.out.trans (hb.mono HN2.out.size)).mono HN.out.size)).mono HB.out.size))
              clear hb
              go_wp2_with fail
              go_ret
              exact ⟨rfl, HBz.out⟩
end Go.Proofs.Ytjfbiabgeickjaa.H
