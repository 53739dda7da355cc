/- Bol7. -/
import Derived.Test.YtnbojemjaipnlaaEBol6
import Derived.Deep.RegionHeld3
namespace Go.Proofs.Ytnbojemjaipnlaa.H
open Go.RowKit Go.Proofs.Ytnbojemjaipnlaa.P Go.Proofs.YtnbojemjaipnlaaW.PrintWords Go.Proofs.YtnbojemjaipnlaaW.PrintLast Go.Proofs.YtnbojemjaipnlaaW.PrintMore
set_option linter.unusedVariables false
set_option linter.unusedSimpArgs false
set_option maxRecDepth 20000
set_option maxHeartbeats 4000000 in
theorem bookApart_any (A : Option Addr) (c : Nat) (L : List ActR) (a : ActR) (w : World) (hr : Kd.C kAct w A L.length L) (hc : L.length ≤ c) (hL : ∀ a ∈ L, i64 a.n) (hn : i64 a.n) :
    Calls Try.prog 4 #[.slice A L.length c, encA a] w fun e w' => e = .returned (.bool true) ∧ Below w.heap.size w w' := by
  have HB0 := Aside0.mk ((Below.refl w.heap.size w).alloc (Nat.le_refl _) (.cells #[.int .i64 a.k, .int .i64 a.n, .string a.nm, .int .i64 a.e.f0, .int .i64 a.e.f1.f0, .int .i64 a.e.f1.f1, .int .i64 a.e.f1.f2, .int .i64 a.e.f1.f3, .int .u32 a.e.f1.f4.f0, .int .u32 a.e.f1.f4.f1, .int .i64 a.e.f1.f5] 39))
  have HN0 := Aside0.mk (blk_new w (.cells #[.int .i64 a.k, .int .i64 a.n, .string a.nm, .int .i64 a.e.f0, .int .i64 a.e.f1.f0, .int .i64 a.e.f1.f1, .int .i64 a.e.f1.f2, .int .i64 a.e.f1.f3, .int .u32 a.e.f1.f4.f0, .int .u32 a.e.f1.f4.f1, .int .i64 a.e.f1.f5] 39))
  have HR := Aside0.mk (Kd.C_below hr HB0.out)
  have HL := Aside0.mk hL
  have HN := Aside0.mk hn
  have HSZ := Aside0.mk (show w.heap.size ≤ (w.alloc (.cells #[.int .i64 a.k, .int .i64 a.n, .string a.nm, .int .i64 a.e.f0, .int .i64 a.e.f1.f0, .int .i64 a.e.f1.f1, .int .i64 a.e.f1.f2, .int .i64 a.e.f1.f3, .int .u32 a.e.f1.f4.f0, .int .u32 a.e.f1.f4.f1, .int .i64 a.e.f1.f5] 39)).heap.size from HB0.out.size)
  have hut := Try.underlying28
  have hut2 := Try.underlying39
  have hut3 := Try.underlying54
  unfold encA
  clear hr hL hn
  go_enter Try.func4, Try.ntmps4
  go_wp2_with fail
  generalize (w.alloc (.cells #[.int .i64 a.k, .int .i64 a.n, .string a.nm, .int .i64 a.e.f0, .int .i64 a.e.f1.f0, .int .i64 a.e.f1.f1, .int .i64 a.e.f1.f2, .int .i64 a.e.f1.f3, .int .u32 a.e.f1.f4.f0, .int .u32 a.e.f1.f4.f1, .int .i64 a.e.f1.f5] 39)) = W0 at *
  refine (new_any W0).mono ?_
  rintro e w1 ⟨hb, g, rfl, hk, hg, hh, hb1⟩
  have HP0 := Aside0.mk (new_pair hk hg hh hb1)
  clear hk hg hh hb1
  go_wp2_with fail
  generalize (w1.alloc (.cells #[.slice none 0 0] 28)) = W1 at *
  generalize w1.heap.size = mb at *
  go_loopw [7] (fun s7 wr => ∃ j : Nat, s7 = .int .i64 j ∧ j ≤ L.length ∧ j ≤ 100 ∧ ∃ M, Aside0 (Pair W0 hb g mb M wr)) (fun s7 _ => L.length - (intOf s7).toNat)
  case atStart => exact ⟨0, rfl, Nat.zero_le _, Nat.zero_le _, [], HP0⟩
  case round =>
    obtain ⟨j, rfl, hj, hj2, M, HP⟩ := hrel
    by_cases hlt : j < L.length
    · have hltz : (j : Int) < (L.length : Int) := by omega
      by_cases hlt2 : j < 100
      · have hltz2 : (j : Int) < (100 : Int) := by omega
        have hy := List.getElem?_eq_getElem hlt
        generalize L[j] = b at hy
        obtain ⟨ad, rfl, a0, a1, a2, a3, a4, a5, a6, a7, a8, a9, a10⟩ := acts_at (Kd.C_below HR.out HP.out.below) hy
        have HA := Aside0.mk (HL.out b (List.mem_of_getElem? hy))
        have hw0 : wrap64 ((j : Int) + 1) = ((j + 1 : Nat) : Int) := by unfold wrap64; omega
        have HW := Aside0.mk hw0
        clear hw0 hy
        by_cases hq : b.nm.size ≤ 40
        · have hqz : (b.nm.size : Int) ≤ (40 : Int) := by omega
          clear hq
          have hdo := do_any b hb g mb M wr HP.out.book HP.out.doc HP.out.good HA.out
          unfold encA at hdo
          have HDO := Aside0.mk hdo
          clear hdo
          go_wp2_with fail
          refine HDO.out.mono ?_
          rintro e w2 hdo
          have HP2 := Aside0.mk (HP.out.act hdo)
          obtain ⟨rfl, _, _, _⟩ := hdo
          go_wp2_with fail
          go_roundw
          case rel => exact ⟨j + 1, by first | rfl | rw [HW.out] | go_num, by omega, by omega, _, HP2⟩
          case measure => (try rw [HW.out]); simp only [intOf]; omega
        · have hqz : ¬ (b.nm.size : Int) ≤ (40 : Int) := by omega
          clear hq
          go_wp2_with fail
          go_roundw
          case rel => exact ⟨j + 1, by first | rfl | rw [HW.out] | go_num, by omega, by omega, M, HP⟩
          case measure => (try rw [HW.out]); simp only [intOf]; omega
      · have hltz2 : ¬ (j : Int) < (100 : Int) := by omega
        clear hlt hlt2 hj hj2
        go_upto_region 8 with (fail)
        have b0 : wr.cell? ⟨w.heap.size, 0, none⟩ = some (.int .i64 a.k) := blk_cell (blk_below HN0.out HP.out.below) 0
        have b1 : wr.cell? ⟨w.heap.size, 1, none⟩ = some (.int .i64 a.n) := blk_cell (blk_below HN0.out HP.out.below) 1
        have b2 : wr.cell? ⟨w.heap.size, 2, none⟩ = some (.string a.nm) := blk_cell (blk_below HN0.out HP.out.below) 2
        have b3 : wr.cell? ⟨w.heap.size, 3, none⟩ = some (.int .i64 a.e.f0) := blk_cell (blk_below HN0.out HP.out.below) 3
        have b4 : wr.cell? ⟨w.heap.size, 4, none⟩ = some (.int .i64 a.e.f1.f0) := blk_cell (blk_below HN0.out HP.out.below) 4
        have b5 : wr.cell? ⟨w.heap.size, 5, none⟩ = some (.int .i64 a.e.f1.f1) := blk_cell (blk_below HN0.out HP.out.below) 5
        have b6 : wr.cell? ⟨w.heap.size, 6, none⟩ = some (.int .i64 a.e.f1.f2) := blk_cell (blk_below HN0.out HP.out.below) 6
        have b7 : wr.cell? ⟨w.heap.size, 7, none⟩ = some (.int .i64 a.e.f1.f3) := blk_cell (blk_below HN0.out HP.out.below) 7
        have b8 : wr.cell? ⟨w.heap.size, 8, none⟩ = some (.int .u32 a.e.f1.f4.f0) := blk_cell (blk_below HN0.out HP.out.below) 8
        have b9 : wr.cell? ⟨w.heap.size, 9, none⟩ = some (.int .u32 a.e.f1.f4.f1) := blk_cell (blk_below HN0.out HP.out.below) 9
        have b10 : wr.cell? ⟨w.heap.size, 10, none⟩ = some (.int .i64 a.e.f1.f5) := blk_cell (blk_below HN0.out HP.out.below) 10
        by_cases hk1 : a.k = 1
        · have hkb : (a.k == 1) = true := by simpa using hk1
          clear hk1
          go_wp2_with fail
          refine (alive_any _).mono ?_
          rintro e w9 ⟨rfl, hb9⟩
          have HE := Aside0.mk ((HB0.out.trans (HP.out.below.mono HSZ.out)).trans (hb9.mono (Nat.le_trans HSZ.out HP.out.below.size)))
          clear hb9
          go_wp2_with fail
          go_ret
          exact ⟨rfl, HE.out⟩
        · have hkb : (a.k == 1) = false := by simpa using hk1
          have HK1 := Aside0.mk hk1
          clear hk1
          by_cases hq : 40 < a.nm.size
          · have hqz : (40 : Int) < (a.nm.size : Int) := by omega
            clear hq
            go_wp2_with fail
            refine (alive_any _).mono ?_
            rintro e w9 ⟨rfl, hb9⟩
            have HE := Aside0.mk ((HB0.out.trans (HP.out.below.mono HSZ.out)).trans (hb9.mono (Nat.le_trans HSZ.out HP.out.below.size)))
            clear hb9
            go_wp2_with fail
            go_ret
            exact ⟨rfl, HE.out⟩
          · have hqz : ¬ (40 : Int) < (a.nm.size : Int) := by omega
            clear hq
            have HB0r := HP.out.below
            go_upto_region 10 with (fail)
            go_wp2_with fail
            refine (copyD_any mb M wr HP.out.doc (by have := good_len HP.out.good; omega)).mono ?_
            rintro e w2 ⟨nb, rfl, hnb, hdn, hb2⟩
            have HP2 := Aside0.mk (HP.out.on hb2)
            have HD2 := Aside0.mk hdn
            have HNE := Aside0.mk (show nb ≠ mb from by have := HP.out.doc.lt; omega)
            have HNB := Aside0.mk (show W0.heap.size ≤ nb from by have := HP.out.below.size; omega)
            clear hnb hdn hb2 HB0r
            go_wp2_with fail
            refine (copy_any hb g M w2 HP2.out.book).mono ?_
            rintro e w3 ⟨hb', g', rfl, hk3, hg3, hh3, hb3⟩
            have HP3 := Aside0.mk (HP2.out.on hb3)
            have HD3 := Aside0.mk (HD2.out.below hb3)
            have HK3 := Aside0.mk hk3
            have HB3 := Aside0.mk hb3
            have HG3 := Aside0.mk hg3
            clear hk3 hg3 hh3 hb3 b0 b1 b2 b3 b4 b5 b6 b7 b8 b9 b10
            go_upto_region 12 with (fail)
            have d0 : w3.drew.cell? ⟨w.heap.size, 0, none⟩ = some (.int .i64 a.k) := blk_cell (blk_below (blk_below HN0.out HP3.out.below) (below_drew (Below.refl _ w3))) 0
            have d1 : w3.drew.cell? ⟨w.heap.size, 1, none⟩ = some (.int .i64 a.n) := blk_cell (blk_below (blk_below HN0.out HP3.out.below) (below_drew (Below.refl _ w3))) 1
            have d2 : w3.drew.cell? ⟨w.heap.size, 2, none⟩ = some (.string a.nm) := blk_cell (blk_below (blk_below HN0.out HP3.out.below) (below_drew (Below.refl _ w3))) 2
            have d3 : w3.drew.cell? ⟨w.heap.size, 3, none⟩ = some (.int .i64 a.e.f0) := blk_cell (blk_below (blk_below HN0.out HP3.out.below) (below_drew (Below.refl _ w3))) 3
            have d4 : w3.drew.cell? ⟨w.heap.size, 4, none⟩ = some (.int .i64 a.e.f1.f0) := blk_cell (blk_below (blk_below HN0.out HP3.out.below) (below_drew (Below.refl _ w3))) 4
            have d5 : w3.drew.cell? ⟨w.heap.size, 5, none⟩ = some (.int .i64 a.e.f1.f1) := blk_cell (blk_below (blk_below HN0.out HP3.out.below) (below_drew (Below.refl _ w3))) 5
            have d6 : w3.drew.cell? ⟨w.heap.size, 6, none⟩ = some (.int .i64 a.e.f1.f2) := blk_cell (blk_below (blk_below HN0.out HP3.out.below) (below_drew (Below.refl _ w3))) 6
            have d7 : w3.drew.cell? ⟨w.heap.size, 7, none⟩ = some (.int .i64 a.e.f1.f3) := blk_cell (blk_below (blk_below HN0.out HP3.out.below) (below_drew (Below.refl _ w3))) 7
            have d8 : w3.drew.cell? ⟨w.heap.size, 8, none⟩ = some (.int .u32 a.e.f1.f4.f0) := blk_cell (blk_below (blk_below HN0.out HP3.out.below) (below_drew (Below.refl _ w3))) 8
            have d9 : w3.drew.cell? ⟨w.heap.size, 9, none⟩ = some (.int .u32 a.e.f1.f4.f1) := blk_cell (blk_below (blk_below HN0.out HP3.out.below) (below_drew (Below.refl _ w3))) 9
            have d10 : w3.drew.cell? ⟨w.heap.size, 10, none⟩ = some (.int .i64 a.e.f1.f5) := blk_cell (blk_below (blk_below HN0.out HP3.out.below) (below_drew (Below.refl _ w3))) 10
            have hcp := copyD_any mb M w3.drew (HP3.out.on (below_drew (Below.refl _ w3))).doc (by have := good_len HP3.out.good; omega)
            have HCP := Aside0.mk hcp
            clear hcp
            have HDOX := Aside0.mk (fun W mb2 (h : BookAt W hb' g' M) (k : DocAt W mb2 M) => by have := do_any a hb' g' mb2 M W h k HP3.out.good HN.out; unfold encA at this; exact this)
            have HN3 := Aside0.mk (blk_below (blk_below HN0.out HP3.out.below) (below_drew (Below.refl _ w3)))
            go_region_held3 (fun w' => w'.cell? ⟨w.heap.size, 0, none⟩ = some (.int .i64 a.k) ∧ w'.cell? ⟨w.heap.size, 1, none⟩ = some (.int .i64 a.n) ∧ w'.cell? ⟨w.heap.size, 2, none⟩ = some (.string a.nm) ∧ w'.cell? ⟨w.heap.size, 3, none⟩ = some (.int .i64 a.e.f0) ∧ w'.cell? ⟨w.heap.size, 4, none⟩ = some (.int .i64 a.e.f1.f0) ∧ w'.cell? ⟨w.heap.size, 5, none⟩ = some (.int .i64 a.e.f1.f1) ∧ w'.cell? ⟨w.heap.size, 6, none⟩ = some (.int .i64 a.e.f1.f2) ∧ w'.cell? ⟨w.heap.size, 7, none⟩ = some (.int .i64 a.e.f1.f3) ∧ w'.cell? ⟨w.heap.size, 8, none⟩ = some (.int .u32 a.e.f1.f4.f0) ∧ w'.cell? ⟨w.heap.size, 9, none⟩ = some (.int .u32 a.e.f1.f4.f1) ∧ w'.cell? ⟨w.heap.size, 10, none⟩ = some (.int .i64 a.e.f1.f5)) (first | assumption | go_keep) (first | (go_at_call 15; refine HCP.out.mono ?_; rintro e w4 ⟨mb2, rfl, hnb2, hdn2, hb4⟩; have HB4 := Aside0.mk hb4; have HD4 := Aside0.mk hdn2; have HM4 := Aside0.mk hnb2; have HK4 := Aside0.mk ((HK3.out.below (below_drew (Below.refl _ w3))).below hb4); have HN4 := Aside0.mk (blk_below HN3.out hb4); have p0 : w4.cell? ⟨w.heap.size, 0, none⟩ = some (.int .i64 a.k) := blk_cell (HN4.out) 0; have p1 : w4.cell? ⟨w.heap.size, 1, none⟩ = some (.int .i64 a.n) := blk_cell (HN4.out) 1; have p2 : w4.cell? ⟨w.heap.size, 2, none⟩ = some (.string a.nm) := blk_cell (HN4.out) 2; have p3 : w4.cell? ⟨w.heap.size, 3, none⟩ = some (.int .i64 a.e.f0) := blk_cell (HN4.out) 3; have p4 : w4.cell? ⟨w.heap.size, 4, none⟩ = some (.int .i64 a.e.f1.f0) := blk_cell (HN4.out) 4; have p5 : w4.cell? ⟨w.heap.size, 5, none⟩ = some (.int .i64 a.e.f1.f1) := blk_cell (HN4.out) 5; have p6 : w4.cell? ⟨w.heap.size, 6, none⟩ = some (.int .i64 a.e.f1.f2) := blk_cell (HN4.out) 6; have p7 : w4.cell? ⟨w.heap.size, 7, none⟩ = some (.int .i64 a.e.f1.f3) := blk_cell (HN4.out) 7; have p8 : w4.cell? ⟨w.heap.size, 8, none⟩ = some (.int .u32 a.e.f1.f4.f0) := blk_cell (HN4.out) 8; have p9 : w4.cell? ⟨w.heap.size, 9, none⟩ = some (.int .u32 a.e.f1.f4.f1) := blk_cell (HN4.out) 9; have p10 : w4.cell? ⟨w.heap.size, 10, none⟩ = some (.int .i64 a.e.f1.f5) := blk_cell (HN4.out) 10; clear hnb2 hdn2 hb4) | (go_at_call 7; refine (HDOX.out _ _ HK4.out HD4.out).mono ?_; rintro e w5 hdo5; have HU5 := Aside0.mk hdo5.2.2.2; obtain rfl := hdo5.1; have HB5 := Aside0.mk (HU5.out.below ((HB3.out.trans ((below_drew (Below.refl _ w3)).mono HB3.out.size)).trans (HB4.out.mono (show w2.heap.size ≤ w3.drew.heap.size from HB3.out.size))) (fun i hi => by rcases hi with rfl | rfl; exact HG3.out; exact Nat.le_trans HB3.out.size HM4.out) (Nat.le_refl _)); have HP5 := Aside0.mk (HP2.out.on HB5.out); have HD5 := Aside0.mk (HD2.out.below HB5.out); have r0 : w5.cell? ⟨w.heap.size, 0, none⟩ = some (.int .i64 a.k) := blk_cell (blk_below HN0.out HP5.out.below) 0; have r1 : w5.cell? ⟨w.heap.size, 1, none⟩ = some (.int .i64 a.n) := blk_cell (blk_below HN0.out HP5.out.below) 1; have r2 : w5.cell? ⟨w.heap.size, 2, none⟩ = some (.string a.nm) := blk_cell (blk_below HN0.out HP5.out.below) 2; have r3 : w5.cell? ⟨w.heap.size, 3, none⟩ = some (.int .i64 a.e.f0) := blk_cell (blk_below HN0.out HP5.out.below) 3; have r4 : w5.cell? ⟨w.heap.size, 4, none⟩ = some (.int .i64 a.e.f1.f0) := blk_cell (blk_below HN0.out HP5.out.below) 4; have r5 : w5.cell? ⟨w.heap.size, 5, none⟩ = some (.int .i64 a.e.f1.f1) := blk_cell (blk_below HN0.out HP5.out.below) 5; have r6 : w5.cell? ⟨w.heap.size, 6, none⟩ = some (.int .i64 a.e.f1.f2) := blk_cell (blk_below HN0.out HP5.out.below) 6; have r7 : w5.cell? ⟨w.heap.size, 7, none⟩ = some (.int .i64 a.e.f1.f3) := blk_cell (blk_below HN0.out HP5.out.below) 7; have r8 : w5.cell? ⟨w.heap.size, 8, none⟩ = some (.int .u32 a.e.f1.f4.f0) := blk_cell (blk_below HN0.out HP5.out.below) 8; have r9 : w5.cell? ⟨w.heap.size, 9, none⟩ = some (.int .u32 a.e.f1.f4.f1) := blk_cell (blk_below HN0.out HP5.out.below) 9; have r10 : w5.cell? ⟨w.heap.size, 10, none⟩ = some (.int .i64 a.e.f1.f5) := blk_cell (blk_below HN0.out HP5.out.below) 10; clear hdo5))
            clear d0 d1 d2 d3 d4 d5 d6 d7 d8 d9 d10 p0 p1 p2 p3 p4 p5 p6 p7 p8 p9 p10 HN4 HK4 HD4 HM4 HB4 HU5 HN3 HDOX HCP HK3 HG3 HB3 HP3 HD3
            go_wp2_with fail
            refine (same_any hb g nb M w5 HP5.out.book HD5.out HP5.out.good).mono ?_
            rintro e w6 ⟨rfl, hb6⟩
            have HP6 := Aside0.mk (HP5.out.on hb6)
            have HD6 := Aside0.mk (HD5.out.below hb6)
            clear hb6 r0 r1 r2 r3 r4 r5 r6 r7 r8 r9 r10
            have t0 : w6.cell? ⟨w.heap.size, 0, none⟩ = some (.int .i64 a.k) := blk_cell (blk_below HN0.out HP6.out.below) 0
            have t1 : w6.cell? ⟨w.heap.size, 1, none⟩ = some (.int .i64 a.n) := blk_cell (blk_below HN0.out HP6.out.below) 1
            have t2 : w6.cell? ⟨w.heap.size, 2, none⟩ = some (.string a.nm) := blk_cell (blk_below HN0.out HP6.out.below) 2
            have t3 : w6.cell? ⟨w.heap.size, 3, none⟩ = some (.int .i64 a.e.f0) := blk_cell (blk_below HN0.out HP6.out.below) 3
            have t4 : w6.cell? ⟨w.heap.size, 4, none⟩ = some (.int .i64 a.e.f1.f0) := blk_cell (blk_below HN0.out HP6.out.below) 4
            have t5 : w6.cell? ⟨w.heap.size, 5, none⟩ = some (.int .i64 a.e.f1.f1) := blk_cell (blk_below HN0.out HP6.out.below) 5
            have t6 : w6.cell? ⟨w.heap.size, 6, none⟩ = some (.int .i64 a.e.f1.f2) := blk_cell (blk_below HN0.out HP6.out.below) 6
            have t7 : w6.cell? ⟨w.heap.size, 7, none⟩ = some (.int .i64 a.e.f1.f3) := blk_cell (blk_below HN0.out HP6.out.below) 7
            have t8 : w6.cell? ⟨w.heap.size, 8, none⟩ = some (.int .u32 a.e.f1.f4.f0) := blk_cell (blk_below HN0.out HP6.out.below) 8
            have t9 : w6.cell? ⟨w.heap.size, 9, none⟩ = some (.int .u32 a.e.f1.f4.f1) := blk_cell (blk_below HN0.out HP6.out.below) 9
            have t10 : w6.cell? ⟨w.heap.size, 10, none⟩ = some (.int .i64 a.e.f1.f5) := blk_cell (blk_below HN0.out HP6.out.below) 10
            have hdo := do_any a hb g mb M w6 HP6.out.book HP6.out.doc HP6.out.good HN.out
            unfold encA at hdo
            have HDO := Aside0.mk hdo
            clear hdo
            go_wp2_with fail
            refine HDO.out.mono ?_
            rintro e w7 hdo
            have HP7 := Aside0.mk (HP6.out.act hdo)
            have HD7 := Aside0.mk (doc_far HP6.out.book HP6.out.doc HD6.out HNE.out hdo.2.2.2)
            obtain ⟨rfl, _, _, _⟩ := hdo
            clear t0 t1 t2 t3 t4 t5 t6 t7 t8 t9 t10
            have hss := sessions_any hb g (doM M a) w7 HP7.out.book (by have := good_len HP7.out.good; omega)
            have hkl : ((doM M a).map (·.1)).length = (doM M a).length := List.length_map _
            rw [hkl] at hss
            have HSS := Aside0.mk hss
            clear hss hkl
            go_wp2_with fail
            refine HSS.out.mono ?_
            rintro e w8 ⟨A8, c8, rfl, hc8, _, hb8⟩
            have HP8 := Aside0.mk (HP7.out.on hb8)
            have HD8 := Aside0.mk (HD7.out.below hb8)
            clear hb8 HSS HDO
            obtain ⟨v, R, h1, h2, h3⟩ := HD8.out
            have hlen := h3.len
            obtain ⟨A0, cap0, rfl, hc0, hx0⟩ := ownD_slice h2
            rw [hlen] at h1
            have HM := Aside0.mk h1
            have c0 : w8.cell? ⟨nb, 0, none⟩ = some (.slice A0 M.length cap0) := blk_cell h1 0
            have HM4 := Aside0.mk (good_len HP2.out.good)
            have HUP := Aside0.mk HP2.out.good.up
            have HFEW := Aside0.mk HP2.out.good.few
            have HKEY := Aside0.mk HP2.out.good.key
            have HDL := Aside0.mk (do_len HUP.out a HK1.out)
            clear h1 h2 h3 hlen hc0 hx0
            go_wp2_with fail
            go_loopw [12, 13] (fun s12 s13 wr => ∃ i : Nat, s12 = .int .i64 (cntM M a.n i : Nat) ∧ s13 = .int .i64 i ∧ i ≤ M.length ∧ Aside0 (Below w8.heap.size w8 wr)) (fun _ s13 _ => M.length - (intOf s13).toNat)
            case atStart => exact ⟨0, rfl, rfl, Nat.zero_le _, ⟨Below.refl _ _⟩⟩
            case round =>
              obtain ⟨i, rfl, rfl, hi, HBW⟩ := hrel
              have HP9 := Aside0.mk (HP8.out.on HBW.out)
              have HD9 := Aside0.mk (HD8.out.below HBW.out)
              have d0 : wr.cell? ⟨nb, 0, none⟩ = some (.slice A0 M.length cap0) := blk_cell (blk_below HM.out HBW.out) 0
              have g0 : wr.cell? ⟨w.heap.size, 0, none⟩ = some (.int .i64 a.k) := blk_cell (blk_below HN0.out HP9.out.below) 0
              have g1 : wr.cell? ⟨w.heap.size, 1, none⟩ = some (.int .i64 a.n) := blk_cell (blk_below HN0.out HP9.out.below) 1
              by_cases hlt : i < M.length
              · have hltz : (i : Int) < (M.length : Int) := by omega
                have hy := List.getElem?_eq_getElem hlt
                generalize M[i] = y at hy
                obtain ⟨k, s⟩ := y
                have hw0 : wrap64 ((i : Int) + 1) = ((i + 1 : Nat) : Int) := by have := HM4.out; unfold wrap64; omega
                have HW := Aside0.mk hw0
                have HY := Aside0.mk hy
                obtain ⟨g3, cap3, Am, cm, x, hcap, hlt3, x0, x1, x2, hcm, hrm⟩ := HD9.out.row hy
                have fx : wr.drew.cell? ⟨nb, 0, none⟩ = some (.slice (some ⟨g3, 0, none⟩) M.length cap3) := x
                have fx0 : wr.drew.cell? ⟨g3, i * 3, none⟩ = some (.int .i64 k) := x0
                have fg : wr.drew.cell? ⟨w.heap.size, 1, none⟩ = some (.int .i64 a.n) := g1
                have hmem := List.mem_of_getElem? hy
                have hki : i64 k := by have := HKEY.out _ hmem; unfold i64; dsimp only at this; omega
                have HSL := Aside0.mk (show s.2.length ≤ 10 from HFEW.out _ hmem)
                have HKI := Aside0.mk hki
                clear hw0 hy hmem hki hrm hcm hlt3
                by_cases hq : k = a.n
                · have hqb : (k == a.n) = true := by simpa using hq
                  have HCN := Aside0.mk (cnt_in HY.out hq)
                  have hw1 : wrap64 ((cntM M a.n i : Int) + 1) = ((cntM M a.n i + 1 : Nat) : Int) := by have := HM4.out; have := cnt_le M a.n i; unfold wrap64; omega
                  have HW1 := Aside0.mk hw1
                  clear hw1 hq
                  go_upto_region 22 with (fail)
                  go_region_held3 (fun w' => w'.cell? ⟨nb, 0, none⟩ = some (.slice (some ⟨g3, 0, none⟩) M.length cap3) ∧ w'.cell? ⟨g3, i * 3, none⟩ = some (.int .i64 k) ∧ w'.cell? ⟨w.heap.size, 1, none⟩ = some (.int .i64 a.n)) (first | assumption | go_keep) (fail)
                  go_wp2_with fail
                  go_roundw
                  case rel => exact ⟨i + 1, by first | (rw [HCN.out]; first | rfl | rw [HW1.out] | go_num), by first | rfl | rw [HW.out] | go_num, by omega, ⟨below_drew HBW.out⟩⟩
                  case measure => (try rw [HW.out]); simp only [intOf]; omega
                · have hqb : (k == a.n) = false := by simpa using hq
                  have HCN := Aside0.mk (cnt_out HY.out hq)
                  have hlk : lookM (doM M a) k = some s := by rw [do_other M a HK1.out hq]; exact look_at HUP.out HY.out
                  have hon := fun W (h : BookAt W hb g (doM M a)) => on_any hb g (doM M a) k W h HKI.out
                  have hst := fun W (h : BookAt W hb g (doM M a)) => staged_any hb g (doM M a) k W h HKI.out (fun s' hs' => by rw [hlk] at hs'; cases hs'; have := HSL.out; omega)
                  have her : errF (some s) = 0 := rfl
                  simp only [hlk] at hon hst
                  simp only [her, Option.getD_some] at hon hst
                  have HON := Aside0.mk hon
                  have HST := Aside0.mk hst
                  clear hlk hon hst her hq
                  go_upto_region 22 with (fail)
                  go_region_held3 (fun w' => w'.cell? ⟨nb, 0, none⟩ = some (.slice (some ⟨g3, 0, none⟩) M.length cap3) ∧ w'.cell? ⟨g3, i * 3, none⟩ = some (.int .i64 k) ∧ w'.cell? ⟨w.heap.size, 1, none⟩ = some (.int .i64 a.n)) (first | assumption | go_keep) (fail)
                  have HBD := Aside0.mk (below_drew HBW.out)
                  go_wp2_with fail
                  refine (HON.out _ (HP8.out.on HBD.out).book).mono ?_
                  rintro e wa ⟨rfl, hba⟩
                  have HBa := Aside0.mk (HBD.out.trans (hba.mono HBD.out.size))
                  have y0 := cell_keep hba fx
                  have y1 := cell_keep hba fx0
                  clear hba fg g0 g1 d0 x x0 x1 x2 fx fx0
                  go_wp2_with fail
                  refine (HST.out _ (HP8.out.on HBa.out).book).mono ?_
                  rintro e wb ⟨A3, c3, rfl, hc3, hr3, hbb⟩
                  have HBb := Aside0.mk (HBa.out.trans (hbb.mono HBa.out.size))
                  clear hbb y0 y1 hcap
                  obtain ⟨g5, cap5, A5, c5, z, hcap5, hlt5, z0, z1, z2, hc5, hr5⟩ := (HD8.out.below HBb.out).row HY.out
                  have HSAME := Aside0.mk (sameE_any A3 A5 c3 c5 s.2 wb hr3 hc3 hr5 hc5 (by have := HSL.out; omega))
                  clear hr3 hc3 hr5 hc5 hlt5
                  go_wp2_with fail
                  refine HSAME.out.mono ?_
                  rintro e wc ⟨rfl, hbc⟩
                  have HBc := Aside0.mk (HBb.out.trans (hbc.mono HBb.out.size))
                  clear hbc HSAME z z0 z1 z2
                  go_wp2_with fail
                  go_roundw
                  case rel => exact ⟨i + 1, by rw [HCN.out], by first | rfl | rw [HW.out] | go_num, by omega, HBc⟩
                  case measure => (try rw [HW.out]); simp only [intOf]; omega
              · have hltz : ¬ (i : Int) < (M.length : Int) := by omega
                obtain rfl : i = M.length := by omega
                clear hlt hi
                generalize hL2 : (doM M a).length = L2 at *
                go_wp2_with fail
                refine (alive_any _).mono ?_
                rintro e wz ⟨rfl, hbz⟩
                have HBz := Aside0.mk (HBW.out.trans (hbz.mono HBW.out.size))
                have HPz := Aside0.mk (HP8.out.on HBz.out)
                have dz : wz.cell? ⟨nb, 0, none⟩ = some (.slice A0 M.length cap0) := blk_cell (blk_below HM.out HBz.out) 0
                have gz : wz.cell? ⟨w.heap.size, 0, none⟩ = some (.int .i64 a.k) := blk_cell (blk_below HN0.out HPz.out.below) 0
                have HFIN := Aside0.mk (show Below w.heap.size w wz from HB0.out.trans (HPz.out.below.mono HSZ.out))
                clear hbz d0 g0 g1
                rcases HDL.out with he | ⟨he1, he2, he3⟩
                · rw [he]
                  clear HDL
                  go_wp2_with fail
                  go_ret
                  exact ⟨by first | rfl | simp, HFIN.out⟩
                · have hnl : ¬ ((L2 : Int) = (M.length : Int)) := by omega
                  have hs1 : wrap64 ((M.length : Int) - 1) = (L2 : Int) := by have := HM4.out; unfold wrap64; omega
                  have hk2b : (a.k == 2) = true := by simpa using he1
                  rw [he2]
                  rw [he1] at gz
                  clear HDL he1 he2 he3
                  go_wp2_with fail
                  go_ret
                  exact ⟨by first | rfl | simp | (rw [hs1]; simp), HFIN.out⟩
    · have hltz : ¬ (j : Int) < (L.length : Int) := by omega
      clear hlt hj hj2
      go_upto_region 8 with (fail)
      have b0 : wr.cell? ⟨w.heap.size, 0, none⟩ = some (.int .i64 a.k) := blk_cell (blk_below HN0.out HP.out.below) 0
      have b1 : wr.cell? ⟨w.heap.size, 1, none⟩ = some (.int .i64 a.n) := blk_cell (blk_below HN0.out HP.out.below) 1
      have b2 : wr.cell? ⟨w.heap.size, 2, none⟩ = some (.string a.nm) := blk_cell (blk_below HN0.out HP.out.below) 2
      have b3 : wr.cell? ⟨w.heap.size, 3, none⟩ = some (.int .i64 a.e.f0) := blk_cell (blk_below HN0.out HP.out.below) 3
      have b4 : wr.cell? ⟨w.heap.size, 4, none⟩ = some (.int .i64 a.e.f1.f0) := blk_cell (blk_below HN0.out HP.out.below) 4
      have b5 : wr.cell? ⟨w.heap.size, 5, none⟩ = some (.int .i64 a.e.f1.f1) := blk_cell (blk_below HN0.out HP.out.below) 5
      have b6 : wr.cell? ⟨w.heap.size, 6, none⟩ = some (.int .i64 a.e.f1.f2) := blk_cell (blk_below HN0.out HP.out.below) 6
      have b7 : wr.cell? ⟨w.heap.size, 7, none⟩ = some (.int .i64 a.e.f1.f3) := blk_cell (blk_below HN0.out HP.out.below) 7
      have b8 : wr.cell? ⟨w.heap.size, 8, none⟩ = some (.int .u32 a.e.f1.f4.f0) := blk_cell (blk_below HN0.out HP.out.below) 8
      have b9 : wr.cell? ⟨w.heap.size, 9, none⟩ = some (.int .u32 a.e.f1.f4.f1) := blk_cell (blk_below HN0.out HP.out.below) 9
      have b10 : wr.cell? ⟨w.heap.size, 10, none⟩ = some (.int .i64 a.e.f1.f5) := blk_cell (blk_below HN0.out HP.out.below) 10
      by_cases hk1 : a.k = 1
      · have hkb : (a.k == 1) = true := by simpa using hk1
        clear hk1
        go_wp2_with fail
        refine (alive_any _).mono ?_
        rintro e w9 ⟨rfl, hb9⟩
        have HE := Aside0.mk ((HB0.out.trans (HP.out.below.mono HSZ.out)).trans (hb9.mono (Nat.le_trans HSZ.out HP.out.below.size)))
        clear hb9
        go_wp2_with fail
        go_ret
        exact ⟨rfl, HE.out⟩
      · have hkb : (a.k == 1) = false := by simpa using hk1
        have HK1 := Aside0.mk hk1
        clear hk1
        by_cases hq : 40 < a.nm.size
        · have hqz : (40 : Int) < (a.nm.size : Int) := by omega
          clear hq
          go_wp2_with fail
          refine (alive_any _).mono ?_
          rintro e w9 ⟨rfl, hb9⟩
          have HE := Aside0.mk ((HB0.out.trans (HP.out.below.mono HSZ.out)).trans (hb9.mono (Nat.le_trans HSZ.out HP.out.below.size)))
          clear hb9
          go_wp2_with fail
          go_ret
          exact ⟨rfl, HE.out⟩
        · have hqz : ¬ (40 : Int) < (a.nm.size : Int) := by omega
          clear hq
          have HB0r := HP.out.below
          go_upto_region 10 with (fail)
          go_wp2_with fail
          refine (copyD_any mb M wr HP.out.doc (by have := good_len HP.out.good; omega)).mono ?_
          rintro e w2 ⟨nb, rfl, hnb, hdn, hb2⟩
          have HP2 := Aside0.mk (HP.out.on hb2)
          have HD2 := Aside0.mk hdn
          have HNE := Aside0.mk (show nb ≠ mb from by have := HP.out.doc.lt; omega)
          have HNB := Aside0.mk (show W0.heap.size ≤ nb from by have := HP.out.below.size; omega)
          clear hnb hdn hb2 HB0r
          go_wp2_with fail
          refine (copy_any hb g M w2 HP2.out.book).mono ?_
          rintro e w3 ⟨hb', g', rfl, hk3, hg3, hh3, hb3⟩
          have HP3 := Aside0.mk (HP2.out.on hb3)
          have HD3 := Aside0.mk (HD2.out.below hb3)
          have HK3 := Aside0.mk hk3
          have HB3 := Aside0.mk hb3
          have HG3 := Aside0.mk hg3
          clear hk3 hg3 hh3 hb3 b0 b1 b2 b3 b4 b5 b6 b7 b8 b9 b10
          go_upto_region 12 with (fail)
          have d0 : w3.drew.cell? ⟨w.heap.size, 0, none⟩ = some (.int .i64 a.k) := blk_cell (blk_below (blk_below HN0.out HP3.out.below) (below_drew (Below.refl _ w3))) 0
          have d1 : w3.drew.cell? ⟨w.heap.size, 1, none⟩ = some (.int .i64 a.n) := blk_cell (blk_below (blk_below HN0.out HP3.out.below) (below_drew (Below.refl _ w3))) 1
          have d2 : w3.drew.cell? ⟨w.heap.size, 2, none⟩ = some (.string a.nm) := blk_cell (blk_below (blk_below HN0.out HP3.out.below) (below_drew (Below.refl _ w3))) 2
          have d3 : w3.drew.cell? ⟨w.heap.size, 3, none⟩ = some (.int .i64 a.e.f0) := blk_cell (blk_below (blk_below HN0.out HP3.out.below) (below_drew (Below.refl _ w3))) 3
          have d4 : w3.drew.cell? ⟨w.heap.size, 4, none⟩ = some (.int .i64 a.e.f1.f0) := blk_cell (blk_below (blk_below HN0.out HP3.out.below) (below_drew (Below.refl _ w3))) 4
          have d5 : w3.drew.cell? ⟨w.heap.size, 5, none⟩ = some (.int .i64 a.e.f1.f1) := blk_cell (blk_below (blk_below HN0.out HP3.out.below) (below_drew (Below.refl _ w3))) 5
          have d6 : w3.drew.cell? ⟨w.heap.size, 6, none⟩ = some (.int .i64 a.e.f1.f2) := blk_cell (blk_below (blk_below HN0.out HP3.out.below) (below_drew (Below.refl _ w3))) 6
          have d7 : w3.drew.cell? ⟨w.heap.size, 7, none⟩ = some (.int .i64 a.e.f1.f3) := blk_cell (blk_below (blk_below HN0.out HP3.out.below) (below_drew (Below.refl _ w3))) 7
          have d8 : w3.drew.cell? ⟨w.heap.size, 8, none⟩ = some (.int .u32 a.e.f1.f4.f0) := blk_cell (blk_below (blk_below HN0.out HP3.out.below) (below_drew (Below.refl _ w3))) 8
          have d9 : w3.drew.cell? ⟨w.heap.size, 9, none⟩ = some (.int .u32 a.e.f1.f4.f1) := blk_cell (blk_below (blk_below HN0.out HP3.out.below) (below_drew (Below.refl _ w3))) 9
          have d10 : w3.drew.cell? ⟨w.heap.size, 10, none⟩ = some (.int .i64 a.e.f1.f5) := blk_cell (blk_below (blk_below HN0.out HP3.out.below) (below_drew (Below.refl _ w3))) 10
          have hcp := copyD_any mb M w3.drew (HP3.out.on (below_drew (Below.refl _ w3))).doc (by have := good_len HP3.out.good; omega)
          have HCP := Aside0.mk hcp
          clear hcp
          have HDOX := Aside0.mk (fun W mb2 (h : BookAt W hb' g' M) (k : DocAt W mb2 M) => by have := do_any a hb' g' mb2 M W h k HP3.out.good HN.out; unfold encA at this; exact this)
          have HN3 := Aside0.mk (blk_below (blk_below HN0.out HP3.out.below) (below_drew (Below.refl _ w3)))
          go_region_held3 (fun w' => w'.cell? ⟨w.heap.size, 0, none⟩ = some (.int .i64 a.k) ∧ w'.cell? ⟨w.heap.size, 1, none⟩ = some (.int .i64 a.n) ∧ w'.cell? ⟨w.heap.size, 2, none⟩ = some (.string a.nm) ∧ w'.cell? ⟨w.heap.size, 3, none⟩ = some (.int .i64 a.e.f0) ∧ w'.cell? ⟨w.heap.size, 4, none⟩ = some (.int .i64 a.e.f1.f0) ∧ w'.cell? ⟨w.heap.size, 5, none⟩ = some (.int .i64 a.e.f1.f1) ∧ w'.cell? ⟨w.heap.size, 6, none⟩ = some (.int .i64 a.e.f1.f2) ∧ w'.cell? ⟨w.heap.size, 7, none⟩ = some (.int .i64 a.e.f1.f3) ∧ w'.cell? ⟨w.heap.size, 8, none⟩ = some (.int .u32 a.e.f1.f4.f0) ∧ w'.cell? ⟨w.heap.size, 9, none⟩ = some (.int .u32 a.e.f1.f4.f1) ∧ w'.cell? ⟨w.heap.size, 10, none⟩ = some (.int .i64 a.e.f1.f5)) (first | assumption | go_keep) (first | (go_at_call 15; refine HCP.out.mono ?_; rintro e w4 ⟨mb2, rfl, hnb2, hdn2, hb4⟩; have HB4 := Aside0.mk hb4; have HD4 := Aside0.mk hdn2; have HM4 := Aside0.mk hnb2; have HK4 := Aside0.mk ((HK3.out.below (below_drew (Below.refl _ w3))).below hb4); have HN4 := Aside0.mk (blk_below HN3.out hb4); have p0 : w4.cell? ⟨w.heap.size, 0, none⟩ = some (.int .i64 a.k) := blk_cell (HN4.out) 0; have p1 : w4.cell? ⟨w.heap.size, 1, none⟩ = some (.int .i64 a.n) := blk_cell (HN4.out) 1; have p2 : w4.cell? ⟨w.heap.size, 2, none⟩ = some (.string a.nm) := blk_cell (HN4.out) 2; have p3 : w4.cell? ⟨w.heap.size, 3, none⟩ = some (.int .i64 a.e.f0) := blk_cell (HN4.out) 3; have p4 : w4.cell? ⟨w.heap.size, 4, none⟩ = some (.int .i64 a.e.f1.f0) := blk_cell (HN4.out) 4; have p5 : w4.cell? ⟨w.heap.size, 5, none⟩ = some (.int .i64 a.e.f1.f1) := blk_cell (HN4.out) 5; have p6 : w4.cell? ⟨w.heap.size, 6, none⟩ = some (.int .i64 a.e.f1.f2) := blk_cell (HN4.out) 6; have p7 : w4.cell? ⟨w.heap.size, 7, none⟩ = some (.int .i64 a.e.f1.f3) := blk_cell (HN4.out) 7; have p8 : w4.cell? ⟨w.heap.size, 8, none⟩ = some (.int .u32 a.e.f1.f4.f0) := blk_cell (HN4.out) 8; have p9 : w4.cell? ⟨w.heap.size, 9, none⟩ = some (.int .u32 a.e.f1.f4.f1) := blk_cell (HN4.out) 9; have p10 : w4.cell? ⟨w.heap.size, 10, none⟩ = some (.int .i64 a.e.f1.f5) := blk_cell (HN4.out) 10; clear hnb2 hdn2 hb4) | (go_at_call 7; refine (HDOX.out _ _ HK4.out HD4.out).mono ?_; rintro e w5 hdo5; have HU5 := Aside0.mk hdo5.2.2.2; obtain rfl := hdo5.1; have HB5 := Aside0.mk (HU5.out.below ((HB3.out.trans ((below_drew (Below.refl _ w3)).mono HB3.out.size)).trans (HB4.out.mono (show w2.heap.size ≤ w3.drew.heap.size from HB3.out.size))) (fun i hi => by rcases hi with rfl | rfl; exact HG3.out; exact Nat.le_trans HB3.out.size HM4.out) (Nat.le_refl _)); have HP5 := Aside0.mk (HP2.out.on HB5.out); have HD5 := Aside0.mk (HD2.out.below HB5.out); have r0 : w5.cell? ⟨w.heap.size, 0, none⟩ = some (.int .i64 a.k) := blk_cell (blk_below HN0.out HP5.out.below) 0; have r1 : w5.cell? ⟨w.heap.size, 1, none⟩ = some (.int .i64 a.n) := blk_cell (blk_below HN0.out HP5.out.below) 1; have r2 : w5.cell? ⟨w.heap.size, 2, none⟩ = some (.string a.nm) := blk_cell (blk_below HN0.out HP5.out.below) 2; have r3 : w5.cell? ⟨w.heap.size, 3, none⟩ = some (.int .i64 a.e.f0) := blk_cell (blk_below HN0.out HP5.out.below) 3; have r4 : w5.cell? ⟨w.heap.size, 4, none⟩ = some (.int .i64 a.e.f1.f0) := blk_cell (blk_below HN0.out HP5.out.below) 4; have r5 : w5.cell? ⟨w.heap.size, 5, none⟩ = some (.int .i64 a.e.f1.f1) := blk_cell (blk_below HN0.out HP5.out.below) 5; have r6 : w5.cell? ⟨w.heap.size, 6, none⟩ = some (.int .i64 a.e.f1.f2) := blk_cell (blk_below HN0.out HP5.out.below) 6; have r7 : w5.cell? ⟨w.heap.size, 7, none⟩ = some (.int .i64 a.e.f1.f3) := blk_cell (blk_below HN0.out HP5.out.below) 7; have r8 : w5.cell? ⟨w.heap.size, 8, none⟩ = some (.int .u32 a.e.f1.f4.f0) := blk_cell (blk_below HN0.out HP5.out.below) 8; have r9 : w5.cell? ⟨w.heap.size, 9, none⟩ = some (.int .u32 a.e.f1.f4.f1) := blk_cell (blk_below HN0.out HP5.out.below) 9; have r10 : w5.cell? ⟨w.heap.size, 10, none⟩ = some (.int .i64 a.e.f1.f5) := blk_cell (blk_below HN0.out HP5.out.below) 10; clear hdo5))
          clear d0 d1 d2 d3 d4 d5 d6 d7 d8 d9 d10 p0 p1 p2 p3 p4 p5 p6 p7 p8 p9 p10 HN4 HK4 HD4 HM4 HB4 HU5 HN3 HDOX HCP HK3 HG3 HB3 HP3 HD3
          go_wp2_with fail
          refine (same_any hb g nb M w5 HP5.out.book HD5.out HP5.out.good).mono ?_
          rintro e w6 ⟨rfl, hb6⟩
          have HP6 := Aside0.mk (HP5.out.on hb6)
          have HD6 := Aside0.mk (HD5.out.below hb6)
          clear hb6 r0 r1 r2 r3 r4 r5 r6 r7 r8 r9 r10
          have t0 : w6.cell? ⟨w.heap.size, 0, none⟩ = some (.int .i64 a.k) := blk_cell (blk_below HN0.out HP6.out.below) 0
          have t1 : w6.cell? ⟨w.heap.size, 1, none⟩ = some (.int .i64 a.n) := blk_cell (blk_below HN0.out HP6.out.below) 1
          have t2 : w6.cell? ⟨w.heap.size, 2, none⟩ = some (.string a.nm) := blk_cell (blk_below HN0.out HP6.out.below) 2
          have t3 : w6.cell? ⟨w.heap.size, 3, none⟩ = some (.int .i64 a.e.f0) := blk_cell (blk_below HN0.out HP6.out.below) 3
          have t4 : w6.cell? ⟨w.heap.size, 4, none⟩ = some (.int .i64 a.e.f1.f0) := blk_cell (blk_below HN0.out HP6.out.below) 4
          have t5 : w6.cell? ⟨w.heap.size, 5, none⟩ = some (.int .i64 a.e.f1.f1) := blk_cell (blk_below HN0.out HP6.out.below) 5
          have t6 : w6.cell? ⟨w.heap.size, 6, none⟩ = some (.int .i64 a.e.f1.f2) := blk_cell (blk_below HN0.out HP6.out.below) 6
          have t7 : w6.cell? ⟨w.heap.size, 7, none⟩ = some (.int .i64 a.e.f1.f3) := blk_cell (blk_below HN0.out HP6.out.below) 7
          have t8 : w6.cell? ⟨w.heap.size, 8, none⟩ = some (.int .u32 a.e.f1.f4.f0) := blk_cell (blk_below HN0.out HP6.out.below) 8
          have t9 : w6.cell? ⟨w.heap.size, 9, none⟩ = some (.int .u32 a.e.f1.f4.f1) := blk_cell (blk_below HN0.out HP6.out.below) 9
          have t10 : w6.cell? ⟨w.heap.size, 10, none⟩ = some (.int .i64 a.e.f1.f5) := blk_cell (blk_below HN0.out HP6.out.below) 10
          have hdo := do_any a hb g mb M w6 HP6.out.book HP6.out.doc HP6.out.good HN.out
          unfold encA at hdo
          have HDO := Aside0.mk hdo
          clear hdo
          go_wp2_with fail
          refine HDO.out.mono ?_
          rintro e w7 hdo
          have HP7 := Aside0.mk (HP6.out.act hdo)
          have HD7 := Aside0.mk (doc_far HP6.out.book HP6.out.doc HD6.out HNE.out hdo.2.2.2)
          obtain ⟨rfl, _, _, _⟩ := hdo
          clear t0 t1 t2 t3 t4 t5 t6 t7 t8 t9 t10
          have hss := sessions_any hb g (doM M a) w7 HP7.out.book (by have := good_len HP7.out.good; omega)
          have hkl : ((doM M a).map (·.1)).length = (doM M a).length := List.length_map _
          rw [hkl] at hss
          have HSS := Aside0.mk hss
          clear hss hkl
          go_wp2_with fail
          refine HSS.out.mono ?_
          rintro e w8 ⟨A8, c8, rfl, hc8, _, hb8⟩
          have HP8 := Aside0.mk (HP7.out.on hb8)
          have HD8 := Aside0.mk (HD7.out.below hb8)
          clear hb8 HSS HDO
          obtain ⟨v, R, h1, h2, h3⟩ := HD8.out
          have hlen := h3.len
          obtain ⟨A0, cap0, rfl, hc0, hx0⟩ := ownD_slice h2
          rw [hlen] at h1
          have HM := Aside0.mk h1
          have c0 : w8.cell? ⟨nb, 0, none⟩ = some (.slice A0 M.length cap0) := blk_cell h1 0
          have HM4 := Aside0.mk (good_len HP2.out.good)
          have HUP := Aside0.mk HP2.out.good.up
          have HFEW := Aside0.mk HP2.out.good.few
          have HKEY := Aside0.mk HP2.out.good.key
          have HDL := Aside0.mk (do_len HUP.out a HK1.out)
          clear h1 h2 h3 hlen hc0 hx0
          go_wp2_with fail
          go_loopw [12, 13] (fun s12 s13 wr => ∃ i : Nat, s12 = .int .i64 (cntM M a.n i : Nat) ∧ s13 = .int .i64 i ∧ i ≤ M.length ∧ Aside0 (Below w8.heap.size w8 wr)) (fun _ s13 _ => M.length - (intOf s13).toNat)
          case atStart => exact ⟨0, rfl, rfl, Nat.zero_le _, ⟨Below.refl _ _⟩⟩
          case round =>
            obtain ⟨i, rfl, rfl, hi, HBW⟩ := hrel
            have HP9 := Aside0.mk (HP8.out.on HBW.out)
            have HD9 := Aside0.mk (HD8.out.below HBW.out)
            have d0 : wr.cell? ⟨nb, 0, none⟩ = some (.slice A0 M.length cap0) := blk_cell (blk_below HM.out HBW.out) 0
            have g0 : wr.cell? ⟨w.heap.size, 0, none⟩ = some (.int .i64 a.k) := blk_cell (blk_below HN0.out HP9.out.below) 0
            have g1 : wr.cell? ⟨w.heap.size, 1, none⟩ = some (.int .i64 a.n) := blk_cell (blk_below HN0.out HP9.out.below) 1
            by_cases hlt : i < M.length
            · have hltz : (i : Int) < (M.length : Int) := by omega
              have hy := List.getElem?_eq_getElem hlt
              generalize M[i] = y at hy
              obtain ⟨k, s⟩ := y
              have hw0 : wrap64 ((i : Int) + 1) = ((i + 1 : Nat) : Int) := by have := HM4.out; unfold wrap64; omega
              have HW := Aside0.mk hw0
              have HY := Aside0.mk hy
              obtain ⟨g3, cap3, Am, cm, x, hcap, hlt3, x0, x1, x2, hcm, hrm⟩ := HD9.out.row hy
              have fx : wr.drew.cell? ⟨nb, 0, none⟩ = some (.slice (some ⟨g3, 0, none⟩) M.length cap3) := x
              have fx0 : wr.drew.cell? ⟨g3, i * 3, none⟩ = some (.int .i64 k) := x0
              have fg : wr.drew.cell? ⟨w.heap.size, 1, none⟩ = some (.int .i64 a.n) := g1
              have hmem := List.mem_of_getElem? hy
              have hki : i64 k := by have := HKEY.out _ hmem; unfold i64; dsimp only at this; omega
              have HSL := Aside0.mk (show s.2.length ≤ 10 from HFEW.out _ hmem)
              have HKI := Aside0.mk hki
              clear hw0 hy hmem hki hrm hcm hlt3
              by_cases hq : k = a.n
              · have hqb : (k == a.n) = true := by simpa using hq
                have HCN := Aside0.mk (cnt_in HY.out hq)
                have hw1 : wrap64 ((cntM M a.n i : Int) + 1) = ((cntM M a.n i + 1 : Nat) : Int) := by have := HM4.out; have := cnt_le M a.n i; unfold wrap64; omega
                have HW1 := Aside0.mk hw1
                clear hw1 hq
                go_upto_region 22 with (fail)
                go_region_held3 (fun w' => w'.cell? ⟨nb, 0, none⟩ = some (.slice (some ⟨g3, 0, none⟩) M.length cap3) ∧ w'.cell? ⟨g3, i * 3, none⟩ = some (.int .i64 k) ∧ w'.cell? ⟨w.heap.size, 1, none⟩ = some (.int .i64 a.n)) (first | assumption | go_keep) (fail)
                go_wp2_with fail
                go_roundw
                case rel => exact ⟨i + 1, by first | (rw [HCN.out]; first | rfl | rw [HW1.out] | go_num), by first | rfl | rw [HW.out] | go_num, by omega, ⟨below_drew HBW.out⟩⟩
                case measure => (try rw [HW.out]); simp only [intOf]; omega
              · have hqb : (k == a.n) = false := by simpa using hq
                have HCN := Aside0.mk (cnt_out HY.out hq)
                have hlk : lookM (doM M a) k = some s := by rw [do_other M a HK1.out hq]; exact look_at HUP.out HY.out
                have hon := fun W (h : BookAt W hb g (doM M a)) => on_any hb g (doM M a) k W h HKI.out
                have hst := fun W (h : BookAt W hb g (doM M a)) => staged_any hb g (doM M a) k W h HKI.out (fun s' hs' => by rw [hlk] at hs'; cases hs'; have := HSL.out; omega)
                have her : errF (some s) = 0 := rfl
                simp only [hlk] at hon hst
                simp only [her, Option.getD_some] at hon hst
                have HON := Aside0.mk hon
                have HST := Aside0.mk hst
                clear hlk hon hst her hq
                go_upto_region 22 with (fail)
                go_region_held3 (fun w' => w'.cell? ⟨nb, 0, none⟩ = some (.slice (some ⟨g3, 0, none⟩) M.length cap3) ∧ w'.cell? ⟨g3, i * 3, none⟩ = some (.int .i64 k) ∧ w'.cell? ⟨w.heap.size, 1, none⟩ = some (.int .i64 a.n)) (first | assumption | go_keep) (fail)
                have HBD := Aside0.mk (below_drew HBW.out)
                go_wp2_with fail
                refine (HON.out _ (HP8.out.on HBD.out).book).mono ?_
                rintro e wa ⟨rfl, hba⟩
                have HBa := Aside0.mk (HBD.out.trans (hba.mono HBD.out.size))
                have y0 := cell_keep hba fx
                have y1 := cell_keep hba fx0
                clear hba fg g0 g1 d0 x x0 x1 x2 fx fx0
                go_wp2_with fail
                refine (HST.out _ (HP8.out.on HBa.out).book).mono ?_
                rintro e wb ⟨A3, c3, rfl, hc3, hr3, hbb⟩
                have HBb := Aside0.mk (HBa.out.trans (hbb.mono HBa.out.size))
                clear hbb y0 y1 hcap
                obtain ⟨g5, cap5, A5, c5, z, hcap5, hlt5, z0, z1, z2, hc5, hr5⟩ := (HD8.out.below HBb.out).row HY.out
                have HSAME := Aside0.mk (sameE_any A3 A5 c3 c5 s.2 wb hr3 hc3 hr5 hc5 (by have := HSL.out; omega))
                clear hr3 hc3 hr5 hc5 hlt5
                go_wp2_with fail
                refine HSAME.out.mono ?_
                rintro e wc ⟨rfl, hbc⟩
                have HBc := Aside0.mk (HBb.out.trans (hbc.mono HBb.out.size))
                clear hbc HSAME z z0 z1 z2
                go_wp2_with fail
                go_roundw
                case rel => exact ⟨i + 1, by rw [HCN.out], by first | rfl | rw [HW.out] | go_num, by omega, HBc⟩
                case measure => (try rw [HW.out]); simp only [intOf]; omega
            · have hltz : ¬ (i : Int) < (M.length : Int) := by omega
              obtain rfl : i = M.length := by omega
              clear hlt hi
              generalize hL2 : (doM M a).length = L2 at *
              go_wp2_with fail
              refine (alive_any _).mono ?_
              rintro e wz ⟨rfl, hbz⟩
              have HBz := Aside0.mk (HBW.out.trans (hbz.mono HBW.out.size))
              have HPz := Aside0.mk (HP8.out.on HBz.out)
              have dz : wz.cell? ⟨nb, 0, none⟩ = some (.slice A0 M.length cap0) := blk_cell (blk_below HM.out HBz.out) 0
              have gz : wz.cell? ⟨w.heap.size, 0, none⟩ = some (.int .i64 a.k) := blk_cell (blk_below HN0.out HPz.out.below) 0
              have HFIN := Aside0.mk (show Below w.heap.size w wz from HB0.out.trans (HPz.out.below.mono HSZ.out))
              clear hbz d0 g0 g1
              rcases HDL.out with he | ⟨he1, he2, he3⟩
              · rw [he]
                clear HDL
                go_wp2_with fail
                go_ret
                exact ⟨by first | rfl | simp, HFIN.out⟩
              · have hnl : ¬ ((L2 : Int) = (M.length : Int)) := by omega
                have hs1 : wrap64 ((M.length : Int) - 1) = (L2 : Int) := by have := HM4.out; unfold wrap64; omega
                have hk2b : (a.k == 2) = true := by simpa using he1
                rw [he2]
                rw [he1] at gz
                clear HDL he1 he2 he3
                go_wp2_with fail
                go_ret
                exact ⟨by first | rfl | simp | (rw [hs1]; simp), HFIN.out⟩
end Go.Proofs.Ytnbojemjaipnlaa.H
