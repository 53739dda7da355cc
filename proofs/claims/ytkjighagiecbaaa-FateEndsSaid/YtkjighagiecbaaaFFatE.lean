/- FatE. -/
import Derived.Test.YtkjighagiecbaaaFFatE1
import Derived.Test.YtkjighagiecbaaaFFatO
namespace Go.Proofs.Ytkjighagiecbaaa.H
open Go.RowKit Go.Proofs.Ytkjighagiecbaaa.P Go.Proofs.YtkjighagiecbaaaW.PrintWords Go.Proofs.YtkjighagiecbaaaW.PrintLast Go.Proofs.YtkjighagiecbaaaW.PrintMore
set_option linter.unusedVariables false
set_option linter.unusedSimpArgs false
set_option maxRecDepth 100000
attribute [local go_sem high] eqP
section
variable {A0 : Option Addr} {c0 : Nat} {l0 : List Int} {A1 : Option Addr} {c1 : Nat} {l1 : List S66} {A2 : Option Addr} {c2 : Nat} {l2 : List Rul}
set_option maxHeartbeats 8000000 in
theorem ends_walk (d a : Int) (w : World) (hN : NetAt A0 c0 l0 A1 c1 l1 A2 c2 l2 w) (hs : sizesN l1 l2) (hi : idsB l2 = true) :
    Calls Try.prog 3 #[netV A0 c0 l0 A1 c1 l1 A2 c2 l2, .int .i64 d, .int .u32 a] w fun e w' => e = .returned (.bool true) ∧ Below w.heap.size w w' := by
  have huN := Try.underlying28
  have huT := Try.underlying25
  have huR := Try.underlying35
  have huP := Try.underlying33
  have HN := Aside0.mk hN
  have HFI := Aside0.mk (fun W (hW : NetAt A0 c0 l0 A1 c1 l1 A2 c2 l2 W) => E.waystonelaw09_Fits.calls A0 c0 l0 A1 c1 l1 A2 c2 l2 (fitsN l0 l1 l2) W hW.r0 hW.c0 hW.r1 hW.c1 hW.r2 hW.c2 (fitsE l0 l1 l2 hi))
  have HTR := Aside0.mk (fun W (hW : NetAt A0 c0 l0 A1 c1 l1 A2 c2 l2 W) => trace_told d a W hW hs.1 hs.2)
  have HST := Aside0.mk (fun x W (hW : NetAt A0 c0 l0 A1 c1 l1 A2 c2 l2 W) => step_any x a W hW hs.1)
  have HK0 := Aside0.mk (blk_new w (.cells #[.slice A0 l0.length c0, .slice A1 l1.length c1, .slice A2 l2.length c2] 28))
  have HB0 := Aside0.mk ((Below.refl w.heap.size w).alloc (Nat.le_refl _) (.cells #[.slice A0 l0.length c0, .slice A1 l1.length c1, .slice A2 l2.length c2] 28))
  have n0 := blk_cell HK0.out 0
  have n1 := blk_cell HK0.out 1
  have n2 := blk_cell HK0.out 2
  clear hN hs hi
  go_enter Try.func3, Try.ntmps3
  go_wp2_with fail
  generalize w.alloc (.cells #[.slice A0 l0.length c0, .slice A1 l1.length c1, .slice A2 l2.length c2] 28) = W0 at *
  refine (HFI.out W0 (HN.out.below HB0.out)).mono ?_
  rintro e W1 ⟨rfl, hb⟩
  have HK1 := Aside0.mk (blk_below HK0.out hb)
  have HB1 := Aside0.mk (HB0.out.trans (hb.mono HB0.out.size))
  clear n0 n1 n2 hb HK0 HB0
  have n0 := blk_cell HK1.out 0
  have n1 := blk_cell HK1.out 1
  have n2 := blk_cell HK1.out 2
  have h1 := HTR.out W1 (HN.out.below HB1.out)
  by_cases hg : fitsN l0 l1 l2 = true ∧ (0 ≤ d ∧ d < (l0.length : Int))
  · have hT := rightN_T (fits_right hg.1)
    obtain ⟨X, f, px, py, init, last, ht, hX⟩ := ends_all (l2 := l2) hT d a hg.2
    have h20 : l0.length ≤ 20 := by
      have h := hg.1
      unfold fitsN at h
      simp only [Bool.and_eq_true, decide_eq_true_iff] at h
      exact h.1
    have HT := Aside0.mk hT
    have HX := Aside0.mk hX
    have H20 := Aside0.mk h20
    rw [ht] at h1
    rw [hg.1]
    have HL0 := Aside0.mk hX.size
    clear hT hX h20 ht hg HTR HFI
    go_wp2_with fail
    refine h1.mono ?_
    rintro e W2 ⟨v, rfl, hv, hb⟩
    obtain ⟨B, cB, rfl, hcB, hCB⟩ := Kd.R_reads hv
    obtain ⟨ad, rfl⟩ := C_some hCB (by have := HL0.out; omega)
    have HK2 := Aside0.mk (blk_below HK1.out hb)
    have HB2 := Aside0.mk (HB1.out.trans (hb.mono HB1.out.size))
    clear hb h1 hv n0 n1 n2 HK1 HB1
    have HK3 := Aside0.mk (blk_alloc HK2.out (.cells #[.slice (some ad) X.length cB, .int .i64 f, .int .i64 px, .int .i64 py] 35))
    have HT3 := Aside0.mk (blk_new W2 (.cells #[.slice (some ad) X.length cB, .int .i64 f, .int .i64 px, .int .i64 py] 35))
    have HB3 := Aside0.mk (HB2.out.trans (((Below.refl W2.heap.size W2).alloc (Nat.le_refl _) (.cells #[.slice (some ad) X.length cB, .int .i64 f, .int .i64 px, .int .i64 py] 35)).mono HB2.out.size))
    have HC3 := Aside0.mk (Kd.C_below hCB ((Below.refl W2.heap.size W2).alloc (Nat.le_refl _) (.cells #[.slice (some ad) X.length cB, .int .i64 f, .int .i64 px, .int .i64 py] 35)))
    have n0 := blk_cell HK3.out 0
    have n1 := blk_cell HK3.out 1
    have n2 := blk_cell HK3.out 2
    have t0 := blk_cell HT3.out 0
    have x0 : (W2.alloc (.cells #[.slice (some ad) X.length cB, .int .i64 f, .int .i64 px, .int .i64 py] 35)).cell? ad = some (.int .i64 d) := at_I HC3.out HX.out.head
    have hk1 : wrap64 ((l0.length : Int) + 1) = (l0.length : Int) + 1 := by have := H20.out; unfold wrap64; omega
    have hk2 : ¬ ((X.length : Int) > (l0.length : Int) + 1) := by have := HX.out.len; omega
    have hk2b : ¬ ((l0.length : Int) + 1 < (X.length : Int)) := by have := HX.out.len; omega
    have hk3 : ¬ ((X.length : Int) < 1) := by have := HL0.out; omega
    have hk4 : (0 : Int) < (X.length : Int) := by have := HL0.out; omega
    clear HK2 HB2 hCB
    go_wp2_with fail
    generalize W2.alloc (.cells #[.slice (some ad) X.length cB, .int .i64 f, .int .i64 px, .int .i64 py] 35) = W3 at *
    generalize W2.heap.size = T at *
    clear n0 n1 n2 t0 x0 hk1 hk2 hk2b hk3 hk4
    have HW0 := Aside0.mk (Below.refl W3.heap.size W3)
    have HTL := Aside0.mk (blk_lt HT3.out)
    go_loopw [11] (fun s11 wr => ∃ i : Nat, s11 = .int .i64 i ∧ i ≤ X.length ∧ Aside0 (Below W3.heap.size W3 wr)) (fun s11 _ => X.length - (intOf s11).toNat)
    case atStart => exact ⟨0, rfl, Nat.zero_le _, HW0⟩
    case round =>
      clear HW0
      obtain ⟨i, rfl, hi, HA⟩ := hrel
      by_cases hlt : i < X.length
      · have hlt' : (i : Int) < (X.length : Int) := by omega
        obtain ⟨xi, hxi⟩ : ∃ x, X[i]? = some x := ⟨_, List.getElem?_eq_getElem hlt⟩
        have HXI := Aside0.mk hxi
        have h20 : X.length ≤ 21 := by have := HX.out.len; have := H20.out; omega
        have H21 := Aside0.mk h20
        have HWI := Aside0.mk (Below.refl wr.heap.size wr)
        clear hxi h20
        go_wp2_with fail
        go_loopw [12] (fun s12 wj => ∃ j : Nat, s12 = .int .i64 j ∧ j ≤ i ∧ Aside0 (Below wr.heap.size wr wj)) (fun s12 _ => i - (intOf s12).toNat)
        case atStart => exact ⟨0, rfl, Nat.zero_le _, HWI⟩
        case round =>
          clear HWI
          obtain ⟨j, rfl, hj, HJ⟩ := hrel
          have HAJ := Aside0.mk (HA.out.trans (HJ.out.mono HA.out.size))
          by_cases hjl : j < i
          · have hjl' : (j : Int) < (i : Int) := by omega
            obtain ⟨xj, hxj⟩ : ∃ x, X[j]? = some x := ⟨_, List.getElem?_eq_getElem (by omega)⟩
            have a0 := at_I (Kd.C_below HC3.out HAJ.out) HXI.out
            have a1 := at_I (Kd.C_below HC3.out HAJ.out) hxj
            have hT := blk_below HT3.out HAJ.out
            have t0 := blk_cell hT 0
            have t1 := blk_cell hT 1
            have hwj : wrap64 ((j : Int) + 1) = ((j + 1 : Nat) : Int) := by have := H21.out; unfold wrap64; omega
            have hwk : wrap64 ((X.length : Int) - 1) = (X.length : Int) - 1 := by have := H21.out; unfold wrap64; omega
            have hjX : (j : Int) < (X.length : Int) := by omega
            by_cases he : xi = xj
            · subst he
              obtain ⟨hf, hl⟩ := HX.out.pair i j xi xi hjl HXI.out hxj rfl
              have hik : (i : Int) = (X.length : Int) - 1 := by omega
              have hne : ((i : Int) != (X.length : Int) - 1) = false := by rw [bne_eq_false_iff_eq]; exact hik
              subst hf
              clear hl hxj hT hik
              go_wp2_with fail
              go_quiet (fail)
              go_wp2_with fail
              go_roundw
              case rel => exact ⟨j + 1, by first | go_num | rw [hwj], by omega, ⟨pw_below_drewN HJ.out _⟩⟩
              case measure => (try rw [hwj]); simp only [intOf]; omega
            · have hne : (xi == xj) = false := by rw [beq_eq_false_iff_ne]; exact he
              clear hxj hT he
              go_wp2_with fail
              go_quiet (fail)
              go_wp2_with fail
              go_roundw
              case rel => exact ⟨j + 1, by first | go_num | rw [hwj], by omega, ⟨pw_below_drewN HJ.out _⟩⟩
              case measure => (try rw [hwj]); simp only [intOf]; omega
          · have hjl' : ¬ (j : Int) < (i : Int) := by omega
            have hT := blk_below HT3.out HAJ.out
            have HTJ := Aside0.mk hT
            by_cases h0 : i = 0
            · subst h0
              clear hT
              go_wp2_with fail
              go_roundw
              case rel => exact ⟨1, by first | go_num | rfl, by omega, HAJ⟩
              case measure => simp only [intOf]; omega
            · obtain ⟨m, him⟩ : ∃ m, i = m + 1 := ⟨i - 1, by omega⟩
              have hm0 : ¬ (i : Int) = 0 := by omega
              have hm1 : ((i : Int) == 0) = false := by rw [beq_eq_false_iff_ne]; omega
              have hwm : wrap64 ((i : Int) - 1) = (m : Int) := by have := H21.out; unfold wrap64; omega
              have hwm2 : IntKind.i64.wrap ((i : Int) - 1) = (m : Int) := by rw [i64_w]; exact hwm
              have hm00 : (0 : Int) ≤ (m : Int) := by omega
              have hwi : wrap64 ((i : Int) + 1) = ((i + 1 : Nat) : Int) := by have := H21.out; unfold wrap64; omega
              have hmX : (m : Int) < (X.length : Int) := by omega
              obtain ⟨xm, hxm⟩ : ∃ x, X[m]? = some x := ⟨_, List.getElem?_eq_getElem (by omega)⟩
              have hnx := HX.out.next m xm xi hxm (by rw [← him]; exact HXI.out)
              have hst := HST.out xm
              obtain ⟨sf, s0, s1, hsp⟩ : ∃ sf s0 s1, stepP l1 l2 a xm = (sf, (s0, s1)) := ⟨_, _, _, rfl⟩
              simp only [hsp] at hst hnx
              obtain ⟨rfl, hnb, hnq⟩ := hnx
              have HS1 := Aside0.mk hst
              have HNB := Aside0.mk hnb
              have HNQ := Aside0.mk hnq
              clear hst hnb hnq hsp
              have HIM := Aside0.mk him
              have HXM := Aside0.mk hxm
              clear him h0
              have a0 := at_I (Kd.C_below HC3.out HAJ.out) hxm
              have t0 := blk_cell hT 0
              have hn := blk_below HK3.out HAJ.out
              have n0 := blk_cell hn 0
              have n1 := blk_cell hn 1
              have n2 := blk_cell hn 2
              have HNJ := Aside0.mk hn
              clear hxm hT hn
              go_wp2_with fail
              have hb0 := HB3.out.trans (HAJ.out.mono HB3.out.size)
              have HBJ := Aside0.mk hb0
              have HCJ := Aside0.mk (Kd.C_below HC3.out HAJ.out)
              have hc : wr.cell? ⟨w.heap.size, 0, none⟩ = some (.slice A0 l0.length c0) ∧ wr.cell? ⟨w.heap.size, 1, none⟩ = some (.slice A1 l1.length c1) ∧ wr.cell? ⟨w.heap.size, 2, none⟩ = some (.slice A2 l2.length c2) ∧ wr.cell? ⟨T, 0, none⟩ = some (.slice (some ad) X.length cB) ∧ wr.cell? (ad.add m) = some (.int .i64 xm) := ⟨n0, n1, n2, t0, a0⟩
              have hz1 : wr.heap.size ≠ w.heap.size := World.new_ne wr ⟨w.heap.size, 0, none⟩ n0
              have hz2 : wr.heap.size ≠ T := World.new_ne wr ⟨T, 0, none⟩ t0
              have hz3 := World.new_ne wr (ad.add m) a0
              have hz4 := hz1.symm
              have hz5 := hz2.symm
              have hz6 := hz3.symm
              clear hb0 n0 n1 n2 t0 a0
              go_region_held3 (fun w' => w'.cell? ⟨w.heap.size, 0, none⟩ = some (.slice A0 l0.length c0) ∧ w'.cell? ⟨w.heap.size, 1, none⟩ = some (.slice A1 l1.length c1) ∧ w'.cell? ⟨w.heap.size, 2, none⟩ = some (.slice A2 l2.length c2) ∧ w'.cell? ⟨T, 0, none⟩ = some (.slice (some ad) X.length cB) ∧ w'.cell? (ad.add m) = some (.int .i64 xm)) (first | assumption | go_keep) (first
                | (go_at_call 10; refine (HS1.out _ (HN.out.below (below_drew HBJ.out))).mono ?_; rintro e w5 ⟨rfl, hb⟩; have HJ5 := Aside0.mk ((below_drew HAJ.out).trans (hb.mono (below_drew HAJ.out).size)); have K1 : w5.cell? ⟨w.heap.size, 0, none⟩ = some (.slice A0 l0.length c0) ∧ w5.cell? ⟨w.heap.size, 1, none⟩ = some (.slice A1 l1.length c1) ∧ w5.cell? ⟨w.heap.size, 2, none⟩ = some (.slice A2 l2.length c2) ∧ w5.cell? ⟨T, 0, none⟩ = some (.slice (some ad) X.length cB) ∧ w5.cell? (ad.add m) = some (.int .i64 xm) := (by have h := blk_below HK3.out HJ5.out; have h2 := blk_below HT3.out HJ5.out; exact ⟨blk_cell h 0, blk_cell h 1, blk_cell h 2, blk_cell h2 0, at_I (Kd.C_below HC3.out HJ5.out) HXM.out⟩); clear hb)
                | (go_at_call 10; refine (HS1.out _ (HN.out.below (below_drew (HBJ.out.alloc HBJ.out.size _)))).mono ?_; rintro e w5 ⟨rfl, hb⟩; have HJ5 := Aside0.mk ((below_drew (HAJ.out.alloc HAJ.out.size _)).trans (hb.mono (below_drew (HAJ.out.alloc HAJ.out.size _)).size)); have K1 : w5.cell? ⟨w.heap.size, 0, none⟩ = some (.slice A0 l0.length c0) ∧ w5.cell? ⟨w.heap.size, 1, none⟩ = some (.slice A1 l1.length c1) ∧ w5.cell? ⟨w.heap.size, 2, none⟩ = some (.slice A2 l2.length c2) ∧ w5.cell? ⟨T, 0, none⟩ = some (.slice (some ad) X.length cB) ∧ w5.cell? (ad.add m) = some (.int .i64 xm) := (by have h := blk_below HK3.out HJ5.out; have h2 := blk_below HT3.out HJ5.out; exact ⟨blk_cell h 0, blk_cell h 1, blk_cell h 2, blk_cell h2 0, at_I (Kd.C_below HC3.out HJ5.out) HXM.out⟩); have HNEW := Aside0.mk (blk_below (blk_drew (blk_new _ _)) hb); have z0 := blk_cell HNEW.out 0; have z1 := blk_cell HNEW.out 1; have z2 := blk_frozen HNEW.out 0; have z3 := blk_frozen HNEW.out 1; clear hb))
              · have HQ := Aside0.mk (blk_new w5 (.cells #[.int .i64 s0, .int .i64 s1] 33))
                have HJ7 := Aside0.mk (HJ5.out.alloc HJ5.out.size (.cells #[.int .i64 s0, .int .i64 s1] 33))
                clear HJ5 K1
                generalize (w5.alloc (.cells #[.int .i64 s0, .int .i64 s1] 33)) = w7 at *
                generalize w5.heap.size = b at *
                have hn := blk_below HK3.out HJ7.out
                have HB7 := Aside0.mk (HB3.out.trans (HJ7.out.mono HB3.out.size))
                have n0 := blk_cell hn 0
                have n1 := blk_cell hn 1
                have q0 := blk_cell HQ.out 0
                have q1 := blk_cell HQ.out 1
                clear hn
                go_wp2_with fail
                refine (nextR_any (A2 := A2) (c2 := c2) (l2 := l2) (s0, s1) _ (HN.out.below HB7.out) HT.out).mono ?_
                rintro e w8 ⟨rfl, hb⟩
                have HQX := HNQ
                have HQB := HNB
                dsimp only
                generalize nextB l1 ⟨s0, s1⟩ = nb at *
                generalize (nextQ l1 ⟨s0, s1⟩).f0 = nq0 at *
                generalize (nextQ l1 ⟨s0, s1⟩).f1 = nq1 at *
                obtain rfl := HQX.out
                obtain rfl := HQB.out
                have HJ9 := Aside0.mk ((HJ7.out.trans (hb.mono HJ7.out.size)).alloc (HJ7.out.trans (hb.mono HJ7.out.size)).size (.cells #[.int .i64 nq0, .int .i64 nq1] 33))
                have y0 := blk_cell (blk_new w8 (.cells #[.int .i64 nq0, .int .i64 nq1] 33)) 0
                have hT := blk_below HT3.out HJ9.out
                have t0 := blk_cell hT 0
                have a0 := at_I (Kd.C_below HC3.out HJ9.out) HXI.out
                clear hb n0 n1 q0 q1 hT
                go_wp2_with fail
                go_quiet (fail)
                go_wp2_with fail
                go_roundw
                case rel => exact ⟨i + 1, by first | go_num | rw [hwi], by omega, ⟨pw_below_drewN HJ9.out _⟩⟩
                case measure => (try rw [hwi]); simp only [intOf]; omega
              · have HQ := Aside0.mk (blk_put (blk_put HNEW.out 0 (.int .i64 s0) rfl) 1 (.int .i64 s1) rfl)
                have HLE := Aside0.mk (show W3.heap.size ≤ wr.heap.size from HAJ.out.size)
                have HJ7 := Aside0.mk ((HJ5.out.setCell (p := ⟨wr.heap.size, 0, none⟩) HLE.out (.int .i64 s0)).setCell (p := ⟨wr.heap.size, 1, none⟩) HLE.out (.int .i64 s1))
                clear HJ5 K1 z0 z1 z2 z3 HNEW
                generalize ((w5.setCell ⟨wr.heap.size, 0, none⟩ (.int .i64 s0)).setCell ⟨wr.heap.size, 1, none⟩ (.int .i64 s1)) = w7 at *
                generalize wr.heap.size = b at *
                have hn := blk_below HK3.out HJ7.out
                have HB7 := Aside0.mk (HB3.out.trans (HJ7.out.mono HB3.out.size))
                have n0 := blk_cell hn 0
                have n1 := blk_cell hn 1
                have q0 := blk_cell HQ.out 0
                have q1 := blk_cell HQ.out 1
                clear hn
                go_wp2_with fail
                refine (nextR_any (A2 := A2) (c2 := c2) (l2 := l2) (s0, s1) _ (HN.out.below HB7.out) HT.out).mono ?_
                rintro e w8 ⟨rfl, hb⟩
                have HQX := HNQ
                have HQB := HNB
                dsimp only
                generalize nextB l1 ⟨s0, s1⟩ = nb at *
                generalize (nextQ l1 ⟨s0, s1⟩).f0 = nq0 at *
                generalize (nextQ l1 ⟨s0, s1⟩).f1 = nq1 at *
                obtain rfl := HQX.out
                obtain rfl := HQB.out
                have HJ9 := Aside0.mk ((HJ7.out.trans (hb.mono HJ7.out.size)).alloc (HJ7.out.trans (hb.mono HJ7.out.size)).size (.cells #[.int .i64 nq0, .int .i64 nq1] 33))
                have y0 := blk_cell (blk_new w8 (.cells #[.int .i64 nq0, .int .i64 nq1] 33)) 0
                have hT := blk_below HT3.out HJ9.out
                have t0 := blk_cell hT 0
                have a0 := at_I (Kd.C_below HC3.out HJ9.out) HXI.out
                clear hb n0 n1 q0 q1 hT
                go_wp2_with fail
                go_quiet (fail)
                go_wp2_with fail
                go_roundw
                case rel => exact ⟨i + 1, by first | go_num | rw [hwi], by omega, ⟨pw_below_drewN HJ9.out _⟩⟩
                case measure => (try rw [hwi]); simp only [intOf]; omega
      · have hlt' : ¬ (i : Int) < (X.length : Int) := by omega
        have hsz : X.length ≤ 21 := by have := HX.out.len; have := H20.out; omega
        have hwk : wrap64 ((X.length : Int) - 1) = (init.length : Int) := by have := HL0.out; unfold wrap64; omega
        have hwk2 : IntKind.i64.wrap ((X.length : Int) - 1) = (init.length : Int) := by rw [i64_w]; exact hwk
        have hk0 : (0 : Int) ≤ (init.length : Int) := by omega
        have hk1 : (init.length : Int) < (X.length : Int) := by have := HL0.out; omega
        have hk2 : (init.length : Int) ≤ (cB : Int) := by have := HL0.out; omega
        have hseen := HX.out.seen
        have ho3 := HX.out.out3
        have hoN := HX.out.outN
        rcases (show f = 4 ∨ f = 3 ∨ (f ≠ 4 ∧ f ≠ 3) from by omega) with h | h | h
        · subst h
          obtain ⟨rfl, rfl⟩ := hoN (by omega)
          have HSB := Aside0.mk (show decide (last ∈ init) = true from hseen)
          clear hseen ho3 hoN
          have HJW := HA
          have hT := blk_below HT3.out HA.out
          have t0 := blk_cell hT 0
          have a0 := at_I (Kd.C_below HC3.out HA.out) HX.out.last_
          have HCI := Aside0.mk (show Kd.C (Kd.int .i64) wr (some ad) init.length init from by
            have h := Kd.C_take (m := init.length) (Kd.C_below HC3.out HA.out) (by rw [HL0.out]; omega)
            rw [HX.out.take_] at h
            exact h)
          clear hT
          go_wp2_with fail
          refine (hasR_any (some ad) cB init last _ HCI.out (by omega)).mono ?_
          rintro e w5 ⟨rfl, hb⟩
          rw [HSB.out]
          have HJ5 := Aside0.mk (HA.out.trans (hb.mono HA.out.size))
          have HB5 := Aside0.mk (HB3.out.trans (HJ5.out.mono HB3.out.size))
          have hT := blk_below HT3.out HJ5.out
          have hn := blk_below HK3.out HJ5.out
          have n0 := blk_cell hn 0
          have n1 := blk_cell hn 1
          have t2 := blk_cell hT 2
          have t3 := blk_cell hT 3
          clear hb hT hn t0 a0 HCI
          go_wp2_with fail
          refine (nextR_any (A2 := A2) (c2 := c2) (l2 := l2) (0, 0) _ (HN.out.below HB5.out) HT.out).mono ?_
          rintro e w6 ⟨rfl, hb⟩
          dsimp only
          generalize (nextQ l1 ⟨0, 0⟩).f0 = nq0 at *
          generalize (nextQ l1 ⟨0, 0⟩).f1 = nq1 at *
          generalize nextB l1 ⟨0, 0⟩ = nb at *
          have HJ7 := Aside0.mk ((HJ5.out.trans (hb.mono HJ5.out.size)).alloc (HJ5.out.trans (hb.mono HJ5.out.size)).size (.cells #[.int .i64 nq0, .int .i64 nq1] 33))
          clear hb n0 n1 t2 t3
          go_wp2_with fail
          generalize (w6.alloc (.cells #[.int .i64 nq0, .int .i64 nq1] 33)) = w7 at *
          refine (alive_any _).mono ?_
          rintro e w8 ⟨rfl, hb⟩
          have HJ8 := Aside0.mk (HJ7.out.trans (hb.mono HJ7.out.size))
          have HB8 := Aside0.mk (HB3.out.trans (HJ8.out.mono HB3.out.size))
          have hT := blk_below HT3.out HJ8.out
          have t1 := blk_cell hT 1
          have t2 := blk_cell hT 2
          have t3 := blk_cell hT 3
          clear hb hT
          go_wp2_with fail
          go_ret
          exact ⟨rfl, HB8.out⟩
        · subst h
          obtain ⟨hpl, hnb⟩ := ho3 rfl
          have HSB := Aside0.mk (show decide (last ∈ init) = false from hseen)
          have HNB := Aside0.mk hnb
          have hpq : (px == last) = true := by rw [beq_iff_eq]; exact hpl
          clear hseen ho3 hoN hnb hpl
          have HJW := HA
          have hT := blk_below HT3.out HA.out
          have t0 := blk_cell hT 0
          have a0 := at_I (Kd.C_below HC3.out HA.out) HX.out.last_
          have HCI := Aside0.mk (show Kd.C (Kd.int .i64) wr (some ad) init.length init from by
            have h := Kd.C_take (m := init.length) (Kd.C_below HC3.out HA.out) (by rw [HL0.out]; omega)
            rw [HX.out.take_] at h
            exact h)
          clear hT
          go_wp2_with fail
          refine (hasR_any (some ad) cB init last _ HCI.out (by omega)).mono ?_
          rintro e w5 ⟨rfl, hb⟩
          rw [HSB.out]
          have HJ5 := Aside0.mk (HA.out.trans (hb.mono HA.out.size))
          have HB5 := Aside0.mk (HB3.out.trans (HJ5.out.mono HB3.out.size))
          have hT := blk_below HT3.out HJ5.out
          have hn := blk_below HK3.out HJ5.out
          have n0 := blk_cell hn 0
          have n1 := blk_cell hn 1
          have t2 := blk_cell hT 2
          have t3 := blk_cell hT 3
          clear hb hT hn t0 a0 HCI
          go_wp2_with fail
          refine (nextR_any (A2 := A2) (c2 := c2) (l2 := l2) (px, py) _ (HN.out.below HB5.out) HT.out).mono ?_
          rintro e w6 ⟨rfl, hb⟩
          dsimp only
          generalize (nextQ l1 ⟨px, py⟩).f0 = nq0 at *
          generalize (nextQ l1 ⟨px, py⟩).f1 = nq1 at *
          generalize nextB l1 ⟨px, py⟩ = nb at *
          obtain rfl := HNB.out
          have HJ7 := Aside0.mk ((HJ5.out.trans (hb.mono HJ5.out.size)).alloc (HJ5.out.trans (hb.mono HJ5.out.size)).size (.cells #[.int .i64 nq0, .int .i64 nq1] 33))
          clear hb n0 n1 t2 t3
          go_wp2_with fail
          generalize (w6.alloc (.cells #[.int .i64 nq0, .int .i64 nq1] 33)) = w7 at *
          refine (alive_any _).mono ?_
          rintro e w8 ⟨rfl, hb⟩
          have HJ8 := Aside0.mk (HJ7.out.trans (hb.mono HJ7.out.size))
          have HB8 := Aside0.mk (HB3.out.trans (HJ8.out.mono HB3.out.size))
          have hT := blk_below HT3.out HJ8.out
          have t1 := blk_cell hT 1
          have t2 := blk_cell hT 2
          have t3 := blk_cell hT 3
          clear hb hT
          go_wp2_with fail
          go_ret
          exact ⟨rfl, HB8.out⟩
        · obtain ⟨rfl, rfl⟩ := hoN h.2
          have h4 : (f == 4) = false := by rw [beq_eq_false_iff_ne]; exact h.1
          have h3 : (f == 3) = false := by rw [beq_eq_false_iff_ne]; exact h.2
          have h3' : (f != 3) = true := by rw [bne_iff_ne]; exact h.2
          have HSB := Aside0.mk (show decide (last ∈ init) = false from by rw [hseen, h4])
          clear hseen ho3 hoN h
          have HJW := HA
          have hT := blk_below HT3.out HA.out
          have t0 := blk_cell hT 0
          have a0 := at_I (Kd.C_below HC3.out HA.out) HX.out.last_
          have HCI := Aside0.mk (show Kd.C (Kd.int .i64) wr (some ad) init.length init from by
            have h := Kd.C_take (m := init.length) (Kd.C_below HC3.out HA.out) (by rw [HL0.out]; omega)
            rw [HX.out.take_] at h
            exact h)
          clear hT
          go_wp2_with fail
          refine (hasR_any (some ad) cB init last _ HCI.out (by omega)).mono ?_
          rintro e w5 ⟨rfl, hb⟩
          rw [HSB.out]
          have HJ5 := Aside0.mk (HA.out.trans (hb.mono HA.out.size))
          have HB5 := Aside0.mk (HB3.out.trans (HJ5.out.mono HB3.out.size))
          have hT := blk_below HT3.out HJ5.out
          have hn := blk_below HK3.out HJ5.out
          have n0 := blk_cell hn 0
          have n1 := blk_cell hn 1
          have t2 := blk_cell hT 2
          have t3 := blk_cell hT 3
          clear hb hT hn t0 a0 HCI
          go_wp2_with fail
          refine (nextR_any (A2 := A2) (c2 := c2) (l2 := l2) (0, 0) _ (HN.out.below HB5.out) HT.out).mono ?_
          rintro e w6 ⟨rfl, hb⟩
          dsimp only
          generalize (nextQ l1 ⟨0, 0⟩).f0 = nq0 at *
          generalize (nextQ l1 ⟨0, 0⟩).f1 = nq1 at *
          generalize nextB l1 ⟨0, 0⟩ = nb at *
          have HJ7 := Aside0.mk ((HJ5.out.trans (hb.mono HJ5.out.size)).alloc (HJ5.out.trans (hb.mono HJ5.out.size)).size (.cells #[.int .i64 nq0, .int .i64 nq1] 33))
          clear hb n0 n1 t2 t3
          go_wp2_with fail
          generalize (w6.alloc (.cells #[.int .i64 nq0, .int .i64 nq1] 33)) = w7 at *
          refine (alive_any _).mono ?_
          rintro e w8 ⟨rfl, hb⟩
          have HJ8 := Aside0.mk (HJ7.out.trans (hb.mono HJ7.out.size))
          have HB8 := Aside0.mk (HB3.out.trans (HJ8.out.mono HB3.out.size))
          have hT := blk_below HT3.out HJ8.out
          have t1 := blk_cell hT 1
          have t2 := blk_cell hT 2
          have t3 := blk_cell hT 3
          clear hb hT
          go_wp2_with fail
          go_ret
          exact ⟨rfl, HB8.out⟩
  · have HNO := Aside0.mk (show fitsN l0 l1 l2 = true → (traceF l0 l1 l2 d a).2.2.2.2 = 91 from fun hf => by
      unfold traceF
      rw [if_pos (by have := hf; rw [hf] at hg; simp only [true_and] at hg; omega)])
    obtain ⟨X, f, px, py, er, ht⟩ : ∃ X f px py er, traceF l0 l1 l2 d a = (X, f, px, py, er) := ⟨_, _, _, _, _, rfl⟩
    rw [ht] at h1 HNO
    have HNO := HNO
    clear ht hg HTR HFI
    cases hq : fitsN l0 l1 l2 with
    | true =>
      obtain rfl : er = 91 := HNO.out hq
      clear hq HNO
      go_wp2_with fail
      refine h1.mono ?_
      rintro e W2 ⟨v, rfl, hv, hb⟩
      obtain ⟨B, cB, rfl, hcB, hCB⟩ := Kd.R_reads hv
      have HB2 := Aside0.mk ((HB1.out.trans (hb.mono HB1.out.size)).alloc (HB1.out.trans (hb.mono HB1.out.size)).size (.cells #[.slice B X.length cB, .int .i64 f, .int .i64 px, .int .i64 py] 35))
      clear hb h1 hv n0 n1 n2 HK1 HB1
      go_wp2_with fail
      refine (alive_any _).mono ?_
      rintro e w8 ⟨rfl, hb⟩
      have HB8 := Aside0.mk (HB2.out.trans (hb.mono HB2.out.size))
      clear hb
      go_wp2_with fail
      go_ret
      exact ⟨rfl, HB8.out⟩
    | false =>
      clear hq HNO
      go_wp2_with fail
      refine h1.mono ?_
      rintro e W2 ⟨v, rfl, hv, hb⟩
      obtain ⟨B, cB, rfl, hcB, hCB⟩ := Kd.R_reads hv
      have HB2 := Aside0.mk ((HB1.out.trans (hb.mono HB1.out.size)).alloc (HB1.out.trans (hb.mono HB1.out.size)).size (.cells #[.slice B X.length cB, .int .i64 f, .int .i64 px, .int .i64 py] 35))
      clear hb h1 hv n0 n1 n2 HK1 HB1
      go_wp2_with fail
      refine (alive_any _).mono ?_
      rintro e w8 ⟨rfl, hb⟩
      have HB8 := Aside0.mk (HB2.out.trans (hb.mono HB2.out.size))
      clear hb
      go_wp2_with fail
      go_ret
      exact ⟨rfl, HB8.out⟩
end
theorem fateEnds_any (A0 : Option Addr) (c0 : Nat) (A1 : Option Addr) (c1 : Nat) (A2 : Option Addr) (c2 : Nat) (x : (List Int × List S66) × List Rul) (d a : Int) (w : World) (hN : NetAt A0 c0 x.1.1 A1 c1 x.1.2 A2 c2 x.2 w) (hI : NetOk x) (_ : (Lit.int .i64 d).wf = true) (_ : (Lit.int .u32 a).wf = true) :
    Calls Try.prog 3 #[.agg #[.slice A0 x.1.1.length c0, .slice A1 x.1.2.length c1, .slice A2 x.2.length c2], .int .i64 d, .int .u32 a] w fun e w' => e = .returned (.bool true) ∧ Below w.heap.size w w' :=
  ends_walk d a w hN hI.1 hI.2
end Go.Proofs.Ytkjighagiecbaaa.H
