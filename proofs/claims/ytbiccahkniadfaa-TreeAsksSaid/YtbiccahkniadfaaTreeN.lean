/- TreeAsks: walked. -/
import Derived.Test.YtbiccahkniadfaaTreeM
import Derived.Deep.LoopGhost
import Derived.BigQuiet
import Derived.Test.YtbiccahkniadfaaLex
import Derived.BigQuiet
import Derived.Test.YtbiccahkniadfaaLex
namespace Go.Proofs.Ytbiccahkniadfaa.H
open Go.BigFrame Go.RowKit Go.Proofs.Ytbiccahkniadfaa.P Go.Proofs.Ytbiccahkniadfaa.Open Go.Proofs.YtbiccahkniadfaaW.PrintWords Go.Proofs.YtbiccahkniadfaaW.PrintLast Go.Proofs.YtbiccahkniadfaaW.PrintMore
set_option linter.unusedVariables false
set_option linter.unusedSimpArgs false
/-- How things stand while a held tree is asked. -/
structure St (w W : World) (H : Nat) (t : T) (P A : Option Addr) (c : Nat) : Prop where
  blk : W.heap[H]? = some (.cells #[.pointer P, .slice A (encT (toL t)).length c] 39 (0, 0))
  root : RootAt W P t
  row : Kd.C k50 W A (encT (toL t)).length (encT (toL t))
  below : Below w.heap.size w W
theorem St.next {w W W' : World} {H : Nat} {t : T} {P A : Option Addr} {c : Nat} (h : St w W H t P A c) (hb : Below W.heap.size W W') : St w W' H t P A c :=
  ⟨blk_below h.blk hb, h.root.below hb, Kd.C_below h.row hb, h.below.trans (hb.mono h.below.size)⟩
set_option maxRecDepth 20000 in
set_option maxHeartbeats 64000000 in
theorem TreeAsks_any (A : Option Addr) (c : Nat) (l : List S42) (k i : Int) (w : World) (hr : Kd.C k42 w A l.length l) (hc : l.length ≤ c) (hI : ∀ y ∈ l, isI64 y.f0 ∧ isI64 y.f1 ∧ isU64 y.f2 ∧ True) (wk : (Lit.int .u64 k).wf = true) (wi : (Lit.int .i64 i).wf = true) :
    Calls Try.prog 4 #[.slice A l.length c, .int .u64 k, .int .i64 i] w fun e w' => e = .returned (.bool true) ∧ Below w.heap.size w w' := by
  have HR0 := Aside0.mk hr
  have HC0 := Aside0.mk hc
  clear hr hc hI wk wi
  go_enter Try.func4, Try.ntmps4
  go_wp2_with fail
  refine (new_any w).mono ?_
  rintro e w1 ⟨⟨g0, rfl, h0⟩, hb⟩
  have HB1 := Aside0.mk hb
  have H0 := Aside0.mk h0
  clear hb h0
  have HH := Aside0.mk (show HeldAt (w1.alloc (.cells #[.pointer (some ⟨g0, 0, none⟩), .slice none 0 0] 39)) w1.heap.size .leaf from ⟨_, _, blk_new w1 _, H0.out.below ((Below.refl w1.heap.size w1).alloc (Nat.le_refl _) _), Kd.V_nil _ _ _ _ _⟩)
  have HB2 := Aside0.mk (HB1.out.alloc HB1.out.size (.cells #[.pointer (some ⟨g0, 0, none⟩), .slice none 0 0] 39))
  have HG := Aside0.mk HB1.out.size
  clear HB1 H0
  dsimp only
  repeat ((fail_if_success (show Code.wp _ (Code.seq (Code.region 2 _ _) _) _ _ _)); (first | go_values | go_skip | go_guarded | go_step | go_upon | go_back))
  generalize w1.heap.size = H at *
  generalize (w1.alloc (.cells #[.pointer (some ⟨g0, 0, none⟩), .slice none 0 0] 39)) = w2 at *
  go_cut [8] from 9 (fun _ w' => ∃ t : T, Aside0 (HeldAt w' H t) ∧ Aside0 (Fit t) ∧ Aside0 (Below w.heap.size w w'))
  case first =>
    go_wp2_with fail
    go_loopw [8] (fun u wr => ∃ (j : Nat) (t : T), u = .int .i64 j ∧ j ≤ 120 ∧ Aside0 (HeldAt wr H t) ∧ Aside0 (Fit t) ∧ Aside0 (Below w.heap.size w wr)) (fun u _ => 120 - (intOf u).toNat)
    case atStart => exact ⟨0, .leaf, rfl, by omega, HH, ⟨new_fit⟩, HB2⟩
    case round =>
      obtain ⟨j, t, rfl, hj, HT, HF, HB⟩ := hrel
      by_cases h1 : j < l.length
      · by_cases h2 : j < 120
        · have h1' : (j : Int) < (l.length : Int) := by omega
          have h2' : (j : Int) < 120 := by omega
          obtain ⟨ad, rfl, a0, a1, a2, a3⟩ := at_T42 (Kd.C_below HR0.out HB.out) j (by omega) (by omega)
          simp only [Int.toNat_natCast] at a0 a1 a2 a3
          generalize rd_T42 l j = x at *
          clear h1 h2
          go_wp2_with fail
          refine (do_any H x.f0 x.f1 x.f2 x.f3 t wr HT.out HF.out).mono ?_
          rintro e w3 ⟨rfl, hh, hb⟩
          have HT3 := Aside0.mk hh
          have HF3 := Aside0.mk (HF.out.does x.f0 x.f1 x.f2 x.f3)
          have HB3 := Aside0.mk (hb.below HB.out HG.out HB.out.size)
          clear hh hb a0 a1 a2 a3
          go_wp2_with fail
          go_roundw
          case rel => exact ⟨j + 1, _, by go_num, by omega, HT3, HF3, HB3⟩
          case measure => simp [intOf]; omega
        · have h1' : (j : Int) < (l.length : Int) := by omega
          have h2' : ¬ (j : Int) < 120 := by omega
          go_wp2_with fail
          go_meet
          case rel => exact ⟨t, HT, HF, HB⟩
      · have h1' : ¬ (j : Int) < (l.length : Int) := by omega
        go_wp2_with fail
        go_meet
        case rel => exact ⟨t, HT, HF, HB⟩
  case rest =>
    obtain ⟨t, HT, HF, HB⟩ := hcut
    obtain ⟨P, v, hH, hr, A1, c1, rfl, hl1, hF⟩ := HT.out
    have HS := Aside0.mk (show St w wc H t P A1 c1 from ⟨hH, hr, Kd.F_now hF, HB.out⟩)
    have HL1 := Aside0.mk hl1
    have HSZ := Aside0.mk (show sz t ≤ 40000 from by have := HF.out.size; omega)
    have d0 := blk_cell hH 0
    have d1 := blk_cell hH 1
    clear hH hr hF hl1 HT HB HH HB2 HG
    have hget := get_any P k t wc HS.out.root
    have HGR := Aside0.mk (fun W hC => ref_get k t HF.out A1 c1 W hC HL1.out)
    have HFI := Aside0.mk (floor_is k t HF.out.srt)
    have HCI := Aside0.mk (ceil_is k t HF.out.srt)
    have HFL := Aside0.mk (fun W hW => floor_any P k t W hW HSZ.out)
    have HCL := Aside0.mk (fun W hW => ceil_any P k t W hW HSZ.out)
    have HAT := Aside0.mk (fun W hW => at_any P i t W hW HSZ.out)
    have HFR := Aside0.mk (fun W hC => ref_floor k t HF.out A1 c1 W hC HL1.out)
    have HCR := Aside0.mk (fun W hC => ref_ceilP k t HF.out A1 c1 W hC HL1.out)
    have HAY := Aside0.mk (at_yes t i)
    have HAN := Aside0.mk (at_no t i)
    have HLN := Aside0.mk (show ((encT (toL t)).length : Int) = (sz t : Int) from by rw [encT_len, toL_len])
    generalize (getT k t).getD 0 = gv at *
    generalize (getT k t).isSome = gb at *
    go_wp2_with fail
    refine hget.mono ?_
    rintro e w3 ⟨rfl, rfl⟩
    clear hget
    go_wp2_with fail
    refine (HGR.out _ HS.out.row).mono ?_
    rintro e w4 ⟨rfl, hb⟩
    have HS4 := Aside0.mk (HS.out.next hb)
    clear hb HS HGR d0 d1
    have d0 := blk_cell HS4.out.blk 0
    go_wp2_with fail
    have hfl := HFL.out _ HS4.out.root
    rw [show (if hasT k t = true then ((lowL k (toL t)).length : Int) else ((lowL k (toL t)).length : Int) - 1) = floorP k t from rfl] at HFI
    rw [show (if (lowL k (toL t)).length = (toL t).length then (-1 : Int) else ((lowL k (toL t)).length : Int)) = ceilP k t from rfl] at HCI
    clear HFL
    generalize floorT k t = fx at *
    generalize ceilT k t = cx at *
    generalize atT t i = ax at *
    generalize floorP k t = fp at *
    generalize ceilP k t = cp at *
    obtain ⟨⟨p0, p1⟩, pb⟩ := fx
    obtain ⟨⟨q0, q1⟩, qb⟩ := cx
    obtain ⟨⟨r0, r1⟩, rb⟩ := ax
    simp only [] at hfl HCL HAT
    refine hfl.mono ?_
    rintro e w5 ⟨rfl, hb⟩
    have HS5 := Aside0.mk (HS4.out.next hb)
    clear hb HS4 hfl d0
    have hbn : Below w5.heap.size w5 (w5.alloc (.cells #[.int .u64 p0, .int .i64 p1] 45)) := (Below.refl w5.heap.size w5).alloc (Nat.le_refl _) _
    have HS6 := Aside0.mk (HS5.out.next hbn)
    have HP6 := Aside0.mk (blk_new w5 (.cells #[.int .u64 p0, .int .i64 p1] 45))
    clear hbn HS5
    have d0 := blk_cell HS6.out.blk 0
    go_wp2_with fail
    generalize (w5.alloc (.cells #[.int .u64 p0, .int .i64 p1] 45)) = w6 at *
    generalize w5.heap.size = bp at *
    refine (HCL.out _ HS6.out.root).mono ?_
    rintro e w7 ⟨rfl, hb⟩
    have HS7 := Aside0.mk (HS6.out.next hb)
    have HP7 := Aside0.mk (blk_below HP6.out hb)
    clear hb HS6 HP6 d0
    have hbn : Below w7.heap.size w7 (w7.alloc (.cells #[.int .u64 q0, .int .i64 q1] 45)) := (Below.refl w7.heap.size w7).alloc (Nat.le_refl _) _
    have HS8 := Aside0.mk (HS7.out.next hbn)
    have HP8 := Aside0.mk (blk_below HP7.out hbn)
    have HQ8 := Aside0.mk (blk_new w7 (.cells #[.int .u64 q0, .int .i64 q1] 45))
    clear hbn HS7 HP7
    have d0 := blk_cell HS8.out.blk 0
    go_wp2_with fail
    generalize (w7.alloc (.cells #[.int .u64 q0, .int .i64 q1] 45)) = w8 at *
    generalize w7.heap.size = bq at *
    refine (HAT.out _ HS8.out.root).mono ?_
    rintro e w9 ⟨rfl, hb⟩
    have HS9 := Aside0.mk (HS8.out.next hb)
    have HP9 := Aside0.mk (blk_below HP8.out hb)
    have HQ9 := Aside0.mk (blk_below HQ8.out hb)
    clear hb HS8 HP8 HQ8 d0
    have hbn : Below w9.heap.size w9 (w9.alloc (.cells #[.int .u64 r0, .int .i64 r1] 45)) := (Below.refl w9.heap.size w9).alloc (Nat.le_refl _) _
    have HSa := Aside0.mk (HS9.out.next hbn)
    have HPa := Aside0.mk (blk_below HP9.out hbn)
    have HQa := Aside0.mk (blk_below HQ9.out hbn)
    have HRa := Aside0.mk (blk_new w9 (.cells #[.int .u64 r0, .int .i64 r1] 45))
    clear hbn HS9 HP9 HQ9
    have d1 := blk_cell HSa.out.blk 1
    go_wp2_with fail
    generalize (w9.alloc (.cells #[.int .u64 r0, .int .i64 r1] 45)) = wa at *
    generalize w9.heap.size = br at *
    refine (HFR.out _ HSa.out.row).mono ?_
    rintro e wb ⟨rfl, hb⟩
    have HSb := Aside0.mk (HSa.out.next hb)
    have HPb := Aside0.mk (blk_below HPa.out hb)
    have HQb := Aside0.mk (blk_below HQa.out hb)
    have HRb := Aside0.mk (blk_below HRa.out hb)
    clear hb HSa HPa HQa HRa d1
    have d1 := blk_cell HSb.out.blk 1
    go_wp2_with fail
    refine (HCR.out _ HSb.out.row).mono ?_
    rintro e wd ⟨rfl, hb⟩
    have HSd := Aside0.mk (HSb.out.next hb)
    have HPd := Aside0.mk (blk_below HPb.out hb)
    have HQd := Aside0.mk (blk_below HQb.out hb)
    have HRd := Aside0.mk (blk_below HRb.out hb)
    clear hb HSb HPb HQb HRb d1
    have d1 := blk_cell HSd.out.blk 1
    have x0 := blk_cell HPd.out 0
    have x1 := blk_cell HPd.out 1
    have y0 := blk_cell HQd.out 0
    have y1 := blk_cell HQd.out 1
    have z0 := blk_cell HRd.out 0
    have z1 := blk_cell HRd.out 1
    obtain ⟨hf1, hf2⟩ := HFI.out
    obtain ⟨hc1, hc2⟩ := HCI.out
    have HALIVE := Aside0.mk (alive_any wd)
    generalize hnn : ((encT (toL t)).length) = nn at *
    have HNN := Aside0.mk hnn
    clear hnn
    clear HFI HCI HCL HAT HFR HCR HF HSZ
    have hls : ((sz t : Nat) : Int) = (nn : Int) := HLN.out.symm
    have hay := HAY.out
    have han := HAN.out
    rw [hls] at hay han
    have HROW := Aside0.mk HSd.out.row
    rw [HNN.out] at HROW
    clear hls HAY HAN
    simp only [] at hf1 hc1 hf2 hc2
    by_cases ha : 0 ≤ fp
    · rw [decide_eq_true ha] at hf1
      subst hf1
      by_cases hb : 0 ≤ cp
      · rw [decide_eq_true hb] at hc1
        subst hc1
        by_cases hi0 : 0 ≤ i
        · by_cases hi1 : i < (nn : Int)
          · obtain ⟨hltp, hrdp⟩ := hf2 ha
            obtain ⟨adp, ep, cp0, cp1⟩ := at_T50 HROW.out fp ha hltp
            rw [hrdp] at cp0 cp1
            cases ep
            clear hrdp
            obtain ⟨hltq, hrdq⟩ := hc2 hb
            obtain ⟨adq, eq, cq0, cq1⟩ := at_T50 HROW.out cp hb hltq
            rw [hrdq] at cq0 cq1
            obtain rfl : adp = adq := by injection eq
            clear eq
            clear hrdq
            obtain ⟨hrb, hrdr⟩ := hay hi0 hi1
            subst hrb
            obtain ⟨adr, er, cr0, cr1⟩ := at_T50 HROW.out i hi0 hi1
            rw [hrdr] at cr0 cr1
            obtain rfl : adp = adr := by injection er
            clear er
            clear hrdr
            clear hay han hf2 hc2
            as_aux_lemma =>
              go_wp2_with fail
              (try simp only [List.append_eq, List.cons_append, List.nil_append])
              refine wp_region_quiet_lit (by kernel_rfl) (lexB_fast (by kernel_rfl)) ?_
              repeat (go_big_quiet_step (fail))
              refine wpQuiet_nil ?_
              intro _ hw'
              obtain ⟨nq, hw''⟩ := hw'
              subst hw''
              go_wp2_with (first | (go_at_call 13; refine (alive_any _).mono ?_; rintro e wz ⟨rfl, hb⟩; have HBZ := Aside0.mk ((below_drewN HSd.out.below _).trans (hb.mono HSd.out.below.size)); clear hb))
              go_ret
              exact ⟨rfl, HBZ.out⟩
          · have hrb := han (fun h => hi1 h.2)
            subst hrb
            obtain ⟨hltp, hrdp⟩ := hf2 ha
            obtain ⟨adp, ep, cp0, cp1⟩ := at_T50 HROW.out fp ha hltp
            rw [hrdp] at cp0 cp1
            cases ep
            clear hrdp
            obtain ⟨hltq, hrdq⟩ := hc2 hb
            obtain ⟨adq, eq, cq0, cq1⟩ := at_T50 HROW.out cp hb hltq
            rw [hrdq] at cq0 cq1
            obtain rfl : adp = adq := by injection eq
            clear eq
            clear hrdq
            clear hay han hf2 hc2
            as_aux_lemma =>
              go_wp2_with fail
              (try simp only [List.append_eq, List.cons_append, List.nil_append])
              refine wp_region_quiet_lit (by kernel_rfl) (lexB_fast (by kernel_rfl)) ?_
              repeat (go_big_quiet_step (fail))
              refine wpQuiet_nil ?_
              intro _ hw'
              obtain ⟨nq, hw''⟩ := hw'
              subst hw''
              go_wp2_with (first | (go_at_call 13; refine (alive_any _).mono ?_; rintro e wz ⟨rfl, hb⟩; have HBZ := Aside0.mk ((below_drewN HSd.out.below _).trans (hb.mono HSd.out.below.size)); clear hb))
              go_ret
              exact ⟨rfl, HBZ.out⟩
        · have hrb := han (fun h => hi0 h.1)
          subst hrb
          obtain ⟨hltp, hrdp⟩ := hf2 ha
          obtain ⟨adp, ep, cp0, cp1⟩ := at_T50 HROW.out fp ha hltp
          rw [hrdp] at cp0 cp1
          cases ep
          clear hrdp
          obtain ⟨hltq, hrdq⟩ := hc2 hb
          obtain ⟨adq, eq, cq0, cq1⟩ := at_T50 HROW.out cp hb hltq
          rw [hrdq] at cq0 cq1
          obtain rfl : adp = adq := by injection eq
          clear eq
          clear hrdq
          clear hay han hf2 hc2
          as_aux_lemma =>
            go_wp2_with fail
            (try simp only [List.append_eq, List.cons_append, List.nil_append])
            refine wp_region_quiet_lit (by kernel_rfl) (lexB_fast (by kernel_rfl)) ?_
            repeat (go_big_quiet_step (fail))
            refine wpQuiet_nil ?_
            intro _ hw'
            obtain ⟨nq, hw''⟩ := hw'
            subst hw''
            go_wp2_with (first | (go_at_call 13; refine (alive_any _).mono ?_; rintro e wz ⟨rfl, hb⟩; have HBZ := Aside0.mk ((below_drewN HSd.out.below _).trans (hb.mono HSd.out.below.size)); clear hb))
            go_ret
            exact ⟨rfl, HBZ.out⟩
      · rw [decide_eq_false hb] at hc1
        subst hc1
        by_cases hi0 : 0 ≤ i
        · by_cases hi1 : i < (nn : Int)
          · obtain ⟨hltp, hrdp⟩ := hf2 ha
            obtain ⟨adp, ep, cp0, cp1⟩ := at_T50 HROW.out fp ha hltp
            rw [hrdp] at cp0 cp1
            cases ep
            clear hrdp
            obtain ⟨hrb, hrdr⟩ := hay hi0 hi1
            subst hrb
            obtain ⟨adr, er, cr0, cr1⟩ := at_T50 HROW.out i hi0 hi1
            rw [hrdr] at cr0 cr1
            obtain rfl : adp = adr := by injection er
            clear er
            clear hrdr
            clear hay han hf2 hc2
            as_aux_lemma =>
              go_wp2_with fail
              (try simp only [List.append_eq, List.cons_append, List.nil_append])
              refine wp_region_quiet_lit (by kernel_rfl) (lexB_fast (by kernel_rfl)) ?_
              repeat (go_big_quiet_step (fail))
              refine wpQuiet_nil ?_
              intro _ hw'
              obtain ⟨nq, hw''⟩ := hw'
              subst hw''
              go_wp2_with (first | (go_at_call 13; refine (alive_any _).mono ?_; rintro e wz ⟨rfl, hb⟩; have HBZ := Aside0.mk ((below_drewN HSd.out.below _).trans (hb.mono HSd.out.below.size)); clear hb))
              go_ret
              exact ⟨rfl, HBZ.out⟩
          · have hrb := han (fun h => hi1 h.2)
            subst hrb
            obtain ⟨hltp, hrdp⟩ := hf2 ha
            obtain ⟨adp, ep, cp0, cp1⟩ := at_T50 HROW.out fp ha hltp
            rw [hrdp] at cp0 cp1
            cases ep
            clear hrdp
            clear hay han hf2 hc2
            as_aux_lemma =>
              go_wp2_with fail
              (try simp only [List.append_eq, List.cons_append, List.nil_append])
              refine wp_region_quiet_lit (by kernel_rfl) (lexB_fast (by kernel_rfl)) ?_
              repeat (go_big_quiet_step (fail))
              refine wpQuiet_nil ?_
              intro _ hw'
              obtain ⟨nq, hw''⟩ := hw'
              subst hw''
              go_wp2_with (first | (go_at_call 13; refine (alive_any _).mono ?_; rintro e wz ⟨rfl, hb⟩; have HBZ := Aside0.mk ((below_drewN HSd.out.below _).trans (hb.mono HSd.out.below.size)); clear hb))
              go_ret
              exact ⟨rfl, HBZ.out⟩
        · have hrb := han (fun h => hi0 h.1)
          subst hrb
          obtain ⟨hltp, hrdp⟩ := hf2 ha
          obtain ⟨adp, ep, cp0, cp1⟩ := at_T50 HROW.out fp ha hltp
          rw [hrdp] at cp0 cp1
          cases ep
          clear hrdp
          clear hay han hf2 hc2
          as_aux_lemma =>
            go_wp2_with fail
            (try simp only [List.append_eq, List.cons_append, List.nil_append])
            refine wp_region_quiet_lit (by kernel_rfl) (lexB_fast (by kernel_rfl)) ?_
            repeat (go_big_quiet_step (fail))
            refine wpQuiet_nil ?_
            intro _ hw'
            obtain ⟨nq, hw''⟩ := hw'
            subst hw''
            go_wp2_with (first | (go_at_call 13; refine (alive_any _).mono ?_; rintro e wz ⟨rfl, hb⟩; have HBZ := Aside0.mk ((below_drewN HSd.out.below _).trans (hb.mono HSd.out.below.size)); clear hb))
            go_ret
            exact ⟨rfl, HBZ.out⟩
    · rw [decide_eq_false ha] at hf1
      subst hf1
      by_cases hb : 0 ≤ cp
      · rw [decide_eq_true hb] at hc1
        subst hc1
        by_cases hi0 : 0 ≤ i
        · by_cases hi1 : i < (nn : Int)
          · obtain ⟨hltq, hrdq⟩ := hc2 hb
            obtain ⟨adq, eq, cq0, cq1⟩ := at_T50 HROW.out cp hb hltq
            rw [hrdq] at cq0 cq1
            cases eq
            clear hrdq
            obtain ⟨hrb, hrdr⟩ := hay hi0 hi1
            subst hrb
            obtain ⟨adr, er, cr0, cr1⟩ := at_T50 HROW.out i hi0 hi1
            rw [hrdr] at cr0 cr1
            obtain rfl : adq = adr := by injection er
            clear er
            clear hrdr
            clear hay han hf2 hc2
            as_aux_lemma =>
              go_wp2_with fail
              (try simp only [List.append_eq, List.cons_append, List.nil_append])
              refine wp_region_quiet_lit (by kernel_rfl) (lexB_fast (by kernel_rfl)) ?_
              repeat (go_big_quiet_step (fail))
              refine wpQuiet_nil ?_
              intro _ hw'
              obtain ⟨nq, hw''⟩ := hw'
              subst hw''
              go_wp2_with (first | (go_at_call 13; refine (alive_any _).mono ?_; rintro e wz ⟨rfl, hb⟩; have HBZ := Aside0.mk ((below_drewN HSd.out.below _).trans (hb.mono HSd.out.below.size)); clear hb))
              go_ret
              exact ⟨rfl, HBZ.out⟩
          · have hrb := han (fun h => hi1 h.2)
            subst hrb
            obtain ⟨hltq, hrdq⟩ := hc2 hb
            obtain ⟨adq, eq, cq0, cq1⟩ := at_T50 HROW.out cp hb hltq
            rw [hrdq] at cq0 cq1
            cases eq
            clear hrdq
            clear hay han hf2 hc2
            as_aux_lemma =>
              go_wp2_with fail
              (try simp only [List.append_eq, List.cons_append, List.nil_append])
              refine wp_region_quiet_lit (by kernel_rfl) (lexB_fast (by kernel_rfl)) ?_
              repeat (go_big_quiet_step (fail))
              refine wpQuiet_nil ?_
              intro _ hw'
              obtain ⟨nq, hw''⟩ := hw'
              subst hw''
              go_wp2_with (first | (go_at_call 13; refine (alive_any _).mono ?_; rintro e wz ⟨rfl, hb⟩; have HBZ := Aside0.mk ((below_drewN HSd.out.below _).trans (hb.mono HSd.out.below.size)); clear hb))
              go_ret
              exact ⟨rfl, HBZ.out⟩
        · have hrb := han (fun h => hi0 h.1)
          subst hrb
          obtain ⟨hltq, hrdq⟩ := hc2 hb
          obtain ⟨adq, eq, cq0, cq1⟩ := at_T50 HROW.out cp hb hltq
          rw [hrdq] at cq0 cq1
          cases eq
          clear hrdq
          clear hay han hf2 hc2
          as_aux_lemma =>
            go_wp2_with fail
            (try simp only [List.append_eq, List.cons_append, List.nil_append])
            refine wp_region_quiet_lit (by kernel_rfl) (lexB_fast (by kernel_rfl)) ?_
            repeat (go_big_quiet_step (fail))
            refine wpQuiet_nil ?_
            intro _ hw'
            obtain ⟨nq, hw''⟩ := hw'
            subst hw''
            go_wp2_with (first | (go_at_call 13; refine (alive_any _).mono ?_; rintro e wz ⟨rfl, hb⟩; have HBZ := Aside0.mk ((below_drewN HSd.out.below _).trans (hb.mono HSd.out.below.size)); clear hb))
            go_ret
            exact ⟨rfl, HBZ.out⟩
      · rw [decide_eq_false hb] at hc1
        subst hc1
        by_cases hi0 : 0 ≤ i
        · by_cases hi1 : i < (nn : Int)
          · obtain ⟨hrb, hrdr⟩ := hay hi0 hi1
            subst hrb
            obtain ⟨adr, er, cr0, cr1⟩ := at_T50 HROW.out i hi0 hi1
            rw [hrdr] at cr0 cr1
            cases er
            clear hrdr
            clear hay han hf2 hc2
            as_aux_lemma =>
              go_wp2_with fail
              (try simp only [List.append_eq, List.cons_append, List.nil_append])
              refine wp_region_quiet_lit (by kernel_rfl) (lexB_fast (by kernel_rfl)) ?_
              repeat (go_big_quiet_step (fail))
              refine wpQuiet_nil ?_
              intro _ hw'
              obtain ⟨nq, hw''⟩ := hw'
              subst hw''
              go_wp2_with (first | (go_at_call 13; refine (alive_any _).mono ?_; rintro e wz ⟨rfl, hb⟩; have HBZ := Aside0.mk ((below_drewN HSd.out.below _).trans (hb.mono HSd.out.below.size)); clear hb))
              go_ret
              exact ⟨rfl, HBZ.out⟩
          · have hrb := han (fun h => hi1 h.2)
            subst hrb
            clear hay han hf2 hc2
            as_aux_lemma =>
              go_wp2_with fail
              (try simp only [List.append_eq, List.cons_append, List.nil_append])
              refine wp_region_quiet_lit (by kernel_rfl) (lexB_fast (by kernel_rfl)) ?_
              repeat (go_big_quiet_step (fail))
              refine wpQuiet_nil ?_
              intro _ hw'
              obtain ⟨nq, hw''⟩ := hw'
              subst hw''
              go_wp2_with (first | (go_at_call 13; refine (alive_any _).mono ?_; rintro e wz ⟨rfl, hb⟩; have HBZ := Aside0.mk ((below_drewN HSd.out.below _).trans (hb.mono HSd.out.below.size)); clear hb))
              go_ret
              exact ⟨rfl, HBZ.out⟩
        · have hrb := han (fun h => hi0 h.1)
          subst hrb
          clear hay han hf2 hc2
          as_aux_lemma =>
            go_wp2_with fail
            (try simp only [List.append_eq, List.cons_append, List.nil_append])
            refine wp_region_quiet_lit (by kernel_rfl) (lexB_fast (by kernel_rfl)) ?_
            repeat (go_big_quiet_step (fail))
            refine wpQuiet_nil ?_
            intro _ hw'
            obtain ⟨nq, hw''⟩ := hw'
            subst hw''
            go_wp2_with (first | (go_at_call 13; refine (alive_any _).mono ?_; rintro e wz ⟨rfl, hb⟩; have HBZ := Aside0.mk ((below_drewN HSd.out.below _).trans (hb.mono HSd.out.below.size)); clear hb))
            go_ret
            exact ⟨rfl, HBZ.out⟩
end Go.Proofs.Ytbiccahkniadfaa.H
