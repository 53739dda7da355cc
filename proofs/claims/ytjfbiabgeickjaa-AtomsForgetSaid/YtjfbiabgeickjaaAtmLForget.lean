/- AtomsForget: walked. -/
import Derived.Test.YtjfbiabgeickjaaAtmF
import Derived.Deep.LoopGhost
import Derived.BigQuiet
namespace Go.Proofs.Ytjfbiabgeickjaa.H
open Go.BigFrame Go.RowKit Go.Proofs.Ytjfbiabgeickjaa.P Go.Proofs.Ytjfbiabgeickjaa.Open Go.Proofs.YtjfbiabgeickjaaW.PrintWords Go.Proofs.YtjfbiabgeickjaaW.PrintLast Go.Proofs.YtjfbiabgeickjaaW.PrintMore
set_option linter.unusedVariables false
set_option linter.unusedSimpArgs false
set_option maxRecDepth 20000 in
set_option maxHeartbeats 16000000 in
theorem AtomsForget_any (A : Option Addr) (c : Nat) (l : List SA) (A2 : Option Addr) (c2 : Nat) (lr : List Rg) (w : World) (hr : Kd.C kA w A l.length l) (hc : l.length ≤ c) (hI : ∀ y ∈ l, isU32 y.f1.f0 ∧ isU32 y.f1.f1) (hr2 : Kd.C kR w A2 lr.length lr) (hc2 : lr.length ≤ c2) (hI2 : ∀ y ∈ lr, isU32 y.f0 ∧ isU32 y.f1) :
    Calls Try.prog 7 #[.slice A l.length c, .slice A2 lr.length c2] w fun e w' => e = .returned (.bool true) ∧ Below w.heap.size w w' := by
  have HR2 := Aside0.mk hr2
  have HI2 := Aside0.mk (show ∀ j : Nat, j < lr.length → (0 ≤ (rdR lr (j : Int)).f0 ∧ (rdR lr (j : Int)).f0 ≤ 4294967295) ∧ 0 ≤ (rdR lr (j : Int)).f1 ∧ (rdR lr (j : Int)).f1 ≤ 4294967295 from fun j hj => by
    have hm : rdR lr (j : Int) ∈ lr := by rw [rdR_eq lr j hj]; exact List.getElem_mem hj
    exact ⟨(hI2 _ hm).1.range, (hI2 _ hm).2.range⟩)
  clear hr2 hc2 hI2
  have HR0 := Aside0.mk hr
  have HC0 := Aside0.mk hc
  have HI0 := Aside0.mk (show ∀ j : Nat, j < l.length → (0 ≤ (rdA l (j : Int)).f1.f0 ∧ (rdA l (j : Int)).f1.f0 ≤ 4294967295) ∧ 0 ≤ (rdA l (j : Int)).f1.f1 ∧ (rdA l (j : Int)).f1.f1 ≤ 4294967295 from fun j hj => by
    have hm : rdA l (j : Int) ∈ l := by unfold rdA; rw [Int.toNat_natCast, List.getD_eq_getElem?_getD, List.getElem?_eq_getElem hj]; exact List.getElem_mem hj
    exact ⟨(hI _ hm).1.range, (hI _ hm).2.range⟩)
  clear hr hc hI
  go_enter Try.func7, Try.ntmps7
  go_wp2_with fail
  refine (newTab_any w).mono ?_
  rintro e w1 ⟨⟨P0, rfl, h0⟩, hb⟩
  have HB1 := Aside0.mk hb
  have H0 := Aside0.mk h0
  clear hb h0
  have HH := Aside0.mk (show HeldAt (w1.alloc (.cells #[.pointer P0, .slice none 0 0] 40)) w1.heap.size newTab [] P0 (.slice none 0 0) from ⟨blk_new w1 _, H0.out.below ((Below.refl w1.heap.size w1).alloc (Nat.le_refl _) _), Kd.V_nil _ _ _ _ _⟩)
  have HB2 := Aside0.mk (HB1.out.alloc HB1.out.size (.cells #[.pointer P0, .slice none 0 0] 40))
  have HG := Aside0.mk HB1.out.size
  clear HB1 H0
  dsimp only
  repeat ((fail_if_success (show Code.wp _ (Code.seq (Code.region 2 _ _) _) _ _ _)); (first | go_values | go_skip | go_guarded | go_step | go_upon | go_back))
  generalize w1.heap.size = H at *
  generalize (w1.alloc (.cells #[.pointer P0, .slice none 0 0] 40)) = w2 at *
  go_cut [6] from 7 (fun _ w' => ∃ (m : Nat) (x : Tab) (L : List Rg) (P : Option Addr) (v : Value), Aside0 (m ≤ 60) ∧ Aside0 (Inv m x L) ∧ Aside0 (HeldAt w' H x L P v) ∧ Aside0 (Below w.heap.size w w'))
  case first =>
    go_wp2_with fail
    go_loopw [6] (fun u wr => ∃ (j : Nat) (x : Tab) (L : List Rg) (P : Option Addr) (v : Value), u = .int .i64 j ∧ j ≤ 60 ∧ Aside0 (Inv j x L) ∧ Aside0 (HeldAt wr H x L P v) ∧ Aside0 (Below w.heap.size w wr)) (fun u _ => 60 - (intOf u).toNat)
    case atStart => exact ⟨0, newTab, [], P0, _, rfl, Nat.zero_le _, ⟨inv_new⟩, HH, HB2⟩
    case round =>
      clear HH HB2
      obtain ⟨j, x, L, P, v, rfl, hj, HI, HH, HB⟩ := hrel
      by_cases h1 : j < l.length
      · by_cases h2 : j < 60
        · skip
          have h1' : (j : Int) < (l.length : Int) := by omega
          have h2' : (j : Int) < 60 := by omega
          have hw := wr1 j (by omega)
          obtain ⟨ad, rfl, a0, a1, a2⟩ := atA (Kd.C_below HR0.out HB.out) j (by omega) (by omega)
          simp only [Int.toNat_natCast] at a0 a1 a2
          obtain ⟨⟨i0, i1⟩, i2, i3⟩ := HI0.out j h1
          have HRD := Aside0.mk (fun W (hW : Below w.heap.size w W) => atA (Kd.C_below HR0.out hW) j (by omega) (by omega))
          simp only [Int.toNat_natCast] at HRD
          generalize rdA l (j : Int) = y at *
          clear h1 h2
          go_wp2_with fail
          refine (do_any H y.f0 y.f1.f0 y.f1.f1 HI.out (by omega) i0 i1 i2 i3 P v wr HH.out).mono ?_
          rintro e w3 ⟨rfl, ⟨P3, v3, hh⟩, hb⟩
          have HI3 := Aside0.mk (HI.out.does (by omega) y.f0 y.f1.f0 y.f1.f1 i0 i1 i2 i3)
          have HH3 := Aside0.mk hh
          have HB3 := Aside0.mk (hb.below HB.out HG.out HB.out.size)
          clear hb a0 a1 a2 HI HH HB i0 i1 i2 i3
          clear hh
          go_wp2_with fail
          go_roundw
          case rel => exact ⟨j + 1, _, _, _, _, by first | go_num | rw [hw], by omega, HI3, HH3, HB3⟩
          case measure => (try rw [hw]); simp only [intOf]; omega
        · have h1' : (j : Int) < (l.length : Int) := by omega
          have h2' : ¬ (j : Int) < 60 := by omega
          go_wp2_with fail
          go_meet
          case rel => exact ⟨j, x, L, P, v, ⟨hj⟩, HI, HH, HB⟩
      · have h1' : ¬ (j : Int) < (l.length : Int) := by omega
        go_wp2_with fail
        go_meet
        case rel => exact ⟨j, x, L, P, v, ⟨hj⟩, HI, HH, HB⟩
  case rest =>
    obtain ⟨m, x, L, P, v, HM, HI, HH, HB⟩ := hcut
    clear HG
    obtain ⟨w0c, rfl⟩ : ∃ W, W = wc := ⟨_, rfl⟩
    obtain ⟨A3, c3, rfl, hl3, hc3⟩ := HH.out.reads
    have HL3 := Aside0.mk hl3
    have HC3 := Aside0.mk hc3
    have hmm := HM.out
    have d0 := blk_cell HH.out.blk 0
    clear hl3 hc3
    have HR2c := Aside0.mk (Kd.C_below HR2.out HB.out)
    clear HR2
    try dsimp only
    repeat ((fail_if_success (show Code.wp _ (Code.seq (Code.region 8 _ _) _) _ _ _)); (first | go_values | go_skip | go_guarded | go_step | go_upon | go_back))
    clear d0
    go_cut [7, 8, 9] from 10 (fun s7 s8 s9 w' => ∃ (Q : Option Addr) (x2 : Tab) (D : List Rg), s7 = .pointer Q ∧ D.length ≤ 40 ∧ Aside0 (Inv (m + 40) x2 (L ++ D)) ∧ Aside0 (TabAtm w' Q x2) ∧ Aside0 (Kd.R kR 30 w' w0c.heap.size (fun _ => True) s8 D) ∧ Aside0 (Below w0c.heap.size w0c w'))
    case first =>
      have HW0 := Aside0.mk (Below.refl w0c.heap.size w0c)
      go_wp2_with fail
      go_loopw [7, 8, 9] (fun s7 s8 s9 wr => ∃ (i : Nat) (Q : Option Addr) (x2 : Tab), s7 = .pointer Q ∧ s9 = .int .i64 i ∧ i ≤ 40 ∧ Aside0 (Inv (m + i) x2 (L ++ goodL (lr.take i))) ∧ Aside0 (TabAtm wr Q x2) ∧ Aside0 (Kd.R kR 30 wr w0c.heap.size (fun _ => True) s8 (goodL (lr.take i))) ∧ Aside0 (Below w0c.heap.size w0c wr)) (fun _ _ s9 _ => 40 - (intOf s9).toNat)
      case atStart => exact ⟨0, P, x, rfl, rfl, Nat.zero_le _, ⟨by rw [List.take_zero]; show Inv m x (L ++ []); rw [List.append_nil]; exact HI.out⟩, ⟨HH.out.tab⟩, ⟨by rw [List.take_zero]; exact Kd.R_nil _ _ _ _ _⟩, HW0⟩
      case round =>
        clear HW0
        obtain ⟨i, Q, x2, rfl, rfl, hi, HIi, HT, HD, HN⟩ := hrel
        obtain ⟨Av, cv, rfl⟩ := Kd.R_slice HD.out
        by_cases h1 : i < lr.length
        · by_cases h2 : i < 40
          · have h1' : (i : Int) < (lr.length : Int) := by omega
            have h2' : (i : Int) < 40 := by omega
            have hw := wr1 i (by omega)
            obtain ⟨ad, rfl, a0, a1⟩ := at_T30 (Kd.C_below HR2c.out HN.out) i (by omega) (by omega)
            have HRD := Aside0.mk (fun W (hW : Below w0c.heap.size w0c W) => at_T30 (Kd.C_below HR2c.out hW) i (by omega) (by omega))
            simp only [Int.toNat_natCast] at a0 a1 HRD
            obtain ⟨⟨i0, i1⟩, i2, i3⟩ := HI2.out i h1
            obtain ⟨p, hp⟩ : ∃ p, rdR lr (i : Int) = p := ⟨_, rfl⟩
            rw [hp] at i0 i1 i2 i3
            rw [show rd_T30 lr (i : Int) = p from hp] at a0 a1 HRD
            have HTK := Aside0.mk (good_take lr i h1 p hp)
            have hgl := good_len lr i
            have ca := add_op HIi.out (by omega) Q p.f0 p.f1 i0 i3 wr HT.out
            have HS := Aside0.mk (HIi.out.adds (by omega) p i0 i1 i2 i3)
            have HNO := Aside0.mk (HIi.out.done_no false p.f0 p.f1 i0 i1 i2 i3)
            rw [← HTK.out] at HS
            clear hp i0 i1 i2 i3
            by_cases hg : p.f1 < p.f0
            · have he : doneE false p.f0 p.f1 (L ++ goodL (lr.take i)) = 51 := by unfold doneE; simp [hg]
              rw [he] at ca HNO
              rw [HNO.out (by decide)] at HS
              have HG := Aside0.mk (show goodL (lr.take (i + 1)) = goodL (lr.take i) from by rw [HTK.out]; unfold goodL; simp [hg])
              generalize goodL (lr.take i) = X at *
              clear hg he
              go_wp2_with fail
              refine ca.mono ?_
              rintro e w3 ⟨⟨Pq, rfl, ht, hz⟩, hb⟩
              have HN3 := Aside0.mk (HN.out.trans (hb.mono HN.out.size))
              have HT3 := Aside0.mk (HT.out.below hb)
              have HD3 := Aside0.mk (Kd.R_below HD.out hb)
              clear ca hb ht hz a0 a1
              go_wp2_with fail
              go_roundw
              case rel => exact ⟨i + 1, Q, x2, rfl, by first | go_num | rw [hw], by omega, HS, HT3, ⟨by rw [HG.out]; exact HD3.out⟩, HN3⟩
              case measure => (try rw [hw]); simp only [intOf]; omega
            · have he : doneE false p.f0 p.f1 (L ++ goodL (lr.take i)) = 0 := by unfold doneE; simp [hg]
              rw [he] at ca
              have HG := Aside0.mk (show goodL (lr.take (i + 1)) = goodL (lr.take i) ++ [p] from by rw [HTK.out]; unfold goodL; simp [hg])
              generalize goodL (lr.take i) = X at *
              generalize doneX false p.f0 p.f1 x2 = x3 at *
              have HXL := Aside0.mk (show X.length ≤ 40 from by omega)
              clear hg he HNO hgl
              go_wp2_with fail
              refine ca.mono ?_
              rintro e w3 ⟨⟨Pq, rfl, ht, hz⟩, hb⟩
              have HN3 := Aside0.mk (HN.out.trans (hb.mono HN.out.size))
              have HT3 := Aside0.mk (ht rfl)
              have HD3 := Aside0.mk (Kd.R_below HD.out hb)
              obtain ⟨ad2, e2, b0, b1⟩ := HRD.out w3 HN3.out
              cases e2
              clear ca hb ht hz a0 a1
              go_wp2_with (first
                | ((with_reducible refine gate_builtin (b := .append) (xs := #[.tmp 63, .tmp 68]) rfl ?_); at_builtin; refine Kd.R_append kR (w0 := w0c) w0c.heap.size rfl (.tmp 63) (.tmp 68) 22 30 (.agg #[(.int .u32 0), (.int .u32 0)]) 8 rfl Try.underlying22 info30 rfl (by decide) (by omega) (.slice Av X.length cv) X p [.int .u32 p.f0, .int .u32 p.f1] (fun _ => True) (fun _ => False) rfl (by first | (go_simp; done) | (go_simp; rfl)) ?aP (fun _ hk => hk.elim) (fun _ _ => trivial) HD3.out HN3.out HN3.out.size ?aL ?_; (case aP => exact k30_mkM _ _ _ p); (case aL => have := HXL.out; omega); intro v1 w4 hv1 hb4 hg4 ho4; have HV := Aside0.mk hv1; have HN4 := Aside0.mk hb4; have HT4 := Aside0.mk (HT3.out.grown HD3.out hg4); clear hv1 hb4 hg4 ho4))
              go_roundw
              case rel => exact ⟨i + 1, Pq, x3, rfl, by first | go_num | rw [hw], by omega, HS, HT4, ⟨by rw [HG.out]; exact HV.out⟩, HN4⟩
              case measure => (try rw [hw]); simp only [intOf]; omega
          · have h1' : (i : Int) < (lr.length : Int) := by omega
            have h2' : ¬ (i : Int) < 40 := by omega
            have HRel := Aside0.mk (show ∃ (Q' : Option Addr) (y : Tab) (D : List Rg), (Value.pointer Q) = .pointer Q' ∧ D.length ≤ 40 ∧ Aside0 (Inv (m + 40) y (L ++ D)) ∧ Aside0 (TabAtm wr Q' y) ∧ Aside0 (Kd.R kR 30 wr w0c.heap.size (fun _ => True) (.slice Av (goodL (lr.take i)).length cv) D) ∧ Aside0 (Below w0c.heap.size w0c wr) from ⟨Q, x2, goodL (lr.take i), rfl, by have := good_len lr i; omega, ⟨HIi.out.mono (by omega)⟩, HT, HD, HN⟩)
            generalize goodL (lr.take i) = X at *
            go_wp2_with fail
            go_meet
            case rel => exact HRel.out
        · have h1' : ¬ (i : Int) < (lr.length : Int) := by omega
          have HRel := Aside0.mk (show ∃ (Q' : Option Addr) (y : Tab) (D : List Rg), (Value.pointer Q) = .pointer Q' ∧ D.length ≤ 40 ∧ Aside0 (Inv (m + 40) y (L ++ D)) ∧ Aside0 (TabAtm wr Q' y) ∧ Aside0 (Kd.R kR 30 wr w0c.heap.size (fun _ => True) (.slice Av (goodL (lr.take i)).length cv) D) ∧ Aside0 (Below w0c.heap.size w0c wr) from ⟨Q, x2, goodL (lr.take i), rfl, by have := good_len lr i; omega, ⟨HIi.out.mono (by omega)⟩, HT, HD, HN⟩)
          generalize goodL (lr.take i) = X at *
          go_wp2_with fail
          go_meet
          case rel => exact HRel.out
    case rest =>
      obtain ⟨Q, x2, D, rfl, hDl, HID, HT, HD, HN⟩ := hcut
      obtain ⟨Ad, cd, rfl, hcd, hCd⟩ := Kd.R_reads HD.out
      have HCD := Aside0.mk hCd
      have HDL := Aside0.mk hDl
      have hm4 : m + 40 ≤ 400 := by omega
      clear hcd hCd HD hDl
      go_wp2_with fail
      have HW0 := Aside0.mk (Below.refl wc.heap.size wc)
      go_loopw [7, 12] (fun s7 s12 wr => ∃ (k : Nat) (Q : Option Addr) (x2 : Tab), s7 = .pointer Q ∧ s12 = .int .i64 k ∧ k ≤ D.length ∧ Aside0 (Inv (m + 40) x2 (L ++ D.drop k)) ∧ Aside0 (TabAtm wr Q x2) ∧ Aside0 (Below wc.heap.size wc wr)) (fun _ s12 _ => D.length - (intOf s12).toNat)
      case atStart => exact ⟨0, Q, x2, rfl, rfl, Nat.zero_le _, HID, HT, HW0⟩
      case round =>
        clear HW0 HID HT
        obtain ⟨k, Q, x2, rfl, rfl, hk, HIk, HT, HN2⟩ := hrel
        have hdl := HDL.out
        by_cases h1 : k < D.length
        · have h1' : (k : Int) < (D.length : Int) := by omega
          have hwk := wr1 k (by omega)
          obtain ⟨ad, rfl, a0, a1⟩ := at_T30 (Kd.C_below HCD.out HN2.out) k (by omega) (by omega)
          simp only [Int.toNat_natCast] at a0 a1
          obtain ⟨p, hp⟩ : ∃ p, rdR D (k : Int) = p := ⟨_, rfl⟩
          rw [show rd_T30 D (k : Int) = p from hp] at a0 a1
          have hI := HIk.out
          rw [drop_cons_rd D k h1 p hp] at hI
          obtain ⟨hI2, hE⟩ := hI.drops hm4
          have ho := hI.ok p (List.mem_append_right _ (List.mem_cons_self ..))
          have ca := drop_op hI hm4 Q p.f0 p.f1 ho.1 (by omega) (by omega) ho.2.2 wr HT.out
          rw [hE] at ca
          have HS := Aside0.mk hI2
          generalize doneX true p.f0 p.f1 x2 = x3 at *
          clear hp hI hI2 hE ho HIk
          go_wp2_with fail
          refine ca.mono ?_
          rintro e w3 ⟨⟨Pq, rfl, ht, hz⟩, hb⟩
          have HN3 := Aside0.mk (HN2.out.trans (hb.mono HN2.out.size))
          have hT3 := ht rfl
          obtain ⟨g3, pb3, pr3, rfl, h33⟩ := hT3
          have HT3 := Aside0.mk (show TabAtm w3 (some ⟨g3, 0, none⟩) x3 from ⟨g3, pb3, pr3, rfl, h33⟩)
          clear ca hb ht hz h33 a0 a1
          go_wp2_with fail
          go_roundw
          case rel => exact ⟨k + 1, _, x3, rfl, by first | go_num | rw [hwk], by omega, HS, HT3, HN3⟩
          case measure => (try rw [hwk]); simp only [intOf]; omega
        · have h1' : ¬ (k : Int) < (D.length : Int) := by omega
          have hI := HIk.out
          rw [List.drop_of_length_le (by omega), List.append_nil] at hI
          have HIE := Aside0.mk hI
          have HBc := Aside0.mk (HB.out.trans ((HN.out.trans (HN2.out.mono HN.out.size)).mono HB.out.size))
          have HHc := Aside0.mk (HH.out.below (HN.out.trans (HN2.out.mono HN.out.size)))
          have HCc := Aside0.mk (Kd.C_below HC3.out (HN.out.trans (HN2.out.mono HN.out.size)))
          have CS1 := same_any hI hm4 Q A3 c3 wr HT.out HCc.out HL3.out
          have CS2 := Aside0.mk (fun W h1 h2 => same_any HI.out (by omega) P A3 c3 W h1 h2 HL3.out)
          have CR1 := Aside0.mk (fun W h1 => ranges_any Q x2 W (.inl h1) (hI.lim hm4).2.1)
          have CR2 := Aside0.mk (fun W h1 => ranges_any P x W (.inl h1) (HI.out.lim (by omega)).2.1)
          rw [hI.same_ranges HI.out] at CR2
          have CSM := Aside0.mk (fun A1 n1 A2 n2 W h1 h2 h3 h4 => ref_same (rangesT x2.r) (by rw [ranges_len]; have := (hI.lim hm4).2.1; omega) A1 n1 A2 n2 W h1 h2 h3 h4)
          generalize rangesT x2.r = RR at *
          have d1 := blk_cell HHc.out.blk 1
          clear hI hk h1 HIk HH HN HN2
          go_wp2_with fail
          refine CS1.mono ?_
          rintro e w3 ⟨rfl, hb⟩
          have HB3 := Aside0.mk (HBc.out.trans (hb.mono HBc.out.size))
          have HH3 := Aside0.mk (HHc.out.below hb)
          have HC3 := Aside0.mk (Kd.C_below HCc.out hb)
          have HT3 := Aside0.mk (HT.out.below hb)
          clear CS1 hb d1
          go_wp2_with fail
          have hc : w3.cell? ⟨H, 0, none⟩ = some (.pointer P) ∧ w3.cell? ⟨H, 1, none⟩ = some (.slice A3 L.length c3) := ⟨blk_cell HH3.out.blk 0, blk_cell HH3.out.blk 1⟩
          have HD := Aside0.mk (below_drew (Below.refl w3.heap.size w3))
          have CS3 := Aside0.mk (CS2.out w3.drew (HH3.out.below HD.out).tab (Kd.C_below HC3.out HD.out))
          go_region_held3 (fun w' => w'.cell? ⟨H, 0, none⟩ = some (.pointer P) ∧ w'.cell? ⟨H, 1, none⟩ = some (.slice A3 L.length c3)) (first | assumption | go_keep) (first
            | (go_at_call 21; refine CS3.out.mono ?_; rintro e w4 ⟨rfl, hb⟩; have HNN := Aside0.mk (HD.out.trans (hb.mono HD.out.size)); have HH4 := Aside0.mk (HH3.out.below HNN.out); have HT4 := Aside0.mk (HT3.out.below HNN.out); have HB4 := Aside0.mk (HB3.out.trans (HNN.out.mono HB3.out.size)); have K1 : w4.cell? ⟨H, 0, none⟩ = some (.pointer P) ∧ w4.cell? ⟨H, 1, none⟩ = some (.slice A3 L.length c3) := ⟨blk_cell HH4.out.blk 0, blk_cell HH4.out.blk 1⟩; clear hb))
          clear hc HD CS3 K1 HNN
          go_wp2_with fail
          have hc : w4.cell? ⟨H, 0, none⟩ = some (.pointer P) ∧ w4.cell? ⟨H, 1, none⟩ = some (.slice A3 L.length c3) := ⟨blk_cell HH4.out.blk 0, blk_cell HH4.out.blk 1⟩
          have HD := Aside0.mk (below_drew (Below.refl w4.heap.size w4))
          go_region_held3 (fun w' => w'.cell? ⟨H, 0, none⟩ = some (.pointer P) ∧ w'.cell? ⟨H, 1, none⟩ = some (.slice A3 L.length c3)) (first | assumption | go_keep) (first
            | (go_at_call 23; (with_reducible refine (CR1.out _ (HT4.out.below HD.out)).mono ?_); rintro e w5 ⟨⟨u5, rfl, hR⟩, hb⟩; obtain ⟨A5, c5, rfl, q5, r5⟩ := Kd.R_reads hR; have HN5 := Aside0.mk (HD.out.trans (hb.mono HD.out.size)); have Q5 := Aside0.mk q5; have R5 := Aside0.mk r5; have K1 : w5.cell? ⟨H, 0, none⟩ = some (.pointer P) ∧ w5.cell? ⟨H, 1, none⟩ = some (.slice A3 L.length c3) := ⟨blk_cell (HH4.out.below HN5.out).blk 0, blk_cell (HH4.out.below HN5.out).blk 1⟩; clear hb hR q5 r5)
            | (go_at_call 23; (with_reducible refine (CR2.out _ (HH4.out.below HN5.out).tab).mono ?_); rintro e w6 ⟨⟨u6, rfl, hR⟩, hb⟩; obtain ⟨A6, c6, rfl, q6, r6⟩ := Kd.R_reads hR; have HN6 := Aside0.mk (HN5.out.trans (hb.mono HN5.out.size)); have R56 := Aside0.mk (Kd.C_below R5.out hb); have Q6 := Aside0.mk q6; have R6 := Aside0.mk r6; have K3 : w6.cell? ⟨H, 0, none⟩ = some (.pointer P) ∧ w6.cell? ⟨H, 1, none⟩ = some (.slice A3 L.length c3) := ⟨blk_cell (HH4.out.below HN6.out).blk 0, blk_cell (HH4.out.below HN6.out).blk 1⟩; clear hb hR q6 r6)
            | (go_at_call 22; refine (CSM.out A5 c5 A6 c6 _ R56.out Q5.out R6.out Q6.out).mono ?_; rintro e w7 ⟨rfl, hb⟩; have HN7 := Aside0.mk (HN6.out.trans (hb.mono HN6.out.size)); have HB7 := Aside0.mk (HB4.out.trans (HN7.out.mono HB4.out.size)); have K5 : w7.cell? ⟨H, 0, none⟩ = some (.pointer P) ∧ w7.cell? ⟨H, 1, none⟩ = some (.slice A3 L.length c3) := ⟨blk_cell (HH4.out.below HN7.out).blk 0, blk_cell (HH4.out.below HN7.out).blk 1⟩; clear hb))
          clear hc HD CR1 CR2 CSM K1 K3 K5
          go_wp2_with fail
          refine (alive_any _).mono ?_
          rintro e w8 ⟨rfl, hb⟩
          have HB8 := Aside0.mk (HB7.out.trans (hb.mono HB7.out.size))
          clear hb
          go_wp2_with fail
          go_ret
          exact ⟨rfl, HB8.out⟩
end Go.Proofs.Ytjfbiabgeickjaa.H
