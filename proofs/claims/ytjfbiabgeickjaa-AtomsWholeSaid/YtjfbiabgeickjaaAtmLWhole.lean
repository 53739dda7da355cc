/- AtomsWhole: walked. -/
import Derived.Test.YtjfbiabgeickjaaAtmH
import Derived.Deep.LoopGhost
import Derived.BigQuiet
namespace Go.Proofs.Ytjfbiabgeickjaa.H
open Go.BigFrame Go.RowKit Go.Proofs.Ytjfbiabgeickjaa.P Go.Proofs.Ytjfbiabgeickjaa.Open Go.Proofs.YtjfbiabgeickjaaW.PrintWords Go.Proofs.YtjfbiabgeickjaaW.PrintLast Go.Proofs.YtjfbiabgeickjaaW.PrintMore
set_option linter.unusedVariables false
set_option linter.unusedSimpArgs false
set_option maxRecDepth 20000 in
set_option maxHeartbeats 16000000 in
theorem AtomsWhole_any (A : Option Addr) (c : Nat) (l : List SA) (w : World) (hr : Kd.C kA w A l.length l) (hc : l.length ≤ c) (hI : ∀ y ∈ l, isU32 y.f1.f0 ∧ isU32 y.f1.f1) :
    Calls Try.prog 6 #[.slice A l.length c] w fun e w' => e = .returned (.bool true) ∧ Below w.heap.size w w' := by
  have HR0 := Aside0.mk hr
  have HC0 := Aside0.mk hc
  have HI0 := Aside0.mk (show ∀ j : Nat, j < l.length → (0 ≤ (rdA l (j : Int)).f1.f0 ∧ (rdA l (j : Int)).f1.f0 ≤ 4294967295) ∧ 0 ≤ (rdA l (j : Int)).f1.f1 ∧ (rdA l (j : Int)).f1.f1 ≤ 4294967295 from fun j hj => by
    have hm : rdA l (j : Int) ∈ l := by unfold rdA; rw [Int.toNat_natCast, List.getD_eq_getElem?_getD, List.getElem?_eq_getElem hj]; exact List.getElem_mem hj
    exact ⟨(hI _ hm).1.range, (hI _ hm).2.range⟩)
  clear hr hc hI
  go_enter Try.func6, Try.ntmps6
  go_wp2_with fail
  refine (newTab_any w).mono ?_
  rintro e w1 ⟨⟨P0, rfl, h0⟩, hb⟩
  have HB1 := Aside0.mk hb
  have H0 := Aside0.mk h0
  clear hb h0
  have HH := Aside0.mk (show HeldAt (w1.alloc (.cells #[.pointer P0, .slice none 0 0] 40)) w1.heap.size newTab [] P0 (.slice none 0 0) from ⟨blk_new w1 _, H0.out.below ((Below.refl w1.heap.size w1).alloc (Nat.le_refl _) _), Kd.V_nil _ _ _ _ _⟩)
  have HB2 := Aside0.mk (HB1.out.alloc HB1.out.size (.cells #[.pointer P0, .slice none 0 0] 40))
  have HG := Aside0.mk HB1.out.size
  clear HB1 H0
  dsimp only
  repeat ((fail_if_success (show Code.wp _ (Code.seq (Code.region 2 _ _) _) _ _ _)); (first | go_values | go_skip | go_guarded | go_step | go_upon | go_back))
  generalize w1.heap.size = H at *
  generalize (w1.alloc (.cells #[.pointer P0, .slice none 0 0] 40)) = w2 at *
  go_cut [4] from 5 (fun _ w' => ∃ (m : Nat) (x : Tab) (L : List Rg) (P : Option Addr) (v : Value), Aside0 (m ≤ 60) ∧ Aside0 (Inv m x L) ∧ Aside0 (HeldAt w' H x L P v) ∧ Aside0 (Below w.heap.size w w'))
  case first =>
    go_wp2_with fail
    go_loopw [4] (fun u wr => ∃ (j : Nat) (x : Tab) (L : List Rg) (P : Option Addr) (v : Value), u = .int .i64 j ∧ j ≤ 60 ∧ Aside0 (Inv j x L) ∧ Aside0 (HeldAt wr H x L P v) ∧ Aside0 (Below w.heap.size w wr)) (fun u _ => 60 - (intOf u).toNat)
    case atStart => exact ⟨0, newTab, [], P0, _, rfl, Nat.zero_le _, ⟨inv_new⟩, HH, HB2⟩
    case round =>
      clear HH HB2
      obtain ⟨j, x, L, P, v, rfl, hj, HI, HH, HB⟩ := hrel
      by_cases h1 : j < l.length
      · by_cases h2 : j < 60
        · skip
          have h1' : (j : Int) < (l.length : Int) := by omega
          have h2' : (j : Int) < 60 := by omega
          have hw := wr1 j (by omega)
          obtain ⟨ad, rfl, a0, a1, a2⟩ := atA (Kd.C_below HR0.out HB.out) j (by omega) (by omega)
          simp only [Int.toNat_natCast] at a0 a1 a2
          obtain ⟨⟨i0, i1⟩, i2, i3⟩ := HI0.out j h1
          have HRD := Aside0.mk (fun W (hW : Below w.heap.size w W) => atA (Kd.C_below HR0.out hW) j (by omega) (by omega))
          simp only [Int.toNat_natCast] at HRD
          generalize rdA l (j : Int) = y at *
          clear h1 h2
          go_wp2_with fail
          refine (do_any H y.f0 y.f1.f0 y.f1.f1 HI.out (by omega) i0 i1 i2 i3 P v wr HH.out).mono ?_
          rintro e w3 ⟨rfl, ⟨P3, v3, hh⟩, hb⟩
          have HI3 := Aside0.mk (HI.out.does (by omega) y.f0 y.f1.f0 y.f1.f1 i0 i1 i2 i3)
          have HH3 := Aside0.mk hh
          have HB3 := Aside0.mk (hb.below HB.out HG.out HB.out.size)
          clear hb a0 a1 a2 HI HH HB i0 i1 i2 i3
          clear hh
          go_wp2_with fail
          go_roundw
          case rel => exact ⟨j + 1, _, _, _, _, by first | go_num | rw [hw], by omega, HI3, HH3, HB3⟩
          case measure => (try rw [hw]); simp only [intOf]; omega
        · have h1' : (j : Int) < (l.length : Int) := by omega
          have h2' : ¬ (j : Int) < 60 := by omega
          go_wp2_with fail
          go_meet
          case rel => exact ⟨j, x, L, P, v, ⟨hj⟩, HI, HH, HB⟩
      · have h1' : ¬ (j : Int) < (l.length : Int) := by omega
        go_wp2_with fail
        go_meet
        case rel => exact ⟨j, x, L, P, v, ⟨hj⟩, HI, HH, HB⟩
  case rest =>
    obtain ⟨m, x, L, P, v, HM, HI, HH, HB⟩ := hcut
    clear HG
    obtain ⟨A3, c3, rfl, hl3, hc3⟩ := HH.out.reads
    have hmm := HM.out
    have hm4 : m ≤ 400 := by omega
    have CLN := Aside0.mk (fun W hW => tlen_any P x W hW)
    have HKL := Aside0.mk (keys_len x.b)
    have HSB := Aside0.mk (show (keysT x.b).length ≤ 1000 from by rw [keys_len]; have := HI.out.sb; omega)
    rw [← keys_len] at CLN
    have CAT := Aside0.mk (fun i W hW => atom_any P x i W (.inl hW) (HI.out.lim hm4).1 HI.out.range (keys_up HI.out.b.1))
    have CO := Aside0.mk (fun a h0 h1 W hW => of_inv HI.out hm4 P a h0 h1 W hW)
    have CW := Aside0.mk (fun f t h0 h1 h2 h3 W hW => within_inv HI.out hm4 P f t h0 h1 h2 h3 W hW)
    have CRG := Aside0.mk (fun W hW => ranges_any P x W (.inl hW) (HI.out.lim hm4).2.1)
    have HAT := Aside0.mk (fun i hi => HI.out.atom i hi)
    have HMD := Aside0.mk (fun p hp => HI.out.made p hp)
    have HA0 := Aside0.mk HI.out.at0
    have HAE := Aside0.mk (at_end (keysT x.b))
    have HRM := Aside0.mk (show ∀ q ∈ rangesT x.r, hasR q.f0 q.f1 L = true ∧ q ∈ L ∧ 0 ≤ q.f0 ∧ q.f0 ≤ q.f1 ∧ q.f1 ≤ 4294967295 from fun q hq => by
      have h1 := (HI.out.ranges.2 q).1 hq
      exact ⟨(hasR_iff _ _ L).2 h1, h1, HI.out.ok q h1⟩)
    have HRL := Aside0.mk (show (rangesT x.r).length ≤ 1000 from by rw [ranges_len]; have := HI.out.sr; omega)
    have HOL := Aside0.mk (show ∀ a, ofA a (atomsK (keysT x.b)) ≤ 1000 from fun a => Nat.le_trans (ofA_le a _) (HI.out.atoms_len hm4))
    clear hl3 hc3 HM HI hmm hm4 HKL
    generalize rangesT x.r = RR at *
    generalize atomsK (keysT x.b) = M at *
    generalize keysT x.b = KK at *
    obtain ⟨ns, hns⟩ : ∃ ns, KK.length = ns := ⟨_, rfl⟩
    rw [hns] at CLN HSB HAE HAT
    clear hns
    go_wp2_with fail
    have HW0 := Aside0.mk (Below.refl wc.heap.size wc)
    go_loopw [5, 6] (fun s5 s6 wr => ∃ (i : Nat), s5 = .int .i64 (atK KK i) ∧ s6 = .int .i64 i ∧ i ≤ ns ∧ Aside0 (Below wc.heap.size wc wr)) (fun _ s6 _ => ns - (intOf s6).toNat)
    case atStart => exact ⟨0, by rw [HA0.out], rfl, Nat.zero_le _, HW0⟩
    case round =>
      clear HW0
      obtain ⟨i, rfl, rfl, hi, HN⟩ := hrel
      have HHi := Aside0.mk (HH.out.below HN.out)
      have d0 := blk_cell HHi.out.blk 0
      have cl := CLN.out wr HHi.out.tab
      have hib := HSB.out
      by_cases h2 : i < ns
      · have h2' : (i : Int) < (ns : Int) := by omega
        have hwi := wr1 i (by omega)
        obtain ⟨p, q1, q2, q3, q4, q5, q6, q7, q8⟩ := HAT.out i h2
        have ca := CAT.out i wr HHi.out.tab
        rw [q1] at ca
        simp only [] at ca
        have C1 := Aside0.mk (fun W hW => CO.out p.f0 q2 (by omega) W hW)
        have C2 := Aside0.mk (fun W hW => CO.out p.f1 (by omega) q4 W hW)
        rw [q7] at C1
        rw [q8] at C2
        have HP5 := Aside0.mk q5
        have HP6 := Aside0.mk q6
        have HPB := Aside0.mk (show 0 ≤ p.f0 ∧ p.f0 ≤ p.f1 ∧ p.f1 ≤ 4294967295 from ⟨q2, q3, q4⟩)
        clear q1 q5 q6 q7 q8
        rw [← HP5.out]
        go_wp2_with fail
        refine cl.mono ?_
        rintro e w5 ⟨rfl, rfl⟩
        clear cl
        go_wp2_with fail
        refine ca.mono ?_
        rintro e w6 ⟨rfl, hb⟩
        have hb2 := hb.alloc hb.size (.cells #[.int .u32 p.f0, .int .u32 p.f1] 30)
        have HN6 := Aside0.mk (HN.out.trans (hb2.mono HN.out.size))
        have HX6 := Aside0.mk (blk_new w6 (.cells #[.int .u32 p.f0, .int .u32 p.f1] 30))
        have HH6 := Aside0.mk (HHi.out.below hb2)
        clear hb hb2 ca d0
        dsimp only
        repeat ((fail_if_success (show Code.wp _ (Code.seq (Code.region 11 _ _) _) _ _ _)); (first | go_values | go_skip | go_guarded | go_step | go_upon | go_back))
        generalize (w6.alloc (.cells #[.int .u32 p.f0, .int .u32 p.f1] 30)) = w7 at *
        generalize w6.heap.size = bx at *
        have hd : decide (p.f1 < p.f0) = false := decide_eq_false (by omega)
        have hwf : wrap64 p.f0 = p.f0 := by unfold wrap64; omega
        have hwt : wrap64 p.f1 = p.f1 := by unfold wrap64; omega
        have hwf2 : IntKind.i64.wrap p.f0 = p.f0 := by rw [IntKind.wrap_i64]; omega
        have hwt2 : IntKind.i64.wrap p.f1 = p.f1 := by rw [IntKind.wrap_i64]; omega
        have hwt3 : IntKind.i64.wrap (p.f1 + 1) = p.f1 + 1 := by rw [IntKind.wrap_i64]; omega
        have hwt1 : wrap64 (p.f1 + 1) = p.f1 + 1 := by unfold wrap64; omega
        go_wp2_with fail
        have hc : w7.cell? ⟨H, 0, none⟩ = some (.pointer P) ∧ w7.cell? ⟨bx, 0, none⟩ = some (.int .u32 p.f0) ∧ w7.cell? ⟨bx, 1, none⟩ = some (.int .u32 p.f1) := ⟨blk_cell HH6.out.blk 0, blk_cell HX6.out 0, blk_cell HX6.out 1⟩
        have HD := Aside0.mk (below_drew (Below.refl w7.heap.size w7))
        refine wp_region_held_drew (S := (fun w' => w'.cell? ⟨H, 0, none⟩ = some (.pointer P) ∧ w'.cell? ⟨bx, 0, none⟩ = some (.int .u32 p.f0) ∧ w'.cell? ⟨bx, 1, none⟩ = some (.int .u32 p.f1))) (by kernel_rfl) ?hS0 (fun hHeld => ?_)
        case hS0 => (first | assumption | go_keep)
        refine held_take 0 (some 55) (v := ?v0) rfl rfl (by kernel_rfl) (by kernel_rfl) (by kernel_rfl) (fun _ _ _ h => h) (by rfl) ?y0 (by assumption) ?_
        case y0 => ((intro w hSw); (try dsimp only at hSw); go_simp <;> (with_reducible rfl))
        try simp only [Act.put, List.setIfInBounds_toArray, List.set_cons_zero, List.set_cons_succ]
        refine held_take 1 (some 56) (v := ?v1) rfl rfl (by kernel_rfl) (by kernel_rfl) (by kernel_rfl) (fun _ _ _ h => h) (by rfl) ?y1 (by assumption) ?_
        case y1 => ((intro w hSw); (try dsimp only at hSw); go_simp <;> (with_reducible rfl))
        try simp only [Act.put, List.setIfInBounds_toArray, List.set_cons_zero, List.set_cons_succ]
        refine held_take 2 (some 57) (v := ?v2) rfl rfl (by kernel_rfl) (by kernel_rfl) (by kernel_rfl) (fun _ _ _ h => h) (by rfl) ?y2 (by assumption) ?_
        case y2 => ((intro w hSw); (try dsimp only at hSw); go_simp <;> (with_reducible rfl))
        try simp only [Act.put, List.setIfInBounds_toArray, List.set_cons_zero, List.set_cons_succ]
        refine held_take 3 (some 58) (v := ?v3) rfl rfl (by kernel_rfl) (by kernel_rfl) (by kernel_rfl) (fun _ _ _ h => h) (by rfl) ?y3 (by assumption) ?_
        case y3 => ((intro w hSw); (try dsimp only at hSw); go_simp <;> (with_reducible rfl))
        try simp only [Act.put, List.setIfInBounds_toArray, List.set_cons_zero, List.set_cons_succ]
        refine held_take 4 (some 59) (v := ?v4) rfl rfl (by kernel_rfl) (by kernel_rfl) (by kernel_rfl) (fun _ _ _ h => h) (by rfl) ?y4 (by assumption) ?_
        case y4 => ((intro w hSw); (try dsimp only at hSw); go_simp <;> (with_reducible rfl))
        try simp only [Act.put, List.setIfInBounds_toArray, List.set_cons_zero, List.set_cons_succ]
        refine held_take 5 (some 60) (v := ?v5) rfl rfl (by kernel_rfl) (by kernel_rfl) (by kernel_rfl) (fun _ _ _ h => h) (by rfl) ?y5 (by assumption) ?_
        case y5 => ((intro w hSw); (try dsimp only at hSw); go_simp <;> (with_reducible rfl))
        try simp only [Act.put, List.setIfInBounds_toArray, List.set_cons_zero, List.set_cons_succ]
        refine held_take 6 (some 61) (v := ?v6) rfl rfl (by kernel_rfl) (by kernel_rfl) (by kernel_rfl) (fun _ _ _ h => h) (by rfl) ?y6 (by assumption) ?_
        case y6 => ((intro w hSw); (try dsimp only at hSw); go_simp <;> (with_reducible rfl))
        try simp only [Act.put, List.setIfInBounds_toArray, List.set_cons_zero, List.set_cons_succ]
        refine held_take 7 (some 62) (v := ?v7) rfl rfl (by kernel_rfl) (by kernel_rfl) (by kernel_rfl) (fun _ _ _ h => h) (by rfl) ?y7 (by assumption) ?_
        case y7 => ((intro w hSw); (try dsimp only at hSw); go_simp <;> (with_reducible rfl))
        try simp only [Act.put, List.setIfInBounds_toArray, List.set_cons_zero, List.set_cons_succ]
        refine held_take 8 (some 63) (v := ?v8) rfl rfl (by kernel_rfl) (by kernel_rfl) (by kernel_rfl) (fun _ _ _ h => h) (by rfl) ?y8 (by assumption) ?_
        case y8 => ((intro w hSw); (try dsimp only at hSw); go_simp <;> (with_reducible rfl))
        try simp only [Act.put, List.setIfInBounds_toArray, List.set_cons_zero, List.set_cons_succ]
        refine held_take 9 (some 64) (v := ?v9) rfl rfl (by kernel_rfl) (by kernel_rfl) (by kernel_rfl) (fun _ _ _ h => h) (by rfl) ?y9 (by assumption) ?_
        case y9 => ((intro w hSw); (try dsimp only at hSw); go_simp <;> (with_reducible rfl))
        try simp only [Act.put, List.setIfInBounds_toArray, List.set_cons_zero, List.set_cons_succ]
        refine held_take 10 (some 65) (v := ?v10) rfl rfl (by kernel_rfl) (by kernel_rfl) (by kernel_rfl) (fun _ _ _ h => h) (by rfl) ?y10 (by assumption) ?_
        case y10 => ((intro w hSw); (try dsimp only at hSw); go_simp <;> (with_reducible rfl))
        try simp only [Act.put, List.setIfInBounds_toArray, List.set_cons_zero, List.set_cons_succ]
        refine held_take 11 (some 66) (v := ?v11) rfl rfl (by kernel_rfl) (by kernel_rfl) (by kernel_rfl) (fun _ _ _ h => h) (by rfl) ?y11 (by assumption) ?_
        case y11 => ((intro w hSw); (try dsimp only at hSw); go_simp <;> (with_reducible rfl))
        try simp only [Act.put, List.setIfInBounds_toArray, List.set_cons_zero, List.set_cons_succ]
        refine held_take 12 (some 67) (v := ?v12) rfl rfl (by kernel_rfl) (by kernel_rfl) (by kernel_rfl) (fun _ _ _ h => h) (by rfl) ?y12 (by assumption) ?_
        case y12 => ((intro w hSw); (try dsimp only at hSw); go_simp <;> (with_reducible rfl))
        try simp only [Act.put, List.setIfInBounds_toArray, List.set_cons_zero, List.set_cons_succ]
        refine held_take 13 (some 68) (v := ?v13) rfl rfl (by kernel_rfl) (by kernel_rfl) (by kernel_rfl) (fun _ _ _ h => h) (by rfl) ?y13 (by assumption) ?_
        case y13 => ((intro w hSw); (try dsimp only at hSw); go_simp <;> (with_reducible rfl))
        try simp only [Act.put, List.setIfInBounds_toArray, List.set_cons_zero, List.set_cons_succ]
        refine held_take 14 (some 69) (v := ?v14) rfl rfl (by kernel_rfl) (by kernel_rfl) (by kernel_rfl) (fun _ _ _ h => h) (by rfl) ?y14 (by assumption) ?_
        case y14 => ((intro w hSw); (try dsimp only at hSw); go_simp <;> (with_reducible rfl))
        try simp only [Act.put, List.setIfInBounds_toArray, List.set_cons_zero, List.set_cons_succ]
        refine held_take 15 (some 70) (v := ?v15) rfl rfl (by kernel_rfl) (by kernel_rfl) (by kernel_rfl) (fun _ _ _ h => h) (by rfl) ?y15 (by assumption) ?_
        case y15 => ((intro w hSw); (try dsimp only at hSw); go_simp <;> (with_reducible rfl))
        try simp only [Act.put, List.setIfInBounds_toArray, List.set_cons_zero, List.set_cons_succ]
        refine held_take 16 (some 71) (v := ?v16) rfl rfl (by kernel_rfl) (by kernel_rfl) (by kernel_rfl) (fun _ _ _ h => h) (by rfl) ?y16 (by assumption) ?_
        case y16 => ((intro w hSw); (try dsimp only at hSw); go_simp <;> (with_reducible rfl))
        try simp only [Act.put, List.setIfInBounds_toArray, List.set_cons_zero, List.set_cons_succ]
        refine held_take 17 (some 72) (v := ?v17) rfl rfl (by kernel_rfl) (by kernel_rfl) (by kernel_rfl) (fun _ _ _ h => h) (by rfl) ?y17 (by assumption) ?_
        case y17 => ((intro w hSw); (try dsimp only at hSw); go_simp <;> (with_reducible rfl))
        try simp only [Act.put, List.setIfInBounds_toArray, List.set_cons_zero, List.set_cons_succ]
        refine held_take 18 (some 73) (v := ?v18) rfl rfl (by kernel_rfl) (by kernel_rfl) (by kernel_rfl) (fun _ _ _ h => h) (by rfl) ?y18 (by assumption) ?_
        case y18 => ((intro w hSw); (try dsimp only at hSw); go_simp <;> (with_reducible rfl))
        try simp only [Act.put, List.setIfInBounds_toArray, List.set_cons_zero, List.set_cons_succ]
        refine held_take 19 (some 74) (v := ?v19) rfl rfl (by kernel_rfl) (by kernel_rfl) (by kernel_rfl) (fun _ _ _ h => h) (by rfl) ?y19 (by assumption) ?_
        case y19 => ((intro w hSw); (try dsimp only at hSw); go_simp <;> (with_reducible rfl))
        try simp only [Act.put, List.setIfInBounds_toArray, List.set_cons_zero, List.set_cons_succ]
        refine held_take 20 (some 75) (v := ?v20) rfl rfl (by kernel_rfl) (by kernel_rfl) (by kernel_rfl) (fun _ _ _ h => h) (by rfl) ?y20 (by assumption) ?_
        case y20 => ((intro w hSw); (try dsimp only at hSw); go_simp <;> (with_reducible rfl))
        try simp only [Act.put, List.setIfInBounds_toArray, List.set_cons_zero, List.set_cons_succ]
        refine held_take 21 (some 76) (v := ?v21) rfl rfl (by kernel_rfl) (by kernel_rfl) (by kernel_rfl) (fun _ _ _ h => h) (by rfl) ?y21 (by assumption) ?_
        case y21 => ((intro w hSw); (try dsimp only at hSw); go_simp <;> (with_reducible rfl))
        try simp only [Act.put, List.setIfInBounds_toArray, List.set_cons_zero, List.set_cons_succ]
        refine held_take 22 (some 77) (v := ?v22) rfl rfl (by kernel_rfl) (by kernel_rfl) (by kernel_rfl) (fun _ _ _ h => h) (by rfl) ?y22 (by assumption) ?_
        case y22 => ((intro w hSw); (try dsimp only at hSw); go_simp <;> (with_reducible rfl))
        try simp only [Act.put, List.setIfInBounds_toArray, List.set_cons_zero, List.set_cons_succ]
        refine held_take 24 (some 79) (v := ?v24) rfl rfl (by kernel_rfl) (by kernel_rfl) (by kernel_rfl) (fun _ _ _ h => h) (by rfl) ?y24 (by assumption) ?_
        case y24 => ((intro w hSw); (try dsimp only at hSw); go_simp <;> (with_reducible rfl))
        try simp only [Act.put, List.setIfInBounds_toArray, List.set_cons_zero, List.set_cons_succ]
        refine wpAnyH_ready (rs := [23]) (by kernel_rfl) (by simp) ?_
        refine AllReadyH.cons rfl (fun K hK => ?_) AllReadyH.nil
        go_simp
        (go_at_call 17; refine (C1.out _ (HH6.out.below HD.out).tab).mono ?_; rintro e w8 ⟨rfl, hb⟩; have HD8 := Aside0.mk (HD.out.trans (hb.mono HD.out.size)); have HX8 := Aside0.mk (blk_below HX6.out HD8.out); have HH8 := Aside0.mk (HH6.out.below HD8.out); have K1 : w8.cell? ⟨H, 0, none⟩ = some (.pointer P) ∧ w8.cell? ⟨bx, 0, none⟩ = some (.int .u32 p.f0) ∧ w8.cell? ⟨bx, 1, none⟩ = some (.int .u32 p.f1) := ⟨blk_cell HH8.out.blk 0, blk_cell HX8.out 0, blk_cell HX8.out 1⟩; clear hb)
        refine hK.out _ _ ?hS24 (fun hHeld => ?_)
        case hS24 => (first | assumption | go_keep)
        clear hK K
        try simp only [Act.put, List.setIfInBounds_toArray, List.set_cons_zero, List.set_cons_succ]
        refine held_take 25 (some 80) (v := ?v25) rfl rfl (by kernel_rfl) (by kernel_rfl) (by kernel_rfl) (fun _ _ _ h => h) (by rfl) ?y25 (by assumption) ?_
        case y25 => ((intro w hSw); (try dsimp only at hSw); go_simp <;> (with_reducible rfl))
        try simp only [Act.put, List.setIfInBounds_toArray, List.set_cons_zero, List.set_cons_succ]
        refine held_take 26 (some 81) (v := ?v26) rfl rfl (by kernel_rfl) (by kernel_rfl) (by kernel_rfl) (fun _ _ _ h => h) (by rfl) ?y26 (by assumption) ?_
        case y26 => ((intro w hSw); (try dsimp only at hSw); go_simp <;> (with_reducible rfl))
        try simp only [Act.put, List.setIfInBounds_toArray, List.set_cons_zero, List.set_cons_succ]
        refine held_take 27 (some 82) (v := ?v27) rfl rfl (by kernel_rfl) (by kernel_rfl) (by kernel_rfl) (fun _ _ _ h => h) (by rfl) ?y27 (by assumption) ?_
        case y27 => ((intro w hSw); (try dsimp only at hSw); go_simp <;> (with_reducible rfl))
        try simp only [Act.put, List.setIfInBounds_toArray, List.set_cons_zero, List.set_cons_succ]
        refine held_take 28 (some 83) (v := ?v28) rfl rfl (by kernel_rfl) (by kernel_rfl) (by kernel_rfl) (fun _ _ _ h => h) (by rfl) ?y28 (by assumption) ?_
        case y28 => ((intro w hSw); (try dsimp only at hSw); go_simp <;> (with_reducible rfl))
        try simp only [Act.put, List.setIfInBounds_toArray, List.set_cons_zero, List.set_cons_succ]
        refine held_take 29 (some 84) (v := ?v29) rfl rfl (by kernel_rfl) (by kernel_rfl) (by kernel_rfl) (fun _ _ _ h => h) (by rfl) ?y29 (by assumption) ?_
        case y29 => ((intro w hSw); (try dsimp only at hSw); go_simp <;> (with_reducible rfl))
        try simp only [Act.put, List.setIfInBounds_toArray, List.set_cons_zero, List.set_cons_succ]
        refine held_take 30 (some 85) (v := ?v30) rfl rfl (by kernel_rfl) (by kernel_rfl) (by kernel_rfl) (fun _ _ _ h => h) (by rfl) ?y30 (by assumption) ?_
        case y30 => ((intro w hSw); (try dsimp only at hSw); go_simp <;> (with_reducible rfl))
        try simp only [Act.put, List.setIfInBounds_toArray, List.set_cons_zero, List.set_cons_succ]
        refine held_take 31 (some 86) (v := ?v31) rfl rfl (by kernel_rfl) (by kernel_rfl) (by kernel_rfl) (fun _ _ _ h => h) (by rfl) ?y31 (by assumption) ?_
        case y31 => ((intro w hSw); (try dsimp only at hSw); go_simp <;> (with_reducible rfl))
        try simp only [Act.put, List.setIfInBounds_toArray, List.set_cons_zero, List.set_cons_succ]
        refine held_take 32 (some 87) (v := ?v32) rfl rfl (by kernel_rfl) (by kernel_rfl) (by kernel_rfl) (fun _ _ _ h => h) (by rfl) ?y32 (by assumption) ?_
        case y32 => ((intro w hSw); (try dsimp only at hSw); go_simp <;> (with_reducible rfl))
        try simp only [Act.put, List.setIfInBounds_toArray, List.set_cons_zero, List.set_cons_succ]
        refine held_take 33 (some 88) (v := ?v33) rfl rfl (by kernel_rfl) (by kernel_rfl) (by kernel_rfl) (fun _ _ _ h => h) (by rfl) ?y33 (by assumption) ?_
        case y33 => ((intro w hSw); (try dsimp only at hSw); go_simp <;> (with_reducible rfl))
        try simp only [Act.put, List.setIfInBounds_toArray, List.set_cons_zero, List.set_cons_succ]
        refine held_take 35 (some 90) (v := ?v35) rfl rfl (by kernel_rfl) (by kernel_rfl) (by kernel_rfl) (fun _ _ _ h => h) (by rfl) ?y35 (by assumption) ?_
        case y35 => ((intro w hSw); (try dsimp only at hSw); go_simp <;> (with_reducible rfl))
        try simp only [Act.put, List.setIfInBounds_toArray, List.set_cons_zero, List.set_cons_succ]
        refine wpAnyH_ready (rs := [34]) (by kernel_rfl) (by simp) ?_
        refine AllReadyH.cons rfl (fun K hK => ?_) AllReadyH.nil
        go_simp
        (go_at_call 17; refine (C2.out _ HH8.out.tab).mono ?_; rintro e w9 ⟨rfl, hb⟩; have HD9 := Aside0.mk (HD8.out.trans (hb.mono HD8.out.size)); have HX9 := Aside0.mk (blk_below HX6.out HD9.out); have HH9 := Aside0.mk (HH6.out.below HD9.out); have HN9 := Aside0.mk (HN6.out.trans (HD9.out.mono HN6.out.size)); have K3 : w9.cell? ⟨H, 0, none⟩ = some (.pointer P) ∧ w9.cell? ⟨bx, 0, none⟩ = some (.int .u32 p.f0) ∧ w9.cell? ⟨bx, 1, none⟩ = some (.int .u32 p.f1) := ⟨blk_cell HH9.out.blk 0, blk_cell HX9.out 0, blk_cell HX9.out 1⟩; clear hb)
        refine hK.out _ _ ?hS35 (fun hHeld => ?_)
        case hS35 => (first | assumption | go_keep)
        clear hK K
        try simp only [Act.put, List.setIfInBounds_toArray, List.set_cons_zero, List.set_cons_succ]
        refine held_take 36 (some 91) (v := ?v36) rfl rfl (by kernel_rfl) (by kernel_rfl) (by kernel_rfl) (fun _ _ _ h => h) (by rfl) ?y36 (by assumption) ?_
        case y36 => ((intro w hSw); (try dsimp only at hSw); go_simp <;> (with_reducible rfl))
        try simp only [Act.put, List.setIfInBounds_toArray, List.set_cons_zero, List.set_cons_succ]
        refine held_take 37 (some 92) (v := ?v37) rfl rfl (by kernel_rfl) (by kernel_rfl) (by kernel_rfl) (fun _ _ _ h => h) (by rfl) ?y37 (by assumption) ?_
        case y37 => ((intro w hSw); (try dsimp only at hSw); go_simp <;> (with_reducible rfl))
        try simp only [Act.put, List.setIfInBounds_toArray, List.set_cons_zero, List.set_cons_succ]
        refine wpAnyH_done (by kernel_rfl) ?_ _
        clear hc HD K1 K3
        have x1 := blk_cell HX9.out 1
        go_wp2_with fail
        go_roundw
        case rel => exact ⟨i + 1, by rw [← HP6.out], by first | go_num | rw [hwi], by omega, HN9⟩
        case measure => (try rw [hwi]); simp only [intOf]; omega
      · have h2' : ¬ (i : Int) < (ns : Int) := by omega
        have h2d : decide ((i : Int) < (ns : Int)) = false := decide_eq_false h2'
        have h2e : decide (i < ns) = false := decide_eq_false h2
        obtain rfl : i = ns := by omega
        rw [HAE.out]
        go_wp2_with fail
        refine cl.mono ?_
        rintro e w5 ⟨rfl, rfl⟩
        clear cl
        have cr := CRG.out _ HHi.out.tab
        go_wp2_with fail
        refine cr.mono ?_
        rintro e w6 ⟨⟨v6, rfl, hR⟩, hb⟩
        obtain ⟨A6, c6, rfl, hc6, hC6⟩ := Kd.R_reads hR
        have HH6 := Aside0.mk (HHi.out.below hb)
        have HN6 := Aside0.mk (HN.out.trans (hb.mono HN.out.size))
        have HC6 := Aside0.mk hC6
        clear cr hb hR hC6 hc6 d0 h2 h2' h2d h2e hi HHi
        go_wp2_with fail
        have HW0 := Aside0.mk (Below.refl w6.heap.size w6)
        go_loopw [10] (fun s10 wr => ∃ (k : Nat), s10 = .int .i64 k ∧ k ≤ RR.length ∧ Aside0 (Below w6.heap.size w6 wr)) (fun s10 _ => RR.length - (intOf s10).toNat)
        case atStart => exact ⟨0, rfl, Nat.zero_le _, HW0⟩
        case round =>
          clear HW0
          obtain ⟨k, rfl, hk, HN7⟩ := hrel
          have hrl := HRL.out
          by_cases h3 : k < RR.length
          · have h3' : (k : Int) < (RR.length : Int) := by omega
            have hwk := wr1 k (by omega)
            obtain ⟨ad, rfl, a0, a1⟩ := at_T30 (Kd.C_below HC6.out HN7.out) k (by omega) (by omega)
            have HRD := Aside0.mk (fun W (hW : Below w6.heap.size w6 W) => at_T30 (Kd.C_below HC6.out hW) k (by omega) (by omega))
            simp only [Int.toNat_natCast] at a0 a1 HRD
            have HQ := Aside0.mk (HRM.out (rd_T30 RR (k : Int)) (by unfold rd_T30; rw [Int.toNat_natCast, List.getD_eq_getElem?_getD, List.getElem?_eq_getElem h3]; exact List.getElem_mem h3))
            generalize rd_T30 RR (k : Int) = q at *
            have HRD2 := Aside0.mk (show ∀ W, Below w6.heap.size w6 W → W.cell? (ad.add (k * 2)) = some (.int .u32 q.f0) ∧ W.cell? ⟨(ad.add (k * 2)).block, (ad.add (k * 2)).off + 1, none⟩ = some (.int .u32 q.f1) from fun W hW => by
              obtain ⟨ad2, e2, q1, q2⟩ := HRD.out W hW
              cases e2
              exact ⟨q1, q2⟩)
            obtain ⟨z0, z1, z2, z3, z4⟩ := HQ.out
            have HH7 := Aside0.mk (HH6.out.below HN7.out)
            obtain ⟨⟨pa, m1, m2⟩, pb, m3, m4⟩ := HMD.out q z1
            have CW1 := Aside0.mk (CW.out q.f0 q.f1 z2 (by omega) (by omega) z4 wr.drew (HH7.out.below (below_drew (Below.refl wr.heap.size wr))).tab)
            rw [z0, if_pos rfl] at CW1
            have CA1 := Aside0.mk (fun W hW => CAT.out (ofA q.f0 M : Nat) W hW)
            have CA2 := Aside0.mk (fun W hW => CAT.out (ofA q.f1 M : Nat) W hW)
            rw [m1] at CA1
            rw [m3] at CA2
            simp only [] at CA1 CA2
            have HO0 := Aside0.mk (HOL.out q.f0)
            have HO1 := Aside0.mk (HOL.out q.f1)
            generalize ofA q.f0 M = o0 at *
            generalize ofA q.f1 M = o1 at *
            have HE := Aside0.mk (show pa.f0 = q.f0 ∧ pb.f1 = q.f1 from ⟨m2, m4⟩)
            have ho1 := HO1.out
            have hwo : wrap64 (((o1 + 1 : Nat) : Int) - 1) = (o1 : Int) := by unfold wrap64; omega
            have hwo2 : wrap64 ((o1 : Int) + 1 - 1) = (o1 : Int) := by unfold wrap64; omega
            clear z0 z1 z2 z3 z4 m1 m2 m3 m4 HQ
            go_wp2_with fail
            have hc : wr.cell? ⟨H, 0, none⟩ = some (.pointer P) ∧ wr.cell? (ad.add (k * 2)) = some (.int .u32 q.f0) ∧ wr.cell? ⟨(ad.add (k * 2)).block, (ad.add (k * 2)).off + 1, none⟩ = some (.int .u32 q.f1) := ⟨blk_cell HH7.out.blk 0, a0, a1⟩
            have HD := Aside0.mk (below_drew (Below.refl wr.heap.size wr))
            clear a0 a1
            go_region_held3 (fun w' => w'.cell? ⟨H, 0, none⟩ = some (.pointer P) ∧ w'.cell? (ad.add (k * 2)) = some (.int .u32 q.f0) ∧ w'.cell? ⟨(ad.add (k * 2)).block, (ad.add (k * 2)).off + 1, none⟩ = some (.int .u32 q.f1)) (first | assumption | go_keep) (first
              | (go_at_call 19; refine CW1.out.mono ?_; rintro e w8 ⟨rfl, hb⟩; have HNN := Aside0.mk (HD.out.trans (hb.mono HD.out.size)); have HH8 := Aside0.mk (HH7.out.below HNN.out); have HN8 := Aside0.mk (HN7.out.trans (HNN.out.mono HN7.out.size)); have K1 : w8.cell? ⟨H, 0, none⟩ = some (.pointer P) ∧ w8.cell? (ad.add (k * 2)) = some (.int .u32 q.f0) ∧ w8.cell? ⟨(ad.add (k * 2)).block, (ad.add (k * 2)).off + 1, none⟩ = some (.int .u32 q.f1) := ⟨blk_cell HH8.out.blk 0, HRD2.out w8 HN8.out⟩; clear hb))
            clear hc HD CW1 K1 HNN
            have d0 := blk_cell HH8.out.blk 0
            go_wp2_with fail
            refine (CA1.out w8 HH8.out.tab).mono ?_
            rintro e w9 ⟨rfl, hb⟩
            have hb2 := hb.alloc hb.size (.cells #[.int .u32 pa.f0, .int .u32 pa.f1] 30)
            have HN9 := Aside0.mk (HN8.out.trans (hb2.mono HN8.out.size))
            have HH9 := Aside0.mk (HH8.out.below hb2)
            have HX9 := Aside0.mk (blk_new w9 (.cells #[.int .u32 pa.f0, .int .u32 pa.f1] 30))
            clear hb hb2 d0
            dsimp only
            repeat ((fail_if_success (show Code.wp _ (Code.seq (Code.region 20 _ _) _) _ _ _)); (first | go_values | go_skip | go_guarded | go_step | go_upon | go_back))
            generalize (w9.alloc (.cells #[.int .u32 pa.f0, .int .u32 pa.f1] 30)) = w10 at *
            generalize w9.heap.size = bx at *
            have d0 := blk_cell HH9.out.blk 0
            go_wp2_with fail
            (try rw [hwo])
            (try rw [hwo2])
            refine (CA2.out w10 HH9.out.tab).mono ?_
            rintro e w11 ⟨rfl, hb⟩
            have hb2 := hb.alloc hb.size (.cells #[.int .u32 pb.f0, .int .u32 pb.f1] 30)
            have HN11 := Aside0.mk (HN9.out.trans (hb2.mono HN9.out.size))
            have HX11 := Aside0.mk (blk_below HX9.out hb2)
            have HY11 := Aside0.mk (blk_new w11 (.cells #[.int .u32 pb.f0, .int .u32 pb.f1] 30))
            clear hb hb2 d0
            dsimp only
            repeat ((fail_if_success (show Code.wp _ (Code.seq (Code.region 21 _ _) _) _ _ _)); (first | go_values | go_skip | go_guarded | go_step | go_upon | go_back))
            generalize (w11.alloc (.cells #[.int .u32 pb.f0, .int .u32 pb.f1] 30)) = w12 at *
            generalize w11.heap.size = by_ at *
            have x0 := blk_cell HX11.out 0
            have y1 := blk_cell HY11.out 1
            obtain ⟨b0, b1⟩ := HRD2.out w12 HN11.out
            have he1 := HE.out.1
            have he2 := HE.out.2
            rw [he1] at x0
            rw [he2] at y1
            clear he1 he2
            go_wp2_with fail
            go_quiet (fail)
            go_wp2_with fail
            go_roundw
            case rel => exact ⟨k + 1, by first | go_num | rw [hwk], by omega, ⟨below_drewN HN11.out _⟩⟩
            case measure => (try rw [hwk]); simp only [intOf]; omega
          · have h3' : ¬ (k : Int) < (RR.length : Int) := by omega
            go_wp2_with fail
            refine (alive_any _).mono ?_
            rintro e w7 ⟨rfl, hb⟩
            have HBz := Aside0.mk (HB.out.trans ((HN6.out.trans ((HN7.out.trans (hb.mono HN7.out.size)).mono HN6.out.size)).mono HB.out.size))
            clear hb
            go_wp2_with fail
            go_ret
            exact ⟨rfl, HBz.out⟩
end Go.Proofs.Ytjfbiabgeickjaa.H
