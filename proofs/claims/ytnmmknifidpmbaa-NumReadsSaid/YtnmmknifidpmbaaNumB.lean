import Derived.Test.YtnmmknifidpmbaaNumB2
import Derived.Deep.CutRange
namespace Go.Proofs.Ytnmmknifidpmbaa.H
open Go.RowKit Go.Proofs.Ytnmmknifidpmbaa.P Go.Proofs.YtnmmknifidpmbaaW.PrintWords Go.Proofs.YtnmmknifidpmbaaW.PrintLast Go.Proofs.YtnmmknifidpmbaaW.PrintMore
set_option linter.unusedVariables false
set_option linter.unusedSimpArgs false

def ActOk (x : S26) : Prop := 0 ≤ x.f2 ∧ x.f2 < 18446744073709551616
theorem rd_take (l : List S26) (i n : Nat) (h : i < n) : rd_T26 (l.take n) i = rd_T26 l i := by
  unfold rd_T26
  rw [Int.toNat_natCast, List.getD_eq_getElem?_getD, List.getD_eq_getElem?_getD, List.getElem?_take_of_lt h]

set_option maxHeartbeats 2000000 in
set_option maxRecDepth 20000 in
theorem numBack_walk (A c : _) (l : List S26) (B d : _) (b : List Int) (w : World) (hr : Kd.C k26 w A l.length l) (hc : l.length ≤ c) (hI : ∀ x ∈ l, ActOk x)
    (hrb : Kd.C (Kd.int .u8) w B b.length b) (hcb : b.length ≤ d) (hb : bytes b) :
    Calls Try.prog 5 #[.slice A l.length c, .slice B b.length d] w fun e w' => e = .returned (.bool true) ∧ Below w.heap.size w w' := by
  have HI := Aside0.mk hI
  have HBB := Aside0.mk hb
  have HR := Aside0.mk hr
  have HRB := Aside0.mk hrb
  have hm : ∃ m : Nat, m ≤ 60 ∧ m ≤ l.length ∧ (m < l.length → m = 60) := ⟨min l.length 60, by omega, by omega, by omega⟩
  obtain ⟨m, hm1, hm2, hm3⟩ := hm
  clear hI hb hr hrb
  go_enter Try.func5, Try.ntmps5
  go_upto_region 1 with fail
  repeat ((fail_if_success (show Code.wp _ (Code.seq (Code.region 2 _ _) _) _ _ _)); (first | go_values | go_skip | go_guarded | go_step | go_upon | go_back))
  go_cut [5, 6] from 8 (fun v u w' => ∃ (X : Option Addr) (cx : Nat) (L : List Int), v = .slice X L.length cx ∧ L.length ≤ cx ∧ L.length ≤ 418 * 60 ∧ Aside0 (Kd.C (Kd.int .u8) w' X L.length L) ∧ Aside0 (Below w.heap.size w w') ∧ Aside0 (L = ser (l.take m)))
  case first =>
    go_wp2
    go_loopw [5, 6] (fun v u wr => ∃ (i : Nat) (X : Option Addr) (cx : Nat) (L : List Int), v = .slice X L.length cx ∧ u = .int .i64 i ∧ i ≤ m ∧ L.length ≤ cx ∧ Aside0 (Kd.C (Kd.int .u8) wr X L.length L) ∧ Aside0 (Below w.heap.size w wr) ∧ Aside0 (L = ser (l.take i))) (fun _ u _ => 100 - (intOf u).toNat)
    case atStart => exact ⟨0, none, 0, [], rfl, rfl, by omega, Nat.le_refl _, ⟨Kd.C_nil _ _⟩, ⟨Below.refl _ _⟩, ⟨rfl⟩⟩
    case round =>
      obtain ⟨i, X, cx, L, rfl, rfl, hi, hcx, HX, HB, HL⟩ := hrel
      by_cases him : i < m
      · have h60 : decide ((i : Int) < 60) = true := by simp; omega
        have hil : decide ((i : Int) < l.length) = true := by simp; omega
        obtain ⟨ad, rfl, a0, a1, a2, a3, a4⟩ := at_T26 (Kd.C_below HR.out HB.out) i (by omega) (by omega)
        simp only [Int.toNat_natCast] at a0 a1 a2 a3 a4
        have hok : ActOk (rd_T26 l i) := HI.out _ (by
          unfold rd_T26
          rw [Int.toNat_natCast, List.getD_eq_getElem?_getD, List.getElem?_eq_getElem (by omega)]
          exact List.getElem_mem _)
        have HS := Aside0.mk (take_snoc l i (by omega))
        generalize hx : rd_T26 l i = x at *
        by_cases h4 : x.f4.size ≤ 400
        · have hd4 : decide ((x.f4.size : Int) ≤ 400) = true := by simp; omega
          have hll : L.length ≤ 418 * 60 := by
            have := ser_len (l.take i) fun y hy => (HI.out y (List.mem_of_mem_take hy)).2
            rw [← HL.out, List.length_take] at this
            omega
          have HP := Aside0.mk (fun w A c h h' => put_any A c L x.f2 w h h' hok.1 hok.2 (by omega))
          have hpl := put_length x.f2.toNat (by have := hok.1; have := hok.2; omega)
          have HT := Aside0.mk (fun w A c h h' => text_put A c (L ++ put x.f2.toNat) x.f4 w h h' (by rw [List.length_append]; omega))
          have HM : Aside0 (∃ M, L ++ put x.f2.toNat = M) := ⟨⟨_, rfl⟩⟩
          obtain ⟨M, hM⟩ := HM.out
          rw [hM] at HP HT
          have HN : Aside0 (∃ N, M ++ put x.f4.size ++ bytesOf x.f4 = N) := ⟨⟨_, rfl⟩⟩
          obtain ⟨N, hN⟩ := HN.out
          rw [hN] at HT
          have HE : Aside0 (N = ser (l.take (i + 1))) := ⟨by
            rw [HS.out, ser_snoc, ← HL.out, ← hN, ← hM]
            unfold enc1
            rw [if_pos h4, List.append_assoc, List.append_assoc, List.append_assoc, ← List.append_assoc (put _)]⟩
          clear hok hM hpl hN
          go_wp2_with fail
          refine wp_region_held_drew (S := (fun w' => w'.cell? ⟨(ad.add (i * 5)).block, (ad.add (i * 5)).off + 2, none⟩ = some (.int .u64 x.f2) ∧ w'.cell? ⟨(ad.add (i * 5)).block, (ad.add (i * 5)).off + 4, none⟩ = some (.string x.f4))) (by kernel_rfl) ?hS0 (fun hHeld => ?_)
          case hS0 => first | exact K2 | exact K1 | exact ⟨a2, a4⟩
          refine held_take 0 (some 35) (v := ?v0) rfl rfl (by kernel_rfl) (by kernel_rfl) (by kernel_rfl) (fun _ _ _ h => h) (by rfl) ?y0 (by assumption) ?_
          case y0 => ((intro w hSw); (try dsimp only at hSw); go_simp <;> (with_reducible rfl))
          try simp only [Act.put, List.setIfInBounds_toArray, List.set_cons_zero, List.set_cons_succ]
          refine held_take 1 (some 36) (v := ?v1) rfl rfl (by kernel_rfl) (by kernel_rfl) (by kernel_rfl) (fun _ _ _ h => h) (by rfl) ?y1 (by assumption) ?_
          case y1 => ((intro w hSw); (try dsimp only at hSw); go_simp <;> (with_reducible rfl))
          try simp only [Act.put, List.setIfInBounds_toArray, List.set_cons_zero, List.set_cons_succ]
          refine held_take 2 (some 37) (v := ?v2) rfl rfl (by kernel_rfl) (by kernel_rfl) (by kernel_rfl) (fun _ _ _ h => h) (by rfl) ?y2 (by assumption) ?_
          case y2 => ((intro w hSw); (try dsimp only at hSw); go_simp <;> (with_reducible rfl))
          try simp only [Act.put, List.setIfInBounds_toArray, List.set_cons_zero, List.set_cons_succ]
          refine held_take 3 (some 38) (v := ?v3) rfl rfl (by kernel_rfl) (by kernel_rfl) (by kernel_rfl) (fun _ _ _ h => h) (by rfl) ?y3 (by assumption) ?_
          case y3 => ((intro w hSw); (try dsimp only at hSw); go_simp <;> (with_reducible rfl))
          try simp only [Act.put, List.setIfInBounds_toArray, List.set_cons_zero, List.set_cons_succ]
          refine held_take 4 (some 39) (v := ?v4) rfl rfl (by kernel_rfl) (by kernel_rfl) (by kernel_rfl) (fun _ _ _ h => h) (by rfl) ?y4 (by assumption) ?_
          case y4 => ((intro w hSw); (try dsimp only at hSw); go_simp <;> (with_reducible rfl))
          try simp only [Act.put, List.setIfInBounds_toArray, List.set_cons_zero, List.set_cons_succ]
          refine held_take 5 (some 40) (v := ?v5) rfl rfl (by kernel_rfl) (by kernel_rfl) (by kernel_rfl) (fun _ _ _ h => h) (by rfl) ?y5 (by assumption) ?_
          case y5 => ((intro w hSw); (try dsimp only at hSw); go_simp <;> (with_reducible rfl))
          try simp only [Act.put, List.setIfInBounds_toArray, List.set_cons_zero, List.set_cons_succ]
          refine held_take 7 (some 42) (v := ?v7) rfl rfl (by kernel_rfl) (by kernel_rfl) (by kernel_rfl) (fun _ _ _ h => h) (by rfl) ?y7 (by assumption) ?_
          case y7 => ((intro w hSw); (try dsimp only at hSw); go_simp <;> (with_reducible rfl))
          try simp only [Act.put, List.setIfInBounds_toArray, List.set_cons_zero, List.set_cons_succ]
          refine held_take 8 (some 43) (v := ?v8) rfl rfl (by kernel_rfl) (by kernel_rfl) (by kernel_rfl) (fun _ _ _ h => h) (by rfl) ?y8 (by assumption) ?_
          case y8 => ((intro w hSw); (try dsimp only at hSw); go_simp <;> (with_reducible rfl))
          try simp only [Act.put, List.setIfInBounds_toArray, List.set_cons_zero, List.set_cons_succ]
          refine held_take 9 (some 44) (v := ?v9) rfl rfl (by kernel_rfl) (by kernel_rfl) (by kernel_rfl) (fun _ _ _ h => h) (by rfl) ?y9 (by assumption) ?_
          case y9 => ((intro w hSw); (try dsimp only at hSw); go_simp <;> (with_reducible rfl))
          try simp only [Act.put, List.setIfInBounds_toArray, List.set_cons_zero, List.set_cons_succ]
          refine held_take 10 (some 45) (v := ?v10) rfl rfl (by kernel_rfl) (by kernel_rfl) (by kernel_rfl) (fun _ _ _ h => h) (by rfl) ?y10 (by assumption) ?_
          case y10 => ((intro w hSw); (try dsimp only at hSw); go_simp <;> (with_reducible rfl))
          try simp only [Act.put, List.setIfInBounds_toArray, List.set_cons_zero, List.set_cons_succ]
          refine held_take 11 (some 46) (v := ?v11) rfl rfl (by kernel_rfl) (by kernel_rfl) (by kernel_rfl) (fun _ _ _ h => h) (by rfl) ?y11 (by assumption) ?_
          case y11 => ((intro w hSw); (try dsimp only at hSw); go_simp <;> (with_reducible rfl))
          try simp only [Act.put, List.setIfInBounds_toArray, List.set_cons_zero, List.set_cons_succ]
          refine wpAnyH_ready (rs := [6]) (by kernel_rfl) (by simp) ?_
          refine AllReadyH.cons rfl (fun K hK => ?_) AllReadyH.nil
          go_simp
          refine (HP.out _ X cx (Kd.C_below HX.out (Below.refl _ _).drew) hcx).mono ?_
          rintro e w1 ⟨⟨A1, c1, rfl, hc1, ho1⟩, hb1⟩
          have HC1 := Aside0.mk (OwnBytes.C ho1)
          have K1 := And.intro (pw_cell_below hb1 a2) (pw_cell_below hb1 a4)
          have HB1 := Aside0.mk (HB.out.drew.trans (hb1.mono HB.out.size))
          clear ho1 hb1
          refine hK.out _ _ ?hS7 (fun hHeld => ?_)
          case hS7 => first | exact K2 | exact K1 | exact ⟨a2, a4⟩
          clear hK K
          try simp only [Act.put, List.setIfInBounds_toArray, List.set_cons_zero, List.set_cons_succ]
          refine wpAnyH_ready (rs := [12]) (by kernel_rfl) (by simp) ?_
          refine AllReadyH.cons rfl (fun K hK => ?_) AllReadyH.nil
          go_simp
          refine (HT.out _ A1 c1 HC1.out hc1).mono ?_
          rintro e w2 ⟨⟨A2, c2, rfl, hc2, ho2⟩, hb2⟩
          have HC2 := Aside0.mk (OwnBytes.C ho2)
          have K2 := And.intro (pw_cell_below hb2 K1.1) (pw_cell_below hb2 K1.2)
          have HB2 := Aside0.mk (HB1.out.trans (hb2.mono HB1.out.size))
          clear ho2 hb2
          refine hK.out _ _ ?hS13 (fun hHeld => ?_)
          case hS13 => first | exact K2 | exact K1 | exact ⟨a2, a4⟩
          clear hK K
          try simp only [Act.put, List.setIfInBounds_toArray, List.set_cons_zero, List.set_cons_succ]
          refine held_take 13 (some 5) (v := ?v13) rfl rfl (by kernel_rfl) (by kernel_rfl) (by kernel_rfl) (fun _ _ _ h => h) (by rfl) ?y13 (by assumption) ?_
          case y13 => ((intro w hSw); (try dsimp only at hSw); go_simp <;> (with_reducible rfl))
          try simp only [Act.put, List.setIfInBounds_toArray, List.set_cons_zero, List.set_cons_succ]
          refine wpAnyH_done (by kernel_rfl) ?_ _
          go_wp2
          go_roundw
          case rel => exact ⟨i + 1, A2, c2, N, rfl, by go_num, by omega, hc2, HC2, HB2, HE⟩
          case measure => simp [intOf]; omega
        · have hd4 : decide ((x.f4.size : Int) ≤ 400) = false := by simp; omega
          have HE : Aside0 (L = ser (l.take (i + 1))) := ⟨by
            rw [HS.out, ser_snoc, ← HL.out]
            unfold enc1
            rw [if_neg h4, List.append_nil]⟩
          go_wp2
          go_roundw
          case rel => exact ⟨i + 1, X, cx, L, rfl, by go_num, by omega, hcx, HX, HB, HE⟩
          case measure => simp [intOf]; omega
      · have hh : (decide ((i : Int) < l.length) && decide ((i : Int) < 60)) = false := by
          by_cases h : m = 60
          · have : ¬ ((i : Int) < 60) := by omega
            simp [this]
          · have : ¬ ((i : Int) < l.length) := by omega
            simp [this]
        obtain rfl : i = m := by omega
        have hll : L.length ≤ 418 * 60 := by
          have := ser_len (l.take i) fun y hy => (HI.out y (List.mem_of_mem_take hy)).2
          rw [← HL.out, List.length_take] at this
          omega
        by_cases hil : i < l.length
        · have h1 : decide ((i : Int) < l.length) = true := by simp; omega
          have h2 : decide ((i : Int) < 60) = false := by simp; omega
          go_wp2
          go_meet
          case rel => exact ⟨X, cx, L, rfl, hcx, hll, HX, HB, HL⟩
        · have h1 : decide ((i : Int) < l.length) = false := by simp; omega
          go_wp2
          go_meet
          case rel => exact ⟨X, cx, L, rfl, hcx, hll, HX, HB, HL⟩
  case rest =>
    obtain ⟨X, cx, L, rfl, hcx, hll, HX, HB, HL⟩ := hcut
    go_wp2_with fail
    refine (open_any X cx L _ HX.out hcx (by omega)).mono ?_
    rintro e w3 ⟨g, rfl, hrd, hg1, hg2, hb3⟩
    have HRD := Aside0.mk hrd
    have HG := Aside0.mk (show w.heap.size ≤ g from Nat.le_trans HB.out.size hg1)
    have HB3 := Aside0.mk (HB.out.trans (hb3.mono HB.out.size))
    clear hrd hg1 hg2 hb3
    dsimp only
    repeat ((fail_if_success (show Code.wp _ (Code.seq (Code.region 8 _ _) _) _ _ _)); (first | go_values | go_skip | go_guarded | go_step | go_upon | go_back))
    go_cut [8] from 9 (fun _ w' => Aside0 (RD w' g []) ∧ Aside0 (Below w.heap.size w w'))
    case first =>
      go_wp2
      go_loopw [8] (fun u wr => ∃ (i : Nat), u = .int .i64 i ∧ i ≤ m ∧ Aside0 (RD wr g (ser ((l.take m).drop i))) ∧ Aside0 (Below w.heap.size w wr)) (fun u _ => 100 - (intOf u).toNat)
      case atStart => exact ⟨0, rfl, by omega, ⟨by rw [List.drop_zero, ← HL.out]; exact HRD.out⟩, HB3⟩
      case round =>
        obtain ⟨i, rfl, hi, HRi, HBi⟩ := hrel
        by_cases him : i < m
        · have h60 : decide ((i : Int) < 60) = true := by simp; omega
          have hil : decide ((i : Int) < l.length) = true := by simp; omega
          obtain ⟨ad, rfl, a0, a1, a2, a3, a4⟩ := at_T26 (Kd.C_below HR.out HBi.out) i (by omega) (by omega)
          simp only [Int.toNat_natCast] at a0 a1 a2 a3 a4
          have hok : ActOk (rd_T26 l i) := HI.out _ (by
            unfold rd_T26
            rw [Int.toNat_natCast, List.getD_eq_getElem?_getD, List.getElem?_eq_getElem (by omega)]
            exact List.getElem_mem _)
          have HS := Aside0.mk (drop_cons' (l.take m) i (by rw [List.length_take]; omega))
          rw [rd_take l i m him] at HS
          generalize hx : rd_T26 l i = x at *
          by_cases h4 : x.f4.size ≤ 400
          · have hd4 : decide ((400 : Int) < x.f4.size) = false := by simp; omega
            have HE := Aside0.mk (show ser ((l.take m).drop i) = put x.f2.toNat ++ (put x.f4.size ++ bytesOf x.f4 ++ ser ((l.take m).drop (i + 1))) by
              rw [HS.out, ser_cons]
              unfold enc1
              rw [if_pos h4, List.append_assoc, List.append_assoc, List.append_assoc])
            have hbs : bytes (ser ((l.take m).drop (i + 1))) := ser_bytes _ fun y hy => (HI.out y (List.mem_of_mem_take (List.mem_of_mem_drop hy))).2
            have HBS := Aside0.mk hbs
            have hgl : g < wr.heap.size := by obtain ⟨_, _, h, _⟩ := HRi.out; exact blk_lt h
            rw [HE.out] at HRi
            have HBT := Aside0.mk (bytes_append (bytes_append (put_bytes x.f4.size (by omega)) (bytesOf_bytes x.f4)) hbs)
            have HOK := Aside0.mk hok
            clear hok hbs
            go_wp2_with fail
            have hb0 := (Below.refl wr.heap.size wr).alloc (Nat.le_refl _) (.cells #[.int .i64 x.f0, .int .i64 x.f1, .int .u64 x.f2, .int .u64 x.f3, .string x.f4] 26)
            refine (number_put g x.f2 x.f2 _ _ (HRi.out.below hb0) HBT.out HOK.out.1 HOK.out.2 (Int.le_refl _)).mono ?_
            have hk0 := blk_new wr (.cells #[.int .i64 x.f0, .int .i64 x.f1, .int .u64 x.f2, .int .u64 x.f3, .string x.f4] 26)
            have HB4 := Aside0.mk (HBi.out.trans (hb0.mono HBi.out.size))
            rintro e w4 ⟨rfl, v4, rfl, hrd4⟩
            have hk1 := blk_far hk0 (p := ⟨g, 0, none⟩) (by show wr.heap.size ≠ g; omega) v4
            have HB5 := Aside0.mk (HB4.out.setCell (p := ⟨g, 0, none⟩) HG.out v4)
            have HR4 := Aside0.mk hrd4
            clear hk0 hb0 hrd4
            generalize ((wr.alloc (.cells #[.int .i64 x.f0, .int .i64 x.f1, .int .u64 x.f2, .int .u64 x.f3, .string x.f4] 26)).setCell ⟨g, 0, none⟩ v4) = w5 at *
            have c2 := blk_cell hk1 2
            have c4 := blk_cell hk1 4
            have HK1 := Aside0.mk hk1
            clear hk1 HB4
            go_wp2_with fail
            refine (text_back g x.f4 _ _ HR4.out HBS.out h4).mono ?_
            rintro e w6 ⟨rfl, v6, rfl, hrd6⟩
            have hk2 := blk_far HK1.out (p := ⟨g, 0, none⟩) (by show wr.heap.size ≠ g; omega) v6
            have HB6 := Aside0.mk (HB5.out.setCell (p := ⟨g, 0, none⟩) HG.out v6)
            have HR6 := Aside0.mk hrd6
            clear hrd6 c2 c4
            generalize w5.setCell ⟨g, 0, none⟩ v6 = w7 at *
            have c2 := blk_cell hk2 2
            have c4 := blk_cell hk2 4
            clear hk2 HK1
            go_wp2
            go_roundw
            case rel => exact ⟨i + 1, by go_num, by omega, HR6, HB6⟩
            case measure => simp [intOf]; omega
          · have hd4 : decide ((400 : Int) < x.f4.size) = true := by simp; omega
            have HE := Aside0.mk (show ser ((l.take m).drop i) = ser ((l.take m).drop (i + 1)) by
              rw [HS.out, ser_cons]
              unfold enc1
              rw [if_neg h4, List.nil_append])
            rw [HE.out] at HRi
            go_wp2
            have hb0 := (Below.refl wr.heap.size wr).alloc (Nat.le_refl _) (.cells #[.int .i64 x.f0, .int .i64 x.f1, .int .u64 x.f2, .int .u64 x.f3, .string x.f4] 26)
            go_roundw
            case rel => exact ⟨i + 1, by go_num, by omega, ⟨HRi.out.below hb0⟩, ⟨HBi.out.trans (hb0.mono HBi.out.size)⟩⟩
            case measure => simp [intOf]; omega
        · obtain rfl : i = m := by omega
          have HZ : Aside0 (ser ((l.take i).drop i) = []) := ⟨by rw [List.drop_eq_nil_of_le (by rw [List.length_take]; omega)]; rfl⟩
          rw [HZ.out] at HRi
          by_cases hil : i < l.length
          · have h1 : decide ((i : Int) < l.length) = true := by simp; omega
            have h2 : decide ((i : Int) < 60) = false := by simp; omega
            go_wp2
            go_meet
            case rel => exact ⟨HRi, HBi⟩
          · have h1 : decide ((i : Int) < l.length) = false := by simp; omega
            go_wp2
            go_meet
            case rel => exact ⟨HRi, HBi⟩
    case rest =>
      obtain ⟨HR2, HB2⟩ := hcut
      have HRB2 := Aside0.mk (Kd.C_below HRB.out HB2.out)
      by_cases h400 : b.length ≤ 400
      · have h4 : decide ((400 : Int) < b.length) = false := by simp; omega
        go_wp2_with fail
        refine (left_any g [] _ HR2.out).mono ?_
        rintro e w4 ⟨rfl, rfl⟩
        go_wp2_with fail
        refine (open_any B d b _ HRB2.out hcb (by omega)).mono ?_
        rintro e w5 ⟨q, rfl, hrd, hq1, hq2, hb5⟩
        have HRD5 := Aside0.mk hrd
        have HQ := Aside0.mk (Nat.le_trans HB2.out.size hq1)
        have HRB5 := Aside0.mk (Kd.C_below HRB2.out hb5)
        have HB5 := Aside0.mk (HB2.out.trans (hb5.mono HB2.out.size))
        clear hrd hq1 hq2 hb5
        by_cases hn : (nextS b).2 = 0
        · go_wp2_with fail
          refine (number_no q b _ _ HRD5.out HBB.out (.inl hn)).mono ?_
          rintro e w6 ⟨rfl, rfl⟩
          go_wp2_with fail
          refine (alive_any _).mono ?_
          rintro e w7 ⟨rfl, hb7⟩
          have HRD7 := Aside0.mk (HRD5.out.below hb7)
          have HB7 := Aside0.mk (HB5.out.trans (hb7.mono HB5.out.size))
          clear hb7
          go_wp2_with fail
          refine (left_any q b _ HRD7.out).mono ?_
          rintro e w8 ⟨rfl, rfl⟩
          go_wp2
          go_ret
          exact ⟨rfl, HB7.out⟩
        · obtain ⟨p1, p2, p3⟩ := put_nextS b HBB.out hn
          have hny := fun w h => number_yes q b 18446744073709551615 w h HBB.out hn (by omega)
          have hle := nextS_le b
          have hpl : (put (nextS b).1.toNat).length = (nextS b).2 := by rw [← p1, List.length_take]; omega
          have hP := fun w => put_nil (nextS b).1 w p2 p3
          rw [← p1] at hP
          have hdl : (b.drop (nextS b).2).length = b.length - (nextS b).2 := List.length_drop
          have htl : (b.take (nextS b).2).length = (nextS b).2 := by rw [List.length_take]; omega
          have HTB := Aside0.mk (show b.take (b.take (nextS b).2).length = b.take (nextS b).2 by rw [htl])
          generalize (b.drop (nextS b).2) = D at *
          generalize (b.take (nextS b).2) = T at *
          have hlen : ((T.length : Int) == (b.length : Int) - D.length) = true := by simp; omega
          have HLN := Aside0.mk hlen
          have hTle : T.length ≤ b.length := by omega
          have hDle : D.length ≤ b.length := by omega
          have hT0 : 0 < T.length := by omega
          generalize (nextS b).1 = n at *
          have HP := Aside0.mk hP
          have HNY := Aside0.mk hny
          clear hP hny p1 p2 p3 hlen hpl hdl hle htl
          go_wp2_with fail
          refine (HNY.out _ HRD5.out).mono ?_
          rintro e w6 ⟨rfl, v6, rfl, hrd6⟩
          have HR6 := Aside0.mk hrd6
          have HRB6 := Aside0.mk (RD.set HRD5.out HRB5.out v6)
          have HB6 := Aside0.mk (HB5.out.setCell (p := ⟨q, 0, none⟩) HQ.out v6)
          clear hrd6
          generalize w5.setCell ⟨q, 0, none⟩ v6 = w6 at *
          go_wp2_with fail
          refine (HP.out _).mono ?_
          rintro e w7 ⟨⟨A7, c7, rfl, hc7, ho7⟩, hb7⟩
          have HC7 := Aside0.mk (OwnBytes.C ho7)
          have HR7 := Aside0.mk (HR6.out.below hb7)
          have HRB7 := Aside0.mk (Kd.C_below HRB6.out hb7)
          have HB7 := Aside0.mk (HB6.out.trans (hb7.mono HB6.out.size))
          clear ho7 hb7
          go_wp2_with fail
          have HT7 : Aside0 (Kd.C (Kd.int .u8) w7 B T.length T) := ⟨by rw [← HTB.out]; exact Kd.C_take HRB7.out hTle⟩
          have HS1 := Aside0.mk (fun (w : World) A c h => Kd.C_string (P := Try.prog) (w := w) (A := A) (n := T.length) (xs := T) (src := 23) (dst := 9) (c := c) Try.underlying23 Try.underlying5 Try.underlying9 h)
          generalize strOfNums T = sT at *
          have hlen := HLN.out
          have hwr : IntKind.i64.wrap ((b.length : Int) - D.length) = (b.length : Int) - D.length := IntWalk.i64_in _ (by omega)
          obtain ⟨i012, hi012, _, hsz12, _⟩ := info_parts info5
          have hsl := (print_take_int (P := Try.prog) (k := .u8) 23 5 Try.underlying23 hi012 hsz12 B d b T.length (by omega) (by omega) hcb).1
          rw [Int.toNat_natCast, HTB.out] at hsl
          refine wp_region_held_drew (S := (fun w' => (convert 23 9 (.slice A7 T.length c7)).run Try.prog w' = .ok (.string sT) w' ∧ (convert 23 9 (.slice B T.length d)).run Try.prog w' = .ok (.string sT) w')) (by kernel_rfl) ?hSa0 (fun hHeld => ?_)
          case hSa0 => first | exact ⟨HS1.out _ _ _ HC8.out, HS1.out _ _ _ HT8.out⟩ | exact ⟨HS1.out _ _ _ HC7.out, HS1.out _ _ _ HT7.out⟩
          refine wpAnyH_ready (rs := [0]) (by kernel_rfl) (by simp) ?_
          refine AllReadyH.cons rfl (fun K hK => ?_) AllReadyH.nil
          go_simp
          refine (alive_any _).mono ?_
          rintro e w8 ⟨rfl, hb8⟩
          have HB8 := Aside0.mk (HB7.out.drew.trans (hb8.mono HB7.out.size))
          replace hb8 : Below w7.heap.size w7 w8 := (Below.refl _ _).drew.trans hb8
          have HC8 := Aside0.mk (Kd.C_below HC7.out (hb8))
          have HT8 := Aside0.mk (Kd.C_below HT7.out hb8)
          have HR8 := Aside0.mk (HR7.out.below hb8)
          clear hb8
          refine hK.out _ _ ?hSa1 (fun hHeld => ?_)
          case hSa1 => first | exact ⟨HS1.out _ _ _ HC8.out, HS1.out _ _ _ HT8.out⟩ | exact ⟨HS1.out _ _ _ HC7.out, HS1.out _ _ _ HT7.out⟩
          clear hK K
          try simp only [Act.put, List.setIfInBounds_toArray, List.set_cons_zero, List.set_cons_succ]
          refine held_take 1 (some 128) (v := ?va1) rfl rfl (by kernel_rfl) (by kernel_rfl) (by kernel_rfl) (fun _ _ _ h => h) (by rfl) ?ya1 (by assumption) ?_
          case ya1 => ((intro w hSw); (try dsimp only at hSw); go_simp <;> (with_reducible rfl))
          try simp only [Act.put, List.setIfInBounds_toArray, List.set_cons_zero, List.set_cons_succ]
          refine held_take 2 (some 129) (v := ?va2) rfl rfl (by kernel_rfl) (by kernel_rfl) (by kernel_rfl) (fun _ _ _ h => h) (by rfl) ?ya2 (by assumption) ?_
          case ya2 => ((intro w hSw); (try dsimp only at hSw); go_simp <;> (with_reducible rfl))
          try simp only [Act.put, List.setIfInBounds_toArray, List.set_cons_zero, List.set_cons_succ]
          refine held_take 3 (some 130) (v := ?va3) rfl rfl (by kernel_rfl) (by kernel_rfl) (by kernel_rfl) (fun _ _ _ h => h) (by rfl) ?ya3 (by assumption) ?_
          case ya3 => ((intro w hSw); (try dsimp only at hSw); go_simp <;> (with_reducible rfl))
          try simp only [Act.put, List.setIfInBounds_toArray, List.set_cons_zero, List.set_cons_succ]
          refine held_take 4 (some 131) (v := ?va4) rfl rfl (by kernel_rfl) (by kernel_rfl) (by kernel_rfl) (fun _ _ _ h => h) (by rfl) ?ya4 (by assumption) ?_
          case ya4 => ((intro w hSw); (try dsimp only at hSw); go_simp <;> (with_reducible rfl))
          try simp only [Act.put, List.setIfInBounds_toArray, List.set_cons_zero, List.set_cons_succ]
          refine held_take 5 (some 132) (v := ?va5) rfl rfl (by kernel_rfl) (by kernel_rfl) (by kernel_rfl) (fun _ _ _ h => h) (by rfl) ?ya5 (by assumption) ?_
          case ya5 => ((intro w hSw); (try dsimp only at hSw); go_simp <;> (with_reducible rfl))
          try simp only [Act.put, List.setIfInBounds_toArray, List.set_cons_zero, List.set_cons_succ]
          refine held_take 6 (some 133) (v := ?va6) rfl rfl (by kernel_rfl) (by kernel_rfl) (by kernel_rfl) (fun _ _ _ h => h) (by rfl) ?ya6 (by assumption) ?_
          case ya6 => ((intro w hSw); (try dsimp only at hSw); go_simp <;> (with_reducible rfl))
          try simp only [Act.put, List.setIfInBounds_toArray, List.set_cons_zero, List.set_cons_succ]
          refine wpAnyH_ready (rs := [7]) (by kernel_rfl) (by simp) ?_
          refine AllReadyH.cons rfl (fun K hK => ?_) AllReadyH.nil
          go_simp
          refine (left_any q D _ HR8.out).mono ?_
          rintro e w9 ⟨rfl, rfl⟩
          refine hK.out _ _ ?hSa8 (fun hHeld => ?_)
          case hSa8 => first | exact ⟨HS1.out _ _ _ HC8.out, HS1.out _ _ _ HT8.out⟩ | exact ⟨HS1.out _ _ _ HC7.out, HS1.out _ _ _ HT7.out⟩
          clear hK K
          try simp only [Act.put, List.setIfInBounds_toArray, List.set_cons_zero, List.set_cons_succ]
          refine held_take 8 (some 135) (v := ?va8) rfl rfl (by kernel_rfl) (by kernel_rfl) (by kernel_rfl) (fun _ _ _ h => h) (by rfl) ?ya8 (by assumption) ?_
          case ya8 => ((intro w hSw); (try dsimp only at hSw); go_simp <;> (with_reducible rfl))
          try simp only [Act.put, List.setIfInBounds_toArray, List.set_cons_zero, List.set_cons_succ]
          refine held_take 9 (some 136) (v := ?va9) rfl rfl (by kernel_rfl) (by kernel_rfl) (by kernel_rfl) (fun _ _ _ h => h) (by rfl) ?ya9 (by assumption) ?_
          case ya9 => ((intro w hSw); (try dsimp only at hSw); go_simp <;> (with_reducible rfl))
          try simp only [Act.put, List.setIfInBounds_toArray, List.set_cons_zero, List.set_cons_succ]
          refine held_take 10 (some 137) (v := ?va10) rfl rfl (by kernel_rfl) (by kernel_rfl) (by kernel_rfl) (fun _ _ _ h => h) (by rfl) ?ya10 (by assumption) ?_
          case ya10 => ((intro w hSw); (try dsimp only at hSw); go_simp <;> (with_reducible rfl))
          try simp only [Act.put, List.setIfInBounds_toArray, List.set_cons_zero, List.set_cons_succ]
          refine held_take 11 (some 138) (v := ?va11) rfl rfl (by kernel_rfl) (by kernel_rfl) (by kernel_rfl) (fun _ _ _ h => h) (by rfl) ?ya11 (by assumption) ?_
          case ya11 => ((intro w hSw); (try dsimp only at hSw); go_simp <;> (with_reducible rfl))
          try simp only [Act.put, List.setIfInBounds_toArray, List.set_cons_zero, List.set_cons_succ]
          refine held_take 12 (some 139) (v := ?va12) rfl rfl (by kernel_rfl) (by kernel_rfl) (by kernel_rfl) (fun _ _ _ h => h) (by rfl) ?ya12 (by assumption) ?_
          case ya12 => ((intro w hSw); (try dsimp only at hSw); go_simp <;> (with_reducible rfl))
          try simp only [Act.put, List.setIfInBounds_toArray, List.set_cons_zero, List.set_cons_succ]
          refine held_take 13 (some 140) (v := ?va13) rfl rfl (by kernel_rfl) (by kernel_rfl) (by kernel_rfl) (fun _ _ _ h => h) (by rfl) ?ya13 (by assumption) ?_
          case ya13 => ((intro w hSw); (try dsimp only at hSw); go_simp <;> (with_reducible rfl))
          try simp only [Act.put, List.setIfInBounds_toArray, List.set_cons_zero, List.set_cons_succ]
          refine held_take 14 (some 141) (v := ?va14) rfl rfl (by kernel_rfl) (by kernel_rfl) (by kernel_rfl) (fun _ _ _ h => h) (by rfl) ?ya14 (by assumption) ?_
          case ya14 => ((intro w hSw); (try dsimp only at hSw); go_simp <;> (with_reducible rfl))
          try simp only [Act.put, List.setIfInBounds_toArray, List.set_cons_zero, List.set_cons_succ]
          refine held_take 15 (some 142) (v := ?va15) rfl rfl (by kernel_rfl) (by kernel_rfl) (by kernel_rfl) (fun _ _ _ h => h) (by rfl) ?ya15 (by assumption) ?_
          case ya15 => ((intro w hSw); (try dsimp only at hSw); go_simp <;> (with_reducible rfl))
          try simp only [Act.put, List.setIfInBounds_toArray, List.set_cons_zero, List.set_cons_succ]
          refine held_take 16 (some 143) (v := ?va16) rfl rfl (by kernel_rfl) (by kernel_rfl) (by kernel_rfl) (fun _ _ _ h => h) (by rfl) ?ya16 (by assumption) ?_
          case ya16 => ((intro w hSw); (try dsimp only at hSw); go_simp <;> (with_reducible rfl))
          try simp only [Act.put, List.setIfInBounds_toArray, List.set_cons_zero, List.set_cons_succ]
          refine held_take 17 (some 144) (v := ?va17) rfl rfl (by kernel_rfl) (by kernel_rfl) (by kernel_rfl) (fun _ _ _ h => h) (by rfl) ?ya17 (by assumption) ?_
          case ya17 => ((intro w hSw); (try dsimp only at hSw); go_simp <;> (with_reducible rfl))
          try simp only [Act.put, List.setIfInBounds_toArray, List.set_cons_zero, List.set_cons_succ]
          refine held_take 18 (some 145) (v := ?va18) rfl rfl (by kernel_rfl) (by kernel_rfl) (by kernel_rfl) (fun _ _ _ h => h) (by rfl) ?ya18 (by assumption) ?_
          case ya18 => ((intro w hSw); (try dsimp only at hSw); go_simp <;> (with_reducible rfl))
          try simp only [Act.put, List.setIfInBounds_toArray, List.set_cons_zero, List.set_cons_succ]
          refine held_take 19 (some 146) (v := ?va19) rfl rfl (by kernel_rfl) (by kernel_rfl) (by kernel_rfl) (fun _ _ _ h => h) (by rfl) ?ya19 (by assumption) ?_
          case ya19 => ((intro w hSw); (try dsimp only at hSw); go_simp <;> (with_reducible rfl))
          try simp only [Act.put, List.setIfInBounds_toArray, List.set_cons_zero, List.set_cons_succ]
          refine held_take 20 (some 147) (v := ?va20) rfl rfl (by kernel_rfl) (by kernel_rfl) (by kernel_rfl) (fun _ _ _ h => h) (by rfl) ?ya20 (by assumption) ?_
          case ya20 => ((intro w hSw); (try dsimp only at hSw); go_simp <;> (with_reducible rfl))
          try simp only [Act.put, List.setIfInBounds_toArray, List.set_cons_zero, List.set_cons_succ]
          refine held_take 21 (some 4) (v := ?va21) rfl rfl (by kernel_rfl) (by kernel_rfl) (by kernel_rfl) (fun _ _ _ h => h) (by rfl) ?ya21 (by assumption) ?_
          case ya21 => ((intro w hSw); (try dsimp only at hSw); go_simp <;> (with_reducible rfl))
          try simp only [Act.put, List.setIfInBounds_toArray, List.set_cons_zero, List.set_cons_succ]
          refine wpAnyH_done (by kernel_rfl) ?_ _
          go_wp2
          go_ret
          exact ⟨rfl, HB8.out⟩
      · have h4 : decide ((400 : Int) < b.length) = true := by simp; omega
        go_wp2_with fail
        refine (left_any g [] _ HR2.out).mono ?_
        rintro e w4 ⟨rfl, rfl⟩
        go_wp2_with fail
        refine (alive_any _).mono ?_
        rintro e w7 ⟨rfl, hb7⟩
        have HB7 := Aside0.mk (HB2.out.trans (hb7.mono HB2.out.size))
        clear hb7
        go_wp2
        go_ret
        exact ⟨rfl, HB7.out⟩
end Go.Proofs.Ytnmmknifidpmbaa.H
