/- The document's Respects, walked; contracts of the document's answers. -/
import Derived.Test.YtncdeappiooccaaOrdR2
namespace Go.Proofs.Ytncdeappiooccaa.H
open Go.RowKit Go.Proofs.Ytncdeappiooccaa.P Go.Proofs.YtncdeappiooccaaW.PrintWords Go.Proofs.YtncdeappiooccaaW.PrintLast Go.Proofs.YtncdeappiooccaaW.PrintMore
set_option linter.unusedVariables false
set_option linter.unusedSimpArgs false
theorem place_any (A : Option Addr) (c : Nat) (h : List S47) (kd id : Int) (w : World) (hr : Kd.C k48 w A (refL h).length (refL h)) (hc : (refL h).length ≤ c) (hl : h.length ≤ 1000) :
    Calls Try.prog 24 #[.slice A (refL h).length c, .int .i64 kd, .int .i64 id] w fun e w' => e = .returned (.int .i64 (posE h ⟨kd, id⟩ - 1)) ∧ Below w.heap.size w w' := by
  obtain ⟨k, hk⟩ := (place_ev h hl kd id).rounds
  refine (T.waystoneref21_place.calls k A c (refL h) kd id _ w hr hc hk).mono ?_
  rintro e w' ⟨rfl, hd⟩
  exact ⟨rfl, drawn_below hd⟩
theorem has_any (A : Option Addr) (c n : Nat) (l : List Int) (a : Int) (w : World) (hn : l.length = n) (hr : Kd.C (Kd.int .i64) w A n l) (hc : n ≤ c) (hl : n ≤ 1000) :
    Calls Try.prog 28 #[.slice A n c, .int .i64 a] w fun e w' => e = .returned (.bool (decide (a ∈ l))) ∧ Drawn0 w w' := by
  subst hn
  obtain ⟨k, hk⟩ := (has_ev l a hl).rounds
  exact T.waystoneref09_Has.calls k A c l a _ w hr hc hk
theorem refRight_any (A : Option Addr) (c : Nat) (h : List S47) (w : World) (hr : Kd.C k48 w A (refL h).length (refL h)) (hc : (refL h).length ≤ c) (hl : h.length ≤ 1000) :
    Calls Try.prog 14 #[.slice A (refL h).length c] w fun e w' => e = .returned (.bool (rightH h)) ∧ Below w.heap.size w w' := by
  obtain ⟨k, hk⟩ := (refRight_ev h hl).rounds
  refine (T.waystoneref21_Right.calls k A c (refL h) _ w hr hc hk).mono ?_
  rintro e w' ⟨rfl, hd⟩
  exact ⟨rfl, drawn_below hd⟩
theorem refAhead_any (A : Option Addr) (c : Nat) (h : List S47) (a b : Int) (w : World) (hr : Kd.C k48 w A (refL h).length (refL h)) (hc : (refL h).length ≤ c) (hl : h.length ≤ 1000) :
    Calls Try.prog 16 #[.slice A (refL h).length c, .int .i64 a, .int .i64 b] w fun e w' => e = .returned (.bool (aheadH h a b)) ∧ Drawn0 w w' := by
  obtain ⟨k, hk⟩ := (refAhead_ev h hl a b).rounds
  exact T.waystoneref21_Ahead.calls k A c (refL h) a b _ w hr hc hk
theorem refOrder_any (A : Option Addr) (c : Nat) (h : List S47) (w : World) (hr : Kd.C k48 w A (refL h).length (refL h)) (hc : (refL h).length ≤ c) (hl : h.length ≤ 1000) :
    Calls Try.prog 9 #[.slice A (refL h).length c] w fun e w' => ∃ v, e = .returned (.tuple #[v, .int .i64 (orderE h)]) ∧ Kd.R (Kd.int .i64) 3 w' w.heap.size (fun _ => True) v (orderL h) ∧ Below w.heap.size w w' := by
  obtain ⟨k, hk⟩ := (refOrder_ev h hl).rounds
  exact T.waystoneref21_Order.calls k A c (refL h) _ _ w hr hc hk
theorem refPending_any (A : Option Addr) (c : Nat) (h : List S47) (w : World) (hr : Kd.C k48 w A (refL h).length (refL h)) (hc : (refL h).length ≤ c) (hl : h.length ≤ 1000) :
    Calls Try.prog 12 #[.slice A (refL h).length c] w fun e w' => ∃ v, e = .returned v ∧ Kd.R (Kd.int .i64) 3 w' w.heap.size (fun _ => True) v (pendL h) ∧ Below w.heap.size w w' := by
  obtain ⟨k, hk⟩ := (refPending_ev h hl).rounds
  exact T.waystoneref21_Pending.calls k A c (refL h) _ w hr hc hk
theorem ref_any (A : Option Addr) (c : Nat) (h : List S47) (w : World) (hr : Kd.C k47 w A h.length h) (hc : h.length ≤ c) (hl : h.length ≤ 1000) :
    Calls Try.prog 7 #[.slice A h.length c] w fun e w' => ∃ v, e = .returned v ∧ Kd.R k48 48 w' w.heap.size (fun _ => True) v (refL h) ∧ Below w.heap.size w w' := by
  obtain ⟨k, hk⟩ := (ref_ev h hl).rounds
  exact T.waystonelaw21_ref.calls k A c h _ w hr hc hk
theorem ints_any (A : Option Addr) (c : Nat) (B : Option Addr) (d : Nat) (l : List Int) (w : World) (hr : Kd.C (Kd.int .i64) w A l.length l) (hc : l.length ≤ c) (hr2 : Kd.C (Kd.int .i64) w B l.length l) (hc2 : l.length ≤ d) (hl : l.length ≤ 1000) :
    Calls Try.prog 10 #[.slice A l.length c, .slice B l.length d] w fun e w' => e = .returned (.bool true) ∧ Below w.heap.size w w' := by
  obtain ⟨k, hk⟩ := (ints_ev l hl).rounds
  refine (T.waystoneref06_Ints.calls k A c l B d l true w hr hc hr2 hc2 hk).mono ?_
  rintro e w' ⟨rfl, hd⟩
  exact ⟨rfl, drawn_below hd⟩
theorem drawn_trans {w w1 w2 : World} (h : Drawn0 w w1) (g : Drawn0 w1 w2) : Drawn0 w w2 := by
  obtain ⟨n, rfl⟩ := h
  obtain ⟨m, rfl⟩ := g
  exact ⟨n + m, World.drewN_drewN ..⟩
theorem posE_nn (h : List S47) (k : S47) : 0 ≤ posE h k := by
  by_cases e : k ∈ h
  · have := posE_mem h _ e; omega
  · have := posE_none h _ e; omega
set_option maxHeartbeats 1600000 in
theorem refRespects_any (A : Option Addr) (c : Nat) (h : List S47) (A2 : Option Addr) (c2 : Nat) (l : List Int) (w : World) (hr : Kd.C k48 w A (refL h).length (refL h)) (hc : (refL h).length ≤ c) (hl : h.length ≤ 1000) (hr2 : Kd.C (Kd.int .i64) w A2 l.length l) (hc2 : l.length ≤ c2) (hl2 : l.length ≤ 1000) :
    Calls Try.prog 18 #[.slice A (refL h).length c, .slice A2 l.length c2] w fun e w' => e = .returned (.bool (respH h l)) ∧ Below w.heap.size w w' := by
  have HR := Aside0.mk hr
  have HR2 := Aside0.mk hr2
  clear hr hr2
  have HQ := Aside0.mk (show respH h l = (rightH h && (respF h [] l && (ofL h 3).all fun id => decide (id ∈ l))) from rfl)
  generalize respH h l = q at *
  go_enter Try.func18, Try.ntmps18
  go_wp2_with fail
  refine (refRight_any A c h w HR.out hc hl).mono ?_
  rintro e w1 ⟨rfl, hb⟩
  have HB1 := Aside0.mk hb
  clear hb
  cases hq : rightH h with
  | false =>
    have HF := Aside0.mk (show q = false from by rw [HQ.out, hq]; rfl)
    clear hq
    go_wp2_with fail
    go_ret
    exact ⟨by rw [HF.out]; rfl, HB1.out⟩
  | true =>
    have HH := Aside0.mk hq
    clear hq
    go_wp2_with fail
    go_loopw [6] (fun s6 wr => ∃ j : Nat, j ≤ l.length ∧ s6 = .int .i64 j ∧ Aside0 (respF h [] (l.take j) = true) ∧ Aside0 (Below w.heap.size w wr)) (fun c _ => l.length - (intOf c).toNat)
    case atStart => exact ⟨0, Nat.zero_le _, rfl, ⟨rfl⟩, HB1⟩
    case round =>
      obtain ⟨j, hj, rfl, HRF, HB⟩ := hrel
      by_cases hlt : j < l.length
      · have hjl : (j : Int) < (l.length : Int) := by omega
        obtain ⟨ad, e, x0⟩ := (Kd.reads_of_C (d := (0 : Int)) (Kd.C_below HR2.out HB.out)).at_ (j : Int) (by omega) (by omega)
        cases e
        rw [Int.toNat_natCast] at x0
        have er : rdOf 0 l (j : Int) = l[j] := by unfold rdOf; rw [Int.toNat_natCast, List.getD_eq_getElem?_getD, List.getElem?_eq_getElem hlt]; rfl
        rw [er] at x0
        clear er
        have HST := Aside0.mk (respF_step h l j hlt)
        have HNO := Aside0.mk (respF_not h l j hlt)
        have HOK := Aside0.mk (show okStep h (l.take j) l[j] = (!(posE h ⟨1, l[j]⟩ == 0) && (!decide (l[j] ∈ l.take j) && !((l.take j).any fun x => aheadH h l[j] x))) from by rw [← turned_iff h HH.out]; rfl)
        have HX := Aside0.mk (show l[j]? = some l[j] from List.getElem?_eq_getElem hlt)
        generalize l[j] = id at *
        have HNN := Aside0.mk (posE_nn h ⟨1, id⟩)
        have hcall := place_any A c h 1 id wr (Kd.C_below HR.out HB.out) hc hl
        generalize posE h ⟨1, id⟩ = p1 at *
        go_wp2_with fail
        refine hcall.mono ?_
        rintro e w2 ⟨rfl, hb2⟩
        have HB2 := Aside0.mk (HB.out.trans (hb2.mono HB.out.size))
        clear hcall hb2 x0
        obtain ⟨ad', e', x0⟩ := (Kd.reads_of_C (d := (0 : Int)) (Kd.C_below HR2.out HB2.out)).at_ (j : Int) (by omega) (by omega)
        cases e'
        rw [Int.toNat_natCast] at x0
        have er : rdOf 0 l (j : Int) = id := by unfold rdOf; rw [Int.toNat_natCast, List.getD_eq_getElem?_getD, HX.out]; rfl
        rw [er] at x0
        clear er
        have x0' := fun n => (show (w2.drewN n).cell? (ad.add j) = some (Value.int .i64 id) from x0)
        have hcall := fun n => has_any (some ad) c2 j (l.take j) id (w2.drewN n) (by rw [List.length_take]; omega) (Kd.C_below (C_take (Kd.C_below HR2.out HB2.out) j hj) (below_drewN (Below.refl _ w2) n)) (by omega) (by omega)
        go_wp2_with fail
        go_quiet (first | (go_at_call 28; (with_reducible refine (hcall _).mono ?_); rintro e w' ⟨rfl, ⟨nd, rfl⟩⟩; exact ⟨rfl, _, World.drewN_drewN _ _ _⟩))
        have HB3 := Aside0.mk (below_drewN HB2.out nq)
        clear hcall x0 x0'
        generalize w2.drewN nq = w3 at *
        by_cases c1 : p1 - 1 < 0
        · have HF := Aside0.mk (show q = false from by rw [HQ.out, HNO.out (by rw [HOK.out, (by rw [beq_iff_eq]; have := HNN.out; omega : (p1 == 0) = true)]; rfl)]; simp)
          go_wp2_with fail
          go_ret
          exact ⟨by rw [HF.out]; rfl, HB3.out⟩
        · have HP1 := Aside0.mk (show (p1 == 0) = false from by rw [beq_eq_false_iff_ne]; omega)
          cases hb1 : decide (id ∈ l.take j) with
          | true =>
            have HF := Aside0.mk (show q = false from by rw [HQ.out, HNO.out (by rw [HOK.out, hb1, HP1.out]; rfl)]; simp)
            go_wp2_with fail
            go_ret
            exact ⟨by rw [HF.out]; rfl, HB3.out⟩
          | false =>
            have HB1' := Aside0.mk hb1
            clear hb1
            go_wp2_with fail
            go_loopw [9] (fun s9 wr => ∃ m : Nat, m ≤ j ∧ s9 = .int .i64 m ∧ Aside0 (((l.take m).any fun x => aheadH h id x) = false) ∧ Aside0 (Below w.heap.size w wr)) (fun c _ => j - (intOf c).toNat)
            case atStart => exact ⟨0, Nat.zero_le _, rfl, ⟨rfl⟩, HB3⟩
            case round =>
              obtain ⟨m, hm, rfl, HAN, HBM⟩ := hrel
              by_cases hmj : m < j
              · have hmjz : (m : Int) < (j : Int) := by omega
                have hml : (m : Int) < (l.length : Int) := by omega
                obtain ⟨ad1, e1, y0⟩ := (Kd.reads_of_C (d := (0 : Int)) (Kd.C_below HR2.out HBM.out)).at_ (j : Int) (by omega) (by omega)
                cases e1
                obtain ⟨ad2, e2, y1⟩ := (Kd.reads_of_C (d := (0 : Int)) (Kd.C_below HR2.out HBM.out)).at_ (m : Int) (by omega) (by omega)
                cases e2
                rw [Int.toNat_natCast] at y0 y1
                have er : rdOf 0 l (j : Int) = id := by unfold rdOf; rw [Int.toNat_natCast, List.getD_eq_getElem?_getD, HX.out]; rfl
                have er2 : rdOf 0 l (m : Int) = l[m]'(by omega) := by unfold rdOf; rw [Int.toNat_natCast, List.getD_eq_getElem?_getD, List.getElem?_eq_getElem (by omega)]; rfl
                rw [er] at y0
                rw [er2] at y1
                have HTM := Aside0.mk (show ((l.take (m + 1)).any fun x => aheadH h id x) = ((l.take m).any fun x => aheadH h id x || aheadH h id (l[m]'(by omega))) ∨ True from .inr trivial)
                have HAS := Aside0.mk (show ((l.take (m + 1)).any fun x => aheadH h id x) = (((l.take m).any fun x => aheadH h id x) || aheadH h id (l[m]'(by omega))) from by
                  rw [List.take_succ_eq_append_getElem (by omega), List.any_append, List.any_cons, List.any_nil, Bool.or_false])
                have HMI := Aside0.mk (show (l[m]'(by omega)) ∈ l.take j from List.mem_of_getElem? (i := m) (by rw [List.getElem?_take_of_lt hmj]; exact List.getElem?_eq_getElem (by omega)))
                clear er er2 HTM
                generalize l[m]'(by omega) = z at *
                have hcall := fun n => refAhead_any A c h id z (wr.drewN n) (Kd.C_below HR.out (below_drewN HBM.out n)) hc hl
                cases hz : aheadH h id z with
                | true =>
                  simp only [hz] at hcall
                  have HF := Aside0.mk (show q = false from by
                    rw [HQ.out, HNO.out (by rw [HOK.out, HP1.out, HB1'.out, (by rw [List.any_eq_true]; exact ⟨z, HMI.out, hz⟩ : ((l.take j).any fun x => aheadH h id x) = true)]; rfl)]; simp)
                  clear hz
                  go_wp2_with fail
                  go_quiet (first | (go_at_call 16; (with_reducible refine (hcall _).mono ?_); rintro e w' ⟨rfl, ⟨nd, rfl⟩⟩; exact ⟨rfl, _, World.drewN_drewN _ _ _⟩))
                  go_wp2_with fail
                  go_ret
                  exact ⟨by rw [HF.out]; rfl, below_drewN HBM.out nq⟩
                | false =>
                  simp only [hz] at hcall
                  have HZ := Aside0.mk hz
                  clear hz
                  go_wp2_with fail
                  go_quiet (first | (go_at_call 16; (with_reducible refine (hcall _).mono ?_); rintro e w' ⟨rfl, ⟨nd, rfl⟩⟩; exact ⟨rfl, _, World.drewN_drewN _ _ _⟩))
                  go_wp2_with fail
                  go_roundw
                  case rel => exact ⟨m + 1, by omega, by go_num, ⟨by rw [HAS.out, HAN.out, HZ.out]; rfl⟩, ⟨below_drewN HBM.out nq⟩⟩
                  case measure => simp [intOf]; omega
              · obtain rfl : m = j := by omega
                have HF := Aside0.mk (show respF h [] (l.take (m + 1)) = true from by rw [HST.out, HRF.out, HOK.out, HP1.out, HB1'.out, HAN.out]; rfl)
                go_wp2_with fail
                go_roundw
                case rel => exact ⟨m + 1, by omega, by go_num, HF, HBM⟩
                case measure => simp [intOf]; omega
      · obtain rfl : j = l.length := by omega
        rw [List.take_length] at HRF
        go_wp2_with fail
        have hlen := refL_len h
        go_loopw [11] (fun s11 wr => ∃ m : Nat, m ≤ h.length ∧ s11 = .int .i64 m ∧ Aside0 (((ofL (h.take m) 3).all fun id => decide (id ∈ l)) = true) ∧ Aside0 (Below w.heap.size w wr)) (fun c _ => h.length - (intOf c).toNat)
        case atStart => exact ⟨0, Nat.zero_le _, rfl, ⟨rfl⟩, HB⟩
        case round =>
          obtain ⟨m, hm, rfl, HAL, HBM⟩ := hrel
          by_cases hmh : m < h.length
          · have hmz : (m : Int) < ((refL h).length : Int) := by omega
            clear hlen
            obtain ⟨ad, e, a0, a1⟩ := at_T48 (Kd.C_below HR.out HBM.out) (m : Int) (by omega) (by omega)
            cases e
            rw [Int.toNat_natCast, rd48 h m hmh] at a0 a1
            have HOS := Aside0.mk (ofL_succ h 3 m hmh)
            have HXM := Aside0.mk (List.getElem_mem hmh)
            have HXE := Aside0.mk (rd48 h m hmh)
            generalize h[m] = x at *
            obtain ⟨x0, x1⟩ := x
            simp only [rf] at a0 a1
            have hcall := has_any A2 c2 l.length l x1 wr rfl (Kd.C_below HR2.out HBM.out) hc2 hl2
            go_wp2_with fail
            refine hcall.mono ?_
            rintro e w4 ⟨rfl, hd4⟩
            have HB4 := Aside0.mk (HBM.out.trans ((drawn_below hd4).mono HBM.out.size))
            clear hcall hd4 a0 a1
            obtain ⟨ad', e', a0, a1⟩ := at_T48 (Kd.C_below HR.out HB4.out) (m : Int) (by omega) (by omega)
            cases e'
            rw [Int.toNat_natCast, HXE.out] at a0 a1
            simp only [rf] at a0 a1
            by_cases c3 : x0 = 3
            · have b3 : (x0 == 3) = true := by simpa using c3
              cases hb2 : decide (x1 ∈ l) with
              | true =>
                have HF := Aside0.mk (show ((ofL (h.take (m + 1)) 3).all fun id => decide (id ∈ l)) = true from by
                  rw [HOS.out, if_pos c3, List.all_append, HAL.out, List.all_cons, hb2]; rfl)
                clear c3 hb2
                go_wp2_with fail
                go_roundw
                case rel => exact ⟨m + 1, by omega, by go_num, HF, HB4⟩
                case measure => simp [intOf]; omega
              | false =>
                have HF := Aside0.mk (show q = false from by
                  rw [HQ.out, (by rw [List.all_eq_false]; exact ⟨x1, (mem_ofL h 3 x1).2 (by rw [← c3]; exact HXM.out), by rw [hb2]; simp⟩ : ((ofL h 3).all fun id => decide (id ∈ l)) = false)]; simp)
                clear c3 hb2
                go_wp2_with fail
                go_ret
                exact ⟨by rw [HF.out]; rfl, HB4.out⟩
            · have b3 : (x0 == 3) = false := by simpa using c3
              have HF := Aside0.mk (show ((ofL (h.take (m + 1)) 3).all fun id => decide (id ∈ l)) = true from by
                rw [HOS.out, if_neg c3, List.append_nil, HAL.out])
              clear c3
              go_wp2_with fail
              go_roundw
              case rel => exact ⟨m + 1, by omega, by go_num, HF, HB4⟩
              case measure => simp [intOf]; omega
          · obtain rfl : m = h.length := by omega
            rw [List.take_length] at HAL
            have hmz : ¬ (h.length : Int) < ((refL h).length : Int) := by omega
            clear hlen
            have HF := Aside0.mk (show q = true from by rw [HQ.out, HH.out, HRF.out, HAL.out]; rfl)
            go_wp2_with fail
            go_ret
            exact ⟨by rw [HF.out]; rfl, HBM.out⟩
end Go.Proofs.Ytncdeappiooccaa.H
