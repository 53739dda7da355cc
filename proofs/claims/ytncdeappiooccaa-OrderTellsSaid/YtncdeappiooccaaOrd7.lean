/- Respects: walked. -/
import Derived.Test.YtncdeappiooccaaOrd6
namespace Go.Proofs.Ytncdeappiooccaa.H
open Go.RowKit Go.Proofs.Ytncdeappiooccaa.P Go.Proofs.YtncdeappiooccaaW.PrintWords Go.Proofs.YtncdeappiooccaaW.PrintLast Go.Proofs.YtncdeappiooccaaW.PrintMore
attribute [local go_sem] max2_int min2_int max_two min_two
set_option linter.unusedVariables false
set_option linter.unusedSimpArgs false
theorem rdI (l : List Int) (j : Nat) (hj : j < l.length) : rd l (j : Int) = l[j] := by unfold rd; rw [Int.toNat_natCast, List.getD_eq_getElem?_getD, List.getElem?_eq_getElem hj]; rfl
theorem idx_l0 (l : List Int) (a : Int) (hl : l.length ≤ 1000) : ∀ (n j : Nat), l.length - j < n → j ≤ l.length → (∀ x ∈ l.take j, a ≠ x) → ∃ r, slices_Index_int_int.l0 n l a (l.length : Int) (j : Int) = some r ∧ decide (r ≥ 0) = decide (a ∈ l)
  | 0, _, hn, _, _ => absurd hn (by omega)
  | n + 1, j, hn, hj, hb => by
    rw [slices_Index_int_int.l0]
    by_cases e : j < l.length
    · have hw : wrap64 ((j : Int) + 1) = ((j + 1 : Nat) : Int) := by unfold wrap64; omega
      rw [if_pos (by omega), if_pos (by omega), if_pos (by omega), rdI l j e, hw]
      by_cases e2 : a = l[j]
      · rw [if_pos e2]
        refine ⟨_, rfl, ?_⟩
        rw [decide_eq_true (by omega), decide_eq_true (by rw [e2]; exact List.getElem_mem e)]
      · rw [if_neg e2]
        refine idx_l0 l a hl n (j + 1) (by omega) (by omega) fun x hx => ?_
        rw [List.take_succ_eq_append_getElem e, List.mem_append, List.mem_singleton] at hx
        rcases hx with hx | rfl
        · exact hb x hx
        · exact e2
    · obtain rfl : j = l.length := by omega
      rw [if_neg (by omega)]
      refine ⟨_, rfl, ?_⟩
      rw [List.take_length] at hb
      rw [decide_eq_false (by omega), decide_eq_false fun hm => hb a hm rfl]
theorem drawn_below {w w' : World} (h : Drawn0 w w') : Below w.heap.size w w' := by
  obtain ⟨n, rfl⟩ := h
  exact below_drewN (Below.refl _ _) n
theorem contains_any (A : Option Addr) (c n : Nat) (l : List Int) (a : Int) (w : World) (hn : l.length = n) (hr : Kd.C (Kd.int .i64) w A n l) (hc : n ≤ c) (hl : n ≤ 1000) :
    Calls Try.prog 25 #[.slice A n c, .int .i64 a] w fun e w' => e = .returned (.bool (decide (a ∈ l))) ∧ Below w.heap.size w w' := by
  subst hn
  obtain ⟨r, h1, h2⟩ := idx_l0 l a hl (l.length + 1) 0 (by omega) (Nat.zero_le _) (fun x hx => by simp at hx)
  refine (slices_Contains_int_int.calls (l.length + 1) A c l a (decide (r ≥ 0)) w hr hc ?_).mono ?_
  · unfold slices_Contains_int_int.f slices_Index_int_int.f
    rw [show slices_Index_int_int.l0 (l.length + 1) l a (l.length : Int) 0 = some r from h1]
    rfl
  · rintro e w' ⟨rfl, hd⟩
    exact ⟨by rw [h2], drawn_below hd⟩
theorem C_take {w : World} {A : Option Addr} {l : List Int} (h : Kd.C (Kd.int .i64) w A l.length l) (j : Nat) (hj : j ≤ l.length) : Kd.C (Kd.int .i64) w A j (l.take j) := by
  obtain ⟨h1, h2, h3⟩ := h
  refine ⟨by rw [List.length_take]; omega, by omega, fun hp => ?_⟩
  obtain ⟨p, hp1, hat⟩ := h3 (by omega)
  refine ⟨p, hp1, fun t y hy => hat t y ?_⟩
  have h2 := (List.getElem?_eq_some_iff.1 hy).1
  rw [List.length_take] at h2
  rw [List.getElem?_take_of_lt (by omega)] at hy
  exact hy
/-! ### what respects -/
def lastE (h : List S47) (pre : List Int) : Int := pre.foldl (fun m id => max m (posE h ⟨1, id⟩)) 0
def okStep (h : List S47) (pre : List Int) (id : Int) : Bool := !(posE h ⟨1, id⟩ == 0) && (!decide (id ∈ pre) && !(decide (0 < posE h ⟨3, id⟩) && decide (posE h ⟨3, id⟩ < lastE h pre)))
def respF (h : List S47) : List Int → List Int → Bool
  | _, [] => true
  | pre, id :: t => okStep h pre id && respF h (pre ++ [id]) t
theorem respF_append (h : List S47) : ∀ (s t pre : List Int), respF h pre (s ++ t) = (respF h pre s && respF h (pre ++ s) t)
  | [], t, pre => by simp [respF]
  | y :: s, t, pre => by
    rw [List.cons_append, respF, respF, respF_append h s t (pre ++ [y]), Bool.and_assoc]
    simp
theorem respF_step (h : List S47) (l : List Int) (j : Nat) (hj : j < l.length) : respF h [] (l.take (j + 1)) = (respF h [] (l.take j) && okStep h (l.take j) l[j]) := by
  rw [List.take_succ_eq_append_getElem hj, respF_append]
  simp [respF]
theorem respF_not (h : List S47) (l : List Int) (j : Nat) (hj : j < l.length) (hs : okStep h (l.take j) l[j] = false) : respF h [] l = false := by
  have h1 := respF_step h l j hj
  rw [hs, Bool.and_false] at h1
  have h2 := respF_append h (l.take (j + 1)) (l.drop (j + 1)) []
  rw [List.take_append_drop, h1] at h2
  exact h2
theorem lastE_step (h : List S47) (l : List Int) (j : Nat) (hj : j < l.length) : lastE h (l.take (j + 1)) = max (lastE h (l.take j)) (posE h ⟨1, l[j]⟩) := by
  rw [List.take_succ_eq_append_getElem hj, lastE, List.foldl_append]; rfl
def respH (h : List S47) (l : List Int) : Bool := rightH h && (respF h [] l && (ofL h 3).all fun id => decide (id ∈ l))
theorem pred_respects (A : Option Addr) (c : Nat) (l : List Int) (b k : Nat) (w : World) (hb : w.heap[b]? = some (.cells #[.slice A l.length c] 24 (0, 0))) (h1 : b ≠ k) (hr : ∀ W, GrewK w W k → Kd.C (Kd.int .i64) W A l.length l) (hc : l.length ≤ c) (hl : l.length ≤ 1000) :
    PredK (fun id => !decide (id ∈ l)) 27 #[.pointer (some ⟨b, 0, none⟩)] k w := by
  intro W x hW
  have c0 := blk_cell (hW.blk hb h1) 0
  have hcall := contains_any A c l.length l x W rfl (hr W hW) hc hl
  show Calls Try.prog 27 #[.int .i64 x, .pointer (some ⟨b, 0, none⟩)] W fun e w' => e = .returned (.bool (!decide (x ∈ l))) ∧ Below W.heap.size W w'
  generalize decide (x ∈ l) = q at hcall ⊢
  clear hW hb hr
  go_enter Try.func27, Try.ntmps27
  go_wp2_with fail
  refine hcall.mono ?_
  rintro e w' ⟨rfl, hb'⟩
  clear hcall
  go_wp2_with fail
  go_ret
  exact ⟨rfl, hb'⟩
theorem enters_27 : ∀ args w, (callFunc 27 args).run Try.prog w = .ok (.enter 27 args) w := enters' Try.func27 (by kernel_rfl) rfl
set_option maxHeartbeats 1600000 in
theorem respects_any (A : Option Addr) (c : Nat) (h : List S47) (A2 : Option Addr) (c2 : Nat) (l : List Int) (w : World) (hr : Kd.C k47 w A h.length h) (hc : h.length ≤ c) (hl : h.length ≤ 1000) (hr2 : Kd.C (Kd.int .i64) w A2 l.length l) (hc2 : l.length ≤ c2) (hl2 : l.length ≤ 1000) :
    Calls Try.prog 17 #[.slice A h.length c, .slice A2 l.length c2] w fun e w' => e = .returned (.bool (respH h l)) ∧ Below w.heap.size w w' := by
  have HR := Aside0.mk hr
  have HR2 := Aside0.mk hr2
  have HBX0 := Aside0.mk (blk_new w (.cells #[.slice A2 l.length c2] 24))
  have HBW0 := Aside0.mk ((Below.refl w.heap.size w).alloc (Nat.le_refl _) (.cells #[.slice A2 l.length c2] 24))
  clear hr hr2
  have HQ := Aside0.mk (show respH h l = (rightH h && (respF h [] l && (ofL h 3).all fun id => decide (id ∈ l))) from rfl)
  generalize respH h l = q at *
  go_enter Try.func17, Try.ntmps17
  go_wp2_with fail
  generalize hw0 : (w.alloc (.cells #[.slice A2 l.length c2] 24)) = w0 at *
  have HP := places_any A c h w0 (Kd.C_below HR.out HBW0.out)
  refine HP.mono ?_
  clear HP
  rintro e w1 hd
  rcases hd with ⟨hq, g, rfl, hm, hb⟩ | ⟨hq, rfl, hb⟩
  · have HH := Aside0.mk hq
    have HM := Aside0.mk hm
    have HBW := Aside0.mk (HBW0.out.trans (hb.mono HBW0.out.size))
    have HBX := Aside0.mk (blk_below HBX0.out hb)
    have hlt0 := blk_lt HBX0.out
    have HG1 := Aside0.mk hb.size
    have c3 := blk_cell HBX.out 0
    clear hq hm hb hw0 HBW0 HBX0
    generalize hbx : w.heap.size = bx at *
    go_wp2_with fail
    have HRl := Aside0.mk (Kd.C_below HR2.out (show Below w.heap.size w w1 from by rw [hbx]; exact HBW.out))
    have HRh := Aside0.mk (Kd.C_below HR.out (show Below w.heap.size w w1 from by rw [hbx]; exact HBW.out))
    clear HR HR2 c3 hlt0
    have HGL := Aside0.mk (And.intro HM.out.lt (blk_lt HBX.out))
    have HBT := Aside0.mk (show ∀ W, Below w1.heap.size w1 W → Below w.heap.size w W from fun W hW => by rw [hbx]; exact HBW.out.trans (hW.mono (by rw [← hbx]; exact HBW.out.size)))
    have HBN := Aside0.mk hbx
    clear hbx
    go_loopw [7, 21] (fun la c wr => ∃ j : Nat, j ≤ l.length ∧ c = .int .i64 j ∧ la = .int .i64 (lastE h (l.take j)) ∧ Aside0 (respF h [] (l.take j) = true) ∧ Aside0 (Below w1.heap.size w1 wr)) (fun _ c _ => l.length - (intOf c).toNat)
    case atStart => exact ⟨0, Nat.zero_le _, rfl, rfl, ⟨rfl⟩, ⟨Below.refl _ _⟩⟩
    case round =>
      obtain ⟨j, hj, rfl, rfl, HRF, HB⟩ := hrel
      by_cases hlt : j < l.length
      · have hjl : (j : Int) < (l.length : Int) := by omega
        have HCl := Aside0.mk (Kd.C_below HRl.out HB.out)
        obtain ⟨ad, e, x0⟩ := (Kd.reads_of_C (d := (0 : Int)) HCl.out).at_ (j : Int) (by omega) (by omega)
        cases e
        rw [Int.toNat_natCast] at x0
        have er : rdOf 0 l (j : Int) = l[j] := by unfold rdOf; rw [Int.toNat_natCast, List.getD_eq_getElem?_getD, List.getElem?_eq_getElem hlt]; rfl
        rw [er] at x0
        have HST := Aside0.mk (respF_step h l j hlt)
        have HNO := Aside0.mk (respF_not h l j hlt)
        have HLS := Aside0.mk (lastE_step h l j hlt)
        have c3 := blk_cell (blk_below HBX.out HB.out) 0
        have hct := contains_any (some ad) c2 j (l.take j) l[j] 
        have HMr := HM.out.below HB.out
        clear er
        generalize l[j] = id at *
        have l1 : ∀ n, (Instr.lookup 50 (.map (some g)) (.agg #[.int .i64 1, .int .i64 id]) false).run Try.prog (wr.drewN n) = .ok (.int .i64 (posE h ⟨1, id⟩)) (wr.drewN n) := fun n => look_e g (idxL h) ⟨1, id⟩ _ HMr.drewN
        have l2 : ∀ n, (Instr.lookup 50 (.map (some g)) (.agg #[.int .i64 3, .int .i64 id]) false).run Try.prog (wr.drewN n) = .ok (.int .i64 (posE h ⟨3, id⟩)) (wr.drewN n) := fun n => look_e g (idxL h) ⟨3, id⟩ _ HMr.drewN
        have HCT := Aside0.mk (fun n => hct (wr.drewN n) (by rw [List.length_take]; omega) (Kd.C_below (C_take HCl.out j hj) (below_drewN (Below.refl _ wr) n)) (by omega) (by omega))
        clear hct HMr
        have HOK := Aside0.mk (show okStep h (l.take j) id = (!(posE h ⟨1, id⟩ == 0) && (!decide (id ∈ l.take j) && !(decide (0 < posE h ⟨3, id⟩) && decide (posE h ⟨3, id⟩ < lastE h (l.take j))))) from rfl)
        generalize okStep h (l.take j) id = ok at HST HNO HOK
        generalize lastE h (l.take j) = L at *
        generalize posE h ⟨1, id⟩ = v1 at *
        generalize posE h ⟨3, id⟩ = v2 at *
        generalize decide (id ∈ l.take j) = b1 at *
        cases m0 : (v1 == 0) with
        | true =>
          have HF := Aside0.mk (show q = false from by rw [HQ.out, HNO.out (by rw [HOK.out, m0]; rfl)]; simp)
          go_wp2_with fail
          go_quiet (fail)
          go_wp2_with fail
          go_ret
          exact ⟨by rw [HF.out]; rfl, HBT.out _ (below_drewN HB.out nq)⟩
        | false =>
          go_wp2_with fail
          go_quiet (fail)
          have c4 : (wr.drewN nq).cell? ⟨bx, 0, none⟩ = #[Value.slice (some ad) l.length c2][0]? := c3
          have hcall := HCT.out nq
          have HB2 := Aside0.mk (below_drewN HB.out nq)
          clear c3 x0 l1 l2
          generalize wr.drewN nq = w2 at *
          go_wp2_with fail
          refine hcall.mono ?_
          rintro e w3 ⟨rfl, hb3⟩
          have HB3 := Aside0.mk (HB2.out.trans (hb3.mono HB2.out.size))
          clear hcall hb3 c4
          cases m1 : b1 with
          | true =>
            subst m1
            have HF := Aside0.mk (show q = false from by rw [HQ.out, HNO.out (by rw [HOK.out, m0]; rfl)]; simp)
            go_wp2_with fail
            go_ret
            exact ⟨by rw [HF.out]; rfl, HBT.out _ HB3.out⟩
          | false =>
            subst m1
            cases m2 : decide (0 < v2) with
            | false =>
              have HF := Aside0.mk (show ok = true from by rw [HOK.out, m0, m2]; rfl)
              go_wp2_with fail
              go_roundw
              case rel => exact ⟨j + 1, by omega, by go_num, by rw [HLS.out]; congr 1; omega, ⟨by rw [HST.out, HRF.out, HF.out]; rfl⟩, HB3⟩
              case measure => simp [intOf]; omega
            | true =>
              cases m3 : decide (v2 < L) with
              | true =>
                have HF := Aside0.mk (show q = false from by rw [HQ.out, HNO.out (by rw [HOK.out, m0, m2, m3]; rfl)]; simp)
                go_wp2_with fail
                go_ret
                exact ⟨by rw [HF.out]; rfl, HBT.out _ HB3.out⟩
              | false =>
                have HF := Aside0.mk (show ok = true from by rw [HOK.out, m0, m2, m3]; rfl)
                go_wp2_with fail
                go_roundw
                case rel => exact ⟨j + 1, by omega, by go_num, by rw [HLS.out]; congr 1; omega, ⟨by rw [HST.out, HRF.out, HF.out]; rfl⟩, HB3⟩
                case measure => simp [intOf]; omega
      · obtain rfl : j = l.length := by omega
        rw [List.take_length] at HRF
        have HRq := Aside0.mk (show q = (ofL h 3).all fun id => decide (id ∈ l) from by rw [HQ.out, HH.out, HRF.out]; rfl)
        have hof := of_any A c h 3 wr (Kd.C_below HRh.out HB.out) hc hl
        go_wp2_with fail
        refine hof.mono ?_
        rintro e w2 ⟨v, rfl, hr2, hb2⟩
        obtain ⟨A3, c3, rfl, hc3, hC3⟩ := Kd.R_reads hr2
        have HB2 := Aside0.mk (HB.out.trans (hb2.mono HB.out.size))
        have HBX2 := Aside0.mk (blk_below HBX.out HB2.out)
        have HL3 := Aside0.mk (ofL_le h 3)
        have hcf := cf_any A3 c3 (ofL h 3) (fun id => !decide (id ∈ l)) 27 #[.pointer (some ⟨bx, 0, none⟩)] w2.heap.size enters_27 w2 hC3 (by have := HL3.out; omega) (pred_respects A2 c2 l bx w2.heap.size w2 HBX2.out (by have := blk_lt HBX2.out; omega) (fun W hW => Kd.C_below (Kd.C_below HRl.out HB2.out) ⟨hW.os, hW.tape, hW.output, hW.size, fun i hi => hW.block i hi (by omega)⟩) hc2 hl2)
        clear hof hb2 hr2 hC3 hc3
        have HRq2 := Aside0.mk (show (!((ofL h 3).any fun id => !decide (id ∈ l))) = q from by rw [HRq.out, List.all_eq_not_any_not])
        generalize ((ofL h 3).any fun id => !decide (id ∈ l)) = b2 at *
        generalize (ofL h 3) = l3 at *
        go_wp2_with fail
        refine hcf.mono ?_
        rintro e w3 ⟨rfl, hb3⟩
        have HB3 := Aside0.mk (HB2.out.trans (hb3.mono HB2.out.size))
        clear hcf hb3
        go_wp2_with fail
        go_ret
        exact ⟨by rw [← HRq2.out]; rfl, HBT.out _ HB3.out⟩
  · have HB := Aside0.mk (HBW0.out.trans (hb.mono HBW0.out.size))
    have HF := Aside0.mk (show q = false from by rw [HQ.out, hq]; rfl)
    clear hq hb
    go_wp2_with fail
    go_ret
    exact ⟨by rw [HF.out]; rfl, HB.out⟩
end Go.Proofs.Ytncdeappiooccaa.H
