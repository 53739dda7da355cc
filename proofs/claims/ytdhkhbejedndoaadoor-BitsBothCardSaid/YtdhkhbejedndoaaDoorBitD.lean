/- same: walked. -/
import Derived.Test.YtdhkhbejedndoaaDoorBitC
namespace Go.Proofs.YtdhkhbejedndoaaDoor.H
open Go.RowKit Go.Proofs.YtdhkhbejedndoaaDoor.P Go.Proofs.YtdhkhbejedndoaaDoorW.PrintWords Go.Proofs.YtdhkhbejedndoaaDoorW.PrintLast Go.Proofs.YtdhkhbejedndoaaDoorW.PrintMore
set_option linter.unusedVariables false
set_option linter.unusedSimpArgs false
theorem cntF_congr {f g : Nat → Bool} (n : Nat) (h : ∀ i, f i = g i) : cntF f n = cntF g n := by rw [show f = g from funext h]
theorem idxF_length (f : Nat → Bool) : ∀ d k, (idxF f k d).length = cntF (fun i => f (k + i)) d
  | 0, k => rfl
  | d + 1, k => by
    have ih := idxF_length f d (k + 1)
    have e : cntF (fun i => f (k + i)) (1 + d) = cntF (fun i => f (k + i)) 1 + cntF (fun i => f (k + 1 + i)) d := by
      rw [cntF_add]
      exact congrArg (_ + ·) (cntF_congr d (fun i => by rw [Nat.add_assoc]))
    rw [Nat.add_comm d 1, e, ← ih, Nat.add_comm 1 d, idxF]
    cases hb : f k with
    | true => rw [if_pos rfl, List.length_cons]; simp only [cntF, Nat.add_zero, hb]; simp only [if_true]; omega
    | false => rw [if_neg Bool.false_ne_true]; simp only [cntF, Nat.add_zero, hb]; simp
theorem listM_length (m : List Bool) : (listM m).length = cntM m := by
  unfold listM cntM
  rw [idxF_length]
  exact cntF_congr _ (fun i => by rw [Nat.zero_add])
theorem cntM_le (m : List Bool) : cntM m ≤ m.length := cntF_le _ _
set_option maxRecDepth 20000 in
set_option maxHeartbeats 4000000 in
theorem same_any (m : List Bool) (P A : Option Addr) (c : Nat) (w : World) (h : SetAt w P m) (hm : m.length ≤ 1024) (hT : TabAt 0 Lib.deBruijn64tab w) (hA : Kd.C Kd.bool w A m.length m) (hc : m.length ≤ c) :
    Calls Tryd.prog 15 #[.pointer P, .slice A m.length c] w fun e w' => e = .returned (.bool true) ∧ Below w.heap.size w w' := by
  have HT := Aside0.mk hT
  have HM := Aside0.mk hm
  have HH := Aside0.mk h
  obtain ⟨kL, hkL⟩ := (list_ev m hm).rounds
  have hli := waystoneref06_List.calls kL A c m (listM m) w hA hc hkL
  have HLL := Aside0.mk (listM_length m)
  have HCL := Aside0.mk (cntM_le m)
  clear h hm hT hA hc hkL
  generalize hl : listM m = L at *
  have HL := Aside0.mk hl
  clear hl
  go_enter Tryd.func15, Tryd.ntmps15
  go_wp2_with fail
  refine hli.mono ?_
  rintro e w1 ⟨v, rfl, hv, hb⟩
  obtain ⟨A1, c1, rfl, hc1, hC1⟩ := Kd.R_reads hv
  have HB1 := Aside0.mk hb
  have HC1 := Aside0.mk hC1
  have HCC := Aside0.mk hc1
  clear hli hv hb hC1 hc1
  have hs := size_any P m w1 (HH.out.below HB1.out)
  go_wp2_with fail
  refine hs.mono ?_
  rintro e w2 ⟨rfl, rfl⟩
  clear hs
  go_wp2_with fail
  have hlen := Len_any m P w2 (HH.out.below HB1.out) HM.out
  rw [← HLL.out] at hlen
  refine hlen.mono ?_
  rintro e w3 ⟨rfl, hb⟩
  have HB3 := Aside0.mk (HB1.out.trans (hb.mono HB1.out.size))
  have HC3 := Aside0.mk (Kd.C_below HC1.out hb)
  clear hlen hb
  go_wp2_with fail
  have hlist := List_any m P w3 (HH.out.below HB3.out) HM.out (tab_below HT.out HB3.out)
  rw [HL.out] at hlist
  refine hlist.mono ?_
  rintro e w4 ⟨⟨v, rfl, hv⟩, hb⟩
  have HB4 := Aside0.mk (HB3.out.trans (hb.mono HB3.out.size))
  have HC4 := Aside0.mk (Kd.C_below HC3.out hb)
  obtain ⟨A2, c2, rfl, hc2, hC2⟩ := Kd.R_reads hv
  have HC2 := Aside0.mk hC2
  have HCC2 := Aside0.mk hc2
  clear hlist hv hb hC2 hc2
  obtain ⟨kI, hkI⟩ := (ints_ev L L (by rw [HLL.out]; have := HCL.out; have := HM.out; omega)).rounds
  rw [decide_eq_true rfl] at hkI
  have hin := waystoneref06_Ints.calls kI A2 c2 L A1 c1 L true w4 HC2.out HCC2.out HC4.out HCC.out hkI
  clear hkI
  go_wp2_with fail
  refine hin.mono ?_
  rintro e w5 ⟨rfl, hd⟩
  obtain ⟨d, rfl⟩ := hd
  clear hin
  go_wp2_with fail
  go_ret
  exact ⟨rfl, below_drewN HB4.out d⟩
end Go.Proofs.YtdhkhbejedndoaaDoor.H
