/- BitsNil: walked. -/
import Derived.Test.YtdhkhbejedndoaaDoorBitD
namespace Go.Proofs.YtdhkhbejedndoaaDoor.H
open Go.RowKit Go.Proofs.YtdhkhbejedndoaaDoor.P Go.Proofs.YtdhkhbejedndoaaDoorW.PrintWords Go.Proofs.YtdhkhbejedndoaaDoorW.PrintLast Go.Proofs.YtdhkhbejedndoaaDoorW.PrintMore
set_option linter.unusedVariables false
set_option linter.unusedSimpArgs false
theorem setNil (w : World) : SetAt w none [] := .inl ⟨rfl, rfl⟩
theorem hasM_nil (i : Int) : hasM [] i = false := by
  unfold hasM
  cases h : decide (0 ≤ i) with
  | false => rfl
  | true => have := of_decide_eq_true h; rw [decide_eq_false (by rw [List.length_nil]; omega)]; rfl
set_option maxRecDepth 20000 in
set_option maxHeartbeats 4000000 in
theorem bitsNil_any (i : Int) (w : World) (hi : (Lit.int .i64 i).wf = true) (hT : TabAt 0 Lib.deBruijn64tab w) : Calls Tryd.prog 5 #[.int .i64 i] w fun e w' => e = .returned (.bool true) ∧ Below w.heap.size w w' := by
  have HT := Aside0.mk hT
  have HN := Aside0.mk (show (0 : Nat) = ([] : List Bool).length from rfl)
  have hn := Next_any [] none i w (setNil w) (by decide) hT
  rw [nextM_none [] i.toNat (fun p _ => rfl)] at hn
  clear hT
  go_enter Tryd.func5, Tryd.ntmps5
  go_wp2_with fail
  refine hn.mono ?_
  rintro e w1 ⟨rfl, hb⟩
  have HB1 := Aside0.mk hb
  clear hn hb
  unfold nextV
  simp only [Option.getD_none, Option.isSome_none]
  go_wp2_with fail
  have hw := with_any none [] 0 0 w1 (setNil _) (by decide)
  rw [show withM [] 0 0 = some [] from by kernel_rfl] at hw
  refine hw.mono ?_
  rintro e w2 ⟨h, hb⟩
  have HB2 := Aside0.mk (HB1.out.trans (hb.mono HB1.out.size))
  rcases h with ⟨h, _⟩ | ⟨m, gA, h, rfl, hs⟩
  · cases h
  cases h
  have HA2 := Aside0.mk hs.to
  clear hw hb hs
  go_wp2_with fail
  have hw := with_any none [] 0 1 w2 (setNil _) (by decide)
  rw [show withM [] 0 1 = none from by kernel_rfl] at hw
  refine hw.mono ?_
  rintro e w3 ⟨h, hb⟩
  have HB3 := Aside0.mk (HB2.out.trans (hb.mono HB2.out.size))
  have HA3 := Aside0.mk (HA2.out.below hb)
  rcases h with ⟨_, rfl⟩ | ⟨m, g0, h, _⟩
  rotate_left
  · cases h
  clear hw hb HA2
  go_wp2_with fail
  have ho := Or_any [] [] none _ w3 (setNil _) HA3.out (by decide)
  rw [show (if ([] : List Bool).length = ([] : List Bool).length then some (bothM (· || ·) [] []) else none) = some [] from by kernel_rfl] at ho
  refine ho.mono ?_
  rintro e w4 ⟨h, hb⟩
  have HB4 := Aside0.mk (HB3.out.trans (hb.mono HB3.out.size))
  rcases h with ⟨h, _⟩ | ⟨m, gU, h, rfl, hs⟩
  · cases h
  cases h
  have HU4 := Aside0.mk hs.to
  clear ho hb hs HA3
  go_wp2_with fail
  refine (alive_any w4 (tab_below HT.out HB4.out)).mono ?_
  rintro e w5 ⟨rfl, hb⟩
  have HB5 := Aside0.mk (HB4.out.trans (hb.mono HB4.out.size))
  have HU5 := Aside0.mk (HU4.out.below hb)
  clear hb HU4
  go_wp2_with fail
  have h1 := size_any none [] w5 (setNil _)
  rw [← HN.out] at h1
  refine h1.mono ?_
  rintro e w6 ⟨rfl, rfl⟩
  clear h1
  go_wp2_with fail
  have h1 := Has_any [] none i w6 (setNil _) (by decide)
  rw [hasM_nil] at h1
  refine h1.mono ?_
  rintro e w7 ⟨rfl, rfl⟩
  clear h1
  go_wp2_with fail
  have h1 := Len_any [] none w7 (setNil _) (by decide)
  rw [show cntM [] = 0 from rfl] at h1
  refine h1.mono ?_
  rintro e w8 ⟨rfl, hb⟩
  have HB8 := Aside0.mk (HB5.out.trans (hb.mono HB5.out.size))
  have HU8 := Aside0.mk (HU5.out.below hb)
  clear h1 hb HU5
  go_wp2_with fail
  have h1 := List_any [] none w8 (setNil _) (by decide) (tab_below HT.out HB8.out)
  rw [show listM [] = [] from rfl] at h1
  refine h1.mono ?_
  rintro e w9 ⟨⟨v, rfl, hv⟩, hb⟩
  have HB9 := Aside0.mk (HB8.out.trans (hb.mono HB8.out.size))
  have HU9 := Aside0.mk (HU8.out.below hb)
  obtain ⟨A2, c2, rfl, _, _⟩ := Kd.R_reads hv
  clear h1 hb hv HU8
  simp only [List.length_nil]
  go_wp2_with fail
  have h1 := size_any _ [] w9 HU9.out
  rw [← HN.out] at h1
  refine h1.mono ?_
  rintro e w10 ⟨rfl, rfl⟩
  clear h1
  go_wp2_with fail
  have h1 := Not_any [] none w10 (setNil _) (by decide)
  rw [show notM [] = [] from by kernel_rfl] at h1
  refine h1.mono ?_
  rintro e w11 ⟨⟨g, rfl, hs⟩, hb⟩
  have HB11 := Aside0.mk (HB9.out.trans (hb.mono HB9.out.size))
  have HX11 := Aside0.mk hs
  clear h1 hb hs HU9
  go_wp2_with fail
  have h1 := size_any _ [] w11 HX11.out
  rw [← HN.out] at h1
  refine h1.mono ?_
  rintro e w12 ⟨rfl, rfl⟩
  clear h1
  go_wp2_with fail
  go_ret
  exact ⟨rfl, HB11.out⟩
end Go.Proofs.YtdhkhbejedndoaaDoor.H
