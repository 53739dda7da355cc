/- Of at any size; alive: walked. -/
import Derived.Test.YtdhkhbejedndoaaDoorBitB
namespace Go.Proofs.YtdhkhbejedndoaaDoor.H
open Go.RowKit Go.Proofs.YtdhkhbejedndoaaDoor.P Go.Proofs.YtdhkhbejedndoaaDoorW.PrintWords Go.Proofs.YtdhkhbejedndoaaDoorW.PrintLast Go.Proofs.YtdhkhbejedndoaaDoorW.PrintMore
set_option linter.unusedVariables false
set_option linter.unusedSimpArgs false
theorem Of_int (size : Int) (A : Option Addr) (c : Nat) (l : List Int) (w : World) (hr : Kd.C (Kd.int .i64) w A l.length l) (hl : l.length ≤ 9223372036854775807) :
    Calls Tryd.prog 8 #[.int .i64 size, .slice A l.length c] w fun e w' => OfAt (ofM size l) w e w' := by
  by_cases h : size < 0 ∨ 1024 < size
  · have hn := new_no size w h
    have HE := Aside0.mk (show ofM size l = none from by rw [ofM, if_pos h])
    clear hr h
    go_enter Tryd.func8, Tryd.ntmps8
    go_wp2_with fail
    refine hn.mono ?_
    rintro e w1 ⟨rfl, rfl⟩
    clear hn
    go_wp2_with fail
    go_ret2
    exact ⟨.inl ⟨HE.out, rfl⟩, Below.refl _ _⟩
  · obtain ⟨n, rfl⟩ : ∃ n : Nat, size = (n : Int) := ⟨size.toNat, by omega⟩
    have := of_any n A c l w (by omega) hr (by omega)
    rwa [show ofM (n : Int) l = layL (List.replicate n false) l from by rw [ofM, if_neg h, Int.toNat_natCast]]
theorem C_lit3 (w : World) (a b c : Int) (e : Nat) : Kd.C (Kd.int .i64) (w.alloc (.cells #[.int .i64 a, .int .i64 b, .int .i64 c] e)) (some ⟨w.heap.size, 0, none⟩) 3 [a, b, c] := by
  refine ⟨rfl, by decide, fun _ => ⟨_, rfl, fun j p hj => ⟨[.int .i64 p], rfl, rfl, fun i u hi => ?_⟩⟩⟩
  have hB := blk_new w (.cells #[.int .i64 a, .int .i64 b, .int .i64 c] e)
  match i, hi with
  | 0, hi =>
    cases hi
    match j, hj with
    | 0, hj => cases hj; exact blk_cell hB 0
    | 1, hj => cases hj; exact blk_cell hB 1
    | 2, hj => cases hj; exact blk_cell hB 2
def sA : List Bool := (((List.replicate 100 false).set 3 true).set 70 true).set 99 true
def sB : List Bool := setR sA 68 4
theorem eA : ofM 100 [3, 70, 99] = some sA := by kernel_rfl
theorem eB : withM sA 68 72 = some sB := by kernel_rfl
theorem lA : sA.length = 100 := by kernel_rfl
theorem lB : sB.length = 100 := by kernel_rfl
theorem nB : nextM sB (4 : Int).toNat = some 68 := by kernel_rfl
theorem cA : cntM sA = 3 := by kernel_rfl
theorem cB : cntM sB = 6 := by kernel_rfl
theorem cN : cntM (notM sA) = 97 := by kernel_rfl
theorem h70 : hasM sA 70 = true := by kernel_rfl
theorem h71 : hasM sA 71 = false := by kernel_rfl
set_option maxRecDepth 20000 in
set_option maxHeartbeats 4000000 in
theorem alive_any (w : World) (hT : TabAt 0 Lib.deBruijn64tab w) : Calls Tryd.prog 10 #[] w fun e w' => e = .returned (.bool true) ∧ Below w.heap.size w w' := by
  have HT := Aside0.mk hT
  clear hT
  go_enter Tryd.func10, Tryd.ntmps10
  go_wp2_with fail
  have hn6 : Below w.heap.size w (w.alloc (.cells #[.int .i64 3, .int .i64 70, .int .i64 99] 3)) := (Below.refl w.heap.size w).alloc (Nat.le_refl _) _
  have hc := C_lit3 w 3 70 99 3
  generalize (w.alloc (.cells #[.int .i64 3, .int .i64 70, .int .i64 99] 3)) = w1 at *
  have HB1 := Aside0.mk hn6
  have hof := Of_int 100 _ 3 [3, 70, 99] w1 hc (by decide)
  clear hn6 hc
  rw [eA] at hof
  refine hof.mono ?_
  rintro e w2 ⟨h, hb⟩
  have HB2 := Aside0.mk (HB1.out.trans (hb.mono HB1.out.size))
  rcases h with ⟨h, _⟩ | ⟨m, gA, h, rfl, hs⟩
  · cases h
  cases h
  have HA2 := Aside0.mk hs.to
  clear hof hb hs
  go_wp2_with fail
  have hw := with_any _ sA 68 72 w2 HA2.out (by rw [lA]; decide)
  rw [eB] at hw
  refine hw.mono ?_
  rintro e w3 ⟨h, hb⟩
  have HB3 := Aside0.mk (HB2.out.trans (hb.mono HB2.out.size))
  have HA3 := Aside0.mk (HA2.out.below hb)
  rcases h with ⟨h, _⟩ | ⟨m, gB, h, rfl, hs⟩
  · cases h
  cases h
  have HBB3 := Aside0.mk hs.to
  clear hw hb hs HA2
  go_wp2_with fail
  have hn := Next_any sB _ 4 w3 HBB3.out (by rw [lB]; decide) (tab_below HT.out HB3.out)
  rw [nB] at hn
  refine hn.mono ?_
  rintro e w4 ⟨rfl, hb⟩
  have HB4 := Aside0.mk (HB3.out.trans (hb.mono HB3.out.size))
  have HA4 := Aside0.mk (HA3.out.below hb)
  have HBB4 := Aside0.mk (HBB3.out.below hb)
  clear hn hb HA3 HBB3
  unfold nextV
  simp only [Option.getD_some, Option.isSome_some]
  go_wp2_with fail
  have h1 := Len_any sA _ w4 HA4.out (by rw [lA]; decide)
  rw [cA] at h1
  refine h1.mono ?_
  rintro e w5 ⟨rfl, hb⟩
  have HB5 := Aside0.mk (HB4.out.trans (hb.mono HB4.out.size))
  have HA5 := Aside0.mk (HA4.out.below hb)
  have HBB5 := Aside0.mk (HBB4.out.below hb)
  clear h1 hb HA4 HBB4
  go_wp2_with fail
  have h1 := Len_any sB _ w5 HBB5.out (by rw [lB]; decide)
  rw [cB] at h1
  refine h1.mono ?_
  rintro e w6 ⟨rfl, hb⟩
  have HB6 := Aside0.mk (HB5.out.trans (hb.mono HB5.out.size))
  have HA6 := Aside0.mk (HA5.out.below hb)
  clear h1 hb HA5 HBB5
  go_wp2_with fail
  refine (Not_any sA _ w6 HA6.out (by rw [lA]; decide)).mono ?_
  rintro e w7 ⟨⟨gN, rfl, hN⟩, hb⟩
  have HB7 := Aside0.mk (HB6.out.trans (hb.mono HB6.out.size))
  have HA7 := Aside0.mk (HA6.out.below hb)
  have HN := Aside0.mk hN
  clear hb hN HA6
  go_wp2_with fail
  have h1 := Len_any (notM sA) _ w7 HN.out (by rw [notM_len, lA]; decide)
  rw [cN] at h1
  refine h1.mono ?_
  rintro e w8 ⟨rfl, hb⟩
  have HB8 := Aside0.mk (HB7.out.trans (hb.mono HB7.out.size))
  have HA8 := Aside0.mk (HA7.out.below hb)
  clear h1 hb HA7
  go_wp2_with fail
  have h1 := Has_any sA _ 70 w8 HA8.out (by rw [lA]; decide)
  rw [h70] at h1
  refine h1.mono ?_
  rintro e w9 ⟨rfl, rfl⟩
  clear h1
  go_wp2_with fail
  have h1 := Has_any sA _ 71 w9 HA8.out (by rw [lA]; decide)
  rw [h71] at h1
  refine h1.mono ?_
  rintro e w10 ⟨rfl, rfl⟩
  clear h1
  go_wp2_with fail
  go_ret
  exact ⟨rfl, HB8.out⟩
end Go.Proofs.YtdhkhbejedndoaaDoor.H
