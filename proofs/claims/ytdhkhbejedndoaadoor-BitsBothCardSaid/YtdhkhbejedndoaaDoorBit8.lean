/- And, Or, Minus, Not, Len, Has: walked. -/
import Derived.Test.YtdhkhbejedndoaaDoorBit7
namespace Go.Proofs.YtdhkhbejedndoaaDoor.H
open Go.RowKit Go.Proofs.YtdhkhbejedndoaaDoor.P Go.Proofs.YtdhkhbejedndoaaDoorW.PrintWords Go.Proofs.YtdhkhbejedndoaaDoorW.PrintLast Go.Proofs.YtdhkhbejedndoaaDoorW.PrintMore
set_option linter.unusedVariables false
set_option linter.unusedSimpArgs false
theorem And_any (m1 m2 : List Bool) (P1 P2 : Option Addr) (w : World) (h1 : SetAt w P1 m1) (h2 : SetAt w P2 m2) (hm1 : m1.length ≤ 1024) :
    Calls Tryd.prog 21 #[.pointer P1, .pointer P2] w fun e w' => OfAt (if m2.length = m1.length then some (bothM (· && ·) m1 m2) else none) w e w' := by
  have hc := both_and m1 m2 P1 P2 w h1 h2 hm1
  clear h1 h2 hm1
  generalize (if m2.length = m1.length then some (bothM (· && ·) m1 m2) else none) = r at *
  go_enter Tryd.func21, Tryd.ntmps21
  go_wp2_with fail
  refine hc.mono ?_
  rintro e w1 ⟨h, hb⟩
  have HB := Aside0.mk hb
  clear hc hb
  rcases h with ⟨rfl, rfl⟩ | ⟨m, g, rfl, rfl, hs⟩
  · go_wp2_with fail
    go_ret2
    exact ⟨.inl ⟨rfl, rfl⟩, HB.out⟩
  · have HS := Aside0.mk hs
    clear hs
    go_wp2_with fail
    go_ret2
    exact ⟨.inr ⟨m, g, rfl, rfl, HS.out⟩, HB.out⟩
theorem Or_any (m1 m2 : List Bool) (P1 P2 : Option Addr) (w : World) (h1 : SetAt w P1 m1) (h2 : SetAt w P2 m2) (hm1 : m1.length ≤ 1024) :
    Calls Tryd.prog 16 #[.pointer P1, .pointer P2] w fun e w' => OfAt (if m2.length = m1.length then some (bothM (· || ·) m1 m2) else none) w e w' := by
  have hc := both_or m1 m2 P1 P2 w h1 h2 hm1
  clear h1 h2 hm1
  generalize (if m2.length = m1.length then some (bothM (· || ·) m1 m2) else none) = r at *
  go_enter Tryd.func16, Tryd.ntmps16
  go_wp2_with fail
  refine hc.mono ?_
  rintro e w1 ⟨h, hb⟩
  have HB := Aside0.mk hb
  clear hc hb
  rcases h with ⟨rfl, rfl⟩ | ⟨m, g, rfl, rfl, hs⟩
  · go_wp2_with fail
    go_ret2
    exact ⟨.inl ⟨rfl, rfl⟩, HB.out⟩
  · have HS := Aside0.mk hs
    clear hs
    go_wp2_with fail
    go_ret2
    exact ⟨.inr ⟨m, g, rfl, rfl, HS.out⟩, HB.out⟩
theorem Minus_any (m1 m2 : List Bool) (P1 P2 : Option Addr) (w : World) (h1 : SetAt w P1 m1) (h2 : SetAt w P2 m2) (hm1 : m1.length ≤ 1024) :
    Calls Tryd.prog 22 #[.pointer P1, .pointer P2] w fun e w' => OfAt (if m2.length = m1.length then some (bothM (fun a b => a && !b) m1 m2) else none) w e w' := by
  have hc := both_minus m1 m2 P1 P2 w h1 h2 hm1
  clear h1 h2 hm1
  generalize (if m2.length = m1.length then some (bothM (fun a b => a && !b) m1 m2) else none) = r at *
  go_enter Tryd.func22, Tryd.ntmps22
  go_wp2_with fail
  refine hc.mono ?_
  rintro e w1 ⟨h, hb⟩
  have HB := Aside0.mk hb
  clear hc hb
  rcases h with ⟨rfl, rfl⟩ | ⟨m, g, rfl, rfl, hs⟩
  · go_wp2_with fail
    go_ret2
    exact ⟨.inl ⟨rfl, rfl⟩, HB.out⟩
  · have HS := Aside0.mk hs
    clear hs
    go_wp2_with fail
    go_ret2
    exact ⟨.inr ⟨m, g, rfl, rfl, HS.out⟩, HB.out⟩
/-- All numbers; what a set has not. -/
def allM (n : Nat) : List Bool := setR (List.replicate n false) 0 n
def notM (m : List Bool) : List Bool := bothM (fun a b => a && !b) (allM m.length) m
theorem allM_len (n : Nat) : (allM n).length = n := by unfold allM; rw [setR_len, List.length_replicate]
theorem notM_len (m : List Bool) : (notM m).length = m.length := by unfold notM; rw [bothM_len, allM_len]
set_option maxHeartbeats 1600000 in
theorem Not_any (m : List Bool) (P : Option Addr) (w : World) (h : SetAt w P m) (hm : m.length ≤ 1024) :
    Calls Tryd.prog 20 #[.pointer P] w fun e w' => (∃ g, e = .returned (.pointer (some ⟨g, 0, none⟩)) ∧ SetAt w' (some ⟨g, 0, none⟩) (notM m)) ∧ Below w.heap.size w w' := by
  have hs := size_any P m w h
  have HN := Aside0.mk (new_yes m.length w hm)
  have HH := Aside0.mk h
  have HM := Aside0.mk hm
  have HW := Aside0.mk (show withM (List.replicate m.length false) 0 (m.length : Nat) = some (allM m.length) from by
    unfold withM allM
    rw [if_pos (by rw [List.length_replicate]; omega), show ((m.length : Nat) : Int) - 0 = (m.length : Nat) by omega, Int.toNat_natCast]
    rfl)
  have HW1 := Aside0.mk (fun Q W hQ => with_any Q (List.replicate m.length false) 0 (m.length : Nat) W hQ (by rw [List.length_replicate]; exact hm))
  have HSZ := Aside0.mk (fun W hW => size_any P m W hW)
  clear h hm
  go_enter Tryd.func20, Tryd.ntmps20
  go_wp2_with fail
  refine hs.mono ?_
  rintro e w1 ⟨rfl, rfl⟩
  clear hs
  go_wp2_with fail
  refine HN.out.mono ?_
  rintro e w2 ⟨⟨g, rfl, hg⟩, hb⟩
  have HG := Aside0.mk hg.to
  have HB2 := Aside0.mk hb
  have hs2 := HSZ.out _ (HH.out.below hb)
  clear hg hb
  go_wp2_with fail
  refine hs2.mono ?_
  rintro e w3 ⟨rfl, rfl⟩
  clear hs2
  have hw := HW1.out _ _ HG.out
  rw [HW.out] at hw
  go_wp2_with fail
  refine hw.mono ?_
  rintro e w4 ⟨h, hb⟩
  have HB4 := Aside0.mk (HB2.out.trans (hb.mono HB2.out.size))
  clear hw hb
  rcases h with ⟨h, _⟩ | ⟨mm, g4, h, rfl, hg⟩
  · cases h
  cases h
  have HG4 := Aside0.mk hg.to
  clear hg
  have hmi := Minus_any (allM m.length) m _ P w4 HG4.out (HH.out.below HB4.out) (by rw [allM_len]; exact HM.out)
  rw [if_pos (allM_len m.length).symm] at hmi
  go_wp2_with fail
  refine hmi.mono ?_
  rintro e w5 ⟨h, hb⟩
  have HB5 := Aside0.mk (HB4.out.trans (hb.mono HB4.out.size))
  clear hmi hb
  rcases h with ⟨h, _⟩ | ⟨mm, g5, h, rfl, hg⟩
  · cases h
  cases h
  have HG5 := Aside0.mk hg.to
  clear hg
  go_wp2_with fail
  go_ret
  exact ⟨⟨g5, rfl, HG5.out⟩, HB5.out⟩
/-! ### how many -/
def cntM (m : List Bool) : Nat := cntF (fun p => m.getD p false) m.length
theorem cntF_add (f : Nat → Bool) (a : Nat) : ∀ b, cntF f (a + b) = cntF f a + cntF (fun i => f (a + i)) b
  | 0 => rfl
  | b + 1 => by rw [← Nat.add_assoc, cntF, cntF_add f a b, cntF]; omega
theorem cntF_none (f : Nat → Bool) (n : Nat) (h : ∀ i, i < n → f i = false) : cntF f n = 0 := by
  induction n with
  | zero => rfl
  | succ n ih => rw [cntF, ih (fun i hi => h i (by omega)), h n (by omega)]; rfl
theorem cntF_le (f : Nat → Bool) : ∀ n, cntF f n ≤ n
  | 0 => Nat.le_refl _
  | n + 1 => by have := cntF_le f n; rw [cntF]; split <;> omega
theorem cntM_words (m : List Bool) : cntF (fun p => m.getD p false) (64 * ((m.length + 63) / 64)) = cntM m := by
  unfold cntM
  obtain ⟨d, hd⟩ : ∃ d, 64 * ((m.length + 63) / 64) = m.length + d := ⟨64 * ((m.length + 63) / 64) - m.length, by omega⟩
  rw [hd, cntF_add, cntF_none (fun i => m.getD (m.length + i) false) d (fun i _ => by
    show m.getD (m.length + i) false = false
    rw [List.getD_eq_getElem?_getD, List.getElem?_eq_none (by omega)]; rfl), Nat.add_zero]
theorem pop_word (m : List Bool) (j : Nat) : popN 64 (wordN m j) = cntF (fun b => m.getD (64 * j + b) false) 64 := popN_wN _ 64
set_option maxRecDepth 20000 in
set_option maxHeartbeats 1600000 in
theorem Len_any (m : List Bool) (P : Option Addr) (w : World) (h : SetAt w P m) (hm : m.length ≤ 1024) :
    Calls Tryd.prog 18 #[.pointer P] w fun e w' => e = .returned (.int .i64 (cntM m : Nat)) ∧ Below w.heap.size w w' := by
  rcases h with ⟨rfl, rfl⟩ | ⟨g, A, c, rfl, hg, hc, hC⟩
  · go_enter Tryd.func18, Tryd.ntmps18
    go_wp2_with fail
    go_ret
    exact ⟨rfl, Below.refl _ _⟩
  · have HC := Aside0.mk hC
    have c1 := blk_cell hg 1
    have hnw := wordsOf_len m
    have HNW := Aside0.mk hnw
    have HCM := Aside0.mk (cntM_words m)
    generalize hl : (wordsOf m).length = nw at *
    have HL := Aside0.mk hl
    have hn16 : nw ≤ 16 := by omega
    clear hg hc hC hnw hm hl
    go_enter Tryd.func18, Tryd.ntmps18
    go_wp2_with fail
    go_loopw [13, 5, 3] (fun s13 s5 s3 wr => ∃ (j d : Nat), s13 = .int .i64 j ∧ j ≤ nw ∧ s3 = .int .i64 (cntF (fun p => m.getD p false) (64 * j) : Nat) ∧ wr = w.drewN d) (fun s _ _ _ => nw - (intOf s).toNat)
    case atStart => exact ⟨0, 0, rfl, Nat.zero_le _, rfl, rfl⟩
    case round =>
      clear c1
      obtain ⟨j, d, rfl, hj, rfl, rfl⟩ := hrel
      by_cases h1 : j < nw
      · have h1' : (j : Int) < (nw : Int) := by omega
        obtain ⟨ad, rfl, a0⟩ := Kd.at_int HC.out (j : Int) (by omega) (by omega)
        rw [wordsOf_at m j (by rw [← HNW.out]; exact h1), Int.toNat_natCast] at a0
        have hone := bits_OnesCount64.calls ((wordN m j : Nat) : Int) ((popN 64 (wordN m j) : Nat) : Int) (w.drewN d) (ones_eq _ (wordN_lt m j))
        have HS := Aside0.mk (show cntF (fun p => m.getD p false) (64 * (j + 1)) = cntF (fun p => m.getD p false) (64 * j) + popN 64 (wordN m j) from by
          rw [pop_word, show 64 * (j + 1) = 64 * j + 64 by omega, cntF_add])
        have hb1 := cntF_le (fun p => m.getD p false) (64 * j)
        have hb2 := popN_le 64 (wordN m j)
        generalize hx : ((wordN m j : Nat) : Int) = x at *
        generalize popN 64 (wordN m j) = pn at *
        generalize cntF (fun p => m.getD p false) (64 * j) = cj at *
        clear hx h1
        go_wp2_with fail
        refine hone.mono ?_
        rintro e w2 ⟨rfl, ⟨nd, rfl⟩⟩
        clear hone a0
        go_wp2_with fail
        go_roundw
        case rel => exact ⟨j + 1, _, by go_num, by omega, by rw [HS.out]; go_num, rfl⟩
        case measure => simp [intOf]; omega
      · have h1' : ¬ (j : Int) < (nw : Int) := by omega
        have HE := Aside0.mk (show cntF (fun p => m.getD p false) (64 * j) = cntM m from by rw [← HCM.out, ← HNW.out, show j = nw by omega])
        generalize cntF (fun p => m.getD p false) (64 * j) = cj at *
        go_wp2_with fail
        go_ret
        exact ⟨by rw [HE.out]; rfl, below_drewN (Below.refl _ _) d⟩
end Go.Proofs.YtdhkhbejedndoaaDoor.H
