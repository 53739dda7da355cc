/- Held.do: many puts, nothing; Held.do as a whole: walked. -/
import Derived.Test.YtbiccahkniadfaaTree14
namespace Go.Proofs.Ytbiccahkniadfaa.H
open Go.RowKit Go.Proofs.Ytbiccahkniadfaa.P Go.Proofs.YtbiccahkniadfaaW.PrintWords Go.Proofs.YtbiccahkniadfaaW.PrintLast Go.Proofs.YtbiccahkniadfaaW.PrintMore
set_option linter.unusedVariables false
set_option linter.unusedSimpArgs false
theorem wrapu_small (j : Nat) (h : j ≤ 30) : IntKind.u64.wrap (j : Int) = (j : Int) := by
  simp [IntKind.wrap, IntKind.bits, IntKind.signed]; omega
theorem cnt_yes (v : Int) (j : Nat) (h : j ≤ cnt v) (h1 : (j : Int) < v) (h2 : j < 30) : j + 1 ≤ cnt v := by unfold cnt; split <;> first | omega | (split <;> omega)
theorem cnt_no (v : Int) (j : Nat) (h : j ≤ cnt v) (h1 : ¬ ((j : Int) < v ∧ j < 30)) : j = cnt v := by
  unfold cnt at h ⊢
  by_cases c : v ≤ 0
  · rw [if_pos c] at h ⊢; omega
  · rw [if_neg c] at h ⊢
    by_cases c2 : v < 30
    · rw [if_pos c2] at h ⊢; omega
    · rw [if_neg c2] at h ⊢; omega
theorem cnt_le (v : Int) : cnt v ≤ 30 := by unfold cnt; split <;> first | omega | (split <;> omega)
set_option maxRecDepth 20000 in
set_option maxHeartbeats 4000000 in
theorem do4 (H : Nat) (v k : Int) (low : Bool) (t : T) (w : World) (h : HeldAt w H t) (hf : Fit t) :
    Calls Try.prog 17 #[.pointer (some ⟨H, 0, none⟩), .agg #[.int .i64 4, .int .i64 v, .int .u64 k, .bool low]] w fun e w' => e = .returned (.bool true) ∧ HeldAt w' H (putsT k (cnt v) t) ∧ Bel H w w' := by
  have hb0 := (Below.refl w.heap.size w).alloc (Nat.le_refl _) (.cells #[.int .i64 4, .int .i64 v, .int .u64 k, .bool low] 42)
  have HB0 := Aside0.mk (Bel.of (H := H) hb0)
  have HX := Aside0.mk (blk_new w (.cells #[.int .i64 4, .int .i64 v, .int .u64 k, .bool low] 42))
  have HH := Aside0.mk (h.below hb0)
  have HF := Aside0.mk hf
  have hex := h
  obtain ⟨_, _, hblk, _, _⟩ := hex
  have HNE := Aside0.mk (show w.heap.size ≠ H from by have := blk_lt hblk; omega)
  clear hb0 h hf hblk
  go_enter Try.func17, Try.ntmps17
  go_wp2_with fail
  go_loopw [12] (fun s12 wr => ∃ j : Nat, s12 = .int .i64 j ∧ Aside0 (j ≤ cnt v) ∧ Aside0 (HeldAt wr H (putsT k j t)) ∧ Aside0 (Bel H w wr) ∧ Aside0 (wr.heap[w.heap.size]? = some (.cells #[.int .i64 4, .int .i64 v, .int .u64 k, .bool low] 42 (0, 0)))) (fun c _ => 30 - (intOf c).toNat)
  case atStart => exact ⟨0, rfl, ⟨Nat.zero_le _⟩, HH, HB0, HX⟩
  case round =>
    obtain ⟨j, rfl, HJ, HT, HB, HXR⟩ := hrel
    have c1 := blk_cell HXR.out 1
    have c2 := blk_cell HXR.out 2
    have hj30 : j ≤ 30 := Nat.le_trans HJ.out (cnt_le v)
    by_cases h1 : (j : Int) < v
    · by_cases h2 : j < 30
      · have h2' : (j : Int) < 30 := by omega
        have hw := wrapu_small j (by omega)
        have hput := hput_any H (IntKind.u64.wrap (k + (j : Int))) (j : Int) (putsT k j t) wr HT.out (HF.out.puts k j)
        have HJ2 := Aside0.mk (cnt_yes v j HJ.out h1 h2)
        generalize hkk : IntKind.u64.wrap (k + (j : Int)) = kk at *
        have HKK := Aside0.mk (show putsT k (j + 1) t = putT kk (j : Int) (putsT k j t) from by rw [← hkk]; rfl)
        clear h2 HJ
        go_wp2_with fail
        refine hput.mono ?_
        rintro e w2 ⟨rfl, hh, hb⟩
        have HH2 := Aside0.mk (show HeldAt w2 H (putsT k (j + 1) t) from by rw [HKK.out]; exact hh)
        have HB2 := Aside0.mk (HB.out.trans hb)
        have HX2 := Aside0.mk (hb.keep.blk HXR.out HNE.out (by simp))
        clear hh hb hput hkk hw c1 c2
        go_wp2_with fail
        go_roundw
        case rel => exact ⟨j + 1, by go_num, HJ2, HH2, HB2, HX2⟩
        case measure => simp [intOf]; omega
      · have h2' : ¬ (j : Int) < 30 := by omega
        have HE := Aside0.mk (cnt_no v j HJ.out (fun h => h2 h.2))
        clear h2
        go_wp2_with fail
        go_ret
        exact ⟨rfl, by rw [← HE.out]; exact HT.out, HB.out⟩
    · have HE := Aside0.mk (cnt_no v j HJ.out (fun h => h1 h.1))
      go_wp2_with fail
      go_ret
      exact ⟨rfl, by rw [← HE.out]; exact HT.out, HB.out⟩
set_option maxRecDepth 20000 in
set_option maxHeartbeats 4000000 in
theorem do0 (H : Nat) (d v k : Int) (low : Bool) (t : T) (w : World) (h : HeldAt w H t) (n1 : (d == 1) = false) (n2 : (d == 2) = false) (n3 : (d == 3) = false) (n4 : (d == 4) = false) :
    Calls Try.prog 17 #[.pointer (some ⟨H, 0, none⟩), .agg #[.int .i64 d, .int .i64 v, .int .u64 k, .bool low]] w fun e w' => e = .returned (.bool true) ∧ HeldAt w' H t ∧ Bel H w w' := by
  have hb0 := (Below.refl w.heap.size w).alloc (Nat.le_refl _) (.cells #[.int .i64 d, .int .i64 v, .int .u64 k, .bool low] 42)
  have HB0 := Aside0.mk (Bel.of (H := H) hb0)
  have HX := Aside0.mk (blk_new w (.cells #[.int .i64 d, .int .i64 v, .int .u64 k, .bool low] 42))
  have HH := Aside0.mk (h.below hb0)
  clear hb0 h
  go_enter Try.func17, Try.ntmps17
  go_wp2_with fail
  go_ret
  exact ⟨rfl, HH.out, HB0.out⟩
/-- An act of a script. -/
def doT (d v k : Int) (low : Bool) (t : T) : T := if d = 1 then putT k v t else if d = 2 then dropT k t else if d = 3 then splitT low k t else if d = 4 then putsT k (cnt v) t else t
theorem Fit.does {t : T} (h : Fit t) (d v k : Int) (low : Bool) : Fit (doT d v k low t) := by
  unfold doT splitT
  split
  · exact h.put k v
  split
  · exact h.drop k
  split
  · split
    · exact (h.cut k).1
    · exact (h.cut k).2
  split
  · exact h.puts k _
  · exact h
theorem do_any (H : Nat) (d v k : Int) (low : Bool) (t : T) (w : World) (h : HeldAt w H t) (hf : Fit t) :
    Calls Try.prog 17 #[.pointer (some ⟨H, 0, none⟩), .agg #[.int .i64 d, .int .i64 v, .int .u64 k, .bool low]] w fun e w' => e = .returned (.bool true) ∧ HeldAt w' H (doT d v k low t) ∧ Bel H w w' := by
  unfold doT splitT
  by_cases h1 : d = 1
  · subst h1; rw [if_pos rfl]; exact do1 H v k low t w h hf
  rw [if_neg h1]
  by_cases h2 : d = 2
  · subst h2; rw [if_pos rfl]; exact do2 H v k low t w h hf
  rw [if_neg h2]
  by_cases h3 : d = 3
  · subst h3
    rw [if_pos rfl]
    by_cases hfull : (lowL k (toL t)).length = (encT (toL t)).length
    · cases low with
      | true => exact do3lf H v k t w h hf hfull
      | false => exact do3hf H v k t w h hf hfull
    · cases low with
      | true => exact do3lp H v k t w h hf hfull
      | false => exact do3hp H v k t w h hf hfull
  rw [if_neg h3]
  by_cases h4 : d = 4
  · subst h4; rw [if_pos rfl]; exact do4 H v k low t w h hf
  rw [if_neg h4]
  exact do0 H d v k low t w h (by simpa using h1) (by simpa using h2) (by simpa using h3) (by simpa using h4)
end Go.Proofs.Ytbiccahkniadfaa.H
