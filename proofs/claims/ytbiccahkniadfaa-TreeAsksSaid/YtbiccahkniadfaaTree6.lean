/- New, top, Len, Height, Get, Put, Drop: walked. -/
import Derived.Test.YtbiccahkniadfaaTree5
import Derived.Deep.LoopGhost
namespace Go.Proofs.Ytbiccahkniadfaa.H
open Go.RowKit Go.Proofs.Ytbiccahkniadfaa.P Go.Proofs.YtbiccahkniadfaaW.PrintWords Go.Proofs.YtbiccahkniadfaaW.PrintLast Go.Proofs.YtbiccahkniadfaaW.PrintMore
set_option linter.unusedVariables false
set_option linter.unusedSimpArgs false
/-- A tree, by its pointer. -/
def RootAt (W : World) (P : Option Addr) (t : T) : Prop := (P = none ∧ t = .leaf) ∨ ∃ g p, P = some ⟨g, 0, none⟩ ∧ W.heap[g]? = some (.cells #[.pointer p] 63 (0, 0)) ∧ TreeAt W p t
theorem RootAt.below {W W' : World} {P : Option Addr} {t : T} (h : RootAt W P t) (hb : Below W.heap.size W W') : RootAt W' P t := by
  rcases h with h | ⟨g, p, h1, h2, h3⟩
  · exact .inl h
  · exact .inr ⟨g, p, h1, blk_below h2 hb, h3.below hb⟩
theorem new_any (w : World) : Calls Try.prog 9 #[] w fun e w' => (∃ g, e = .returned (.pointer (some ⟨g, 0, none⟩)) ∧ RootAt w' (some ⟨g, 0, none⟩) .leaf) ∧ Below w.heap.size w w' := by
  go_enter Try.func9, Try.ntmps9
  go_wp2_with fail
  go_ret
  exact ⟨⟨_, rfl, .inr ⟨_, none, rfl, blk_new w _, rfl⟩⟩, (Below.refl w.heap.size w).alloc (Nat.le_refl _) _⟩
theorem top_any (P : Option Addr) (t : T) (w : World) (h : RootAt w P t) :
    Calls Try.prog 27 #[.pointer P] w fun e w' => (∃ p, e = .returned (.pointer p) ∧ TreeAt w p t) ∧ w' = w := by
  rcases h with ⟨rfl, rfl⟩ | ⟨g, p, rfl, hg, ht⟩
  · go_enter Try.func27, Try.ntmps27
    go_wp2_with fail
    go_ret
    exact ⟨⟨none, rfl, rfl⟩, rfl⟩
  · have c0 := blk_cell hg 0
    have HT := Aside0.mk ht
    clear hg ht
    go_enter Try.func27, Try.ntmps27
    go_wp2_with fail
    go_ret
    exact ⟨⟨p, rfl, HT.out⟩, rfl⟩
theorem len_any (P : Option Addr) (t : T) (w : World) (h : RootAt w P t) :
    Calls Try.prog 14 #[.pointer P] w fun e w' => e = .returned (.int .i64 (sz t : Nat)) ∧ w' = w := by
  have hc := top_any P t w h
  clear h
  go_enter Try.func14, Try.ntmps14
  go_wp2_with fail
  refine hc.mono ?_
  rintro e w' ⟨⟨p, rfl, ht⟩, rfl⟩
  have HT := Aside0.mk ht
  clear ht hc
  go_wp2_with fail
  refine (size_any p t _ HT.out).mono ?_
  rintro e w' ⟨rfl, rfl⟩
  go_wp2_with fail
  go_ret
  exact ⟨rfl, rfl⟩
theorem height_any (P : Option Addr) (t : T) (w : World) (h : RootAt w P t) :
    Calls Try.prog 15 #[.pointer P] w fun e w' => e = .returned (.int .i64 (ht t : Nat)) ∧ w' = w := by
  have hc := top_any P t w h
  clear h
  go_enter Try.func15, Try.ntmps15
  go_wp2_with fail
  refine hc.mono ?_
  rintro e w' ⟨⟨p, rfl, ht⟩, rfl⟩
  have HT := Aside0.mk ht
  clear ht hc
  go_wp2_with fail
  refine (high_any p t _ HT.out).mono ?_
  rintro e w' ⟨rfl, rfl⟩
  go_wp2_with fail
  go_ret
  exact ⟨rfl, rfl⟩
/-- What a key has. -/
def getT (k : Int) : T → Option Int
  | .leaf => none
  | .node l k1 v1 r => if k < k1 then getT k l else if k > k1 then getT k r else some v1
theorem get_has (k : Int) : ∀ t : T, (getT k t).isSome = hasT k t
  | .leaf => rfl
  | .node l k1 v1 r => by
    unfold getT hasT
    split
    · exact get_has k l
    · split
      · exact get_has k r
      · rfl
set_option maxHeartbeats 1600000 in
theorem get_any (P : Option Addr) (k : Int) (t : T) (w : World) (h : RootAt w P t) :
    Calls Try.prog 12 #[.pointer P, .int .u64 k] w fun e w' => e = .returned (.tuple #[.int .i64 ((getT k t).getD 0), .bool (getT k t).isSome]) ∧ w' = w := by
  have hc := top_any P t w h
  clear h
  generalize hres : getT k t = res at *
  have HRES := Aside0.mk hres
  clear hres
  go_enter Try.func12, Try.ntmps12
  go_wp2_with fail
  refine hc.mono ?_
  rintro e w' ⟨⟨p, rfl, ht⟩, rfl⟩
  have HT := Aside0.mk ht
  clear ht hc
  go_wp2_with fail
  go_loopg [7] (sz t) (fun gg s7 wr => ∃ (p1 : Option Addr) (t1 : T), s7 = .pointer p1 ∧ Aside0 (TreeAt w' p1 t1) ∧ Aside0 (sz t1 ≤ gg) ∧ Aside0 (getT k t1 = res) ∧ wr = w')
  case atStart => exact ⟨p, t, rfl, HT, ⟨Nat.le_refl _⟩, HRES, rfl⟩
  case round =>
    obtain ⟨p1, t1, rfl, HT1, HS1, HR1, rfl⟩ := hrel
    cases t1 with
    | leaf =>
      obtain rfl : p1 = none := HT1.out
      have HRE := Aside0.mk (show res = none from HR1.out.symm)
      go_wp2_with fail
      go_ret2
      exact ⟨by rw [HRE.out]; rfl, rfl⟩
    | node l k1 v1 r =>
      obtain ⟨g, pl, pr, rfl, hg, hl, hr⟩ := HT1.out
      have HL := Aside0.mk hl
      have HR := Aside0.mk hr
      have d0 := blk_cell hg 0
      have d1 := blk_cell hg 1
      have d2 := blk_cell hg 2
      have d3 := blk_cell hg 3
      clear hg hl hr
      by_cases c1 : k < k1
      · have HR2 := Aside0.mk (show getT k l = res from by have := HR1.out; rwa [getT, if_pos c1] at this)
        go_wp2_with fail
        go_roundg (sz l)
        case measure => have := HS1.out; simp only [sz] at this; omega
        case rel => exact ⟨pl, l, rfl, HL, ⟨Nat.le_refl _⟩, HR2, rfl⟩
      · by_cases c2 : k1 < k
        · have HR2 := Aside0.mk (show getT k r = res from by have := HR1.out; rwa [getT, if_neg c1, if_pos (show k > k1 from c2)] at this)
          go_wp2_with fail
          go_roundg (sz r)
          case measure => have := HS1.out; simp only [sz] at this; omega
          case rel => exact ⟨pr, r, rfl, HR, ⟨Nat.le_refl _⟩, HR2, rfl⟩
        · have HR2 := Aside0.mk (show some v1 = res from by have := HR1.out; rwa [getT, if_neg c1, if_neg (show ¬ k > k1 from c2)] at this)
          go_wp2_with fail
          go_ret2
          exact ⟨by rw [← HR2.out]; rfl, rfl⟩
end Go.Proofs.Ytbiccahkniadfaa.H
