/- below, At: walked. -/
import Derived.Test.YtbiccahkniadfaaTree7
namespace Go.Proofs.Ytbiccahkniadfaa.H
open Go.RowKit Go.Proofs.Ytbiccahkniadfaa.P Go.Proofs.YtbiccahkniadfaaW.PrintWords Go.Proofs.YtbiccahkniadfaaW.PrintLast Go.Proofs.YtbiccahkniadfaaW.PrintMore
set_option linter.unusedVariables false
set_option linter.unusedSimpArgs false
/-- A tree's pairs. -/
def toL : T → List (Int × Int)
  | .leaf => []
  | .node l k v r => toL l ++ (k, v) :: toL r
theorem toL_len : ∀ t : T, (toL t).length = sz t
  | .leaf => rfl
  | .node l k v r => by
    rw [toL, List.length_append, List.length_cons, toL_len l, toL_len r, sz]; omega
def belowT (k : Int) : T → Nat
  | .leaf => 0
  | .node l k1 _ r => if k1 < k then 1 + sz l + belowT k r else belowT k l
theorem below_le (k : Int) : ∀ t : T, belowT k t ≤ sz t
  | .leaf => Nat.le_refl _
  | .node l k1 v1 r => by
    have h1 := below_le k l
    have h2 := below_le k r
    unfold belowT
    split <;> simp only [sz] <;> omega
set_option maxRecDepth 20000 in
set_option maxHeartbeats 1600000 in
theorem below_any (P : Option Addr) (k : Int) (t : T) (w : World) (h : RootAt w P t) (hs : sz t ≤ 40000) :
    Calls Try.prog 35 #[.pointer P, .int .u64 k] w fun e w' => e = .returned (.int .i64 (belowT k t : Nat)) ∧ w' = w := by
  have hc := top_any P t w h
  have HBL := Aside0.mk (below_le k t)
  have HSZ := Aside0.mk hs
  clear h hs
  generalize hres : belowT k t = res at *
  have HRES := Aside0.mk hres
  clear hres
  go_enter Try.func35, Try.ntmps35
  go_wp2_with fail
  refine hc.mono ?_
  rintro e w' ⟨⟨p, rfl, ht⟩, rfl⟩
  have HT := Aside0.mk ht
  clear ht hc
  go_wp2_with fail
  go_loopg [5, 6] (sz t) (fun gg s5 s6 wr => ∃ (c : Nat) (p1 : Option Addr) (t1 : T), s5 = .int .i64 c ∧ s6 = .pointer p1 ∧ Aside0 (TreeAt w' p1 t1) ∧ Aside0 (sz t1 ≤ gg) ∧ Aside0 (c + belowT k t1 = res) ∧ Aside0 (c + sz t1 ≤ 40000) ∧ wr = w')
  case atStart => exact ⟨0, p, t, rfl, rfl, HT, ⟨Nat.le_refl _⟩, ⟨by rw [HRES.out]; omega⟩, ⟨by have := HSZ.out; omega⟩, rfl⟩
  case round =>
    obtain ⟨c, p1, t1, rfl, rfl, HT1, HS1, HR1, HC1, rfl⟩ := hrel
    cases t1 with
    | leaf =>
      obtain rfl : p1 = none := HT1.out
      have HRE := Aside0.mk (show res = c from by have := HR1.out; simp only [belowT] at this; omega)
      go_wp2_with fail
      go_ret
      exact ⟨by rw [HRE.out]; rfl, rfl⟩
    | node l k1 v1 r =>
      obtain ⟨g, pl, pr, rfl, hg, hl, hr⟩ := HT1.out
      have HL := Aside0.mk hl
      have HR := Aside0.mk hr
      have d0 := blk_cell hg 0
      have d2 := blk_cell hg 2
      have d3 := blk_cell hg 3
      clear hg hl hr
      by_cases c1 : k1 < k
      · have HR2 := Aside0.mk (show c + (1 + sz l) + belowT k r = res from by have := HR1.out; rw [belowT, if_pos c1] at this; omega)
        have HC2 := Aside0.mk (show c + (1 + sz l) + sz r ≤ 40000 from by have := HC1.out; simp only [sz] at this; omega)
        have w1 : IntKind.i64.wrap (1 + ((sz l : Nat) : Int)) = 1 + ((sz l : Nat) : Int) := by have := HC2.out; rw [IntKind.wrap_i64]; omega
        have w2 : IntKind.i64.wrap ((c : Int) + (1 + ((sz l : Nat) : Int))) = ((c + (1 + sz l) : Nat) : Int) := by have := HC2.out; rw [IntKind.wrap_i64]; omega
        have hsz := size_any pl l wr HL.out
        generalize hsl : ((sz l : Nat) : Int) = S at *
        have HSL := Aside0.mk hsl
        clear hsl
        go_wp2_with fail
        refine hsz.mono ?_
        rintro e w3 ⟨rfl, rfl⟩
        go_wp2_with fail
        go_roundg (sz r)
        case measure => have := HS1.out; simp only [sz] at this; omega
        case rel => exact ⟨c + (1 + sz l), pr, r, rfl, rfl, HR, ⟨Nat.le_refl _⟩, HR2, HC2, rfl⟩
      · have HR2 := Aside0.mk (show c + belowT k l = res from by have := HR1.out; rwa [belowT, if_neg c1] at this)
        have HC2 := Aside0.mk (show c + sz l ≤ 40000 from by have := HC1.out; simp only [sz] at this; omega)
        go_wp2_with fail
        go_roundg (sz l)
        case measure => have := HS1.out; simp only [sz] at this; omega
        case rel => exact ⟨c, pl, l, rfl, rfl, HL, ⟨Nat.le_refl _⟩, HR2, HC2, rfl⟩
/-- The pair at a place. -/
def atT (t : T) (i : Int) : (Int × Int) × Bool := if 0 ≤ i ∧ i < sz t then ((toL t).getD i.toNat (0, 0), true) else ((0, 0), false)
theorem toL_lt (l : T) (k v : Int) (r : T) (j : Nat) (h : j < sz l) : (toL (.node l k v r)).getD j (0, 0) = (toL l).getD j (0, 0) := by
  rw [toL, List.getD_eq_getElem?_getD, List.getD_eq_getElem?_getD, List.getElem?_append_left (by rw [toL_len]; exact h)]
theorem toL_eq (l : T) (k v : Int) (r : T) : (toL (.node l k v r)).getD (sz l) (0, 0) = (k, v) := by
  rw [toL, List.getD_eq_getElem?_getD, List.getElem?_append_right (by rw [toL_len]; exact Nat.le_refl _), toL_len, Nat.sub_self]; rfl
theorem toL_gt (l : T) (k v : Int) (r : T) (j : Nat) (h : sz l < j) : (toL (.node l k v r)).getD j (0, 0) = (toL r).getD (j - (1 + sz l)) (0, 0) := by
  rw [toL, List.getD_eq_getElem?_getD, List.getD_eq_getElem?_getD, List.getElem?_append_right (by rw [toL_len]; omega), toL_len, show j - sz l = (j - (1 + sz l)) + 1 by omega, List.getElem?_cons_succ]
set_option maxRecDepth 20000 in
set_option maxHeartbeats 1600000 in
theorem at_any (P : Option Addr) (i : Int) (t : T) (w : World) (h : RootAt w P t) (hs : sz t ≤ 40000) :
    Calls Try.prog 21 #[.pointer P, .int .i64 i] w fun e w' => e = .returned (.tuple #[.agg #[.int .u64 (atT t i).1.1, .int .i64 (atT t i).1.2], .bool (atT t i).2]) ∧ Below w.heap.size w w' := by
  have HB0 := Aside0.mk ((Below.refl w.heap.size w).alloc (Nat.le_refl _) (.cells #[.int .u64 0, .int .i64 0] 45))
  have HX0 := Aside0.mk (blk_new w (.cells #[.int .u64 0, .int .i64 0] 45))
  have HH := Aside0.mk (h.below HB0.out)
  have HSZ := Aside0.mk hs
  have HAT := Aside0.mk (show atT t i = if 0 ≤ i ∧ i < sz t then ((toL t).getD i.toNat (0, 0), true) else ((0, 0), false) from rfl)
  clear h hs
  generalize atT t i = res at *
  obtain ⟨⟨x0, x1⟩, xb⟩ := res
  simp only []
  have hmn : (w.alloc (.cells #[.int .u64 0, .int .i64 0] 45)).heap.size = w.heap.size + 1 := by simp
  go_enter Try.func21, Try.ntmps21
  have hfin : ∀ (W : World) (_ : ((x0, x1), xb) = (((0 : Int), (0 : Int)), false)), True := fun _ _ => trivial
  clear hfin hmn
  by_cases c0 : i < 0
  · have HE := Aside0.mk (show ((x0, x1), xb) = (((0 : Int), (0 : Int)), false) from by rw [HAT.out, if_neg (by omega)])
    go_wp2_with fail
    generalize (w.alloc (.cells #[.int .u64 0, .int .i64 0] 45)) = w0 at *
    have m2 := blk_cell HX0.out 0
    have m3 := blk_cell HX0.out 1
    have he := HE.out
    injection he with he1 he2
    injection he1 with he3 he4
    subst he2; subst he3; subst he4
    exact bodyPost_ret (v := .tuple #[.agg #[.int .u64 0, .int .i64 0], .bool false]) (by simp [results, Try.results21, go_sem, m2, m3]) rfl ⟨rfl, HB0.out⟩
  · go_wp2_with fail
    generalize (w.alloc (.cells #[.int .u64 0, .int .i64 0] 45)) = w0 at *
    refine (len_any P t w0 HH.out).mono ?_
    rintro e w1 ⟨rfl, rfl⟩
    by_cases c1 : ((sz t : Nat) : Int) ≤ i
    · have HE := Aside0.mk (show ((x0, x1), xb) = (((0 : Int), (0 : Int)), false) from by rw [HAT.out, if_neg (by omega)])
      have k0 := blk_cell HX0.out 0
      have k2 := blk_cell HX0.out 1
      have f0 := blk_frozen HX0.out 0
      have f1 := blk_frozen HX0.out 1
      go_wp2_with fail
      have he := HE.out
      injection he with he1 he2
      injection he1 with he3 he4
      subst he2; subst he3; subst he4
      have m1 := blk_set (blk_set HX0.out 0 (.int .u64 0)) 1 (.int .i64 0)
      have m2 := blk_cell m1 0
      have m3 := blk_cell m1 1
      have HBS := Aside0.mk ((HB0.out.setCell (p := ⟨w.heap.size, 0, none⟩) (Nat.le_refl _) (.int .u64 0)).setCell (p := ⟨w.heap.size, 1, none⟩) (Nat.le_refl _) (.int .i64 0))
      exact bodyPost_ret (v := .tuple #[.agg #[.int .u64 0, .int .i64 0], .bool false]) (by simp [results, Try.results21, go_sem, m2, m3]) rfl ⟨rfl, HBS.out⟩
    · obtain ⟨j0, rfl⟩ : ∃ j0 : Nat, i = (j0 : Int) := ⟨i.toNat, by omega⟩
      have HJ := Aside0.mk (show j0 < sz t by omega)
      have HE := Aside0.mk (show ((toL t).getD j0 (0, 0) = (x0, x1)) ∧ xb = true from by
        have := HAT.out
        rw [if_pos (by omega), Int.toNat_natCast] at this
        injection this with h1 h2
        exact ⟨h1.symm, h2⟩)
      have hj0 : ¬ (j0 : Int) < 0 := by omega
      go_wp2_with fail
      refine (top_any P t w1 HH.out).mono ?_
      rintro e w2 ⟨⟨p, rfl, ht⟩, rfl⟩
      have HT := Aside0.mk ht
      clear ht c0 c1 hj0 HAT
      go_wp2_with fail
      go_loopg [1, 6] (sz t) (fun gg s1 s6 wr => ∃ (j : Nat) (p1 : Option Addr) (t1 : T), s1 = .int .i64 j ∧ s6 = .pointer p1 ∧ Aside0 (TreeAt w2 p1 t1) ∧ Aside0 (sz t1 ≤ gg) ∧ Aside0 (j < sz t1 ∧ sz t1 ≤ 40000 ∧ (toL t1).getD j (0, 0) = (x0, x1)) ∧ wr = w2)
      case atStart => exact ⟨j0, p, t, rfl, rfl, HT, ⟨Nat.le_refl _⟩, ⟨HJ.out, HSZ.out, HE.out.1⟩, rfl⟩
      case round =>
        obtain ⟨j, p1, t1, rfl, rfl, HT1, HS1, HR1, rfl⟩ := hrel
        cases t1 with
        | leaf => exact absurd HR1.out.1 (Nat.not_lt_zero _)
        | node l k1 v1 r =>
          obtain ⟨g, pl, pr, rfl, hg, hl, hr⟩ := HT1.out
          have HL := Aside0.mk hl
          have HR := Aside0.mk hr
          have d0 := blk_cell hg 0
          have d1 := blk_cell hg 1
          have d2 := blk_cell hg 2
          have d3 := blk_cell hg 3
          have hsz := size_any pl l wr HL.out
          have HJ1 := Aside0.mk (show j < 1 + sz l + sz r ∧ 1 + sz l + sz r ≤ 40000 from ⟨HR1.out.1, HR1.out.2.1⟩)
          clear hg hl hr
          by_cases c2 : j = sz l
          · have HE2 := Aside0.mk (show (k1, v1) = (x0, x1) from by rw [← HR1.out.2.2, c2, toL_eq])
            have k0 := blk_cell HX0.out 0
            have k2 := blk_cell HX0.out 1
            have f0 := blk_frozen HX0.out 0
            have f1 := blk_frozen HX0.out 1
            rw [← c2] at hsz
            clear c2
            go_wp2_with fail
            refine hsz.mono ?_
            rintro e w3 ⟨rfl, rfl⟩
            clear hsz
            go_wp2_with fail
            have he := HE2.out
            injection he with he1 he2
            subst he1; subst he2
            have m1 := blk_set (blk_set HX0.out 0 (.int .u64 k1)) 1 (.int .i64 v1)
            have m2 := blk_cell m1 0
            have m3 := blk_cell m1 1
            have HBS := Aside0.mk ((HB0.out.setCell (p := ⟨w.heap.size, 0, none⟩) (Nat.le_refl _) (.int .u64 k1)).setCell (p := ⟨w.heap.size, 1, none⟩) (Nat.le_refl _) (.int .i64 v1))
            have hxb := HE.out.2
            subst hxb
            exact bodyPost_ret (v := .tuple #[.agg #[.int .u64 k1, .int .i64 v1], .bool true]) (by simp [results, Try.results21, go_sem, m2, m3]) rfl ⟨rfl, HBS.out⟩
          · have hne : ((j : Int) == ((sz l : Nat) : Int)) = false := by rw [beq_eq_false_iff_ne]; omega
            by_cases c3 : j < sz l
            · have hlt : (j : Int) < ((sz l : Nat) : Int) := by omega
              have HR2 := Aside0.mk (show j < sz l ∧ sz l ≤ 40000 ∧ (toL l).getD j (0, 0) = (x0, x1) from ⟨c3, by have := HJ1.out; omega, by rw [← toL_lt l k1 v1 r j c3]; exact HR1.out.2.2⟩)
              generalize hsl : ((sz l : Nat) : Int) = S at *
              have HSL := Aside0.mk hsl
              clear hsl c2 c3
              go_wp2_with fail
              refine hsz.mono ?_
              rintro e w3 ⟨rfl, rfl⟩
              go_wp2_with fail
              refine hsz.mono ?_
              rintro e w3 ⟨rfl, rfl⟩
              go_wp2_with fail
              go_roundg (sz l)
              case measure => have := HS1.out; simp only [sz] at this; omega
              case rel => exact ⟨j, pl, l, rfl, rfl, HL, ⟨Nat.le_refl _⟩, HR2, rfl⟩
            · have hge : ¬ (j : Int) < ((sz l : Nat) : Int) := by omega
              have HR2 := Aside0.mk (show j - (1 + sz l) < sz r ∧ sz r ≤ 40000 ∧ (toL r).getD (j - (1 + sz l)) (0, 0) = (x0, x1) from ⟨by have := HJ1.out; omega, by have := HJ1.out; omega, by rw [← toL_gt l k1 v1 r j (by omega)]; exact HR1.out.2.2⟩)
              have w1 : IntKind.i64.wrap (1 + ((sz l : Nat) : Int)) = 1 + ((sz l : Nat) : Int) := by have := HJ1.out; rw [IntKind.wrap_i64]; omega
              have w2' : IntKind.i64.wrap ((j : Int) - (1 + ((sz l : Nat) : Int))) = ((j - (1 + sz l) : Nat) : Int) := by have := HJ1.out; rw [IntKind.wrap_i64]; omega
              generalize hsl : ((sz l : Nat) : Int) = S at *
              have HSL := Aside0.mk hsl
              clear hsl c2 c3
              go_wp2_with fail
              refine hsz.mono ?_
              rintro e w3 ⟨rfl, rfl⟩
              go_wp2_with fail
              refine hsz.mono ?_
              rintro e w3 ⟨rfl, rfl⟩
              go_wp2_with fail
              refine hsz.mono ?_
              rintro e w3 ⟨rfl, rfl⟩
              go_wp2_with fail
              go_roundg (sz r)
              case measure => have := HS1.out; simp only [sz] at this; omega
              case rel => exact ⟨j - (1 + sz l), pr, r, rfl, rfl, HR, ⟨Nat.le_refl _⟩, HR2, rfl⟩
end Go.Proofs.Ytbiccahkniadfaa.H
