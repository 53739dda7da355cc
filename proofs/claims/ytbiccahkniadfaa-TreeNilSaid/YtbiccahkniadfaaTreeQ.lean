/- Pairs: walked. -/
import Derived.RangeFuncNested
import Derived.RangeFuncBox
import Derived.Maps.AppendAt
import Derived.Test.YtbiccahkniadfaaTreeP
import Derived.Test.YtbiccahkniadfaaTreeG
namespace Go.Proofs.Ytbiccahkniadfaa.H
open Go.RowKit Go.Shelf Go.Proofs.Ytbiccahkniadfaa.P Go.Proofs.YtbiccahkniadfaaW.PrintWords Go.Proofs.YtbiccahkniadfaaW.PrintLast Go.Proofs.YtbiccahkniadfaaW.PrintMore
attribute [local go_sem] Oper.semAt_some
set_option linter.unusedVariables false
set_option linter.unusedSimpArgs false
theorem top_at (P : Option Addr) (t : T) (w : World) (h : RootAt w P t) : ∃ p, TreeAt w p t ∧ ∀ W, Below w.heap.size w W → Calls Try.prog 27 #[.pointer P] W fun e w' => e = .returned (.pointer p) ∧ w' = W := by
  rcases h with ⟨rfl, rfl⟩ | ⟨g, p, rfl, hg, ht⟩
  · refine ⟨none, rfl, fun W _ => ?_⟩
    go_enter Try.func27, Try.ntmps27
    go_wp2_with fail
    go_ret
    exact ⟨rfl, rfl⟩
  · refine ⟨p, ht, fun W hb => ?_⟩
    have c0 := blk_cell (blk_below hg hb) 0
    clear hg ht hb
    go_enter Try.func27, Try.ntmps27
    go_wp2_with fail
    go_ret
    exact ⟨rfl, rfl⟩
theorem info45 : (Try.prog.info? 45).map (fun i => (i.zero, i.size, i.bytes)) = some (some (.agg #[.int .u64 0, .int .i64 0]), 2, 16) := by kernel_rfl
theorem cell_two_new (W : World) (a b : Value) (t : TypeId) : ∀ j u, [a, b][j]? = some u → (W.alloc (.cells #[a, b] t)).cell? ((⟨W.heap.size, 0, none⟩ : Addr).add j) = some u := by
  intro j u h
  have hb := blk_new W (.cells #[a, b] t)
  match j, h with
  | 0, h => simp at h; subst h; exact blk_cell hb 0
  | 1, h => simp at h; subst h; exact blk_cell hb 1
def cellsL (L : List (Int × Int)) : List Value := L.flatMap fun x => [.int .u64 x.1, .int .i64 x.2]
theorem cellsL_snoc (L : List (Int × Int)) (x : Int × Int) : cellsL (L ++ [x]) = cellsL L ++ [.int .u64 x.1, .int .i64 x.2] := by simp [cellsL]
theorem cellsL_len : ∀ L : List (Int × Int), (cellsL L).length = L.length * 2
  | [] => rfl
  | x :: t => by
    have := cellsL_len t
    show (Value.int .u64 x.1 :: Value.int .i64 x.2 :: cellsL t).length = _
    rw [List.length_cons, List.length_cons, this, List.length_cons]
    omega
theorem cellsL_at : ∀ (L : List (Int × Int)) (j : Nat) (p : Int × Int), L[j]? = some p → ((cellsL L).drop (j * 2)).take 2 = [.int .u64 p.1, .int .i64 p.2]
  | [], j, p, h => by simp at h
  | x :: t, 0, p, h => by
    simp at h
    subst h
    rfl
  | x :: t, j + 1, p, h => by
    have := cellsL_at t j p (by simpa using h)
    rw [show (j + 1) * 2 = j * 2 + 1 + 1 by omega]
    exact this
theorem row_C {W : World} {base : Nat} {v : Value} {L : List (Int × Int)} (h : W.ownsRow base 45 2 v L.length (cellsL L)) : ∃ A c, v = .slice A (encT L).length c ∧ (encT L).length ≤ c ∧ Kd.C k50 W A (encT L).length (encT L) := by
  have hR : Kd.R k50 45 W base (fun _ => True) v (encT L) := by
    refine ⟨fun _ _ => trivial, cellsL L, by rw [encT_len]; exact h, by rw [encT_len]; exact cellsL_len L, fun j p hj => ?_⟩
    have hj' : (L.map fun p => (⟨p.1, p.2⟩ : S50))[j]? = some p := hj
    rw [List.getElem?_map] at hj'
    obtain ⟨q, hq, rfl⟩ := Option.map_eq_some_iff.1 hj'
    show k50.M _ _ _ _ (((cellsL L).drop (j * 2)).take 2)
    rw [cellsL_at L j q hq]
    exact k50_mkM _ _ _ _
  exact Kd.R_reads hR
set_option maxRecDepth 100000 in
set_option maxHeartbeats 4000000 in
theorem pairs_any (P : Option Addr) (t : T) (w : World) (h : RootAt w P t) (hs : sz t ≤ 40000) :
    Calls Try.prog 26 #[.pointer P] w fun e W' => (∃ A c, e = .returned (.slice A (encT (toL t)).length c) ∧ (encT (toL t)).length ≤ c ∧ Kd.C k50 W' A (encT (toL t)).length (encT (toL t))) ∧ Below w.heap.size w W' := by
  obtain ⟨p, hT, htop⟩ := top_at P t w h
  have hTB := hT.toB
  have hN : (toL t).length ≤ 40000 := by rw [toL_len]; exact hs
  clear h hs hT
  obtain ⟨i0, hi, hz0, hz1, hz2⟩ := info_parts info45
  refine (callsIn_wide (n := 9)).1 ?_
  have h1 : 1 ≤ 9 := by omega
  refine callsIn_of_wp_marks Try.func26 rfl trivial ?_ rfl
  simp only [Try.ntmps26, List.size_toArray, List.length_cons, List.length_nil, Nat.reduceAdd, Nat.reduceSub, Array.replicate_succ, Array.replicate_zero, List.push_toArray, List.append_toArray, List.nil_append, List.cons_append]
  gi_wp2_with (first
    | (refine ⟨trivial, ?_⟩; gi_at_call 27; refine (callsIn_wide.2 (htop _ ((Below.refl _ w).alloc (Nat.le_refl _) _))).mono ?_; rintro e w' ⟨rfl, rfl⟩)
    | (refine ⟨trivial, ?_⟩; gi_at_call 37; refine (all_in Fence.wide _ trivial rfl _ _).mono ?_; rintro e w' ⟨rfl, rfl⟩))
  have bO := (Boxed.new w 57 (.slice none 0 0)).alloc (.cells #[.pointer p] 61)
  have bN := Boxed.new (w.alloc (.cells #[.slice none 0 0] 57)) 61 (.pointer p)
  rw [World.size_alloc] at bN
  have hB0 : Below w.heap.size w ((w.alloc (.cells #[.slice none 0 0] 57)).alloc (.cells #[.pointer p] 61)) := ((Below.refl _ w).alloc (Nat.le_refl _) _).alloc (by simp) _
  have hsz : ((w.alloc (.cells #[.slice none 0 0] 57)).alloc (.cells #[.pointer p] 61)).heap.size = w.heap.size + 2 := by simp
  obtain ⟨W0, hW0⟩ : ∃ W0, (w.alloc (.cells #[.slice none 0 0] 57)).alloc (.cells #[.pointer p] 61) = W0 := ⟨_, rfl⟩
  try simp only [World.size_alloc]
  rw [hW0] at bO bN hB0 hsz ⊢
  clear hW0 htop
  refine wpIn_rangeFunc_ownH rfl h1 (gf := 43) (lb := #[.pointer (some ⟨w.heap.size + 1, 0, none⟩)]) rfl trivial (enters_of Try.func43 (by kernel_rfl) rfl)
    (all_stops Fence.wide rfl (9 - 1) trivial trivial rfl (w.heap.size + 1) w.heap.size p t W0 (by omega) (by omega) bN.cell (hTB.below hB0)) belowK_t (belowK_b (by omega)) (Below.refl _ _) (fun _ => rfl)
    (fun pre W => (∃ v, Boxed W w.heap.size 57 v ∧ W.ownsRow w.heap.size 45 2 v pre.length (cellsL pre) ∧ True) ∧ Below w.heap.size w W)
    (fun _ _ _ => False)
    (OwnFrom.and (Own.from (holdsRow_own w.heap.size w.heap.size 57 45 2 (fun pre : List (Int × Int) => pre.length) (fun pre => cellsL pre) (fun _ _ => True)) _) (ownFrom_below (Nat.le_refl _) (by omega)))
    (fun _ _ _ _ _ hs _ _ => hs)
    ⟨⟨_, bO, World.ownsRow_nil _ _ _ _, trivial⟩, hB0⟩
    (fun x a' W => ∃ Bx, w.heap.size < Bx ∧ W.heap[Bx]? = some (.cells #[.int .u64 x.1, .int .i64 x.2] 45 (0, 0)) ∧ a' = { tmps := #[.pointer P, undef, .slice none 0 0, .pointer (some ⟨w.heap.size, 0, none⟩), .pointer (some ⟨Bx, 0, none⟩), .pointer P, .pointer p, .func (.func 43) #[] #[.pointer (some ⟨w.heap.size + 1, 0, none⟩)], .agg #[.int .u64 x.1, .int .i64 x.2], undef, undef, undef, undef, undef], defers := [] })
    (fun x a' _ X Y row hs hg hr => by
      obtain ⟨Bx, h1, h2, h3⟩ := hs
      refine ⟨Bx, h1, blk_grown h2 hg (fun e' => ?_), h3⟩
      obtain ⟨o, ho, hc⟩ := (hr Bx e'.symm).2
      rw [h2] at ho; cases ho; cases hc)
    ?assign ?body ?done ?stop
  case assign =>
    rintro l pre x W K ⟨⟨v, hv, hrow, _⟩, hB1⟩ hK
    gi_wp2
    exact hK _ _ ((KeepsOthers.alloc _ _).from _) ((Below.refl _ W).alloc hB1.size _) ⟨⟨v, hv.alloc _, hrow.alloc _, trivial⟩, hB1.alloc hB1.size _⟩ ⟨W.heap.size, hv.lt, blk_new W _, rfl⟩
  case body =>
    rintro l pre x a' W hl ⟨r, hr⟩ ⟨⟨v, hv, hrow, _⟩, hB1⟩ ⟨Bx, hBx, bX, rfl⟩ hlt
    have hc := hv.cell
    have x0 := blk_cell bX 0
    have x1 := blk_cell bX 1
    gi_wp2_with (gi_at_builtin; refine wpListIn_append_own _ rfl _ _ 57 rfl w.heap.size 45 i0 (.agg #[.int .u64 0, .int .i64 0]) 2 16 Try.underlying57 hi hz0 hz1 hz2 rfl (by decide) _ _ _ rfl (hrow.alloc _) ⟨W.heap.size, 0, none⟩ 1 1 [.int .u64 x.1, .int .i64 x.2] rfl rfl (cell_two_new _ _ _ _) (by simp [Value.oneCell']) (by unfold maxLen; omega) (by omega) (by have := hB1.size; simp; omega) ?_; intro v' w1 hown' hgrow _; obtain ⟨g', cap', rfl⟩ := ownsRow_succ hown'; obtain ⟨hv1, hv2, hr2, hk2, hb2⟩ := hv.appended (by decide) hrow hB1.size (Nat.le_refl _) hown' hgrow; have hc1 := hv1.cell; have hf1 := hv1.frozen)
    exact ⟨hk2.from _, hb2, ⟨_, hv2, by rw [cellsL_snoc, List.length_append]; exact hr2, trivial⟩, hB1.trans hb2⟩
  case done =>
    rintro D ys W hD rfl ⟨⟨v, hv, hrow, _⟩, hB⟩ hK
    have hc := hv.cell
    gi_wp2
    refine ⟨by simp, .inl ⟨_, _, rfl, run_takeDeferred hK, ?_⟩⟩
    obtain ⟨A, c, rfl, hcl, hC⟩ := row_C (ownsRow_putObj hrow (.deferred none) hK rfl)
    exact ⟨_, results_tmp rfl _ _ _, ⟨A, c, rfl, hcl, hC⟩, hB.trans (belowK_b (w := w) (Nat.le_refl _) W D _ _ (by omega) hK rfl rfl)⟩
  case stop =>
    rintro D c pre W _ _ h _
    exact h.elim
end Go.Proofs.Ytbiccahkniadfaa.H
