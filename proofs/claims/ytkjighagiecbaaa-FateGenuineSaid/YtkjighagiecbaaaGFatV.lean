/- FatT, FatU, FatV. -/
import Derived.Test.YtkjighagiecbaaaGFatS
import Derived.Test.YtkjighagiecbaaaGFatR
import Derived.Test.YtkjighagiecbaaaGFatK
import Derived.Sort.LoopGhostIn
import Derived.Test.YtkjighagiecbaaaGBx1
/-! ### FatT -/
namespace Go.Proofs.Ytkjighagiecbaaa.H
open Go.RowKit Go.Proofs.Ytkjighagiecbaaa.P Go.Proofs.YtkjighagiecbaaaW.PrintWords Go.Proofs.YtkjighagiecbaaaW.PrintLast Go.Proofs.YtkjighagiecbaaaW.PrintMore
set_option linter.unusedVariables false
set_option linter.unusedSimpArgs false
set_option maxRecDepth 20000
section
variable {A0 : Option Addr} {c0 : Nat} {l0 : List Int} {A1 : Option Addr} {c1 : Nat} {l1 : List S66} {A2 : Option Addr} {c2 : Nat} {l2 : List Rul}
theorem step_any (d a : Int) (w : World) (h : NetAt A0 c0 l0 A1 c1 l1 A2 c2 l2 w) (hl : l2.length * 48 ≤ 140737488355328) :
    Calls Try.prog 10 #[netV A0 c0 l0 A1 c1 l1 A2 c2 l2, .int .i64 d, .int .u32 a] w fun e w' => e = .returned (.tuple #[.int .i64 (stepP l1 l2 a d).1, .agg #[.int .i64 (stepP l1 l2 a d).2.1, .int .i64 (stepP l1 l2 a d).2.2]]) ∧ Below w.heap.size w w' :=
  stepP_walk (mt := matchP) (dn := denyP) d a w h (fun W hW => denies_any A2 c2 l2 d a W hW.r2 hW.c2 hl) (fun W hW => match_any A2 c2 l2 d a W hW.r2 hW.c2 hl)
    (fun W x y hW => (next_any A0 c0 l0 A1 c1 l1 ⟨x, y⟩ W hW.r1 hW.c1).mono fun e w' hq => ⟨_, _, hq.1, hq.2⟩)
theorem next_of (p : Int × Int) (w : World) (h : NetAt A0 c0 l0 A1 c1 l1 A2 c2 l2 w) :
    Calls Try.prog 25 #[.agg #[.slice A0 l0.length c0, .slice A1 l1.length c1], .agg #[.int .i64 p.1, .int .i64 p.2]] w fun e w' => ∃ q0 q1 b, e = .returned (.tuple #[.agg #[.int .i64 q0, .int .i64 q1], .bool b]) ∧ (b = true → nxD (nxS l1) p = q0) ∧ b = (nxS l1 p).isSome ∧ Below w.heap.size w w' := by
  refine (next_any A0 c0 l0 A1 c1 l1 ⟨p.1, p.2⟩ w h.r1 h.c1).mono ?_
  rintro e w' ⟨rfl, hb⟩
  refine ⟨_, _, _, rfl, fun hbt => ?_, (nxS_some l1 p).symm, hb⟩
  unfold nxD nxS
  rw [if_pos hbt]
  rfl
structure DevB (lo : Nat) (A0 : Option Addr) (c0 : Nat) (l0 : List Int) (A1 : Option Addr) (c1 : Nat) (l1 : List S66) (A2 : Option Addr) (c2 : Nat) (l2 : List Rul) (a d : Int) (w : World) : Prop where
  e_ : w.heap[lo]? = some (.cells #[.int .i64 4, .int .i64 0, .int .i64 0] 51 (0, 0))
  n_ : w.heap[lo + 1]? = some (.cells #[.slice A0 l0.length c0, .slice A1 l1.length c1, .slice A2 l2.length c2] 28 (0, 0))
  d_ : w.heap[lo + 2]? = some (.cells #[.int .i64 d] 3 (0, 0))
  a_ : w.heap[lo + 3]? = some (.cells #[.int .u32 a] 29 (0, 0))
  p_ : w.heap[lo + 4]? = some (.cells #[.pointer (some ⟨lo, 0, none⟩)] 55 (0, 0))
def KiD (lo : Nat) (A B : World) : Prop := ∀ k, lo ≤ k → k < lo + 5 → B.heap[k]? = A.heap[k]?
theorem KiD.trans {lo : Nat} {A B C : World} (h : KiD lo A B) (g : KiD lo B C) : KiD lo A C := fun k h1 h2 => (g k h1 h2).trans (h k h1 h2)
theorem DevB.kept {lo : Nat} {a d : Int} {w w' : World} (h : DevB lo A0 c0 l0 A1 c1 l1 A2 c2 l2 a d w) (k : KiD lo w w') : DevB lo A0 c0 l0 A1 c1 l1 A2 c2 l2 a d w' :=
  ⟨(k _ (by omega) (by omega)).trans h.e_, (k _ (by omega) (by omega)).trans h.n_, (k _ (by omega) (by omega)).trans h.d_, (k _ (by omega) (by omega)).trans h.a_, (k _ (by omega) (by omega)).trans h.p_⟩
theorem DevB.below {lo : Nat} {a d : Int} {w w' : World} (h : DevB lo A0 c0 l0 A1 c1 l1 A2 c2 l2 a d w) (hb : Below w.heap.size w w') : DevB lo A0 c0 l0 A1 c1 l1 A2 c2 l2 a d w' :=
  ⟨blk_below h.e_ hb, blk_below h.n_ hb, blk_below h.d_ hb, blk_below h.a_ hb, blk_below h.p_ hb⟩
theorem DevB.to {lo : Nat} {a d : Int} {w : World} (h : DevB lo A0 c0 l0 A1 c1 l1 A2 c2 l2 a d w) (d' : Int) : DevB lo A0 c0 l0 A1 c1 l1 A2 c2 l2 a d' (w.setCell ⟨lo + 2, 0, none⟩ (.int .i64 d')) :=
  ⟨(Below.heap_setCell w _ _ lo (by show ¬ lo = lo + 2; omega)).trans h.e_, (Below.heap_setCell w _ _ (lo + 1) (by show ¬ lo + 1 = lo + 2; omega)).trans h.n_, blk_set h.d_ 0 _, (Below.heap_setCell w _ _ (lo + 3) (by show ¬ lo + 3 = lo + 2; omega)).trans h.a_, (Below.heap_setCell w _ _ (lo + 4) (by show ¬ lo + 4 = lo + 2; omega)).trans h.p_⟩
def EndAt (lo : Nat) (R : Trc) (w : World) : Prop := w.heap[lo]? = some (.cells #[.int .i64 R.2.1, .int .i64 R.2.2.1, .int .i64 R.2.2.2] 51 (0, 0))
end
end Go.Proofs.Ytkjighagiecbaaa.H
/-! ### FatU -/
namespace Go.Proofs.Ytkjighagiecbaaa.H
open Go.RowKit Go.Proofs.Ytkjighagiecbaaa.P Go.Proofs.YtkjighagiecbaaaW.PrintWords Go.Proofs.YtkjighagiecbaaaW.PrintLast Go.Proofs.YtkjighagiecbaaaW.PrintMore
attribute [local go_sem] Oper.semAt_some
set_option linter.unusedVariables false
set_option linter.unusedSimpArgs false
set_option maxRecDepth 20000
section
variable {A0 : Option Addr} {c0 : Nat} {l0 : List Int} {A1 : Option Addr} {c1 : Nat} {l1 : List S66} {A2 : Option Addr} {c2 : Nat} {l2 : List Rul}
theorem devices_any (d a : Int) (p : Option Addr) (w : World) :
    Calls Try.prog 20 #[netV A0 c0 l0 A1 c1 l1 A2 c2 l2, .int .i64 d, .int .u32 a, .pointer p] w fun e w' => e = .returned (.func (.func 36) #[] #[.pointer (some ⟨w.heap.size + 1, 0, none⟩), .pointer (some ⟨w.heap.size, 0, none⟩), .pointer (some ⟨w.heap.size + 1 + 1, 0, none⟩), .pointer (some ⟨w.heap.size + 1 + 1 + 1, 0, none⟩)]) ∧
      w' = (((w.alloc (.cells #[.slice A0 l0.length c0, .slice A1 l1.length c1, .slice A2 l2.length c2] 28)).alloc (.cells #[.int .i64 d] 3)).alloc (.cells #[.int .u32 a] 29)).alloc (.cells #[.pointer p] 55) := by
  have hu28 := Try.underlying28
  have hu25 := Try.underlying25
  go_enter Try.func20, Try.ntmps20
  go_wp2
  go_ret
  exact ⟨rfl, rfl⟩
set_option maxHeartbeats 4000000 in
theorem dev_iter (n lo K : Nat) (hK : lo + 5 ≤ K) (a d0 : Int) (R : Trc) (ht : Tr (stepP l1 l2 a) (nxD (nxS l1)) [] d0 R) (hl : l2.length * 48 ≤ 140737488355328) (J Jx : List Int → World → Prop) (W0 : World)
    (hJn : ∀ pre A, J pre A → NetAt A0 c0 l0 A1 c1 l1 A2 c2 l2 A) (hJb : ∀ pre A B, J pre A → Below A.heap.size A B → J pre B) (hJs : ∀ pre A v o, o < 5 → J pre A → J pre (A.setCell ⟨lo + o, 0, none⟩ v)) (hJe : ∀ pre A v v' v'', J pre A → J pre (((A.setCell ⟨lo, 0, none⟩ v).setCell ⟨lo, 1, none⟩ v').setCell ⟨lo, 2, none⟩ v''))
    (hgo : ∀ pre x A, J (pre ++ [x]) A → x ∉ pre) (hstop : ∀ pre x A, Jx (pre ++ [x]) A → x ∈ pre) (hD : DevB lo A0 c0 l0 A1 c1 l1 A2 c2 l2 a d0 W0) :
    IterAt Fence.wide n Try.prog 36 #[.pointer (some ⟨lo + 2, 0, none⟩), .pointer (some ⟨lo + 1, 0, none⟩), .pointer (some ⟨lo + 3, 0, none⟩), .pointer (some ⟨lo + 4, 0, none⟩)] (fun x : Int => #[.int .i64 x]) K R.1.length J Jx
      (fun xs W => xs = R.1 ∧ R.2.1 ≠ 4 ∧ EndAt lo R W) (fun xs W => xs = R.1 ∧ R.2 = (4, (0, 0)) ∧ EndAt lo R W) (KiD lo) W0 := by
  intro Y Yx hYJ hYk hYx hY0 hY
  have huN := Try.underlying28
  have huT := Try.underlying25
  have huP := Try.underlying33
  have huE := Try.underlying51
  have HT := Aside0.mk ht
  have HD := Aside0.mk hD
  have HY0 := Aside0.mk hY0
  have HY := Aside0.mk hY
  have HYJ := Aside0.mk hYJ
  have HYK := Aside0.mk hYk
  have HYX := Aside0.mk hYx
  clear ht hD hY0 hY hYJ hYk hYx
  refine callsIn_of_wp Try.func36 rfl trivial ?_ rfl
  simp only [Try.ntmps36, List.size_toArray, List.length_cons, List.length_nil, Nat.reduceAdd, Nat.reduceSub, Array.replicate_succ, Array.replicate_zero, List.push_toArray, List.append_toArray, List.nil_append, List.cons_append]
  gi_wp2
  gi_loopg [] (R.1.length) (fun gg wr => ∃ (seen : List Int) (d : Int), Aside0 (Y seen wr) ∧ Aside0 (DevB lo A0 c0 l0 A1 c1 l1 A2 c2 l2 a d wr) ∧ Aside0 (Tr (stepP l1 l2 a) (nxD (nxS l1)) seen d R) ∧ R.1.length - seen.length ≤ gg)
  case atStart => exact ⟨[], d0, HY0, HD, HT, by simp⟩
  case round =>
    obtain ⟨seen, d, hYs, hDs, hTs, hg⟩ := hrel
    have HNL := Aside0.mk (show seen.length < R.1.length from by
      obtain ⟨rest, e⟩ := hTs.out.chain.1
      rw [e]
      simp)
    obtain ⟨he, hn, hdv, ha, hp⟩ := hDs.out
    have e0 := blk_cell he 0
    have e1 := blk_cell he 1
    have e2 := blk_cell he 2
    have n0 := blk_cell hn 0
    have n1 := blk_cell hn 1
    have n2 := blk_cell hn 2
    have v0 := blk_cell hdv 0
    have a0 := blk_cell ha 0
    have p0 := blk_cell hp 0
    clear he hn hdv ha hp
    by_cases hin : d ∈ seen
    · have HIN := Aside0.mk hin
      have hin0 := Aside0.mk hin
      have hyl : YieldAt Fence.wide (n - 1) Try.prog (K + 1) #[.int .i64 d] wr fun e W' => e = .returned (.bool false) ∧ Yx (seen ++ [d]) W' ∧ KiD lo wr W' :=
        (HY.out (n - 1) seen d wr hYs.out HNL.out).mono fun e W' h => h.2.elim (fun q => absurd HIN.out (hgo seen d W' (HYJ.out _ _ q.2).1)) (fun q => ⟨q.1, q.2, h.1⟩)
      obtain ⟨fn, tmps, assign, body, hy, hR⟩ := hyl
      clear hin
      have HT2 := Aside0.mk (hTs.out.one (.loop hin0.out))
      gi_wp2_with ((refine ⟨fun h => (by cases h), ?_⟩; refine hR.mono ?_; clear hR; rintro e W2 ⟨rfl, hYx2, hKi⟩))
      go_end0
      have hD2 := hDs.out.kept hKi
      exact ⟨⟨_, rfl⟩, .inr ⟨R.1, ⟨rfl, by rw [HT2.out], by unfold EndAt; rw [HT2.out]; exact hD2.e_⟩, by rw [HT2.out]; exact hYx2⟩⟩
    · have hyl : YieldAt Fence.wide (n - 1) Try.prog (K + 1) #[.int .i64 d] wr fun e W' => e = .returned (.bool true) ∧ Y (seen ++ [d]) W' ∧ KiD lo wr W' :=
        (HY.out (n - 1) seen d wr hYs.out HNL.out).mono fun e W' h => h.2.elim (fun q => ⟨q.1, q.2, h.1⟩) (fun q => absurd (hstop seen d W' (HYX.out _ _ q.2)) hin)
      obtain ⟨fn, tmps, assign, body, hy, hR⟩ := hyl
      have HIN := Aside0.mk hin
      clear hin e0 e1 e2 n0 n1 n2 a0 p0
      gi_wp2_with ((refine ⟨fun h => (by cases h), ?_⟩; refine hR.mono ?_; clear hR; rintro e W2 ⟨rfl, hY2, hKi⟩; have hD2 := hDs.out.kept hKi; obtain ⟨he, hn, hdv, ha, hp⟩ := hD2; have n0 := blk_cell hn 0; have n1 := blk_cell hn 1; have n2 := blk_cell hn 2; have v0 := blk_cell hdv 0; have a0 := blk_cell ha 0; clear he hn hdv ha hp))
      refine ⟨trivial, fun h => (by cases h), ?_⟩
      have HJ2 := Aside0.mk (HYJ.out _ _ hY2)
      refine (callsIn_wide.2 (step_any d a W2 (hJn _ _ HJ2.out.1) hl)).mono ?_
      rintro e W3 ⟨rfl, hb3⟩
      obtain ⟨f, x, y, hs⟩ : ∃ f x y, stepP l1 l2 a d = (f, (x, y)) := ⟨_, _, _, rfl⟩
      rw [hs]
      have HS := Aside0.mk hs
      have hD3 := (hDs.out.kept hKi).below (hb3.alloc hb3.size (.cells #[.int .i64 x, .int .i64 y] 33))
      have HY3 := Aside0.mk (HYK.out _ _ _ hY2 (SameB.below (hb3.alloc hb3.size (.cells #[.int .i64 x, .int .i64 y] 33)) HJ2.out.2) (hJb _ _ _ HJ2.out.1 (hb3.alloc hb3.size (.cells #[.int .i64 x, .int .i64 y] 33))))
      have HD3 := Aside0.mk hD3
      have hnew := blk_new W3 (.cells #[.int .i64 x, .int .i64 y] 33)
      have x0 := blk_cell hnew 0
      have x1 := blk_cell hnew 1
      have HN := Aside0.mk hnew
      obtain ⟨he, hn, hdv, ha, hp⟩ := hD3
      clear n0 n1 n2 v0 a0 hs hb3 hnew hY2 hKi hy
      by_cases h4 : f = 4
      · subst h4
        have n0 := blk_cell hn 0
        have n1 := blk_cell hn 1
        have v0 := blk_cell hdv 0
        have v1 := blk_frozen hdv 0
        clear he hn hdv ha hp
        gi_wp2
        have HGO := Aside0.mk (show Tr (stepP l1 l2 a) (nxD (nxS l1)) (seen ++ [d]) (nxD (nxS l1) (x, y)) R from by
          have h := hTs.out
          have e := HS.out
          cases h with
          | loop h => exact absurd h HIN.out
          | stop _ h => exact absurd (by rw [e]) h
          | go _ _ h => rw [e] at h; exact h)
        have HSM := Aside0.mk (show (nxS l1 (x, y)).isSome = true from by
          have h := (step_fates matchP denyP l2 (nxS l1) a d).1
          have e := HS.out
          unfold stepP at e
          rw [e] at h
          exact (h rfl).1)
        have HLT := Aside0.mk (show R.1.length - (seen ++ [d]).length < R.1.length - seen.length from by
          obtain ⟨rest, e⟩ := hTs.out.chain.1
          rw [e]
          simp
          omega)
        refine ⟨trivial, fun h => (by cases h), ?_⟩
        refine (callsIn_wide.2 (next_of (A0 := A0) (c0 := c0) (l0 := l0) (A1 := A1) (c1 := c1) (l1 := l1) (A2 := A2) (c2 := c2) (l2 := l2) (x, y) _ (hJn _ _ (HYJ.out _ _ HY3.out).1))).mono ?_
        rintro e W5 ⟨q0, q1, b, rfl, hq, hbs, hb5⟩
        have HQ := Aside0.mk (hq (hbs.trans HSM.out))
        clear hq hbs n0 n1 v0 v1 x0 x1
        have hb6 := hb5.alloc hb5.size (.cells #[.int .i64 q0, .int .i64 q1] 33)
        have hD6 := HD3.out.below hb6
        have HY6 := Aside0.mk (HYK.out _ _ _ HY3.out (SameB.below hb6 (HYJ.out _ _ HY3.out).2) (hJb _ _ _ (HYJ.out _ _ HY3.out).1 hb6))
        have HD6 := Aside0.mk hD6
        have hnew := blk_new W5 (.cells #[.int .i64 q0, .int .i64 q1] 33)
        have x0 := blk_cell hnew 0
        have x1 := blk_cell hnew 1
        have v0 := blk_cell hD6.d_ 0
        have v1 := blk_frozen hD6.d_ 0
        clear hb5 hb6 hD6 hnew
        gi_wp2
        gi_roundg (R.1.length - (seen ++ [d]).length)
        case measure => have := HLT.out; omega
        case rel =>
          refine ⟨seen ++ [d], q0, ⟨?_⟩, ⟨HD6.out.to q0⟩, ⟨by rw [← HQ.out]; exact HGO.out⟩, Nat.le_refl _⟩
          exact HYK.out _ _ _ HY6.out (SameB.set _ _ _ (by show lo + 2 < K; omega)) (hJs _ _ _ 2 (by omega) (HYJ.out _ _ HY6.out).1)
      · have hne : (f != 4) = true := by simp [h4]
        have e0 := blk_cell he 0
        have e1 := blk_cell he 1
        have e2 := blk_cell he 2
        have p0 := blk_cell hp 0
        have g0 := blk_frozen he 0
        have g1 := blk_frozen he 1
        have g2 := blk_frozen he 2
        have HE := Aside0.mk (blk_set (blk_set (blk_set he 0 (.int .i64 f)) 1 (.int .i64 x)) 2 (.int .i64 y))
        have HT2 := Aside0.mk (hTs.out.one (.stop HIN.out (by rw [HS.out]; exact h4)))
        have H4 := Aside0.mk h4
        clear he hn hdv ha hp h4
        have HY4 := Aside0.mk (HYK.out _ _ _ HY3.out ((SameB.set _ ⟨lo, 0, none⟩ (.int .i64 f) (by show lo < K; omega)).trans ((SameB.set _ ⟨lo, 1, none⟩ (.int .i64 x) (by show lo < K; omega)).trans (SameB.set _ ⟨lo, 2, none⟩ (.int .i64 y) (by show lo < K; omega)))) (hJe _ _ _ _ _ (HYJ.out _ _ HY3.out).1))
        gi_wp2
        refine bodyPost_ret (results_none (by rfl) _ _ _) rfl ?_
        exact ⟨⟨_, rfl⟩, .inl ⟨R.1, ⟨rfl, by rw [HT2.out, HS.out]; exact H4.out, by unfold EndAt; rw [HT2.out, HS.out]; exact HE.out⟩, by rw [HT2.out]; exact HY4.out⟩⟩
end
end Go.Proofs.Ytkjighagiecbaaa.H
/-! ### FatV -/
namespace Go.Proofs.Ytkjighagiecbaaa.H
open Go.RowKit Go.Proofs.Ytkjighagiecbaaa.P Go.Proofs.YtkjighagiecbaaaW.PrintWords Go.Proofs.YtkjighagiecbaaaW.PrintLast Go.Proofs.YtkjighagiecbaaaW.PrintMore
attribute [local go_sem] Oper.semAt_some
set_option linter.unusedVariables false
set_option linter.unusedSimpArgs false
set_option maxRecDepth 20000
theorem wrap_up {j n : Nat} (h : j < n) (hn : n ≤ 9223372036854775807) : wrap64 ((j : Int) + 1) = ((j + 1 : Nat) : Int) := by unfold wrap64; omega
theorem index_l0 (l : List Int) (x : Int) (hl : l.length ≤ 9223372036854775807) : ∀ (d j : Nat), j + d = l.length → ∃ r, B.slices_Index_int_int.l0 (d + 1) l x (l.length : Int) (j : Int) = some r ∧ decide (r ≥ 0) = decide (x ∈ l.drop j)
  | 0, j, h => by
    obtain rfl : j = l.length := by omega
    exact ⟨-1, by rw [B.slices_Index_int_int.l0]; simp, by simp⟩
  | d + 1, j, h => by
    have hlt : j < l.length := by omega
    obtain ⟨r, h1, h2⟩ := index_l0 l x hl d (j + 1) (by omega)
    have e : rd l (j : Int) = l[j] := by unfold rd; rw [Int.toNat_natCast, List.getD_eq_getElem?_getD, List.getElem?_eq_getElem hlt]; rfl
    by_cases hx : x = l[j]
    · refine ⟨(j : Int), ?_, ?_⟩
      · rw [B.slices_Index_int_int.l0]
        simp [hlt, e, hx, show (0 : Int) ≤ (j : Int) from by omega]
      · rw [decide_eq_true (show ((j : Nat) : Int) ≥ 0 by omega), decide_eq_true]
        rw [List.drop_eq_getElem_cons hlt, List.mem_cons]
        exact .inl hx
    · refine ⟨r, ?_, ?_⟩
      · rw [B.slices_Index_int_int.l0]
        simp only [e, show ((j : Int) < (l.length : Int)) from by omega, show (0 : Int) ≤ (j : Int) from by omega, if_true, wrap_up hlt hl, if_neg hx, h1]
      · rw [h2, List.drop_eq_getElem_cons hlt]
        rw [Bool.eq_iff_iff, decide_eq_true_iff, decide_eq_true_iff, List.mem_cons]
        exact ⟨.inr, fun q => q.elim (fun q => absurd q hx) id⟩
theorem contains_any (A : Option Addr) (c : Nat) (l : List Int) (x : Int) (w : World) (hr : Kd.C (Kd.int .i64) w A l.length l) (hc : l.length ≤ c) :
    Calls Try.prog 21 #[.slice A l.length c, .int .i64 x] w fun e w' => e = .returned (.bool (decide (x ∈ l))) ∧ Below w.heap.size w w' := by
  obtain ⟨r, h1, h2⟩ := index_l0 l x (Kd.C_max hr) l.length 0 (by omega)
  refine (B.slices_Contains_int_int.calls (l.length + 1) A c l x (decide (x ∈ l)) w hr hc ?_).mono (fun e w' h => ⟨h.1, by obtain ⟨nd, rfl⟩ := h.2; exact pw_below_drewN (Below.refl _ _) nd⟩)
  unfold B.slices_Contains_int_int.f B.slices_Index_int_int.f
  rw [show ((0 : Nat) : Int) = 0 from rfl] at h1
  rw [h1, Option.bind_some, h2, List.drop_zero]
def devsOf (l1 : List S66) : List Int := l1.flatMap fun l => [l.f0.f0, l.f1.f0]
theorem devs_len : ∀ l1 : List S66, (devsOf l1).length = 2 * l1.length
  | [] => rfl
  | l :: t => by
    have := devs_len t
    show (l.f0.f0 :: l.f1.f0 :: devsOf t).length = _
    simp only [List.length_cons, this]
    omega
theorem look_upd_or {α β : Type} [DecidableEq α] : ∀ (L : List (α × β)) (k p : α) (v q : β), look (upd L k v) p = some q → q = v ∨ look L p = some q
  | [], k, p, v, q, h => by
    unfold upd look at h
    split at h
    · exact .inl (Option.some.inj h).symm
    · unfold look at h; cases h
  | (a, b) :: t, k, p, v, q, h => by
    unfold upd at h
    split at h
    · unfold look at h ⊢
      split at h
      · exact .inl (Option.some.inj h).symm
      · rename_i h1 h2
        right
        rw [if_neg (by rw [← h1]; exact h2)]
        exact h
    · unfold look at h ⊢
      split at h
      · right
        rename_i h2
        rw [if_pos h2]
        exact h
      · rename_i h2
        rw [if_neg h2]
        exact look_upd_or t k p v q h
theorem look_devs : ∀ (l1 : List S66) (L : List (S33 × S33)) (p q : S33), look (l1.foldl jstep L) p = some q → q.f0 ∈ devsOf l1 ∨ look L p = some q
  | [], L, p, q, h => .inr h
  | l :: t, L, p, q, h => by
    show q.f0 ∈ l.f0.f0 :: l.f1.f0 :: devsOf t ∨ _
    rcases look_devs t (jstep L l) p q h with h | h
    · exact .inl (List.mem_cons_of_mem _ (List.mem_cons_of_mem _ h))
    · unfold jstep at h
      rcases look_upd_or _ _ _ _ _ h with rfl | h
      · exact .inl (by simp)
      · rcases look_upd_or _ _ _ _ _ h with rfl | h
        · exact .inl (by simp)
        · exact .inr h
theorem nxS_devs (l1 : List S66) (p q : Int × Int) (h : nxS l1 p = some q) : q.1 ∈ devsOf l1 := by
  unfold nxS at h
  split at h
  · rename_i hb
    cases h
    unfold nextB at hb
    unfold nextQ
    obtain ⟨v, hv⟩ := Option.isSome_iff_exists.1 hb
    rw [hv]
    rcases look_devs l1 [] _ _ hv with h | h
    · exact h
    · unfold look at h; cases h
  · cases h
theorem trc_ex (l1 : List S66) (l2 : List Rul) (a d : Int) : ∃ R, Tr (stepP l1 l2 a) (nxD (nxS l1)) [] d R ∧ R.1.length ≤ 2 * l1.length + 2 := by
  obtain ⟨R, h1, h2⟩ := trace_is matchP denyP l2 (nxS l1) (devsOf l1) (nxS_devs l1) a d
  rw [devs_len] at h2
  exact ⟨R, h1, h2⟩
noncomputable def trcP (l1 : List S66) (l2 : List Rul) (a d : Int) : Trc := (trc_ex l1 l2 a d).choose
theorem trcP_tr (l1 : List S66) (l2 : List Rul) (a d : Int) : Tr (stepP l1 l2 a) (nxD (nxS l1)) [] d (trcP l1 l2 a d) := (trc_ex l1 l2 a d).choose_spec.1
theorem trcP_len (l1 : List S66) (l2 : List Rul) (a d : Int) : (trcP l1 l2 a d).1.length ≤ 2 * l1.length + 2 := (trc_ex l1 l2 a d).choose_spec.2
def TraceAt (R : Trc) (er : Int) (B : Nat) (w : World) (e : Ending) (w' : World) : Prop :=
  ∃ v, e = .returned (.tuple #[.agg #[v, .int .i64 R.2.1, .int .i64 R.2.2.1, .int .i64 R.2.2.2], .int .i64 er]) ∧ w'.ownsRow B 3 1 v R.1.length (R.1.map (Value.int .i64)) ∧ Below B w w'
section
variable {A0 : Option Addr} {c0 : Nat} {l0 : List Int} {A1 : Option Addr} {c1 : Nat} {l1 : List S66} {A2 : Option Addr} {c2 : Nat} {l2 : List Rul}
theorem trace_no (d a : Int) (w : World) (h : NetAt A0 c0 l0 A1 c1 l1 A2 c2 l2 w) (hd : d < 0 ∨ (l0.length : Int) ≤ d) :
    Calls Try.prog 8 #[netV A0 c0 l0 A1 c1 l1 A2 c2 l2, .int .i64 d, .int .u32 a] w fun e w' => TraceAt ([], 0, 0, 0) 91 w.heap.size w e w' := by
  have huN := Try.underlying28
  have huT := Try.underlying25
  have huR := Try.underlying35
  have huP := Try.underlying33
  have hk : ((w.alloc (.cells #[.slice A0 l0.length c0, .slice A1 l1.length c1, .slice A2 l2.length c2] 28)).alloc (.cells #[.slice none 0 0, .int .i64 0, .int .i64 0, .int .i64 0] 35)).heap[w.heap.size + 1]? = some (.cells #[.slice none 0 0, .int .i64 0, .int .i64 0, .int .i64 0] 35 (0, 0)) := by
    have h := blk_new (w.alloc (.cells #[.slice A0 l0.length c0, .slice A1 l1.length c1, .slice A2 l2.length c2] 28)) (.cells #[.slice none 0 0, .int .i64 0, .int .i64 0, .int .i64 0] 35)
    rw [World.size_alloc] at h
    exact h
  have hn := blk_alloc (blk_new w (.cells #[.slice A0 l0.length c0, .slice A1 l1.length c1, .slice A2 l2.length c2] 28)) (.cells #[.slice none 0 0, .int .i64 0, .int .i64 0, .int .i64 0] 35)
  have n0 := blk_cell hn 0
  have k0 := blk_cell hk 0
  have k1 := blk_cell hk 1
  have k2 := blk_cell hk 2
  have k3 := blk_cell hk 3
  have f0 := blk_frozen hk 0
  have f1 := blk_frozen hk 1
  have f2 := blk_frozen hk 2
  have f3 := blk_frozen hk 3
  have HB := Aside0.mk (((Below.refl w.heap.size w).alloc (Nat.le_refl _) (.cells #[.slice A0 l0.length c0, .slice A1 l1.length c1, .slice A2 l2.length c2] 28)).alloc (by simp) (.cells #[.slice none 0 0, .int .i64 0, .int .i64 0, .int .i64 0] 35))
  have hm0 := Kd.C_max h.r0
  clear hk hn h
  by_cases h1 : d < 0
  · clear hd
    go_enter Try.func8, Try.ntmps8
    go_wp2
    exact bodyPost_ret (v := .tuple #[.agg #[.slice none 0 0, .int .i64 0, .int .i64 0, .int .i64 0], .int .i64 91]) (by simp [results, Try.results8, go_sem, k0, k1, k2, k3]) rfl ⟨_, rfl, World.ownsRow_nil _ _ _ _, HB.out⟩
  · have h2 : (l0.length : Int) ≤ d := by omega
    have h3 : decide (d < 0) = false := by simpa using h1
    have h4 : decide ((l0.length : Int) ≤ d) = true := by simpa using h2
    clear hd h1 h2
    go_enter Try.func8, Try.ntmps8
    go_wp2
    exact bodyPost_ret (v := .tuple #[.agg #[.slice none 0 0, .int .i64 0, .int .i64 0, .int .i64 0], .int .i64 91]) (by simp [results, Try.results8, go_sem, k0, k1, k2, k3]) rfl ⟨_, rfl, World.ownsRow_nil _ _ _ _, HB.out⟩
end
end Go.Proofs.Ytkjighagiecbaaa.H
