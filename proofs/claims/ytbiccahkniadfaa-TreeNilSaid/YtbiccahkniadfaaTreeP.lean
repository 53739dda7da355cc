/- A tree's pairs, one after the other: each, all: walked. -/
import Derived.RangeFuncNested
import Derived.RangeFuncBound
import Derived.RangeFuncCalls
import Derived.RangeFuncLeaves
import Derived.RangeFuncKeeps
import Derived.Shelf.Abstract
import Derived.WalkKit
import Derived.OwnWalkIn
import Derived.TacticsInMore
import Derived.Test.YtbiccahkniadfaaTree8
namespace Go.Proofs.Ytbiccahkniadfaa.H
open Go.RowKit Go.Shelf Go.Proofs.Ytbiccahkniadfaa.P Go.Proofs.YtbiccahkniadfaaW.PrintWords Go.Proofs.YtbiccahkniadfaaW.PrintLast Go.Proofs.YtbiccahkniadfaaW.PrintMore
attribute [local go_sem] Oper.semAt_some
set_option linter.unusedVariables false
set_option linter.unusedSimpArgs false
theorem room_of_none {F : Fence} (hd : F.depth = none) (k : Nat) : F.room k := fun d h => by rw [hd] at h; cases h
theorem RoundIn.anyDepth {F : Fence} (hd : F.depth = none) {m m' : Nat} {P : Program} {l : Nat} {f : FuncId} {tmps : Array Value} {assign body : Code} {w : World} {R : Ending → World → Prop}
    (h : RoundIn F m P l f tmps assign body w R) : RoundIn F m' P l f tmps assign body w R := ⟨h.1, fun c cs _ => h.2 c cs (room_of_none hd _)⟩
theorem YieldAt.anyDepth {F : Fence} (hd : F.depth = none) {m : Nat} (m' : Nat) {P : Program} {l : Nat} {args : Array Value} {W : World} {R : Ending → World → Prop} (h : YieldAt F m P l args W R) : YieldAt F m' P l args W R := by
  obtain ⟨fn, tmps, assign, body, hy, hR⟩ := h
  exact ⟨fn, tmps, assign, body, hy, RoundIn.anyDepth hd hR⟩
/-- A tree in blocks below n₀. -/
def TreeB (n₀ : Nat) (W : World) : Option Addr → T → Prop
  | p, .leaf => p = none
  | p, .node l k v r => ∃ (g : Nat) (pl pr : Option Addr), p = some ⟨g, 0, none⟩ ∧ g < n₀ ∧ W.cell? ⟨g, 0, none⟩ = some (.int .u64 k) ∧ W.cell? ⟨g, 1, none⟩ = some (.int .i64 v) ∧ W.cell? ⟨g, 2, none⟩ = some (.pointer pl) ∧ W.cell? ⟨g, 3, none⟩ = some (.pointer pr) ∧ TreeB n₀ W pl l ∧ TreeB n₀ W pr r
theorem TreeB.below {n₀ : Nat} {A B : World} (h : Below n₀ A B) : ∀ {p : Option Addr} {t : T}, TreeB n₀ A p t → TreeB n₀ B p t
  | _, .leaf, ht => ht
  | _, .node _ _ _ _, ⟨g, pl, pr, hp, hb, h0, h1, h2, h3, hl, hr⟩ => ⟨g, pl, pr, hp, hb, (h.cell (p := ⟨g, 0, none⟩) hb).trans h0, (h.cell (p := ⟨g, 1, none⟩) hb).trans h1, (h.cell (p := ⟨g, 2, none⟩) hb).trans h2, (h.cell (p := ⟨g, 3, none⟩) hb).trans h3, TreeB.below h hl, TreeB.below h hr⟩
theorem TreeAt.toB {W : World} : ∀ {t : T} {p : Option Addr}, TreeAt W p t → TreeB W.heap.size W p t
  | .leaf, _, h => h
  | .node l k v r, _, ⟨g, pl, pr, h1, h2, h3, h4⟩ => ⟨g, pl, pr, h1, blk_lt h2, blk_cell h2 0, blk_cell h2 1, blk_cell h2 2, blk_cell h2 3, h3.toB, h4.toB⟩
theorem wpListIn_pass {F : Fence} {n : Nat} {P : Program} {ops : Array Oper} {Q : Exit → Act → World → Prop} {a : Act} {w : World} {rest : List Oper} {o : Oper} (hw : Region.wanted o (yielded ops a.tmps) = false) (ha : ∀ f, o.about P w a.eval = some f → F.fn f) (h : wpListIn F n P ops Q rest (a.put o.dst undef) w) : wpListIn F n P ops Q (o :: rest) a w := by
  simp only [wpListIn, hw]
  exact ⟨ha, h⟩
def encP (x : Int × Int) : Array Value := #[.agg #[.int .u64 x.1, .int .i64 x.2]]
set_option maxRecDepth 100000 in
set_option maxHeartbeats 4000000 in
theorem each_in (F : Fence) (hd : F.depth = none) (h6 : F.fn 44) (hro : F.round = none) (l n₀ N : Nat) (J Jx : List (Int × Int) → World → Prop)
    (hY : ∀ m pre x W, J pre W → pre.length < N → YieldAt F m Try.prog l #[.agg #[.int .u64 x.1, .int .i64 x.2]] W fun e W' =>
      (e = .returned (.bool true) ∧ J (pre ++ [x]) W' ∧ Below n₀ W W') ∨ (e = .returned (.bool false) ∧ Jx (pre ++ [x]) W')) (t : T) :
    ∀ (n : Nat) (p : Option Addr) (pre : List (Int × Int)) (W : World), TreeB n₀ W p t → J pre W → pre.length + (toL t).length ≤ N →
      CallsIn F n Try.prog 44 #[.pointer p, .func (.yield l) #[] #[]] W fun e W' =>
        (e = .returned (.bool true) ∧ J (pre ++ toL t) W' ∧ Below n₀ W W') ∨ (e = .returned (.bool false) ∧ ∃ q, q <+: toL t ∧ Jx (pre ++ q) W') := by
  induction t with
  | leaf =>
    intro n p pre W ht hJ _
    obtain rfl : p = none := ht
    refine callsIn_of_wp Try.func44 rfl h6 ?_ hro
    simp only [Try.ntmps44, List.size_toArray, List.length_cons, List.length_nil, Nat.reduceAdd, Nat.reduceSub, Array.replicate_succ, Array.replicate_zero, List.push_toArray, List.append_toArray, List.nil_append, List.cons_append]
    gi_wp2_with (first | (refine wpListIn_pass (by rfl) ?_ ?_; (intro f hf; first | (cases hf; exact h6) | (cases hf))))
    go_ret
    exact .inl ⟨rfl, by simpa [toL] using hJ, Below.refl _ _⟩
  | node tl k v tr ihl ihr =>
    intro n p pre W ht hJ hN
    obtain ⟨b, pl, pr, rfl, hb, c0, c1, c2, c3, hl, hr⟩ := ht
    have hdd : ∀ k : Nat, (F.depth.isSome = true → 1 ≤ k) := fun k h => by rw [hd] at h; cases h
    simp only [toL, List.length_append, List.length_cons] at hN
    have hy2 : ∀ W1, J (pre ++ toL tl) W1 → Below n₀ W W1 → YieldAt F (n - 1) Try.prog l #[.agg #[.int .u64 k, .int .i64 v]] W1 fun e W2 =>
        (e = .returned (.bool true) ∧ J (pre ++ toL tl ++ [(k, v)]) W2 ∧ Below n₀ W W2 ∧ W2.cell? ⟨b, 3, none⟩ = some (.pointer pr) ∧ TreeB n₀ W2 pr tr) ∨ (e = .returned (.bool false) ∧ Jx (pre ++ toL tl ++ [(k, v)]) W2) := fun W1 hJ1 hb1 =>
      YieldAt.mono (hY (n - 1) _ (k, v) W1 hJ1 (by simp; omega)) fun e W2 h => h.elim
        (fun ⟨he, hj, hb2⟩ => .inl ⟨he, hj, hb1.trans hb2, ((hb1.trans hb2).cell (p := ⟨b, 3, none⟩) hb).trans c3, hr.below (hb1.trans hb2)⟩) .inr
    have ih1 := (ihl (n - 1) pl pre W hl hJ (by omega)).mono (R' := fun e W1 =>
        (e = .returned (.bool true) ∧ W1.cell? ⟨b, 0, none⟩ = some (.int .u64 k) ∧ W1.cell? ⟨b, 1, none⟩ = some (.int .i64 v) ∧ YieldAt F (n - 1) Try.prog l #[.agg #[.int .u64 k, .int .i64 v]] W1 fun e W2 =>
          (e = .returned (.bool true) ∧ J (pre ++ toL tl ++ [(k, v)]) W2 ∧ Below n₀ W W2 ∧ W2.cell? ⟨b, 3, none⟩ = some (.pointer pr) ∧ TreeB n₀ W2 pr tr) ∨ (e = .returned (.bool false) ∧ Jx (pre ++ toL tl ++ [(k, v)]) W2)) ∨
        (e = .returned (.bool false) ∧ ∃ q, q <+: toL tl ∧ Jx (pre ++ q) W1))
      (fun e W1 h => h.elim (fun ⟨he, hj, hb1⟩ => .inl ⟨he, (hb1.cell (p := ⟨b, 0, none⟩) hb).trans c0, (hb1.cell (p := ⟨b, 1, none⟩) hb).trans c1, hy2 W1 hj hb1⟩) .inr)
    clear hy2 ihl
    refine callsIn_of_wp Try.func44 rfl h6 ?_ hro
    simp only [Try.ntmps44, List.size_toArray, List.length_cons, List.length_nil, Nat.reduceAdd, Nat.reduceSub, Array.replicate_succ, Array.replicate_zero, List.push_toArray, List.append_toArray, List.nil_append, List.cons_append]
    gi_wp2_with (first
      | ((try refine ⟨hdd _, ?_⟩); gi_at_call 44; refine ih1.mono ?_; clear ih1; rintro e W1 (⟨rfl, c0', c1', fn, tmps, assign, body, hy, hR⟩ | ⟨rfl, q, hq, hx1⟩))
      | ((try refine ⟨hdd _, ?_⟩); refine hR.mono ?_; clear hR; rintro e W2 (⟨rfl, hJ2, hb2, c2', hr2⟩ | ⟨rfl, hx2⟩))
      | ((try refine ⟨hdd _, ?_⟩); gi_at_call 44; refine (ihr (n - 1) pr _ _ hr2 hJ2 (by simp; omega)).mono ?_; rintro e W3 (⟨rfl, hJ3, hb3⟩ | ⟨rfl, q, hq, hx3⟩)))
    · go_ret
      exact .inl ⟨rfl, by simpa [toL, List.append_assoc] using hJ3, hb2.trans hb3⟩
    · go_ret
      obtain ⟨r, hr'⟩ := hq
      exact .inr ⟨rfl, toL tl ++ (k, v) :: q, ⟨r, by simp [toL, ← hr']⟩, by simpa [List.append_assoc] using hx3⟩
    · go_ret
      exact .inr ⟨rfl, toL tl ++ [(k, v)], ⟨toL tr, by simp [toL]⟩, by simpa [List.append_assoc] using hx2⟩
    · refine ⟨fun _ h => (by cases h), ?_⟩
      gi_wp2
      go_ret
      exact .inr ⟨rfl, q, hq.trans (by simp [toL]), hx1⟩
set_option maxHeartbeats 1000000 in
theorem all1_in (F : Fence) (hd : F.depth = none) (n : Nat) (h5 : F.fn 43) (h6 : F.fn 44) (hro : F.round = none) (l Bt n₀ : Nat) (p0 : Option Addr) (t : T) (J Jx : List (Int × Int) → World → Prop)
    (hY : ∀ pre x W, J pre W → pre.length < (toL t).length → YieldAt F (n - 1) Try.prog l #[.agg #[.int .u64 x.1, .int .i64 x.2]] W fun e W' =>
      (e = .returned (.bool true) ∧ J (pre ++ [x]) W' ∧ Below n₀ W W') ∨ (e = .returned (.bool false) ∧ Jx (pre ++ [x]) W'))
    (W : World) (hBt : W.cell? ⟨Bt, 0, none⟩ = some (.pointer p0)) (hT : TreeB n₀ W p0 t) (h0 : J [] W) :
    CallsIn F n Try.prog 43 #[.func (.yield l) #[] #[], .pointer (some ⟨Bt, 0, none⟩)] W fun e W' => (∃ v, e = .returned v) ∧
      ((∃ ys, ys = toL t ∧ J ys W') ∨ (∃ pre, pre <+: toL t ∧ Jx pre W')) := by
  have hdd : ∀ k : Nat, (F.depth.isSome = true → 1 ≤ k) := fun k h => by rw [hd] at h; cases h
  have hp := each_in F hd h6 hro l n₀ (toL t).length J Jx (fun m pre x W hj hl => YieldAt.anyDepth hd m (hY pre x W hj hl)) t (n - 1) p0 [] W hT h0 (by simp)
  refine callsIn_of_wp Try.func43 rfl h5 ?_ hro
  simp only [Try.ntmps43, List.size_toArray, List.length_cons, List.length_nil, Nat.reduceAdd, Nat.reduceSub, Array.replicate_succ, Array.replicate_zero, List.push_toArray, List.append_toArray, List.nil_append, List.cons_append]
  gi_wp2_with ((try refine ⟨hdd _, ?_⟩); gi_at_call 44; refine hp.mono ?_; clear hp; rintro e W1 (⟨rfl, hJ1, _⟩ | ⟨rfl, q, hq, hx⟩))
  · go_end0
    exact ⟨⟨_, rfl⟩, .inl ⟨_, rfl, by simpa using hJ1⟩⟩
  · go_end0
    exact ⟨⟨_, rfl⟩, .inr ⟨q, hq, by simpa using hx⟩⟩
set_option maxHeartbeats 1000000 in
theorem all_in (F : Fence) (n : Nat) (h4 : F.fn 37) (hro : F.round = none) (p0 : Option Addr) (w : World) :
    CallsIn F n Try.prog 37 #[.pointer p0] w fun e w' => e = .returned (.func (.func 43) #[] #[.pointer (some ⟨w.heap.size, 0, none⟩)]) ∧ w' = w.alloc (.cells #[.pointer p0] 61) := by
  refine callsIn_of_wp Try.func37 rfl h4 ?_ hro
  simp only [Try.ntmps37, List.size_toArray, List.length_cons, List.length_nil, Nat.reduceAdd, Nat.reduceSub, Array.replicate_succ, Array.replicate_zero, List.push_toArray, List.append_toArray, List.nil_append, List.cons_append]
  gi_wp2
  go_ret
  exact ⟨rfl, rfl⟩
theorem all_stops (F : Fence) (hd : F.depth = none) (n : Nat) (h5 : F.fn 43) (h6 : F.fn 44) (hro : F.round = none) (Bt n₀ : Nat) (p0 : Option Addr) (t : T) (w : World) (hBt : Bt < w.heap.size) (hn₀ : n₀ ≤ w.heap.size)
    (hc : w.cell? ⟨Bt, 0, none⟩ = some (.pointer p0)) (hT : TreeB n₀ w p0 t) :
    SeqStopsK F n Try.prog 43 #[.pointer (some ⟨Bt, 0, none⟩)] (fun x : Int × Int => #[Value.agg #[.int .u64 x.1, .int .i64 x.2]]) (Below n₀) (fun ys => ys = toL t) (fun pre => pre <+: toL t) (toL t).length w := fun l J Jx W hW _ _ hY h0 =>
  all1_in F hd n h5 h6 hro l Bt n₀ p0 t J Jx hY W ((hW.cell (p := ⟨Bt, 0, none⟩) hBt).trans hc) (hT.below (hW.mono hn₀)) h0
end Go.Proofs.Ytbiccahkniadfaa.H
