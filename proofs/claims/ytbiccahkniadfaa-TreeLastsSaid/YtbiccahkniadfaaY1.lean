/- Reg Trees in the heap; New, top, high, size, Len, Height. even: walked. with: walked. least: walked. without: walked. New, top, Len, Height, Get, Put, Drop: walked. Put, Drop: walked. below, At: walked. A tree's pairs, one after the other: each, all: walked. Floor, Ceil: walked. join: walked. cut, Split: walked. alive (trees): walked. Plain laws of trees: balance, order, sizes. Plain laws of join and cut. Plain laws: what the acts do to the pairs. The document's find on sorted pairs. Pairs: walked. The document's Drop and Get on sorted pairs. The document's Drop, Put and Get on sorted pairs. The document's Put and Get on sorted pairs. -/
import Derived.Deep.RegionHeld3
import Derived.Test.YtbiccahkniadfaaPx0
import Derived.Deep.DeepCutAuto
import Derived.BigQuiet
import Derived.Deep.LoopGhost
import Derived.RangeFuncNested
import Derived.RangeFuncBound
import Derived.RangeFuncCalls
import Derived.RangeFuncLeaves
import Derived.RangeFuncKeeps
import Derived.Shelf.Abstract
import Derived.WalkKit
import Derived.OwnWalkIn
import Derived.TacticsInMore
import Derived.Test.YtbiccahkniadfaaPx1
import Derived.RangeFuncBox
import Derived.Maps.AppendAt
/-! ### Reg -/
namespace Go.Proofs.Ytbiccahkniadfaa.H
section
variable {P : Program} {ops : Array Oper} {Q : Exit → Act → World → Prop} {md : Region.Mode} {S : World → Prop}
/-- An operation that yields its value in every world that meets S is taken first; where its value goes is written out. -/
theorem held_take (i : Nat) (d : Option Tmp) {oi : Oper} {v : Value} {fuel : Nat} {listed : Array Bool} {a : Act} {w : World} (hi : ops[i]? = some oi) (hd : oi.dst = d)
    (hs : Region.noSelect ops = true) (hf : Region.free md ops listed i = true) (hr : (Region.ready md ops listed).contains i = true)
    (hQ : ∀ c a w, Q (.panic c) (a.put d v) w → Q (.panic c) a w) (hw : Region.wanted oi (yielded ops a.tmps) = true) (hy : ∀ w, S w → (execOp a.eval oi).run P w = .ok (.value v) w) (hS : S w)
    (h : wpAnyH P md ops Q S fuel (listed.setIfInBounds i true) (a.put d v) w) : wpAnyH P md ops Q S (fuel + 1) listed a w := by
  subst hd
  exact wpAnyH_take hi hs hf hr hQ (.inl ⟨hw, hy⟩) hS h
/-- An operation whose guard fails is passed over. -/
theorem held_skip (i : Nat) (d : Option Tmp) {oi : Oper} {fuel : Nat} {listed : Array Bool} {a : Act} {w : World} (hi : ops[i]? = some oi) (hd : oi.dst = d)
    (hs : Region.noSelect ops = true) (hf : Region.free md ops listed i = true) (hr : (Region.ready md ops listed).contains i = true)
    (hQ : ∀ c a w, Q (.panic c) (a.put d undef) w → Q (.panic c) a w) (hw : Region.wanted oi (yielded ops a.tmps) = false) (hS : S w)
    (h : wpAnyH P md ops Q S fuel (listed.setIfInBounds i true) (a.put d undef) w) : wpAnyH P md ops Q S (fuel + 1) listed a w := by
  subst hd
  exact wpAnyH_take hi hs hf hr hQ (.inr ⟨hw, rfl⟩) hS h
end
end Go.Proofs.Ytbiccahkniadfaa.H
/-! ### Tree1 -/
namespace Go.Proofs.Ytbiccahkniadfaa.H
open Go.RowKit Go.Proofs.Ytbiccahkniadfaa.P Go.Proofs.YtbiccahkniadfaaW.PrintWords Go.Proofs.YtbiccahkniadfaaW.PrintLast Go.Proofs.YtbiccahkniadfaaW.PrintMore
attribute [local go_sem] max2_int min2_int max_two min_two
set_option linter.unusedVariables false
set_option linter.unusedSimpArgs false
/-- A tree. -/
inductive T where
  | leaf : T
  | node : T → Int → Int → T → T
def ht : T → Nat
  | .leaf => 0
  | .node l _ _ r => 1 + max (ht l) (ht r)
def sz : T → Nat
  | .leaf => 0
  | .node l _ _ r => 1 + sz l + sz r
theorem ht_le : ∀ t : T, ht t ≤ sz t
  | .leaf => Nat.le_refl _
  | .node l _ _ r => by
    have := ht_le l
    have := ht_le r
    simp only [ht, sz]
    omega
/-- A tree's root, as a pointer: what lies in the heap. -/
def TreeAt (W : World) : Option Addr → T → Prop
  | p, .leaf => p = none
  | p, .node l k v r => ∃ g pl pr, p = some ⟨g, 0, none⟩ ∧ W.heap[g]? = some (.cells #[.int .u64 k, .int .i64 v, .pointer pl, .pointer pr, .int .i64 (ht (.node l k v r) : Nat), .int .i64 (sz (.node l k v r) : Nat)] 68 (0, 0)) ∧ TreeAt W pl l ∧ TreeAt W pr r
theorem TreeAt.below {W W' : World} (hb : Below W.heap.size W W') : ∀ {t : T} {p : Option Addr}, TreeAt W p t → TreeAt W' p t
  | .leaf, _, h => h
  | .node l k v r, _, ⟨g, pl, pr, h1, h2, h3, h4⟩ => ⟨g, pl, pr, h1, blk_below h2 hb, TreeAt.below hb h3, TreeAt.below hb h4⟩
theorem below_drewN {B : Nat} {w w1 : World} (h : Below B w w1) (n : Nat) : Below B w (w1.drewN n) := ⟨h.os, h.tape, h.output, h.size, h.block⟩
theorem TreeAt.drewN {W : World} {t : T} {p : Option Addr} (h : TreeAt W p t) (n : Nat) : TreeAt (W.drewN n) p t := h.below (below_drewN (Below.refl _ _) n)
theorem high_any (p : Option Addr) (t : T) (w : World) (h : TreeAt w p t) :
    Calls Try.prog 31 #[.pointer p] w fun e w' => e = .returned (.int .i64 (ht t : Nat)) ∧ w' = w := by
  cases t with
  | leaf =>
    obtain rfl : p = none := h
    go_enter Try.func31, Try.ntmps31
    go_wp2_with fail
    go_ret
    exact ⟨rfl, rfl⟩
  | node l k v r =>
    obtain ⟨g, pl, pr, rfl, hg, _, _⟩ := h
    have c4 := blk_cell hg 4
    generalize hH : ((ht (.node l k v r) : Nat) : Int) = H at *
    generalize ((sz (.node l k v r) : Nat) : Int) = S at *
    clear hH hg
    go_enter Try.func31, Try.ntmps31
    go_wp2_with fail
    go_ret
    exact ⟨rfl, rfl⟩
theorem size_any (p : Option Addr) (t : T) (w : World) (h : TreeAt w p t) :
    Calls Try.prog 30 #[.pointer p] w fun e w' => e = .returned (.int .i64 (sz t : Nat)) ∧ w' = w := by
  cases t with
  | leaf =>
    obtain rfl : p = none := h
    go_enter Try.func30, Try.ntmps30
    go_wp2_with fail
    go_ret
    exact ⟨rfl, rfl⟩
  | node l k v r =>
    obtain ⟨g, pl, pr, rfl, hg, _, _⟩ := h
    have c5 := blk_cell hg 5
    generalize ((ht (.node l k v r) : Nat) : Int) = H at *
    generalize hS : ((sz (.node l k v r) : Nat) : Int) = S at *
    clear hS hg
    go_enter Try.func30, Try.ntmps30
    go_wp2_with fail
    go_ret
    exact ⟨rfl, rfl⟩
set_option maxHeartbeats 1600000 in
set_option maxRecDepth 20000 in
theorem made_any (pl : Option Addr) (l : T) (k v : Int) (pr : Option Addr) (r : T) (w : World) (hl : TreeAt w pl l) (hr : TreeAt w pr r) (hs : sz l + sz r ≤ 100000) :
    Calls Try.prog 38 #[.pointer pl, .agg #[.int .u64 k, .int .i64 v], .pointer pr] w fun e w' => (∃ p, e = .returned (.pointer p) ∧ TreeAt w' p (.node l k v r)) ∧ Below w.heap.size w w' := by
  have HB0 := Aside0.mk ((Below.refl w.heap.size w).alloc (Nat.le_refl _) (.cells #[.int .u64 k, .int .i64 v] 45))
  have hbx := blk_new w (.cells #[.int .u64 k, .int .i64 v] 45)
  have HL := Aside0.mk (hl.below HB0.out)
  have HR := Aside0.mk (hr.below HB0.out)
  have hl1 := ht_le l
  have hr1 := ht_le r
  clear hl hr
  go_enter Try.func38, Try.ntmps38
  go_wp2_with fail
  generalize (w.alloc (.cells #[.int .u64 k, .int .i64 v] 45)) = w0 at *
  have hN : w0.cell? ⟨w.heap.size, 0, none⟩ = some (.int .u64 k) ∧ w0.cell? ⟨w.heap.size, 1, none⟩ = some (.int .i64 v) := ⟨blk_cell hbx 0, blk_cell hbx 1⟩
  clear hbx
  have HLD := Aside0.mk (HL.out.below (below_drew (Below.refl _ w0)))
  have HRD := Aside0.mk (HR.out.below (below_drew (Below.refl _ w0)))
  have HBD := Aside0.mk (HB0.out.trans ((below_drew (Below.refl _ w0)).mono HB0.out.size))
  have hh1 := fun W (hW : W = w0.drew) => high_any pl l W (by rw [hW]; exact HLD.out)
  have hh2 := fun W (hW : W = w0.drew) => high_any pr r W (by rw [hW]; exact HRD.out)
  have hs1 := fun W (hW : W = w0.drew) => size_any pl l W (by rw [hW]; exact HLD.out)
  have hs2 := fun W (hW : W = w0.drew) => size_any pr r W (by rw [hW]; exact HRD.out)
  have HEH := Aside0.mk (show ((ht (.node l k v r) : Nat) : Int) = 1 + max ((ht l : Nat) : Int) ((ht r : Nat) : Int) from by rw [ht]; omega)
  have HES := Aside0.mk (show ((sz (.node l k v r) : Nat) : Int) = 1 + ((sz l : Nat) : Int) + ((sz r : Nat) : Int) from by rw [sz]; omega)
  have b1 : 0 ≤ ((ht l : Nat) : Int) ∧ ((ht l : Nat) : Int) ≤ 100000 ∧ 0 ≤ ((ht r : Nat) : Int) ∧ ((ht r : Nat) : Int) ≤ 100000 ∧ 0 ≤ ((sz l : Nat) : Int) ∧ 0 ≤ ((sz r : Nat) : Int) ∧ ((sz l : Nat) : Int) + ((sz r : Nat) : Int) ≤ 100000 := by omega
  generalize ((ht l : Nat) : Int) = H1 at *
  generalize ((ht r : Nat) : Int) = H2 at *
  generalize ((sz l : Nat) : Int) = S1 at *
  generalize ((sz r : Nat) : Int) = S2 at *
  obtain ⟨b1, b2, b3, b4, b5, b6, b7⟩ := b1
  have HH1 := Aside0.mk hh1
  have HH2 := Aside0.mk hh2
  have HS1 := Aside0.mk hs1
  have HS2 := Aside0.mk hs2
  have w1 : IntKind.i64.wrap (1 + S1) = 1 + S1 := by rw [IntKind.wrap_i64]; omega
  have w2 : IntKind.i64.wrap (1 + S1 + S2) = 1 + S1 + S2 := by rw [IntKind.wrap_i64]; omega
  clear hh1 hh2 hs1 hs2 hl1 hr1 hs
  obtain ⟨M, hM, hM2⟩ : ∃ M, (if H1 < H2 then H2 else H1) = M ∧ M = max H1 H2 := ⟨_, rfl, by split <;> omega⟩
  have HM := Aside0.mk hM2
  have w3 : IntKind.i64.wrap (1 + M) = 1 + M := by rw [IntKind.wrap_i64]; omega
  clear hM2 b1 b2 b3 b4 b5 b6 b7
  refine wp_region_held_drew (S := (fun w' => w'.cell? ⟨w.heap.size, 0, none⟩ = some (.int .u64 k) ∧ w'.cell? ⟨w.heap.size, 1, none⟩ = some (.int .i64 v))) (by kernel_rfl) ?hS0 (fun hHeld => ?_)
  case hS0 => first | assumption | go_keep
  refine held_take 0 (some 7) (v := ?v0) rfl rfl (by kernel_rfl) (by kernel_rfl) (by kernel_rfl) (fun _ _ _ h => h) (by rfl) ?y0 (by assumption) ?_
  case y0 => ((intro w hSw); (try dsimp only at hSw); go_simp <;> (with_reducible rfl))
  try simp only [Act.put, List.setIfInBounds_toArray, List.set_cons_zero, List.set_cons_succ]
  refine held_take 1 (some 8) (v := ?v1) rfl rfl (by kernel_rfl) (by kernel_rfl) (by kernel_rfl) (fun _ _ _ h => h) (by rfl) ?y1 (by assumption) ?_
  case y1 => ((intro w hSw); (try dsimp only at hSw); go_simp <;> (with_reducible rfl))
  try simp only [Act.put, List.setIfInBounds_toArray, List.set_cons_zero, List.set_cons_succ]
  refine held_take 2 (some 9) (v := ?v2) rfl rfl (by kernel_rfl) (by kernel_rfl) (by kernel_rfl) (fun _ _ _ h => h) (by rfl) ?y2 (by assumption) ?_
  case y2 => ((intro w hSw); (try dsimp only at hSw); go_simp <;> (with_reducible rfl))
  try simp only [Act.put, List.setIfInBounds_toArray, List.set_cons_zero, List.set_cons_succ]
  refine held_take 3 (some 10) (v := ?v3) rfl rfl (by kernel_rfl) (by kernel_rfl) (by kernel_rfl) (fun _ _ _ h => h) (by rfl) ?y3 (by assumption) ?_
  case y3 => ((intro w hSw); (try dsimp only at hSw); go_simp <;> (with_reducible rfl))
  try simp only [Act.put, List.setIfInBounds_toArray, List.set_cons_zero, List.set_cons_succ]
  refine held_take 5 (some 12) (v := ?v5) rfl rfl (by kernel_rfl) (by kernel_rfl) (by kernel_rfl) (fun _ _ _ h => h) (by rfl) ?y5 (by assumption) ?_
  case y5 => ((intro w hSw); (try dsimp only at hSw); go_simp <;> (with_reducible rfl))
  try simp only [Act.put, List.setIfInBounds_toArray, List.set_cons_zero, List.set_cons_succ]
  refine held_take 9 (some 16) (v := ?v9) rfl rfl (by kernel_rfl) (by kernel_rfl) (by kernel_rfl) (fun _ _ _ h => h) (by rfl) ?y9 (by assumption) ?_
  case y9 => ((intro w hSw); (try dsimp only at hSw); go_simp <;> (with_reducible rfl))
  try simp only [Act.put, List.setIfInBounds_toArray, List.set_cons_zero, List.set_cons_succ]
  refine held_take 12 (some 19) (v := ?v12) rfl rfl (by kernel_rfl) (by kernel_rfl) (by kernel_rfl) (fun _ _ _ h => h) (by rfl) ?y12 (by assumption) ?_
  case y12 => ((intro w hSw); (try dsimp only at hSw); go_simp <;> (with_reducible rfl))
  try simp only [Act.put, List.setIfInBounds_toArray, List.set_cons_zero, List.set_cons_succ]
  refine wpAnyH_ready (rs := [4]) (by kernel_rfl) (by simp) ?_
  refine AllReadyH.cons rfl (fun K hK => ?_) AllReadyH.nil
  go_simp
  refine (HH1.out _ rfl).mono ?_
  rintro e w1 ⟨rfl, rfl⟩
  refine hK.out _ _ ?hS5 (fun hHeld => ?_)
  case hS5 => first | assumption | go_keep
  clear hK K
  try simp only [Act.put, List.setIfInBounds_toArray, List.set_cons_zero, List.set_cons_succ]
  refine wpAnyH_ready (rs := [6]) (by kernel_rfl) (by simp) ?_
  refine AllReadyH.cons rfl (fun K hK => ?_) AllReadyH.nil
  go_simp
  refine (HH2.out _ rfl).mono ?_
  rintro e w1 ⟨rfl, rfl⟩
  refine hK.out _ _ ?hS7 (fun hHeld => ?_)
  case hS7 => first | assumption | go_keep
  clear hK K
  try simp only [Act.put, List.setIfInBounds_toArray, List.set_cons_zero, List.set_cons_succ]
  refine held_take 7 (some 14) (v := ?v7) rfl rfl (by kernel_rfl) (by kernel_rfl) (by kernel_rfl) (fun _ _ _ h => h) (by rfl) ?y7 (by assumption) ?_
  case y7 => ((intro w hSw); (try dsimp only at hSw); go_simp <;> (with_reducible rfl))
  try simp only [Act.put, List.setIfInBounds_toArray, List.set_cons_zero, List.set_cons_succ]
  refine held_take 8 (some 15) (v := ?v8) rfl rfl (by kernel_rfl) (by kernel_rfl) (by kernel_rfl) (fun _ _ _ h => h) (by rfl) ?y8 (by assumption) ?_
  case y8 => ((intro w hSw); (try dsimp only at hSw); go_simp <;> (with_reducible rfl))
  try simp only [Act.put, List.setIfInBounds_toArray, List.set_cons_zero, List.set_cons_succ]
  refine wpAnyH_ready (rs := [10]) (by kernel_rfl) (by simp) ?_
  refine AllReadyH.cons rfl (fun K hK => ?_) AllReadyH.nil
  go_simp
  refine (HS1.out _ rfl).mono ?_
  rintro e w1 ⟨rfl, rfl⟩
  refine hK.out _ _ ?hS11 (fun hHeld => ?_)
  case hS11 => first | assumption | go_keep
  clear hK K
  try simp only [Act.put, List.setIfInBounds_toArray, List.set_cons_zero, List.set_cons_succ]
  refine held_take 11 (some 18) (v := ?v11) rfl rfl (by kernel_rfl) (by kernel_rfl) (by kernel_rfl) (fun _ _ _ h => h) (by rfl) ?y11 (by assumption) ?_
  case y11 => ((intro w hSw); (try dsimp only at hSw); go_simp <;> (with_reducible rfl))
  try simp only [Act.put, List.setIfInBounds_toArray, List.set_cons_zero, List.set_cons_succ]
  refine wpAnyH_ready (rs := [13]) (by kernel_rfl) (by simp) ?_
  refine AllReadyH.cons rfl (fun K hK => ?_) AllReadyH.nil
  go_simp
  refine (HS2.out _ rfl).mono ?_
  rintro e w1 ⟨rfl, rfl⟩
  refine hK.out _ _ ?hS14 (fun hHeld => ?_)
  case hS14 => first | assumption | go_keep
  clear hK K
  try simp only [Act.put, List.setIfInBounds_toArray, List.set_cons_zero, List.set_cons_succ]
  refine held_take 14 (some 21) (v := ?v14) rfl rfl (by kernel_rfl) (by kernel_rfl) (by kernel_rfl) (fun _ _ _ h => h) (by rfl) ?y14 (by assumption) ?_
  case y14 => ((intro w hSw); (try dsimp only at hSw); go_simp <;> (with_reducible rfl))
  try simp only [Act.put, List.setIfInBounds_toArray, List.set_cons_zero, List.set_cons_succ]
  refine held_take 15 (some 22) (v := ?v15) rfl rfl (by kernel_rfl) (by kernel_rfl) (by kernel_rfl) (fun _ _ _ h => h) (by rfl) ?y15 (by assumption) ?_
  case y15 => ((intro w hSw); (try dsimp only at hSw); go_simp <;> (with_reducible rfl))
  try simp only [Act.put, List.setIfInBounds_toArray, List.set_cons_zero, List.set_cons_succ]
  refine wpAnyH_ready (rs := [16]) (by kernel_rfl) (by simp) ?_
  refine AllReadyH.cons rfl (fun K hK => ?_) AllReadyH.nil
  go_simp
  refine hK.out _ _ ?hS17 (fun hHeld => ?_)
  case hS17 => first | assumption | go_keep
  clear hK K
  try simp only [Act.put, List.setIfInBounds_toArray, List.set_cons_zero, List.set_cons_succ]
  refine held_take 17 (some 6) (v := ?v17) rfl rfl (by kernel_rfl) (by kernel_rfl) (by kernel_rfl) (fun _ _ _ h => h) (by rfl) ?y17 (by assumption) ?_
  case y17 => ((intro w hSw); (try dsimp only at hSw); go_simp <;> (with_reducible rfl))
  try simp only [Act.put, List.setIfInBounds_toArray, List.set_cons_zero, List.set_cons_succ]
  refine wpAnyH_done (by kernel_rfl) ?_ _
  have HLN := Aside0.mk (HLD.out.below ((Below.refl w0.drew.heap.size w0.drew).alloc (Nat.le_refl _) (.cells #[.int .u64 k, .int .i64 v, .pointer pl, .pointer pr, .int .i64 (1 + M), .int .i64 (1 + S1 + S2)] 68)))
  have HRN := Aside0.mk (HRD.out.below ((Below.refl w0.drew.heap.size w0.drew).alloc (Nat.le_refl _) (.cells #[.int .u64 k, .int .i64 v, .pointer pl, .pointer pr, .int .i64 (1 + M), .int .i64 (1 + S1 + S2)] 68)))
  have HBN := Aside0.mk (HBD.out.alloc HBD.out.size (.cells #[.int .u64 k, .int .i64 v, .pointer pl, .pointer pr, .int .i64 (1 + M), .int .i64 (1 + S1 + S2)] 68))
  have HNW := Aside0.mk (blk_new w0.drew (.cells #[.int .u64 k, .int .i64 v, .pointer pl, .pointer pr, .int .i64 (1 + M), .int .i64 (1 + S1 + S2)] 68))
  go_wp2
  go_ret
  exact ⟨⟨_, rfl, w0.heap.size, pl, pr, rfl, by rw [HEH.out, HES.out, ← HM.out]; exact HNW.out, HLN.out, HRN.out⟩, HBN.out⟩
end Go.Proofs.Ytbiccahkniadfaa.H
/-! ### Tree2 -/
namespace Go.Proofs.Ytbiccahkniadfaa.H
open Go.RowKit Go.Proofs.Ytbiccahkniadfaa.P Go.Proofs.YtbiccahkniadfaaW.PrintWords Go.Proofs.YtbiccahkniadfaaW.PrintLast Go.Proofs.YtbiccahkniadfaaW.PrintMore
set_option linter.unusedVariables false
set_option linter.unusedSimpArgs false
def evenT (l : T) (k v : Int) (r : T) : T :=
  if ht l > ht r + 1 then
    match l with
    | .leaf => .node l k v r
    | .node ll lk lv lr =>
      if ht ll ≥ ht lr then .node ll lk lv (.node lr k v r)
      else match lr with
        | .leaf => .node l k v r
        | .node m1 mk mv m2 => .node (.node ll lk lv m1) mk mv (.node m2 k v r)
  else if ht r > ht l + 1 then
    match r with
    | .leaf => .node l k v r
    | .node rl rk rv rr =>
      if ht rr ≥ ht rl then .node (.node l k v rl) rk rv rr
      else match rl with
        | .leaf => .node l k v r
        | .node m1 mk mv m2 => .node (.node l k v m1) mk mv (.node m2 rk rv rr)
  else .node l k v r
theorem cells2_below {w w' : World} {a0 a1 : Addr} {v0 v1 : Value} (h : w.cell? a0 = some v0 ∧ w.cell? a1 = some v1) (hb : Below w.heap.size w w') : w'.cell? a0 = some v0 ∧ w'.cell? a1 = some v1 := ⟨pw_cell_below hb h.1, pw_cell_below hb h.2⟩
theorem cells4_below {w w' : World} {a0 a1 a2 a3 : Addr} {v0 v1 v2 v3 : Value} (h : w.cell? a0 = some v0 ∧ w.cell? a1 = some v1 ∧ w.cell? a2 = some v2 ∧ w.cell? a3 = some v3) (hb : Below w.heap.size w w') : w'.cell? a0 = some v0 ∧ w'.cell? a1 = some v1 ∧ w'.cell? a2 = some v2 ∧ w'.cell? a3 = some v3 := ⟨pw_cell_below hb h.1, pw_cell_below hb h.2.1, pw_cell_below hb h.2.2.1, pw_cell_below hb h.2.2.2⟩
theorem cells6_below {w w' : World} {a0 a1 a2 a3 a4 a5 : Addr} {v0 v1 v2 v3 v4 v5 : Value} (h : w.cell? a0 = some v0 ∧ w.cell? a1 = some v1 ∧ w.cell? a2 = some v2 ∧ w.cell? a3 = some v3 ∧ w.cell? a4 = some v4 ∧ w.cell? a5 = some v5) (hb : Below w.heap.size w w') : w'.cell? a0 = some v0 ∧ w'.cell? a1 = some v1 ∧ w'.cell? a2 = some v2 ∧ w'.cell? a3 = some v3 ∧ w'.cell? a4 = some v4 ∧ w'.cell? a5 = some v5 := ⟨pw_cell_below hb h.1, pw_cell_below hb h.2.1, pw_cell_below hb h.2.2.1, pw_cell_below hb h.2.2.2.1, pw_cell_below hb h.2.2.2.2.1, pw_cell_below hb h.2.2.2.2.2⟩
theorem cells10_below {w w' : World} {a0 a1 a2 a3 a4 a5 a6 a7 a8 a9 : Addr} {v0 v1 v2 v3 v4 v5 v6 v7 v8 v9 : Value} (h : w.cell? a0 = some v0 ∧ w.cell? a1 = some v1 ∧ w.cell? a2 = some v2 ∧ w.cell? a3 = some v3 ∧ w.cell? a4 = some v4 ∧ w.cell? a5 = some v5 ∧ w.cell? a6 = some v6 ∧ w.cell? a7 = some v7 ∧ w.cell? a8 = some v8 ∧ w.cell? a9 = some v9) (hb : Below w.heap.size w w') : w'.cell? a0 = some v0 ∧ w'.cell? a1 = some v1 ∧ w'.cell? a2 = some v2 ∧ w'.cell? a3 = some v3 ∧ w'.cell? a4 = some v4 ∧ w'.cell? a5 = some v5 ∧ w'.cell? a6 = some v6 ∧ w'.cell? a7 = some v7 ∧ w'.cell? a8 = some v8 ∧ w'.cell? a9 = some v9 := ⟨pw_cell_below hb h.1, pw_cell_below hb h.2.1, pw_cell_below hb h.2.2.1, pw_cell_below hb h.2.2.2.1, pw_cell_below hb h.2.2.2.2.1, pw_cell_below hb h.2.2.2.2.2.1, pw_cell_below hb h.2.2.2.2.2.2.1, pw_cell_below hb h.2.2.2.2.2.2.2.1, pw_cell_below hb h.2.2.2.2.2.2.2.2.1, pw_cell_below hb h.2.2.2.2.2.2.2.2.2⟩
/-- What is known of a tree that may be made of. -/
theorem node_cells {W : World} {g : Nat} {k v : Int} {pl pr : Option Addr} {H S : Int} (h : W.heap[g]? = some (.cells #[.int .u64 k, .int .i64 v, .pointer pl, .pointer pr, .int .i64 H, .int .i64 S] 68 (0, 0))) :
    W.cell? ⟨g, 0, none⟩ = some (.int .u64 k) ∧ W.cell? ⟨g, 1, none⟩ = some (.int .i64 v) ∧ W.cell? ⟨g, 2, none⟩ = some (.pointer pl) ∧ W.cell? ⟨g, 3, none⟩ = some (.pointer pr) :=
  ⟨blk_cell h 0, blk_cell h 1, blk_cell h 2, blk_cell h 3⟩
/-- What made comes to. -/
def Made (B : Nat) (w : World) (t : T) (e : Ending) (w' : World) : Prop := (∃ p, e = .returned (.pointer p) ∧ TreeAt w' p t) ∧ Below B w w'
set_option maxRecDepth 20000 in
set_option maxHeartbeats 4000000 in
theorem even_any (pl : Option Addr) (l : T) (k v : Int) (pr : Option Addr) (r : T) (w : World) (hl : TreeAt w pl l) (hr : TreeAt w pr r) (hs : sz l + sz r ≤ 50000) :
    Calls Try.prog 39 #[.pointer pl, .agg #[.int .u64 k, .int .i64 v], .pointer pr] w fun e w' => (∃ p, e = .returned (.pointer p) ∧ TreeAt w' p (evenT l k v r)) ∧ Below w.heap.size w w' := by
  have HB0 := Aside0.mk ((Below.refl w.heap.size w).alloc (Nat.le_refl _) (.cells #[.int .u64 k, .int .i64 v] 45))
  have HX0 := Aside0.mk (blk_new w (.cells #[.int .u64 k, .int .i64 v] 45))
  have HL := Aside0.mk (hl.below HB0.out)
  have HR := Aside0.mk (hr.below HB0.out)
  have hl1 := ht_le l
  have hr1 := ht_le r
  clear hl hr
  go_enter Try.func39, Try.ntmps39
  go_wp2_with fail
  generalize (w.alloc (.cells #[.int .u64 k, .int .i64 v] 45)) = w0 at *
  have WR := Aside0.mk (show ∀ t : T, ht t ≤ 50000 → IntKind.i64.wrap (((ht t : Nat) : Int) + 1) = ((ht t : Nat) : Int) + 1 from fun t h => by rw [IntKind.wrap_i64]; omega)
  have wr := WR.out r (by omega)
  have wl := WR.out l (by omega)
  refine (high_any pl l w0 HL.out).mono ?_
  rintro e w1 ⟨rfl, rfl⟩
  go_wp2_with fail
  refine (high_any pr r w1 HR.out).mono ?_
  rintro e w2 ⟨rfl, rfl⟩
  have hrot1 := fun (hc : ((ht r : Nat) : Int) + 1 < ((ht l : Nat) : Int)) => show ht l > ht r + 1 by omega
  by_cases hc1 : ((ht r : Nat) : Int) + 1 < ((ht l : Nat) : Int)
  · have HC1 := Aside0.mk (hrot1 hc1)
    clear hrot1
    go_wp2_with fail
    cases l with
    | leaf => simp [ht] at hc1; omega
    | node ll lk lv lr =>
      obtain ⟨gl, pll, plr, rfl, hgl, hll, hlr⟩ := HL.out
      have HLL := Aside0.mk hll
      have HLR := Aside0.mk hlr
      have HG := Aside0.mk hgl
      have n0 := (node_cells hgl).2.2.1
      have n1 := (node_cells hgl).2.2.2
      have hcA := fun n => high_any pll ll (w2.drewN n) (HLL.out.drewN n)
      have hcB := fun n => high_any plr lr (w2.drewN n) (HLR.out.drewN n)
      have hszl : sz ll + sz lr + 1 ≤ 50000 := by simp only [sz] at hs; omega
      have HSZ := Aside0.mk (show sz ll + sz lr + 1 + sz r ≤ 50000 by simp only [sz] at hs; omega)
      have HH := Aside0.mk (show ht (.node ll lk lv lr) = 1 + max (ht ll) (ht lr) from rfl)
      clear hll hlr hgl hl1 hs hc1
      generalize ((ht (.node ll lk lv lr) : Nat) : Int) = hh at *
      go_quiet (first | (go_at_call 31; (first | (with_reducible refine (hcA _).mono ?_) | (with_reducible refine (hcB _).mono ?_)); rintro e w' ⟨rfl, rfl⟩; exact ⟨rfl, _, rfl⟩))

      have HB3 := Aside0.mk (below_drewN HB0.out nq)
      have HX3 := Aside0.mk (show (w2.drewN nq).heap[w.heap.size]? = some (.cells #[.int .u64 k, .int .i64 v] 45 (0, 0)) from HX0.out)
      have HG3 := Aside0.mk (show (w2.drewN nq).heap[gl]? = _ from HG.out)
      have HO3 := Aside0.mk (HR.out.drewN nq)
      have Hll3 := Aside0.mk (HLL.out.drewN nq)
      have Hlr3 := Aside0.mk (HLR.out.drewN nq)
      clear n0 n1 hcA hcB HB0 HX0 HG HR HLL HLR
      generalize w2.drewN nq = w3 at *
      have hN : w3.cell? ⟨gl, 0, none⟩ = some (.int .u64 lk) ∧ w3.cell? ⟨gl, 1, none⟩ = some (.int .i64 lv) ∧ w3.cell? ⟨gl, 2, none⟩ = some (.pointer pll) ∧ w3.cell? ⟨gl, 3, none⟩ = some (.pointer plr) ∧ w3.cell? ⟨w.heap.size, 0, none⟩ = some (.int .u64 k) ∧ w3.cell? ⟨w.heap.size, 1, none⟩ = some (.int .i64 v) :=
        ⟨(node_cells HG3.out).1, (node_cells HG3.out).2.1, (node_cells HG3.out).2.2.1, (node_cells HG3.out).2.2.2, blk_cell HX3.out 0, blk_cell HX3.out 1⟩
      have HOD := Aside0.mk (HO3.out.below (below_drew (Below.refl _ w3)))
      have HllD := Aside0.mk (Hll3.out.below (below_drew (Below.refl _ w3)))
      have HlrD := Aside0.mk (Hlr3.out.below (below_drew (Below.refl _ w3)))
      have HBD := Aside0.mk (HB3.out.trans ((below_drew (Below.refl _ w3)).mono HB3.out.size))
      by_cases hc2 : ht lr ≤ ht ll
      · have HEV := Aside0.mk (show evenT (.node ll lk lv lr) k v r = .node ll lk lv (.node lr k v r) from by unfold evenT; rw [if_pos HC1.out]; simp [hc2])
        go_wp2_with fail
        refine wp_region_held_drew (S := (fun w' => w'.cell? ⟨gl, 0, none⟩ = some (.int .u64 lk) ∧ w'.cell? ⟨gl, 1, none⟩ = some (.int .i64 lv) ∧ w'.cell? ⟨gl, 2, none⟩ = some (.pointer pll) ∧ w'.cell? ⟨gl, 3, none⟩ = some (.pointer plr) ∧ w'.cell? ⟨w.heap.size, 0, none⟩ = some (.int .u64 k) ∧ w'.cell? ⟨w.heap.size, 1, none⟩ = some (.int .i64 v))) (by kernel_rfl) ?hSa0 (fun hHeld => ?_)
        case hSa0 => first | assumption | go_keep
        refine held_take 0 (some 27) (v := ?va0) rfl rfl (by kernel_rfl) (by kernel_rfl) (by kernel_rfl) (fun _ _ _ h => h) (by rfl) ?ya0 (by assumption) ?_
        case ya0 => ((intro w hSw); (try dsimp only at hSw); go_simp <;> (with_reducible rfl))
        try simp only [Act.put, List.setIfInBounds_toArray, List.set_cons_zero, List.set_cons_succ]
        refine held_take 1 (some 28) (v := ?va1) rfl rfl (by kernel_rfl) (by kernel_rfl) (by kernel_rfl) (fun _ _ _ h => h) (by rfl) ?ya1 (by assumption) ?_
        case ya1 => ((intro w hSw); (try dsimp only at hSw); go_simp <;> (with_reducible rfl))
        try simp only [Act.put, List.setIfInBounds_toArray, List.set_cons_zero, List.set_cons_succ]
        refine held_take 2 (some 29) (v := ?va2) rfl rfl (by kernel_rfl) (by kernel_rfl) (by kernel_rfl) (fun _ _ _ h => h) (by rfl) ?ya2 (by assumption) ?_
        case ya2 => ((intro w hSw); (try dsimp only at hSw); go_simp <;> (with_reducible rfl))
        try simp only [Act.put, List.setIfInBounds_toArray, List.set_cons_zero, List.set_cons_succ]
        refine held_take 3 (some 30) (v := ?va3) rfl rfl (by kernel_rfl) (by kernel_rfl) (by kernel_rfl) (fun _ _ _ h => h) (by rfl) ?ya3 (by assumption) ?_
        case ya3 => ((intro w hSw); (try dsimp only at hSw); go_simp <;> (with_reducible rfl))
        try simp only [Act.put, List.setIfInBounds_toArray, List.set_cons_zero, List.set_cons_succ]
        refine held_take 4 (some 31) (v := ?va4) rfl rfl (by kernel_rfl) (by kernel_rfl) (by kernel_rfl) (fun _ _ _ h => h) (by rfl) ?ya4 (by assumption) ?_
        case ya4 => ((intro w hSw); (try dsimp only at hSw); go_simp <;> (with_reducible rfl))
        try simp only [Act.put, List.setIfInBounds_toArray, List.set_cons_zero, List.set_cons_succ]
        refine held_take 5 (some 32) (v := ?va5) rfl rfl (by kernel_rfl) (by kernel_rfl) (by kernel_rfl) (fun _ _ _ h => h) (by rfl) ?ya5 (by assumption) ?_
        case ya5 => ((intro w hSw); (try dsimp only at hSw); go_simp <;> (with_reducible rfl))
        try simp only [Act.put, List.setIfInBounds_toArray, List.set_cons_zero, List.set_cons_succ]
        refine held_take 6 (some 33) (v := ?va6) rfl rfl (by kernel_rfl) (by kernel_rfl) (by kernel_rfl) (fun _ _ _ h => h) (by rfl) ?ya6 (by assumption) ?_
        case ya6 => ((intro w hSw); (try dsimp only at hSw); go_simp <;> (with_reducible rfl))
        try simp only [Act.put, List.setIfInBounds_toArray, List.set_cons_zero, List.set_cons_succ]
        refine held_take 7 (some 34) (v := ?va7) rfl rfl (by kernel_rfl) (by kernel_rfl) (by kernel_rfl) (fun _ _ _ h => h) (by rfl) ?ya7 (by assumption) ?_
        case ya7 => ((intro w hSw); (try dsimp only at hSw); go_simp <;> (with_reducible rfl))
        try simp only [Act.put, List.setIfInBounds_toArray, List.set_cons_zero, List.set_cons_succ]
        refine held_take 8 (some 35) (v := ?va8) rfl rfl (by kernel_rfl) (by kernel_rfl) (by kernel_rfl) (fun _ _ _ h => h) (by rfl) ?ya8 (by assumption) ?_
        case ya8 => ((intro w hSw); (try dsimp only at hSw); go_simp <;> (with_reducible rfl))
        try simp only [Act.put, List.setIfInBounds_toArray, List.set_cons_zero, List.set_cons_succ]
        refine held_take 9 (some 36) (v := ?va9) rfl rfl (by kernel_rfl) (by kernel_rfl) (by kernel_rfl) (fun _ _ _ h => h) (by rfl) ?ya9 (by assumption) ?_
        case ya9 => ((intro w hSw); (try dsimp only at hSw); go_simp <;> (with_reducible rfl))
        try simp only [Act.put, List.setIfInBounds_toArray, List.set_cons_zero, List.set_cons_succ]
        refine held_take 10 (some 37) (v := ?va10) rfl rfl (by kernel_rfl) (by kernel_rfl) (by kernel_rfl) (fun _ _ _ h => h) (by rfl) ?ya10 (by assumption) ?_
        case ya10 => ((intro w hSw); (try dsimp only at hSw); go_simp <;> (with_reducible rfl))
        try simp only [Act.put, List.setIfInBounds_toArray, List.set_cons_zero, List.set_cons_succ]
        refine held_take 11 (some 38) (v := ?va11) rfl rfl (by kernel_rfl) (by kernel_rfl) (by kernel_rfl) (fun _ _ _ h => h) (by rfl) ?ya11 (by assumption) ?_
        case ya11 => ((intro w hSw); (try dsimp only at hSw); go_simp <;> (with_reducible rfl))
        try simp only [Act.put, List.setIfInBounds_toArray, List.set_cons_zero, List.set_cons_succ]
        refine held_take 12 (some 39) (v := ?va12) rfl rfl (by kernel_rfl) (by kernel_rfl) (by kernel_rfl) (fun _ _ _ h => h) (by rfl) ?ya12 (by assumption) ?_
        case ya12 => ((intro w hSw); (try dsimp only at hSw); go_simp <;> (with_reducible rfl))
        try simp only [Act.put, List.setIfInBounds_toArray, List.set_cons_zero, List.set_cons_succ]
        refine held_take 13 (some 40) (v := ?va13) rfl rfl (by kernel_rfl) (by kernel_rfl) (by kernel_rfl) (fun _ _ _ h => h) (by rfl) ?ya13 (by assumption) ?_
        case ya13 => ((intro w hSw); (try dsimp only at hSw); go_simp <;> (with_reducible rfl))
        try simp only [Act.put, List.setIfInBounds_toArray, List.set_cons_zero, List.set_cons_succ]
        refine wpAnyH_ready (rs := [14]) (by kernel_rfl) (by simp) ?_
        refine AllReadyH.cons rfl (fun K hK => ?_) AllReadyH.nil
        go_simp
        refine (made_any plr lr k v pr r _ HlrD.out HOD.out (by have := HSZ.out; omega)).mono ?_
        rintro e w4 ⟨⟨p4, rfl, ht4⟩, hb4⟩
        have K4 := cells6_below (by assumption) hb4
        have HT4 := Aside0.mk ht4
        have HA4 := Aside0.mk (HllD.out.below hb4)
        have HB4 := Aside0.mk (HBD.out.trans (hb4.mono HBD.out.size))
        clear ht4 hb4
        refine hK.out _ _ ?hSa15 (fun hHeld => ?_)
        case hSa15 => first | assumption | go_keep
        clear hK K
        try simp only [Act.put, List.setIfInBounds_toArray, List.set_cons_zero, List.set_cons_succ]
        refine wpAnyH_ready (rs := [15]) (by kernel_rfl) (by simp) ?_
        refine AllReadyH.cons rfl (fun K hK => ?_) AllReadyH.nil
        go_simp
        refine (made_any pll ll lk lv p4 (.node lr k v r) _ HA4.out HT4.out (by have := HSZ.out; simp only [sz]; omega)).mono ?_
        rintro e w5 ⟨⟨p5, rfl, ht5⟩, hb5⟩
        have K5 := cells6_below (by assumption) hb5
        have HT5 := Aside0.mk ht5
        have HB5 := Aside0.mk (HB4.out.trans (hb5.mono HB4.out.size))
        clear ht5 hb5
        refine hK.out _ _ ?hSa16 (fun hHeld => ?_)
        case hSa16 => first | assumption | go_keep
        clear hK K
        try simp only [Act.put, List.setIfInBounds_toArray, List.set_cons_zero, List.set_cons_succ]
        refine held_take 16 (some 6) (v := ?va16) rfl rfl (by kernel_rfl) (by kernel_rfl) (by kernel_rfl) (fun _ _ _ h => h) (by rfl) ?ya16 (by assumption) ?_
        case ya16 => ((intro w hSw); (try dsimp only at hSw); go_simp <;> (with_reducible rfl))
        try simp only [Act.put, List.setIfInBounds_toArray, List.set_cons_zero, List.set_cons_succ]
        refine wpAnyH_done (by kernel_rfl) ?_ _
        go_wp2
        go_ret
        exact ⟨⟨_, rfl, by rw [HEV.out]; exact HT5.out⟩, HB5.out⟩
      · cases lr with
        | leaf => simp [ht] at hc2
        | node m1 mk mv m2 =>
          obtain ⟨gm, pm1, pm2, rfl, hgm, hm1, hm2⟩ := HlrD.out
          have HM1 := Aside0.mk hm1
          have HM2 := Aside0.mk hm2
          have HOTH := Aside0.mk HllD.out
          have HSZ2 := Aside0.mk (show sz ll + (1 + sz m1 + sz m2) + 1 + sz r ≤ 50000 from by have := HSZ.out; simp only [sz] at this; omega)
          have HEV := Aside0.mk (show evenT (.node ll lk lv (.node m1 mk mv m2)) k v r = .node (.node ll lk lv m1) mk mv (.node m2 k v r) from by unfold evenT; rw [if_pos HC1.out]; dsimp only; rw [if_neg (by omega)])
          have m0 : w3.cell? ⟨gm, 0, none⟩ = some (.int .u64 mk) ∧ w3.cell? ⟨gm, 1, none⟩ = some (.int .i64 mv) ∧ w3.cell? ⟨gm, 2, none⟩ = some (.pointer pm1) ∧ w3.cell? ⟨gm, 3, none⟩ = some (.pointer pm2) := node_cells (show w3.heap[gm]? = _ from hgm)
          obtain ⟨q0, q1, q2, q3, q4, q5⟩ := hN
          obtain ⟨m0, m1', m2', m3'⟩ := m0
          have hN := And.intro q0 (And.intro q1 (And.intro q2 (And.intro q3 (And.intro m0 (And.intro m1' (And.intro m2' (And.intro m3' (And.intro q4 q5))))))))
          clear hm1 hm2 hgm m0 m1' m2' m3' q0 q1 q4 q5
          go_wp2_with fail
          refine wp_region_held_drew (S := (fun w' => w'.cell? ⟨gl, 0, none⟩ = some (.int .u64 lk) ∧ w'.cell? ⟨gl, 1, none⟩ = some (.int .i64 lv) ∧ w'.cell? ⟨gl, 2, none⟩ = some (.pointer pll) ∧ w'.cell? ⟨gl, 3, none⟩ = some (.pointer (some ⟨gm, 0, none⟩)) ∧ w'.cell? ⟨gm, 0, none⟩ = some (.int .u64 mk) ∧ w'.cell? ⟨gm, 1, none⟩ = some (.int .i64 mv) ∧ w'.cell? ⟨gm, 2, none⟩ = some (.pointer pm1) ∧ w'.cell? ⟨gm, 3, none⟩ = some (.pointer pm2) ∧ w'.cell? ⟨w.heap.size, 0, none⟩ = some (.int .u64 k) ∧ w'.cell? ⟨w.heap.size, 1, none⟩ = some (.int .i64 v))) (by kernel_rfl) ?hSc0 (fun hHeld => ?_)
          case hSc0 => first | assumption | go_keep
          refine held_take 0 (some 47) (v := ?vc0) rfl rfl (by kernel_rfl) (by kernel_rfl) (by kernel_rfl) (fun _ _ _ h => h) (by rfl) ?yc0 (by assumption) ?_
          case yc0 => ((intro w hSw); (try dsimp only at hSw); go_simp <;> (with_reducible rfl))
          try simp only [Act.put, List.setIfInBounds_toArray, List.set_cons_zero, List.set_cons_succ]
          refine held_take 1 (some 48) (v := ?vc1) rfl rfl (by kernel_rfl) (by kernel_rfl) (by kernel_rfl) (fun _ _ _ h => h) (by rfl) ?yc1 (by assumption) ?_
          case yc1 => ((intro w hSw); (try dsimp only at hSw); go_simp <;> (with_reducible rfl))
          try simp only [Act.put, List.setIfInBounds_toArray, List.set_cons_zero, List.set_cons_succ]
          refine held_take 2 (some 49) (v := ?vc2) rfl rfl (by kernel_rfl) (by kernel_rfl) (by kernel_rfl) (fun _ _ _ h => h) (by rfl) ?yc2 (by assumption) ?_
          case yc2 => ((intro w hSw); (try dsimp only at hSw); go_simp <;> (with_reducible rfl))
          try simp only [Act.put, List.setIfInBounds_toArray, List.set_cons_zero, List.set_cons_succ]
          refine held_take 3 (some 50) (v := ?vc3) rfl rfl (by kernel_rfl) (by kernel_rfl) (by kernel_rfl) (fun _ _ _ h => h) (by rfl) ?yc3 (by assumption) ?_
          case yc3 => ((intro w hSw); (try dsimp only at hSw); go_simp <;> (with_reducible rfl))
          try simp only [Act.put, List.setIfInBounds_toArray, List.set_cons_zero, List.set_cons_succ]
          refine held_take 4 (some 51) (v := ?vc4) rfl rfl (by kernel_rfl) (by kernel_rfl) (by kernel_rfl) (fun _ _ _ h => h) (by rfl) ?yc4 (by assumption) ?_
          case yc4 => ((intro w hSw); (try dsimp only at hSw); go_simp <;> (with_reducible rfl))
          try simp only [Act.put, List.setIfInBounds_toArray, List.set_cons_zero, List.set_cons_succ]
          refine held_take 5 (some 52) (v := ?vc5) rfl rfl (by kernel_rfl) (by kernel_rfl) (by kernel_rfl) (fun _ _ _ h => h) (by rfl) ?yc5 (by assumption) ?_
          case yc5 => ((intro w hSw); (try dsimp only at hSw); go_simp <;> (with_reducible rfl))
          try simp only [Act.put, List.setIfInBounds_toArray, List.set_cons_zero, List.set_cons_succ]
          refine held_take 6 (some 53) (v := ?vc6) rfl rfl (by kernel_rfl) (by kernel_rfl) (by kernel_rfl) (fun _ _ _ h => h) (by rfl) ?yc6 (by assumption) ?_
          case yc6 => ((intro w hSw); (try dsimp only at hSw); go_simp <;> (with_reducible rfl))
          try simp only [Act.put, List.setIfInBounds_toArray, List.set_cons_zero, List.set_cons_succ]
          refine held_take 7 (some 54) (v := ?vc7) rfl rfl (by kernel_rfl) (by kernel_rfl) (by kernel_rfl) (fun _ _ _ h => h) (by rfl) ?yc7 (by assumption) ?_
          case yc7 => ((intro w hSw); (try dsimp only at hSw); go_simp <;> (with_reducible rfl))
          try simp only [Act.put, List.setIfInBounds_toArray, List.set_cons_zero, List.set_cons_succ]
          refine held_take 8 (some 55) (v := ?vc8) rfl rfl (by kernel_rfl) (by kernel_rfl) (by kernel_rfl) (fun _ _ _ h => h) (by rfl) ?yc8 (by assumption) ?_
          case yc8 => ((intro w hSw); (try dsimp only at hSw); go_simp <;> (with_reducible rfl))
          try simp only [Act.put, List.setIfInBounds_toArray, List.set_cons_zero, List.set_cons_succ]
          refine held_take 9 (some 56) (v := ?vc9) rfl rfl (by kernel_rfl) (by kernel_rfl) (by kernel_rfl) (fun _ _ _ h => h) (by rfl) ?yc9 (by assumption) ?_
          case yc9 => ((intro w hSw); (try dsimp only at hSw); go_simp <;> (with_reducible rfl))
          try simp only [Act.put, List.setIfInBounds_toArray, List.set_cons_zero, List.set_cons_succ]
          refine held_take 10 (some 57) (v := ?vc10) rfl rfl (by kernel_rfl) (by kernel_rfl) (by kernel_rfl) (fun _ _ _ h => h) (by rfl) ?yc10 (by assumption) ?_
          case yc10 => ((intro w hSw); (try dsimp only at hSw); go_simp <;> (with_reducible rfl))
          try simp only [Act.put, List.setIfInBounds_toArray, List.set_cons_zero, List.set_cons_succ]
          refine held_take 11 (some 58) (v := ?vc11) rfl rfl (by kernel_rfl) (by kernel_rfl) (by kernel_rfl) (fun _ _ _ h => h) (by rfl) ?yc11 (by assumption) ?_
          case yc11 => ((intro w hSw); (try dsimp only at hSw); go_simp <;> (with_reducible rfl))
          try simp only [Act.put, List.setIfInBounds_toArray, List.set_cons_zero, List.set_cons_succ]
          refine held_take 13 (some 60) (v := ?vc13) rfl rfl (by kernel_rfl) (by kernel_rfl) (by kernel_rfl) (fun _ _ _ h => h) (by rfl) ?yc13 (by assumption) ?_
          case yc13 => ((intro w hSw); (try dsimp only at hSw); go_simp <;> (with_reducible rfl))
          try simp only [Act.put, List.setIfInBounds_toArray, List.set_cons_zero, List.set_cons_succ]
          refine held_take 14 (some 61) (v := ?vc14) rfl rfl (by kernel_rfl) (by kernel_rfl) (by kernel_rfl) (fun _ _ _ h => h) (by rfl) ?yc14 (by assumption) ?_
          case yc14 => ((intro w hSw); (try dsimp only at hSw); go_simp <;> (with_reducible rfl))
          try simp only [Act.put, List.setIfInBounds_toArray, List.set_cons_zero, List.set_cons_succ]
          refine held_take 15 (some 62) (v := ?vc15) rfl rfl (by kernel_rfl) (by kernel_rfl) (by kernel_rfl) (fun _ _ _ h => h) (by rfl) ?yc15 (by assumption) ?_
          case yc15 => ((intro w hSw); (try dsimp only at hSw); go_simp <;> (with_reducible rfl))
          try simp only [Act.put, List.setIfInBounds_toArray, List.set_cons_zero, List.set_cons_succ]
          refine held_take 16 (some 63) (v := ?vc16) rfl rfl (by kernel_rfl) (by kernel_rfl) (by kernel_rfl) (fun _ _ _ h => h) (by rfl) ?yc16 (by assumption) ?_
          case yc16 => ((intro w hSw); (try dsimp only at hSw); go_simp <;> (with_reducible rfl))
          try simp only [Act.put, List.setIfInBounds_toArray, List.set_cons_zero, List.set_cons_succ]
          refine held_take 17 (some 64) (v := ?vc17) rfl rfl (by kernel_rfl) (by kernel_rfl) (by kernel_rfl) (fun _ _ _ h => h) (by rfl) ?yc17 (by assumption) ?_
          case yc17 => ((intro w hSw); (try dsimp only at hSw); go_simp <;> (with_reducible rfl))
          try simp only [Act.put, List.setIfInBounds_toArray, List.set_cons_zero, List.set_cons_succ]
          refine held_take 18 (some 65) (v := ?vc18) rfl rfl (by kernel_rfl) (by kernel_rfl) (by kernel_rfl) (fun _ _ _ h => h) (by rfl) ?yc18 (by assumption) ?_
          case yc18 => ((intro w hSw); (try dsimp only at hSw); go_simp <;> (with_reducible rfl))
          try simp only [Act.put, List.setIfInBounds_toArray, List.set_cons_zero, List.set_cons_succ]
          refine held_take 19 (some 66) (v := ?vc19) rfl rfl (by kernel_rfl) (by kernel_rfl) (by kernel_rfl) (fun _ _ _ h => h) (by rfl) ?yc19 (by assumption) ?_
          case yc19 => ((intro w hSw); (try dsimp only at hSw); go_simp <;> (with_reducible rfl))
          try simp only [Act.put, List.setIfInBounds_toArray, List.set_cons_zero, List.set_cons_succ]
          refine held_take 20 (some 67) (v := ?vc20) rfl rfl (by kernel_rfl) (by kernel_rfl) (by kernel_rfl) (fun _ _ _ h => h) (by rfl) ?yc20 (by assumption) ?_
          case yc20 => ((intro w hSw); (try dsimp only at hSw); go_simp <;> (with_reducible rfl))
          try simp only [Act.put, List.setIfInBounds_toArray, List.set_cons_zero, List.set_cons_succ]
          refine held_take 21 (some 68) (v := ?vc21) rfl rfl (by kernel_rfl) (by kernel_rfl) (by kernel_rfl) (fun _ _ _ h => h) (by rfl) ?yc21 (by assumption) ?_
          case yc21 => ((intro w hSw); (try dsimp only at hSw); go_simp <;> (with_reducible rfl))
          try simp only [Act.put, List.setIfInBounds_toArray, List.set_cons_zero, List.set_cons_succ]
          refine held_take 22 (some 69) (v := ?vc22) rfl rfl (by kernel_rfl) (by kernel_rfl) (by kernel_rfl) (fun _ _ _ h => h) (by rfl) ?yc22 (by assumption) ?_
          case yc22 => ((intro w hSw); (try dsimp only at hSw); go_simp <;> (with_reducible rfl))
          try simp only [Act.put, List.setIfInBounds_toArray, List.set_cons_zero, List.set_cons_succ]
          refine wpAnyH_ready (rs := [12]) (by kernel_rfl) (by simp) ?_
          refine AllReadyH.cons rfl (fun K hK => ?_) AllReadyH.nil
          go_simp
          refine (made_any pll ll lk lv pm1 m1 _ HOTH.out HM1.out (by have := HSZ2.out; (try simp only [sz]); omega)).mono ?_
          rintro e w4 ⟨⟨p4, rfl, ht4⟩, hb4⟩
          have K4 := cells10_below (by assumption) hb4
          have HT4 := Aside0.mk ht4
          have HM24 := Aside0.mk (HM2.out.below hb4)
          have HO4 := Aside0.mk (HOD.out.below hb4)
          have HB4 := Aside0.mk (HBD.out.trans (hb4.mono HBD.out.size))
          clear ht4 hb4
          refine hK.out _ _ ?hSc13 (fun hHeld => ?_)
          case hSc13 => first | assumption | go_keep
          clear hK K
          try simp only [Act.put, List.setIfInBounds_toArray, List.set_cons_zero, List.set_cons_succ]
          refine wpAnyH_ready (rs := [23]) (by kernel_rfl) (by simp) ?_
          refine AllReadyH.cons rfl (fun K hK => ?_) AllReadyH.nil
          go_simp
          refine (made_any pm2 m2 k v pr r _ HM24.out HO4.out (by have := HSZ2.out; (try simp only [sz]); omega)).mono ?_
          rintro e w5 ⟨⟨p5, rfl, ht5⟩, hb5⟩
          have K5 := cells10_below (by assumption) hb5
          have HT5 := Aside0.mk ht5
          have HT45 := Aside0.mk (HT4.out.below hb5)
          have HB5 := Aside0.mk (HB4.out.trans (hb5.mono HB4.out.size))
          clear ht5 hb5
          refine hK.out _ _ ?hSc24 (fun hHeld => ?_)
          case hSc24 => first | assumption | go_keep
          clear hK K
          try simp only [Act.put, List.setIfInBounds_toArray, List.set_cons_zero, List.set_cons_succ]
          refine wpAnyH_ready (rs := [24]) (by kernel_rfl) (by simp) ?_
          refine AllReadyH.cons rfl (fun K hK => ?_) AllReadyH.nil
          go_simp
          refine (made_any p4 (.node ll lk lv m1) mk mv p5 (.node m2 k v r) _ HT45.out HT5.out (by have := HSZ2.out; (try simp only [sz]); omega)).mono ?_
          rintro e w6 ⟨⟨p6, rfl, ht6⟩, hb6⟩
          have K6 := cells10_below (by assumption) hb6
          have HT6 := Aside0.mk ht6
          have HB6 := Aside0.mk (HB5.out.trans (hb6.mono HB5.out.size))
          clear ht6 hb6
          refine hK.out _ _ ?hSc25 (fun hHeld => ?_)
          case hSc25 => first | assumption | go_keep
          clear hK K
          try simp only [Act.put, List.setIfInBounds_toArray, List.set_cons_zero, List.set_cons_succ]
          refine held_take 25 (some 6) (v := ?vc25) rfl rfl (by kernel_rfl) (by kernel_rfl) (by kernel_rfl) (fun _ _ _ h => h) (by rfl) ?yc25 (by assumption) ?_
          case yc25 => ((intro w hSw); (try dsimp only at hSw); go_simp <;> (with_reducible rfl))
          try simp only [Act.put, List.setIfInBounds_toArray, List.set_cons_zero, List.set_cons_succ]
          refine wpAnyH_done (by kernel_rfl) ?_ _
          go_wp2
          go_ret
          exact ⟨⟨_, rfl, by rw [HEV.out]; exact HT6.out⟩, HB6.out⟩
  · have HC0 := Aside0.mk (show ¬ ht l > ht r + 1 by omega)
    clear hrot1
    go_wp2_with fail
    refine (high_any pr r w2 HR.out).mono ?_
    rintro e w3' ⟨rfl, rfl⟩
    go_wp2_with fail
    refine (high_any pl l w3' HL.out).mono ?_
    rintro e w2 ⟨rfl, rfl⟩
    by_cases hc3 : ((ht l : Nat) : Int) + 1 < ((ht r : Nat) : Int)
    · have HC1 := Aside0.mk (show ht r > ht l + 1 by omega)
      clear hc1
      go_wp2_with fail
      cases r with
      | leaf => simp [ht] at hc3; omega
      | node rl rk rv rr =>
        obtain ⟨gr, prl, prr, rfl, hgr, hrl, hrr⟩ := HR.out
        have HRL := Aside0.mk hrl
        have HRR := Aside0.mk hrr
        have HG := Aside0.mk hgr
        have n0 := (node_cells hgr).2.2.1
        have n1 := (node_cells hgr).2.2.2
        have hcA := fun n => high_any prr rr (w2.drewN n) (HRR.out.drewN n)
        have hcB := fun n => high_any prl rl (w2.drewN n) (HRL.out.drewN n)
        have HSZ := Aside0.mk (show sz l + (sz rl + sz rr + 1) ≤ 50000 by simp only [sz] at hs; omega)
        have HH := Aside0.mk (show ht (.node rl rk rv rr) = 1 + max (ht rl) (ht rr) from rfl)
        clear hrl hrr hgr hr1 hs hc3
        generalize ((ht (.node rl rk rv rr) : Nat) : Int) = hh at *
        go_quiet (first | (go_at_call 31; (first | (with_reducible refine (hcA _).mono ?_) | (with_reducible refine (hcB _).mono ?_)); rintro e w' ⟨rfl, rfl⟩; exact ⟨rfl, _, rfl⟩))
        have HB3 := Aside0.mk (below_drewN HB0.out nq)
        have HX3 := Aside0.mk (show (w2.drewN nq).heap[w.heap.size]? = some (.cells #[.int .u64 k, .int .i64 v] 45 (0, 0)) from HX0.out)
        have HG3 := Aside0.mk (show (w2.drewN nq).heap[gr]? = _ from HG.out)
        have HO3 := Aside0.mk (HL.out.drewN nq)
        have Hrl3 := Aside0.mk (HRL.out.drewN nq)
        have Hrr3 := Aside0.mk (HRR.out.drewN nq)
        clear n0 n1 hcA hcB HB0 HX0 HG HL HRL HRR
        generalize w2.drewN nq = w3 at *
        have hN : w3.cell? ⟨gr, 0, none⟩ = some (.int .u64 rk) ∧ w3.cell? ⟨gr, 1, none⟩ = some (.int .i64 rv) ∧ w3.cell? ⟨gr, 2, none⟩ = some (.pointer prl) ∧ w3.cell? ⟨gr, 3, none⟩ = some (.pointer prr) ∧ w3.cell? ⟨w.heap.size, 0, none⟩ = some (.int .u64 k) ∧ w3.cell? ⟨w.heap.size, 1, none⟩ = some (.int .i64 v) :=
          ⟨(node_cells HG3.out).1, (node_cells HG3.out).2.1, (node_cells HG3.out).2.2.1, (node_cells HG3.out).2.2.2, blk_cell HX3.out 0, blk_cell HX3.out 1⟩
        have HOD := Aside0.mk (HO3.out.below (below_drew (Below.refl _ w3)))
        have HrlD := Aside0.mk (Hrl3.out.below (below_drew (Below.refl _ w3)))
        have HrrD := Aside0.mk (Hrr3.out.below (below_drew (Below.refl _ w3)))
        have HBD := Aside0.mk (HB3.out.trans ((below_drew (Below.refl _ w3)).mono HB3.out.size))
        by_cases hc2 : ht rl ≤ ht rr
        · have HEV := Aside0.mk (show evenT l k v (.node rl rk rv rr) = .node (.node l k v rl) rk rv rr from by unfold evenT; rw [if_neg HC0.out, if_pos HC1.out]; simp [hc2])
          go_wp2_with fail
          refine wp_region_held_drew (S := (fun w' => w'.cell? ⟨gr, 0, none⟩ = some (.int .u64 rk) ∧ w'.cell? ⟨gr, 1, none⟩ = some (.int .i64 rv) ∧ w'.cell? ⟨gr, 2, none⟩ = some (.pointer prl) ∧ w'.cell? ⟨gr, 3, none⟩ = some (.pointer prr) ∧ w'.cell? ⟨w.heap.size, 0, none⟩ = some (.int .u64 k) ∧ w'.cell? ⟨w.heap.size, 1, none⟩ = some (.int .i64 v))) (by kernel_rfl) ?hSb0 (fun hHeld => ?_)
          case hSb0 => first | assumption | go_keep
          refine held_take 0 (some 90) (v := ?vb0) rfl rfl (by kernel_rfl) (by kernel_rfl) (by kernel_rfl) (fun _ _ _ h => h) (by rfl) ?yb0 (by assumption) ?_
          case yb0 => ((intro w hSw); (try dsimp only at hSw); go_simp <;> (with_reducible rfl))
          try simp only [Act.put, List.setIfInBounds_toArray, List.set_cons_zero, List.set_cons_succ]
          refine held_take 1 (some 91) (v := ?vb1) rfl rfl (by kernel_rfl) (by kernel_rfl) (by kernel_rfl) (fun _ _ _ h => h) (by rfl) ?yb1 (by assumption) ?_
          case yb1 => ((intro w hSw); (try dsimp only at hSw); go_simp <;> (with_reducible rfl))
          try simp only [Act.put, List.setIfInBounds_toArray, List.set_cons_zero, List.set_cons_succ]
          refine held_take 2 (some 92) (v := ?vb2) rfl rfl (by kernel_rfl) (by kernel_rfl) (by kernel_rfl) (fun _ _ _ h => h) (by rfl) ?yb2 (by assumption) ?_
          case yb2 => ((intro w hSw); (try dsimp only at hSw); go_simp <;> (with_reducible rfl))
          try simp only [Act.put, List.setIfInBounds_toArray, List.set_cons_zero, List.set_cons_succ]
          refine held_take 3 (some 93) (v := ?vb3) rfl rfl (by kernel_rfl) (by kernel_rfl) (by kernel_rfl) (fun _ _ _ h => h) (by rfl) ?yb3 (by assumption) ?_
          case yb3 => ((intro w hSw); (try dsimp only at hSw); go_simp <;> (with_reducible rfl))
          try simp only [Act.put, List.setIfInBounds_toArray, List.set_cons_zero, List.set_cons_succ]
          refine held_take 4 (some 94) (v := ?vb4) rfl rfl (by kernel_rfl) (by kernel_rfl) (by kernel_rfl) (fun _ _ _ h => h) (by rfl) ?yb4 (by assumption) ?_
          case yb4 => ((intro w hSw); (try dsimp only at hSw); go_simp <;> (with_reducible rfl))
          try simp only [Act.put, List.setIfInBounds_toArray, List.set_cons_zero, List.set_cons_succ]
          refine held_take 5 (some 95) (v := ?vb5) rfl rfl (by kernel_rfl) (by kernel_rfl) (by kernel_rfl) (fun _ _ _ h => h) (by rfl) ?yb5 (by assumption) ?_
          case yb5 => ((intro w hSw); (try dsimp only at hSw); go_simp <;> (with_reducible rfl))
          try simp only [Act.put, List.setIfInBounds_toArray, List.set_cons_zero, List.set_cons_succ]
          refine held_take 7 (some 97) (v := ?vb7) rfl rfl (by kernel_rfl) (by kernel_rfl) (by kernel_rfl) (fun _ _ _ h => h) (by rfl) ?yb7 (by assumption) ?_
          case yb7 => ((intro w hSw); (try dsimp only at hSw); go_simp <;> (with_reducible rfl))
          try simp only [Act.put, List.setIfInBounds_toArray, List.set_cons_zero, List.set_cons_succ]
          refine held_take 8 (some 98) (v := ?vb8) rfl rfl (by kernel_rfl) (by kernel_rfl) (by kernel_rfl) (fun _ _ _ h => h) (by rfl) ?yb8 (by assumption) ?_
          case yb8 => ((intro w hSw); (try dsimp only at hSw); go_simp <;> (with_reducible rfl))
          try simp only [Act.put, List.setIfInBounds_toArray, List.set_cons_zero, List.set_cons_succ]
          refine held_take 9 (some 99) (v := ?vb9) rfl rfl (by kernel_rfl) (by kernel_rfl) (by kernel_rfl) (fun _ _ _ h => h) (by rfl) ?yb9 (by assumption) ?_
          case yb9 => ((intro w hSw); (try dsimp only at hSw); go_simp <;> (with_reducible rfl))
          try simp only [Act.put, List.setIfInBounds_toArray, List.set_cons_zero, List.set_cons_succ]
          refine held_take 10 (some 100) (v := ?vb10) rfl rfl (by kernel_rfl) (by kernel_rfl) (by kernel_rfl) (fun _ _ _ h => h) (by rfl) ?yb10 (by assumption) ?_
          case yb10 => ((intro w hSw); (try dsimp only at hSw); go_simp <;> (with_reducible rfl))
          try simp only [Act.put, List.setIfInBounds_toArray, List.set_cons_zero, List.set_cons_succ]
          refine held_take 11 (some 101) (v := ?vb11) rfl rfl (by kernel_rfl) (by kernel_rfl) (by kernel_rfl) (fun _ _ _ h => h) (by rfl) ?yb11 (by assumption) ?_
          case yb11 => ((intro w hSw); (try dsimp only at hSw); go_simp <;> (with_reducible rfl))
          try simp only [Act.put, List.setIfInBounds_toArray, List.set_cons_zero, List.set_cons_succ]
          refine held_take 12 (some 102) (v := ?vb12) rfl rfl (by kernel_rfl) (by kernel_rfl) (by kernel_rfl) (fun _ _ _ h => h) (by rfl) ?yb12 (by assumption) ?_
          case yb12 => ((intro w hSw); (try dsimp only at hSw); go_simp <;> (with_reducible rfl))
          try simp only [Act.put, List.setIfInBounds_toArray, List.set_cons_zero, List.set_cons_succ]
          refine held_take 13 (some 103) (v := ?vb13) rfl rfl (by kernel_rfl) (by kernel_rfl) (by kernel_rfl) (fun _ _ _ h => h) (by rfl) ?yb13 (by assumption) ?_
          case yb13 => ((intro w hSw); (try dsimp only at hSw); go_simp <;> (with_reducible rfl))
          try simp only [Act.put, List.setIfInBounds_toArray, List.set_cons_zero, List.set_cons_succ]
          refine held_take 14 (some 104) (v := ?vb14) rfl rfl (by kernel_rfl) (by kernel_rfl) (by kernel_rfl) (fun _ _ _ h => h) (by rfl) ?yb14 (by assumption) ?_
          case yb14 => ((intro w hSw); (try dsimp only at hSw); go_simp <;> (with_reducible rfl))
          try simp only [Act.put, List.setIfInBounds_toArray, List.set_cons_zero, List.set_cons_succ]
          refine wpAnyH_ready (rs := [6]) (by kernel_rfl) (by simp) ?_
          refine AllReadyH.cons rfl (fun K hK => ?_) AllReadyH.nil
          go_simp
          refine (made_any pl l k v prl rl _ HOD.out HrlD.out (by have := HSZ.out; omega)).mono ?_
          rintro e w4 ⟨⟨p4, rfl, ht4⟩, hb4⟩
          have K4 := cells6_below (by assumption) hb4
          have HT4 := Aside0.mk ht4
          have HA4 := Aside0.mk (HrrD.out.below hb4)
          have HB4 := Aside0.mk (HBD.out.trans (hb4.mono HBD.out.size))
          clear ht4 hb4
          refine hK.out _ _ ?hSb7 (fun hHeld => ?_)
          case hSb7 => first | assumption | go_keep
          clear hK K
          try simp only [Act.put, List.setIfInBounds_toArray, List.set_cons_zero, List.set_cons_succ]
          refine wpAnyH_ready (rs := [15]) (by kernel_rfl) (by simp) ?_
          refine AllReadyH.cons rfl (fun K hK => ?_) AllReadyH.nil
          go_simp
          refine (made_any p4 (.node l k v rl) rk rv prr rr _ HT4.out HA4.out (by have := HSZ.out; simp only [sz]; omega)).mono ?_
          rintro e w5 ⟨⟨p5, rfl, ht5⟩, hb5⟩
          have K5 := cells6_below (by assumption) hb5
          have HT5 := Aside0.mk ht5
          have HB5 := Aside0.mk (HB4.out.trans (hb5.mono HB4.out.size))
          clear ht5 hb5
          refine hK.out _ _ ?hSb16 (fun hHeld => ?_)
          case hSb16 => first | assumption | go_keep
          clear hK K
          try simp only [Act.put, List.setIfInBounds_toArray, List.set_cons_zero, List.set_cons_succ]
          refine held_take 16 (some 6) (v := ?vb16) rfl rfl (by kernel_rfl) (by kernel_rfl) (by kernel_rfl) (fun _ _ _ h => h) (by rfl) ?yb16 (by assumption) ?_
          case yb16 => ((intro w hSw); (try dsimp only at hSw); go_simp <;> (with_reducible rfl))
          try simp only [Act.put, List.setIfInBounds_toArray, List.set_cons_zero, List.set_cons_succ]
          refine wpAnyH_done (by kernel_rfl) ?_ _
          go_wp2
          go_ret
          exact ⟨⟨_, rfl, by rw [HEV.out]; exact HT5.out⟩, HB5.out⟩
        · cases rl with
          | leaf => simp [ht] at hc2
          | node m1 mk mv m2 =>
            obtain ⟨gm, pm1, pm2, rfl, hgm, hm1, hm2⟩ := HrlD.out
            have HM1 := Aside0.mk hm1
            have HM2 := Aside0.mk hm2
            have HOTH := Aside0.mk HrrD.out
            have HSZ2 := Aside0.mk (show sz l + ((1 + sz m1 + sz m2) + sz rr + 1) ≤ 50000 from by have := HSZ.out; simp only [sz] at this; omega)
            have HEV := Aside0.mk (show evenT l k v (.node (.node m1 mk mv m2) rk rv rr) = .node (.node l k v m1) mk mv (.node m2 rk rv rr) from by unfold evenT; rw [if_neg HC0.out, if_pos HC1.out]; dsimp only; rw [if_neg (by omega)])
            have m0 : w3.cell? ⟨gm, 0, none⟩ = some (.int .u64 mk) ∧ w3.cell? ⟨gm, 1, none⟩ = some (.int .i64 mv) ∧ w3.cell? ⟨gm, 2, none⟩ = some (.pointer pm1) ∧ w3.cell? ⟨gm, 3, none⟩ = some (.pointer pm2) := node_cells (show w3.heap[gm]? = _ from hgm)
            obtain ⟨q0, q1, q2, q3, q4, q5⟩ := hN
            obtain ⟨m0, m1', m2', m3'⟩ := m0
            have hN := And.intro q0 (And.intro q1 (And.intro q2 (And.intro q3 (And.intro m0 (And.intro m1' (And.intro m2' (And.intro m3' (And.intro q4 q5))))))))
            clear hm1 hm2 hgm m0 m1' m2' m3' q0 q1 q4 q5
            go_wp2_with fail
            refine wp_region_held_drew (S := (fun w' => w'.cell? ⟨gr, 0, none⟩ = some (.int .u64 rk) ∧ w'.cell? ⟨gr, 1, none⟩ = some (.int .i64 rv) ∧ w'.cell? ⟨gr, 2, none⟩ = some (.pointer (some ⟨gm, 0, none⟩)) ∧ w'.cell? ⟨gr, 3, none⟩ = some (.pointer prr) ∧ w'.cell? ⟨gm, 0, none⟩ = some (.int .u64 mk) ∧ w'.cell? ⟨gm, 1, none⟩ = some (.int .i64 mv) ∧ w'.cell? ⟨gm, 2, none⟩ = some (.pointer pm1) ∧ w'.cell? ⟨gm, 3, none⟩ = some (.pointer pm2) ∧ w'.cell? ⟨w.heap.size, 0, none⟩ = some (.int .u64 k) ∧ w'.cell? ⟨w.heap.size, 1, none⟩ = some (.int .i64 v))) (by kernel_rfl) ?hSd0 (fun hHeld => ?_)
            case hSd0 => first | assumption | go_keep
            refine held_take 0 (some 110) (v := ?vd0) rfl rfl (by kernel_rfl) (by kernel_rfl) (by kernel_rfl) (fun _ _ _ h => h) (by rfl) ?yd0 (by assumption) ?_
            case yd0 => ((intro w hSw); (try dsimp only at hSw); go_simp <;> (with_reducible rfl))
            try simp only [Act.put, List.setIfInBounds_toArray, List.set_cons_zero, List.set_cons_succ]
            refine held_take 1 (some 111) (v := ?vd1) rfl rfl (by kernel_rfl) (by kernel_rfl) (by kernel_rfl) (fun _ _ _ h => h) (by rfl) ?yd1 (by assumption) ?_
            case yd1 => ((intro w hSw); (try dsimp only at hSw); go_simp <;> (with_reducible rfl))
            try simp only [Act.put, List.setIfInBounds_toArray, List.set_cons_zero, List.set_cons_succ]
            refine held_take 2 (some 112) (v := ?vd2) rfl rfl (by kernel_rfl) (by kernel_rfl) (by kernel_rfl) (fun _ _ _ h => h) (by rfl) ?yd2 (by assumption) ?_
            case yd2 => ((intro w hSw); (try dsimp only at hSw); go_simp <;> (with_reducible rfl))
            try simp only [Act.put, List.setIfInBounds_toArray, List.set_cons_zero, List.set_cons_succ]
            refine held_take 3 (some 113) (v := ?vd3) rfl rfl (by kernel_rfl) (by kernel_rfl) (by kernel_rfl) (fun _ _ _ h => h) (by rfl) ?yd3 (by assumption) ?_
            case yd3 => ((intro w hSw); (try dsimp only at hSw); go_simp <;> (with_reducible rfl))
            try simp only [Act.put, List.setIfInBounds_toArray, List.set_cons_zero, List.set_cons_succ]
            refine held_take 4 (some 114) (v := ?vd4) rfl rfl (by kernel_rfl) (by kernel_rfl) (by kernel_rfl) (fun _ _ _ h => h) (by rfl) ?yd4 (by assumption) ?_
            case yd4 => ((intro w hSw); (try dsimp only at hSw); go_simp <;> (with_reducible rfl))
            try simp only [Act.put, List.setIfInBounds_toArray, List.set_cons_zero, List.set_cons_succ]
            refine held_take 5 (some 115) (v := ?vd5) rfl rfl (by kernel_rfl) (by kernel_rfl) (by kernel_rfl) (fun _ _ _ h => h) (by rfl) ?yd5 (by assumption) ?_
            case yd5 => ((intro w hSw); (try dsimp only at hSw); go_simp <;> (with_reducible rfl))
            try simp only [Act.put, List.setIfInBounds_toArray, List.set_cons_zero, List.set_cons_succ]
            refine held_take 7 (some 117) (v := ?vd7) rfl rfl (by kernel_rfl) (by kernel_rfl) (by kernel_rfl) (fun _ _ _ h => h) (by rfl) ?yd7 (by assumption) ?_
            case yd7 => ((intro w hSw); (try dsimp only at hSw); go_simp <;> (with_reducible rfl))
            try simp only [Act.put, List.setIfInBounds_toArray, List.set_cons_zero, List.set_cons_succ]
            refine held_take 8 (some 118) (v := ?vd8) rfl rfl (by kernel_rfl) (by kernel_rfl) (by kernel_rfl) (fun _ _ _ h => h) (by rfl) ?yd8 (by assumption) ?_
            case yd8 => ((intro w hSw); (try dsimp only at hSw); go_simp <;> (with_reducible rfl))
            try simp only [Act.put, List.setIfInBounds_toArray, List.set_cons_zero, List.set_cons_succ]
            refine held_take 9 (some 119) (v := ?vd9) rfl rfl (by kernel_rfl) (by kernel_rfl) (by kernel_rfl) (fun _ _ _ h => h) (by rfl) ?yd9 (by assumption) ?_
            case yd9 => ((intro w hSw); (try dsimp only at hSw); go_simp <;> (with_reducible rfl))
            try simp only [Act.put, List.setIfInBounds_toArray, List.set_cons_zero, List.set_cons_succ]
            refine held_take 10 (some 120) (v := ?vd10) rfl rfl (by kernel_rfl) (by kernel_rfl) (by kernel_rfl) (fun _ _ _ h => h) (by rfl) ?yd10 (by assumption) ?_
            case yd10 => ((intro w hSw); (try dsimp only at hSw); go_simp <;> (with_reducible rfl))
            try simp only [Act.put, List.setIfInBounds_toArray, List.set_cons_zero, List.set_cons_succ]
            refine held_take 11 (some 121) (v := ?vd11) rfl rfl (by kernel_rfl) (by kernel_rfl) (by kernel_rfl) (fun _ _ _ h => h) (by rfl) ?yd11 (by assumption) ?_
            case yd11 => ((intro w hSw); (try dsimp only at hSw); go_simp <;> (with_reducible rfl))
            try simp only [Act.put, List.setIfInBounds_toArray, List.set_cons_zero, List.set_cons_succ]
            refine held_take 12 (some 122) (v := ?vd12) rfl rfl (by kernel_rfl) (by kernel_rfl) (by kernel_rfl) (fun _ _ _ h => h) (by rfl) ?yd12 (by assumption) ?_
            case yd12 => ((intro w hSw); (try dsimp only at hSw); go_simp <;> (with_reducible rfl))
            try simp only [Act.put, List.setIfInBounds_toArray, List.set_cons_zero, List.set_cons_succ]
            refine held_take 13 (some 123) (v := ?vd13) rfl rfl (by kernel_rfl) (by kernel_rfl) (by kernel_rfl) (fun _ _ _ h => h) (by rfl) ?yd13 (by assumption) ?_
            case yd13 => ((intro w hSw); (try dsimp only at hSw); go_simp <;> (with_reducible rfl))
            try simp only [Act.put, List.setIfInBounds_toArray, List.set_cons_zero, List.set_cons_succ]
            refine held_take 14 (some 124) (v := ?vd14) rfl rfl (by kernel_rfl) (by kernel_rfl) (by kernel_rfl) (fun _ _ _ h => h) (by rfl) ?yd14 (by assumption) ?_
            case yd14 => ((intro w hSw); (try dsimp only at hSw); go_simp <;> (with_reducible rfl))
            try simp only [Act.put, List.setIfInBounds_toArray, List.set_cons_zero, List.set_cons_succ]
            refine held_take 15 (some 125) (v := ?vd15) rfl rfl (by kernel_rfl) (by kernel_rfl) (by kernel_rfl) (fun _ _ _ h => h) (by rfl) ?yd15 (by assumption) ?_
            case yd15 => ((intro w hSw); (try dsimp only at hSw); go_simp <;> (with_reducible rfl))
            try simp only [Act.put, List.setIfInBounds_toArray, List.set_cons_zero, List.set_cons_succ]
            refine held_take 16 (some 126) (v := ?vd16) rfl rfl (by kernel_rfl) (by kernel_rfl) (by kernel_rfl) (fun _ _ _ h => h) (by rfl) ?yd16 (by assumption) ?_
            case yd16 => ((intro w hSw); (try dsimp only at hSw); go_simp <;> (with_reducible rfl))
            try simp only [Act.put, List.setIfInBounds_toArray, List.set_cons_zero, List.set_cons_succ]
            refine held_take 17 (some 127) (v := ?vd17) rfl rfl (by kernel_rfl) (by kernel_rfl) (by kernel_rfl) (fun _ _ _ h => h) (by rfl) ?yd17 (by assumption) ?_
            case yd17 => ((intro w hSw); (try dsimp only at hSw); go_simp <;> (with_reducible rfl))
            try simp only [Act.put, List.setIfInBounds_toArray, List.set_cons_zero, List.set_cons_succ]
            refine held_take 18 (some 128) (v := ?vd18) rfl rfl (by kernel_rfl) (by kernel_rfl) (by kernel_rfl) (fun _ _ _ h => h) (by rfl) ?yd18 (by assumption) ?_
            case yd18 => ((intro w hSw); (try dsimp only at hSw); go_simp <;> (with_reducible rfl))
            try simp only [Act.put, List.setIfInBounds_toArray, List.set_cons_zero, List.set_cons_succ]
            refine held_take 19 (some 129) (v := ?vd19) rfl rfl (by kernel_rfl) (by kernel_rfl) (by kernel_rfl) (fun _ _ _ h => h) (by rfl) ?yd19 (by assumption) ?_
            case yd19 => ((intro w hSw); (try dsimp only at hSw); go_simp <;> (with_reducible rfl))
            try simp only [Act.put, List.setIfInBounds_toArray, List.set_cons_zero, List.set_cons_succ]
            refine held_take 20 (some 130) (v := ?vd20) rfl rfl (by kernel_rfl) (by kernel_rfl) (by kernel_rfl) (fun _ _ _ h => h) (by rfl) ?yd20 (by assumption) ?_
            case yd20 => ((intro w hSw); (try dsimp only at hSw); go_simp <;> (with_reducible rfl))
            try simp only [Act.put, List.setIfInBounds_toArray, List.set_cons_zero, List.set_cons_succ]
            refine held_take 21 (some 131) (v := ?vd21) rfl rfl (by kernel_rfl) (by kernel_rfl) (by kernel_rfl) (fun _ _ _ h => h) (by rfl) ?yd21 (by assumption) ?_
            case yd21 => ((intro w hSw); (try dsimp only at hSw); go_simp <;> (with_reducible rfl))
            try simp only [Act.put, List.setIfInBounds_toArray, List.set_cons_zero, List.set_cons_succ]
            refine held_take 22 (some 132) (v := ?vd22) rfl rfl (by kernel_rfl) (by kernel_rfl) (by kernel_rfl) (fun _ _ _ h => h) (by rfl) ?yd22 (by assumption) ?_
            case yd22 => ((intro w hSw); (try dsimp only at hSw); go_simp <;> (with_reducible rfl))
            try simp only [Act.put, List.setIfInBounds_toArray, List.set_cons_zero, List.set_cons_succ]
            refine wpAnyH_ready (rs := [6]) (by kernel_rfl) (by simp) ?_
            refine AllReadyH.cons rfl (fun K hK => ?_) AllReadyH.nil
            go_simp
            refine (made_any pl l k v pm1 m1 _ HOD.out HM1.out (by have := HSZ2.out; (try simp only [sz]); omega)).mono ?_
            rintro e w4 ⟨⟨p4, rfl, ht4⟩, hb4⟩
            have K4 := cells10_below (by assumption) hb4
            have HT4 := Aside0.mk ht4
            have HM24 := Aside0.mk (HM2.out.below hb4)
            have HO4 := Aside0.mk (HOTH.out.below hb4)
            have HB4 := Aside0.mk (HBD.out.trans (hb4.mono HBD.out.size))
            clear ht4 hb4
            refine hK.out _ _ ?hSd7 (fun hHeld => ?_)
            case hSd7 => first | assumption | go_keep
            clear hK K
            try simp only [Act.put, List.setIfInBounds_toArray, List.set_cons_zero, List.set_cons_succ]
            refine wpAnyH_ready (rs := [23]) (by kernel_rfl) (by simp) ?_
            refine AllReadyH.cons rfl (fun K hK => ?_) AllReadyH.nil
            go_simp
            refine (made_any pm2 m2 rk rv prr rr _ HM24.out HO4.out (by have := HSZ2.out; (try simp only [sz]); omega)).mono ?_
            rintro e w5 ⟨⟨p5, rfl, ht5⟩, hb5⟩
            have K5 := cells10_below (by assumption) hb5
            have HT5 := Aside0.mk ht5
            have HT45 := Aside0.mk (HT4.out.below hb5)
            have HB5 := Aside0.mk (HB4.out.trans (hb5.mono HB4.out.size))
            clear ht5 hb5
            refine hK.out _ _ ?hSd24 (fun hHeld => ?_)
            case hSd24 => first | assumption | go_keep
            clear hK K
            try simp only [Act.put, List.setIfInBounds_toArray, List.set_cons_zero, List.set_cons_succ]
            refine wpAnyH_ready (rs := [24]) (by kernel_rfl) (by simp) ?_
            refine AllReadyH.cons rfl (fun K hK => ?_) AllReadyH.nil
            go_simp
            refine (made_any p4 (.node l k v m1) mk mv p5 (.node m2 rk rv rr) _ HT45.out HT5.out (by have := HSZ2.out; (try simp only [sz]); omega)).mono ?_
            rintro e w6 ⟨⟨p6, rfl, ht6⟩, hb6⟩
            have K6 := cells10_below (by assumption) hb6
            have HT6 := Aside0.mk ht6
            have HB6 := Aside0.mk (HB5.out.trans (hb6.mono HB5.out.size))
            clear ht6 hb6
            refine hK.out _ _ ?hSd25 (fun hHeld => ?_)
            case hSd25 => first | assumption | go_keep
            clear hK K
            try simp only [Act.put, List.setIfInBounds_toArray, List.set_cons_zero, List.set_cons_succ]
            refine held_take 25 (some 6) (v := ?vd25) rfl rfl (by kernel_rfl) (by kernel_rfl) (by kernel_rfl) (fun _ _ _ h => h) (by rfl) ?yd25 (by assumption) ?_
            case yd25 => ((intro w hSw); (try dsimp only at hSw); go_simp <;> (with_reducible rfl))
            try simp only [Act.put, List.setIfInBounds_toArray, List.set_cons_zero, List.set_cons_succ]
            refine wpAnyH_done (by kernel_rfl) ?_ _
            go_wp2
            go_ret
            exact ⟨⟨_, rfl, by rw [HEV.out]; exact HT6.out⟩, HB6.out⟩
    · have HEV := Aside0.mk (show evenT l k v r = .node l k v r from by unfold evenT; rw [if_neg HC0.out, if_neg (by omega)])
      have c0 := blk_cell HX0.out 0
      have c1 := blk_cell HX0.out 1
      have hm := made_any pl l k v pr r w2 HL.out HR.out (by omega)
      go_wp2_with fail
      refine hm.mono ?_
      rintro e w3 ⟨⟨p3, rfl, ht3⟩, hb3⟩
      have HT3 := Aside0.mk ht3
      have HB3 := Aside0.mk (HB0.out.trans (hb3.mono HB0.out.size))
      clear hm ht3 hb3 c0 c1
      go_wp2_with fail
      go_ret
      exact ⟨⟨_, rfl, by rw [HEV.out]; exact HT3.out⟩, HB3.out⟩
end Go.Proofs.Ytbiccahkniadfaa.H
/-! ### Tree3 -/
namespace Go.Proofs.Ytbiccahkniadfaa.H
open Go.RowKit Go.Proofs.Ytbiccahkniadfaa.P Go.Proofs.YtbiccahkniadfaaW.PrintWords Go.Proofs.YtbiccahkniadfaaW.PrintLast Go.Proofs.YtbiccahkniadfaaW.PrintMore
set_option linter.unusedVariables false
set_option linter.unusedSimpArgs false
theorem sz_even (l : T) (k v : Int) (r : T) : sz (evenT l k v r) = 1 + sz l + sz r := by
  unfold evenT
  split
  · split
    · rfl
    · split
      · simp only [sz]; omega
      · split
        · rfl
        · simp only [sz]; omega
  · split
    · split
      · rfl
      · split
        · simp only [sz]; omega
        · split
          · rfl
          · simp only [sz]; omega
    · rfl
def withT (k v : Int) : T → T
  | .leaf => .node .leaf k v .leaf
  | .node l k' v' r => if k < k' then evenT (withT k v l) k' v' r else if k > k' then evenT l k' v' (withT k v r) else .node l k v r
theorem sz_with (k v : Int) : ∀ t : T, sz (withT k v t) ≤ sz t + 1
  | .leaf => by simp [withT, sz]
  | .node l k' v' r => by
    have h1 := sz_with k v l
    have h2 := sz_with k v r
    unfold withT
    split
    · rw [sz_even]; simp only [sz]; omega
    · split
      · rw [sz_even]; simp only [sz]; omega
      · simp only [sz]; omega
set_option maxRecDepth 20000 in
set_option maxHeartbeats 4000000 in
theorem with_any (k v : Int) (t : T) : ∀ (p : Option Addr) (w : World), TreeAt w p t → sz t ≤ 40000 →
    Calls Try.prog 28 #[.pointer p, .agg #[.int .u64 k, .int .i64 v]] w fun e w' => (∃ q, e = .returned (.pointer q) ∧ TreeAt w' q (withT k v t)) ∧ Below w.heap.size w w' := by
  induction t with
  | leaf =>
    intro p w h hs
    obtain rfl : p = none := h
    have HB0 := Aside0.mk ((Below.refl w.heap.size w).alloc (Nat.le_refl _) (.cells #[.int .u64 k, .int .i64 v] 45))
    have HX0 := blk_new w (.cells #[.int .u64 k, .int .i64 v] 45)
    go_enter Try.func28, Try.ntmps28
    go_wp2_with fail
    generalize (w.alloc (.cells #[.int .u64 k, .int .i64 v] 45)) = w0 at *
    have hm := made_any none .leaf k v none .leaf w0 rfl rfl (by decide)
    refine hm.mono ?_
    rintro e w3 ⟨⟨p3, rfl, ht3⟩, hb3⟩
    have HT3 := Aside0.mk ht3
    have HB3 := Aside0.mk (HB0.out.trans (hb3.mono HB0.out.size))
    clear hm ht3 hb3 HX0
    go_wp2_with fail
    go_ret
    exact ⟨⟨_, rfl, HT3.out⟩, HB3.out⟩
  | node l k1 v1 r ihl ihr =>
    intro p w h hs
    obtain ⟨g, pl, pr, rfl, hg, hl, hr⟩ := h
    have HB0 := Aside0.mk ((Below.refl w.heap.size w).alloc (Nat.le_refl _) (.cells #[.int .u64 k, .int .i64 v] 45))
    have HX0 := Aside0.mk (blk_new w (.cells #[.int .u64 k, .int .i64 v] 45))
    have HG0 := Aside0.mk (blk_below hg HB0.out)
    have HL0 := Aside0.mk (hl.below HB0.out)
    have HR0 := Aside0.mk (hr.below HB0.out)
    have HSZ := Aside0.mk (show sz l + sz r + 1 ≤ 40000 by simp only [sz] at hs; omega)
    have IHL := Aside0.mk ihl
    have IHR := Aside0.mk ihr
    have HZL := Aside0.mk (sz_with k v l)
    have HZR := Aside0.mk (sz_with k v r)
    clear hg hl hr hs ihl ihr
    go_enter Try.func28, Try.ntmps28
    go_wp2_with fail
    generalize (w.alloc (.cells #[.int .u64 k, .int .i64 v] 45)) = w0 at *
    have c0 := blk_cell HX0.out 0
    have d0 := (node_cells HG0.out).1
    go_quiet (fail)
    have HB1 := Aside0.mk (below_drewN HB0.out nq)
    have HX1 := Aside0.mk (show (w0.drewN nq).heap[w.heap.size]? = _ from HX0.out)
    have HG1 := Aside0.mk (show (w0.drewN nq).heap[g]? = _ from HG0.out)
    have HL1 := Aside0.mk (HL0.out.drewN nq)
    have HR1 := Aside0.mk (HR0.out.drewN nq)
    clear c0 d0 HB0 HX0 HG0 HL0 HR0
    generalize w0.drewN nq = w1 at *
    by_cases c1 : k < k1
    · have HEV := Aside0.mk (show withT k v (.node l k1 v1 r) = evenT (withT k v l) k1 v1 r from by rw [withT, if_pos c1])
      go_wp2_with fail
      have hN : w1.cell? ⟨g, 0, none⟩ = some (.int .u64 k1) ∧ w1.cell? ⟨g, 1, none⟩ = some (.int .i64 v1) ∧ w1.cell? ⟨g, 2, none⟩ = some (.pointer pl) ∧ w1.cell? ⟨g, 3, none⟩ = some (.pointer pr) ∧ w1.cell? ⟨w.heap.size, 0, none⟩ = some (.int .u64 k) ∧ w1.cell? ⟨w.heap.size, 1, none⟩ = some (.int .i64 v) :=
        ⟨(node_cells HG1.out).1, (node_cells HG1.out).2.1, (node_cells HG1.out).2.2.1, (node_cells HG1.out).2.2.2, blk_cell HX1.out 0, blk_cell HX1.out 1⟩
      have HLD := Aside0.mk (HL1.out.below (below_drew (Below.refl _ w1)))
      have HRD := Aside0.mk (HR1.out.below (below_drew (Below.refl _ w1)))
      have HBD := Aside0.mk (HB1.out.trans ((below_drew (Below.refl _ w1)).mono HB1.out.size))
      clear HB1 HX1 HG1 HL1 HR1
      refine wp_region_held_drew (S := (fun w' => w'.cell? ⟨g, 0, none⟩ = some (.int .u64 k1) ∧ w'.cell? ⟨g, 1, none⟩ = some (.int .i64 v1) ∧ w'.cell? ⟨g, 2, none⟩ = some (.pointer pl) ∧ w'.cell? ⟨g, 3, none⟩ = some (.pointer pr) ∧ w'.cell? ⟨w.heap.size, 0, none⟩ = some (.int .u64 k) ∧ w'.cell? ⟨w.heap.size, 1, none⟩ = some (.int .i64 v))) (by kernel_rfl) ?hSa0 (fun hHeld => ?_)
      case hSa0 => first | assumption | go_keep
      refine held_take 0 (some 19) (v := ?va0) rfl rfl (by kernel_rfl) (by kernel_rfl) (by kernel_rfl) (fun _ _ _ h => h) (by rfl) ?ya0 (by assumption) ?_
      case ya0 => ((intro w hSw); (try dsimp only at hSw); go_simp <;> (with_reducible rfl))
      try simp only [Act.put, List.setIfInBounds_toArray, List.set_cons_zero, List.set_cons_succ]
      refine held_take 1 (some 20) (v := ?va1) rfl rfl (by kernel_rfl) (by kernel_rfl) (by kernel_rfl) (fun _ _ _ h => h) (by rfl) ?ya1 (by assumption) ?_
      case ya1 => ((intro w hSw); (try dsimp only at hSw); go_simp <;> (with_reducible rfl))
      try simp only [Act.put, List.setIfInBounds_toArray, List.set_cons_zero, List.set_cons_succ]
      refine held_take 2 (some 21) (v := ?va2) rfl rfl (by kernel_rfl) (by kernel_rfl) (by kernel_rfl) (fun _ _ _ h => h) (by rfl) ?ya2 (by assumption) ?_
      case ya2 => ((intro w hSw); (try dsimp only at hSw); go_simp <;> (with_reducible rfl))
      try simp only [Act.put, List.setIfInBounds_toArray, List.set_cons_zero, List.set_cons_succ]
      refine held_take 3 (some 22) (v := ?va3) rfl rfl (by kernel_rfl) (by kernel_rfl) (by kernel_rfl) (fun _ _ _ h => h) (by rfl) ?ya3 (by assumption) ?_
      case ya3 => ((intro w hSw); (try dsimp only at hSw); go_simp <;> (with_reducible rfl))
      try simp only [Act.put, List.setIfInBounds_toArray, List.set_cons_zero, List.set_cons_succ]
      refine held_take 4 (some 23) (v := ?va4) rfl rfl (by kernel_rfl) (by kernel_rfl) (by kernel_rfl) (fun _ _ _ h => h) (by rfl) ?ya4 (by assumption) ?_
      case ya4 => ((intro w hSw); (try dsimp only at hSw); go_simp <;> (with_reducible rfl))
      try simp only [Act.put, List.setIfInBounds_toArray, List.set_cons_zero, List.set_cons_succ]
      refine held_take 6 (some 25) (v := ?va6) rfl rfl (by kernel_rfl) (by kernel_rfl) (by kernel_rfl) (fun _ _ _ h => h) (by rfl) ?ya6 (by assumption) ?_
      case ya6 => ((intro w hSw); (try dsimp only at hSw); go_simp <;> (with_reducible rfl))
      try simp only [Act.put, List.setIfInBounds_toArray, List.set_cons_zero, List.set_cons_succ]
      refine held_take 7 (some 26) (v := ?va7) rfl rfl (by kernel_rfl) (by kernel_rfl) (by kernel_rfl) (fun _ _ _ h => h) (by rfl) ?ya7 (by assumption) ?_
      case ya7 => ((intro w hSw); (try dsimp only at hSw); go_simp <;> (with_reducible rfl))
      try simp only [Act.put, List.setIfInBounds_toArray, List.set_cons_zero, List.set_cons_succ]
      refine held_take 8 (some 27) (v := ?va8) rfl rfl (by kernel_rfl) (by kernel_rfl) (by kernel_rfl) (fun _ _ _ h => h) (by rfl) ?ya8 (by assumption) ?_
      case ya8 => ((intro w hSw); (try dsimp only at hSw); go_simp <;> (with_reducible rfl))
      try simp only [Act.put, List.setIfInBounds_toArray, List.set_cons_zero, List.set_cons_succ]
      refine held_take 9 (some 28) (v := ?va9) rfl rfl (by kernel_rfl) (by kernel_rfl) (by kernel_rfl) (fun _ _ _ h => h) (by rfl) ?ya9 (by assumption) ?_
      case ya9 => ((intro w hSw); (try dsimp only at hSw); go_simp <;> (with_reducible rfl))
      try simp only [Act.put, List.setIfInBounds_toArray, List.set_cons_zero, List.set_cons_succ]
      refine held_take 10 (some 29) (v := ?va10) rfl rfl (by kernel_rfl) (by kernel_rfl) (by kernel_rfl) (fun _ _ _ h => h) (by rfl) ?ya10 (by assumption) ?_
      case ya10 => ((intro w hSw); (try dsimp only at hSw); go_simp <;> (with_reducible rfl))
      try simp only [Act.put, List.setIfInBounds_toArray, List.set_cons_zero, List.set_cons_succ]
      refine held_take 11 (some 30) (v := ?va11) rfl rfl (by kernel_rfl) (by kernel_rfl) (by kernel_rfl) (fun _ _ _ h => h) (by rfl) ?ya11 (by assumption) ?_
      case ya11 => ((intro w hSw); (try dsimp only at hSw); go_simp <;> (with_reducible rfl))
      try simp only [Act.put, List.setIfInBounds_toArray, List.set_cons_zero, List.set_cons_succ]
      refine held_take 12 (some 31) (v := ?va12) rfl rfl (by kernel_rfl) (by kernel_rfl) (by kernel_rfl) (fun _ _ _ h => h) (by rfl) ?ya12 (by assumption) ?_
      case ya12 => ((intro w hSw); (try dsimp only at hSw); go_simp <;> (with_reducible rfl))
      try simp only [Act.put, List.setIfInBounds_toArray, List.set_cons_zero, List.set_cons_succ]
      refine held_take 13 (some 32) (v := ?va13) rfl rfl (by kernel_rfl) (by kernel_rfl) (by kernel_rfl) (fun _ _ _ h => h) (by rfl) ?ya13 (by assumption) ?_
      case ya13 => ((intro w hSw); (try dsimp only at hSw); go_simp <;> (with_reducible rfl))
      try simp only [Act.put, List.setIfInBounds_toArray, List.set_cons_zero, List.set_cons_succ]
      refine wpAnyH_ready (rs := [5]) (by kernel_rfl) (by simp) ?_
      refine AllReadyH.cons rfl (fun K hK => ?_) AllReadyH.nil
      go_simp
      refine (IHL.out pl _ HLD.out (by have := HSZ.out; omega)).mono ?_
      rintro e w4 ⟨⟨p4, rfl, ht4⟩, hb4⟩
      have K4 := cells6_below (by assumption) hb4
      have HT4 := Aside0.mk ht4
      have HR4 := Aside0.mk (HRD.out.below hb4)
      have HB4 := Aside0.mk (HBD.out.trans (hb4.mono HBD.out.size))
      clear ht4 hb4
      refine hK.out _ _ ?hSa6 (fun hHeld => ?_)
      case hSa6 => first | assumption | go_keep
      clear hK K
      try simp only [Act.put, List.setIfInBounds_toArray, List.set_cons_zero, List.set_cons_succ]
      refine wpAnyH_ready (rs := [14]) (by kernel_rfl) (by simp) ?_
      refine AllReadyH.cons rfl (fun K hK => ?_) AllReadyH.nil
      go_simp
      refine (even_any p4 (withT k v l) k1 v1 pr r _ HT4.out HR4.out (by have := HSZ.out; have := HZL.out; omega)).mono ?_
      rintro e w5 ⟨⟨p5, rfl, ht5⟩, hb5⟩
      have K5 := cells6_below (by assumption) hb5
      have HT5 := Aside0.mk ht5
      have HB5 := Aside0.mk (HB4.out.trans (hb5.mono HB4.out.size))
      clear ht5 hb5
      refine hK.out _ _ ?hSa15 (fun hHeld => ?_)
      case hSa15 => first | assumption | go_keep
      clear hK K
      try simp only [Act.put, List.setIfInBounds_toArray, List.set_cons_zero, List.set_cons_succ]
      refine held_take 15 (some 4) (v := ?va15) rfl rfl (by kernel_rfl) (by kernel_rfl) (by kernel_rfl) (fun _ _ _ h => h) (by rfl) ?ya15 (by assumption) ?_
      case ya15 => ((intro w hSw); (try dsimp only at hSw); go_simp <;> (with_reducible rfl))
      try simp only [Act.put, List.setIfInBounds_toArray, List.set_cons_zero, List.set_cons_succ]
      refine wpAnyH_done (by kernel_rfl) ?_ _
      go_wp2
      go_ret
      exact ⟨⟨_, rfl, by rw [HEV.out]; exact HT5.out⟩, HB5.out⟩
    · go_wp2_with fail
      have c0 := blk_cell HX1.out 0
      have d0 := (node_cells HG1.out).1
      go_quiet (fail)
      have HB2 := Aside0.mk (below_drewN HB1.out nq)
      have HX2 := Aside0.mk (show (w1.drewN nq).heap[w.heap.size]? = _ from HX1.out)
      have HG2 := Aside0.mk (show (w1.drewN nq).heap[g]? = _ from HG1.out)
      have HL2 := Aside0.mk (HL1.out.drewN nq)
      have HR2 := Aside0.mk (HR1.out.drewN nq)
      clear c0 d0 HB1 HX1 HG1 HL1 HR1
      generalize w1.drewN nq = w2 at *
      by_cases c2 : k1 < k
      · have HEV := Aside0.mk (show withT k v (.node l k1 v1 r) = evenT l k1 v1 (withT k v r) from by rw [withT, if_neg (show ¬ k < k1 by omega), if_pos (show k > k1 by omega)])
        go_wp2_with fail
        have hN : w2.cell? ⟨g, 0, none⟩ = some (.int .u64 k1) ∧ w2.cell? ⟨g, 1, none⟩ = some (.int .i64 v1) ∧ w2.cell? ⟨g, 2, none⟩ = some (.pointer pl) ∧ w2.cell? ⟨g, 3, none⟩ = some (.pointer pr) ∧ w2.cell? ⟨w.heap.size, 0, none⟩ = some (.int .u64 k) ∧ w2.cell? ⟨w.heap.size, 1, none⟩ = some (.int .i64 v) :=
          ⟨(node_cells HG2.out).1, (node_cells HG2.out).2.1, (node_cells HG2.out).2.2.1, (node_cells HG2.out).2.2.2, blk_cell HX2.out 0, blk_cell HX2.out 1⟩
        have HLD := Aside0.mk (HL2.out.below (below_drew (Below.refl _ w2)))
        have HRD := Aside0.mk (HR2.out.below (below_drew (Below.refl _ w2)))
        have HBD := Aside0.mk (HB2.out.trans ((below_drew (Below.refl _ w2)).mono HB2.out.size))
        clear HB2 HX2 HG2 HL2 HR2
        refine wp_region_held_drew (S := (fun w' => w'.cell? ⟨g, 0, none⟩ = some (.int .u64 k1) ∧ w'.cell? ⟨g, 1, none⟩ = some (.int .i64 v1) ∧ w'.cell? ⟨g, 2, none⟩ = some (.pointer pl) ∧ w'.cell? ⟨g, 3, none⟩ = some (.pointer pr) ∧ w'.cell? ⟨w.heap.size, 0, none⟩ = some (.int .u64 k) ∧ w'.cell? ⟨w.heap.size, 1, none⟩ = some (.int .i64 v))) (by kernel_rfl) ?hSb0 (fun hHeld => ?_)
        case hSb0 => first | assumption | go_keep
        refine held_take 0 (some 43) (v := ?vb0) rfl rfl (by kernel_rfl) (by kernel_rfl) (by kernel_rfl) (fun _ _ _ h => h) (by rfl) ?yb0 (by assumption) ?_
        case yb0 => ((intro w hSw); (try dsimp only at hSw); go_simp <;> (with_reducible rfl))
        try simp only [Act.put, List.setIfInBounds_toArray, List.set_cons_zero, List.set_cons_succ]
        refine held_take 1 (some 44) (v := ?vb1) rfl rfl (by kernel_rfl) (by kernel_rfl) (by kernel_rfl) (fun _ _ _ h => h) (by rfl) ?yb1 (by assumption) ?_
        case yb1 => ((intro w hSw); (try dsimp only at hSw); go_simp <;> (with_reducible rfl))
        try simp only [Act.put, List.setIfInBounds_toArray, List.set_cons_zero, List.set_cons_succ]
        refine held_take 2 (some 45) (v := ?vb2) rfl rfl (by kernel_rfl) (by kernel_rfl) (by kernel_rfl) (fun _ _ _ h => h) (by rfl) ?yb2 (by assumption) ?_
        case yb2 => ((intro w hSw); (try dsimp only at hSw); go_simp <;> (with_reducible rfl))
        try simp only [Act.put, List.setIfInBounds_toArray, List.set_cons_zero, List.set_cons_succ]
        refine held_take 3 (some 46) (v := ?vb3) rfl rfl (by kernel_rfl) (by kernel_rfl) (by kernel_rfl) (fun _ _ _ h => h) (by rfl) ?yb3 (by assumption) ?_
        case yb3 => ((intro w hSw); (try dsimp only at hSw); go_simp <;> (with_reducible rfl))
        try simp only [Act.put, List.setIfInBounds_toArray, List.set_cons_zero, List.set_cons_succ]
        refine held_take 4 (some 47) (v := ?vb4) rfl rfl (by kernel_rfl) (by kernel_rfl) (by kernel_rfl) (fun _ _ _ h => h) (by rfl) ?yb4 (by assumption) ?_
        case yb4 => ((intro w hSw); (try dsimp only at hSw); go_simp <;> (with_reducible rfl))
        try simp only [Act.put, List.setIfInBounds_toArray, List.set_cons_zero, List.set_cons_succ]
        refine held_take 5 (some 48) (v := ?vb5) rfl rfl (by kernel_rfl) (by kernel_rfl) (by kernel_rfl) (fun _ _ _ h => h) (by rfl) ?yb5 (by assumption) ?_
        case yb5 => ((intro w hSw); (try dsimp only at hSw); go_simp <;> (with_reducible rfl))
        try simp only [Act.put, List.setIfInBounds_toArray, List.set_cons_zero, List.set_cons_succ]
        refine held_take 6 (some 49) (v := ?vb6) rfl rfl (by kernel_rfl) (by kernel_rfl) (by kernel_rfl) (fun _ _ _ h => h) (by rfl) ?yb6 (by assumption) ?_
        case yb6 => ((intro w hSw); (try dsimp only at hSw); go_simp <;> (with_reducible rfl))
        try simp only [Act.put, List.setIfInBounds_toArray, List.set_cons_zero, List.set_cons_succ]
        refine held_take 7 (some 50) (v := ?vb7) rfl rfl (by kernel_rfl) (by kernel_rfl) (by kernel_rfl) (fun _ _ _ h => h) (by rfl) ?yb7 (by assumption) ?_
        case yb7 => ((intro w hSw); (try dsimp only at hSw); go_simp <;> (with_reducible rfl))
        try simp only [Act.put, List.setIfInBounds_toArray, List.set_cons_zero, List.set_cons_succ]
        refine held_take 8 (some 51) (v := ?vb8) rfl rfl (by kernel_rfl) (by kernel_rfl) (by kernel_rfl) (fun _ _ _ h => h) (by rfl) ?yb8 (by assumption) ?_
        case yb8 => ((intro w hSw); (try dsimp only at hSw); go_simp <;> (with_reducible rfl))
        try simp only [Act.put, List.setIfInBounds_toArray, List.set_cons_zero, List.set_cons_succ]
        refine held_take 9 (some 52) (v := ?vb9) rfl rfl (by kernel_rfl) (by kernel_rfl) (by kernel_rfl) (fun _ _ _ h => h) (by rfl) ?yb9 (by assumption) ?_
        case yb9 => ((intro w hSw); (try dsimp only at hSw); go_simp <;> (with_reducible rfl))
        try simp only [Act.put, List.setIfInBounds_toArray, List.set_cons_zero, List.set_cons_succ]
        refine held_take 10 (some 53) (v := ?vb10) rfl rfl (by kernel_rfl) (by kernel_rfl) (by kernel_rfl) (fun _ _ _ h => h) (by rfl) ?yb10 (by assumption) ?_
        case yb10 => ((intro w hSw); (try dsimp only at hSw); go_simp <;> (with_reducible rfl))
        try simp only [Act.put, List.setIfInBounds_toArray, List.set_cons_zero, List.set_cons_succ]
        refine held_take 11 (some 54) (v := ?vb11) rfl rfl (by kernel_rfl) (by kernel_rfl) (by kernel_rfl) (fun _ _ _ h => h) (by rfl) ?yb11 (by assumption) ?_
        case yb11 => ((intro w hSw); (try dsimp only at hSw); go_simp <;> (with_reducible rfl))
        try simp only [Act.put, List.setIfInBounds_toArray, List.set_cons_zero, List.set_cons_succ]
        refine held_take 12 (some 55) (v := ?vb12) rfl rfl (by kernel_rfl) (by kernel_rfl) (by kernel_rfl) (fun _ _ _ h => h) (by rfl) ?yb12 (by assumption) ?_
        case yb12 => ((intro w hSw); (try dsimp only at hSw); go_simp <;> (with_reducible rfl))
        try simp only [Act.put, List.setIfInBounds_toArray, List.set_cons_zero, List.set_cons_succ]
        refine wpAnyH_ready (rs := [13]) (by kernel_rfl) (by simp) ?_
        refine AllReadyH.cons rfl (fun K hK => ?_) AllReadyH.nil
        go_simp
        refine (IHR.out pr _ HRD.out (by have := HSZ.out; omega)).mono ?_
        rintro e w4 ⟨⟨p4, rfl, ht4⟩, hb4⟩
        have K4 := cells6_below (by assumption) hb4
        have HT4 := Aside0.mk ht4
        have HL4 := Aside0.mk (HLD.out.below hb4)
        have HB4 := Aside0.mk (HBD.out.trans (hb4.mono HBD.out.size))
        clear ht4 hb4
        refine hK.out _ _ ?hSb14 (fun hHeld => ?_)
        case hSb14 => first | assumption | go_keep
        clear hK K
        try simp only [Act.put, List.setIfInBounds_toArray, List.set_cons_zero, List.set_cons_succ]
        refine wpAnyH_ready (rs := [14]) (by kernel_rfl) (by simp) ?_
        refine AllReadyH.cons rfl (fun K hK => ?_) AllReadyH.nil
        go_simp
        refine (even_any pl l k1 v1 p4 (withT k v r) _ HL4.out HT4.out (by have := HSZ.out; have := HZR.out; omega)).mono ?_
        rintro e w5 ⟨⟨p5, rfl, ht5⟩, hb5⟩
        have K5 := cells6_below (by assumption) hb5
        have HT5 := Aside0.mk ht5
        have HB5 := Aside0.mk (HB4.out.trans (hb5.mono HB4.out.size))
        clear ht5 hb5
        refine hK.out _ _ ?hSb15 (fun hHeld => ?_)
        case hSb15 => first | assumption | go_keep
        clear hK K
        try simp only [Act.put, List.setIfInBounds_toArray, List.set_cons_zero, List.set_cons_succ]
        refine held_take 15 (some 4) (v := ?vb15) rfl rfl (by kernel_rfl) (by kernel_rfl) (by kernel_rfl) (fun _ _ _ h => h) (by rfl) ?yb15 (by assumption) ?_
        case yb15 => ((intro w hSw); (try dsimp only at hSw); go_simp <;> (with_reducible rfl))
        try simp only [Act.put, List.setIfInBounds_toArray, List.set_cons_zero, List.set_cons_succ]
        refine wpAnyH_done (by kernel_rfl) ?_ _
        go_wp2
        go_ret
        exact ⟨⟨_, rfl, by rw [HEV.out]; exact HT5.out⟩, HB5.out⟩
      · have HEV := Aside0.mk (show withT k v (.node l k1 v1 r) = .node l k v r from by rw [withT, if_neg (show ¬ k < k1 by omega), if_neg (show ¬ k > k1 by omega)])
        go_wp2_with fail
        have hN : w2.cell? ⟨g, 0, none⟩ = some (.int .u64 k1) ∧ w2.cell? ⟨g, 1, none⟩ = some (.int .i64 v1) ∧ w2.cell? ⟨g, 2, none⟩ = some (.pointer pl) ∧ w2.cell? ⟨g, 3, none⟩ = some (.pointer pr) ∧ w2.cell? ⟨w.heap.size, 0, none⟩ = some (.int .u64 k) ∧ w2.cell? ⟨w.heap.size, 1, none⟩ = some (.int .i64 v) :=
          ⟨(node_cells HG2.out).1, (node_cells HG2.out).2.1, (node_cells HG2.out).2.2.1, (node_cells HG2.out).2.2.2, blk_cell HX2.out 0, blk_cell HX2.out 1⟩
        have HLD := Aside0.mk (HL2.out.below (below_drew (Below.refl _ w2)))
        have HRD := Aside0.mk (HR2.out.below (below_drew (Below.refl _ w2)))
        have HBD := Aside0.mk (HB2.out.trans ((below_drew (Below.refl _ w2)).mono HB2.out.size))
        clear HB2 HX2 HG2 HL2 HR2
        refine wp_region_held_drew (S := (fun w' => w'.cell? ⟨g, 0, none⟩ = some (.int .u64 k1) ∧ w'.cell? ⟨g, 1, none⟩ = some (.int .i64 v1) ∧ w'.cell? ⟨g, 2, none⟩ = some (.pointer pl) ∧ w'.cell? ⟨g, 3, none⟩ = some (.pointer pr) ∧ w'.cell? ⟨w.heap.size, 0, none⟩ = some (.int .u64 k) ∧ w'.cell? ⟨w.heap.size, 1, none⟩ = some (.int .i64 v))) (by kernel_rfl) ?hSc0 (fun hHeld => ?_)
        case hSc0 => first | assumption | go_keep
        refine held_take 0 (some 58) (v := ?vc0) rfl rfl (by kernel_rfl) (by kernel_rfl) (by kernel_rfl) (fun _ _ _ h => h) (by rfl) ?yc0 (by assumption) ?_
        case yc0 => ((intro w hSw); (try dsimp only at hSw); go_simp <;> (with_reducible rfl))
        try simp only [Act.put, List.setIfInBounds_toArray, List.set_cons_zero, List.set_cons_succ]
        refine held_take 1 (some 59) (v := ?vc1) rfl rfl (by kernel_rfl) (by kernel_rfl) (by kernel_rfl) (fun _ _ _ h => h) (by rfl) ?yc1 (by assumption) ?_
        case yc1 => ((intro w hSw); (try dsimp only at hSw); go_simp <;> (with_reducible rfl))
        try simp only [Act.put, List.setIfInBounds_toArray, List.set_cons_zero, List.set_cons_succ]
        refine held_take 2 (some 60) (v := ?vc2) rfl rfl (by kernel_rfl) (by kernel_rfl) (by kernel_rfl) (fun _ _ _ h => h) (by rfl) ?yc2 (by assumption) ?_
        case yc2 => ((intro w hSw); (try dsimp only at hSw); go_simp <;> (with_reducible rfl))
        try simp only [Act.put, List.setIfInBounds_toArray, List.set_cons_zero, List.set_cons_succ]
        refine held_take 3 (some 61) (v := ?vc3) rfl rfl (by kernel_rfl) (by kernel_rfl) (by kernel_rfl) (fun _ _ _ h => h) (by rfl) ?yc3 (by assumption) ?_
        case yc3 => ((intro w hSw); (try dsimp only at hSw); go_simp <;> (with_reducible rfl))
        try simp only [Act.put, List.setIfInBounds_toArray, List.set_cons_zero, List.set_cons_succ]
        refine held_take 4 (some 62) (v := ?vc4) rfl rfl (by kernel_rfl) (by kernel_rfl) (by kernel_rfl) (fun _ _ _ h => h) (by rfl) ?yc4 (by assumption) ?_
        case yc4 => ((intro w hSw); (try dsimp only at hSw); go_simp <;> (with_reducible rfl))
        try simp only [Act.put, List.setIfInBounds_toArray, List.set_cons_zero, List.set_cons_succ]
        refine held_take 5 (some 63) (v := ?vc5) rfl rfl (by kernel_rfl) (by kernel_rfl) (by kernel_rfl) (fun _ _ _ h => h) (by rfl) ?yc5 (by assumption) ?_
        case yc5 => ((intro w hSw); (try dsimp only at hSw); go_simp <;> (with_reducible rfl))
        try simp only [Act.put, List.setIfInBounds_toArray, List.set_cons_zero, List.set_cons_succ]
        refine held_take 6 (some 64) (v := ?vc6) rfl rfl (by kernel_rfl) (by kernel_rfl) (by kernel_rfl) (fun _ _ _ h => h) (by rfl) ?yc6 (by assumption) ?_
        case yc6 => ((intro w hSw); (try dsimp only at hSw); go_simp <;> (with_reducible rfl))
        try simp only [Act.put, List.setIfInBounds_toArray, List.set_cons_zero, List.set_cons_succ]
        refine held_take 7 (some 65) (v := ?vc7) rfl rfl (by kernel_rfl) (by kernel_rfl) (by kernel_rfl) (fun _ _ _ h => h) (by rfl) ?yc7 (by assumption) ?_
        case yc7 => ((intro w hSw); (try dsimp only at hSw); go_simp <;> (with_reducible rfl))
        try simp only [Act.put, List.setIfInBounds_toArray, List.set_cons_zero, List.set_cons_succ]
        refine held_take 8 (some 66) (v := ?vc8) rfl rfl (by kernel_rfl) (by kernel_rfl) (by kernel_rfl) (fun _ _ _ h => h) (by rfl) ?yc8 (by assumption) ?_
        case yc8 => ((intro w hSw); (try dsimp only at hSw); go_simp <;> (with_reducible rfl))
        try simp only [Act.put, List.setIfInBounds_toArray, List.set_cons_zero, List.set_cons_succ]
        refine wpAnyH_ready (rs := [9]) (by kernel_rfl) (by simp) ?_
        refine AllReadyH.cons rfl (fun K hK => ?_) AllReadyH.nil
        go_simp
        refine (made_any pl l k v pr r _ HLD.out HRD.out (by have := HSZ.out; omega)).mono ?_
        rintro e w4 ⟨⟨p4, rfl, ht4⟩, hb4⟩
        have K4 := cells6_below (by assumption) hb4
        have HT4 := Aside0.mk ht4
        have HB4 := Aside0.mk (HBD.out.trans (hb4.mono HBD.out.size))
        clear ht4 hb4
        refine hK.out _ _ ?hSc10 (fun hHeld => ?_)
        case hSc10 => first | assumption | go_keep
        clear hK K
        try simp only [Act.put, List.setIfInBounds_toArray, List.set_cons_zero, List.set_cons_succ]
        refine held_take 10 (some 4) (v := ?vc10) rfl rfl (by kernel_rfl) (by kernel_rfl) (by kernel_rfl) (fun _ _ _ h => h) (by rfl) ?yc10 (by assumption) ?_
        case yc10 => ((intro w hSw); (try dsimp only at hSw); go_simp <;> (with_reducible rfl))
        try simp only [Act.put, List.setIfInBounds_toArray, List.set_cons_zero, List.set_cons_succ]
        refine wpAnyH_done (by kernel_rfl) ?_ _
        go_wp2
        go_ret
        exact ⟨⟨_, rfl, by rw [HEV.out]; exact HT4.out⟩, HB4.out⟩
end Go.Proofs.Ytbiccahkniadfaa.H
/-! ### Tree4 -/
namespace Go.Proofs.Ytbiccahkniadfaa.H
open Go.RowKit Go.Proofs.Ytbiccahkniadfaa.P Go.Proofs.YtbiccahkniadfaaW.PrintWords Go.Proofs.YtbiccahkniadfaaW.PrintLast Go.Proofs.YtbiccahkniadfaaW.PrintMore
set_option linter.unusedVariables false
set_option linter.unusedSimpArgs false
/-- The least pair, and the tree without it. -/
def leastT : T → (Int × Int) × T
  | .leaf => ((0, 0), .leaf)
  | .node .leaf k v r => ((k, v), r)
  | .node (.node ll lk lv lr) k v r => ((leastT (.node ll lk lv lr)).1, evenT (leastT (.node ll lk lv lr)).2 k v r)
theorem sz_least : ∀ t : T, sz (leastT t).2 ≤ sz t
  | .leaf => by simp [leastT]
  | .node .leaf k v r => by simp only [leastT, sz]; omega
  | .node (.node ll lk lv lr) k v r => by
    have h := sz_least (.node ll lk lv lr)
    rw [leastT, sz_even]
    simp only [sz] at h ⊢
    omega
theorem far2 {w : World} {g h i : Nat} {v u u' : Value} (hne : ¬ g = h) (hc : w.cell? ⟨g, i, none⟩ = some v) : ((w.setCell ⟨h, 0, none⟩ u).setCell ⟨h, 1, none⟩ u').cell? ⟨g, i, none⟩ = some v := by
  rw [World.cell?_of_block (w := w.setCell ⟨h, 0, none⟩ u) (Below.heap_setCell _ _ _ _ hne), World.cell?_of_block (w := w) (Below.heap_setCell _ _ _ _ hne)]
  exact hc
/-- A pair's block may be written: no tree lies in it. -/
theorem TreeAt.far {W : World} {h j : Nat} {u : Value} {cs : Array Value} (hh : W.heap[h]? = some (.cells cs 45 (0, 0))) : ∀ {t : T} {p : Option Addr}, TreeAt W p t → TreeAt (W.setCell ⟨h, j, none⟩ u) p t
  | .leaf, _, h1 => h1
  | .node l k v r, _, ⟨g, pl, pr, h1, h2, h3, h4⟩ => by
    have hne : g ≠ h := by
      rintro rfl
      rw [hh] at h2
      injection h2 with h2
      injection h2 with _ h2
      exact absurd h2 (by decide)
    exact ⟨g, pl, pr, h1, (Below.heap_setCell W ⟨h, j, none⟩ u g hne).trans h2, TreeAt.far hh h3, TreeAt.far hh h4⟩
set_option maxRecDepth 20000 in
set_option maxHeartbeats 4000000 in
theorem least_any (t : T) : ∀ (l : T) (k v : Int) (r : T), t = .node l k v r → ∀ (p : Option Addr) (w : World), TreeAt w p t → sz t ≤ 40000 →
    Calls Try.prog 40 #[.pointer p] w fun e w' => (∃ q, e = .returned (.tuple #[.agg #[.int .u64 (leastT t).1.1, .int .i64 (leastT t).1.2], .pointer q]) ∧ TreeAt w' q (leastT t).2) ∧ Below w.heap.size w w' := by
  induction t with
  | leaf =>
    intro l k v r e
    cases e
  | node l k v r ihl ihr =>
    intro _ _ _ _ _ p w h hs
    obtain ⟨g, pl, pr, rfl, hg, hl, hr⟩ := h
    have HSZ := Aside0.mk (show sz l + sz r + 1 ≤ 40000 by simp only [sz] at hs; omega)
    have HB0 := Aside0.mk ((Below.refl w.heap.size w).alloc (Nat.le_refl _) (.cells #[.int .u64 0, .int .i64 0] 45))
    have HX0 := Aside0.mk (blk_new w (.cells #[.int .u64 0, .int .i64 0] 45))
    have HG0 := Aside0.mk (blk_below hg HB0.out)
    have HL0 := Aside0.mk (hl.below HB0.out)
    have HR0 := Aside0.mk (hr.below HB0.out)
    have HRW := Aside0.mk hr
    have HGH := Aside0.mk (blk_lt hg)
    have IHL := Aside0.mk ihl
    have c2 := blk_cell HG0.out 2
    clear hg hl hr hs ihl ihr
    go_enter Try.func40, Try.ntmps40
    cases l with
    | leaf =>
      obtain rfl : pl = none := HL0.out
      go_wp2_with fail
      generalize hw0 : (w.alloc (.cells #[.int .u64 0, .int .i64 0] 45)) = w0 at *
      have HW0 := Aside0.mk hw0
      clear hw0
      have hN : w0.cell? ⟨g, 0, none⟩ = some (.int .u64 k) ∧ w0.cell? ⟨g, 1, none⟩ = some (.int .i64 v) ∧ w0.cell? ⟨g, 2, none⟩ = some (.pointer none) ∧ w0.cell? ⟨g, 3, none⟩ = some (.pointer pr) := node_cells HG0.out
      have k0 : w0.cell? ⟨w.heap.size, 0, none⟩ = some (.int .u64 0) := blk_cell HX0.out 0
      have k1 : w0.cell? ⟨w.heap.size, 1, none⟩ = some (.int .i64 0) := blk_cell HX0.out 1
      have f0 : w0.frozen? ⟨w.heap.size, 0, none⟩ = false := blk_frozen HX0.out 0
      have f1 : w0.frozen? ⟨w.heap.size, 1, none⟩ = false := blk_frozen HX0.out 1
      have hne : ¬ g = w.heap.size := by have := HGH.out; omega
      refine wp_region_held_drew (S := (fun w' => w'.cell? ⟨g, 0, none⟩ = some (.int .u64 k) ∧ w'.cell? ⟨g, 1, none⟩ = some (.int .i64 v) ∧ w'.cell? ⟨g, 2, none⟩ = some (.pointer none) ∧ w'.cell? ⟨g, 3, none⟩ = some (.pointer pr))) (by kernel_rfl) ?hSa0 (fun hHeld => ?_)
      case hSa0 => first | assumption | exact ⟨far2 hne hN.1, far2 hne hN.2.1, far2 hne hN.2.2.1, far2 hne hN.2.2.2⟩ | go_keep
      refine held_take 0 (some 11) (v := ?va0) rfl rfl (by kernel_rfl) (by kernel_rfl) (by kernel_rfl) (fun _ _ _ h => h) (by rfl) ?ya0 (by assumption) ?_
      case ya0 => ((intro w hSw); (try dsimp only at hSw); go_simp <;> (with_reducible rfl))
      try simp only [Act.put, List.setIfInBounds_toArray, List.set_cons_zero, List.set_cons_succ]
      refine held_take 1 (some 12) (v := ?va1) rfl rfl (by kernel_rfl) (by kernel_rfl) (by kernel_rfl) (fun _ _ _ h => h) (by rfl) ?ya1 (by assumption) ?_
      case ya1 => ((intro w hSw); (try dsimp only at hSw); go_simp <;> (with_reducible rfl))
      try simp only [Act.put, List.setIfInBounds_toArray, List.set_cons_zero, List.set_cons_succ]
      refine held_take 2 (some 13) (v := ?va2) rfl rfl (by kernel_rfl) (by kernel_rfl) (by kernel_rfl) (fun _ _ _ h => h) (by rfl) ?ya2 (by assumption) ?_
      case ya2 => ((intro w hSw); (try dsimp only at hSw); go_simp <;> (with_reducible rfl))
      try simp only [Act.put, List.setIfInBounds_toArray, List.set_cons_zero, List.set_cons_succ]
      refine held_take 3 (some 14) (v := ?va3) rfl rfl (by kernel_rfl) (by kernel_rfl) (by kernel_rfl) (fun _ _ _ h => h) (by rfl) ?ya3 (by assumption) ?_
      case ya3 => ((intro w hSw); (try dsimp only at hSw); go_simp <;> (with_reducible rfl))
      try simp only [Act.put, List.setIfInBounds_toArray, List.set_cons_zero, List.set_cons_succ]
      refine held_take 4 (some 15) (v := ?va4) rfl rfl (by kernel_rfl) (by kernel_rfl) (by kernel_rfl) (fun _ _ _ h => h) (by rfl) ?ya4 (by assumption) ?_
      case ya4 => ((intro w hSw); (try dsimp only at hSw); go_simp <;> (with_reducible rfl))
      try simp only [Act.put, List.setIfInBounds_toArray, List.set_cons_zero, List.set_cons_succ]
      refine held_take 5 (some 16) (v := ?va5) rfl rfl (by kernel_rfl) (by kernel_rfl) (by kernel_rfl) (fun _ _ _ h => h) (by rfl) ?ya5 (by assumption) ?_
      case ya5 => ((intro w hSw); (try dsimp only at hSw); go_simp <;> (with_reducible rfl))
      try simp only [Act.put, List.setIfInBounds_toArray, List.set_cons_zero, List.set_cons_succ]
      refine held_take 6 (some 17) (v := ?va6) rfl rfl (by kernel_rfl) (by kernel_rfl) (by kernel_rfl) (fun _ _ _ h => h) (by rfl) ?ya6 (by assumption) ?_
      case ya6 => ((intro w hSw); (try dsimp only at hSw); go_simp <;> (with_reducible rfl))
      try simp only [Act.put, List.setIfInBounds_toArray, List.set_cons_zero, List.set_cons_succ]
      refine held_take 7 (some 18) (v := ?va7) rfl rfl (by kernel_rfl) (by kernel_rfl) (by kernel_rfl) (fun _ _ _ h => h) (by rfl) ?ya7 (by assumption) ?_
      case ya7 => ((intro w hSw); (try dsimp only at hSw); go_simp <;> (with_reducible rfl))
      try simp only [Act.put, List.setIfInBounds_toArray, List.set_cons_zero, List.set_cons_succ]
      refine wpAnyH_ready (rs := [8]) (by kernel_rfl) (by simp) ?_
      refine AllReadyH.cons rfl (fun K hK => ?_) AllReadyH.nil
      go_simp
      refine hK.out _ _ ?hSa9 (fun hHeld => ?_)
      case hSa9 => first | assumption | exact ⟨far2 hne hN.1, far2 hne hN.2.1, far2 hne hN.2.2.1, far2 hne hN.2.2.2⟩ | go_keep
      clear hK K
      try simp only [Act.put, List.setIfInBounds_toArray, List.set_cons_zero, List.set_cons_succ]
      refine held_take 9 (some 3) (v := ?va9) rfl rfl (by kernel_rfl) (by kernel_rfl) (by kernel_rfl) (fun _ _ _ h => h) (by rfl) ?ya9 (by assumption) ?_
      case ya9 => ((intro w hSw); (try dsimp only at hSw); go_simp <;> (with_reducible rfl))
      try simp only [Act.put, List.setIfInBounds_toArray, List.set_cons_zero, List.set_cons_succ]
      refine wpAnyH_done (by kernel_rfl) ?_ _
      have HBS := Aside0.mk ((HB0.out.setCell (p := ⟨w.heap.size, 0, none⟩) (Nat.le_refl _) (.int .u64 k)).setCell (p := ⟨w.heap.size, 1, none⟩) (Nat.le_refl _) (.int .i64 v))
      have m1 := blk_set (blk_set HX0.out 0 (.int .u64 k)) 1 (.int .i64 v)
      have m2 := blk_cell m1 0
      have m3 := blk_cell m1 1
      have HRS := Aside0.mk (HRW.out.below HBS.out)
      generalize (w0.setCell ⟨w.heap.size, 0, none⟩ (Value.int .u64 k)).setCell ⟨w.heap.size, 1, none⟩ (Value.int .i64 v) = wd at *
      go_wp2
      exact bodyPost_ret (v := .tuple #[.agg #[.int .u64 k, .int .i64 v], .pointer pr]) (by simp [results, Try.results40, go_sem, m2, m3]) rfl ⟨⟨pr, rfl, HRS.out.below (below_drew (Below.refl _ _))⟩, HBS.out.trans ((below_drew (Below.refl _ _)).mono HBS.out.size)⟩
    | node ll lk lv lr =>
      obtain ⟨gl, pll, plr, rfl, hgl, hll, hlr⟩ := id HL0.out
      have HLEQ := Aside0.mk (show leastT (.node (.node ll lk lv lr) k v r) = ((leastT (.node ll lk lv lr)).1, evenT (leastT (.node ll lk lv lr)).2 k v r) from rfl)
      have HZ := Aside0.mk (sz_least (.node ll lk lv lr))
      clear hgl hll hlr
      generalize leastT (.node (.node ll lk lv lr) k v r) = res at *
      generalize hlt : T.node ll lk lv lr = l at *
      have HLT := Aside0.mk hlt
      clear hlt
      go_wp2_with fail
      generalize (w.alloc (.cells #[.int .u64 0, .int .i64 0] 45)) = w0 at *
      refine (IHL.out _ _ _ _ HLT.out.symm _ w0 HL0.out (by have := HSZ.out; omega)).mono ?_
      rintro e w1 ⟨⟨q1, rfl, hq1⟩, hb1⟩
      generalize hlr2 : leastT l = lres at *
      obtain ⟨⟨x0, x1⟩, lt⟩ := lres
      simp only [] at HLEQ HZ hq1 ⊢
      have HB1 := Aside0.mk (HB0.out.trans (hb1.mono HB0.out.size))
      have HX1 := Aside0.mk (blk_below HX0.out hb1)
      have HG1 := Aside0.mk (blk_below HG0.out hb1)
      have HR1 := Aside0.mk (HR0.out.below hb1)
      have HQ1 := Aside0.mk hq1
      clear hq1 hb1 hlr2 HB0 HX0 HG0 HR0 HL0 c2
      go_wp2_with fail

      generalize hbx2 : (w1.alloc (.cells #[.int .u64 x0, .int .i64 x1] 45)) = w2 at *
      have hb2 : Below w1.heap.size w1 w2 := by rw [← hbx2]; exact (Below.refl w1.heap.size w1).alloc (Nat.le_refl _) _
      have HX2 := Aside0.mk (show w2.heap[w1.heap.size]? = some (.cells #[.int .u64 x0, .int .i64 x1] 45 (0, 0)) from by rw [← hbx2]; exact blk_new w1 _)
      have HB2 := Aside0.mk (HB1.out.trans (hb2.mono HB1.out.size))
      have HO2 := Aside0.mk (blk_below HX1.out hb2)
      have HG2 := Aside0.mk (blk_below HG1.out hb2)
      have HR2 := Aside0.mk (HR1.out.below hb2)
      have HQ2 := Aside0.mk (HQ1.out.below hb2)
      have HLT2 := Aside0.mk (And.intro (blk_lt HX1.out) HB1.out.size)
      have HW12 := Aside0.mk hb2
      have HRW1 := Aside0.mk (Nat.le_refl w.heap.size)
      clear hb2 hbx2 HB1 HX1 HG1 HR1 HQ1
      have hN : w2.cell? ⟨g, 0, none⟩ = some (.int .u64 k) ∧ w2.cell? ⟨g, 1, none⟩ = some (.int .i64 v) ∧ w2.cell? ⟨g, 2, none⟩ = some (.pointer (some ⟨gl, 0, none⟩)) ∧ w2.cell? ⟨g, 3, none⟩ = some (.pointer pr) ∧ w2.cell? ⟨w1.heap.size, 0, none⟩ = some (.int .u64 x0) ∧ w2.cell? ⟨w1.heap.size, 1, none⟩ = some (.int .i64 x1) :=
        ⟨(node_cells HG2.out).1, (node_cells HG2.out).2.1, (node_cells HG2.out).2.2.1, (node_cells HG2.out).2.2.2, blk_cell HX2.out 0, blk_cell HX2.out 1⟩
      have HQD := Aside0.mk (HQ2.out.below (below_drew (Below.refl _ w2)))
      have HRD := Aside0.mk (HR2.out.below (below_drew (Below.refl _ w2)))
      have HBD := Aside0.mk (HB2.out.trans ((below_drew (Below.refl _ w2)).mono HB2.out.size))
      have HOD := Aside0.mk (show w2.drew.heap[w.heap.size]? = _ from HO2.out)
      have hne : ¬ g = w.heap.size := by have := HGH.out; omega
      have hne2 : ¬ w1.heap.size = w.heap.size := by have := HLT2.out.1; omega
      refine wp_region_held_drew (S := (fun w' => w'.cell? ⟨g, 0, none⟩ = some (.int .u64 k) ∧ w'.cell? ⟨g, 1, none⟩ = some (.int .i64 v) ∧ w'.cell? ⟨g, 2, none⟩ = some (.pointer (some ⟨gl, 0, none⟩)) ∧ w'.cell? ⟨g, 3, none⟩ = some (.pointer pr) ∧ w'.cell? ⟨w1.heap.size, 0, none⟩ = some (.int .u64 x0) ∧ w'.cell? ⟨w1.heap.size, 1, none⟩ = some (.int .i64 x1))) (by kernel_rfl) ?hSb0 (fun hHeld => ?_)
      case hSb0 => first | assumption | exact ⟨far2 hne K5.1, far2 hne K5.2.1, far2 hne K5.2.2.1, far2 hne K5.2.2.2.1, far2 hne2 K5.2.2.2.2.1, far2 hne2 K5.2.2.2.2.2⟩ | go_keep
      refine held_take 0 (some 27) (v := ?vb0) rfl rfl (by kernel_rfl) (by kernel_rfl) (by kernel_rfl) (fun _ _ _ h => h) (by rfl) ?yb0 (by assumption) ?_
      case yb0 => ((intro w hSw); (try dsimp only at hSw); go_simp <;> (with_reducible rfl))
      try simp only [Act.put, List.setIfInBounds_toArray, List.set_cons_zero, List.set_cons_succ]
      refine held_take 1 (some 28) (v := ?vb1) rfl rfl (by kernel_rfl) (by kernel_rfl) (by kernel_rfl) (fun _ _ _ h => h) (by rfl) ?yb1 (by assumption) ?_
      case yb1 => ((intro w hSw); (try dsimp only at hSw); go_simp <;> (with_reducible rfl))
      try simp only [Act.put, List.setIfInBounds_toArray, List.set_cons_zero, List.set_cons_succ]
      refine held_take 2 (some 29) (v := ?vb2) rfl rfl (by kernel_rfl) (by kernel_rfl) (by kernel_rfl) (fun _ _ _ h => h) (by rfl) ?yb2 (by assumption) ?_
      case yb2 => ((intro w hSw); (try dsimp only at hSw); go_simp <;> (with_reducible rfl))
      try simp only [Act.put, List.setIfInBounds_toArray, List.set_cons_zero, List.set_cons_succ]
      refine held_take 3 (some 30) (v := ?vb3) rfl rfl (by kernel_rfl) (by kernel_rfl) (by kernel_rfl) (fun _ _ _ h => h) (by rfl) ?yb3 (by assumption) ?_
      case yb3 => ((intro w hSw); (try dsimp only at hSw); go_simp <;> (with_reducible rfl))
      try simp only [Act.put, List.setIfInBounds_toArray, List.set_cons_zero, List.set_cons_succ]
      refine held_take 4 (some 31) (v := ?vb4) rfl rfl (by kernel_rfl) (by kernel_rfl) (by kernel_rfl) (fun _ _ _ h => h) (by rfl) ?yb4 (by assumption) ?_
      case yb4 => ((intro w hSw); (try dsimp only at hSw); go_simp <;> (with_reducible rfl))
      try simp only [Act.put, List.setIfInBounds_toArray, List.set_cons_zero, List.set_cons_succ]
      refine held_take 5 (some 32) (v := ?vb5) rfl rfl (by kernel_rfl) (by kernel_rfl) (by kernel_rfl) (fun _ _ _ h => h) (by rfl) ?yb5 (by assumption) ?_
      case yb5 => ((intro w hSw); (try dsimp only at hSw); go_simp <;> (with_reducible rfl))
      try simp only [Act.put, List.setIfInBounds_toArray, List.set_cons_zero, List.set_cons_succ]
      refine held_take 6 (some 33) (v := ?vb6) rfl rfl (by kernel_rfl) (by kernel_rfl) (by kernel_rfl) (fun _ _ _ h => h) (by rfl) ?yb6 (by assumption) ?_
      case yb6 => ((intro w hSw); (try dsimp only at hSw); go_simp <;> (with_reducible rfl))
      try simp only [Act.put, List.setIfInBounds_toArray, List.set_cons_zero, List.set_cons_succ]
      refine held_take 7 (some 34) (v := ?vb7) rfl rfl (by kernel_rfl) (by kernel_rfl) (by kernel_rfl) (fun _ _ _ h => h) (by rfl) ?yb7 (by assumption) ?_
      case yb7 => ((intro w hSw); (try dsimp only at hSw); go_simp <;> (with_reducible rfl))
      try simp only [Act.put, List.setIfInBounds_toArray, List.set_cons_zero, List.set_cons_succ]
      refine held_take 8 (some 35) (v := ?vb8) rfl rfl (by kernel_rfl) (by kernel_rfl) (by kernel_rfl) (fun _ _ _ h => h) (by rfl) ?yb8 (by assumption) ?_
      case yb8 => ((intro w hSw); (try dsimp only at hSw); go_simp <;> (with_reducible rfl))
      try simp only [Act.put, List.setIfInBounds_toArray, List.set_cons_zero, List.set_cons_succ]
      refine held_take 9 (some 36) (v := ?vb9) rfl rfl (by kernel_rfl) (by kernel_rfl) (by kernel_rfl) (fun _ _ _ h => h) (by rfl) ?yb9 (by assumption) ?_
      case yb9 => ((intro w hSw); (try dsimp only at hSw); go_simp <;> (with_reducible rfl))
      try simp only [Act.put, List.setIfInBounds_toArray, List.set_cons_zero, List.set_cons_succ]
      refine wpAnyH_ready (rs := [10]) (by kernel_rfl) (by simp) ?_
      refine AllReadyH.cons rfl (fun K hK => ?_) AllReadyH.nil
      go_simp
      refine (even_any q1 lt k v pr r _ HQD.out HRD.out (by have := HSZ.out; have := HZ.out; omega)).mono ?_
      rintro e w5 ⟨⟨p5, rfl, ht5⟩, hb5⟩
      have K5 := cells6_below (by assumption) hb5
      have HT5 := Aside0.mk ht5
      have HO5 := Aside0.mk (blk_below HOD.out hb5)
      have k0 := blk_cell HO5.out 0
      have k1 := blk_cell HO5.out 1
      have f0 := blk_frozen HO5.out 0
      have f1 := blk_frozen HO5.out 1
      have HB5 := Aside0.mk (HBD.out.trans (hb5.mono HBD.out.size))
      clear ht5 hb5
      refine hK.out _ _ ?hSb11 (fun hHeld => ?_)
      case hSb11 => first | assumption | exact ⟨far2 hne K5.1, far2 hne K5.2.1, far2 hne K5.2.2.1, far2 hne K5.2.2.2.1, far2 hne2 K5.2.2.2.2.1, far2 hne2 K5.2.2.2.2.2⟩ | go_keep
      clear hK K
      try simp only [Act.put, List.setIfInBounds_toArray, List.set_cons_zero, List.set_cons_succ]
      refine wpAnyH_ready (rs := [11]) (by kernel_rfl) (by simp) ?_
      refine AllReadyH.cons rfl (fun K hK => ?_) AllReadyH.nil
      go_simp
      refine hK.out _ _ ?hSb12 (fun hHeld => ?_)
      case hSb12 => first | assumption | exact ⟨far2 hne K5.1, far2 hne K5.2.1, far2 hne K5.2.2.1, far2 hne K5.2.2.2.1, far2 hne2 K5.2.2.2.2.1, far2 hne2 K5.2.2.2.2.2⟩ | go_keep
      clear hK K
      try simp only [Act.put, List.setIfInBounds_toArray, List.set_cons_zero, List.set_cons_succ]
      refine held_take 12 (some 3) (v := ?vb12) rfl rfl (by kernel_rfl) (by kernel_rfl) (by kernel_rfl) (fun _ _ _ h => h) (by rfl) ?yb12 (by assumption) ?_
      case yb12 => ((intro w hSw); (try dsimp only at hSw); go_simp <;> (with_reducible rfl))
      try simp only [Act.put, List.setIfInBounds_toArray, List.set_cons_zero, List.set_cons_succ]
      refine wpAnyH_done (by kernel_rfl) ?_ _
      have HFT := Aside0.mk ((HT5.out.far HO5.out (j := 0) (u := .int .u64 x0)).far (blk_set HO5.out 0 (.int .u64 x0)) (j := 1) (u := .int .i64 x1))
      have HBS := Aside0.mk ((HB5.out.setCell (p := ⟨w.heap.size, 0, none⟩) (Nat.le_refl _) (.int .u64 x0)).setCell (p := ⟨w.heap.size, 1, none⟩) (Nat.le_refl _) (.int .i64 x1))
      have m1 := blk_set (blk_set HO5.out 0 (.int .u64 x0)) 1 (.int .i64 x1)
      have m2 := blk_cell m1 0
      have m3 := blk_cell m1 1
      generalize (w5.setCell ⟨w.heap.size, 0, none⟩ (Value.int .u64 x0)).setCell ⟨w.heap.size, 1, none⟩ (Value.int .i64 x1) = wd at *
      go_wp2
      exact bodyPost_ret (v := .tuple #[.agg #[.int .u64 x0, .int .i64 x1], .pointer p5]) (by simp [results, Try.results40, go_sem, m2, m3]) rfl ⟨⟨p5, by rw [HLEQ.out], by rw [HLEQ.out]; exact HFT.out⟩, HBS.out⟩
end Go.Proofs.Ytbiccahkniadfaa.H
/-! ### Tree5 -/
namespace Go.Proofs.Ytbiccahkniadfaa.H
open Go.RowKit Go.Proofs.Ytbiccahkniadfaa.P Go.Proofs.YtbiccahkniadfaaW.PrintWords Go.Proofs.YtbiccahkniadfaaW.PrintLast Go.Proofs.YtbiccahkniadfaaW.PrintMore
set_option linter.unusedVariables false
set_option linter.unusedSimpArgs false
def hasT (k : Int) : T → Bool
  | .leaf => false
  | .node l k1 _ r => if k < k1 then hasT k l else if k > k1 then hasT k r else true
def withoutT (k : Int) : T → T
  | .leaf => .leaf
  | .node l k1 v1 r => if k < k1 then evenT (withoutT k l) k1 v1 r else if k > k1 then evenT l k1 v1 (withoutT k r) else
      match r with
      | .leaf => l
      | .node rl rk rv rr => evenT l (leastT (.node rl rk rv rr)).1.1 (leastT (.node rl rk rv rr)).1.2 (leastT (.node rl rk rv rr)).2
theorem sz_without (k : Int) : ∀ t : T, sz (withoutT k t) ≤ sz t
  | .leaf => Nat.le_refl _
  | .node l k1 v1 r => by
    have h1 := sz_without k l
    have h2 := sz_without k r
    unfold withoutT
    split
    · rw [sz_even]; simp only [sz]; omega
    · split
      · rw [sz_even]; simp only [sz]; omega
      · cases r with
        | leaf => simp only [sz]; omega
        | node rl rk rv rr =>
          have h3 := sz_least (.node rl rk rv rr)
          simp only []
          rw [sz_even]
          simp only [sz] at h3 ⊢
          omega
set_option maxRecDepth 20000 in
set_option maxHeartbeats 4000000 in
theorem without_any (k : Int) (t : T) : ∀ (p : Option Addr) (w : World), TreeAt w p t → sz t ≤ 40000 → hasT k t = true →
    Calls Try.prog 29 #[.pointer p, .int .u64 k] w fun e w' => (∃ q, e = .returned (.pointer q) ∧ TreeAt w' q (withoutT k t)) ∧ Below w.heap.size w w' := by
  induction t with
  | leaf =>
    intro p w h hs hh
    cases hh
  | node l k1 v1 r ihl ihr =>
    intro p w h hs hh
    obtain ⟨g, pl, pr, rfl, hg, hl, hr⟩ := h
    have HG0 := Aside0.mk hg
    have HL0 := Aside0.mk hl
    have HR0 := Aside0.mk hr
    have HSZ := Aside0.mk (show sz l + sz r + 1 ≤ 40000 by simp only [sz] at hs; omega)
    have IHL := Aside0.mk ihl
    have IHR := Aside0.mk ihr
    have HZL := Aside0.mk (sz_without k l)
    have HZR := Aside0.mk (sz_without k r)
    have hN : w.cell? ⟨g, 0, none⟩ = some (.int .u64 k1) ∧ w.cell? ⟨g, 1, none⟩ = some (.int .i64 v1) ∧ w.cell? ⟨g, 2, none⟩ = some (.pointer pl) ∧ w.cell? ⟨g, 3, none⟩ = some (.pointer pr) := node_cells hg
    have HLD := Aside0.mk (hl.below (below_drew (Below.refl _ w)))
    have HRD := Aside0.mk (hr.below (below_drew (Below.refl _ w)))
    have HBD := Aside0.mk (below_drew (Below.refl w.heap.size w))
    have hh' := hh
    unfold hasT at hh'
    have HH := Aside0.mk hh'
    have d0 := hN.1
    have d3 := hN.2.2.2
    have d2 := hN.2.2.1
    clear hg hl hr hs ihl ihr hh hh'
    go_enter Try.func29, Try.ntmps29
    by_cases c1 : k < k1
    · have HHL := Aside0.mk (show hasT k l = true from by have := HH.out; rwa [if_pos c1] at this)
      have HEV := Aside0.mk (show withoutT k (.node l k1 v1 r) = evenT (withoutT k l) k1 v1 r from by conv => lhs; unfold withoutT; rw [if_pos c1])
      go_wp2_with fail
      refine wp_region_held_drew (S := (fun w' => w'.cell? ⟨g, 0, none⟩ = some (.int .u64 k1) ∧ w'.cell? ⟨g, 1, none⟩ = some (.int .i64 v1) ∧ w'.cell? ⟨g, 2, none⟩ = some (.pointer pl) ∧ w'.cell? ⟨g, 3, none⟩ = some (.pointer pr))) (by kernel_rfl) ?hSa0 (fun hHeld => ?_)
      case hSa0 => first | assumption | go_keep
      refine held_take 0 (some 15) (v := ?va0) rfl rfl (by kernel_rfl) (by kernel_rfl) (by kernel_rfl) (fun _ _ _ h => h) (by rfl) ?ya0 (by assumption) ?_
      case ya0 => ((intro w hSw); (try dsimp only at hSw); go_simp <;> (with_reducible rfl))
      try simp only [Act.put, List.setIfInBounds_toArray, List.set_cons_zero, List.set_cons_succ]
      refine held_take 1 (some 16) (v := ?va1) rfl rfl (by kernel_rfl) (by kernel_rfl) (by kernel_rfl) (fun _ _ _ h => h) (by rfl) ?ya1 (by assumption) ?_
      case ya1 => ((intro w hSw); (try dsimp only at hSw); go_simp <;> (with_reducible rfl))
      try simp only [Act.put, List.setIfInBounds_toArray, List.set_cons_zero, List.set_cons_succ]
      refine held_take 2 (some 17) (v := ?va2) rfl rfl (by kernel_rfl) (by kernel_rfl) (by kernel_rfl) (fun _ _ _ h => h) (by rfl) ?ya2 (by assumption) ?_
      case ya2 => ((intro w hSw); (try dsimp only at hSw); go_simp <;> (with_reducible rfl))
      try simp only [Act.put, List.setIfInBounds_toArray, List.set_cons_zero, List.set_cons_succ]
      refine held_take 3 (some 18) (v := ?va3) rfl rfl (by kernel_rfl) (by kernel_rfl) (by kernel_rfl) (fun _ _ _ h => h) (by rfl) ?ya3 (by assumption) ?_
      case ya3 => ((intro w hSw); (try dsimp only at hSw); go_simp <;> (with_reducible rfl))
      try simp only [Act.put, List.setIfInBounds_toArray, List.set_cons_zero, List.set_cons_succ]
      refine held_take 4 (some 19) (v := ?va4) rfl rfl (by kernel_rfl) (by kernel_rfl) (by kernel_rfl) (fun _ _ _ h => h) (by rfl) ?ya4 (by assumption) ?_
      case ya4 => ((intro w hSw); (try dsimp only at hSw); go_simp <;> (with_reducible rfl))
      try simp only [Act.put, List.setIfInBounds_toArray, List.set_cons_zero, List.set_cons_succ]
      refine held_take 6 (some 21) (v := ?va6) rfl rfl (by kernel_rfl) (by kernel_rfl) (by kernel_rfl) (fun _ _ _ h => h) (by rfl) ?ya6 (by assumption) ?_
      case ya6 => ((intro w hSw); (try dsimp only at hSw); go_simp <;> (with_reducible rfl))
      try simp only [Act.put, List.setIfInBounds_toArray, List.set_cons_zero, List.set_cons_succ]
      refine held_take 7 (some 22) (v := ?va7) rfl rfl (by kernel_rfl) (by kernel_rfl) (by kernel_rfl) (fun _ _ _ h => h) (by rfl) ?ya7 (by assumption) ?_
      case ya7 => ((intro w hSw); (try dsimp only at hSw); go_simp <;> (with_reducible rfl))
      try simp only [Act.put, List.setIfInBounds_toArray, List.set_cons_zero, List.set_cons_succ]
      refine held_take 8 (some 23) (v := ?va8) rfl rfl (by kernel_rfl) (by kernel_rfl) (by kernel_rfl) (fun _ _ _ h => h) (by rfl) ?ya8 (by assumption) ?_
      case ya8 => ((intro w hSw); (try dsimp only at hSw); go_simp <;> (with_reducible rfl))
      try simp only [Act.put, List.setIfInBounds_toArray, List.set_cons_zero, List.set_cons_succ]
      refine held_take 9 (some 24) (v := ?va9) rfl rfl (by kernel_rfl) (by kernel_rfl) (by kernel_rfl) (fun _ _ _ h => h) (by rfl) ?ya9 (by assumption) ?_
      case ya9 => ((intro w hSw); (try dsimp only at hSw); go_simp <;> (with_reducible rfl))
      try simp only [Act.put, List.setIfInBounds_toArray, List.set_cons_zero, List.set_cons_succ]
      refine held_take 10 (some 25) (v := ?va10) rfl rfl (by kernel_rfl) (by kernel_rfl) (by kernel_rfl) (fun _ _ _ h => h) (by rfl) ?ya10 (by assumption) ?_
      case ya10 => ((intro w hSw); (try dsimp only at hSw); go_simp <;> (with_reducible rfl))
      try simp only [Act.put, List.setIfInBounds_toArray, List.set_cons_zero, List.set_cons_succ]
      refine held_take 11 (some 26) (v := ?va11) rfl rfl (by kernel_rfl) (by kernel_rfl) (by kernel_rfl) (fun _ _ _ h => h) (by rfl) ?ya11 (by assumption) ?_
      case ya11 => ((intro w hSw); (try dsimp only at hSw); go_simp <;> (with_reducible rfl))
      try simp only [Act.put, List.setIfInBounds_toArray, List.set_cons_zero, List.set_cons_succ]
      refine held_take 12 (some 27) (v := ?va12) rfl rfl (by kernel_rfl) (by kernel_rfl) (by kernel_rfl) (fun _ _ _ h => h) (by rfl) ?ya12 (by assumption) ?_
      case ya12 => ((intro w hSw); (try dsimp only at hSw); go_simp <;> (with_reducible rfl))
      try simp only [Act.put, List.setIfInBounds_toArray, List.set_cons_zero, List.set_cons_succ]
      refine held_take 13 (some 28) (v := ?va13) rfl rfl (by kernel_rfl) (by kernel_rfl) (by kernel_rfl) (fun _ _ _ h => h) (by rfl) ?ya13 (by assumption) ?_
      case ya13 => ((intro w hSw); (try dsimp only at hSw); go_simp <;> (with_reducible rfl))
      try simp only [Act.put, List.setIfInBounds_toArray, List.set_cons_zero, List.set_cons_succ]
      refine wpAnyH_ready (rs := [5]) (by kernel_rfl) (by simp) ?_
      refine AllReadyH.cons rfl (fun K hK => ?_) AllReadyH.nil
      go_simp
      refine (IHL.out pl _ HLD.out (by have := HSZ.out; omega) HHL.out).mono ?_
      rintro e w4 ⟨⟨p4, rfl, ht4⟩, hb4⟩
      have K4 := cells4_below (by assumption) hb4
      have HT4 := Aside0.mk ht4
      have HR4 := Aside0.mk (HRD.out.below hb4)
      have HB4 := Aside0.mk (HBD.out.trans (hb4.mono HBD.out.size))
      clear ht4 hb4
      refine hK.out _ _ ?hSa6 (fun hHeld => ?_)
      case hSa6 => first | assumption | go_keep
      clear hK K
      try simp only [Act.put, List.setIfInBounds_toArray, List.set_cons_zero, List.set_cons_succ]
      refine wpAnyH_ready (rs := [14]) (by kernel_rfl) (by simp) ?_
      refine AllReadyH.cons rfl (fun K hK => ?_) AllReadyH.nil
      go_simp
      refine (even_any p4 (withoutT k l) k1 v1 pr r _ HT4.out HR4.out (by have := HSZ.out; have := HZL.out; omega)).mono ?_
      rintro e w5 ⟨⟨p5, rfl, ht5⟩, hb5⟩
      have K5 := cells4_below (by assumption) hb5
      have HT5 := Aside0.mk ht5
      have HB5 := Aside0.mk (HB4.out.trans (hb5.mono HB4.out.size))
      clear ht5 hb5
      refine hK.out _ _ ?hSa15 (fun hHeld => ?_)
      case hSa15 => first | assumption | go_keep
      clear hK K
      try simp only [Act.put, List.setIfInBounds_toArray, List.set_cons_zero, List.set_cons_succ]
      refine held_take 15 (some 4) (v := ?va15) rfl rfl (by kernel_rfl) (by kernel_rfl) (by kernel_rfl) (fun _ _ _ h => h) (by rfl) ?ya15 (by assumption) ?_
      case ya15 => ((intro w hSw); (try dsimp only at hSw); go_simp <;> (with_reducible rfl))
      try simp only [Act.put, List.setIfInBounds_toArray, List.set_cons_zero, List.set_cons_succ]
      refine wpAnyH_done (by kernel_rfl) ?_ _
      go_wp2
      go_ret
      exact ⟨⟨_, rfl, by rw [HEV.out]; exact HT5.out⟩, HB5.out⟩
    · by_cases c2 : k1 < k
      · have HHR := Aside0.mk (show hasT k r = true from by have := HH.out; rwa [if_neg c1, if_pos (show k > k1 from c2)] at this)
        have HEV := Aside0.mk (show withoutT k (.node l k1 v1 r) = evenT l k1 v1 (withoutT k r) from by conv => lhs; unfold withoutT; rw [if_neg c1, if_pos (show k > k1 from c2)])
        go_wp2_with fail
        refine wp_region_held_drew (S := (fun w' => w'.cell? ⟨g, 0, none⟩ = some (.int .u64 k1) ∧ w'.cell? ⟨g, 1, none⟩ = some (.int .i64 v1) ∧ w'.cell? ⟨g, 2, none⟩ = some (.pointer pl) ∧ w'.cell? ⟨g, 3, none⟩ = some (.pointer pr))) (by kernel_rfl) ?hSb0 (fun hHeld => ?_)
        case hSb0 => first | assumption | go_keep
        refine held_take 0 (some 38) (v := ?vb0) rfl rfl (by kernel_rfl) (by kernel_rfl) (by kernel_rfl) (fun _ _ _ h => h) (by rfl) ?yb0 (by assumption) ?_
        case yb0 => ((intro w hSw); (try dsimp only at hSw); go_simp <;> (with_reducible rfl))
        try simp only [Act.put, List.setIfInBounds_toArray, List.set_cons_zero, List.set_cons_succ]
        refine held_take 1 (some 39) (v := ?vb1) rfl rfl (by kernel_rfl) (by kernel_rfl) (by kernel_rfl) (fun _ _ _ h => h) (by rfl) ?yb1 (by assumption) ?_
        case yb1 => ((intro w hSw); (try dsimp only at hSw); go_simp <;> (with_reducible rfl))
        try simp only [Act.put, List.setIfInBounds_toArray, List.set_cons_zero, List.set_cons_succ]
        refine held_take 2 (some 40) (v := ?vb2) rfl rfl (by kernel_rfl) (by kernel_rfl) (by kernel_rfl) (fun _ _ _ h => h) (by rfl) ?yb2 (by assumption) ?_
        case yb2 => ((intro w hSw); (try dsimp only at hSw); go_simp <;> (with_reducible rfl))
        try simp only [Act.put, List.setIfInBounds_toArray, List.set_cons_zero, List.set_cons_succ]
        refine held_take 3 (some 41) (v := ?vb3) rfl rfl (by kernel_rfl) (by kernel_rfl) (by kernel_rfl) (fun _ _ _ h => h) (by rfl) ?yb3 (by assumption) ?_
        case yb3 => ((intro w hSw); (try dsimp only at hSw); go_simp <;> (with_reducible rfl))
        try simp only [Act.put, List.setIfInBounds_toArray, List.set_cons_zero, List.set_cons_succ]
        refine held_take 4 (some 42) (v := ?vb4) rfl rfl (by kernel_rfl) (by kernel_rfl) (by kernel_rfl) (fun _ _ _ h => h) (by rfl) ?yb4 (by assumption) ?_
        case yb4 => ((intro w hSw); (try dsimp only at hSw); go_simp <;> (with_reducible rfl))
        try simp only [Act.put, List.setIfInBounds_toArray, List.set_cons_zero, List.set_cons_succ]
        refine held_take 5 (some 43) (v := ?vb5) rfl rfl (by kernel_rfl) (by kernel_rfl) (by kernel_rfl) (fun _ _ _ h => h) (by rfl) ?yb5 (by assumption) ?_
        case yb5 => ((intro w hSw); (try dsimp only at hSw); go_simp <;> (with_reducible rfl))
        try simp only [Act.put, List.setIfInBounds_toArray, List.set_cons_zero, List.set_cons_succ]
        refine held_take 6 (some 44) (v := ?vb6) rfl rfl (by kernel_rfl) (by kernel_rfl) (by kernel_rfl) (fun _ _ _ h => h) (by rfl) ?yb6 (by assumption) ?_
        case yb6 => ((intro w hSw); (try dsimp only at hSw); go_simp <;> (with_reducible rfl))
        try simp only [Act.put, List.setIfInBounds_toArray, List.set_cons_zero, List.set_cons_succ]
        refine held_take 7 (some 45) (v := ?vb7) rfl rfl (by kernel_rfl) (by kernel_rfl) (by kernel_rfl) (fun _ _ _ h => h) (by rfl) ?yb7 (by assumption) ?_
        case yb7 => ((intro w hSw); (try dsimp only at hSw); go_simp <;> (with_reducible rfl))
        try simp only [Act.put, List.setIfInBounds_toArray, List.set_cons_zero, List.set_cons_succ]
        refine held_take 8 (some 46) (v := ?vb8) rfl rfl (by kernel_rfl) (by kernel_rfl) (by kernel_rfl) (fun _ _ _ h => h) (by rfl) ?yb8 (by assumption) ?_
        case yb8 => ((intro w hSw); (try dsimp only at hSw); go_simp <;> (with_reducible rfl))
        try simp only [Act.put, List.setIfInBounds_toArray, List.set_cons_zero, List.set_cons_succ]
        refine held_take 9 (some 47) (v := ?vb9) rfl rfl (by kernel_rfl) (by kernel_rfl) (by kernel_rfl) (fun _ _ _ h => h) (by rfl) ?yb9 (by assumption) ?_
        case yb9 => ((intro w hSw); (try dsimp only at hSw); go_simp <;> (with_reducible rfl))
        try simp only [Act.put, List.setIfInBounds_toArray, List.set_cons_zero, List.set_cons_succ]
        refine held_take 10 (some 48) (v := ?vb10) rfl rfl (by kernel_rfl) (by kernel_rfl) (by kernel_rfl) (fun _ _ _ h => h) (by rfl) ?yb10 (by assumption) ?_
        case yb10 => ((intro w hSw); (try dsimp only at hSw); go_simp <;> (with_reducible rfl))
        try simp only [Act.put, List.setIfInBounds_toArray, List.set_cons_zero, List.set_cons_succ]
        refine held_take 11 (some 49) (v := ?vb11) rfl rfl (by kernel_rfl) (by kernel_rfl) (by kernel_rfl) (fun _ _ _ h => h) (by rfl) ?yb11 (by assumption) ?_
        case yb11 => ((intro w hSw); (try dsimp only at hSw); go_simp <;> (with_reducible rfl))
        try simp only [Act.put, List.setIfInBounds_toArray, List.set_cons_zero, List.set_cons_succ]
        refine held_take 12 (some 50) (v := ?vb12) rfl rfl (by kernel_rfl) (by kernel_rfl) (by kernel_rfl) (fun _ _ _ h => h) (by rfl) ?yb12 (by assumption) ?_
        case yb12 => ((intro w hSw); (try dsimp only at hSw); go_simp <;> (with_reducible rfl))
        try simp only [Act.put, List.setIfInBounds_toArray, List.set_cons_zero, List.set_cons_succ]
        refine wpAnyH_ready (rs := [13]) (by kernel_rfl) (by simp) ?_
        refine AllReadyH.cons rfl (fun K hK => ?_) AllReadyH.nil
        go_simp
        refine (IHR.out pr _ HRD.out (by have := HSZ.out; omega) HHR.out).mono ?_
        rintro e w4 ⟨⟨p4, rfl, ht4⟩, hb4⟩
        have K4 := cells4_below (by assumption) hb4
        have HT4 := Aside0.mk ht4
        have HL4 := Aside0.mk (HLD.out.below hb4)
        have HB4 := Aside0.mk (HBD.out.trans (hb4.mono HBD.out.size))
        clear ht4 hb4
        refine hK.out _ _ ?hSb14 (fun hHeld => ?_)
        case hSb14 => first | assumption | go_keep
        clear hK K
        try simp only [Act.put, List.setIfInBounds_toArray, List.set_cons_zero, List.set_cons_succ]
        refine wpAnyH_ready (rs := [14]) (by kernel_rfl) (by simp) ?_
        refine AllReadyH.cons rfl (fun K hK => ?_) AllReadyH.nil
        go_simp
        refine (even_any pl l k1 v1 p4 (withoutT k r) _ HL4.out HT4.out (by have := HSZ.out; have := HZR.out; omega)).mono ?_
        rintro e w5 ⟨⟨p5, rfl, ht5⟩, hb5⟩
        have K5 := cells4_below (by assumption) hb5
        have HT5 := Aside0.mk ht5
        have HB5 := Aside0.mk (HB4.out.trans (hb5.mono HB4.out.size))
        clear ht5 hb5
        refine hK.out _ _ ?hSb15 (fun hHeld => ?_)
        case hSb15 => first | assumption | go_keep
        clear hK K
        try simp only [Act.put, List.setIfInBounds_toArray, List.set_cons_zero, List.set_cons_succ]
        refine held_take 15 (some 4) (v := ?vb15) rfl rfl (by kernel_rfl) (by kernel_rfl) (by kernel_rfl) (fun _ _ _ h => h) (by rfl) ?yb15 (by assumption) ?_
        case yb15 => ((intro w hSw); (try dsimp only at hSw); go_simp <;> (with_reducible rfl))
        try simp only [Act.put, List.setIfInBounds_toArray, List.set_cons_zero, List.set_cons_succ]
        refine wpAnyH_done (by kernel_rfl) ?_ _
        go_wp2
        go_ret
        exact ⟨⟨_, rfl, by rw [HEV.out]; exact HT5.out⟩, HB5.out⟩
      · cases r with
        | leaf =>
          obtain rfl : pr = none := HR0.out
          have HEV := Aside0.mk (show withoutT k (.node l k1 v1 .leaf) = l from by unfold withoutT; rw [if_neg c1, if_neg (show ¬ k > k1 from c2)])
          go_wp2_with fail
          go_ret
          exact ⟨⟨_, rfl, by rw [HEV.out]; exact HL0.out⟩, Below.refl _ _⟩
        | node rl rk rv rr =>
          obtain ⟨gr, prl, prr, rfl, _, _, _⟩ := id HR0.out
          have HEV := Aside0.mk (show withoutT k (.node l k1 v1 (.node rl rk rv rr)) = evenT l (leastT (.node rl rk rv rr)).1.1 (leastT (.node rl rk rv rr)).1.2 (leastT (.node rl rk rv rr)).2 from by unfold withoutT; rw [if_neg c1, if_neg (show ¬ k > k1 from c2)])
          have HZ := Aside0.mk (sz_least (.node rl rk rv rr))
          have HLE := Aside0.mk (least_any (.node rl rk rv rr) rl rk rv rr rfl _ w HR0.out (by have := HSZ.out; omega))
          generalize withoutT k (.node l k1 v1 (.node rl rk rv rr)) = res at *
          generalize T.node rl rk rv rr = r at *
          generalize leastT r = lres at *
          obtain ⟨⟨x0, x1⟩, lt⟩ := lres
          simp only [] at HEV HZ HLE
          go_wp2_with fail
          refine HLE.out.mono ?_
          rintro e w1 ⟨⟨q1, rfl, hq1⟩, hb1⟩
          have HB1 := Aside0.mk hb1
          have HG1 := Aside0.mk (blk_below HG0.out hb1)
          have HL1 := Aside0.mk (HL0.out.below hb1)
          have HQ1 := Aside0.mk hq1
          clear hq1 hb1 hN HLD HRD HBD d0 d3 d2 HG0 HL0 HR0
          go_wp2_with fail
          generalize hbx2 : (w1.alloc (.cells #[.int .u64 x0, .int .i64 x1] 45)) = w2 at *
          have hb2 : Below w1.heap.size w1 w2 := by rw [← hbx2]; exact (Below.refl w1.heap.size w1).alloc (Nat.le_refl _) _
          have HX2 := Aside0.mk (show w2.heap[w1.heap.size]? = some (.cells #[.int .u64 x0, .int .i64 x1] 45 (0, 0)) from by rw [← hbx2]; exact blk_new w1 _)
          have HB2 := Aside0.mk (HB1.out.trans (hb2.mono HB1.out.size))
          have HG2 := Aside0.mk (blk_below HG1.out hb2)
          have HLD := Aside0.mk ((HL1.out.below hb2).below (below_drew (Below.refl _ w2)))
          have HQD := Aside0.mk ((HQ1.out.below hb2).below (below_drew (Below.refl _ w2)))
          have HBD := Aside0.mk (HB2.out.trans ((below_drew (Below.refl _ w2)).mono HB2.out.size))
          clear hb2 hbx2 HB1 HG1 HL1 HQ1
          have hN : w2.cell? ⟨g, 0, none⟩ = some (.int .u64 k1) ∧ w2.cell? ⟨g, 1, none⟩ = some (.int .i64 v1) ∧ w2.cell? ⟨g, 2, none⟩ = some (.pointer pl) ∧ w2.cell? ⟨g, 3, none⟩ = some (.pointer (some ⟨gr, 0, none⟩)) ∧ w2.cell? ⟨w1.heap.size, 0, none⟩ = some (.int .u64 x0) ∧ w2.cell? ⟨w1.heap.size, 1, none⟩ = some (.int .i64 x1) :=
            ⟨(node_cells HG2.out).1, (node_cells HG2.out).2.1, (node_cells HG2.out).2.2.1, (node_cells HG2.out).2.2.2, blk_cell HX2.out 0, blk_cell HX2.out 1⟩
          refine wp_region_held_drew (S := (fun w' => w'.cell? ⟨g, 0, none⟩ = some (.int .u64 k1) ∧ w'.cell? ⟨g, 1, none⟩ = some (.int .i64 v1) ∧ w'.cell? ⟨g, 2, none⟩ = some (.pointer pl) ∧ w'.cell? ⟨g, 3, none⟩ = some (.pointer (some ⟨gr, 0, none⟩)) ∧ w'.cell? ⟨w1.heap.size, 0, none⟩ = some (.int .u64 x0) ∧ w'.cell? ⟨w1.heap.size, 1, none⟩ = some (.int .i64 x1))) (by kernel_rfl) ?hSc0 (fun hHeld => ?_)
          case hSc0 => first | assumption | go_keep
          refine held_take 0 (some 71) (v := ?vc0) rfl rfl (by kernel_rfl) (by kernel_rfl) (by kernel_rfl) (fun _ _ _ h => h) (by rfl) ?yc0 (by assumption) ?_
          case yc0 => ((intro w hSw); (try dsimp only at hSw); go_simp <;> (with_reducible rfl))
          try simp only [Act.put, List.setIfInBounds_toArray, List.set_cons_zero, List.set_cons_succ]
          refine held_take 1 (some 72) (v := ?vc1) rfl rfl (by kernel_rfl) (by kernel_rfl) (by kernel_rfl) (fun _ _ _ h => h) (by rfl) ?yc1 (by assumption) ?_
          case yc1 => ((intro w hSw); (try dsimp only at hSw); go_simp <;> (with_reducible rfl))
          try simp only [Act.put, List.setIfInBounds_toArray, List.set_cons_zero, List.set_cons_succ]
          refine held_take 2 (some 73) (v := ?vc2) rfl rfl (by kernel_rfl) (by kernel_rfl) (by kernel_rfl) (fun _ _ _ h => h) (by rfl) ?yc2 (by assumption) ?_
          case yc2 => ((intro w hSw); (try dsimp only at hSw); go_simp <;> (with_reducible rfl))
          try simp only [Act.put, List.setIfInBounds_toArray, List.set_cons_zero, List.set_cons_succ]
          refine held_take 3 (some 74) (v := ?vc3) rfl rfl (by kernel_rfl) (by kernel_rfl) (by kernel_rfl) (fun _ _ _ h => h) (by rfl) ?yc3 (by assumption) ?_
          case yc3 => ((intro w hSw); (try dsimp only at hSw); go_simp <;> (with_reducible rfl))
          try simp only [Act.put, List.setIfInBounds_toArray, List.set_cons_zero, List.set_cons_succ]
          refine held_take 4 (some 75) (v := ?vc4) rfl rfl (by kernel_rfl) (by kernel_rfl) (by kernel_rfl) (fun _ _ _ h => h) (by rfl) ?yc4 (by assumption) ?_
          case yc4 => ((intro w hSw); (try dsimp only at hSw); go_simp <;> (with_reducible rfl))
          try simp only [Act.put, List.setIfInBounds_toArray, List.set_cons_zero, List.set_cons_succ]
          refine held_take 5 (some 76) (v := ?vc5) rfl rfl (by kernel_rfl) (by kernel_rfl) (by kernel_rfl) (fun _ _ _ h => h) (by rfl) ?yc5 (by assumption) ?_
          case yc5 => ((intro w hSw); (try dsimp only at hSw); go_simp <;> (with_reducible rfl))
          try simp only [Act.put, List.setIfInBounds_toArray, List.set_cons_zero, List.set_cons_succ]
          refine wpAnyH_ready (rs := [6]) (by kernel_rfl) (by simp) ?_
          refine AllReadyH.cons rfl (fun K hK => ?_) AllReadyH.nil
          go_simp
          refine (even_any pl l x0 x1 q1 lt _ HLD.out HQD.out (by have := HSZ.out; have := HZ.out; omega)).mono ?_
          rintro e w5 ⟨⟨p5, rfl, ht5⟩, hb5⟩
          have K5 := cells6_below (by assumption) hb5
          have HT5 := Aside0.mk ht5
          have HB5 := Aside0.mk (HBD.out.trans (hb5.mono HBD.out.size))
          clear ht5 hb5
          refine hK.out _ _ ?hSc7 (fun hHeld => ?_)
          case hSc7 => first | assumption | go_keep
          clear hK K
          try simp only [Act.put, List.setIfInBounds_toArray, List.set_cons_zero, List.set_cons_succ]
          refine held_take 7 (some 4) (v := ?vc7) rfl rfl (by kernel_rfl) (by kernel_rfl) (by kernel_rfl) (fun _ _ _ h => h) (by rfl) ?yc7 (by assumption) ?_
          case yc7 => ((intro w hSw); (try dsimp only at hSw); go_simp <;> (with_reducible rfl))
          try simp only [Act.put, List.setIfInBounds_toArray, List.set_cons_zero, List.set_cons_succ]
          refine wpAnyH_done (by kernel_rfl) ?_ _
          go_wp2
          go_ret
          exact ⟨⟨_, rfl, by rw [HEV.out]; exact HT5.out⟩, HB5.out⟩
end Go.Proofs.Ytbiccahkniadfaa.H
/-! ### Tree6 -/
namespace Go.Proofs.Ytbiccahkniadfaa.H
open Go.RowKit Go.Proofs.Ytbiccahkniadfaa.P Go.Proofs.YtbiccahkniadfaaW.PrintWords Go.Proofs.YtbiccahkniadfaaW.PrintLast Go.Proofs.YtbiccahkniadfaaW.PrintMore
set_option linter.unusedVariables false
set_option linter.unusedSimpArgs false
/-- A tree, by its pointer. -/
def RootAt (W : World) (P : Option Addr) (t : T) : Prop := (P = none ∧ t = .leaf) ∨ ∃ g p, P = some ⟨g, 0, none⟩ ∧ W.heap[g]? = some (.cells #[.pointer p] 63 (0, 0)) ∧ TreeAt W p t
theorem RootAt.below {W W' : World} {P : Option Addr} {t : T} (h : RootAt W P t) (hb : Below W.heap.size W W') : RootAt W' P t := by
  rcases h with h | ⟨g, p, h1, h2, h3⟩
  · exact .inl h
  · exact .inr ⟨g, p, h1, blk_below h2 hb, h3.below hb⟩
theorem new_any (w : World) : Calls Try.prog 9 #[] w fun e w' => (∃ g, e = .returned (.pointer (some ⟨g, 0, none⟩)) ∧ RootAt w' (some ⟨g, 0, none⟩) .leaf) ∧ Below w.heap.size w w' := by
  go_enter Try.func9, Try.ntmps9
  go_wp2_with fail
  go_ret
  exact ⟨⟨_, rfl, .inr ⟨_, none, rfl, blk_new w _, rfl⟩⟩, (Below.refl w.heap.size w).alloc (Nat.le_refl _) _⟩
theorem top_any (P : Option Addr) (t : T) (w : World) (h : RootAt w P t) :
    Calls Try.prog 27 #[.pointer P] w fun e w' => (∃ p, e = .returned (.pointer p) ∧ TreeAt w p t) ∧ w' = w := by
  rcases h with ⟨rfl, rfl⟩ | ⟨g, p, rfl, hg, ht⟩
  · go_enter Try.func27, Try.ntmps27
    go_wp2_with fail
    go_ret
    exact ⟨⟨none, rfl, rfl⟩, rfl⟩
  · have c0 := blk_cell hg 0
    have HT := Aside0.mk ht
    clear hg ht
    go_enter Try.func27, Try.ntmps27
    go_wp2_with fail
    go_ret
    exact ⟨⟨p, rfl, HT.out⟩, rfl⟩
theorem len_any (P : Option Addr) (t : T) (w : World) (h : RootAt w P t) :
    Calls Try.prog 14 #[.pointer P] w fun e w' => e = .returned (.int .i64 (sz t : Nat)) ∧ w' = w := by
  have hc := top_any P t w h
  clear h
  go_enter Try.func14, Try.ntmps14
  go_wp2_with fail
  refine hc.mono ?_
  rintro e w' ⟨⟨p, rfl, ht⟩, rfl⟩
  have HT := Aside0.mk ht
  clear ht hc
  go_wp2_with fail
  refine (size_any p t _ HT.out).mono ?_
  rintro e w' ⟨rfl, rfl⟩
  go_wp2_with fail
  go_ret
  exact ⟨rfl, rfl⟩
theorem height_any (P : Option Addr) (t : T) (w : World) (h : RootAt w P t) :
    Calls Try.prog 15 #[.pointer P] w fun e w' => e = .returned (.int .i64 (ht t : Nat)) ∧ w' = w := by
  have hc := top_any P t w h
  clear h
  go_enter Try.func15, Try.ntmps15
  go_wp2_with fail
  refine hc.mono ?_
  rintro e w' ⟨⟨p, rfl, ht⟩, rfl⟩
  have HT := Aside0.mk ht
  clear ht hc
  go_wp2_with fail
  refine (high_any p t _ HT.out).mono ?_
  rintro e w' ⟨rfl, rfl⟩
  go_wp2_with fail
  go_ret
  exact ⟨rfl, rfl⟩
/-- What a key has. -/
def getT (k : Int) : T → Option Int
  | .leaf => none
  | .node l k1 v1 r => if k < k1 then getT k l else if k > k1 then getT k r else some v1
theorem get_has (k : Int) : ∀ t : T, (getT k t).isSome = hasT k t
  | .leaf => rfl
  | .node l k1 v1 r => by
    unfold getT hasT
    split
    · exact get_has k l
    · split
      · exact get_has k r
      · rfl
set_option maxHeartbeats 1600000 in
theorem get_any (P : Option Addr) (k : Int) (t : T) (w : World) (h : RootAt w P t) :
    Calls Try.prog 12 #[.pointer P, .int .u64 k] w fun e w' => e = .returned (.tuple #[.int .i64 ((getT k t).getD 0), .bool (getT k t).isSome]) ∧ w' = w := by
  have hc := top_any P t w h
  clear h
  generalize hres : getT k t = res at *
  have HRES := Aside0.mk hres
  clear hres
  go_enter Try.func12, Try.ntmps12
  go_wp2_with fail
  refine hc.mono ?_
  rintro e w' ⟨⟨p, rfl, ht⟩, rfl⟩
  have HT := Aside0.mk ht
  clear ht hc
  go_wp2_with fail
  go_loopg [7] (sz t) (fun gg s7 wr => ∃ (p1 : Option Addr) (t1 : T), s7 = .pointer p1 ∧ Aside0 (TreeAt w' p1 t1) ∧ Aside0 (sz t1 ≤ gg) ∧ Aside0 (getT k t1 = res) ∧ wr = w')
  case atStart => exact ⟨p, t, rfl, HT, ⟨Nat.le_refl _⟩, HRES, rfl⟩
  case round =>
    obtain ⟨p1, t1, rfl, HT1, HS1, HR1, rfl⟩ := hrel
    cases t1 with
    | leaf =>
      obtain rfl : p1 = none := HT1.out
      have HRE := Aside0.mk (show res = none from HR1.out.symm)
      go_wp2_with fail
      go_ret2
      exact ⟨by rw [HRE.out]; rfl, rfl⟩
    | node l k1 v1 r =>
      obtain ⟨g, pl, pr, rfl, hg, hl, hr⟩ := HT1.out
      have HL := Aside0.mk hl
      have HR := Aside0.mk hr
      have d0 := blk_cell hg 0
      have d1 := blk_cell hg 1
      have d2 := blk_cell hg 2
      have d3 := blk_cell hg 3
      clear hg hl hr
      by_cases c1 : k < k1
      · have HR2 := Aside0.mk (show getT k l = res from by have := HR1.out; rwa [getT, if_pos c1] at this)
        go_wp2_with fail
        go_roundg (sz l)
        case measure => have := HS1.out; simp only [sz] at this; omega
        case rel => exact ⟨pl, l, rfl, HL, ⟨Nat.le_refl _⟩, HR2, rfl⟩
      · by_cases c2 : k1 < k
        · have HR2 := Aside0.mk (show getT k r = res from by have := HR1.out; rwa [getT, if_neg c1, if_pos (show k > k1 from c2)] at this)
          go_wp2_with fail
          go_roundg (sz r)
          case measure => have := HS1.out; simp only [sz] at this; omega
          case rel => exact ⟨pr, r, rfl, HR, ⟨Nat.le_refl _⟩, HR2, rfl⟩
        · have HR2 := Aside0.mk (show some v1 = res from by have := HR1.out; rwa [getT, if_neg c1, if_neg (show ¬ k > k1 from c2)] at this)
          go_wp2_with fail
          go_ret2
          exact ⟨by rw [← HR2.out]; rfl, rfl⟩
end Go.Proofs.Ytbiccahkniadfaa.H
/-! ### Tree7 -/
namespace Go.Proofs.Ytbiccahkniadfaa.H
open Go.RowKit Go.Proofs.Ytbiccahkniadfaa.P Go.Proofs.YtbiccahkniadfaaW.PrintWords Go.Proofs.YtbiccahkniadfaaW.PrintLast Go.Proofs.YtbiccahkniadfaaW.PrintMore
set_option linter.unusedVariables false
set_option linter.unusedSimpArgs false
/-- May no key more be laid? -/
def fullT (k : Int) (t : T) : Bool := !hasT k t && decide (1024 ≤ sz t)
/-- What Put, and Drop, hand back: a tree, or an error. -/
def PutAt (no : Bool) (code : Int) (t : T) (w : World) (e : Ending) (w' : World) : Prop :=
  ((no = true ∧ e = .returned (.tuple #[.pointer none, .int .i64 code])) ∨ (no = false ∧ ∃ g, e = .returned (.tuple #[.pointer (some ⟨g, 0, none⟩), .int .i64 0]) ∧ RootAt w' (some ⟨g, 0, none⟩) t)) ∧ Below w.heap.size w w'
set_option maxRecDepth 20000 in
set_option maxHeartbeats 1600000 in
theorem put_any (P : Option Addr) (k v : Int) (t : T) (w : World) (h : RootAt w P t) (hs : sz t ≤ 40000) :
    Calls Try.prog 10 #[.pointer P, .int .u64 k, .int .i64 v] w fun e w' => PutAt (fullT k t) 41 (withT k v t) w e w' := by
  have HG := Aside0.mk (get_any P k t w h)
  have HLN := Aside0.mk (len_any P t w h)
  have HTP := Aside0.mk (top_any P t w h)
  have HF := Aside0.mk (show fullT k t = (!(getT k t).isSome && decide (1024 ≤ sz t)) from by rw [get_has]; rfl)
  have HSZ := Aside0.mk hs
  clear h hs
  generalize hfu : fullT k t = fu at *
  have HFU := Aside0.mk hfu
  clear hfu
  go_enter Try.func10, Try.ntmps10
  go_wp2_with fail
  have hg := HG.out
  generalize (getT k t).getD 0 = gv at *
  cases hi : (getT k t).isSome with
  | true =>
    rw [hi] at hg
    have HNF := Aside0.mk (show fu = false from by rw [HF.out, hi]; rfl)
    clear hi
    refine hg.mono ?_
    rintro e w1 ⟨rfl, rfl⟩
    clear hg
    go_wp2_with fail
    refine HTP.out.mono ?_
    rintro e w2 ⟨⟨p, rfl, ht⟩, rfl⟩
    have HT := Aside0.mk ht
    clear ht
    go_wp2_with fail
    refine (with_any k v t p _ HT.out HSZ.out).mono ?_
    rintro e w3 ⟨⟨q, rfl, hq⟩, hb⟩
    have HQ := Aside0.mk hq
    have HB := Aside0.mk hb
    clear hq hb
    go_wp2_with fail
    go_ret2
    exact ⟨.inr ⟨HNF.out, w3.heap.size, rfl, .inr ⟨_, q, rfl, blk_new w3 _, HQ.out.below ((Below.refl w3.heap.size w3).alloc (Nat.le_refl _) _)⟩⟩, HB.out.alloc HB.out.size _⟩
  | false =>
    rw [hi] at hg
    refine hg.mono ?_
    rintro e w1 ⟨rfl, rfl⟩
    clear hg
    go_wp2_with fail
    refine HLN.out.mono ?_
    rintro e w2 ⟨rfl, rfl⟩
    have HSZ2 := Aside0.mk HSZ.out
    generalize hsz : sz t = n at HLN HF HSZ ⊢
    by_cases hz : 1024 ≤ n
    · have HNF := Aside0.mk (show fu = true from by rw [HF.out, hi, decide_eq_true hz]; rfl)
      have hz' : (1024 : Int) ≤ (n : Int) := by omega
      clear hi hz hsz
      go_wp2_with fail
      go_ret2
      exact ⟨.inl ⟨HNF.out, rfl⟩, Below.refl _ _⟩
    · have HNF := Aside0.mk (show fu = false from by rw [HF.out, hi, decide_eq_false hz]; rfl)
      have hz' : ¬ (1024 : Int) ≤ (n : Int) := by omega
      clear hi hz hsz
      go_wp2_with fail
      refine HTP.out.mono ?_
      rintro e w2 ⟨⟨p, rfl, ht⟩, rfl⟩
      have HT := Aside0.mk ht
      clear ht
      go_wp2_with fail
      refine (with_any k v t p _ HT.out HSZ2.out).mono ?_
      rintro e w3 ⟨⟨q, rfl, hq⟩, hb⟩
      have HQ := Aside0.mk hq
      have HB := Aside0.mk hb
      clear hq hb
      go_wp2_with fail
      go_ret2
      exact ⟨.inr ⟨HNF.out, w3.heap.size, rfl, .inr ⟨_, q, rfl, blk_new w3 _, HQ.out.below ((Below.refl w3.heap.size w3).alloc (Nat.le_refl _) _)⟩⟩, HB.out.alloc HB.out.size _⟩
set_option maxHeartbeats 1600000 in
theorem drop_any (P : Option Addr) (k : Int) (t : T) (w : World) (h : RootAt w P t) (hs : sz t ≤ 40000) :
    Calls Try.prog 11 #[.pointer P, .int .u64 k] w fun e w' => PutAt (!hasT k t) 42 (withoutT k t) w e w' := by
  have HG := Aside0.mk (get_any P k t w h)
  have HTP := Aside0.mk (top_any P t w h)
  have HF := Aside0.mk (get_has k t)
  have HSZ := Aside0.mk hs
  clear h hs
  go_enter Try.func11, Try.ntmps11
  go_wp2_with fail
  have hg := HG.out
  generalize (getT k t).getD 0 = gv at *
  cases hi : (getT k t).isSome with
  | true =>
    rw [hi] at hg
    have HH := Aside0.mk (show hasT k t = true from by rw [← HF.out]; exact hi)
    clear hi
    refine hg.mono ?_
    rintro e w1 ⟨rfl, rfl⟩
    clear hg
    go_wp2_with fail
    refine HTP.out.mono ?_
    rintro e w2 ⟨⟨p, rfl, ht⟩, rfl⟩
    have HT := Aside0.mk ht
    clear ht
    go_wp2_with fail
    refine (without_any k t p _ HT.out HSZ.out HH.out).mono ?_
    rintro e w3 ⟨⟨q, rfl, hq⟩, hb⟩
    have HQ := Aside0.mk hq
    have HB := Aside0.mk hb
    clear hq hb
    go_wp2_with fail
    go_ret2
    exact ⟨.inr ⟨by rw [HH.out]; rfl, w3.heap.size, rfl, .inr ⟨_, q, rfl, blk_new w3 _, HQ.out.below ((Below.refl w3.heap.size w3).alloc (Nat.le_refl _) _)⟩⟩, HB.out.alloc HB.out.size _⟩
  | false =>
    rw [hi] at hg
    have HH := Aside0.mk (show hasT k t = false from by rw [← HF.out]; exact hi)
    clear hi
    refine hg.mono ?_
    rintro e w1 ⟨rfl, rfl⟩
    clear hg
    go_wp2_with fail
    go_ret2
    exact ⟨.inl ⟨by rw [HH.out]; rfl, rfl⟩, Below.refl _ _⟩
end Go.Proofs.Ytbiccahkniadfaa.H
/-! ### Tree8 -/
namespace Go.Proofs.Ytbiccahkniadfaa.H
open Go.RowKit Go.Proofs.Ytbiccahkniadfaa.P Go.Proofs.YtbiccahkniadfaaW.PrintWords Go.Proofs.YtbiccahkniadfaaW.PrintLast Go.Proofs.YtbiccahkniadfaaW.PrintMore
set_option linter.unusedVariables false
set_option linter.unusedSimpArgs false
/-- A tree's pairs. -/
def toL : T → List (Int × Int)
  | .leaf => []
  | .node l k v r => toL l ++ (k, v) :: toL r
theorem toL_len : ∀ t : T, (toL t).length = sz t
  | .leaf => rfl
  | .node l k v r => by
    rw [toL, List.length_append, List.length_cons, toL_len l, toL_len r, sz]; omega
def belowT (k : Int) : T → Nat
  | .leaf => 0
  | .node l k1 _ r => if k1 < k then 1 + sz l + belowT k r else belowT k l
theorem below_le (k : Int) : ∀ t : T, belowT k t ≤ sz t
  | .leaf => Nat.le_refl _
  | .node l k1 v1 r => by
    have h1 := below_le k l
    have h2 := below_le k r
    unfold belowT
    split <;> simp only [sz] <;> omega
set_option maxRecDepth 20000 in
set_option maxHeartbeats 1600000 in
theorem below_any (P : Option Addr) (k : Int) (t : T) (w : World) (h : RootAt w P t) (hs : sz t ≤ 40000) :
    Calls Try.prog 35 #[.pointer P, .int .u64 k] w fun e w' => e = .returned (.int .i64 (belowT k t : Nat)) ∧ w' = w := by
  have hc := top_any P t w h
  have HBL := Aside0.mk (below_le k t)
  have HSZ := Aside0.mk hs
  clear h hs
  generalize hres : belowT k t = res at *
  have HRES := Aside0.mk hres
  clear hres
  go_enter Try.func35, Try.ntmps35
  go_wp2_with fail
  refine hc.mono ?_
  rintro e w' ⟨⟨p, rfl, ht⟩, rfl⟩
  have HT := Aside0.mk ht
  clear ht hc
  go_wp2_with fail
  go_loopg [5, 6] (sz t) (fun gg s5 s6 wr => ∃ (c : Nat) (p1 : Option Addr) (t1 : T), s5 = .int .i64 c ∧ s6 = .pointer p1 ∧ Aside0 (TreeAt w' p1 t1) ∧ Aside0 (sz t1 ≤ gg) ∧ Aside0 (c + belowT k t1 = res) ∧ Aside0 (c + sz t1 ≤ 40000) ∧ wr = w')
  case atStart => exact ⟨0, p, t, rfl, rfl, HT, ⟨Nat.le_refl _⟩, ⟨by rw [HRES.out]; omega⟩, ⟨by have := HSZ.out; omega⟩, rfl⟩
  case round =>
    obtain ⟨c, p1, t1, rfl, rfl, HT1, HS1, HR1, HC1, rfl⟩ := hrel
    cases t1 with
    | leaf =>
      obtain rfl : p1 = none := HT1.out
      have HRE := Aside0.mk (show res = c from by have := HR1.out; simp only [belowT] at this; omega)
      go_wp2_with fail
      go_ret
      exact ⟨by rw [HRE.out]; rfl, rfl⟩
    | node l k1 v1 r =>
      obtain ⟨g, pl, pr, rfl, hg, hl, hr⟩ := HT1.out
      have HL := Aside0.mk hl
      have HR := Aside0.mk hr
      have d0 := blk_cell hg 0
      have d2 := blk_cell hg 2
      have d3 := blk_cell hg 3
      clear hg hl hr
      by_cases c1 : k1 < k
      · have HR2 := Aside0.mk (show c + (1 + sz l) + belowT k r = res from by have := HR1.out; rw [belowT, if_pos c1] at this; omega)
        have HC2 := Aside0.mk (show c + (1 + sz l) + sz r ≤ 40000 from by have := HC1.out; simp only [sz] at this; omega)
        have w1 : IntKind.i64.wrap (1 + ((sz l : Nat) : Int)) = 1 + ((sz l : Nat) : Int) := by have := HC2.out; rw [IntKind.wrap_i64]; omega
        have w2 : IntKind.i64.wrap ((c : Int) + (1 + ((sz l : Nat) : Int))) = ((c + (1 + sz l) : Nat) : Int) := by have := HC2.out; rw [IntKind.wrap_i64]; omega
        have hsz := size_any pl l wr HL.out
        generalize hsl : ((sz l : Nat) : Int) = S at *
        have HSL := Aside0.mk hsl
        clear hsl
        go_wp2_with fail
        refine hsz.mono ?_
        rintro e w3 ⟨rfl, rfl⟩
        go_wp2_with fail
        go_roundg (sz r)
        case measure => have := HS1.out; simp only [sz] at this; omega
        case rel => exact ⟨c + (1 + sz l), pr, r, rfl, rfl, HR, ⟨Nat.le_refl _⟩, HR2, HC2, rfl⟩
      · have HR2 := Aside0.mk (show c + belowT k l = res from by have := HR1.out; rwa [belowT, if_neg c1] at this)
        have HC2 := Aside0.mk (show c + sz l ≤ 40000 from by have := HC1.out; simp only [sz] at this; omega)
        go_wp2_with fail
        go_roundg (sz l)
        case measure => have := HS1.out; simp only [sz] at this; omega
        case rel => exact ⟨c, pl, l, rfl, rfl, HL, ⟨Nat.le_refl _⟩, HR2, HC2, rfl⟩
/-- The pair at a place. -/
def atT (t : T) (i : Int) : (Int × Int) × Bool := if 0 ≤ i ∧ i < sz t then ((toL t).getD i.toNat (0, 0), true) else ((0, 0), false)
theorem toL_lt (l : T) (k v : Int) (r : T) (j : Nat) (h : j < sz l) : (toL (.node l k v r)).getD j (0, 0) = (toL l).getD j (0, 0) := by
  rw [toL, List.getD_eq_getElem?_getD, List.getD_eq_getElem?_getD, List.getElem?_append_left (by rw [toL_len]; exact h)]
theorem toL_eq (l : T) (k v : Int) (r : T) : (toL (.node l k v r)).getD (sz l) (0, 0) = (k, v) := by
  rw [toL, List.getD_eq_getElem?_getD, List.getElem?_append_right (by rw [toL_len]; exact Nat.le_refl _), toL_len, Nat.sub_self]; rfl
theorem toL_gt (l : T) (k v : Int) (r : T) (j : Nat) (h : sz l < j) : (toL (.node l k v r)).getD j (0, 0) = (toL r).getD (j - (1 + sz l)) (0, 0) := by
  rw [toL, List.getD_eq_getElem?_getD, List.getD_eq_getElem?_getD, List.getElem?_append_right (by rw [toL_len]; omega), toL_len, show j - sz l = (j - (1 + sz l)) + 1 by omega, List.getElem?_cons_succ]
set_option maxRecDepth 20000 in
set_option maxHeartbeats 1600000 in
theorem at_any (P : Option Addr) (i : Int) (t : T) (w : World) (h : RootAt w P t) (hs : sz t ≤ 40000) :
    Calls Try.prog 21 #[.pointer P, .int .i64 i] w fun e w' => e = .returned (.tuple #[.agg #[.int .u64 (atT t i).1.1, .int .i64 (atT t i).1.2], .bool (atT t i).2]) ∧ Below w.heap.size w w' := by
  have HB0 := Aside0.mk ((Below.refl w.heap.size w).alloc (Nat.le_refl _) (.cells #[.int .u64 0, .int .i64 0] 45))
  have HX0 := Aside0.mk (blk_new w (.cells #[.int .u64 0, .int .i64 0] 45))
  have HH := Aside0.mk (h.below HB0.out)
  have HSZ := Aside0.mk hs
  have HAT := Aside0.mk (show atT t i = if 0 ≤ i ∧ i < sz t then ((toL t).getD i.toNat (0, 0), true) else ((0, 0), false) from rfl)
  clear h hs
  generalize atT t i = res at *
  obtain ⟨⟨x0, x1⟩, xb⟩ := res
  simp only []
  have hmn : (w.alloc (.cells #[.int .u64 0, .int .i64 0] 45)).heap.size = w.heap.size + 1 := by simp
  go_enter Try.func21, Try.ntmps21
  have hfin : ∀ (W : World) (_ : ((x0, x1), xb) = (((0 : Int), (0 : Int)), false)), True := fun _ _ => trivial
  clear hfin hmn
  by_cases c0 : i < 0
  · have HE := Aside0.mk (show ((x0, x1), xb) = (((0 : Int), (0 : Int)), false) from by rw [HAT.out, if_neg (by omega)])
    go_wp2_with fail
    generalize (w.alloc (.cells #[.int .u64 0, .int .i64 0] 45)) = w0 at *
    have m2 := blk_cell HX0.out 0
    have m3 := blk_cell HX0.out 1
    have he := HE.out
    injection he with he1 he2
    injection he1 with he3 he4
    subst he2; subst he3; subst he4
    exact bodyPost_ret (v := .tuple #[.agg #[.int .u64 0, .int .i64 0], .bool false]) (by simp [results, Try.results21, go_sem, m2, m3]) rfl ⟨rfl, HB0.out⟩
  · go_wp2_with fail
    generalize (w.alloc (.cells #[.int .u64 0, .int .i64 0] 45)) = w0 at *
    refine (len_any P t w0 HH.out).mono ?_
    rintro e w1 ⟨rfl, rfl⟩
    by_cases c1 : ((sz t : Nat) : Int) ≤ i
    · have HE := Aside0.mk (show ((x0, x1), xb) = (((0 : Int), (0 : Int)), false) from by rw [HAT.out, if_neg (by omega)])
      have k0 := blk_cell HX0.out 0
      have k2 := blk_cell HX0.out 1
      have f0 := blk_frozen HX0.out 0
      have f1 := blk_frozen HX0.out 1
      go_wp2_with fail
      have he := HE.out
      injection he with he1 he2
      injection he1 with he3 he4
      subst he2; subst he3; subst he4
      have m1 := blk_set (blk_set HX0.out 0 (.int .u64 0)) 1 (.int .i64 0)
      have m2 := blk_cell m1 0
      have m3 := blk_cell m1 1
      have HBS := Aside0.mk ((HB0.out.setCell (p := ⟨w.heap.size, 0, none⟩) (Nat.le_refl _) (.int .u64 0)).setCell (p := ⟨w.heap.size, 1, none⟩) (Nat.le_refl _) (.int .i64 0))
      exact bodyPost_ret (v := .tuple #[.agg #[.int .u64 0, .int .i64 0], .bool false]) (by simp [results, Try.results21, go_sem, m2, m3]) rfl ⟨rfl, HBS.out⟩
    · obtain ⟨j0, rfl⟩ : ∃ j0 : Nat, i = (j0 : Int) := ⟨i.toNat, by omega⟩
      have HJ := Aside0.mk (show j0 < sz t by omega)
      have HE := Aside0.mk (show ((toL t).getD j0 (0, 0) = (x0, x1)) ∧ xb = true from by
        have := HAT.out
        rw [if_pos (by omega), Int.toNat_natCast] at this
        injection this with h1 h2
        exact ⟨h1.symm, h2⟩)
      have hj0 : ¬ (j0 : Int) < 0 := by omega
      go_wp2_with fail
      refine (top_any P t w1 HH.out).mono ?_
      rintro e w2 ⟨⟨p, rfl, ht⟩, rfl⟩
      have HT := Aside0.mk ht
      clear ht c0 c1 hj0 HAT
      go_wp2_with fail
      go_loopg [1, 6] (sz t) (fun gg s1 s6 wr => ∃ (j : Nat) (p1 : Option Addr) (t1 : T), s1 = .int .i64 j ∧ s6 = .pointer p1 ∧ Aside0 (TreeAt w2 p1 t1) ∧ Aside0 (sz t1 ≤ gg) ∧ Aside0 (j < sz t1 ∧ sz t1 ≤ 40000 ∧ (toL t1).getD j (0, 0) = (x0, x1)) ∧ wr = w2)
      case atStart => exact ⟨j0, p, t, rfl, rfl, HT, ⟨Nat.le_refl _⟩, ⟨HJ.out, HSZ.out, HE.out.1⟩, rfl⟩
      case round =>
        obtain ⟨j, p1, t1, rfl, rfl, HT1, HS1, HR1, rfl⟩ := hrel
        cases t1 with
        | leaf => exact absurd HR1.out.1 (Nat.not_lt_zero _)
        | node l k1 v1 r =>
          obtain ⟨g, pl, pr, rfl, hg, hl, hr⟩ := HT1.out
          have HL := Aside0.mk hl
          have HR := Aside0.mk hr
          have d0 := blk_cell hg 0
          have d1 := blk_cell hg 1
          have d2 := blk_cell hg 2
          have d3 := blk_cell hg 3
          have hsz := size_any pl l wr HL.out
          have HJ1 := Aside0.mk (show j < 1 + sz l + sz r ∧ 1 + sz l + sz r ≤ 40000 from ⟨HR1.out.1, HR1.out.2.1⟩)
          clear hg hl hr
          by_cases c2 : j = sz l
          · have HE2 := Aside0.mk (show (k1, v1) = (x0, x1) from by rw [← HR1.out.2.2, c2, toL_eq])
            have k0 := blk_cell HX0.out 0
            have k2 := blk_cell HX0.out 1
            have f0 := blk_frozen HX0.out 0
            have f1 := blk_frozen HX0.out 1
            rw [← c2] at hsz
            clear c2
            go_wp2_with fail
            refine hsz.mono ?_
            rintro e w3 ⟨rfl, rfl⟩
            clear hsz
            go_wp2_with fail
            have he := HE2.out
            injection he with he1 he2
            subst he1; subst he2
            have m1 := blk_set (blk_set HX0.out 0 (.int .u64 k1)) 1 (.int .i64 v1)
            have m2 := blk_cell m1 0
            have m3 := blk_cell m1 1
            have HBS := Aside0.mk ((HB0.out.setCell (p := ⟨w.heap.size, 0, none⟩) (Nat.le_refl _) (.int .u64 k1)).setCell (p := ⟨w.heap.size, 1, none⟩) (Nat.le_refl _) (.int .i64 v1))
            have hxb := HE.out.2
            subst hxb
            exact bodyPost_ret (v := .tuple #[.agg #[.int .u64 k1, .int .i64 v1], .bool true]) (by simp [results, Try.results21, go_sem, m2, m3]) rfl ⟨rfl, HBS.out⟩
          · have hne : ((j : Int) == ((sz l : Nat) : Int)) = false := by rw [beq_eq_false_iff_ne]; omega
            by_cases c3 : j < sz l
            · have hlt : (j : Int) < ((sz l : Nat) : Int) := by omega
              have HR2 := Aside0.mk (show j < sz l ∧ sz l ≤ 40000 ∧ (toL l).getD j (0, 0) = (x0, x1) from ⟨c3, by have := HJ1.out; omega, by rw [← toL_lt l k1 v1 r j c3]; exact HR1.out.2.2⟩)
              generalize hsl : ((sz l : Nat) : Int) = S at *
              have HSL := Aside0.mk hsl
              clear hsl c2 c3
              go_wp2_with fail
              refine hsz.mono ?_
              rintro e w3 ⟨rfl, rfl⟩
              go_wp2_with fail
              refine hsz.mono ?_
              rintro e w3 ⟨rfl, rfl⟩
              go_wp2_with fail
              go_roundg (sz l)
              case measure => have := HS1.out; simp only [sz] at this; omega
              case rel => exact ⟨j, pl, l, rfl, rfl, HL, ⟨Nat.le_refl _⟩, HR2, rfl⟩
            · have hge : ¬ (j : Int) < ((sz l : Nat) : Int) := by omega
              have HR2 := Aside0.mk (show j - (1 + sz l) < sz r ∧ sz r ≤ 40000 ∧ (toL r).getD (j - (1 + sz l)) (0, 0) = (x0, x1) from ⟨by have := HJ1.out; omega, by have := HJ1.out; omega, by rw [← toL_gt l k1 v1 r j (by omega)]; exact HR1.out.2.2⟩)
              have w1 : IntKind.i64.wrap (1 + ((sz l : Nat) : Int)) = 1 + ((sz l : Nat) : Int) := by have := HJ1.out; rw [IntKind.wrap_i64]; omega
              have w2' : IntKind.i64.wrap ((j : Int) - (1 + ((sz l : Nat) : Int))) = ((j - (1 + sz l) : Nat) : Int) := by have := HJ1.out; rw [IntKind.wrap_i64]; omega
              generalize hsl : ((sz l : Nat) : Int) = S at *
              have HSL := Aside0.mk hsl
              clear hsl c2 c3
              go_wp2_with fail
              refine hsz.mono ?_
              rintro e w3 ⟨rfl, rfl⟩
              go_wp2_with fail
              refine hsz.mono ?_
              rintro e w3 ⟨rfl, rfl⟩
              go_wp2_with fail
              refine hsz.mono ?_
              rintro e w3 ⟨rfl, rfl⟩
              go_wp2_with fail
              go_roundg (sz r)
              case measure => have := HS1.out; simp only [sz] at this; omega
              case rel => exact ⟨j - (1 + sz l), pr, r, rfl, rfl, HR, ⟨Nat.le_refl _⟩, HR2, rfl⟩
end Go.Proofs.Ytbiccahkniadfaa.H
/-! ### TreeP -/
namespace Go.Proofs.Ytbiccahkniadfaa.H
open Go.RowKit Go.Shelf Go.Proofs.Ytbiccahkniadfaa.P Go.Proofs.YtbiccahkniadfaaW.PrintWords Go.Proofs.YtbiccahkniadfaaW.PrintLast Go.Proofs.YtbiccahkniadfaaW.PrintMore
attribute [local go_sem] Oper.semAt_some
set_option linter.unusedVariables false
set_option linter.unusedSimpArgs false
theorem room_of_none {F : Fence} (hd : F.depth = none) (k : Nat) : F.room k := fun d h => by rw [hd] at h; cases h
theorem RoundIn.anyDepth {F : Fence} (hd : F.depth = none) {m m' : Nat} {P : Program} {l : Nat} {f : FuncId} {tmps : Array Value} {assign body : Code} {w : World} {R : Ending → World → Prop}
    (h : RoundIn F m P l f tmps assign body w R) : RoundIn F m' P l f tmps assign body w R := ⟨h.1, fun c cs _ => h.2 c cs (room_of_none hd _)⟩
theorem YieldAt.anyDepth {F : Fence} (hd : F.depth = none) {m : Nat} (m' : Nat) {P : Program} {l : Nat} {args : Array Value} {W : World} {R : Ending → World → Prop} (h : YieldAt F m P l args W R) : YieldAt F m' P l args W R := by
  obtain ⟨fn, tmps, assign, body, hy, hR⟩ := h
  exact ⟨fn, tmps, assign, body, hy, RoundIn.anyDepth hd hR⟩
/-- A tree in blocks below n₀. -/
def TreeB (n₀ : Nat) (W : World) : Option Addr → T → Prop
  | p, .leaf => p = none
  | p, .node l k v r => ∃ (g : Nat) (pl pr : Option Addr), p = some ⟨g, 0, none⟩ ∧ g < n₀ ∧ W.cell? ⟨g, 0, none⟩ = some (.int .u64 k) ∧ W.cell? ⟨g, 1, none⟩ = some (.int .i64 v) ∧ W.cell? ⟨g, 2, none⟩ = some (.pointer pl) ∧ W.cell? ⟨g, 3, none⟩ = some (.pointer pr) ∧ TreeB n₀ W pl l ∧ TreeB n₀ W pr r
theorem TreeB.below {n₀ : Nat} {A B : World} (h : Below n₀ A B) : ∀ {p : Option Addr} {t : T}, TreeB n₀ A p t → TreeB n₀ B p t
  | _, .leaf, ht => ht
  | _, .node _ _ _ _, ⟨g, pl, pr, hp, hb, h0, h1, h2, h3, hl, hr⟩ => ⟨g, pl, pr, hp, hb, (h.cell (p := ⟨g, 0, none⟩) hb).trans h0, (h.cell (p := ⟨g, 1, none⟩) hb).trans h1, (h.cell (p := ⟨g, 2, none⟩) hb).trans h2, (h.cell (p := ⟨g, 3, none⟩) hb).trans h3, TreeB.below h hl, TreeB.below h hr⟩
theorem TreeAt.toB {W : World} : ∀ {t : T} {p : Option Addr}, TreeAt W p t → TreeB W.heap.size W p t
  | .leaf, _, h => h
  | .node l k v r, _, ⟨g, pl, pr, h1, h2, h3, h4⟩ => ⟨g, pl, pr, h1, blk_lt h2, blk_cell h2 0, blk_cell h2 1, blk_cell h2 2, blk_cell h2 3, h3.toB, h4.toB⟩
theorem wpListIn_pass {F : Fence} {n : Nat} {P : Program} {ops : Array Oper} {Q : Exit → Act → World → Prop} {a : Act} {w : World} {rest : List Oper} {o : Oper} (hw : Region.wanted o (yielded ops a.tmps) = false) (ha : ∀ f, o.about P w a.eval = some f → F.fn f) (h : wpListIn F n P ops Q rest (a.put o.dst undef) w) : wpListIn F n P ops Q (o :: rest) a w := by
  simp only [wpListIn, hw]
  exact ⟨ha, h⟩
def encP (x : Int × Int) : Array Value := #[.agg #[.int .u64 x.1, .int .i64 x.2]]
set_option maxRecDepth 100000 in
set_option maxHeartbeats 4000000 in
theorem each_in (F : Fence) (hd : F.depth = none) (h6 : F.fn 44) (hro : F.round = none) (l n₀ N : Nat) (J Jx : List (Int × Int) → World → Prop)
    (hY : ∀ m pre x W, J pre W → pre.length < N → YieldAt F m Try.prog l #[.agg #[.int .u64 x.1, .int .i64 x.2]] W fun e W' =>
      (e = .returned (.bool true) ∧ J (pre ++ [x]) W' ∧ Below n₀ W W') ∨ (e = .returned (.bool false) ∧ Jx (pre ++ [x]) W')) (t : T) :
    ∀ (n : Nat) (p : Option Addr) (pre : List (Int × Int)) (W : World), TreeB n₀ W p t → J pre W → pre.length + (toL t).length ≤ N →
      CallsIn F n Try.prog 44 #[.pointer p, .func (.yield l) #[] #[]] W fun e W' =>
        (e = .returned (.bool true) ∧ J (pre ++ toL t) W' ∧ Below n₀ W W') ∨ (e = .returned (.bool false) ∧ ∃ q, q <+: toL t ∧ Jx (pre ++ q) W') := by
  induction t with
  | leaf =>
    intro n p pre W ht hJ _
    obtain rfl : p = none := ht
    refine callsIn_of_wp Try.func44 rfl h6 ?_ hro
    simp only [Try.ntmps44, List.size_toArray, List.length_cons, List.length_nil, Nat.reduceAdd, Nat.reduceSub, Array.replicate_succ, Array.replicate_zero, List.push_toArray, List.append_toArray, List.nil_append, List.cons_append]
    gi_wp2_with (first | (refine wpListIn_pass (by rfl) ?_ ?_; (intro f hf; first | (cases hf; exact h6) | (cases hf))))
    go_ret
    exact .inl ⟨rfl, by simpa [toL] using hJ, Below.refl _ _⟩
  | node tl k v tr ihl ihr =>
    intro n p pre W ht hJ hN
    obtain ⟨b, pl, pr, rfl, hb, c0, c1, c2, c3, hl, hr⟩ := ht
    have hdd : ∀ k : Nat, (F.depth.isSome = true → 1 ≤ k) := fun k h => by rw [hd] at h; cases h
    simp only [toL, List.length_append, List.length_cons] at hN
    have hy2 : ∀ W1, J (pre ++ toL tl) W1 → Below n₀ W W1 → YieldAt F (n - 1) Try.prog l #[.agg #[.int .u64 k, .int .i64 v]] W1 fun e W2 =>
        (e = .returned (.bool true) ∧ J (pre ++ toL tl ++ [(k, v)]) W2 ∧ Below n₀ W W2 ∧ W2.cell? ⟨b, 3, none⟩ = some (.pointer pr) ∧ TreeB n₀ W2 pr tr) ∨ (e = .returned (.bool false) ∧ Jx (pre ++ toL tl ++ [(k, v)]) W2) := fun W1 hJ1 hb1 =>
      YieldAt.mono (hY (n - 1) _ (k, v) W1 hJ1 (by simp; omega)) fun e W2 h => h.elim
        (fun ⟨he, hj, hb2⟩ => .inl ⟨he, hj, hb1.trans hb2, ((hb1.trans hb2).cell (p := ⟨b, 3, none⟩) hb).trans c3, hr.below (hb1.trans hb2)⟩) .inr
    have ih1 := (ihl (n - 1) pl pre W hl hJ (by omega)).mono (R' := fun e W1 =>
        (e = .returned (.bool true) ∧ W1.cell? ⟨b, 0, none⟩ = some (.int .u64 k) ∧ W1.cell? ⟨b, 1, none⟩ = some (.int .i64 v) ∧ YieldAt F (n - 1) Try.prog l #[.agg #[.int .u64 k, .int .i64 v]] W1 fun e W2 =>
          (e = .returned (.bool true) ∧ J (pre ++ toL tl ++ [(k, v)]) W2 ∧ Below n₀ W W2 ∧ W2.cell? ⟨b, 3, none⟩ = some (.pointer pr) ∧ TreeB n₀ W2 pr tr) ∨ (e = .returned (.bool false) ∧ Jx (pre ++ toL tl ++ [(k, v)]) W2)) ∨
        (e = .returned (.bool false) ∧ ∃ q, q <+: toL tl ∧ Jx (pre ++ q) W1))
      (fun e W1 h => h.elim (fun ⟨he, hj, hb1⟩ => .inl ⟨he, (hb1.cell (p := ⟨b, 0, none⟩) hb).trans c0, (hb1.cell (p := ⟨b, 1, none⟩) hb).trans c1, hy2 W1 hj hb1⟩) .inr)
    clear hy2 ihl
    refine callsIn_of_wp Try.func44 rfl h6 ?_ hro
    simp only [Try.ntmps44, List.size_toArray, List.length_cons, List.length_nil, Nat.reduceAdd, Nat.reduceSub, Array.replicate_succ, Array.replicate_zero, List.push_toArray, List.append_toArray, List.nil_append, List.cons_append]
    gi_wp2_with (first
      | ((try refine ⟨hdd _, ?_⟩); gi_at_call 44; refine ih1.mono ?_; clear ih1; rintro e W1 (⟨rfl, c0', c1', fn, tmps, assign, body, hy, hR⟩ | ⟨rfl, q, hq, hx1⟩))
      | ((try refine ⟨hdd _, ?_⟩); refine hR.mono ?_; clear hR; rintro e W2 (⟨rfl, hJ2, hb2, c2', hr2⟩ | ⟨rfl, hx2⟩))
      | ((try refine ⟨hdd _, ?_⟩); gi_at_call 44; refine (ihr (n - 1) pr _ _ hr2 hJ2 (by simp; omega)).mono ?_; rintro e W3 (⟨rfl, hJ3, hb3⟩ | ⟨rfl, q, hq, hx3⟩)))
    · go_ret
      exact .inl ⟨rfl, by simpa [toL, List.append_assoc] using hJ3, hb2.trans hb3⟩
    · go_ret
      obtain ⟨r, hr'⟩ := hq
      exact .inr ⟨rfl, toL tl ++ (k, v) :: q, ⟨r, by simp [toL, ← hr']⟩, by simpa [List.append_assoc] using hx3⟩
    · go_ret
      exact .inr ⟨rfl, toL tl ++ [(k, v)], ⟨toL tr, by simp [toL]⟩, by simpa [List.append_assoc] using hx2⟩
    · refine ⟨fun _ h => (by cases h), ?_⟩
      gi_wp2
      go_ret
      exact .inr ⟨rfl, q, hq.trans (by simp [toL]), hx1⟩
set_option maxHeartbeats 1000000 in
theorem all1_in (F : Fence) (hd : F.depth = none) (n : Nat) (h5 : F.fn 43) (h6 : F.fn 44) (hro : F.round = none) (l Bt n₀ : Nat) (p0 : Option Addr) (t : T) (J Jx : List (Int × Int) → World → Prop)
    (hY : ∀ pre x W, J pre W → pre.length < (toL t).length → YieldAt F (n - 1) Try.prog l #[.agg #[.int .u64 x.1, .int .i64 x.2]] W fun e W' =>
      (e = .returned (.bool true) ∧ J (pre ++ [x]) W' ∧ Below n₀ W W') ∨ (e = .returned (.bool false) ∧ Jx (pre ++ [x]) W'))
    (W : World) (hBt : W.cell? ⟨Bt, 0, none⟩ = some (.pointer p0)) (hT : TreeB n₀ W p0 t) (h0 : J [] W) :
    CallsIn F n Try.prog 43 #[.func (.yield l) #[] #[], .pointer (some ⟨Bt, 0, none⟩)] W fun e W' => (∃ v, e = .returned v) ∧
      ((∃ ys, ys = toL t ∧ J ys W') ∨ (∃ pre, pre <+: toL t ∧ Jx pre W')) := by
  have hdd : ∀ k : Nat, (F.depth.isSome = true → 1 ≤ k) := fun k h => by rw [hd] at h; cases h
  have hp := each_in F hd h6 hro l n₀ (toL t).length J Jx (fun m pre x W hj hl => YieldAt.anyDepth hd m (hY pre x W hj hl)) t (n - 1) p0 [] W hT h0 (by simp)
  refine callsIn_of_wp Try.func43 rfl h5 ?_ hro
  simp only [Try.ntmps43, List.size_toArray, List.length_cons, List.length_nil, Nat.reduceAdd, Nat.reduceSub, Array.replicate_succ, Array.replicate_zero, List.push_toArray, List.append_toArray, List.nil_append, List.cons_append]
  gi_wp2_with ((try refine ⟨hdd _, ?_⟩); gi_at_call 44; refine hp.mono ?_; clear hp; rintro e W1 (⟨rfl, hJ1, _⟩ | ⟨rfl, q, hq, hx⟩))
  · go_end0
    exact ⟨⟨_, rfl⟩, .inl ⟨_, rfl, by simpa using hJ1⟩⟩
  · go_end0
    exact ⟨⟨_, rfl⟩, .inr ⟨q, hq, by simpa using hx⟩⟩
set_option maxHeartbeats 1000000 in
theorem all_in (F : Fence) (n : Nat) (h4 : F.fn 37) (hro : F.round = none) (p0 : Option Addr) (w : World) :
    CallsIn F n Try.prog 37 #[.pointer p0] w fun e w' => e = .returned (.func (.func 43) #[] #[.pointer (some ⟨w.heap.size, 0, none⟩)]) ∧ w' = w.alloc (.cells #[.pointer p0] 61) := by
  refine callsIn_of_wp Try.func37 rfl h4 ?_ hro
  simp only [Try.ntmps37, List.size_toArray, List.length_cons, List.length_nil, Nat.reduceAdd, Nat.reduceSub, Array.replicate_succ, Array.replicate_zero, List.push_toArray, List.append_toArray, List.nil_append, List.cons_append]
  gi_wp2
  go_ret
  exact ⟨rfl, rfl⟩
theorem all_stops (F : Fence) (hd : F.depth = none) (n : Nat) (h5 : F.fn 43) (h6 : F.fn 44) (hro : F.round = none) (Bt n₀ : Nat) (p0 : Option Addr) (t : T) (w : World) (hBt : Bt < w.heap.size) (hn₀ : n₀ ≤ w.heap.size)
    (hc : w.cell? ⟨Bt, 0, none⟩ = some (.pointer p0)) (hT : TreeB n₀ w p0 t) :
    SeqStopsK F n Try.prog 43 #[.pointer (some ⟨Bt, 0, none⟩)] (fun x : Int × Int => #[Value.agg #[.int .u64 x.1, .int .i64 x.2]]) (Below n₀) (fun ys => ys = toL t) (fun pre => pre <+: toL t) (toL t).length w := fun l J Jx W hW _ _ hY h0 =>
  all1_in F hd n h5 h6 hro l Bt n₀ p0 t J Jx hY W ((hW.cell (p := ⟨Bt, 0, none⟩) hBt).trans hc) (hT.below (hW.mono hn₀)) h0
end Go.Proofs.Ytbiccahkniadfaa.H
/-! ### Tree9 -/
namespace Go.Proofs.Ytbiccahkniadfaa.H
open Go.RowKit Go.Proofs.Ytbiccahkniadfaa.P Go.Proofs.YtbiccahkniadfaaW.PrintWords Go.Proofs.YtbiccahkniadfaaW.PrintLast Go.Proofs.YtbiccahkniadfaaW.PrintMore
set_option linter.unusedVariables false
set_option linter.unusedSimpArgs false
def ceilT (k : Int) (t : T) : (Int × Int) × Bool := atT t (belowT k t : Nat)
def floorT (k : Int) (t : T) : (Int × Int) × Bool := if (atT t (belowT k t : Nat)).2 && ((atT t (belowT k t : Nat)).1.1 == k) then ((atT t (belowT k t : Nat)).1, true) else atT t ((belowT k t : Nat) - 1)
set_option maxRecDepth 20000 in
set_option maxHeartbeats 1600000 in
theorem ceil_any (P : Option Addr) (k : Int) (t : T) (w : World) (h : RootAt w P t) (hs : sz t ≤ 40000) :
    Calls Try.prog 20 #[.pointer P, .int .u64 k] w fun e w' => e = .returned (.tuple #[.agg #[.int .u64 (ceilT k t).1.1, .int .i64 (ceilT k t).1.2], .bool (ceilT k t).2]) ∧ Below w.heap.size w w' := by
  have HB0 := Aside0.mk ((Below.refl w.heap.size w).alloc (Nat.le_refl _) (.cells #[.int .u64 0, .int .i64 0] 45))
  have HX0 := Aside0.mk (blk_new w (.cells #[.int .u64 0, .int .i64 0] 45))
  have HH := Aside0.mk (h.below HB0.out)
  have HSZ := Aside0.mk hs
  have HC := Aside0.mk (show ceilT k t = atT t (belowT k t : Nat) from rfl)
  clear h hs
  generalize ceilT k t = res at *
  obtain ⟨⟨x0, x1⟩, xb⟩ := res
  simp only []
  go_enter Try.func20, Try.ntmps20
  go_wp2_with fail
  generalize (w.alloc (.cells #[.int .u64 0, .int .i64 0] 45)) = w0 at *
  refine (below_any P k t w0 HH.out HSZ.out).mono ?_
  rintro e w1 ⟨rfl, rfl⟩
  have hat := at_any P (belowT k t : Nat) t w1 HH.out HSZ.out
  rw [← HC.out] at hat
  simp only [] at hat
  generalize ((belowT k t : Nat) : Int) = b at *
  go_wp2_with fail
  refine hat.mono ?_
  rintro e w2 ⟨rfl, hb⟩
  have HX2 := Aside0.mk (blk_below HX0.out hb)
  have HB2 := Aside0.mk (HB0.out.trans (hb.mono HB0.out.size))
  clear hb hat HX0 HB0 HH
  have k0 := blk_cell HX2.out 0
  have k2 := blk_cell HX2.out 1
  have f0 := blk_frozen HX2.out 0
  have f1 := blk_frozen HX2.out 1
  go_wp2_with fail
  have m1 := blk_set (blk_set HX2.out 0 (.int .u64 x0)) 1 (.int .i64 x1)
  have m2 := blk_cell m1 0
  have m3 := blk_cell m1 1
  have HBS := Aside0.mk ((HB2.out.setCell (p := ⟨w.heap.size, 0, none⟩) (Nat.le_refl _) (.int .u64 x0)).setCell (p := ⟨w.heap.size, 1, none⟩) (Nat.le_refl _) (.int .i64 x1))
  exact bodyPost_ret (v := .tuple #[.agg #[.int .u64 x0, .int .i64 x1], .bool xb]) (by simp [results, Try.results20, go_sem, m2, m3]) rfl ⟨rfl, HBS.out⟩
set_option maxRecDepth 20000 in
set_option maxHeartbeats 1600000 in
theorem floor_any (P : Option Addr) (k : Int) (t : T) (w : World) (h : RootAt w P t) (hs : sz t ≤ 40000) :
    Calls Try.prog 19 #[.pointer P, .int .u64 k] w fun e w' => e = .returned (.tuple #[.agg #[.int .u64 (floorT k t).1.1, .int .i64 (floorT k t).1.2], .bool (floorT k t).2]) ∧ Below w.heap.size w w' := by
  have HB0 := Aside0.mk ((Below.refl w.heap.size w).alloc (Nat.le_refl _) (.cells #[.int .u64 0, .int .i64 0] 45))
  have HX0 := Aside0.mk (blk_new w (.cells #[.int .u64 0, .int .i64 0] 45))
  have HH := Aside0.mk (h.below HB0.out)
  have HSZ := Aside0.mk hs
  have HBL := Aside0.mk (below_le k t)
  have HC := Aside0.mk (show floorT k t = if (atT t (belowT k t : Nat)).2 && ((atT t (belowT k t : Nat)).1.1 == k) then ((atT t (belowT k t : Nat)).1, true) else atT t ((belowT k t : Nat) - 1) from rfl)
  clear h hs
  generalize floorT k t = res at *
  obtain ⟨⟨x0, x1⟩, xb⟩ := res
  simp only []
  go_enter Try.func19, Try.ntmps19
  go_wp2_with fail
  generalize (w.alloc (.cells #[.int .u64 0, .int .i64 0] 45)) = w0 at *
  refine (below_any P k t w0 HH.out HSZ.out).mono ?_
  rintro e w1 ⟨rfl, rfl⟩
  have hat := at_any P (belowT k t : Nat) t w1 HH.out HSZ.out
  have HAT2 := Aside0.mk (fun W hW => at_any P ((belowT k t : Nat) - 1) t W hW HSZ.out)
  have wb : IntKind.i64.wrap (((belowT k t : Nat) : Int) - 1) = ((belowT k t : Nat) : Int) - 1 := by have := HSZ.out; have := HBL.out; rw [IntKind.wrap_i64]; omega
  generalize atT t (belowT k t : Nat) = r1 at *
  generalize atT t (((belowT k t : Nat) : Int) - 1) = r2 at *
  obtain ⟨⟨y0, y1⟩, yb⟩ := r1
  obtain ⟨⟨z0, z1⟩, zb⟩ := r2
  simp only [] at hat HC HAT2
  generalize ((belowT k t : Nat) : Int) = b at *
  go_wp2_with fail
  refine hat.mono ?_
  rintro e w2 ⟨rfl, hb⟩
  have HX2 := Aside0.mk (blk_below HX0.out hb)
  have HH2 := Aside0.mk (HH.out.below hb)
  have HB2 := Aside0.mk (HB0.out.trans (hb.mono HB0.out.size))
  clear hb hat HX0 HB0 HH
  have hbn : Below w2.heap.size w2 (w2.alloc (.cells #[.int .u64 y0, .int .i64 y1] 45)) := (Below.refl w2.heap.size w2).alloc (Nat.le_refl _) _
  have HX3 := Aside0.mk (blk_below HX2.out hbn)
  have HY3 := Aside0.mk (blk_new w2 (.cells #[.int .u64 y0, .int .i64 y1] 45))
  have HH3 := Aside0.mk (HH2.out.below hbn)
  have HB3 := Aside0.mk (HB2.out.trans (hbn.mono HB2.out.size))
  clear hbn HX2 HH2 HB2
  have k0 := blk_cell HX3.out 0
  have k2 := blk_cell HX3.out 1
  have f0 := blk_frozen HX3.out 0
  have f1 := blk_frozen HX3.out 1
  have y2 := blk_cell HY3.out 0
  have y3 := blk_cell HY3.out 1
  cases hyb : yb with
  | false =>
    subst hyb
    have HC2 := Aside0.mk (show ((x0, x1), xb) = ((z0, z1), zb) from HC.out)
    go_wp2_with fail
    generalize (w2.alloc (.cells #[.int .u64 y0, .int .i64 y1] 45)) = w3 at *
    refine (HAT2.out w3 HH3.out).mono ?_
    rintro e w4 ⟨rfl, hb⟩
    have HX4 := Aside0.mk (blk_below HX3.out hb)
    have HB4 := Aside0.mk (HB3.out.trans (hb.mono HB3.out.size))
    clear hb k0 k2 f0 f1 y2 y3
    have k0 := blk_cell HX4.out 0
    have k2 := blk_cell HX4.out 1
    have f0 := blk_frozen HX4.out 0
    have f1 := blk_frozen HX4.out 1
    go_wp2_with fail
    have he := HC2.out
    injection he with he1 he2
    injection he1 with he3 he4
    subst he2; subst he3; subst he4
    have m1 := blk_set (blk_set HX4.out 0 (.int .u64 x0)) 1 (.int .i64 x1)
    have m2 := blk_cell m1 0
    have m3 := blk_cell m1 1
    have HBS := Aside0.mk ((HB4.out.setCell (p := ⟨w.heap.size, 0, none⟩) (Nat.le_refl _) (.int .u64 x0)).setCell (p := ⟨w.heap.size, 1, none⟩) (Nat.le_refl _) (.int .i64 x1))
    exact bodyPost_ret (v := .tuple #[.agg #[.int .u64 x0, .int .i64 x1], .bool xb]) (by simp [results, Try.results19, go_sem, m2, m3]) rfl ⟨rfl, HBS.out⟩
  | true =>
    subst hyb
    cases hk : (y0 == k) with
    | true =>
      have HC2 := Aside0.mk (show ((x0, x1), xb) = ((y0, y1), true) from by rw [HC.out, hk]; rfl)
      go_wp2_with fail
      generalize (w2.alloc (.cells #[.int .u64 y0, .int .i64 y1] 45)) = w3 at *
      have HX4 := HX3
      have HB4 := HB3
      have he := HC2.out
      injection he with he1 he2
      injection he1 with he3 he4
      subst he2; subst he3; subst he4
      have m1 := blk_set (blk_set HX4.out 0 (.int .u64 x0)) 1 (.int .i64 x1)
      have m2 := blk_cell m1 0
      have m3 := blk_cell m1 1
      have HBS := Aside0.mk ((HB4.out.setCell (p := ⟨w.heap.size, 0, none⟩) (Nat.le_refl _) (.int .u64 x0)).setCell (p := ⟨w.heap.size, 1, none⟩) (Nat.le_refl _) (.int .i64 x1))
      exact bodyPost_ret (v := .tuple #[.agg #[.int .u64 x0, .int .i64 x1], .bool true]) (by simp [results, Try.results19, go_sem, m2, m3]) rfl ⟨rfl, HBS.out⟩
    | false =>
      have HC2 := Aside0.mk (show ((x0, x1), xb) = ((z0, z1), zb) from by rw [HC.out, hk]; rfl)
      go_wp2_with fail
      generalize (w2.alloc (.cells #[.int .u64 y0, .int .i64 y1] 45)) = w3 at *
      refine (HAT2.out w3 HH3.out).mono ?_
      rintro e w4 ⟨rfl, hb⟩
      have HX4 := Aside0.mk (blk_below HX3.out hb)
      have HB4 := Aside0.mk (HB3.out.trans (hb.mono HB3.out.size))
      clear hb k0 k2 f0 f1 y2 y3
      have k0 := blk_cell HX4.out 0
      have k2 := blk_cell HX4.out 1
      have f0 := blk_frozen HX4.out 0
      have f1 := blk_frozen HX4.out 1
      go_wp2_with fail
      have he := HC2.out
      injection he with he1 he2
      injection he1 with he3 he4
      subst he2; subst he3; subst he4
      have m1 := blk_set (blk_set HX4.out 0 (.int .u64 x0)) 1 (.int .i64 x1)
      have m2 := blk_cell m1 0
      have m3 := blk_cell m1 1
      have HBS := Aside0.mk ((HB4.out.setCell (p := ⟨w.heap.size, 0, none⟩) (Nat.le_refl _) (.int .u64 x0)).setCell (p := ⟨w.heap.size, 1, none⟩) (Nat.le_refl _) (.int .i64 x1))
      exact bodyPost_ret (v := .tuple #[.agg #[.int .u64 x0, .int .i64 x1], .bool xb]) (by simp [results, Try.results19, go_sem, m2, m3]) rfl ⟨rfl, HBS.out⟩
end Go.Proofs.Ytbiccahkniadfaa.H
/-! ### Tree10 -/
namespace Go.Proofs.Ytbiccahkniadfaa.H
open Go.RowKit Go.Proofs.Ytbiccahkniadfaa.P Go.Proofs.YtbiccahkniadfaaW.PrintWords Go.Proofs.YtbiccahkniadfaaW.PrintLast Go.Proofs.YtbiccahkniadfaaW.PrintMore
set_option linter.unusedVariables false
set_option linter.unusedSimpArgs false
/-- Two trees, and a pair between; in so many rounds. -/
def joinN : Nat → T → Int → Int → T → T
  | 0, l, k, v, r => .node l k v r
  | n + 1, l, k, v, r =>
    if ht l > ht r + 1 then
      match l with
      | .leaf => .node .leaf k v r
      | .node ll lk lv lr => evenT ll lk lv (joinN n lr k v r)
    else if ht r > ht l + 1 then
      match r with
      | .leaf => .node l k v .leaf
      | .node rl rk rv rr => evenT (joinN n l k v rl) rk rv rr
    else .node l k v r
theorem sz_join (k v : Int) : ∀ (n : Nat) (l r : T), sz (joinN n l k v r) = 1 + sz l + sz r
  | 0, l, r => rfl
  | n + 1, l, r => by
    unfold joinN
    split
    · cases l with
      | leaf => rfl
      | node ll lk lv lr => dsimp only; rw [sz_even, sz_join k v n lr r]; simp only [sz]; omega
    · split
      · cases r with
        | leaf => rfl
        | node rl rk rv rr => dsimp only; rw [sz_even, sz_join k v n l rl]; simp only [sz]; omega
      · rfl
set_option maxRecDepth 20000 in
set_option maxHeartbeats 4000000 in
theorem join_any (k v : Int) (n : Nat) : ∀ (l r : T), sz l + sz r < n → ∀ (pl pr : Option Addr) (w : World), TreeAt w pl l → TreeAt w pr r → sz l + sz r ≤ 50000 →
    Calls Try.prog 42 #[.pointer pl, .agg #[.int .u64 k, .int .i64 v], .pointer pr] w fun e w' => (∃ p, e = .returned (.pointer p) ∧ TreeAt w' p (joinN n l k v r)) ∧ Below w.heap.size w w' := by
  induction n with
  | zero => intro l r h; exact absurd h (Nat.not_lt_zero _)
  | succ n ih =>
  intro l r hn pl pr w hl hr hs
  have IH := Aside0.mk ih
  have HB0 := Aside0.mk ((Below.refl w.heap.size w).alloc (Nat.le_refl _) (.cells #[.int .u64 k, .int .i64 v] 45))
  have HX0 := Aside0.mk (blk_new w (.cells #[.int .u64 k, .int .i64 v] 45))
  have HL := Aside0.mk (hl.below HB0.out)
  have HR := Aside0.mk (hr.below HB0.out)
  have HN := Aside0.mk hn
  have hl1 := ht_le l
  have hr1 := ht_le r
  clear hl hr hn ih
  go_enter Try.func42, Try.ntmps42
  go_wp2_with fail
  generalize (w.alloc (.cells #[.int .u64 k, .int .i64 v] 45)) = w0 at *
  have WR := Aside0.mk (show ∀ t : T, ht t ≤ 50000 → IntKind.i64.wrap (((ht t : Nat) : Int) + 1) = ((ht t : Nat) : Int) + 1 from fun t h => by rw [IntKind.wrap_i64]; omega)
  have wr := WR.out r (by omega)
  have wl := WR.out l (by omega)
  refine (high_any pl l w0 HL.out).mono ?_
  rintro e w1 ⟨rfl, rfl⟩
  go_wp2_with fail
  refine (high_any pr r w1 HR.out).mono ?_
  rintro e w2 ⟨rfl, rfl⟩
  by_cases hc1 : ((ht r : Nat) : Int) + 1 < ((ht l : Nat) : Int)
  · have HC1 := Aside0.mk (show ht l > ht r + 1 by omega)
    go_wp2_with fail
    cases l with
    | leaf => simp [ht] at hc1; omega
    | node ll lk lv lr =>
      obtain ⟨gl, pll, plr, rfl, hgl, hll, hlr⟩ := HL.out
      have HEV := Aside0.mk (show joinN (n + 1) (.node ll lk lv lr) k v r = evenT ll lk lv (joinN n lr k v r) from by conv => lhs; unfold joinN; rw [if_pos HC1.out])
      have HZJ := Aside0.mk (sz_join k v n lr r)
      have HSZ := Aside0.mk (show sz ll + sz lr + 1 + sz r ≤ 50000 ∧ sz lr + sz r < n from ⟨by simp only [sz] at hs; omega, by have := HN.out; simp only [sz] at this; omega⟩)
      have hN : w2.cell? ⟨gl, 0, none⟩ = some (.int .u64 lk) ∧ w2.cell? ⟨gl, 1, none⟩ = some (.int .i64 lv) ∧ w2.cell? ⟨gl, 2, none⟩ = some (.pointer pll) ∧ w2.cell? ⟨gl, 3, none⟩ = some (.pointer plr) ∧ w2.cell? ⟨w.heap.size, 0, none⟩ = some (.int .u64 k) ∧ w2.cell? ⟨w.heap.size, 1, none⟩ = some (.int .i64 v) :=
        ⟨(node_cells hgl).1, (node_cells hgl).2.1, (node_cells hgl).2.2.1, (node_cells hgl).2.2.2, blk_cell HX0.out 0, blk_cell HX0.out 1⟩
      have HLLD := Aside0.mk (hll.below (below_drew (Below.refl _ w2)))
      have HLRD := Aside0.mk (hlr.below (below_drew (Below.refl _ w2)))
      have HOD := Aside0.mk (HR.out.below (below_drew (Below.refl _ w2)))
      have HBD := Aside0.mk (HB0.out.trans ((below_drew (Below.refl _ w2)).mono HB0.out.size))
      clear hgl hll hlr hl1 hr1 hs hc1 wr wl HL HR HB0 HX0
      refine wp_region_held_drew (S := (fun w' => w'.cell? ⟨gl, 0, none⟩ = some (.int .u64 lk) ∧ w'.cell? ⟨gl, 1, none⟩ = some (.int .i64 lv) ∧ w'.cell? ⟨gl, 2, none⟩ = some (.pointer pll) ∧ w'.cell? ⟨gl, 3, none⟩ = some (.pointer plr) ∧ w'.cell? ⟨w.heap.size, 0, none⟩ = some (.int .u64 k) ∧ w'.cell? ⟨w.heap.size, 1, none⟩ = some (.int .i64 v))) (by kernel_rfl) ?hSa0 (fun hHeld => ?_)
      case hSa0 => first | assumption | go_keep
      refine held_take 0 (some 14) (v := ?va0) rfl rfl (by kernel_rfl) (by kernel_rfl) (by kernel_rfl) (fun _ _ _ h => h) (by rfl) ?ya0 (by assumption) ?_
      case ya0 => ((intro w hSw); (try dsimp only at hSw); go_simp <;> (with_reducible rfl))
      try simp only [Act.put, List.setIfInBounds_toArray, List.set_cons_zero, List.set_cons_succ]
      refine held_take 1 (some 15) (v := ?va1) rfl rfl (by kernel_rfl) (by kernel_rfl) (by kernel_rfl) (fun _ _ _ h => h) (by rfl) ?ya1 (by assumption) ?_
      case ya1 => ((intro w hSw); (try dsimp only at hSw); go_simp <;> (with_reducible rfl))
      try simp only [Act.put, List.setIfInBounds_toArray, List.set_cons_zero, List.set_cons_succ]
      refine held_take 2 (some 16) (v := ?va2) rfl rfl (by kernel_rfl) (by kernel_rfl) (by kernel_rfl) (fun _ _ _ h => h) (by rfl) ?ya2 (by assumption) ?_
      case ya2 => ((intro w hSw); (try dsimp only at hSw); go_simp <;> (with_reducible rfl))
      try simp only [Act.put, List.setIfInBounds_toArray, List.set_cons_zero, List.set_cons_succ]
      refine held_take 3 (some 17) (v := ?va3) rfl rfl (by kernel_rfl) (by kernel_rfl) (by kernel_rfl) (fun _ _ _ h => h) (by rfl) ?ya3 (by assumption) ?_
      case ya3 => ((intro w hSw); (try dsimp only at hSw); go_simp <;> (with_reducible rfl))
      try simp only [Act.put, List.setIfInBounds_toArray, List.set_cons_zero, List.set_cons_succ]
      refine held_take 4 (some 18) (v := ?va4) rfl rfl (by kernel_rfl) (by kernel_rfl) (by kernel_rfl) (fun _ _ _ h => h) (by rfl) ?ya4 (by assumption) ?_
      case ya4 => ((intro w hSw); (try dsimp only at hSw); go_simp <;> (with_reducible rfl))
      try simp only [Act.put, List.setIfInBounds_toArray, List.set_cons_zero, List.set_cons_succ]
      refine held_take 5 (some 19) (v := ?va5) rfl rfl (by kernel_rfl) (by kernel_rfl) (by kernel_rfl) (fun _ _ _ h => h) (by rfl) ?ya5 (by assumption) ?_
      case ya5 => ((intro w hSw); (try dsimp only at hSw); go_simp <;> (with_reducible rfl))
      try simp only [Act.put, List.setIfInBounds_toArray, List.set_cons_zero, List.set_cons_succ]
      refine held_take 6 (some 20) (v := ?va6) rfl rfl (by kernel_rfl) (by kernel_rfl) (by kernel_rfl) (fun _ _ _ h => h) (by rfl) ?ya6 (by assumption) ?_
      case ya6 => ((intro w hSw); (try dsimp only at hSw); go_simp <;> (with_reducible rfl))
      try simp only [Act.put, List.setIfInBounds_toArray, List.set_cons_zero, List.set_cons_succ]
      refine held_take 7 (some 21) (v := ?va7) rfl rfl (by kernel_rfl) (by kernel_rfl) (by kernel_rfl) (fun _ _ _ h => h) (by rfl) ?ya7 (by assumption) ?_
      case ya7 => ((intro w hSw); (try dsimp only at hSw); go_simp <;> (with_reducible rfl))
      try simp only [Act.put, List.setIfInBounds_toArray, List.set_cons_zero, List.set_cons_succ]
      refine held_take 8 (some 22) (v := ?va8) rfl rfl (by kernel_rfl) (by kernel_rfl) (by kernel_rfl) (fun _ _ _ h => h) (by rfl) ?ya8 (by assumption) ?_
      case ya8 => ((intro w hSw); (try dsimp only at hSw); go_simp <;> (with_reducible rfl))
      try simp only [Act.put, List.setIfInBounds_toArray, List.set_cons_zero, List.set_cons_succ]
      refine held_take 9 (some 23) (v := ?va9) rfl rfl (by kernel_rfl) (by kernel_rfl) (by kernel_rfl) (fun _ _ _ h => h) (by rfl) ?ya9 (by assumption) ?_
      case ya9 => ((intro w hSw); (try dsimp only at hSw); go_simp <;> (with_reducible rfl))
      try simp only [Act.put, List.setIfInBounds_toArray, List.set_cons_zero, List.set_cons_succ]
      refine held_take 10 (some 24) (v := ?va10) rfl rfl (by kernel_rfl) (by kernel_rfl) (by kernel_rfl) (fun _ _ _ h => h) (by rfl) ?ya10 (by assumption) ?_
      case ya10 => ((intro w hSw); (try dsimp only at hSw); go_simp <;> (with_reducible rfl))
      try simp only [Act.put, List.setIfInBounds_toArray, List.set_cons_zero, List.set_cons_succ]
      refine held_take 11 (some 25) (v := ?va11) rfl rfl (by kernel_rfl) (by kernel_rfl) (by kernel_rfl) (fun _ _ _ h => h) (by rfl) ?ya11 (by assumption) ?_
      case ya11 => ((intro w hSw); (try dsimp only at hSw); go_simp <;> (with_reducible rfl))
      try simp only [Act.put, List.setIfInBounds_toArray, List.set_cons_zero, List.set_cons_succ]
      refine held_take 12 (some 26) (v := ?va12) rfl rfl (by kernel_rfl) (by kernel_rfl) (by kernel_rfl) (fun _ _ _ h => h) (by rfl) ?ya12 (by assumption) ?_
      case ya12 => ((intro w hSw); (try dsimp only at hSw); go_simp <;> (with_reducible rfl))
      try simp only [Act.put, List.setIfInBounds_toArray, List.set_cons_zero, List.set_cons_succ]
      refine held_take 13 (some 27) (v := ?va13) rfl rfl (by kernel_rfl) (by kernel_rfl) (by kernel_rfl) (fun _ _ _ h => h) (by rfl) ?ya13 (by assumption) ?_
      case ya13 => ((intro w hSw); (try dsimp only at hSw); go_simp <;> (with_reducible rfl))
      try simp only [Act.put, List.setIfInBounds_toArray, List.set_cons_zero, List.set_cons_succ]
      refine wpAnyH_ready (rs := [14]) (by kernel_rfl) (by simp) ?_
      refine AllReadyH.cons rfl (fun K hK => ?_) AllReadyH.nil
      go_simp
      refine (IH.out lr r HSZ.out.2 plr pr _ HLRD.out HOD.out (by have := HSZ.out.1; omega)).mono ?_
      rintro e w4 ⟨⟨p4, rfl, ht4⟩, hb4⟩
      have K4 := cells6_below (by assumption) hb4
      have HT4 := Aside0.mk ht4
      have HA4 := Aside0.mk (HLLD.out.below hb4)
      have HB4 := Aside0.mk (HBD.out.trans (hb4.mono HBD.out.size))
      clear ht4 hb4
      refine hK.out _ _ ?hSa15 (fun hHeld => ?_)
      case hSa15 => first | assumption | go_keep
      clear hK K
      try simp only [Act.put, List.setIfInBounds_toArray, List.set_cons_zero, List.set_cons_succ]
      refine wpAnyH_ready (rs := [15]) (by kernel_rfl) (by simp) ?_
      refine AllReadyH.cons rfl (fun K hK => ?_) AllReadyH.nil
      go_simp
      refine (even_any pll ll lk lv p4 (joinN n lr k v r) _ HA4.out HT4.out (by have := HSZ.out.1; have := HZJ.out; omega)).mono ?_
      rintro e w5 ⟨⟨p5, rfl, ht5⟩, hb5⟩
      have K5 := cells6_below (by assumption) hb5
      have HT5 := Aside0.mk ht5
      have HB5 := Aside0.mk (HB4.out.trans (hb5.mono HB4.out.size))
      clear ht5 hb5
      refine hK.out _ _ ?hSa16 (fun hHeld => ?_)
      case hSa16 => first | assumption | go_keep
      clear hK K
      try simp only [Act.put, List.setIfInBounds_toArray, List.set_cons_zero, List.set_cons_succ]
      refine held_take 16 (some 6) (v := ?va16) rfl rfl (by kernel_rfl) (by kernel_rfl) (by kernel_rfl) (fun _ _ _ h => h) (by rfl) ?ya16 (by assumption) ?_
      case ya16 => ((intro w hSw); (try dsimp only at hSw); go_simp <;> (with_reducible rfl))
      try simp only [Act.put, List.setIfInBounds_toArray, List.set_cons_zero, List.set_cons_succ]
      refine wpAnyH_done (by kernel_rfl) ?_ _
      go_wp2
      go_ret
      exact ⟨⟨_, rfl, by rw [HEV.out]; exact HT5.out⟩, HB5.out⟩
  · have HC0 := Aside0.mk (show ¬ ht l > ht r + 1 by omega)
    go_wp2_with fail
    refine (high_any pr r w2 HR.out).mono ?_
    rintro e w3' ⟨rfl, rfl⟩
    go_wp2_with fail
    refine (high_any pl l w3' HL.out).mono ?_
    rintro e w2 ⟨rfl, rfl⟩
    by_cases hc3 : ((ht l : Nat) : Int) + 1 < ((ht r : Nat) : Int)
    · have HC1 := Aside0.mk (show ht r > ht l + 1 by omega)
      clear hc1
      go_wp2_with fail
      cases r with
      | leaf => simp [ht] at hc3; omega
      | node rl rk rv rr =>
        obtain ⟨gr, prl, prr, rfl, hgr, hrl, hrr⟩ := HR.out
        have HEV := Aside0.mk (show joinN (n + 1) l k v (.node rl rk rv rr) = evenT (joinN n l k v rl) rk rv rr from by conv => lhs; unfold joinN; rw [if_neg HC0.out, if_pos HC1.out])
        have HZJ := Aside0.mk (sz_join k v n l rl)
        have HSZ := Aside0.mk (show sz l + (sz rl + sz rr + 1) ≤ 50000 ∧ sz l + sz rl < n from ⟨by simp only [sz] at hs; omega, by have := HN.out; simp only [sz] at this; omega⟩)
        have hN : w2.cell? ⟨gr, 0, none⟩ = some (.int .u64 rk) ∧ w2.cell? ⟨gr, 1, none⟩ = some (.int .i64 rv) ∧ w2.cell? ⟨gr, 2, none⟩ = some (.pointer prl) ∧ w2.cell? ⟨gr, 3, none⟩ = some (.pointer prr) ∧ w2.cell? ⟨w.heap.size, 0, none⟩ = some (.int .u64 k) ∧ w2.cell? ⟨w.heap.size, 1, none⟩ = some (.int .i64 v) :=
          ⟨(node_cells hgr).1, (node_cells hgr).2.1, (node_cells hgr).2.2.1, (node_cells hgr).2.2.2, blk_cell HX0.out 0, blk_cell HX0.out 1⟩
        have HRLD := Aside0.mk (hrl.below (below_drew (Below.refl _ w2)))
        have HRRD := Aside0.mk (hrr.below (below_drew (Below.refl _ w2)))
        have HOD := Aside0.mk (HL.out.below (below_drew (Below.refl _ w2)))
        have HBD := Aside0.mk (HB0.out.trans ((below_drew (Below.refl _ w2)).mono HB0.out.size))
        clear hgr hrl hrr hl1 hr1 hs hc3 wr wl HL HR HB0 HX0
        refine wp_region_held_drew (S := (fun w' => w'.cell? ⟨gr, 0, none⟩ = some (.int .u64 rk) ∧ w'.cell? ⟨gr, 1, none⟩ = some (.int .i64 rv) ∧ w'.cell? ⟨gr, 2, none⟩ = some (.pointer prl) ∧ w'.cell? ⟨gr, 3, none⟩ = some (.pointer prr) ∧ w'.cell? ⟨w.heap.size, 0, none⟩ = some (.int .u64 k) ∧ w'.cell? ⟨w.heap.size, 1, none⟩ = some (.int .i64 v))) (by kernel_rfl) ?hSb0 (fun hHeld => ?_)
        case hSb0 => first | assumption | go_keep
        refine held_take 0 (some 37) (v := ?vb0) rfl rfl (by kernel_rfl) (by kernel_rfl) (by kernel_rfl) (fun _ _ _ h => h) (by rfl) ?yb0 (by assumption) ?_
        case yb0 => ((intro w hSw); (try dsimp only at hSw); go_simp <;> (with_reducible rfl))
        try simp only [Act.put, List.setIfInBounds_toArray, List.set_cons_zero, List.set_cons_succ]
        refine held_take 1 (some 38) (v := ?vb1) rfl rfl (by kernel_rfl) (by kernel_rfl) (by kernel_rfl) (fun _ _ _ h => h) (by rfl) ?yb1 (by assumption) ?_
        case yb1 => ((intro w hSw); (try dsimp only at hSw); go_simp <;> (with_reducible rfl))
        try simp only [Act.put, List.setIfInBounds_toArray, List.set_cons_zero, List.set_cons_succ]
        refine held_take 2 (some 39) (v := ?vb2) rfl rfl (by kernel_rfl) (by kernel_rfl) (by kernel_rfl) (fun _ _ _ h => h) (by rfl) ?yb2 (by assumption) ?_
        case yb2 => ((intro w hSw); (try dsimp only at hSw); go_simp <;> (with_reducible rfl))
        try simp only [Act.put, List.setIfInBounds_toArray, List.set_cons_zero, List.set_cons_succ]
        refine held_take 3 (some 40) (v := ?vb3) rfl rfl (by kernel_rfl) (by kernel_rfl) (by kernel_rfl) (fun _ _ _ h => h) (by rfl) ?yb3 (by assumption) ?_
        case yb3 => ((intro w hSw); (try dsimp only at hSw); go_simp <;> (with_reducible rfl))
        try simp only [Act.put, List.setIfInBounds_toArray, List.set_cons_zero, List.set_cons_succ]
        refine held_take 4 (some 41) (v := ?vb4) rfl rfl (by kernel_rfl) (by kernel_rfl) (by kernel_rfl) (fun _ _ _ h => h) (by rfl) ?yb4 (by assumption) ?_
        case yb4 => ((intro w hSw); (try dsimp only at hSw); go_simp <;> (with_reducible rfl))
        try simp only [Act.put, List.setIfInBounds_toArray, List.set_cons_zero, List.set_cons_succ]
        refine held_take 5 (some 42) (v := ?vb5) rfl rfl (by kernel_rfl) (by kernel_rfl) (by kernel_rfl) (fun _ _ _ h => h) (by rfl) ?yb5 (by assumption) ?_
        case yb5 => ((intro w hSw); (try dsimp only at hSw); go_simp <;> (with_reducible rfl))
        try simp only [Act.put, List.setIfInBounds_toArray, List.set_cons_zero, List.set_cons_succ]
        refine held_take 7 (some 44) (v := ?vb7) rfl rfl (by kernel_rfl) (by kernel_rfl) (by kernel_rfl) (fun _ _ _ h => h) (by rfl) ?yb7 (by assumption) ?_
        case yb7 => ((intro w hSw); (try dsimp only at hSw); go_simp <;> (with_reducible rfl))
        try simp only [Act.put, List.setIfInBounds_toArray, List.set_cons_zero, List.set_cons_succ]
        refine held_take 8 (some 45) (v := ?vb8) rfl rfl (by kernel_rfl) (by kernel_rfl) (by kernel_rfl) (fun _ _ _ h => h) (by rfl) ?yb8 (by assumption) ?_
        case yb8 => ((intro w hSw); (try dsimp only at hSw); go_simp <;> (with_reducible rfl))
        try simp only [Act.put, List.setIfInBounds_toArray, List.set_cons_zero, List.set_cons_succ]
        refine held_take 9 (some 46) (v := ?vb9) rfl rfl (by kernel_rfl) (by kernel_rfl) (by kernel_rfl) (fun _ _ _ h => h) (by rfl) ?yb9 (by assumption) ?_
        case yb9 => ((intro w hSw); (try dsimp only at hSw); go_simp <;> (with_reducible rfl))
        try simp only [Act.put, List.setIfInBounds_toArray, List.set_cons_zero, List.set_cons_succ]
        refine held_take 10 (some 47) (v := ?vb10) rfl rfl (by kernel_rfl) (by kernel_rfl) (by kernel_rfl) (fun _ _ _ h => h) (by rfl) ?yb10 (by assumption) ?_
        case yb10 => ((intro w hSw); (try dsimp only at hSw); go_simp <;> (with_reducible rfl))
        try simp only [Act.put, List.setIfInBounds_toArray, List.set_cons_zero, List.set_cons_succ]
        refine held_take 11 (some 48) (v := ?vb11) rfl rfl (by kernel_rfl) (by kernel_rfl) (by kernel_rfl) (fun _ _ _ h => h) (by rfl) ?yb11 (by assumption) ?_
        case yb11 => ((intro w hSw); (try dsimp only at hSw); go_simp <;> (with_reducible rfl))
        try simp only [Act.put, List.setIfInBounds_toArray, List.set_cons_zero, List.set_cons_succ]
        refine held_take 12 (some 49) (v := ?vb12) rfl rfl (by kernel_rfl) (by kernel_rfl) (by kernel_rfl) (fun _ _ _ h => h) (by rfl) ?yb12 (by assumption) ?_
        case yb12 => ((intro w hSw); (try dsimp only at hSw); go_simp <;> (with_reducible rfl))
        try simp only [Act.put, List.setIfInBounds_toArray, List.set_cons_zero, List.set_cons_succ]
        refine held_take 13 (some 50) (v := ?vb13) rfl rfl (by kernel_rfl) (by kernel_rfl) (by kernel_rfl) (fun _ _ _ h => h) (by rfl) ?yb13 (by assumption) ?_
        case yb13 => ((intro w hSw); (try dsimp only at hSw); go_simp <;> (with_reducible rfl))
        try simp only [Act.put, List.setIfInBounds_toArray, List.set_cons_zero, List.set_cons_succ]
        refine held_take 14 (some 51) (v := ?vb14) rfl rfl (by kernel_rfl) (by kernel_rfl) (by kernel_rfl) (fun _ _ _ h => h) (by rfl) ?yb14 (by assumption) ?_
        case yb14 => ((intro w hSw); (try dsimp only at hSw); go_simp <;> (with_reducible rfl))
        try simp only [Act.put, List.setIfInBounds_toArray, List.set_cons_zero, List.set_cons_succ]
        refine wpAnyH_ready (rs := [6]) (by kernel_rfl) (by simp) ?_
        refine AllReadyH.cons rfl (fun K hK => ?_) AllReadyH.nil
        go_simp
        refine (IH.out l rl HSZ.out.2 pl prl _ HOD.out HRLD.out (by have := HSZ.out.1; omega)).mono ?_
        rintro e w4 ⟨⟨p4, rfl, ht4⟩, hb4⟩
        have K4 := cells6_below (by assumption) hb4
        have HT4 := Aside0.mk ht4
        have HA4 := Aside0.mk (HRRD.out.below hb4)
        have HB4 := Aside0.mk (HBD.out.trans (hb4.mono HBD.out.size))
        clear ht4 hb4
        refine hK.out _ _ ?hSb7 (fun hHeld => ?_)
        case hSb7 => first | assumption | go_keep
        clear hK K
        try simp only [Act.put, List.setIfInBounds_toArray, List.set_cons_zero, List.set_cons_succ]
        refine wpAnyH_ready (rs := [15]) (by kernel_rfl) (by simp) ?_
        refine AllReadyH.cons rfl (fun K hK => ?_) AllReadyH.nil
        go_simp
        refine (even_any p4 (joinN n l k v rl) rk rv prr rr _ HT4.out HA4.out (by have := HSZ.out.1; have := HZJ.out; omega)).mono ?_
        rintro e w5 ⟨⟨p5, rfl, ht5⟩, hb5⟩
        have K5 := cells6_below (by assumption) hb5
        have HT5 := Aside0.mk ht5
        have HB5 := Aside0.mk (HB4.out.trans (hb5.mono HB4.out.size))
        clear ht5 hb5
        refine hK.out _ _ ?hSb16 (fun hHeld => ?_)
        case hSb16 => first | assumption | go_keep
        clear hK K
        try simp only [Act.put, List.setIfInBounds_toArray, List.set_cons_zero, List.set_cons_succ]
        refine held_take 16 (some 6) (v := ?vb16) rfl rfl (by kernel_rfl) (by kernel_rfl) (by kernel_rfl) (fun _ _ _ h => h) (by rfl) ?yb16 (by assumption) ?_
        case yb16 => ((intro w hSw); (try dsimp only at hSw); go_simp <;> (with_reducible rfl))
        try simp only [Act.put, List.setIfInBounds_toArray, List.set_cons_zero, List.set_cons_succ]
        refine wpAnyH_done (by kernel_rfl) ?_ _
        go_wp2
        go_ret
        exact ⟨⟨_, rfl, by rw [HEV.out]; exact HT5.out⟩, HB5.out⟩
    · have HEV := Aside0.mk (show joinN (n + 1) l k v r = .node l k v r from by unfold joinN; rw [if_neg HC0.out, if_neg (by omega)])
      have c0 := blk_cell HX0.out 0
      have c1 := blk_cell HX0.out 1
      have hm := made_any pl l k v pr r w2 HL.out HR.out (by omega)
      go_wp2_with fail
      refine hm.mono ?_
      rintro e w3 ⟨⟨p3, rfl, ht3⟩, hb3⟩
      have HT3 := Aside0.mk ht3
      have HB3 := Aside0.mk (HB0.out.trans (hb3.mono HB0.out.size))
      clear hm ht3 hb3 c0 c1
      go_wp2_with fail
      go_ret
      exact ⟨⟨_, rfl, by rw [HEV.out]; exact HT3.out⟩, HB3.out⟩
end Go.Proofs.Ytbiccahkniadfaa.H
/-! ### Tree11 -/
namespace Go.Proofs.Ytbiccahkniadfaa.H
open Go.RowKit Go.Proofs.Ytbiccahkniadfaa.P Go.Proofs.YtbiccahkniadfaaW.PrintWords Go.Proofs.YtbiccahkniadfaaW.PrintLast Go.Proofs.YtbiccahkniadfaaW.PrintMore
set_option linter.unusedVariables false
set_option linter.unusedSimpArgs false
def joinT (l : T) (k v : Int) (r : T) : T := joinN (sz l + sz r + 1) l k v r
def cutT (k : Int) : T → T × T
  | .leaf => (.leaf, .leaf)
  | .node l k1 v1 r => if k1 < k then (joinT l k1 v1 (cutT k r).1, (cutT k r).2) else ((cutT k l).1, joinT (cutT k l).2 k1 v1 r)
theorem sz_cut (k : Int) : ∀ t : T, sz (cutT k t).1 + sz (cutT k t).2 = sz t
  | .leaf => rfl
  | .node l k1 v1 r => by
    have h1 := sz_cut k l
    have h2 := sz_cut k r
    unfold cutT joinT
    split
    · dsimp only; rw [sz_join]; simp only [sz]; omega
    · dsimp only; rw [sz_join]; simp only [sz]; omega
set_option maxRecDepth 20000 in
set_option maxHeartbeats 4000000 in
theorem cut_any (k : Int) (t : T) : ∀ (p : Option Addr) (w : World), TreeAt w p t → sz t ≤ 40000 →
    Calls Try.prog 36 #[.pointer p, .int .u64 k] w fun e w' => (∃ x y, e = .returned (.tuple #[.pointer x, .pointer y]) ∧ TreeAt w' x (cutT k t).1 ∧ TreeAt w' y (cutT k t).2) ∧ Below w.heap.size w w' := by
  induction t with
  | leaf =>
    intro p w h hs
    obtain rfl : p = none := h
    go_enter Try.func36, Try.ntmps36
    go_wp2_with fail
    go_ret2
    exact ⟨⟨none, none, rfl, rfl, rfl⟩, Below.refl _ _⟩
  | node l k1 v1 r ihl ihr =>
    intro p w h hs
    obtain ⟨g, pl, pr, rfl, hg, hl, hr⟩ := h
    have HG0 := Aside0.mk hg
    have HL0 := Aside0.mk hl
    have HR0 := Aside0.mk hr
    have HSZ := Aside0.mk (show sz l + sz r + 1 ≤ 40000 by simp only [sz] at hs; omega)
    have IHL := Aside0.mk ihl
    have IHR := Aside0.mk ihr
    have HZL := Aside0.mk (sz_cut k l)
    have HZR := Aside0.mk (sz_cut k r)
    have d0 := (node_cells hg).1
    have d2 := (node_cells hg).2.2.1
    have d3 := (node_cells hg).2.2.2
    clear hg hl hr hs ihl ihr
    go_enter Try.func36, Try.ntmps36
    by_cases c1 : k1 < k
    · have HEV := Aside0.mk (show cutT k (.node l k1 v1 r) = (joinT l k1 v1 (cutT k r).1, (cutT k r).2) from by conv => lhs; unfold cutT; rw [if_pos c1])
      go_wp2_with fail
      refine (IHR.out pr w HR0.out (by have := HSZ.out; omega)).mono ?_
      rintro e w1 ⟨⟨x, y, rfl, hx, hy⟩, hb⟩
      have HX1 := Aside0.mk (hx.below (below_drew (Below.refl _ w1)))
      have HY1 := Aside0.mk (hy.below (below_drew (Below.refl _ w1)))
      have HO1 := Aside0.mk ((HL0.out.below hb).below (below_drew (Below.refl _ w1)))
      have hN : w1.cell? ⟨g, 0, none⟩ = some (.int .u64 k1) ∧ w1.cell? ⟨g, 1, none⟩ = some (.int .i64 v1) ∧ w1.cell? ⟨g, 2, none⟩ = some (.pointer pl) ∧ w1.cell? ⟨g, 3, none⟩ = some (.pointer pr) := node_cells (blk_below HG0.out hb)
      have HBD := Aside0.mk (hb.trans ((below_drew (Below.refl _ w1)).mono hb.size))
      clear hx hy hb d0 d2 d3
      go_wp2_with fail
      refine wp_region_held_drew (S := (fun w' => w'.cell? ⟨g, 0, none⟩ = some (.int .u64 k1) ∧ w'.cell? ⟨g, 1, none⟩ = some (.int .i64 v1) ∧ w'.cell? ⟨g, 2, none⟩ = some (.pointer pl) ∧ w'.cell? ⟨g, 3, none⟩ = some (.pointer pr))) (by kernel_rfl) ?hSa0 (fun hHeld => ?_)
      case hSa0 => first | assumption | go_keep
      refine held_take 0 (some 28) (v := ?va0) rfl rfl (by kernel_rfl) (by kernel_rfl) (by kernel_rfl) (fun _ _ _ h => h) (by rfl) ?ya0 (by assumption) ?_
      case ya0 => ((intro w hSw); (try dsimp only at hSw); go_simp <;> (with_reducible rfl))
      try simp only [Act.put, List.setIfInBounds_toArray, List.set_cons_zero, List.set_cons_succ]
      refine held_take 1 (some 29) (v := ?va1) rfl rfl (by kernel_rfl) (by kernel_rfl) (by kernel_rfl) (fun _ _ _ h => h) (by rfl) ?ya1 (by assumption) ?_
      case ya1 => ((intro w hSw); (try dsimp only at hSw); go_simp <;> (with_reducible rfl))
      try simp only [Act.put, List.setIfInBounds_toArray, List.set_cons_zero, List.set_cons_succ]
      refine held_take 2 (some 30) (v := ?va2) rfl rfl (by kernel_rfl) (by kernel_rfl) (by kernel_rfl) (fun _ _ _ h => h) (by rfl) ?ya2 (by assumption) ?_
      case ya2 => ((intro w hSw); (try dsimp only at hSw); go_simp <;> (with_reducible rfl))
      try simp only [Act.put, List.setIfInBounds_toArray, List.set_cons_zero, List.set_cons_succ]
      refine held_take 3 (some 31) (v := ?va3) rfl rfl (by kernel_rfl) (by kernel_rfl) (by kernel_rfl) (fun _ _ _ h => h) (by rfl) ?ya3 (by assumption) ?_
      case ya3 => ((intro w hSw); (try dsimp only at hSw); go_simp <;> (with_reducible rfl))
      try simp only [Act.put, List.setIfInBounds_toArray, List.set_cons_zero, List.set_cons_succ]
      refine held_take 4 (some 32) (v := ?va4) rfl rfl (by kernel_rfl) (by kernel_rfl) (by kernel_rfl) (fun _ _ _ h => h) (by rfl) ?ya4 (by assumption) ?_
      case ya4 => ((intro w hSw); (try dsimp only at hSw); go_simp <;> (with_reducible rfl))
      try simp only [Act.put, List.setIfInBounds_toArray, List.set_cons_zero, List.set_cons_succ]
      refine held_take 5 (some 33) (v := ?va5) rfl rfl (by kernel_rfl) (by kernel_rfl) (by kernel_rfl) (fun _ _ _ h => h) (by rfl) ?ya5 (by assumption) ?_
      case ya5 => ((intro w hSw); (try dsimp only at hSw); go_simp <;> (with_reducible rfl))
      try simp only [Act.put, List.setIfInBounds_toArray, List.set_cons_zero, List.set_cons_succ]
      refine held_take 6 (some 34) (v := ?va6) rfl rfl (by kernel_rfl) (by kernel_rfl) (by kernel_rfl) (fun _ _ _ h => h) (by rfl) ?ya6 (by assumption) ?_
      case ya6 => ((intro w hSw); (try dsimp only at hSw); go_simp <;> (with_reducible rfl))
      try simp only [Act.put, List.setIfInBounds_toArray, List.set_cons_zero, List.set_cons_succ]
      refine held_take 7 (some 35) (v := ?va7) rfl rfl (by kernel_rfl) (by kernel_rfl) (by kernel_rfl) (fun _ _ _ h => h) (by rfl) ?ya7 (by assumption) ?_
      case ya7 => ((intro w hSw); (try dsimp only at hSw); go_simp <;> (with_reducible rfl))
      try simp only [Act.put, List.setIfInBounds_toArray, List.set_cons_zero, List.set_cons_succ]
      refine held_take 8 (some 36) (v := ?va8) rfl rfl (by kernel_rfl) (by kernel_rfl) (by kernel_rfl) (fun _ _ _ h => h) (by rfl) ?ya8 (by assumption) ?_
      case ya8 => ((intro w hSw); (try dsimp only at hSw); go_simp <;> (with_reducible rfl))
      try simp only [Act.put, List.setIfInBounds_toArray, List.set_cons_zero, List.set_cons_succ]
      refine held_take 10 (some 38) (v := ?va10) rfl rfl (by kernel_rfl) (by kernel_rfl) (by kernel_rfl) (fun _ _ _ h => h) (by rfl) ?ya10 (by assumption) ?_
      case ya10 => ((intro w hSw); (try dsimp only at hSw); go_simp <;> (with_reducible rfl))
      try simp only [Act.put, List.setIfInBounds_toArray, List.set_cons_zero, List.set_cons_succ]
      refine wpAnyH_ready (rs := [9]) (by kernel_rfl) (by simp) ?_
      refine AllReadyH.cons rfl (fun K hK => ?_) AllReadyH.nil
      go_simp
      refine (join_any k1 v1 (sz l + sz (cutT k r).1 + 1) l (cutT k r).1 (by omega) pl x _ HO1.out HX1.out (by have := HSZ.out; have := HZR.out; omega)).mono ?_
      rintro e w5 ⟨⟨p5, rfl, ht5⟩, hb5⟩
      have K5 := cells4_below (by assumption) hb5
      have HT5 := Aside0.mk ht5
      have HY5 := Aside0.mk (HY1.out.below hb5)
      have HB5 := Aside0.mk (HBD.out.trans (hb5.mono HBD.out.size))
      clear ht5 hb5
      refine hK.out _ _ ?hSa10 (fun hHeld => ?_)
      case hSa10 => first | assumption | go_keep
      clear hK K
      try simp only [Act.put, List.setIfInBounds_toArray, List.set_cons_zero, List.set_cons_succ]
      refine held_take 11 (some 4) (v := ?va11) rfl rfl (by kernel_rfl) (by kernel_rfl) (by kernel_rfl) (fun _ _ _ h => h) (by rfl) ?ya11 (by assumption) ?_
      case ya11 => ((intro w hSw); (try dsimp only at hSw); go_simp <;> (with_reducible rfl))
      try simp only [Act.put, List.setIfInBounds_toArray, List.set_cons_zero, List.set_cons_succ]
      refine held_take 12 (some 5) (v := ?va12) rfl rfl (by kernel_rfl) (by kernel_rfl) (by kernel_rfl) (fun _ _ _ h => h) (by rfl) ?ya12 (by assumption) ?_
      case ya12 => ((intro w hSw); (try dsimp only at hSw); go_simp <;> (with_reducible rfl))
      try simp only [Act.put, List.setIfInBounds_toArray, List.set_cons_zero, List.set_cons_succ]
      refine wpAnyH_done (by kernel_rfl) ?_ _
      go_wp2
      go_ret2
      exact ⟨⟨p5, y, rfl, by rw [HEV.out]; exact HT5.out, by rw [HEV.out]; exact HY5.out⟩, HB5.out⟩
    · have HEV := Aside0.mk (show cutT k (.node l k1 v1 r) = ((cutT k l).1, joinT (cutT k l).2 k1 v1 r) from by conv => lhs; unfold cutT; rw [if_neg c1])
      go_wp2_with fail
      refine (IHL.out pl w HL0.out (by have := HSZ.out; omega)).mono ?_
      rintro e w1 ⟨⟨x, y, rfl, hx, hy⟩, hb⟩
      have HX1 := Aside0.mk (hx.below (below_drew (Below.refl _ w1)))
      have HY1 := Aside0.mk (hy.below (below_drew (Below.refl _ w1)))
      have HO1 := Aside0.mk ((HR0.out.below hb).below (below_drew (Below.refl _ w1)))
      have hN : w1.cell? ⟨g, 0, none⟩ = some (.int .u64 k1) ∧ w1.cell? ⟨g, 1, none⟩ = some (.int .i64 v1) ∧ w1.cell? ⟨g, 2, none⟩ = some (.pointer pl) ∧ w1.cell? ⟨g, 3, none⟩ = some (.pointer pr) := node_cells (blk_below HG0.out hb)
      have HBD := Aside0.mk (hb.trans ((below_drew (Below.refl _ w1)).mono hb.size))
      clear hx hy hb d0 d2 d3
      go_wp2_with fail
      refine wp_region_held_drew (S := (fun w' => w'.cell? ⟨g, 0, none⟩ = some (.int .u64 k1) ∧ w'.cell? ⟨g, 1, none⟩ = some (.int .i64 v1) ∧ w'.cell? ⟨g, 2, none⟩ = some (.pointer pl) ∧ w'.cell? ⟨g, 3, none⟩ = some (.pointer pr))) (by kernel_rfl) ?hSb0 (fun hHeld => ?_)
      case hSb0 => first | assumption | go_keep
      refine held_take 0 (some 48) (v := ?vb0) rfl rfl (by kernel_rfl) (by kernel_rfl) (by kernel_rfl) (fun _ _ _ h => h) (by rfl) ?yb0 (by assumption) ?_
      case yb0 => ((intro w hSw); (try dsimp only at hSw); go_simp <;> (with_reducible rfl))
      try simp only [Act.put, List.setIfInBounds_toArray, List.set_cons_zero, List.set_cons_succ]
      refine held_take 1 (some 49) (v := ?vb1) rfl rfl (by kernel_rfl) (by kernel_rfl) (by kernel_rfl) (fun _ _ _ h => h) (by rfl) ?yb1 (by assumption) ?_
      case yb1 => ((intro w hSw); (try dsimp only at hSw); go_simp <;> (with_reducible rfl))
      try simp only [Act.put, List.setIfInBounds_toArray, List.set_cons_zero, List.set_cons_succ]
      refine held_take 2 (some 50) (v := ?vb2) rfl rfl (by kernel_rfl) (by kernel_rfl) (by kernel_rfl) (fun _ _ _ h => h) (by rfl) ?yb2 (by assumption) ?_
      case yb2 => ((intro w hSw); (try dsimp only at hSw); go_simp <;> (with_reducible rfl))
      try simp only [Act.put, List.setIfInBounds_toArray, List.set_cons_zero, List.set_cons_succ]
      refine held_take 3 (some 51) (v := ?vb3) rfl rfl (by kernel_rfl) (by kernel_rfl) (by kernel_rfl) (fun _ _ _ h => h) (by rfl) ?yb3 (by assumption) ?_
      case yb3 => ((intro w hSw); (try dsimp only at hSw); go_simp <;> (with_reducible rfl))
      try simp only [Act.put, List.setIfInBounds_toArray, List.set_cons_zero, List.set_cons_succ]
      refine held_take 4 (some 52) (v := ?vb4) rfl rfl (by kernel_rfl) (by kernel_rfl) (by kernel_rfl) (fun _ _ _ h => h) (by rfl) ?yb4 (by assumption) ?_
      case yb4 => ((intro w hSw); (try dsimp only at hSw); go_simp <;> (with_reducible rfl))
      try simp only [Act.put, List.setIfInBounds_toArray, List.set_cons_zero, List.set_cons_succ]
      refine held_take 5 (some 53) (v := ?vb5) rfl rfl (by kernel_rfl) (by kernel_rfl) (by kernel_rfl) (fun _ _ _ h => h) (by rfl) ?yb5 (by assumption) ?_
      case yb5 => ((intro w hSw); (try dsimp only at hSw); go_simp <;> (with_reducible rfl))
      try simp only [Act.put, List.setIfInBounds_toArray, List.set_cons_zero, List.set_cons_succ]
      refine held_take 6 (some 54) (v := ?vb6) rfl rfl (by kernel_rfl) (by kernel_rfl) (by kernel_rfl) (fun _ _ _ h => h) (by rfl) ?yb6 (by assumption) ?_
      case yb6 => ((intro w hSw); (try dsimp only at hSw); go_simp <;> (with_reducible rfl))
      try simp only [Act.put, List.setIfInBounds_toArray, List.set_cons_zero, List.set_cons_succ]
      refine held_take 7 (some 55) (v := ?vb7) rfl rfl (by kernel_rfl) (by kernel_rfl) (by kernel_rfl) (fun _ _ _ h => h) (by rfl) ?yb7 (by assumption) ?_
      case yb7 => ((intro w hSw); (try dsimp only at hSw); go_simp <;> (with_reducible rfl))
      try simp only [Act.put, List.setIfInBounds_toArray, List.set_cons_zero, List.set_cons_succ]
      refine held_take 8 (some 56) (v := ?vb8) rfl rfl (by kernel_rfl) (by kernel_rfl) (by kernel_rfl) (fun _ _ _ h => h) (by rfl) ?yb8 (by assumption) ?_
      case yb8 => ((intro w hSw); (try dsimp only at hSw); go_simp <;> (with_reducible rfl))
      try simp only [Act.put, List.setIfInBounds_toArray, List.set_cons_zero, List.set_cons_succ]
      refine held_take 9 (some 57) (v := ?vb9) rfl rfl (by kernel_rfl) (by kernel_rfl) (by kernel_rfl) (fun _ _ _ h => h) (by rfl) ?yb9 (by assumption) ?_
      case yb9 => ((intro w hSw); (try dsimp only at hSw); go_simp <;> (with_reducible rfl))
      try simp only [Act.put, List.setIfInBounds_toArray, List.set_cons_zero, List.set_cons_succ]
      refine wpAnyH_ready (rs := [10]) (by kernel_rfl) (by simp) ?_
      refine AllReadyH.cons rfl (fun K hK => ?_) AllReadyH.nil
      go_simp
      refine (join_any k1 v1 (sz (cutT k l).2 + sz r + 1) (cutT k l).2 r (by omega) y pr _ HY1.out HO1.out (by have := HSZ.out; have := HZL.out; omega)).mono ?_
      rintro e w5 ⟨⟨p5, rfl, ht5⟩, hb5⟩
      have K5 := cells4_below (by assumption) hb5
      have HT5 := Aside0.mk ht5
      have HX5 := Aside0.mk (HX1.out.below hb5)
      have HB5 := Aside0.mk (HBD.out.trans (hb5.mono HBD.out.size))
      clear ht5 hb5
      refine hK.out _ _ ?hSb11 (fun hHeld => ?_)
      case hSb11 => first | assumption | go_keep
      clear hK K
      try simp only [Act.put, List.setIfInBounds_toArray, List.set_cons_zero, List.set_cons_succ]
      refine held_take 11 (some 4) (v := ?vb11) rfl rfl (by kernel_rfl) (by kernel_rfl) (by kernel_rfl) (fun _ _ _ h => h) (by rfl) ?yb11 (by assumption) ?_
      case yb11 => ((intro w hSw); (try dsimp only at hSw); go_simp <;> (with_reducible rfl))
      try simp only [Act.put, List.setIfInBounds_toArray, List.set_cons_zero, List.set_cons_succ]
      refine held_take 12 (some 5) (v := ?vb12) rfl rfl (by kernel_rfl) (by kernel_rfl) (by kernel_rfl) (fun _ _ _ h => h) (by rfl) ?yb12 (by assumption) ?_
      case yb12 => ((intro w hSw); (try dsimp only at hSw); go_simp <;> (with_reducible rfl))
      try simp only [Act.put, List.setIfInBounds_toArray, List.set_cons_zero, List.set_cons_succ]
      refine wpAnyH_done (by kernel_rfl) ?_ _
      go_wp2
      go_ret2
      exact ⟨⟨x, p5, rfl, by rw [HEV.out]; exact HX5.out, by rw [HEV.out]; exact HT5.out⟩, HB5.out⟩
set_option maxRecDepth 20000 in
set_option maxHeartbeats 1600000 in
theorem split_any (P : Option Addr) (k : Int) (t : T) (w : World) (h : RootAt w P t) (hs : sz t ≤ 40000) :
    Calls Try.prog 25 #[.pointer P, .int .u64 k] w fun e w' => (∃ x y, e = .returned (.tuple #[.pointer (some ⟨x, 0, none⟩), .pointer (some ⟨y, 0, none⟩)]) ∧ RootAt w' (some ⟨x, 0, none⟩) (cutT k t).1 ∧ RootAt w' (some ⟨y, 0, none⟩) (cutT k t).2) ∧ Below w.heap.size w w' := by
  have HTP := Aside0.mk (top_any P t w h)
  clear h
  go_enter Try.func25, Try.ntmps25
  go_wp2_with fail
  refine HTP.out.mono ?_
  rintro e w2 ⟨⟨p, rfl, ht⟩, rfl⟩
  have hc := cut_any k t p w2 ht hs
  clear ht
  go_wp2_with fail
  refine hc.mono ?_
  rintro e w3 ⟨⟨x, y, rfl, hx, hy⟩, hb⟩
  have HX := Aside0.mk hx
  have HY := Aside0.mk hy
  have HB := Aside0.mk hb
  clear hx hy hb hc
  go_wp2_with fail
  have hb1 : Below w3.heap.size w3 (w3.alloc (.cells #[.pointer x] 63)) := (Below.refl _ _).alloc (Nat.le_refl _) _
  have hb2 : Below (w3.alloc (.cells #[.pointer x] 63)).heap.size (w3.alloc (.cells #[.pointer x] 63)) ((w3.alloc (.cells #[.pointer x] 63)).alloc (.cells #[.pointer y] 63)) := (Below.refl _ _).alloc (Nat.le_refl _) _
  have hsz : (w3.alloc (.cells #[.pointer x] 63)).heap.size = w3.heap.size + 1 := by simp
  go_ret2
  refine ⟨⟨_, _, rfl, .inr ⟨_, x, rfl, blk_below (blk_new w3 _) hb2, (HX.out.below hb1).below hb2⟩, .inr ⟨_, y, rfl, ?_, (HY.out.below hb1).below hb2⟩⟩, (HB.out.trans (hb1.mono HB.out.size)).trans (hb2.mono (Nat.le_trans HB.out.size (by rw [hsz]; omega)))⟩
  have := blk_new (w3.alloc (.cells #[.pointer x] 63)) (.cells #[.pointer y] 63)
  rw [hsz] at this
  exact this
end Go.Proofs.Ytbiccahkniadfaa.H
/-! ### TreeA -/
namespace Go.Proofs.Ytbiccahkniadfaa.H
open Go.RowKit Go.Proofs.Ytbiccahkniadfaa.P Go.Proofs.YtbiccahkniadfaaW.PrintWords Go.Proofs.YtbiccahkniadfaaW.PrintLast Go.Proofs.YtbiccahkniadfaaW.PrintMore
set_option linter.unusedVariables false
set_option linter.unusedSimpArgs false
theorem put_ok (P : Option Addr) (k v : Int) (t : T) (w : World) (h : RootAt w P t) (hs : sz t ≤ 40000) (hf : fullT k t = false) :
    Calls Try.prog 10 #[.pointer P, .int .u64 k, .int .i64 v] w fun e w' => (∃ g, e = .returned (.tuple #[.pointer (some ⟨g, 0, none⟩), .int .i64 0]) ∧ RootAt w' (some ⟨g, 0, none⟩) (withT k v t)) ∧ Below w.heap.size w w' := by
  refine (put_any P k v t w h hs).mono ?_
  rintro e w' ⟨⟨h1, _⟩ | ⟨_, h2⟩, hb⟩
  · rw [hf] at h1; cases h1
  · exact ⟨h2, hb⟩
theorem put_full (P : Option Addr) (k v : Int) (t : T) (w : World) (h : RootAt w P t) (hs : sz t ≤ 40000) (hf : fullT k t = true) :
    Calls Try.prog 10 #[.pointer P, .int .u64 k, .int .i64 v] w fun e w' => e = .returned (.tuple #[.pointer none, .int .i64 41]) ∧ Below w.heap.size w w' := by
  refine (put_any P k v t w h hs).mono ?_
  rintro e w' ⟨⟨_, h1⟩ | ⟨h2, _⟩, hb⟩
  · exact ⟨h1, hb⟩
  · rw [hf] at h2; cases h2
theorem drop_ok (P : Option Addr) (k : Int) (t : T) (w : World) (h : RootAt w P t) (hs : sz t ≤ 40000) (hf : hasT k t = true) :
    Calls Try.prog 11 #[.pointer P, .int .u64 k] w fun e w' => (∃ g, e = .returned (.tuple #[.pointer (some ⟨g, 0, none⟩), .int .i64 0]) ∧ RootAt w' (some ⟨g, 0, none⟩) (withoutT k t)) ∧ Below w.heap.size w w' := by
  refine (drop_any P k t w h hs).mono ?_
  rintro e w' ⟨⟨h1, _⟩ | ⟨_, h2⟩, hb⟩
  · rw [hf] at h1; cases h1
  · exact ⟨h2, hb⟩
def tA : T := withT 5 50 .leaf
def tB : T := withT 3 30 tA
def tC : T := withoutT 5 tB
theorem sA : sz tA = 1 := by kernel_rfl
theorem sB : sz tB = 2 := by kernel_rfl
theorem sC : sz tC = 1 := by kernel_rfl
theorem hB : ht tB = 2 := by kernel_rfl
theorem eF : floorT 4 tB = ((3, 30), true) := by kernel_rfl
theorem eC : ceilT 4 tB = ((5, 50), true) := by kernel_rfl
set_option maxRecDepth 20000 in
set_option maxHeartbeats 2000000 in
theorem alive_any (w : World) : Calls Try.prog 13 #[] w fun e w' => e = .returned (.bool true) ∧ Below w.heap.size w w' := by
  go_enter Try.func13, Try.ntmps13
  go_wp2_with fail
  refine (new_any w).mono ?_
  rintro e w1 ⟨⟨g0, rfl, h0⟩, hb1⟩
  have HB1 := Aside0.mk hb1
  have H0 := Aside0.mk h0
  clear hb1 h0
  go_wp2_with fail
  refine (put_ok _ 5 50 .leaf w1 H0.out (by decide) (by kernel_rfl)).mono ?_
  rintro e w2 ⟨⟨gA, rfl, hA⟩, hb⟩
  have HB2 := Aside0.mk (HB1.out.trans (hb.mono HB1.out.size))
  have HA2 := Aside0.mk (show RootAt w2 (some ⟨gA, 0, none⟩) tA from hA)
  clear hb hA
  go_wp2_with fail
  refine (put_ok _ 3 30 tA w2 HA2.out (by rw [sA]; decide) (by kernel_rfl)).mono ?_
  rintro e w3 ⟨⟨gB, rfl, hBB⟩, hb⟩
  have HB3 := Aside0.mk (HB2.out.trans (hb.mono HB2.out.size))
  have HBB3 := Aside0.mk (show RootAt w3 (some ⟨gB, 0, none⟩) tB from hBB)
  have HA3 := Aside0.mk (HA2.out.below hb)
  clear hb hBB HA2
  go_wp2_with fail
  refine (drop_ok _ 5 tB w3 HBB3.out (by rw [sB]; decide) (by kernel_rfl)).mono ?_
  rintro e w4 ⟨⟨gC, rfl, hC⟩, hb⟩
  have HB4 := Aside0.mk (HB3.out.trans (hb.mono HB3.out.size))
  have HC4 := Aside0.mk (show RootAt w4 (some ⟨gC, 0, none⟩) tC from hC)
  have HBB4 := Aside0.mk (HBB3.out.below hb)
  have HA4 := Aside0.mk (HA3.out.below hb)
  clear hb hC HA3 HBB3
  go_wp2_with fail
  have hfl := floor_any _ 4 tB w4 HBB4.out (by rw [sB]; decide)
  rw [eF] at hfl
  refine hfl.mono ?_
  rintro e w5 ⟨rfl, hb⟩
  have HB5 := Aside0.mk (HB4.out.trans (hb.mono HB4.out.size))
  have HC5 := Aside0.mk (HC4.out.below hb)
  have HBB5 := Aside0.mk (HBB4.out.below hb)
  have HA5 := Aside0.mk (HA4.out.below hb)
  clear hb hfl HA4 HBB4 HC4
  have hn6 : Below w5.heap.size w5 (w5.alloc (.cells #[.int .u64 3, .int .i64 30] 45)) := (Below.refl w5.heap.size w5).alloc (Nat.le_refl _) _
  have HY6 := Aside0.mk (blk_new w5 (.cells #[.int .u64 3, .int .i64 30] 45))
  have HB6 := Aside0.mk (HB5.out.trans (hn6.mono HB5.out.size))
  have HC6 := Aside0.mk (HC5.out.below hn6)
  have HBB6 := Aside0.mk (HBB5.out.below hn6)
  have HA6 := Aside0.mk (HA5.out.below hn6)
  clear hn6 HA5 HBB5 HC5 HB5
  go_wp2_with fail
  generalize (w5.alloc (.cells #[.int .u64 3, .int .i64 30] 45)) = w6 at *
  have hfl := ceil_any _ 4 tB w6 HBB6.out (by rw [sB]; decide)
  rw [eC] at hfl
  refine hfl.mono ?_
  rintro e w7 ⟨rfl, hb⟩
  have HB7 := Aside0.mk (HB6.out.trans (hb.mono HB6.out.size))
  have HC7 := Aside0.mk (HC6.out.below hb)
  have HBB7 := Aside0.mk (HBB6.out.below hb)
  have HA7 := Aside0.mk (HA6.out.below hb)
  have HY7 := Aside0.mk (blk_below HY6.out hb)
  clear hb hfl HA6 HBB6 HC6 HB6 HY6
  have hn8 : Below w7.heap.size w7 (w7.alloc (.cells #[.int .u64 5, .int .i64 50] 45)) := (Below.refl w7.heap.size w7).alloc (Nat.le_refl _) _
  have HZ8 := Aside0.mk (blk_new w7 (.cells #[.int .u64 5, .int .i64 50] 45))
  have HY8 := Aside0.mk (blk_below HY7.out hn8)
  have HB8 := Aside0.mk (HB7.out.trans (hn8.mono HB7.out.size))
  have HC8 := Aside0.mk (HC7.out.below hn8)
  have HBB8 := Aside0.mk (HBB7.out.below hn8)
  have HA8 := Aside0.mk (HA7.out.below hn8)
  clear hn8 HA7 HBB7 HC7 HB7 HY7
  go_wp2_with fail
  generalize (w7.alloc (.cells #[.int .u64 5, .int .i64 50] 45)) = w8 at *
  have l1 := len_any _ tA w8 HA8.out
  have l2 := len_any _ tB w8 HBB8.out
  have l3 := len_any _ tC w8 HC8.out
  have l4 := height_any _ tB w8 HBB8.out
  rw [sA] at l1
  rw [sB] at l2
  rw [sC] at l3
  rw [hB] at l4
  have y0 := blk_cell HY8.out 0
  have y1 := blk_cell HY8.out 1
  have z0 := blk_cell HZ8.out 0
  have z1 := blk_cell HZ8.out 1
  go_wp2_with fail
  refine l1.mono ?_
  rintro e w9 ⟨rfl, rfl⟩
  go_wp2_with fail
  refine l2.mono ?_
  rintro e w9 ⟨rfl, rfl⟩
  go_wp2_with fail
  refine l3.mono ?_
  rintro e w9 ⟨rfl, rfl⟩
  go_wp2_with fail
  refine l4.mono ?_
  rintro e w9 ⟨rfl, rfl⟩
  go_wp2_with fail
  refine l4.mono ?_
  rintro e w9 ⟨rfl, rfl⟩
  go_wp2_with fail
  go_ret
  exact ⟨rfl, HB8.out⟩
end Go.Proofs.Ytbiccahkniadfaa.H
/-! ### TreeB -/
namespace Go.Proofs.Ytbiccahkniadfaa.H
open Go.RowKit Go.Proofs.Ytbiccahkniadfaa.P Go.Proofs.YtbiccahkniadfaaW.PrintWords Go.Proofs.YtbiccahkniadfaaW.PrintLast Go.Proofs.YtbiccahkniadfaaW.PrintMore
set_option linter.unusedVariables false
set_option linter.unusedSimpArgs false
/-! ### balance -/
def bal : T → Prop
  | .leaf => True
  | .node l _ _ r => bal l ∧ bal r ∧ ht l ≤ ht r + 1 ∧ ht r ≤ ht l + 1
theorem bal_even (l : T) (k v : Int) (r : T) (hl : bal l) (hr : bal r) (h1 : ht l ≤ ht r + 2) (h2 : ht r ≤ ht l + 2) :
    bal (evenT l k v r) ∧ ht (evenT l k v r) ≤ 1 + max (ht l) (ht r) ∧ max (ht l) (ht r) ≤ ht (evenT l k v r) ∧ (ht l ≤ ht r + 1 → ht r ≤ ht l + 1 → ht (evenT l k v r) = 1 + max (ht l) (ht r)) := by
  unfold evenT
  split
  · rename_i hc
    cases l with
    | leaf => simp [ht] at hc
    | node ll lk lv lr =>
      obtain ⟨b1, b2, b3, b4⟩ := hl
      simp only [ht] at h1 h2 hc
      dsimp only
      split
      · refine ⟨⟨b1, ⟨b2, hr, by omega, by omega⟩, by simp only [ht]; omega, by simp only [ht]; omega⟩, by simp only [ht]; omega, by simp only [ht]; omega, fun h3 h4 => by simp only [ht] at h3 h4 ⊢; omega⟩
      · cases lr with
        | leaf => rename_i hn; simp [ht] at hn
        | node m1 mk mv m2 =>
          obtain ⟨c1, c2, c3, c4⟩ := b2
          simp only [ht] at *
          refine ⟨⟨⟨b1, c1, by omega, by omega⟩, ⟨c2, hr, by omega, by omega⟩, by simp only [ht]; omega, by simp only [ht]; omega⟩, by omega, by omega, fun h3 h4 => by omega⟩
  · rename_i hc
    split
    · rename_i hd
      cases r with
      | leaf => simp [ht] at hd
      | node rl rk rv rr =>
        obtain ⟨b1, b2, b3, b4⟩ := hr
        simp only [ht] at h1 h2 hd hc
        dsimp only
        split
        · refine ⟨⟨⟨hl, b1, by omega, by omega⟩, b2, by simp only [ht]; omega, by simp only [ht]; omega⟩, by simp only [ht]; omega, by simp only [ht]; omega, fun h3 h4 => by simp only [ht] at h3 h4 ⊢; omega⟩
        · cases rl with
          | leaf => rename_i hn; simp [ht] at hn
          | node m1 mk mv m2 =>
            obtain ⟨c1, c2, c3, c4⟩ := b1
            simp only [ht] at *
            refine ⟨⟨⟨hl, c1, by omega, by omega⟩, ⟨c2, b2, by omega, by omega⟩, by simp only [ht]; omega, by simp only [ht]; omega⟩, by omega, by omega, fun h3 h4 => by omega⟩
    · refine ⟨⟨hl, hr, by omega, by omega⟩, by simp only [ht]; omega, by simp only [ht]; omega, fun _ _ => by simp only [ht]⟩
theorem bal_with (k v : Int) : ∀ t : T, bal t → bal (withT k v t) ∧ (ht (withT k v t) = ht t ∨ ht (withT k v t) = ht t + 1)
  | .leaf, _ => ⟨⟨trivial, trivial, Nat.zero_le _, Nat.zero_le _⟩, .inr rfl⟩
  | .node l k1 v1 r, ⟨b1, b2, b3, b4⟩ => by
    have il := bal_with k v l b1
    have ir := bal_with k v r b2
    unfold withT
    split
    · have h := bal_even (withT k v l) k1 v1 r il.1 b2 (by omega) (by omega)
      refine ⟨h.1, ?_⟩
      simp only [ht]
      by_cases c : ht (withT k v l) ≤ ht r + 1
      · have := h.2.2.2 c (by omega); omega
      · omega
    · split
      · have h := bal_even l k1 v1 (withT k v r) b1 ir.1 (by omega) (by omega)
        refine ⟨h.1, ?_⟩
        simp only [ht]
        by_cases c : ht (withT k v r) ≤ ht l + 1
        · have := h.2.2.2 (by omega) c; omega
        · omega
      · exact ⟨⟨b1, b2, b3, b4⟩, .inl rfl⟩
def minN : Nat → Nat
  | 0 => 0
  | 1 => 1
  | n + 2 => 1 + minN (n + 1) + minN n
theorem minN_le : ∀ n, minN n ≤ minN (n + 1)
  | 0 => by decide
  | 1 => by decide
  | n + 2 => by
    have h1 := minN_le n
    have h2 : minN (n + 1) ≤ minN (n + 2) := minN_le (n + 1)
    show 1 + minN (n + 1) + minN n ≤ 1 + minN (n + 2) + minN (n + 1)
    omega
theorem minN_mono {m n : Nat} (h : m ≤ n) : minN m ≤ minN n := by
  induction h with
  | refl => exact Nat.le_refl _
  | step _ ih => exact Nat.le_trans ih (minN_le _)
theorem bal_size : ∀ t : T, bal t → minN (ht t) ≤ sz t
  | .leaf, _ => Nat.le_refl _
  | .node l k v r, ⟨b1, b2, b3, b4⟩ => by
    have h1 := bal_size l b1
    have h2 := bal_size r b2
    simp only [ht, sz]
    have key : ∀ a b : Nat, a ≤ b → b ≤ a + 1 → minN (1 + b) ≤ 1 + minN b + minN a := by
      intro a b h3 h4
      rcases Nat.lt_or_ge a b with h5 | h5
      · obtain rfl : b = a + 1 := by omega
        rw [show 1 + (a + 1) = a + 2 by omega]
        exact Nat.le_refl _
      · obtain rfl : a = b := by omega
        cases a with
        | zero => decide
        | succ n =>
          rw [show 1 + (n + 1) = n + 2 by omega]
          show 1 + minN (n + 1) + minN n ≤ _
          have := minN_le n
          omega
    rcases Nat.le_total (ht l) (ht r) with h | h
    · rw [Nat.max_eq_right h]
      have := key _ _ h b4
      omega
    · rw [Nat.max_eq_left h]
      have := key _ _ h b3
      omega
theorem low (t : T) (hb : bal t) (hs : sz t ≤ 1024) : ht t ≤ 17 := by
  rcases Nat.lt_or_ge (ht t) 18 with h | h
  · omega
  · have h1 := minN_mono h
    have h2 := bal_size t hb
    have h3 : minN 18 = 6764 := by decide
    omega
/-! ### order -/
theorem toL_even (l : T) (k v : Int) (r : T) : toL (evenT l k v r) = toL l ++ (k, v) :: toL r := by
  unfold evenT
  split
  · split
    · rfl
    · split
      · simp [toL]
      · split
        · rfl
        · simp [toL]
  · split
    · split
      · rfl
      · split
        · simp [toL]
        · split
          · rfl
          · simp [toL]
    · rfl
def srt (t : T) : Prop := (toL t).Pairwise fun a b => a.1 < b.1
theorem srt_node {l : T} {k v : Int} {r : T} (h : srt (.node l k v r)) : srt l ∧ srt r ∧ (∀ a ∈ toL l, a.1 < k) ∧ (∀ b ∈ toL r, k < b.1) := by
  unfold srt at h
  rw [toL, List.pairwise_append] at h
  obtain ⟨h1, h2, h3⟩ := h
  rw [List.pairwise_cons] at h2
  exact ⟨h1, h2.2, fun a ha => h3 a ha _ List.mem_cons_self, fun b hb => h2.1 b hb⟩
theorem get_iff (k v : Int) : ∀ t : T, srt t → (getT k t = some v ↔ (k, v) ∈ toL t)
  | .leaf, _ => by simp [getT, toL]
  | .node l k1 v1 r, h => by
    obtain ⟨h1, h2, h3, h4⟩ := srt_node h
    have il := get_iff k v l h1
    have ir := get_iff k v r h2
    unfold getT
    rw [toL, List.mem_append, List.mem_cons]
    split
    · rename_i c
      rw [il]
      exact ⟨.inl, fun o => o.elim id fun o => o.elim (fun e => by cases e; omega) fun o => by have := h4 _ o; simp at this; omega⟩
    · split
      · rename_i c
        rw [ir]
        exact ⟨fun o => .inr (.inr o), fun o => o.elim (fun o => by have := h3 _ o; simp at this; omega) fun o => o.elim (fun e => by cases e; omega) id⟩
      · have e : k = k1 := by omega
        subst e
        constructor
        · intro e; cases e; exact .inr (.inl rfl)
        · rintro (o | o | o)
          · have := h3 _ o; simp at this
          · cases o; rfl
          · have := h4 _ o; simp at this
theorem has_iff (k : Int) (t : T) (h : srt t) : hasT k t = true ↔ ∃ v, (k, v) ∈ toL t := by
  rw [← get_has, Option.isSome_iff_exists]
  exact exists_congr fun v => get_iff k v t h
/-- A pair is laid among others. -/
theorem mem_with (k v : Int) : ∀ t : T, srt t → srt (withT k v t) ∧ ∀ a b, (a, b) ∈ toL (withT k v t) ↔ (a = k ∧ b = v) ∨ (a ≠ k ∧ (a, b) ∈ toL t)
  | .leaf, _ => by
    refine ⟨by simp [srt, withT, toL], fun a b => ?_⟩
    simp [withT, toL]
  | .node l k1 v1 r, h => by
    obtain ⟨h1, h2, h3, h4⟩ := srt_node h
    obtain ⟨sl, ml⟩ := mem_with k v l h1
    obtain ⟨sr, mr⟩ := mem_with k v r h2
    unfold withT
    split
    · rename_i c
      refine ⟨?_, fun a b => ?_⟩
      · unfold srt
        rw [toL_even, List.pairwise_append, List.pairwise_cons]
        refine ⟨sl, ⟨fun b hb => h4 b hb, h2⟩, fun a ha b hb => ?_⟩
        have ha1 : a.1 < k1 := by
          rcases (ml a.1 a.2).1 ha with ⟨e, _⟩ | ⟨_, o⟩
          · omega
          · exact h3 _ o
        rw [List.mem_cons] at hb
        rcases hb with rfl | hb
        · exact ha1
        · have := h4 b hb; omega
      · rw [toL_even, List.mem_append, List.mem_cons, ml, toL, List.mem_append, List.mem_cons]
        constructor
        · rintro ((o | o) | o | o)
          · exact .inl o
          · exact .inr ⟨o.1, .inl o.2⟩
          · cases o; exact .inr ⟨by omega, .inr (.inl rfl)⟩
          · exact .inr ⟨by have := h4 _ o; simp at this; omega, .inr (.inr o)⟩
        · rintro (o | ⟨o1, o | o | o⟩)
          · exact .inl (.inl o)
          · exact .inl (.inr ⟨o1, o⟩)
          · exact .inr (.inl o)
          · exact .inr (.inr o)
    · split
      · rename_i c
        refine ⟨?_, fun a b => ?_⟩
        · unfold srt
          rw [toL_even, List.pairwise_append, List.pairwise_cons]
          have hr1 : ∀ b ∈ toL (withT k v r), k1 < b.1 := fun b hb => by
            rcases (mr b.1 b.2).1 hb with ⟨e, _⟩ | ⟨_, o⟩
            · omega
            · exact h4 _ o
          refine ⟨h1, ⟨hr1, sr⟩, fun a ha b hb => ?_⟩
          rw [List.mem_cons] at hb
          rcases hb with rfl | hb
          · exact h3 a ha
          · have := h3 a ha; have := hr1 b hb; omega
        · rw [toL_even, List.mem_append, List.mem_cons, mr, toL, List.mem_append, List.mem_cons]
          constructor
          · rintro (o | o | o | o)
            · exact .inr ⟨by have := h3 _ o; simp at this; omega, .inl o⟩
            · cases o; exact .inr ⟨by omega, .inr (.inl rfl)⟩
            · exact .inl o
            · exact .inr ⟨o.1, .inr (.inr o.2)⟩
          · rintro (o | ⟨o1, o | o | o⟩)
            · exact .inr (.inr (.inl o))
            · exact .inl o
            · exact .inr (.inl o)
            · exact .inr (.inr (.inr ⟨o1, o⟩))
      · have e : k = k1 := by omega
        subst e
        refine ⟨?_, fun a b => ?_⟩
        · unfold srt
          rw [toL, List.pairwise_append, List.pairwise_cons]
          refine ⟨h1, ⟨fun b hb => h4 b hb, h2⟩, fun a ha b hb => ?_⟩
          rw [List.mem_cons] at hb
          rcases hb with rfl | hb
          · exact h3 a ha
          · have := h3 a ha; have := h4 b hb; omega
        · rw [toL, List.mem_append, List.mem_cons, toL, List.mem_append, List.mem_cons]
          constructor
          · rintro (o | o | o)
            · exact .inr ⟨by have := h3 _ o; simp at this; omega, .inl o⟩
            · cases o; exact .inl ⟨rfl, rfl⟩
            · exact .inr ⟨by have := h4 _ o; simp at this; omega, .inr (.inr o)⟩
          · rintro (⟨rfl, rfl⟩ | ⟨o1, o | o | o⟩)
            · exact .inr (.inl rfl)
            · exact .inl o
            · cases o; exact absurd rfl o1
            · exact .inr (.inr o)
theorem sz_with_eq (k v : Int) : ∀ t : T, sz (withT k v t) = sz t + if hasT k t then 0 else 1
  | .leaf => rfl
  | .node l k1 v1 r => by
    have il := sz_with_eq k v l
    have ir := sz_with_eq k v r
    unfold withT hasT
    split
    · rw [sz_even, il]; simp only [sz]; omega
    · split
      · rw [sz_even, ir]; simp only [sz]; omega
      · simp [sz]
theorem toL_least : ∀ (l : T) (k v : Int) (r : T), toL (.node l k v r) = (leastT (.node l k v r)).1 :: toL (leastT (.node l k v r)).2
  | .leaf, k, v, r => rfl
  | .node ll lk lv lr, k, v, r => by
    have ih := toL_least ll lk lv lr
    rw [leastT, toL_even, toL, ih]
    rfl
theorem toL_without (k : Int) : ∀ t : T, (toL (withoutT k t)).Sublist (toL t) ∧ (hasT k t = true → sz (withoutT k t) + 1 = sz t)
  | .leaf => ⟨List.Sublist.refl _, fun h => by cases h⟩
  | .node l k1 v1 r => by
    have il := toL_without k l
    have ir := toL_without k r
    unfold withoutT hasT
    split
    · rw [toL_even, toL, sz_even]
      exact ⟨il.1.append (List.Sublist.refl _), fun h => by have := il.2 h; simp only [sz]; omega⟩
    · split
      · rw [toL_even, toL, sz_even]
        exact ⟨(List.Sublist.refl _).append (ir.1.cons_cons _), fun h => by have := ir.2 h; simp only [sz]; omega⟩
      · cases r with
        | leaf =>
          refine ⟨?_, fun _ => by simp only [sz]; omega⟩
          rw [toL]
          exact List.sublist_append_left _ _
        | node rl rk rv rr =>
          have h1 := toL_least rl rk rv rr
          have h2 := congrArg List.length h1
          rw [List.length_cons, toL_len, toL_len] at h2
          dsimp only
          rw [toL_even, sz_even, toL]
          refine ⟨?_, fun _ => by simp only [sz] at h2 ⊢; omega⟩
          rw [show ((leastT (.node rl rk rv rr)).1.1, (leastT (.node rl rk rv rr)).1.2) = (leastT (.node rl rk rv rr)).1 from rfl, ← h1]
          exact (List.Sublist.refl _).append (List.sublist_cons_self _ _)
end Go.Proofs.Ytbiccahkniadfaa.H
/-! ### TreeE -/
namespace Go.Proofs.Ytbiccahkniadfaa.H
open Go.RowKit Go.Proofs.Ytbiccahkniadfaa.P Go.Proofs.YtbiccahkniadfaaW.PrintWords Go.Proofs.YtbiccahkniadfaaW.PrintLast Go.Proofs.YtbiccahkniadfaaW.PrintMore
set_option linter.unusedVariables false
set_option linter.unusedSimpArgs false
theorem toL_joinN (k v : Int) : ∀ (n : Nat) (l r : T), toL (joinN n l k v r) = toL l ++ (k, v) :: toL r
  | 0, l, r => rfl
  | n + 1, l, r => by
    unfold joinN
    split
    · cases l with
      | leaf => rfl
      | node ll lk lv lr => dsimp only; rw [toL_even, toL_joinN k v n lr r, toL]; simp
    · split
      · cases r with
        | leaf => rfl
        | node rl rk rv rr => dsimp only; rw [toL_even, toL_joinN k v n l rl, toL]; simp
      · rfl
theorem toL_join (l : T) (k v : Int) (r : T) : toL (joinT l k v r) = toL l ++ (k, v) :: toL r := toL_joinN k v _ l r
theorem bal_joinN (k v : Int) : ∀ (n : Nat) (l r : T), sz l + sz r < n → bal l → bal r → bal (joinN n l k v r) ∧ max (ht l) (ht r) ≤ ht (joinN n l k v r) ∧ ht (joinN n l k v r) ≤ 1 + max (ht l) (ht r)
  | 0, l, r, h, _, _ => absurd h (Nat.not_lt_zero _)
  | n + 1, l, r, hn, bl, br => by
    unfold joinN
    split
    · rename_i hc
      cases l with
      | leaf => simp [ht] at hc
      | node ll lk lv lr =>
        obtain ⟨b1, b2, b3, b4⟩ := bl
        have ih := bal_joinN k v n lr r (by simp only [sz] at hn; omega) b2 br
        simp only [ht] at hc ⊢
        have h := bal_even ll lk lv (joinN n lr k v r) b1 ih.1 (by omega) (by omega)
        refine ⟨h.1, ?_, ?_⟩
        · by_cases c : ht ll ≤ ht (joinN n lr k v r) + 1 ∧ ht (joinN n lr k v r) ≤ ht ll + 1
          · have := h.2.2.2 c.1 c.2; omega
          · omega
        · by_cases c : ht ll ≤ ht (joinN n lr k v r) + 1 ∧ ht (joinN n lr k v r) ≤ ht ll + 1
          · have := h.2.2.2 c.1 c.2; omega
          · omega
    · rename_i hc
      split
      · rename_i hd
        cases r with
        | leaf => simp [ht] at hd
        | node rl rk rv rr =>
          obtain ⟨b1, b2, b3, b4⟩ := br
          have ih := bal_joinN k v n l rl (by simp only [sz] at hn; omega) bl b1
          simp only [ht] at hd hc ⊢
          have h := bal_even (joinN n l k v rl) rk rv rr ih.1 b2 (by omega) (by omega)
          refine ⟨h.1, ?_, ?_⟩
          · by_cases c : ht (joinN n l k v rl) ≤ ht rr + 1 ∧ ht rr ≤ ht (joinN n l k v rl) + 1
            · have := h.2.2.2 c.1 c.2; omega
            · omega
          · by_cases c : ht (joinN n l k v rl) ≤ ht rr + 1 ∧ ht rr ≤ ht (joinN n l k v rl) + 1
            · have := h.2.2.2 c.1 c.2; omega
            · omega
      · refine ⟨⟨bl, br, by omega, by omega⟩, by simp only [ht]; omega, by simp only [ht]; omega⟩
theorem bal_join (l : T) (k v : Int) (r : T) (hl : bal l) (hr : bal r) : bal (joinT l k v r) := (bal_joinN k v _ l r (by omega) hl hr).1
theorem bal_cut (k : Int) : ∀ t : T, bal t → bal (cutT k t).1 ∧ bal (cutT k t).2
  | .leaf, _ => ⟨trivial, trivial⟩
  | .node l k1 v1 r, ⟨b1, b2, _, _⟩ => by
    have h1 := bal_cut k l b1
    have h2 := bal_cut k r b2
    unfold cutT
    split
    · exact ⟨bal_join _ _ _ _ b1 h2.1, h2.2⟩
    · exact ⟨h1.1, bal_join _ _ _ _ h1.2 b2⟩
theorem toL_cut (k : Int) : ∀ t : T, srt t → toL (cutT k t).1 = (toL t).filter (fun p => decide (p.1 < k)) ∧ toL (cutT k t).2 = (toL t).filter fun p => !decide (p.1 < k)
  | .leaf, _ => ⟨rfl, rfl⟩
  | .node l k1 v1 r, h => by
    obtain ⟨h1, h2, h3, h4⟩ := srt_node h
    have il := toL_cut k l h1
    have ir := toL_cut k r h2
    unfold cutT
    rw [toL, List.filter_append, List.filter_append, List.filter_cons, List.filter_cons]
    split
    · rename_i c
      have e1 : (toL l).filter (fun p => decide (p.1 < k)) = toL l := List.filter_eq_self.2 fun a ha => by have := h3 a ha; simp; omega
      have e2 : (toL l).filter (fun p => !decide (p.1 < k)) = [] := List.filter_eq_nil_iff.2 fun a ha => by have := h3 a ha; simp; omega
      dsimp only
      rw [toL_join, ir.1, ir.2, e1, e2]
      simp [c]
    · rename_i c
      have e1 : (toL r).filter (fun p => decide (p.1 < k)) = [] := List.filter_eq_nil_iff.2 fun a ha => by have := h4 a ha; simp; omega
      have e2 : (toL r).filter (fun p => !decide (p.1 < k)) = toL r := List.filter_eq_self.2 fun a ha => by have := h4 a ha; simp; omega
      dsimp only
      rw [toL_join, il.1, il.2, e1, e2]
      simp [c]
theorem bal_least : ∀ t : T, bal t → bal (leastT t).2 ∧ ht (leastT t).2 ≤ ht t ∧ ht t ≤ ht (leastT t).2 + 1
  | .leaf, _ => ⟨trivial, Nat.le_refl _, Nat.zero_le _⟩
  | .node .leaf k v r, ⟨_, b2, _, b4⟩ => by
    refine ⟨b2, ?_, ?_⟩ <;> simp only [leastT, ht] at * <;> omega
  | .node (.node ll lk lv lr) k v r, ⟨b1, b2, b3, b4⟩ => by
    have ih := bal_least (.node ll lk lv lr) b1
    rw [leastT]
    generalize T.node ll lk lv lr = l at *
    have h := bal_even (leastT l).2 k v r ih.1 b2 (by omega) (by omega)
    refine ⟨h.1, ?_, ?_⟩
    · simp only [ht]
      by_cases c : ht (leastT l).2 ≤ ht r + 1 ∧ ht r ≤ ht (leastT l).2 + 1
      · have := h.2.2.2 c.1 c.2; omega
      · omega
    · simp only [ht]
      by_cases c : ht (leastT l).2 ≤ ht r + 1 ∧ ht r ≤ ht (leastT l).2 + 1
      · have := h.2.2.2 c.1 c.2; omega
      · omega
theorem bal_without (k : Int) : ∀ t : T, bal t → bal (withoutT k t) ∧ ht (withoutT k t) ≤ ht t ∧ ht t ≤ ht (withoutT k t) + 1
  | .leaf, _ => ⟨trivial, Nat.le_refl _, Nat.zero_le _⟩
  | .node l k1 v1 r, ⟨b1, b2, b3, b4⟩ => by
    have il := bal_without k l b1
    have ir := bal_without k r b2
    unfold withoutT
    split
    · have h := bal_even (withoutT k l) k1 v1 r il.1 b2 (by omega) (by omega)
      simp only [ht]
      by_cases c : ht (withoutT k l) ≤ ht r + 1 ∧ ht r ≤ ht (withoutT k l) + 1
      · have := h.2.2.2 c.1 c.2; exact ⟨h.1, by omega, by omega⟩
      · exact ⟨h.1, by omega, by omega⟩
    · split
      · have h := bal_even l k1 v1 (withoutT k r) b1 ir.1 (by omega) (by omega)
        simp only [ht]
        by_cases c : ht l ≤ ht (withoutT k r) + 1 ∧ ht (withoutT k r) ≤ ht l + 1
        · have := h.2.2.2 c.1 c.2; exact ⟨h.1, by omega, by omega⟩
        · exact ⟨h.1, by omega, by omega⟩
      · cases r with
        | leaf =>
          simp only [ht] at b3 b4 ⊢
          exact ⟨b1, by omega, by omega⟩
        | node rl rk rv rr =>
          have hl := bal_least (.node rl rk rv rr) b2
          dsimp only
          generalize T.node rl rk rv rr = r at *
          have h := bal_even l (leastT r).1.1 (leastT r).1.2 (leastT r).2 b1 hl.1 (by omega) (by omega)
          simp only [ht]
          by_cases c : ht l ≤ ht (leastT r).2 + 1 ∧ ht (leastT r).2 ≤ ht l + 1
          · have := h.2.2.2 c.1 c.2; exact ⟨h.1, by omega, by omega⟩
          · exact ⟨h.1, by omega, by omega⟩
end Go.Proofs.Ytbiccahkniadfaa.H
/-! ### TreeF -/
namespace Go.Proofs.Ytbiccahkniadfaa.H
open Go.RowKit Go.Proofs.Ytbiccahkniadfaa.P Go.Proofs.YtbiccahkniadfaaW.PrintWords Go.Proofs.YtbiccahkniadfaaW.PrintLast Go.Proofs.YtbiccahkniadfaaW.PrintMore
set_option linter.unusedVariables false
set_option linter.unusedSimpArgs false
def lowL (k : Int) (L : List (Int × Int)) : List (Int × Int) := L.filter fun p => decide (p.1 < k)
def uppL (k : Int) (L : List (Int × Int)) : List (Int × Int) := L.filter fun p => decide (k < p.1)
theorem lowL_all {k : Int} {L : List (Int × Int)} (h : ∀ a ∈ L, a.1 < k) : lowL k L = L := List.filter_eq_self.2 fun a ha => by have := h a ha; simp; omega
theorem lowL_none {k : Int} {L : List (Int × Int)} (h : ∀ a ∈ L, ¬ a.1 < k) : lowL k L = [] := List.filter_eq_nil_iff.2 fun a ha => by have := h a ha; simp; omega
theorem uppL_all {k : Int} {L : List (Int × Int)} (h : ∀ a ∈ L, k < a.1) : uppL k L = L := List.filter_eq_self.2 fun a ha => by have := h a ha; simp; omega
theorem uppL_none {k : Int} {L : List (Int × Int)} (h : ∀ a ∈ L, ¬ k < a.1) : uppL k L = [] := List.filter_eq_nil_iff.2 fun a ha => by have := h a ha; simp; omega
theorem low_node (k : Int) (l : T) (k1 v1 : Int) (r : T) : lowL k (toL (.node l k1 v1 r)) = lowL k (toL l) ++ ((if k1 < k then [(k1, v1)] else []) ++ lowL k (toL r)) := by
  unfold lowL
  rw [toL, List.filter_append, List.filter_cons]
  by_cases c : k1 < k <;> simp [c]
theorem upp_node (k : Int) (l : T) (k1 v1 : Int) (r : T) : uppL k (toL (.node l k1 v1 r)) = uppL k (toL l) ++ ((if k < k1 then [(k1, v1)] else []) ++ uppL k (toL r)) := by
  unfold uppL
  rw [toL, List.filter_append, List.filter_cons]
  by_cases c : k < k1 <;> simp [c]
theorem toL_with (k v : Int) : ∀ t : T, srt t → toL (withT k v t) = lowL k (toL t) ++ (k, v) :: uppL k (toL t)
  | .leaf, _ => rfl
  | .node l k1 v1 r, h => by
    obtain ⟨h1, h2, h3, h4⟩ := srt_node h
    have il := toL_with k v l h1
    have ir := toL_with k v r h2
    rw [low_node, upp_node]
    unfold withT
    split
    · rename_i c
      rw [toL_even, il, if_neg (by omega), lowL_none (L := toL r) fun a ha => by have := h4 a ha; omega, uppL_all (L := toL r) fun a ha => by have := h4 a ha; omega]
      simp
    · split
      · rename_i c
        rw [toL_even, ir, lowL_all (L := toL l) fun a ha => by have := h3 a ha; omega, uppL_none (L := toL l) fun a ha => by have := h3 a ha; omega]
        simp
      · have e : k = k1 := by omega
        subst e
        rw [toL, lowL_all (L := toL l) fun a ha => h3 a ha, uppL_none (L := toL l) fun a ha => by have := h3 a ha; omega, lowL_none (L := toL r) fun a ha => by have := h4 a ha; omega, uppL_all (L := toL r) fun a ha => h4 a ha]
        simp
theorem toL_drop (k : Int) : ∀ t : T, srt t → hasT k t = true → toL (withoutT k t) = lowL k (toL t) ++ uppL k (toL t)
  | .leaf, _, h => by cases h
  | .node l k1 v1 r, h, hh => by
    obtain ⟨h1, h2, h3, h4⟩ := srt_node h
    have il := toL_drop k l h1
    have ir := toL_drop k r h2
    rw [low_node, upp_node]
    unfold hasT at hh
    unfold withoutT
    split
    · rename_i c
      rw [if_pos c] at hh
      rw [toL_even, il hh, if_neg (by omega), lowL_none (L := toL r) fun a ha => by have := h4 a ha; omega, uppL_all (L := toL r) fun a ha => by have := h4 a ha; omega]
      simp
    · rename_i c0
      rw [if_neg c0] at hh
      split
      · rename_i c
        rw [if_pos c] at hh
        rw [toL_even, ir hh, lowL_all (L := toL l) fun a ha => by have := h3 a ha; omega, uppL_none (L := toL l) fun a ha => by have := h3 a ha; omega]
        simp
      · have e : k = k1 := by omega
        subst e
        rw [lowL_all (L := toL l) fun a ha => h3 a ha, uppL_none (L := toL l) fun a ha => by have := h3 a ha; omega, lowL_none (L := toL r) fun a ha => by have := h4 a ha; omega, uppL_all (L := toL r) fun a ha => h4 a ha]
        cases r with
        | leaf => simp [toL]
        | node rl rk rv rr =>
          dsimp only
          rw [toL_even, ← toL_least rl rk rv rr]
          simp
theorem below_low (k : Int) : ∀ t : T, srt t → belowT k t = (lowL k (toL t)).length
  | .leaf, _ => rfl
  | .node l k1 v1 r, h => by
    obtain ⟨h1, h2, h3, h4⟩ := srt_node h
    have il := below_low k l h1
    have ir := below_low k r h2
    rw [low_node]
    unfold belowT
    split
    · rename_i c
      rw [lowL_all (L := toL l) fun a ha => by have := h3 a ha; omega, List.length_append, List.length_append, toL_len, ir]
      simp only [List.length_cons, List.length_nil]
      omega
    · rename_i c
      rw [lowL_none (L := toL r) fun a ha => by have := h4 a ha; omega, il]
      simp
end Go.Proofs.Ytbiccahkniadfaa.H
/-! ### TreeG -/
namespace Go.Proofs.Ytbiccahkniadfaa.H
open Go.RowKit Go.Proofs.Ytbiccahkniadfaa.P Go.Proofs.YtbiccahkniadfaaW.PrintWords Go.Proofs.YtbiccahkniadfaaW.PrintLast Go.Proofs.YtbiccahkniadfaaW.PrintMore
set_option linter.unusedVariables false
set_option linter.unusedSimpArgs false
theorem evCast {α : Type} {g : Nat → Option α} {r r' : α} (h : Ev g r) (e : r = r') : Ev g r' := e ▸ h
def encT (L : List (Int × Int)) : List S50 := L.map fun p => (⟨p.1, p.2⟩ : S50)
theorem encT_len (L : List (Int × Int)) : (encT L).length = L.length := List.length_map ..
theorem rd50 (L : List (Int × Int)) (j : Nat) (hj : j < L.length) : rd_T50 (encT L) (j : Int) = ⟨L[j].1, L[j].2⟩ := by
  unfold rd_T50 encT
  rw [Int.toNat_natCast, List.getD_eq_getElem?_getD, List.getElem?_map, List.getElem?_eq_getElem hj]; rfl
theorem find_l0 (k : Int) (A B : List (Int × Int)) (hl : (A ++ B).length ≤ 100000) (hA : ∀ a ∈ A, a.1 < k) (hB : ∀ b, B.head? = some b → ¬ b.1 < k) (d : Nat) : ∀ j : Nat, j ≤ A.length → A.length - j = d →
    Ev (fun n => waystoneref04_find.l0 n (encT (A ++ B)) k (j : Int)) ((A.length : Int), (B.head?.map fun b => b.1 == k).getD false) := by
  induction d with
  | zero =>
    intro j hj hd
    obtain rfl : j = A.length := by omega
    refine Ev.step (fun n => by rw [waystoneref04_find.l0]) ?_
    cases B with
    | nil =>
      simp only [encT_len, List.append_nil, Int.lt_irrefl, if_false]
      exact Ev.now _
    | cons b t =>
      have h1 : ((A.length : Nat) : Int) < ((A ++ b :: t).length : Int) := by rw [List.length_append, List.length_cons]; omega
      have h2 : A.length < (A ++ b :: t).length := by omega
      have e : (A ++ b :: t)[A.length] = b := by rw [List.getElem_append_right (Nat.le_refl _)]; simp
      simp only [encT_len, h1, show (0 : Int) ≤ ((A.length : Nat) : Int) from by omega, if_true, rd50 (A ++ b :: t) A.length h2, e, hB b rfl, if_false]
      exact Ev.now _
  | succ d ih =>
    intro j hj hd
    have hlt : j < A.length := by omega
    have ih := ih (j + 1) (by omega) (by omega)
    have h2 : j < (A ++ B).length := by rw [List.length_append]; omega
    have h1 : (j : Int) < ((A ++ B).length : Int) := by omega
    have e : (A ++ B)[j] = A[j] := List.getElem_append_left hlt
    have hw : wrap64 ((j : Int) + 1) = ((j + 1 : Nat) : Int) := by unfold wrap64; omega
    refine Ev.step (fun n => by rw [waystoneref04_find.l0]) ?_
    simp only [encT_len, h1, show (0 : Int) ≤ (j : Int) from by omega, if_true, rd50 (A ++ B) j h2, e, hA _ (List.getElem_mem hlt), hw]
    exact ih
theorem find_ev (k : Int) (A B : List (Int × Int)) (hl : (A ++ B).length ≤ 100000) (hA : ∀ a ∈ A, a.1 < k) (hB : ∀ b, B.head? = some b → ¬ b.1 < k) :
    Ev (fun n => waystoneref04_find.f n (encT (A ++ B)) k) ((A.length : Int), (B.head?.map fun b => b.1 == k).getD false) := find_l0 k A B hl hA hB A.length 0 (Nat.zero_le _) (by omega)
theorem cut_list (k : Int) : ∀ L : List (Int × Int), (L.Pairwise fun a b => a.1 < b.1) → L = lowL k L ++ L.filter (fun p => !decide (p.1 < k)) ∧ ∀ b, (L.filter (fun p => !decide (p.1 < k))).head? = some b → ¬ b.1 < k
  | [], _ => ⟨rfl, fun b h => by simp at h⟩
  | x :: t, h => by
    rw [List.pairwise_cons] at h
    have ih := cut_list k t h.2
    unfold lowL at *
    by_cases c : x.1 < k
    · rw [List.filter_cons, if_pos (by simpa using c), List.filter_cons, if_neg (by simpa using c)]
      exact ⟨by rw [List.cons_append, ← ih.1], ih.2⟩
    · have e : t.filter (fun p => decide (p.1 < k)) = [] := List.filter_eq_nil_iff.2 fun a ha => by have := h.1 a ha; simp; omega
      have e2 : t.filter (fun p => !decide (p.1 < k)) = t := List.filter_eq_self.2 fun a ha => by have := h.1 a ha; simp; omega
      rw [List.filter_cons, if_neg (by simpa using c), List.filter_cons, if_pos (by simpa using c), e, e2]
      exact ⟨rfl, fun b hb => by simp at hb; rw [← hb]; exact c⟩
/-- Is a key there, by the list? -/
def hasL (k : Int) (L : List (Int × Int)) : Bool := ((L.filter (fun p => !decide (p.1 < k))).head?.map fun b => b.1 == k).getD false
theorem find_srt (k : Int) (L : List (Int × Int)) (hl : L.length ≤ 100000) (hs : L.Pairwise fun a b => a.1 < b.1) : Ev (fun n => waystoneref04_find.f n (encT L) k) (((lowL k L).length : Int), hasL k L) := by
  obtain ⟨h1, h2⟩ := cut_list k L hs
  have := find_ev k (lowL k L) (L.filter (fun p => !decide (p.1 < k))) (by rw [← h1]; exact hl) (fun a ha => by simpa using (List.mem_filter.1 ha).2) h2
  rw [← h1] at this
  exact this
theorem low_le (k : Int) (L : List (Int × Int)) : (lowL k L).length ≤ L.length := List.length_filter_le _ _
theorem ceil_ev (k : Int) (L : List (Int × Int)) (hl : L.length ≤ 100000) (hs : L.Pairwise fun a b => a.1 < b.1) : Ev (fun n => waystoneref04_Ceil.f n (encT L) k) (if (lowL k L).length = L.length then (-1 : Int) else ((lowL k L).length : Int)) := by
  unfold waystoneref04_Ceil.f
  refine Ev.bind (find_srt k L hl hs) ?_
  rw [encT_len]
  by_cases c : (lowL k L).length = L.length
  · simp only [c, if_true]; exact Ev.now _
  · simp only [c, show ¬ (((lowL k L).length : Nat) : Int) = (L.length : Int) by omega, if_false]; exact Ev.now _
theorem floor_ev (k : Int) (L : List (Int × Int)) (hl : L.length ≤ 100000) (hs : L.Pairwise fun a b => a.1 < b.1) : Ev (fun n => waystoneref04_Floor.f n (encT L) k) (if hasL k L then ((lowL k L).length : Int) else ((lowL k L).length : Int) - 1) := by
  unfold waystoneref04_Floor.f
  refine Ev.bind (find_srt k L hl hs) ?_
  have hle := low_le k L
  have hw : wrap64 (((lowL k L).length : Int) - 1) = ((lowL k L).length : Int) - 1 := by unfold wrap64; omega
  cases hasL k L with
  | true => simp only [if_true]; exact Ev.now _
  | false => simp only [Bool.false_eq_true, if_false, hw]; exact Ev.now _
end Go.Proofs.Ytbiccahkniadfaa.H
/-! ### TreeQ -/
namespace Go.Proofs.Ytbiccahkniadfaa.H
open Go.RowKit Go.Shelf Go.Proofs.Ytbiccahkniadfaa.P Go.Proofs.YtbiccahkniadfaaW.PrintWords Go.Proofs.YtbiccahkniadfaaW.PrintLast Go.Proofs.YtbiccahkniadfaaW.PrintMore
attribute [local go_sem] Oper.semAt_some
set_option linter.unusedVariables false
set_option linter.unusedSimpArgs false
theorem top_at (P : Option Addr) (t : T) (w : World) (h : RootAt w P t) : ∃ p, TreeAt w p t ∧ ∀ W, Below w.heap.size w W → Calls Try.prog 27 #[.pointer P] W fun e w' => e = .returned (.pointer p) ∧ w' = W := by
  rcases h with ⟨rfl, rfl⟩ | ⟨g, p, rfl, hg, ht⟩
  · refine ⟨none, rfl, fun W _ => ?_⟩
    go_enter Try.func27, Try.ntmps27
    go_wp2_with fail
    go_ret
    exact ⟨rfl, rfl⟩
  · refine ⟨p, ht, fun W hb => ?_⟩
    have c0 := blk_cell (blk_below hg hb) 0
    clear hg ht hb
    go_enter Try.func27, Try.ntmps27
    go_wp2_with fail
    go_ret
    exact ⟨rfl, rfl⟩
theorem info45 : (Try.prog.info? 45).map (fun i => (i.zero, i.size, i.bytes)) = some (some (.agg #[.int .u64 0, .int .i64 0]), 2, 16) := by kernel_rfl
theorem cell_two_new (W : World) (a b : Value) (t : TypeId) : ∀ j u, [a, b][j]? = some u → (W.alloc (.cells #[a, b] t)).cell? ((⟨W.heap.size, 0, none⟩ : Addr).add j) = some u := by
  intro j u h
  have hb := blk_new W (.cells #[a, b] t)
  match j, h with
  | 0, h => simp at h; subst h; exact blk_cell hb 0
  | 1, h => simp at h; subst h; exact blk_cell hb 1
def cellsL (L : List (Int × Int)) : List Value := L.flatMap fun x => [.int .u64 x.1, .int .i64 x.2]
theorem cellsL_snoc (L : List (Int × Int)) (x : Int × Int) : cellsL (L ++ [x]) = cellsL L ++ [.int .u64 x.1, .int .i64 x.2] := by simp [cellsL]
theorem cellsL_len : ∀ L : List (Int × Int), (cellsL L).length = L.length * 2
  | [] => rfl
  | x :: t => by
    have := cellsL_len t
    show (Value.int .u64 x.1 :: Value.int .i64 x.2 :: cellsL t).length = _
    rw [List.length_cons, List.length_cons, this, List.length_cons]
    omega
theorem cellsL_at : ∀ (L : List (Int × Int)) (j : Nat) (p : Int × Int), L[j]? = some p → ((cellsL L).drop (j * 2)).take 2 = [.int .u64 p.1, .int .i64 p.2]
  | [], j, p, h => by simp at h
  | x :: t, 0, p, h => by
    simp at h
    subst h
    rfl
  | x :: t, j + 1, p, h => by
    have := cellsL_at t j p (by simpa using h)
    rw [show (j + 1) * 2 = j * 2 + 1 + 1 by omega]
    exact this
theorem row_C {W : World} {base : Nat} {v : Value} {L : List (Int × Int)} (h : W.ownsRow base 45 2 v L.length (cellsL L)) : ∃ A c, v = .slice A (encT L).length c ∧ (encT L).length ≤ c ∧ Kd.C k50 W A (encT L).length (encT L) := by
  have hR : Kd.R k50 45 W base (fun _ => True) v (encT L) := by
    refine ⟨fun _ _ => trivial, cellsL L, by rw [encT_len]; exact h, by rw [encT_len]; exact cellsL_len L, fun j p hj => ?_⟩
    have hj' : (L.map fun p => (⟨p.1, p.2⟩ : S50))[j]? = some p := hj
    rw [List.getElem?_map] at hj'
    obtain ⟨q, hq, rfl⟩ := Option.map_eq_some_iff.1 hj'
    show k50.M _ _ _ _ (((cellsL L).drop (j * 2)).take 2)
    rw [cellsL_at L j q hq]
    exact k50_mkM _ _ _ _
  exact Kd.R_reads hR
set_option maxRecDepth 100000 in
set_option maxHeartbeats 4000000 in
theorem pairs_any (P : Option Addr) (t : T) (w : World) (h : RootAt w P t) (hs : sz t ≤ 40000) :
    Calls Try.prog 26 #[.pointer P] w fun e W' => (∃ A c, e = .returned (.slice A (encT (toL t)).length c) ∧ (encT (toL t)).length ≤ c ∧ Kd.C k50 W' A (encT (toL t)).length (encT (toL t))) ∧ Below w.heap.size w W' := by
  obtain ⟨p, hT, htop⟩ := top_at P t w h
  have hTB := hT.toB
  have hN : (toL t).length ≤ 40000 := by rw [toL_len]; exact hs
  clear h hs hT
  obtain ⟨i0, hi, hz0, hz1, hz2⟩ := info_parts info45
  refine (callsIn_wide (n := 9)).1 ?_
  have h1 : 1 ≤ 9 := by omega
  refine callsIn_of_wp_marks Try.func26 rfl trivial ?_ rfl
  simp only [Try.ntmps26, List.size_toArray, List.length_cons, List.length_nil, Nat.reduceAdd, Nat.reduceSub, Array.replicate_succ, Array.replicate_zero, List.push_toArray, List.append_toArray, List.nil_append, List.cons_append]
  gi_wp2_with (first
    | (refine ⟨trivial, ?_⟩; gi_at_call 27; refine (callsIn_wide.2 (htop _ ((Below.refl _ w).alloc (Nat.le_refl _) _))).mono ?_; rintro e w' ⟨rfl, rfl⟩)
    | (refine ⟨trivial, ?_⟩; gi_at_call 37; refine (all_in Fence.wide _ trivial rfl _ _).mono ?_; rintro e w' ⟨rfl, rfl⟩))
  have bO := (Boxed.new w 57 (.slice none 0 0)).alloc (.cells #[.pointer p] 61)
  have bN := Boxed.new (w.alloc (.cells #[.slice none 0 0] 57)) 61 (.pointer p)
  rw [World.size_alloc] at bN
  have hB0 : Below w.heap.size w ((w.alloc (.cells #[.slice none 0 0] 57)).alloc (.cells #[.pointer p] 61)) := ((Below.refl _ w).alloc (Nat.le_refl _) _).alloc (by simp) _
  have hsz : ((w.alloc (.cells #[.slice none 0 0] 57)).alloc (.cells #[.pointer p] 61)).heap.size = w.heap.size + 2 := by simp
  obtain ⟨W0, hW0⟩ : ∃ W0, (w.alloc (.cells #[.slice none 0 0] 57)).alloc (.cells #[.pointer p] 61) = W0 := ⟨_, rfl⟩
  try simp only [World.size_alloc]
  rw [hW0] at bO bN hB0 hsz ⊢
  clear hW0 htop
  refine wpIn_rangeFunc_ownH rfl h1 (gf := 43) (lb := #[.pointer (some ⟨w.heap.size + 1, 0, none⟩)]) rfl trivial (enters_of Try.func43 (by kernel_rfl) rfl)
    (all_stops Fence.wide rfl (9 - 1) trivial trivial rfl (w.heap.size + 1) w.heap.size p t W0 (by omega) (by omega) bN.cell (hTB.below hB0)) belowK_t (belowK_b (by omega)) (Below.refl _ _) (fun _ => rfl)
    (fun pre W => (∃ v, Boxed W w.heap.size 57 v ∧ W.ownsRow w.heap.size 45 2 v pre.length (cellsL pre) ∧ True) ∧ Below w.heap.size w W)
    (fun _ _ _ => False)
    (OwnFrom.and (Own.from (holdsRow_own w.heap.size w.heap.size 57 45 2 (fun pre : List (Int × Int) => pre.length) (fun pre => cellsL pre) (fun _ _ => True)) _) (ownFrom_below (Nat.le_refl _) (by omega)))
    (fun _ _ _ _ _ hs _ _ => hs)
    ⟨⟨_, bO, World.ownsRow_nil _ _ _ _, trivial⟩, hB0⟩
    (fun x a' W => ∃ Bx, w.heap.size < Bx ∧ W.heap[Bx]? = some (.cells #[.int .u64 x.1, .int .i64 x.2] 45 (0, 0)) ∧ a' = { tmps := #[.pointer P, undef, .slice none 0 0, .pointer (some ⟨w.heap.size, 0, none⟩), .pointer (some ⟨Bx, 0, none⟩), .pointer P, .pointer p, .func (.func 43) #[] #[.pointer (some ⟨w.heap.size + 1, 0, none⟩)], .agg #[.int .u64 x.1, .int .i64 x.2], undef, undef, undef, undef, undef], defers := [] })
    (fun x a' _ X Y row hs hg hr => by
      obtain ⟨Bx, h1, h2, h3⟩ := hs
      refine ⟨Bx, h1, blk_grown h2 hg (fun e' => ?_), h3⟩
      obtain ⟨o, ho, hc⟩ := (hr Bx e'.symm).2
      rw [h2] at ho; cases ho; cases hc)
    ?assign ?body ?done ?stop
  case assign =>
    rintro l pre x W K ⟨⟨v, hv, hrow, _⟩, hB1⟩ hK
    gi_wp2
    exact hK _ _ ((KeepsOthers.alloc _ _).from _) ((Below.refl _ W).alloc hB1.size _) ⟨⟨v, hv.alloc _, hrow.alloc _, trivial⟩, hB1.alloc hB1.size _⟩ ⟨W.heap.size, hv.lt, blk_new W _, rfl⟩
  case body =>
    rintro l pre x a' W hl ⟨r, hr⟩ ⟨⟨v, hv, hrow, _⟩, hB1⟩ ⟨Bx, hBx, bX, rfl⟩ hlt
    have hc := hv.cell
    have x0 := blk_cell bX 0
    have x1 := blk_cell bX 1
    gi_wp2_with (gi_at_builtin; refine wpListIn_append_own _ rfl _ _ 57 rfl w.heap.size 45 i0 (.agg #[.int .u64 0, .int .i64 0]) 2 16 Try.underlying57 hi hz0 hz1 hz2 rfl (by decide) _ _ _ rfl (hrow.alloc _) ⟨W.heap.size, 0, none⟩ 1 1 [.int .u64 x.1, .int .i64 x.2] rfl rfl (cell_two_new _ _ _ _) (by simp [Value.oneCell']) (by unfold maxLen; omega) (by omega) (by have := hB1.size; simp; omega) ?_; intro v' w1 hown' hgrow _; obtain ⟨g', cap', rfl⟩ := ownsRow_succ hown'; obtain ⟨hv1, hv2, hr2, hk2, hb2⟩ := hv.appended (by decide) hrow hB1.size (Nat.le_refl _) hown' hgrow; have hc1 := hv1.cell; have hf1 := hv1.frozen)
    exact ⟨hk2.from _, hb2, ⟨_, hv2, by rw [cellsL_snoc, List.length_append]; exact hr2, trivial⟩, hB1.trans hb2⟩
  case done =>
    rintro D ys W hD rfl ⟨⟨v, hv, hrow, _⟩, hB⟩ hK
    have hc := hv.cell
    gi_wp2
    refine ⟨by simp, .inl ⟨_, _, rfl, run_takeDeferred hK, ?_⟩⟩
    obtain ⟨A, c, rfl, hcl, hC⟩ := row_C (ownsRow_putObj hrow (.deferred none) hK rfl)
    exact ⟨_, results_tmp rfl _ _ _, ⟨A, c, rfl, hcl, hC⟩, hB.trans (belowK_b (w := w) (Nat.le_refl _) W D _ _ (by omega) hK rfl rfl)⟩
  case stop =>
    rintro D c pre W _ _ h _
    exact h.elim
end Go.Proofs.Ytbiccahkniadfaa.H
/-! ### TreeI -/
namespace Go.Proofs.Ytbiccahkniadfaa.H
open Go.RowKit Go.Proofs.Ytbiccahkniadfaa.P Go.Proofs.YtbiccahkniadfaaW.PrintWords Go.Proofs.YtbiccahkniadfaaW.PrintLast Go.Proofs.YtbiccahkniadfaaW.PrintMore
set_option linter.unusedVariables false
set_option linter.unusedSimpArgs false
theorem rest_upp (k : Int) (L : List (Int × Int)) (hs : L.Pairwise fun a b => a.1 < b.1) :
    (hasL k L = true → ∃ v, L.filter (fun p => !decide (p.1 < k)) = (k, v) :: uppL k L) ∧ (hasL k L = false → L.filter (fun p => !decide (p.1 < k)) = uppL k L) := by
  obtain ⟨h1, h2⟩ := cut_list k L hs
  have hsr : (L.filter (fun p => !decide (p.1 < k))).Pairwise fun a b => a.1 < b.1 := List.Pairwise.filter _ hs
  have hu : uppL k L = uppL k (L.filter (fun p => !decide (p.1 < k))) := by
    conv => lhs; rw [h1]
    unfold uppL
    rw [List.filter_append]
    have : (lowL k L).filter (fun p => decide (k < p.1)) = [] := List.filter_eq_nil_iff.2 fun a ha => by
      have := (List.mem_filter.1 ha).2
      simp at this ⊢
      omega
    rw [this]; rfl
  rw [hu]
  unfold hasL
  generalize L.filter (fun p => !decide (p.1 < k)) = R at *
  cases R with
  | nil => exact ⟨fun h => by simp at h, fun _ => rfl⟩
  | cons b t =>
    rw [List.pairwise_cons] at hsr
    have hb := h2 b rfl
    simp only [List.head?_cons, Option.map_some, Option.getD_some]
    constructor
    · intro e
      have e' : b.1 = k := by simpa using e
      refine ⟨b.2, ?_⟩
      unfold uppL
      rw [List.filter_cons, if_neg (by simp; omega), List.filter_eq_self.2 fun a ha => by have := hsr.1 a ha; simp; omega]
      rw [← e']
    · intro e
      have e' : ¬ b.1 = k := by simpa using e
      exact (uppL_all fun a ha => by
        rw [List.mem_cons] at ha
        rcases ha with rfl | ha
        · omega
        · have := hsr.1 a ha; omega).symm
theorem drop_past : ∀ (A : List (Int × Int)) (x : Int × Int) (U : List (Int × Int)), (A ++ x :: U).drop (A.length + 1) = U
  | [], _, _ => rfl
  | a :: t, x, U => by
    rw [List.cons_append, List.length_cons, List.drop_succ_cons]
    exact drop_past t x U
theorem parts (k : Int) (L : List (Int × Int)) (hs : L.Pairwise fun a b => a.1 < b.1) :
    L.take (lowL k L).length = lowL k L ∧ (hasL k L = true → L.drop ((lowL k L).length + 1) = uppL k L ∧ (lowL k L).length + 1 ≤ L.length) ∧ (hasL k L = false → L.drop (lowL k L).length = uppL k L) := by
  obtain ⟨h1, _⟩ := cut_list k L hs
  obtain ⟨r1, r2⟩ := rest_upp k L hs
  generalize hA : lowL k L = A at *
  generalize hR : L.filter (fun p => !decide (p.1 < k)) = R at *
  refine ⟨by rw [h1, List.take_left], fun h => ?_, fun h => ?_⟩
  · obtain ⟨v, e⟩ := r1 h
    rw [e] at h1
    refine ⟨?_, by rw [h1]; simp⟩
    conv => lhs; rw [h1]
    exact drop_past A (k, v) (uppL k L)
  · rw [r2 h] at h1
    conv => lhs; rw [h1]
    rw [List.drop_left]
end Go.Proofs.Ytbiccahkniadfaa.H
/-! ### TreeJ -/
namespace Go.Proofs.Ytbiccahkniadfaa.H
open Go.RowKit Go.Proofs.Ytbiccahkniadfaa.P Go.Proofs.YtbiccahkniadfaaW.PrintWords Go.Proofs.YtbiccahkniadfaaW.PrintLast Go.Proofs.YtbiccahkniadfaaW.PrintMore
set_option linter.unusedVariables false
set_option linter.unusedSimpArgs false
theorem enc_take (n : Nat) (L : List (Int × Int)) : (encT L).take n = encT (L.take n) := by unfold encT; rw [List.map_take]
theorem enc_drop (n : Nat) (L : List (Int × Int)) : (encT L).drop n = encT (L.drop n) := by unfold encT; rw [List.map_drop]
theorem enc_app (A B : List (Int × Int)) : encT A ++ encT B = encT (A ++ B) := by unfold encT; rw [List.map_append]
theorem drop_ev (k : Int) (L : List (Int × Int)) (hl : L.length ≤ 100000) (hs : L.Pairwise fun a b => a.1 < b.1) :
    Ev (fun n => waystoneref04_Drop.f n (encT L) k) (if hasL k L then (encT (lowL k L ++ uppL k L), (0 : Int)) else ([], 42)) := by
  unfold waystoneref04_Drop.f
  refine Ev.bind (find_srt k L hl hs) ?_
  have hle := low_le k L
  obtain ⟨p1, p2, _⟩ := parts k L hs
  have hw : wrap64 (((lowL k L).length : Int) + 1) = (((lowL k L).length + 1 : Nat) : Int) := by unfold wrap64; omega
  cases hq : hasL k L with
  | false => simp only [Bool.false_eq_true, if_false]; exact Ev.now _
  | true =>
    obtain ⟨p3, p4⟩ := p2 hq
    have hu : (uppL k L).length ≤ L.length := List.length_filter_le _ _
    simp only [if_true, Option.bind_some, encT_len, hw, Int.toNat_natCast, enc_take, enc_drop, p1, p3, List.nil_append, List.length_nil, enc_app, Nat.zero_add,
      show (0 : Int) ≤ ((lowL k L).length : Int) from by omega, show ((lowL k L).length : Int) ≤ (L.length : Int) from by omega,
      show (lowL k L).length < 8796093022208 from by omega, show (0 : Int) ≤ (((lowL k L).length + 1 : Nat) : Int) from by omega,
      show (((lowL k L).length + 1 : Nat) : Int) ≤ (L.length : Int) from by omega, show (lowL k L).length + (uppL k L).length < 8796093022208 from by omega]
    exact Ev.now _
end Go.Proofs.Ytbiccahkniadfaa.H
/-! ### TreeK -/
namespace Go.Proofs.Ytbiccahkniadfaa.H
open Go.RowKit Go.Proofs.Ytbiccahkniadfaa.P Go.Proofs.YtbiccahkniadfaaW.PrintWords Go.Proofs.YtbiccahkniadfaaW.PrintLast Go.Proofs.YtbiccahkniadfaaW.PrintMore
set_option linter.unusedVariables false
set_option linter.unusedSimpArgs false
theorem j0_no (n : Nat) (l : List S50) (k v x : Int) (b : Bool) : waystoneref04_Put.j0 (n + 1) l k v x b true = some ([], 41) := by
  rw [waystoneref04_Put.j0, if_pos rfl]
theorem lim_lt {n : Nat} (h : n ≤ 1000000) : n < 8796093022208 := Nat.lt_of_le_of_lt h (by decide)
theorem j0_yes (n : Nat) (l : List S50) (k v x : Int) (h0 : 0 ≤ x) (h1 : x ≤ (l.length : Int)) (hl : l.length ≤ 100000) (h2 : 0 ≤ wrap64 (x + 1)) (h3 : wrap64 (x + 1) ≤ (l.length : Int)) :
    waystoneref04_Put.j0 (n + 1) l k v x true false = some (l.take x.toNat ++ [(⟨k, v⟩ : S50)] ++ l.drop (wrap64 (x + 1)).toNat, 0) := by
  have b1 : (l.take x.toNat).length ≤ 100000 := Nat.le_trans (List.length_take_le _ _) (by omega)
  have b2 : (l.drop (wrap64 (x + 1)).toNat).length ≤ 100000 := by rw [List.length_drop]; omega
  rw [waystoneref04_Put.j0, if_neg (by decide), Option.bind_some, if_pos h0, if_pos h1, Option.bind_some]
  generalize l.take x.toNat = A at *
  generalize l.drop (wrap64 (x + 1)).toNat = B at *
  rw [if_pos (lim_lt (by rw [List.length_nil]; omega)), Option.bind_some, List.nil_append, if_pos (lim_lt (by omega)), Option.bind_some, if_pos rfl, if_pos h2, if_pos h3, Option.bind_some, if_pos (lim_lt (by rw [List.length_append, List.length_singleton]; omega))]
theorem j0_new (n : Nat) (l : List S50) (k v x : Int) (h0 : 0 ≤ x) (h1 : x ≤ (l.length : Int)) (hl : l.length ≤ 100000) :
    waystoneref04_Put.j0 (n + 1) l k v x false false = some (l.take x.toNat ++ [(⟨k, v⟩ : S50)] ++ l.drop x.toNat, 0) := by
  have b1 : (l.take x.toNat).length ≤ 100000 := Nat.le_trans (List.length_take_le _ _) (by omega)
  have b2 : (l.drop x.toNat).length ≤ 100000 := by rw [List.length_drop]; omega
  rw [waystoneref04_Put.j0, if_neg (by decide), Option.bind_some, if_pos h0, if_pos h1, Option.bind_some]
  generalize l.take x.toNat = A at *
  generalize l.drop x.toNat = B at *
  rw [if_pos (lim_lt (by rw [List.length_nil]; omega)), Option.bind_some, List.nil_append, if_pos (lim_lt (by omega)), Option.bind_some, if_neg (by decide), Option.bind_some, if_pos (lim_lt (by rw [List.length_append, List.length_singleton]; omega))]
theorem put_j0 (k v : Int) (L : List (Int × Int)) (hl : L.length ≤ 100000) (hs : L.Pairwise fun a b => a.1 < b.1) (n : Nat) :
    waystoneref04_Put.j0 (n + 1) (encT L) k v ((lowL k L).length : Int) (hasL k L) false = some (encT (lowL k L ++ (k, v) :: uppL k L), (0 : Int)) := by
  have hle := low_le k L
  obtain ⟨p1, p2, p3⟩ := parts k L hs
  have e1 : ([(⟨k, v⟩ : S50)] : List S50) = encT [(k, v)] := rfl
  have e2 : (encT L).length = L.length := encT_len L
  cases hq : hasL k L with
  | false =>
    rw [j0_new n (encT L) k v _ (by omega) (by omega) (by omega), Int.toNat_natCast, enc_take, enc_drop, p1, p3 hq, e1, enc_app, enc_app]
    simp
  | true =>
    obtain ⟨p4, p5⟩ := p2 hq
    have hw : wrap64 (((lowL k L).length : Int) + 1) = (((lowL k L).length + 1 : Nat) : Int) := by unfold wrap64; omega
    rw [j0_yes n (encT L) k v _ (by omega) (by omega) (by omega) (by omega) (by omega), hw, Int.toNat_natCast, Int.toNat_natCast, enc_take, enc_drop, p1, p4, e1, enc_app, enc_app]
    simp
theorem put_ev (k v : Int) (L : List (Int × Int)) (hl : L.length ≤ 100000) (hs : L.Pairwise fun a b => a.1 < b.1) :
    Ev (fun n => waystoneref04_Put.f n (encT L) k v) (if !hasL k L && decide (1024 ≤ L.length) then ([], (41 : Int)) else (encT (lowL k L ++ (k, v) :: uppL k L), 0)) := by
  unfold waystoneref04_Put.f
  refine Ev.bind (find_srt k L hl hs) ?_
  have h1 := put_j0 k v L hl hs
  cases hq : hasL k L with
  | true =>
    rw [hq] at h1
    simp only [if_true, Bool.not_true, Bool.false_and, Bool.false_eq_true, if_false]
    exact Ev.step h1 (Ev.now _)
  | false =>
    rw [hq] at h1
    simp only [Bool.false_eq_true, if_false, encT_len, Bool.not_false, Bool.true_and]
    by_cases c : 1024 ≤ L.length
    · simp only [show (L.length : Int) ≥ 1024 from by omega, c, decide_true, if_true]
      exact Ev.step (fun n => j0_no n _ _ _ _ _) (Ev.now _)
    · simp only [show ¬ (L.length : Int) ≥ 1024 from by omega, c, decide_false, Bool.false_eq_true, if_false]
      exact Ev.step h1 (Ev.now _)
end Go.Proofs.Ytbiccahkniadfaa.H
