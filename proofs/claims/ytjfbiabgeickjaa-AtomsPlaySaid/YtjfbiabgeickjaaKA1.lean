/- Reg Trees in the heap; New, top, high, size, Len, Height. even: walked. with: walked. least: walked. without: walked. New, top, Len, Height, Get, Put, Drop: walked. Put, Drop: walked. below, At: walked. atoms: New, own, more: walked. Nothing of it is in this program. join: walked. cut, Split: walked. Nothing of it is in this program. Plain laws of trees: balance, order, sizes. Plain laws of join and cut. Plain laws: what the acts do to the pairs. Trees that count: plain. atoms: Len, place, Of, Count: walked. atoms: place, Of: walked. atoms: with: walked. -/
import Derived.Deep.RegionHeld3
import Derived.Test.YtjfbiabgeickjaaPx0
import Derived.Deep.DeepCutAuto
import Derived.BigQuiet
import Derived.Deep.LoopGhost
import Derived.Test.YtjfbiabgeickjaaPx2
/-! ### Reg -/
namespace Go.Proofs.Ytjfbiabgeickjaa.H
section
variable {P : Program} {ops : Array Oper} {Q : Exit → Act → World → Prop} {md : Region.Mode} {S : World → Prop}
/-- An operation that yields its value in every world that meets S is taken first; where its value goes is written out. -/
theorem held_take (i : Nat) (d : Option Tmp) {oi : Oper} {v : Value} {fuel : Nat} {listed : Array Bool} {a : Act} {w : World} (hi : ops[i]? = some oi) (hd : oi.dst = d)
    (hs : Region.noSelect ops = true) (hf : Region.free md ops listed i = true) (hr : (Region.ready md ops listed).contains i = true)
    (hQ : ∀ c a w, Q (.panic c) (a.put d v) w → Q (.panic c) a w) (hw : Region.wanted oi (yielded ops a.tmps) = true) (hy : ∀ w, S w → (execOp a.eval oi).run P w = .ok (.value v) w) (hS : S w)
    (h : wpAnyH P md ops Q S fuel (listed.setIfInBounds i true) (a.put d v) w) : wpAnyH P md ops Q S (fuel + 1) listed a w := by
  subst hd
  exact wpAnyH_take hi hs hf hr hQ (.inl ⟨hw, hy⟩) hS h
/-- An operation whose guard fails is passed over. -/
theorem held_skip (i : Nat) (d : Option Tmp) {oi : Oper} {fuel : Nat} {listed : Array Bool} {a : Act} {w : World} (hi : ops[i]? = some oi) (hd : oi.dst = d)
    (hs : Region.noSelect ops = true) (hf : Region.free md ops listed i = true) (hr : (Region.ready md ops listed).contains i = true)
    (hQ : ∀ c a w, Q (.panic c) (a.put d undef) w → Q (.panic c) a w) (hw : Region.wanted oi (yielded ops a.tmps) = false) (hS : S w)
    (h : wpAnyH P md ops Q S fuel (listed.setIfInBounds i true) (a.put d undef) w) : wpAnyH P md ops Q S (fuel + 1) listed a w := by
  subst hd
  exact wpAnyH_take hi hs hf hr hQ (.inr ⟨hw, rfl⟩) hS h
end
end Go.Proofs.Ytjfbiabgeickjaa.H
/-! ### Tree1 -/
namespace Go.Proofs.Ytjfbiabgeickjaa.H
open Go.RowKit Go.Proofs.Ytjfbiabgeickjaa.P Go.Proofs.YtjfbiabgeickjaaW.PrintWords Go.Proofs.YtjfbiabgeickjaaW.PrintLast Go.Proofs.YtjfbiabgeickjaaW.PrintMore
attribute [local go_sem] max2_int min2_int max_two min_two
set_option linter.unusedVariables false
set_option linter.unusedSimpArgs false
/-- A tree. -/
inductive T where
  | leaf : T
  | node : T → Int → Int → T → T
def ht : T → Nat
  | .leaf => 0
  | .node l _ _ r => 1 + max (ht l) (ht r)
def sz : T → Nat
  | .leaf => 0
  | .node l _ _ r => 1 + sz l + sz r
theorem ht_le : ∀ t : T, ht t ≤ sz t
  | .leaf => Nat.le_refl _
  | .node l _ _ r => by
    have := ht_le l
    have := ht_le r
    simp only [ht, sz]
    omega
/-- A tree's root, as a pointer: what lies in the heap. -/
def TreeAt (W : World) : Option Addr → T → Prop
  | p, .leaf => p = none
  | p, .node l k v r => ∃ g pl pr, p = some ⟨g, 0, none⟩ ∧ W.heap[g]? = some (.cells #[.int .u64 k, .int .i64 v, .pointer pl, .pointer pr, .int .i64 (ht (.node l k v r) : Nat), .int .i64 (sz (.node l k v r) : Nat)] 91 (0, 0)) ∧ TreeAt W pl l ∧ TreeAt W pr r
theorem TreeAt.below {W W' : World} (hb : Below W.heap.size W W') : ∀ {t : T} {p : Option Addr}, TreeAt W p t → TreeAt W' p t
  | .leaf, _, h => h
  | .node l k v r, _, ⟨g, pl, pr, h1, h2, h3, h4⟩ => ⟨g, pl, pr, h1, blk_below h2 hb, TreeAt.below hb h3, TreeAt.below hb h4⟩
theorem below_drewN {B : Nat} {w w1 : World} (h : Below B w w1) (n : Nat) : Below B w (w1.drewN n) := ⟨h.os, h.tape, h.output, h.size, h.block⟩
theorem TreeAt.drewN {W : World} {t : T} {p : Option Addr} (h : TreeAt W p t) (n : Nat) : TreeAt (W.drewN n) p t := h.below (below_drewN (Below.refl _ _) n)
theorem high_any (p : Option Addr) (t : T) (w : World) (h : TreeAt w p t) :
    Calls Try.prog 54 #[.pointer p] w fun e w' => e = .returned (.int .i64 (ht t : Nat)) ∧ w' = w := by
  cases t with
  | leaf =>
    obtain rfl : p = none := h
    go_enter Try.func54, Try.ntmps54
    go_wp2_with fail
    go_ret
    exact ⟨rfl, rfl⟩
  | node l k v r =>
    obtain ⟨g, pl, pr, rfl, hg, _, _⟩ := h
    have c4 := blk_cell hg 4
    generalize hH : ((ht (.node l k v r) : Nat) : Int) = H at *
    generalize ((sz (.node l k v r) : Nat) : Int) = S at *
    clear hH hg
    go_enter Try.func54, Try.ntmps54
    go_wp2_with fail
    go_ret
    exact ⟨rfl, rfl⟩
theorem size_any (p : Option Addr) (t : T) (w : World) (h : TreeAt w p t) :
    Calls Try.prog 45 #[.pointer p] w fun e w' => e = .returned (.int .i64 (sz t : Nat)) ∧ w' = w := by
  cases t with
  | leaf =>
    obtain rfl : p = none := h
    go_enter Try.func45, Try.ntmps45
    go_wp2_with fail
    go_ret
    exact ⟨rfl, rfl⟩
  | node l k v r =>
    obtain ⟨g, pl, pr, rfl, hg, _, _⟩ := h
    have c5 := blk_cell hg 5
    generalize ((ht (.node l k v r) : Nat) : Int) = H at *
    generalize hS : ((sz (.node l k v r) : Nat) : Int) = S at *
    clear hS hg
    go_enter Try.func45, Try.ntmps45
    go_wp2_with fail
    go_ret
    exact ⟨rfl, rfl⟩
set_option maxHeartbeats 1600000 in
set_option maxRecDepth 20000 in
theorem made_any (pl : Option Addr) (l : T) (k v : Int) (pr : Option Addr) (r : T) (w : World) (hl : TreeAt w pl l) (hr : TreeAt w pr r) (hs : sz l + sz r ≤ 100000) :
    Calls Try.prog 48 #[.pointer pl, .agg #[.int .u64 k, .int .i64 v], .pointer pr] w fun e w' => (∃ p, e = .returned (.pointer p) ∧ TreeAt w' p (.node l k v r)) ∧ Below w.heap.size w w' := by
  have HB0 := Aside0.mk ((Below.refl w.heap.size w).alloc (Nat.le_refl _) (.cells #[.int .u64 k, .int .i64 v] 66))
  have hbx := blk_new w (.cells #[.int .u64 k, .int .i64 v] 66)
  have HL := Aside0.mk (hl.below HB0.out)
  have HR := Aside0.mk (hr.below HB0.out)
  have hl1 := ht_le l
  have hr1 := ht_le r
  clear hl hr
  go_enter Try.func48, Try.ntmps48
  go_wp2_with fail
  generalize (w.alloc (.cells #[.int .u64 k, .int .i64 v] 66)) = w0 at *
  have hN : w0.cell? ⟨w.heap.size, 0, none⟩ = some (.int .u64 k) ∧ w0.cell? ⟨w.heap.size, 1, none⟩ = some (.int .i64 v) := ⟨blk_cell hbx 0, blk_cell hbx 1⟩
  clear hbx
  have HLD := Aside0.mk (HL.out.below (below_drew (Below.refl _ w0)))
  have HRD := Aside0.mk (HR.out.below (below_drew (Below.refl _ w0)))
  have HBD := Aside0.mk (HB0.out.trans ((below_drew (Below.refl _ w0)).mono HB0.out.size))
  have hh1 := fun W (hW : W = w0.drew) => high_any pl l W (by rw [hW]; exact HLD.out)
  have hh2 := fun W (hW : W = w0.drew) => high_any pr r W (by rw [hW]; exact HRD.out)
  have hs1 := fun W (hW : W = w0.drew) => size_any pl l W (by rw [hW]; exact HLD.out)
  have hs2 := fun W (hW : W = w0.drew) => size_any pr r W (by rw [hW]; exact HRD.out)
  have HEH := Aside0.mk (show ((ht (.node l k v r) : Nat) : Int) = 1 + max ((ht l : Nat) : Int) ((ht r : Nat) : Int) from by rw [ht]; omega)
  have HES := Aside0.mk (show ((sz (.node l k v r) : Nat) : Int) = 1 + ((sz l : Nat) : Int) + ((sz r : Nat) : Int) from by rw [sz]; omega)
  have b1 : 0 ≤ ((ht l : Nat) : Int) ∧ ((ht l : Nat) : Int) ≤ 100000 ∧ 0 ≤ ((ht r : Nat) : Int) ∧ ((ht r : Nat) : Int) ≤ 100000 ∧ 0 ≤ ((sz l : Nat) : Int) ∧ 0 ≤ ((sz r : Nat) : Int) ∧ ((sz l : Nat) : Int) + ((sz r : Nat) : Int) ≤ 100000 := by omega
  generalize ((ht l : Nat) : Int) = H1 at *
  generalize ((ht r : Nat) : Int) = H2 at *
  generalize ((sz l : Nat) : Int) = S1 at *
  generalize ((sz r : Nat) : Int) = S2 at *
  obtain ⟨b1, b2, b3, b4, b5, b6, b7⟩ := b1
  have HH1 := Aside0.mk hh1
  have HH2 := Aside0.mk hh2
  have HS1 := Aside0.mk hs1
  have HS2 := Aside0.mk hs2
  have w1 : IntKind.i64.wrap (1 + S1) = 1 + S1 := by rw [IntKind.wrap_i64]; omega
  have w2 : IntKind.i64.wrap (1 + S1 + S2) = 1 + S1 + S2 := by rw [IntKind.wrap_i64]; omega
  clear hh1 hh2 hs1 hs2 hl1 hr1 hs
  obtain ⟨M, hM, hM2⟩ : ∃ M, (if H1 < H2 then H2 else H1) = M ∧ M = max H1 H2 := ⟨_, rfl, by split <;> omega⟩
  have HM := Aside0.mk hM2
  have w3 : IntKind.i64.wrap (1 + M) = 1 + M := by rw [IntKind.wrap_i64]; omega
  clear hM2 b1 b2 b3 b4 b5 b6 b7
  refine wp_region_held_drew (S := (fun w' => w'.cell? ⟨w.heap.size, 0, none⟩ = some (.int .u64 k) ∧ w'.cell? ⟨w.heap.size, 1, none⟩ = some (.int .i64 v))) (by kernel_rfl) ?hS0 (fun hHeld => ?_)
  case hS0 => first | assumption | go_keep
  refine held_take 0 (some 7) (v := ?v0) rfl rfl (by kernel_rfl) (by kernel_rfl) (by kernel_rfl) (fun _ _ _ h => h) (by rfl) ?y0 (by assumption) ?_
  case y0 => ((intro w hSw); (try dsimp only at hSw); go_simp <;> (with_reducible rfl))
  try simp only [Act.put, List.setIfInBounds_toArray, List.set_cons_zero, List.set_cons_succ]
  refine held_take 1 (some 8) (v := ?v1) rfl rfl (by kernel_rfl) (by kernel_rfl) (by kernel_rfl) (fun _ _ _ h => h) (by rfl) ?y1 (by assumption) ?_
  case y1 => ((intro w hSw); (try dsimp only at hSw); go_simp <;> (with_reducible rfl))
  try simp only [Act.put, List.setIfInBounds_toArray, List.set_cons_zero, List.set_cons_succ]
  refine held_take 2 (some 9) (v := ?v2) rfl rfl (by kernel_rfl) (by kernel_rfl) (by kernel_rfl) (fun _ _ _ h => h) (by rfl) ?y2 (by assumption) ?_
  case y2 => ((intro w hSw); (try dsimp only at hSw); go_simp <;> (with_reducible rfl))
  try simp only [Act.put, List.setIfInBounds_toArray, List.set_cons_zero, List.set_cons_succ]
  refine held_take 3 (some 10) (v := ?v3) rfl rfl (by kernel_rfl) (by kernel_rfl) (by kernel_rfl) (fun _ _ _ h => h) (by rfl) ?y3 (by assumption) ?_
  case y3 => ((intro w hSw); (try dsimp only at hSw); go_simp <;> (with_reducible rfl))
  try simp only [Act.put, List.setIfInBounds_toArray, List.set_cons_zero, List.set_cons_succ]
  refine held_take 5 (some 12) (v := ?v5) rfl rfl (by kernel_rfl) (by kernel_rfl) (by kernel_rfl) (fun _ _ _ h => h) (by rfl) ?y5 (by assumption) ?_
  case y5 => ((intro w hSw); (try dsimp only at hSw); go_simp <;> (with_reducible rfl))
  try simp only [Act.put, List.setIfInBounds_toArray, List.set_cons_zero, List.set_cons_succ]
  refine held_take 9 (some 16) (v := ?v9) rfl rfl (by kernel_rfl) (by kernel_rfl) (by kernel_rfl) (fun _ _ _ h => h) (by rfl) ?y9 (by assumption) ?_
  case y9 => ((intro w hSw); (try dsimp only at hSw); go_simp <;> (with_reducible rfl))
  try simp only [Act.put, List.setIfInBounds_toArray, List.set_cons_zero, List.set_cons_succ]
  refine held_take 12 (some 19) (v := ?v12) rfl rfl (by kernel_rfl) (by kernel_rfl) (by kernel_rfl) (fun _ _ _ h => h) (by rfl) ?y12 (by assumption) ?_
  case y12 => ((intro w hSw); (try dsimp only at hSw); go_simp <;> (with_reducible rfl))
  try simp only [Act.put, List.setIfInBounds_toArray, List.set_cons_zero, List.set_cons_succ]
  refine wpAnyH_ready (rs := [4]) (by kernel_rfl) (by simp) ?_
  refine AllReadyH.cons rfl (fun K hK => ?_) AllReadyH.nil
  go_simp
  refine (HH1.out _ rfl).mono ?_
  rintro e w1 ⟨rfl, rfl⟩
  refine hK.out _ _ ?hS5 (fun hHeld => ?_)
  case hS5 => first | assumption | go_keep
  clear hK K
  try simp only [Act.put, List.setIfInBounds_toArray, List.set_cons_zero, List.set_cons_succ]
  refine wpAnyH_ready (rs := [6]) (by kernel_rfl) (by simp) ?_
  refine AllReadyH.cons rfl (fun K hK => ?_) AllReadyH.nil
  go_simp
  refine (HH2.out _ rfl).mono ?_
  rintro e w1 ⟨rfl, rfl⟩
  refine hK.out _ _ ?hS7 (fun hHeld => ?_)
  case hS7 => first | assumption | go_keep
  clear hK K
  try simp only [Act.put, List.setIfInBounds_toArray, List.set_cons_zero, List.set_cons_succ]
  refine held_take 7 (some 14) (v := ?v7) rfl rfl (by kernel_rfl) (by kernel_rfl) (by kernel_rfl) (fun _ _ _ h => h) (by rfl) ?y7 (by assumption) ?_
  case y7 => ((intro w hSw); (try dsimp only at hSw); go_simp <;> (with_reducible rfl))
  try simp only [Act.put, List.setIfInBounds_toArray, List.set_cons_zero, List.set_cons_succ]
  refine held_take 8 (some 15) (v := ?v8) rfl rfl (by kernel_rfl) (by kernel_rfl) (by kernel_rfl) (fun _ _ _ h => h) (by rfl) ?y8 (by assumption) ?_
  case y8 => ((intro w hSw); (try dsimp only at hSw); go_simp <;> (with_reducible rfl))
  try simp only [Act.put, List.setIfInBounds_toArray, List.set_cons_zero, List.set_cons_succ]
  refine wpAnyH_ready (rs := [10]) (by kernel_rfl) (by simp) ?_
  refine AllReadyH.cons rfl (fun K hK => ?_) AllReadyH.nil
  go_simp
  refine (HS1.out _ rfl).mono ?_
  rintro e w1 ⟨rfl, rfl⟩
  refine hK.out _ _ ?hS11 (fun hHeld => ?_)
  case hS11 => first | assumption | go_keep
  clear hK K
  try simp only [Act.put, List.setIfInBounds_toArray, List.set_cons_zero, List.set_cons_succ]
  refine held_take 11 (some 18) (v := ?v11) rfl rfl (by kernel_rfl) (by kernel_rfl) (by kernel_rfl) (fun _ _ _ h => h) (by rfl) ?y11 (by assumption) ?_
  case y11 => ((intro w hSw); (try dsimp only at hSw); go_simp <;> (with_reducible rfl))
  try simp only [Act.put, List.setIfInBounds_toArray, List.set_cons_zero, List.set_cons_succ]
  refine wpAnyH_ready (rs := [13]) (by kernel_rfl) (by simp) ?_
  refine AllReadyH.cons rfl (fun K hK => ?_) AllReadyH.nil
  go_simp
  refine (HS2.out _ rfl).mono ?_
  rintro e w1 ⟨rfl, rfl⟩
  refine hK.out _ _ ?hS14 (fun hHeld => ?_)
  case hS14 => first | assumption | go_keep
  clear hK K
  try simp only [Act.put, List.setIfInBounds_toArray, List.set_cons_zero, List.set_cons_succ]
  refine held_take 14 (some 21) (v := ?v14) rfl rfl (by kernel_rfl) (by kernel_rfl) (by kernel_rfl) (fun _ _ _ h => h) (by rfl) ?y14 (by assumption) ?_
  case y14 => ((intro w hSw); (try dsimp only at hSw); go_simp <;> (with_reducible rfl))
  try simp only [Act.put, List.setIfInBounds_toArray, List.set_cons_zero, List.set_cons_succ]
  refine held_take 15 (some 22) (v := ?v15) rfl rfl (by kernel_rfl) (by kernel_rfl) (by kernel_rfl) (fun _ _ _ h => h) (by rfl) ?y15 (by assumption) ?_
  case y15 => ((intro w hSw); (try dsimp only at hSw); go_simp <;> (with_reducible rfl))
  try simp only [Act.put, List.setIfInBounds_toArray, List.set_cons_zero, List.set_cons_succ]
  refine wpAnyH_ready (rs := [16]) (by kernel_rfl) (by simp) ?_
  refine AllReadyH.cons rfl (fun K hK => ?_) AllReadyH.nil
  go_simp
  refine hK.out _ _ ?hS17 (fun hHeld => ?_)
  case hS17 => first | assumption | go_keep
  clear hK K
  try simp only [Act.put, List.setIfInBounds_toArray, List.set_cons_zero, List.set_cons_succ]
  refine held_take 17 (some 6) (v := ?v17) rfl rfl (by kernel_rfl) (by kernel_rfl) (by kernel_rfl) (fun _ _ _ h => h) (by rfl) ?y17 (by assumption) ?_
  case y17 => ((intro w hSw); (try dsimp only at hSw); go_simp <;> (with_reducible rfl))
  try simp only [Act.put, List.setIfInBounds_toArray, List.set_cons_zero, List.set_cons_succ]
  refine wpAnyH_done (by kernel_rfl) ?_ _
  have HLN := Aside0.mk (HLD.out.below ((Below.refl w0.drew.heap.size w0.drew).alloc (Nat.le_refl _) (.cells #[.int .u64 k, .int .i64 v, .pointer pl, .pointer pr, .int .i64 (1 + M), .int .i64 (1 + S1 + S2)] 91)))
  have HRN := Aside0.mk (HRD.out.below ((Below.refl w0.drew.heap.size w0.drew).alloc (Nat.le_refl _) (.cells #[.int .u64 k, .int .i64 v, .pointer pl, .pointer pr, .int .i64 (1 + M), .int .i64 (1 + S1 + S2)] 91)))
  have HBN := Aside0.mk (HBD.out.alloc HBD.out.size (.cells #[.int .u64 k, .int .i64 v, .pointer pl, .pointer pr, .int .i64 (1 + M), .int .i64 (1 + S1 + S2)] 91))
  have HNW := Aside0.mk (blk_new w0.drew (.cells #[.int .u64 k, .int .i64 v, .pointer pl, .pointer pr, .int .i64 (1 + M), .int .i64 (1 + S1 + S2)] 91))
  go_wp2
  go_ret
  exact ⟨⟨_, rfl, w0.heap.size, pl, pr, rfl, by rw [HEH.out, HES.out, ← HM.out]; exact HNW.out, HLN.out, HRN.out⟩, HBN.out⟩
end Go.Proofs.Ytjfbiabgeickjaa.H
/-! ### Tree2 -/
namespace Go.Proofs.Ytjfbiabgeickjaa.H
open Go.RowKit Go.Proofs.Ytjfbiabgeickjaa.P Go.Proofs.YtjfbiabgeickjaaW.PrintWords Go.Proofs.YtjfbiabgeickjaaW.PrintLast Go.Proofs.YtjfbiabgeickjaaW.PrintMore
set_option linter.unusedVariables false
set_option linter.unusedSimpArgs false
def evenT (l : T) (k v : Int) (r : T) : T :=
  if ht l > ht r + 1 then
    match l with
    | .leaf => .node l k v r
    | .node ll lk lv lr =>
      if ht ll ≥ ht lr then .node ll lk lv (.node lr k v r)
      else match lr with
        | .leaf => .node l k v r
        | .node m1 mk mv m2 => .node (.node ll lk lv m1) mk mv (.node m2 k v r)
  else if ht r > ht l + 1 then
    match r with
    | .leaf => .node l k v r
    | .node rl rk rv rr =>
      if ht rr ≥ ht rl then .node (.node l k v rl) rk rv rr
      else match rl with
        | .leaf => .node l k v r
        | .node m1 mk mv m2 => .node (.node l k v m1) mk mv (.node m2 rk rv rr)
  else .node l k v r
theorem cells2_below {w w' : World} {a0 a1 : Addr} {v0 v1 : Value} (h : w.cell? a0 = some v0 ∧ w.cell? a1 = some v1) (hb : Below w.heap.size w w') : w'.cell? a0 = some v0 ∧ w'.cell? a1 = some v1 := ⟨pw_cell_below hb h.1, pw_cell_below hb h.2⟩
theorem cells4_below {w w' : World} {a0 a1 a2 a3 : Addr} {v0 v1 v2 v3 : Value} (h : w.cell? a0 = some v0 ∧ w.cell? a1 = some v1 ∧ w.cell? a2 = some v2 ∧ w.cell? a3 = some v3) (hb : Below w.heap.size w w') : w'.cell? a0 = some v0 ∧ w'.cell? a1 = some v1 ∧ w'.cell? a2 = some v2 ∧ w'.cell? a3 = some v3 := ⟨pw_cell_below hb h.1, pw_cell_below hb h.2.1, pw_cell_below hb h.2.2.1, pw_cell_below hb h.2.2.2⟩
theorem cells6_below {w w' : World} {a0 a1 a2 a3 a4 a5 : Addr} {v0 v1 v2 v3 v4 v5 : Value} (h : w.cell? a0 = some v0 ∧ w.cell? a1 = some v1 ∧ w.cell? a2 = some v2 ∧ w.cell? a3 = some v3 ∧ w.cell? a4 = some v4 ∧ w.cell? a5 = some v5) (hb : Below w.heap.size w w') : w'.cell? a0 = some v0 ∧ w'.cell? a1 = some v1 ∧ w'.cell? a2 = some v2 ∧ w'.cell? a3 = some v3 ∧ w'.cell? a4 = some v4 ∧ w'.cell? a5 = some v5 := ⟨pw_cell_below hb h.1, pw_cell_below hb h.2.1, pw_cell_below hb h.2.2.1, pw_cell_below hb h.2.2.2.1, pw_cell_below hb h.2.2.2.2.1, pw_cell_below hb h.2.2.2.2.2⟩
theorem cells10_below {w w' : World} {a0 a1 a2 a3 a4 a5 a6 a7 a8 a9 : Addr} {v0 v1 v2 v3 v4 v5 v6 v7 v8 v9 : Value} (h : w.cell? a0 = some v0 ∧ w.cell? a1 = some v1 ∧ w.cell? a2 = some v2 ∧ w.cell? a3 = some v3 ∧ w.cell? a4 = some v4 ∧ w.cell? a5 = some v5 ∧ w.cell? a6 = some v6 ∧ w.cell? a7 = some v7 ∧ w.cell? a8 = some v8 ∧ w.cell? a9 = some v9) (hb : Below w.heap.size w w') : w'.cell? a0 = some v0 ∧ w'.cell? a1 = some v1 ∧ w'.cell? a2 = some v2 ∧ w'.cell? a3 = some v3 ∧ w'.cell? a4 = some v4 ∧ w'.cell? a5 = some v5 ∧ w'.cell? a6 = some v6 ∧ w'.cell? a7 = some v7 ∧ w'.cell? a8 = some v8 ∧ w'.cell? a9 = some v9 := ⟨pw_cell_below hb h.1, pw_cell_below hb h.2.1, pw_cell_below hb h.2.2.1, pw_cell_below hb h.2.2.2.1, pw_cell_below hb h.2.2.2.2.1, pw_cell_below hb h.2.2.2.2.2.1, pw_cell_below hb h.2.2.2.2.2.2.1, pw_cell_below hb h.2.2.2.2.2.2.2.1, pw_cell_below hb h.2.2.2.2.2.2.2.2.1, pw_cell_below hb h.2.2.2.2.2.2.2.2.2⟩
/-- What is known of a tree that may be made of. -/
theorem node_cells {W : World} {g : Nat} {k v : Int} {pl pr : Option Addr} {H S : Int} (h : W.heap[g]? = some (.cells #[.int .u64 k, .int .i64 v, .pointer pl, .pointer pr, .int .i64 H, .int .i64 S] 91 (0, 0))) :
    W.cell? ⟨g, 0, none⟩ = some (.int .u64 k) ∧ W.cell? ⟨g, 1, none⟩ = some (.int .i64 v) ∧ W.cell? ⟨g, 2, none⟩ = some (.pointer pl) ∧ W.cell? ⟨g, 3, none⟩ = some (.pointer pr) :=
  ⟨blk_cell h 0, blk_cell h 1, blk_cell h 2, blk_cell h 3⟩
/-- What made comes to. -/
def Made (B : Nat) (w : World) (t : T) (e : Ending) (w' : World) : Prop := (∃ p, e = .returned (.pointer p) ∧ TreeAt w' p t) ∧ Below B w w'
set_option maxRecDepth 20000 in
set_option maxHeartbeats 4000000 in
theorem even_any (pl : Option Addr) (l : T) (k v : Int) (pr : Option Addr) (r : T) (w : World) (hl : TreeAt w pl l) (hr : TreeAt w pr r) (hs : sz l + sz r ≤ 50000) :
    Calls Try.prog 49 #[.pointer pl, .agg #[.int .u64 k, .int .i64 v], .pointer pr] w fun e w' => (∃ p, e = .returned (.pointer p) ∧ TreeAt w' p (evenT l k v r)) ∧ Below w.heap.size w w' := by
  have HB0 := Aside0.mk ((Below.refl w.heap.size w).alloc (Nat.le_refl _) (.cells #[.int .u64 k, .int .i64 v] 66))
  have HX0 := Aside0.mk (blk_new w (.cells #[.int .u64 k, .int .i64 v] 66))
  have HL := Aside0.mk (hl.below HB0.out)
  have HR := Aside0.mk (hr.below HB0.out)
  have hl1 := ht_le l
  have hr1 := ht_le r
  clear hl hr
  go_enter Try.func49, Try.ntmps49
  go_wp2_with fail
  generalize (w.alloc (.cells #[.int .u64 k, .int .i64 v] 66)) = w0 at *
  have WR := Aside0.mk (show ∀ t : T, ht t ≤ 50000 → IntKind.i64.wrap (((ht t : Nat) : Int) + 1) = ((ht t : Nat) : Int) + 1 from fun t h => by rw [IntKind.wrap_i64]; omega)
  have wr := WR.out r (by omega)
  have wl := WR.out l (by omega)
  refine (high_any pl l w0 HL.out).mono ?_
  rintro e w1 ⟨rfl, rfl⟩
  go_wp2_with fail
  refine (high_any pr r w1 HR.out).mono ?_
  rintro e w2 ⟨rfl, rfl⟩
  have hrot1 := fun (hc : ((ht r : Nat) : Int) + 1 < ((ht l : Nat) : Int)) => show ht l > ht r + 1 by omega
  by_cases hc1 : ((ht r : Nat) : Int) + 1 < ((ht l : Nat) : Int)
  · have HC1 := Aside0.mk (hrot1 hc1)
    clear hrot1
    go_wp2_with fail
    cases l with
    | leaf => simp [ht] at hc1; omega
    | node ll lk lv lr =>
      obtain ⟨gl, pll, plr, rfl, hgl, hll, hlr⟩ := HL.out
      have HLL := Aside0.mk hll
      have HLR := Aside0.mk hlr
      have HG := Aside0.mk hgl
      have n0 := (node_cells hgl).2.2.1
      have n1 := (node_cells hgl).2.2.2
      have hcA := fun n => high_any pll ll (w2.drewN n) (HLL.out.drewN n)
      have hcB := fun n => high_any plr lr (w2.drewN n) (HLR.out.drewN n)
      have hszl : sz ll + sz lr + 1 ≤ 50000 := by simp only [sz] at hs; omega
      have HSZ := Aside0.mk (show sz ll + sz lr + 1 + sz r ≤ 50000 by simp only [sz] at hs; omega)
      have HH := Aside0.mk (show ht (.node ll lk lv lr) = 1 + max (ht ll) (ht lr) from rfl)
      clear hll hlr hgl hl1 hs hc1
      generalize ((ht (.node ll lk lv lr) : Nat) : Int) = hh at *
      go_quiet (first | (go_at_call 54; (first | (with_reducible refine (hcA _).mono ?_) | (with_reducible refine (hcB _).mono ?_)); rintro e w' ⟨rfl, rfl⟩; exact ⟨rfl, _, rfl⟩))

      have HB3 := Aside0.mk (below_drewN HB0.out nq)
      have HX3 := Aside0.mk (show (w2.drewN nq).heap[w.heap.size]? = some (.cells #[.int .u64 k, .int .i64 v] 66 (0, 0)) from HX0.out)
      have HG3 := Aside0.mk (show (w2.drewN nq).heap[gl]? = _ from HG.out)
      have HO3 := Aside0.mk (HR.out.drewN nq)
      have Hll3 := Aside0.mk (HLL.out.drewN nq)
      have Hlr3 := Aside0.mk (HLR.out.drewN nq)
      clear n0 n1 hcA hcB HB0 HX0 HG HR HLL HLR
      generalize w2.drewN nq = w3 at *
      have hN : w3.cell? ⟨gl, 0, none⟩ = some (.int .u64 lk) ∧ w3.cell? ⟨gl, 1, none⟩ = some (.int .i64 lv) ∧ w3.cell? ⟨gl, 2, none⟩ = some (.pointer pll) ∧ w3.cell? ⟨gl, 3, none⟩ = some (.pointer plr) ∧ w3.cell? ⟨w.heap.size, 0, none⟩ = some (.int .u64 k) ∧ w3.cell? ⟨w.heap.size, 1, none⟩ = some (.int .i64 v) :=
        ⟨(node_cells HG3.out).1, (node_cells HG3.out).2.1, (node_cells HG3.out).2.2.1, (node_cells HG3.out).2.2.2, blk_cell HX3.out 0, blk_cell HX3.out 1⟩
      have HOD := Aside0.mk (HO3.out.below (below_drew (Below.refl _ w3)))
      have HllD := Aside0.mk (Hll3.out.below (below_drew (Below.refl _ w3)))
      have HlrD := Aside0.mk (Hlr3.out.below (below_drew (Below.refl _ w3)))
      have HBD := Aside0.mk (HB3.out.trans ((below_drew (Below.refl _ w3)).mono HB3.out.size))
      by_cases hc2 : ht lr ≤ ht ll
      · have HEV := Aside0.mk (show evenT (.node ll lk lv lr) k v r = .node ll lk lv (.node lr k v r) from by unfold evenT; rw [if_pos HC1.out]; simp [hc2])
        go_wp2_with fail
        refine wp_region_held_drew (S := (fun w' => w'.cell? ⟨gl, 0, none⟩ = some (.int .u64 lk) ∧ w'.cell? ⟨gl, 1, none⟩ = some (.int .i64 lv) ∧ w'.cell? ⟨gl, 2, none⟩ = some (.pointer pll) ∧ w'.cell? ⟨gl, 3, none⟩ = some (.pointer plr) ∧ w'.cell? ⟨w.heap.size, 0, none⟩ = some (.int .u64 k) ∧ w'.cell? ⟨w.heap.size, 1, none⟩ = some (.int .i64 v))) (by kernel_rfl) ?hSa0 (fun hHeld => ?_)
        case hSa0 => first | assumption | go_keep
        refine held_take 0 (some 27) (v := ?va0) rfl rfl (by kernel_rfl) (by kernel_rfl) (by kernel_rfl) (fun _ _ _ h => h) (by rfl) ?ya0 (by assumption) ?_
        case ya0 => ((intro w hSw); (try dsimp only at hSw); go_simp <;> (with_reducible rfl))
        try simp only [Act.put, List.setIfInBounds_toArray, List.set_cons_zero, List.set_cons_succ]
        refine held_take 1 (some 28) (v := ?va1) rfl rfl (by kernel_rfl) (by kernel_rfl) (by kernel_rfl) (fun _ _ _ h => h) (by rfl) ?ya1 (by assumption) ?_
        case ya1 => ((intro w hSw); (try dsimp only at hSw); go_simp <;> (with_reducible rfl))
        try simp only [Act.put, List.setIfInBounds_toArray, List.set_cons_zero, List.set_cons_succ]
        refine held_take 2 (some 29) (v := ?va2) rfl rfl (by kernel_rfl) (by kernel_rfl) (by kernel_rfl) (fun _ _ _ h => h) (by rfl) ?ya2 (by assumption) ?_
        case ya2 => ((intro w hSw); (try dsimp only at hSw); go_simp <;> (with_reducible rfl))
        try simp only [Act.put, List.setIfInBounds_toArray, List.set_cons_zero, List.set_cons_succ]
        refine held_take 3 (some 30) (v := ?va3) rfl rfl (by kernel_rfl) (by kernel_rfl) (by kernel_rfl) (fun _ _ _ h => h) (by rfl) ?ya3 (by assumption) ?_
        case ya3 => ((intro w hSw); (try dsimp only at hSw); go_simp <;> (with_reducible rfl))
        try simp only [Act.put, List.setIfInBounds_toArray, List.set_cons_zero, List.set_cons_succ]
        refine held_take 4 (some 31) (v := ?va4) rfl rfl (by kernel_rfl) (by kernel_rfl) (by kernel_rfl) (fun _ _ _ h => h) (by rfl) ?ya4 (by assumption) ?_
        case ya4 => ((intro w hSw); (try dsimp only at hSw); go_simp <;> (with_reducible rfl))
        try simp only [Act.put, List.setIfInBounds_toArray, List.set_cons_zero, List.set_cons_succ]
        refine held_take 5 (some 32) (v := ?va5) rfl rfl (by kernel_rfl) (by kernel_rfl) (by kernel_rfl) (fun _ _ _ h => h) (by rfl) ?ya5 (by assumption) ?_
        case ya5 => ((intro w hSw); (try dsimp only at hSw); go_simp <;> (with_reducible rfl))
        try simp only [Act.put, List.setIfInBounds_toArray, List.set_cons_zero, List.set_cons_succ]
        refine held_take 6 (some 33) (v := ?va6) rfl rfl (by kernel_rfl) (by kernel_rfl) (by kernel_rfl) (fun _ _ _ h => h) (by rfl) ?ya6 (by assumption) ?_
        case ya6 => ((intro w hSw); (try dsimp only at hSw); go_simp <;> (with_reducible rfl))
        try simp only [Act.put, List.setIfInBounds_toArray, List.set_cons_zero, List.set_cons_succ]
        refine held_take 7 (some 34) (v := ?va7) rfl rfl (by kernel_rfl) (by kernel_rfl) (by kernel_rfl) (fun _ _ _ h => h) (by rfl) ?ya7 (by assumption) ?_
        case ya7 => ((intro w hSw); (try dsimp only at hSw); go_simp <;> (with_reducible rfl))
        try simp only [Act.put, List.setIfInBounds_toArray, List.set_cons_zero, List.set_cons_succ]
        refine held_take 8 (some 35) (v := ?va8) rfl rfl (by kernel_rfl) (by kernel_rfl) (by kernel_rfl) (fun _ _ _ h => h) (by rfl) ?ya8 (by assumption) ?_
        case ya8 => ((intro w hSw); (try dsimp only at hSw); go_simp <;> (with_reducible rfl))
        try simp only [Act.put, List.setIfInBounds_toArray, List.set_cons_zero, List.set_cons_succ]
        refine held_take 9 (some 36) (v := ?va9) rfl rfl (by kernel_rfl) (by kernel_rfl) (by kernel_rfl) (fun _ _ _ h => h) (by rfl) ?ya9 (by assumption) ?_
        case ya9 => ((intro w hSw); (try dsimp only at hSw); go_simp <;> (with_reducible rfl))
        try simp only [Act.put, List.setIfInBounds_toArray, List.set_cons_zero, List.set_cons_succ]
        refine held_take 10 (some 37) (v := ?va10) rfl rfl (by kernel_rfl) (by kernel_rfl) (by kernel_rfl) (fun _ _ _ h => h) (by rfl) ?ya10 (by assumption) ?_
        case ya10 => ((intro w hSw); (try dsimp only at hSw); go_simp <;> (with_reducible rfl))
        try simp only [Act.put, List.setIfInBounds_toArray, List.set_cons_zero, List.set_cons_succ]
        refine held_take 11 (some 38) (v := ?va11) rfl rfl (by kernel_rfl) (by kernel_rfl) (by kernel_rfl) (fun _ _ _ h => h) (by rfl) ?ya11 (by assumption) ?_
        case ya11 => ((intro w hSw); (try dsimp only at hSw); go_simp <;> (with_reducible rfl))
        try simp only [Act.put, List.setIfInBounds_toArray, List.set_cons_zero, List.set_cons_succ]
        refine held_take 12 (some 39) (v := ?va12) rfl rfl (by kernel_rfl) (by kernel_rfl) (by kernel_rfl) (fun _ _ _ h => h) (by rfl) ?ya12 (by assumption) ?_
        case ya12 => ((intro w hSw); (try dsimp only at hSw); go_simp <;> (with_reducible rfl))
        try simp only [Act.put, List.setIfInBounds_toArray, List.set_cons_zero, List.set_cons_succ]
        refine held_take 13 (some 40) (v := ?va13) rfl rfl (by kernel_rfl) (by kernel_rfl) (by kernel_rfl) (fun _ _ _ h => h) (by rfl) ?ya13 (by assumption) ?_
        case ya13 => ((intro w hSw); (try dsimp only at hSw); go_simp <;> (with_reducible rfl))
        try simp only [Act.put, List.setIfInBounds_toArray, List.set_cons_zero, List.set_cons_succ]
        refine wpAnyH_ready (rs := [14]) (by kernel_rfl) (by simp) ?_
        refine AllReadyH.cons rfl (fun K hK => ?_) AllReadyH.nil
        go_simp
        refine (made_any plr lr k v pr r _ HlrD.out HOD.out (by have := HSZ.out; omega)).mono ?_
        rintro e w4 ⟨⟨p4, rfl, ht4⟩, hb4⟩
        have K4 := cells6_below (by assumption) hb4
        have HT4 := Aside0.mk ht4
        have HA4 := Aside0.mk (HllD.out.below hb4)
        have HB4 := Aside0.mk (HBD.out.trans (hb4.mono HBD.out.size))
        clear ht4 hb4
        refine hK.out _ _ ?hSa15 (fun hHeld => ?_)
        case hSa15 => first | assumption | go_keep
        clear hK K
        try simp only [Act.put, List.setIfInBounds_toArray, List.set_cons_zero, List.set_cons_succ]
        refine wpAnyH_ready (rs := [15]) (by kernel_rfl) (by simp) ?_
        refine AllReadyH.cons rfl (fun K hK => ?_) AllReadyH.nil
        go_simp
        refine (made_any pll ll lk lv p4 (.node lr k v r) _ HA4.out HT4.out (by have := HSZ.out; simp only [sz]; omega)).mono ?_
        rintro e w5 ⟨⟨p5, rfl, ht5⟩, hb5⟩
        have K5 := cells6_below (by assumption) hb5
        have HT5 := Aside0.mk ht5
        have HB5 := Aside0.mk (HB4.out.trans (hb5.mono HB4.out.size))
        clear ht5 hb5
        refine hK.out _ _ ?hSa16 (fun hHeld => ?_)
        case hSa16 => first | assumption | go_keep
        clear hK K
        try simp only [Act.put, List.setIfInBounds_toArray, List.set_cons_zero, List.set_cons_succ]
        refine held_take 16 (some 6) (v := ?va16) rfl rfl (by kernel_rfl) (by kernel_rfl) (by kernel_rfl) (fun _ _ _ h => h) (by rfl) ?ya16 (by assumption) ?_
        case ya16 => ((intro w hSw); (try dsimp only at hSw); go_simp <;> (with_reducible rfl))
        try simp only [Act.put, List.setIfInBounds_toArray, List.set_cons_zero, List.set_cons_succ]
        refine wpAnyH_done (by kernel_rfl) ?_ _
        go_wp2
        go_ret
        exact ⟨⟨_, rfl, by rw [HEV.out]; exact HT5.out⟩, HB5.out⟩
      · cases lr with
        | leaf => simp [ht] at hc2
        | node m1 mk mv m2 =>
          obtain ⟨gm, pm1, pm2, rfl, hgm, hm1, hm2⟩ := HlrD.out
          have HM1 := Aside0.mk hm1
          have HM2 := Aside0.mk hm2
          have HOTH := Aside0.mk HllD.out
          have HSZ2 := Aside0.mk (show sz ll + (1 + sz m1 + sz m2) + 1 + sz r ≤ 50000 from by have := HSZ.out; simp only [sz] at this; omega)
          have HEV := Aside0.mk (show evenT (.node ll lk lv (.node m1 mk mv m2)) k v r = .node (.node ll lk lv m1) mk mv (.node m2 k v r) from by unfold evenT; rw [if_pos HC1.out]; dsimp only; rw [if_neg (by omega)])
          have m0 : w3.cell? ⟨gm, 0, none⟩ = some (.int .u64 mk) ∧ w3.cell? ⟨gm, 1, none⟩ = some (.int .i64 mv) ∧ w3.cell? ⟨gm, 2, none⟩ = some (.pointer pm1) ∧ w3.cell? ⟨gm, 3, none⟩ = some (.pointer pm2) := node_cells (show w3.heap[gm]? = _ from hgm)
          obtain ⟨q0, q1, q2, q3, q4, q5⟩ := hN
          obtain ⟨m0, m1', m2', m3'⟩ := m0
          have hN := And.intro q0 (And.intro q1 (And.intro q2 (And.intro q3 (And.intro m0 (And.intro m1' (And.intro m2' (And.intro m3' (And.intro q4 q5))))))))
          clear hm1 hm2 hgm m0 m1' m2' m3' q0 q1 q4 q5
          go_wp2_with fail
          refine wp_region_held_drew (S := (fun w' => w'.cell? ⟨gl, 0, none⟩ = some (.int .u64 lk) ∧ w'.cell? ⟨gl, 1, none⟩ = some (.int .i64 lv) ∧ w'.cell? ⟨gl, 2, none⟩ = some (.pointer pll) ∧ w'.cell? ⟨gl, 3, none⟩ = some (.pointer (some ⟨gm, 0, none⟩)) ∧ w'.cell? ⟨gm, 0, none⟩ = some (.int .u64 mk) ∧ w'.cell? ⟨gm, 1, none⟩ = some (.int .i64 mv) ∧ w'.cell? ⟨gm, 2, none⟩ = some (.pointer pm1) ∧ w'.cell? ⟨gm, 3, none⟩ = some (.pointer pm2) ∧ w'.cell? ⟨w.heap.size, 0, none⟩ = some (.int .u64 k) ∧ w'.cell? ⟨w.heap.size, 1, none⟩ = some (.int .i64 v))) (by kernel_rfl) ?hSc0 (fun hHeld => ?_)
          case hSc0 => first | assumption | go_keep
          refine held_take 0 (some 47) (v := ?vc0) rfl rfl (by kernel_rfl) (by kernel_rfl) (by kernel_rfl) (fun _ _ _ h => h) (by rfl) ?yc0 (by assumption) ?_
          case yc0 => ((intro w hSw); (try dsimp only at hSw); go_simp <;> (with_reducible rfl))
          try simp only [Act.put, List.setIfInBounds_toArray, List.set_cons_zero, List.set_cons_succ]
          refine held_take 1 (some 48) (v := ?vc1) rfl rfl (by kernel_rfl) (by kernel_rfl) (by kernel_rfl) (fun _ _ _ h => h) (by rfl) ?yc1 (by assumption) ?_
          case yc1 => ((intro w hSw); (try dsimp only at hSw); go_simp <;> (with_reducible rfl))
          try simp only [Act.put, List.setIfInBounds_toArray, List.set_cons_zero, List.set_cons_succ]
          refine held_take 2 (some 49) (v := ?vc2) rfl rfl (by kernel_rfl) (by kernel_rfl) (by kernel_rfl) (fun _ _ _ h => h) (by rfl) ?yc2 (by assumption) ?_
          case yc2 => ((intro w hSw); (try dsimp only at hSw); go_simp <;> (with_reducible rfl))
          try simp only [Act.put, List.setIfInBounds_toArray, List.set_cons_zero, List.set_cons_succ]
          refine held_take 3 (some 50) (v := ?vc3) rfl rfl (by kernel_rfl) (by kernel_rfl) (by kernel_rfl) (fun _ _ _ h => h) (by rfl) ?yc3 (by assumption) ?_
          case yc3 => ((intro w hSw); (try dsimp only at hSw); go_simp <;> (with_reducible rfl))
          try simp only [Act.put, List.setIfInBounds_toArray, List.set_cons_zero, List.set_cons_succ]
          refine held_take 4 (some 51) (v := ?vc4) rfl rfl (by kernel_rfl) (by kernel_rfl) (by kernel_rfl) (fun _ _ _ h => h) (by rfl) ?yc4 (by assumption) ?_
          case yc4 => ((intro w hSw); (try dsimp only at hSw); go_simp <;> (with_reducible rfl))
          try simp only [Act.put, List.setIfInBounds_toArray, List.set_cons_zero, List.set_cons_succ]
          refine held_take 5 (some 52) (v := ?vc5) rfl rfl (by kernel_rfl) (by kernel_rfl) (by kernel_rfl) (fun _ _ _ h => h) (by rfl) ?yc5 (by assumption) ?_
          case yc5 => ((intro w hSw); (try dsimp only at hSw); go_simp <;> (with_reducible rfl))
          try simp only [Act.put, List.setIfInBounds_toArray, List.set_cons_zero, List.set_cons_succ]
          refine held_take 6 (some 53) (v := ?vc6) rfl rfl (by kernel_rfl) (by kernel_rfl) (by kernel_rfl) (fun _ _ _ h => h) (by rfl) ?yc6 (by assumption) ?_
          case yc6 => ((intro w hSw); (try dsimp only at hSw); go_simp <;> (with_reducible rfl))
          try simp only [Act.put, List.setIfInBounds_toArray, List.set_cons_zero, List.set_cons_succ]
          refine held_take 7 (some 54) (v := ?vc7) rfl rfl (by kernel_rfl) (by kernel_rfl) (by kernel_rfl) (fun _ _ _ h => h) (by rfl) ?yc7 (by assumption) ?_
          case yc7 => ((intro w hSw); (try dsimp only at hSw); go_simp <;> (with_reducible rfl))
          try simp only [Act.put, List.setIfInBounds_toArray, List.set_cons_zero, List.set_cons_succ]
          refine held_take 8 (some 55) (v := ?vc8) rfl rfl (by kernel_rfl) (by kernel_rfl) (by kernel_rfl) (fun _ _ _ h => h) (by rfl) ?yc8 (by assumption) ?_
          case yc8 => ((intro w hSw); (try dsimp only at hSw); go_simp <;> (with_reducible rfl))
          try simp only [Act.put, List.setIfInBounds_toArray, List.set_cons_zero, List.set_cons_succ]
          refine held_take 9 (some 56) (v := ?vc9) rfl rfl (by kernel_rfl) (by kernel_rfl) (by kernel_rfl) (fun _ _ _ h => h) (by rfl) ?yc9 (by assumption) ?_
          case yc9 => ((intro w hSw); (try dsimp only at hSw); go_simp <;> (with_reducible rfl))
          try simp only [Act.put, List.setIfInBounds_toArray, List.set_cons_zero, List.set_cons_succ]
          refine held_take 10 (some 57) (v := ?vc10) rfl rfl (by kernel_rfl) (by kernel_rfl) (by kernel_rfl) (fun _ _ _ h => h) (by rfl) ?yc10 (by assumption) ?_
          case yc10 => ((intro w hSw); (try dsimp only at hSw); go_simp <;> (with_reducible rfl))
          try simp only [Act.put, List.setIfInBounds_toArray, List.set_cons_zero, List.set_cons_succ]
          refine held_take 11 (some 58) (v := ?vc11) rfl rfl (by kernel_rfl) (by kernel_rfl) (by kernel_rfl) (fun _ _ _ h => h) (by rfl) ?yc11 (by assumption) ?_
          case yc11 => ((intro w hSw); (try dsimp only at hSw); go_simp <;> (with_reducible rfl))
          try simp only [Act.put, List.setIfInBounds_toArray, List.set_cons_zero, List.set_cons_succ]
          refine held_take 13 (some 60) (v := ?vc13) rfl rfl (by kernel_rfl) (by kernel_rfl) (by kernel_rfl) (fun _ _ _ h => h) (by rfl) ?yc13 (by assumption) ?_
          case yc13 => ((intro w hSw); (try dsimp only at hSw); go_simp <;> (with_reducible rfl))
          try simp only [Act.put, List.setIfInBounds_toArray, List.set_cons_zero, List.set_cons_succ]
          refine held_take 14 (some 61) (v := ?vc14) rfl rfl (by kernel_rfl) (by kernel_rfl) (by kernel_rfl) (fun _ _ _ h => h) (by rfl) ?yc14 (by assumption) ?_
          case yc14 => ((intro w hSw); (try dsimp only at hSw); go_simp <;> (with_reducible rfl))
          try simp only [Act.put, List.setIfInBounds_toArray, List.set_cons_zero, List.set_cons_succ]
          refine held_take 15 (some 62) (v := ?vc15) rfl rfl (by kernel_rfl) (by kernel_rfl) (by kernel_rfl) (fun _ _ _ h => h) (by rfl) ?yc15 (by assumption) ?_
          case yc15 => ((intro w hSw); (try dsimp only at hSw); go_simp <;> (with_reducible rfl))
          try simp only [Act.put, List.setIfInBounds_toArray, List.set_cons_zero, List.set_cons_succ]
          refine held_take 16 (some 63) (v := ?vc16) rfl rfl (by kernel_rfl) (by kernel_rfl) (by kernel_rfl) (fun _ _ _ h => h) (by rfl) ?yc16 (by assumption) ?_
          case yc16 => ((intro w hSw); (try dsimp only at hSw); go_simp <;> (with_reducible rfl))
          try simp only [Act.put, List.setIfInBounds_toArray, List.set_cons_zero, List.set_cons_succ]
          refine held_take 17 (some 64) (v := ?vc17) rfl rfl (by kernel_rfl) (by kernel_rfl) (by kernel_rfl) (fun _ _ _ h => h) (by rfl) ?yc17 (by assumption) ?_
          case yc17 => ((intro w hSw); (try dsimp only at hSw); go_simp <;> (with_reducible rfl))
          try simp only [Act.put, List.setIfInBounds_toArray, List.set_cons_zero, List.set_cons_succ]
          refine held_take 18 (some 65) (v := ?vc18) rfl rfl (by kernel_rfl) (by kernel_rfl) (by kernel_rfl) (fun _ _ _ h => h) (by rfl) ?yc18 (by assumption) ?_
          case yc18 => ((intro w hSw); (try dsimp only at hSw); go_simp <;> (with_reducible rfl))
          try simp only [Act.put, List.setIfInBounds_toArray, List.set_cons_zero, List.set_cons_succ]
          refine held_take 19 (some 66) (v := ?vc19) rfl rfl (by kernel_rfl) (by kernel_rfl) (by kernel_rfl) (fun _ _ _ h => h) (by rfl) ?yc19 (by assumption) ?_
          case yc19 => ((intro w hSw); (try dsimp only at hSw); go_simp <;> (with_reducible rfl))
          try simp only [Act.put, List.setIfInBounds_toArray, List.set_cons_zero, List.set_cons_succ]
          refine held_take 20 (some 67) (v := ?vc20) rfl rfl (by kernel_rfl) (by kernel_rfl) (by kernel_rfl) (fun _ _ _ h => h) (by rfl) ?yc20 (by assumption) ?_
          case yc20 => ((intro w hSw); (try dsimp only at hSw); go_simp <;> (with_reducible rfl))
          try simp only [Act.put, List.setIfInBounds_toArray, List.set_cons_zero, List.set_cons_succ]
          refine held_take 21 (some 68) (v := ?vc21) rfl rfl (by kernel_rfl) (by kernel_rfl) (by kernel_rfl) (fun _ _ _ h => h) (by rfl) ?yc21 (by assumption) ?_
          case yc21 => ((intro w hSw); (try dsimp only at hSw); go_simp <;> (with_reducible rfl))
          try simp only [Act.put, List.setIfInBounds_toArray, List.set_cons_zero, List.set_cons_succ]
          refine held_take 22 (some 69) (v := ?vc22) rfl rfl (by kernel_rfl) (by kernel_rfl) (by kernel_rfl) (fun _ _ _ h => h) (by rfl) ?yc22 (by assumption) ?_
          case yc22 => ((intro w hSw); (try dsimp only at hSw); go_simp <;> (with_reducible rfl))
          try simp only [Act.put, List.setIfInBounds_toArray, List.set_cons_zero, List.set_cons_succ]
          refine wpAnyH_ready (rs := [12]) (by kernel_rfl) (by simp) ?_
          refine AllReadyH.cons rfl (fun K hK => ?_) AllReadyH.nil
          go_simp
          refine (made_any pll ll lk lv pm1 m1 _ HOTH.out HM1.out (by have := HSZ2.out; (try simp only [sz]); omega)).mono ?_
          rintro e w4 ⟨⟨p4, rfl, ht4⟩, hb4⟩
          have K4 := cells10_below (by assumption) hb4
          have HT4 := Aside0.mk ht4
          have HM24 := Aside0.mk (HM2.out.below hb4)
          have HO4 := Aside0.mk (HOD.out.below hb4)
          have HB4 := Aside0.mk (HBD.out.trans (hb4.mono HBD.out.size))
          clear ht4 hb4
          refine hK.out _ _ ?hSc13 (fun hHeld => ?_)
          case hSc13 => first | assumption | go_keep
          clear hK K
          try simp only [Act.put, List.setIfInBounds_toArray, List.set_cons_zero, List.set_cons_succ]
          refine wpAnyH_ready (rs := [23]) (by kernel_rfl) (by simp) ?_
          refine AllReadyH.cons rfl (fun K hK => ?_) AllReadyH.nil
          go_simp
          refine (made_any pm2 m2 k v pr r _ HM24.out HO4.out (by have := HSZ2.out; (try simp only [sz]); omega)).mono ?_
          rintro e w5 ⟨⟨p5, rfl, ht5⟩, hb5⟩
          have K5 := cells10_below (by assumption) hb5
          have HT5 := Aside0.mk ht5
          have HT45 := Aside0.mk (HT4.out.below hb5)
          have HB5 := Aside0.mk (HB4.out.trans (hb5.mono HB4.out.size))
          clear ht5 hb5
          refine hK.out _ _ ?hSc24 (fun hHeld => ?_)
          case hSc24 => first | assumption | go_keep
          clear hK K
          try simp only [Act.put, List.setIfInBounds_toArray, List.set_cons_zero, List.set_cons_succ]
          refine wpAnyH_ready (rs := [24]) (by kernel_rfl) (by simp) ?_
          refine AllReadyH.cons rfl (fun K hK => ?_) AllReadyH.nil
          go_simp
          refine (made_any p4 (.node ll lk lv m1) mk mv p5 (.node m2 k v r) _ HT45.out HT5.out (by have := HSZ2.out; (try simp only [sz]); omega)).mono ?_
          rintro e w6 ⟨⟨p6, rfl, ht6⟩, hb6⟩
          have K6 := cells10_below (by assumption) hb6
          have HT6 := Aside0.mk ht6
          have HB6 := Aside0.mk (HB5.out.trans (hb6.mono HB5.out.size))
          clear ht6 hb6
          refine hK.out _ _ ?hSc25 (fun hHeld => ?_)
          case hSc25 => first | assumption | go_keep
          clear hK K
          try simp only [Act.put, List.setIfInBounds_toArray, List.set_cons_zero, List.set_cons_succ]
          refine held_take 25 (some 6) (v := ?vc25) rfl rfl (by kernel_rfl) (by kernel_rfl) (by kernel_rfl) (fun _ _ _ h => h) (by rfl) ?yc25 (by assumption) ?_
          case yc25 => ((intro w hSw); (try dsimp only at hSw); go_simp <;> (with_reducible rfl))
          try simp only [Act.put, List.setIfInBounds_toArray, List.set_cons_zero, List.set_cons_succ]
          refine wpAnyH_done (by kernel_rfl) ?_ _
          go_wp2
          go_ret
          exact ⟨⟨_, rfl, by rw [HEV.out]; exact HT6.out⟩, HB6.out⟩
  · have HC0 := Aside0.mk (show ¬ ht l > ht r + 1 by omega)
    clear hrot1
    go_wp2_with fail
    refine (high_any pr r w2 HR.out).mono ?_
    rintro e w3' ⟨rfl, rfl⟩
    go_wp2_with fail
    refine (high_any pl l w3' HL.out).mono ?_
    rintro e w2 ⟨rfl, rfl⟩
    by_cases hc3 : ((ht l : Nat) : Int) + 1 < ((ht r : Nat) : Int)
    · have HC1 := Aside0.mk (show ht r > ht l + 1 by omega)
      clear hc1
      go_wp2_with fail
      cases r with
      | leaf => simp [ht] at hc3; omega
      | node rl rk rv rr =>
        obtain ⟨gr, prl, prr, rfl, hgr, hrl, hrr⟩ := HR.out
        have HRL := Aside0.mk hrl
        have HRR := Aside0.mk hrr
        have HG := Aside0.mk hgr
        have n0 := (node_cells hgr).2.2.1
        have n1 := (node_cells hgr).2.2.2
        have hcA := fun n => high_any prr rr (w2.drewN n) (HRR.out.drewN n)
        have hcB := fun n => high_any prl rl (w2.drewN n) (HRL.out.drewN n)
        have HSZ := Aside0.mk (show sz l + (sz rl + sz rr + 1) ≤ 50000 by simp only [sz] at hs; omega)
        have HH := Aside0.mk (show ht (.node rl rk rv rr) = 1 + max (ht rl) (ht rr) from rfl)
        clear hrl hrr hgr hr1 hs hc3
        generalize ((ht (.node rl rk rv rr) : Nat) : Int) = hh at *
        go_quiet (first | (go_at_call 54; (first | (with_reducible refine (hcA _).mono ?_) | (with_reducible refine (hcB _).mono ?_)); rintro e w' ⟨rfl, rfl⟩; exact ⟨rfl, _, rfl⟩))
        have HB3 := Aside0.mk (below_drewN HB0.out nq)
        have HX3 := Aside0.mk (show (w2.drewN nq).heap[w.heap.size]? = some (.cells #[.int .u64 k, .int .i64 v] 66 (0, 0)) from HX0.out)
        have HG3 := Aside0.mk (show (w2.drewN nq).heap[gr]? = _ from HG.out)
        have HO3 := Aside0.mk (HL.out.drewN nq)
        have Hrl3 := Aside0.mk (HRL.out.drewN nq)
        have Hrr3 := Aside0.mk (HRR.out.drewN nq)
        clear n0 n1 hcA hcB HB0 HX0 HG HL HRL HRR
        generalize w2.drewN nq = w3 at *
        have hN : w3.cell? ⟨gr, 0, none⟩ = some (.int .u64 rk) ∧ w3.cell? ⟨gr, 1, none⟩ = some (.int .i64 rv) ∧ w3.cell? ⟨gr, 2, none⟩ = some (.pointer prl) ∧ w3.cell? ⟨gr, 3, none⟩ = some (.pointer prr) ∧ w3.cell? ⟨w.heap.size, 0, none⟩ = some (.int .u64 k) ∧ w3.cell? ⟨w.heap.size, 1, none⟩ = some (.int .i64 v) :=
          ⟨(node_cells HG3.out).1, (node_cells HG3.out).2.1, (node_cells HG3.out).2.2.1, (node_cells HG3.out).2.2.2, blk_cell HX3.out 0, blk_cell HX3.out 1⟩
        have HOD := Aside0.mk (HO3.out.below (below_drew (Below.refl _ w3)))
        have HrlD := Aside0.mk (Hrl3.out.below (below_drew (Below.refl _ w3)))
        have HrrD := Aside0.mk (Hrr3.out.below (below_drew (Below.refl _ w3)))
        have HBD := Aside0.mk (HB3.out.trans ((below_drew (Below.refl _ w3)).mono HB3.out.size))
        by_cases hc2 : ht rl ≤ ht rr
        · have HEV := Aside0.mk (show evenT l k v (.node rl rk rv rr) = .node (.node l k v rl) rk rv rr from by unfold evenT; rw [if_neg HC0.out, if_pos HC1.out]; simp [hc2])
          go_wp2_with fail
          refine wp_region_held_drew (S := (fun w' => w'.cell? ⟨gr, 0, none⟩ = some (.int .u64 rk) ∧ w'.cell? ⟨gr, 1, none⟩ = some (.int .i64 rv) ∧ w'.cell? ⟨gr, 2, none⟩ = some (.pointer prl) ∧ w'.cell? ⟨gr, 3, none⟩ = some (.pointer prr) ∧ w'.cell? ⟨w.heap.size, 0, none⟩ = some (.int .u64 k) ∧ w'.cell? ⟨w.heap.size, 1, none⟩ = some (.int .i64 v))) (by kernel_rfl) ?hSb0 (fun hHeld => ?_)
          case hSb0 => first | assumption | go_keep
          refine held_take 0 (some 90) (v := ?vb0) rfl rfl (by kernel_rfl) (by kernel_rfl) (by kernel_rfl) (fun _ _ _ h => h) (by rfl) ?yb0 (by assumption) ?_
          case yb0 => ((intro w hSw); (try dsimp only at hSw); go_simp <;> (with_reducible rfl))
          try simp only [Act.put, List.setIfInBounds_toArray, List.set_cons_zero, List.set_cons_succ]
          refine held_take 1 (some 91) (v := ?vb1) rfl rfl (by kernel_rfl) (by kernel_rfl) (by kernel_rfl) (fun _ _ _ h => h) (by rfl) ?yb1 (by assumption) ?_
          case yb1 => ((intro w hSw); (try dsimp only at hSw); go_simp <;> (with_reducible rfl))
          try simp only [Act.put, List.setIfInBounds_toArray, List.set_cons_zero, List.set_cons_succ]
          refine held_take 2 (some 92) (v := ?vb2) rfl rfl (by kernel_rfl) (by kernel_rfl) (by kernel_rfl) (fun _ _ _ h => h) (by rfl) ?yb2 (by assumption) ?_
          case yb2 => ((intro w hSw); (try dsimp only at hSw); go_simp <;> (with_reducible rfl))
          try simp only [Act.put, List.setIfInBounds_toArray, List.set_cons_zero, List.set_cons_succ]
          refine held_take 3 (some 93) (v := ?vb3) rfl rfl (by kernel_rfl) (by kernel_rfl) (by kernel_rfl) (fun _ _ _ h => h) (by rfl) ?yb3 (by assumption) ?_
          case yb3 => ((intro w hSw); (try dsimp only at hSw); go_simp <;> (with_reducible rfl))
          try simp only [Act.put, List.setIfInBounds_toArray, List.set_cons_zero, List.set_cons_succ]
          refine held_take 4 (some 94) (v := ?vb4) rfl rfl (by kernel_rfl) (by kernel_rfl) (by kernel_rfl) (fun _ _ _ h => h) (by rfl) ?yb4 (by assumption) ?_
          case yb4 => ((intro w hSw); (try dsimp only at hSw); go_simp <;> (with_reducible rfl))
          try simp only [Act.put, List.setIfInBounds_toArray, List.set_cons_zero, List.set_cons_succ]
          refine held_take 5 (some 95) (v := ?vb5) rfl rfl (by kernel_rfl) (by kernel_rfl) (by kernel_rfl) (fun _ _ _ h => h) (by rfl) ?yb5 (by assumption) ?_
          case yb5 => ((intro w hSw); (try dsimp only at hSw); go_simp <;> (with_reducible rfl))
          try simp only [Act.put, List.setIfInBounds_toArray, List.set_cons_zero, List.set_cons_succ]
          refine held_take 7 (some 97) (v := ?vb7) rfl rfl (by kernel_rfl) (by kernel_rfl) (by kernel_rfl) (fun _ _ _ h => h) (by rfl) ?yb7 (by assumption) ?_
          case yb7 => ((intro w hSw); (try dsimp only at hSw); go_simp <;> (with_reducible rfl))
          try simp only [Act.put, List.setIfInBounds_toArray, List.set_cons_zero, List.set_cons_succ]
          refine held_take 8 (some 98) (v := ?vb8) rfl rfl (by kernel_rfl) (by kernel_rfl) (by kernel_rfl) (fun _ _ _ h => h) (by rfl) ?yb8 (by assumption) ?_
          case yb8 => ((intro w hSw); (try dsimp only at hSw); go_simp <;> (with_reducible rfl))
          try simp only [Act.put, List.setIfInBounds_toArray, List.set_cons_zero, List.set_cons_succ]
          refine held_take 9 (some 99) (v := ?vb9) rfl rfl (by kernel_rfl) (by kernel_rfl) (by kernel_rfl) (fun _ _ _ h => h) (by rfl) ?yb9 (by assumption) ?_
          case yb9 => ((intro w hSw); (try dsimp only at hSw); go_simp <;> (with_reducible rfl))
          try simp only [Act.put, List.setIfInBounds_toArray, List.set_cons_zero, List.set_cons_succ]
          refine held_take 10 (some 100) (v := ?vb10) rfl rfl (by kernel_rfl) (by kernel_rfl) (by kernel_rfl) (fun _ _ _ h => h) (by rfl) ?yb10 (by assumption) ?_
          case yb10 => ((intro w hSw); (try dsimp only at hSw); go_simp <;> (with_reducible rfl))
          try simp only [Act.put, List.setIfInBounds_toArray, List.set_cons_zero, List.set_cons_succ]
          refine held_take 11 (some 101) (v := ?vb11) rfl rfl (by kernel_rfl) (by kernel_rfl) (by kernel_rfl) (fun _ _ _ h => h) (by rfl) ?yb11 (by assumption) ?_
          case yb11 => ((intro w hSw); (try dsimp only at hSw); go_simp <;> (with_reducible rfl))
          try simp only [Act.put, List.setIfInBounds_toArray, List.set_cons_zero, List.set_cons_succ]
          refine held_take 12 (some 102) (v := ?vb12) rfl rfl (by kernel_rfl) (by kernel_rfl) (by kernel_rfl) (fun _ _ _ h => h) (by rfl) ?yb12 (by assumption) ?_
          case yb12 => ((intro w hSw); (try dsimp only at hSw); go_simp <;> (with_reducible rfl))
          try simp only [Act.put, List.setIfInBounds_toArray, List.set_cons_zero, List.set_cons_succ]
          refine held_take 13 (some 103) (v := ?vb13) rfl rfl (by kernel_rfl) (by kernel_rfl) (by kernel_rfl) (fun _ _ _ h => h) (by rfl) ?yb13 (by assumption) ?_
          case yb13 => ((intro w hSw); (try dsimp only at hSw); go_simp <;> (with_reducible rfl))
          try simp only [Act.put, List.setIfInBounds_toArray, List.set_cons_zero, List.set_cons_succ]
          refine held_take 14 (some 104) (v := ?vb14) rfl rfl (by kernel_rfl) (by kernel_rfl) (by kernel_rfl) (fun _ _ _ h => h) (by rfl) ?yb14 (by assumption) ?_
          case yb14 => ((intro w hSw); (try dsimp only at hSw); go_simp <;> (with_reducible rfl))
          try simp only [Act.put, List.setIfInBounds_toArray, List.set_cons_zero, List.set_cons_succ]
          refine wpAnyH_ready (rs := [6]) (by kernel_rfl) (by simp) ?_
          refine AllReadyH.cons rfl (fun K hK => ?_) AllReadyH.nil
          go_simp
          refine (made_any pl l k v prl rl _ HOD.out HrlD.out (by have := HSZ.out; omega)).mono ?_
          rintro e w4 ⟨⟨p4, rfl, ht4⟩, hb4⟩
          have K4 := cells6_below (by assumption) hb4
          have HT4 := Aside0.mk ht4
          have HA4 := Aside0.mk (HrrD.out.below hb4)
          have HB4 := Aside0.mk (HBD.out.trans (hb4.mono HBD.out.size))
          clear ht4 hb4
          refine hK.out _ _ ?hSb7 (fun hHeld => ?_)
          case hSb7 => first | assumption | go_keep
          clear hK K
          try simp only [Act.put, List.setIfInBounds_toArray, List.set_cons_zero, List.set_cons_succ]
          refine wpAnyH_ready (rs := [15]) (by kernel_rfl) (by simp) ?_
          refine AllReadyH.cons rfl (fun K hK => ?_) AllReadyH.nil
          go_simp
          refine (made_any p4 (.node l k v rl) rk rv prr rr _ HT4.out HA4.out (by have := HSZ.out; simp only [sz]; omega)).mono ?_
          rintro e w5 ⟨⟨p5, rfl, ht5⟩, hb5⟩
          have K5 := cells6_below (by assumption) hb5
          have HT5 := Aside0.mk ht5
          have HB5 := Aside0.mk (HB4.out.trans (hb5.mono HB4.out.size))
          clear ht5 hb5
          refine hK.out _ _ ?hSb16 (fun hHeld => ?_)
          case hSb16 => first | assumption | go_keep
          clear hK K
          try simp only [Act.put, List.setIfInBounds_toArray, List.set_cons_zero, List.set_cons_succ]
          refine held_take 16 (some 6) (v := ?vb16) rfl rfl (by kernel_rfl) (by kernel_rfl) (by kernel_rfl) (fun _ _ _ h => h) (by rfl) ?yb16 (by assumption) ?_
          case yb16 => ((intro w hSw); (try dsimp only at hSw); go_simp <;> (with_reducible rfl))
          try simp only [Act.put, List.setIfInBounds_toArray, List.set_cons_zero, List.set_cons_succ]
          refine wpAnyH_done (by kernel_rfl) ?_ _
          go_wp2
          go_ret
          exact ⟨⟨_, rfl, by rw [HEV.out]; exact HT5.out⟩, HB5.out⟩
        · cases rl with
          | leaf => simp [ht] at hc2
          | node m1 mk mv m2 =>
            obtain ⟨gm, pm1, pm2, rfl, hgm, hm1, hm2⟩ := HrlD.out
            have HM1 := Aside0.mk hm1
            have HM2 := Aside0.mk hm2
            have HOTH := Aside0.mk HrrD.out
            have HSZ2 := Aside0.mk (show sz l + ((1 + sz m1 + sz m2) + sz rr + 1) ≤ 50000 from by have := HSZ.out; simp only [sz] at this; omega)
            have HEV := Aside0.mk (show evenT l k v (.node (.node m1 mk mv m2) rk rv rr) = .node (.node l k v m1) mk mv (.node m2 rk rv rr) from by unfold evenT; rw [if_neg HC0.out, if_pos HC1.out]; dsimp only; rw [if_neg (by omega)])
            have m0 : w3.cell? ⟨gm, 0, none⟩ = some (.int .u64 mk) ∧ w3.cell? ⟨gm, 1, none⟩ = some (.int .i64 mv) ∧ w3.cell? ⟨gm, 2, none⟩ = some (.pointer pm1) ∧ w3.cell? ⟨gm, 3, none⟩ = some (.pointer pm2) := node_cells (show w3.heap[gm]? = _ from hgm)
            obtain ⟨q0, q1, q2, q3, q4, q5⟩ := hN
            obtain ⟨m0, m1', m2', m3'⟩ := m0
            have hN := And.intro q0 (And.intro q1 (And.intro q2 (And.intro q3 (And.intro m0 (And.intro m1' (And.intro m2' (And.intro m3' (And.intro q4 q5))))))))
            clear hm1 hm2 hgm m0 m1' m2' m3' q0 q1 q4 q5
            go_wp2_with fail
            refine wp_region_held_drew (S := (fun w' => w'.cell? ⟨gr, 0, none⟩ = some (.int .u64 rk) ∧ w'.cell? ⟨gr, 1, none⟩ = some (.int .i64 rv) ∧ w'.cell? ⟨gr, 2, none⟩ = some (.pointer (some ⟨gm, 0, none⟩)) ∧ w'.cell? ⟨gr, 3, none⟩ = some (.pointer prr) ∧ w'.cell? ⟨gm, 0, none⟩ = some (.int .u64 mk) ∧ w'.cell? ⟨gm, 1, none⟩ = some (.int .i64 mv) ∧ w'.cell? ⟨gm, 2, none⟩ = some (.pointer pm1) ∧ w'.cell? ⟨gm, 3, none⟩ = some (.pointer pm2) ∧ w'.cell? ⟨w.heap.size, 0, none⟩ = some (.int .u64 k) ∧ w'.cell? ⟨w.heap.size, 1, none⟩ = some (.int .i64 v))) (by kernel_rfl) ?hSd0 (fun hHeld => ?_)
            case hSd0 => first | assumption | go_keep
            refine held_take 0 (some 110) (v := ?vd0) rfl rfl (by kernel_rfl) (by kernel_rfl) (by kernel_rfl) (fun _ _ _ h => h) (by rfl) ?yd0 (by assumption) ?_
            case yd0 => ((intro w hSw); (try dsimp only at hSw); go_simp <;> (with_reducible rfl))
            try simp only [Act.put, List.setIfInBounds_toArray, List.set_cons_zero, List.set_cons_succ]
            refine held_take 1 (some 111) (v := ?vd1) rfl rfl (by kernel_rfl) (by kernel_rfl) (by kernel_rfl) (fun _ _ _ h => h) (by rfl) ?yd1 (by assumption) ?_
            case yd1 => ((intro w hSw); (try dsimp only at hSw); go_simp <;> (with_reducible rfl))
            try simp only [Act.put, List.setIfInBounds_toArray, List.set_cons_zero, List.set_cons_succ]
            refine held_take 2 (some 112) (v := ?vd2) rfl rfl (by kernel_rfl) (by kernel_rfl) (by kernel_rfl) (fun _ _ _ h => h) (by rfl) ?yd2 (by assumption) ?_
            case yd2 => ((intro w hSw); (try dsimp only at hSw); go_simp <;> (with_reducible rfl))
            try simp only [Act.put, List.setIfInBounds_toArray, List.set_cons_zero, List.set_cons_succ]
            refine held_take 3 (some 113) (v := ?vd3) rfl rfl (by kernel_rfl) (by kernel_rfl) (by kernel_rfl) (fun _ _ _ h => h) (by rfl) ?yd3 (by assumption) ?_
            case yd3 => ((intro w hSw); (try dsimp only at hSw); go_simp <;> (with_reducible rfl))
            try simp only [Act.put, List.setIfInBounds_toArray, List.set_cons_zero, List.set_cons_succ]
            refine held_take 4 (some 114) (v := ?vd4) rfl rfl (by kernel_rfl) (by kernel_rfl) (by kernel_rfl) (fun _ _ _ h => h) (by rfl) ?yd4 (by assumption) ?_
            case yd4 => ((intro w hSw); (try dsimp only at hSw); go_simp <;> (with_reducible rfl))
            try simp only [Act.put, List.setIfInBounds_toArray, List.set_cons_zero, List.set_cons_succ]
            refine held_take 5 (some 115) (v := ?vd5) rfl rfl (by kernel_rfl) (by kernel_rfl) (by kernel_rfl) (fun _ _ _ h => h) (by rfl) ?yd5 (by assumption) ?_
            case yd5 => ((intro w hSw); (try dsimp only at hSw); go_simp <;> (with_reducible rfl))
            try simp only [Act.put, List.setIfInBounds_toArray, List.set_cons_zero, List.set_cons_succ]
            refine held_take 7 (some 117) (v := ?vd7) rfl rfl (by kernel_rfl) (by kernel_rfl) (by kernel_rfl) (fun _ _ _ h => h) (by rfl) ?yd7 (by assumption) ?_
            case yd7 => ((intro w hSw); (try dsimp only at hSw); go_simp <;> (with_reducible rfl))
            try simp only [Act.put, List.setIfInBounds_toArray, List.set_cons_zero, List.set_cons_succ]
            refine held_take 8 (some 118) (v := ?vd8) rfl rfl (by kernel_rfl) (by kernel_rfl) (by kernel_rfl) (fun _ _ _ h => h) (by rfl) ?yd8 (by assumption) ?_
            case yd8 => ((intro w hSw); (try dsimp only at hSw); go_simp <;> (with_reducible rfl))
            try simp only [Act.put, List.setIfInBounds_toArray, List.set_cons_zero, List.set_cons_succ]
            refine held_take 9 (some 119) (v := ?vd9) rfl rfl (by kernel_rfl) (by kernel_rfl) (by kernel_rfl) (fun _ _ _ h => h) (by rfl) ?yd9 (by assumption) ?_
            case yd9 => ((intro w hSw); (try dsimp only at hSw); go_simp <;> (with_reducible rfl))
            try simp only [Act.put, List.setIfInBounds_toArray, List.set_cons_zero, List.set_cons_succ]
            refine held_take 10 (some 120) (v := ?vd10) rfl rfl (by kernel_rfl) (by kernel_rfl) (by kernel_rfl) (fun _ _ _ h => h) (by rfl) ?yd10 (by assumption) ?_
            case yd10 => ((intro w hSw); (try dsimp only at hSw); go_simp <;> (with_reducible rfl))
            try simp only [Act.put, List.setIfInBounds_toArray, List.set_cons_zero, List.set_cons_succ]
            refine held_take 11 (some 121) (v := ?vd11) rfl rfl (by kernel_rfl) (by kernel_rfl) (by kernel_rfl) (fun _ _ _ h => h) (by rfl) ?yd11 (by assumption) ?_
            case yd11 => ((intro w hSw); (try dsimp only at hSw); go_simp <;> (with_reducible rfl))
            try simp only [Act.put, List.setIfInBounds_toArray, List.set_cons_zero, List.set_cons_succ]
            refine held_take 12 (some 122) (v := ?vd12) rfl rfl (by kernel_rfl) (by kernel_rfl) (by kernel_rfl) (fun _ _ _ h => h) (by rfl) ?yd12 (by assumption) ?_
            case yd12 => ((intro w hSw); (try dsimp only at hSw); go_simp <;> (with_reducible rfl))
            try simp only [Act.put, List.setIfInBounds_toArray, List.set_cons_zero, List.set_cons_succ]
            refine held_take 13 (some 123) (v := ?vd13) rfl rfl (by kernel_rfl) (by kernel_rfl) (by kernel_rfl) (fun _ _ _ h => h) (by rfl) ?yd13 (by assumption) ?_
            case yd13 => ((intro w hSw); (try dsimp only at hSw); go_simp <;> (with_reducible rfl))
            try simp only [Act.put, List.setIfInBounds_toArray, List.set_cons_zero, List.set_cons_succ]
            refine held_take 14 (some 124) (v := ?vd14) rfl rfl (by kernel_rfl) (by kernel_rfl) (by kernel_rfl) (fun _ _ _ h => h) (by rfl) ?yd14 (by assumption) ?_
            case yd14 => ((intro w hSw); (try dsimp only at hSw); go_simp <;> (with_reducible rfl))
            try simp only [Act.put, List.setIfInBounds_toArray, List.set_cons_zero, List.set_cons_succ]
            refine held_take 15 (some 125) (v := ?vd15) rfl rfl (by kernel_rfl) (by kernel_rfl) (by kernel_rfl) (fun _ _ _ h => h) (by rfl) ?yd15 (by assumption) ?_
            case yd15 => ((intro w hSw); (try dsimp only at hSw); go_simp <;> (with_reducible rfl))
            try simp only [Act.put, List.setIfInBounds_toArray, List.set_cons_zero, List.set_cons_succ]
            refine held_take 16 (some 126) (v := ?vd16) rfl rfl (by kernel_rfl) (by kernel_rfl) (by kernel_rfl) (fun _ _ _ h => h) (by rfl) ?yd16 (by assumption) ?_
            case yd16 => ((intro w hSw); (try dsimp only at hSw); go_simp <;> (with_reducible rfl))
            try simp only [Act.put, List.setIfInBounds_toArray, List.set_cons_zero, List.set_cons_succ]
            refine held_take 17 (some 127) (v := ?vd17) rfl rfl (by kernel_rfl) (by kernel_rfl) (by kernel_rfl) (fun _ _ _ h => h) (by rfl) ?yd17 (by assumption) ?_
            case yd17 => ((intro w hSw); (try dsimp only at hSw); go_simp <;> (with_reducible rfl))
            try simp only [Act.put, List.setIfInBounds_toArray, List.set_cons_zero, List.set_cons_succ]
            refine held_take 18 (some 128) (v := ?vd18) rfl rfl (by kernel_rfl) (by kernel_rfl) (by kernel_rfl) (fun _ _ _ h => h) (by rfl) ?yd18 (by assumption) ?_
            case yd18 => ((intro w hSw); (try dsimp only at hSw); go_simp <;> (with_reducible rfl))
            try simp only [Act.put, List.setIfInBounds_toArray, List.set_cons_zero, List.set_cons_succ]
            refine held_take 19 (some 129) (v := ?vd19) rfl rfl (by kernel_rfl) (by kernel_rfl) (by kernel_rfl) (fun _ _ _ h => h) (by rfl) ?yd19 (by assumption) ?_
            case yd19 => ((intro w hSw); (try dsimp only at hSw); go_simp <;> (with_reducible rfl))
            try simp only [Act.put, List.setIfInBounds_toArray, List.set_cons_zero, List.set_cons_succ]
            refine held_take 20 (some 130) (v := ?vd20) rfl rfl (by kernel_rfl) (by kernel_rfl) (by kernel_rfl) (fun _ _ _ h => h) (by rfl) ?yd20 (by assumption) ?_
            case yd20 => ((intro w hSw); (try dsimp only at hSw); go_simp <;> (with_reducible rfl))
            try simp only [Act.put, List.setIfInBounds_toArray, List.set_cons_zero, List.set_cons_succ]
            refine held_take 21 (some 131) (v := ?vd21) rfl rfl (by kernel_rfl) (by kernel_rfl) (by kernel_rfl) (fun _ _ _ h => h) (by rfl) ?yd21 (by assumption) ?_
            case yd21 => ((intro w hSw); (try dsimp only at hSw); go_simp <;> (with_reducible rfl))
            try simp only [Act.put, List.setIfInBounds_toArray, List.set_cons_zero, List.set_cons_succ]
            refine held_take 22 (some 132) (v := ?vd22) rfl rfl (by kernel_rfl) (by kernel_rfl) (by kernel_rfl) (fun _ _ _ h => h) (by rfl) ?yd22 (by assumption) ?_
            case yd22 => ((intro w hSw); (try dsimp only at hSw); go_simp <;> (with_reducible rfl))
            try simp only [Act.put, List.setIfInBounds_toArray, List.set_cons_zero, List.set_cons_succ]
            refine wpAnyH_ready (rs := [6]) (by kernel_rfl) (by simp) ?_
            refine AllReadyH.cons rfl (fun K hK => ?_) AllReadyH.nil
            go_simp
            refine (made_any pl l k v pm1 m1 _ HOD.out HM1.out (by have := HSZ2.out; (try simp only [sz]); omega)).mono ?_
            rintro e w4 ⟨⟨p4, rfl, ht4⟩, hb4⟩
            have K4 := cells10_below (by assumption) hb4
            have HT4 := Aside0.mk ht4
            have HM24 := Aside0.mk (HM2.out.below hb4)
            have HO4 := Aside0.mk (HOTH.out.below hb4)
            have HB4 := Aside0.mk (HBD.out.trans (hb4.mono HBD.out.size))
            clear ht4 hb4
            refine hK.out _ _ ?hSd7 (fun hHeld => ?_)
            case hSd7 => first | assumption | go_keep
            clear hK K
            try simp only [Act.put, List.setIfInBounds_toArray, List.set_cons_zero, List.set_cons_succ]
            refine wpAnyH_ready (rs := [23]) (by kernel_rfl) (by simp) ?_
            refine AllReadyH.cons rfl (fun K hK => ?_) AllReadyH.nil
            go_simp
            refine (made_any pm2 m2 rk rv prr rr _ HM24.out HO4.out (by have := HSZ2.out; (try simp only [sz]); omega)).mono ?_
            rintro e w5 ⟨⟨p5, rfl, ht5⟩, hb5⟩
            have K5 := cells10_below (by assumption) hb5
            have HT5 := Aside0.mk ht5
            have HT45 := Aside0.mk (HT4.out.below hb5)
            have HB5 := Aside0.mk (HB4.out.trans (hb5.mono HB4.out.size))
            clear ht5 hb5
            refine hK.out _ _ ?hSd24 (fun hHeld => ?_)
            case hSd24 => first | assumption | go_keep
            clear hK K
            try simp only [Act.put, List.setIfInBounds_toArray, List.set_cons_zero, List.set_cons_succ]
            refine wpAnyH_ready (rs := [24]) (by kernel_rfl) (by simp) ?_
            refine AllReadyH.cons rfl (fun K hK => ?_) AllReadyH.nil
            go_simp
            refine (made_any p4 (.node l k v m1) mk mv p5 (.node m2 rk rv rr) _ HT45.out HT5.out (by have := HSZ2.out; (try simp only [sz]); omega)).mono ?_
            rintro e w6 ⟨⟨p6, rfl, ht6⟩, hb6⟩
            have K6 := cells10_below (by assumption) hb6
            have HT6 := Aside0.mk ht6
            have HB6 := Aside0.mk (HB5.out.trans (hb6.mono HB5.out.size))
            clear ht6 hb6
            refine hK.out _ _ ?hSd25 (fun hHeld => ?_)
            case hSd25 => first | assumption | go_keep
            clear hK K
            try simp only [Act.put, List.setIfInBounds_toArray, List.set_cons_zero, List.set_cons_succ]
            refine held_take 25 (some 6) (v := ?vd25) rfl rfl (by kernel_rfl) (by kernel_rfl) (by kernel_rfl) (fun _ _ _ h => h) (by rfl) ?yd25 (by assumption) ?_
            case yd25 => ((intro w hSw); (try dsimp only at hSw); go_simp <;> (with_reducible rfl))
            try simp only [Act.put, List.setIfInBounds_toArray, List.set_cons_zero, List.set_cons_succ]
            refine wpAnyH_done (by kernel_rfl) ?_ _
            go_wp2
            go_ret
            exact ⟨⟨_, rfl, by rw [HEV.out]; exact HT6.out⟩, HB6.out⟩
    · have HEV := Aside0.mk (show evenT l k v r = .node l k v r from by unfold evenT; rw [if_neg HC0.out, if_neg (by omega)])
      have c0 := blk_cell HX0.out 0
      have c1 := blk_cell HX0.out 1
      have hm := made_any pl l k v pr r w2 HL.out HR.out (by omega)
      go_wp2_with fail
      refine hm.mono ?_
      rintro e w3 ⟨⟨p3, rfl, ht3⟩, hb3⟩
      have HT3 := Aside0.mk ht3
      have HB3 := Aside0.mk (HB0.out.trans (hb3.mono HB0.out.size))
      clear hm ht3 hb3 c0 c1
      go_wp2_with fail
      go_ret
      exact ⟨⟨_, rfl, by rw [HEV.out]; exact HT3.out⟩, HB3.out⟩
end Go.Proofs.Ytjfbiabgeickjaa.H
/-! ### Tree3 -/
namespace Go.Proofs.Ytjfbiabgeickjaa.H
open Go.RowKit Go.Proofs.Ytjfbiabgeickjaa.P Go.Proofs.YtjfbiabgeickjaaW.PrintWords Go.Proofs.YtjfbiabgeickjaaW.PrintLast Go.Proofs.YtjfbiabgeickjaaW.PrintMore
set_option linter.unusedVariables false
set_option linter.unusedSimpArgs false
theorem sz_even (l : T) (k v : Int) (r : T) : sz (evenT l k v r) = 1 + sz l + sz r := by
  unfold evenT
  split
  · split
    · rfl
    · split
      · simp only [sz]; omega
      · split
        · rfl
        · simp only [sz]; omega
  · split
    · split
      · rfl
      · split
        · simp only [sz]; omega
        · split
          · rfl
          · simp only [sz]; omega
    · rfl
def withT (k v : Int) : T → T
  | .leaf => .node .leaf k v .leaf
  | .node l k' v' r => if k < k' then evenT (withT k v l) k' v' r else if k > k' then evenT l k' v' (withT k v r) else .node l k v r
theorem sz_with (k v : Int) : ∀ t : T, sz (withT k v t) ≤ sz t + 1
  | .leaf => by simp [withT, sz]
  | .node l k' v' r => by
    have h1 := sz_with k v l
    have h2 := sz_with k v r
    unfold withT
    split
    · rw [sz_even]; simp only [sz]; omega
    · split
      · rw [sz_even]; simp only [sz]; omega
      · simp only [sz]; omega
set_option maxRecDepth 20000 in
set_option maxHeartbeats 4000000 in
theorem with_any (k v : Int) (t : T) : ∀ (p : Option Addr) (w : World), TreeAt w p t → sz t ≤ 40000 →
    Calls Try.prog 42 #[.pointer p, .agg #[.int .u64 k, .int .i64 v]] w fun e w' => (∃ q, e = .returned (.pointer q) ∧ TreeAt w' q (withT k v t)) ∧ Below w.heap.size w w' := by
  induction t with
  | leaf =>
    intro p w h hs
    obtain rfl : p = none := h
    have HB0 := Aside0.mk ((Below.refl w.heap.size w).alloc (Nat.le_refl _) (.cells #[.int .u64 k, .int .i64 v] 66))
    have HX0 := blk_new w (.cells #[.int .u64 k, .int .i64 v] 66)
    go_enter Try.func42, Try.ntmps42
    go_wp2_with fail
    generalize (w.alloc (.cells #[.int .u64 k, .int .i64 v] 66)) = w0 at *
    have hm := made_any none .leaf k v none .leaf w0 rfl rfl (by decide)
    refine hm.mono ?_
    rintro e w3 ⟨⟨p3, rfl, ht3⟩, hb3⟩
    have HT3 := Aside0.mk ht3
    have HB3 := Aside0.mk (HB0.out.trans (hb3.mono HB0.out.size))
    clear hm ht3 hb3 HX0
    go_wp2_with fail
    go_ret
    exact ⟨⟨_, rfl, HT3.out⟩, HB3.out⟩
  | node l k1 v1 r ihl ihr =>
    intro p w h hs
    obtain ⟨g, pl, pr, rfl, hg, hl, hr⟩ := h
    have HB0 := Aside0.mk ((Below.refl w.heap.size w).alloc (Nat.le_refl _) (.cells #[.int .u64 k, .int .i64 v] 66))
    have HX0 := Aside0.mk (blk_new w (.cells #[.int .u64 k, .int .i64 v] 66))
    have HG0 := Aside0.mk (blk_below hg HB0.out)
    have HL0 := Aside0.mk (hl.below HB0.out)
    have HR0 := Aside0.mk (hr.below HB0.out)
    have HSZ := Aside0.mk (show sz l + sz r + 1 ≤ 40000 by simp only [sz] at hs; omega)
    have IHL := Aside0.mk ihl
    have IHR := Aside0.mk ihr
    have HZL := Aside0.mk (sz_with k v l)
    have HZR := Aside0.mk (sz_with k v r)
    clear hg hl hr hs ihl ihr
    go_enter Try.func42, Try.ntmps42
    go_wp2_with fail
    generalize (w.alloc (.cells #[.int .u64 k, .int .i64 v] 66)) = w0 at *
    have c0 := blk_cell HX0.out 0
    have d0 := (node_cells HG0.out).1
    go_quiet (fail)
    have HB1 := Aside0.mk (below_drewN HB0.out nq)
    have HX1 := Aside0.mk (show (w0.drewN nq).heap[w.heap.size]? = _ from HX0.out)
    have HG1 := Aside0.mk (show (w0.drewN nq).heap[g]? = _ from HG0.out)
    have HL1 := Aside0.mk (HL0.out.drewN nq)
    have HR1 := Aside0.mk (HR0.out.drewN nq)
    clear c0 d0 HB0 HX0 HG0 HL0 HR0
    generalize w0.drewN nq = w1 at *
    by_cases c1 : k < k1
    · have HEV := Aside0.mk (show withT k v (.node l k1 v1 r) = evenT (withT k v l) k1 v1 r from by rw [withT, if_pos c1])
      go_wp2_with fail
      have hN : w1.cell? ⟨g, 0, none⟩ = some (.int .u64 k1) ∧ w1.cell? ⟨g, 1, none⟩ = some (.int .i64 v1) ∧ w1.cell? ⟨g, 2, none⟩ = some (.pointer pl) ∧ w1.cell? ⟨g, 3, none⟩ = some (.pointer pr) ∧ w1.cell? ⟨w.heap.size, 0, none⟩ = some (.int .u64 k) ∧ w1.cell? ⟨w.heap.size, 1, none⟩ = some (.int .i64 v) :=
        ⟨(node_cells HG1.out).1, (node_cells HG1.out).2.1, (node_cells HG1.out).2.2.1, (node_cells HG1.out).2.2.2, blk_cell HX1.out 0, blk_cell HX1.out 1⟩
      have HLD := Aside0.mk (HL1.out.below (below_drew (Below.refl _ w1)))
      have HRD := Aside0.mk (HR1.out.below (below_drew (Below.refl _ w1)))
      have HBD := Aside0.mk (HB1.out.trans ((below_drew (Below.refl _ w1)).mono HB1.out.size))
      clear HB1 HX1 HG1 HL1 HR1
      refine wp_region_held_drew (S := (fun w' => w'.cell? ⟨g, 0, none⟩ = some (.int .u64 k1) ∧ w'.cell? ⟨g, 1, none⟩ = some (.int .i64 v1) ∧ w'.cell? ⟨g, 2, none⟩ = some (.pointer pl) ∧ w'.cell? ⟨g, 3, none⟩ = some (.pointer pr) ∧ w'.cell? ⟨w.heap.size, 0, none⟩ = some (.int .u64 k) ∧ w'.cell? ⟨w.heap.size, 1, none⟩ = some (.int .i64 v))) (by kernel_rfl) ?hSa0 (fun hHeld => ?_)
      case hSa0 => first | assumption | go_keep
      refine held_take 0 (some 19) (v := ?va0) rfl rfl (by kernel_rfl) (by kernel_rfl) (by kernel_rfl) (fun _ _ _ h => h) (by rfl) ?ya0 (by assumption) ?_
      case ya0 => ((intro w hSw); (try dsimp only at hSw); go_simp <;> (with_reducible rfl))
      try simp only [Act.put, List.setIfInBounds_toArray, List.set_cons_zero, List.set_cons_succ]
      refine held_take 1 (some 20) (v := ?va1) rfl rfl (by kernel_rfl) (by kernel_rfl) (by kernel_rfl) (fun _ _ _ h => h) (by rfl) ?ya1 (by assumption) ?_
      case ya1 => ((intro w hSw); (try dsimp only at hSw); go_simp <;> (with_reducible rfl))
      try simp only [Act.put, List.setIfInBounds_toArray, List.set_cons_zero, List.set_cons_succ]
      refine held_take 2 (some 21) (v := ?va2) rfl rfl (by kernel_rfl) (by kernel_rfl) (by kernel_rfl) (fun _ _ _ h => h) (by rfl) ?ya2 (by assumption) ?_
      case ya2 => ((intro w hSw); (try dsimp only at hSw); go_simp <;> (with_reducible rfl))
      try simp only [Act.put, List.setIfInBounds_toArray, List.set_cons_zero, List.set_cons_succ]
      refine held_take 3 (some 22) (v := ?va3) rfl rfl (by kernel_rfl) (by kernel_rfl) (by kernel_rfl) (fun _ _ _ h => h) (by rfl) ?ya3 (by assumption) ?_
      case ya3 => ((intro w hSw); (try dsimp only at hSw); go_simp <;> (with_reducible rfl))
      try simp only [Act.put, List.setIfInBounds_toArray, List.set_cons_zero, List.set_cons_succ]
      refine held_take 4 (some 23) (v := ?va4) rfl rfl (by kernel_rfl) (by kernel_rfl) (by kernel_rfl) (fun _ _ _ h => h) (by rfl) ?ya4 (by assumption) ?_
      case ya4 => ((intro w hSw); (try dsimp only at hSw); go_simp <;> (with_reducible rfl))
      try simp only [Act.put, List.setIfInBounds_toArray, List.set_cons_zero, List.set_cons_succ]
      refine held_take 6 (some 25) (v := ?va6) rfl rfl (by kernel_rfl) (by kernel_rfl) (by kernel_rfl) (fun _ _ _ h => h) (by rfl) ?ya6 (by assumption) ?_
      case ya6 => ((intro w hSw); (try dsimp only at hSw); go_simp <;> (with_reducible rfl))
      try simp only [Act.put, List.setIfInBounds_toArray, List.set_cons_zero, List.set_cons_succ]
      refine held_take 7 (some 26) (v := ?va7) rfl rfl (by kernel_rfl) (by kernel_rfl) (by kernel_rfl) (fun _ _ _ h => h) (by rfl) ?ya7 (by assumption) ?_
      case ya7 => ((intro w hSw); (try dsimp only at hSw); go_simp <;> (with_reducible rfl))
      try simp only [Act.put, List.setIfInBounds_toArray, List.set_cons_zero, List.set_cons_succ]
      refine held_take 8 (some 27) (v := ?va8) rfl rfl (by kernel_rfl) (by kernel_rfl) (by kernel_rfl) (fun _ _ _ h => h) (by rfl) ?ya8 (by assumption) ?_
      case ya8 => ((intro w hSw); (try dsimp only at hSw); go_simp <;> (with_reducible rfl))
      try simp only [Act.put, List.setIfInBounds_toArray, List.set_cons_zero, List.set_cons_succ]
      refine held_take 9 (some 28) (v := ?va9) rfl rfl (by kernel_rfl) (by kernel_rfl) (by kernel_rfl) (fun _ _ _ h => h) (by rfl) ?ya9 (by assumption) ?_
      case ya9 => ((intro w hSw); (try dsimp only at hSw); go_simp <;> (with_reducible rfl))
      try simp only [Act.put, List.setIfInBounds_toArray, List.set_cons_zero, List.set_cons_succ]
      refine held_take 10 (some 29) (v := ?va10) rfl rfl (by kernel_rfl) (by kernel_rfl) (by kernel_rfl) (fun _ _ _ h => h) (by rfl) ?ya10 (by assumption) ?_
      case ya10 => ((intro w hSw); (try dsimp only at hSw); go_simp <;> (with_reducible rfl))
      try simp only [Act.put, List.setIfInBounds_toArray, List.set_cons_zero, List.set_cons_succ]
      refine held_take 11 (some 30) (v := ?va11) rfl rfl (by kernel_rfl) (by kernel_rfl) (by kernel_rfl) (fun _ _ _ h => h) (by rfl) ?ya11 (by assumption) ?_
      case ya11 => ((intro w hSw); (try dsimp only at hSw); go_simp <;> (with_reducible rfl))
      try simp only [Act.put, List.setIfInBounds_toArray, List.set_cons_zero, List.set_cons_succ]
      refine held_take 12 (some 31) (v := ?va12) rfl rfl (by kernel_rfl) (by kernel_rfl) (by kernel_rfl) (fun _ _ _ h => h) (by rfl) ?ya12 (by assumption) ?_
      case ya12 => ((intro w hSw); (try dsimp only at hSw); go_simp <;> (with_reducible rfl))
      try simp only [Act.put, List.setIfInBounds_toArray, List.set_cons_zero, List.set_cons_succ]
      refine held_take 13 (some 32) (v := ?va13) rfl rfl (by kernel_rfl) (by kernel_rfl) (by kernel_rfl) (fun _ _ _ h => h) (by rfl) ?ya13 (by assumption) ?_
      case ya13 => ((intro w hSw); (try dsimp only at hSw); go_simp <;> (with_reducible rfl))
      try simp only [Act.put, List.setIfInBounds_toArray, List.set_cons_zero, List.set_cons_succ]
      refine wpAnyH_ready (rs := [5]) (by kernel_rfl) (by simp) ?_
      refine AllReadyH.cons rfl (fun K hK => ?_) AllReadyH.nil
      go_simp
      refine (IHL.out pl _ HLD.out (by have := HSZ.out; omega)).mono ?_
      rintro e w4 ⟨⟨p4, rfl, ht4⟩, hb4⟩
      have K4 := cells6_below (by assumption) hb4
      have HT4 := Aside0.mk ht4
      have HR4 := Aside0.mk (HRD.out.below hb4)
      have HB4 := Aside0.mk (HBD.out.trans (hb4.mono HBD.out.size))
      clear ht4 hb4
      refine hK.out _ _ ?hSa6 (fun hHeld => ?_)
      case hSa6 => first | assumption | go_keep
      clear hK K
      try simp only [Act.put, List.setIfInBounds_toArray, List.set_cons_zero, List.set_cons_succ]
      refine wpAnyH_ready (rs := [14]) (by kernel_rfl) (by simp) ?_
      refine AllReadyH.cons rfl (fun K hK => ?_) AllReadyH.nil
      go_simp
      refine (even_any p4 (withT k v l) k1 v1 pr r _ HT4.out HR4.out (by have := HSZ.out; have := HZL.out; omega)).mono ?_
      rintro e w5 ⟨⟨p5, rfl, ht5⟩, hb5⟩
      have K5 := cells6_below (by assumption) hb5
      have HT5 := Aside0.mk ht5
      have HB5 := Aside0.mk (HB4.out.trans (hb5.mono HB4.out.size))
      clear ht5 hb5
      refine hK.out _ _ ?hSa15 (fun hHeld => ?_)
      case hSa15 => first | assumption | go_keep
      clear hK K
      try simp only [Act.put, List.setIfInBounds_toArray, List.set_cons_zero, List.set_cons_succ]
      refine held_take 15 (some 4) (v := ?va15) rfl rfl (by kernel_rfl) (by kernel_rfl) (by kernel_rfl) (fun _ _ _ h => h) (by rfl) ?ya15 (by assumption) ?_
      case ya15 => ((intro w hSw); (try dsimp only at hSw); go_simp <;> (with_reducible rfl))
      try simp only [Act.put, List.setIfInBounds_toArray, List.set_cons_zero, List.set_cons_succ]
      refine wpAnyH_done (by kernel_rfl) ?_ _
      go_wp2
      go_ret
      exact ⟨⟨_, rfl, by rw [HEV.out]; exact HT5.out⟩, HB5.out⟩
    · go_wp2_with fail
      have c0 := blk_cell HX1.out 0
      have d0 := (node_cells HG1.out).1
      go_quiet (fail)
      have HB2 := Aside0.mk (below_drewN HB1.out nq)
      have HX2 := Aside0.mk (show (w1.drewN nq).heap[w.heap.size]? = _ from HX1.out)
      have HG2 := Aside0.mk (show (w1.drewN nq).heap[g]? = _ from HG1.out)
      have HL2 := Aside0.mk (HL1.out.drewN nq)
      have HR2 := Aside0.mk (HR1.out.drewN nq)
      clear c0 d0 HB1 HX1 HG1 HL1 HR1
      generalize w1.drewN nq = w2 at *
      by_cases c2 : k1 < k
      · have HEV := Aside0.mk (show withT k v (.node l k1 v1 r) = evenT l k1 v1 (withT k v r) from by rw [withT, if_neg (show ¬ k < k1 by omega), if_pos (show k > k1 by omega)])
        go_wp2_with fail
        have hN : w2.cell? ⟨g, 0, none⟩ = some (.int .u64 k1) ∧ w2.cell? ⟨g, 1, none⟩ = some (.int .i64 v1) ∧ w2.cell? ⟨g, 2, none⟩ = some (.pointer pl) ∧ w2.cell? ⟨g, 3, none⟩ = some (.pointer pr) ∧ w2.cell? ⟨w.heap.size, 0, none⟩ = some (.int .u64 k) ∧ w2.cell? ⟨w.heap.size, 1, none⟩ = some (.int .i64 v) :=
          ⟨(node_cells HG2.out).1, (node_cells HG2.out).2.1, (node_cells HG2.out).2.2.1, (node_cells HG2.out).2.2.2, blk_cell HX2.out 0, blk_cell HX2.out 1⟩
        have HLD := Aside0.mk (HL2.out.below (below_drew (Below.refl _ w2)))
        have HRD := Aside0.mk (HR2.out.below (below_drew (Below.refl _ w2)))
        have HBD := Aside0.mk (HB2.out.trans ((below_drew (Below.refl _ w2)).mono HB2.out.size))
        clear HB2 HX2 HG2 HL2 HR2
        refine wp_region_held_drew (S := (fun w' => w'.cell? ⟨g, 0, none⟩ = some (.int .u64 k1) ∧ w'.cell? ⟨g, 1, none⟩ = some (.int .i64 v1) ∧ w'.cell? ⟨g, 2, none⟩ = some (.pointer pl) ∧ w'.cell? ⟨g, 3, none⟩ = some (.pointer pr) ∧ w'.cell? ⟨w.heap.size, 0, none⟩ = some (.int .u64 k) ∧ w'.cell? ⟨w.heap.size, 1, none⟩ = some (.int .i64 v))) (by kernel_rfl) ?hSb0 (fun hHeld => ?_)
        case hSb0 => first | assumption | go_keep
        refine held_take 0 (some 43) (v := ?vb0) rfl rfl (by kernel_rfl) (by kernel_rfl) (by kernel_rfl) (fun _ _ _ h => h) (by rfl) ?yb0 (by assumption) ?_
        case yb0 => ((intro w hSw); (try dsimp only at hSw); go_simp <;> (with_reducible rfl))
        try simp only [Act.put, List.setIfInBounds_toArray, List.set_cons_zero, List.set_cons_succ]
        refine held_take 1 (some 44) (v := ?vb1) rfl rfl (by kernel_rfl) (by kernel_rfl) (by kernel_rfl) (fun _ _ _ h => h) (by rfl) ?yb1 (by assumption) ?_
        case yb1 => ((intro w hSw); (try dsimp only at hSw); go_simp <;> (with_reducible rfl))
        try simp only [Act.put, List.setIfInBounds_toArray, List.set_cons_zero, List.set_cons_succ]
        refine held_take 2 (some 45) (v := ?vb2) rfl rfl (by kernel_rfl) (by kernel_rfl) (by kernel_rfl) (fun _ _ _ h => h) (by rfl) ?yb2 (by assumption) ?_
        case yb2 => ((intro w hSw); (try dsimp only at hSw); go_simp <;> (with_reducible rfl))
        try simp only [Act.put, List.setIfInBounds_toArray, List.set_cons_zero, List.set_cons_succ]
        refine held_take 3 (some 46) (v := ?vb3) rfl rfl (by kernel_rfl) (by kernel_rfl) (by kernel_rfl) (fun _ _ _ h => h) (by rfl) ?yb3 (by assumption) ?_
        case yb3 => ((intro w hSw); (try dsimp only at hSw); go_simp <;> (with_reducible rfl))
        try simp only [Act.put, List.setIfInBounds_toArray, List.set_cons_zero, List.set_cons_succ]
        refine held_take 4 (some 47) (v := ?vb4) rfl rfl (by kernel_rfl) (by kernel_rfl) (by kernel_rfl) (fun _ _ _ h => h) (by rfl) ?yb4 (by assumption) ?_
        case yb4 => ((intro w hSw); (try dsimp only at hSw); go_simp <;> (with_reducible rfl))
        try simp only [Act.put, List.setIfInBounds_toArray, List.set_cons_zero, List.set_cons_succ]
        refine held_take 5 (some 48) (v := ?vb5) rfl rfl (by kernel_rfl) (by kernel_rfl) (by kernel_rfl) (fun _ _ _ h => h) (by rfl) ?yb5 (by assumption) ?_
        case yb5 => ((intro w hSw); (try dsimp only at hSw); go_simp <;> (with_reducible rfl))
        try simp only [Act.put, List.setIfInBounds_toArray, List.set_cons_zero, List.set_cons_succ]
        refine held_take 6 (some 49) (v := ?vb6) rfl rfl (by kernel_rfl) (by kernel_rfl) (by kernel_rfl) (fun _ _ _ h => h) (by rfl) ?yb6 (by assumption) ?_
        case yb6 => ((intro w hSw); (try dsimp only at hSw); go_simp <;> (with_reducible rfl))
        try simp only [Act.put, List.setIfInBounds_toArray, List.set_cons_zero, List.set_cons_succ]
        refine held_take 7 (some 50) (v := ?vb7) rfl rfl (by kernel_rfl) (by kernel_rfl) (by kernel_rfl) (fun _ _ _ h => h) (by rfl) ?yb7 (by assumption) ?_
        case yb7 => ((intro w hSw); (try dsimp only at hSw); go_simp <;> (with_reducible rfl))
        try simp only [Act.put, List.setIfInBounds_toArray, List.set_cons_zero, List.set_cons_succ]
        refine held_take 8 (some 51) (v := ?vb8) rfl rfl (by kernel_rfl) (by kernel_rfl) (by kernel_rfl) (fun _ _ _ h => h) (by rfl) ?yb8 (by assumption) ?_
        case yb8 => ((intro w hSw); (try dsimp only at hSw); go_simp <;> (with_reducible rfl))
        try simp only [Act.put, List.setIfInBounds_toArray, List.set_cons_zero, List.set_cons_succ]
        refine held_take 9 (some 52) (v := ?vb9) rfl rfl (by kernel_rfl) (by kernel_rfl) (by kernel_rfl) (fun _ _ _ h => h) (by rfl) ?yb9 (by assumption) ?_
        case yb9 => ((intro w hSw); (try dsimp only at hSw); go_simp <;> (with_reducible rfl))
        try simp only [Act.put, List.setIfInBounds_toArray, List.set_cons_zero, List.set_cons_succ]
        refine held_take 10 (some 53) (v := ?vb10) rfl rfl (by kernel_rfl) (by kernel_rfl) (by kernel_rfl) (fun _ _ _ h => h) (by rfl) ?yb10 (by assumption) ?_
        case yb10 => ((intro w hSw); (try dsimp only at hSw); go_simp <;> (with_reducible rfl))
        try simp only [Act.put, List.setIfInBounds_toArray, List.set_cons_zero, List.set_cons_succ]
        refine held_take 11 (some 54) (v := ?vb11) rfl rfl (by kernel_rfl) (by kernel_rfl) (by kernel_rfl) (fun _ _ _ h => h) (by rfl) ?yb11 (by assumption) ?_
        case yb11 => ((intro w hSw); (try dsimp only at hSw); go_simp <;> (with_reducible rfl))
        try simp only [Act.put, List.setIfInBounds_toArray, List.set_cons_zero, List.set_cons_succ]
        refine held_take 12 (some 55) (v := ?vb12) rfl rfl (by kernel_rfl) (by kernel_rfl) (by kernel_rfl) (fun _ _ _ h => h) (by rfl) ?yb12 (by assumption) ?_
        case yb12 => ((intro w hSw); (try dsimp only at hSw); go_simp <;> (with_reducible rfl))
        try simp only [Act.put, List.setIfInBounds_toArray, List.set_cons_zero, List.set_cons_succ]
        refine wpAnyH_ready (rs := [13]) (by kernel_rfl) (by simp) ?_
        refine AllReadyH.cons rfl (fun K hK => ?_) AllReadyH.nil
        go_simp
        refine (IHR.out pr _ HRD.out (by have := HSZ.out; omega)).mono ?_
        rintro e w4 ⟨⟨p4, rfl, ht4⟩, hb4⟩
        have K4 := cells6_below (by assumption) hb4
        have HT4 := Aside0.mk ht4
        have HL4 := Aside0.mk (HLD.out.below hb4)
        have HB4 := Aside0.mk (HBD.out.trans (hb4.mono HBD.out.size))
        clear ht4 hb4
        refine hK.out _ _ ?hSb14 (fun hHeld => ?_)
        case hSb14 => first | assumption | go_keep
        clear hK K
        try simp only [Act.put, List.setIfInBounds_toArray, List.set_cons_zero, List.set_cons_succ]
        refine wpAnyH_ready (rs := [14]) (by kernel_rfl) (by simp) ?_
        refine AllReadyH.cons rfl (fun K hK => ?_) AllReadyH.nil
        go_simp
        refine (even_any pl l k1 v1 p4 (withT k v r) _ HL4.out HT4.out (by have := HSZ.out; have := HZR.out; omega)).mono ?_
        rintro e w5 ⟨⟨p5, rfl, ht5⟩, hb5⟩
        have K5 := cells6_below (by assumption) hb5
        have HT5 := Aside0.mk ht5
        have HB5 := Aside0.mk (HB4.out.trans (hb5.mono HB4.out.size))
        clear ht5 hb5
        refine hK.out _ _ ?hSb15 (fun hHeld => ?_)
        case hSb15 => first | assumption | go_keep
        clear hK K
        try simp only [Act.put, List.setIfInBounds_toArray, List.set_cons_zero, List.set_cons_succ]
        refine held_take 15 (some 4) (v := ?vb15) rfl rfl (by kernel_rfl) (by kernel_rfl) (by kernel_rfl) (fun _ _ _ h => h) (by rfl) ?yb15 (by assumption) ?_
        case yb15 => ((intro w hSw); (try dsimp only at hSw); go_simp <;> (with_reducible rfl))
        try simp only [Act.put, List.setIfInBounds_toArray, List.set_cons_zero, List.set_cons_succ]
        refine wpAnyH_done (by kernel_rfl) ?_ _
        go_wp2
        go_ret
        exact ⟨⟨_, rfl, by rw [HEV.out]; exact HT5.out⟩, HB5.out⟩
      · have HEV := Aside0.mk (show withT k v (.node l k1 v1 r) = .node l k v r from by rw [withT, if_neg (show ¬ k < k1 by omega), if_neg (show ¬ k > k1 by omega)])
        go_wp2_with fail
        have hN : w2.cell? ⟨g, 0, none⟩ = some (.int .u64 k1) ∧ w2.cell? ⟨g, 1, none⟩ = some (.int .i64 v1) ∧ w2.cell? ⟨g, 2, none⟩ = some (.pointer pl) ∧ w2.cell? ⟨g, 3, none⟩ = some (.pointer pr) ∧ w2.cell? ⟨w.heap.size, 0, none⟩ = some (.int .u64 k) ∧ w2.cell? ⟨w.heap.size, 1, none⟩ = some (.int .i64 v) :=
          ⟨(node_cells HG2.out).1, (node_cells HG2.out).2.1, (node_cells HG2.out).2.2.1, (node_cells HG2.out).2.2.2, blk_cell HX2.out 0, blk_cell HX2.out 1⟩
        have HLD := Aside0.mk (HL2.out.below (below_drew (Below.refl _ w2)))
        have HRD := Aside0.mk (HR2.out.below (below_drew (Below.refl _ w2)))
        have HBD := Aside0.mk (HB2.out.trans ((below_drew (Below.refl _ w2)).mono HB2.out.size))
        clear HB2 HX2 HG2 HL2 HR2
        refine wp_region_held_drew (S := (fun w' => w'.cell? ⟨g, 0, none⟩ = some (.int .u64 k1) ∧ w'.cell? ⟨g, 1, none⟩ = some (.int .i64 v1) ∧ w'.cell? ⟨g, 2, none⟩ = some (.pointer pl) ∧ w'.cell? ⟨g, 3, none⟩ = some (.pointer pr) ∧ w'.cell? ⟨w.heap.size, 0, none⟩ = some (.int .u64 k) ∧ w'.cell? ⟨w.heap.size, 1, none⟩ = some (.int .i64 v))) (by kernel_rfl) ?hSc0 (fun hHeld => ?_)
        case hSc0 => first | assumption | go_keep
        refine held_take 0 (some 58) (v := ?vc0) rfl rfl (by kernel_rfl) (by kernel_rfl) (by kernel_rfl) (fun _ _ _ h => h) (by rfl) ?yc0 (by assumption) ?_
        case yc0 => ((intro w hSw); (try dsimp only at hSw); go_simp <;> (with_reducible rfl))
        try simp only [Act.put, List.setIfInBounds_toArray, List.set_cons_zero, List.set_cons_succ]
        refine held_take 1 (some 59) (v := ?vc1) rfl rfl (by kernel_rfl) (by kernel_rfl) (by kernel_rfl) (fun _ _ _ h => h) (by rfl) ?yc1 (by assumption) ?_
        case yc1 => ((intro w hSw); (try dsimp only at hSw); go_simp <;> (with_reducible rfl))
        try simp only [Act.put, List.setIfInBounds_toArray, List.set_cons_zero, List.set_cons_succ]
        refine held_take 2 (some 60) (v := ?vc2) rfl rfl (by kernel_rfl) (by kernel_rfl) (by kernel_rfl) (fun _ _ _ h => h) (by rfl) ?yc2 (by assumption) ?_
        case yc2 => ((intro w hSw); (try dsimp only at hSw); go_simp <;> (with_reducible rfl))
        try simp only [Act.put, List.setIfInBounds_toArray, List.set_cons_zero, List.set_cons_succ]
        refine held_take 3 (some 61) (v := ?vc3) rfl rfl (by kernel_rfl) (by kernel_rfl) (by kernel_rfl) (fun _ _ _ h => h) (by rfl) ?yc3 (by assumption) ?_
        case yc3 => ((intro w hSw); (try dsimp only at hSw); go_simp <;> (with_reducible rfl))
        try simp only [Act.put, List.setIfInBounds_toArray, List.set_cons_zero, List.set_cons_succ]
        refine held_take 4 (some 62) (v := ?vc4) rfl rfl (by kernel_rfl) (by kernel_rfl) (by kernel_rfl) (fun _ _ _ h => h) (by rfl) ?yc4 (by assumption) ?_
        case yc4 => ((intro w hSw); (try dsimp only at hSw); go_simp <;> (with_reducible rfl))
        try simp only [Act.put, List.setIfInBounds_toArray, List.set_cons_zero, List.set_cons_succ]
        refine held_take 5 (some 63) (v := ?vc5) rfl rfl (by kernel_rfl) (by kernel_rfl) (by kernel_rfl) (fun _ _ _ h => h) (by rfl) ?yc5 (by assumption) ?_
        case yc5 => ((intro w hSw); (try dsimp only at hSw); go_simp <;> (with_reducible rfl))
        try simp only [Act.put, List.setIfInBounds_toArray, List.set_cons_zero, List.set_cons_succ]
        refine held_take 6 (some 64) (v := ?vc6) rfl rfl (by kernel_rfl) (by kernel_rfl) (by kernel_rfl) (fun _ _ _ h => h) (by rfl) ?yc6 (by assumption) ?_
        case yc6 => ((intro w hSw); (try dsimp only at hSw); go_simp <;> (with_reducible rfl))
        try simp only [Act.put, List.setIfInBounds_toArray, List.set_cons_zero, List.set_cons_succ]
        refine held_take 7 (some 65) (v := ?vc7) rfl rfl (by kernel_rfl) (by kernel_rfl) (by kernel_rfl) (fun _ _ _ h => h) (by rfl) ?yc7 (by assumption) ?_
        case yc7 => ((intro w hSw); (try dsimp only at hSw); go_simp <;> (with_reducible rfl))
        try simp only [Act.put, List.setIfInBounds_toArray, List.set_cons_zero, List.set_cons_succ]
        refine held_take 8 (some 66) (v := ?vc8) rfl rfl (by kernel_rfl) (by kernel_rfl) (by kernel_rfl) (fun _ _ _ h => h) (by rfl) ?yc8 (by assumption) ?_
        case yc8 => ((intro w hSw); (try dsimp only at hSw); go_simp <;> (with_reducible rfl))
        try simp only [Act.put, List.setIfInBounds_toArray, List.set_cons_zero, List.set_cons_succ]
        refine wpAnyH_ready (rs := [9]) (by kernel_rfl) (by simp) ?_
        refine AllReadyH.cons rfl (fun K hK => ?_) AllReadyH.nil
        go_simp
        refine (made_any pl l k v pr r _ HLD.out HRD.out (by have := HSZ.out; omega)).mono ?_
        rintro e w4 ⟨⟨p4, rfl, ht4⟩, hb4⟩
        have K4 := cells6_below (by assumption) hb4
        have HT4 := Aside0.mk ht4
        have HB4 := Aside0.mk (HBD.out.trans (hb4.mono HBD.out.size))
        clear ht4 hb4
        refine hK.out _ _ ?hSc10 (fun hHeld => ?_)
        case hSc10 => first | assumption | go_keep
        clear hK K
        try simp only [Act.put, List.setIfInBounds_toArray, List.set_cons_zero, List.set_cons_succ]
        refine held_take 10 (some 4) (v := ?vc10) rfl rfl (by kernel_rfl) (by kernel_rfl) (by kernel_rfl) (fun _ _ _ h => h) (by rfl) ?yc10 (by assumption) ?_
        case yc10 => ((intro w hSw); (try dsimp only at hSw); go_simp <;> (with_reducible rfl))
        try simp only [Act.put, List.setIfInBounds_toArray, List.set_cons_zero, List.set_cons_succ]
        refine wpAnyH_done (by kernel_rfl) ?_ _
        go_wp2
        go_ret
        exact ⟨⟨_, rfl, by rw [HEV.out]; exact HT4.out⟩, HB4.out⟩
end Go.Proofs.Ytjfbiabgeickjaa.H
/-! ### Tree4 -/
namespace Go.Proofs.Ytjfbiabgeickjaa.H
open Go.RowKit Go.Proofs.Ytjfbiabgeickjaa.P Go.Proofs.YtjfbiabgeickjaaW.PrintWords Go.Proofs.YtjfbiabgeickjaaW.PrintLast Go.Proofs.YtjfbiabgeickjaaW.PrintMore
set_option linter.unusedVariables false
set_option linter.unusedSimpArgs false
/-- The least pair, and the tree without it. -/
def leastT : T → (Int × Int) × T
  | .leaf => ((0, 0), .leaf)
  | .node .leaf k v r => ((k, v), r)
  | .node (.node ll lk lv lr) k v r => ((leastT (.node ll lk lv lr)).1, evenT (leastT (.node ll lk lv lr)).2 k v r)
theorem sz_least : ∀ t : T, sz (leastT t).2 ≤ sz t
  | .leaf => by simp [leastT]
  | .node .leaf k v r => by simp only [leastT, sz]; omega
  | .node (.node ll lk lv lr) k v r => by
    have h := sz_least (.node ll lk lv lr)
    rw [leastT, sz_even]
    simp only [sz] at h ⊢
    omega
theorem far2 {w : World} {g h i : Nat} {v u u' : Value} (hne : ¬ g = h) (hc : w.cell? ⟨g, i, none⟩ = some v) : ((w.setCell ⟨h, 0, none⟩ u).setCell ⟨h, 1, none⟩ u').cell? ⟨g, i, none⟩ = some v := by
  rw [World.cell?_of_block (w := w.setCell ⟨h, 0, none⟩ u) (Below.heap_setCell _ _ _ _ hne), World.cell?_of_block (w := w) (Below.heap_setCell _ _ _ _ hne)]
  exact hc
/-- A pair's block may be written: no tree lies in it. -/
theorem TreeAt.far {W : World} {h j : Nat} {u : Value} {cs : Array Value} (hh : W.heap[h]? = some (.cells cs 66 (0, 0))) : ∀ {t : T} {p : Option Addr}, TreeAt W p t → TreeAt (W.setCell ⟨h, j, none⟩ u) p t
  | .leaf, _, h1 => h1
  | .node l k v r, _, ⟨g, pl, pr, h1, h2, h3, h4⟩ => by
    have hne : g ≠ h := by
      rintro rfl
      rw [hh] at h2
      injection h2 with h2
      injection h2 with _ h2
      exact absurd h2 (by decide)
    exact ⟨g, pl, pr, h1, (Below.heap_setCell W ⟨h, j, none⟩ u g hne).trans h2, TreeAt.far hh h3, TreeAt.far hh h4⟩
set_option maxRecDepth 20000 in
set_option maxHeartbeats 4000000 in
theorem least_any (t : T) : ∀ (l : T) (k v : Int) (r : T), t = .node l k v r → ∀ (p : Option Addr) (w : World), TreeAt w p t → sz t ≤ 40000 →
    Calls Try.prog 57 #[.pointer p] w fun e w' => (∃ q, e = .returned (.tuple #[.agg #[.int .u64 (leastT t).1.1, .int .i64 (leastT t).1.2], .pointer q]) ∧ TreeAt w' q (leastT t).2) ∧ Below w.heap.size w w' := by
  induction t with
  | leaf =>
    intro l k v r e
    cases e
  | node l k v r ihl ihr =>
    intro _ _ _ _ _ p w h hs
    obtain ⟨g, pl, pr, rfl, hg, hl, hr⟩ := h
    have HSZ := Aside0.mk (show sz l + sz r + 1 ≤ 40000 by simp only [sz] at hs; omega)
    have HB0 := Aside0.mk ((Below.refl w.heap.size w).alloc (Nat.le_refl _) (.cells #[.int .u64 0, .int .i64 0] 66))
    have HX0 := Aside0.mk (blk_new w (.cells #[.int .u64 0, .int .i64 0] 66))
    have HG0 := Aside0.mk (blk_below hg HB0.out)
    have HL0 := Aside0.mk (hl.below HB0.out)
    have HR0 := Aside0.mk (hr.below HB0.out)
    have HRW := Aside0.mk hr
    have HGH := Aside0.mk (blk_lt hg)
    have IHL := Aside0.mk ihl
    have c2 := blk_cell HG0.out 2
    clear hg hl hr hs ihl ihr
    go_enter Try.func57, Try.ntmps57
    cases l with
    | leaf =>
      obtain rfl : pl = none := HL0.out
      go_wp2_with fail
      generalize hw0 : (w.alloc (.cells #[.int .u64 0, .int .i64 0] 66)) = w0 at *
      have HW0 := Aside0.mk hw0
      clear hw0
      have hN : w0.cell? ⟨g, 0, none⟩ = some (.int .u64 k) ∧ w0.cell? ⟨g, 1, none⟩ = some (.int .i64 v) ∧ w0.cell? ⟨g, 2, none⟩ = some (.pointer none) ∧ w0.cell? ⟨g, 3, none⟩ = some (.pointer pr) := node_cells HG0.out
      have k0 : w0.cell? ⟨w.heap.size, 0, none⟩ = some (.int .u64 0) := blk_cell HX0.out 0
      have k1 : w0.cell? ⟨w.heap.size, 1, none⟩ = some (.int .i64 0) := blk_cell HX0.out 1
      have f0 : w0.frozen? ⟨w.heap.size, 0, none⟩ = false := blk_frozen HX0.out 0
      have f1 : w0.frozen? ⟨w.heap.size, 1, none⟩ = false := blk_frozen HX0.out 1
      have hne : ¬ g = w.heap.size := by have := HGH.out; omega
      refine wp_region_held_drew (S := (fun w' => w'.cell? ⟨g, 0, none⟩ = some (.int .u64 k) ∧ w'.cell? ⟨g, 1, none⟩ = some (.int .i64 v) ∧ w'.cell? ⟨g, 2, none⟩ = some (.pointer none) ∧ w'.cell? ⟨g, 3, none⟩ = some (.pointer pr))) (by kernel_rfl) ?hSa0 (fun hHeld => ?_)
      case hSa0 => first | assumption | exact ⟨far2 hne hN.1, far2 hne hN.2.1, far2 hne hN.2.2.1, far2 hne hN.2.2.2⟩ | go_keep
      refine held_take 0 (some 11) (v := ?va0) rfl rfl (by kernel_rfl) (by kernel_rfl) (by kernel_rfl) (fun _ _ _ h => h) (by rfl) ?ya0 (by assumption) ?_
      case ya0 => ((intro w hSw); (try dsimp only at hSw); go_simp <;> (with_reducible rfl))
      try simp only [Act.put, List.setIfInBounds_toArray, List.set_cons_zero, List.set_cons_succ]
      refine held_take 1 (some 12) (v := ?va1) rfl rfl (by kernel_rfl) (by kernel_rfl) (by kernel_rfl) (fun _ _ _ h => h) (by rfl) ?ya1 (by assumption) ?_
      case ya1 => ((intro w hSw); (try dsimp only at hSw); go_simp <;> (with_reducible rfl))
      try simp only [Act.put, List.setIfInBounds_toArray, List.set_cons_zero, List.set_cons_succ]
      refine held_take 2 (some 13) (v := ?va2) rfl rfl (by kernel_rfl) (by kernel_rfl) (by kernel_rfl) (fun _ _ _ h => h) (by rfl) ?ya2 (by assumption) ?_
      case ya2 => ((intro w hSw); (try dsimp only at hSw); go_simp <;> (with_reducible rfl))
      try simp only [Act.put, List.setIfInBounds_toArray, List.set_cons_zero, List.set_cons_succ]
      refine held_take 3 (some 14) (v := ?va3) rfl rfl (by kernel_rfl) (by kernel_rfl) (by kernel_rfl) (fun _ _ _ h => h) (by rfl) ?ya3 (by assumption) ?_
      case ya3 => ((intro w hSw); (try dsimp only at hSw); go_simp <;> (with_reducible rfl))
      try simp only [Act.put, List.setIfInBounds_toArray, List.set_cons_zero, List.set_cons_succ]
      refine held_take 4 (some 15) (v := ?va4) rfl rfl (by kernel_rfl) (by kernel_rfl) (by kernel_rfl) (fun _ _ _ h => h) (by rfl) ?ya4 (by assumption) ?_
      case ya4 => ((intro w hSw); (try dsimp only at hSw); go_simp <;> (with_reducible rfl))
      try simp only [Act.put, List.setIfInBounds_toArray, List.set_cons_zero, List.set_cons_succ]
      refine held_take 5 (some 16) (v := ?va5) rfl rfl (by kernel_rfl) (by kernel_rfl) (by kernel_rfl) (fun _ _ _ h => h) (by rfl) ?ya5 (by assumption) ?_
      case ya5 => ((intro w hSw); (try dsimp only at hSw); go_simp <;> (with_reducible rfl))
      try simp only [Act.put, List.setIfInBounds_toArray, List.set_cons_zero, List.set_cons_succ]
      refine held_take 6 (some 17) (v := ?va6) rfl rfl (by kernel_rfl) (by kernel_rfl) (by kernel_rfl) (fun _ _ _ h => h) (by rfl) ?ya6 (by assumption) ?_
      case ya6 => ((intro w hSw); (try dsimp only at hSw); go_simp <;> (with_reducible rfl))
      try simp only [Act.put, List.setIfInBounds_toArray, List.set_cons_zero, List.set_cons_succ]
      refine held_take 7 (some 18) (v := ?va7) rfl rfl (by kernel_rfl) (by kernel_rfl) (by kernel_rfl) (fun _ _ _ h => h) (by rfl) ?ya7 (by assumption) ?_
      case ya7 => ((intro w hSw); (try dsimp only at hSw); go_simp <;> (with_reducible rfl))
      try simp only [Act.put, List.setIfInBounds_toArray, List.set_cons_zero, List.set_cons_succ]
      refine wpAnyH_ready (rs := [8]) (by kernel_rfl) (by simp) ?_
      refine AllReadyH.cons rfl (fun K hK => ?_) AllReadyH.nil
      go_simp
      refine hK.out _ _ ?hSa9 (fun hHeld => ?_)
      case hSa9 => first | assumption | exact ⟨far2 hne hN.1, far2 hne hN.2.1, far2 hne hN.2.2.1, far2 hne hN.2.2.2⟩ | go_keep
      clear hK K
      try simp only [Act.put, List.setIfInBounds_toArray, List.set_cons_zero, List.set_cons_succ]
      refine held_take 9 (some 3) (v := ?va9) rfl rfl (by kernel_rfl) (by kernel_rfl) (by kernel_rfl) (fun _ _ _ h => h) (by rfl) ?ya9 (by assumption) ?_
      case ya9 => ((intro w hSw); (try dsimp only at hSw); go_simp <;> (with_reducible rfl))
      try simp only [Act.put, List.setIfInBounds_toArray, List.set_cons_zero, List.set_cons_succ]
      refine wpAnyH_done (by kernel_rfl) ?_ _
      have HBS := Aside0.mk ((HB0.out.setCell (p := ⟨w.heap.size, 0, none⟩) (Nat.le_refl _) (.int .u64 k)).setCell (p := ⟨w.heap.size, 1, none⟩) (Nat.le_refl _) (.int .i64 v))
      have m1 := blk_set (blk_set HX0.out 0 (.int .u64 k)) 1 (.int .i64 v)
      have m2 := blk_cell m1 0
      have m3 := blk_cell m1 1
      have HRS := Aside0.mk (HRW.out.below HBS.out)
      generalize (w0.setCell ⟨w.heap.size, 0, none⟩ (Value.int .u64 k)).setCell ⟨w.heap.size, 1, none⟩ (Value.int .i64 v) = wd at *
      go_wp2
      exact bodyPost_ret (v := .tuple #[.agg #[.int .u64 k, .int .i64 v], .pointer pr]) (by simp [results, Try.results57, go_sem, m2, m3]) rfl ⟨⟨pr, rfl, HRS.out.below (below_drew (Below.refl _ _))⟩, HBS.out.trans ((below_drew (Below.refl _ _)).mono HBS.out.size)⟩
    | node ll lk lv lr =>
      obtain ⟨gl, pll, plr, rfl, hgl, hll, hlr⟩ := id HL0.out
      have HLEQ := Aside0.mk (show leastT (.node (.node ll lk lv lr) k v r) = ((leastT (.node ll lk lv lr)).1, evenT (leastT (.node ll lk lv lr)).2 k v r) from rfl)
      have HZ := Aside0.mk (sz_least (.node ll lk lv lr))
      clear hgl hll hlr
      generalize leastT (.node (.node ll lk lv lr) k v r) = res at *
      generalize hlt : T.node ll lk lv lr = l at *
      have HLT := Aside0.mk hlt
      clear hlt
      go_wp2_with fail
      generalize (w.alloc (.cells #[.int .u64 0, .int .i64 0] 66)) = w0 at *
      refine (IHL.out _ _ _ _ HLT.out.symm _ w0 HL0.out (by have := HSZ.out; omega)).mono ?_
      rintro e w1 ⟨⟨q1, rfl, hq1⟩, hb1⟩
      generalize hlr2 : leastT l = lres at *
      obtain ⟨⟨x0, x1⟩, lt⟩ := lres
      simp only [] at HLEQ HZ hq1 ⊢
      have HB1 := Aside0.mk (HB0.out.trans (hb1.mono HB0.out.size))
      have HX1 := Aside0.mk (blk_below HX0.out hb1)
      have HG1 := Aside0.mk (blk_below HG0.out hb1)
      have HR1 := Aside0.mk (HR0.out.below hb1)
      have HQ1 := Aside0.mk hq1
      clear hq1 hb1 hlr2 HB0 HX0 HG0 HR0 HL0 c2
      go_wp2_with fail

      generalize hbx2 : (w1.alloc (.cells #[.int .u64 x0, .int .i64 x1] 66)) = w2 at *
      have hb2 : Below w1.heap.size w1 w2 := by rw [← hbx2]; exact (Below.refl w1.heap.size w1).alloc (Nat.le_refl _) _
      have HX2 := Aside0.mk (show w2.heap[w1.heap.size]? = some (.cells #[.int .u64 x0, .int .i64 x1] 66 (0, 0)) from by rw [← hbx2]; exact blk_new w1 _)
      have HB2 := Aside0.mk (HB1.out.trans (hb2.mono HB1.out.size))
      have HO2 := Aside0.mk (blk_below HX1.out hb2)
      have HG2 := Aside0.mk (blk_below HG1.out hb2)
      have HR2 := Aside0.mk (HR1.out.below hb2)
      have HQ2 := Aside0.mk (HQ1.out.below hb2)
      have HLT2 := Aside0.mk (And.intro (blk_lt HX1.out) HB1.out.size)
      have HW12 := Aside0.mk hb2
      have HRW1 := Aside0.mk (Nat.le_refl w.heap.size)
      clear hb2 hbx2 HB1 HX1 HG1 HR1 HQ1
      have hN : w2.cell? ⟨g, 0, none⟩ = some (.int .u64 k) ∧ w2.cell? ⟨g, 1, none⟩ = some (.int .i64 v) ∧ w2.cell? ⟨g, 2, none⟩ = some (.pointer (some ⟨gl, 0, none⟩)) ∧ w2.cell? ⟨g, 3, none⟩ = some (.pointer pr) ∧ w2.cell? ⟨w1.heap.size, 0, none⟩ = some (.int .u64 x0) ∧ w2.cell? ⟨w1.heap.size, 1, none⟩ = some (.int .i64 x1) :=
        ⟨(node_cells HG2.out).1, (node_cells HG2.out).2.1, (node_cells HG2.out).2.2.1, (node_cells HG2.out).2.2.2, blk_cell HX2.out 0, blk_cell HX2.out 1⟩
      have HQD := Aside0.mk (HQ2.out.below (below_drew (Below.refl _ w2)))
      have HRD := Aside0.mk (HR2.out.below (below_drew (Below.refl _ w2)))
      have HBD := Aside0.mk (HB2.out.trans ((below_drew (Below.refl _ w2)).mono HB2.out.size))
      have HOD := Aside0.mk (show w2.drew.heap[w.heap.size]? = _ from HO2.out)
      have hne : ¬ g = w.heap.size := by have := HGH.out; omega
      have hne2 : ¬ w1.heap.size = w.heap.size := by have := HLT2.out.1; omega
      refine wp_region_held_drew (S := (fun w' => w'.cell? ⟨g, 0, none⟩ = some (.int .u64 k) ∧ w'.cell? ⟨g, 1, none⟩ = some (.int .i64 v) ∧ w'.cell? ⟨g, 2, none⟩ = some (.pointer (some ⟨gl, 0, none⟩)) ∧ w'.cell? ⟨g, 3, none⟩ = some (.pointer pr) ∧ w'.cell? ⟨w1.heap.size, 0, none⟩ = some (.int .u64 x0) ∧ w'.cell? ⟨w1.heap.size, 1, none⟩ = some (.int .i64 x1))) (by kernel_rfl) ?hSb0 (fun hHeld => ?_)
      case hSb0 => first | assumption | exact ⟨far2 hne K5.1, far2 hne K5.2.1, far2 hne K5.2.2.1, far2 hne K5.2.2.2.1, far2 hne2 K5.2.2.2.2.1, far2 hne2 K5.2.2.2.2.2⟩ | go_keep
      refine held_take 0 (some 27) (v := ?vb0) rfl rfl (by kernel_rfl) (by kernel_rfl) (by kernel_rfl) (fun _ _ _ h => h) (by rfl) ?yb0 (by assumption) ?_
      case yb0 => ((intro w hSw); (try dsimp only at hSw); go_simp <;> (with_reducible rfl))
      try simp only [Act.put, List.setIfInBounds_toArray, List.set_cons_zero, List.set_cons_succ]
      refine held_take 1 (some 28) (v := ?vb1) rfl rfl (by kernel_rfl) (by kernel_rfl) (by kernel_rfl) (fun _ _ _ h => h) (by rfl) ?yb1 (by assumption) ?_
      case yb1 => ((intro w hSw); (try dsimp only at hSw); go_simp <;> (with_reducible rfl))
      try simp only [Act.put, List.setIfInBounds_toArray, List.set_cons_zero, List.set_cons_succ]
      refine held_take 2 (some 29) (v := ?vb2) rfl rfl (by kernel_rfl) (by kernel_rfl) (by kernel_rfl) (fun _ _ _ h => h) (by rfl) ?yb2 (by assumption) ?_
      case yb2 => ((intro w hSw); (try dsimp only at hSw); go_simp <;> (with_reducible rfl))
      try simp only [Act.put, List.setIfInBounds_toArray, List.set_cons_zero, List.set_cons_succ]
      refine held_take 3 (some 30) (v := ?vb3) rfl rfl (by kernel_rfl) (by kernel_rfl) (by kernel_rfl) (fun _ _ _ h => h) (by rfl) ?yb3 (by assumption) ?_
      case yb3 => ((intro w hSw); (try dsimp only at hSw); go_simp <;> (with_reducible rfl))
      try simp only [Act.put, List.setIfInBounds_toArray, List.set_cons_zero, List.set_cons_succ]
      refine held_take 4 (some 31) (v := ?vb4) rfl rfl (by kernel_rfl) (by kernel_rfl) (by kernel_rfl) (fun _ _ _ h => h) (by rfl) ?yb4 (by assumption) ?_
      case yb4 => ((intro w hSw); (try dsimp only at hSw); go_simp <;> (with_reducible rfl))
      try simp only [Act.put, List.setIfInBounds_toArray, List.set_cons_zero, List.set_cons_succ]
      refine held_take 5 (some 32) (v := ?vb5) rfl rfl (by kernel_rfl) (by kernel_rfl) (by kernel_rfl) (fun _ _ _ h => h) (by rfl) ?yb5 (by assumption) ?_
      case yb5 => ((intro w hSw); (try dsimp only at hSw); go_simp <;> (with_reducible rfl))
      try simp only [Act.put, List.setIfInBounds_toArray, List.set_cons_zero, List.set_cons_succ]
      refine held_take 6 (some 33) (v := ?vb6) rfl rfl (by kernel_rfl) (by kernel_rfl) (by kernel_rfl) (fun _ _ _ h => h) (by rfl) ?yb6 (by assumption) ?_
      case yb6 => ((intro w hSw); (try dsimp only at hSw); go_simp <;> (with_reducible rfl))
      try simp only [Act.put, List.setIfInBounds_toArray, List.set_cons_zero, List.set_cons_succ]
      refine held_take 7 (some 34) (v := ?vb7) rfl rfl (by kernel_rfl) (by kernel_rfl) (by kernel_rfl) (fun _ _ _ h => h) (by rfl) ?yb7 (by assumption) ?_
      case yb7 => ((intro w hSw); (try dsimp only at hSw); go_simp <;> (with_reducible rfl))
      try simp only [Act.put, List.setIfInBounds_toArray, List.set_cons_zero, List.set_cons_succ]
      refine held_take 8 (some 35) (v := ?vb8) rfl rfl (by kernel_rfl) (by kernel_rfl) (by kernel_rfl) (fun _ _ _ h => h) (by rfl) ?yb8 (by assumption) ?_
      case yb8 => ((intro w hSw); (try dsimp only at hSw); go_simp <;> (with_reducible rfl))
      try simp only [Act.put, List.setIfInBounds_toArray, List.set_cons_zero, List.set_cons_succ]
      refine held_take 9 (some 36) (v := ?vb9) rfl rfl (by kernel_rfl) (by kernel_rfl) (by kernel_rfl) (fun _ _ _ h => h) (by rfl) ?yb9 (by assumption) ?_
      case yb9 => ((intro w hSw); (try dsimp only at hSw); go_simp <;> (with_reducible rfl))
      try simp only [Act.put, List.setIfInBounds_toArray, List.set_cons_zero, List.set_cons_succ]
      refine wpAnyH_ready (rs := [10]) (by kernel_rfl) (by simp) ?_
      refine AllReadyH.cons rfl (fun K hK => ?_) AllReadyH.nil
      go_simp
      refine (even_any q1 lt k v pr r _ HQD.out HRD.out (by have := HSZ.out; have := HZ.out; omega)).mono ?_
      rintro e w5 ⟨⟨p5, rfl, ht5⟩, hb5⟩
      have K5 := cells6_below (by assumption) hb5
      have HT5 := Aside0.mk ht5
      have HO5 := Aside0.mk (blk_below HOD.out hb5)
      have k0 := blk_cell HO5.out 0
      have k1 := blk_cell HO5.out 1
      have f0 := blk_frozen HO5.out 0
      have f1 := blk_frozen HO5.out 1
      have HB5 := Aside0.mk (HBD.out.trans (hb5.mono HBD.out.size))
      clear ht5 hb5
      refine hK.out _ _ ?hSb11 (fun hHeld => ?_)
      case hSb11 => first | assumption | exact ⟨far2 hne K5.1, far2 hne K5.2.1, far2 hne K5.2.2.1, far2 hne K5.2.2.2.1, far2 hne2 K5.2.2.2.2.1, far2 hne2 K5.2.2.2.2.2⟩ | go_keep
      clear hK K
      try simp only [Act.put, List.setIfInBounds_toArray, List.set_cons_zero, List.set_cons_succ]
      refine wpAnyH_ready (rs := [11]) (by kernel_rfl) (by simp) ?_
      refine AllReadyH.cons rfl (fun K hK => ?_) AllReadyH.nil
      go_simp
      refine hK.out _ _ ?hSb12 (fun hHeld => ?_)
      case hSb12 => first | assumption | exact ⟨far2 hne K5.1, far2 hne K5.2.1, far2 hne K5.2.2.1, far2 hne K5.2.2.2.1, far2 hne2 K5.2.2.2.2.1, far2 hne2 K5.2.2.2.2.2⟩ | go_keep
      clear hK K
      try simp only [Act.put, List.setIfInBounds_toArray, List.set_cons_zero, List.set_cons_succ]
      refine held_take 12 (some 3) (v := ?vb12) rfl rfl (by kernel_rfl) (by kernel_rfl) (by kernel_rfl) (fun _ _ _ h => h) (by rfl) ?yb12 (by assumption) ?_
      case yb12 => ((intro w hSw); (try dsimp only at hSw); go_simp <;> (with_reducible rfl))
      try simp only [Act.put, List.setIfInBounds_toArray, List.set_cons_zero, List.set_cons_succ]
      refine wpAnyH_done (by kernel_rfl) ?_ _
      have HFT := Aside0.mk ((HT5.out.far HO5.out (j := 0) (u := .int .u64 x0)).far (blk_set HO5.out 0 (.int .u64 x0)) (j := 1) (u := .int .i64 x1))
      have HBS := Aside0.mk ((HB5.out.setCell (p := ⟨w.heap.size, 0, none⟩) (Nat.le_refl _) (.int .u64 x0)).setCell (p := ⟨w.heap.size, 1, none⟩) (Nat.le_refl _) (.int .i64 x1))
      have m1 := blk_set (blk_set HO5.out 0 (.int .u64 x0)) 1 (.int .i64 x1)
      have m2 := blk_cell m1 0
      have m3 := blk_cell m1 1
      generalize (w5.setCell ⟨w.heap.size, 0, none⟩ (Value.int .u64 x0)).setCell ⟨w.heap.size, 1, none⟩ (Value.int .i64 x1) = wd at *
      go_wp2
      exact bodyPost_ret (v := .tuple #[.agg #[.int .u64 x0, .int .i64 x1], .pointer p5]) (by simp [results, Try.results57, go_sem, m2, m3]) rfl ⟨⟨p5, by rw [HLEQ.out], by rw [HLEQ.out]; exact HFT.out⟩, HBS.out⟩
end Go.Proofs.Ytjfbiabgeickjaa.H
/-! ### Tree5 -/
namespace Go.Proofs.Ytjfbiabgeickjaa.H
open Go.RowKit Go.Proofs.Ytjfbiabgeickjaa.P Go.Proofs.YtjfbiabgeickjaaW.PrintWords Go.Proofs.YtjfbiabgeickjaaW.PrintLast Go.Proofs.YtjfbiabgeickjaaW.PrintMore
set_option linter.unusedVariables false
set_option linter.unusedSimpArgs false
def hasT (k : Int) : T → Bool
  | .leaf => false
  | .node l k1 _ r => if k < k1 then hasT k l else if k > k1 then hasT k r else true
def withoutT (k : Int) : T → T
  | .leaf => .leaf
  | .node l k1 v1 r => if k < k1 then evenT (withoutT k l) k1 v1 r else if k > k1 then evenT l k1 v1 (withoutT k r) else
      match r with
      | .leaf => l
      | .node rl rk rv rr => evenT l (leastT (.node rl rk rv rr)).1.1 (leastT (.node rl rk rv rr)).1.2 (leastT (.node rl rk rv rr)).2
theorem sz_without (k : Int) : ∀ t : T, sz (withoutT k t) ≤ sz t
  | .leaf => Nat.le_refl _
  | .node l k1 v1 r => by
    have h1 := sz_without k l
    have h2 := sz_without k r
    unfold withoutT
    split
    · rw [sz_even]; simp only [sz]; omega
    · split
      · rw [sz_even]; simp only [sz]; omega
      · cases r with
        | leaf => simp only [sz]; omega
        | node rl rk rv rr =>
          have h3 := sz_least (.node rl rk rv rr)
          simp only []
          rw [sz_even]
          simp only [sz] at h3 ⊢
          omega
set_option maxRecDepth 20000 in
set_option maxHeartbeats 4000000 in
theorem without_any (k : Int) (t : T) : ∀ (p : Option Addr) (w : World), TreeAt w p t → sz t ≤ 40000 → hasT k t = true →
    Calls Try.prog 55 #[.pointer p, .int .u64 k] w fun e w' => (∃ q, e = .returned (.pointer q) ∧ TreeAt w' q (withoutT k t)) ∧ Below w.heap.size w w' := by
  induction t with
  | leaf =>
    intro p w h hs hh
    cases hh
  | node l k1 v1 r ihl ihr =>
    intro p w h hs hh
    obtain ⟨g, pl, pr, rfl, hg, hl, hr⟩ := h
    have HG0 := Aside0.mk hg
    have HL0 := Aside0.mk hl
    have HR0 := Aside0.mk hr
    have HSZ := Aside0.mk (show sz l + sz r + 1 ≤ 40000 by simp only [sz] at hs; omega)
    have IHL := Aside0.mk ihl
    have IHR := Aside0.mk ihr
    have HZL := Aside0.mk (sz_without k l)
    have HZR := Aside0.mk (sz_without k r)
    have hN : w.cell? ⟨g, 0, none⟩ = some (.int .u64 k1) ∧ w.cell? ⟨g, 1, none⟩ = some (.int .i64 v1) ∧ w.cell? ⟨g, 2, none⟩ = some (.pointer pl) ∧ w.cell? ⟨g, 3, none⟩ = some (.pointer pr) := node_cells hg
    have HLD := Aside0.mk (hl.below (below_drew (Below.refl _ w)))
    have HRD := Aside0.mk (hr.below (below_drew (Below.refl _ w)))
    have HBD := Aside0.mk (below_drew (Below.refl w.heap.size w))
    have hh' := hh
    unfold hasT at hh'
    have HH := Aside0.mk hh'
    have d0 := hN.1
    have d3 := hN.2.2.2
    have d2 := hN.2.2.1
    clear hg hl hr hs ihl ihr hh hh'
    go_enter Try.func55, Try.ntmps55
    by_cases c1 : k < k1
    · have HHL := Aside0.mk (show hasT k l = true from by have := HH.out; rwa [if_pos c1] at this)
      have HEV := Aside0.mk (show withoutT k (.node l k1 v1 r) = evenT (withoutT k l) k1 v1 r from by conv => lhs; unfold withoutT; rw [if_pos c1])
      go_wp2_with fail
      refine wp_region_held_drew (S := (fun w' => w'.cell? ⟨g, 0, none⟩ = some (.int .u64 k1) ∧ w'.cell? ⟨g, 1, none⟩ = some (.int .i64 v1) ∧ w'.cell? ⟨g, 2, none⟩ = some (.pointer pl) ∧ w'.cell? ⟨g, 3, none⟩ = some (.pointer pr))) (by kernel_rfl) ?hSa0 (fun hHeld => ?_)
      case hSa0 => first | assumption | go_keep
      refine held_take 0 (some 15) (v := ?va0) rfl rfl (by kernel_rfl) (by kernel_rfl) (by kernel_rfl) (fun _ _ _ h => h) (by rfl) ?ya0 (by assumption) ?_
      case ya0 => ((intro w hSw); (try dsimp only at hSw); go_simp <;> (with_reducible rfl))
      try simp only [Act.put, List.setIfInBounds_toArray, List.set_cons_zero, List.set_cons_succ]
      refine held_take 1 (some 16) (v := ?va1) rfl rfl (by kernel_rfl) (by kernel_rfl) (by kernel_rfl) (fun _ _ _ h => h) (by rfl) ?ya1 (by assumption) ?_
      case ya1 => ((intro w hSw); (try dsimp only at hSw); go_simp <;> (with_reducible rfl))
      try simp only [Act.put, List.setIfInBounds_toArray, List.set_cons_zero, List.set_cons_succ]
      refine held_take 2 (some 17) (v := ?va2) rfl rfl (by kernel_rfl) (by kernel_rfl) (by kernel_rfl) (fun _ _ _ h => h) (by rfl) ?ya2 (by assumption) ?_
      case ya2 => ((intro w hSw); (try dsimp only at hSw); go_simp <;> (with_reducible rfl))
      try simp only [Act.put, List.setIfInBounds_toArray, List.set_cons_zero, List.set_cons_succ]
      refine held_take 3 (some 18) (v := ?va3) rfl rfl (by kernel_rfl) (by kernel_rfl) (by kernel_rfl) (fun _ _ _ h => h) (by rfl) ?ya3 (by assumption) ?_
      case ya3 => ((intro w hSw); (try dsimp only at hSw); go_simp <;> (with_reducible rfl))
      try simp only [Act.put, List.setIfInBounds_toArray, List.set_cons_zero, List.set_cons_succ]
      refine held_take 4 (some 19) (v := ?va4) rfl rfl (by kernel_rfl) (by kernel_rfl) (by kernel_rfl) (fun _ _ _ h => h) (by rfl) ?ya4 (by assumption) ?_
      case ya4 => ((intro w hSw); (try dsimp only at hSw); go_simp <;> (with_reducible rfl))
      try simp only [Act.put, List.setIfInBounds_toArray, List.set_cons_zero, List.set_cons_succ]
      refine held_take 6 (some 21) (v := ?va6) rfl rfl (by kernel_rfl) (by kernel_rfl) (by kernel_rfl) (fun _ _ _ h => h) (by rfl) ?ya6 (by assumption) ?_
      case ya6 => ((intro w hSw); (try dsimp only at hSw); go_simp <;> (with_reducible rfl))
      try simp only [Act.put, List.setIfInBounds_toArray, List.set_cons_zero, List.set_cons_succ]
      refine held_take 7 (some 22) (v := ?va7) rfl rfl (by kernel_rfl) (by kernel_rfl) (by kernel_rfl) (fun _ _ _ h => h) (by rfl) ?ya7 (by assumption) ?_
      case ya7 => ((intro w hSw); (try dsimp only at hSw); go_simp <;> (with_reducible rfl))
      try simp only [Act.put, List.setIfInBounds_toArray, List.set_cons_zero, List.set_cons_succ]
      refine held_take 8 (some 23) (v := ?va8) rfl rfl (by kernel_rfl) (by kernel_rfl) (by kernel_rfl) (fun _ _ _ h => h) (by rfl) ?ya8 (by assumption) ?_
      case ya8 => ((intro w hSw); (try dsimp only at hSw); go_simp <;> (with_reducible rfl))
      try simp only [Act.put, List.setIfInBounds_toArray, List.set_cons_zero, List.set_cons_succ]
      refine held_take 9 (some 24) (v := ?va9) rfl rfl (by kernel_rfl) (by kernel_rfl) (by kernel_rfl) (fun _ _ _ h => h) (by rfl) ?ya9 (by assumption) ?_
      case ya9 => ((intro w hSw); (try dsimp only at hSw); go_simp <;> (with_reducible rfl))
      try simp only [Act.put, List.setIfInBounds_toArray, List.set_cons_zero, List.set_cons_succ]
      refine held_take 10 (some 25) (v := ?va10) rfl rfl (by kernel_rfl) (by kernel_rfl) (by kernel_rfl) (fun _ _ _ h => h) (by rfl) ?ya10 (by assumption) ?_
      case ya10 => ((intro w hSw); (try dsimp only at hSw); go_simp <;> (with_reducible rfl))
      try simp only [Act.put, List.setIfInBounds_toArray, List.set_cons_zero, List.set_cons_succ]
      refine held_take 11 (some 26) (v := ?va11) rfl rfl (by kernel_rfl) (by kernel_rfl) (by kernel_rfl) (fun _ _ _ h => h) (by rfl) ?ya11 (by assumption) ?_
      case ya11 => ((intro w hSw); (try dsimp only at hSw); go_simp <;> (with_reducible rfl))
      try simp only [Act.put, List.setIfInBounds_toArray, List.set_cons_zero, List.set_cons_succ]
      refine held_take 12 (some 27) (v := ?va12) rfl rfl (by kernel_rfl) (by kernel_rfl) (by kernel_rfl) (fun _ _ _ h => h) (by rfl) ?ya12 (by assumption) ?_
      case ya12 => ((intro w hSw); (try dsimp only at hSw); go_simp <;> (with_reducible rfl))
      try simp only [Act.put, List.setIfInBounds_toArray, List.set_cons_zero, List.set_cons_succ]
      refine held_take 13 (some 28) (v := ?va13) rfl rfl (by kernel_rfl) (by kernel_rfl) (by kernel_rfl) (fun _ _ _ h => h) (by rfl) ?ya13 (by assumption) ?_
      case ya13 => ((intro w hSw); (try dsimp only at hSw); go_simp <;> (with_reducible rfl))
      try simp only [Act.put, List.setIfInBounds_toArray, List.set_cons_zero, List.set_cons_succ]
      refine wpAnyH_ready (rs := [5]) (by kernel_rfl) (by simp) ?_
      refine AllReadyH.cons rfl (fun K hK => ?_) AllReadyH.nil
      go_simp
      refine (IHL.out pl _ HLD.out (by have := HSZ.out; omega) HHL.out).mono ?_
      rintro e w4 ⟨⟨p4, rfl, ht4⟩, hb4⟩
      have K4 := cells4_below (by assumption) hb4
      have HT4 := Aside0.mk ht4
      have HR4 := Aside0.mk (HRD.out.below hb4)
      have HB4 := Aside0.mk (HBD.out.trans (hb4.mono HBD.out.size))
      clear ht4 hb4
      refine hK.out _ _ ?hSa6 (fun hHeld => ?_)
      case hSa6 => first | assumption | go_keep
      clear hK K
      try simp only [Act.put, List.setIfInBounds_toArray, List.set_cons_zero, List.set_cons_succ]
      refine wpAnyH_ready (rs := [14]) (by kernel_rfl) (by simp) ?_
      refine AllReadyH.cons rfl (fun K hK => ?_) AllReadyH.nil
      go_simp
      refine (even_any p4 (withoutT k l) k1 v1 pr r _ HT4.out HR4.out (by have := HSZ.out; have := HZL.out; omega)).mono ?_
      rintro e w5 ⟨⟨p5, rfl, ht5⟩, hb5⟩
      have K5 := cells4_below (by assumption) hb5
      have HT5 := Aside0.mk ht5
      have HB5 := Aside0.mk (HB4.out.trans (hb5.mono HB4.out.size))
      clear ht5 hb5
      refine hK.out _ _ ?hSa15 (fun hHeld => ?_)
      case hSa15 => first | assumption | go_keep
      clear hK K
      try simp only [Act.put, List.setIfInBounds_toArray, List.set_cons_zero, List.set_cons_succ]
      refine held_take 15 (some 4) (v := ?va15) rfl rfl (by kernel_rfl) (by kernel_rfl) (by kernel_rfl) (fun _ _ _ h => h) (by rfl) ?ya15 (by assumption) ?_
      case ya15 => ((intro w hSw); (try dsimp only at hSw); go_simp <;> (with_reducible rfl))
      try simp only [Act.put, List.setIfInBounds_toArray, List.set_cons_zero, List.set_cons_succ]
      refine wpAnyH_done (by kernel_rfl) ?_ _
      go_wp2
      go_ret
      exact ⟨⟨_, rfl, by rw [HEV.out]; exact HT5.out⟩, HB5.out⟩
    · by_cases c2 : k1 < k
      · have HHR := Aside0.mk (show hasT k r = true from by have := HH.out; rwa [if_neg c1, if_pos (show k > k1 from c2)] at this)
        have HEV := Aside0.mk (show withoutT k (.node l k1 v1 r) = evenT l k1 v1 (withoutT k r) from by conv => lhs; unfold withoutT; rw [if_neg c1, if_pos (show k > k1 from c2)])
        go_wp2_with fail
        refine wp_region_held_drew (S := (fun w' => w'.cell? ⟨g, 0, none⟩ = some (.int .u64 k1) ∧ w'.cell? ⟨g, 1, none⟩ = some (.int .i64 v1) ∧ w'.cell? ⟨g, 2, none⟩ = some (.pointer pl) ∧ w'.cell? ⟨g, 3, none⟩ = some (.pointer pr))) (by kernel_rfl) ?hSb0 (fun hHeld => ?_)
        case hSb0 => first | assumption | go_keep
        refine held_take 0 (some 38) (v := ?vb0) rfl rfl (by kernel_rfl) (by kernel_rfl) (by kernel_rfl) (fun _ _ _ h => h) (by rfl) ?yb0 (by assumption) ?_
        case yb0 => ((intro w hSw); (try dsimp only at hSw); go_simp <;> (with_reducible rfl))
        try simp only [Act.put, List.setIfInBounds_toArray, List.set_cons_zero, List.set_cons_succ]
        refine held_take 1 (some 39) (v := ?vb1) rfl rfl (by kernel_rfl) (by kernel_rfl) (by kernel_rfl) (fun _ _ _ h => h) (by rfl) ?yb1 (by assumption) ?_
        case yb1 => ((intro w hSw); (try dsimp only at hSw); go_simp <;> (with_reducible rfl))
        try simp only [Act.put, List.setIfInBounds_toArray, List.set_cons_zero, List.set_cons_succ]
        refine held_take 2 (some 40) (v := ?vb2) rfl rfl (by kernel_rfl) (by kernel_rfl) (by kernel_rfl) (fun _ _ _ h => h) (by rfl) ?yb2 (by assumption) ?_
        case yb2 => ((intro w hSw); (try dsimp only at hSw); go_simp <;> (with_reducible rfl))
        try simp only [Act.put, List.setIfInBounds_toArray, List.set_cons_zero, List.set_cons_succ]
        refine held_take 3 (some 41) (v := ?vb3) rfl rfl (by kernel_rfl) (by kernel_rfl) (by kernel_rfl) (fun _ _ _ h => h) (by rfl) ?yb3 (by assumption) ?_
        case yb3 => ((intro w hSw); (try dsimp only at hSw); go_simp <;> (with_reducible rfl))
        try simp only [Act.put, List.setIfInBounds_toArray, List.set_cons_zero, List.set_cons_succ]
        refine held_take 4 (some 42) (v := ?vb4) rfl rfl (by kernel_rfl) (by kernel_rfl) (by kernel_rfl) (fun _ _ _ h => h) (by rfl) ?yb4 (by assumption) ?_
        case yb4 => ((intro w hSw); (try dsimp only at hSw); go_simp <;> (with_reducible rfl))
        try simp only [Act.put, List.setIfInBounds_toArray, List.set_cons_zero, List.set_cons_succ]
        refine held_take 5 (some 43) (v := ?vb5) rfl rfl (by kernel_rfl) (by kernel_rfl) (by kernel_rfl) (fun _ _ _ h => h) (by rfl) ?yb5 (by assumption) ?_
        case yb5 => ((intro w hSw); (try dsimp only at hSw); go_simp <;> (with_reducible rfl))
        try simp only [Act.put, List.setIfInBounds_toArray, List.set_cons_zero, List.set_cons_succ]
        refine held_take 6 (some 44) (v := ?vb6) rfl rfl (by kernel_rfl) (by kernel_rfl) (by kernel_rfl) (fun _ _ _ h => h) (by rfl) ?yb6 (by assumption) ?_
        case yb6 => ((intro w hSw); (try dsimp only at hSw); go_simp <;> (with_reducible rfl))
        try simp only [Act.put, List.setIfInBounds_toArray, List.set_cons_zero, List.set_cons_succ]
        refine held_take 7 (some 45) (v := ?vb7) rfl rfl (by kernel_rfl) (by kernel_rfl) (by kernel_rfl) (fun _ _ _ h => h) (by rfl) ?yb7 (by assumption) ?_
        case yb7 => ((intro w hSw); (try dsimp only at hSw); go_simp <;> (with_reducible rfl))
        try simp only [Act.put, List.setIfInBounds_toArray, List.set_cons_zero, List.set_cons_succ]
        refine held_take 8 (some 46) (v := ?vb8) rfl rfl (by kernel_rfl) (by kernel_rfl) (by kernel_rfl) (fun _ _ _ h => h) (by rfl) ?yb8 (by assumption) ?_
        case yb8 => ((intro w hSw); (try dsimp only at hSw); go_simp <;> (with_reducible rfl))
        try simp only [Act.put, List.setIfInBounds_toArray, List.set_cons_zero, List.set_cons_succ]
        refine held_take 9 (some 47) (v := ?vb9) rfl rfl (by kernel_rfl) (by kernel_rfl) (by kernel_rfl) (fun _ _ _ h => h) (by rfl) ?yb9 (by assumption) ?_
        case yb9 => ((intro w hSw); (try dsimp only at hSw); go_simp <;> (with_reducible rfl))
        try simp only [Act.put, List.setIfInBounds_toArray, List.set_cons_zero, List.set_cons_succ]
        refine held_take 10 (some 48) (v := ?vb10) rfl rfl (by kernel_rfl) (by kernel_rfl) (by kernel_rfl) (fun _ _ _ h => h) (by rfl) ?yb10 (by assumption) ?_
        case yb10 => ((intro w hSw); (try dsimp only at hSw); go_simp <;> (with_reducible rfl))
        try simp only [Act.put, List.setIfInBounds_toArray, List.set_cons_zero, List.set_cons_succ]
        refine held_take 11 (some 49) (v := ?vb11) rfl rfl (by kernel_rfl) (by kernel_rfl) (by kernel_rfl) (fun _ _ _ h => h) (by rfl) ?yb11 (by assumption) ?_
        case yb11 => ((intro w hSw); (try dsimp only at hSw); go_simp <;> (with_reducible rfl))
        try simp only [Act.put, List.setIfInBounds_toArray, List.set_cons_zero, List.set_cons_succ]
        refine held_take 12 (some 50) (v := ?vb12) rfl rfl (by kernel_rfl) (by kernel_rfl) (by kernel_rfl) (fun _ _ _ h => h) (by rfl) ?yb12 (by assumption) ?_
        case yb12 => ((intro w hSw); (try dsimp only at hSw); go_simp <;> (with_reducible rfl))
        try simp only [Act.put, List.setIfInBounds_toArray, List.set_cons_zero, List.set_cons_succ]
        refine wpAnyH_ready (rs := [13]) (by kernel_rfl) (by simp) ?_
        refine AllReadyH.cons rfl (fun K hK => ?_) AllReadyH.nil
        go_simp
        refine (IHR.out pr _ HRD.out (by have := HSZ.out; omega) HHR.out).mono ?_
        rintro e w4 ⟨⟨p4, rfl, ht4⟩, hb4⟩
        have K4 := cells4_below (by assumption) hb4
        have HT4 := Aside0.mk ht4
        have HL4 := Aside0.mk (HLD.out.below hb4)
        have HB4 := Aside0.mk (HBD.out.trans (hb4.mono HBD.out.size))
        clear ht4 hb4
        refine hK.out _ _ ?hSb14 (fun hHeld => ?_)
        case hSb14 => first | assumption | go_keep
        clear hK K
        try simp only [Act.put, List.setIfInBounds_toArray, List.set_cons_zero, List.set_cons_succ]
        refine wpAnyH_ready (rs := [14]) (by kernel_rfl) (by simp) ?_
        refine AllReadyH.cons rfl (fun K hK => ?_) AllReadyH.nil
        go_simp
        refine (even_any pl l k1 v1 p4 (withoutT k r) _ HL4.out HT4.out (by have := HSZ.out; have := HZR.out; omega)).mono ?_
        rintro e w5 ⟨⟨p5, rfl, ht5⟩, hb5⟩
        have K5 := cells4_below (by assumption) hb5
        have HT5 := Aside0.mk ht5
        have HB5 := Aside0.mk (HB4.out.trans (hb5.mono HB4.out.size))
        clear ht5 hb5
        refine hK.out _ _ ?hSb15 (fun hHeld => ?_)
        case hSb15 => first | assumption | go_keep
        clear hK K
        try simp only [Act.put, List.setIfInBounds_toArray, List.set_cons_zero, List.set_cons_succ]
        refine held_take 15 (some 4) (v := ?vb15) rfl rfl (by kernel_rfl) (by kernel_rfl) (by kernel_rfl) (fun _ _ _ h => h) (by rfl) ?yb15 (by assumption) ?_
        case yb15 => ((intro w hSw); (try dsimp only at hSw); go_simp <;> (with_reducible rfl))
        try simp only [Act.put, List.setIfInBounds_toArray, List.set_cons_zero, List.set_cons_succ]
        refine wpAnyH_done (by kernel_rfl) ?_ _
        go_wp2
        go_ret
        exact ⟨⟨_, rfl, by rw [HEV.out]; exact HT5.out⟩, HB5.out⟩
      · cases r with
        | leaf =>
          obtain rfl : pr = none := HR0.out
          have HEV := Aside0.mk (show withoutT k (.node l k1 v1 .leaf) = l from by unfold withoutT; rw [if_neg c1, if_neg (show ¬ k > k1 from c2)])
          go_wp2_with fail
          go_ret
          exact ⟨⟨_, rfl, by rw [HEV.out]; exact HL0.out⟩, Below.refl _ _⟩
        | node rl rk rv rr =>
          obtain ⟨gr, prl, prr, rfl, _, _, _⟩ := id HR0.out
          have HEV := Aside0.mk (show withoutT k (.node l k1 v1 (.node rl rk rv rr)) = evenT l (leastT (.node rl rk rv rr)).1.1 (leastT (.node rl rk rv rr)).1.2 (leastT (.node rl rk rv rr)).2 from by unfold withoutT; rw [if_neg c1, if_neg (show ¬ k > k1 from c2)])
          have HZ := Aside0.mk (sz_least (.node rl rk rv rr))
          have HLE := Aside0.mk (least_any (.node rl rk rv rr) rl rk rv rr rfl _ w HR0.out (by have := HSZ.out; omega))
          generalize withoutT k (.node l k1 v1 (.node rl rk rv rr)) = res at *
          generalize T.node rl rk rv rr = r at *
          generalize leastT r = lres at *
          obtain ⟨⟨x0, x1⟩, lt⟩ := lres
          simp only [] at HEV HZ HLE
          go_wp2_with fail
          refine HLE.out.mono ?_
          rintro e w1 ⟨⟨q1, rfl, hq1⟩, hb1⟩
          have HB1 := Aside0.mk hb1
          have HG1 := Aside0.mk (blk_below HG0.out hb1)
          have HL1 := Aside0.mk (HL0.out.below hb1)
          have HQ1 := Aside0.mk hq1
          clear hq1 hb1 hN HLD HRD HBD d0 d3 d2 HG0 HL0 HR0
          go_wp2_with fail
          generalize hbx2 : (w1.alloc (.cells #[.int .u64 x0, .int .i64 x1] 66)) = w2 at *
          have hb2 : Below w1.heap.size w1 w2 := by rw [← hbx2]; exact (Below.refl w1.heap.size w1).alloc (Nat.le_refl _) _
          have HX2 := Aside0.mk (show w2.heap[w1.heap.size]? = some (.cells #[.int .u64 x0, .int .i64 x1] 66 (0, 0)) from by rw [← hbx2]; exact blk_new w1 _)
          have HB2 := Aside0.mk (HB1.out.trans (hb2.mono HB1.out.size))
          have HG2 := Aside0.mk (blk_below HG1.out hb2)
          have HLD := Aside0.mk ((HL1.out.below hb2).below (below_drew (Below.refl _ w2)))
          have HQD := Aside0.mk ((HQ1.out.below hb2).below (below_drew (Below.refl _ w2)))
          have HBD := Aside0.mk (HB2.out.trans ((below_drew (Below.refl _ w2)).mono HB2.out.size))
          clear hb2 hbx2 HB1 HG1 HL1 HQ1
          have hN : w2.cell? ⟨g, 0, none⟩ = some (.int .u64 k1) ∧ w2.cell? ⟨g, 1, none⟩ = some (.int .i64 v1) ∧ w2.cell? ⟨g, 2, none⟩ = some (.pointer pl) ∧ w2.cell? ⟨g, 3, none⟩ = some (.pointer (some ⟨gr, 0, none⟩)) ∧ w2.cell? ⟨w1.heap.size, 0, none⟩ = some (.int .u64 x0) ∧ w2.cell? ⟨w1.heap.size, 1, none⟩ = some (.int .i64 x1) :=
            ⟨(node_cells HG2.out).1, (node_cells HG2.out).2.1, (node_cells HG2.out).2.2.1, (node_cells HG2.out).2.2.2, blk_cell HX2.out 0, blk_cell HX2.out 1⟩
          refine wp_region_held_drew (S := (fun w' => w'.cell? ⟨g, 0, none⟩ = some (.int .u64 k1) ∧ w'.cell? ⟨g, 1, none⟩ = some (.int .i64 v1) ∧ w'.cell? ⟨g, 2, none⟩ = some (.pointer pl) ∧ w'.cell? ⟨g, 3, none⟩ = some (.pointer (some ⟨gr, 0, none⟩)) ∧ w'.cell? ⟨w1.heap.size, 0, none⟩ = some (.int .u64 x0) ∧ w'.cell? ⟨w1.heap.size, 1, none⟩ = some (.int .i64 x1))) (by kernel_rfl) ?hSc0 (fun hHeld => ?_)
          case hSc0 => first | assumption | go_keep
          refine held_take 0 (some 71) (v := ?vc0) rfl rfl (by kernel_rfl) (by kernel_rfl) (by kernel_rfl) (fun _ _ _ h => h) (by rfl) ?yc0 (by assumption) ?_
          case yc0 => ((intro w hSw); (try dsimp only at hSw); go_simp <;> (with_reducible rfl))
          try simp only [Act.put, List.setIfInBounds_toArray, List.set_cons_zero, List.set_cons_succ]
          refine held_take 1 (some 72) (v := ?vc1) rfl rfl (by kernel_rfl) (by kernel_rfl) (by kernel_rfl) (fun _ _ _ h => h) (by rfl) ?yc1 (by assumption) ?_
          case yc1 => ((intro w hSw); (try dsimp only at hSw); go_simp <;> (with_reducible rfl))
          try simp only [Act.put, List.setIfInBounds_toArray, List.set_cons_zero, List.set_cons_succ]
          refine held_take 2 (some 73) (v := ?vc2) rfl rfl (by kernel_rfl) (by kernel_rfl) (by kernel_rfl) (fun _ _ _ h => h) (by rfl) ?yc2 (by assumption) ?_
          case yc2 => ((intro w hSw); (try dsimp only at hSw); go_simp <;> (with_reducible rfl))
          try simp only [Act.put, List.setIfInBounds_toArray, List.set_cons_zero, List.set_cons_succ]
          refine held_take 3 (some 74) (v := ?vc3) rfl rfl (by kernel_rfl) (by kernel_rfl) (by kernel_rfl) (fun _ _ _ h => h) (by rfl) ?yc3 (by assumption) ?_
          case yc3 => ((intro w hSw); (try dsimp only at hSw); go_simp <;> (with_reducible rfl))
          try simp only [Act.put, List.setIfInBounds_toArray, List.set_cons_zero, List.set_cons_succ]
          refine held_take 4 (some 75) (v := ?vc4) rfl rfl (by kernel_rfl) (by kernel_rfl) (by kernel_rfl) (fun _ _ _ h => h) (by rfl) ?yc4 (by assumption) ?_
          case yc4 => ((intro w hSw); (try dsimp only at hSw); go_simp <;> (with_reducible rfl))
          try simp only [Act.put, List.setIfInBounds_toArray, List.set_cons_zero, List.set_cons_succ]
          refine held_take 5 (some 76) (v := ?vc5) rfl rfl (by kernel_rfl) (by kernel_rfl) (by kernel_rfl) (fun _ _ _ h => h) (by rfl) ?yc5 (by assumption) ?_
          case yc5 => ((intro w hSw); (try dsimp only at hSw); go_simp <;> (with_reducible rfl))
          try simp only [Act.put, List.setIfInBounds_toArray, List.set_cons_zero, List.set_cons_succ]
          refine wpAnyH_ready (rs := [6]) (by kernel_rfl) (by simp) ?_
          refine AllReadyH.cons rfl (fun K hK => ?_) AllReadyH.nil
          go_simp
          refine (even_any pl l x0 x1 q1 lt _ HLD.out HQD.out (by have := HSZ.out; have := HZ.out; omega)).mono ?_
          rintro e w5 ⟨⟨p5, rfl, ht5⟩, hb5⟩
          have K5 := cells6_below (by assumption) hb5
          have HT5 := Aside0.mk ht5
          have HB5 := Aside0.mk (HBD.out.trans (hb5.mono HBD.out.size))
          clear ht5 hb5
          refine hK.out _ _ ?hSc7 (fun hHeld => ?_)
          case hSc7 => first | assumption | go_keep
          clear hK K
          try simp only [Act.put, List.setIfInBounds_toArray, List.set_cons_zero, List.set_cons_succ]
          refine held_take 7 (some 4) (v := ?vc7) rfl rfl (by kernel_rfl) (by kernel_rfl) (by kernel_rfl) (fun _ _ _ h => h) (by rfl) ?yc7 (by assumption) ?_
          case yc7 => ((intro w hSw); (try dsimp only at hSw); go_simp <;> (with_reducible rfl))
          try simp only [Act.put, List.setIfInBounds_toArray, List.set_cons_zero, List.set_cons_succ]
          refine wpAnyH_done (by kernel_rfl) ?_ _
          go_wp2
          go_ret
          exact ⟨⟨_, rfl, by rw [HEV.out]; exact HT5.out⟩, HB5.out⟩
end Go.Proofs.Ytjfbiabgeickjaa.H
/-! ### Tree6 -/
namespace Go.Proofs.Ytjfbiabgeickjaa.H
open Go.RowKit Go.Proofs.Ytjfbiabgeickjaa.P Go.Proofs.YtjfbiabgeickjaaW.PrintWords Go.Proofs.YtjfbiabgeickjaaW.PrintLast Go.Proofs.YtjfbiabgeickjaaW.PrintMore
set_option linter.unusedVariables false
set_option linter.unusedSimpArgs false
/-- A tree, by its pointer. -/
def RootAt (W : World) (P : Option Addr) (t : T) : Prop := (P = none ∧ t = .leaf) ∨ ∃ g p, P = some ⟨g, 0, none⟩ ∧ W.heap[g]? = some (.cells #[.pointer p] 84 (0, 0)) ∧ TreeAt W p t
theorem RootAt.below {W W' : World} {P : Option Addr} {t : T} (h : RootAt W P t) (hb : Below W.heap.size W W') : RootAt W' P t := by
  rcases h with h | ⟨g, p, h1, h2, h3⟩
  · exact .inl h
  · exact .inr ⟨g, p, h1, blk_below h2 hb, h3.below hb⟩
theorem new_any (w : World) : Calls Try.prog 26 #[] w fun e w' => (∃ g, e = .returned (.pointer (some ⟨g, 0, none⟩)) ∧ RootAt w' (some ⟨g, 0, none⟩) .leaf) ∧ Below w.heap.size w w' := by
  go_enter Try.func26, Try.ntmps26
  go_wp2_with fail
  go_ret
  exact ⟨⟨_, rfl, .inr ⟨_, none, rfl, blk_new w _, rfl⟩⟩, (Below.refl w.heap.size w).alloc (Nat.le_refl _) _⟩
theorem top_any (P : Option Addr) (t : T) (w : World) (h : RootAt w P t) :
    Calls Try.prog 41 #[.pointer P] w fun e w' => (∃ p, e = .returned (.pointer p) ∧ TreeAt w p t) ∧ w' = w := by
  rcases h with ⟨rfl, rfl⟩ | ⟨g, p, rfl, hg, ht⟩
  · go_enter Try.func41, Try.ntmps41
    go_wp2_with fail
    go_ret
    exact ⟨⟨none, rfl, rfl⟩, rfl⟩
  · have c0 := blk_cell hg 0
    have HT := Aside0.mk ht
    clear hg ht
    go_enter Try.func41, Try.ntmps41
    go_wp2_with fail
    go_ret
    exact ⟨⟨p, rfl, HT.out⟩, rfl⟩
theorem len_any (P : Option Addr) (t : T) (w : World) (h : RootAt w P t) :
    Calls Try.prog 30 #[.pointer P] w fun e w' => e = .returned (.int .i64 (sz t : Nat)) ∧ w' = w := by
  have hc := top_any P t w h
  clear h
  go_enter Try.func30, Try.ntmps30
  go_wp2_with fail
  refine hc.mono ?_
  rintro e w' ⟨⟨p, rfl, ht⟩, rfl⟩
  have HT := Aside0.mk ht
  clear ht hc
  go_wp2_with fail
  refine (size_any p t _ HT.out).mono ?_
  rintro e w' ⟨rfl, rfl⟩
  go_wp2_with fail
  go_ret
  exact ⟨rfl, rfl⟩
/-- What a key has. -/
def getT (k : Int) : T → Option Int
  | .leaf => none
  | .node l k1 v1 r => if k < k1 then getT k l else if k > k1 then getT k r else some v1
theorem get_has (k : Int) : ∀ t : T, (getT k t).isSome = hasT k t
  | .leaf => rfl
  | .node l k1 v1 r => by
    unfold getT hasT
    split
    · exact get_has k l
    · split
      · exact get_has k r
      · rfl
set_option maxHeartbeats 1600000 in
theorem get_any (P : Option Addr) (k : Int) (t : T) (w : World) (h : RootAt w P t) :
    Calls Try.prog 32 #[.pointer P, .int .u64 k] w fun e w' => e = .returned (.tuple #[.int .i64 ((getT k t).getD 0), .bool (getT k t).isSome]) ∧ w' = w := by
  have hc := top_any P t w h
  clear h
  generalize hres : getT k t = res at *
  have HRES := Aside0.mk hres
  clear hres
  go_enter Try.func32, Try.ntmps32
  go_wp2_with fail
  refine hc.mono ?_
  rintro e w' ⟨⟨p, rfl, ht⟩, rfl⟩
  have HT := Aside0.mk ht
  clear ht hc
  go_wp2_with fail
  go_loopg [7] (sz t) (fun gg s7 wr => ∃ (p1 : Option Addr) (t1 : T), s7 = .pointer p1 ∧ Aside0 (TreeAt w' p1 t1) ∧ Aside0 (sz t1 ≤ gg) ∧ Aside0 (getT k t1 = res) ∧ wr = w')
  case atStart => exact ⟨p, t, rfl, HT, ⟨Nat.le_refl _⟩, HRES, rfl⟩
  case round =>
    obtain ⟨p1, t1, rfl, HT1, HS1, HR1, rfl⟩ := hrel
    cases t1 with
    | leaf =>
      obtain rfl : p1 = none := HT1.out
      have HRE := Aside0.mk (show res = none from HR1.out.symm)
      go_wp2_with fail
      go_ret2
      exact ⟨by rw [HRE.out]; rfl, rfl⟩
    | node l k1 v1 r =>
      obtain ⟨g, pl, pr, rfl, hg, hl, hr⟩ := HT1.out
      have HL := Aside0.mk hl
      have HR := Aside0.mk hr
      have d0 := blk_cell hg 0
      have d1 := blk_cell hg 1
      have d2 := blk_cell hg 2
      have d3 := blk_cell hg 3
      clear hg hl hr
      by_cases c1 : k < k1
      · have HR2 := Aside0.mk (show getT k l = res from by have := HR1.out; rwa [getT, if_pos c1] at this)
        go_wp2_with fail
        go_roundg (sz l)
        case measure => have := HS1.out; simp only [sz] at this; omega
        case rel => exact ⟨pl, l, rfl, HL, ⟨Nat.le_refl _⟩, HR2, rfl⟩
      · by_cases c2 : k1 < k
        · have HR2 := Aside0.mk (show getT k r = res from by have := HR1.out; rwa [getT, if_neg c1, if_pos (show k > k1 from c2)] at this)
          go_wp2_with fail
          go_roundg (sz r)
          case measure => have := HS1.out; simp only [sz] at this; omega
          case rel => exact ⟨pr, r, rfl, HR, ⟨Nat.le_refl _⟩, HR2, rfl⟩
        · have HR2 := Aside0.mk (show some v1 = res from by have := HR1.out; rwa [getT, if_neg c1, if_neg (show ¬ k > k1 from c2)] at this)
          go_wp2_with fail
          go_ret2
          exact ⟨by rw [← HR2.out]; rfl, rfl⟩
end Go.Proofs.Ytjfbiabgeickjaa.H
/-! ### Tree7 -/
namespace Go.Proofs.Ytjfbiabgeickjaa.H
open Go.RowKit Go.Proofs.Ytjfbiabgeickjaa.P Go.Proofs.YtjfbiabgeickjaaW.PrintWords Go.Proofs.YtjfbiabgeickjaaW.PrintLast Go.Proofs.YtjfbiabgeickjaaW.PrintMore
set_option linter.unusedVariables false
set_option linter.unusedSimpArgs false
/-- May no key more be laid? -/
def fullT (k : Int) (t : T) : Bool := !hasT k t && decide (1024 ≤ sz t)
/-- What Put, and Drop, hand back: a tree, or an error. -/
def PutAt (no : Bool) (code : Int) (t : T) (w : World) (e : Ending) (w' : World) : Prop :=
  ((no = true ∧ e = .returned (.tuple #[.pointer none, .int .i64 code])) ∨ (no = false ∧ ∃ g, e = .returned (.tuple #[.pointer (some ⟨g, 0, none⟩), .int .i64 0]) ∧ RootAt w' (some ⟨g, 0, none⟩) t)) ∧ Below w.heap.size w w'
set_option maxRecDepth 20000 in
set_option maxHeartbeats 1600000 in
theorem put_any (P : Option Addr) (k v : Int) (t : T) (w : World) (h : RootAt w P t) (hs : sz t ≤ 40000) :
    Calls Try.prog 27 #[.pointer P, .int .u64 k, .int .i64 v] w fun e w' => PutAt (fullT k t) 41 (withT k v t) w e w' := by
  have HG := Aside0.mk (get_any P k t w h)
  have HLN := Aside0.mk (len_any P t w h)
  have HTP := Aside0.mk (top_any P t w h)
  have HF := Aside0.mk (show fullT k t = (!(getT k t).isSome && decide (1024 ≤ sz t)) from by rw [get_has]; rfl)
  have HSZ := Aside0.mk hs
  clear h hs
  generalize hfu : fullT k t = fu at *
  have HFU := Aside0.mk hfu
  clear hfu
  go_enter Try.func27, Try.ntmps27
  go_wp2_with fail
  have hg := HG.out
  generalize (getT k t).getD 0 = gv at *
  cases hi : (getT k t).isSome with
  | true =>
    rw [hi] at hg
    have HNF := Aside0.mk (show fu = false from by rw [HF.out, hi]; rfl)
    clear hi
    refine hg.mono ?_
    rintro e w1 ⟨rfl, rfl⟩
    clear hg
    go_wp2_with fail
    refine HTP.out.mono ?_
    rintro e w2 ⟨⟨p, rfl, ht⟩, rfl⟩
    have HT := Aside0.mk ht
    clear ht
    go_wp2_with fail
    refine (with_any k v t p _ HT.out HSZ.out).mono ?_
    rintro e w3 ⟨⟨q, rfl, hq⟩, hb⟩
    have HQ := Aside0.mk hq
    have HB := Aside0.mk hb
    clear hq hb
    go_wp2_with fail
    go_ret2
    exact ⟨.inr ⟨HNF.out, w3.heap.size, rfl, .inr ⟨_, q, rfl, blk_new w3 _, HQ.out.below ((Below.refl w3.heap.size w3).alloc (Nat.le_refl _) _)⟩⟩, HB.out.alloc HB.out.size _⟩
  | false =>
    rw [hi] at hg
    refine hg.mono ?_
    rintro e w1 ⟨rfl, rfl⟩
    clear hg
    go_wp2_with fail
    refine HLN.out.mono ?_
    rintro e w2 ⟨rfl, rfl⟩
    have HSZ2 := Aside0.mk HSZ.out
    generalize hsz : sz t = n at HLN HF HSZ ⊢
    by_cases hz : 1024 ≤ n
    · have HNF := Aside0.mk (show fu = true from by rw [HF.out, hi, decide_eq_true hz]; rfl)
      have hz' : (1024 : Int) ≤ (n : Int) := by omega
      clear hi hz hsz
      go_wp2_with fail
      go_ret2
      exact ⟨.inl ⟨HNF.out, rfl⟩, Below.refl _ _⟩
    · have HNF := Aside0.mk (show fu = false from by rw [HF.out, hi, decide_eq_false hz]; rfl)
      have hz' : ¬ (1024 : Int) ≤ (n : Int) := by omega
      clear hi hz hsz
      go_wp2_with fail
      refine HTP.out.mono ?_
      rintro e w2 ⟨⟨p, rfl, ht⟩, rfl⟩
      have HT := Aside0.mk ht
      clear ht
      go_wp2_with fail
      refine (with_any k v t p _ HT.out HSZ2.out).mono ?_
      rintro e w3 ⟨⟨q, rfl, hq⟩, hb⟩
      have HQ := Aside0.mk hq
      have HB := Aside0.mk hb
      clear hq hb
      go_wp2_with fail
      go_ret2
      exact ⟨.inr ⟨HNF.out, w3.heap.size, rfl, .inr ⟨_, q, rfl, blk_new w3 _, HQ.out.below ((Below.refl w3.heap.size w3).alloc (Nat.le_refl _) _)⟩⟩, HB.out.alloc HB.out.size _⟩
set_option maxHeartbeats 1600000 in
theorem drop_any (P : Option Addr) (k : Int) (t : T) (w : World) (h : RootAt w P t) (hs : sz t ≤ 40000) :
    Calls Try.prog 50 #[.pointer P, .int .u64 k] w fun e w' => PutAt (!hasT k t) 42 (withoutT k t) w e w' := by
  have HG := Aside0.mk (get_any P k t w h)
  have HTP := Aside0.mk (top_any P t w h)
  have HF := Aside0.mk (get_has k t)
  have HSZ := Aside0.mk hs
  clear h hs
  go_enter Try.func50, Try.ntmps50
  go_wp2_with fail
  have hg := HG.out
  generalize (getT k t).getD 0 = gv at *
  cases hi : (getT k t).isSome with
  | true =>
    rw [hi] at hg
    have HH := Aside0.mk (show hasT k t = true from by rw [← HF.out]; exact hi)
    clear hi
    refine hg.mono ?_
    rintro e w1 ⟨rfl, rfl⟩
    clear hg
    go_wp2_with fail
    refine HTP.out.mono ?_
    rintro e w2 ⟨⟨p, rfl, ht⟩, rfl⟩
    have HT := Aside0.mk ht
    clear ht
    go_wp2_with fail
    refine (without_any k t p _ HT.out HSZ.out HH.out).mono ?_
    rintro e w3 ⟨⟨q, rfl, hq⟩, hb⟩
    have HQ := Aside0.mk hq
    have HB := Aside0.mk hb
    clear hq hb
    go_wp2_with fail
    go_ret2
    exact ⟨.inr ⟨by rw [HH.out]; rfl, w3.heap.size, rfl, .inr ⟨_, q, rfl, blk_new w3 _, HQ.out.below ((Below.refl w3.heap.size w3).alloc (Nat.le_refl _) _)⟩⟩, HB.out.alloc HB.out.size _⟩
  | false =>
    rw [hi] at hg
    have HH := Aside0.mk (show hasT k t = false from by rw [← HF.out]; exact hi)
    clear hi
    refine hg.mono ?_
    rintro e w1 ⟨rfl, rfl⟩
    clear hg
    go_wp2_with fail
    go_ret2
    exact ⟨.inl ⟨by rw [HH.out]; rfl, rfl⟩, Below.refl _ _⟩
end Go.Proofs.Ytjfbiabgeickjaa.H
/-! ### Tree8 -/
namespace Go.Proofs.Ytjfbiabgeickjaa.H
open Go.RowKit Go.Proofs.Ytjfbiabgeickjaa.P Go.Proofs.YtjfbiabgeickjaaW.PrintWords Go.Proofs.YtjfbiabgeickjaaW.PrintLast Go.Proofs.YtjfbiabgeickjaaW.PrintMore
set_option linter.unusedVariables false
set_option linter.unusedSimpArgs false
/-- A tree's pairs. -/
def toL : T → List (Int × Int)
  | .leaf => []
  | .node l k v r => toL l ++ (k, v) :: toL r
theorem toL_len : ∀ t : T, (toL t).length = sz t
  | .leaf => rfl
  | .node l k v r => by
    rw [toL, List.length_append, List.length_cons, toL_len l, toL_len r, sz]; omega
def belowT (k : Int) : T → Nat
  | .leaf => 0
  | .node l k1 _ r => if k1 < k then 1 + sz l + belowT k r else belowT k l
theorem below_le (k : Int) : ∀ t : T, belowT k t ≤ sz t
  | .leaf => Nat.le_refl _
  | .node l k1 v1 r => by
    have h1 := below_le k l
    have h2 := below_le k r
    unfold belowT
    split <;> simp only [sz] <;> omega
/-- The pair at a place. -/
def atT (t : T) (i : Int) : (Int × Int) × Bool := if 0 ≤ i ∧ i < sz t then ((toL t).getD i.toNat (0, 0), true) else ((0, 0), false)
theorem toL_lt (l : T) (k v : Int) (r : T) (j : Nat) (h : j < sz l) : (toL (.node l k v r)).getD j (0, 0) = (toL l).getD j (0, 0) := by
  rw [toL, List.getD_eq_getElem?_getD, List.getD_eq_getElem?_getD, List.getElem?_append_left (by rw [toL_len]; exact h)]
theorem toL_eq (l : T) (k v : Int) (r : T) : (toL (.node l k v r)).getD (sz l) (0, 0) = (k, v) := by
  rw [toL, List.getD_eq_getElem?_getD, List.getElem?_append_right (by rw [toL_len]; exact Nat.le_refl _), toL_len, Nat.sub_self]; rfl
theorem toL_gt (l : T) (k v : Int) (r : T) (j : Nat) (h : sz l < j) : (toL (.node l k v r)).getD j (0, 0) = (toL r).getD (j - (1 + sz l)) (0, 0) := by
  rw [toL, List.getD_eq_getElem?_getD, List.getD_eq_getElem?_getD, List.getElem?_append_right (by rw [toL_len]; omega), toL_len, show j - sz l = (j - (1 + sz l)) + 1 by omega, List.getElem?_cons_succ]
set_option maxRecDepth 20000 in
set_option maxHeartbeats 1600000 in
theorem at_any (P : Option Addr) (i : Int) (t : T) (w : World) (h : RootAt w P t) (hs : sz t ≤ 40000) :
    Calls Try.prog 31 #[.pointer P, .int .i64 i] w fun e w' => e = .returned (.tuple #[.agg #[.int .u64 (atT t i).1.1, .int .i64 (atT t i).1.2], .bool (atT t i).2]) ∧ Below w.heap.size w w' := by
  have HB0 := Aside0.mk ((Below.refl w.heap.size w).alloc (Nat.le_refl _) (.cells #[.int .u64 0, .int .i64 0] 66))
  have HX0 := Aside0.mk (blk_new w (.cells #[.int .u64 0, .int .i64 0] 66))
  have HH := Aside0.mk (h.below HB0.out)
  have HSZ := Aside0.mk hs
  have HAT := Aside0.mk (show atT t i = if 0 ≤ i ∧ i < sz t then ((toL t).getD i.toNat (0, 0), true) else ((0, 0), false) from rfl)
  clear h hs
  generalize atT t i = res at *
  obtain ⟨⟨x0, x1⟩, xb⟩ := res
  simp only []
  have hmn : (w.alloc (.cells #[.int .u64 0, .int .i64 0] 66)).heap.size = w.heap.size + 1 := by simp
  go_enter Try.func31, Try.ntmps31
  have hfin : ∀ (W : World) (_ : ((x0, x1), xb) = (((0 : Int), (0 : Int)), false)), True := fun _ _ => trivial
  clear hfin hmn
  by_cases c0 : i < 0
  · have HE := Aside0.mk (show ((x0, x1), xb) = (((0 : Int), (0 : Int)), false) from by rw [HAT.out, if_neg (by omega)])
    go_wp2_with fail
    generalize (w.alloc (.cells #[.int .u64 0, .int .i64 0] 66)) = w0 at *
    have m2 := blk_cell HX0.out 0
    have m3 := blk_cell HX0.out 1
    have he := HE.out
    injection he with he1 he2
    injection he1 with he3 he4
    subst he2; subst he3; subst he4
    exact bodyPost_ret (v := .tuple #[.agg #[.int .u64 0, .int .i64 0], .bool false]) (by simp [results, Try.results31, go_sem, m2, m3]) rfl ⟨rfl, HB0.out⟩
  · go_wp2_with fail
    generalize (w.alloc (.cells #[.int .u64 0, .int .i64 0] 66)) = w0 at *
    refine (len_any P t w0 HH.out).mono ?_
    rintro e w1 ⟨rfl, rfl⟩
    by_cases c1 : ((sz t : Nat) : Int) ≤ i
    · have HE := Aside0.mk (show ((x0, x1), xb) = (((0 : Int), (0 : Int)), false) from by rw [HAT.out, if_neg (by omega)])
      have k0 := blk_cell HX0.out 0
      have k2 := blk_cell HX0.out 1
      have f0 := blk_frozen HX0.out 0
      have f1 := blk_frozen HX0.out 1
      go_wp2_with fail
      have he := HE.out
      injection he with he1 he2
      injection he1 with he3 he4
      subst he2; subst he3; subst he4
      have m1 := blk_set (blk_set HX0.out 0 (.int .u64 0)) 1 (.int .i64 0)
      have m2 := blk_cell m1 0
      have m3 := blk_cell m1 1
      have HBS := Aside0.mk ((HB0.out.setCell (p := ⟨w.heap.size, 0, none⟩) (Nat.le_refl _) (.int .u64 0)).setCell (p := ⟨w.heap.size, 1, none⟩) (Nat.le_refl _) (.int .i64 0))
      exact bodyPost_ret (v := .tuple #[.agg #[.int .u64 0, .int .i64 0], .bool false]) (by simp [results, Try.results31, go_sem, m2, m3]) rfl ⟨rfl, HBS.out⟩
    · obtain ⟨j0, rfl⟩ : ∃ j0 : Nat, i = (j0 : Int) := ⟨i.toNat, by omega⟩
      have HJ := Aside0.mk (show j0 < sz t by omega)
      have HE := Aside0.mk (show ((toL t).getD j0 (0, 0) = (x0, x1)) ∧ xb = true from by
        have := HAT.out
        rw [if_pos (by omega), Int.toNat_natCast] at this
        injection this with h1 h2
        exact ⟨h1.symm, h2⟩)
      have hj0 : ¬ (j0 : Int) < 0 := by omega
      go_wp2_with fail
      refine (top_any P t w1 HH.out).mono ?_
      rintro e w2 ⟨⟨p, rfl, ht⟩, rfl⟩
      have HT := Aside0.mk ht
      clear ht c0 c1 hj0 HAT
      go_wp2_with fail
      go_loopg [1, 6] (sz t) (fun gg s1 s6 wr => ∃ (j : Nat) (p1 : Option Addr) (t1 : T), s1 = .int .i64 j ∧ s6 = .pointer p1 ∧ Aside0 (TreeAt w2 p1 t1) ∧ Aside0 (sz t1 ≤ gg) ∧ Aside0 (j < sz t1 ∧ sz t1 ≤ 40000 ∧ (toL t1).getD j (0, 0) = (x0, x1)) ∧ wr = w2)
      case atStart => exact ⟨j0, p, t, rfl, rfl, HT, ⟨Nat.le_refl _⟩, ⟨HJ.out, HSZ.out, HE.out.1⟩, rfl⟩
      case round =>
        obtain ⟨j, p1, t1, rfl, rfl, HT1, HS1, HR1, rfl⟩ := hrel
        cases t1 with
        | leaf => exact absurd HR1.out.1 (Nat.not_lt_zero _)
        | node l k1 v1 r =>
          obtain ⟨g, pl, pr, rfl, hg, hl, hr⟩ := HT1.out
          have HL := Aside0.mk hl
          have HR := Aside0.mk hr
          have d0 := blk_cell hg 0
          have d1 := blk_cell hg 1
          have d2 := blk_cell hg 2
          have d3 := blk_cell hg 3
          have hsz := size_any pl l wr HL.out
          have HJ1 := Aside0.mk (show j < 1 + sz l + sz r ∧ 1 + sz l + sz r ≤ 40000 from ⟨HR1.out.1, HR1.out.2.1⟩)
          clear hg hl hr
          by_cases c2 : j = sz l
          · have HE2 := Aside0.mk (show (k1, v1) = (x0, x1) from by rw [← HR1.out.2.2, c2, toL_eq])
            have k0 := blk_cell HX0.out 0
            have k2 := blk_cell HX0.out 1
            have f0 := blk_frozen HX0.out 0
            have f1 := blk_frozen HX0.out 1
            rw [← c2] at hsz
            clear c2
            go_wp2_with fail
            refine hsz.mono ?_
            rintro e w3 ⟨rfl, rfl⟩
            clear hsz
            go_wp2_with fail
            have he := HE2.out
            injection he with he1 he2
            subst he1; subst he2
            have m1 := blk_set (blk_set HX0.out 0 (.int .u64 k1)) 1 (.int .i64 v1)
            have m2 := blk_cell m1 0
            have m3 := blk_cell m1 1
            have HBS := Aside0.mk ((HB0.out.setCell (p := ⟨w.heap.size, 0, none⟩) (Nat.le_refl _) (.int .u64 k1)).setCell (p := ⟨w.heap.size, 1, none⟩) (Nat.le_refl _) (.int .i64 v1))
            have hxb := HE.out.2
            subst hxb
            exact bodyPost_ret (v := .tuple #[.agg #[.int .u64 k1, .int .i64 v1], .bool true]) (by simp [results, Try.results31, go_sem, m2, m3]) rfl ⟨rfl, HBS.out⟩
          · have hne : ((j : Int) == ((sz l : Nat) : Int)) = false := by rw [beq_eq_false_iff_ne]; omega
            by_cases c3 : j < sz l
            · have hlt : (j : Int) < ((sz l : Nat) : Int) := by omega
              have HR2 := Aside0.mk (show j < sz l ∧ sz l ≤ 40000 ∧ (toL l).getD j (0, 0) = (x0, x1) from ⟨c3, by have := HJ1.out; omega, by rw [← toL_lt l k1 v1 r j c3]; exact HR1.out.2.2⟩)
              generalize hsl : ((sz l : Nat) : Int) = S at *
              have HSL := Aside0.mk hsl
              clear hsl c2 c3
              go_wp2_with fail
              refine hsz.mono ?_
              rintro e w3 ⟨rfl, rfl⟩
              go_wp2_with fail
              refine hsz.mono ?_
              rintro e w3 ⟨rfl, rfl⟩
              go_wp2_with fail
              go_roundg (sz l)
              case measure => have := HS1.out; simp only [sz] at this; omega
              case rel => exact ⟨j, pl, l, rfl, rfl, HL, ⟨Nat.le_refl _⟩, HR2, rfl⟩
            · have hge : ¬ (j : Int) < ((sz l : Nat) : Int) := by omega
              have HR2 := Aside0.mk (show j - (1 + sz l) < sz r ∧ sz r ≤ 40000 ∧ (toL r).getD (j - (1 + sz l)) (0, 0) = (x0, x1) from ⟨by have := HJ1.out; omega, by have := HJ1.out; omega, by rw [← toL_gt l k1 v1 r j (by omega)]; exact HR1.out.2.2⟩)
              have w1 : IntKind.i64.wrap (1 + ((sz l : Nat) : Int)) = 1 + ((sz l : Nat) : Int) := by have := HJ1.out; rw [IntKind.wrap_i64]; omega
              have w2' : IntKind.i64.wrap ((j : Int) - (1 + ((sz l : Nat) : Int))) = ((j - (1 + sz l) : Nat) : Int) := by have := HJ1.out; rw [IntKind.wrap_i64]; omega
              generalize hsl : ((sz l : Nat) : Int) = S at *
              have HSL := Aside0.mk hsl
              clear hsl c2 c3
              go_wp2_with fail
              refine hsz.mono ?_
              rintro e w3 ⟨rfl, rfl⟩
              go_wp2_with fail
              refine hsz.mono ?_
              rintro e w3 ⟨rfl, rfl⟩
              go_wp2_with fail
              refine hsz.mono ?_
              rintro e w3 ⟨rfl, rfl⟩
              go_wp2_with fail
              go_roundg (sz r)
              case measure => have := HS1.out; simp only [sz] at this; omega
              case rel => exact ⟨j - (1 + sz l), pr, r, rfl, rfl, HR, ⟨Nat.le_refl _⟩, HR2, rfl⟩
end Go.Proofs.Ytjfbiabgeickjaa.H
/-! ### Atm1 -/
namespace Go.Proofs.Ytjfbiabgeickjaa.H
open Go.RowKit Go.Proofs.Ytjfbiabgeickjaa.P Go.Proofs.YtjfbiabgeickjaaW.PrintWords Go.Proofs.YtjfbiabgeickjaaW.PrintLast Go.Proofs.YtjfbiabgeickjaaW.PrintMore
set_option linter.unusedVariables false
set_option linter.unusedSimpArgs false
theorem put_ok (P : Option Addr) (k v : Int) (t : T) (w : World) (h : RootAt w P t) (hs : sz t ≤ 40000) (hf : fullT k t = false) :
    Calls Try.prog 27 #[.pointer P, .int .u64 k, .int .i64 v] w fun e w' => (∃ g, e = .returned (.tuple #[.pointer (some ⟨g, 0, none⟩), .int .i64 0]) ∧ RootAt w' (some ⟨g, 0, none⟩) (withT k v t)) ∧ Below w.heap.size w w' := by
  refine (put_any P k v t w h hs).mono ?_
  rintro e w' ⟨⟨h1, _⟩ | ⟨_, h2⟩, hb⟩
  · rw [hf] at h1; cases h1
  · exact ⟨h2, hb⟩
theorem drop_ok (P : Option Addr) (k : Int) (t : T) (w : World) (h : RootAt w P t) (hs : sz t ≤ 40000) (hf : hasT k t = true) :
    Calls Try.prog 50 #[.pointer P, .int .u64 k] w fun e w' => (∃ g, e = .returned (.tuple #[.pointer (some ⟨g, 0, none⟩), .int .i64 0]) ∧ RootAt w' (some ⟨g, 0, none⟩) (withoutT k t)) ∧ Below w.heap.size w w' := by
  refine (drop_any P k t w h hs).mono ?_
  rintro e w' ⟨⟨h1, _⟩ | ⟨_, h2⟩, hb⟩
  · rw [hf] at h1; cases h1
  · exact ⟨h2, hb⟩
/-- How many, by a tree. -/
def numT (k : Int) (t : T) : Int := (getT k t).getD 0
def moreT (k by_ : Int) (t : T) : T := if numT k t + by_ = 0 then withoutT k t else withT k (numT k t + by_) t
theorem more_any (P : Option Addr) (k by_ : Int) (t : T) (w : World) (h : RootAt w P t) (hs : sz t ≤ 40000) (hf : fullT k t = false) (hd : numT k t + by_ = 0 → hasT k t = true) (h1 : -100000 ≤ numT k t) (h2 : numT k t ≤ 100000) (h3 : -100 ≤ by_) (h4 : by_ ≤ 100) :
    Calls Try.prog 43 #[.pointer P, .int .u64 k, .int .i64 by_] w fun e w' => (∃ g, e = .returned (.pointer (some ⟨g, 0, none⟩)) ∧ RootAt w' (some ⟨g, 0, none⟩) (moreT k by_ t)) ∧ Below w.heap.size w w' := by
  have hg := get_any P k t w h
  have HD := Aside0.mk (fun (hh : hasT k t = true) => drop_ok P k t w h hs hh)
  have HP := Aside0.mk (put_ok P k (numT k t + by_) t w h hs hf)
  have HH := Aside0.mk hd
  have HM := Aside0.mk (show moreT k by_ t = if numT k t + by_ = 0 then withoutT k t else withT k (numT k t + by_) t from rfl)
  rw [show (getT k t).getD 0 = numT k t from rfl] at hg
  generalize numT k t = n at *
  generalize moreT k by_ t = t2 at *
  clear h hs hf hd
  by_cases h0 : n + by_ = 0
  · have hdd := HD.out (HH.out h0)
    have HM2 := Aside0.mk (show t2 = withoutT k t from by rw [HM.out, if_pos h0])
    go_enter Try.func43, Try.ntmps43
    go_wp2_with fail
    refine hg.mono ?_
    rintro e w1 ⟨rfl, rfl⟩
    clear hg
    go_wp2_with fail
    refine hdd.mono ?_
    rintro e w2 ⟨⟨g, rfl, hr⟩, hb⟩
    have HR := Aside0.mk hr
    have HB := Aside0.mk hb
    clear hdd hr hb
    go_wp2_with fail
    go_ret
    exact ⟨⟨g, rfl, by rw [HM2.out]; exact HR.out⟩, HB.out⟩
  · have HM2 := Aside0.mk (show t2 = withT k (n + by_) t from by rw [HM.out, if_neg h0])
    have hpp := HP.out
    go_enter Try.func43, Try.ntmps43
    go_wp2_with fail
    refine hg.mono ?_
    rintro e w1 ⟨rfl, rfl⟩
    clear hg
    go_wp2_with fail
    refine hpp.mono ?_
    rintro e w2 ⟨⟨g, rfl, hr⟩, hb⟩
    have HR := Aside0.mk hr
    have HB := Aside0.mk hb
    clear hpp hr hb
    go_wp2_with fail
    go_ret
    exact ⟨⟨g, rfl, by rw [HM2.out]; exact HR.out⟩, HB.out⟩
/-- A table: its bounds, its ranges, how many. -/
structure Tab where
  b : T
  r : T
  n : Int
def TabAtm (W : World) (P : Option Addr) (x : Tab) : Prop := ∃ g pb pr, P = some ⟨g, 0, none⟩ ∧ W.heap[g]? = some (.cells #[.pointer pb, .pointer pr, .int .i64 x.n] 63 (0, 0)) ∧ RootAt W pb x.b ∧ RootAt W pr x.r
theorem TabAtm.below {W W' : World} {P : Option Addr} {x : Tab} (h : TabAtm W P x) (hb : Below W.heap.size W W') : TabAtm W' P x := by
  obtain ⟨g, pb, pr, h1, h2, h3, h4⟩ := h
  exact ⟨g, pb, pr, h1, blk_below h2 hb, h3.below hb, h4.below hb⟩
def newTab : Tab := ⟨withT 0 1 .leaf, .leaf, 0⟩
theorem newTab_any (w : World) : Calls Try.prog 9 #[] w fun e w' => (∃ P, e = .returned (.pointer P) ∧ TabAtm w' P newTab) ∧ Below w.heap.size w w' := by
  go_enter Try.func9, Try.ntmps9
  go_wp2_with fail
  refine (new_any w).mono ?_
  rintro e w1 ⟨⟨g0, rfl, h0⟩, hb1⟩
  have HB1 := Aside0.mk hb1
  have hp := put_ok _ 0 1 .leaf w1 h0 (by decide) (by kernel_rfl)
  clear hb1 h0
  go_wp2_with fail
  refine hp.mono ?_
  rintro e w2 ⟨⟨g1, rfl, h1⟩, hb⟩
  have HB2 := Aside0.mk (HB1.out.trans (hb.mono HB1.out.size))
  have HR1 := Aside0.mk h1
  clear hp hb h1
  go_wp2_with fail
  refine (new_any w2).mono ?_
  rintro e w3 ⟨⟨g2, rfl, h2⟩, hb⟩
  have HB3 := Aside0.mk (HB2.out.trans (hb.mono HB2.out.size))
  have HR3 := Aside0.mk (HR1.out.below hb)
  have HQ3 := Aside0.mk h2
  clear hb h2
  go_wp2_with fail
  go_ret
  exact ⟨⟨_, rfl, _, _, _, rfl, blk_new w3 _, HR3.out.below ((Below.refl _ w3).alloc (Nat.le_refl _) _), HQ3.out.below ((Below.refl _ w3).alloc (Nat.le_refl _) _)⟩, HB3.out.alloc HB3.out.size _⟩
theorem own_some (P : Option Addr) (x : Tab) (w : World) (h : TabAtm w P x) : Calls Try.prog 28 #[.pointer P] w fun e w' => e = .returned (.pointer P) ∧ w' = w := by
  obtain ⟨g, pb, pr, rfl, _⟩ := h
  go_enter Try.func28, Try.ntmps28
  go_wp2_with fail
  go_ret
  exact ⟨rfl, rfl⟩
theorem own_none (w : World) : Calls Try.prog 28 #[.pointer none] w fun e w' => (∃ P, e = .returned (.pointer P) ∧ TabAtm w' P newTab) ∧ Below w.heap.size w w' := by
  go_enter Try.func28, Try.ntmps28
  go_wp2_with fail
  refine (newTab_any w).mono ?_
  rintro e w1 ⟨⟨P, rfl, h⟩, hb⟩
  have HP := Aside0.mk h
  have HB := Aside0.mk hb
  clear h hb
  go_wp2_with fail
  go_ret
  exact ⟨⟨_, rfl, HP.out⟩, HB.out⟩
end Go.Proofs.Ytjfbiabgeickjaa.H
/-! ### Tree10 -/
namespace Go.Proofs.Ytjfbiabgeickjaa.H
open Go.RowKit Go.Proofs.Ytjfbiabgeickjaa.P Go.Proofs.YtjfbiabgeickjaaW.PrintWords Go.Proofs.YtjfbiabgeickjaaW.PrintLast Go.Proofs.YtjfbiabgeickjaaW.PrintMore
set_option linter.unusedVariables false
set_option linter.unusedSimpArgs false
/-- Two trees, and a pair between; in so many rounds. -/
def joinN : Nat → T → Int → Int → T → T
  | 0, l, k, v, r => .node l k v r
  | n + 1, l, k, v, r =>
    if ht l > ht r + 1 then
      match l with
      | .leaf => .node .leaf k v r
      | .node ll lk lv lr => evenT ll lk lv (joinN n lr k v r)
    else if ht r > ht l + 1 then
      match r with
      | .leaf => .node l k v .leaf
      | .node rl rk rv rr => evenT (joinN n l k v rl) rk rv rr
    else .node l k v r
theorem sz_join (k v : Int) : ∀ (n : Nat) (l r : T), sz (joinN n l k v r) = 1 + sz l + sz r
  | 0, l, r => rfl
  | n + 1, l, r => by
    unfold joinN
    split
    · cases l with
      | leaf => rfl
      | node ll lk lv lr => dsimp only; rw [sz_even, sz_join k v n lr r]; simp only [sz]; omega
    · split
      · cases r with
        | leaf => rfl
        | node rl rk rv rr => dsimp only; rw [sz_even, sz_join k v n l rl]; simp only [sz]; omega
      · rfl
set_option maxRecDepth 20000 in
set_option maxHeartbeats 4000000 in
theorem join_any (k v : Int) (n : Nat) : ∀ (l r : T), sz l + sz r < n → ∀ (pl pr : Option Addr) (w : World), TreeAt w pl l → TreeAt w pr r → sz l + sz r ≤ 50000 →
    Calls Try.prog 56 #[.pointer pl, .agg #[.int .u64 k, .int .i64 v], .pointer pr] w fun e w' => (∃ p, e = .returned (.pointer p) ∧ TreeAt w' p (joinN n l k v r)) ∧ Below w.heap.size w w' := by
  induction n with
  | zero => intro l r h; exact absurd h (Nat.not_lt_zero _)
  | succ n ih =>
  intro l r hn pl pr w hl hr hs
  have IH := Aside0.mk ih
  have HB0 := Aside0.mk ((Below.refl w.heap.size w).alloc (Nat.le_refl _) (.cells #[.int .u64 k, .int .i64 v] 66))
  have HX0 := Aside0.mk (blk_new w (.cells #[.int .u64 k, .int .i64 v] 66))
  have HL := Aside0.mk (hl.below HB0.out)
  have HR := Aside0.mk (hr.below HB0.out)
  have HN := Aside0.mk hn
  have hl1 := ht_le l
  have hr1 := ht_le r
  clear hl hr hn ih
  go_enter Try.func56, Try.ntmps56
  go_wp2_with fail
  generalize (w.alloc (.cells #[.int .u64 k, .int .i64 v] 66)) = w0 at *
  have WR := Aside0.mk (show ∀ t : T, ht t ≤ 50000 → IntKind.i64.wrap (((ht t : Nat) : Int) + 1) = ((ht t : Nat) : Int) + 1 from fun t h => by rw [IntKind.wrap_i64]; omega)
  have wr := WR.out r (by omega)
  have wl := WR.out l (by omega)
  refine (high_any pl l w0 HL.out).mono ?_
  rintro e w1 ⟨rfl, rfl⟩
  go_wp2_with fail
  refine (high_any pr r w1 HR.out).mono ?_
  rintro e w2 ⟨rfl, rfl⟩
  by_cases hc1 : ((ht r : Nat) : Int) + 1 < ((ht l : Nat) : Int)
  · have HC1 := Aside0.mk (show ht l > ht r + 1 by omega)
    go_wp2_with fail
    cases l with
    | leaf => simp [ht] at hc1; omega
    | node ll lk lv lr =>
      obtain ⟨gl, pll, plr, rfl, hgl, hll, hlr⟩ := HL.out
      have HEV := Aside0.mk (show joinN (n + 1) (.node ll lk lv lr) k v r = evenT ll lk lv (joinN n lr k v r) from by conv => lhs; unfold joinN; rw [if_pos HC1.out])
      have HZJ := Aside0.mk (sz_join k v n lr r)
      have HSZ := Aside0.mk (show sz ll + sz lr + 1 + sz r ≤ 50000 ∧ sz lr + sz r < n from ⟨by simp only [sz] at hs; omega, by have := HN.out; simp only [sz] at this; omega⟩)
      have hN : w2.cell? ⟨gl, 0, none⟩ = some (.int .u64 lk) ∧ w2.cell? ⟨gl, 1, none⟩ = some (.int .i64 lv) ∧ w2.cell? ⟨gl, 2, none⟩ = some (.pointer pll) ∧ w2.cell? ⟨gl, 3, none⟩ = some (.pointer plr) ∧ w2.cell? ⟨w.heap.size, 0, none⟩ = some (.int .u64 k) ∧ w2.cell? ⟨w.heap.size, 1, none⟩ = some (.int .i64 v) :=
        ⟨(node_cells hgl).1, (node_cells hgl).2.1, (node_cells hgl).2.2.1, (node_cells hgl).2.2.2, blk_cell HX0.out 0, blk_cell HX0.out 1⟩
      have HLLD := Aside0.mk (hll.below (below_drew (Below.refl _ w2)))
      have HLRD := Aside0.mk (hlr.below (below_drew (Below.refl _ w2)))
      have HOD := Aside0.mk (HR.out.below (below_drew (Below.refl _ w2)))
      have HBD := Aside0.mk (HB0.out.trans ((below_drew (Below.refl _ w2)).mono HB0.out.size))
      clear hgl hll hlr hl1 hr1 hs hc1 wr wl HL HR HB0 HX0
      refine wp_region_held_drew (S := (fun w' => w'.cell? ⟨gl, 0, none⟩ = some (.int .u64 lk) ∧ w'.cell? ⟨gl, 1, none⟩ = some (.int .i64 lv) ∧ w'.cell? ⟨gl, 2, none⟩ = some (.pointer pll) ∧ w'.cell? ⟨gl, 3, none⟩ = some (.pointer plr) ∧ w'.cell? ⟨w.heap.size, 0, none⟩ = some (.int .u64 k) ∧ w'.cell? ⟨w.heap.size, 1, none⟩ = some (.int .i64 v))) (by kernel_rfl) ?hSa0 (fun hHeld => ?_)
      case hSa0 => first | assumption | go_keep
      refine held_take 0 (some 14) (v := ?va0) rfl rfl (by kernel_rfl) (by kernel_rfl) (by kernel_rfl) (fun _ _ _ h => h) (by rfl) ?ya0 (by assumption) ?_
      case ya0 => ((intro w hSw); (try dsimp only at hSw); go_simp <;> (with_reducible rfl))
      try simp only [Act.put, List.setIfInBounds_toArray, List.set_cons_zero, List.set_cons_succ]
      refine held_take 1 (some 15) (v := ?va1) rfl rfl (by kernel_rfl) (by kernel_rfl) (by kernel_rfl) (fun _ _ _ h => h) (by rfl) ?ya1 (by assumption) ?_
      case ya1 => ((intro w hSw); (try dsimp only at hSw); go_simp <;> (with_reducible rfl))
      try simp only [Act.put, List.setIfInBounds_toArray, List.set_cons_zero, List.set_cons_succ]
      refine held_take 2 (some 16) (v := ?va2) rfl rfl (by kernel_rfl) (by kernel_rfl) (by kernel_rfl) (fun _ _ _ h => h) (by rfl) ?ya2 (by assumption) ?_
      case ya2 => ((intro w hSw); (try dsimp only at hSw); go_simp <;> (with_reducible rfl))
      try simp only [Act.put, List.setIfInBounds_toArray, List.set_cons_zero, List.set_cons_succ]
      refine held_take 3 (some 17) (v := ?va3) rfl rfl (by kernel_rfl) (by kernel_rfl) (by kernel_rfl) (fun _ _ _ h => h) (by rfl) ?ya3 (by assumption) ?_
      case ya3 => ((intro w hSw); (try dsimp only at hSw); go_simp <;> (with_reducible rfl))
      try simp only [Act.put, List.setIfInBounds_toArray, List.set_cons_zero, List.set_cons_succ]
      refine held_take 4 (some 18) (v := ?va4) rfl rfl (by kernel_rfl) (by kernel_rfl) (by kernel_rfl) (fun _ _ _ h => h) (by rfl) ?ya4 (by assumption) ?_
      case ya4 => ((intro w hSw); (try dsimp only at hSw); go_simp <;> (with_reducible rfl))
      try simp only [Act.put, List.setIfInBounds_toArray, List.set_cons_zero, List.set_cons_succ]
      refine held_take 5 (some 19) (v := ?va5) rfl rfl (by kernel_rfl) (by kernel_rfl) (by kernel_rfl) (fun _ _ _ h => h) (by rfl) ?ya5 (by assumption) ?_
      case ya5 => ((intro w hSw); (try dsimp only at hSw); go_simp <;> (with_reducible rfl))
      try simp only [Act.put, List.setIfInBounds_toArray, List.set_cons_zero, List.set_cons_succ]
      refine held_take 6 (some 20) (v := ?va6) rfl rfl (by kernel_rfl) (by kernel_rfl) (by kernel_rfl) (fun _ _ _ h => h) (by rfl) ?ya6 (by assumption) ?_
      case ya6 => ((intro w hSw); (try dsimp only at hSw); go_simp <;> (with_reducible rfl))
      try simp only [Act.put, List.setIfInBounds_toArray, List.set_cons_zero, List.set_cons_succ]
      refine held_take 7 (some 21) (v := ?va7) rfl rfl (by kernel_rfl) (by kernel_rfl) (by kernel_rfl) (fun _ _ _ h => h) (by rfl) ?ya7 (by assumption) ?_
      case ya7 => ((intro w hSw); (try dsimp only at hSw); go_simp <;> (with_reducible rfl))
      try simp only [Act.put, List.setIfInBounds_toArray, List.set_cons_zero, List.set_cons_succ]
      refine held_take 8 (some 22) (v := ?va8) rfl rfl (by kernel_rfl) (by kernel_rfl) (by kernel_rfl) (fun _ _ _ h => h) (by rfl) ?ya8 (by assumption) ?_
      case ya8 => ((intro w hSw); (try dsimp only at hSw); go_simp <;> (with_reducible rfl))
      try simp only [Act.put, List.setIfInBounds_toArray, List.set_cons_zero, List.set_cons_succ]
      refine held_take 9 (some 23) (v := ?va9) rfl rfl (by kernel_rfl) (by kernel_rfl) (by kernel_rfl) (fun _ _ _ h => h) (by rfl) ?ya9 (by assumption) ?_
      case ya9 => ((intro w hSw); (try dsimp only at hSw); go_simp <;> (with_reducible rfl))
      try simp only [Act.put, List.setIfInBounds_toArray, List.set_cons_zero, List.set_cons_succ]
      refine held_take 10 (some 24) (v := ?va10) rfl rfl (by kernel_rfl) (by kernel_rfl) (by kernel_rfl) (fun _ _ _ h => h) (by rfl) ?ya10 (by assumption) ?_
      case ya10 => ((intro w hSw); (try dsimp only at hSw); go_simp <;> (with_reducible rfl))
      try simp only [Act.put, List.setIfInBounds_toArray, List.set_cons_zero, List.set_cons_succ]
      refine held_take 11 (some 25) (v := ?va11) rfl rfl (by kernel_rfl) (by kernel_rfl) (by kernel_rfl) (fun _ _ _ h => h) (by rfl) ?ya11 (by assumption) ?_
      case ya11 => ((intro w hSw); (try dsimp only at hSw); go_simp <;> (with_reducible rfl))
      try simp only [Act.put, List.setIfInBounds_toArray, List.set_cons_zero, List.set_cons_succ]
      refine held_take 12 (some 26) (v := ?va12) rfl rfl (by kernel_rfl) (by kernel_rfl) (by kernel_rfl) (fun _ _ _ h => h) (by rfl) ?ya12 (by assumption) ?_
      case ya12 => ((intro w hSw); (try dsimp only at hSw); go_simp <;> (with_reducible rfl))
      try simp only [Act.put, List.setIfInBounds_toArray, List.set_cons_zero, List.set_cons_succ]
      refine held_take 13 (some 27) (v := ?va13) rfl rfl (by kernel_rfl) (by kernel_rfl) (by kernel_rfl) (fun _ _ _ h => h) (by rfl) ?ya13 (by assumption) ?_
      case ya13 => ((intro w hSw); (try dsimp only at hSw); go_simp <;> (with_reducible rfl))
      try simp only [Act.put, List.setIfInBounds_toArray, List.set_cons_zero, List.set_cons_succ]
      refine wpAnyH_ready (rs := [14]) (by kernel_rfl) (by simp) ?_
      refine AllReadyH.cons rfl (fun K hK => ?_) AllReadyH.nil
      go_simp
      refine (IH.out lr r HSZ.out.2 plr pr _ HLRD.out HOD.out (by have := HSZ.out.1; omega)).mono ?_
      rintro e w4 ⟨⟨p4, rfl, ht4⟩, hb4⟩
      have K4 := cells6_below (by assumption) hb4
      have HT4 := Aside0.mk ht4
      have HA4 := Aside0.mk (HLLD.out.below hb4)
      have HB4 := Aside0.mk (HBD.out.trans (hb4.mono HBD.out.size))
      clear ht4 hb4
      refine hK.out _ _ ?hSa15 (fun hHeld => ?_)
      case hSa15 => first | assumption | go_keep
      clear hK K
      try simp only [Act.put, List.setIfInBounds_toArray, List.set_cons_zero, List.set_cons_succ]
      refine wpAnyH_ready (rs := [15]) (by kernel_rfl) (by simp) ?_
      refine AllReadyH.cons rfl (fun K hK => ?_) AllReadyH.nil
      go_simp
      refine (even_any pll ll lk lv p4 (joinN n lr k v r) _ HA4.out HT4.out (by have := HSZ.out.1; have := HZJ.out; omega)).mono ?_
      rintro e w5 ⟨⟨p5, rfl, ht5⟩, hb5⟩
      have K5 := cells6_below (by assumption) hb5
      have HT5 := Aside0.mk ht5
      have HB5 := Aside0.mk (HB4.out.trans (hb5.mono HB4.out.size))
      clear ht5 hb5
      refine hK.out _ _ ?hSa16 (fun hHeld => ?_)
      case hSa16 => first | assumption | go_keep
      clear hK K
      try simp only [Act.put, List.setIfInBounds_toArray, List.set_cons_zero, List.set_cons_succ]
      refine held_take 16 (some 6) (v := ?va16) rfl rfl (by kernel_rfl) (by kernel_rfl) (by kernel_rfl) (fun _ _ _ h => h) (by rfl) ?ya16 (by assumption) ?_
      case ya16 => ((intro w hSw); (try dsimp only at hSw); go_simp <;> (with_reducible rfl))
      try simp only [Act.put, List.setIfInBounds_toArray, List.set_cons_zero, List.set_cons_succ]
      refine wpAnyH_done (by kernel_rfl) ?_ _
      go_wp2
      go_ret
      exact ⟨⟨_, rfl, by rw [HEV.out]; exact HT5.out⟩, HB5.out⟩
  · have HC0 := Aside0.mk (show ¬ ht l > ht r + 1 by omega)
    go_wp2_with fail
    refine (high_any pr r w2 HR.out).mono ?_
    rintro e w3' ⟨rfl, rfl⟩
    go_wp2_with fail
    refine (high_any pl l w3' HL.out).mono ?_
    rintro e w2 ⟨rfl, rfl⟩
    by_cases hc3 : ((ht l : Nat) : Int) + 1 < ((ht r : Nat) : Int)
    · have HC1 := Aside0.mk (show ht r > ht l + 1 by omega)
      clear hc1
      go_wp2_with fail
      cases r with
      | leaf => simp [ht] at hc3; omega
      | node rl rk rv rr =>
        obtain ⟨gr, prl, prr, rfl, hgr, hrl, hrr⟩ := HR.out
        have HEV := Aside0.mk (show joinN (n + 1) l k v (.node rl rk rv rr) = evenT (joinN n l k v rl) rk rv rr from by conv => lhs; unfold joinN; rw [if_neg HC0.out, if_pos HC1.out])
        have HZJ := Aside0.mk (sz_join k v n l rl)
        have HSZ := Aside0.mk (show sz l + (sz rl + sz rr + 1) ≤ 50000 ∧ sz l + sz rl < n from ⟨by simp only [sz] at hs; omega, by have := HN.out; simp only [sz] at this; omega⟩)
        have hN : w2.cell? ⟨gr, 0, none⟩ = some (.int .u64 rk) ∧ w2.cell? ⟨gr, 1, none⟩ = some (.int .i64 rv) ∧ w2.cell? ⟨gr, 2, none⟩ = some (.pointer prl) ∧ w2.cell? ⟨gr, 3, none⟩ = some (.pointer prr) ∧ w2.cell? ⟨w.heap.size, 0, none⟩ = some (.int .u64 k) ∧ w2.cell? ⟨w.heap.size, 1, none⟩ = some (.int .i64 v) :=
          ⟨(node_cells hgr).1, (node_cells hgr).2.1, (node_cells hgr).2.2.1, (node_cells hgr).2.2.2, blk_cell HX0.out 0, blk_cell HX0.out 1⟩
        have HRLD := Aside0.mk (hrl.below (below_drew (Below.refl _ w2)))
        have HRRD := Aside0.mk (hrr.below (below_drew (Below.refl _ w2)))
        have HOD := Aside0.mk (HL.out.below (below_drew (Below.refl _ w2)))
        have HBD := Aside0.mk (HB0.out.trans ((below_drew (Below.refl _ w2)).mono HB0.out.size))
        clear hgr hrl hrr hl1 hr1 hs hc3 wr wl HL HR HB0 HX0
        refine wp_region_held_drew (S := (fun w' => w'.cell? ⟨gr, 0, none⟩ = some (.int .u64 rk) ∧ w'.cell? ⟨gr, 1, none⟩ = some (.int .i64 rv) ∧ w'.cell? ⟨gr, 2, none⟩ = some (.pointer prl) ∧ w'.cell? ⟨gr, 3, none⟩ = some (.pointer prr) ∧ w'.cell? ⟨w.heap.size, 0, none⟩ = some (.int .u64 k) ∧ w'.cell? ⟨w.heap.size, 1, none⟩ = some (.int .i64 v))) (by kernel_rfl) ?hSb0 (fun hHeld => ?_)
        case hSb0 => first | assumption | go_keep
        refine held_take 0 (some 37) (v := ?vb0) rfl rfl (by kernel_rfl) (by kernel_rfl) (by kernel_rfl) (fun _ _ _ h => h) (by rfl) ?yb0 (by assumption) ?_
        case yb0 => ((intro w hSw); (try dsimp only at hSw); go_simp <;> (with_reducible rfl))
        try simp only [Act.put, List.setIfInBounds_toArray, List.set_cons_zero, List.set_cons_succ]
        refine held_take 1 (some 38) (v := ?vb1) rfl rfl (by kernel_rfl) (by kernel_rfl) (by kernel_rfl) (fun _ _ _ h => h) (by rfl) ?yb1 (by assumption) ?_
        case yb1 => ((intro w hSw); (try dsimp only at hSw); go_simp <;> (with_reducible rfl))
        try simp only [Act.put, List.setIfInBounds_toArray, List.set_cons_zero, List.set_cons_succ]
        refine held_take 2 (some 39) (v := ?vb2) rfl rfl (by kernel_rfl) (by kernel_rfl) (by kernel_rfl) (fun _ _ _ h => h) (by rfl) ?yb2 (by assumption) ?_
        case yb2 => ((intro w hSw); (try dsimp only at hSw); go_simp <;> (with_reducible rfl))
        try simp only [Act.put, List.setIfInBounds_toArray, List.set_cons_zero, List.set_cons_succ]
        refine held_take 3 (some 40) (v := ?vb3) rfl rfl (by kernel_rfl) (by kernel_rfl) (by kernel_rfl) (fun _ _ _ h => h) (by rfl) ?yb3 (by assumption) ?_
        case yb3 => ((intro w hSw); (try dsimp only at hSw); go_simp <;> (with_reducible rfl))
        try simp only [Act.put, List.setIfInBounds_toArray, List.set_cons_zero, List.set_cons_succ]
        refine held_take 4 (some 41) (v := ?vb4) rfl rfl (by kernel_rfl) (by kernel_rfl) (by kernel_rfl) (fun _ _ _ h => h) (by rfl) ?yb4 (by assumption) ?_
        case yb4 => ((intro w hSw); (try dsimp only at hSw); go_simp <;> (with_reducible rfl))
        try simp only [Act.put, List.setIfInBounds_toArray, List.set_cons_zero, List.set_cons_succ]
        refine held_take 5 (some 42) (v := ?vb5) rfl rfl (by kernel_rfl) (by kernel_rfl) (by kernel_rfl) (fun _ _ _ h => h) (by rfl) ?yb5 (by assumption) ?_
        case yb5 => ((intro w hSw); (try dsimp only at hSw); go_simp <;> (with_reducible rfl))
        try simp only [Act.put, List.setIfInBounds_toArray, List.set_cons_zero, List.set_cons_succ]
        refine held_take 7 (some 44) (v := ?vb7) rfl rfl (by kernel_rfl) (by kernel_rfl) (by kernel_rfl) (fun _ _ _ h => h) (by rfl) ?yb7 (by assumption) ?_
        case yb7 => ((intro w hSw); (try dsimp only at hSw); go_simp <;> (with_reducible rfl))
        try simp only [Act.put, List.setIfInBounds_toArray, List.set_cons_zero, List.set_cons_succ]
        refine held_take 8 (some 45) (v := ?vb8) rfl rfl (by kernel_rfl) (by kernel_rfl) (by kernel_rfl) (fun _ _ _ h => h) (by rfl) ?yb8 (by assumption) ?_
        case yb8 => ((intro w hSw); (try dsimp only at hSw); go_simp <;> (with_reducible rfl))
        try simp only [Act.put, List.setIfInBounds_toArray, List.set_cons_zero, List.set_cons_succ]
        refine held_take 9 (some 46) (v := ?vb9) rfl rfl (by kernel_rfl) (by kernel_rfl) (by kernel_rfl) (fun _ _ _ h => h) (by rfl) ?yb9 (by assumption) ?_
        case yb9 => ((intro w hSw); (try dsimp only at hSw); go_simp <;> (with_reducible rfl))
        try simp only [Act.put, List.setIfInBounds_toArray, List.set_cons_zero, List.set_cons_succ]
        refine held_take 10 (some 47) (v := ?vb10) rfl rfl (by kernel_rfl) (by kernel_rfl) (by kernel_rfl) (fun _ _ _ h => h) (by rfl) ?yb10 (by assumption) ?_
        case yb10 => ((intro w hSw); (try dsimp only at hSw); go_simp <;> (with_reducible rfl))
        try simp only [Act.put, List.setIfInBounds_toArray, List.set_cons_zero, List.set_cons_succ]
        refine held_take 11 (some 48) (v := ?vb11) rfl rfl (by kernel_rfl) (by kernel_rfl) (by kernel_rfl) (fun _ _ _ h => h) (by rfl) ?yb11 (by assumption) ?_
        case yb11 => ((intro w hSw); (try dsimp only at hSw); go_simp <;> (with_reducible rfl))
        try simp only [Act.put, List.setIfInBounds_toArray, List.set_cons_zero, List.set_cons_succ]
        refine held_take 12 (some 49) (v := ?vb12) rfl rfl (by kernel_rfl) (by kernel_rfl) (by kernel_rfl) (fun _ _ _ h => h) (by rfl) ?yb12 (by assumption) ?_
        case yb12 => ((intro w hSw); (try dsimp only at hSw); go_simp <;> (with_reducible rfl))
        try simp only [Act.put, List.setIfInBounds_toArray, List.set_cons_zero, List.set_cons_succ]
        refine held_take 13 (some 50) (v := ?vb13) rfl rfl (by kernel_rfl) (by kernel_rfl) (by kernel_rfl) (fun _ _ _ h => h) (by rfl) ?yb13 (by assumption) ?_
        case yb13 => ((intro w hSw); (try dsimp only at hSw); go_simp <;> (with_reducible rfl))
        try simp only [Act.put, List.setIfInBounds_toArray, List.set_cons_zero, List.set_cons_succ]
        refine held_take 14 (some 51) (v := ?vb14) rfl rfl (by kernel_rfl) (by kernel_rfl) (by kernel_rfl) (fun _ _ _ h => h) (by rfl) ?yb14 (by assumption) ?_
        case yb14 => ((intro w hSw); (try dsimp only at hSw); go_simp <;> (with_reducible rfl))
        try simp only [Act.put, List.setIfInBounds_toArray, List.set_cons_zero, List.set_cons_succ]
        refine wpAnyH_ready (rs := [6]) (by kernel_rfl) (by simp) ?_
        refine AllReadyH.cons rfl (fun K hK => ?_) AllReadyH.nil
        go_simp
        refine (IH.out l rl HSZ.out.2 pl prl _ HOD.out HRLD.out (by have := HSZ.out.1; omega)).mono ?_
        rintro e w4 ⟨⟨p4, rfl, ht4⟩, hb4⟩
        have K4 := cells6_below (by assumption) hb4
        have HT4 := Aside0.mk ht4
        have HA4 := Aside0.mk (HRRD.out.below hb4)
        have HB4 := Aside0.mk (HBD.out.trans (hb4.mono HBD.out.size))
        clear ht4 hb4
        refine hK.out _ _ ?hSb7 (fun hHeld => ?_)
        case hSb7 => first | assumption | go_keep
        clear hK K
        try simp only [Act.put, List.setIfInBounds_toArray, List.set_cons_zero, List.set_cons_succ]
        refine wpAnyH_ready (rs := [15]) (by kernel_rfl) (by simp) ?_
        refine AllReadyH.cons rfl (fun K hK => ?_) AllReadyH.nil
        go_simp
        refine (even_any p4 (joinN n l k v rl) rk rv prr rr _ HT4.out HA4.out (by have := HSZ.out.1; have := HZJ.out; omega)).mono ?_
        rintro e w5 ⟨⟨p5, rfl, ht5⟩, hb5⟩
        have K5 := cells6_below (by assumption) hb5
        have HT5 := Aside0.mk ht5
        have HB5 := Aside0.mk (HB4.out.trans (hb5.mono HB4.out.size))
        clear ht5 hb5
        refine hK.out _ _ ?hSb16 (fun hHeld => ?_)
        case hSb16 => first | assumption | go_keep
        clear hK K
        try simp only [Act.put, List.setIfInBounds_toArray, List.set_cons_zero, List.set_cons_succ]
        refine held_take 16 (some 6) (v := ?vb16) rfl rfl (by kernel_rfl) (by kernel_rfl) (by kernel_rfl) (fun _ _ _ h => h) (by rfl) ?yb16 (by assumption) ?_
        case yb16 => ((intro w hSw); (try dsimp only at hSw); go_simp <;> (with_reducible rfl))
        try simp only [Act.put, List.setIfInBounds_toArray, List.set_cons_zero, List.set_cons_succ]
        refine wpAnyH_done (by kernel_rfl) ?_ _
        go_wp2
        go_ret
        exact ⟨⟨_, rfl, by rw [HEV.out]; exact HT5.out⟩, HB5.out⟩
    · have HEV := Aside0.mk (show joinN (n + 1) l k v r = .node l k v r from by unfold joinN; rw [if_neg HC0.out, if_neg (by omega)])
      have c0 := blk_cell HX0.out 0
      have c1 := blk_cell HX0.out 1
      have hm := made_any pl l k v pr r w2 HL.out HR.out (by omega)
      go_wp2_with fail
      refine hm.mono ?_
      rintro e w3 ⟨⟨p3, rfl, ht3⟩, hb3⟩
      have HT3 := Aside0.mk ht3
      have HB3 := Aside0.mk (HB0.out.trans (hb3.mono HB0.out.size))
      clear hm ht3 hb3 c0 c1
      go_wp2_with fail
      go_ret
      exact ⟨⟨_, rfl, by rw [HEV.out]; exact HT3.out⟩, HB3.out⟩
end Go.Proofs.Ytjfbiabgeickjaa.H
/-! ### Tree11 -/
namespace Go.Proofs.Ytjfbiabgeickjaa.H
open Go.RowKit Go.Proofs.Ytjfbiabgeickjaa.P Go.Proofs.YtjfbiabgeickjaaW.PrintWords Go.Proofs.YtjfbiabgeickjaaW.PrintLast Go.Proofs.YtjfbiabgeickjaaW.PrintMore
set_option linter.unusedVariables false
set_option linter.unusedSimpArgs false
def joinT (l : T) (k v : Int) (r : T) : T := joinN (sz l + sz r + 1) l k v r
def cutT (k : Int) : T → T × T
  | .leaf => (.leaf, .leaf)
  | .node l k1 v1 r => if k1 < k then (joinT l k1 v1 (cutT k r).1, (cutT k r).2) else ((cutT k l).1, joinT (cutT k l).2 k1 v1 r)
theorem sz_cut (k : Int) : ∀ t : T, sz (cutT k t).1 + sz (cutT k t).2 = sz t
  | .leaf => rfl
  | .node l k1 v1 r => by
    have h1 := sz_cut k l
    have h2 := sz_cut k r
    unfold cutT joinT
    split
    · dsimp only; rw [sz_join]; simp only [sz]; omega
    · dsimp only; rw [sz_join]; simp only [sz]; omega
set_option maxRecDepth 20000 in
set_option maxHeartbeats 4000000 in
theorem cut_any (k : Int) (t : T) : ∀ (p : Option Addr) (w : World), TreeAt w p t → sz t ≤ 40000 →
    Calls Try.prog 51 #[.pointer p, .int .u64 k] w fun e w' => (∃ x y, e = .returned (.tuple #[.pointer x, .pointer y]) ∧ TreeAt w' x (cutT k t).1 ∧ TreeAt w' y (cutT k t).2) ∧ Below w.heap.size w w' := by
  induction t with
  | leaf =>
    intro p w h hs
    obtain rfl : p = none := h
    go_enter Try.func51, Try.ntmps51
    go_wp2_with fail
    go_ret2
    exact ⟨⟨none, none, rfl, rfl, rfl⟩, Below.refl _ _⟩
  | node l k1 v1 r ihl ihr =>
    intro p w h hs
    obtain ⟨g, pl, pr, rfl, hg, hl, hr⟩ := h
    have HG0 := Aside0.mk hg
    have HL0 := Aside0.mk hl
    have HR0 := Aside0.mk hr
    have HSZ := Aside0.mk (show sz l + sz r + 1 ≤ 40000 by simp only [sz] at hs; omega)
    have IHL := Aside0.mk ihl
    have IHR := Aside0.mk ihr
    have HZL := Aside0.mk (sz_cut k l)
    have HZR := Aside0.mk (sz_cut k r)
    have d0 := (node_cells hg).1
    have d2 := (node_cells hg).2.2.1
    have d3 := (node_cells hg).2.2.2
    clear hg hl hr hs ihl ihr
    go_enter Try.func51, Try.ntmps51
    by_cases c1 : k1 < k
    · have HEV := Aside0.mk (show cutT k (.node l k1 v1 r) = (joinT l k1 v1 (cutT k r).1, (cutT k r).2) from by conv => lhs; unfold cutT; rw [if_pos c1])
      go_wp2_with fail
      refine (IHR.out pr w HR0.out (by have := HSZ.out; omega)).mono ?_
      rintro e w1 ⟨⟨x, y, rfl, hx, hy⟩, hb⟩
      have HX1 := Aside0.mk (hx.below (below_drew (Below.refl _ w1)))
      have HY1 := Aside0.mk (hy.below (below_drew (Below.refl _ w1)))
      have HO1 := Aside0.mk ((HL0.out.below hb).below (below_drew (Below.refl _ w1)))
      have hN : w1.cell? ⟨g, 0, none⟩ = some (.int .u64 k1) ∧ w1.cell? ⟨g, 1, none⟩ = some (.int .i64 v1) ∧ w1.cell? ⟨g, 2, none⟩ = some (.pointer pl) ∧ w1.cell? ⟨g, 3, none⟩ = some (.pointer pr) := node_cells (blk_below HG0.out hb)
      have HBD := Aside0.mk (hb.trans ((below_drew (Below.refl _ w1)).mono hb.size))
      clear hx hy hb d0 d2 d3
      go_wp2_with fail
      refine wp_region_held_drew (S := (fun w' => w'.cell? ⟨g, 0, none⟩ = some (.int .u64 k1) ∧ w'.cell? ⟨g, 1, none⟩ = some (.int .i64 v1) ∧ w'.cell? ⟨g, 2, none⟩ = some (.pointer pl) ∧ w'.cell? ⟨g, 3, none⟩ = some (.pointer pr))) (by kernel_rfl) ?hSa0 (fun hHeld => ?_)
      case hSa0 => first | assumption | go_keep
      refine held_take 0 (some 28) (v := ?va0) rfl rfl (by kernel_rfl) (by kernel_rfl) (by kernel_rfl) (fun _ _ _ h => h) (by rfl) ?ya0 (by assumption) ?_
      case ya0 => ((intro w hSw); (try dsimp only at hSw); go_simp <;> (with_reducible rfl))
      try simp only [Act.put, List.setIfInBounds_toArray, List.set_cons_zero, List.set_cons_succ]
      refine held_take 1 (some 29) (v := ?va1) rfl rfl (by kernel_rfl) (by kernel_rfl) (by kernel_rfl) (fun _ _ _ h => h) (by rfl) ?ya1 (by assumption) ?_
      case ya1 => ((intro w hSw); (try dsimp only at hSw); go_simp <;> (with_reducible rfl))
      try simp only [Act.put, List.setIfInBounds_toArray, List.set_cons_zero, List.set_cons_succ]
      refine held_take 2 (some 30) (v := ?va2) rfl rfl (by kernel_rfl) (by kernel_rfl) (by kernel_rfl) (fun _ _ _ h => h) (by rfl) ?ya2 (by assumption) ?_
      case ya2 => ((intro w hSw); (try dsimp only at hSw); go_simp <;> (with_reducible rfl))
      try simp only [Act.put, List.setIfInBounds_toArray, List.set_cons_zero, List.set_cons_succ]
      refine held_take 3 (some 31) (v := ?va3) rfl rfl (by kernel_rfl) (by kernel_rfl) (by kernel_rfl) (fun _ _ _ h => h) (by rfl) ?ya3 (by assumption) ?_
      case ya3 => ((intro w hSw); (try dsimp only at hSw); go_simp <;> (with_reducible rfl))
      try simp only [Act.put, List.setIfInBounds_toArray, List.set_cons_zero, List.set_cons_succ]
      refine held_take 4 (some 32) (v := ?va4) rfl rfl (by kernel_rfl) (by kernel_rfl) (by kernel_rfl) (fun _ _ _ h => h) (by rfl) ?ya4 (by assumption) ?_
      case ya4 => ((intro w hSw); (try dsimp only at hSw); go_simp <;> (with_reducible rfl))
      try simp only [Act.put, List.setIfInBounds_toArray, List.set_cons_zero, List.set_cons_succ]
      refine held_take 5 (some 33) (v := ?va5) rfl rfl (by kernel_rfl) (by kernel_rfl) (by kernel_rfl) (fun _ _ _ h => h) (by rfl) ?ya5 (by assumption) ?_
      case ya5 => ((intro w hSw); (try dsimp only at hSw); go_simp <;> (with_reducible rfl))
      try simp only [Act.put, List.setIfInBounds_toArray, List.set_cons_zero, List.set_cons_succ]
      refine held_take 6 (some 34) (v := ?va6) rfl rfl (by kernel_rfl) (by kernel_rfl) (by kernel_rfl) (fun _ _ _ h => h) (by rfl) ?ya6 (by assumption) ?_
      case ya6 => ((intro w hSw); (try dsimp only at hSw); go_simp <;> (with_reducible rfl))
      try simp only [Act.put, List.setIfInBounds_toArray, List.set_cons_zero, List.set_cons_succ]
      refine held_take 7 (some 35) (v := ?va7) rfl rfl (by kernel_rfl) (by kernel_rfl) (by kernel_rfl) (fun _ _ _ h => h) (by rfl) ?ya7 (by assumption) ?_
      case ya7 => ((intro w hSw); (try dsimp only at hSw); go_simp <;> (with_reducible rfl))
      try simp only [Act.put, List.setIfInBounds_toArray, List.set_cons_zero, List.set_cons_succ]
      refine held_take 8 (some 36) (v := ?va8) rfl rfl (by kernel_rfl) (by kernel_rfl) (by kernel_rfl) (fun _ _ _ h => h) (by rfl) ?ya8 (by assumption) ?_
      case ya8 => ((intro w hSw); (try dsimp only at hSw); go_simp <;> (with_reducible rfl))
      try simp only [Act.put, List.setIfInBounds_toArray, List.set_cons_zero, List.set_cons_succ]
      refine held_take 10 (some 38) (v := ?va10) rfl rfl (by kernel_rfl) (by kernel_rfl) (by kernel_rfl) (fun _ _ _ h => h) (by rfl) ?ya10 (by assumption) ?_
      case ya10 => ((intro w hSw); (try dsimp only at hSw); go_simp <;> (with_reducible rfl))
      try simp only [Act.put, List.setIfInBounds_toArray, List.set_cons_zero, List.set_cons_succ]
      refine wpAnyH_ready (rs := [9]) (by kernel_rfl) (by simp) ?_
      refine AllReadyH.cons rfl (fun K hK => ?_) AllReadyH.nil
      go_simp
      refine (join_any k1 v1 (sz l + sz (cutT k r).1 + 1) l (cutT k r).1 (by omega) pl x _ HO1.out HX1.out (by have := HSZ.out; have := HZR.out; omega)).mono ?_
      rintro e w5 ⟨⟨p5, rfl, ht5⟩, hb5⟩
      have K5 := cells4_below (by assumption) hb5
      have HT5 := Aside0.mk ht5
      have HY5 := Aside0.mk (HY1.out.below hb5)
      have HB5 := Aside0.mk (HBD.out.trans (hb5.mono HBD.out.size))
      clear ht5 hb5
      refine hK.out _ _ ?hSa10 (fun hHeld => ?_)
      case hSa10 => first | assumption | go_keep
      clear hK K
      try simp only [Act.put, List.setIfInBounds_toArray, List.set_cons_zero, List.set_cons_succ]
      refine held_take 11 (some 4) (v := ?va11) rfl rfl (by kernel_rfl) (by kernel_rfl) (by kernel_rfl) (fun _ _ _ h => h) (by rfl) ?ya11 (by assumption) ?_
      case ya11 => ((intro w hSw); (try dsimp only at hSw); go_simp <;> (with_reducible rfl))
      try simp only [Act.put, List.setIfInBounds_toArray, List.set_cons_zero, List.set_cons_succ]
      refine held_take 12 (some 5) (v := ?va12) rfl rfl (by kernel_rfl) (by kernel_rfl) (by kernel_rfl) (fun _ _ _ h => h) (by rfl) ?ya12 (by assumption) ?_
      case ya12 => ((intro w hSw); (try dsimp only at hSw); go_simp <;> (with_reducible rfl))
      try simp only [Act.put, List.setIfInBounds_toArray, List.set_cons_zero, List.set_cons_succ]
      refine wpAnyH_done (by kernel_rfl) ?_ _
      go_wp2
      go_ret2
      exact ⟨⟨p5, y, rfl, by rw [HEV.out]; exact HT5.out, by rw [HEV.out]; exact HY5.out⟩, HB5.out⟩
    · have HEV := Aside0.mk (show cutT k (.node l k1 v1 r) = ((cutT k l).1, joinT (cutT k l).2 k1 v1 r) from by conv => lhs; unfold cutT; rw [if_neg c1])
      go_wp2_with fail
      refine (IHL.out pl w HL0.out (by have := HSZ.out; omega)).mono ?_
      rintro e w1 ⟨⟨x, y, rfl, hx, hy⟩, hb⟩
      have HX1 := Aside0.mk (hx.below (below_drew (Below.refl _ w1)))
      have HY1 := Aside0.mk (hy.below (below_drew (Below.refl _ w1)))
      have HO1 := Aside0.mk ((HR0.out.below hb).below (below_drew (Below.refl _ w1)))
      have hN : w1.cell? ⟨g, 0, none⟩ = some (.int .u64 k1) ∧ w1.cell? ⟨g, 1, none⟩ = some (.int .i64 v1) ∧ w1.cell? ⟨g, 2, none⟩ = some (.pointer pl) ∧ w1.cell? ⟨g, 3, none⟩ = some (.pointer pr) := node_cells (blk_below HG0.out hb)
      have HBD := Aside0.mk (hb.trans ((below_drew (Below.refl _ w1)).mono hb.size))
      clear hx hy hb d0 d2 d3
      go_wp2_with fail
      refine wp_region_held_drew (S := (fun w' => w'.cell? ⟨g, 0, none⟩ = some (.int .u64 k1) ∧ w'.cell? ⟨g, 1, none⟩ = some (.int .i64 v1) ∧ w'.cell? ⟨g, 2, none⟩ = some (.pointer pl) ∧ w'.cell? ⟨g, 3, none⟩ = some (.pointer pr))) (by kernel_rfl) ?hSb0 (fun hHeld => ?_)
      case hSb0 => first | assumption | go_keep
      refine held_take 0 (some 48) (v := ?vb0) rfl rfl (by kernel_rfl) (by kernel_rfl) (by kernel_rfl) (fun _ _ _ h => h) (by rfl) ?yb0 (by assumption) ?_
      case yb0 => ((intro w hSw); (try dsimp only at hSw); go_simp <;> (with_reducible rfl))
      try simp only [Act.put, List.setIfInBounds_toArray, List.set_cons_zero, List.set_cons_succ]
      refine held_take 1 (some 49) (v := ?vb1) rfl rfl (by kernel_rfl) (by kernel_rfl) (by kernel_rfl) (fun _ _ _ h => h) (by rfl) ?yb1 (by assumption) ?_
      case yb1 => ((intro w hSw); (try dsimp only at hSw); go_simp <;> (with_reducible rfl))
      try simp only [Act.put, List.setIfInBounds_toArray, List.set_cons_zero, List.set_cons_succ]
      refine held_take 2 (some 50) (v := ?vb2) rfl rfl (by kernel_rfl) (by kernel_rfl) (by kernel_rfl) (fun _ _ _ h => h) (by rfl) ?yb2 (by assumption) ?_
      case yb2 => ((intro w hSw); (try dsimp only at hSw); go_simp <;> (with_reducible rfl))
      try simp only [Act.put, List.setIfInBounds_toArray, List.set_cons_zero, List.set_cons_succ]
      refine held_take 3 (some 51) (v := ?vb3) rfl rfl (by kernel_rfl) (by kernel_rfl) (by kernel_rfl) (fun _ _ _ h => h) (by rfl) ?yb3 (by assumption) ?_
      case yb3 => ((intro w hSw); (try dsimp only at hSw); go_simp <;> (with_reducible rfl))
      try simp only [Act.put, List.setIfInBounds_toArray, List.set_cons_zero, List.set_cons_succ]
      refine held_take 4 (some 52) (v := ?vb4) rfl rfl (by kernel_rfl) (by kernel_rfl) (by kernel_rfl) (fun _ _ _ h => h) (by rfl) ?yb4 (by assumption) ?_
      case yb4 => ((intro w hSw); (try dsimp only at hSw); go_simp <;> (with_reducible rfl))
      try simp only [Act.put, List.setIfInBounds_toArray, List.set_cons_zero, List.set_cons_succ]
      refine held_take 5 (some 53) (v := ?vb5) rfl rfl (by kernel_rfl) (by kernel_rfl) (by kernel_rfl) (fun _ _ _ h => h) (by rfl) ?yb5 (by assumption) ?_
      case yb5 => ((intro w hSw); (try dsimp only at hSw); go_simp <;> (with_reducible rfl))
      try simp only [Act.put, List.setIfInBounds_toArray, List.set_cons_zero, List.set_cons_succ]
      refine held_take 6 (some 54) (v := ?vb6) rfl rfl (by kernel_rfl) (by kernel_rfl) (by kernel_rfl) (fun _ _ _ h => h) (by rfl) ?yb6 (by assumption) ?_
      case yb6 => ((intro w hSw); (try dsimp only at hSw); go_simp <;> (with_reducible rfl))
      try simp only [Act.put, List.setIfInBounds_toArray, List.set_cons_zero, List.set_cons_succ]
      refine held_take 7 (some 55) (v := ?vb7) rfl rfl (by kernel_rfl) (by kernel_rfl) (by kernel_rfl) (fun _ _ _ h => h) (by rfl) ?yb7 (by assumption) ?_
      case yb7 => ((intro w hSw); (try dsimp only at hSw); go_simp <;> (with_reducible rfl))
      try simp only [Act.put, List.setIfInBounds_toArray, List.set_cons_zero, List.set_cons_succ]
      refine held_take 8 (some 56) (v := ?vb8) rfl rfl (by kernel_rfl) (by kernel_rfl) (by kernel_rfl) (fun _ _ _ h => h) (by rfl) ?yb8 (by assumption) ?_
      case yb8 => ((intro w hSw); (try dsimp only at hSw); go_simp <;> (with_reducible rfl))
      try simp only [Act.put, List.setIfInBounds_toArray, List.set_cons_zero, List.set_cons_succ]
      refine held_take 9 (some 57) (v := ?vb9) rfl rfl (by kernel_rfl) (by kernel_rfl) (by kernel_rfl) (fun _ _ _ h => h) (by rfl) ?yb9 (by assumption) ?_
      case yb9 => ((intro w hSw); (try dsimp only at hSw); go_simp <;> (with_reducible rfl))
      try simp only [Act.put, List.setIfInBounds_toArray, List.set_cons_zero, List.set_cons_succ]
      refine wpAnyH_ready (rs := [10]) (by kernel_rfl) (by simp) ?_
      refine AllReadyH.cons rfl (fun K hK => ?_) AllReadyH.nil
      go_simp
      refine (join_any k1 v1 (sz (cutT k l).2 + sz r + 1) (cutT k l).2 r (by omega) y pr _ HY1.out HO1.out (by have := HSZ.out; have := HZL.out; omega)).mono ?_
      rintro e w5 ⟨⟨p5, rfl, ht5⟩, hb5⟩
      have K5 := cells4_below (by assumption) hb5
      have HT5 := Aside0.mk ht5
      have HX5 := Aside0.mk (HX1.out.below hb5)
      have HB5 := Aside0.mk (HBD.out.trans (hb5.mono HBD.out.size))
      clear ht5 hb5
      refine hK.out _ _ ?hSb11 (fun hHeld => ?_)
      case hSb11 => first | assumption | go_keep
      clear hK K
      try simp only [Act.put, List.setIfInBounds_toArray, List.set_cons_zero, List.set_cons_succ]
      refine held_take 11 (some 4) (v := ?vb11) rfl rfl (by kernel_rfl) (by kernel_rfl) (by kernel_rfl) (fun _ _ _ h => h) (by rfl) ?yb11 (by assumption) ?_
      case yb11 => ((intro w hSw); (try dsimp only at hSw); go_simp <;> (with_reducible rfl))
      try simp only [Act.put, List.setIfInBounds_toArray, List.set_cons_zero, List.set_cons_succ]
      refine held_take 12 (some 5) (v := ?vb12) rfl rfl (by kernel_rfl) (by kernel_rfl) (by kernel_rfl) (fun _ _ _ h => h) (by rfl) ?yb12 (by assumption) ?_
      case yb12 => ((intro w hSw); (try dsimp only at hSw); go_simp <;> (with_reducible rfl))
      try simp only [Act.put, List.setIfInBounds_toArray, List.set_cons_zero, List.set_cons_succ]
      refine wpAnyH_done (by kernel_rfl) ?_ _
      go_wp2
      go_ret2
      exact ⟨⟨x, p5, rfl, by rw [HEV.out]; exact HX5.out, by rw [HEV.out]; exact HT5.out⟩, HB5.out⟩
set_option maxRecDepth 20000 in
set_option maxHeartbeats 1600000 in
theorem split_any (P : Option Addr) (k : Int) (t : T) (w : World) (h : RootAt w P t) (hs : sz t ≤ 40000) :
    Calls Try.prog 46 #[.pointer P, .int .u64 k] w fun e w' => (∃ x y, e = .returned (.tuple #[.pointer (some ⟨x, 0, none⟩), .pointer (some ⟨y, 0, none⟩)]) ∧ RootAt w' (some ⟨x, 0, none⟩) (cutT k t).1 ∧ RootAt w' (some ⟨y, 0, none⟩) (cutT k t).2) ∧ Below w.heap.size w w' := by
  have HTP := Aside0.mk (top_any P t w h)
  clear h
  go_enter Try.func46, Try.ntmps46
  go_wp2_with fail
  refine HTP.out.mono ?_
  rintro e w2 ⟨⟨p, rfl, ht⟩, rfl⟩
  have hc := cut_any k t p w2 ht hs
  clear ht
  go_wp2_with fail
  refine hc.mono ?_
  rintro e w3 ⟨⟨x, y, rfl, hx, hy⟩, hb⟩
  have HX := Aside0.mk hx
  have HY := Aside0.mk hy
  have HB := Aside0.mk hb
  clear hx hy hb hc
  go_wp2_with fail
  have hb1 : Below w3.heap.size w3 (w3.alloc (.cells #[.pointer x] 84)) := (Below.refl _ _).alloc (Nat.le_refl _) _
  have hb2 : Below (w3.alloc (.cells #[.pointer x] 84)).heap.size (w3.alloc (.cells #[.pointer x] 84)) ((w3.alloc (.cells #[.pointer x] 84)).alloc (.cells #[.pointer y] 84)) := (Below.refl _ _).alloc (Nat.le_refl _) _
  have hsz : (w3.alloc (.cells #[.pointer x] 84)).heap.size = w3.heap.size + 1 := by simp
  go_ret2
  refine ⟨⟨_, _, rfl, .inr ⟨_, x, rfl, blk_below (blk_new w3 _) hb2, (HX.out.below hb1).below hb2⟩, .inr ⟨_, y, rfl, ?_, (HY.out.below hb1).below hb2⟩⟩, (HB.out.trans (hb1.mono HB.out.size)).trans (hb2.mono (Nat.le_trans HB.out.size (by rw [hsz]; omega)))⟩
  have := blk_new (w3.alloc (.cells #[.pointer x] 84)) (.cells #[.pointer y] 84)
  rw [hsz] at this
  exact this
end Go.Proofs.Ytjfbiabgeickjaa.H
/-! ### TreeB -/
namespace Go.Proofs.Ytjfbiabgeickjaa.H
open Go.RowKit Go.Proofs.Ytjfbiabgeickjaa.P Go.Proofs.YtjfbiabgeickjaaW.PrintWords Go.Proofs.YtjfbiabgeickjaaW.PrintLast Go.Proofs.YtjfbiabgeickjaaW.PrintMore
set_option linter.unusedVariables false
set_option linter.unusedSimpArgs false
/-! ### balance -/
def bal : T → Prop
  | .leaf => True
  | .node l _ _ r => bal l ∧ bal r ∧ ht l ≤ ht r + 1 ∧ ht r ≤ ht l + 1
theorem bal_even (l : T) (k v : Int) (r : T) (hl : bal l) (hr : bal r) (h1 : ht l ≤ ht r + 2) (h2 : ht r ≤ ht l + 2) :
    bal (evenT l k v r) ∧ ht (evenT l k v r) ≤ 1 + max (ht l) (ht r) ∧ max (ht l) (ht r) ≤ ht (evenT l k v r) ∧ (ht l ≤ ht r + 1 → ht r ≤ ht l + 1 → ht (evenT l k v r) = 1 + max (ht l) (ht r)) := by
  unfold evenT
  split
  · rename_i hc
    cases l with
    | leaf => simp [ht] at hc
    | node ll lk lv lr =>
      obtain ⟨b1, b2, b3, b4⟩ := hl
      simp only [ht] at h1 h2 hc
      dsimp only
      split
      · refine ⟨⟨b1, ⟨b2, hr, by omega, by omega⟩, by simp only [ht]; omega, by simp only [ht]; omega⟩, by simp only [ht]; omega, by simp only [ht]; omega, fun h3 h4 => by simp only [ht] at h3 h4 ⊢; omega⟩
      · cases lr with
        | leaf => rename_i hn; simp [ht] at hn
        | node m1 mk mv m2 =>
          obtain ⟨c1, c2, c3, c4⟩ := b2
          simp only [ht] at *
          refine ⟨⟨⟨b1, c1, by omega, by omega⟩, ⟨c2, hr, by omega, by omega⟩, by simp only [ht]; omega, by simp only [ht]; omega⟩, by omega, by omega, fun h3 h4 => by omega⟩
  · rename_i hc
    split
    · rename_i hd
      cases r with
      | leaf => simp [ht] at hd
      | node rl rk rv rr =>
        obtain ⟨b1, b2, b3, b4⟩ := hr
        simp only [ht] at h1 h2 hd hc
        dsimp only
        split
        · refine ⟨⟨⟨hl, b1, by omega, by omega⟩, b2, by simp only [ht]; omega, by simp only [ht]; omega⟩, by simp only [ht]; omega, by simp only [ht]; omega, fun h3 h4 => by simp only [ht] at h3 h4 ⊢; omega⟩
        · cases rl with
          | leaf => rename_i hn; simp [ht] at hn
          | node m1 mk mv m2 =>
            obtain ⟨c1, c2, c3, c4⟩ := b1
            simp only [ht] at *
            refine ⟨⟨⟨hl, c1, by omega, by omega⟩, ⟨c2, b2, by omega, by omega⟩, by simp only [ht]; omega, by simp only [ht]; omega⟩, by omega, by omega, fun h3 h4 => by omega⟩
    · refine ⟨⟨hl, hr, by omega, by omega⟩, by simp only [ht]; omega, by simp only [ht]; omega, fun _ _ => by simp only [ht]⟩
theorem bal_with (k v : Int) : ∀ t : T, bal t → bal (withT k v t) ∧ (ht (withT k v t) = ht t ∨ ht (withT k v t) = ht t + 1)
  | .leaf, _ => ⟨⟨trivial, trivial, Nat.zero_le _, Nat.zero_le _⟩, .inr rfl⟩
  | .node l k1 v1 r, ⟨b1, b2, b3, b4⟩ => by
    have il := bal_with k v l b1
    have ir := bal_with k v r b2
    unfold withT
    split
    · have h := bal_even (withT k v l) k1 v1 r il.1 b2 (by omega) (by omega)
      refine ⟨h.1, ?_⟩
      simp only [ht]
      by_cases c : ht (withT k v l) ≤ ht r + 1
      · have := h.2.2.2 c (by omega); omega
      · omega
    · split
      · have h := bal_even l k1 v1 (withT k v r) b1 ir.1 (by omega) (by omega)
        refine ⟨h.1, ?_⟩
        simp only [ht]
        by_cases c : ht (withT k v r) ≤ ht l + 1
        · have := h.2.2.2 (by omega) c; omega
        · omega
      · exact ⟨⟨b1, b2, b3, b4⟩, .inl rfl⟩
def minN : Nat → Nat
  | 0 => 0
  | 1 => 1
  | n + 2 => 1 + minN (n + 1) + minN n
theorem minN_le : ∀ n, minN n ≤ minN (n + 1)
  | 0 => by decide
  | 1 => by decide
  | n + 2 => by
    have h1 := minN_le n
    have h2 : minN (n + 1) ≤ minN (n + 2) := minN_le (n + 1)
    show 1 + minN (n + 1) + minN n ≤ 1 + minN (n + 2) + minN (n + 1)
    omega
theorem minN_mono {m n : Nat} (h : m ≤ n) : minN m ≤ minN n := by
  induction h with
  | refl => exact Nat.le_refl _
  | step _ ih => exact Nat.le_trans ih (minN_le _)
theorem bal_size : ∀ t : T, bal t → minN (ht t) ≤ sz t
  | .leaf, _ => Nat.le_refl _
  | .node l k v r, ⟨b1, b2, b3, b4⟩ => by
    have h1 := bal_size l b1
    have h2 := bal_size r b2
    simp only [ht, sz]
    have key : ∀ a b : Nat, a ≤ b → b ≤ a + 1 → minN (1 + b) ≤ 1 + minN b + minN a := by
      intro a b h3 h4
      rcases Nat.lt_or_ge a b with h5 | h5
      · obtain rfl : b = a + 1 := by omega
        rw [show 1 + (a + 1) = a + 2 by omega]
        exact Nat.le_refl _
      · obtain rfl : a = b := by omega
        cases a with
        | zero => decide
        | succ n =>
          rw [show 1 + (n + 1) = n + 2 by omega]
          show 1 + minN (n + 1) + minN n ≤ _
          have := minN_le n
          omega
    rcases Nat.le_total (ht l) (ht r) with h | h
    · rw [Nat.max_eq_right h]
      have := key _ _ h b4
      omega
    · rw [Nat.max_eq_left h]
      have := key _ _ h b3
      omega
theorem low (t : T) (hb : bal t) (hs : sz t ≤ 1024) : ht t ≤ 17 := by
  rcases Nat.lt_or_ge (ht t) 18 with h | h
  · omega
  · have h1 := minN_mono h
    have h2 := bal_size t hb
    have h3 : minN 18 = 6764 := by decide
    omega
/-! ### order -/
theorem toL_even (l : T) (k v : Int) (r : T) : toL (evenT l k v r) = toL l ++ (k, v) :: toL r := by
  unfold evenT
  split
  · split
    · rfl
    · split
      · simp [toL]
      · split
        · rfl
        · simp [toL]
  · split
    · split
      · rfl
      · split
        · simp [toL]
        · split
          · rfl
          · simp [toL]
    · rfl
def srt (t : T) : Prop := (toL t).Pairwise fun a b => a.1 < b.1
theorem srt_node {l : T} {k v : Int} {r : T} (h : srt (.node l k v r)) : srt l ∧ srt r ∧ (∀ a ∈ toL l, a.1 < k) ∧ (∀ b ∈ toL r, k < b.1) := by
  unfold srt at h
  rw [toL, List.pairwise_append] at h
  obtain ⟨h1, h2, h3⟩ := h
  rw [List.pairwise_cons] at h2
  exact ⟨h1, h2.2, fun a ha => h3 a ha _ List.mem_cons_self, fun b hb => h2.1 b hb⟩
theorem get_iff (k v : Int) : ∀ t : T, srt t → (getT k t = some v ↔ (k, v) ∈ toL t)
  | .leaf, _ => by simp [getT, toL]
  | .node l k1 v1 r, h => by
    obtain ⟨h1, h2, h3, h4⟩ := srt_node h
    have il := get_iff k v l h1
    have ir := get_iff k v r h2
    unfold getT
    rw [toL, List.mem_append, List.mem_cons]
    split
    · rename_i c
      rw [il]
      exact ⟨.inl, fun o => o.elim id fun o => o.elim (fun e => by cases e; omega) fun o => by have := h4 _ o; simp at this; omega⟩
    · split
      · rename_i c
        rw [ir]
        exact ⟨fun o => .inr (.inr o), fun o => o.elim (fun o => by have := h3 _ o; simp at this; omega) fun o => o.elim (fun e => by cases e; omega) id⟩
      · have e : k = k1 := by omega
        subst e
        constructor
        · intro e; cases e; exact .inr (.inl rfl)
        · rintro (o | o | o)
          · have := h3 _ o; simp at this
          · cases o; rfl
          · have := h4 _ o; simp at this
theorem has_iff (k : Int) (t : T) (h : srt t) : hasT k t = true ↔ ∃ v, (k, v) ∈ toL t := by
  rw [← get_has, Option.isSome_iff_exists]
  exact exists_congr fun v => get_iff k v t h
/-- A pair is laid among others. -/
theorem mem_with (k v : Int) : ∀ t : T, srt t → srt (withT k v t) ∧ ∀ a b, (a, b) ∈ toL (withT k v t) ↔ (a = k ∧ b = v) ∨ (a ≠ k ∧ (a, b) ∈ toL t)
  | .leaf, _ => by
    refine ⟨by simp [srt, withT, toL], fun a b => ?_⟩
    simp [withT, toL]
  | .node l k1 v1 r, h => by
    obtain ⟨h1, h2, h3, h4⟩ := srt_node h
    obtain ⟨sl, ml⟩ := mem_with k v l h1
    obtain ⟨sr, mr⟩ := mem_with k v r h2
    unfold withT
    split
    · rename_i c
      refine ⟨?_, fun a b => ?_⟩
      · unfold srt
        rw [toL_even, List.pairwise_append, List.pairwise_cons]
        refine ⟨sl, ⟨fun b hb => h4 b hb, h2⟩, fun a ha b hb => ?_⟩
        have ha1 : a.1 < k1 := by
          rcases (ml a.1 a.2).1 ha with ⟨e, _⟩ | ⟨_, o⟩
          · omega
          · exact h3 _ o
        rw [List.mem_cons] at hb
        rcases hb with rfl | hb
        · exact ha1
        · have := h4 b hb; omega
      · rw [toL_even, List.mem_append, List.mem_cons, ml, toL, List.mem_append, List.mem_cons]
        constructor
        · rintro ((o | o) | o | o)
          · exact .inl o
          · exact .inr ⟨o.1, .inl o.2⟩
          · cases o; exact .inr ⟨by omega, .inr (.inl rfl)⟩
          · exact .inr ⟨by have := h4 _ o; simp at this; omega, .inr (.inr o)⟩
        · rintro (o | ⟨o1, o | o | o⟩)
          · exact .inl (.inl o)
          · exact .inl (.inr ⟨o1, o⟩)
          · exact .inr (.inl o)
          · exact .inr (.inr o)
    · split
      · rename_i c
        refine ⟨?_, fun a b => ?_⟩
        · unfold srt
          rw [toL_even, List.pairwise_append, List.pairwise_cons]
          have hr1 : ∀ b ∈ toL (withT k v r), k1 < b.1 := fun b hb => by
            rcases (mr b.1 b.2).1 hb with ⟨e, _⟩ | ⟨_, o⟩
            · omega
            · exact h4 _ o
          refine ⟨h1, ⟨hr1, sr⟩, fun a ha b hb => ?_⟩
          rw [List.mem_cons] at hb
          rcases hb with rfl | hb
          · exact h3 a ha
          · have := h3 a ha; have := hr1 b hb; omega
        · rw [toL_even, List.mem_append, List.mem_cons, mr, toL, List.mem_append, List.mem_cons]
          constructor
          · rintro (o | o | o | o)
            · exact .inr ⟨by have := h3 _ o; simp at this; omega, .inl o⟩
            · cases o; exact .inr ⟨by omega, .inr (.inl rfl)⟩
            · exact .inl o
            · exact .inr ⟨o.1, .inr (.inr o.2)⟩
          · rintro (o | ⟨o1, o | o | o⟩)
            · exact .inr (.inr (.inl o))
            · exact .inl o
            · exact .inr (.inl o)
            · exact .inr (.inr (.inr ⟨o1, o⟩))
      · have e : k = k1 := by omega
        subst e
        refine ⟨?_, fun a b => ?_⟩
        · unfold srt
          rw [toL, List.pairwise_append, List.pairwise_cons]
          refine ⟨h1, ⟨fun b hb => h4 b hb, h2⟩, fun a ha b hb => ?_⟩
          rw [List.mem_cons] at hb
          rcases hb with rfl | hb
          · exact h3 a ha
          · have := h3 a ha; have := h4 b hb; omega
        · rw [toL, List.mem_append, List.mem_cons, toL, List.mem_append, List.mem_cons]
          constructor
          · rintro (o | o | o)
            · exact .inr ⟨by have := h3 _ o; simp at this; omega, .inl o⟩
            · cases o; exact .inl ⟨rfl, rfl⟩
            · exact .inr ⟨by have := h4 _ o; simp at this; omega, .inr (.inr o)⟩
          · rintro (⟨rfl, rfl⟩ | ⟨o1, o | o | o⟩)
            · exact .inr (.inl rfl)
            · exact .inl o
            · cases o; exact absurd rfl o1
            · exact .inr (.inr o)
theorem sz_with_eq (k v : Int) : ∀ t : T, sz (withT k v t) = sz t + if hasT k t then 0 else 1
  | .leaf => rfl
  | .node l k1 v1 r => by
    have il := sz_with_eq k v l
    have ir := sz_with_eq k v r
    unfold withT hasT
    split
    · rw [sz_even, il]; simp only [sz]; omega
    · split
      · rw [sz_even, ir]; simp only [sz]; omega
      · simp [sz]
theorem toL_least : ∀ (l : T) (k v : Int) (r : T), toL (.node l k v r) = (leastT (.node l k v r)).1 :: toL (leastT (.node l k v r)).2
  | .leaf, k, v, r => rfl
  | .node ll lk lv lr, k, v, r => by
    have ih := toL_least ll lk lv lr
    rw [leastT, toL_even, toL, ih]
    rfl
theorem toL_without (k : Int) : ∀ t : T, (toL (withoutT k t)).Sublist (toL t) ∧ (hasT k t = true → sz (withoutT k t) + 1 = sz t)
  | .leaf => ⟨List.Sublist.refl _, fun h => by cases h⟩
  | .node l k1 v1 r => by
    have il := toL_without k l
    have ir := toL_without k r
    unfold withoutT hasT
    split
    · rw [toL_even, toL, sz_even]
      exact ⟨il.1.append (List.Sublist.refl _), fun h => by have := il.2 h; simp only [sz]; omega⟩
    · split
      · rw [toL_even, toL, sz_even]
        exact ⟨(List.Sublist.refl _).append (ir.1.cons_cons _), fun h => by have := ir.2 h; simp only [sz]; omega⟩
      · cases r with
        | leaf =>
          refine ⟨?_, fun _ => by simp only [sz]; omega⟩
          rw [toL]
          exact List.sublist_append_left _ _
        | node rl rk rv rr =>
          have h1 := toL_least rl rk rv rr
          have h2 := congrArg List.length h1
          rw [List.length_cons, toL_len, toL_len] at h2
          dsimp only
          rw [toL_even, sz_even, toL]
          refine ⟨?_, fun _ => by simp only [sz] at h2 ⊢; omega⟩
          rw [show ((leastT (.node rl rk rv rr)).1.1, (leastT (.node rl rk rv rr)).1.2) = (leastT (.node rl rk rv rr)).1 from rfl, ← h1]
          exact (List.Sublist.refl _).append (List.sublist_cons_self _ _)
end Go.Proofs.Ytjfbiabgeickjaa.H
/-! ### TreeE -/
namespace Go.Proofs.Ytjfbiabgeickjaa.H
open Go.RowKit Go.Proofs.Ytjfbiabgeickjaa.P Go.Proofs.YtjfbiabgeickjaaW.PrintWords Go.Proofs.YtjfbiabgeickjaaW.PrintLast Go.Proofs.YtjfbiabgeickjaaW.PrintMore
set_option linter.unusedVariables false
set_option linter.unusedSimpArgs false
theorem toL_joinN (k v : Int) : ∀ (n : Nat) (l r : T), toL (joinN n l k v r) = toL l ++ (k, v) :: toL r
  | 0, l, r => rfl
  | n + 1, l, r => by
    unfold joinN
    split
    · cases l with
      | leaf => rfl
      | node ll lk lv lr => dsimp only; rw [toL_even, toL_joinN k v n lr r, toL]; simp
    · split
      · cases r with
        | leaf => rfl
        | node rl rk rv rr => dsimp only; rw [toL_even, toL_joinN k v n l rl, toL]; simp
      · rfl
theorem toL_join (l : T) (k v : Int) (r : T) : toL (joinT l k v r) = toL l ++ (k, v) :: toL r := toL_joinN k v _ l r
theorem bal_joinN (k v : Int) : ∀ (n : Nat) (l r : T), sz l + sz r < n → bal l → bal r → bal (joinN n l k v r) ∧ max (ht l) (ht r) ≤ ht (joinN n l k v r) ∧ ht (joinN n l k v r) ≤ 1 + max (ht l) (ht r)
  | 0, l, r, h, _, _ => absurd h (Nat.not_lt_zero _)
  | n + 1, l, r, hn, bl, br => by
    unfold joinN
    split
    · rename_i hc
      cases l with
      | leaf => simp [ht] at hc
      | node ll lk lv lr =>
        obtain ⟨b1, b2, b3, b4⟩ := bl
        have ih := bal_joinN k v n lr r (by simp only [sz] at hn; omega) b2 br
        simp only [ht] at hc ⊢
        have h := bal_even ll lk lv (joinN n lr k v r) b1 ih.1 (by omega) (by omega)
        refine ⟨h.1, ?_, ?_⟩
        · by_cases c : ht ll ≤ ht (joinN n lr k v r) + 1 ∧ ht (joinN n lr k v r) ≤ ht ll + 1
          · have := h.2.2.2 c.1 c.2; omega
          · omega
        · by_cases c : ht ll ≤ ht (joinN n lr k v r) + 1 ∧ ht (joinN n lr k v r) ≤ ht ll + 1
          · have := h.2.2.2 c.1 c.2; omega
          · omega
    · rename_i hc
      split
      · rename_i hd
        cases r with
        | leaf => simp [ht] at hd
        | node rl rk rv rr =>
          obtain ⟨b1, b2, b3, b4⟩ := br
          have ih := bal_joinN k v n l rl (by simp only [sz] at hn; omega) bl b1
          simp only [ht] at hd hc ⊢
          have h := bal_even (joinN n l k v rl) rk rv rr ih.1 b2 (by omega) (by omega)
          refine ⟨h.1, ?_, ?_⟩
          · by_cases c : ht (joinN n l k v rl) ≤ ht rr + 1 ∧ ht rr ≤ ht (joinN n l k v rl) + 1
            · have := h.2.2.2 c.1 c.2; omega
            · omega
          · by_cases c : ht (joinN n l k v rl) ≤ ht rr + 1 ∧ ht rr ≤ ht (joinN n l k v rl) + 1
            · have := h.2.2.2 c.1 c.2; omega
            · omega
      · refine ⟨⟨bl, br, by omega, by omega⟩, by simp only [ht]; omega, by simp only [ht]; omega⟩
theorem bal_join (l : T) (k v : Int) (r : T) (hl : bal l) (hr : bal r) : bal (joinT l k v r) := (bal_joinN k v _ l r (by omega) hl hr).1
theorem bal_cut (k : Int) : ∀ t : T, bal t → bal (cutT k t).1 ∧ bal (cutT k t).2
  | .leaf, _ => ⟨trivial, trivial⟩
  | .node l k1 v1 r, ⟨b1, b2, _, _⟩ => by
    have h1 := bal_cut k l b1
    have h2 := bal_cut k r b2
    unfold cutT
    split
    · exact ⟨bal_join _ _ _ _ b1 h2.1, h2.2⟩
    · exact ⟨h1.1, bal_join _ _ _ _ h1.2 b2⟩
theorem toL_cut (k : Int) : ∀ t : T, srt t → toL (cutT k t).1 = (toL t).filter (fun p => decide (p.1 < k)) ∧ toL (cutT k t).2 = (toL t).filter fun p => !decide (p.1 < k)
  | .leaf, _ => ⟨rfl, rfl⟩
  | .node l k1 v1 r, h => by
    obtain ⟨h1, h2, h3, h4⟩ := srt_node h
    have il := toL_cut k l h1
    have ir := toL_cut k r h2
    unfold cutT
    rw [toL, List.filter_append, List.filter_append, List.filter_cons, List.filter_cons]
    split
    · rename_i c
      have e1 : (toL l).filter (fun p => decide (p.1 < k)) = toL l := List.filter_eq_self.2 fun a ha => by have := h3 a ha; simp; omega
      have e2 : (toL l).filter (fun p => !decide (p.1 < k)) = [] := List.filter_eq_nil_iff.2 fun a ha => by have := h3 a ha; simp; omega
      dsimp only
      rw [toL_join, ir.1, ir.2, e1, e2]
      simp [c]
    · rename_i c
      have e1 : (toL r).filter (fun p => decide (p.1 < k)) = [] := List.filter_eq_nil_iff.2 fun a ha => by have := h4 a ha; simp; omega
      have e2 : (toL r).filter (fun p => !decide (p.1 < k)) = toL r := List.filter_eq_self.2 fun a ha => by have := h4 a ha; simp; omega
      dsimp only
      rw [toL_join, il.1, il.2, e1, e2]
      simp [c]
theorem bal_least : ∀ t : T, bal t → bal (leastT t).2 ∧ ht (leastT t).2 ≤ ht t ∧ ht t ≤ ht (leastT t).2 + 1
  | .leaf, _ => ⟨trivial, Nat.le_refl _, Nat.zero_le _⟩
  | .node .leaf k v r, ⟨_, b2, _, b4⟩ => by
    refine ⟨b2, ?_, ?_⟩ <;> simp only [leastT, ht] at * <;> omega
  | .node (.node ll lk lv lr) k v r, ⟨b1, b2, b3, b4⟩ => by
    have ih := bal_least (.node ll lk lv lr) b1
    rw [leastT]
    generalize T.node ll lk lv lr = l at *
    have h := bal_even (leastT l).2 k v r ih.1 b2 (by omega) (by omega)
    refine ⟨h.1, ?_, ?_⟩
    · simp only [ht]
      by_cases c : ht (leastT l).2 ≤ ht r + 1 ∧ ht r ≤ ht (leastT l).2 + 1
      · have := h.2.2.2 c.1 c.2; omega
      · omega
    · simp only [ht]
      by_cases c : ht (leastT l).2 ≤ ht r + 1 ∧ ht r ≤ ht (leastT l).2 + 1
      · have := h.2.2.2 c.1 c.2; omega
      · omega
theorem bal_without (k : Int) : ∀ t : T, bal t → bal (withoutT k t) ∧ ht (withoutT k t) ≤ ht t ∧ ht t ≤ ht (withoutT k t) + 1
  | .leaf, _ => ⟨trivial, Nat.le_refl _, Nat.zero_le _⟩
  | .node l k1 v1 r, ⟨b1, b2, b3, b4⟩ => by
    have il := bal_without k l b1
    have ir := bal_without k r b2
    unfold withoutT
    split
    · have h := bal_even (withoutT k l) k1 v1 r il.1 b2 (by omega) (by omega)
      simp only [ht]
      by_cases c : ht (withoutT k l) ≤ ht r + 1 ∧ ht r ≤ ht (withoutT k l) + 1
      · have := h.2.2.2 c.1 c.2; exact ⟨h.1, by omega, by omega⟩
      · exact ⟨h.1, by omega, by omega⟩
    · split
      · have h := bal_even l k1 v1 (withoutT k r) b1 ir.1 (by omega) (by omega)
        simp only [ht]
        by_cases c : ht l ≤ ht (withoutT k r) + 1 ∧ ht (withoutT k r) ≤ ht l + 1
        · have := h.2.2.2 c.1 c.2; exact ⟨h.1, by omega, by omega⟩
        · exact ⟨h.1, by omega, by omega⟩
      · cases r with
        | leaf =>
          simp only [ht] at b3 b4 ⊢
          exact ⟨b1, by omega, by omega⟩
        | node rl rk rv rr =>
          have hl := bal_least (.node rl rk rv rr) b2
          dsimp only
          generalize T.node rl rk rv rr = r at *
          have h := bal_even l (leastT r).1.1 (leastT r).1.2 (leastT r).2 b1 hl.1 (by omega) (by omega)
          simp only [ht]
          by_cases c : ht l ≤ ht (leastT r).2 + 1 ∧ ht (leastT r).2 ≤ ht l + 1
          · have := h.2.2.2 c.1 c.2; exact ⟨h.1, by omega, by omega⟩
          · exact ⟨h.1, by omega, by omega⟩
end Go.Proofs.Ytjfbiabgeickjaa.H
/-! ### TreeF -/
namespace Go.Proofs.Ytjfbiabgeickjaa.H
open Go.RowKit Go.Proofs.Ytjfbiabgeickjaa.P Go.Proofs.YtjfbiabgeickjaaW.PrintWords Go.Proofs.YtjfbiabgeickjaaW.PrintLast Go.Proofs.YtjfbiabgeickjaaW.PrintMore
set_option linter.unusedVariables false
set_option linter.unusedSimpArgs false
def lowL (k : Int) (L : List (Int × Int)) : List (Int × Int) := L.filter fun p => decide (p.1 < k)
def uppL (k : Int) (L : List (Int × Int)) : List (Int × Int) := L.filter fun p => decide (k < p.1)
theorem lowL_all {k : Int} {L : List (Int × Int)} (h : ∀ a ∈ L, a.1 < k) : lowL k L = L := List.filter_eq_self.2 fun a ha => by have := h a ha; simp; omega
theorem lowL_none {k : Int} {L : List (Int × Int)} (h : ∀ a ∈ L, ¬ a.1 < k) : lowL k L = [] := List.filter_eq_nil_iff.2 fun a ha => by have := h a ha; simp; omega
theorem uppL_all {k : Int} {L : List (Int × Int)} (h : ∀ a ∈ L, k < a.1) : uppL k L = L := List.filter_eq_self.2 fun a ha => by have := h a ha; simp; omega
theorem uppL_none {k : Int} {L : List (Int × Int)} (h : ∀ a ∈ L, ¬ k < a.1) : uppL k L = [] := List.filter_eq_nil_iff.2 fun a ha => by have := h a ha; simp; omega
theorem low_node (k : Int) (l : T) (k1 v1 : Int) (r : T) : lowL k (toL (.node l k1 v1 r)) = lowL k (toL l) ++ ((if k1 < k then [(k1, v1)] else []) ++ lowL k (toL r)) := by
  unfold lowL
  rw [toL, List.filter_append, List.filter_cons]
  by_cases c : k1 < k <;> simp [c]
theorem upp_node (k : Int) (l : T) (k1 v1 : Int) (r : T) : uppL k (toL (.node l k1 v1 r)) = uppL k (toL l) ++ ((if k < k1 then [(k1, v1)] else []) ++ uppL k (toL r)) := by
  unfold uppL
  rw [toL, List.filter_append, List.filter_cons]
  by_cases c : k < k1 <;> simp [c]
theorem toL_with (k v : Int) : ∀ t : T, srt t → toL (withT k v t) = lowL k (toL t) ++ (k, v) :: uppL k (toL t)
  | .leaf, _ => rfl
  | .node l k1 v1 r, h => by
    obtain ⟨h1, h2, h3, h4⟩ := srt_node h
    have il := toL_with k v l h1
    have ir := toL_with k v r h2
    rw [low_node, upp_node]
    unfold withT
    split
    · rename_i c
      rw [toL_even, il, if_neg (by omega), lowL_none (L := toL r) fun a ha => by have := h4 a ha; omega, uppL_all (L := toL r) fun a ha => by have := h4 a ha; omega]
      simp
    · split
      · rename_i c
        rw [toL_even, ir, lowL_all (L := toL l) fun a ha => by have := h3 a ha; omega, uppL_none (L := toL l) fun a ha => by have := h3 a ha; omega]
        simp
      · have e : k = k1 := by omega
        subst e
        rw [toL, lowL_all (L := toL l) fun a ha => h3 a ha, uppL_none (L := toL l) fun a ha => by have := h3 a ha; omega, lowL_none (L := toL r) fun a ha => by have := h4 a ha; omega, uppL_all (L := toL r) fun a ha => h4 a ha]
        simp
theorem toL_drop (k : Int) : ∀ t : T, srt t → hasT k t = true → toL (withoutT k t) = lowL k (toL t) ++ uppL k (toL t)
  | .leaf, _, h => by cases h
  | .node l k1 v1 r, h, hh => by
    obtain ⟨h1, h2, h3, h4⟩ := srt_node h
    have il := toL_drop k l h1
    have ir := toL_drop k r h2
    rw [low_node, upp_node]
    unfold hasT at hh
    unfold withoutT
    split
    · rename_i c
      rw [if_pos c] at hh
      rw [toL_even, il hh, if_neg (by omega), lowL_none (L := toL r) fun a ha => by have := h4 a ha; omega, uppL_all (L := toL r) fun a ha => by have := h4 a ha; omega]
      simp
    · rename_i c0
      rw [if_neg c0] at hh
      split
      · rename_i c
        rw [if_pos c] at hh
        rw [toL_even, ir hh, lowL_all (L := toL l) fun a ha => by have := h3 a ha; omega, uppL_none (L := toL l) fun a ha => by have := h3 a ha; omega]
        simp
      · have e : k = k1 := by omega
        subst e
        rw [lowL_all (L := toL l) fun a ha => h3 a ha, uppL_none (L := toL l) fun a ha => by have := h3 a ha; omega, lowL_none (L := toL r) fun a ha => by have := h4 a ha; omega, uppL_all (L := toL r) fun a ha => h4 a ha]
        cases r with
        | leaf => simp [toL]
        | node rl rk rv rr =>
          dsimp only
          rw [toL_even, ← toL_least rl rk rv rr]
          simp
theorem below_low (k : Int) : ∀ t : T, srt t → belowT k t = (lowL k (toL t)).length
  | .leaf, _ => rfl
  | .node l k1 v1 r, h => by
    obtain ⟨h1, h2, h3, h4⟩ := srt_node h
    have il := below_low k l h1
    have ir := below_low k r h2
    rw [low_node]
    unfold belowT
    split
    · rename_i c
      rw [lowL_all (L := toL l) fun a ha => by have := h3 a ha; omega, List.length_append, List.length_append, toL_len, ir]
      simp only [List.length_cons, List.length_nil]
      omega
    · rename_i c
      rw [lowL_none (L := toL r) fun a ha => by have := h4 a ha; omega, il]
      simp
end Go.Proofs.Ytjfbiabgeickjaa.H
/-! ### AtmP -/
namespace Go.Proofs.Ytjfbiabgeickjaa.H
open Go.RowKit Go.Proofs.Ytjfbiabgeickjaa.P Go.Proofs.YtjfbiabgeickjaaW.PrintWords Go.Proofs.YtjfbiabgeickjaaW.PrintLast Go.Proofs.YtjfbiabgeickjaaW.PrintMore
set_option linter.unusedVariables false
/-- A tree has of each key as many as told; what is none is not there. -/
def Rep (t : T) (c : Int → Int) : Prop := srt t ∧ bal t ∧ ∀ k v, (k, v) ∈ toL t ↔ c k = v ∧ v ≠ 0
theorem rep_leaf : Rep .leaf (fun _ => 0) := by
  refine ⟨List.Pairwise.nil, trivial, fun k v => ?_⟩
  constructor
  · intro h; cases h
  · rintro ⟨h1, h2⟩; exact absurd h1.symm h2
theorem rep_num {t : T} {c : Int → Int} (h : Rep t c) (k : Int) : numT k t = c k := by
  unfold numT
  cases hg : getT k t with
  | some v => exact ((h.2.2 k v).1 ((get_iff k v t h.1).1 hg)).1.symm
  | none =>
    by_cases hc : c k = 0
    · exact hc.symm
    · have := (get_iff k (c k) t h.1).2 ((h.2.2 k (c k)).2 ⟨rfl, hc⟩)
      rw [hg] at this; cases this
theorem rep_has {t : T} {c : Int → Int} (h : Rep t c) (k : Int) : hasT k t = true ↔ c k ≠ 0 := by
  rw [has_iff k t h.1]
  constructor
  · rintro ⟨v, hv⟩
    have := (h.2.2 k v).1 hv
    rw [this.1]; exact this.2
  · intro hc; exact ⟨c k, (h.2.2 k (c k)).2 ⟨rfl, hc⟩⟩
def upd (c : Int → Int) (k by_ : Int) : Int → Int := fun x => c x + if x = k then by_ else 0
theorem mem_low {k a b : Int} {L : List (Int × Int)} : (a, b) ∈ lowL k L ↔ (a, b) ∈ L ∧ a < k := by
  unfold lowL; rw [List.mem_filter]; simp
theorem mem_upp {k a b : Int} {L : List (Int × Int)} : (a, b) ∈ uppL k L ↔ (a, b) ∈ L ∧ k < a := by
  unfold uppL; rw [List.mem_filter]; simp
theorem rep_more {t : T} {c : Int → Int} (h : Rep t c) (k by_ : Int) (hd : c k + by_ = 0 → c k ≠ 0) : Rep (moreT k by_ t) (upd c k by_) := by
  unfold moreT
  rw [rep_num h k]
  by_cases h0 : c k + by_ = 0
  · rw [if_pos h0]
    have hh := (rep_has h k).2 (hd h0)
    refine ⟨h.1.sublist (toL_without k t).1, (bal_without k t h.2.1).1, fun a b => ?_⟩
    rw [toL_drop k t h.1 hh, List.mem_append, mem_low, mem_upp, h.2.2 a b]
    unfold upd
    by_cases e : a = k
    · subst e
      rw [if_pos rfl]
      constructor
      · rintro (⟨_, h2⟩ | ⟨_, h2⟩) <;> omega
      · rintro ⟨h1, h2⟩; omega
    · rw [if_neg e, Int.add_zero]
      constructor
      · rintro (⟨h1, _⟩ | ⟨h1, _⟩) <;> exact h1
      · intro h1
        rcases Int.lt_or_gt_of_ne e with h2 | h2
        · exact .inl ⟨h1, h2⟩
        · exact .inr ⟨h1, h2⟩
  · rw [if_neg h0]
    obtain ⟨hs, hm⟩ := mem_with k (c k + by_) t h.1
    refine ⟨hs, (bal_with k _ t h.2.1).1, fun a b => ?_⟩
    rw [hm a b, h.2.2 a b]
    unfold upd
    by_cases e : a = k
    · subst e
      rw [if_pos rfl]
      constructor
      · rintro (⟨_, h2⟩ | ⟨h1, _⟩)
        · exact ⟨h2.symm, by omega⟩
        · exact absurd rfl h1
      · rintro ⟨h1, h2⟩; exact .inl ⟨rfl, h1.symm⟩
    · rw [if_neg e, Int.add_zero]
      constructor
      · rintro (⟨h1, _⟩ | ⟨_, h2⟩)
        · exact absurd h1 e
        · exact h2
      · intro h1; exact .inr ⟨e, h1⟩
/-- What rises strictly is told by its members. -/
theorem srt_ext : ∀ (L M : List (Int × Int)), (L.Pairwise fun a b => a.1 < b.1) → (M.Pairwise fun a b => a.1 < b.1) → (∀ a b, (a, b) ∈ L ↔ (a, b) ∈ M) → L = M
  | [], [], _, _, _ => rfl
  | [], y :: M, _, _, h => absurd ((h y.1 y.2).2 (List.mem_cons_self ..)) (fun h => by cases h)
  | x :: L, [], _, _, h => absurd ((h x.1 x.2).1 (List.mem_cons_self ..)) (fun h => by cases h)
  | x :: L, y :: M, hL, hM, h => by
    rw [List.pairwise_cons] at hL hM
    have hx := (h x.1 x.2).1 (List.mem_cons_self ..)
    have hy := (h y.1 y.2).2 (List.mem_cons_self ..)
    have exy : x = y := by
      rcases List.mem_cons.1 hx with e | e
      · exact e
      · rcases List.mem_cons.1 hy with e2 | e2
        · exact e2.symm
        · have a1 := hM.1 _ e
          have a2 := hL.1 _ e2
          have a1' : y.1 < x.1 := a1
          have a2' : x.1 < y.1 := a2
          omega
    subst exy
    rw [srt_ext L M hL.2 hM.2 (fun a b => ?_)]
    have hab := h a b
    constructor
    · intro hm
      rcases List.mem_cons.1 (hab.1 (List.mem_cons_of_mem _ hm)) with e | e
      · have a1 := hL.1 _ hm
        rw [← e] at a1
        exact absurd a1 (Int.lt_irrefl _)
      · exact e
    · intro hm
      rcases List.mem_cons.1 (hab.2 (List.mem_cons_of_mem _ hm)) with e | e
      · have a1 := hM.1 _ hm
        rw [← e] at a1
        exact absurd a1 (Int.lt_irrefl _)
      · exact e
theorem rep_eq {t u : T} {c : Int → Int} (h : Rep t c) (g : Rep u c) : toL t = toL u := srt_ext _ _ h.1 g.1 (fun a b => by rw [h.2.2 a b, g.2.2 a b])
end Go.Proofs.Ytjfbiabgeickjaa.H
/-! ### Atm2 -/
namespace Go.Proofs.Ytjfbiabgeickjaa.H
open Go.RowKit Go.Proofs.Ytjfbiabgeickjaa.P Go.Proofs.YtjfbiabgeickjaaW.PrintWords Go.Proofs.YtjfbiabgeickjaaW.PrintLast Go.Proofs.YtjfbiabgeickjaaW.PrintMore
set_option linter.unusedVariables false
set_option linter.unusedSimpArgs false
theorem tlen_any (P : Option Addr) (x : Tab) (w : World) (h : TabAtm w P x) :
    Calls Try.prog 11 #[.pointer P] w fun e w' => e = .returned (.int .i64 (sz x.b : Nat)) ∧ w' = w := by
  have ho := own_some P x w h
  obtain ⟨g, pb, pr, rfl, hg, hb, hr⟩ := h
  have hl := len_any pb x.b w hb
  have x0 := blk_cell hg 0
  clear hg hb hr
  go_enter Try.func11, Try.ntmps11
  go_wp2_with fail
  refine ho.mono ?_
  rintro e w1 ⟨rfl, rfl⟩
  clear ho
  go_wp2_with fail
  refine hl.mono ?_
  rintro e w1 ⟨rfl, rfl⟩
  clear hl
  go_wp2_with fail
  go_ret
  exact ⟨rfl, rfl⟩
theorem cb {W V : World} {a : Addr} {u : Value} (h : W.cell? a = some u) (hb : Below W.heap.size W V) : V.cell? a = some u := by
  have := hb.block a.block (World.block_lt_of_cell? W a h)
  simpa [World.cell?, this] using h
def keyF (f t : Int) : Int := Go.bits .or .u64 (IntKind.u64.wrap ((IntKind.u64.wrap f) * 4294967296)) (IntKind.u64.wrap t)
theorem own_ptr (a : Addr) (w : World) : Calls Try.prog 28 #[.pointer (some a)] w fun e w' => e = .returned (.pointer (some a)) ∧ w' = w := by
  go_enter Try.func28, Try.ntmps28
  go_wp2_with fail
  go_ret
  exact ⟨rfl, rfl⟩
set_option maxRecDepth 20000 in
set_option maxHeartbeats 2000000 in
theorem count_any (P : Option Addr) (x : Tab) (f t : Int) (w : World) (h : TabAtm w P x) :
    Calls Try.prog 13 #[.pointer P, .agg #[.int .u32 f, .int .u32 t]] w fun e w' => e = .returned (.int .i64 (numT (keyF f t) x.r)) ∧ Below w.heap.size w w' := by
  have hu := Try.underlying30
  have hb0 : Below w.heap.size w (w.alloc (.cells #[.int .u32 f, .int .u32 t] 30)) := (Below.refl w.heap.size w).alloc (Nat.le_refl _) _
  have HY := Aside0.mk (blk_new w (.cells #[.int .u32 f, .int .u32 t] 30))
  have h0 := h.below hb0
  have HB0 := Aside0.mk hb0
  have ho := own_some P x _ h0
  clear h
  obtain ⟨g, pb, pr, rfl, hg, hb, hr⟩ := h0
  have HR := Aside0.mk hr
  have x1 := blk_cell hg 1
  have y0 := blk_cell HY.out 0
  have y1 := blk_cell HY.out 1
  clear hg hb hr hb0
  have HKK := Aside0.mk (fun W => atoms_key.calls f t (keyF f t) W rfl)
  generalize keyF f t = kk at *
  go_enter Try.func13, Try.ntmps13
  go_wp2_with fail
  generalize (w.alloc (.cells #[.int .u32 f, .int .u32 t] 30)) = w0 at *
  have hc : w0.cell? ⟨g, 1, none⟩ = some (.pointer pr) ∧ w0.cell? ⟨w.heap.size, 0, none⟩ = some (.int .u32 f) ∧ w0.cell? ⟨w.heap.size, 1, none⟩ = some (.int .u32 t) := ⟨x1, y0, y1⟩
  clear x1 y0 y1 ho HY
  have HCC := Aside0.mk hc
  have HBD := Aside0.mk (below_drew (Below.refl w0.heap.size w0))
  have HKY := Aside0.mk (HKK.out w0.drew)
  go_region_held3 (fun w' => w'.cell? ⟨g, 1, none⟩ = some (.pointer pr) ∧ w'.cell? ⟨w.heap.size, 0, none⟩ = some (.int .u32 f) ∧ w'.cell? ⟨w.heap.size, 1, none⟩ = some (.int .u32 t)) (first | assumption | go_keep) (first
    | (go_at_call 28; refine (own_ptr _ _).mono ?_; rintro e w1 ⟨rfl, rfl⟩)
    | (go_at_call 33; refine HKY.out.mono ?_; rintro e w1 ⟨rfl, hb⟩; have HB1 := Aside0.mk (HBD.out.trans (hb.mono HBD.out.size)); have K1 : w1.cell? ⟨g, 1, none⟩ = some (.pointer pr) ∧ w1.cell? ⟨w.heap.size, 0, none⟩ = some (.int .u32 f) ∧ w1.cell? ⟨w.heap.size, 1, none⟩ = some (.int .u32 t) := ⟨cb HCC.out.1 HB1.out, cb HCC.out.2.1 HB1.out, cb HCC.out.2.2 HB1.out⟩; clear hb)
    | (go_at_call 32; refine (get_any pr kk x.r _ (HR.out.below HB1.out)).mono ?_; rintro e w2 ⟨rfl, rfl⟩))
  go_wp2_with fail
  go_ret
  exact ⟨rfl, HB0.out.trans (HB1.out.mono HB0.out.size)⟩
end Go.Proofs.Ytjfbiabgeickjaa.H
/-! ### Atm3 -/
namespace Go.Proofs.Ytjfbiabgeickjaa.H
open Go.RowKit Go.Proofs.Ytjfbiabgeickjaa.P Go.Proofs.YtjfbiabgeickjaaW.PrintWords Go.Proofs.YtjfbiabgeickjaaW.PrintLast Go.Proofs.YtjfbiabgeickjaaW.PrintMore
set_option linter.unusedVariables false
set_option linter.unusedSimpArgs false
def placeT (k : Int) (t : T) : Nat := sz (cutT k t).1
theorem place_any (P : Option Addr) (x : Tab) (k : Int) (w : World) (h : TabAtm w P x) (hs : sz x.b ≤ 40000) :
    Calls Try.prog 38 #[.pointer P, .int .u64 k] w fun e w' => e = .returned (.int .i64 (placeT k x.b : Nat)) ∧ Below w.heap.size w w' := by
  obtain ⟨g, pb, pr, rfl, hg, hb, hr⟩ := h
  have hsp := split_any pb k x.b w hb hs
  have x0 := blk_cell hg 0
  clear hg hb hr hs
  go_enter Try.func38, Try.ntmps38
  go_wp2_with fail
  refine hsp.mono ?_
  rintro e w1 ⟨⟨xa, ya, rfl, h1, _⟩, hb⟩
  have HB := Aside0.mk hb
  have hl := len_any _ _ w1 h1
  clear hsp hb h1 x0
  rw [show (sz (cutT k x.b).1) = placeT k x.b from rfl] at hl
  go_wp2_with fail
  refine hl.mono ?_
  rintro e w2 ⟨rfl, rfl⟩
  clear hl
  go_wp2_with fail
  go_ret
  exact ⟨rfl, HB.out⟩
theorem of_any (P : Option Addr) (x : Tab) (a : Int) (w : World) (h : TabAtm w P x) (hs : sz x.b ≤ 40000) (h0 : 0 ≤ a) (h1 : a ≤ 4294967295) (hp : placeT (a + 1) x.b ≤ 40000) :
    Calls Try.prog 17 #[.pointer P, .int .u32 a] w fun e w' => e = .returned (.int .i64 ((placeT (a + 1) x.b : Nat) - 1)) ∧ Below w.heap.size w w' := by
  have ho := own_some P x w h
  have hpl := place_any P x (a + 1) w h hs
  obtain ⟨g, pb, pr, rfl, _⟩ := h
  generalize placeT (a + 1) x.b = pl at *
  clear hs
  go_enter Try.func17, Try.ntmps17
  go_wp2_with fail
  refine ho.mono ?_
  rintro e w1 ⟨rfl, rfl⟩
  clear ho
  go_wp2_with fail
  refine hpl.mono ?_
  rintro e w2 ⟨rfl, hb⟩
  have HB := Aside0.mk hb
  clear hpl hb
  go_wp2_with fail
  go_ret
  exact ⟨rfl, HB.out⟩
end Go.Proofs.Ytjfbiabgeickjaa.H
/-! ### Atm4 -/
namespace Go.Proofs.Ytjfbiabgeickjaa.H
open Go.RowKit Go.Proofs.Ytjfbiabgeickjaa.P Go.Proofs.YtjfbiabgeickjaaW.PrintWords Go.Proofs.YtjfbiabgeickjaaW.PrintLast Go.Proofs.YtjfbiabgeickjaaW.PrintMore
set_option linter.unusedVariables false
set_option linter.unusedSimpArgs false
theorem TreeAt.farT {W : World} {h j : Nat} {u : Value} {cs : Array Value} (hh : W.heap[h]? = some (.cells cs 63 (0, 0))) : ∀ {t : T} {p : Option Addr}, TreeAt W p t → TreeAt (W.setCell ⟨h, j, none⟩ u) p t
  | .leaf, _, h1 => h1
  | .node l k v r, _, ⟨g, pl, pr, h1, h2, h3, h4⟩ => by
    have hne : g ≠ h := by
      rintro rfl
      rw [hh] at h2
      injection h2 with h2
      injection h2 with _ h2
      exact absurd h2 (by decide)
    exact ⟨g, pl, pr, h1, blk_far h2 (p := ⟨h, j, none⟩) hne _, h3.farT hh, h4.farT hh⟩
theorem RootAt.farT {W : World} {h j : Nat} {u : Value} {cs : Array Value} (hh : W.heap[h]? = some (.cells cs 63 (0, 0))) {t : T} {P : Option Addr} (hr : RootAt W P t) : RootAt (W.setCell ⟨h, j, none⟩ u) P t := by
  rcases hr with hr | ⟨g, p, h1, h2, h3⟩
  · exact .inl hr
  · have hne : g ≠ h := by
      rintro rfl
      rw [hh] at h2
      injection h2 with h2
      injection h2 with _ h2
      exact absurd h2 (by decide)
    exact .inr ⟨g, p, h1, blk_far h2 (p := ⟨h, j, none⟩) hne _, h3.farT hh⟩
def moreOk (k by_ : Int) (t : T) : Prop := sz t ≤ 40000 ∧ fullT k t = false ∧ (numT k t + by_ = 0 → hasT k t = true) ∧ -100000 ≤ numT k t ∧ numT k t ≤ 100000
def endsOk (by_ : Int) : List Int → T → Prop
  | [], _ => True
  | k :: es, t => moreOk k by_ t ∧ endsOk by_ es (moreT k by_ t)
def endsT (by_ : Int) : List Int → T → T
  | [], t => t
  | k :: es, t => endsT by_ es (moreT k by_ t)
def endsL (f t : Int) : List Int := if t < 4294967295 then [IntKind.u64.wrap f, IntKind.u64.wrap (IntKind.u64.wrap t + 1)] else [IntKind.u64.wrap f]
theorem ends_f (f t : Int) : atoms_ends.f f t = some (endsL f t) := by
  unfold atoms_ends.f endsL
  simp only [Option.bind_some]
  split <;> rfl
def withTab (f t by_ : Int) (x : Tab) : Tab := ⟨endsT by_ (endsL f t) x.b, moreT (keyF f t) by_ x.r, x.n + by_⟩
set_option maxRecDepth 20000 in
set_option maxHeartbeats 4000000 in
theorem with_tab (P : Option Addr) (x : Tab) (f t by_ : Int) (w : World) (h : TabAtm w P x) (h1 : moreOk (keyF f t) by_ x.r) (h2 : endsOk by_ (endsL f t) x.b) (h3 : -100 ≤ by_) (h4 : by_ ≤ 100) (h5 : -100000 ≤ x.n) (h6 : x.n ≤ 100000) :
    Calls Try.prog 29 #[.pointer P, .agg #[.int .u32 f, .int .u32 t], .int .i64 by_] w fun e w' => (∃ g, e = .returned (.pointer g) ∧ TabAtm w' g (withTab f t by_ x)) ∧ Below w.heap.size w w' := by
  have hu := Try.underlying30
  have hb0 : Below w.heap.size w (w.alloc (.cells #[.int .u32 f, .int .u32 t] 30)) := (Below.refl w.heap.size w).alloc (Nat.le_refl _) _
  have HY := Aside0.mk (blk_new w (.cells #[.int .u32 f, .int .u32 t] 30))
  have h0 := h.below hb0
  have HB0 := Aside0.mk hb0
  clear h
  obtain ⟨g, pb, pr, rfl, hg, hb, hr⟩ := h0
  have HPB := Aside0.mk hb
  have HPR := Aside0.mk hr
  have HM := Aside0.mk h1
  have HE := Aside0.mk h2
  have x0 := blk_cell hg 0
  have x1 := blk_cell hg 1
  have x2 := blk_cell hg 2
  have y0 := blk_cell HY.out 0
  have y1 := blk_cell HY.out 1
  have HKK := Aside0.mk (fun W => atoms_key.calls f t (keyF f t) W rfl)
  have HW := Aside0.mk (show withTab f t by_ x = ⟨endsT by_ (endsL f t) x.b, moreT (keyF f t) by_ x.r, x.n + by_⟩ from rfl)
  generalize withTab f t by_ x = wt at *
  generalize keyF f t = kk at *
  generalize hxn : x.n = xn at *
  clear hg hb hr hb0 h1 h2 hxn
  go_enter Try.func29, Try.ntmps29
  go_wp2_with fail
  generalize (w.alloc (.cells #[.int .u32 f, .int .u32 t] 30)) = w0 at *
  have hc : w0.cell? ⟨g, 0, none⟩ = some (.pointer pb) ∧ w0.cell? ⟨g, 1, none⟩ = some (.pointer pr) ∧ w0.cell? ⟨g, 2, none⟩ = some (.int .i64 xn) ∧ w0.cell? ⟨w.heap.size, 0, none⟩ = some (.int .u32 f) ∧ w0.cell? ⟨w.heap.size, 1, none⟩ = some (.int .u32 t) := ⟨x0, x1, x2, y0, y1⟩
  clear x0 x1 x2 y0 y1
  have HCC := Aside0.mk hc
  have HBD := Aside0.mk (below_drew (Below.refl w0.heap.size w0))
  have HKY := Aside0.mk (HKK.out w0.drew)
  go_region_held3 (fun w' => w'.cell? ⟨g, 0, none⟩ = some (.pointer pb) ∧ w'.cell? ⟨g, 1, none⟩ = some (.pointer pr) ∧ w'.cell? ⟨g, 2, none⟩ = some (.int .i64 xn) ∧ w'.cell? ⟨w.heap.size, 0, none⟩ = some (.int .u32 f) ∧ w'.cell? ⟨w.heap.size, 1, none⟩ = some (.int .u32 t)) (first | assumption | go_keep) (first
    | (go_at_call 33; refine HKY.out.mono ?_; rintro e w1 ⟨rfl, hb⟩; have HB1 := Aside0.mk (HBD.out.trans (hb.mono HBD.out.size)); have K1 : w1.cell? ⟨g, 0, none⟩ = some (.pointer pb) ∧ w1.cell? ⟨g, 1, none⟩ = some (.pointer pr) ∧ w1.cell? ⟨g, 2, none⟩ = some (.int .i64 xn) ∧ w1.cell? ⟨w.heap.size, 0, none⟩ = some (.int .u32 f) ∧ w1.cell? ⟨w.heap.size, 1, none⟩ = some (.int .u32 t) := ⟨cb HCC.out.1 HB1.out, cb HCC.out.2.1 HB1.out, cb HCC.out.2.2.1 HB1.out, cb HCC.out.2.2.2.1 HB1.out, cb HCC.out.2.2.2.2 HB1.out⟩; clear hb)
    | (go_at_call 43; refine (more_any pr kk by_ x.r _ (HPR.out.below HB1.out) HM.out.1 HM.out.2.1 HM.out.2.2.1 HM.out.2.2.2.1 HM.out.2.2.2.2 h3 h4).mono ?_; rintro e w2 ⟨⟨gr, rfl, hr2⟩, hb⟩; have HB2 := Aside0.mk (HB1.out.trans (hb.mono HB1.out.size)); have HR2 := Aside0.mk hr2; have K2 : w2.cell? ⟨g, 0, none⟩ = some (.pointer pb) ∧ w2.cell? ⟨g, 1, none⟩ = some (.pointer pr) ∧ w2.cell? ⟨g, 2, none⟩ = some (.int .i64 xn) ∧ w2.cell? ⟨w.heap.size, 0, none⟩ = some (.int .u32 f) ∧ w2.cell? ⟨w.heap.size, 1, none⟩ = some (.int .u32 t) := ⟨cb HCC.out.1 HB2.out, cb HCC.out.2.1 HB2.out, cb HCC.out.2.2.1 HB2.out, cb HCC.out.2.2.2.1 HB2.out, cb HCC.out.2.2.2.2 HB2.out⟩; clear hb hr2))
  have hwr : IntKind.i64.wrap (xn + by_) = xn + by_ := by rw [IntKind.wrap_i64]; omega
  rw [hwr]
  have hbn : Below w0.heap.size w0 (w2.alloc (.cells #[.pointer pb, .pointer (some ⟨gr, 0, none⟩), .int .i64 (xn + by_)] 63)) := HB2.out.alloc HB2.out.size _
  have HTB := Aside0.mk (blk_new w2 (.cells #[.pointer pb, .pointer (some ⟨gr, 0, none⟩), .int .i64 (xn + by_)] 63))
  have HR3 := Aside0.mk (HR2.out.below ((Below.refl _ w2).alloc (Nat.le_refl _) (.cells #[.pointer pb, .pointer (some ⟨gr, 0, none⟩), .int .i64 (xn + by_)] 63)))
  have HPB3 := Aside0.mk (HPB.out.below hbn)
  have HB3 := Aside0.mk (HB0.out.trans (hbn.mono HB0.out.size))
  have HGT := Aside0.mk (Nat.le_trans HB0.out.size HB2.out.size)
  have z0 := cb HCC.out.2.2.2.1 hbn
  have z1 := cb HCC.out.2.2.2.2 hbn
  have hen := fun W => atoms_ends.calls f t (endsL f t) W (ends_f f t)
  generalize hgt : w2.heap.size = gt at *
  generalize (w2.alloc (.cells #[.pointer pb, .pointer (some ⟨gr, 0, none⟩), .int .i64 (xn + by_)] 63)) = w3 at *
  have hen := hen w3
  have HEL := Aside0.mk (show (endsL f t).length ≤ 2 from by unfold endsL; split <;> simp)
  generalize endsL f t = es at *
  clear hbn hwr HR2 HPB HB2 HB1 HY HPR HKY HBD HCC hc K1 K2 HB0 HKK HM hgt
  go_wp2_with fail
  refine hen.mono ?_
  rintro e w4 ⟨v0, rfl, hv, hb⟩
  have HB4 := Aside0.mk (HB3.out.trans (hb.mono HB3.out.size))
  have HT4 := Aside0.mk (blk_below HTB.out hb)
  have HPB4 := Aside0.mk (HPB3.out.below hb)
  have HR4 := Aside0.mk (HR3.out.below hb)
  have hgl : gt < w3.heap.size := by
    rcases Nat.lt_or_ge gt w3.heap.size with h | h
    · exact h
    · have := HTB.out
      rw [Array.getElem?_eq_none h] at this
      cases this
  obtain ⟨ad, c5, hv5, hne, hcell⟩ : ∃ (ad : Option Addr) (c5 : Nat), v0 = .slice ad es.length c5 ∧ (∀ i, i < es.length → ∃ a, ad = some a ∧ (a.add i).block ≠ gt) ∧ ∀ i (a : Addr), i < es.length → ad = some a → w4.cell? (a.add i) = some (.int .u64 (rd es (i : Int))) := by
    obtain ⟨inner, hown⟩ := Kd.R_own hv
    obtain ⟨A5, c5, e5, hc5, hC5⟩ := Kd.R_reads hv
    refine ⟨A5, c5, e5, fun i hi => ?_, fun i a hi ha => ?_⟩
    · rcases hown.2 with ⟨_, h0⟩ | ⟨b, cap, cur, e6, hb6, _⟩
      · omega
      · rw [e5] at e6
        injection e6 with e7
        exact ⟨_, e7, by simp only [Addr.add]; split <;> (show b ≠ gt; omega)⟩
    · obtain ⟨ad2, e2, h2⟩ := Kd.at_int hC5 (i : Int) (by omega) (by omega)
      rw [ha] at e2
      cases e2
      rw [Int.toNat_natCast] at h2
      exact h2
  subst hv5
  have HNE := Aside0.mk hne
  have HCL := Aside0.mk hcell
  have HLN := Aside0.mk HEL.out
  clear hen hv hb hne hcell HTB HPB3 HR3 HB3 z0 z1 hgl
  go_wp2_with fail
  go_loopw [33, 9] (fun s33 s9 wr => ∃ (j : Nat) (pb' : Option Addr) (tb : T), s33 = .int .i64 j ∧ j ≤ es.length ∧ Aside0 (endsT by_ (es.drop j) tb = endsT by_ es x.b) ∧ Aside0 (endsOk by_ (es.drop j) tb) ∧ Aside0 (RootAt wr pb' tb) ∧ Aside0 (RootAt wr (some ⟨gr, 0, none⟩) (moreT kk by_ x.r)) ∧ Aside0 (wr.heap[gt]? = some (.cells #[.pointer pb', .pointer (some ⟨gr, 0, none⟩), .int .i64 (xn + by_)] 63 (0, 0))) ∧ Aside0 (∀ i (a : Addr), i < es.length → ad = some a → wr.cell? (a.add i) = some (.int .u64 (rd es (i : Int)))) ∧ Aside0 (Below w.heap.size w wr)) (fun s _ _ => es.length - (intOf s).toNat)
  case atStart => exact ⟨0, pb, x.b, rfl, Nat.zero_le _, ⟨rfl⟩, HE, HPB4, HR4, HT4, HCL, HB4⟩
  case round =>
    clear HPB4 HR4 HT4 HCL HB4 HE
    obtain ⟨j, pb', tb, rfl, hj, HT1, HE, HPB, HR, HTB, HCL, HB⟩ := hrel
    by_cases h1 : j < es.length
    · have h1' : (j : Int) < (es.length : Int) := by omega
      obtain ⟨a, ha, hna⟩ := HNE.out j h1
      have hj2 : j < 2 := Nat.lt_of_lt_of_le h1 HLN.out
      have y0 := HCL.out j a h1 ha
      subst ha
      have hdr : es.drop j = rd es (j : Int) :: es.drop (j + 1) := by
        rw [List.drop_eq_getElem_cons h1]
        congr 1
        unfold rd
        rw [Int.toNat_natCast, List.getD_eq_getElem?_getD, List.getElem?_eq_getElem h1]
        rfl
      have HE1 := Aside0.mk (show moreOk (rd es (j : Int)) by_ tb ∧ endsOk by_ (es.drop (j + 1)) (moreT (rd es (j : Int)) by_ tb) from by have := HE.out; rw [hdr] at this; exact this)
      have HT2 := Aside0.mk (show endsT by_ (es.drop (j + 1)) (moreT (rd es (j : Int)) by_ tb) = endsT by_ es x.b from by have := HT1.out; rw [hdr] at this; exact this)
      have z0 := blk_cell HTB.out 0
      have zf : wr.frozen? ⟨gt, 0, none⟩ = false := blk_frozen HTB.out 0
      have hmo := more_any pb' (rd es (j : Int)) by_ tb wr HPB.out HE1.out.1.1 HE1.out.1.2.1 HE1.out.1.2.2.1 HE1.out.1.2.2.2.1 HE1.out.1.2.2.2.2 h3 h4
      clear hdr HE HT1
      generalize rd es (j : Int) = kj at *
      go_wp2_with fail
      refine hmo.mono ?_
      rintro e w5 ⟨⟨gb, rfl, hr⟩, hb⟩
      have HB5 := Aside0.mk (HB.out.trans (hb.mono HB.out.size))
      have HTB5 := Aside0.mk (blk_below HTB.out hb)
      have HR5 := Aside0.mk (HR.out.below hb)
      have HPB5 := Aside0.mk hr
      have HCL5 := Aside0.mk (fun i (b : Addr) hi hb2 => cb (HCL.out i b hi hb2) hb)
      have z0 := blk_cell HTB5.out 0
      have zf : w5.frozen? ⟨gt, 0, none⟩ = false := blk_frozen HTB5.out 0
      clear hmo hr hb y0 HB HTB HR HPB HCL
      go_wp2_with fail
      go_roundw
      case rel =>
        refine ⟨j + 1, some ⟨gb, 0, none⟩, moreT kj by_ tb, by go_num, by omega, HT2, ⟨HE1.out.2⟩, ⟨HPB5.out.farT HTB5.out⟩, ⟨HR5.out.farT HTB5.out⟩, ⟨blk_put HTB5.out 0 _ rfl⟩, ⟨fun i b hi hb2 => ?_⟩, ⟨HB5.out.setCell (p := ⟨gt, 0, none⟩) HGT.out _⟩⟩
        obtain ⟨b', e1, e2⟩ := HNE.out i hi
        rw [hb2] at e1
        cases e1
        have hc1 := HCL5.out i b hi hb2
        rw [World.cell?_of_block (w := w5) (Below.heap_setCell w5 ⟨gt, 0, none⟩ _ (b.add i).block e2)]
        exact hc1
      case measure => simp [intOf]; omega
    · have h1' : ¬ (j : Int) < (es.length : Int) := by omega
      have HZ := Aside0.mk (show tb = endsT by_ es x.b from by rw [← HT1.out, List.drop_of_length_le (by omega)]; rfl)
      go_wp2_with fail
      go_ret
      exact ⟨⟨_, rfl, gt, pb', some ⟨gr, 0, none⟩, rfl, by rw [HW.out]; exact HTB.out, by rw [HW.out]; show RootAt _ _ (endsT by_ es x.b); rw [← HZ.out]; exact HPB.out, by rw [HW.out]; exact HR.out⟩, HB.out⟩
end Go.Proofs.Ytjfbiabgeickjaa.H
