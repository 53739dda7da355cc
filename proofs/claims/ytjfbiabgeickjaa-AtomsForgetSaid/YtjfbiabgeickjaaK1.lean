/- Reg Trees in the heap; New, top, high, size, Len, Height. even: walked. with: walked. least: walked. without: walked. New, top, Len, Height, Get, Put, Drop: walked. Put, Drop: walked. below, At: walked. atoms: New, own, more: walked. Nothing of it is in this program. join: walked. -/
import Derived.Deep.RegionHeld3
import Derived.Test.YtjfbiabgeickjaaPx0
import Derived.Deep.DeepCutAuto
import Derived.BigQuiet
import Derived.Deep.LoopGhost
/-! ### Reg -/
namespace Go.Proofs.Ytjfbiabgeickjaa.H
section
variable {P : Program} {ops : Array Oper} {Q : Exit → Act → World → Prop} {md : Region.Mode} {S : World → Prop}
/-- An operation that yields its value in every world that meets S is taken first; where its value goes is written out. -/
theorem held_take (i : Nat) (d : Option Tmp) {oi : Oper} {v : Value} {fuel : Nat} {listed : Array Bool} {a : Act} {w : World} (hi : ops[i]? = some oi) (hd : oi.dst = d)
    (hs : Region.noSelect ops = true) (hf : Region.free md ops listed i = true) (hr : (Region.ready md ops listed).contains i = true)
    (hQ : ∀ c a w, Q (.panic c) (a.put d v) w → Q (.panic c) a w) (hw : Region.wanted oi (yielded ops a.tmps) = true) (hy : ∀ w, S w → (execOp a.eval oi).run P w = .ok (.value v) w) (hS : S w)
    (h : wpAnyH P md ops Q S fuel (listed.setIfInBounds i true) (a.put d v) w) : wpAnyH P md ops Q S (fuel + 1) listed a w := by
  subst hd
  exact wpAnyH_take hi hs hf hr hQ (.inl ⟨hw, hy⟩) hS h
/-- An operation whose guard fails is passed over. -/
theorem held_skip (i : Nat) (d : Option Tmp) {oi : Oper} {fuel : Nat} {listed : Array Bool} {a : Act} {w : World} (hi : ops[i]? = some oi) (hd : oi.dst = d)
    (hs : Region.noSelect ops = true) (hf : Region.free md ops listed i = true) (hr : (Region.ready md ops listed).contains i = true)
    (hQ : ∀ c a w, Q (.panic c) (a.put d undef) w → Q (.panic c) a w) (hw : Region.wanted oi (yielded ops a.tmps) = false) (hS : S w)
    (h : wpAnyH P md ops Q S fuel (listed.setIfInBounds i true) (a.put d undef) w) : wpAnyH P md ops Q S (fuel + 1) listed a w := by
  subst hd
  exact wpAnyH_take hi hs hf hr hQ (.inr ⟨hw, rfl⟩) hS h
end
end Go.Proofs.Ytjfbiabgeickjaa.H
/-! ### Tree1 -/
namespace Go.Proofs.Ytjfbiabgeickjaa.H
open Go.RowKit Go.Proofs.Ytjfbiabgeickjaa.P Go.Proofs.YtjfbiabgeickjaaW.PrintWords Go.Proofs.YtjfbiabgeickjaaW.PrintLast Go.Proofs.YtjfbiabgeickjaaW.PrintMore
attribute [local go_sem] max2_int min2_int max_two min_two
set_option linter.unusedVariables false
set_option linter.unusedSimpArgs false
/-- A tree. -/
inductive T where
  | leaf : T
  | node : T → Int → Int → T → T
def ht : T → Nat
  | .leaf => 0
  | .node l _ _ r => 1 + max (ht l) (ht r)
def sz : T → Nat
  | .leaf => 0
  | .node l _ _ r => 1 + sz l + sz r
theorem ht_le : ∀ t : T, ht t ≤ sz t
  | .leaf => Nat.le_refl _
  | .node l _ _ r => by
    have := ht_le l
    have := ht_le r
    simp only [ht, sz]
    omega
/-- A tree's root, as a pointer: what lies in the heap. -/
def TreeAt (W : World) : Option Addr → T → Prop
  | p, .leaf => p = none
  | p, .node l k v r => ∃ g pl pr, p = some ⟨g, 0, none⟩ ∧ W.heap[g]? = some (.cells #[.int .u64 k, .int .i64 v, .pointer pl, .pointer pr, .int .i64 (ht (.node l k v r) : Nat), .int .i64 (sz (.node l k v r) : Nat)] 91 (0, 0)) ∧ TreeAt W pl l ∧ TreeAt W pr r
theorem TreeAt.below {W W' : World} (hb : Below W.heap.size W W') : ∀ {t : T} {p : Option Addr}, TreeAt W p t → TreeAt W' p t
  | .leaf, _, h => h
  | .node l k v r, _, ⟨g, pl, pr, h1, h2, h3, h4⟩ => ⟨g, pl, pr, h1, blk_below h2 hb, TreeAt.below hb h3, TreeAt.below hb h4⟩
theorem below_drewN {B : Nat} {w w1 : World} (h : Below B w w1) (n : Nat) : Below B w (w1.drewN n) := ⟨h.os, h.tape, h.output, h.size, h.block⟩
theorem TreeAt.drewN {W : World} {t : T} {p : Option Addr} (h : TreeAt W p t) (n : Nat) : TreeAt (W.drewN n) p t := h.below (below_drewN (Below.refl _ _) n)
theorem high_any (p : Option Addr) (t : T) (w : World) (h : TreeAt w p t) :
    Calls Try.prog 54 #[.pointer p] w fun e w' => e = .returned (.int .i64 (ht t : Nat)) ∧ w' = w := by
  cases t with
  | leaf =>
    obtain rfl : p = none := h
    go_enter Try.func54, Try.ntmps54
    go_wp2_with fail
    go_ret
    exact ⟨rfl, rfl⟩
  | node l k v r =>
    obtain ⟨g, pl, pr, rfl, hg, _, _⟩ := h
    have c4 := blk_cell hg 4
    generalize hH : ((ht (.node l k v r) : Nat) : Int) = H at *
    generalize ((sz (.node l k v r) : Nat) : Int) = S at *
    clear hH hg
    go_enter Try.func54, Try.ntmps54
    go_wp2_with fail
    go_ret
    exact ⟨rfl, rfl⟩
theorem size_any (p : Option Addr) (t : T) (w : World) (h : TreeAt w p t) :
    Calls Try.prog 45 #[.pointer p] w fun e w' => e = .returned (.int .i64 (sz t : Nat)) ∧ w' = w := by
  cases t with
  | leaf =>
    obtain rfl : p = none := h
    go_enter Try.func45, Try.ntmps45
    go_wp2_with fail
    go_ret
    exact ⟨rfl, rfl⟩
  | node l k v r =>
    obtain ⟨g, pl, pr, rfl, hg, _, _⟩ := h
    have c5 := blk_cell hg 5
    generalize ((ht (.node l k v r) : Nat) : Int) = H at *
    generalize hS : ((sz (.node l k v r) : Nat) : Int) = S at *
    clear hS hg
    go_enter Try.func45, Try.ntmps45
    go_wp2_with fail
    go_ret
    exact ⟨rfl, rfl⟩
set_option maxHeartbeats 1600000 in
set_option maxRecDepth 20000 in
theorem made_any (pl : Option Addr) (l : T) (k v : Int) (pr : Option Addr) (r : T) (w : World) (hl : TreeAt w pl l) (hr : TreeAt w pr r) (hs : sz l + sz r ≤ 100000) :
    Calls Try.prog 48 #[.pointer pl, .agg #[.int .u64 k, .int .i64 v], .pointer pr] w fun e w' => (∃ p, e = .returned (.pointer p) ∧ TreeAt w' p (.node l k v r)) ∧ Below w.heap.size w w' := by
  have HB0 := Aside0.mk ((Below.refl w.heap.size w).alloc (Nat.le_refl _) (.cells #[.int .u64 k, .int .i64 v] 66))
  have hbx := blk_new w (.cells #[.int .u64 k, .int .i64 v] 66)
  have HL := Aside0.mk (hl.below HB0.out)
  have HR := Aside0.mk (hr.below HB0.out)
  have hl1 := ht_le l
  have hr1 := ht_le r
  clear hl hr
  go_enter Try.func48, Try.ntmps48
  go_wp2_with fail
  generalize (w.alloc (.cells #[.int .u64 k, .int .i64 v] 66)) = w0 at *
  have hN : w0.cell? ⟨w.heap.size, 0, none⟩ = some (.int .u64 k) ∧ w0.cell? ⟨w.heap.size, 1, none⟩ = some (.int .i64 v) := ⟨blk_cell hbx 0, blk_cell hbx 1⟩
  clear hbx
  have HLD := Aside0.mk (HL.out.below (below_drew (Below.refl _ w0)))
  have HRD := Aside0.mk (HR.out.below (below_drew (Below.refl _ w0)))
  have HBD := Aside0.mk (HB0.out.trans ((below_drew (Below.refl _ w0)).mono HB0.out.size))
  have hh1 := fun W (hW : W = w0.drew) => high_any pl l W (by rw [hW]; exact HLD.out)
  have hh2 := fun W (hW : W = w0.drew) => high_any pr r W (by rw [hW]; exact HRD.out)
  have hs1 := fun W (hW : W = w0.drew) => size_any pl l W (by rw [hW]; exact HLD.out)
  have hs2 := fun W (hW : W = w0.drew) => size_any pr r W (by rw [hW]; exact HRD.out)
  have HEH := Aside0.mk (show ((ht (.node l k v r) : Nat) : Int) = 1 + max ((ht l : Nat) : Int) ((ht r : Nat) : Int) from by rw [ht]; omega)
  have HES := Aside0.mk (show ((sz (.node l k v r) : Nat) : Int) = 1 + ((sz l : Nat) : Int) + ((sz r : Nat) : Int) from by rw [sz]; omega)
  have b1 : 0 ≤ ((ht l : Nat) : Int) ∧ ((ht l : Nat) : Int) ≤ 100000 ∧ 0 ≤ ((ht r : Nat) : Int) ∧ ((ht r : Nat) : Int) ≤ 100000 ∧ 0 ≤ ((sz l : Nat) : Int) ∧ 0 ≤ ((sz r : Nat) : Int) ∧ ((sz l : Nat) : Int) + ((sz r : Nat) : Int) ≤ 100000 := by omega
  generalize ((ht l : Nat) : Int) = H1 at *
  generalize ((ht r : Nat) : Int) = H2 at *
  generalize ((sz l : Nat) : Int) = S1 at *
  generalize ((sz r : Nat) : Int) = S2 at *
  obtain ⟨b1, b2, b3, b4, b5, b6, b7⟩ := b1
  have HH1 := Aside0.mk hh1
  have HH2 := Aside0.mk hh2
  have HS1 := Aside0.mk hs1
  have HS2 := Aside0.mk hs2
  have w1 : IntKind.i64.wrap (1 + S1) = 1 + S1 := by rw [IntKind.wrap_i64]; omega
  have w2 : IntKind.i64.wrap (1 + S1 + S2) = 1 + S1 + S2 := by rw [IntKind.wrap_i64]; omega
  clear hh1 hh2 hs1 hs2 hl1 hr1 hs
  obtain ⟨M, hM, hM2⟩ : ∃ M, (if H1 < H2 then H2 else H1) = M ∧ M = max H1 H2 := ⟨_, rfl, by split <;> omega⟩
  have HM := Aside0.mk hM2
  have w3 : IntKind.i64.wrap (1 + M) = 1 + M := by rw [IntKind.wrap_i64]; omega
  clear hM2 b1 b2 b3 b4 b5 b6 b7
  refine wp_region_held_drew (S := (fun w' => w'.cell? ⟨w.heap.size, 0, none⟩ = some (.int .u64 k) ∧ w'.cell? ⟨w.heap.size, 1, none⟩ = some (.int .i64 v))) (by kernel_rfl) ?hS0 (fun hHeld => ?_)
  case hS0 => first | assumption | go_keep
  refine held_take 0 (some 7) (v := ?v0) rfl rfl (by kernel_rfl) (by kernel_rfl) (by kernel_rfl) (fun _ _ _ h => h) (by rfl) ?y0 (by assumption) ?_
  case y0 => ((intro w hSw); (try dsimp only at hSw); go_simp <;> (with_reducible rfl))
  try simp only [Act.put, List.setIfInBounds_toArray, List.set_cons_zero, List.set_cons_succ]
  refine held_take 1 (some 8) (v := ?v1) rfl rfl (by kernel_rfl) (by kernel_rfl) (by kernel_rfl) (fun _ _ _ h => h) (by rfl) ?y1 (by assumption) ?_
  case y1 => ((intro w hSw); (try dsimp only at hSw); go_simp <;> (with_reducible rfl))
  try simp only [Act.put, List.setIfInBounds_toArray, List.set_cons_zero, List.set_cons_succ]
  refine held_take 2 (some 9) (v := ?v2) rfl rfl (by kernel_rfl) (by kernel_rfl) (by kernel_rfl) (fun _ _ _ h => h) (by rfl) ?y2 (by assumption) ?_
  case y2 => ((intro w hSw); (try dsimp only at hSw); go_simp <;> (with_reducible rfl))
  try simp only [Act.put, List.setIfInBounds_toArray, List.set_cons_zero, List.set_cons_succ]
  refine held_take 3 (some 10) (v := ?v3) rfl rfl (by kernel_rfl) (by kernel_rfl) (by kernel_rfl) (fun _ _ _ h => h) (by rfl) ?y3 (by assumption) ?_
  case y3 => ((intro w hSw); (try dsimp only at hSw); go_simp <;> (with_reducible rfl))
  try simp only [Act.put, List.setIfInBounds_toArray, List.set_cons_zero, List.set_cons_succ]
  refine held_take 5 (some 12) (v := ?v5) rfl rfl (by kernel_rfl) (by kernel_rfl) (by kernel_rfl) (fun _ _ _ h => h) (by rfl) ?y5 (by assumption) ?_
  case y5 => ((intro w hSw); (try dsimp only at hSw); go_simp <;> (with_reducible rfl))
  try simp only [Act.put, List.setIfInBounds_toArray, List.set_cons_zero, List.set_cons_succ]
  refine held_take 9 (some 16) (v := ?v9) rfl rfl (by kernel_rfl) (by kernel_rfl) (by kernel_rfl) (fun _ _ _ h => h) (by rfl) ?y9 (by assumption) ?_
  case y9 => ((intro w hSw); (try dsimp only at hSw); go_simp <;> (with_reducible rfl))
  try simp only [Act.put, List.setIfInBounds_toArray, List.set_cons_zero, List.set_cons_succ]
  refine held_take 12 (some 19) (v := ?v12) rfl rfl (by kernel_rfl) (by kernel_rfl) (by kernel_rfl) (fun _ _ _ h => h) (by rfl) ?y12 (by assumption) ?_
  case y12 => ((intro w hSw); (try dsimp only at hSw); go_simp <;> (with_reducible rfl))
  try simp only [Act.put, List.setIfInBounds_toArray, List.set_cons_zero, List.set_cons_succ]
  refine wpAnyH_ready (rs := [4]) (by kernel_rfl) (by simp) ?_
  refine AllReadyH.cons rfl (fun K hK => ?_) AllReadyH.nil
  go_simp
  refine (HH1.out _ rfl).mono ?_
  rintro e w1 ⟨rfl, rfl⟩
  refine hK.out _ _ ?hS5 (fun hHeld => ?_)
  case hS5 => first | assumption | go_keep
  clear hK K
  try simp only [Act.put, List.setIfInBounds_toArray, List.set_cons_zero, List.set_cons_succ]
  refine wpAnyH_ready (rs := [6]) (by kernel_rfl) (by simp) ?_
  refine AllReadyH.cons rfl (fun K hK => ?_) AllReadyH.nil
  go_simp
  refine (HH2.out _ rfl).mono ?_
  rintro e w1 ⟨rfl, rfl⟩
  refine hK.out _ _ ?hS7 (fun hHeld => ?_)
  case hS7 => first | assumption | go_keep
  clear hK K
  try simp only [Act.put, List.setIfInBounds_toArray, List.set_cons_zero, List.set_cons_succ]
  refine held_take 7 (some 14) (v := ?v7) rfl rfl (by kernel_rfl) (by kernel_rfl) (by kernel_rfl) (fun _ _ _ h => h) (by rfl) ?y7 (by assumption) ?_
  case y7 => ((intro w hSw); (try dsimp only at hSw); go_simp <;> (with_reducible rfl))
  try simp only [Act.put, List.setIfInBounds_toArray, List.set_cons_zero, List.set_cons_succ]
  refine held_take 8 (some 15) (v := ?v8) rfl rfl (by kernel_rfl) (by kernel_rfl) (by kernel_rfl) (fun _ _ _ h => h) (by rfl) ?y8 (by assumption) ?_
  case y8 => ((intro w hSw); (try dsimp only at hSw); go_simp <;> (with_reducible rfl))
  try simp only [Act.put, List.setIfInBounds_toArray, List.set_cons_zero, List.set_cons_succ]
  refine wpAnyH_ready (rs := [10]) (by kernel_rfl) (by simp) ?_
  refine AllReadyH.cons rfl (fun K hK => ?_) AllReadyH.nil
  go_simp
  refine (HS1.out _ rfl).mono ?_
  rintro e w1 ⟨rfl, rfl⟩
  refine hK.out _ _ ?hS11 (fun hHeld => ?_)
  case hS11 => first | assumption | go_keep
  clear hK K
  try simp only [Act.put, List.setIfInBounds_toArray, List.set_cons_zero, List.set_cons_succ]
  refine held_take 11 (some 18) (v := ?v11) rfl rfl (by kernel_rfl) (by kernel_rfl) (by kernel_rfl) (fun _ _ _ h => h) (by rfl) ?y11 (by assumption) ?_
  case y11 => ((intro w hSw); (try dsimp only at hSw); go_simp <;> (with_reducible rfl))
  try simp only [Act.put, List.setIfInBounds_toArray, List.set_cons_zero, List.set_cons_succ]
  refine wpAnyH_ready (rs := [13]) (by kernel_rfl) (by simp) ?_
  refine AllReadyH.cons rfl (fun K hK => ?_) AllReadyH.nil
  go_simp
  refine (HS2.out _ rfl).mono ?_
  rintro e w1 ⟨rfl, rfl⟩
  refine hK.out _ _ ?hS14 (fun hHeld => ?_)
  case hS14 => first | assumption | go_keep
  clear hK K
  try simp only [Act.put, List.setIfInBounds_toArray, List.set_cons_zero, List.set_cons_succ]
  refine held_take 14 (some 21) (v := ?v14) rfl rfl (by kernel_rfl) (by kernel_rfl) (by kernel_rfl) (fun _ _ _ h => h) (by rfl) ?y14 (by assumption) ?_
  case y14 => ((intro w hSw); (try dsimp only at hSw); go_simp <;> (with_reducible rfl))
  try simp only [Act.put, List.setIfInBounds_toArray, List.set_cons_zero, List.set_cons_succ]
  refine held_take 15 (some 22) (v := ?v15) rfl rfl (by kernel_rfl) (by kernel_rfl) (by kernel_rfl) (fun _ _ _ h => h) (by rfl) ?y15 (by assumption) ?_
  case y15 => ((intro w hSw); (try dsimp only at hSw); go_simp <;> (with_reducible rfl))
  try simp only [Act.put, List.setIfInBounds_toArray, List.set_cons_zero, List.set_cons_succ]
  refine wpAnyH_ready (rs := [16]) (by kernel_rfl) (by simp) ?_
  refine AllReadyH.cons rfl (fun K hK => ?_) AllReadyH.nil
  go_simp
  refine hK.out _ _ ?hS17 (fun hHeld => ?_)
  case hS17 => first | assumption | go_keep
  clear hK K
  try simp only [Act.put, List.setIfInBounds_toArray, List.set_cons_zero, List.set_cons_succ]
  refine held_take 17 (some 6) (v := ?v17) rfl rfl (by kernel_rfl) (by kernel_rfl) (by kernel_rfl) (fun _ _ _ h => h) (by rfl) ?y17 (by assumption) ?_
  case y17 => ((intro w hSw); (try dsimp only at hSw); go_simp <;> (with_reducible rfl))
  try simp only [Act.put, List.setIfInBounds_toArray, List.set_cons_zero, List.set_cons_succ]
  refine wpAnyH_done (by kernel_rfl) ?_ _
  have HLN := Aside0.mk (HLD.out.below ((Below.refl w0.drew.heap.size w0.drew).alloc (Nat.le_refl _) (.cells #[.int .u64 k, .int .i64 v, .pointer pl, .pointer pr, .int .i64 (1 + M), .int .i64 (1 + S1 + S2)] 91)))
  have HRN := Aside0.mk (HRD.out.below ((Below.refl w0.drew.heap.size w0.drew).alloc (Nat.le_refl _) (.cells #[.int .u64 k, .int .i64 v, .pointer pl, .pointer pr, .int .i64 (1 + M), .int .i64 (1 + S1 + S2)] 91)))
  have HBN := Aside0.mk (HBD.out.alloc HBD.out.size (.cells #[.int .u64 k, .int .i64 v, .pointer pl, .pointer pr, .int .i64 (1 + M), .int .i64 (1 + S1 + S2)] 91))
  have HNW := Aside0.mk (blk_new w0.drew (.cells #[.int .u64 k, .int .i64 v, .pointer pl, .pointer pr, .int .i64 (1 + M), .int .i64 (1 + S1 + S2)] 91))
  go_wp2
  go_ret
  exact ⟨⟨_, rfl, w0.heap.size, pl, pr, rfl, by rw [HEH.out, HES.out, ← HM.out]; exact HNW.out, HLN.out, HRN.out⟩, HBN.out⟩
end Go.Proofs.Ytjfbiabgeickjaa.H
/-! ### Tree2 -/
namespace Go.Proofs.Ytjfbiabgeickjaa.H
open Go.RowKit Go.Proofs.Ytjfbiabgeickjaa.P Go.Proofs.YtjfbiabgeickjaaW.PrintWords Go.Proofs.YtjfbiabgeickjaaW.PrintLast Go.Proofs.YtjfbiabgeickjaaW.PrintMore
set_option linter.unusedVariables false
set_option linter.unusedSimpArgs false
def evenT (l : T) (k v : Int) (r : T) : T :=
  if ht l > ht r + 1 then
    match l with
    | .leaf => .node l k v r
    | .node ll lk lv lr =>
      if ht ll ≥ ht lr then .node ll lk lv (.node lr k v r)
      else match lr with
        | .leaf => .node l k v r
        | .node m1 mk mv m2 => .node (.node ll lk lv m1) mk mv (.node m2 k v r)
  else if ht r > ht l + 1 then
    match r with
    | .leaf => .node l k v r
    | .node rl rk rv rr =>
      if ht rr ≥ ht rl then .node (.node l k v rl) rk rv rr
      else match rl with
        | .leaf => .node l k v r
        | .node m1 mk mv m2 => .node (.node l k v m1) mk mv (.node m2 rk rv rr)
  else .node l k v r
theorem cells2_below {w w' : World} {a0 a1 : Addr} {v0 v1 : Value} (h : w.cell? a0 = some v0 ∧ w.cell? a1 = some v1) (hb : Below w.heap.size w w') : w'.cell? a0 = some v0 ∧ w'.cell? a1 = some v1 := ⟨pw_cell_below hb h.1, pw_cell_below hb h.2⟩
theorem cells4_below {w w' : World} {a0 a1 a2 a3 : Addr} {v0 v1 v2 v3 : Value} (h : w.cell? a0 = some v0 ∧ w.cell? a1 = some v1 ∧ w.cell? a2 = some v2 ∧ w.cell? a3 = some v3) (hb : Below w.heap.size w w') : w'.cell? a0 = some v0 ∧ w'.cell? a1 = some v1 ∧ w'.cell? a2 = some v2 ∧ w'.cell? a3 = some v3 := ⟨pw_cell_below hb h.1, pw_cell_below hb h.2.1, pw_cell_below hb h.2.2.1, pw_cell_below hb h.2.2.2⟩
theorem cells6_below {w w' : World} {a0 a1 a2 a3 a4 a5 : Addr} {v0 v1 v2 v3 v4 v5 : Value} (h : w.cell? a0 = some v0 ∧ w.cell? a1 = some v1 ∧ w.cell? a2 = some v2 ∧ w.cell? a3 = some v3 ∧ w.cell? a4 = some v4 ∧ w.cell? a5 = some v5) (hb : Below w.heap.size w w') : w'.cell? a0 = some v0 ∧ w'.cell? a1 = some v1 ∧ w'.cell? a2 = some v2 ∧ w'.cell? a3 = some v3 ∧ w'.cell? a4 = some v4 ∧ w'.cell? a5 = some v5 := ⟨pw_cell_below hb h.1, pw_cell_below hb h.2.1, pw_cell_below hb h.2.2.1, pw_cell_below hb h.2.2.2.1, pw_cell_below hb h.2.2.2.2.1, pw_cell_below hb h.2.2.2.2.2⟩
theorem cells10_below {w w' : World} {a0 a1 a2 a3 a4 a5 a6 a7 a8 a9 : Addr} {v0 v1 v2 v3 v4 v5 v6 v7 v8 v9 : Value} (h : w.cell? a0 = some v0 ∧ w.cell? a1 = some v1 ∧ w.cell? a2 = some v2 ∧ w.cell? a3 = some v3 ∧ w.cell? a4 = some v4 ∧ w.cell? a5 = some v5 ∧ w.cell? a6 = some v6 ∧ w.cell? a7 = some v7 ∧ w.cell? a8 = some v8 ∧ w.cell? a9 = some v9) (hb : Below w.heap.size w w') : w'.cell? a0 = some v0 ∧ w'.cell? a1 = some v1 ∧ w'.cell? a2 = some v2 ∧ w'.cell? a3 = some v3 ∧ w'.cell? a4 = some v4 ∧ w'.cell? a5 = some v5 ∧ w'.cell? a6 = some v6 ∧ w'.cell? a7 = some v7 ∧ w'.cell? a8 = some v8 ∧ w'.cell? a9 = some v9 := ⟨pw_cell_below hb h.1, pw_cell_below hb h.2.1, pw_cell_below hb h.2.2.1, pw_cell_below hb h.2.2.2.1, pw_cell_below hb h.2.2.2.2.1, pw_cell_below hb h.2.2.2.2.2.1, pw_cell_below hb h.2.2.2.2.2.2.1, pw_cell_below hb h.2.2.2.2.2.2.2.1, pw_cell_below hb h.2.2.2.2.2.2.2.2.1, pw_cell_below hb h.2.2.2.2.2.2.2.2.2⟩
/-- What is known of a tree that may be made of. -/
theorem node_cells {W : World} {g : Nat} {k v : Int} {pl pr : Option Addr} {H S : Int} (h : W.heap[g]? = some (.cells #[.int .u64 k, .int .i64 v, .pointer pl, .pointer pr, .int .i64 H, .int .i64 S] 91 (0, 0))) :
    W.cell? ⟨g, 0, none⟩ = some (.int .u64 k) ∧ W.cell? ⟨g, 1, none⟩ = some (.int .i64 v) ∧ W.cell? ⟨g, 2, none⟩ = some (.pointer pl) ∧ W.cell? ⟨g, 3, none⟩ = some (.pointer pr) :=
  ⟨blk_cell h 0, blk_cell h 1, blk_cell h 2, blk_cell h 3⟩
/-- What made comes to. -/
def Made (B : Nat) (w : World) (t : T) (e : Ending) (w' : World) : Prop := (∃ p, e = .returned (.pointer p) ∧ TreeAt w' p t) ∧ Below B w w'
set_option maxRecDepth 20000 in
set_option maxHeartbeats 4000000 in
theorem even_any (pl : Option Addr) (l : T) (k v : Int) (pr : Option Addr) (r : T) (w : World) (hl : TreeAt w pl l) (hr : TreeAt w pr r) (hs : sz l + sz r ≤ 50000) :
    Calls Try.prog 49 #[.pointer pl, .agg #[.int .u64 k, .int .i64 v], .pointer pr] w fun e w' => (∃ p, e = .returned (.pointer p) ∧ TreeAt w' p (evenT l k v r)) ∧ Below w.heap.size w w' := by
  have HB0 := Aside0.mk ((Below.refl w.heap.size w).alloc (Nat.le_refl _) (.cells #[.int .u64 k, .int .i64 v] 66))
  have HX0 := Aside0.mk (blk_new w (.cells #[.int .u64 k, .int .i64 v] 66))
  have HL := Aside0.mk (hl.below HB0.out)
  have HR := Aside0.mk (hr.below HB0.out)
  have hl1 := ht_le l
  have hr1 := ht_le r
  clear hl hr
  go_enter Try.func49, Try.ntmps49
  go_wp2_with fail
  generalize (w.alloc (.cells #[.int .u64 k, .int .i64 v] 66)) = w0 at *
  have WR := Aside0.mk (show ∀ t : T, ht t ≤ 50000 → IntKind.i64.wrap (((ht t : Nat) : Int) + 1) = ((ht t : Nat) : Int) + 1 from fun t h => by rw [IntKind.wrap_i64]; omega)
  have wr := WR.out r (by omega)
  have wl := WR.out l (by omega)
  refine (high_any pl l w0 HL.out).mono ?_
  rintro e w1 ⟨rfl, rfl⟩
  go_wp2_with fail
  refine (high_any pr r w1 HR.out).mono ?_
  rintro e w2 ⟨rfl, rfl⟩
  have hrot1 := fun (hc : ((ht r : Nat) : Int) + 1 < ((ht l : Nat) : Int)) => show ht l > ht r + 1 by omega
  by_cases hc1 : ((ht r : Nat) : Int) + 1 < ((ht l : Nat) : Int)
  · have HC1 := Aside0.mk (hrot1 hc1)
    clear hrot1
    go_wp2_with fail
    cases l with
    | leaf => simp [ht] at hc1; omega
    | node ll lk lv lr =>
      obtain ⟨gl, pll, plr, rfl, hgl, hll, hlr⟩ := HL.out
      have HLL := Aside0.mk hll
      have HLR := Aside0.mk hlr
      have HG := Aside0.mk hgl
      have n0 := (node_cells hgl).2.2.1
      have n1 := (node_cells hgl).2.2.2
      have hcA := fun n => high_any pll ll (w2.drewN n) (HLL.out.drewN n)
      have hcB := fun n => high_any plr lr (w2.drewN n) (HLR.out.drewN n)
      have hszl : sz ll + sz lr + 1 ≤ 50000 := by simp only [sz] at hs; omega
      have HSZ := Aside0.mk (show sz ll + sz lr + 1 + sz r ≤ 50000 by simp only [sz] at hs; omega)
      have HH := Aside0.mk (show ht (.node ll lk lv lr) = 1 + max (ht ll) (ht lr) from rfl)
      clear hll hlr hgl hl1 hs hc1
      generalize ((ht (.node ll lk lv lr) : Nat) : Int) = hh at *
      go_quiet (first | (go_at_call 54; (first | (with_reducible refine (hcA _).mono ?_) | (with_reducible refine (hcB _).mono ?_)); rintro e w' ⟨rfl, rfl⟩; exact ⟨rfl, _, rfl⟩))

      have HB3 := Aside0.mk (below_drewN HB0.out nq)
      have HX3 := Aside0.mk (show (w2.drewN nq).heap[w.heap.size]? = some (.cells #[.int .u64 k, .int .i64 v] 66 (0, 0)) from HX0.out)
      have HG3 := Aside0.mk (show (w2.drewN nq).heap[gl]? = _ from HG.out)
      have HO3 := Aside0.mk (HR.out.drewN nq)
      have Hll3 := Aside0.mk (HLL.out.drewN nq)
      have Hlr3 := Aside0.mk (HLR.out.drewN nq)
      clear n0 n1 hcA hcB HB0 HX0 HG HR HLL HLR
      generalize w2.drewN nq = w3 at *
      have hN : w3.cell? ⟨gl, 0, none⟩ = some (.int .u64 lk) ∧ w3.cell? ⟨gl, 1, none⟩ = some (.int .i64 lv) ∧ w3.cell? ⟨gl, 2, none⟩ = some (.pointer pll) ∧ w3.cell? ⟨gl, 3, none⟩ = some (.pointer plr) ∧ w3.cell? ⟨w.heap.size, 0, none⟩ = some (.int .u64 k) ∧ w3.cell? ⟨w.heap.size, 1, none⟩ = some (.int .i64 v) :=
        ⟨(node_cells HG3.out).1, (node_cells HG3.out).2.1, (node_cells HG3.out).2.2.1, (node_cells HG3.out).2.2.2, blk_cell HX3.out 0, blk_cell HX3.out 1⟩
      have HOD := Aside0.mk (HO3.out.below (below_drew (Below.refl _ w3)))
      have HllD := Aside0.mk (Hll3.out.below (below_drew (Below.refl _ w3)))
      have HlrD := Aside0.mk (Hlr3.out.below (below_drew (Below.refl _ w3)))
      have HBD := Aside0.mk (HB3.out.trans ((below_drew (Below.refl _ w3)).mono HB3.out.size))
      by_cases hc2 : ht lr ≤ ht ll
      · have HEV := Aside0.mk (show evenT (.node ll lk lv lr) k v r = .node ll lk lv (.node lr k v r) from by unfold evenT; rw [if_pos HC1.out]; simp [hc2])
        go_wp2_with fail
        refine wp_region_held_drew (S := (fun w' => w'.cell? ⟨gl, 0, none⟩ = some (.int .u64 lk) ∧ w'.cell? ⟨gl, 1, none⟩ = some (.int .i64 lv) ∧ w'.cell? ⟨gl, 2, none⟩ = some (.pointer pll) ∧ w'.cell? ⟨gl, 3, none⟩ = some (.pointer plr) ∧ w'.cell? ⟨w.heap.size, 0, none⟩ = some (.int .u64 k) ∧ w'.cell? ⟨w.heap.size, 1, none⟩ = some (.int .i64 v))) (by kernel_rfl) ?hSa0 (fun hHeld => ?_)
        case hSa0 => first | assumption | go_keep
        refine held_take 0 (some 27) (v := ?va0) rfl rfl (by kernel_rfl) (by kernel_rfl) (by kernel_rfl) (fun _ _ _ h => h) (by rfl) ?ya0 (by assumption) ?_
        case ya0 => ((intro w hSw); (try dsimp only at hSw); go_simp <;> (with_reducible rfl))
        try simp only [Act.put, List.setIfInBounds_toArray, List.set_cons_zero, List.set_cons_succ]
        refine held_take 1 (some 28) (v := ?va1) rfl rfl (by kernel_rfl) (by kernel_rfl) (by kernel_rfl) (fun _ _ _ h => h) (by rfl) ?ya1 (by assumption) ?_
        case ya1 => ((intro w hSw); (try dsimp only at hSw); go_simp <;> (with_reducible rfl))
        try simp only [Act.put, List.setIfInBounds_toArray, List.set_cons_zero, List.set_cons_succ]
        refine held_take 2 (some 29) (v := ?va2) rfl rfl (by kernel_rfl) (by kernel_rfl) (by kernel_rfl) (fun _ _ _ h => h) (by rfl) ?ya2 (by assumption) ?_
        case ya2 => ((intro w hSw); (try dsimp only at hSw); go_simp <;> (with_reducible rfl))
        try simp only [Act.put, List.setIfInBounds_toArray, List.set_cons_zero, List.set_cons_succ]
        refine held_take 3 (some 30) (v := ?va3) rfl rfl (by kernel_rfl) (by kernel_rfl) (by kernel_rfl) (fun _ _ _ h => h) (by rfl) ?ya3 (by assumption) ?_
        case ya3 => ((intro w hSw); (try dsimp only at hSw); go_simp <;> (with_reducible rfl))
        try simp only [Act.put, List.setIfInBounds_toArray, List.set_cons_zero, List.set_cons_succ]
        refine held_take 4 (some 31) (v := ?va4) rfl rfl (by kernel_rfl) (by kernel_rfl) (by kernel_rfl) (fun _ _ _ h => h) (by rfl) ?ya4 (by assumption) ?_
        case ya4 => ((intro w hSw); (try dsimp only at hSw); go_simp <;> (with_reducible rfl))
        try simp only [Act.put, List.setIfInBounds_toArray, List.set_cons_zero, List.set_cons_succ]
        refine held_take 5 (some 32) (v := ?va5) rfl rfl (by kernel_rfl) (by kernel_rfl) (by kernel_rfl) (fun _ _ _ h => h) (by rfl) ?ya5 (by assumption) ?_
        case ya5 => ((intro w hSw); (try dsimp only at hSw); go_simp <;> (with_reducible rfl))
        try simp only [Act.put, List.setIfInBounds_toArray, List.set_cons_zero, List.set_cons_succ]
        refine held_take 6 (some 33) (v := ?va6) rfl rfl (by kernel_rfl) (by kernel_rfl) (by kernel_rfl) (fun _ _ _ h => h) (by rfl) ?ya6 (by assumption) ?_
        case ya6 => ((intro w hSw); (try dsimp only at hSw); go_simp <;> (with_reducible rfl))
        try simp only [Act.put, List.setIfInBounds_toArray, List.set_cons_zero, List.set_cons_succ]
        refine held_take 7 (some 34) (v := ?va7) rfl rfl (by kernel_rfl) (by kernel_rfl) (by kernel_rfl) (fun _ _ _ h => h) (by rfl) ?ya7 (by assumption) ?_
        case ya7 => ((intro w hSw); (try dsimp only at hSw); go_simp <;> (with_reducible rfl))
        try simp only [Act.put, List.setIfInBounds_toArray, List.set_cons_zero, List.set_cons_succ]
        refine held_take 8 (some 35) (v := ?va8) rfl rfl (by kernel_rfl) (by kernel_rfl) (by kernel_rfl) (fun _ _ _ h => h) (by rfl) ?ya8 (by assumption) ?_
        case ya8 => ((intro w hSw); (try dsimp only at hSw); go_simp <;> (with_reducible rfl))
        try simp only [Act.put, List.setIfInBounds_toArray, List.set_cons_zero, List.set_cons_succ]
        refine held_take 9 (some 36) (v := ?va9) rfl rfl (by kernel_rfl) (by kernel_rfl) (by kernel_rfl) (fun _ _ _ h => h) (by rfl) ?ya9 (by assumption) ?_
        case ya9 => ((intro w hSw); (try dsimp only at hSw); go_simp <;> (with_reducible rfl))
        try simp only [Act.put, List.setIfInBounds_toArray, List.set_cons_zero, List.set_cons_succ]
        refine held_take 10 (some 37) (v := ?va10) rfl rfl (by kernel_rfl) (by kernel_rfl) (by kernel_rfl) (fun _ _ _ h => h) (by rfl) ?ya10 (by assumption) ?_
        case ya10 => ((intro w hSw); (try dsimp only at hSw); go_simp <;> (with_reducible rfl))
        try simp only [Act.put, List.setIfInBounds_toArray, List.set_cons_zero, List.set_cons_succ]
        refine held_take 11 (some 38) (v := ?va11) rfl rfl (by kernel_rfl) (by kernel_rfl) (by kernel_rfl) (fun _ _ _ h => h) (by rfl) ?ya11 (by assumption) ?_
        case ya11 => ((intro w hSw); (try dsimp only at hSw); go_simp <;> (with_reducible rfl))
        try simp only [Act.put, List.setIfInBounds_toArray, List.set_cons_zero, List.set_cons_succ]
        refine held_take 12 (some 39) (v := ?va12) rfl rfl (by kernel_rfl) (by kernel_rfl) (by kernel_rfl) (fun _ _ _ h => h) (by rfl) ?ya12 (by assumption) ?_
        case ya12 => ((intro w hSw); (try dsimp only at hSw); go_simp <;> (with_reducible rfl))
        try simp only [Act.put, List.setIfInBounds_toArray, List.set_cons_zero, List.set_cons_succ]
        refine held_take 13 (some 40) (v := ?va13) rfl rfl (by kernel_rfl) (by kernel_rfl) (by kernel_rfl) (fun _ _ _ h => h) (by rfl) ?ya13 (by assumption) ?_
        case ya13 => ((intro w hSw); (try dsimp only at hSw); go_simp <;> (with_reducible rfl))
        try simp only [Act.put, List.setIfInBounds_toArray, List.set_cons_zero, List.set_cons_succ]
        refine wpAnyH_ready (rs := [14]) (by kernel_rfl) (by simp) ?_
        refine AllReadyH.cons rfl (fun K hK => ?_) AllReadyH.nil
        go_simp
        refine (made_any plr lr k v pr r _ HlrD.out HOD.out (by have := HSZ.out; omega)).mono ?_
        rintro e w4 ⟨⟨p4, rfl, ht4⟩, hb4⟩
        have K4 := cells6_below (by assumption) hb4
        have HT4 := Aside0.mk ht4
        have HA4 := Aside0.mk (HllD.out.below hb4)
        have HB4 := Aside0.mk (HBD.out.trans (hb4.mono HBD.out.size))
        clear ht4 hb4
        refine hK.out _ _ ?hSa15 (fun hHeld => ?_)
        case hSa15 => first | assumption | go_keep
        clear hK K
        try simp only [Act.put, List.setIfInBounds_toArray, List.set_cons_zero, List.set_cons_succ]
        refine wpAnyH_ready (rs := [15]) (by kernel_rfl) (by simp) ?_
        refine AllReadyH.cons rfl (fun K hK => ?_) AllReadyH.nil
        go_simp
        refine (made_any pll ll lk lv p4 (.node lr k v r) _ HA4.out HT4.out (by have := HSZ.out; simp only [sz]; omega)).mono ?_
        rintro e w5 ⟨⟨p5, rfl, ht5⟩, hb5⟩
        have K5 := cells6_below (by assumption) hb5
        have HT5 := Aside0.mk ht5
        have HB5 := Aside0.mk (HB4.out.trans (hb5.mono HB4.out.size))
        clear ht5 hb5
        refine hK.out _ _ ?hSa16 (fun hHeld => ?_)
        case hSa16 => first | assumption | go_keep
        clear hK K
        try simp only [Act.put, List.setIfInBounds_toArray, List.set_cons_zero, List.set_cons_succ]
        refine held_take 16 (some 6) (v := ?va16) rfl rfl (by kernel_rfl) (by kernel_rfl) (by kernel_rfl) (fun _ _ _ h => h) (by rfl) ?ya16 (by assumption) ?_
        case ya16 => ((intro w hSw); (try dsimp only at hSw); go_simp <;> (with_reducible rfl))
        try simp only [Act.put, List.setIfInBounds_toArray, List.set_cons_zero, List.set_cons_succ]
        refine wpAnyH_done (by kernel_rfl) ?_ _
        go_wp2
        go_ret
        exact ⟨⟨_, rfl, by rw [HEV.out]; exact HT5.out⟩, HB5.out⟩
      · cases lr with
        | leaf => simp [ht] at hc2
        | node m1 mk mv m2 =>
          obtain ⟨gm, pm1, pm2, rfl, hgm, hm1, hm2⟩ := HlrD.out
          have HM1 := Aside0.mk hm1
          have HM2 := Aside0.mk hm2
          have HOTH := Aside0.mk HllD.out
          have HSZ2 := Aside0.mk (show sz ll + (1 + sz m1 + sz m2) + 1 + sz r ≤ 50000 from by have := HSZ.out; simp only [sz] at this; omega)
          have HEV := Aside0.mk (show evenT (.node ll lk lv (.node m1 mk mv m2)) k v r = .node (.node ll lk lv m1) mk mv (.node m2 k v r) from by unfold evenT; rw [if_pos HC1.out]; dsimp only; rw [if_neg (by omega)])
          have m0 : w3.cell? ⟨gm, 0, none⟩ = some (.int .u64 mk) ∧ w3.cell? ⟨gm, 1, none⟩ = some (.int .i64 mv) ∧ w3.cell? ⟨gm, 2, none⟩ = some (.pointer pm1) ∧ w3.cell? ⟨gm, 3, none⟩ = some (.pointer pm2) := node_cells (show w3.heap[gm]? = _ from hgm)
          obtain ⟨q0, q1, q2, q3, q4, q5⟩ := hN
          obtain ⟨m0, m1', m2', m3'⟩ := m0
          have hN := And.intro q0 (And.intro q1 (And.intro q2 (And.intro q3 (And.intro m0 (And.intro m1' (And.intro m2' (And.intro m3' (And.intro q4 q5))))))))
          clear hm1 hm2 hgm m0 m1' m2' m3' q0 q1 q4 q5
          go_wp2_with fail
          refine wp_region_held_drew (S := (fun w' => w'.cell? ⟨gl, 0, none⟩ = some (.int .u64 lk) ∧ w'.cell? ⟨gl, 1, none⟩ = some (.int .i64 lv) ∧ w'.cell? ⟨gl, 2, none⟩ = some (.pointer pll) ∧ w'.cell? ⟨gl, 3, none⟩ = some (.pointer (some ⟨gm, 0, none⟩)) ∧ w'.cell? ⟨gm, 0, none⟩ = some (.int .u64 mk) ∧ w'.cell? ⟨gm, 1, none⟩ = some (.int .i64 mv) ∧ w'.cell? ⟨gm, 2, none⟩ = some (.pointer pm1) ∧ w'.cell? ⟨gm, 3, none⟩ = some (.pointer pm2) ∧ w'.cell? ⟨w.heap.size, 0, none⟩ = some (.int .u64 k) ∧ w'.cell? ⟨w.heap.size, 1, none⟩ = some (.int .i64 v))) (by kernel_rfl) ?hSc0 (fun hHeld => ?_)
          case hSc0 => first | assumption | go_keep
          refine held_take 0 (some 47) (v := ?vc0) rfl rfl (by kernel_rfl) (by kernel_rfl) (by kernel_rfl) (fun _ _ _ h => h) (by rfl) ?yc0 (by assumption) ?_
          case yc0 => ((intro w hSw); (try dsimp only at hSw); go_simp <;> (with_reducible rfl))
          try simp only [Act.put, List.setIfInBounds_toArray, List.set_cons_zero, List.set_cons_succ]
          refine held_take 1 (some 48) (v := ?vc1) rfl rfl (by kernel_rfl) (by kernel_rfl) (by kernel_rfl) (fun _ _ _ h => h) (by rfl) ?yc1 (by assumption) ?_
          case yc1 => ((intro w hSw); (try dsimp only at hSw); go_simp <;> (with_reducible rfl))
          try simp only [Act.put, List.setIfInBounds_toArray, List.set_cons_zero, List.set_cons_succ]
          refine held_take 2 (some 49) (v := ?vc2) rfl rfl (by kernel_rfl) (by kernel_rfl) (by kernel_rfl) (fun _ _ _ h => h) (by rfl) ?yc2 (by assumption) ?_
          case yc2 => ((intro w hSw); (try dsimp only at hSw); go_simp <;> (with_reducible rfl))
          try simp only [Act.put, List.setIfInBounds_toArray, List.set_cons_zero, List.set_cons_succ]
          refine held_take 3 (some 50) (v := ?vc3) rfl rfl (by kernel_rfl) (by kernel_rfl) (by kernel_rfl) (fun _ _ _ h => h) (by rfl) ?yc3 (by assumption) ?_
          case yc3 => ((intro w hSw); (try dsimp only at hSw); go_simp <;> (with_reducible rfl))
          try simp only [Act.put, List.setIfInBounds_toArray, List.set_cons_zero, List.set_cons_succ]
          refine held_take 4 (some 51) (v := ?vc4) rfl rfl (by kernel_rfl) (by kernel_rfl) (by kernel_rfl) (fun _ _ _ h => h) (by rfl) ?yc4 (by assumption) ?_
          case yc4 => ((intro w hSw); (try dsimp only at hSw); go_simp <;> (with_reducible rfl))
          try simp only [Act.put, List.setIfInBounds_toArray, List.set_cons_zero, List.set_cons_succ]
          refine held_take 5 (some 52) (v := ?vc5) rfl rfl (by kernel_rfl) (by kernel_rfl) (by kernel_rfl) (fun _ _ _ h => h) (by rfl) ?yc5 (by assumption) ?_
          case yc5 => ((intro w hSw); (try dsimp only at hSw); go_simp <;> (with_reducible rfl))
          try simp only [Act.put, List.setIfInBounds_toArray, List.set_cons_zero, List.set_cons_succ]
          refine held_take 6 (some 53) (v := ?vc6) rfl rfl (by kernel_rfl) (by kernel_rfl) (by kernel_rfl) (fun _ _ _ h => h) (by rfl) ?yc6 (by assumption) ?_
          case yc6 => ((intro w hSw); (try dsimp only at hSw); go_simp <;> (with_reducible rfl))
          try simp only [Act.put, List.setIfInBounds_toArray, List.set_cons_zero, List.set_cons_succ]
          refine held_take 7 (some 54) (v := ?vc7) rfl rfl (by kernel_rfl) (by kernel_rfl) (by kernel_rfl) (fun _ _ _ h => h) (by rfl) ?yc7 (by assumption) ?_
          case yc7 => ((intro w hSw); (try dsimp only at hSw); go_simp <;> (with_reducible rfl))
          try simp only [Act.put, List.setIfInBounds_toArray, List.set_cons_zero, List.set_cons_succ]
          refine held_take 8 (some 55) (v := ?vc8) rfl rfl (by kernel_rfl) (by kernel_rfl) (by kernel_rfl) (fun _ _ _ h => h) (by rfl) ?yc8 (by assumption) ?_
          case yc8 => ((intro w hSw); (try dsimp only at hSw); go_simp <;> (with_reducible rfl))
          try simp only [Act.put, List.setIfInBounds_toArray, List.set_cons_zero, List.set_cons_succ]
          refine held_take 9 (some 56) (v := ?vc9) rfl rfl (by kernel_rfl) (by kernel_rfl) (by kernel_rfl) (fun _ _ _ h => h) (by rfl) ?yc9 (by assumption) ?_
          case yc9 => ((intro w hSw); (try dsimp only at hSw); go_simp <;> (with_reducible rfl))
          try simp only [Act.put, List.setIfInBounds_toArray, List.set_cons_zero, List.set_cons_succ]
          refine held_take 10 (some 57) (v := ?vc10) rfl rfl (by kernel_rfl) (by kernel_rfl) (by kernel_rfl) (fun _ _ _ h => h) (by rfl) ?yc10 (by assumption) ?_
          case yc10 => ((intro w hSw); (try dsimp only at hSw); go_simp <;> (with_reducible rfl))
          try simp only [Act.put, List.setIfInBounds_toArray, List.set_cons_zero, List.set_cons_succ]
          refine held_take 11 (some 58) (v := ?vc11) rfl rfl (by kernel_rfl) (by kernel_rfl) (by kernel_rfl) (fun _ _ _ h => h) (by rfl) ?yc11 (by assumption) ?_
          case yc11 => ((intro w hSw); (try dsimp only at hSw); go_simp <;> (with_reducible rfl))
          try simp only [Act.put, List.setIfInBounds_toArray, List.set_cons_zero, List.set_cons_succ]
          refine held_take 13 (some 60) (v := ?vc13) rfl rfl (by kernel_rfl) (by kernel_rfl) (by kernel_rfl) (fun _ _ _ h => h) (by rfl) ?yc13 (by assumption) ?_
          case yc13 => ((intro w hSw); (try dsimp only at hSw); go_simp <;> (with_reducible rfl))
          try simp only [Act.put, List.setIfInBounds_toArray, List.set_cons_zero, List.set_cons_succ]
          refine held_take 14 (some 61) (v := ?vc14) rfl rfl (by kernel_rfl) (by kernel_rfl) (by kernel_rfl) (fun _ _ _ h => h) (by rfl) ?yc14 (by assumption) ?_
          case yc14 => ((intro w hSw); (try dsimp only at hSw); go_simp <;> (with_reducible rfl))
          try simp only [Act.put, List.setIfInBounds_toArray, List.set_cons_zero, List.set_cons_succ]
          refine held_take 15 (some 62) (v := ?vc15) rfl rfl (by kernel_rfl) (by kernel_rfl) (by kernel_rfl) (fun _ _ _ h => h) (by rfl) ?yc15 (by assumption) ?_
          case yc15 => ((intro w hSw); (try dsimp only at hSw); go_simp <;> (with_reducible rfl))
          try simp only [Act.put, List.setIfInBounds_toArray, List.set_cons_zero, List.set_cons_succ]
          refine held_take 16 (some 63) (v := ?vc16) rfl rfl (by kernel_rfl) (by kernel_rfl) (by kernel_rfl) (fun _ _ _ h => h) (by rfl) ?yc16 (by assumption) ?_
          case yc16 => ((intro w hSw); (try dsimp only at hSw); go_simp <;> (with_reducible rfl))
          try simp only [Act.put, List.setIfInBounds_toArray, List.set_cons_zero, List.set_cons_succ]
          refine held_take 17 (some 64) (v := ?vc17) rfl rfl (by kernel_rfl) (by kernel_rfl) (by kernel_rfl) (fun _ _ _ h => h) (by rfl) ?yc17 (by assumption) ?_
          case yc17 => ((intro w hSw); (try dsimp only at hSw); go_simp <;> (with_reducible rfl))
          try simp only [Act.put, List.setIfInBounds_toArray, List.set_cons_zero, List.set_cons_succ]
          refine held_take 18 (some 65) (v := ?vc18) rfl rfl (by kernel_rfl) (by kernel_rfl) (by kernel_rfl) (fun _ _ _ h => h) (by rfl) ?yc18 (by assumption) ?_
          case yc18 => ((intro w hSw); (try dsimp only at hSw); go_simp <;> (with_reducible rfl))
          try simp only [Act.put, List.setIfInBounds_toArray, List.set_cons_zero, List.set_cons_succ]
          refine held_take 19 (some 66) (v := ?vc19) rfl rfl (by kernel_rfl) (by kernel_rfl) (by kernel_rfl) (fun _ _ _ h => h) (by rfl) ?yc19 (by assumption) ?_
          case yc19 => ((intro w hSw); (try dsimp only at hSw); go_simp <;> (with_reducible rfl))
          try simp only [Act.put, List.setIfInBounds_toArray, List.set_cons_zero, List.set_cons_succ]
          refine held_take 20 (some 67) (v := ?vc20) rfl rfl (by kernel_rfl) (by kernel_rfl) (by kernel_rfl) (fun _ _ _ h => h) (by rfl) ?yc20 (by assumption) ?_
          case yc20 => ((intro w hSw); (try dsimp only at hSw); go_simp <;> (with_reducible rfl))
          try simp only [Act.put, List.setIfInBounds_toArray, List.set_cons_zero, List.set_cons_succ]
          refine held_take 21 (some 68) (v := ?vc21) rfl rfl (by kernel_rfl) (by kernel_rfl) (by kernel_rfl) (fun _ _ _ h => h) (by rfl) ?yc21 (by assumption) ?_
          case yc21 => ((intro w hSw); (try dsimp only at hSw); go_simp <;> (with_reducible rfl))
          try simp only [Act.put, List.setIfInBounds_toArray, List.set_cons_zero, List.set_cons_succ]
          refine held_take 22 (some 69) (v := ?vc22) rfl rfl (by kernel_rfl) (by kernel_rfl) (by kernel_rfl) (fun _ _ _ h => h) (by rfl) ?yc22 (by assumption) ?_
          case yc22 => ((intro w hSw); (try dsimp only at hSw); go_simp <;> (with_reducible rfl))
          try simp only [Act.put, List.setIfInBounds_toArray, List.set_cons_zero, List.set_cons_succ]
          refine wpAnyH_ready (rs := [12]) (by kernel_rfl) (by simp) ?_
          refine AllReadyH.cons rfl (fun K hK => ?_) AllReadyH.nil
          go_simp
          refine (made_any pll ll lk lv pm1 m1 _ HOTH.out HM1.out (by have := HSZ2.out; (try simp only [sz]); omega)).mono ?_
          rintro e w4 ⟨⟨p4, rfl, ht4⟩, hb4⟩
          have K4 := cells10_below (by assumption) hb4
          have HT4 := Aside0.mk ht4
          have HM24 := Aside0.mk (HM2.out.below hb4)
          have HO4 := Aside0.mk (HOD.out.below hb4)
          have HB4 := Aside0.mk (HBD.out.trans (hb4.mono HBD.out.size))
          clear ht4 hb4
          refine hK.out _ _ ?hSc13 (fun hHeld => ?_)
          case hSc13 => first | assumption | go_keep
          clear hK K
          try simp only [Act.put, List.setIfInBounds_toArray, List.set_cons_zero, List.set_cons_succ]
          refine wpAnyH_ready (rs := [23]) (by kernel_rfl) (by simp) ?_
          refine AllReadyH.cons rfl (fun K hK => ?_) AllReadyH.nil
          go_simp
          refine (made_any pm2 m2 k v pr r _ HM24.out HO4.out (by have := HSZ2.out; (try simp only [sz]); omega)).mono ?_
          rintro e w5 ⟨⟨p5, rfl, ht5⟩, hb5⟩
          have K5 := cells10_below (by assumption) hb5
          have HT5 := Aside0.mk ht5
          have HT45 := Aside0.mk (HT4.out.below hb5)
          have HB5 := Aside0.mk (HB4.out.trans (hb5.mono HB4.out.size))
          clear ht5 hb5
          refine hK.out _ _ ?hSc24 (fun hHeld => ?_)
          case hSc24 => first | assumption | go_keep
          clear hK K
          try simp only [Act.put, List.setIfInBounds_toArray, List.set_cons_zero, List.set_cons_succ]
          refine wpAnyH_ready (rs := [24]) (by kernel_rfl) (by simp) ?_
          refine AllReadyH.cons rfl (fun K hK => ?_) AllReadyH.nil
          go_simp
          refine (made_any p4 (.node ll lk lv m1) mk mv p5 (.node m2 k v r) _ HT45.out HT5.out (by have := HSZ2.out; (try simp only [sz]); omega)).mono ?_
          rintro e w6 ⟨⟨p6, rfl, ht6⟩, hb6⟩
          have K6 := cells10_below (by assumption) hb6
          have HT6 := Aside0.mk ht6
          have HB6 := Aside0.mk (HB5.out.trans (hb6.mono HB5.out.size))
          clear ht6 hb6
          refine hK.out _ _ ?hSc25 (fun hHeld => ?_)
          case hSc25 => first | assumption | go_keep
          clear hK K
          try simp only [Act.put, List.setIfInBounds_toArray, List.set_cons_zero, List.set_cons_succ]
          refine held_take 25 (some 6) (v := ?vc25) rfl rfl (by kernel_rfl) (by kernel_rfl) (by kernel_rfl) (fun _ _ _ h => h) (by rfl) ?yc25 (by assumption) ?_
          case yc25 => ((intro w hSw); (try dsimp only at hSw); go_simp <;> (with_reducible rfl))
          try simp only [Act.put, List.setIfInBounds_toArray, List.set_cons_zero, List.set_cons_succ]
          refine wpAnyH_done (by kernel_rfl) ?_ _
          go_wp2
          go_ret
          exact ⟨⟨_, rfl, by rw [HEV.out]; exact HT6.out⟩, HB6.out⟩
  · have HC0 := Aside0.mk (show ¬ ht l > ht r + 1 by omega)
    clear hrot1
    go_wp2_with fail
    refine (high_any pr r w2 HR.out).mono ?_
    rintro e w3' ⟨rfl, rfl⟩
    go_wp2_with fail
    refine (high_any pl l w3' HL.out).mono ?_
    rintro e w2 ⟨rfl, rfl⟩
    by_cases hc3 : ((ht l : Nat) : Int) + 1 < ((ht r : Nat) : Int)
    · have HC1 := Aside0.mk (show ht r > ht l + 1 by omega)
      clear hc1
      go_wp2_with fail
      cases r with
      | leaf => simp [ht] at hc3; omega
      | node rl rk rv rr =>
        obtain ⟨gr, prl, prr, rfl, hgr, hrl, hrr⟩ := HR.out
        have HRL := Aside0.mk hrl
        have HRR := Aside0.mk hrr
        have HG := Aside0.mk hgr
        have n0 := (node_cells hgr).2.2.1
        have n1 := (node_cells hgr).2.2.2
        have hcA := fun n => high_any prr rr (w2.drewN n) (HRR.out.drewN n)
        have hcB := fun n => high_any prl rl (w2.drewN n) (HRL.out.drewN n)
        have HSZ := Aside0.mk (show sz l + (sz rl + sz rr + 1) ≤ 50000 by simp only [sz] at hs; omega)
        have HH := Aside0.mk (show ht (.node rl rk rv rr) = 1 + max (ht rl) (ht rr) from rfl)
        clear hrl hrr hgr hr1 hs hc3
        generalize ((ht (.node rl rk rv rr) : Nat) : Int) = hh at *
        go_quiet (first | (go_at_call 54; (first | (with_reducible refine (hcA _).mono ?_) | (with_reducible refine (hcB _).mono ?_)); rintro e w' ⟨rfl, rfl⟩; exact ⟨rfl, _, rfl⟩))
        have HB3 := Aside0.mk (below_drewN HB0.out nq)
        have HX3 := Aside0.mk (show (w2.drewN nq).heap[w.heap.size]? = some (.cells #[.int .u64 k, .int .i64 v] 66 (0, 0)) from HX0.out)
        have HG3 := Aside0.mk (show (w2.drewN nq).heap[gr]? = _ from HG.out)
        have HO3 := Aside0.mk (HL.out.drewN nq)
        have Hrl3 := Aside0.mk (HRL.out.drewN nq)
        have Hrr3 := Aside0.mk (HRR.out.drewN nq)
        clear n0 n1 hcA hcB HB0 HX0 HG HL HRL HRR
        generalize w2.drewN nq = w3 at *
        have hN : w3.cell? ⟨gr, 0, none⟩ = some (.int .u64 rk) ∧ w3.cell? ⟨gr, 1, none⟩ = some (.int .i64 rv) ∧ w3.cell? ⟨gr, 2, none⟩ = some (.pointer prl) ∧ w3.cell? ⟨gr, 3, none⟩ = some (.pointer prr) ∧ w3.cell? ⟨w.heap.size, 0, none⟩ = some (.int .u64 k) ∧ w3.cell? ⟨w.heap.size, 1, none⟩ = some (.int .i64 v) :=
          ⟨(node_cells HG3.out).1, (node_cells HG3.out).2.1, (node_cells HG3.out).2.2.1, (node_cells HG3.out).2.2.2, blk_cell HX3.out 0, blk_cell HX3.out 1⟩
        have HOD := Aside0.mk (HO3.out.below (below_drew (Below.refl _ w3)))
        have HrlD := Aside0.mk (Hrl3.out.below (below_drew (Below.refl _ w3)))
        have HrrD := Aside0.mk (Hrr3.out.below (below_drew (Below.refl _ w3)))
        have HBD := Aside0.mk (HB3.out.trans ((below_drew (Below.refl _ w3)).mono HB3.out.size))
        by_cases hc2 : ht rl ≤ ht rr
        · have HEV := Aside0.mk (show evenT l k v (.node rl rk rv rr) = .node (.node l k v rl) rk rv rr from by unfold evenT; rw [if_neg HC0.out, if_pos HC1.out]; simp [hc2])
          go_wp2_with fail
          refine wp_region_held_drew (S := (fun w' => w'.cell? ⟨gr, 0, none⟩ = some (.int .u64 rk) ∧ w'.cell? ⟨gr, 1, none⟩ = some (.int .i64 rv) ∧ w'.cell? ⟨gr, 2, none⟩ = some (.pointer prl) ∧ w'.cell? ⟨gr, 3, none⟩ = some (.pointer prr) ∧ w'.cell? ⟨w.heap.size, 0, none⟩ = some (.int .u64 k) ∧ w'.cell? ⟨w.heap.size, 1, none⟩ = some (.int .i64 v))) (by kernel_rfl) ?hSb0 (fun hHeld => ?_)
          case hSb0 => first | assumption | go_keep
          refine held_take 0 (some 90) (v := ?vb0) rfl rfl (by kernel_rfl) (by kernel_rfl) (by kernel_rfl) (fun _ _ _ h => h) (by rfl) ?yb0 (by assumption) ?_
          case yb0 => ((intro w hSw); (try dsimp only at hSw); go_simp <;> (with_reducible rfl))
          try simp only [Act.put, List.setIfInBounds_toArray, List.set_cons_zero, List.set_cons_succ]
          refine held_take 1 (some 91) (v := ?vb1) rfl rfl (by kernel_rfl) (by kernel_rfl) (by kernel_rfl) (fun _ _ _ h => h) (by rfl) ?yb1 (by assumption) ?_
          case yb1 => ((intro w hSw); (try dsimp only at hSw); go_simp <;> (with_reducible rfl))
          try simp only [Act.put, List.setIfInBounds_toArray, List.set_cons_zero, List.set_cons_succ]
          refine held_take 2 (some 92) (v := ?vb2) rfl rfl (by kernel_rfl) (by kernel_rfl) (by kernel_rfl) (fun _ _ _ h => h) (by rfl) ?yb2 (by assumption) ?_
          case yb2 => ((intro w hSw); (try dsimp only at hSw); go_simp <;> (with_reducible rfl))
          try simp only [Act.put, List.setIfInBounds_toArray, List.set_cons_zero, List.set_cons_succ]
          refine held_take 3 (some 93) (v := ?vb3) rfl rfl (by kernel_rfl) (by kernel_rfl) (by kernel_rfl) (fun _ _ _ h => h) (by rfl) ?yb3 (by assumption) ?_
          case yb3 => ((intro w hSw); (try dsimp only at hSw); go_simp <;> (with_reducible rfl))
          try simp only [Act.put, List.setIfInBounds_toArray, List.set_cons_zero, List.set_cons_succ]
          refine held_take 4 (some 94) (v := ?vb4) rfl rfl (by kernel_rfl) (by kernel_rfl) (by kernel_rfl) (fun _ _ _ h => h) (by rfl) ?yb4 (by assumption) ?_
          case yb4 => ((intro w hSw); (try dsimp only at hSw); go_simp <;> (with_reducible rfl))
          try simp only [Act.put, List.setIfInBounds_toArray, List.set_cons_zero, List.set_cons_succ]
          refine held_take 5 (some 95) (v := ?vb5) rfl rfl (by kernel_rfl) (by kernel_rfl) (by kernel_rfl) (fun _ _ _ h => h) (by rfl) ?yb5 (by assumption) ?_
          case yb5 => ((intro w hSw); (try dsimp only at hSw); go_simp <;> (with_reducible rfl))
          try simp only [Act.put, List.setIfInBounds_toArray, List.set_cons_zero, List.set_cons_succ]
          refine held_take 7 (some 97) (v := ?vb7) rfl rfl (by kernel_rfl) (by kernel_rfl) (by kernel_rfl) (fun _ _ _ h => h) (by rfl) ?yb7 (by assumption) ?_
          case yb7 => ((intro w hSw); (try dsimp only at hSw); go_simp <;> (with_reducible rfl))
          try simp only [Act.put, List.setIfInBounds_toArray, List.set_cons_zero, List.set_cons_succ]
          refine held_take 8 (some 98) (v := ?vb8) rfl rfl (by kernel_rfl) (by kernel_rfl) (by kernel_rfl) (fun _ _ _ h => h) (by rfl) ?yb8 (by assumption) ?_
          case yb8 => ((intro w hSw); (try dsimp only at hSw); go_simp <;> (with_reducible rfl))
          try simp only [Act.put, List.setIfInBounds_toArray, List.set_cons_zero, List.set_cons_succ]
          refine held_take 9 (some 99) (v := ?vb9) rfl rfl (by kernel_rfl) (by kernel_rfl) (by kernel_rfl) (fun _ _ _ h => h) (by rfl) ?yb9 (by assumption) ?_
          case yb9 => ((intro w hSw); (try dsimp only at hSw); go_simp <;> (with_reducible rfl))
          try simp only [Act.put, List.setIfInBounds_toArray, List.set_cons_zero, List.set_cons_succ]
          refine held_take 10 (some 100) (v := ?vb10) rfl rfl (by kernel_rfl) (by kernel_rfl) (by kernel_rfl) (fun _ _ _ h => h) (by rfl) ?yb10 (by assumption) ?_
          case yb10 => ((intro w hSw); (try dsimp only at hSw); go_simp <;> (with_reducible rfl))
          try simp only [Act.put, List.setIfInBounds_toArray, List.set_cons_zero, List.set_cons_succ]
          refine held_take 11 (some 101) (v := ?vb11) rfl rfl (by kernel_rfl) (by kernel_rfl) (by kernel_rfl) (fun _ _ _ h => h) (by rfl) ?yb11 (by assumption) ?_
          case yb11 => ((intro w hSw); (try dsimp only at hSw); go_simp <;> (with_reducible rfl))
          try simp only [Act.put, List.setIfInBounds_toArray, List.set_cons_zero, List.set_cons_succ]
          refine held_take 12 (some 102) (v := ?vb12) rfl rfl (by kernel_rfl) (by kernel_rfl) (by kernel_rfl) (fun _ _ _ h => h) (by rfl) ?yb12 (by assumption) ?_
          case yb12 => ((intro w hSw); (try dsimp only at hSw); go_simp <;> (with_reducible rfl))
          try simp only [Act.put, List.setIfInBounds_toArray, List.set_cons_zero, List.set_cons_succ]
          refine held_take 13 (some 103) (v := ?vb13) rfl rfl (by kernel_rfl) (by kernel_rfl) (by kernel_rfl) (fun _ _ _ h => h) (by rfl) ?yb13 (by assumption) ?_
          case yb13 => ((intro w hSw); (try dsimp only at hSw); go_simp <;> (with_reducible rfl))
          try simp only [Act.put, List.setIfInBounds_toArray, List.set_cons_zero, List.set_cons_succ]
          refine held_take 14 (some 104) (v := ?vb14) rfl rfl (by kernel_rfl) (by kernel_rfl) (by kernel_rfl) (fun _ _ _ h => h) (by rfl) ?yb14 (by assumption) ?_
          case yb14 => ((intro w hSw); (try dsimp only at hSw); go_simp <;> (with_reducible rfl))
          try simp only [Act.put, List.setIfInBounds_toArray, List.set_cons_zero, List.set_cons_succ]
          refine wpAnyH_ready (rs := [6]) (by kernel_rfl) (by simp) ?_
          refine AllReadyH.cons rfl (fun K hK => ?_) AllReadyH.nil
          go_simp
          refine (made_any pl l k v prl rl _ HOD.out HrlD.out (by have := HSZ.out; omega)).mono ?_
          rintro e w4 ⟨⟨p4, rfl, ht4⟩, hb4⟩
          have K4 := cells6_below (by assumption) hb4
          have HT4 := Aside0.mk ht4
          have HA4 := Aside0.mk (HrrD.out.below hb4)
          have HB4 := Aside0.mk (HBD.out.trans (hb4.mono HBD.out.size))
          clear ht4 hb4
          refine hK.out _ _ ?hSb7 (fun hHeld => ?_)
          case hSb7 => first | assumption | go_keep
          clear hK K
          try simp only [Act.put, List.setIfInBounds_toArray, List.set_cons_zero, List.set_cons_succ]
          refine wpAnyH_ready (rs := [15]) (by kernel_rfl) (by simp) ?_
          refine AllReadyH.cons rfl (fun K hK => ?_) AllReadyH.nil
          go_simp
          refine (made_any p4 (.node l k v rl) rk rv prr rr _ HT4.out HA4.out (by have := HSZ.out; simp only [sz]; omega)).mono ?_
          rintro e w5 ⟨⟨p5, rfl, ht5⟩, hb5⟩
          have K5 := cells6_below (by assumption) hb5
          have HT5 := Aside0.mk ht5
          have HB5 := Aside0.mk (HB4.out.trans (hb5.mono HB4.out.size))
          clear ht5 hb5
          refine hK.out _ _ ?hSb16 (fun hHeld => ?_)
          case hSb16 => first | assumption | go_keep
          clear hK K
          try simp only [Act.put, List.setIfInBounds_toArray, List.set_cons_zero, List.set_cons_succ]
          refine held_take 16 (some 6) (v := ?vb16) rfl rfl (by kernel_rfl) (by kernel_rfl) (by kernel_rfl) (fun _ _ _ h => h) (by rfl) ?yb16 (by assumption) ?_
          case yb16 => ((intro w hSw); (try dsimp only at hSw); go_simp <;> (with_reducible rfl))
          try simp only [Act.put, List.setIfInBounds_toArray, List.set_cons_zero, List.set_cons_succ]
          refine wpAnyH_done (by kernel_rfl) ?_ _
          go_wp2
          go_ret
          exact ⟨⟨_, rfl, by rw [HEV.out]; exact HT5.out⟩, HB5.out⟩
        · cases rl with
          | leaf => simp [ht] at hc2
          | node m1 mk mv m2 =>
            obtain ⟨gm, pm1, pm2, rfl, hgm, hm1, hm2⟩ := HrlD.out
            have HM1 := Aside0.mk hm1
            have HM2 := Aside0.mk hm2
            have HOTH := Aside0.mk HrrD.out
            have HSZ2 := Aside0.mk (show sz l + ((1 + sz m1 + sz m2) + sz rr + 1) ≤ 50000 from by have := HSZ.out; simp only [sz] at this; omega)
            have HEV := Aside0.mk (show evenT l k v (.node (.node m1 mk mv m2) rk rv rr) = .node (.node l k v m1) mk mv (.node m2 rk rv rr) from by unfold evenT; rw [if_neg HC0.out, if_pos HC1.out]; dsimp only; rw [if_neg (by omega)])
            have m0 : w3.cell? ⟨gm, 0, none⟩ = some (.int .u64 mk) ∧ w3.cell? ⟨gm, 1, none⟩ = some (.int .i64 mv) ∧ w3.cell? ⟨gm, 2, none⟩ = some (.pointer pm1) ∧ w3.cell? ⟨gm, 3, none⟩ = some (.pointer pm2) := node_cells (show w3.heap[gm]? = _ from hgm)
            obtain ⟨q0, q1, q2, q3, q4, q5⟩ := hN
            obtain ⟨m0, m1', m2', m3'⟩ := m0
            have hN := And.intro q0 (And.intro q1 (And.intro q2 (And.intro q3 (And.intro m0 (And.intro m1' (And.intro m2' (And.intro m3' (And.intro q4 q5))))))))
            clear hm1 hm2 hgm m0 m1' m2' m3' q0 q1 q4 q5
            go_wp2_with fail
            refine wp_region_held_drew (S := (fun w' => w'.cell? ⟨gr, 0, none⟩ = some (.int .u64 rk) ∧ w'.cell? ⟨gr, 1, none⟩ = some (.int .i64 rv) ∧ w'.cell? ⟨gr, 2, none⟩ = some (.pointer (some ⟨gm, 0, none⟩)) ∧ w'.cell? ⟨gr, 3, none⟩ = some (.pointer prr) ∧ w'.cell? ⟨gm, 0, none⟩ = some (.int .u64 mk) ∧ w'.cell? ⟨gm, 1, none⟩ = some (.int .i64 mv) ∧ w'.cell? ⟨gm, 2, none⟩ = some (.pointer pm1) ∧ w'.cell? ⟨gm, 3, none⟩ = some (.pointer pm2) ∧ w'.cell? ⟨w.heap.size, 0, none⟩ = some (.int .u64 k) ∧ w'.cell? ⟨w.heap.size, 1, none⟩ = some (.int .i64 v))) (by kernel_rfl) ?hSd0 (fun hHeld => ?_)
            case hSd0 => first | assumption | go_keep
            refine held_take 0 (some 110) (v := ?vd0) rfl rfl (by kernel_rfl) (by kernel_rfl) (by kernel_rfl) (fun _ _ _ h => h) (by rfl) ?yd0 (by assumption) ?_
            case yd0 => ((intro w hSw); (try dsimp only at hSw); go_simp <;> (with_reducible rfl))
            try simp only [Act.put, List.setIfInBounds_toArray, List.set_cons_zero, List.set_cons_succ]
            refine held_take 1 (some 111) (v := ?vd1) rfl rfl (by kernel_rfl) (by kernel_rfl) (by kernel_rfl) (fun _ _ _ h => h) (by rfl) ?yd1 (by assumption) ?_
            case yd1 => ((intro w hSw); (try dsimp only at hSw); go_simp <;> (with_reducible rfl))
            try simp only [Act.put, List.setIfInBounds_toArray, List.set_cons_zero, List.set_cons_succ]
            refine held_take 2 (some 112) (v := ?vd2) rfl rfl (by kernel_rfl) (by kernel_rfl) (by kernel_rfl) (fun _ _ _ h => h) (by rfl) ?yd2 (by assumption) ?_
            case yd2 => ((intro w hSw); (try dsimp only at hSw); go_simp <;> (with_reducible rfl))
            try simp only [Act.put, List.setIfInBounds_toArray, List.set_cons_zero, List.set_cons_succ]
            refine held_take 3 (some 113) (v := ?vd3) rfl rfl (by kernel_rfl) (by kernel_rfl) (by kernel_rfl) (fun _ _ _ h => h) (by rfl) ?yd3 (by assumption) ?_
            case yd3 => ((intro w hSw); (try dsimp only at hSw); go_simp <;> (with_reducible rfl))
            try simp only [Act.put, List.setIfInBounds_toArray, List.set_cons_zero, List.set_cons_succ]
            refine held_take 4 (some 114) (v := ?vd4) rfl rfl (by kernel_rfl) (by kernel_rfl) (by kernel_rfl) (fun _ _ _ h => h) (by rfl) ?yd4 (by assumption) ?_
            case yd4 => ((intro w hSw); (try dsimp only at hSw); go_simp <;> (with_reducible rfl))
            try simp only [Act.put, List.setIfInBounds_toArray, List.set_cons_zero, List.set_cons_succ]
            refine held_take 5 (some 115) (v := ?vd5) rfl rfl (by kernel_rfl) (by kernel_rfl) (by kernel_rfl) (fun _ _ _ h => h) (by rfl) ?yd5 (by assumption) ?_
            case yd5 => ((intro w hSw); (try dsimp only at hSw); go_simp <;> (with_reducible rfl))
            try simp only [Act.put, List.setIfInBounds_toArray, List.set_cons_zero, List.set_cons_succ]
            refine held_take 7 (some 117) (v := ?vd7) rfl rfl (by kernel_rfl) (by kernel_rfl) (by kernel_rfl) (fun _ _ _ h => h) (by rfl) ?yd7 (by assumption) ?_
            case yd7 => ((intro w hSw); (try dsimp only at hSw); go_simp <;> (with_reducible rfl))
            try simp only [Act.put, List.setIfInBounds_toArray, List.set_cons_zero, List.set_cons_succ]
            refine held_take 8 (some 118) (v := ?vd8) rfl rfl (by kernel_rfl) (by kernel_rfl) (by kernel_rfl) (fun _ _ _ h => h) (by rfl) ?yd8 (by assumption) ?_
            case yd8 => ((intro w hSw); (try dsimp only at hSw); go_simp <;> (with_reducible rfl))
            try simp only [Act.put, List.setIfInBounds_toArray, List.set_cons_zero, List.set_cons_succ]
            refine held_take 9 (some 119) (v := ?vd9) rfl rfl (by kernel_rfl) (by kernel_rfl) (by kernel_rfl) (fun _ _ _ h => h) (by rfl) ?yd9 (by assumption) ?_
            case yd9 => ((intro w hSw); (try dsimp only at hSw); go_simp <;> (with_reducible rfl))
            try simp only [Act.put, List.setIfInBounds_toArray, List.set_cons_zero, List.set_cons_succ]
            refine held_take 10 (some 120) (v := ?vd10) rfl rfl (by kernel_rfl) (by kernel_rfl) (by kernel_rfl) (fun _ _ _ h => h) (by rfl) ?yd10 (by assumption) ?_
            case yd10 => ((intro w hSw); (try dsimp only at hSw); go_simp <;> (with_reducible rfl))
            try simp only [Act.put, List.setIfInBounds_toArray, List.set_cons_zero, List.set_cons_succ]
            refine held_take 11 (some 121) (v := ?vd11) rfl rfl (by kernel_rfl) (by kernel_rfl) (by kernel_rfl) (fun _ _ _ h => h) (by rfl) ?yd11 (by assumption) ?_
            case yd11 => ((intro w hSw); (try dsimp only at hSw); go_simp <;> (with_reducible rfl))
            try simp only [Act.put, List.setIfInBounds_toArray, List.set_cons_zero, List.set_cons_succ]
            refine held_take 12 (some 122) (v := ?vd12) rfl rfl (by kernel_rfl) (by kernel_rfl) (by kernel_rfl) (fun _ _ _ h => h) (by rfl) ?yd12 (by assumption) ?_
            case yd12 => ((intro w hSw); (try dsimp only at hSw); go_simp <;> (with_reducible rfl))
            try simp only [Act.put, List.setIfInBounds_toArray, List.set_cons_zero, List.set_cons_succ]
            refine held_take 13 (some 123) (v := ?vd13) rfl rfl (by kernel_rfl) (by kernel_rfl) (by kernel_rfl) (fun _ _ _ h => h) (by rfl) ?yd13 (by assumption) ?_
            case yd13 => ((intro w hSw); (try dsimp only at hSw); go_simp <;> (with_reducible rfl))
            try simp only [Act.put, List.setIfInBounds_toArray, List.set_cons_zero, List.set_cons_succ]
            refine held_take 14 (some 124) (v := ?vd14) rfl rfl (by kernel_rfl) (by kernel_rfl) (by kernel_rfl) (fun _ _ _ h => h) (by rfl) ?yd14 (by assumption) ?_
            case yd14 => ((intro w hSw); (try dsimp only at hSw); go_simp <;> (with_reducible rfl))
            try simp only [Act.put, List.setIfInBounds_toArray, List.set_cons_zero, List.set_cons_succ]
            refine held_take 15 (some 125) (v := ?vd15) rfl rfl (by kernel_rfl) (by kernel_rfl) (by kernel_rfl) (fun _ _ _ h => h) (by rfl) ?yd15 (by assumption) ?_
            case yd15 => ((intro w hSw); (try dsimp only at hSw); go_simp <;> (with_reducible rfl))
            try simp only [Act.put, List.setIfInBounds_toArray, List.set_cons_zero, List.set_cons_succ]
            refine held_take 16 (some 126) (v := ?vd16) rfl rfl (by kernel_rfl) (by kernel_rfl) (by kernel_rfl) (fun _ _ _ h => h) (by rfl) ?yd16 (by assumption) ?_
            case yd16 => ((intro w hSw); (try dsimp only at hSw); go_simp <;> (with_reducible rfl))
            try simp only [Act.put, List.setIfInBounds_toArray, List.set_cons_zero, List.set_cons_succ]
            refine held_take 17 (some 127) (v := ?vd17) rfl rfl (by kernel_rfl) (by kernel_rfl) (by kernel_rfl) (fun _ _ _ h => h) (by rfl) ?yd17 (by assumption) ?_
            case yd17 => ((intro w hSw); (try dsimp only at hSw); go_simp <;> (with_reducible rfl))
            try simp only [Act.put, List.setIfInBounds_toArray, List.set_cons_zero, List.set_cons_succ]
            refine held_take 18 (some 128) (v := ?vd18) rfl rfl (by kernel_rfl) (by kernel_rfl) (by kernel_rfl) (fun _ _ _ h => h) (by rfl) ?yd18 (by assumption) ?_
            case yd18 => ((intro w hSw); (try dsimp only at hSw); go_simp <;> (with_reducible rfl))
            try simp only [Act.put, List.setIfInBounds_toArray, List.set_cons_zero, List.set_cons_succ]
            refine held_take 19 (some 129) (v := ?vd19) rfl rfl (by kernel_rfl) (by kernel_rfl) (by kernel_rfl) (fun _ _ _ h => h) (by rfl) ?yd19 (by assumption) ?_
            case yd19 => ((intro w hSw); (try dsimp only at hSw); go_simp <;> (with_reducible rfl))
            try simp only [Act.put, List.setIfInBounds_toArray, List.set_cons_zero, List.set_cons_succ]
            refine held_take 20 (some 130) (v := ?vd20) rfl rfl (by kernel_rfl) (by kernel_rfl) (by kernel_rfl) (fun _ _ _ h => h) (by rfl) ?yd20 (by assumption) ?_
            case yd20 => ((intro w hSw); (try dsimp only at hSw); go_simp <;> (with_reducible rfl))
            try simp only [Act.put, List.setIfInBounds_toArray, List.set_cons_zero, List.set_cons_succ]
            refine held_take 21 (some 131) (v := ?vd21) rfl rfl (by kernel_rfl) (by kernel_rfl) (by kernel_rfl) (fun _ _ _ h => h) (by rfl) ?yd21 (by assumption) ?_
            case yd21 => ((intro w hSw); (try dsimp only at hSw); go_simp <;> (with_reducible rfl))
            try simp only [Act.put, List.setIfInBounds_toArray, List.set_cons_zero, List.set_cons_succ]
            refine held_take 22 (some 132) (v := ?vd22) rfl rfl (by kernel_rfl) (by kernel_rfl) (by kernel_rfl) (fun _ _ _ h => h) (by rfl) ?yd22 (by assumption) ?_
            case yd22 => ((intro w hSw); (try dsimp only at hSw); go_simp <;> (with_reducible rfl))
            try simp only [Act.put, List.setIfInBounds_toArray, List.set_cons_zero, List.set_cons_succ]
            refine wpAnyH_ready (rs := [6]) (by kernel_rfl) (by simp) ?_
            refine AllReadyH.cons rfl (fun K hK => ?_) AllReadyH.nil
            go_simp
            refine (made_any pl l k v pm1 m1 _ HOD.out HM1.out (by have := HSZ2.out; (try simp only [sz]); omega)).mono ?_
            rintro e w4 ⟨⟨p4, rfl, ht4⟩, hb4⟩
            have K4 := cells10_below (by assumption) hb4
            have HT4 := Aside0.mk ht4
            have HM24 := Aside0.mk (HM2.out.below hb4)
            have HO4 := Aside0.mk (HOTH.out.below hb4)
            have HB4 := Aside0.mk (HBD.out.trans (hb4.mono HBD.out.size))
            clear ht4 hb4
            refine hK.out _ _ ?hSd7 (fun hHeld => ?_)
            case hSd7 => first | assumption | go_keep
            clear hK K
            try simp only [Act.put, List.setIfInBounds_toArray, List.set_cons_zero, List.set_cons_succ]
            refine wpAnyH_ready (rs := [23]) (by kernel_rfl) (by simp) ?_
            refine AllReadyH.cons rfl (fun K hK => ?_) AllReadyH.nil
            go_simp
            refine (made_any pm2 m2 rk rv prr rr _ HM24.out HO4.out (by have := HSZ2.out; (try simp only [sz]); omega)).mono ?_
            rintro e w5 ⟨⟨p5, rfl, ht5⟩, hb5⟩
            have K5 := cells10_below (by assumption) hb5
            have HT5 := Aside0.mk ht5
            have HT45 := Aside0.mk (HT4.out.below hb5)
            have HB5 := Aside0.mk (HB4.out.trans (hb5.mono HB4.out.size))
            clear ht5 hb5
            refine hK.out _ _ ?hSd24 (fun hHeld => ?_)
            case hSd24 => first | assumption | go_keep
            clear hK K
            try simp only [Act.put, List.setIfInBounds_toArray, List.set_cons_zero, List.set_cons_succ]
            refine wpAnyH_ready (rs := [24]) (by kernel_rfl) (by simp) ?_
            refine AllReadyH.cons rfl (fun K hK => ?_) AllReadyH.nil
            go_simp
            refine (made_any p4 (.node l k v m1) mk mv p5 (.node m2 rk rv rr) _ HT45.out HT5.out (by have := HSZ2.out; (try simp only [sz]); omega)).mono ?_
            rintro e w6 ⟨⟨p6, rfl, ht6⟩, hb6⟩
            have K6 := cells10_below (by assumption) hb6
            have HT6 := Aside0.mk ht6
            have HB6 := Aside0.mk (HB5.out.trans (hb6.mono HB5.out.size))
            clear ht6 hb6
            refine hK.out _ _ ?hSd25 (fun hHeld => ?_)
            case hSd25 => first | assumption | go_keep
            clear hK K
            try simp only [Act.put, List.setIfInBounds_toArray, List.set_cons_zero, List.set_cons_succ]
            refine held_take 25 (some 6) (v := ?vd25) rfl rfl (by kernel_rfl) (by kernel_rfl) (by kernel_rfl) (fun _ _ _ h => h) (by rfl) ?yd25 (by assumption) ?_
            case yd25 => ((intro w hSw); (try dsimp only at hSw); go_simp <;> (with_reducible rfl))
            try simp only [Act.put, List.setIfInBounds_toArray, List.set_cons_zero, List.set_cons_succ]
            refine wpAnyH_done (by kernel_rfl) ?_ _
            go_wp2
            go_ret
            exact ⟨⟨_, rfl, by rw [HEV.out]; exact HT6.out⟩, HB6.out⟩
    · have HEV := Aside0.mk (show evenT l k v r = .node l k v r from by unfold evenT; rw [if_neg HC0.out, if_neg (by omega)])
      have c0 := blk_cell HX0.out 0
      have c1 := blk_cell HX0.out 1
      have hm := made_any pl l k v pr r w2 HL.out HR.out (by omega)
      go_wp2_with fail
      refine hm.mono ?_
      rintro e w3 ⟨⟨p3, rfl, ht3⟩, hb3⟩
      have HT3 := Aside0.mk ht3
      have HB3 := Aside0.mk (HB0.out.trans (hb3.mono HB0.out.size))
      clear hm ht3 hb3 c0 c1
      go_wp2_with fail
      go_ret
      exact ⟨⟨_, rfl, by rw [HEV.out]; exact HT3.out⟩, HB3.out⟩
end Go.Proofs.Ytjfbiabgeickjaa.H
/-! ### Tree3 -/
namespace Go.Proofs.Ytjfbiabgeickjaa.H
open Go.RowKit Go.Proofs.Ytjfbiabgeickjaa.P Go.Proofs.YtjfbiabgeickjaaW.PrintWords Go.Proofs.YtjfbiabgeickjaaW.PrintLast Go.Proofs.YtjfbiabgeickjaaW.PrintMore
set_option linter.unusedVariables false
set_option linter.unusedSimpArgs false
theorem sz_even (l : T) (k v : Int) (r : T) : sz (evenT l k v r) = 1 + sz l + sz r := by
  unfold evenT
  split
  · split
    · rfl
    · split
      · simp only [sz]; omega
      · split
        · rfl
        · simp only [sz]; omega
  · split
    · split
      · rfl
      · split
        · simp only [sz]; omega
        · split
          · rfl
          · simp only [sz]; omega
    · rfl
def withT (k v : Int) : T → T
  | .leaf => .node .leaf k v .leaf
  | .node l k' v' r => if k < k' then evenT (withT k v l) k' v' r else if k > k' then evenT l k' v' (withT k v r) else .node l k v r
theorem sz_with (k v : Int) : ∀ t : T, sz (withT k v t) ≤ sz t + 1
  | .leaf => by simp [withT, sz]
  | .node l k' v' r => by
    have h1 := sz_with k v l
    have h2 := sz_with k v r
    unfold withT
    split
    · rw [sz_even]; simp only [sz]; omega
    · split
      · rw [sz_even]; simp only [sz]; omega
      · simp only [sz]; omega
set_option maxRecDepth 20000 in
set_option maxHeartbeats 4000000 in
theorem with_any (k v : Int) (t : T) : ∀ (p : Option Addr) (w : World), TreeAt w p t → sz t ≤ 40000 →
    Calls Try.prog 42 #[.pointer p, .agg #[.int .u64 k, .int .i64 v]] w fun e w' => (∃ q, e = .returned (.pointer q) ∧ TreeAt w' q (withT k v t)) ∧ Below w.heap.size w w' := by
  induction t with
  | leaf =>
    intro p w h hs
    obtain rfl : p = none := h
    have HB0 := Aside0.mk ((Below.refl w.heap.size w).alloc (Nat.le_refl _) (.cells #[.int .u64 k, .int .i64 v] 66))
    have HX0 := blk_new w (.cells #[.int .u64 k, .int .i64 v] 66)
    go_enter Try.func42, Try.ntmps42
    go_wp2_with fail
    generalize (w.alloc (.cells #[.int .u64 k, .int .i64 v] 66)) = w0 at *
    have hm := made_any none .leaf k v none .leaf w0 rfl rfl (by decide)
    refine hm.mono ?_
    rintro e w3 ⟨⟨p3, rfl, ht3⟩, hb3⟩
    have HT3 := Aside0.mk ht3
    have HB3 := Aside0.mk (HB0.out.trans (hb3.mono HB0.out.size))
    clear hm ht3 hb3 HX0
    go_wp2_with fail
    go_ret
    exact ⟨⟨_, rfl, HT3.out⟩, HB3.out⟩
  | node l k1 v1 r ihl ihr =>
    intro p w h hs
    obtain ⟨g, pl, pr, rfl, hg, hl, hr⟩ := h
    have HB0 := Aside0.mk ((Below.refl w.heap.size w).alloc (Nat.le_refl _) (.cells #[.int .u64 k, .int .i64 v] 66))
    have HX0 := Aside0.mk (blk_new w (.cells #[.int .u64 k, .int .i64 v] 66))
    have HG0 := Aside0.mk (blk_below hg HB0.out)
    have HL0 := Aside0.mk (hl.below HB0.out)
    have HR0 := Aside0.mk (hr.below HB0.out)
    have HSZ := Aside0.mk (show sz l + sz r + 1 ≤ 40000 by simp only [sz] at hs; omega)
    have IHL := Aside0.mk ihl
    have IHR := Aside0.mk ihr
    have HZL := Aside0.mk (sz_with k v l)
    have HZR := Aside0.mk (sz_with k v r)
    clear hg hl hr hs ihl ihr
    go_enter Try.func42, Try.ntmps42
    go_wp2_with fail
    generalize (w.alloc (.cells #[.int .u64 k, .int .i64 v] 66)) = w0 at *
    have c0 := blk_cell HX0.out 0
    have d0 := (node_cells HG0.out).1
    go_quiet (fail)
    have HB1 := Aside0.mk (below_drewN HB0.out nq)
    have HX1 := Aside0.mk (show (w0.drewN nq).heap[w.heap.size]? = _ from HX0.out)
    have HG1 := Aside0.mk (show (w0.drewN nq).heap[g]? = _ from HG0.out)
    have HL1 := Aside0.mk (HL0.out.drewN nq)
    have HR1 := Aside0.mk (HR0.out.drewN nq)
    clear c0 d0 HB0 HX0 HG0 HL0 HR0
    generalize w0.drewN nq = w1 at *
    by_cases c1 : k < k1
    · have HEV := Aside0.mk (show withT k v (.node l k1 v1 r) = evenT (withT k v l) k1 v1 r from by rw [withT, if_pos c1])
      go_wp2_with fail
      have hN : w1.cell? ⟨g, 0, none⟩ = some (.int .u64 k1) ∧ w1.cell? ⟨g, 1, none⟩ = some (.int .i64 v1) ∧ w1.cell? ⟨g, 2, none⟩ = some (.pointer pl) ∧ w1.cell? ⟨g, 3, none⟩ = some (.pointer pr) ∧ w1.cell? ⟨w.heap.size, 0, none⟩ = some (.int .u64 k) ∧ w1.cell? ⟨w.heap.size, 1, none⟩ = some (.int .i64 v) :=
        ⟨(node_cells HG1.out).1, (node_cells HG1.out).2.1, (node_cells HG1.out).2.2.1, (node_cells HG1.out).2.2.2, blk_cell HX1.out 0, blk_cell HX1.out 1⟩
      have HLD := Aside0.mk (HL1.out.below (below_drew (Below.refl _ w1)))
      have HRD := Aside0.mk (HR1.out.below (below_drew (Below.refl _ w1)))
      have HBD := Aside0.mk (HB1.out.trans ((below_drew (Below.refl _ w1)).mono HB1.out.size))
      clear HB1 HX1 HG1 HL1 HR1
      refine wp_region_held_drew (S := (fun w' => w'.cell? ⟨g, 0, none⟩ = some (.int .u64 k1) ∧ w'.cell? ⟨g, 1, none⟩ = some (.int .i64 v1) ∧ w'.cell? ⟨g, 2, none⟩ = some (.pointer pl) ∧ w'.cell? ⟨g, 3, none⟩ = some (.pointer pr) ∧ w'.cell? ⟨w.heap.size, 0, none⟩ = some (.int .u64 k) ∧ w'.cell? ⟨w.heap.size, 1, none⟩ = some (.int .i64 v))) (by kernel_rfl) ?hSa0 (fun hHeld => ?_)
      case hSa0 => first | assumption | go_keep
      refine held_take 0 (some 19) (v := ?va0) rfl rfl (by kernel_rfl) (by kernel_rfl) (by kernel_rfl) (fun _ _ _ h => h) (by rfl) ?ya0 (by assumption) ?_
      case ya0 => ((intro w hSw); (try dsimp only at hSw); go_simp <;> (with_reducible rfl))
      try simp only [Act.put, List.setIfInBounds_toArray, List.set_cons_zero, List.set_cons_succ]
      refine held_take 1 (some 20) (v := ?va1) rfl rfl (by kernel_rfl) (by kernel_rfl) (by kernel_rfl) (fun _ _ _ h => h) (by rfl) ?ya1 (by assumption) ?_
      case ya1 => ((intro w hSw); (try dsimp only at hSw); go_simp <;> (with_reducible rfl))
      try simp only [Act.put, List.setIfInBounds_toArray, List.set_cons_zero, List.set_cons_succ]
      refine held_take 2 (some 21) (v := ?va2) rfl rfl (by kernel_rfl) (by kernel_rfl) (by kernel_rfl) (fun _ _ _ h => h) (by rfl) ?ya2 (by assumption) ?_
      case ya2 => ((intro w hSw); (try dsimp only at hSw); go_simp <;> (with_reducible rfl))
      try simp only [Act.put, List.setIfInBounds_toArray, List.set_cons_zero, List.set_cons_succ]
      refine held_take 3 (some 22) (v := ?va3) rfl rfl (by kernel_rfl) (by kernel_rfl) (by kernel_rfl) (fun _ _ _ h => h) (by rfl) ?ya3 (by assumption) ?_
      case ya3 => ((intro w hSw); (try dsimp only at hSw); go_simp <;> (with_reducible rfl))
      try simp only [Act.put, List.setIfInBounds_toArray, List.set_cons_zero, List.set_cons_succ]
      refine held_take 4 (some 23) (v := ?va4) rfl rfl (by kernel_rfl) (by kernel_rfl) (by kernel_rfl) (fun _ _ _ h => h) (by rfl) ?ya4 (by assumption) ?_
      case ya4 => ((intro w hSw); (try dsimp only at hSw); go_simp <;> (with_reducible rfl))
      try simp only [Act.put, List.setIfInBounds_toArray, List.set_cons_zero, List.set_cons_succ]
      refine held_take 6 (some 25) (v := ?va6) rfl rfl (by kernel_rfl) (by kernel_rfl) (by kernel_rfl) (fun _ _ _ h => h) (by rfl) ?ya6 (by assumption) ?_
      case ya6 => ((intro w hSw); (try dsimp only at hSw); go_simp <;> (with_reducible rfl))
      try simp only [Act.put, List.setIfInBounds_toArray, List.set_cons_zero, List.set_cons_succ]
      refine held_take 7 (some 26) (v := ?va7) rfl rfl (by kernel_rfl) (by kernel_rfl) (by kernel_rfl) (fun _ _ _ h => h) (by rfl) ?ya7 (by assumption) ?_
      case ya7 => ((intro w hSw); (try dsimp only at hSw); go_simp <;> (with_reducible rfl))
      try simp only [Act.put, List.setIfInBounds_toArray, List.set_cons_zero, List.set_cons_succ]
      refine held_take 8 (some 27) (v := ?va8) rfl rfl (by kernel_rfl) (by kernel_rfl) (by kernel_rfl) (fun _ _ _ h => h) (by rfl) ?ya8 (by assumption) ?_
      case ya8 => ((intro w hSw); (try dsimp only at hSw); go_simp <;> (with_reducible rfl))
      try simp only [Act.put, List.setIfInBounds_toArray, List.set_cons_zero, List.set_cons_succ]
      refine held_take 9 (some 28) (v := ?va9) rfl rfl (by kernel_rfl) (by kernel_rfl) (by kernel_rfl) (fun _ _ _ h => h) (by rfl) ?ya9 (by assumption) ?_
      case ya9 => ((intro w hSw); (try dsimp only at hSw); go_simp <;> (with_reducible rfl))
      try simp only [Act.put, List.setIfInBounds_toArray, List.set_cons_zero, List.set_cons_succ]
      refine held_take 10 (some 29) (v := ?va10) rfl rfl (by kernel_rfl) (by kernel_rfl) (by kernel_rfl) (fun _ _ _ h => h) (by rfl) ?ya10 (by assumption) ?_
      case ya10 => ((intro w hSw); (try dsimp only at hSw); go_simp <;> (with_reducible rfl))
      try simp only [Act.put, List.setIfInBounds_toArray, List.set_cons_zero, List.set_cons_succ]
      refine held_take 11 (some 30) (v := ?va11) rfl rfl (by kernel_rfl) (by kernel_rfl) (by kernel_rfl) (fun _ _ _ h => h) (by rfl) ?ya11 (by assumption) ?_
      case ya11 => ((intro w hSw); (try dsimp only at hSw); go_simp <;> (with_reducible rfl))
      try simp only [Act.put, List.setIfInBounds_toArray, List.set_cons_zero, List.set_cons_succ]
      refine held_take 12 (some 31) (v := ?va12) rfl rfl (by kernel_rfl) (by kernel_rfl) (by kernel_rfl) (fun _ _ _ h => h) (by rfl) ?ya12 (by assumption) ?_
      case ya12 => ((intro w hSw); (try dsimp only at hSw); go_simp <;> (with_reducible rfl))
      try simp only [Act.put, List.setIfInBounds_toArray, List.set_cons_zero, List.set_cons_succ]
      refine held_take 13 (some 32) (v := ?va13) rfl rfl (by kernel_rfl) (by kernel_rfl) (by kernel_rfl) (fun _ _ _ h => h) (by rfl) ?ya13 (by assumption) ?_
      case ya13 => ((intro w hSw); (try dsimp only at hSw); go_simp <;> (with_reducible rfl))
      try simp only [Act.put, List.setIfInBounds_toArray, List.set_cons_zero, List.set_cons_succ]
      refine wpAnyH_ready (rs := [5]) (by kernel_rfl) (by simp) ?_
      refine AllReadyH.cons rfl (fun K hK => ?_) AllReadyH.nil
      go_simp
      refine (IHL.out pl _ HLD.out (by have := HSZ.out; omega)).mono ?_
      rintro e w4 ⟨⟨p4, rfl, ht4⟩, hb4⟩
      have K4 := cells6_below (by assumption) hb4
      have HT4 := Aside0.mk ht4
      have HR4 := Aside0.mk (HRD.out.below hb4)
      have HB4 := Aside0.mk (HBD.out.trans (hb4.mono HBD.out.size))
      clear ht4 hb4
      refine hK.out _ _ ?hSa6 (fun hHeld => ?_)
      case hSa6 => first | assumption | go_keep
      clear hK K
      try simp only [Act.put, List.setIfInBounds_toArray, List.set_cons_zero, List.set_cons_succ]
      refine wpAnyH_ready (rs := [14]) (by kernel_rfl) (by simp) ?_
      refine AllReadyH.cons rfl (fun K hK => ?_) AllReadyH.nil
      go_simp
      refine (even_any p4 (withT k v l) k1 v1 pr r _ HT4.out HR4.out (by have := HSZ.out; have := HZL.out; omega)).mono ?_
      rintro e w5 ⟨⟨p5, rfl, ht5⟩, hb5⟩
      have K5 := cells6_below (by assumption) hb5
      have HT5 := Aside0.mk ht5
      have HB5 := Aside0.mk (HB4.out.trans (hb5.mono HB4.out.size))
      clear ht5 hb5
      refine hK.out _ _ ?hSa15 (fun hHeld => ?_)
      case hSa15 => first | assumption | go_keep
      clear hK K
      try simp only [Act.put, List.setIfInBounds_toArray, List.set_cons_zero, List.set_cons_succ]
      refine held_take 15 (some 4) (v := ?va15) rfl rfl (by kernel_rfl) (by kernel_rfl) (by kernel_rfl) (fun _ _ _ h => h) (by rfl) ?ya15 (by assumption) ?_
      case ya15 => ((intro w hSw); (try dsimp only at hSw); go_simp <;> (with_reducible rfl))
      try simp only [Act.put, List.setIfInBounds_toArray, List.set_cons_zero, List.set_cons_succ]
      refine wpAnyH_done (by kernel_rfl) ?_ _
      go_wp2
      go_ret
      exact ⟨⟨_, rfl, by rw [HEV.out]; exact HT5.out⟩, HB5.out⟩
    · go_wp2_with fail
      have c0 := blk_cell HX1.out 0
      have d0 := (node_cells HG1.out).1
      go_quiet (fail)
      have HB2 := Aside0.mk (below_drewN HB1.out nq)
      have HX2 := Aside0.mk (show (w1.drewN nq).heap[w.heap.size]? = _ from HX1.out)
      have HG2 := Aside0.mk (show (w1.drewN nq).heap[g]? = _ from HG1.out)
      have HL2 := Aside0.mk (HL1.out.drewN nq)
      have HR2 := Aside0.mk (HR1.out.drewN nq)
      clear c0 d0 HB1 HX1 HG1 HL1 HR1
      generalize w1.drewN nq = w2 at *
      by_cases c2 : k1 < k
      · have HEV := Aside0.mk (show withT k v (.node l k1 v1 r) = evenT l k1 v1 (withT k v r) from by rw [withT, if_neg (show ¬ k < k1 by omega), if_pos (show k > k1 by omega)])
        go_wp2_with fail
        have hN : w2.cell? ⟨g, 0, none⟩ = some (.int .u64 k1) ∧ w2.cell? ⟨g, 1, none⟩ = some (.int .i64 v1) ∧ w2.cell? ⟨g, 2, none⟩ = some (.pointer pl) ∧ w2.cell? ⟨g, 3, none⟩ = some (.pointer pr) ∧ w2.cell? ⟨w.heap.size, 0, none⟩ = some (.int .u64 k) ∧ w2.cell? ⟨w.heap.size, 1, none⟩ = some (.int .i64 v) :=
          ⟨(node_cells HG2.out).1, (node_cells HG2.out).2.1, (node_cells HG2.out).2.2.1, (node_cells HG2.out).2.2.2, blk_cell HX2.out 0, blk_cell HX2.out 1⟩
        have HLD := Aside0.mk (HL2.out.below (below_drew (Below.refl _ w2)))
        have HRD := Aside0.mk (HR2.out.below (below_drew (Below.refl _ w2)))
        have HBD := Aside0.mk (HB2.out.trans ((below_drew (Below.refl _ w2)).mono HB2.out.size))
        clear HB2 HX2 HG2 HL2 HR2
        refine wp_region_held_drew (S := (fun w' => w'.cell? ⟨g, 0, none⟩ = some (.int .u64 k1) ∧ w'.cell? ⟨g, 1, none⟩ = some (.int .i64 v1) ∧ w'.cell? ⟨g, 2, none⟩ = some (.pointer pl) ∧ w'.cell? ⟨g, 3, none⟩ = some (.pointer pr) ∧ w'.cell? ⟨w.heap.size, 0, none⟩ = some (.int .u64 k) ∧ w'.cell? ⟨w.heap.size, 1, none⟩ = some (.int .i64 v))) (by kernel_rfl) ?hSb0 (fun hHeld => ?_)
        case hSb0 => first | assumption | go_keep
        refine held_take 0 (some 43) (v := ?vb0) rfl rfl (by kernel_rfl) (by kernel_rfl) (by kernel_rfl) (fun _ _ _ h => h) (by rfl) ?yb0 (by assumption) ?_
        case yb0 => ((intro w hSw); (try dsimp only at hSw); go_simp <;> (with_reducible rfl))
        try simp only [Act.put, List.setIfInBounds_toArray, List.set_cons_zero, List.set_cons_succ]
        refine held_take 1 (some 44) (v := ?vb1) rfl rfl (by kernel_rfl) (by kernel_rfl) (by kernel_rfl) (fun _ _ _ h => h) (by rfl) ?yb1 (by assumption) ?_
        case yb1 => ((intro w hSw); (try dsimp only at hSw); go_simp <;> (with_reducible rfl))
        try simp only [Act.put, List.setIfInBounds_toArray, List.set_cons_zero, List.set_cons_succ]
        refine held_take 2 (some 45) (v := ?vb2) rfl rfl (by kernel_rfl) (by kernel_rfl) (by kernel_rfl) (fun _ _ _ h => h) (by rfl) ?yb2 (by assumption) ?_
        case yb2 => ((intro w hSw); (try dsimp only at hSw); go_simp <;> (with_reducible rfl))
        try simp only [Act.put, List.setIfInBounds_toArray, List.set_cons_zero, List.set_cons_succ]
        refine held_take 3 (some 46) (v := ?vb3) rfl rfl (by kernel_rfl) (by kernel_rfl) (by kernel_rfl) (fun _ _ _ h => h) (by rfl) ?yb3 (by assumption) ?_
        case yb3 => ((intro w hSw); (try dsimp only at hSw); go_simp <;> (with_reducible rfl))
        try simp only [Act.put, List.setIfInBounds_toArray, List.set_cons_zero, List.set_cons_succ]
        refine held_take 4 (some 47) (v := ?vb4) rfl rfl (by kernel_rfl) (by kernel_rfl) (by kernel_rfl) (fun _ _ _ h => h) (by rfl) ?yb4 (by assumption) ?_
        case yb4 => ((intro w hSw); (try dsimp only at hSw); go_simp <;> (with_reducible rfl))
        try simp only [Act.put, List.setIfInBounds_toArray, List.set_cons_zero, List.set_cons_succ]
        refine held_take 5 (some 48) (v := ?vb5) rfl rfl (by kernel_rfl) (by kernel_rfl) (by kernel_rfl) (fun _ _ _ h => h) (by rfl) ?yb5 (by assumption) ?_
        case yb5 => ((intro w hSw); (try dsimp only at hSw); go_simp <;> (with_reducible rfl))
        try simp only [Act.put, List.setIfInBounds_toArray, List.set_cons_zero, List.set_cons_succ]
        refine held_take 6 (some 49) (v := ?vb6) rfl rfl (by kernel_rfl) (by kernel_rfl) (by kernel_rfl) (fun _ _ _ h => h) (by rfl) ?yb6 (by assumption) ?_
        case yb6 => ((intro w hSw); (try dsimp only at hSw); go_simp <;> (with_reducible rfl))
        try simp only [Act.put, List.setIfInBounds_toArray, List.set_cons_zero, List.set_cons_succ]
        refine held_take 7 (some 50) (v := ?vb7) rfl rfl (by kernel_rfl) (by kernel_rfl) (by kernel_rfl) (fun _ _ _ h => h) (by rfl) ?yb7 (by assumption) ?_
        case yb7 => ((intro w hSw); (try dsimp only at hSw); go_simp <;> (with_reducible rfl))
        try simp only [Act.put, List.setIfInBounds_toArray, List.set_cons_zero, List.set_cons_succ]
        refine held_take 8 (some 51) (v := ?vb8) rfl rfl (by kernel_rfl) (by kernel_rfl) (by kernel_rfl) (fun _ _ _ h => h) (by rfl) ?yb8 (by assumption) ?_
        case yb8 => ((intro w hSw); (try dsimp only at hSw); go_simp <;> (with_reducible rfl))
        try simp only [Act.put, List.setIfInBounds_toArray, List.set_cons_zero, List.set_cons_succ]
        refine held_take 9 (some 52) (v := ?vb9) rfl rfl (by kernel_rfl) (by kernel_rfl) (by kernel_rfl) (fun _ _ _ h => h) (by rfl) ?yb9 (by assumption) ?_
        case yb9 => ((intro w hSw); (try dsimp only at hSw); go_simp <;> (with_reducible rfl))
        try simp only [Act.put, List.setIfInBounds_toArray, List.set_cons_zero, List.set_cons_succ]
        refine held_take 10 (some 53) (v := ?vb10) rfl rfl (by kernel_rfl) (by kernel_rfl) (by kernel_rfl) (fun _ _ _ h => h) (by rfl) ?yb10 (by assumption) ?_
        case yb10 => ((intro w hSw); (try dsimp only at hSw); go_simp <;> (with_reducible rfl))
        try simp only [Act.put, List.setIfInBounds_toArray, List.set_cons_zero, List.set_cons_succ]
        refine held_take 11 (some 54) (v := ?vb11) rfl rfl (by kernel_rfl) (by kernel_rfl) (by kernel_rfl) (fun _ _ _ h => h) (by rfl) ?yb11 (by assumption) ?_
        case yb11 => ((intro w hSw); (try dsimp only at hSw); go_simp <;> (with_reducible rfl))
        try simp only [Act.put, List.setIfInBounds_toArray, List.set_cons_zero, List.set_cons_succ]
        refine held_take 12 (some 55) (v := ?vb12) rfl rfl (by kernel_rfl) (by kernel_rfl) (by kernel_rfl) (fun _ _ _ h => h) (by rfl) ?yb12 (by assumption) ?_
        case yb12 => ((intro w hSw); (try dsimp only at hSw); go_simp <;> (with_reducible rfl))
        try simp only [Act.put, List.setIfInBounds_toArray, List.set_cons_zero, List.set_cons_succ]
        refine wpAnyH_ready (rs := [13]) (by kernel_rfl) (by simp) ?_
        refine AllReadyH.cons rfl (fun K hK => ?_) AllReadyH.nil
        go_simp
        refine (IHR.out pr _ HRD.out (by have := HSZ.out; omega)).mono ?_
        rintro e w4 ⟨⟨p4, rfl, ht4⟩, hb4⟩
        have K4 := cells6_below (by assumption) hb4
        have HT4 := Aside0.mk ht4
        have HL4 := Aside0.mk (HLD.out.below hb4)
        have HB4 := Aside0.mk (HBD.out.trans (hb4.mono HBD.out.size))
        clear ht4 hb4
        refine hK.out _ _ ?hSb14 (fun hHeld => ?_)
        case hSb14 => first | assumption | go_keep
        clear hK K
        try simp only [Act.put, List.setIfInBounds_toArray, List.set_cons_zero, List.set_cons_succ]
        refine wpAnyH_ready (rs := [14]) (by kernel_rfl) (by simp) ?_
        refine AllReadyH.cons rfl (fun K hK => ?_) AllReadyH.nil
        go_simp
        refine (even_any pl l k1 v1 p4 (withT k v r) _ HL4.out HT4.out (by have := HSZ.out; have := HZR.out; omega)).mono ?_
        rintro e w5 ⟨⟨p5, rfl, ht5⟩, hb5⟩
        have K5 := cells6_below (by assumption) hb5
        have HT5 := Aside0.mk ht5
        have HB5 := Aside0.mk (HB4.out.trans (hb5.mono HB4.out.size))
        clear ht5 hb5
        refine hK.out _ _ ?hSb15 (fun hHeld => ?_)
        case hSb15 => first | assumption | go_keep
        clear hK K
        try simp only [Act.put, List.setIfInBounds_toArray, List.set_cons_zero, List.set_cons_succ]
        refine held_take 15 (some 4) (v := ?vb15) rfl rfl (by kernel_rfl) (by kernel_rfl) (by kernel_rfl) (fun _ _ _ h => h) (by rfl) ?yb15 (by assumption) ?_
        case yb15 => ((intro w hSw); (try dsimp only at hSw); go_simp <;> (with_reducible rfl))
        try simp only [Act.put, List.setIfInBounds_toArray, List.set_cons_zero, List.set_cons_succ]
        refine wpAnyH_done (by kernel_rfl) ?_ _
        go_wp2
        go_ret
        exact ⟨⟨_, rfl, by rw [HEV.out]; exact HT5.out⟩, HB5.out⟩
      · have HEV := Aside0.mk (show withT k v (.node l k1 v1 r) = .node l k v r from by rw [withT, if_neg (show ¬ k < k1 by omega), if_neg (show ¬ k > k1 by omega)])
        go_wp2_with fail
        have hN : w2.cell? ⟨g, 0, none⟩ = some (.int .u64 k1) ∧ w2.cell? ⟨g, 1, none⟩ = some (.int .i64 v1) ∧ w2.cell? ⟨g, 2, none⟩ = some (.pointer pl) ∧ w2.cell? ⟨g, 3, none⟩ = some (.pointer pr) ∧ w2.cell? ⟨w.heap.size, 0, none⟩ = some (.int .u64 k) ∧ w2.cell? ⟨w.heap.size, 1, none⟩ = some (.int .i64 v) :=
          ⟨(node_cells HG2.out).1, (node_cells HG2.out).2.1, (node_cells HG2.out).2.2.1, (node_cells HG2.out).2.2.2, blk_cell HX2.out 0, blk_cell HX2.out 1⟩
        have HLD := Aside0.mk (HL2.out.below (below_drew (Below.refl _ w2)))
        have HRD := Aside0.mk (HR2.out.below (below_drew (Below.refl _ w2)))
        have HBD := Aside0.mk (HB2.out.trans ((below_drew (Below.refl _ w2)).mono HB2.out.size))
        clear HB2 HX2 HG2 HL2 HR2
        refine wp_region_held_drew (S := (fun w' => w'.cell? ⟨g, 0, none⟩ = some (.int .u64 k1) ∧ w'.cell? ⟨g, 1, none⟩ = some (.int .i64 v1) ∧ w'.cell? ⟨g, 2, none⟩ = some (.pointer pl) ∧ w'.cell? ⟨g, 3, none⟩ = some (.pointer pr) ∧ w'.cell? ⟨w.heap.size, 0, none⟩ = some (.int .u64 k) ∧ w'.cell? ⟨w.heap.size, 1, none⟩ = some (.int .i64 v))) (by kernel_rfl) ?hSc0 (fun hHeld => ?_)
        case hSc0 => first | assumption | go_keep
        refine held_take 0 (some 58) (v := ?vc0) rfl rfl (by kernel_rfl) (by kernel_rfl) (by kernel_rfl) (fun _ _ _ h => h) (by rfl) ?yc0 (by assumption) ?_
        case yc0 => ((intro w hSw); (try dsimp only at hSw); go_simp <;> (with_reducible rfl))
        try simp only [Act.put, List.setIfInBounds_toArray, List.set_cons_zero, List.set_cons_succ]
        refine held_take 1 (some 59) (v := ?vc1) rfl rfl (by kernel_rfl) (by kernel_rfl) (by kernel_rfl) (fun _ _ _ h => h) (by rfl) ?yc1 (by assumption) ?_
        case yc1 => ((intro w hSw); (try dsimp only at hSw); go_simp <;> (with_reducible rfl))
        try simp only [Act.put, List.setIfInBounds_toArray, List.set_cons_zero, List.set_cons_succ]
        refine held_take 2 (some 60) (v := ?vc2) rfl rfl (by kernel_rfl) (by kernel_rfl) (by kernel_rfl) (fun _ _ _ h => h) (by rfl) ?yc2 (by assumption) ?_
        case yc2 => ((intro w hSw); (try dsimp only at hSw); go_simp <;> (with_reducible rfl))
        try simp only [Act.put, List.setIfInBounds_toArray, List.set_cons_zero, List.set_cons_succ]
        refine held_take 3 (some 61) (v := ?vc3) rfl rfl (by kernel_rfl) (by kernel_rfl) (by kernel_rfl) (fun _ _ _ h => h) (by rfl) ?yc3 (by assumption) ?_
        case yc3 => ((intro w hSw); (try dsimp only at hSw); go_simp <;> (with_reducible rfl))
        try simp only [Act.put, List.setIfInBounds_toArray, List.set_cons_zero, List.set_cons_succ]
        refine held_take 4 (some 62) (v := ?vc4) rfl rfl (by kernel_rfl) (by kernel_rfl) (by kernel_rfl) (fun _ _ _ h => h) (by rfl) ?yc4 (by assumption) ?_
        case yc4 => ((intro w hSw); (try dsimp only at hSw); go_simp <;> (with_reducible rfl))
        try simp only [Act.put, List.setIfInBounds_toArray, List.set_cons_zero, List.set_cons_succ]
        refine held_take 5 (some 63) (v := ?vc5) rfl rfl (by kernel_rfl) (by kernel_rfl) (by kernel_rfl) (fun _ _ _ h => h) (by rfl) ?yc5 (by assumption) ?_
        case yc5 => ((intro w hSw); (try dsimp only at hSw); go_simp <;> (with_reducible rfl))
        try simp only [Act.put, List.setIfInBounds_toArray, List.set_cons_zero, List.set_cons_succ]
        refine held_take 6 (some 64) (v := ?vc6) rfl rfl (by kernel_rfl) (by kernel_rfl) (by kernel_rfl) (fun _ _ _ h => h) (by rfl) ?yc6 (by assumption) ?_
        case yc6 => ((intro w hSw); (try dsimp only at hSw); go_simp <;> (with_reducible rfl))
        try simp only [Act.put, List.setIfInBounds_toArray, List.set_cons_zero, List.set_cons_succ]
        refine held_take 7 (some 65) (v := ?vc7) rfl rfl (by kernel_rfl) (by kernel_rfl) (by kernel_rfl) (fun _ _ _ h => h) (by rfl) ?yc7 (by assumption) ?_
        case yc7 => ((intro w hSw); (try dsimp only at hSw); go_simp <;> (with_reducible rfl))
        try simp only [Act.put, List.setIfInBounds_toArray, List.set_cons_zero, List.set_cons_succ]
        refine held_take 8 (some 66) (v := ?vc8) rfl rfl (by kernel_rfl) (by kernel_rfl) (by kernel_rfl) (fun _ _ _ h => h) (by rfl) ?yc8 (by assumption) ?_
        case yc8 => ((intro w hSw); (try dsimp only at hSw); go_simp <;> (with_reducible rfl))
        try simp only [Act.put, List.setIfInBounds_toArray, List.set_cons_zero, List.set_cons_succ]
        refine wpAnyH_ready (rs := [9]) (by kernel_rfl) (by simp) ?_
        refine AllReadyH.cons rfl (fun K hK => ?_) AllReadyH.nil
        go_simp
        refine (made_any pl l k v pr r _ HLD.out HRD.out (by have := HSZ.out; omega)).mono ?_
        rintro e w4 ⟨⟨p4, rfl, ht4⟩, hb4⟩
        have K4 := cells6_below (by assumption) hb4
        have HT4 := Aside0.mk ht4
        have HB4 := Aside0.mk (HBD.out.trans (hb4.mono HBD.out.size))
        clear ht4 hb4
        refine hK.out _ _ ?hSc10 (fun hHeld => ?_)
        case hSc10 => first | assumption | go_keep
        clear hK K
        try simp only [Act.put, List.setIfInBounds_toArray, List.set_cons_zero, List.set_cons_succ]
        refine held_take 10 (some 4) (v := ?vc10) rfl rfl (by kernel_rfl) (by kernel_rfl) (by kernel_rfl) (fun _ _ _ h => h) (by rfl) ?yc10 (by assumption) ?_
        case yc10 => ((intro w hSw); (try dsimp only at hSw); go_simp <;> (with_reducible rfl))
        try simp only [Act.put, List.setIfInBounds_toArray, List.set_cons_zero, List.set_cons_succ]
        refine wpAnyH_done (by kernel_rfl) ?_ _
        go_wp2
        go_ret
        exact ⟨⟨_, rfl, by rw [HEV.out]; exact HT4.out⟩, HB4.out⟩
end Go.Proofs.Ytjfbiabgeickjaa.H
/-! ### Tree4 -/
namespace Go.Proofs.Ytjfbiabgeickjaa.H
open Go.RowKit Go.Proofs.Ytjfbiabgeickjaa.P Go.Proofs.YtjfbiabgeickjaaW.PrintWords Go.Proofs.YtjfbiabgeickjaaW.PrintLast Go.Proofs.YtjfbiabgeickjaaW.PrintMore
set_option linter.unusedVariables false
set_option linter.unusedSimpArgs false
/-- The least pair, and the tree without it. -/
def leastT : T → (Int × Int) × T
  | .leaf => ((0, 0), .leaf)
  | .node .leaf k v r => ((k, v), r)
  | .node (.node ll lk lv lr) k v r => ((leastT (.node ll lk lv lr)).1, evenT (leastT (.node ll lk lv lr)).2 k v r)
theorem sz_least : ∀ t : T, sz (leastT t).2 ≤ sz t
  | .leaf => by simp [leastT]
  | .node .leaf k v r => by simp only [leastT, sz]; omega
  | .node (.node ll lk lv lr) k v r => by
    have h := sz_least (.node ll lk lv lr)
    rw [leastT, sz_even]
    simp only [sz] at h ⊢
    omega
theorem far2 {w : World} {g h i : Nat} {v u u' : Value} (hne : ¬ g = h) (hc : w.cell? ⟨g, i, none⟩ = some v) : ((w.setCell ⟨h, 0, none⟩ u).setCell ⟨h, 1, none⟩ u').cell? ⟨g, i, none⟩ = some v := by
  rw [World.cell?_of_block (w := w.setCell ⟨h, 0, none⟩ u) (Below.heap_setCell _ _ _ _ hne), World.cell?_of_block (w := w) (Below.heap_setCell _ _ _ _ hne)]
  exact hc
/-- A pair's block may be written: no tree lies in it. -/
theorem TreeAt.far {W : World} {h j : Nat} {u : Value} {cs : Array Value} (hh : W.heap[h]? = some (.cells cs 66 (0, 0))) : ∀ {t : T} {p : Option Addr}, TreeAt W p t → TreeAt (W.setCell ⟨h, j, none⟩ u) p t
  | .leaf, _, h1 => h1
  | .node l k v r, _, ⟨g, pl, pr, h1, h2, h3, h4⟩ => by
    have hne : g ≠ h := by
      rintro rfl
      rw [hh] at h2
      injection h2 with h2
      injection h2 with _ h2
      exact absurd h2 (by decide)
    exact ⟨g, pl, pr, h1, (Below.heap_setCell W ⟨h, j, none⟩ u g hne).trans h2, TreeAt.far hh h3, TreeAt.far hh h4⟩
set_option maxRecDepth 20000 in
set_option maxHeartbeats 4000000 in
theorem least_any (t : T) : ∀ (l : T) (k v : Int) (r : T), t = .node l k v r → ∀ (p : Option Addr) (w : World), TreeAt w p t → sz t ≤ 40000 →
    Calls Try.prog 57 #[.pointer p] w fun e w' => (∃ q, e = .returned (.tuple #[.agg #[.int .u64 (leastT t).1.1, .int .i64 (leastT t).1.2], .pointer q]) ∧ TreeAt w' q (leastT t).2) ∧ Below w.heap.size w w' := by
  induction t with
  | leaf =>
    intro l k v r e
    cases e
  | node l k v r ihl ihr =>
    intro _ _ _ _ _ p w h hs
    obtain ⟨g, pl, pr, rfl, hg, hl, hr⟩ := h
    have HSZ := Aside0.mk (show sz l + sz r + 1 ≤ 40000 by simp only [sz] at hs; omega)
    have HB0 := Aside0.mk ((Below.refl w.heap.size w).alloc (Nat.le_refl _) (.cells #[.int .u64 0, .int .i64 0] 66))
    have HX0 := Aside0.mk (blk_new w (.cells #[.int .u64 0, .int .i64 0] 66))
    have HG0 := Aside0.mk (blk_below hg HB0.out)
    have HL0 := Aside0.mk (hl.below HB0.out)
    have HR0 := Aside0.mk (hr.below HB0.out)
    have HRW := Aside0.mk hr
    have HGH := Aside0.mk (blk_lt hg)
    have IHL := Aside0.mk ihl
    have c2 := blk_cell HG0.out 2
    clear hg hl hr hs ihl ihr
    go_enter Try.func57, Try.ntmps57
    cases l with
    | leaf =>
      obtain rfl : pl = none := HL0.out
      go_wp2_with fail
      generalize hw0 : (w.alloc (.cells #[.int .u64 0, .int .i64 0] 66)) = w0 at *
      have HW0 := Aside0.mk hw0
      clear hw0
      have hN : w0.cell? ⟨g, 0, none⟩ = some (.int .u64 k) ∧ w0.cell? ⟨g, 1, none⟩ = some (.int .i64 v) ∧ w0.cell? ⟨g, 2, none⟩ = some (.pointer none) ∧ w0.cell? ⟨g, 3, none⟩ = some (.pointer pr) := node_cells HG0.out
      have k0 : w0.cell? ⟨w.heap.size, 0, none⟩ = some (.int .u64 0) := blk_cell HX0.out 0
      have k1 : w0.cell? ⟨w.heap.size, 1, none⟩ = some (.int .i64 0) := blk_cell HX0.out 1
      have f0 : w0.frozen? ⟨w.heap.size, 0, none⟩ = false := blk_frozen HX0.out 0
      have f1 : w0.frozen? ⟨w.heap.size, 1, none⟩ = false := blk_frozen HX0.out 1
      have hne : ¬ g = w.heap.size := by have := HGH.out; omega
      refine wp_region_held_drew (S := (fun w' => w'.cell? ⟨g, 0, none⟩ = some (.int .u64 k) ∧ w'.cell? ⟨g, 1, none⟩ = some (.int .i64 v) ∧ w'.cell? ⟨g, 2, none⟩ = some (.pointer none) ∧ w'.cell? ⟨g, 3, none⟩ = some (.pointer pr))) (by kernel_rfl) ?hSa0 (fun hHeld => ?_)
      case hSa0 => first | assumption | exact ⟨far2 hne hN.1, far2 hne hN.2.1, far2 hne hN.2.2.1, far2 hne hN.2.2.2⟩ | go_keep
      refine held_take 0 (some 11) (v := ?va0) rfl rfl (by kernel_rfl) (by kernel_rfl) (by kernel_rfl) (fun _ _ _ h => h) (by rfl) ?ya0 (by assumption) ?_
      case ya0 => ((intro w hSw); (try dsimp only at hSw); go_simp <;> (with_reducible rfl))
      try simp only [Act.put, List.setIfInBounds_toArray, List.set_cons_zero, List.set_cons_succ]
      refine held_take 1 (some 12) (v := ?va1) rfl rfl (by kernel_rfl) (by kernel_rfl) (by kernel_rfl) (fun _ _ _ h => h) (by rfl) ?ya1 (by assumption) ?_
      case ya1 => ((intro w hSw); (try dsimp only at hSw); go_simp <;> (with_reducible rfl))
      try simp only [Act.put, List.setIfInBounds_toArray, List.set_cons_zero, List.set_cons_succ]
      refine held_take 2 (some 13) (v := ?va2) rfl rfl (by kernel_rfl) (by kernel_rfl) (by kernel_rfl) (fun _ _ _ h => h) (by rfl) ?ya2 (by assumption) ?_
      case ya2 => ((intro w hSw); (try dsimp only at hSw); go_simp <;> (with_reducible rfl))
      try simp only [Act.put, List.setIfInBounds_toArray, List.set_cons_zero, List.set_cons_succ]
      refine held_take 3 (some 14) (v := ?va3) rfl rfl (by kernel_rfl) (by kernel_rfl) (by kernel_rfl) (fun _ _ _ h => h) (by rfl) ?ya3 (by assumption) ?_
      case ya3 => ((intro w hSw); (try dsimp only at hSw); go_simp <;> (with_reducible rfl))
      try simp only [Act.put, List.setIfInBounds_toArray, List.set_cons_zero, List.set_cons_succ]
      refine held_take 4 (some 15) (v := ?va4) rfl rfl (by kernel_rfl) (by kernel_rfl) (by kernel_rfl) (fun _ _ _ h => h) (by rfl) ?ya4 (by assumption) ?_
      case ya4 => ((intro w hSw); (try dsimp only at hSw); go_simp <;> (with_reducible rfl))
      try simp only [Act.put, List.setIfInBounds_toArray, List.set_cons_zero, List.set_cons_succ]
      refine held_take 5 (some 16) (v := ?va5) rfl rfl (by kernel_rfl) (by kernel_rfl) (by kernel_rfl) (fun _ _ _ h => h) (by rfl) ?ya5 (by assumption) ?_
      case ya5 => ((intro w hSw); (try dsimp only at hSw); go_simp <;> (with_reducible rfl))
      try simp only [Act.put, List.setIfInBounds_toArray, List.set_cons_zero, List.set_cons_succ]
      refine held_take 6 (some 17) (v := ?va6) rfl rfl (by kernel_rfl) (by kernel_rfl) (by kernel_rfl) (fun _ _ _ h => h) (by rfl) ?ya6 (by assumption) ?_
      case ya6 => ((intro w hSw); (try dsimp only at hSw); go_simp <;> (with_reducible rfl))
      try simp only [Act.put, List.setIfInBounds_toArray, List.set_cons_zero, List.set_cons_succ]
      refine held_take 7 (some 18) (v := ?va7) rfl rfl (by kernel_rfl) (by kernel_rfl) (by kernel_rfl) (fun _ _ _ h => h) (by rfl) ?ya7 (by assumption) ?_
      case ya7 => ((intro w hSw); (try dsimp only at hSw); go_simp <;> (with_reducible rfl))
      try simp only [Act.put, List.setIfInBounds_toArray, List.set_cons_zero, List.set_cons_succ]
      refine wpAnyH_ready (rs := [8]) (by kernel_rfl) (by simp) ?_
      refine AllReadyH.cons rfl (fun K hK => ?_) AllReadyH.nil
      go_simp
      refine hK.out _ _ ?hSa9 (fun hHeld => ?_)
      case hSa9 => first | assumption | exact ⟨far2 hne hN.1, far2 hne hN.2.1, far2 hne hN.2.2.1, far2 hne hN.2.2.2⟩ | go_keep
      clear hK K
      try simp only [Act.put, List.setIfInBounds_toArray, List.set_cons_zero, List.set_cons_succ]
      refine held_take 9 (some 3) (v := ?va9) rfl rfl (by kernel_rfl) (by kernel_rfl) (by kernel_rfl) (fun _ _ _ h => h) (by rfl) ?ya9 (by assumption) ?_
      case ya9 => ((intro w hSw); (try dsimp only at hSw); go_simp <;> (with_reducible rfl))
      try simp only [Act.put, List.setIfInBounds_toArray, List.set_cons_zero, List.set_cons_succ]
      refine wpAnyH_done (by kernel_rfl) ?_ _
      have HBS := Aside0.mk ((HB0.out.setCell (p := ⟨w.heap.size, 0, none⟩) (Nat.le_refl _) (.int .u64 k)).setCell (p := ⟨w.heap.size, 1, none⟩) (Nat.le_refl _) (.int .i64 v))
      have m1 := blk_set (blk_set HX0.out 0 (.int .u64 k)) 1 (.int .i64 v)
      have m2 := blk_cell m1 0
      have m3 := blk_cell m1 1
      have HRS := Aside0.mk (HRW.out.below HBS.out)
      generalize (w0.setCell ⟨w.heap.size, 0, none⟩ (Value.int .u64 k)).setCell ⟨w.heap.size, 1, none⟩ (Value.int .i64 v) = wd at *
      go_wp2
      exact bodyPost_ret (v := .tuple #[.agg #[.int .u64 k, .int .i64 v], .pointer pr]) (by simp [results, Try.results57, go_sem, m2, m3]) rfl ⟨⟨pr, rfl, HRS.out.below (below_drew (Below.refl _ _))⟩, HBS.out.trans ((below_drew (Below.refl _ _)).mono HBS.out.size)⟩
    | node ll lk lv lr =>
      obtain ⟨gl, pll, plr, rfl, hgl, hll, hlr⟩ := id HL0.out
      have HLEQ := Aside0.mk (show leastT (.node (.node ll lk lv lr) k v r) = ((leastT (.node ll lk lv lr)).1, evenT (leastT (.node ll lk lv lr)).2 k v r) from rfl)
      have HZ := Aside0.mk (sz_least (.node ll lk lv lr))
      clear hgl hll hlr
      generalize leastT (.node (.node ll lk lv lr) k v r) = res at *
      generalize hlt : T.node ll lk lv lr = l at *
      have HLT := Aside0.mk hlt
      clear hlt
      go_wp2_with fail
      generalize (w.alloc (.cells #[.int .u64 0, .int .i64 0] 66)) = w0 at *
      refine (IHL.out _ _ _ _ HLT.out.symm _ w0 HL0.out (by have := HSZ.out; omega)).mono ?_
      rintro e w1 ⟨⟨q1, rfl, hq1⟩, hb1⟩
      generalize hlr2 : leastT l = lres at *
      obtain ⟨⟨x0, x1⟩, lt⟩ := lres
      simp only [] at HLEQ HZ hq1 ⊢
      have HB1 := Aside0.mk (HB0.out.trans (hb1.mono HB0.out.size))
      have HX1 := Aside0.mk (blk_below HX0.out hb1)
      have HG1 := Aside0.mk (blk_below HG0.out hb1)
      have HR1 := Aside0.mk (HR0.out.below hb1)
      have HQ1 := Aside0.mk hq1
      clear hq1 hb1 hlr2 HB0 HX0 HG0 HR0 HL0 c2
      go_wp2_with fail

      generalize hbx2 : (w1.alloc (.cells #[.int .u64 x0, .int .i64 x1] 66)) = w2 at *
      have hb2 : Below w1.heap.size w1 w2 := by rw [← hbx2]; exact (Below.refl w1.heap.size w1).alloc (Nat.le_refl _) _
      have HX2 := Aside0.mk (show w2.heap[w1.heap.size]? = some (.cells #[.int .u64 x0, .int .i64 x1] 66 (0, 0)) from by rw [← hbx2]; exact blk_new w1 _)
      have HB2 := Aside0.mk (HB1.out.trans (hb2.mono HB1.out.size))
      have HO2 := Aside0.mk (blk_below HX1.out hb2)
      have HG2 := Aside0.mk (blk_below HG1.out hb2)
      have HR2 := Aside0.mk (HR1.out.below hb2)
      have HQ2 := Aside0.mk (HQ1.out.below hb2)
      have HLT2 := Aside0.mk (And.intro (blk_lt HX1.out) HB1.out.size)
      have HW12 := Aside0.mk hb2
      have HRW1 := Aside0.mk (Nat.le_refl w.heap.size)
      clear hb2 hbx2 HB1 HX1 HG1 HR1 HQ1
      have hN : w2.cell? ⟨g, 0, none⟩ = some (.int .u64 k) ∧ w2.cell? ⟨g, 1, none⟩ = some (.int .i64 v) ∧ w2.cell? ⟨g, 2, none⟩ = some (.pointer (some ⟨gl, 0, none⟩)) ∧ w2.cell? ⟨g, 3, none⟩ = some (.pointer pr) ∧ w2.cell? ⟨w1.heap.size, 0, none⟩ = some (.int .u64 x0) ∧ w2.cell? ⟨w1.heap.size, 1, none⟩ = some (.int .i64 x1) :=
        ⟨(node_cells HG2.out).1, (node_cells HG2.out).2.1, (node_cells HG2.out).2.2.1, (node_cells HG2.out).2.2.2, blk_cell HX2.out 0, blk_cell HX2.out 1⟩
      have HQD := Aside0.mk (HQ2.out.below (below_drew (Below.refl _ w2)))
      have HRD := Aside0.mk (HR2.out.below (below_drew (Below.refl _ w2)))
      have HBD := Aside0.mk (HB2.out.trans ((below_drew (Below.refl _ w2)).mono HB2.out.size))
      have HOD := Aside0.mk (show w2.drew.heap[w.heap.size]? = _ from HO2.out)
      have hne : ¬ g = w.heap.size := by have := HGH.out; omega
      have hne2 : ¬ w1.heap.size = w.heap.size := by have := HLT2.out.1; omega
      refine wp_region_held_drew (S := (fun w' => w'.cell? ⟨g, 0, none⟩ = some (.int .u64 k) ∧ w'.cell? ⟨g, 1, none⟩ = some (.int .i64 v) ∧ w'.cell? ⟨g, 2, none⟩ = some (.pointer (some ⟨gl, 0, none⟩)) ∧ w'.cell? ⟨g, 3, none⟩ = some (.pointer pr) ∧ w'.cell? ⟨w1.heap.size, 0, none⟩ = some (.int .u64 x0) ∧ w'.cell? ⟨w1.heap.size, 1, none⟩ = some (.int .i64 x1))) (by kernel_rfl) ?hSb0 (fun hHeld => ?_)
      case hSb0 => first | assumption | exact ⟨far2 hne K5.1, far2 hne K5.2.1, far2 hne K5.2.2.1, far2 hne K5.2.2.2.1, far2 hne2 K5.2.2.2.2.1, far2 hne2 K5.2.2.2.2.2⟩ | go_keep
      refine held_take 0 (some 27) (v := ?vb0) rfl rfl (by kernel_rfl) (by kernel_rfl) (by kernel_rfl) (fun _ _ _ h => h) (by rfl) ?yb0 (by assumption) ?_
      case yb0 => ((intro w hSw); (try dsimp only at hSw); go_simp <;> (with_reducible rfl))
      try simp only [Act.put, List.setIfInBounds_toArray, List.set_cons_zero, List.set_cons_succ]
      refine held_take 1 (some 28) (v := ?vb1) rfl rfl (by kernel_rfl) (by kernel_rfl) (by kernel_rfl) (fun _ _ _ h => h) (by rfl) ?yb1 (by assumption) ?_
      case yb1 => ((intro w hSw); (try dsimp only at hSw); go_simp <;> (with_reducible rfl))
      try simp only [Act.put, List.setIfInBounds_toArray, List.set_cons_zero, List.set_cons_succ]
      refine held_take 2 (some 29) (v := ?vb2) rfl rfl (by kernel_rfl) (by kernel_rfl) (by kernel_rfl) (fun _ _ _ h => h) (by rfl) ?yb2 (by assumption) ?_
      case yb2 => ((intro w hSw); (try dsimp only at hSw); go_simp <;> (with_reducible rfl))
      try simp only [Act.put, List.setIfInBounds_toArray, List.set_cons_zero, List.set_cons_succ]
      refine held_take 3 (some 30) (v := ?vb3) rfl rfl (by kernel_rfl) (by kernel_rfl) (by kernel_rfl) (fun _ _ _ h => h) (by rfl) ?yb3 (by assumption) ?_
      case yb3 => ((intro w hSw); (try dsimp only at hSw); go_simp <;> (with_reducible rfl))
      try simp only [Act.put, List.setIfInBounds_toArray, List.set_cons_zero, List.set_cons_succ]
      refine held_take 4 (some 31) (v := ?vb4) rfl rfl (by kernel_rfl) (by kernel_rfl) (by kernel_rfl) (fun _ _ _ h => h) (by rfl) ?yb4 (by assumption) ?_
      case yb4 => ((intro w hSw); (try dsimp only at hSw); go_simp <;> (with_reducible rfl))
      try simp only [Act.put, List.setIfInBounds_toArray, List.set_cons_zero, List.set_cons_succ]
      refine held_take 5 (some 32) (v := ?vb5) rfl rfl (by kernel_rfl) (by kernel_rfl) (by kernel_rfl) (fun _ _ _ h => h) (by rfl) ?yb5 (by assumption) ?_
      case yb5 => ((intro w hSw); (try dsimp only at hSw); go_simp <;> (with_reducible rfl))
      try simp only [Act.put, List.setIfInBounds_toArray, List.set_cons_zero, List.set_cons_succ]
      refine held_take 6 (some 33) (v := ?vb6) rfl rfl (by kernel_rfl) (by kernel_rfl) (by kernel_rfl) (fun _ _ _ h => h) (by rfl) ?yb6 (by assumption) ?_
      case yb6 => ((intro w hSw); (try dsimp only at hSw); go_simp <;> (with_reducible rfl))
      try simp only [Act.put, List.setIfInBounds_toArray, List.set_cons_zero, List.set_cons_succ]
      refine held_take 7 (some 34) (v := ?vb7) rfl rfl (by kernel_rfl) (by kernel_rfl) (by kernel_rfl) (fun _ _ _ h => h) (by rfl) ?yb7 (by assumption) ?_
      case yb7 => ((intro w hSw); (try dsimp only at hSw); go_simp <;> (with_reducible rfl))
      try simp only [Act.put, List.setIfInBounds_toArray, List.set_cons_zero, List.set_cons_succ]
      refine held_take 8 (some 35) (v := ?vb8) rfl rfl (by kernel_rfl) (by kernel_rfl) (by kernel_rfl) (fun _ _ _ h => h) (by rfl) ?yb8 (by assumption) ?_
      case yb8 => ((intro w hSw); (try dsimp only at hSw); go_simp <;> (with_reducible rfl))
      try simp only [Act.put, List.setIfInBounds_toArray, List.set_cons_zero, List.set_cons_succ]
      refine held_take 9 (some 36) (v := ?vb9) rfl rfl (by kernel_rfl) (by kernel_rfl) (by kernel_rfl) (fun _ _ _ h => h) (by rfl) ?yb9 (by assumption) ?_
      case yb9 => ((intro w hSw); (try dsimp only at hSw); go_simp <;> (with_reducible rfl))
      try simp only [Act.put, List.setIfInBounds_toArray, List.set_cons_zero, List.set_cons_succ]
      refine wpAnyH_ready (rs := [10]) (by kernel_rfl) (by simp) ?_
      refine AllReadyH.cons rfl (fun K hK => ?_) AllReadyH.nil
      go_simp
      refine (even_any q1 lt k v pr r _ HQD.out HRD.out (by have := HSZ.out; have := HZ.out; omega)).mono ?_
      rintro e w5 ⟨⟨p5, rfl, ht5⟩, hb5⟩
      have K5 := cells6_below (by assumption) hb5
      have HT5 := Aside0.mk ht5
      have HO5 := Aside0.mk (blk_below HOD.out hb5)
      have k0 := blk_cell HO5.out 0
      have k1 := blk_cell HO5.out 1
      have f0 := blk_frozen HO5.out 0
      have f1 := blk_frozen HO5.out 1
      have HB5 := Aside0.mk (HBD.out.trans (hb5.mono HBD.out.size))
      clear ht5 hb5
      refine hK.out _ _ ?hSb11 (fun hHeld => ?_)
      case hSb11 => first | assumption | exact ⟨far2 hne K5.1, far2 hne K5.2.1, far2 hne K5.2.2.1, far2 hne K5.2.2.2.1, far2 hne2 K5.2.2.2.2.1, far2 hne2 K5.2.2.2.2.2⟩ | go_keep
      clear hK K
      try simp only [Act.put, List.setIfInBounds_toArray, List.set_cons_zero, List.set_cons_succ]
      refine wpAnyH_ready (rs := [11]) (by kernel_rfl) (by simp) ?_
      refine AllReadyH.cons rfl (fun K hK => ?_) AllReadyH.nil
      go_simp
      refine hK.out _ _ ?hSb12 (fun hHeld => ?_)
      case hSb12 => first | assumption | exact ⟨far2 hne K5.1, far2 hne K5.2.1, far2 hne K5.2.2.1, far2 hne K5.2.2.2.1, far2 hne2 K5.2.2.2.2.1, far2 hne2 K5.2.2.2.2.2⟩ | go_keep
      clear hK K
      try simp only [Act.put, List.setIfInBounds_toArray, List.set_cons_zero, List.set_cons_succ]
      refine held_take 12 (some 3) (v := ?vb12) rfl rfl (by kernel_rfl) (by kernel_rfl) (by kernel_rfl) (fun _ _ _ h => h) (by rfl) ?yb12 (by assumption) ?_
      case yb12 => ((intro w hSw); (try dsimp only at hSw); go_simp <;> (with_reducible rfl))
      try simp only [Act.put, List.setIfInBounds_toArray, List.set_cons_zero, List.set_cons_succ]
      refine wpAnyH_done (by kernel_rfl) ?_ _
      have HFT := Aside0.mk ((HT5.out.far HO5.out (j := 0) (u := .int .u64 x0)).far (blk_set HO5.out 0 (.int .u64 x0)) (j := 1) (u := .int .i64 x1))
      have HBS := Aside0.mk ((HB5.out.setCell (p := ⟨w.heap.size, 0, none⟩) (Nat.le_refl _) (.int .u64 x0)).setCell (p := ⟨w.heap.size, 1, none⟩) (Nat.le_refl _) (.int .i64 x1))
      have m1 := blk_set (blk_set HO5.out 0 (.int .u64 x0)) 1 (.int .i64 x1)
      have m2 := blk_cell m1 0
      have m3 := blk_cell m1 1
      generalize (w5.setCell ⟨w.heap.size, 0, none⟩ (Value.int .u64 x0)).setCell ⟨w.heap.size, 1, none⟩ (Value.int .i64 x1) = wd at *
      go_wp2
      exact bodyPost_ret (v := .tuple #[.agg #[.int .u64 x0, .int .i64 x1], .pointer p5]) (by simp [results, Try.results57, go_sem, m2, m3]) rfl ⟨⟨p5, by rw [HLEQ.out], by rw [HLEQ.out]; exact HFT.out⟩, HBS.out⟩
end Go.Proofs.Ytjfbiabgeickjaa.H
/-! ### Tree5 -/
namespace Go.Proofs.Ytjfbiabgeickjaa.H
open Go.RowKit Go.Proofs.Ytjfbiabgeickjaa.P Go.Proofs.YtjfbiabgeickjaaW.PrintWords Go.Proofs.YtjfbiabgeickjaaW.PrintLast Go.Proofs.YtjfbiabgeickjaaW.PrintMore
set_option linter.unusedVariables false
set_option linter.unusedSimpArgs false
def hasT (k : Int) : T → Bool
  | .leaf => false
  | .node l k1 _ r => if k < k1 then hasT k l else if k > k1 then hasT k r else true
def withoutT (k : Int) : T → T
  | .leaf => .leaf
  | .node l k1 v1 r => if k < k1 then evenT (withoutT k l) k1 v1 r else if k > k1 then evenT l k1 v1 (withoutT k r) else
      match r with
      | .leaf => l
      | .node rl rk rv rr => evenT l (leastT (.node rl rk rv rr)).1.1 (leastT (.node rl rk rv rr)).1.2 (leastT (.node rl rk rv rr)).2
theorem sz_without (k : Int) : ∀ t : T, sz (withoutT k t) ≤ sz t
  | .leaf => Nat.le_refl _
  | .node l k1 v1 r => by
    have h1 := sz_without k l
    have h2 := sz_without k r
    unfold withoutT
    split
    · rw [sz_even]; simp only [sz]; omega
    · split
      · rw [sz_even]; simp only [sz]; omega
      · cases r with
        | leaf => simp only [sz]; omega
        | node rl rk rv rr =>
          have h3 := sz_least (.node rl rk rv rr)
          simp only []
          rw [sz_even]
          simp only [sz] at h3 ⊢
          omega
set_option maxRecDepth 20000 in
set_option maxHeartbeats 4000000 in
theorem without_any (k : Int) (t : T) : ∀ (p : Option Addr) (w : World), TreeAt w p t → sz t ≤ 40000 → hasT k t = true →
    Calls Try.prog 55 #[.pointer p, .int .u64 k] w fun e w' => (∃ q, e = .returned (.pointer q) ∧ TreeAt w' q (withoutT k t)) ∧ Below w.heap.size w w' := by
  induction t with
  | leaf =>
    intro p w h hs hh
    cases hh
  | node l k1 v1 r ihl ihr =>
    intro p w h hs hh
    obtain ⟨g, pl, pr, rfl, hg, hl, hr⟩ := h
    have HG0 := Aside0.mk hg
    have HL0 := Aside0.mk hl
    have HR0 := Aside0.mk hr
    have HSZ := Aside0.mk (show sz l + sz r + 1 ≤ 40000 by simp only [sz] at hs; omega)
    have IHL := Aside0.mk ihl
    have IHR := Aside0.mk ihr
    have HZL := Aside0.mk (sz_without k l)
    have HZR := Aside0.mk (sz_without k r)
    have hN : w.cell? ⟨g, 0, none⟩ = some (.int .u64 k1) ∧ w.cell? ⟨g, 1, none⟩ = some (.int .i64 v1) ∧ w.cell? ⟨g, 2, none⟩ = some (.pointer pl) ∧ w.cell? ⟨g, 3, none⟩ = some (.pointer pr) := node_cells hg
    have HLD := Aside0.mk (hl.below (below_drew (Below.refl _ w)))
    have HRD := Aside0.mk (hr.below (below_drew (Below.refl _ w)))
    have HBD := Aside0.mk (below_drew (Below.refl w.heap.size w))
    have hh' := hh
    unfold hasT at hh'
    have HH := Aside0.mk hh'
    have d0 := hN.1
    have d3 := hN.2.2.2
    have d2 := hN.2.2.1
    clear hg hl hr hs ihl ihr hh hh'
    go_enter Try.func55, Try.ntmps55
    by_cases c1 : k < k1
    · have HHL := Aside0.mk (show hasT k l = true from by have := HH.out; rwa [if_pos c1] at this)
      have HEV := Aside0.mk (show withoutT k (.node l k1 v1 r) = evenT (withoutT k l) k1 v1 r from by conv => lhs; unfold withoutT; rw [if_pos c1])
      go_wp2_with fail
      refine wp_region_held_drew (S := (fun w' => w'.cell? ⟨g, 0, none⟩ = some (.int .u64 k1) ∧ w'.cell? ⟨g, 1, none⟩ = some (.int .i64 v1) ∧ w'.cell? ⟨g, 2, none⟩ = some (.pointer pl) ∧ w'.cell? ⟨g, 3, none⟩ = some (.pointer pr))) (by kernel_rfl) ?hSa0 (fun hHeld => ?_)
      case hSa0 => first | assumption | go_keep
      refine held_take 0 (some 15) (v := ?va0) rfl rfl (by kernel_rfl) (by kernel_rfl) (by kernel_rfl) (fun _ _ _ h => h) (by rfl) ?ya0 (by assumption) ?_
      case ya0 => ((intro w hSw); (try dsimp only at hSw); go_simp <;> (with_reducible rfl))
      try simp only [Act.put, List.setIfInBounds_toArray, List.set_cons_zero, List.set_cons_succ]
      refine held_take 1 (some 16) (v := ?va1) rfl rfl (by kernel_rfl) (by kernel_rfl) (by kernel_rfl) (fun _ _ _ h => h) (by rfl) ?ya1 (by assumption) ?_
      case ya1 => ((intro w hSw); (try dsimp only at hSw); go_simp <;> (with_reducible rfl))
      try simp only [Act.put, List.setIfInBounds_toArray, List.set_cons_zero, List.set_cons_succ]
      refine held_take 2 (some 17) (v := ?va2) rfl rfl (by kernel_rfl) (by kernel_rfl) (by kernel_rfl) (fun _ _ _ h => h) (by rfl) ?ya2 (by assumption) ?_
      case ya2 => ((intro w hSw); (try dsimp only at hSw); go_simp <;> (with_reducible rfl))
      try simp only [Act.put, List.setIfInBounds_toArray, List.set_cons_zero, List.set_cons_succ]
      refine held_take 3 (some 18) (v := ?va3) rfl rfl (by kernel_rfl) (by kernel_rfl) (by kernel_rfl) (fun _ _ _ h => h) (by rfl) ?ya3 (by assumption) ?_
      case ya3 => ((intro w hSw); (try dsimp only at hSw); go_simp <;> (with_reducible rfl))
      try simp only [Act.put, List.setIfInBounds_toArray, List.set_cons_zero, List.set_cons_succ]
      refine held_take 4 (some 19) (v := ?va4) rfl rfl (by kernel_rfl) (by kernel_rfl) (by kernel_rfl) (fun _ _ _ h => h) (by rfl) ?ya4 (by assumption) ?_
      case ya4 => ((intro w hSw); (try dsimp only at hSw); go_simp <;> (with_reducible rfl))
      try simp only [Act.put, List.setIfInBounds_toArray, List.set_cons_zero, List.set_cons_succ]
      refine held_take 6 (some 21) (v := ?va6) rfl rfl (by kernel_rfl) (by kernel_rfl) (by kernel_rfl) (fun _ _ _ h => h) (by rfl) ?ya6 (by assumption) ?_
      case ya6 => ((intro w hSw); (try dsimp only at hSw); go_simp <;> (with_reducible rfl))
      try simp only [Act.put, List.setIfInBounds_toArray, List.set_cons_zero, List.set_cons_succ]
      refine held_take 7 (some 22) (v := ?va7) rfl rfl (by kernel_rfl) (by kernel_rfl) (by kernel_rfl) (fun _ _ _ h => h) (by rfl) ?ya7 (by assumption) ?_
      case ya7 => ((intro w hSw); (try dsimp only at hSw); go_simp <;> (with_reducible rfl))
      try simp only [Act.put, List.setIfInBounds_toArray, List.set_cons_zero, List.set_cons_succ]
      refine held_take 8 (some 23) (v := ?va8) rfl rfl (by kernel_rfl) (by kernel_rfl) (by kernel_rfl) (fun _ _ _ h => h) (by rfl) ?ya8 (by assumption) ?_
      case ya8 => ((intro w hSw); (try dsimp only at hSw); go_simp <;> (with_reducible rfl))
      try simp only [Act.put, List.setIfInBounds_toArray, List.set_cons_zero, List.set_cons_succ]
      refine held_take 9 (some 24) (v := ?va9) rfl rfl (by kernel_rfl) (by kernel_rfl) (by kernel_rfl) (fun _ _ _ h => h) (by rfl) ?ya9 (by assumption) ?_
      case ya9 => ((intro w hSw); (try dsimp only at hSw); go_simp <;> (with_reducible rfl))
      try simp only [Act.put, List.setIfInBounds_toArray, List.set_cons_zero, List.set_cons_succ]
      refine held_take 10 (some 25) (v := ?va10) rfl rfl (by kernel_rfl) (by kernel_rfl) (by kernel_rfl) (fun _ _ _ h => h) (by rfl) ?ya10 (by assumption) ?_
      case ya10 => ((intro w hSw); (try dsimp only at hSw); go_simp <;> (with_reducible rfl))
      try simp only [Act.put, List.setIfInBounds_toArray, List.set_cons_zero, List.set_cons_succ]
      refine held_take 11 (some 26) (v := ?va11) rfl rfl (by kernel_rfl) (by kernel_rfl) (by kernel_rfl) (fun _ _ _ h => h) (by rfl) ?ya11 (by assumption) ?_
      case ya11 => ((intro w hSw); (try dsimp only at hSw); go_simp <;> (with_reducible rfl))
      try simp only [Act.put, List.setIfInBounds_toArray, List.set_cons_zero, List.set_cons_succ]
      refine held_take 12 (some 27) (v := ?va12) rfl rfl (by kernel_rfl) (by kernel_rfl) (by kernel_rfl) (fun _ _ _ h => h) (by rfl) ?ya12 (by assumption) ?_
      case ya12 => ((intro w hSw); (try dsimp only at hSw); go_simp <;> (with_reducible rfl))
      try simp only [Act.put, List.setIfInBounds_toArray, List.set_cons_zero, List.set_cons_succ]
      refine held_take 13 (some 28) (v := ?va13) rfl rfl (by kernel_rfl) (by kernel_rfl) (by kernel_rfl) (fun _ _ _ h => h) (by rfl) ?ya13 (by assumption) ?_
      case ya13 => ((intro w hSw); (try dsimp only at hSw); go_simp <;> (with_reducible rfl))
      try simp only [Act.put, List.setIfInBounds_toArray, List.set_cons_zero, List.set_cons_succ]
      refine wpAnyH_ready (rs := [5]) (by kernel_rfl) (by simp) ?_
      refine AllReadyH.cons rfl (fun K hK => ?_) AllReadyH.nil
      go_simp
      refine (IHL.out pl _ HLD.out (by have := HSZ.out; omega) HHL.out).mono ?_
      rintro e w4 ⟨⟨p4, rfl, ht4⟩, hb4⟩
      have K4 := cells4_below (by assumption) hb4
      have HT4 := Aside0.mk ht4
      have HR4 := Aside0.mk (HRD.out.below hb4)
      have HB4 := Aside0.mk (HBD.out.trans (hb4.mono HBD.out.size))
      clear ht4 hb4
      refine hK.out _ _ ?hSa6 (fun hHeld => ?_)
      case hSa6 => first | assumption | go_keep
      clear hK K
      try simp only [Act.put, List.setIfInBounds_toArray, List.set_cons_zero, List.set_cons_succ]
      refine wpAnyH_ready (rs := [14]) (by kernel_rfl) (by simp) ?_
      refine AllReadyH.cons rfl (fun K hK => ?_) AllReadyH.nil
      go_simp
      refine (even_any p4 (withoutT k l) k1 v1 pr r _ HT4.out HR4.out (by have := HSZ.out; have := HZL.out; omega)).mono ?_
      rintro e w5 ⟨⟨p5, rfl, ht5⟩, hb5⟩
      have K5 := cells4_below (by assumption) hb5
      have HT5 := Aside0.mk ht5
      have HB5 := Aside0.mk (HB4.out.trans (hb5.mono HB4.out.size))
      clear ht5 hb5
      refine hK.out _ _ ?hSa15 (fun hHeld => ?_)
      case hSa15 => first | assumption | go_keep
      clear hK K
      try simp only [Act.put, List.setIfInBounds_toArray, List.set_cons_zero, List.set_cons_succ]
      refine held_take 15 (some 4) (v := ?va15) rfl rfl (by kernel_rfl) (by kernel_rfl) (by kernel_rfl) (fun _ _ _ h => h) (by rfl) ?ya15 (by assumption) ?_
      case ya15 => ((intro w hSw); (try dsimp only at hSw); go_simp <;> (with_reducible rfl))
      try simp only [Act.put, List.setIfInBounds_toArray, List.set_cons_zero, List.set_cons_succ]
      refine wpAnyH_done (by kernel_rfl) ?_ _
      go_wp2
      go_ret
      exact ⟨⟨_, rfl, by rw [HEV.out]; exact HT5.out⟩, HB5.out⟩
    · by_cases c2 : k1 < k
      · have HHR := Aside0.mk (show hasT k r = true from by have := HH.out; rwa [if_neg c1, if_pos (show k > k1 from c2)] at this)
        have HEV := Aside0.mk (show withoutT k (.node l k1 v1 r) = evenT l k1 v1 (withoutT k r) from by conv => lhs; unfold withoutT; rw [if_neg c1, if_pos (show k > k1 from c2)])
        go_wp2_with fail
        refine wp_region_held_drew (S := (fun w' => w'.cell? ⟨g, 0, none⟩ = some (.int .u64 k1) ∧ w'.cell? ⟨g, 1, none⟩ = some (.int .i64 v1) ∧ w'.cell? ⟨g, 2, none⟩ = some (.pointer pl) ∧ w'.cell? ⟨g, 3, none⟩ = some (.pointer pr))) (by kernel_rfl) ?hSb0 (fun hHeld => ?_)
        case hSb0 => first | assumption | go_keep
        refine held_take 0 (some 38) (v := ?vb0) rfl rfl (by kernel_rfl) (by kernel_rfl) (by kernel_rfl) (fun _ _ _ h => h) (by rfl) ?yb0 (by assumption) ?_
        case yb0 => ((intro w hSw); (try dsimp only at hSw); go_simp <;> (with_reducible rfl))
        try simp only [Act.put, List.setIfInBounds_toArray, List.set_cons_zero, List.set_cons_succ]
        refine held_take 1 (some 39) (v := ?vb1) rfl rfl (by kernel_rfl) (by kernel_rfl) (by kernel_rfl) (fun _ _ _ h => h) (by rfl) ?yb1 (by assumption) ?_
        case yb1 => ((intro w hSw); (try dsimp only at hSw); go_simp <;> (with_reducible rfl))
        try simp only [Act.put, List.setIfInBounds_toArray, List.set_cons_zero, List.set_cons_succ]
        refine held_take 2 (some 40) (v := ?vb2) rfl rfl (by kernel_rfl) (by kernel_rfl) (by kernel_rfl) (fun _ _ _ h => h) (by rfl) ?yb2 (by assumption) ?_
        case yb2 => ((intro w hSw); (try dsimp only at hSw); go_simp <;> (with_reducible rfl))
        try simp only [Act.put, List.setIfInBounds_toArray, List.set_cons_zero, List.set_cons_succ]
        refine held_take 3 (some 41) (v := ?vb3) rfl rfl (by kernel_rfl) (by kernel_rfl) (by kernel_rfl) (fun _ _ _ h => h) (by rfl) ?yb3 (by assumption) ?_
        case yb3 => ((intro w hSw); (try dsimp only at hSw); go_simp <;> (with_reducible rfl))
        try simp only [Act.put, List.setIfInBounds_toArray, List.set_cons_zero, List.set_cons_succ]
        refine held_take 4 (some 42) (v := ?vb4) rfl rfl (by kernel_rfl) (by kernel_rfl) (by kernel_rfl) (fun _ _ _ h => h) (by rfl) ?yb4 (by assumption) ?_
        case yb4 => ((intro w hSw); (try dsimp only at hSw); go_simp <;> (with_reducible rfl))
        try simp only [Act.put, List.setIfInBounds_toArray, List.set_cons_zero, List.set_cons_succ]
        refine held_take 5 (some 43) (v := ?vb5) rfl rfl (by kernel_rfl) (by kernel_rfl) (by kernel_rfl) (fun _ _ _ h => h) (by rfl) ?yb5 (by assumption) ?_
        case yb5 => ((intro w hSw); (try dsimp only at hSw); go_simp <;> (with_reducible rfl))
        try simp only [Act.put, List.setIfInBounds_toArray, List.set_cons_zero, List.set_cons_succ]
        refine held_take 6 (some 44) (v := ?vb6) rfl rfl (by kernel_rfl) (by kernel_rfl) (by kernel_rfl) (fun _ _ _ h => h) (by rfl) ?yb6 (by assumption) ?_
        case yb6 => ((intro w hSw); (try dsimp only at hSw); go_simp <;> (with_reducible rfl))
        try simp only [Act.put, List.setIfInBounds_toArray, List.set_cons_zero, List.set_cons_succ]
        refine held_take 7 (some 45) (v := ?vb7) rfl rfl (by kernel_rfl) (by kernel_rfl) (by kernel_rfl) (fun _ _ _ h => h) (by rfl) ?yb7 (by assumption) ?_
        case yb7 => ((intro w hSw); (try dsimp only at hSw); go_simp <;> (with_reducible rfl))
        try simp only [Act.put, List.setIfInBounds_toArray, List.set_cons_zero, List.set_cons_succ]
        refine held_take 8 (some 46) (v := ?vb8) rfl rfl (by kernel_rfl) (by kernel_rfl) (by kernel_rfl) (fun _ _ _ h => h) (by rfl) ?yb8 (by assumption) ?_
        case yb8 => ((intro w hSw); (try dsimp only at hSw); go_simp <;> (with_reducible rfl))
        try simp only [Act.put, List.setIfInBounds_toArray, List.set_cons_zero, List.set_cons_succ]
        refine held_take 9 (some 47) (v := ?vb9) rfl rfl (by kernel_rfl) (by kernel_rfl) (by kernel_rfl) (fun _ _ _ h => h) (by rfl) ?yb9 (by assumption) ?_
        case yb9 => ((intro w hSw); (try dsimp only at hSw); go_simp <;> (with_reducible rfl))
        try simp only [Act.put, List.setIfInBounds_toArray, List.set_cons_zero, List.set_cons_succ]
        refine held_take 10 (some 48) (v := ?vb10) rfl rfl (by kernel_rfl) (by kernel_rfl) (by kernel_rfl) (fun _ _ _ h => h) (by rfl) ?yb10 (by assumption) ?_
        case yb10 => ((intro w hSw); (try dsimp only at hSw); go_simp <;> (with_reducible rfl))
        try simp only [Act.put, List.setIfInBounds_toArray, List.set_cons_zero, List.set_cons_succ]
        refine held_take 11 (some 49) (v := ?vb11) rfl rfl (by kernel_rfl) (by kernel_rfl) (by kernel_rfl) (fun _ _ _ h => h) (by rfl) ?yb11 (by assumption) ?_
        case yb11 => ((intro w hSw); (try dsimp only at hSw); go_simp <;> (with_reducible rfl))
        try simp only [Act.put, List.setIfInBounds_toArray, List.set_cons_zero, List.set_cons_succ]
        refine held_take 12 (some 50) (v := ?vb12) rfl rfl (by kernel_rfl) (by kernel_rfl) (by kernel_rfl) (fun _ _ _ h => h) (by rfl) ?yb12 (by assumption) ?_
        case yb12 => ((intro w hSw); (try dsimp only at hSw); go_simp <;> (with_reducible rfl))
        try simp only [Act.put, List.setIfInBounds_toArray, List.set_cons_zero, List.set_cons_succ]
        refine wpAnyH_ready (rs := [13]) (by kernel_rfl) (by simp) ?_
        refine AllReadyH.cons rfl (fun K hK => ?_) AllReadyH.nil
        go_simp
        refine (IHR.out pr _ HRD.out (by have := HSZ.out; omega) HHR.out).mono ?_
        rintro e w4 ⟨⟨p4, rfl, ht4⟩, hb4⟩
        have K4 := cells4_below (by assumption) hb4
        have HT4 := Aside0.mk ht4
        have HL4 := Aside0.mk (HLD.out.below hb4)
        have HB4 := Aside0.mk (HBD.out.trans (hb4.mono HBD.out.size))
        clear ht4 hb4
        refine hK.out _ _ ?hSb14 (fun hHeld => ?_)
        case hSb14 => first | assumption | go_keep
        clear hK K
        try simp only [Act.put, List.setIfInBounds_toArray, List.set_cons_zero, List.set_cons_succ]
        refine wpAnyH_ready (rs := [14]) (by kernel_rfl) (by simp) ?_
        refine AllReadyH.cons rfl (fun K hK => ?_) AllReadyH.nil
        go_simp
        refine (even_any pl l k1 v1 p4 (withoutT k r) _ HL4.out HT4.out (by have := HSZ.out; have := HZR.out; omega)).mono ?_
        rintro e w5 ⟨⟨p5, rfl, ht5⟩, hb5⟩
        have K5 := cells4_below (by assumption) hb5
        have HT5 := Aside0.mk ht5
        have HB5 := Aside0.mk (HB4.out.trans (hb5.mono HB4.out.size))
        clear ht5 hb5
        refine hK.out _ _ ?hSb15 (fun hHeld => ?_)
        case hSb15 => first | assumption | go_keep
        clear hK K
        try simp only [Act.put, List.setIfInBounds_toArray, List.set_cons_zero, List.set_cons_succ]
        refine held_take 15 (some 4) (v := ?vb15) rfl rfl (by kernel_rfl) (by kernel_rfl) (by kernel_rfl) (fun _ _ _ h => h) (by rfl) ?yb15 (by assumption) ?_
        case yb15 => ((intro w hSw); (try dsimp only at hSw); go_simp <;> (with_reducible rfl))
        try simp only [Act.put, List.setIfInBounds_toArray, List.set_cons_zero, List.set_cons_succ]
        refine wpAnyH_done (by kernel_rfl) ?_ _
        go_wp2
        go_ret
        exact ⟨⟨_, rfl, by rw [HEV.out]; exact HT5.out⟩, HB5.out⟩
      · cases r with
        | leaf =>
          obtain rfl : pr = none := HR0.out
          have HEV := Aside0.mk (show withoutT k (.node l k1 v1 .leaf) = l from by unfold withoutT; rw [if_neg c1, if_neg (show ¬ k > k1 from c2)])
          go_wp2_with fail
          go_ret
          exact ⟨⟨_, rfl, by rw [HEV.out]; exact HL0.out⟩, Below.refl _ _⟩
        | node rl rk rv rr =>
          obtain ⟨gr, prl, prr, rfl, _, _, _⟩ := id HR0.out
          have HEV := Aside0.mk (show withoutT k (.node l k1 v1 (.node rl rk rv rr)) = evenT l (leastT (.node rl rk rv rr)).1.1 (leastT (.node rl rk rv rr)).1.2 (leastT (.node rl rk rv rr)).2 from by unfold withoutT; rw [if_neg c1, if_neg (show ¬ k > k1 from c2)])
          have HZ := Aside0.mk (sz_least (.node rl rk rv rr))
          have HLE := Aside0.mk (least_any (.node rl rk rv rr) rl rk rv rr rfl _ w HR0.out (by have := HSZ.out; omega))
          generalize withoutT k (.node l k1 v1 (.node rl rk rv rr)) = res at *
          generalize T.node rl rk rv rr = r at *
          generalize leastT r = lres at *
          obtain ⟨⟨x0, x1⟩, lt⟩ := lres
          simp only [] at HEV HZ HLE
          go_wp2_with fail
          refine HLE.out.mono ?_
          rintro e w1 ⟨⟨q1, rfl, hq1⟩, hb1⟩
          have HB1 := Aside0.mk hb1
          have HG1 := Aside0.mk (blk_below HG0.out hb1)
          have HL1 := Aside0.mk (HL0.out.below hb1)
          have HQ1 := Aside0.mk hq1
          clear hq1 hb1 hN HLD HRD HBD d0 d3 d2 HG0 HL0 HR0
          go_wp2_with fail
          generalize hbx2 : (w1.alloc (.cells #[.int .u64 x0, .int .i64 x1] 66)) = w2 at *
          have hb2 : Below w1.heap.size w1 w2 := by rw [← hbx2]; exact (Below.refl w1.heap.size w1).alloc (Nat.le_refl _) _
          have HX2 := Aside0.mk (show w2.heap[w1.heap.size]? = some (.cells #[.int .u64 x0, .int .i64 x1] 66 (0, 0)) from by rw [← hbx2]; exact blk_new w1 _)
          have HB2 := Aside0.mk (HB1.out.trans (hb2.mono HB1.out.size))
          have HG2 := Aside0.mk (blk_below HG1.out hb2)
          have HLD := Aside0.mk ((HL1.out.below hb2).below (below_drew (Below.refl _ w2)))
          have HQD := Aside0.mk ((HQ1.out.below hb2).below (below_drew (Below.refl _ w2)))
          have HBD := Aside0.mk (HB2.out.trans ((below_drew (Below.refl _ w2)).mono HB2.out.size))
          clear hb2 hbx2 HB1 HG1 HL1 HQ1
          have hN : w2.cell? ⟨g, 0, none⟩ = some (.int .u64 k1) ∧ w2.cell? ⟨g, 1, none⟩ = some (.int .i64 v1) ∧ w2.cell? ⟨g, 2, none⟩ = some (.pointer pl) ∧ w2.cell? ⟨g, 3, none⟩ = some (.pointer (some ⟨gr, 0, none⟩)) ∧ w2.cell? ⟨w1.heap.size, 0, none⟩ = some (.int .u64 x0) ∧ w2.cell? ⟨w1.heap.size, 1, none⟩ = some (.int .i64 x1) :=
            ⟨(node_cells HG2.out).1, (node_cells HG2.out).2.1, (node_cells HG2.out).2.2.1, (node_cells HG2.out).2.2.2, blk_cell HX2.out 0, blk_cell HX2.out 1⟩
          refine wp_region_held_drew (S := (fun w' => w'.cell? ⟨g, 0, none⟩ = some (.int .u64 k1) ∧ w'.cell? ⟨g, 1, none⟩ = some (.int .i64 v1) ∧ w'.cell? ⟨g, 2, none⟩ = some (.pointer pl) ∧ w'.cell? ⟨g, 3, none⟩ = some (.pointer (some ⟨gr, 0, none⟩)) ∧ w'.cell? ⟨w1.heap.size, 0, none⟩ = some (.int .u64 x0) ∧ w'.cell? ⟨w1.heap.size, 1, none⟩ = some (.int .i64 x1))) (by kernel_rfl) ?hSc0 (fun hHeld => ?_)
          case hSc0 => first | assumption | go_keep
          refine held_take 0 (some 71) (v := ?vc0) rfl rfl (by kernel_rfl) (by kernel_rfl) (by kernel_rfl) (fun _ _ _ h => h) (by rfl) ?yc0 (by assumption) ?_
          case yc0 => ((intro w hSw); (try dsimp only at hSw); go_simp <;> (with_reducible rfl))
          try simp only [Act.put, List.setIfInBounds_toArray, List.set_cons_zero, List.set_cons_succ]
          refine held_take 1 (some 72) (v := ?vc1) rfl rfl (by kernel_rfl) (by kernel_rfl) (by kernel_rfl) (fun _ _ _ h => h) (by rfl) ?yc1 (by assumption) ?_
          case yc1 => ((intro w hSw); (try dsimp only at hSw); go_simp <;> (with_reducible rfl))
          try simp only [Act.put, List.setIfInBounds_toArray, List.set_cons_zero, List.set_cons_succ]
          refine held_take 2 (some 73) (v := ?vc2) rfl rfl (by kernel_rfl) (by kernel_rfl) (by kernel_rfl) (fun _ _ _ h => h) (by rfl) ?yc2 (by assumption) ?_
          case yc2 => ((intro w hSw); (try dsimp only at hSw); go_simp <;> (with_reducible rfl))
          try simp only [Act.put, List.setIfInBounds_toArray, List.set_cons_zero, List.set_cons_succ]
          refine held_take 3 (some 74) (v := ?vc3) rfl rfl (by kernel_rfl) (by kernel_rfl) (by kernel_rfl) (fun _ _ _ h => h) (by rfl) ?yc3 (by assumption) ?_
          case yc3 => ((intro w hSw); (try dsimp only at hSw); go_simp <;> (with_reducible rfl))
          try simp only [Act.put, List.setIfInBounds_toArray, List.set_cons_zero, List.set_cons_succ]
          refine held_take 4 (some 75) (v := ?vc4) rfl rfl (by kernel_rfl) (by kernel_rfl) (by kernel_rfl) (fun _ _ _ h => h) (by rfl) ?yc4 (by assumption) ?_
          case yc4 => ((intro w hSw); (try dsimp only at hSw); go_simp <;> (with_reducible rfl))
          try simp only [Act.put, List.setIfInBounds_toArray, List.set_cons_zero, List.set_cons_succ]
          refine held_take 5 (some 76) (v := ?vc5) rfl rfl (by kernel_rfl) (by kernel_rfl) (by kernel_rfl) (fun _ _ _ h => h) (by rfl) ?yc5 (by assumption) ?_
          case yc5 => ((intro w hSw); (try dsimp only at hSw); go_simp <;> (with_reducible rfl))
          try simp only [Act.put, List.setIfInBounds_toArray, List.set_cons_zero, List.set_cons_succ]
          refine wpAnyH_ready (rs := [6]) (by kernel_rfl) (by simp) ?_
          refine AllReadyH.cons rfl (fun K hK => ?_) AllReadyH.nil
          go_simp
          refine (even_any pl l x0 x1 q1 lt _ HLD.out HQD.out (by have := HSZ.out; have := HZ.out; omega)).mono ?_
          rintro e w5 ⟨⟨p5, rfl, ht5⟩, hb5⟩
          have K5 := cells6_below (by assumption) hb5
          have HT5 := Aside0.mk ht5
          have HB5 := Aside0.mk (HBD.out.trans (hb5.mono HBD.out.size))
          clear ht5 hb5
          refine hK.out _ _ ?hSc7 (fun hHeld => ?_)
          case hSc7 => first | assumption | go_keep
          clear hK K
          try simp only [Act.put, List.setIfInBounds_toArray, List.set_cons_zero, List.set_cons_succ]
          refine held_take 7 (some 4) (v := ?vc7) rfl rfl (by kernel_rfl) (by kernel_rfl) (by kernel_rfl) (fun _ _ _ h => h) (by rfl) ?yc7 (by assumption) ?_
          case yc7 => ((intro w hSw); (try dsimp only at hSw); go_simp <;> (with_reducible rfl))
          try simp only [Act.put, List.setIfInBounds_toArray, List.set_cons_zero, List.set_cons_succ]
          refine wpAnyH_done (by kernel_rfl) ?_ _
          go_wp2
          go_ret
          exact ⟨⟨_, rfl, by rw [HEV.out]; exact HT5.out⟩, HB5.out⟩
end Go.Proofs.Ytjfbiabgeickjaa.H
/-! ### Tree6 -/
namespace Go.Proofs.Ytjfbiabgeickjaa.H
open Go.RowKit Go.Proofs.Ytjfbiabgeickjaa.P Go.Proofs.YtjfbiabgeickjaaW.PrintWords Go.Proofs.YtjfbiabgeickjaaW.PrintLast Go.Proofs.YtjfbiabgeickjaaW.PrintMore
set_option linter.unusedVariables false
set_option linter.unusedSimpArgs false
/-- A tree, by its pointer. -/
def RootAt (W : World) (P : Option Addr) (t : T) : Prop := (P = none ∧ t = .leaf) ∨ ∃ g p, P = some ⟨g, 0, none⟩ ∧ W.heap[g]? = some (.cells #[.pointer p] 84 (0, 0)) ∧ TreeAt W p t
theorem RootAt.below {W W' : World} {P : Option Addr} {t : T} (h : RootAt W P t) (hb : Below W.heap.size W W') : RootAt W' P t := by
  rcases h with h | ⟨g, p, h1, h2, h3⟩
  · exact .inl h
  · exact .inr ⟨g, p, h1, blk_below h2 hb, h3.below hb⟩
theorem new_any (w : World) : Calls Try.prog 26 #[] w fun e w' => (∃ g, e = .returned (.pointer (some ⟨g, 0, none⟩)) ∧ RootAt w' (some ⟨g, 0, none⟩) .leaf) ∧ Below w.heap.size w w' := by
  go_enter Try.func26, Try.ntmps26
  go_wp2_with fail
  go_ret
  exact ⟨⟨_, rfl, .inr ⟨_, none, rfl, blk_new w _, rfl⟩⟩, (Below.refl w.heap.size w).alloc (Nat.le_refl _) _⟩
theorem top_any (P : Option Addr) (t : T) (w : World) (h : RootAt w P t) :
    Calls Try.prog 41 #[.pointer P] w fun e w' => (∃ p, e = .returned (.pointer p) ∧ TreeAt w p t) ∧ w' = w := by
  rcases h with ⟨rfl, rfl⟩ | ⟨g, p, rfl, hg, ht⟩
  · go_enter Try.func41, Try.ntmps41
    go_wp2_with fail
    go_ret
    exact ⟨⟨none, rfl, rfl⟩, rfl⟩
  · have c0 := blk_cell hg 0
    have HT := Aside0.mk ht
    clear hg ht
    go_enter Try.func41, Try.ntmps41
    go_wp2_with fail
    go_ret
    exact ⟨⟨p, rfl, HT.out⟩, rfl⟩
theorem len_any (P : Option Addr) (t : T) (w : World) (h : RootAt w P t) :
    Calls Try.prog 30 #[.pointer P] w fun e w' => e = .returned (.int .i64 (sz t : Nat)) ∧ w' = w := by
  have hc := top_any P t w h
  clear h
  go_enter Try.func30, Try.ntmps30
  go_wp2_with fail
  refine hc.mono ?_
  rintro e w' ⟨⟨p, rfl, ht⟩, rfl⟩
  have HT := Aside0.mk ht
  clear ht hc
  go_wp2_with fail
  refine (size_any p t _ HT.out).mono ?_
  rintro e w' ⟨rfl, rfl⟩
  go_wp2_with fail
  go_ret
  exact ⟨rfl, rfl⟩
/-- What a key has. -/
def getT (k : Int) : T → Option Int
  | .leaf => none
  | .node l k1 v1 r => if k < k1 then getT k l else if k > k1 then getT k r else some v1
theorem get_has (k : Int) : ∀ t : T, (getT k t).isSome = hasT k t
  | .leaf => rfl
  | .node l k1 v1 r => by
    unfold getT hasT
    split
    · exact get_has k l
    · split
      · exact get_has k r
      · rfl
set_option maxHeartbeats 1600000 in
theorem get_any (P : Option Addr) (k : Int) (t : T) (w : World) (h : RootAt w P t) :
    Calls Try.prog 32 #[.pointer P, .int .u64 k] w fun e w' => e = .returned (.tuple #[.int .i64 ((getT k t).getD 0), .bool (getT k t).isSome]) ∧ w' = w := by
  have hc := top_any P t w h
  clear h
  generalize hres : getT k t = res at *
  have HRES := Aside0.mk hres
  clear hres
  go_enter Try.func32, Try.ntmps32
  go_wp2_with fail
  refine hc.mono ?_
  rintro e w' ⟨⟨p, rfl, ht⟩, rfl⟩
  have HT := Aside0.mk ht
  clear ht hc
  go_wp2_with fail
  go_loopg [7] (sz t) (fun gg s7 wr => ∃ (p1 : Option Addr) (t1 : T), s7 = .pointer p1 ∧ Aside0 (TreeAt w' p1 t1) ∧ Aside0 (sz t1 ≤ gg) ∧ Aside0 (getT k t1 = res) ∧ wr = w')
  case atStart => exact ⟨p, t, rfl, HT, ⟨Nat.le_refl _⟩, HRES, rfl⟩
  case round =>
    obtain ⟨p1, t1, rfl, HT1, HS1, HR1, rfl⟩ := hrel
    cases t1 with
    | leaf =>
      obtain rfl : p1 = none := HT1.out
      have HRE := Aside0.mk (show res = none from HR1.out.symm)
      go_wp2_with fail
      go_ret2
      exact ⟨by rw [HRE.out]; rfl, rfl⟩
    | node l k1 v1 r =>
      obtain ⟨g, pl, pr, rfl, hg, hl, hr⟩ := HT1.out
      have HL := Aside0.mk hl
      have HR := Aside0.mk hr
      have d0 := blk_cell hg 0
      have d1 := blk_cell hg 1
      have d2 := blk_cell hg 2
      have d3 := blk_cell hg 3
      clear hg hl hr
      by_cases c1 : k < k1
      · have HR2 := Aside0.mk (show getT k l = res from by have := HR1.out; rwa [getT, if_pos c1] at this)
        go_wp2_with fail
        go_roundg (sz l)
        case measure => have := HS1.out; simp only [sz] at this; omega
        case rel => exact ⟨pl, l, rfl, HL, ⟨Nat.le_refl _⟩, HR2, rfl⟩
      · by_cases c2 : k1 < k
        · have HR2 := Aside0.mk (show getT k r = res from by have := HR1.out; rwa [getT, if_neg c1, if_pos (show k > k1 from c2)] at this)
          go_wp2_with fail
          go_roundg (sz r)
          case measure => have := HS1.out; simp only [sz] at this; omega
          case rel => exact ⟨pr, r, rfl, HR, ⟨Nat.le_refl _⟩, HR2, rfl⟩
        · have HR2 := Aside0.mk (show some v1 = res from by have := HR1.out; rwa [getT, if_neg c1, if_neg (show ¬ k > k1 from c2)] at this)
          go_wp2_with fail
          go_ret2
          exact ⟨by rw [← HR2.out]; rfl, rfl⟩
end Go.Proofs.Ytjfbiabgeickjaa.H
/-! ### Tree7 -/
namespace Go.Proofs.Ytjfbiabgeickjaa.H
open Go.RowKit Go.Proofs.Ytjfbiabgeickjaa.P Go.Proofs.YtjfbiabgeickjaaW.PrintWords Go.Proofs.YtjfbiabgeickjaaW.PrintLast Go.Proofs.YtjfbiabgeickjaaW.PrintMore
set_option linter.unusedVariables false
set_option linter.unusedSimpArgs false
/-- May no key more be laid? -/
def fullT (k : Int) (t : T) : Bool := !hasT k t && decide (1024 ≤ sz t)
/-- What Put, and Drop, hand back: a tree, or an error. -/
def PutAt (no : Bool) (code : Int) (t : T) (w : World) (e : Ending) (w' : World) : Prop :=
  ((no = true ∧ e = .returned (.tuple #[.pointer none, .int .i64 code])) ∨ (no = false ∧ ∃ g, e = .returned (.tuple #[.pointer (some ⟨g, 0, none⟩), .int .i64 0]) ∧ RootAt w' (some ⟨g, 0, none⟩) t)) ∧ Below w.heap.size w w'
set_option maxRecDepth 20000 in
set_option maxHeartbeats 1600000 in
theorem put_any (P : Option Addr) (k v : Int) (t : T) (w : World) (h : RootAt w P t) (hs : sz t ≤ 40000) :
    Calls Try.prog 27 #[.pointer P, .int .u64 k, .int .i64 v] w fun e w' => PutAt (fullT k t) 41 (withT k v t) w e w' := by
  have HG := Aside0.mk (get_any P k t w h)
  have HLN := Aside0.mk (len_any P t w h)
  have HTP := Aside0.mk (top_any P t w h)
  have HF := Aside0.mk (show fullT k t = (!(getT k t).isSome && decide (1024 ≤ sz t)) from by rw [get_has]; rfl)
  have HSZ := Aside0.mk hs
  clear h hs
  generalize hfu : fullT k t = fu at *
  have HFU := Aside0.mk hfu
  clear hfu
  go_enter Try.func27, Try.ntmps27
  go_wp2_with fail
  have hg := HG.out
  generalize (getT k t).getD 0 = gv at *
  cases hi : (getT k t).isSome with
  | true =>
    rw [hi] at hg
    have HNF := Aside0.mk (show fu = false from by rw [HF.out, hi]; rfl)
    clear hi
    refine hg.mono ?_
    rintro e w1 ⟨rfl, rfl⟩
    clear hg
    go_wp2_with fail
    refine HTP.out.mono ?_
    rintro e w2 ⟨⟨p, rfl, ht⟩, rfl⟩
    have HT := Aside0.mk ht
    clear ht
    go_wp2_with fail
    refine (with_any k v t p _ HT.out HSZ.out).mono ?_
    rintro e w3 ⟨⟨q, rfl, hq⟩, hb⟩
    have HQ := Aside0.mk hq
    have HB := Aside0.mk hb
    clear hq hb
    go_wp2_with fail
    go_ret2
    exact ⟨.inr ⟨HNF.out, w3.heap.size, rfl, .inr ⟨_, q, rfl, blk_new w3 _, HQ.out.below ((Below.refl w3.heap.size w3).alloc (Nat.le_refl _) _)⟩⟩, HB.out.alloc HB.out.size _⟩
  | false =>
    rw [hi] at hg
    refine hg.mono ?_
    rintro e w1 ⟨rfl, rfl⟩
    clear hg
    go_wp2_with fail
    refine HLN.out.mono ?_
    rintro e w2 ⟨rfl, rfl⟩
    have HSZ2 := Aside0.mk HSZ.out
    generalize hsz : sz t = n at HLN HF HSZ ⊢
    by_cases hz : 1024 ≤ n
    · have HNF := Aside0.mk (show fu = true from by rw [HF.out, hi, decide_eq_true hz]; rfl)
      have hz' : (1024 : Int) ≤ (n : Int) := by omega
      clear hi hz hsz
      go_wp2_with fail
      go_ret2
      exact ⟨.inl ⟨HNF.out, rfl⟩, Below.refl _ _⟩
    · have HNF := Aside0.mk (show fu = false from by rw [HF.out, hi, decide_eq_false hz]; rfl)
      have hz' : ¬ (1024 : Int) ≤ (n : Int) := by omega
      clear hi hz hsz
      go_wp2_with fail
      refine HTP.out.mono ?_
      rintro e w2 ⟨⟨p, rfl, ht⟩, rfl⟩
      have HT := Aside0.mk ht
      clear ht
      go_wp2_with fail
      refine (with_any k v t p _ HT.out HSZ2.out).mono ?_
      rintro e w3 ⟨⟨q, rfl, hq⟩, hb⟩
      have HQ := Aside0.mk hq
      have HB := Aside0.mk hb
      clear hq hb
      go_wp2_with fail
      go_ret2
      exact ⟨.inr ⟨HNF.out, w3.heap.size, rfl, .inr ⟨_, q, rfl, blk_new w3 _, HQ.out.below ((Below.refl w3.heap.size w3).alloc (Nat.le_refl _) _)⟩⟩, HB.out.alloc HB.out.size _⟩
set_option maxHeartbeats 1600000 in
theorem drop_any (P : Option Addr) (k : Int) (t : T) (w : World) (h : RootAt w P t) (hs : sz t ≤ 40000) :
    Calls Try.prog 50 #[.pointer P, .int .u64 k] w fun e w' => PutAt (!hasT k t) 42 (withoutT k t) w e w' := by
  have HG := Aside0.mk (get_any P k t w h)
  have HTP := Aside0.mk (top_any P t w h)
  have HF := Aside0.mk (get_has k t)
  have HSZ := Aside0.mk hs
  clear h hs
  go_enter Try.func50, Try.ntmps50
  go_wp2_with fail
  have hg := HG.out
  generalize (getT k t).getD 0 = gv at *
  cases hi : (getT k t).isSome with
  | true =>
    rw [hi] at hg
    have HH := Aside0.mk (show hasT k t = true from by rw [← HF.out]; exact hi)
    clear hi
    refine hg.mono ?_
    rintro e w1 ⟨rfl, rfl⟩
    clear hg
    go_wp2_with fail
    refine HTP.out.mono ?_
    rintro e w2 ⟨⟨p, rfl, ht⟩, rfl⟩
    have HT := Aside0.mk ht
    clear ht
    go_wp2_with fail
    refine (without_any k t p _ HT.out HSZ.out HH.out).mono ?_
    rintro e w3 ⟨⟨q, rfl, hq⟩, hb⟩
    have HQ := Aside0.mk hq
    have HB := Aside0.mk hb
    clear hq hb
    go_wp2_with fail
    go_ret2
    exact ⟨.inr ⟨by rw [HH.out]; rfl, w3.heap.size, rfl, .inr ⟨_, q, rfl, blk_new w3 _, HQ.out.below ((Below.refl w3.heap.size w3).alloc (Nat.le_refl _) _)⟩⟩, HB.out.alloc HB.out.size _⟩
  | false =>
    rw [hi] at hg
    have HH := Aside0.mk (show hasT k t = false from by rw [← HF.out]; exact hi)
    clear hi
    refine hg.mono ?_
    rintro e w1 ⟨rfl, rfl⟩
    clear hg
    go_wp2_with fail
    go_ret2
    exact ⟨.inl ⟨by rw [HH.out]; rfl, rfl⟩, Below.refl _ _⟩
end Go.Proofs.Ytjfbiabgeickjaa.H
/-! ### Tree8 -/
namespace Go.Proofs.Ytjfbiabgeickjaa.H
open Go.RowKit Go.Proofs.Ytjfbiabgeickjaa.P Go.Proofs.YtjfbiabgeickjaaW.PrintWords Go.Proofs.YtjfbiabgeickjaaW.PrintLast Go.Proofs.YtjfbiabgeickjaaW.PrintMore
set_option linter.unusedVariables false
set_option linter.unusedSimpArgs false
/-- A tree's pairs. -/
def toL : T → List (Int × Int)
  | .leaf => []
  | .node l k v r => toL l ++ (k, v) :: toL r
theorem toL_len : ∀ t : T, (toL t).length = sz t
  | .leaf => rfl
  | .node l k v r => by
    rw [toL, List.length_append, List.length_cons, toL_len l, toL_len r, sz]; omega
def belowT (k : Int) : T → Nat
  | .leaf => 0
  | .node l k1 _ r => if k1 < k then 1 + sz l + belowT k r else belowT k l
theorem below_le (k : Int) : ∀ t : T, belowT k t ≤ sz t
  | .leaf => Nat.le_refl _
  | .node l k1 v1 r => by
    have h1 := below_le k l
    have h2 := below_le k r
    unfold belowT
    split <;> simp only [sz] <;> omega
/-- The pair at a place. -/
def atT (t : T) (i : Int) : (Int × Int) × Bool := if 0 ≤ i ∧ i < sz t then ((toL t).getD i.toNat (0, 0), true) else ((0, 0), false)
theorem toL_lt (l : T) (k v : Int) (r : T) (j : Nat) (h : j < sz l) : (toL (.node l k v r)).getD j (0, 0) = (toL l).getD j (0, 0) := by
  rw [toL, List.getD_eq_getElem?_getD, List.getD_eq_getElem?_getD, List.getElem?_append_left (by rw [toL_len]; exact h)]
theorem toL_eq (l : T) (k v : Int) (r : T) : (toL (.node l k v r)).getD (sz l) (0, 0) = (k, v) := by
  rw [toL, List.getD_eq_getElem?_getD, List.getElem?_append_right (by rw [toL_len]; exact Nat.le_refl _), toL_len, Nat.sub_self]; rfl
theorem toL_gt (l : T) (k v : Int) (r : T) (j : Nat) (h : sz l < j) : (toL (.node l k v r)).getD j (0, 0) = (toL r).getD (j - (1 + sz l)) (0, 0) := by
  rw [toL, List.getD_eq_getElem?_getD, List.getD_eq_getElem?_getD, List.getElem?_append_right (by rw [toL_len]; omega), toL_len, show j - sz l = (j - (1 + sz l)) + 1 by omega, List.getElem?_cons_succ]
set_option maxRecDepth 20000 in
set_option maxHeartbeats 1600000 in
theorem at_any (P : Option Addr) (i : Int) (t : T) (w : World) (h : RootAt w P t) (hs : sz t ≤ 40000) :
    Calls Try.prog 31 #[.pointer P, .int .i64 i] w fun e w' => e = .returned (.tuple #[.agg #[.int .u64 (atT t i).1.1, .int .i64 (atT t i).1.2], .bool (atT t i).2]) ∧ Below w.heap.size w w' := by
  have HB0 := Aside0.mk ((Below.refl w.heap.size w).alloc (Nat.le_refl _) (.cells #[.int .u64 0, .int .i64 0] 66))
  have HX0 := Aside0.mk (blk_new w (.cells #[.int .u64 0, .int .i64 0] 66))
  have HH := Aside0.mk (h.below HB0.out)
  have HSZ := Aside0.mk hs
  have HAT := Aside0.mk (show atT t i = if 0 ≤ i ∧ i < sz t then ((toL t).getD i.toNat (0, 0), true) else ((0, 0), false) from rfl)
  clear h hs
  generalize atT t i = res at *
  obtain ⟨⟨x0, x1⟩, xb⟩ := res
  simp only []
  have hmn : (w.alloc (.cells #[.int .u64 0, .int .i64 0] 66)).heap.size = w.heap.size + 1 := by simp
  go_enter Try.func31, Try.ntmps31
  have hfin : ∀ (W : World) (_ : ((x0, x1), xb) = (((0 : Int), (0 : Int)), false)), True := fun _ _ => trivial
  clear hfin hmn
  by_cases c0 : i < 0
  · have HE := Aside0.mk (show ((x0, x1), xb) = (((0 : Int), (0 : Int)), false) from by rw [HAT.out, if_neg (by omega)])
    go_wp2_with fail
    generalize (w.alloc (.cells #[.int .u64 0, .int .i64 0] 66)) = w0 at *
    have m2 := blk_cell HX0.out 0
    have m3 := blk_cell HX0.out 1
    have he := HE.out
    injection he with he1 he2
    injection he1 with he3 he4
    subst he2; subst he3; subst he4
    exact bodyPost_ret (v := .tuple #[.agg #[.int .u64 0, .int .i64 0], .bool false]) (by simp [results, Try.results31, go_sem, m2, m3]) rfl ⟨rfl, HB0.out⟩
  · go_wp2_with fail
    generalize (w.alloc (.cells #[.int .u64 0, .int .i64 0] 66)) = w0 at *
    refine (len_any P t w0 HH.out).mono ?_
    rintro e w1 ⟨rfl, rfl⟩
    by_cases c1 : ((sz t : Nat) : Int) ≤ i
    · have HE := Aside0.mk (show ((x0, x1), xb) = (((0 : Int), (0 : Int)), false) from by rw [HAT.out, if_neg (by omega)])
      have k0 := blk_cell HX0.out 0
      have k2 := blk_cell HX0.out 1
      have f0 := blk_frozen HX0.out 0
      have f1 := blk_frozen HX0.out 1
      go_wp2_with fail
      have he := HE.out
      injection he with he1 he2
      injection he1 with he3 he4
      subst he2; subst he3; subst he4
      have m1 := blk_set (blk_set HX0.out 0 (.int .u64 0)) 1 (.int .i64 0)
      have m2 := blk_cell m1 0
      have m3 := blk_cell m1 1
      have HBS := Aside0.mk ((HB0.out.setCell (p := ⟨w.heap.size, 0, none⟩) (Nat.le_refl _) (.int .u64 0)).setCell (p := ⟨w.heap.size, 1, none⟩) (Nat.le_refl _) (.int .i64 0))
      exact bodyPost_ret (v := .tuple #[.agg #[.int .u64 0, .int .i64 0], .bool false]) (by simp [results, Try.results31, go_sem, m2, m3]) rfl ⟨rfl, HBS.out⟩
    · obtain ⟨j0, rfl⟩ : ∃ j0 : Nat, i = (j0 : Int) := ⟨i.toNat, by omega⟩
      have HJ := Aside0.mk (show j0 < sz t by omega)
      have HE := Aside0.mk (show ((toL t).getD j0 (0, 0) = (x0, x1)) ∧ xb = true from by
        have := HAT.out
        rw [if_pos (by omega), Int.toNat_natCast] at this
        injection this with h1 h2
        exact ⟨h1.symm, h2⟩)
      have hj0 : ¬ (j0 : Int) < 0 := by omega
      go_wp2_with fail
      refine (top_any P t w1 HH.out).mono ?_
      rintro e w2 ⟨⟨p, rfl, ht⟩, rfl⟩
      have HT := Aside0.mk ht
      clear ht c0 c1 hj0 HAT
      go_wp2_with fail
      go_loopg [1, 6] (sz t) (fun gg s1 s6 wr => ∃ (j : Nat) (p1 : Option Addr) (t1 : T), s1 = .int .i64 j ∧ s6 = .pointer p1 ∧ Aside0 (TreeAt w2 p1 t1) ∧ Aside0 (sz t1 ≤ gg) ∧ Aside0 (j < sz t1 ∧ sz t1 ≤ 40000 ∧ (toL t1).getD j (0, 0) = (x0, x1)) ∧ wr = w2)
      case atStart => exact ⟨j0, p, t, rfl, rfl, HT, ⟨Nat.le_refl _⟩, ⟨HJ.out, HSZ.out, HE.out.1⟩, rfl⟩
      case round =>
        obtain ⟨j, p1, t1, rfl, rfl, HT1, HS1, HR1, rfl⟩ := hrel
        cases t1 with
        | leaf => exact absurd HR1.out.1 (Nat.not_lt_zero _)
        | node l k1 v1 r =>
          obtain ⟨g, pl, pr, rfl, hg, hl, hr⟩ := HT1.out
          have HL := Aside0.mk hl
          have HR := Aside0.mk hr
          have d0 := blk_cell hg 0
          have d1 := blk_cell hg 1
          have d2 := blk_cell hg 2
          have d3 := blk_cell hg 3
          have hsz := size_any pl l wr HL.out
          have HJ1 := Aside0.mk (show j < 1 + sz l + sz r ∧ 1 + sz l + sz r ≤ 40000 from ⟨HR1.out.1, HR1.out.2.1⟩)
          clear hg hl hr
          by_cases c2 : j = sz l
          · have HE2 := Aside0.mk (show (k1, v1) = (x0, x1) from by rw [← HR1.out.2.2, c2, toL_eq])
            have k0 := blk_cell HX0.out 0
            have k2 := blk_cell HX0.out 1
            have f0 := blk_frozen HX0.out 0
            have f1 := blk_frozen HX0.out 1
            rw [← c2] at hsz
            clear c2
            go_wp2_with fail
            refine hsz.mono ?_
            rintro e w3 ⟨rfl, rfl⟩
            clear hsz
            go_wp2_with fail
            have he := HE2.out
            injection he with he1 he2
            subst he1; subst he2
            have m1 := blk_set (blk_set HX0.out 0 (.int .u64 k1)) 1 (.int .i64 v1)
            have m2 := blk_cell m1 0
            have m3 := blk_cell m1 1
            have HBS := Aside0.mk ((HB0.out.setCell (p := ⟨w.heap.size, 0, none⟩) (Nat.le_refl _) (.int .u64 k1)).setCell (p := ⟨w.heap.size, 1, none⟩) (Nat.le_refl _) (.int .i64 v1))
            have hxb := HE.out.2
            subst hxb
            exact bodyPost_ret (v := .tuple #[.agg #[.int .u64 k1, .int .i64 v1], .bool true]) (by simp [results, Try.results31, go_sem, m2, m3]) rfl ⟨rfl, HBS.out⟩
          · have hne : ((j : Int) == ((sz l : Nat) : Int)) = false := by rw [beq_eq_false_iff_ne]; omega
            by_cases c3 : j < sz l
            · have hlt : (j : Int) < ((sz l : Nat) : Int) := by omega
              have HR2 := Aside0.mk (show j < sz l ∧ sz l ≤ 40000 ∧ (toL l).getD j (0, 0) = (x0, x1) from ⟨c3, by have := HJ1.out; omega, by rw [← toL_lt l k1 v1 r j c3]; exact HR1.out.2.2⟩)
              generalize hsl : ((sz l : Nat) : Int) = S at *
              have HSL := Aside0.mk hsl
              clear hsl c2 c3
              go_wp2_with fail
              refine hsz.mono ?_
              rintro e w3 ⟨rfl, rfl⟩
              go_wp2_with fail
              refine hsz.mono ?_
              rintro e w3 ⟨rfl, rfl⟩
              go_wp2_with fail
              go_roundg (sz l)
              case measure => have := HS1.out; simp only [sz] at this; omega
              case rel => exact ⟨j, pl, l, rfl, rfl, HL, ⟨Nat.le_refl _⟩, HR2, rfl⟩
            · have hge : ¬ (j : Int) < ((sz l : Nat) : Int) := by omega
              have HR2 := Aside0.mk (show j - (1 + sz l) < sz r ∧ sz r ≤ 40000 ∧ (toL r).getD (j - (1 + sz l)) (0, 0) = (x0, x1) from ⟨by have := HJ1.out; omega, by have := HJ1.out; omega, by rw [← toL_gt l k1 v1 r j (by omega)]; exact HR1.out.2.2⟩)
              have w1 : IntKind.i64.wrap (1 + ((sz l : Nat) : Int)) = 1 + ((sz l : Nat) : Int) := by have := HJ1.out; rw [IntKind.wrap_i64]; omega
              have w2' : IntKind.i64.wrap ((j : Int) - (1 + ((sz l : Nat) : Int))) = ((j - (1 + sz l) : Nat) : Int) := by have := HJ1.out; rw [IntKind.wrap_i64]; omega
              generalize hsl : ((sz l : Nat) : Int) = S at *
              have HSL := Aside0.mk hsl
              clear hsl c2 c3
              go_wp2_with fail
              refine hsz.mono ?_
              rintro e w3 ⟨rfl, rfl⟩
              go_wp2_with fail
              refine hsz.mono ?_
              rintro e w3 ⟨rfl, rfl⟩
              go_wp2_with fail
              refine hsz.mono ?_
              rintro e w3 ⟨rfl, rfl⟩
              go_wp2_with fail
              go_roundg (sz r)
              case measure => have := HS1.out; simp only [sz] at this; omega
              case rel => exact ⟨j - (1 + sz l), pr, r, rfl, rfl, HR, ⟨Nat.le_refl _⟩, HR2, rfl⟩
end Go.Proofs.Ytjfbiabgeickjaa.H
/-! ### Atm1 -/
namespace Go.Proofs.Ytjfbiabgeickjaa.H
open Go.RowKit Go.Proofs.Ytjfbiabgeickjaa.P Go.Proofs.YtjfbiabgeickjaaW.PrintWords Go.Proofs.YtjfbiabgeickjaaW.PrintLast Go.Proofs.YtjfbiabgeickjaaW.PrintMore
set_option linter.unusedVariables false
set_option linter.unusedSimpArgs false
theorem put_ok (P : Option Addr) (k v : Int) (t : T) (w : World) (h : RootAt w P t) (hs : sz t ≤ 40000) (hf : fullT k t = false) :
    Calls Try.prog 27 #[.pointer P, .int .u64 k, .int .i64 v] w fun e w' => (∃ g, e = .returned (.tuple #[.pointer (some ⟨g, 0, none⟩), .int .i64 0]) ∧ RootAt w' (some ⟨g, 0, none⟩) (withT k v t)) ∧ Below w.heap.size w w' := by
  refine (put_any P k v t w h hs).mono ?_
  rintro e w' ⟨⟨h1, _⟩ | ⟨_, h2⟩, hb⟩
  · rw [hf] at h1; cases h1
  · exact ⟨h2, hb⟩
theorem drop_ok (P : Option Addr) (k : Int) (t : T) (w : World) (h : RootAt w P t) (hs : sz t ≤ 40000) (hf : hasT k t = true) :
    Calls Try.prog 50 #[.pointer P, .int .u64 k] w fun e w' => (∃ g, e = .returned (.tuple #[.pointer (some ⟨g, 0, none⟩), .int .i64 0]) ∧ RootAt w' (some ⟨g, 0, none⟩) (withoutT k t)) ∧ Below w.heap.size w w' := by
  refine (drop_any P k t w h hs).mono ?_
  rintro e w' ⟨⟨h1, _⟩ | ⟨_, h2⟩, hb⟩
  · rw [hf] at h1; cases h1
  · exact ⟨h2, hb⟩
/-- How many, by a tree. -/
def numT (k : Int) (t : T) : Int := (getT k t).getD 0
def moreT (k by_ : Int) (t : T) : T := if numT k t + by_ = 0 then withoutT k t else withT k (numT k t + by_) t
theorem more_any (P : Option Addr) (k by_ : Int) (t : T) (w : World) (h : RootAt w P t) (hs : sz t ≤ 40000) (hf : fullT k t = false) (hd : numT k t + by_ = 0 → hasT k t = true) (h1 : -100000 ≤ numT k t) (h2 : numT k t ≤ 100000) (h3 : -100 ≤ by_) (h4 : by_ ≤ 100) :
    Calls Try.prog 43 #[.pointer P, .int .u64 k, .int .i64 by_] w fun e w' => (∃ g, e = .returned (.pointer (some ⟨g, 0, none⟩)) ∧ RootAt w' (some ⟨g, 0, none⟩) (moreT k by_ t)) ∧ Below w.heap.size w w' := by
  have hg := get_any P k t w h
  have HD := Aside0.mk (fun (hh : hasT k t = true) => drop_ok P k t w h hs hh)
  have HP := Aside0.mk (put_ok P k (numT k t + by_) t w h hs hf)
  have HH := Aside0.mk hd
  have HM := Aside0.mk (show moreT k by_ t = if numT k t + by_ = 0 then withoutT k t else withT k (numT k t + by_) t from rfl)
  rw [show (getT k t).getD 0 = numT k t from rfl] at hg
  generalize numT k t = n at *
  generalize moreT k by_ t = t2 at *
  clear h hs hf hd
  by_cases h0 : n + by_ = 0
  · have hdd := HD.out (HH.out h0)
    have HM2 := Aside0.mk (show t2 = withoutT k t from by rw [HM.out, if_pos h0])
    go_enter Try.func43, Try.ntmps43
    go_wp2_with fail
    refine hg.mono ?_
    rintro e w1 ⟨rfl, rfl⟩
    clear hg
    go_wp2_with fail
    refine hdd.mono ?_
    rintro e w2 ⟨⟨g, rfl, hr⟩, hb⟩
    have HR := Aside0.mk hr
    have HB := Aside0.mk hb
    clear hdd hr hb
    go_wp2_with fail
    go_ret
    exact ⟨⟨g, rfl, by rw [HM2.out]; exact HR.out⟩, HB.out⟩
  · have HM2 := Aside0.mk (show t2 = withT k (n + by_) t from by rw [HM.out, if_neg h0])
    have hpp := HP.out
    go_enter Try.func43, Try.ntmps43
    go_wp2_with fail
    refine hg.mono ?_
    rintro e w1 ⟨rfl, rfl⟩
    clear hg
    go_wp2_with fail
    refine hpp.mono ?_
    rintro e w2 ⟨⟨g, rfl, hr⟩, hb⟩
    have HR := Aside0.mk hr
    have HB := Aside0.mk hb
    clear hpp hr hb
    go_wp2_with fail
    go_ret
    exact ⟨⟨g, rfl, by rw [HM2.out]; exact HR.out⟩, HB.out⟩
/-- A table: its bounds, its ranges, how many. -/
structure Tab where
  b : T
  r : T
  n : Int
def TabAtm (W : World) (P : Option Addr) (x : Tab) : Prop := ∃ g pb pr, P = some ⟨g, 0, none⟩ ∧ W.heap[g]? = some (.cells #[.pointer pb, .pointer pr, .int .i64 x.n] 63 (0, 0)) ∧ RootAt W pb x.b ∧ RootAt W pr x.r
theorem TabAtm.below {W W' : World} {P : Option Addr} {x : Tab} (h : TabAtm W P x) (hb : Below W.heap.size W W') : TabAtm W' P x := by
  obtain ⟨g, pb, pr, h1, h2, h3, h4⟩ := h
  exact ⟨g, pb, pr, h1, blk_below h2 hb, h3.below hb, h4.below hb⟩
def newTab : Tab := ⟨withT 0 1 .leaf, .leaf, 0⟩
theorem newTab_any (w : World) : Calls Try.prog 9 #[] w fun e w' => (∃ P, e = .returned (.pointer P) ∧ TabAtm w' P newTab) ∧ Below w.heap.size w w' := by
  go_enter Try.func9, Try.ntmps9
  go_wp2_with fail
  refine (new_any w).mono ?_
  rintro e w1 ⟨⟨g0, rfl, h0⟩, hb1⟩
  have HB1 := Aside0.mk hb1
  have hp := put_ok _ 0 1 .leaf w1 h0 (by decide) (by kernel_rfl)
  clear hb1 h0
  go_wp2_with fail
  refine hp.mono ?_
  rintro e w2 ⟨⟨g1, rfl, h1⟩, hb⟩
  have HB2 := Aside0.mk (HB1.out.trans (hb.mono HB1.out.size))
  have HR1 := Aside0.mk h1
  clear hp hb h1
  go_wp2_with fail
  refine (new_any w2).mono ?_
  rintro e w3 ⟨⟨g2, rfl, h2⟩, hb⟩
  have HB3 := Aside0.mk (HB2.out.trans (hb.mono HB2.out.size))
  have HR3 := Aside0.mk (HR1.out.below hb)
  have HQ3 := Aside0.mk h2
  clear hb h2
  go_wp2_with fail
  go_ret
  exact ⟨⟨_, rfl, _, _, _, rfl, blk_new w3 _, HR3.out.below ((Below.refl _ w3).alloc (Nat.le_refl _) _), HQ3.out.below ((Below.refl _ w3).alloc (Nat.le_refl _) _)⟩, HB3.out.alloc HB3.out.size _⟩
theorem own_some (P : Option Addr) (x : Tab) (w : World) (h : TabAtm w P x) : Calls Try.prog 28 #[.pointer P] w fun e w' => e = .returned (.pointer P) ∧ w' = w := by
  obtain ⟨g, pb, pr, rfl, _⟩ := h
  go_enter Try.func28, Try.ntmps28
  go_wp2_with fail
  go_ret
  exact ⟨rfl, rfl⟩
theorem own_none (w : World) : Calls Try.prog 28 #[.pointer none] w fun e w' => (∃ P, e = .returned (.pointer P) ∧ TabAtm w' P newTab) ∧ Below w.heap.size w w' := by
  go_enter Try.func28, Try.ntmps28
  go_wp2_with fail
  refine (newTab_any w).mono ?_
  rintro e w1 ⟨⟨P, rfl, h⟩, hb⟩
  have HP := Aside0.mk h
  have HB := Aside0.mk hb
  clear h hb
  go_wp2_with fail
  go_ret
  exact ⟨⟨_, rfl, HP.out⟩, HB.out⟩
end Go.Proofs.Ytjfbiabgeickjaa.H
/-! ### Tree10 -/
namespace Go.Proofs.Ytjfbiabgeickjaa.H
open Go.RowKit Go.Proofs.Ytjfbiabgeickjaa.P Go.Proofs.YtjfbiabgeickjaaW.PrintWords Go.Proofs.YtjfbiabgeickjaaW.PrintLast Go.Proofs.YtjfbiabgeickjaaW.PrintMore
set_option linter.unusedVariables false
set_option linter.unusedSimpArgs false
/-- Two trees, and a pair between; in so many rounds. -/
def joinN : Nat → T → Int → Int → T → T
  | 0, l, k, v, r => .node l k v r
  | n + 1, l, k, v, r =>
    if ht l > ht r + 1 then
      match l with
      | .leaf => .node .leaf k v r
      | .node ll lk lv lr => evenT ll lk lv (joinN n lr k v r)
    else if ht r > ht l + 1 then
      match r with
      | .leaf => .node l k v .leaf
      | .node rl rk rv rr => evenT (joinN n l k v rl) rk rv rr
    else .node l k v r
theorem sz_join (k v : Int) : ∀ (n : Nat) (l r : T), sz (joinN n l k v r) = 1 + sz l + sz r
  | 0, l, r => rfl
  | n + 1, l, r => by
    unfold joinN
    split
    · cases l with
      | leaf => rfl
      | node ll lk lv lr => dsimp only; rw [sz_even, sz_join k v n lr r]; simp only [sz]; omega
    · split
      · cases r with
        | leaf => rfl
        | node rl rk rv rr => dsimp only; rw [sz_even, sz_join k v n l rl]; simp only [sz]; omega
      · rfl
set_option maxRecDepth 20000 in
set_option maxHeartbeats 4000000 in
theorem join_any (k v : Int) (n : Nat) : ∀ (l r : T), sz l + sz r < n → ∀ (pl pr : Option Addr) (w : World), TreeAt w pl l → TreeAt w pr r → sz l + sz r ≤ 50000 →
    Calls Try.prog 56 #[.pointer pl, .agg #[.int .u64 k, .int .i64 v], .pointer pr] w fun e w' => (∃ p, e = .returned (.pointer p) ∧ TreeAt w' p (joinN n l k v r)) ∧ Below w.heap.size w w' := by
  induction n with
  | zero => intro l r h; exact absurd h (Nat.not_lt_zero _)
  | succ n ih =>
  intro l r hn pl pr w hl hr hs
  have IH := Aside0.mk ih
  have HB0 := Aside0.mk ((Below.refl w.heap.size w).alloc (Nat.le_refl _) (.cells #[.int .u64 k, .int .i64 v] 66))
  have HX0 := Aside0.mk (blk_new w (.cells #[.int .u64 k, .int .i64 v] 66))
  have HL := Aside0.mk (hl.below HB0.out)
  have HR := Aside0.mk (hr.below HB0.out)
  have HN := Aside0.mk hn
  have hl1 := ht_le l
  have hr1 := ht_le r
  clear hl hr hn ih
  go_enter Try.func56, Try.ntmps56
  go_wp2_with fail
  generalize (w.alloc (.cells #[.int .u64 k, .int .i64 v] 66)) = w0 at *
  have WR := Aside0.mk (show ∀ t : T, ht t ≤ 50000 → IntKind.i64.wrap (((ht t : Nat) : Int) + 1) = ((ht t : Nat) : Int) + 1 from fun t h => by rw [IntKind.wrap_i64]; omega)
  have wr := WR.out r (by omega)
  have wl := WR.out l (by omega)
  refine (high_any pl l w0 HL.out).mono ?_
  rintro e w1 ⟨rfl, rfl⟩
  go_wp2_with fail
  refine (high_any pr r w1 HR.out).mono ?_
  rintro e w2 ⟨rfl, rfl⟩
  by_cases hc1 : ((ht r : Nat) : Int) + 1 < ((ht l : Nat) : Int)
  · have HC1 := Aside0.mk (show ht l > ht r + 1 by omega)
    go_wp2_with fail
    cases l with
    | leaf => simp [ht] at hc1; omega
    | node ll lk lv lr =>
      obtain ⟨gl, pll, plr, rfl, hgl, hll, hlr⟩ := HL.out
      have HEV := Aside0.mk (show joinN (n + 1) (.node ll lk lv lr) k v r = evenT ll lk lv (joinN n lr k v r) from by conv => lhs; unfold joinN; rw [if_pos HC1.out])
      have HZJ := Aside0.mk (sz_join k v n lr r)
      have HSZ := Aside0.mk (show sz ll + sz lr + 1 + sz r ≤ 50000 ∧ sz lr + sz r < n from ⟨by simp only [sz] at hs; omega, by have := HN.out; simp only [sz] at this; omega⟩)
      have hN : w2.cell? ⟨gl, 0, none⟩ = some (.int .u64 lk) ∧ w2.cell? ⟨gl, 1, none⟩ = some (.int .i64 lv) ∧ w2.cell? ⟨gl, 2, none⟩ = some (.pointer pll) ∧ w2.cell? ⟨gl, 3, none⟩ = some (.pointer plr) ∧ w2.cell? ⟨w.heap.size, 0, none⟩ = some (.int .u64 k) ∧ w2.cell? ⟨w.heap.size, 1, none⟩ = some (.int .i64 v) :=
        ⟨(node_cells hgl).1, (node_cells hgl).2.1, (node_cells hgl).2.2.1, (node_cells hgl).2.2.2, blk_cell HX0.out 0, blk_cell HX0.out 1⟩
      have HLLD := Aside0.mk (hll.below (below_drew (Below.refl _ w2)))
      have HLRD := Aside0.mk (hlr.below (below_drew (Below.refl _ w2)))
      have HOD := Aside0.mk (HR.out.below (below_drew (Below.refl _ w2)))
      have HBD := Aside0.mk (HB0.out.trans ((below_drew (Below.refl _ w2)).mono HB0.out.size))
      clear hgl hll hlr hl1 hr1 hs hc1 wr wl HL HR HB0 HX0
      refine wp_region_held_drew (S := (fun w' => w'.cell? ⟨gl, 0, none⟩ = some (.int .u64 lk) ∧ w'.cell? ⟨gl, 1, none⟩ = some (.int .i64 lv) ∧ w'.cell? ⟨gl, 2, none⟩ = some (.pointer pll) ∧ w'.cell? ⟨gl, 3, none⟩ = some (.pointer plr) ∧ w'.cell? ⟨w.heap.size, 0, none⟩ = some (.int .u64 k) ∧ w'.cell? ⟨w.heap.size, 1, none⟩ = some (.int .i64 v))) (by kernel_rfl) ?hSa0 (fun hHeld => ?_)
      case hSa0 => first | assumption | go_keep
      refine held_take 0 (some 14) (v := ?va0) rfl rfl (by kernel_rfl) (by kernel_rfl) (by kernel_rfl) (fun _ _ _ h => h) (by rfl) ?ya0 (by assumption) ?_
      case ya0 => ((intro w hSw); (try dsimp only at hSw); go_simp <;> (with_reducible rfl))
      try simp only [Act.put, List.setIfInBounds_toArray, List.set_cons_zero, List.set_cons_succ]
      refine held_take 1 (some 15) (v := ?va1) rfl rfl (by kernel_rfl) (by kernel_rfl) (by kernel_rfl) (fun _ _ _ h => h) (by rfl) ?ya1 (by assumption) ?_
      case ya1 => ((intro w hSw); (try dsimp only at hSw); go_simp <;> (with_reducible rfl))
      try simp only [Act.put, List.setIfInBounds_toArray, List.set_cons_zero, List.set_cons_succ]
      refine held_take 2 (some 16) (v := ?va2) rfl rfl (by kernel_rfl) (by kernel_rfl) (by kernel_rfl) (fun _ _ _ h => h) (by rfl) ?ya2 (by assumption) ?_
      case ya2 => ((intro w hSw); (try dsimp only at hSw); go_simp <;> (with_reducible rfl))
      try simp only [Act.put, List.setIfInBounds_toArray, List.set_cons_zero, List.set_cons_succ]
      refine held_take 3 (some 17) (v := ?va3) rfl rfl (by kernel_rfl) (by kernel_rfl) (by kernel_rfl) (fun _ _ _ h => h) (by rfl) ?ya3 (by assumption) ?_
      case ya3 => ((intro w hSw); (try dsimp only at hSw); go_simp <;> (with_reducible rfl))
      try simp only [Act.put, List.setIfInBounds_toArray, List.set_cons_zero, List.set_cons_succ]
      refine held_take 4 (some 18) (v := ?va4) rfl rfl (by kernel_rfl) (by kernel_rfl) (by kernel_rfl) (fun _ _ _ h => h) (by rfl) ?ya4 (by assumption) ?_
      case ya4 => ((intro w hSw); (try dsimp only at hSw); go_simp <;> (with_reducible rfl))
      try simp only [Act.put, List.setIfInBounds_toArray, List.set_cons_zero, List.set_cons_succ]
      refine held_take 5 (some 19) (v := ?va5) rfl rfl (by kernel_rfl) (by kernel_rfl) (by kernel_rfl) (fun _ _ _ h => h) (by rfl) ?ya5 (by assumption) ?_
      case ya5 => ((intro w hSw); (try dsimp only at hSw); go_simp <;> (with_reducible rfl))
      try simp only [Act.put, List.setIfInBounds_toArray, List.set_cons_zero, List.set_cons_succ]
      refine held_take 6 (some 20) (v := ?va6) rfl rfl (by kernel_rfl) (by kernel_rfl) (by kernel_rfl) (fun _ _ _ h => h) (by rfl) ?ya6 (by assumption) ?_
      case ya6 => ((intro w hSw); (try dsimp only at hSw); go_simp <;> (with_reducible rfl))
      try simp only [Act.put, List.setIfInBounds_toArray, List.set_cons_zero, List.set_cons_succ]
      refine held_take 7 (some 21) (v := ?va7) rfl rfl (by kernel_rfl) (by kernel_rfl) (by kernel_rfl) (fun _ _ _ h => h) (by rfl) ?ya7 (by assumption) ?_
      case ya7 => ((intro w hSw); (try dsimp only at hSw); go_simp <;> (with_reducible rfl))
      try simp only [Act.put, List.setIfInBounds_toArray, List.set_cons_zero, List.set_cons_succ]
      refine held_take 8 (some 22) (v := ?va8) rfl rfl (by kernel_rfl) (by kernel_rfl) (by kernel_rfl) (fun _ _ _ h => h) (by rfl) ?ya8 (by assumption) ?_
      case ya8 => ((intro w hSw); (try dsimp only at hSw); go_simp <;> (with_reducible rfl))
      try simp only [Act.put, List.setIfInBounds_toArray, List.set_cons_zero, List.set_cons_succ]
      refine held_take 9 (some 23) (v := ?va9) rfl rfl (by kernel_rfl) (by kernel_rfl) (by kernel_rfl) (fun _ _ _ h => h) (by rfl) ?ya9 (by assumption) ?_
      case ya9 => ((intro w hSw); (try dsimp only at hSw); go_simp <;> (with_reducible rfl))
      try simp only [Act.put, List.setIfInBounds_toArray, List.set_cons_zero, List.set_cons_succ]
      refine held_take 10 (some 24) (v := ?va10) rfl rfl (by kernel_rfl) (by kernel_rfl) (by kernel_rfl) (fun _ _ _ h => h) (by rfl) ?ya10 (by assumption) ?_
      case ya10 => ((intro w hSw); (try dsimp only at hSw); go_simp <;> (with_reducible rfl))
      try simp only [Act.put, List.setIfInBounds_toArray, List.set_cons_zero, List.set_cons_succ]
      refine held_take 11 (some 25) (v := ?va11) rfl rfl (by kernel_rfl) (by kernel_rfl) (by kernel_rfl) (fun _ _ _ h => h) (by rfl) ?ya11 (by assumption) ?_
      case ya11 => ((intro w hSw); (try dsimp only at hSw); go_simp <;> (with_reducible rfl))
      try simp only [Act.put, List.setIfInBounds_toArray, List.set_cons_zero, List.set_cons_succ]
      refine held_take 12 (some 26) (v := ?va12) rfl rfl (by kernel_rfl) (by kernel_rfl) (by kernel_rfl) (fun _ _ _ h => h) (by rfl) ?ya12 (by assumption) ?_
      case ya12 => ((intro w hSw); (try dsimp only at hSw); go_simp <;> (with_reducible rfl))
      try simp only [Act.put, List.setIfInBounds_toArray, List.set_cons_zero, List.set_cons_succ]
      refine held_take 13 (some 27) (v := ?va13) rfl rfl (by kernel_rfl) (by kernel_rfl) (by kernel_rfl) (fun _ _ _ h => h) (by rfl) ?ya13 (by assumption) ?_
      case ya13 => ((intro w hSw); (try dsimp only at hSw); go_simp <;> (with_reducible rfl))
      try simp only [Act.put, List.setIfInBounds_toArray, List.set_cons_zero, List.set_cons_succ]
      refine wpAnyH_ready (rs := [14]) (by kernel_rfl) (by simp) ?_
      refine AllReadyH.cons rfl (fun K hK => ?_) AllReadyH.nil
      go_simp
      refine (IH.out lr r HSZ.out.2 plr pr _ HLRD.out HOD.out (by have := HSZ.out.1; omega)).mono ?_
      rintro e w4 ⟨⟨p4, rfl, ht4⟩, hb4⟩
      have K4 := cells6_below (by assumption) hb4
      have HT4 := Aside0.mk ht4
      have HA4 := Aside0.mk (HLLD.out.below hb4)
      have HB4 := Aside0.mk (HBD.out.trans (hb4.mono HBD.out.size))
      clear ht4 hb4
      refine hK.out _ _ ?hSa15 (fun hHeld => ?_)
      case hSa15 => first | assumption | go_keep
      clear hK K
      try simp only [Act.put, List.setIfInBounds_toArray, List.set_cons_zero, List.set_cons_succ]
      refine wpAnyH_ready (rs := [15]) (by kernel_rfl) (by simp) ?_
      refine AllReadyH.cons rfl (fun K hK => ?_) AllReadyH.nil
      go_simp
      refine (even_any pll ll lk lv p4 (joinN n lr k v r) _ HA4.out HT4.out (by have := HSZ.out.1; have := HZJ.out; omega)).mono ?_
      rintro e w5 ⟨⟨p5, rfl, ht5⟩, hb5⟩
      have K5 := cells6_below (by assumption) hb5
      have HT5 := Aside0.mk ht5
      have HB5 := Aside0.mk (HB4.out.trans (hb5.mono HB4.out.size))
      clear ht5 hb5
      refine hK.out _ _ ?hSa16 (fun hHeld => ?_)
      case hSa16 => first | assumption | go_keep
      clear hK K
      try simp only [Act.put, List.setIfInBounds_toArray, List.set_cons_zero, List.set_cons_succ]
      refine held_take 16 (some 6) (v := ?va16) rfl rfl (by kernel_rfl) (by kernel_rfl) (by kernel_rfl) (fun _ _ _ h => h) (by rfl) ?ya16 (by assumption) ?_
      case ya16 => ((intro w hSw); (try dsimp only at hSw); go_simp <;> (with_reducible rfl))
      try simp only [Act.put, List.setIfInBounds_toArray, List.set_cons_zero, List.set_cons_succ]
      refine wpAnyH_done (by kernel_rfl) ?_ _
      go_wp2
      go_ret
      exact ⟨⟨_, rfl, by rw [HEV.out]; exact HT5.out⟩, HB5.out⟩
  · have HC0 := Aside0.mk (show ¬ ht l > ht r + 1 by omega)
    go_wp2_with fail
    refine (high_any pr r w2 HR.out).mono ?_
    rintro e w3' ⟨rfl, rfl⟩
    go_wp2_with fail
    refine (high_any pl l w3' HL.out).mono ?_
    rintro e w2 ⟨rfl, rfl⟩
    by_cases hc3 : ((ht l : Nat) : Int) + 1 < ((ht r : Nat) : Int)
    · have HC1 := Aside0.mk (show ht r > ht l + 1 by omega)
      clear hc1
      go_wp2_with fail
      cases r with
      | leaf => simp [ht] at hc3; omega
      | node rl rk rv rr =>
        obtain ⟨gr, prl, prr, rfl, hgr, hrl, hrr⟩ := HR.out
        have HEV := Aside0.mk (show joinN (n + 1) l k v (.node rl rk rv rr) = evenT (joinN n l k v rl) rk rv rr from by conv => lhs; unfold joinN; rw [if_neg HC0.out, if_pos HC1.out])
        have HZJ := Aside0.mk (sz_join k v n l rl)
        have HSZ := Aside0.mk (show sz l + (sz rl + sz rr + 1) ≤ 50000 ∧ sz l + sz rl < n from ⟨by simp only [sz] at hs; omega, by have := HN.out; simp only [sz] at this; omega⟩)
        have hN : w2.cell? ⟨gr, 0, none⟩ = some (.int .u64 rk) ∧ w2.cell? ⟨gr, 1, none⟩ = some (.int .i64 rv) ∧ w2.cell? ⟨gr, 2, none⟩ = some (.pointer prl) ∧ w2.cell? ⟨gr, 3, none⟩ = some (.pointer prr) ∧ w2.cell? ⟨w.heap.size, 0, none⟩ = some (.int .u64 k) ∧ w2.cell? ⟨w.heap.size, 1, none⟩ = some (.int .i64 v) :=
          ⟨(node_cells hgr).1, (node_cells hgr).2.1, (node_cells hgr).2.2.1, (node_cells hgr).2.2.2, blk_cell HX0.out 0, blk_cell HX0.out 1⟩
        have HRLD := Aside0.mk (hrl.below (below_drew (Below.refl _ w2)))
        have HRRD := Aside0.mk (hrr.below (below_drew (Below.refl _ w2)))
        have HOD := Aside0.mk (HL.out.below (below_drew (Below.refl _ w2)))
        have HBD := Aside0.mk (HB0.out.trans ((below_drew (Below.refl _ w2)).mono HB0.out.size))
        clear hgr hrl hrr hl1 hr1 hs hc3 wr wl HL HR HB0 HX0
        refine wp_region_held_drew (S := (fun w' => w'.cell? ⟨gr, 0, none⟩ = some (.int .u64 rk) ∧ w'.cell? ⟨gr, 1, none⟩ = some (.int .i64 rv) ∧ w'.cell? ⟨gr, 2, none⟩ = some (.pointer prl) ∧ w'.cell? ⟨gr, 3, none⟩ = some (.pointer prr) ∧ w'.cell? ⟨w.heap.size, 0, none⟩ = some (.int .u64 k) ∧ w'.cell? ⟨w.heap.size, 1, none⟩ = some (.int .i64 v))) (by kernel_rfl) ?hSb0 (fun hHeld => ?_)
        case hSb0 => first | assumption | go_keep
        refine held_take 0 (some 37) (v := ?vb0) rfl rfl (by kernel_rfl) (by kernel_rfl) (by kernel_rfl) (fun _ _ _ h => h) (by rfl) ?yb0 (by assumption) ?_
        case yb0 => ((intro w hSw); (try dsimp only at hSw); go_simp <;> (with_reducible rfl))
        try simp only [Act.put, List.setIfInBounds_toArray, List.set_cons_zero, List.set_cons_succ]
        refine held_take 1 (some 38) (v := ?vb1) rfl rfl (by kernel_rfl) (by kernel_rfl) (by kernel_rfl) (fun _ _ _ h => h) (by rfl) ?yb1 (by assumption) ?_
        case yb1 => ((intro w hSw); (try dsimp only at hSw); go_simp <;> (with_reducible rfl))
        try simp only [Act.put, List.setIfInBounds_toArray, List.set_cons_zero, List.set_cons_succ]
        refine held_take 2 (some 39) (v := ?vb2) rfl rfl (by kernel_rfl) (by kernel_rfl) (by kernel_rfl) (fun _ _ _ h => h) (by rfl) ?yb2 (by assumption) ?_
        case yb2 => ((intro w hSw); (try dsimp only at hSw); go_simp <;> (with_reducible rfl))
        try simp only [Act.put, List.setIfInBounds_toArray, List.set_cons_zero, List.set_cons_succ]
        refine held_take 3 (some 40) (v := ?vb3) rfl rfl (by kernel_rfl) (by kernel_rfl) (by kernel_rfl) (fun _ _ _ h => h) (by rfl) ?yb3 (by assumption) ?_
        case yb3 => ((intro w hSw); (try dsimp only at hSw); go_simp <;> (with_reducible rfl))
        try simp only [Act.put, List.setIfInBounds_toArray, List.set_cons_zero, List.set_cons_succ]
        refine held_take 4 (some 41) (v := ?vb4) rfl rfl (by kernel_rfl) (by kernel_rfl) (by kernel_rfl) (fun _ _ _ h => h) (by rfl) ?yb4 (by assumption) ?_
        case yb4 => ((intro w hSw); (try dsimp only at hSw); go_simp <;> (with_reducible rfl))
        try simp only [Act.put, List.setIfInBounds_toArray, List.set_cons_zero, List.set_cons_succ]
        refine held_take 5 (some 42) (v := ?vb5) rfl rfl (by kernel_rfl) (by kernel_rfl) (by kernel_rfl) (fun _ _ _ h => h) (by rfl) ?yb5 (by assumption) ?_
        case yb5 => ((intro w hSw); (try dsimp only at hSw); go_simp <;> (with_reducible rfl))
        try simp only [Act.put, List.setIfInBounds_toArray, List.set_cons_zero, List.set_cons_succ]
        refine held_take 7 (some 44) (v := ?vb7) rfl rfl (by kernel_rfl) (by kernel_rfl) (by kernel_rfl) (fun _ _ _ h => h) (by rfl) ?yb7 (by assumption) ?_
        case yb7 => ((intro w hSw); (try dsimp only at hSw); go_simp <;> (with_reducible rfl))
        try simp only [Act.put, List.setIfInBounds_toArray, List.set_cons_zero, List.set_cons_succ]
        refine held_take 8 (some 45) (v := ?vb8) rfl rfl (by kernel_rfl) (by kernel_rfl) (by kernel_rfl) (fun _ _ _ h => h) (by rfl) ?yb8 (by assumption) ?_
        case yb8 => ((intro w hSw); (try dsimp only at hSw); go_simp <;> (with_reducible rfl))
        try simp only [Act.put, List.setIfInBounds_toArray, List.set_cons_zero, List.set_cons_succ]
        refine held_take 9 (some 46) (v := ?vb9) rfl rfl (by kernel_rfl) (by kernel_rfl) (by kernel_rfl) (fun _ _ _ h => h) (by rfl) ?yb9 (by assumption) ?_
        case yb9 => ((intro w hSw); (try dsimp only at hSw); go_simp <;> (with_reducible rfl))
        try simp only [Act.put, List.setIfInBounds_toArray, List.set_cons_zero, List.set_cons_succ]
        refine held_take 10 (some 47) (v := ?vb10) rfl rfl (by kernel_rfl) (by kernel_rfl) (by kernel_rfl) (fun _ _ _ h => h) (by rfl) ?yb10 (by assumption) ?_
        case yb10 => ((intro w hSw); (try dsimp only at hSw); go_simp <;> (with_reducible rfl))
        try simp only [Act.put, List.setIfInBounds_toArray, List.set_cons_zero, List.set_cons_succ]
        refine held_take 11 (some 48) (v := ?vb11) rfl rfl (by kernel_rfl) (by kernel_rfl) (by kernel_rfl) (fun _ _ _ h => h) (by rfl) ?yb11 (by assumption) ?_
        case yb11 => ((intro w hSw); (try dsimp only at hSw); go_simp <;> (with_reducible rfl))
        try simp only [Act.put, List.setIfInBounds_toArray, List.set_cons_zero, List.set_cons_succ]
        refine held_take 12 (some 49) (v := ?vb12) rfl rfl (by kernel_rfl) (by kernel_rfl) (by kernel_rfl) (fun _ _ _ h => h) (by rfl) ?yb12 (by assumption) ?_
        case yb12 => ((intro w hSw); (try dsimp only at hSw); go_simp <;> (with_reducible rfl))
        try simp only [Act.put, List.setIfInBounds_toArray, List.set_cons_zero, List.set_cons_succ]
        refine held_take 13 (some 50) (v := ?vb13) rfl rfl (by kernel_rfl) (by kernel_rfl) (by kernel_rfl) (fun _ _ _ h => h) (by rfl) ?yb13 (by assumption) ?_
        case yb13 => ((intro w hSw); (try dsimp only at hSw); go_simp <;> (with_reducible rfl))
        try simp only [Act.put, List.setIfInBounds_toArray, List.set_cons_zero, List.set_cons_succ]
        refine held_take 14 (some 51) (v := ?vb14) rfl rfl (by kernel_rfl) (by kernel_rfl) (by kernel_rfl) (fun _ _ _ h => h) (by rfl) ?yb14 (by assumption) ?_
        case yb14 => ((intro w hSw); (try dsimp only at hSw); go_simp <;> (with_reducible rfl))
        try simp only [Act.put, List.setIfInBounds_toArray, List.set_cons_zero, List.set_cons_succ]
        refine wpAnyH_ready (rs := [6]) (by kernel_rfl) (by simp) ?_
        refine AllReadyH.cons rfl (fun K hK => ?_) AllReadyH.nil
        go_simp
        refine (IH.out l rl HSZ.out.2 pl prl _ HOD.out HRLD.out (by have := HSZ.out.1; omega)).mono ?_
        rintro e w4 ⟨⟨p4, rfl, ht4⟩, hb4⟩
        have K4 := cells6_below (by assumption) hb4
        have HT4 := Aside0.mk ht4
        have HA4 := Aside0.mk (HRRD.out.below hb4)
        have HB4 := Aside0.mk (HBD.out.trans (hb4.mono HBD.out.size))
        clear ht4 hb4
        refine hK.out _ _ ?hSb7 (fun hHeld => ?_)
        case hSb7 => first | assumption | go_keep
        clear hK K
        try simp only [Act.put, List.setIfInBounds_toArray, List.set_cons_zero, List.set_cons_succ]
        refine wpAnyH_ready (rs := [15]) (by kernel_rfl) (by simp) ?_
        refine AllReadyH.cons rfl (fun K hK => ?_) AllReadyH.nil
        go_simp
        refine (even_any p4 (joinN n l k v rl) rk rv prr rr _ HT4.out HA4.out (by have := HSZ.out.1; have := HZJ.out; omega)).mono ?_
        rintro e w5 ⟨⟨p5, rfl, ht5⟩, hb5⟩
        have K5 := cells6_below (by assumption) hb5
        have HT5 := Aside0.mk ht5
        have HB5 := Aside0.mk (HB4.out.trans (hb5.mono HB4.out.size))
        clear ht5 hb5
        refine hK.out _ _ ?hSb16 (fun hHeld => ?_)
        case hSb16 => first | assumption | go_keep
        clear hK K
        try simp only [Act.put, List.setIfInBounds_toArray, List.set_cons_zero, List.set_cons_succ]
        refine held_take 16 (some 6) (v := ?vb16) rfl rfl (by kernel_rfl) (by kernel_rfl) (by kernel_rfl) (fun _ _ _ h => h) (by rfl) ?yb16 (by assumption) ?_
        case yb16 => ((intro w hSw); (try dsimp only at hSw); go_simp <;> (with_reducible rfl))
        try simp only [Act.put, List.setIfInBounds_toArray, List.set_cons_zero, List.set_cons_succ]
        refine wpAnyH_done (by kernel_rfl) ?_ _
        go_wp2
        go_ret
        exact ⟨⟨_, rfl, by rw [HEV.out]; exact HT5.out⟩, HB5.out⟩
    · have HEV := Aside0.mk (show joinN (n + 1) l k v r = .node l k v r from by unfold joinN; rw [if_neg HC0.out, if_neg (by omega)])
      have c0 := blk_cell HX0.out 0
      have c1 := blk_cell HX0.out 1
      have hm := made_any pl l k v pr r w2 HL.out HR.out (by omega)
      go_wp2_with fail
      refine hm.mono ?_
      rintro e w3 ⟨⟨p3, rfl, ht3⟩, hb3⟩
      have HT3 := Aside0.mk ht3
      have HB3 := Aside0.mk (HB0.out.trans (hb3.mono HB0.out.size))
      clear hm ht3 hb3 c0 c1
      go_wp2_with fail
      go_ret
      exact ⟨⟨_, rfl, by rw [HEV.out]; exact HT3.out⟩, HB3.out⟩
end Go.Proofs.Ytjfbiabgeickjaa.H
