/- Trees in the heap; New, top, high, size, Len, Height. -/
import Derived.Test.YtbiccahkniadfaaPx0
import Derived.Test.YtbiccahkniadfaaReg
import Derived.Deep.DeepCutAuto
import Derived.BigQuiet
namespace Go.Proofs.Ytbiccahkniadfaa.H
open Go.RowKit Go.Proofs.Ytbiccahkniadfaa.P Go.Proofs.YtbiccahkniadfaaW.PrintWords Go.Proofs.YtbiccahkniadfaaW.PrintLast Go.Proofs.YtbiccahkniadfaaW.PrintMore
attribute [local go_sem] max2_int min2_int max_two min_two
set_option linter.unusedVariables false
set_option linter.unusedSimpArgs false
/-- A tree. -/
inductive T where
  | leaf : T
  | node : T → Int → Int → T → T
def ht : T → Nat
  | .leaf => 0
  | .node l _ _ r => 1 + max (ht l) (ht r)
def sz : T → Nat
  | .leaf => 0
  | .node l _ _ r => 1 + sz l + sz r
theorem ht_le : ∀ t : T, ht t ≤ sz t
  | .leaf => Nat.le_refl _
  | .node l _ _ r => by
    have := ht_le l
    have := ht_le r
    simp only [ht, sz]
    omega
/-- A tree's root, as a pointer: what lies in the heap. -/
def TreeAt (W : World) : Option Addr → T → Prop
  | p, .leaf => p = none
  | p, .node l k v r => ∃ g pl pr, p = some ⟨g, 0, none⟩ ∧ W.heap[g]? = some (.cells #[.int .u64 k, .int .i64 v, .pointer pl, .pointer pr, .int .i64 (ht (.node l k v r) : Nat), .int .i64 (sz (.node l k v r) : Nat)] 68 (0, 0)) ∧ TreeAt W pl l ∧ TreeAt W pr r
theorem TreeAt.below {W W' : World} (hb : Below W.heap.size W W') : ∀ {t : T} {p : Option Addr}, TreeAt W p t → TreeAt W' p t
  | .leaf, _, h => h
  | .node l k v r, _, ⟨g, pl, pr, h1, h2, h3, h4⟩ => ⟨g, pl, pr, h1, blk_below h2 hb, TreeAt.below hb h3, TreeAt.below hb h4⟩
theorem below_drewN {B : Nat} {w w1 : World} (h : Below B w w1) (n : Nat) : Below B w (w1.drewN n) := ⟨h.os, h.tape, h.output, h.size, h.block⟩
theorem TreeAt.drewN {W : World} {t : T} {p : Option Addr} (h : TreeAt W p t) (n : Nat) : TreeAt (W.drewN n) p t := h.below (below_drewN (Below.refl _ _) n)
theorem high_any (p : Option Addr) (t : T) (w : World) (h : TreeAt w p t) :
    Calls Try.prog 31 #[.pointer p] w fun e w' => e = .returned (.int .i64 (ht t : Nat)) ∧ w' = w := by
  cases t with
  | leaf =>
    obtain rfl : p = none := h
    go_enter Try.func31, Try.ntmps31
    go_wp2_with fail
    go_ret
    exact ⟨rfl, rfl⟩
  | node l k v r =>
    obtain ⟨g, pl, pr, rfl, hg, _, _⟩ := h
    have c4 := blk_cell hg 4
    generalize hH : ((ht (.node l k v r) : Nat) : Int) = H at *
    generalize ((sz (.node l k v r) : Nat) : Int) = S at *
    clear hH hg
    go_enter Try.func31, Try.ntmps31
    go_wp2_with fail
    go_ret
    exact ⟨rfl, rfl⟩
theorem size_any (p : Option Addr) (t : T) (w : World) (h : TreeAt w p t) :
    Calls Try.prog 30 #[.pointer p] w fun e w' => e = .returned (.int .i64 (sz t : Nat)) ∧ w' = w := by
  cases t with
  | leaf =>
    obtain rfl : p = none := h
    go_enter Try.func30, Try.ntmps30
    go_wp2_with fail
    go_ret
    exact ⟨rfl, rfl⟩
  | node l k v r =>
    obtain ⟨g, pl, pr, rfl, hg, _, _⟩ := h
    have c5 := blk_cell hg 5
    generalize ((ht (.node l k v r) : Nat) : Int) = H at *
    generalize hS : ((sz (.node l k v r) : Nat) : Int) = S at *
    clear hS hg
    go_enter Try.func30, Try.ntmps30
    go_wp2_with fail
    go_ret
    exact ⟨rfl, rfl⟩
set_option maxHeartbeats 1600000 in
set_option maxRecDepth 20000 in
theorem made_any (pl : Option Addr) (l : T) (k v : Int) (pr : Option Addr) (r : T) (w : World) (hl : TreeAt w pl l) (hr : TreeAt w pr r) (hs : sz l + sz r ≤ 100000) :
    Calls Try.prog 38 #[.pointer pl, .agg #[.int .u64 k, .int .i64 v], .pointer pr] w fun e w' => (∃ p, e = .returned (.pointer p) ∧ TreeAt w' p (.node l k v r)) ∧ Below w.heap.size w w' := by
  have HB0 := Aside0.mk ((Below.refl w.heap.size w).alloc (Nat.le_refl _) (.cells #[.int .u64 k, .int .i64 v] 45))
  have hbx := blk_new w (.cells #[.int .u64 k, .int .i64 v] 45)
  have HL := Aside0.mk (hl.below HB0.out)
  have HR := Aside0.mk (hr.below HB0.out)
  have hl1 := ht_le l
  have hr1 := ht_le r
  clear hl hr
  go_enter Try.func38, Try.ntmps38
  go_wp2_with fail
  generalize (w.alloc (.cells #[.int .u64 k, .int .i64 v] 45)) = w0 at *
  have hN : w0.cell? ⟨w.heap.size, 0, none⟩ = some (.int .u64 k) ∧ w0.cell? ⟨w.heap.size, 1, none⟩ = some (.int .i64 v) := ⟨blk_cell hbx 0, blk_cell hbx 1⟩
  clear hbx
  have HLD := Aside0.mk (HL.out.below (below_drew (Below.refl _ w0)))
  have HRD := Aside0.mk (HR.out.below (below_drew (Below.refl _ w0)))
  have HBD := Aside0.mk (HB0.out.trans ((below_drew (Below.refl _ w0)).mono HB0.out.size))
  have hh1 := fun W (hW : W = w0.drew) => high_any pl l W (by rw [hW]; exact HLD.out)
  have hh2 := fun W (hW : W = w0.drew) => high_any pr r W (by rw [hW]; exact HRD.out)
  have hs1 := fun W (hW : W = w0.drew) => size_any pl l W (by rw [hW]; exact HLD.out)
  have hs2 := fun W (hW : W = w0.drew) => size_any pr r W (by rw [hW]; exact HRD.out)
  have HEH := Aside0.mk (show ((ht (.node l k v r) : Nat) : Int) = 1 + max ((ht l : Nat) : Int) ((ht r : Nat) : Int) from by rw [ht]; omega)
  have HES := Aside0.mk (show ((sz (.node l k v r) : Nat) : Int) = 1 + ((sz l : Nat) : Int) + ((sz r : Nat) : Int) from by rw [sz]; omega)
  have b1 : 0 ≤ ((ht l : Nat) : Int) ∧ ((ht l : Nat) : Int) ≤ 100000 ∧ 0 ≤ ((ht r : Nat) : Int) ∧ ((ht r : Nat) : Int) ≤ 100000 ∧ 0 ≤ ((sz l : Nat) : Int) ∧ 0 ≤ ((sz r : Nat) : Int) ∧ ((sz l : Nat) : Int) + ((sz r : Nat) : Int) ≤ 100000 := by omega
  generalize ((ht l : Nat) : Int) = H1 at *
  generalize ((ht r : Nat) : Int) = H2 at *
  generalize ((sz l : Nat) : Int) = S1 at *
  generalize ((sz r : Nat) : Int) = S2 at *
  obtain ⟨b1, b2, b3, b4, b5, b6, b7⟩ := b1
  have HH1 := Aside0.mk hh1
  have HH2 := Aside0.mk hh2
  have HS1 := Aside0.mk hs1
  have HS2 := Aside0.mk hs2
  have w1 : IntKind.i64.wrap (1 + S1) = 1 + S1 := by rw [IntKind.wrap_i64]; omega
  have w2 : IntKind.i64.wrap (1 + S1 + S2) = 1 + S1 + S2 := by rw [IntKind.wrap_i64]; omega
  clear hh1 hh2 hs1 hs2 hl1 hr1 hs
  obtain ⟨M, hM, hM2⟩ : ∃ M, (if H1 < H2 then H2 else H1) = M ∧ M = max H1 H2 := ⟨_, rfl, by split <;> omega⟩
  have HM := Aside0.mk hM2
  have w3 : IntKind.i64.wrap (1 + M) = 1 + M := by rw [IntKind.wrap_i64]; omega
  clear hM2 b1 b2 b3 b4 b5 b6 b7
  refine wp_region_held_drew (S := (fun w' => w'.cell? ⟨w.heap.size, 0, none⟩ = some (.int .u64 k) ∧ w'.cell? ⟨w.heap.size, 1, none⟩ = some (.int .i64 v))) (by kernel_rfl) ?hS0 (fun hHeld => ?_)
  case hS0 => first | assumption | go_keep
  refine held_take 0 (some 7) (v := ?v0) rfl rfl (by kernel_rfl) (by kernel_rfl) (by kernel_rfl) (fun _ _ _ h => h) (by rfl) ?y0 (by assumption) ?_
  case y0 => ((intro w hSw); (try dsimp only at hSw); go_simp <;> (with_reducible rfl))
  try simp only [Act.put, List.setIfInBounds_toArray, List.set_cons_zero, List.set_cons_succ]
  refine held_take 1 (some 8) (v := ?v1) rfl rfl (by kernel_rfl) (by kernel_rfl) (by kernel_rfl) (fun _ _ _ h => h) (by rfl) ?y1 (by assumption) ?_
  case y1 => ((intro w hSw); (try dsimp only at hSw); go_simp <;> (with_reducible rfl))
  try simp only [Act.put, List.setIfInBounds_toArray, List.set_cons_zero, List.set_cons_succ]
  refine held_take 2 (some 9) (v := ?v2) rfl rfl (by kernel_rfl) (by kernel_rfl) (by kernel_rfl) (fun _ _ _ h => h) (by rfl) ?y2 (by assumption) ?_
  case y2 => ((intro w hSw); (try dsimp only at hSw); go_simp <;> (with_reducible rfl))
  try simp only [Act.put, List.setIfInBounds_toArray, List.set_cons_zero, List.set_cons_succ]
  refine held_take 3 (some 10) (v := ?v3) rfl rfl (by kernel_rfl) (by kernel_rfl) (by kernel_rfl) (fun _ _ _ h => h) (by rfl) ?y3 (by assumption) ?_
  case y3 => ((intro w hSw); (try dsimp only at hSw); go_simp <;> (with_reducible rfl))
  try simp only [Act.put, List.setIfInBounds_toArray, List.set_cons_zero, List.set_cons_succ]
  refine held_take 5 (some 12) (v := ?v5) rfl rfl (by kernel_rfl) (by kernel_rfl) (by kernel_rfl) (fun _ _ _ h => h) (by rfl) ?y5 (by assumption) ?_
  case y5 => ((intro w hSw); (try dsimp only at hSw); go_simp <;> (with_reducible rfl))
  try simp only [Act.put, List.setIfInBounds_toArray, List.set_cons_zero, List.set_cons_succ]
  refine held_take 9 (some 16) (v := ?v9) rfl rfl (by kernel_rfl) (by kernel_rfl) (by kernel_rfl) (fun _ _ _ h => h) (by rfl) ?y9 (by assumption) ?_
  case y9 => ((intro w hSw); (try dsimp only at hSw); go_simp <;> (with_reducible rfl))
  try simp only [Act.put, List.setIfInBounds_toArray, List.set_cons_zero, List.set_cons_succ]
  refine held_take 12 (some 19) (v := ?v12) rfl rfl (by kernel_rfl) (by kernel_rfl) (by kernel_rfl) (fun _ _ _ h => h) (by rfl) ?y12 (by assumption) ?_
  case y12 => ((intro w hSw); (try dsimp only at hSw); go_simp <;> (with_reducible rfl))
  try simp only [Act.put, List.setIfInBounds_toArray, List.set_cons_zero, List.set_cons_succ]
  refine wpAnyH_ready (rs := [4]) (by kernel_rfl) (by simp) ?_
  refine AllReadyH.cons rfl (fun K hK => ?_) AllReadyH.nil
  go_simp
  refine (HH1.out _ rfl).mono ?_
  rintro e w1 ⟨rfl, rfl⟩
  refine hK.out _ _ ?hS5 (fun hHeld => ?_)
  case hS5 => first | assumption | go_keep
  clear hK K
  try simp only [Act.put, List.setIfInBounds_toArray, List.set_cons_zero, List.set_cons_succ]
  refine wpAnyH_ready (rs := [6]) (by kernel_rfl) (by simp) ?_
  refine AllReadyH.cons rfl (fun K hK => ?_) AllReadyH.nil
  go_simp
  refine (HH2.out _ rfl).mono ?_
  rintro e w1 ⟨rfl, rfl⟩
  refine hK.out _ _ ?hS7 (fun hHeld => ?_)
  case hS7 => first | assumption | go_keep
  clear hK K
  try simp only [Act.put, List.setIfInBounds_toArray, List.set_cons_zero, List.set_cons_succ]
  refine held_take 7 (some 14) (v := ?v7) rfl rfl (by kernel_rfl) (by kernel_rfl) (by kernel_rfl) (fun _ _ _ h => h) (by rfl) ?y7 (by assumption) ?_
  case y7 => ((intro w hSw); (try dsimp only at hSw); go_simp <;> (with_reducible rfl))
  try simp only [Act.put, List.setIfInBounds_toArray, List.set_cons_zero, List.set_cons_succ]
  refine held_take 8 (some 15) (v := ?v8) rfl rfl (by kernel_rfl) (by kernel_rfl) (by kernel_rfl) (fun _ _ _ h => h) (by rfl) ?y8 (by assumption) ?_
  case y8 => ((intro w hSw); (try dsimp only at hSw); go_simp <;> (with_reducible rfl))
  try simp only [Act.put, List.setIfInBounds_toArray, List.set_cons_zero, List.set_cons_succ]
  refine wpAnyH_ready (rs := [10]) (by kernel_rfl) (by simp) ?_
  refine AllReadyH.cons rfl (fun K hK => ?_) AllReadyH.nil
  go_simp
  refine (HS1.out _ rfl).mono ?_
  rintro e w1 ⟨rfl, rfl⟩
  refine hK.out _ _ ?hS11 (fun hHeld => ?_)
  case hS11 => first | assumption | go_keep
  clear hK K
  try simp only [Act.put, List.setIfInBounds_toArray, List.set_cons_zero, List.set_cons_succ]
  refine held_take 11 (some 18) (v := ?v11) rfl rfl (by kernel_rfl) (by kernel_rfl) (by kernel_rfl) (fun _ _ _ h => h) (by rfl) ?y11 (by assumption) ?_
  case y11 => ((intro w hSw); (try dsimp only at hSw); go_simp <;> (with_reducible rfl))
  try simp only [Act.put, List.setIfInBounds_toArray, List.set_cons_zero, List.set_cons_succ]
  refine wpAnyH_ready (rs := [13]) (by kernel_rfl) (by simp) ?_
  refine AllReadyH.cons rfl (fun K hK => ?_) AllReadyH.nil
  go_simp
  refine (HS2.out _ rfl).mono ?_
  rintro e w1 ⟨rfl, rfl⟩
  refine hK.out _ _ ?hS14 (fun hHeld => ?_)
  case hS14 => first | assumption | go_keep
  clear hK K
  try simp only [Act.put, List.setIfInBounds_toArray, List.set_cons_zero, List.set_cons_succ]
  refine held_take 14 (some 21) (v := ?v14) rfl rfl (by kernel_rfl) (by kernel_rfl) (by kernel_rfl) (fun _ _ _ h => h) (by rfl) ?y14 (by assumption) ?_
  case y14 => ((intro w hSw); (try dsimp only at hSw); go_simp <;> (with_reducible rfl))
  try simp only [Act.put, List.setIfInBounds_toArray, List.set_cons_zero, List.set_cons_succ]
  refine held_take 15 (some 22) (v := ?v15) rfl rfl (by kernel_rfl) (by kernel_rfl) (by kernel_rfl) (fun _ _ _ h => h) (by rfl) ?y15 (by assumption) ?_
  case y15 => ((intro w hSw); (try dsimp only at hSw); go_simp <;> (with_reducible rfl))
  try simp only [Act.put, List.setIfInBounds_toArray, List.set_cons_zero, List.set_cons_succ]
  refine wpAnyH_ready (rs := [16]) (by kernel_rfl) (by simp) ?_
  refine AllReadyH.cons rfl (fun K hK => ?_) AllReadyH.nil
  go_simp
  refine hK.out _ _ ?hS17 (fun hHeld => ?_)
  case hS17 => first | assumption | go_keep
  clear hK K
  try simp only [Act.put, List.setIfInBounds_toArray, List.set_cons_zero, List.set_cons_succ]
  refine held_take 17 (some 6) (v := ?v17) rfl rfl (by kernel_rfl) (by kernel_rfl) (by kernel_rfl) (fun _ _ _ h => h) (by rfl) ?y17 (by assumption) ?_
  case y17 => ((intro w hSw); (try dsimp only at hSw); go_simp <;> (with_reducible rfl))
  try simp only [Act.put, List.setIfInBounds_toArray, List.set_cons_zero, List.set_cons_succ]
  refine wpAnyH_done (by kernel_rfl) ?_ _
  have HLN := Aside0.mk (HLD.out.below ((Below.refl w0.drew.heap.size w0.drew).alloc (Nat.le_refl _) (.cells #[.int .u64 k, .int .i64 v, .pointer pl, .pointer pr, .int .i64 (1 + M), .int .i64 (1 + S1 + S2)] 68)))
  have HRN := Aside0.mk (HRD.out.below ((Below.refl w0.drew.heap.size w0.drew).alloc (Nat.le_refl _) (.cells #[.int .u64 k, .int .i64 v, .pointer pl, .pointer pr, .int .i64 (1 + M), .int .i64 (1 + S1 + S2)] 68)))
  have HBN := Aside0.mk (HBD.out.alloc HBD.out.size (.cells #[.int .u64 k, .int .i64 v, .pointer pl, .pointer pr, .int .i64 (1 + M), .int .i64 (1 + S1 + S2)] 68))
  have HNW := Aside0.mk (blk_new w0.drew (.cells #[.int .u64 k, .int .i64 v, .pointer pl, .pointer pr, .int .i64 (1 + M), .int .i64 (1 + S1 + S2)] 68))
  go_wp2
  go_ret
  exact ⟨⟨_, rfl, w0.heap.size, pl, pr, rfl, by rw [HEH.out, HES.out, ← HM.out]; exact HNW.out, HLN.out, HRN.out⟩, HBN.out⟩
end Go.Proofs.Ytbiccahkniadfaa.H
