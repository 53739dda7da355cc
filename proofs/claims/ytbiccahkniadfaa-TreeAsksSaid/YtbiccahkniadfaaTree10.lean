/- join: walked. -/
import Derived.Test.YtbiccahkniadfaaTree9
namespace Go.Proofs.Ytbiccahkniadfaa.H
open Go.RowKit Go.Proofs.Ytbiccahkniadfaa.P Go.Proofs.YtbiccahkniadfaaW.PrintWords Go.Proofs.YtbiccahkniadfaaW.PrintLast Go.Proofs.YtbiccahkniadfaaW.PrintMore
set_option linter.unusedVariables false
set_option linter.unusedSimpArgs false
/-- Two trees, and a pair between; in so many rounds. -/
def joinN : Nat → T → Int → Int → T → T
  | 0, l, k, v, r => .node l k v r
  | n + 1, l, k, v, r =>
    if ht l > ht r + 1 then
      match l with
      | .leaf => .node .leaf k v r
      | .node ll lk lv lr => evenT ll lk lv (joinN n lr k v r)
    else if ht r > ht l + 1 then
      match r with
      | .leaf => .node l k v .leaf
      | .node rl rk rv rr => evenT (joinN n l k v rl) rk rv rr
    else .node l k v r
theorem sz_join (k v : Int) : ∀ (n : Nat) (l r : T), sz (joinN n l k v r) = 1 + sz l + sz r
  | 0, l, r => rfl
  | n + 1, l, r => by
    unfold joinN
    split
    · cases l with
      | leaf => rfl
      | node ll lk lv lr => dsimp only; rw [sz_even, sz_join k v n lr r]; simp only [sz]; omega
    · split
      · cases r with
        | leaf => rfl
        | node rl rk rv rr => dsimp only; rw [sz_even, sz_join k v n l rl]; simp only [sz]; omega
      · rfl
set_option maxRecDepth 20000 in
set_option maxHeartbeats 4000000 in
theorem join_any (k v : Int) (n : Nat) : ∀ (l r : T), sz l + sz r < n → ∀ (pl pr : Option Addr) (w : World), TreeAt w pl l → TreeAt w pr r → sz l + sz r ≤ 50000 →
    Calls Try.prog 42 #[.pointer pl, .agg #[.int .u64 k, .int .i64 v], .pointer pr] w fun e w' => (∃ p, e = .returned (.pointer p) ∧ TreeAt w' p (joinN n l k v r)) ∧ Below w.heap.size w w' := by
  induction n with
  | zero => intro l r h; exact absurd h (Nat.not_lt_zero _)
  | succ n ih =>
  intro l r hn pl pr w hl hr hs
  have IH := Aside0.mk ih
  have HB0 := Aside0.mk ((Below.refl w.heap.size w).alloc (Nat.le_refl _) (.cells #[.int .u64 k, .int .i64 v] 45))
  have HX0 := Aside0.mk (blk_new w (.cells #[.int .u64 k, .int .i64 v] 45))
  have HL := Aside0.mk (hl.below HB0.out)
  have HR := Aside0.mk (hr.below HB0.out)
  have HN := Aside0.mk hn
  have hl1 := ht_le l
  have hr1 := ht_le r
  clear hl hr hn ih
  go_enter Try.func42, Try.ntmps42
  go_wp2_with fail
  generalize (w.alloc (.cells #[.int .u64 k, .int .i64 v] 45)) = w0 at *
  have WR := Aside0.mk (show ∀ t : T, ht t ≤ 50000 → IntKind.i64.wrap (((ht t : Nat) : Int) + 1) = ((ht t : Nat) : Int) + 1 from fun t h => by rw [IntKind.wrap_i64]; omega)
  have wr := WR.out r (by omega)
  have wl := WR.out l (by omega)
  refine (high_any pl l w0 HL.out).mono ?_
  rintro e w1 ⟨rfl, rfl⟩
  go_wp2_with fail
  refine (high_any pr r w1 HR.out).mono ?_
  rintro e w2 ⟨rfl, rfl⟩
  by_cases hc1 : ((ht r : Nat) : Int) + 1 < ((ht l : Nat) : Int)
  · have HC1 := Aside0.mk (show ht l > ht r + 1 by omega)
    go_wp2_with fail
    cases l with
    | leaf => simp [ht] at hc1; omega
    | node ll lk lv lr =>
      obtain ⟨gl, pll, plr, rfl, hgl, hll, hlr⟩ := HL.out
      have HEV := Aside0.mk (show joinN (n + 1) (.node ll lk lv lr) k v r = evenT ll lk lv (joinN n lr k v r) from by conv => lhs; unfold joinN; rw [if_pos HC1.out])
      have HZJ := Aside0.mk (sz_join k v n lr r)
      have HSZ := Aside0.mk (show sz ll + sz lr + 1 + sz r ≤ 50000 ∧ sz lr + sz r < n from ⟨by simp only [sz] at hs; omega, by have := HN.out; simp only [sz] at this; omega⟩)
      have hN : w2.cell? ⟨gl, 0, none⟩ = some (.int .u64 lk) ∧ w2.cell? ⟨gl, 1, none⟩ = some (.int .i64 lv) ∧ w2.cell? ⟨gl, 2, none⟩ = some (.pointer pll) ∧ w2.cell? ⟨gl, 3, none⟩ = some (.pointer plr) ∧ w2.cell? ⟨w.heap.size, 0, none⟩ = some (.int .u64 k) ∧ w2.cell? ⟨w.heap.size, 1, none⟩ = some (.int .i64 v) :=
        ⟨(node_cells hgl).1, (node_cells hgl).2.1, (node_cells hgl).2.2.1, (node_cells hgl).2.2.2, blk_cell HX0.out 0, blk_cell HX0.out 1⟩
      have HLLD := Aside0.mk (hll.below (below_drew (Below.refl _ w2)))
      have HLRD := Aside0.mk (hlr.below (below_drew (Below.refl _ w2)))
      have HOD := Aside0.mk (HR.out.below (below_drew (Below.refl _ w2)))
      have HBD := Aside0.mk (HB0.out.trans ((below_drew (Below.refl _ w2)).mono HB0.out.size))
      clear hgl hll hlr hl1 hr1 hs hc1 wr wl HL HR HB0 HX0
      refine wp_region_held_drew (S := (fun w' => w'.cell? ⟨gl, 0, none⟩ = some (.int .u64 lk) ∧ w'.cell? ⟨gl, 1, none⟩ = some (.int .i64 lv) ∧ w'.cell? ⟨gl, 2, none⟩ = some (.pointer pll) ∧ w'.cell? ⟨gl, 3, none⟩ = some (.pointer plr) ∧ w'.cell? ⟨w.heap.size, 0, none⟩ = some (.int .u64 k) ∧ w'.cell? ⟨w.heap.size, 1, none⟩ = some (.int .i64 v))) (by kernel_rfl) ?hSa0 (fun hHeld => ?_)
      case hSa0 => first | assumption | go_keep
      refine held_take 0 (some 14) (v := ?va0) rfl rfl (by kernel_rfl) (by kernel_rfl) (by kernel_rfl) (fun _ _ _ h => h) (by rfl) ?ya0 (by assumption) ?_
      case ya0 => ((intro w hSw); (try dsimp only at hSw); go_simp <;> (with_reducible rfl))
      try simp only [Act.put, List.setIfInBounds_toArray, List.set_cons_zero, List.set_cons_succ]
      refine held_take 1 (some 15) (v := ?va1) rfl rfl (by kernel_rfl) (by kernel_rfl) (by kernel_rfl) (fun _ _ _ h => h) (by rfl) ?ya1 (by assumption) ?_
      case ya1 => ((intro w hSw); (try dsimp only at hSw); go_simp <;> (with_reducible rfl))
      try simp only [Act.put, List.setIfInBounds_toArray, List.set_cons_zero, List.set_cons_succ]
      refine held_take 2 (some 16) (v := ?va2) rfl rfl (by kernel_rfl) (by kernel_rfl) (by kernel_rfl) (fun _ _ _ h => h) (by rfl) ?ya2 (by assumption) ?_
      case ya2 => ((intro w hSw); (try dsimp only at hSw); go_simp <;> (with_reducible rfl))
      try simp only [Act.put, List.setIfInBounds_toArray, List.set_cons_zero, List.set_cons_succ]
      refine held_take 3 (some 17) (v := ?va3) rfl rfl (by kernel_rfl) (by kernel_rfl) (by kernel_rfl) (fun _ _ _ h => h) (by rfl) ?ya3 (by assumption) ?_
      case ya3 => ((intro w hSw); (try dsimp only at hSw); go_simp <;> (with_reducible rfl))
      try simp only [Act.put, List.setIfInBounds_toArray, List.set_cons_zero, List.set_cons_succ]
      refine held_take 4 (some 18) (v := ?va4) rfl rfl (by kernel_rfl) (by kernel_rfl) (by kernel_rfl) (fun _ _ _ h => h) (by rfl) ?ya4 (by assumption) ?_
      case ya4 => ((intro w hSw); (try dsimp only at hSw); go_simp <;> (with_reducible rfl))
      try simp only [Act.put, List.setIfInBounds_toArray, List.set_cons_zero, List.set_cons_succ]
      refine held_take 5 (some 19) (v := ?va5) rfl rfl (by kernel_rfl) (by kernel_rfl) (by kernel_rfl) (fun _ _ _ h => h) (by rfl) ?ya5 (by assumption) ?_
      case ya5 => ((intro w hSw); (try dsimp only at hSw); go_simp <;> (with_reducible rfl))
      try simp only [Act.put, List.setIfInBounds_toArray, List.set_cons_zero, List.set_cons_succ]
      refine held_take 6 (some 20) (v := ?va6) rfl rfl (by kernel_rfl) (by kernel_rfl) (by kernel_rfl) (fun _ _ _ h => h) (by rfl) ?ya6 (by assumption) ?_
      case ya6 => ((intro w hSw); (try dsimp only at hSw); go_simp <;> (with_reducible rfl))
      try simp only [Act.put, List.setIfInBounds_toArray, List.set_cons_zero, List.set_cons_succ]
      refine held_take 7 (some 21) (v := ?va7) rfl rfl (by kernel_rfl) (by kernel_rfl) (by kernel_rfl) (fun _ _ _ h => h) (by rfl) ?ya7 (by assumption) ?_
      case ya7 => ((intro w hSw); (try dsimp only at hSw); go_simp <;> (with_reducible rfl))
      try simp only [Act.put, List.setIfInBounds_toArray, List.set_cons_zero, List.set_cons_succ]
      refine held_take 8 (some 22) (v := ?va8) rfl rfl (by kernel_rfl) (by kernel_rfl) (by kernel_rfl) (fun _ _ _ h => h) (by rfl) ?ya8 (by assumption) ?_
      case ya8 => ((intro w hSw); (try dsimp only at hSw); go_simp <;> (with_reducible rfl))
      try simp only [Act.put, List.setIfInBounds_toArray, List.set_cons_zero, List.set_cons_succ]
      refine held_take 9 (some 23) (v := ?va9) rfl rfl (by kernel_rfl) (by kernel_rfl) (by kernel_rfl) (fun _ _ _ h => h) (by rfl) ?ya9 (by assumption) ?_
      case ya9 => ((intro w hSw); (try dsimp only at hSw); go_simp <;> (with_reducible rfl))
      try simp only [Act.put, List.setIfInBounds_toArray, List.set_cons_zero, List.set_cons_succ]
      refine held_take 10 (some 24) (v := ?va10) rfl rfl (by kernel_rfl) (by kernel_rfl) (by kernel_rfl) (fun _ _ _ h => h) (by rfl) ?ya10 (by assumption) ?_
      case ya10 => ((intro w hSw); (try dsimp only at hSw); go_simp <;> (with_reducible rfl))
      try simp only [Act.put, List.setIfInBounds_toArray, List.set_cons_zero, List.set_cons_succ]
      refine held_take 11 (some 25) (v := ?va11) rfl rfl (by kernel_rfl) (by kernel_rfl) (by kernel_rfl) (fun _ _ _ h => h) (by rfl) ?ya11 (by assumption) ?_
      case ya11 => ((intro w hSw); (try dsimp only at hSw); go_simp <;> (with_reducible rfl))
      try simp only [Act.put, List.setIfInBounds_toArray, List.set_cons_zero, List.set_cons_succ]
      refine held_take 12 (some 26) (v := ?va12) rfl rfl (by kernel_rfl) (by kernel_rfl) (by kernel_rfl) (fun _ _ _ h => h) (by rfl) ?ya12 (by assumption) ?_
      case ya12 => ((intro w hSw); (try dsimp only at hSw); go_simp <;> (with_reducible rfl))
      try simp only [Act.put, List.setIfInBounds_toArray, List.set_cons_zero, List.set_cons_succ]
      refine held_take 13 (some 27) (v := ?va13) rfl rfl (by kernel_rfl) (by kernel_rfl) (by kernel_rfl) (fun _ _ _ h => h) (by rfl) ?ya13 (by assumption) ?_
      case ya13 => ((intro w hSw); (try dsimp only at hSw); go_simp <;> (with_reducible rfl))
      try simp only [Act.put, List.setIfInBounds_toArray, List.set_cons_zero, List.set_cons_succ]
      refine wpAnyH_ready (rs := [14]) (by kernel_rfl) (by simp) ?_
      refine AllReadyH.cons rfl (fun K hK => ?_) AllReadyH.nil
      go_simp
      refine (IH.out lr r HSZ.out.2 plr pr _ HLRD.out HOD.out (by have := HSZ.out.1; omega)).mono ?_
      rintro e w4 ⟨⟨p4, rfl, ht4⟩, hb4⟩
      have K4 := cells6_below (by assumption) hb4
      have HT4 := Aside0.mk ht4
      have HA4 := Aside0.mk (HLLD.out.below hb4)
      have HB4 := Aside0.mk (HBD.out.trans (hb4.mono HBD.out.size))
      clear ht4 hb4
      refine hK.out _ _ ?hSa15 (fun hHeld => ?_)
      case hSa15 => first | assumption | go_keep
      clear hK K
      try simp only [Act.put, List.setIfInBounds_toArray, List.set_cons_zero, List.set_cons_succ]
      refine wpAnyH_ready (rs := [15]) (by kernel_rfl) (by simp) ?_
      refine AllReadyH.cons rfl (fun K hK => ?_) AllReadyH.nil
      go_simp
      refine (even_any pll ll lk lv p4 (joinN n lr k v r) _ HA4.out HT4.out (by have := HSZ.out.1; have := HZJ.out; omega)).mono ?_
      rintro e w5 ⟨⟨p5, rfl, ht5⟩, hb5⟩
      have K5 := cells6_below (by assumption) hb5
      have HT5 := Aside0.mk ht5
      have HB5 := Aside0.mk (HB4.out.trans (hb5.mono HB4.out.size))
      clear ht5 hb5
      refine hK.out _ _ ?hSa16 (fun hHeld => ?_)
      case hSa16 => first | assumption | go_keep
      clear hK K
      try simp only [Act.put, List.setIfInBounds_toArray, List.set_cons_zero, List.set_cons_succ]
      refine held_take 16 (some 6) (v := ?va16) rfl rfl (by kernel_rfl) (by kernel_rfl) (by kernel_rfl) (fun _ _ _ h => h) (by rfl) ?ya16 (by assumption) ?_
      case ya16 => ((intro w hSw); (try dsimp only at hSw); go_simp <;> (with_reducible rfl))
      try simp only [Act.put, List.setIfInBounds_toArray, List.set_cons_zero, List.set_cons_succ]
      refine wpAnyH_done (by kernel_rfl) ?_ _
      go_wp2
      go_ret
      exact ⟨⟨_, rfl, by rw [HEV.out]; exact HT5.out⟩, HB5.out⟩
  · have HC0 := Aside0.mk (show ¬ ht l > ht r + 1 by omega)
    go_wp2_with fail
    refine (high_any pr r w2 HR.out).mono ?_
    rintro e w3' ⟨rfl, rfl⟩
    go_wp2_with fail
    refine (high_any pl l w3' HL.out).mono ?_
    rintro e w2 ⟨rfl, rfl⟩
    by_cases hc3 : ((ht l : Nat) : Int) + 1 < ((ht r : Nat) : Int)
    · have HC1 := Aside0.mk (show ht r > ht l + 1 by omega)
      clear hc1
      go_wp2_with fail
      cases r with
      | leaf => simp [ht] at hc3; omega
      | node rl rk rv rr =>
        obtain ⟨gr, prl, prr, rfl, hgr, hrl, hrr⟩ := HR.out
        have HEV := Aside0.mk (show joinN (n + 1) l k v (.node rl rk rv rr) = evenT (joinN n l k v rl) rk rv rr from by conv => lhs; unfold joinN; rw [if_neg HC0.out, if_pos HC1.out])
        have HZJ := Aside0.mk (sz_join k v n l rl)
        have HSZ := Aside0.mk (show sz l + (sz rl + sz rr + 1) ≤ 50000 ∧ sz l + sz rl < n from ⟨by simp only [sz] at hs; omega, by have := HN.out; simp only [sz] at this; omega⟩)
        have hN : w2.cell? ⟨gr, 0, none⟩ = some (.int .u64 rk) ∧ w2.cell? ⟨gr, 1, none⟩ = some (.int .i64 rv) ∧ w2.cell? ⟨gr, 2, none⟩ = some (.pointer prl) ∧ w2.cell? ⟨gr, 3, none⟩ = some (.pointer prr) ∧ w2.cell? ⟨w.heap.size, 0, none⟩ = some (.int .u64 k) ∧ w2.cell? ⟨w.heap.size, 1, none⟩ = some (.int .i64 v) :=
          ⟨(node_cells hgr).1, (node_cells hgr).2.1, (node_cells hgr).2.2.1, (node_cells hgr).2.2.2, blk_cell HX0.out 0, blk_cell HX0.out 1⟩
        have HRLD := Aside0.mk (hrl.below (below_drew (Below.refl _ w2)))
        have HRRD := Aside0.mk (hrr.below (below_drew (Below.refl _ w2)))
        have HOD := Aside0.mk (HL.out.below (below_drew (Below.refl _ w2)))
        have HBD := Aside0.mk (HB0.out.trans ((below_drew (Below.refl _ w2)).mono HB0.out.size))
        clear hgr hrl hrr hl1 hr1 hs hc3 wr wl HL HR HB0 HX0
        refine wp_region_held_drew (S := (fun w' => w'.cell? ⟨gr, 0, none⟩ = some (.int .u64 rk) ∧ w'.cell? ⟨gr, 1, none⟩ = some (.int .i64 rv) ∧ w'.cell? ⟨gr, 2, none⟩ = some (.pointer prl) ∧ w'.cell? ⟨gr, 3, none⟩ = some (.pointer prr) ∧ w'.cell? ⟨w.heap.size, 0, none⟩ = some (.int .u64 k) ∧ w'.cell? ⟨w.heap.size, 1, none⟩ = some (.int .i64 v))) (by kernel_rfl) ?hSb0 (fun hHeld => ?_)
        case hSb0 => first | assumption | go_keep
        refine held_take 0 (some 37) (v := ?vb0) rfl rfl (by kernel_rfl) (by kernel_rfl) (by kernel_rfl) (fun _ _ _ h => h) (by rfl) ?yb0 (by assumption) ?_
        case yb0 => ((intro w hSw); (try dsimp only at hSw); go_simp <;> (with_reducible rfl))
        try simp only [Act.put, List.setIfInBounds_toArray, List.set_cons_zero, List.set_cons_succ]
        refine held_take 1 (some 38) (v := ?vb1) rfl rfl (by kernel_rfl) (by kernel_rfl) (by kernel_rfl) (fun _ _ _ h => h) (by rfl) ?yb1 (by assumption) ?_
        case yb1 => ((intro w hSw); (try dsimp only at hSw); go_simp <;> (with_reducible rfl))
        try simp only [Act.put, List.setIfInBounds_toArray, List.set_cons_zero, List.set_cons_succ]
        refine held_take 2 (some 39) (v := ?vb2) rfl rfl (by kernel_rfl) (by kernel_rfl) (by kernel_rfl) (fun _ _ _ h => h) (by rfl) ?yb2 (by assumption) ?_
        case yb2 => ((intro w hSw); (try dsimp only at hSw); go_simp <;> (with_reducible rfl))
        try simp only [Act.put, List.setIfInBounds_toArray, List.set_cons_zero, List.set_cons_succ]
        refine held_take 3 (some 40) (v := ?vb3) rfl rfl (by kernel_rfl) (by kernel_rfl) (by kernel_rfl) (fun _ _ _ h => h) (by rfl) ?yb3 (by assumption) ?_
        case yb3 => ((intro w hSw); (try dsimp only at hSw); go_simp <;> (with_reducible rfl))
        try simp only [Act.put, List.setIfInBounds_toArray, List.set_cons_zero, List.set_cons_succ]
        refine held_take 4 (some 41) (v := ?vb4) rfl rfl (by kernel_rfl) (by kernel_rfl) (by kernel_rfl) (fun _ _ _ h => h) (by rfl) ?yb4 (by assumption) ?_
        case yb4 => ((intro w hSw); (try dsimp only at hSw); go_simp <;> (with_reducible rfl))
        try simp only [Act.put, List.setIfInBounds_toArray, List.set_cons_zero, List.set_cons_succ]
        refine held_take 5 (some 42) (v := ?vb5) rfl rfl (by kernel_rfl) (by kernel_rfl) (by kernel_rfl) (fun _ _ _ h => h) (by rfl) ?yb5 (by assumption) ?_
        case yb5 => ((intro w hSw); (try dsimp only at hSw); go_simp <;> (with_reducible rfl))
        try simp only [Act.put, List.setIfInBounds_toArray, List.set_cons_zero, List.set_cons_succ]
        refine held_take 7 (some 44) (v := ?vb7) rfl rfl (by kernel_rfl) (by kernel_rfl) (by kernel_rfl) (fun _ _ _ h => h) (by rfl) ?yb7 (by assumption) ?_
        case yb7 => ((intro w hSw); (try dsimp only at hSw); go_simp <;> (with_reducible rfl))
        try simp only [Act.put, List.setIfInBounds_toArray, List.set_cons_zero, List.set_cons_succ]
        refine held_take 8 (some 45) (v := ?vb8) rfl rfl (by kernel_rfl) (by kernel_rfl) (by kernel_rfl) (fun _ _ _ h => h) (by rfl) ?yb8 (by assumption) ?_
        case yb8 => ((intro w hSw); (try dsimp only at hSw); go_simp <;> (with_reducible rfl))
        try simp only [Act.put, List.setIfInBounds_toArray, List.set_cons_zero, List.set_cons_succ]
        refine held_take 9 (some 46) (v := ?vb9) rfl rfl (by kernel_rfl) (by kernel_rfl) (by kernel_rfl) (fun _ _ _ h => h) (by rfl) ?yb9 (by assumption) ?_
        case yb9 => ((intro w hSw); (try dsimp only at hSw); go_simp <;> (with_reducible rfl))
        try simp only [Act.put, List.setIfInBounds_toArray, List.set_cons_zero, List.set_cons_succ]
        refine held_take 10 (some 47) (v := ?vb10) rfl rfl (by kernel_rfl) (by kernel_rfl) (by kernel_rfl) (fun _ _ _ h => h) (by rfl) ?yb10 (by assumption) ?_
        case yb10 => ((intro w hSw); (try dsimp only at hSw); go_simp <;> (with_reducible rfl))
        try simp only [Act.put, List.setIfInBounds_toArray, List.set_cons_zero, List.set_cons_succ]
        refine held_take 11 (some 48) (v := ?vb11) rfl rfl (by kernel_rfl) (by kernel_rfl) (by kernel_rfl) (fun _ _ _ h => h) (by rfl) ?yb11 (by assumption) ?_
        case yb11 => ((intro w hSw); (try dsimp only at hSw); go_simp <;> (with_reducible rfl))
        try simp only [Act.put, List.setIfInBounds_toArray, List.set_cons_zero, List.set_cons_succ]
        refine held_take 12 (some 49) (v := ?vb12) rfl rfl (by kernel_rfl) (by kernel_rfl) (by kernel_rfl) (fun _ _ _ h => h) (by rfl) ?yb12 (by assumption) ?_
        case yb12 => ((intro w hSw); (try dsimp only at hSw); go_simp <;> (with_reducible rfl))
        try simp only [Act.put, List.setIfInBounds_toArray, List.set_cons_zero, List.set_cons_succ]
        refine held_take 13 (some 50) (v := ?vb13) rfl rfl (by kernel_rfl) (by kernel_rfl) (by kernel_rfl) (fun _ _ _ h => h) (by rfl) ?yb13 (by assumption) ?_
        case yb13 => ((intro w hSw); (try dsimp only at hSw); go_simp <;> (with_reducible rfl))
        try simp only [Act.put, List.setIfInBounds_toArray, List.set_cons_zero, List.set_cons_succ]
        refine held_take 14 (some 51) (v := ?vb14) rfl rfl (by kernel_rfl) (by kernel_rfl) (by kernel_rfl) (fun _ _ _ h => h) (by rfl) ?yb14 (by assumption) ?_
        case yb14 => ((intro w hSw); (try dsimp only at hSw); go_simp <;> (with_reducible rfl))
        try simp only [Act.put, List.setIfInBounds_toArray, List.set_cons_zero, List.set_cons_succ]
        refine wpAnyH_ready (rs := [6]) (by kernel_rfl) (by simp) ?_
        refine AllReadyH.cons rfl (fun K hK => ?_) AllReadyH.nil
        go_simp
        refine (IH.out l rl HSZ.out.2 pl prl _ HOD.out HRLD.out (by have := HSZ.out.1; omega)).mono ?_
        rintro e w4 ⟨⟨p4, rfl, ht4⟩, hb4⟩
        have K4 := cells6_below (by assumption) hb4
        have HT4 := Aside0.mk ht4
        have HA4 := Aside0.mk (HRRD.out.below hb4)
        have HB4 := Aside0.mk (HBD.out.trans (hb4.mono HBD.out.size))
        clear ht4 hb4
        refine hK.out _ _ ?hSb7 (fun hHeld => ?_)
        case hSb7 => first | assumption | go_keep
        clear hK K
        try simp only [Act.put, List.setIfInBounds_toArray, List.set_cons_zero, List.set_cons_succ]
        refine wpAnyH_ready (rs := [15]) (by kernel_rfl) (by simp) ?_
        refine AllReadyH.cons rfl (fun K hK => ?_) AllReadyH.nil
        go_simp
        refine (even_any p4 (joinN n l k v rl) rk rv prr rr _ HT4.out HA4.out (by have := HSZ.out.1; have := HZJ.out; omega)).mono ?_
        rintro e w5 ⟨⟨p5, rfl, ht5⟩, hb5⟩
        have K5 := cells6_below (by assumption) hb5
        have HT5 := Aside0.mk ht5
        have HB5 := Aside0.mk (HB4.out.trans (hb5.mono HB4.out.size))
        clear ht5 hb5
        refine hK.out _ _ ?hSb16 (fun hHeld => ?_)
        case hSb16 => first | assumption | go_keep
        clear hK K
        try simp only [Act.put, List.setIfInBounds_toArray, List.set_cons_zero, List.set_cons_succ]
        refine held_take 16 (some 6) (v := ?vb16) rfl rfl (by kernel_rfl) (by kernel_rfl) (by kernel_rfl) (fun _ _ _ h => h) (by rfl) ?yb16 (by assumption) ?_
        case yb16 => ((intro w hSw); (try dsimp only at hSw); go_simp <;> (with_reducible rfl))
        try simp only [Act.put, List.setIfInBounds_toArray, List.set_cons_zero, List.set_cons_succ]
        refine wpAnyH_done (by kernel_rfl) ?_ _
        go_wp2
        go_ret
        exact ⟨⟨_, rfl, by rw [HEV.out]; exact HT5.out⟩, HB5.out⟩
    · have HEV := Aside0.mk (show joinN (n + 1) l k v r = .node l k v r from by unfold joinN; rw [if_neg HC0.out, if_neg (by omega)])
      have c0 := blk_cell HX0.out 0
      have c1 := blk_cell HX0.out 1
      have hm := made_any pl l k v pr r w2 HL.out HR.out (by omega)
      go_wp2_with fail
      refine hm.mono ?_
      rintro e w3 ⟨⟨p3, rfl, ht3⟩, hb3⟩
      have HT3 := Aside0.mk ht3
      have HB3 := Aside0.mk (HB0.out.trans (hb3.mono HB0.out.size))
      clear hm ht3 hb3 c0 c1
      go_wp2_with fail
      go_ret
      exact ⟨⟨_, rfl, by rw [HEV.out]; exact HT3.out⟩, HB3.out⟩
end Go.Proofs.Ytbiccahkniadfaa.H
