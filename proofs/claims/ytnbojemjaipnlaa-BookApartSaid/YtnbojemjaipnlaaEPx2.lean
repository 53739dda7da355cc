/- BokZ, Px1, Px2. -/
import Derived.Test.YtnbojemjaipnlaaEBokY
import Derived.Test.YtnbojemjaipnlaaEPx0
/-! ### BokZ -/
namespace Go.Proofs.Ytnbojemjaipnlaa.H
open Go.RowKit Go.Proofs.Ytnbojemjaipnlaa.P Go.Proofs.YtnbojemjaipnlaaW.PrintWords Go.Proofs.YtnbojemjaipnlaaW.PrintLast Go.Proofs.YtnbojemjaipnlaaW.PrintMore
set_option linter.unusedVariables false
set_option linter.unusedSimpArgs false
set_option maxRecDepth 20000
set_option maxHeartbeats 4000000 in
theorem openD_any (mb : Nat) (M : List (Int × Ses)) (br : ByteArray) (w : World) (h : DocAt w mb M) (hm : M.length ≤ 1000) (hu : RiseK M) (hr : ∀ p ∈ M, 1 ≤ p.1 ∧ p.1 ≤ 4) :
    Calls Try.prog 23 #[.pointer (some ⟨mb, 0, none⟩), .string br] w (DoesD w mb (openM M br).1 (.tuple #[.int .i64 (openM M br).2.1, .int .i64 (openM M br).2.2])) := by
  unfold openM
  cases hf : freeM M 4 1 with
  | some n0 =>
    refine openD_ok mb M br n0 w h ?_ hf
    rcases Nat.lt_or_ge M.length 4 with c | c
    · exact c
    · rw [free_len hu hr c] at hf; cases hf
  | none =>
    have h4 := free_none hf
    have H := Aside0.mk h
    obtain ⟨v, R, h1, h2, h3⟩ := h
    have hlen := h3.len
    obtain ⟨A0, cap0, rfl, hc0, hx0⟩ := ownD_slice h2
    have hut := Try.underlying28
    have c0 : w.cell? ⟨mb, 0, none⟩ = some (.slice A0 R.length cap0) := blk_cell h1 0
    have hlt4 : (4 : Int) ≤ (R.length : Int) := by omega
    clear h1 h2 h3 hm hlen hc0 hx0 hf hu hr h4
    go_enter Try.func23, Try.ntmps23
    go_wp2_with fail
    go_ret2
    exact DoesD.same H.out _
theorem append_none (A : Option Addr) (c : Nat) (R : List RD) (V : World) (hr : OwnD 0 (.slice A R.length c) R V) (hl : R.length ≤ 1000) :
    ∃ v2 V2, (∀ ty, (Builtin.append_ #[26, 26] ty #[.slice none 0 0, .slice A R.length c]).run Try.prog V = .ok v2 V2) ∧ Below V.heap.size V V2 ∧ OwnD V.heap.size v2 R V2 := by
  obtain ⟨i0, hi0, hz0, hzs, hzb⟩ := info_parts infoD
  have hn : V.ownsRow V.heap.size 54 3 (.slice none 0 0) 0 [] := ⟨rfl, .inl ⟨rfl, rfl⟩⟩
  rcases ownD_cases hr with ⟨e, rfl⟩ | ⟨g, cap, cur, e, _, k1, k2, k3, _, k5⟩
  · simp only [Value.slice.injEq] at e
    obtain ⟨rfl, _, rfl⟩ := e
    exact ⟨_, _, fun ty => run_append_owned_none (P := Try.prog) (w := V) V.heap.size 26 ty 54 i0 3 Try.underlying26 hi0 _ 0 [] hn, Below.refl _ _, ownD_nil _ _⟩
  · simp only [Value.slice.injEq] at e
    obtain ⟨rfl, _, rfl⟩ := e
    have hrun := fun ty => run_append_own (P := Try.prog) V V.heap.size 26 ty 54 i0 (.agg #[(.int .i64 0), (.string ⟨#[]⟩), (.slice none 0 0)]) 3 48 Try.underlying26 hi0 hz0 hzs hzb rfl (by decide) (.slice none 0 0) 0 [] hn ⟨g, 0, none⟩ R.length c (dflat R) (dflat_len R) (fun k u hu => by rw [Addr.add_lit, blk_cell k1, Nat.zero_add]; exact k5 k u hu) (dflat_one R) (by unfold maxLen; omega) (by omega) (Nat.le_refl _)
    obtain ⟨v2, V2, hr2, ho2, hg2, _⟩ := hrun 0
    have hall : ∀ ty, (Builtin.append_ #[26, 26] ty #[.slice none 0 0, .slice (some ⟨g, 0, none⟩) R.length c]).run Try.prog V = .ok v2 V2 := fun ty => hr2
    rw [Nat.zero_add, List.nil_append] at ho2
    exact ⟨v2, V2, hall, (Below.refl V.heap.size V).grown hg2 (Nat.le_refl _) (fun q hq => by simp [Value.ownBlock] at hq), ho2⟩
def CopyD (w : World) (M : List (Int × Ses)) (e : Ending) (w' : World) : Prop := ∃ nb, e = .returned (.pointer (some ⟨nb, 0, none⟩)) ∧ w.heap.size ≤ nb ∧ DocAt w' nb M ∧ Below w.heap.size w w'
set_option maxHeartbeats 4000000 in
theorem copyD_any (mb : Nat) (M : List (Int × Ses)) (w : World) (h : DocAt w mb M) (hm : M.length ≤ 1000) :
    Calls Try.prog 15 #[.pointer (some ⟨mb, 0, none⟩)] w (CopyD w M) := by
  have HB0 := Aside0.mk ((Below.refl w.heap.size w).alloc (Nat.le_refl _) (.cells #[.slice none 0 0] 28))
  have HBN := Aside0.mk (blk_new w (.cells #[.slice none 0 0] 28))
  obtain ⟨v, R, h1, h2, h3⟩ := h
  have hlen := h3.len
  obtain ⟨A0, cap0, rfl, hc0, hx0⟩ := ownD_slice h2
  have hsz : (w.alloc (.cells #[.slice none 0 0] 28)).heap.size = w.heap.size + 1 := by simp
  obtain ⟨v2, V2, hap, hbv, hov⟩ := append_none A0 cap0 R (w.alloc (.cells #[.slice none 0 0] 28)).drew (ownD_below h2 (below_drew HB0.out)) (by omega)
  have HAP := Aside0.mk hap
  have hbw : Below w.heap.size w V2 := (below_drew HB0.out).trans (hbv.mono (by show w.heap.size ≤ (w.alloc (.cells #[.slice none 0 0] 28)).heap.size; omega))
  have hby : Below (w.alloc (.cells #[.slice none 0 0] 28)).drew.heap.size (w.alloc (.cells #[.slice none 0 0] 28)).drew V2 := hbv
  have hnb : (w.alloc (.cells #[.slice none 0 0] 28)).drew.heap[w.heap.size]? = some (.cells #[.slice none 0 0] 28 (0, 0)) := HBN.out
  have hdn : DocAt (w.alloc (.cells #[.slice none 0 0] 28)).drew w.heap.size [] := ⟨_, [], hnb, ownD_nil _ _, .nil⟩
  have hall : Both (RDat (w.alloc (.cells #[.slice none 0 0] 28)).drew) R M := h3.imp (fun a b q => q.but (S := fun _ => False) (ButS.of (below_drew HB0.out)) (fun _ q => q.elim))
  have hput := doc_put hdn hby hov (Nat.le_refl _) hall
  have HP := Aside0.mk hput
  have HBW := Aside0.mk (hbw.setCell (p := ⟨w.heap.size, 0, none⟩) (Nat.le_refl _) v2)
  have v0 : V2.cell? ⟨w.heap.size, 0, none⟩ = some (.slice none 0 0) := blk_cell (blk_below hnb hby) 0
  have vz := blk_frozen (blk_below hnb hby) 0
  have hut := Try.underlying28
  have u0 : (w.alloc (.cells #[.slice none 0 0] 28)).cell? ⟨mb, 0, none⟩ = some (.slice A0 R.length cap0) := blk_cell (blk_below h1 HB0.out) 0
  have u1 : (w.alloc (.cells #[.slice none 0 0] 28)).cell? ⟨w.heap.size, 0, none⟩ = some (.slice none 0 0) := blk_cell HBN.out 0
  obtain ⟨A2, c2, rfl, _⟩ := ownD_slice hov
  clear h1 h2 h3 hm hap hbw hby hdn hall hput hnb hov hbv hc0 hx0 hlen
  go_enter Try.func15, Try.ntmps15
  go_upto_region 2 with (fail)
  refine wp_region_held_drew (S := fun _ => True) (by kernel_rfl) ?hS0 (fun hHeld => ?_)
  case hS0 => trivial
  refine held_take 0 (some 6) (v := ?v0) rfl rfl (by kernel_rfl) (by kernel_rfl) (by kernel_rfl) (fun _ _ _ h => h) (by rfl) ?y0 (by assumption) ?_
  case y0 => ((intro w hSw); (try dsimp only at hSw); go_simp <;> (with_reducible rfl))
  try simp only [Act.put, List.setIfInBounds_toArray, List.set_cons_zero, List.set_cons_succ]
  refine held_take 1 (some 7) (v := ?v1) rfl rfl (by kernel_rfl) (by kernel_rfl) (by kernel_rfl) (fun _ _ _ h => h) (by rfl) ?y1 (by assumption) ?_
  case y1 => ((intro w hSw); (try dsimp only at hSw); go_simp <;> (with_reducible rfl))
  try simp only [Act.put, List.setIfInBounds_toArray, List.set_cons_zero, List.set_cons_succ]
  refine held_take 2 (some 8) (v := ?v2) rfl rfl (by kernel_rfl) (by kernel_rfl) (by kernel_rfl) (fun _ _ _ h => h) (by rfl) ?y2 (by assumption) ?_
  case y2 => ((intro w hSw); (try dsimp only at hSw); go_simp <;> (with_reducible rfl))
  try simp only [Act.put, List.setIfInBounds_toArray, List.set_cons_zero, List.set_cons_succ]
  refine held_take 3 (some 9) (v := ?v3) rfl rfl (by kernel_rfl) (by kernel_rfl) (by kernel_rfl) (fun _ _ _ h => h) (by rfl) ?y3 (by assumption) ?_
  case y3 => ((intro w hSw); (try dsimp only at hSw); go_simp <;> (with_reducible rfl))
  try simp only [Act.put, List.setIfInBounds_toArray, List.set_cons_zero, List.set_cons_succ]
  refine held_take 5 (some 11) (v := ?v5) rfl rfl (by kernel_rfl) (by kernel_rfl) (by kernel_rfl) (fun _ _ _ h => h) (by rfl) ?y5 (by assumption) ?_
  case y5 => ((intro w hSw); (try dsimp only at hSw); go_simp <;> (with_reducible rfl))
  try simp only [Act.put, List.setIfInBounds_toArray, List.set_cons_zero, List.set_cons_succ]
  refine held_take 6 (some 12) (v := ?v6) rfl rfl (by kernel_rfl) (by kernel_rfl) (by kernel_rfl) (fun _ _ _ h => h) (by rfl) ?y6 (by assumption) ?_
  case y6 => ((intro w hSw); (try dsimp only at hSw); go_simp <;> (with_reducible rfl))
  try simp only [Act.put, List.setIfInBounds_toArray, List.set_cons_zero, List.set_cons_succ]
  refine held_take 7 (some 13) (v := ?v7) rfl rfl (by kernel_rfl) (by kernel_rfl) (by kernel_rfl) (fun _ _ _ h => h) (by rfl) ?y7 (by assumption) ?_
  case y7 => ((intro w hSw); (try dsimp only at hSw); go_simp <;> (with_reducible rfl))
  try simp only [Act.put, List.setIfInBounds_toArray, List.set_cons_zero, List.set_cons_succ]
  refine wpAnyH_ready (rs := [4, 8]) (by kernel_rfl) (by simp) ?_
  refine AllReadyH.cons rfl (fun K hK => ?_) (AllReadyH.cons rfl (fun K hK => ?_) AllReadyH.nil)
  · go_simp
    refine hK.out _ _ ?hSw1_5 (fun hHeld => ?_)
    case hSw1_5 => trivial
    clear hK K
    try simp only [Act.put, List.setIfInBounds_toArray, List.set_cons_zero, List.set_cons_succ]
    refine wpAnyH_ready (rs := [8]) (by kernel_rfl) (by simp) ?_
    refine AllReadyH.cons rfl (fun K hK => ?_) AllReadyH.nil
    go_simp
    refine hK.out _ _ ?hSw1_9 (fun hHeld => ?_)
    case hSw1_9 => trivial
    clear hK K
    try simp only [Act.put, List.setIfInBounds_toArray, List.set_cons_zero, List.set_cons_succ]
    refine wpAnyH_ready (rs := [9]) (by kernel_rfl) (by simp) ?_
    refine AllReadyH.cons rfl (fun K hK => ?_) AllReadyH.nil
    refine step_append_run7 rfl (.tmp 10) (.tmp 14) 26 26 rfl (.slice none 0 0) (.slice A0 R.length cap0) (by simp [Act.eval, Act.put]) (by simp [Act.eval, Act.put]) (HAP.out _) ?_
    refine hK.out _ _ ?hSw1_10 (fun hHeld => ?_)
    case hSw1_10 => trivial
    clear hK K
    try simp only [Act.put, List.setIfInBounds_toArray, List.set_cons_zero, List.set_cons_succ]
    refine held_take 10 (some 16) (v := ?vw1_10) rfl rfl (by kernel_rfl) (by kernel_rfl) (by kernel_rfl) (fun _ _ _ h => h) (by rfl) ?yw1_10 (by assumption) ?_
    case yw1_10 => ((intro w hSw); (try dsimp only at hSw); go_simp <;> (with_reducible rfl))
    try simp only [Act.put, List.setIfInBounds_toArray, List.set_cons_zero, List.set_cons_succ]
    refine held_take 11 (some 17) (v := ?vw1_11) rfl rfl (by kernel_rfl) (by kernel_rfl) (by kernel_rfl) (fun _ _ _ h => h) (by rfl) ?yw1_11 (by assumption) ?_
    case yw1_11 => ((intro w hSw); (try dsimp only at hSw); go_simp <;> (with_reducible rfl))
    try simp only [Act.put, List.setIfInBounds_toArray, List.set_cons_zero, List.set_cons_succ]
    refine wpAnyH_ready (rs := [12]) (by kernel_rfl) (by simp) ?_
    refine AllReadyH.cons rfl (fun K hK => ?_) AllReadyH.nil
    go_simp
    refine hK.out _ _ ?hSw1_13 (fun hHeld => ?_)
    case hSw1_13 => trivial
    clear hK K
    try simp only [Act.put, List.setIfInBounds_toArray, List.set_cons_zero, List.set_cons_succ]
    refine wpAnyH_done (by kernel_rfl) ?_ _
    go_wp2_with fail
    go_ret
    exact ⟨w.heap.size, rfl, Nat.le_refl _, HP.out.1, HBW.out⟩
  · go_simp
    refine hK.out _ _ ?hSw2_9 (fun hHeld => ?_)
    case hSw2_9 => trivial
    clear hK K
    try simp only [Act.put, List.setIfInBounds_toArray, List.set_cons_zero, List.set_cons_succ]
    refine wpAnyH_ready (rs := [4]) (by kernel_rfl) (by simp) ?_
    refine AllReadyH.cons rfl (fun K hK => ?_) AllReadyH.nil
    go_simp
    refine hK.out _ _ ?hSw2_5 (fun hHeld => ?_)
    case hSw2_5 => trivial
    clear hK K
    try simp only [Act.put, List.setIfInBounds_toArray, List.set_cons_zero, List.set_cons_succ]
    refine wpAnyH_ready (rs := [9]) (by kernel_rfl) (by simp) ?_
    refine AllReadyH.cons rfl (fun K hK => ?_) AllReadyH.nil
    refine step_append_run7 rfl (.tmp 10) (.tmp 14) 26 26 rfl (.slice none 0 0) (.slice A0 R.length cap0) (by simp [Act.eval, Act.put]) (by simp [Act.eval, Act.put]) (HAP.out _) ?_
    refine hK.out _ _ ?hSw2_10 (fun hHeld => ?_)
    case hSw2_10 => trivial
    clear hK K
    try simp only [Act.put, List.setIfInBounds_toArray, List.set_cons_zero, List.set_cons_succ]
    refine held_take 10 (some 16) (v := ?vw2_10) rfl rfl (by kernel_rfl) (by kernel_rfl) (by kernel_rfl) (fun _ _ _ h => h) (by rfl) ?yw2_10 (by assumption) ?_
    case yw2_10 => ((intro w hSw); (try dsimp only at hSw); go_simp <;> (with_reducible rfl))
    try simp only [Act.put, List.setIfInBounds_toArray, List.set_cons_zero, List.set_cons_succ]
    refine held_take 11 (some 17) (v := ?vw2_11) rfl rfl (by kernel_rfl) (by kernel_rfl) (by kernel_rfl) (fun _ _ _ h => h) (by rfl) ?yw2_11 (by assumption) ?_
    case yw2_11 => ((intro w hSw); (try dsimp only at hSw); go_simp <;> (with_reducible rfl))
    try simp only [Act.put, List.setIfInBounds_toArray, List.set_cons_zero, List.set_cons_succ]
    refine wpAnyH_ready (rs := [12]) (by kernel_rfl) (by simp) ?_
    refine AllReadyH.cons rfl (fun K hK => ?_) AllReadyH.nil
    go_simp
    refine hK.out _ _ ?hSw2_13 (fun hHeld => ?_)
    case hSw2_13 => trivial
    clear hK K
    try simp only [Act.put, List.setIfInBounds_toArray, List.set_cons_zero, List.set_cons_succ]
    refine wpAnyH_done (by kernel_rfl) ?_ _
    go_wp2_with fail
    go_ret
    exact ⟨w.heap.size, rfl, Nat.le_refl _, HP.out.1, HBW.out⟩
end Go.Proofs.Ytnbojemjaipnlaa.H
/-! ### Px1 -/
namespace Go.Proofs.Ytnbojemjaipnlaa.P
open Go.RowKit Go.Proofs.YtnbojemjaipnlaaW.PrintWords Go.Proofs.YtnbojemjaipnlaaW.PrintLast Go.Proofs.YtnbojemjaipnlaaW.PrintMore
set_option linter.unusedVariables false
set_option linter.unusedSimpArgs false
theorem eqA33 (d : Nat) (w : World) (x0 y0 : Int) (x1 y1 : Int) :
    (Op.equalIn (d + 2) 33 (.agg #[.int .u32 x0, .int .u32 x1]) (.agg #[.int .u32 y0, .int .u32 y1])).run Try.prog w = .ok (x0 == y0 && (x1 == y1)) w := by
  refine eqA_of Try.underlying33 (by kernel_rfl) ?_
  refine eqf_cons (by rfl) (by go_simp; rfl) (by go_simp; rfl) (by go_simp) ?_
  exact eqf_last (by rfl) (by go_simp; rfl) (by go_simp; rfl) (by go_simp)
theorem eqA35 (d : Nat) (w : World) (x0 y0 : Int) (x1 y1 : Int) (x2 y2 : Int) (x3 y3 : Int) (x4 y4 : Int) (x5 y5 : Int) (x6 y6 : Int) :
    (Op.equalIn (d + 3) 35 (.agg #[.int .i64 x0, .int .i64 x1, .int .i64 x2, .int .i64 x3, .int .u32 x4, .int .u32 x5, .int .i64 x6]) (.agg #[.int .i64 y0, .int .i64 y1, .int .i64 y2, .int .i64 y3, .int .u32 y4, .int .u32 y5, .int .i64 y6])).run Try.prog w = .ok (x0 == y0 && (x1 == y1 && (x2 == y2 && (x3 == y3 && ((x4 == y4 && (x5 == y5)) && (x6 == y6)))))) w := by
  refine eqA_of Try.underlying35 (by kernel_rfl) ?_
  refine eqf_cons (by rfl) (by go_simp; rfl) (by go_simp; rfl) (by go_simp) ?_
  refine eqf_cons (by rfl) (by go_simp; rfl) (by go_simp; rfl) (by go_simp) ?_
  refine eqf_cons (by rfl) (by go_simp; rfl) (by go_simp; rfl) (by go_simp) ?_
  refine eqf_cons (by rfl) (by go_simp; rfl) (by go_simp; rfl) (by go_simp) ?_
  refine eqf_cons (by rfl) (by go_simp) (by go_simp) (eqA33 (d + 0) w _ _ _ _) ?_
  exact eqf_last (by rfl) (by go_simp; rfl) (by go_simp; rfl) (by go_simp)
theorem eqA37 (d : Nat) (w : World) (x0 y0 : Int) (x1 y1 : Int) (x2 y2 : Int) (x3 y3 : Int) (x4 y4 : Int) (x5 y5 : Int) (x6 y6 : Int) (x7 y7 : Int) :
    (Op.equalIn (d + 4) 37 (.agg #[.int .i64 x0, .int .i64 x1, .int .i64 x2, .int .i64 x3, .int .i64 x4, .int .u32 x5, .int .u32 x6, .int .i64 x7]) (.agg #[.int .i64 y0, .int .i64 y1, .int .i64 y2, .int .i64 y3, .int .i64 y4, .int .u32 y5, .int .u32 y6, .int .i64 y7])).run Try.prog w = .ok (x0 == y0 && ((x1 == y1 && (x2 == y2 && (x3 == y3 && (x4 == y4 && ((x5 == y5 && (x6 == y6)) && (x7 == y7)))))))) w := by
  refine eqA_of Try.underlying37 (by kernel_rfl) ?_
  refine eqf_cons (by rfl) (by go_simp; rfl) (by go_simp; rfl) (by go_simp) ?_
  exact eqf_last (by rfl) (by go_simp) (by go_simp) (eqA35 (d + 0) w _ _ _ _ _ _ _ _ _ _ _ _ _ _)
end Go.Proofs.Ytnbojemjaipnlaa.P
/-! ### Px2 -/
namespace Go.Proofs.Ytnbojemjaipnlaa.P
open Go.RowKit Go.Proofs.YtnbojemjaipnlaaW.PrintWords Go.Proofs.YtnbojemjaipnlaaW.PrintLast Go.Proofs.YtnbojemjaipnlaaW.PrintMore
set_option linter.unusedVariables false
set_option linter.unusedSimpArgs false
attribute [local go_sem high] eqA37
def waystoneref14_Same.l0 : Nat → List (S37) → List (S37) → Int → Option (Bool)
  | 0, _, _, _ => none
  | k + 1, x0, x1, x5 => if x5 < (x0.length : Int) then (if 0 ≤ x5 then (if x5 < (x1.length : Int) then (if (!(((rd_T37 x0 x5).f0) == ((rd_T37 x1 x5).f0)) || ((!(((rd_T37 x0 x5).f1.f0) == ((rd_T37 x1 x5).f1.f0)) || (!(((rd_T37 x0 x5).f1.f1) == ((rd_T37 x1 x5).f1.f1)) || (!(((rd_T37 x0 x5).f1.f2) == ((rd_T37 x1 x5).f1.f2)) || (!(((rd_T37 x0 x5).f1.f3) == ((rd_T37 x1 x5).f1.f3)) || ((!(((rd_T37 x0 x5).f1.f4.f0) == ((rd_T37 x1 x5).f1.f4.f0)) || (!(((rd_T37 x0 x5).f1.f4.f1) == ((rd_T37 x1 x5).f1.f4.f1)))) || (!(((rd_T37 x0 x5).f1.f5) == ((rd_T37 x1 x5).f1.f5)))))))))) = true then (some false) else (waystoneref14_Same.l0 k x0 x1 (wrap64 (x5 + 1)))) else (none)) else (none)) else (some true)
def waystoneref14_Same.f (k : Nat) (l0 : List (S37)) (l1 : List (S37)) : Option (Bool) := if (l0.length : Int) = (l1.length : Int) then (waystoneref14_Same.l0 k l0 l1 0) else (some false)
set_option maxHeartbeats 8000000 in
set_option maxRecDepth 100000 in
theorem waystoneref14_Same.calls (k : Nat) (A0 : Option Addr) (c0 : Nat) (l0 : List (S37)) (A1 : Option Addr) (c1 : Nat) (l1 : List (S37)) (r : Bool) (w : World) (hr0 : Kd.C k37 w A0 l0.length l0) (hc0 : l0.length ≤ c0) (hr1 : Kd.C k37 w A1 l1.length l1) (hc1 : l1.length ≤ c1) (h : waystoneref14_Same.f k l0 l1 = some r) :
    Calls Try.prog 14 #[.slice A0 l0.length c0, .slice A1 l1.length c1] w fun e w' => e = .returned (.bool r) ∧ Drawn0 w w' := by
  have hu37 := Try.underlying37
  have HR0 := Aside0.mk hr0
  have HC0 := Aside0.mk hc0
  clear hr0 hc0
  have HR1 := Aside0.mk hr1
  have HC1 := Aside0.mk hc1
  clear hr1 hc1
  have H : (if (l0.length : Int) = (l1.length : Int) then (waystoneref14_Same.l0 k l0 l1 0) else (some false)) = some r := h
  clear h
  by_cases c3 : (l0.length : Int) = (l1.length : Int)
  · rw [if_pos c3] at H
    have c3b0 : ((l0.length : Int) == (l1.length : Int)) = true := beq_iff_eq.mpr c3
    have c3b1 : ((l0.length : Int) != (l1.length : Int)) = false := bne_eq_false_iff_eq.mpr c3
    have c3b2 : (l0.length == l1.length) = true := by first | simpa using c3 | (simp at c3 ⊢; omega)
    clear c3
    have H' := Aside0.mk H
    clear H
    go_enter Try.func14, Try.ntmps14
    go_wp2
    repeat (go_quiet (fail); try go_wp2)
    go_loopg [5] k (fun kq v5 w' => ∃ (x5_1 : Int), v5 = .int .i64 x5_1 ∧ Aside0 (waystoneref14_Same.l0 kq l0 l1 x5_1 = some r) ∧ Aside0 (kq ≤ k) ∧ Drawn0 w w')
    case atStart => exact ⟨(0), (by first | rfl | (simp; done) | (simp [*]; done)), H', ⟨Nat.le_refl _⟩, by repeat (first | exact Drawn0.refl _ | apply Drawn0.step)⟩
    case round =>
      clear H'
      try clear c1
      try clear p2
      try clear c3
      try clear c3b0
      try clear c3b1
      try clear c3b2
      obtain ⟨x5_1, rfl, HA, HK1, ⟨m1, rfl⟩⟩ := hrel
      cases gk with
      | zero => exact absurd HA.out (by simp [waystoneref14_Same.l0])
      | succ k1 =>
        have H := HA.out
        clear HA
        simp only [waystoneref14_Same.l0] at H
        by_cases c4 : x5_1 < (l0.length : Int)
        · rw [if_pos c4] at H
          have c4b0 : decide (x5_1 < (l0.length : Int)) = true := decide_eq_true c4
          clear c4
          by_cases c5 : 0 ≤ x5_1
          · rw [if_pos c5] at H
            have c5b0 : decide (0 ≤ x5_1) = true := decide_eq_true c5
            clear c5
            by_cases c6 : x5_1 < (l1.length : Int)
            · rw [if_pos c6] at H
              have c6b0 : decide (x5_1 < (l1.length : Int)) = true := decide_eq_true c6
              clear c6
              by_cases c7 : (!(((rd_T37 l0 x5_1).f0) == ((rd_T37 l1 x5_1).f0)) || ((!(((rd_T37 l0 x5_1).f1.f0) == ((rd_T37 l1 x5_1).f1.f0)) || (!(((rd_T37 l0 x5_1).f1.f1) == ((rd_T37 l1 x5_1).f1.f1)) || (!(((rd_T37 l0 x5_1).f1.f2) == ((rd_T37 l1 x5_1).f1.f2)) || (!(((rd_T37 l0 x5_1).f1.f3) == ((rd_T37 l1 x5_1).f1.f3)) || ((!(((rd_T37 l0 x5_1).f1.f4.f0) == ((rd_T37 l1 x5_1).f1.f4.f0)) || (!(((rd_T37 l0 x5_1).f1.f4.f1) == ((rd_T37 l1 x5_1).f1.f4.f1)))) || (!(((rd_T37 l0 x5_1).f1.f5) == ((rd_T37 l1 x5_1).f1.f5)))))))))) = true
              · rw [if_pos c7] at H
                have c7b0 : (!(((rd_T37 l0 x5_1).f0) == ((rd_T37 l1 x5_1).f0)) || ((!(((rd_T37 l0 x5_1).f1.f0) == ((rd_T37 l1 x5_1).f1.f0)) || (!(((rd_T37 l0 x5_1).f1.f1) == ((rd_T37 l1 x5_1).f1.f1)) || (!(((rd_T37 l0 x5_1).f1.f2) == ((rd_T37 l1 x5_1).f1.f2)) || (!(((rd_T37 l0 x5_1).f1.f3) == ((rd_T37 l1 x5_1).f1.f3)) || ((!(((rd_T37 l0 x5_1).f1.f4.f0) == ((rd_T37 l1 x5_1).f1.f4.f0)) || (!(((rd_T37 l0 x5_1).f1.f4.f1) == ((rd_T37 l1 x5_1).f1.f4.f1)))) || (!(((rd_T37 l0 x5_1).f1.f5) == ((rd_T37 l1 x5_1).f1.f5)))))))))) = true := c7
                clear c7
                obtain rfl := Option.some.inj H
                have p107 : 0 ≤ (x5_1 : Int) := of_decide_eq_true (by first | (with_reducible assumption) | assumption)
                have q107 : x5_1 < (l0.length : Int) := of_decide_eq_true (by first | (with_reducible assumption) | assumption)
                obtain ⟨ad107, e107, hx107_0, hx107_1, hx107_2, hx107_3, hx107_4, hx107_5, hx107_6, hx107_7⟩ := at_T37 HR0.out x5_1 p107 q107
                cases e107
                replace p107 := eq_true p107
                replace q107 := eq_true q107
                have p108 : 0 ≤ (x5_1 : Int) := of_decide_eq_true (by first | (with_reducible assumption) | assumption)
                have q108 : x5_1 < (l1.length : Int) := of_decide_eq_true (by first | (with_reducible assumption) | assumption)
                obtain ⟨ad108, e108, hx108_0, hx108_1, hx108_2, hx108_3, hx108_4, hx108_5, hx108_6, hx108_7⟩ := at_T37 HR1.out x5_1 p108 q108
                cases e108
                replace p108 := eq_true p108
                replace q108 := eq_true q108
                go_wp2
                repeat (go_quiet (fail); try go_wp2)
                go_ret
                exact ⟨by first | rfl | (simp; done) | (simp [*]; done), by repeat (first | exact Drawn0.refl _ | apply Drawn0.step)⟩
              · rw [if_neg c7] at H
                have c7b0 : (!(((rd_T37 l0 x5_1).f0) == ((rd_T37 l1 x5_1).f0)) || ((!(((rd_T37 l0 x5_1).f1.f0) == ((rd_T37 l1 x5_1).f1.f0)) || (!(((rd_T37 l0 x5_1).f1.f1) == ((rd_T37 l1 x5_1).f1.f1)) || (!(((rd_T37 l0 x5_1).f1.f2) == ((rd_T37 l1 x5_1).f1.f2)) || (!(((rd_T37 l0 x5_1).f1.f3) == ((rd_T37 l1 x5_1).f1.f3)) || ((!(((rd_T37 l0 x5_1).f1.f4.f0) == ((rd_T37 l1 x5_1).f1.f4.f0)) || (!(((rd_T37 l0 x5_1).f1.f4.f1) == ((rd_T37 l1 x5_1).f1.f4.f1)))) || (!(((rd_T37 l0 x5_1).f1.f5) == ((rd_T37 l1 x5_1).f1.f5)))))))))) = false := by simpa using c7
                clear c7
                have H' := Aside0.mk H
                clear H
                have p107 : 0 ≤ (x5_1 : Int) := of_decide_eq_true (by first | (with_reducible assumption) | assumption)
                have q107 : x5_1 < (l0.length : Int) := of_decide_eq_true (by first | (with_reducible assumption) | assumption)
                obtain ⟨ad107, e107, hx107_0, hx107_1, hx107_2, hx107_3, hx107_4, hx107_5, hx107_6, hx107_7⟩ := at_T37 HR0.out x5_1 p107 q107
                cases e107
                replace p107 := eq_true p107
                replace q107 := eq_true q107
                have p108 : 0 ≤ (x5_1 : Int) := of_decide_eq_true (by first | (with_reducible assumption) | assumption)
                have q108 : x5_1 < (l1.length : Int) := of_decide_eq_true (by first | (with_reducible assumption) | assumption)
                obtain ⟨ad108, e108, hx108_0, hx108_1, hx108_2, hx108_3, hx108_4, hx108_5, hx108_6, hx108_7⟩ := at_T37 HR1.out x5_1 p108 q108
                cases e108
                replace p108 := eq_true p108
                replace q108 := eq_true q108
                go_wp2
                repeat (go_quiet (fail); try go_wp2)
                go_roundg k1
                case measure => have := HK1.out; omega
                case rel => exact ⟨(wrap64 (x5_1 + 1)), (by first | rfl | (simp; done) | (simp [*]; done)), H', ⟨by have := HK1.out; omega⟩, by repeat (first | exact Drawn0.refl _ | apply Drawn0.step)⟩
            · rw [if_neg c6] at H
              exact absurd H (by simp)
          · rw [if_neg c5] at H
            exact absurd H (by simp)
        · rw [if_neg c4] at H
          have c4b0 : decide (x5_1 < (l0.length : Int)) = false := decide_eq_false c4
          clear c4
          obtain rfl := Option.some.inj H
          go_wp2
          repeat (go_quiet (fail); try go_wp2)
          go_ret
          exact ⟨by first | rfl | (simp; done) | (simp [*]; done), by repeat (first | exact Drawn0.refl _ | apply Drawn0.step)⟩
  · rw [if_neg c3] at H
    have c3b0 : ((l0.length : Int) == (l1.length : Int)) = false := beq_eq_false_iff_ne.mpr c3
    have c3b1 : ((l0.length : Int) != (l1.length : Int)) = true := bne_iff_ne.mpr c3
    have c3b2 : (l0.length == l1.length) = false := by first | simpa using c3 | (simp at c3 ⊢; omega)
    obtain rfl := Option.some.inj H
    go_enter Try.func14, Try.ntmps14
    go_wp2
    repeat (go_quiet (fail); try go_wp2)
    go_ret
    exact ⟨by first | rfl | (simp; done) | (simp [*]; done), by repeat (first | exact Drawn0.refl _ | apply Drawn0.step)⟩
end Go.Proofs.Ytnbojemjaipnlaa.P
