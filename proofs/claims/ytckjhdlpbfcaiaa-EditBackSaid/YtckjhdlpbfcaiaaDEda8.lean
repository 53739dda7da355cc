/- Eda6, Eda7, Eda8. -/
import Derived.Test.YtckjhdlpbfcaiaaDEda5
import Derived.Laws.NewBlocks
import Derived.Laws.Rows
/-! ### Eda6 -/
namespace Go.Proofs.Ytckjhdlpbfcaiaa.H
open Go.RowKit Go.Proofs.Ytckjhdlpbfcaiaa.P Go.Proofs.YtckjhdlpbfcaiaaW.PrintWords Go.Proofs.YtckjhdlpbfcaiaaW.PrintLast Go.Proofs.YtckjhdlpbfcaiaaW.PrintMore
set_option linter.unusedVariables false
set_option linter.unusedSimpArgs false
set_option maxRecDepth 100000
theorem wpList_copy_run6 {P : Program} (w : World) {ops : Array Oper} {rest : List Oper} {o : Oper} {a : Act} {Q : Exit → Act → World → Prop} (hgd : o.guard = none) (d s : Operand) (t t' : TypeId)
    (ho : o.op = .call { callee := .builtin .copy, args := #[d, s], argTypes := #[t, t'] }) (v u : Value) (hd : a.eval d = v) (hs : a.eval s = u) {v' : Value} {w' : World}
    (hr : (Builtin.copy_ #[t, t'] o.type #[v, u]).run P w = .ok v' w') (h : wpList P ops Q rest (a.put o.dst v') w') : wpList P ops Q (o :: rest) a w := wpList_builtin_run4 w hgd d s t t' ho v u hd hs hr h
set_option maxHeartbeats 4000000 in
theorem ins_grow (B g cap i vb n : Nat) (l : List Rul) (r : Rul) (w : World) (hnl : l.length = n) (hown : OwnR B (.slice (some ⟨g, 0, none⟩) n cap) l w) (hv : w.heap[vb]? = some (.cells (rcells r).toArray 35 (0, 0))) (hi : i < n) (hlen : n ≤ 1000) (hroom : cap < n + 1) (hBw : B ≤ w.heap.size) :
    Calls Try.prog 45 #[.slice (some ⟨g, 0, none⟩) n cap, .int .i64 (i : Nat), .slice (some ⟨vb, 0, none⟩) 1 1] w fun e w' => ∃ v, e = .returned v ∧ OwnR B v (l.take i ++ r :: l.drop i) w' ∧ Below B w w' := by
  obtain ⟨cur, hBg, hb, hs, hn, hm, hcs⟩ := own_at hown
  obtain ⟨i0, hi0, hz0, hzs, hzb⟩ := info_parts info35
  have hsz : (Try.prog.info? 35).map (·.size) = some 7 := by rw [hi0]; simp [hzs]
  have hgw : g < w.heap.size := (Array.getElem?_eq_some_iff.1 hb).1
  have hvw : vb < w.heap.size := (Array.getElem?_eq_some_iff.1 hv).1
  have hkk : (n : Int) + 1 - (i : Int) = ((n + 1 - i : Nat) : Int) := by omega
  have hik : i + (n + 1 - i) = n + 1 := by omega
  have htl : (rflat (l.take i)).length = i * 7 := by rw [rflat_len, List.length_take]; omega
  have hdl : (rflat (l.drop i)).length = (n - i) * 7 := by rw [rflat_len, List.length_drop]; omega
  have hrl : (rcells r).length = 7 := rfl
  have he : rflat l = rflat (l.take i) ++ rflat (l.drop i) := by rw [← rflat_append, List.take_append_drop]
  have htake : ∀ (k : Nat) (u : Value), (rflat (l.take i))[k]? = some u → (rflat l)[k]? = some u := fun k u hu => by
    rw [he, List.getElem?_append_left (List.getElem?_eq_some_iff.1 hu).1]; exact hu
  have hdrop : ∀ (k : Nat) (u : Value), (rflat (l.drop i))[k]? = some u → (rflat l)[i * 7 + k]? = some u := fun k u hu => by
    rw [he, List.getElem?_append_right (by omega), htl, show i * 7 + k - i * 7 = k by omega]
    exact hu
  have hold : (Builtin.firstCells i0.size i (.slice (some ⟨g, 0, none⟩) i cap)).run Try.prog w.drew = .ok (rflat (l.take i)).toArray w.drew := by
    rw [hzs]
    refine run_firstCells_some w.drew 7 i ⟨g, 0, none⟩ i cap (rflat (l.take i)) htl (fun j v hj => ?_)
    rw [Addr.add_lit, blk_cell (blk_drew hb), Nat.zero_add]
    exact hcs _ _ (htake _ _ hj)
  have hZ : ∀ ty, (Builtin.append_ #[22, 3] ty #[.slice (some ⟨g, 0, none⟩) i cap, .int .i64 ((n : Int) + 1 - (i : Int))]).run Try.prog w =
      .ok (.slice (some ⟨w.heap.size, 0, none⟩) (n + 1) (grownCap w (n + 1) cap 35)) (w.drew.alloc (.cells ((rflat (l.take i)).toArray ++ Builtin.zeroCells (encR zR).cells (n + 1 - i) ++ Builtin.zeroCells (encR zR).cells (grownCap w (n + 1) cap 35 - (n + 1))) 35)) := fun ty => by
    have h := Lib.run_append_grow_zeros w 22 3 ty 35 i0 (encR zR) .i64 .i64 Try.underlying22 Try.underlying3 hi0 hz0 (some ⟨g, 0, none⟩) i cap (rflat (l.take i)) hold (n + 1 - i) (by omega) (by rw [hzs]; omega) (by omega) (by omega) (by rw [hzb]; omega) (by rw [hzb, hik]; exact growslice_fits (by omega) (by omega))
    rw [hik] at h
    rw [hkk]
    exact h
  obtain ⟨G, hG⟩ : ∃ G, G = grownCap w (n + 1) cap 35 := ⟨_, rfl⟩
  obtain ⟨ROW, hROW⟩ : ∃ ROW : Array Value, ROW = (rflat (l.take i)).toArray ++ Builtin.zeroCells (encR zR).cells (n + 1 - i) ++ Builtin.zeroCells (encR zR).cells (G - (n + 1)) := ⟨_, rfl⟩
  rw [← hG] at hZ
  rw [← hROW] at hZ
  have hGn : n + 1 ≤ G := by rw [hG]; exact grownCap_ge w _ _ _
  have hGm : G ≤ maxLen := by rw [hG]; exact grownCap_le_maxLen w (n + 1) cap _ (by unfold maxLen; omega)
  have hG63 : G ≤ 9223372036854775807 := by unfold maxLen at hGm; omega
  have hRl : ROW.size = G * 7 := by
    rw [hROW]
    have h7 : (encR zR).cells.size = 7 := rfl
    have hz : ∀ k, (Builtin.zeroCells (encR zR).cells k).size = k * 7 := fun k => by simp [Builtin.zeroCells, h7]
    simp only [Array.size_append, hz, List.size_toArray, htl]
    omega
  obtain ⟨N, hN⟩ : ∃ N, N = w.heap.size := ⟨_, rfl⟩
  obtain ⟨W1, hW1⟩ : ∃ W1, W1 = w.drew.alloc (.cells ROW 35) := ⟨_, rfl⟩
  have hrow : W1.heap[N]? = some (.cells ROW 35 (0, 0)) := by rw [hW1, hN]; exact blk_new w.drew _
  have hbg : W1.heap[g]? = some (.cells cur 35 (0, 0)) := by
    rw [hW1]; exact blk_below (blk_drew hb) ((Below.refl w.heap.size w.drew).alloc (Nat.le_refl _) _)
  have hbv : W1.heap[vb]? = some (.cells (rcells r).toArray 35 (0, 0)) := by
    rw [hW1]; exact blk_below (blk_drew hv) ((Below.refl w.heap.size w.drew).alloc (Nat.le_refl _) _)
  have hB1 : Below B w W1 := by rw [hW1]; exact (below_drew (Below.refl B w)).alloc hBw _
  rw [← hW1, ← hN] at hZ
  have hBN : B ≤ N := by omega
  have hgN : g ≠ N := by omega
  have hvN : vb ≠ N := by omega
  have hcpA : ∀ ty dc, (Builtin.copy_ #[22, 22] ty #[.slice (some ⟨N, i * 7, none⟩) (n + 1 - i) dc, .slice (some ⟨vb, 0, none⟩) 1 1]).run Try.prog W1 = .ok (goInt 1) (W1.setCells N (i * 7) (rcells r)) := fun ty dc =>
    run_copy_rows W1 _ _ ty 35 N (i * 7) (n + 1 - i) dc ⟨vb, 0, none⟩ 1 1 1 7 (rcells r) Try.underlying22 hsz (by simp only [Nat.min_def]; split <;> omega) rfl
      (fun j v hj => by rw [Addr.add_lit, blk_cell hbv, Nat.zero_add, List.getElem?_toArray]; exact hj)
      (fun j hj => by rw [blk_cell hrow, Array.getElem?_eq_getElem (by omega)]; rfl) (fun j hj => blk_frozen hrow _) (rcells_one r)
  obtain ⟨W2, hW2⟩ : ∃ W2, W2 = W1.setCells N (i * 7) (rcells r) := ⟨_, rfl⟩
  have hrow2 : W2.heap[N]? = some (.cells (laidAt ROW (i * 7) (rcells r)) 35 (0, 0)) := by rw [hW2]; exact setCells_laid _ _ hrow
  have hbg2 : W2.heap[g]? = some (.cells cur 35 (0, 0)) := by rw [hW2]; exact (heap_setCells_ne hgN (rcells r) (i * 7) W1).trans hbg
  have hB2 : Below B w W2 := by rw [hW2]; exact below_cells hBN (rcells r) (i * 7) hB1
  rw [← hW2] at hcpA
  have hcpB : ∀ ty dc sc, (Builtin.copy_ #[22, 22] ty #[.slice (some ⟨N, (i + 1) * 7, none⟩) (n + 1 - (i + 1)) dc, .slice (some ⟨g, i * 7, none⟩) (n - i) sc]).run Try.prog W2.drew = .ok (goInt ((n - i : Nat) : Int)) (W2.drew.setCells N ((i + 1) * 7) (rflat (l.drop i))) := fun ty dc sc =>
    run_copy_rows W2.drew _ _ ty 35 N ((i + 1) * 7) (n + 1 - (i + 1)) dc ⟨g, i * 7, none⟩ (n - i) sc (n - i) 7 (rflat (l.drop i)) Try.underlying22 hsz (by simp only [Nat.min_def]; split <;> omega) hdl
      (fun j v hj => by rw [Addr.add_lit, blk_cell (blk_drew hbg2)]; exact hcs _ _ (hdrop _ _ hj))
      (fun j hj => by rw [blk_cell (blk_drew hrow2), Array.getElem?_eq_getElem (by rw [laidAt_size]; omega)]; rfl) (fun j hj => blk_frozen (blk_drew hrow2) _) (rflat_one _)
  obtain ⟨W3, hW3⟩ : ∃ W3, W3 = W2.drew.setCells N ((i + 1) * 7) (rflat (l.drop i)) := ⟨_, rfl⟩
  have hrow3 : W3.heap[N]? = some (.cells (laidAt (laidAt ROW (i * 7) (rcells r)) ((i + 1) * 7) (rflat (l.drop i))) 35 (0, 0)) := by rw [hW3]; exact setCells_laid _ _ (blk_drew hrow2)
  have hB3 : Below B w W3 := by rw [hW3]; exact below_cells hBN (rflat (l.drop i)) ((i + 1) * 7) (below_drew hB2)
  rw [← hW3] at hcpB
  have hll : (l.take i ++ r :: l.drop i).length = n + 1 := by simp; omega
  have HF := Aside0.mk (show OwnR B (.slice (some ⟨N, 0, none⟩) (n + 1) G) (l.take i ++ r :: l.drop i) W3 from by
    rw [← hll]
    refine own_of hBN hrow3 (by rw [laidAt_size, laidAt_size]; exact hRl) (by rw [hll]; exact hGn) hGm (ins_cells (by omega) ?_ ?_ ?_)
    · intro k u hu
      have hk := (List.getElem?_eq_some_iff.1 hu).1
      rw [laidAt_other _ _ _ _ (.inl (by omega)), laidAt_other _ _ _ _ (.inl (by omega)), hROW, Array.append_assoc, Array.getElem?_append_left (by simp; omega), List.getElem?_toArray]
      exact hu
    · intro k u hu
      have hk := (List.getElem?_eq_some_iff.1 hu).1
      rw [laidAt_other _ _ _ _ (.inl (by omega))]
      exact laidAt_at _ _ _ _ _ (by omega) hu
    · intro k u hu
      exact laidAt_at _ _ _ _ _ (by rw [laidAt_size]; omega) hu)
  have HB3 := Aside0.mk hB3
  have HZ := Aside0.mk hZ
  have HA := Aside0.mk hcpA
  have HBB := Aside0.mk hcpB
  have hGi : ¬ (G = i) := by omega
  have hGim : ¬ (G = i + 1) := by omega
  have hci : ¬ (cap = i) := by omega
  have hz2 : ¬ ((i : Int) = (n : Int)) := by omega
  have hz3 : (cap : Int) < (n : Int) + 1 := by omega
  have hz4 : n ≤ cap := by omega
  have hz5 : (i : Int) ≤ (cap : Int) := by omega
  have hz6 : (n : Int) ≤ (cap : Int) := by omega
  have hii : ((i : Int) == (n : Int)) = false := by rw [beq_eq_false_iff_ne]; omega
  have hb1 : (0 : Int) ≤ (i : Int) + 1 := by omega
  have hin : i ≤ n := by omega
  have htn : ((i : Int) + 1).toNat = i + 1 := by omega
  have hb3 : (i : Int) ≤ (n : Int) := by omega
  have hb5 : (i : Int) + 1 ≤ (G : Int) := by omega
  have hb6 : (i : Int) ≤ (G : Int) := by omega
  have H8 := Aside0.mk (show IntKind.i64.wrap ((i : Int) + 1) = (i : Int) + 1 from by rw [i64_w]; exact wrap_of4 (by omega) (by omega))
  clear hkk hik hold hROW hG hRl hdl htl he htake hdrop hrl hll hB3 hB2 hB1 hown hBg hb hs hn hm hcs hv hZ hcpA hcpB hrow hrow2 hrow3 hbg hbg2 hbv hW1 hW2 hW3 hlen hnl hN
  go_enter Try.func45, Try.ntmps45
  go_wp2_with (first
    | (at_builtin; refine Lib.wpList_append_run _ rfl (.tmp 34) (.tmp 39) 22 3 rfl (.slice (some ⟨g, 0, none⟩) i cap) (.int .i64 ((n : Int) + 1 - (i : Int))) rfl rfl _ _ (HZ.out _) ?_)
    | (refine wpList_copy_run6 _ rfl (.tmp 43) (.tmp 44) 22 22 rfl (.slice (some ⟨N, i * 7, none⟩) (n + 1 - i) (G - i)) (.slice (some ⟨vb, 0, none⟩) 1 1) rfl rfl (HA.out _ _) ?_))
  have h8 := H8.out
  go_region_law (refine step_copy_run4 (P := Try.prog) rfl (.tmp 50) (.tmp 53) 22 22 rfl (.slice (some ⟨N, (i + 1) * 7, none⟩) (n + 1 - (i + 1)) (G - (i + 1))) (.slice (some ⟨g, i * 7, none⟩) (n - i) (cap - i)) (by simp [Act.eval, Act.put]) (by simp [Act.eval, Act.put]) (HBB.out 3 (G - (i + 1)) (cap - i)) ?_)
  go_wp2_with fail
  go_ret
  exact ⟨_, rfl, HF.out, HB3.out⟩
end Go.Proofs.Ytckjhdlpbfcaiaa.H
/-! ### Eda7 -/
namespace Go.Proofs.Ytckjhdlpbfcaiaa.H
open Go.RowKit Go.Proofs.Ytckjhdlpbfcaiaa.P Go.Proofs.YtckjhdlpbfcaiaaW.PrintWords Go.Proofs.YtckjhdlpbfcaiaaW.PrintLast Go.Proofs.YtckjhdlpbfcaiaaW.PrintMore
set_option linter.unusedVariables false
set_option linter.unusedSimpArgs false
set_option maxRecDepth 100000
theorem own_cases {w : World} {B : Nat} {v : Value} {l : List Rul} (h : OwnR B v l w) : (v = .slice none 0 0 ∧ l = []) ∨ ∃ g cap, v = .slice (some ⟨g, 0, none⟩) l.length cap ∧ B ≤ g ∧ g < w.heap.size ∧ l.length ≤ cap ∧ cap ≤ maxLen := by
  obtain ⟨h1, ⟨e, h2⟩ | ⟨g, cap, cur, e, h2, h3, h4, h5, h6, h7⟩⟩ := h
  · left
    refine ⟨e, ?_⟩
    have := rflat_len l
    rw [h2] at this
    exact List.eq_nil_of_length_eq_zero (by simp at this; omega)
  · exact .inr ⟨g, cap, e, h2, (Array.getElem?_eq_some_iff.1 h3).1, h4, h5⟩
theorem own_base {w : World} {B B' : Nat} {v : Value} {l : List Rul} (h : OwnR B v l w) (hB : B' ≤ B) : OwnR B' v l w := by
  obtain ⟨h1, ⟨e, h2⟩ | ⟨g, cap, cur, e, h2, h3, h4, h5, h6, h7⟩⟩ := h
  · exact ⟨h1, .inl ⟨e, h2⟩⟩
  · exact ⟨h1, .inr ⟨g, cap, cur, e, Nat.le_trans hB h2, h3, h4, h5, h6, h7⟩⟩
theorem own_below {w w' : World} {B : Nat} {v : Value} {l : List Rul} (h : OwnR B v l w) (hb : Below w.heap.size w w') : OwnR B v l w' := by
  obtain ⟨h1, ⟨e, h2⟩ | ⟨g, cap, cur, e, h2, h3, h4, h5, h6, h7⟩⟩ := h
  · exact ⟨h1, .inl ⟨e, h2⟩⟩
  · exact ⟨h1, .inr ⟨g, cap, cur, e, h2, blk_below h3 hb, h4, h5, h6, h7⟩⟩
theorem own_nil (B : Nat) (w : World) : OwnR B (.slice none 0 0) [] w := ⟨rfl, .inl ⟨rfl, rfl⟩⟩
theorem ins_any (B i vb : Nat) (v : Value) (l : List Rul) (r : Rul) (w : World) (hown : OwnR B v l w) (hv : w.heap[vb]? = some (.cells (rcells r).toArray 35 (0, 0))) (hne : ∀ g n c, v = .slice (some ⟨g, 0, none⟩) n c → vb ≠ g) (hi : i ≤ l.length) (hlen : l.length ≤ 1000) (hBw : B ≤ w.heap.size) :
    Calls Try.prog 45 #[v, .int .i64 (i : Nat), .slice (some ⟨vb, 0, none⟩) 1 1] w fun e w' => ∃ v', e = .returned v' ∧ OwnR B v' (l.take i ++ r :: l.drop i) w' ∧ Below B w w' := by
  rcases own_cases hown with ⟨rfl, rfl⟩ | ⟨g, cap, rfl, h1, h2, h3, h4⟩
  · obtain rfl : i = 0 := by simpa using hi
    have := ins_end B 0 0 vb none [] r w rfl hown hv (by omega) hBw (by omega)
    exact this
  · by_cases h : i = l.length
    · subst h
      have := ins_end B l.length cap vb (some ⟨g, 0, none⟩) l r w rfl hown hv hlen hBw h3
      rw [List.take_length, List.drop_length]
      exact this
    · by_cases hr : l.length + 1 ≤ cap
      · exact ins_room B g cap i vb l r w hown hv (hne _ _ _ rfl) (by omega) hlen hr (by unfold maxLen at h4; omega)
      · exact ins_grow B g cap i vb l.length l r w rfl hown hv (by omega) hlen (by omega) hBw
def DoneR (L : List Rul) (k : Int) (B : Nat) (w : World) (e : Ending) (w' : World) : Prop := ∃ v, e = .returned (.tuple #[v, .int .i64 k]) ∧ OwnR B v L w' ∧ Below B w w'
theorem boxed (r : Rul) (w : World) : Below w.heap.size w (w.alloc (.cells #[.int .i64 r.f0, .int .i64 r.f1, .int .i64 r.f2, .int .i64 r.f3, .int .u32 r.f4.f0, .int .u32 r.f4.f1, .int .i64 r.f5] 35)) := (Below.refl w.heap.size w).alloc (Nat.le_refl _) _
set_option maxHeartbeats 4000000 in
theorem does2_any (A : Option Addr) (c : Nat) (l : List Rul) (r : Rul) (i : Nat) (is : Bool) (w : World) (hr : Kd.C k35 w A l.length l) (hc : l.length ≤ c) (hl : l.length * 48 ≤ 140737488355328) (hi : is = true → i < l.length) :
    Calls Try.prog 46 #[.slice A l.length c, encR r, .int .i64 (i : Nat), .bool is] w (DoneR (if is = true then l.take i ++ l.drop (i + 1) else []) (if is = true then 0 else 143) w.heap.size w) := by
  have HB := Aside0.mk (boxed r w)
  unfold encR
  cases is with
  | false =>
    clear hr hi
    go_enter Try.func46, Try.ntmps46
    go_wp2_with fail
    go_ret2
    exact ⟨_, rfl, own_nil _ _, HB.out⟩
  | true =>
    have hi := hi rfl
    have hcl := cloneR_any A c l _ (Kd.C_below hr HB.out) hc hl
    have hw1 : wrap64 ((i : Int) + 1) = ((i + 1 : Nat) : Int) := by unfold wrap64; omega
    clear hr
    have HI := Aside0.mk hi
    have HW := Aside0.mk hw1
    clear hi hw1 hl hc
    go_enter Try.func46, Try.ntmps46
    go_wp2_with fail
    refine hcl.mono ?_
    rintro e w2 ⟨v, rfl, ho, hb⟩
    have HB2 := Aside0.mk (HB.out.trans (hb.mono HB.out.size))
    have HS := Aside0.mk hb.size
    have HS1 := Aside0.mk HB.out.size
    rcases own_cases ho with ⟨e1, e2⟩ | ⟨g, cap, e1, h1, h2, h3, h4⟩
    · have := HI.out
      rw [e2] at this
      simp at this
    · subst e1
      have hd := del_any _ g cap i (i + 1) l w2 ho HI.out rfl HS.out (by unfold maxLen at h4; omega)
      clear hcl hb ho h1 h2 h3 h4
      have hw1 := HW.out
      go_wp2_with fail
      (try rw [hw1])
      refine hd.mono ?_
      rintro e w3 ⟨v, rfl, ho, hb⟩
      have HO := Aside0.mk (own_base ho HS1.out)
      have HB3 := Aside0.mk (HB2.out.trans (hb.mono HS1.out))
      clear hd hb ho hw1
      go_wp2_with fail
      go_ret2
      exact ⟨_, rfl, HO.out, HB3.out⟩
end Go.Proofs.Ytckjhdlpbfcaiaa.H
/-! ### Eda8 -/
namespace Go.Proofs.Ytckjhdlpbfcaiaa.H
open Go.RowKit Go.Proofs.Ytckjhdlpbfcaiaa.P Go.Proofs.YtckjhdlpbfcaiaaW.PrintWords Go.Proofs.YtckjhdlpbfcaiaaW.PrintLast Go.Proofs.YtckjhdlpbfcaiaaW.PrintMore
set_option linter.unusedVariables false
set_option linter.unusedSimpArgs false
set_option maxRecDepth 100000
theorem set_cells {cur : Array Value} {i : Nat} {l : List Rul} {r : Rul} (hi : i < l.length) (hs : l.length * 7 ≤ cur.size) (hcs : ∀ (k : Nat) (u : Value), (rflat l)[k]? = some u → cur[k]? = some u) :
    ∀ (k : Nat) (u : Value), (rflat (l.set i r))[k]? = some u → (laidAt cur (i * 7) (rcells r))[k]? = some u := by
  intro k u hu
  have h7 : (rcells r).length = 7 := rfl
  obtain ⟨j, y, o, h1, h2, rfl⟩ := rflat_in _ k u hu
  have ho := (List.getElem?_eq_some_iff.1 h2).1
  have h7y : (rcells y).length = 7 := rfl
  rw [List.getElem?_set] at h1
  by_cases e : i = j
  · subst e
    rw [if_pos rfl, if_pos hi] at h1
    cases h1
    exact laidAt_at _ _ _ _ _ (by omega) h2
  · rw [if_neg e] at h1
    rw [laidAt_other _ _ _ _ (by omega)]
    exact hcs _ _ (rflat_at l j y h1 o u h2)
set_option maxHeartbeats 4000000 in
theorem does3_any (A : Option Addr) (c : Nat) (l : List Rul) (r : Rul) (i : Nat) (is : Bool) (w : World) (hr : Kd.C k35 w A l.length l) (hc : l.length ≤ c) (hl : l.length * 48 ≤ 140737488355328) (hi : is = true → i < l.length) :
    Calls Try.prog 48 #[.slice A l.length c, encR r, .int .i64 (i : Nat), .bool is] w (DoneR (if is = true then l.set i r else []) (if is = true then 0 else 143) w.heap.size w) := by
  have HB := Aside0.mk (boxed r w)
  have hu := Try.underlying35
  have hbx : (w.alloc (.cells #[.int .i64 r.f0, .int .i64 r.f1, .int .i64 r.f2, .int .i64 r.f3, .int .u32 r.f4.f0, .int .u32 r.f4.f1, .int .i64 r.f5] 35)).heap[w.heap.size]? = some (blkR r) := blk_new w _
  unfold encR
  cases is with
  | false =>
    clear hr hi hbx
    go_enter Try.func48, Try.ntmps48
    go_wp2_with fail
    go_ret2
    exact ⟨_, rfl, own_nil _ _, HB.out⟩
  | true =>
    have hi := hi rfl
    have hcl := cloneR_any A c l _ (Kd.C_below hr HB.out) hc hl
    clear hr
    have HI := Aside0.mk hi
    have HX := Aside0.mk hbx
    clear hi hbx hl hc
    go_enter Try.func48, Try.ntmps48
    go_wp2_with fail
    refine hcl.mono ?_
    rintro e w2 ⟨v, rfl, ho, hb⟩
    have HB2 := Aside0.mk (HB.out.trans (hb.mono HB.out.size))
    have HS1 := Aside0.mk HB.out.size
    rcases own_cases ho with ⟨e1, e2⟩ | ⟨g, cap, e1, h1, h2, h3, h4⟩
    · have := HI.out
      rw [e2] at this
      simp at this
    · subst e1
      obtain ⟨cur, hBg, hbk, hs, hn, hm, hcs⟩ := own_at ho
      have hx2 := blk_below HX.out hb
      have hlt : w.heap.size < g := by simp at hBg; omega
      clear ho
      have z0 := blk_cell hx2 0
      have z1 := blk_cell hx2 1
      have z2 := blk_cell hx2 2
      have z3 := blk_cell hx2 3
      have z4 := blk_cell hx2 4
      have z5 := blk_cell hx2 5
      have z6 := blk_cell hx2 6
      have fz : ∀ j, w2.frozen? ⟨g, j, none⟩ = false := fun j => blk_frozen hbk j
      obtain ⟨y, hy⟩ : ∃ y, l[i]? = some y := ⟨_, List.getElem?_eq_getElem HI.out⟩
      obtain ⟨s0, s1, s2, s3, s4, s5, s6⟩ := rowAt_cells hbk (fun o u hu => hcs _ _ (rflat_at l i y hy o u hu))
      have HE := Aside0.mk (setCells_laid (rcells r) (i * 7) hbk)
      have HN := Aside0.mk (below_cells (g := g) (by omega) (rcells r) (i * 7) HB2.out)
      have HF := Aside0.mk (show OwnR w.heap.size (.slice (some ⟨g, 0, none⟩) l.length cap) (l.set i r) (w2.setCells g (i * 7) (rcells r)) from by
        have e : (l.set i r).length = l.length := List.length_set
        rw [← e]
        exact own_of (by omega) HE.out (by rw [laidAt_size]; exact hs) (by rw [e]; exact hn) hm (set_cells HI.out (by omega) hcs))
      have hi1 : (i : Int) < (l.length : Int) := by have := HI.out; omega
      have hi2 : i < l.length := HI.out
      clear hcl hb hbk hs hn hm hcs hBg h1 h2 h3 h4 hx2 hy hlt
      go_wp2_with fail
      go_ret2
      exact ⟨_, rfl, HF.out, HN.out⟩
end Go.Proofs.Ytckjhdlpbfcaiaa.H
