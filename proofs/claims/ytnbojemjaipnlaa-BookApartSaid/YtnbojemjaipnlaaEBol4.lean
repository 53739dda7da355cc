/- Bol3, Bol4. -/
import Derived.Test.YtnbojemjaipnlaaEBol2
/-! ### Bol3 -/
namespace Go.Proofs.Ytnbojemjaipnlaa.H
open Go.RowKit Go.Proofs.Ytnbojemjaipnlaa.P Go.Proofs.YtnbojemjaipnlaaW.PrintWords Go.Proofs.YtnbojemjaipnlaaW.PrintLast Go.Proofs.YtnbojemjaipnlaaW.PrintMore
set_option linter.unusedVariables false
set_option linter.unusedSimpArgs false
set_option maxRecDepth 20000
theorem look_at {M : List (Int × Ses)} (h : RiseK M) {j : Nat} {k : Int} {s : Ses} (hj : M[j]? = some (k, s)) : lookM M k = some s := by
  induction M generalizing j with
  | nil => simp at hj
  | cons p M ih =>
    obtain ⟨a, v⟩ := p
    rw [lookM_cons]
    have hp := List.pairwise_cons.1 h
    cases j with
    | zero =>
      simp at hj
      obtain ⟨rfl, rfl⟩ := hj
      rw [if_pos rfl]
    | succ j =>
      rw [List.getElem?_cons_succ] at hj
      have := hp.1 _ (List.mem_of_getElem? hj)
      rw [if_neg (by dsimp only at this; omega)]
      exact ih hp.2 hj
theorem ints_at {w : World} {A : Option Addr} {n : Nat} {xs : List Int} (h : Kd.C (Kd.int .i64) w A n xs) {j : Nat} {x : Int} (hj : xs[j]? = some x) : ∃ ad, A = some ad ∧ w.cell? (ad.add j) = some (.int .i64 x) := by
  have hlt := (List.getElem?_eq_some_iff.1 hj).1
  obtain ⟨ad, e, h4⟩ := h.2.2 (by have := h.1; omega)
  obtain ⟨c, h5, h6, h7⟩ := h4 j x hj
  have e2 : c = [.int .i64 x] := h6
  subst e2
  have : w.cell? (ad.add (j * 1 + 0)) = some (.int .i64 x) := h7 0 _ rfl
  rw [Nat.mul_one, Nat.add_zero] at this
  exact ⟨ad, e, this⟩
theorem cell_keep {w w' : World} {a : Addr} {v : Value} (hb : Below w.heap.size w w') (h : w.cell? a = some v) : w'.cell? a = some v := by
  rw [World.cell?_of_block (w := w) (hb.block _ (block_lt_of_cell h))]
  exact h
set_option maxHeartbeats 4000000 in
theorem same_any (hb g mb : Nat) (M : List (Int × Ses)) (w : World) (hK : BookAt w hb g M) (hD : DocAt w mb M) (hG : GoodM M) :
    Calls Try.prog 8 #[.pointer (some ⟨hb, 0, none⟩), .pointer (some ⟨mb, 0, none⟩)] w fun e w' => e = .returned (.bool true) ∧ Below w.heap.size w w' := by
  have hl4 := good_len hG
  have HK := Aside0.mk hK
  have HD := Aside0.mk hD
  have HG := Aside0.mk hG
  have HL := Aside0.mk hl4
  have hut := Try.underlying28
  have hut2 := Try.underlying54
  have HS := Aside0.mk (sessions_any hb g M w hK (by omega))
  have hkl : (M.map (·.1)).length = M.length := List.length_map _
  rw [hkl] at HS
  clear hK hD hG hl4
  go_enter Try.func8, Try.ntmps8
  go_wp2_with fail
  refine HS.out.mono ?_
  rintro e w1 ⟨A, c, rfl, hc, hk, hb1⟩
  have HA := Aside0.mk hk
  have HB1 := Aside0.mk hb1
  have HC := Aside0.mk hc
  obtain ⟨v, R, h1, h2, h3⟩ := HD.out
  have hlen := h3.len
  obtain ⟨A0, cap0, rfl, hc0, hx0⟩ := ownD_slice h2
  rw [hlen] at h1
  have HM := Aside0.mk h1
  have c0 : w1.cell? ⟨mb, 0, none⟩ = some (.slice A0 M.length cap0) := blk_cell (blk_below h1 hb1) 0
  clear hk hb1 hc h1 h2 h3 hlen hc0 hx0 HS
  go_wp2_with fail
  go_loopw [6] (fun s6 wr => ∃ j : Nat, s6 = .int .i64 j ∧ j ≤ M.length ∧ Aside0 (Below w.heap.size w wr) ∧ Aside0 (Below w1.heap.size w1 wr)) (fun s6 _ => M.length - (intOf s6).toNat)
  case atStart => exact ⟨0, rfl, Nat.zero_le _, ⟨HB1.out⟩, ⟨Below.refl _ _⟩⟩
  case round =>
    obtain ⟨j, rfl, hj, HB, HBW⟩ := hrel
    have d0 : wr.cell? ⟨mb, 0, none⟩ = some (.slice A0 M.length cap0) := blk_cell (blk_below HM.out HB.out) 0
    by_cases hlt : j < M.length
    · have hltz : (j : Int) < (M.length : Int) := by omega
      have hy := List.getElem?_eq_getElem hlt
      generalize M[j] = y at hy
      obtain ⟨k, s⟩ := y
      have hks : (M.map (·.1))[j]? = some k := by rw [List.getElem?_map, hy]; rfl
      obtain ⟨ad, rfl, a0⟩ := ints_at (Kd.C_below HA.out HBW.out) hks
      have hmem := List.mem_of_getElem? hy
      have hki : i64 k := by have := HG.out.key _ hmem; unfold i64; dsimp only at this; omega
      have hs10 : s.2.length ≤ 10 := HG.out.few _ hmem
      have HSL := Aside0.mk hs10
      have hlk := look_at HG.out.up hy
      have hon := on_any hb g M k wr (HK.out.below HB.out) hki
      have hst := fun W (h : BookAt W hb g M) => staged_any hb g M k W h hki (fun s' hs' => by rw [hlk] at hs'; cases hs'; omega)
      rw [hlk] at hon
      simp only [hlk] at hst
      have her : errF (some s) = 0 := rfl
      rw [her] at hon
      simp only [her, Option.getD_some] at hon hst
      have HON := Aside0.mk hon
      have HST := Aside0.mk hst
      have HY := Aside0.mk hy
      have hw0 : wrap64 ((j : Int) + 1) = ((j + 1 : Nat) : Int) := by have := HL.out; unfold wrap64; omega
      have HW := Aside0.mk hw0
      clear hks hmem hki hs10 hlk hon hst hy hw0
      go_wp2_with fail
      refine HON.out.mono ?_
      rintro e w2 ⟨rfl, hb2⟩
      have HB2 := Aside0.mk (HB.out.trans (hb2.mono HB.out.size))
      have HBW2 := Aside0.mk (HBW.out.trans (hb2.mono HBW.out.size))
      have e0 := cell_keep hb2 a0
      clear hb2
      go_wp2_with fail
      refine (HST.out _ (HK.out.below HB2.out)).mono ?_
      rintro e w3 ⟨A3, c3, rfl, hc3, hr3, hb3⟩
      have HB3 := Aside0.mk (HB2.out.trans (hb3.mono HB2.out.size))
      have HBW3 := Aside0.mk (HBW2.out.trans (hb3.mono HBW2.out.size))
      obtain ⟨g3, cap3, Am, cm, x, hcap, hlt3, x0, x1, x2, hcm, hrm⟩ := (HD.out.below HB3.out).row HY.out
      have e1 := cell_keep hb3 e0
      have hd := below_drew (Below.refl w3.heap.size w3)
      have HSAME := Aside0.mk (sameE_any A3 Am c3 cm s.2 w3.drew (Kd.C_below hr3 hd) hc3 (Kd.C_below hrm hd) hcm (by have := HSL.out; omega))
      have f0 : w3.drew.cell? (ad.add j) = some (.int .i64 k) := e1
      have fx : w3.drew.cell? ⟨mb, 0, none⟩ = some (.slice (some ⟨g3, 0, none⟩) M.length cap3) := x
      have fx0 : w3.drew.cell? ⟨g3, j * 3, none⟩ = some (.int .i64 k) := x0
      have fx1 : w3.drew.cell? ⟨g3, j * 3 + 1, none⟩ = some (.string s.1) := x1
      have fx2 : w3.drew.cell? ⟨g3, j * 3 + 2, none⟩ = some (.slice Am s.2.length cm) := x2
      clear hb3 hc3 hr3 hcm hrm hd hlt3 d0
      go_wp2_with fail
      go_region_held3 (fun w' => w'.cell? (ad.add j) = some (.int .i64 k) ∧ w'.cell? ⟨mb, 0, none⟩ = some (.slice (some ⟨g3, 0, none⟩) M.length cap3) ∧ w'.cell? ⟨g3, j * 3, none⟩ = some (.int .i64 k) ∧ w'.cell? ⟨g3, j * 3 + 1, none⟩ = some (.string s.1) ∧ w'.cell? ⟨g3, j * 3 + 2, none⟩ = some (.slice Am s.2.length cm)) (first | assumption | go_keep) (first | (go_at_call 14; refine HSAME.out.mono ?_; rintro e w4 ⟨rfl, hb4⟩; have HB4 := Aside0.mk ((below_drew HB3.out).trans (hb4.mono HB3.out.size)); have HBW4 := Aside0.mk ((below_drew HBW3.out).trans (hb4.mono HBW3.out.size)); have p0 := cell_keep hb4 f0; have p1 := cell_keep hb4 fx; have p2 := cell_keep hb4 fx0; have p3 := cell_keep hb4 fx1; have p4 := cell_keep hb4 fx2; clear hb4))
      go_wp2_with fail
      go_roundw
      case rel => exact ⟨j + 1, by first | rfl | rw [HW.out] | go_num, by omega, HB4, HBW4⟩
      case measure => (try rw [HW.out]); simp only [intOf]; omega
    · have hltz : ¬ (j : Int) < (M.length : Int) := by omega
      clear hlt
      go_wp2_with fail
      go_ret
      exact ⟨rfl, HB.out⟩
end Go.Proofs.Ytnbojemjaipnlaa.H
/-! ### Bol4 -/
namespace Go.Proofs.Ytnbojemjaipnlaa.H
open Go.RowKit Go.Proofs.Ytnbojemjaipnlaa.P Go.Proofs.YtnbojemjaipnlaaW.PrintWords Go.Proofs.YtnbojemjaipnlaaW.PrintLast Go.Proofs.YtnbojemjaipnlaaW.PrintMore
set_option linter.unusedVariables false
set_option linter.unusedSimpArgs false
set_option maxRecDepth 20000
theorem acts_at {w : World} {A : Option Addr} {n : Nat} {xs : List ActR} (h : Kd.C kAct w A n xs) {j : Nat} {a : ActR} (hj : xs[j]? = some a) : ∃ ad, A = some ad ∧ w.cell? (ad.add (j * 11)) = some (.int .i64 a.k) ∧ w.cell? ⟨(ad.add (j * 11)).block, (ad.add (j * 11)).off + 1, none⟩ = some (.int .i64 a.n) ∧ w.cell? ⟨(ad.add (j * 11)).block, (ad.add (j * 11)).off + 2, none⟩ = some (.string a.nm) ∧ w.cell? ⟨(ad.add (j * 11)).block, (ad.add (j * 11)).off + 3, none⟩ = some (.int .i64 a.e.f0) ∧ w.cell? ⟨(ad.add (j * 11)).block, (ad.add (j * 11)).off + 4, none⟩ = some (.int .i64 a.e.f1.f0) ∧ w.cell? ⟨(ad.add (j * 11)).block, (ad.add (j * 11)).off + 5, none⟩ = some (.int .i64 a.e.f1.f1) ∧ w.cell? ⟨(ad.add (j * 11)).block, (ad.add (j * 11)).off + 6, none⟩ = some (.int .i64 a.e.f1.f2) ∧ w.cell? ⟨(ad.add (j * 11)).block, (ad.add (j * 11)).off + 7, none⟩ = some (.int .i64 a.e.f1.f3) ∧ w.cell? ⟨(ad.add (j * 11)).block, (ad.add (j * 11)).off + 8, none⟩ = some (.int .u32 a.e.f1.f4.f0) ∧ w.cell? ⟨(ad.add (j * 11)).block, (ad.add (j * 11)).off + 9, none⟩ = some (.int .u32 a.e.f1.f4.f1) ∧ w.cell? ⟨(ad.add (j * 11)).block, (ad.add (j * 11)).off + 10, none⟩ = some (.int .i64 a.e.f1.f5) := by
  have hlt := (List.getElem?_eq_some_iff.1 hj).1
  obtain ⟨ad, e, h4⟩ := h.2.2 (by have := h.1; omega)
  obtain ⟨c, h5, h6, h7⟩ := h4 j a hj
  obtain ⟨c1, c2, e1, h8, c3, c4, e2, h9, c5, c6, e3, h10, h11⟩ := h6
  have e4 : c1 = [.int .i64 a.k] := h8
  have e5 : c3 = [.int .i64 a.n] := h9
  have e6 : c5 = [.string a.nm] := h10
  have e7 := k37_open h11
  dsimp only at e7
  subst e4 e5 e6 e7 e3 e2 e1
  refine ⟨ad, e, ?_⟩
  have hq : ∀ (i : Nat) (u : Value), (acells a)[i]? = some u → w.cell? (ad.add (j * 11 + i)) = some u := fun i u hu => h7 i u hu
  have hadd : ∀ i, 0 < i → ad.add (j * 11 + i) = ⟨(ad.add (j * 11)).block, (ad.add (j * 11)).off + i, none⟩ := fun i hi => by
    unfold Addr.add
    rw [if_neg (by omega)]
    by_cases c : j * 11 = 0
    · rw [if_pos c, c, Nat.zero_add]
    · rw [if_neg c]
      simp [Nat.add_assoc]
  refine ⟨?_, ?_, ?_, ?_, ?_, ?_, ?_, ?_, ?_, ?_, ?_⟩
  · have := hq 0 _ rfl
    exact this
  all_goals (rw [← hadd _ (by decide)]; exact hq _ _ rfl)
structure Pair (w : World) (hb g mb : Nat) (M : List (Int × Ses)) (wr : World) : Prop where
  book : BookAt wr hb g M
  doc : DocAt wr mb M
  good : GoodM M
  low : w.heap.size ≤ g ∧ w.heap.size ≤ hb ∧ w.heap.size ≤ mb
  below : Below w.heap.size w wr
theorem Pair.act {w wr w' : World} {hb g mb : Nat} {M : List (Int × Ses)} {a : ActR} {e : Ending} (h : Pair w hb g mb M wr) (k : DoB wr hb g mb (doM M a) e w') : Pair w hb g mb (doM M a) w' := by
  obtain ⟨_, h1, h2, h3⟩ := k
  exact ⟨h1, h2, good_do h.good a, h.low, h3.below h.below (fun i hi => by rcases hi with rfl | rfl; exact h.low.1; exact h.low.2.2) (Nat.le_refl _)⟩
theorem Pair.on {w wr w' : World} {hb g mb : Nat} {M : List (Int × Ses)} (h : Pair w hb g mb M wr) (k : Below wr.heap.size wr w') : Pair w hb g mb M w' :=
  ⟨h.book.below k, h.doc.below k, h.good, h.low, h.below.trans (k.mono h.below.size)⟩
theorem new_pair {w w1 : World} {hb g : Nat} (h : BookAt w1 hb g []) (h1 : w.heap.size ≤ g) (h2 : w.heap.size ≤ hb) (h3 : Below w.heap.size w w1) : Pair w hb g w1.heap.size [] (w1.alloc (.cells #[.slice none 0 0] 28)) := by
  have hB := (Below.refl w1.heap.size w1).alloc (Nat.le_refl _) (.cells #[.slice none 0 0] 28)
  exact ⟨h.below hB, ⟨_, [], blk_new w1 _, ownD_nil _ _, .nil⟩, good_nil, ⟨h1, h2, h3.size⟩, h3.alloc h3.size _⟩
end Go.Proofs.Ytnbojemjaipnlaa.H
