/- Rul1. -/
import Derived.Test.YtkjighagiecbaaaGTopo4
import Derived.Test.YtkjighagiecbaaaGFatR
import Derived.Test.YtkjighagiecbaaaGBx1
import Derived.Lib.SliceRun
import Derived.Laws.IdiomCopy
import Derived.StillTailTactics
namespace Go.Proofs.Ytkjighagiecbaaa.H
open Go.RowKit Go.Proofs.Ytkjighagiecbaaa.P Go.Proofs.YtkjighagiecbaaaW.PrintWords Go.Proofs.YtkjighagiecbaaaW.PrintLast Go.Proofs.YtkjighagiecbaaaW.PrintMore
set_option linter.unusedVariables false
set_option linter.unusedSimpArgs false
set_option maxRecDepth 20000
def rcells (r : Rul) : List Value := [.int .i64 r.f0, .int .i64 r.f1, .int .i64 r.f2, .int .i64 r.f3, .int .u32 r.f4.f0, .int .u32 r.f4.f1, .int .i64 r.f5]
def RowAt (cs : Array Value) (t : Nat) (y : Rul) : Prop := ∀ i u, (rcells y)[i]? = some u → cs[t * 7 + i]? = some u
theorem C_blk {α : Type} {d : Kd α} {w : World} {b : Nat} {t : TypeId} {cs : Array Value} (hb : w.heap[b]? = some (.cells cs t (0, 0))) {xs : List α} (hn : xs.length ≤ 9223372036854775807)
    (h : ∀ j p, xs[j]? = some p → ∃ c, c.length = d.sz ∧ d.K w p c ∧ ∀ i u, c[i]? = some u → cs[j * d.sz + i]? = some u) : d.C w (some ⟨b, 0, none⟩) xs.length xs := by
  refine ⟨rfl, hn, fun _ => ⟨_, rfl, fun j p hj => ?_⟩⟩
  obtain ⟨c, h1, h2, h3⟩ := h j p hj
  refine ⟨c, h1, h2, fun i u hu => ?_⟩
  rw [add_plain, blk_cell hb]
  exact h3 i u hu
theorem rowC {w : World} {g : Nat} {t : TypeId} {cs : Array Value} {F : List Rul} (hb : w.heap[g]? = some (.cells cs t (0, 0))) (hn : F.length ≤ 9223372036854775807) (h : ∀ t y, F[t]? = some y → RowAt cs t y) :
    Kd.C k62 w (some ⟨g, 0, none⟩) F.length F :=
  C_blk hb hn fun j p hj => ⟨rcells p, rfl, k62_mk _ _, fun i u hu => h j p hj i u hu⟩
theorem rowAt_cells {w : World} {g : Nat} {t : TypeId} {cs : Array Value} {j : Nat} {y : Rul} (hb : w.heap[g]? = some (.cells cs t (0, 0))) (h : RowAt cs j y) :
    w.cell? ⟨g, j * 7, none⟩ = some (.int .i64 y.f0) ∧ w.cell? ⟨g, j * 7 + 1, none⟩ = some (.int .i64 y.f1) ∧ w.cell? ⟨g, j * 7 + 2, none⟩ = some (.int .i64 y.f2) ∧ w.cell? ⟨g, j * 7 + 3, none⟩ = some (.int .i64 y.f3) ∧ w.cell? ⟨g, j * 7 + 4, none⟩ = some (.int .u32 y.f4.f0) ∧ w.cell? ⟨g, j * 7 + 5, none⟩ = some (.int .u32 y.f4.f1) ∧ w.cell? ⟨g, j * 7 + 6, none⟩ = some (.int .i64 y.f5) := by
  refine ⟨?_, ?_, ?_, ?_, ?_, ?_, ?_⟩ <;> rw [blk_cell hb]
  · exact h 0 _ rfl
  · exact h 1 _ rfl
  · exact h 2 _ rfl
  · exact h 3 _ rfl
  · exact h 4 _ rfl
  · exact h 5 _ rfl
  · exact h 6 _ rfl
def IdxR (l : List Rul) (p : Rul → Bool) (e : Ending) : Prop :=
  (l.any p = false ∧ e = .returned (.int .i64 (-1))) ∨ (∃ (i : Nat) (y : Rul), i < l.length ∧ e = .returned (.int .i64 i) ∧ l[i]? = some y ∧ p y = true ∧ ∀ x ∈ l.take i, p x = false)
set_option maxHeartbeats 1000000 in
theorem idxR_any (A : Option Addr) (c : Nat) (l : List Rul) (p : Rul → Bool) (g : Nat) (lb : Array Value) (eg : ∀ args w, (callFunc g args).run Try.prog w = .ok (.enter g args) w) (w0 w : World)
    (hr : Kd.C k62 w A l.length l) (hl : l.length ≤ 9223372036854775807) (hp : PredB encR p g lb (fun _ => True) w0) (hb0 : Below w0.heap.size w0 w) :
    Calls Try.prog 63 #[.slice A l.length c, .func (.func g) #[] lb] w fun e w' => IdxR l p e ∧ Below w.heap.size w w' := by
  have HR := Aside0.mk hr
  have HB0 := Aside0.mk hb0
  clear hr hb0
  go_enter Try.func63, Try.ntmps63
  go_wp2
  go_loopg [5, 8] l.length (fun gg _ s8 wr => ∃ kk : Nat, kk ≤ l.length ∧ l.length - kk ≤ gg ∧ s8 = .int .i64 kk ∧ Aside0 (Below w.heap.size w wr) ∧ Aside0 (∀ x, x ∈ l.take kk → p x = false))
  case atStart => exact ⟨0, Nat.zero_le _, by omega, rfl, ⟨Below.refl _ w⟩, ⟨fun x hx => by simp at hx⟩⟩
  case round =>
    obtain ⟨kk, hkk, hg, rfl, BW, A0⟩ := hrel
    by_cases hlt : kk < l.length
    · have hltz : (kk : Int) < (l.length : Int) := by omega
      obtain ⟨ad, e, x0, x1, x2, x3, x4, x5, x6⟩ := at_T62 (Kd.C_below HR.out BW.out) (kk : Int) (by omega) (by omega)
      cases e
      rw [Int.toNat_natCast] at x0 x1 x2 x3 x4 x5 x6
      have HM := Aside0.mk (show l[kk]? = some (rd_T62 l (kk : Int)) ∧ l.take (kk + 1) = l.take kk ++ [rd_T62 l (kk : Int)] from by
        unfold rd_T62
        rw [Int.toNat_natCast, List.getD_eq_getElem?_getD, List.getElem?_eq_getElem hlt]
        exact ⟨rfl, by rw [List.take_succ_eq_append_getElem hlt]; rfl⟩)
      have hcall := hp wr (rd_T62 l (kk : Int)) trivial (HB0.out.trans (BW.out.mono HB0.out.size))
      clear hp
      generalize rd_T62 l (kk : Int) = y at *
      cases hq : p y with
      | true =>
        rw [hq] at hcall
        have HQ := Aside0.mk hq
        clear hq
        go_wp2_with fail
        refine hcall.mono ?_
        rintro e w' ⟨rfl, hb'⟩
        clear hcall
        go_wp2_with fail
        go_ret
        exact ⟨.inr ⟨kk, y, hlt, rfl, HM.out.1, HQ.out, A0.out⟩, BW.out.trans (hb'.mono BW.out.size)⟩
      | false =>
        rw [hq] at hcall
        have HQ := Aside0.mk hq
        clear hq
        go_wp2_with fail
        refine hcall.mono ?_
        rintro e w' ⟨rfl, hb'⟩
        clear hcall
        go_wp2_with fail
        go_roundg (l.length - (kk + 1))
        case measure => omega
        case rel =>
          refine ⟨kk + 1, by omega, by omega, by go_num, ⟨BW.out.trans (hb'.mono BW.out.size)⟩, ⟨fun x hx => ?_⟩⟩
          rw [HM.out.2, List.mem_append, List.mem_singleton] at hx
          rcases hx with hx | rfl
          · exact A0.out x hx
          · exact HQ.out
    · have hltz : ¬ (kk : Int) < (l.length : Int) := by omega
      obtain rfl : kk = l.length := by omega
      go_wp2
      go_ret
      exact ⟨.inl ⟨by
        rw [List.any_eq_false]
        intro x hx
        rw [A0.out x (by rw [List.take_length]; exact hx)]; simp, rfl⟩, BW.out⟩
end Go.Proofs.Ytkjighagiecbaaa.H
