/- slices.IndexFunc, ContainsFunc on numbers: walked (as in chapter 21). -/
import Derived.Test.YtpaknjmcjblahaaCNum8
import Derived.Test.YtpaknjmcjblahaaCReg
import Derived.Deep.LoopGhost
import Derived.Lib.SliceRun
import Derived.Laws.IdiomCopy
namespace Go.Proofs.Ytpaknjmcjblahaa.H
open Go.RowKit Go.Proofs.Ytpaknjmcjblahaa.P Go.Proofs.YtpaknjmcjblahaaW.PrintWords Go.Proofs.YtpaknjmcjblahaaW.PrintLast Go.Proofs.YtpaknjmcjblahaaW.PrintMore
set_option linter.unusedVariables false
set_option linter.unusedSimpArgs false
theorem enters' {f : FuncId} {fn : Func} {c : Code} (hf : Try.prog.funcs[f]? = some fn) (hname : (fn.name == "runtime.NumGoroutine") = false) (hb : fn.body = some c) : ∀ args w, (callFunc f args).run Try.prog w = .ok (.enter f args) w := by
  intro args w
  have h1 : fn.name ≠ "runtime.NumGoroutine" := by simpa using hname
  simp [callFunc, hf, h1, hb, go_sem]
structure GrewK (w w' : World) (k : Nat) : Prop where
  os : w'.os = w.os
  tape : w'.tape = w.tape
  output : w'.output = w.output
  size : w.heap.size ≤ w'.heap.size
  block : ∀ i, i < w.heap.size → i ≠ k → w'.heap[i]? = w.heap[i]?
theorem GrewK.refl (w : World) (k : Nat) : GrewK w w k := ⟨rfl, rfl, rfl, Nat.le_refl _, fun _ _ _ => rfl⟩
theorem GrewK.trans {w w1 w2 : World} {k : Nat} (h : GrewK w w1 k) (g : GrewK w1 w2 k) : GrewK w w2 k :=
  ⟨g.os.trans h.os, g.tape.trans h.tape, g.output.trans h.output, Nat.le_trans h.size g.size, fun i hi hk => (g.block i (Nat.lt_of_lt_of_le hi h.size) hk).trans (h.block i hi hk)⟩
theorem GrewK.of_below {w w1 : World} (h : Below w.heap.size w w1) (k : Nat) : GrewK w w1 k := ⟨h.os, h.tape, h.output, h.size, fun i hi _ => h.block i hi⟩
theorem GrewK.blk {w w1 : World} {k g : Nat} {o : Obj} (h : GrewK w w1 k) (hb : w.heap[g]? = some o) (hne : g ≠ k) : w1.heap[g]? = some o := (h.block g (blk_lt hb) hne).trans hb
theorem GrewK.below {w0 w w1 : World} {k B : Nat} (h : Below B w0 w) (g : GrewK w w1 k) (hk : B ≤ k) (hB : B ≤ w.heap.size) : Below B w0 w1 :=
  ⟨g.os.trans h.os, g.tape.trans h.tape, g.output.trans h.output, Nat.le_trans h.size g.size, fun i hi => (g.block i (by omega) (by omega)).trans (h.block i hi)⟩
def PredK (p : Int → Bool) (g : Nat) (lb : Array Value) (k : Nat) (w : World) : Prop :=
  ∀ W x, GrewK w W k → Calls Try.prog g (#[.int .i64 x] ++ lb) W fun e w' => e = .returned (.bool (p x)) ∧ Below W.heap.size W w'
def Idx2 (l : List Int) (p : Int → Bool) (e : Ending) : Prop :=
  (l.any p = false ∧ e = .returned (.int .i64 (-1))) ∨ (∃ (i : Nat) (y : Int), i < l.length ∧ e = .returned (.int .i64 i) ∧ l[i]? = some y ∧ p y = true ∧ ∀ x ∈ l.take i, p x = false)
set_option maxHeartbeats 1000000 in
theorem idxf_any (A : Option Addr) (c : Nat) (l : List Int) (p : Int → Bool) (g : Nat) (lb : Array Value) (k0 : Nat) (eg : ∀ args w, (callFunc g args).run Try.prog w = .ok (.enter g args) w) (w : World)
    (hr : Kd.C (Kd.int .i64) w A l.length l) (hl : l.length ≤ 9223372036854775807) (hp : PredK p g lb k0 w) :
    Calls Try.prog 66 #[.slice A l.length c, .func (.func g) #[] lb] w fun e w' => Idx2 l p e ∧ Below w.heap.size w w' := by
  have HR := Aside0.mk hr
  clear hr
  go_enter Try.func66, Try.ntmps66
  go_wp2
  go_loopg [5, 8] l.length (fun gg _ s8 wr => ∃ kk : Nat, kk ≤ l.length ∧ l.length - kk ≤ gg ∧ s8 = .int .i64 kk ∧ Aside0 (Below w.heap.size w wr) ∧ Aside0 (∀ x, x ∈ l.take kk → p x = false))
  case atStart => exact ⟨0, Nat.zero_le _, by omega, rfl, ⟨Below.refl _ w⟩, ⟨fun x hx => by simp at hx⟩⟩
  case round =>
    obtain ⟨kk, hkk, hg, rfl, BW, A0⟩ := hrel
    by_cases hlt : kk < l.length
    · have hltz : (kk : Int) < (l.length : Int) := by omega
      obtain ⟨ad, e, x0⟩ := (Kd.reads_of_C (d := (0 : Int)) (Kd.C_below HR.out BW.out)).at_ (kk : Int) (by omega) (by omega)
      cases e
      rw [Int.toNat_natCast] at x0
      have HM := Aside0.mk (show l[kk]? = some (rdOf 0 l (kk : Int)) ∧ l.take (kk + 1) = l.take kk ++ [rdOf 0 l (kk : Int)] from by
        unfold rdOf
        rw [Int.toNat_natCast, List.getD_eq_getElem?_getD, List.getElem?_eq_getElem hlt]
        exact ⟨rfl, by rw [List.take_succ_eq_append_getElem hlt]; rfl⟩)
      have hcall := hp wr (rdOf 0 l (kk : Int)) (GrewK.of_below BW.out _)
      clear hp
      generalize rdOf 0 l (kk : Int) = y at *
      cases hq : p y with
      | true =>
        rw [hq] at hcall
        have HQ := Aside0.mk hq
        clear hq
        go_wp2_with fail
        refine hcall.mono ?_
        rintro e w' ⟨rfl, hb'⟩
        clear hcall
        go_wp2_with fail
        go_ret
        exact ⟨.inr ⟨kk, y, hlt, rfl, HM.out.1, HQ.out, A0.out⟩, BW.out.trans (hb'.mono BW.out.size)⟩
      | false =>
        rw [hq] at hcall
        have HQ := Aside0.mk hq
        clear hq
        go_wp2_with fail
        refine hcall.mono ?_
        rintro e w' ⟨rfl, hb'⟩
        clear hcall
        go_wp2_with fail
        go_roundg (l.length - (kk + 1))
        case measure => omega
        case rel =>
          refine ⟨kk + 1, by omega, by omega, by go_num, ⟨BW.out.trans (hb'.mono BW.out.size)⟩, ⟨fun x hx => ?_⟩⟩
          rw [HM.out.2, List.mem_append, List.mem_singleton] at hx
          rcases hx with hx | rfl
          · exact A0.out x hx
          · exact HQ.out
    · have hltz : ¬ (kk : Int) < (l.length : Int) := by omega
      obtain rfl : kk = l.length := by omega
      go_wp2
      go_ret
      exact ⟨.inl ⟨by
        rw [List.any_eq_false]
        intro x hx
        rw [A0.out x (by rw [List.take_length]; exact hx)]; simp, rfl⟩, BW.out⟩
set_option maxHeartbeats 1000000 in
theorem cf_any (A : Option Addr) (c : Nat) (l : List Int) (p : Int → Bool) (g : Nat) (lb : Array Value) (k0 : Nat) (eg : ∀ args w, (callFunc g args).run Try.prog w = .ok (.enter g args) w) (w : World)
    (hr : Kd.C (Kd.int .i64) w A l.length l) (hl : l.length ≤ 9223372036854775807) (hp : PredK p g lb k0 w) :
    Calls Try.prog 59 #[.slice A l.length c, .func (.func g) #[] lb] w fun e w' => e = .returned (.bool (l.any p)) ∧ Below w.heap.size w w' := by
  have h := idxf_any A c l p g lb k0 eg w hr hl hp
  generalize hq : l.any p = q
  have HQ := Aside0.mk hq
  clear hq hp hr
  go_enter Try.func59, Try.ntmps59
  go_wp2_with fail
  refine h.mono ?_
  rintro e w' ⟨hd, hb⟩
  rcases hd with ⟨hd, rfl⟩ | ⟨i, y, hi, rfl, hd, hpy, _⟩
  · rw [HQ.out] at hd
    have HD := Aside0.mk hd
    clear hd h
    go_wp2_with fail
    go_ret
    exact ⟨by rw [HD.out]; rfl, hb⟩
  · have HD := Aside0.mk (show q = true from by
      rw [← HQ.out, List.any_eq_true]
      exact ⟨y, List.mem_of_getElem? hd, hpy⟩)
    have hi0 : (0 : Int) ≤ (i : Int) := by omega
    clear hd h hpy
    go_wp2_with fail
    go_ret
    exact ⟨by rw [HD.out]; rfl, hb⟩
end Go.Proofs.Ytpaknjmcjblahaa.H
