/- Cfi, Wir2, Wir3, Wir4. -/
import Derived.Test.YtpaknjmcjblahaaENumB1
import Derived.Test.YtpaknjmcjblahaaENumW1
import Derived.Deep.LoopGhost
import Derived.Lib.SliceRun
import Derived.Laws.IdiomCopy
import Derived.Test.YtpaknjmcjblahaaEWir1
/-! ### Cfi -/
namespace Go.Proofs.Ytpaknjmcjblahaa.H
open Go.RowKit Go.Proofs.Ytpaknjmcjblahaa.P Go.Proofs.YtpaknjmcjblahaaW.PrintWords Go.Proofs.YtpaknjmcjblahaaW.PrintLast Go.Proofs.YtpaknjmcjblahaaW.PrintMore
set_option linter.unusedVariables false
set_option linter.unusedSimpArgs false
theorem enters' {f : FuncId} {fn : Func} {c : Code} (hf : Try.prog.funcs[f]? = some fn) (hname : (fn.name == "runtime.NumGoroutine") = false) (hb : fn.body = some c) : ∀ args w, (callFunc f args).run Try.prog w = .ok (.enter f args) w := by
  intro args w
  have h1 : fn.name ≠ "runtime.NumGoroutine" := by simpa using hname
  simp [callFunc, hf, h1, hb, go_sem]
structure GrewK (w w' : World) (k : Nat) : Prop where
  os : w'.os = w.os
  tape : w'.tape = w.tape
  output : w'.output = w.output
  size : w.heap.size ≤ w'.heap.size
  block : ∀ i, i < w.heap.size → i ≠ k → w'.heap[i]? = w.heap[i]?
theorem GrewK.refl (w : World) (k : Nat) : GrewK w w k := ⟨rfl, rfl, rfl, Nat.le_refl _, fun _ _ _ => rfl⟩
theorem GrewK.trans {w w1 w2 : World} {k : Nat} (h : GrewK w w1 k) (g : GrewK w1 w2 k) : GrewK w w2 k :=
  ⟨g.os.trans h.os, g.tape.trans h.tape, g.output.trans h.output, Nat.le_trans h.size g.size, fun i hi hk => (g.block i (Nat.lt_of_lt_of_le hi h.size) hk).trans (h.block i hi hk)⟩
theorem GrewK.of_below {w w1 : World} (h : Below w.heap.size w w1) (k : Nat) : GrewK w w1 k := ⟨h.os, h.tape, h.output, h.size, fun i hi _ => h.block i hi⟩
theorem GrewK.blk {w w1 : World} {k g : Nat} {o : Obj} (h : GrewK w w1 k) (hb : w.heap[g]? = some o) (hne : g ≠ k) : w1.heap[g]? = some o := (h.block g (blk_lt hb) hne).trans hb
theorem GrewK.below {w0 w w1 : World} {k B : Nat} (h : Below B w0 w) (g : GrewK w w1 k) (hk : B ≤ k) (hB : B ≤ w.heap.size) : Below B w0 w1 :=
  ⟨g.os.trans h.os, g.tape.trans h.tape, g.output.trans h.output, Nat.le_trans h.size g.size, fun i hi => (g.block i (by omega) (by omega)).trans (h.block i hi)⟩
def PredK (p : Int → Bool) (g : Nat) (lb : Array Value) (k : Nat) (w : World) : Prop :=
  ∀ W x, GrewK w W k → Calls Try.prog g (#[.int .i64 x] ++ lb) W fun e w' => e = .returned (.bool (p x)) ∧ Below W.heap.size W w'
def Idx2 (l : List Int) (p : Int → Bool) (e : Ending) : Prop :=
  (l.any p = false ∧ e = .returned (.int .i64 (-1))) ∨ (∃ (i : Nat) (y : Int), i < l.length ∧ e = .returned (.int .i64 i) ∧ l[i]? = some y ∧ p y = true ∧ ∀ x ∈ l.take i, p x = false)
set_option maxHeartbeats 1000000 in
theorem idxf_any (A : Option Addr) (c : Nat) (l : List Int) (p : Int → Bool) (g : Nat) (lb : Array Value) (k0 : Nat) (eg : ∀ args w, (callFunc g args).run Try.prog w = .ok (.enter g args) w) (w : World)
    (hr : Kd.C (Kd.int .i64) w A l.length l) (hl : l.length ≤ 9223372036854775807) (hp : PredK p g lb k0 w) :
    Calls Try.prog 66 #[.slice A l.length c, .func (.func g) #[] lb] w fun e w' => Idx2 l p e ∧ Below w.heap.size w w' := by
  have HR := Aside0.mk hr
  clear hr
  go_enter Try.func66, Try.ntmps66
  go_wp2
  go_loopg [5, 8] l.length (fun gg _ s8 wr => ∃ kk : Nat, kk ≤ l.length ∧ l.length - kk ≤ gg ∧ s8 = .int .i64 kk ∧ Aside0 (Below w.heap.size w wr) ∧ Aside0 (∀ x, x ∈ l.take kk → p x = false))
  case atStart => exact ⟨0, Nat.zero_le _, by omega, rfl, ⟨Below.refl _ w⟩, ⟨fun x hx => by simp at hx⟩⟩
  case round =>
    obtain ⟨kk, hkk, hg, rfl, BW, A0⟩ := hrel
    by_cases hlt : kk < l.length
    · have hltz : (kk : Int) < (l.length : Int) := by omega
      obtain ⟨ad, e, x0⟩ := (Kd.reads_of_C (d := (0 : Int)) (Kd.C_below HR.out BW.out)).at_ (kk : Int) (by omega) (by omega)
      cases e
      rw [Int.toNat_natCast] at x0
      have HM := Aside0.mk (show l[kk]? = some (rdOf 0 l (kk : Int)) ∧ l.take (kk + 1) = l.take kk ++ [rdOf 0 l (kk : Int)] from by
        unfold rdOf
        rw [Int.toNat_natCast, List.getD_eq_getElem?_getD, List.getElem?_eq_getElem hlt]
        exact ⟨rfl, by rw [List.take_succ_eq_append_getElem hlt]; rfl⟩)
      have hcall := hp wr (rdOf 0 l (kk : Int)) (GrewK.of_below BW.out _)
      clear hp
      generalize rdOf 0 l (kk : Int) = y at *
      cases hq : p y with
      | true =>
        rw [hq] at hcall
        have HQ := Aside0.mk hq
        clear hq
        go_wp2_with fail
        refine hcall.mono ?_
        rintro e w' ⟨rfl, hb'⟩
        clear hcall
        go_wp2_with fail
        go_ret
        exact ⟨.inr ⟨kk, y, hlt, rfl, HM.out.1, HQ.out, A0.out⟩, BW.out.trans (hb'.mono BW.out.size)⟩
      | false =>
        rw [hq] at hcall
        have HQ := Aside0.mk hq
        clear hq
        go_wp2_with fail
        refine hcall.mono ?_
        rintro e w' ⟨rfl, hb'⟩
        clear hcall
        go_wp2_with fail
        go_roundg (l.length - (kk + 1))
        case measure => omega
        case rel =>
          refine ⟨kk + 1, by omega, by omega, by go_num, ⟨BW.out.trans (hb'.mono BW.out.size)⟩, ⟨fun x hx => ?_⟩⟩
          rw [HM.out.2, List.mem_append, List.mem_singleton] at hx
          rcases hx with hx | rfl
          · exact A0.out x hx
          · exact HQ.out
    · have hltz : ¬ (kk : Int) < (l.length : Int) := by omega
      obtain rfl : kk = l.length := by omega
      go_wp2
      go_ret
      exact ⟨.inl ⟨by
        rw [List.any_eq_false]
        intro x hx
        rw [A0.out x (by rw [List.take_length]; exact hx)]; simp, rfl⟩, BW.out⟩
set_option maxHeartbeats 1000000 in
theorem cf_any (A : Option Addr) (c : Nat) (l : List Int) (p : Int → Bool) (g : Nat) (lb : Array Value) (k0 : Nat) (eg : ∀ args w, (callFunc g args).run Try.prog w = .ok (.enter g args) w) (w : World)
    (hr : Kd.C (Kd.int .i64) w A l.length l) (hl : l.length ≤ 9223372036854775807) (hp : PredK p g lb k0 w) :
    Calls Try.prog 59 #[.slice A l.length c, .func (.func g) #[] lb] w fun e w' => e = .returned (.bool (l.any p)) ∧ Below w.heap.size w w' := by
  have h := idxf_any A c l p g lb k0 eg w hr hl hp
  generalize hq : l.any p = q
  have HQ := Aside0.mk hq
  clear hq hp hr
  go_enter Try.func59, Try.ntmps59
  go_wp2_with fail
  refine h.mono ?_
  rintro e w' ⟨hd, hb⟩
  rcases hd with ⟨hd, rfl⟩ | ⟨i, y, hi, rfl, hd, hpy, _⟩
  · rw [HQ.out] at hd
    have HD := Aside0.mk hd
    clear hd h
    go_wp2_with fail
    go_ret
    exact ⟨by rw [HD.out]; rfl, hb⟩
  · have HD := Aside0.mk (show q = true from by
      rw [← HQ.out, List.any_eq_true]
      exact ⟨y, List.mem_of_getElem? hd, hpy⟩)
    have hi0 : (0 : Int) ≤ (i : Int) := by omega
    clear hd h hpy
    go_wp2_with fail
    go_ret
    exact ⟨by rw [HD.out]; rfl, hb⟩
end Go.Proofs.Ytpaknjmcjblahaa.H
/-! ### Wir2 -/
namespace Go.Proofs.Ytpaknjmcjblahaa.H
open Go.RowKit Go.Proofs.Ytpaknjmcjblahaa.P Go.Proofs.YtpaknjmcjblahaaW.PrintWords Go.Proofs.YtpaknjmcjblahaaW.PrintLast Go.Proofs.YtpaknjmcjblahaaW.PrintMore
set_option linter.unusedVariables false
set_option linter.unusedSimpArgs false
set_option maxRecDepth 20000
def outB (most : Int) (x : Int) : Bool := decide (x < 0) || decide (most < x)
def allIn (most : Int) (l : List Int) : Bool := !l.any (outB most)
theorem wpred (most : Int) (bm : Nat) (w : World) (hm : w.heap[bm]? = some (.cells #[.int .i64 most] 3 (0, 0))) : PredK (outB most) 60 #[.pointer (some ⟨bm, 0, none⟩)] (bm + 1) w := by
  intro W x hW
  have hb := hW.blk hm (by omega)
  have c0 := blk_cell hb 0
  clear hb hm
  by_cases c1 : x < 0
  · have e : outB most x = true := by unfold outB; simp [c1]
    rw [e]
    have d1 : decide (x < 0) = true := decide_eq_true c1
    go_enter Try.func60, Try.ntmps60
    go_wp2_with fail
    go_ret
    exact ⟨rfl, Below.refl _ _⟩
  · by_cases c2 : most < x
    · have e : outB most x = true := by unfold outB; simp [c2]
      rw [e]
      have d1 : decide (x < 0) = false := decide_eq_false c1
      have d2 : decide (most < x) = true := decide_eq_true c2
      go_enter Try.func60, Try.ntmps60
      go_wp2_with fail
      go_ret
      exact ⟨rfl, Below.refl _ _⟩
    · have e : outB most x = false := by unfold outB; simp [c1, c2]
      rw [e]
      have d1 : decide (x < 0) = false := decide_eq_false c1
      have d2 : decide (most < x) = false := decide_eq_false c2
      go_enter Try.func60, Try.ntmps60
      go_wp2_with fail
      go_ret
      exact ⟨rfl, Below.refl _ _⟩
set_option maxHeartbeats 2000000 in
theorem within_any (most : Int) (A : Option Addr) (c : Nat) (l : List Int) (w : World) (hC : Kd.C (Kd.int .i64) w A l.length l) :
    Calls Try.prog 39 #[.int .i64 most, .slice A l.length c] w fun e w' => e = .returned (.bool (allIn most l)) ∧ Below w.heap.size w w' := by
  have hl := Kd.C_max hC
  have HB := Aside0.mk ((Below.refl w.heap.size w).alloc (Nat.le_refl _) (.cells #[.int .i64 most] 3))
  have HP := wpred most w.heap.size (w.alloc (.cells #[.int .i64 most] 3)) (blk_new w _)
  have hcf := cf_any A c l (outB most) 60 #[.pointer (some ⟨w.heap.size, 0, none⟩)] (w.heap.size + 1) (enters' Try.func60 (by kernel_rfl) rfl) (w.alloc (.cells #[.int .i64 most] 3)) (Kd.C_alloc hC _) hl HP
  have HA := Aside0.mk (show allIn most l = !l.any (outB most) from rfl)
  generalize allIn most l = r at *
  generalize l.any (outB most) = q at *
  rw [HA.out]
  clear hC HP hl
  go_enter Try.func39, Try.ntmps39
  go_wp2_with fail
  refine hcf.mono ?_
  rintro e w1 ⟨rfl, hb⟩
  have HB1 := Aside0.mk (HB.out.trans (hb.mono HB.out.size))
  clear hcf hb
  go_wp2_with fail
  go_ret
  exact ⟨rfl, HB1.out⟩
end Go.Proofs.Ytpaknjmcjblahaa.H
/-! ### Wir3 -/
namespace Go.Proofs.Ytpaknjmcjblahaa.H
open Go.RowKit Go.Proofs.Ytpaknjmcjblahaa.P Go.Proofs.YtpaknjmcjblahaaW.PrintWords Go.Proofs.YtpaknjmcjblahaaW.PrintLast Go.Proofs.YtpaknjmcjblahaaW.PrintMore
set_option linter.unusedVariables false
set_option linter.unusedSimpArgs false
set_option maxRecDepth 20000
def RT (W : World) (g : Nat) (m : Mc) : Prop := ∃ B d b i, RM W g B d b i m.bad ∧ b.drop i = m.rest ∧ bytes b ∧ BL B b.length g
theorem Keep2.grown {g : Nat} {a b : World} (h : a.grownBy b (some g)) : Keep2 g g a b := ⟨h.os, h.tape, h.output, h.size, fun k hk h1 _ => h.block k hk (fun e => h1 (Option.some.inj e))⟩
theorem RT.below {W W' : World} {g : Nat} {m : Mc} (h : RT W g m) (hb : Below W.heap.size W W') : RT W' g m := by
  obtain ⟨B, d, b, i, ⟨h1, h2, h3, h4⟩, h5, h6, h7⟩ := h
  exact ⟨B, d, b, i, ⟨blk_below h1 hb, h2, h3, Kd.C_below h4 hb⟩, h5, h6, h7⟩
set_option maxHeartbeats 2000000 in
theorem refN_any (g : Nat) (m : Mc) (most : Int) (h0 : 0 ≤ most) (h1 : most ≤ 4294967295) (w : World) (k : RT w g m) :
    Calls Try.prog 35 #[.pointer (some ⟨g, 0, none⟩), .int .i64 most] w fun e w' => e = .returned (.int .i64 (numM most m).1) ∧ RT w' g (numM most m).2 ∧ Keep2 g g w w' := by
  obtain ⟨l0, bd⟩ := m
  have hw : IntKind.u64.wrap most = most := by simp [IntKind.wrap, IntKind.bits, IntKind.signed]; omega
  obtain ⟨B, d, b, i, hRM, hdr, hby, hbl⟩ := k
  simp only [] at hRM hdr
  have hc := refnumber_any g B d b i bd most w hRM hby h0
  rw [hdr] at hc
  have HBY := Aside0.mk hby
  have HBL := Aside0.mk hbl
  clear hbl
  have HDR := Aside0.mk hdr
  have HNM := Aside0.mk (show numM most ⟨l0, bd⟩ = if (nextS l0).2 ≠ 0 ∧ (nextS l0).1 ≤ most then ((nextS l0).1, ⟨l0.drop (nextS l0).2, bd⟩) else (0, ⟨l0, true⟩) from rfl)
  have HPB := Aside0.mk (fun h => (put_nextS l0 (by rw [← hdr]; exact bytes_drop hby i) h).2)
  generalize numM most ⟨l0, bd⟩ = r at *
  clear hRM hdr hby
  go_enter Try.func35, Try.ntmps35
  go_wp2_with fail
  refine hc.mono ?_
  rintro e w1 ⟨hg, ⟨c1, c2, rfl, hr⟩ | ⟨c1, rfl, hr⟩⟩
  · have HG := Aside0.mk (Keep2.grown hg)
    have HR := Aside0.mk hr
    have HE := Aside0.mk (show r = ((nextS l0).1, ⟨l0.drop (nextS l0).2, bd⟩) from by rw [HNM.out, if_pos ⟨c1, c2⟩])
    have hp := HPB.out c1
    clear hc hg hr HNM HPB
    generalize (nextS l0).1 = n at *
    generalize (nextS l0).2 = q at *
    have hwn : wrap64 n = n := by unfold wrap64; omega
    have hwn2 : IntKind.i64.wrap n = n := by rw [IntKind.wrap_i64]; omega
    go_wp2_with fail
    go_ret
    rw [HE.out]
    exact ⟨rfl, ⟨B, d, b, i + q, HR.out, by show b.drop (i + q) = l0.drop q; rw [← HDR.out, List.drop_drop], HBY.out, HBL.out⟩, HG.out⟩
  · have HG := Aside0.mk (Keep2.grown hg)
    have HR := Aside0.mk hr
    have HE := Aside0.mk (show r = (0, ⟨l0, true⟩) from by
      rw [HNM.out, if_neg]
      rintro ⟨d1, d2⟩
      rcases c1 with c1 | c1
      · exact d1 c1
      · omega)
    clear hc hg hr HNM HPB c1
    go_wp2_with fail
    go_ret
    rw [HE.out]
    exact ⟨rfl, ⟨B, d, b, i, HR.out, HDR.out, HBY.out, HBL.out⟩, HG.out⟩
end Go.Proofs.Ytpaknjmcjblahaa.H
/-! ### Wir4 -/
namespace Go.Proofs.Ytpaknjmcjblahaa.H
open Go.RowKit Go.Proofs.Ytpaknjmcjblahaa.P Go.Proofs.YtpaknjmcjblahaaW.PrintWords Go.Proofs.YtpaknjmcjblahaaW.PrintLast Go.Proofs.YtpaknjmcjblahaaW.PrintMore
set_option linter.unusedVariables false
set_option linter.unusedSimpArgs false
def isU8 : Value → Bool
  | .int .u8 _ => true
  | _ => false
def noU8 (cs : Array Value) : Bool := cs.toList.all fun v => !isU8 v
theorem apartX {w : World} {g : Nat} {cs : Array Value} {t : TypeId} (hg : w.heap[g]? = some (.cells cs t (0, 0))) (hcs : noU8 cs = true) {B : Option Addr} {n : Nat} {m : List Int} (hC : Kd.C (Kd.int .u8) w B n m) : ∀ ad, B = some ad → 0 < n → ad.block ≠ g := by
  rintro ad rfl hn rfl
  obtain ⟨ad', e, hx⟩ := Kd.at_int hC 0 (by omega) (by omega)
  cases e
  simp only [Int.toNat_zero, Addr.add_zero'] at hx
  unfold World.cell? at hx
  rw [hg] at hx
  dsimp only at hx
  split at hx
  · cases hx
  · have hm : Value.int .u8 (rd m 0) ∈ cs.toList := by
      rw [Array.mem_toList_iff]
      exact Array.mem_of_getElem? hx
    have := List.all_eq_true.1 hcs _ hm
    simp [isU8] at this
structure Mine (w W : World) (t h b : Nat) (cs : Array Value) (ty : TypeId) : Prop where
  blk : W.heap[b]? = some (.cells cs ty (0, 0))
  new : w.heap.size ≤ b
  no : noU8 cs = true
  n1 : b ≠ t
  n2 : b ≠ h
theorem Mine.keep {w W W' : World} {t h b : Nat} {cs : Array Value} {ty : TypeId} (k : Mine w W t h b cs ty) (p : Keep2 t h W W') : Mine w W' t h b cs ty := ⟨p.blk k.blk k.n1 k.n2, k.new, k.no, k.n1, k.n2⟩
theorem Mine.below {w W W' : World} {t h b : Nat} {cs : Array Value} {ty : TypeId} (k : Mine w W t h b cs ty) (p : Below W.heap.size W W') : Mine w W' t h b cs ty := ⟨blk_below k.blk p, k.new, k.no, k.n1, k.n2⟩
theorem Mine.put {w W : World} {t h b : Nat} {cs : Array Value} {ty : TypeId} (k : Mine w W t h b cs ty) (j : Nat) (u : Value) (hu : isU8 u = false) (cs' : Array Value) (e : cs.setIfInBounds j u = cs') (hn : noU8 cs' = true) : Mine w (W.setCell ⟨b, j, none⟩ u) t h b cs' ty :=
  ⟨by have := blk_set k.blk j u; rw [e] at this; exact this, k.new, hn, k.n1, k.n2⟩
theorem Mine.far {w W : World} {t h b g : Nat} {cs : Array Value} {ty : TypeId} (k : Mine w W t h b cs ty) (hne : b ≠ g) (j : Nat) (u : Value) : Mine w (W.setCell ⟨g, j, none⟩ u) t h b cs ty := ⟨blk_far k.blk (p := ⟨g, j, none⟩) hne _, k.new, k.no, k.n1, k.n2⟩
theorem Keep2.mine {w W : World} {t h b : Nat} {cs : Array Value} {ty : TypeId} (p : Keep2 t h w W) (k : Mine w W t h b cs ty) (j : Nat) (u : Value) : Keep2 t h w (W.setCell ⟨b, j, none⟩ u) := by
  have q := (Below.refl 0 W).setCell (p := ⟨b, j, none⟩) (Nat.zero_le _) u
  exact ⟨q.os.trans p.os, q.tape.trans p.tape, q.output.trans p.output, Nat.le_trans p.size q.size, fun i hi h1 h2 => (Below.heap_setCell W ⟨b, j, none⟩ u i (by have := k.new; show i ≠ b; omega)).trans (p.block i hi h1 h2)⟩
theorem Keep2.alloc {w W : World} {t h : Nat} (p : Keep2 t h w W) (o : Obj) : Keep2 t h w (W.alloc o) := p.trans (Keep2.of ((Below.refl W.heap.size W).alloc (Nat.le_refl _) o))
theorem TK.far {W : World} {t h : Nat} {m : Mc} (k : TK W t h m) {w : World} {b : Nat} {cs : Array Value} {ty : TypeId} (x : Mine w W t h b cs ty) (j : Nat) (u : Value) : TK (W.setCell ⟨b, j, none⟩ u) t h m := by
  obtain ⟨A, c, h1, h2, h3, h4⟩ := k.rd
  refine ⟨blk_far k.blk (p := ⟨b, j, none⟩) (fun e => x.n1 e.symm) _, ⟨A, c, blk_far h1 (p := ⟨b, j, none⟩) (fun e => x.n2 e.symm) _, h2, C_moves h3 fun ad e hn => ?_, h4⟩, k.bytes⟩
  exact Below.heap_setCell W ⟨b, j, none⟩ u ad.block (apartX x.blk x.no h3 ad e hn)
theorem RT.far {W : World} {g : Nat} {m : Mc} (k : RT W g m) {w : World} {b : Nat} {cs : Array Value} {ty : TypeId} (x : Mine w W g g b cs ty) (j : Nat) (u : Value) : RT (W.setCell ⟨b, j, none⟩ u) g m := by
  obtain ⟨B, d, l, i, ⟨h1, h2, h3, h4⟩, h5, h6, h7⟩ := k
  exact ⟨B, d, l, i, ⟨blk_far h1 (p := ⟨b, j, none⟩) (fun e => x.n1 e.symm) _, h2, h3, C_moves h4 fun ad e hn => Below.heap_setCell W ⟨b, j, none⟩ u ad.block (apartX x.blk x.no h4 ad e hn)⟩, h5, h6, h7⟩
theorem TK.lt {W : World} {t h : Nat} {m : Mc} (k : TK W t h m) : t < W.heap.size ∧ h < W.heap.size := by
  obtain ⟨A, c, h1, _, _⟩ := k.rd
  exact ⟨blk_lt k.blk, blk_lt h1⟩
theorem RT.lt {W : World} {g : Nat} {m : Mc} (k : RT W g m) : g < W.heap.size ∧ g < W.heap.size := by
  obtain ⟨B, d, l, i, ⟨h1, _⟩, _⟩ := k
  exact ⟨blk_lt h1, blk_lt h1⟩
theorem mine_new {w W : World} {t h : Nat} (p : Keep2 t h w W) (hl : t < W.heap.size ∧ h < W.heap.size) (cs : Array Value) (ty : TypeId) (hn : noU8 cs = true) : Mine w (W.alloc (.cells cs ty)) t h W.heap.size cs ty :=
  ⟨blk_new W _, p.size, hn, by omega, by omega⟩
theorem numM_bound (most : Int) (m : Mc) (hb : bytes m.rest) (h0 : 0 ≤ most) : 0 ≤ (numM most m).1 ∧ (numM most m).1 ≤ most := by
  unfold numM
  by_cases c : (nextS m.rest).2 ≠ 0 ∧ (nextS m.rest).1 ≤ most
  · rw [if_pos c]; exact ⟨(put_nextS m.rest hb c.1).2.1, c.2⟩
  · rw [if_neg c]; exact ⟨Int.le_refl _, h0⟩
theorem numM_bytes (most : Int) (m : Mc) (hb : bytes m.rest) : bytes (numM most m).2.rest := by
  unfold numM
  split
  · exact bytes_drop hb _
  · exact hb
theorem textM_bytes (most : Int) (m : Mc) (hb : bytes m.rest) : bytes (textM most m).2.rest := by
  unfold textM
  split
  · exact bytes_drop hb _
  · exact hb
def wideW : Int := 4294967295
abbrev Ru := S29
def ruleM (m : Mc) : Ru × Mc :=
  let a := numM wideW m
  let b := numM wideW a.2
  let c := numM wideW b.2
  let d := numM wideW c.2
  let e := numM wideW d.2
  let f := numM wideW e.2
  let g := numM wideW f.2
  (⟨a.1, b.1, c.1, d.1, ⟨e.1, f.1⟩, g.1⟩, g.2)
def ruleVals (r : Ru) : List Value := [.int .i64 r.f0, .int .i64 r.f1, .int .i64 r.f2, .int .i64 r.f3, .int .u32 r.f4.f0, .int .u32 r.f4.f1, .int .i64 r.f5]
end Go.Proofs.Ytpaknjmcjblahaa.H
