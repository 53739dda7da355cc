/- Topo3, Topo4. -/
import Derived.Test.YtkjighagiecbaaaGTopo2
import Derived.Deep.LoopGhost
/-! ### Topo3 -/
namespace Go.Proofs.Ytkjighagiecbaaa.H
open Go.RowKit Go.Proofs.Ytkjighagiecbaaa.P Go.Proofs.YtkjighagiecbaaaW.PrintWords Go.Proofs.YtkjighagiecbaaaW.PrintLast Go.Proofs.YtkjighagiecbaaaW.PrintMore
set_option linter.unusedVariables false
set_option linter.unusedSimpArgs false
def PredB {α : Type} (enc : α → Value) (p : α → Bool) (g : Nat) (lb : Array Value) (dom : α → Prop) (w : World) : Prop :=
  ∀ W x, dom x → Below w.heap.size w W → Calls Try.prog g (#[enc x] ++ lb) W fun e w' => e = .returned (.bool (p x)) ∧ Below W.heap.size W w'
def IdxAt {α : Type} (l : List α) (p : α → Bool) (e : Ending) : Prop := ∃ r : Int, e = .returned (.int .i64 r) ∧ decide (0 ≤ r) = l.any p
def encL (l : S66) : Value := .agg #[.int .i64 l.f0.f0, .int .i64 l.f0.f1, .int .i64 l.f1.f0, .int .i64 l.f1.f1]
def encR (r : S62) : Value := .agg #[.int .i64 r.f0, .int .i64 r.f1, .int .i64 r.f2, .int .i64 r.f3, .int .u32 r.f4.f0, .int .u32 r.f4.f1, .int .i64 r.f5]
def encI (x : Int) : Value := .int .i64 x
set_option maxHeartbeats 1000000 in
theorem idxfL_any (A : Option Addr) (c : Nat) (l : List S66) (p : S66 → Bool) (g : Nat) (lb : Array Value) (eg : ∀ args w, (callFunc g args).run Try.prog w = .ok (.enter g args) w) (w : World)
    (hr : Kd.C k66 w A l.length l) (hl : l.length ≤ 9223372036854775807) (hp : PredB encL p g lb (fun x => x ∈ l) w) :
    Calls Try.prog 61 #[.slice A l.length c, .func (.func g) #[] lb] w fun e w' => IdxAt l p e ∧ Below w.heap.size w w' := by
  have HR := Aside0.mk hr
  clear hr
  go_enter Try.func61, Try.ntmps61
  go_wp2
  go_loopg [5, 8] l.length (fun gg _ s8 wr => ∃ kk : Nat, kk ≤ l.length ∧ l.length - kk ≤ gg ∧ s8 = .int .i64 kk ∧ Aside0 (Below w.heap.size w wr) ∧ Aside0 (∀ x, x ∈ l.take kk → p x = false))
  case atStart => exact ⟨0, Nat.zero_le _, by omega, rfl, ⟨Below.refl _ w⟩, ⟨fun x hx => by simp at hx⟩⟩
  case round =>
    obtain ⟨kk, hkk, hg, rfl, BW, A0⟩ := hrel
    by_cases hlt : kk < l.length
    · have hltz : (kk : Int) < (l.length : Int) := by omega
      obtain ⟨ad, e, x0, x1, x2, x3⟩ := at_T66 (Kd.C_below HR.out BW.out) (kk : Int) (by omega) (by omega)
      cases e
      (try rw [Int.toNat_natCast] at x0)
      (try rw [Int.toNat_natCast] at x1); (try rw [Int.toNat_natCast] at x2); (try rw [Int.toNat_natCast] at x3)
      have HM := Aside0.mk (show rd_T66 l (kk : Int) ∈ l ∧ l.take (kk + 1) = l.take kk ++ [rd_T66 l (kk : Int)] from by
        unfold rd_T66
        rw [Int.toNat_natCast, List.getD_eq_getElem?_getD, List.getElem?_eq_getElem hlt]
        exact ⟨List.getElem_mem _, by rw [List.take_succ_eq_append_getElem hlt]; rfl⟩)
      have hcall := hp wr (rd_T66 l (kk : Int)) HM.out.1 BW.out
      clear hp
      generalize rd_T66 l (kk : Int) = y at *
      unfold encL at hcall
      cases hq : p y with
      | true =>
        rw [hq] at hcall
        have HQ := Aside0.mk hq
        clear hq
        go_wp2_with fail
        refine hcall.mono ?_
        rintro e w' ⟨rfl, hb'⟩
        clear hcall
        go_wp2_with fail
        go_ret
        exact ⟨⟨_, rfl, by
          have e1 : l.any p = true := List.any_eq_true.2 ⟨y, HM.out.1, HQ.out⟩
          rw [e1]; simp⟩, BW.out.trans (hb'.mono BW.out.size)⟩
      | false =>
        rw [hq] at hcall
        have HQ := Aside0.mk hq
        clear hq
        go_wp2_with fail
        refine hcall.mono ?_
        rintro e w' ⟨rfl, hb'⟩
        clear hcall
        go_wp2_with fail
        go_roundg (l.length - (kk + 1))
        case measure => omega
        case rel =>
          refine ⟨kk + 1, by omega, by omega, by go_num, ⟨BW.out.trans (hb'.mono BW.out.size)⟩, ⟨fun x hx => ?_⟩⟩
          rw [HM.out.2, List.mem_append, List.mem_singleton] at hx
          rcases hx with hx | rfl
          · exact A0.out x hx
          · exact HQ.out
    · have hltz : ¬ (kk : Int) < (l.length : Int) := by omega
      obtain rfl : kk = l.length := by omega
      go_wp2
      go_ret
      exact ⟨⟨_, rfl, by
        have e1 : l.any p = false := by
          rw [List.any_eq_false]
          intro x hx
          rw [A0.out x (by rw [List.take_length]; exact hx)]; simp
        rw [e1]; simp⟩, BW.out⟩
set_option maxHeartbeats 1000000 in
theorem cfL_any (A : Option Addr) (c : Nat) (l : List S66) (p : S66 → Bool) (g : Nat) (lb : Array Value) (eg : ∀ args w, (callFunc g args).run Try.prog w = .ok (.enter g args) w) (w : World)
    (hr : Kd.C k66 w A l.length l) (hl : l.length ≤ 9223372036854775807) (hp : PredB encL p g lb (fun x => x ∈ l) w) :
    Calls Try.prog 47 #[.slice A l.length c, .func (.func g) #[] lb] w fun e w' => e = .returned (.bool (l.any p)) ∧ Below w.heap.size w w' := by
  have h := idxfL_any A c l p g lb eg w hr hl hp
  generalize hq : l.any p = q
  have HQ := Aside0.mk hq
  clear hq hp hr
  go_enter Try.func47, Try.ntmps47
  go_wp2_with fail
  refine h.mono ?_
  rintro e w' ⟨⟨r, rfl, hd⟩, hb⟩
  rw [HQ.out] at hd
  have HD := Aside0.mk hd
  clear hd h
  go_wp2_with fail
  go_ret
  exact ⟨by rw [← HD.out]; rfl, hb⟩
set_option maxHeartbeats 1000000 in
theorem idxfR_any (A : Option Addr) (c : Nat) (l : List S62) (p : S62 → Bool) (g : Nat) (lb : Array Value) (eg : ∀ args w, (callFunc g args).run Try.prog w = .ok (.enter g args) w) (w : World)
    (hr : Kd.C k62 w A l.length l) (hl : l.length ≤ 9223372036854775807) (hp : PredB encR p g lb (fun x => x ∈ l) w) :
    Calls Try.prog 63 #[.slice A l.length c, .func (.func g) #[] lb] w fun e w' => IdxAt l p e ∧ Below w.heap.size w w' := by
  have HR := Aside0.mk hr
  clear hr
  go_enter Try.func63, Try.ntmps63
  go_wp2
  go_loopg [5, 8] l.length (fun gg _ s8 wr => ∃ kk : Nat, kk ≤ l.length ∧ l.length - kk ≤ gg ∧ s8 = .int .i64 kk ∧ Aside0 (Below w.heap.size w wr) ∧ Aside0 (∀ x, x ∈ l.take kk → p x = false))
  case atStart => exact ⟨0, Nat.zero_le _, by omega, rfl, ⟨Below.refl _ w⟩, ⟨fun x hx => by simp at hx⟩⟩
  case round =>
    obtain ⟨kk, hkk, hg, rfl, BW, A0⟩ := hrel
    by_cases hlt : kk < l.length
    · have hltz : (kk : Int) < (l.length : Int) := by omega
      obtain ⟨ad, e, x0, x1, x2, x3, x4, x5, x6⟩ := at_T62 (Kd.C_below HR.out BW.out) (kk : Int) (by omega) (by omega)
      cases e
      (try rw [Int.toNat_natCast] at x0)
      (try rw [Int.toNat_natCast] at x1); (try rw [Int.toNat_natCast] at x2); (try rw [Int.toNat_natCast] at x3); (try rw [Int.toNat_natCast] at x4); (try rw [Int.toNat_natCast] at x5); (try rw [Int.toNat_natCast] at x6)
      have HM := Aside0.mk (show rd_T62 l (kk : Int) ∈ l ∧ l.take (kk + 1) = l.take kk ++ [rd_T62 l (kk : Int)] from by
        unfold rd_T62
        rw [Int.toNat_natCast, List.getD_eq_getElem?_getD, List.getElem?_eq_getElem hlt]
        exact ⟨List.getElem_mem _, by rw [List.take_succ_eq_append_getElem hlt]; rfl⟩)
      have hcall := hp wr (rd_T62 l (kk : Int)) HM.out.1 BW.out
      clear hp
      generalize rd_T62 l (kk : Int) = y at *
      unfold encR at hcall
      cases hq : p y with
      | true =>
        rw [hq] at hcall
        have HQ := Aside0.mk hq
        clear hq
        go_wp2_with fail
        refine hcall.mono ?_
        rintro e w' ⟨rfl, hb'⟩
        clear hcall
        go_wp2_with fail
        go_ret
        exact ⟨⟨_, rfl, by
          have e1 : l.any p = true := List.any_eq_true.2 ⟨y, HM.out.1, HQ.out⟩
          rw [e1]; simp⟩, BW.out.trans (hb'.mono BW.out.size)⟩
      | false =>
        rw [hq] at hcall
        have HQ := Aside0.mk hq
        clear hq
        go_wp2_with fail
        refine hcall.mono ?_
        rintro e w' ⟨rfl, hb'⟩
        clear hcall
        go_wp2_with fail
        go_roundg (l.length - (kk + 1))
        case measure => omega
        case rel =>
          refine ⟨kk + 1, by omega, by omega, by go_num, ⟨BW.out.trans (hb'.mono BW.out.size)⟩, ⟨fun x hx => ?_⟩⟩
          rw [HM.out.2, List.mem_append, List.mem_singleton] at hx
          rcases hx with hx | rfl
          · exact A0.out x hx
          · exact HQ.out
    · have hltz : ¬ (kk : Int) < (l.length : Int) := by omega
      obtain rfl : kk = l.length := by omega
      go_wp2
      go_ret
      exact ⟨⟨_, rfl, by
        have e1 : l.any p = false := by
          rw [List.any_eq_false]
          intro x hx
          rw [A0.out x (by rw [List.take_length]; exact hx)]; simp
        rw [e1]; simp⟩, BW.out⟩
set_option maxHeartbeats 1000000 in
theorem cfR_any (A : Option Addr) (c : Nat) (l : List S62) (p : S62 → Bool) (g : Nat) (lb : Array Value) (eg : ∀ args w, (callFunc g args).run Try.prog w = .ok (.enter g args) w) (w : World)
    (hr : Kd.C k62 w A l.length l) (hl : l.length ≤ 9223372036854775807) (hp : PredB encR p g lb (fun x => x ∈ l) w) :
    Calls Try.prog 51 #[.slice A l.length c, .func (.func g) #[] lb] w fun e w' => e = .returned (.bool (l.any p)) ∧ Below w.heap.size w w' := by
  have h := idxfR_any A c l p g lb eg w hr hl hp
  generalize hq : l.any p = q
  have HQ := Aside0.mk hq
  clear hq hp hr
  go_enter Try.func51, Try.ntmps51
  go_wp2_with fail
  refine h.mono ?_
  rintro e w' ⟨⟨r, rfl, hd⟩, hb⟩
  rw [HQ.out] at hd
  have HD := Aside0.mk hd
  clear hd h
  go_wp2_with fail
  go_ret
  exact ⟨by rw [← HD.out]; rfl, hb⟩
set_option maxHeartbeats 1000000 in
theorem idxfI_any (A : Option Addr) (c : Nat) (l : List Int) (p : Int → Bool) (g : Nat) (lb : Array Value) (eg : ∀ args w, (callFunc g args).run Try.prog w = .ok (.enter g args) w) (w : World)
    (hr : Kd.C (Kd.int .i64) w A l.length l) (hl : l.length ≤ 9223372036854775807) (hp : PredB encI p g lb (fun x => x ∈ l) w) :
    Calls Try.prog 60 #[.slice A l.length c, .func (.func g) #[] lb] w fun e w' => IdxAt l p e ∧ Below w.heap.size w w' := by
  have HR := Aside0.mk hr
  clear hr
  go_enter Try.func60, Try.ntmps60
  go_wp2
  go_loopg [5, 8] l.length (fun gg _ s8 wr => ∃ kk : Nat, kk ≤ l.length ∧ l.length - kk ≤ gg ∧ s8 = .int .i64 kk ∧ Aside0 (Below w.heap.size w wr) ∧ Aside0 (∀ x, x ∈ l.take kk → p x = false))
  case atStart => exact ⟨0, Nat.zero_le _, by omega, rfl, ⟨Below.refl _ w⟩, ⟨fun x hx => by simp at hx⟩⟩
  case round =>
    obtain ⟨kk, hkk, hg, rfl, BW, A0⟩ := hrel
    by_cases hlt : kk < l.length
    · have hltz : (kk : Int) < (l.length : Int) := by omega
      obtain ⟨ad, e, x0⟩ := (Kd.reads_of_C (d := (0 : Int)) (Kd.C_below HR.out BW.out)).at_ (kk : Int) (by omega) (by omega)
      cases e
      (try rw [Int.toNat_natCast] at x0)
      skip
      have HM := Aside0.mk (show rdOf 0 l (kk : Int) ∈ l ∧ l.take (kk + 1) = l.take kk ++ [rdOf 0 l (kk : Int)] from by
        unfold rdOf
        rw [Int.toNat_natCast, List.getD_eq_getElem?_getD, List.getElem?_eq_getElem hlt]
        exact ⟨List.getElem_mem _, by rw [List.take_succ_eq_append_getElem hlt]; rfl⟩)
      have hcall := hp wr (rdOf 0 l (kk : Int)) HM.out.1 BW.out
      clear hp
      generalize rdOf 0 l (kk : Int) = y at *
      unfold encI at hcall
      cases hq : p y with
      | true =>
        rw [hq] at hcall
        have HQ := Aside0.mk hq
        clear hq
        go_wp2_with fail
        refine hcall.mono ?_
        rintro e w' ⟨rfl, hb'⟩
        clear hcall
        go_wp2_with fail
        go_ret
        exact ⟨⟨_, rfl, by
          have e1 : l.any p = true := List.any_eq_true.2 ⟨y, HM.out.1, HQ.out⟩
          rw [e1]; simp⟩, BW.out.trans (hb'.mono BW.out.size)⟩
      | false =>
        rw [hq] at hcall
        have HQ := Aside0.mk hq
        clear hq
        go_wp2_with fail
        refine hcall.mono ?_
        rintro e w' ⟨rfl, hb'⟩
        clear hcall
        go_wp2_with fail
        go_roundg (l.length - (kk + 1))
        case measure => omega
        case rel =>
          refine ⟨kk + 1, by omega, by omega, by go_num, ⟨BW.out.trans (hb'.mono BW.out.size)⟩, ⟨fun x hx => ?_⟩⟩
          rw [HM.out.2, List.mem_append, List.mem_singleton] at hx
          rcases hx with hx | rfl
          · exact A0.out x hx
          · exact HQ.out
    · have hltz : ¬ (kk : Int) < (l.length : Int) := by omega
      obtain rfl : kk = l.length := by omega
      go_wp2
      go_ret
      exact ⟨⟨_, rfl, by
        have e1 : l.any p = false := by
          rw [List.any_eq_false]
          intro x hx
          rw [A0.out x (by rw [List.take_length]; exact hx)]; simp
        rw [e1]; simp⟩, BW.out⟩
set_option maxHeartbeats 1000000 in
theorem cfI_any (A : Option Addr) (c : Nat) (l : List Int) (p : Int → Bool) (g : Nat) (lb : Array Value) (eg : ∀ args w, (callFunc g args).run Try.prog w = .ok (.enter g args) w) (w : World)
    (hr : Kd.C (Kd.int .i64) w A l.length l) (hl : l.length ≤ 9223372036854775807) (hp : PredB encI p g lb (fun x => x ∈ l) w) :
    Calls Try.prog 45 #[.slice A l.length c, .func (.func g) #[] lb] w fun e w' => e = .returned (.bool (l.any p)) ∧ Below w.heap.size w w' := by
  have h := idxfI_any A c l p g lb eg w hr hl hp
  generalize hq : l.any p = q
  have HQ := Aside0.mk hq
  clear hq hp hr
  go_enter Try.func45, Try.ntmps45
  go_wp2_with fail
  refine h.mono ?_
  rintro e w' ⟨⟨r, rfl, hd⟩, hb⟩
  rw [HQ.out] at hd
  have HD := Aside0.mk hd
  clear hd h
  go_wp2_with fail
  go_ret
  exact ⟨by rw [← HD.out]; rfl, hb⟩
end Go.Proofs.Ytkjighagiecbaaa.H
/-! ### Topo4 -/
namespace Go.Proofs.Ytkjighagiecbaaa.H
open Go.RowKit Go.Proofs.Ytkjighagiecbaaa.P Go.Proofs.YtkjighagiecbaaaW.PrintWords Go.Proofs.YtkjighagiecbaaaW.PrintLast Go.Proofs.YtkjighagiecbaaaW.PrintMore
set_option linter.unusedVariables false
set_option linter.unusedSimpArgs false
def hasB (l0 : List Int) (p : S33) : Bool := decide (0 ≤ p.f0) && decide (p.f0 < (l0.length : Int)) && decide (0 ≤ p.f1) && decide (p.f1 < rdOf 0 l0 p.f0)
set_option maxHeartbeats 1000000 in
theorem has_any (A0 : Option Addr) (c0 : Nat) (l0 : List Int) (V1 : Value) (p : S33) (w : World) (hr0 : Kd.C (Kd.int .i64) w A0 l0.length l0) (hv1 : V1.oneCell' = true) :
    Calls Try.prog 49 #[.agg #[.slice A0 l0.length c0, V1], encP p] w fun e w' => e = .returned (.bool (hasB l0 p)) ∧ Below w.heap.size w w' := by
  have huTop := Try.underlying25
  have hu33 := Try.underlying33
  obtain ⟨p0, p1⟩ := p
  have HR := Aside0.mk hr0
  have hmax := Kd.C_max hr0
  clear hr0
  simp only [encP]
  by_cases h1 : 0 ≤ p0
  · by_cases h2 : p0 < (l0.length : Int)
    · obtain ⟨ad, e, x0⟩ := (Kd.reads_of_C (d := (0 : Int)) HR.out).at_ p0 h1 h2
      cases e
      by_cases h3 : 0 ≤ p1
      · skip
        have E : Aside0 (hasB l0 ⟨p0, p1⟩ = decide (p1 < rdOf 0 l0 p0)) := ⟨by simp [hasB, h1, h2, h3]⟩
        rw [E.out]
        have d0 : decide (0 ≤ p0) = true := by simpa using h1
        have d1 : decide (p0 < (l0.length : Int)) = true := by simpa using h2
        have d2 : decide (0 ≤ p1) = true := by simpa using h3
        generalize rdOf 0 l0 p0 = q at *
        go_enter Try.func49, Try.ntmps49
        go_wp2
        have hB : Below w.heap.size w ((w.alloc (Obj.cells #[Value.slice (some ad) l0.length c0, V1] 25)).alloc (Obj.cells #[Value.int .i64 p0, Value.int .i64 p1] 33)) := ((Below.refl _ _).alloc (Nat.le_refl _) _).alloc (by simp) _
        have x1 := pw_cell_below hB x0
        have HB := Aside0.mk hB
        clear hB
        go_quiet (fail)
        go_wp2
        go_ret
        exact ⟨rfl, pw_below_drewN HB.out _⟩
      · have nh3 := h3
        have E : Aside0 (hasB l0 ⟨p0, p1⟩ = false) := ⟨by simp [hasB, h1, h2, nh3]⟩
        rw [E.out]
        have d0 : decide (0 ≤ p0) = true := by simpa using h1
        have d1 : decide (p0 < (l0.length : Int)) = true := by simpa using h2
        have d2 : decide (0 ≤ p1) = false := by simpa using nh3
        go_enter Try.func49, Try.ntmps49
        go_wp2
        have hB : Below w.heap.size w ((w.alloc (Obj.cells #[Value.slice (some ad) l0.length c0, V1] 25)).alloc (Obj.cells #[Value.int .i64 p0, Value.int .i64 p1] 33)) := ((Below.refl _ _).alloc (Nat.le_refl _) _).alloc (by simp) _
        have HB := Aside0.mk hB
        clear hB
        go_quiet (fail)
        go_wp2
        go_ret
        exact ⟨rfl, pw_below_drewN HB.out _⟩
    · have nh2 := h2
      have E : Aside0 (hasB l0 ⟨p0, p1⟩ = false) := ⟨by simp [hasB, h1, nh2]⟩
      rw [E.out]
      have d0 : decide (0 ≤ p0) = true := by simpa using h1
      have d1 : decide (p0 < (l0.length : Int)) = false := by simpa using nh2
      go_enter Try.func49, Try.ntmps49
      go_wp2
      have hB : Below w.heap.size w ((w.alloc (Obj.cells #[Value.slice A0 l0.length c0, V1] 25)).alloc (Obj.cells #[Value.int .i64 p0, Value.int .i64 p1] 33)) := ((Below.refl _ _).alloc (Nat.le_refl _) _).alloc (by simp) _
      have HB := Aside0.mk hB
      clear hB
      go_quiet (fail)
      go_wp2
      go_ret
      exact ⟨rfl, pw_below_drewN HB.out _⟩
  · have nh1 := h1
    have E : Aside0 (hasB l0 ⟨p0, p1⟩ = false) := ⟨by simp [hasB, nh1]⟩
    rw [E.out]
    have d0 : decide (0 ≤ p0) = false := by simpa using nh1
    go_enter Try.func49, Try.ntmps49
    go_wp2
    have hB : Below w.heap.size w ((w.alloc (Obj.cells #[Value.slice A0 l0.length c0, V1] 25)).alloc (Obj.cells #[Value.int .i64 p0, Value.int .i64 p1] 33)) := ((Below.refl _ _).alloc (Nat.le_refl _) _).alloc (by simp) _
    have HB := Aside0.mk hB
    clear hB
    go_quiet (fail)
    go_wp2
    go_ret
    exact ⟨rfl, pw_below_drewN HB.out _⟩
theorem enters' {f : FuncId} {fn : Func} {c : Code} (hf : Try.prog.funcs[f]? = some fn) (hname : (fn.name == "runtime.NumGoroutine") = false) (hb : fn.body = some c) : ∀ args w, (callFunc f args).run Try.prog w = .ok (.enter f args) w := by
  intro args w
  have h1 : fn.name ≠ "runtime.NumGoroutine" := by simpa using hname
  simp [callFunc, hf, h1, hb, go_sem]
theorem topoCells {w W : World} {b : Nat} {V0 V1 : Value} {t : TypeId} (h : w.heap[b]? = some (.cells #[V0, V1] t (0, 0))) (hb : Below w.heap.size w W) : W.cell? ⟨b, 0, none⟩ = some V0 ∧ W.cell? ⟨b, 1, none⟩ = some V1 ∧ b < W.heap.size :=
  have h1 := blk_below h hb
  ⟨blk_cell h1 0, blk_cell h1 1, blk_lt h1⟩
def badL (l0 : List Int) (l : S66) : Bool := !hasB l0 l.f0 || (!hasB l0 l.f1 || decide (l.f0 = l.f1))
def badI (n : Int) : Bool := decide (n < 1) || decide (4 < n)
def badR (l0 : List Int) (r : S62) : Bool := !hasB l0 ⟨r.f1, r.f5⟩
theorem eqPb (W : World) (x y : S33) : (Op.equal 33 (.agg #[.int .i64 x.f0, .int .i64 x.f1]) (.agg #[.int .i64 y.f0, .int .i64 y.f1])).run Try.prog W = .ok (decide (x = y)) W := keyP.eq x y W
theorem badI_any (w : World) : PredB encI badI 46 #[] (fun _ => True) w := fun W x _ hb => by
  show Calls Try.prog 46 #[.int .i64 x] W _
  by_cases h1 : x < 1
  · have d1 : decide (x < 1) = true := by simpa using h1
    have E : Aside0 (badI x = true) := ⟨by simp [badI, h1]⟩
    rw [E.out]
    go_enter Try.func46, Try.ntmps46
    go_wp2
    go_ret
    exact ⟨rfl, Below.refl _ _⟩
  · have d1 : decide (x < 1) = false := by simpa using h1
    have E : Aside0 (badI x = decide (4 < x)) := ⟨by simp [badI, h1]⟩
    rw [E.out]
    go_enter Try.func46, Try.ntmps46
    go_wp2
    go_ret
    exact ⟨rfl, Below.refl _ _⟩
set_option maxHeartbeats 1000000 in
theorem badL_any (b : Nat) (A0 : Option Addr) (c0 : Nat) (l0 : List Int) (V1 : Value) (w : World) (hr0 : Kd.C (Kd.int .i64) w A0 l0.length l0) (hv1 : V1.oneCell' = true)
    (hb0 : w.heap[b]? = some (.cells #[.slice A0 l0.length c0, V1] 25 (0, 0))) :
    PredB encL (badL l0) 48 #[.pointer (some ⟨b, 0, none⟩)] (fun _ => True) w := fun W l _ hb => by
  have huTop := Try.underlying25
  have hu33 := Try.underlying33
  have hu66 := Try.underlying66
  obtain ⟨b1, b2, b3⟩ := topoCells hb0 hb
  have HR := Aside0.mk (Kd.C_below hr0 hb)
  have HE := Aside0.mk (fun W => eqPb W l.f0 l.f1)
  have hne : ¬ W.heap.size = b := by omega
  clear hr0 hb0
  obtain ⟨⟨p0, p1⟩, ⟨q0, q1⟩⟩ := l
  show Calls Try.prog 48 #[.agg #[.int .i64 p0, .int .i64 p1, .int .i64 q0, .int .i64 q1], .pointer (some ⟨b, 0, none⟩)] W _
  go_enter Try.func48, Try.ntmps48
  go_wp2_with fail
  have hB1 : Below W.heap.size W (W.alloc (Obj.cells #[Value.int .i64 p0, Value.int .i64 p1, Value.int .i64 q0, Value.int .i64 q1] 66)) := (Below.refl _ _).alloc (Nat.le_refl _) _
  have HB1 := Aside0.mk hB1
  have n1 := blk_new W (Obj.cells #[Value.int .i64 p0, Value.int .i64 p1, Value.int .i64 q0, Value.int .i64 q1] 66)
  have HR1 := Aside0.mk (Kd.C_below HR.out hB1)
  have HN1 := Aside0.mk n1
  have k1 := pw_cell_below hB1 b1
  have k2 := pw_cell_below hB1 b2
  have HS1 := Aside0.mk hB1.size
  clear hB1 n1
  generalize W.alloc (Obj.cells #[Value.int .i64 p0, Value.int .i64 p1, Value.int .i64 q0, Value.int .i64 q1] 66) = W1 at *
  refine (has_any A0 c0 l0 V1 ⟨p0, p1⟩ _ HR1.out hv1).mono ?_
  rintro e W2 ⟨rfl, hb2⟩
  have HB2 := Aside0.mk (HB1.out.trans (hb2.mono HS1.out))
  have HR2 := Aside0.mk (Kd.C_below HR1.out hb2)
  have n2 := blk_below HN1.out hb2
  have m0 := blk_cell n2 0
  have m1 := blk_cell n2 1
  have m2 := blk_cell n2 2
  have m3 := blk_cell n2 3
  have j1 := pw_cell_below hb2 k1
  have j2 := pw_cell_below hb2 k2
  have HN2 := Aside0.mk n2
  have HS2 := Aside0.mk (Nat.le_trans HS1.out hb2.size)
  clear hb2 n2 k1 k2 b1 b2
  cases hq1 : hasB l0 ⟨p0, p1⟩ with
  | false =>
    have E : Aside0 (badL l0 ⟨⟨p0, p1⟩, ⟨q0, q1⟩⟩ = true) := ⟨by simp [badL, hq1]⟩
    clear hq1
    go_wp2
    go_ret
    exact ⟨by rw [E.out]; rfl, HB2.out⟩
  | true =>
    have HQ1 := Aside0.mk hq1
    clear hq1
    go_wp2_with fail
    refine (has_any A0 c0 l0 V1 ⟨q0, q1⟩ _ HR2.out hv1).mono ?_
    rintro e W3 ⟨rfl, hb3⟩
    have HB3 := Aside0.mk (HB2.out.trans (hb3.mono HS2.out))
    have n3 := blk_below HN2.out hb3
    have m0 := blk_cell n3 0
    have m1 := blk_cell n3 1
    have m2 := blk_cell n3 2
    have m3 := blk_cell n3 3
    clear n3 hb3 j1 j2
    cases hq2 : hasB l0 ⟨q0, q1⟩ with
    | false =>
      have E : Aside0 (badL l0 ⟨⟨p0, p1⟩, ⟨q0, q1⟩⟩ = true) := ⟨by simp [badL, hq2]⟩
      clear hq2
      go_wp2
      go_ret
      exact ⟨by rw [E.out]; rfl, HB3.out⟩
    | true =>
      have E : Aside0 (badL l0 ⟨⟨p0, p1⟩, ⟨q0, q1⟩⟩ = decide (({ f0 := p0, f1 := p1 } : S33) = { f0 := q0, f1 := q1 })) := ⟨by simp [badL, hq2, HQ1.out]⟩
      clear hq2
      go_wp2
      all_goals
        go_ret
        refine ⟨?_, HB3.out⟩
        rw [E.out]
        simp [*]
set_option maxHeartbeats 1000000 in
theorem badR_any (b : Nat) (A0 : Option Addr) (c0 : Nat) (l0 : List Int) (V1 : Value) (w : World) (hr0 : Kd.C (Kd.int .i64) w A0 l0.length l0) (hv1 : V1.oneCell' = true)
    (hb0 : w.heap[b]? = some (.cells #[.slice A0 l0.length c0, V1] 25 (0, 0))) :
    PredB encR (badR l0) 52 #[.pointer (some ⟨b, 0, none⟩)] (fun _ => True) w := fun W r _ hb => by
  have huTop := Try.underlying25
  have hu33 := Try.underlying33
  have hu62 := Try.underlying62
  obtain ⟨b1, b2, b3⟩ := topoCells hb0 hb
  have HR := Aside0.mk (Kd.C_below hr0 hb)
  have hne : ¬ W.heap.size = b := by omega
  clear hr0 hb0
  obtain ⟨r0, r1, r2, r3, ⟨r4, r5⟩, r6⟩ := r
  show Calls Try.prog 52 #[.agg #[.int .i64 r0, .int .i64 r1, .int .i64 r2, .int .i64 r3, .int .u32 r4, .int .u32 r5, .int .i64 r6], .pointer (some ⟨b, 0, none⟩)] W _
  have E : Aside0 (badR l0 ⟨r0, r1, r2, r3, ⟨r4, r5⟩, r6⟩ = !hasB l0 ⟨r1, r6⟩) := ⟨rfl⟩
  rw [E.out]
  have hh := fun W (hR : Kd.C (Kd.int .i64) W A0 l0.length l0) => has_any A0 c0 l0 V1 ⟨r1, r6⟩ W hR hv1
  generalize hasB l0 ⟨r1, r6⟩ = bb at hh ⊢
  have HH := Aside0.mk hh
  clear hh E
  go_enter Try.func52, Try.ntmps52
  go_wp2_with fail
  have hB1 : Below W.heap.size W (W.alloc (Obj.cells #[Value.int .i64 r0, Value.int .i64 r1, Value.int .i64 r2, Value.int .i64 r3, Value.int .u32 r4, Value.int .u32 r5, Value.int .i64 r6] 62)) := (Below.refl _ _).alloc (Nat.le_refl _) _
  have HB1 := Aside0.mk hB1
  have HR1 := Aside0.mk (Kd.C_below HR.out hB1)
  have HS1 := Aside0.mk hB1.size
  clear hB1
  refine (HH.out _ HR1.out).mono ?_
  rintro e W2 ⟨rfl, hb2⟩
  have HB2 := Aside0.mk (HB1.out.trans (hb2.mono HS1.out))
  clear hb2 HH
  cases bb <;> (go_wp2; go_ret; exact ⟨rfl, HB2.out⟩)
set_option maxHeartbeats 1000000 in
theorem fits_any (A0 : Option Addr) (c0 : Nat) (l0 : List Int) (V1 : Value) (A : Option Addr) (c : Nat) (l : List S62) (w : World) (hr0 : Kd.C (Kd.int .i64) w A0 l0.length l0) (hv1 : V1.oneCell' = true) (hr : Kd.C k62 w A l.length l) (hc : l.length ≤ 9223372036854775807) :
    Calls Try.prog 32 #[.agg #[.slice A0 l0.length c0, V1], .slice A l.length c] w fun e w' => e = .returned (.bool (!l.any (badR l0))) ∧ Below w.heap.size w w' := by
  have huTop := Try.underlying25
  have hB1 : Below w.heap.size w (w.alloc (Obj.cells #[.slice A0 l0.length c0, V1] 25)) := (Below.refl _ _).alloc (Nat.le_refl _) _
  have hcf := cfR_any A c l (badR l0) 52 #[.pointer (some ⟨w.heap.size, 0, none⟩)] (enters' Try.func52 (by kernel_rfl) rfl) (w.alloc (Obj.cells #[.slice A0 l0.length c0, V1] 25)) (Kd.C_below hr hB1) hc
    (fun W x _ hb => badR_any w.heap.size A0 c0 l0 V1 _ (Kd.C_below hr0 hB1) hv1 (blk_new _ _) W x trivial hb)
  have HB1 := Aside0.mk hB1
  have HS1 := Aside0.mk hB1.size
  clear hr hr0 hB1
  generalize l.any (badR l0) = bb at *
  go_enter Try.func32, Try.ntmps32
  go_wp2_with fail
  refine hcf.mono ?_
  rintro e W2 ⟨rfl, hb2⟩
  have HB2 := Aside0.mk (HB1.out.trans (hb2.mono HS1.out))
  clear hb2 hcf
  cases bb <;> (go_wp2; go_ret; exact ⟨rfl, HB2.out⟩)
end Go.Proofs.Ytkjighagiecbaaa.H
