import Derived.Test.YtglfpobapkkgdaaTopo2
import Derived.Deep.LoopGhost
namespace Go.Proofs.Ytglfpobapkkgdaa.H
open Go.RowKit Go.Proofs.Ytglfpobapkkgdaa.P Go.Proofs.YtglfpobapkkgdaaW.PrintWords Go.Proofs.YtglfpobapkkgdaaW.PrintLast Go.Proofs.YtglfpobapkkgdaaW.PrintMore
set_option linter.unusedVariables false
set_option linter.unusedSimpArgs false

/-- What is asked of a predicate: at those of a list, in every later world. -/
def PredB {α : Type} (enc : α → Value) (p : α → Bool) (g : Nat) (lb : Array Value) (dom : α → Prop) (w : World) : Prop :=
  ∀ W x, dom x → Below w.heap.size w W → Calls Try.prog g (#[enc x] ++ lb) W fun e w' => e = .returned (.bool (p x)) ∧ Below W.heap.size W w'
def IdxAt {α : Type} (l : List α) (p : α → Bool) (e : Ending) : Prop := ∃ r : Int, e = .returned (.int .i64 r) ∧ decide (0 ≤ r) = l.any p
def encL (l : S38) : Value := .agg #[.int .i64 l.f0.f0, .int .i64 l.f0.f1, .int .i64 l.f1.f0, .int .i64 l.f1.f1]
def encR (r : S63) : Value := .agg #[.int .i64 r.f0, .int .i64 r.f1, .int .i64 r.f2, .int .i64 r.f3, .int .u32 r.f4.f0, .int .u32 r.f4.f1, .int .i64 r.f5]
def encI (x : Int) : Value := .int .i64 x

set_option maxHeartbeats 1000000 in
theorem idxfL_any (A : Option Addr) (c : Nat) (l : List S38) (p : S38 → Bool) (g : Nat) (lb : Array Value) (eg : ∀ args w, (callFunc g args).run Try.prog w = .ok (.enter g args) w) (w : World)
    (hr : Kd.C k38 w A l.length l) (hl : l.length ≤ 9223372036854775807) (hp : PredB encL p g lb (fun x => x ∈ l) w) :
    Calls Try.prog 38 #[.slice A l.length c, .func (.func g) #[] lb] w fun e w' => IdxAt l p e ∧ Below w.heap.size w w' := by
  have HR := Aside0.mk hr
  clear hr
  go_enter Try.func38, Try.ntmps38
  go_wp2
  go_loopg [5, 8] l.length (fun gg _ s8 wr => ∃ kk : Nat, kk ≤ l.length ∧ l.length - kk ≤ gg ∧ s8 = .int .i64 kk ∧ Aside0 (Below w.heap.size w wr) ∧ Aside0 (∀ x, x ∈ l.take kk → p x = false))
  case atStart => exact ⟨0, Nat.zero_le _, by omega, rfl, ⟨Below.refl _ w⟩, ⟨fun x hx => by simp at hx⟩⟩
  case round =>
    obtain ⟨kk, hkk, hg, rfl, BW, A0⟩ := hrel
    by_cases hlt : kk < l.length
    · have hltz : (kk : Int) < (l.length : Int) := by omega
      obtain ⟨ad, e, x0, x1, x2, x3⟩ := at_T38 (Kd.C_below HR.out BW.out) (kk : Int) (by omega) (by omega)
      cases e
      (try rw [Int.toNat_natCast] at x0)
      (try rw [Int.toNat_natCast] at x1); (try rw [Int.toNat_natCast] at x2); (try rw [Int.toNat_natCast] at x3)
      have HM := Aside0.mk (show rd_T38 l (kk : Int) ∈ l ∧ l.take (kk + 1) = l.take kk ++ [rd_T38 l (kk : Int)] from by
        unfold rd_T38
        rw [Int.toNat_natCast, List.getD_eq_getElem?_getD, List.getElem?_eq_getElem hlt]
        exact ⟨List.getElem_mem _, by rw [List.take_succ_eq_append_getElem hlt]; rfl⟩)
      have hcall := hp wr (rd_T38 l (kk : Int)) HM.out.1 BW.out
      clear hp
      generalize rd_T38 l (kk : Int) = y at *
      unfold encL at hcall
      cases hq : p y with
      | true =>
        rw [hq] at hcall
        have HQ := Aside0.mk hq
        clear hq
        go_wp2_with fail
        refine hcall.mono ?_
        rintro e w' ⟨rfl, hb'⟩
        clear hcall
        go_wp2_with fail
        go_ret
        exact ⟨⟨_, rfl, by
          have e1 : l.any p = true := List.any_eq_true.2 ⟨y, HM.out.1, HQ.out⟩
          rw [e1]; simp⟩, BW.out.trans (hb'.mono BW.out.size)⟩
      | false =>
        rw [hq] at hcall
        have HQ := Aside0.mk hq
        clear hq
        go_wp2_with fail
        refine hcall.mono ?_
        rintro e w' ⟨rfl, hb'⟩
        clear hcall
        go_wp2_with fail
        go_roundg (l.length - (kk + 1))
        case measure => omega
        case rel =>
          refine ⟨kk + 1, by omega, by omega, by go_num, ⟨BW.out.trans (hb'.mono BW.out.size)⟩, ⟨fun x hx => ?_⟩⟩
          rw [HM.out.2, List.mem_append, List.mem_singleton] at hx
          rcases hx with hx | rfl
          · exact A0.out x hx
          · exact HQ.out
    · have hltz : ¬ (kk : Int) < (l.length : Int) := by omega
      obtain rfl : kk = l.length := by omega
      go_wp2
      go_ret
      exact ⟨⟨_, rfl, by
        have e1 : l.any p = false := by
          rw [List.any_eq_false]
          intro x hx
          rw [A0.out x (by rw [List.take_length]; exact hx)]; simp
        rw [e1]; simp⟩, BW.out⟩
set_option maxHeartbeats 1000000 in
theorem cfL_any (A : Option Addr) (c : Nat) (l : List S38) (p : S38 → Bool) (g : Nat) (lb : Array Value) (eg : ∀ args w, (callFunc g args).run Try.prog w = .ok (.enter g args) w) (w : World)
    (hr : Kd.C k38 w A l.length l) (hl : l.length ≤ 9223372036854775807) (hp : PredB encL p g lb (fun x => x ∈ l) w) :
    Calls Try.prog 27 #[.slice A l.length c, .func (.func g) #[] lb] w fun e w' => e = .returned (.bool (l.any p)) ∧ Below w.heap.size w w' := by
  have h := idxfL_any A c l p g lb eg w hr hl hp
  generalize hq : l.any p = q
  have HQ := Aside0.mk hq
  clear hq hp hr
  go_enter Try.func27, Try.ntmps27
  go_wp2_with fail
  refine h.mono ?_
  rintro e w' ⟨⟨r, rfl, hd⟩, hb⟩
  rw [HQ.out] at hd
  have HD := Aside0.mk hd
  clear hd h
  go_wp2_with fail
  go_ret
  exact ⟨by rw [← HD.out]; rfl, hb⟩

set_option maxHeartbeats 1000000 in
theorem idxfR_any (A : Option Addr) (c : Nat) (l : List S63) (p : S63 → Bool) (g : Nat) (lb : Array Value) (eg : ∀ args w, (callFunc g args).run Try.prog w = .ok (.enter g args) w) (w : World)
    (hr : Kd.C k63 w A l.length l) (hl : l.length ≤ 9223372036854775807) (hp : PredB encR p g lb (fun x => x ∈ l) w) :
    Calls Try.prog 40 #[.slice A l.length c, .func (.func g) #[] lb] w fun e w' => IdxAt l p e ∧ Below w.heap.size w w' := by
  have HR := Aside0.mk hr
  clear hr
  go_enter Try.func40, Try.ntmps40
  go_wp2
  go_loopg [5, 8] l.length (fun gg _ s8 wr => ∃ kk : Nat, kk ≤ l.length ∧ l.length - kk ≤ gg ∧ s8 = .int .i64 kk ∧ Aside0 (Below w.heap.size w wr) ∧ Aside0 (∀ x, x ∈ l.take kk → p x = false))
  case atStart => exact ⟨0, Nat.zero_le _, by omega, rfl, ⟨Below.refl _ w⟩, ⟨fun x hx => by simp at hx⟩⟩
  case round =>
    obtain ⟨kk, hkk, hg, rfl, BW, A0⟩ := hrel
    by_cases hlt : kk < l.length
    · have hltz : (kk : Int) < (l.length : Int) := by omega
      obtain ⟨ad, e, x0, x1, x2, x3, x4, x5, x6⟩ := at_T63 (Kd.C_below HR.out BW.out) (kk : Int) (by omega) (by omega)
      cases e
      (try rw [Int.toNat_natCast] at x0)
      (try rw [Int.toNat_natCast] at x1); (try rw [Int.toNat_natCast] at x2); (try rw [Int.toNat_natCast] at x3); (try rw [Int.toNat_natCast] at x4); (try rw [Int.toNat_natCast] at x5); (try rw [Int.toNat_natCast] at x6)
      have HM := Aside0.mk (show rd_T63 l (kk : Int) ∈ l ∧ l.take (kk + 1) = l.take kk ++ [rd_T63 l (kk : Int)] from by
        unfold rd_T63
        rw [Int.toNat_natCast, List.getD_eq_getElem?_getD, List.getElem?_eq_getElem hlt]
        exact ⟨List.getElem_mem _, by rw [List.take_succ_eq_append_getElem hlt]; rfl⟩)
      have hcall := hp wr (rd_T63 l (kk : Int)) HM.out.1 BW.out
      clear hp
      generalize rd_T63 l (kk : Int) = y at *
      unfold encR at hcall
      cases hq : p y with
      | true =>
        rw [hq] at hcall
        have HQ := Aside0.mk hq
        clear hq
        go_wp2_with fail
        refine hcall.mono ?_
        rintro e w' ⟨rfl, hb'⟩
        clear hcall
        go_wp2_with fail
        go_ret
        exact ⟨⟨_, rfl, by
          have e1 : l.any p = true := List.any_eq_true.2 ⟨y, HM.out.1, HQ.out⟩
          rw [e1]; simp⟩, BW.out.trans (hb'.mono BW.out.size)⟩
      | false =>
        rw [hq] at hcall
        have HQ := Aside0.mk hq
        clear hq
        go_wp2_with fail
        refine hcall.mono ?_
        rintro e w' ⟨rfl, hb'⟩
        clear hcall
        go_wp2_with fail
        go_roundg (l.length - (kk + 1))
        case measure => omega
        case rel =>
          refine ⟨kk + 1, by omega, by omega, by go_num, ⟨BW.out.trans (hb'.mono BW.out.size)⟩, ⟨fun x hx => ?_⟩⟩
          rw [HM.out.2, List.mem_append, List.mem_singleton] at hx
          rcases hx with hx | rfl
          · exact A0.out x hx
          · exact HQ.out
    · have hltz : ¬ (kk : Int) < (l.length : Int) := by omega
      obtain rfl : kk = l.length := by omega
      go_wp2
      go_ret
      exact ⟨⟨_, rfl, by
        have e1 : l.any p = false := by
          rw [List.any_eq_false]
          intro x hx
          rw [A0.out x (by rw [List.take_length]; exact hx)]; simp
        rw [e1]; simp⟩, BW.out⟩
set_option maxHeartbeats 1000000 in
theorem cfR_any (A : Option Addr) (c : Nat) (l : List S63) (p : S63 → Bool) (g : Nat) (lb : Array Value) (eg : ∀ args w, (callFunc g args).run Try.prog w = .ok (.enter g args) w) (w : World)
    (hr : Kd.C k63 w A l.length l) (hl : l.length ≤ 9223372036854775807) (hp : PredB encR p g lb (fun x => x ∈ l) w) :
    Calls Try.prog 33 #[.slice A l.length c, .func (.func g) #[] lb] w fun e w' => e = .returned (.bool (l.any p)) ∧ Below w.heap.size w w' := by
  have h := idxfR_any A c l p g lb eg w hr hl hp
  generalize hq : l.any p = q
  have HQ := Aside0.mk hq
  clear hq hp hr
  go_enter Try.func33, Try.ntmps33
  go_wp2_with fail
  refine h.mono ?_
  rintro e w' ⟨⟨r, rfl, hd⟩, hb⟩
  rw [HQ.out] at hd
  have HD := Aside0.mk hd
  clear hd h
  go_wp2_with fail
  go_ret
  exact ⟨by rw [← HD.out]; rfl, hb⟩

set_option maxHeartbeats 1000000 in
theorem idxfI_any (A : Option Addr) (c : Nat) (l : List Int) (p : Int → Bool) (g : Nat) (lb : Array Value) (eg : ∀ args w, (callFunc g args).run Try.prog w = .ok (.enter g args) w) (w : World)
    (hr : Kd.C (Kd.int .i64) w A l.length l) (hl : l.length ≤ 9223372036854775807) (hp : PredB encI p g lb (fun x => x ∈ l) w) :
    Calls Try.prog 37 #[.slice A l.length c, .func (.func g) #[] lb] w fun e w' => IdxAt l p e ∧ Below w.heap.size w w' := by
  have HR := Aside0.mk hr
  clear hr
  go_enter Try.func37, Try.ntmps37
  go_wp2
  go_loopg [5, 8] l.length (fun gg _ s8 wr => ∃ kk : Nat, kk ≤ l.length ∧ l.length - kk ≤ gg ∧ s8 = .int .i64 kk ∧ Aside0 (Below w.heap.size w wr) ∧ Aside0 (∀ x, x ∈ l.take kk → p x = false))
  case atStart => exact ⟨0, Nat.zero_le _, by omega, rfl, ⟨Below.refl _ w⟩, ⟨fun x hx => by simp at hx⟩⟩
  case round =>
    obtain ⟨kk, hkk, hg, rfl, BW, A0⟩ := hrel
    by_cases hlt : kk < l.length
    · have hltz : (kk : Int) < (l.length : Int) := by omega
      obtain ⟨ad, e, x0⟩ := (Kd.reads_of_C (d := (0 : Int)) (Kd.C_below HR.out BW.out)).at_ (kk : Int) (by omega) (by omega)
      cases e
      (try rw [Int.toNat_natCast] at x0)
      skip
      have HM := Aside0.mk (show rdOf 0 l (kk : Int) ∈ l ∧ l.take (kk + 1) = l.take kk ++ [rdOf 0 l (kk : Int)] from by
        unfold rdOf
        rw [Int.toNat_natCast, List.getD_eq_getElem?_getD, List.getElem?_eq_getElem hlt]
        exact ⟨List.getElem_mem _, by rw [List.take_succ_eq_append_getElem hlt]; rfl⟩)
      have hcall := hp wr (rdOf 0 l (kk : Int)) HM.out.1 BW.out
      clear hp
      generalize rdOf 0 l (kk : Int) = y at *
      unfold encI at hcall
      cases hq : p y with
      | true =>
        rw [hq] at hcall
        have HQ := Aside0.mk hq
        clear hq
        go_wp2_with fail
        refine hcall.mono ?_
        rintro e w' ⟨rfl, hb'⟩
        clear hcall
        go_wp2_with fail
        go_ret
        exact ⟨⟨_, rfl, by
          have e1 : l.any p = true := List.any_eq_true.2 ⟨y, HM.out.1, HQ.out⟩
          rw [e1]; simp⟩, BW.out.trans (hb'.mono BW.out.size)⟩
      | false =>
        rw [hq] at hcall
        have HQ := Aside0.mk hq
        clear hq
        go_wp2_with fail
        refine hcall.mono ?_
        rintro e w' ⟨rfl, hb'⟩
        clear hcall
        go_wp2_with fail
        go_roundg (l.length - (kk + 1))
        case measure => omega
        case rel =>
          refine ⟨kk + 1, by omega, by omega, by go_num, ⟨BW.out.trans (hb'.mono BW.out.size)⟩, ⟨fun x hx => ?_⟩⟩
          rw [HM.out.2, List.mem_append, List.mem_singleton] at hx
          rcases hx with hx | rfl
          · exact A0.out x hx
          · exact HQ.out
    · have hltz : ¬ (kk : Int) < (l.length : Int) := by omega
      obtain rfl : kk = l.length := by omega
      go_wp2
      go_ret
      exact ⟨⟨_, rfl, by
        have e1 : l.any p = false := by
          rw [List.any_eq_false]
          intro x hx
          rw [A0.out x (by rw [List.take_length]; exact hx)]; simp
        rw [e1]; simp⟩, BW.out⟩
set_option maxHeartbeats 1000000 in
theorem cfI_any (A : Option Addr) (c : Nat) (l : List Int) (p : Int → Bool) (g : Nat) (lb : Array Value) (eg : ∀ args w, (callFunc g args).run Try.prog w = .ok (.enter g args) w) (w : World)
    (hr : Kd.C (Kd.int .i64) w A l.length l) (hl : l.length ≤ 9223372036854775807) (hp : PredB encI p g lb (fun x => x ∈ l) w) :
    Calls Try.prog 25 #[.slice A l.length c, .func (.func g) #[] lb] w fun e w' => e = .returned (.bool (l.any p)) ∧ Below w.heap.size w w' := by
  have h := idxfI_any A c l p g lb eg w hr hl hp
  generalize hq : l.any p = q
  have HQ := Aside0.mk hq
  clear hq hp hr
  go_enter Try.func25, Try.ntmps25
  go_wp2_with fail
  refine h.mono ?_
  rintro e w' ⟨⟨r, rfl, hd⟩, hb⟩
  rw [HQ.out] at hd
  have HD := Aside0.mk hd
  clear hd h
  go_wp2_with fail
  go_ret
  exact ⟨by rw [← HD.out]; rfl, hb⟩
end Go.Proofs.Ytglfpobapkkgdaa.H
