/- Map, EdaA, EdaB, EdaC. -/
import Derived.WalkKit
import Derived.Below
import Derived.MapKept
import Derived.Deep.Draws
import Derived.Test.YtckjhdlpbfcaiaaDEda9
import Derived.Test.YtckjhdlpbfcaiaaDEdaR
/-! ### Map -/
namespace Go.Proofs.Ytckjhdlpbfcaiaa.H
open Go.RowKit
set_option linter.unusedVariables false
set_option linter.unusedSimpArgs false
structure KeyOk (P : Program) (K : TypeId) {α : Type} [DecidableEq α] (enc : α → Value) : Prop where
  chk : ∀ e x w, (Instr.checkKey e 10000 K (enc x)).run P w = .ok () w
  eq : ∀ x y w, (Op.equal K (enc x) (enc y)).run P w = .ok (decide (x = y)) w
  und : ∃ d, P.underlying K = some d ∧ ((∀ x y, Instr.sameNow d (enc x) (enc y) = none) ∨ (∀ x y, Instr.sameNow d (enc x) (enc y) = some (decide (x = y))))
  bits : ∀ x, Instr.sameBits 10000 (enc x) (enc x) = true
section
variable {α β : Type}
def fnd [DecidableEq α] : List (α × β) → α → Nat → Option (Nat × β)
  | [], _, _ => none
  | (a, b) :: t, k, i => if k = a then some (i, b) else fnd t k (i + 1)
def look [DecidableEq α] : List (α × β) → α → Option β
  | [], _ => none
  | (a, b) :: t, k => if k = a then some b else look t k
def upd [DecidableEq α] : List (α × β) → α → β → List (α × β)
  | [], k, v => [(k, v)]
  | (a, b) :: t, k, v => if k = a then (k, v) :: t else (a, b) :: upd t k v
theorem fnd_look [DecidableEq α] (k : α) : ∀ (L : List (α × β)) (i : Nat), (fnd L k i).map (·.2) = look L k
  | [], _ => rfl
  | (a, b) :: t, i => by
    unfold fnd look
    split
    · rfl
    · exact fnd_look k t (i + 1)
def MapAt (w : World) (g : Nat) (encK : α → Value) (encV : β → Value) (L : List (α × β)) : Prop :=
  ∃ es clock, w.heap[g]? = some (.map es clock) ∧ es.toList.map (fun e => (e.key, e.val)) = L.map fun x => (encK x.1, encV x.2)
structure ButBlock (w w' : World) (g : Nat) : Prop where
  os : w'.os = w.os
  tape : w'.tape = w.tape
  output : w'.output = w.output
  size : w'.heap.size = w.heap.size
  block : ∀ k, k ≠ g → w'.heap[k]? = w.heap[k]?
theorem ButBlock.refl (w : World) (g : Nat) : ButBlock w w g := ⟨rfl, rfl, rfl, rfl, fun _ _ => rfl⟩
theorem ButBlock.trans {w w1 w2 : World} {g : Nat} (h : ButBlock w w1 g) (k : ButBlock w1 w2 g) : ButBlock w w2 g :=
  ⟨k.os.trans h.os, k.tape.trans h.tape, k.output.trans h.output, k.size.trans h.size, fun i hi => (k.block i hi).trans (h.block i hi)⟩
theorem ButBlock.below {w w1 w2 : World} {g B : Nat} (h : Below B w w1) (k : ButBlock w1 w2 g) (hg : B ≤ g) : Below B w w2 :=
  ⟨k.os.trans h.os, k.tape.trans h.tape, k.output.trans h.output, by rw [k.size]; exact h.size, fun i hi => (k.block i (by omega)).trans (h.block i hi)⟩
theorem ButBlock.cell {w w1 : World} {g : Nat} (h : ButBlock w w1 g) {a : Addr} (ha : a.block ≠ g) : w1.cell? a = w.cell? a := World.cell?_of_block (w := w) (h.block _ ha)
theorem ButBlock.blk {w w1 : World} {g : Nat} (h : ButBlock w w1 g) {j : Nat} {o : Obj} (hj : w.heap[j]? = some o) (hne : j ≠ g) : w1.heap[j]? = some o := (h.block j hne).trans hj
theorem MapAt.below {w w1 : World} {g : Nat} {encK : α → Value} {encV : β → Value} {L : List (α × β)} (h : MapAt w g encK encV L) (hb : Below w.heap.size w w1) : MapAt w1 g encK encV L := by
  obtain ⟨es, c, hg, hl⟩ := h
  exact ⟨es, c, (hb.block g (Array.getElem?_eq_some_iff.1 hg).1).trans hg, hl⟩
theorem MapAt.lt {w : World} {g : Nat} {encK : α → Value} {encV : β → Value} {L : List (α × β)} (h : MapAt w g encK encV L) : g < w.heap.size := by
  obtain ⟨es, c, hg, hl⟩ := h
  exact (Array.getElem?_eq_some_iff.1 hg).1
theorem MapAt.drew {w : World} {g : Nat} {encK : α → Value} {encV : β → Value} {L : List (α × β)} (h : MapAt w g encK encV L) : MapAt w.drew g encK encV L := h
theorem MapAt.drewN {w : World} {g n : Nat} {encK : α → Value} {encV : β → Value} {L : List (α × β)} (h : MapAt w g encK encV L) : MapAt (w.drewN n) g encK encV L := h
theorem MapAt.alloc {w : World} {g : Nat} {encK : α → Value} {encV : β → Value} {L : List (α × β)} (h : MapAt w g encK encV L) (o : Obj) : MapAt (w.alloc o) g encK encV L := by
  obtain ⟨es, c, hg, hl⟩ := h
  exact ⟨es, c, (Below.heap_alloc w o g (Array.getElem?_eq_some_iff.1 hg).1).trans hg, hl⟩
theorem MapAt.made (w : World) (encK : α → Value) (encV : β → Value) : MapAt (w.alloc (.map #[] 0)) w.heap.size encK encV [] :=
  ⟨#[], 0, heap_alloc_new w _, rfl⟩
variable {P : Program} {K : TypeId} {encK : α → Value} {encV : β → Value}
theorem run_findAsking [DecidableEq α] (hk : KeyOk P K encK) (k : α) (w : World) : ∀ (es : List MapEntry) (L : List (α × β)) (i : Nat), es.map (fun e => (e.key, e.val)) = L.map (fun x => (encK x.1, encV x.2)) →
    (Instr.findAsking K (encK k) es i).run P w = .ok ((fnd L k i).map fun p => (p.1, encV p.2)) w
  | [], [], i, _ => by simp [go_sem, Instr.findAsking, fnd]
  | [], _ :: _, i, h => by simp at h
  | _ :: _, [], i, h => by simp at h
  | e :: es, (a, b) :: L, i, h => by
    simp only [List.map_cons, List.cons.injEq, Prod.mk.injEq] at h
    obtain ⟨⟨h1, h2⟩, h3⟩ := h
    have h4 := hk.eq k a w
    rw [← h1] at h4
    have ih := run_findAsking hk k w es L (i + 1) h3
    unfold Instr.findAsking fnd
    by_cases hka : k = a
    · rw [decide_eq_true hka] at h4
      simp [go_sem, h4, h2, if_pos hka, Result.andThen]
    · rw [decide_eq_false hka] at h4
      simp [go_sem, h4, ih, if_neg hka, Result.andThen]
theorem findNow_some [DecidableEq α] {d : TypeDesc} (hs : ∀ x y : α, Instr.sameNow d (encK x) (encK y) = some (decide (x = y))) (k : α) : ∀ (es : List MapEntry) (L : List (α × β)) (i : Nat), es.map (fun e => (e.key, e.val)) = L.map (fun x => (encK x.1, encV x.2)) →
    Instr.findNow d (encK k) es i = some ((fnd L k i).map fun p => (p.1, encV p.2))
  | [], [], i, _ => rfl
  | [], _ :: _, i, h => by simp at h
  | _ :: _, [], i, h => by simp at h
  | e :: es, (a, b) :: L, i, h => by
    simp only [List.map_cons, List.cons.injEq, Prod.mk.injEq] at h
    obtain ⟨⟨h1, h2⟩, h3⟩ := h
    have ih := findNow_some hs k es L (i + 1) h3
    unfold Instr.findNow fnd
    rw [h1, hs k a]
    by_cases hka : k = a
    · simp [hka, h2]
    · simp [hka, ih]
theorem run_findKey [DecidableEq α] (hk : KeyOk P K encK) (k : α) (w : World) (es : List MapEntry) (L : List (α × β)) (h : es.map (fun e => (e.key, e.val)) = L.map (fun x => (encK x.1, encV x.2))) :
    (Instr.findKey K (encK k) es).run P w = .ok ((fnd L k 0).map fun p => (p.1, encV p.2)) w := by
  obtain ⟨d, hd, hs | hs⟩ := hk.und
  · have hA := run_findAsking hk k w es L 0 h
    unfold Instr.findKey
    cases es with
    | nil =>
      cases L with
      | nil => simp [go_sem, run_underlying hd, Instr.findNow, fnd, Result.andThen]
      | cons x L => simp at h
    | cons e es =>
      cases L with
      | nil => simp at h
      | cons x L =>
        have h1 : e.key = encK x.1 := by simp at h; exact h.1.1
        have h2 : Instr.findNow d (encK k) (e :: es) 0 = none := by
          unfold Instr.findNow
          rw [h1, hs]
        simp [go_sem, run_underlying hd, h2, hA, Result.andThen]
  · have hN := findNow_some (encV := encV) hs k es L 0 h
    unfold Instr.findKey
    simp [go_sem, run_underlying hd, hN, Result.andThen]
theorem run_look [DecidableEq α] (hk : KeyOk P K encK) {T E : TypeId} (hT : P.underlying T = some (.map K E)) {z : Value} {w : World} (hz : (zeroValue E).run P w = .ok z w) {g : Nat} {L : List (α × β)} (hm : MapAt w g encK encV L) (k : α) (ok : Bool) :
    (Instr.lookup T (.map (some g)) (encK k) ok).run P w = .ok (if ok then .tuple #[((look L k).map encV).getD z, .bool (look L k).isSome] else ((look L k).map encV).getD z) w := by
  obtain ⟨es, c, hg, hl⟩ := hm
  have hf := run_findKey (encV := encV) hk k w es.toList L hl
  have hfl := fnd_look k L 0
  unfold Instr.lookup
  cases hr : fnd L k 0 with
  | none =>
    rw [hr] at hf hfl
    have hlk : look L k = none := by rw [← hfl]; rfl
    simp [go_sem, run_underlying hT, MapKept.run_getObj_map hg, hk.chk, hf, hz, hlk, Result.andThen]
  | some p =>
    rw [hr] at hf hfl
    have hlk : look L k = some p.2 := by rw [← hfl]; rfl
    simp [go_sem, run_underlying hT, MapKept.run_getObj_map hg, hk.chk, hf, hlk, Result.andThen]
theorem fnd_spec [DecidableEq α] (k : α) (v : β) : ∀ (L : List (α × β)) (i j : Nat) (b : β), fnd L k i = some (j, b) → ∃ m, j = i + m ∧ L[m]? = some (k, b) ∧ upd L k v = L.set m (k, v)
  | [], i, j, b, h => by simp [fnd] at h
  | (a, c) :: t, i, j, b, h => by
    unfold fnd at h
    split at h
    · rename_i h1
      simp only [Option.some.injEq, Prod.mk.injEq] at h
      obtain ⟨rfl, rfl⟩ := h
      subst h1
      exact ⟨0, rfl, rfl, by simp [upd]⟩
    · rename_i h1
      obtain ⟨m, h2, h3, h4⟩ := fnd_spec k v t (i + 1) j b h
      exact ⟨m + 1, by omega, by simpa using h3, by simp [upd, h1, h4]⟩
theorem fnd_none [DecidableEq α] (k : α) (v : β) : ∀ (L : List (α × β)) (i : Nat), fnd L k i = none → upd L k v = L ++ [(k, v)]
  | [], i, _ => rfl
  | (a, c) :: t, i, h => by
    unfold fnd at h
    split at h
    · cases h
    · rename_i h1
      simp [upd, h1, fnd_none k v t (i + 1) h]
theorem run_upd [DecidableEq α] (hk : KeyOk P K encK) {T E : TypeId} (hT : P.underlying T = some (.map K E)) (w : World) {g : Nat} {L : List (α × β)} (hm : MapAt w g encK encV L) (k : α) (v : β) :
    ∃ w', (Instr.mapUpdate T (.map (some g)) (encK k) (encV v)).run P w = .ok () w' ∧ MapAt w' g encK encV (upd L k v) ∧ ButBlock w w' g := by
  obtain ⟨es, c, hg, hl⟩ := hm
  have hf := run_findKey (encV := encV) hk k w es.toList L hl
  have hlt := (Array.getElem?_eq_some_iff.1 hg).1
  have hbut : ∀ o, ButBlock w { w with heap := w.heap.setIfInBounds g o } g := fun o =>
    ⟨rfl, rfl, rfl, by simp, fun i hi => by simp [Array.getElem?_setIfInBounds, hi.symm]⟩
  have hat : ∀ o, ({ w with heap := w.heap.setIfInBounds g o } : World).heap[g]? = some o := fun o => by simp [Array.getElem?_setIfInBounds, hlt]
  unfold Instr.mapUpdate
  cases hr : fnd L k 0 with
  | none =>
    rw [hr] at hf
    refine ⟨{ w with heap := w.heap.setIfInBounds g (.map (es.push { key := encK k, val := encV v, born := c }) (c + 1)) }, ?_, ⟨_, _, hat _, ?_⟩, hbut _⟩
    · simp [go_sem, run_underlying hT, MapKept.run_getObj_map hg, MapKept.run_setObj_map _ hg, hk.chk, hf, Result.andThen]
    · rw [fnd_none k v L 0 hr]
      simp [hl]
  | some p =>
    obtain ⟨j, b⟩ := p
    obtain ⟨m, hjm, hLm, hu⟩ := fnd_spec k v L 0 j b hr
    rw [Nat.zero_add] at hjm
    subst hjm
    rw [hr] at hf
    have hkey : (es[j]?).map (·.key) = some (encK k) := by
      have h1 : (es.toList.map (fun e => (e.key, e.val)))[j]? = some (encK k, encV b) := by rw [hl]; simp [hLm]
      simp only [List.getElem?_map, Array.getElem?_toList] at h1
      cases he : es[j]? with
      | none => rw [he] at h1; simp at h1
      | some e => rw [he] at h1; simp at h1; simp [h1.1]
    refine ⟨{ w with heap := w.heap.setIfInBounds g (.map (es.modify j fun e => { e with key := encK k, val := encV v }) c) }, ?_, ⟨_, _, hat _, ?_⟩, hbut _⟩
    · have hkey' : (Option.map (fun x => x.key) es[j]?).getD (encK k) = encK k := by rw [hkey]; rfl
      simp [go_sem, run_underlying hT, MapKept.run_getObj_map hg, MapKept.run_setObj_map _ hg, hk.chk, hf, Result.andThen, Instr.keyThatStays, hk.bits, hkey']
    · rw [hu]
      apply List.ext_getElem?
      intro i
      have h2 : (es.toList.map (fun e => (e.key, e.val)))[i]? = (L.map (fun x => (encK x.1, encV x.2)))[i]? := by rw [hl]
      simp only [List.getElem?_map, Array.getElem?_toList, Array.getElem?_modify, List.getElem?_set] at h2 ⊢
      by_cases hi : j = i
      · subst hi
        have hjl : j < L.length := (List.getElem?_eq_some_iff.1 hLm).1
        cases he : es[j]? with
        | none => rw [he] at hkey; simp at hkey
        | some e => simp [hjl]
      · simp [hi, h2]
end
end Go.Proofs.Ytckjhdlpbfcaiaa.H
/-! ### EdaA -/
namespace Go.Proofs.Ytckjhdlpbfcaiaa.H
open Go.RowKit Go.Proofs.Ytckjhdlpbfcaiaa.P Go.Proofs.YtckjhdlpbfcaiaaW.PrintWords Go.Proofs.YtckjhdlpbfcaiaaW.PrintLast Go.Proofs.YtckjhdlpbfcaiaaW.PrintMore
set_option linter.unusedVariables false
set_option linter.unusedSimpArgs false
set_option maxRecDepth 100000
theorem bsGo_le (l : List Rul) (id : Int) : ∀ (k i j : Nat), i ≤ j → bsGo l id k i j ≤ j
  | 0, i, j, h => h
  | k + 1, i, j, h => by
    rw [bsGo]
    split
    · split
      · exact bsGo_le l id k _ _ (by omega)
      · exact Nat.le_trans (bsGo_le l id k _ _ (by omega)) (by omega)
    · exact h
theorem bsI_le (l : List Rul) (id : Int) : bsI l id ≤ l.length := bsGo_le l id _ _ _ (Nat.zero_le _)
def encI (k : Int) : Value := .int .i64 k
def encF (f : Nat) : Value := .func (.func f) #[] #[]
def doesM : List (Int × Nat) := [(0, 44), (1, 46), (2, 48)]
theorem keyK : KeyOk Try.prog 29 encI := by
  refine ⟨fun e x w => rfl, fun x y w => ?_, ⟨_, Try.underlying29, .inr fun x y => ?_⟩, fun x => ?_⟩
  · show (Op.equalIn (9999 + 1) 29 (.int .i64 x) (.int .i64 y)).run Try.prog w = _
    unfold Op.equalIn
    simp [run_underlying Try.underlying29, Result.andThen]
    by_cases h : x = y <;> simp [h]
  · by_cases h : x = y <;> simp [encI, Instr.sameNow, h]
  · simp [encI, Instr.sameBits]
theorem does_any (w : World) : Calls Try.prog 35 #[] w fun e w' => ∃ g, e = .returned (.map (some g)) ∧ MapAt w' g encI encF doesM ∧ Below w.heap.size w w' := by
  have hmm := @run_makeMap Try.prog
  obtain ⟨w1, hu1, hm1, hb1⟩ := run_upd (encV := encF) keyK Try.underlying62 _ (MapAt.made w encI encF) 0 44
  obtain ⟨w2, hu2, hm2, hb2⟩ := run_upd (encV := encF) keyK Try.underlying62 _ hm1 1 46
  obtain ⟨w3, hu3, hm3, hb3⟩ := run_upd (encV := encF) keyK Try.underlying62 _ hm2 2 48
  have HM := Aside0.mk (show MapAt w3 w.heap.size encI encF doesM from hm3)
  have HB := Aside0.mk (hb3.below (hb2.below (hb1.below ((Below.refl w.heap.size w).alloc (Nat.le_refl _) _) (Nat.le_refl _)) (Nat.le_refl _)) (Nat.le_refl _))
  unfold encI encF at hu1 hu2 hu3
  clear hm1 hm2 hm3 hb1 hb2 hb3
  go_enter Try.func35, Try.ntmps35
  go_wp2_with fail
  go_ret
  exact ⟨_, rfl, HM.out, HB.out⟩
end Go.Proofs.Ytckjhdlpbfcaiaa.H
/-! ### EdaB -/
namespace Go.Proofs.Ytckjhdlpbfcaiaa.H
open Go.RowKit Go.Proofs.Ytckjhdlpbfcaiaa.P Go.Proofs.YtckjhdlpbfcaiaaW.PrintWords Go.Proofs.YtckjhdlpbfcaiaaW.PrintLast Go.Proofs.YtckjhdlpbfcaiaaW.PrintMore
set_option linter.unusedVariables false
set_option linter.unusedSimpArgs false
set_option maxRecDepth 100000
def encEd (k : Int) (r : Rul) : Value := .agg #[.int .i64 k, .int .i64 r.f0, .int .i64 r.f1, .int .i64 r.f2, .int .i64 r.f3, .int .u32 r.f4.f0, .int .u32 r.f4.f1, .int .i64 r.f5]
theorem zeroF (w : World) : (zeroValue 60).run Try.prog w = .ok .nilFunc w := by kernel_rfl
theorem look_f (g : Nat) (k : Int) (f : Nat) (W : World) (hm : MapAt W g encI encF doesM) (hk : look doesM k = some f) : (Instr.lookup 62 (.map (some g)) (.int .i64 k) true).run Try.prog W = .ok (.tuple #[.func (.func f) #[] #[], .bool true]) W := by
  have h := run_look (encV := encF) keyK Try.underlying62 (zeroF W) hm k true
  rw [hk] at h
  exact h
theorem look_no (g : Nat) (k : Int) (W : World) (hm : MapAt W g encI encF doesM) (hk : look doesM k = none) : (Instr.lookup 62 (.map (some g)) (.int .i64 k) true).run Try.prog W = .ok (.tuple #[.nilFunc, .bool false]) W := by
  have h := run_look (encV := encF) keyK Try.underlying62 (zeroF W) hm k true
  rw [hk] at h
  exact h
theorem done_base {L : List Rul} {kk : Int} {B B' : Nat} {w w1 w2 : World} {e : Ending} (h : DoneR L kk B' w1 e w2) (hb : Below B w w1) (hB : B ≤ B') : DoneR L kk B w e w2 := by
  obtain ⟨v, h1, h2, h3⟩ := h
  exact ⟨v, h1, own_base h2 hB, hb.trans (h3.mono hB)⟩
theorem edit_cells {w : World} {b : Nat} {k : Int} {r : Rul} (h : w.heap[b]? = some (.cells #[.int .i64 k, .int .i64 r.f0, .int .i64 r.f1, .int .i64 r.f2, .int .i64 r.f3, .int .u32 r.f4.f0, .int .u32 r.f4.f1, .int .i64 r.f5] 37)) : w.cell? ⟨b, 0, none⟩ = some (.int .i64 k) ∧ w.cell? ⟨b, 1, none⟩ = some (.int .i64 r.f0) ∧ w.cell? ⟨b, 2, none⟩ = some (.int .i64 r.f1) ∧ w.cell? ⟨b, 3, none⟩ = some (.int .i64 r.f2) ∧ w.cell? ⟨b, 4, none⟩ = some (.int .i64 r.f3) ∧ w.cell? ⟨b, 5, none⟩ = some (.int .u32 r.f4.f0) ∧ w.cell? ⟨b, 6, none⟩ = some (.int .u32 r.f4.f1) ∧ w.cell? ⟨b, 7, none⟩ = some (.int .i64 r.f5) :=
  ⟨blk_cell h 0, blk_cell h 1, blk_cell h 2, blk_cell h 3, blk_cell h 4, blk_cell h 5, blk_cell h 6, blk_cell h 7⟩
set_option maxHeartbeats 4000000 in
theorem apply_run (A : Option Addr) (c : Nat) (l : List Rul) (k : Int) (r : Rul) (f : Nat) (w : World) (hr : Kd.C k35 w A l.length l) (hl : l.length * 48 ≤ 140737488355328) (hk : look doesM k = some f) (hok : k ≠ 1 → okRule r = true) (L : List Rul) (kk : Int)
    (hf : ∀ W, Below w.heap.size w W → Calls Try.prog f #[.slice A l.length c, encR r, .int .i64 (bsI l r.f0 : Nat), .bool (bsF l r.f0)] W (DoneR L kk W.heap.size W)) (eg : ∀ args w, (callFunc f args).run Try.prog w = .ok (.enter f args) w) :
    Calls Try.prog 17 #[.slice A l.length c, encEd k r] w (DoneR L kk w.heap.size w) := by
  have HB := Aside0.mk ((Below.refl w.heap.size w).alloc (Nat.le_refl _) (.cells #[.int .i64 k, .int .i64 r.f0, .int .i64 r.f1, .int .i64 r.f2, .int .i64 r.f3, .int .u32 r.f4.f0, .int .u32 r.f4.f1, .int .i64 r.f5] 37))
  have HX := Aside0.mk (blk_new w (.cells #[.int .i64 k, .int .i64 r.f0, .int .i64 r.f1, .int .i64 r.f2, .int .i64 r.f3, .int .u32 r.f4.f0, .int .u32 r.f4.f1, .int .i64 r.f5] 37))
  have HG0 := Aside0.mk (show (w.alloc (.cells #[.int .i64 k, .int .i64 r.f0, .int .i64 r.f1, .int .i64 r.f2, .int .i64 r.f3, .int .u32 r.f4.f0, .int .u32 r.f4.f1, .int .i64 r.f5] 37)).heap.size = w.heap.size + 1 from by simp)
  have HD := Aside0.mk (fun W => does_any W)
  have HLK := Aside0.mk (fun g W hm => look_f g k f W hm hk)
  have HAT := Aside0.mk (fun W (hW : Below w.heap.size w W) => at_any A c l r.f0 W (Kd.C_below hr hW) hl)
  have HRT := Aside0.mk (fun W => rightP_any r W)
  have HOK := Aside0.mk hok
  have HF := Aside0.mk hf
  have hu := Try.underlying35
  have hue := Try.underlying37
  unfold encEd
  clear hr hl hk hok hf
  go_enter Try.func17, Try.ntmps17
  go_wp2_with fail
  generalize (w.alloc (.cells #[.int .i64 k, .int .i64 r.f0, .int .i64 r.f1, .int .i64 r.f2, .int .i64 r.f3, .int .u32 r.f4.f0, .int .u32 r.f4.f1, .int .i64 r.f5] 37)) = W0 at *
  obtain ⟨x0, x1, x2, x3, x4, x5, x6, x7⟩ := edit_cells HX.out
  have hc : W0.cell? ⟨w.heap.size, 0, none⟩ = some (.int .i64 k) := x0
  go_region_held3 (fun w' => w'.cell? ⟨w.heap.size, 0, none⟩ = some (.int .i64 k)) (first | assumption | go_keep) (first
    | (go_at_call 35; refine (HD.out _).mono ?_; rintro e w3 ⟨g, rfl, hm, hb⟩; have HJ := Aside0.mk ((below_drew (Below.refl W0.heap.size W0)).trans hb); have K1 := (edit_cells (blk_below (blk_drew HX.out) hb)).1; have hlk := HLK.out g w3 hm; clear hb hm))
  clear x0 x1 x2 x3 x4 x5 x6 x7 hc hlk K1
  have HJ2 := Aside0.mk (HB.out.trans (HJ.out.mono HB.out.size))
  obtain ⟨x0, x1, x2, x3, x4, x5, x6, x7⟩ := edit_cells (blk_below HX.out HJ.out)
  by_cases h1 : k = 1
  · have b1 : (k == 1) = true := by simpa using h1
    have b2 : (k != 1) = false := by simp [h1]
    clear h1
    go_wp2_with fail
    refine (HAT.out _ HJ2.out).mono ?_
    rintro e w4 ⟨rfl, hb⟩
    have HJ3 := Aside0.mk (HJ2.out.trans (hb.mono HJ2.out.size))
    obtain ⟨y0, y1, y2, y3, y4, y5, y6, y7⟩ := edit_cells (blk_below HX.out (HJ.out.trans (hb.mono HJ.out.size)))
    clear x0 x1 x2 x3 x4 x5 x6 x7 hb
    go_wp2_with fail
    refine (HF.out _ HJ3.out).mono ?_
    rintro e w5 hd
    have HH := Aside0.mk (done_base hd HJ3.out HJ3.out.size)
    obtain ⟨v, rfl, hv1, hv2⟩ := hd
    clear hv1 hv2
    go_wp2_with fail
    go_ret2
    exact HH.out
  · have b1 : (k == 1) = false := by simpa using h1
    have b2 : (k != 1) = true := by simp [h1]
    have HOKR := Aside0.mk (HOK.out h1)
    clear h1
    go_wp2_with fail
    refine (HRT.out _).mono ?_
    rintro e w4 ⟨rfl, hb⟩
    rw [HOKR.out]
    have HJ4 := Aside0.mk (HJ2.out.trans (hb.mono HJ2.out.size))
    have HJ5 := Aside0.mk (HJ.out.trans (hb.mono HJ.out.size))
    obtain ⟨z0, z1, z2, z3, z4, z5, z6, z7⟩ := edit_cells (blk_below HX.out HJ5.out)
    clear hb x0 x1 x2 x3 x4 x5 x6 x7
    have x0 := z0; have x1 := z1; have x2 := z2; have x3 := z3; have x4 := z4; have x5 := z5; have x6 := z6; have x7 := z7
    clear z0 z1 z2 z3 z4 z5 z6 z7
    go_wp2_with fail
    refine (HAT.out _ HJ4.out).mono ?_
    rintro e w6 ⟨rfl, hb⟩
    have HJ3 := Aside0.mk (HJ4.out.trans (hb.mono HJ4.out.size))
    obtain ⟨y0, y1, y2, y3, y4, y5, y6, y7⟩ := edit_cells (blk_below HX.out (HJ5.out.trans (hb.mono HJ5.out.size)))
    clear x0 x1 x2 x3 x4 x5 x6 x7 hb
    go_wp2_with fail
    refine (HF.out _ HJ3.out).mono ?_
    rintro e w7 hd
    have HH := Aside0.mk (done_base hd HJ3.out HJ3.out.size)
    obtain ⟨v, rfl, hv1, hv2⟩ := hd
    clear hv1 hv2
    go_wp2_with fail
    go_ret2
    exact HH.out
end Go.Proofs.Ytckjhdlpbfcaiaa.H
/-! ### EdaC -/
namespace Go.Proofs.Ytckjhdlpbfcaiaa.H
open Go.RowKit Go.Proofs.Ytckjhdlpbfcaiaa.P Go.Proofs.YtckjhdlpbfcaiaaW.PrintWords Go.Proofs.YtckjhdlpbfcaiaaW.PrintLast Go.Proofs.YtckjhdlpbfcaiaaW.PrintMore
set_option linter.unusedVariables false
set_option linter.unusedSimpArgs false
set_option maxRecDepth 100000
set_option maxHeartbeats 4000000 in
theorem apply_kind (A : Option Addr) (c : Nat) (l : List Rul) (k : Int) (r : Rul) (w : World) (hk : look doesM k = none) :
    Calls Try.prog 17 #[.slice A l.length c, encEd k r] w (DoneR [] 141 w.heap.size w) := by
  have HB := Aside0.mk ((Below.refl w.heap.size w).alloc (Nat.le_refl _) (.cells #[.int .i64 k, .int .i64 r.f0, .int .i64 r.f1, .int .i64 r.f2, .int .i64 r.f3, .int .u32 r.f4.f0, .int .u32 r.f4.f1, .int .i64 r.f5] 37))
  have HX := Aside0.mk (blk_new w (.cells #[.int .i64 k, .int .i64 r.f0, .int .i64 r.f1, .int .i64 r.f2, .int .i64 r.f3, .int .u32 r.f4.f0, .int .u32 r.f4.f1, .int .i64 r.f5] 37))
  have HD := Aside0.mk (fun W => does_any W)
  have HLK := Aside0.mk (fun g W hm => look_no g k W hm hk)
  have HRT := Aside0.mk (fun W => rightP_any r W)
  clear hk
  have hu := Try.underlying35
  have hue := Try.underlying37
  unfold encEd
  go_enter Try.func17, Try.ntmps17
  go_wp2_with fail
  generalize (w.alloc (.cells #[.int .i64 k, .int .i64 r.f0, .int .i64 r.f1, .int .i64 r.f2, .int .i64 r.f3, .int .u32 r.f4.f0, .int .u32 r.f4.f1, .int .i64 r.f5] 37)) = W0 at *
  obtain ⟨x0, x1, x2, x3, x4, x5, x6, x7⟩ := edit_cells HX.out
  have hc : W0.cell? ⟨w.heap.size, 0, none⟩ = some (.int .i64 k) := x0
  go_region_held3 (fun w' => w'.cell? ⟨w.heap.size, 0, none⟩ = some (.int .i64 k)) (first | assumption | go_keep) (first
    | (go_at_call 35; refine (HD.out _).mono ?_; rintro e w3 ⟨g, rfl, hm, hb⟩; have HJ := Aside0.mk ((below_drew (Below.refl W0.heap.size W0)).trans hb); have K1 := (edit_cells (blk_below (blk_drew HX.out) hb)).1; have hlk := HLK.out g w3 hm; clear hb hm))
  clear x0 x1 x2 x3 x4 x5 x6 x7 hc hlk K1
  have HJ2 := Aside0.mk (HB.out.trans (HJ.out.mono HB.out.size))
  obtain ⟨x0, x1, x2, x3, x4, x5, x6, x7⟩ := edit_cells (blk_below HX.out HJ.out)
  go_wp2_with fail
  go_ret2
  exact ⟨_, rfl, own_nil _ _, HJ2.out⟩
set_option maxHeartbeats 4000000 in
theorem apply_wrong (A : Option Addr) (c : Nat) (l : List Rul) (k : Int) (r : Rul) (f : Nat) (w : World) (hk : look doesM k = some f) (hok : k ≠ 1 ∧ okRule r = false) :
    Calls Try.prog 17 #[.slice A l.length c, encEd k r] w (DoneR [] 141 w.heap.size w) := by
  have HB := Aside0.mk ((Below.refl w.heap.size w).alloc (Nat.le_refl _) (.cells #[.int .i64 k, .int .i64 r.f0, .int .i64 r.f1, .int .i64 r.f2, .int .i64 r.f3, .int .u32 r.f4.f0, .int .u32 r.f4.f1, .int .i64 r.f5] 37))
  have HX := Aside0.mk (blk_new w (.cells #[.int .i64 k, .int .i64 r.f0, .int .i64 r.f1, .int .i64 r.f2, .int .i64 r.f3, .int .u32 r.f4.f0, .int .u32 r.f4.f1, .int .i64 r.f5] 37))
  have HD := Aside0.mk (fun W => does_any W)
  have HLK := Aside0.mk (fun g W hm => look_f g k f W hm hk)
  have HRT := Aside0.mk (fun W => rightP_any r W)
  have HOK := Aside0.mk hok.2
  have b1 : (k == 1) = false := by simpa using hok.1
  have b2 : (k != 1) = true := by simp [hok.1]
  clear hk hok
  have hu := Try.underlying35
  have hue := Try.underlying37
  unfold encEd
  go_enter Try.func17, Try.ntmps17
  go_wp2_with fail
  generalize (w.alloc (.cells #[.int .i64 k, .int .i64 r.f0, .int .i64 r.f1, .int .i64 r.f2, .int .i64 r.f3, .int .u32 r.f4.f0, .int .u32 r.f4.f1, .int .i64 r.f5] 37)) = W0 at *
  obtain ⟨x0, x1, x2, x3, x4, x5, x6, x7⟩ := edit_cells HX.out
  have hc : W0.cell? ⟨w.heap.size, 0, none⟩ = some (.int .i64 k) := x0
  go_region_held3 (fun w' => w'.cell? ⟨w.heap.size, 0, none⟩ = some (.int .i64 k)) (first | assumption | go_keep) (first
    | (go_at_call 35; refine (HD.out _).mono ?_; rintro e w3 ⟨g, rfl, hm, hb⟩; have HJ := Aside0.mk ((below_drew (Below.refl W0.heap.size W0)).trans hb); have K1 := (edit_cells (blk_below (blk_drew HX.out) hb)).1; have hlk := HLK.out g w3 hm; clear hb hm))
  clear x0 x1 x2 x3 x4 x5 x6 x7 hc hlk K1
  have HJ2 := Aside0.mk (HB.out.trans (HJ.out.mono HB.out.size))
  obtain ⟨x0, x1, x2, x3, x4, x5, x6, x7⟩ := edit_cells (blk_below HX.out HJ.out)
  go_wp2_with fail
  refine (HRT.out _).mono ?_
  rintro e w4 ⟨rfl, hb⟩
  rw [HOK.out]
  have HJ4 := Aside0.mk (HJ2.out.trans (hb.mono HJ2.out.size))
  clear hb x0 x1 x2 x3 x4 x5 x6 x7
  go_wp2_with fail
  go_ret2
  exact ⟨_, rfl, own_nil _ _, HJ4.out⟩
def applyL (l : List Rul) (k : Int) (r : Rul) : List Rul × Int :=
  if (k < 0 ∨ 2 < k) ∨ (k ≠ 1 ∧ okRule r = false) then ([], 141) else
  if k = 0 then (if bsF l r.f0 = true then ([], 142) else if 40 ≤ l.length then ([], 41) else (l.take (bsI l r.f0) ++ r :: l.drop (bsI l r.f0), 0)) else
  if bsF l r.f0 = false then ([], 143) else
  if k = 1 then (l.take (bsI l r.f0) ++ l.drop (bsI l r.f0 + 1), 0) else (l.set (bsI l r.f0) r, 0)
theorem look_doesM (k : Int) : (k < 0 ∨ 2 < k) → look doesM k = none := by
  intro h
  unfold doesM
  rw [look, if_neg (by omega), look, if_neg (by omega), look, if_neg (by omega), look]
set_option maxHeartbeats 4000000 in
theorem does1_err (A : Option Addr) (c : Nat) (l : List Rul) (r : Rul) (i : Nat) (is : Bool) (w : World) (h : is = true ∨ 40 ≤ l.length) :
    Calls Try.prog 44 #[.slice A l.length c, encR r, .int .i64 (i : Nat), .bool is] w (DoneR [] (if is = true then 142 else 41) w.heap.size w) := by
  have HB := Aside0.mk (boxed r w)
  unfold encR
  cases is with
  | true =>
    clear h
    go_enter Try.func44, Try.ntmps44
    go_wp2_with fail
    go_ret2
    exact ⟨_, rfl, own_nil _ _, HB.out⟩
  | false =>
    have hlt : (40 : Int) ≤ (l.length : Int) := by have := h.resolve_left (by simp); omega
    clear h
    go_enter Try.func44, Try.ntmps44
    go_wp2_with fail
    go_ret2
    exact ⟨_, rfl, own_nil _ _, HB.out⟩
theorem apply_any (A : Option Addr) (c : Nat) (l : List Rul) (k : Int) (r : Rul) (w : World) (hr : Kd.C k35 w A l.length l) (hc : l.length ≤ c) (hl : l.length * 48 ≤ 140737488355328) :
    Calls Try.prog 17 #[.slice A l.length c, encEd k r] w (DoneR (applyL l k r).1 (applyL l k r).2 w.heap.size w) := by
  have e1 := enters' Try.func44 (by kernel_rfl) rfl
  have e2 := enters' Try.func46 (by kernel_rfl) rfl
  have e3 := enters' Try.func48 (by kernel_rfl) rfl
  have hle := bsI_le l r.f0
  unfold applyL
  by_cases h1 : k < 0 ∨ 2 < k
  · rw [if_pos (.inl h1)]
    exact apply_kind A c l k r w (look_doesM k h1)
  · by_cases h2 : k ≠ 1 ∧ okRule r = false
    · rw [if_pos (.inr h2)]
      rcases (show k = 0 ∨ k = 2 from by omega) with rfl | rfl
      · exact apply_wrong A c l _ r _ w rfl h2
      · exact apply_wrong A c l _ r _ w rfl h2
    · rw [if_neg (fun q => q.elim h1 h2)]
      have hok : k ≠ 1 → okRule r = true := fun q => by
        cases hq : okRule r
        · exact absurd ⟨q, hq⟩ h2
        · rfl
      by_cases k0 : k = 0
      · subst k0
        rw [if_pos rfl]
        by_cases hb : bsF l r.f0 = true
        · rw [if_pos hb]
          refine apply_run A c l 0 r _ w hr hl rfl hok _ _ (fun W hW => ?_) e1
          have := does1_err A c l r (bsI l r.f0) (bsF l r.f0) W (.inl hb)
          rw [if_pos hb] at this
          exact this
        · rw [if_neg hb]
          by_cases h40 : 40 ≤ l.length
          · rw [if_pos h40]
            refine apply_run A c l 0 r _ w hr hl rfl hok _ _ (fun W hW => ?_) e1
            have := does1_err A c l r (bsI l r.f0) (bsF l r.f0) W (.inr h40)
            rw [if_neg hb] at this
            exact this
          · rw [if_neg h40]
            refine apply_run A c l 0 r _ w hr hl rfl hok _ _ (fun W hW => ?_) e1
            have hb' : bsF l r.f0 = false := by simpa using hb
            rw [hb']
            exact does1_ok A c l r (bsI l r.f0) W (Kd.C_below hr hW) hc (by omega) hle
      · rw [if_neg k0]
        by_cases k1 : k = 1
        · subst k1
          refine apply_run A c l 1 r _ w hr hl rfl hok _ _ (fun W hW => ?_) e2
          have := does2_any A c l r (bsI l r.f0) (bsF l r.f0) W (Kd.C_below hr hW) hc hl bsF_lt
          cases hb : bsF l r.f0 <;> rw [hb] at this <;> exact this
        · obtain rfl : k = 2 := by omega
          refine apply_run A c l 2 r _ w hr hl rfl hok _ _ (fun W hW => ?_) e3
          have := does3_any A c l r (bsI l r.f0) (bsF l r.f0) W (Kd.C_below hr hW) hc hl bsF_lt
          cases hb : bsF l r.f0 <;> rw [hb] at this <;> exact this
end Go.Proofs.Ytckjhdlpbfcaiaa.H
