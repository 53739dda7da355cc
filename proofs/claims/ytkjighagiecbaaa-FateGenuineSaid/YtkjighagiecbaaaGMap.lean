/- Map. -/
import Derived.WalkKit
import Derived.Below
import Derived.MapKept
import Derived.Deep.Draws
namespace Go.Proofs.Ytkjighagiecbaaa.H
open Go.RowKit
set_option linter.unusedVariables false
set_option linter.unusedSimpArgs false
structure KeyOk (P : Program) (K : TypeId) {α : Type} [DecidableEq α] (enc : α → Value) : Prop where
  chk : ∀ e x w, (Instr.checkKey e 10000 K (enc x)).run P w = .ok () w
  eq : ∀ x y w, (Op.equal K (enc x) (enc y)).run P w = .ok (decide (x = y)) w
  und : ∃ d, P.underlying K = some d ∧ ((∀ x y, Instr.sameNow d (enc x) (enc y) = none) ∨ (∀ x y, Instr.sameNow d (enc x) (enc y) = some (decide (x = y))))
  bits : ∀ x, Instr.sameBits 10000 (enc x) (enc x) = true
section
variable {α β : Type}
def fnd [DecidableEq α] : List (α × β) → α → Nat → Option (Nat × β)
  | [], _, _ => none
  | (a, b) :: t, k, i => if k = a then some (i, b) else fnd t k (i + 1)
def look [DecidableEq α] : List (α × β) → α → Option β
  | [], _ => none
  | (a, b) :: t, k => if k = a then some b else look t k
def upd [DecidableEq α] : List (α × β) → α → β → List (α × β)
  | [], k, v => [(k, v)]
  | (a, b) :: t, k, v => if k = a then (k, v) :: t else (a, b) :: upd t k v
theorem fnd_look [DecidableEq α] (k : α) : ∀ (L : List (α × β)) (i : Nat), (fnd L k i).map (·.2) = look L k
  | [], _ => rfl
  | (a, b) :: t, i => by
    unfold fnd look
    split
    · rfl
    · exact fnd_look k t (i + 1)
theorem look_upd [DecidableEq α] (v : β) (k k' : α) : ∀ (L : List (α × β)), look (upd L k v) k' = if k' = k then some v else look L k'
  | [] => by simp [upd, look]
  | (a, b) :: t => by
    by_cases h : k = a
    · subst h
      simp only [upd, if_true, look]
      split <;> rfl
    · simp only [upd, if_neg h, look]
      split
      · rename_i h1
        subst h1
        rw [if_neg (fun e => h e.symm)]
      · exact look_upd v k k' t
def MapAt (w : World) (g : Nat) (encK : α → Value) (encV : β → Value) (L : List (α × β)) : Prop :=
  ∃ es clock, w.heap[g]? = some (.map es clock) ∧ es.toList.map (fun e => (e.key, e.val)) = L.map fun x => (encK x.1, encV x.2)
structure ButBlock (w w' : World) (g : Nat) : Prop where
  os : w'.os = w.os
  tape : w'.tape = w.tape
  output : w'.output = w.output
  size : w'.heap.size = w.heap.size
  block : ∀ k, k ≠ g → w'.heap[k]? = w.heap[k]?
theorem ButBlock.refl (w : World) (g : Nat) : ButBlock w w g := ⟨rfl, rfl, rfl, rfl, fun _ _ => rfl⟩
theorem ButBlock.trans {w w1 w2 : World} {g : Nat} (h : ButBlock w w1 g) (k : ButBlock w1 w2 g) : ButBlock w w2 g :=
  ⟨k.os.trans h.os, k.tape.trans h.tape, k.output.trans h.output, k.size.trans h.size, fun i hi => (k.block i hi).trans (h.block i hi)⟩
theorem ButBlock.below {w w1 w2 : World} {g B : Nat} (h : Below B w w1) (k : ButBlock w1 w2 g) (hg : B ≤ g) : Below B w w2 :=
  ⟨k.os.trans h.os, k.tape.trans h.tape, k.output.trans h.output, by rw [k.size]; exact h.size, fun i hi => (k.block i (by omega)).trans (h.block i hi)⟩
theorem ButBlock.cell {w w1 : World} {g : Nat} (h : ButBlock w w1 g) {a : Addr} (ha : a.block ≠ g) : w1.cell? a = w.cell? a := World.cell?_of_block (w := w) (h.block _ ha)
theorem ButBlock.blk {w w1 : World} {g : Nat} (h : ButBlock w w1 g) {j : Nat} {o : Obj} (hj : w.heap[j]? = some o) (hne : j ≠ g) : w1.heap[j]? = some o := (h.block j hne).trans hj
theorem MapAt.below {w w1 : World} {g : Nat} {encK : α → Value} {encV : β → Value} {L : List (α × β)} (h : MapAt w g encK encV L) (hb : Below w.heap.size w w1) : MapAt w1 g encK encV L := by
  obtain ⟨es, c, hg, hl⟩ := h
  exact ⟨es, c, (hb.block g (Array.getElem?_eq_some_iff.1 hg).1).trans hg, hl⟩
theorem MapAt.lt {w : World} {g : Nat} {encK : α → Value} {encV : β → Value} {L : List (α × β)} (h : MapAt w g encK encV L) : g < w.heap.size := by
  obtain ⟨es, c, hg, hl⟩ := h
  exact (Array.getElem?_eq_some_iff.1 hg).1
theorem MapAt.drew {w : World} {g : Nat} {encK : α → Value} {encV : β → Value} {L : List (α × β)} (h : MapAt w g encK encV L) : MapAt w.drew g encK encV L := h
theorem MapAt.drewN {w : World} {g n : Nat} {encK : α → Value} {encV : β → Value} {L : List (α × β)} (h : MapAt w g encK encV L) : MapAt (w.drewN n) g encK encV L := h
theorem MapAt.alloc {w : World} {g : Nat} {encK : α → Value} {encV : β → Value} {L : List (α × β)} (h : MapAt w g encK encV L) (o : Obj) : MapAt (w.alloc o) g encK encV L := by
  obtain ⟨es, c, hg, hl⟩ := h
  exact ⟨es, c, (Below.heap_alloc w o g (Array.getElem?_eq_some_iff.1 hg).1).trans hg, hl⟩
theorem MapAt.made (w : World) (encK : α → Value) (encV : β → Value) : MapAt (w.alloc (.map #[] 0)) w.heap.size encK encV [] :=
  ⟨#[], 0, heap_alloc_new w _, rfl⟩
variable {P : Program} {K : TypeId} {encK : α → Value} {encV : β → Value}
theorem run_findAsking [DecidableEq α] (hk : KeyOk P K encK) (k : α) (w : World) : ∀ (es : List MapEntry) (L : List (α × β)) (i : Nat), es.map (fun e => (e.key, e.val)) = L.map (fun x => (encK x.1, encV x.2)) →
    (Instr.findAsking K (encK k) es i).run P w = .ok ((fnd L k i).map fun p => (p.1, encV p.2)) w
  | [], [], i, _ => by simp [go_sem, Instr.findAsking, fnd]
  | [], _ :: _, i, h => by simp at h
  | _ :: _, [], i, h => by simp at h
  | e :: es, (a, b) :: L, i, h => by
    simp only [List.map_cons, List.cons.injEq, Prod.mk.injEq] at h
    obtain ⟨⟨h1, h2⟩, h3⟩ := h
    have h4 := hk.eq k a w
    rw [← h1] at h4
    have ih := run_findAsking hk k w es L (i + 1) h3
    unfold Instr.findAsking fnd
    by_cases hka : k = a
    · rw [decide_eq_true hka] at h4
      simp [go_sem, h4, h2, if_pos hka, Result.andThen]
    · rw [decide_eq_false hka] at h4
      simp [go_sem, h4, ih, if_neg hka, Result.andThen]
theorem findNow_some [DecidableEq α] {d : TypeDesc} (hs : ∀ x y : α, Instr.sameNow d (encK x) (encK y) = some (decide (x = y))) (k : α) : ∀ (es : List MapEntry) (L : List (α × β)) (i : Nat), es.map (fun e => (e.key, e.val)) = L.map (fun x => (encK x.1, encV x.2)) →
    Instr.findNow d (encK k) es i = some ((fnd L k i).map fun p => (p.1, encV p.2))
  | [], [], i, _ => rfl
  | [], _ :: _, i, h => by simp at h
  | _ :: _, [], i, h => by simp at h
  | e :: es, (a, b) :: L, i, h => by
    simp only [List.map_cons, List.cons.injEq, Prod.mk.injEq] at h
    obtain ⟨⟨h1, h2⟩, h3⟩ := h
    have ih := findNow_some hs k es L (i + 1) h3
    unfold Instr.findNow fnd
    rw [h1, hs k a]
    by_cases hka : k = a
    · simp [hka, h2]
    · simp [hka, ih]
theorem run_findKey [DecidableEq α] (hk : KeyOk P K encK) (k : α) (w : World) (es : List MapEntry) (L : List (α × β)) (h : es.map (fun e => (e.key, e.val)) = L.map (fun x => (encK x.1, encV x.2))) :
    (Instr.findKey K (encK k) es).run P w = .ok ((fnd L k 0).map fun p => (p.1, encV p.2)) w := by
  obtain ⟨d, hd, hs | hs⟩ := hk.und
  · have hA := run_findAsking hk k w es L 0 h
    unfold Instr.findKey
    cases es with
    | nil =>
      cases L with
      | nil => simp [go_sem, run_underlying hd, Instr.findNow, fnd, Result.andThen]
      | cons x L => simp at h
    | cons e es =>
      cases L with
      | nil => simp at h
      | cons x L =>
        have h1 : e.key = encK x.1 := by simp at h; exact h.1.1
        have h2 : Instr.findNow d (encK k) (e :: es) 0 = none := by
          unfold Instr.findNow
          rw [h1, hs]
        simp [go_sem, run_underlying hd, h2, hA, Result.andThen]
  · have hN := findNow_some (encV := encV) hs k es L 0 h
    unfold Instr.findKey
    simp [go_sem, run_underlying hd, hN, Result.andThen]
theorem run_look [DecidableEq α] (hk : KeyOk P K encK) {T E : TypeId} (hT : P.underlying T = some (.map K E)) {z : Value} {w : World} (hz : (zeroValue E).run P w = .ok z w) {g : Nat} {L : List (α × β)} (hm : MapAt w g encK encV L) (k : α) (ok : Bool) :
    (Instr.lookup T (.map (some g)) (encK k) ok).run P w = .ok (if ok then .tuple #[((look L k).map encV).getD z, .bool (look L k).isSome] else ((look L k).map encV).getD z) w := by
  obtain ⟨es, c, hg, hl⟩ := hm
  have hf := run_findKey (encV := encV) hk k w es.toList L hl
  have hfl := fnd_look k L 0
  unfold Instr.lookup
  cases hr : fnd L k 0 with
  | none =>
    rw [hr] at hf hfl
    have hlk : look L k = none := by rw [← hfl]; rfl
    simp [go_sem, run_underlying hT, MapKept.run_getObj_map hg, hk.chk, hf, hz, hlk, Result.andThen]
  | some p =>
    rw [hr] at hf hfl
    have hlk : look L k = some p.2 := by rw [← hfl]; rfl
    simp [go_sem, run_underlying hT, MapKept.run_getObj_map hg, hk.chk, hf, hlk, Result.andThen]
theorem fnd_spec [DecidableEq α] (k : α) (v : β) : ∀ (L : List (α × β)) (i j : Nat) (b : β), fnd L k i = some (j, b) → ∃ m, j = i + m ∧ L[m]? = some (k, b) ∧ upd L k v = L.set m (k, v)
  | [], i, j, b, h => by simp [fnd] at h
  | (a, c) :: t, i, j, b, h => by
    unfold fnd at h
    split at h
    · rename_i h1
      simp only [Option.some.injEq, Prod.mk.injEq] at h
      obtain ⟨rfl, rfl⟩ := h
      subst h1
      exact ⟨0, rfl, rfl, by simp [upd]⟩
    · rename_i h1
      obtain ⟨m, h2, h3, h4⟩ := fnd_spec k v t (i + 1) j b h
      exact ⟨m + 1, by omega, by simpa using h3, by simp [upd, h1, h4]⟩
theorem fnd_none [DecidableEq α] (k : α) (v : β) : ∀ (L : List (α × β)) (i : Nat), fnd L k i = none → upd L k v = L ++ [(k, v)]
  | [], i, _ => rfl
  | (a, c) :: t, i, h => by
    unfold fnd at h
    split at h
    · cases h
    · rename_i h1
      simp [upd, h1, fnd_none k v t (i + 1) h]
theorem run_upd [DecidableEq α] (hk : KeyOk P K encK) {T E : TypeId} (hT : P.underlying T = some (.map K E)) (w : World) {g : Nat} {L : List (α × β)} (hm : MapAt w g encK encV L) (k : α) (v : β) :
    ∃ w', (Instr.mapUpdate T (.map (some g)) (encK k) (encV v)).run P w = .ok () w' ∧ MapAt w' g encK encV (upd L k v) ∧ ButBlock w w' g := by
  obtain ⟨es, c, hg, hl⟩ := hm
  have hf := run_findKey (encV := encV) hk k w es.toList L hl
  have hlt := (Array.getElem?_eq_some_iff.1 hg).1
  have hbut : ∀ o, ButBlock w { w with heap := w.heap.setIfInBounds g o } g := fun o =>
    ⟨rfl, rfl, rfl, by simp, fun i hi => by simp [Array.getElem?_setIfInBounds, hi.symm]⟩
  have hat : ∀ o, ({ w with heap := w.heap.setIfInBounds g o } : World).heap[g]? = some o := fun o => by simp [Array.getElem?_setIfInBounds, hlt]
  unfold Instr.mapUpdate
  cases hr : fnd L k 0 with
  | none =>
    rw [hr] at hf
    refine ⟨{ w with heap := w.heap.setIfInBounds g (.map (es.push { key := encK k, val := encV v, born := c }) (c + 1)) }, ?_, ⟨_, _, hat _, ?_⟩, hbut _⟩
    · simp [go_sem, run_underlying hT, MapKept.run_getObj_map hg, MapKept.run_setObj_map _ hg, hk.chk, hf, Result.andThen]
    · rw [fnd_none k v L 0 hr]
      simp [hl]
  | some p =>
    obtain ⟨j, b⟩ := p
    obtain ⟨m, hjm, hLm, hu⟩ := fnd_spec k v L 0 j b hr
    rw [Nat.zero_add] at hjm
    subst hjm
    rw [hr] at hf
    have hkey : (es[j]?).map (·.key) = some (encK k) := by
      have h1 : (es.toList.map (fun e => (e.key, e.val)))[j]? = some (encK k, encV b) := by rw [hl]; simp [hLm]
      simp only [List.getElem?_map, Array.getElem?_toList] at h1
      cases he : es[j]? with
      | none => rw [he] at h1; simp at h1
      | some e => rw [he] at h1; simp at h1; simp [h1.1]
    refine ⟨{ w with heap := w.heap.setIfInBounds g (.map (es.modify j fun e => { e with key := encK k, val := encV v }) c) }, ?_, ⟨_, _, hat _, ?_⟩, hbut _⟩
    · have hkey' : (Option.map (fun x => x.key) es[j]?).getD (encK k) = encK k := by rw [hkey]; rfl
      simp [go_sem, run_underlying hT, MapKept.run_getObj_map hg, MapKept.run_setObj_map _ hg, hk.chk, hf, Result.andThen, Instr.keyThatStays, hk.bits, hkey']
    · rw [hu]
      apply List.ext_getElem?
      intro i
      have h2 : (es.toList.map (fun e => (e.key, e.val)))[i]? = (L.map (fun x => (encK x.1, encV x.2)))[i]? := by rw [hl]
      simp only [List.getElem?_map, Array.getElem?_toList, Array.getElem?_modify, List.getElem?_set] at h2 ⊢
      by_cases hi : j = i
      · subst hi
        have hjl : j < L.length := (List.getElem?_eq_some_iff.1 hLm).1
        cases he : es[j]? with
        | none => rw [he] at hkey; simp at hkey
        | some e => simp [hjl]
      · simp [hi, h2]
theorem run_mapLen (w : World) {T K E : TypeId} (hT : P.underlying T = some (.map K E)) {g : Nat} {L : List (α × β)} (hm : MapAt w g encK encV L) :
    ∃ es c, w.heap[g]? = some (.map es c) ∧ es.size = L.length := by
  obtain ⟨es, c, hg, hl⟩ := hm
  refine ⟨es, c, hg, ?_⟩
  have := congrArg List.length hl
  simpa using this
end
end Go.Proofs.Ytkjighagiecbaaa.H
