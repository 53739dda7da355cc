/- Map. -/
import Derived.WalkKit
import Derived.Below
import Derived.MapKept
import Derived.Deep.Draws
namespace Go.Proofs.Ytnbojemjaipnlaa.H
open Go.RowKit
set_option linter.unusedVariables false
set_option linter.unusedSimpArgs false
section
variable {α β : Type}
def look [DecidableEq α] : List (α × β) → α → Option β
  | [], _ => none
  | (a, b) :: t, k => if k = a then some b else look t k
def MapAt (w : World) (g : Nat) (encK : α → Value) (encV : β → Value) (L : List (α × β)) : Prop :=
  ∃ es clock, w.heap[g]? = some (.map es clock) ∧ es.toList.map (fun e => (e.key, e.val)) = L.map fun x => (encK x.1, encV x.2)
structure ButBlock (w w' : World) (g : Nat) : Prop where
  os : w'.os = w.os
  tape : w'.tape = w.tape
  output : w'.output = w.output
  size : w'.heap.size = w.heap.size
  block : ∀ k, k ≠ g → w'.heap[k]? = w.heap[k]?
theorem ButBlock.refl (w : World) (g : Nat) : ButBlock w w g := ⟨rfl, rfl, rfl, rfl, fun _ _ => rfl⟩
theorem ButBlock.trans {w w1 w2 : World} {g : Nat} (h : ButBlock w w1 g) (k : ButBlock w1 w2 g) : ButBlock w w2 g :=
  ⟨k.os.trans h.os, k.tape.trans h.tape, k.output.trans h.output, k.size.trans h.size, fun i hi => (k.block i hi).trans (h.block i hi)⟩
theorem ButBlock.below {w w1 w2 : World} {g B : Nat} (h : Below B w w1) (k : ButBlock w1 w2 g) (hg : B ≤ g) : Below B w w2 :=
  ⟨k.os.trans h.os, k.tape.trans h.tape, k.output.trans h.output, by rw [k.size]; exact h.size, fun i hi => (k.block i (by omega)).trans (h.block i hi)⟩
theorem ButBlock.cell {w w1 : World} {g : Nat} (h : ButBlock w w1 g) {a : Addr} (ha : a.block ≠ g) : w1.cell? a = w.cell? a := World.cell?_of_block (w := w) (h.block _ ha)
theorem ButBlock.blk {w w1 : World} {g : Nat} (h : ButBlock w w1 g) {j : Nat} {o : Obj} (hj : w.heap[j]? = some o) (hne : j ≠ g) : w1.heap[j]? = some o := (h.block j hne).trans hj
theorem MapAt.below {w w1 : World} {g : Nat} {encK : α → Value} {encV : β → Value} {L : List (α × β)} (h : MapAt w g encK encV L) (hb : Below w.heap.size w w1) : MapAt w1 g encK encV L := by
  obtain ⟨es, c, hg, hl⟩ := h
  exact ⟨es, c, (hb.block g (Array.getElem?_eq_some_iff.1 hg).1).trans hg, hl⟩
theorem MapAt.lt {w : World} {g : Nat} {encK : α → Value} {encV : β → Value} {L : List (α × β)} (h : MapAt w g encK encV L) : g < w.heap.size := by
  obtain ⟨es, c, hg, hl⟩ := h
  exact (Array.getElem?_eq_some_iff.1 hg).1
theorem MapAt.drew {w : World} {g : Nat} {encK : α → Value} {encV : β → Value} {L : List (α × β)} (h : MapAt w g encK encV L) : MapAt w.drew g encK encV L := h
theorem MapAt.drewN {w : World} {g n : Nat} {encK : α → Value} {encV : β → Value} {L : List (α × β)} (h : MapAt w g encK encV L) : MapAt (w.drewN n) g encK encV L := h
theorem MapAt.alloc {w : World} {g : Nat} {encK : α → Value} {encV : β → Value} {L : List (α × β)} (h : MapAt w g encK encV L) (o : Obj) : MapAt (w.alloc o) g encK encV L := by
  obtain ⟨es, c, hg, hl⟩ := h
  exact ⟨es, c, (Below.heap_alloc w o g (Array.getElem?_eq_some_iff.1 hg).1).trans hg, hl⟩
theorem MapAt.made (w : World) (encK : α → Value) (encV : β → Value) : MapAt (w.alloc (.map #[] 0)) w.heap.size encK encV [] :=
  ⟨#[], 0, heap_alloc_new w _, rfl⟩
variable {P : Program} {K : TypeId} {encK : α → Value} {encV : β → Value}
end
end Go.Proofs.Ytnbojemjaipnlaa.H
