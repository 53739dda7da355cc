/- How arrays are opened, and the arguments of the laws on topologies. -/
import Derived.Test.YtpaknjmcjblahaaCOpen
namespace Go.Proofs.Ytpaknjmcjblahaa.Open
open Go.RowKit Go.Proofs.YtpaknjmcjblahaaW.PrintWords Go.Proofs.YtpaknjmcjblahaaW.PrintLast
set_option linter.unusedVariables false
set_option linter.unusedSimpArgs false
theorem agg_of {cs : Array Value} {l : List Value} (h : (Value.agg cs).cells.toList = l) : cs = l.toArray := by
  cases cs
  subst h
  rfl
theorem OpensAt.array {P : Program} {t e : TypeId} {n : Nat} {fs : List Field} {α : Type} {K : Kd α} {I : α → Prop} (h : OpensAt P 0 fs K I) (ht : P.underlying t = some (.array n e))
    (hf : ∀ f ∈ fs, ∃ i, i < n ∧ f.type = e ∧ f.offset = i * P.cellsOf e) (hsz : P.cellsOf t = K.sz) : Opens P t K I := by
  refine ⟨?_⟩
  intro H enc w base spare held fuel cs y hy
  obtain ⟨xs, m, _, _, hl, hlen, hx⟩ := DataW.trod_array ht hy
  have := h.out enc w base spare held m cs (by omega) fun f hff => by
    obtain ⟨i, hi, h1, h2⟩ := hf f hff
    have hil : i < xs.length := by omega
    exact ⟨xs[i], by rw [h1, h2]; exact (hx i hi).trans (List.getElem?_eq_getElem hil)⟩
  exact this
end Go.Proofs.Ytpaknjmcjblahaa.Open
