/- NumR1 -/
import Derived.Test.YtpaknjmcjblahaaCPx4
import Derived.Test.YtpaknjmcjblahaaCPx0
import Derived.Test.YtpaknjmcjblahaaCPx3
import Derived.Test.YtpaknjmcjblahaaCNum7
import Derived.Test.YtpaknjmcjblahaaCNumB2
import Derived.Deep.CutRange
import Derived.BigQuiet
import Derived.Test.YtpaknjmcjblahaaCReg
namespace Go.Proofs.Ytpaknjmcjblahaa.H
open Go.RowKit Go.Proofs.Ytpaknjmcjblahaa.P Go.Proofs.YtpaknjmcjblahaaW.PrintWords Go.Proofs.YtpaknjmcjblahaaW.PrintLast Go.Proofs.YtpaknjmcjblahaaW.PrintMore
set_option linter.unusedVariables false
set_option maxRecDepth 20000
set_option linter.unusedSimpArgs false
def RM (w : World) (g : Nat) (B : Option Addr) (d : Nat) (b : List Int) (i : Nat) (bad : Bool) : Prop :=
  w.heap[g]? = some (.cells #[.slice B b.length d, .int .i64 i, .bool bad] 84 (0, 0)) ∧ i ≤ b.length ∧ b.length ≤ d ∧ Kd.C (Kd.int .u8) w B b.length b
theorem RM.apart {w : World} {g d i : Nat} {bad : Bool} {l : List Int} {A : Option Addr} {B : Option Addr} {n : Nat} {m : List Int} (hg : w.heap[g]? = some (.cells #[.slice A l.length d, .int .i64 i, .bool bad] 84 (0, 0))) (hC : Kd.C (Kd.int .u8) w B n m) : ∀ ad, B = some ad → 0 < n → ad.block ≠ g := by
  rintro ad rfl hn rfl
  obtain ⟨ad', e, hx⟩ := Kd.at_int hC 0 (by omega) (by omega)
  cases e
  simp only [Int.toNat_zero, Addr.add_zero'] at hx
  unfold World.cell? at hx
  rw [hg] at hx
  dsimp only at hx
  split at hx
  · cases hx
  · rcases h0 : ad.off with _ | _ | _ | o
    · rw [h0] at hx; simp at hx
    · rw [h0] at hx; simp at hx
    · rw [h0] at hx; simp at hx
    · rw [h0] at hx; simp at hx
theorem C_setCell' {α : Type} {K : Kd α} {w : World} {A : Option Addr} {n : Nat} {l : List α} {g : Nat} (q : Nat) {v : Value} (h : K.C w A n l) (hK : ∀ x c, K.K w x c → K.K (w.setCell ⟨g, q, none⟩ v) x c) (hne : ∀ ad, A = some ad → 0 < n → ad.block ≠ g) : K.C (w.setCell ⟨g, q, none⟩ v) A n l := by
  refine ⟨h.1, h.2.1, fun hn => ?_⟩
  obtain ⟨ad, e, hc⟩ := h.2.2 hn
  refine ⟨ad, e, fun j p hj => ?_⟩
  obtain ⟨c, h1, h2, h3⟩ := hc j p hj
  refine ⟨c, h1, hK p c h2, fun i u hu => ?_⟩
  rw [← h3 i u hu]
  have hb : (ad.add (j * K.sz + i)).block = ad.block := by unfold Addr.add; split <;> rfl
  have hne' := hne ad e hn
  exact World.cell?_of_block (w := w) (by rw [hb]; exact Below.heap_setCell w _ _ _ hne')
theorem str_inj (l m : List Int) (hl : bytes l) (hm : bytes m) : ((strOfNums l).toList == (strOfNums m).toList) = decide (l = m) := by
  have e : ∀ l : List Int, (strOfNums l).toList = bs l := fun l => by simp [strOfNums, bs]
  rw [e, e]
  by_cases h : l = m
  · subst h; simp
  · have : ¬ bs l = bs m := fun h' => h (bs_inj l m hl hm h')
    simp [h, this]
end Go.Proofs.Ytpaknjmcjblahaa.H
