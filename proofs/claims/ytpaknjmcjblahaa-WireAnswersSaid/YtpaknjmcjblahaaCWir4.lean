/- Blocks of one's own beside a taker, or the document's reader; bounds. -/
import Derived.Test.YtpaknjmcjblahaaCWir3
namespace Go.Proofs.Ytpaknjmcjblahaa.H
open Go.RowKit Go.Proofs.Ytpaknjmcjblahaa.P Go.Proofs.YtpaknjmcjblahaaW.PrintWords Go.Proofs.YtpaknjmcjblahaaW.PrintLast Go.Proofs.YtpaknjmcjblahaaW.PrintMore
set_option linter.unusedVariables false
set_option linter.unusedSimpArgs false
def isU8 : Value → Bool
  | .int .u8 _ => true
  | _ => false
def noU8 (cs : Array Value) : Bool := cs.toList.all fun v => !isU8 v
theorem apartX {w : World} {g : Nat} {cs : Array Value} {t : TypeId} (hg : w.heap[g]? = some (.cells cs t (0, 0))) (hcs : noU8 cs = true) {B : Option Addr} {n : Nat} {m : List Int} (hC : Kd.C (Kd.int .u8) w B n m) : ∀ ad, B = some ad → 0 < n → ad.block ≠ g := by
  rintro ad rfl hn rfl
  obtain ⟨ad', e, hx⟩ := Kd.at_int hC 0 (by omega) (by omega)
  cases e
  simp only [Int.toNat_zero, Addr.add_zero'] at hx
  unfold World.cell? at hx
  rw [hg] at hx
  dsimp only at hx
  split at hx
  · cases hx
  · have hm : Value.int .u8 (rd m 0) ∈ cs.toList := by
      rw [Array.mem_toList_iff]
      exact Array.mem_of_getElem? hx
    have := List.all_eq_true.1 hcs _ hm
    simp [isU8] at this
structure Mine (w W : World) (t h b : Nat) (cs : Array Value) (ty : TypeId) : Prop where
  blk : W.heap[b]? = some (.cells cs ty (0, 0))
  new : w.heap.size ≤ b
  no : noU8 cs = true
  n1 : b ≠ t
  n2 : b ≠ h
theorem Mine.keep {w W W' : World} {t h b : Nat} {cs : Array Value} {ty : TypeId} (k : Mine w W t h b cs ty) (p : Keep2 t h W W') : Mine w W' t h b cs ty := ⟨p.blk k.blk k.n1 k.n2, k.new, k.no, k.n1, k.n2⟩
theorem Mine.below {w W W' : World} {t h b : Nat} {cs : Array Value} {ty : TypeId} (k : Mine w W t h b cs ty) (p : Below W.heap.size W W') : Mine w W' t h b cs ty := ⟨blk_below k.blk p, k.new, k.no, k.n1, k.n2⟩
theorem Mine.put {w W : World} {t h b : Nat} {cs : Array Value} {ty : TypeId} (k : Mine w W t h b cs ty) (j : Nat) (u : Value) (hu : isU8 u = false) (cs' : Array Value) (e : cs.setIfInBounds j u = cs') (hn : noU8 cs' = true) : Mine w (W.setCell ⟨b, j, none⟩ u) t h b cs' ty :=
  ⟨by have := blk_set k.blk j u; rw [e] at this; exact this, k.new, hn, k.n1, k.n2⟩
theorem Mine.far {w W : World} {t h b g : Nat} {cs : Array Value} {ty : TypeId} (k : Mine w W t h b cs ty) (hne : b ≠ g) (j : Nat) (u : Value) : Mine w (W.setCell ⟨g, j, none⟩ u) t h b cs ty := ⟨blk_far k.blk (p := ⟨g, j, none⟩) hne _, k.new, k.no, k.n1, k.n2⟩
theorem Keep2.mine {w W : World} {t h b : Nat} {cs : Array Value} {ty : TypeId} (p : Keep2 t h w W) (k : Mine w W t h b cs ty) (j : Nat) (u : Value) : Keep2 t h w (W.setCell ⟨b, j, none⟩ u) := by
  have q := (Below.refl 0 W).setCell (p := ⟨b, j, none⟩) (Nat.zero_le _) u
  exact ⟨q.os.trans p.os, q.tape.trans p.tape, q.output.trans p.output, Nat.le_trans p.size q.size, fun i hi h1 h2 => (Below.heap_setCell W ⟨b, j, none⟩ u i (by have := k.new; show i ≠ b; omega)).trans (p.block i hi h1 h2)⟩
theorem Keep2.alloc {w W : World} {t h : Nat} (p : Keep2 t h w W) (o : Obj) : Keep2 t h w (W.alloc o) := p.trans (Keep2.of ((Below.refl W.heap.size W).alloc (Nat.le_refl _) o))
theorem TK.far {W : World} {t h : Nat} {m : Mc} (k : TK W t h m) {w : World} {b : Nat} {cs : Array Value} {ty : TypeId} (x : Mine w W t h b cs ty) (j : Nat) (u : Value) : TK (W.setCell ⟨b, j, none⟩ u) t h m := by
  obtain ⟨A, c, h1, h2, h3, h4⟩ := k.rd
  refine ⟨blk_far k.blk (p := ⟨b, j, none⟩) (fun e => x.n1 e.symm) _, ⟨A, c, blk_far h1 (p := ⟨b, j, none⟩) (fun e => x.n2 e.symm) _, h2, C_moves h3 fun ad e hn => ?_, h4⟩, k.bytes⟩
  exact Below.heap_setCell W ⟨b, j, none⟩ u ad.block (apartX x.blk x.no h3 ad e hn)
theorem RT.far {W : World} {g : Nat} {m : Mc} (k : RT W g m) {w : World} {b : Nat} {cs : Array Value} {ty : TypeId} (x : Mine w W g g b cs ty) (j : Nat) (u : Value) : RT (W.setCell ⟨b, j, none⟩ u) g m := by
  obtain ⟨B, d, l, i, ⟨h1, h2, h3, h4⟩, h5, h6, h7⟩ := k
  exact ⟨B, d, l, i, ⟨blk_far h1 (p := ⟨b, j, none⟩) (fun e => x.n1 e.symm) _, h2, h3, C_moves h4 fun ad e hn => Below.heap_setCell W ⟨b, j, none⟩ u ad.block (apartX x.blk x.no h4 ad e hn)⟩, h5, h6, h7⟩
theorem TK.lt {W : World} {t h : Nat} {m : Mc} (k : TK W t h m) : t < W.heap.size ∧ h < W.heap.size := by
  obtain ⟨A, c, h1, _, _⟩ := k.rd
  exact ⟨blk_lt k.blk, blk_lt h1⟩
theorem RT.lt {W : World} {g : Nat} {m : Mc} (k : RT W g m) : g < W.heap.size ∧ g < W.heap.size := by
  obtain ⟨B, d, l, i, ⟨h1, _⟩, _⟩ := k
  exact ⟨blk_lt h1, blk_lt h1⟩
theorem mine_new {w W : World} {t h : Nat} (p : Keep2 t h w W) (hl : t < W.heap.size ∧ h < W.heap.size) (cs : Array Value) (ty : TypeId) (hn : noU8 cs = true) : Mine w (W.alloc (.cells cs ty)) t h W.heap.size cs ty :=
  ⟨blk_new W _, p.size, hn, by omega, by omega⟩
theorem numM_bound (most : Int) (m : Mc) (hb : bytes m.rest) (h0 : 0 ≤ most) : 0 ≤ (numM most m).1 ∧ (numM most m).1 ≤ most := by
  unfold numM
  by_cases c : (nextS m.rest).2 ≠ 0 ∧ (nextS m.rest).1 ≤ most
  · rw [if_pos c]; exact ⟨(put_nextS m.rest hb c.1).2.1, c.2⟩
  · rw [if_neg c]; exact ⟨Int.le_refl _, h0⟩
theorem numM_bytes (most : Int) (m : Mc) (hb : bytes m.rest) : bytes (numM most m).2.rest := by
  unfold numM
  split
  · exact bytes_drop hb _
  · exact hb
theorem textM_bytes (most : Int) (m : Mc) (hb : bytes m.rest) : bytes (textM most m).2.rest := by
  unfold textM
  split
  · exact bytes_drop hb _
  · exact hb
def wideW : Int := 4294967295
abbrev Ru := S29
def ruleM (m : Mc) : Ru × Mc :=
  let a := numM wideW m
  let b := numM wideW a.2
  let c := numM wideW b.2
  let d := numM wideW c.2
  let e := numM wideW d.2
  let f := numM wideW e.2
  let g := numM wideW f.2
  (⟨a.1, b.1, c.1, d.1, ⟨e.1, f.1⟩, g.1⟩, g.2)
def ruleVals (r : Ru) : List Value := [.int .i64 r.f0, .int .i64 r.f1, .int .i64 r.f2, .int .i64 r.f3, .int .u32 r.f4.f0, .int .u32 r.f4.f1, .int .i64 r.f5]
end Go.Proofs.Ytpaknjmcjblahaa.H
