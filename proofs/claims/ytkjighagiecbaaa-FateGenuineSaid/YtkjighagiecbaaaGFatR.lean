/- Px0, FatP, FatQ, FatR. -/
import Derived.Test.YtkjighagiecbaaaProg
import Derived.Below
import Derived.Deep.Draws
import Derived.Deep.AppendLies
import Derived.Maps.AppendAt
import Derived.OwnWalk
import Derived.Laws.BytesArg
import Derived.Laws.MakeOwn
import Derived.Laws.OwnMore
import Derived.Deep.OwnRows
import Derived.Tactics
import Derived.Lib.ConvBytes
import Derived.Laws.Slices
import Derived.WalkKit
import Derived.KernelRfl
import Derived.RowKit3
import Derived.Deep.LoopGhost
import Derived.Deep.QuietTactic
import Derived.BigQuiet
import Derived.WideLaws
import Derived.Deep.DeepCutAuto
import Derived.Deep.CutBlock
import Derived.Deep.RegionHeld3
import Derived.Laws.Rows
import Derived.Lib.AppendStr
import Derived.ArgAppend
import Derived.Laws.IdiomCopy
import Derived.OrdersHeld
import Derived.Laws.BitsLemmas
import Derived.RowKit
import Derived.Test.YtkjighagiecbaaaGWWords
import Derived.Test.YtkjighagiecbaaaGWLast
import Derived.Test.YtkjighagiecbaaaGWN
import Derived.Test.YtkjighagiecbaaaGWMore
/-! ### Px0 -/
namespace Go.Proofs.Ytkjighagiecbaaa.P
open Go.RowKit Go.Proofs.YtkjighagiecbaaaW.PrintWords Go.Proofs.YtkjighagiecbaaaW.PrintLast Go.Proofs.YtkjighagiecbaaaW.PrintMore
set_option linter.unusedVariables false
set_option linter.unusedSimpArgs false
def errW : Option Int → Value
  | none => .nilIface
  | some c => .iface 0 (.int .i64 c)
theorem errW_none : errW none = .nilIface := rfl
theorem errW_some (c : Int) : errW (some c) = .iface 0 (.int .i64 c) := rfl
theorem info3 : (Try.prog.info? 3).map (fun i => (i.zero, i.size, i.bytes)) = some (some (.int .i64 0), 1, 8) := by kernel_rfl
theorem info33 : (Try.prog.info? 33).map (fun i => (i.zero, i.size, i.bytes)) = some (some (.agg #[(.int .i64 0), (.int .i64 0)]), 2, 16) := by kernel_rfl
theorem info62 : (Try.prog.info? 62).map (fun i => (i.zero, i.size, i.bytes)) = some (some (.agg #[(.int .i64 0), (.int .i64 0), (.int .i64 0), (.int .i64 0), (.int .u32 0), (.int .u32 0), (.int .i64 0)]), 7, 48) := by kernel_rfl
structure S33 where
  f0 : Int
  f1 : Int
def z33 : S33 := ⟨(0 : Int), (0 : Int)⟩
def k33 : Kd S33 := Kd.iso (Kd.pair (Kd.int .i64) (Kd.int .i64)) (fun x : S33 => (x.f0, x.f1))
theorem k33_open {w : World} {x : S33} {cs : List Value} (h : k33.K w x cs) : cs = [.int .i64 x.f0, .int .i64 x.f1] := by
  obtain ⟨_, _, rfl, rfl, rfl⟩ := h
  exact rfl
theorem k33_mkM (w : World) (base : Nat) (ok : Nat → Prop) (x : S33)  : k33.M w base ok x [.int .i64 x.f0, .int .i64 x.f1] := ⟨[.int .i64 x.f0], [.int .i64 x.f1], rfl, rfl, rfl⟩
def rd_T33 (xs : List S33) (i : Int) : S33 := xs.getD i.toNat z33
theorem at_T33 {w : World} {A : Option Addr} {n : Nat} {xs : List S33} (h : Kd.C k33 w A n xs) (i : Int) (h0 : 0 ≤ i) (h1 : i < n) : ∃ ad , A = some ad ∧ w.cell? (ad.add (i.toNat * 2)) = some (.int .i64 (rd_T33 xs i).f0) ∧ w.cell? ⟨(ad.add (i.toNat * 2)).block, (ad.add (i.toNat * 2)).off + 1, none⟩ = some (.int .i64 (rd_T33 xs i).f1) := by
  obtain ⟨ad, c, e, _, hK, hc0⟩ := Kd.C_get h z33 i h0 h1
  have hc : ∀ j u, c[j]? = some u → w.cell? (ad.add (i.toNat * 2 + j)) = some u := hc0
  obtain rfl := k33_open hK
  exact ⟨ad, e, hc 0 _ rfl, by rw [← add_field _ _ 1 (by omega)]; exact hc 1 _ rfl⟩
structure S66 where
  f0 : S33
  f1 : S33
def z66 : S66 := ⟨z33, z33⟩
def k66 : Kd S66 := Kd.iso (Kd.pair k33 k33) (fun x : S66 => (x.f0, x.f1))
theorem k66_open {w : World} {x : S66} {cs : List Value} (h : k66.K w x cs) : cs = [.int .i64 x.f0.f0, .int .i64 x.f0.f1, .int .i64 x.f1.f0, .int .i64 x.f1.f1] := by
  obtain ⟨_, _, rfl, s0, s2⟩ := h
  obtain rfl := k33_open s0
  obtain rfl := k33_open s2
  exact rfl
theorem k66_mkM (w : World) (base : Nat) (ok : Nat → Prop) (x : S66)  : k66.M w base ok x [.int .i64 x.f0.f0, .int .i64 x.f0.f1, .int .i64 x.f1.f0, .int .i64 x.f1.f1] := ⟨[.int .i64 x.f0.f0, .int .i64 x.f0.f1], [.int .i64 x.f1.f0, .int .i64 x.f1.f1], rfl, (k33_mkM w base ok x.f0 ), (k33_mkM w base ok x.f1 )⟩
def rd_T66 (xs : List S66) (i : Int) : S66 := xs.getD i.toNat z66
theorem at_T66 {w : World} {A : Option Addr} {n : Nat} {xs : List S66} (h : Kd.C k66 w A n xs) (i : Int) (h0 : 0 ≤ i) (h1 : i < n) : ∃ ad , A = some ad ∧ w.cell? (ad.add (i.toNat * 4)) = some (.int .i64 (rd_T66 xs i).f0.f0) ∧ w.cell? ⟨(ad.add (i.toNat * 4)).block, (ad.add (i.toNat * 4)).off + 1, none⟩ = some (.int .i64 (rd_T66 xs i).f0.f1) ∧ w.cell? ⟨(ad.add (i.toNat * 4)).block, (ad.add (i.toNat * 4)).off + 2, none⟩ = some (.int .i64 (rd_T66 xs i).f1.f0) ∧ w.cell? ⟨(ad.add (i.toNat * 4)).block, (ad.add (i.toNat * 4)).off + 3, none⟩ = some (.int .i64 (rd_T66 xs i).f1.f1) := by
  obtain ⟨ad, c, e, _, hK, hc0⟩ := Kd.C_get h z66 i h0 h1
  have hc : ∀ j u, c[j]? = some u → w.cell? (ad.add (i.toNat * 4 + j)) = some u := hc0
  obtain rfl := k66_open hK
  exact ⟨ad, e, hc 0 _ rfl, by rw [← add_field _ _ 1 (by omega)]; exact hc 1 _ rfl, by rw [← add_field _ _ 2 (by omega)]; exact hc 2 _ rfl, by rw [← add_field _ _ 3 (by omega)]; exact hc 3 _ rfl⟩
structure S60 where
  f0 : Int
  f1 : Int
def z60 : S60 := ⟨(0 : Int), (0 : Int)⟩
def k60 : Kd S60 := Kd.iso (Kd.pair (Kd.int .u32) (Kd.int .u32)) (fun x : S60 => (x.f0, x.f1))
theorem k60_open {w : World} {x : S60} {cs : List Value} (h : k60.K w x cs) : cs = [.int .u32 x.f0, .int .u32 x.f1] := by
  obtain ⟨_, _, rfl, rfl, rfl⟩ := h
  exact rfl
theorem k60_mk (w : World) (x : S60)  : k60.K w x [.int .u32 x.f0, .int .u32 x.f1] := ⟨[.int .u32 x.f0], [.int .u32 x.f1], rfl, rfl, rfl⟩
theorem k60_mkM (w : World) (base : Nat) (ok : Nat → Prop) (x : S60)  : k60.M w base ok x [.int .u32 x.f0, .int .u32 x.f1] := ⟨[.int .u32 x.f0], [.int .u32 x.f1], rfl, rfl, rfl⟩
structure S62 where
  f0 : Int
  f1 : Int
  f2 : Int
  f3 : Int
  f4 : S60
  f5 : Int
def z62 : S62 := ⟨(0 : Int), (0 : Int), (0 : Int), (0 : Int), z60, (0 : Int)⟩
def k62 : Kd S62 := Kd.iso (Kd.pair (Kd.int .i64) (Kd.pair (Kd.int .i64) (Kd.pair (Kd.int .i64) (Kd.pair (Kd.int .i64) (Kd.pair k60 (Kd.int .i64)))))) (fun x : S62 => (x.f0, x.f1, x.f2, x.f3, x.f4, x.f5))
theorem k62_open {w : World} {x : S62} {cs : List Value} (h : k62.K w x cs) : cs = [.int .i64 x.f0, .int .i64 x.f1, .int .i64 x.f2, .int .i64 x.f3, .int .u32 x.f4.f0, .int .u32 x.f4.f1, .int .i64 x.f5] := by
  obtain ⟨_, _, rfl, rfl, ⟨_, _, rfl, rfl, ⟨_, _, rfl, rfl, ⟨_, _, rfl, rfl, ⟨_, _, rfl, s4, rfl⟩⟩⟩⟩⟩ := h
  obtain rfl := k60_open s4
  exact rfl
theorem k62_mk (w : World) (x : S62)  : k62.K w x [.int .i64 x.f0, .int .i64 x.f1, .int .i64 x.f2, .int .i64 x.f3, .int .u32 x.f4.f0, .int .u32 x.f4.f1, .int .i64 x.f5] := ⟨[.int .i64 x.f0], [.int .i64 x.f1, .int .i64 x.f2, .int .i64 x.f3, .int .u32 x.f4.f0, .int .u32 x.f4.f1, .int .i64 x.f5], rfl, rfl, ⟨[.int .i64 x.f1], [.int .i64 x.f2, .int .i64 x.f3, .int .u32 x.f4.f0, .int .u32 x.f4.f1, .int .i64 x.f5], rfl, rfl, ⟨[.int .i64 x.f2], [.int .i64 x.f3, .int .u32 x.f4.f0, .int .u32 x.f4.f1, .int .i64 x.f5], rfl, rfl, ⟨[.int .i64 x.f3], [.int .u32 x.f4.f0, .int .u32 x.f4.f1, .int .i64 x.f5], rfl, rfl, ⟨[.int .u32 x.f4.f0, .int .u32 x.f4.f1], [.int .i64 x.f5], rfl, (k60_mk w x.f4 ), rfl⟩⟩⟩⟩⟩
theorem k62_mkM (w : World) (base : Nat) (ok : Nat → Prop) (x : S62)  : k62.M w base ok x [.int .i64 x.f0, .int .i64 x.f1, .int .i64 x.f2, .int .i64 x.f3, .int .u32 x.f4.f0, .int .u32 x.f4.f1, .int .i64 x.f5] := ⟨[.int .i64 x.f0], [.int .i64 x.f1, .int .i64 x.f2, .int .i64 x.f3, .int .u32 x.f4.f0, .int .u32 x.f4.f1, .int .i64 x.f5], rfl, rfl, ⟨[.int .i64 x.f1], [.int .i64 x.f2, .int .i64 x.f3, .int .u32 x.f4.f0, .int .u32 x.f4.f1, .int .i64 x.f5], rfl, rfl, ⟨[.int .i64 x.f2], [.int .i64 x.f3, .int .u32 x.f4.f0, .int .u32 x.f4.f1, .int .i64 x.f5], rfl, rfl, ⟨[.int .i64 x.f3], [.int .u32 x.f4.f0, .int .u32 x.f4.f1, .int .i64 x.f5], rfl, rfl, ⟨[.int .u32 x.f4.f0, .int .u32 x.f4.f1], [.int .i64 x.f5], rfl, (k60_mkM w base ok x.f4 ), rfl⟩⟩⟩⟩⟩
def rd_T62 (xs : List S62) (i : Int) : S62 := xs.getD i.toNat z62
theorem at_T62 {w : World} {A : Option Addr} {n : Nat} {xs : List S62} (h : Kd.C k62 w A n xs) (i : Int) (h0 : 0 ≤ i) (h1 : i < n) : ∃ ad , A = some ad ∧ w.cell? (ad.add (i.toNat * 7)) = some (.int .i64 (rd_T62 xs i).f0) ∧ w.cell? ⟨(ad.add (i.toNat * 7)).block, (ad.add (i.toNat * 7)).off + 1, none⟩ = some (.int .i64 (rd_T62 xs i).f1) ∧ w.cell? ⟨(ad.add (i.toNat * 7)).block, (ad.add (i.toNat * 7)).off + 2, none⟩ = some (.int .i64 (rd_T62 xs i).f2) ∧ w.cell? ⟨(ad.add (i.toNat * 7)).block, (ad.add (i.toNat * 7)).off + 3, none⟩ = some (.int .i64 (rd_T62 xs i).f3) ∧ w.cell? ⟨(ad.add (i.toNat * 7)).block, (ad.add (i.toNat * 7)).off + 4, none⟩ = some (.int .u32 (rd_T62 xs i).f4.f0) ∧ w.cell? ⟨(ad.add (i.toNat * 7)).block, (ad.add (i.toNat * 7)).off + 5, none⟩ = some (.int .u32 (rd_T62 xs i).f4.f1) ∧ w.cell? ⟨(ad.add (i.toNat * 7)).block, (ad.add (i.toNat * 7)).off + 6, none⟩ = some (.int .i64 (rd_T62 xs i).f5) := by
  obtain ⟨ad, c, e, _, hK, hc0⟩ := Kd.C_get h z62 i h0 h1
  have hc : ∀ j u, c[j]? = some u → w.cell? (ad.add (i.toNat * 7 + j)) = some u := hc0
  obtain rfl := k62_open hK
  exact ⟨ad, e, hc 0 _ rfl, by rw [← add_field _ _ 1 (by omega)]; exact hc 1 _ rfl, by rw [← add_field _ _ 2 (by omega)]; exact hc 2 _ rfl, by rw [← add_field _ _ 3 (by omega)]; exact hc 3 _ rfl, by rw [← add_field _ _ 4 (by omega)]; exact hc 4 _ rfl, by rw [← add_field _ _ 5 (by omega)]; exact hc 5 _ rfl, by rw [← add_field _ _ 6 (by omega)]; exact hc 6 _ rfl⟩
end Go.Proofs.Ytkjighagiecbaaa.P
/-! ### FatP -/
namespace Go.Proofs.Ytkjighagiecbaaa.H
open Go.RowKit Go.Proofs.Ytkjighagiecbaaa.P Go.Proofs.YtkjighagiecbaaaW.PrintWords
set_option linter.unusedVariables false
set_option linter.unusedSimpArgs false
abbrev Rul := S62
def aheadR (x m : Rul) : Bool := decide (m.f2 < x.f2) || (m.f2 == x.f2 && decide (x.f0 < m.f0))
def minR : List Rul → Option Rul
  | [] => none
  | x :: l => some (l.foldl (fun m y => if aheadR y m = true then y else m) x)
def firstS (p : Rul → Bool) (l : List Rul) : Option Rul := minR (l.filter p)
abbrev Trc := List Int × Int × (Int × Int)
inductive Tr (st : Int → Int × (Int × Int)) (nx : Int × Int → Int) : List Int → Int → Trc → Prop
  | loop {seen d} (h : d ∈ seen) : Tr st nx seen d (seen ++ [d], 4, (0, 0))
  | stop {seen d} (h : d ∉ seen) (h4 : (st d).1 ≠ 4) : Tr st nx seen d (seen ++ [d], (st d).1, (st d).2)
  | go {seen d R} (h : d ∉ seen) (h4 : (st d).1 = 4) (t : Tr st nx (seen ++ [d]) (nx (st d).2) R) : Tr st nx seen d R
section
variable {st : Int → Int × (Int × Int)} {nx : Int × Int → Int}
theorem Tr.one {seen : List Int} {d : Int} {R R' : Trc} (t : Tr st nx seen d R) (t' : Tr st nx seen d R') : R = R' := by
  induction t with
  | loop h => cases t' with
    | loop => rfl
    | stop h' => exact absurd h h'
    | go h' => exact absurd h h'
  | stop h h4 => cases t' with
    | loop h' => exact absurd h' h
    | stop => rfl
    | go _ h4' => exact absurd h4' h4
  | go h h4 t ih => cases t' with
    | loop h' => exact absurd h' h
    | stop _ h4' => exact absurd h4 h4'
    | go _ _ t' => exact ih t'
theorem nodup_snoc {l : List Int} {d : Int} (h : l.Nodup) (hd : d ∉ l) : (l ++ [d]).Nodup := by
  rw [List.nodup_append]
  refine ⟨h, by simp, ?_⟩
  intro a ha b hb
  simp only [List.mem_singleton] at hb
  subst hb
  intro e
  subst e
  exact hd ha
theorem nodup_len : ∀ (l D : List Int), l.Nodup → (∀ x ∈ l, x ∈ D) → l.length ≤ D.length
  | [], D, _, _ => Nat.zero_le _
  | x :: l, D, hn, hs => by
    have hx : x ∈ D := hs x (by simp)
    rw [List.nodup_cons] at hn
    have h1 := nodup_len l (D.erase x) hn.2 (fun y hy => by
      have hne : y ≠ x := by
        intro e
        rw [e] at hy
        exact hn.1 hy
      exact (List.mem_erase_of_ne hne).2 (hs y (List.mem_cons_of_mem _ hy)))
    rw [List.length_erase_of_mem hx] at h1
    have := List.length_pos_of_mem hx
    rw [List.length_cons]
    omega
theorem Tr.ends (D : List Int) (hD : ∀ d, (st d).1 = 4 → nx (st d).2 ∈ D) : ∀ (k : Nat) (seen : List Int) (d : Int), seen.Nodup → (∀ x ∈ seen, x ∈ D) → d ∈ D → D.length ≤ k + seen.length → ∃ R, Tr st nx seen d R ∧ R.1.length ≤ D.length + 1
  | 0, seen, d, hn, hs, hd, hk => by
    by_cases h : d ∈ seen
    · exact ⟨_, .loop h, by have := nodup_len seen D hn hs; simp only [List.length_append, List.length_singleton]; omega⟩
    · have h1 := nodup_len (seen ++ [d]) D (nodup_snoc hn h) (fun x hx => by
        rw [List.mem_append, List.mem_singleton] at hx
        rcases hx with hx | rfl
        · exact hs x hx
        · exact hd)
      rw [List.length_append, List.length_singleton] at h1
      omega
  | k + 1, seen, d, hn, hs, hd, hk => by
    have hs2 : ∀ x ∈ seen ++ [d], x ∈ D := fun x hx => by
      rw [List.mem_append, List.mem_singleton] at hx
      rcases hx with hx | rfl
      · exact hs x hx
      · exact hd
    by_cases h : d ∈ seen
    · exact ⟨_, .loop h, by have := nodup_len seen D hn hs; simp only [List.length_append, List.length_singleton]; omega⟩
    · by_cases h4 : (st d).1 = 4
      · obtain ⟨R, t, hl⟩ := Tr.ends D hD k (seen ++ [d]) (nx (st d).2) (nodup_snoc hn h) hs2 (hD d h4) (by rw [List.length_append, List.length_singleton]; omega)
        exact ⟨R, .go h h4 t, hl⟩
      · exact ⟨_, .stop h h4, by have := nodup_len (seen ++ [d]) D (nodup_snoc hn h) hs2; show (seen ++ [d]).length ≤ _; omega⟩
theorem Tr.rest {seen : List Int} {d : Int} {R : Trc} (t : Tr st nx seen d R) (h4 : R.2.1 ≠ 4) : ∃ rest, R.1 = seen ++ rest ∧ (∀ x ∈ rest, x ∉ seen) ∧ rest.Nodup ∧ ∀ s : List Int, (∀ x ∈ rest, x ∉ s) → Tr st nx s d (s ++ rest, R.2) := by
  induction t with
  | loop h => exact absurd rfl h4
  | @stop seen d h hs =>
    refine ⟨[d], rfl, fun x hx => ?_, by simp, fun s hx => .stop (hx d (by simp)) hs⟩
    simp only [List.mem_singleton] at hx
    rw [hx]
    exact h
  | @go seen d R h hs t ih =>
    obtain ⟨rest, e, hn, hd, hr⟩ := ih h4
    refine ⟨d :: rest, by rw [e, List.append_assoc]; rfl, ?_, ?_, ?_⟩
    · intro x hx
      rcases List.mem_cons.1 hx with rfl | hx
      · exact h
      · exact fun hm => hn x hx (List.mem_append_left _ hm)
    · rw [List.nodup_cons]
      exact ⟨fun hm => hn d hm (by simp), hd⟩
    · intro s hx
      refine .go (hx d (by simp)) hs ?_
      have := hr (s ++ [d]) (fun x hm hh => by
        rw [List.mem_append, List.mem_singleton] at hh
        rcases hh with hh | rfl
        · exact hx x (List.mem_cons_of_mem _ hm) hh
        · exact hn x hm (by simp))
      rw [List.append_assoc] at this
      exact this
theorem Tr.form {seen : List Int} {d : Int} {R : Trc} (t : Tr st nx seen d R) (hn : seen.Nodup) : ∃ init last, R.1 = init ++ [last] ∧ init.Nodup ∧ ((R.2 = (4, (0, 0)) ∧ last ∈ init) ∨ (R.2 = st last ∧ R.2.1 ≠ 4 ∧ last ∉ init)) := by
  induction t with
  | @loop seen d h => exact ⟨seen, d, rfl, hn, .inl ⟨rfl, h⟩⟩
  | @stop seen d h hs => exact ⟨seen, d, rfl, hn, .inr ⟨rfl, hs, h⟩⟩
  | go h hs t ih => exact ih (nodup_snoc hn h)
theorem Tr.chain {seen : List Int} {d : Int} {R : Trc} (t : Tr st nx seen d R) : (∃ rest, R.1 = seen ++ d :: rest) ∧ ∀ (i : Nat) (x y : Int), seen.length ≤ i → R.1[i]? = some x → R.1[i + 1]? = some y → (st x).1 = 4 ∧ nx (st x).2 = y := by
  induction t with
  | @loop seen d h =>
    refine ⟨⟨[], rfl⟩, fun i x y hi hx hy => ?_⟩
    have : i + 1 < (seen ++ [d]).length := (List.getElem?_eq_some_iff.1 hy).1
    rw [List.length_append, List.length_singleton] at this
    omega
  | @stop seen d h hs =>
    refine ⟨⟨[], rfl⟩, fun i x y hi hx hy => ?_⟩
    have : i + 1 < (seen ++ [d]).length := (List.getElem?_eq_some_iff.1 hy).1
    rw [List.length_append, List.length_singleton] at this
    omega
  | @go seen d R h hs t ih =>
    obtain ⟨⟨rest, e⟩, hc⟩ := ih
    rw [List.append_assoc] at e
    refine ⟨⟨nx (st d).2 :: rest, e⟩, fun i x y hi hx hy => ?_⟩
    by_cases hi2 : i = seen.length
    · subst hi2
      rw [e, List.getElem?_append_right (Nat.le_refl _), Nat.sub_self] at hx
      rw [e, List.getElem?_append_right (by omega), show seen.length + 1 - seen.length = 1 from by omega] at hy
      simp only [List.cons_append, List.nil_append, List.getElem?_cons_zero, Option.some.injEq, List.getElem?_cons_succ] at hx hy
      rw [← hx, ← hy]
      exact ⟨hs, rfl⟩
    · exact hc i x y (by rw [List.length_append, List.length_singleton]; omega) hx hy
end
end Go.Proofs.Ytkjighagiecbaaa.H
/-! ### FatQ -/
namespace Go.Proofs.Ytkjighagiecbaaa.H
open Go.RowKit Go.Proofs.Ytkjighagiecbaaa.P Go.Proofs.YtkjighagiecbaaaW.PrintWords
set_option linter.unusedVariables false
set_option linter.unusedSimpArgs false
def takesS (d a : Int) (r : Rul) : Bool := r.f1 == d && (decide (r.f4.f0 ≤ a) && decide (a ≤ r.f4.f1))
def matchP (d a : Int) (r : Rul) : Bool := decide (r.f3 ≤ 1) && takesS d a r
def denyP (d a : Int) (r : Rul) : Bool := decide (1 < r.f3) && takesS d a r
def deniedS (dn : Int → Int → Rul → Bool) (l : List Rul) (a d : Int) : Bool := match firstS (dn d a) l with | some r => r.f3 == 3 | none => false
def stepS (mt dn : Int → Int → Rul → Bool) (l : List Rul) (nx : Int × Int → Option (Int × Int)) (a d : Int) : Int × (Int × Int) :=
  if deniedS dn l a d = true then (2, (0, 0)) else
  match firstS (mt d a) l with
  | none => (0, (0, 0))
  | some r => if r.f3 = 1 then (1, (0, 0)) else if (nx (d, r.f5)).isSome = true then (4, (d, r.f5)) else (3, (d, r.f5))
def nxD (nx : Int × Int → Option (Int × Int)) (p : Int × Int) : Int := ((nx p).getD (0, 0)).1
theorem step_fates (mt dn : Int → Int → Rul → Bool) (l : List Rul) (nx : Int × Int → Option (Int × Int)) (a d : Int) :
    ((stepS mt dn l nx a d).1 = 4 → (nx (stepS mt dn l nx a d).2).isSome = true ∧ (stepS mt dn l nx a d).2.1 = d) ∧
    ((stepS mt dn l nx a d).1 = 3 → (nx (stepS mt dn l nx a d).2).isSome = false ∧ (stepS mt dn l nx a d).2.1 = d) ∧
    ((stepS mt dn l nx a d).1 ≠ 3 → (stepS mt dn l nx a d).1 ≠ 4 → (stepS mt dn l nx a d).2 = (0, 0)) ∧
    0 ≤ (stepS mt dn l nx a d).1 ∧ (stepS mt dn l nx a d).1 ≤ 4 := by
  unfold stepS
  split
  · exact ⟨fun h => by simp at h, fun h => by simp at h, fun _ _ => rfl, by decide, by decide⟩
  · split
    · exact ⟨fun h => by simp at h, fun h => by simp at h, fun _ _ => rfl, by decide, by decide⟩
    · split
      · exact ⟨fun h => by simp at h, fun h => by simp at h, fun _ _ => rfl, by decide, by decide⟩
      · split
        · rename_i h
          exact ⟨fun _ => ⟨h, rfl⟩, fun h => by simp at h, fun _ h => absurd rfl h, (by decide : (0 : Int) ≤ 4), (by decide : (4 : Int) ≤ 4)⟩
        · rename_i h
          exact ⟨fun h => by simp at h, fun _ => ⟨by simpa using h, rfl⟩, fun h => absurd rfl h, (by decide : (0 : Int) ≤ 3), (by decide : (3 : Int) ≤ 4)⟩
theorem trace_is (mt dn : Int → Int → Rul → Bool) (l : List Rul) (nx : Int × Int → Option (Int × Int)) (D : List Int) (hD : ∀ p q, nx p = some q → q.1 ∈ D) (a d : Int) :
    ∃ R, Tr (stepS mt dn l nx a) (nxD nx) [] d R ∧ R.1.length ≤ D.length + 2 := by
  obtain ⟨R, t, h⟩ := Tr.ends (st := stepS mt dn l nx a) (nx := nxD nx) (d :: D) (fun x hx => by
    have h := ((step_fates mt dn l nx a x).1 hx).1
    unfold nxD
    cases e : nx (stepS mt dn l nx a x).2 with
    | none => rw [e] at h; cases h
    | some q => exact List.mem_cons_of_mem _ (hD _ q e)) (D.length + 1) [] d .nil (by simp) (by simp) (by simp)
  exact ⟨R, t, by simpa using h⟩
end Go.Proofs.Ytkjighagiecbaaa.H
/-! ### FatR -/
namespace Go.Proofs.Ytkjighagiecbaaa.H
open Go.RowKit Go.Proofs.Ytkjighagiecbaaa.P Go.Proofs.YtkjighagiecbaaaW.PrintWords
set_option linter.unusedVariables false
set_option linter.unusedSimpArgs false
section
variable {st : Int → Int × (Int × Int)} {nx : Int × Int → Int} {d : Int} {R : Trc}
theorem ends_pair (t : Tr st nx [] d R) {i j : Nat} {x : Int} (hi : R.1[i]? = some x) (hj : R.1[j]? = some x) (h : j < i) : R.2.1 = 4 ∧ i + 1 = R.1.length := by
  obtain ⟨init, last, e, hn, hc⟩ := t.form .nil
  rw [e] at hi hj ⊢
  have hlen : i < (init ++ [last]).length := (List.getElem?_eq_some_iff.1 hi).1
  rw [List.length_append, List.length_singleton] at hlen ⊢
  by_cases q : i < init.length
  · rw [List.getElem?_append_left q] at hi
    rw [List.getElem?_append_left (by omega)] at hj
    have := (List.getElem?_inj (by omega : j < init.length) hn).1 (hj.trans hi.symm)
    omega
  · have hi2 : i = init.length := by omega
    subst hi2
    rw [List.getElem?_append_right (Nat.le_refl _), Nat.sub_self] at hi
    rw [List.getElem?_append_left h] at hj
    simp only [List.getElem?_cons_zero, Option.some.injEq] at hi
    have hm : last ∈ init := by rw [hi]; exact List.mem_of_getElem? hj
    rcases hc with ⟨h4, _⟩ | ⟨_, _, hno⟩
    · exact ⟨by rw [h4], rfl⟩
    · exact absurd hm hno
theorem ends_last (t : Tr st nx [] d R) : ∃ init last, R.1 = init ++ [last] ∧ R.1[0]? = some d ∧ (last ∈ init ↔ R.2.1 = 4) ∧ (R.2.1 = 4 → R.2.2 = (0, 0)) ∧ (R.2.1 ≠ 4 → R.2 = st last) := by
  obtain ⟨init, last, e, hn, hc⟩ := t.form .nil
  obtain ⟨⟨rest, hr⟩, _⟩ := t.chain
  refine ⟨init, last, e, by rw [hr]; rfl, ?_, ?_, ?_⟩
  · rcases hc with ⟨h4, hm⟩ | ⟨_, h4, hm⟩
    · exact ⟨fun _ => by rw [h4], fun _ => hm⟩
    · exact ⟨fun h => absurd h hm, fun h => absurd h h4⟩
  · intro h
    rcases hc with ⟨h4, _⟩ | ⟨_, h4, _⟩
    · rw [h4]
    · exact absurd h h4
  · intro h
    rcases hc with ⟨h4, _⟩ | ⟨h5, _, _⟩
    · rw [h4] at h; exact absurd rfl h
    · exact h5
theorem ends_next (t : Tr st nx [] d R) {i : Nat} {x y : Int} (hx : R.1[i]? = some x) (hy : R.1[i + 1]? = some y) : (st x).1 = 4 ∧ nx (st x).2 = y := t.chain.2 i x y (Nat.zero_le _) hx hy
end
end Go.Proofs.Ytkjighagiecbaaa.H
