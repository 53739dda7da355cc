/- Px0, EdtP. -/
import Derived.Test.YtckjhdlpbfcaiaaProg
import Derived.Below
import Derived.Deep.Draws
import Derived.Deep.AppendLies
import Derived.Maps.AppendAt
import Derived.OwnWalk
import Derived.Laws.BytesArg
import Derived.Laws.MakeOwn
import Derived.Laws.OwnMore
import Derived.Deep.OwnRows
import Derived.Tactics
import Derived.Lib.ConvBytes
import Derived.Laws.Slices
import Derived.WalkKit
import Derived.KernelRfl
import Derived.RowKit3
import Derived.Deep.LoopGhost
import Derived.Deep.QuietTactic
import Derived.BigQuiet
import Derived.WideLaws
import Derived.Deep.DeepCutAuto
import Derived.Deep.CutBlock
import Derived.Deep.RegionHeld3
import Derived.Laws.Rows
import Derived.Lib.AppendStr
import Derived.ArgAppend
import Derived.Laws.IdiomCopy
import Derived.OrdersHeld
import Derived.Laws.BitsLemmas
import Derived.RowKit
import Derived.Test.YtckjhdlpbfcaiaaDWWords
import Derived.Test.YtckjhdlpbfcaiaaDWN
import Derived.Test.YtckjhdlpbfcaiaaDWMore
/-! ### Px0 -/
namespace Go.Proofs.Ytckjhdlpbfcaiaa.P
open Go.RowKit Go.Proofs.YtckjhdlpbfcaiaaW.PrintWords Go.Proofs.YtckjhdlpbfcaiaaW.PrintLast Go.Proofs.YtckjhdlpbfcaiaaW.PrintMore
set_option linter.unusedVariables false
set_option linter.unusedSimpArgs false
def errW : Option Int → Value
  | none => .nilIface
  | some c => .iface 0 (.int .i64 c)
theorem errW_none : errW none = .nilIface := rfl
theorem errW_some (c : Int) : errW (some c) = .iface 0 (.int .i64 c) := rfl
theorem info35 : (Try.prog.info? 35).map (fun i => (i.zero, i.size, i.bytes)) = some (some (.agg #[(.int .i64 0), (.int .i64 0), (.int .i64 0), (.int .i64 0), (.int .u32 0), (.int .u32 0), (.int .i64 0)]), 7, 48) := by kernel_rfl
theorem info37 : (Try.prog.info? 37).map (fun i => (i.zero, i.size, i.bytes)) = some (some (.agg #[(.int .i64 0), (.int .i64 0), (.int .i64 0), (.int .i64 0), (.int .i64 0), (.int .u32 0), (.int .u32 0), (.int .i64 0)]), 8, 56) := by kernel_rfl
structure S33 where
  f0 : Int
  f1 : Int
def z33 : S33 := ⟨(0 : Int), (0 : Int)⟩
def k33 : Kd S33 := Kd.iso (Kd.pair (Kd.int .u32) (Kd.int .u32)) (fun x : S33 => (x.f0, x.f1))
theorem k33_open {w : World} {x : S33} {cs : List Value} (h : k33.K w x cs) : cs = [.int .u32 x.f0, .int .u32 x.f1] := by
  obtain ⟨_, _, rfl, rfl, rfl⟩ := h
  exact rfl
theorem k33_mkM (w : World) (base : Nat) (ok : Nat → Prop) (x : S33)  : k33.M w base ok x [.int .u32 x.f0, .int .u32 x.f1] := ⟨[.int .u32 x.f0], [.int .u32 x.f1], rfl, rfl, rfl⟩
structure S35 where
  f0 : Int
  f1 : Int
  f2 : Int
  f3 : Int
  f4 : S33
  f5 : Int
def z35 : S35 := ⟨(0 : Int), (0 : Int), (0 : Int), (0 : Int), z33, (0 : Int)⟩
def k35 : Kd S35 := Kd.iso (Kd.pair (Kd.int .i64) (Kd.pair (Kd.int .i64) (Kd.pair (Kd.int .i64) (Kd.pair (Kd.int .i64) (Kd.pair k33 (Kd.int .i64)))))) (fun x : S35 => (x.f0, x.f1, x.f2, x.f3, x.f4, x.f5))
theorem k35_open {w : World} {x : S35} {cs : List Value} (h : k35.K w x cs) : cs = [.int .i64 x.f0, .int .i64 x.f1, .int .i64 x.f2, .int .i64 x.f3, .int .u32 x.f4.f0, .int .u32 x.f4.f1, .int .i64 x.f5] := by
  obtain ⟨_, _, rfl, rfl, ⟨_, _, rfl, rfl, ⟨_, _, rfl, rfl, ⟨_, _, rfl, rfl, ⟨_, _, rfl, s4, rfl⟩⟩⟩⟩⟩ := h
  obtain rfl := k33_open s4
  exact rfl
theorem k35_mkM (w : World) (base : Nat) (ok : Nat → Prop) (x : S35)  : k35.M w base ok x [.int .i64 x.f0, .int .i64 x.f1, .int .i64 x.f2, .int .i64 x.f3, .int .u32 x.f4.f0, .int .u32 x.f4.f1, .int .i64 x.f5] := ⟨[.int .i64 x.f0], [.int .i64 x.f1, .int .i64 x.f2, .int .i64 x.f3, .int .u32 x.f4.f0, .int .u32 x.f4.f1, .int .i64 x.f5], rfl, rfl, ⟨[.int .i64 x.f1], [.int .i64 x.f2, .int .i64 x.f3, .int .u32 x.f4.f0, .int .u32 x.f4.f1, .int .i64 x.f5], rfl, rfl, ⟨[.int .i64 x.f2], [.int .i64 x.f3, .int .u32 x.f4.f0, .int .u32 x.f4.f1, .int .i64 x.f5], rfl, rfl, ⟨[.int .i64 x.f3], [.int .u32 x.f4.f0, .int .u32 x.f4.f1, .int .i64 x.f5], rfl, rfl, ⟨[.int .u32 x.f4.f0, .int .u32 x.f4.f1], [.int .i64 x.f5], rfl, (k33_mkM w base ok x.f4 ), rfl⟩⟩⟩⟩⟩
def rd_T35 (xs : List S35) (i : Int) : S35 := xs.getD i.toNat z35
theorem at_T35 {w : World} {A : Option Addr} {n : Nat} {xs : List S35} (h : Kd.C k35 w A n xs) (i : Int) (h0 : 0 ≤ i) (h1 : i < n) : ∃ ad , A = some ad ∧ w.cell? (ad.add (i.toNat * 7)) = some (.int .i64 (rd_T35 xs i).f0) ∧ w.cell? ⟨(ad.add (i.toNat * 7)).block, (ad.add (i.toNat * 7)).off + 1, none⟩ = some (.int .i64 (rd_T35 xs i).f1) ∧ w.cell? ⟨(ad.add (i.toNat * 7)).block, (ad.add (i.toNat * 7)).off + 2, none⟩ = some (.int .i64 (rd_T35 xs i).f2) ∧ w.cell? ⟨(ad.add (i.toNat * 7)).block, (ad.add (i.toNat * 7)).off + 3, none⟩ = some (.int .i64 (rd_T35 xs i).f3) ∧ w.cell? ⟨(ad.add (i.toNat * 7)).block, (ad.add (i.toNat * 7)).off + 4, none⟩ = some (.int .u32 (rd_T35 xs i).f4.f0) ∧ w.cell? ⟨(ad.add (i.toNat * 7)).block, (ad.add (i.toNat * 7)).off + 5, none⟩ = some (.int .u32 (rd_T35 xs i).f4.f1) ∧ w.cell? ⟨(ad.add (i.toNat * 7)).block, (ad.add (i.toNat * 7)).off + 6, none⟩ = some (.int .i64 (rd_T35 xs i).f5) := by
  obtain ⟨ad, c, e, _, hK, hc0⟩ := Kd.C_get h z35 i h0 h1
  have hc : ∀ j u, c[j]? = some u → w.cell? (ad.add (i.toNat * 7 + j)) = some u := hc0
  obtain rfl := k35_open hK
  exact ⟨ad, e, hc 0 _ rfl, by rw [← add_field _ _ 1 (by omega)]; exact hc 1 _ rfl, by rw [← add_field _ _ 2 (by omega)]; exact hc 2 _ rfl, by rw [← add_field _ _ 3 (by omega)]; exact hc 3 _ rfl, by rw [← add_field _ _ 4 (by omega)]; exact hc 4 _ rfl, by rw [← add_field _ _ 5 (by omega)]; exact hc 5 _ rfl, by rw [← add_field _ _ 6 (by omega)]; exact hc 6 _ rfl⟩
structure S37 where
  f0 : Int
  f1 : S35
def z37 : S37 := ⟨(0 : Int), z35⟩
def k37 : Kd S37 := Kd.iso (Kd.pair (Kd.int .i64) k35) (fun x : S37 => (x.f0, x.f1))
theorem k37_open {w : World} {x : S37} {cs : List Value} (h : k37.K w x cs) : cs = [.int .i64 x.f0, .int .i64 x.f1.f0, .int .i64 x.f1.f1, .int .i64 x.f1.f2, .int .i64 x.f1.f3, .int .u32 x.f1.f4.f0, .int .u32 x.f1.f4.f1, .int .i64 x.f1.f5] := by
  obtain ⟨_, _, rfl, rfl, s1⟩ := h
  obtain rfl := k35_open s1
  exact rfl
theorem k37_mkM (w : World) (base : Nat) (ok : Nat → Prop) (x : S37)  : k37.M w base ok x [.int .i64 x.f0, .int .i64 x.f1.f0, .int .i64 x.f1.f1, .int .i64 x.f1.f2, .int .i64 x.f1.f3, .int .u32 x.f1.f4.f0, .int .u32 x.f1.f4.f1, .int .i64 x.f1.f5] := ⟨[.int .i64 x.f0], [.int .i64 x.f1.f0, .int .i64 x.f1.f1, .int .i64 x.f1.f2, .int .i64 x.f1.f3, .int .u32 x.f1.f4.f0, .int .u32 x.f1.f4.f1, .int .i64 x.f1.f5], rfl, rfl, (k35_mkM w base ok x.f1 )⟩
def rd_T37 (xs : List S37) (i : Int) : S37 := xs.getD i.toNat z37
theorem at_T37 {w : World} {A : Option Addr} {n : Nat} {xs : List S37} (h : Kd.C k37 w A n xs) (i : Int) (h0 : 0 ≤ i) (h1 : i < n) : ∃ ad , A = some ad ∧ w.cell? (ad.add (i.toNat * 8)) = some (.int .i64 (rd_T37 xs i).f0) ∧ w.cell? ⟨(ad.add (i.toNat * 8)).block, (ad.add (i.toNat * 8)).off + 1, none⟩ = some (.int .i64 (rd_T37 xs i).f1.f0) ∧ w.cell? ⟨(ad.add (i.toNat * 8)).block, (ad.add (i.toNat * 8)).off + 2, none⟩ = some (.int .i64 (rd_T37 xs i).f1.f1) ∧ w.cell? ⟨(ad.add (i.toNat * 8)).block, (ad.add (i.toNat * 8)).off + 3, none⟩ = some (.int .i64 (rd_T37 xs i).f1.f2) ∧ w.cell? ⟨(ad.add (i.toNat * 8)).block, (ad.add (i.toNat * 8)).off + 4, none⟩ = some (.int .i64 (rd_T37 xs i).f1.f3) ∧ w.cell? ⟨(ad.add (i.toNat * 8)).block, (ad.add (i.toNat * 8)).off + 5, none⟩ = some (.int .u32 (rd_T37 xs i).f1.f4.f0) ∧ w.cell? ⟨(ad.add (i.toNat * 8)).block, (ad.add (i.toNat * 8)).off + 6, none⟩ = some (.int .u32 (rd_T37 xs i).f1.f4.f1) ∧ w.cell? ⟨(ad.add (i.toNat * 8)).block, (ad.add (i.toNat * 8)).off + 7, none⟩ = some (.int .i64 (rd_T37 xs i).f1.f5) := by
  obtain ⟨ad, c, e, _, hK, hc0⟩ := Kd.C_get h z37 i h0 h1
  have hc : ∀ j u, c[j]? = some u → w.cell? (ad.add (i.toNat * 8 + j)) = some u := hc0
  obtain rfl := k37_open hK
  exact ⟨ad, e, hc 0 _ rfl, by rw [← add_field _ _ 1 (by omega)]; exact hc 1 _ rfl, by rw [← add_field _ _ 2 (by omega)]; exact hc 2 _ rfl, by rw [← add_field _ _ 3 (by omega)]; exact hc 3 _ rfl, by rw [← add_field _ _ 4 (by omega)]; exact hc 4 _ rfl, by rw [← add_field _ _ 5 (by omega)]; exact hc 5 _ rfl, by rw [← add_field _ _ 6 (by omega)]; exact hc 6 _ rfl, by rw [← add_field _ _ 7 (by omega)]; exact hc 7 _ rfl⟩
end Go.Proofs.Ytckjhdlpbfcaiaa.P
/-! ### EdtP -/
namespace Go.Proofs.Ytckjhdlpbfcaiaa.H
open Go.RowKit Go.Proofs.Ytckjhdlpbfcaiaa.P Go.Proofs.YtckjhdlpbfcaiaaW.PrintWords
set_option linter.unusedVariables false
set_option linter.unusedSimpArgs false
abbrev Rle := S35
def Rising (l : List Rle) : Prop := l.Pairwise (fun a b => a.f0 < b.f0)
def findK (l : List Rle) (id : Int) : Option Rle := l.find? (fun r => r.f0 == id)
theorem findK_none {l : List Rle} {id : Int} : findK l id = none ↔ ∀ r ∈ l, r.f0 ≠ id := by
  unfold findK
  rw [List.find?_eq_none]
  constructor
  · intro h r hr e
    exact h r hr (by rw [e]; simp)
  · intro h r hr e
    exact h r hr (by simpa using e)
theorem findK_id {l : List Rle} {id : Int} {r : Rle} (h : findK l id = some r) : r.f0 = id ∧ r ∈ l := by
  unfold findK at h
  exact ⟨by simpa using List.find?_some h, List.mem_of_find?_eq_some h⟩
theorem findK_cons (x : Rle) (l : List Rle) (id : Int) : findK (x :: l) id = if x.f0 = id then some x else findK l id := by
  unfold findK
  rw [List.find?_cons]
  by_cases h : x.f0 = id
  · rw [if_pos h, h]; simp
  · rw [if_neg h]
    have : (x.f0 == id) = false := by simpa using h
    rw [this]
theorem findK_append (l m : List Rle) (id : Int) : findK (l ++ m) id = (findK l id).or (findK m id) := by
  unfold findK
  rw [List.find?_append]
theorem findK_mem {l : List Rle} (h : Rising l) {r : Rle} (hr : r ∈ l) : findK l r.f0 = some r := by
  induction l with
  | nil => cases hr
  | cons x l ih =>
    rw [findK_cons]
    rcases List.mem_cons.1 hr with rfl | hr
    · rw [if_pos rfl]
    · have := (List.pairwise_cons.1 h).1 r hr
      rw [if_neg (by omega)]
      exact ih (List.pairwise_cons.1 h).2 hr
theorem rising_ext : ∀ {l m : List Rle}, Rising l → Rising m → (∀ id, findK l id = findK m id) → l = m
  | [], [], _, _, _ => rfl
  | [], y :: m, _, _, h => by
    have := h y.f0
    rw [findK_cons, if_pos rfl] at this
    cases this
  | x :: l, [], _, _, h => by
    have := h x.f0
    rw [findK_cons, if_pos rfl] at this
    cases this
  | x :: l, y :: m, hl, hm, h => by
    have h1 := h x.f0
    have h2 := h y.f0
    rw [findK_cons, if_pos rfl, findK_cons] at h1
    rw [findK_cons, findK_cons, if_pos rfl] at h2
    have hxy : x.f0 = y.f0 := by
      by_cases e : y.f0 = x.f0
      · exact e.symm
      · rw [if_neg e] at h1
        have a := (List.pairwise_cons.1 hm).1 x (findK_id h1.symm).2
        rw [if_neg (fun q => e q.symm)] at h2
        have b := (List.pairwise_cons.1 hl).1 y (findK_id h2).2
        omega
    rw [if_pos hxy.symm] at h1
    injection h1 with h1
    subst h1
    have ht : l = m := rising_ext (List.pairwise_cons.1 hl).2 (List.pairwise_cons.1 hm).2 (fun id => by
      by_cases e : x.f0 = id
      · rw [findK_none.2 (fun r hr => by have := (List.pairwise_cons.1 hl).1 r hr; omega), findK_none.2 (fun r hr => by have := (List.pairwise_cons.1 hm).1 r hr; omega)]
      · have := h id
        rw [findK_cons, findK_cons, if_neg e, if_neg e] at this
        exact this)
    rw [ht]
def putK (l : List Rle) (r : Rle) : List Rle := l.filter (fun x => decide (x.f0 < r.f0)) ++ r :: l.filter (fun x => decide (r.f0 < x.f0))
def delK (l : List Rle) (id : Int) : List Rle := l.filter (fun x => !(x.f0 == id))
theorem findK_filter {p : Rle → Bool} {id : Int} (b : Bool) (hp : ∀ x : Rle, x.f0 = id → p x = b) : ∀ l : List Rle, findK (l.filter p) id = if b = true then findK l id else none
  | [] => by cases b <;> rfl
  | x :: l => by
    rw [List.filter_cons]
    by_cases e : x.f0 = id
    · rw [hp x e]
      cases b with
      | true => rw [if_pos rfl, findK_cons, if_pos e, if_pos rfl, findK_cons, if_pos e]
      | false =>
        rw [if_neg (by simp), if_neg (by simp)]
        have := findK_filter (p := p) (id := id) false hp l
        rwa [if_neg (by simp)] at this
    · have ih := findK_filter b hp l
      by_cases c : p x = true
      · rw [if_pos c, findK_cons, if_neg e, ih, findK_cons, if_neg e]
      · rw [if_neg c, ih, findK_cons, if_neg e]
theorem findK_put (l : List Rle) (r : Rle) (id : Int) : findK (putK l r) id = if r.f0 = id then some r else findK l id := by
  unfold putK
  rw [findK_append, findK_cons]
  by_cases e : r.f0 = id
  · rw [if_pos e, if_pos e, findK_filter false (fun x hx => by rw [hx, e]; simp) l, if_neg (by simp)]
    rfl
  · rw [if_neg e, if_neg e]
    by_cases c : id < r.f0
    · rw [findK_filter true (fun x hx => by rw [hx]; simpa using c) l, if_pos rfl, findK_filter false (fun x hx => by rw [hx]; simp only [decide_eq_false_iff_not]; omega) l, if_neg (by simp)]
      cases findK l id <;> rfl
    · rw [findK_filter false (fun x hx => by rw [hx]; simpa using c) l, if_neg (by simp), findK_filter true (fun x hx => by rw [hx]; simp only [decide_eq_true_eq]; omega) l, if_pos rfl]
      rfl
theorem findK_del (l : List Rle) (d id : Int) : findK (delK l d) id = if d = id then none else findK l id := by
  unfold delK
  by_cases e : d = id
  · rw [if_pos e, findK_filter false (fun x hx => by rw [hx, e]; simp) l, if_neg (by simp)]
  · rw [if_neg e, findK_filter true (fun x hx => by rw [hx]; simp only [Bool.not_eq_true', beq_eq_false_iff_ne, ne_eq]; exact fun q => e q.symm) l, if_pos rfl]
theorem rising_filter {l : List Rle} (h : Rising l) (p : Rle → Bool) : Rising (l.filter p) := List.Pairwise.filter p h
theorem rising_del {l : List Rle} (h : Rising l) (d : Int) : Rising (delK l d) := rising_filter h _
theorem rising_put {l : List Rle} (h : Rising l) (r : Rle) : Rising (putK l r) := by
  unfold putK Rising
  rw [List.pairwise_append]
  refine ⟨rising_filter h _, ?_, ?_⟩
  · rw [List.pairwise_cons]
    exact ⟨fun x hx => by simpa using (List.mem_filter.1 hx).2, rising_filter h _⟩
  · intro a ha b hb
    have h1 : a.f0 < r.f0 := by simpa using (List.mem_filter.1 ha).2
    rcases List.mem_cons.1 hb with rfl | hb
    · exact h1
    · have h2 : r.f0 < b.f0 := by simpa using (List.mem_filter.1 hb).2
      omega
structure Codes where
  w : Int
  t : Int
  n : Int
  f : Int
def applyK (c : Codes) (m : Nat) (right : Rle → Bool) (l : List Rle) (k : Int) (r : Rle) : List Rle × Int :=
  if (k < 0 ∨ 2 < k) ∨ (k ≠ 1 ∧ right r = false) then ([], c.w) else
  if k = 0 then (if (findK l r.f0).isSome then ([], c.t) else if m ≤ l.length then ([], c.f) else (putK l r, 0)) else
  if (findK l r.f0).isSome = false then ([], c.n) else
  if k = 1 then (delK l r.f0, 0) else (putK l r, 0)
section
variable {c : Codes} {m : Nat} {right : Rle → Bool}
theorem applyK_ok (hc : c.w ≠ 0 ∧ c.t ≠ 0 ∧ c.n ≠ 0 ∧ c.f ≠ 0) {l : List Rle} {k : Int} {r : Rle} (hl : Rising l) (h : (applyK c m right l k r).2 = 0) :
    Rising (applyK c m right l k r).1 ∧ (k = 0 ∨ k = 1 ∨ k = 2) ∧ (k = 1 ∨ right r = true) ∧ (k = 0 → findK l r.f0 = none ∧ l.length < m) ∧ (k ≠ 0 → (findK l r.f0).isSome = true) ∧
    ∀ id, findK (applyK c m right l k r).1 id = if r.f0 = id then (if k = 1 then none else some r) else findK l id := by
  unfold applyK at h ⊢
  by_cases h1 : (k < 0 ∨ 2 < k) ∨ (k ≠ 1 ∧ right r = false)
  · rw [if_pos h1] at h; exact absurd h hc.1
  · rw [if_neg h1] at h ⊢
    have hk : k = 0 ∨ k = 1 ∨ k = 2 := by omega
    have hr : k = 1 ∨ right r = true := by
      by_cases e : k = 1
      · exact .inl e
      · cases q : right r
        · exact absurd (.inr ⟨e, q⟩) h1
        · exact .inr rfl
    by_cases k0 : k = 0
    · rw [if_pos k0] at h ⊢
      by_cases h2 : (findK l r.f0).isSome = true
      · rw [if_pos h2] at h; exact absurd h hc.2.1
      · rw [if_neg h2] at h ⊢
        by_cases h3 : m ≤ l.length
        · rw [if_pos h3] at h; exact absurd h hc.2.2.2
        · rw [if_neg h3]
          refine ⟨rising_put hl r, hk, hr, fun _ => ⟨?_, by omega⟩, fun q => absurd k0 q, fun id => ?_⟩
          · cases q : findK l r.f0
            · rfl
            · rw [q] at h2; simp at h2
          · rw [findK_put, if_neg (by omega : ¬ k = 1)]
    · rw [if_neg k0] at h ⊢
      by_cases h2 : (findK l r.f0).isSome = false
      · rw [if_pos h2] at h; exact absurd h hc.2.2.1
      · rw [if_neg h2] at h ⊢
        have h2' : (findK l r.f0).isSome = true := by
          cases q : (findK l r.f0).isSome
          · exact absurd q h2
          · rfl
        by_cases k1 : k = 1
        · rw [if_pos k1]
          refine ⟨rising_del hl _, hk, hr, fun q => absurd q k0, fun _ => h2', fun id => ?_⟩
          rw [findK_del, if_pos k1]
        · rw [if_neg k1]
          refine ⟨rising_put hl r, hk, hr, fun q => absurd q k0, fun _ => h2', fun id => ?_⟩
          rw [findK_put, if_neg k1]
end
theorem two_len (a : Int) : ∀ l : List Rle, (l.filter (fun x => decide (x.f0 < a))).length + (l.filter (fun x => decide (a < x.f0))).length + (if (findK l a).isSome = true then 1 else 0) ≤ l.length
  | [] => by simp [findK]
  | x :: l => by
    have ih := two_len a l
    rw [List.filter_cons, List.filter_cons, findK_cons, List.length_cons]
    by_cases e : x.f0 = a
    · rw [if_pos e, if_neg (by simp only [decide_eq_true_eq]; omega), if_neg (by simp only [decide_eq_true_eq]; omega)]
      simp only [Option.isSome_some, if_true]
      split at ih <;> omega
    · rw [if_neg e]
      by_cases c : x.f0 < a
      · rw [if_pos (by simpa using c), if_neg (by simp only [decide_eq_true_eq]; omega), List.length_cons]
        omega
      · rw [if_neg (by simpa using c), if_pos (by simp only [decide_eq_true_eq]; omega), List.length_cons]
        omega
theorem len_put (l : List Rle) (r : Rle) : (putK l r).length + (if (findK l r.f0).isSome = true then 1 else 0) ≤ l.length + 1 := by
  have := two_len r.f0 l
  unfold putK
  rw [List.length_append, List.length_cons]
  omega
theorem len_del (l : List Rle) (d : Int) : (delK l d).length + (if (findK l d).isSome = true then 1 else 0) ≤ l.length := by
  unfold delK
  induction l with
  | nil => simp [findK]
  | cons x l ih =>
    rw [List.filter_cons, findK_cons, List.length_cons]
    by_cases e : x.f0 = d
    · rw [if_pos e, if_neg (by simp [e])]
      simp only [Option.isSome_some, if_true]
      split at ih <;> omega
    · rw [if_neg e, if_pos (by simpa using e), List.length_cons]
      omega
structure GoodL (m : Nat) (right : Rle → Bool) (l : List Rle) : Prop where
  up : Rising l
  ok : ∀ r ∈ l, right r = true
  le : l.length ≤ m
section
variable {c : Codes} {m : Nat} {right : Rle → Bool}
theorem apply_good (hc : c.w ≠ 0 ∧ c.t ≠ 0 ∧ c.n ≠ 0 ∧ c.f ≠ 0) {l : List Rle} {k : Int} {r : Rle} (hl : GoodL m right l) (h : (applyK c m right l k r).2 = 0) : GoodL m right (applyK c m right l k r).1 := by
  obtain ⟨h1, h2, h3, h4, h5, h6⟩ := applyK_ok hc hl.up h
  refine ⟨h1, fun y hy => ?_, ?_⟩
  · have e := findK_mem h1 hy
    rw [h6] at e
    by_cases q : r.f0 = y.f0
    · rw [if_pos q] at e
      by_cases k1 : k = 1
      · rw [if_pos k1] at e; cases e
      · rw [if_neg k1] at e
        injection e with e
        rw [← e]
        exact h3.resolve_left k1
    · rw [if_neg q] at e
      exact hl.ok y (findK_id e).2
  · unfold applyK at h ⊢
    split at h
    · exact absurd h hc.1
    · rename_i q
      rw [if_neg q]
      by_cases k0 : k = 0
      · have h7 := (h4 k0)
        rw [if_pos k0, h7.1, if_neg (by simp), if_neg (by omega)]
        have := len_put l r
        have := h7.2
        show (putK l r).length ≤ m
        omega
      · have h7 := h5 k0
        rw [if_neg k0, h7, if_neg (by simp)]
        by_cases k1 : k = 1
        · rw [if_pos k1]
          have := len_del l r.f0
          have := hl.le
          show (delK l r.f0).length ≤ m
          omega
        · rw [if_neg k1]
          have := len_put l r
          rw [h7, if_pos rfl] at this
          have := hl.le
          show (putK l r).length ≤ m
          omega
theorem apply_is (hc : c.w ≠ 0 ∧ c.t ≠ 0 ∧ c.n ≠ 0 ∧ c.f ≠ 0) {x l : List Rle} {k : Int} {r : Rle} (hx : Rising x) (hl : Rising l) (h : (applyK c m right x k r).2 = 0)
    (he : ∀ id, (if r.f0 = id then (if k = 1 then none else some r) else findK x id) = findK l id) : applyK c m right x k r = (l, 0) := by
  obtain ⟨u, _, _, _, _, a⟩ := applyK_ok hc hx h
  have e : (applyK c m right x k r).1 = l := rising_ext u hl (fun id => by rw [a]; exact he id)
  rw [← e, ← h]
theorem back_insert (hc : c.w ≠ 0 ∧ c.t ≠ 0 ∧ c.n ≠ 0 ∧ c.f ≠ 0) {l : List Rle} {r : Rle} (hl : GoodL m right l) (h : (applyK c m right l 0 r).2 = 0) :
    applyK c m right (applyK c m right l 0 r).1 1 r = (l, 0) ∧ findK (applyK c m right l 0 r).1 r.f0 = some r := by
  obtain ⟨u, _, _, a4, _, a⟩ := applyK_ok hc hl.up h
  have hf : findK (applyK c m right l 0 r).1 r.f0 = some r := by rw [a, if_pos rfl, if_neg (by decide)]
  refine ⟨apply_is hc u hl.up ?_ (fun id => ?_), hf⟩
  · generalize (applyK c m right l 0 r).1 = x at *
    unfold applyK
    rw [if_neg (by omega), if_neg (by decide), hf, if_neg (by simp), if_pos rfl]
  · by_cases e : r.f0 = id
    · rw [if_pos e, if_pos rfl, ← e, (a4 rfl).1]
    · rw [if_neg e, a, if_neg e]
theorem back_delete (hc : c.w ≠ 0 ∧ c.t ≠ 0 ∧ c.n ≠ 0 ∧ c.f ≠ 0) {l : List Rle} {r was : Rle} (hl : GoodL m right l) (h : (applyK c m right l 1 r).2 = 0) (hw : findK l r.f0 = some was) :
    applyK c m right (applyK c m right l 1 r).1 0 was = (l, 0) := by
  obtain ⟨u, _, _, _, _, a⟩ := applyK_ok hc hl.up h
  obtain ⟨hid, hmem⟩ := findK_id hw
  have hlen : (applyK c m right l 1 r).1.length < m := by
    unfold applyK at h ⊢
    have := len_del l r.f0
    rw [hw] at this
    have := hl.le
    rw [if_neg (by omega), if_neg (by decide), hw, if_neg (by simp), if_pos rfl]
    simp only [Option.isSome_some, if_true] at *
    omega
  refine apply_is hc u hl.up ?_ (fun id => ?_)
  · have hf : findK (applyK c m right l 1 r).1 was.f0 = none := by rw [a, if_pos hid.symm, if_pos rfl]
    have hr := hl.ok was hmem
    generalize (applyK c m right l 1 r).1 = x at *
    unfold applyK
    rw [if_neg (by rw [hr]; simp), if_pos rfl, hf, if_neg (by simp), if_neg (by omega)]
  · by_cases e : r.f0 = id
    · rw [hid, if_pos e, if_neg (by decide), ← e, hw]
    · rw [hid, if_neg e, a, if_neg e]
theorem back_modify (hc : c.w ≠ 0 ∧ c.t ≠ 0 ∧ c.n ≠ 0 ∧ c.f ≠ 0) {l : List Rle} {r was : Rle} (hl : GoodL m right l) (h : (applyK c m right l 2 r).2 = 0) (hw : findK l r.f0 = some was) :
    applyK c m right (applyK c m right l 2 r).1 2 was = (l, 0) ∧ findK (applyK c m right l 2 r).1 was.f0 = some r := by
  obtain ⟨u, _, _, _, _, a⟩ := applyK_ok hc hl.up h
  obtain ⟨hid, hmem⟩ := findK_id hw
  have hf : findK (applyK c m right l 2 r).1 was.f0 = some r := by rw [a, if_pos hid.symm, if_neg (by decide)]
  refine ⟨apply_is hc u hl.up ?_ (fun id => ?_), hf⟩
  · have hr := hl.ok was hmem
    generalize (applyK c m right l 2 r).1 = x at *
    unfold applyK
    rw [if_neg (by rw [hr]; simp), if_neg (by decide), hf, if_neg (by simp), if_neg (by decide)]
  · by_cases e : r.f0 = id
    · rw [hid, if_pos e, if_neg (by decide), ← e, hw]
    · rw [hid, if_neg e, a, if_neg e]
end
end Go.Proofs.Ytckjhdlpbfcaiaa.H
