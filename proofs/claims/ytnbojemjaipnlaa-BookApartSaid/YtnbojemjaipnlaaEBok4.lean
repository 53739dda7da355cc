/- Bok1, Bok2, Bok3, Bok4. -/
import Derived.Test.YtnbojemjaipnlaaEMap
import Derived.Test.YtnbojemjaipnlaaEPx0
import Derived.Maps.OwnSet
import Derived.Lib.SlKeysI
/-! ### Bok1 -/
namespace Go.Proofs.Ytnbojemjaipnlaa.H
open Go.RowKit Go.Proofs.Ytnbojemjaipnlaa.P Go.Proofs.YtnbojemjaipnlaaW.PrintWords Go.Proofs.YtnbojemjaipnlaaW.PrintLast Go.Proofs.YtnbojemjaipnlaaW.PrintMore
set_option linter.unusedVariables false
set_option linter.unusedSimpArgs false
set_option maxRecDepth 20000
abbrev MapT : Nat := 62
def i64 (x : Int) : Prop := -9223372036854775808 ≤ x ∧ x ≤ 9223372036854775807
theorem i64_wf {x : Int} (h : i64 x) : (Lit.int .i64 x).wf = true := by
  unfold i64 at h
  simp only [Lit.wf, Bool.and_eq_true, decide_eq_true_eq]
  have e3 : IntKind.i64.min = -9223372036854775808 := rfl
  have e4 : IntKind.i64.max = 9223372036854775807 := rfl
  omega
section
variable {α : Type}
def RiseK (M : List (Int × α)) : Prop := M.Pairwise (fun a b => a.1 < b.1)
def lookM (M : List (Int × α)) (n : Int) : Option α := (M.find? (fun p => p.1 == n)).map (·.2)
def putM (M : List (Int × α)) (n : Int) (v : α) : List (Int × α) := M.filter (fun p => decide (p.1 < n)) ++ (n, v) :: M.filter (fun p => decide (n < p.1))
def delM (M : List (Int × α)) (n : Int) : List (Int × α) := M.filter (fun p => !(p.1 == n))
theorem lookM_cons (a : Int) (v : α) (M : List (Int × α)) (n : Int) : lookM ((a, v) :: M) n = if a = n then some v else lookM M n := by
  unfold lookM
  rw [List.find?_cons]
  by_cases h : a = n
  · rw [if_pos h]; simp [h]
  · rw [if_neg h]
    have : (a == n) = false := by simpa using h
    simp only [this]
theorem rise_put {M : List (Int × α)} (h : RiseK M) (n : Int) (v : α) : RiseK (putM M n v) := by
  unfold putM RiseK
  rw [List.pairwise_append]
  refine ⟨List.Pairwise.filter _ h, ?_, ?_⟩
  · rw [List.pairwise_cons]
    exact ⟨fun x hx => by simpa using (List.mem_filter.1 hx).2, List.Pairwise.filter _ h⟩
  · intro a ha b hb
    have h1 : a.1 < n := by simpa using (List.mem_filter.1 ha).2
    rcases List.mem_cons.1 hb with rfl | hb
    · exact h1
    · have h2 : n < b.1 := by simpa using (List.mem_filter.1 hb).2
      omega
theorem rise_del {M : List (Int × α)} (h : RiseK M) (n : Int) : RiseK (delM M n) := List.Pairwise.filter _ h
end
def RV : Value → Option (DataW Value × List MemPlace) := fun v => some (.held v, [])
def encP (p : Int × Value) : Lit × DataW Value := (.int .i64 p.1, .held p.2)
def encM (M : List (Int × Value)) : DataW Value := .map (M.map encP)
theorem sameI (a b : Int) : (Lit.int .i64 a).sameKey (.int .i64 b) = (a == b) := by
  simp [Lit.sameKey]
  by_cases h : a = b <;> simp [h]
theorem enc_find (M : List (Int × Value)) (n : Int) : (M.map encP).find? (fun p => p.1.sameKey (.int .i64 n)) = (M.find? (fun p => p.1 == n)).map encP := by
  induction M with
  | nil => rfl
  | cons p M ih =>
    rw [List.map_cons, List.find?_cons, List.find?_cons]
    show (match (Lit.int .i64 p.1).sameKey (.int .i64 n) with | true => _ | false => _) = _
    rw [sameI]
    cases (p.1 == n)
    · exact ih
    · rfl
theorem enc_at (M : List (Int × Value)) (n : Int) (z : Value) : (encM M).atKey (.int .i64 n) (.held z) = .held ((lookM M n).getD z) := by
  unfold encM lookM
  unfold DataW.atKey
  dsimp only
  rw [enc_find]
  cases M.find? (fun p => p.1 == n) <;> rfl
theorem enc_has (M : List (Int × Value)) (n : Int) : Maps.has (encM M) (.int .i64 n) = (lookM M n).isSome := by
  unfold encM lookM
  rw [Maps.has_eq, List.any_map]
  rw [Option.isSome_map, List.isSome_find?]
  congr 1
  funext p
  exact sameI p.1 n
theorem enc_del (M : List (Int × Value)) (n : Int) : (encM M).del (.int .i64 n) = encM (delM M n) := by
  unfold encM delM
  show DataW.map ((M.map encP).filter (fun p => !p.1.sameKey (.int .i64 n))) = _
  rw [List.filter_map]
  congr 3
  funext p
  show (!(Lit.int .i64 p.1).sameKey (.int .i64 n)) = _
  rw [sameI]
theorem insert_rise (n : Int) (v : Value) : ∀ (M : List (Int × Value)), RiseK M → (∀ p ∈ M, p.1 ≠ n) → DataW.insert (encP (n, v)) (M.map encP) = (putM M n v).map encP
  | [], _, _ => rfl
  | (a, u) :: M, h, hn => by
    have hp := List.pairwise_cons.1 h
    have ih := insert_rise n v M hp.2 (fun p q => hn p (List.mem_cons_of_mem _ q))
    rw [List.map_cons, DataW.insert]
    show (if (decide (n < a)) = true then _ else _) = _
    by_cases c : n < a
    · rw [if_pos (by simpa using c)]
      unfold putM
      rw [List.filter_eq_nil_iff.2 (fun p hp' => by
        rcases List.mem_cons.1 hp' with rfl | q
        · simp only [decide_eq_true_eq]; omega
        · have := hp.1 p q; simp only [decide_eq_true_eq]; dsimp only at this ⊢; omega), List.filter_eq_self.2 (fun p hp' => by
        rcases List.mem_cons.1 hp' with rfl | q
        · simpa using c
        · have := hp.1 p q; simp only [decide_eq_true_eq]; dsimp only at this ⊢; omega)]
      rfl
    · rw [if_neg (by simpa using c), ih]
      have hne := hn (a, u) (by simp)
      dsimp only at hne
      unfold putM
      rw [List.filter_cons, List.filter_cons, if_pos (by simp only [decide_eq_true_eq]; omega), if_neg (by simp only [decide_eq_true_eq]; omega)]
      rfl
theorem put_del {α : Type} (M : List (Int × α)) (n : Int) (v : α) : putM (delM M n) n v = putM M n v := by
  unfold putM delM
  rw [List.filter_filter, List.filter_filter]
  congr 1
  · apply List.filter_congr
    intro p _
    by_cases c : p.1 < n
    · rw [show (p.1 == n) = false from by rw [beq_eq_false_iff_ne]; omega]; simp
    · simp [c]
  · congr 1
    apply List.filter_congr
    intro p _
    by_cases c : n < p.1
    · rw [show (p.1 == n) = false from by rw [beq_eq_false_iff_ne]; omega]; simp
    · simp [c]
theorem enc_put {M : List (Int × Value)} (h : RiseK M) (n : Int) (v : Value) : (encM M).put (.int .i64 n) (.held v) = encM (putM M n v) := by
  show DataW.map (DataW.insert (encP (n, v)) ((M.map encP).filter _)) = _
  rw [List.filter_map]
  have e : (M.filter ((fun p : Lit × DataW Value => !p.1.sameKey (.int .i64 n)) ∘ encP)) = delM M n := by
    unfold delM
    apply List.filter_congr
    intro p _
    show (!(Lit.int .i64 p.1).sameKey (.int .i64 n)) = _
    rw [sameI]
  rw [e, insert_rise n v (delM M n) (rise_del h n) (fun p hp => by
    have := (List.mem_filter.1 hp).2
    simpa using this), put_del]
  rfl
structure BM (w : World) (g : Nat) (M : List (Int × Value)) : Prop where
  own : w.ownsMap Try.prog 3 RV g M.length (encM M)
  up : RiseK M
theorem own_len {w : World} {g n : Nat} {M : List (Int × Value)} (h : w.ownsMap Try.prog 3 RV g n (encM M)) : w.ownsMap Try.prog 3 RV g M.length (encM M) := by
  obtain ⟨es, clock, hb, F, hs, hD⟩ := h
  refine ⟨es, clock, hb, F, ?_, hD⟩
  have e := length_read (P := Try.prog) (k := 3) (R0 := RV) es
  have hD2 : (encM M) = .map ((es.toList.map (Go.WideElems.rg Try.prog 3 RV)).foldr DataW.insert []) := hD
  unfold encM at hD2
  injection hD2 with hD2
  rw [← hD2, List.length_map] at e
  omega
theorem keyB {n : Int} (h : i64 n) : keyOf Try.prog 3 (.int .i64 n) = some (.int .i64 n) := Go.Maps.keyOf_int_mk Try.underlying3 (i64_wf h)
theorem keyedB : Go.Maps.Keyed Try.prog 3 := Go.Maps.int_keyed Try.underlying3
def zS : Value := .agg #[.string ⟨#[]⟩, .slice none 0 0]
theorem zeroS (w : World) : (zeroValue 66).run Try.prog w = .ok zS w := by kernel_rfl
theorem BM.look {w : World} {g : Nat} {M : List (Int × Value)} (h : BM w g M) {n : Int} (hn : i64 n) : (Instr.lookup MapT (.map (some g)) (.int .i64 n) true).run Try.prog w = .ok (.tuple #[(lookM M n).getD zS, .bool (lookM M n).isSome]) w := by
  obtain ⟨v, ps, h1, h2⟩ := h.own.look_ok keyedB Try.underlying62 (zeroS w) (zd := .held zS) (zp := []) rfl (keyB hn)
  rw [enc_at] at h2
  unfold RV at h2
  simp only [Option.some.injEq, Prod.mk.injEq, DataW.held.injEq] at h2
  rw [enc_has, h2.1] at h1
  exact h1
theorem BM.store {w : World} {g : Nat} {M : List (Int × Value)} (h : BM w g M) {n : Int} (hn : i64 n) (hm : M.length < 1000000) (v : Value) : ∃ w', (Instr.mapUpdate MapT (.map (some g)) (.int .i64 n) v).run Try.prog w = .ok () w' ∧ BM w' g (putM M n v) ∧ w.mapTurned w' g := by
  obtain ⟨w', h1, h2, h3⟩ := h.own.store keyedB Try.underlying62 (by unfold maxLen; omega) (keyB hn) (val := v) (d := .held v) (ps := []) rfl
  rw [enc_put h.up] at h2
  exact ⟨w', h1, ⟨own_len h2, rise_put h.up _ _⟩, h3⟩
theorem BM.drop {w : World} {g : Nat} {M : List (Int × Value)} (h : BM w g M) {n : Int} (hn : i64 n) (ty : TypeId) : ∃ w', (Builtin.delete_ #[MapT, 3] ty #[.map (some g), .int .i64 n]).run Try.prog w = .ok (.tuple #[]) w' ∧ BM w' g (delM M n) ∧ w.mapTurned w' g := by
  obtain ⟨w', h1, h2, h3⟩ := h.own.drop keyedB Try.underlying62 (keyB hn) ty
  rw [enc_del] at h2
  exact ⟨w', h1, ⟨own_len h2, rise_del h.up _⟩, h3⟩
theorem BM.made (w : World) : BM (w.alloc (.map #[] 0)) w.heap.size [] := ⟨World.ownsMap_made w Try.prog 3 RV, List.Pairwise.nil⟩
theorem BM.kept {w w' : World} {g : Nat} {M : List (Int × Value)} (h : BM w g M) (he : w'.heap[g]? = w.heap[g]?) : BM w' g M := by
  obtain ⟨⟨es, clock, hb, F, hs, hD⟩, hu⟩ := h
  exact ⟨⟨es, clock, he.trans hb, F, hs, hD⟩, hu⟩
theorem BM.lt {w : World} {g : Nat} {M : List (Int × Value)} (h : BM w g M) : g < w.heap.size := h.own.lt
theorem BM.below {w w' : World} {g : Nat} {M : List (Int × Value)} (h : BM w g M) (hb : Below w.heap.size w w') : BM w' g M := h.kept (hb.block g h.lt)
theorem turned_but {w w' : World} {g : Nat} (h : w.mapTurned w' g) : ButBlock w w' g := by
  have hg := h.grown
  obtain ⟨es, c, es', c', hb, rfl⟩ := h
  exact ⟨rfl, rfl, rfl, by simp [ChangeMaps.setBlock], fun k hk => Go.ChangeMaps.heap_setBlock_other hb _ hk⟩
end Go.Proofs.Ytnbojemjaipnlaa.H
/-! ### Bok2 -/
namespace Go.Proofs.Ytnbojemjaipnlaa.H
open Go.RowKit Go.Proofs.Ytnbojemjaipnlaa.P Go.Proofs.YtnbojemjaipnlaaW.PrintWords Go.Proofs.YtnbojemjaipnlaaW.PrintLast Go.Proofs.YtnbojemjaipnlaaW.PrintMore
set_option linter.unusedVariables false
set_option linter.unusedSimpArgs false
set_option maxRecDepth 20000
abbrev Edi := S37
structure ButS (S : Nat → Prop) (w w' : World) : Prop where
  os : w'.os = w.os
  tape : w'.tape = w.tape
  output : w'.output = w.output
  size : w.heap.size ≤ w'.heap.size
  block : ∀ k, k < w.heap.size → ¬ S k → w'.heap[k]? = w.heap[k]?
theorem ButS.refl (S : Nat → Prop) (w : World) : ButS S w w := ⟨rfl, rfl, rfl, Nat.le_refl _, fun _ _ _ => rfl⟩
theorem ButS.trans {S : Nat → Prop} {w w1 w2 : World} (h : ButS S w w1) (k : ButS S w1 w2) : ButS S w w2 :=
  ⟨k.os.trans h.os, k.tape.trans h.tape, k.output.trans h.output, Nat.le_trans h.size k.size, fun i hi hs => (k.block i (Nat.lt_of_lt_of_le hi h.size) hs).trans (h.block i hi hs)⟩
theorem ButS.of {S : Nat → Prop} {w w' : World} (h : Below w.heap.size w w') : ButS S w w' := ⟨h.os, h.tape, h.output, h.size, fun k hk _ => h.block k hk⟩
theorem ButS.turn {S : Nat → Prop} {w w' : World} {g : Nat} (h : w.mapTurned w' g) (hg : S g) : ButS S w w' := by
  have k := turned_but h
  exact ⟨k.os, k.tape, k.output, Nat.le_of_eq k.size.symm, fun i _ hi => k.block i (fun e => hi (by rw [e]; exact hg))⟩
theorem ButS.set {S : Nat → Prop} {w : World} {p : Addr} (v : Value) (hp : S p.block) : ButS S w (w.setCell p v) :=
  ⟨rfl, rfl, rfl, by simp, fun k _ hk => Below.heap_setCell w p v k (fun e => hk (by rw [e]; exact hp))⟩
theorem ButS.below {S : Nat → Prop} {w0 w w' : World} {B : Nat} (h : Below B w0 w) (k : ButS S w w') (hS : ∀ i, S i → B ≤ i) (hB : B ≤ w0.heap.size) : Below B w0 w' :=
  ⟨k.os.trans h.os, k.tape.trans h.tape, k.output.trans h.output, Nat.le_trans h.size k.size, fun i hi => (k.block i (by have := h.size; omega) (fun q => by have := hS i q; omega)).trans (h.block i hi)⟩
theorem ButS.weak {S S' : Nat → Prop} {w w' : World} (h : ButS S w w') (hS : ∀ k, k < w.heap.size → S k → S' k) : ButS S' w w' := ⟨h.os, h.tape, h.output, h.size, fun k hk hs => h.block k hk (fun q => hs (hS k hk q))⟩
def NoInt (w : World) (k : Nat) : Prop := ∀ (a : Addr) (q : IntKind) (x : Int), a.block = k → w.cell? a ≠ some (.int q x)
theorem C_cells {w w' : World} {A : Option Addr} {n : Nat} {xs : List Edi} (h : Kd.C k37 w A n xs) (hc : ∀ (a : Addr) (q : IntKind) (x : Int), w.cell? a = some (.int q x) → w'.cell? a = some (.int q x)) : Kd.C k37 w' A n xs := by
  obtain ⟨h1, h2, h3⟩ := h
  refine ⟨h1, h2, fun hn => ?_⟩
  obtain ⟨ad, e, h4⟩ := h3 hn
  refine ⟨ad, e, fun j p hj => ?_⟩
  obtain ⟨c, h5, h6, h7⟩ := h4 j p hj
  refine ⟨c, h5, ?_, fun i u hu => ?_⟩
  · have e2 := k37_open h6
    subst e2
    exact k37_mk _ _
  · have h8 := h7 i u hu
    have e2 := k37_open h6
    subst e2
    have hm := List.mem_of_getElem? hu
    simp at hm
    rcases hm with rfl | rfl | rfl | rfl | rfl | rfl | rfl | rfl <;> exact hc _ _ _ h8
theorem C_but {S : Nat → Prop} {w w' : World} {A : Option Addr} {n : Nat} {xs : List Edi} (h : Kd.C k37 w A n xs) (hb : ButS S w w') (hS : ∀ k, S k → NoInt w k) : Kd.C k37 w' A n xs :=
  C_cells h (fun a q x e => by
    by_cases hs : S a.block
    · exact absurd e (hS _ hs a q x rfl)
    · have hlt := block_lt_of_cell e
      rw [World.cell?_of_block (w := w) (hb.block _ hlt hs)]
      exact e)
abbrev Ses := ByteArray × List Edi
def SesAt (w : World) (v : Value) (s : Ses) : Prop := ∃ A c, v = .agg #[.string s.1, .slice A s.2.length c] ∧ s.2.length ≤ c ∧ Kd.C k37 w A s.2.length s.2
def PairAt (w : World) (a : Int × Value) (b : Int × Ses) : Prop := a.1 = b.1 ∧ SesAt w a.2 b.2
theorem SesAt.but {S : Nat → Prop} {w w' : World} {v : Value} {s : Ses} (h : SesAt w v s) (hb : ButS S w w') (hS : ∀ k, S k → NoInt w k) : SesAt w' v s := by
  obtain ⟨A, c, e, h1, h2⟩ := h
  exact ⟨A, c, e, h1, C_but h2 hb hS⟩
inductive Both {α β : Type} (r : α → β → Prop) : List α → List β → Prop where
  | nil : Both r [] []
  | cons {a b l m} : r a b → Both r l m → Both r (a :: l) (b :: m)
theorem Both.imp {α β : Type} {r s : α → β → Prop} (h : ∀ a b, r a b → s a b) : ∀ {l m}, Both r l m → Both s l m
  | _, _, .nil => .nil
  | _, _, .cons h1 h2 => .cons (h _ _ h1) (h2.imp h)
theorem Both.len {α β : Type} {r : α → β → Prop} : ∀ {l : List α} {m : List β}, Both r l m → l.length = m.length
  | _, _, .nil => rfl
  | _, _, .cons _ h2 => by simp [h2.len]
theorem Both.append {α β : Type} {r : α → β → Prop} {l2 : List α} {m2 : List β} (k : Both r l2 m2) : ∀ {l m}, Both r l m → Both r (l ++ l2) (m ++ m2)
  | _, _, .nil => k
  | _, _, .cons h1 h2 => .cons h1 (Both.append k h2)
theorem Both.filter {α β : Type} {r : α → β → Prop} {p : α → Bool} {q : β → Bool} (h : ∀ a b, r a b → p a = q b) : ∀ {l m}, Both r l m → Both r (l.filter p) (m.filter q)
  | _, _, .nil => .nil
  | a :: l, b :: m, .cons h1 h2 => by
    have e := h _ _ h1
    rw [List.filter_cons, List.filter_cons, e]
    cases q b
    · exact h2.filter h
    · exact .cons h1 (h2.filter h)
theorem Both.look {w : World} (n : Int) : ∀ {R : List (Int × Value)} {M : List (Int × Ses)}, Both (PairAt w) R M → (lookM R n = none ∧ lookM M n = none) ∨ ∃ v s, lookM R n = some v ∧ lookM M n = some s ∧ SesAt w v s
  | _, _, .nil => .inl ⟨rfl, rfl⟩
  | (a, v) :: l, (b, s) :: m, .cons h1 h2 => by
    obtain ⟨e, h3⟩ := h1
    dsimp only at e h3
    subst e
    rw [lookM_cons, lookM_cons]
    by_cases c : a = n
    · rw [if_pos c, if_pos c]; exact .inr ⟨v, s, rfl, rfl, h3⟩
    · rw [if_neg c, if_neg c]; exact h2.look n
theorem Both.put {w : World} {R : List (Int × Value)} {M : List (Int × Ses)} (h : Both (PairAt w) R M) (n : Int) {v : Value} {s : Ses} (hv : SesAt w v s) : Both (PairAt w) (putM R n v) (putM M n s) := by
  unfold putM
  refine Both.append (.cons ⟨rfl, hv⟩ (h.filter (fun a b hab => by rw [hab.1]))) (h.filter (fun a b hab => by rw [hab.1]))
theorem Both.del {w : World} {R : List (Int × Value)} {M : List (Int × Ses)} (h : Both (PairAt w) R M) (n : Int) : Both (PairAt w) (delM R n) (delM M n) := h.filter (fun a b hab => by rw [hab.1])
theorem Both.rise {w : World} : ∀ {R : List (Int × Value)} {M : List (Int × Ses)}, Both (PairAt w) R M → RiseK R → RiseK M
  | _, _, .nil, _ => List.Pairwise.nil
  | (a, v) :: l, (b, s) :: m, .cons h1 h2, h => by
    have hp := List.pairwise_cons.1 h
    refine List.pairwise_cons.2 ⟨?_, h2.rise hp.2⟩
    intro y hy
    have hmem : ∀ {R : List (Int × Value)} {M : List (Int × Ses)}, Both (PairAt w) R M → ∀ y ∈ M, ∃ x ∈ R, x.1 = y.1 := by
      intro R M hb
      induction hb with
      | nil => intro y hy; cases hy
      | cons q1 q2 ih =>
        intro y hy
        rcases List.mem_cons.1 hy with rfl | hy
        · exact ⟨_, by simp, q1.1⟩
        · obtain ⟨x, hx, e⟩ := ih y hy
          exact ⟨x, List.mem_cons_of_mem _ hx, e⟩
    obtain ⟨x, hx, e⟩ := hmem h2 y hy
    have := hp.1 x hx
    rw [← e]
    have := h1.1
    dsimp only at *
    omega
structure BookAt (w : World) (hb g : Nat) (M : List (Int × Ses)) : Prop where
  blk : w.heap[hb]? = some (.cells #[.map (some g)] 64 (0, 0))
  has : ∃ R, BM w g R ∧ Both (PairAt w) R M
theorem BookAt.gt {w : World} {hb g : Nat} {M : List (Int × Ses)} (h : BookAt w hb g M) : g < w.heap.size ∧ hb < w.heap.size ∧ g ≠ hb := by
  obtain ⟨h1, R, h2, _⟩ := h
  refine ⟨h2.lt, (Array.getElem?_eq_some_iff.1 h1).1, ?_⟩
  rintro rfl
  obtain ⟨es, clock, hb, _⟩ := h2.own
  rw [h1] at hb
  cases hb
theorem BookAt.noint {w : World} {hb g : Nat} {M : List (Int × Ses)} (h : BookAt w hb g M) : NoInt w g := by
  intro a q x e hc
  obtain ⟨_, R, h2, _⟩ := h
  obtain ⟨es, clock, hb, _⟩ := h2.own
  unfold World.cell? at hc
  rw [e, hb] at hc
  simp at hc
theorem BookAt.but {S : Nat → Prop} {w w' : World} {hb g : Nat} {M : List (Int × Ses)} (h : BookAt w hb g M) (k : ButS S w w') (h1 : ¬ S hb) (h2 : ¬ S g) (hS : ∀ i, S i → NoInt w i) : BookAt w' hb g M := by
  have hg := h.gt
  obtain ⟨e, R, hR, hM⟩ := h
  exact ⟨(k.block _ hg.2.1 h1).trans e, R, hR.kept (k.block _ hg.1 h2), hM.imp (fun a b q => ⟨q.1, q.2.but k hS⟩)⟩
theorem BookAt.below {w w' : World} {hb g : Nat} {M : List (Int × Ses)} (h : BookAt w hb g M) (k : Below w.heap.size w w') : BookAt w' hb g M :=
  h.but (S := fun _ => False) (ButS.of k) (fun q => q) (fun q => q) (fun _ q => q.elim)
theorem BookAt.rise {w : World} {hb g : Nat} {M : List (Int × Ses)} (h : BookAt w hb g M) : RiseK M := by
  obtain ⟨_, R, h1, h2⟩ := h
  exact h2.rise h1.up
end Go.Proofs.Ytnbojemjaipnlaa.H
/-! ### Bok3 -/
namespace Go.Proofs.Ytnbojemjaipnlaa.H
open Go.RowKit Go.Proofs.Ytnbojemjaipnlaa.P Go.Proofs.YtnbojemjaipnlaaW.PrintWords Go.Proofs.YtnbojemjaipnlaaW.PrintLast Go.Proofs.YtnbojemjaipnlaaW.PrintMore
set_option linter.unusedVariables false
set_option linter.unusedSimpArgs false
set_option maxRecDepth 20000
theorem new_any (w : World) : Calls Try.prog 6 #[] w fun e w' => ∃ hb g, e = .returned (.pointer (some ⟨hb, 0, none⟩)) ∧ BookAt w' hb g [] ∧ w.heap.size ≤ g ∧ w.heap.size ≤ hb ∧ Below w.heap.size w w' := by
  have hmm := @run_makeMap Try.prog
  have hu := Try.underlying64
  have H1 := Aside0.mk (BM.made w)
  have HB := Aside0.mk (((Below.refl w.heap.size w).alloc (Nat.le_refl _) (.map #[] 0)).alloc (by simp) (.cells #[.map (some w.heap.size)] 64))
  have HX := Aside0.mk (blk_new (w.alloc (.map #[] 0)) (.cells #[.map (some w.heap.size)] 64))
  have HM := Aside0.mk ((BM.made w).below ((Below.refl _ (w.alloc (.map #[] 0))).alloc (Nat.le_refl _) (.cells #[.map (some w.heap.size)] 64)))
  have HS := Aside0.mk (show (w.alloc (.map #[] 0)).heap.size = w.heap.size + 1 from by simp)
  go_enter Try.func6, Try.ntmps6
  go_wp2
  go_ret
  exact ⟨w.heap.size + 1, w.heap.size, by simp, ⟨by have := HX.out; rw [HS.out] at this; exact this, [], HM.out, .nil⟩, Nat.le_refl _, by omega, HB.out⟩
def FoundAt (w : World) (o : Option Ses) (v : Value) : Prop := (o = none ∧ v = zS) ∨ ∃ s, o = some s ∧ SesAt w v s
def errF (o : Option Ses) : Int := if o.isSome = true then 0 else 181
abbrev zCells : Obj := .cells #[.string ⟨#[]⟩, .slice none 0 0] 66
set_option maxHeartbeats 4000000 in
theorem find_any (hb g : Nat) (M : List (Int × Ses)) (n : Int) (w : World) (h : BookAt w hb g M) (hn : i64 n) :
    Calls Try.prog 28 #[.pointer (some ⟨hb, 0, none⟩), .int .i64 n] w fun e w' => ∃ v, e = .returned (.tuple #[v, .int .i64 (errF (lookM M n))]) ∧ FoundAt w' (lookM M n) v ∧ Below w.heap.size w w' := by
  obtain ⟨hblk, R, hR, hM⟩ := h
  have hbz := (Below.refl w.heap.size w).alloc (Nat.le_refl _) zCells
  have hlk := (hR.below hbz).look hn
  have hc0 := blk_cell (blk_below hblk hbz) 0
  have hu := Try.underlying66
  have hu2 := Try.underlying64
  have HB2 := Aside0.mk (hbz.alloc hbz.size zCells)
  have hk4 := blk_below (blk_new w zCells) ((Below.refl _ (w.alloc zCells)).alloc (Nat.le_refl _) zCells)
  have hk6 := blk_new (w.alloc zCells) zCells
  have hs : (w.alloc zCells).heap.size = w.heap.size + 1 := by simp
  rw [hs] at hk6
  have hc0 : (w.alloc zCells).cell? ⟨hb, 0, none⟩ = some (.map (some g)) := hc0
  rcases hM.look n with ⟨e1, e2⟩ | ⟨v, s, e1, e2, A, c, rfl, h1, h2⟩
  · rw [e1] at hlk
    rw [e2]
    replace hlk : (Instr.lookup MapT (.map (some g)) (.int .i64 n) true).run Try.prog (w.alloc zCells) = .ok (.tuple #[.agg #[.string ⟨#[]⟩, .slice none 0 0], .bool false]) (w.alloc zCells) := hlk
    clear hR hM hblk hbz e1 e2 hk4 hk6 hs
    go_enter Try.func28, Try.ntmps28
    go_wp2_with fail
    exact bodyPost_ret (v := .tuple #[zS, .int .i64 181]) (by simp [results, Try.results28, go_sem, zS]) rfl ⟨zS, rfl, .inl ⟨rfl, rfl⟩, HB2.out⟩
  · rw [e1] at hlk
    rw [e2]
    replace hlk : (Instr.lookup MapT (.map (some g)) (.int .i64 n) true).run Try.prog (w.alloc zCells) = .ok (.tuple #[.agg #[.string s.1, .slice A s.2.length c], .bool true]) (w.alloc zCells) := hlk
    have HP2 := Aside0.mk (((Below.refl w.heap.size w).alloc (Nat.le_refl _) (.cells #[.string s.1, .slice A s.2.length c] 66)).alloc (by simp) (.cells #[.string s.1, .slice A s.2.length c] 66))
    have HC := Aside0.mk h1
    have HR := Aside0.mk h2
    clear hR hM hblk hbz e1 e2 hk4 hk6 hs h1 h2
    go_enter Try.func28, Try.ntmps28
    go_wp2_with fail
    exact bodyPost_ret (v := .tuple #[.agg #[.string s.1, .slice A s.2.length c], .int .i64 0]) (by simp [results, Try.results28, go_sem]) rfl ⟨_, rfl, .inr ⟨s, rfl, A, c, rfl, HC.out, Kd.C_below HR.out HP2.out⟩, HP2.out⟩
theorem FoundAt.open {w : World} {o : Option Ses} {v : Value} (h : FoundAt w o v) : ∃ (br : ByteArray) (A : Option Addr) (l : List Edi) (c : Nat), v = .agg #[.string br, .slice A l.length c] ∧ l.length ≤ c ∧ Kd.C k37 w A l.length l ∧ (br, l) = o.getD (⟨#[]⟩, []) := by
  rcases h with ⟨rfl, rfl⟩ | ⟨s, rfl, A, c, rfl, h1, h2⟩
  · exact ⟨⟨#[]⟩, none, [], 0, rfl, Nat.le_refl _, ⟨rfl, by simp, fun h => absurd h (by simp)⟩, rfl⟩
  · exact ⟨s.1, A, s.2, c, rfl, h1, h2, rfl⟩
set_option maxHeartbeats 4000000 in
theorem on_any (hb g : Nat) (M : List (Int × Ses)) (n : Int) (w : World) (h : BookAt w hb g M) (hn : i64 n) :
    Calls Try.prog 9 #[.pointer (some ⟨hb, 0, none⟩), .int .i64 n] w fun e w' => e = .returned (.tuple #[.string ((lookM M n).getD (⟨#[]⟩, [])).1, .int .i64 (errF (lookM M n))]) ∧ Below w.heap.size w w' := by
  have HF := Aside0.mk (find_any hb g M n w h hn)
  have hu := Try.underlying66
  clear h
  generalize errF (lookM M n) = er at *
  generalize lookM M n = o at *
  go_enter Try.func9, Try.ntmps9
  go_wp2_with fail
  refine HF.out.mono ?_
  rintro e w2 ⟨v, rfl, hf, hb2⟩
  obtain ⟨br, A, l, c, rfl, h1, h2, h3⟩ := hf.open
  have HB2 := Aside0.mk hb2
  have H3 := Aside0.mk h3
  clear hf h1 h2 h3 hb2
  go_wp2_with fail
  have H2 := HB2.out
  go_ret2
  exact ⟨by rw [← H3.out]; rfl, H2.alloc H2.size _⟩
end Go.Proofs.Ytnbojemjaipnlaa.H
/-! ### Bok4 -/
namespace Go.Proofs.Ytnbojemjaipnlaa.H
open Go.RowKit Go.Proofs.Ytnbojemjaipnlaa.P Go.Proofs.YtnbojemjaipnlaaW.PrintWords Go.Proofs.YtnbojemjaipnlaaW.PrintLast Go.Proofs.YtnbojemjaipnlaaW.PrintMore
set_option linter.unusedVariables false
set_option linter.unusedSimpArgs false
set_option maxRecDepth 20000
theorem BookAt.cell {w : World} {hb g : Nat} {M : List (Int × Ses)} (h : BookAt w hb g M) : w.cell? ⟨hb, 0, none⟩ = some (.map (some g)) := blk_cell h.blk 0
theorem turned_bm {w w' : World} {hb g : Nat} {M M' : List (Int × Ses)} {R : List (Int × Value)} (h : BookAt w hb g M) (k : w.mapTurned w' g) (h1 : BM w' g R) (h2 : Both (PairAt w) R M') : BookAt w' hb g M' ∧ ButS (· = g) w w' := by
  have hbut := ButS.turn (S := (· = g)) k rfl
  have hg := h.gt
  refine ⟨⟨(hbut.block _ hg.2.1 (fun e => hg.2.2 e.symm)).trans h.blk, R, h1, h2.imp (fun a b q => ⟨q.1, q.2.but hbut (fun i hi => by rw [hi]; exact h.noint)⟩)⟩, hbut⟩
theorem BookAt.store {w : World} {hb g : Nat} {M : List (Int × Ses)} (h : BookAt w hb g M) {n : Int} (hn : i64 n) (hm : M.length ≤ 1000) {v : Value} {s : Ses} (hv : SesAt w v s) :
    ∃ w', (Instr.mapUpdate MapT (.map (some g)) (.int .i64 n) v).run Try.prog w = .ok () w' ∧ BookAt w' hb g (putM M n s) ∧ ButS (· = g) w w' := by
  have h0 := h
  obtain ⟨h1, R, h2, h3⟩ := h
  have hl := h3.len
  obtain ⟨w', e, hb2, hk⟩ := h2.store hn (by omega) v
  exact ⟨w', e, turned_bm h0 hk hb2 (h3.put n hv)⟩
theorem BookAt.drop {w : World} {hb g : Nat} {M : List (Int × Ses)} (h : BookAt w hb g M) {n : Int} (hn : i64 n) (ty : TypeId) :
    ∃ w', (Builtin.delete_ #[MapT, 3] ty #[.map (some g), .int .i64 n]).run Try.prog w = .ok (.tuple #[]) w' ∧ BookAt w' hb g (delM M n) ∧ ButS (· = g) w w' := by
  have h0 := h
  obtain ⟨h1, R, h2, h3⟩ := h
  obtain ⟨w', e, hb2, hk⟩ := h2.drop hn ty
  exact ⟨w', e, turned_bm h0 hk hb2 (h3.del n)⟩
theorem FoundAt.none_ {w : World} {v : Value} (h : FoundAt w none v) : v = .agg #[.string ⟨#[]⟩, .slice none 0 0] := by
  rcases h with ⟨_, rfl⟩ | ⟨s, e, _⟩
  · rfl
  · cases e
theorem FoundAt.some_ {w : World} {v : Value} {s : Ses} (h : FoundAt w (some s) v) : ∃ A c, v = .agg #[.string s.1, .slice A s.2.length c] ∧ s.2.length ≤ c ∧ Kd.C k37 w A s.2.length s.2 := by
  rcases h with ⟨e, _⟩ | ⟨s', e, h⟩
  · cases e
  · cases e; exact h
theorem ses_nil (w : World) (br : ByteArray) : SesAt w (.agg #[.string br, .slice none 0 0]) (br, []) := ⟨none, 0, rfl, Nat.le_refl _, ⟨rfl, by simp, fun h => absurd h (by simp)⟩⟩
def clearM (M : List (Int × Ses)) (n : Int) : List (Int × Ses) := match lookM M n with | none => M | some s => putM M n (s.1, [])
def Does (w : World) (hb g : Nat) (M' : List (Int × Ses)) (v : Value) (e : Ending) (w' : World) : Prop := e = .returned v ∧ BookAt w' hb g M' ∧ ButS (· = g) w w'
set_option maxHeartbeats 4000000 in
theorem clear_any (hb g : Nat) (M : List (Int × Ses)) (n : Int) (w : World) (h : BookAt w hb g M) (hn : i64 n) (hm : M.length ≤ 1000) :
    Calls Try.prog 22 #[.pointer (some ⟨hb, 0, none⟩), .int .i64 n] w (Does w hb g (clearM M n) (.int .i64 (errF (lookM M n)))) := by
  have HF := Aside0.mk (find_any hb g M n w h hn)
  have H := Aside0.mk h
  have HN := Aside0.mk hn
  have HM := Aside0.mk hm
  have hu := Try.underlying66
  have hu2 := Try.underlying64
  clear h hn hm
  unfold clearM
  cases hl : lookM M n with
  | none =>
    rw [hl] at HF
    have hf := HF.out
    rw [show errF none = 181 from rfl] at hf ⊢
    have HF := Aside0.mk hf
    clear hl hf
    go_enter Try.func22, Try.ntmps22
    go_wp2_with fail
    refine HF.out.mono ?_
    rintro e w2 ⟨v, rfl, hf, hb2⟩
    obtain rfl := hf.none_
    have HB2 := Aside0.mk hb2
    clear hf hb2
    go_wp2_with fail
    go_ret
    have hb3 := HB2.out.alloc HB2.out.size (.cells #[.string ⟨#[]⟩, .slice none 0 0] 66)
    exact ⟨rfl, H.out.below hb3, ButS.of hb3⟩
  | some s =>
    rw [hl] at HF
    have hf := HF.out
    rw [show errF (some s) = 0 from rfl] at hf ⊢
    have HF := Aside0.mk hf
    clear hl hf
    go_enter Try.func22, Try.ntmps22
    go_wp2_with fail
    refine HF.out.mono ?_
    rintro e w2 ⟨v, rfl, hf, hb2⟩
    obtain ⟨A, c, rfl, hc, hr⟩ := hf.some_
    have HB2 := Aside0.mk hb2
    clear hf hb2 hc hr
    have hb3 := HB2.out.alloc HB2.out.size (.cells #[.string s.1, .slice A s.2.length c] 66)
    have h3 := H.out.below (below_drew hb3)
    have hc0 : (w2.alloc (.cells #[.string s.1, .slice A s.2.length c] 66)).cell? ⟨hb, 0, none⟩ = some (.map (some g)) := (H.out.below hb3).cell
    have hx := blk_new w2 (.cells #[.string s.1, .slice A s.2.length c] 66)
    have hx0 : (w2.alloc (.cells #[.string s.1, .slice A s.2.length c] 66)).cell? ⟨w2.heap.size, 0, none⟩ = some (.string s.1) := blk_cell hx 0
    obtain ⟨w4, hst, hbk, hbut⟩ := h3.store HN.out HM.out (ses_nil _ s.1)
    have k4 : w4.cell? ⟨hb, 0, none⟩ = some (.map (some g)) ∧ w4.cell? ⟨w2.heap.size, 0, none⟩ = some (.string s.1) := ⟨hbk.cell, by
      have hgt := H.out.gt.1
      have hsz := HB2.out.size
      have e := hbut.block w2.heap.size (by simp [World.drew]) (by omega)
      rw [World.cell?_of_block (w := (w2.alloc (.cells #[.string s.1, .slice A s.2.length c] 66)).drew) e]
      exact hx0⟩
    have HK := Aside0.mk hbk
    have HU := Aside0.mk ((ButS.of (below_drew hb3)).trans hbut)
    clear hb3 h3 hbk hbut hx
    go_wp2_with fail
    generalize (w2.alloc (.cells #[.string s.1, .slice A s.2.length c] 66)) = W at *
    have hcc : W.cell? ⟨hb, 0, none⟩ = some (.map (some g)) ∧ W.cell? ⟨w2.heap.size, 0, none⟩ = some (.string s.1) := ⟨hc0, hx0⟩
    go_region_held3 (fun w' => w'.cell? ⟨hb, 0, none⟩ = some (.map (some g)) ∧ w'.cell? ⟨w2.heap.size, 0, none⟩ = some (.string s.1)) (first | assumption | go_keep) (fail)
    go_wp2_with fail
    go_ret
    exact ⟨rfl, HK.out, HU.out⟩
end Go.Proofs.Ytnbojemjaipnlaa.H
