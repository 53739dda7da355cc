/- TopoP, FatX1, Rx1, Rx3. -/
import Derived.Test.YtkjighagiecbaaaGMap
import Derived.Test.YtkjighagiecbaaaGFatW
import Derived.Test.YtkjighagiecbaaaGFatR
import Derived.Test.YtkjighagiecbaaaGTopo5
import Derived.Test.YtkjighagiecbaaaGTopo4b
import Derived.Test.YtkjighagiecbaaaGFatN
/-! ### TopoP -/
namespace Go.Proofs.Ytkjighagiecbaaa.H
set_option linter.unusedVariables false
set_option linter.unusedSimpArgs false
set_option linter.unusedSectionVars false
section
variable {α : Type} [DecidableEq α]
def ports2 : List (α × α) → List α
  | [] => []
  | (a, b) :: t => a :: b :: ports2 t
def keysOf {β : Type} (L : List (α × β)) : List α := L.map (·.1)
theorem keys_upd {β : Type} (k : α) (v : β) : ∀ L : List (α × β), keysOf (upd L k v) = if k ∈ keysOf L then keysOf L else keysOf L ++ [k]
  | [] => by simp [upd, keysOf]
  | (a, b) :: t => by
    have ih := keys_upd k v t
    unfold upd
    by_cases h : k = a
    · subst h
      simp [keysOf]
    · simp only [if_neg h]
      show a :: keysOf (upd t k v) = _
      rw [ih]
      by_cases h2 : k ∈ keysOf t
      · simp only [if_pos h2]
        rw [if_pos (by show k ∈ a :: keysOf t; exact List.mem_cons_of_mem _ h2)]; rfl
      · simp only [if_neg h2]
        rw [if_neg (by show ¬ k ∈ a :: keysOf t; simp [h, h2])]; rfl
def jn : List (α × α) → List (α × α) → List (α × α)
  | L, [] => L
  | L, (a, b) :: t => jn (upd (upd L a b) b a) t
theorem upd_len {β : Type} (k : α) (v : β) (L : List (α × β)) : (upd L k v).length = if k ∈ keysOf L then L.length else L.length + 1 := by
  have h := congrArg List.length (keys_upd k v L)
  by_cases hk : k ∈ keysOf L
  · rw [if_pos hk] at h ⊢
    simpa [keysOf] using h
  · rw [if_neg hk] at h ⊢
    simpa [keysOf] using h
theorem jn_len_le : ∀ (t : List (α × α)) (L : List (α × α)), (jn L t).length ≤ L.length + 2 * t.length
  | [], L => by simp [jn]
  | (a, b) :: t, L => by
    have ih := jn_len_le t (upd (upd L a b) b a)
    have h1 := upd_len a b L
    have h2 := upd_len b a (upd L a b)
    simp only [jn, List.length_cons]
    split at h1 <;> split at h2 <;> omega
theorem jn_len : ∀ (t : List (α × α)) (L : List (α × α)), (jn L t).length = L.length + 2 * t.length ↔ ((ports2 t).Nodup ∧ ∀ x, x ∈ ports2 t → ¬ x ∈ keysOf L)
  | [], L => by simp [jn, ports2]
  | (a, b) :: t, L => by
    have le := jn_len_le t (upd (upd L a b) b a)
    have ih := jn_len t (upd (upd L a b) b a)
    have h1 := upd_len a b L
    have h2 := upd_len b a (upd L a b)
    have k1 := keys_upd a b L
    have k2 := keys_upd b a (upd L a b)
    simp only [jn, List.length_cons, ports2, List.nodup_cons, List.mem_cons]
    by_cases ha : a ∈ keysOf L
    · rw [if_pos ha] at h1
      refine ⟨fun h => ?_, fun h => absurd ha (h.2 a (.inl rfl))⟩
      split at h2 <;> omega
    · rw [if_neg ha] at h1 k1
      by_cases hb : b ∈ keysOf (upd L a b)
      · rw [if_pos hb] at h2
        refine ⟨fun h => by omega, fun h => ?_⟩
        rw [k1, List.mem_append, List.mem_singleton] at hb
        rcases hb with hb | hb
        · exact absurd hb (h.2 b (.inr (.inl rfl)))
        · exact absurd hb.symm (fun e => h.1.1 (.inl e))
      · rw [if_neg hb] at h2 k2
        rw [k1, List.mem_append, List.mem_singleton] at hb
        have e : (jn (upd (upd L a b) b a) t).length = L.length + 2 * (t.length + 1) ↔ (jn (upd (upd L a b) b a) t).length = (upd (upd L a b) b a).length + 2 * t.length := by omega
        rw [e, ih, k2, k1]
        simp only [List.mem_append, List.mem_singleton]
        constructor
        · rintro ⟨n1, n2⟩
          refine ⟨⟨fun hh => ?_, fun hh => n2 b hh (.inr rfl), n1⟩, fun x hx => ?_⟩
          · rcases hh with hh | hh
            · exact hb (.inr hh.symm)
            · exact n2 a hh (.inl (.inr rfl))
          · rcases hx with rfl | rfl | hx
            · exact ha
            · exact fun h => hb (.inl h)
            · exact fun h => n2 x hx (.inl (.inl h))
        · rintro ⟨⟨n1, n2, n3⟩, n4⟩
          refine ⟨n3, fun x hx hh => ?_⟩
          rcases hh with (hh | hh) | hh
          · exact n4 x (.inr (.inr hx)) hh
          · subst hh; exact n1 (.inr hx)
          · subst hh; exact n2 hx
theorem jn_nodup (t : List (α × α)) : (jn [] t).length = 2 * t.length ↔ (ports2 t).Nodup := by
  have h := jn_len t []
  simp only [List.length_nil, Nat.zero_add] at h
  rw [h]
  simp [keysOf]
def nxt : List (α × α) → α → Option α
  | [], _ => none
  | (a, b) :: t, p => if a = p then some b else if b = p then some a else nxt t p
theorem nxt_none (p : α) : ∀ t : List (α × α), nxt t p = none ↔ ¬ p ∈ ports2 t
  | [] => by simp [nxt, ports2]
  | (a, b) :: t => by
    have ih := nxt_none p t
    unfold nxt
    simp only [ports2, List.mem_cons]
    by_cases h1 : a = p
    · simp [h1]
    · by_cases h2 : b = p
      · simp [h1, h2]
      · simp [h1, h2, ih, Ne.symm h1, Ne.symm h2, eq_comm]
theorem look_jn (p : α) : ∀ (t : List (α × α)) (L : List (α × α)), (ports2 t).Nodup → look (jn L t) p = (nxt t p).or (look L p)
  | [], L, _ => by simp [jn, nxt]
  | (a, b) :: t, L, h => by
    simp only [ports2, List.nodup_cons, List.mem_cons] at h
    have ih := look_jn p t (upd (upd L a b) b a) h.2.2
    have hn := nxt_none p t
    simp only [jn, nxt]
    rw [ih, look_upd, look_upd]
    by_cases h1 : a = p
    · subst h1
      have h0 : nxt t a = none := hn.2 (fun e => h.1 (.inr e))
      have h3 : ¬ a = b := fun e => h.1 (.inl e)
      simp [h0, h3]
    · by_cases h2 : b = p
      · subst h2
        have h0 : nxt t b = none := hn.2 h.2.1
        simp [h0, h1]
      · simp [h1, h2, Ne.symm h1, Ne.symm h2, eq_comm]
theorem look_jn0 (p : α) (t : List (α × α)) (h : (ports2 t).Nodup) : look (jn [] t) p = nxt t p := by
  rw [look_jn p t [] h]; simp [look]
theorem nxt_mem {p q : α} : ∀ {t : List (α × α)}, nxt t p = some q → p ∈ ports2 t ∧ q ∈ ports2 t
  | (a, b) :: t, h => by
    unfold nxt at h
    simp only [ports2, List.mem_cons]
    by_cases h1 : a = p
    · simp [h1] at h; subst h1 h; simp
    · by_cases h2 : b = p
      · simp [h1, h2] at h; subst h2 h; simp
      · simp [h1, h2] at h
        have := nxt_mem h
        exact ⟨.inr (.inr this.1), .inr (.inr this.2)⟩
theorem nxt_back {p q : α} : ∀ {t : List (α × α)}, (ports2 t).Nodup → nxt t p = some q → nxt t q = some p ∧ q ≠ p
  | (a, b) :: t, hd, h => by
    simp only [ports2, List.nodup_cons, List.mem_cons] at hd
    have hab : ¬ a = b := fun e => hd.1 (.inl e)
    unfold nxt at h ⊢
    by_cases h1 : a = p
    · simp [h1] at h; subst h1 h
      exact ⟨by simp [hab], fun e => hab e.symm⟩
    · by_cases h2 : b = p
      · simp [h1, h2] at h; subst h2 h
        exact ⟨by simp, hab⟩
      · simp [h1, h2] at h
        have hm := nxt_mem h
        have ih := nxt_back hd.2.2 h
        have h3 : ¬ a = q := fun e => hd.1 (.inr (by rw [e]; exact hm.2))
        have h4 : ¬ b = q := fun e => hd.2.1 (by rw [e]; exact hm.2)
        exact ⟨by simp [h3, h4, ih.1], ih.2⟩
end
end Go.Proofs.Ytkjighagiecbaaa.H
/-! ### FatX1 -/
namespace Go.Proofs.Ytkjighagiecbaaa.H
open Go.RowKit Go.Proofs.Ytkjighagiecbaaa.P Go.Proofs.YtkjighagiecbaaaW.PrintWords Go.Proofs.YtkjighagiecbaaaW.PrintLast Go.Proofs.YtkjighagiecbaaaW.PrintMore
set_option linter.unusedVariables false
set_option linter.unusedSimpArgs false
structure RightT (l0 : List Int) (l1 : List S66) : Prop where
  n8 : l0.length ≤ 8
  l16 : l1.length ≤ 16
  has : ∀ l, l ∈ l1 → hasB l0 l.f0 = true ∧ hasB l0 l.f1 = true
  ports : ∀ n, n ∈ l0 → 1 ≤ n ∧ n ≤ 4
  nodup : (ports2 (l1.map fun l => (l.f0, l.f1))).Nodup
  pos : 0 < l0.length
theorem joinL_jn (l1 : List S66) : joinL l1 = jn [] (l1.map fun l => (l.f0, l.f1)) := by
  unfold joinL
  generalize ([] : List (S33 × S33)) = L
  induction l1 generalizing L with
  | nil => rfl
  | cons l t ih => rw [List.foldl_cons, ih]; rfl
theorem right_iff (l0 : List Int) (l1 : List S66) : rightB l0 l1 = true ↔ RightT l0 l1 := by
  have hj : (joinL l1).length = 2 * l1.length ↔ (ports2 (l1.map fun l => (l.f0, l.f1))).Nodup := by
    have h := jn_nodup (l1.map fun l => (l.f0, l.f1))
    rw [List.length_map] at h
    rw [joinL_jn, h]
  unfold rightB
  constructor
  · intro h
    split at h
    · cases h
    split at h
    · cases h
    split at h
    · cases h
    split at h
    · cases h
    split at h
    · cases h
    rename_i h1 h2 h3 h4 h5
    simp only [decide_eq_true_iff] at h
    refine ⟨by omega, by omega, fun l hl => ?_, fun n hn => ?_, hj.1 h, by omega⟩
    · have := (List.any_eq_false.1 (by simpa using h5)) l hl
      simp [badL] at this
      simp [this]
    · have := (List.any_eq_false.1 (by simpa using h4)) n hn
      simp [badI] at this
      omega
  · intro h
    have hp := h.pos
    rw [if_neg (by omega), if_neg (by have := h.n8; omega), if_neg (by have := h.l16; omega), if_neg, if_neg, decide_eq_true_iff]
    · exact hj.2 h.nodup
    · intro hc
      obtain ⟨l, hl, hb⟩ := List.any_eq_true.1 hc
      have := h.has l hl
      simp [badL, this.1, this.2] at hb
      have hne : ∀ t : List S66, l ∈ t → ¬ (ports2 (t.map fun l => (l.f0, l.f1))).Nodup := by
        intro t
        induction t with
        | nil => simp
        | cons x t ih =>
          intro hm hd
          simp only [List.map_cons, ports2, List.nodup_cons, List.mem_cons] at hd
          rcases List.mem_cons.1 hm with rfl | hm
          · exact hd.1 (.inl hb)
          · exact ih hm hd.2.2
      exact hne l1 hl h.nodup
    · intro hc
      obtain ⟨n, hn, hb⟩ := List.any_eq_true.1 hc
      have := h.ports n hn
      simp [badI] at hb
      omega
theorem hasB_iff (l0 : List Int) (p : S33) : hasB l0 p = true ↔ (0 ≤ p.f0 ∧ p.f0 < l0.length ∧ 0 ≤ p.f1 ∧ p.f1 < rdOf 0 l0 p.f0) := by
  simp [hasB, and_assoc]
def lks (l1 : List S66) : List (S33 × S33) := l1.map fun l => (l.f0, l.f1)
theorem look_right {l0 : List Int} {l1 : List S66} (h : RightT l0 l1) (p : S33) : look (joinL l1) p = nxt (lks l1) p := by
  rw [joinL_jn]; exact look_jn0 p _ h.nodup
theorem port_has {l0 : List Int} {l1 : List S66} (h : RightT l0 l1) (p : S33) (hp : p ∈ ports2 (lks l1)) : hasB l0 p = true := by
  have key : ∀ t : List S66, (∀ l, l ∈ t → hasB l0 l.f0 = true ∧ hasB l0 l.f1 = true) → p ∈ ports2 (lks t) → hasB l0 p = true := by
    intro t
    induction t with
    | nil => intro _ h; simp [lks, ports2] at h
    | cons x t ih =>
      intro hh hm
      simp only [lks, List.map_cons, ports2, List.mem_cons] at hm
      rcases hm with rfl | rfl | hm
      · exact (hh x (by simp)).1
      · exact (hh x (by simp)).2
      · exact ih (fun l hl => hh l (by simp [hl])) hm
  exact key l1 h.has hp
theorem next_yes {l0 : List Int} {l1 : List S66} (h : RightT l0 l1) (p : S33) (hp : nextB l1 p = true) :
    nextB l1 (nextQ l1 p) = true ∧ nextQ l1 (nextQ l1 p) = p ∧ nextQ l1 p ≠ p ∧ hasB l0 p = true ∧ hasB l0 (nextQ l1 p) = true := by
  unfold nextB nextQ at *
  rw [look_right h p] at *
  cases hq : nxt (lks l1) p with
  | none => rw [hq] at hp; cases hp
  | some q =>
    simp only [Option.getD_some]
    have hm := nxt_mem hq
    have hb := nxt_back h.nodup hq
    rw [look_right h q]
    rw [show nxt (lks l1) q = some p from hb.1]
    exact ⟨rfl, rfl, hb.2, port_has h p hm.1, port_has h q hm.2⟩
end Go.Proofs.Ytkjighagiecbaaa.H
/-! ### Rx1 -/
namespace Go.Proofs.Ytkjighagiecbaaa.R
open Go.Proofs.Ytkjighagiecbaaa.P
open Go.RowKit Go.Proofs.YtkjighagiecbaaaW.PrintWords Go.Proofs.YtkjighagiecbaaaW.PrintLast Go.Proofs.YtkjighagiecbaaaW.PrintMore
set_option linter.unusedVariables false
set_option linter.unusedSimpArgs false
theorem eqA33 (d : Nat) (w : World) (x0 y0 : Int) (x1 y1 : Int) :
    (Op.equalIn (d + 2) 33 (.agg #[.int .i64 x0, .int .i64 x1]) (.agg #[.int .i64 y0, .int .i64 y1])).run Try.prog w = .ok (x0 == y0 && (x1 == y1)) w := by
  refine eqA_of Try.underlying33 (by kernel_rfl) ?_
  refine eqf_cons (by rfl) (by go_simp; rfl) (by go_simp; rfl) (by go_simp) ?_
  exact eqf_last (by rfl) (by go_simp; rfl) (by go_simp; rfl) (by go_simp)
end Go.Proofs.Ytkjighagiecbaaa.R
/-! ### Rx3 -/
namespace Go.Proofs.Ytkjighagiecbaaa.R
open Go.Proofs.Ytkjighagiecbaaa.P
open Go.RowKit Go.Proofs.YtkjighagiecbaaaW.PrintWords Go.Proofs.YtkjighagiecbaaaW.PrintLast Go.Proofs.YtkjighagiecbaaaW.PrintMore
set_option linter.unusedVariables false
set_option linter.unusedSimpArgs false
attribute [local go_sem high] eqA33
def waystoneref08_Has.f (l0_0 : List Int) (l0_1 : List (S66)) (a1_0 : Int) (a1_1 : Int) : Option (Bool) := some (Go.Proofs.Ytkjighagiecbaaa.H.hasB l0_0 ⟨a1_0, a1_1⟩)
theorem waystoneref08_Has.calls (A0_0 : Option Addr) (c0_0 : Nat) (l0_0 : List Int) (A0_1 : Option Addr) (c0_1 : Nat) (l0_1 : List (S66)) (a1_0 : Int) (a1_1 : Int) (r : Bool) (w : World) (hr0_0 : Kd.C (Kd.int .i64) w A0_0 l0_0.length l0_0) (hc0_0 : l0_0.length ≤ c0_0) (hr0_1 : Kd.C k66 w A0_1 l0_1.length l0_1) (hc0_1 : l0_1.length ≤ c0_1) (h : waystoneref08_Has.f l0_0 l0_1 a1_0 a1_1 = some r) :
    Calls Try.prog 43 #[.agg #[.slice A0_0 l0_0.length c0_0, .slice A0_1 l0_1.length c0_1], .agg #[.int .i64 a1_0, .int .i64 a1_1]] w fun e w' => e = .returned (.bool r) ∧ Below w.heap.size w w' := by
  cases h
  exact Go.Proofs.Ytkjighagiecbaaa.H.refHas_any A0_0 c0_0 l0_0 (.slice A0_1 l0_1.length c0_1) ⟨a1_0, a1_1⟩ w hr0_0 rfl
end Go.Proofs.Ytkjighagiecbaaa.R
