/- BokZ, Px1, Px2, Bol1. -/
import Derived.Test.YtnbojemjaipnlaaDBokY
import Derived.Test.YtnbojemjaipnlaaDPx0
/-! ### BokZ -/
namespace Go.Proofs.Ytnbojemjaipnlaa.H
open Go.RowKit Go.Proofs.Ytnbojemjaipnlaa.P Go.Proofs.YtnbojemjaipnlaaW.PrintWords Go.Proofs.YtnbojemjaipnlaaW.PrintLast Go.Proofs.YtnbojemjaipnlaaW.PrintMore
set_option linter.unusedVariables false
set_option linter.unusedSimpArgs false
set_option maxRecDepth 20000
set_option maxHeartbeats 4000000 in
theorem openD_any (mb : Nat) (M : List (Int × Ses)) (br : ByteArray) (w : World) (h : DocAt w mb M) (hm : M.length ≤ 1000) (hu : RiseK M) (hr : ∀ p ∈ M, 1 ≤ p.1 ∧ p.1 ≤ 4) :
    Calls Try.prog 23 #[.pointer (some ⟨mb, 0, none⟩), .string br] w (DoesD w mb (openM M br).1 (.tuple #[.int .i64 (openM M br).2.1, .int .i64 (openM M br).2.2])) := by
  unfold openM
  cases hf : freeM M 4 1 with
  | some n0 =>
    refine openD_ok mb M br n0 w h ?_ hf
    rcases Nat.lt_or_ge M.length 4 with c | c
    · exact c
    · rw [free_len hu hr c] at hf; cases hf
  | none =>
    have h4 := free_none hf
    have H := Aside0.mk h
    obtain ⟨v, R, h1, h2, h3⟩ := h
    have hlen := h3.len
    obtain ⟨A0, cap0, rfl, hc0, hx0⟩ := ownD_slice h2
    have hut := Try.underlying28
    have c0 : w.cell? ⟨mb, 0, none⟩ = some (.slice A0 R.length cap0) := blk_cell h1 0
    have hlt4 : (4 : Int) ≤ (R.length : Int) := by omega
    clear h1 h2 h3 hm hlen hc0 hx0 hf hu hr h4
    go_enter Try.func23, Try.ntmps23
    go_wp2_with fail
    go_ret2
    exact DoesD.same H.out _
end Go.Proofs.Ytnbojemjaipnlaa.H
/-! ### Px1 -/
namespace Go.Proofs.Ytnbojemjaipnlaa.P
open Go.RowKit Go.Proofs.YtnbojemjaipnlaaW.PrintWords Go.Proofs.YtnbojemjaipnlaaW.PrintLast Go.Proofs.YtnbojemjaipnlaaW.PrintMore
set_option linter.unusedVariables false
set_option linter.unusedSimpArgs false
theorem eqA33 (d : Nat) (w : World) (x0 y0 : Int) (x1 y1 : Int) :
    (Op.equalIn (d + 2) 33 (.agg #[.int .u32 x0, .int .u32 x1]) (.agg #[.int .u32 y0, .int .u32 y1])).run Try.prog w = .ok (x0 == y0 && (x1 == y1)) w := by
  refine eqA_of Try.underlying33 (by kernel_rfl) ?_
  refine eqf_cons (by rfl) (by go_simp; rfl) (by go_simp; rfl) (by go_simp) ?_
  exact eqf_last (by rfl) (by go_simp; rfl) (by go_simp; rfl) (by go_simp)
theorem eqA35 (d : Nat) (w : World) (x0 y0 : Int) (x1 y1 : Int) (x2 y2 : Int) (x3 y3 : Int) (x4 y4 : Int) (x5 y5 : Int) (x6 y6 : Int) :
    (Op.equalIn (d + 3) 35 (.agg #[.int .i64 x0, .int .i64 x1, .int .i64 x2, .int .i64 x3, .int .u32 x4, .int .u32 x5, .int .i64 x6]) (.agg #[.int .i64 y0, .int .i64 y1, .int .i64 y2, .int .i64 y3, .int .u32 y4, .int .u32 y5, .int .i64 y6])).run Try.prog w = .ok (x0 == y0 && (x1 == y1 && (x2 == y2 && (x3 == y3 && ((x4 == y4 && (x5 == y5)) && (x6 == y6)))))) w := by
  refine eqA_of Try.underlying35 (by kernel_rfl) ?_
  refine eqf_cons (by rfl) (by go_simp; rfl) (by go_simp; rfl) (by go_simp) ?_
  refine eqf_cons (by rfl) (by go_simp; rfl) (by go_simp; rfl) (by go_simp) ?_
  refine eqf_cons (by rfl) (by go_simp; rfl) (by go_simp; rfl) (by go_simp) ?_
  refine eqf_cons (by rfl) (by go_simp; rfl) (by go_simp; rfl) (by go_simp) ?_
  refine eqf_cons (by rfl) (by go_simp) (by go_simp) (eqA33 (d + 0) w _ _ _ _) ?_
  exact eqf_last (by rfl) (by go_simp; rfl) (by go_simp; rfl) (by go_simp)
theorem eqA37 (d : Nat) (w : World) (x0 y0 : Int) (x1 y1 : Int) (x2 y2 : Int) (x3 y3 : Int) (x4 y4 : Int) (x5 y5 : Int) (x6 y6 : Int) (x7 y7 : Int) :
    (Op.equalIn (d + 4) 37 (.agg #[.int .i64 x0, .int .i64 x1, .int .i64 x2, .int .i64 x3, .int .i64 x4, .int .u32 x5, .int .u32 x6, .int .i64 x7]) (.agg #[.int .i64 y0, .int .i64 y1, .int .i64 y2, .int .i64 y3, .int .i64 y4, .int .u32 y5, .int .u32 y6, .int .i64 y7])).run Try.prog w = .ok (x0 == y0 && ((x1 == y1 && (x2 == y2 && (x3 == y3 && (x4 == y4 && ((x5 == y5 && (x6 == y6)) && (x7 == y7)))))))) w := by
  refine eqA_of Try.underlying37 (by kernel_rfl) ?_
  refine eqf_cons (by rfl) (by go_simp; rfl) (by go_simp; rfl) (by go_simp) ?_
  exact eqf_last (by rfl) (by go_simp) (by go_simp) (eqA35 (d + 0) w _ _ _ _ _ _ _ _ _ _ _ _ _ _)
end Go.Proofs.Ytnbojemjaipnlaa.P
/-! ### Px2 -/
namespace Go.Proofs.Ytnbojemjaipnlaa.P
open Go.RowKit Go.Proofs.YtnbojemjaipnlaaW.PrintWords Go.Proofs.YtnbojemjaipnlaaW.PrintLast Go.Proofs.YtnbojemjaipnlaaW.PrintMore
set_option linter.unusedVariables false
set_option linter.unusedSimpArgs false
attribute [local go_sem high] eqA37
def waystoneref14_Same.l0 : Nat → List (S37) → List (S37) → Int → Option (Bool)
  | 0, _, _, _ => none
  | k + 1, x0, x1, x5 => if x5 < (x0.length : Int) then (if 0 ≤ x5 then (if x5 < (x1.length : Int) then (if (!(((rd_T37 x0 x5).f0) == ((rd_T37 x1 x5).f0)) || ((!(((rd_T37 x0 x5).f1.f0) == ((rd_T37 x1 x5).f1.f0)) || (!(((rd_T37 x0 x5).f1.f1) == ((rd_T37 x1 x5).f1.f1)) || (!(((rd_T37 x0 x5).f1.f2) == ((rd_T37 x1 x5).f1.f2)) || (!(((rd_T37 x0 x5).f1.f3) == ((rd_T37 x1 x5).f1.f3)) || ((!(((rd_T37 x0 x5).f1.f4.f0) == ((rd_T37 x1 x5).f1.f4.f0)) || (!(((rd_T37 x0 x5).f1.f4.f1) == ((rd_T37 x1 x5).f1.f4.f1)))) || (!(((rd_T37 x0 x5).f1.f5) == ((rd_T37 x1 x5).f1.f5)))))))))) = true then (some false) else (waystoneref14_Same.l0 k x0 x1 (wrap64 (x5 + 1)))) else (none)) else (none)) else (some true)
def waystoneref14_Same.f (k : Nat) (l0 : List (S37)) (l1 : List (S37)) : Option (Bool) := if (l0.length : Int) = (l1.length : Int) then (waystoneref14_Same.l0 k l0 l1 0) else (some false)
set_option maxHeartbeats 8000000 in
set_option maxRecDepth 100000 in
theorem waystoneref14_Same.calls (k : Nat) (A0 : Option Addr) (c0 : Nat) (l0 : List (S37)) (A1 : Option Addr) (c1 : Nat) (l1 : List (S37)) (r : Bool) (w : World) (hr0 : Kd.C k37 w A0 l0.length l0) (hc0 : l0.length ≤ c0) (hr1 : Kd.C k37 w A1 l1.length l1) (hc1 : l1.length ≤ c1) (h : waystoneref14_Same.f k l0 l1 = some r) :
    Calls Try.prog 14 #[.slice A0 l0.length c0, .slice A1 l1.length c1] w fun e w' => e = .returned (.bool r) ∧ Drawn0 w w' := by
  have hu37 := Try.underlying37
  have HR0 := Aside0.mk hr0
  have HC0 := Aside0.mk hc0
  clear hr0 hc0
  have HR1 := Aside0.mk hr1
  have HC1 := Aside0.mk hc1
  clear hr1 hc1
  have H : (if (l0.length : Int) = (l1.length : Int) then (waystoneref14_Same.l0 k l0 l1 0) else (some false)) = some r := h
  clear h
  by_cases c3 : (l0.length : Int) = (l1.length : Int)
  · rw [if_pos c3] at H
    have c3b0 : ((l0.length : Int) == (l1.length : Int)) = true := beq_iff_eq.mpr c3
    have c3b1 : ((l0.length : Int) != (l1.length : Int)) = false := bne_eq_false_iff_eq.mpr c3
    have c3b2 : (l0.length == l1.length) = true := by first | simpa using c3 | (simp at c3 ⊢; omega)
    clear c3
    have H' := Aside0.mk H
    clear H
    go_enter Try.func14, Try.ntmps14
    go_wp2
    repeat (go_quiet (fail); try go_wp2)
    go_loopg [5] k (fun kq v5 w' => ∃ (x5_1 : Int), v5 = .int .i64 x5_1 ∧ Aside0 (waystoneref14_Same.l0 kq l0 l1 x5_1 = some r) ∧ Aside0 (kq ≤ k) ∧ Drawn0 w w')
    case atStart => exact ⟨(0), (by first | rfl | (simp; done) | (simp [*]; done)), H', ⟨Nat.le_refl _⟩, by repeat (first | exact Drawn0.refl _ | apply Drawn0.step)⟩
    case round =>
      clear H'
      try clear c1
      try clear p2
      try clear c3
      try clear c3b0
      try clear c3b1
      try clear c3b2
      obtain ⟨x5_1, rfl, HA, HK1, ⟨m1, rfl⟩⟩ := hrel
      cases gk with
      | zero => exact absurd HA.out (by simp [waystoneref14_Same.l0])
      | succ k1 =>
        have H := HA.out
        clear HA
        simp only [waystoneref14_Same.l0] at H
        by_cases c4 : x5_1 < (l0.length : Int)
        · rw [if_pos c4] at H
          have c4b0 : decide (x5_1 < (l0.length : Int)) = true := decide_eq_true c4
          clear c4
          by_cases c5 : 0 ≤ x5_1
          · rw [if_pos c5] at H
            have c5b0 : decide (0 ≤ x5_1) = true := decide_eq_true c5
            clear c5
            by_cases c6 : x5_1 < (l1.length : Int)
            · rw [if_pos c6] at H
              have c6b0 : decide (x5_1 < (l1.length : Int)) = true := decide_eq_true c6
              clear c6
              by_cases c7 : (!(((rd_T37 l0 x5_1).f0) == ((rd_T37 l1 x5_1).f0)) || ((!(((rd_T37 l0 x5_1).f1.f0) == ((rd_T37 l1 x5_1).f1.f0)) || (!(((rd_T37 l0 x5_1).f1.f1) == ((rd_T37 l1 x5_1).f1.f1)) || (!(((rd_T37 l0 x5_1).f1.f2) == ((rd_T37 l1 x5_1).f1.f2)) || (!(((rd_T37 l0 x5_1).f1.f3) == ((rd_T37 l1 x5_1).f1.f3)) || ((!(((rd_T37 l0 x5_1).f1.f4.f0) == ((rd_T37 l1 x5_1).f1.f4.f0)) || (!(((rd_T37 l0 x5_1).f1.f4.f1) == ((rd_T37 l1 x5_1).f1.f4.f1)))) || (!(((rd_T37 l0 x5_1).f1.f5) == ((rd_T37 l1 x5_1).f1.f5)))))))))) = true
              · rw [if_pos c7] at H
                have c7b0 : (!(((rd_T37 l0 x5_1).f0) == ((rd_T37 l1 x5_1).f0)) || ((!(((rd_T37 l0 x5_1).f1.f0) == ((rd_T37 l1 x5_1).f1.f0)) || (!(((rd_T37 l0 x5_1).f1.f1) == ((rd_T37 l1 x5_1).f1.f1)) || (!(((rd_T37 l0 x5_1).f1.f2) == ((rd_T37 l1 x5_1).f1.f2)) || (!(((rd_T37 l0 x5_1).f1.f3) == ((rd_T37 l1 x5_1).f1.f3)) || ((!(((rd_T37 l0 x5_1).f1.f4.f0) == ((rd_T37 l1 x5_1).f1.f4.f0)) || (!(((rd_T37 l0 x5_1).f1.f4.f1) == ((rd_T37 l1 x5_1).f1.f4.f1)))) || (!(((rd_T37 l0 x5_1).f1.f5) == ((rd_T37 l1 x5_1).f1.f5)))))))))) = true := c7
                clear c7
                obtain rfl := Option.some.inj H
                have p107 : 0 ≤ (x5_1 : Int) := of_decide_eq_true (by first | (with_reducible assumption) | assumption)
                have q107 : x5_1 < (l0.length : Int) := of_decide_eq_true (by first | (with_reducible assumption) | assumption)
                obtain ⟨ad107, e107, hx107_0, hx107_1, hx107_2, hx107_3, hx107_4, hx107_5, hx107_6, hx107_7⟩ := at_T37 HR0.out x5_1 p107 q107
                cases e107
                replace p107 := eq_true p107
                replace q107 := eq_true q107
                have p108 : 0 ≤ (x5_1 : Int) := of_decide_eq_true (by first | (with_reducible assumption) | assumption)
                have q108 : x5_1 < (l1.length : Int) := of_decide_eq_true (by first | (with_reducible assumption) | assumption)
                obtain ⟨ad108, e108, hx108_0, hx108_1, hx108_2, hx108_3, hx108_4, hx108_5, hx108_6, hx108_7⟩ := at_T37 HR1.out x5_1 p108 q108
                cases e108
                replace p108 := eq_true p108
                replace q108 := eq_true q108
                go_wp2
                repeat (go_quiet (fail); try go_wp2)
                go_ret
                exact ⟨by first | rfl | (simp; done) | (simp [*]; done), by repeat (first | exact Drawn0.refl _ | apply Drawn0.step)⟩
              · rw [if_neg c7] at H
                have c7b0 : (!(((rd_T37 l0 x5_1).f0) == ((rd_T37 l1 x5_1).f0)) || ((!(((rd_T37 l0 x5_1).f1.f0) == ((rd_T37 l1 x5_1).f1.f0)) || (!(((rd_T37 l0 x5_1).f1.f1) == ((rd_T37 l1 x5_1).f1.f1)) || (!(((rd_T37 l0 x5_1).f1.f2) == ((rd_T37 l1 x5_1).f1.f2)) || (!(((rd_T37 l0 x5_1).f1.f3) == ((rd_T37 l1 x5_1).f1.f3)) || ((!(((rd_T37 l0 x5_1).f1.f4.f0) == ((rd_T37 l1 x5_1).f1.f4.f0)) || (!(((rd_T37 l0 x5_1).f1.f4.f1) == ((rd_T37 l1 x5_1).f1.f4.f1)))) || (!(((rd_T37 l0 x5_1).f1.f5) == ((rd_T37 l1 x5_1).f1.f5)))))))))) = false := by simpa using c7
                clear c7
                have H' := Aside0.mk H
                clear H
                have p107 : 0 ≤ (x5_1 : Int) := of_decide_eq_true (by first | (with_reducible assumption) | assumption)
                have q107 : x5_1 < (l0.length : Int) := of_decide_eq_true (by first | (with_reducible assumption) | assumption)
                obtain ⟨ad107, e107, hx107_0, hx107_1, hx107_2, hx107_3, hx107_4, hx107_5, hx107_6, hx107_7⟩ := at_T37 HR0.out x5_1 p107 q107
                cases e107
                replace p107 := eq_true p107
                replace q107 := eq_true q107
                have p108 : 0 ≤ (x5_1 : Int) := of_decide_eq_true (by first | (with_reducible assumption) | assumption)
                have q108 : x5_1 < (l1.length : Int) := of_decide_eq_true (by first | (with_reducible assumption) | assumption)
                obtain ⟨ad108, e108, hx108_0, hx108_1, hx108_2, hx108_3, hx108_4, hx108_5, hx108_6, hx108_7⟩ := at_T37 HR1.out x5_1 p108 q108
                cases e108
                replace p108 := eq_true p108
                replace q108 := eq_true q108
                go_wp2
                repeat (go_quiet (fail); try go_wp2)
                go_roundg k1
                case measure => have := HK1.out; omega
                case rel => exact ⟨(wrap64 (x5_1 + 1)), (by first | rfl | (simp; done) | (simp [*]; done)), H', ⟨by have := HK1.out; omega⟩, by repeat (first | exact Drawn0.refl _ | apply Drawn0.step)⟩
            · rw [if_neg c6] at H
              exact absurd H (by simp)
          · rw [if_neg c5] at H
            exact absurd H (by simp)
        · rw [if_neg c4] at H
          have c4b0 : decide (x5_1 < (l0.length : Int)) = false := decide_eq_false c4
          clear c4
          obtain rfl := Option.some.inj H
          go_wp2
          repeat (go_quiet (fail); try go_wp2)
          go_ret
          exact ⟨by first | rfl | (simp; done) | (simp [*]; done), by repeat (first | exact Drawn0.refl _ | apply Drawn0.step)⟩
  · rw [if_neg c3] at H
    have c3b0 : ((l0.length : Int) == (l1.length : Int)) = false := beq_eq_false_iff_ne.mpr c3
    have c3b1 : ((l0.length : Int) != (l1.length : Int)) = true := bne_iff_ne.mpr c3
    have c3b2 : (l0.length == l1.length) = false := by first | simpa using c3 | (simp at c3 ⊢; omega)
    obtain rfl := Option.some.inj H
    go_enter Try.func14, Try.ntmps14
    go_wp2
    repeat (go_quiet (fail); try go_wp2)
    go_ret
    exact ⟨by first | rfl | (simp; done) | (simp [*]; done), by repeat (first | exact Drawn0.refl _ | apply Drawn0.step)⟩
end Go.Proofs.Ytnbojemjaipnlaa.P
/-! ### Bol1 -/
namespace Go.Proofs.Ytnbojemjaipnlaa.H
open Go.RowKit Go.Proofs.Ytnbojemjaipnlaa.P Go.Proofs.YtnbojemjaipnlaaW.PrintWords Go.Proofs.YtnbojemjaipnlaaW.PrintLast Go.Proofs.YtnbojemjaipnlaaW.PrintMore
set_option linter.unusedVariables false
set_option linter.unusedSimpArgs false
set_option maxRecDepth 20000
structure ActR where
  k : Int
  n : Int
  nm : ByteArray
  e : Edi
def kAct : Kd ActR := Kd.iso (Kd.pair (Kd.int .i64) (Kd.pair (Kd.int .i64) (Kd.pair Kd.string k37))) (fun x : ActR => (x.k, x.n, x.nm, x.e))
def acells (a : ActR) : List Value := [.int .i64 a.k, .int .i64 a.n, .string a.nm, .int .i64 a.e.f0, .int .i64 a.e.f1.f0, .int .i64 a.e.f1.f1, .int .i64 a.e.f1.f2, .int .i64 a.e.f1.f3, .int .u32 a.e.f1.f4.f0, .int .u32 a.e.f1.f4.f1, .int .i64 a.e.f1.f5]
def encA (a : ActR) : Value := .agg #[.int .i64 a.k, .int .i64 a.n, .string a.nm, .int .i64 a.e.f0, .int .i64 a.e.f1.f0, .int .i64 a.e.f1.f1, .int .i64 a.e.f1.f2, .int .i64 a.e.f1.f3, .int .u32 a.e.f1.f4.f0, .int .u32 a.e.f1.f4.f1, .int .i64 a.e.f1.f5]
def doM (M : List (Int × Ses)) (a : ActR) : List (Int × Ses) :=
  if a.k = 1 then (openM M a.nm).1 else if a.k = 2 then closeM M a.n else if a.k = 3 then (switchM M a.n a.nm).1 else if a.k = 4 then (stageM M a.n a.e).1 else if a.k = 5 then clearM M a.n else M
structure GoodM (M : List (Int × Ses)) : Prop where
  up : RiseK M
  key : ∀ p ∈ M, 1 ≤ p.1 ∧ p.1 ≤ 4
  few : ∀ p ∈ M, p.2.2.length ≤ 10
theorem good_nil : GoodM [] := ⟨List.Pairwise.nil, fun p h => (by cases h), fun p h => (by cases h)⟩
theorem mem_put {M : List (Int × Ses)} {n : Int} {s : Ses} {p : Int × Ses} (h : p ∈ putM M n s) : p = (n, s) ∨ p ∈ M := by
  unfold putM at h
  rcases List.mem_append.1 h with h | h
  · exact .inr (List.mem_filter.1 h).1
  · rcases List.mem_cons.1 h with h | h
    · exact .inl h
    · exact .inr (List.mem_filter.1 h).1
theorem good_put {M : List (Int × Ses)} (h : GoodM M) {n : Int} {s : Ses} (h1 : 1 ≤ n ∧ n ≤ 4) (h2 : s.2.length ≤ 10) : GoodM (putM M n s) := by
  refine ⟨rise_put h.up n s, fun p hp => ?_, fun p hp => ?_⟩
  · rcases mem_put hp with rfl | hp
    · exact h1
    · exact h.key p hp
  · rcases mem_put hp with rfl | hp
    · exact h2
    · exact h.few p hp
theorem look_mem {M : List (Int × Ses)} {n : Int} {s : Ses} (h : lookM M n = some s) : (n, s) ∈ M := by
  unfold lookM at h
  rw [Option.map_eq_some_iff] at h
  obtain ⟨p, h1, h2⟩ := h
  have h3 := List.find?_some h1
  have h4 := List.mem_of_find?_eq_some h1
  have : p.1 = n := by simpa using h3
  rw [← this, ← h2]
  exact h4
theorem good_len {M : List (Int × Ses)} (h : GoodM M) : M.length ≤ 4 := by
  have hk : (M.map (·.1)).Pairwise (· < ·) := by rw [List.pairwise_map]; exact h.up
  have hnd : (M.map (·.1)).Nodup := hk.imp (fun {a b} (q : a < b) => by intro e; omega)
  have := pigeon (M.map (·.1)) ([(1, ()), (2, ()), (3, ()), (4, ())] : List (Int × Unit)) hnd (by
    intro a ha
    obtain ⟨p, hp, rfl⟩ := List.mem_map.1 ha
    have hr := h.key p hp
    have : p.1 = 1 ∨ p.1 = 2 ∨ p.1 = 3 ∨ p.1 = 4 := by omega
    rcases this with e | e | e | e <;> rw [e] <;> decide)
  simpa using this
theorem good_do {M : List (Int × Ses)} (h : GoodM M) (a : ActR) : GoodM (doM M a) := by
  unfold doM
  split
  · unfold openM
    cases hf : freeM M 4 1 with
    | none => exact h
    | some n =>
      obtain ⟨m, rfl, h1, h2, _⟩ := free_some 4 1 n hf
      exact good_put h (by omega) (by simp)
  · split
    · unfold closeM
      cases lookM M a.n with
      | none => exact h
      | some s => exact ⟨rise_del h.up _, fun p hp => h.key p (List.mem_filter.1 hp).1, fun p hp => h.few p (List.mem_filter.1 hp).1⟩
    · split
      · unfold switchM
        cases hl : lookM M a.n with
        | none => exact h
        | some s =>
          dsimp only
          split
          · exact h
          · exact good_put h (h.key _ (look_mem hl)) (by simp)
      · split
        · unfold stageM
          cases hl : lookM M a.n with
          | none => exact h
          | some s =>
            dsimp only
            split
            · exact h
            · refine good_put h (h.key _ (look_mem hl)) ?_
              simp
              omega
        · split
          · unfold clearM
            cases hl : lookM M a.n with
            | none => exact h
            | some s => exact good_put h (h.key _ (look_mem hl)) (by simp)
          · exact h
theorem doc_ne {w : World} {hb g mb : Nat} {M N : List (Int × Ses)} (h : BookAt w hb g M) (k : DocAt w mb N) : mb ≠ hb ∧ mb ≠ g := by
  obtain ⟨v, R, e, _, _⟩ := k
  obtain ⟨e2, R2, h2, _⟩ := h
  refine ⟨?_, ?_⟩
  · rintro rfl
    rw [e] at e2
    simp at e2
  · rintro rfl
    obtain ⟨es, clock, hb, _⟩ := h2.own
    rw [e] at hb
    cases hb
theorem BookAt.map {w : World} {hb g : Nat} {M : List (Int × Ses)} (h : BookAt w hb g M) : ∀ cs t z, w.heap[g]? ≠ some (.cells cs t z) := by
  obtain ⟨e2, R2, h2, _⟩ := h
  obtain ⟨es, clock, hb, _⟩ := h2.own
  intro cs t z e
  rw [e] at hb
  cases hb
theorem DocAt.block {w : World} {mb : Nat} {M : List (Int × Ses)} (h : DocAt w mb M) : ∀ cs, w.heap[mb]? ≠ some (.cells cs 54 (0, 0)) := by
  obtain ⟨v, R, e, _, _⟩ := h
  intro cs e2
  rw [e] at e2
  simp at e2
theorem doc_keep {w w' : World} {hb g mb : Nat} {M N : List (Int × Ses)} (h : BookAt w hb g M) (k : DocAt w mb N) (u : ButS (· = g) w w') : DocAt w' mb N :=
  k.but u (doc_ne h k).2 (fun i hi => by rw [hi]; exact h.noint) (fun i hi cs => by rw [hi]; exact h.map cs _ _)
theorem book_keep {w w' : World} {hb g mb : Nat} {M N : List (Int × Ses)} (h : BookAt w hb g M) (k : DocAt w mb N) (u : ButS (· = mb) w w') : BookAt w' hb g M :=
  h.but u (fun q => (doc_ne h k).1 q.symm) (fun q => (doc_ne h k).2 q.symm) (fun i hi => by rw [hi]; exact k.noint)
theorem wrap_up {j n : Nat} (h : j < n) (hn : n ≤ 9223372036854775807) : wrap64 ((j : Int) + 1) = ((j + 1 : Nat) : Int) := by unfold wrap64; omega
theorem same_edits (l : List Edi) (hl : l.length ≤ 9223372036854775807) : ∃ k, waystoneref14_Same.f k l l = some true := by
  have h : ∀ d j : Nat, j ≤ l.length → l.length - j = d → waystoneref14_Same.l0 (d + 1) l l (j : Int) = some true := by
    intro d
    induction d with
    | zero =>
      intro j hj hd
      obtain rfl : j = l.length := by omega
      rw [waystoneref14_Same.l0]
      simp only [Int.lt_irrefl, if_false]
    | succ d ih =>
      intro j hj hd
      have hlt : j < l.length := by omega
      rw [waystoneref14_Same.l0]
      simp only [show ((j : Int) < (l.length : Int)) from by omega, show (0 : Int) ≤ (j : Int) from by omega, if_true, beq_self_eq_true, Bool.not_true, Bool.or_false, Bool.false_eq_true, if_false, wrap_up hlt hl]
      exact ih (j + 1) (by omega) (by omega)
  refine ⟨l.length + 1, ?_⟩
  unfold waystoneref14_Same.f
  simp only [if_true]
  exact h _ 0 (Nat.zero_le _) rfl
theorem sameE_any (A B : Option Addr) (c d : Nat) (l : List Edi) (w : World) (h1 : Kd.C k37 w A l.length l) (h2 : l.length ≤ c) (h3 : Kd.C k37 w B l.length l) (h4 : l.length ≤ d) (hl : l.length ≤ 1000) :
    Calls Try.prog 14 #[.slice A l.length c, .slice B l.length d] w fun e w' => e = .returned (.bool true) ∧ Below w.heap.size w w' := by
  obtain ⟨k, hk⟩ := same_edits l (by omega)
  refine (waystoneref14_Same.calls k A c l B d l true w h1 h2 h3 h4 hk).mono ?_
  rintro e w' ⟨rfl, hd⟩
  exact ⟨rfl, hd.below⟩
end Go.Proofs.Ytnbojemjaipnlaa.H
