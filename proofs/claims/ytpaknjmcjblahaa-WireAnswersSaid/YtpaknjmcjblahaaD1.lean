/- What the law needs beyond the shared texts: part 1. -/
import Derived.Below
import Derived.Deep.Draws
import Derived.Deep.AppendLies
import Derived.Maps.AppendAt
import Derived.OwnWalk
import Derived.Laws.BytesArg
import Derived.Laws.MakeOwn
import Derived.Laws.OwnMore
import Derived.Deep.OwnRows
import Derived.Tactics
import Derived.Lib.ConvBytes
import Derived.Laws.Slices
import Derived.WalkKit
import Derived.KernelRfl
import Derived.RowKit3
import Derived.Deep.LoopGhost
import Derived.Deep.QuietTactic
import Derived.BigQuiet
import Derived.WideLaws
import Derived.Deep.DeepCutAuto
import Derived.Deep.CutBlock
import Derived.Deep.RegionHeld3
import Derived.Laws.Rows
import Derived.Lib.AppendStr
import Derived.ArgAppend
import Derived.Laws.IdiomCopy
import Derived.RowKit
import Derived.Test.YtpaknjmcjblahaaCWirO
import Derived.Test.YtpaknjmcjblahaaCWirT
/-! ### WWords -/
set_option linter.unusedVariables false
set_option linter.unusedSimpArgs false
namespace Go.Proofs.YtpaknjmcjblahaaW.PrintWords
open Go.RowKit
section
variable {P : Program} {ops : Array Oper} {rest : List Oper} {o : Oper} {a : Act} {Q : Exit → Act → World → Prop}
end
section
variable {P : Program}
end
section
variable {P : Program} {ops : Array Oper} {rest : List Oper} {o : Oper} {a : Act} {Q : Exit → Act → World → Prop}
end
section
variable {P : Program} {ops : Array Oper} {rest : List Oper} {o : Oper} {a : Act} {Q : Exit → Act → World → Prop}
end
theorem Ev.now {α : Type} (r : α) : Ev (fun _ => some r) r := ⟨0, fun _ _ => rfl⟩
theorem Ev.rounds {α : Type} {g : Nat → Option α} {r : α} (h : Ev g r) : ∃ k, g k = some r := by
  obtain ⟨K, h⟩ := h
  exact ⟨K, h K (Nat.le_refl _)⟩
section
variable {P : Program} {ops : Array Oper} {o : Oper} {a : Act} {Q : Exit → Act → World → Prop} {K : Act → World → Prop}
end
section
variable {α : Type} {enc : α → Value} {d : α}
end
section
variable {α : Type} {P : Program} {ops : Array Oper} {rest : List Oper} {o : Oper} {a : Act} {Q : Exit → Act → World → Prop}
end
section
variable {P : Program}
end
section
variable {α : Type} {R R' : α → List Value → Prop} {e : TypeId} {size : Nat} {w w1 : World} {base : Nat} {v : Value} {ps : List α}
end
section
variable {P : Program} {ops : Array Oper} {rest : List Oper} {o : Oper} {a : Act} {Q : Exit → Act → World → Prop} {α : Type} {R : α → List Value → Prop}
end
section
variable {P : Program} {ops : Array Oper} {o : Oper} {a : Act} {Q : Exit → Act → World → Prop} {K : Act → World → Prop} {α : Type} {R : α → List Value → Prop}
end
section
variable {α : Type} {P : Program}
end
section
variable {P : Program} {ops : Array Oper} {rest : List Oper} {o : Oper} {a : Act} {Q : Exit → Act → World → Prop}
end
namespace Kd
section
variable {α : Type} {d : Kd α} {e : Nat} {w w1 : World} {base : Nat} {ok ok' : Nat → Prop} {v : Value} {xs : List α}
end
section
variable {P : Program} {ops : Array Oper} {rest : List Oper} {o : Oper} {a : Act} {Q : Exit → Act → World → Prop} {α : Type}
end
section
variable {P : Program} {ops : Array Oper} {o : Oper} {a : Act} {Q : Exit → Act → World → Prop} {Kc : Act → World → Prop} {α : Type}
end
end Kd
namespace Kd
section
variable {α : Type} {F : Kd α → Kd α} {sz : Nat} {E : List Nat} {hs : ∀ n, (upto F sz E n).sz = sz} {hE : ∀ n q, q ∈ (upto F sz E n).E → q ∈ E}
end
end Kd
namespace Kd
section
variable {α β : Type} {d : Kd α} {d' : Kd β} {e e' : Nat} {w w1 W : World} {base b b' : Nat} {ok ok' okv oku : Nat → Prop} {v u : Value} {xs : List α} {ys : List β}
end
section
variable {w W : World} {A : Option Addr} {n : Nat}
variable {α : Type} {enc : α → Value} {h1 : ∀ x, (enc x).oneCell' = true} {e base g cap : Nat} {ok : Nat → Prop} {xs : List α}
end
section
variable {P : Program} {ops : Array Oper} {rest : List Oper} {o : Oper} {a : Act} {Q : Exit → Act → World → Prop}
variable {α : Type}
end
end Kd
section
variable {P : Program}
end
section
variable {w w1 : World} {base n size : Nat} {e : TypeId} {v : Value} {xs : List Value}
end
section
variable {P : Program}
end
namespace Kd
section
variable {α : Type} {d : Kd α} {e : Nat} {w w1 W : World} {base : Nat} {ok ok' : Nat → Prop} {v : Value} {xs : List α}
end
section
variable {P : Program} {ops : Array Oper} {rest : List Oper} {o : Oper} {a : Act} {Q' : Exit → Act → World → Prop} {Kc : Act → World → Prop} {α : Type}
end
end Kd
namespace Kd
section
variable {α : Type} {d : Kd α} {e e' : Nat} {w w1 W : World} {base : Nat} {ok : Nat → Prop} {u v : Value} {xs : List α}
end
end Kd
namespace Kd
section
variable {α : Type} {d : Kd α} {e base g n cap : Nat} {ok okp : Nat → Prop} {W : World} {xs : List α}
end
end Kd
namespace Kd
section
variable {α : Type} {F : Kd α → Kd α} {sz : Nat} {E : List Nat} {hs : ∀ n, (upto F sz E n).sz = sz} {hE : ∀ n q, q ∈ (upto F sz E n).E → q ∈ E}
end
end Kd
namespace Kd
section
variable {P : Program} {ops : Array Oper} {rest : List Oper} {o : Oper} {a : Act} {Q : Exit → Act → World → Prop} {α : Type}
end
end Kd
namespace Kd
section
variable {P : Program} {ops : Array Oper} {rest : List Oper} {o : Oper} {a : Act} {Q : Exit → Act → World → Prop} {α : Type}
end
end Kd
namespace Kd
section
variable {α : Type} {k : Kd α} {w : World} {A : Option Addr} {xs : List α} {m c : Nat}
end
end Kd
section
variable {P : Program}
end
namespace Kd
section
variable {α β : Type} {d : Kd α} {d' : Kd β} {e e' base base' n : Nat} {ok ok' : Nat → Prop} {w W w1 W1 : World} {v u : Value} {xs : List α} {ys : List β} {A : Option Addr} {c : Nat}
end
section
variable {α : Type} {enc : α → Value} {h1 : ∀ x, (enc x).oneCell' = true} {w W : World} {A : Option Addr} {n g : Nat} {xs : List α}
end
end Kd
namespace Kd
section
variable {α : Type} {d : Kd α} {e base g : Nat} {ok : Nat → Prop} {w w1 : World} {v : Value} {xs : List α} {o : Obj}
end
end Kd
section
variable {P : Program} {ops : Array Oper} {rest : List Oper} {o : Oper} {a : Act} {Q : Exit → Act → World → Prop}
end
namespace Kd
section
variable {α : Type} {enc : α → Value} {h1 : ∀ x, (enc x).oneCell' = true} {e base g n cap : Nat} {ok : Nat → Prop} {W : World} {xs : List α}
end
end Kd
section
variable {P : Program} {ops : Array Oper} {rest : List Oper} {o : Oper} {a : Act} {Q : Exit → Act → World → Prop}
end
namespace Kd
section
variable {α : Type} {enc : α → Value} {h1 : ∀ x, (enc x).oneCell' = true} {e base g n cap : Nat} {ok : Nat → Prop} {W : World} {xs : List α}
end
end Kd
section
variable {P : Program} {ops : Array Oper} {rest : List Oper} {o : Oper} {a : Act} {Q : Exit → Act → World → Prop} {W : World}
end
section
variable {P : Program} {ops : Array Oper} {o : Oper} {a : Act} {Q : Exit → Act → World → Prop} {Kc : Act → World → Prop}
namespace Kd
variable {α : Type}
end Kd
end
section
variable {P : Program} {tmps : Array Value} {w : World}
end
namespace Kd
section
variable {P : Program} {α : Type}
end
section
variable {P : Program} {ops : Array Oper} {rest : List Oper} {o : Oper} {a : Act} {Q : Exit → Act → World → Prop} {Kc : Act → World → Prop} {α : Type}
end
end Kd
end Go.Proofs.YtpaknjmcjblahaaW.PrintWords
/-! ### WShare -/
namespace Go.Proofs.YtpaknjmcjblahaaW.PrintWords
open Go.RowKit
namespace Foot
variable {P Q : World → Prop} {W W1 : World} {ok ok' : Nat → Prop}
theorem now (h : Foot P W ok) : P W := h W (fun _ _ _ => rfl)
end Foot
namespace Kd
section
variable {α β : Type} {d : Kd α} {e base n n' cc g N : Nat} {ok ok' okp S : Nat → Prop} {w w0 w1 W W1 : World} {A A' : Option Addr} {u v v1 : Value} {xs : List α} {xs' : List β} {d' : Kd β} {x : α} {c : List Value}
end
end Kd
end Go.Proofs.YtpaknjmcjblahaaW.PrintWords
/-! ### Wir6 -/
namespace Go.Proofs.Ytpaknjmcjblahaa.H
open Go.RowKit Go.Proofs.Ytpaknjmcjblahaa.P Go.Proofs.YtpaknjmcjblahaaW.PrintWords Go.Proofs.YtpaknjmcjblahaaW.PrintLast Go.Proofs.YtpaknjmcjblahaaW.PrintMore
set_option linter.unusedVariables false
set_option linter.unusedSimpArgs false
set_option maxRecDepth 20000
theorem evCast {α : Type} {g : Nat → Option α} {r r' : α} (h : Ev g r) (e : r = r') : Ev g r' := e ▸ h
theorem rdI_app (A B : List Int) (p : Int) : rd (A ++ p :: B) (A.length : Int) = p := by
  unfold rd
  rw [Int.toNat_natCast, List.getD_eq_getElem?_getD, List.getElem?_append_right (Nat.le_refl _), Nat.sub_self]; rfl
end Go.Proofs.Ytpaknjmcjblahaa.H
/-! ### WirP -/
namespace Go.Proofs.Ytpaknjmcjblahaa.H
open Go.RowKit Go.Proofs.Ytpaknjmcjblahaa.P Go.Proofs.YtpaknjmcjblahaaW.PrintWords Go.Proofs.YtpaknjmcjblahaaW.PrintLast Go.Proofs.YtpaknjmcjblahaaW.PrintMore
set_option linter.unusedVariables false
set_option linter.unusedSimpArgs false
set_option maxRecDepth 20000
theorem repM_put {α : Type} {one : Mc → α × Mc} {g : α → List Int} {P : α → Prop} (h : ∀ a rest b, P a → one ⟨g a ++ rest, b⟩ = (a, ⟨rest, b⟩)) : ∀ (l : List α) (rest : List Int), (∀ a ∈ l, P a) → repM one l.length ⟨(l.map g).flatten ++ rest, false⟩ = (l, ⟨rest, false⟩)
  | [], rest, _ => rfl
  | a :: l, rest, hP => by
    rw [List.length_cons, List.map_cons, List.flatten_cons, List.append_assoc, repM]
    rw [if_neg (by simp), h a _ _ (hP a (by simp)), repM_put h l rest (fun x hx => hP x (List.mem_cons_of_mem _ hx))]
theorem listM_put {α : Type} {one : Mc → α × Mc} {g : α → List Int} {P : α → Prop} (h : ∀ a rest b, P a → one ⟨g a ++ rest, b⟩ = (a, ⟨rest, b⟩)) (l : List α) (rest : List Int) (hP : ∀ a ∈ l, P a) (hl : l.length ≤ 100) :
    listM one ⟨putN l.length ++ ((l.map g).flatten ++ rest), false⟩ = (l, ⟨rest, false⟩) := by
  unfold listM
  rw [numM_put _ _ (show inB 100 (l.length : Int) from ⟨by omega, by omega⟩) (by decide)]
  exact repM_put h l rest hP
theorem readM_ans {r : Rs} (F : FormS r) (hu : inB wideW r.ad) (tail : List Int) : readM (ansL r ++ tail) = (r, ⟨tail, false⟩) := by
  obtain ⟨e, n, ids, rules, h, fr, ad, dv, ft, od, op⟩ := r
  obtain ⟨f1, f2, f3, f4, f5, f6, f7, f8, f9, l1, l2, l3⟩ := F
  dsimp only at f1 f2 f3 f4 f5 f6 f7 f8 f9 l1 l2 l3 hu
  have s255 : (255 : Int) ≤ 4294967295 := by decide
  have hb : inB 1 (b01 h) := by cases h <;> exact ⟨by decide, by decide⟩
  unfold readM ansL
  dsimp only
  simp only [List.append_assoc, numM_put _ _ f1 (by decide : (65535 : Int) ≤ 4294967295), numM_put _ _ f2 wideLe]
  have t1 := fun rest => listM_put (one := numM wideW) (g := putN) (P := inB wideW) (fun a rest b h => numM_put rest b h wideLe) ids rest f3 l1
  have t2 := fun rest => listM_put (one := ruleM) (g := putRu) (P := okW) (fun a rest b h => ruleM_put rest b h) rules rest f4 l2
  have t3 := fun rest => listM_put (one := numM 255) (g := putN) (P := inB 255) (fun a rest b h => numM_put rest b h s255) dv rest f6 l3
  unfold putL
  simp only [t1, t2, numM_put _ _ hb (by decide : (1 : Int) ≤ 4294967295), numM_put _ _ f5 s255, numM_put _ _ hu wideLe, t3, numM_put _ _ f7 s255, numM_put _ _ f8 s255, numM_put _ _ f9 s255]
  cases h <;> rfl
end Go.Proofs.Ytpaknjmcjblahaa.H
/-! ### Px2 -/
namespace Go.Proofs.Ytpaknjmcjblahaa.P
open Go.RowKit Go.Proofs.YtpaknjmcjblahaaW.PrintWords Go.Proofs.YtpaknjmcjblahaaW.PrintLast Go.Proofs.YtpaknjmcjblahaaW.PrintMore
set_option linter.unusedVariables false
set_option linter.unusedSimpArgs false
theorem eqA44 (d : Nat) (w : World) (x0 y0 : Int) (x1 y1 : Int) :
    (Op.equalIn (d + 2) 44 (.agg #[.int .i64 x0, .int .i64 x1]) (.agg #[.int .i64 y0, .int .i64 y1])).run Try.prog w = .ok (x0 == y0 && (x1 == y1)) w := by
  refine eqA_of Try.underlying44 (by kernel_rfl) ?_
  refine eqf_cons (by rfl) (by go_simp; rfl) (by go_simp; rfl) (by go_simp) ?_
  exact eqf_last (by rfl) (by go_simp; rfl) (by go_simp; rfl) (by go_simp)
end Go.Proofs.Ytpaknjmcjblahaa.P
/-! ### Px7 -/
namespace Go.Proofs.Ytpaknjmcjblahaa.P
open Go.RowKit Go.Proofs.YtpaknjmcjblahaaW.PrintWords Go.Proofs.YtpaknjmcjblahaaW.PrintLast Go.Proofs.YtpaknjmcjblahaaW.PrintMore
set_option linter.unusedVariables false
set_option linter.unusedSimpArgs false
attribute [local go_sem high] eqA29
def slices_Equal_int_int.l0 : Nat → List Int → List Int → Int → Int → Option (Bool)
  | 0, _, _, _, _ => none
  | k + 1, x0, x1, x12, x13 => if x13 < x12 then (if 0 ≤ x13 then (if x13 < (x0.length : Int) then (if x13 < (x1.length : Int) then (if (rd x0 x13) = (rd x1 x13) then (slices_Equal_int_int.l0 k x0 x1 x12 (wrap64 (x13 + 1))) else (some false)) else (none)) else (none)) else (none)) else (some true)
def slices_Equal_int_int.f (k : Nat) (l0 : List Int) (l1 : List Int) : Option (Bool) := if (l0.length : Int) = (l1.length : Int) then (slices_Equal_int_int.l0 k l0 l1 (l0.length : Int) 0) else (some false)
set_option maxHeartbeats 8000000 in
set_option maxRecDepth 100000 in
theorem slices_Equal_int_int.calls (k : Nat) (A0 : Option Addr) (c0 : Nat) (l0 : List Int) (A1 : Option Addr) (c1 : Nat) (l1 : List Int) (r : Bool) (w : World) (hr0 : Kd.C (Kd.int .i64) w A0 l0.length l0) (hc0 : l0.length ≤ c0) (hr1 : Kd.C (Kd.int .i64) w A1 l1.length l1) (hc1 : l1.length ≤ c1) (h : slices_Equal_int_int.f k l0 l1 = some r) :
    Calls Try.prog 50 #[.slice A0 l0.length c0, .slice A1 l1.length c1] w fun e w' => e = .returned (.bool r) ∧ Drawn0 w w' := by
  have HR0 := Aside0.mk hr0
  have HC0 := Aside0.mk hc0
  clear hr0 hc0
  have HR1 := Aside0.mk hr1
  have HC1 := Aside0.mk hc1
  clear hr1 hc1
  have H : (if (l0.length : Int) = (l1.length : Int) then (slices_Equal_int_int.l0 k l0 l1 (l0.length : Int) 0) else (some false)) = some r := h
  clear h
  by_cases c3 : (l0.length : Int) = (l1.length : Int)
  · rw [if_pos c3] at H
    have c3b0 : ((l0.length : Int) == (l1.length : Int)) = true := beq_iff_eq.mpr c3
    have c3b1 : ((l0.length : Int) != (l1.length : Int)) = false := bne_eq_false_iff_eq.mpr c3
    have c3b2 : (l0.length == l1.length) = true := by first | simpa using c3 | (simp at c3 ⊢; omega)
    clear c3
    have H' := Aside0.mk H
    clear H
    go_enter Try.func50, Try.ntmps50
    go_wp2
    repeat (go_quiet (fail); try go_wp2)
    go_loopg [13] k (fun kq v13 w' => ∃ (x13_1 : Int), v13 = .int .i64 x13_1 ∧ Aside0 (slices_Equal_int_int.l0 kq l0 l1 (l0.length : Int) x13_1 = some r) ∧ Aside0 (kq ≤ k) ∧ Drawn0 w w')
    case atStart => exact ⟨(0), (by first | rfl | (simp; done) | (simp [*]; done)), H', ⟨Nat.le_refl _⟩, by repeat (first | exact Drawn0.refl _ | apply Drawn0.step)⟩
    case round =>
      clear H'
      try clear c1
      try clear p2
      try clear c3
      try clear c3b0
      try clear c3b1
      try clear c3b2
      obtain ⟨x13_1, rfl, HA, HK1, ⟨m1, rfl⟩⟩ := hrel
      cases gk with
      | zero => exact absurd HA.out (by simp [slices_Equal_int_int.l0])
      | succ k1 =>
        have H := HA.out
        clear HA
        simp only [slices_Equal_int_int.l0] at H
        by_cases c4 : x13_1 < (l0.length : Int)
        · rw [if_pos c4] at H
          have c4b0 : decide (x13_1 < (l0.length : Int)) = true := decide_eq_true c4
          clear c4
          by_cases c5 : 0 ≤ x13_1
          · rw [if_pos c5] at H
            have c5b0 : decide (0 ≤ x13_1) = true := decide_eq_true c5
            clear c5
            by_cases c6 : x13_1 < (l0.length : Int)
            · rw [if_pos c6] at H
              have c6b0 : decide (x13_1 < (l0.length : Int)) = true := decide_eq_true c6
              clear c6
              by_cases c7 : x13_1 < (l1.length : Int)
              · rw [if_pos c7] at H
                have c7b0 : decide (x13_1 < (l1.length : Int)) = true := decide_eq_true c7
                clear c7
                by_cases c8 : (rd l0 x13_1) = (rd l1 x13_1)
                · rw [if_pos c8] at H
                  have c8b0 : ((rd l0 x13_1) == (rd l1 x13_1)) = true := beq_iff_eq.mpr c8
                  have c8b1 : ((rd l0 x13_1) != (rd l1 x13_1)) = false := bne_eq_false_iff_eq.mpr c8
                  clear c8
                  have H' := Aside0.mk H
                  clear H
                  have p274 : 0 ≤ (x13_1 : Int) := of_decide_eq_true (by first | (with_reducible assumption) | assumption)
                  have q274 : x13_1 < (l0.length : Int) := of_decide_eq_true (by first | (with_reducible assumption) | assumption)
                  obtain ⟨ad274, e274, hx274_0⟩ := Kd.at_int HR0.out x13_1 p274 q274
                  cases e274
                  replace p274 := eq_true p274
                  replace q274 := eq_true q274
                  have p275 : 0 ≤ (x13_1 : Int) := of_decide_eq_true (by first | (with_reducible assumption) | assumption)
                  have q275 : x13_1 < (l1.length : Int) := of_decide_eq_true (by first | (with_reducible assumption) | assumption)
                  obtain ⟨ad275, e275, hx275_0⟩ := Kd.at_int HR1.out x13_1 p275 q275
                  cases e275
                  replace p275 := eq_true p275
                  replace q275 := eq_true q275
                  go_wp2
                  repeat (go_quiet (fail); try go_wp2)
                  go_roundg k1
                  case measure => have := HK1.out; omega
                  case rel => exact ⟨(wrap64 (x13_1 + 1)), (by first | rfl | (simp; done) | (simp [*]; done)), H', ⟨by have := HK1.out; omega⟩, by repeat (first | exact Drawn0.refl _ | apply Drawn0.step)⟩
                · rw [if_neg c8] at H
                  have c8b0 : ((rd l0 x13_1) == (rd l1 x13_1)) = false := beq_eq_false_iff_ne.mpr c8
                  have c8b1 : ((rd l0 x13_1) != (rd l1 x13_1)) = true := bne_iff_ne.mpr c8
                  obtain rfl := Option.some.inj H
                  have p274 : 0 ≤ (x13_1 : Int) := of_decide_eq_true (by first | (with_reducible assumption) | assumption)
                  have q274 : x13_1 < (l0.length : Int) := of_decide_eq_true (by first | (with_reducible assumption) | assumption)
                  obtain ⟨ad274, e274, hx274_0⟩ := Kd.at_int HR0.out x13_1 p274 q274
                  cases e274
                  replace p274 := eq_true p274
                  replace q274 := eq_true q274
                  have p275 : 0 ≤ (x13_1 : Int) := of_decide_eq_true (by first | (with_reducible assumption) | assumption)
                  have q275 : x13_1 < (l1.length : Int) := of_decide_eq_true (by first | (with_reducible assumption) | assumption)
                  obtain ⟨ad275, e275, hx275_0⟩ := Kd.at_int HR1.out x13_1 p275 q275
                  cases e275
                  replace p275 := eq_true p275
                  replace q275 := eq_true q275
                  go_wp2
                  repeat (go_quiet (fail); try go_wp2)
                  go_ret
                  exact ⟨by first | rfl | (simp; done) | (simp [*]; done), by repeat (first | exact Drawn0.refl _ | apply Drawn0.step)⟩
              · rw [if_neg c7] at H
                exact absurd H (by simp)
            · rw [if_neg c6] at H
              exact absurd H (by simp)
          · rw [if_neg c5] at H
            exact absurd H (by simp)
        · rw [if_neg c4] at H
          have c4b0 : decide (x13_1 < (l0.length : Int)) = false := decide_eq_false c4
          clear c4
          obtain rfl := Option.some.inj H
          go_wp2
          repeat (go_quiet (fail); try go_wp2)
          go_ret
          exact ⟨by first | rfl | (simp; done) | (simp [*]; done), by repeat (first | exact Drawn0.refl _ | apply Drawn0.step)⟩
  · rw [if_neg c3] at H
    have c3b0 : ((l0.length : Int) == (l1.length : Int)) = false := beq_eq_false_iff_ne.mpr c3
    have c3b1 : ((l0.length : Int) != (l1.length : Int)) = true := bne_iff_ne.mpr c3
    have c3b2 : (l0.length == l1.length) = false := by first | simpa using c3 | (simp at c3 ⊢; omega)
    obtain rfl := Option.some.inj H
    go_enter Try.func50, Try.ntmps50
    go_wp2
    repeat (go_quiet (fail); try go_wp2)
    go_ret
    exact ⟨by first | rfl | (simp; done) | (simp [*]; done), by repeat (first | exact Drawn0.refl _ | apply Drawn0.step)⟩
def api_Rule_51.l0 : Nat → List (S29) → List (S29) → Int → Int → Option (Bool)
  | 0, _, _, _, _ => none
  | k + 1, x0, x1, x12, x13 => if x13 < x12 then (if 0 ≤ x13 then (if x13 < (x0.length : Int) then (if x13 < (x1.length : Int) then (if (!(((rd_T29 x0 x13).f0) == ((rd_T29 x1 x13).f0)) || (!(((rd_T29 x0 x13).f1) == ((rd_T29 x1 x13).f1)) || (!(((rd_T29 x0 x13).f2) == ((rd_T29 x1 x13).f2)) || (!(((rd_T29 x0 x13).f3) == ((rd_T29 x1 x13).f3)) || ((!(((rd_T29 x0 x13).f4.f0) == ((rd_T29 x1 x13).f4.f0)) || (!(((rd_T29 x0 x13).f4.f1) == ((rd_T29 x1 x13).f4.f1)))) || (!(((rd_T29 x0 x13).f5) == ((rd_T29 x1 x13).f5)))))))) = true then (some false) else (api_Rule_51.l0 k x0 x1 x12 (wrap64 (x13 + 1)))) else (none)) else (none)) else (none)) else (some true)
def api_Rule_51.f (k : Nat) (l0 : List (S29)) (l1 : List (S29)) : Option (Bool) := if (l0.length : Int) = (l1.length : Int) then (api_Rule_51.l0 k l0 l1 (l0.length : Int) 0) else (some false)
set_option maxHeartbeats 8000000 in
set_option maxRecDepth 100000 in
theorem api_Rule_51.calls (k : Nat) (A0 : Option Addr) (c0 : Nat) (l0 : List (S29)) (A1 : Option Addr) (c1 : Nat) (l1 : List (S29)) (r : Bool) (w : World) (hr0 : Kd.C k29 w A0 l0.length l0) (hc0 : l0.length ≤ c0) (hr1 : Kd.C k29 w A1 l1.length l1) (hc1 : l1.length ≤ c1) (h : api_Rule_51.f k l0 l1 = some r) :
    Calls Try.prog 51 #[.slice A0 l0.length c0, .slice A1 l1.length c1] w fun e w' => e = .returned (.bool r) ∧ Drawn0 w w' := by
  have hu29 := Try.underlying29
  have HR0 := Aside0.mk hr0
  have HC0 := Aside0.mk hc0
  clear hr0 hc0
  have HR1 := Aside0.mk hr1
  have HC1 := Aside0.mk hc1
  clear hr1 hc1
  have H : (if (l0.length : Int) = (l1.length : Int) then (api_Rule_51.l0 k l0 l1 (l0.length : Int) 0) else (some false)) = some r := h
  clear h
  by_cases c3 : (l0.length : Int) = (l1.length : Int)
  · rw [if_pos c3] at H
    have c3b0 : ((l0.length : Int) == (l1.length : Int)) = true := beq_iff_eq.mpr c3
    have c3b1 : ((l0.length : Int) != (l1.length : Int)) = false := bne_eq_false_iff_eq.mpr c3
    have c3b2 : (l0.length == l1.length) = true := by first | simpa using c3 | (simp at c3 ⊢; omega)
    clear c3
    have H' := Aside0.mk H
    clear H
    go_enter Try.func51, Try.ntmps51
    go_wp2
    repeat (go_quiet (fail); try go_wp2)
    go_loopg [13] k (fun kq v13 w' => ∃ (x13_1 : Int), v13 = .int .i64 x13_1 ∧ Aside0 (api_Rule_51.l0 kq l0 l1 (l0.length : Int) x13_1 = some r) ∧ Aside0 (kq ≤ k) ∧ Drawn0 w w')
    case atStart => exact ⟨(0), (by first | rfl | (simp; done) | (simp [*]; done)), H', ⟨Nat.le_refl _⟩, by repeat (first | exact Drawn0.refl _ | apply Drawn0.step)⟩
    case round =>
      clear H'
      try clear c1
      try clear p2
      try clear c3
      try clear c3b0
      try clear c3b1
      try clear c3b2
      obtain ⟨x13_1, rfl, HA, HK1, ⟨m1, rfl⟩⟩ := hrel
      cases gk with
      | zero => exact absurd HA.out (by simp [api_Rule_51.l0])
      | succ k1 =>
        have H := HA.out
        clear HA
        simp only [api_Rule_51.l0] at H
        by_cases c4 : x13_1 < (l0.length : Int)
        · rw [if_pos c4] at H
          have c4b0 : decide (x13_1 < (l0.length : Int)) = true := decide_eq_true c4
          clear c4
          by_cases c5 : 0 ≤ x13_1
          · rw [if_pos c5] at H
            have c5b0 : decide (0 ≤ x13_1) = true := decide_eq_true c5
            clear c5
            by_cases c6 : x13_1 < (l0.length : Int)
            · rw [if_pos c6] at H
              have c6b0 : decide (x13_1 < (l0.length : Int)) = true := decide_eq_true c6
              clear c6
              by_cases c7 : x13_1 < (l1.length : Int)
              · rw [if_pos c7] at H
                have c7b0 : decide (x13_1 < (l1.length : Int)) = true := decide_eq_true c7
                clear c7
                by_cases c8 : (!(((rd_T29 l0 x13_1).f0) == ((rd_T29 l1 x13_1).f0)) || (!(((rd_T29 l0 x13_1).f1) == ((rd_T29 l1 x13_1).f1)) || (!(((rd_T29 l0 x13_1).f2) == ((rd_T29 l1 x13_1).f2)) || (!(((rd_T29 l0 x13_1).f3) == ((rd_T29 l1 x13_1).f3)) || ((!(((rd_T29 l0 x13_1).f4.f0) == ((rd_T29 l1 x13_1).f4.f0)) || (!(((rd_T29 l0 x13_1).f4.f1) == ((rd_T29 l1 x13_1).f4.f1)))) || (!(((rd_T29 l0 x13_1).f5) == ((rd_T29 l1 x13_1).f5)))))))) = true
                · rw [if_pos c8] at H
                  have c8b0 : (!(((rd_T29 l0 x13_1).f0) == ((rd_T29 l1 x13_1).f0)) || (!(((rd_T29 l0 x13_1).f1) == ((rd_T29 l1 x13_1).f1)) || (!(((rd_T29 l0 x13_1).f2) == ((rd_T29 l1 x13_1).f2)) || (!(((rd_T29 l0 x13_1).f3) == ((rd_T29 l1 x13_1).f3)) || ((!(((rd_T29 l0 x13_1).f4.f0) == ((rd_T29 l1 x13_1).f4.f0)) || (!(((rd_T29 l0 x13_1).f4.f1) == ((rd_T29 l1 x13_1).f4.f1)))) || (!(((rd_T29 l0 x13_1).f5) == ((rd_T29 l1 x13_1).f5)))))))) = true := c8
                  clear c8
                  obtain rfl := Option.some.inj H
                  have p276 : 0 ≤ (x13_1 : Int) := of_decide_eq_true (by first | (with_reducible assumption) | assumption)
                  have q276 : x13_1 < (l0.length : Int) := of_decide_eq_true (by first | (with_reducible assumption) | assumption)
                  obtain ⟨ad276, e276, hx276_0, hx276_1, hx276_2, hx276_3, hx276_4, hx276_5, hx276_6⟩ := at_T29 HR0.out x13_1 p276 q276
                  cases e276
                  replace p276 := eq_true p276
                  replace q276 := eq_true q276
                  have p277 : 0 ≤ (x13_1 : Int) := of_decide_eq_true (by first | (with_reducible assumption) | assumption)
                  have q277 : x13_1 < (l1.length : Int) := of_decide_eq_true (by first | (with_reducible assumption) | assumption)
                  obtain ⟨ad277, e277, hx277_0, hx277_1, hx277_2, hx277_3, hx277_4, hx277_5, hx277_6⟩ := at_T29 HR1.out x13_1 p277 q277
                  cases e277
                  replace p277 := eq_true p277
                  replace q277 := eq_true q277
                  go_wp2
                  repeat (go_quiet (fail); try go_wp2)
                  go_ret
                  exact ⟨by first | rfl | (simp; done) | (simp [*]; done), by repeat (first | exact Drawn0.refl _ | apply Drawn0.step)⟩
                · rw [if_neg c8] at H
                  have c8b0 : (!(((rd_T29 l0 x13_1).f0) == ((rd_T29 l1 x13_1).f0)) || (!(((rd_T29 l0 x13_1).f1) == ((rd_T29 l1 x13_1).f1)) || (!(((rd_T29 l0 x13_1).f2) == ((rd_T29 l1 x13_1).f2)) || (!(((rd_T29 l0 x13_1).f3) == ((rd_T29 l1 x13_1).f3)) || ((!(((rd_T29 l0 x13_1).f4.f0) == ((rd_T29 l1 x13_1).f4.f0)) || (!(((rd_T29 l0 x13_1).f4.f1) == ((rd_T29 l1 x13_1).f4.f1)))) || (!(((rd_T29 l0 x13_1).f5) == ((rd_T29 l1 x13_1).f5)))))))) = false := by simpa using c8
                  clear c8
                  have H' := Aside0.mk H
                  clear H
                  have p276 : 0 ≤ (x13_1 : Int) := of_decide_eq_true (by first | (with_reducible assumption) | assumption)
                  have q276 : x13_1 < (l0.length : Int) := of_decide_eq_true (by first | (with_reducible assumption) | assumption)
                  obtain ⟨ad276, e276, hx276_0, hx276_1, hx276_2, hx276_3, hx276_4, hx276_5, hx276_6⟩ := at_T29 HR0.out x13_1 p276 q276
                  cases e276
                  replace p276 := eq_true p276
                  replace q276 := eq_true q276
                  have p277 : 0 ≤ (x13_1 : Int) := of_decide_eq_true (by first | (with_reducible assumption) | assumption)
                  have q277 : x13_1 < (l1.length : Int) := of_decide_eq_true (by first | (with_reducible assumption) | assumption)
                  obtain ⟨ad277, e277, hx277_0, hx277_1, hx277_2, hx277_3, hx277_4, hx277_5, hx277_6⟩ := at_T29 HR1.out x13_1 p277 q277
                  cases e277
                  replace p277 := eq_true p277
                  replace q277 := eq_true q277
                  go_wp2
                  repeat (go_quiet (fail); try go_wp2)
                  go_roundg k1
                  case measure => have := HK1.out; omega
                  case rel => exact ⟨(wrap64 (x13_1 + 1)), (by first | rfl | (simp; done) | (simp [*]; done)), H', ⟨by have := HK1.out; omega⟩, by repeat (first | exact Drawn0.refl _ | apply Drawn0.step)⟩
              · rw [if_neg c7] at H
                exact absurd H (by simp)
            · rw [if_neg c6] at H
              exact absurd H (by simp)
          · rw [if_neg c5] at H
            exact absurd H (by simp)
        · rw [if_neg c4] at H
          have c4b0 : decide (x13_1 < (l0.length : Int)) = false := decide_eq_false c4
          clear c4
          obtain rfl := Option.some.inj H
          go_wp2
          repeat (go_quiet (fail); try go_wp2)
          go_ret
          exact ⟨by first | rfl | (simp; done) | (simp [*]; done), by repeat (first | exact Drawn0.refl _ | apply Drawn0.step)⟩
  · rw [if_neg c3] at H
    have c3b0 : ((l0.length : Int) == (l1.length : Int)) = false := beq_eq_false_iff_ne.mpr c3
    have c3b1 : ((l0.length : Int) != (l1.length : Int)) = true := bne_iff_ne.mpr c3
    have c3b2 : (l0.length == l1.length) = false := by first | simpa using c3 | (simp at c3 ⊢; omega)
    obtain rfl := Option.some.inj H
    go_enter Try.func51, Try.ntmps51
    go_wp2
    repeat (go_quiet (fail); try go_wp2)
    go_ret
    exact ⟨by first | rfl | (simp; done) | (simp [*]; done), by repeat (first | exact Drawn0.refl _ | apply Drawn0.step)⟩
end Go.Proofs.Ytpaknjmcjblahaa.P
/-! ### WirG -/
namespace Go.Proofs.Ytpaknjmcjblahaa.H
open Go.RowKit Go.Proofs.Ytpaknjmcjblahaa.P Go.Proofs.YtpaknjmcjblahaaW.PrintWords Go.Proofs.YtpaknjmcjblahaaW.PrintLast Go.Proofs.YtpaknjmcjblahaaW.PrintMore
set_option linter.unusedVariables false
set_option linter.unusedSimpArgs false
set_option maxRecDepth 20000
def sameL {α : Type} (q : α → α → Bool) : List α → List α → Bool
  | [], [] => true
  | x :: xs, y :: ys => q x y && sameL q xs ys
  | _, _ => false
theorem sameL_iff {α : Type} {q : α → α → Bool} (hq : ∀ x y, q x y = true ↔ x = y) : ∀ l m : List α, sameL q l m = true ↔ l = m
  | [], [] => by simp [sameL]
  | [], y :: ys => by simp [sameL]
  | x :: xs, [] => by simp [sameL]
  | x :: xs, y :: ys => by
    rw [sameL, Bool.and_eq_true, hq, sameL_iff hq xs ys]
    exact ⟨fun ⟨a, b⟩ => by rw [a, b], fun h => by injection h with a b; exact ⟨a, b⟩⟩
theorem sameL_len {α : Type} {q : α → α → Bool} : ∀ l m : List α, l.length ≠ m.length → sameL q l m = false
  | [], [], h => absurd rfl h
  | [], y :: ys, _ => rfl
  | x :: xs, [], _ => rfl
  | x :: xs, y :: ys, h => by
    rw [sameL, sameL_len xs ys (by simp only [List.length_cons] at h; omega), Bool.and_false]
def neRu (x y : Ru) : Bool := !(x.f0 == y.f0) || (!(x.f1 == y.f1) || (!(x.f2 == y.f2) || (!(x.f3 == y.f3) || ((!(x.f4.f0 == y.f4.f0) || (!(x.f4.f1 == y.f4.f1))) || (!(x.f5 == y.f5))))))
def eqRu (x y : Ru) : Bool := !neRu x y
theorem eqRu_iff (x y : Ru) : eqRu x y = true ↔ x = y := by
  obtain ⟨a, b, c, d, ⟨e, f⟩, g⟩ := x
  obtain ⟨a', b', c', d', ⟨e', f'⟩, g'⟩ := y
  unfold eqRu neRu
  simp only [Bool.not_eq_true', Bool.or_eq_false_iff, Bool.not_eq_false', beq_iff_eq]
  constructor
  · rintro ⟨rfl, rfl, rfl, rfl, ⟨rfl, rfl⟩, rfl⟩; rfl
  · intro h
    injection h with h1 h2 h3 h4 h5 h6
    injection h5 with h5 h7
    exact ⟨h1, h2, h3, h4, ⟨h5, h7⟩, h6⟩
def eqI (x y : Int) : Bool := x == y
theorem eqI_iff (x y : Int) : eqI x y = true ↔ x = y := beq_iff_eq
theorem rdR_app (A B : List Ru) (p : Ru) : rd_T29 (A ++ p :: B) (A.length : Int) = p := by
  unfold rd_T29
  rw [Int.toNat_natCast, List.getD_eq_getElem?_getD, List.getElem?_append_right (Nat.le_refl _), Nat.sub_self]; rfl
theorem eqI_l0 : ∀ (B B' A A' : List Int), A.length = A'.length → B.length = B'.length → (A ++ B).length ≤ 1000000 →
    Ev (fun k => slices_Equal_int_int.l0 k (A ++ B) (A' ++ B') ((A ++ B).length : Int) (A.length : Int)) (sameL eqI B B')
  | [], [], A, A', h, _, hl => by
    refine Ev.step (fun k => by rw [slices_Equal_int_int.l0]) ?_
    simp only [List.append_nil, Int.lt_irrefl, if_false]
    exact Ev.now _
  | p :: B, p' :: B', A, A', h, hb, hl => by
    have hl2 : A.length + (B.length + 1) ≤ 1000000 := by rw [List.length_append, List.length_cons] at hl; exact hl
    have hb2 : B.length = B'.length := by simpa using hb
    have h1 : ((A.length : Nat) : Int) < ((A ++ p :: B).length : Int) := by rw [List.length_append, List.length_cons]; omega
    have h2 : ((A.length : Nat) : Int) < ((A' ++ p' :: B').length : Int) := by rw [List.length_append, List.length_cons, h]; omega
    have h0 : (0 : Int) ≤ (A.length : Int) := by omega
    have hw := wr1 A.length (by omega)
    have r2 : rd (A' ++ p' :: B') (A.length : Int) = p' := by rw [h]; exact rdI_app A' B' p'
    refine Ev.step (fun k => by rw [slices_Equal_int_int.l0]) ?_
    simp only [h1, h2, h0, if_true, rdI_app, r2, hw]
    by_cases c1 : p = p'
    · subst c1
      simp only [if_true]
      have ih := eqI_l0 B B' (A ++ [p]) (A' ++ [p]) (by simp [h]) hb2 (by rw [List.append_assoc]; exact hl)
      rw [show (A ++ [p]) ++ B = A ++ p :: B from by simp, show (A' ++ [p]) ++ B' = A' ++ p :: B' from by simp, show (A ++ [p]).length = A.length + 1 from by simp] at ih
      refine evCast ih ?_
      rw [sameL, show eqI p p = true from by simp [eqI], Bool.true_and]
    · simp only [c1, if_false]
      exact evCast (Ev.now _) (by rw [sameL, show eqI p p' = false from by simp [eqI, c1], Bool.false_and])
  | [], _ :: _, _, _, _, hb, _ => by simp at hb
  | _ :: _, [], _, _, _, hb, _ => by simp at hb
theorem eqI_f (l m : List Int) (hl : l.length ≤ 1000000) : Ev (fun k => slices_Equal_int_int.f k l m) (sameL eqI l m) := by
  unfold slices_Equal_int_int.f
  by_cases h : l.length = m.length
  · have h' : (l.length : Int) = (m.length : Int) := by omega
    simp only [if_pos h']
    exact eqI_l0 l m [] [] rfl h (by simpa using hl)
  · have h' : ¬ (l.length : Int) = (m.length : Int) := by omega
    simp only [if_neg h', sameL_len l m h]
    exact Ev.now _
theorem eqR_l0 : ∀ (B B' A A' : List Ru), A.length = A'.length → B.length = B'.length → (A ++ B).length ≤ 1000000 →
    Ev (fun k => api_Rule_51.l0 k (A ++ B) (A' ++ B') ((A ++ B).length : Int) (A.length : Int)) (sameL eqRu B B')
  | [], [], A, A', h, _, hl => by
    refine Ev.step (fun k => by rw [api_Rule_51.l0]) ?_
    simp only [List.append_nil, Int.lt_irrefl, if_false]
    exact Ev.now _
  | p :: B, p' :: B', A, A', h, hb, hl => by
    have hl2 : A.length + (B.length + 1) ≤ 1000000 := by rw [List.length_append, List.length_cons] at hl; exact hl
    have hb2 : B.length = B'.length := by simpa using hb
    have h1 : ((A.length : Nat) : Int) < ((A ++ p :: B).length : Int) := by rw [List.length_append, List.length_cons]; omega
    have h2 : ((A.length : Nat) : Int) < ((A' ++ p' :: B').length : Int) := by rw [List.length_append, List.length_cons, h]; omega
    have h0 : (0 : Int) ≤ (A.length : Int) := by omega
    have hw := wr1 A.length (by omega)
    have r2 : rd_T29 (A' ++ p' :: B') (A.length : Int) = p' := by rw [h]; exact rdR_app A' B' p'
    refine Ev.step (fun k => by rw [api_Rule_51.l0]) ?_
    simp only [h1, h2, h0, if_true, rdR_app, r2, hw]
    have hne := show (!(p.f0 == p'.f0) || (!(p.f1 == p'.f1) || (!(p.f2 == p'.f2) || (!(p.f3 == p'.f3) || ((!(p.f4.f0 == p'.f4.f0) || (!(p.f4.f1 == p'.f4.f1))) || (!(p.f5 == p'.f5))))))) = neRu p p' from rfl
    rw [hne, sameL]
    unfold eqRu
    cases neRu p p' with
    | true => exact Ev.now _
    | false =>
      simp only [Bool.false_eq_true, if_false, Bool.not_false, Bool.true_and]
      have ih := eqR_l0 B B' (A ++ [p]) (A' ++ [p']) (by simp [h]) hb2 (by rw [List.append_assoc]; exact hl)
      rw [show (A ++ [p]) ++ B = A ++ p :: B from by simp, show (A' ++ [p']) ++ B' = A' ++ p' :: B' from by simp, show (A ++ [p]).length = A.length + 1 from by simp] at ih
      exact ih
  | [], _ :: _, _, _, _, hb, _ => by simp at hb
  | _ :: _, [], _, _, _, hb, _ => by simp at hb
theorem eqR_f (l m : List Ru) (hl : l.length ≤ 1000000) : Ev (fun k => api_Rule_51.f k l m) (sameL eqRu l m) := by
  unfold api_Rule_51.f
  by_cases h : l.length = m.length
  · have h' : (l.length : Int) = (m.length : Int) := by omega
    simp only [if_pos h']
    exact eqR_l0 l m [] [] rfl h (by simpa using hl)
  · have h' : ¬ (l.length : Int) = (m.length : Int) := by omega
    simp only [if_neg h', sameL_len l m h]
    exact Ev.now _
def sameB (r s : Rs) : Bool :=
  sameL eqI r.ids s.ids && (sameL eqRu r.rules s.rules && ((sameL eqI r.dv s.dv && ((r.ft == s.ft) && (r.od == s.od && r.op == s.op))) && ((r.h == s.h) && (r.fr == s.fr && r.ad == s.ad)) && ((r.e == s.e) && (r.n == s.n))))
theorem sameB_iff (r s : Rs) : sameB r s = true ↔ r = s := by
  obtain ⟨a1, a2, a3, a4, a5, a6, a7, a8, a9, a10, a11⟩ := r
  obtain ⟨b1, b2, b3, b4, b5, b6, b7, b8, b9, b10, b11⟩ := s
  unfold sameB
  simp only [Bool.and_eq_true, sameL_iff eqI_iff, sameL_iff eqRu_iff, beq_iff_eq]
  constructor
  · rintro ⟨rfl, rfl, ⟨⟨rfl, rfl, rfl, rfl⟩, rfl, rfl, rfl⟩, rfl, rfl⟩; rfl
  · intro h
    injection h with h1 h2 h3 h4 h5 h6 h7 h8 h9 h10 h11
    exact ⟨h3, h4, ⟨⟨h8, h9, h10, h11⟩, h5, h6, h7⟩, h1, h2⟩
end Go.Proofs.Ytpaknjmcjblahaa.H
/-! ### WirH -/
namespace Go.Proofs.Ytpaknjmcjblahaa.H
open Go.RowKit Go.Proofs.Ytpaknjmcjblahaa.P Go.Proofs.YtpaknjmcjblahaaW.PrintWords Go.Proofs.YtpaknjmcjblahaaW.PrintLast Go.Proofs.YtpaknjmcjblahaaW.PrintMore
attribute [local go_sem high] eqA44
set_option linter.unusedVariables false
set_option linter.unusedSimpArgs false
set_option maxRecDepth 20000
theorem eqI_any (A : Option Addr) (c : Nat) (l : List Int) (B : Option Addr) (d : Nat) (m : List Int) (hl : l.length ≤ 1000000) (W : World) (hA : Kd.C (Kd.int .i64) W A l.length l) (hc : l.length ≤ c) (hB : Kd.C (Kd.int .i64) W B m.length m) (hd : m.length ≤ d) :
    Calls Try.prog 50 #[.slice A l.length c, .slice B m.length d] W fun e w' => e = .returned (.bool (sameL eqI l m)) ∧ Below W.heap.size W w' := by
  obtain ⟨n, hn⟩ := (eqI_f l m hl).rounds
  refine (slices_Equal_int_int.calls n A c l B d m _ W hA hc hB hd hn).mono ?_
  rintro e w' ⟨rfl, ⟨m, rfl⟩⟩
  exact ⟨rfl, below_drewN (Below.refl _ _) m⟩
theorem eqR_any (A : Option Addr) (c : Nat) (l : List Ru) (B : Option Addr) (d : Nat) (m : List Ru) (hl : l.length ≤ 1000000) (W : World) (hA : Kd.C k29 W A l.length l) (hc : l.length ≤ c) (hB : Kd.C k29 W B m.length m) (hd : m.length ≤ d) :
    Calls Try.prog 51 #[.slice A l.length c, .slice B m.length d] W fun e w' => e = .returned (.bool (sameL eqRu l m)) ∧ Below W.heap.size W w' := by
  obtain ⟨n, hn⟩ := (eqR_f l m hl).rounds
  refine (api_Rule_51.calls n A c l B d m _ W hA hc hB hd hn).mono ?_
  rintro e w' ⟨rfl, ⟨m, rfl⟩⟩
  exact ⟨rfl, below_drewN (Below.refl _ _) m⟩
set_option maxHeartbeats 8000000 in
theorem same_flat (xe xn : Int) (xids : List Int) (xrules : List Ru) (xh : Bool) (xfr xad : Int) (xdv : List Int) (xft xod xop : Int) (xA2 : Option Addr) (xc2 : Nat) (xA3 : Option Addr) (xc3 : Nat) (xA7 : Option Addr) (xc7 : Nat) (ye yn : Int) (yids : List Int) (yrules : List Ru) (yh : Bool) (yfr yad : Int) (ydv : List Int) (yft yod yop : Int) (yA2 : Option Addr) (yc2 : Nat) (yA3 : Option Addr) (yc3 : Nat) (yA7 : Option Addr) (yc7 : Nat) (w : World) (xh2 : Kd.C (Kd.int .i64) w xA2 xids.length xids) (xg2 : xids.length ≤ xc2) (xh3 : Kd.C k29 w xA3 xrules.length xrules) (xg3 : xrules.length ≤ xc3) (xh7 : Kd.C (Kd.int .i64) w xA7 xdv.length xdv) (xg7 : xdv.length ≤ xc7) (yh2 : Kd.C (Kd.int .i64) w yA2 yids.length yids) (yg2 : yids.length ≤ yc2) (yh3 : Kd.C k29 w yA3 yrules.length yrules) (yg3 : yrules.length ≤ yc3) (yh7 : Kd.C (Kd.int .i64) w yA7 ydv.length ydv) (yg7 : ydv.length ≤ yc7) (l1 : xids.length ≤ 1000000) (l2 : xrules.length ≤ 1000000) (l3 : xdv.length ≤ 1000000) :
    Calls Try.prog 21 #[.agg #[.int .i64 xe, .int .i64 xn, .slice xA2 xids.length xc2, .slice xA3 xrules.length xc3, .bool xh, .int .i64 xfr, .int .u32 xad, .slice xA7 xdv.length xc7, .int .i64 xft, .int .i64 xod, .int .i64 xop], .agg #[.int .i64 ye, .int .i64 yn, .slice yA2 yids.length yc2, .slice yA3 yrules.length yc3, .bool yh, .int .i64 yfr, .int .u32 yad, .slice yA7 ydv.length yc7, .int .i64 yft, .int .i64 yod, .int .i64 yop]] w fun e w' => e = .returned (.bool (sameB ⟨xe, xn, xids, xrules, xh, xfr, xad, xdv, xft, xod, xop⟩ ⟨ye, yn, yids, yrules, yh, yfr, yad, ydv, yft, yod, yop⟩)) ∧ Below w.heap.size w w' := by
  have C1 := Aside0.mk (fun (W : World) (hb : Below w.heap.size w W) => eqI_any xA2 xc2 xids yA2 yc2 yids l1 W (Kd.C_below xh2 hb) xg2 (Kd.C_below yh2 hb) yg2)
  have C2 := Aside0.mk (fun (W : World) (hb : Below w.heap.size w W) => eqR_any xA3 xc3 xrules yA3 yc3 yrules l2 W (Kd.C_below xh3 hb) xg3 (Kd.C_below yh3 hb) yg3)
  have C3 := Aside0.mk (fun (W : World) (hb : Below w.heap.size w W) => eqI_any xA7 xc7 xdv yA7 yc7 ydv l3 W (Kd.C_below xh7 hb) xg7 (Kd.C_below yh7 hb) yg7)
  clear xh2 xg2 xh3 xg3 xh7 xg7 yh2 yg2 yh3 yg3 yh7 yg7 l1 l2 l3
  have FB := Aside0.mk (show sameB ⟨xe, xn, xids, xrules, xh, xfr, xad, xdv, xft, xod, xop⟩ ⟨ye, yn, yids, yrules, yh, yfr, yad, ydv, yft, yod, yop⟩ = (sameL eqI xids yids && (sameL eqRu xrules yrules && ((sameL eqI xdv ydv && ((xft == yft) && (xod == yod && xop == yop))) && ((xh == yh) && (xfr == yfr && xad == yad)) && ((xe == ye) && (xn == yn))))) from rfl)
  generalize sameB ⟨xe, xn, xids, xrules, xh, xfr, xad, xdv, xft, xod, xop⟩ ⟨ye, yn, yids, yrules, yh, yfr, yad, ydv, yft, yod, yop⟩ = FR at *
  generalize sameL eqI xids yids = i1 at *
  generalize sameL eqRu xrules yrules = i2 at *
  generalize sameL eqI xdv ydv = i3 at *
  obtain ⟨be, beh⟩ : ∃ b, (xe == ye) = b := ⟨_, rfl⟩
  rw [beh] at FB
  obtain ⟨bn, bnh⟩ : ∃ b, (xn == yn) = b := ⟨_, rfl⟩
  rw [bnh] at FB
  obtain ⟨bh, bhh⟩ : ∃ b, (xh == yh) = b := ⟨_, rfl⟩
  rw [bhh] at FB
  obtain ⟨bf, bfh⟩ : ∃ b, (xfr == yfr) = b := ⟨_, rfl⟩
  rw [bfh] at FB
  obtain ⟨ba, bah⟩ : ∃ b, (xad == yad) = b := ⟨_, rfl⟩
  rw [bah] at FB
  obtain ⟨bt, bth⟩ : ∃ b, (xft == yft) = b := ⟨_, rfl⟩
  rw [bth] at FB
  obtain ⟨bd, bdh⟩ : ∃ b, (xod == yod) = b := ⟨_, rfl⟩
  rw [bdh] at FB
  obtain ⟨bp, bph⟩ : ∃ b, (xop == yop) = b := ⟨_, rfl⟩
  rw [bph] at FB
  go_enter Try.func21, Try.ntmps21
  try dsimp only
  repeat ((fail_if_success (show Code.wp _ (Code.seq (Code.region 1 _ _) _) _ _ _)); (first | go_values | go_skip | go_guarded | go_step | go_upon | go_back))
  have hb1 := (Below.refl w.heap.size w).alloc (Nat.le_refl _) (.cells #[.int .i64 xe, .int .i64 xn, .slice xA2 xids.length xc2, .slice xA3 xrules.length xc3, .bool xh, .int .i64 xfr, .int .u32 xad, .slice xA7 xdv.length xc7, .int .i64 xft, .int .i64 xod, .int .i64 xop] 50)
  have hb2 := (Below.refl (w.alloc (.cells #[.int .i64 xe, .int .i64 xn, .slice xA2 xids.length xc2, .slice xA3 xrules.length xc3, .bool xh, .int .i64 xfr, .int .u32 xad, .slice xA7 xdv.length xc7, .int .i64 xft, .int .i64 xod, .int .i64 xop] 50)).heap.size (w.alloc (.cells #[.int .i64 xe, .int .i64 xn, .slice xA2 xids.length xc2, .slice xA3 xrules.length xc3, .bool xh, .int .i64 xfr, .int .u32 xad, .slice xA7 xdv.length xc7, .int .i64 xft, .int .i64 xod, .int .i64 xop] 50))).alloc (Nat.le_refl _) (.cells #[.int .i64 ye, .int .i64 yn, .slice yA2 yids.length yc2, .slice yA3 yrules.length yc3, .bool yh, .int .i64 yfr, .int .u32 yad, .slice yA7 ydv.length yc7, .int .i64 yft, .int .i64 yod, .int .i64 yop] 50)
  have KX := Aside0.mk (blk_below (blk_new w (.cells #[.int .i64 xe, .int .i64 xn, .slice xA2 xids.length xc2, .slice xA3 xrules.length xc3, .bool xh, .int .i64 xfr, .int .u32 xad, .slice xA7 xdv.length xc7, .int .i64 xft, .int .i64 xod, .int .i64 xop] 50)) hb2)
  have KY := Aside0.mk (show ((w.alloc (.cells #[.int .i64 xe, .int .i64 xn, .slice xA2 xids.length xc2, .slice xA3 xrules.length xc3, .bool xh, .int .i64 xfr, .int .u32 xad, .slice xA7 xdv.length xc7, .int .i64 xft, .int .i64 xod, .int .i64 xop] 50)).alloc (.cells #[.int .i64 ye, .int .i64 yn, .slice yA2 yids.length yc2, .slice yA3 yrules.length yc3, .bool yh, .int .i64 yfr, .int .u32 yad, .slice yA7 ydv.length yc7, .int .i64 yft, .int .i64 yod, .int .i64 yop] 50)).heap[w.heap.size + 1]? = some (.cells #[.int .i64 ye, .int .i64 yn, .slice yA2 yids.length yc2, .slice yA3 yrules.length yc3, .bool yh, .int .i64 yfr, .int .u32 yad, .slice yA7 ydv.length yc7, .int .i64 yft, .int .i64 yod, .int .i64 yop] 50 (0, 0)) from by have := blk_new (w.alloc (.cells #[.int .i64 xe, .int .i64 xn, .slice xA2 xids.length xc2, .slice xA3 xrules.length xc3, .bool xh, .int .i64 xfr, .int .u32 xad, .slice xA7 xdv.length xc7, .int .i64 xft, .int .i64 xod, .int .i64 xop] 50)) (.cells #[.int .i64 ye, .int .i64 yn, .slice yA2 yids.length yc2, .slice yA3 yrules.length yc3, .bool yh, .int .i64 yfr, .int .u32 yad, .slice yA7 ydv.length yc7, .int .i64 yft, .int .i64 yod, .int .i64 yop] 50); rw [World.size_alloc] at this; exact this)
  have HB1 := Aside0.mk (hb1.trans (hb2.mono (by simp)))
  clear hb1 hb2
  generalize ((w.alloc (.cells #[.int .i64 xe, .int .i64 xn, .slice xA2 xids.length xc2, .slice xA3 xrules.length xc3, .bool xh, .int .i64 xfr, .int .u32 xad, .slice xA7 xdv.length xc7, .int .i64 xft, .int .i64 xod, .int .i64 xop] 50)).alloc (.cells #[.int .i64 ye, .int .i64 yn, .slice yA2 yids.length yc2, .slice yA3 yrules.length yc3, .bool yh, .int .i64 yfr, .int .u32 yad, .slice yA7 ydv.length yc7, .int .i64 yft, .int .i64 yod, .int .i64 yop] 50)) = W1 at *
  have cx4 := blk_cell KX.out 4
  have cy4 := blk_cell KY.out 4
  have cx5 := blk_cell KX.out 5
  have cy5 := blk_cell KY.out 5
  have cx6 := blk_cell KX.out 6
  have cy6 := blk_cell KY.out 6
  have cx7 := blk_cell KX.out 7
  have cy7 := blk_cell KY.out 7
  have cx8 := blk_cell KX.out 8
  have cy8 := blk_cell KY.out 8
  have cx9 := blk_cell KX.out 9
  have cy9 := blk_cell KY.out 9
  have cx10 := blk_cell KX.out 10
  have cy10 := blk_cell KY.out 10
  go_wp2_with fail
  go_cut [5, 6] from 9 (fun v5 v6 W => ∃ b5 b6, v5 = .pointer (some ⟨b5, 0, none⟩) ∧ v6 = .pointer (some ⟨b6, 0, none⟩) ∧ Aside0 (W.heap[b5]? = some (.cells #[.bool xh, .int .i64 xfr, .int .u32 xad, .slice xA7 xdv.length xc7, .int .i64 xft, .int .i64 xod, .int .i64 xop] 48 (0, 0))) ∧ Aside0 (W.heap[b6]? = some (.cells #[.bool yh, .int .i64 yfr, .int .u32 yad, .slice yA7 ydv.length yc7, .int .i64 yft, .int .i64 yod, .int .i64 yop] 48 (0, 0))) ∧ Aside0 (Below W1.heap.size W1 W))
  case first =>
    go_region_held3 (fun w' => w'.cell? ⟨w.heap.size, 4, none⟩ = some (.bool xh) ∧ w'.cell? ⟨w.heap.size, 5, none⟩ = some (.int .i64 xfr) ∧ w'.cell? ⟨w.heap.size, 6, none⟩ = some (.int .u32 xad) ∧ w'.cell? ⟨w.heap.size, 7, none⟩ = some (.slice xA7 xdv.length xc7) ∧ w'.cell? ⟨w.heap.size, 8, none⟩ = some (.int .i64 xft) ∧ w'.cell? ⟨w.heap.size, 9, none⟩ = some (.int .i64 xod) ∧ w'.cell? ⟨w.heap.size, 10, none⟩ = some (.int .i64 xop) ∧ w'.cell? ⟨w.heap.size + 1, 4, none⟩ = some (.bool yh) ∧ w'.cell? ⟨w.heap.size + 1, 5, none⟩ = some (.int .i64 yfr) ∧ w'.cell? ⟨w.heap.size + 1, 6, none⟩ = some (.int .u32 yad) ∧ w'.cell? ⟨w.heap.size + 1, 7, none⟩ = some (.slice yA7 ydv.length yc7) ∧ w'.cell? ⟨w.heap.size + 1, 8, none⟩ = some (.int .i64 yft) ∧ w'.cell? ⟨w.heap.size + 1, 9, none⟩ = some (.int .i64 yod) ∧ w'.cell? ⟨w.heap.size + 1, 10, none⟩ = some (.int .i64 yop)) (first | assumption | go_keep) (fail)
    all_goals (go_wp2_with fail; go_meet; case rel => first
      | exact ⟨_, _, rfl, rfl, ⟨blk_below (blk_new W1 (.cells #[.bool xh, .int .i64 xfr, .int .u32 xad, .slice xA7 xdv.length xc7, .int .i64 xft, .int .i64 xod, .int .i64 xop] 48)) (below_drew ((Below.refl _ (W1.alloc (.cells #[.bool xh, .int .i64 xfr, .int .u32 xad, .slice xA7 xdv.length xc7, .int .i64 xft, .int .i64 xod, .int .i64 xop] 48))).alloc (Nat.le_refl _) (.cells #[.bool yh, .int .i64 yfr, .int .u32 yad, .slice yA7 ydv.length yc7, .int .i64 yft, .int .i64 yod, .int .i64 yop] 48)))⟩, ⟨by have := blk_new (W1.alloc (.cells #[.bool xh, .int .i64 xfr, .int .u32 xad, .slice xA7 xdv.length xc7, .int .i64 xft, .int .i64 xod, .int .i64 xop] 48)) (.cells #[.bool yh, .int .i64 yfr, .int .u32 yad, .slice yA7 ydv.length yc7, .int .i64 yft, .int .i64 yod, .int .i64 yop] 48); rw [World.size_alloc] at this; exact this⟩, ⟨below_drew (((Below.refl _ _).alloc (Nat.le_refl _) _).alloc (by simp) _)⟩⟩
      | exact ⟨_, _, rfl, rfl, ⟨by have := blk_new (W1.alloc (.cells #[.bool yh, .int .i64 yfr, .int .u32 yad, .slice yA7 ydv.length yc7, .int .i64 yft, .int .i64 yod, .int .i64 yop] 48)) (.cells #[.bool xh, .int .i64 xfr, .int .u32 xad, .slice xA7 xdv.length xc7, .int .i64 xft, .int .i64 xod, .int .i64 xop] 48); rw [World.size_alloc] at this; exact this⟩, ⟨blk_below (blk_new W1 (.cells #[.bool yh, .int .i64 yfr, .int .u32 yad, .slice yA7 ydv.length yc7, .int .i64 yft, .int .i64 yod, .int .i64 yop] 48)) (below_drew ((Below.refl _ (W1.alloc (.cells #[.bool yh, .int .i64 yfr, .int .u32 yad, .slice yA7 ydv.length yc7, .int .i64 yft, .int .i64 yod, .int .i64 yop] 48))).alloc (Nat.le_refl _) (.cells #[.bool xh, .int .i64 xfr, .int .u32 xad, .slice xA7 xdv.length xc7, .int .i64 xft, .int .i64 xod, .int .i64 xop] 48)))⟩, ⟨below_drew (((Below.refl _ _).alloc (Nat.le_refl _) _).alloc (by simp) _)⟩⟩)
  case rest =>
  obtain ⟨b5, b6, rfl, rfl, K5, K6, HW⟩ := hcut
  clear cx4 cy4 cx5 cy5 cx6 cy6 cx7 cy7 cx8 cy8 cx9 cy9 cx10 cy10
  replace KX := Aside0.mk (blk_below KX.out HW.out)
  replace KY := Aside0.mk (blk_below KY.out HW.out)
  have HBW := Aside0.mk (HB1.out.trans (HW.out.mono HB1.out.size))
  clear HB1 HW
  rename_i wc _
  generalize wc = W2 at *
  have vx0 := blk_cell K5.out 0
  have vy0 := blk_cell K6.out 0
  have vx1 := blk_cell K5.out 1
  have vy1 := blk_cell K6.out 1
  have vx2 := blk_cell K5.out 2
  have vy2 := blk_cell K6.out 2
  have vx3 := blk_cell K5.out 3
  have vy3 := blk_cell K6.out 3
  have vx4 := blk_cell K5.out 4
  have vy4 := blk_cell K6.out 4
  have vx5 := blk_cell K5.out 5
  have vy5 := blk_cell K6.out 5
  have vx6 := blk_cell K5.out 6
  have vy6 := blk_cell K6.out 6
  repeat ((fail_if_success (show Code.wp _ (Code.seq (Code.region 2 _ _) _) _ _ _)); (first | go_values | go_skip | go_guarded | go_step | go_upon | go_back))
  first | go_step | go_upon | go_skip
  go_cut [7] from 9 (fun v7 W => v7 = .bool (bh && (bf && ba)) ∧ Aside0 (Below W2.heap.size W2 W))
  case first =>
    cases bh with
    | false =>
      go_wp2_with fail
      go_meet
      case rel => exact ⟨by simp, ⟨Below.refl _ _⟩⟩
    | true =>
      cases bf with
      | false =>
        go_wp2_with fail
        go_meet
        case rel => exact ⟨by simp, ⟨Below.refl _ _⟩⟩
      | true =>
        go_wp2_with fail
        go_meet
        case rel => exact ⟨by simp, ⟨Below.refl _ _⟩⟩
  case rest =>
  obtain ⟨rfl, HB⟩ := hcut
  rename_i wc _
  generalize wc = W3 at *
  replace KX := Aside0.mk (blk_below KX.out HB.out)
  replace KY := Aside0.mk (blk_below KY.out HB.out)
  replace K5 := Aside0.mk (blk_below K5.out HB.out)
  replace K6 := Aside0.mk (blk_below K6.out HB.out)
  replace HBW := Aside0.mk (HBW.out.trans (HB.out.mono HBW.out.size))
  clear HB vx0 vy0 vx1 vy1 vx2 vy2 vx3 vy3 vx4 vy4 vx5 vy5 vx6 vy6
  have vx0 := blk_cell K5.out 0
  have vy0 := blk_cell K6.out 0
  have vx1 := blk_cell K5.out 1
  have vy1 := blk_cell K6.out 1
  have vx2 := blk_cell K5.out 2
  have vy2 := blk_cell K6.out 2
  have vx3 := blk_cell K5.out 3
  have vy3 := blk_cell K6.out 3
  have vx4 := blk_cell K5.out 4
  have vy4 := blk_cell K6.out 4
  have vx5 := blk_cell K5.out 5
  have vy5 := blk_cell K6.out 5
  have vx6 := blk_cell K5.out 6
  have vy6 := blk_cell K6.out 6
  repeat ((fail_if_success (show Code.wp _ (Code.seq (Code.region 3 _ _) _) _ _ _)); (first | go_values | go_skip | go_guarded | go_step | go_upon | go_back))
  first | go_step | go_upon | go_skip
  obtain ⟨v7, hv7⟩ : ∃ b, (bh && (bf && ba)) = b := ⟨_, rfl⟩
  rw [hv7]
  have HV7 := Aside0.mk hv7
  clear hv7
  go_cut [8] from 9 (fun v8 W => v8 = .bool (i3 && (bt && (bd && bp))) ∧ Aside0 (Below W3.heap.size W3 W))
  case first =>
    go_wp2_with fail
    refine (C3.out _ HBW.out).mono ?_
    rintro e W4 ⟨rfl, hb⟩
    have HB4 := Aside0.mk hb
    replace K5 := Aside0.mk (blk_below K5.out hb)
    replace K6 := Aside0.mk (blk_below K6.out hb)
    clear hb C3 vx0 vy0 vx1 vy1 vx2 vy2 vx3 vy3 vx4 vy4 vx5 vy5 vx6 vy6
    have vx0 := blk_cell K5.out 0
    have vy0 := blk_cell K6.out 0
    have vx1 := blk_cell K5.out 1
    have vy1 := blk_cell K6.out 1
    have vx2 := blk_cell K5.out 2
    have vy2 := blk_cell K6.out 2
    have vx3 := blk_cell K5.out 3
    have vy3 := blk_cell K6.out 3
    have vx4 := blk_cell K5.out 4
    have vy4 := blk_cell K6.out 4
    have vx5 := blk_cell K5.out 5
    have vy5 := blk_cell K6.out 5
    have vx6 := blk_cell K5.out 6
    have vy6 := blk_cell K6.out 6
    cases i3 with
    | false =>
      go_wp2_with fail
      go_meet
      case rel => exact ⟨by simp, HB4⟩
    | true =>
      cases bt with
      | false =>
        go_wp2_with fail
        go_meet
        case rel => exact ⟨by simp, HB4⟩
      | true =>
        go_wp2_with fail
        go_meet
        case rel => exact ⟨by simp, HB4⟩
  case rest =>
  obtain ⟨rfl, HB⟩ := hcut
  rename_i wc _
  generalize wc = W4 at *
  replace KX := Aside0.mk (blk_below KX.out HB.out)
  replace KY := Aside0.mk (blk_below KY.out HB.out)
  replace HBW := Aside0.mk (HBW.out.trans (HB.out.mono HBW.out.size))
  clear HB C3 vx0 vy0 vx1 vy1 vx2 vy2 vx3 vy3 vx4 vy4 vx5 vy5 vx6 vy6
  obtain ⟨v8, hv8⟩ : ∃ b, (i3 && (bt && (bd && bp))) = b := ⟨_, rfl⟩
  rw [hv8]
  have FB2 := Aside0.mk (show FR = (i1 && (i2 && ((v8 && v7) && (be && bn)))) from by rw [FB.out, hv8, HV7.out])
  clear hv8 FB HV7
  have cx0 := blk_cell KX.out 0
  have cy0 := blk_cell KY.out 0
  have cx1 := blk_cell KX.out 1
  have cy1 := blk_cell KY.out 1
  have cx2 := blk_cell KX.out 2
  have cy2 := blk_cell KY.out 2
  have cx3 := blk_cell KX.out 3
  have cy3 := blk_cell KY.out 3
  cases be with
  | false =>
    go_wp2_with fail
    go_ret
    exact ⟨by rw [FB2.out]; simp, HBW.out⟩
  | true =>
    cases bn with
    | false =>
      go_wp2_with fail
      go_ret
      exact ⟨by rw [FB2.out]; simp, HBW.out⟩
    | true =>
      go_wp2_with fail
      refine (C1.out _ HBW.out).mono ?_
      rintro e W5 ⟨rfl, hb⟩
      replace KX := Aside0.mk (blk_below KX.out hb)
      replace KY := Aside0.mk (blk_below KY.out hb)
      replace HBW := Aside0.mk (HBW.out.trans (hb.mono HBW.out.size))
      clear hb C1 cx0 cy0 cx1 cy1 cx2 cy2 cx3 cy3
      have cx0 := blk_cell KX.out 0
      have cy0 := blk_cell KY.out 0
      have cx1 := blk_cell KX.out 1
      have cy1 := blk_cell KY.out 1
      have cx2 := blk_cell KX.out 2
      have cy2 := blk_cell KY.out 2
      have cx3 := blk_cell KX.out 3
      have cy3 := blk_cell KY.out 3
      cases i1 with
      | false =>
        go_wp2_with fail
        go_ret
        exact ⟨by rw [FB2.out]; simp, HBW.out⟩
      | true =>
        go_wp2_with fail
        refine (C2.out _ HBW.out).mono ?_
        rintro e W6 ⟨rfl, hb⟩
        replace KX := Aside0.mk (blk_below KX.out hb)
        replace KY := Aside0.mk (blk_below KY.out hb)
        replace HBW := Aside0.mk (HBW.out.trans (hb.mono HBW.out.size))
        clear hb C2 cx0 cy0 cx1 cy1 cx2 cy2 cx3 cy3
        have cx0 := blk_cell KX.out 0
        have cy0 := blk_cell KY.out 0
        have cx1 := blk_cell KX.out 1
        have cy1 := blk_cell KY.out 1
        have cx2 := blk_cell KX.out 2
        have cy2 := blk_cell KY.out 2
        have cx3 := blk_cell KX.out 3
        have cy3 := blk_cell KY.out 3
        cases i2 with
        | false =>
          go_wp2_with fail
          go_ret
          exact ⟨by rw [FB2.out]; simp, HBW.out⟩
        | true =>
          cases v7 with
          | false =>
            go_wp2_with fail
            go_ret
            exact ⟨by rw [FB2.out]; simp, HBW.out⟩
          | true =>
            go_wp2_with fail
            go_ret
            exact ⟨by rw [FB2.out]; simp, HBW.out⟩
theorem same_any (r s : Rs) (A2 : Option Addr) (c2 : Nat) (A3 : Option Addr) (c3 : Nat) (A7 : Option Addr) (c7 : Nat) (B2 : Option Addr) (d2 : Nat) (B3 : Option Addr) (d3 : Nat) (B7 : Option Addr) (d7 : Nat) (w : World)
    (h2 : Kd.C (Kd.int .i64) w A2 r.ids.length r.ids) (g2 : r.ids.length ≤ c2) (h3 : Kd.C k29 w A3 r.rules.length r.rules) (g3 : r.rules.length ≤ c3) (h7 : Kd.C (Kd.int .i64) w A7 r.dv.length r.dv) (g7 : r.dv.length ≤ c7)
    (i2 : Kd.C (Kd.int .i64) w B2 s.ids.length s.ids) (j2 : s.ids.length ≤ d2) (i3 : Kd.C k29 w B3 s.rules.length s.rules) (j3 : s.rules.length ≤ d3) (i7 : Kd.C (Kd.int .i64) w B7 s.dv.length s.dv) (j7 : s.dv.length ≤ d7)
    (l1 : r.ids.length ≤ 1000000) (l2 : r.rules.length ≤ 1000000) (l3 : r.dv.length ≤ 1000000) :
    Calls Try.prog 21 #[.agg (rsVals (.slice A2 r.ids.length c2) (.slice A3 r.rules.length c3) (.slice A7 r.dv.length c7) r).toArray, .agg (rsVals (.slice B2 s.ids.length d2) (.slice B3 s.rules.length d3) (.slice B7 s.dv.length d7) s).toArray] w fun e w' => e = .returned (.bool (sameB r s)) ∧ Below w.heap.size w w' :=
  same_flat r.e r.n r.ids r.rules r.h r.fr r.ad r.dv r.ft r.od r.op A2 c2 A3 c3 A7 c7 s.e s.n s.ids s.rules s.h s.fr s.ad s.dv s.ft s.od s.op B2 d2 B3 d3 B7 d7 w h2 g2 h3 g3 h7 g7 i2 j2 i3 j3 i7 j7 l1 l2 l3
end Go.Proofs.Ytpaknjmcjblahaa.H
/-! ### WirT -/
namespace Go.Proofs.Ytpaknjmcjblahaa.H
open Go.RowKit Go.Proofs.Ytpaknjmcjblahaa.P Go.Proofs.YtpaknjmcjblahaaW.PrintWords Go.Proofs.YtpaknjmcjblahaaW.PrintLast
set_option linter.unusedVariables false
set_option linter.unusedSimpArgs false
theorem ansOut_code (r : Rs) : (ansOut r).2 = 0 ∨ (ansOut r).2 = 171 := by
  unfold ansOut; split
  · exact .inl rfl
  · exact .inr rfl
theorem ansL_two (r : Rs) : 2 ≤ (ansL r).length := by
  have h1 := putN_pos r.e
  have h2 := putN_pos r.n
  unfold ansL
  rw [List.length_append, List.length_append]
  omega
theorem ans_back {r : Rs} (h : (ansOut r).2 = 0) : FormS r ∧ ansOut r = (ansL r, 0) := by
  unfold ansOut at h ⊢
  cases e : formedB r with
  | true => rw [if_pos rfl]; exact ⟨(formS_iff r).1 e, rfl⟩
  | false => rw [e] at h; simp at h
theorem read_ansL {r : Rs} (F : FormS r) (hu : inB wideW r.ad) : readOut (ansL r) = (r, 0) := by
  have e := readM_ans F hu []
  rw [List.append_nil] at e
  unfold readOut
  rw [e, if_neg (by simp)]
theorem read_more {r : Rs} (F : FormS r) (hu : inB wideW r.ad) (x : Int) : (readOut (ansL r ++ [x])).2 = 171 := by
  have e := readM_ans F hu [x]
  unfold readOut
  rw [e, if_pos (.inr (by simp))]
theorem read_less {r : Rs} {l : List Int} {x : Int} (F : FormS r) (hu : inB wideW r.ad) (hb : bytes l) (e : ansL r = l ++ [x]) : (readOut l).2 = 171 := by
  rcases read_ok hb with ⟨h0, h1, h2, h3⟩ | h0
  · have e1 := (ans_back (r := (readOut l).1) (by rw [h1])).2
    rw [h1] at e1
    have e2 : l = ansL (readOut l).1 := (Prod.mk.inj e1).1
    have := read_more h2 h3 x
    rw [← e2, ← e, read_ansL F hu] at this
    simp at this
  · exact h0
theorem ans_inj {r s : Rs} (hr : inB wideW r.ad) (hs : inB wideW s.ad) (h1 : FormS r) (h2 : FormS s) : ansL r = ansL s ↔ r = s := by
  constructor
  · intro e
    have a := read_ansL h1 hr
    have b := read_ansL h2 hs
    rw [e, b] at a
    exact ((Prod.mk.inj a).1).symm
  · rintro rfl; rfl
theorem bytes_flat : ∀ l : List Ru, (∀ x ∈ l, okW x) → bytes ((l.map putRu).flatten)
  | [], _ => bytes_nil
  | x :: l, h => by
    rw [List.map_cons, List.flatten_cons]
    exact bytes_append (bytes_Ru (h x (by simp))) (bytes_flat l (fun y hy => h y (List.mem_cons_of_mem _ hy)))
theorem bytes_ansL {r : Rs} (F : FormS r) (hu : inB wideW r.ad) : bytes (ansL r) := by
  have s255 : (255 : Int) ≤ 4294967295 := by decide
  have w := wideLe
  have e1 : ∀ x ∈ r.ids, x < 18446744073709551616 := fun x hx => by have := (F.ids x hx).2; omega
  have e2 : ∀ x ∈ r.dv, x < 18446744073709551616 := fun x hx => by have := (F.dv x hx).2; omega
  have hb : inB 1 (b01 r.h) := by cases r.h <;> exact ⟨by decide, by decide⟩
  have l1 : inB 100 (r.ids.length : Int) := ⟨by omega, by have := F.l1; omega⟩
  have l2 : inB 100 (r.rules.length : Int) := ⟨by omega, by have := F.l2; omega⟩
  have l3 : inB 100 (r.dv.length : Int) := ⟨by omega, by have := F.l3; omega⟩
  have h100 : (100 : Int) ≤ 4294967295 := by decide
  unfold ansL
  exact bytes_append (bn_of F.e (by decide)) (bytes_append (bn_of F.n w) (bytes_append (bn_of l1 h100) (bytes_append (putL_bytes _ e1) (bytes_append (bn_of l2 h100) (bytes_append (bytes_flat _ F.rules) (bytes_append (bn_of hb (by decide)) (bytes_append (bn_of F.fr s255) (bytes_append (bn_of hu w) (bytes_append (bn_of l3 h100) (bytes_append (putL_bytes _ e2) (bytes_append (bn_of F.ft s255) (bytes_append (bn_of F.od s255) (bn_of F.op s255)))))))))))))
theorem ansL_le {r : Rs} (F : FormS r) (hu : inB wideW r.ad) : (ansL r).length ≤ 100000 := by
  have s255 : (255 : Int) ≤ 4294967295 := by decide
  have w := wideLe
  have e1 := putL_len r.ids (fun x hx => by have := (F.ids x hx).2; omega)
  have e2 := putL_len r.dv (fun x hx => by have := (F.dv x hx).2; omega)
  have e3 := rul_len r.rules F.rules
  have hb : inB 1 (b01 r.h) := by cases r.h <;> exact ⟨by decide, by decide⟩
  have q1 := F.l1
  have q2 := F.l2
  have q3 := F.l3
  have l1 : inB 100 (r.ids.length : Int) := ⟨by omega, by omega⟩
  have l2 : inB 100 (r.rules.length : Int) := ⟨by omega, by omega⟩
  have l3 : inB 100 (r.dv.length : Int) := ⟨by omega, by omega⟩
  have h100 : (100 : Int) ≤ 4294967295 := by decide
  have a1 := putN_le F.e (by decide)
  have a2 := putN_le F.n w
  have a3 := putN_le l1 h100
  have a4 := putN_le l2 h100
  have a5 := putN_le l3 h100
  have a6 := putN_le hb (by decide)
  have a7 := putN_le F.fr s255
  have a8 := putN_le hu w
  have a9 := putN_le F.ft s255
  have b1 := putN_le F.od s255
  have b2 := putN_le F.op s255
  unfold ansL
  simp only [List.length_append]
  omega
end Go.Proofs.Ytpaknjmcjblahaa.H
/-! ### WirO -/
namespace Go.Proofs.Ytpaknjmcjblahaa.H
open Go.RowKit Go.Proofs.Ytpaknjmcjblahaa.P Go.Proofs.Ytpaknjmcjblahaa.Open Go.Proofs.YtpaknjmcjblahaaW.PrintWords Go.Proofs.YtpaknjmcjblahaaW.PrintLast
set_option linter.unusedVariables false
theorem opensRules : Opens Try.prog 41 (Kd.slice 29 k29) (fun l => ∀ x ∈ l, okRu x) := Opens.slice Try.underlying41 opensRule (by kernel_rfl)
abbrev TRs := Int × Int × List Int × List Ru × (Bool × Int × Int × (List Int × Int × (Int × Int)))
def kRs : Kd TRs := Kd.pair kI (Kd.pair kI (Kd.pair (Kd.slice 3 kI) (Kd.pair (Kd.slice 29 k29) (Kd.pair Kd.bool (Kd.pair kI (Kd.pair (Kd.int .u32) (Kd.pair (Kd.slice 3 kI) (Kd.pair kI (Kd.pair kI kI)))))))))
def rsOf (x : TRs) : Rs := ⟨x.1, x.2.1, x.2.2.1, x.2.2.2.1, x.2.2.2.2.1, x.2.2.2.2.2.1, x.2.2.2.2.2.2.1, x.2.2.2.2.2.2.2.1, x.2.2.2.2.2.2.2.2.1, x.2.2.2.2.2.2.2.2.2.1, x.2.2.2.2.2.2.2.2.2.2⟩
theorem opensPort : Opens Try.prog 44 (Kd.pair kI kI) (fun _ => True) := by
  refine' Opens.imp (OpensAt.struct' ?h Try.underlying44 (by kernel_rfl)) ?i
  case h => exact OpensAt.cons rfl (Opens.int Try.underlying3) (by kernel_rfl) (OpensAt.last rfl (Opens.int Try.underlying3) (by kernel_rfl))
  case i => exact fun _ _ => trivial
theorem opensTrace : Opens Try.prog 46 (Kd.pair (Kd.slice 3 kI) (Kd.pair kI (Kd.pair kI kI))) (fun _ => True) := by
  refine' Opens.imp (OpensAt.struct' ?h Try.underlying46 (by kernel_rfl)) ?i
  case h => exact OpensAt.cons rfl (Opens.slice Try.underlying40 (Opens.int Try.underlying3) (by kernel_rfl)) (by kernel_rfl) (OpensAt.cons rfl (Opens.int Try.underlying42) (by kernel_rfl) (OpensAt.last rfl opensPort (by kernel_rfl)))
  case i => exact fun _ _ => trivial
theorem opensVerdict : Opens Try.prog 48 (Kd.pair Kd.bool (Kd.pair kI (Kd.pair (Kd.int .u32) (Kd.pair (Kd.slice 3 kI) (Kd.pair kI (Kd.pair kI kI)))))) (fun x => isU32 x.2.2.1) := by
  refine' Opens.imp (OpensAt.struct' ?h Try.underlying48 (by kernel_rfl)) ?i
  case h => exact OpensAt.cons rfl (Opens.bool Try.underlying4) (by kernel_rfl) (OpensAt.cons rfl (Opens.int Try.underlying3) (by kernel_rfl) (OpensAt.cons rfl (Opens.int Try.underlying25) (by kernel_rfl) (OpensAt.last rfl opensTrace (by kernel_rfl))))
  case i => exact fun x h => u32_of h.2.2.1
def okRs (r : Rs) : Prop := (∀ x ∈ r.rules, okRu x) ∧ isU32 r.ad
theorem opensRs : Opens Try.prog 50 kRs (fun x => okRs (rsOf x)) := by
  refine' Opens.imp (OpensAt.struct' ?h Try.underlying50 (by kernel_rfl)) ?i
  case h => exact OpensAt.cons rfl (Opens.int Try.underlying39) (by kernel_rfl) (OpensAt.cons rfl (Opens.int Try.underlying3) (by kernel_rfl) (OpensAt.cons rfl (Opens.slice Try.underlying40 (Opens.int Try.underlying3) (by kernel_rfl)) (by kernel_rfl) (OpensAt.cons rfl opensRules (by kernel_rfl) (OpensAt.last rfl opensVerdict (by kernel_rfl)))))
  case i => exact fun x h => ⟨h.2.2.2.1, h.2.2.2.2⟩
theorem rs_open {w : World} {x : TRs} {cs : List Value} (h : kRs.K w x cs) : ∃ A2 c2 A3 c3 A7 c7, cs = rsVals (.slice A2 (rsOf x).ids.length c2) (.slice A3 (rsOf x).rules.length c3) (.slice A7 (rsOf x).dv.length c7) (rsOf x) ∧
    Kd.C kI w A2 (rsOf x).ids.length (rsOf x).ids ∧ (rsOf x).ids.length ≤ c2 ∧ Kd.C k29 w A3 (rsOf x).rules.length (rsOf x).rules ∧ (rsOf x).rules.length ≤ c3 ∧ Kd.C kI w A7 (rsOf x).dv.length (rsOf x).dv ∧ (rsOf x).dv.length ≤ c7 := by
  obtain ⟨_, _, rfl, a1, _, _, rfl, a2, _, _, rfl, ⟨A2, c2, rfl, l2, h2⟩, _, _, rfl, ⟨A3, c3, rfl, l3, h3⟩, _, _, rfl, a5, _, _, rfl, a6, _, _, rfl, a7, _, _, rfl, ⟨A7, c7, rfl, l7, h7⟩, _, _, rfl, a9, _, _, rfl, a10, a11⟩ := h
  cases a1; cases a2; cases a5; cases a6; cases a7; cases a9; cases a10; cases a11
  exact ⟨A2, c2, A3, c3, A7, c7, rfl, h2, l2, h3, l3, h7, l7⟩
end Go.Proofs.Ytpaknjmcjblahaa.H
/-! ### WirAns -/
namespace Go.Proofs.Ytpaknjmcjblahaa.H
open Go.RowKit Go.Proofs.Ytpaknjmcjblahaa.P Go.Proofs.YtpaknjmcjblahaaW.PrintWords Go.Proofs.YtpaknjmcjblahaaW.PrintLast Go.Proofs.YtpaknjmcjblahaaW.PrintMore
set_option linter.unusedVariables false
set_option linter.unusedSimpArgs false
set_option maxRecDepth 20000
theorem w64nA (n : Nat) (h : n ≤ 100000) : wrap64 (n : Int) = (n : Int) := by unfold wrap64; omega
set_option maxHeartbeats 16000000 in
theorem wireAns_b1 (r s : Rs) (hur : okRs r) (hus : okRs s) (A2r : Option Addr) (c2r : Nat) (A3r : Option Addr) (c3r : Nat) (A7r : Option Addr) (c7r : Nat) (A2s : Option Addr) (c2s : Nat) (A3s : Option Addr) (c3s : Nat) (A7s : Option Addr) (c7s : Nat) (w : World) (h2r : Kd.C (Kd.int .i64) w A2r r.ids.length r.ids) (g2r : r.ids.length ≤ c2r) (h3r : Kd.C k29 w A3r r.rules.length r.rules) (g3r : r.rules.length ≤ c3r) (h7r : Kd.C (Kd.int .i64) w A7r r.dv.length r.dv) (g7r : r.dv.length ≤ c7r) (h2s : Kd.C (Kd.int .i64) w A2s s.ids.length s.ids) (g2s : s.ids.length ≤ c2s) (h3s : Kd.C k29 w A3s s.rules.length s.rules) (g3s : s.rules.length ≤ c3s) (h7s : Kd.C (Kd.int .i64) w A7s s.dv.length s.dv) (g7s : s.dv.length ≤ c7s) (f1 : fitsB zRq r = false) :
    Calls Try.prog 7 #[.agg #[.int .i64 r.e, .int .i64 r.n, (.slice A2r r.ids.length c2r), (.slice A3r r.rules.length c3r), .bool r.h, .int .i64 r.fr, .int .u32 r.ad, (.slice A7r r.dv.length c7r), .int .i64 r.ft, .int .i64 r.od, .int .i64 r.op], .agg #[.int .i64 s.e, .int .i64 s.n, (.slice A2s s.ids.length c2s), (.slice A3s s.rules.length c3s), .bool s.h, .int .i64 s.fr, .int .u32 s.ad, (.slice A7s s.dv.length c7s), .int .i64 s.ft, .int .i64 s.od, .int .i64 s.op]] w fun e w' => e = .returned (.bool true) ∧ Below w.heap.size w w' := by
  have CFr := Aside0.mk (fun (W : World) h2 h3 h7 => fits_any zRq r A2r c2r A3r c3r A7r c7r W h2 g2r h3 g3r h7 g7r)
  have CEr := Aside0.mk (fun (W : World) h2 h3 h7 => ans_any r A2r c2r A3r c3r A7r c7r W h2 h3 h7 hur.1 hur.2)
  have H2r := Aside0.mk h2r
  have H3r := Aside0.mk h3r
  have H7r := Aside0.mk h7r
  have CFs := Aside0.mk (fun (W : World) h2 h3 h7 => fits_any zRq s A2s c2s A3s c3s A7s c7s W h2 g2s h3 g3s h7 g7s)
  have CEs := Aside0.mk (fun (W : World) h2 h3 h7 => ans_any s A2s c2s A3s c3s A7s c7s W h2 h3 h7 hus.1 hus.2)
  have H2s := Aside0.mk h2s
  have H3s := Aside0.mk h3s
  have H7s := Aside0.mk h7s
  have CA := Aside0.mk alive_any
  rw [f1] at CFr
  generalize ansOut r = PR at *
  generalize ansOut s = PS at *
  try clear f1
  try clear f2
  try clear e1
  try clear e2
  clear g2r g3r g7r g2s g3s g7s
  obtain ⟨BR, hBR⟩ : ∃ x, x = (Obj.cells #[.int .i64 r.e, .int .i64 r.n, (.slice A2r r.ids.length c2r), (.slice A3r r.rules.length c3r), .bool r.h, .int .i64 r.fr, .int .u32 r.ad, (.slice A7r r.dv.length c7r), .int .i64 r.ft, .int .i64 r.od, .int .i64 r.op] 50) := ⟨_, rfl⟩
  obtain ⟨BS, hBS⟩ : ∃ x, x = (Obj.cells #[.int .i64 s.e, .int .i64 s.n, (.slice A2s s.ids.length c2s), (.slice A3s s.rules.length c3s), .bool s.h, .int .i64 s.fr, .int .u32 s.ad, (.slice A7s s.dv.length c7s), .int .i64 s.ft, .int .i64 s.od, .int .i64 s.op] 50) := ⟨_, rfl⟩
  have hba := (Below.refl w.heap.size w).alloc (Nat.le_refl _) BR
  have hbb := (Below.refl (w.alloc BR).heap.size (w.alloc BR)).alloc (Nat.le_refl _) BS
  have KX := Aside0.mk (blk_below (blk_new w BR) hbb)
  have KY0 := blk_new (w.alloc BR) BS
  have hsz : (w.alloc BR).heap.size = w.heap.size + 1 := by simp
  rw [hsz] at KY0
  have KY := Aside0.mk KY0
  have HB := Aside0.mk (hba.trans (hbb.mono hba.size))
  replace H2r := Aside0.mk (Kd.C_below H2r.out HB.out)
  replace H3r := Aside0.mk (Kd.C_below H3r.out HB.out)
  replace H7r := Aside0.mk (Kd.C_below H7r.out HB.out)
  replace H2s := Aside0.mk (Kd.C_below H2s.out HB.out)
  replace H3s := Aside0.mk (Kd.C_below H3s.out HB.out)
  replace H7s := Aside0.mk (Kd.C_below H7s.out HB.out)
  subst hBR hBS
  clear hba hbb KY0 hsz
  go_enter Try.func7, Try.ntmps7
  try dsimp only
  repeat ((fail_if_success (show Code.wp _ (Code.seq (Code.region 1 _ _) _) _ _ _)); (first | go_values | go_skip | go_guarded | go_step | go_upon | go_back))
  generalize ((w.alloc (.cells #[.int .i64 r.e, .int .i64 r.n, (.slice A2r r.ids.length c2r), (.slice A3r r.rules.length c3r), .bool r.h, .int .i64 r.fr, .int .u32 r.ad, (.slice A7r r.dv.length c7r), .int .i64 r.ft, .int .i64 r.od, .int .i64 r.op] 50)).alloc (.cells #[.int .i64 s.e, .int .i64 s.n, (.slice A2s s.ids.length c2s), (.slice A3s s.rules.length c3s), .bool s.h, .int .i64 s.fr, .int .u32 s.ad, (.slice A7s s.dv.length c7s), .int .i64 s.ft, .int .i64 s.od, .int .i64 s.op] 50)) = W0 at *
  obtain ⟨gY, hgY⟩ : ∃ g, w.heap.size + 1 = g := ⟨_, rfl⟩
  rw [hgY] at KY ⊢
  clear hgY
  try dsimp only
  repeat ((fail_if_success (show Oper.wp _ (Oper.mk _ (Op.load 50 _) _ _ _ _) _ _ _ _)); (first | go_values | go_skip | go_guarded | go_step | go_upon | go_back))
  refine wp_load_row KX.out rfl rfl Try.underlying50 rfl (by kernel_rfl) ?_
  try go_simp
  go_wp2_with fail
  refine (CFr.out W0 H2r.out H3r.out H7r.out).mono ?_
  rintro e W1 ⟨rfl, hb⟩
  replace KX := Aside0.mk (blk_below KX.out hb)
  replace KY := Aside0.mk (blk_below KY.out hb)
  replace HB := Aside0.mk (HB.out.trans (hb.mono HB.out.size))
  replace H2r := Aside0.mk (Kd.C_below H2r.out hb)
  replace H3r := Aside0.mk (Kd.C_below H3r.out hb)
  replace H7r := Aside0.mk (Kd.C_below H7r.out hb)
  replace H2s := Aside0.mk (Kd.C_below H2s.out hb)
  replace H3s := Aside0.mk (Kd.C_below H3s.out hb)
  replace H7s := Aside0.mk (Kd.C_below H7s.out hb)
  clear hb
  try dsimp only
  repeat ((fail_if_success (show Oper.wp _ (Oper.mk _ (Op.load 50 _) _ _ _ _) _ _ _ _)); (first | go_values | go_skip | go_guarded | go_step | go_upon | go_back))
  refine wp_load_row KX.out rfl rfl Try.underlying50 rfl (by kernel_rfl) ?_
  try go_simp
  go_wp2_with fail
  refine (CEr.out W1 H2r.out H3r.out H7r.out).mono ?_
  rintro e W2 ⟨⟨vr, rfl, hR⟩, hb⟩
  obtain ⟨Ar, cpr, rfl⟩ := Kd.R_slice hR
  replace KX := Aside0.mk (blk_below KX.out hb)
  replace KY := Aside0.mk (blk_below KY.out hb)
  replace HB := Aside0.mk (HB.out.trans (hb.mono HB.out.size))
  replace H2r := Aside0.mk (Kd.C_below H2r.out hb)
  replace H3r := Aside0.mk (Kd.C_below H3r.out hb)
  replace H7r := Aside0.mk (Kd.C_below H7r.out hb)
  replace H2s := Aside0.mk (Kd.C_below H2s.out hb)
  replace H3s := Aside0.mk (Kd.C_below H3s.out hb)
  replace H7s := Aside0.mk (Kd.C_below H7s.out hb)
  clear hb
  clear hR
  try dsimp only
  repeat ((fail_if_success (show Oper.wp _ (Oper.mk _ (Op.load 50 _) _ _ _ _) _ _ _ _)); (first | go_values | go_skip | go_guarded | go_step | go_upon | go_back))
  refine wp_load_row KY.out rfl rfl Try.underlying50 rfl (by kernel_rfl) ?_
  try go_simp
  go_wp2_with fail
  refine (CEs.out W2 H2s.out H3s.out H7s.out).mono ?_
  rintro e W3 ⟨⟨vs, rfl, hR⟩, hb⟩
  obtain ⟨As, cps, rfl⟩ := Kd.R_slice hR
  replace KX := Aside0.mk (blk_below KX.out hb)
  replace KY := Aside0.mk (blk_below KY.out hb)
  replace HB := Aside0.mk (HB.out.trans (hb.mono HB.out.size))
  replace H2r := Aside0.mk (Kd.C_below H2r.out hb)
  replace H3r := Aside0.mk (Kd.C_below H3r.out hb)
  replace H7r := Aside0.mk (Kd.C_below H7r.out hb)
  replace H2s := Aside0.mk (Kd.C_below H2s.out hb)
  replace H3s := Aside0.mk (Kd.C_below H3s.out hb)
  replace H7s := Aside0.mk (Kd.C_below H7s.out hb)
  clear hb
  clear hR
  go_wp2_with fail
  refine (CA.out W3).mono ?_
  rintro e W4 ⟨rfl, hb⟩
  replace HB := Aside0.mk (HB.out.trans (hb.mono HB.out.size))
  clear hb
  go_wp2_with fail
  go_ret
  exact ⟨rfl, HB.out⟩
set_option maxHeartbeats 16000000 in
theorem wireAns_b2 (r s : Rs) (hur : okRs r) (hus : okRs s) (A2r : Option Addr) (c2r : Nat) (A3r : Option Addr) (c3r : Nat) (A7r : Option Addr) (c7r : Nat) (A2s : Option Addr) (c2s : Nat) (A3s : Option Addr) (c3s : Nat) (A7s : Option Addr) (c7s : Nat) (w : World) (h2r : Kd.C (Kd.int .i64) w A2r r.ids.length r.ids) (g2r : r.ids.length ≤ c2r) (h3r : Kd.C k29 w A3r r.rules.length r.rules) (g3r : r.rules.length ≤ c3r) (h7r : Kd.C (Kd.int .i64) w A7r r.dv.length r.dv) (g7r : r.dv.length ≤ c7r) (h2s : Kd.C (Kd.int .i64) w A2s s.ids.length s.ids) (g2s : s.ids.length ≤ c2s) (h3s : Kd.C k29 w A3s s.rules.length s.rules) (g3s : s.rules.length ≤ c3s) (h7s : Kd.C (Kd.int .i64) w A7s s.dv.length s.dv) (g7s : s.dv.length ≤ c7s) (f1 : fitsB zRq r = true) (f2 : fitsB zRq s = false) :
    Calls Try.prog 7 #[.agg #[.int .i64 r.e, .int .i64 r.n, (.slice A2r r.ids.length c2r), (.slice A3r r.rules.length c3r), .bool r.h, .int .i64 r.fr, .int .u32 r.ad, (.slice A7r r.dv.length c7r), .int .i64 r.ft, .int .i64 r.od, .int .i64 r.op], .agg #[.int .i64 s.e, .int .i64 s.n, (.slice A2s s.ids.length c2s), (.slice A3s s.rules.length c3s), .bool s.h, .int .i64 s.fr, .int .u32 s.ad, (.slice A7s s.dv.length c7s), .int .i64 s.ft, .int .i64 s.od, .int .i64 s.op]] w fun e w' => e = .returned (.bool true) ∧ Below w.heap.size w w' := by
  have CFr := Aside0.mk (fun (W : World) h2 h3 h7 => fits_any zRq r A2r c2r A3r c3r A7r c7r W h2 g2r h3 g3r h7 g7r)
  have CEr := Aside0.mk (fun (W : World) h2 h3 h7 => ans_any r A2r c2r A3r c3r A7r c7r W h2 h3 h7 hur.1 hur.2)
  have H2r := Aside0.mk h2r
  have H3r := Aside0.mk h3r
  have H7r := Aside0.mk h7r
  have CFs := Aside0.mk (fun (W : World) h2 h3 h7 => fits_any zRq s A2s c2s A3s c3s A7s c7s W h2 g2s h3 g3s h7 g7s)
  have CEs := Aside0.mk (fun (W : World) h2 h3 h7 => ans_any s A2s c2s A3s c3s A7s c7s W h2 h3 h7 hus.1 hus.2)
  have H2s := Aside0.mk h2s
  have H3s := Aside0.mk h3s
  have H7s := Aside0.mk h7s
  have CA := Aside0.mk alive_any
  rw [f1] at CFr
  rw [f2] at CFs
  generalize ansOut r = PR at *
  generalize ansOut s = PS at *
  try clear f1
  try clear f2
  try clear e1
  try clear e2
  clear g2r g3r g7r g2s g3s g7s
  obtain ⟨BR, hBR⟩ : ∃ x, x = (Obj.cells #[.int .i64 r.e, .int .i64 r.n, (.slice A2r r.ids.length c2r), (.slice A3r r.rules.length c3r), .bool r.h, .int .i64 r.fr, .int .u32 r.ad, (.slice A7r r.dv.length c7r), .int .i64 r.ft, .int .i64 r.od, .int .i64 r.op] 50) := ⟨_, rfl⟩
  obtain ⟨BS, hBS⟩ : ∃ x, x = (Obj.cells #[.int .i64 s.e, .int .i64 s.n, (.slice A2s s.ids.length c2s), (.slice A3s s.rules.length c3s), .bool s.h, .int .i64 s.fr, .int .u32 s.ad, (.slice A7s s.dv.length c7s), .int .i64 s.ft, .int .i64 s.od, .int .i64 s.op] 50) := ⟨_, rfl⟩
  have hba := (Below.refl w.heap.size w).alloc (Nat.le_refl _) BR
  have hbb := (Below.refl (w.alloc BR).heap.size (w.alloc BR)).alloc (Nat.le_refl _) BS
  have KX := Aside0.mk (blk_below (blk_new w BR) hbb)
  have KY0 := blk_new (w.alloc BR) BS
  have hsz : (w.alloc BR).heap.size = w.heap.size + 1 := by simp
  rw [hsz] at KY0
  have KY := Aside0.mk KY0
  have HB := Aside0.mk (hba.trans (hbb.mono hba.size))
  replace H2r := Aside0.mk (Kd.C_below H2r.out HB.out)
  replace H3r := Aside0.mk (Kd.C_below H3r.out HB.out)
  replace H7r := Aside0.mk (Kd.C_below H7r.out HB.out)
  replace H2s := Aside0.mk (Kd.C_below H2s.out HB.out)
  replace H3s := Aside0.mk (Kd.C_below H3s.out HB.out)
  replace H7s := Aside0.mk (Kd.C_below H7s.out HB.out)
  subst hBR hBS
  clear hba hbb KY0 hsz
  go_enter Try.func7, Try.ntmps7
  try dsimp only
  repeat ((fail_if_success (show Code.wp _ (Code.seq (Code.region 1 _ _) _) _ _ _)); (first | go_values | go_skip | go_guarded | go_step | go_upon | go_back))
  generalize ((w.alloc (.cells #[.int .i64 r.e, .int .i64 r.n, (.slice A2r r.ids.length c2r), (.slice A3r r.rules.length c3r), .bool r.h, .int .i64 r.fr, .int .u32 r.ad, (.slice A7r r.dv.length c7r), .int .i64 r.ft, .int .i64 r.od, .int .i64 r.op] 50)).alloc (.cells #[.int .i64 s.e, .int .i64 s.n, (.slice A2s s.ids.length c2s), (.slice A3s s.rules.length c3s), .bool s.h, .int .i64 s.fr, .int .u32 s.ad, (.slice A7s s.dv.length c7s), .int .i64 s.ft, .int .i64 s.od, .int .i64 s.op] 50)) = W0 at *
  obtain ⟨gY, hgY⟩ : ∃ g, w.heap.size + 1 = g := ⟨_, rfl⟩
  rw [hgY] at KY ⊢
  clear hgY
  try dsimp only
  repeat ((fail_if_success (show Oper.wp _ (Oper.mk _ (Op.load 50 _) _ _ _ _) _ _ _ _)); (first | go_values | go_skip | go_guarded | go_step | go_upon | go_back))
  refine wp_load_row KX.out rfl rfl Try.underlying50 rfl (by kernel_rfl) ?_
  try go_simp
  go_wp2_with fail
  refine (CFr.out W0 H2r.out H3r.out H7r.out).mono ?_
  rintro e W1 ⟨rfl, hb⟩
  replace KX := Aside0.mk (blk_below KX.out hb)
  replace KY := Aside0.mk (blk_below KY.out hb)
  replace HB := Aside0.mk (HB.out.trans (hb.mono HB.out.size))
  replace H2r := Aside0.mk (Kd.C_below H2r.out hb)
  replace H3r := Aside0.mk (Kd.C_below H3r.out hb)
  replace H7r := Aside0.mk (Kd.C_below H7r.out hb)
  replace H2s := Aside0.mk (Kd.C_below H2s.out hb)
  replace H3s := Aside0.mk (Kd.C_below H3s.out hb)
  replace H7s := Aside0.mk (Kd.C_below H7s.out hb)
  clear hb
  try dsimp only
  repeat ((fail_if_success (show Oper.wp _ (Oper.mk _ (Op.load 50 _) _ _ _ _) _ _ _ _)); (first | go_values | go_skip | go_guarded | go_step | go_upon | go_back))
  refine wp_load_row KY.out rfl rfl Try.underlying50 rfl (by kernel_rfl) ?_
  try go_simp
  go_wp2_with fail
  refine (CFs.out W1 H2s.out H3s.out H7s.out).mono ?_
  rintro e W2 ⟨rfl, hb⟩
  replace KX := Aside0.mk (blk_below KX.out hb)
  replace KY := Aside0.mk (blk_below KY.out hb)
  replace HB := Aside0.mk (HB.out.trans (hb.mono HB.out.size))
  replace H2r := Aside0.mk (Kd.C_below H2r.out hb)
  replace H3r := Aside0.mk (Kd.C_below H3r.out hb)
  replace H7r := Aside0.mk (Kd.C_below H7r.out hb)
  replace H2s := Aside0.mk (Kd.C_below H2s.out hb)
  replace H3s := Aside0.mk (Kd.C_below H3s.out hb)
  replace H7s := Aside0.mk (Kd.C_below H7s.out hb)
  clear hb
  try dsimp only
  repeat ((fail_if_success (show Oper.wp _ (Oper.mk _ (Op.load 50 _) _ _ _ _) _ _ _ _)); (first | go_values | go_skip | go_guarded | go_step | go_upon | go_back))
  refine wp_load_row KX.out rfl rfl Try.underlying50 rfl (by kernel_rfl) ?_
  try go_simp
  go_wp2_with fail
  refine (CEr.out W2 H2r.out H3r.out H7r.out).mono ?_
  rintro e W3 ⟨⟨vr, rfl, hR⟩, hb⟩
  obtain ⟨Ar, cpr, rfl⟩ := Kd.R_slice hR
  replace KX := Aside0.mk (blk_below KX.out hb)
  replace KY := Aside0.mk (blk_below KY.out hb)
  replace HB := Aside0.mk (HB.out.trans (hb.mono HB.out.size))
  replace H2r := Aside0.mk (Kd.C_below H2r.out hb)
  replace H3r := Aside0.mk (Kd.C_below H3r.out hb)
  replace H7r := Aside0.mk (Kd.C_below H7r.out hb)
  replace H2s := Aside0.mk (Kd.C_below H2s.out hb)
  replace H3s := Aside0.mk (Kd.C_below H3s.out hb)
  replace H7s := Aside0.mk (Kd.C_below H7s.out hb)
  clear hb
  clear hR
  try dsimp only
  repeat ((fail_if_success (show Oper.wp _ (Oper.mk _ (Op.load 50 _) _ _ _ _) _ _ _ _)); (first | go_values | go_skip | go_guarded | go_step | go_upon | go_back))
  refine wp_load_row KY.out rfl rfl Try.underlying50 rfl (by kernel_rfl) ?_
  try go_simp
  go_wp2_with fail
  refine (CEs.out W3 H2s.out H3s.out H7s.out).mono ?_
  rintro e W4 ⟨⟨vs, rfl, hR⟩, hb⟩
  obtain ⟨As, cps, rfl⟩ := Kd.R_slice hR
  replace KX := Aside0.mk (blk_below KX.out hb)
  replace KY := Aside0.mk (blk_below KY.out hb)
  replace HB := Aside0.mk (HB.out.trans (hb.mono HB.out.size))
  replace H2r := Aside0.mk (Kd.C_below H2r.out hb)
  replace H3r := Aside0.mk (Kd.C_below H3r.out hb)
  replace H7r := Aside0.mk (Kd.C_below H7r.out hb)
  replace H2s := Aside0.mk (Kd.C_below H2s.out hb)
  replace H3s := Aside0.mk (Kd.C_below H3s.out hb)
  replace H7s := Aside0.mk (Kd.C_below H7s.out hb)
  clear hb
  clear hR
  go_wp2_with fail
  refine (CA.out W4).mono ?_
  rintro e W5 ⟨rfl, hb⟩
  replace HB := Aside0.mk (HB.out.trans (hb.mono HB.out.size))
  clear hb
  go_wp2_with fail
  go_ret
  exact ⟨rfl, HB.out⟩
set_option maxHeartbeats 16000000 in
theorem wireAns_b3 (r s : Rs) (hur : okRs r) (hus : okRs s) (A2r : Option Addr) (c2r : Nat) (A3r : Option Addr) (c3r : Nat) (A7r : Option Addr) (c7r : Nat) (A2s : Option Addr) (c2s : Nat) (A3s : Option Addr) (c3s : Nat) (A7s : Option Addr) (c7s : Nat) (w : World) (h2r : Kd.C (Kd.int .i64) w A2r r.ids.length r.ids) (g2r : r.ids.length ≤ c2r) (h3r : Kd.C k29 w A3r r.rules.length r.rules) (g3r : r.rules.length ≤ c3r) (h7r : Kd.C (Kd.int .i64) w A7r r.dv.length r.dv) (g7r : r.dv.length ≤ c7r) (h2s : Kd.C (Kd.int .i64) w A2s s.ids.length s.ids) (g2s : s.ids.length ≤ c2s) (h3s : Kd.C k29 w A3s s.rules.length s.rules) (g3s : s.rules.length ≤ c3s) (h7s : Kd.C (Kd.int .i64) w A7s s.dv.length s.dv) (g7s : s.dv.length ≤ c7s) (f1 : fitsB zRq r = true) (f2 : fitsB zRq s = true) (e1 : (ansOut r).2 = 171) :
    Calls Try.prog 7 #[.agg #[.int .i64 r.e, .int .i64 r.n, (.slice A2r r.ids.length c2r), (.slice A3r r.rules.length c3r), .bool r.h, .int .i64 r.fr, .int .u32 r.ad, (.slice A7r r.dv.length c7r), .int .i64 r.ft, .int .i64 r.od, .int .i64 r.op], .agg #[.int .i64 s.e, .int .i64 s.n, (.slice A2s s.ids.length c2s), (.slice A3s s.rules.length c3s), .bool s.h, .int .i64 s.fr, .int .u32 s.ad, (.slice A7s s.dv.length c7s), .int .i64 s.ft, .int .i64 s.od, .int .i64 s.op]] w fun e w' => e = .returned (.bool true) ∧ Below w.heap.size w w' := by
  have CFr := Aside0.mk (fun (W : World) h2 h3 h7 => fits_any zRq r A2r c2r A3r c3r A7r c7r W h2 g2r h3 g3r h7 g7r)
  have CEr := Aside0.mk (fun (W : World) h2 h3 h7 => ans_any r A2r c2r A3r c3r A7r c7r W h2 h3 h7 hur.1 hur.2)
  have H2r := Aside0.mk h2r
  have H3r := Aside0.mk h3r
  have H7r := Aside0.mk h7r
  have CFs := Aside0.mk (fun (W : World) h2 h3 h7 => fits_any zRq s A2s c2s A3s c3s A7s c7s W h2 g2s h3 g3s h7 g7s)
  have CEs := Aside0.mk (fun (W : World) h2 h3 h7 => ans_any s A2s c2s A3s c3s A7s c7s W h2 h3 h7 hus.1 hus.2)
  have H2s := Aside0.mk h2s
  have H3s := Aside0.mk h3s
  have H7s := Aside0.mk h7s
  have CA := Aside0.mk alive_any
  rw [f1] at CFr
  rw [f2] at CFs
  rw [e1] at CEr
  generalize ansOut r = PR at *
  generalize ansOut s = PS at *
  try clear f1
  try clear f2
  try clear e1
  try clear e2
  clear g2r g3r g7r g2s g3s g7s
  obtain ⟨BR, hBR⟩ : ∃ x, x = (Obj.cells #[.int .i64 r.e, .int .i64 r.n, (.slice A2r r.ids.length c2r), (.slice A3r r.rules.length c3r), .bool r.h, .int .i64 r.fr, .int .u32 r.ad, (.slice A7r r.dv.length c7r), .int .i64 r.ft, .int .i64 r.od, .int .i64 r.op] 50) := ⟨_, rfl⟩
  obtain ⟨BS, hBS⟩ : ∃ x, x = (Obj.cells #[.int .i64 s.e, .int .i64 s.n, (.slice A2s s.ids.length c2s), (.slice A3s s.rules.length c3s), .bool s.h, .int .i64 s.fr, .int .u32 s.ad, (.slice A7s s.dv.length c7s), .int .i64 s.ft, .int .i64 s.od, .int .i64 s.op] 50) := ⟨_, rfl⟩
  have hba := (Below.refl w.heap.size w).alloc (Nat.le_refl _) BR
  have hbb := (Below.refl (w.alloc BR).heap.size (w.alloc BR)).alloc (Nat.le_refl _) BS
  have KX := Aside0.mk (blk_below (blk_new w BR) hbb)
  have KY0 := blk_new (w.alloc BR) BS
  have hsz : (w.alloc BR).heap.size = w.heap.size + 1 := by simp
  rw [hsz] at KY0
  have KY := Aside0.mk KY0
  have HB := Aside0.mk (hba.trans (hbb.mono hba.size))
  replace H2r := Aside0.mk (Kd.C_below H2r.out HB.out)
  replace H3r := Aside0.mk (Kd.C_below H3r.out HB.out)
  replace H7r := Aside0.mk (Kd.C_below H7r.out HB.out)
  replace H2s := Aside0.mk (Kd.C_below H2s.out HB.out)
  replace H3s := Aside0.mk (Kd.C_below H3s.out HB.out)
  replace H7s := Aside0.mk (Kd.C_below H7s.out HB.out)
  subst hBR hBS
  clear hba hbb KY0 hsz
  go_enter Try.func7, Try.ntmps7
  try dsimp only
  repeat ((fail_if_success (show Code.wp _ (Code.seq (Code.region 1 _ _) _) _ _ _)); (first | go_values | go_skip | go_guarded | go_step | go_upon | go_back))
  generalize ((w.alloc (.cells #[.int .i64 r.e, .int .i64 r.n, (.slice A2r r.ids.length c2r), (.slice A3r r.rules.length c3r), .bool r.h, .int .i64 r.fr, .int .u32 r.ad, (.slice A7r r.dv.length c7r), .int .i64 r.ft, .int .i64 r.od, .int .i64 r.op] 50)).alloc (.cells #[.int .i64 s.e, .int .i64 s.n, (.slice A2s s.ids.length c2s), (.slice A3s s.rules.length c3s), .bool s.h, .int .i64 s.fr, .int .u32 s.ad, (.slice A7s s.dv.length c7s), .int .i64 s.ft, .int .i64 s.od, .int .i64 s.op] 50)) = W0 at *
  obtain ⟨gY, hgY⟩ : ∃ g, w.heap.size + 1 = g := ⟨_, rfl⟩
  rw [hgY] at KY ⊢
  clear hgY
  try dsimp only
  repeat ((fail_if_success (show Oper.wp _ (Oper.mk _ (Op.load 50 _) _ _ _ _) _ _ _ _)); (first | go_values | go_skip | go_guarded | go_step | go_upon | go_back))
  refine wp_load_row KX.out rfl rfl Try.underlying50 rfl (by kernel_rfl) ?_
  try go_simp
  go_wp2_with fail
  refine (CFr.out W0 H2r.out H3r.out H7r.out).mono ?_
  rintro e W1 ⟨rfl, hb⟩
  replace KX := Aside0.mk (blk_below KX.out hb)
  replace KY := Aside0.mk (blk_below KY.out hb)
  replace HB := Aside0.mk (HB.out.trans (hb.mono HB.out.size))
  replace H2r := Aside0.mk (Kd.C_below H2r.out hb)
  replace H3r := Aside0.mk (Kd.C_below H3r.out hb)
  replace H7r := Aside0.mk (Kd.C_below H7r.out hb)
  replace H2s := Aside0.mk (Kd.C_below H2s.out hb)
  replace H3s := Aside0.mk (Kd.C_below H3s.out hb)
  replace H7s := Aside0.mk (Kd.C_below H7s.out hb)
  clear hb
  try dsimp only
  repeat ((fail_if_success (show Oper.wp _ (Oper.mk _ (Op.load 50 _) _ _ _ _) _ _ _ _)); (first | go_values | go_skip | go_guarded | go_step | go_upon | go_back))
  refine wp_load_row KY.out rfl rfl Try.underlying50 rfl (by kernel_rfl) ?_
  try go_simp
  go_wp2_with fail
  refine (CFs.out W1 H2s.out H3s.out H7s.out).mono ?_
  rintro e W2 ⟨rfl, hb⟩
  replace KX := Aside0.mk (blk_below KX.out hb)
  replace KY := Aside0.mk (blk_below KY.out hb)
  replace HB := Aside0.mk (HB.out.trans (hb.mono HB.out.size))
  replace H2r := Aside0.mk (Kd.C_below H2r.out hb)
  replace H3r := Aside0.mk (Kd.C_below H3r.out hb)
  replace H7r := Aside0.mk (Kd.C_below H7r.out hb)
  replace H2s := Aside0.mk (Kd.C_below H2s.out hb)
  replace H3s := Aside0.mk (Kd.C_below H3s.out hb)
  replace H7s := Aside0.mk (Kd.C_below H7s.out hb)
  clear hb
  try dsimp only
  repeat ((fail_if_success (show Oper.wp _ (Oper.mk _ (Op.load 50 _) _ _ _ _) _ _ _ _)); (first | go_values | go_skip | go_guarded | go_step | go_upon | go_back))
  refine wp_load_row KX.out rfl rfl Try.underlying50 rfl (by kernel_rfl) ?_
  try go_simp
  go_wp2_with fail
  refine (CEr.out W2 H2r.out H3r.out H7r.out).mono ?_
  rintro e W3 ⟨⟨vr, rfl, hR⟩, hb⟩
  obtain ⟨Ar, cpr, rfl⟩ := Kd.R_slice hR
  replace KX := Aside0.mk (blk_below KX.out hb)
  replace KY := Aside0.mk (blk_below KY.out hb)
  replace HB := Aside0.mk (HB.out.trans (hb.mono HB.out.size))
  replace H2r := Aside0.mk (Kd.C_below H2r.out hb)
  replace H3r := Aside0.mk (Kd.C_below H3r.out hb)
  replace H7r := Aside0.mk (Kd.C_below H7r.out hb)
  replace H2s := Aside0.mk (Kd.C_below H2s.out hb)
  replace H3s := Aside0.mk (Kd.C_below H3s.out hb)
  replace H7s := Aside0.mk (Kd.C_below H7s.out hb)
  clear hb
  clear hR
  try dsimp only
  repeat ((fail_if_success (show Oper.wp _ (Oper.mk _ (Op.load 50 _) _ _ _ _) _ _ _ _)); (first | go_values | go_skip | go_guarded | go_step | go_upon | go_back))
  refine wp_load_row KY.out rfl rfl Try.underlying50 rfl (by kernel_rfl) ?_
  try go_simp
  go_wp2_with fail
  refine (CEs.out W3 H2s.out H3s.out H7s.out).mono ?_
  rintro e W4 ⟨⟨vs, rfl, hR⟩, hb⟩
  obtain ⟨As, cps, rfl⟩ := Kd.R_slice hR
  replace KX := Aside0.mk (blk_below KX.out hb)
  replace KY := Aside0.mk (blk_below KY.out hb)
  replace HB := Aside0.mk (HB.out.trans (hb.mono HB.out.size))
  replace H2r := Aside0.mk (Kd.C_below H2r.out hb)
  replace H3r := Aside0.mk (Kd.C_below H3r.out hb)
  replace H7r := Aside0.mk (Kd.C_below H7r.out hb)
  replace H2s := Aside0.mk (Kd.C_below H2s.out hb)
  replace H3s := Aside0.mk (Kd.C_below H3s.out hb)
  replace H7s := Aside0.mk (Kd.C_below H7s.out hb)
  clear hb
  clear hR
  go_wp2_with fail
  refine (CA.out W4).mono ?_
  rintro e W5 ⟨rfl, hb⟩
  replace HB := Aside0.mk (HB.out.trans (hb.mono HB.out.size))
  clear hb
  go_wp2_with fail
  go_ret
  exact ⟨rfl, HB.out⟩
set_option maxHeartbeats 16000000 in
theorem wireAns_b4 (r s : Rs) (hur : okRs r) (hus : okRs s) (A2r : Option Addr) (c2r : Nat) (A3r : Option Addr) (c3r : Nat) (A7r : Option Addr) (c7r : Nat) (A2s : Option Addr) (c2s : Nat) (A3s : Option Addr) (c3s : Nat) (A7s : Option Addr) (c7s : Nat) (w : World) (h2r : Kd.C (Kd.int .i64) w A2r r.ids.length r.ids) (g2r : r.ids.length ≤ c2r) (h3r : Kd.C k29 w A3r r.rules.length r.rules) (g3r : r.rules.length ≤ c3r) (h7r : Kd.C (Kd.int .i64) w A7r r.dv.length r.dv) (g7r : r.dv.length ≤ c7r) (h2s : Kd.C (Kd.int .i64) w A2s s.ids.length s.ids) (g2s : s.ids.length ≤ c2s) (h3s : Kd.C k29 w A3s s.rules.length s.rules) (g3s : s.rules.length ≤ c3s) (h7s : Kd.C (Kd.int .i64) w A7s s.dv.length s.dv) (g7s : s.dv.length ≤ c7s) (f1 : fitsB zRq r = true) (f2 : fitsB zRq s = true) (e1 : (ansOut r).2 = 0) (e2 : (ansOut s).2 = 171) :
    Calls Try.prog 7 #[.agg #[.int .i64 r.e, .int .i64 r.n, (.slice A2r r.ids.length c2r), (.slice A3r r.rules.length c3r), .bool r.h, .int .i64 r.fr, .int .u32 r.ad, (.slice A7r r.dv.length c7r), .int .i64 r.ft, .int .i64 r.od, .int .i64 r.op], .agg #[.int .i64 s.e, .int .i64 s.n, (.slice A2s s.ids.length c2s), (.slice A3s s.rules.length c3s), .bool s.h, .int .i64 s.fr, .int .u32 s.ad, (.slice A7s s.dv.length c7s), .int .i64 s.ft, .int .i64 s.od, .int .i64 s.op]] w fun e w' => e = .returned (.bool true) ∧ Below w.heap.size w w' := by
  have CFr := Aside0.mk (fun (W : World) h2 h3 h7 => fits_any zRq r A2r c2r A3r c3r A7r c7r W h2 g2r h3 g3r h7 g7r)
  have CEr := Aside0.mk (fun (W : World) h2 h3 h7 => ans_any r A2r c2r A3r c3r A7r c7r W h2 h3 h7 hur.1 hur.2)
  have H2r := Aside0.mk h2r
  have H3r := Aside0.mk h3r
  have H7r := Aside0.mk h7r
  have CFs := Aside0.mk (fun (W : World) h2 h3 h7 => fits_any zRq s A2s c2s A3s c3s A7s c7s W h2 g2s h3 g3s h7 g7s)
  have CEs := Aside0.mk (fun (W : World) h2 h3 h7 => ans_any s A2s c2s A3s c3s A7s c7s W h2 h3 h7 hus.1 hus.2)
  have H2s := Aside0.mk h2s
  have H3s := Aside0.mk h3s
  have H7s := Aside0.mk h7s
  have CA := Aside0.mk alive_any
  rw [f1] at CFr
  rw [f2] at CFs
  rw [e1] at CEr
  rw [e2] at CEs
  generalize ansOut r = PR at *
  generalize ansOut s = PS at *
  try clear f1
  try clear f2
  try clear e1
  try clear e2
  clear g2r g3r g7r g2s g3s g7s
  obtain ⟨BR, hBR⟩ : ∃ x, x = (Obj.cells #[.int .i64 r.e, .int .i64 r.n, (.slice A2r r.ids.length c2r), (.slice A3r r.rules.length c3r), .bool r.h, .int .i64 r.fr, .int .u32 r.ad, (.slice A7r r.dv.length c7r), .int .i64 r.ft, .int .i64 r.od, .int .i64 r.op] 50) := ⟨_, rfl⟩
  obtain ⟨BS, hBS⟩ : ∃ x, x = (Obj.cells #[.int .i64 s.e, .int .i64 s.n, (.slice A2s s.ids.length c2s), (.slice A3s s.rules.length c3s), .bool s.h, .int .i64 s.fr, .int .u32 s.ad, (.slice A7s s.dv.length c7s), .int .i64 s.ft, .int .i64 s.od, .int .i64 s.op] 50) := ⟨_, rfl⟩
  have hba := (Below.refl w.heap.size w).alloc (Nat.le_refl _) BR
  have hbb := (Below.refl (w.alloc BR).heap.size (w.alloc BR)).alloc (Nat.le_refl _) BS
  have KX := Aside0.mk (blk_below (blk_new w BR) hbb)
  have KY0 := blk_new (w.alloc BR) BS
  have hsz : (w.alloc BR).heap.size = w.heap.size + 1 := by simp
  rw [hsz] at KY0
  have KY := Aside0.mk KY0
  have HB := Aside0.mk (hba.trans (hbb.mono hba.size))
  replace H2r := Aside0.mk (Kd.C_below H2r.out HB.out)
  replace H3r := Aside0.mk (Kd.C_below H3r.out HB.out)
  replace H7r := Aside0.mk (Kd.C_below H7r.out HB.out)
  replace H2s := Aside0.mk (Kd.C_below H2s.out HB.out)
  replace H3s := Aside0.mk (Kd.C_below H3s.out HB.out)
  replace H7s := Aside0.mk (Kd.C_below H7s.out HB.out)
  subst hBR hBS
  clear hba hbb KY0 hsz
  go_enter Try.func7, Try.ntmps7
  try dsimp only
  repeat ((fail_if_success (show Code.wp _ (Code.seq (Code.region 1 _ _) _) _ _ _)); (first | go_values | go_skip | go_guarded | go_step | go_upon | go_back))
  generalize ((w.alloc (.cells #[.int .i64 r.e, .int .i64 r.n, (.slice A2r r.ids.length c2r), (.slice A3r r.rules.length c3r), .bool r.h, .int .i64 r.fr, .int .u32 r.ad, (.slice A7r r.dv.length c7r), .int .i64 r.ft, .int .i64 r.od, .int .i64 r.op] 50)).alloc (.cells #[.int .i64 s.e, .int .i64 s.n, (.slice A2s s.ids.length c2s), (.slice A3s s.rules.length c3s), .bool s.h, .int .i64 s.fr, .int .u32 s.ad, (.slice A7s s.dv.length c7s), .int .i64 s.ft, .int .i64 s.od, .int .i64 s.op] 50)) = W0 at *
  obtain ⟨gY, hgY⟩ : ∃ g, w.heap.size + 1 = g := ⟨_, rfl⟩
  rw [hgY] at KY ⊢
  clear hgY
  try dsimp only
  repeat ((fail_if_success (show Oper.wp _ (Oper.mk _ (Op.load 50 _) _ _ _ _) _ _ _ _)); (first | go_values | go_skip | go_guarded | go_step | go_upon | go_back))
  refine wp_load_row KX.out rfl rfl Try.underlying50 rfl (by kernel_rfl) ?_
  try go_simp
  go_wp2_with fail
  refine (CFr.out W0 H2r.out H3r.out H7r.out).mono ?_
  rintro e W1 ⟨rfl, hb⟩
  replace KX := Aside0.mk (blk_below KX.out hb)
  replace KY := Aside0.mk (blk_below KY.out hb)
  replace HB := Aside0.mk (HB.out.trans (hb.mono HB.out.size))
  replace H2r := Aside0.mk (Kd.C_below H2r.out hb)
  replace H3r := Aside0.mk (Kd.C_below H3r.out hb)
  replace H7r := Aside0.mk (Kd.C_below H7r.out hb)
  replace H2s := Aside0.mk (Kd.C_below H2s.out hb)
  replace H3s := Aside0.mk (Kd.C_below H3s.out hb)
  replace H7s := Aside0.mk (Kd.C_below H7s.out hb)
  clear hb
  try dsimp only
  repeat ((fail_if_success (show Oper.wp _ (Oper.mk _ (Op.load 50 _) _ _ _ _) _ _ _ _)); (first | go_values | go_skip | go_guarded | go_step | go_upon | go_back))
  refine wp_load_row KY.out rfl rfl Try.underlying50 rfl (by kernel_rfl) ?_
  try go_simp
  go_wp2_with fail
  refine (CFs.out W1 H2s.out H3s.out H7s.out).mono ?_
  rintro e W2 ⟨rfl, hb⟩
  replace KX := Aside0.mk (blk_below KX.out hb)
  replace KY := Aside0.mk (blk_below KY.out hb)
  replace HB := Aside0.mk (HB.out.trans (hb.mono HB.out.size))
  replace H2r := Aside0.mk (Kd.C_below H2r.out hb)
  replace H3r := Aside0.mk (Kd.C_below H3r.out hb)
  replace H7r := Aside0.mk (Kd.C_below H7r.out hb)
  replace H2s := Aside0.mk (Kd.C_below H2s.out hb)
  replace H3s := Aside0.mk (Kd.C_below H3s.out hb)
  replace H7s := Aside0.mk (Kd.C_below H7s.out hb)
  clear hb
  try dsimp only
  repeat ((fail_if_success (show Oper.wp _ (Oper.mk _ (Op.load 50 _) _ _ _ _) _ _ _ _)); (first | go_values | go_skip | go_guarded | go_step | go_upon | go_back))
  refine wp_load_row KX.out rfl rfl Try.underlying50 rfl (by kernel_rfl) ?_
  try go_simp
  go_wp2_with fail
  refine (CEr.out W2 H2r.out H3r.out H7r.out).mono ?_
  rintro e W3 ⟨⟨vr, rfl, hR⟩, hb⟩
  obtain ⟨Ar, cpr, rfl⟩ := Kd.R_slice hR
  replace KX := Aside0.mk (blk_below KX.out hb)
  replace KY := Aside0.mk (blk_below KY.out hb)
  replace HB := Aside0.mk (HB.out.trans (hb.mono HB.out.size))
  replace H2r := Aside0.mk (Kd.C_below H2r.out hb)
  replace H3r := Aside0.mk (Kd.C_below H3r.out hb)
  replace H7r := Aside0.mk (Kd.C_below H7r.out hb)
  replace H2s := Aside0.mk (Kd.C_below H2s.out hb)
  replace H3s := Aside0.mk (Kd.C_below H3s.out hb)
  replace H7s := Aside0.mk (Kd.C_below H7s.out hb)
  clear hb
  clear hR
  try dsimp only
  repeat ((fail_if_success (show Oper.wp _ (Oper.mk _ (Op.load 50 _) _ _ _ _) _ _ _ _)); (first | go_values | go_skip | go_guarded | go_step | go_upon | go_back))
  refine wp_load_row KY.out rfl rfl Try.underlying50 rfl (by kernel_rfl) ?_
  try go_simp
  go_wp2_with fail
  refine (CEs.out W3 H2s.out H3s.out H7s.out).mono ?_
  rintro e W4 ⟨⟨vs, rfl, hR⟩, hb⟩
  obtain ⟨As, cps, rfl⟩ := Kd.R_slice hR
  replace KX := Aside0.mk (blk_below KX.out hb)
  replace KY := Aside0.mk (blk_below KY.out hb)
  replace HB := Aside0.mk (HB.out.trans (hb.mono HB.out.size))
  replace H2r := Aside0.mk (Kd.C_below H2r.out hb)
  replace H3r := Aside0.mk (Kd.C_below H3r.out hb)
  replace H7r := Aside0.mk (Kd.C_below H7r.out hb)
  replace H2s := Aside0.mk (Kd.C_below H2s.out hb)
  replace H3s := Aside0.mk (Kd.C_below H3s.out hb)
  replace H7s := Aside0.mk (Kd.C_below H7s.out hb)
  clear hb
  clear hR
  go_wp2_with fail
  refine (CA.out W4).mono ?_
  rintro e W5 ⟨rfl, hb⟩
  replace HB := Aside0.mk (HB.out.trans (hb.mono HB.out.size))
  clear hb
  go_wp2_with fail
  go_ret
  exact ⟨rfl, HB.out⟩
set_option maxHeartbeats 16000000 in
theorem wireAns_good (r s : Rs) (hur : okRs r) (hus : okRs s) (A2r : Option Addr) (c2r : Nat) (A3r : Option Addr) (c3r : Nat) (A7r : Option Addr) (c7r : Nat) (A2s : Option Addr) (c2s : Nat) (A3s : Option Addr) (c3s : Nat) (A7s : Option Addr) (c7s : Nat) (w : World) (h2r : Kd.C (Kd.int .i64) w A2r r.ids.length r.ids) (g2r : r.ids.length ≤ c2r) (h3r : Kd.C k29 w A3r r.rules.length r.rules) (g3r : r.rules.length ≤ c3r) (h7r : Kd.C (Kd.int .i64) w A7r r.dv.length r.dv) (g7r : r.dv.length ≤ c7r) (h2s : Kd.C (Kd.int .i64) w A2s s.ids.length s.ids) (g2s : s.ids.length ≤ c2s) (h3s : Kd.C k29 w A3s s.rules.length s.rules) (g3s : s.rules.length ≤ c3s) (h7s : Kd.C (Kd.int .i64) w A7s s.dv.length s.dv) (g7s : s.dv.length ≤ c7s) (L LB M Z : List Int) (f1 : fitsB zRq r = true) (f2 : fitsB zRq s = true) (e1 : ansOut r = (L, 0)) (e2 : ansOut s = (LB, 0)) (hD : readOut L = (r, 0)) (m1 : Rs) (hM : readOut M = (m1, 171)) (z1 : Rs) (hZ : readOut Z = (z1, 171)) (hLM : L.take M.length = M) (hml : L.length = M.length + 1) (hZL : Z = L ++ [0]) (bL : bytes L) (bM : bytes M) (bZ : bytes Z) (h2L : 2 ≤ L.length) (hle : L.length ≤ 100000) (hq : ((strOfNums L).toList == (strOfNums LB).toList) = sameB r s) (hrr : sameB r r = true) (q1 : r.ids.length ≤ 1000000) (q2 : r.rules.length ≤ 1000000) (q3 : r.dv.length ≤ 1000000) :
    Calls Try.prog 7 #[.agg #[.int .i64 r.e, .int .i64 r.n, (.slice A2r r.ids.length c2r), (.slice A3r r.rules.length c3r), .bool r.h, .int .i64 r.fr, .int .u32 r.ad, (.slice A7r r.dv.length c7r), .int .i64 r.ft, .int .i64 r.od, .int .i64 r.op], .agg #[.int .i64 s.e, .int .i64 s.n, (.slice A2s s.ids.length c2s), (.slice A3s s.rules.length c3s), .bool s.h, .int .i64 s.fr, .int .u32 s.ad, (.slice A7s s.dv.length c7s), .int .i64 s.ft, .int .i64 s.od, .int .i64 s.op]] w fun e w' => e = .returned (.bool true) ∧ Below w.heap.size w w' := by
  have CFr := Aside0.mk (fun (W : World) h2 h3 h7 => fits_any zRq r A2r c2r A3r c3r A7r c7r W h2 g2r h3 g3r h7 g7r)
  have CEr := Aside0.mk (fun (W : World) h2 h3 h7 => ans_any r A2r c2r A3r c3r A7r c7r W h2 h3 h7 hur.1 hur.2)
  have H2r := Aside0.mk h2r
  have H3r := Aside0.mk h3r
  have H7r := Aside0.mk h7r
  have CFs := Aside0.mk (fun (W : World) h2 h3 h7 => fits_any zRq s A2s c2s A3s c3s A7s c7s W h2 g2s h3 g3s h7 g7s)
  have CEs := Aside0.mk (fun (W : World) h2 h3 h7 => ans_any s A2s c2s A3s c3s A7s c7s W h2 h3 h7 hus.1 hus.2)
  have H2s := Aside0.mk h2s
  have H3s := Aside0.mk h3s
  have H7s := Aside0.mk h7s
  have CA := Aside0.mk alive_any
  rw [f1] at CFr
  rw [f2] at CFs
  rw [e1] at CEr
  rw [e2] at CEs
  simp only [] at CEr CEs
  have hzl : Z.length = L.length + 1 := by rw [hZL]; simp
  have CD := Aside0.mk (fun (W : World) A c (hA : Kd.C (Kd.int .u8) W A L.length L) (hc : L.length ≤ c) => read_any A c L W hA hc (by omega) bL)
  have CM := Aside0.mk (fun (W : World) A c (hA : Kd.C (Kd.int .u8) W A M.length M) (hc : M.length ≤ c) => read_any A c M W hA hc (by omega) bM)
  have CZ := Aside0.mk (fun (W : World) A c (hA : Kd.C (Kd.int .u8) W A Z.length Z) (hc : Z.length ≤ c) => read_any A c Z W hA hc (by omega) bZ)
  rw [hD] at CD
  rw [hM] at CM
  rw [hZ] at CZ
  try unfold rqVals at CD CM CZ
  try unfold rsVals at CD CM CZ
  simp only [] at CD CM CZ
  have CSL := Aside0.mk (fun W A c h => conv_S L W A c h)
  have CSK := Aside0.mk (fun W A c h => conv_S LB W A c h)
  generalize strOfNums L = sL at *
  generalize strOfNums LB = sK at *
  have HML := Aside0.mk hml
  have HLM := Aside0.mk hLM
  have HZL := Aside0.mk hZL
  have HZN := Aside0.mk hzl
  have HLE := Aside0.mk hle
  have h2 : ¬ ((L.length : Int) < 2) := by omega
  have hm1 : (L.length : Int) - 1 = (M.length : Int) := by omega
  have hwl := w64nA L.length hle
  have hwm := w64nA M.length (Nat.le_trans (by rw [hml]; exact Nat.le_succ _) hle)
  obtain ⟨i0, hi, hz0, hz1, hz2⟩ := info_parts info5
  clear f1 f2 e1 e2 hD hM hZ hLM hZL bL bM bZ h2L hle hml hzl
  have CSrr := Aside0.mk (fun (W : World) B2 d2 B3 d3 B7 d7 i2 j2 i3 j3 i7 j7 h2 h3 h7 => same_any r r B2 d2 B3 d3 B7 d7 A2r c2r A3r c3r A7r c7r W i2 j2 i3 j3 i7 j7 h2 g2r h3 g3r h7 g7r q1 q2 q3)
  rw [hrr] at CSrr
  have CSrs := Aside0.mk (fun (W : World) i2 i3 i7 h2 h3 h7 => same_any r s A2r c2r A3r c3r A7r c7r A2s c2s A3s c3s A7s c7s W i2 g2r i3 g3r i7 g7r h2 g2s h3 g3s h7 g7s q1 q2 q3)
  try unfold rsVals at CSrr CSrs
  try simp only [] at CSrr CSrs
  generalize sameB r s = qb at *
  clear hrr q1 q2 q3
  clear g2r g3r g7r g2s g3s g7s
  obtain ⟨BR, hBR⟩ : ∃ x, x = (Obj.cells #[.int .i64 r.e, .int .i64 r.n, (.slice A2r r.ids.length c2r), (.slice A3r r.rules.length c3r), .bool r.h, .int .i64 r.fr, .int .u32 r.ad, (.slice A7r r.dv.length c7r), .int .i64 r.ft, .int .i64 r.od, .int .i64 r.op] 50) := ⟨_, rfl⟩
  obtain ⟨BS, hBS⟩ : ∃ x, x = (Obj.cells #[.int .i64 s.e, .int .i64 s.n, (.slice A2s s.ids.length c2s), (.slice A3s s.rules.length c3s), .bool s.h, .int .i64 s.fr, .int .u32 s.ad, (.slice A7s s.dv.length c7s), .int .i64 s.ft, .int .i64 s.od, .int .i64 s.op] 50) := ⟨_, rfl⟩
  have hba := (Below.refl w.heap.size w).alloc (Nat.le_refl _) BR
  have hbb := (Below.refl (w.alloc BR).heap.size (w.alloc BR)).alloc (Nat.le_refl _) BS
  have KX := Aside0.mk (blk_below (blk_new w BR) hbb)
  have KY0 := blk_new (w.alloc BR) BS
  have hsz : (w.alloc BR).heap.size = w.heap.size + 1 := by simp
  rw [hsz] at KY0
  have KY := Aside0.mk KY0
  have HB := Aside0.mk (hba.trans (hbb.mono hba.size))
  replace H2r := Aside0.mk (Kd.C_below H2r.out HB.out)
  replace H3r := Aside0.mk (Kd.C_below H3r.out HB.out)
  replace H7r := Aside0.mk (Kd.C_below H7r.out HB.out)
  replace H2s := Aside0.mk (Kd.C_below H2s.out HB.out)
  replace H3s := Aside0.mk (Kd.C_below H3s.out HB.out)
  replace H7s := Aside0.mk (Kd.C_below H7s.out HB.out)
  subst hBR hBS
  clear hba hbb KY0 hsz
  go_enter Try.func7, Try.ntmps7
  try dsimp only
  repeat ((fail_if_success (show Code.wp _ (Code.seq (Code.region 1 _ _) _) _ _ _)); (first | go_values | go_skip | go_guarded | go_step | go_upon | go_back))
  generalize ((w.alloc (.cells #[.int .i64 r.e, .int .i64 r.n, (.slice A2r r.ids.length c2r), (.slice A3r r.rules.length c3r), .bool r.h, .int .i64 r.fr, .int .u32 r.ad, (.slice A7r r.dv.length c7r), .int .i64 r.ft, .int .i64 r.od, .int .i64 r.op] 50)).alloc (.cells #[.int .i64 s.e, .int .i64 s.n, (.slice A2s s.ids.length c2s), (.slice A3s s.rules.length c3s), .bool s.h, .int .i64 s.fr, .int .u32 s.ad, (.slice A7s s.dv.length c7s), .int .i64 s.ft, .int .i64 s.od, .int .i64 s.op] 50)) = W0 at *
  obtain ⟨gY, hgY⟩ : ∃ g, w.heap.size + 1 = g := ⟨_, rfl⟩
  rw [hgY] at KY ⊢
  clear hgY
  try dsimp only
  repeat ((fail_if_success (show Oper.wp _ (Oper.mk _ (Op.load 50 _) _ _ _ _) _ _ _ _)); (first | go_values | go_skip | go_guarded | go_step | go_upon | go_back))
  refine wp_load_row KX.out rfl rfl Try.underlying50 rfl (by kernel_rfl) ?_
  try go_simp
  go_wp2_with fail
  refine (CFr.out W0 H2r.out H3r.out H7r.out).mono ?_
  rintro e W1 ⟨rfl, hb⟩
  replace KX := Aside0.mk (blk_below KX.out hb)
  replace KY := Aside0.mk (blk_below KY.out hb)
  replace HB := Aside0.mk (HB.out.trans (hb.mono HB.out.size))
  replace H2r := Aside0.mk (Kd.C_below H2r.out hb)
  replace H3r := Aside0.mk (Kd.C_below H3r.out hb)
  replace H7r := Aside0.mk (Kd.C_below H7r.out hb)
  replace H2s := Aside0.mk (Kd.C_below H2s.out hb)
  replace H3s := Aside0.mk (Kd.C_below H3s.out hb)
  replace H7s := Aside0.mk (Kd.C_below H7s.out hb)
  clear hb
  try dsimp only
  repeat ((fail_if_success (show Oper.wp _ (Oper.mk _ (Op.load 50 _) _ _ _ _) _ _ _ _)); (first | go_values | go_skip | go_guarded | go_step | go_upon | go_back))
  refine wp_load_row KY.out rfl rfl Try.underlying50 rfl (by kernel_rfl) ?_
  try go_simp
  go_wp2_with fail
  refine (CFs.out W1 H2s.out H3s.out H7s.out).mono ?_
  rintro e W2 ⟨rfl, hb⟩
  replace KX := Aside0.mk (blk_below KX.out hb)
  replace KY := Aside0.mk (blk_below KY.out hb)
  replace HB := Aside0.mk (HB.out.trans (hb.mono HB.out.size))
  replace H2r := Aside0.mk (Kd.C_below H2r.out hb)
  replace H3r := Aside0.mk (Kd.C_below H3r.out hb)
  replace H7r := Aside0.mk (Kd.C_below H7r.out hb)
  replace H2s := Aside0.mk (Kd.C_below H2s.out hb)
  replace H3s := Aside0.mk (Kd.C_below H3s.out hb)
  replace H7s := Aside0.mk (Kd.C_below H7s.out hb)
  clear hb
  try dsimp only
  repeat ((fail_if_success (show Oper.wp _ (Oper.mk _ (Op.load 50 _) _ _ _ _) _ _ _ _)); (first | go_values | go_skip | go_guarded | go_step | go_upon | go_back))
  refine wp_load_row KX.out rfl rfl Try.underlying50 rfl (by kernel_rfl) ?_
  try go_simp
  go_wp2_with fail
  refine (CEr.out W2 H2r.out H3r.out H7r.out).mono ?_
  rintro e W3 ⟨⟨vr, rfl, hR⟩, hb⟩
  obtain ⟨Ar, cpr, rfl⟩ := Kd.R_slice hR
  replace KX := Aside0.mk (blk_below KX.out hb)
  replace KY := Aside0.mk (blk_below KY.out hb)
  replace HB := Aside0.mk (HB.out.trans (hb.mono HB.out.size))
  replace H2r := Aside0.mk (Kd.C_below H2r.out hb)
  replace H3r := Aside0.mk (Kd.C_below H3r.out hb)
  replace H7r := Aside0.mk (Kd.C_below H7r.out hb)
  replace H2s := Aside0.mk (Kd.C_below H2s.out hb)
  replace H3s := Aside0.mk (Kd.C_below H3s.out hb)
  replace H7s := Aside0.mk (Kd.C_below H7s.out hb)
  clear hb
  have HX := Aside0.mk (Kd.R_reads' hR).2.2
  have HXc := Aside0.mk (Kd.R_reads' hR).2.1
  clear hR
  try dsimp only
  repeat ((fail_if_success (show Oper.wp _ (Oper.mk _ (Op.load 50 _) _ _ _ _) _ _ _ _)); (first | go_values | go_skip | go_guarded | go_step | go_upon | go_back))
  refine wp_load_row KY.out rfl rfl Try.underlying50 rfl (by kernel_rfl) ?_
  try go_simp
  go_wp2_with fail
  refine (CEs.out W3 H2s.out H3s.out H7s.out).mono ?_
  rintro e W4 ⟨⟨vs, rfl, hR⟩, hb⟩
  obtain ⟨As, cps, rfl⟩ := Kd.R_slice hR
  replace KX := Aside0.mk (blk_below KX.out hb)
  replace KY := Aside0.mk (blk_below KY.out hb)
  replace HB := Aside0.mk (HB.out.trans (hb.mono HB.out.size))
  replace H2r := Aside0.mk (Kd.C_below H2r.out hb)
  replace H3r := Aside0.mk (Kd.C_below H3r.out hb)
  replace H7r := Aside0.mk (Kd.C_below H7r.out hb)
  replace H2s := Aside0.mk (Kd.C_below H2s.out hb)
  replace H3s := Aside0.mk (Kd.C_below H3s.out hb)
  replace H7s := Aside0.mk (Kd.C_below H7s.out hb)
  replace HX := Aside0.mk (Kd.C_below HX.out hb)
  clear hb
  have HY := Aside0.mk (Kd.R_reads' hR).2.2
  clear hR
  go_wp2_with fail
  refine (CD.out W4 Ar cpr HX.out HXc.out).mono ?_
  rintro e W5 ⟨⟨v2, v3, v7, rfl, hO⟩, hb⟩
  obtain ⟨A2p, c2p, rfl, l2p, hO2⟩ := Kd.R_reads hO.1
  obtain ⟨A3p, c3p, rfl, l3p, hO3⟩ := Kd.R_reads hO.2.1
  obtain ⟨A7p, c7p, rfl, l7p, hO7⟩ := Kd.R_reads hO.2.2
  replace KX := Aside0.mk (blk_below KX.out hb)
  replace KY := Aside0.mk (blk_below KY.out hb)
  replace HB := Aside0.mk (HB.out.trans (hb.mono HB.out.size))
  replace H2r := Aside0.mk (Kd.C_below H2r.out hb)
  replace H3r := Aside0.mk (Kd.C_below H3r.out hb)
  replace H7r := Aside0.mk (Kd.C_below H7r.out hb)
  replace H2s := Aside0.mk (Kd.C_below H2s.out hb)
  replace H3s := Aside0.mk (Kd.C_below H3s.out hb)
  replace H7s := Aside0.mk (Kd.C_below H7s.out hb)
  replace HX := Aside0.mk (Kd.C_below HX.out hb)
  replace HY := Aside0.mk (Kd.C_below HY.out hb)
  clear hb
  have H2p := Aside0.mk hO2
  have H3p := Aside0.mk hO3
  have H7p := Aside0.mk hO7
  have G2p := Aside0.mk l2p
  have G3p := Aside0.mk l3p
  have G7p := Aside0.mk l7p
  clear hO hO2 hO3 hO7 l2p l3p l7p
  have hlo := HB.out.size
  have hbn := (Below.refl W5.heap.size W5).alloc (Nat.le_refl _) (.cells #[.int .i64 0, .int .i64 0, .slice none 0 0, .slice none 0 0, .bool false, .int .i64 0, .int .u32 0, .slice none 0 0, .int .i64 0, .int .i64 0, .int .i64 0] 50)
  have KP := Aside0.mk (blk_new W5 (.cells #[.int .i64 0, .int .i64 0, .slice none 0 0, .slice none 0 0, .bool false, .int .i64 0, .int .u32 0, .slice none 0 0, .int .i64 0, .int .i64 0, .int .i64 0] 50))
  have hbr := below_row (B := W5.heap.size) hbn (Nat.le_refl _) (C := #[.int .i64 r.e, .int .i64 r.n, (.slice A2p r.ids.length c2p), (.slice A3p r.rules.length c3p), .bool r.h, .int .i64 r.fr, .int .u32 r.ad, (.slice A7p r.dv.length c7p), .int .i64 r.ft, .int .i64 r.od, .int .i64 r.op])
  replace KX := Aside0.mk (blk_below KX.out hbr)
  replace KY := Aside0.mk (blk_below KY.out hbr)
  replace HB := Aside0.mk (HB.out.trans (hbr.mono HB.out.size))
  replace H2r := Aside0.mk (Kd.C_below H2r.out hbr)
  replace H3r := Aside0.mk (Kd.C_below H3r.out hbr)
  replace H7r := Aside0.mk (Kd.C_below H7r.out hbr)
  replace H2s := Aside0.mk (Kd.C_below H2s.out hbr)
  replace H3s := Aside0.mk (Kd.C_below H3s.out hbr)
  replace H7s := Aside0.mk (Kd.C_below H7s.out hbr)
  replace HX := Aside0.mk (Kd.C_below HX.out hbr)
  replace HY := Aside0.mk (Kd.C_below HY.out hbr)
  replace H2p := Aside0.mk (Kd.C_below H2p.out hbr)
  replace H3p := Aside0.mk (Kd.C_below H3p.out hbr)
  replace H7p := Aside0.mk (Kd.C_below H7p.out hbr)
  clear hbn hbr hlo
  try dsimp only
  repeat ((fail_if_success (show Oper.wp _ (Oper.mk none (Op.store _ _ _) _ _ _ _) _ _ _ _)); (first | go_values | go_skip | go_guarded | go_step | go_upon | go_back))
  refine wp_store_row (c' := #[.int .i64 r.e, .int .i64 r.n, (.slice A2p r.ids.length c2p), (.slice A3p r.rules.length c3p), .bool r.h, .int .i64 r.fr, .int .u32 r.ad, (.slice A7p r.dv.length c7p), .int .i64 r.ft, .int .i64 r.od, .int .i64 r.op]) KP.out rfl rfl rfl rfl (by kernel_rfl) rfl (by simp [Value.oneCell']) ?_
  replace KP := Aside0.mk (heap_setRow_self (cs := #[.int .i64 r.e, .int .i64 r.n, (.slice A2p r.ids.length c2p), (.slice A3p r.rules.length c3p), .bool r.h, .int .i64 r.fr, .int .u32 r.ad, (.slice A7p r.dv.length c7p), .int .i64 r.ft, .int .i64 r.od, .int .i64 r.op]) KP.out)
  generalize ((W5.alloc (.cells #[.int .i64 0, .int .i64 0, .slice none 0 0, .slice none 0 0, .bool false, .int .i64 0, .int .u32 0, .slice none 0 0, .int .i64 0, .int .i64 0, .int .i64 0] 50)).setRow W5.heap.size #[.int .i64 r.e, .int .i64 r.n, (.slice A2p r.ids.length c2p), (.slice A3p r.rules.length c3p), .bool r.h, .int .i64 r.fr, .int .u32 r.ad, (.slice A7p r.dv.length c7p), .int .i64 r.ft, .int .i64 r.od, .int .i64 r.op]) = W6 at *
  obtain ⟨gKP, hgKP⟩ : ∃ g, W5.heap.size = g := ⟨_, rfl⟩
  rw [hgKP] at KP ⊢
  clear hgKP
  have hmc : (M.length : Int) ≤ (cpr : Int) := by have := HXc.out; have := HML.out; omega
  have hmc2 : M.length ≤ cpr := by have := HXc.out; have := HML.out; omega
  have hmt := Kd.C_take HX.out (m := M.length) (by have := HML.out; omega)
  rw [HLM.out] at hmt
  have HM := Aside0.mk hmt
  clear hmt
  go_wp2_with fail
  refine (CM.out W6 Ar cpr HM.out hmc2).mono ?_
  rintro e W7 ⟨⟨v2, v3, v7, rfl, hO⟩, hb⟩
  obtain ⟨A2m, c2m, rfl, l2m, hO2⟩ := Kd.R_reads hO.1
  obtain ⟨A3m, c3m, rfl, l3m, hO3⟩ := Kd.R_reads hO.2.1
  obtain ⟨A7m, c7m, rfl, l7m, hO7⟩ := Kd.R_reads hO.2.2
  replace KX := Aside0.mk (blk_below KX.out hb)
  replace KY := Aside0.mk (blk_below KY.out hb)
  replace HB := Aside0.mk (HB.out.trans (hb.mono HB.out.size))
  replace H2r := Aside0.mk (Kd.C_below H2r.out hb)
  replace H3r := Aside0.mk (Kd.C_below H3r.out hb)
  replace H7r := Aside0.mk (Kd.C_below H7r.out hb)
  replace H2s := Aside0.mk (Kd.C_below H2s.out hb)
  replace H3s := Aside0.mk (Kd.C_below H3s.out hb)
  replace H7s := Aside0.mk (Kd.C_below H7s.out hb)
  replace HX := Aside0.mk (Kd.C_below HX.out hb)
  replace HY := Aside0.mk (Kd.C_below HY.out hb)
  replace H2p := Aside0.mk (Kd.C_below H2p.out hb)
  replace H3p := Aside0.mk (Kd.C_below H3p.out hb)
  replace H7p := Aside0.mk (Kd.C_below H7p.out hb)
  replace KP := Aside0.mk (blk_below KP.out hb)
  replace HM := Aside0.mk (Kd.C_below HM.out hb)
  clear hb
  have H2m := Aside0.mk hO2
  have H3m := Aside0.mk hO3
  have H7m := Aside0.mk hO7
  have G2m := Aside0.mk l2m
  have G3m := Aside0.mk l3m
  have G7m := Aside0.mk l7m
  clear hO hO2 hO3 hO7 l2m l3m l7m
  have hlo := HB.out.size
  have hbn := (Below.refl W7.heap.size W7).alloc (Nat.le_refl _) (.cells #[.int .i64 0, .int .i64 0, .slice none 0 0, .slice none 0 0, .bool false, .int .i64 0, .int .u32 0, .slice none 0 0, .int .i64 0, .int .i64 0, .int .i64 0] 50)
  have KM := Aside0.mk (blk_new W7 (.cells #[.int .i64 0, .int .i64 0, .slice none 0 0, .slice none 0 0, .bool false, .int .i64 0, .int .u32 0, .slice none 0 0, .int .i64 0, .int .i64 0, .int .i64 0] 50))
  have hbr := below_row (B := W7.heap.size) hbn (Nat.le_refl _) (C := #[.int .i64 m1.e, .int .i64 m1.n, (.slice A2m m1.ids.length c2m), (.slice A3m m1.rules.length c3m), .bool m1.h, .int .i64 m1.fr, .int .u32 m1.ad, (.slice A7m m1.dv.length c7m), .int .i64 m1.ft, .int .i64 m1.od, .int .i64 m1.op])
  replace KX := Aside0.mk (blk_below KX.out hbr)
  replace KY := Aside0.mk (blk_below KY.out hbr)
  replace HB := Aside0.mk (HB.out.trans (hbr.mono HB.out.size))
  replace H2r := Aside0.mk (Kd.C_below H2r.out hbr)
  replace H3r := Aside0.mk (Kd.C_below H3r.out hbr)
  replace H7r := Aside0.mk (Kd.C_below H7r.out hbr)
  replace H2s := Aside0.mk (Kd.C_below H2s.out hbr)
  replace H3s := Aside0.mk (Kd.C_below H3s.out hbr)
  replace H7s := Aside0.mk (Kd.C_below H7s.out hbr)
  replace HX := Aside0.mk (Kd.C_below HX.out hbr)
  replace HY := Aside0.mk (Kd.C_below HY.out hbr)
  replace H2p := Aside0.mk (Kd.C_below H2p.out hbr)
  replace H3p := Aside0.mk (Kd.C_below H3p.out hbr)
  replace H7p := Aside0.mk (Kd.C_below H7p.out hbr)
  replace KP := Aside0.mk (blk_below KP.out hbr)
  replace HM := Aside0.mk (Kd.C_below HM.out hbr)
  replace H2m := Aside0.mk (Kd.C_below H2m.out hbr)
  replace H3m := Aside0.mk (Kd.C_below H3m.out hbr)
  replace H7m := Aside0.mk (Kd.C_below H7m.out hbr)
  clear hbn hbr hlo
  try dsimp only
  repeat ((fail_if_success (show Oper.wp _ (Oper.mk none (Op.store _ _ _) _ _ _ _) _ _ _ _)); (first | go_values | go_skip | go_guarded | go_step | go_upon | go_back))
  refine wp_store_row (c' := #[.int .i64 m1.e, .int .i64 m1.n, (.slice A2m m1.ids.length c2m), (.slice A3m m1.rules.length c3m), .bool m1.h, .int .i64 m1.fr, .int .u32 m1.ad, (.slice A7m m1.dv.length c7m), .int .i64 m1.ft, .int .i64 m1.od, .int .i64 m1.op]) KM.out rfl rfl rfl rfl (by kernel_rfl) rfl (by simp [Value.oneCell']) ?_
  replace KM := Aside0.mk (heap_setRow_self (cs := #[.int .i64 m1.e, .int .i64 m1.n, (.slice A2m m1.ids.length c2m), (.slice A3m m1.rules.length c3m), .bool m1.h, .int .i64 m1.fr, .int .u32 m1.ad, (.slice A7m m1.dv.length c7m), .int .i64 m1.ft, .int .i64 m1.od, .int .i64 m1.op]) KM.out)
  generalize ((W7.alloc (.cells #[.int .i64 0, .int .i64 0, .slice none 0 0, .slice none 0 0, .bool false, .int .i64 0, .int .u32 0, .slice none 0 0, .int .i64 0, .int .i64 0, .int .i64 0] 50)).setRow W7.heap.size #[.int .i64 m1.e, .int .i64 m1.n, (.slice A2m m1.ids.length c2m), (.slice A3m m1.rules.length c3m), .bool m1.h, .int .i64 m1.fr, .int .u32 m1.ad, (.slice A7m m1.dv.length c7m), .int .i64 m1.ft, .int .i64 m1.od, .int .i64 m1.op]) = W8 at *
  obtain ⟨gKM, hgKM⟩ : ∃ g, W7.heap.size = g := ⟨_, rfl⟩
  rw [hgKM] at KM ⊢
  clear hgKM
  clear hmc hmc2 HM
  obtain ⟨ad, rfl, _⟩ := HX.out.2.2 (by have := HML.out; omega)
  have hfit : ∀ n : Nat, n ≤ 100001 → n ≤ maxLen := fun n h => by unfold maxLen; omega
  go_wp2_with (first | (at_builtin; refine wpList_append_own _ rfl (.tmp 63) (.tmp 64) 37 rfl W8.heap.size 5 i0 (.int .u8 0) 1 1 Try.underlying37 hi hz0 hz1 hz2 rfl (by decide) (.slice (some ⟨W8.heap.size, 0, none⟩) 0 0) 0 [] rfl ⟨rfl, .inr ⟨W8.heap.size, 0, #[], rfl, Nat.le_refl _, blk_new _ _, Nat.le_refl _, by decide, rfl, rfl⟩⟩ ad L.length cpr (nums .u8 L) rfl (by simp [nums]) (fun j u hu => reads_nums (Kd.C_alloc HX.out _) ad rfl j u hu) (fun u hu => ints_oneCell .u8 L u hu) (hfit _ (by have := HLE.out; omega)) (by have := HLE.out; omega) (by simp) ?_; intro v2 W9 ho3 hg3 _; have hb3 := ((Below.refl W8.heap.size W8).alloc (Nat.le_refl _) (.cells #[] 5)).grown hg3 (by simp) (fun q hq => by simp [Value.ownBlock] at hq; omega); rw [Nat.zero_add, List.nil_append] at ho3; have HO := Aside0.mk ho3; have HG := Aside0.mk hb3; clear hg3 ho3 hb3) | (at_builtin; refine print_append (w0 := W8) W8.heap.size rfl (.tmp 65) (.tmp 66) 37 5 (.int .u8 0) 1 rfl Try.underlying37 info5 rfl (by decide) v2 (nums .u8 L) (.int .u8 0) rfl rfl rfl (by simpa [nums] using HO.out) HG.out HG.out.size (by have := HLE.out; simp [nums]; omega) ?_; intro v3 W10 ho4 hb _ _; have HO4 := Aside0.mk ho4; have HG4 := Aside0.mk hb; clear ho4 hb HO HG))
  have hb := HG4.out
  have hRz : (Kd.int .u8).R 5 W10 W8.heap.size (fun _ => True) v3 Z := Kd.R_of_own (enc := Value.int .u8) (by rw [HZL.out]; simpa [nums, encs] using HO4.out) (fun _ _ => trivial)
  obtain ⟨Az, cz, rfl, hcz, hCz⟩ := Kd.R_reads hRz
  replace KX := Aside0.mk (blk_below KX.out hb)
  replace KY := Aside0.mk (blk_below KY.out hb)
  replace HB := Aside0.mk (HB.out.trans (hb.mono HB.out.size))
  replace H2r := Aside0.mk (Kd.C_below H2r.out hb)
  replace H3r := Aside0.mk (Kd.C_below H3r.out hb)
  replace H7r := Aside0.mk (Kd.C_below H7r.out hb)
  replace H2s := Aside0.mk (Kd.C_below H2s.out hb)
  replace H3s := Aside0.mk (Kd.C_below H3s.out hb)
  replace H7s := Aside0.mk (Kd.C_below H7s.out hb)
  replace HX := Aside0.mk (Kd.C_below HX.out hb)
  replace HY := Aside0.mk (Kd.C_below HY.out hb)
  replace H2p := Aside0.mk (Kd.C_below H2p.out hb)
  replace H3p := Aside0.mk (Kd.C_below H3p.out hb)
  replace H7p := Aside0.mk (Kd.C_below H7p.out hb)
  replace KP := Aside0.mk (blk_below KP.out hb)
  replace H2m := Aside0.mk (Kd.C_below H2m.out hb)
  replace H3m := Aside0.mk (Kd.C_below H3m.out hb)
  replace H7m := Aside0.mk (Kd.C_below H7m.out hb)
  clear hb HO4 HG4 hRz
  have HZ := Aside0.mk hCz
  have HZc := Aside0.mk hcz
  clear hcz hCz
  go_wp2_with fail
  refine (CZ.out W10 Az cz HZ.out HZc.out).mono ?_
  rintro e W11 ⟨⟨v2, v3, v7, rfl, hO⟩, hb⟩
  obtain ⟨A2z, c2z, rfl, l2z, hO2⟩ := Kd.R_reads hO.1
  obtain ⟨A3z, c3z, rfl, l3z, hO3⟩ := Kd.R_reads hO.2.1
  obtain ⟨A7z, c7z, rfl, l7z, hO7⟩ := Kd.R_reads hO.2.2
  replace KX := Aside0.mk (blk_below KX.out hb)
  replace KY := Aside0.mk (blk_below KY.out hb)
  replace HB := Aside0.mk (HB.out.trans (hb.mono HB.out.size))
  replace H2r := Aside0.mk (Kd.C_below H2r.out hb)
  replace H3r := Aside0.mk (Kd.C_below H3r.out hb)
  replace H7r := Aside0.mk (Kd.C_below H7r.out hb)
  replace H2s := Aside0.mk (Kd.C_below H2s.out hb)
  replace H3s := Aside0.mk (Kd.C_below H3s.out hb)
  replace H7s := Aside0.mk (Kd.C_below H7s.out hb)
  replace HX := Aside0.mk (Kd.C_below HX.out hb)
  replace HY := Aside0.mk (Kd.C_below HY.out hb)
  replace H2p := Aside0.mk (Kd.C_below H2p.out hb)
  replace H3p := Aside0.mk (Kd.C_below H3p.out hb)
  replace H7p := Aside0.mk (Kd.C_below H7p.out hb)
  replace KP := Aside0.mk (blk_below KP.out hb)
  replace H2m := Aside0.mk (Kd.C_below H2m.out hb)
  replace H3m := Aside0.mk (Kd.C_below H3m.out hb)
  replace H7m := Aside0.mk (Kd.C_below H7m.out hb)
  replace HZ := Aside0.mk (Kd.C_below HZ.out hb)
  clear hb
  have H2z := Aside0.mk hO2
  have H3z := Aside0.mk hO3
  have H7z := Aside0.mk hO7
  have G2z := Aside0.mk l2z
  have G3z := Aside0.mk l3z
  have G7z := Aside0.mk l7z
  clear hO hO2 hO3 hO7 l2z l3z l7z
  have hlo := HB.out.size
  have hbn := (Below.refl W11.heap.size W11).alloc (Nat.le_refl _) (.cells #[.int .i64 0, .int .i64 0, .slice none 0 0, .slice none 0 0, .bool false, .int .i64 0, .int .u32 0, .slice none 0 0, .int .i64 0, .int .i64 0, .int .i64 0] 50)
  have KZ := Aside0.mk (blk_new W11 (.cells #[.int .i64 0, .int .i64 0, .slice none 0 0, .slice none 0 0, .bool false, .int .i64 0, .int .u32 0, .slice none 0 0, .int .i64 0, .int .i64 0, .int .i64 0] 50))
  have hbr := below_row (B := W11.heap.size) hbn (Nat.le_refl _) (C := #[.int .i64 z1.e, .int .i64 z1.n, (.slice A2z z1.ids.length c2z), (.slice A3z z1.rules.length c3z), .bool z1.h, .int .i64 z1.fr, .int .u32 z1.ad, (.slice A7z z1.dv.length c7z), .int .i64 z1.ft, .int .i64 z1.od, .int .i64 z1.op])
  replace KX := Aside0.mk (blk_below KX.out hbr)
  replace KY := Aside0.mk (blk_below KY.out hbr)
  replace HB := Aside0.mk (HB.out.trans (hbr.mono HB.out.size))
  replace H2r := Aside0.mk (Kd.C_below H2r.out hbr)
  replace H3r := Aside0.mk (Kd.C_below H3r.out hbr)
  replace H7r := Aside0.mk (Kd.C_below H7r.out hbr)
  replace H2s := Aside0.mk (Kd.C_below H2s.out hbr)
  replace H3s := Aside0.mk (Kd.C_below H3s.out hbr)
  replace H7s := Aside0.mk (Kd.C_below H7s.out hbr)
  replace HX := Aside0.mk (Kd.C_below HX.out hbr)
  replace HY := Aside0.mk (Kd.C_below HY.out hbr)
  replace H2p := Aside0.mk (Kd.C_below H2p.out hbr)
  replace H3p := Aside0.mk (Kd.C_below H3p.out hbr)
  replace H7p := Aside0.mk (Kd.C_below H7p.out hbr)
  replace KP := Aside0.mk (blk_below KP.out hbr)
  replace H2m := Aside0.mk (Kd.C_below H2m.out hbr)
  replace H3m := Aside0.mk (Kd.C_below H3m.out hbr)
  replace H7m := Aside0.mk (Kd.C_below H7m.out hbr)
  replace HZ := Aside0.mk (Kd.C_below HZ.out hbr)
  replace H2z := Aside0.mk (Kd.C_below H2z.out hbr)
  replace H3z := Aside0.mk (Kd.C_below H3z.out hbr)
  replace H7z := Aside0.mk (Kd.C_below H7z.out hbr)
  clear hbn hbr hlo
  try dsimp only
  repeat ((fail_if_success (show Oper.wp _ (Oper.mk none (Op.store _ _ _) _ _ _ _) _ _ _ _)); (first | go_values | go_skip | go_guarded | go_step | go_upon | go_back))
  refine wp_store_row (c' := #[.int .i64 z1.e, .int .i64 z1.n, (.slice A2z z1.ids.length c2z), (.slice A3z z1.rules.length c3z), .bool z1.h, .int .i64 z1.fr, .int .u32 z1.ad, (.slice A7z z1.dv.length c7z), .int .i64 z1.ft, .int .i64 z1.od, .int .i64 z1.op]) KZ.out rfl rfl rfl rfl (by kernel_rfl) rfl (by simp [Value.oneCell']) ?_
  replace KZ := Aside0.mk (heap_setRow_self (cs := #[.int .i64 z1.e, .int .i64 z1.n, (.slice A2z z1.ids.length c2z), (.slice A3z z1.rules.length c3z), .bool z1.h, .int .i64 z1.fr, .int .u32 z1.ad, (.slice A7z z1.dv.length c7z), .int .i64 z1.ft, .int .i64 z1.od, .int .i64 z1.op]) KZ.out)
  generalize ((W11.alloc (.cells #[.int .i64 0, .int .i64 0, .slice none 0 0, .slice none 0 0, .bool false, .int .i64 0, .int .u32 0, .slice none 0 0, .int .i64 0, .int .i64 0, .int .i64 0] 50)).setRow W11.heap.size #[.int .i64 z1.e, .int .i64 z1.n, (.slice A2z z1.ids.length c2z), (.slice A3z z1.rules.length c3z), .bool z1.h, .int .i64 z1.fr, .int .u32 z1.ad, (.slice A7z z1.dv.length c7z), .int .i64 z1.ft, .int .i64 z1.od, .int .i64 z1.op]) = W12 at *
  obtain ⟨gKZ, hgKZ⟩ : ∃ g, W11.heap.size = g := ⟨_, rfl⟩
  rw [hgKZ] at KZ ⊢
  clear hgKZ
  clear HZ HZc KM KZ
  have hbd := below_drew (Below.refl W12.heap.size W12)
  replace KX := Aside0.mk (blk_below KX.out hbd)
  replace KY := Aside0.mk (blk_below KY.out hbd)
  replace HB := Aside0.mk (HB.out.trans (hbd.mono HB.out.size))
  replace H2r := Aside0.mk (Kd.C_below H2r.out hbd)
  replace H3r := Aside0.mk (Kd.C_below H3r.out hbd)
  replace H7r := Aside0.mk (Kd.C_below H7r.out hbd)
  replace H2s := Aside0.mk (Kd.C_below H2s.out hbd)
  replace H3s := Aside0.mk (Kd.C_below H3s.out hbd)
  replace H7s := Aside0.mk (Kd.C_below H7s.out hbd)
  replace HX := Aside0.mk (Kd.C_below HX.out hbd)
  replace HY := Aside0.mk (Kd.C_below HY.out hbd)
  replace H2p := Aside0.mk (Kd.C_below H2p.out hbd)
  replace H3p := Aside0.mk (Kd.C_below H3p.out hbd)
  replace H7p := Aside0.mk (Kd.C_below H7p.out hbd)
  replace KP := Aside0.mk (blk_below KP.out hbd)
  clear hbd
  have SW12 : (fun w' => w'.heap[w.heap.size]? = some (.cells #[.int .i64 r.e, .int .i64 r.n, (.slice A2r r.ids.length c2r), (.slice A3r r.rules.length c3r), .bool r.h, .int .i64 r.fr, .int .u32 r.ad, (.slice A7r r.dv.length c7r), .int .i64 r.ft, .int .i64 r.od, .int .i64 r.op] 50 (0, 0)) ∧ w'.heap[gY]? = some (.cells #[.int .i64 s.e, .int .i64 s.n, (.slice A2s s.ids.length c2s), (.slice A3s s.rules.length c3s), .bool s.h, .int .i64 s.fr, .int .u32 s.ad, (.slice A7s s.dv.length c7s), .int .i64 s.ft, .int .i64 s.od, .int .i64 s.op] 50 (0, 0)) ∧ w'.heap[gKP]? = some (.cells #[.int .i64 r.e, .int .i64 r.n, (.slice A2p r.ids.length c2p), (.slice A3p r.rules.length c3p), .bool r.h, .int .i64 r.fr, .int .u32 r.ad, (.slice A7p r.dv.length c7p), .int .i64 r.ft, .int .i64 r.od, .int .i64 r.op] 50 (0, 0)) ∧ (convert 37 9 (.slice (some ad) L.length cpr)).run Try.prog w' = .ok (.string sL) w' ∧ (convert 37 9 (.slice As LB.length cps)).run Try.prog w' = .ok (.string sK) w') W12.drew := ⟨KX.out, KY.out, KP.out, CSL.out W12.drew (some ad) cpr HX.out, CSK.out W12.drew As cps HY.out⟩
  dsimp only at SW12
  go_wp2_with fail
  refine wp_region_held_drew (S := (fun w' => w'.heap[w.heap.size]? = some (.cells #[.int .i64 r.e, .int .i64 r.n, (.slice A2r r.ids.length c2r), (.slice A3r r.rules.length c3r), .bool r.h, .int .i64 r.fr, .int .u32 r.ad, (.slice A7r r.dv.length c7r), .int .i64 r.ft, .int .i64 r.od, .int .i64 r.op] 50 (0, 0)) ∧ w'.heap[gY]? = some (.cells #[.int .i64 s.e, .int .i64 s.n, (.slice A2s s.ids.length c2s), (.slice A3s s.rules.length c3s), .bool s.h, .int .i64 s.fr, .int .u32 s.ad, (.slice A7s s.dv.length c7s), .int .i64 s.ft, .int .i64 s.od, .int .i64 s.op] 50 (0, 0)) ∧ w'.heap[gKP]? = some (.cells #[.int .i64 r.e, .int .i64 r.n, (.slice A2p r.ids.length c2p), (.slice A3p r.rules.length c3p), .bool r.h, .int .i64 r.fr, .int .u32 r.ad, (.slice A7p r.dv.length c7p), .int .i64 r.ft, .int .i64 r.od, .int .i64 r.op] 50 (0, 0)) ∧ (convert 37 9 (.slice (some ad) L.length cpr)).run Try.prog w' = .ok (.string sL) w' ∧ (convert 37 9 (.slice As LB.length cps)).run Try.prog w' = .ok (.string sK) w')) (by kernel_rfl) ?hS0 (fun hHeld => ?_)
  case hS0 => first | assumption
  refine wpAnyH_ready (rs := [0]) (by kernel_rfl) (by simp) ?_
  refine AllReadyH.cons rfl (fun K hK => ?_) AllReadyH.nil
  go_simp
  go_at_call 9; (with_reducible refine (CA.out _).mono ?_); rintro e W13 ⟨rfl, hb⟩; replace KX := Aside0.mk (blk_below KX.out hb); replace KY := Aside0.mk (blk_below KY.out hb); replace HB := Aside0.mk (HB.out.trans (hb.mono HB.out.size)); replace H2r := Aside0.mk (Kd.C_below H2r.out hb); replace H3r := Aside0.mk (Kd.C_below H3r.out hb); replace H7r := Aside0.mk (Kd.C_below H7r.out hb); replace H2s := Aside0.mk (Kd.C_below H2s.out hb); replace H3s := Aside0.mk (Kd.C_below H3s.out hb); replace H7s := Aside0.mk (Kd.C_below H7s.out hb); replace HX := Aside0.mk (Kd.C_below HX.out hb); replace HY := Aside0.mk (Kd.C_below HY.out hb); replace H2p := Aside0.mk (Kd.C_below H2p.out hb); replace H3p := Aside0.mk (Kd.C_below H3p.out hb); replace H7p := Aside0.mk (Kd.C_below H7p.out hb); replace KP := Aside0.mk (blk_below KP.out hb); clear hb; have SW13 : (fun w' => w'.heap[w.heap.size]? = some (.cells #[.int .i64 r.e, .int .i64 r.n, (.slice A2r r.ids.length c2r), (.slice A3r r.rules.length c3r), .bool r.h, .int .i64 r.fr, .int .u32 r.ad, (.slice A7r r.dv.length c7r), .int .i64 r.ft, .int .i64 r.od, .int .i64 r.op] 50 (0, 0)) ∧ w'.heap[gY]? = some (.cells #[.int .i64 s.e, .int .i64 s.n, (.slice A2s s.ids.length c2s), (.slice A3s s.rules.length c3s), .bool s.h, .int .i64 s.fr, .int .u32 s.ad, (.slice A7s s.dv.length c7s), .int .i64 s.ft, .int .i64 s.od, .int .i64 s.op] 50 (0, 0)) ∧ w'.heap[gKP]? = some (.cells #[.int .i64 r.e, .int .i64 r.n, (.slice A2p r.ids.length c2p), (.slice A3p r.rules.length c3p), .bool r.h, .int .i64 r.fr, .int .u32 r.ad, (.slice A7p r.dv.length c7p), .int .i64 r.ft, .int .i64 r.od, .int .i64 r.op] 50 (0, 0)) ∧ (convert 37 9 (.slice (some ad) L.length cpr)).run Try.prog w' = .ok (.string sL) w' ∧ (convert 37 9 (.slice As LB.length cps)).run Try.prog w' = .ok (.string sK) w') W13 := ⟨KX.out, KY.out, KP.out, CSL.out W13 (some ad) cpr HX.out, CSK.out W13 As cps HY.out⟩; dsimp only at SW13
  refine hK.out _ _ ?hS1 (fun hHeld => ?_)
  case hS1 => first | assumption
  clear hK K
  try simp only [Act.put, List.setIfInBounds_toArray, List.set_cons_zero, List.set_cons_succ]
  refine held_take 1 (some 74) (v := ?v1) rfl rfl (by kernel_rfl) (by kernel_rfl) (by kernel_rfl) (fun _ _ _ h => h) (by rfl) ?y1 (by assumption) ?_
  case y1 => ((intro w hSw); (try dsimp only at hSw); go_simp <;> (with_reducible rfl))
  try simp only [Act.put, List.setIfInBounds_toArray, List.set_cons_zero, List.set_cons_succ]
  refine held_take 2 (some 75) (v := ?v2) rfl rfl (by kernel_rfl) (by kernel_rfl) (by kernel_rfl) (fun _ _ _ h => h) (by rfl) ?y2 (by assumption) ?_
  case y2 => ((intro w hSw); (try dsimp only at hSw); go_simp <;> (with_reducible rfl))
  try simp only [Act.put, List.setIfInBounds_toArray, List.set_cons_zero, List.set_cons_succ]
  refine held_take 3 (some 76) (v := ?v3) rfl rfl (by kernel_rfl) (by kernel_rfl) (by kernel_rfl) (fun _ _ _ h => h) (by rfl) ?y3 (by assumption) ?_
  case y3 => ((intro w hSw); (try dsimp only at hSw); go_simp <;> (with_reducible rfl))
  try simp only [Act.put, List.setIfInBounds_toArray, List.set_cons_zero, List.set_cons_succ]
  refine held_take 4 (some 77) (v := ?v4) rfl rfl (by kernel_rfl) (by kernel_rfl) (by kernel_rfl) (fun _ _ _ h => h) (by rfl) ?y4 (by assumption) ?_
  case y4 => ((intro w hSw); (try dsimp only at hSw); go_simp <;> (with_reducible rfl))
  try simp only [Act.put, List.setIfInBounds_toArray, List.set_cons_zero, List.set_cons_succ]
  refine held_take 5 (some 78) (v := ?v5) rfl rfl (by kernel_rfl) (by kernel_rfl) (by kernel_rfl) (fun _ _ _ h => h) (by rfl) ?y5 (by assumption) ?_
  case y5 => ((intro w hSw); (try dsimp only at hSw); go_simp <;> (with_reducible rfl))
  try simp only [Act.put, List.setIfInBounds_toArray, List.set_cons_zero, List.set_cons_succ]
  refine held_take 6 (some 79) (v := (.agg #[.int .i64 r.e, .int .i64 r.n, (.slice A2p r.ids.length c2p), (.slice A3p r.rules.length c3p), .bool r.h, .int .i64 r.fr, .int .u32 r.ad, (.slice A7p r.dv.length c7p), .int .i64 r.ft, .int .i64 r.od, .int .i64 r.op])) rfl rfl (by kernel_rfl) (by kernel_rfl) (by kernel_rfl) (fun _ _ _ h => h) (by rfl) ?y6 (by assumption) ?_
  case y6 => ((intro w hSw); exact exec_load_row hSw.2.2.1 rfl rfl Try.underlying50 rfl (by kernel_rfl))
  try simp only [Act.put, List.setIfInBounds_toArray, List.set_cons_zero, List.set_cons_succ]
  refine held_take 7 (some 80) (v := (.agg #[.int .i64 r.e, .int .i64 r.n, (.slice A2r r.ids.length c2r), (.slice A3r r.rules.length c3r), .bool r.h, .int .i64 r.fr, .int .u32 r.ad, (.slice A7r r.dv.length c7r), .int .i64 r.ft, .int .i64 r.od, .int .i64 r.op])) rfl rfl (by kernel_rfl) (by kernel_rfl) (by kernel_rfl) (fun _ _ _ h => h) (by rfl) ?y7 (by assumption) ?_
  case y7 => ((intro w hSw); exact exec_load_row hSw.1 rfl rfl Try.underlying50 rfl (by kernel_rfl))
  try simp only [Act.put, List.setIfInBounds_toArray, List.set_cons_zero, List.set_cons_succ]
  refine wpAnyH_ready (rs := [8]) (by kernel_rfl) (by simp) ?_
  refine AllReadyH.cons rfl (fun K hK => ?_) AllReadyH.nil
  go_simp
  go_at_call 21; (with_reducible refine (CSrr.out _ A2p c2p A3p c3p A7p c7p H2p.out G2p.out H3p.out G3p.out H7p.out G7p.out H2r.out H3r.out H7r.out).mono ?_); rintro e W14 ⟨rfl, hb⟩; replace KX := Aside0.mk (blk_below KX.out hb); replace KY := Aside0.mk (blk_below KY.out hb); replace HB := Aside0.mk (HB.out.trans (hb.mono HB.out.size)); replace H2r := Aside0.mk (Kd.C_below H2r.out hb); replace H3r := Aside0.mk (Kd.C_below H3r.out hb); replace H7r := Aside0.mk (Kd.C_below H7r.out hb); replace H2s := Aside0.mk (Kd.C_below H2s.out hb); replace H3s := Aside0.mk (Kd.C_below H3s.out hb); replace H7s := Aside0.mk (Kd.C_below H7s.out hb); replace HX := Aside0.mk (Kd.C_below HX.out hb); replace HY := Aside0.mk (Kd.C_below HY.out hb); replace H2p := Aside0.mk (Kd.C_below H2p.out hb); replace H3p := Aside0.mk (Kd.C_below H3p.out hb); replace H7p := Aside0.mk (Kd.C_below H7p.out hb); replace KP := Aside0.mk (blk_below KP.out hb); clear hb; have SW14 : (fun w' => w'.heap[w.heap.size]? = some (.cells #[.int .i64 r.e, .int .i64 r.n, (.slice A2r r.ids.length c2r), (.slice A3r r.rules.length c3r), .bool r.h, .int .i64 r.fr, .int .u32 r.ad, (.slice A7r r.dv.length c7r), .int .i64 r.ft, .int .i64 r.od, .int .i64 r.op] 50 (0, 0)) ∧ w'.heap[gY]? = some (.cells #[.int .i64 s.e, .int .i64 s.n, (.slice A2s s.ids.length c2s), (.slice A3s s.rules.length c3s), .bool s.h, .int .i64 s.fr, .int .u32 s.ad, (.slice A7s s.dv.length c7s), .int .i64 s.ft, .int .i64 s.od, .int .i64 s.op] 50 (0, 0)) ∧ w'.heap[gKP]? = some (.cells #[.int .i64 r.e, .int .i64 r.n, (.slice A2p r.ids.length c2p), (.slice A3p r.rules.length c3p), .bool r.h, .int .i64 r.fr, .int .u32 r.ad, (.slice A7p r.dv.length c7p), .int .i64 r.ft, .int .i64 r.od, .int .i64 r.op] 50 (0, 0)) ∧ (convert 37 9 (.slice (some ad) L.length cpr)).run Try.prog w' = .ok (.string sL) w' ∧ (convert 37 9 (.slice As LB.length cps)).run Try.prog w' = .ok (.string sK) w') W14 := ⟨KX.out, KY.out, KP.out, CSL.out W14 (some ad) cpr HX.out, CSK.out W14 As cps HY.out⟩; dsimp only at SW14
  refine hK.out _ _ ?hS9 (fun hHeld => ?_)
  case hS9 => first | assumption
  clear hK K
  try simp only [Act.put, List.setIfInBounds_toArray, List.set_cons_zero, List.set_cons_succ]
  refine held_take 9 (some 82) (v := ?v9) rfl rfl (by kernel_rfl) (by kernel_rfl) (by kernel_rfl) (fun _ _ _ h => h) (by rfl) ?y9 (by assumption) ?_
  case y9 => ((intro w hSw); (try dsimp only at hSw); go_simp <;> (with_reducible rfl))
  try simp only [Act.put, List.setIfInBounds_toArray, List.set_cons_zero, List.set_cons_succ]
  refine held_take 10 (some 83) (v := ?v10) rfl rfl (by kernel_rfl) (by kernel_rfl) (by kernel_rfl) (fun _ _ _ h => h) (by rfl) ?y10 (by assumption) ?_
  case y10 => ((intro w hSw); (try dsimp only at hSw); go_simp <;> (with_reducible rfl))
  try simp only [Act.put, List.setIfInBounds_toArray, List.set_cons_zero, List.set_cons_succ]
  refine held_take 11 (some 84) (v := ?v11) rfl rfl (by kernel_rfl) (by kernel_rfl) (by kernel_rfl) (fun _ _ _ h => h) (by rfl) ?y11 (by assumption) ?_
  case y11 => ((intro w hSw); (try dsimp only at hSw); go_simp <;> (with_reducible rfl))
  try simp only [Act.put, List.setIfInBounds_toArray, List.set_cons_zero, List.set_cons_succ]
  refine held_take 12 (some 85) (v := ?v12) rfl rfl (by kernel_rfl) (by kernel_rfl) (by kernel_rfl) (fun _ _ _ h => h) (by rfl) ?y12 (by assumption) ?_
  case y12 => ((intro w hSw); (try dsimp only at hSw); go_simp <;> (with_reducible rfl))
  try simp only [Act.put, List.setIfInBounds_toArray, List.set_cons_zero, List.set_cons_succ]
  refine held_take 13 (some 86) (v := ?v13) rfl rfl (by kernel_rfl) (by kernel_rfl) (by kernel_rfl) (fun _ _ _ h => h) (by rfl) ?y13 (by assumption) ?_
  case y13 => ((intro w hSw); (try dsimp only at hSw); go_simp <;> (with_reducible rfl))
  try simp only [Act.put, List.setIfInBounds_toArray, List.set_cons_zero, List.set_cons_succ]
  refine held_take 14 (some 87) (v := ?v14) rfl rfl (by kernel_rfl) (by kernel_rfl) (by kernel_rfl) (fun _ _ _ h => h) (by rfl) ?y14 (by assumption) ?_
  case y14 => ((intro w hSw); (try dsimp only at hSw); go_simp <;> (with_reducible rfl))
  try simp only [Act.put, List.setIfInBounds_toArray, List.set_cons_zero, List.set_cons_succ]
  refine held_take 15 (some 88) (v := ?v15) rfl rfl (by kernel_rfl) (by kernel_rfl) (by kernel_rfl) (fun _ _ _ h => h) (by rfl) ?y15 (by assumption) ?_
  case y15 => ((intro w hSw); (try dsimp only at hSw); go_simp <;> (with_reducible rfl))
  try simp only [Act.put, List.setIfInBounds_toArray, List.set_cons_zero, List.set_cons_succ]
  refine held_take 16 (some 89) (v := ?v16) rfl rfl (by kernel_rfl) (by kernel_rfl) (by kernel_rfl) (fun _ _ _ h => h) (by rfl) ?y16 (by assumption) ?_
  case y16 => ((intro w hSw); (try dsimp only at hSw); go_simp <;> (with_reducible rfl))
  try simp only [Act.put, List.setIfInBounds_toArray, List.set_cons_zero, List.set_cons_succ]
  refine held_take 17 (some 90) (v := ?v17) rfl rfl (by kernel_rfl) (by kernel_rfl) (by kernel_rfl) (fun _ _ _ h => h) (by rfl) ?y17 (by assumption) ?_
  case y17 => ((intro w hSw); (try dsimp only at hSw); go_simp <;> (with_reducible rfl))
  try simp only [Act.put, List.setIfInBounds_toArray, List.set_cons_zero, List.set_cons_succ]
  refine held_take 18 (some 91) (v := ?v18) rfl rfl (by kernel_rfl) (by kernel_rfl) (by kernel_rfl) (fun _ _ _ h => h) (by rfl) ?y18 (by assumption) ?_
  case y18 => ((intro w hSw); (try dsimp only at hSw); go_simp <;> (with_reducible rfl))
  try simp only [Act.put, List.setIfInBounds_toArray, List.set_cons_zero, List.set_cons_succ]
  refine held_take 19 (some 92) (v := ?v19) rfl rfl (by kernel_rfl) (by kernel_rfl) (by kernel_rfl) (fun _ _ _ h => h) (by rfl) ?y19 (by assumption) ?_
  case y19 => ((intro w hSw); (try dsimp only at hSw); go_simp <;> (with_reducible rfl))
  try simp only [Act.put, List.setIfInBounds_toArray, List.set_cons_zero, List.set_cons_succ]
  refine held_take 20 (some 93) (v := ?v20) rfl rfl (by kernel_rfl) (by kernel_rfl) (by kernel_rfl) (fun _ _ _ h => h) (by rfl) ?y20 (by assumption) ?_
  case y20 => ((intro w hSw); (try dsimp only at hSw); go_simp <;> (with_reducible rfl))
  try simp only [Act.put, List.setIfInBounds_toArray, List.set_cons_zero, List.set_cons_succ]
  refine held_take 21 (some 94) (v := ?v21) rfl rfl (by kernel_rfl) (by kernel_rfl) (by kernel_rfl) (fun _ _ _ h => h) (by rfl) ?y21 (by assumption) ?_
  case y21 => ((intro w hSw); (try dsimp only at hSw); go_simp <;> (with_reducible rfl))
  try simp only [Act.put, List.setIfInBounds_toArray, List.set_cons_zero, List.set_cons_succ]
  refine held_take 22 (some 95) (v := ?v22) rfl rfl (by kernel_rfl) (by kernel_rfl) (by kernel_rfl) (fun _ _ _ h => h) (by rfl) ?y22 (by assumption) ?_
  case y22 => ((intro w hSw); (try dsimp only at hSw); go_simp <;> (with_reducible rfl))
  try simp only [Act.put, List.setIfInBounds_toArray, List.set_cons_zero, List.set_cons_succ]
  refine held_take 23 (some 96) (v := ?v23) rfl rfl (by kernel_rfl) (by kernel_rfl) (by kernel_rfl) (fun _ _ _ h => h) (by rfl) ?y23 (by assumption) ?_
  case y23 => ((intro w hSw); (try dsimp only at hSw); go_simp <;> (with_reducible rfl))
  try simp only [Act.put, List.setIfInBounds_toArray, List.set_cons_zero, List.set_cons_succ]
  refine held_take 24 (some 97) (v := (.agg #[.int .i64 r.e, .int .i64 r.n, (.slice A2r r.ids.length c2r), (.slice A3r r.rules.length c3r), .bool r.h, .int .i64 r.fr, .int .u32 r.ad, (.slice A7r r.dv.length c7r), .int .i64 r.ft, .int .i64 r.od, .int .i64 r.op])) rfl rfl (by kernel_rfl) (by kernel_rfl) (by kernel_rfl) (fun _ _ _ h => h) (by rfl) ?y24 (by assumption) ?_
  case y24 => ((intro w hSw); exact exec_load_row hSw.1 rfl rfl Try.underlying50 rfl (by kernel_rfl))
  try simp only [Act.put, List.setIfInBounds_toArray, List.set_cons_zero, List.set_cons_succ]
  refine held_take 25 (some 98) (v := (.agg #[.int .i64 s.e, .int .i64 s.n, (.slice A2s s.ids.length c2s), (.slice A3s s.rules.length c3s), .bool s.h, .int .i64 s.fr, .int .u32 s.ad, (.slice A7s s.dv.length c7s), .int .i64 s.ft, .int .i64 s.od, .int .i64 s.op])) rfl rfl (by kernel_rfl) (by kernel_rfl) (by kernel_rfl) (fun _ _ _ h => h) (by rfl) ?y25 (by assumption) ?_
  case y25 => ((intro w hSw); exact exec_load_row hSw.2.1 rfl rfl Try.underlying50 rfl (by kernel_rfl))
  try simp only [Act.put, List.setIfInBounds_toArray, List.set_cons_zero, List.set_cons_succ]
  refine wpAnyH_ready (rs := [26]) (by kernel_rfl) (by simp) ?_
  refine AllReadyH.cons rfl (fun K hK => ?_) AllReadyH.nil
  go_simp
  go_at_call 21; (with_reducible refine (CSrs.out _ H2r.out H3r.out H7r.out H2s.out H3s.out H7s.out).mono ?_); rintro e W15 ⟨rfl, hb⟩; replace KX := Aside0.mk (blk_below KX.out hb); replace KY := Aside0.mk (blk_below KY.out hb); replace HB := Aside0.mk (HB.out.trans (hb.mono HB.out.size)); replace H2r := Aside0.mk (Kd.C_below H2r.out hb); replace H3r := Aside0.mk (Kd.C_below H3r.out hb); replace H7r := Aside0.mk (Kd.C_below H7r.out hb); replace H2s := Aside0.mk (Kd.C_below H2s.out hb); replace H3s := Aside0.mk (Kd.C_below H3s.out hb); replace H7s := Aside0.mk (Kd.C_below H7s.out hb); replace HX := Aside0.mk (Kd.C_below HX.out hb); replace HY := Aside0.mk (Kd.C_below HY.out hb); replace H2p := Aside0.mk (Kd.C_below H2p.out hb); replace H3p := Aside0.mk (Kd.C_below H3p.out hb); replace H7p := Aside0.mk (Kd.C_below H7p.out hb); replace KP := Aside0.mk (blk_below KP.out hb); clear hb; have SW15 : (fun w' => w'.heap[w.heap.size]? = some (.cells #[.int .i64 r.e, .int .i64 r.n, (.slice A2r r.ids.length c2r), (.slice A3r r.rules.length c3r), .bool r.h, .int .i64 r.fr, .int .u32 r.ad, (.slice A7r r.dv.length c7r), .int .i64 r.ft, .int .i64 r.od, .int .i64 r.op] 50 (0, 0)) ∧ w'.heap[gY]? = some (.cells #[.int .i64 s.e, .int .i64 s.n, (.slice A2s s.ids.length c2s), (.slice A3s s.rules.length c3s), .bool s.h, .int .i64 s.fr, .int .u32 s.ad, (.slice A7s s.dv.length c7s), .int .i64 s.ft, .int .i64 s.od, .int .i64 s.op] 50 (0, 0)) ∧ w'.heap[gKP]? = some (.cells #[.int .i64 r.e, .int .i64 r.n, (.slice A2p r.ids.length c2p), (.slice A3p r.rules.length c3p), .bool r.h, .int .i64 r.fr, .int .u32 r.ad, (.slice A7p r.dv.length c7p), .int .i64 r.ft, .int .i64 r.od, .int .i64 r.op] 50 (0, 0)) ∧ (convert 37 9 (.slice (some ad) L.length cpr)).run Try.prog w' = .ok (.string sL) w' ∧ (convert 37 9 (.slice As LB.length cps)).run Try.prog w' = .ok (.string sK) w') W15 := ⟨KX.out, KY.out, KP.out, CSL.out W15 (some ad) cpr HX.out, CSK.out W15 As cps HY.out⟩; dsimp only at SW15
  refine hK.out _ _ ?hS27 (fun hHeld => ?_)
  case hS27 => first | assumption
  clear hK K
  try simp only [Act.put, List.setIfInBounds_toArray, List.set_cons_zero, List.set_cons_succ]
  refine held_take 27 (some 100) (v := ?v27) rfl rfl (by kernel_rfl) (by kernel_rfl) (by kernel_rfl) (fun _ _ _ h => h) (by rfl) ?y27 (by assumption) ?_
  case y27 => ((intro w hSw); (try dsimp only at hSw); go_simp <;> (with_reducible rfl))
  try simp only [Act.put, List.setIfInBounds_toArray, List.set_cons_zero, List.set_cons_succ]
  refine held_take 28 (some 101) (v := ?v28) rfl rfl (by kernel_rfl) (by kernel_rfl) (by kernel_rfl) (fun _ _ _ h => h) (by rfl) ?y28 (by assumption) ?_
  case y28 => ((intro w hSw); (try dsimp only at hSw); go_simp <;> (with_reducible rfl))
  try simp only [Act.put, List.setIfInBounds_toArray, List.set_cons_zero, List.set_cons_succ]
  refine held_take 29 (some 4) (v := ?v29) rfl rfl (by kernel_rfl) (by kernel_rfl) (by kernel_rfl) (fun _ _ _ h => h) (by rfl) ?y29 (by assumption) ?_
  case y29 => ((intro w hSw); (try dsimp only at hSw); go_simp <;> (with_reducible rfl))
  try simp only [Act.put, List.setIfInBounds_toArray, List.set_cons_zero, List.set_cons_succ]
  refine wpAnyH_done (by kernel_rfl) ?_ _
  go_wp2_with fail
  go_ret
  exact ⟨by simp, HB.out⟩
set_option maxHeartbeats 4000000 in
theorem wireAnswers_row (r : Rs) (A2r : Option Addr) (c2r : Nat) (A3r : Option Addr) (c3r : Nat) (A7r : Option Addr) (c7r : Nat) (s : Rs) (A2s : Option Addr) (c2s : Nat) (A3s : Option Addr) (c3s : Nat) (A7s : Option Addr) (c7s : Nat) (w : World) (hur : okRs r) (h2r : Kd.C (Kd.int .i64) w A2r r.ids.length r.ids) (g2r : r.ids.length ≤ c2r) (h3r : Kd.C k29 w A3r r.rules.length r.rules) (g3r : r.rules.length ≤ c3r) (h7r : Kd.C (Kd.int .i64) w A7r r.dv.length r.dv) (g7r : r.dv.length ≤ c7r) (hus : okRs s) (h2s : Kd.C (Kd.int .i64) w A2s s.ids.length s.ids) (g2s : s.ids.length ≤ c2s) (h3s : Kd.C k29 w A3s s.rules.length s.rules) (g3s : s.rules.length ≤ c3s) (h7s : Kd.C (Kd.int .i64) w A7s s.dv.length s.dv) (g7s : s.dv.length ≤ c7s) :
    Calls Try.prog 7 #[.agg #[.int .i64 r.e, .int .i64 r.n, (.slice A2r r.ids.length c2r), (.slice A3r r.rules.length c3r), .bool r.h, .int .i64 r.fr, .int .u32 r.ad, (.slice A7r r.dv.length c7r), .int .i64 r.ft, .int .i64 r.od, .int .i64 r.op], .agg #[.int .i64 s.e, .int .i64 s.n, (.slice A2s s.ids.length c2s), (.slice A3s s.rules.length c3s), .bool s.h, .int .i64 s.fr, .int .u32 s.ad, (.slice A7s s.dv.length c7s), .int .i64 s.ft, .int .i64 s.od, .int .i64 s.op]] w fun e w' => e = .returned (.bool true) ∧ Below w.heap.size w w' := by
  cases f1 : fitsB zRq r with
  | false => exact wireAns_b1 r s hur hus A2r c2r A3r c3r A7r c7r A2s c2s A3s c3s A7s c7s w h2r g2r h3r g3r h7r g7r h2s g2s h3s g3s h7s g7s f1
  | true =>
    cases f2 : fitsB zRq s with
    | false => exact wireAns_b2 r s hur hus A2r c2r A3r c3r A7r c7r A2s c2s A3s c3s A7s c7s w h2r g2r h3r g3r h7r g7r h2s g2s h3s g3s h7s g7s f1 f2
    | true =>
      rcases ansOut_code r with e1 | e1
      · rcases ansOut_code s with e2 | e2
        · obtain ⟨q1, e1'⟩ := ans_back e1
          obtain ⟨q2, e2'⟩ := ans_back e2
          have hb := bytes_ansL q1 hur.2
          have hkb := bytes_ansL q2 hus.2
          have hst : ((strOfNums (ansL r)).toList == (strOfNums (ansL s)).toList) = sameB r s := by
            rw [str_inj _ _ hb hkb]
            by_cases h : r = s
            · rw [(sameB_iff r s).2 h, decide_eq_true ((ans_inj hur.2 hus.2 q1 q2).2 h)]
            · rw [decide_eq_false (fun e => h ((ans_inj hur.2 hus.2 q1 q2).1 e))]
              cases e : sameB r s
              · rfl
              · exact absurd ((sameB_iff r s).1 e) h
          have h2 := ansL_two r
          have b0 : bytes [0] := fun x hx => by simp only [List.mem_singleton] at hx; rw [hx]; exact ⟨by decide, by decide⟩
          obtain ⟨M, x, hM⟩ : ∃ M x, ansL r = M ++ [x] := by
            have hne : ansL r ≠ [] := fun e => by rw [e] at h2; simp at h2
            exact ⟨(ansL r).dropLast, (ansL r).getLast hne, (List.dropLast_concat_getLast hne).symm⟩
          have hml : (ansL r).length = M.length + 1 := by rw [hM]; simp
          have hLM : (ansL r).take M.length = M := by rw [hM, List.take_left]
          have bM : bytes M := by rw [← hLM]; exact bytes_take hb _
          exact wireAns_good r s hur hus A2r c2r A3r c3r A7r c7r A2s c2s A3s c3s A7s c7s w h2r g2r h3r g3r h7r g7r h2s g2s h3s g3s h7s g7s (ansL r) (ansL s) M (ansL r ++ [0]) f1 f2 e1' e2' (read_ansL q1 hur.2) _ (by rw [← read_less q1 hur.2 bM hM]) _ (by rw [← read_more q1 hur.2 0]) hLM hml rfl hb bM (bytes_append hb b0) h2 (ansL_le q1 hur.2) hst ((sameB_iff r r).2 rfl) (by have := q1.l1; omega) (by have := q1.l2; omega) (by have := q1.l3; omega)
        · exact wireAns_b4 r s hur hus A2r c2r A3r c3r A7r c7r A2s c2s A3s c3s A7s c7s w h2r g2r h3r g3r h7r g7r h2s g2s h3s g3s h7s g7s f1 f2 e1 e2
      · exact wireAns_b3 r s hur hus A2r c2r A3r c3r A7r c7r A2s c2s A3s c3s A7s c7s w h2r g2r h3r g3r h7r g7r h2s g2s h3s g3s h7s g7s f1 f2 e1
end Go.Proofs.Ytpaknjmcjblahaa.H
