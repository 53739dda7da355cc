/- Px0, Num1, Num2, Num3. -/
import Derived.Test.YtpaknjmcjblahaaProg
import Derived.Below
import Derived.Deep.Draws
import Derived.Deep.AppendLies
import Derived.Maps.AppendAt
import Derived.OwnWalk
import Derived.Laws.BytesArg
import Derived.Laws.MakeOwn
import Derived.Laws.OwnMore
import Derived.Deep.OwnRows
import Derived.Tactics
import Derived.Lib.ConvBytes
import Derived.Laws.Slices
import Derived.WalkKit
import Derived.KernelRfl
import Derived.RowKit3
import Derived.Deep.LoopGhost
import Derived.Deep.QuietTactic
import Derived.BigQuiet
import Derived.WideLaws
import Derived.Deep.DeepCutAuto
import Derived.Deep.CutBlock
import Derived.Deep.RegionHeld3
import Derived.Laws.Rows
import Derived.Lib.AppendStr
import Derived.ArgAppend
import Derived.Laws.IdiomCopy
import Derived.OrdersHeld
import Derived.Laws.BitsLemmas
import Derived.RowKit
import Derived.Test.YtpaknjmcjblahaaEWWords
import Derived.Test.YtpaknjmcjblahaaEWN
import Derived.Test.YtpaknjmcjblahaaEWMore
/-! ### Px0 -/
namespace Go.Proofs.Ytpaknjmcjblahaa.P
open Go.RowKit Go.Proofs.YtpaknjmcjblahaaW.PrintWords Go.Proofs.YtpaknjmcjblahaaW.PrintLast Go.Proofs.YtpaknjmcjblahaaW.PrintMore
set_option linter.unusedVariables false
set_option linter.unusedSimpArgs false
def errW : Option Int → Value
  | none => .nilIface
  | some c => .iface 0 (.int .i64 c)
theorem errW_none : errW none = .nilIface := rfl
theorem errW_some (c : Int) : errW (some c) = .iface 0 (.int .i64 c) := rfl
theorem info3 : (Try.prog.info? 3).map (fun i => (i.zero, i.size, i.bytes)) = some (some (.int .i64 0), 1, 8) := by kernel_rfl
theorem info5 : (Try.prog.info? 5).map (fun i => (i.zero, i.size, i.bytes)) = some (some (.int .u8 0), 1, 1) := by kernel_rfl
structure S27 where
  f0 : Int
  f1 : Int
def z27 : S27 := ⟨(0 : Int), (0 : Int)⟩
def k27 : Kd S27 := Kd.iso (Kd.pair (Kd.int .u32) (Kd.int .u32)) (fun x : S27 => (x.f0, x.f1))
theorem k27_open {w : World} {x : S27} {cs : List Value} (h : k27.K w x cs) : cs = [.int .u32 x.f0, .int .u32 x.f1] := by
  obtain ⟨_, _, rfl, rfl, rfl⟩ := h
  exact rfl
theorem k27_mkM (w : World) (base : Nat) (ok : Nat → Prop) (x : S27)  : k27.M w base ok x [.int .u32 x.f0, .int .u32 x.f1] := ⟨[.int .u32 x.f0], [.int .u32 x.f1], rfl, rfl, rfl⟩
structure S29 where
  f0 : Int
  f1 : Int
  f2 : Int
  f3 : Int
  f4 : S27
  f5 : Int
def z29 : S29 := ⟨(0 : Int), (0 : Int), (0 : Int), (0 : Int), z27, (0 : Int)⟩
def k29 : Kd S29 := Kd.iso (Kd.pair (Kd.int .i64) (Kd.pair (Kd.int .i64) (Kd.pair (Kd.int .i64) (Kd.pair (Kd.int .i64) (Kd.pair k27 (Kd.int .i64)))))) (fun x : S29 => (x.f0, x.f1, x.f2, x.f3, x.f4, x.f5))
theorem k29_open {w : World} {x : S29} {cs : List Value} (h : k29.K w x cs) : cs = [.int .i64 x.f0, .int .i64 x.f1, .int .i64 x.f2, .int .i64 x.f3, .int .u32 x.f4.f0, .int .u32 x.f4.f1, .int .i64 x.f5] := by
  obtain ⟨_, _, rfl, rfl, ⟨_, _, rfl, rfl, ⟨_, _, rfl, rfl, ⟨_, _, rfl, rfl, ⟨_, _, rfl, s4, rfl⟩⟩⟩⟩⟩ := h
  obtain rfl := k27_open s4
  exact rfl
theorem k29_mkM (w : World) (base : Nat) (ok : Nat → Prop) (x : S29)  : k29.M w base ok x [.int .i64 x.f0, .int .i64 x.f1, .int .i64 x.f2, .int .i64 x.f3, .int .u32 x.f4.f0, .int .u32 x.f4.f1, .int .i64 x.f5] := ⟨[.int .i64 x.f0], [.int .i64 x.f1, .int .i64 x.f2, .int .i64 x.f3, .int .u32 x.f4.f0, .int .u32 x.f4.f1, .int .i64 x.f5], rfl, rfl, ⟨[.int .i64 x.f1], [.int .i64 x.f2, .int .i64 x.f3, .int .u32 x.f4.f0, .int .u32 x.f4.f1, .int .i64 x.f5], rfl, rfl, ⟨[.int .i64 x.f2], [.int .i64 x.f3, .int .u32 x.f4.f0, .int .u32 x.f4.f1, .int .i64 x.f5], rfl, rfl, ⟨[.int .i64 x.f3], [.int .u32 x.f4.f0, .int .u32 x.f4.f1, .int .i64 x.f5], rfl, rfl, ⟨[.int .u32 x.f4.f0, .int .u32 x.f4.f1], [.int .i64 x.f5], rfl, (k27_mkM w base ok x.f4 ), rfl⟩⟩⟩⟩⟩
def rd_T29 (xs : List S29) (i : Int) : S29 := xs.getD i.toNat z29
theorem at_T29 {w : World} {A : Option Addr} {n : Nat} {xs : List S29} (h : Kd.C k29 w A n xs) (i : Int) (h0 : 0 ≤ i) (h1 : i < n) : ∃ ad , A = some ad ∧ w.cell? (ad.add (i.toNat * 7)) = some (.int .i64 (rd_T29 xs i).f0) ∧ w.cell? ⟨(ad.add (i.toNat * 7)).block, (ad.add (i.toNat * 7)).off + 1, none⟩ = some (.int .i64 (rd_T29 xs i).f1) ∧ w.cell? ⟨(ad.add (i.toNat * 7)).block, (ad.add (i.toNat * 7)).off + 2, none⟩ = some (.int .i64 (rd_T29 xs i).f2) ∧ w.cell? ⟨(ad.add (i.toNat * 7)).block, (ad.add (i.toNat * 7)).off + 3, none⟩ = some (.int .i64 (rd_T29 xs i).f3) ∧ w.cell? ⟨(ad.add (i.toNat * 7)).block, (ad.add (i.toNat * 7)).off + 4, none⟩ = some (.int .u32 (rd_T29 xs i).f4.f0) ∧ w.cell? ⟨(ad.add (i.toNat * 7)).block, (ad.add (i.toNat * 7)).off + 5, none⟩ = some (.int .u32 (rd_T29 xs i).f4.f1) ∧ w.cell? ⟨(ad.add (i.toNat * 7)).block, (ad.add (i.toNat * 7)).off + 6, none⟩ = some (.int .i64 (rd_T29 xs i).f5) := by
  obtain ⟨ad, c, e, _, hK, hc0⟩ := Kd.C_get h z29 i h0 h1
  have hc : ∀ j u, c[j]? = some u → w.cell? (ad.add (i.toNat * 7 + j)) = some u := hc0
  obtain rfl := k29_open hK
  exact ⟨ad, e, hc 0 _ rfl, by rw [← add_field _ _ 1 (by omega)]; exact hc 1 _ rfl, by rw [← add_field _ _ 2 (by omega)]; exact hc 2 _ rfl, by rw [← add_field _ _ 3 (by omega)]; exact hc 3 _ rfl, by rw [← add_field _ _ 4 (by omega)]; exact hc 4 _ rfl, by rw [← add_field _ _ 5 (by omega)]; exact hc 5 _ rfl, by rw [← add_field _ _ 6 (by omega)]; exact hc 6 _ rfl⟩
end Go.Proofs.Ytpaknjmcjblahaa.P
/-! ### Num1 -/
namespace Go.Proofs.Ytpaknjmcjblahaa.H
open Go.RowKit Go.Proofs.Ytpaknjmcjblahaa.P Go.Proofs.YtpaknjmcjblahaaW.PrintWords Go.Proofs.YtpaknjmcjblahaaW.PrintLast Go.Proofs.YtpaknjmcjblahaaW.PrintMore
set_option linter.unusedVariables false
set_option linter.unusedSimpArgs false
def bl (n : Nat) : Nat := if n = 0 then 0 else Nat.log2 n + 1
theorem bl_lt (n k : Nat) : bl n ≤ k ↔ n < 2 ^ k := by
  unfold bl
  by_cases h : n = 0
  · subst h; simp [Nat.two_pow_pos]
  · rw [if_neg h, Nat.succ_le_iff, Nat.log2_lt h]
theorem bl_div (n j : Nat) (h : 2 ^ j ≤ n) : bl n = bl (n / 2 ^ j) + j := by
  have h1 : ∀ k, bl n ≤ k + j ↔ bl (n / 2 ^ j) ≤ k := fun k => by
    rw [bl_lt, bl_lt, Nat.div_lt_iff_lt_mul (Nat.two_pow_pos j), Nat.pow_add]
  have h2 : j < bl n := by
    have := bl_lt n j
    omega
  have h3 := h1 (bl n - j)
  have h4 := h1 (bl (n / 2 ^ j))
  omega
theorem len_leaf (T : ByteArray) (hT : T.size = 256) (hv : ((List.range 256).all fun n => ((T.data.toList.getD n 0).toNat == bl n)) = true) (j : Nat) (h : j < T.size) (c : Nat) (n : Nat) (hb : c + bl j = bl n) (hc : c ≤ 56) :
    Ending.returned (.int .i64 (wrap64 ((c : Int) + wrap64 ((T[j]'h).toNat : Int)))) = .returned (.int .i64 (bl n : Int)) := by
  have e : (T[j]'h).toNat = bl j := by
    have h' := List.all_eq_true.1 hv j (by simp; omega)
    rw [beq_iff_eq] at h'
    rw [← h']
    have h2 : j < T.data.toList.length := by rw [Array.length_toList]; exact h
    rw [List.getD_eq_getElem?_getD, List.getElem?_eq_getElem h2]
    rfl
  have hj : bl j ≤ 255 := by rw [← e]; have := (T[j]'h).toNat_lt; omega
  rw [e, ← hb]
  congr 2
  unfold wrap64
  omega
theorem len_step {x : Int} {j : Int} {n : Nat} {c : Nat} (hx : 0 ≤ x) (hj : j = x / (2 ^ c : Nat)) (h : c = 0 ∨ (2 ^ c : Nat) ≤ x) : c + bl j.toNat = bl x.toNat := by
  obtain ⟨m, rfl⟩ := Int.eq_ofNat_of_zero_le hx
  subst hj
  rcases h with rfl | h
  · simp
  · have h' : 2 ^ c ≤ m := by exact_mod_cast h
    rw [Int.toNat_natCast, bl_div m c h']
    have : ((m : Int) / ((2 ^ c : Nat) : Int)).toNat = m / 2 ^ c := by rw [← Int.natCast_ediv, Int.toNat_natCast]
    rw [this]
    omega
set_option maxRecDepth 100000 in
theorem len64_any (x : Int) (w : World) (h0 : 0 ≤ x) (h1 : x < 18446744073709551616)  :
    Calls Try.prog 64 #[.int .u64 x] w fun e w' => e = .returned (.int .i64 (bl x.toNat : Int)) ∧ w = w' := by
  go_enter Try.func64, Try.ntmps64
  go_wp2
  all_goals go_ret
  all_goals refine ⟨?_, rfl⟩
  all_goals dsimp only [Array.getD, List.getElem_toArray]
  all_goals simp only [List.size_toArray, List.length_cons, List.length_nil, Nat.reduceAdd, Nat.reduceLT, ↓reduceDIte, Array.getInternal_eq_getElem, List.getElem_toArray, List.getElem_cons_succ, List.getElem_cons_zero]
  · exact len_leaf _ rfl (by decide +kernel) _ _ 56 _ (len_step (n := 0) h0 (by omega) (by omega)) (by omega)
  · exact len_leaf _ rfl (by decide +kernel) _ _ 48 _ (len_step (n := 0) h0 (by omega) (by omega)) (by omega)
  · exact len_leaf _ rfl (by decide +kernel) _ _ 40 _ (len_step (n := 0) h0 (by omega) (by omega)) (by omega)
  · exact len_leaf _ rfl (by decide +kernel) _ _ 32 _ (len_step (n := 0) h0 (by omega) (by omega)) (by omega)
  · exact len_leaf _ rfl (by decide +kernel) _ _ 24 _ (len_step (n := 0) h0 (by omega) (by omega)) (by omega)
  · exact len_leaf _ rfl (by decide +kernel) _ _ 16 _ (len_step (n := 0) h0 (by omega) (by omega)) (by omega)
  · exact len_leaf _ rfl (by decide +kernel) _ _ 8 _ (len_step (n := 0) h0 (by omega) (by omega)) (by omega)
  · refine Eq.trans (congrArg (fun z => Ending.returned (.int .i64 (wrap64 z))) (Int.zero_add _).symm) ?_
    exact len_leaf _ rfl (by decide +kernel) _ _ 0 _ (len_step (n := 0) h0 (by omega) (by omega)) (by omega)
end Go.Proofs.Ytpaknjmcjblahaa.H
/-! ### Num2 -/
namespace Go.Proofs.Ytpaknjmcjblahaa.H
open Go.RowKit Go.Proofs.Ytpaknjmcjblahaa.P Go.Proofs.YtpaknjmcjblahaaW.PrintWords Go.Proofs.YtpaknjmcjblahaaW.PrintLast Go.Proofs.YtpaknjmcjblahaaW.PrintMore
set_option linter.unusedVariables false
set_option linter.unusedSimpArgs false
def byteAt (n k i : Nat) : Nat := n / 2 ^ (8 * (k - 1 - i)) % 256
def put (n : Nat) : List Int := if n < 240 then [(n : Int)] else ((239 + (bl n + 7) / 8 : Nat) : Int) :: (List.range ((bl n + 7) / 8)).map fun i => (byteAt n ((bl n + 7) / 8) i : Int)
theorem reads_nums {w : World} {A : Option Addr} {l : List Int} (hr : Kd.C (Kd.int .u8) w A l.length l) : ∀ b, A = some b → ∀ j u, (nums .u8 l)[j]? = some u → w.cell? (b.add j) = some u := by
  rintro b rfl j u hu
  have hj : j < l.length := by
    have := (List.getElem?_eq_some_iff.1 hu).1
    simpa [nums] using this
  obtain ⟨ad, e, hc⟩ := Kd.at_int hr (j : Int) (by omega) (by omega)
  cases e
  simp only [Int.toNat_natCast] at hc
  rw [hc]
  simp only [nums, List.getElem?_map, List.getElem?_eq_getElem hj, Option.map_some, Option.some.injEq] at hu
  rw [← hu, rd]
  simp [List.getD_eq_getElem?_getD, List.getElem?_eq_getElem hj]
theorem put_short (A0 : Option Addr) (c0 : Nat) (l0 : List Int) (a1 : Int) (w : World) (hr0 : Kd.C (Kd.int .u8) w A0 l0.length l0) (hc0 : l0.length ≤ c0) (h0 : 0 ≤ a1) (h1 : a1 < 240) (hl : l0.length + 9 < 140737488355328) :
    Calls Try.prog 52 #[.slice A0 l0.length c0, .int .u64 a1] w fun e w' => ∃ v0_ : Value, e = .returned (v0_) ∧ w'.ownsRow w.heap.size 5 1 v0_ (l0.length + 1) (nums .u8 l0 ++ [.int .u8 a1]) ∧ Below w.heap.size w w' := by
  obtain ⟨i0, hi, hz0, hz1, hz2⟩ := info_parts info5
  have hA : A0 = none → l0.length = 0 ∧ l0.length = 0 := fun h => by
    rcases Nat.eq_zero_or_pos l0.length with h' | h'
    · exact ⟨h', h'⟩
    · obtain ⟨ad, e, _⟩ := hr0.2.2 h'
      rw [h] at e; cases e
  have HA := Aside0.mk hA
  have HR := Aside0.mk hr0
  clear hr0 hA
  go_enter Try.func52, Try.ntmps52
  go_wp2_with (first | (at_builtin; refine wpList_append_grows _ rfl (.tmp 15) (.tmp 18) 37 rfl 5 i0 (.int .u8 0) 1 1 Try.underlying37 hi hz0 hz1 hz2 rfl (by decide) A0 l0.length l0.length (nums .u8 l0) rfl HA.out (by simp [nums]) (reads_nums (Kd.C_alloc HR.out _)) ⟨w.heap.size, 0, none⟩ 1 1 [.int .u8 a1] rfl rfl (cell_one_new _ _ _) (ints_oneCell .u8 [a1]) (by omega) (by unfold maxLen; omega) (by omega) ?_; intro v1 w1 ho1 hg1))
  go_ret
  refine ⟨v1, rfl, own_weaken ho1 (by simp), ((Below.refl _ _).alloc (Nat.le_refl _) _).grown hg1 (by simp) (fun k hk => by cases hk)⟩
set_option maxRecDepth 20000 in
theorem put_long (A0 : Option Addr) (c0 : Nat) (l0 : List Int) (a1 : Int) (w : World) (hr0 : Kd.C (Kd.int .u8) w A0 l0.length l0) (hc0 : l0.length ≤ c0) (h0 : 240 ≤ a1) (h1 : a1 < 18446744073709551616) (hl : l0.length + 9 < 140737488355328) :
    Calls Try.prog 52 #[.slice A0 l0.length c0, .int .u64 a1] w fun e w' => ∃ v0_ : Value, e = .returned (v0_) ∧ w'.ownsRow w.heap.size 5 1 v0_ (l0 ++ put a1.toNat).length (nums .u8 (l0 ++ put a1.toNat)) ∧ Below w.heap.size w w' := by
  obtain ⟨i0, hi, hz0, hz1, hz2⟩ := info_parts info5
  have hA : A0 = none → l0.length = 0 ∧ l0.length = 0 := fun h => by
    rcases Nat.eq_zero_or_pos l0.length with h' | h'
    · exact ⟨h', h'⟩
    · obtain ⟨ad, e, _⟩ := hr0.2.2 h'
      rw [h] at e; cases e
  have HA := Aside0.mk hA
  have HR := Aside0.mk hr0
  have hb : bl a1.toNat ≤ 64 := (bl_lt _ _).2 (by omega)
  have h1' := Aside0.mk h1
  clear hr0 hA h1
  go_enter Try.func52, Try.ntmps52
  go_wp2_with (first | (go_at_call 64; refine (len64_any _ _ (by omega) h1'.out).mono ?_; rintro e w' ⟨rfl, rfl⟩) | (at_builtin; refine wpList_append_grows _ rfl (.tmp 25) (.tmp 29) 37 rfl 5 i0 (.int .u8 0) 1 1 Try.underlying37 hi hz0 hz1 hz2 rfl (by decide) A0 l0.length l0.length (nums .u8 l0) rfl HA.out (by simp [nums]) (reads_nums (Kd.C_alloc HR.out _)) ⟨w.heap.size, 0, none⟩ 1 1 [.int .u8 _] rfl rfl (cell_one_new _ _ _) (ints_oneCell .u8 [_]) (by omega) (by unfold maxLen; omega) (by omega) ?_; intro v1 w1 ho1 hg1))
  obtain ⟨k, hk⟩ : ∃ k : Nat, k = (bl a1.toNat + 7) / 8 := ⟨_, rfl⟩
  have hk' : ((bl a1.toNat : Int) + 8 - 1) / 8 = (k : Int) := by omega
  have hk8 : k ≤ 8 := by omega
  rw [hk'] at ho1 hg1 ⊢
  have hB := ((Below.refl w.heap.size w).alloc (Nat.le_refl _) (.cells #[Value.int IntKind.u8 (239 + k)] 5)).grown hg1 (by simp) (fun k hk => by cases hk)
  have ho2 := own_weaken (base' := w.heap.size) ho1 (by simp)
  have HP := Aside0.mk (show put a1.toNat = _ from if_neg (by omega))
  have HP := Aside0.mk (by have := HP.out; rw [← hk] at this; exact this)
  have H2 := Aside0.mk hk
  clear hk hk' ho1 hg1 hb
  go_loopw [0, 32] (fun v i wr => ∃ j : Nat, j ≤ k ∧ i = .int .i64 j ∧ wr.ownsRow w.heap.size 5 1 v (l0.length + (1 + j)) (nums .u8 (l0 ++ ((239 + k : Nat) : Int) :: (List.range j).map fun i => (byteAt a1.toNat k i : Int))) ∧ Below w.heap.size w wr) (fun _ i _ => k - (intOf i).toNat)
  case atStart => exact ⟨0, Nat.zero_le _, rfl, by simpa [nums] using ho2, hB⟩
  case round =>
    clear ho2 hB
    obtain ⟨j, hj, rfl, hown, hbel⟩ := hrel
    by_cases hlt : j < k
    · have hv : a1 / 2 ^ (8 * (k - 1 - j)) % 256 = (byteAt a1.toNat k j : Int) := by
        obtain ⟨n, rfl⟩ := Int.eq_ofNat_of_zero_le (show 0 ≤ a1 by omega)
        unfold byteAt
        rw [Int.toNat_natCast, Int.natCast_emod, Int.natCast_ediv, Int.natCast_pow]
        rfl
      have HV := Aside0.mk hv
      have H0 := Aside0.mk hown
      clear hv hown
      go_wp2_with (first | (at_builtin; refine wpList_append_own _ rfl (.tmp 35) (.tmp 44) 37 rfl w.heap.size 5 i0 (.int .u8 0) 1 1 Try.underlying37 hi hz0 hz1 hz2 rfl (by decide) _ _ _ rfl (H0.out.alloc _) ⟨wr.heap.size, 0, none⟩ 1 1 [.int .u8 (a1 / 2 ^ (8 * (k - 1 - j)) % 256)] rfl rfl (cell_one_new _ _ _) (ints_oneCell .u8 [_]) (by unfold maxLen; omega) (by omega) (by have := hbel.size; simp; omega) ?_; intro v2 w2 ho3 hg3 _))
      have hB2 := (hbel.alloc hbel.size (.cells #[Value.int .u8 (a1 / 2 ^ (8 * (k - 1 - j)) % 256)] 5)).grown hg3 (by have := hbel.size; simp; omega) (fun q hq => own_base H0.out q hq)
      have ho4 : w2.ownsRow w.heap.size 5 1 v2 (l0.length + (1 + (j + 1))) (nums .u8 (l0 ++ ((239 + k : Nat) : Int) :: (List.range (j + 1)).map fun i => (byteAt a1.toNat k i : Int))) := by
        rw [HV.out] at ho3
        simpa [nums, List.range_succ, Nat.add_assoc] using ho3
      clear ho3 hg3 H0 HV hbel
      go_wp2
      go_roundw
      case rel => exact ⟨j + 1, by omega, by go_num, ho4, hB2⟩
      case measure => simp [intOf]; omega
    · obtain rfl : j = k := by omega
      go_wp2
      go_ret
      refine ⟨_, rfl, ?_, hbel⟩
      rw [HP.out]
      have e : (l0 ++ ((239 + j : Nat) : Int) :: (List.range j).map fun i => (byteAt a1.toNat j i : Int)).length = l0.length + (1 + j) := by simp; omega
      rw [e]
      exact hown
end Go.Proofs.Ytpaknjmcjblahaa.H
/-! ### Num3 -/
namespace Go.Proofs.Ytpaknjmcjblahaa.H
open Go.RowKit Go.Proofs.Ytpaknjmcjblahaa.P Go.Proofs.YtpaknjmcjblahaaW.PrintWords Go.Proofs.YtpaknjmcjblahaaW.PrintLast Go.Proofs.YtpaknjmcjblahaaW.PrintMore
set_option linter.unusedVariables false
set_option linter.unusedSimpArgs false
def val (l : List Int) : Int := l.foldl (fun n c => n * 256 + c) 0
theorem val_snoc (l : List Int) (c : Int) : val (l ++ [c]) = val l * 256 + c := by simp [val]
def nextS : List Int → Int × Nat
  | [] => (0, 0)
  | c :: rest => if c < 240 then (c, 1) else
    if 248 ≤ c ∨ rest.length < (c - 239).toNat ∨ rest.getD 0 0 = 0 then (0, 0) else
    if val (rest.take (c - 239).toNat) < 240 then (0, 0) else (val (rest.take (c - 239).toNat), 1 + (c - 239).toNat)
def bytes (l : List Int) : Prop := ∀ x ∈ l, 0 ≤ x ∧ x ≤ 255
theorem bytes_take {l : List Int} (h : bytes l) (k : Nat) : bytes (l.take k) := fun x hx => h x (List.mem_of_mem_take hx)
theorem bytes_drop {l : List Int} (h : bytes l) (k : Nat) : bytes (l.drop k) := fun x hx => h x (List.mem_of_mem_drop hx)
theorem val_bound : ∀ (n : Nat) (l : List Int), l.length = n → bytes l → 0 ≤ val l ∧ val l < 256 ^ n
  | 0, l, hl, _ => by
    obtain rfl := List.eq_nil_of_length_eq_zero hl
    simp [val]
  | n + 1, l, hl, hb => by
    have e : l = l.take n ++ [l.getD n 0] := by
      have h1 : l.take (n + 1) = l := List.take_of_length_le (by omega)
      rw [List.take_succ_eq_append_getElem (by omega)] at h1
      rw [List.getD_eq_getElem?_getD, List.getElem?_eq_getElem (by omega)]
      exact h1.symm
    have h1 := val_bound n (l.take n) (by simp; omega) (bytes_take hb n)
    have h2 : 0 ≤ l.getD n 0 ∧ l.getD n 0 ≤ 255 := by
      rw [List.getD_eq_getElem?_getD, List.getElem?_eq_getElem (by omega)]
      exact hb _ (List.getElem_mem _)
    rw [e, val_snoc, Int.pow_succ]
    omega
theorem val_take {l : List Int} (hb : bytes l) (j : Nat) (hj : j ≤ l.length) : 0 ≤ val (l.take j) ∧ val (l.take j) < 256 ^ j := val_bound j _ (by simp; omega) (bytes_take hb j)
theorem pow_le {j : Nat} (k : Nat) (h : j ≤ k) : (256 : Int) ^ j ≤ 256 ^ k := by
  have := Int.ofNat_le.2 (Nat.pow_le_pow_right (n := 256) (by omega) h)
  rw [Int.natCast_pow, Int.natCast_pow] at this
  exact this
theorem or_byte {n z : Int} (h0 : 0 ≤ n) (h1 : n < 72057594037927936) (h2 : 0 ≤ z) (h3 : z ≤ 255) : bits .or .u64 (IntKind.u64.wrap (n * 256)) z = n * 256 + z := by
  have hw : ∀ m : Int, 0 ≤ m → m < 2 ^ 64 → IntKind.u64.wrap m = m := fun m a b => by
    have e : IntKind.u64.wrap m = m % 18446744073709551616 := by simp [IntKind.wrap, IntKind.bits, IntKind.signed]
    rw [e]
    omega
  rw [hw _ (by omega) (by omega)]
  exact bits_join .u64 64 (by decide) hw 8 _ _ (by omega) (by omega) (by omega) h2 (by omega) (by omega)
theorem next_any (A : Option Addr) (c : Nat) (l : List Int) (w : World) (hr : Kd.C (Kd.int .u8) w A l.length l) (hc : l.length ≤ c) (hb : bytes l) :
    Calls Try.prog 65 #[.slice A l.length c] w fun e w' => e = .returned (.tuple #[.int .u64 (nextS l).1, .int .i64 (nextS l).2]) ∧ w = w' := by
  have HR := Aside0.mk hr
  cases l with
  | nil =>
    go_enter Try.func65, Try.ntmps65
    go_wp2
    go_ret2
    exact ⟨rfl, rfl⟩
  | cons d rest =>
    obtain ⟨ad, e, hx0⟩ := Kd.at_int hr 0 (by omega) (by simp)
    cases e
    simp only [Int.toNat_zero, rd, List.getD_cons_zero, Addr.add_zero'] at hx0
    have hd := hb d (by simp)
    have hlen : (d :: rest).length = rest.length + 1 := rfl
    rw [hlen] at hc ⊢
    by_cases h1 : d < 240
    · clear hr
      have HS := Aside0.mk (show nextS (d :: rest) = (d, 1) by simp [nextS, h1])
      go_enter Try.func65, Try.ntmps65
      go_wp2
      go_ret2
      rw [HS.out]
      exact ⟨rfl, rfl⟩
    · by_cases h2 : 248 ≤ d
      · clear hr
        have HS := Aside0.mk (show nextS (d :: rest) = (0, 0) by simp [nextS, h1, h2])
        go_enter Try.func65, Try.ntmps65
        go_wp2
        go_ret2
        rw [HS.out]
        exact ⟨rfl, rfl⟩
      · by_cases h3 : rest.length < (d - 239).toNat
        · clear hr
          have HS := Aside0.mk (show nextS (d :: rest) = (0, 0) by simp [nextS, h1, h3])
          have h3' : decide ((rest.length : Int) + 1 ≤ d - 240 + 1) = true := by simp; omega
          go_enter Try.func65, Try.ntmps65
          go_wp2
          go_ret2
          rw [HS.out]
          exact ⟨rfl, rfl⟩
        · have hk1 : 1 ≤ rest.length := by omega
          obtain ⟨ad', e, hx1⟩ := Kd.at_int hr 1 (by omega) (by rw [hlen]; omega)
          cases e
          simp only [show (1 : Int).toNat = 1 from rfl, rd, List.getD_cons_succ, Addr.add, Nat.reduceEqDiff, ↓reduceIte] at hx1
          have hd1 : 0 ≤ rest.getD 0 0 ∧ rest.getD 0 0 ≤ 255 := by
            rw [List.getD_eq_getElem?_getD, List.getElem?_eq_getElem (by omega)]
            exact hb _ (List.mem_cons_of_mem _ (List.getElem_mem _))
          generalize hy : rest.getD 0 0 = y at *
          have HY := Aside0.mk hy
          clear hy
          clear hr
          have h3' : decide ((rest.length : Int) + 1 ≤ d - 240 + 1) = false := by simp; omega
          by_cases h4 : y = 0
          · have HS := Aside0.mk (show nextS (d :: rest) = (0, 0) by simp only [nextS]; rw [if_neg h1, if_pos (.inr (.inr (HY.out.trans h4)))])
            subst h4
            go_enter Try.func65, Try.ntmps65
            go_wp2
            go_ret2
            rw [HS.out]
            exact ⟨rfl, rfl⟩
          · have h4' : (y == 0) = false := by simpa using h4
            go_enter Try.func65, Try.ntmps65
            go_wp2
            obtain ⟨k, hk⟩ : ∃ k : Nat, k = (d - 239).toNat := ⟨_, rfl⟩
            have hdk : d - 240 + 1 = (k : Int) := by omega
            have hk2 : k ≤ rest.length := by omega
            have hk3 : k ≤ 8 := by omega
            rw [show (1 + (d - 240 + 1)).toNat - 1 = k by omega, hdk]
            have HK := Aside0.mk hk
            have HD := Aside0.mk hdk
            have HB := Aside0.mk hb
            clear hk hdk h3' hx1 hx0 h4' h3 hlen hb
            go_loop [5, 44] (fun n i => ∃ j : Nat, j ≤ k ∧ i = .int .i64 j ∧ n = .int .u64 (val (rest.take j))) (fun _ i => k - (intOf i).toNat)
            case atStart => exact ⟨0, Nat.zero_le _, rfl, by simp [val]⟩
            case round =>
              obtain ⟨j, hj, rfl, rfl⟩ := hrel
              by_cases hlt : j < k
              · obtain ⟨ad', e, hx⟩ := Kd.at_int HR.out (j + 1 : Nat) (by omega) (by simp; omega)
                cases e
                simp only [Int.toNat_natCast, rd, List.getD_cons_succ, Addr.add, Nat.add_eq_zero_iff, Nat.one_ne_zero, and_false, ↓reduceIte] at hx
                rw [show ad.off + (j + 1) = ad.off + 1 + j by omega] at hx
                have hz : rest.take (j + 1) = rest.take j ++ [rest.getD j 0] := by
                  rw [List.take_succ_eq_append_getElem (by omega), List.getD_eq_getElem?_getD, List.getElem?_eq_getElem (by omega)]; rfl
                have hzb : 0 ≤ rest.getD j 0 ∧ rest.getD j 0 ≤ 255 := by
                  rw [List.getD_eq_getElem?_getD, List.getElem?_eq_getElem (by omega)]
                  exact HB.out _ (List.mem_cons_of_mem _ (List.getElem_mem _))
                have HV := Aside0.mk ((congrArg val hz).trans (val_snoc _ _))
                clear hz
                have hvb := val_take (bytes_drop HB.out 1) j (by simp; omega)
                have hvb7 := pow_le 7 (show j ≤ 7 by omega)
                simp only [List.drop_one, List.tail_cons] at hvb
                generalize rest.getD j 0 = z at *
                generalize val (rest.take j) = n at *
                have HO := Aside0.mk (or_byte hvb.1 (by omega) hzb.1 hzb.2)
                clear hvb hvb7
                go_wp2
                go_round
                case rel => exact ⟨j + 1, by omega, by go_num, by rw [HO.out, HV.out]⟩
                case measure => simp [intOf]; omega
              · obtain rfl : j = k := by omega
                have HS := Aside0.mk (show nextS (d :: rest) = if val (rest.take j) < 240 then (0, 0) else (val (rest.take j), 1 + j) by
                  simp only [nextS]
                  rw [if_neg (by omega), if_neg (by rw [HY.out]; omega), ← HK.out])
                by_cases h5 : val (rest.take j) < 240
                · go_wp2
                  go_ret2
                  rw [HS.out, if_pos h5]
                  exact ⟨rfl, rfl⟩
                · go_wp2
                  go_ret2
                  rw [HS.out, if_neg (by omega)]
                  exact ⟨by simp, rfl⟩
end Go.Proofs.Ytpaknjmcjblahaa.H
