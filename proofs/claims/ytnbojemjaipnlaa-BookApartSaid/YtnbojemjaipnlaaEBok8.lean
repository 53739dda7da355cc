/- ShelfP, Bok8. -/
import Derived.Shelf.SlIterI.Nil
import Derived.Shelf.SortM.Plain
import Derived.Shelf.SortM.SortNone
import Derived.Shelf.SlMaps.Clone
import Derived.Ground.GgzProg
import Derived.Ground.SlgmProg
import Derived.Ground.SlmcProg
import Derived.Test.YtnbojemjaipnlaaProg
import Derived.Test.YtnbojemjaipnlaaEBok7
/-! ### ShelfP -/
namespace Go.Proofs.Ytnbojemjaipnlaa.H
open Go.Shelf
def keysA_ren : Go.Shelf.Ren := ⟨fun | 7 => 33 | 10 => 39 | n => n, fun | 23 => 62 | 26 => 3 | 3 => 66 | 28 => 74 | 0 => 0 | 27 => 73 | 33 => 61 | 4 => 4 | n => n, fun | n => n⟩
theorem keysA : Go.Proofs.SlLaysZI.n7 Try.prog keysA_ren := {
  mixed := by kernel_rfl
  f7 := ⟨Try.f33.name, by decide, Try.func33.trans (congrArg some (by kernel_rfl))⟩
  f10 := ⟨Try.f39.name, by decide, Try.func39.trans (congrArg some (by kernel_rfl))⟩
  t0 := Try.underlying0
  a0 := Try.isAgg0
  z0 := Try.sizeOf0
  v0 := Try.zeroValue0
  t4 := Try.underlying4
  a4 := Try.isAgg4
  z4 := Try.sizeOf4
  v4 := Try.zeroValue4
  t23 := Try.underlying62
  a23 := Try.isAgg62
  z23 := Try.sizeOf62
  v23 := Try.zeroValue62
  t26 := Try.underlying3
  a26 := Try.isAgg3
  z26 := Try.sizeOf3
  v26 := Try.zeroValue3
  t27 := Try.underlying73
  a27 := Try.isAgg73
  z27 := Try.sizeOf73
  v27 := Try.zeroValue73
  t28 := Try.underlying74
  a28 := Try.isAgg74
  z28 := Try.sizeOf74
  v28 := Try.zeroValue74
  t33 := Try.underlying61
  a33 := Try.isAgg61
  z33 := Try.sizeOf61
  v33 := Try.zeroValue61 }
def sortedA_ren : Go.Shelf.Ren := ⟨fun | 6 => 32 | 8 => 37 | 9 => 38 | 11 => 40 | 13 => 42 | 12 => 41 | 23 => 52 | 24 => 53 | 14 => 43 | 15 => 44 | 16 => 45 | 17 => 46 | 18 => 47 | 19 => 48 | 20 => 49 | 21 => 50 | 22 => 51 | 25 => 54 | 26 => 55 | 27 => 56 | 28 => 57 | 29 => 58 | 30 => 59 | 31 => 60 | n => n, fun | 26 => 3 | 28 => 74 | 24 => 51 | 0 => 0 | 3 => 3 | 37 => 83 | 48 => 31 | 50 => 95 | 4 => 4 | 40 => 86 | 39 => 85 | 45 => 91 | 5 => 5 | 9 => 9 | 51 => 96 | 55 => 100 | 57 => 102 | 58 => 103 | 33 => 61 | n => n, fun | n => n⟩
theorem sortedA : Go.Proofs.SlLaysZI.n6 Try.prog sortedA_ren := {
  mixed := by kernel_rfl
  f6 := ⟨Try.f32.name, by decide, Try.func32.trans (congrArg some (by kernel_rfl))⟩
  f8 := ⟨Try.f37.name, by decide, Try.func37.trans (congrArg some (by kernel_rfl))⟩
  f11 := ⟨Try.f40.name, by decide, Try.func40.trans (congrArg some (by kernel_rfl))⟩
  t0 := Try.underlying0
  a0 := Try.isAgg0
  z0 := Try.sizeOf0
  v0 := Try.zeroValue0
  t24 := Try.underlying51
  a24 := Try.isAgg51
  z24 := Try.sizeOf51
  v24 := Try.zeroValue51
  t26 := Try.underlying3
  a26 := Try.isAgg3
  z26 := Try.sizeOf3
  v26 := Try.zeroValue3
  t28 := Try.underlying74
  a28 := Try.isAgg74
  z28 := Try.sizeOf74
  v28 := Try.zeroValue74
  i26 := by kernel_rfl }
def sortA_ren : Go.Shelf.Ren := ⟨fun | 5 => 38 | 8 => 42 | 7 => 41 | 19 => 52 | 20 => 53 | 10 => 43 | 11 => 44 | 12 => 45 | 13 => 46 | 14 => 47 | 15 => 48 | 16 => 49 | 17 => 50 | 18 => 51 | 30 => 54 | 31 => 55 | 32 => 56 | 33 => 57 | 34 => 58 | 35 => 59 | 40 => 60 | n => n, fun | 23 => 51 | 25 => 3 | 3 => 3 | 32 => 83 | 22 => 51 | 0 => 0 | 44 => 31 | 46 => 95 | 4 => 4 | 36 => 86 | 35 => 85 | 41 => 91 | 5 => 5 | 9 => 9 | 53 => 96 | 57 => 100 | 63 => 102 | 64 => 103 | n => n, fun | n => n⟩
theorem sortA : Go.Proofs.SlLaysM.n5 Try.prog sortA_ren := {
  mixed := by kernel_rfl
  f5 := ⟨Try.f38.name, by decide, Try.func38.trans (congrArg some (by kernel_rfl))⟩
  f7 := ⟨Try.f41.name, by decide, Try.func41.trans (congrArg some (by kernel_rfl))⟩
  f8 := Try.func42.trans (congrArg some (by kernel_rfl))
  f10 := ⟨Try.f43.name, by decide, Try.func43.trans (congrArg some (by kernel_rfl))⟩
  f11 := ⟨Try.f44.name, by decide, Try.func44.trans (congrArg some (by kernel_rfl))⟩
  f12 := ⟨Try.f45.name, by decide, Try.func45.trans (congrArg some (by kernel_rfl))⟩
  f13 := ⟨Try.f46.name, by decide, Try.func46.trans (congrArg some (by kernel_rfl))⟩
  f14 := ⟨Try.f47.name, by decide, Try.func47.trans (congrArg some (by kernel_rfl))⟩
  f15 := ⟨Try.f48.name, by decide, Try.func48.trans (congrArg some (by kernel_rfl))⟩
  f16 := ⟨Try.f49.name, by decide, Try.func49.trans (congrArg some (by kernel_rfl))⟩
  f17 := ⟨Try.f50.name, by decide, Try.func50.trans (congrArg some (by kernel_rfl))⟩
  f18 := ⟨Try.f51.name, by decide, Try.func51.trans (congrArg some (by kernel_rfl))⟩
  f19 := Try.func52.trans (congrArg some (by kernel_rfl))
  f20 := Try.func53.trans (congrArg some (by kernel_rfl))
  f30 := ⟨Try.f54.name, by decide, Try.func54.trans (congrArg some (by kernel_rfl))⟩
  f31 := Try.func55.trans (congrArg some (by kernel_rfl))
  f32 := Try.func56.trans (congrArg some (by kernel_rfl))
  f33 := ⟨Try.f57.name, by decide, Try.func57.trans (congrArg some (by kernel_rfl))⟩
  f34 := ⟨Try.f58.name, by decide, Try.func58.trans (congrArg some (by kernel_rfl))⟩
  f35 := ⟨Try.f59.name, by decide, Try.func59.trans (congrArg some (by kernel_rfl))⟩
  f40 := ⟨Try.f60.name, by decide, Try.func60.trans (congrArg some (by kernel_rfl))⟩
  t0 := Try.underlying0
  a0 := Try.isAgg0
  z0 := Try.sizeOf0
  v0 := Try.zeroValue0
  t3 := Try.underlying3
  a3 := Try.isAgg3
  z3 := Try.sizeOf3
  v3 := Try.zeroValue3
  t4 := Try.underlying4
  a4 := Try.isAgg4
  z4 := Try.sizeOf4
  v4 := Try.zeroValue4
  t5 := Try.underlying5
  a5 := Try.isAgg5
  z5 := Try.sizeOf5
  v5 := Try.zeroValue5
  t9 := Try.underlying9
  a9 := Try.isAgg9
  z9 := Try.sizeOf9
  v9 := Try.zeroValue9
  t22 := Try.underlying51
  a22 := Try.isAgg51
  z22 := Try.sizeOf51
  v22 := Try.zeroValue51
  t23 := Try.underlying51
  a23 := Try.isAgg51
  z23 := Try.sizeOf51
  v23 := Try.zeroValue51
  t25 := Try.underlying3
  a25 := Try.isAgg3
  z25 := Try.sizeOf3
  v25 := Try.zeroValue3
  t32 := Try.underlying83
  a32 := Try.isAgg83
  z32 := Try.sizeOf83
  v32 := Try.zeroValue83
  t35 := Try.underlying85
  a35 := Try.isAgg85
  z35 := Try.sizeOf85
  v35 := Try.zeroValue85
  t36 := Try.underlying86
  a36 := Try.isAgg86
  z36 := Try.sizeOf86
  v36 := Try.zeroValue86
  t41 := Try.underlying91
  a41 := Try.isAgg91
  z41 := Try.sizeOf91
  v41 := Try.zeroValue91
  t44 := Try.underlying31
  a44 := Try.isAgg31
  z44 := Try.sizeOf31
  v44 := Try.zeroValue31
  t46 := Try.underlying95
  a46 := Try.isAgg95
  z46 := Try.sizeOf95
  v46 := Try.zeroValue95
  t53 := Try.underlying96
  a53 := Try.isAgg96
  z53 := Try.sizeOf96
  v53 := Try.zeroValue96
  t57 := Try.underlying100
  a57 := Try.isAgg100
  z57 := Try.sizeOf100
  v57 := Try.zeroValue100
  t63 := Try.underlying102
  a63 := Try.isAgg102
  z63 := Try.sizeOf102
  v63 := Try.zeroValue102
  t64 := Try.underlying103
  a64 := Try.isAgg103
  z64 := Try.sizeOf103
  v64 := Try.zeroValue103 }
def cloneA_ren : Go.Shelf.Ren := ⟨fun | 5 => 31 | 7 => 36 | n => n, fun | 23 => 62 | 25 => 3 | 3 => 66 | 4 => 4 | 20 => 20 | n => n, fun | n => n⟩
theorem cloneA : Go.Proofs.SlLaysW.n5 Try.prog cloneA_ren := {
  mixed := by kernel_rfl
  f5 := ⟨Try.f31.name, by decide, Try.func31.trans (congrArg some (by kernel_rfl))⟩
  f7 := Try.func36.trans (congrArg some (by kernel_rfl))
  t4 := Try.underlying4
  a4 := Try.isAgg4
  z4 := Try.sizeOf4
  v4 := Try.zeroValue4
  t20 := Try.underlying20
  a20 := Try.isAgg20
  z20 := Try.sizeOf20
  v20 := Try.zeroValue20
  t23 := Try.underlying62
  a23 := Try.isAgg62
  z23 := Try.sizeOf62
  v23 := Try.zeroValue62 }
end Go.Proofs.Ytnbojemjaipnlaa.H
/-! ### Bok8 -/
namespace Go.Proofs.Ytnbojemjaipnlaa.H
open Go.RowKit Go.Maps Go.Sort Go.Shelf Go.Proofs.Ytnbojemjaipnlaa.P Go.Proofs.YtnbojemjaipnlaaW.PrintWords Go.Proofs.YtnbojemjaipnlaaW.PrintLast Go.Proofs.YtnbojemjaipnlaaW.PrintMore
set_option linter.unusedVariables false
set_option linter.unusedSimpArgs false
set_option maxRecDepth 20000
theorem sortsB (m : Nat) : AnyZI.SortsIn Try.prog sortedA_ren Fence.wide m :=
  ⟨fun blk off cap ss W hH hblk hsz => callsIn_wide.2 (AnyM.slices_Sort_int sortA blk off cap ss W hH hblk hsz),
   fun p cap W => callsIn_wide.2 (AnyM.slices_Sort_int_none sortA p cap W)⟩
theorem enters8 {f : FuncId} {fn : Func} {c : Code} (hf : Try.prog.funcs[f]? = some fn) (hname : (fn.name == "runtime.NumGoroutine") = false) (hb : fn.body = some c) : ∀ args w, (callFunc f args).run Try.prog w = .ok (.enter f args) w := by
  intro args w
  have h1 : fn.name ≠ "runtime.NumGoroutine" := by simpa using hname
  simp [callFunc, hf, h1, hb, go_sem]
set_option maxHeartbeats 1000000 in
theorem sessions_raw (hb g : Nat) (R : List (Int × Value)) (w : World) (hc : w.cell? ⟨hb, 0, none⟩ = some (.map (some g))) (h : BM w g R) (hm : R.length ≤ 1000) :
    Calls Try.prog 17 #[.pointer (some ⟨hb, 0, none⟩)] w fun e w' => ∃ (v : Value) (ss : List Int), e = .returned v ∧ ss.Perm (intKeys (encM R)) ∧
      w'.ownsRow w.heap.size 3 1 v ss.length ((ss.mergeSort (fun x y => decide (x ≤ y))).map encZ) ∧ Below w.heap.size w w' := by
  refine (callsIn_wide (n := 6)).1 ?_
  have hown := h.own
  have hbl := hown.lt
  have hsz : Go.Maps.size (encM R) = R.length := by unfold encM; rw [Go.Maps.size_eq, List.length_map]
  have hseq : SeqGives Fence.wide 2 Try.prog 39 #[.pointer (some ⟨w.heap.size, 0, none⟩)] encZ (fun ss => ss.Perm (intKeys (encM R))) (Go.Maps.size (encM R)) (w.alloc (.cells #[.map (some g)] MapT)) :=
    AnyZI.keys_gives (ρ := keysA_ren) { keysA with } Fence.wide _ trivial rfl (by omega) w.heap.size g R.length (encM R) _ (by simp) (by simp) (by
      obtain ⟨es, clock, hb, Ft, hs, hD⟩ := hown
      exact ⟨es, clock, (Below.heap_alloc _ _ g hbl).trans hb, Ft, hs, hD⟩)
  have cK : ∀ mb W, CallsIn Fence.wide 5 Try.prog 33 #[.map mb] W fun e w' => e = .returned (.func (.func 39) #[] #[.pointer (some ⟨W.heap.size, 0, none⟩)]) ∧ w' = W.alloc (.cells #[.map mb] MapT) := fun mb W => AnyZI.keys_in keysA Fence.wide 5 trivial rfl mb W
  have cS := AnyZI.sorted_in sortedA Fence.wide 5 trivial trivial trivial trivial rfl (by omega) (sortsB _) (enters8 Try.func38 (by kernel_rfl) rfl) 39 #[.pointer (some ⟨w.heap.size, 0, none⟩)] trivial (enters8 Try.func39 (by kernel_rfl) rfl) _ _ (by rw [hsz]; unfold maxLen; omega) (by rw [hsz]; omega) _ hseq
  change CallsIn _ _ Try.prog 32 _ _ _ at cS
  have hu2 := Try.underlying64
  have hfK : Fence.wide.fn 33 := trivial
  have hfS : Fence.wide.fn 32 := trivial
  clear hseq hsz h hown
  refine callsIn_of_wp Try.func17 rfl trivial ?_ rfl
  simp only [Try.ntmps17, List.size_toArray, List.length_cons, List.length_nil, Nat.reduceAdd, Nat.reduceSub, Array.replicate_succ, Array.replicate_zero, List.push_toArray, List.append_toArray, List.nil_append, List.cons_append]
  gi_wp2_with (first
    | (gi_at_call 33; refine (cK _ _).mono ?_; rintro e w' ⟨rfl, rfl⟩)
    | (gi_at_call 32; refine cS.mono ?_; rintro e w' ⟨v, ss, rfl, hS, hrow, hnil, hb⟩))
  go_ret
  exact ⟨v, ss, rfl, hS, ownsRow_base_a hrow (by simp), ((Below.refl _ w).alloc (Nat.le_refl _) _).trans (hb.mono (by simp))⟩
theorem rise_ext : ∀ {l m : List Int}, l.Pairwise (· < ·) → m.Pairwise (· < ·) → (∀ x, x ∈ l ↔ x ∈ m) → l = m
  | [], [], _, _, _ => rfl
  | [], y :: m, _, _, h => by have := (h y).2 (by simp); cases this
  | x :: l, [], _, _, h => by have := (h x).1 (by simp); cases this
  | x :: l, y :: m, hl, hm, h => by
    have pl := List.pairwise_cons.1 hl
    have pm := List.pairwise_cons.1 hm
    have hxy : x = y := by
      rcases List.mem_cons.1 ((h x).1 (by simp)) with e | hx
      · exact e
      · rcases List.mem_cons.1 ((h y).2 (by simp)) with e | hy
        · exact e.symm
        · have := pm.1 x hx
          have := pl.1 y hy
          omega
    subst hxy
    rw [rise_ext pl.2 pm.2 (fun z => ⟨fun hz => by
      rcases List.mem_cons.1 ((h z).1 (List.mem_cons_of_mem _ hz)) with e | hz'
      · have := pl.1 z hz; omega
      · exact hz', fun hz => by
      rcases List.mem_cons.1 ((h z).2 (List.mem_cons_of_mem _ hz)) with e | hz'
      · have := pm.1 z hz; omega
      · exact hz'⟩)]
theorem sorted_keys {ss : List Int} {K : List Int} (hp : ss.Perm K) (hK : K.Pairwise (· < ·)) : ss.mergeSort (fun x y => decide (x ≤ y)) = K := by
  have h1 := List.pairwise_mergeSort (le := fun x y : Int => decide (x ≤ y)) (fun a b c h h' => by simp at *; omega) (fun a b => by simp; omega) ss
  have h2 : (ss.mergeSort (fun x y => decide (x ≤ y))).Perm K := (List.mergeSort_perm ss _).trans hp
  have hnd : K.Nodup := hK.imp (fun h => by omega)
  have hnd2 := h2.nodup_iff.2 hnd
  refine rise_ext ?_ hK (fun x => h2.mem_iff)
  have h3 := h1.and hnd2
  exact h3.imp (fun h => by
    have a := h.1
    have b := h.2
    simp at a
    omega)
theorem Both.keys {w : World} : ∀ {R : List (Int × Value)} {M : List (Int × Ses)}, Both (PairAt w) R M → R.map (·.1) = M.map (·.1)
  | _, _, .nil => rfl
  | _, _, .cons h1 h2 => by rw [List.map_cons, List.map_cons, h2.keys, h1.1]
theorem C_ownI {w : World} {B : Nat} {v : Value} {l : List Int} (h : w.ownsRow B 3 1 v l.length (l.map encZ)) : ∃ A c, v = .slice A l.length c ∧ l.length ≤ c ∧ Kd.C (Kd.int .i64) w A l.length l := by
  obtain ⟨h1, ⟨e, h2⟩ | ⟨g, cap, cur, e, h2, h3, h4, h5, h6, h7⟩⟩ := h
  · have hl : l = [] := by simpa using h2
    subst hl
    exact ⟨none, 0, e, Nat.le_refl _, ⟨rfl, by simp, fun h => absurd h (by simp)⟩⟩
  · refine ⟨_, cap, e, h4, rfl, by unfold maxLen at h5; omega, fun _ => ⟨_, rfl, fun j p hj => ⟨[.int .i64 p], rfl, rfl, fun i u hu => ?_⟩⟩⟩
    have hi : i = 0 := by
      have := (List.getElem?_eq_some_iff.1 hu).1
      simpa using this
    subst hi
    simp at hu
    subst hu
    rw [add_plain, blk_cell h3]
    show cur[j * 1 + 0]? = _
    have hjl := (List.getElem?_eq_some_iff.1 hj).1
    have h8 : (l.map encZ)[j]? = some (Value.int .i64 p) := by rw [List.getElem?_map, hj]; rfl
    rw [← h7, List.getElem?_take_of_lt (by omega), Array.getElem?_toList] at h8
    rw [Nat.mul_one, Nat.add_zero]
    exact h8
theorem sessions_any (hb g : Nat) (M : List (Int × Ses)) (w : World) (h : BookAt w hb g M) (hm : M.length ≤ 1000) :
    Calls Try.prog 17 #[.pointer (some ⟨hb, 0, none⟩)] w fun e w' => ∃ A c, e = .returned (.slice A (M.map (·.1)).length c) ∧ (M.map (·.1)).length ≤ c ∧ Kd.C (Kd.int .i64) w' A (M.map (·.1)).length (M.map (·.1)) ∧ Below w.heap.size w w' := by
  have hc := h.cell
  have hu := h.rise
  obtain ⟨_, R, h1, h2⟩ := h
  have hl := h2.len
  refine (sessions_raw hb g R w hc h1 (by omega)).mono ?_
  rintro e w' ⟨v, ss, rfl, hp, hrow, hbel⟩
  have hk : intKeys (encM R) = M.map (·.1) := by
    rw [← h2.keys]
    unfold encM intKeys
    dsimp only
    rw [List.map_map]
    rfl
  rw [hk] at hp
  have hsort := sorted_keys hp (by
    rw [List.pairwise_map]
    exact hu)
  have hlen : ss.length = (M.map (·.1)).length := hp.length_eq
  rw [hsort, hlen] at hrow
  obtain ⟨A, c, e, h3, h4⟩ := C_ownI hrow
  exact ⟨A, c, by rw [e], h3, h4, hbel⟩
set_option maxHeartbeats 1000000 in
theorem copy_any (hb g : Nat) (M : List (Int × Ses)) (w : World) (h : BookAt w hb g M) :
    Calls Try.prog 16 #[.pointer (some ⟨hb, 0, none⟩)] w fun e w' => ∃ hb' g', e = .returned (.pointer (some ⟨hb', 0, none⟩)) ∧ BookAt w' hb' g' M ∧ w.heap.size ≤ g' ∧ w.heap.size ≤ hb' ∧ Below w.heap.size w w' := by
  have hc := h.cell
  have hg := h.gt
  have H := Aside0.mk h
  obtain ⟨_, R, ⟨⟨es, clock, hblk, F, hs, hD⟩, hup⟩, h2⟩ := h
  have HC := Aside0.mk (AnyW.maps_Clone cloneA g es clock w hblk)
  have HX := Aside0.mk (show BookAt ((w.alloc (.map es clock)).alloc (.cells #[.map (some w.heap.size)] 64)) (w.heap.size + 1) w.heap.size M from by
    have hb1 : Below w.heap.size w ((w.alloc (.map es clock)).alloc (.cells #[.map (some w.heap.size)] 64)) := ((Below.refl w.heap.size w).alloc (Nat.le_refl _) _).alloc (by simp) _
    refine ⟨?_, R, ⟨⟨es, clock, ?_, F, hs, hD⟩, hup⟩, h2.imp (fun a b q => ⟨q.1, q.2.but (S := fun _ => False) (ButS.of hb1) (fun _ q => q.elim)⟩)⟩
    · have := blk_new (w.alloc (.map es clock)) (.cells #[.map (some w.heap.size)] 64)
      rw [show (w.alloc (.map es clock)).heap.size = w.heap.size + 1 from by simp] at this
      exact this
    · exact (Below.heap_alloc (w.alloc (.map es clock)) _ w.heap.size (by simp)).trans (heap_alloc_new w _))
  have HB := Aside0.mk (((Below.refl w.heap.size w).alloc (Nat.le_refl _) (.map es clock)).alloc (by simp) (.cells #[.map (some w.heap.size)] 64))
  have hu2 := Try.underlying64
  have HC := Aside0.mk (show Calls Try.prog 31 #[.map (some g)] w _ from HC.out)
  clear hblk F hs hD hup h2 hg
  go_enter Try.func16, Try.ntmps16
  go_wp2_with fail
  refine HC.out.mono ?_
  rintro e w2 ⟨rfl, rfl⟩
  go_wp2_with fail
  go_ret
  exact ⟨w.heap.size + 1, w.heap.size, by simp, HX.out, Nat.le_refl _, by omega, HB.out⟩
end Go.Proofs.Ytnbojemjaipnlaa.H
