/- Wir9. -/
import Derived.Test.YtpaknjmcjblahaaEWir7
import Derived.Laws.ResultCell
namespace Go.Proofs.Ytpaknjmcjblahaa.H
open Go.RowKit Go.Proofs.Ytpaknjmcjblahaa.P Go.Proofs.YtpaknjmcjblahaaW.PrintWords Go.Proofs.YtpaknjmcjblahaaW.PrintLast Go.Proofs.YtpaknjmcjblahaaW.PrintMore
set_option linter.unusedVariables false
set_option linter.unusedSimpArgs false
set_option maxRecDepth 20000
theorem heap_setRow {W : World} {g k : Nat} {cs : Array Value} (h : k ≠ g) : (W.setRow g cs).heap[k]? = W.heap[k]? := by
  unfold World.setRow
  show (Array.modify _ _ _)[k]? = _
  rw [Array.getElem?_modify, if_neg (fun e => h e.symm)]
theorem heap_setRow_self {W : World} {g : Nat} {cs c : Array Value} {t : TypeId} (h : W.heap[g]? = some (.cells c t (0, 0))) : (W.setRow g cs).heap[g]? = some (.cells cs t (0, 0)) := by
  unfold World.setRow
  show (Array.modify _ _ _)[g]? = _
  rw [Array.getElem?_modify, if_pos rfl, h]; rfl
theorem size_setRow (W : World) (g : Nat) (cs : Array Value) : (W.setRow g cs).heap.size = W.heap.size := by unfold World.setRow; simp
theorem Mine.row {w W : World} {t h b : Nat} {cs : Array Value} {ty : TypeId} (k : Mine w W t h b cs ty) (cs' : Array Value) (hn : noU8 cs' = true) : Mine w (W.setRow b cs') t h b cs' ty :=
  ⟨heap_setRow_self k.blk, k.new, hn, k.n1, k.n2⟩
theorem Mine.farRow {w W : World} {t h b g : Nat} {cs : Array Value} {ty : TypeId} (k : Mine w W t h b cs ty) (hne : b ≠ g) (cs' : Array Value) : Mine w (W.setRow g cs') t h b cs ty := ⟨(heap_setRow hne).trans k.blk, k.new, k.no, k.n1, k.n2⟩
theorem Keep2.mineRow {w W : World} {t h b : Nat} {cs : Array Value} {ty : TypeId} (p : Keep2 t h w W) (k : Mine w W t h b cs ty) (cs' : Array Value) : Keep2 t h w (W.setRow b cs') :=
  ⟨p.os, p.tape, p.output, by rw [size_setRow]; exact p.size, fun i hi h1 h2 => (heap_setRow (by have := k.new; omega)).trans (p.block i hi h1 h2)⟩
theorem TK.farRow {W : World} {t h : Nat} {m : Mc} (k : TK W t h m) {w : World} {b : Nat} {cs : Array Value} {ty : TypeId} (x : Mine w W t h b cs ty) (cs' : Array Value) : TK (W.setRow b cs') t h m := by
  obtain ⟨A, c, h1, h2, h3, h4⟩ := k.rd
  exact ⟨(heap_setRow (fun e => x.n1 e.symm)).trans k.blk, ⟨A, c, (heap_setRow (fun e => x.n2 e.symm)).trans h1, h2, C_moves h3 fun ad e hn => heap_setRow (apartX x.blk x.no h3 ad e hn), h4⟩, k.bytes⟩
theorem RT.farRow {W : World} {g : Nat} {m : Mc} (k : RT W g m) {w : World} {b : Nat} {cs : Array Value} {ty : TypeId} (x : Mine w W g g b cs ty) (cs' : Array Value) : RT (W.setRow b cs') g m := by
  obtain ⟨B, d, l, i, ⟨h1, h2, h3, h4⟩, h5, h6, h7⟩ := k
  exact ⟨B, d, l, i, ⟨(heap_setRow (fun e => x.n1 e.symm)).trans h1, h2, h3, C_moves h4 fun ad e hn => heap_setRow (apartX x.blk x.no h4 ad e hn)⟩, h5, h6, h7⟩
theorem wp_store_row {P : Program} {o : Oper} {a : Act} {w : World} {K : Act → World → Prop} {Q : Exit → Act → World → Prop} {t ty : TypeId} {x y : Operand} {g : Nat} {c c' : Array Value}
    (hg : w.heap[g]? = some (.cells c ty (0, 0))) (ho : o.op = .store t x y) (hd : o.dst = none) (hx : a.eval x = .pointer (some ⟨g, 0, none⟩)) (hy : a.eval y = .agg c')
    (hi : (P.info? t).map (·.size) = some c'.size) (hs : c.size = c'.size) (h1 : c'.all (·.oneCell') = true) (hk : K a (w.setRow g c')) : Oper.wp P o a w K Q := by
  have hst := run_storeVar_row (P := P) w g ty t c c' hg hi hs h1
  unfold Oper.wp execOp
  rw [ho]
  simp only [hx, hy, Instr.storeAt, Instr.sureAddr, Sem.run_bind, Sem.run_pure, Result.andThen, hst]
  rw [Oper.upon_skip, hd]
  exact hk
theorem wp_load_row {P : Program} {o : Oper} {a : Act} {w : World} {K : Act → World → Prop} {Q : Exit → Act → World → Prop} {t ty : TypeId} {x : Operand} {g : Nat} {c : Array Value} {d : TypeDesc}
    (hg : w.heap[g]? = some (.cells c ty (0, 0))) (ho : o.op = .load t x) (hx : a.eval x = .pointer (some ⟨g, 0, none⟩))
    (hu : P.underlying t = some d) (hd : (match d with | .struct _ | .array _ _ => true | _ => false) = true) (hi : (P.info? t).map (·.size) = some c.size) (hk : K (a.put o.dst (.agg c)) w) : Oper.wp P o a w K Q := by
  have hst := run_loadVar_row (P := P) w g ty t c (0, 0) d hg hu hd hi
  unfold Oper.wp execOp
  rw [ho]
  simp only [hx, Instr.loadAt, Instr.sureAddr, Sem.run_bind, Sem.run_pure, Result.andThen, hst]
  rw [Oper.upon_value]
  exact hk
theorem results_row {P : Program} {fn : Func} {p u : Tmp} {ty ty0 : TypeId} {tmps : Array Value} {w : World} {g : Nat} {c : Array Value} {v : Value} {d : TypeDesc} (h : fn.results = #[.cell p ty, .tmp u]) (hp : tmps.getD p undef = .pointer (some ⟨g, 0, none⟩)) (hv : tmps.getD u undef = v)
    (hg : w.heap[g]? = some (.cells c ty0 (0, 0))) (hu : P.underlying ty = some d) (hd : (match d with | .struct _ | .array _ _ => true | _ => false) = true) (hi : (P.info? ty).map (·.size) = some c.size) : (results fn tmps).run P w = .ok (.tuple #[.agg c, v]) w := by
  have hst := run_loadVar_row (P := P) w g ty0 ty c (0, 0) d hg hu hd hi
  rw [results_cell_tmp h, hp, hv]
  simp only [asAddr, Sem.run_pure, Result.andThen, hst]
def decM (l : List Int) : Rq × Mc :=
  let a := numM 9 ⟨l, false⟩
  let b := numM 255 a.2
  if partK a.1 = 1 then
    let c := textM 40 b.2
    (⟨a.1, b.1, c.1, 0, zRu, 0, 0, 0, 0, 0, 0, ⟨#[]⟩⟩, c.2)
  else if partK a.1 = 2 then
    let c := numM 255 b.2
    let d := ruleM c.2
    (⟨a.1, b.1, ⟨#[]⟩, c.1, d.1, 0, 0, 0, 0, 0, 0, ⟨#[]⟩⟩, d.2)
  else if partK a.1 = 3 then
    let c := numM 255 b.2
    let d := numM 255 c.2
    let e := numM 255 d.2
    let f := numM 255 e.2
    let g := numM wideW f.2
    let h := numM wideW g.2
    let i := textM 40 h.2
    (⟨a.1, b.1, ⟨#[]⟩, 0, zRu, c.1, d.1, e.1, f.1, g.1, h.1, i.1⟩, i.2)
  else (⟨a.1, b.1, ⟨#[]⟩, 0, zRu, 0, 0, 0, 0, 0, 0, ⟨#[]⟩⟩, b.2)
def decOut (l : List Int) : Rq × Int :=
  if (decM l).2.bad = true ∨ 0 < (decM l).2.rest.length ∨ rightQ (decM l).1 = false then (zRq, 171) else ((decM l).1, 0)
theorem ok0 : (0 : Int) ≤ 0 ∧ (0 : Int) ≤ 4294967295 := by decide
theorem okRu0 : okRu zRu := ⟨ok0, ok0⟩
theorem ruleM_ok (m : Mc) (hb : bytes m.rest) : okRu (ruleM m).1 := by
  unfold ruleM okRu
  have w0 : (0 : Int) ≤ wideW := by decide
  have h1 := numM_bytes wideW m hb
  have h2 := numM_bytes wideW _ h1
  have h3 := numM_bytes wideW _ h2
  have h4 := numM_bytes wideW _ h3
  have h5 := numM_bytes wideW _ h4
  exact ⟨numM_bound wideW _ h4 w0, numM_bound wideW _ h5 w0⟩
theorem ruleM_bytes (m : Mc) (hb : bytes m.rest) : bytes (ruleM m).2.rest := by
  unfold ruleM
  have h1 := numM_bytes wideW m hb
  have h2 := numM_bytes wideW _ h1
  have h3 := numM_bytes wideW _ h2
  have h4 := numM_bytes wideW _ h3
  have h5 := numM_bytes wideW _ h4
  have h6 := numM_bytes wideW _ h5
  exact numM_bytes wideW _ h6
set_option maxHeartbeats 4000000 in
theorem dec_0 (A : Option Addr) (c : Nat) (l : List Int) (w : World) (hC : Kd.C (Kd.int .u8) w A l.length l) (hc : l.length ≤ c) (hl : l.length < 140737488355328) (hby : bytes l) (n1 : Int) (m1 : Mc) (q1 : numM 9 (⟨l, false⟩) = (n1, m1)) (n2 : Int) (m2 : Mc) (q2 : numM 255 m1 = (n2, m2)) (hp : partK n1 = 0) (rb : Bool) (hrb : rightQ ⟨n1, n2, ⟨#[]⟩, 0, zRu, 0, 0, 0, 0, 0, 0, ⟨#[]⟩⟩ = rb) (OUT : Rq × Int) (hO : OUT = if m2.bad = true ∨ 0 < m2.rest.length ∨ rb = false then (zRq, 171) else (⟨n1, n2, ⟨#[]⟩, 0, zRu, 0, 0, 0, 0, 0, 0, ⟨#[]⟩⟩, 0)) :
    Calls Try.prog 12 #[.slice A l.length c] w fun e w' => e = .returned (.tuple #[.agg (rqVals OUT.1).toArray, .int .i64 OUT.2]) ∧ Below w.heap.size w w' := by
  have HO := Aside0.mk hO
  clear hO
  have hb0 : bytes (Mc.mk l false).rest := hby
  have hd1 := numM_bound 9 ⟨l, false⟩ hb0 (by decide)
  have hb1 := numM_bytes 9 ⟨l, false⟩ hb0
  rw [q1] at hd1 hb1
  simp only [] at hd1 hb1
  have C1 := Aside0.mk (fun (t h : Nat) (W : World) (k : TK W t h (⟨l, false⟩)) => tnum_any t h ⟨l, false⟩ 9 (by decide) (by decide) W k)
  rw [q1] at C1
  simp only [] at C1
  have hd2 := numM_bound 255 m1 hb1 (by decide)
  have hb2 := numM_bytes 255 m1 hb1
  rw [q2] at hd2 hb2
  simp only [] at hd2 hb2
  have C2 := Aside0.mk (fun (t h : Nat) (W : World) (k : TK W t h (m1)) => tnum_any t h m1 255 (by decide) (by decide) W k)
  rw [q2] at C2
  simp only [] at C2
  have CR := Aside0.mk (fun W => right_any ⟨n1, n2, ⟨#[]⟩, 0, zRu, 0, 0, 0, 0, 0, 0, ⟨#[]⟩⟩ ⟨okRu0, ok0, ok0⟩ W)
  rw [hrb] at CR
  unfold zRu at CR
  simp only [] at CR
  have CP := Aside0.mk (fun W => counts_any n1 W)
  rw [hp] at CP
  clear hb0 hb1 hb2 hd1 hd2 q1 q2 hrb
  have hC0 := Aside0.mk hC
  clear hC
  go_enter Try.func12, Try.ntmps12
  have hbn := Aside0.mk ((Below.refl w.heap.size w).alloc (Nat.le_refl _) (.cells #[.int .i64 0, .int .i64 0, .string ⟨#[]⟩, .int .i64 0, .int .i64 0, .int .i64 0, .int .i64 0, .int .i64 0, .int .u32 0, .int .u32 0, .int .i64 0, .int .i64 0, .int .i64 0, .int .i64 0, .int .i64 0, .int .u32 0, .int .u32 0, .string ⟨#[]⟩] 36))
  have hbl := Aside0.mk (blk_new w (.cells #[.int .i64 0, .int .i64 0, .string ⟨#[]⟩, .int .i64 0, .int .i64 0, .int .i64 0, .int .i64 0, .int .i64 0, .int .u32 0, .int .u32 0, .int .i64 0, .int .i64 0, .int .i64 0, .int .i64 0, .int .i64 0, .int .u32 0, .int .u32 0, .string ⟨#[]⟩] 36))
  try dsimp only
  repeat ((fail_if_success (show Code.wp _ (Code.seq (Code.region 1 _ _) _) _ _ _)); (first | go_values | go_skip | go_guarded | go_step | go_upon | go_back))
  have hC1 := Aside0.mk (Kd.C_below hC0.out ((Below.refl w.heap.size w).alloc (Nat.le_refl _) (.cells #[.int .i64 0, .int .i64 0, .string ⟨#[]⟩, .int .i64 0, .int .i64 0, .int .i64 0, .int .i64 0, .int .i64 0, .int .u32 0, .int .u32 0, .int .i64 0, .int .i64 0, .int .i64 0, .int .i64 0, .int .i64 0, .int .u32 0, .int .u32 0, .string ⟨#[]⟩] 36)))
  have hs := Aside0.mk (show w.heap.size < (w.alloc (.cells #[.int .i64 0, .int .i64 0, .string ⟨#[]⟩, .int .i64 0, .int .i64 0, .int .i64 0, .int .i64 0, .int .i64 0, .int .u32 0, .int .u32 0, .int .i64 0, .int .i64 0, .int .i64 0, .int .i64 0, .int .i64 0, .int .u32 0, .int .u32 0, .string ⟨#[]⟩] 36)).heap.size from by simp)
  clear hC0
  generalize (w.alloc (.cells #[.int .i64 0, .int .i64 0, .string ⟨#[]⟩, .int .i64 0, .int .i64 0, .int .i64 0, .int .i64 0, .int .i64 0, .int .u32 0, .int .u32 0, .int .i64 0, .int .i64 0, .int .i64 0, .int .i64 0, .int .i64 0, .int .u32 0, .int .u32 0, .string ⟨#[]⟩] 36)) = V0 at *
  go_wp2_with fail
  refine (open_any A c l V0 hC1.out hc hl).mono ?_
  rintro e V1 ⟨h, rfl, hrd, hgh, hgl, hb⟩
  have hsz := hb.size
  have s0 := hs.out
  have hb1 := Aside0.mk (hbn.out.trans (hb.mono (Nat.le_of_lt s0)))
  have hx0 := Aside0.mk (blk_below hbl.out hb)
  clear hC1 hb hbn hbl
  try dsimp only
  repeat ((fail_if_success (show Code.wp _ (Code.seq (Code.region 2 _ _) _) _ _ _)); (first | go_values | go_skip | go_guarded | go_step | go_upon | go_back))
  have T0 := Aside0.mk (show TK (V1.alloc (.cells #[.pointer (some ⟨h, 0, none⟩), .bool false] 77)) V1.heap.size h ⟨l, false⟩ from ⟨blk_new V1 _, hrd.below ((Below.refl V1.heap.size V1).alloc (Nat.le_refl _) _), hby⟩)
  have hbm := (Below.refl V1.heap.size V1).alloc (Nat.le_refl _) (.cells #[.pointer (some ⟨h, 0, none⟩), .bool false] 77)
  have X0 := Aside0.mk (show Mine w (V1.alloc (.cells #[.pointer (some ⟨h, 0, none⟩), .bool false] 77)) V1.heap.size h w.heap.size #[.int .i64 0, .int .i64 0, .string ⟨#[]⟩, .int .i64 0, .int .i64 0, .int .i64 0, .int .i64 0, .int .i64 0, .int .u32 0, .int .u32 0, .int .i64 0, .int .i64 0, .int .i64 0, .int .i64 0, .int .i64 0, .int .u32 0, .int .u32 0, .string ⟨#[]⟩] 36 from ⟨blk_below hx0.out hbm, Nat.le_refl _, rfl, by omega, by omega⟩)
  have K0 := Aside0.mk (show Keep2 V1.heap.size h w (V1.alloc (.cells #[.pointer (some ⟨h, 0, none⟩), .bool false] 77)) from Keep2.of (hb1.out.trans (hbm.mono (by omega))))
  have HT := Aside0.mk (show w.heap.size ≤ V1.heap.size from by omega)
  have HH := Aside0.mk (show w.heap.size ≤ h from by omega)
  clear hbm hx0 hb1 hs s0 hsz hgl hgh hrd hby
  generalize V1.alloc (.cells #[.pointer (some ⟨h, 0, none⟩), .bool false] 77) = W0 at *
  generalize V1.heap.size = t at *
  replace C1 := Aside0.mk (C1.out t h)
  replace C2 := Aside0.mk (C2.out t h)
  go_wp2_with fail
  refine (C1.out _ T0.out).mono ?_
  rintro e W1 ⟨rfl, ht, hk⟩
  have X1 := Aside0.mk (X0.out.keep hk)
  have K1 := Aside0.mk (K0.out.trans hk)
  have T1 := Aside0.mk ht
  clear ht hk C1 T0 K0 X0
  go_wp2_with fail
  refine (C2.out _ T1.out).mono ?_
  rintro e W2 ⟨rfl, ht, hk⟩
  have X2 := Aside0.mk (X1.out.keep hk)
  have K2 := Aside0.mk (K1.out.trans hk)
  have T2 := Aside0.mk ht
  clear ht hk C2 T1 K1 X1
  have hbn := (Below.refl W2.heap.size W2).alloc (Nat.le_refl _) (.cells #[.int .i64 0, .int .i64 0, .string ⟨#[]⟩, .int .i64 0, .int .i64 0, .int .i64 0, .int .i64 0, .int .i64 0, .int .u32 0, .int .u32 0, .int .i64 0, .int .i64 0, .int .i64 0, .int .i64 0, .int .i64 0, .int .u32 0, .int .u32 0, .string ⟨#[]⟩] 36)
  have Y3 := Aside0.mk (mine_new K2.out T2.out.lt #[.int .i64 0, .int .i64 0, .string ⟨#[]⟩, .int .i64 0, .int .i64 0, .int .i64 0, .int .i64 0, .int .i64 0, .int .u32 0, .int .u32 0, .int .i64 0, .int .i64 0, .int .i64 0, .int .i64 0, .int .i64 0, .int .u32 0, .int .u32 0, .string ⟨#[]⟩] 36 rfl)
  have NEYX := Aside0.mk (show W2.heap.size ≠ w.heap.size from by have := blk_lt X2.out.blk; omega)
  have X3 := Aside0.mk (X2.out.below hbn)
  have T3 := Aside0.mk (T2.out.below hbn)
  have K3 := Aside0.mk (K2.out.alloc (.cells #[.int .i64 0, .int .i64 0, .string ⟨#[]⟩, .int .i64 0, .int .i64 0, .int .i64 0, .int .i64 0, .int .i64 0, .int .u32 0, .int .u32 0, .int .i64 0, .int .i64 0, .int .i64 0, .int .i64 0, .int .i64 0, .int .u32 0, .int .u32 0, .string ⟨#[]⟩] 36))
  clear hbn T2 K2 X2
  try dsimp only
  repeat ((fail_if_success (show Oper.wp _ (Oper.mk none (Op.store _ _ _) _ _ _ _) _ _ _ _)); (first | go_values | go_skip | go_guarded | go_step | go_upon | go_back))
  generalize (W2.alloc (.cells #[.int .i64 0, .int .i64 0, .string ⟨#[]⟩, .int .i64 0, .int .i64 0, .int .i64 0, .int .i64 0, .int .i64 0, .int .u32 0, .int .u32 0, .int .i64 0, .int .i64 0, .int .i64 0, .int .i64 0, .int .i64 0, .int .u32 0, .int .u32 0, .string ⟨#[]⟩] 36)) = W3 at *
  generalize W2.heap.size = b1 at *
  refine wp_store_row (c' := #[.int .i64 n1, .int .i64 n2, .string ⟨#[]⟩, .int .i64 0, .int .i64 0, .int .i64 0, .int .i64 0, .int .i64 0, .int .u32 0, .int .u32 0, .int .i64 0, .int .i64 0, .int .i64 0, .int .i64 0, .int .i64 0, .int .u32 0, .int .u32 0, .string ⟨#[]⟩]) Y3.out.blk rfl rfl rfl rfl (by kernel_rfl) rfl (by simp [Value.oneCell']) ?_
  have Y4 := Aside0.mk (Y3.out.row #[.int .i64 n1, .int .i64 n2, .string ⟨#[]⟩, .int .i64 0, .int .i64 0, .int .i64 0, .int .i64 0, .int .i64 0, .int .u32 0, .int .u32 0, .int .i64 0, .int .i64 0, .int .i64 0, .int .i64 0, .int .i64 0, .int .u32 0, .int .u32 0, .string ⟨#[]⟩] rfl)
  have X4 := Aside0.mk (X3.out.farRow (fun e => NEYX.out e.symm) #[.int .i64 n1, .int .i64 n2, .string ⟨#[]⟩, .int .i64 0, .int .i64 0, .int .i64 0, .int .i64 0, .int .i64 0, .int .u32 0, .int .u32 0, .int .i64 0, .int .i64 0, .int .i64 0, .int .i64 0, .int .i64 0, .int .u32 0, .int .u32 0, .string ⟨#[]⟩] : Mine _ (W3.setRow b1 #[.int .i64 n1, .int .i64 n2, .string ⟨#[]⟩, .int .i64 0, .int .i64 0, .int .i64 0, .int .i64 0, .int .i64 0, .int .u32 0, .int .u32 0, .int .i64 0, .int .i64 0, .int .i64 0, .int .i64 0, .int .i64 0, .int .u32 0, .int .u32 0, .string ⟨#[]⟩]) _ _ _ _ _)
  have T4 := Aside0.mk (T3.out.farRow Y3.out #[.int .i64 n1, .int .i64 n2, .string ⟨#[]⟩, .int .i64 0, .int .i64 0, .int .i64 0, .int .i64 0, .int .i64 0, .int .u32 0, .int .u32 0, .int .i64 0, .int .i64 0, .int .i64 0, .int .i64 0, .int .i64 0, .int .u32 0, .int .u32 0, .string ⟨#[]⟩])
  have K4 := Aside0.mk (K3.out.mineRow Y3.out #[.int .i64 n1, .int .i64 n2, .string ⟨#[]⟩, .int .i64 0, .int .i64 0, .int .i64 0, .int .i64 0, .int .i64 0, .int .u32 0, .int .u32 0, .int .i64 0, .int .i64 0, .int .i64 0, .int .i64 0, .int .i64 0, .int .u32 0, .int .u32 0, .string ⟨#[]⟩])
  clear T3 K3 X3 Y3
  generalize W3.setRow b1 #[.int .i64 n1, .int .i64 n2, .string ⟨#[]⟩, .int .i64 0, .int .i64 0, .int .i64 0, .int .i64 0, .int .i64 0, .int .u32 0, .int .u32 0, .int .i64 0, .int .i64 0, .int .i64 0, .int .i64 0, .int .i64 0, .int .u32 0, .int .u32 0, .string ⟨#[]⟩] = W4 at *
  try dsimp only
  repeat ((fail_if_success (show Code.wp _ (Code.seq (Code.region 3 _ _) _) _ _ _)); (first | go_values | go_skip | go_guarded | go_step | go_upon | go_back))
  have k0 := blk_cell Y4.out.blk 0
  have f0 := blk_frozen Y4.out.blk 0
  go_wp2_with fail
  refine (CP.out W4).mono ?_
  rintro e W5 ⟨rfl, hb⟩
  have X5 := Aside0.mk (X4.out.below hb)
  have Y5 := Aside0.mk (Y4.out.below hb)
  have K5 := Aside0.mk (K4.out.trans (Keep2.of hb))
  have T5 := Aside0.mk (T4.out.below hb)
  clear hb T4 K4 X4 Y4
  clear k0 f0 CP
  cases hB : m2.bad with
  | true =>
    have HE := Aside0.mk (HO.out.trans (if_pos (.inl hB)))
    have HT1 := Aside0.mk (show W5.heap[t]? = some (.cells #[.pointer (some ⟨h, 0, none⟩), .bool true] 77 (0, 0)) from by have := T5.out.blk; rw [hB] at this; exact this)
    have d0 := blk_cell HT1.out 0
    have d1 := blk_cell HT1.out 1
    clear hB HT1
    try dsimp only
    repeat ((fail_if_success (show Oper.wp _ (Oper.mk none (Op.store _ _ _) _ _ _ _) _ _ _ _)); (first | go_values | go_skip | go_guarded | go_step | go_upon | go_back))
    refine wp_store_row (c' := #[.int .i64 0, .int .i64 0, .string ⟨#[]⟩, .int .i64 0, .int .i64 0, .int .i64 0, .int .i64 0, .int .i64 0, .int .u32 0, .int .u32 0, .int .i64 0, .int .i64 0, .int .i64 0, .int .i64 0, .int .i64 0, .int .u32 0, .int .u32 0, .string ⟨#[]⟩]) X5.out.blk rfl rfl rfl rfl (by kernel_rfl) rfl (by simp [Value.oneCell']) ?_
    have X6 := Aside0.mk (X5.out.row #[.int .i64 0, .int .i64 0, .string ⟨#[]⟩, .int .i64 0, .int .i64 0, .int .i64 0, .int .i64 0, .int .i64 0, .int .u32 0, .int .u32 0, .int .i64 0, .int .i64 0, .int .i64 0, .int .i64 0, .int .i64 0, .int .u32 0, .int .u32 0, .string ⟨#[]⟩] rfl)
    have Y6 := Aside0.mk (Y5.out.farRow NEYX.out #[.int .i64 0, .int .i64 0, .string ⟨#[]⟩, .int .i64 0, .int .i64 0, .int .i64 0, .int .i64 0, .int .i64 0, .int .u32 0, .int .u32 0, .int .i64 0, .int .i64 0, .int .i64 0, .int .i64 0, .int .i64 0, .int .u32 0, .int .u32 0, .string ⟨#[]⟩] : Mine _ (W5.setRow w.heap.size #[.int .i64 0, .int .i64 0, .string ⟨#[]⟩, .int .i64 0, .int .i64 0, .int .i64 0, .int .i64 0, .int .i64 0, .int .u32 0, .int .u32 0, .int .i64 0, .int .i64 0, .int .i64 0, .int .i64 0, .int .i64 0, .int .u32 0, .int .u32 0, .string ⟨#[]⟩]) _ _ _ _ _)
    have T6 := Aside0.mk (T5.out.farRow X5.out #[.int .i64 0, .int .i64 0, .string ⟨#[]⟩, .int .i64 0, .int .i64 0, .int .i64 0, .int .i64 0, .int .i64 0, .int .u32 0, .int .u32 0, .int .i64 0, .int .i64 0, .int .i64 0, .int .i64 0, .int .i64 0, .int .u32 0, .int .u32 0, .string ⟨#[]⟩])
    have K6 := Aside0.mk (K5.out.mineRow X5.out #[.int .i64 0, .int .i64 0, .string ⟨#[]⟩, .int .i64 0, .int .i64 0, .int .i64 0, .int .i64 0, .int .i64 0, .int .u32 0, .int .u32 0, .int .i64 0, .int .i64 0, .int .i64 0, .int .i64 0, .int .i64 0, .int .u32 0, .int .u32 0, .string ⟨#[]⟩])
    clear T5 K5 X5 Y5
    generalize W5.setRow w.heap.size #[.int .i64 0, .int .i64 0, .string ⟨#[]⟩, .int .i64 0, .int .i64 0, .int .i64 0, .int .i64 0, .int .i64 0, .int .u32 0, .int .u32 0, .int .i64 0, .int .i64 0, .int .i64 0, .int .i64 0, .int .i64 0, .int .u32 0, .int .u32 0, .string ⟨#[]⟩] = W6 at *
    go_wp2_with fail
    exact bodyPost_ret (v := .tuple #[.agg #[.int .i64 0, .int .i64 0, .string ⟨#[]⟩, .int .i64 0, .int .i64 0, .int .i64 0, .int .i64 0, .int .i64 0, .int .u32 0, .int .u32 0, .int .i64 0, .int .i64 0, .int .i64 0, .int .i64 0, .int .i64 0, .int .u32 0, .int .u32 0, .string ⟨#[]⟩], .int .i64 171]) (results_row rfl rfl rfl X6.out.blk Try.underlying36 rfl (by kernel_rfl)) rfl ⟨by rw [HE.out]; rfl, Keep2.below K6.out (Below.refl w.heap.size w) HT.out HH.out (Nat.le_refl _)⟩
  | false =>
    by_cases hL : m2.rest = []
    · cases rb with
      | true =>
        have HE := Aside0.mk (HO.out.trans (if_neg (by rw [hB, hL]; simp)))
        have HT1 := Aside0.mk (show W5.heap[t]? = some (.cells #[.pointer (some ⟨h, 0, none⟩), .bool false] 77 (0, 0)) from by have := T5.out.blk; rw [hB] at this; exact this)
        have d0 := blk_cell HT1.out 0
        have d1 := blk_cell HT1.out 1
        clear hB HT1
        have CL := Aside0.mk (left_any h m2.rest W5 T5.out.rd)
        rw [hL] at CL
        simp only [List.length_nil] at CL
        clear hL
        replace CL := Aside0.mk (show Calls Try.prog 34 #[.pointer (some ⟨h, 0, none⟩)] W5 (fun e w' => e = .returned (.int .i64 0) ∧ W5 = w') from CL.out)
        go_wp2_with fail
        refine CL.out.mono ?_
        rintro e W6 ⟨rfl, rfl⟩
        clear CL
        try dsimp only
        repeat ((fail_if_success (show Oper.wp _ (Oper.mk _ (Op.load 36 _) _ _ _ _) _ _ _ _)); (first | go_values | go_skip | go_guarded | go_step | go_upon | go_back))
        refine wp_load_row Y5.out.blk rfl rfl Try.underlying36 rfl (by kernel_rfl) ?_
        try go_simp
        go_wp2_with fail
        refine (CR.out W5).mono ?_
        rintro e W7 ⟨rfl, hb⟩
        have X7 := Aside0.mk (X5.out.below hb)
        have Y7 := Aside0.mk (Y5.out.below hb)
        have K7 := Aside0.mk (K5.out.trans (Keep2.of hb))
        have T7 := Aside0.mk (T5.out.below hb)
        clear hb T5 K5 X5 Y5
        clear d0 d1
        try dsimp only
        repeat ((fail_if_success (show Oper.wp _ (Oper.mk _ (Op.load 36 _) _ _ _ _) _ _ _ _)); (first | go_values | go_skip | go_guarded | go_step | go_upon | go_back))
        refine wp_load_row Y7.out.blk rfl rfl Try.underlying36 rfl (by kernel_rfl) ?_
        try go_simp
        try dsimp only
        repeat ((fail_if_success (show Oper.wp _ (Oper.mk none (Op.store _ _ _) _ _ _ _) _ _ _ _)); (first | go_values | go_skip | go_guarded | go_step | go_upon | go_back))
        refine wp_store_row (c' := #[.int .i64 n1, .int .i64 n2, .string ⟨#[]⟩, .int .i64 0, .int .i64 0, .int .i64 0, .int .i64 0, .int .i64 0, .int .u32 0, .int .u32 0, .int .i64 0, .int .i64 0, .int .i64 0, .int .i64 0, .int .i64 0, .int .u32 0, .int .u32 0, .string ⟨#[]⟩]) X7.out.blk rfl rfl rfl rfl (by kernel_rfl) rfl (by simp [Value.oneCell']) ?_
        have X8 := Aside0.mk (X7.out.row #[.int .i64 n1, .int .i64 n2, .string ⟨#[]⟩, .int .i64 0, .int .i64 0, .int .i64 0, .int .i64 0, .int .i64 0, .int .u32 0, .int .u32 0, .int .i64 0, .int .i64 0, .int .i64 0, .int .i64 0, .int .i64 0, .int .u32 0, .int .u32 0, .string ⟨#[]⟩] rfl)
        have Y8 := Aside0.mk (Y7.out.farRow NEYX.out #[.int .i64 n1, .int .i64 n2, .string ⟨#[]⟩, .int .i64 0, .int .i64 0, .int .i64 0, .int .i64 0, .int .i64 0, .int .u32 0, .int .u32 0, .int .i64 0, .int .i64 0, .int .i64 0, .int .i64 0, .int .i64 0, .int .u32 0, .int .u32 0, .string ⟨#[]⟩] : Mine _ (W7.setRow w.heap.size #[.int .i64 n1, .int .i64 n2, .string ⟨#[]⟩, .int .i64 0, .int .i64 0, .int .i64 0, .int .i64 0, .int .i64 0, .int .u32 0, .int .u32 0, .int .i64 0, .int .i64 0, .int .i64 0, .int .i64 0, .int .i64 0, .int .u32 0, .int .u32 0, .string ⟨#[]⟩]) _ _ _ _ _)
        have T8 := Aside0.mk (T7.out.farRow X7.out #[.int .i64 n1, .int .i64 n2, .string ⟨#[]⟩, .int .i64 0, .int .i64 0, .int .i64 0, .int .i64 0, .int .i64 0, .int .u32 0, .int .u32 0, .int .i64 0, .int .i64 0, .int .i64 0, .int .i64 0, .int .i64 0, .int .u32 0, .int .u32 0, .string ⟨#[]⟩])
        have K8 := Aside0.mk (K7.out.mineRow X7.out #[.int .i64 n1, .int .i64 n2, .string ⟨#[]⟩, .int .i64 0, .int .i64 0, .int .i64 0, .int .i64 0, .int .i64 0, .int .u32 0, .int .u32 0, .int .i64 0, .int .i64 0, .int .i64 0, .int .i64 0, .int .i64 0, .int .u32 0, .int .u32 0, .string ⟨#[]⟩])
        clear T7 K7 X7 Y7
        generalize W7.setRow w.heap.size #[.int .i64 n1, .int .i64 n2, .string ⟨#[]⟩, .int .i64 0, .int .i64 0, .int .i64 0, .int .i64 0, .int .i64 0, .int .u32 0, .int .u32 0, .int .i64 0, .int .i64 0, .int .i64 0, .int .i64 0, .int .i64 0, .int .u32 0, .int .u32 0, .string ⟨#[]⟩] = W8 at *
        go_wp2_with fail
        exact bodyPost_ret (v := .tuple #[.agg #[.int .i64 n1, .int .i64 n2, .string ⟨#[]⟩, .int .i64 0, .int .i64 0, .int .i64 0, .int .i64 0, .int .i64 0, .int .u32 0, .int .u32 0, .int .i64 0, .int .i64 0, .int .i64 0, .int .i64 0, .int .i64 0, .int .u32 0, .int .u32 0, .string ⟨#[]⟩], .int .i64 0]) (results_row rfl rfl rfl X8.out.blk Try.underlying36 rfl (by kernel_rfl)) rfl ⟨by rw [HE.out]; rfl, Keep2.below K8.out (Below.refl w.heap.size w) HT.out HH.out (Nat.le_refl _)⟩
      | false =>
        have HE := Aside0.mk (HO.out.trans (if_pos (.inr (.inr rfl))))
        have HT1 := Aside0.mk (show W5.heap[t]? = some (.cells #[.pointer (some ⟨h, 0, none⟩), .bool false] 77 (0, 0)) from by have := T5.out.blk; rw [hB] at this; exact this)
        have d0 := blk_cell HT1.out 0
        have d1 := blk_cell HT1.out 1
        clear hB HT1
        have CL := Aside0.mk (left_any h m2.rest W5 T5.out.rd)
        rw [hL] at CL
        simp only [List.length_nil] at CL
        clear hL
        replace CL := Aside0.mk (show Calls Try.prog 34 #[.pointer (some ⟨h, 0, none⟩)] W5 (fun e w' => e = .returned (.int .i64 0) ∧ W5 = w') from CL.out)
        go_wp2_with fail
        refine CL.out.mono ?_
        rintro e W6 ⟨rfl, rfl⟩
        clear CL
        try dsimp only
        repeat ((fail_if_success (show Oper.wp _ (Oper.mk _ (Op.load 36 _) _ _ _ _) _ _ _ _)); (first | go_values | go_skip | go_guarded | go_step | go_upon | go_back))
        refine wp_load_row Y5.out.blk rfl rfl Try.underlying36 rfl (by kernel_rfl) ?_
        try go_simp
        go_wp2_with fail
        refine (CR.out W5).mono ?_
        rintro e W7 ⟨rfl, hb⟩
        have X7 := Aside0.mk (X5.out.below hb)
        have Y7 := Aside0.mk (Y5.out.below hb)
        have K7 := Aside0.mk (K5.out.trans (Keep2.of hb))
        have T7 := Aside0.mk (T5.out.below hb)
        clear hb T5 K5 X5 Y5
        clear d0 d1
        try dsimp only
        repeat ((fail_if_success (show Oper.wp _ (Oper.mk none (Op.store _ _ _) _ _ _ _) _ _ _ _)); (first | go_values | go_skip | go_guarded | go_step | go_upon | go_back))
        refine wp_store_row (c' := #[.int .i64 0, .int .i64 0, .string ⟨#[]⟩, .int .i64 0, .int .i64 0, .int .i64 0, .int .i64 0, .int .i64 0, .int .u32 0, .int .u32 0, .int .i64 0, .int .i64 0, .int .i64 0, .int .i64 0, .int .i64 0, .int .u32 0, .int .u32 0, .string ⟨#[]⟩]) X7.out.blk rfl rfl rfl rfl (by kernel_rfl) rfl (by simp [Value.oneCell']) ?_
        have X8 := Aside0.mk (X7.out.row #[.int .i64 0, .int .i64 0, .string ⟨#[]⟩, .int .i64 0, .int .i64 0, .int .i64 0, .int .i64 0, .int .i64 0, .int .u32 0, .int .u32 0, .int .i64 0, .int .i64 0, .int .i64 0, .int .i64 0, .int .i64 0, .int .u32 0, .int .u32 0, .string ⟨#[]⟩] rfl)
        have Y8 := Aside0.mk (Y7.out.farRow NEYX.out #[.int .i64 0, .int .i64 0, .string ⟨#[]⟩, .int .i64 0, .int .i64 0, .int .i64 0, .int .i64 0, .int .i64 0, .int .u32 0, .int .u32 0, .int .i64 0, .int .i64 0, .int .i64 0, .int .i64 0, .int .i64 0, .int .u32 0, .int .u32 0, .string ⟨#[]⟩] : Mine _ (W7.setRow w.heap.size #[.int .i64 0, .int .i64 0, .string ⟨#[]⟩, .int .i64 0, .int .i64 0, .int .i64 0, .int .i64 0, .int .i64 0, .int .u32 0, .int .u32 0, .int .i64 0, .int .i64 0, .int .i64 0, .int .i64 0, .int .i64 0, .int .u32 0, .int .u32 0, .string ⟨#[]⟩]) _ _ _ _ _)
        have T8 := Aside0.mk (T7.out.farRow X7.out #[.int .i64 0, .int .i64 0, .string ⟨#[]⟩, .int .i64 0, .int .i64 0, .int .i64 0, .int .i64 0, .int .i64 0, .int .u32 0, .int .u32 0, .int .i64 0, .int .i64 0, .int .i64 0, .int .i64 0, .int .i64 0, .int .u32 0, .int .u32 0, .string ⟨#[]⟩])
        have K8 := Aside0.mk (K7.out.mineRow X7.out #[.int .i64 0, .int .i64 0, .string ⟨#[]⟩, .int .i64 0, .int .i64 0, .int .i64 0, .int .i64 0, .int .i64 0, .int .u32 0, .int .u32 0, .int .i64 0, .int .i64 0, .int .i64 0, .int .i64 0, .int .i64 0, .int .u32 0, .int .u32 0, .string ⟨#[]⟩])
        clear T7 K7 X7 Y7
        generalize W7.setRow w.heap.size #[.int .i64 0, .int .i64 0, .string ⟨#[]⟩, .int .i64 0, .int .i64 0, .int .i64 0, .int .i64 0, .int .i64 0, .int .u32 0, .int .u32 0, .int .i64 0, .int .i64 0, .int .i64 0, .int .i64 0, .int .i64 0, .int .u32 0, .int .u32 0, .string ⟨#[]⟩] = W8 at *
        go_wp2_with fail
        exact bodyPost_ret (v := .tuple #[.agg #[.int .i64 0, .int .i64 0, .string ⟨#[]⟩, .int .i64 0, .int .i64 0, .int .i64 0, .int .i64 0, .int .i64 0, .int .u32 0, .int .u32 0, .int .i64 0, .int .i64 0, .int .i64 0, .int .i64 0, .int .i64 0, .int .u32 0, .int .u32 0, .string ⟨#[]⟩], .int .i64 171]) (results_row rfl rfl rfl X8.out.blk Try.underlying36 rfl (by kernel_rfl)) rfl ⟨by rw [HE.out]; rfl, Keep2.below K8.out (Below.refl w.heap.size w) HT.out HH.out (Nat.le_refl _)⟩
    · have HE := Aside0.mk (HO.out.trans (if_pos (.inr (.inl (List.length_pos_iff.2 hL)))))
      have HT1 := Aside0.mk (show W5.heap[t]? = some (.cells #[.pointer (some ⟨h, 0, none⟩), .bool false] 77 (0, 0)) from by have := T5.out.blk; rw [hB] at this; exact this)
      have d0 := blk_cell HT1.out 0
      have d1 := blk_cell HT1.out 1
      clear hB HT1
      have CL := Aside0.mk (left_any h m2.rest W5 T5.out.rd)
      have hLi : (0 : Int) < (m2.rest.length : Int) := by have := List.length_pos_iff.2 hL; omega
      clear hL
      generalize (m2.rest.length : Int) = q at *
      go_wp2_with fail
      refine CL.out.mono ?_
      rintro e W6 ⟨rfl, rfl⟩
      clear CL
      try dsimp only
      repeat ((fail_if_success (show Oper.wp _ (Oper.mk none (Op.store _ _ _) _ _ _ _) _ _ _ _)); (first | go_values | go_skip | go_guarded | go_step | go_upon | go_back))
      refine wp_store_row (c' := #[.int .i64 0, .int .i64 0, .string ⟨#[]⟩, .int .i64 0, .int .i64 0, .int .i64 0, .int .i64 0, .int .i64 0, .int .u32 0, .int .u32 0, .int .i64 0, .int .i64 0, .int .i64 0, .int .i64 0, .int .i64 0, .int .u32 0, .int .u32 0, .string ⟨#[]⟩]) X5.out.blk rfl rfl rfl rfl (by kernel_rfl) rfl (by simp [Value.oneCell']) ?_
      have X6 := Aside0.mk (X5.out.row #[.int .i64 0, .int .i64 0, .string ⟨#[]⟩, .int .i64 0, .int .i64 0, .int .i64 0, .int .i64 0, .int .i64 0, .int .u32 0, .int .u32 0, .int .i64 0, .int .i64 0, .int .i64 0, .int .i64 0, .int .i64 0, .int .u32 0, .int .u32 0, .string ⟨#[]⟩] rfl)
      have Y6 := Aside0.mk (Y5.out.farRow NEYX.out #[.int .i64 0, .int .i64 0, .string ⟨#[]⟩, .int .i64 0, .int .i64 0, .int .i64 0, .int .i64 0, .int .i64 0, .int .u32 0, .int .u32 0, .int .i64 0, .int .i64 0, .int .i64 0, .int .i64 0, .int .i64 0, .int .u32 0, .int .u32 0, .string ⟨#[]⟩] : Mine _ (W5.setRow w.heap.size #[.int .i64 0, .int .i64 0, .string ⟨#[]⟩, .int .i64 0, .int .i64 0, .int .i64 0, .int .i64 0, .int .i64 0, .int .u32 0, .int .u32 0, .int .i64 0, .int .i64 0, .int .i64 0, .int .i64 0, .int .i64 0, .int .u32 0, .int .u32 0, .string ⟨#[]⟩]) _ _ _ _ _)
      have T6 := Aside0.mk (T5.out.farRow X5.out #[.int .i64 0, .int .i64 0, .string ⟨#[]⟩, .int .i64 0, .int .i64 0, .int .i64 0, .int .i64 0, .int .i64 0, .int .u32 0, .int .u32 0, .int .i64 0, .int .i64 0, .int .i64 0, .int .i64 0, .int .i64 0, .int .u32 0, .int .u32 0, .string ⟨#[]⟩])
      have K6 := Aside0.mk (K5.out.mineRow X5.out #[.int .i64 0, .int .i64 0, .string ⟨#[]⟩, .int .i64 0, .int .i64 0, .int .i64 0, .int .i64 0, .int .i64 0, .int .u32 0, .int .u32 0, .int .i64 0, .int .i64 0, .int .i64 0, .int .i64 0, .int .i64 0, .int .u32 0, .int .u32 0, .string ⟨#[]⟩])
      clear T5 K5 X5 Y5
      generalize W5.setRow w.heap.size #[.int .i64 0, .int .i64 0, .string ⟨#[]⟩, .int .i64 0, .int .i64 0, .int .i64 0, .int .i64 0, .int .i64 0, .int .u32 0, .int .u32 0, .int .i64 0, .int .i64 0, .int .i64 0, .int .i64 0, .int .i64 0, .int .u32 0, .int .u32 0, .string ⟨#[]⟩] = W6 at *
      go_wp2_with fail
      exact bodyPost_ret (v := .tuple #[.agg #[.int .i64 0, .int .i64 0, .string ⟨#[]⟩, .int .i64 0, .int .i64 0, .int .i64 0, .int .i64 0, .int .i64 0, .int .u32 0, .int .u32 0, .int .i64 0, .int .i64 0, .int .i64 0, .int .i64 0, .int .i64 0, .int .u32 0, .int .u32 0, .string ⟨#[]⟩], .int .i64 171]) (results_row rfl rfl rfl X6.out.blk Try.underlying36 rfl (by kernel_rfl)) rfl ⟨by rw [HE.out]; rfl, Keep2.below K6.out (Below.refl w.heap.size w) HT.out HH.out (Nat.le_refl _)⟩
set_option maxHeartbeats 4000000 in
theorem dec_1 (A : Option Addr) (c : Nat) (l : List Int) (w : World) (hC : Kd.C (Kd.int .u8) w A l.length l) (hc : l.length ≤ c) (hl : l.length < 140737488355328) (hby : bytes l) (n1 : Int) (m1 : Mc) (q1 : numM 9 (⟨l, false⟩) = (n1, m1)) (n2 : Int) (m2 : Mc) (q2 : numM 255 m1 = (n2, m2)) (n3 : ByteArray) (m3 : Mc) (q3 : textM 40 m2 = (n3, m3)) (hp : partK n1 = 1) (rb : Bool) (hrb : rightQ ⟨n1, n2, n3, 0, zRu, 0, 0, 0, 0, 0, 0, ⟨#[]⟩⟩ = rb) (OUT : Rq × Int) (hO : OUT = if m3.bad = true ∨ 0 < m3.rest.length ∨ rb = false then (zRq, 171) else (⟨n1, n2, n3, 0, zRu, 0, 0, 0, 0, 0, 0, ⟨#[]⟩⟩, 0)) :
    Calls Try.prog 12 #[.slice A l.length c] w fun e w' => e = .returned (.tuple #[.agg (rqVals OUT.1).toArray, .int .i64 OUT.2]) ∧ Below w.heap.size w w' := by
  have HO := Aside0.mk hO
  clear hO
  have hb0 : bytes (Mc.mk l false).rest := hby
  have hd1 := numM_bound 9 ⟨l, false⟩ hb0 (by decide)
  have hb1 := numM_bytes 9 ⟨l, false⟩ hb0
  rw [q1] at hd1 hb1
  simp only [] at hd1 hb1
  have C1 := Aside0.mk (fun (t h : Nat) (W : World) (k : TK W t h (⟨l, false⟩)) => tnum_any t h ⟨l, false⟩ 9 (by decide) (by decide) W k)
  rw [q1] at C1
  simp only [] at C1
  have hd2 := numM_bound 255 m1 hb1 (by decide)
  have hb2 := numM_bytes 255 m1 hb1
  rw [q2] at hd2 hb2
  simp only [] at hd2 hb2
  have C2 := Aside0.mk (fun (t h : Nat) (W : World) (k : TK W t h (m1)) => tnum_any t h m1 255 (by decide) (by decide) W k)
  rw [q2] at C2
  simp only [] at C2
  have hb3 := textM_bytes 40 m2 hb2
  rw [q3] at hb3
  simp only [] at hb3
  have C3 := Aside0.mk (fun (t h : Nat) (W : World) (k : TK W t h (m2)) => ttext_any t h m2 W k)
  rw [q3] at C3
  simp only [] at C3
  have CR := Aside0.mk (fun W => right_any ⟨n1, n2, n3, 0, zRu, 0, 0, 0, 0, 0, 0, ⟨#[]⟩⟩ ⟨okRu0, ok0, ok0⟩ W)
  rw [hrb] at CR
  unfold zRu at CR
  simp only [] at CR
  have CP := Aside0.mk (fun W => counts_any n1 W)
  rw [hp] at CP
  clear hb0 hb1 hb2 hb3 hd1 hd2 q1 q2 q3 hrb
  have hC0 := Aside0.mk hC
  clear hC
  go_enter Try.func12, Try.ntmps12
  have hbn := Aside0.mk ((Below.refl w.heap.size w).alloc (Nat.le_refl _) (.cells #[.int .i64 0, .int .i64 0, .string ⟨#[]⟩, .int .i64 0, .int .i64 0, .int .i64 0, .int .i64 0, .int .i64 0, .int .u32 0, .int .u32 0, .int .i64 0, .int .i64 0, .int .i64 0, .int .i64 0, .int .i64 0, .int .u32 0, .int .u32 0, .string ⟨#[]⟩] 36))
  have hbl := Aside0.mk (blk_new w (.cells #[.int .i64 0, .int .i64 0, .string ⟨#[]⟩, .int .i64 0, .int .i64 0, .int .i64 0, .int .i64 0, .int .i64 0, .int .u32 0, .int .u32 0, .int .i64 0, .int .i64 0, .int .i64 0, .int .i64 0, .int .i64 0, .int .u32 0, .int .u32 0, .string ⟨#[]⟩] 36))
  try dsimp only
  repeat ((fail_if_success (show Code.wp _ (Code.seq (Code.region 1 _ _) _) _ _ _)); (first | go_values | go_skip | go_guarded | go_step | go_upon | go_back))
  have hC1 := Aside0.mk (Kd.C_below hC0.out ((Below.refl w.heap.size w).alloc (Nat.le_refl _) (.cells #[.int .i64 0, .int .i64 0, .string ⟨#[]⟩, .int .i64 0, .int .i64 0, .int .i64 0, .int .i64 0, .int .i64 0, .int .u32 0, .int .u32 0, .int .i64 0, .int .i64 0, .int .i64 0, .int .i64 0, .int .i64 0, .int .u32 0, .int .u32 0, .string ⟨#[]⟩] 36)))
  have hs := Aside0.mk (show w.heap.size < (w.alloc (.cells #[.int .i64 0, .int .i64 0, .string ⟨#[]⟩, .int .i64 0, .int .i64 0, .int .i64 0, .int .i64 0, .int .i64 0, .int .u32 0, .int .u32 0, .int .i64 0, .int .i64 0, .int .i64 0, .int .i64 0, .int .i64 0, .int .u32 0, .int .u32 0, .string ⟨#[]⟩] 36)).heap.size from by simp)
  clear hC0
  generalize (w.alloc (.cells #[.int .i64 0, .int .i64 0, .string ⟨#[]⟩, .int .i64 0, .int .i64 0, .int .i64 0, .int .i64 0, .int .i64 0, .int .u32 0, .int .u32 0, .int .i64 0, .int .i64 0, .int .i64 0, .int .i64 0, .int .i64 0, .int .u32 0, .int .u32 0, .string ⟨#[]⟩] 36)) = V0 at *
  go_wp2_with fail
  refine (open_any A c l V0 hC1.out hc hl).mono ?_
  rintro e V1 ⟨h, rfl, hrd, hgh, hgl, hb⟩
  have hsz := hb.size
  have s0 := hs.out
  have hb1 := Aside0.mk (hbn.out.trans (hb.mono (Nat.le_of_lt s0)))
  have hx0 := Aside0.mk (blk_below hbl.out hb)
  clear hC1 hb hbn hbl
  try dsimp only
  repeat ((fail_if_success (show Code.wp _ (Code.seq (Code.region 2 _ _) _) _ _ _)); (first | go_values | go_skip | go_guarded | go_step | go_upon | go_back))
  have T0 := Aside0.mk (show TK (V1.alloc (.cells #[.pointer (some ⟨h, 0, none⟩), .bool false] 77)) V1.heap.size h ⟨l, false⟩ from ⟨blk_new V1 _, hrd.below ((Below.refl V1.heap.size V1).alloc (Nat.le_refl _) _), hby⟩)
  have hbm := (Below.refl V1.heap.size V1).alloc (Nat.le_refl _) (.cells #[.pointer (some ⟨h, 0, none⟩), .bool false] 77)
  have X0 := Aside0.mk (show Mine w (V1.alloc (.cells #[.pointer (some ⟨h, 0, none⟩), .bool false] 77)) V1.heap.size h w.heap.size #[.int .i64 0, .int .i64 0, .string ⟨#[]⟩, .int .i64 0, .int .i64 0, .int .i64 0, .int .i64 0, .int .i64 0, .int .u32 0, .int .u32 0, .int .i64 0, .int .i64 0, .int .i64 0, .int .i64 0, .int .i64 0, .int .u32 0, .int .u32 0, .string ⟨#[]⟩] 36 from ⟨blk_below hx0.out hbm, Nat.le_refl _, rfl, by omega, by omega⟩)
  have K0 := Aside0.mk (show Keep2 V1.heap.size h w (V1.alloc (.cells #[.pointer (some ⟨h, 0, none⟩), .bool false] 77)) from Keep2.of (hb1.out.trans (hbm.mono (by omega))))
  have HT := Aside0.mk (show w.heap.size ≤ V1.heap.size from by omega)
  have HH := Aside0.mk (show w.heap.size ≤ h from by omega)
  clear hbm hx0 hb1 hs s0 hsz hgl hgh hrd hby
  generalize V1.alloc (.cells #[.pointer (some ⟨h, 0, none⟩), .bool false] 77) = W0 at *
  generalize V1.heap.size = t at *
  replace C1 := Aside0.mk (C1.out t h)
  replace C2 := Aside0.mk (C2.out t h)
  replace C3 := Aside0.mk (C3.out t h)
  go_wp2_with fail
  refine (C1.out _ T0.out).mono ?_
  rintro e W1 ⟨rfl, ht, hk⟩
  have X1 := Aside0.mk (X0.out.keep hk)
  have K1 := Aside0.mk (K0.out.trans hk)
  have T1 := Aside0.mk ht
  clear ht hk C1 T0 K0 X0
  go_wp2_with fail
  refine (C2.out _ T1.out).mono ?_
  rintro e W2 ⟨rfl, ht, hk⟩
  have X2 := Aside0.mk (X1.out.keep hk)
  have K2 := Aside0.mk (K1.out.trans hk)
  have T2 := Aside0.mk ht
  clear ht hk C2 T1 K1 X1
  have hbn := (Below.refl W2.heap.size W2).alloc (Nat.le_refl _) (.cells #[.int .i64 0, .int .i64 0, .string ⟨#[]⟩, .int .i64 0, .int .i64 0, .int .i64 0, .int .i64 0, .int .i64 0, .int .u32 0, .int .u32 0, .int .i64 0, .int .i64 0, .int .i64 0, .int .i64 0, .int .i64 0, .int .u32 0, .int .u32 0, .string ⟨#[]⟩] 36)
  have Y3 := Aside0.mk (mine_new K2.out T2.out.lt #[.int .i64 0, .int .i64 0, .string ⟨#[]⟩, .int .i64 0, .int .i64 0, .int .i64 0, .int .i64 0, .int .i64 0, .int .u32 0, .int .u32 0, .int .i64 0, .int .i64 0, .int .i64 0, .int .i64 0, .int .i64 0, .int .u32 0, .int .u32 0, .string ⟨#[]⟩] 36 rfl)
  have NEYX := Aside0.mk (show W2.heap.size ≠ w.heap.size from by have := blk_lt X2.out.blk; omega)
  have X3 := Aside0.mk (X2.out.below hbn)
  have T3 := Aside0.mk (T2.out.below hbn)
  have K3 := Aside0.mk (K2.out.alloc (.cells #[.int .i64 0, .int .i64 0, .string ⟨#[]⟩, .int .i64 0, .int .i64 0, .int .i64 0, .int .i64 0, .int .i64 0, .int .u32 0, .int .u32 0, .int .i64 0, .int .i64 0, .int .i64 0, .int .i64 0, .int .i64 0, .int .u32 0, .int .u32 0, .string ⟨#[]⟩] 36))
  clear hbn T2 K2 X2
  try dsimp only
  repeat ((fail_if_success (show Oper.wp _ (Oper.mk none (Op.store _ _ _) _ _ _ _) _ _ _ _)); (first | go_values | go_skip | go_guarded | go_step | go_upon | go_back))
  generalize (W2.alloc (.cells #[.int .i64 0, .int .i64 0, .string ⟨#[]⟩, .int .i64 0, .int .i64 0, .int .i64 0, .int .i64 0, .int .i64 0, .int .u32 0, .int .u32 0, .int .i64 0, .int .i64 0, .int .i64 0, .int .i64 0, .int .i64 0, .int .u32 0, .int .u32 0, .string ⟨#[]⟩] 36)) = W3 at *
  generalize W2.heap.size = b1 at *
  refine wp_store_row (c' := #[.int .i64 n1, .int .i64 n2, .string ⟨#[]⟩, .int .i64 0, .int .i64 0, .int .i64 0, .int .i64 0, .int .i64 0, .int .u32 0, .int .u32 0, .int .i64 0, .int .i64 0, .int .i64 0, .int .i64 0, .int .i64 0, .int .u32 0, .int .u32 0, .string ⟨#[]⟩]) Y3.out.blk rfl rfl rfl rfl (by kernel_rfl) rfl (by simp [Value.oneCell']) ?_
  have Y4 := Aside0.mk (Y3.out.row #[.int .i64 n1, .int .i64 n2, .string ⟨#[]⟩, .int .i64 0, .int .i64 0, .int .i64 0, .int .i64 0, .int .i64 0, .int .u32 0, .int .u32 0, .int .i64 0, .int .i64 0, .int .i64 0, .int .i64 0, .int .i64 0, .int .u32 0, .int .u32 0, .string ⟨#[]⟩] rfl)
  have X4 := Aside0.mk (X3.out.farRow (fun e => NEYX.out e.symm) #[.int .i64 n1, .int .i64 n2, .string ⟨#[]⟩, .int .i64 0, .int .i64 0, .int .i64 0, .int .i64 0, .int .i64 0, .int .u32 0, .int .u32 0, .int .i64 0, .int .i64 0, .int .i64 0, .int .i64 0, .int .i64 0, .int .u32 0, .int .u32 0, .string ⟨#[]⟩] : Mine _ (W3.setRow b1 #[.int .i64 n1, .int .i64 n2, .string ⟨#[]⟩, .int .i64 0, .int .i64 0, .int .i64 0, .int .i64 0, .int .i64 0, .int .u32 0, .int .u32 0, .int .i64 0, .int .i64 0, .int .i64 0, .int .i64 0, .int .i64 0, .int .u32 0, .int .u32 0, .string ⟨#[]⟩]) _ _ _ _ _)
  have T4 := Aside0.mk (T3.out.farRow Y3.out #[.int .i64 n1, .int .i64 n2, .string ⟨#[]⟩, .int .i64 0, .int .i64 0, .int .i64 0, .int .i64 0, .int .i64 0, .int .u32 0, .int .u32 0, .int .i64 0, .int .i64 0, .int .i64 0, .int .i64 0, .int .i64 0, .int .u32 0, .int .u32 0, .string ⟨#[]⟩])
  have K4 := Aside0.mk (K3.out.mineRow Y3.out #[.int .i64 n1, .int .i64 n2, .string ⟨#[]⟩, .int .i64 0, .int .i64 0, .int .i64 0, .int .i64 0, .int .i64 0, .int .u32 0, .int .u32 0, .int .i64 0, .int .i64 0, .int .i64 0, .int .i64 0, .int .i64 0, .int .u32 0, .int .u32 0, .string ⟨#[]⟩])
  clear T3 K3 X3 Y3
  generalize W3.setRow b1 #[.int .i64 n1, .int .i64 n2, .string ⟨#[]⟩, .int .i64 0, .int .i64 0, .int .i64 0, .int .i64 0, .int .i64 0, .int .u32 0, .int .u32 0, .int .i64 0, .int .i64 0, .int .i64 0, .int .i64 0, .int .i64 0, .int .u32 0, .int .u32 0, .string ⟨#[]⟩] = W4 at *
  try dsimp only
  repeat ((fail_if_success (show Code.wp _ (Code.seq (Code.region 3 _ _) _) _ _ _)); (first | go_values | go_skip | go_guarded | go_step | go_upon | go_back))
  have k0 := blk_cell Y4.out.blk 0
  have f0 := blk_frozen Y4.out.blk 0
  go_wp2_with fail
  refine (CP.out W4).mono ?_
  rintro e W5 ⟨rfl, hb⟩
  have X5 := Aside0.mk (X4.out.below hb)
  have Y5 := Aside0.mk (Y4.out.below hb)
  have K5 := Aside0.mk (K4.out.trans (Keep2.of hb))
  have T5 := Aside0.mk (T4.out.below hb)
  clear hb T4 K4 X4 Y4
  clear k0 f0 CP
  go_wp2_with fail
  refine (C3.out _ T5.out).mono ?_
  rintro e W6 ⟨rfl, ht, hk⟩
  have X6 := Aside0.mk (X5.out.keep hk)
  have Y6 := Aside0.mk (Y5.out.keep hk)
  have K6 := Aside0.mk (K5.out.trans hk)
  have T6 := Aside0.mk ht
  clear ht hk C3 T5 K5 X5 Y5
  have k2 := blk_cell Y6.out.blk 2
  have f2 := blk_frozen Y6.out.blk 2
  try dsimp only
  repeat ((fail_if_success (show Code.wp _ (Code.seq (Code.region 13 _ _) _) _ _ _)); (first | go_values | go_skip | go_guarded | go_step | go_upon | go_back))
  have Y7 := Aside0.mk (Y6.out.put 2 (.string n3) rfl #[.int .i64 n1, .int .i64 n2, .string n3, .int .i64 0, .int .i64 0, .int .i64 0, .int .i64 0, .int .i64 0, .int .u32 0, .int .u32 0, .int .i64 0, .int .i64 0, .int .i64 0, .int .i64 0, .int .i64 0, .int .u32 0, .int .u32 0, .string ⟨#[]⟩] (by simp) rfl)
  have X7 := Aside0.mk (X6.out.far (fun e => NEYX.out e.symm) 2 (.string n3) : Mine _ (W6.setCell ⟨b1, 2, none⟩ (.string n3)) _ _ _ _ _)
  have T7 := Aside0.mk (T6.out.far Y6.out 2 (.string n3))
  have K7 := Aside0.mk (K6.out.mine Y6.out 2 (.string n3))
  clear T6 K6 X6 Y6
  generalize (W6.setCell ⟨b1, 2, none⟩ (.string n3)) = W7 at *
  clear k2 f2
  cases hB : m3.bad with
  | true =>
    have HE := Aside0.mk (HO.out.trans (if_pos (.inl hB)))
    have HT1 := Aside0.mk (show W7.heap[t]? = some (.cells #[.pointer (some ⟨h, 0, none⟩), .bool true] 77 (0, 0)) from by have := T7.out.blk; rw [hB] at this; exact this)
    have d0 := blk_cell HT1.out 0
    have d1 := blk_cell HT1.out 1
    clear hB HT1
    try dsimp only
    repeat ((fail_if_success (show Oper.wp _ (Oper.mk none (Op.store _ _ _) _ _ _ _) _ _ _ _)); (first | go_values | go_skip | go_guarded | go_step | go_upon | go_back))
    refine wp_store_row (c' := #[.int .i64 0, .int .i64 0, .string ⟨#[]⟩, .int .i64 0, .int .i64 0, .int .i64 0, .int .i64 0, .int .i64 0, .int .u32 0, .int .u32 0, .int .i64 0, .int .i64 0, .int .i64 0, .int .i64 0, .int .i64 0, .int .u32 0, .int .u32 0, .string ⟨#[]⟩]) X7.out.blk rfl rfl rfl rfl (by kernel_rfl) rfl (by simp [Value.oneCell']) ?_
    have X8 := Aside0.mk (X7.out.row #[.int .i64 0, .int .i64 0, .string ⟨#[]⟩, .int .i64 0, .int .i64 0, .int .i64 0, .int .i64 0, .int .i64 0, .int .u32 0, .int .u32 0, .int .i64 0, .int .i64 0, .int .i64 0, .int .i64 0, .int .i64 0, .int .u32 0, .int .u32 0, .string ⟨#[]⟩] rfl)
    have Y8 := Aside0.mk (Y7.out.farRow NEYX.out #[.int .i64 0, .int .i64 0, .string ⟨#[]⟩, .int .i64 0, .int .i64 0, .int .i64 0, .int .i64 0, .int .i64 0, .int .u32 0, .int .u32 0, .int .i64 0, .int .i64 0, .int .i64 0, .int .i64 0, .int .i64 0, .int .u32 0, .int .u32 0, .string ⟨#[]⟩] : Mine _ (W7.setRow w.heap.size #[.int .i64 0, .int .i64 0, .string ⟨#[]⟩, .int .i64 0, .int .i64 0, .int .i64 0, .int .i64 0, .int .i64 0, .int .u32 0, .int .u32 0, .int .i64 0, .int .i64 0, .int .i64 0, .int .i64 0, .int .i64 0, .int .u32 0, .int .u32 0, .string ⟨#[]⟩]) _ _ _ _ _)
    have T8 := Aside0.mk (T7.out.farRow X7.out #[.int .i64 0, .int .i64 0, .string ⟨#[]⟩, .int .i64 0, .int .i64 0, .int .i64 0, .int .i64 0, .int .i64 0, .int .u32 0, .int .u32 0, .int .i64 0, .int .i64 0, .int .i64 0, .int .i64 0, .int .i64 0, .int .u32 0, .int .u32 0, .string ⟨#[]⟩])
    have K8 := Aside0.mk (K7.out.mineRow X7.out #[.int .i64 0, .int .i64 0, .string ⟨#[]⟩, .int .i64 0, .int .i64 0, .int .i64 0, .int .i64 0, .int .i64 0, .int .u32 0, .int .u32 0, .int .i64 0, .int .i64 0, .int .i64 0, .int .i64 0, .int .i64 0, .int .u32 0, .int .u32 0, .string ⟨#[]⟩])
    clear T7 K7 X7 Y7
    generalize W7.setRow w.heap.size #[.int .i64 0, .int .i64 0, .string ⟨#[]⟩, .int .i64 0, .int .i64 0, .int .i64 0, .int .i64 0, .int .i64 0, .int .u32 0, .int .u32 0, .int .i64 0, .int .i64 0, .int .i64 0, .int .i64 0, .int .i64 0, .int .u32 0, .int .u32 0, .string ⟨#[]⟩] = W8 at *
    go_wp2_with fail
    exact bodyPost_ret (v := .tuple #[.agg #[.int .i64 0, .int .i64 0, .string ⟨#[]⟩, .int .i64 0, .int .i64 0, .int .i64 0, .int .i64 0, .int .i64 0, .int .u32 0, .int .u32 0, .int .i64 0, .int .i64 0, .int .i64 0, .int .i64 0, .int .i64 0, .int .u32 0, .int .u32 0, .string ⟨#[]⟩], .int .i64 171]) (results_row rfl rfl rfl X8.out.blk Try.underlying36 rfl (by kernel_rfl)) rfl ⟨by rw [HE.out]; rfl, Keep2.below K8.out (Below.refl w.heap.size w) HT.out HH.out (Nat.le_refl _)⟩
  | false =>
    by_cases hL : m3.rest = []
    · cases rb with
      | true =>
        have HE := Aside0.mk (HO.out.trans (if_neg (by rw [hB, hL]; simp)))
        have HT1 := Aside0.mk (show W7.heap[t]? = some (.cells #[.pointer (some ⟨h, 0, none⟩), .bool false] 77 (0, 0)) from by have := T7.out.blk; rw [hB] at this; exact this)
        have d0 := blk_cell HT1.out 0
        have d1 := blk_cell HT1.out 1
        clear hB HT1
        have CL := Aside0.mk (left_any h m3.rest W7 T7.out.rd)
        rw [hL] at CL
        simp only [List.length_nil] at CL
        clear hL
        replace CL := Aside0.mk (show Calls Try.prog 34 #[.pointer (some ⟨h, 0, none⟩)] W7 (fun e w' => e = .returned (.int .i64 0) ∧ W7 = w') from CL.out)
        go_wp2_with fail
        refine CL.out.mono ?_
        rintro e W8 ⟨rfl, rfl⟩
        clear CL
        try dsimp only
        repeat ((fail_if_success (show Oper.wp _ (Oper.mk _ (Op.load 36 _) _ _ _ _) _ _ _ _)); (first | go_values | go_skip | go_guarded | go_step | go_upon | go_back))
        refine wp_load_row Y7.out.blk rfl rfl Try.underlying36 rfl (by kernel_rfl) ?_
        try go_simp
        go_wp2_with fail
        refine (CR.out W7).mono ?_
        rintro e W9 ⟨rfl, hb⟩
        have X9 := Aside0.mk (X7.out.below hb)
        have Y9 := Aside0.mk (Y7.out.below hb)
        have K9 := Aside0.mk (K7.out.trans (Keep2.of hb))
        have T9 := Aside0.mk (T7.out.below hb)
        clear hb T7 K7 X7 Y7
        clear d0 d1
        try dsimp only
        repeat ((fail_if_success (show Oper.wp _ (Oper.mk _ (Op.load 36 _) _ _ _ _) _ _ _ _)); (first | go_values | go_skip | go_guarded | go_step | go_upon | go_back))
        refine wp_load_row Y9.out.blk rfl rfl Try.underlying36 rfl (by kernel_rfl) ?_
        try go_simp
        try dsimp only
        repeat ((fail_if_success (show Oper.wp _ (Oper.mk none (Op.store _ _ _) _ _ _ _) _ _ _ _)); (first | go_values | go_skip | go_guarded | go_step | go_upon | go_back))
        refine wp_store_row (c' := #[.int .i64 n1, .int .i64 n2, .string n3, .int .i64 0, .int .i64 0, .int .i64 0, .int .i64 0, .int .i64 0, .int .u32 0, .int .u32 0, .int .i64 0, .int .i64 0, .int .i64 0, .int .i64 0, .int .i64 0, .int .u32 0, .int .u32 0, .string ⟨#[]⟩]) X9.out.blk rfl rfl rfl rfl (by kernel_rfl) rfl (by simp [Value.oneCell']) ?_
        have X10 := Aside0.mk (X9.out.row #[.int .i64 n1, .int .i64 n2, .string n3, .int .i64 0, .int .i64 0, .int .i64 0, .int .i64 0, .int .i64 0, .int .u32 0, .int .u32 0, .int .i64 0, .int .i64 0, .int .i64 0, .int .i64 0, .int .i64 0, .int .u32 0, .int .u32 0, .string ⟨#[]⟩] rfl)
        have Y10 := Aside0.mk (Y9.out.farRow NEYX.out #[.int .i64 n1, .int .i64 n2, .string n3, .int .i64 0, .int .i64 0, .int .i64 0, .int .i64 0, .int .i64 0, .int .u32 0, .int .u32 0, .int .i64 0, .int .i64 0, .int .i64 0, .int .i64 0, .int .i64 0, .int .u32 0, .int .u32 0, .string ⟨#[]⟩] : Mine _ (W9.setRow w.heap.size #[.int .i64 n1, .int .i64 n2, .string n3, .int .i64 0, .int .i64 0, .int .i64 0, .int .i64 0, .int .i64 0, .int .u32 0, .int .u32 0, .int .i64 0, .int .i64 0, .int .i64 0, .int .i64 0, .int .i64 0, .int .u32 0, .int .u32 0, .string ⟨#[]⟩]) _ _ _ _ _)
        have T10 := Aside0.mk (T9.out.farRow X9.out #[.int .i64 n1, .int .i64 n2, .string n3, .int .i64 0, .int .i64 0, .int .i64 0, .int .i64 0, .int .i64 0, .int .u32 0, .int .u32 0, .int .i64 0, .int .i64 0, .int .i64 0, .int .i64 0, .int .i64 0, .int .u32 0, .int .u32 0, .string ⟨#[]⟩])
        have K10 := Aside0.mk (K9.out.mineRow X9.out #[.int .i64 n1, .int .i64 n2, .string n3, .int .i64 0, .int .i64 0, .int .i64 0, .int .i64 0, .int .i64 0, .int .u32 0, .int .u32 0, .int .i64 0, .int .i64 0, .int .i64 0, .int .i64 0, .int .i64 0, .int .u32 0, .int .u32 0, .string ⟨#[]⟩])
        clear T9 K9 X9 Y9
        generalize W9.setRow w.heap.size #[.int .i64 n1, .int .i64 n2, .string n3, .int .i64 0, .int .i64 0, .int .i64 0, .int .i64 0, .int .i64 0, .int .u32 0, .int .u32 0, .int .i64 0, .int .i64 0, .int .i64 0, .int .i64 0, .int .i64 0, .int .u32 0, .int .u32 0, .string ⟨#[]⟩] = W10 at *
        go_wp2_with fail
        exact bodyPost_ret (v := .tuple #[.agg #[.int .i64 n1, .int .i64 n2, .string n3, .int .i64 0, .int .i64 0, .int .i64 0, .int .i64 0, .int .i64 0, .int .u32 0, .int .u32 0, .int .i64 0, .int .i64 0, .int .i64 0, .int .i64 0, .int .i64 0, .int .u32 0, .int .u32 0, .string ⟨#[]⟩], .int .i64 0]) (results_row rfl rfl rfl X10.out.blk Try.underlying36 rfl (by kernel_rfl)) rfl ⟨by rw [HE.out]; rfl, Keep2.below K10.out (Below.refl w.heap.size w) HT.out HH.out (Nat.le_refl _)⟩
      | false =>
        have HE := Aside0.mk (HO.out.trans (if_pos (.inr (.inr rfl))))
        have HT1 := Aside0.mk (show W7.heap[t]? = some (.cells #[.pointer (some ⟨h, 0, none⟩), .bool false] 77 (0, 0)) from by have := T7.out.blk; rw [hB] at this; exact this)
        have d0 := blk_cell HT1.out 0
        have d1 := blk_cell HT1.out 1
        clear hB HT1
        have CL := Aside0.mk (left_any h m3.rest W7 T7.out.rd)
        rw [hL] at CL
        simp only [List.length_nil] at CL
        clear hL
        replace CL := Aside0.mk (show Calls Try.prog 34 #[.pointer (some ⟨h, 0, none⟩)] W7 (fun e w' => e = .returned (.int .i64 0) ∧ W7 = w') from CL.out)
        go_wp2_with fail
        refine CL.out.mono ?_
        rintro e W8 ⟨rfl, rfl⟩
        clear CL
        try dsimp only
        repeat ((fail_if_success (show Oper.wp _ (Oper.mk _ (Op.load 36 _) _ _ _ _) _ _ _ _)); (first | go_values | go_skip | go_guarded | go_step | go_upon | go_back))
        refine wp_load_row Y7.out.blk rfl rfl Try.underlying36 rfl (by kernel_rfl) ?_
        try go_simp
        go_wp2_with fail
        refine (CR.out W7).mono ?_
        rintro e W9 ⟨rfl, hb⟩
        have X9 := Aside0.mk (X7.out.below hb)
        have Y9 := Aside0.mk (Y7.out.below hb)
        have K9 := Aside0.mk (K7.out.trans (Keep2.of hb))
        have T9 := Aside0.mk (T7.out.below hb)
        clear hb T7 K7 X7 Y7
        clear d0 d1
        try dsimp only
        repeat ((fail_if_success (show Oper.wp _ (Oper.mk none (Op.store _ _ _) _ _ _ _) _ _ _ _)); (first | go_values | go_skip | go_guarded | go_step | go_upon | go_back))
        refine wp_store_row (c' := #[.int .i64 0, .int .i64 0, .string ⟨#[]⟩, .int .i64 0, .int .i64 0, .int .i64 0, .int .i64 0, .int .i64 0, .int .u32 0, .int .u32 0, .int .i64 0, .int .i64 0, .int .i64 0, .int .i64 0, .int .i64 0, .int .u32 0, .int .u32 0, .string ⟨#[]⟩]) X9.out.blk rfl rfl rfl rfl (by kernel_rfl) rfl (by simp [Value.oneCell']) ?_
        have X10 := Aside0.mk (X9.out.row #[.int .i64 0, .int .i64 0, .string ⟨#[]⟩, .int .i64 0, .int .i64 0, .int .i64 0, .int .i64 0, .int .i64 0, .int .u32 0, .int .u32 0, .int .i64 0, .int .i64 0, .int .i64 0, .int .i64 0, .int .i64 0, .int .u32 0, .int .u32 0, .string ⟨#[]⟩] rfl)
        have Y10 := Aside0.mk (Y9.out.farRow NEYX.out #[.int .i64 0, .int .i64 0, .string ⟨#[]⟩, .int .i64 0, .int .i64 0, .int .i64 0, .int .i64 0, .int .i64 0, .int .u32 0, .int .u32 0, .int .i64 0, .int .i64 0, .int .i64 0, .int .i64 0, .int .i64 0, .int .u32 0, .int .u32 0, .string ⟨#[]⟩] : Mine _ (W9.setRow w.heap.size #[.int .i64 0, .int .i64 0, .string ⟨#[]⟩, .int .i64 0, .int .i64 0, .int .i64 0, .int .i64 0, .int .i64 0, .int .u32 0, .int .u32 0, .int .i64 0, .int .i64 0, .int .i64 0, .int .i64 0, .int .i64 0, .int .u32 0, .int .u32 0, .string ⟨#[]⟩]) _ _ _ _ _)
        have T10 := Aside0.mk (T9.out.farRow X9.out #[.int .i64 0, .int .i64 0, .string ⟨#[]⟩, .int .i64 0, .int .i64 0, .int .i64 0, .int .i64 0, .int .i64 0, .int .u32 0, .int .u32 0, .int .i64 0, .int .i64 0, .int .i64 0, .int .i64 0, .int .i64 0, .int .u32 0, .int .u32 0, .string ⟨#[]⟩])
        have K10 := Aside0.mk (K9.out.mineRow X9.out #[.int .i64 0, .int .i64 0, .string ⟨#[]⟩, .int .i64 0, .int .i64 0, .int .i64 0, .int .i64 0, .int .i64 0, .int .u32 0, .int .u32 0, .int .i64 0, .int .i64 0, .int .i64 0, .int .i64 0, .int .i64 0, .int .u32 0, .int .u32 0, .string ⟨#[]⟩])
        clear T9 K9 X9 Y9
        generalize W9.setRow w.heap.size #[.int .i64 0, .int .i64 0, .string ⟨#[]⟩, .int .i64 0, .int .i64 0, .int .i64 0, .int .i64 0, .int .i64 0, .int .u32 0, .int .u32 0, .int .i64 0, .int .i64 0, .int .i64 0, .int .i64 0, .int .i64 0, .int .u32 0, .int .u32 0, .string ⟨#[]⟩] = W10 at *
        go_wp2_with fail
        exact bodyPost_ret (v := .tuple #[.agg #[.int .i64 0, .int .i64 0, .string ⟨#[]⟩, .int .i64 0, .int .i64 0, .int .i64 0, .int .i64 0, .int .i64 0, .int .u32 0, .int .u32 0, .int .i64 0, .int .i64 0, .int .i64 0, .int .i64 0, .int .i64 0, .int .u32 0, .int .u32 0, .string ⟨#[]⟩], .int .i64 171]) (results_row rfl rfl rfl X10.out.blk Try.underlying36 rfl (by kernel_rfl)) rfl ⟨by rw [HE.out]; rfl, Keep2.below K10.out (Below.refl w.heap.size w) HT.out HH.out (Nat.le_refl _)⟩
    · have HE := Aside0.mk (HO.out.trans (if_pos (.inr (.inl (List.length_pos_iff.2 hL)))))
      have HT1 := Aside0.mk (show W7.heap[t]? = some (.cells #[.pointer (some ⟨h, 0, none⟩), .bool false] 77 (0, 0)) from by have := T7.out.blk; rw [hB] at this; exact this)
      have d0 := blk_cell HT1.out 0
      have d1 := blk_cell HT1.out 1
      clear hB HT1
      have CL := Aside0.mk (left_any h m3.rest W7 T7.out.rd)
      have hLi : (0 : Int) < (m3.rest.length : Int) := by have := List.length_pos_iff.2 hL; omega
      clear hL
      generalize (m3.rest.length : Int) = q at *
      go_wp2_with fail
      refine CL.out.mono ?_
      rintro e W8 ⟨rfl, rfl⟩
      clear CL
      try dsimp only
      repeat ((fail_if_success (show Oper.wp _ (Oper.mk none (Op.store _ _ _) _ _ _ _) _ _ _ _)); (first | go_values | go_skip | go_guarded | go_step | go_upon | go_back))
      refine wp_store_row (c' := #[.int .i64 0, .int .i64 0, .string ⟨#[]⟩, .int .i64 0, .int .i64 0, .int .i64 0, .int .i64 0, .int .i64 0, .int .u32 0, .int .u32 0, .int .i64 0, .int .i64 0, .int .i64 0, .int .i64 0, .int .i64 0, .int .u32 0, .int .u32 0, .string ⟨#[]⟩]) X7.out.blk rfl rfl rfl rfl (by kernel_rfl) rfl (by simp [Value.oneCell']) ?_
      have X8 := Aside0.mk (X7.out.row #[.int .i64 0, .int .i64 0, .string ⟨#[]⟩, .int .i64 0, .int .i64 0, .int .i64 0, .int .i64 0, .int .i64 0, .int .u32 0, .int .u32 0, .int .i64 0, .int .i64 0, .int .i64 0, .int .i64 0, .int .i64 0, .int .u32 0, .int .u32 0, .string ⟨#[]⟩] rfl)
      have Y8 := Aside0.mk (Y7.out.farRow NEYX.out #[.int .i64 0, .int .i64 0, .string ⟨#[]⟩, .int .i64 0, .int .i64 0, .int .i64 0, .int .i64 0, .int .i64 0, .int .u32 0, .int .u32 0, .int .i64 0, .int .i64 0, .int .i64 0, .int .i64 0, .int .i64 0, .int .u32 0, .int .u32 0, .string ⟨#[]⟩] : Mine _ (W7.setRow w.heap.size #[.int .i64 0, .int .i64 0, .string ⟨#[]⟩, .int .i64 0, .int .i64 0, .int .i64 0, .int .i64 0, .int .i64 0, .int .u32 0, .int .u32 0, .int .i64 0, .int .i64 0, .int .i64 0, .int .i64 0, .int .i64 0, .int .u32 0, .int .u32 0, .string ⟨#[]⟩]) _ _ _ _ _)
      have T8 := Aside0.mk (T7.out.farRow X7.out #[.int .i64 0, .int .i64 0, .string ⟨#[]⟩, .int .i64 0, .int .i64 0, .int .i64 0, .int .i64 0, .int .i64 0, .int .u32 0, .int .u32 0, .int .i64 0, .int .i64 0, .int .i64 0, .int .i64 0, .int .i64 0, .int .u32 0, .int .u32 0, .string ⟨#[]⟩])
      have K8 := Aside0.mk (K7.out.mineRow X7.out #[.int .i64 0, .int .i64 0, .string ⟨#[]⟩, .int .i64 0, .int .i64 0, .int .i64 0, .int .i64 0, .int .i64 0, .int .u32 0, .int .u32 0, .int .i64 0, .int .i64 0, .int .i64 0, .int .i64 0, .int .i64 0, .int .u32 0, .int .u32 0, .string ⟨#[]⟩])
      clear T7 K7 X7 Y7
      generalize W7.setRow w.heap.size #[.int .i64 0, .int .i64 0, .string ⟨#[]⟩, .int .i64 0, .int .i64 0, .int .i64 0, .int .i64 0, .int .i64 0, .int .u32 0, .int .u32 0, .int .i64 0, .int .i64 0, .int .i64 0, .int .i64 0, .int .i64 0, .int .u32 0, .int .u32 0, .string ⟨#[]⟩] = W8 at *
      go_wp2_with fail
      exact bodyPost_ret (v := .tuple #[.agg #[.int .i64 0, .int .i64 0, .string ⟨#[]⟩, .int .i64 0, .int .i64 0, .int .i64 0, .int .i64 0, .int .i64 0, .int .u32 0, .int .u32 0, .int .i64 0, .int .i64 0, .int .i64 0, .int .i64 0, .int .i64 0, .int .u32 0, .int .u32 0, .string ⟨#[]⟩], .int .i64 171]) (results_row rfl rfl rfl X8.out.blk Try.underlying36 rfl (by kernel_rfl)) rfl ⟨by rw [HE.out]; rfl, Keep2.below K8.out (Below.refl w.heap.size w) HT.out HH.out (Nat.le_refl _)⟩
set_option maxHeartbeats 4000000 in
theorem dec_2 (A : Option Addr) (c : Nat) (l : List Int) (w : World) (hC : Kd.C (Kd.int .u8) w A l.length l) (hc : l.length ≤ c) (hl : l.length < 140737488355328) (hby : bytes l) (n1 : Int) (m1 : Mc) (q1 : numM 9 (⟨l, false⟩) = (n1, m1)) (n2 : Int) (m2 : Mc) (q2 : numM 255 m1 = (n2, m2)) (n3 : Int) (m3 : Mc) (q3 : numM 255 m2 = (n3, m3)) (n4 : Ru) (m4 : Mc) (q4 : ruleM m3 = (n4, m4)) (hp : partK n1 = 2) (rb : Bool) (hrb : rightQ ⟨n1, n2, ⟨#[]⟩, n3, n4, 0, 0, 0, 0, 0, 0, ⟨#[]⟩⟩ = rb) (OUT : Rq × Int) (hO : OUT = if m4.bad = true ∨ 0 < m4.rest.length ∨ rb = false then (zRq, 171) else (⟨n1, n2, ⟨#[]⟩, n3, n4, 0, 0, 0, 0, 0, 0, ⟨#[]⟩⟩, 0)) :
    Calls Try.prog 12 #[.slice A l.length c] w fun e w' => e = .returned (.tuple #[.agg (rqVals OUT.1).toArray, .int .i64 OUT.2]) ∧ Below w.heap.size w w' := by
  have HO := Aside0.mk hO
  clear hO
  have hb0 : bytes (Mc.mk l false).rest := hby
  have hd1 := numM_bound 9 ⟨l, false⟩ hb0 (by decide)
  have hb1 := numM_bytes 9 ⟨l, false⟩ hb0
  rw [q1] at hd1 hb1
  simp only [] at hd1 hb1
  have C1 := Aside0.mk (fun (t h : Nat) (W : World) (k : TK W t h (⟨l, false⟩)) => tnum_any t h ⟨l, false⟩ 9 (by decide) (by decide) W k)
  rw [q1] at C1
  simp only [] at C1
  have hd2 := numM_bound 255 m1 hb1 (by decide)
  have hb2 := numM_bytes 255 m1 hb1
  rw [q2] at hd2 hb2
  simp only [] at hd2 hb2
  have C2 := Aside0.mk (fun (t h : Nat) (W : World) (k : TK W t h (m1)) => tnum_any t h m1 255 (by decide) (by decide) W k)
  rw [q2] at C2
  simp only [] at C2
  have hd3 := numM_bound 255 m2 hb2 (by decide)
  have hb3 := numM_bytes 255 m2 hb2
  rw [q3] at hd3 hb3
  simp only [] at hd3 hb3
  have C3 := Aside0.mk (fun (t h : Nat) (W : World) (k : TK W t h (m2)) => tnum_any t h m2 255 (by decide) (by decide) W k)
  rw [q3] at C3
  simp only [] at C3
  have hd4 := ruleM_ok m3 hb3
  have hb4 := ruleM_bytes m3 hb3
  rw [q4] at hd4 hb4
  simp only [] at hd4 hb4
  have C4 := Aside0.mk (fun (t h : Nat) (W : World) (k : TK W t h (m3)) => trule_any t h m3 W k)
  rw [q4] at C4
  simp only [] at C4
  have CR := Aside0.mk (fun W => right_any ⟨n1, n2, ⟨#[]⟩, n3, n4, 0, 0, 0, 0, 0, 0, ⟨#[]⟩⟩ ⟨hd4, ok0, ok0⟩ W)
  rw [hrb] at CR
  simp only [] at CR
  have CP := Aside0.mk (fun W => counts_any n1 W)
  rw [hp] at CP
  clear hb0 hb1 hb2 hb3 hb4 hd1 hd2 hd3 hd4 q1 q2 q3 q4 hrb
  have hC0 := Aside0.mk hC
  clear hC
  go_enter Try.func12, Try.ntmps12
  have hbn := Aside0.mk ((Below.refl w.heap.size w).alloc (Nat.le_refl _) (.cells #[.int .i64 0, .int .i64 0, .string ⟨#[]⟩, .int .i64 0, .int .i64 0, .int .i64 0, .int .i64 0, .int .i64 0, .int .u32 0, .int .u32 0, .int .i64 0, .int .i64 0, .int .i64 0, .int .i64 0, .int .i64 0, .int .u32 0, .int .u32 0, .string ⟨#[]⟩] 36))
  have hbl := Aside0.mk (blk_new w (.cells #[.int .i64 0, .int .i64 0, .string ⟨#[]⟩, .int .i64 0, .int .i64 0, .int .i64 0, .int .i64 0, .int .i64 0, .int .u32 0, .int .u32 0, .int .i64 0, .int .i64 0, .int .i64 0, .int .i64 0, .int .i64 0, .int .u32 0, .int .u32 0, .string ⟨#[]⟩] 36))
  try dsimp only
  repeat ((fail_if_success (show Code.wp _ (Code.seq (Code.region 1 _ _) _) _ _ _)); (first | go_values | go_skip | go_guarded | go_step | go_upon | go_back))
  have hC1 := Aside0.mk (Kd.C_below hC0.out ((Below.refl w.heap.size w).alloc (Nat.le_refl _) (.cells #[.int .i64 0, .int .i64 0, .string ⟨#[]⟩, .int .i64 0, .int .i64 0, .int .i64 0, .int .i64 0, .int .i64 0, .int .u32 0, .int .u32 0, .int .i64 0, .int .i64 0, .int .i64 0, .int .i64 0, .int .i64 0, .int .u32 0, .int .u32 0, .string ⟨#[]⟩] 36)))
  have hs := Aside0.mk (show w.heap.size < (w.alloc (.cells #[.int .i64 0, .int .i64 0, .string ⟨#[]⟩, .int .i64 0, .int .i64 0, .int .i64 0, .int .i64 0, .int .i64 0, .int .u32 0, .int .u32 0, .int .i64 0, .int .i64 0, .int .i64 0, .int .i64 0, .int .i64 0, .int .u32 0, .int .u32 0, .string ⟨#[]⟩] 36)).heap.size from by simp)
  clear hC0
  generalize (w.alloc (.cells #[.int .i64 0, .int .i64 0, .string ⟨#[]⟩, .int .i64 0, .int .i64 0, .int .i64 0, .int .i64 0, .int .i64 0, .int .u32 0, .int .u32 0, .int .i64 0, .int .i64 0, .int .i64 0, .int .i64 0, .int .i64 0, .int .u32 0, .int .u32 0, .string ⟨#[]⟩] 36)) = V0 at *
  go_wp2_with fail
  refine (open_any A c l V0 hC1.out hc hl).mono ?_
  rintro e V1 ⟨h, rfl, hrd, hgh, hgl, hb⟩
  have hsz := hb.size
  have s0 := hs.out
  have hb1 := Aside0.mk (hbn.out.trans (hb.mono (Nat.le_of_lt s0)))
  have hx0 := Aside0.mk (blk_below hbl.out hb)
  clear hC1 hb hbn hbl
  try dsimp only
  repeat ((fail_if_success (show Code.wp _ (Code.seq (Code.region 2 _ _) _) _ _ _)); (first | go_values | go_skip | go_guarded | go_step | go_upon | go_back))
  have T0 := Aside0.mk (show TK (V1.alloc (.cells #[.pointer (some ⟨h, 0, none⟩), .bool false] 77)) V1.heap.size h ⟨l, false⟩ from ⟨blk_new V1 _, hrd.below ((Below.refl V1.heap.size V1).alloc (Nat.le_refl _) _), hby⟩)
  have hbm := (Below.refl V1.heap.size V1).alloc (Nat.le_refl _) (.cells #[.pointer (some ⟨h, 0, none⟩), .bool false] 77)
  have X0 := Aside0.mk (show Mine w (V1.alloc (.cells #[.pointer (some ⟨h, 0, none⟩), .bool false] 77)) V1.heap.size h w.heap.size #[.int .i64 0, .int .i64 0, .string ⟨#[]⟩, .int .i64 0, .int .i64 0, .int .i64 0, .int .i64 0, .int .i64 0, .int .u32 0, .int .u32 0, .int .i64 0, .int .i64 0, .int .i64 0, .int .i64 0, .int .i64 0, .int .u32 0, .int .u32 0, .string ⟨#[]⟩] 36 from ⟨blk_below hx0.out hbm, Nat.le_refl _, rfl, by omega, by omega⟩)
  have K0 := Aside0.mk (show Keep2 V1.heap.size h w (V1.alloc (.cells #[.pointer (some ⟨h, 0, none⟩), .bool false] 77)) from Keep2.of (hb1.out.trans (hbm.mono (by omega))))
  have HT := Aside0.mk (show w.heap.size ≤ V1.heap.size from by omega)
  have HH := Aside0.mk (show w.heap.size ≤ h from by omega)
  clear hbm hx0 hb1 hs s0 hsz hgl hgh hrd hby
  generalize V1.alloc (.cells #[.pointer (some ⟨h, 0, none⟩), .bool false] 77) = W0 at *
  generalize V1.heap.size = t at *
  replace C1 := Aside0.mk (C1.out t h)
  replace C2 := Aside0.mk (C2.out t h)
  replace C3 := Aside0.mk (C3.out t h)
  replace C4 := Aside0.mk (C4.out t h)
  go_wp2_with fail
  refine (C1.out _ T0.out).mono ?_
  rintro e W1 ⟨rfl, ht, hk⟩
  have X1 := Aside0.mk (X0.out.keep hk)
  have K1 := Aside0.mk (K0.out.trans hk)
  have T1 := Aside0.mk ht
  clear ht hk C1 T0 K0 X0
  go_wp2_with fail
  refine (C2.out _ T1.out).mono ?_
  rintro e W2 ⟨rfl, ht, hk⟩
  have X2 := Aside0.mk (X1.out.keep hk)
  have K2 := Aside0.mk (K1.out.trans hk)
  have T2 := Aside0.mk ht
  clear ht hk C2 T1 K1 X1
  have hbn := (Below.refl W2.heap.size W2).alloc (Nat.le_refl _) (.cells #[.int .i64 0, .int .i64 0, .string ⟨#[]⟩, .int .i64 0, .int .i64 0, .int .i64 0, .int .i64 0, .int .i64 0, .int .u32 0, .int .u32 0, .int .i64 0, .int .i64 0, .int .i64 0, .int .i64 0, .int .i64 0, .int .u32 0, .int .u32 0, .string ⟨#[]⟩] 36)
  have Y3 := Aside0.mk (mine_new K2.out T2.out.lt #[.int .i64 0, .int .i64 0, .string ⟨#[]⟩, .int .i64 0, .int .i64 0, .int .i64 0, .int .i64 0, .int .i64 0, .int .u32 0, .int .u32 0, .int .i64 0, .int .i64 0, .int .i64 0, .int .i64 0, .int .i64 0, .int .u32 0, .int .u32 0, .string ⟨#[]⟩] 36 rfl)
  have NEYX := Aside0.mk (show W2.heap.size ≠ w.heap.size from by have := blk_lt X2.out.blk; omega)
  have X3 := Aside0.mk (X2.out.below hbn)
  have T3 := Aside0.mk (T2.out.below hbn)
  have K3 := Aside0.mk (K2.out.alloc (.cells #[.int .i64 0, .int .i64 0, .string ⟨#[]⟩, .int .i64 0, .int .i64 0, .int .i64 0, .int .i64 0, .int .i64 0, .int .u32 0, .int .u32 0, .int .i64 0, .int .i64 0, .int .i64 0, .int .i64 0, .int .i64 0, .int .u32 0, .int .u32 0, .string ⟨#[]⟩] 36))
  clear hbn T2 K2 X2
  try dsimp only
  repeat ((fail_if_success (show Oper.wp _ (Oper.mk none (Op.store _ _ _) _ _ _ _) _ _ _ _)); (first | go_values | go_skip | go_guarded | go_step | go_upon | go_back))
  generalize (W2.alloc (.cells #[.int .i64 0, .int .i64 0, .string ⟨#[]⟩, .int .i64 0, .int .i64 0, .int .i64 0, .int .i64 0, .int .i64 0, .int .u32 0, .int .u32 0, .int .i64 0, .int .i64 0, .int .i64 0, .int .i64 0, .int .i64 0, .int .u32 0, .int .u32 0, .string ⟨#[]⟩] 36)) = W3 at *
  generalize W2.heap.size = b1 at *
  refine wp_store_row (c' := #[.int .i64 n1, .int .i64 n2, .string ⟨#[]⟩, .int .i64 0, .int .i64 0, .int .i64 0, .int .i64 0, .int .i64 0, .int .u32 0, .int .u32 0, .int .i64 0, .int .i64 0, .int .i64 0, .int .i64 0, .int .i64 0, .int .u32 0, .int .u32 0, .string ⟨#[]⟩]) Y3.out.blk rfl rfl rfl rfl (by kernel_rfl) rfl (by simp [Value.oneCell']) ?_
  have Y4 := Aside0.mk (Y3.out.row #[.int .i64 n1, .int .i64 n2, .string ⟨#[]⟩, .int .i64 0, .int .i64 0, .int .i64 0, .int .i64 0, .int .i64 0, .int .u32 0, .int .u32 0, .int .i64 0, .int .i64 0, .int .i64 0, .int .i64 0, .int .i64 0, .int .u32 0, .int .u32 0, .string ⟨#[]⟩] rfl)
  have X4 := Aside0.mk (X3.out.farRow (fun e => NEYX.out e.symm) #[.int .i64 n1, .int .i64 n2, .string ⟨#[]⟩, .int .i64 0, .int .i64 0, .int .i64 0, .int .i64 0, .int .i64 0, .int .u32 0, .int .u32 0, .int .i64 0, .int .i64 0, .int .i64 0, .int .i64 0, .int .i64 0, .int .u32 0, .int .u32 0, .string ⟨#[]⟩] : Mine _ (W3.setRow b1 #[.int .i64 n1, .int .i64 n2, .string ⟨#[]⟩, .int .i64 0, .int .i64 0, .int .i64 0, .int .i64 0, .int .i64 0, .int .u32 0, .int .u32 0, .int .i64 0, .int .i64 0, .int .i64 0, .int .i64 0, .int .i64 0, .int .u32 0, .int .u32 0, .string ⟨#[]⟩]) _ _ _ _ _)
  have T4 := Aside0.mk (T3.out.farRow Y3.out #[.int .i64 n1, .int .i64 n2, .string ⟨#[]⟩, .int .i64 0, .int .i64 0, .int .i64 0, .int .i64 0, .int .i64 0, .int .u32 0, .int .u32 0, .int .i64 0, .int .i64 0, .int .i64 0, .int .i64 0, .int .i64 0, .int .u32 0, .int .u32 0, .string ⟨#[]⟩])
  have K4 := Aside0.mk (K3.out.mineRow Y3.out #[.int .i64 n1, .int .i64 n2, .string ⟨#[]⟩, .int .i64 0, .int .i64 0, .int .i64 0, .int .i64 0, .int .i64 0, .int .u32 0, .int .u32 0, .int .i64 0, .int .i64 0, .int .i64 0, .int .i64 0, .int .i64 0, .int .u32 0, .int .u32 0, .string ⟨#[]⟩])
  clear T3 K3 X3 Y3
  generalize W3.setRow b1 #[.int .i64 n1, .int .i64 n2, .string ⟨#[]⟩, .int .i64 0, .int .i64 0, .int .i64 0, .int .i64 0, .int .i64 0, .int .u32 0, .int .u32 0, .int .i64 0, .int .i64 0, .int .i64 0, .int .i64 0, .int .i64 0, .int .u32 0, .int .u32 0, .string ⟨#[]⟩] = W4 at *
  try dsimp only
  repeat ((fail_if_success (show Code.wp _ (Code.seq (Code.region 3 _ _) _) _ _ _)); (first | go_values | go_skip | go_guarded | go_step | go_upon | go_back))
  have k0 := blk_cell Y4.out.blk 0
  have f0 := blk_frozen Y4.out.blk 0
  go_wp2_with fail
  refine (CP.out W4).mono ?_
  rintro e W5 ⟨rfl, hb⟩
  have X5 := Aside0.mk (X4.out.below hb)
  have Y5 := Aside0.mk (Y4.out.below hb)
  have K5 := Aside0.mk (K4.out.trans (Keep2.of hb))
  have T5 := Aside0.mk (T4.out.below hb)
  clear hb T4 K4 X4 Y4
  clear k0 f0 CP
  unfold ruleVals at C4
  go_wp2_with fail
  refine (C3.out _ T5.out).mono ?_
  rintro e W6 ⟨rfl, ht, hk⟩
  have X6 := Aside0.mk (X5.out.keep hk)
  have Y6 := Aside0.mk (Y5.out.keep hk)
  have K6 := Aside0.mk (K5.out.trans hk)
  have T6 := Aside0.mk ht
  clear ht hk C3 T5 K5 X5 Y5
  go_wp2_with fail
  refine (C4.out _ T6.out).mono ?_
  rintro e W7 ⟨rfl, ht, hk⟩
  have X7 := Aside0.mk (X6.out.keep hk)
  have Y7 := Aside0.mk (Y6.out.keep hk)
  have K7 := Aside0.mk (K6.out.trans hk)
  have T7 := Aside0.mk ht
  clear ht hk C4 T6 K6 X6 Y6
  have k3 := blk_cell Y7.out.blk 3
  have k4 := blk_cell Y7.out.blk 4
  have k5 := blk_cell Y7.out.blk 5
  have k6 := blk_cell Y7.out.blk 6
  have k7 := blk_cell Y7.out.blk 7
  have k8 := blk_cell Y7.out.blk 8
  have k9 := blk_cell Y7.out.blk 9
  have k10 := blk_cell Y7.out.blk 10
  have f3 := blk_frozen Y7.out.blk 3
  have f4 := blk_frozen Y7.out.blk 4
  have f5 := blk_frozen Y7.out.blk 5
  have f6 := blk_frozen Y7.out.blk 6
  have f7 := blk_frozen Y7.out.blk 7
  have f8 := blk_frozen Y7.out.blk 8
  have f9 := blk_frozen Y7.out.blk 9
  have f10 := blk_frozen Y7.out.blk 10
  try dsimp only
  repeat ((fail_if_success (show Code.wp _ (Code.seq (Code.region 13 _ _) _) _ _ _)); (first | go_values | go_skip | go_guarded | go_step | go_upon | go_back))
  have Y8 := Aside0.mk (Y7.out.put 3 (.int .i64 n3) rfl #[.int .i64 n1, .int .i64 n2, .string ⟨#[]⟩, .int .i64 n3, .int .i64 0, .int .i64 0, .int .i64 0, .int .i64 0, .int .u32 0, .int .u32 0, .int .i64 0, .int .i64 0, .int .i64 0, .int .i64 0, .int .i64 0, .int .u32 0, .int .u32 0, .string ⟨#[]⟩] (by simp) rfl)
  have X8 := Aside0.mk (X7.out.far (fun e => NEYX.out e.symm) 3 (.int .i64 n3) : Mine _ (W7.setCell ⟨b1, 3, none⟩ (.int .i64 n3)) _ _ _ _ _)
  have T8 := Aside0.mk (T7.out.far Y7.out 3 (.int .i64 n3))
  have K8 := Aside0.mk (K7.out.mine Y7.out 3 (.int .i64 n3))
  clear T7 K7 X7 Y7
  generalize (W7.setCell ⟨b1, 3, none⟩ (.int .i64 n3)) = W8 at *
  have Y9 := Aside0.mk (Y8.out.put 4 (.int .i64 n4.f0) rfl #[.int .i64 n1, .int .i64 n2, .string ⟨#[]⟩, .int .i64 n3, .int .i64 n4.f0, .int .i64 0, .int .i64 0, .int .i64 0, .int .u32 0, .int .u32 0, .int .i64 0, .int .i64 0, .int .i64 0, .int .i64 0, .int .i64 0, .int .u32 0, .int .u32 0, .string ⟨#[]⟩] (by simp) rfl)
  have X9 := Aside0.mk (X8.out.far (fun e => NEYX.out e.symm) 4 (.int .i64 n4.f0) : Mine _ (W8.setCell ⟨b1, 4, none⟩ (.int .i64 n4.f0)) _ _ _ _ _)
  have T9 := Aside0.mk (T8.out.far Y8.out 4 (.int .i64 n4.f0))
  have K9 := Aside0.mk (K8.out.mine Y8.out 4 (.int .i64 n4.f0))
  clear T8 K8 X8 Y8
  generalize (W8.setCell ⟨b1, 4, none⟩ (.int .i64 n4.f0)) = W9 at *
  have Y10 := Aside0.mk (Y9.out.put 5 (.int .i64 n4.f1) rfl #[.int .i64 n1, .int .i64 n2, .string ⟨#[]⟩, .int .i64 n3, .int .i64 n4.f0, .int .i64 n4.f1, .int .i64 0, .int .i64 0, .int .u32 0, .int .u32 0, .int .i64 0, .int .i64 0, .int .i64 0, .int .i64 0, .int .i64 0, .int .u32 0, .int .u32 0, .string ⟨#[]⟩] (by simp) rfl)
  have X10 := Aside0.mk (X9.out.far (fun e => NEYX.out e.symm) 5 (.int .i64 n4.f1) : Mine _ (W9.setCell ⟨b1, 5, none⟩ (.int .i64 n4.f1)) _ _ _ _ _)
  have T10 := Aside0.mk (T9.out.far Y9.out 5 (.int .i64 n4.f1))
  have K10 := Aside0.mk (K9.out.mine Y9.out 5 (.int .i64 n4.f1))
  clear T9 K9 X9 Y9
  generalize (W9.setCell ⟨b1, 5, none⟩ (.int .i64 n4.f1)) = W10 at *
  have Y11 := Aside0.mk (Y10.out.put 6 (.int .i64 n4.f2) rfl #[.int .i64 n1, .int .i64 n2, .string ⟨#[]⟩, .int .i64 n3, .int .i64 n4.f0, .int .i64 n4.f1, .int .i64 n4.f2, .int .i64 0, .int .u32 0, .int .u32 0, .int .i64 0, .int .i64 0, .int .i64 0, .int .i64 0, .int .i64 0, .int .u32 0, .int .u32 0, .string ⟨#[]⟩] (by simp) rfl)
  have X11 := Aside0.mk (X10.out.far (fun e => NEYX.out e.symm) 6 (.int .i64 n4.f2) : Mine _ (W10.setCell ⟨b1, 6, none⟩ (.int .i64 n4.f2)) _ _ _ _ _)
  have T11 := Aside0.mk (T10.out.far Y10.out 6 (.int .i64 n4.f2))
  have K11 := Aside0.mk (K10.out.mine Y10.out 6 (.int .i64 n4.f2))
  clear T10 K10 X10 Y10
  generalize (W10.setCell ⟨b1, 6, none⟩ (.int .i64 n4.f2)) = W11 at *
  have Y12 := Aside0.mk (Y11.out.put 7 (.int .i64 n4.f3) rfl #[.int .i64 n1, .int .i64 n2, .string ⟨#[]⟩, .int .i64 n3, .int .i64 n4.f0, .int .i64 n4.f1, .int .i64 n4.f2, .int .i64 n4.f3, .int .u32 0, .int .u32 0, .int .i64 0, .int .i64 0, .int .i64 0, .int .i64 0, .int .i64 0, .int .u32 0, .int .u32 0, .string ⟨#[]⟩] (by simp) rfl)
  have X12 := Aside0.mk (X11.out.far (fun e => NEYX.out e.symm) 7 (.int .i64 n4.f3) : Mine _ (W11.setCell ⟨b1, 7, none⟩ (.int .i64 n4.f3)) _ _ _ _ _)
  have T12 := Aside0.mk (T11.out.far Y11.out 7 (.int .i64 n4.f3))
  have K12 := Aside0.mk (K11.out.mine Y11.out 7 (.int .i64 n4.f3))
  clear T11 K11 X11 Y11
  generalize (W11.setCell ⟨b1, 7, none⟩ (.int .i64 n4.f3)) = W12 at *
  have Y13 := Aside0.mk (Y12.out.put 8 (.int .u32 n4.f4.f0) rfl #[.int .i64 n1, .int .i64 n2, .string ⟨#[]⟩, .int .i64 n3, .int .i64 n4.f0, .int .i64 n4.f1, .int .i64 n4.f2, .int .i64 n4.f3, .int .u32 n4.f4.f0, .int .u32 0, .int .i64 0, .int .i64 0, .int .i64 0, .int .i64 0, .int .i64 0, .int .u32 0, .int .u32 0, .string ⟨#[]⟩] (by simp) rfl)
  have X13 := Aside0.mk (X12.out.far (fun e => NEYX.out e.symm) 8 (.int .u32 n4.f4.f0) : Mine _ (W12.setCell ⟨b1, 8, none⟩ (.int .u32 n4.f4.f0)) _ _ _ _ _)
  have T13 := Aside0.mk (T12.out.far Y12.out 8 (.int .u32 n4.f4.f0))
  have K13 := Aside0.mk (K12.out.mine Y12.out 8 (.int .u32 n4.f4.f0))
  clear T12 K12 X12 Y12
  generalize (W12.setCell ⟨b1, 8, none⟩ (.int .u32 n4.f4.f0)) = W13 at *
  have Y14 := Aside0.mk (Y13.out.put 9 (.int .u32 n4.f4.f1) rfl #[.int .i64 n1, .int .i64 n2, .string ⟨#[]⟩, .int .i64 n3, .int .i64 n4.f0, .int .i64 n4.f1, .int .i64 n4.f2, .int .i64 n4.f3, .int .u32 n4.f4.f0, .int .u32 n4.f4.f1, .int .i64 0, .int .i64 0, .int .i64 0, .int .i64 0, .int .i64 0, .int .u32 0, .int .u32 0, .string ⟨#[]⟩] (by simp) rfl)
  have X14 := Aside0.mk (X13.out.far (fun e => NEYX.out e.symm) 9 (.int .u32 n4.f4.f1) : Mine _ (W13.setCell ⟨b1, 9, none⟩ (.int .u32 n4.f4.f1)) _ _ _ _ _)
  have T14 := Aside0.mk (T13.out.far Y13.out 9 (.int .u32 n4.f4.f1))
  have K14 := Aside0.mk (K13.out.mine Y13.out 9 (.int .u32 n4.f4.f1))
  clear T13 K13 X13 Y13
  generalize (W13.setCell ⟨b1, 9, none⟩ (.int .u32 n4.f4.f1)) = W14 at *
  have Y15 := Aside0.mk (Y14.out.put 10 (.int .i64 n4.f5) rfl #[.int .i64 n1, .int .i64 n2, .string ⟨#[]⟩, .int .i64 n3, .int .i64 n4.f0, .int .i64 n4.f1, .int .i64 n4.f2, .int .i64 n4.f3, .int .u32 n4.f4.f0, .int .u32 n4.f4.f1, .int .i64 n4.f5, .int .i64 0, .int .i64 0, .int .i64 0, .int .i64 0, .int .u32 0, .int .u32 0, .string ⟨#[]⟩] (by simp) rfl)
  have X15 := Aside0.mk (X14.out.far (fun e => NEYX.out e.symm) 10 (.int .i64 n4.f5) : Mine _ (W14.setCell ⟨b1, 10, none⟩ (.int .i64 n4.f5)) _ _ _ _ _)
  have T15 := Aside0.mk (T14.out.far Y14.out 10 (.int .i64 n4.f5))
  have K15 := Aside0.mk (K14.out.mine Y14.out 10 (.int .i64 n4.f5))
  clear T14 K14 X14 Y14
  generalize (W14.setCell ⟨b1, 10, none⟩ (.int .i64 n4.f5)) = W15 at *
  clear k3 f3 k4 f4 k5 f5 k6 f6 k7 f7 k8 f8 k9 f9 k10 f10
  cases hB : m4.bad with
  | true =>
    have HE := Aside0.mk (HO.out.trans (if_pos (.inl hB)))
    have HT1 := Aside0.mk (show W15.heap[t]? = some (.cells #[.pointer (some ⟨h, 0, none⟩), .bool true] 77 (0, 0)) from by have := T15.out.blk; rw [hB] at this; exact this)
    have d0 := blk_cell HT1.out 0
    have d1 := blk_cell HT1.out 1
    clear hB HT1
    try dsimp only
    repeat ((fail_if_success (show Oper.wp _ (Oper.mk none (Op.store _ _ _) _ _ _ _) _ _ _ _)); (first | go_values | go_skip | go_guarded | go_step | go_upon | go_back))
    refine wp_store_row (c' := #[.int .i64 0, .int .i64 0, .string ⟨#[]⟩, .int .i64 0, .int .i64 0, .int .i64 0, .int .i64 0, .int .i64 0, .int .u32 0, .int .u32 0, .int .i64 0, .int .i64 0, .int .i64 0, .int .i64 0, .int .i64 0, .int .u32 0, .int .u32 0, .string ⟨#[]⟩]) X15.out.blk rfl rfl rfl rfl (by kernel_rfl) rfl (by simp [Value.oneCell']) ?_
    have X16 := Aside0.mk (X15.out.row #[.int .i64 0, .int .i64 0, .string ⟨#[]⟩, .int .i64 0, .int .i64 0, .int .i64 0, .int .i64 0, .int .i64 0, .int .u32 0, .int .u32 0, .int .i64 0, .int .i64 0, .int .i64 0, .int .i64 0, .int .i64 0, .int .u32 0, .int .u32 0, .string ⟨#[]⟩] rfl)
    have Y16 := Aside0.mk (Y15.out.farRow NEYX.out #[.int .i64 0, .int .i64 0, .string ⟨#[]⟩, .int .i64 0, .int .i64 0, .int .i64 0, .int .i64 0, .int .i64 0, .int .u32 0, .int .u32 0, .int .i64 0, .int .i64 0, .int .i64 0, .int .i64 0, .int .i64 0, .int .u32 0, .int .u32 0, .string ⟨#[]⟩] : Mine _ (W15.setRow w.heap.size #[.int .i64 0, .int .i64 0, .string ⟨#[]⟩, .int .i64 0, .int .i64 0, .int .i64 0, .int .i64 0, .int .i64 0, .int .u32 0, .int .u32 0, .int .i64 0, .int .i64 0, .int .i64 0, .int .i64 0, .int .i64 0, .int .u32 0, .int .u32 0, .string ⟨#[]⟩]) _ _ _ _ _)
    have T16 := Aside0.mk (T15.out.farRow X15.out #[.int .i64 0, .int .i64 0, .string ⟨#[]⟩, .int .i64 0, .int .i64 0, .int .i64 0, .int .i64 0, .int .i64 0, .int .u32 0, .int .u32 0, .int .i64 0, .int .i64 0, .int .i64 0, .int .i64 0, .int .i64 0, .int .u32 0, .int .u32 0, .string ⟨#[]⟩])
    have K16 := Aside0.mk (K15.out.mineRow X15.out #[.int .i64 0, .int .i64 0, .string ⟨#[]⟩, .int .i64 0, .int .i64 0, .int .i64 0, .int .i64 0, .int .i64 0, .int .u32 0, .int .u32 0, .int .i64 0, .int .i64 0, .int .i64 0, .int .i64 0, .int .i64 0, .int .u32 0, .int .u32 0, .string ⟨#[]⟩])
    clear T15 K15 X15 Y15
    generalize W15.setRow w.heap.size #[.int .i64 0, .int .i64 0, .string ⟨#[]⟩, .int .i64 0, .int .i64 0, .int .i64 0, .int .i64 0, .int .i64 0, .int .u32 0, .int .u32 0, .int .i64 0, .int .i64 0, .int .i64 0, .int .i64 0, .int .i64 0, .int .u32 0, .int .u32 0, .string ⟨#[]⟩] = W16 at *
    go_wp2_with fail
    exact bodyPost_ret (v := .tuple #[.agg #[.int .i64 0, .int .i64 0, .string ⟨#[]⟩, .int .i64 0, .int .i64 0, .int .i64 0, .int .i64 0, .int .i64 0, .int .u32 0, .int .u32 0, .int .i64 0, .int .i64 0, .int .i64 0, .int .i64 0, .int .i64 0, .int .u32 0, .int .u32 0, .string ⟨#[]⟩], .int .i64 171]) (results_row rfl rfl rfl X16.out.blk Try.underlying36 rfl (by kernel_rfl)) rfl ⟨by rw [HE.out]; rfl, Keep2.below K16.out (Below.refl w.heap.size w) HT.out HH.out (Nat.le_refl _)⟩
  | false =>
    by_cases hL : m4.rest = []
    · cases rb with
      | true =>
        have HE := Aside0.mk (HO.out.trans (if_neg (by rw [hB, hL]; simp)))
        have HT1 := Aside0.mk (show W15.heap[t]? = some (.cells #[.pointer (some ⟨h, 0, none⟩), .bool false] 77 (0, 0)) from by have := T15.out.blk; rw [hB] at this; exact this)
        have d0 := blk_cell HT1.out 0
        have d1 := blk_cell HT1.out 1
        clear hB HT1
        have CL := Aside0.mk (left_any h m4.rest W15 T15.out.rd)
        rw [hL] at CL
        simp only [List.length_nil] at CL
        clear hL
        replace CL := Aside0.mk (show Calls Try.prog 34 #[.pointer (some ⟨h, 0, none⟩)] W15 (fun e w' => e = .returned (.int .i64 0) ∧ W15 = w') from CL.out)
        go_wp2_with fail
        refine CL.out.mono ?_
        rintro e W16 ⟨rfl, rfl⟩
        clear CL
        try dsimp only
        repeat ((fail_if_success (show Oper.wp _ (Oper.mk _ (Op.load 36 _) _ _ _ _) _ _ _ _)); (first | go_values | go_skip | go_guarded | go_step | go_upon | go_back))
        refine wp_load_row Y15.out.blk rfl rfl Try.underlying36 rfl (by kernel_rfl) ?_
        try go_simp
        go_wp2_with fail
        refine (CR.out W15).mono ?_
        rintro e W17 ⟨rfl, hb⟩
        have X17 := Aside0.mk (X15.out.below hb)
        have Y17 := Aside0.mk (Y15.out.below hb)
        have K17 := Aside0.mk (K15.out.trans (Keep2.of hb))
        have T17 := Aside0.mk (T15.out.below hb)
        clear hb T15 K15 X15 Y15
        clear d0 d1
        try dsimp only
        repeat ((fail_if_success (show Oper.wp _ (Oper.mk _ (Op.load 36 _) _ _ _ _) _ _ _ _)); (first | go_values | go_skip | go_guarded | go_step | go_upon | go_back))
        refine wp_load_row Y17.out.blk rfl rfl Try.underlying36 rfl (by kernel_rfl) ?_
        try go_simp
        try dsimp only
        repeat ((fail_if_success (show Oper.wp _ (Oper.mk none (Op.store _ _ _) _ _ _ _) _ _ _ _)); (first | go_values | go_skip | go_guarded | go_step | go_upon | go_back))
        refine wp_store_row (c' := #[.int .i64 n1, .int .i64 n2, .string ⟨#[]⟩, .int .i64 n3, .int .i64 n4.f0, .int .i64 n4.f1, .int .i64 n4.f2, .int .i64 n4.f3, .int .u32 n4.f4.f0, .int .u32 n4.f4.f1, .int .i64 n4.f5, .int .i64 0, .int .i64 0, .int .i64 0, .int .i64 0, .int .u32 0, .int .u32 0, .string ⟨#[]⟩]) X17.out.blk rfl rfl rfl rfl (by kernel_rfl) rfl (by simp [Value.oneCell']) ?_
        have X18 := Aside0.mk (X17.out.row #[.int .i64 n1, .int .i64 n2, .string ⟨#[]⟩, .int .i64 n3, .int .i64 n4.f0, .int .i64 n4.f1, .int .i64 n4.f2, .int .i64 n4.f3, .int .u32 n4.f4.f0, .int .u32 n4.f4.f1, .int .i64 n4.f5, .int .i64 0, .int .i64 0, .int .i64 0, .int .i64 0, .int .u32 0, .int .u32 0, .string ⟨#[]⟩] rfl)
        have Y18 := Aside0.mk (Y17.out.farRow NEYX.out #[.int .i64 n1, .int .i64 n2, .string ⟨#[]⟩, .int .i64 n3, .int .i64 n4.f0, .int .i64 n4.f1, .int .i64 n4.f2, .int .i64 n4.f3, .int .u32 n4.f4.f0, .int .u32 n4.f4.f1, .int .i64 n4.f5, .int .i64 0, .int .i64 0, .int .i64 0, .int .i64 0, .int .u32 0, .int .u32 0, .string ⟨#[]⟩] : Mine _ (W17.setRow w.heap.size #[.int .i64 n1, .int .i64 n2, .string ⟨#[]⟩, .int .i64 n3, .int .i64 n4.f0, .int .i64 n4.f1, .int .i64 n4.f2, .int .i64 n4.f3, .int .u32 n4.f4.f0, .int .u32 n4.f4.f1, .int .i64 n4.f5, .int .i64 0, .int .i64 0, .int .i64 0, .int .i64 0, .int .u32 0, .int .u32 0, .string ⟨#[]⟩]) _ _ _ _ _)
        have T18 := Aside0.mk (T17.out.farRow X17.out #[.int .i64 n1, .int .i64 n2, .string ⟨#[]⟩, .int .i64 n3, .int .i64 n4.f0, .int .i64 n4.f1, .int .i64 n4.f2, .int .i64 n4.f3, .int .u32 n4.f4.f0, .int .u32 n4.f4.f1, .int .i64 n4.f5, .int .i64 0, .int .i64 0, .int .i64 0, .int .i64 0, .int .u32 0, .int .u32 0, .string ⟨#[]⟩])
        have K18 := Aside0.mk (K17.out.mineRow X17.out #[.int .i64 n1, .int .i64 n2, .string ⟨#[]⟩, .int .i64 n3, .int .i64 n4.f0, .int .i64 n4.f1, .int .i64 n4.f2, .int .i64 n4.f3, .int .u32 n4.f4.f0, .int .u32 n4.f4.f1, .int .i64 n4.f5, .int .i64 0, .int .i64 0, .int .i64 0, .int .i64 0, .int .u32 0, .int .u32 0, .string ⟨#[]⟩])
        clear T17 K17 X17 Y17
        generalize W17.setRow w.heap.size #[.int .i64 n1, .int .i64 n2, .string ⟨#[]⟩, .int .i64 n3, .int .i64 n4.f0, .int .i64 n4.f1, .int .i64 n4.f2, .int .i64 n4.f3, .int .u32 n4.f4.f0, .int .u32 n4.f4.f1, .int .i64 n4.f5, .int .i64 0, .int .i64 0, .int .i64 0, .int .i64 0, .int .u32 0, .int .u32 0, .string ⟨#[]⟩] = W18 at *
        go_wp2_with fail
        exact bodyPost_ret (v := .tuple #[.agg #[.int .i64 n1, .int .i64 n2, .string ⟨#[]⟩, .int .i64 n3, .int .i64 n4.f0, .int .i64 n4.f1, .int .i64 n4.f2, .int .i64 n4.f3, .int .u32 n4.f4.f0, .int .u32 n4.f4.f1, .int .i64 n4.f5, .int .i64 0, .int .i64 0, .int .i64 0, .int .i64 0, .int .u32 0, .int .u32 0, .string ⟨#[]⟩], .int .i64 0]) (results_row rfl rfl rfl X18.out.blk Try.underlying36 rfl (by kernel_rfl)) rfl ⟨by rw [HE.out]; rfl, Keep2.below K18.out (Below.refl w.heap.size w) HT.out HH.out (Nat.le_refl _)⟩
      | false =>
        have HE := Aside0.mk (HO.out.trans (if_pos (.inr (.inr rfl))))
        have HT1 := Aside0.mk (show W15.heap[t]? = some (.cells #[.pointer (some ⟨h, 0, none⟩), .bool false] 77 (0, 0)) from by have := T15.out.blk; rw [hB] at this; exact this)
        have d0 := blk_cell HT1.out 0
        have d1 := blk_cell HT1.out 1
        clear hB HT1
        have CL := Aside0.mk (left_any h m4.rest W15 T15.out.rd)
        rw [hL] at CL
        simp only [List.length_nil] at CL
        clear hL
        replace CL := Aside0.mk (show Calls Try.prog 34 #[.pointer (some ⟨h, 0, none⟩)] W15 (fun e w' => e = .returned (.int .i64 0) ∧ W15 = w') from CL.out)
        go_wp2_with fail
        refine CL.out.mono ?_
        rintro e W16 ⟨rfl, rfl⟩
        clear CL
        try dsimp only
        repeat ((fail_if_success (show Oper.wp _ (Oper.mk _ (Op.load 36 _) _ _ _ _) _ _ _ _)); (first | go_values | go_skip | go_guarded | go_step | go_upon | go_back))
        refine wp_load_row Y15.out.blk rfl rfl Try.underlying36 rfl (by kernel_rfl) ?_
        try go_simp
        go_wp2_with fail
        refine (CR.out W15).mono ?_
        rintro e W17 ⟨rfl, hb⟩
        have X17 := Aside0.mk (X15.out.below hb)
        have Y17 := Aside0.mk (Y15.out.below hb)
        have K17 := Aside0.mk (K15.out.trans (Keep2.of hb))
        have T17 := Aside0.mk (T15.out.below hb)
        clear hb T15 K15 X15 Y15
        clear d0 d1
        try dsimp only
        repeat ((fail_if_success (show Oper.wp _ (Oper.mk none (Op.store _ _ _) _ _ _ _) _ _ _ _)); (first | go_values | go_skip | go_guarded | go_step | go_upon | go_back))
        refine wp_store_row (c' := #[.int .i64 0, .int .i64 0, .string ⟨#[]⟩, .int .i64 0, .int .i64 0, .int .i64 0, .int .i64 0, .int .i64 0, .int .u32 0, .int .u32 0, .int .i64 0, .int .i64 0, .int .i64 0, .int .i64 0, .int .i64 0, .int .u32 0, .int .u32 0, .string ⟨#[]⟩]) X17.out.blk rfl rfl rfl rfl (by kernel_rfl) rfl (by simp [Value.oneCell']) ?_
        have X18 := Aside0.mk (X17.out.row #[.int .i64 0, .int .i64 0, .string ⟨#[]⟩, .int .i64 0, .int .i64 0, .int .i64 0, .int .i64 0, .int .i64 0, .int .u32 0, .int .u32 0, .int .i64 0, .int .i64 0, .int .i64 0, .int .i64 0, .int .i64 0, .int .u32 0, .int .u32 0, .string ⟨#[]⟩] rfl)
        have Y18 := Aside0.mk (Y17.out.farRow NEYX.out #[.int .i64 0, .int .i64 0, .string ⟨#[]⟩, .int .i64 0, .int .i64 0, .int .i64 0, .int .i64 0, .int .i64 0, .int .u32 0, .int .u32 0, .int .i64 0, .int .i64 0, .int .i64 0, .int .i64 0, .int .i64 0, .int .u32 0, .int .u32 0, .string ⟨#[]⟩] : Mine _ (W17.setRow w.heap.size #[.int .i64 0, .int .i64 0, .string ⟨#[]⟩, .int .i64 0, .int .i64 0, .int .i64 0, .int .i64 0, .int .i64 0, .int .u32 0, .int .u32 0, .int .i64 0, .int .i64 0, .int .i64 0, .int .i64 0, .int .i64 0, .int .u32 0, .int .u32 0, .string ⟨#[]⟩]) _ _ _ _ _)
        have T18 := Aside0.mk (T17.out.farRow X17.out #[.int .i64 0, .int .i64 0, .string ⟨#[]⟩, .int .i64 0, .int .i64 0, .int .i64 0, .int .i64 0, .int .i64 0, .int .u32 0, .int .u32 0, .int .i64 0, .int .i64 0, .int .i64 0, .int .i64 0, .int .i64 0, .int .u32 0, .int .u32 0, .string ⟨#[]⟩])
        have K18 := Aside0.mk (K17.out.mineRow X17.out #[.int .i64 0, .int .i64 0, .string ⟨#[]⟩, .int .i64 0, .int .i64 0, .int .i64 0, .int .i64 0, .int .i64 0, .int .u32 0, .int .u32 0, .int .i64 0, .int .i64 0, .int .i64 0, .int .i64 0, .int .i64 0, .int .u32 0, .int .u32 0, .string ⟨#[]⟩])
        clear T17 K17 X17 Y17
        generalize W17.setRow w.heap.size #[.int .i64 0, .int .i64 0, .string ⟨#[]⟩, .int .i64 0, .int .i64 0, .int .i64 0, .int .i64 0, .int .i64 0, .int .u32 0, .int .u32 0, .int .i64 0, .int .i64 0, .int .i64 0, .int .i64 0, .int .i64 0, .int .u32 0, .int .u32 0, .string ⟨#[]⟩] = W18 at *
        go_wp2_with fail
        exact bodyPost_ret (v := .tuple #[.agg #[.int .i64 0, .int .i64 0, .string ⟨#[]⟩, .int .i64 0, .int .i64 0, .int .i64 0, .int .i64 0, .int .i64 0, .int .u32 0, .int .u32 0, .int .i64 0, .int .i64 0, .int .i64 0, .int .i64 0, .int .i64 0, .int .u32 0, .int .u32 0, .string ⟨#[]⟩], .int .i64 171]) (results_row rfl rfl rfl X18.out.blk Try.underlying36 rfl (by kernel_rfl)) rfl ⟨by rw [HE.out]; rfl, Keep2.below K18.out (Below.refl w.heap.size w) HT.out HH.out (Nat.le_refl _)⟩
    · have HE := Aside0.mk (HO.out.trans (if_pos (.inr (.inl (List.length_pos_iff.2 hL)))))
      have HT1 := Aside0.mk (show W15.heap[t]? = some (.cells #[.pointer (some ⟨h, 0, none⟩), .bool false] 77 (0, 0)) from by have := T15.out.blk; rw [hB] at this; exact this)
      have d0 := blk_cell HT1.out 0
      have d1 := blk_cell HT1.out 1
      clear hB HT1
      have CL := Aside0.mk (left_any h m4.rest W15 T15.out.rd)
      have hLi : (0 : Int) < (m4.rest.length : Int) := by have := List.length_pos_iff.2 hL; omega
      clear hL
      generalize (m4.rest.length : Int) = q at *
      go_wp2_with fail
      refine CL.out.mono ?_
      rintro e W16 ⟨rfl, rfl⟩
      clear CL
      try dsimp only
      repeat ((fail_if_success (show Oper.wp _ (Oper.mk none (Op.store _ _ _) _ _ _ _) _ _ _ _)); (first | go_values | go_skip | go_guarded | go_step | go_upon | go_back))
      refine wp_store_row (c' := #[.int .i64 0, .int .i64 0, .string ⟨#[]⟩, .int .i64 0, .int .i64 0, .int .i64 0, .int .i64 0, .int .i64 0, .int .u32 0, .int .u32 0, .int .i64 0, .int .i64 0, .int .i64 0, .int .i64 0, .int .i64 0, .int .u32 0, .int .u32 0, .string ⟨#[]⟩]) X15.out.blk rfl rfl rfl rfl (by kernel_rfl) rfl (by simp [Value.oneCell']) ?_
      have X16 := Aside0.mk (X15.out.row #[.int .i64 0, .int .i64 0, .string ⟨#[]⟩, .int .i64 0, .int .i64 0, .int .i64 0, .int .i64 0, .int .i64 0, .int .u32 0, .int .u32 0, .int .i64 0, .int .i64 0, .int .i64 0, .int .i64 0, .int .i64 0, .int .u32 0, .int .u32 0, .string ⟨#[]⟩] rfl)
      have Y16 := Aside0.mk (Y15.out.farRow NEYX.out #[.int .i64 0, .int .i64 0, .string ⟨#[]⟩, .int .i64 0, .int .i64 0, .int .i64 0, .int .i64 0, .int .i64 0, .int .u32 0, .int .u32 0, .int .i64 0, .int .i64 0, .int .i64 0, .int .i64 0, .int .i64 0, .int .u32 0, .int .u32 0, .string ⟨#[]⟩] : Mine _ (W15.setRow w.heap.size #[.int .i64 0, .int .i64 0, .string ⟨#[]⟩, .int .i64 0, .int .i64 0, .int .i64 0, .int .i64 0, .int .i64 0, .int .u32 0, .int .u32 0, .int .i64 0, .int .i64 0, .int .i64 0, .int .i64 0, .int .i64 0, .int .u32 0, .int .u32 0, .string ⟨#[]⟩]) _ _ _ _ _)
      have T16 := Aside0.mk (T15.out.farRow X15.out #[.int .i64 0, .int .i64 0, .string ⟨#[]⟩, .int .i64 0, .int .i64 0, .int .i64 0, .int .i64 0, .int .i64 0, .int .u32 0, .int .u32 0, .int .i64 0, .int .i64 0, .int .i64 0, .int .i64 0, .int .i64 0, .int .u32 0, .int .u32 0, .string ⟨#[]⟩])
      have K16 := Aside0.mk (K15.out.mineRow X15.out #[.int .i64 0, .int .i64 0, .string ⟨#[]⟩, .int .i64 0, .int .i64 0, .int .i64 0, .int .i64 0, .int .i64 0, .int .u32 0, .int .u32 0, .int .i64 0, .int .i64 0, .int .i64 0, .int .i64 0, .int .i64 0, .int .u32 0, .int .u32 0, .string ⟨#[]⟩])
      clear T15 K15 X15 Y15
      generalize W15.setRow w.heap.size #[.int .i64 0, .int .i64 0, .string ⟨#[]⟩, .int .i64 0, .int .i64 0, .int .i64 0, .int .i64 0, .int .i64 0, .int .u32 0, .int .u32 0, .int .i64 0, .int .i64 0, .int .i64 0, .int .i64 0, .int .i64 0, .int .u32 0, .int .u32 0, .string ⟨#[]⟩] = W16 at *
      go_wp2_with fail
      exact bodyPost_ret (v := .tuple #[.agg #[.int .i64 0, .int .i64 0, .string ⟨#[]⟩, .int .i64 0, .int .i64 0, .int .i64 0, .int .i64 0, .int .i64 0, .int .u32 0, .int .u32 0, .int .i64 0, .int .i64 0, .int .i64 0, .int .i64 0, .int .i64 0, .int .u32 0, .int .u32 0, .string ⟨#[]⟩], .int .i64 171]) (results_row rfl rfl rfl X16.out.blk Try.underlying36 rfl (by kernel_rfl)) rfl ⟨by rw [HE.out]; rfl, Keep2.below K16.out (Below.refl w.heap.size w) HT.out HH.out (Nat.le_refl _)⟩
set_option maxHeartbeats 4000000 in
theorem dec_3 (A : Option Addr) (c : Nat) (l : List Int) (w : World) (hC : Kd.C (Kd.int .u8) w A l.length l) (hc : l.length ≤ c) (hl : l.length < 140737488355328) (hby : bytes l) (n1 : Int) (m1 : Mc) (q1 : numM 9 (⟨l, false⟩) = (n1, m1)) (n2 : Int) (m2 : Mc) (q2 : numM 255 m1 = (n2, m2)) (n3 : Int) (m3 : Mc) (q3 : numM 255 m2 = (n3, m3)) (n4 : Int) (m4 : Mc) (q4 : numM 255 m3 = (n4, m4)) (n5 : Int) (m5 : Mc) (q5 : numM 255 m4 = (n5, m5)) (n6 : Int) (m6 : Mc) (q6 : numM 255 m5 = (n6, m6)) (n7 : Int) (m7 : Mc) (q7 : numM wideW m6 = (n7, m7)) (n8 : Int) (m8 : Mc) (q8 : numM wideW m7 = (n8, m8)) (n9 : ByteArray) (m9 : Mc) (q9 : textM 40 m8 = (n9, m9)) (hp : partK n1 = 3) (rb : Bool) (hrb : rightQ ⟨n1, n2, ⟨#[]⟩, 0, zRu, n3, n4, n5, n6, n7, n8, n9⟩ = rb) (OUT : Rq × Int) (hO : OUT = if m9.bad = true ∨ 0 < m9.rest.length ∨ rb = false then (zRq, 171) else (⟨n1, n2, ⟨#[]⟩, 0, zRu, n3, n4, n5, n6, n7, n8, n9⟩, 0)) :
    Calls Try.prog 12 #[.slice A l.length c] w fun e w' => e = .returned (.tuple #[.agg (rqVals OUT.1).toArray, .int .i64 OUT.2]) ∧ Below w.heap.size w w' := by
  have HO := Aside0.mk hO
  clear hO
  have hb0 : bytes (Mc.mk l false).rest := hby
  have hd1 := numM_bound 9 ⟨l, false⟩ hb0 (by decide)
  have hb1 := numM_bytes 9 ⟨l, false⟩ hb0
  rw [q1] at hd1 hb1
  simp only [] at hd1 hb1
  have C1 := Aside0.mk (fun (t h : Nat) (W : World) (k : TK W t h (⟨l, false⟩)) => tnum_any t h ⟨l, false⟩ 9 (by decide) (by decide) W k)
  rw [q1] at C1
  simp only [] at C1
  have hd2 := numM_bound 255 m1 hb1 (by decide)
  have hb2 := numM_bytes 255 m1 hb1
  rw [q2] at hd2 hb2
  simp only [] at hd2 hb2
  have C2 := Aside0.mk (fun (t h : Nat) (W : World) (k : TK W t h (m1)) => tnum_any t h m1 255 (by decide) (by decide) W k)
  rw [q2] at C2
  simp only [] at C2
  have hd3 := numM_bound 255 m2 hb2 (by decide)
  have hb3 := numM_bytes 255 m2 hb2
  rw [q3] at hd3 hb3
  simp only [] at hd3 hb3
  have C3 := Aside0.mk (fun (t h : Nat) (W : World) (k : TK W t h (m2)) => tnum_any t h m2 255 (by decide) (by decide) W k)
  rw [q3] at C3
  simp only [] at C3
  have hd4 := numM_bound 255 m3 hb3 (by decide)
  have hb4 := numM_bytes 255 m3 hb3
  rw [q4] at hd4 hb4
  simp only [] at hd4 hb4
  have C4 := Aside0.mk (fun (t h : Nat) (W : World) (k : TK W t h (m3)) => tnum_any t h m3 255 (by decide) (by decide) W k)
  rw [q4] at C4
  simp only [] at C4
  have hd5 := numM_bound 255 m4 hb4 (by decide)
  have hb5 := numM_bytes 255 m4 hb4
  rw [q5] at hd5 hb5
  simp only [] at hd5 hb5
  have C5 := Aside0.mk (fun (t h : Nat) (W : World) (k : TK W t h (m4)) => tnum_any t h m4 255 (by decide) (by decide) W k)
  rw [q5] at C5
  simp only [] at C5
  have hd6 := numM_bound 255 m5 hb5 (by decide)
  have hb6 := numM_bytes 255 m5 hb5
  rw [q6] at hd6 hb6
  simp only [] at hd6 hb6
  have C6 := Aside0.mk (fun (t h : Nat) (W : World) (k : TK W t h (m5)) => tnum_any t h m5 255 (by decide) (by decide) W k)
  rw [q6] at C6
  simp only [] at C6
  have hd7 := numM_bound wideW m6 hb6 (by decide)
  have hb7 := numM_bytes wideW m6 hb6
  rw [q7] at hd7 hb7
  simp only [] at hd7 hb7
  have C7 := Aside0.mk (fun (t h : Nat) (W : World) (k : TK W t h (m6)) => tnum_any t h m6 wideW (by decide) (by decide) W k)
  rw [q7] at C7
  simp only [] at C7
  have hd8 := numM_bound wideW m7 hb7 (by decide)
  have hb8 := numM_bytes wideW m7 hb7
  rw [q8] at hd8 hb8
  simp only [] at hd8 hb8
  have C8 := Aside0.mk (fun (t h : Nat) (W : World) (k : TK W t h (m7)) => tnum_any t h m7 wideW (by decide) (by decide) W k)
  rw [q8] at C8
  simp only [] at C8
  have hb9 := textM_bytes 40 m8 hb8
  rw [q9] at hb9
  simp only [] at hb9
  have C9 := Aside0.mk (fun (t h : Nat) (W : World) (k : TK W t h (m8)) => ttext_any t h m8 W k)
  rw [q9] at C9
  simp only [] at C9
  have hw : wideW = 4294967295 := rfl
  rw [hw] at hd7 hd8 C7 C8
  have e7 : n7 % 4294967296 = n7 := Int.emod_eq_of_lt hd7.1 (by omega)
  have e8 : n8 % 4294967296 = n8 := Int.emod_eq_of_lt hd8.1 (by omega)
  have CR := Aside0.mk (fun W => right_any ⟨n1, n2, ⟨#[]⟩, 0, zRu, n3, n4, n5, n6, n7, n8, n9⟩ ⟨okRu0, hd7, hd8⟩ W)
  rw [hrb] at CR
  unfold zRu at CR
  simp only [] at CR
  have CP := Aside0.mk (fun W => counts_any n1 W)
  rw [hp] at CP
  clear hb0 hb1 hb2 hb3 hb4 hb5 hb6 hb7 hb8 hb9 hd1 hd2 hd3 hd4 hd5 hd6 hd7 hd8 q1 q2 q3 q4 q5 q6 q7 q8 q9 hw hrb
  have hC0 := Aside0.mk hC
  clear hC
  go_enter Try.func12, Try.ntmps12
  have hbn := Aside0.mk ((Below.refl w.heap.size w).alloc (Nat.le_refl _) (.cells #[.int .i64 0, .int .i64 0, .string ⟨#[]⟩, .int .i64 0, .int .i64 0, .int .i64 0, .int .i64 0, .int .i64 0, .int .u32 0, .int .u32 0, .int .i64 0, .int .i64 0, .int .i64 0, .int .i64 0, .int .i64 0, .int .u32 0, .int .u32 0, .string ⟨#[]⟩] 36))
  have hbl := Aside0.mk (blk_new w (.cells #[.int .i64 0, .int .i64 0, .string ⟨#[]⟩, .int .i64 0, .int .i64 0, .int .i64 0, .int .i64 0, .int .i64 0, .int .u32 0, .int .u32 0, .int .i64 0, .int .i64 0, .int .i64 0, .int .i64 0, .int .i64 0, .int .u32 0, .int .u32 0, .string ⟨#[]⟩] 36))
  try dsimp only
  repeat ((fail_if_success (show Code.wp _ (Code.seq (Code.region 1 _ _) _) _ _ _)); (first | go_values | go_skip | go_guarded | go_step | go_upon | go_back))
  have hC1 := Aside0.mk (Kd.C_below hC0.out ((Below.refl w.heap.size w).alloc (Nat.le_refl _) (.cells #[.int .i64 0, .int .i64 0, .string ⟨#[]⟩, .int .i64 0, .int .i64 0, .int .i64 0, .int .i64 0, .int .i64 0, .int .u32 0, .int .u32 0, .int .i64 0, .int .i64 0, .int .i64 0, .int .i64 0, .int .i64 0, .int .u32 0, .int .u32 0, .string ⟨#[]⟩] 36)))
  have hs := Aside0.mk (show w.heap.size < (w.alloc (.cells #[.int .i64 0, .int .i64 0, .string ⟨#[]⟩, .int .i64 0, .int .i64 0, .int .i64 0, .int .i64 0, .int .i64 0, .int .u32 0, .int .u32 0, .int .i64 0, .int .i64 0, .int .i64 0, .int .i64 0, .int .i64 0, .int .u32 0, .int .u32 0, .string ⟨#[]⟩] 36)).heap.size from by simp)
  clear hC0
  generalize (w.alloc (.cells #[.int .i64 0, .int .i64 0, .string ⟨#[]⟩, .int .i64 0, .int .i64 0, .int .i64 0, .int .i64 0, .int .i64 0, .int .u32 0, .int .u32 0, .int .i64 0, .int .i64 0, .int .i64 0, .int .i64 0, .int .i64 0, .int .u32 0, .int .u32 0, .string ⟨#[]⟩] 36)) = V0 at *
  go_wp2_with fail
  refine (open_any A c l V0 hC1.out hc hl).mono ?_
  rintro e V1 ⟨h, rfl, hrd, hgh, hgl, hb⟩
  have hsz := hb.size
  have s0 := hs.out
  have hb1 := Aside0.mk (hbn.out.trans (hb.mono (Nat.le_of_lt s0)))
  have hx0 := Aside0.mk (blk_below hbl.out hb)
  clear hC1 hb hbn hbl
  try dsimp only
  repeat ((fail_if_success (show Code.wp _ (Code.seq (Code.region 2 _ _) _) _ _ _)); (first | go_values | go_skip | go_guarded | go_step | go_upon | go_back))
  have T0 := Aside0.mk (show TK (V1.alloc (.cells #[.pointer (some ⟨h, 0, none⟩), .bool false] 77)) V1.heap.size h ⟨l, false⟩ from ⟨blk_new V1 _, hrd.below ((Below.refl V1.heap.size V1).alloc (Nat.le_refl _) _), hby⟩)
  have hbm := (Below.refl V1.heap.size V1).alloc (Nat.le_refl _) (.cells #[.pointer (some ⟨h, 0, none⟩), .bool false] 77)
  have X0 := Aside0.mk (show Mine w (V1.alloc (.cells #[.pointer (some ⟨h, 0, none⟩), .bool false] 77)) V1.heap.size h w.heap.size #[.int .i64 0, .int .i64 0, .string ⟨#[]⟩, .int .i64 0, .int .i64 0, .int .i64 0, .int .i64 0, .int .i64 0, .int .u32 0, .int .u32 0, .int .i64 0, .int .i64 0, .int .i64 0, .int .i64 0, .int .i64 0, .int .u32 0, .int .u32 0, .string ⟨#[]⟩] 36 from ⟨blk_below hx0.out hbm, Nat.le_refl _, rfl, by omega, by omega⟩)
  have K0 := Aside0.mk (show Keep2 V1.heap.size h w (V1.alloc (.cells #[.pointer (some ⟨h, 0, none⟩), .bool false] 77)) from Keep2.of (hb1.out.trans (hbm.mono (by omega))))
  have HT := Aside0.mk (show w.heap.size ≤ V1.heap.size from by omega)
  have HH := Aside0.mk (show w.heap.size ≤ h from by omega)
  clear hbm hx0 hb1 hs s0 hsz hgl hgh hrd hby
  generalize V1.alloc (.cells #[.pointer (some ⟨h, 0, none⟩), .bool false] 77) = W0 at *
  generalize V1.heap.size = t at *
  replace C1 := Aside0.mk (C1.out t h)
  replace C2 := Aside0.mk (C2.out t h)
  replace C3 := Aside0.mk (C3.out t h)
  replace C4 := Aside0.mk (C4.out t h)
  replace C5 := Aside0.mk (C5.out t h)
  replace C6 := Aside0.mk (C6.out t h)
  replace C7 := Aside0.mk (C7.out t h)
  replace C8 := Aside0.mk (C8.out t h)
  replace C9 := Aside0.mk (C9.out t h)
  go_wp2_with fail
  refine (C1.out _ T0.out).mono ?_
  rintro e W1 ⟨rfl, ht, hk⟩
  have X1 := Aside0.mk (X0.out.keep hk)
  have K1 := Aside0.mk (K0.out.trans hk)
  have T1 := Aside0.mk ht
  clear ht hk C1 T0 K0 X0
  go_wp2_with fail
  refine (C2.out _ T1.out).mono ?_
  rintro e W2 ⟨rfl, ht, hk⟩
  have X2 := Aside0.mk (X1.out.keep hk)
  have K2 := Aside0.mk (K1.out.trans hk)
  have T2 := Aside0.mk ht
  clear ht hk C2 T1 K1 X1
  have hbn := (Below.refl W2.heap.size W2).alloc (Nat.le_refl _) (.cells #[.int .i64 0, .int .i64 0, .string ⟨#[]⟩, .int .i64 0, .int .i64 0, .int .i64 0, .int .i64 0, .int .i64 0, .int .u32 0, .int .u32 0, .int .i64 0, .int .i64 0, .int .i64 0, .int .i64 0, .int .i64 0, .int .u32 0, .int .u32 0, .string ⟨#[]⟩] 36)
  have Y3 := Aside0.mk (mine_new K2.out T2.out.lt #[.int .i64 0, .int .i64 0, .string ⟨#[]⟩, .int .i64 0, .int .i64 0, .int .i64 0, .int .i64 0, .int .i64 0, .int .u32 0, .int .u32 0, .int .i64 0, .int .i64 0, .int .i64 0, .int .i64 0, .int .i64 0, .int .u32 0, .int .u32 0, .string ⟨#[]⟩] 36 rfl)
  have NEYX := Aside0.mk (show W2.heap.size ≠ w.heap.size from by have := blk_lt X2.out.blk; omega)
  have X3 := Aside0.mk (X2.out.below hbn)
  have T3 := Aside0.mk (T2.out.below hbn)
  have K3 := Aside0.mk (K2.out.alloc (.cells #[.int .i64 0, .int .i64 0, .string ⟨#[]⟩, .int .i64 0, .int .i64 0, .int .i64 0, .int .i64 0, .int .i64 0, .int .u32 0, .int .u32 0, .int .i64 0, .int .i64 0, .int .i64 0, .int .i64 0, .int .i64 0, .int .u32 0, .int .u32 0, .string ⟨#[]⟩] 36))
  clear hbn T2 K2 X2
  try dsimp only
  repeat ((fail_if_success (show Oper.wp _ (Oper.mk none (Op.store _ _ _) _ _ _ _) _ _ _ _)); (first | go_values | go_skip | go_guarded | go_step | go_upon | go_back))
  generalize (W2.alloc (.cells #[.int .i64 0, .int .i64 0, .string ⟨#[]⟩, .int .i64 0, .int .i64 0, .int .i64 0, .int .i64 0, .int .i64 0, .int .u32 0, .int .u32 0, .int .i64 0, .int .i64 0, .int .i64 0, .int .i64 0, .int .i64 0, .int .u32 0, .int .u32 0, .string ⟨#[]⟩] 36)) = W3 at *
  generalize W2.heap.size = b1 at *
  refine wp_store_row (c' := #[.int .i64 n1, .int .i64 n2, .string ⟨#[]⟩, .int .i64 0, .int .i64 0, .int .i64 0, .int .i64 0, .int .i64 0, .int .u32 0, .int .u32 0, .int .i64 0, .int .i64 0, .int .i64 0, .int .i64 0, .int .i64 0, .int .u32 0, .int .u32 0, .string ⟨#[]⟩]) Y3.out.blk rfl rfl rfl rfl (by kernel_rfl) rfl (by simp [Value.oneCell']) ?_
  have Y4 := Aside0.mk (Y3.out.row #[.int .i64 n1, .int .i64 n2, .string ⟨#[]⟩, .int .i64 0, .int .i64 0, .int .i64 0, .int .i64 0, .int .i64 0, .int .u32 0, .int .u32 0, .int .i64 0, .int .i64 0, .int .i64 0, .int .i64 0, .int .i64 0, .int .u32 0, .int .u32 0, .string ⟨#[]⟩] rfl)
  have X4 := Aside0.mk (X3.out.farRow (fun e => NEYX.out e.symm) #[.int .i64 n1, .int .i64 n2, .string ⟨#[]⟩, .int .i64 0, .int .i64 0, .int .i64 0, .int .i64 0, .int .i64 0, .int .u32 0, .int .u32 0, .int .i64 0, .int .i64 0, .int .i64 0, .int .i64 0, .int .i64 0, .int .u32 0, .int .u32 0, .string ⟨#[]⟩] : Mine _ (W3.setRow b1 #[.int .i64 n1, .int .i64 n2, .string ⟨#[]⟩, .int .i64 0, .int .i64 0, .int .i64 0, .int .i64 0, .int .i64 0, .int .u32 0, .int .u32 0, .int .i64 0, .int .i64 0, .int .i64 0, .int .i64 0, .int .i64 0, .int .u32 0, .int .u32 0, .string ⟨#[]⟩]) _ _ _ _ _)
  have T4 := Aside0.mk (T3.out.farRow Y3.out #[.int .i64 n1, .int .i64 n2, .string ⟨#[]⟩, .int .i64 0, .int .i64 0, .int .i64 0, .int .i64 0, .int .i64 0, .int .u32 0, .int .u32 0, .int .i64 0, .int .i64 0, .int .i64 0, .int .i64 0, .int .i64 0, .int .u32 0, .int .u32 0, .string ⟨#[]⟩])
  have K4 := Aside0.mk (K3.out.mineRow Y3.out #[.int .i64 n1, .int .i64 n2, .string ⟨#[]⟩, .int .i64 0, .int .i64 0, .int .i64 0, .int .i64 0, .int .i64 0, .int .u32 0, .int .u32 0, .int .i64 0, .int .i64 0, .int .i64 0, .int .i64 0, .int .i64 0, .int .u32 0, .int .u32 0, .string ⟨#[]⟩])
  clear T3 K3 X3 Y3
  generalize W3.setRow b1 #[.int .i64 n1, .int .i64 n2, .string ⟨#[]⟩, .int .i64 0, .int .i64 0, .int .i64 0, .int .i64 0, .int .i64 0, .int .u32 0, .int .u32 0, .int .i64 0, .int .i64 0, .int .i64 0, .int .i64 0, .int .i64 0, .int .u32 0, .int .u32 0, .string ⟨#[]⟩] = W4 at *
  try dsimp only
  repeat ((fail_if_success (show Code.wp _ (Code.seq (Code.region 3 _ _) _) _ _ _)); (first | go_values | go_skip | go_guarded | go_step | go_upon | go_back))
  have k0 := blk_cell Y4.out.blk 0
  have f0 := blk_frozen Y4.out.blk 0
  go_wp2_with fail
  refine (CP.out W4).mono ?_
  rintro e W5 ⟨rfl, hb⟩
  have X5 := Aside0.mk (X4.out.below hb)
  have Y5 := Aside0.mk (Y4.out.below hb)
  have K5 := Aside0.mk (K4.out.trans (Keep2.of hb))
  have T5 := Aside0.mk (T4.out.below hb)
  clear hb T4 K4 X4 Y4
  clear k0 f0 CP
  go_wp2_with fail
  refine (C3.out _ T5.out).mono ?_
  rintro e W6 ⟨rfl, ht, hk⟩
  have X6 := Aside0.mk (X5.out.keep hk)
  have Y6 := Aside0.mk (Y5.out.keep hk)
  have K6 := Aside0.mk (K5.out.trans hk)
  have T6 := Aside0.mk ht
  clear ht hk C3 T5 K5 X5 Y5
  go_wp2_with fail
  refine (C4.out _ T6.out).mono ?_
  rintro e W7 ⟨rfl, ht, hk⟩
  have X7 := Aside0.mk (X6.out.keep hk)
  have Y7 := Aside0.mk (Y6.out.keep hk)
  have K7 := Aside0.mk (K6.out.trans hk)
  have T7 := Aside0.mk ht
  clear ht hk C4 T6 K6 X6 Y6
  go_wp2_with fail
  refine (C5.out _ T7.out).mono ?_
  rintro e W8 ⟨rfl, ht, hk⟩
  have X8 := Aside0.mk (X7.out.keep hk)
  have Y8 := Aside0.mk (Y7.out.keep hk)
  have K8 := Aside0.mk (K7.out.trans hk)
  have T8 := Aside0.mk ht
  clear ht hk C5 T7 K7 X7 Y7
  go_wp2_with fail
  refine (C6.out _ T8.out).mono ?_
  rintro e W9 ⟨rfl, ht, hk⟩
  have X9 := Aside0.mk (X8.out.keep hk)
  have Y9 := Aside0.mk (Y8.out.keep hk)
  have K9 := Aside0.mk (K8.out.trans hk)
  have T9 := Aside0.mk ht
  clear ht hk C6 T8 K8 X8 Y8
  have hbn := (Below.refl W9.heap.size W9).alloc (Nat.le_refl _) (.cells #[.int .i64 0, .int .i64 0, .int .i64 0, .int .i64 0, .int .u32 0, .int .u32 0, .string ⟨#[]⟩] 34)
  have Q10 := Aside0.mk (mine_new K9.out T9.out.lt #[.int .i64 0, .int .i64 0, .int .i64 0, .int .i64 0, .int .u32 0, .int .u32 0, .string ⟨#[]⟩] 34 rfl)
  have NEQX := Aside0.mk (show W9.heap.size ≠ w.heap.size from by have := blk_lt X9.out.blk; omega)
  have NEQY := Aside0.mk (show W9.heap.size ≠ b1 from by have := blk_lt Y9.out.blk; omega)
  have X10 := Aside0.mk (X9.out.below hbn)
  have Y10 := Aside0.mk (Y9.out.below hbn)
  have T10 := Aside0.mk (T9.out.below hbn)
  have K10 := Aside0.mk (K9.out.alloc (.cells #[.int .i64 0, .int .i64 0, .int .i64 0, .int .i64 0, .int .u32 0, .int .u32 0, .string ⟨#[]⟩] 34))
  clear hbn T9 K9 X9 Y9
  try dsimp only
  repeat ((fail_if_success (show Oper.wp _ (Oper.mk none (Op.store _ _ _) _ _ _ _) _ _ _ _)); (first | go_values | go_skip | go_guarded | go_step | go_upon | go_back))
  generalize (W9.alloc (.cells #[.int .i64 0, .int .i64 0, .int .i64 0, .int .i64 0, .int .u32 0, .int .u32 0, .string ⟨#[]⟩] 34)) = W10 at *
  generalize W9.heap.size = b2 at *
  refine wp_store_row (c' := #[.int .i64 n3, .int .i64 n4, .int .i64 n5, .int .i64 n6, .int .u32 0, .int .u32 0, .string ⟨#[]⟩]) Q10.out.blk rfl rfl rfl rfl (by kernel_rfl) rfl (by simp [Value.oneCell']) ?_
  have Q11 := Aside0.mk (Q10.out.row #[.int .i64 n3, .int .i64 n4, .int .i64 n5, .int .i64 n6, .int .u32 0, .int .u32 0, .string ⟨#[]⟩] rfl)
  have X11 := Aside0.mk (X10.out.farRow (fun e => NEQX.out e.symm) #[.int .i64 n3, .int .i64 n4, .int .i64 n5, .int .i64 n6, .int .u32 0, .int .u32 0, .string ⟨#[]⟩] : Mine _ (W10.setRow b2 #[.int .i64 n3, .int .i64 n4, .int .i64 n5, .int .i64 n6, .int .u32 0, .int .u32 0, .string ⟨#[]⟩]) _ _ _ _ _)
  have Y11 := Aside0.mk (Y10.out.farRow (fun e => NEQY.out e.symm) #[.int .i64 n3, .int .i64 n4, .int .i64 n5, .int .i64 n6, .int .u32 0, .int .u32 0, .string ⟨#[]⟩] : Mine _ (W10.setRow b2 #[.int .i64 n3, .int .i64 n4, .int .i64 n5, .int .i64 n6, .int .u32 0, .int .u32 0, .string ⟨#[]⟩]) _ _ _ _ _)
  have T11 := Aside0.mk (T10.out.farRow Q10.out #[.int .i64 n3, .int .i64 n4, .int .i64 n5, .int .i64 n6, .int .u32 0, .int .u32 0, .string ⟨#[]⟩])
  have K11 := Aside0.mk (K10.out.mineRow Q10.out #[.int .i64 n3, .int .i64 n4, .int .i64 n5, .int .i64 n6, .int .u32 0, .int .u32 0, .string ⟨#[]⟩])
  clear T10 K10 X10 Y10 Q10
  generalize W10.setRow b2 #[.int .i64 n3, .int .i64 n4, .int .i64 n5, .int .i64 n6, .int .u32 0, .int .u32 0, .string ⟨#[]⟩] = W11 at *
  try dsimp only
  repeat ((fail_if_success (show Code.wp _ (Code.seq (Code.region 10 _ _) _) _ _ _)); (first | go_values | go_skip | go_guarded | go_step | go_upon | go_back))
  go_wp2_with fail
  refine (C7.out _ T11.out).mono ?_
  rintro e W12 ⟨rfl, ht, hk⟩
  have X12 := Aside0.mk (X11.out.keep hk)
  have Y12 := Aside0.mk (Y11.out.keep hk)
  have Q12 := Aside0.mk (Q11.out.keep hk)
  have K12 := Aside0.mk (K11.out.trans hk)
  have T12 := Aside0.mk ht
  clear ht hk C7 T11 K11 X11 Y11 Q11
  go_wp2_with fail
  refine (C8.out _ T12.out).mono ?_
  rintro e W13 ⟨rfl, ht, hk⟩
  have X13 := Aside0.mk (X12.out.keep hk)
  have Y13 := Aside0.mk (Y12.out.keep hk)
  have Q13 := Aside0.mk (Q12.out.keep hk)
  have K13 := Aside0.mk (K12.out.trans hk)
  have T13 := Aside0.mk ht
  clear ht hk C8 T12 K12 X12 Y12 Q12
  have k4 := blk_cell Q13.out.blk 4
  have k5 := blk_cell Q13.out.blk 5
  have f4 := blk_frozen Q13.out.blk 4
  have f5 := blk_frozen Q13.out.blk 5
  try dsimp only
  repeat ((fail_if_success (show Code.wp _ (Code.seq (Code.region 11 _ _) _) _ _ _)); (first | go_values | go_skip | go_guarded | go_step | go_upon | go_back))
  have Q14 := Aside0.mk (Q13.out.put 4 (.int .u32 n7) rfl #[.int .i64 n3, .int .i64 n4, .int .i64 n5, .int .i64 n6, .int .u32 n7, .int .u32 0, .string ⟨#[]⟩] (by simp) rfl)
  have X14 := Aside0.mk (X13.out.far (fun e => NEQX.out e.symm) 4 (.int .u32 n7) : Mine _ (W13.setCell ⟨b2, 4, none⟩ (.int .u32 n7)) _ _ _ _ _)
  have Y14 := Aside0.mk (Y13.out.far (fun e => NEQY.out e.symm) 4 (.int .u32 n7) : Mine _ (W13.setCell ⟨b2, 4, none⟩ (.int .u32 n7)) _ _ _ _ _)
  have T14 := Aside0.mk (T13.out.far Q13.out 4 (.int .u32 n7))
  have K14 := Aside0.mk (K13.out.mine Q13.out 4 (.int .u32 n7))
  clear T13 K13 X13 Y13 Q13
  generalize (W13.setCell ⟨b2, 4, none⟩ (.int .u32 n7)) = W14 at *
  have Q15 := Aside0.mk (Q14.out.put 5 (.int .u32 n8) rfl #[.int .i64 n3, .int .i64 n4, .int .i64 n5, .int .i64 n6, .int .u32 n7, .int .u32 n8, .string ⟨#[]⟩] (by simp) rfl)
  have X15 := Aside0.mk (X14.out.far (fun e => NEQX.out e.symm) 5 (.int .u32 n8) : Mine _ (W14.setCell ⟨b2, 5, none⟩ (.int .u32 n8)) _ _ _ _ _)
  have Y15 := Aside0.mk (Y14.out.far (fun e => NEQY.out e.symm) 5 (.int .u32 n8) : Mine _ (W14.setCell ⟨b2, 5, none⟩ (.int .u32 n8)) _ _ _ _ _)
  have T15 := Aside0.mk (T14.out.far Q14.out 5 (.int .u32 n8))
  have K15 := Aside0.mk (K14.out.mine Q14.out 5 (.int .u32 n8))
  clear T14 K14 X14 Y14 Q14
  generalize (W14.setCell ⟨b2, 5, none⟩ (.int .u32 n8)) = W15 at *
  clear k4 f4 k5 f5
  go_wp2_with fail
  refine (C9.out _ T15.out).mono ?_
  rintro e W16 ⟨rfl, ht, hk⟩
  have X16 := Aside0.mk (X15.out.keep hk)
  have Y16 := Aside0.mk (Y15.out.keep hk)
  have Q16 := Aside0.mk (Q15.out.keep hk)
  have K16 := Aside0.mk (K15.out.trans hk)
  have T16 := Aside0.mk ht
  clear ht hk C9 T15 K15 X15 Y15 Q15
  have k6 := blk_cell Q16.out.blk 6
  have f6 := blk_frozen Q16.out.blk 6
  try dsimp only
  repeat ((fail_if_success (show Code.wp _ (Code.region 12 _ _) _ _ _)); (first | go_values | go_skip | go_guarded | go_step | go_upon | go_back))
  have Q17 := Aside0.mk (Q16.out.put 6 (.string n9) rfl #[.int .i64 n3, .int .i64 n4, .int .i64 n5, .int .i64 n6, .int .u32 n7, .int .u32 n8, .string n9] (by simp) rfl)
  have X17 := Aside0.mk (X16.out.far (fun e => NEQX.out e.symm) 6 (.string n9) : Mine _ (W16.setCell ⟨b2, 6, none⟩ (.string n9)) _ _ _ _ _)
  have Y17 := Aside0.mk (Y16.out.far (fun e => NEQY.out e.symm) 6 (.string n9) : Mine _ (W16.setCell ⟨b2, 6, none⟩ (.string n9)) _ _ _ _ _)
  have T17 := Aside0.mk (T16.out.far Q16.out 6 (.string n9))
  have K17 := Aside0.mk (K16.out.mine Q16.out 6 (.string n9))
  clear T16 K16 X16 Y16 Q16
  generalize (W16.setCell ⟨b2, 6, none⟩ (.string n9)) = W17 at *
  clear k6 f6
  have z0 := blk_cell Q17.out.blk 0
  have z1 := blk_cell Q17.out.blk 1
  have z2 := blk_cell Q17.out.blk 2
  have z3 := blk_cell Q17.out.blk 3
  have z4 := blk_cell Q17.out.blk 4
  have z5 := blk_cell Q17.out.blk 5
  have z6 := blk_cell Q17.out.blk 6
  have k11 := blk_cell Y17.out.blk 11
  have k12 := blk_cell Y17.out.blk 12
  have k13 := blk_cell Y17.out.blk 13
  have k14 := blk_cell Y17.out.blk 14
  have k15 := blk_cell Y17.out.blk 15
  have k16 := blk_cell Y17.out.blk 16
  have k17 := blk_cell Y17.out.blk 17
  have f11 := blk_frozen Y17.out.blk 11
  have f12 := blk_frozen Y17.out.blk 12
  have f13 := blk_frozen Y17.out.blk 13
  have f14 := blk_frozen Y17.out.blk 14
  have f15 := blk_frozen Y17.out.blk 15
  have f16 := blk_frozen Y17.out.blk 16
  have f17 := blk_frozen Y17.out.blk 17
  try dsimp only
  repeat ((fail_if_success (show Code.wp _ (Code.seq (Code.region 13 _ _) _) _ _ _)); (first | go_values | go_skip | go_guarded | go_step | go_upon | go_back))
  clear z0 z1 z2 z3 z4 z5 z6
  have Y18 := Aside0.mk (Y17.out.put 11 (.int .i64 n3) rfl #[.int .i64 n1, .int .i64 n2, .string ⟨#[]⟩, .int .i64 0, .int .i64 0, .int .i64 0, .int .i64 0, .int .i64 0, .int .u32 0, .int .u32 0, .int .i64 0, .int .i64 n3, .int .i64 0, .int .i64 0, .int .i64 0, .int .u32 0, .int .u32 0, .string ⟨#[]⟩] (by simp) rfl)
  have X18 := Aside0.mk (X17.out.far (fun e => NEYX.out e.symm) 11 (.int .i64 n3) : Mine _ (W17.setCell ⟨b1, 11, none⟩ (.int .i64 n3)) _ _ _ _ _)
  have Q18 := Aside0.mk (Q17.out.far NEQY.out 11 (.int .i64 n3) : Mine _ (W17.setCell ⟨b1, 11, none⟩ (.int .i64 n3)) _ _ _ _ _)
  have T18 := Aside0.mk (T17.out.far Y17.out 11 (.int .i64 n3))
  have K18 := Aside0.mk (K17.out.mine Y17.out 11 (.int .i64 n3))
  clear T17 K17 X17 Y17 Q17
  generalize (W17.setCell ⟨b1, 11, none⟩ (.int .i64 n3)) = W18 at *
  have Y19 := Aside0.mk (Y18.out.put 12 (.int .i64 n4) rfl #[.int .i64 n1, .int .i64 n2, .string ⟨#[]⟩, .int .i64 0, .int .i64 0, .int .i64 0, .int .i64 0, .int .i64 0, .int .u32 0, .int .u32 0, .int .i64 0, .int .i64 n3, .int .i64 n4, .int .i64 0, .int .i64 0, .int .u32 0, .int .u32 0, .string ⟨#[]⟩] (by simp) rfl)
  have X19 := Aside0.mk (X18.out.far (fun e => NEYX.out e.symm) 12 (.int .i64 n4) : Mine _ (W18.setCell ⟨b1, 12, none⟩ (.int .i64 n4)) _ _ _ _ _)
  have Q19 := Aside0.mk (Q18.out.far NEQY.out 12 (.int .i64 n4) : Mine _ (W18.setCell ⟨b1, 12, none⟩ (.int .i64 n4)) _ _ _ _ _)
  have T19 := Aside0.mk (T18.out.far Y18.out 12 (.int .i64 n4))
  have K19 := Aside0.mk (K18.out.mine Y18.out 12 (.int .i64 n4))
  clear T18 K18 X18 Y18 Q18
  generalize (W18.setCell ⟨b1, 12, none⟩ (.int .i64 n4)) = W19 at *
  have Y20 := Aside0.mk (Y19.out.put 13 (.int .i64 n5) rfl #[.int .i64 n1, .int .i64 n2, .string ⟨#[]⟩, .int .i64 0, .int .i64 0, .int .i64 0, .int .i64 0, .int .i64 0, .int .u32 0, .int .u32 0, .int .i64 0, .int .i64 n3, .int .i64 n4, .int .i64 n5, .int .i64 0, .int .u32 0, .int .u32 0, .string ⟨#[]⟩] (by simp) rfl)
  have X20 := Aside0.mk (X19.out.far (fun e => NEYX.out e.symm) 13 (.int .i64 n5) : Mine _ (W19.setCell ⟨b1, 13, none⟩ (.int .i64 n5)) _ _ _ _ _)
  have Q20 := Aside0.mk (Q19.out.far NEQY.out 13 (.int .i64 n5) : Mine _ (W19.setCell ⟨b1, 13, none⟩ (.int .i64 n5)) _ _ _ _ _)
  have T20 := Aside0.mk (T19.out.far Y19.out 13 (.int .i64 n5))
  have K20 := Aside0.mk (K19.out.mine Y19.out 13 (.int .i64 n5))
  clear T19 K19 X19 Y19 Q19
  generalize (W19.setCell ⟨b1, 13, none⟩ (.int .i64 n5)) = W20 at *
  have Y21 := Aside0.mk (Y20.out.put 14 (.int .i64 n6) rfl #[.int .i64 n1, .int .i64 n2, .string ⟨#[]⟩, .int .i64 0, .int .i64 0, .int .i64 0, .int .i64 0, .int .i64 0, .int .u32 0, .int .u32 0, .int .i64 0, .int .i64 n3, .int .i64 n4, .int .i64 n5, .int .i64 n6, .int .u32 0, .int .u32 0, .string ⟨#[]⟩] (by simp) rfl)
  have X21 := Aside0.mk (X20.out.far (fun e => NEYX.out e.symm) 14 (.int .i64 n6) : Mine _ (W20.setCell ⟨b1, 14, none⟩ (.int .i64 n6)) _ _ _ _ _)
  have Q21 := Aside0.mk (Q20.out.far NEQY.out 14 (.int .i64 n6) : Mine _ (W20.setCell ⟨b1, 14, none⟩ (.int .i64 n6)) _ _ _ _ _)
  have T21 := Aside0.mk (T20.out.far Y20.out 14 (.int .i64 n6))
  have K21 := Aside0.mk (K20.out.mine Y20.out 14 (.int .i64 n6))
  clear T20 K20 X20 Y20 Q20
  generalize (W20.setCell ⟨b1, 14, none⟩ (.int .i64 n6)) = W21 at *
  have Y22 := Aside0.mk (Y21.out.put 15 (.int .u32 n7) rfl #[.int .i64 n1, .int .i64 n2, .string ⟨#[]⟩, .int .i64 0, .int .i64 0, .int .i64 0, .int .i64 0, .int .i64 0, .int .u32 0, .int .u32 0, .int .i64 0, .int .i64 n3, .int .i64 n4, .int .i64 n5, .int .i64 n6, .int .u32 n7, .int .u32 0, .string ⟨#[]⟩] (by simp) rfl)
  have X22 := Aside0.mk (X21.out.far (fun e => NEYX.out e.symm) 15 (.int .u32 n7) : Mine _ (W21.setCell ⟨b1, 15, none⟩ (.int .u32 n7)) _ _ _ _ _)
  have Q22 := Aside0.mk (Q21.out.far NEQY.out 15 (.int .u32 n7) : Mine _ (W21.setCell ⟨b1, 15, none⟩ (.int .u32 n7)) _ _ _ _ _)
  have T22 := Aside0.mk (T21.out.far Y21.out 15 (.int .u32 n7))
  have K22 := Aside0.mk (K21.out.mine Y21.out 15 (.int .u32 n7))
  clear T21 K21 X21 Y21 Q21
  generalize (W21.setCell ⟨b1, 15, none⟩ (.int .u32 n7)) = W22 at *
  have Y23 := Aside0.mk (Y22.out.put 16 (.int .u32 n8) rfl #[.int .i64 n1, .int .i64 n2, .string ⟨#[]⟩, .int .i64 0, .int .i64 0, .int .i64 0, .int .i64 0, .int .i64 0, .int .u32 0, .int .u32 0, .int .i64 0, .int .i64 n3, .int .i64 n4, .int .i64 n5, .int .i64 n6, .int .u32 n7, .int .u32 n8, .string ⟨#[]⟩] (by simp) rfl)
  have X23 := Aside0.mk (X22.out.far (fun e => NEYX.out e.symm) 16 (.int .u32 n8) : Mine _ (W22.setCell ⟨b1, 16, none⟩ (.int .u32 n8)) _ _ _ _ _)
  have Q23 := Aside0.mk (Q22.out.far NEQY.out 16 (.int .u32 n8) : Mine _ (W22.setCell ⟨b1, 16, none⟩ (.int .u32 n8)) _ _ _ _ _)
  have T23 := Aside0.mk (T22.out.far Y22.out 16 (.int .u32 n8))
  have K23 := Aside0.mk (K22.out.mine Y22.out 16 (.int .u32 n8))
  clear T22 K22 X22 Y22 Q22
  generalize (W22.setCell ⟨b1, 16, none⟩ (.int .u32 n8)) = W23 at *
  have Y24 := Aside0.mk (Y23.out.put 17 (.string n9) rfl #[.int .i64 n1, .int .i64 n2, .string ⟨#[]⟩, .int .i64 0, .int .i64 0, .int .i64 0, .int .i64 0, .int .i64 0, .int .u32 0, .int .u32 0, .int .i64 0, .int .i64 n3, .int .i64 n4, .int .i64 n5, .int .i64 n6, .int .u32 n7, .int .u32 n8, .string n9] (by simp) rfl)
  have X24 := Aside0.mk (X23.out.far (fun e => NEYX.out e.symm) 17 (.string n9) : Mine _ (W23.setCell ⟨b1, 17, none⟩ (.string n9)) _ _ _ _ _)
  have Q24 := Aside0.mk (Q23.out.far NEQY.out 17 (.string n9) : Mine _ (W23.setCell ⟨b1, 17, none⟩ (.string n9)) _ _ _ _ _)
  have T24 := Aside0.mk (T23.out.far Y23.out 17 (.string n9))
  have K24 := Aside0.mk (K23.out.mine Y23.out 17 (.string n9))
  clear T23 K23 X23 Y23 Q23
  generalize (W23.setCell ⟨b1, 17, none⟩ (.string n9)) = W24 at *
  clear k11 f11 k12 f12 k13 f13 k14 f14 k15 f15 k16 f16 k17 f17
  cases hB : m9.bad with
  | true =>
    have HE := Aside0.mk (HO.out.trans (if_pos (.inl hB)))
    have HT1 := Aside0.mk (show W24.heap[t]? = some (.cells #[.pointer (some ⟨h, 0, none⟩), .bool true] 77 (0, 0)) from by have := T24.out.blk; rw [hB] at this; exact this)
    have d0 := blk_cell HT1.out 0
    have d1 := blk_cell HT1.out 1
    clear hB HT1
    try dsimp only
    repeat ((fail_if_success (show Oper.wp _ (Oper.mk none (Op.store _ _ _) _ _ _ _) _ _ _ _)); (first | go_values | go_skip | go_guarded | go_step | go_upon | go_back))
    refine wp_store_row (c' := #[.int .i64 0, .int .i64 0, .string ⟨#[]⟩, .int .i64 0, .int .i64 0, .int .i64 0, .int .i64 0, .int .i64 0, .int .u32 0, .int .u32 0, .int .i64 0, .int .i64 0, .int .i64 0, .int .i64 0, .int .i64 0, .int .u32 0, .int .u32 0, .string ⟨#[]⟩]) X24.out.blk rfl rfl rfl rfl (by kernel_rfl) rfl (by simp [Value.oneCell']) ?_
    have X25 := Aside0.mk (X24.out.row #[.int .i64 0, .int .i64 0, .string ⟨#[]⟩, .int .i64 0, .int .i64 0, .int .i64 0, .int .i64 0, .int .i64 0, .int .u32 0, .int .u32 0, .int .i64 0, .int .i64 0, .int .i64 0, .int .i64 0, .int .i64 0, .int .u32 0, .int .u32 0, .string ⟨#[]⟩] rfl)
    have Y25 := Aside0.mk (Y24.out.farRow NEYX.out #[.int .i64 0, .int .i64 0, .string ⟨#[]⟩, .int .i64 0, .int .i64 0, .int .i64 0, .int .i64 0, .int .i64 0, .int .u32 0, .int .u32 0, .int .i64 0, .int .i64 0, .int .i64 0, .int .i64 0, .int .i64 0, .int .u32 0, .int .u32 0, .string ⟨#[]⟩] : Mine _ (W24.setRow w.heap.size #[.int .i64 0, .int .i64 0, .string ⟨#[]⟩, .int .i64 0, .int .i64 0, .int .i64 0, .int .i64 0, .int .i64 0, .int .u32 0, .int .u32 0, .int .i64 0, .int .i64 0, .int .i64 0, .int .i64 0, .int .i64 0, .int .u32 0, .int .u32 0, .string ⟨#[]⟩]) _ _ _ _ _)
    have Q25 := Aside0.mk (Q24.out.farRow NEQX.out #[.int .i64 0, .int .i64 0, .string ⟨#[]⟩, .int .i64 0, .int .i64 0, .int .i64 0, .int .i64 0, .int .i64 0, .int .u32 0, .int .u32 0, .int .i64 0, .int .i64 0, .int .i64 0, .int .i64 0, .int .i64 0, .int .u32 0, .int .u32 0, .string ⟨#[]⟩] : Mine _ (W24.setRow w.heap.size #[.int .i64 0, .int .i64 0, .string ⟨#[]⟩, .int .i64 0, .int .i64 0, .int .i64 0, .int .i64 0, .int .i64 0, .int .u32 0, .int .u32 0, .int .i64 0, .int .i64 0, .int .i64 0, .int .i64 0, .int .i64 0, .int .u32 0, .int .u32 0, .string ⟨#[]⟩]) _ _ _ _ _)
    have T25 := Aside0.mk (T24.out.farRow X24.out #[.int .i64 0, .int .i64 0, .string ⟨#[]⟩, .int .i64 0, .int .i64 0, .int .i64 0, .int .i64 0, .int .i64 0, .int .u32 0, .int .u32 0, .int .i64 0, .int .i64 0, .int .i64 0, .int .i64 0, .int .i64 0, .int .u32 0, .int .u32 0, .string ⟨#[]⟩])
    have K25 := Aside0.mk (K24.out.mineRow X24.out #[.int .i64 0, .int .i64 0, .string ⟨#[]⟩, .int .i64 0, .int .i64 0, .int .i64 0, .int .i64 0, .int .i64 0, .int .u32 0, .int .u32 0, .int .i64 0, .int .i64 0, .int .i64 0, .int .i64 0, .int .i64 0, .int .u32 0, .int .u32 0, .string ⟨#[]⟩])
    clear T24 K24 X24 Y24 Q24
    generalize W24.setRow w.heap.size #[.int .i64 0, .int .i64 0, .string ⟨#[]⟩, .int .i64 0, .int .i64 0, .int .i64 0, .int .i64 0, .int .i64 0, .int .u32 0, .int .u32 0, .int .i64 0, .int .i64 0, .int .i64 0, .int .i64 0, .int .i64 0, .int .u32 0, .int .u32 0, .string ⟨#[]⟩] = W25 at *
    go_wp2_with fail
    exact bodyPost_ret (v := .tuple #[.agg #[.int .i64 0, .int .i64 0, .string ⟨#[]⟩, .int .i64 0, .int .i64 0, .int .i64 0, .int .i64 0, .int .i64 0, .int .u32 0, .int .u32 0, .int .i64 0, .int .i64 0, .int .i64 0, .int .i64 0, .int .i64 0, .int .u32 0, .int .u32 0, .string ⟨#[]⟩], .int .i64 171]) (results_row rfl rfl rfl X25.out.blk Try.underlying36 rfl (by kernel_rfl)) rfl ⟨by rw [HE.out]; rfl, Keep2.below K25.out (Below.refl w.heap.size w) HT.out HH.out (Nat.le_refl _)⟩
  | false =>
    by_cases hL : m9.rest = []
    · cases rb with
      | true =>
        have HE := Aside0.mk (HO.out.trans (if_neg (by rw [hB, hL]; simp)))
        have HT1 := Aside0.mk (show W24.heap[t]? = some (.cells #[.pointer (some ⟨h, 0, none⟩), .bool false] 77 (0, 0)) from by have := T24.out.blk; rw [hB] at this; exact this)
        have d0 := blk_cell HT1.out 0
        have d1 := blk_cell HT1.out 1
        clear hB HT1
        have CL := Aside0.mk (left_any h m9.rest W24 T24.out.rd)
        rw [hL] at CL
        simp only [List.length_nil] at CL
        clear hL
        replace CL := Aside0.mk (show Calls Try.prog 34 #[.pointer (some ⟨h, 0, none⟩)] W24 (fun e w' => e = .returned (.int .i64 0) ∧ W24 = w') from CL.out)
        go_wp2_with fail
        refine CL.out.mono ?_
        rintro e W25 ⟨rfl, rfl⟩
        clear CL
        try dsimp only
        repeat ((fail_if_success (show Oper.wp _ (Oper.mk _ (Op.load 36 _) _ _ _ _) _ _ _ _)); (first | go_values | go_skip | go_guarded | go_step | go_upon | go_back))
        refine wp_load_row Y24.out.blk rfl rfl Try.underlying36 rfl (by kernel_rfl) ?_
        try go_simp
        go_wp2_with fail
        refine (CR.out W24).mono ?_
        rintro e W26 ⟨rfl, hb⟩
        have X26 := Aside0.mk (X24.out.below hb)
        have Y26 := Aside0.mk (Y24.out.below hb)
        have Q26 := Aside0.mk (Q24.out.below hb)
        have K26 := Aside0.mk (K24.out.trans (Keep2.of hb))
        have T26 := Aside0.mk (T24.out.below hb)
        clear hb T24 K24 X24 Y24 Q24
        clear d0 d1
        try dsimp only
        repeat ((fail_if_success (show Oper.wp _ (Oper.mk _ (Op.load 36 _) _ _ _ _) _ _ _ _)); (first | go_values | go_skip | go_guarded | go_step | go_upon | go_back))
        refine wp_load_row Y26.out.blk rfl rfl Try.underlying36 rfl (by kernel_rfl) ?_
        try go_simp
        try dsimp only
        repeat ((fail_if_success (show Oper.wp _ (Oper.mk none (Op.store _ _ _) _ _ _ _) _ _ _ _)); (first | go_values | go_skip | go_guarded | go_step | go_upon | go_back))
        refine wp_store_row (c' := #[.int .i64 n1, .int .i64 n2, .string ⟨#[]⟩, .int .i64 0, .int .i64 0, .int .i64 0, .int .i64 0, .int .i64 0, .int .u32 0, .int .u32 0, .int .i64 0, .int .i64 n3, .int .i64 n4, .int .i64 n5, .int .i64 n6, .int .u32 n7, .int .u32 n8, .string n9]) X26.out.blk rfl rfl rfl rfl (by kernel_rfl) rfl (by simp [Value.oneCell']) ?_
        have X27 := Aside0.mk (X26.out.row #[.int .i64 n1, .int .i64 n2, .string ⟨#[]⟩, .int .i64 0, .int .i64 0, .int .i64 0, .int .i64 0, .int .i64 0, .int .u32 0, .int .u32 0, .int .i64 0, .int .i64 n3, .int .i64 n4, .int .i64 n5, .int .i64 n6, .int .u32 n7, .int .u32 n8, .string n9] rfl)
        have Y27 := Aside0.mk (Y26.out.farRow NEYX.out #[.int .i64 n1, .int .i64 n2, .string ⟨#[]⟩, .int .i64 0, .int .i64 0, .int .i64 0, .int .i64 0, .int .i64 0, .int .u32 0, .int .u32 0, .int .i64 0, .int .i64 n3, .int .i64 n4, .int .i64 n5, .int .i64 n6, .int .u32 n7, .int .u32 n8, .string n9] : Mine _ (W26.setRow w.heap.size #[.int .i64 n1, .int .i64 n2, .string ⟨#[]⟩, .int .i64 0, .int .i64 0, .int .i64 0, .int .i64 0, .int .i64 0, .int .u32 0, .int .u32 0, .int .i64 0, .int .i64 n3, .int .i64 n4, .int .i64 n5, .int .i64 n6, .int .u32 n7, .int .u32 n8, .string n9]) _ _ _ _ _)
        have Q27 := Aside0.mk (Q26.out.farRow NEQX.out #[.int .i64 n1, .int .i64 n2, .string ⟨#[]⟩, .int .i64 0, .int .i64 0, .int .i64 0, .int .i64 0, .int .i64 0, .int .u32 0, .int .u32 0, .int .i64 0, .int .i64 n3, .int .i64 n4, .int .i64 n5, .int .i64 n6, .int .u32 n7, .int .u32 n8, .string n9] : Mine _ (W26.setRow w.heap.size #[.int .i64 n1, .int .i64 n2, .string ⟨#[]⟩, .int .i64 0, .int .i64 0, .int .i64 0, .int .i64 0, .int .i64 0, .int .u32 0, .int .u32 0, .int .i64 0, .int .i64 n3, .int .i64 n4, .int .i64 n5, .int .i64 n6, .int .u32 n7, .int .u32 n8, .string n9]) _ _ _ _ _)
        have T27 := Aside0.mk (T26.out.farRow X26.out #[.int .i64 n1, .int .i64 n2, .string ⟨#[]⟩, .int .i64 0, .int .i64 0, .int .i64 0, .int .i64 0, .int .i64 0, .int .u32 0, .int .u32 0, .int .i64 0, .int .i64 n3, .int .i64 n4, .int .i64 n5, .int .i64 n6, .int .u32 n7, .int .u32 n8, .string n9])
        have K27 := Aside0.mk (K26.out.mineRow X26.out #[.int .i64 n1, .int .i64 n2, .string ⟨#[]⟩, .int .i64 0, .int .i64 0, .int .i64 0, .int .i64 0, .int .i64 0, .int .u32 0, .int .u32 0, .int .i64 0, .int .i64 n3, .int .i64 n4, .int .i64 n5, .int .i64 n6, .int .u32 n7, .int .u32 n8, .string n9])
        clear T26 K26 X26 Y26 Q26
        generalize W26.setRow w.heap.size #[.int .i64 n1, .int .i64 n2, .string ⟨#[]⟩, .int .i64 0, .int .i64 0, .int .i64 0, .int .i64 0, .int .i64 0, .int .u32 0, .int .u32 0, .int .i64 0, .int .i64 n3, .int .i64 n4, .int .i64 n5, .int .i64 n6, .int .u32 n7, .int .u32 n8, .string n9] = W27 at *
        go_wp2_with fail
        exact bodyPost_ret (v := .tuple #[.agg #[.int .i64 n1, .int .i64 n2, .string ⟨#[]⟩, .int .i64 0, .int .i64 0, .int .i64 0, .int .i64 0, .int .i64 0, .int .u32 0, .int .u32 0, .int .i64 0, .int .i64 n3, .int .i64 n4, .int .i64 n5, .int .i64 n6, .int .u32 n7, .int .u32 n8, .string n9], .int .i64 0]) (results_row rfl rfl rfl X27.out.blk Try.underlying36 rfl (by kernel_rfl)) rfl ⟨by rw [HE.out]; rfl, Keep2.below K27.out (Below.refl w.heap.size w) HT.out HH.out (Nat.le_refl _)⟩
      | false =>
        have HE := Aside0.mk (HO.out.trans (if_pos (.inr (.inr rfl))))
        have HT1 := Aside0.mk (show W24.heap[t]? = some (.cells #[.pointer (some ⟨h, 0, none⟩), .bool false] 77 (0, 0)) from by have := T24.out.blk; rw [hB] at this; exact this)
        have d0 := blk_cell HT1.out 0
        have d1 := blk_cell HT1.out 1
        clear hB HT1
        have CL := Aside0.mk (left_any h m9.rest W24 T24.out.rd)
        rw [hL] at CL
        simp only [List.length_nil] at CL
        clear hL
        replace CL := Aside0.mk (show Calls Try.prog 34 #[.pointer (some ⟨h, 0, none⟩)] W24 (fun e w' => e = .returned (.int .i64 0) ∧ W24 = w') from CL.out)
        go_wp2_with fail
        refine CL.out.mono ?_
        rintro e W25 ⟨rfl, rfl⟩
        clear CL
        try dsimp only
        repeat ((fail_if_success (show Oper.wp _ (Oper.mk _ (Op.load 36 _) _ _ _ _) _ _ _ _)); (first | go_values | go_skip | go_guarded | go_step | go_upon | go_back))
        refine wp_load_row Y24.out.blk rfl rfl Try.underlying36 rfl (by kernel_rfl) ?_
        try go_simp
        go_wp2_with fail
        refine (CR.out W24).mono ?_
        rintro e W26 ⟨rfl, hb⟩
        have X26 := Aside0.mk (X24.out.below hb)
        have Y26 := Aside0.mk (Y24.out.below hb)
        have Q26 := Aside0.mk (Q24.out.below hb)
        have K26 := Aside0.mk (K24.out.trans (Keep2.of hb))
        have T26 := Aside0.mk (T24.out.below hb)
        clear hb T24 K24 X24 Y24 Q24
        clear d0 d1
        try dsimp only
        repeat ((fail_if_success (show Oper.wp _ (Oper.mk none (Op.store _ _ _) _ _ _ _) _ _ _ _)); (first | go_values | go_skip | go_guarded | go_step | go_upon | go_back))
        refine wp_store_row (c' := #[.int .i64 0, .int .i64 0, .string ⟨#[]⟩, .int .i64 0, .int .i64 0, .int .i64 0, .int .i64 0, .int .i64 0, .int .u32 0, .int .u32 0, .int .i64 0, .int .i64 0, .int .i64 0, .int .i64 0, .int .i64 0, .int .u32 0, .int .u32 0, .string ⟨#[]⟩]) X26.out.blk rfl rfl rfl rfl (by kernel_rfl) rfl (by simp [Value.oneCell']) ?_
        have X27 := Aside0.mk (X26.out.row #[.int .i64 0, .int .i64 0, .string ⟨#[]⟩, .int .i64 0, .int .i64 0, .int .i64 0, .int .i64 0, .int .i64 0, .int .u32 0, .int .u32 0, .int .i64 0, .int .i64 0, .int .i64 0, .int .i64 0, .int .i64 0, .int .u32 0, .int .u32 0, .string ⟨#[]⟩] rfl)
        have Y27 := Aside0.mk (Y26.out.farRow NEYX.out #[.int .i64 0, .int .i64 0, .string ⟨#[]⟩, .int .i64 0, .int .i64 0, .int .i64 0, .int .i64 0, .int .i64 0, .int .u32 0, .int .u32 0, .int .i64 0, .int .i64 0, .int .i64 0, .int .i64 0, .int .i64 0, .int .u32 0, .int .u32 0, .string ⟨#[]⟩] : Mine _ (W26.setRow w.heap.size #[.int .i64 0, .int .i64 0, .string ⟨#[]⟩, .int .i64 0, .int .i64 0, .int .i64 0, .int .i64 0, .int .i64 0, .int .u32 0, .int .u32 0, .int .i64 0, .int .i64 0, .int .i64 0, .int .i64 0, .int .i64 0, .int .u32 0, .int .u32 0, .string ⟨#[]⟩]) _ _ _ _ _)
        have Q27 := Aside0.mk (Q26.out.farRow NEQX.out #[.int .i64 0, .int .i64 0, .string ⟨#[]⟩, .int .i64 0, .int .i64 0, .int .i64 0, .int .i64 0, .int .i64 0, .int .u32 0, .int .u32 0, .int .i64 0, .int .i64 0, .int .i64 0, .int .i64 0, .int .i64 0, .int .u32 0, .int .u32 0, .string ⟨#[]⟩] : Mine _ (W26.setRow w.heap.size #[.int .i64 0, .int .i64 0, .string ⟨#[]⟩, .int .i64 0, .int .i64 0, .int .i64 0, .int .i64 0, .int .i64 0, .int .u32 0, .int .u32 0, .int .i64 0, .int .i64 0, .int .i64 0, .int .i64 0, .int .i64 0, .int .u32 0, .int .u32 0, .string ⟨#[]⟩]) _ _ _ _ _)
        have T27 := Aside0.mk (T26.out.farRow X26.out #[.int .i64 0, .int .i64 0, .string ⟨#[]⟩, .int .i64 0, .int .i64 0, .int .i64 0, .int .i64 0, .int .i64 0, .int .u32 0, .int .u32 0, .int .i64 0, .int .i64 0, .int .i64 0, .int .i64 0, .int .i64 0, .int .u32 0, .int .u32 0, .string ⟨#[]⟩])
        have K27 := Aside0.mk (K26.out.mineRow X26.out #[.int .i64 0, .int .i64 0, .string ⟨#[]⟩, .int .i64 0, .int .i64 0, .int .i64 0, .int .i64 0, .int .i64 0, .int .u32 0, .int .u32 0, .int .i64 0, .int .i64 0, .int .i64 0, .int .i64 0, .int .i64 0, .int .u32 0, .int .u32 0, .string ⟨#[]⟩])
        clear T26 K26 X26 Y26 Q26
        generalize W26.setRow w.heap.size #[.int .i64 0, .int .i64 0, .string ⟨#[]⟩, .int .i64 0, .int .i64 0, .int .i64 0, .int .i64 0, .int .i64 0, .int .u32 0, .int .u32 0, .int .i64 0, .int .i64 0, .int .i64 0, .int .i64 0, .int .i64 0, .int .u32 0, .int .u32 0, .string ⟨#[]⟩] = W27 at *
        go_wp2_with fail
        exact bodyPost_ret (v := .tuple #[.agg #[.int .i64 0, .int .i64 0, .string ⟨#[]⟩, .int .i64 0, .int .i64 0, .int .i64 0, .int .i64 0, .int .i64 0, .int .u32 0, .int .u32 0, .int .i64 0, .int .i64 0, .int .i64 0, .int .i64 0, .int .i64 0, .int .u32 0, .int .u32 0, .string ⟨#[]⟩], .int .i64 171]) (results_row rfl rfl rfl X27.out.blk Try.underlying36 rfl (by kernel_rfl)) rfl ⟨by rw [HE.out]; rfl, Keep2.below K27.out (Below.refl w.heap.size w) HT.out HH.out (Nat.le_refl _)⟩
    · have HE := Aside0.mk (HO.out.trans (if_pos (.inr (.inl (List.length_pos_iff.2 hL)))))
      have HT1 := Aside0.mk (show W24.heap[t]? = some (.cells #[.pointer (some ⟨h, 0, none⟩), .bool false] 77 (0, 0)) from by have := T24.out.blk; rw [hB] at this; exact this)
      have d0 := blk_cell HT1.out 0
      have d1 := blk_cell HT1.out 1
      clear hB HT1
      have CL := Aside0.mk (left_any h m9.rest W24 T24.out.rd)
      have hLi : (0 : Int) < (m9.rest.length : Int) := by have := List.length_pos_iff.2 hL; omega
      clear hL
      generalize (m9.rest.length : Int) = q at *
      go_wp2_with fail
      refine CL.out.mono ?_
      rintro e W25 ⟨rfl, rfl⟩
      clear CL
      try dsimp only
      repeat ((fail_if_success (show Oper.wp _ (Oper.mk none (Op.store _ _ _) _ _ _ _) _ _ _ _)); (first | go_values | go_skip | go_guarded | go_step | go_upon | go_back))
      refine wp_store_row (c' := #[.int .i64 0, .int .i64 0, .string ⟨#[]⟩, .int .i64 0, .int .i64 0, .int .i64 0, .int .i64 0, .int .i64 0, .int .u32 0, .int .u32 0, .int .i64 0, .int .i64 0, .int .i64 0, .int .i64 0, .int .i64 0, .int .u32 0, .int .u32 0, .string ⟨#[]⟩]) X24.out.blk rfl rfl rfl rfl (by kernel_rfl) rfl (by simp [Value.oneCell']) ?_
      have X25 := Aside0.mk (X24.out.row #[.int .i64 0, .int .i64 0, .string ⟨#[]⟩, .int .i64 0, .int .i64 0, .int .i64 0, .int .i64 0, .int .i64 0, .int .u32 0, .int .u32 0, .int .i64 0, .int .i64 0, .int .i64 0, .int .i64 0, .int .i64 0, .int .u32 0, .int .u32 0, .string ⟨#[]⟩] rfl)
      have Y25 := Aside0.mk (Y24.out.farRow NEYX.out #[.int .i64 0, .int .i64 0, .string ⟨#[]⟩, .int .i64 0, .int .i64 0, .int .i64 0, .int .i64 0, .int .i64 0, .int .u32 0, .int .u32 0, .int .i64 0, .int .i64 0, .int .i64 0, .int .i64 0, .int .i64 0, .int .u32 0, .int .u32 0, .string ⟨#[]⟩] : Mine _ (W24.setRow w.heap.size #[.int .i64 0, .int .i64 0, .string ⟨#[]⟩, .int .i64 0, .int .i64 0, .int .i64 0, .int .i64 0, .int .i64 0, .int .u32 0, .int .u32 0, .int .i64 0, .int .i64 0, .int .i64 0, .int .i64 0, .int .i64 0, .int .u32 0, .int .u32 0, .string ⟨#[]⟩]) _ _ _ _ _)
      have Q25 := Aside0.mk (Q24.out.farRow NEQX.out #[.int .i64 0, .int .i64 0, .string ⟨#[]⟩, .int .i64 0, .int .i64 0, .int .i64 0, .int .i64 0, .int .i64 0, .int .u32 0, .int .u32 0, .int .i64 0, .int .i64 0, .int .i64 0, .int .i64 0, .int .i64 0, .int .u32 0, .int .u32 0, .string ⟨#[]⟩] : Mine _ (W24.setRow w.heap.size #[.int .i64 0, .int .i64 0, .string ⟨#[]⟩, .int .i64 0, .int .i64 0, .int .i64 0, .int .i64 0, .int .i64 0, .int .u32 0, .int .u32 0, .int .i64 0, .int .i64 0, .int .i64 0, .int .i64 0, .int .i64 0, .int .u32 0, .int .u32 0, .string ⟨#[]⟩]) _ _ _ _ _)
      have T25 := Aside0.mk (T24.out.farRow X24.out #[.int .i64 0, .int .i64 0, .string ⟨#[]⟩, .int .i64 0, .int .i64 0, .int .i64 0, .int .i64 0, .int .i64 0, .int .u32 0, .int .u32 0, .int .i64 0, .int .i64 0, .int .i64 0, .int .i64 0, .int .i64 0, .int .u32 0, .int .u32 0, .string ⟨#[]⟩])
      have K25 := Aside0.mk (K24.out.mineRow X24.out #[.int .i64 0, .int .i64 0, .string ⟨#[]⟩, .int .i64 0, .int .i64 0, .int .i64 0, .int .i64 0, .int .i64 0, .int .u32 0, .int .u32 0, .int .i64 0, .int .i64 0, .int .i64 0, .int .i64 0, .int .i64 0, .int .u32 0, .int .u32 0, .string ⟨#[]⟩])
      clear T24 K24 X24 Y24 Q24
      generalize W24.setRow w.heap.size #[.int .i64 0, .int .i64 0, .string ⟨#[]⟩, .int .i64 0, .int .i64 0, .int .i64 0, .int .i64 0, .int .i64 0, .int .u32 0, .int .u32 0, .int .i64 0, .int .i64 0, .int .i64 0, .int .i64 0, .int .i64 0, .int .u32 0, .int .u32 0, .string ⟨#[]⟩] = W25 at *
      go_wp2_with fail
      exact bodyPost_ret (v := .tuple #[.agg #[.int .i64 0, .int .i64 0, .string ⟨#[]⟩, .int .i64 0, .int .i64 0, .int .i64 0, .int .i64 0, .int .i64 0, .int .u32 0, .int .u32 0, .int .i64 0, .int .i64 0, .int .i64 0, .int .i64 0, .int .i64 0, .int .u32 0, .int .u32 0, .string ⟨#[]⟩], .int .i64 171]) (results_row rfl rfl rfl X25.out.blk Try.underlying36 rfl (by kernel_rfl)) rfl ⟨by rw [HE.out]; rfl, Keep2.below K25.out (Below.refl w.heap.size w) HT.out HH.out (Nat.le_refl _)⟩
theorem dec_any (A : Option Addr) (c : Nat) (l : List Int) (w : World) (hC : Kd.C (Kd.int .u8) w A l.length l) (hc : l.length ≤ c) (hl : l.length < 140737488355328) (hby : bytes l) :
    Calls Try.prog 12 #[.slice A l.length c] w fun e w' => e = .returned (.tuple #[.agg (rqVals (decOut l).1).toArray, .int .i64 (decOut l).2]) ∧ Below w.heap.size w w' := by
  rcases q1 : numM 9 ⟨l, false⟩ with ⟨n1, m1⟩
  rcases q2 : numM 255 m1 with ⟨n2, m2⟩
  rcases partK_4 n1 with hp | hp | hp | hp
  · have HD : decM l = (⟨n1, n2, ⟨#[]⟩, 0, zRu, 0, 0, 0, 0, 0, 0, ⟨#[]⟩⟩, m2) := by unfold decM; simp only [q1, q2, hp]; simp
    exact dec_0 A c l w hC hc hl hby n1 m1 q1 n2 m2 q2 hp _ rfl _ (by unfold decOut; rw [HD])
  · rcases q3 : textM 40 m2 with ⟨n3, m3⟩
    have HD : decM l = (⟨n1, n2, n3, 0, zRu, 0, 0, 0, 0, 0, 0, ⟨#[]⟩⟩, m3) := by unfold decM; simp only [q1, q2, q3, hp]; simp
    exact dec_1 A c l w hC hc hl hby n1 m1 q1 n2 m2 q2 n3 m3 q3 hp _ rfl _ (by unfold decOut; rw [HD])
  · rcases q3 : numM 255 m2 with ⟨n3, m3⟩
    rcases q4 : ruleM m3 with ⟨n4, m4⟩
    have HD : decM l = (⟨n1, n2, ⟨#[]⟩, n3, n4, 0, 0, 0, 0, 0, 0, ⟨#[]⟩⟩, m4) := by unfold decM; simp only [q1, q2, q3, q4, hp]; simp
    exact dec_2 A c l w hC hc hl hby n1 m1 q1 n2 m2 q2 n3 m3 q3 n4 m4 q4 hp _ rfl _ (by unfold decOut; rw [HD])
  · rcases q3 : numM 255 m2 with ⟨n3, m3⟩
    rcases q4 : numM 255 m3 with ⟨n4, m4⟩
    rcases q5 : numM 255 m4 with ⟨n5, m5⟩
    rcases q6 : numM 255 m5 with ⟨n6, m6⟩
    rcases q7 : numM wideW m6 with ⟨n7, m7⟩
    rcases q8 : numM wideW m7 with ⟨n8, m8⟩
    rcases q9 : textM 40 m8 with ⟨n9, m9⟩
    have HD : decM l = (⟨n1, n2, ⟨#[]⟩, 0, zRu, n3, n4, n5, n6, n7, n8, n9⟩, m9) := by unfold decM; simp only [q1, q2, q3, q4, q5, q6, q7, q8, q9, hp]; simp
    exact dec_3 A c l w hC hc hl hby n1 m1 q1 n2 m2 q2 n3 m3 q3 n4 m4 q4 n5 m5 q5 n6 m6 q6 n7 m7 q7 n8 m8 q8 n9 m9 q9 hp _ rfl _ (by unfold decOut; rw [HD])
end Go.Proofs.Ytpaknjmcjblahaa.H
