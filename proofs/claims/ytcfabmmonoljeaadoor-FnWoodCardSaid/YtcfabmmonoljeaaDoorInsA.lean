/- What functions of the program answer: part InsA. -/
import Derived.Test.YtcfabmmonoljeaaDoorChecked
import Derived.WalkKit
import Derived.Lib.Walk
import Derived.Lib.AppendZeros
import Derived.Lib.AppendZerosOnto
import Derived.Lib.Overlaps
import Derived.Laws.NewBlocks
import Derived.Shelf.RegionOpenPlain
import Derived.Test.YtcfabmmonoljeaaDoorViE
set_option linter.unusedVariables false
set_option linter.unusedSimpArgs false
set_option linter.unusedSectionVars false
namespace Go.Proofs.YtcfabmmonoljeaaDoor
open Go Go.RowKit Go.Lib Go.Proofs.YtcfabmmonoljeaaDoor.VI
set_option maxHeartbeats 4000000
set_option maxRecDepth 100000
theorem step_copy_runV {P : Program} {ops : Array Oper} {o : Oper} {a : Act} {w : World} {K : Act → World → Prop} {Q : Exit → Act → World → Prop} {E : Prop}
    (hg : o.guard = none) (d x : Operand) (dT sT : TypeId) (hop : o.op = Op.call { callee := Callee.builtin Builtin.copy, args := #[d, x], argTypes := #[dT, sT] })
    (v u : Value) (hd : a.eval d = v) (hx : a.eval x = u) {v' : Value} {w' : World} (hr : (Builtin.copy_ #[dT, sT] o.type #[v, u]).run P w = .ok v' w') (hK : K (a.put o.dst v') w') :
    if Region.wanted o (yielded ops a.tmps) = true then Oper.wp P o a w K Q else E := by
  have hw : Region.wanted o (yielded ops a.tmps) = true := by simp [Region.wanted, hg]
  rw [if_pos hw]
  unfold Oper.wp
  simp [execOp, hop, resolve, invoke, builtin, hd, hx, hr, Result.andThen]
  exact hK
theorem wp_copy_runV {P : Program} (w : World) {o : Oper} {a : Act} {K : Act → World → Prop} {Q : Exit → Act → World → Prop} (d s : Operand) (t t' : TypeId)
    (ho : o.op = .call { callee := .builtin .copy, args := #[d, s], argTypes := #[t, t'] }) (v u : Value) (hd : a.eval d = v) (hs : a.eval s = u) {v' : Value} {w' : World}
    (hr : (Builtin.copy_ #[t, t'] o.type #[v, u]).run P w = .ok v' w') (h : K (a.put o.dst v') w') : o.wp P a w K Q := by
  unfold Oper.wp execOp
  simp only [ho, resolve, invoke, builtin, Sem.run_bind, Sem.run_pure, Result.andThen_ok, List.map_toArray, List.map_cons, List.map_nil, hd, hs, hr]
  exact h
theorem wpList_copy_runV {P : Program} (w : World) {ops : Array Oper} {rest : List Oper} {o : Oper} {a : Act} {Q : Exit → Act → World → Prop} (hgd : o.guard = none) (d s : Operand) (t t' : TypeId)
    (ho : o.op = .call { callee := .builtin .copy, args := #[d, s], argTypes := #[t, t'] }) (v u : Value) (hd : a.eval d = v) (hs : a.eval s = u) {v' : Value} {w' : World}
    (hr : (Builtin.copy_ #[t, t'] o.type #[v, u]).run P w = .ok v' w') (h : wpList P ops Q rest (a.put o.dst v') w') : wpList P ops Q (o :: rest) a w :=
  wpList_plain hgd fun _ hK => wp_copy_runV w d s t t' ho v u hd hs hr (hK _ _ h)
theorem t33 : Tryd.prog.underlying 24 = some (.slice 91) := by kernel_rfl
theorem t3 : Tryd.prog.underlying 3 = some (.int .i64) := by kernel_rfl
theorem t4 : Tryd.prog.underlying 4 = some .bool := by kernel_rfl
theorem i119 : (Tryd.prog.info? 91).map (·.size) = some 2 := by kernel_rfl
theorem z119 : ∀ w, (Go.sizeOf 91).run Tryd.prog w = .ok 2 w := by
  intro w
  have h := i119
  cases hq : Tryd.prog.info? 91 with
  | none => rw [hq] at h; simp at h
  | some i => rw [hq] at h; simp at h; simp [sizeOf, typeInfo, hq, h]
theorem ins_shift (b vb vo len c k m : Nat) (ys xs zs : List Value) (w : World) (e' : TypeId) (hm : 0 < m) (hk : k < len) (hroom : len + m ≤ c) (hcB : len + m ≤ 9223372036854775807) (hyl : ys.length = c * 2) (hb : w.heap[b]? = some (.cells ys.toArray 91 (0, 0))) (hvb : vb ≠ b) (hz : w.heap[vb]? = some (.cells zs.toArray e' (0, 0)))
    (hxl : xs.length = m * 2) (hxs : ∀ (j : Nat) (x : Value), xs[j]? = some x → w.cell? ⟨vb, vo + j, none⟩ = some x) (hxo : ∀ x ∈ xs, CellOk x) (hyo : ∀ x ∈ ys.take (len * 2), CellOk x) :
    Calls Tryd.prog 92 #[.slice (some ⟨b, 0, none⟩) len c, .int .i64 k, .slice (some ⟨vb, vo, none⟩) m m] w fun r w' => r = .returned (.slice (some ⟨b, 0, none⟩) (len + m) c) ∧ ∃ n, w' = setBlk (w.drewN n) b (.cells (setL (setL ys ((k + m) * 2) ((ys.take (len * 2)).drop (k * 2))) (k * 2) xs).toArray 91 (0, 0)) := by
  have mixed : Tryd.prog.follows .mixedOrders = true := by kernel_rfl
  have u33 := run_underlying t33
  have u3 := run_underlying t3
  have u4 := run_underlying t4
  have hz1 : ¬ ((m : Int) = 0) := by omega
  have hz2 : ¬ ((k : Int) = (len : Int)) := by omega
  have hw1 : IntKind.i64.wrap ((k : Int) + (m : Int)) = (k : Int) + (m : Int) := by rw [IntKind.wrap_i64]; omega
  have hb1 : (0 : Int) ≤ (k : Int) + (m : Int) := by omega
  have hin : k ≤ len := by omega
  have htn : ((k : Int) + (m : Int)).toNat = k + m := by omega
  have hb2 : ¬ (c = k + m) := by omega
  have hb3 : (k : Int) ≤ (len : Int) + (m : Int) := by omega
  have hb4 : ¬ (c = k) := by omega
  have hcy : ∀ (W : World) (zs' : List Value) (j : Nat) (x : Value), W.heap[b]? = some (.cells zs'.toArray 91 (0, 0)) → zs'[j]? = some x → W.cell? ⟨b, j, none⟩ = some x := fun W zs' j x h hj => by
    simp [World.cell?, h, hj]
  have hdl : w.drew.heap = w.heap := rfl
  have hvl : vb < w.heap.size := (Array.getElem?_eq_some_iff.1 hz).1
  have hylen : ys.length ≠ 0 := by omega
  have hov : ∀ lb cb, (callFunc 102 #[.slice (some ⟨vb, vo, none⟩) m m, .slice (some ⟨b, (k + m) * 2, none⟩) lb cb]).run Tryd.prog w = .ok (.value (.bool false)) w := fun lb cb => by
    rw [run_callFunc_extern Tryd.func102 (by kernel_rfl) (by kernel_rfl) (by kernel_rfl) (e := Extern.SlicesOverlaps.overlaps #[24, 24] #[4]) (by kernel_rfl),
      Lib.run_overlaps_apart w 24 4 91 t33 2 z119 ⟨vb, vo, none⟩ ⟨b, (k + m) * 2, none⟩ m m lb cb hvb e' 91 zs.length ys.length (by simp [World.shape?, hz]) (by simp [World.shape?, hb]) hylen (by simp [World.frozen?, hz]) (by simp [World.frozen?, hz])]
    rfl
  obtain ⟨mid, hmid⟩ : ∃ mid, mid = (ys.take (len * 2)).drop (k * 2) := ⟨_, rfl⟩
  have hml : mid.length = (len - k) * 2 := by rw [hmid]; simp; omega
  rw [← hmid]
  have hcp1 : ∀ ty dc sc, (Builtin.copy_ #[24, 24] ty #[.slice (some ⟨b, (k + m) * 2, none⟩) (len + m - (k + m)) dc, .slice (some ⟨b, k * 2, none⟩) (len + m - k) sc]).run Tryd.prog w.drew = .ok (goInt (Nat.min (len + m - k) (len + m - (k + m)))) (setBlk w.drew b (.cells (setL ys ((k + m) * 2) mid).toArray 91 (0, 0))) := fun ty dc sc =>
    run_copy_blk t33 i119 (by rw [hdl]; exact hb) (by rw [hml]; simp only [Nat.min_def]; split <;> omega) (fun j x hj => by
      rw [add_plain]
      refine hcy _ ys _ x (by rw [hdl]; exact hb) ?_
      rw [hmid, List.getElem?_drop] at hj
      have := (List.getElem?_eq_some_iff.1 hj).1
      rw [List.length_take] at this
      rwa [List.getElem?_take_of_lt (by omega)] at hj) (by rw [hml]; omega) (fun x hx => hyo x (by rw [hmid] at hx; exact List.mem_of_mem_drop hx))
  have hl1 : (setL ys ((k + m) * 2) mid).length = ys.length := setL_len (by rw [hml]; omega)
  have hblt : b < w.heap.size := (Array.getElem?_eq_some_iff.1 hb).1
  have hcp2 : ∀ ty dc, (Builtin.copy_ #[24, 24] ty #[.slice (some ⟨b, k * 2, none⟩) (len + m - k) dc, .slice (some ⟨vb, vo, none⟩) m m]).run Tryd.prog (setBlk w.drew b (.cells (setL ys ((k + m) * 2) mid).toArray 91 (0, 0))) = .ok (goInt (Nat.min m (len + m - k))) (setBlk w.drew b (.cells (setL (setL ys ((k + m) * 2) mid) (k * 2) xs).toArray 91 (0, 0))) := fun ty dc => by
    have := run_copy_blk (P := Tryd.prog) (w := setBlk w.drew b (.cells (setL ys ((k + m) * 2) mid).toArray 91 (0, 0))) (dT := 24) (sT := 24) (ty := ty) (dLen := len + m - k) (dCap := dc) (sLen := m) (sCap := m) (o := k * 2) (a := ⟨vb, vo, none⟩) t33 i119 (setBlk_same hblt) (xs := xs) (by rw [hxl]; simp only [Nat.min_def]; split <;> omega) (fun j x hj => by
      rw [add_plain]
      have := hxs j x hj
      rw [← this]
      unfold World.cell?
      simp only [setBlk_ne (w := w.drew) (o := .cells (setL ys ((k + m) * 2) mid).toArray 91 (0, 0)) (fun e => hvb e.symm)]
      rfl) (by rw [hl1, hxl]; omega) hxo
    rw [setBlk_setBlk] at this
    exact this
  clear hmid hyo hcy
  go_enter Tryd.func92, Tryd.ntmps92
  go_wp2_with (simp only [hov])
  go_region_law_o (refine step_copy_runV rfl _ _ 24 24 rfl _ _ (by simp [Act.eval, Act.put]) (by simp [Act.eval, Act.put]) (hcp1 _ _ _) ?_)
  go_wp2_with (at_builtin; refine wpList_copy_runV _ rfl _ _ 24 24 rfl _ _ rfl rfl (hcp2 _ _) ?_)
  go_ret
  exact ⟨rfl, 1, rfl⟩
/-! At the end -/
theorem inf119 : ∃ i : TypeInfo, Tryd.prog.info? 91 = some i ∧ i.size = 2 ∧ i.bytes = 4 ∧ i.zero = some (.agg #[.int .i8 0, .int .i16 0]) := ⟨_, rfl, rfl, rfl, rfl⟩
theorem zv119 : ∀ w, (zeroValue 91).run Tryd.prog w = .ok (.agg #[.int .i8 0, .int .i16 0]) w := by
  intro w
  obtain ⟨i, h, _, _, hz⟩ := inf119
  simp [zeroValue, typeInfo, h, hz]
section
variable {b vb vo len c m : Nat} {ys xs : List Value} {w : World}
theorem lenOf_sl {base : Option Addr} {n cp : Nat} {w : World} : (Builtin.lenOf (.slice base n cp)).run Tryd.prog w = .ok n w := by simp [Builtin.lenOf]
theorem first_sl {a : Addr} {n cp : Nat} {us : List Value} {w : World} (hl : us.length = n * 2) (h : ∀ (j : Nat) (x : Value), us[j]? = some x → w.cell? (a.add j) = some x) : (Builtin.firstCells 2 n (.slice (some a) n cp)).run Tryd.prog w = .ok us.toArray w := by
  have hl' := Go.Proofs.YtcfabmmonoljeaaDoor.VI.run_loadCellsFrom (P := Tryd.prog) (w := w) (a := a) us 0 #[] (fun j x hj => by simpa using h j x hj)
  rw [hl] at hl'
  simpa [Builtin.firstCells, loadCells] using hl'
theorem app_fits (hroom : len + m ≤ c) (hyl : ys.length = c * 2) (hb : w.heap[b]? = some (.cells ys.toArray 91 (0, 0))) (hxl : xs.length = m * 2) (hxs : ∀ (j : Nat) (x : Value), xs[j]? = some x → w.cell? ⟨vb, vo + j, none⟩ = some x) (hxo : ∀ x ∈ xs, CellOk x) (ty : TypeId) :
    (Builtin.append_ #[24, 24] ty #[.slice (some ⟨b, 0, none⟩) len c, .slice (some ⟨vb, vo, none⟩) m m]).run Tryd.prog w = .ok (.slice (some ⟨b, 0, none⟩) (len + m) c) (setBlk w b (.cells (setL ys (len * 2) xs).toArray 91 (0, 0))) := by
  obtain ⟨i, h1, h2, h3, _⟩ := inf119
  refine Go.Proofs.YtcfabmmonoljeaaDoor.VI.run_append_fits (P := Tryd.prog) (w := w) (ats := #[24, 24]) rfl rfl t33 (.inr ⟨_, t33⟩) h1 h2 lenOf_sl (first_sl hxl fun j x hj => by rw [add_plain]; exact hxs j x hj) hroom ?_
  have := Go.Proofs.YtcfabmmonoljeaaDoor.VI.run_storeCells (P := Tryd.prog) (b := b) (off := len * 2) xs 0 ys w hb (by omega) hxo
  simp only [Nat.add_zero] at this
  simp only [add_plain, Nat.zero_add]
  exact this
theorem app_new' {base : Option Addr} {old : List Value} (hbb : (len + m) * 4 ≤ 70368744177664) (hlt : c < len + m) (hold : ∀ k, (Builtin.firstCells 2 len (.slice base len c)).run Tryd.prog (w.drewN k) = .ok old.toArray (w.drewN k)) (hxl : xs.length = m * 2) (hxs : ∀ (j : Nat) (x : Value), xs[j]? = some x → w.cell? ⟨vb, vo + j, none⟩ = some x) (ty : TypeId) :
    ∃ nc rest, len + m ≤ nc ∧ rest.length = (nc - (len + m)) * 2 ∧ (Builtin.append_ #[24, 24] ty #[.slice base len c, .slice (some ⟨vb, vo, none⟩) m m]).run Tryd.prog w = .ok (.slice (some ⟨w.heap.size, 0, none⟩) (len + m) nc) ((w.drewN 1).alloc (.cells (old ++ xs ++ rest).toArray 91 (0, 0))) := by
  obtain ⟨i, h1, h2, h3, _⟩ := inf119
  exact Go.Proofs.YtcfabmmonoljeaaDoor.VI.run_append_new (P := Tryd.prog) (w := w) (ats := #[24, 24]) (ty := ty) rfl rfl t33 (.inr ⟨_, t33⟩) h1 h2 h3 (fun k => lenOf_sl) (fun k => first_sl hxl fun j x hj => by rw [add_plain]; exact hxs j x hj) hlt hbb (by omega) hold zv119 rfl
end
theorem ins_end_room (b vb vo len c m : Nat) (ys xs : List Value) (w : World) (hm : 0 < m) (hroom : len + m ≤ c) (hyl : ys.length = c * 2) (hb : w.heap[b]? = some (.cells ys.toArray 91 (0, 0)))
    (hxl : xs.length = m * 2) (hxs : ∀ (j : Nat) (x : Value), xs[j]? = some x → w.cell? ⟨vb, vo + j, none⟩ = some x) (hxo : ∀ x ∈ xs, CellOk x) :
    Calls Tryd.prog 92 #[.slice (some ⟨b, 0, none⟩) len c, .int .i64 len, .slice (some ⟨vb, vo, none⟩) m m] w fun r w' => r = .returned (.slice (some ⟨b, 0, none⟩) (len + m) c) ∧ w' = setBlk w b (.cells (setL ys (len * 2) xs).toArray 91 (0, 0)) := by
  have mixed : Tryd.prog.follows .mixedOrders = true := by kernel_rfl
  have u33 := run_underlying t33
  have u3 := run_underlying t3
  have u4 := run_underlying t4
  have hz1 : ¬ ((m : Int) = 0) := by omega
  have hr := fun ty => app_fits (ty := ty) hroom hyl hb hxl hxs hxo
  clear hxo hb hyl hxs hxl
  go_enter Tryd.func92, Tryd.ntmps92
  go_wp2_with (at_builtin; refine Lib.wpList_append_run _ rfl _ _ _ _ rfl _ _ rfl rfl _ _ (hr _) ?_)
  go_ret
  exact ⟨rfl, rfl⟩
theorem ins_end_new (base : Option Addr) (vb vo len c m nc : Nat) (row : Array Value) (w : World) (hm : 0 < m) (hlt : c < len + m) (hnil : base = none → len = 0)
    (hr : (Builtin.append_ #[24, 24] 24 #[.slice base len c, .slice (some ⟨vb, vo, none⟩) m m]).run Tryd.prog w = .ok (.slice (some ⟨w.heap.size, 0, none⟩) (len + m) nc) ((w.drewN 1).alloc (.cells row 91 (0, 0)))) :
    Calls Tryd.prog 92 #[.slice base len c, .int .i64 len, .slice (some ⟨vb, vo, none⟩) m m] w fun r w' => r = .returned (.slice (some ⟨w.heap.size, 0, none⟩) (len + m) nc) ∧ w' = (w.drewN 1).alloc (.cells row 91 (0, 0)) := by
  have mixed : Tryd.prog.follows .mixedOrders = true := by kernel_rfl
  have u33 := run_underlying t33
  have u3 := run_underlying t3
  have u4 := run_underlying t4
  have hz1 : ¬ ((m : Int) = 0) := by omega
  obtain ⟨W, hW⟩ : ∃ W, W = (w.drewN 1).alloc (.cells row 91 (0, 0)) := ⟨_, rfl⟩
  rw [← hW] at hr ⊢
  clear hW
  go_enter Tryd.func92, Tryd.ntmps92
  cases base with
  | none =>
    have h0 := hnil rfl
    subst h0
    go_wp2_with (at_builtin; refine Lib.wpList_append_run _ rfl _ _ _ _ rfl _ _ rfl rfl _ _ hr ?_)
    go_ret
    exact ⟨rfl, rfl⟩
  | some a =>
    obtain ⟨ab, ao, asp⟩ := a
    go_wp2_with (at_builtin; refine Lib.wpList_append_run _ rfl _ _ _ _ rfl _ _ rfl rfl _ _ hr ?_)
    all_goals (go_ret; exact ⟨rfl, rfl⟩)
theorem ins_grow (b vb vo len c k m N G : Nat) (w W1 W2 W3 : World) (hm : 0 < m) (hk : k < len) (hc : len ≤ c) (hroom : c < len + m) (hcB : len + m ≤ 9223372036854775807) (hG : len + m ≤ G)
    (hr0 : (Builtin.append_ #[24, 3] 24 #[.slice (some ⟨b, 0, none⟩) k c, .int .i64 ((len : Int) + (m : Int) - (k : Int))]).run Tryd.prog w = .ok (.slice (some ⟨N, 0, none⟩) (len + m) G) W1)
    (v1 : Value) (hr1 : ∀ ty dc, (Builtin.copy_ #[24, 24] ty #[.slice (some ⟨N, k * 2, none⟩) (len + m - k) dc, .slice (some ⟨vb, vo, none⟩) m m]).run Tryd.prog W1 = .ok v1 W2)
    (v2 : Value) (hr2 : ∀ ty dc sc, (Builtin.copy_ #[24, 24] ty #[.slice (some ⟨N, (k + m) * 2, none⟩) (len + m - (k + m)) dc, .slice (some ⟨b, k * 2, none⟩) (len - k) sc]).run Tryd.prog W2.drew = .ok v2 W3) :
    Calls Tryd.prog 92 #[.slice (some ⟨b, 0, none⟩) len c, .int .i64 k, .slice (some ⟨vb, vo, none⟩) m m] w fun r w' => r = .returned (.slice (some ⟨N, 0, none⟩) (len + m) G) ∧ w' = W3 := by
  have mixed : Tryd.prog.follows .mixedOrders = true := by kernel_rfl
  have u33 := run_underlying t33
  have u3 := run_underlying t3
  have u4 := run_underlying t4
  have hz1 : ¬ ((m : Int) = 0) := by omega
  have hz2 : ¬ ((k : Int) = (len : Int)) := by omega
  have hz3 : (c : Int) < (len : Int) + (m : Int) := by omega
  have hw1 : IntKind.i64.wrap ((k : Int) + (m : Int)) = (k : Int) + (m : Int) := by rw [IntKind.wrap_i64]; omega
  have hb1 : (0 : Int) ≤ (k : Int) + (m : Int) := by omega
  have hin : k ≤ len := by omega
  have htn : ((k : Int) + (m : Int)).toNat = k + m := by omega
  have hGi : ¬ (G = k) := by omega
  have hGim : ¬ (G = k + m) := by omega
  have hci : ¬ (c = k) := by omega
  have hb3 : (k : Int) ≤ (len : Int) := by omega
  go_enter Tryd.func92, Tryd.ntmps92
  go_wp2_with (first
    | (at_builtin; refine Lib.wpList_append_run _ rfl _ _ _ _ rfl _ _ rfl rfl _ _ hr0 ?_)
    | (at_builtin; refine wpList_copy_runV _ rfl _ _ 24 24 rfl _ _ rfl rfl (hr1 _ _) ?_))
  go_region_law_o (refine step_copy_runV rfl _ _ 24 24 rfl (.slice (some ⟨N, (k + m) * 2, none⟩) (len + m - (k + m)) (G - (k + m))) (.slice (some ⟨b, k * 2, none⟩) (len - k) (c - k)) (by simp [Act.eval, Act.put]) (by simp [Act.eval, Act.put]) (hr2 3 (G - (k + m)) (c - k)) ?_)
  go_wp2
  go_ret
  exact ⟨rfl, rfl⟩
end Go.Proofs.YtcfabmmonoljeaaDoor
