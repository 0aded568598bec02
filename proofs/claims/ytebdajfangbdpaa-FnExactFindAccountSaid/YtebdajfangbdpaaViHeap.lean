/- An interpreter over an abstract heap, and its soundness over the machine: part Heap. -/
import Derived.Test.YtebdajfangbdpaaViCode
set_option linter.unusedVariables false
set_option linter.unusedSimpArgs false
set_option linter.unusedSectionVars false
namespace Go.Proofs.Ytebdajfangbdpaa.VI
open Go Go.RowKit

theorem add_plain (b off i : Nat) : (⟨b, off, none⟩ : Addr).add i = ⟨b, off + i, none⟩ := by
  unfold Addr.add
  split
  · rename_i h; subst h; rfl
  · rfl

theorem Cells.nil (β : Beta) : Cells β [] [] := ⟨rfl, fun j c h => by simp at h⟩
theorem Cells.append {β : Beta} {a b : List CV} {x y : List Value} (h : Cells β a x) (k : Cells β b y) : Cells β (a ++ b) (x ++ y) := by
  refine ⟨by simp [h.1, k.1], fun j c hc => ?_⟩
  by_cases hj : j < a.length
  · rw [List.getElem?_append_left hj] at hc
    obtain ⟨u, h1, h2⟩ := h.2 j c hc
    exact ⟨u, by rw [List.getElem?_append_left (by rw [← h.1]; exact hj)]; exact h1, h2⟩
  · rw [List.getElem?_append_right (by omega)] at hc
    obtain ⟨u, h1, h2⟩ := k.2 _ c hc
    exact ⟨u, by rw [List.getElem?_append_right (by rw [← h.1]; omega), ← h.1]; exact h1, h2⟩
theorem Cells.take {β : Beta} {a : List CV} {x : List Value} (h : Cells β a x) (n : Nat) : Cells β (a.take n) (x.take n) := by
  refine ⟨by simp [h.1], fun j c hc => ?_⟩
  have hj : j < n := by
    have := (List.getElem?_eq_some_iff.1 hc).1
    simp at this; omega
  rw [List.getElem?_take_of_lt hj] at hc
  obtain ⟨u, h1, h2⟩ := h.2 j c hc
  exact ⟨u, by rw [List.getElem?_take_of_lt hj]; exact h1, h2⟩
theorem Cells.drop {β : Beta} {a : List CV} {x : List Value} (h : Cells β a x) (n : Nat) : Cells β (a.drop n) (x.drop n) := by
  refine ⟨by simp [h.1], fun j c hc => ?_⟩
  rw [List.getElem?_drop] at hc
  obtain ⟨u, h1, h2⟩ := h.2 _ c hc
  exact ⟨u, by rw [List.getElem?_drop]; exact h1, h2⟩
theorem Cells.one {β : Beta} {c : CV} {x : Value} (h : c.rel β x) : Cells β [c] [x] :=
  ⟨rfl, fun j d hd => by
    cases j with
    | zero => simp at hd; subst hd; exact ⟨x, rfl, h⟩
    | succ j => simp at hd⟩
theorem Cells.cons {β : Beta} {c : CV} {x : Value} {cs : List CV} {xs : List Value} (h : c.rel β x) (k : Cells β cs xs) : Cells β (c :: cs) (x :: xs) :=
  (Cells.one h).append k
theorem Cells.cons_inv {β : Beta} {c : CV} {cs : List CV} {xs : List Value} (k : Cells β (c :: cs) xs) : ∃ x xs', xs = x :: xs' ∧ c.rel β x ∧ Cells β cs xs' := by
  cases xs with
  | nil => have := k.1; simp at this
  | cons x xs' =>
    obtain ⟨y, h1, h2⟩ := k.2 0 c rfl
    simp at h1; subst h1
    exact ⟨x, xs', rfl, h2, by have := k.1; simpa using this, fun j d hd => by
      obtain ⟨z, h3, h4⟩ := k.2 (j + 1) d (by simpa using hd)
      exact ⟨z, by simpa using h3, h4⟩⟩
theorem Cells.nil_inv {β : Beta} {xs : List Value} (k : Cells β [] xs) : xs = [] := by
  have := k.1; simpa using this.symm

/-- A value's cells. -/
theorem AV.cells_rel {β : Beta} {v : AV} {cs : List CV} {x : Value} (h : v.cells? = some cs) (k : v.rel β x) : ∃ xs : List Value, x.cells = xs.toArray ∧ Cells β cs xs := by
  cases v with
  | c v =>
    simp [AV.cells?] at h; subst h
    refine ⟨[x], ?_, Cells.one k⟩
    cases x with
    | agg l =>
      exfalso
      cases v with
      | ptr a => cases a with
        | none => simp [AV.rel, CV.rel] at k
        | some p => obtain ⟨_, _, h⟩ := k; simp at h
      | slice a l cap => cases a with
        | none => simp [AV.rel, CV.rel] at k
        | some p => obtain ⟨_, _, _, _, h, _⟩ := k; simp at h
      | fn f caps => obtain ⟨_, h, _⟩ := k; simp at h
      | undef => simp [AV.rel, CV.rel, Go.undef] at k
      | _ => simp [AV.rel, CV.rel] at k
    | _ => rfl
  | agg cs' =>
    simp [AV.cells?] at h; subst h
    obtain ⟨xs, rfl, hc⟩ := k
    exact ⟨xs, rfl, hc⟩
  | tup vs => simp [AV.cells?] at h

/-- A cell that may be stored. -/
theorem CV.ok_store {β : Beta} {v : CV} {x : Value} (h : v.ok = true) (k : v.rel β x) : (∀ l, x ≠ .agg l) ∧ (∀ l, x ≠ .tuple l) := by
  cases v with
  | ptr a => cases a with
    | none => simp [CV.rel] at k; subst k; simp
    | some p => obtain ⟨_, _, h⟩ := k; subst h; simp
  | slice a l cap => cases a with
    | none => simp [CV.rel] at k; obtain ⟨_, k⟩ := k; subst k; simp
    | some p => obtain ⟨_, _, _, _, h, _⟩ := k; subst h; simp
  | fn f caps => obtain ⟨_, h, _⟩ := k; subst h; simp
  | undef => simp [CV.ok] at h
  | _ => simp [CV.rel] at k; subst k; simp

/-! ### Reading -/
theorem get_some {H : AHeap} {i : Nat} {blk : Blk} (h : H.get i = some blk) : H[i]? = some (some blk) := by
  unfold AHeap.get at h
  cases hh : H[i]? with
  | none => rw [hh] at h; simp at h
  | some o => rw [hh] at h; simp at h; rw [h]

theorem HR.cell {B0 : Nat} {β : Beta} {H : AHeap} {w : World} (h : HR B0 β H w) {i off : Nat} {blk : Blk} {c : CV} {a : Addr} (hg : H.get i = some blk) (hc : blk.cells[off]? = some c) (ha : AddrRel β (i, off) a) :
    ∃ x, w.cell? a = some x ∧ c.rel β x := by
  obtain ⟨b, o, k, hb, rfl⟩ := ha
  simp only at hb
  rcases h.blk i blk (get_some hg) with ⟨_, ⟨b', o', k', hb', _, hr⟩⟩ | ⟨_, ⟨b', xs, hb', _, hh, hcs, _⟩⟩
  · rw [hb] at hb'; injection hb' with hb'; injection hb' with e1 hb'; injection hb' with e2 e3
    subst e1; subst e2
    exact hr off c hc
  · rw [hb] at hb'; injection hb' with hb'; injection hb' with e1 hb'; injection hb' with e2 e3
    subst e1; subst e2
    obtain ⟨x, h1, h2⟩ := hcs.2 off c hc
    refine ⟨x, ?_, h2⟩
    have hlt : off < blk.cells.length := (List.getElem?_eq_some_iff.1 hc).1
    rw [List.getElem?_take_of_lt hlt] at h1
    simp [World.cell?, hh, h1]

theorem HR.readCell {B0 : Nat} {β : Beta} {H : AHeap} {w : World} (h : HR B0 β H w) {p : Nat × Nat} {c : CV} {a : Addr} (hc : readCell H p = some c) (ha : AddrRel β p a) :
    ∃ x, w.cell? a = some x ∧ c.rel β x := by
  unfold VI.readCell at hc
  split at hc
  · rename_i blk hg; exact h.cell hg hc ha
  · simp at hc

theorem readCells_spec {H : AHeap} {p : Nat × Nat} {n : Nat} {cs : List CV} (h : readCells H p n = some cs) : ∃ blk, H.get p.1 = some blk ∧ p.2 + n ≤ blk.cells.length ∧ cs = (blk.cells.drop p.2).take n := by
  unfold readCells at h
  split at h
  · rename_i blk hg
    split at h
    · rename_i hle; simp at h; exact ⟨blk, hg, hle, h.symm⟩
    · simp at h
  · simp at h

theorem readCells_len {H : AHeap} {p : Nat × Nat} {n : Nat} {cs : List CV} (h : readCells H p n = some cs) : cs.length = n := by
  obtain ⟨blk, _, hle, rfl⟩ := readCells_spec h
  simp; omega

theorem AddrRel.add {β : Beta} {p : Nat × Nat} {a : Addr} (h : AddrRel β p a) (n : Nat) : AddrRel β (p.1, p.2 + n) (a.add n) := by
  obtain ⟨b, o, k, h1, rfl⟩ := h
  exact ⟨b, o, k, h1, by rw [add_plain, Nat.add_assoc]⟩
theorem AddrRel.spot {β : Beta} {p : Nat × Nat} {a : Addr} (h : AddrRel β p a) : a.spot = none := by
  obtain ⟨b, o, k, h1, rfl⟩ := h; rfl

/-- Loading n cells from a on. -/
theorem run_loadCellsFrom {P : Program} {w : World} {a : Addr} : ∀ (xs : List Value) (i : Nat) (acc : Array Value), (∀ j (x : Value), xs[j]? = some x → w.cell? (a.add (i + j)) = some x) →
    (loadCellsFrom a i xs.length acc).run P w = .ok (acc ++ xs.toArray) w
  | [], i, acc, _ => by simp [loadCellsFrom]
  | x :: xs, i, acc, h => by
    have h0 := h 0 x rfl
    simp only [Nat.add_zero] at h0
    simp only [List.length_cons, loadCellsFrom, Sem.run_bind, run_load, h0, Result.andThen_ok]
    rw [run_loadCellsFrom xs (i + 1) (acc.push x) (fun j y hy => by
      have := h (j + 1) y (by simpa using hy)
      rw [show i + 1 + j = i + (j + 1) by omega]; exact this)]
    simp

theorem HR.loadCellsD {P : Program} {B0 : Nat} {β : Beta} {H : AHeap} {w : World} (h : HR B0 β H w) {p : Nat × Nat} {n : Nat} {cs : List CV} {a : Addr} (hc : readCells H p n = some cs) (ha : AddrRel β p a) :
    ∃ xs : List Value, xs.length = n ∧ (∀ k, (loadCells a n).run P (w.drewN k) = .ok xs.toArray (w.drewN k)) ∧ Cells β cs xs := by
  obtain ⟨blk, hg, hle, rfl⟩ := readCells_spec hc
  -- each cell has a value
  have hx : ∀ m, m ≤ n → ∃ xs : List Value, xs.length = m ∧ Cells β ((blk.cells.drop p.2).take m) xs ∧ ∀ j (x : Value), xs[j]? = some x → w.cell? (a.add j) = some x := by
    intro m
    induction m with
    | zero => intro _; exact ⟨[], rfl, by simpa using Cells.nil β, fun j x hj => by simp at hj⟩
    | succ m ih =>
      intro hm
      obtain ⟨xs, hl, hcs, hw⟩ := ih (by omega)
      have hlt : p.2 + m < blk.cells.length := by omega
      obtain ⟨x, h1, h2⟩ := h.cell (off := p.2 + m) hg (List.getElem?_eq_getElem hlt) (ha.add m)
      refine ⟨xs ++ [x], by simp [hl], ?_, fun j y hj => ?_⟩
      · rw [List.take_succ_eq_append_getElem (by simp; omega)]
        refine hcs.append (Cells.one ?_)
        simpa using h2
      · by_cases hjm : j < xs.length
        · rw [List.getElem?_append_left hjm] at hj; exact hw j y hj
        · rw [List.getElem?_append_right (by omega)] at hj
          have : j - xs.length = 0 := by
            rcases Nat.eq_zero_or_pos (j - xs.length) with h0 | h0
            · exact h0
            · rw [List.getElem?_eq_none (by simp only [List.length_singleton]; omega)] at hj; simp at hj
          rw [this] at hj; simp at hj; subst hj
          have : j = m := by omega
          subst this; exact h1
  obtain ⟨xs, hl, hcs, hw⟩ := hx n (Nat.le_refl _)
  refine ⟨xs, hl, fun k => ?_, hcs⟩
  have := run_loadCellsFrom (P := P) (w := w.drewN k) (a := a) xs 0 #[] (fun j x hj => by simpa using hw j x hj)
  rw [hl] at this
  simpa [Go.loadCells] using this

theorem HR.loadCells {P : Program} {B0 : Nat} {β : Beta} {H : AHeap} {w : World} (h : HR B0 β H w) {p : Nat × Nat} {n : Nat} {cs : List CV} {a : Addr} (hc : readCells H p n = some cs) (ha : AddrRel β p a) :
    ∃ xs : List Value, xs.length = n ∧ (loadCells a n).run P w = .ok xs.toArray w ∧ Cells β cs xs := by
  obtain ⟨xs, h1, h2, h3⟩ := h.loadCellsD (P := P) hc ha
  exact ⟨xs, h1, h2 0, h3⟩

/-! ### New blocks -/
theorem alloc_heap_lt (w : World) (o : Obj) {k : Nat} (h : k < w.heap.size) : (w.alloc o).heap[k]? = w.heap[k]? := Below.heap_alloc w o k h
theorem alloc_heap_new (w : World) (o : Obj) : (w.alloc o).heap[w.heap.size]? = some o := by
  show (w.heap.push o)[w.heap.size]? = _
  simp
theorem alloc_size (w : World) (o : Obj) : (w.alloc o).heap.size = w.heap.size + 1 := by
  show (w.heap.push o).size = _
  simp

theorem cell_lt {w : World} {b o : Nat} {x : Value} (h : w.cell? ⟨b, o, none⟩ = some x) : b < w.heap.size := by
  unfold World.cell? at h
  cases hh : w.heap[b]? with
  | none => simp [hh] at h
  | some _ => exact (Array.getElem?_eq_some_iff.1 hh).1

theorem HR.lt {B0 : Nat} {β : Beta} {H : AHeap} {w : World} (h : HR B0 β H w) {b : Nat} (ho : Owned β H b) : b < w.heap.size := by
  obtain ⟨i, blk, o, hi, hm, k, hb⟩ := ho
  rcases h.blk i blk hi with ⟨hm', _⟩ | ⟨_, ⟨b', xs, hb', _, hh, _⟩⟩
  · rw [hm'] at hm; simp at hm
  · rw [hb] at hb'; injection hb' with hb'; injection hb' with e1 _; subst e1
    exact (Array.getElem?_eq_some_iff.1 hh).1

/-- The relation of a block when the map is extended and the world's old blocks stay. -/
theorem BlkRel.kept {B0 : Nat} {β β' : Beta} {w w' : World} {i : Nat} {blk : Blk} (he : Ext β β') (hro : ∀ b, b < B0 → w'.heap[b]? = w.heap[b]?)
    (hw : (blk.m = .own ∨ blk.m = .opn) → ∀ b o k, β[i]? = some (b, o, k) → w'.heap[b]? = w.heap[b]?) (h : BlkRel B0 β w i blk) : BlkRel B0 β' w' i blk := by
  rcases h with ⟨hm, ⟨b, o, k, h1, h2, h3⟩⟩ | ⟨hm, ⟨b, xs, h1, h2, h3, h4, h5⟩⟩
  · refine .inl ⟨hm, ⟨b, o, k, he.get h1, h2, fun j c hc => ?_⟩⟩
    obtain ⟨x, hx, hr⟩ := h3 j c hc
    exact ⟨x, by rw [World.cell?_of_block (w := w) (hro b h2)]; exact hx, CV.rel_ext he hr⟩
  · exact .inr ⟨hm, ⟨b, xs, he.get h1, h2, by rw [hw hm b 0 _ h1]; exact h3, h4.ext he, h5⟩⟩

theorem getElem?_snoc {α : Type} {l : List α} {x y : α} {i : Nat} (h : (l ++ [x])[i]? = some y) : l[i]? = some y ∨ (i = l.length ∧ y = x) := by
  by_cases hi : i < l.length
  · rw [List.getElem?_append_left hi] at h; exact .inl h
  · rw [List.getElem?_append_right (by omega)] at h
    have : i - l.length = 0 := by
      rcases Nat.eq_zero_or_pos (i - l.length) with h0 | h0
      · exact h0
      · rw [List.getElem?_eq_none (by simp only [List.length_singleton]; omega)] at h; simp at h
    rw [this] at h; simp at h
    exact .inr ⟨by omega, h.symm⟩

/-- A new block. -/
theorem HR.alloc {B0 : Nat} {β : Beta} {H : AHeap} {w : World} (h : HR B0 β H w) (e : TypeId) (cs : List CV) (xs : List Value) (m : BM) (hm : m = .own ∨ m = .opn)
    (hc : Cells β cs (xs.take cs.length)) (hl : m = .own → xs.length = cs.length) :
    Go_ B0 β H w (β ++ [(w.heap.size, 0, xs.length)]) (H ++ [some ⟨e, cs, m⟩]) (w.alloc (.cells xs.toArray e (0, 0))) := by
  have he : Ext β (β ++ [(w.heap.size, 0, xs.length)]) := ⟨_, rfl⟩
  have hown : ∀ b, Owned (β ++ [(w.heap.size, 0, xs.length)]) (H ++ [some ⟨e, cs, m⟩]) b → Owned β H b ∨ b = w.heap.size := by
    rintro b ⟨i, blk, o, hi, hbm, k, hb⟩
    rcases getElem?_snoc hi with hi | ⟨hi, _⟩
    · have hlt : i < β.length := by rw [h.len]; exact (List.getElem?_eq_some_iff.1 hi).1
      rw [List.getElem?_append_left hlt] at hb
      exact .inl ⟨i, blk, o, hi, hbm, k, hb⟩
    · subst hi
      rw [List.getElem?_append_right (by rw [h.len]; exact Nat.le_refl _), h.len] at hb
      simp at hb
      exact .inr hb.1.symm
  refine ⟨⟨by simp [h.len], by rw [alloc_size]; have := h.base; omega, fun i blk hi => ?_, ?_⟩, he, (Below.refl B0 w).alloc h.base _, fun b hb _ => alloc_heap_lt w _ hb, fun b hb ho => (hown b ho).resolve_right (by omega)⟩
  · rcases getElem?_snoc hi with hi | ⟨hi2, hblk⟩
    · refine BlkRel.kept he (fun b hb => alloc_heap_lt w _ (by have := h.base; omega)) (fun hbm b o k hb => alloc_heap_lt w _ (h.lt ⟨i, blk, o, hi, hbm, k, hb⟩)) (h.blk i blk hi)
    · simp at hblk; subst hblk; subst hi2
      exact .inr ⟨hm, ⟨w.heap.size, xs, by rw [List.getElem?_append_right (by rw [h.len]; exact Nat.le_refl _), h.len]; simp, h.base, alloc_heap_new w _, hc.ext he, hl⟩⟩
  · intro i j bi bj b oi oj ki kj hi hj hmi hmj hbi hbj
    have key : ∀ (i : Nat) (bi : Blk) (oi ki : Nat), (H ++ [some ⟨e, cs, m⟩])[i]? = some (some bi) → (bi.m = .own ∨ bi.m = .opn) → (β ++ [(w.heap.size, 0, xs.length)])[i]? = some (b, oi, ki) → (H[i]? = some (some bi) ∧ β[i]? = some (b, oi, ki) ∧ b < w.heap.size) ∨ (i = H.length ∧ b = w.heap.size) := by
      intro i bi oi ki hi hmi hbi
      rcases getElem?_snoc hi with hi' | ⟨hi', _⟩
      · have hlt : i < β.length := by rw [h.len]; exact (List.getElem?_eq_some_iff.1 hi').1
        rw [List.getElem?_append_left hlt] at hbi
        exact .inl ⟨hi', hbi, h.lt ⟨i, bi, oi, hi', hmi, ki, hbi⟩⟩
      · subst hi'
        rw [List.getElem?_append_right (by rw [h.len]; exact Nat.le_refl _), h.len] at hbi
        simp at hbi
        exact .inr ⟨rfl, hbi.1.symm⟩
    rcases key i bi oi ki hi hmi hbi with ⟨h1, h2, h3⟩ | ⟨h1, h3⟩ <;> rcases key j bj oj kj hj hmj hbj with ⟨h4, h5, h6⟩ | ⟨h4, h6⟩
    · exact h.inj i j bi bj b oi oj ki kj h1 h4 hmi hmj h2 h5
    · omega
    · omega
    · omega

/-- The new block's address. -/
theorem HR.newAddr {B0 : Nat} {β : Beta} {H : AHeap} {w : World} (h : HR B0 β H w) (n : Nat) : AddrRel (β ++ [(w.heap.size, 0, n)]) (H.length, 0) ⟨w.heap.size, 0, none⟩ :=
  ⟨w.heap.size, 0, n, by rw [List.getElem?_append_right (by rw [h.len]; exact Nat.le_refl _), h.len]; simp, by simp⟩

/-! ### Killing an id -/
theorem HR.kill {B0 : Nat} {β : Beta} {H : AHeap} {w : World} (h : HR B0 β H w) (i : Nat) : Go_ B0 β H w β (H.set i none) w := by
  have hk : ∀ (j : Nat) (blk : Blk), (H.set i none)[j]? = some (some blk) → H[j]? = some (some blk) := by
    intro j blk hj
    by_cases hij : i = j
    · subst hij
      rw [List.getElem?_set_self'] at hj
      cases hh : H[i]? <;> simp [hh] at hj
    · rwa [List.getElem?_set_ne hij] at hj
  refine ⟨⟨by simp [h.len], h.base, fun j blk hj => h.blk j blk (hk j blk hj), fun i' j bi bj b oi oj ki kj hi hj => h.inj i' j bi bj b oi oj ki kj (hk _ _ hi) (hk _ _ hj)⟩, .refl _, .refl _ _, fun _ _ _ => rfl, ?_⟩
  rintro b _ ⟨j, blk, o, hj, hm, k, hb⟩
  exact ⟨j, blk, o, hk j blk hj, hm, k, hb⟩

/-! ### Writing -/
def setL (l : List Value) (off : Nat) (vs : List Value) : List Value := l.take off ++ vs ++ l.drop (off + vs.length)
theorem setL_len {l : List Value} {off : Nat} {vs : List Value} (h : off + vs.length ≤ l.length) : (setL l off vs).length = l.length := by
  unfold setL; simp; omega
theorem setL_cons {l : List Value} {off : Nat} {v : Value} {vs : List Value} (h : off + (vs.length + 1) ≤ l.length) : setL (l.set off v) (off + 1) vs = setL l off (v :: vs) := by
  unfold setL
  apply List.ext_getElem?
  intro j
  simp only [List.length_cons, List.getElem?_append, List.length_take, List.length_append, List.length_set, List.getElem?_take, List.getElem?_drop, List.getElem?_set]
  by_cases h1 : j < off
  · rw [if_pos (by omega), if_pos (by omega), if_pos (by omega), if_neg (by omega), if_pos (by omega), if_pos (by omega), if_pos h1]
  · by_cases h2 : j = off
    · subst h2
      rw [if_pos (by omega), if_pos (by omega), if_pos (by omega), if_pos rfl, if_pos (by omega), if_pos (by omega), if_neg (by omega)]
      simp [Nat.min_eq_left (show j ≤ l.length by omega)]
    · by_cases h3 : j < off + 1 + vs.length
      · rw [if_pos (by omega), if_neg (by omega), if_pos (by omega), if_neg (by omega)]
        rw [Nat.min_eq_left (by omega), Nat.min_eq_left (by omega)]
        rw [show j - off = (j - (off + 1)) + 1 by omega]
        simp
      · rw [if_neg (by omega), if_neg (by omega)]
        rw [Nat.min_eq_left (by omega), Nat.min_eq_left (by omega), if_neg (by omega)]
        congr 1; omega

/-- The world with block b turned. -/
def setBlk (w : World) (b : Nat) (o : Obj) : World := { w with heap := w.heap.setIfInBounds b o }
theorem setBlk_same {w : World} {b : Nat} {o : Obj} (h : b < w.heap.size) : (setBlk w b o).heap[b]? = some o := by
  simp [setBlk, h]
theorem setBlk_ne {w : World} {b k : Nat} {o : Obj} (h : b ≠ k) : (setBlk w b o).heap[k]? = w.heap[k]? := by
  simp [setBlk, Array.getElem?_setIfInBounds_ne h]
theorem setBlk_size {w : World} {b : Nat} {o : Obj} : (setBlk w b o).heap.size = w.heap.size := by simp [setBlk]

theorem setCell_setBlk {w : World} {b off : Nat} {ys : List Value} {e : TypeId} {x : Value} (h : w.heap[b]? = some (.cells ys.toArray e (0, 0))) :
    w.setCell ⟨b, off, none⟩ x = setBlk w b (.cells (ys.set off x).toArray e (0, 0)) := by
  unfold World.setCell setBlk
  have hlt : b < w.heap.size := (Array.getElem?_eq_some_iff.1 h).1
  congr 1
  apply Array.ext_getElem?
  intro j
  rw [Array.getElem?_modify, Array.getElem?_setIfInBounds]
  split
  · rename_i hj; subst hj
    rw [h]; simp
  · rfl

theorem run_storeCells {P : Program} {b off : Nat} {e : TypeId} : ∀ (xs : List Value) (i : Nat) (ys : List Value) (w : World), w.heap[b]? = some (.cells ys.toArray e (0, 0)) → off + i + xs.length ≤ ys.length →
    (∀ x ∈ xs, (∀ l, x ≠ .agg l) ∧ (∀ l, x ≠ .tuple l)) →
    (storeCells ⟨b, off, none⟩ xs i).run P w = .ok () (setBlk w b (.cells (setL ys (off + i) xs).toArray e (0, 0)))
  | [], i, ys, w, h, _, _ => by
    simp only [storeCells, Sem.run_pure]
    congr 1
    unfold setBlk
    have hlt : b < w.heap.size := (Array.getElem?_eq_some_iff.1 h).1
    have : w.heap.setIfInBounds b (.cells (setL ys (off + i) []).toArray e (0, 0)) = w.heap := by
      apply Array.ext_getElem?
      intro j
      rw [Array.getElem?_setIfInBounds]
      split
      · rename_i hj; subst hj; rw [h]; simp [setL]
      · rfl
    rw [this]
  | x :: xs, i, ys, w, h, hle, hok => by
    have hlt : b < w.heap.size := (Array.getElem?_eq_some_iff.1 h).1
    simp only [List.length_cons] at hle
    have hcell : w.cell? ⟨b, off + i, none⟩ = some (ys[off + i]'(by omega)) := by
      simp only [World.cell?, h]; simp
    have hfr : w.frozen? ⟨b, off + i, none⟩ = false := by simp [World.frozen?, h]
    obtain ⟨hx1, hx2⟩ := hok x (by simp)
    have hst : (store ((⟨b, off, none⟩ : Addr).add i) x).run P w = .ok () (setBlk w b (.cells (ys.set (off + i) x).toArray e (0, 0))) := by
      rw [add_plain, ← setCell_setBlk h]
      unfold store
      cases x with
      | agg l => exact absurd rfl (hx1 l)
      | tuple l => exact absurd rfl (hx2 l)
      | _ => simp [Sem.run, hcell, hfr]
    simp only [storeCells, Sem.run_bind, hst, Result.andThen_ok]
    rw [run_storeCells xs (i + 1) (ys.set (off + i) x) _ (setBlk_same hlt) (by simp; omega) (fun y hy => hok y (by simp [hy]))]
    rw [← Nat.add_assoc, setL_cons (by omega)]
    congr 1
    unfold setBlk
    simp

theorem Cells.set {β : Beta} {l vs : List CV} {xs ys : List Value} {off : Nat} (h : Cells β l xs) (k : Cells β vs ys) : Cells β (setAt l off vs) (setL xs off ys) := by
  unfold setAt setL
  rw [← k.1]
  exact ((h.take _).append k).append (h.drop _)
theorem setAt_len {l : List CV} {off : Nat} {vs : List CV} (h : off + vs.length ≤ l.length) : (setAt l off vs).length = l.length := by
  unfold setAt; simp; omega
theorem setL_take {l : List Value} {off n : Nat} {vs : List Value} (h : off + vs.length ≤ n) (hn : n ≤ l.length) : (setL l off vs).take n = setL (l.take n) off vs := by
  unfold setL
  apply List.ext_getElem?
  intro j
  simp only [List.getElem?_take, List.getElem?_append, List.length_append, List.length_take, List.getElem?_drop]
  by_cases hj : j < n
  · rw [if_pos hj]
    by_cases h1 : j < off
    · rw [if_pos (by omega), if_pos (by omega), if_pos h1, if_pos (by omega), if_pos (by omega), if_pos h1, if_pos hj]
    · by_cases h2 : j < off + vs.length
      · rw [if_pos (by omega), if_neg (by omega), if_pos (by omega), if_neg (by omega)]
        congr 1; omega
      · rw [if_neg (by omega), if_neg (by omega), if_pos (by omega)]
        congr 1; omega
  · rw [if_neg hj, if_neg (by omega), if_neg (by omega)]

/-- A store into a block of the call's own. -/
theorem HR.store {P : Program} {B0 : Nat} {β : Beta} {H H' : AHeap} {w : World} (h : HR B0 β H w) {p : Nat × Nat} {vs : List CV} {xs : List Value} {a : Addr} (hw : writeCells H p vs = some H') (ha : AddrRel β p a) (hc : Cells β vs xs) :
    ∃ w', (storeCells a xs).run P w = .ok () w' ∧ Go_ B0 β H w β H' w' := by
  unfold writeCells at hw
  split at hw
  case h_2 => simp at hw
  rename_i blk hg
  have hgi := get_some hg
  have hw' : (blk.m = .own ∨ blk.m = .opn) ∧ p.2 + vs.length ≤ blk.cells.length ∧ vs.all CV.ok = true ∧ H' = H.set p.1 (some { blk with cells := setAt blk.cells p.2 vs }) := by
    split at hw
    · simp at hw
    · split at hw
      · rename_i hm hle
        simp at hw
        refine ⟨?_, hle.1, hle.2, hw.symm⟩
        cases hbm : blk.m with
        | ro => exact absurd hbm hm
        | own => exact .inl rfl
        | opn => exact .inr rfl
      · simp at hw
  obtain ⟨hm, hle, hok, rfl⟩ := hw'
  rcases h.blk p.1 blk hgi with ⟨hm', _⟩ | ⟨_, ⟨b, ys, hb, hB, hh, hcs, hl⟩⟩
  · rw [hm'] at hm; simp at hm
  obtain ⟨b', o', k', hb', rfl⟩ := ha
  rw [hb] at hb'; injection hb' with hb'; injection hb' with e1 hb'; injection hb' with e2 e3
  subst e1; subst e2
  have hlen : blk.cells.length ≤ ys.length := by have := hcs.1; simp at this; omega
  have hlt : b < w.heap.size := (Array.getElem?_eq_some_iff.1 hh).1
  have hst := run_storeCells (P := P) (off := 0 + p.2) xs 0 ys w hh (by rw [← hc.1]; omega) (fun x hx => by
    obtain ⟨j, hj⟩ := List.getElem?_of_mem hx
    have hj' : j < vs.length := by rw [hc.1]; exact (List.getElem?_eq_some_iff.1 hj).1
    obtain ⟨y, h1, h2⟩ := hc.2 j vs[j] (List.getElem?_eq_getElem hj')
    rw [hj] at h1; injection h1 with h1; subst h1
    exact CV.ok_store (List.all_eq_true.1 hok _ (List.getElem_mem hj')) h2)
  refine ⟨_, hst, ?_⟩
  simp only [Nat.zero_add, Nat.add_zero]
  have hp : p.1 < H.length := (List.getElem?_eq_some_iff.1 hgi).1
  have hset : ∀ (j : Nat) (bj : Blk), (H.set p.1 (some { blk with cells := setAt blk.cells p.2 vs }))[j]? = some (some bj) → (j = p.1 ∧ bj = { blk with cells := setAt blk.cells p.2 vs }) ∨ (j ≠ p.1 ∧ H[j]? = some (some bj)) := by
    intro j bj hj
    by_cases hij : p.1 = j
    · subst hij
      rw [List.getElem?_set_self hp] at hj
      simp at hj
      exact .inl ⟨rfl, hj.symm⟩
    · rw [List.getElem?_set_ne hij] at hj
      exact .inr ⟨fun e => hij e.symm, hj⟩
  refine ⟨⟨by simp [h.len], by rw [setBlk_size]; exact h.base, fun j bj hj => ?_, ?_⟩, .refl _, ⟨rfl, rfl, rfl, by rw [setBlk_size]; exact Nat.le_refl _, fun k hk => setBlk_ne (by omega)⟩, fun k hk hn => setBlk_ne (fun e => hn (e ▸ ⟨p.1, blk, 0, hgi, hm, _, hb⟩)), ?_⟩
  · rcases hset j bj hj with ⟨rfl, rfl⟩ | ⟨hne, hj⟩
    · refine .inr ⟨hm, ⟨b, setL ys p.2 xs, ?_, hB, setBlk_same hlt, ?_, ?_⟩⟩
      · rw [setL_len (by rw [← hc.1]; omega)]; exact hb
      · simp only
        rw [setAt_len hle, setL_take (by rw [← hc.1]; exact hle) hlen]
        exact hcs.set hc
      · intro ho
        simp only
        rw [setL_len (by rw [← hc.1]; omega), setAt_len hle]
        exact hl ho
    · refine BlkRel.kept (.refl _) (fun k hk => setBlk_ne (by omega)) (fun hbm k o n hk => setBlk_ne (fun e => ?_)) (h.blk j bj hj)
      subst e
      exact hne (h.inj j p.1 bj blk b o 0 n _ hj hgi hbm hm hk hb)
  · intro i j bi bj k oi oj ki kj hi hj hmi hmj hbi hbj
    rcases hset i bi hi with ⟨rfl, rfl⟩ | ⟨hni, hi⟩ <;> rcases hset j bj hj with ⟨rfl, rfl⟩ | ⟨hnj, hj⟩
    · rfl
    · exact (h.inj p.1 j blk bj k oi oj ki kj hgi hj hm hmj hbi hbj)
    · exact (h.inj i p.1 bi blk k oi oj ki kj hi hgi hmi hm hbi hbj)
    · exact h.inj i j bi bj k oi oj ki kj hi hj hmi hmj hbi hbj
  · rintro k _ ⟨i, bi, o, hi, hmi, n, hbi⟩
    rcases hset i bi hi with ⟨rfl, rfl⟩ | ⟨hni, hi⟩
    · exact ⟨p.1, blk, o, hgi, hm, n, hbi⟩
    · exact ⟨i, bi, o, hi, hmi, n, hbi⟩

/-- A block of the call's own, turned in place; its id is dead, a new one tells it. -/
theorem HR.grow {B0 : Nat} {β : Beta} {H : AHeap} {w : World} (h : HR B0 β H w) {i : Nat} {blk : Blk} (hg : H[i]? = some (some blk)) (hm : blk.m = .own ∨ blk.m = .opn) {b : Nat} {ys ys' : List Value} (hβ : β[i]? = some (b, 0, ys.length)) (hB : B0 ≤ b) (hh : w.heap[b]? = some (.cells ys.toArray blk.e (0, 0)))
    {cs : List CV} (hlen : ys'.length = ys.length) (hc : Cells β cs (ys'.take cs.length)) :
    Go_ B0 β H w (β ++ [(b, 0, ys.length)]) (H.set i none ++ [some ⟨blk.e, cs, .opn⟩]) (setBlk w b (.cells ys'.toArray blk.e (0, 0))) := by
  have hlt : b < w.heap.size := (Array.getElem?_eq_some_iff.1 hh).1
  have he : Ext β (β ++ [(b, 0, ys.length)]) := ⟨_, rfl⟩
  -- an id of the new heap
  have key : ∀ (j : Nat) (bj : Blk), (H.set i none ++ [some ⟨blk.e, cs, .opn⟩])[j]? = some (some bj) → (j ≠ i ∧ H[j]? = some (some bj)) ∨ (j = H.length ∧ bj = ⟨blk.e, cs, .opn⟩) := by
    intro j bj hj
    rcases getElem?_snoc hj with hj | ⟨hj, hb⟩
    · by_cases hij : i = j
      · subst hij
        rw [List.getElem?_set_self'] at hj
        cases hh : H[i]? <;> simp [hh] at hj
      · rw [List.getElem?_set_ne hij] at hj
        exact .inl ⟨fun e => hij e.symm, hj⟩
    · exact .inr ⟨by simpa using hj, by simpa using hb⟩
  have hne : ∀ (j : Nat) (bj : Blk) (k o n : Nat), j ≠ i → H[j]? = some (some bj) → (bj.m = .own ∨ bj.m = .opn) → β[j]? = some (k, o, n) → k ≠ b := by
    intro j bj k o n hji hj hmj hbj e
    subst e
    exact hji (h.inj j i bj blk k o 0 n _ hj hg hmj hm hbj hβ)
  have hbeta : ∀ (j : Nat) (x : Nat × Nat × Nat), j < H.length → (β ++ [(b, 0, ys.length)])[j]? = some x → β[j]? = some x := by
    intro j x hj hx
    rwa [List.getElem?_append_left (by rw [h.len]; exact hj)] at hx
  have hlast : (β ++ [(b, 0, ys.length)])[H.length]? = some (b, 0, ys.length) := by
    rw [List.getElem?_append_right (by rw [h.len]; exact Nat.le_refl _), h.len]; simp
  refine ⟨⟨by simp [h.len], by rw [setBlk_size]; exact h.base, fun j bj hj => ?_, ?_⟩, he, ⟨rfl, rfl, rfl, by rw [setBlk_size]; exact Nat.le_refl _, fun k hk => setBlk_ne (by omega)⟩, fun k hk hn => setBlk_ne (fun e => hn (e ▸ ⟨i, blk, 0, hg, hm, _, hβ⟩)), ?_⟩
  · rcases key j bj hj with ⟨hji, hj⟩ | ⟨rfl, rfl⟩
    · exact BlkRel.kept he (fun k hk => setBlk_ne (by omega)) (fun hmj k o n hk => setBlk_ne (fun e => hne j bj k o n hji hj hmj hk e.symm)) (h.blk j bj hj)
    · exact .inr ⟨.inr rfl, ⟨b, ys', by rw [hlen]; exact hlast, hB, setBlk_same hlt, hc.ext he, fun e => by cases e⟩⟩
  · intro j1 j2 b1 b2 k o1 o2 n1 n2 h1 h2 hm1 hm2 e1 e2
    rcases key j1 b1 h1 with ⟨hj1, h1⟩ | ⟨hj1, h1⟩ <;> rcases key j2 b2 h2 with ⟨hj2, h2⟩ | ⟨hj2, h2⟩
    · exact h.inj j1 j2 b1 b2 k o1 o2 n1 n2 h1 h2 hm1 hm2 (hbeta _ _ (List.getElem?_eq_some_iff.1 h1).1 e1) (hbeta _ _ (List.getElem?_eq_some_iff.1 h2).1 e2)
    · subst hj2
      rw [hlast] at e2; injection e2 with e2; injection e2 with e2 _
      exact absurd e2.symm (hne j1 b1 k o1 n1 hj1 h1 hm1 (hbeta _ _ (List.getElem?_eq_some_iff.1 h1).1 e1))
    · subst hj1
      rw [hlast] at e1; injection e1 with e1; injection e1 with e1 _
      exact absurd e1.symm (hne j2 b2 k o2 n2 hj2 h2 hm2 (hbeta _ _ (List.getElem?_eq_some_iff.1 h2).1 e2))
    · omega
  · rintro k _ ⟨j, bj, o, hj, hmj, n, hbj⟩
    rcases key j bj hj with ⟨hji, hj⟩ | ⟨rfl, rfl⟩
    · exact ⟨j, bj, o, hj, hmj, n, hbeta _ _ (List.getElem?_eq_some_iff.1 hj).1 hbj⟩
    · rw [hlast] at hbj; injection hbj with hbj; injection hbj with hbj _
      subst hbj
      exact ⟨i, blk, 0, hg, hm, _, hβ⟩

end Go.Proofs.Ytebdajfangbdpaa.VI
