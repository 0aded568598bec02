/- What functions of the program answer: parts InsB Ok2. -/
import Derived.Test.YtcfabmmonoljeaaDoorInsA
import Derived.Test.YtcfabmmonoljeaaDoorCode
import Derived.Test.YtcfabmmonoljeaaDoorNats
/- What functions of the program answer: part InsB. -/
set_option linter.unusedVariables false
set_option linter.unusedSimpArgs false
set_option linter.unusedSectionVars false
namespace Go.Proofs.YtcfabmmonoljeaaDoor
open Go Go.RowKit Go.Proofs.YtcfabmmonoljeaaDoor.VI
set_option maxHeartbeats 4000000
/-! The rows behind an insertion -/
section
variable {ys xs mid : List Value} {A B C : Nat}
theorem setL_end (h : A ≤ ys.length) : setL ys A xs = ys.take A ++ (xs ++ (ys.take A).drop A) ++ ys.drop (A + xs.length) := by
  have e : (ys.take A).drop A = [] := List.drop_eq_nil_of_le (by rw [List.length_take]; omega)
  rw [e, List.append_nil]; rfl
theorem setL_mid (hC : C ≤ ys.length) (hB : B ≤ C) (hA : A = B + xs.length) (hm : mid = (ys.take C).drop B) (hle : C + xs.length ≤ ys.length) : setL (setL ys A mid) B xs = ys.take B ++ (xs ++ (ys.take C).drop B) ++ ys.drop (C + xs.length) := by
  have hml : mid.length = C - B := by rw [hm]; simp; omega
  have e1 : setL ys A mid = ys.take A ++ (mid ++ ys.drop (A + mid.length)) := by unfold setL; rw [List.append_assoc]
  have hAl : (ys.take A).length = A := by rw [List.length_take]; omega
  rw [e1]
  unfold setL
  have e2 : (ys.take A ++ (mid ++ ys.drop (A + mid.length))).take B = ys.take B := by
    rw [List.take_append_of_le_length (by omega), List.take_take, Nat.min_eq_left (by omega)]
  have e3 : (ys.take A ++ (mid ++ ys.drop (A + mid.length))).drop (B + xs.length) = mid ++ ys.drop (A + mid.length) := by
    rw [← hA]; exact List.drop_left' hAl
  rw [e2, e3, hm, show A + ((ys.take C).drop B).length = C + xs.length by rw [← hm, hml]; omega]
  simp only [List.append_assoc]
/-- Into a row of the call's own, that begins with the first part. -/
theorem setL_new {pre zs rest0 : List Value} (hz : zs.length = xs.length + mid.length) : setL (setL (pre ++ (zs ++ rest0)) pre.length xs) (pre.length + xs.length) mid = pre ++ (xs ++ mid) ++ rest0 := by
  have e1 : setL (pre ++ (zs ++ rest0)) pre.length xs = pre ++ (xs ++ (zs ++ rest0).drop xs.length) := by
    unfold setL
    rw [List.take_left' rfl, List.append_assoc, ← List.drop_drop, List.drop_left' rfl]
  rw [e1]
  unfold setL
  have hpx : (pre ++ xs).length = pre.length + xs.length := by simp
  have e2 : (pre ++ (xs ++ (zs ++ rest0).drop xs.length)).take (pre.length + xs.length) = pre ++ xs := by
    rw [← List.append_assoc]; exact List.take_left' hpx
  have e3 : (pre ++ (xs ++ (zs ++ rest0).drop xs.length)).drop (pre.length + xs.length + mid.length) = rest0 := by
    rw [← List.append_assoc, ← List.drop_drop, List.drop_left' hpx, List.drop_drop, ← hz, List.drop_left' rfl]
  rw [e2, e3]
  simp only [List.append_assoc]
end
theorem zeroCells_len {n : Nat} : (Builtin.zeroCells (Value.agg #[.int .i8 0, .int .i16 0]).cells n).toList.length = n * 2 := by
  simp [Builtin.zeroCells, Value.cells]
theorem insRun : InsRun Tryd.prog 92 91 2 4 where
  fn := ⟨_, Tryd.func92, by kernel_rfl, by kernel_rfl⟩
  pos := by omega
  empty := fun w base vb vo m xs hm hb hxl hxs hxo => by
    obtain ⟨nc, rest, h1, h2, hr⟩ := app_new' (w := w) (len := 0) (c := 0) (m := m) (base := base) (old := []) (xs := xs) (vb := vb) (vo := vo) (by simpa using hb) (by omega) (fun k => by
      simp only [Builtin.firstCells]
      cases base with
      | none => simp
      | some a =>
        have := Go.Proofs.YtcfabmmonoljeaaDoor.VI.run_loadCellsFrom (P := Tryd.prog) (w := w.drewN k) (a := a) [] 0 #[] (fun j x hj => by simp at hj)
        simpa [loadCells] using this) hxl hxs 24
    refine (ins_end_new base vb vo 0 0 m nc _ w hm (by omega) (fun _ => rfl) hr).mono ?_
    rintro r w' ⟨rfl, rfl⟩
    exact ⟨1, nc, rest, by omega, by rw [h2, Nat.zero_add], by rw [Nat.zero_add], by simp⟩
  room := fun w b vb vo len c k m ys xs zs e' hm hl hk hroom hbb hyl hb hvb hz hxl hxs hxo hyo => by
    have hcl : len * 2 + m * 2 ≤ ys.length := by omega
    rcases Nat.lt_or_ge k len with hlt | hge
    · refine (ins_shift b vb vo len c k m ys xs zs w e' hm hlt hroom (by omega) hyl hb hvb hz hxl hxs hxo hyo).mono ?_
      rintro r w' ⟨rfl, n, rfl⟩
      have e := setL_mid (ys := ys) (xs := xs) (mid := (ys.take (len * 2)).drop (k * 2)) (A := (k + m) * 2) (B := k * 2) (C := len * 2) (by omega) (by omega) (by omega) rfl (by omega)
      refine ⟨n, ys.drop (len * 2 + xs.length), rfl, ?_, by rw [e]⟩
      simp only [List.length_append, List.length_take, List.length_drop]; omega
    · have : k = len := by omega
      subst this
      refine (ins_end_room b vb vo k c m ys xs w hm hroom hyl hb hxl hxs hxo).mono ?_
      rintro r w' ⟨rfl, rfl⟩
      refine ⟨0, ys.drop (k * 2 + xs.length), rfl, ?_, ?_⟩
      · simp only [List.length_append, List.length_take, List.length_drop]; omega
      · rw [setL_end (by omega)]; rfl
  grow := fun w b vb vo len c k m ys xs hm hl hk hc hroom hbb hyl hb hxl hxs hxo hyo => by
    have hcl : len * 2 ≤ ys.length := by omega
    have hcy : ∀ (W : World) (j : Nat) (x : Value), W.heap[b]? = some (.cells ys.toArray 91 (0, 0)) → ys[j]? = some x → W.cell? ⟨b, j, none⟩ = some x := fun W j x h hj => by
      simp [World.cell?, h, hj]
    have hold : ∀ (t : Nat), t ≤ len → ∀ n, (Builtin.firstCells 2 t (.slice (some ⟨b, 0, none⟩) t c)).run Tryd.prog (w.drewN n) = .ok (ys.take (t * 2)).toArray (w.drewN n) := fun t ht n =>
      first_sl (by rw [List.length_take]; omega) (fun j x hj => by
        rw [add_plain, Nat.zero_add]
        refine hcy _ j x hb ?_
        have := (List.getElem?_eq_some_iff.1 hj).1
        rw [List.length_take] at this
        rwa [List.getElem?_take_of_lt (by omega)] at hj)
    rcases Nat.lt_or_ge k len with hlt | hge
    · obtain ⟨i, q1, q2, q3, q4⟩ := inf119
      have hik : k + (len + m - k) = len + m := by omega
      have hfit := growslice_fits (need := len + m) (old := c) (bytes := 4) hroom (by omega)
      have h0 := Lib.run_append_grow_zeros (P := Tryd.prog) w 24 3 24 91 i _ .i64 .i64 t33 t3 q1 q4 (some ⟨b, 0, none⟩) k c (ys.take (k * 2)) (by rw [q2]; exact hold k (by omega) 1) (len + m - k) (by omega) (by omega) (by omega) (by omega) (by rw [q3]; omega) (by rw [q3, hik]; exact hfit)
      rw [hik] at h0
      have hGn : len + m ≤ grownCap w (len + m) c 91 := grownCap_ge w _ _ _
      generalize hG : grownCap w (len + m) c 91 = G at h0 hGn
      clear hG
      obtain ⟨Z1, hZ1⟩ : ∃ Z, Z = (Builtin.zeroCells (Value.agg #[.int .i8 0, .int .i16 0]).cells (len + m - k)).toList := ⟨_, rfl⟩
      obtain ⟨Z2, hZ2⟩ : ∃ Z, Z = (Builtin.zeroCells (Value.agg #[.int .i8 0, .int .i16 0]).cells (G - (len + m))).toList := ⟨_, rfl⟩
      have hl1 : Z1.length = (len + m - k) * 2 := by rw [hZ1]; exact zeroCells_len
      have hl2 : Z2.length = (G - (len + m)) * 2 := by rw [hZ2]; exact zeroCells_len
      have hrow : (ys.take (k * 2)).toArray ++ Builtin.zeroCells (Value.agg #[.int .i8 0, .int .i16 0]).cells (len + m - k) ++ Builtin.zeroCells (Value.agg #[.int .i8 0, .int .i16 0]).cells (G - (len + m)) = (ys.take (k * 2) ++ (Z1 ++ Z2)).toArray := by
        apply Array.ext'
        simp [hZ1, hZ2]
      rw [hrow] at h0
      clear hrow hZ1 hZ2
      have hpl : (ys.take (k * 2)).length = k * 2 := by rw [List.length_take]; omega
      obtain ⟨mid, hmid⟩ : ∃ mid, mid = (ys.take (len * 2)).drop (k * 2) := ⟨_, rfl⟩
      have hml : mid.length = (len - k) * 2 := by rw [hmid]; simp; omega
      have hblt : b < w.heap.size := (Array.getElem?_eq_some_iff.1 hb).1
      have hvlt : vb < w.heap.size := cell_lt (hxs 0 _ (List.getElem?_eq_getElem (by omega)))
      have e2 := setL_new (xs := xs) (mid := mid) (pre := ys.take (k * 2)) (zs := Z1) (rest0 := Z2) (by omega)
      rw [hpl] at e2
      generalize hR0 : ys.take (k * 2) ++ (Z1 ++ Z2) = R0 at h0 e2
      have hRl : R0.length = G * 2 := by rw [← hR0]; simp only [List.length_append, hpl, hl1, hl2]; omega
      have h1 : ∀ ty dc, (Builtin.copy_ #[24, 24] ty #[.slice (some ⟨w.heap.size, k * 2, none⟩) (len + m - k) dc, .slice (some ⟨vb, vo, none⟩) m m]).run Tryd.prog ((w.drewN 1).alloc (.cells R0.toArray 91 (0, 0))) = .ok (goInt (Nat.min m (len + m - k))) ((w.drewN 1).alloc (.cells (setL R0 (k * 2) xs).toArray 91 (0, 0))) := fun ty dc => by
        have := run_copy_blk (P := Tryd.prog) (w := (w.drewN 1).alloc (.cells R0.toArray 91 (0, 0))) (dT := 24) (sT := 24) (ty := ty) (b := w.heap.size) (dLen := len + m - k) (dCap := dc) (sLen := m) (sCap := m) (o := k * 2) (a := ⟨vb, vo, none⟩) t33 i119 (alloc_heap_new (w.drewN 1) _) (xs := xs) (by rw [hxl]; simp only [Nat.min_def]; split <;> omega) (fun j x hj => by
          rw [add_plain]
          have := hxs j x hj
          rw [← this]
          unfold World.cell?
          simp only [alloc_heap_lt (w.drewN 1) (.cells R0.toArray 91 (0, 0)) (k := vb) hvlt]
          rfl) (by omega) hxo
        rw [show w.heap.size = (w.drewN 1).heap.size from rfl, setBlk_alloc] at this
        exact this
      have hS1 : (setL R0 (k * 2) xs).length = R0.length := setL_len (by omega)
      have h2 : ∀ ty dc sc, (Builtin.copy_ #[24, 24] ty #[.slice (some ⟨w.heap.size, (k + m) * 2, none⟩) (len + m - (k + m)) dc, .slice (some ⟨b, k * 2, none⟩) (len - k) sc]).run Tryd.prog ((w.drewN 1).alloc (.cells (setL R0 (k * 2) xs).toArray 91 (0, 0))).drew = .ok (goInt (Nat.min (len - k) (len + m - (k + m)))) ((w.drewN 2).alloc (.cells (setL (setL R0 (k * 2) xs) ((k + m) * 2) mid).toArray 91 (0, 0))) := fun ty dc sc => by
        have hd : ((w.drewN 1).alloc (.cells (setL R0 (k * 2) xs).toArray 91 (0, 0))).drew = (w.drewN 2).alloc (.cells (setL R0 (k * 2) xs).toArray 91 (0, 0)) := rfl
        rw [hd]
        have := run_copy_blk (P := Tryd.prog) (w := (w.drewN 2).alloc (.cells (setL R0 (k * 2) xs).toArray 91 (0, 0))) (dT := 24) (sT := 24) (ty := ty) (b := w.heap.size) (dLen := len + m - (k + m)) (dCap := dc) (sLen := len - k) (sCap := sc) (o := (k + m) * 2) (a := ⟨b, k * 2, none⟩) t33 i119 (alloc_heap_new (w.drewN 2) _) (xs := mid) (by rw [hml]; simp only [Nat.min_def]; split <;> omega) (fun j x hj => by
          rw [add_plain]
          refine hcy _ _ x (by rw [alloc_heap_lt (w.drewN 2) _ hblt]; exact hb) ?_
          rw [hmid, List.getElem?_drop] at hj
          have := (List.getElem?_eq_some_iff.1 hj).1
          rw [List.length_take] at this
          rwa [List.getElem?_take_of_lt (by omega)] at hj) (by omega) (fun x hx => hyo x (by rw [hmid] at hx; exact List.mem_of_mem_drop hx))
        rw [show w.heap.size = (w.drewN 2).heap.size from rfl, setBlk_alloc] at this
        exact this
      have hkm : k * 2 + xs.length = (k + m) * 2 := by omega
      rw [hkm] at e2
      rw [e2] at h2
      refine (ins_grow b vb vo len c k m w.heap.size G w _ _ _ hm hlt hc hroom (by omega) hGn (by
        have hi : (len : Int) + (m : Int) - (k : Int) = ((len + m - k : Nat) : Int) := by omega
        rw [hi]; exact h0) _ h1 _ h2).mono ?_
      rintro r w' ⟨rfl, rfl⟩
      exact ⟨2, G, Z2, hGn, hl2, rfl, by rw [hmid]⟩
    · have : k = len := by omega
      subst this
      obtain ⟨nc, rest, h1, h2, hr⟩ := app_new' (w := w) (len := k) (c := c) (m := m) (base := some ⟨b, 0, none⟩) (old := ys.take (k * 2)) (xs := xs) (vb := vb) (vo := vo) hbb hroom (fun n => by
        have := hold k (Nat.le_refl _) n
        simpa [Builtin.firstCells] using this) hxl hxs 24
      refine (ins_end_new (some ⟨b, 0, none⟩) vb vo k c m nc _ w hm hroom (fun h => by cases h) hr).mono ?_
      rintro r w' ⟨rfl, rfl⟩
      refine ⟨1, nc, rest, h1, h2, rfl, ?_⟩
      have e : (ys.take (k * 2)).drop (k * 2) = [] := List.drop_eq_nil_of_le (by rw [List.length_take]; omega)
      rw [e, List.append_nil]
end Go.Proofs.YtcfabmmonoljeaaDoor

/- What functions of the program answer: part Ok2. -/
set_option linter.unusedVariables false
set_option linter.unusedSimpArgs false
set_option linter.unusedSectionVars false
namespace Go.Proofs.YtcfabmmonoljeaaDoor
open Go Go.RowKit Go.Proofs.YtcfabmmonoljeaaDoor.VI
theorem ok80 : NatOk Tryd.prog 80 1 decA := nat_dec fn80 fun n w hn => (dec_calls n hn w).mono fun e w' h => ⟨by rw [h.1]; simp [decB, decD_eq], h.2⟩
theorem callok : CallOk Tryd.prog (ev kk) := callok_of ok80 (nat_ins insRun)
end Go.Proofs.YtcfabmmonoljeaaDoor
