/- What functions of the program answer: parts Copies Pairs Tm. -/
import Derived.Test.YtcfabmmonoljeaaDoorWood
import Derived.Test.YtcfabmmonoljeaaDoorViE
/- What functions of the program answer: part Copies. -/
set_option linter.unusedVariables false
set_option linter.unusedSimpArgs false
set_option linter.unusedSectionVars false
namespace Go.Proofs.YtcfabmmonoljeaaDoor
open Go Go.Proofs.YtcfabmmonoljeaaDoor.VI
set_option maxHeartbeats 16000000
set_option maxRecDepth 20000
/-! Copies of halves -/
abbrev ncpy (xs : List Nt) : Option Blk := some ⟨91, nrows xs, .own⟩
theorem nts_cpyk {H : AHeap} {k : Nat} {xs : List Nt} {t : List (Option Blk)} (h : t[k]? = some (ncpy xs)) : Nts (H ++ t) (some (H.length + k, 0)) xs := fun _ => ⟨H.length + k, 91, .own, rfl, by rw [get_app, h]; rfl⟩
abbrev hc (e : TypeId) (st : Bool) (p : Option (Nat × Nat)) (n : Nat) (cap : Cap) (g : List Int) : Option Blk := some ⟨e, hrow st p n cap g, .own⟩
theorem grow_ok {g : List Int} : (grow g).all CV.ok = true := by simp [grow, CV.ok]
theorem okH_p {xs : List Nt} {g : List Int} (h : okH xs g = true) : xs.length ≤ 60 ∧ (∀ x ∈ xs, okN x = true) ∧ g.all gq = true := by
  unfold okH at h
  rw [Bool.and_eq_true, Bool.and_eq_true] at h
  obtain ⟨⟨h1, h2⟩, h3⟩ := h
  refine ⟨of_decide_eq_true h1, ?_, h3⟩
  have : ∀ (ys : List Nt) (pv : Option Nt), ntsG pv ys = true → ∀ x ∈ ys, okN x = true := by
    intro ys
    induction ys with
    | nil => intro _ _ x hx; cases hx
    | cons y ys ih =>
      intro pv h x hx
      have h : ((okN y && nxtOk pv y) && ntsG (some y) ys) = true := h
      rw [Bool.and_eq_true, Bool.and_eq_true] at h
      rcases List.mem_cons.1 hx with rfl | hx
      · exact h.1.1
      · exact ih _ h.2 x hx
  exact this xs none h2
/-- The wood of a half, with a code. -/
def woR (xs : List Nt) (g : List Int) : List Int := if okH xs g = true then wdL xs [0, 0, 0, 0] else [0, 0, 0, 0]
def woC (xs : List Nt) (g : List Int) : Int := if okH xs g = true then 0 else 1
end Go.Proofs.YtcfabmmonoljeaaDoor

/- What functions of the program answer: part Pairs. -/
set_option linter.unusedVariables false
set_option linter.unusedSimpArgs false
set_option linter.unusedSectionVars false
namespace Go.Proofs.YtcfabmmonoljeaaDoor
open Go Go.Proofs.YtcfabmmonoljeaaDoor.VI
set_option maxHeartbeats 16000000
set_option maxRecDepth 20000
/-! Whether wood is in wood -/
def inWl (w v : List Int) : Bool := (((vandNot .u64 (w.getD 0 0) (v.getD 0 0) == 0) && (vandNot .u64 (w.getD 1 0) (v.getD 1 0) == 0)) && (vandNot .u64 (w.getD 2 0) (v.getD 2 0) == 0)) && (vandNot .u64 (w.getD 3 0) (v.getD 3 0) == 0)
theorem bne_ite {α : Type} {x y : Int} {p q : α} : (if (x != y) = true then p else q) = if x = y then q else p := by
  by_cases h : x = y <;> simp [h]
theorem run20 {w v : List Int} (hw : w.length = 4) (hv : v.length = 4) (H : AHeap) : ev kk 20 [.agg (wrow w), .agg (wrow v)] H = some (.c (.bool (inWl w v)), H) := by
  match w, hw, v, hv with
  | [a, b, c, d], _, [a', b', c', d'], _ =>
    have e : inWl [a, b, c, d] [a', b', c', d'] = ((((vandNot .u64 a a' == 0) && (vandNot .u64 b b' == 0)) && (vandNot .u64 c c' == 0)) && (vandNot .u64 d d' == 0)) := rfl
    rw [e, ev_call c20]; unfold k20; rw [evB_eq rfl]
    by_cases h1 : vandNot .u64 a a' = 0
    · by_cases h2 : vandNot .u64 b b' = 0
      · by_cases h3 : vandNot .u64 c c' = 0
        · by_cases h4 : vandNot .u64 d d' = 0
          · simp only [evC_skip, evC_exit, evC_ret, evC_region, evC_seq, evC_block, ev_t, ev_k, putS_some, upd_l, ops_nil, evC_condC, cond_bool, evC_loop, ops_cons, next_some, nextD_some, then_norm, then_exit, out_norm, out_exit, done_ret, putL, getL, Option.bind_some, Option.map_some, evalOp, AV.cells?, readCell, get_app, get_app0, len_app, List.getElem?_cons_zero, List.getElem?_cons_succ, Option.join_some, List.length_cons, List.length_nil, List.append_assoc, List.cons_append, List.nil_append, Nat.zero_add, Nat.add_zero, Nat.reduceMul, ↓reduceIte, reduceCtorEq, binA, binC, intBin, or_false, or_true, Int.reduceLT, Int.reduceLE, Int.reduceToNat, Int.reduceAdd, evalRs, evalR, AV.toV0?, mkRes, V0.toAV, decide_true, decide_false, and_self, lst_get, Int.cast_ofNat_Int, eq_self, IntWalk.i64_in, Int.reduceNeg, finish_app, pl_bool, plA_c, Bool.and_true, beq_self_eq_true, Bool.false_eq_true, List.map_cons, List.map_nil, bne_self_eq_false, evC_drawn, dr_nil, dr_cons, chk_nil, Int.zero_add, l20_0, h1, h2, h3, h4]
          · have h4' : (vandNot .u64 d d' == 0) = false := by simpa using h4
            simp only [evC_skip, evC_ret, evC_region, evC_seq, evC_block, ev_t, ev_k, putS_some, upd_l, ops_nil, evC_condC, cond_bool, evC_loop, ops_cons, next_some, nextD_some, then_norm, then_ret, out_norm, out_ret, done_ret, putL, getL, Option.bind_some, Option.map_some, evalOp, AV.cells?, readCell, get_app, get_app0, len_app, List.getElem?_cons_zero, List.getElem?_cons_succ, Option.join_some, List.length_cons, List.length_nil, List.append_assoc, List.cons_append, List.nil_append, Nat.zero_add, Nat.add_zero, Nat.reduceMul, ↓reduceIte, reduceCtorEq, binA, binC, intBin, or_false, or_true, Int.reduceLT, Int.reduceLE, Int.reduceToNat, Int.reduceAdd, evalRs, evalR, AV.toV0?, mkRes, V0.toAV, decide_true, and_self, lst_get, Int.cast_ofNat_Int, eq_self, IntWalk.i64_in, Int.reduceNeg, finish_app, pl_bool, plA_c, Bool.and_true, beq_self_eq_true, Bool.false_eq_true, List.map_cons, List.map_nil, bne_self_eq_false, evC_drawn, dr_nil, dr_cons, chk_nil, Int.zero_add, l20_0, bne_ite, h1, h2, h3, h4, h4', Bool.and_false]
        · have h3' : (vandNot .u64 c c' == 0) = false := by simpa using h3
          simp only [evC_skip, evC_ret, evC_region, evC_seq, evC_block, ev_t, ev_k, putS_some, upd_l, ops_nil, evC_condC, cond_bool, evC_loop, ops_cons, next_some, nextD_some, then_norm, then_ret, out_norm, out_ret, done_ret, putL, getL, Option.bind_some, Option.map_some, evalOp, AV.cells?, readCell, get_app, get_app0, len_app, List.getElem?_cons_zero, List.getElem?_cons_succ, Option.join_some, List.length_cons, List.length_nil, List.append_assoc, List.cons_append, List.nil_append, Nat.zero_add, Nat.add_zero, Nat.reduceMul, ↓reduceIte, reduceCtorEq, binA, binC, intBin, or_false, or_true, Int.reduceLT, Int.reduceLE, Int.reduceToNat, Int.reduceAdd, evalRs, evalR, AV.toV0?, mkRes, V0.toAV, decide_true, and_self, lst_get, Int.cast_ofNat_Int, eq_self, IntWalk.i64_in, Int.reduceNeg, finish_app, pl_bool, plA_c, Bool.and_true, beq_self_eq_true, Bool.false_eq_true, List.map_cons, List.map_nil, bne_self_eq_false, evC_drawn, dr_nil, dr_cons, chk_nil, Int.zero_add, l20_0, bne_ite, h1, h2, h3, h3', Bool.and_false, Bool.false_and]
      · have h2' : (vandNot .u64 b b' == 0) = false := by simpa using h2
        simp only [evC_skip, evC_ret, evC_region, evC_seq, evC_block, ev_t, ev_k, putS_some, upd_l, ops_nil, evC_condC, cond_bool, evC_loop, ops_cons, next_some, nextD_some, then_norm, then_ret, out_norm, out_ret, done_ret, putL, getL, Option.bind_some, Option.map_some, evalOp, AV.cells?, readCell, get_app, get_app0, len_app, List.getElem?_cons_zero, List.getElem?_cons_succ, Option.join_some, List.length_cons, List.length_nil, List.append_assoc, List.cons_append, List.nil_append, Nat.zero_add, Nat.add_zero, Nat.reduceMul, ↓reduceIte, reduceCtorEq, binA, binC, intBin, or_false, or_true, Int.reduceLT, Int.reduceLE, Int.reduceToNat, evalRs, evalR, AV.toV0?, mkRes, V0.toAV, decide_true, and_self, lst_get, Int.cast_ofNat_Int, eq_self, IntWalk.i64_in, Int.reduceNeg, finish_app, pl_bool, plA_c, beq_self_eq_true, Bool.false_eq_true, List.map_cons, List.map_nil, bne_self_eq_false, evC_drawn, dr_nil, dr_cons, chk_nil, Int.zero_add, l20_0, bne_ite, h1, h2, h2', Bool.and_false, Bool.false_and]
    · have h1' : (vandNot .u64 a a' == 0) = false := by simpa using h1
      simp only [evC_skip, evC_ret, evC_region, evC_seq, evC_block, ev_t, ev_k, putS_some, upd_l, ops_nil, evC_condC, cond_bool, evC_loop, ops_cons, next_some, nextD_some, then_norm, then_ret, out_ret, done_ret, putL, getL, Option.bind_some, Option.map_some, evalOp, AV.cells?, readCell, get_app, get_app0, len_app, List.getElem?_cons_zero, List.getElem?_cons_succ, Option.join_some, List.length_cons, List.length_nil, List.append_assoc, List.cons_append, List.nil_append, Nat.zero_add, Nat.add_zero, Nat.reduceMul, ↓reduceIte, reduceCtorEq, binA, binC, intBin, or_false, or_true, Int.reduceLT, Int.reduceLE, Int.reduceToNat, evalRs, evalR, AV.toV0?, mkRes, V0.toAV, decide_true, and_self, lst_get, Int.cast_ofNat_Int, eq_self, finish_app, pl_bool, plA_c, List.map_cons, List.map_nil, evC_drawn, dr_nil, dr_cons, chk_nil, l20_0, bne_ite, h1, h1', Bool.false_and]
/-! Halves -/
structure Hf where
  st : Bool
  p : Option (Nat × Nat)
  cap : Cap
  xs : List Nt
  g : List Int
  g16 : g.length = 16
abbrev hfr (h : Hf) : List CV := hrow h.st h.p h.xs.length h.cap h.g
def okF (h : Hf) : Bool := okH h.xs h.g
/-- Such a half may be read. -/
structure HfAt (H : AHeap) (h : Hf) : Prop where
  few : h.xs.length ≤ 4398046511104
  rng : ∀ x ∈ h.xs, rngN x
  at_ : Nts H h.p h.xs
theorem HfAt.app {H : AHeap} {h : Hf} (q : HfAt H h) (t : List (Option Blk)) : HfAt (H ++ t) h := ⟨q.few, q.rng, q.at_.app t⟩
abbrev hfb (h : Hf) : Option Blk := some ⟨29, hfr h, .own⟩
theorem v70 {H : AHeap} {h : Hf} (q : HfAt H h) : ev kk 19 [.agg (hfr h)] H = some (.c (.bool (okF h)), H) := run19 h.g16 q.few q.rng q.at_
theorem v66 {H : AHeap} {h : Hf} (q : HfAt H h) {j : Nat} {e : TypeId} {m : BM} (hj : H.get j = some ⟨e, hfr h, m⟩) : ev kk 34 [.c (.ptr (some (j, 0)))] H = some (.c (.bool (okF h)), H) := run34 h.g16 q.few q.rng q.at_ hj
def wdF (h : Hf) : List Int := wdL h.xs [0, 0, 0, 0]
theorem wdF_len {h : Hf} : (wdF h).length = 4 := wdL_len _ _
theorem v71 {H : AHeap} {h : Hf} (q : HfAt H h) (ho : okF h = true) : ev kk 40 [.agg (hfr h)] H = some (.agg (wrow (wdF h)), H) := run40 h.g16 q.few q.rng (okH_p ho).2.1 q.at_
theorem hfr_len (h : Hf) : (hfr h).length = 18 := by
  have : (grow h.g).length = 16 := by rw [List.length_map]; exact h.g16
  simp only [hfr, hrow, List.length_cons, this]
theorem gl {h : Hf} : (grow h.g).length = 16 := by rw [List.length_map]; exact h.g16
theorem gt {h : Hf} : List.take 16 (grow h.g) = grow h.g := List.take_of_length_le (by rw [gl]; omega)
section
variable {x y : Hf} {H : AHeap}
def cbB (x y : Hf) : Bool := (okF x && okF y) && ((x.st == y.st) && inWl (wdF x) (wdF y))
def cbC (x y : Hf) : Int := if (okF x && okF y) = true then 0 else 1
end
end Go.Proofs.YtcfabmmonoljeaaDoor

/- What functions of the program answer: part Tm. -/
set_option linter.unusedVariables false
set_option linter.unusedSimpArgs false
set_option linter.unusedSectionVars false
namespace Go.Proofs.YtcfabmmonoljeaaDoor
open Go Go.Proofs.YtcfabmmonoljeaaDoor.VI
set_option maxHeartbeats 16000000
set_option maxRecDepth 20000
/-! New rows of notches -/
def NwN (H J : AHeap) (p : Option (Nat × Nat)) (xs : List Nt) : Prop := 0 < xs.length → ∃ id m, p = some (id, 0) ∧ H.length ≤ id ∧ J.get id = some ⟨91, nrows xs, m⟩ ∧ (m = .own ∨ m = .opn)
theorem NwN.nts {H J : AHeap} {p : Option (Nat × Nat)} {xs : List Nt} (h : NwN H J p xs) : Nts J p xs := fun h0 => by
  obtain ⟨id, m, h1, _, h2, _⟩ := h h0; exact ⟨id, 91, m, h1, h2⟩
theorem NwN.pre {H J K : AHeap} {p : Option (Nat × Nat)} {xs : List Nt} (h : NwN H J p xs) (k : Pre J K) : NwN H K p xs := fun h0 => by
  obtain ⟨id, m, h1, h3, h2, h4⟩ := h h0; exact ⟨id, m, h1, h3, k.get h2, h4⟩
theorem NwN.base {G H J : AHeap} {p : Option (Nat × Nat)} {xs : List Nt} (h : NwN H J p xs) (k : Pre G H) : NwN G J p xs := fun h0 => by
  obtain ⟨id, m, h1, h3, h2, h4⟩ := h h0; exact ⟨id, m, h1, Nat.le_trans k.len h3, h2, h4⟩
theorem Nts.pre {H J : AHeap} {p : Option (Nat × Nat)} {xs : List Nt} (h : Nts H p xs) (k : Pre H J) : Nts J p xs := by obtain ⟨T, rfl⟩ := k; exact h.app T
theorem HfAt.pre {H J : AHeap} {h : Hf} (q : HfAt H h) (k : Pre H J) : HfAt J h := by obtain ⟨T, rfl⟩ := k; exact q.app T
def CloneOf (H J : AHeap) (c : CV) (xs : List Nt) : Prop :=
  (xs = [] ∧ ((∃ cp, c = .slice none 0 cp) ∨ ∃ q, c = .slice (some q) 0 (.exact 0))) ∨ (0 < xs.length ∧ ∃ id, c = .slice (some (id, 0)) xs.length (.toEnd 2) ∧ H.length ≤ id ∧ J.get id = some ⟨91, nrows xs, .opn⟩)
theorem CloneOf.pre {H J K : AHeap} {c : CV} {xs : List Nt} (h : CloneOf H J c xs) (k : Pre J K) : CloneOf H K c xs := by
  rcases h with h | ⟨h1, id, h2, h3, h4⟩
  · exact .inl h
  · exact .inr ⟨h1, id, h2, h3, k.get h4⟩
theorem CloneOf.isC {H J : AHeap} {c : CV} {xs : List Nt} (h : CloneOf H J c xs) : ∃ p cap, c = .slice p xs.length cap ∧ NwN H J p xs := by
  rcases h with ⟨rfl, ⟨cp, rfl⟩ | ⟨q, rfl⟩⟩ | ⟨h1, id, rfl, h3, h4⟩
  · exact ⟨_, _, rfl, fun h => by simp at h⟩
  · exact ⟨_, _, rfl, fun h => by simp at h⟩
  · exact ⟨_, _, rfl, fun _ => ⟨id, .opn, rfl, h3, h4, .inr rfl⟩⟩
theorem nrows_ok {xs : List Nt} : (nrows xs).all CV.ok = true := by
  induction xs with
  | nil => rfl
  | cons x xs ih => simp only [nrows, List.map_cons, List.flatten_cons, List.all_append, ih, Bool.and_true]; rfl
theorem run52 {p : Option (Nat × Nat)} {cap : Cap} {xs : List Nt} (hlen : xs.length ≤ 4398046511104) {H : AHeap} (hp : Nts H p xs) : ∃ c J, ev kk 52 [.c (.slice p xs.length cap)] H = some (.c c, J) ∧ Pre H J ∧ CloneOf H J c xs := by
  rw [ev_call c52]; unfold k52; rw [evB_eq rfl]
  by_cases h0 : 0 < xs.length
  · obtain ⟨id, t, m, rfl, hb⟩ := hp h0
    have hz := apnd_new (H := H ++ [some ⟨91, [], .own⟩]) (q := some (H.length, 0)) (e := 91) (size := 2) (bytes := 4) (cap := cap) (by rw [get_appl (get_some_lt hb)]; exact hb) h0 nrowl (by omega) nrows_ok
    simp (maxSteps := 4000000) (disch := first | omega | (refine _root_.id ?_; simp only [pl_int, pl_bool, pl_str, pl_undef, pl_nil, pl_ptr, plA_c, plA_agg, plA_tup, plV_c, plV_agg, List.all_cons, List.all_nil, Bool.and_true, Bool.and_self, eq_self, vi_int, vi_bool, get_app, get_app0, List.getElem?_cons_zero, List.getElem?_cons_succ, Option.join_some, lst_get, getL, upd_at, upd_ne, Nat.reduceBEq])) only [evC_skip, evC_ret, evC_region, evC_seq, ev_t, ev_k, putS_some, upd_l, ops_nil, evC_condC, cond_bool, ops_cons, next_some, then_norm, done_ret, putL, getL, Option.bind_some, Option.map_some, evalOp, len_app, List.length_cons, List.length_nil, List.append_assoc, List.cons_append, List.nil_append, Nat.zero_add, ↓reduceIte, binA, binC, evalRs, evalR, AV.toV0?, mkRes, V0.toAV, lst_get, Bool.false_eq_true, eqRes, partsA, fillC, finish_no, hz]
    exact ⟨_, _, rfl, pre_app, .inr ⟨h0, H.length + 1, rfl, by omega, by rw [get_app]; rfl⟩⟩
  · have hx : xs = [] := by cases xs with
      | nil => rfl
      | cons x xs => simp at h0
    subst hx
    cases p with
    | none =>
      simp (maxSteps := 4000000) (disch := first | omega | (refine _root_.id ?_; simp only [pl_int, pl_bool, pl_str, pl_undef, pl_nil, pl_ptr, plA_c, plA_agg, plA_tup, plV_c, plV_agg, List.all_cons, List.all_nil, Bool.and_true, Bool.and_self, eq_self, vi_int, vi_bool, get_app, get_app0, List.getElem?_cons_zero, List.getElem?_cons_succ, Option.join_some, lst_get, getL, upd_at, upd_ne, Nat.reduceBEq])) only [evC_skip, evC_ret, evC_region, evC_seq, ev_t, ev_k, putS_some, upd_l, ops_nil, evC_condC, cond_bool, ops_cons, next_some, then_ite, then_norm, then_ret, done_ite, done_ret, putL, getL, Option.bind_some, Option.map_some, evalOp, List.length_nil, binA, binC, evalRs, evalR, AV.toV0?, mkRes, V0.toAV, lst_get, eqRes, partsA, fillC, finish_no]
      exact ⟨_, _, rfl, .refl, .inl ⟨rfl, .inl ⟨_, rfl⟩⟩⟩
    | some q =>
      simp (maxSteps := 4000000) (disch := first | omega | (refine _root_.id ?_; simp only [pl_int, pl_bool, pl_str, pl_undef, pl_nil, pl_ptr, plA_c, plA_agg, plA_tup, plV_c, plV_agg, List.all_cons, List.all_nil, Bool.and_true, Bool.and_self, eq_self, vi_int, vi_bool, get_app, get_app0, List.getElem?_cons_zero, List.getElem?_cons_succ, Option.join_some, lst_get, getL, upd_at, upd_ne, Nat.reduceBEq])) only [evC_skip, evC_ret, evC_region, evC_seq, ev_t, ev_k, putS_some, upd_l, ops_nil, evC_condC, cond_bool, ops_cons, next_some, then_norm, done_ret, putL, getL, Option.bind_some, Option.map_some, evalOp, List.length_nil, ↓reduceIte, binA, binC, evalRs, evalR, AV.toV0?, mkRes, V0.toAV, lst_get, eq_self, Bool.false_eq_true, eqRes, partsA, fillC, finish_no, appendA, srcCells]
      exact ⟨_, _, rfl, pre_app, .inl ⟨rfl, .inr ⟨_, rfl⟩⟩⟩
/-! An insertion -/
theorem rows_take {α : Type} {f : α → List CV} {s : Nat} (hs : ∀ x, (f x).length = s) : ∀ {xs : List α} {i : Nat}, ((xs.map f).flatten).take (i * s) = ((xs.take i).map f).flatten
  | [], i => by simp
  | x :: xs, 0 => by simp
  | x :: xs, i + 1 => by
    have := rows_take hs (xs := xs) (i := i)
    simp only [List.map_cons, List.flatten_cons, List.take_succ_cons]
    rw [← this, Nat.succ_mul, Nat.add_comm, ← hs x, List.take_length_add_append]
theorem rows_drop {α : Type} {f : α → List CV} {s : Nat} (hs : ∀ x, (f x).length = s) : ∀ {xs : List α} {i : Nat}, ((xs.map f).flatten).drop (i * s) = ((xs.drop i).map f).flatten
  | [], i => by simp
  | x :: xs, 0 => by simp
  | x :: xs, i + 1 => by
    have := rows_drop hs (xs := xs) (i := i)
    simp only [List.map_cons, List.flatten_cons, List.drop_succ_cons]
    rw [← this, Nat.succ_mul, Nat.add_comm, ← hs x, List.drop_length_add_append]
theorem nrows_ins {xs : List Nt} {i : Nat} {x : Nt} : (nrows xs).take (i * 2) ++ (nrow x ++ (nrows xs).drop (i * 2)) = nrows (xs.take i ++ x :: xs.drop i) := by
  rw [show nrows xs = (xs.map nrow).flatten from rfl, rows_take nrow_len, rows_drop nrow_len]
  simp [nrows]
theorem run92 {H J : AHeap} {c : CV} {xs : List Nt} {x : Nt} {id i : Nat} (hcl : CloneOf H J c xs) (hpre : Pre H J) (hlen : xs.length ≤ 4398046511104) (hx : J.get id = some ⟨91, nrow x, .own⟩) (hi : i ≤ xs.length) :
    ∃ j K, ev kk 92 [.c c, .c (.int .i64 i), .c (.slice (some (id, 0)) 1 (.exact 1))] J = some (.c (.slice (some (j, 0)) (xs.length + 1) (.toEnd 2)), K) ∧ Pre H K ∧ H.length ≤ j ∧ K.get j = some ⟨91, nrows (xs.take i ++ x :: xs.drop i), .opn⟩ ∧ (∀ k b, J.get k = some b → b.m = .own → K.get k = some b) := by
  have hrc : readCells J (id, 0) (1 * 2) = some (nrow x) := by simp [readCells, hx, nrow]
  have hjl := hpre.len
  rcases hcl with ⟨rfl, hc⟩ | ⟨h1, k, rfl, h3, h4⟩
  · have hi0 : i = 0 := by simpa using hi
    subst hi0
    refine ⟨J.length, J ++ [some ⟨91, nrow x, .opn⟩], ?_, hpre.app _, hjl, by rw [get_app0]; simp [nrows], fun k b hk _ => by rw [get_appl (get_some_lt hk)]; exact hk⟩
    rcases hc with ⟨cp, rfl⟩ | ⟨q, rfl⟩
    · refine ev_nat1 c92 rfl rfl ?_
      simp [insA, hx, hrc, isOwn, CV.ok, nrow]
    · refine ev_nat1 c92 rfl rfl ?_
      simp [insA, hx, hrc, isOwn, CV.ok, nrow]
  · have hk := get_some_lt h4
    refine ⟨J.length, J.set k none ++ [some ⟨91, nrows (xs.take i ++ x :: xs.drop i), .opn⟩], ?_, ?_, hjl, by rw [get_apps0]; rfl, fun k' b hk' ho => ?_⟩
    · refine ev_nat1 c92 rfl rfl ?_
      have hb : (xs.length + 1) * 4 ≤ 70368744177664 := by omega
      simp only [insA, hx, hrc, h4]
      rw [if_pos (by refine ⟨rfl, by omega, trivial, rfl, hb⟩), if_pos (by refine ⟨rfl, ?_⟩; simp only [nrowl, nrows_ok, true_and, and_true]; omega)]
      rw [Int.toNat_natCast, nrows_ins]
    · exact (hpre.set h3).app _
    · have : k' ≠ k := fun e => by rw [e, h4] at hk'; injection hk' with hk'; rw [← hk'] at ho; cases ho
      rw [get_appl (by rw [List.length_set]; exact get_some_lt hk'), get_neh this]; exact hk'
end Go.Proofs.YtcfabmmonoljeaaDoor
