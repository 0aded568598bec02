/- What functions of the program answer: parts Lies Lies2 Grains Foils Slices HalvesInv Marks. -/
import Derived.Test.YtcfabmmonoljeaaDoorCopies
import Derived.Test.YtcfabmmonoljeaaDoorViE
/- What functions of the program answer: part Lies. -/
set_option linter.unusedVariables false
set_option linter.unusedSimpArgs false
set_option linter.unusedSectionVars false
namespace Go.Proofs.YtcfabmmonoljeaaDoor
open Go Go.Proofs.YtcfabmmonoljeaaDoor.VI
set_option maxHeartbeats 16000000
set_option maxRecDepth 20000
/-! Whether notches are equal -/
def eqN (xs ys : List Nt) : Bool := decide (fl xs = fl ys)
where fl (zs : List Nt) : List (Int × Int) := zs.map fun z => (z.k, z.a)
theorem fl_len (zs : List Nt) : (eqN.fl zs).length = zs.length := List.length_map ..
theorem eqN_step {xs ys : List Nt} {i : Nat} (hi : i < xs.length) (hj : i < ys.length) : eqN (xs.drop i) (ys.drop i) = (((xs[i]'hi).k == (ys[i]'hj).k && (xs[i]'hi).a == (ys[i]'hj).a) && eqN (xs.drop (i + 1)) (ys.drop (i + 1))) := by
  rw [List.drop_eq_getElem_cons hi, List.drop_eq_getElem_cons hj]
  generalize xs[i]'hi = x
  generalize ys[i]'hj = y
  unfold eqN eqN.fl
  by_cases h1 : x.k = y.k
  · by_cases h2 : x.a = y.a
    · simp [h1, h2]
    · simp [h1, h2]
  · simp [h1]
theorem eq_nots {x y : Nt} : eqCells [.int, .int] (nrow x) (nrow y) = some (x.k == y.k && x.a == y.a) := by simp [eqCells, eqC]
theorem loop76 {p q : Option (Nat × Nat)} {cap cap' : Cap} {xs ys : List Nt} (hlen : xs.length ≤ 4398046511104) (hxy : xs.length = ys.length) {H : AHeap} (hp : Nts H p xs) (hq : Nts H q ys) : ∀ (n i : Nat) (_ : i + n = xs.length) (σ : Sl) (_ : σ 0 = .c (.slice p xs.length cap)) (_ : σ 1 = .c (.slice q ys.length cap')) (_ : σ 5 = .c (.int .i64 i)),
    Post (evC (ev kk) (.loop l76_0) (σ, H)) fun ex σ' H' => ex = (if eqN (xs.drop i) (ys.drop i) = true then .exit 0 else .ret) ∧ H' = H ∧ (eqN (xs.drop i) (ys.drop i) = false → σ' 4 = .c (.bool false))
  | 0, i, hi, σ, h0, h1, h5 => by
    have hge : ¬ ((i : Int) < xs.length) := by omega
    have e : xs.drop i = [] := List.drop_eq_nil_of_le (by omega)
    have e' : ys.drop i = [] := List.drop_eq_nil_of_le (by omega)
    have e2 : eqN [] [] = true := rfl
    rw [evC_loop, e, e', e2]
    simp only [evC_exit, evC_region, evC_seq, ev_t, putS_some, ops_nil, evC_condC, cond_bool, ops_cons, next_some, then_norm, then_exit, Option.map_some, evalOp, ↓reduceIte, reduceCtorEq, binA, binC, intBin, or_false, or_true, and_true, decide_false, and_self, eq_self, Bool.true_eq_false, Bool.false_eq_true, Nat.reduceBEq, post_some, upd_at, upd_ne, false_implies, l76_0, h0, h5, hge]
  | n + 1, i, hi, σ, h0, h1, h5 => by
    have hil : i < xs.length := by omega
    have hjl : i < ys.length := by omega
    have hlt : (i : Int) < xs.length := by omega
    have hlt' : (i : Int) < ys.length := by omega
    obtain ⟨id, t, m, rfl, hb⟩ := hp (by omega)
    obtain ⟨id', t', m', rfl, hb'⟩ := hq (by omega)
    have hle : i * 2 + 2 ≤ (nrows xs).length := by rw [nrowl]; omega
    have hle' : i * 2 + 2 ≤ (nrows ys).length := by rw [nrowl]; omega
    have step := loop76 (cap := cap) (cap' := cap') hlen hxy hp hq n (i + 1) (by omega)
    have hc := nrc hil
    have hc' := nrc hjl
    rw [evC_loop, eqN_step hil hjl]
    generalize xs[i]'hil = x at *
    generalize ys[i]'hjl = y at *
    cases hE : (x.k == y.k && x.a == y.a)
    · simp (maxSteps := 4000000) (disch := first | omega | (refine _root_.id ?_; simp only [pl_int, pl_bool, pl_str, pl_undef, pl_nil, pl_ptr, plA_c, plA_agg, plA_tup, plV_c, plV_agg, List.all_cons, List.all_nil, Bool.and_true, Bool.and_self, eq_self, vi_int, vi_bool, get_app, get_app0, List.getElem?_cons_zero, List.getElem?_cons_succ, Option.join_some, lst_get, getL, upd_at, upd_ne, Nat.reduceBEq])) only [evC_skip, evC_ret, evC_region, evC_seq, evC_block, ev_t, ev_k, putS_some, ops_nil, evC_condC, cond_bool, ops_cons, next_some, nextD_some, then_norm, then_ret, out_ret, Option.map_some, evalOp, readCells, Nat.zero_add, ↓reduceIte, reduceCtorEq, binA, binC, intBin, or_false, or_true, decide_true, and_self, eq_self, Bool.not_false, Bool.false_eq_true, eqRes, evC_drawn, dr_nil, dr_cons, chk_nil, post_some, upd_at, upd_ne, cast_nonneg, cast_toNat, true_implies, l76_0, h0, h1, h5, hlt, hlt', hb, hb', hle, hle', hc, hc', eq_nots, hE, Bool.false_and]
    · simp (maxSteps := 4000000) (disch := first | omega | (refine _root_.id ?_; simp only [pl_int, pl_bool, pl_str, pl_undef, pl_nil, pl_ptr, plA_c, plA_agg, plA_tup, plV_c, plV_agg, List.all_cons, List.all_nil, Bool.and_true, Bool.and_self, eq_self, vi_int, vi_bool, get_app, get_app0, List.getElem?_cons_zero, List.getElem?_cons_succ, Option.join_some, lst_get, getL, upd_at, upd_ne, Nat.reduceBEq])) only [evC_skip, evC_region, evC_seq, evC_block, ev_t, ev_k, putS_some, ops_nil, evC_condC, cond_bool, ops_cons, next_some, nextD_some, then_norm, out_norm, Option.map_some, evalOp, readCells, Nat.zero_add, ↓reduceIte, reduceCtorEq, binA, binC, intBin, or_false, or_true, decide_true, and_self, eq_self, IntWalk.i64_in, Bool.true_and, Bool.not_true, Bool.false_eq_true, eqRes, evC_drawn, dr_nil, dr_cons, chk_nil, upd_at, upd_ne, cast_nonneg, cast_toNat, l76_0, h0, h1, h5, hlt, hlt', hb, hb', hle, hle', hc, hc', eq_nots, hE, Bool.true_and]
      exact step _ (by simp only [upd_ne, Nat.reduceBEq, h0]) (by simp only [upd_ne, Nat.reduceBEq, h1]) (by simp only [upd_at]; rfl)
theorem eqN_ne {xs ys : List Nt} (h : xs.length ≠ ys.length) : eqN xs ys = false := by
  unfold eqN
  apply decide_eq_false
  intro e
  have := congrArg List.length e
  rw [fl_len, fl_len] at this
  exact h this
theorem run76 {p q : Option (Nat × Nat)} {cap cap' : Cap} {xs ys : List Nt} (hlen : xs.length ≤ 4398046511104) (hlen' : ys.length ≤ 4398046511104) {H : AHeap} (hp : Nts H p xs) (hq : Nts H q ys) : ev kk 76 [.c (.slice p xs.length cap), .c (.slice q ys.length cap')] H = some (.c (.bool (eqN xs ys)), H) := by
  by_cases hxy : xs.length = ys.length
  · have L := fun σ h0 h1 h5 => post_fin (loop76 (cap := cap) (cap' := cap') hlen hxy hp hq xs.length 0 (by omega) σ h0 h1 h5)
    simp only [List.drop_zero, Int.natCast_zero] at L
    have hb : ((xs.length : Int) != (ys.length : Int)) = false := by simp [hxy]
    cases hE : eqN xs ys
    · rw [hE] at L
      simp only [Bool.false_eq_true, if_false, true_implies] at L
      rw [ev_call c76]; unfold k76; rw [evB_eq rfl]
      simp (maxSteps := 4000000) (disch := first | omega | (refine _root_.id ?_; simp only [pl_int, pl_bool, pl_str, pl_undef, pl_nil, pl_ptr, plA_c, plA_agg, plA_tup, plV_c, plV_agg, List.all_cons, List.all_nil, Bool.and_true, Bool.and_self, eq_self, vi_int, vi_bool, get_app, get_app0, List.getElem?_cons_zero, List.getElem?_cons_succ, Option.join_some, lst_get, getL, upd_at, upd_ne, Nat.reduceBEq])) only [evC_skip, evC_region, evC_seq, evC_block, ev_t, ev_k, putS_some, upd_l, ops_nil, evC_condC, cond_bool, ops_cons, next_some, then_norm, then_ret, out_ret, done_ret, putL, getL, Option.bind_some, Option.map_some, evalOp, ↓reduceIte, reduceCtorEq, binA, binC, intBin, or_false, or_true, evalRs, evalR, AV.toV0?, mkRes, V0.toAV, lst_get, eq_self, finish_id, Bool.false_eq_true, hb, (fun σ h0 h1 h5 => (L σ h0 h1 h5).1), (fun σ h0 h1 h5 => (L σ h0 h1 h5).2)]
    · rw [hE] at L
      simp only [if_true] at L
      rw [ev_call c76]; unfold k76; rw [evB_eq rfl]
      simp (maxSteps := 4000000) (disch := first | omega | (refine _root_.id ?_; simp only [pl_int, pl_bool, pl_str, pl_undef, pl_nil, pl_ptr, plA_c, plA_agg, plA_tup, plV_c, plV_agg, List.all_cons, List.all_nil, Bool.and_true, Bool.and_self, eq_self, vi_int, vi_bool, get_app, get_app0, List.getElem?_cons_zero, List.getElem?_cons_succ, Option.join_some, lst_get, getL, upd_at, upd_ne, Nat.reduceBEq])) only [evC_skip, evC_ret, evC_region, evC_seq, evC_block, ev_t, ev_k, putS_some, upd_l, ops_nil, evC_condC, cond_bool, ops_cons, next_some, then_norm, out_exit, done_ret, putL, getL, Option.bind_some, Option.map_some, evalOp, ↓reduceIte, reduceCtorEq, binA, binC, intBin, or_false, or_true, evalRs, evalR, AV.toV0?, mkRes, V0.toAV, lst_get, eq_self, finish_id, Bool.false_eq_true, upd_at, hb, (fun σ h0 h1 h5 => (L σ h0 h1 h5).1)]
  · have hb : ((xs.length : Int) != (ys.length : Int)) = true := by simp; omega
    rw [eqN_ne hxy]
    rw [ev_call c76]; unfold k76; rw [evB_eq rfl]
    simp (maxSteps := 4000000) (disch := first | omega | (refine _root_.id ?_; simp only [pl_int, pl_bool, pl_str, pl_undef, pl_nil, pl_ptr, plA_c, plA_agg, plA_tup, plV_c, plV_agg, List.all_cons, List.all_nil, Bool.and_true, Bool.and_self, eq_self, vi_int, vi_bool, get_app, get_app0, List.getElem?_cons_zero, List.getElem?_cons_succ, Option.join_some, lst_get, getL, upd_at, upd_ne, Nat.reduceBEq])) only [evC_ret, evC_region, evC_seq, ev_t, ev_k, putS_some, upd_l, ops_nil, evC_condC, cond_bool, ops_cons, next_some, then_norm, then_ret, done_ret, putL, getL, Option.bind_some, Option.map_some, evalOp, ↓reduceIte, reduceCtorEq, binA, binC, intBin, or_false, or_true, evalRs, evalR, AV.toV0?, mkRes, V0.toAV, lst_get, eq_self, finish_id, hb]
end Go.Proofs.YtcfabmmonoljeaaDoor

/- What functions of the program answer: part Lies2. -/
set_option linter.unusedVariables false
set_option linter.unusedSimpArgs false
set_option linter.unusedSectionVars false
namespace Go.Proofs.YtcfabmmonoljeaaDoor
open Go Go.Proofs.YtcfabmmonoljeaaDoor.VI
set_option maxHeartbeats 16000000
set_option maxRecDepth 20000
/-! Slices of halves -/
abbrev hrows (hs : List Hf) : List CV := (hs.map hfr).flatten
def Hfs (H : AHeap) (p : Option (Nat × Nat)) (hs : List Hf) : Prop := 0 < hs.length → ∃ id t m, p = some (id, 0) ∧ H.get id = some ⟨t, hrows hs, m⟩
theorem Hfs.app {H : AHeap} {p : Option (Nat × Nat)} {hs : List Hf} (h : Hfs H p hs) (t : List (Option Blk)) : Hfs (H ++ t) p hs := by
  intro h0
  obtain ⟨id, e, m, h1, h2⟩ := h h0
  exact ⟨id, e, m, h1, by rw [get_appl (get_some_lt h2)]; exact h2⟩
theorem hcut {hs : List Hf} {i : Nat} (hi : i < hs.length) : (((hrows hs).drop (i * 18)).take 18) = CV.bool (hs[i]'hi).st :: CV.slice (hs[i]'hi).p (hs[i]'hi).xs.length (hs[i]'hi).cap :: grow (hs[i]'hi).g := rows_cut hfr_len hi
theorem tt {b : Bool} (h : b = true) : ((b = true) = True) ∧ ((b = false) = False) := by subst h; simp
section
variable {x y : Hf} {H : AHeap}
end
end Go.Proofs.YtcfabmmonoljeaaDoor

/- What functions of the program answer: part Grains. -/
set_option linter.unusedVariables false
set_option linter.unusedSimpArgs false
set_option linter.unusedSectionVars false
namespace Go.Proofs.YtcfabmmonoljeaaDoor
open Go Go.Proofs.YtcfabmmonoljeaaDoor.VI
set_option maxHeartbeats 16000000
set_option maxRecDepth 20000
abbrev irow (xs : List Int) : List CV := xs.map (CV.int .i64)
/-! Worn places -/
def wq (g f : List Int) (i : Nat) : Bool := IntKind.i8.wrap (g.getD i 0 + f.getD i 0) != 0
def wr (g f : List Int) (i n : Nat) : List Int := ((List.range' i n).filter (wq g f)).map fun j : Nat => (j : Int)
theorem OutS.more {e : TypeId} {s L n : Nat} {T U : List (Option Blk)} {cells : List CV} {v : AV} (h : OutS e s L T n cells v) : OutS e s L (T ++ U) n cells v := by
  rcases h with h | ⟨h1, h2, k, h3, h4⟩
  · exact .inl h
  · exact .inr ⟨h1, h2, k, h3, by rw [List.getElem?_append_left (List.getElem?_eq_some_iff.1 h4).1]; exact h4⟩
abbrev gb (e : TypeId) (g : List Int) : Option Blk := some ⟨e, grow g, .own⟩
abbrev ws (g f : List Int) : List Int := wr g f 0 16
/-! Whether grains fit -/
def sm (g f : List Int) (i : Nat) : Int := IntKind.i8.wrap (g.getD i 0 + f.getD i 0)
theorem OutS.isC {e : TypeId} {s L n : Nat} {T : List (Option Blk)} {cells : List CV} {v : AV} (h : OutS e s L T n cells v) : ∃ q cap, v = .c (.slice q n cap) := by
  rcases h with ⟨rfl, _, q, rfl⟩ | ⟨_, _, k, rfl, _⟩
  · exact ⟨_, _, rfl⟩
  · exact ⟨_, _, rfl⟩
/-! Whether halves fit -/
end Go.Proofs.YtcfabmmonoljeaaDoor

/- What functions of the program answer: part Foils. -/
set_option linter.unusedVariables false
set_option linter.unusedSimpArgs false
set_option linter.unusedSectionVars false
namespace Go.Proofs.YtcfabmmonoljeaaDoor
open Go Go.Proofs.YtcfabmmonoljeaaDoor.VI
set_option maxHeartbeats 16000000
set_option maxRecDepth 20000
/-! Halves in a slice -/
section
variable {hs : List Hf} {i : Nat} (hi : i < hs.length)
include hi
theorem hr0 : (hrows hs)[i * 18]? = some (.bool (hs[i]'hi).st) := by
  have := rows_get hfr_len hi (j := 0) (by omega); simpa using this
theorem hr1 : (hrows hs)[i * 18 + 1]? = some (.slice (hs[i]'hi).p (hs[i]'hi).xs.length (hs[i]'hi).cap) := by
  have := rows_get hfr_len hi (j := 1) (by omega); simpa using this
theorem hr2 : ((hrows hs).drop (i * 18 + 2)).take 16 = grow (hs[i]'hi).g := by
  have h := hcut hi
  have h2 : ((hrows hs).drop (i * 18 + 2)).take 16 = (((hrows hs).drop (i * 18)).take 18).drop 2 := by
    rw [List.drop_take, List.drop_drop]
  rw [h2, h]; rfl
end
/-! Whether they fit -/
end Go.Proofs.YtcfabmmonoljeaaDoor

/- What functions of the program answer: part Slices. -/
set_option linter.unusedVariables false
set_option linter.unusedSimpArgs false
set_option linter.unusedSectionVars false
namespace Go.Proofs.YtcfabmmonoljeaaDoor
open Go Go.Proofs.YtcfabmmonoljeaaDoor.VI
set_option maxHeartbeats 16000000
set_option maxRecDepth 20000
/-! Slices of halves: sizes, copies, equality -/
/-- A half that has been copied behind L. -/
def CopyOf (L : Nat) (T : List (Option Blk)) (h y : Hf) : Prop := y.st = h.st ∧ y.xs = h.xs ∧ y.g = h.g ∧ ∃ k, y.p = some (L + (k + 1), 0) ∧ T[k]? = some (ncpy h.xs)
theorem CopyOf.app {L : Nat} {T : List (Option Blk)} {h y : Hf} (q : CopyOf L T h y) (U : List (Option Blk)) : CopyOf L (T ++ U) h y := by
  obtain ⟨a, b, c, k, d, e⟩ := q
  exact ⟨a, b, c, k, d, by rw [List.getElem?_append_left (List.getElem?_eq_some_iff.1 e).1]; exact e⟩
def Copies (L : Nat) (T : List (Option Blk)) (hs ys : List Hf) (i : Nat) : Prop := ys.length = hs.length ∧ ∀ j (h1 : j < hs.length) (h2 : j < ys.length), j < i → CopyOf L T (hs[j]'h1) (ys[j]'h2)
theorem hset {ys : List Hf} {i : Nat} {y : Hf} (hi : i < ys.length) : List.take (i * 18) (hrows ys) ++ CV.bool y.st :: CV.slice y.p y.xs.length y.cap :: (grow y.g ++ List.drop (i * 18 + 18) (hrows ys)) = hrows (ys.set i y) := rows_upd hfr_len hi
theorem Copies.at_ {H : AHeap} {T : List (Option Blk)} {b : Option Blk} {hs ys : List Hf} (hc : Copies H.length T hs ys hs.length) (hfew : ∀ h ∈ hs, h.xs.length ≤ 1048576) (hr : ∀ h ∈ hs, ∀ z ∈ h.xs, rngN z) : ∀ y ∈ ys, HfAt (H ++ b :: T) y := by
  intro y hy
  obtain ⟨j, hj, rfl⟩ := List.getElem_of_mem hy
  have hj' : j < hs.length := by rw [← hc.1]; exact hj
  obtain ⟨a1, a2, a3, k, a4, a5⟩ := hc.2 j hj' hj hj'
  have hm := List.getElem_mem hj'
  refine ⟨by rw [a2]; have := hfew _ hm; omega, by rw [a2]; exact hr _ hm, ?_⟩
  rw [a2, a4]
  exact nts_cpyk (k := k + 1) (by rw [List.getElem?_cons_succ]; exact a5)
end Go.Proofs.YtcfabmmonoljeaaDoor

/- What functions of the program answer: part HalvesInv. -/
set_option linter.unusedVariables false
set_option linter.unusedSimpArgs false
set_option linter.unusedSectionVars false
namespace Go.Proofs.YtcfabmmonoljeaaDoor
open Go Go.Proofs.YtcfabmmonoljeaaDoor.VI
set_option maxHeartbeats 16000000
set_option maxRecDepth 20000
/-- What is known of a half that is handed in. -/
structure HfIn (H : AHeap) (h : Hf) : Prop where
  few : h.xs.length ≤ 1152921504606846976
  rng : ∀ x ∈ h.xs, rngN x
  at_ : Nts H h.p h.xs
theorem HfIn.app {H : AHeap} {h : Hf} (q : HfIn H h) (t : List (Option Blk)) : HfIn (H ++ t) h := ⟨q.few, q.rng, q.at_.app t⟩
theorem HfIn.at {H : AHeap} {h : Hf} (q : HfIn H h) (hl : h.xs.length ≤ 4398046511104) : HfAt H h := ⟨hl, q.rng, q.at_⟩
/-! Copies behind a heap -/
end Go.Proofs.YtcfabmmonoljeaaDoor

/- What functions of the program answer: part Marks. -/
set_option linter.unusedVariables false
set_option linter.unusedSimpArgs false
set_option linter.unusedSectionVars false
namespace Go.Proofs.YtcfabmmonoljeaaDoor
open Go Go.Proofs.YtcfabmmonoljeaaDoor.VI
set_option maxHeartbeats 16000000
set_option maxRecDepth 20000
def Nums (H : AHeap) (p : Option (Nat × Nat)) (xs : List Int) : Prop := 0 < xs.length → ∃ id t m, p = some (id, 0) ∧ H.get id = some ⟨t, irow xs, m⟩
theorem Nums.app {H : AHeap} {p : Option (Nat × Nat)} {xs : List Int} (h : Nums H p xs) (t : List (Option Blk)) : Nums (H ++ t) p xs := by
  intro h0
  obtain ⟨id, e, m, h1, h2⟩ := h h0
  exact ⟨id, e, m, h1, by rw [get_appl (get_some_lt h2)]; exact h2⟩
/-! What has been laid by appends, as numbers -/
end Go.Proofs.YtcfabmmonoljeaaDoor
