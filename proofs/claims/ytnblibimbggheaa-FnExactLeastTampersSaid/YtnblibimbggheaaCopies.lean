/- What functions of the program answer: part Copies. -/
import Derived.Test.YtnblibimbggheaaWood
set_option linter.unusedVariables false
set_option linter.unusedSimpArgs false
set_option linter.unusedSectionVars false
namespace Go.Proofs.Ytnblibimbggheaa
open Go Go.Proofs.Ytnblibimbggheaa.VI
set_option maxHeartbeats 16000000
set_option maxRecDepth 20000
/-! Copies of halves -/
theorem run50 {p : Option (Nat × Nat)} {n : Nat} {c : Cap} {l : Int} (hn : n ≤ 1152921504606846976) (hl : 0 ≤ l ∧ l ≤ 4398046511104) (H : AHeap) : ev kk 50 [.c (.slice p n c), .c (.int .i64 l)] H = some (.c (.int .i64 (if l - n < 0 then -1 else l - n)), H) := by
  rw [ev_call c50]; unfold k50; rw [evB_eq rfl]
  by_cases h : l - n < 0
  · simp (maxSteps := 4000000) (disch := first | omega | (refine _root_.id ?_; simp only [pl_int, pl_bool, pl_str, pl_undef, pl_nil, pl_ptr, plA_c, plA_agg, plA_tup, plV_c, plV_agg, List.all_cons, List.all_nil, Bool.and_true, Bool.and_self, eq_self, vi_int, vi_bool, get_app, get_app0, List.getElem?_cons_zero, List.getElem?_cons_succ, Option.join_some, lst_get, getL, upd_at, upd_ne, Nat.reduceBEq])) only [evC_ret, evC_region, evC_seq, ev_t, ev_k, putS_some, upd_l, ops_nil, evC_condC, cond_bool, ops_cons, next_some, then_norm, then_ret, done_ret, putL, getL, Option.bind_some, Option.map_some, evalOp, ↓reduceIte, reduceCtorEq, binA, binC, intBin, or_false, or_true, evalRs, evalR, AV.toV0?, mkRes, V0.toAV, decide_true, lst_get, eq_self, IntWalk.i64_in, Int.reduceNeg, finish_id, h]
  · simp (maxSteps := 4000000) (disch := first | omega | (refine _root_.id ?_; simp only [pl_int, pl_bool, pl_str, pl_undef, pl_nil, pl_ptr, plA_c, plA_agg, plA_tup, plV_c, plV_agg, List.all_cons, List.all_nil, Bool.and_true, Bool.and_self, eq_self, vi_int, vi_bool, get_app, get_app0, List.getElem?_cons_zero, List.getElem?_cons_succ, Option.join_some, lst_get, getL, upd_at, upd_ne, Nat.reduceBEq])) only [evC_skip, evC_ret, evC_region, evC_seq, ev_t, ev_k, putS_some, upd_l, ops_nil, evC_condC, cond_bool, ops_cons, next_some, then_norm, done_ret, putL, getL, Option.bind_some, Option.map_some, evalOp, ↓reduceIte, reduceCtorEq, binA, binC, intBin, or_false, or_true, evalRs, evalR, AV.toV0?, mkRes, V0.toAV, decide_false, lst_get, eq_self, IntWalk.i64_in, Int.reduceNeg, finish_id, Bool.false_eq_true, h]
theorem run11 {p : Option (Nat × Nat)} {n : Nat} {c : Cap} {l : Int} {st : Bool} {g : List Int} (hn : n ≤ 1152921504606846976) (hl : 0 ≤ l ∧ l ≤ 4398046511104) (H : AHeap) : ev kk 11 [.agg (hrow st p n c g), .c (.int .i64 l)] H = some (.c (.int .i64 (if l - n < 0 then -1 else l - n)), H) := by
  have r := fun T => run50 (p := p) (c := c) hn hl (H ++ T)
  rw [ev_call c11]; unfold k11; rw [evB_eq rfl]
  by_cases h : l - n < 0
  · simp only [h, if_true] at r
    simp (maxSteps := 4000000) (disch := first | omega | (refine _root_.id ?_; simp only [pl_int, pl_bool, pl_str, pl_undef, pl_nil, pl_ptr, plA_c, plA_agg, plA_tup, plV_c, plV_agg, List.all_cons, List.all_nil, Bool.and_true, Bool.and_self, eq_self, vi_int, vi_bool, get_app, get_app0, List.getElem?_cons_zero, List.getElem?_cons_succ, Option.join_some, lst_get, getL, upd_at, upd_ne, Nat.reduceBEq])) only [evC_ret, evC_region, evC_seq, ev_t, ev_k, putS_some, upd_l, ops_nil, evC_condC, cond_bool, ops_cons, next_some, then_norm, then_ret, done_ret, putL, getL, Option.bind_some, Option.map_some, evalOp, AV.cells?, readCell, get_app0, List.getElem?_cons_zero, List.getElem?_cons_succ, Option.join_some, Nat.zero_add, ↓reduceIte, reduceCtorEq, binA, binC, intBin, or_false, or_true, Int.reduceLT, evalRs, evalR, AV.toV0?, mkRes, V0.toAV, decide_true, lst_get, eq_self, Int.reduceNeg, finish_app, List.map_cons, List.map_nil, List.append_nil, r, h]
  · simp only [h, if_false] at r
    simp (maxSteps := 4000000) (disch := first | omega | (refine _root_.id ?_; simp only [pl_int, pl_bool, pl_str, pl_undef, pl_nil, pl_ptr, plA_c, plA_agg, plA_tup, plV_c, plV_agg, List.all_cons, List.all_nil, Bool.and_true, Bool.and_self, eq_self, vi_int, vi_bool, get_app, get_app0, List.getElem?_cons_zero, List.getElem?_cons_succ, Option.join_some, lst_get, getL, upd_at, upd_ne, Nat.reduceBEq])) only [evC_skip, evC_ret, evC_region, evC_seq, ev_t, ev_k, putS_some, upd_l, ops_nil, evC_condC, cond_bool, ops_cons, next_some, then_norm, done_ret, putL, getL, Option.bind_some, Option.map_some, evalOp, AV.cells?, readCell, get_app0, List.getElem?_cons_zero, List.getElem?_cons_succ, Option.join_some, Nat.zero_add, ↓reduceIte, reduceCtorEq, binA, binC, intBin, or_false, or_true, evalRs, evalR, AV.toV0?, mkRes, V0.toAV, decide_false, lst_get, eq_self, Int.reduceNeg, finish_app, Bool.false_eq_true, List.map_cons, List.map_nil, List.append_nil, r, h]
theorem run90 (x : Nt) (H : AHeap) : ev kk 90 [.agg (nrow x)] H = some (.agg (nrow x), H) := by
  rw [ev_call c90]; unfold k90; rw [evB_eq rfl]
  simp only [evC_ret, evC_region, evC_seq, ev_t, putS_some, upd_l, putS_none, ops_nil, ops_cons, next_some, then_norm, done_ret, putL, getL, Option.bind_some, Option.map_some, evalOp, AV.cells?, readCells, readCell, writeCells, get_app, get_app0, set_app, len_app, List.getElem?_cons_zero, List.getElem?_cons_succ, Option.join_some, List.length_cons, List.length_nil, List.append_assoc, List.cons_append, List.nil_append, Nat.zero_add, Nat.add_zero, Nat.reduceAdd, Nat.reduceLeDiff, List.drop_zero, List.drop_succ_cons, List.take_zero, List.take_succ_cons, List.take_nil, List.drop_nil, ↓reduceIte, evalRs, evalR, mkRes, V0.toAV, and_self, lst_get, eq_self, finish_app, pl_int, plA_agg, List.all_cons, List.all_nil, Bool.and_true, List.append_nil, setAt, CV.ok, List.set_cons_zero, List.set_cons_succ]
theorem run92 (x : Nt) (H : AHeap) : ev kk 92 [.agg (nrow x), .agg (nrow x)] H = some (.c (.bool true), H) := by
  rw [ev_call c92]; unfold k92; rw [evB_eq rfl]
  simp only [evC_skip, evC_ret, evC_region, evC_seq, ev_t, ev_k, putS_some, upd_l, ops_nil, evC_condC, cond_bool, ops_cons, next_some, then_norm, done_ret, putL, getL, Option.bind_some, Option.map_some, evalOp, AV.cells?, readCell, get_app, get_app0, len_app, List.getElem?_cons_zero, List.getElem?_cons_succ, Option.join_some, List.length_cons, List.length_nil, List.append_assoc, List.cons_append, List.nil_append, Nat.zero_add, Nat.add_zero, ↓reduceIte, reduceCtorEq, binA, binC, intBin, or_false, or_true, evalRs, evalR, AV.toV0?, mkRes, V0.toAV, lst_get, eq_self, finish_app, pl_bool, plA_c, Bool.false_eq_true, bne_self_eq_false]
theorem nrows_zero {n : Nat} : (List.replicate n [CV.int .i8 0, CV.int .i16 0]).flatten = nrows (List.replicate n ⟨0, 0⟩) := by
  simp [nrows]
abbrev ncpy (xs : List Nt) : Option Blk := some ⟨119, nrows xs, .own⟩
theorem nts_cpyk {H : AHeap} {k : Nat} {xs : List Nt} {t : List (Option Blk)} (h : t[k]? = some (ncpy xs)) : Nts (H ++ t) (some (H.length + k, 0)) xs := fun _ => ⟨H.length + k, 119, .own, rfl, by rw [get_app, h]; rfl⟩
theorem loop52 {p : Option (Nat × Nat)} {cap : Cap} {xs : List Nt} (hlen : xs.length ≤ 4398046511104) {H : AHeap} (hp : Nts H p xs) : ∀ (n i : Nat) (_ : i + n = xs.length) (ys : List Nt) (_ : ys.length = xs.length) (_ : ys.take i = xs.take i) (σ : Sl) (_ : σ 0 = .c (.slice p xs.length cap)) (_ : σ 3 = .c (.slice (some (H.length, 0)) xs.length (.exact xs.length))) (_ : σ 4 = .c (.int .i64 i)),
    Post (evC (ev kk) (.loop l52_0) (σ, H ++ [ncpy ys])) fun ex σ' H' => ex = .exit 0 ∧ H' = H ++ [ncpy xs] ∧ σ' 3 = .c (.slice (some (H.length, 0)) xs.length (.exact xs.length))
  | 0, i, hi, ys, hy, ht, σ, h0, h3, h4 => by
    have hge : ¬ ((i : Int) < xs.length) := by omega
    have : ys = xs := by
      rw [List.take_of_length_le (by omega), List.take_of_length_le (by omega)] at ht; exact ht
    subst this
    rw [evC_loop]
    simp only [evC_exit, evC_region, evC_seq, ev_t, putS_some, ops_nil, evC_condC, cond_bool, ops_cons, next_some, then_norm, then_exit, Option.map_some, evalOp, ↓reduceIte, reduceCtorEq, binA, binC, intBin, or_false, or_true, decide_false, and_self, eq_self, Bool.false_eq_true, Nat.reduceBEq, post_some, upd_at, upd_ne, l52_0, h0, h3, h4, hge]
  | n + 1, i, hi, ys, hy, ht, σ, h0, h3, h4 => by
    have hil : i < xs.length := by omega
    have hlt : (i : Int) < xs.length := by omega
    obtain ⟨id, t, m, rfl, hb⟩ := hp (by omega)
    have hid := get_some_lt hb
    have hle : i * 2 + 2 ≤ (nrows xs).length := by rw [nrowl]; omega
    have hle' : i * 2 + 2 ≤ (nrows ys).length := by rw [nrowl]; omega
    have hset := nset (x := xs[i]) (show i < ys.length by omega)
    rw [evC_loop]
    simp (maxSteps := 4000000) (disch := first | omega | (refine _root_.id ?_; simp only [pl_int, pl_bool, pl_str, pl_undef, pl_nil, pl_ptr, plA_c, plA_agg, plA_tup, plV_c, plV_agg, List.all_cons, List.all_nil, Bool.and_true, Bool.and_self, eq_self, vi_int, vi_bool, get_app, get_app0, List.getElem?_cons_zero, List.getElem?_cons_succ, Option.join_some, lst_get, getL, upd_at, upd_ne, Nat.reduceBEq])) only [evC_skip, evC_region, evC_seq, evC_block, ev_t, ev_k, putS_some, putS_none, ops_nil, evC_condC, cond_bool, ops_cons, next_some, then_norm, out_norm, Option.map_some, evalOp, AV.cells?, readCells, writeCells, get_app0, set_app0, List.getElem?_cons_zero, Option.join_some, List.length_cons, List.length_nil, List.append_assoc, List.cons_append, List.nil_append, Nat.zero_add, Nat.reduceAdd, ↓reduceIte, reduceCtorEq, binA, binC, intBin, or_false, or_true, decide_true, and_self, eq_self, IntWalk.i64_in, List.all_cons, List.all_nil, Bool.and_true, List.map_cons, List.map_nil, List.append_nil, setAt, CV.ok, List.set_cons_zero, upd_at, upd_ne, cast_nonneg, cast_toNat, l52_0, h0, h3, h4, hlt, hb, hle, hle', nrc hil, get_appl hid, run90, hset]
    refine loop52 (cap := cap) hlen hp n (i + 1) (by omega) (ys.set i xs[i]) (by simpa using hy) ?_ _ (by simp only [upd_ne, Nat.reduceBEq, h0]) (by simp only [upd_ne, Nat.reduceBEq, h3]) (by simp only [upd_at]; rfl)
    rw [List.take_add_one, List.take_add_one, List.take_set_of_le (Nat.le_refl i), ht, List.getElem?_set_self (by omega), List.getElem?_eq_getElem hil]
theorem run52 {p : Option (Nat × Nat)} {cap : Cap} {xs : List Nt} (hlen : xs.length ≤ 1048576) {H : AHeap} (hp : Nts H p xs) : ev kk 52 [.c (.slice p xs.length cap)] H = some (.c (.slice (some (H.length, 0)) xs.length (.exact xs.length)), H ++ [ncpy xs]) := by
  have L : ∀ (σ : Sl), σ 0 = .c (.slice p xs.length cap) → σ 3 = .c (.slice (some (H.length, 0)) xs.length (.exact xs.length)) → σ 4 = .c (.int .i64 0) → _ := fun σ h0 h3 h4 => post_fin (loop52 (by omega) hp xs.length 0 (by omega) (List.replicate xs.length ⟨0, 0⟩) (by simp) rfl σ h0 h3 h4)
  have hz : xs.length * 4 ≤ 140737488355328 := by omega
  rw [ev_call c52]; unfold k52; rw [evB_eq rfl]
  simp (maxSteps := 4000000) (disch := first | omega | (refine _root_.id ?_; simp only [pl_int, pl_bool, pl_str, pl_undef, pl_nil, pl_ptr, plA_c, plA_agg, plA_tup, plV_c, plV_agg, List.all_cons, List.all_nil, Bool.and_true, Bool.and_self, eq_self, vi_int, vi_bool, get_app, get_app0, List.getElem?_cons_zero, List.getElem?_cons_succ, Option.join_some, lst_get, getL, upd_at, upd_ne, Nat.reduceBEq])) only [evC_ret, evC_region, evC_seq, evC_block, ev_t, ev_k, putS_some, upd_l, ops_nil, ops_cons, next_some, then_norm, out_exit, done_ret, putL, getL, Option.bind_some, Option.map_some, evalOp, Nat.reduceLT, ↓reduceIte, evalRs, evalR, AV.toV0?, mkRes, V0.toAV, and_self, lst_get, eq_self, finish_no, upd_at, cast_nonneg, cast_toNat, hz, nrows_zero, Int.le_refl, (fun σ h0 h3 h4 => (L σ h0 h3 h4).1), (fun σ h0 h3 h4 => (L σ h0 h3 h4).2)]
theorem loop55 {p q : Option (Nat × Nat)} {cap cap' : Cap} {xs : List Nt} (hlen : xs.length ≤ 4398046511104) {H : AHeap} (hp : Nts H p xs) (hq : Nts H q xs) : ∀ (n i : Nat) (_ : i + n = xs.length) (σ : Sl) (_ : σ 0 = .c (.slice p xs.length cap)) (_ : σ 1 = .c (.slice q xs.length cap')) (_ : σ 5 = .c (.int .i64 i)),
    Post (evC (ev kk) (.loop l55_0) (σ, H)) fun ex σ' H' => ex = .exit 0 ∧ H' = H ∧ σ' 0 = .c (.slice p xs.length cap)
  | 0, i, hi, σ, h0, h1, h5 => by
    have hge : ¬ ((i : Int) < xs.length) := by omega
    rw [evC_loop]
    simp only [evC_exit, evC_region, evC_seq, ev_t, putS_some, ops_nil, evC_condC, cond_bool, ops_cons, next_some, then_norm, then_exit, Option.map_some, evalOp, ↓reduceIte, reduceCtorEq, binA, binC, intBin, or_false, or_true, decide_false, and_self, eq_self, Bool.false_eq_true, Nat.reduceBEq, post_some, upd_at, upd_ne, l55_0, h0, h5, hge]
  | n + 1, i, hi, σ, h0, h1, h5 => by
    have hil : i < xs.length := by omega
    have hlt : (i : Int) < xs.length := by omega
    obtain ⟨id, t, m, rfl, hb⟩ := hp (by omega)
    obtain ⟨id', t', m', rfl, hb'⟩ := hq (by omega)
    have hle : i * 2 + 2 ≤ (nrows xs).length := by rw [nrowl]; omega
    rw [evC_loop]
    simp (maxSteps := 4000000) (disch := first | omega | (refine _root_.id ?_; simp only [pl_int, pl_bool, pl_str, pl_undef, pl_nil, pl_ptr, plA_c, plA_agg, plA_tup, plV_c, plV_agg, List.all_cons, List.all_nil, Bool.and_true, Bool.and_self, eq_self, vi_int, vi_bool, get_app, get_app0, List.getElem?_cons_zero, List.getElem?_cons_succ, Option.join_some, lst_get, getL, upd_at, upd_ne, Nat.reduceBEq])) only [evC_skip, evC_region, evC_seq, evC_block, ev_t, ev_k, putS_some, ops_nil, evC_condC, cond_bool, ops_cons, next_some, nextD_some, then_norm, out_norm, Option.map_some, evalOp, readCells, Nat.zero_add, ↓reduceIte, reduceCtorEq, binA, binC, intBin, or_false, or_true, decide_true, and_self, eq_self, IntWalk.i64_in, Bool.not_true, Bool.false_eq_true, List.map_cons, List.map_nil, List.append_nil, evC_drawn, dr_nil, dr_cons, chk_nil, unA, upd_at, upd_ne, cast_nonneg, cast_toNat, l55_0, h0, h1, h5, hlt, hb, hb', hle, nrc hil, run92]
    exact loop55 (cap := cap) (cap' := cap') hlen hp hq n (i + 1) (by omega) _ (by simp only [upd_ne, Nat.reduceBEq, h0]) (by simp only [upd_ne, Nat.reduceBEq, h1]) (by simp only [upd_at]; rfl)
theorem run55 {p q : Option (Nat × Nat)} {cap cap' : Cap} {xs : List Nt} (hlen : xs.length ≤ 4398046511104) {H : AHeap} (hp : Nts H p xs) (hq : Nts H q xs) : ev kk 55 [.c (.slice p xs.length cap), .c (.slice q xs.length cap')] H = some (.c (.bool true), H) := by
  have L : ∀ (σ : Sl), σ 0 = .c (.slice p xs.length cap) → σ 1 = .c (.slice q xs.length cap') → σ 5 = .c (.int .i64 0) → _ := fun σ h0 h3 h4 => post_fin (loop55 hlen hp hq xs.length 0 (by omega) σ h0 h3 h4)
  rw [ev_call c55]; unfold k55; rw [evB_eq rfl]
  simp (maxSteps := 4000000) (disch := first | omega | (refine _root_.id ?_; simp only [pl_int, pl_bool, pl_str, pl_undef, pl_nil, pl_ptr, plA_c, plA_agg, plA_tup, plV_c, plV_agg, List.all_cons, List.all_nil, Bool.and_true, Bool.and_self, eq_self, vi_int, vi_bool, get_app, get_app0, List.getElem?_cons_zero, List.getElem?_cons_succ, Option.join_some, lst_get, getL, upd_at, upd_ne, Nat.reduceBEq])) only [evC_skip, evC_ret, evC_region, evC_seq, evC_block, ev_t, ev_k, putS_some, upd_l, ops_nil, evC_condC, cond_bool, ops_cons, next_some, then_norm, out_exit, done_ret, putL, getL, Option.bind_some, Option.map_some, evalOp, ↓reduceIte, reduceCtorEq, binA, binC, intBin, or_false, or_true, evalRs, evalR, AV.toV0?, mkRes, V0.toAV, lst_get, eq_self, finish_id, Bool.false_eq_true, bne_self_eq_false, upd_at, (fun σ h0 h3 h4 => (L σ h0 h3 h4).1), upd_at]
abbrev hc (e : TypeId) (st : Bool) (p : Option (Nat × Nat)) (n : Nat) (cap : Cap) (g : List Int) : Option Blk := some ⟨e, hrow st p n cap g, .own⟩
/-- What a copy lays. -/
abbrev hlay (L : Nat) (st : Bool) (p : Option (Nat × Nat)) (cap : Cap) (xs : List Nt) (g : List Int) : List (Option Blk) := [hc 26 st p xs.length cap g, hc 36 st (some (L + 3, 0)) xs.length (.exact xs.length) g, hc 36 st (some (L + 3, 0)) xs.length (.exact xs.length) g, ncpy xs]
theorem grow_ok {g : List Int} : (grow g).all CV.ok = true := by simp [grow, CV.ok]
theorem run13 {p : Option (Nat × Nat)} {cap : Cap} {xs : List Nt} {st : Bool} {g : List Int} (hg : g.length = 16) (hlen : xs.length ≤ 1048576) {H : AHeap} (hp : Nts H p xs) : ev kk 13 [.agg (hrow st p xs.length cap g)] H = some (.agg (hrow st (some (H.length + 3, 0)) xs.length (.exact xs.length) g), H ++ hlay H.length st p cap xs g) := by
  have r68 := fun T => run52 (cap := cap) hlen (hp.app T)
  have r69 := fun T => run53 hg (H ++ T)
  match g, hg with
  | [a0, a1, a2, a3, a4, a5, a6, a7, a8, a9, a10, a11, a12, a13, a14, a15], _ =>
    simp only [grow, List.map_cons, List.map_nil] at r69
    rw [ev_call c13]; unfold k13; rw [evB_eq rfl]
    simp (maxSteps := 4000000) (disch := first | omega | (refine _root_.id ?_; simp only [pl_int, pl_bool, pl_str, pl_undef, pl_nil, pl_ptr, plA_c, plA_agg, plA_tup, plV_c, plV_agg, List.all_cons, List.all_nil, Bool.and_true, Bool.and_self, eq_self, vi_int, vi_bool, get_app, get_app0, List.getElem?_cons_zero, List.getElem?_cons_succ, Option.join_some, lst_get, getL, upd_at, upd_ne, Nat.reduceBEq])) only [evC_ret, evC_region, evC_seq, ev_t, ev_k, putS_some, upd_l, putS_none, ops_nil, ops_cons, next_some, then_norm, done_ret, putL, getL, Option.bind_some, Option.map_some, evalOp, AV.cells?, readCells, readCell, writeCells, get_app, get_app0, set_app, len_app, List.getElem?_cons_zero, List.getElem?_cons_succ, Option.join_some, List.length_cons, List.length_nil, List.append_assoc, List.cons_append, List.nil_append, Nat.zero_add, Nat.add_zero, Nat.reduceAdd, Nat.reduceLeDiff, List.drop_zero, List.drop_succ_cons, List.take_zero, List.take_succ_cons, List.take_nil, List.drop_nil, ↓reduceIte, evalRs, evalR, mkRes, V0.toAV, and_self, lst_get, eq_self, List.all_cons, List.all_nil, Bool.and_true, List.map_cons, List.map_nil, List.append_nil, setAt, CV.ok, List.set_cons_zero, List.set_cons_succ, finish_no, r68, r69, grow]
    rfl
theorem run16 {p q : Option (Nat × Nat)} {cap cap' : Cap} {xs : List Nt} {st : Bool} {g : List Int} (hg : g.length = 16) (hlen : xs.length ≤ 4398046511104) {H : AHeap} (hp : Nts H p xs) (hq : Nts H q xs) : ev kk 16 [.agg (hrow st p xs.length cap g), .agg (hrow st q xs.length cap' g)] H = some (.c (.bool true), H) := by
  have r72 := fun T => run55 (cap := cap) (cap' := cap') hlen (hp.app T) (hq.app T)
  have r73 := fun T => run56 hg (H ++ T)
  match g, hg with
  | [a0, a1, a2, a3, a4, a5, a6, a7, a8, a9, a10, a11, a12, a13, a14, a15], _ =>
    simp only [grow, List.map_cons, List.map_nil] at r73
    rw [ev_call c16]; unfold k16; rw [evB_eq rfl]
    simp (maxSteps := 4000000) (disch := first | omega | (refine _root_.id ?_; simp only [pl_int, pl_bool, pl_str, pl_undef, pl_nil, pl_ptr, plA_c, plA_agg, plA_tup, plV_c, plV_agg, List.all_cons, List.all_nil, Bool.and_true, Bool.and_self, eq_self, vi_int, vi_bool, get_app, get_app0, List.getElem?_cons_zero, List.getElem?_cons_succ, Option.join_some, lst_get, getL, upd_at, upd_ne, Nat.reduceBEq])) only [evC_skip, evC_ret, evC_region, evC_seq, ev_t, ev_k, putS_some, upd_l, ops_nil, evC_condC, cond_bool, ops_cons, next_some, then_norm, done_ret, putL, getL, Option.bind_some, Option.map_some, evalOp, AV.cells?, readCells, readCell, get_app, get_app0, len_app, List.getElem?_cons_zero, List.getElem?_cons_succ, Option.join_some, List.length_cons, List.length_nil, List.append_assoc, List.cons_append, List.nil_append, Nat.zero_add, Nat.add_zero, Nat.reduceAdd, Nat.reduceLeDiff, List.drop_zero, List.drop_succ_cons, List.take_succ_cons, List.take_nil, ↓reduceIte, binA, binC, evalRs, evalR, AV.toV0?, mkRes, V0.toAV, lst_get, eq_self, finish_app, beq_self_eq_true, Bool.not_true, Bool.false_eq_true, List.map_cons, List.map_nil, List.append_nil, eqRes, unA, r72, r73, grow]
theorem okH_p {xs : List Nt} {g : List Int} (h : okH xs g = true) : xs.length ≤ 60 ∧ (∀ x ∈ xs, okN x = true) ∧ g.all gq = true := by
  unfold okH at h
  rw [Bool.and_eq_true, Bool.and_eq_true] at h
  obtain ⟨⟨h1, h2⟩, h3⟩ := h
  refine ⟨of_decide_eq_true h1, ?_, h3⟩
  have : ∀ (ys : List Nt) (pv : Option Nt), ntsG pv ys = true → ∀ x ∈ ys, okN x = true := by
    intro ys
    induction ys with
    | nil => intro _ _ x hx; cases hx
    | cons y ys ih =>
      intro pv h x hx
      have h : ((okN y && nxtOk pv y) && ntsG (some y) ys) = true := h
      rw [Bool.and_eq_true, Bool.and_eq_true] at h
      rcases List.mem_cons.1 hx with rfl | hx
      · exact h.1.1
      · exact ih _ h.2 x hx
  exact this xs none h2
end Go.Proofs.Ytnblibimbggheaa
