/- What functions of the program answer: part TmS. -/
import Derived.Test.YtnblibimbggheaaWays3
set_option linter.unusedVariables false
set_option linter.unusedSimpArgs false
set_option linter.unusedSectionVars false
namespace Go.Proofs.Ytnblibimbggheaa
open Go Go.Proofs.Ytnblibimbggheaa.VI
set_option maxHeartbeats 16000000
set_option maxRecDepth 20000
/-! Slices of tampers -/
def Tts (H : AHeap) (p : Option (Nat × Nat)) (ts : List Tm) : Prop := 0 < ts.length → ∃ id t m, p = some (id, 0) ∧ H.get id = some ⟨t, trows ts, m⟩
theorem Tts.pre {H J : AHeap} {p : Option (Nat × Nat)} {ts : List Tm} (h : Tts H p ts) (k : Pre H J) : Tts J p ts := fun h0 => by
  obtain ⟨id, t, m, h1, h2⟩ := h h0; exact ⟨id, t, m, h1, k.get h2⟩
theorem trc {ts : List Tm} {i : Nat} (hi : i < ts.length) : (((trows ts).drop (i * 4)).take 4) = trow (ts[i]'hi) := rows_cut trow_len hi
theorem run36 {t : Tm} (H : AHeap) : ev kk 36 [.agg (trow t), .agg (trow t)] H = some (.c (.bool true), H) := by
  rw [ev_call c36]; unfold k36; rw [evB_eq rfl]
  simp (maxSteps := 4000000) (disch := first | omega | (refine _root_.id ?_; simp only [pl_int, pl_bool, pl_str, pl_undef, pl_nil, pl_ptr, plA_c, plA_agg, plA_tup, plV_c, plV_agg, List.all_cons, List.all_nil, Bool.and_true, Bool.and_self, eq_self, vi_int, vi_bool, get_app, get_app0, List.getElem?_cons_zero, List.getElem?_cons_succ, Option.join_some, lst_get, getL, upd_at, upd_ne, Nat.reduceBEq])) only [evC_skip, evC_ret, evC_region, evC_seq, ev_t, ev_k, putS_some, upd_l, ops_nil, evC_condC, cond_bool, ops_cons, next_some, then_norm, done_ret, putL, getL, Option.bind_some, Option.map_some, evalOp, AV.cells?, readCell, get_app, get_app0, len_app, List.getElem?_cons_zero, List.getElem?_cons_succ, Option.join_some, List.length_cons, List.length_nil, List.append_assoc, List.cons_append, List.nil_append, Nat.zero_add, Nat.add_zero, ↓reduceIte, reduceCtorEq, binA, binC, intBin, or_false, or_true, evalRs, evalR, AV.toV0?, mkRes, V0.toAV, lst_get, eq_self, finish_app, Bool.false_eq_true, bne_self_eq_false]
theorem loop41 {p q : Option (Nat × Nat)} {cap cap' : Cap} {ts : List Tm} (hlen : ts.length ≤ 4398046511104) {H : AHeap} (hp : Tts H p ts) (hq : Tts H q ts) : ∀ (n i : Nat) (_ : i + n = ts.length) (σ : Sl) (_ : σ 0 = .c (.slice p ts.length cap)) (_ : σ 1 = .c (.slice q ts.length cap')) (_ : σ 5 = .c (.int .i64 i)),
    Post (evC (ev kk) (.loop l41_0) (σ, H)) fun ex σ' H' => ex = .exit 0 ∧ H' = H
  | 0, i, hi, σ, h0, h1, h5 => by
    have hge : ¬ ((i : Int) < ts.length) := by omega
    rw [evC_loop]
    simp only [evC_exit, evC_region, evC_seq, ev_t, putS_some, ops_nil, evC_condC, cond_bool, ops_cons, next_some, then_norm, then_exit, Option.map_some, evalOp, ↓reduceIte, reduceCtorEq, binA, binC, intBin, or_false, or_true, decide_false, and_self, eq_self, Bool.false_eq_true, Nat.reduceBEq, post_some, upd_at, upd_ne, l41_0, h0, h5, hge]
  | n + 1, i, hi, σ, h0, h1, h5 => by
    have hil : i < ts.length := by omega
    have hlt : (i : Int) < ts.length := by omega
    obtain ⟨id, t, m, rfl, hb⟩ := hp (by omega)
    obtain ⟨id', t', m', rfl, hb'⟩ := hq (by omega)
    have hle : i * 4 + 4 ≤ (trows ts).length := by rw [trowl]; omega
    rw [evC_loop]
    simp (maxSteps := 4000000) (disch := first | omega | (refine _root_.id ?_; simp only [pl_int, pl_bool, pl_str, pl_undef, pl_nil, pl_ptr, plA_c, plA_agg, plA_tup, plV_c, plV_agg, List.all_cons, List.all_nil, Bool.and_true, Bool.and_self, eq_self, vi_int, vi_bool, get_app, get_app0, List.getElem?_cons_zero, List.getElem?_cons_succ, Option.join_some, lst_get, getL, upd_at, upd_ne, Nat.reduceBEq])) only [evC_skip, evC_region, evC_seq, evC_block, ev_t, ev_k, putS_some, ops_nil, evC_condC, cond_bool, ops_cons, next_some, nextD_some, then_norm, out_norm, Option.map_some, evalOp, readCells, Nat.zero_add, ↓reduceIte, reduceCtorEq, binA, binC, intBin, or_false, or_true, decide_true, and_self, eq_self, IntWalk.i64_in, Bool.not_true, Bool.false_eq_true, List.map_cons, List.map_nil, List.append_nil, evC_drawn, dr_nil, dr_cons, chk_nil, unA, upd_at, upd_ne, cast_nonneg, cast_toNat, l41_0, h0, h1, h5, hlt, hb, hb', hle, trc hil, run36]
    exact loop41 (cap := cap) (cap' := cap') hlen hp hq n (i + 1) (by omega) _ (by simp only [upd_ne, Nat.reduceBEq, h0]) (by simp only [upd_ne, Nat.reduceBEq, h1]) (by simp only [upd_at]; rfl)
theorem run41 {p q : Option (Nat × Nat)} {cap cap' : Cap} {ts : List Tm} (hlen : ts.length ≤ 4398046511104) {H : AHeap} (hp : Tts H p ts) (hq : Tts H q ts) : ev kk 41 [.c (.slice p ts.length cap), .c (.slice q ts.length cap')] H = some (.c (.bool true), H) := by
  obtain ⟨_, σ', _, eL, rfl, rfl⟩ := loop41 (cap := cap) (cap' := cap') hlen hp hq ts.length 0 (by omega) (lst [.c (.slice p ts.length cap), .c (.slice q ts.length cap'), .c .undef, .c .undef, .c (.bool false), .c (.int .i64 0), .c (.slice p ts.length cap), .c (.int .i64 ts.length), .c (.slice q ts.length cap'), .c (.int .i64 ts.length), .c (.bool false)]) rfl rfl rfl
  rw [ev_call c41]; unfold k41; rw [evB_eq rfl]
  simp (maxSteps := 4000000) (disch := first | omega | (refine _root_.id ?_; simp only [pl_int, pl_bool, pl_str, pl_undef, pl_nil, pl_ptr, plA_c, plA_agg, plA_tup, plV_c, plV_agg, List.all_cons, List.all_nil, Bool.and_true, Bool.and_self, eq_self, vi_int, vi_bool, get_app, get_app0, List.getElem?_cons_zero, List.getElem?_cons_succ, Option.join_some, lst_get, getL, upd_at, upd_ne, Nat.reduceBEq])) only [evC_skip, evC_ret, evC_region, evC_seq, evC_block, ev_t, ev_k, putS_some, upd_l, ops_nil, evC_condC, cond_bool, ops_cons, next_some, then_norm, out_exit, done_ret, putL, getL, Option.bind_some, Option.map_some, evalOp, ↓reduceIte, reduceCtorEq, binA, binC, intBin, or_false, or_true, evalRs, evalR, AV.toV0?, mkRes, V0.toAV, lst_get, eq_self, finish_id, Bool.false_eq_true, bne_self_eq_false, upd_at, eL, upd_at]
/-! Marks in them -/
def mkT1 (k : Int) : Tm := ⟨IntKind.i8.wrap k, IntKind.i8.wrap (k + 1), IntKind.i16.wrap (k + 1 + 1), IntKind.i16.wrap (k + 1 + 1 + 1)⟩
def mkT (k : Int) (n : Nat) : List Tm := (List.range n).map fun i : Nat => mkT1 (k + 4 * (i : Int))
theorem mkT_len {k : Int} {n : Nat} : (mkT k n).length = n := by simp [mkT]
theorem mkT_get {k : Int} {n i : Nat} (hi : i < n) : (mkT k n)[i]'(by rw [mkT_len]; exact hi) = mkT1 (k + 4 * (i : Int)) := by simp [mkT]
theorem rows_cell {α : Type} {f : α → List CV} {s : Nat} (hs : ∀ x, (f x).length = s) {x' : α} {j : Nat} {v : CV} (hj : j < s) : ∀ {xs : List α} {i : Nat} (hi : i < xs.length) (_ : f x' = (f (xs[i]'hi)).take j ++ v :: (f (xs[i]'hi)).drop (j + 1)), List.take (i * s + j) ((xs.map f).flatten) ++ v :: List.drop (i * s + j + 1) ((xs.map f).flatten) = ((xs.set i x').map f).flatten
  | y :: ys, 0, _, he => by
    simp only [List.getElem_cons_zero] at he
    simp only [Nat.zero_mul, Nat.zero_add, List.map_cons, List.flatten_cons, List.set_cons_zero, he]
    rw [List.take_append_of_le_length (by rw [hs]; omega), List.drop_append_of_le_length (by rw [hs]; omega)]
    simp only [List.append_assoc, List.cons_append]
  | y :: ys, i + 1, hi, he => by
    simp only [List.getElem_cons_succ] at he
    have := rows_cell hs hj (xs := ys) (i := i) (by simpa using hi) he
    have e1 : (i + 1) * s + j = (f y).length + (i * s + j) := by rw [hs, Nat.succ_mul]; omega
    simp only [List.map_cons, List.flatten_cons, List.set_cons_succ]
    rw [← this, e1, List.take_length_add_append, Nat.add_assoc ((f y).length), List.drop_length_add_append, List.append_assoc]
section
variable {ts : List Tm} {i : Nat} (hi : i < ts.length)
include hi
theorem ts0 {v : Int} : List.take (i * 4) (trows ts) ++ CV.int .i8 v :: List.drop (i * 4 + 1) (trows ts) = trows (ts.set i ⟨v, (ts[i]'hi).to, (ts[i]'hi).ix, (ts[i]'hi).at_⟩) := rows_cell trow_len (j := 0) (by omega) hi rfl
theorem ts1 {v : Int} : List.take (i * 4 + 1) (trows ts) ++ CV.int .i8 v :: List.drop (i * 4 + 1 + 1) (trows ts) = trows (ts.set i ⟨(ts[i]'hi).k, v, (ts[i]'hi).ix, (ts[i]'hi).at_⟩) := rows_cell trow_len (j := 1) (by omega) hi rfl
theorem ts2 {v : Int} : List.take (i * 4 + 2) (trows ts) ++ CV.int .i16 v :: List.drop (i * 4 + 2 + 1) (trows ts) = trows (ts.set i ⟨(ts[i]'hi).k, (ts[i]'hi).to, v, (ts[i]'hi).at_⟩) := rows_cell trow_len (j := 2) (by omega) hi rfl
theorem ts3 {v : Int} : List.take (i * 4 + 3) (trows ts) ++ CV.int .i16 v :: List.drop (i * 4 + 3 + 1) (trows ts) = trows (ts.set i ⟨(ts[i]'hi).k, (ts[i]'hi).to, (ts[i]'hi).ix, v⟩) := rows_cell trow_len (j := 3) (by omega) hi rfl
theorem tr0 : (trows ts)[i * 4]? = some (.int .i8 (ts[i]'hi).k) := by have := rows_get trow_len hi (j := 0) (by omega); simpa using this
theorem tr1 : (trows ts)[i * 4 + 1]? = some (.int .i8 (ts[i]'hi).to) := by have := rows_get trow_len hi (j := 1) (by omega); simpa using this
theorem tr2 : (trows ts)[i * 4 + 2]? = some (.int .i16 (ts[i]'hi).ix) := by have := rows_get trow_len hi (j := 2) (by omega); simpa using this
theorem tr3 : (trows ts)[i * 4 + 3]? = some (.int .i16 (ts[i]'hi).at_) := by have := rows_get trow_len hi (j := 3) (by omega); simpa using this
end
theorem trows_valid {n : Nat} {ts : List Tm} : (trows ts).all (CV.validIn n) = true := by
  induction ts with
  | nil => rfl
  | cons x xs ih => simp only [trows, List.map_cons, List.flatten_cons, List.all_append, ih, Bool.and_true, trow, List.all_cons, vi_int, List.all_nil]
theorem loop42m {id n : Nat} {cap : Cap} {k : Int} {e : TypeId} {m : BM} (hm : m = .own ∨ m = .opn) (hk : 0 ≤ k ∧ k ≤ 4398046511104) (hn : n ≤ 1048576) {H : AHeap} (hid : id < H.length) : ∀ (r i : Nat) (_ : i + r = n) (ys : List Tm) (_ : ys.length = n) (_ : ys.take i = (mkT k n).take i) (σ : Sl) (_ : σ 0 = .c (.slice (some (id, 0)) n cap)) (_ : σ 1 = .c (.int .i64 (k + 4 * i))) (_ : σ 5 = .c (.int .i64 i)),
    Post (evC (ev kk) (.loop l42_0) (σ, H.set id (some ⟨e, trows ys, m⟩))) fun ex σ' H' => ex = .exit 0 ∧ H' = H.set id (some ⟨e, trows (mkT k n), m⟩) ∧ σ' 1 = .c (.int .i64 (k + 4 * n))
  | 0, i, hi, ys, hy, ht, σ, h0, h1, h5 => by
    have hge : ¬ ((i : Int) < n) := by omega
    have hin : i = n := by omega
    subst hin
    have : ys = mkT k i := by
      rw [List.take_of_length_le (by omega), List.take_of_length_le (by rw [mkT_len]; omega)] at ht; exact ht
    subst this
    rw [evC_loop]
    simp only [evC_exit, evC_region, evC_seq, ev_t, putS_some, ops_nil, evC_condC, cond_bool, ops_cons, next_some, then_norm, then_exit, Option.map_some, evalOp, ↓reduceIte, reduceCtorEq, binA, binC, intBin, or_false, or_true, decide_false, and_self, eq_self, Bool.false_eq_true, Nat.reduceBEq, post_some, upd_at, upd_ne, l42_0, h0, h1, h5, hge]
  | r + 1, i, hi, ys, hy, ht, σ, h0, h1, h5 => by
    have hil : i < n := by omega
    have hlt : (i : Int) < n := by omega
    have hiy : i < ys.length := by omega
    obtain ⟨a, ha⟩ : ∃ a, a = IntKind.i8.wrap (k + 4 * i) := ⟨_, rfl⟩
    obtain ⟨b, hb⟩ : ∃ b, b = IntKind.i8.wrap (k + 4 * i + 1) := ⟨_, rfl⟩
    obtain ⟨c, hc⟩ : ∃ c, c = IntKind.i16.wrap (k + 4 * i + 1 + 1) := ⟨_, rfl⟩
    obtain ⟨d, hd⟩ : ∃ d, d = IntKind.i16.wrap (k + 4 * i + 1 + 1 + 1) := ⟨_, rfl⟩
    have lens : ∀ x : Tm, i < (ys.set i x).length := fun x => by rw [List.length_set]; exact hiy
    have les : ∀ (j : Nat) (x : Tm), j < 4 → i * 4 + j + 1 ≤ (trows (ys.set i x)).length := fun j x hj => by rw [trowl, List.length_set]; omega
    have s0 := ts0 hiy (v := a)
    have s1 := ts1 (lens ⟨a, (ys[i]'hiy).to, (ys[i]'hiy).ix, (ys[i]'hiy).at_⟩) (v := b)
    have s2 := ts2 (lens ⟨a, b, (ys[i]'hiy).ix, (ys[i]'hiy).at_⟩) (v := c)
    have s3 := ts3 (lens ⟨a, b, c, (ys[i]'hiy).at_⟩) (v := d)
    simp only [List.getElem_set_self, List.set_set] at s1 s2 s3
    have l0 : i * 4 + 1 ≤ (trows ys).length := by rw [trowl]; omega
    have l1 := les 1 ⟨a, (ys[i]'hiy).to, (ys[i]'hiy).ix, (ys[i]'hiy).at_⟩ (by omega)
    have l2 := les 2 ⟨a, b, (ys[i]'hiy).ix, (ys[i]'hiy).at_⟩ (by omega)
    have l3 := les 3 ⟨a, b, c, (ys[i]'hiy).at_⟩ (by omega)
    have step := loop42m (cap := cap) (e := e) hm hk hn hid r (i + 1) (by omega) (ys.set i ⟨a, b, c, d⟩) (by simpa using hy) (by
      rw [List.take_add_one, List.take_add_one, List.take_set_of_le (Nat.le_refl i), ht, List.getElem?_set_self hiy, List.getElem?_eq_getElem (by rw [mkT_len]; omega), mkT_get hil, ha, hb, hc, hd]; rfl)
    rw [evC_loop]
    rcases hm with rfl | rfl
    · simp (maxSteps := 4000000) (disch := first | omega | (refine _root_.id ?_; simp only [pl_int, pl_bool, pl_str, pl_undef, pl_nil, pl_ptr, plA_c, plA_agg, plA_tup, plV_c, plV_agg, List.all_cons, List.all_nil, Bool.and_true, Bool.and_self, eq_self, vi_int, vi_bool, get_app, get_app0, List.getElem?_cons_zero, List.getElem?_cons_succ, Option.join_some, lst_get, getL, upd_at, upd_ne, Nat.reduceBEq])) only [evC_skip, evC_region, evC_seq, evC_block, ev_t, ev_k, putS_some, putS_none, ops_nil, evC_condC, cond_bool, ops_cons, next_some, then_norm, out_norm, Option.map_some, evalOp, AV.cells?, writeCells, List.length_cons, List.length_nil, List.append_assoc, List.cons_append, List.nil_append, Nat.zero_add, Nat.add_zero, ↓reduceIte, reduceCtorEq, binA, binC, intBin, or_false, or_true, decide_true, and_self, eq_self, IntWalk.i64_in, List.all_cons, List.all_nil, Bool.and_true, setAt, CV.ok, upd_at, upd_ne, cast_nonneg, cast_toNat, l42_0, h0, h1, h5, hlt, get_set hid, ← ha, ← hb, ← hc, ← hd, l0, s0, set_set, l1, s1, l2, s2, l3, s3]
      exact step _ (by simp only [upd_ne, Nat.reduceBEq, h0]) (by simp only [upd_at, upd_ne, Nat.reduceBEq]; congr 2; omega) (by simp only [upd_at]; rfl)
    · simp (maxSteps := 4000000) (disch := first | omega | (refine _root_.id ?_; simp only [pl_int, pl_bool, pl_str, pl_undef, pl_nil, pl_ptr, plA_c, plA_agg, plA_tup, plV_c, plV_agg, List.all_cons, List.all_nil, Bool.and_true, Bool.and_self, eq_self, vi_int, vi_bool, get_app, get_app0, List.getElem?_cons_zero, List.getElem?_cons_succ, Option.join_some, lst_get, getL, upd_at, upd_ne, Nat.reduceBEq])) only [evC_skip, evC_region, evC_seq, evC_block, ev_t, ev_k, putS_some, putS_none, ops_nil, evC_condC, cond_bool, ops_cons, next_some, then_norm, out_norm, Option.map_some, evalOp, AV.cells?, writeCells, List.length_cons, List.length_nil, List.append_assoc, List.cons_append, List.nil_append, Nat.zero_add, Nat.add_zero, ↓reduceIte, reduceCtorEq, binA, binC, intBin, or_false, or_true, decide_true, and_self, eq_self, IntWalk.i64_in, List.all_cons, List.all_nil, Bool.and_true, setAt, CV.ok, upd_at, upd_ne, cast_nonneg, cast_toNat, l42_0, h0, h1, h5, hlt, get_set hid, ← ha, ← hb, ← hc, ← hd, l0, s0, set_set, l1, s1, l2, s2, l3, s3]
      exact step _ (by simp only [upd_ne, Nat.reduceBEq, h0]) (by simp only [upd_at, upd_ne, Nat.reduceBEq]; congr 2; omega) (by simp only [upd_at]; rfl)
theorem run42m {id n : Nat} {cap : Cap} {k : Int} {e : TypeId} {m : BM} {ys : List Tm} {H : AHeap} (hm : m = .own ∨ m = .opn) (hk : 0 ≤ k ∧ k ≤ 4398046511104) (hn : n ≤ 1048576) (hg : H.get id = some ⟨e, trows ys, m⟩) (hy : ys.length = n) : ev kk 42 [.c (.slice (some (id, 0)) n cap), .c (.int .i64 k)] H = some (.c (.int .i64 (k + 4 * n)), H.set id (some ⟨e, trows (mkT k n), m⟩)) := by
  have hid := get_some_lt hg
  obtain ⟨_, σ', _, eL, rfl, rfl, q1⟩ := loop42m (H := H) (cap := cap) (e := e) hm hk hn hid n 0 (by omega) ys hy rfl (lst [.c (.slice (some (id, 0)) n cap), .c (.int .i64 k), .c .undef, .c .undef, .c (.int .i64 0), .c (.int .i64 0)]) rfl (by show AV.c (.int .i64 k) = _; simp) rfl
  rw [set_same hg] at eL
  rw [ev_call c42]; unfold k42; rw [evB_eq rfl]
  simp (maxSteps := 4000000) (disch := first | omega | (refine _root_.id ?_; simp only [pl_int, pl_bool, pl_str, pl_undef, pl_nil, pl_ptr, plA_c, plA_agg, plA_tup, plV_c, plV_agg, List.all_cons, List.all_nil, Bool.and_true, Bool.and_self, eq_self, vi_int, vi_bool, get_app, get_app0, List.getElem?_cons_zero, List.getElem?_cons_succ, Option.join_some, lst_get, getL, upd_at, upd_ne, Nat.reduceBEq])) only [evC_ret, evC_region, evC_seq, evC_block, ev_t, ev_k, putS_some, upd_l, ops_nil, ops_cons, next_some, then_norm, out_exit, done_ret, putL, Option.bind_some, Option.map_some, evalOp, ↓reduceIte, evalRs, evalR, AV.toV0?, mkRes, V0.toAV, eq_self, upd_at, eL, q1]
  rw [finish_set0 (by simp only [plA_c, pl_int]) trows_valid]
theorem run42z {p : Option (Nat × Nat)} {cap : Cap} {k : Int} {H : AHeap} : ev kk 42 [.c (.slice p 0 cap), .c (.int .i64 k)] H = some (.c (.int .i64 k), H) := by
  rw [ev_call c42]; unfold k42; rw [evB_eq rfl]
  simp (maxSteps := 4000000) (disch := first | omega | (refine _root_.id ?_; simp only [pl_int, pl_bool, pl_str, pl_undef, pl_nil, pl_ptr, plA_c, plA_agg, plA_tup, plV_c, plV_agg, List.all_cons, List.all_nil, Bool.and_true, Bool.and_self, eq_self, vi_int, vi_bool, get_app, get_app0, List.getElem?_cons_zero, List.getElem?_cons_succ, Option.join_some, lst_get, getL, upd_at, upd_ne, Nat.reduceBEq])) only [evC_exit, evC_ret, evC_region, evC_seq, evC_block, ev_t, ev_k, putS_some, upd_l, ops_nil, evC_condC, cond_bool, evC_loop, ops_cons, next_some, then_norm, then_exit, out_exit, done_ret, putL, getL, Option.bind_some, Option.map_some, evalOp, ↓reduceIte, reduceCtorEq, binA, binC, intBin, or_false, or_true, Int.reduceLT, evalRs, evalR, AV.toV0?, mkRes, V0.toAV, decide_false, lst_get, Int.cast_ofNat_Int, eq_self, finish_id, Bool.false_eq_true, l42_0]
theorem loop45 {id n : Nat} {cap : Cap} {k : Int} {e : TypeId} {m : BM} (hk : 0 ≤ k ∧ k ≤ 4398046511104) (hn : n ≤ 1048576) {H : AHeap} (hg : H.get id = some ⟨e, trows (mkT k n), m⟩) : ∀ (r i : Nat) (_ : i + r = n) (σ : Sl) (_ : σ 0 = .c (.slice (some (id, 0)) n cap)) (_ : σ 1 = .c (.int .i64 (k + 4 * i))) (_ : σ 5 = .c (.int .i64 i)),
    Post (evC (ev kk) (.loop l45_0) (σ, H)) fun ex σ' H' => ex = .exit 0 ∧ H' = H ∧ σ' 1 = .c (.int .i64 (k + 4 * n))
  | 0, i, hi, σ, h0, h1, h5 => by
    have hge : ¬ ((i : Int) < n) := by omega
    have hin : i = n := by omega
    subst hin
    rw [evC_loop]
    simp only [evC_exit, evC_region, evC_seq, ev_t, putS_some, ops_nil, evC_condC, cond_bool, ops_cons, next_some, then_norm, then_exit, Option.map_some, evalOp, ↓reduceIte, reduceCtorEq, binA, binC, intBin, or_false, or_true, decide_false, and_self, eq_self, Int.reduceNeg, Bool.false_eq_true, Nat.reduceBEq, post_some, upd_at, upd_ne, l45_0, h0, h1, h5, hge]
  | r + 1, i, hi, σ, h0, h1, h5 => by
    have hil : i < n := by omega
    have hlt : (i : Int) < n := by omega
    have hil' : i < (mkT k n).length := by rw [mkT_len]; exact hil
    have e0 := tr0 hil'
    have e1 := tr1 hil'
    have e2 := tr2 hil'
    have e3 := tr3 hil'
    rw [mkT_get hil] at e0 e1 e2 e3
    dsimp only [mkT1] at e0 e1 e2 e3
    rw [evC_loop]
    simp (maxSteps := 4000000) (disch := first | omega | (refine _root_.id ?_; simp only [pl_int, pl_bool, pl_str, pl_undef, pl_nil, pl_ptr, plA_c, plA_agg, plA_tup, plV_c, plV_agg, List.all_cons, List.all_nil, Bool.and_true, Bool.and_self, eq_self, vi_int, vi_bool, get_app, get_app0, List.getElem?_cons_zero, List.getElem?_cons_succ, Option.join_some, lst_get, getL, upd_at, upd_ne, Nat.reduceBEq])) only [evC_skip, evC_region, evC_seq, evC_block, ev_t, ev_k, putS_some, ops_nil, evC_condC, cond_bool, ops_cons, next_some, then_norm, out_norm, Option.map_some, evalOp, readCell, Nat.zero_add, Nat.add_zero, ↓reduceIte, reduceCtorEq, binA, binC, intBin, or_false, or_true, decide_true, and_self, eq_self, IntWalk.i64_in, Int.reduceNeg, Bool.false_eq_true, bne_self_eq_false, upd_at, upd_ne, cast_nonneg, cast_toNat, l45_0, h0, h1, h5, hlt, hg, e0, e1, e2, e3]
    exact loop45 (cap := cap) hk hn hg r (i + 1) (by omega) _ (by simp only [upd_ne, Nat.reduceBEq, h0]) (by simp only [upd_at, upd_ne, Nat.reduceBEq]; congr 2; omega) (by simp only [upd_at]; rfl)
theorem run45 {id n : Nat} {cap : Cap} {k : Int} {e : TypeId} {m : BM} {H : AHeap} (hk : 0 ≤ k ∧ k ≤ 4398046511104) (hn : n ≤ 1048576) (hg : H.get id = some ⟨e, trows (mkT k n), m⟩) : ev kk 45 [.c (.slice (some (id, 0)) n cap), .c (.int .i64 k)] H = some (.c (.int .i64 (k + 4 * n)), H) := by
  obtain ⟨_, σ', _, eL, rfl, rfl, q1⟩ := loop45 (cap := cap) hk hn hg n 0 (by omega) (lst [.c (.slice (some (id, 0)) n cap), .c (.int .i64 k), .c .undef, .c .undef, .c (.int .i64 0), .c (.int .i64 0)]) rfl (by show AV.c (.int .i64 k) = _; simp) rfl
  rw [ev_call c45]; unfold k45; rw [evB_eq rfl]
  simp (maxSteps := 4000000) (disch := first | omega | (refine _root_.id ?_; simp only [pl_int, pl_bool, pl_str, pl_undef, pl_nil, pl_ptr, plA_c, plA_agg, plA_tup, plV_c, plV_agg, List.all_cons, List.all_nil, Bool.and_true, Bool.and_self, eq_self, vi_int, vi_bool, get_app, get_app0, List.getElem?_cons_zero, List.getElem?_cons_succ, Option.join_some, lst_get, getL, upd_at, upd_ne, Nat.reduceBEq])) only [evC_ret, evC_region, evC_seq, evC_block, ev_t, ev_k, putS_some, upd_l, ops_nil, ops_cons, next_some, then_norm, out_exit, done_ret, putL, Option.bind_some, Option.map_some, evalOp, ↓reduceIte, evalRs, evalR, AV.toV0?, mkRes, V0.toAV, eq_self, finish_id, upd_at, eL, q1]
theorem run45z {p : Option (Nat × Nat)} {cap : Cap} {k : Int} {H : AHeap} : ev kk 45 [.c (.slice p 0 cap), .c (.int .i64 k)] H = some (.c (.int .i64 k), H) := by
  rw [ev_call c45]; unfold k45; rw [evB_eq rfl]
  simp (maxSteps := 4000000) (disch := first | omega | (refine _root_.id ?_; simp only [pl_int, pl_bool, pl_str, pl_undef, pl_nil, pl_ptr, plA_c, plA_agg, plA_tup, plV_c, plV_agg, List.all_cons, List.all_nil, Bool.and_true, Bool.and_self, eq_self, vi_int, vi_bool, get_app, get_app0, List.getElem?_cons_zero, List.getElem?_cons_succ, Option.join_some, lst_get, getL, upd_at, upd_ne, Nat.reduceBEq])) only [evC_exit, evC_ret, evC_region, evC_seq, evC_block, ev_t, ev_k, putS_some, upd_l, ops_nil, evC_condC, cond_bool, evC_loop, ops_cons, next_some, then_norm, then_exit, out_exit, done_ret, putL, getL, Option.bind_some, Option.map_some, evalOp, ↓reduceIte, reduceCtorEq, binA, binC, intBin, or_false, or_true, Int.reduceLT, evalRs, evalR, AV.toV0?, mkRes, V0.toAV, decide_false, lst_get, Int.cast_ofNat_Int, eq_self, Int.reduceNeg, finish_id, Bool.false_eq_true, l45_0]
end Go.Proofs.Ytnblibimbggheaa
