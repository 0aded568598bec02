/- What functions of the program answer: part Wood. -/
import Derived.Test.YtcfabmmonoljeaaDoorHalf2
set_option linter.unusedVariables false
set_option linter.unusedSimpArgs false
set_option linter.unusedSectionVars false
namespace Go.Proofs.YtcfabmmonoljeaaDoor
open Go Go.Proofs.YtcfabmmonoljeaaDoor.VI
set_option maxHeartbeats 16000000
set_option maxRecDepth 20000
/-! Wood -/
abbrev wrow (w : List Int) : List CV := w.map (CV.int .u64)
theorem wrow_get {w : List Int} {i : Nat} (hi : i < w.length) : (wrow w)[i]? = some (.int .u64 (w.getD i 0)) := by
  rw [List.getElem?_map, List.getElem?_eq_getElem hi, List.getD_eq_getElem?_getD, List.getElem?_eq_getElem hi]; rfl
theorem wrow_len {w : List Int} : (wrow w).length = w.length := List.length_map ..
theorem wrow_set {xs : List Int} {i : Nat} {v : Int} (hi : i < xs.length) : List.take i (wrow xs) ++ CV.int .u64 v :: List.drop (i + 1) (wrow xs) = wrow (xs.set i v) := by
  induction xs generalizing i with
  | nil => simp at hi
  | cons y ys ih =>
    cases i with
    | zero => simp [wrow]
    | succ i =>
      have := ih (i := i) (by simpa using hi)
      simp only [wrow, List.map_cons, List.take_succ_cons, List.drop_succ_cons, List.cons_append, List.set_cons_succ] at this ⊢
      rw [this]
/-- A bit that is set. -/
def setB (w : List Int) (s : Int) : List Int := w.set (s / 64).toNat (vor .u64 (w.getD (s / 64).toNat 0) (vshl .u64 1 (s % 64)))
theorem setB_len {w : List Int} {s : Int} : (setB w s).length = w.length := by unfold setB; simp
def wdN : Nat → Int → List Int → List Int
  | 0, _, w => w
  | k + 1, s, w => wdN k (s + 1) (setB w s)
theorem wdN_len : ∀ (k : Nat) (s : Int) (w : List Int), (wdN k s w).length = w.length
  | 0, _, _ => rfl
  | k + 1, s, w => (wdN_len k (s + 1) (setB w s)).trans setB_len
def wdL : List Nt → List Int → List Int
  | [], w => w
  | x :: xs, w => wdL xs (wdN (wdt x.k).toNat x.a w)
theorem wdL_len : ∀ (xs : List Nt) (w : List Int), (wdL xs w).length = w.length
  | [], _ => rfl
  | x :: xs, w => (wdL_len xs _).trans (wdN_len _ _ _)
theorem wdL_step {xs : List Nt} {i : Nat} {w : List Int} (hi : i < xs.length) : wdL (xs.drop i) w = wdL (xs.drop (i + 1)) (wdN (wdt (xs[i]'hi).k).toNat (xs[i]'hi).a w) := by
  rw [List.drop_eq_getElem_cons hi]; rfl
abbrev wb (w : List Int) : Option Blk := some ⟨46, wrow w, .own⟩
theorem last_get {α : Type} {T : List α} {b : α} : (T ++ [b])[T.length]? = some b := by simp
theorem last_set {α : Type} {T : List α} {b c : α} : (T ++ [b]).set T.length c = T ++ [c] := by simp
theorem inner71 {G : AHeap} {T : List (Option Blk)} {nb : Nat} {x : Nt} (hx : okN x = true) (hrx : rngN x) (hn : ∀ w, AHeap.get (G ++ wb w :: T) nb = some ⟨91, nrow x, .own⟩) : ∀ (f : Nat) (s : Int) (w : List Int) (_ : w.length = 4) (_ : s + f = endN x) (_ : 0 ≤ s) (σ : Sl) (_ : σ 3 = .c (.ptr (some (G.length, 0)))) (_ : σ 5 = .c (.ptr (some (nb, 0)))) (_ : σ 6 = .c (.int .i64 s)),
    Post (evC (ev kk) (.loop l40_0) (σ, G ++ wb w :: T)) fun ex σ' H' => ex = .exit 2 ∧ H' = G ++ wb (wdN f s w) :: T ∧ σ' 3 = .c (.ptr (some (G.length, 0))) ∧ σ' 9 = σ 9 ∧ σ' 10 = σ 10 ∧ σ' 11 = σ 11 ∧ σ' 2 = σ 2
  | 0, s, w, hw, hs, h0, σ, h3, h5, h6 => by
    obtain ⟨k0, a0, e0⟩ := okN_p hx
    have r114 := fun H => run49 (x := x) k0 hrx.2 H
    have hge : ¬ s < endN x := by omega
    rw [evC_loop]
    simp (maxSteps := 4000000) (disch := first | omega | (refine _root_.id ?_; simp only [pl_int, pl_bool, pl_str, pl_undef, pl_nil, pl_ptr, plA_c, plA_agg, plA_tup, plV_c, plV_agg, List.all_cons, List.all_nil, Bool.and_true, Bool.and_self, eq_self, vi_int, vi_bool, get_app, get_app0, List.getElem?_cons_zero, List.getElem?_cons_succ, Option.join_some, lst_get, getL, upd_at, upd_ne, Nat.reduceBEq])) only [evC_exit, evC_region, evC_seq, ev_t, ev_k, putS_some, ops_nil, evC_condC, cond_bool, ops_cons, next_some, then_norm, then_exit, Option.map_some, evalOp, readCells, List.length_cons, List.length_nil, Nat.zero_add, Nat.reduceAdd, Nat.reduceLeDiff, List.drop_zero, List.take_succ_cons, List.take_nil, ↓reduceIte, reduceCtorEq, binA, binC, intBin, or_false, or_true, decide_false, and_self, eq_self, Bool.false_eq_true, List.map_cons, List.map_nil, List.append_nil, post_some, upd_at, upd_ne, l40_0, h3, h5, h6, hn, r114, hge, wdN]
  | f + 1, s, w, hw, hs, h0, σ, h3, h5, h6 => by
    obtain ⟨k0, a0, e0⟩ := okN_p hx
    have r114 := fun H => run49 (x := x) k0 hrx.2 H
    have hlt : s < endN x := by omega
    have hq : s.tdiv 64 = s / 64 := tdiv_pos h0
    have hm : s.tmod 64 = s % 64 := tmod_pos h0
    obtain ⟨q, hq'⟩ : ∃ q : Nat, s / 64 = (q : Int) := ⟨(s / 64).toNat, by omega⟩
    have hq4 : q < 4 := by omega
    have hqi : (q : Int) < 4 := by omega
    have hr : 0 ≤ s % 64 ∧ s % 64 < 64 := by omega
    have hset : setB w s = w.set q (vor .u64 (w.getD q 0) (vshl .u64 1 (s % 64))) := by unfold setB; rw [hq', Int.toNat_natCast]
    have step := inner71 hx hrx hn f (s + 1) (setB w s) (by rw [setB_len]; exact hw) (by omega) (by omega)
    have hwd : wdN (f + 1) s w = wdN f (s + 1) (setB w s) := rfl
    rw [hwd, evC_loop]
    rw [hset] at step ⊢
    have hg := wrow_get (w := w) (i := q) (by omega)
    have hs1 := wrow_set (xs := w) (i := q) (v := vor .u64 (w.getD q 0) (vshl .u64 1 (s % 64))) (by omega)
    have hle : q + 1 ≤ (wrow w).length := by rw [wrow_len]; omega
    have hrn : ¬ s % 64 < 0 := by omega
    obtain ⟨r0, r1⟩ := hr
    simp (maxSteps := 4000000) (disch := first | omega | (refine _root_.id ?_; simp only [pl_int, pl_bool, pl_str, pl_undef, pl_nil, pl_ptr, plA_c, plA_agg, plA_tup, plV_c, plV_agg, List.all_cons, List.all_nil, Bool.and_true, Bool.and_self, eq_self, vi_int, vi_bool, get_app, get_app0, List.getElem?_cons_zero, List.getElem?_cons_succ, Option.join_some, lst_get, getL, upd_at, upd_ne, Nat.reduceBEq])) only [evC_skip, evC_region, evC_seq, evC_block, ev_t, ev_k, putS_some, putS_none, ops_nil, evC_condC, cond_bool, ops_cons, next_some, nextD_some, then_norm, out_norm, Option.map_some, evalOp, AV.cells?, readCells, readCell, writeCells, get_app0, set_app0, List.getElem?_cons_zero, Option.join_some, List.length_cons, List.length_nil, List.append_assoc, List.cons_append, List.nil_append, Nat.zero_add, Nat.reduceAdd, Nat.reduceLeDiff, List.drop_zero, List.take_succ_cons, List.take_nil, ↓reduceIte, reduceCtorEq, binA, binC, intBin, or_false, or_true, decide_true, and_self, Int.cast_ofNat_Int, eq_self, IntWalk.i64_in, List.all_cons, List.all_nil, Bool.and_true, List.map_cons, List.map_nil, List.append_nil, setAt, CV.ok, List.set_cons_zero, evC_drawn, dr_nil, dr_cons, chk_nil, Int.reduceEq, tdiv_pos, tmod_pos, upd_at, upd_ne, cast_nonneg, cast_toNat, Nat.mul_one, l40_0, h3, h5, h6, hn, r114, hlt, hq', hqi, hg, hs1, hle, hrn]
    exact Post.mono (step _ (by simp only [upd_ne, Nat.reduceBEq, h3]) (by simp only [upd_ne, Nat.reduceBEq, h5]) (by simp only [upd_at])) (fun ex σ' H' p => ⟨p.1, p.2.1, p.2.2.1, p.2.2.2.1.trans (by simp only [upd_ne, Nat.reduceBEq]), p.2.2.2.2.1.trans (by simp only [upd_ne, Nat.reduceBEq]), p.2.2.2.2.2.1.trans (by simp only [upd_ne, Nat.reduceBEq]), p.2.2.2.2.2.2.trans (by simp only [upd_ne, Nat.reduceBEq])⟩)
theorem outer71 {G : AHeap} {p : Option (Nat × Nat)} {cap : Cap} {xs : List Nt} (hlen : xs.length ≤ 4398046511104) (hr : ∀ x ∈ xs, rngN x) (hok : ∀ x ∈ xs, okN x = true) (hp : Nts G p xs) : ∀ (n i : Nat) (w : List Int) (_ : i + n = xs.length) (_ : w.length = 4) (T : List (Option Blk)) (σ : Sl) (_ : σ 3 = .c (.ptr (some (G.length, 0)))) (_ : σ 9 = .c (.slice p xs.length cap)) (_ : σ 10 = .c (.int .i64 xs.length)) (_ : σ 11 = .c (.int .i64 i)),
    Post (evC (ev kk) (.loop l40_1) (σ, G ++ wb w :: T)) fun ex σ' H' => ex = .exit 0 ∧ (∃ T', H' = G ++ wb (wdL (xs.drop i) w) :: T') ∧ σ' 2 = σ 2 ∧ σ' 3 = .c (.ptr (some (G.length, 0)))
  | 0, i, w, hi, hw, T, σ, h3, h9, h10, h11 => by
    have hge : ¬ ((i : Int) < xs.length) := by omega
    have e : xs.drop i = [] := List.drop_eq_nil_of_le (by omega)
    rw [evC_loop, e]
    simp only [evC_exit, evC_region, evC_seq, ev_t, putS_some, ops_nil, evC_condC, cond_bool, ops_cons, next_some, then_norm, then_exit, Option.map_some, evalOp, ↓reduceIte, reduceCtorEq, binA, binC, intBin, or_false, or_true, and_true, true_and, decide_false, and_self, eq_self, Bool.false_eq_true, Nat.reduceBEq, post_some, upd_at, upd_ne, l40_1, h3, h10, h11, hge, wdL]
    exact ⟨T, rfl⟩
  | n + 1, i, w, hi, hw, T, σ, h3, h9, h10, h11 => by
    have hil : i < xs.length := by omega
    have hlt : (i : Int) < xs.length := by omega
    obtain ⟨id, t, bm, rfl, hb⟩ := hp (by omega)
    have hid := get_some_lt hb
    have hle : i * 2 + 2 ≤ (nrows xs).length := by rw [nrowl]; omega
    have hcut := nrc hil
    have hrx := hr xs[i] (List.getElem_mem hil)
    have hox := hok xs[i] (List.getElem_mem hil)
    obtain ⟨k0, a0, e0⟩ := okN_p hox
    have hwb := wdt_b (xs[i]'hil).k
    have hi71 := inner71 (G := G) (T := T ++ [some ⟨91, nrow xs[i], .own⟩]) (nb := G.length + (T.length + 1)) hox hrx (fun w => by rw [get_app, List.getElem?_cons_succ, last_get]; rfl) (wdt xs[i].k).toNat xs[i].a w hw (by unfold endN; omega) a0
    have L := fun σ h3 h5 h6 => post_fin (hi71 σ h3 h5 h6)
    have step := outer71 (cap := cap) hlen hr hok hp n (i + 1) (wdN (wdt xs[i].k).toNat xs[i].a w) (by omega) (by rw [wdN_len]; exact hw) (T ++ [some ⟨91, nrow xs[i], .own⟩])
    obtain ⟨⟨_, _⟩, a1, a2⟩ := hrx
    rw [evC_loop, wdL_step hil]
    generalize xs[i]'hil = x at *
    generalize wdN (wdt x.k).toNat x.a w = w' at *
    have key : ∀ (S : Sl) (h3 : S 3 = .c (.ptr (some (G.length, 0)))) (h5 : S 5 = .c (.ptr (some (G.length + (T.length + 1), 0)))) (h6 : S 6 = .c (.int .i64 x.a)) (_ : S 9 = .c (.slice (some (id, 0)) xs.length cap)) (_ : S 10 = .c (.int .i64 xs.length)) (_ : S 2 = σ 2), Post (evC (ev kk) (.loop l40_1) (upd (upd (fin (ev kk) l40_0 (S, G ++ wb w :: (T ++ [some ⟨91, nrow x, .own⟩]))) 33 (.c (.int .i64 ((i : Int) + 1)))) 11 (.c (.int .i64 ((i : Int) + 1))), G ++ wb w' :: (T ++ [some ⟨91, nrow x, .own⟩]))) fun ex σ' H' => ex = .exit 0 ∧ (∃ T', H' = G ++ wb (wdL (xs.drop (i + 1)) w') :: T') ∧ σ' 2 = σ 2 ∧ σ' 3 = .c (.ptr (some (G.length, 0))) := fun S h3 h5 h6 h9 h10 h2 => by
      obtain ⟨_, q3, q9, q10, q11, q2⟩ := L S h3 h5 h6
      exact Post.mono (step _ (by simp only [upd_ne, Nat.reduceBEq, q3]) (by simp only [upd_ne, Nat.reduceBEq, q9, h9]) (by simp only [upd_ne, Nat.reduceBEq, q10, h10]) (by simp only [upd_at]; rfl)) (fun ex σ' H' p => ⟨p.1, p.2.1, p.2.2.1.trans (by simp only [upd_ne, Nat.reduceBEq, q2, h2]), p.2.2.2⟩)
    simp (maxSteps := 4000000) (disch := first | omega | (refine _root_.id ?_; simp only [pl_int, pl_bool, pl_str, pl_undef, pl_nil, pl_ptr, plA_c, plA_agg, plA_tup, plV_c, plV_agg, List.all_cons, List.all_nil, Bool.and_true, Bool.and_self, eq_self, vi_int, vi_bool, get_app, get_app0, List.getElem?_cons_zero, List.getElem?_cons_succ, Option.join_some, lst_get, getL, upd_at, upd_ne, Nat.reduceBEq]; done) | (refine _root_.id ?_; simp only [pl_int, pl_bool, pl_str, pl_undef, pl_nil, pl_ptr, plA_c, plA_agg, plA_tup, plV_c, plV_agg, List.all_cons, List.all_nil, Bool.and_true, Bool.and_self, eq_self, vi_int, vi_bool, get_app, get_app0, List.getElem?_cons_zero, List.getElem?_cons_succ, Option.join_some, lst_get, getL, upd_at, upd_ne, Nat.reduceBEq, *]; done)) only [evC_skip, evC_region, evC_seq, evC_block, ev_t, ev_k, putS_some, putS_none, ops_nil, evC_condC, cond_bool, ops_cons, next_some, then_norm, out_norm, out_exit, Option.map_some, evalOp, AV.cells?, readCells, readCell, writeCells, get_app, set_app, len_app, List.getElem?_cons_zero, List.getElem?_cons_succ, Option.join_some, List.length_cons, List.length_nil, List.append_assoc, List.cons_append, List.nil_append, Nat.zero_add, Nat.reduceAdd, Nat.reduceLeDiff, List.drop_succ_cons, List.take_zero, List.drop_nil, ↓reduceIte, reduceCtorEq, binA, binC, intBin, or_false, or_true, decide_true, and_self, eq_self, IntWalk.i64_in, List.all_cons, List.all_nil, Bool.and_true, List.append_nil, setAt, CV.ok, List.set_cons_succ, upd_at, upd_ne, cast_nonneg, cast_toNat, l40_1, h9, h10, h11, hlt, get_appl hid, hb, hle, hcut, last_get, last_set, (fun σ h3 h5 h6 => (L σ h3 h5 h6).1), (fun σ h3 h5 h6 => (L σ h3 h5 h6).2.2.2.2.1)]
    exact key _ (by simp only [upd_ne, Nat.reduceBEq, h3]) (by simp only [upd_at, upd_ne, Nat.reduceBEq]) (by simp only [upd_at]) (by simp only [upd_ne, Nat.reduceBEq, h9]) (by simp only [upd_ne, Nat.reduceBEq, h10]) (by simp only [upd_ne, Nat.reduceBEq])
theorem run40 {p : Option (Nat × Nat)} {cap : Cap} {xs : List Nt} {st : Bool} {g : List Int} (hg : g.length = 16) (hlen : xs.length ≤ 4398046511104) (hr : ∀ x ∈ xs, rngN x) (hok : ∀ x ∈ xs, okN x = true) {H : AHeap} (hp : Nts H p xs) : ev kk 40 [.agg (hrow st p xs.length cap g)] H = some (.agg (wrow (wdL xs [0, 0, 0, 0])), H) := by
  have hw4 := wdL_len xs [0, 0, 0, 0]
  have L := fun σ h3 h9 h10 h11 => outer71 (G := H ++ [some ⟨29, hrow st p xs.length cap g, .own⟩, some ⟨46, [.int .u64 0, .int .u64 0, .int .u64 0, .int .u64 0], .own⟩]) (cap := cap) hlen hr hok (hp.app _) xs.length 0 [0, 0, 0, 0] (by omega) rfl [] σ h3 h9 h10 h11
  obtain ⟨ex, σ', H', e, rfl, ⟨T', rfl⟩, h2, h3⟩ := L (lst [.agg (hrow st p xs.length cap g), .c (.ptr (some (H.length, 0))), .c (.ptr (some (H.length + 1, 0))), .c (.ptr (some (H.length + 2, 0))), .c .undef, .c .undef, .c .undef, .agg [.int .u64 0, .int .u64 0, .int .u64 0, .int .u64 0], .c (.ptr (some (H.length, 1))), .c (.slice p xs.length cap), .c (.int .i64 xs.length), .c (.int .i64 0)]) (by simp; rfl) rfl rfl rfl
  rw [List.drop_zero] at e
  simp only [List.append_assoc, List.cons_append, List.nil_append, List.length_append, List.length_cons, List.length_nil, Nat.zero_add, Nat.reduceAdd, wb, wrow, List.map_cons, List.map_nil] at e h3
  have h2 : σ' 2 = .c (.ptr (some (H.length + 1, 0))) := h2
  generalize wdL xs [0, 0, 0, 0] = w at *
  match w, hw4 with
  | [a, b, c, d], _ =>
    rw [ev_call c40]; unfold k40; rw [evB_eq rfl]
    simp (maxSteps := 4000000) (disch := first | omega | (refine _root_.id ?_; simp only [pl_int, pl_bool, pl_str, pl_undef, pl_nil, pl_ptr, plA_c, plA_agg, plA_tup, plV_c, plV_agg, List.all_cons, List.all_nil, Bool.and_true, Bool.and_self, eq_self, vi_int, vi_bool, get_app, get_app0, List.getElem?_cons_zero, List.getElem?_cons_succ, Option.join_some, lst_get, getL, upd_at, upd_ne, Nat.reduceBEq])) only [evC_ret, evC_region, evC_seq, evC_block, ev_t, ev_k, putS_some, upd_l, putS_none, ops_nil, ops_cons, next_some, then_norm, out_exit, done_ret, putL, getL, Option.bind_some, Option.map_some, evalOp, AV.cells?, readCells, readCell, writeCells, get_app, get_app0, set_app, len_app, List.getElem?_cons_zero, List.getElem?_cons_succ, Option.join_some, List.length_cons, List.length_nil, List.append_assoc, List.cons_append, List.nil_append, Nat.zero_add, Nat.reduceAdd, Nat.reduceLeDiff, List.drop_zero, List.drop_succ_cons, List.take_zero, List.take_succ_cons, List.take_nil, List.drop_nil, ↓reduceIte, evalRs, evalR, mkRes, V0.toAV, and_self, lst_get, eq_self, finish_app, List.all_cons, List.all_nil, Bool.and_true, List.map_cons, List.map_nil, List.append_nil, setAt, CV.ok, List.set_cons_zero, List.set_cons_succ, partsA, fillC, upd_at, upd_ne, e, h2, h3, wrow]
end Go.Proofs.YtcfabmmonoljeaaDoor
