/- What functions of the program answer: part MarkH. -/
import Derived.Test.YtnblibimbggheaaLawG
set_option linter.unusedVariables false
set_option linter.unusedSimpArgs false
set_option linter.unusedSectionVars false
namespace Go.Proofs.Ytnblibimbggheaa
open Go Go.Proofs.Ytnblibimbggheaa.VI
set_option maxHeartbeats 16000000
set_option maxRecDepth 20000
/-! Marks in notches -/
def mkN1 (k : Int) : Nt := ⟨IntKind.i8.wrap k, IntKind.i16.wrap (k + 1)⟩
def mkN (k : Int) (n : Nat) : List Nt := (List.range n).map fun i : Nat => mkN1 (k + 2 * (i : Int))
theorem mkN_len {k : Int} {n : Nat} : (mkN k n).length = n := by simp [mkN]
theorem mkN_get {k : Int} {n i : Nat} (hi : i < n) : (mkN k n)[i]'(by rw [mkN_len]; exact hi) = mkN1 (k + 2 * (i : Int)) := by simp [mkN]
theorem loop61m {id n : Nat} {cap : Cap} {k : Int} {m : BM} (hm : m = .own ∨ m = .opn) (hk : 0 ≤ k ∧ k ≤ 4398046511104) (hn : n ≤ 1048576) {H : AHeap} (hid : id < H.length) : ∀ (r i : Nat) (_ : i + r = n) (ys : List Nt) (_ : ys.length = n) (_ : ys.take i = (mkN k n).take i) (σ : Sl) (_ : σ 0 = .c (.slice (some (id, 0)) n cap)) (_ : σ 1 = .c (.int .i64 (k + 2 * i))) (_ : σ 5 = .c (.int .i64 i)),
    Post (evC (ev kk) (.loop l61_0) (σ, H.set id (some ⟨119, nrows ys, m⟩))) fun ex σ' H' => ex = .exit 0 ∧ H' = H.set id (some ⟨119, nrows (mkN k n), m⟩) ∧ σ' 1 = .c (.int .i64 (k + 2 * n))
  | 0, i, hi, ys, hy, ht, σ, h0, h1, h5 => by
    have hge : ¬ ((i : Int) < n) := by omega
    have hin : i = n := by omega
    subst hin
    have : ys = mkN k i := by
      rw [List.take_of_length_le (by omega), List.take_of_length_le (by rw [mkN_len]; omega)] at ht; exact ht
    subst this
    rw [evC_loop]
    simp only [evC_exit, evC_region, evC_seq, ev_t, putS_some, ops_nil, evC_condC, cond_bool, ops_cons, next_some, then_norm, then_exit, Option.map_some, evalOp, ↓reduceIte, reduceCtorEq, binA, binC, intBin, or_false, or_true, decide_false, and_self, eq_self, Bool.false_eq_true, Nat.reduceBEq, post_some, upd_at, upd_ne, l61_0, h0, h1, h5, hge]
  | r + 1, i, hi, ys, hy, ht, σ, h0, h1, h5 => by
    have hil : i < n := by omega
    have hlt : (i : Int) < n := by omega
    have hiy : i < ys.length := by omega
    have hle0 : i * 2 + 1 ≤ (nrows ys).length := by rw [nrowl]; omega
    have hs0 := nset1 (v := IntKind.i8.wrap (k + 2 * i)) hiy
    have hiy' : i < (ys.set i ⟨IntKind.i8.wrap (k + 2 * i), (ys[i]'hiy).a⟩).length := by rw [List.length_set]; exact hiy
    have hle1 : i * 2 + 1 + 1 ≤ (nrows (ys.set i ⟨IntKind.i8.wrap (k + 2 * i), (ys[i]'hiy).a⟩)).length := by rw [nrowl, List.length_set]; omega
    have hs1 := nset2 (v := IntKind.i16.wrap (k + 2 * i + 1)) hiy'
    simp only [List.getElem_set_self, List.set_set] at hs1
    have step := loop61m (cap := cap) hm hk hn hid r (i + 1) (by omega) (ys.set i ⟨IntKind.i8.wrap (k + 2 * i), IntKind.i16.wrap (k + 2 * i + 1)⟩) (by simpa using hy) (by
      rw [List.take_add_one, List.take_add_one, List.take_set_of_le (Nat.le_refl i), ht, List.getElem?_set_self hiy, List.getElem?_eq_getElem (by rw [mkN_len]; omega), mkN_get hil]; rfl)
    rw [evC_loop]
    rcases hm with rfl | rfl
    · simp (maxSteps := 4000000) (disch := first | omega | (refine _root_.id ?_; simp only [pl_int, pl_bool, pl_str, pl_undef, pl_nil, pl_ptr, plA_c, plA_agg, plA_tup, plV_c, plV_agg, List.all_cons, List.all_nil, Bool.and_true, Bool.and_self, eq_self, vi_int, vi_bool, get_app, get_app0, List.getElem?_cons_zero, List.getElem?_cons_succ, Option.join_some, lst_get, getL, upd_at, upd_ne, Nat.reduceBEq])) only [evC_skip, evC_region, evC_seq, evC_block, ev_t, ev_k, putS_some, putS_none, ops_nil, evC_condC, cond_bool, ops_cons, next_some, then_norm, out_norm, Option.map_some, evalOp, AV.cells?, writeCells, List.length_cons, List.length_nil, List.append_assoc, List.cons_append, List.nil_append, Nat.zero_add, Nat.add_zero, ↓reduceIte, reduceCtorEq, binA, binC, intBin, or_false, or_true, decide_true, and_self, eq_self, IntWalk.i64_in, List.all_cons, List.all_nil, Bool.and_true, setAt, CV.ok, upd_at, upd_ne, cast_nonneg, cast_toNat, l61_0, h0, h1, h5, hlt, get_set hid, hle0, hs0, set_set, hle1, hs1]
      exact step _ (by simp only [upd_ne, Nat.reduceBEq, h0]) (by simp only [upd_at, upd_ne, Nat.reduceBEq]; congr 2; omega) (by simp only [upd_at]; rfl)
    · simp (maxSteps := 4000000) (disch := first | omega | (refine _root_.id ?_; simp only [pl_int, pl_bool, pl_str, pl_undef, pl_nil, pl_ptr, plA_c, plA_agg, plA_tup, plV_c, plV_agg, List.all_cons, List.all_nil, Bool.and_true, Bool.and_self, eq_self, vi_int, vi_bool, get_app, get_app0, List.getElem?_cons_zero, List.getElem?_cons_succ, Option.join_some, lst_get, getL, upd_at, upd_ne, Nat.reduceBEq])) only [evC_skip, evC_region, evC_seq, evC_block, ev_t, ev_k, putS_some, putS_none, ops_nil, evC_condC, cond_bool, ops_cons, next_some, then_norm, out_norm, Option.map_some, evalOp, AV.cells?, writeCells, List.length_cons, List.length_nil, List.append_assoc, List.cons_append, List.nil_append, Nat.zero_add, Nat.add_zero, ↓reduceIte, reduceCtorEq, binA, binC, intBin, or_false, or_true, decide_true, and_self, eq_self, IntWalk.i64_in, List.all_cons, List.all_nil, Bool.and_true, setAt, CV.ok, upd_at, upd_ne, cast_nonneg, cast_toNat, l61_0, h0, h1, h5, hlt, get_set hid, hle0, hs0, set_set, hle1, hs1]
      exact step _ (by simp only [upd_ne, Nat.reduceBEq, h0]) (by simp only [upd_at, upd_ne, Nat.reduceBEq]; congr 2; omega) (by simp only [upd_at]; rfl)
theorem run61m {id n : Nat} {cap : Cap} {k : Int} {m : BM} {ys : List Nt} {H : AHeap} (hm : m = .own ∨ m = .opn) (hk : 0 ≤ k ∧ k ≤ 4398046511104) (hn : n ≤ 1048576) (hg : H.get id = some ⟨119, nrows ys, m⟩) (hy : ys.length = n) : ev kk 61 [.c (.slice (some (id, 0)) n cap), .c (.int .i64 k)] H = some (.c (.int .i64 (k + 2 * n)), H.set id (some ⟨119, nrows (mkN k n), m⟩)) := by
  have hid := get_some_lt hg
  have L : ∀ (σ : Sl), σ 0 = .c (.slice (some (id, 0)) n cap) → σ 1 = .c (.int .i64 k) → σ 5 = .c (.int .i64 0) → _ := fun σ h0 h1 h5 => post_fin (loop61m (H := H) hm hk hn hid n 0 (by omega) ys hy rfl σ h0 (by rw [h1]; simp) h5)
  simp only [set_same hg] at L
  rw [ev_call c61]; unfold k61; rw [evB_eq rfl]
  simp (maxSteps := 4000000) (disch := first | omega | (refine _root_.id ?_; simp only [pl_int, pl_bool, pl_str, pl_undef, pl_nil, pl_ptr, plA_c, plA_agg, plA_tup, plV_c, plV_agg, List.all_cons, List.all_nil, Bool.and_true, Bool.and_self, eq_self, vi_int, vi_bool, get_app, get_app0, List.getElem?_cons_zero, List.getElem?_cons_succ, Option.join_some, lst_get, getL, upd_at, upd_ne, Nat.reduceBEq])) only [evC_ret, evC_region, evC_seq, evC_block, ev_t, ev_k, putS_some, upd_l, ops_nil, ops_cons, next_some, then_norm, out_exit, done_ret, putL, Option.bind_some, Option.map_some, evalOp, ↓reduceIte, evalRs, evalR, AV.toV0?, mkRes, V0.toAV, eq_self, upd_at, (fun σ h0 h1 h5 => (L σ h0 h1 h5).1), (fun σ h0 h1 h5 => (L σ h0 h1 h5).2)]
  rw [finish_set0 (by simp only [plA_c, pl_int]) nrows_valid]
/-! .. of halves -/
def MkAt (K : AHeap) (y : Hf) (k : Int) : Prop := 0 < y.xs.length → ∃ id m, y.p = some (id, 0) ∧ K.get id = some ⟨119, nrows (mkN k y.xs.length), m⟩
theorem MkAt.pre {J K : AHeap} {y : Hf} {k : Int} (h : MkAt J y k) (q : Pre J K) : MkAt K y k := fun h0 => by
  obtain ⟨id, m, h1, h2⟩ := h h0; exact ⟨id, m, h1, q.get h2⟩
theorem mkH {G J : AHeap} {y : Hf} {k : Int} (hy : HfNw G J y) (hk : 0 ≤ k ∧ k ≤ 4398046511104) (few : y.xs.length ≤ 1048576) : ∃ K, ev kk 19 [.agg (hfr y), .c (.int .i64 k)] J = some (.c (.int .i64 (k + 2 * y.xs.length)), K) ∧ K.length = J.length ∧ (∀ G', G'.length ≤ G.length → Pre G' J → Pre G' K) ∧ MkAt K y k ∧ (∀ i b, J.get i = some b → (∀ o, 0 < y.xs.length → y.p ≠ some (i, o)) → K.get i = some b) := by
  by_cases h0 : 0 < y.xs.length
  · obtain ⟨id, m, hp, hid, hb, hm⟩ := hy.new h0
    have lid := get_some_lt hb
    refine ⟨J.set id (some ⟨119, nrows (mkN k y.xs.length), m⟩), ?_, by simp, fun G' h1 h2 => h2.set (by omega), fun _ => ⟨id, m, hp, by rw [get_set lid]⟩, fun i b hi hne => ?_⟩
    · have e := run61m (cap := y.cap) (H := J ++ [hfb y]) hm hk few (by rw [get_appl lid]; exact hb) rfl
      rw [set_appl lid] at e
      rw [show hfr y = hrow y.st (some (id, 0)) y.xs.length y.cap y.g by rw [← hp]]
      rw [show hfb y = some ⟨36, hrow y.st (some (id, 0)) y.xs.length y.cap y.g, .own⟩ by rw [← hp]] at e
      rw [ev_call c19]; unfold k19; rw [evB_eq rfl]
      simp (maxSteps := 4000000) (disch := first | omega | (refine _root_.id ?_; simp only [pl_int, pl_bool, pl_str, pl_undef, pl_nil, pl_ptr, plA_c, plA_agg, plA_tup, plV_c, plV_agg, List.all_cons, List.all_nil, Bool.and_true, Bool.and_self, eq_self, vi_int, vi_bool, get_app, get_app0, List.getElem?_cons_zero, List.getElem?_cons_succ, Option.join_some, lst_get, getL, upd_at, upd_ne, Nat.reduceBEq])) only [evC_ret, evC_region, evC_seq, ev_t, ev_k, putS_some, upd_l, ops_nil, ops_cons, next_some, then_norm, done_ret, putL, getL, Option.bind_some, Option.map_some, evalOp, AV.cells?, readCell, get_app0, List.getElem?_cons_zero, List.getElem?_cons_succ, Option.join_some, Nat.zero_add, evalRs, evalR, AV.toV0?, mkRes, V0.toAV, lst_get, List.map_cons, List.map_nil, List.append_nil, e]
      rw [finish_set (by simp only [plA_c, pl_int]) nrows_valid]
    · have : i ≠ id := fun e => hne 0 h0 (by rw [hp, e])
      rw [get_neh this]; exact hi
  · have hz : y.xs.length = 0 := by omega
    refine ⟨J, ?_, rfl, fun G' _ h2 => h2, fun h => absurd h h0, fun i b hi _ => hi⟩
    have e := fun T => run61z (p := y.p) (cap := y.cap) (k := k) (H := J ++ T)
    rw [show hfr y = hrow y.st y.p 0 y.cap y.g by rw [← hz], hz]
    rw [ev_call c19]; unfold k19; rw [evB_eq rfl]
    simp (maxSteps := 4000000) (disch := first | omega | (refine _root_.id ?_; simp only [pl_int, pl_bool, pl_str, pl_undef, pl_nil, pl_ptr, plA_c, plA_agg, plA_tup, plV_c, plV_agg, List.all_cons, List.all_nil, Bool.and_true, Bool.and_self, eq_self, vi_int, vi_bool, get_app, get_app0, List.getElem?_cons_zero, List.getElem?_cons_succ, Option.join_some, lst_get, getL, upd_at, upd_ne, Nat.reduceBEq])) only [evC_ret, evC_region, evC_seq, ev_t, ev_k, putS_some, upd_l, ops_nil, ops_cons, next_some, then_norm, done_ret, putL, getL, Option.bind_some, Option.map_some, evalOp, AV.cells?, readCell, get_app0, List.getElem?_cons_zero, List.getElem?_cons_succ, Option.join_some, Nat.zero_add, evalRs, evalR, AV.toV0?, mkRes, V0.toAV, lst_get, Int.cast_ofNat_Int, eq_self, finish_app, List.map_cons, List.map_nil, List.append_nil, e, Int.mul_zero, Int.add_zero]
end Go.Proofs.Ytnblibimbggheaa
