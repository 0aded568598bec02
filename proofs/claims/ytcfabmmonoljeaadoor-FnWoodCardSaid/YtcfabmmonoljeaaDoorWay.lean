/- What functions of the program answer: part Way. -/
import Derived.Test.YtcfabmmonoljeaaDoorFew1
import Derived.Test.YtcfabmmonoljeaaDoorWays3
import Derived.Test.YtcfabmmonoljeaaDoorTam4
import Derived.Test.YtcfabmmonoljeaaDoorChance
set_option linter.unusedVariables false
set_option linter.unusedSimpArgs false
set_option linter.unusedSectionVars false
namespace Go.Proofs.YtcfabmmonoljeaaDoor
open Go Go.Proofs.YtcfabmmonoljeaaDoor.VI
set_option maxHeartbeats 16000000
set_option maxRecDepth 20000
/-! Bytes, wherever they lie -/
def BtG (H : AHeap) (c : CV) (l : List Int) : Prop := (c = .slice none 0 (.exact 0) ∧ l = []) ∨ ∃ id t m cap, c = .slice (some (id, 0)) l.length cap ∧ (0 < l.length → H.get id = some ⟨t, l.map (.int .u8), m⟩) ∧ (id < H.length ∨ cap = .any)
theorem Bts.gen {H : AHeap} {c : CV} {l : List Int} (h : Bts H c l) : BtG H c l := by
  rcases h with h | ⟨id, e, h1, h2⟩
  · exact .inl h
  · exact .inr ⟨id, e, .ro, .any, h1, h2, .inr rfl⟩
theorem BtG.app {H : AHeap} {c : CV} {l : List Int} (h : BtG H c l) (t : List (Option Blk)) : BtG (H ++ t) c l := by
  rcases h with h | ⟨id, e, m, cap, h1, h2, h3⟩
  · exact .inl h
  · exact .inr ⟨id, e, m, cap, h1, fun h0 => by rw [get_appl (get_some_lt (h2 h0))]; exact h2 h0, h3.imp (fun h => by rw [List.length_append]; omega) (fun h => h)⟩
theorem BtG.pre {H J : AHeap} {c : CV} {l : List Int} (h : BtG H c l) (k : Pre H J) : BtG J c l := by
  obtain ⟨T, rfl⟩ := k; exact h.app T
theorem BtG.okc {H : AHeap} {c : CV} {l : List Int} (h : BtG H c l) : c.ok = true := by
  rcases h with ⟨rfl, rfl⟩ | ⟨id, u, bm, bc, rfl, hd, hcap⟩ <;> rfl
theorem BtG.valid {H : AHeap} {c : CV} {l : List Int} (h : BtG H c l) : c.validIn H.length = true := by
  rcases h with ⟨rfl, rfl⟩ | ⟨id, u, bm, bc, rfl, hd, hcap⟩
  · unfold CV.validIn; rfl
  · unfold CV.validIn
    by_cases h0 : 0 < l.length
    · have := get_some_lt (hd h0); simp [this]
    · have : l.length = 0 := by omega
      rcases hcap with hc | rfl
      · simp [needsAddr, this, hc]
      · simp [needsAddr, this]
theorem run108g {H : AHeap} {i : Nat} {e : TypeId} {cs : CV} {l : List Int} {t sd : Int} (hg : H.get i = some ⟨e, [cs, .int .i64 t, .int .u64 sd], .own⟩) (hc : BtG H cs l) (ht : 0 ≤ t ∧ t ≤ 1000000) (hl : ∀ x ∈ l, 0 ≤ x ∧ x ≤ 255) :
    ev kk 66 [.c (.ptr (some (i, 0)))] H = some (.c (.int .i64 (nxV l t sd)), H.set i (some ⟨e, [cs, .int .i64 (t + 1), .int .u64 (nxS l t sd)], .own⟩)) := by
  have hv := hc.valid
  have hi : i < H.length := get_some_lt hg
  have hb := nxB_b hl t
  obtain ⟨t0, t1⟩ := ht
  obtain ⟨b0, b1⟩ := hb
  rcases hc with ⟨rfl, rfl⟩ | ⟨id, u, bm, bc, rfl, hd, hcap⟩
  · rw [ev_call c66]; unfold k66; rw [evB_eq rfl]
    have h1 : ¬ t < 0 := by omega
    have h2 : ¬ t + 1 ≤ 0 := by omega
    have hB : nxB [] t = 0 := by unfold nxB; simp [h1]
    simp (maxSteps := 4000000) (disch := first | omega | (refine _root_.id ?_; simp only [pl_int, pl_bool, pl_str, pl_undef, pl_nil, pl_ptr, plA_c, plA_agg, plA_tup, plV_c, plV_agg, List.all_cons, List.all_nil, Bool.and_true, Bool.and_self, eq_self, vi_int, vi_bool, get_app, get_app0, List.getElem?_cons_zero, List.getElem?_cons_succ, Option.join_some, lst_get, getL, upd_at, upd_ne, Nat.reduceBEq]; done) | (refine _root_.id ?_; simp only [pl_int, pl_bool, pl_str, pl_undef, pl_nil, pl_ptr, plA_c, plA_agg, plA_tup, plV_c, plV_agg, List.all_cons, List.all_nil, Bool.and_true, Bool.and_self, eq_self, vi_int, vi_bool, get_app, get_app0, List.getElem?_cons_zero, List.getElem?_cons_succ, Option.join_some, lst_get, getL, upd_at, upd_ne, Nat.reduceBEq, *]; done)) only [evC_skip, evC_ret, evC_region, evC_seq, ev_t, ev_k, putS_some, upd_l, putS_none, ops_nil, evC_condC, cond_bool, ops_cons, next_some, nextD_some, then_norm, done_ret, putL, getL, Option.bind_some, Option.map_some, evalOp, AV.cells?, readCell, writeCells, List.getElem?_cons_zero, List.getElem?_cons_succ, List.length_cons, List.length_nil, List.cons_append, List.nil_append, Nat.zero_add, Nat.add_zero, Nat.reduceAdd, Nat.reduceLeDiff, List.drop_zero, List.drop_succ_cons, List.take_zero, List.take_succ_cons, List.drop_nil, ↓reduceIte, reduceCtorEq, binA, binC, intBin, or_false, or_true, Int.reduceLT, evalRs, evalR, AV.toV0?, mkRes, V0.toAV, decide_false, and_self, lst_get, Int.cast_ofNat_Int, eq_self, IntWalk.i64_in, List.all_cons, List.all_nil, Bool.and_true, Bool.false_eq_true, List.append_nil, setAt, CV.ok, evC_drawn, dr_nil, dr_cons, chk_nil, hg, get_set, set_set, h1, h2, nxV, nxS, hB, finish_set0, List.length_nil]
  · by_cases h1 : t < l.length
    · have hd := hd (by omega)
      have h2 : t + 1 ≤ l.length := by omega
      have hx : (l.map (CV.int .u8))[t.toNat]? = some (.int .u8 (nxB l t)) := by
        unfold nxB
        rw [if_pos h1, List.getElem?_map, List.getD_eq_getElem?_getD, List.getElem?_eq_getElem (by omega)]; rfl
      rw [ev_call c66]; unfold k66; rw [evB_eq rfl]
      simp (maxSteps := 4000000) (disch := first | omega | (refine _root_.id ?_; simp only [pl_int, pl_bool, pl_str, pl_undef, pl_nil, pl_ptr, plA_c, plA_agg, plA_tup, plV_c, plV_agg, List.all_cons, List.all_nil, Bool.and_true, Bool.and_self, eq_self, vi_int, vi_bool, get_app, get_app0, List.getElem?_cons_zero, List.getElem?_cons_succ, Option.join_some, lst_get, getL, upd_at, upd_ne, Nat.reduceBEq]; done) | (refine _root_.id ?_; simp only [pl_int, pl_bool, pl_str, pl_undef, pl_nil, pl_ptr, plA_c, plA_agg, plA_tup, plV_c, plV_agg, List.all_cons, List.all_nil, Bool.and_true, Bool.and_self, eq_self, vi_int, vi_bool, get_app, get_app0, List.getElem?_cons_zero, List.getElem?_cons_succ, Option.join_some, lst_get, getL, upd_at, upd_ne, Nat.reduceBEq, *]; done)) only [evC_ret, evC_region, evC_seq, ev_t, ev_k, putS_some, upd_l, putS_none, ops_nil, evC_condC, cond_bool, ops_cons, next_some, nextD_some, then_norm, then_ret, done_ret, putL, getL, Option.bind_some, Option.map_some, evalOp, AV.cells?, readCell, writeCells, List.getElem?_cons_zero, List.getElem?_cons_succ, List.length_cons, List.length_nil, List.cons_append, List.nil_append, Nat.zero_add, Nat.add_zero, Nat.reduceAdd, Nat.reduceLeDiff, List.drop_zero, List.drop_succ_cons, List.take_zero, List.take_succ_cons, List.drop_nil, ↓reduceIte, reduceCtorEq, binA, binC, intBin, or_false, or_true, evalRs, evalR, AV.toV0?, mkRes, V0.toAV, decide_true, and_self, lst_get, eq_self, IntWalk.i64_in, List.all_cons, List.all_nil, Bool.and_true, List.append_nil, setAt, CV.ok, evC_drawn, dr_nil, dr_cons, chk_nil, hg, hd, get_set, set_set, h1, h2, t0, hx, nxV, nxS, finish_set0, Nat.mul_one]
    · have h2 : ¬ t + 1 ≤ l.length := by omega
      have hB : nxB l t = 0 := by unfold nxB; simp [h1]
      rw [ev_call c66]; unfold k66; rw [evB_eq rfl]
      simp (maxSteps := 4000000) (disch := first | omega | (refine _root_.id ?_; simp only [pl_int, pl_bool, pl_str, pl_undef, pl_nil, pl_ptr, plA_c, plA_agg, plA_tup, plV_c, plV_agg, List.all_cons, List.all_nil, Bool.and_true, Bool.and_self, eq_self, vi_int, vi_bool, get_app, get_app0, List.getElem?_cons_zero, List.getElem?_cons_succ, Option.join_some, lst_get, getL, upd_at, upd_ne, Nat.reduceBEq]; done) | (refine _root_.id ?_; simp only [pl_int, pl_bool, pl_str, pl_undef, pl_nil, pl_ptr, plA_c, plA_agg, plA_tup, plV_c, plV_agg, List.all_cons, List.all_nil, Bool.and_true, Bool.and_self, eq_self, vi_int, vi_bool, get_app, get_app0, List.getElem?_cons_zero, List.getElem?_cons_succ, Option.join_some, lst_get, getL, upd_at, upd_ne, Nat.reduceBEq, *]; done)) only [evC_skip, evC_ret, evC_region, evC_seq, ev_t, ev_k, putS_some, upd_l, putS_none, ops_nil, evC_condC, cond_bool, ops_cons, next_some, nextD_some, then_norm, done_ret, putL, getL, Option.bind_some, Option.map_some, evalOp, AV.cells?, readCell, writeCells, List.getElem?_cons_zero, List.getElem?_cons_succ, List.length_cons, List.length_nil, List.cons_append, List.nil_append, Nat.zero_add, Nat.add_zero, Nat.reduceAdd, Nat.reduceLeDiff, List.drop_zero, List.drop_succ_cons, List.take_zero, List.take_succ_cons, List.drop_nil, ↓reduceIte, reduceCtorEq, binA, binC, intBin, or_false, or_true, Int.reduceLT, evalRs, evalR, AV.toV0?, mkRes, V0.toAV, decide_false, and_self, lst_get, eq_self, IntWalk.i64_in, List.all_cons, List.all_nil, Bool.and_true, Bool.false_eq_true, List.append_nil, setAt, CV.ok, evC_drawn, dr_nil, dr_cons, chk_nil, hg, get_set, set_set, h1, h2, nxV, nxS, hB, finish_set0]
theorem nextg {G : AHeap} {T : List (Option Blk)} {cs : CV} {l : List Int} {t sd : Int} (hc : BtG G cs l) (ht : 0 ≤ t ∧ t ≤ 1000000) (hl : ∀ x ∈ l, 0 ≤ x ∧ x ≤ 255) :
    ev kk 66 [.c (.ptr (some (G.length, 0)))] (G ++ sb cs t sd :: T) = some (.c (.int .i64 (nxV l t sd)), G ++ sb cs (t + 1) (nxS l t sd) :: T) := by
  rw [run108g (i := G.length) (e := 109) (cs := cs) (t := t) (sd := sd) get_app1 (hc.app _) ht hl, set_app1]
theorem pickg {G : AHeap} {T : List (Option Blk)} {cs : CV} {l : List Int} {n t sd : Int} (hc : BtG G cs l) (ht : 0 ≤ t ∧ t ≤ 900000) (hn : n ≤ 4294967296) (hl : ∀ x ∈ l, 0 ≤ x ∧ x ≤ 255) :
    ev kk 36 [.c (.ptr (some (G.length, 0))), .c (.int .i64 n)] (G ++ sb cs t sd :: T) = some (.c (.int .i64 (pkV l n t sd)), G ++ sb cs (pkT n t) (pkS l n t sd) :: T) := by
  have hv : cs.validIn (G ++ sb cs t sd :: T).length = true := (hc.app _).valid
  have hs : ∀ t' sd', G ++ sb cs t' sd' :: T = (G ++ sb cs t sd :: T).set G.length (sb cs t' sd') := fun t' sd' => by rw [set_app1]
  have hi : G.length < (G ++ sb cs t sd :: T).length := by simp
  have hg : AHeap.get (G ++ sb cs t sd :: T) G.length = sb cs t sd := get_app1
  have h1 := fun T => nextg (G := G) (T := T) (t := t) (sd := sd) hc ⟨ht.1, by omega⟩ hl
  have h2 := fun T => nextg (G := G) (T := T) (t := t + 1) (sd := nxS l t sd) hc ⟨by omega, by omega⟩ hl
  have b1 := nxV_b hl t sd
  have b2 := nxV_b hl (t + 1) (nxS l t sd)
  have hfin : ∀ (v : AV) (t' sd' : Int), v.plain = true → finish true (G ++ sb cs t sd :: T) v (G ++ sb cs t' sd' :: T) = some (v, G ++ sb cs t' sd' :: T) := fun v t' sd' hp => by
    rw [hs t' sd', finish_set0 hp (by simp only [List.all_cons, List.all_nil, hv, vi_int, Bool.and_true])]
  unfold pkV pkT pkS
  by_cases c : n ≤ 1
  · rw [if_pos c, if_pos c, if_pos c]
    rw [ev_call c36]; unfold k36; rw [evB_eq rfl]
    simp (maxSteps := 4000000) (disch := first | omega | (refine _root_.id ?_; simp only [pl_int, pl_bool, pl_str, pl_undef, pl_nil, pl_ptr, plA_c, plA_agg, plA_tup, plV_c, plV_agg, List.all_cons, List.all_nil, Bool.and_true, Bool.and_self, eq_self, vi_int, vi_bool, get_app, get_app0, List.getElem?_cons_zero, List.getElem?_cons_succ, Option.join_some, lst_get, getL, upd_at, upd_ne, Nat.reduceBEq])) only [evC_ret, evC_region, evC_seq, ev_t, ev_k, putS_some, upd_l, ops_nil, evC_condC, cond_bool, ops_cons, next_some, then_norm, then_ret, done_ret, putL, getL, Option.bind_some, Option.map_some, evalOp, ↓reduceIte, reduceCtorEq, binA, binC, intBin, or_false, or_true, evalRs, evalR, AV.toV0?, mkRes, V0.toAV, decide_true, lst_get, eq_self, finish_id, c]
  · rw [if_neg c, if_neg c, if_neg c]
    have cz : ¬ n = 0 := by omega
    by_cases c2 : 200 < n
    · rw [if_pos c2, if_pos c2, if_pos c2]
      have hb := Int.emod_nonneg (nxV l t sd * 256 + nxV l (t + 1) (nxS l t sd)) cz
      have hb2 := Int.emod_lt_of_pos (nxV l t sd * 256 + nxV l (t + 1) (nxS l t sd)) (show 0 < n by omega)
      generalize nxV l t sd = v1 at *
      generalize nxV l (t + 1) (nxS l t sd) = v2 at *
      rw [show t + 2 = t + 1 + 1 from by omega]
      rw [ev_call c36]; unfold k36; rw [evB_eq rfl]
      simp (maxSteps := 4000000) (disch := first | omega | (refine _root_.id ?_; simp only [pl_int, pl_bool, pl_str, pl_undef, pl_nil, pl_ptr, plA_c, plA_agg, plA_tup, plV_c, plV_agg, List.all_cons, List.all_nil, Bool.and_true, Bool.and_self, eq_self, vi_int, vi_bool, get_app, get_app0, List.getElem?_cons_zero, List.getElem?_cons_succ, Option.join_some, lst_get, getL, upd_at, upd_ne, Nat.reduceBEq])) only [evC_skip, evC_ret, evC_region, evC_seq, ev_t, ev_k, putS_some, upd_l, ops_nil, evC_condC, cond_bool, ops_cons, next_some, then_norm, done_ret, putL, getL, Option.bind_some, Option.map_some, evalOp, ↓reduceIte, reduceCtorEq, binA, binC, intBin, or_false, or_true, evalRs, evalR, AV.toV0?, mkRes, V0.toAV, decide_true, decide_false, lst_get, eq_self, IntWalk.i64_in, Bool.false_eq_true, List.map_cons, List.map_nil, List.append_nil, tmod_pos, c, c2, cz, h1, h2, hfin]
    · rw [if_neg c2, if_neg c2, if_neg c2]
      have hb := Int.emod_nonneg (nxV l t sd) cz
      have hb2 := Int.emod_lt_of_pos (nxV l t sd) (show 0 < n by omega)
      generalize nxV l t sd = v1 at *
      rw [ev_call c36]; unfold k36; rw [evB_eq rfl]
      simp (maxSteps := 4000000) (disch := first | omega | (refine _root_.id ?_; simp only [pl_int, pl_bool, pl_str, pl_undef, pl_nil, pl_ptr, plA_c, plA_agg, plA_tup, plV_c, plV_agg, List.all_cons, List.all_nil, Bool.and_true, Bool.and_self, eq_self, vi_int, vi_bool, get_app, get_app0, List.getElem?_cons_zero, List.getElem?_cons_succ, Option.join_some, lst_get, getL, upd_at, upd_ne, Nat.reduceBEq])) only [evC_skip, evC_ret, evC_region, evC_seq, ev_t, ev_k, putS_some, upd_l, ops_nil, evC_condC, cond_bool, ops_cons, next_some, then_norm, done_ret, putL, getL, Option.bind_some, Option.map_some, evalOp, ↓reduceIte, reduceCtorEq, binA, binC, intBin, or_false, or_true, evalRs, evalR, AV.toV0?, mkRes, V0.toAV, decide_false, lst_get, eq_self, Bool.false_eq_true, List.map_cons, List.map_nil, List.append_nil, tmod_pos, c, c2, cz, h1, hfin]

/-- A way that bytes name. -/
theorem run11 {h : Hf} {c : CV} {l : List Int} {H : AHeap} (hh : HfAt H h) (ok : okF h = true) (hc : BtG H c l) (hl : ∀ x ∈ l, 0 ≤ x ∧ x ≤ 255) : ∃ t b, ev kk 11 [.c c, .agg (hfr h)] H = some (.tup [.agg (trow t), .c (.bool b)], H) ∧ (b = true → t ∈ waysP h.pr) ∧ (b = false → waysP h.pr = []) := by
  have hA := hh.app [hfb h, some ⟨37, trow zTm, .own⟩]
  have b0 : AHeap.get (H ++ [hfb h, some ⟨37, trow zTm, .own⟩]) H.length = hfb h := by rw [get_app0]; rfl
  obtain ⟨cw, J, e1, p1, o1⟩ := run35 hA ok b0
  have pJ : Pre H J := pre_app.trans p1
  have nw := TsNw.of o1
  have wf := ways_few (p := h.pr) (okP_few ok)
  obtain ⟨q, cap, rfl, hts⟩ := nw.at_
  generalize waysP h.pr = ts at *
  have d1 := p1.get (show AHeap.get (H ++ [hfb h, some ⟨37, trow zTm, .own⟩]) (H.length + 1) = some ⟨37, trow zTm, .own⟩ by rw [get_app]; rfl)
  have ld := get_some_lt d1
  have pS : ∀ X, Pre H (J.set (H.length + 1) X) := fun X => pJ.set (Nat.le_add_right _ 1)
  by_cases h0 : ts.length = 0
  · have hz : ts = [] := by cases ts with
      | nil => rfl
      | cons x xs => simp at h0
    have q0 : ((ts.length : Int) == 0) = true := by simp [h0]
    have fin : ∀ (X : Option Blk) (v : AV), v.plain = true → finish true H v (J.set (H.length + 1) X) = some (v, H) := fun X v hv => finish_pre (pS X) hv
    refine ⟨zTm, false, ?_, fun h => (by cases h), fun _ => hz⟩
    obtain ⟨R, hR⟩ : ∃ R, R = hfr h := ⟨_, rfl⟩
    simp only [hfb, ← hR, trow, zTm] at e1 d1 ⊢
    rw [ev_call c11]; unfold k11; rw [evB_eq rfl]
    simp (maxSteps := 4000000) (disch := first | omega | (refine _root_.id ?_; simp only [pl_int, pl_bool, pl_str, pl_undef, pl_nil, pl_ptr, plA_c, plA_agg, plA_tup, plV_c, plV_agg, List.all_cons, List.all_nil, Bool.and_true, Bool.and_self, eq_self, vi_int, vi_bool, get_app, get_app0, List.getElem?_cons_zero, List.getElem?_cons_succ, Option.join_some, lst_get, getL, upd_at, upd_ne, Nat.reduceBEq])) only [evC_ret, evC_region, evC_seq, ev_t, ev_k, putS_some, upd_l, putS_none, ops_nil, evC_condC, cond_bool, ops_cons, next_some, then_norm, then_ret, done_ret, putL, getL, Option.bind_some, Option.map_some, evalOp, AV.cells?, readCells, writeCells, len_app, List.length_cons, List.length_nil, List.append_assoc, List.cons_append, List.nil_append, Nat.zero_add, Nat.reduceAdd, Nat.reduceLeDiff, List.drop_zero, List.drop_succ_cons, List.take_zero, List.take_succ_cons, List.take_nil, List.drop_nil, ↓reduceIte, reduceCtorEq, binA, binC, intBin, or_false, or_true, evalRs, evalR, AV.toV0?, mkRes, V0.toAV, and_self, lst_get, eq_self, List.all_cons, List.all_nil, Bool.and_true, List.map_cons, List.map_nil, List.append_nil, setAt, CV.ok, partsA, fillC, e1, q0, d1, get_set ld, fin]
  · have q0 : ((ts.length : Int) == 0) = false := by simpa using h0
    have hcJ := hc.pre pJ
    have e64 := run32 (H := J) hc.okc
    have e73 := pickg (G := J) (T := []) (cs := c) (l := l) (n := (ts.length : Int)) (t := 0) (sd := 0) hcJ (by omega) (by omega) hl
    have pb := pkV_b hl (ts.length : Int) 0 0
    obtain ⟨i, hi⟩ : ∃ i : Nat, pkV l (ts.length : Int) 0 0 = (i : Int) := ⟨(pkV l (ts.length : Int) 0 0).toNat, by omega⟩
    rw [hi] at e73 pb
    have hil : i < ts.length := by
      by_cases h1 : (ts.length : Int) ≤ 1
      · have := pb.2.1 h1; omega
      · have := pb.2.2 (by omega); omega
    generalize pkT (ts.length : Int) 0 = t' at *
    generalize pkS l (ts.length : Int) 0 0 = s' at *
    have hlt : (i : Int) < ts.length := by omega
    obtain ⟨id, tt, mt, rfl, hb⟩ := hts (by omega)
    have lb := get_some_lt hb
    have hle : i * 4 + 4 ≤ (trows ts).length := by rw [trowl]; omega
    have hcut := trc hil
    refine ⟨ts[i]'hil, true, ?_, fun _ => List.getElem_mem hil, fun h => (by cases h)⟩
    generalize ts[i]'hil = t at *
    have fin : ∀ (X : Option Blk) (T : List (Option Blk)) (v : AV), v.plain = true → finish true H v (J.set (H.length + 1) X ++ T) = some (v, H) := fun X T v hv => finish_pre ((pS X).app T) hv
    obtain ⟨R, hR⟩ : ∃ R, R = hfr h := ⟨_, rfl⟩
    simp only [hfb, ← hR, trow, zTm] at e1 d1 hcut ⊢
    rw [ev_call c11]; unfold k11; rw [evB_eq rfl]
    simp (maxSteps := 4000000) (disch := first | omega | (refine _root_.id ?_; simp only [pl_int, pl_bool, pl_str, pl_undef, pl_nil, pl_ptr, plA_c, plA_agg, plA_tup, plV_c, plV_agg, List.all_cons, List.all_nil, Bool.and_true, Bool.and_self, eq_self, vi_int, vi_bool, get_app, get_app0, List.getElem?_cons_zero, List.getElem?_cons_succ, Option.join_some, lst_get, getL, upd_at, upd_ne, Nat.reduceBEq])) only [evC_skip, evC_ret, evC_region, evC_seq, ev_t, ev_k, putS_some, upd_l, putS_none, ops_nil, evC_condC, cond_bool, ops_cons, next_some, then_norm, done_ret, putL, getL, Option.bind_some, Option.map_some, evalOp, AV.cells?, readCells, writeCells, len_app, List.length_cons, List.length_nil, List.append_assoc, List.cons_append, List.nil_append, Nat.zero_add, Nat.reduceAdd, Nat.reduceLeDiff, List.drop_zero, List.drop_succ_cons, List.take_zero, List.take_succ_cons, List.take_nil, List.drop_nil, ↓reduceIte, reduceCtorEq, binA, binC, intBin, or_false, or_true, evalRs, evalR, AV.toV0?, mkRes, V0.toAV, and_self, lst_get, eq_self, List.all_cons, List.all_nil, Bool.and_true, Bool.false_eq_true, List.map_cons, List.map_nil, List.append_nil, setAt, CV.ok, cast_nonneg, cast_toNat, e1, q0, e64, e73, hlt, get_appl lb, hb, hle, hcut, d1, fin, get_appl ld, set_appl ld, get_set_app ld]
end Go.Proofs.YtcfabmmonoljeaaDoor
