/- What functions of the program answer: part Lies2. -/
import Derived.Test.YtnblibimbggheaaLies
set_option linter.unusedVariables false
set_option linter.unusedSimpArgs false
set_option linter.unusedSectionVars false
namespace Go.Proofs.Ytnblibimbggheaa
open Go Go.Proofs.Ytnblibimbggheaa.VI
set_option maxHeartbeats 16000000
set_option maxRecDepth 20000
/-! Slices of halves -/
abbrev hrows (hs : List Hf) : List CV := (hs.map hfr).flatten
def Hfs (H : AHeap) (p : Option (Nat × Nat)) (hs : List Hf) : Prop := 0 < hs.length → ∃ id t m, p = some (id, 0) ∧ H.get id = some ⟨t, hrows hs, m⟩
theorem Hfs.app {H : AHeap} {p : Option (Nat × Nat)} {hs : List Hf} (h : Hfs H p hs) (t : List (Option Blk)) : Hfs (H ++ t) p hs := by
  intro h0
  obtain ⟨id, e, m, h1, h2⟩ := h h0
  exact ⟨id, e, m, h1, by rw [get_appl (get_some_lt h2)]; exact h2⟩
theorem hrowl {hs : List Hf} : (hrows hs).length = hs.length * 18 := rows_len hfr_len
theorem hcut {hs : List Hf} {i : Nat} (hi : i < hs.length) : (((hrows hs).drop (i * 18)).take 18) = CV.bool (hs[i]'hi).st :: CV.slice (hs[i]'hi).p (hs[i]'hi).xs.length (hs[i]'hi).cap :: grow (hs[i]'hi).g := rows_cut hfr_len hi
theorem hrows_one {y : Hf} : hrows [y] = hfr y := by simp [hrows]
theorem tt {b : Bool} (h : b = true) : ((b = true) = True) ∧ ((b = false) = False) := by subst h; simp
theorem ff {b : Bool} (h : b = false) : ((b = true) = False) ∧ ((b = false) = True) := by subst h; simp
theorem loop67_0 {p : Option (Nat × Nat)} {cap : Cap} {hs : List Hf} (hlen : hs.length ≤ 4398046511104) : ∀ (n i : Nat) (_ : i + n = hs.length) (J : AHeap) (_ : Hfs J p hs) (_ : ∀ h ∈ hs, HfAt J h) (σ : Sl) (_ : σ 12 = .c (.slice p hs.length cap)) (_ : σ 13 = .c (.int .i64 hs.length)) (_ : σ 14 = .c (.int .i64 i)),
    Post (evC (ev kk) (.loop l67_0) (σ, J)) fun ex σ' H' => ex = (if (hs.drop i).all okF = true then .exit 0 else .ret) ∧ (∃ T, H' = J ++ T) ∧ ((hs.drop i).all okF = false → σ' 4 = .c (.int .i64 1)) ∧ σ' 1 = σ 1 ∧ σ' 2 = σ 2
  | 0, i, hi, J, hp, ha, σ, h12, h13, h14 => by
    have hge : ¬ ((i : Int) < hs.length) := by omega
    rw [evC_loop, all_end (by omega)]
    simp only [evC_exit, evC_region, evC_seq, ev_t, putS_some, ops_nil, evC_condC, cond_bool, ops_cons, next_some, then_norm, then_exit, Option.map_some, evalOp, ↓reduceIte, reduceCtorEq, binA, binC, intBin, or_false, or_true, and_true, true_and, decide_false, and_self, eq_self, Bool.true_eq_false, Bool.false_eq_true, Nat.reduceBEq, post_some, upd_at, upd_ne, false_implies, l67_0, h13, h14, hge]
    exact laid0
  | n + 1, i, hi, J, hp, ha, σ, h12, h13, h14 => by
    have hil : i < hs.length := by omega
    have hlt : (i : Int) < hs.length := by omega
    obtain ⟨id, t, m, rfl, hb⟩ := _root_.id hp (by omega)
    have hle : i * 18 + 18 ≤ (hrows hs).length := by rw [hrowl]; omega
    have cut := hcut hil
    have hax := ha hs[i] (List.getElem_mem hil)
    have r70 := fun T => v70 (hax.app T)
    have step := fun (T : List (Option Blk)) => loop67_0 (cap := cap) hlen n (i + 1) (by omega) (J ++ T) (hp.app T) (fun h hh => (ha h hh).app T)
    rw [evC_loop, all_step hil]
    generalize hs[i]'hil = x at *
    cases hx : okF x
    · rw [hx] at r70
      simp (maxSteps := 4000000) (disch := first | omega | (refine _root_.id ?_; simp only [pl_int, pl_bool, pl_str, pl_undef, pl_nil, pl_ptr, plA_c, plA_agg, plA_tup, plV_c, plV_agg, List.all_cons, List.all_nil, Bool.and_true, Bool.and_self, eq_self, vi_int, vi_bool, get_app, get_app0, List.getElem?_cons_zero, List.getElem?_cons_succ, Option.join_some, lst_get, getL, upd_at, upd_ne, Nat.reduceBEq])) only [evC_skip, evC_ret, evC_region, evC_seq, evC_block, ev_t, ev_k, putS_some, putS_none, ops_nil, evC_condC, cond_bool, ops_cons, next_some, then_norm, then_ret, out_ret, Option.map_some, evalOp, AV.cells?, readCells, writeCells, get_app0, set_app0, List.getElem?_cons_zero, Option.join_some, List.length_cons, List.length_nil, List.nil_append, Nat.zero_add, Nat.reduceAdd, List.drop_zero, List.drop_succ_cons, List.take_zero, List.take_succ_cons, List.drop_nil, ↓reduceIte, reduceCtorEq, binA, binC, intBin, or_false, or_true, and_true, true_and, decide_true, and_self, eq_self, List.all_cons, Bool.and_true, Bool.not_false, Bool.false_eq_true, List.map_cons, List.map_nil, List.append_nil, setAt, CV.ok, List.set_cons_zero, unA, post_some, upd_at, upd_ne, cast_nonneg, cast_toNat, true_implies, l67_0, h12, h13, h14, hlt, hb, hle, cut, gl, gt, Nat.le_refl, grow_ok, r70, Bool.false_and, Bool.false_eq_true]
      exact ⟨_, rfl⟩
    · rw [hx] at r70
      simp (maxSteps := 4000000) (disch := first | omega | (refine _root_.id ?_; simp only [pl_int, pl_bool, pl_str, pl_undef, pl_nil, pl_ptr, plA_c, plA_agg, plA_tup, plV_c, plV_agg, List.all_cons, List.all_nil, Bool.and_true, Bool.and_self, eq_self, vi_int, vi_bool, get_app, get_app0, List.getElem?_cons_zero, List.getElem?_cons_succ, Option.join_some, lst_get, getL, upd_at, upd_ne, Nat.reduceBEq])) only [evC_skip, evC_region, evC_seq, evC_block, ev_t, ev_k, putS_some, putS_none, ops_nil, evC_condC, cond_bool, ops_cons, next_some, then_norm, out_norm, Option.map_some, evalOp, AV.cells?, readCells, writeCells, get_app0, set_app0, List.getElem?_cons_zero, Option.join_some, List.length_cons, List.length_nil, List.nil_append, Nat.zero_add, Nat.reduceAdd, List.drop_zero, List.drop_succ_cons, List.take_zero, List.take_succ_cons, List.drop_nil, ↓reduceIte, reduceCtorEq, binA, binC, intBin, or_false, or_true, decide_true, and_self, eq_self, IntWalk.i64_in, List.all_cons, Bool.and_true, Bool.true_and, Bool.not_true, Bool.false_eq_true, List.map_cons, List.map_nil, List.append_nil, setAt, CV.ok, List.set_cons_zero, unA, upd_at, upd_ne, cast_nonneg, cast_toNat, l67_0, h12, h13, h14, hlt, hb, hle, cut, gl, gt, Nat.le_refl, grow_ok, r70, Bool.true_and]
      exact Post.mono (step _ _ (by simp only [upd_ne, Nat.reduceBEq, h12]) (by simp only [upd_ne, Nat.reduceBEq, h13]) (by simp only [upd_at]; rfl)) (fun ex σ' H' q => ⟨q.1, laid q.2.1, q.2.2.1, q.2.2.2.1.trans (by simp only [upd_ne, Nat.reduceBEq]), q.2.2.2.2.trans (by simp only [upd_ne, Nat.reduceBEq])⟩)
def foil (h : Hf) : Bool := !h.st
theorem loop67_1 {p : Option (Nat × Nat)} {cap : Cap} {hs : List Hf} (hlen : hs.length ≤ 4398046511104) : ∀ (n i : Nat) (_ : i + n = hs.length) (J : AHeap) (_ : Hfs J p hs) (σ : Sl) (_ : σ 25 = .c (.slice p hs.length cap)) (_ : σ 26 = .c (.int .i64 hs.length)) (_ : σ 27 = .c (.int .i64 i)),
    Post (evC (ev kk) (.loop l67_1) (σ, J)) fun ex σ' H' => ex = (if (hs.drop i).all foil = true then .exit 2 else .ret) ∧ (∃ T, H' = J ++ T) ∧ ((hs.drop i).all foil = false → σ' 4 = .c (.int .i64 4))
  | 0, i, hi, J, hp, σ, h12, h13, h14 => by
    have hge : ¬ ((i : Int) < hs.length) := by omega
    rw [evC_loop, all_end (by omega)]
    simp only [evC_exit, evC_region, evC_seq, ev_t, putS_some, ops_nil, evC_condC, cond_bool, ops_cons, next_some, then_norm, then_exit, Option.map_some, evalOp, ↓reduceIte, reduceCtorEq, binA, binC, intBin, or_false, or_true, and_true, true_and, decide_false, eq_self, Bool.true_eq_false, Bool.false_eq_true, post_some, upd_at, false_implies, l67_1, h13, h14, hge]
    exact laid0
  | n + 1, i, hi, J, hp, σ, h12, h13, h14 => by
    have hil : i < hs.length := by omega
    have hlt : (i : Int) < hs.length := by omega
    obtain ⟨id, t, m, rfl, hb⟩ := _root_.id hp (by omega)
    have hle : i * 18 + 18 ≤ (hrows hs).length := by rw [hrowl]; omega
    have cut := hcut hil
    have step := fun (T : List (Option Blk)) => loop67_1 (cap := cap) hlen n (i + 1) (by omega) (J ++ T) (hp.app T)
    rw [evC_loop, all_step hil]
    generalize hs[i]'hil = x at *
    cases hx : x.st
    · have hf : foil x = true := by unfold foil; rw [hx]; rfl
      simp (maxSteps := 4000000) (disch := first | omega | (refine _root_.id ?_; simp only [pl_int, pl_bool, pl_str, pl_undef, pl_nil, pl_ptr, plA_c, plA_agg, plA_tup, plV_c, plV_agg, List.all_cons, List.all_nil, Bool.and_true, Bool.and_self, eq_self, vi_int, vi_bool, get_app, get_app0, List.getElem?_cons_zero, List.getElem?_cons_succ, Option.join_some, lst_get, getL, upd_at, upd_ne, Nat.reduceBEq])) only [evC_skip, evC_region, evC_seq, evC_block, ev_t, ev_k, putS_some, putS_none, ops_nil, evC_condC, cond_bool, ops_cons, next_some, then_norm, out_norm, Option.map_some, evalOp, AV.cells?, readCells, readCell, writeCells, get_app0, set_app0, List.getElem?_cons_zero, Option.join_some, List.length_cons, List.length_nil, List.nil_append, Nat.zero_add, Nat.add_zero, Nat.reduceAdd, List.drop_succ_cons, List.take_zero, List.drop_nil, ↓reduceIte, reduceCtorEq, binA, binC, intBin, or_false, or_true, decide_true, and_self, eq_self, IntWalk.i64_in, List.all_cons, Bool.and_true, Bool.true_and, List.append_nil, setAt, CV.ok, List.set_cons_zero, upd_at, upd_ne, cast_nonneg, cast_toNat, l67_1, h12, h13, h14, hlt, hb, hle, cut, gl, Nat.le_refl, grow_ok, (ff hx).1, hf, Bool.true_and]
      exact Post.mono (step _ _ (by simp only [upd_ne, Nat.reduceBEq, h12]) (by simp only [upd_ne, Nat.reduceBEq, h13]) (by simp only [upd_at]; rfl)) (fun ex σ' H' q => ⟨q.1, laid q.2.1, q.2.2⟩)
    · have hf : foil x = false := by unfold foil; rw [hx]; rfl
      simp (maxSteps := 4000000) (disch := first | omega | (refine _root_.id ?_; simp only [pl_int, pl_bool, pl_str, pl_undef, pl_nil, pl_ptr, plA_c, plA_agg, plA_tup, plV_c, plV_agg, List.all_cons, List.all_nil, Bool.and_true, Bool.and_self, eq_self, vi_int, vi_bool, get_app, get_app0, List.getElem?_cons_zero, List.getElem?_cons_succ, Option.join_some, lst_get, getL, upd_at, upd_ne, Nat.reduceBEq])) only [evC_skip, evC_ret, evC_region, evC_seq, evC_block, ev_t, ev_k, putS_some, putS_none, ops_nil, evC_condC, cond_bool, ops_cons, next_some, then_norm, then_ret, out_ret, Option.map_some, evalOp, AV.cells?, readCells, readCell, writeCells, get_app0, set_app0, List.getElem?_cons_zero, Option.join_some, List.length_cons, List.length_nil, List.nil_append, Nat.zero_add, Nat.add_zero, Nat.reduceAdd, List.drop_succ_cons, List.take_zero, List.drop_nil, ↓reduceIte, reduceCtorEq, binA, binC, intBin, or_false, or_true, and_true, true_and, decide_true, and_self, eq_self, List.all_cons, Bool.and_true, Bool.false_eq_true, List.append_nil, setAt, CV.ok, List.set_cons_zero, post_some, upd_at, upd_ne, cast_nonneg, cast_toNat, true_implies, l67_1, h12, h13, h14, hlt, hb, hle, cut, gl, Nat.le_refl, grow_ok, (tt hx).1, hf, Bool.false_and, Bool.false_eq_true]
      exact ⟨_, rfl⟩
/-- The code of a stock and foils. -/
def pcR (s : Hf) (hs : List Hf) : Int := if (okF s && hs.all okF) = true then if (s.st && hs.all foil) = true then 0 else 4 else 1
theorem run67 {s : Hf} {p : Option (Nat × Nat)} {cap : Cap} {hs : List Hf} (hlen : hs.length ≤ 4398046511104) {H : AHeap} (hsA : HfAt H s) (hp : Hfs H p hs) (ha : ∀ h ∈ hs, HfAt H h) : ev kk 67 [.agg (hfr s), .c (.slice p hs.length cap)] H = some (.c (.int .i64 (pcR s hs)), H) := by
  have r70 := fun T => v70 (hsA.app T)
  unfold pcR
  cases h1 : okF s
  · rw [h1] at r70
    rw [ev_call c67]; unfold k67; rw [evB_eq rfl]
    simp (maxSteps := 4000000) (disch := first | omega | (refine _root_.id ?_; simp only [pl_int, pl_bool, pl_str, pl_undef, pl_nil, pl_ptr, plA_c, plA_agg, plA_tup, plV_c, plV_agg, List.all_cons, List.all_nil, Bool.and_true, Bool.and_self, eq_self, vi_int, vi_bool, get_app, get_app0, List.getElem?_cons_zero, List.getElem?_cons_succ, Option.join_some, lst_get, getL, upd_at, upd_ne, Nat.reduceBEq])) only [evC_ret, evC_region, evC_seq, ev_t, ev_k, putS_some, upd_l, ops_nil, evC_condC, cond_bool, ops_cons, next_some, then_norm, then_ret, done_ret, putL, getL, Option.bind_some, Option.map_some, evalOp, AV.cells?, readCells, get_app0, List.getElem?_cons_zero, Option.join_some, List.length_cons, Nat.zero_add, Nat.reduceAdd, List.drop_zero, List.take_succ_cons, ↓reduceIte, evalRs, evalR, AV.toV0?, mkRes, V0.toAV, lst_get, eq_self, finish_app, Bool.not_false, Bool.false_eq_true, List.map_cons, List.map_nil, List.append_nil, unA, gl, gt, Nat.le_refl, r70, Bool.false_and, Bool.false_eq_true]
  · rw [h1] at r70
    obtain ⟨ex, σ1, H1, e1, rfl, ⟨T0, rfl⟩, f4, f1, f2⟩ := loop67_0 (cap := cap) hlen hs.length 0 (by omega) (H ++ [hfb s]) (hp.app _) (fun h hh => (ha h hh).app _) (lst [.agg (hfr s), .c (.slice p hs.length cap), .c (.ptr (some (H.length, 0))), .c .undef, .c (.int .i64 0), .c .undef, .c .undef, .c .undef, .c .undef, .agg (hfr s), .c (.bool true), .c (.bool false), .c (.slice p hs.length cap), .c (.int .i64 hs.length), .c (.int .i64 0)]) rfl rfl rfl
    rw [List.drop_zero] at e1 f4
    simp only [List.append_assoc, List.cons_append, List.nil_append] at e1
    have f1 : σ1 1 = .c (.slice p hs.length cap) := f1
    have f2 : σ1 2 = .c (.ptr (some (H.length, 0))) := f2
    cases h2 : hs.all okF
    · rw [h2] at e1
      simp only [Bool.false_eq_true, if_false] at e1
      have f4 := f4 h2
      rw [ev_call c67]; unfold k67; rw [evB_eq rfl]
      simp (maxSteps := 4000000) (disch := first | omega | (refine _root_.id ?_; simp only [pl_int, pl_bool, pl_str, pl_undef, pl_nil, pl_ptr, plA_c, plA_agg, plA_tup, plV_c, plV_agg, List.all_cons, List.all_nil, Bool.and_true, Bool.and_self, eq_self, vi_int, vi_bool, get_app, get_app0, List.getElem?_cons_zero, List.getElem?_cons_succ, Option.join_some, lst_get, getL, upd_at, upd_ne, Nat.reduceBEq])) only [evC_skip, evC_region, evC_seq, evC_block, ev_t, ev_k, putS_some, upd_l, ops_nil, evC_condC, cond_bool, ops_cons, next_some, then_norm, then_ret, out_ret, done_ret, putL, getL, Option.bind_some, Option.map_some, evalOp, AV.cells?, readCells, get_app0, List.getElem?_cons_zero, Option.join_some, List.length_cons, Nat.zero_add, Nat.reduceAdd, List.drop_zero, List.take_succ_cons, ↓reduceIte, evalRs, evalR, AV.toV0?, mkRes, V0.toAV, lst_get, eq_self, finish_app, Bool.true_and, Bool.not_true, Bool.false_eq_true, List.map_cons, List.map_nil, List.append_nil, unA, gl, gt, Nat.le_refl, r70, e1, f4, Bool.true_and, Bool.false_eq_true]
    · rw [h2] at e1
      simp only [if_true] at e1
      cases h3 : s.st
      · rw [ev_call c67]; unfold k67; rw [evB_eq rfl]
        simp (maxSteps := 4000000) (disch := first | omega | (refine _root_.id ?_; simp only [pl_int, pl_bool, pl_str, pl_undef, pl_nil, pl_ptr, plA_c, plA_agg, plA_tup, plV_c, plV_agg, List.all_cons, List.all_nil, Bool.and_true, Bool.and_self, eq_self, vi_int, vi_bool, get_app, get_app0, List.getElem?_cons_zero, List.getElem?_cons_succ, Option.join_some, lst_get, getL, upd_at, upd_ne, Nat.reduceBEq])) only [evC_skip, evC_ret, evC_region, evC_seq, evC_block, ev_t, ev_k, putS_some, upd_l, ops_nil, evC_condC, cond_bool, ops_cons, next_some, then_norm, then_ret, out_exit, done_ret, putL, getL, Option.bind_some, Option.map_some, evalOp, AV.cells?, readCells, readCell, get_app0, List.getElem?_cons_zero, Option.join_some, List.length_cons, Nat.zero_add, Nat.add_zero, Nat.reduceAdd, List.drop_zero, List.take_succ_cons, ↓reduceIte, evalRs, evalR, AV.toV0?, mkRes, V0.toAV, lst_get, eq_self, finish_app, Bool.and_true, Bool.not_true, Bool.false_eq_true, List.map_cons, List.map_nil, List.append_nil, unA, Bool.not_eq_eq_eq_not, upd_at, gl, gt, Nat.le_refl, r70, e1, f2, (ff h3).2, Bool.false_and, Bool.false_eq_true]
      · have L := fun σ h25 h26 h27 => post_finT (ex := if hs.all foil = true then Ex.exit 2 else Ex.ret) (Q := fun σ' => hs.all foil = false → σ' 4 = .c (.int .i64 4)) (loop67_1 (cap := cap) hlen hs.length 0 (by omega) (H ++ hfb s :: T0) (hp.app _) σ h25 h26 h27)
        simp only [Int.natCast_zero, List.append_assoc, List.cons_append] at L
        cases h4 : hs.all foil
        · rw [h4] at L
          simp only [Bool.false_eq_true, if_false, true_implies] at L
          rw [ev_call c67]; unfold k67; rw [evB_eq rfl]
          simp (maxSteps := 4000000) (disch := first | omega | (refine _root_.id ?_; simp only [pl_int, pl_bool, pl_str, pl_undef, pl_nil, pl_ptr, plA_c, plA_agg, plA_tup, plV_c, plV_agg, List.all_cons, List.all_nil, Bool.and_true, Bool.and_self, eq_self, vi_int, vi_bool, get_app, get_app0, List.getElem?_cons_zero, List.getElem?_cons_succ, Option.join_some, lst_get, getL, upd_at, upd_ne, Nat.reduceBEq])) only [evC_skip, evC_region, evC_seq, evC_block, ev_t, ev_k, putS_some, upd_l, ops_nil, evC_condC, cond_bool, ops_cons, next_some, then_norm, then_ret, out_ret, out_exit, done_ret, putL, getL, Option.bind_some, Option.map_some, evalOp, AV.cells?, readCells, readCell, get_app0, List.getElem?_cons_zero, Option.join_some, List.length_cons, Nat.zero_add, Nat.add_zero, Nat.reduceAdd, List.drop_zero, List.take_succ_cons, ↓reduceIte, evalRs, evalR, AV.toV0?, mkRes, V0.toAV, lst_get, eq_self, finish_app, Bool.and_true, Bool.true_and, Bool.not_true, Bool.false_eq_true, List.map_cons, List.map_nil, List.append_nil, unA, Bool.not_eq_eq_eq_not, upd_at, upd_ne, gl, gt, Nat.le_refl, r70, e1, f1, f2, (tt h3).2, (fun σ h25 h26 h27 => (L σ h25 h26 h27).1), (fun σ h25 h26 h27 => (L σ h25 h26 h27).2), Bool.true_and, Bool.false_eq_true]
        · rw [h4] at L
          simp only [if_true] at L
          rw [ev_call c67]; unfold k67; rw [evB_eq rfl]
          simp (maxSteps := 4000000) (disch := first | omega | (refine _root_.id ?_; simp only [pl_int, pl_bool, pl_str, pl_undef, pl_nil, pl_ptr, plA_c, plA_agg, plA_tup, plV_c, plV_agg, List.all_cons, List.all_nil, Bool.and_true, Bool.and_self, eq_self, vi_int, vi_bool, get_app, get_app0, List.getElem?_cons_zero, List.getElem?_cons_succ, Option.join_some, lst_get, getL, upd_at, upd_ne, Nat.reduceBEq])) only [evC_skip, evC_ret, evC_region, evC_seq, evC_block, ev_t, ev_k, putS_some, upd_l, ops_nil, evC_condC, cond_bool, ops_cons, next_some, then_norm, out_exit, done_ret, putL, getL, Option.bind_some, Option.map_some, evalOp, AV.cells?, readCells, readCell, get_app0, List.getElem?_cons_zero, Option.join_some, List.length_cons, Nat.zero_add, Nat.add_zero, Nat.reduceAdd, List.drop_zero, List.take_succ_cons, ↓reduceIte, evalRs, evalR, AV.toV0?, mkRes, V0.toAV, lst_get, eq_self, finish_app, Bool.and_true, Bool.not_true, Bool.false_eq_true, List.map_cons, List.map_nil, List.append_nil, unA, Bool.not_eq_eq_eq_not, upd_at, upd_ne, gl, gt, Nat.le_refl, r70, e1, f1, f2, (tt h3).2, (fun σ h25 h26 h27 => (L σ h25 h26 h27).1)]
section
variable {x y : Hf} {H : AHeap}
theorem run74 (hx : HfAt H x) (hy : HfAt H y) {i j : Nat} {e e' : TypeId} {m m' : BM} (hi : H.get i = some ⟨e, hfr x, m⟩) (hj : H.get j = some ⟨e', hfr y, m'⟩) : ev kk 74 [.c (.ptr (some (i, 0))), .c (.ptr (some (j, 0)))] H = some (.c (.int .i64 (pcR x [y])), H) := by
  have a1 := v66 hx hi
  have a2 := v66 hy hj
  have e1 : [y].all okF = okF y := by simp
  have e2 : [y].all foil = foil y := by simp
  unfold pcR
  rw [e1, e2]
  cases h1 : okF x
  · rw [h1] at a1
    rw [ev_call c74]; unfold k74; rw [evB_eq rfl]
    simp (maxSteps := 4000000) (disch := first | omega | (refine _root_.id ?_; simp only [pl_int, pl_bool, pl_str, pl_undef, pl_nil, pl_ptr, plA_c, plA_agg, plA_tup, plV_c, plV_agg, List.all_cons, List.all_nil, Bool.and_true, Bool.and_self, eq_self, vi_int, vi_bool, get_app, get_app0, List.getElem?_cons_zero, List.getElem?_cons_succ, Option.join_some, lst_get, getL, upd_at, upd_ne, Nat.reduceBEq])) only [evC_ret, evC_region, evC_seq, ev_t, ev_k, putS_some, upd_l, ops_nil, ops_consg, guard_bool, evC_condC, cond_bool, ops_cons, next_some, then_norm, then_ret, done_ret, putL, getL, Option.bind_some, Option.map_some, evalOp, ↓reduceIte, evalRs, evalR, AV.toV0?, mkRes, V0.toAV, lst_get, eq_self, finish_id, Bool.not_false, Bool.true_eq_false, Bool.false_eq_true, List.map_cons, List.map_nil, List.append_nil, unA, a1, Bool.false_and, Bool.false_eq_true]
  · rw [h1] at a1
    cases h2 : okF y
    · rw [h2] at a2
      rw [ev_call c74]; unfold k74; rw [evB_eq rfl]
      simp (maxSteps := 4000000) (disch := first | omega | (refine _root_.id ?_; simp only [pl_int, pl_bool, pl_str, pl_undef, pl_nil, pl_ptr, plA_c, plA_agg, plA_tup, plV_c, plV_agg, List.all_cons, List.all_nil, Bool.and_true, Bool.and_self, eq_self, vi_int, vi_bool, get_app, get_app0, List.getElem?_cons_zero, List.getElem?_cons_succ, Option.join_some, lst_get, getL, upd_at, upd_ne, Nat.reduceBEq])) only [evC_ret, evC_region, evC_seq, ev_t, ev_k, putS_some, upd_l, ops_nil, ops_consg, guard_bool, evC_condC, cond_bool, ops_cons, next_some, then_norm, then_ret, done_ret, putL, getL, Option.bind_some, Option.map_some, evalOp, ↓reduceIte, evalRs, evalR, AV.toV0?, mkRes, V0.toAV, lst_get, eq_self, finish_id, Bool.not_true, Bool.not_false, Bool.false_eq_true, List.map_cons, List.map_nil, List.append_nil, unA, a1, a2, Bool.and_false, Bool.false_eq_true]
    · rw [h2] at a2
      cases h3 : x.st
      · rw [ev_call c74]; unfold k74; rw [evB_eq rfl]
        simp (maxSteps := 4000000) (disch := first | omega | (refine _root_.id ?_; simp only [pl_int, pl_bool, pl_str, pl_undef, pl_nil, pl_ptr, plA_c, plA_agg, plA_tup, plV_c, plV_agg, List.all_cons, List.all_nil, Bool.and_true, Bool.and_self, eq_self, vi_int, vi_bool, get_app, get_app0, List.getElem?_cons_zero, List.getElem?_cons_succ, Option.join_some, lst_get, getL, upd_at, upd_ne, Nat.reduceBEq])) only [evC_skip, evC_ret, evC_region, evC_seq, ev_t, ev_k, putS_some, upd_l, ops_nil, ops_consg, guard_bool, evC_condC, cond_bool, ops_cons, next_some, then_norm, then_ret, done_ret, putL, getL, Option.bind_some, Option.map_some, evalOp, readCell, List.getElem?_cons_zero, Nat.add_zero, ↓reduceIte, evalRs, evalR, AV.toV0?, mkRes, V0.toAV, lst_get, eq_self, finish_id, Bool.and_true, Bool.not_true, Bool.not_false, Bool.true_eq_false, Bool.false_eq_true, List.map_cons, List.map_nil, List.append_nil, unA, Bool.not_eq_eq_eq_not, a1, a2, hi, (ff h3).1, Bool.false_and, Bool.false_eq_true]
      · cases h4 : y.st
        · have hf : foil y = true := by unfold foil; rw [h4]; rfl
          rw [ev_call c74]; unfold k74; rw [evB_eq rfl]
          simp (maxSteps := 4000000) (disch := first | omega | (refine _root_.id ?_; simp only [pl_int, pl_bool, pl_str, pl_undef, pl_nil, pl_ptr, plA_c, plA_agg, plA_tup, plV_c, plV_agg, List.all_cons, List.all_nil, Bool.and_true, Bool.and_self, eq_self, vi_int, vi_bool, get_app, get_app0, List.getElem?_cons_zero, List.getElem?_cons_succ, Option.join_some, lst_get, getL, upd_at, upd_ne, Nat.reduceBEq])) only [evC_skip, evC_ret, evC_region, evC_seq, ev_t, ev_k, putS_some, upd_l, ops_nil, ops_consg, guard_bool, evC_condC, cond_bool, ops_cons, next_some, then_norm, done_ret, putL, getL, Option.bind_some, Option.map_some, evalOp, readCell, List.getElem?_cons_zero, Nat.add_zero, ↓reduceIte, evalRs, evalR, AV.toV0?, mkRes, V0.toAV, lst_get, eq_self, finish_id, Bool.and_true, Bool.not_true, Bool.not_false, Bool.false_eq_true, List.map_cons, List.map_nil, List.append_nil, unA, Bool.not_eq_eq_eq_not, a1, a2, hi, hj, (tt h3).1, (ff h4).1, hf]
        · have hf : foil y = false := by unfold foil; rw [h4]; rfl
          rw [ev_call c74]; unfold k74; rw [evB_eq rfl]
          simp (maxSteps := 4000000) (disch := first | omega | (refine _root_.id ?_; simp only [pl_int, pl_bool, pl_str, pl_undef, pl_nil, pl_ptr, plA_c, plA_agg, plA_tup, plV_c, plV_agg, List.all_cons, List.all_nil, Bool.and_true, Bool.and_self, eq_self, vi_int, vi_bool, get_app, get_app0, List.getElem?_cons_zero, List.getElem?_cons_succ, Option.join_some, lst_get, getL, upd_at, upd_ne, Nat.reduceBEq])) only [evC_skip, evC_ret, evC_region, evC_seq, ev_t, ev_k, putS_some, upd_l, ops_nil, ops_consg, guard_bool, evC_condC, cond_bool, ops_cons, next_some, then_norm, then_ret, done_ret, putL, getL, Option.bind_some, Option.map_some, evalOp, readCell, List.getElem?_cons_zero, Nat.add_zero, ↓reduceIte, evalRs, evalR, AV.toV0?, mkRes, V0.toAV, lst_get, eq_self, finish_id, Bool.and_true, Bool.not_true, Bool.not_false, Bool.false_eq_true, List.map_cons, List.map_nil, List.append_nil, unA, Bool.not_eq_eq_eq_not, a1, a2, hi, hj, (tt h3).1, (tt h4).1, hf, Bool.and_false, Bool.false_eq_true]
/-- Which half has been tampered with. -/
def liR (x y : Hf) : Int := if eqN x.xs y.xs = true then 0 else if inWl (wdF y) (wdF x) = true then 1 else if inWl (wdF x) (wdF y) = true then 2 else 3
theorem run77 (hx : HfAt H x) (hy : HfAt H y) (ox : okF x = true) (oy : okF y = true) {i j : Nat} {e e' : TypeId} {m m' : BM} (hi : H.get i = some ⟨e, hfr x, m⟩) (hj : H.get j = some ⟨e', hfr y, m'⟩) : ev kk 77 [.c (.ptr (some (i, 0))), .c (.ptr (some (j, 0)))] H = some (.c (.int .i64 (liR x y)), H) := by
  have hil := get_some_lt hi
  have hjl := get_some_lt hj
  have r120 := run109 (cap := x.cap) (cap' := y.cap) hx.few hy.few hx.at_ hy.at_
  have b1 := fun T => v67 (hx.app T) ox (j := i) (e := e) (m := m) (by rw [get_appl hil]; exact hi)
  have b2 := fun T => v67 (hy.app T) oy (j := j) (e := e') (m := m') (by rw [get_appl hjl]; exact hj)
  have b1' := v67 hx ox hi
  have c1 := fun H => run112 (wdF_len (h := y)) (wdF_len (h := x)) H
  have c2 := fun H => run112 (wdF_len (h := x)) (wdF_len (h := y)) H
  have l1 := wdF_len (h := x)
  have l2 := wdF_len (h := y)
  unfold liR
  generalize wdF x = w at *
  generalize wdF y = v at *
  match w, l1, v, l2 with
  | [w0, w1, w2, w3], _, [v0, v1, v2, v3], _ =>
    simp only [wrow, List.map_cons, List.map_nil] at b1 b2 b1' c1 c2
    cases h1 : eqN x.xs y.xs
    · rw [h1] at r120
      cases h2 : inWl [v0, v1, v2, v3] [w0, w1, w2, w3]
      · rw [h2] at c1
        cases h3 : inWl [w0, w1, w2, w3] [v0, v1, v2, v3]
        · rw [h3] at c2
          rw [ev_call c77]; unfold k77; rw [evB_eq rfl]
          simp (maxSteps := 4000000) (disch := first | omega | (refine _root_.id ?_; simp only [pl_int, pl_bool, pl_str, pl_undef, pl_nil, pl_ptr, plA_c, plA_agg, plA_tup, plV_c, plV_agg, List.all_cons, List.all_nil, Bool.and_true, Bool.and_self, eq_self, vi_int, vi_bool, get_app, get_app0, List.getElem?_cons_zero, List.getElem?_cons_succ, Option.join_some, lst_get, getL, upd_at, upd_ne, Nat.reduceBEq])) only [evC_skip, evC_ret, evC_region, evC_seq, evC_block, ev_t, ev_k, putS_some, upd_l, putS_none, ops_nil, evC_condC, cond_bool, ops_cons, next_some, nextD_some, then_norm, out_norm, done_ret, putL, getL, Option.bind_some, Option.map_some, evalOp, AV.cells?, readCells, readCell, writeCells, get_app, get_app0, set_app, set_app0, len_app, List.getElem?_cons_zero, List.getElem?_cons_succ, Option.join_some, List.length_cons, List.length_nil, List.append_assoc, List.cons_append, List.nil_append, Nat.zero_add, Nat.reduceAdd, Nat.reduceLeDiff, List.drop_zero, List.drop_succ_cons, List.take_zero, List.take_succ_cons, List.take_nil, List.drop_nil, ↓reduceIte, evalRs, evalR, AV.toV0?, mkRes, V0.toAV, and_self, lst_get, eq_self, finish_app, List.all_cons, List.all_nil, Bool.and_true, Bool.false_eq_true, List.map_cons, List.map_nil, List.append_nil, setAt, CV.ok, List.set_cons_zero, List.set_cons_succ, evC_drawn, dr_nil, dr_cons, chk_nil, hi, hj, r120, b2, b1', c1, c2, Bool.false_eq_true]
        · rw [h3] at c2
          rw [ev_call c77]; unfold k77; rw [evB_eq rfl]
          simp (maxSteps := 4000000) (disch := first | omega | (refine _root_.id ?_; simp only [pl_int, pl_bool, pl_str, pl_undef, pl_nil, pl_ptr, plA_c, plA_agg, plA_tup, plV_c, plV_agg, List.all_cons, List.all_nil, Bool.and_true, Bool.and_self, eq_self, vi_int, vi_bool, get_app, get_app0, List.getElem?_cons_zero, List.getElem?_cons_succ, Option.join_some, lst_get, getL, upd_at, upd_ne, Nat.reduceBEq])) only [evC_skip, evC_ret, evC_region, evC_seq, evC_block, ev_t, ev_k, putS_some, upd_l, putS_none, ops_nil, evC_condC, cond_bool, ops_cons, next_some, nextD_some, then_norm, then_ret, out_ret, done_ret, putL, getL, Option.bind_some, Option.map_some, evalOp, AV.cells?, readCells, readCell, writeCells, get_app, get_app0, set_app, set_app0, len_app, List.getElem?_cons_zero, List.getElem?_cons_succ, Option.join_some, List.length_cons, List.length_nil, List.append_assoc, List.cons_append, List.nil_append, Nat.zero_add, Nat.reduceAdd, Nat.reduceLeDiff, List.drop_zero, List.drop_succ_cons, List.take_zero, List.take_succ_cons, List.take_nil, List.drop_nil, ↓reduceIte, evalRs, evalR, AV.toV0?, mkRes, V0.toAV, and_self, lst_get, eq_self, finish_app, List.all_cons, List.all_nil, Bool.and_true, Bool.false_eq_true, List.map_cons, List.map_nil, List.append_nil, setAt, CV.ok, List.set_cons_zero, List.set_cons_succ, evC_drawn, dr_nil, dr_cons, chk_nil, hi, hj, r120, b2, b1', c1, c2, Bool.false_eq_true]
      · rw [h2] at c1
        rw [ev_call c77]; unfold k77; rw [evB_eq rfl]
        simp (maxSteps := 4000000) (disch := first | omega | (refine _root_.id ?_; simp only [pl_int, pl_bool, pl_str, pl_undef, pl_nil, pl_ptr, plA_c, plA_agg, plA_tup, plV_c, plV_agg, List.all_cons, List.all_nil, Bool.and_true, Bool.and_self, eq_self, vi_int, vi_bool, get_app, get_app0, List.getElem?_cons_zero, List.getElem?_cons_succ, Option.join_some, lst_get, getL, upd_at, upd_ne, Nat.reduceBEq])) only [evC_skip, evC_ret, evC_region, evC_seq, evC_block, ev_t, ev_k, putS_some, upd_l, putS_none, ops_nil, evC_condC, cond_bool, ops_cons, next_some, nextD_some, then_norm, then_ret, out_ret, done_ret, putL, getL, Option.bind_some, Option.map_some, evalOp, AV.cells?, readCells, readCell, writeCells, get_app, get_app0, set_app, set_app0, len_app, List.getElem?_cons_zero, List.getElem?_cons_succ, Option.join_some, List.length_cons, List.length_nil, List.append_assoc, List.cons_append, List.nil_append, Nat.zero_add, Nat.reduceAdd, Nat.reduceLeDiff, List.drop_zero, List.drop_succ_cons, List.take_zero, List.take_succ_cons, List.take_nil, List.drop_nil, ↓reduceIte, evalRs, evalR, AV.toV0?, mkRes, V0.toAV, and_self, lst_get, eq_self, finish_app, List.all_cons, List.all_nil, Bool.and_true, Bool.false_eq_true, List.map_cons, List.map_nil, List.append_nil, setAt, CV.ok, List.set_cons_zero, List.set_cons_succ, evC_drawn, dr_nil, dr_cons, chk_nil, hi, hj, r120, b2, b1', c1, Bool.false_eq_true]
    · rw [h1] at r120
      rw [ev_call c77]; unfold k77; rw [evB_eq rfl]
      simp (maxSteps := 4000000) (disch := first | omega | (refine _root_.id ?_; simp only [pl_int, pl_bool, pl_str, pl_undef, pl_nil, pl_ptr, plA_c, plA_agg, plA_tup, plV_c, plV_agg, List.all_cons, List.all_nil, Bool.and_true, Bool.and_self, eq_self, vi_int, vi_bool, get_app, get_app0, List.getElem?_cons_zero, List.getElem?_cons_succ, Option.join_some, lst_get, getL, upd_at, upd_ne, Nat.reduceBEq])) only [evC_ret, evC_region, evC_seq, ev_t, ev_k, putS_some, upd_l, ops_nil, evC_condC, cond_bool, ops_cons, next_some, nextD_some, then_norm, then_ret, done_ret, putL, getL, Option.bind_some, Option.map_some, evalOp, readCell, List.getElem?_cons_zero, List.getElem?_cons_succ, Nat.zero_add, ↓reduceIte, evalRs, evalR, AV.toV0?, mkRes, V0.toAV, lst_get, eq_self, finish_id, List.map_cons, List.map_nil, List.append_nil, evC_drawn, dr_nil, dr_cons, chk_nil, hi, hj, r120]
theorem run68 (hx : HfAt H x) (hy : HfAt H y) (ox : okF x = true) (oy : okF y = true) : ev kk 68 [.agg (hfr x), .agg (hfr y)] H = some (.c (.int .i64 (liR x y)), H) := by
  have r121 := fun T => run105 (cap := x.cap) (cap' := y.cap) hx.few hy.few (hx.at_.app T) (hy.at_.app T)
  have b1 := fun T => v71 (hx.app T) ox
  have b2 := fun T => v71 (hy.app T) oy
  have c1 := fun H => run106 (wdF_len (h := y)) (wdF_len (h := x)) H
  have c2 := fun H => run106 (wdF_len (h := x)) (wdF_len (h := y)) H
  have l1 := wdF_len (h := x)
  have l2 := wdF_len (h := y)
  unfold liR
  generalize wdF x = w at *
  generalize wdF y = v at *
  match w, l1, v, l2 with
  | [w0, w1, w2, w3], _, [v0, v1, v2, v3], _ =>
    simp only [wrow, List.map_cons, List.map_nil] at b1 b2 c1 c2
    cases h1 : eqN x.xs y.xs
    · simp only [h1] at r121
      cases h2 : inWl [v0, v1, v2, v3] [w0, w1, w2, w3]
      · rw [h2] at c1
        cases h3 : inWl [w0, w1, w2, w3] [v0, v1, v2, v3]
        · rw [h3] at c2
          rw [ev_call c68]; unfold k68; rw [evB_eq rfl]
          simp (maxSteps := 4000000) (disch := first | omega | (refine _root_.id ?_; simp only [pl_int, pl_bool, pl_str, pl_undef, pl_nil, pl_ptr, plA_c, plA_agg, plA_tup, plV_c, plV_agg, List.all_cons, List.all_nil, Bool.and_true, Bool.and_self, eq_self, vi_int, vi_bool, get_app, get_app0, List.getElem?_cons_zero, List.getElem?_cons_succ, Option.join_some, lst_get, getL, upd_at, upd_ne, Nat.reduceBEq])) only [evC_skip, evC_ret, evC_region, evC_seq, evC_block, ev_t, ev_k, putS_some, upd_l, putS_none, ops_nil, evC_condC, cond_bool, ops_cons, next_some, nextD_some, then_norm, out_norm, done_ret, putL, getL, Option.bind_some, Option.map_some, evalOp, AV.cells?, readCells, readCell, writeCells, get_app, get_app0, set_app, len_app, List.getElem?_cons_zero, List.getElem?_cons_succ, Option.join_some, List.length_cons, List.length_nil, List.append_assoc, List.cons_append, List.nil_append, Nat.zero_add, Nat.reduceAdd, List.drop_zero, List.drop_succ_cons, List.take_zero, List.take_succ_cons, List.take_nil, List.drop_nil, ↓reduceIte, evalRs, evalR, AV.toV0?, mkRes, V0.toAV, and_self, lst_get, eq_self, finish_app, List.all_cons, List.all_nil, Bool.and_true, Bool.false_eq_true, List.map_cons, List.map_nil, List.append_nil, setAt, CV.ok, List.set_cons_zero, List.set_cons_succ, evC_drawn, dr_nil, dr_cons, chk_nil, chk_cons, re_same, gl, gt, Nat.le_refl, r121, b1, b2, c1, c2, Bool.false_eq_true]
        · rw [h3] at c2
          rw [ev_call c68]; unfold k68; rw [evB_eq rfl]
          simp (maxSteps := 4000000) (disch := first | omega | (refine _root_.id ?_; simp only [pl_int, pl_bool, pl_str, pl_undef, pl_nil, pl_ptr, plA_c, plA_agg, plA_tup, plV_c, plV_agg, List.all_cons, List.all_nil, Bool.and_true, Bool.and_self, eq_self, vi_int, vi_bool, get_app, get_app0, List.getElem?_cons_zero, List.getElem?_cons_succ, Option.join_some, lst_get, getL, upd_at, upd_ne, Nat.reduceBEq])) only [evC_ret, evC_region, evC_seq, evC_block, ev_t, ev_k, putS_some, upd_l, putS_none, ops_nil, evC_condC, cond_bool, ops_cons, next_some, nextD_some, then_norm, then_ret, out_ret, done_ret, putL, getL, Option.bind_some, Option.map_some, evalOp, AV.cells?, readCells, readCell, writeCells, get_app, get_app0, set_app, len_app, List.getElem?_cons_zero, List.getElem?_cons_succ, Option.join_some, List.length_cons, List.length_nil, List.append_assoc, List.cons_append, List.nil_append, Nat.zero_add, Nat.reduceAdd, List.drop_zero, List.drop_succ_cons, List.take_zero, List.take_succ_cons, List.take_nil, List.drop_nil, ↓reduceIte, evalRs, evalR, AV.toV0?, mkRes, V0.toAV, and_self, lst_get, eq_self, finish_app, List.all_cons, List.all_nil, Bool.and_true, Bool.false_eq_true, List.map_cons, List.map_nil, List.append_nil, setAt, CV.ok, List.set_cons_zero, List.set_cons_succ, evC_drawn, dr_nil, dr_cons, chk_nil, chk_cons, re_same, gl, gt, Nat.le_refl, r121, b1, b2, c1, c2, Bool.false_eq_true]
      · rw [h2] at c1
        rw [ev_call c68]; unfold k68; rw [evB_eq rfl]
        simp (maxSteps := 4000000) (disch := first | omega | (refine _root_.id ?_; simp only [pl_int, pl_bool, pl_str, pl_undef, pl_nil, pl_ptr, plA_c, plA_agg, plA_tup, plV_c, plV_agg, List.all_cons, List.all_nil, Bool.and_true, Bool.and_self, eq_self, vi_int, vi_bool, get_app, get_app0, List.getElem?_cons_zero, List.getElem?_cons_succ, Option.join_some, lst_get, getL, upd_at, upd_ne, Nat.reduceBEq])) only [evC_ret, evC_region, evC_seq, evC_block, ev_t, ev_k, putS_some, upd_l, putS_none, ops_nil, evC_condC, cond_bool, ops_cons, next_some, nextD_some, then_norm, then_ret, out_ret, done_ret, putL, getL, Option.bind_some, Option.map_some, evalOp, AV.cells?, readCells, readCell, writeCells, get_app, get_app0, set_app, len_app, List.getElem?_cons_zero, List.getElem?_cons_succ, Option.join_some, List.length_cons, List.length_nil, List.append_assoc, List.cons_append, List.nil_append, Nat.zero_add, Nat.reduceAdd, List.drop_zero, List.drop_succ_cons, List.take_zero, List.take_succ_cons, List.take_nil, List.drop_nil, ↓reduceIte, evalRs, evalR, AV.toV0?, mkRes, V0.toAV, and_self, lst_get, eq_self, finish_app, List.all_cons, List.all_nil, Bool.and_true, Bool.false_eq_true, List.map_cons, List.map_nil, List.append_nil, setAt, CV.ok, List.set_cons_zero, List.set_cons_succ, evC_drawn, dr_nil, dr_cons, chk_nil, chk_cons, re_same, gl, gt, Nat.le_refl, r121, b1, b2, c1, Bool.false_eq_true]
    · simp only [h1] at r121
      rw [ev_call c68]; unfold k68; rw [evB_eq rfl]
      simp (maxSteps := 4000000) (disch := first | omega | (refine _root_.id ?_; simp only [pl_int, pl_bool, pl_str, pl_undef, pl_nil, pl_ptr, plA_c, plA_agg, plA_tup, plV_c, plV_agg, List.all_cons, List.all_nil, Bool.and_true, Bool.and_self, eq_self, vi_int, vi_bool, get_app, get_app0, List.getElem?_cons_zero, List.getElem?_cons_succ, Option.join_some, lst_get, getL, upd_at, upd_ne, Nat.reduceBEq])) only [evC_ret, evC_region, evC_seq, evC_block, ev_t, ev_k, putS_some, upd_l, putS_none, ops_nil, evC_condC, cond_bool, ops_cons, next_some, nextD_some, then_norm, then_ret, out_ret, done_ret, putL, getL, Option.bind_some, Option.map_some, evalOp, AV.cells?, readCells, readCell, writeCells, get_app, get_app0, set_app, len_app, List.getElem?_cons_zero, List.getElem?_cons_succ, Option.join_some, List.length_cons, List.length_nil, List.append_assoc, List.cons_append, List.nil_append, Nat.zero_add, Nat.reduceAdd, List.drop_zero, List.drop_succ_cons, List.take_zero, List.take_succ_cons, List.drop_nil, ↓reduceIte, evalRs, evalR, AV.toV0?, mkRes, V0.toAV, and_self, lst_get, eq_self, finish_app, List.all_cons, List.all_nil, Bool.and_true, List.map_cons, List.map_nil, List.append_nil, setAt, CV.ok, List.set_cons_zero, List.set_cons_succ, evC_drawn, dr_nil, dr_cons, chk_nil, chk_cons, re_same, gl, gt, Nat.le_refl, r121, b1, b2]
def whL (x y : Hf) : Int := if pcR x [y] = 0 then liR x y else 0
theorem pcR_ok {x : Hf} {hs : List Hf} (h : pcR x hs = 0) : okF x = true ∧ hs.all okF = true ∧ x.st = true ∧ hs.all foil = true := by
  unfold pcR at h
  by_cases h1 : (okF x && hs.all okF) = true
  · rw [if_pos h1] at h
    by_cases h2 : (x.st && hs.all foil) = true
    · rw [Bool.and_eq_true] at h1 h2
      exact ⟨h1.1, h1.2, h2.1, h2.2⟩
    · rw [if_neg h2] at h; omega
  · rw [if_neg h1] at h; omega
theorem run25 (hx : HfAt H x) (hy : HfAt H y) : ev kk 25 [.agg (hfr x), .agg (hfr y)] H = some (.tup [.c (.int .i64 (whL x y)), .c (.int .i64 (pcR x [y]))], H) := by
  have r90 := run67 (s := x) (cap := .exact 1) (hs := [y]) (by simp) (hx.app [hfb x, hfb y, hfb y]) (p := some (H.length + 2, 0)) (fun _ => ⟨H.length + 2, 36, .own, rfl, by rw [get_app, hrows_one]; rfl⟩) (fun h hh => by simp at hh; subst hh; exact hy.app _)
  have e1 : [y].length = 1 := rfl
  rw [e1] at r90
  unfold whL
  by_cases h : pcR x [y] = 0
  · obtain ⟨h1, h2, _, _⟩ := pcR_ok h
    have r91 := fun T => run68 (hx.app T) (hy.app T) h1 (by simpa using h2)
    rw [h] at r90
    rw [ev_call c25]; unfold k25; rw [evB_eq rfl]
    simp (maxSteps := 4000000) (disch := first | omega | (refine _root_.id ?_; simp only [pl_int, pl_bool, pl_str, pl_undef, pl_nil, pl_ptr, plA_c, plA_agg, plA_tup, plV_c, plV_agg, List.all_cons, List.all_nil, Bool.and_true, Bool.and_self, eq_self, vi_int, vi_bool, get_app, get_app0, List.getElem?_cons_zero, List.getElem?_cons_succ, Option.join_some, lst_get, getL, upd_at, upd_ne, Nat.reduceBEq])) only [evC_skip, evC_ret, evC_region, evC_seq, ev_t, ev_k, putS_some, upd_l, ops_nil, evC_condC, cond_bool, ops_cons, next_some, then_norm, done_ret, putL, getL, Option.bind_some, Option.map_some, evalOp, AV.cells?, readCells, get_app, get_app0, len_app, List.getElem?_cons_zero, List.getElem?_cons_succ, Option.join_some, List.length_cons, List.length_nil, List.append_assoc, List.cons_append, List.nil_append, Nat.zero_add, Nat.reduceAdd, List.drop_zero, List.drop_succ_cons, List.take_zero, List.take_succ_cons, List.drop_nil, ↓reduceIte, reduceCtorEq, binA, binC, intBin, or_false, or_true, evalRs, evalR, AV.toV0?, mkRes, V0.toAV, and_self, lst_get, eq_self, finish_app, Bool.false_eq_true, List.map_cons, List.map_nil, List.append_nil, setAt, bne_self_eq_false, partsA, fillC, gl, gt, Nat.le_refl, r90, r91, h]
  · have h' : (pcR x [y] != 0) = true := by simpa using h
    rw [ev_call c25]; unfold k25; rw [evB_eq rfl]
    simp (maxSteps := 4000000) (disch := first | omega | (refine _root_.id ?_; simp only [pl_int, pl_bool, pl_str, pl_undef, pl_nil, pl_ptr, plA_c, plA_agg, plA_tup, plV_c, plV_agg, List.all_cons, List.all_nil, Bool.and_true, Bool.and_self, eq_self, vi_int, vi_bool, get_app, get_app0, List.getElem?_cons_zero, List.getElem?_cons_succ, Option.join_some, lst_get, getL, upd_at, upd_ne, Nat.reduceBEq])) only [evC_ret, evC_region, evC_seq, ev_t, ev_k, putS_some, upd_l, ops_nil, evC_condC, cond_bool, ops_cons, next_some, then_norm, then_ret, done_ret, putL, getL, Option.bind_some, Option.map_some, evalOp, AV.cells?, readCells, get_app, get_app0, len_app, List.getElem?_cons_zero, List.getElem?_cons_succ, Option.join_some, List.length_cons, List.length_nil, List.append_assoc, List.cons_append, List.nil_append, Nat.zero_add, Nat.reduceAdd, List.drop_zero, List.drop_succ_cons, List.take_zero, List.take_succ_cons, List.drop_nil, ↓reduceIte, reduceCtorEq, binA, binC, intBin, or_false, or_true, evalRs, evalR, AV.toV0?, mkRes, V0.toAV, and_self, lst_get, eq_self, finish_app, List.map_cons, List.map_nil, List.append_nil, setAt, partsA, fillC, gl, gt, Nat.le_refl, r90, h', h]
end
end Go.Proofs.Ytnblibimbggheaa
