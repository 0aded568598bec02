/- What functions of the program answer: part Inspect. -/
import Derived.Test.YtnblibimbggheaaMarks
import Derived.Test.YtnblibimbggheaaSums
set_option linter.unusedVariables false
set_option linter.unusedSimpArgs false
set_option linter.unusedSectionVars false
namespace Go.Proofs.Ytnblibimbggheaa
open Go Go.Proofs.Ytnblibimbggheaa.VI
set_option maxHeartbeats 16000000
set_option maxRecDepth 20000
/-! Marks on notches -/
theorem nset1 {xs : List Nt} {i : Nat} {v : Int} (hi : i < xs.length) : List.take (i * 2) (nrows xs) ++ CV.int .i8 v :: List.drop (i * 2 + 1) (nrows xs) = nrows (xs.set i ⟨v, (xs[i]'hi).a⟩) := by
  induction xs generalizing i with
  | nil => simp at hi
  | cons y ys ih =>
    cases i with
    | zero => simp [nrows]
    | succ i =>
      have := ih (i := i) (by simpa using hi)
      have e : (i + 1) * 2 = i * 2 + 1 + 1 := by omega
      simp only [nrows, nrow, List.map_cons, List.flatten_cons, List.cons_append, List.nil_append, e, List.take_succ_cons, List.drop_succ_cons, List.set_cons_succ, List.getElem_cons_succ] at this ⊢
      rw [this]
def inC (x y : Hf) (w : Int) : Int := if pcR x [y] = 0 then if 0 ≤ w ∧ w ≤ 16 then 0 else 2 else pcR x [y]
def inV (x y : Hf) (w : Int) : List CV := if inC x y w = 0 then [.bool (ftB x y w), .int .i8 (IntKind.i8.wrap (liR x y)), .int .i64 (sumN x.xs), .int .i64 (sumN y.xs)] else [.bool false, .int .i8 0, .int .i64 0, .int .i64 0]
def inW (x y : Hf) (w : Int) : List Int := if inC x y w = 0 then wr x.g y.g 0 16 else []
abbrev vz : List CV := [.bool false, .int .i8 0, .int .i64 0, .int .i64 0, .slice none 0 (.exact 0)]
theorem run29 {x y : Hf} {w : Int} {H : AHeap} (hx : HfAt H x) (hy : HfAt H y) : ∃ T c, ev kk 29 [.agg (hfr x), .agg (hfr y), .c (.int .i64 w)] H = some (.tup [.agg (inV x y w ++ [c]), .c (.int .i64 (inC x y w))], H ++ T) ∧ Lay H T (inW x y w) c := by
  have i1 : ∀ T, AHeap.get (H ++ hfb x :: hfb y :: T) H.length = hfb x := fun T => by rw [get_app0]; rfl
  have i2 : ∀ T, AHeap.get (H ++ hfb x :: hfb y :: T) (H.length + 1) = hfb y := fun T => by rw [get_app]; rfl
  have r88 := run74 (hx.app [hfb x, hfb y, some ⟨54, vz, .own⟩]) (hy.app _) (i1 _) (i2 _)
  by_cases h0 : pcR x [y] = 0
  · by_cases hw : 0 ≤ w ∧ w ≤ 16
    · have hC : inC x y w = 0 := by unfold inC; rw [if_pos h0, if_pos hw]
      obtain ⟨ox, oy, _, _⟩ := pcR_ok h0
      have oy : okF y = true := by simpa using oy
      have r93 := run76 (hx.app [hfb x, hfb y, some ⟨54, vz, .own⟩]) (hy.app _) w (i1 _) (i2 _) (off := 0) rfl (by show List.take 16 (grow y.g) = _; exact gt) (by show 0 + 2 + 16 ≤ (hfr y).length; rw [hfr_len]; omega)
      have r89 := run77 (hx.app [hfb x, hfb y, some ⟨54, vz, .own⟩]) (hy.app _) ox oy (i1 _) (i2 _)
      have s1 := run51 ox (hx.app [hfb x, hfb y, some ⟨54, vz, .own⟩])
      have s2 := run51 oy (hy.app [hfb x, hfb y, some ⟨54, vz, .own⟩])
      obtain ⟨T, c, r84, ho⟩ := run78 x.g16 y.g16 (H ++ [hfb x, hfb y, some ⟨54, vz, .own⟩])
      obtain ⟨q, cap, hc⟩ := OutS.isC ho
      injection hc with hc; subst hc
      rw [h0] at r88
      simp only [List.append_assoc, List.cons_append, List.nil_append] at r84
      refine ⟨hfb x :: hfb y :: some ⟨54, inV x y w ++ [.slice q (ws x.g y.g).length cap], .own⟩ :: T, .slice q (ws x.g y.g).length cap, ?_, ?_⟩
      · have hV : inV x y w = [.bool (ftB x y w), .int .i8 (IntKind.i8.wrap (liR x y)), .int .i64 (sumN x.xs), .int .i64 (sumN y.xs)] := by unfold inV; rw [if_pos hC]
        rw [hV, hC]
        rw [ev_call c29]; unfold k29; rw [evB_eq rfl]
        simp (maxSteps := 4000000) (disch := first | omega | (refine _root_.id ?_; simp only [pl_int, pl_bool, pl_str, pl_undef, pl_nil, pl_ptr, plA_c, plA_agg, plA_tup, plV_c, plV_agg, List.all_cons, List.all_nil, Bool.and_true, Bool.and_self, eq_self, vi_int, vi_bool, get_app, get_app0, List.getElem?_cons_zero, List.getElem?_cons_succ, Option.join_some, lst_get, getL, upd_at, upd_ne, Nat.reduceBEq])) only [evC_skip, evC_ret, evC_region, evC_seq, ev_t, ev_k, putS_some, upd_l, putS_none, ops_nil, ops_consg, guard_bool, evC_condC, cond_bool, ops_cons, next_some, nextD_some, then_norm, done_ret, putL, getL, Option.bind_some, Option.map_some, evalOp, AV.cells?, readCells, readCell, writeCells, get_app, set_app, len_app, List.getElem?_cons_zero, List.getElem?_cons_succ, Option.join_some, List.length_cons, List.length_nil, List.append_assoc, List.cons_append, List.nil_append, Nat.zero_add, Nat.reduceAdd, Nat.reduceLeDiff, List.drop_zero, List.drop_succ_cons, List.take_zero, List.take_succ_cons, List.take_nil, List.drop_nil, ↓reduceIte, reduceCtorEq, binA, binC, intBin, or_false, or_true, evalRs, evalR, AV.toV0?, mkRes, V0.toAV, decide_true, and_self, lst_get, eq_self, List.all_cons, List.all_nil, Bool.and_true, beq_self_eq_true, Bool.not_true, Bool.false_eq_true, List.map_cons, List.map_nil, List.append_nil, setAt, CV.ok, bne_self_eq_false, List.set_cons_zero, List.set_cons_succ, evC_drawn, dr_nil, dr_cons, chk_nil, chk_cons, re_same, unA, partsA, fillC, finish_no, r88, run75, hw, i1, i2, gl, gt, Nat.le_refl, r93, r89, s1, s2, r84]
      · have : inW x y w = wr x.g y.g 0 16 := by unfold inW; rw [if_pos hC]
        rw [this]
        rw [len_app] at ho
        exact OutS.shift (pre := [hfb x, hfb y, some ⟨54, inV x y w ++ [.slice q (ws x.g y.g).length cap], .own⟩]) ho
    · have hC : inC x y w = 2 := by unfold inC; rw [if_pos h0, if_neg hw]
      have hV : inV x y w = [.bool false, .int .i8 0, .int .i64 0, .int .i64 0] := by unfold inV; rw [hC]; rfl
      have hW : inW x y w = [] := by unfold inW; rw [hC]; rfl
      rw [h0] at r88
      refine ⟨[hfb x, hfb y, some ⟨54, vz, .own⟩], .slice none 0 (.exact 0), ?_, by rw [hW]; exact .inl ⟨rfl, rfl, none, rfl⟩⟩
      rw [hV, hC]
      rw [ev_call c29]; unfold k29; rw [evB_eq rfl]
      simp (maxSteps := 4000000) (disch := first | omega | (refine _root_.id ?_; simp only [pl_int, pl_bool, pl_str, pl_undef, pl_nil, pl_ptr, plA_c, plA_agg, plA_tup, plV_c, plV_agg, List.all_cons, List.all_nil, Bool.and_true, Bool.and_self, eq_self, vi_int, vi_bool, get_app, get_app0, List.getElem?_cons_zero, List.getElem?_cons_succ, Option.join_some, lst_get, getL, upd_at, upd_ne, Nat.reduceBEq])) only [evC_ret, evC_region, evC_seq, ev_t, ev_k, putS_some, upd_l, putS_none, ops_nil, ops_consg, guard_bool, evC_condC, cond_bool, ops_cons, next_some, then_norm, then_ret, done_ret, putL, getL, Option.bind_some, Option.map_some, evalOp, AV.cells?, readCells, writeCells, get_app, set_app, len_app, List.getElem?_cons_zero, List.getElem?_cons_succ, Option.join_some, List.length_cons, List.length_nil, List.append_assoc, List.cons_append, List.nil_append, Nat.zero_add, Nat.reduceAdd, Nat.reduceLeDiff, List.drop_zero, List.drop_succ_cons, List.take_zero, List.take_succ_cons, List.take_nil, List.drop_nil, ↓reduceIte, reduceCtorEq, binA, binC, intBin, or_false, or_true, evalRs, evalR, AV.toV0?, mkRes, V0.toAV, decide_false, and_self, lst_get, eq_self, List.all_cons, List.all_nil, Bool.and_true, beq_self_eq_true, Bool.not_false, List.map_cons, List.map_nil, List.append_nil, setAt, CV.ok, List.set_cons_zero, List.set_cons_succ, unA, partsA, fillC, finish_no, Int.reduceBNe, r88, run75, hw]
  · have hC : inC x y w = pcR x [y] := by unfold inC; rw [if_neg h0]
    have hV : inV x y w = [.bool false, .int .i8 0, .int .i64 0, .int .i64 0] := by unfold inV; rw [hC, if_neg h0]
    have hW : inW x y w = [] := by unfold inW; rw [hC, if_neg h0]
    have h1 : (pcR x [y] == 0) = false := by simpa using h0
    have h2 : (pcR x [y] != 0) = true := by simpa using h0
    refine ⟨[hfb x, hfb y, some ⟨54, vz, .own⟩], .slice none 0 (.exact 0), ?_, by rw [hW]; exact .inl ⟨rfl, rfl, none, rfl⟩⟩
    rw [hV, hC]
    rw [ev_call c29]; unfold k29; rw [evB_eq rfl]
    simp (maxSteps := 4000000) (disch := first | omega | (refine _root_.id ?_; simp only [pl_int, pl_bool, pl_str, pl_undef, pl_nil, pl_ptr, plA_c, plA_agg, plA_tup, plV_c, plV_agg, List.all_cons, List.all_nil, Bool.and_true, Bool.and_self, eq_self, vi_int, vi_bool, get_app, get_app0, List.getElem?_cons_zero, List.getElem?_cons_succ, Option.join_some, lst_get, getL, upd_at, upd_ne, Nat.reduceBEq])) only [evC_skip, evC_ret, evC_region, evC_seq, ev_t, ev_k, putS_some, upd_l, putS_none, ops_nil, ops_consg, guard_bool, evC_condC, cond_bool, ops_cons, next_some, then_norm, then_ret, done_ret, putL, getL, Option.bind_some, Option.map_some, evalOp, AV.cells?, readCells, writeCells, get_app, set_app, len_app, List.getElem?_cons_zero, List.getElem?_cons_succ, Option.join_some, List.length_cons, List.length_nil, List.append_assoc, List.cons_append, List.nil_append, Nat.zero_add, Nat.reduceAdd, Nat.reduceLeDiff, List.drop_zero, List.drop_succ_cons, List.take_zero, List.take_succ_cons, List.take_nil, List.drop_nil, ↓reduceIte, reduceCtorEq, binA, binC, intBin, or_false, or_true, evalRs, evalR, AV.toV0?, mkRes, V0.toAV, and_self, lst_get, eq_self, List.all_cons, List.all_nil, Bool.and_true, Bool.not_true, Bool.false_eq_true, List.map_cons, List.map_nil, List.append_nil, setAt, CV.ok, List.set_cons_zero, List.set_cons_succ, partsA, fillC, finish_no, r88, h1, h2]
theorem run27 {x y : Hf} {w : Int} {H : AHeap} (hx : HfAt H x) (hy : HfAt H y) : ∃ T c, ev kk 27 [.agg (hfr x), .agg (hfr y), .c (.int .i64 w)] H = some (.tup [.agg (inV x y w ++ [c]), .c (.int .i64 (inC x y w))], H ++ T) ∧ Lay H T (inW x y w) c := by
  have r90 := run67 (s := x) (cap := .exact 1) (hs := [y]) (by simp) (hx.app [hfb x, hfb y, some ⟨54, vz, .own⟩, hfb y]) (p := some (H.length + 3, 0)) (fun _ => ⟨H.length + 3, 36, .own, rfl, by rw [get_app, hrows_one]; rfl⟩) (fun h hh => by simp at hh; subst hh; exact hy.app _)
  have e1 : [y].length = 1 := rfl
  rw [e1] at r90
  by_cases h0 : pcR x [y] = 0
  · by_cases hw : 0 ≤ w ∧ w ≤ 16
    · have hC : inC x y w = 0 := by unfold inC; rw [if_pos h0, if_pos hw]
      obtain ⟨ox, oy, _, _⟩ := pcR_ok h0
      have oy : okF y = true := by simpa using oy
      have r95 := run70 (hx.app [hfb x, hfb y, some ⟨54, vz, .own⟩, hfb y]) (hy.app _) w
      have r91 := run68 (hx.app [hfb x, hfb y, some ⟨54, vz, .own⟩, hfb y]) (hy.app _) ox oy
      have s1 := run54 ox (hx.app [hfb x, hfb y, some ⟨54, vz, .own⟩, hfb y])
      have s2 := run54 oy (hy.app [hfb x, hfb y, some ⟨54, vz, .own⟩, hfb y])
      obtain ⟨T, c, r83, ho⟩ := run71 x.g16 y.g16 (H ++ [hfb x, hfb y, some ⟨54, vz, .own⟩, hfb y])
      obtain ⟨q, cap, hc⟩ := OutS.isC ho
      injection hc with hc; subst hc
      rw [h0] at r90
      simp only [List.append_assoc, List.cons_append, List.nil_append] at r83
      refine ⟨hfb x :: hfb y :: some ⟨54, inV x y w ++ [.slice q (ws x.g y.g).length cap], .own⟩ :: hfb y :: T, .slice q (ws x.g y.g).length cap, ?_, ?_⟩
      · have hV : inV x y w = [.bool (ftB x y w), .int .i8 (IntKind.i8.wrap (liR x y)), .int .i64 (sumN x.xs), .int .i64 (sumN y.xs)] := by unfold inV; rw [if_pos hC]
        rw [hV, hC]
        rw [ev_call c27]; unfold k27; rw [evB_eq rfl]
        simp (maxSteps := 4000000) (disch := first | omega | (refine _root_.id ?_; simp only [pl_int, pl_bool, pl_str, pl_undef, pl_nil, pl_ptr, plA_c, plA_agg, plA_tup, plV_c, plV_agg, List.all_cons, List.all_nil, Bool.and_true, Bool.and_self, eq_self, vi_int, vi_bool, get_app, get_app0, List.getElem?_cons_zero, List.getElem?_cons_succ, Option.join_some, lst_get, getL, upd_at, upd_ne, Nat.reduceBEq])) only [evC_skip, evC_ret, evC_region, evC_seq, ev_t, ev_k, putS_some, upd_l, putS_none, ops_nil, evC_condC, cond_bool, ops_cons, next_some, nextD_some, then_norm, done_ret, putL, getL, Option.bind_some, Option.map_some, evalOp, AV.cells?, readCells, writeCells, get_app, get_app0, set_app, len_app, List.getElem?_cons_zero, List.getElem?_cons_succ, Option.join_some, List.length_cons, List.length_nil, List.append_assoc, List.cons_append, List.nil_append, Nat.zero_add, Nat.reduceAdd, Nat.reduceLeDiff, List.drop_zero, List.drop_succ_cons, List.take_zero, List.take_succ_cons, List.take_nil, List.drop_nil, ↓reduceIte, reduceCtorEq, binA, binC, intBin, or_false, or_true, evalRs, evalR, AV.toV0?, mkRes, V0.toAV, decide_true, and_self, lst_get, eq_self, List.all_cons, List.all_nil, Bool.and_true, Bool.not_true, Bool.false_eq_true, List.map_cons, List.map_nil, List.append_nil, setAt, CV.ok, bne_self_eq_false, List.set_cons_zero, List.set_cons_succ, evC_drawn, dr_nil, dr_cons, chk_nil, chk_cons, re_same, unA, partsA, fillC, finish_no, r90, run69, hw, gl, gt, Nat.le_refl, r95, r91, s1, s2, r83]
      · have : inW x y w = wr x.g y.g 0 16 := by unfold inW; rw [if_pos hC]
        rw [this]
        rw [len_app] at ho
        exact OutS.shift (pre := [hfb x, hfb y, some ⟨54, inV x y w ++ [.slice q (ws x.g y.g).length cap], .own⟩, hfb y]) ho
    · have hC : inC x y w = 2 := by unfold inC; rw [if_pos h0, if_neg hw]
      have hV : inV x y w = [.bool false, .int .i8 0, .int .i64 0, .int .i64 0] := by unfold inV; rw [hC]; rfl
      have hW : inW x y w = [] := by unfold inW; rw [hC]; rfl
      rw [h0] at r90
      refine ⟨[hfb x, hfb y, some ⟨54, vz, .own⟩, hfb y], .slice none 0 (.exact 0), ?_, by rw [hW]; exact .inl ⟨rfl, rfl, none, rfl⟩⟩
      rw [hV, hC]
      rw [ev_call c27]; unfold k27; rw [evB_eq rfl]
      simp (maxSteps := 4000000) (disch := first | omega | (refine _root_.id ?_; simp only [pl_int, pl_bool, pl_str, pl_undef, pl_nil, pl_ptr, plA_c, plA_agg, plA_tup, plV_c, plV_agg, List.all_cons, List.all_nil, Bool.and_true, Bool.and_self, eq_self, vi_int, vi_bool, get_app, get_app0, List.getElem?_cons_zero, List.getElem?_cons_succ, Option.join_some, lst_get, getL, upd_at, upd_ne, Nat.reduceBEq])) only [evC_skip, evC_ret, evC_region, evC_seq, ev_t, ev_k, putS_some, upd_l, putS_none, ops_nil, evC_condC, cond_bool, ops_cons, next_some, then_norm, then_ret, done_ret, putL, getL, Option.bind_some, Option.map_some, evalOp, AV.cells?, readCells, writeCells, get_app, get_app0, set_app, len_app, List.getElem?_cons_zero, List.getElem?_cons_succ, Option.join_some, List.length_cons, List.length_nil, List.append_assoc, List.cons_append, List.nil_append, Nat.zero_add, Nat.reduceAdd, List.drop_zero, List.drop_succ_cons, List.take_zero, List.take_succ_cons, List.take_nil, List.drop_nil, ↓reduceIte, reduceCtorEq, binA, binC, intBin, or_false, or_true, evalRs, evalR, AV.toV0?, mkRes, V0.toAV, decide_false, and_self, lst_get, eq_self, List.all_cons, List.all_nil, Bool.and_true, Bool.not_false, Bool.false_eq_true, List.map_cons, List.map_nil, List.append_nil, setAt, CV.ok, bne_self_eq_false, List.set_cons_zero, List.set_cons_succ, unA, partsA, fillC, finish_no, r90, run69, hw, gl, gt, Nat.le_refl]
  · have hC : inC x y w = pcR x [y] := by unfold inC; rw [if_neg h0]
    have hV : inV x y w = [.bool false, .int .i8 0, .int .i64 0, .int .i64 0] := by unfold inV; rw [hC, if_neg h0]
    have hW : inW x y w = [] := by unfold inW; rw [hC, if_neg h0]
    have h1 : (pcR x [y] == 0) = false := by simpa using h0
    have h2 : (pcR x [y] != 0) = true := by simpa using h0
    refine ⟨[hfb x, hfb y, some ⟨54, vz, .own⟩, hfb y], .slice none 0 (.exact 0), ?_, by rw [hW]; exact .inl ⟨rfl, rfl, none, rfl⟩⟩
    rw [hV, hC]
    rw [ev_call c27]; unfold k27; rw [evB_eq rfl]
    simp (maxSteps := 4000000) (disch := first | omega | (refine _root_.id ?_; simp only [pl_int, pl_bool, pl_str, pl_undef, pl_nil, pl_ptr, plA_c, plA_agg, plA_tup, plV_c, plV_agg, List.all_cons, List.all_nil, Bool.and_true, Bool.and_self, eq_self, vi_int, vi_bool, get_app, get_app0, List.getElem?_cons_zero, List.getElem?_cons_succ, Option.join_some, lst_get, getL, upd_at, upd_ne, Nat.reduceBEq])) only [evC_ret, evC_region, evC_seq, ev_t, ev_k, putS_some, upd_l, putS_none, ops_nil, evC_condC, cond_bool, ops_cons, next_some, then_norm, then_ret, done_ret, putL, getL, Option.bind_some, Option.map_some, evalOp, AV.cells?, readCells, writeCells, get_app, get_app0, set_app, len_app, List.getElem?_cons_zero, List.getElem?_cons_succ, Option.join_some, List.length_cons, List.length_nil, List.append_assoc, List.cons_append, List.nil_append, Nat.zero_add, Nat.reduceAdd, List.drop_zero, List.drop_succ_cons, List.take_zero, List.take_succ_cons, List.take_nil, List.drop_nil, ↓reduceIte, reduceCtorEq, binA, binC, intBin, or_false, or_true, evalRs, evalR, AV.toV0?, mkRes, V0.toAV, and_self, lst_get, eq_self, List.all_cons, List.all_nil, Bool.and_true, List.map_cons, List.map_nil, List.append_nil, setAt, CV.ok, List.set_cons_zero, List.set_cons_succ, partsA, fillC, finish_no, r90, h2, gl, gt, Nat.le_refl]
/-! Verdicts -/
section
variable {f : Bool} {l a o : Int} {K K' T T' U U' J : List (Option Blk)} {xs : List Int} {c c' : CV}
end
end Go.Proofs.Ytnblibimbggheaa
