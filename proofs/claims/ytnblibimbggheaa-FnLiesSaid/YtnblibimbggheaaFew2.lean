/- What functions of the program answer: parts Few2 Few3. -/
import Derived.Test.YtnblibimbggheaaLeast3
import Derived.Test.YtnblibimbggheaaTmL
import Derived.Test.YtnblibimbggheaaWay
import Derived.Test.YtnblibimbggheaaTam2
import Derived.Test.YtnblibimbggheaaLawG
/- What functions of the program answer: part Few2. -/
set_option linter.unusedVariables false
set_option linter.unusedSimpArgs false
set_option linter.unusedSectionVars false
namespace Go.Proofs.Ytnblibimbggheaa
open Go Go.Proofs.Ytnblibimbggheaa.VI
set_option maxHeartbeats 16000000
set_option maxRecDepth 20000
theorem run24 {h : Hf} {H : AHeap} (hh : HfAt H h) (ok : okF h = true) : ev kk 24 [.agg (hfr h)] H = some (.tup [.c (.int .i64 (sumN h.xs)), .c (.int .i64 0)], H) := by
  have hA := hh.app [hfb h]
  have r57 := v66 hA (by rw [get_app0]; rfl)
  rw [ok] at r57
  have s1 := run51 ok hA
  have hR1 : (hfr h)[1]? = some (.slice h.p h.xs.length h.cap) := rfl
  rw [ev_call c24]; unfold k24; rw [evB_eq rfl]
  obtain ⟨R, hR⟩ : ∃ R, R = hfr h := ⟨_, rfl⟩
  simp only [hfb, ← hR] at r57 s1 hR1 ⊢
  simp (maxSteps := 4000000) (disch := first | omega | (refine _root_.id ?_; simp only [pl_int, pl_bool, pl_str, pl_undef, pl_nil, pl_ptr, plA_c, plA_agg, plA_tup, plV_c, plV_agg, List.all_cons, List.all_nil, Bool.and_true, Bool.and_self, eq_self, vi_int, vi_bool, get_app, get_app0, List.getElem?_cons_zero, List.getElem?_cons_succ, Option.join_some, lst_get, getL, upd_at, upd_ne, Nat.reduceBEq])) only [evC_skip, evC_ret, evC_region, evC_seq, ev_t, ev_k, putS_some, upd_l, ops_nil, evC_condC, cond_bool, ops_cons, next_some, then_norm, done_ret, putL, getL, Option.bind_some, Option.map_some, evalOp, AV.cells?, readCell, get_app0, List.getElem?_cons_zero, Option.join_some, Nat.zero_add, ↓reduceIte, evalRs, evalR, AV.toV0?, mkRes, V0.toAV, lst_get, eq_self, finish_app, Bool.not_true, Bool.false_eq_true, List.map_cons, List.map_nil, List.append_nil, unA, r57, hR1, s1]
end Go.Proofs.Ytnblibimbggheaa

/- What functions of the program answer: part Few3. -/
set_option linter.unusedVariables false
set_option linter.unusedSimpArgs false
set_option linter.unusedSectionVars false
namespace Go.Proofs.Ytnblibimbggheaa
open Go Go.Proofs.Ytnblibimbggheaa.VI
set_option maxHeartbeats 16000000
set_option maxRecDepth 20000
theorem run21 {H : AHeap} {p : Option (Nat × Nat)} {n : Nat} {c : Cap} : ev kk 21 [.c (.slice p n c)] H = some (.c (.bool (decide ((4096 : Int) < n))), H) := by
  rw [ev_call c21]; unfold k21; rw [evB_eq rfl]
  simp only [evC_ret, evC_region, evC_seq, ev_t, ev_k, putS_some, upd_l, ops_nil, ops_cons, next_some, then_norm, done_ret, putL, getL, Option.bind_some, Option.map_some, evalOp, ↓reduceIte, reduceCtorEq, binA, binC, intBin, or_false, or_true, evalRs, evalR, AV.toV0?, mkRes, V0.toAV, lst_get, eq_self, finish_id, pl_bool, plA_c]
end Go.Proofs.Ytnblibimbggheaa
