/- What functions of the program answer: part Few3. -/
import Derived.Test.YtnblibimbggheaaFew2
import Derived.Test.YtnblibimbggheaaLawG
set_option linter.unusedVariables false
set_option linter.unusedSimpArgs false
set_option linter.unusedSectionVars false
namespace Go.Proofs.Ytnblibimbggheaa
open Go Go.Proofs.Ytnblibimbggheaa.VI
set_option maxHeartbeats 16000000
set_option maxRecDepth 20000
theorem run21 {H : AHeap} {p : Option (Nat × Nat)} {n : Nat} {c : Cap} : ev kk 21 [.c (.slice p n c)] H = some (.c (.bool (decide ((4096 : Int) < n))), H) := by
  rw [ev_call c21]; unfold k21; rw [evB_eq rfl]
  simp only [evC_ret, evC_region, evC_seq, ev_t, ev_k, putS_some, upd_l, ops_nil, ops_cons, next_some, then_norm, done_ret, putL, getL, Option.bind_some, Option.map_some, evalOp, ↓reduceIte, reduceCtorEq, binA, binC, intBin, or_false, or_true, evalRs, evalR, AV.toV0?, mkRes, V0.toAV, lst_get, eq_self, finish_id, pl_bool, plA_c]
theorem run10 {c d : CV} {l l' : List Int} {H : AHeap} (hc : Bts H c l) (hl : ∀ x ∈ l, 0 ≤ x ∧ x ≤ 255) (hd : Bts H d l') (hl' : ∀ x ∈ l', 0 ≤ x ∧ x ≤ 255) : ev kk 10 [.c c, .c d] H = some (.c (.bool true), H) := by
  obtain ⟨pc, cc, ec⟩ := hc.shape
  obtain ⟨pd, cd, ed⟩ := hd.shape
  have r1 := run21 (H := H) (p := pc) (n := l.length) (c := cc)
  have r2 := run21 (H := H) (p := pd) (n := l'.length) (c := cd)
  rw [← ec] at r1
  rw [← ed] at r2
  by_cases h1 : (4096 : Int) < l.length
  · rw [ev_call c10]; unfold k10; rw [evB_eq rfl]
    simp (maxSteps := 4000000) (disch := first | omega | (refine _root_.id ?_; simp only [pl_int, pl_bool, pl_str, pl_undef, pl_nil, pl_ptr, plA_c, plA_agg, plA_tup, plV_c, plV_agg, List.all_cons, List.all_nil, Bool.and_true, Bool.and_self, eq_self, vi_int, vi_bool, get_app, get_app0, List.getElem?_cons_zero, List.getElem?_cons_succ, Option.join_some, lst_get, getL, upd_at, upd_ne, Nat.reduceBEq])) only [evC_ret, evC_region, evC_seq, ev_t, ev_k, putS_some, upd_l, ops_nil, ops_consg, guard_bool, evC_condC, cond_bool, ops_cons, next_some, then_norm, then_ret, done_ret, putL, getL, Option.bind_some, Option.map_some, evalOp, ↓reduceIte, evalRs, evalR, AV.toV0?, mkRes, V0.toAV, decide_true, lst_get, eq_self, finish_id, Bool.not_false, Bool.true_eq_false, List.map_cons, List.map_nil, List.append_nil, r1, h1]
  by_cases h2 : (4096 : Int) < l'.length
  · rw [ev_call c10]; unfold k10; rw [evB_eq rfl]
    simp (maxSteps := 4000000) (disch := first | omega | (refine _root_.id ?_; simp only [pl_int, pl_bool, pl_str, pl_undef, pl_nil, pl_ptr, plA_c, plA_agg, plA_tup, plV_c, plV_agg, List.all_cons, List.all_nil, Bool.and_true, Bool.and_self, eq_self, vi_int, vi_bool, get_app, get_app0, List.getElem?_cons_zero, List.getElem?_cons_succ, Option.join_some, lst_get, getL, upd_at, upd_ne, Nat.reduceBEq])) only [evC_ret, evC_region, evC_seq, ev_t, ev_k, putS_some, upd_l, ops_nil, ops_consg, guard_bool, evC_condC, cond_bool, ops_cons, next_some, then_norm, then_ret, done_ret, putL, getL, Option.bind_some, Option.map_some, evalOp, ↓reduceIte, evalRs, evalR, AV.toV0?, mkRes, V0.toAV, decide_true, decide_false, lst_get, eq_self, finish_id, Bool.false_eq_true, List.map_cons, List.map_nil, List.append_nil, r1, r2, h1, h2]
  obtain ⟨x, T, x5, okx, hx, e22⟩ := run22 hc hl
  obtain ⟨K1, hK1⟩ : ∃ K, K = H ++ T ++ [hfb x] := ⟨_, rfl⟩
  obtain ⟨H1, hH1⟩ : ∃ K, K = H ++ T := ⟨_, rfl⟩
  rw [← hH1] at e22 hx hK1
  have pH1 : Pre H H1 := by rw [hH1]; exact pre_app
  have p1 : Pre H1 K1 := by rw [hK1]; exact pre_app
  have g1 : K1.get H1.length = hfb x := by rw [hK1, get_app0]; rfl
  have lg1 := get_some_lt g1
  have r24 := run24 (hx.pre p1) okx
  have okp : okP x.pr = true := okx
  have lt0 := ltR_e (p := x.pr) okp (amt_ok (p := x.pr) okp) rfl
  obtain ⟨c0, J1, e47, q1, n1⟩ := run47 (a := sumN x.xs) (m := 2) (hx.pre p1)
  rw [show sumN x.xs = sumN x.pr.xs from rfl, lt0] at e47 n1
  obtain ⟨p0, cap0, ec0, _⟩ := n1
  obtain ⟨K2, hK2⟩ : ∃ K, K = J1 ++ [hfb x] := ⟨_, rfl⟩
  have p2 : Pre J1 K2 := by rw [hK2]; exact pre_app
  have g2 : K2.get J1.length = hfb x := by rw [hK2, get_app0]; rfl
  have g1J := q1.get g1
  have lJ1 := get_some_lt g1J
  have pHJ : Pre H J1 := pH1.trans (p1.trans q1)
  have L := fun σ => loop10 okp (b := J1.length) (G := J1) (Nat.le_refl _) (hd.gen.pre pHJ) hl' (by omega) 2 0 (by omega) x 0 (Nat.le_refl _) rfl K2 p2 (hx.pre (p1.trans (q1.trans p2))) g2 σ
  have hlx := hfr_len x
  have htx := hfr_t (h := x)
  have hox := hfr_ok (h := x)
  subst hK1; subst hK2
  obtain ⟨R, hR⟩ : ∃ R, R = hfr x := ⟨_, rfl⟩
  subst ec0
  simp only [hfb, ← hR, List.length_nil] at e22 r24 e47 g1 g2 g1J L hlx htx hox ⊢
  rw [ev_call c10]; unfold k10; rw [evB_eq rfl]
  simp (maxSteps := 4000000) (disch := first | omega | (refine _root_.id ?_; simp only [pl_int, pl_bool, pl_str, pl_undef, pl_nil, pl_ptr, plA_c, plA_agg, plA_tup, plV_c, plV_agg, List.all_cons, List.all_nil, Bool.and_true, Bool.and_self, eq_self, vi_int, vi_bool, get_app, get_app0, List.getElem?_cons_zero, List.getElem?_cons_succ, Option.join_some, lst_get, getL, upd_at, upd_ne, Nat.reduceBEq])) only [evC_skip, evC_region, evC_seq, evC_block, ev_t, ev_k, putS_some, upd_l, putS_none, ops_nil, ops_consg, guard_bool, evC_condC, cond_bool, ops_cons, next_some, then_norm, putL, getL, Option.map_some, evalOp, AV.cells?, readCells, writeCells, get_app0, set_app0, List.getElem?_cons_zero, List.getElem?_cons_succ, Option.join_some, List.length_cons, List.length_nil, List.nil_append, Nat.zero_add, Nat.reduceAdd, List.drop_zero, List.drop_succ_cons, List.take_zero, List.drop_nil, ↓reduceIte, reduceCtorEq, binA, binC, intBin, or_false, or_true, V0.toAV, decide_false, and_self, lst_get, Int.cast_ofNat_Int, eq_self, Bool.false_eq_true, List.map_cons, List.map_nil, List.append_nil, setAt, bne_self_eq_false, List.set_cons_zero, r1, r2, h1, h2, e22, hlx, htx, hox, Nat.le_refl, r24, e47, g1J]
  obtain ⟨_, σ', J2, eL, rfl, q2, y, n, hn, hch, gy, hy, s10, s11, s5⟩ := L (lst [.c c, .c d, .c .undef, .c .undef, .c (.bool false), .c (.ptr (some (H1.length, 0))), .c (.int .i64 (sumN x.xs)), .c (.int .i64 0), .c (.slice p0 0 cap0), .c (.int .i64 0), .c (.ptr (some (J1.length, 0))), .c (.int .i64 0), .c (.int .u8 0), .c .undef, .c .undef, .c .undef, .c .undef, .c .undef, .c .undef, .c .undef, .c .undef, .c .undef, .c .undef, .c .undef, .c .undef, .c .undef, .c .undef, .c .undef, .c c, .c (.bool false), .c (.bool false), .c d, .c (.bool false), .c (.bool false), .c c, .agg R, .tup [.c (.int .i64 (sumN x.xs)), .c (.int .i64 0)], .agg R, .tup [.c (.int .i64 (sumN x.xs)), .c (.int .i64 0)], .c (.int .i64 (sumN x.xs)), .c (.int .i64 0), .tup [.c (.slice p0 0 cap0), .c (.int .i64 0)], .agg R, .c (.int .i64 (sumN x.xs)), .tup [.c (.slice p0 0 cap0), .c (.int .i64 0)], .c (.slice p0 0 cap0), .c (.int .i64 0), .c (.int .i64 0), .c (.bool false), .c (.bool false), .c (.int .i64 0), .c (.bool false), .c (.bool false), .c (.bool false), .c (.slice p0 0 cap0), .c (.int .i64 0), .c (.bool false), .c (.bool false), .agg R]) rfl rfl rfl rfl
  rw [eL]
  clear L eL
  have s5 : σ' 5 = .c (.ptr (some (H1.length, 0))) := s5
  have oky : okF y = true := chn_ok okp hch
  obtain ⟨ts, hlt, hf1, hf2, r, hf3, okr, hsr⟩ := lt_found okp hn hch
  rw [show sumN y.pr.xs = sumN y.xs from rfl] at hlt hsr
  have e24 := run24 hy oky
  have gx2 := q2.get g1J
  obtain ⟨c3, J3, e3, q3, n3⟩ := run47 (a := sumN y.xs) (m := 2) (hx.pre (p1.trans (q1.trans q2)))
  rw [hlt] at e3 n3
  have gx3 := q3.get gx2
  obtain ⟨c4, J4, e4, q4, n4⟩ := run46 (a := sumN y.xs) (m := 2) (hx.pre (p1.trans (q1.trans (q2.trans q3))))
  rw [hlt] at e4 n4
  dsimp only at n3 n4 e3 e4
  have gx4 := q4.get gx3
  have e48 := sameTs (by omega) (n3.at_.pre q4) n4.at_
  obtain ⟨z, J5, e40, q5, z1, z2⟩ := run40 (hx.pre (p1.trans (q1.trans (q2.trans (q3.trans q4))))) n4.at_ (by omega) hf2
  rw [hf3] at e40 z1
  dsimp only at e40 z1
  have okz : okF z = true := by rw [show okF z = okP z.pr from rfl, z1]; exact okr
  have e49 := run49 (z2.at_.pre (pre_app (t := [hfb z]))) okz
  have hz : sumN z.xs = sumN y.xs := by rw [← hsr, ← z1]
  rw [hz] at e49
  have hge : ¬ (n : Int) < ts.length := by omega
  obtain ⟨p3, cap3, rfl, _⟩ := n3
  obtain ⟨p4, cap4, rfl, _⟩ := n4
  have pF : Pre H (J5 ++ [hfb z]) := pHJ.trans (q2.trans (q3.trans (q4.trans (q5.trans pre_app))))
  have fin : ∀ (T : List (Option Blk)) (v : AV), T = [hfb z] → v.plain = true → finish true H v (J5 ++ T) = some (v, H) := fun T v hT hv => by rw [hT]; exact finish_pre pF hv
  have hly := hfr_len y
  have hty := hfr_t (h := y)
  have hlz := hfr_len z
  have htz := hfr_t (h := z)
  have hoz := hfr_ok (h := z)
  obtain ⟨Ry, hRy⟩ : ∃ R, R = hfr y := ⟨_, rfl⟩
  obtain ⟨Rz, hRz⟩ : ∃ R, R = hfr z := ⟨_, rfl⟩
  simp only [hfb, ← hR, ← hRy, ← hRz] at gy e24 gx2 gx3 gx4 e3 e4 e40 e49 hly hty hlz htz hoz fin
  clear hy hx hch hf2 hf3 hlt q2 q3 q4 q5 p1 p2 q1 pHJ pF pH1
  simp (maxSteps := 4000000) (disch := first | omega | (refine _root_.id ?_; simp only [pl_int, pl_bool, pl_str, pl_undef, pl_nil, pl_ptr, plA_c, plA_agg, plA_tup, plV_c, plV_agg, List.all_cons, List.all_nil, Bool.and_true, Bool.and_self, eq_self, vi_int, vi_bool, get_app, get_app0, List.getElem?_cons_zero, List.getElem?_cons_succ, Option.join_some, lst_get, getL, upd_at, upd_ne, Nat.reduceBEq])) only [evC_skip, evC_ret, evC_region, evC_seq, ev_t, ev_k, putS_some, putS_none, ops_nil, ops_consg, guard_bool, evC_condC, cond_bool, ops_cons, next_some, then_norm, out_exit, done_ret, Option.bind_some, Option.map_some, evalOp, AV.cells?, readCells, writeCells, get_app0, set_app0, List.getElem?_cons_zero, List.getElem?_cons_succ, Option.join_some, List.length_cons, List.length_nil, List.nil_append, Nat.zero_add, Nat.reduceAdd, List.drop_zero, List.drop_succ_cons, List.take_zero, List.drop_nil, ↓reduceIte, reduceCtorEq, binA, binC, intBin, or_false, or_true, evalRs, evalR, AV.toV0?, mkRes, V0.toAV, decide_false, and_self, eq_self, beq_self_eq_true, Bool.not_true, Bool.false_eq_true, List.map_cons, List.map_nil, List.append_nil, setAt, bne_self_eq_false, List.set_cons_zero, unA, upd_at, upd_ne, s10, gy, hly, hty, Nat.le_refl, e24, s5, gx2, hlx, htx, e3, gx3, e4, e48, s11, hge, gx4, e40, hlz, htz, hoz, e49, fin]
theorem law10 (H : AHeap) (vs : List AV) (h : ArgsOk H [.sl 1 1 (.int .u8), .sl 1 1 (.int .u8)] vs) : ∃ H', ev kk 10 vs H = some (.c (.bool true), H') := by
  obtain ⟨a, vs0, rfl, h1, h2⟩ := h.cons_inv
  obtain ⟨a', vs1, rfl, h3, h4⟩ := h2.cons_inv
  obtain rfl := h4.nil_inv
  obtain ⟨c, elems, rfl, h5, h6, _⟩ := h1.sl_inv
  obtain ⟨c', elems', rfl, h7, h8, _⟩ := h3.sl_inv
  obtain ⟨l, hb, hl⟩ := bts_inv h5 h6
  obtain ⟨l', hb', hl'⟩ := bts_inv h7 h8
  exact ⟨H, run10 hb hl hb' hl'⟩
end Go.Proofs.Ytnblibimbggheaa
