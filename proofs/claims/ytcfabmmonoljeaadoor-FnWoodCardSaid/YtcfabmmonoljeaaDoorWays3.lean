/- What functions of the program answer: part Ways3. -/
import Derived.Test.YtcfabmmonoljeaaDoorWays2
set_option linter.unusedVariables false
set_option linter.unusedSimpArgs false
set_option linter.unusedSectionVars false
namespace Go.Proofs.YtcfabmmonoljeaaDoor
open Go Go.Proofs.YtcfabmmonoljeaaDoor.VI
set_option maxHeartbeats 16000000
set_option maxRecDepth 20000
theorem loop35_0 {h : Hf} (ok : okF h = true) {G : AHeap} {b : Nat} {e : TypeId} {m : BM} (hh : HfAt G h) (hb : G.get b = some ⟨e, hfr h, m⟩) {i : Int} (hi : 0 ≤ i ∧ i ≤ 60) : ∀ (n : Nat) (k : Int) (_ : k + n = 6) (_ : 0 ≤ k) (acc : List Tm) (_ : acc.length + n ≤ 1000) (J : AHeap) (_ : Pre G J) (v : AV) (_ : ApS 37 4 G J acc.length (trows acc) v) (σ : Sl) (_ : σ 0 = .c (.ptr (some (b, 0)))) (_ : σ 3 = v) (_ : σ 4 = .c (.int .i64 i)) (_ : σ 5 = .c (.int .i8 k)),
    Post (evC (ev kk) (.loop l35_0) (σ, J)) fun ex σ' H' => ex = .exit 2 ∧ Pre G H' ∧ ApS 37 4 G H' (acc ++ wkF h.pr i n k).length (trows (acc ++ wkF h.pr i n k)) (σ' 3) ∧ σ' 0 = .c (.ptr (some (b, 0))) ∧ σ' 4 = .c (.int .i64 i)
  | 0, k, hk, hk0, acc, ha, J, hJ, v, ho, σ, h1, h3, h4, h5 => by
    have hge : ¬ k ≤ 5 := by omega
    have e : wkF h.pr i 0 k = [] := rfl
    rw [evC_loop, e, List.append_nil]
    simp only [evC_exit, evC_region, evC_seq, ev_t, ev_k, putS_some, ops_nil, evC_condC, cond_bool, ops_cons, next_some, then_norm, then_exit, Option.map_some, evalOp, ↓reduceIte, reduceCtorEq, binA, binC, intBin, or_false, or_true, and_true, true_and, decide_false, and_self, eq_self, Bool.false_eq_true, Nat.reduceBEq, post_some, upd_at, upd_ne, l35_0, h1, h3, h4, h5, hge]
    exact ⟨hJ, ho⟩
  | n + 1, k, hk, hk0, acc, ha, J, hJ, v, ho, σ, h1, h3, h4, h5 => by
    have hle : k ≤ 5 := by omega
    have ht : rngT ⟨2, k, i, 0⟩ := by unfold rngT; dsimp only; omega
    obtain ⟨y, J1, e1, p1, y1, y2⟩ := run38 (hh.pre (hJ.app [some ⟨37, trow ⟨2, k, i, 0⟩, .own⟩])) ok ht ((hJ.app _).get hb)
    have d1 := p1.get (show AHeap.get (J ++ [some ⟨37, trow ⟨2, k, i, 0⟩, .own⟩]) J.length = some ⟨37, trow ⟨2, k, i, 0⟩, .own⟩ by rw [get_app0]; rfl)
    have lt1 := get_some_lt d1
    have hly := hfr_len y
    have hoy := hfr_ok (h := y)
    have hw : IntKind.i16.wrap i = i := IntWalk.i16_in _ (by omega)
    have pJB : Pre J (J1 ++ [hfb y]) := pre_app.trans (p1.trans pre_app)
    have hJB : Pre G (J1 ++ [hfb y]) := hJ.trans pJB
    have step := loop35_0 ok hh hb hi n (k + 1) (by omega) (by omega)
    have ew : wkF h.pr i (n + 1) k = (if (tmR h.pr ⟨2, k, i, 0⟩).2 = 0 then [⟨2, k, i, 0⟩] else []) ++ wkF h.pr i n (k + 1) := rfl
    obtain ⟨q, cp, hv⟩ := ho.isC
    subst hv
    rw [evC_loop, ew]
    generalize tmR h.pr ⟨2, k, i, 0⟩ = cr at *
    obtain ⟨Ry, hRy⟩ : ∃ R, R = hfr y := ⟨_, rfl⟩
    by_cases hc : cr.2 = 0
    · rw [if_pos hc]
      rw [hc] at e1
      obtain ⟨v', K, a1, pK, oK, _, _⟩ := ((ho.pre pJB).pre (pre_app (t := [some ⟨37, trow ⟨2, k, i, 0⟩, .own⟩]))).step (bytes := 6) (hJB.app _) (j := J1.length + 1) (t := 37) (cs := trow ⟨2, k, i, 0⟩) (bm := .own) (m := 1) (cap := .exact 1) (by rw [List.append_assoc, get_app]; rfl) (by omega) rfl (by omega) rfl
      rw [trows_snoc] at oK
      simp only [List.append_assoc, hfb, ← hRy, List.cons_append, List.nil_append] at a1
      have stepK := step (acc ++ [⟨2, k, i, 0⟩]) (by simp; omega) K pK v' (by simpa using oK)
      clear step hJB pJB ho
      have hcat : acc ++ (⟨2, k, i, 0⟩ : Tm) :: wkF h.pr i n (k + 1) = acc ++ [⟨2, k, i, 0⟩] ++ wkF h.pr i n (k + 1) := by simp
      rw [← hRy] at e1 hly hoy
      simp (maxSteps := 4000000) (disch := first | omega | (refine _root_.id ?_; simp only [pl_int, pl_bool, pl_str, pl_undef, pl_nil, pl_ptr, plA_c, plA_agg, plA_tup, plV_c, plV_agg, List.all_cons, List.all_nil, Bool.and_true, Bool.and_self, eq_self, vi_int, vi_bool, get_app, get_app0, List.getElem?_cons_zero, List.getElem?_cons_succ, Option.join_some, lst_get, getL, upd_at, upd_ne, Nat.reduceBEq])) only [evC_skip, evC_region, evC_seq, evC_block, ev_t, ev_k, putS_some, putS_none, ops_nil, evC_condC, cond_bool, ops_cons, next_some, then_norm, out_norm, Option.map_some, evalOp, AV.cells?, readCells, writeCells, get_app0, set_app0, len_app, List.getElem?_cons_zero, List.getElem?_cons_succ, Option.join_some, List.length_cons, List.length_nil, List.append_assoc, List.cons_append, List.nil_append, Nat.zero_add, Nat.reduceAdd, Nat.reduceLeDiff, List.drop_zero, List.drop_succ_cons, List.take_zero, List.take_succ_cons, List.take_nil, List.drop_nil, ↓reduceIte, reduceCtorEq, binA, binC, intBin, or_false, or_true, V0.toAV, decide_true, and_self, eq_self, IntWalk.i8_in, List.all_cons, List.all_nil, Bool.and_true, beq_self_eq_true, List.map_cons, List.map_nil, List.append_nil, setAt, CV.ok, List.set_cons_zero, partsA, fillC, upd_at, upd_ne, l35_0, h1, h3, h4, h5, hle, hw, e1, hly, hoy, Nat.le_refl, d1, get_appl lt1, a1]
      exact Post.mono (stepK _ (by simp only [upd_ne, Nat.reduceBEq, h1]) (by simp only [upd_at, upd_ne, Nat.reduceBEq]) (by simp only [upd_ne, Nat.reduceBEq, h4]) (by simp only [upd_at])) (fun ex σ' H' q => ⟨q.1, q.2.1, by rw [hcat]; exact q.2.2.1, q.2.2.2⟩)
    · rw [if_neg hc, List.nil_append]
      have hc' : (cr.2 == 0) = false := by simpa using hc
      have stepK := step acc (by omega) (J1 ++ [hfb y]) hJB _ (ho.pre pJB)
      simp only [hfb, ← hRy] at stepK
      clear step hJB pJB ho
      rw [← hRy] at e1 hly hoy
      simp (maxSteps := 4000000) (disch := first | omega | (refine _root_.id ?_; simp only [pl_int, pl_bool, pl_str, pl_undef, pl_nil, pl_ptr, plA_c, plA_agg, plA_tup, plV_c, plV_agg, List.all_cons, List.all_nil, Bool.and_true, Bool.and_self, eq_self, vi_int, vi_bool, get_app, get_app0, List.getElem?_cons_zero, List.getElem?_cons_succ, Option.join_some, lst_get, getL, upd_at, upd_ne, Nat.reduceBEq])) only [evC_skip, evC_region, evC_seq, evC_block, ev_t, ev_k, putS_some, putS_none, ops_nil, evC_condC, cond_bool, ops_cons, next_some, then_norm, out_norm, Option.map_some, evalOp, AV.cells?, readCells, writeCells, get_app0, set_app0, List.getElem?_cons_zero, List.getElem?_cons_succ, Option.join_some, List.length_cons, List.length_nil, List.cons_append, List.nil_append, Nat.zero_add, Nat.reduceAdd, Nat.reduceLeDiff, List.drop_zero, List.drop_succ_cons, List.take_zero, List.take_succ_cons, List.take_nil, List.drop_nil, ↓reduceIte, reduceCtorEq, binA, binC, intBin, or_false, or_true, V0.toAV, decide_true, and_self, eq_self, IntWalk.i8_in, List.all_cons, List.all_nil, Bool.and_true, Bool.false_eq_true, List.map_cons, List.map_nil, List.append_nil, setAt, CV.ok, List.set_cons_zero, partsA, fillC, upd_at, upd_ne, l35_0, h1, h4, h5, hle, hw, e1, hly, hoy, Nat.le_refl, hc']
      exact stepK _ (by simp only [upd_ne, Nat.reduceBEq, h1]) (by simp only [upd_ne, Nat.reduceBEq, h3]) (by simp only [upd_ne, Nat.reduceBEq, h4]) (by simp only [upd_at])
theorem loop35_1 {h : Hf} (ok : okF h = true) {G : AHeap} {b : Nat} {e : TypeId} {m : BM} (hh : HfAt G h) (hb : G.get b = some ⟨e, hfr h, m⟩) : ∀ (n i : Nat) (_ : i + n = h.xs.length) (acc : List Tm) (_ : acc.length ≤ 6 * i) (J : AHeap) (_ : Pre G J) (v : AV) (_ : ApS 37 4 G J acc.length (trows acc) v) (σ : Sl) (_ : σ 0 = .c (.ptr (some (b, 0)))) (_ : σ 3 = v) (_ : σ 4 = .c (.int .i64 i)),
    Post (evC (ev kk) (.loop l35_1) (σ, J)) fun ex σ' H' => ex = .exit 0 ∧ Pre G H' ∧ ApS 37 4 G H' (acc ++ wiF h.pr n i).length (trows (acc ++ wiF h.pr n i)) (σ' 3) ∧ σ' 0 = .c (.ptr (some (b, 0)))
  | 0, i, hi, acc, ha, J, hJ, v, ho, σ, h1, h3, h4 => by
    have hge : ¬ (i : Int) < h.xs.length := by omega
    have e : wiF h.pr 0 i = [] := rfl
    have hbJ := hJ.get hb
    rw [evC_loop, e, List.append_nil]
    simp only [evC_exit, evC_region, evC_seq, ev_t, putS_some, ops_nil, evC_condC, cond_bool, ops_cons, next_some, then_norm, then_exit, Option.map_some, evalOp, readCell, List.getElem?_cons_zero, List.getElem?_cons_succ, Nat.zero_add, ↓reduceIte, reduceCtorEq, binA, binC, intBin, or_false, or_true, and_true, true_and, decide_false, eq_self, Bool.false_eq_true, Nat.reduceBEq, post_some, upd_at, upd_ne, l35_1, h1, h3, h4, hbJ, hge]
    exact ⟨hJ, ho⟩
  | n + 1, i, hi, acc, ha, J, hJ, v, ho, σ, h1, h3, h4 => by
    have hlt : (i : Int) < h.xs.length := by omega
    have few := okP_few ok
    have hbJ := hJ.get hb
    have ew : wiF h.pr (n + 1) i = wkF h.pr i 6 0 ++ wiF h.pr n ((i + 1 : Nat) : Int) := rfl
    have L := fun σ h1 h3 h4 h5 => loop35_0 ok hh hb (i := i) (by omega) 6 0 (by omega) (by omega) acc (by omega) J hJ v ho σ h1 h3 h4 h5
    have hwl := wkF_len (p := h.pr) (i := i) (n := 6) (k := 0)
    rw [evC_loop, ew]
    have key : ∀ S : Sl, S 0 = .c (.ptr (some (b, 0))) → S 3 = v → S 4 = .c (.int .i64 i) → S 5 = .c (.int .i8 0) → ∃ σ' J1, evC (ev kk) (.loop l35_0) (S, J) = some (.exit 2, σ', J1) ∧ Pre G J1 ∧ ApS 37 4 G J1 (acc ++ wkF h.pr i 6 0).length (trows (acc ++ wkF h.pr i 6 0)) (σ' 3) ∧ σ' 0 = .c (.ptr (some (b, 0))) ∧ σ' 4 = .c (.int .i64 i) := fun S s0 s3 s4 s5 => by
      obtain ⟨_, σ', J1, eL, rfl, r⟩ := L S s0 s3 s4 s5
      exact ⟨σ', J1, eL, r⟩
    simp (maxSteps := 4000000) (disch := first | omega | (refine _root_.id ?_; simp only [pl_int, pl_bool, pl_str, pl_undef, pl_nil, pl_ptr, plA_c, plA_agg, plA_tup, plV_c, plV_agg, List.all_cons, List.all_nil, Bool.and_true, Bool.and_self, eq_self, vi_int, vi_bool, get_app, get_app0, List.getElem?_cons_zero, List.getElem?_cons_succ, Option.join_some, lst_get, getL, upd_at, upd_ne, Nat.reduceBEq])) only [evC_skip, evC_region, evC_seq, evC_block, ev_t, ev_k, putS_some, ops_nil, evC_condC, cond_bool, ops_cons, next_some, then_norm, Option.map_some, evalOp, readCell, List.getElem?_cons_zero, List.getElem?_cons_succ, Nat.zero_add, ↓reduceIte, reduceCtorEq, binA, binC, intBin, or_false, or_true, decide_true, eq_self, upd_at, upd_ne, l35_1, h1, h4, hbJ, hlt]
    obtain ⟨σ', J1, eL, p1, o1, q0, q4⟩ := key (upd (upd (upd (upd (upd (upd (upd (upd σ 15 (.c (.int .i64 i))) 16 (.c (.ptr (some (b, 0))))) 17 (.c (.ptr (some (b, 0))))) 18 (.c (.ptr (some (b, 1))))) 19 (.c (.slice h.p h.xs.length h.cap))) 20 (.c (.int .i64 h.xs.length))) 21 (.c (.bool true))) 5 (.c (.int .i8 0))) (by simp only [upd_ne, Nat.reduceBEq, h1]) (by simp only [upd_ne, Nat.reduceBEq, h3]) (by simp only [upd_ne, Nat.reduceBEq, h4]) (by simp only [upd_at])
    have step := loop35_1 ok hh hb n (i + 1) (by omega) (acc ++ wkF h.pr i 6 0) (by rw [List.length_append]; omega) J1 p1 _ o1
    rw [eL]
    generalize wkF h.pr i 6 0 = w at *
    generalize wiF h.pr n ((i + 1 : Nat) : Int) = ws at *
    simp (maxSteps := 4000000) (disch := first | omega | (refine _root_.id ?_; simp only [pl_int, pl_bool, pl_str, pl_undef, pl_nil, pl_ptr, plA_c, plA_agg, plA_tup, plV_c, plV_agg, List.all_cons, List.all_nil, Bool.and_true, Bool.and_self, eq_self, vi_int, vi_bool, get_app, get_app0, List.getElem?_cons_zero, List.getElem?_cons_succ, Option.join_some, lst_get, getL, upd_at, upd_ne, Nat.reduceBEq])) only [evC_region, ev_t, ev_k, putS_some, ops_nil, ops_cons, next_some, then_norm, out_norm, out_exit, Option.map_some, evalOp, ↓reduceIte, reduceCtorEq, binA, binC, intBin, or_false, or_true, eq_self, IntWalk.i64_in, upd_at, q4]
    have hcat : acc ++ (w ++ ws) = acc ++ w ++ ws := by simp
    exact Post.mono (step _ (by simp only [upd_ne, Nat.reduceBEq, q0]) (by simp only [upd_ne, Nat.reduceBEq]) (by simp only [upd_at]; rfl)) (fun ex σ' H' q => ⟨q.1, q.2.1, by rw [hcat]; exact q.2.2.1, q.2.2.2⟩)
theorem loop35_2 {h : Hf} (ok : okF h = true) {G : AHeap} {b : Nat} {e : TypeId} {m : BM} (hh : HfAt G h) (hb : G.get b = some ⟨e, hfr h, m⟩) {k : Int} (hk : 0 ≤ k ∧ k ≤ 5) {acc : List Tm} (ha : acc.length ≤ 1000) : ∀ (n : Nat) (a : Int) (_ : a + n = 201) (_ : 0 ≤ a) (J : AHeap) (_ : Pre G J) (v : AV) (_ : ApS 37 4 G J acc.length (trows acc) v) (σ : Sl) (_ : σ 0 = .c (.ptr (some (b, 0)))) (_ : σ 3 = v) (_ : σ 9 = .c (.int .i8 k)) (_ : σ 10 = .c (.int .i64 a)),
    Post (evC (ev kk) (.loop l35_2) (σ, J)) fun ex σ' H' => ex = .exit 6 ∧ Pre G H' ∧ ApS 37 4 G H' (acc ++ ad1 k (rmF h.pr k n a)).length (trows (acc ++ ad1 k (rmF h.pr k n a))) (σ' 3) ∧ σ' 0 = .c (.ptr (some (b, 0))) ∧ σ' 9 = .c (.int .i8 k)
  | 0, a, han, ha0, J, hJ, v, ho, σ, h1, h3, h9, h10 => by
    have hge : ¬ a ≤ 200 := by omega
    have e : ad1 k (rmF h.pr k 0 a) = [] := rfl
    rw [evC_loop, e, List.append_nil]
    simp only [evC_exit, evC_region, evC_seq, ev_t, ev_k, putS_some, ops_nil, evC_condC, cond_bool, ops_cons, next_some, then_norm, then_exit, Option.map_some, evalOp, ↓reduceIte, reduceCtorEq, binA, binC, intBin, or_false, or_true, and_true, true_and, decide_false, and_self, eq_self, Bool.false_eq_true, Nat.reduceBEq, post_some, upd_at, upd_ne, l35_2, h1, h3, h9, h10, hge]
    exact ⟨hJ, ho⟩
  | n + 1, a, han, ha0, J, hJ, v, ho, σ, h1, h3, h9, h10 => by
    have hle : a ≤ 200 := by omega
    have ht : rngT ⟨1, k, 0, a⟩ := by unfold rngT; dsimp only; omega
    obtain ⟨y, J1, e1, p1, y1, y2⟩ := run38 (hh.pre (hJ.app [some ⟨37, trow ⟨1, k, 0, a⟩, .own⟩])) ok ht ((hJ.app _).get hb)
    have d1 := p1.get (show AHeap.get (J ++ [some ⟨37, trow ⟨1, k, 0, a⟩, .own⟩]) J.length = some ⟨37, trow ⟨1, k, 0, a⟩, .own⟩ by rw [get_app0]; rfl)
    have lt1 := get_some_lt d1
    have hly := hfr_len y
    have hoy := hfr_ok (h := y)
    have hw : IntKind.i16.wrap a = a := IntWalk.i16_in _ (by omega)
    have pJB : Pre J (J1 ++ [hfb y]) := pre_app.trans (p1.trans pre_app)
    have hJB : Pre G (J1 ++ [hfb y]) := hJ.trans pJB
    have step := loop35_2 ok hh hb hk ha n (a + 1) (by omega) (by omega)
    have ew : rmF h.pr k (n + 1) a = (if (tmR h.pr ⟨1, k, 0, a⟩).2 = 0 then [a] else []) ++ rmF h.pr k n (a + 1) := rfl
    obtain ⟨q, cp, hv⟩ := ho.isC
    subst hv
    rw [evC_loop, ew]
    generalize tmR h.pr ⟨1, k, 0, a⟩ = cr at *
    obtain ⟨Ry, hRy⟩ : ∃ R, R = hfr y := ⟨_, rfl⟩
    by_cases hc : cr.2 = 0
    · rw [if_pos hc]
      rw [hc] at e1
      obtain ⟨v', K, a1, pK, oK, _, _⟩ := ((ho.pre pJB).pre (pre_app (t := [some ⟨37, trow ⟨1, k, 0, a⟩, .own⟩]))).step (bytes := 6) (hJB.app _) (j := J1.length + 1) (t := 37) (cs := trow ⟨1, k, 0, a⟩) (bm := .own) (m := 1) (cap := .exact 1) (by rw [List.append_assoc, get_app]; rfl) (by omega) rfl (by omega) rfl
      rw [trows_snoc] at oK
      simp only [List.append_assoc, hfb, ← hRy, List.cons_append, List.nil_append] at a1
      have e0 : ad1 k ([a] ++ rmF h.pr k n (a + 1)) = [⟨1, k, 0, a⟩] := rfl
      rw [e0]
      have hl1 : (acc ++ [(⟨1, k, 0, a⟩ : Tm)]).length = acc.length + 1 := by simp
      rw [hl1]
      clear step hJB pJB ho
      rw [← hRy] at e1 hly hoy
      simp (maxSteps := 4000000) (disch := first | omega | (refine _root_.id ?_; simp only [pl_int, pl_bool, pl_str, pl_undef, pl_nil, pl_ptr, plA_c, plA_agg, plA_tup, plV_c, plV_agg, List.all_cons, List.all_nil, Bool.and_true, Bool.and_self, eq_self, vi_int, vi_bool, get_app, get_app0, List.getElem?_cons_zero, List.getElem?_cons_succ, Option.join_some, lst_get, getL, upd_at, upd_ne, Nat.reduceBEq])) only [evC_skip, evC_exit, evC_region, evC_seq, evC_block, ev_t, ev_k, putS_some, putS_none, ops_nil, evC_condC, cond_bool, ops_cons, next_some, then_norm, then_exit, out_exit, Option.map_some, evalOp, AV.cells?, readCells, writeCells, get_app0, set_app0, len_app, List.getElem?_cons_zero, List.getElem?_cons_succ, Option.join_some, List.length_cons, List.length_nil, List.append_assoc, List.cons_append, List.nil_append, Nat.zero_add, Nat.reduceAdd, Nat.reduceLeDiff, List.drop_zero, List.drop_succ_cons, List.take_zero, List.take_succ_cons, List.take_nil, List.drop_nil, ↓reduceIte, reduceCtorEq, binA, binC, intBin, or_false, or_true, and_true, true_and, V0.toAV, decide_true, and_self, Nat.reduceEqDiff, eq_self, List.all_cons, List.all_nil, Bool.and_true, beq_self_eq_true, List.map_cons, List.map_nil, List.append_nil, setAt, CV.ok, List.set_cons_zero, partsA, fillC, post_some, upd_at, upd_ne, l35_2, h1, h3, h9, h10, hle, hw, e1, hly, hoy, Nat.le_refl, d1, get_appl lt1, a1]
      exact ⟨pK, oK⟩
    · rw [if_neg hc, List.nil_append]
      have hc' : (cr.2 == 0) = false := by simpa using hc
      have stepK := step (J1 ++ [hfb y]) hJB _ (ho.pre pJB)
      simp only [hfb, ← hRy] at stepK
      clear step hJB pJB ho
      rw [← hRy] at e1 hly hoy
      simp (maxSteps := 4000000) (disch := first | omega | (refine _root_.id ?_; simp only [pl_int, pl_bool, pl_str, pl_undef, pl_nil, pl_ptr, plA_c, plA_agg, plA_tup, plV_c, plV_agg, List.all_cons, List.all_nil, Bool.and_true, Bool.and_self, eq_self, vi_int, vi_bool, get_app, get_app0, List.getElem?_cons_zero, List.getElem?_cons_succ, Option.join_some, lst_get, getL, upd_at, upd_ne, Nat.reduceBEq])) only [evC_skip, evC_region, evC_seq, evC_block, ev_t, ev_k, putS_some, putS_none, ops_nil, evC_condC, cond_bool, ops_cons, next_some, then_norm, out_norm, Option.map_some, evalOp, AV.cells?, readCells, writeCells, get_app0, set_app0, List.getElem?_cons_zero, List.getElem?_cons_succ, Option.join_some, List.length_cons, List.length_nil, List.cons_append, List.nil_append, Nat.zero_add, Nat.reduceAdd, Nat.reduceLeDiff, List.drop_zero, List.drop_succ_cons, List.take_zero, List.take_succ_cons, List.take_nil, List.drop_nil, ↓reduceIte, reduceCtorEq, binA, binC, intBin, or_false, or_true, V0.toAV, decide_true, and_self, eq_self, IntWalk.i64_in, List.all_cons, List.all_nil, Bool.and_true, Bool.false_eq_true, List.map_cons, List.map_nil, List.append_nil, setAt, CV.ok, List.set_cons_zero, partsA, fillC, upd_at, upd_ne, l35_2, h1, h9, h10, hle, hw, e1, hly, hoy, Nat.le_refl, hc']
      exact stepK _ (by simp only [upd_ne, Nat.reduceBEq, h1]) (by simp only [upd_ne, Nat.reduceBEq, h3]) (by simp only [upd_ne, Nat.reduceBEq, h9]) (by simp only [upd_at])
theorem loop35_3 {h : Hf} (ok : okF h = true) {G : AHeap} {b : Nat} {e : TypeId} {m : BM} (hh : HfAt G h) (hb : G.get b = some ⟨e, hfr h, m⟩) : ∀ (n : Nat) (k : Int) (_ : k + n = 6) (_ : 0 ≤ k) (acc : List Tm) (_ : acc.length + n ≤ 1000) (J : AHeap) (_ : Pre G J) (v : AV) (_ : ApS 37 4 G J acc.length (trows acc) v) (σ : Sl) (_ : σ 0 = .c (.ptr (some (b, 0)))) (_ : σ 3 = v) (_ : σ 9 = .c (.int .i8 k)),
    Post (evC (ev kk) (.loop l35_3) (σ, J)) fun ex σ' H' => ex = .exit 4 ∧ Pre G H' ∧ ApS 37 4 G H' (acc ++ adF h.pr n k).length (trows (acc ++ adF h.pr n k)) (σ' 3)
  | 0, k, hk, hk0, acc, ha, J, hJ, v, ho, σ, h1, h3, h9 => by
    have hge : ¬ k ≤ 5 := by omega
    have e : adF h.pr 0 k = [] := rfl
    rw [evC_loop, e, List.append_nil]
    simp only [evC_exit, evC_region, evC_seq, ev_t, ev_k, putS_some, ops_nil, evC_condC, cond_bool, ops_cons, next_some, then_norm, then_exit, Option.map_some, evalOp, ↓reduceIte, reduceCtorEq, binA, binC, intBin, or_false, or_true, true_and, decide_false, eq_self, Bool.false_eq_true, Nat.reduceBEq, post_some, upd_at, upd_ne, l35_3, h3, h9, hge]
    exact ⟨hJ, ho⟩
  | n + 1, k, hk, hk0, acc, ha, J, hJ, v, ho, σ, h1, h3, h9 => by
    have hle : k ≤ 5 := by omega
    have ew : adF h.pr (n + 1) k = ad1 k (rmF h.pr k 201 0) ++ adF h.pr n (k + 1) := rfl
    have hal := ad1_len (k := k) (l := rmF h.pr k 201 0)
    have key : ∀ S : Sl, S 0 = .c (.ptr (some (b, 0))) → S 3 = v → S 9 = .c (.int .i8 k) → S 10 = .c (.int .i64 0) → ∃ σ' J1, evC (ev kk) (.loop l35_2) (S, J) = some (.exit 6, σ', J1) ∧ Pre G J1 ∧ ApS 37 4 G J1 (acc ++ ad1 k (rmF h.pr k 201 0)).length (trows (acc ++ ad1 k (rmF h.pr k 201 0))) (σ' 3) ∧ σ' 0 = .c (.ptr (some (b, 0))) ∧ σ' 9 = .c (.int .i8 k) := fun S s0 s3 s9 s10 => by
      obtain ⟨_, σ', J1, eL, rfl, r⟩ := loop35_2 ok hh hb (k := k) (by omega) (acc := acc) (by omega) 201 0 (by omega) (by omega) J hJ v ho S s0 s3 s9 s10
      exact ⟨σ', J1, eL, r⟩
    rw [evC_loop, ew]
    simp (maxSteps := 4000000) (disch := first | omega | (refine _root_.id ?_; simp only [pl_int, pl_bool, pl_str, pl_undef, pl_nil, pl_ptr, plA_c, plA_agg, plA_tup, plV_c, plV_agg, List.all_cons, List.all_nil, Bool.and_true, Bool.and_self, eq_self, vi_int, vi_bool, get_app, get_app0, List.getElem?_cons_zero, List.getElem?_cons_succ, Option.join_some, lst_get, getL, upd_at, upd_ne, Nat.reduceBEq])) only [evC_skip, evC_region, evC_seq, evC_block, ev_t, ev_k, putS_some, ops_nil, evC_condC, cond_bool, ops_cons, next_some, then_norm, Option.map_some, evalOp, ↓reduceIte, reduceCtorEq, binA, binC, intBin, or_false, or_true, decide_true, eq_self, upd_at, l35_3, h9, hle]
    obtain ⟨σ', J1, eL, p1, o1, q0, q9⟩ := key (upd (upd (upd σ 44 (.c (.int .i8 k))) 45 (.c (.bool true))) 10 (.c (.int .i64 0))) (by simp only [upd_ne, Nat.reduceBEq, h1]) (by simp only [upd_ne, Nat.reduceBEq, h3]) (by simp only [upd_ne, Nat.reduceBEq, h9]) (by simp only [upd_at])
    have step := loop35_3 ok hh hb n (k + 1) (by omega) (by omega) (acc ++ ad1 k (rmF h.pr k 201 0)) (by rw [List.length_append]; omega) J1 p1 _ o1
    rw [eL]
    generalize ad1 k (rmF h.pr k 201 0) = w at *
    generalize adF h.pr n (k + 1) = ws at *
    simp (maxSteps := 4000000) (disch := first | omega | (refine _root_.id ?_; simp only [pl_int, pl_bool, pl_str, pl_undef, pl_nil, pl_ptr, plA_c, plA_agg, plA_tup, plV_c, plV_agg, List.all_cons, List.all_nil, Bool.and_true, Bool.and_self, eq_self, vi_int, vi_bool, get_app, get_app0, List.getElem?_cons_zero, List.getElem?_cons_succ, Option.join_some, lst_get, getL, upd_at, upd_ne, Nat.reduceBEq])) only [evC_region, ev_t, ev_k, putS_some, ops_nil, ops_cons, next_some, then_norm, out_norm, out_exit, Option.map_some, evalOp, ↓reduceIte, reduceCtorEq, binA, binC, intBin, or_false, or_true, eq_self, IntWalk.i8_in, upd_at, q9]
    have hcat : acc ++ (w ++ ws) = acc ++ w ++ ws := by simp
    exact Post.mono (step _ (by simp only [upd_ne, Nat.reduceBEq, q0]) (by simp only [upd_ne, Nat.reduceBEq]) (by simp only [upd_at])) (fun ex σ' H' q => ⟨q.1, q.2.1, by rw [hcat]; exact q.2.2⟩)
theorem run35 {h : Hf} {H : AHeap} (hh : HfAt H h) (ok : okF h = true) {b : Nat} {e : TypeId} {m : BM} (hb : H.get b = some ⟨e, hfr h, m⟩) : ∃ c J, ev kk 35 [.c (.ptr (some (b, 0)))] H = some (.c c, J) ∧ Pre H J ∧ ApS 37 4 H J (waysP h.pr).length (trows (waysP h.pr)) (.c c) := by
  have few := okP_few ok
  have lb := get_some_lt hb
  have hA := hh.app [some ⟨37, [], .own⟩]
  have hbA : AHeap.get (H ++ [some ⟨37, [], .own⟩]) b = some ⟨e, hfr h, m⟩ := by rw [get_appl lb]; exact hb
  obtain ⟨_, σ', J1, eL, rfl, p1, o1, q1⟩ := loop35_1 ok hA hbA h.xs.length 0 (by omega) [] (by simp) (H ++ [some ⟨37, [], .own⟩]) .refl (.c (.slice (some (H.length, 0)) 0 (.exact 0))) (.inl ⟨rfl, rfl, _, rfl⟩) (lst [.c (.ptr (some (b, 0))), .c .undef, .c (.slice none 0 (.exact 0)), .c (.slice (some (H.length, 0)) 0 (.exact 0)), .c (.int .i64 0), .c .undef, .c .undef, .c .undef, .c .undef, .c .undef, .c .undef, .c .undef, .c .undef, .c .undef, .c (.slice (some (H.length, 0)) 0 (.exact 0))]) rfl rfl rfl
  rw [List.nil_append] at o1
  have hwl := wiF_len (p := h.pr) (n := h.xs.length) (i := 0)
  obtain ⟨_, σ2, J2, eL2, rfl, p2, o2⟩ := loop35_3 ok hA hbA 6 0 (by omega) (by omega) (wiF h.pr h.xs.length 0) (by omega) J1 p1 _ o1 (upd σ' 9 (.c (.int .i8 0))) (by simp only [upd_ne, Nat.reduceBEq, q1]) (by simp only [upd_ne, Nat.reduceBEq]) (by simp only [upd_at])
  rw [show wiF h.pr h.xs.length 0 ++ adF h.pr 6 0 = waysP h.pr from rfl] at o2
  obtain ⟨q, cp, hv⟩ := o2.isC
  rw [hv] at o2
  have pH : Pre H J2 := pre_app.trans p2
  rw [ev_call c35]; unfold k35; rw [evB_eq rfl]
  simp (maxSteps := 4000000) (disch := first | omega | (refine _root_.id ?_; simp only [pl_int, pl_bool, pl_str, pl_undef, pl_nil, pl_ptr, plA_c, plA_agg, plA_tup, plV_c, plV_agg, List.all_cons, List.all_nil, Bool.and_true, Bool.and_self, eq_self, vi_int, vi_bool, get_app, get_app0, List.getElem?_cons_zero, List.getElem?_cons_succ, Option.join_some, lst_get, getL, upd_at, upd_ne, Nat.reduceBEq])) only [evC_ret, evC_region, evC_seq, evC_block, ev_t, ev_k, putS_some, upd_l, ops_nil, ops_cons, next_some, then_norm, out_exit, done_ret, putL, getL, Option.bind_some, Option.map_some, evalOp, ↓reduceIte, evalRs, evalR, AV.toV0?, mkRes, V0.toAV, lst_get, eq_self, partsA, fillC, finish_no, upd_at, eL, eL2, hv]
  refine ⟨_, _, rfl, pH, ?_⟩
  rcases o2 with ⟨h1, h2, q', h3⟩ | ⟨h1, h2, id, h3, h4, h5⟩
  · exact .inl ⟨h1, h2, q', h3⟩
  · exact .inr ⟨h1, h2, id, h3, by simp at h4; omega, h5⟩
end Go.Proofs.YtcfabmmonoljeaaDoor
