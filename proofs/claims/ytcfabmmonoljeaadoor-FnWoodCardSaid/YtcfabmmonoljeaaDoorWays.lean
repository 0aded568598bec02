/- What functions of the program answer: part Ways. -/
import Derived.Test.YtcfabmmonoljeaaDoorTam3
set_option linter.unusedVariables false
set_option linter.unusedSimpArgs false
set_option linter.unusedSectionVars false
namespace Go.Proofs.YtcfabmmonoljeaaDoor
open Go Go.Proofs.YtcfabmmonoljeaaDoor.VI
set_option maxHeartbeats 16000000
set_option maxRecDepth 20000
/-! The ways to tamper with a half -/
abbrev trows (ts : List Tm) : List CV := (ts.map trow).flatten
theorem trow_len (t : Tm) : (trow t).length = 4 := rfl
theorem trowl {ts : List Tm} : (trows ts).length = ts.length * 4 := rows_len trow_len
theorem trows_snoc {ts : List Tm} {t : Tm} : trows ts ++ trow t = trows (ts ++ [t]) := by simp [trows]
def wkF (p : Pr) (i : Int) : Nat → Int → List Tm
  | 0, _ => []
  | n + 1, k => (if (tmR p ⟨2, k, i, 0⟩).2 = 0 then [⟨2, k, i, 0⟩] else []) ++ wkF p i n (k + 1)
def wiF (p : Pr) : Nat → Int → List Tm
  | 0, _ => []
  | n + 1, i => wkF p i 6 0 ++ wiF p n (i + 1)
def rmF (p : Pr) (k : Int) : Nat → Int → List Int
  | 0, _ => []
  | n + 1, a => (if (tmR p ⟨1, k, 0, a⟩).2 = 0 then [a] else []) ++ rmF p k n (a + 1)
def ad1 (k : Int) : List Int → List Tm
  | [] => []
  | a :: _ => [⟨1, k, 0, a⟩]
def adF (p : Pr) : Nat → Int → List Tm
  | 0, _ => []
  | n + 1, k => ad1 k (rmF p k 201 0) ++ adF p n (k + 1)
def waysP (p : Pr) : List Tm := wiF p p.xs.length 0 ++ adF p 6 0
theorem wkF_len {p : Pr} {i : Int} : ∀ {n : Nat} {k : Int}, (wkF p i n k).length ≤ n
  | 0, k => Nat.le_refl _
  | n + 1, k => by
    have := wkF_len (p := p) (i := i) (n := n) (k := k + 1)
    unfold wkF
    rw [List.length_append]
    split <;> simp only [List.length_cons, List.length_nil] <;> omega
theorem wiF_len {p : Pr} : ∀ {n : Nat} {i : Int}, (wiF p n i).length ≤ 6 * n
  | 0, i => Nat.le_refl _
  | n + 1, i => by
    have := wiF_len (p := p) (n := n) (i := i + 1)
    have := wkF_len (p := p) (i := i) (n := 6) (k := 0)
    unfold wiF
    rw [List.length_append]
    omega
theorem ad1_len {k : Int} {l : List Int} : (ad1 k l).length ≤ 1 := by cases l <;> simp [ad1]
theorem adF_len {p : Pr} : ∀ {n : Nat} {k : Int}, (adF p n k).length ≤ n
  | 0, k => Nat.le_refl _
  | n + 1, k => by
    have := adF_len (p := p) (n := n) (k := k + 1)
    have := ad1_len (k := k) (l := rmF p k 201 0)
    unfold adF
    rw [List.length_append]
    omega
/-- One more way, where it is one. -/
theorem loop33_0 {h : Hf} (ok : okF h = true) {G : AHeap} {b : Nat} {e : TypeId} {m : BM} (hh : HfAt G h) (hb : G.get b = some ⟨e, hfr h, m⟩) {i : Int} (hi : 0 ≤ i ∧ i ≤ 60) : ∀ (n : Nat) (k : Int) (_ : k + n = 6) (_ : 0 ≤ k) (acc : List Tm) (_ : acc.length + n ≤ 1000) (J : AHeap) (_ : Pre G J) (v : AV) (_ : ApS 37 4 G J acc.length (trows acc) v) (σ : Sl) (_ : σ 1 = .c (.ptr (some (b, 0)))) (_ : σ 3 = v) (_ : σ 4 = .c (.int .i64 i)) (_ : σ 5 = .c (.int .i8 k)),
    Post (evC (ev kk) (.loop l33_0) (σ, J)) fun ex σ' H' => ex = .exit 2 ∧ Pre G H' ∧ ApS 37 4 G H' (acc ++ wkF h.pr i n k).length (trows (acc ++ wkF h.pr i n k)) (σ' 3) ∧ σ' 1 = .c (.ptr (some (b, 0))) ∧ σ' 14 = σ 14 ∧ σ' 15 = σ 15
  | 0, k, hk, hk0, acc, ha, J, hJ, v, ho, σ, h1, h3, h4, h5 => by
    have hge : ¬ k ≤ 5 := by omega
    have e : wkF h.pr i 0 k = [] := rfl
    rw [evC_loop, e, List.append_nil]
    simp only [evC_exit, evC_region, evC_seq, ev_t, ev_k, putS_some, ops_nil, evC_condC, cond_bool, ops_cons, next_some, then_norm, then_exit, Option.map_some, evalOp, ↓reduceIte, reduceCtorEq, binA, binC, intBin, or_false, or_true, and_true, true_and, decide_false, and_self, eq_self, Bool.false_eq_true, Nat.reduceBEq, post_some, upd_at, upd_ne, l33_0, h1, h3, h5, hge]
    exact ⟨hJ, ho⟩
  | n + 1, k, hk, hk0, acc, ha, J, hJ, v, ho, σ, h1, h3, h4, h5 => by
    have hle : k ≤ 5 := by omega
    have ht : rngT ⟨2, k, i, 0⟩ := by unfold rngT; dsimp only; omega
    have hbJ := hJ.get hb
    have lb := get_some_lt hbJ
    have hl := hfr_len h
    have htk := hfr_t (h := h)
    obtain ⟨y, J1, e1, p1, y1, y2⟩ := run37 (hh.pre (hJ.app [some ⟨37, trow ⟨2, k, i, 0⟩, .own⟩])) ok ht
    have d1 := p1.get (show AHeap.get (J ++ [some ⟨37, trow ⟨2, k, i, 0⟩, .own⟩]) J.length = some ⟨37, trow ⟨2, k, i, 0⟩, .own⟩ by rw [get_app0]; rfl)
    have lt1 := get_some_lt d1
    have hly := hfr_len y
    have hoy := hfr_ok (h := y)
    have hw : IntKind.i16.wrap i = i := IntWalk.i16_in _ (by omega)
    have pJB : Pre J (J1 ++ [hfb y]) := pre_app.trans (p1.trans pre_app)
    have hJB : Pre G (J1 ++ [hfb y]) := hJ.trans pJB
    have step := loop33_0 ok hh hb hi n (k + 1) (by omega) (by omega)
    have ew : wkF h.pr i (n + 1) k = (if (tmR h.pr ⟨2, k, i, 0⟩).2 = 0 then [⟨2, k, i, 0⟩] else []) ++ wkF h.pr i n (k + 1) := rfl
    obtain ⟨q, cp, hv⟩ := ho.isC
    subst hv
    rw [evC_loop, ew]
    generalize tmR h.pr ⟨2, k, i, 0⟩ = cr at *
    obtain ⟨R, hR⟩ : ∃ R, R = hfr h := ⟨_, rfl⟩
    obtain ⟨Ry, hRy⟩ : ∃ R, R = hfr y := ⟨_, rfl⟩
    by_cases hc : cr.2 = 0
    · rw [if_pos hc]
      rw [hc] at e1
      obtain ⟨v', K, a1, pK, oK, _, _⟩ := ((ho.pre pJB).pre (pre_app (t := [some ⟨37, trow ⟨2, k, i, 0⟩, .own⟩]))).step (bytes := 6) (hJB.app _) (j := J1.length + 1) (t := 37) (cs := trow ⟨2, k, i, 0⟩) (bm := .own) (m := 1) (cap := .exact 1) (by rw [List.append_assoc, get_app]; rfl) (by omega) rfl (by omega) rfl
      rw [trows_snoc] at oK
      simp only [List.append_assoc, hfb, ← hRy, List.cons_append, List.nil_append] at a1
      have stepK := step (acc ++ [⟨2, k, i, 0⟩]) (by simp; omega) K pK v' (by simpa using oK)
      clear step hJB pJB ho
      have hcat : acc ++ (⟨2, k, i, 0⟩ : Tm) :: wkF h.pr i n (k + 1) = acc ++ [⟨2, k, i, 0⟩] ++ wkF h.pr i n (k + 1) := by simp
      rw [← hR] at e1 hl htk hbJ
      rw [← hRy] at e1 hly hoy
      simp (maxSteps := 4000000) (disch := first | omega | (refine _root_.id ?_; simp only [pl_int, pl_bool, pl_str, pl_undef, pl_nil, pl_ptr, plA_c, plA_agg, plA_tup, plV_c, plV_agg, List.all_cons, List.all_nil, Bool.and_true, Bool.and_self, eq_self, vi_int, vi_bool, get_app, get_app0, List.getElem?_cons_zero, List.getElem?_cons_succ, Option.join_some, lst_get, getL, upd_at, upd_ne, Nat.reduceBEq])) only [evC_skip, evC_region, evC_seq, evC_block, ev_t, ev_k, putS_some, putS_none, ops_nil, evC_condC, cond_bool, ops_cons, next_some, then_norm, out_norm, Option.map_some, evalOp, AV.cells?, readCells, writeCells, get_app0, set_app0, len_app, List.getElem?_cons_zero, List.getElem?_cons_succ, Option.join_some, List.length_cons, List.length_nil, List.append_assoc, List.cons_append, List.nil_append, Nat.zero_add, Nat.reduceAdd, Nat.reduceLeDiff, List.drop_zero, List.drop_succ_cons, List.take_zero, List.take_succ_cons, List.take_nil, List.drop_nil, ↓reduceIte, reduceCtorEq, binA, binC, intBin, or_false, or_true, V0.toAV, decide_true, and_self, eq_self, IntWalk.i8_in, List.all_cons, List.all_nil, Bool.and_true, beq_self_eq_true, List.map_cons, List.map_nil, List.append_nil, setAt, CV.ok, List.set_cons_zero, partsA, fillC, upd_at, upd_ne, l33_0, h1, h3, h4, h5, hle, hw, get_appl lb, hbJ, hl, htk, Nat.le_refl, e1, hly, hoy, d1, get_appl lt1, a1]
      exact Post.mono (stepK _ (by simp only [upd_ne, Nat.reduceBEq, h1]) (by simp only [upd_at, upd_ne, Nat.reduceBEq]) (by simp only [upd_ne, Nat.reduceBEq, h4]) (by simp only [upd_at])) (fun ex σ' H' q => ⟨q.1, q.2.1, by rw [hcat]; exact q.2.2.1, q.2.2.2.1, q.2.2.2.2.1.trans (by simp only [upd_ne, Nat.reduceBEq]), q.2.2.2.2.2.trans (by simp only [upd_ne, Nat.reduceBEq])⟩)
    · rw [if_neg hc, List.nil_append]
      have hc' : (cr.2 == 0) = false := by simpa using hc
      have stepK := step acc (by omega) (J1 ++ [hfb y]) hJB _ (ho.pre pJB)
      simp only [hfb, ← hRy] at stepK
      clear step hJB pJB ho
      rw [← hR] at e1 hl htk hbJ
      rw [← hRy] at e1 hly hoy
      simp (maxSteps := 4000000) (disch := first | omega | (refine _root_.id ?_; simp only [pl_int, pl_bool, pl_str, pl_undef, pl_nil, pl_ptr, plA_c, plA_agg, plA_tup, plV_c, plV_agg, List.all_cons, List.all_nil, Bool.and_true, Bool.and_self, eq_self, vi_int, vi_bool, get_app, get_app0, List.getElem?_cons_zero, List.getElem?_cons_succ, Option.join_some, lst_get, getL, upd_at, upd_ne, Nat.reduceBEq])) only [evC_skip, evC_region, evC_seq, evC_block, ev_t, ev_k, putS_some, putS_none, ops_nil, evC_condC, cond_bool, ops_cons, next_some, then_norm, out_norm, Option.map_some, evalOp, AV.cells?, readCells, writeCells, get_app0, set_app0, List.getElem?_cons_zero, List.getElem?_cons_succ, Option.join_some, List.length_cons, List.length_nil, List.cons_append, List.nil_append, Nat.zero_add, Nat.reduceAdd, Nat.reduceLeDiff, List.drop_zero, List.drop_succ_cons, List.take_zero, List.take_succ_cons, List.take_nil, List.drop_nil, ↓reduceIte, reduceCtorEq, binA, binC, intBin, or_false, or_true, V0.toAV, decide_true, and_self, eq_self, IntWalk.i8_in, List.all_cons, List.all_nil, Bool.and_true, Bool.false_eq_true, List.map_cons, List.map_nil, List.append_nil, setAt, CV.ok, List.set_cons_zero, partsA, fillC, upd_at, upd_ne, l33_0, h1, h4, h5, hle, hw, get_appl lb, hbJ, hl, htk, Nat.le_refl, e1, hly, hoy, hc']
      exact Post.mono (stepK _ (by simp only [upd_ne, Nat.reduceBEq, h1]) (by simp only [upd_ne, Nat.reduceBEq, h3]) (by simp only [upd_ne, Nat.reduceBEq, h4]) (by simp only [upd_at])) (fun ex σ' H' q => ⟨q.1, q.2.1, q.2.2.1, q.2.2.2.1, q.2.2.2.2.1.trans (by simp only [upd_ne, Nat.reduceBEq]), q.2.2.2.2.2.trans (by simp only [upd_ne, Nat.reduceBEq])⟩)
theorem loop33_1 {h : Hf} (ok : okF h = true) {G : AHeap} {b : Nat} {e : TypeId} {m : BM} (hh : HfAt G h) (hb : G.get b = some ⟨e, hfr h, m⟩) : ∀ (n i : Nat) (_ : i + n = h.xs.length) (acc : List Tm) (_ : acc.length ≤ 6 * i) (J : AHeap) (_ : Pre G J) (v : AV) (_ : ApS 37 4 G J acc.length (trows acc) v) (σ : Sl) (_ : σ 1 = .c (.ptr (some (b, 0)))) (_ : σ 3 = v) (_ : σ 14 = .c (.int .i64 h.xs.length)) (_ : σ 15 = .c (.int .i64 i)),
    Post (evC (ev kk) (.loop l33_1) (σ, J)) fun ex σ' H' => ex = .exit 0 ∧ Pre G H' ∧ ApS 37 4 G H' (acc ++ wiF h.pr n i).length (trows (acc ++ wiF h.pr n i)) (σ' 3) ∧ σ' 1 = .c (.ptr (some (b, 0)))
  | 0, i, hi, acc, ha, J, hJ, v, ho, σ, h1, h3, h14, h15 => by
    have hge : ¬ (i : Int) < h.xs.length := by omega
    have e : wiF h.pr 0 i = [] := rfl
    rw [evC_loop, e, List.append_nil]
    simp only [evC_exit, evC_region, evC_seq, ev_t, putS_some, ops_nil, evC_condC, cond_bool, ops_cons, next_some, then_norm, then_exit, Option.map_some, evalOp, ↓reduceIte, reduceCtorEq, binA, binC, intBin, or_false, or_true, and_true, true_and, decide_false, eq_self, Bool.false_eq_true, Nat.reduceBEq, post_some, upd_at, upd_ne, l33_1, h1, h3, h14, h15, hge]
    exact ⟨hJ, ho⟩
  | n + 1, i, hi, acc, ha, J, hJ, v, ho, σ, h1, h3, h14, h15 => by
    have hlt : (i : Int) < h.xs.length := by omega
    have few := okP_few ok
    have ew : wiF h.pr (n + 1) i = wkF h.pr i 6 0 ++ wiF h.pr n ((i + 1 : Nat) : Int) := rfl
    have L := fun σ h1 h3 h4 h5 => loop33_0 ok hh hb (i := i) (by omega) 6 0 (by omega) (by omega) acc (by omega) J hJ v ho σ h1 h3 h4 h5
    obtain ⟨_, σ', J1, eL, rfl, p1, o1, q1, q14, q15⟩ := L (upd (upd (upd (upd σ 16 (.c (.bool true))) 17 (.c (.int .i64 i))) 4 (.c (.int .i64 i))) 5 (.c (.int .i8 0))) (by simp only [upd_ne, Nat.reduceBEq, h1]) (by simp only [upd_ne, Nat.reduceBEq, h3]) (by simp only [upd_at, upd_ne, Nat.reduceBEq]) (by simp only [upd_at])
    have q14 : σ' 14 = .c (.int .i64 h.xs.length) := q14.trans (by simp only [upd_ne, Nat.reduceBEq, h14])
    have q15 : σ' 15 = .c (.int .i64 i) := q15.trans (by simp only [upd_ne, Nat.reduceBEq, h15])
    have hwl := wkF_len (p := h.pr) (i := i) (n := 6) (k := 0)
    have step := loop33_1 ok hh hb n (i + 1) (by omega) (acc ++ wkF h.pr i 6 0) (by rw [List.length_append]; omega) J1 p1 _ o1
    rw [evC_loop, ew]
    generalize wkF h.pr i 6 0 = w at *
    generalize wiF h.pr n ((i + 1 : Nat) : Int) = ws at *
    simp (maxSteps := 4000000) (disch := first | omega | (refine _root_.id ?_; simp only [pl_int, pl_bool, pl_str, pl_undef, pl_nil, pl_ptr, plA_c, plA_agg, plA_tup, plV_c, plV_agg, List.all_cons, List.all_nil, Bool.and_true, Bool.and_self, eq_self, vi_int, vi_bool, get_app, get_app0, List.getElem?_cons_zero, List.getElem?_cons_succ, Option.join_some, lst_get, getL, upd_at, upd_ne, Nat.reduceBEq])) only [evC_skip, evC_region, evC_seq, evC_block, ev_t, ev_k, putS_some, ops_nil, evC_condC, cond_bool, ops_cons, next_some, then_norm, out_norm, out_exit, Option.map_some, evalOp, ↓reduceIte, reduceCtorEq, binA, binC, intBin, or_false, or_true, decide_true, eq_self, IntWalk.i64_in, upd_at, upd_ne, l33_1, h14, h15, hlt, eL, q15]
    have hcat : acc ++ (w ++ ws) = acc ++ w ++ ws := by simp
    exact Post.mono (step _ (by simp only [upd_ne, Nat.reduceBEq, q1]) (by simp only [upd_ne, Nat.reduceBEq]) (by simp only [upd_ne, Nat.reduceBEq, q14]) (by simp only [upd_at]; rfl)) (fun ex σ' H' q => ⟨q.1, q.2.1, by rw [hcat]; exact q.2.2.1, q.2.2.2⟩)
/-! Room -/
theorem irow_one {ws : List Int} {a : Int} : irow ws ++ [CV.int .i64 a] = irow (ws ++ [a]) := by simp [irow]
theorem rm_iff {h : Hf} {k a : Int} (hk : 0 ≤ k ∧ k ≤ 5) (ha : 0 ≤ a ∧ a ≤ 200) : (tmR h.pr ⟨1, k, 0, a⟩).2 = 0 ↔ okH (cutP h.xs k a) h.g = true := by
  unfold tmR cnR
  rw [if_pos rfl, if_pos rfl, if_pos ⟨hk, ha⟩]
  by_cases c : okH (cutP h.xs k a) h.g = true
  · simp only [c, if_true]
  · simp only [c]; simp
theorem loop63 {h : Hf} {kd : Int} (hk : 0 ≤ kd ∧ kd ≤ 5) (few : h.xs.length ≤ 60) {G : AHeap} {b : Nat} {e : TypeId} {m : BM} (hh : HfAt G h) (hb : G.get b = some ⟨e, hfr h, m⟩) : ∀ (n : Nat) (a : Int) (_ : a + n = 201) (_ : 0 ≤ a) (acc : List Int) (_ : acc.length + n ≤ 1000) (J : AHeap) (_ : Pre G J) (v : AV) (_ : ApS 2 1 G J acc.length (irow acc) v) (σ : Sl) (_ : σ 1 = .c (.int .i64 kd)) (_ : σ 2 = .c (.ptr (some (b, 0)))) (_ : σ 5 = v) (_ : σ 10 = .c (.int .i64 a)),
    Post (evC (ev kk) (.loop l63_0) (σ, J)) fun ex σ' H' => ex = .exit 0 ∧ Pre G H' ∧ ApS 2 1 G H' (acc ++ rmF h.pr kd n a).length (irow (acc ++ rmF h.pr kd n a)) (σ' 5)
  | 0, a, ha, ha0, acc, hac, J, hJ, v, ho, σ, h1, h2, h5, h10 => by
    have hge : ¬ a < 201 := by omega
    have e : rmF h.pr kd 0 a = [] := rfl
    rw [evC_loop, e, List.append_nil]
    simp only [evC_exit, evC_region, evC_seq, ev_t, ev_k, putS_some, ops_nil, evC_condC, cond_bool, ops_cons, next_some, then_norm, then_exit, Option.map_some, evalOp, ↓reduceIte, reduceCtorEq, binA, binC, intBin, or_false, or_true, true_and, decide_false, eq_self, Bool.false_eq_true, Nat.reduceBEq, post_some, upd_at, upd_ne, l63_0, h5, h10, hge]
    exact ⟨hJ, ho⟩
  | n + 1, a, ha, ha0, acc, hac, J, hJ, v, ho, σ, h1, h2, h5, h10 => by
    have hlt : a < 201 := by omega
    have hbJ := hJ.get hb
    have lb := get_some_lt hbJ
    have hl := hfr_len h
    have htk := hfr_t (h := h)
    obtain ⟨y, J1, e1, p1, y1, y2, y3, y4⟩ := run81 (kd := kd) (a := a) (hh.pre hJ) hk (by omega) (by omega)
    have hiff := rm_iff (h := h) hk (a := a) (by omega)
    rw [show okH (cutP h.xs kd a) h.g = okF y by unfold okF; rw [y3, y2]] at hiff
    have hly := hfr_len y
    have hoy := hfr_ok (h := y)
    have pJB : Pre J (J1 ++ [hfb y]) := p1.trans pre_app
    have hJB : Pre G (J1 ++ [hfb y]) := hJ.trans pJB
    have step := loop63 hk few hh hb n (a + 1) (by omega) (by omega)
    have ew : rmF h.pr kd (n + 1) a = (if (tmR h.pr ⟨1, kd, 0, a⟩).2 = 0 then [a] else []) ++ rmF h.pr kd n (a + 1) := rfl
    obtain ⟨q, cp, hv⟩ := ho.isC
    subst hv
    rw [evC_loop, ew]
    obtain ⟨R, hR⟩ : ∃ R, R = hfr h := ⟨_, rfl⟩
    obtain ⟨Ry, hRy⟩ : ∃ R, R = hfr y := ⟨_, rfl⟩
    cases hc : okF y
    · rw [hc] at e1 hiff
      rw [if_neg (fun e => by simpa using hiff.1 e), List.nil_append]
      have stepK := step acc (by omega) (J1 ++ [hfb y]) hJB _ (ho.pre pJB)
      simp only [hfb, ← hRy] at stepK
      clear step hJB pJB ho
      rw [← hR] at e1 hl htk hbJ
      rw [← hRy] at e1 hly hoy
      simp (maxSteps := 4000000) (disch := first | omega | (refine _root_.id ?_; simp only [pl_int, pl_bool, pl_str, pl_undef, pl_nil, pl_ptr, plA_c, plA_agg, plA_tup, plV_c, plV_agg, List.all_cons, List.all_nil, Bool.and_true, Bool.and_self, eq_self, vi_int, vi_bool, get_app, get_app0, List.getElem?_cons_zero, List.getElem?_cons_succ, Option.join_some, lst_get, getL, upd_at, upd_ne, Nat.reduceBEq])) only [evC_skip, evC_region, evC_seq, evC_block, ev_t, ev_k, putS_some, putS_none, ops_nil, evC_condC, cond_bool, ops_cons, next_some, then_norm, out_norm, Option.map_some, evalOp, AV.cells?, readCells, writeCells, get_app0, set_app0, List.getElem?_cons_zero, List.getElem?_cons_succ, Option.join_some, List.length_cons, List.length_nil, List.nil_append, Nat.zero_add, Nat.reduceAdd, List.drop_zero, List.drop_succ_cons, List.take_zero, List.drop_nil, ↓reduceIte, reduceCtorEq, binA, binC, intBin, or_false, or_true, V0.toAV, decide_true, and_self, eq_self, IntWalk.i64_in, Bool.false_eq_true, List.map_cons, List.map_nil, List.append_nil, setAt, List.set_cons_zero, upd_at, upd_ne, l63_0, h1, h2, h10, hlt, hbJ, hl, htk, Nat.le_refl, e1, hly, hoy]
      exact stepK _ (by simp only [upd_ne, Nat.reduceBEq, h1]) (by simp only [upd_ne, Nat.reduceBEq, h2]) (by simp only [upd_ne, Nat.reduceBEq, h5]) (by simp only [upd_at])
    · rw [hc] at e1 hiff
      rw [if_pos (hiff.2 rfl)]
      obtain ⟨v', K, a1, pK, oK, _, _⟩ := ((ho.pre pJB).pre (pre_app (t := [some ⟨2, [.int .i64 a], .own⟩]))).step (bytes := 8) (hJB.app _) (j := J1.length + 1) (t := 2) (cs := [.int .i64 a]) (bm := .own) (m := 1) (cap := .exact 1) (by rw [List.append_assoc, get_app]; rfl) (by omega) rfl (by omega) rfl
      rw [irow_one] at oK
      simp only [List.append_assoc, hfb, ← hRy, List.cons_append, List.nil_append] at a1
      have stepK := step (acc ++ [a]) (by simp; omega) K pK v' (by simpa using oK)
      clear step hJB pJB ho
      have hcat : acc ++ (a :: rmF h.pr kd n (a + 1)) = acc ++ [a] ++ rmF h.pr kd n (a + 1) := by simp
      rw [← hR] at e1 hl htk hbJ
      rw [← hRy] at e1 hly hoy
      simp (maxSteps := 4000000) (disch := first | omega | (refine _root_.id ?_; simp only [pl_int, pl_bool, pl_str, pl_undef, pl_nil, pl_ptr, plA_c, plA_agg, plA_tup, plV_c, plV_agg, List.all_cons, List.all_nil, Bool.and_true, Bool.and_self, eq_self, vi_int, vi_bool, get_app, get_app0, List.getElem?_cons_zero, List.getElem?_cons_succ, Option.join_some, lst_get, getL, upd_at, upd_ne, Nat.reduceBEq])) only [evC_skip, evC_region, evC_seq, evC_block, ev_t, ev_k, putS_some, putS_none, ops_nil, evC_condC, cond_bool, ops_cons, next_some, then_norm, out_norm, Option.map_some, evalOp, AV.cells?, readCells, writeCells, get_app0, set_app0, len_app, List.getElem?_cons_zero, List.getElem?_cons_succ, Option.join_some, List.length_cons, List.length_nil, List.append_assoc, List.cons_append, List.nil_append, Nat.zero_add, Nat.reduceAdd, List.drop_zero, List.drop_succ_cons, List.take_zero, List.drop_nil, ↓reduceIte, reduceCtorEq, binA, binC, intBin, or_false, or_true, V0.toAV, decide_true, and_self, eq_self, IntWalk.i64_in, List.map_cons, List.map_nil, List.append_nil, setAt, List.set_cons_zero, partsA, fillC, upd_at, upd_ne, l63_0, h1, h2, h5, h10, hlt, hbJ, hl, htk, Nat.le_refl, e1, hly, hoy, a1]
      exact Post.mono (stepK _ (by simp only [upd_ne, Nat.reduceBEq, h1]) (by simp only [upd_ne, Nat.reduceBEq, h2]) (by simp only [upd_at, upd_ne, Nat.reduceBEq]) (by simp only [upd_at])) (fun ex σ' H' q => ⟨q.1, q.2.1, by rw [hcat]; exact q.2.2⟩)
theorem run63 {h : Hf} {kd : Int} {H : AHeap} (hh : HfAt H h) (hk : 0 ≤ kd ∧ kd ≤ 5) (few : h.xs.length ≤ 60) : ∃ c J, ev kk 63 [.agg (hfr h), .c (.int .i64 kd)] H = some (.c c, J) ∧ Pre H J ∧ ApS 2 1 H J (rmF h.pr kd 201 0).length (irow (rmF h.pr kd 201 0)) (.c c) := by
  have hb : AHeap.get (H ++ [hfb h, some ⟨2, [], .own⟩]) H.length = hfb h := by rw [get_app0]; rfl
  obtain ⟨_, σ', J1, eL, rfl, p1, o1⟩ := loop63 hk few (hh.app [hfb h, some ⟨2, [], .own⟩]) hb 201 0 (by omega) (by omega) [] (by simp) (H ++ [hfb h, some ⟨2, [], .own⟩]) .refl (.c (.slice (some (H.length + 1, 0)) 0 (.exact 0))) (.inl ⟨rfl, rfl, _, rfl⟩) (lst [.agg (hfr h), .c (.int .i64 kd), .c (.ptr (some (H.length, 0))), .c .undef, .c (.slice none 0 (.exact 0)), .c (.slice (some (H.length + 1, 0)) 0 (.exact 0)), .c .undef, .c .undef, .c .undef, .c (.slice (some (H.length + 1, 0)) 0 (.exact 0)), .c (.int .i64 0)]) rfl rfl rfl rfl
  rw [List.nil_append] at o1
  obtain ⟨q, cp, hv⟩ := o1.isC
  rw [hv] at o1
  have pH : Pre H J1 := pre_app.trans p1
  rw [ev_call c63]; unfold k63; rw [evB_eq rfl]
  simp (maxSteps := 4000000) (disch := first | omega | (refine _root_.id ?_; simp only [pl_int, pl_bool, pl_str, pl_undef, pl_nil, pl_ptr, plA_c, plA_agg, plA_tup, plV_c, plV_agg, List.all_cons, List.all_nil, Bool.and_true, Bool.and_self, eq_self, vi_int, vi_bool, get_app, get_app0, List.getElem?_cons_zero, List.getElem?_cons_succ, Option.join_some, lst_get, getL, upd_at, upd_ne, Nat.reduceBEq])) only [evC_ret, evC_region, evC_seq, evC_block, ev_t, ev_k, putS_some, upd_l, ops_nil, ops_cons, next_some, then_norm, out_exit, done_ret, putL, getL, Option.bind_some, Option.map_some, evalOp, AV.cells?, len_app, List.length_cons, List.length_nil, List.append_assoc, List.cons_append, List.nil_append, Nat.zero_add, ↓reduceIte, evalRs, evalR, AV.toV0?, mkRes, V0.toAV, lst_get, eq_self, partsA, fillC, finish_no, upd_at, eL, hv]
  refine ⟨_, _, rfl, pH, ?_⟩
  rcases o1 with ⟨h1, h2, q', h3⟩ | ⟨h1, h2, id, h3, h4, h5⟩
  · exact .inl ⟨h1, h2, q', h3⟩
  · exact .inr ⟨h1, h2, id, h3, by simp at h4; omega, h5⟩
end Go.Proofs.YtcfabmmonoljeaaDoor
