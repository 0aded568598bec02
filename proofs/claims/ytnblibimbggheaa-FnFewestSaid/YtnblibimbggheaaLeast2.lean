/- What functions of the program answer: part Least2. -/
import Derived.Test.YtnblibimbggheaaLeast
import Derived.Test.YtnblibimbggheaaTmL
set_option linter.unusedVariables false
set_option linter.unusedSimpArgs false
set_option linter.unusedSectionVars false
namespace Go.Proofs.Ytnblibimbggheaa
open Go Go.Proofs.Ytnblibimbggheaa.VI
set_option maxHeartbeats 16000000
set_option maxRecDepth 20000
/-! .. and the walk -/
theorem ApS_step2 {e t : TypeId} {size bytes : Nat} {G J : AHeap} {n m j : Nat} {cells cs : List CV} {v : AV} {bm : BM} {cap : Cap} (h : ApS e size G J n cells v) (hp : Pre G J) (hj : J.get j = some ⟨t, cs, bm⟩) (hm : 0 < m) (hlen : cs.length = m * size) (hb : (n + m) * bytes ≤ 70368744177664) (hok : cs.all CV.ok = true) :
    ∃ (v' : AV) (K : AHeap), appendA J e size bytes v (.c (.slice (some (j, 0)) m cap)) = some (v', K) ∧ Pre G K ∧ ApS e size G K (n + m) (cells ++ cs) v' ∧ (∀ k b, J.get k = some b → b.e ≠ e → K.get k = some b) := by
  rcases h with ⟨rfl, rfl, q, rfl⟩ | ⟨h1, h2, id, rfl, h3, h4⟩
  · refine ⟨_, J ++ [some ⟨e, cs, .opn⟩], apnd_new hj hm hlen (by simpa using hb) hok, hp.app _, .inr ⟨by omega, by simpa using hlen, J.length, by rw [Nat.zero_add], hp.len, by rw [get_app0]; rfl⟩, fun k b hk _ => by rw [get_appl (get_some_lt hk)]; exact hk⟩
  · refine ⟨_, J.set id none ++ [some ⟨e, cells ++ cs, .opn⟩], apnd_ext h4 h2 h1 hj hm hlen hb hok, (hp.set h3).app _, .inr ⟨by omega, by rw [List.length_append, h2, hlen, Nat.add_mul], J.length, rfl, hp.len, by rw [get_apps0]; rfl⟩, fun k b hk ho => ?_⟩
    have : k ≠ id := fun e => by rw [e, h4] at hk; injection hk with hk; rw [← hk] at ho; exact ho rfl
    rw [get_appl (by rw [List.length_set]; exact get_some_lt hk), get_neh this]; exact hk
theorem HfNw.to {G J K : AHeap} {y : Hf} (h : HfNw G J y) (q : ∀ i b, J.get i = some b → b.e ≠ 36 → K.get i = some b) : HfNw G K y := ⟨h.few, h.rng, fun h0 => by
  obtain ⟨id, m, h1, h2, h3, h4⟩ := h.new h0
  exact ⟨id, m, h1, h2, q id _ h3 (show (119 : TypeId) ≠ 36 by decide), h4⟩⟩
/-- The halves that the ways lead to. -/
def HsOk (p : Pr) (G J : AHeap) (ys : List Hf) (ts : List Tm) (v : AV) : Prop := ys.map Hf.pr = ts.map (fun t => (tmR p t).1) ∧ (∀ y ∈ ys, HfNw G J y) ∧ ApS 36 18 G J ys.length (hrows ys) v
theorem HsOk.pre {p : Pr} {G J K : AHeap} {ys : List Hf} {ts : List Tm} {v : AV} (h : HsOk p G J ys ts v) (k : Pre J K) : HsOk p G K ys ts v := ⟨h.1, fun y hy => (h.2.1 y hy).pre k, h.2.2.pre k⟩
theorem hrows_snoc {ys : List Hf} {y : Hf} : hrows ys ++ hfr y = hrows (ys ++ [y]) := by simp [hrows]
theorem HsOk.step {p : Pr} {G J : AHeap} {ys : List Hf} {ts : List Tm} {v : AV} {y : Hf} {t : Tm} {j : Nat} {te : TypeId} {bm : BM} {cap : Cap} (h : HsOk p G J ys ts v) (hp : Pre G J) (hj : J.get j = some ⟨te, hfr y, bm⟩) (hy : HfNw G J y) (hyp : y.pr = (tmR p t).1) (few : ys.length ≤ 1000) :
    ∃ (v' : AV) (K : AHeap), appendA J 36 18 48 v (.c (.slice (some (j, 0)) 1 cap)) = some (v', K) ∧ Pre G K ∧ HsOk p G K (ys ++ [y]) (ts ++ [t]) v' := by
  obtain ⟨v', K, a1, pK, oK, sK⟩ := ApS_step2 h.2.2 hp hj (m := 1) (cap := cap) (bytes := 48) (by omega) (by rw [hfr_len]) (by omega) hfr_ok
  rw [hrows_snoc] at oK
  refine ⟨v', K, a1, pK, by simp [h.1, hyp], fun z hz => ?_, by simpa using oK⟩
  rcases List.mem_append.1 hz with hz | hz
  · exact (h.2.1 z hz).to sK
  · rw [List.mem_singleton.1 hz]; exact hy.to sK
theorem TsNw.one {G J : AHeap} {id : Nat} {t : Tm} {cap : Cap} (h : G.length ≤ id) (hb : J.get id = some ⟨38, trow t, .own⟩) : TsNw G J (.slice (some (id, 0)) 1 cap) [t] := ⟨_, _, rfl, fun _ => ⟨id, .own, rfl, h, by rw [hb]; simp [trows], .inl rfl⟩⟩
theorem TsNw.two {G J : AHeap} {id : Nat} {t w : Tm} {cap : Cap} (h : G.length ≤ id) (hb : J.get id = some ⟨38, trow t ++ trow w, .own⟩) : TsNw G J (.slice (some (id, 0)) 2 cap) [t, w] := ⟨_, _, rfl, fun _ => ⟨id, .own, rfl, h, by rw [hb]; simp [trows], .inl rfl⟩⟩
theorem loop46_0 {h : Hf} (ok : okF h = true) {G : AHeap} {b : Nat} {e : TypeId} {m : BM} (hh : HfAt G h) (hb : G.get b = some ⟨e, hfr h, m⟩) {a : Int} {ts : List Tm} {q : Option (Nat × Nat)} {cap : Cap} (hts : Tts G q ts) (few : ts.length ≤ 366) (hmem : ∀ t ∈ ts, rngT t ∧ (tmR h.pr t).2 = 0) : ∀ (n i : Nat) (_ : i + n = ts.length) (J : AHeap) (_ : Pre G J) (v : AV) (ys : List Hf) (_ : HsOk h.pr G J ys (ts.take i) v) (σ : Sl) (_ : σ 1 = .c (.int .i64 a)) (_ : σ 3 = .c (.ptr (some (b, 0)))) (_ : σ 8 = .c (.slice q ts.length cap)) (_ : σ 9 = v) (_ : σ 10 = .c (.int .i64 i)),
    Post (evC (ev kk) (.loop l46_0) (σ, J)) fun ex σ' H' => Pre G H' ∧ match ltA h.pr a (ts.drop i) with
      | some t => ex = .ret ∧ σ' 7 = .c (.int .i64 0) ∧ ∃ c, σ' 6 = .c c ∧ TsNw G H' c [t]
      | none => ex = .exit 0 ∧ (∃ ys', HsOk h.pr G H' ys' ts (σ' 9)) ∧ σ' 1 = .c (.int .i64 a) ∧ σ' 8 = .c (.slice q ts.length cap) ∧ σ' 2 = σ 2
  | 0, i, hi, J, hJ, v, ys, ho, σ, h1, h3, h8, h9, h10 => by
    have hge : ¬ ((i : Int) < ts.length) := by omega
    have e0 : ts.drop i = [] := List.drop_eq_nil_of_le (by omega)
    have e1 : ts.take i = ts := List.take_of_length_le (by omega)
    rw [e1] at ho
    rw [evC_loop, e0]
    simp only [evC_exit, evC_region, evC_seq, ev_t, putS_some, ops_nil, evC_condC, cond_bool, ops_cons, next_some, then_norm, then_exit, Option.map_some, evalOp, ↓reduceIte, reduceCtorEq, binA, binC, intBin, or_false, or_true, and_true, true_and, decide_false, and_self, eq_self, Bool.false_eq_true, Nat.reduceBEq, post_some, upd_at, upd_ne, l46_0, h1, h8, h9, h10, hge, ltA]
    exact ⟨hJ, ⟨ys, ho⟩⟩
  | n + 1, i, hi, J, hJ, v, ys, ho, σ, h1, h3, h8, h9, h10 => by
    have hil : i < ts.length := by omega
    have hlt : (i : Int) < ts.length := by omega
    obtain ⟨id, te, tm, rfl, hbl⟩ := (hts.pre hJ) (by omega)
    have hle : i * 4 + 4 ≤ (trows ts).length := by rw [trowl]; omega
    have hcut := trc hil
    have ht := hmem _ (List.getElem_mem hil)
    have etk : ts.take (i + 1) = ts.take i ++ [ts[i]'hil] := by rw [List.take_add_one, List.getElem?_eq_getElem hil]; rfl
    have hyl : ys.length = i := by
      have := congrArg List.length ho.1; simp at this; omega
    have step := loop46_0 ok hh hb (a := a) (q := some (id, 0)) (cap := cap) hts few hmem n (i + 1) (by omega)
    rw [etk] at step
    rw [evC_loop, ltA_step hil]
    generalize ts[i]'hil = t at *
    obtain ⟨y, J2, e2, pA, y1, y2⟩ := run58 (hh.pre hJ) ok ht.1 (hJ.get hb)
    have oy : okF y = true := by
      have := tm_ok ht.2; rw [← y1] at this; exact this
    rw [ht.2] at e2
    have s1 := run51 oy (y2.at_.pre (pre_app (t := [hfb y])))
    have hbl2 := pA.get hbl
    have lb2 := get_some_lt hbl2
    have hly := hfr_len y
    have hty := hfr_t (h := y)
    have hoy := hfr_ok (h := y)
    have hy1 : (hfr y)[1]? = some (.slice y.p y.xs.length y.cap) := rfl
    have pB : Pre J (J2 ++ [hfb y]) := pA.trans pre_app
    have hsum : sumN (tmR h.pr t).1.xs = sumN y.xs := by rw [← y1]
    rw [hsum]
    by_cases hs : sumN y.xs = a
    · rw [if_pos hs]
      have hs' : (sumN y.xs == a) = true := by simpa using hs
      clear step
      have nT : ∀ (K : AHeap), Pre G J2 → TsNw G (J2 ++ (hfb y :: [some ⟨38, trow t, .own⟩])) (.slice (some (J2.length + 1, 0)) 1 (.exact 1)) [t] := fun _ q => TsNw.one (by have := q.len; omega) (by rw [get_app]; rfl)
      have nT := nT G (hJ.trans pA)
      have pT : Pre G (J2 ++ (hfb y :: [some ⟨38, trow t, .own⟩])) := (hJ.trans pA).app _
      obtain ⟨Ry, hRy⟩ : ∃ R, R = hfr y := ⟨_, rfl⟩
      simp only [hfb, ← hRy] at e2 hly hty hoy hy1 s1 nT pT
      simp (maxSteps := 4000000) (disch := first | omega | (refine _root_.id ?_; simp only [pl_int, pl_bool, pl_str, pl_undef, pl_nil, pl_ptr, plA_c, plA_agg, plA_tup, plV_c, plV_agg, List.all_cons, List.all_nil, Bool.and_true, Bool.and_self, eq_self, vi_int, vi_bool, get_app, get_app0, List.getElem?_cons_zero, List.getElem?_cons_succ, Option.join_some, lst_get, getL, upd_at, upd_ne, Nat.reduceBEq])) only [evC_skip, evC_ret, evC_region, evC_seq, evC_block, ev_t, ev_k, putS_some, putS_none, ops_nil, evC_condC, cond_bool, ops_cons, next_some, then_norm, then_ret, out_ret, Option.map_some, evalOp, AV.cells?, readCells, readCell, writeCells, get_app0, set_app0, len_app, List.getElem?_cons_zero, List.getElem?_cons_succ, Option.join_some, List.length_cons, List.length_nil, List.append_assoc, List.cons_append, List.nil_append, Nat.zero_add, Nat.reduceAdd, List.drop_succ_cons, List.take_zero, List.drop_nil, ↓reduceIte, reduceCtorEq, binA, binC, intBin, or_false, or_true, true_and, V0.toAV, decide_true, and_self, eq_self, List.map_cons, List.map_nil, List.append_nil, setAt, List.set_cons_zero, partsA, fillC, post_some, upd_at, upd_ne, cast_nonneg, cast_toNat, l46_0, h1, h3, h8, h10, hlt, hbl, hle, hcut, Nat.le_refl, e2, hly, hoy, hy1, s1, hs', hbl2, get_appl lb2]
      exact ⟨pT, _, rfl, nT⟩
    · rw [if_neg hs]
      have hs' : (sumN y.xs == a) = false := by simpa using hs
      have pC : Pre J (J2 ++ (hfb y :: [some ⟨36, hfr y, .own⟩])) := pA.trans pre_app
      obtain ⟨v', K, a1, pK, oK⟩ := (ho.pre pC).step (t := t) (j := J2.length + 1) (cap := .exact 1) (hJ.trans pC) (by rw [get_app]; rfl) ((y2.pre (pre_app (t := hfb y :: [some ⟨36, hfr y, .own⟩]))).base hJ) y1 (by omega)
      have stepK := step K pK v' _ oK
      clear step oK
      obtain ⟨q9, c9, hv⟩ := ho.2.2.isC
      subst hv
      obtain ⟨Ry, hRy⟩ : ∃ R, R = hfr y := ⟨_, rfl⟩
      simp only [hfb, ← hRy] at e2 hly hty hoy hy1 s1 a1
      simp (maxSteps := 4000000) (disch := first | omega | (refine _root_.id ?_; simp only [pl_int, pl_bool, pl_str, pl_undef, pl_nil, pl_ptr, plA_c, plA_agg, plA_tup, plV_c, plV_agg, List.all_cons, List.all_nil, Bool.and_true, Bool.and_self, eq_self, vi_int, vi_bool, get_app, get_app0, List.getElem?_cons_zero, List.getElem?_cons_succ, Option.join_some, lst_get, getL, upd_at, upd_ne, Nat.reduceBEq])) only [evC_skip, evC_region, evC_seq, evC_block, ev_t, ev_k, putS_some, putS_none, ops_nil, evC_condC, cond_bool, ops_cons, next_some, then_norm, out_norm, Option.map_some, evalOp, AV.cells?, readCells, readCell, writeCells, get_app0, set_app0, len_app, List.getElem?_cons_zero, List.getElem?_cons_succ, Option.join_some, List.length_cons, List.length_nil, List.append_assoc, List.cons_append, List.nil_append, Nat.zero_add, Nat.reduceAdd, List.drop_zero, List.drop_succ_cons, List.take_zero, List.drop_nil, ↓reduceIte, reduceCtorEq, binA, binC, intBin, or_false, or_true, V0.toAV, decide_true, and_self, eq_self, IntWalk.i64_in, Bool.false_eq_true, List.map_cons, List.map_nil, List.append_nil, setAt, List.set_cons_zero, partsA, fillC, upd_at, upd_ne, cast_nonneg, cast_toNat, l46_0, h1, h3, h8, h9, h10, hlt, hbl, hle, hcut, Nat.le_refl, e2, hly, hoy, hty, hy1, s1, hs', a1]
      exact Post.mono (stepK _ (by simp only [upd_ne, Nat.reduceBEq, h1]) (by simp only [upd_ne, Nat.reduceBEq, h3]) (by simp only [upd_ne, Nat.reduceBEq, h8]) (by simp only [upd_at, upd_ne, Nat.reduceBEq]) (by simp only [upd_at]; rfl)) (fun ex σ' H' q => ⟨q.1, by
        have := q.2
        revert this
        split
        · exact fun q => q
        · rintro ⟨q1, q2, q3, q4, q5⟩; exact ⟨q1, q2, q3, q4, q5.trans (by simp only [upd_ne, Nat.reduceBEq])⟩⟩)
end Go.Proofs.Ytnblibimbggheaa
