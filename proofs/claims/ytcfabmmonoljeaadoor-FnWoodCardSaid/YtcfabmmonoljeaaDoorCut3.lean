/- What functions of the program answer: part Cut3. -/
import Derived.Test.YtcfabmmonoljeaaDoorCut2
set_option linter.unusedVariables false
set_option linter.unusedSimpArgs false
set_option linter.unusedSectionVars false
namespace Go.Proofs.YtcfabmmonoljeaaDoor
open Go Go.Proofs.YtcfabmmonoljeaaDoor.VI
set_option maxHeartbeats 16000000
set_option maxRecDepth 20000
/-! The reference's further notch -/
def insG (x : Nt) : Bool → List Nt → List Nt
  | d, [] => if d then [] else [x]
  | d, y :: ys => if d = false ∧ x.a < y.a then x :: y :: insG x true ys else y :: insG x d ys
theorem insG_t {x : Nt} : ∀ {ys : List Nt}, insG x true ys = ys
  | [] => rfl
  | y :: ys => by unfold insG; rw [if_neg (by simp), insG_t]
theorem insG_f {x : Nt} : ∀ {ys : List Nt}, insG x false ys = cutP ys x.k x.a
  | [] => rfl
  | y :: ys => by
    unfold insG cutP cutI
    by_cases h : y.a ≤ x.a
    · rw [if_neg (by omega), if_pos h, insG_f]; rfl
    · rw [if_pos ⟨rfl, by omega⟩, if_neg h, insG_t]; rfl
theorem insG_step {x : Nt} {d : Bool} {ys : List Nt} {i : Nat} (hi : i < ys.length) : insG x d (ys.drop i) = if d = false ∧ x.a < (ys[i]'hi).a then x :: (ys[i]'hi) :: insG x true (ys.drop (i + 1)) else (ys[i]'hi) :: insG x d (ys.drop (i + 1)) := by
  rw [List.drop_eq_getElem_cons hi]; rfl
theorem nrows_snoc {xs : List Nt} {x : Nt} : nrows xs ++ nrow x = nrows (xs ++ [x]) := by simp [nrows]
theorem loop83 {p : Option (Nat × Nat)} {cap : Cap} {xs : List Nt} {x : Nt} {nb : Nat} {G : AHeap} (hlen : xs.length ≤ 1048576) (hr : ∀ y ∈ xs, rngN y) (hx : rngN x) (hp : Nts G p xs) (hn : G.get nb = some ⟨91, nrow x, .own⟩) : ∀ (n i : Nat) (_ : i + n = xs.length) (d : Bool) (acc : List Nt) (_ : acc.length ≤ i + 1) (_ : d = false → acc.length ≤ i) (J : AHeap) (_ : Pre G J) (v : AV) (_ : ApS 91 2 G J acc.length (nrows acc) v) (σ : Sl) (_ : σ 0 = .c (.slice p xs.length cap)) (_ : σ 7 = v) (_ : σ 8 = .c (.ptr (some (nb, 0)))) (_ : σ 9 = .c (.bool d)) (_ : σ 10 = .c (.int .i64 i)),
    Post (evC (ev kk) (.loop l83_0) (σ, J)) fun ex σ' H' => ex = .exit 0 ∧ ∃ (acc' : List Nt) (d' : Bool), Pre G H' ∧ ApS 91 2 G H' acc'.length (nrows acc') (σ' 7) ∧ acc'.length ≤ xs.length + 1 ∧ σ' 8 = .c (.ptr (some (nb, 0))) ∧ σ' 9 = .c (.bool d') ∧ acc' ++ (if d' = true then [] else [x]) = acc ++ insG x d (xs.drop i)
  | 0, i, hi, d, acc, ha, ha', J, hJ, v, ho, σ, h0, h7, h8, h9, h10 => by
    have hge : ¬ ((i : Int) < xs.length) := by omega
    have e : xs.drop i = [] := List.drop_eq_nil_of_le (by omega)
    rw [evC_loop, e]
    simp only [evC_exit, evC_region, evC_seq, ev_t, putS_some, ops_nil, evC_condC, cond_bool, ops_cons, next_some, then_norm, then_exit, Option.map_some, evalOp, ↓reduceIte, reduceCtorEq, binA, binC, intBin, or_false, or_true, true_and, decide_false, eq_self, Bool.false_eq_true, Nat.reduceBEq, post_some, upd_at, upd_ne, l83_0, h0, h7, h8, h9, h10, hge]
    exact ⟨acc, d, hJ, ho, by omega, rfl, rfl⟩
  | n + 1, i, hi, d, acc, ha, ha', J, hJ, v, ho, σ, h0, h7, h8, h9, h10 => by
    have hil : i < xs.length := by omega
    have hlt : (i : Int) < xs.length := by omega
    obtain ⟨id, t, bm, rfl, hbl⟩ := _root_.id hp (by omega)
    have hbJ := hJ.get hbl
    have hnJ := hJ.get hn
    have hle : i * 2 + 2 ≤ (nrows xs).length := by rw [nrowl]; omega
    have hcut := nrc hil
    have hg1 := nr1 hil
    have l1 := get_some_lt hbJ
    have l2 := get_some_lt hnJ
    rw [evC_loop, insG_step hil]
    have hxi := hr xs[i] (List.getElem_mem hil)
    generalize hy : xs[i]'hil = y at *
    have step := fun d' acc' h1 h2 K hK v' hv' => loop83 (cap := cap) hlen hr hx hp hn n (i + 1) (by omega) d' acc' h1 h2 K hK v' hv'
    obtain ⟨q, cp, hv⟩ := ho.isC
    subst hv
    by_cases c : d = false ∧ x.a < y.a
    · obtain ⟨rfl, c⟩ := c
      rw [if_pos ⟨rfl, c⟩]
      obtain ⟨v1, K1, a1, p1, o1, _, _⟩ := (ho.pre (pre_app (t := [some ⟨91, nrow x, .own⟩]))).step (bytes := 4) (hJ.app _) (j := J.length) (t := 91) (cs := nrow x) (bm := .own) (m := 1) (cap := .exact 1) (by rw [get_app0]; rfl) (by omega) rfl (by have := ha' rfl; omega) rfl
      have hb1 := p1.get hbl
      have l3 := get_some_lt hb1
      obtain ⟨q1, cp1, hv1⟩ := o1.isC
      subst hv1
      obtain ⟨v2, K2, a2, p2, o2, _, _⟩ := (o1.pre (pre_app (t := [some ⟨91, nrow y, .own⟩]))).step (bytes := 4) (p1.app _) (j := K1.length) (t := 91) (cs := nrow y) (bm := .own) (m := 1) (cap := .exact 1) (by rw [get_app0]; rfl) (by omega) rfl (by omega) rfl
      rw [nrows_snoc, nrows_snoc] at o2
      simp (maxSteps := 4000000) (disch := first | omega | (refine _root_.id ?_; simp only [pl_int, pl_bool, pl_str, pl_undef, pl_nil, pl_ptr, plA_c, plA_agg, plA_tup, plV_c, plV_agg, List.all_cons, List.all_nil, Bool.and_true, Bool.and_self, eq_self, vi_int, vi_bool, get_app, get_app0, List.getElem?_cons_zero, List.getElem?_cons_succ, Option.join_some, lst_get, getL, upd_at, upd_ne, Nat.reduceBEq])) only [evC_skip, evC_region, evC_seq, evC_block, ev_t, ev_k, putS_some, ops_nil, ops_consg, guard_bool, evC_condC, cond_bool, ops_cons, next_some, nextD_some, then_norm, out_norm, Option.map_some, evalOp, AV.cells?, readCells, readCell, List.getElem?_cons_zero, List.getElem?_cons_succ, List.length_cons, List.length_nil, List.nil_append, Nat.zero_add, Nat.reduceAdd, Nat.reduceLeDiff, List.drop_zero, List.drop_succ_cons, List.take_zero, List.take_succ_cons, List.take_nil, List.drop_nil, ↓reduceIte, reduceCtorEq, binA, binC, intBin, or_false, or_true, decide_true, and_self, eq_self, IntWalk.i64_in, Bool.not_false, List.append_nil, setAt, evC_drawn, dr_nil, dr_cons, chk_nil, unA, partsA, fillC, upd_at, upd_ne, cast_nonneg, cast_toNat, l83_0, h0, h7, h8, h9, h10, hlt, hbJ, hnJ, hg1, c, a1, hb1, hle, hcut, a2]
      refine Post.mono (step true (acc ++ [x] ++ [y]) (by have := ha' rfl; simp; omega) (by simp) K2 p2 v2 (by simpa using o2) _ (by simp only [upd_ne, Nat.reduceBEq, h0]) (by simp only [upd_at, upd_ne, Nat.reduceBEq]) (by simp only [upd_ne, Nat.reduceBEq, h8]) (by simp only [upd_at, upd_ne, Nat.reduceBEq]) (by simp only [upd_at]; rfl)) ?_
      rintro ex σ' H' ⟨q1, acc', d', q2, q3, q4, q5, q6, q7⟩
      exact ⟨q1, acc', d', q2, q3, q4, q5, q6, by rw [q7]; simp⟩
    · rw [if_neg c]
      obtain ⟨v2, K2, a2, p2, o2, _, _⟩ := (ho.pre (pre_app (t := [some ⟨91, nrow y, .own⟩]))).step (bytes := 4) (hJ.app _) (j := J.length) (t := 91) (cs := nrow y) (bm := .own) (m := 1) (cap := .exact 1) (by rw [get_app0]; rfl) (by omega) rfl (by omega) rfl
      rw [nrows_snoc] at o2
      cases d
      · have c : ¬ x.a < y.a := fun h => c ⟨rfl, h⟩
        simp (maxSteps := 4000000) (disch := first | omega | (refine _root_.id ?_; simp only [pl_int, pl_bool, pl_str, pl_undef, pl_nil, pl_ptr, plA_c, plA_agg, plA_tup, plV_c, plV_agg, List.all_cons, List.all_nil, Bool.and_true, Bool.and_self, eq_self, vi_int, vi_bool, get_app, get_app0, List.getElem?_cons_zero, List.getElem?_cons_succ, Option.join_some, lst_get, getL, upd_at, upd_ne, Nat.reduceBEq])) only [evC_skip, evC_region, evC_seq, evC_block, ev_t, ev_k, putS_some, ops_nil, ops_consg, guard_bool, evC_condC, cond_bool, ops_cons, next_some, nextD_some, then_norm, out_norm, Option.map_some, evalOp, AV.cells?, readCells, readCell, List.getElem?_cons_zero, List.getElem?_cons_succ, List.length_cons, List.length_nil, List.nil_append, Nat.zero_add, Nat.reduceAdd, Nat.reduceLeDiff, List.drop_succ_cons, List.take_zero, List.drop_nil, ↓reduceIte, reduceCtorEq, binA, binC, intBin, or_false, or_true, decide_true, decide_false, and_self, eq_self, IntWalk.i64_in, Bool.not_false, Bool.false_eq_true, List.append_nil, setAt, evC_drawn, dr_nil, dr_cons, chk_nil, unA, partsA, fillC, upd_at, upd_ne, cast_nonneg, cast_toNat, l83_0, h0, h7, h8, h9, h10, hlt, hbJ, hnJ, hg1, c, hle, hcut, a2]
        refine Post.mono (step false (acc ++ [y]) (by have := ha' rfl; simp; omega) (by have := ha' rfl; simp; omega) K2 p2 v2 (by simpa using o2) _ (by simp only [upd_ne, Nat.reduceBEq, h0]) (by simp only [upd_at, upd_ne, Nat.reduceBEq]) (by simp only [upd_ne, Nat.reduceBEq, h8]) (by simp only [upd_ne, Nat.reduceBEq, h9]) (by simp only [upd_at]; rfl)) ?_
        rintro ex σ' H' ⟨q1, acc', d', q2, q3, q4, q5, q6, q7⟩
        exact ⟨q1, acc', d', q2, q3, q4, q5, q6, by rw [q7]; simp⟩
      · simp (maxSteps := 4000000) (disch := first | omega | (refine _root_.id ?_; simp only [pl_int, pl_bool, pl_str, pl_undef, pl_nil, pl_ptr, plA_c, plA_agg, plA_tup, plV_c, plV_agg, List.all_cons, List.all_nil, Bool.and_true, Bool.and_self, eq_self, vi_int, vi_bool, get_app, get_app0, List.getElem?_cons_zero, List.getElem?_cons_succ, Option.join_some, lst_get, getL, upd_at, upd_ne, Nat.reduceBEq])) only [evC_skip, evC_region, evC_seq, evC_block, ev_t, ev_k, putS_some, ops_nil, ops_consg, guard_bool, evC_condC, cond_bool, ops_cons, next_some, nextD_some, then_norm, out_norm, Option.map_some, evalOp, AV.cells?, readCells, List.length_cons, List.length_nil, List.nil_append, Nat.zero_add, Nat.reduceAdd, Nat.reduceLeDiff, List.drop_succ_cons, List.take_zero, List.drop_nil, ↓reduceIte, reduceCtorEq, binA, binC, intBin, or_false, or_true, decide_true, and_self, eq_self, IntWalk.i64_in, Bool.not_true, Bool.false_eq_true, List.append_nil, setAt, evC_drawn, dr_nil, dr_cons, chk_nil, unA, partsA, fillC, upd_at, upd_ne, cast_nonneg, cast_toNat, l83_0, h0, h7, h9, h10, hlt, hbJ, hle, hcut, a2]
        refine Post.mono (step true (acc ++ [y]) (by simp; omega) (by simp) K2 p2 v2 (by simpa using o2) _ (by simp only [upd_ne, Nat.reduceBEq, h0]) (by simp only [upd_at, upd_ne, Nat.reduceBEq]) (by simp only [upd_ne, Nat.reduceBEq, h8]) (by simp only [upd_ne, Nat.reduceBEq, h9]) (by simp only [upd_at]; rfl)) ?_
        rintro ex σ' H' ⟨q1, acc', d', q2, q3, q4, q5, q6, q7⟩
        exact ⟨q1, acc', d', q2, q3, q4, q5, q6, by rw [q7]; simp⟩
theorem run83 {p : Option (Nat × Nat)} {cap : Cap} {xs : List Nt} {k a : Int} {H : AHeap} (hlen : xs.length ≤ 1048576) (hr : ∀ y ∈ xs, rngN y) (hp : Nts H p xs) (hk : 0 ≤ k ∧ k ≤ 5) (ha : 0 ≤ a ∧ a ≤ 200) : ∃ q c J, ev kk 83 [.c (.slice p xs.length cap), .c (.int .i64 k), .c (.int .i64 a)] H = some (.c (.slice q (xs.length + 1) c), J) ∧ Pre H J ∧ NwN H J q (cutP xs k a) := by
  have hx : rngN ⟨k, a⟩ := by unfold rngN; dsimp only; omega
  have hw8 : IntKind.i8.wrap k = k := IntWalk.i8_in _ (by omega)
  have hw16 : IntKind.i16.wrap a = a := IntWalk.i16_in _ (by omega)
  obtain ⟨_, σ', J, eL, rfl, acc, d, pJ, o, hl, q8, q9, hq⟩ := loop83 (cap := cap) (x := ⟨k, a⟩) (nb := H.length + 1) (G := H ++ [some ⟨91, [], .own⟩, some ⟨91, nrow ⟨k, a⟩, .own⟩]) hlen hr hx (hp.app _) (by rw [get_app]; rfl) xs.length 0 (by omega) false [] (by simp) (by simp) (H ++ [some ⟨91, [], .own⟩, some ⟨91, nrow ⟨k, a⟩, .own⟩]) .refl (.c (.slice (some (H.length, 0)) 0 (.exact 0))) (.inl ⟨rfl, rfl, _, rfl⟩)
    (lst [.c (.slice p xs.length cap), .c (.int .i64 k), .c (.int .i64 a), .c .undef, .c .undef, .c .undef, .c (.slice none 0 (.exact 0)), .c (.slice (some (H.length, 0)) 0 (.exact 0)), .c (.ptr (some (H.length + 1, 0))), .c (.bool false), .c (.int .i64 0), .c (.slice (some (H.length, 0)) 0 (.exact 0)), .c (.int .i64 k), .c (.int .i8 k), .c (.int .i64 a), .c (.int .i16 a), .agg [.int .i8 k, .int .i16 a]]) rfl rfl rfl rfl rfl
  rw [List.drop_zero, List.nil_append, insG_f] at hq
  have pH : Pre H J := pre_app.trans pJ
  have hnb := pJ.get (show AHeap.get (H ++ [some ⟨91, [], .own⟩, some ⟨91, nrow ⟨k, a⟩, .own⟩]) (H.length + 1) = some ⟨91, nrow ⟨k, a⟩, .own⟩ by rw [get_app]; rfl)
  obtain ⟨q, cp, hv⟩ := o.isC
  rw [ev_call c83]; unfold k83; rw [evB_eq rfl]
  have fin : ∀ (K : AHeap) (v : AV), Pre (H ++ [some ⟨91, [], .own⟩, some ⟨91, nrow ⟨k, a⟩, .own⟩]) K → ApS 91 2 (H ++ [some ⟨91, [], .own⟩, some ⟨91, nrow ⟨k, a⟩, .own⟩]) K (xs.length + 1) (nrows (cutP xs k a)) v → ∃ q c, v = .c (.slice q (xs.length + 1) c) ∧ NwN H K q (cutP xs k a) := by
    intro K v pK oK
    obtain ⟨q, c, rfl⟩ := oK.isC
    refine ⟨q, c, rfl, fun _ => ?_⟩
    rcases oK with ⟨h0, _⟩ | ⟨_, _, id, h1, h2, h3⟩
    · omega
    · injection h1 with h1; injection h1 with h1
      exact ⟨id, .opn, h1, by simp at h2; omega, h3, .inr rfl⟩
  cases d
  · simp only [Bool.false_eq_true, if_false] at hq
    obtain ⟨v2, K2, a2, p2, o2, _, _⟩ := (o.pre (pre_app (t := [some ⟨91, nrow ⟨k, a⟩, .own⟩]))).step (bytes := 4) (pJ.app _) (j := J.length) (t := 91) (cs := nrow ⟨k, a⟩) (bm := .own) (m := 1) (cap := .exact 1) (by rw [get_app0]; rfl) (by omega) rfl (by omega) rfl
    have hal : acc.length + 1 = xs.length + 1 := by
      have := congrArg List.length hq; rw [cutP_len] at this; simpa using this
    rw [nrows_snoc, hq, hal] at o2
    rw [hv] at a2
    obtain ⟨q2, c2, rfl, n2⟩ := fin K2 v2 p2 o2
    simp (maxSteps := 4000000) (disch := first | omega | (refine _root_.id ?_; simp only [pl_int, pl_bool, pl_str, pl_undef, pl_nil, pl_ptr, plA_c, plA_agg, plA_tup, plV_c, plV_agg, List.all_cons, List.all_nil, Bool.and_true, Bool.and_self, eq_self, vi_int, vi_bool, get_app, get_app0, List.getElem?_cons_zero, List.getElem?_cons_succ, Option.join_some, lst_get, getL, upd_at, upd_ne, Nat.reduceBEq])) only [evC_ret, evC_region, evC_seq, evC_block, ev_t, ev_k, putS_some, upd_l, putS_none, ops_nil, evC_condC, cond_bool, ops_cons, next_some, then_norm, out_exit, done_ret, putL, getL, Option.bind_some, Option.map_some, evalOp, AV.cells?, readCells, writeCells, get_app, set_app, len_app, List.getElem?_cons_zero, List.getElem?_cons_succ, Option.join_some, List.length_cons, List.length_nil, List.append_assoc, List.cons_append, List.nil_append, Nat.zero_add, Nat.reduceAdd, Nat.reduceLeDiff, List.drop_zero, List.drop_succ_cons, List.take_zero, List.take_succ_cons, List.take_nil, List.drop_nil, ↓reduceIte, evalRs, evalR, AV.toV0?, mkRes, V0.toAV, and_self, lst_get, eq_self, List.all_cons, List.all_nil, Bool.and_true, Bool.not_false, List.append_nil, setAt, CV.ok, List.set_cons_zero, List.set_cons_succ, unA, partsA, fillC, finish_no, upd_at, upd_ne, hw8, hw16, eL, q8, q9, hv, hnb, a2]
    exact ⟨q2, c2, K2, rfl, pre_app.trans p2, n2⟩
  · simp only [if_true, List.append_nil] at hq
    subst hq
    rw [cutP_len] at o hv
    obtain ⟨q2, c2, h2, n2⟩ := fin J _ pJ o
    rw [hv] at h2; injection h2 with h2; injection h2 with h2 _ h3; subst h2; subst h3
    simp (maxSteps := 4000000) (disch := first | omega | (refine _root_.id ?_; simp only [pl_int, pl_bool, pl_str, pl_undef, pl_nil, pl_ptr, plA_c, plA_agg, plA_tup, plV_c, plV_agg, List.all_cons, List.all_nil, Bool.and_true, Bool.and_self, eq_self, vi_int, vi_bool, get_app, get_app0, List.getElem?_cons_zero, List.getElem?_cons_succ, Option.join_some, lst_get, getL, upd_at, upd_ne, Nat.reduceBEq])) only [evC_skip, evC_ret, evC_region, evC_seq, evC_block, ev_t, ev_k, putS_some, upd_l, putS_none, ops_nil, evC_condC, cond_bool, ops_cons, next_some, then_norm, out_exit, done_ret, putL, getL, Option.bind_some, Option.map_some, evalOp, AV.cells?, writeCells, get_app, set_app, len_app, List.getElem?_cons_zero, List.getElem?_cons_succ, Option.join_some, List.length_cons, List.length_nil, List.append_assoc, List.cons_append, List.nil_append, Nat.zero_add, Nat.reduceAdd, Nat.reduceLeDiff, List.drop_zero, List.drop_succ_cons, List.take_zero, List.take_succ_cons, List.drop_nil, ↓reduceIte, evalRs, evalR, AV.toV0?, mkRes, V0.toAV, and_self, lst_get, eq_self, List.all_cons, List.all_nil, Bool.and_true, Bool.not_true, Bool.false_eq_true, List.append_nil, setAt, CV.ok, List.set_cons_zero, List.set_cons_succ, unA, partsA, fillC, finish_no, upd_at, upd_ne, hw8, hw16, eL, q9, hv]
    exact ⟨q, cp, J, rfl, pH, n2⟩
end Go.Proofs.YtcfabmmonoljeaaDoor
