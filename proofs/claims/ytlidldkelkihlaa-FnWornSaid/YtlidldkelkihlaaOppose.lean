/- What functions of the program answer: part Oppose. -/
import Derived.Test.YtlidldkelkihlaaWear
import Derived.Test.YtlidldkelkihlaaMarks
set_option linter.unusedVariables false
set_option linter.unusedSimpArgs false
set_option linter.unusedSectionVars false
namespace Go.Proofs.Ytlidldkelkihlaa
open Go Go.Proofs.Ytlidldkelkihlaa.VI
set_option maxHeartbeats 16000000
set_option maxRecDepth 20000
/-! How far grains are apart -/
def ab (x : Int) : Int := if x < -x then -x else x
theorem ab_0 (x : Int) : 0 ≤ ab x ∧ x ≤ ab x ∧ -x ≤ ab x ∧ (ab x = x ∨ ab x = -x) := by unfold ab; split <;> omega
def dS (g h : List Int) : Nat → Nat → Int
  | _, 0 => 0
  | i, n + 1 => ab (g.getD i 0 - h.getD i 0) + dS g h (i + 1) n
theorem dS_self {g : List Int} : ∀ {n i : Nat}, dS g g i n = 0
  | 0, _ => rfl
  | n + 1, i => by unfold dS; rw [dS_self]; have := ab_0 (g.getD i 0 - g.getD i 0); omega
theorem dS_0 {g h : List Int} : ∀ {n i : Nat}, 0 ≤ dS g h i n
  | 0, _ => Int.le_refl 0
  | n + 1, i => by unfold dS; have := ab_0 (g.getD i 0 - h.getD i 0); have := dS_0 (g := g) (h := h) (n := n) (i := i + 1); omega
theorem getD_set {g : List Int} {p : Nat} {v : Int} (hp : p < g.length) (i : Nat) : (g.set p v).getD i 0 = if i = p then v else g.getD i 0 := by
  rw [List.getD_eq_getElem?_getD, List.getD_eq_getElem?_getD]
  by_cases h : i = p
  · subst h; rw [List.getElem?_set_self hp, if_pos rfl]; rfl
  · rw [List.getElem?_set_ne (fun e => h e.symm), if_neg h]
theorem dS_set {g h : List Int} {p : Nat} {v : Int} (hp : p < g.length) : ∀ {n i : Nat}, (p < i → dS (g.set p v) h i n = dS g h i n) ∧ dS (g.set p v) h i n ≤ dS g h i n + ab (v - g.getD p 0)
  | 0, i => ⟨fun _ => rfl, by have := ab_0 (v - g.getD p 0); unfold dS; omega⟩
  | n + 1, i => by
    obtain ⟨q1, q2⟩ := dS_set (v := v) (h := h) hp (n := n) (i := i + 1)
    have hv := ab_0 (v - g.getD p 0)
    unfold dS
    rw [getD_set hp]
    by_cases e : i = p
    · subst e
      have q1 := q1 (by omega)
      rw [if_pos rfl, q1]
      have a1 := ab_0 (v - h.getD i 0)
      have a2 := ab_0 (g.getD i 0 - h.getD i 0)
      exact ⟨fun h => by omega, by omega⟩
    · rw [if_neg e]
      exact ⟨fun h => by rw [q1 (by omega)], by omega⟩
theorem gq_b {x : Int} (h : gq x = true) : -3 ≤ x ∧ x ≤ 3 := by
  unfold gq at h; have := of_decide_eq_true h; omega
theorem all_at {g : List Int} (h : g.all gq = true) (i : Nat) : -3 ≤ g.getD i 0 ∧ g.getD i 0 ≤ 3 := by
  rw [List.getD_eq_getElem?_getD]
  cases e : g[i]? with
  | none => simp
  | some x => exact gq_b (List.all_eq_true.1 h x (List.mem_of_getElem? e))
theorem wear1_d {g h : List Int} (hg : g.length = 16) (hq : g.all gq = true) (s : Int) {n i : Nat} : dS (wear1 g s) h i n ≤ dS g h i n + 1 := by
  unfold wear1
  by_cases c : (wg g (rr (nxt s))).all gq = true
  · rw [if_pos c]
    unfold wg
    generalize hr : rr (nxt s) = r
    have hb := rr_b s
    rw [hr] at hb
    have hp : wpl r < g.length := by unfold wpl; omega
    have a := all_at hq (wpl r)
    have hby : by8 r = 1 ∨ by8 r = -1 := by unfold by8; split; exact .inr rfl; exact .inl rfl
    have hw : IntKind.i8.wrap (g.getD (wpl r) 0 + by8 r) = g.getD (wpl r) 0 + by8 r := IntWalk.i8_in _ (by omega)
    have q := (dS_set (h := h) (v := IntKind.i8.wrap (g.getD (wpl r) 0 + by8 r)) hp (n := n) (i := i)).2
    rw [hw] at q ⊢
    have q2 := ab_0 (g.getD (wpl r) 0 + by8 r - g.getD (wpl r) 0)
    omega
  · rw [if_neg c]; omega
theorem wearN_ok : ∀ (n : Nat) (g : List Int) (s : Int), g.all gq = true → (wearN n g s).1.all gq = true
  | 0, g, s, h => h
  | n + 1, g, s, h => by unfold wearN; exact wearN_ok n _ _ (wear1_ok h)
theorem wearN_d : ∀ (n : Nat) (g h : List Int) (s : Int), g.length = 16 → g.all gq = true → dS (wearN n g s).1 h 0 16 ≤ dS g h 0 16 + n
  | 0, g, h, s, hg, hq => by show dS g h 0 16 ≤ dS g h 0 16 + ((0 : Nat) : Int); omega
  | n + 1, g, h, s, hg, hq => by
    unfold wearN
    have a := wearN_d n (wear1 g s) h (nxt s) (by rw [wear1_len]; exact hg) (wear1_ok hq)
    have b := wear1_d (h := h) hg hq s (n := 16) (i := 0)
    omega
/-! Opposite grains -/
def opp (g : List Int) : List Int := g.map fun x => IntKind.i8.wrap (0 - x)
theorem opp_len {g : List Int} : (opp g).length = g.length := List.length_map ..
theorem opp_at {g : List Int} (hq : g.all gq = true) (i : Nat) : (opp g).getD i 0 = - g.getD i 0 := by
  have := all_at hq i
  rw [List.getD_eq_getElem?_getD] at this ⊢
  rw [List.getD_eq_getElem?_getD]
  unfold opp; rw [List.getElem?_map]
  cases e : g[i]? with
  | none => rfl
  | some x =>
    rw [e] at this
    have h2 : -3 ≤ x ∧ x ≤ 3 := by simpa using this
    show IntKind.i8.wrap (0 - x) = -x
    rw [IntWalk.i8_in _ (by omega)]; omega
theorem opp_ok {g : List Int} (hq : g.all gq = true) : (opp g).all gq = true := by
  rw [List.all_eq_true] at hq ⊢
  intro x hx
  unfold opp at hx
  obtain ⟨y, hy, rfl⟩ := List.mem_map.1 hx
  have := gq_b (hq y hy)
  rw [IntWalk.i8_in _ (by omega)]
  unfold gq; simp; omega
theorem wq_opp {g h : List Int} (hg : g.all gq = true) (hh : h.all gq = true) (i : Nat) : wq g (opp h) i = (g.getD i 0 != h.getD i 0) := by
  have a := all_at hg i
  have b := all_at hh i
  unfold wq
  rw [opp_at hh, IntWalk.i8_in _ (by omega)]
  by_cases e : g.getD i 0 = h.getD i 0
  · rw [e]
    have h1 : h.getD i 0 + -h.getD i 0 = 0 := by omega
    rw [h1]; simp
  · have h1 : (g.getD i 0 != h.getD i 0) = true := by simpa using e
    have h2 : ¬ (g.getD i 0 + -h.getD i 0 = 0) := by omega
    rw [h1]; exact bne_iff_ne.2 h2
theorem wr_d {g h : List Int} (hg : g.all gq = true) (hh : h.all gq = true) : ∀ {n i : Nat}, ((wr g (opp h) i n).length : Int) ≤ dS g h i n
  | 0, i => by show ((0 : Nat) : Int) ≤ 0; omega
  | n + 1, i => by
    have ih := wr_d hg hh (n := n) (i := i + 1)
    have a := ab_0 (g.getD i 0 - h.getD i 0)
    rw [wr_step, wq_opp hg hh]
    unfold dS
    by_cases e : g.getD i 0 = h.getD i 0
    · rw [e]; simp only [bne_self_eq_false, Bool.false_eq_true, if_false]
      have := ab_0 (h.getD i 0 - h.getD i 0)
      omega
    · have h1 : (g.getD i 0 != h.getD i 0) = true := by simpa using e
      rw [h1]; simp only [if_true, List.length_cons]
      omega
theorem wr_mem {g f : List Int} {i n k : Nat} : (k : Int) ∈ wr g f i n ↔ (i ≤ k ∧ k < i + n) ∧ wq g f k = true := by
  unfold wr
  rw [List.mem_map]
  constructor
  · rintro ⟨j, hj, e⟩
    rw [List.mem_filter, List.mem_range'_1] at hj
    have : j = k := by omega
    subst this
    exact hj
  · rintro ⟨h1, h2⟩
    exact ⟨k, by rw [List.mem_filter, List.mem_range'_1]; exact ⟨h1, h2⟩, rfl⟩
theorem eq_grow {g h : List Int} (hg : g.length = 16) : eqCells [.int, .int, .int, .int, .int, .int, .int, .int, .int, .int, .int, .int, .int, .int, .int, .int] (grow g) (grow g) = some true := by
  match g, hg with
  | [a0, a1, a2, a3, a4, a5, a6, a7, a8, a9, a10, a11, a12, a13, a14, a15], _ => simp [eqCells, eqC, grow]
theorem loop82 {H : AHeap} {z : Option Blk} {g : List Int} (hg : g.length = 16) : ∀ (n i : Nat) (_ : i + n = 16) (U : List (Option Blk)) (σ : Sl) (_ : σ 1 = .c (.ptr (some (H.length, 0)))) (_ : σ 4 = .c (.int .i64 i)),
    Post (evC (ev kk) (.loop l82_0) (σ, H ++ [gb37 (opp (g.take i) ++ g.drop i), z])) fun ex σ' H' => ex = .exit 0 ∧ H' = H ++ [gb37 (opp g), z] ∧ σ' 1 = .c (.ptr (some (H.length, 0))) ∧ σ' 2 = σ 2
  | 0, i, hi, U, σ, h1, h4 => by
    have hge : ¬ ((i : Int) < 16) := by omega
    have e1 : g.take i = g := List.take_of_length_le (by omega)
    have e2 : g.drop i = [] := List.drop_eq_nil_of_le (by omega)
    rw [evC_loop, e1, e2, List.append_nil]
    simp only [evC_skip, evC_exit, evC_ret, evC_region, evC_seq, evC_block, ev_t, ev_k, putS_some, upd_l, putS_none, ops_nil, ops_pick, pick_bool, ops_consg, guard_bool, evC_condC, cond_bool, ops_cons, next_some, next_none, next_ite, nextD_some, nextD_none, nextD_ite, bind_ite, map_ite, then_ite, then_norm, then_ret, then_exit, out_ite, out_norm, out_ret, out_exit, done_ite, done_norm, done_ret, putL, getL, Option.bind_some, Option.map_some, Option.bind_none, Option.map_none, evalOp, AV.cells?, readCells, readCell, writeCells, get_app, get_app0, set_app, set_app0, len_app, List.getElem?_cons_zero, List.getElem?_cons_succ, Option.join_some, List.length_cons, List.length_nil, List.append_assoc, List.cons_append, List.nil_append, Nat.zero_add, Nat.add_zero, Nat.reduceAdd, Nat.reduceLeDiff, Nat.reduceLT, Nat.reduceMul, Nat.reduceSub, List.drop_zero, List.drop_succ_cons, List.take_zero, List.take_succ_cons, List.take_nil, List.drop_nil, if_true, if_false, ite_true, ite_false, ite_self, ↓reduceIte, reduceCtorEq, binA, binC, intBin, or_false, false_or, or_true, true_or, and_true, true_and, Int.reduceLT, Int.reduceLE, Int.reduceToNat, Int.reduceAdd, evalRs, evalR, AV.toV0?, mkRes, V0.toAV, decide_true, decide_false, and_self, Nat.reduceEqDiff, lst_get, Int.cast_ofNat_Int, eq_self, IntWalk.i64_in, IntWalk.i16_in, IntWalk.i32_in, IntWalk.i8_in, IntWalk.u8_in, Int.reduceNeg, finish_app, finish_id, pl_int, pl_bool, pl_str, pl_undef, pl_nil, pl_ptr, plA_c, plA_agg, plA_tup, plV_c, plV_agg, List.all_cons, List.all_nil, Bool.and_true, Bool.true_and, decide_eq_true_eq, decide_eq_false_iff_not, beq_self_eq_true, Bool.not_true, Bool.not_false, Bool.true_eq_false, Bool.false_eq_true, List.map_cons, List.map_nil, List.append_nil, setAt, CV.ok, eqRes, bne_self_eq_false, List.set_cons_zero, List.set_cons_succ, evC_drawn, dr_nil, dr_cons, chk_nil, chk_cons, re_same, unA, Bool.not_eq_true', Bool.not_eq_eq_eq_not, Bool.not_not, Int.zero_add, List.getElem?_nil, partsA, fillC, Int.reduceEq, Int.reduceMul, Int.reduceSub, Int.reduceTDiv, Int.reduceTMod, List.flatten_cons, List.flatten_nil, finish_no, tdiv_pos, tmod_pos, Int.reduceDiv, Int.reduceMod, len_add, vi_int, vi_bool, Int.reduceBNe, Int.reduceBEq, Nat.reduceBEq, Nat.reduceBNe, post_some, post_ite, ite_ex, upd_at, upd_ne, cast_nonneg, cast_toNat, Nat.mul_one, false_implies, true_implies, implies_true, chkg_bool, chk_consg, guard_undef, l82_0, h1, h4, hge]
  | n + 1, i, hi, U, σ, h1, h4 => by
    have hlt : (i : Int) < 16 := by omega
    have hil : i < g.length := by omega
    have hlen : (opp (g.take i)).length = i := by rw [opp_len, List.length_take]; omega
    have hd : g.drop i = g[i] :: g.drop (i + 1) := List.drop_eq_getElem_cons hil
    have ht : g.take (i + 1) = g.take i ++ [g[i]] := by rw [List.take_add_one, List.getElem?_eq_getElem hil]; rfl
    have step := loop82 (H := H) (z := z) hg n (i + 1) (by omega) U
    have ho : opp (g.take i ++ [g[i]]) = opp (g.take i) ++ [IntKind.i8.wrap (0 - g[i])] := by unfold opp; rw [List.map_append]; rfl
    rw [ht, ho] at step
    have hil2 : i < (opp (g.take i) ++ g.drop i).length := by rw [List.length_append, hlen, List.length_drop]; omega
    have hget := grow_get hil2
    have e3 : (opp (g.take i) ++ g.drop i)[i] = g[i] := by
      rw [List.getElem_append_right (by omega)]; simp [hlen]
    rw [e3] at hget
    have hset := grow_set (v := IntKind.i8.wrap (0 - g[i])) hil2
    have e4 : (opp (g.take i) ++ g.drop i).set i (IntKind.i8.wrap (0 - g[i])) = opp (g.take i) ++ [IntKind.i8.wrap (0 - g[i])] ++ g.drop (i + 1) := by
      rw [List.set_append, if_neg (by omega), hlen, Nat.sub_self, hd, List.set_cons_zero, List.append_assoc]; rfl
    rw [e4] at hset
    have hle : i + 1 ≤ (grow (opp (g.take i) ++ g.drop i)).length := by rw [List.length_map, List.length_append, hlen, List.length_drop]; omega
    rw [evC_loop]
    generalize opp (g.take i) ++ g.drop i = y at *
    simp (maxSteps := 4000000) (disch := first | omega | (refine _root_.id ?_; simp only [pl_int, pl_bool, pl_str, pl_undef, pl_nil, pl_ptr, plA_c, plA_agg, plA_tup, plV_c, plV_agg, List.all_cons, List.all_nil, Bool.and_true, Bool.and_self, eq_self, vi_int, vi_bool, get_app, get_app0, List.getElem?_cons_zero, List.getElem?_cons_succ, Option.join_some, lst_get, getL, upd_at, upd_ne, Nat.reduceBEq])) only [evC_skip, evC_exit, evC_ret, evC_region, evC_seq, evC_block, ev_t, ev_k, putS_some, upd_l, putS_none, ops_nil, ops_pick, pick_bool, ops_consg, guard_bool, evC_condC, cond_bool, ops_cons, next_some, next_none, next_ite, nextD_some, nextD_none, nextD_ite, bind_ite, map_ite, then_ite, then_norm, then_ret, then_exit, out_ite, out_norm, out_ret, out_exit, done_ite, done_norm, done_ret, putL, getL, Option.bind_some, Option.map_some, Option.bind_none, Option.map_none, evalOp, AV.cells?, readCells, readCell, writeCells, get_app, get_app0, set_app, set_app0, len_app, List.getElem?_cons_zero, List.getElem?_cons_succ, Option.join_some, List.length_cons, List.length_nil, List.append_assoc, List.cons_append, List.nil_append, Nat.zero_add, Nat.add_zero, Nat.reduceAdd, Nat.reduceLeDiff, Nat.reduceLT, Nat.reduceMul, Nat.reduceSub, List.drop_zero, List.drop_succ_cons, List.take_zero, List.take_succ_cons, List.take_nil, List.drop_nil, if_true, if_false, ite_true, ite_false, ite_self, ↓reduceIte, reduceCtorEq, binA, binC, intBin, or_false, false_or, or_true, true_or, and_true, true_and, Int.reduceLT, Int.reduceLE, Int.reduceToNat, Int.reduceAdd, evalRs, evalR, AV.toV0?, mkRes, V0.toAV, decide_true, decide_false, and_self, Nat.reduceEqDiff, lst_get, Int.cast_ofNat_Int, eq_self, IntWalk.i64_in, IntWalk.i16_in, IntWalk.i32_in, IntWalk.i8_in, IntWalk.u8_in, Int.reduceNeg, finish_app, finish_id, pl_int, pl_bool, pl_str, pl_undef, pl_nil, pl_ptr, plA_c, plA_agg, plA_tup, plV_c, plV_agg, List.all_cons, List.all_nil, Bool.and_true, Bool.true_and, decide_eq_true_eq, decide_eq_false_iff_not, beq_self_eq_true, Bool.not_true, Bool.not_false, Bool.true_eq_false, Bool.false_eq_true, List.map_cons, List.map_nil, List.append_nil, setAt, CV.ok, eqRes, bne_self_eq_false, List.set_cons_zero, List.set_cons_succ, evC_drawn, dr_nil, dr_cons, chk_nil, chk_cons, re_same, unA, Bool.not_eq_true', Bool.not_eq_eq_eq_not, Bool.not_not, Int.zero_add, List.getElem?_nil, partsA, fillC, Int.reduceEq, Int.reduceMul, Int.reduceSub, Int.reduceTDiv, Int.reduceTMod, List.flatten_cons, List.flatten_nil, finish_no, tdiv_pos, tmod_pos, Int.reduceDiv, Int.reduceMod, len_add, vi_int, vi_bool, Int.reduceBNe, Int.reduceBEq, Nat.reduceBEq, Nat.reduceBNe, post_some, post_ite, ite_ex, upd_at, upd_ne, cast_nonneg, cast_toNat, Nat.mul_one, false_implies, true_implies, implies_true, chkg_bool, chk_consg, guard_undef, l82_0, h1, h4, hlt, hget, hset, hle]
    simp only [List.append_assoc, List.cons_append, List.nil_append] at step
    exact Post.mono (step _ (by simp only [upd_at, upd_ne, Nat.reduceBEq, h1]) (by simp only [upd_at, upd_ne, Nat.reduceBEq]; rfl)) (fun ex σ' H' q => ⟨q.1, q.2.1, q.2.2.1, q.2.2.2.trans (by simp only [upd_at, upd_ne, Nat.reduceBEq])⟩)
end Go.Proofs.Ytlidldkelkihlaa
