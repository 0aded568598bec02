/- What functions of the program answer: part Grains. -/
import Derived.Test.YtnblibimbggheaaLies2
import Derived.Test.YtnblibimbggheaaViE
set_option linter.unusedVariables false
set_option linter.unusedSimpArgs false
set_option linter.unusedSectionVars false
namespace Go.Proofs.Ytnblibimbggheaa
open Go Go.Proofs.Ytnblibimbggheaa.VI
set_option maxHeartbeats 16000000
set_option maxRecDepth 20000
abbrev irow (xs : List Int) : List CV := xs.map (CV.int .i64)
/-! Worn places -/
def wq (g f : List Int) (i : Nat) : Bool := IntKind.i8.wrap (g.getD i 0 + f.getD i 0) != 0
def wr (g f : List Int) (i n : Nat) : List Int := ((List.range' i n).filter (wq g f)).map fun j : Nat => (j : Int)
theorem wr_step {g f : List Int} {i n : Nat} : wr g f i (n + 1) = if wq g f i = true then (i : Int) :: wr g f (i + 1) n else wr g f (i + 1) n := by
  unfold wr
  rw [List.range'_succ, List.filter_cons]
  split <;> simp
theorem wr_len {g f : List Int} {i n : Nat} : (wr g f i n).length ≤ n := by
  unfold wr
  rw [List.length_map]
  exact Nat.le_trans (List.length_filter_le _ _) (by simp)
theorem loop71 {g f : List Int} (hg : g.length = 16) (hf : f.length = 16) {H : AHeap} {b c : Nat} {e e' : TypeId} {m m' : BM} (hb : H.get b = some ⟨e, grow g, m⟩) (hc : H.get c = some ⟨e', grow f, m'⟩) : ∀ (n i : Nat) (_ : i + n = 16) (ws : List Int) (_ : ws.length ≤ i) (T : List (Option Blk)) (v : AV) (_ : OutS 2 1 H.length T ws.length (irow ws) v) (σ : Sl) (_ : σ 2 = .c (.ptr (some (b, 0)))) (_ : σ 3 = .c (.ptr (some (c, 0)))) (_ : σ 5 = v) (_ : σ 8 = .c (.int .i64 i)),
    Post (evC (ev kk) (.loop l71_0) (σ, H ++ T)) fun ex σ' H' => ex = .exit 0 ∧ ∃ T', H' = H ++ T' ∧ OutS 2 1 H.length T' (ws ++ wr g f i n).length (irow (ws ++ wr g f i n)) (σ' 5)
  | 0, i, hi, ws, hw, T, v, ho, σ, h2, h3, h5, h6 => by
    have hge : ¬ ((i : Int) < 16) := by omega
    rw [evC_loop]
    simp only [evC_exit, evC_region, evC_seq, ev_t, ev_k, putS_some, ops_nil, evC_condC, cond_bool, ops_cons, next_some, then_norm, then_exit, Option.map_some, evalOp, ↓reduceIte, reduceCtorEq, binA, binC, intBin, or_false, or_true, true_and, decide_false, eq_self, Bool.false_eq_true, Nat.reduceBEq, post_some, upd_at, upd_ne, l71_0, h5, h6, hge]
    refine ⟨T, rfl, ?_⟩
    have : wr g f i 0 = [] := rfl
    rw [this, List.append_nil]; exact ho
  | n + 1, i, hi, ws, hw, T, v, ho, σ, h2, h3, h5, h6 => by
    have hil : i < g.length := by omega
    have hjl : i < f.length := by omega
    have hlt : (i : Int) < 16 := by omega
    have hbl := get_some_lt hb
    have hcl := get_some_lt hc
    have e1 : g.getD i 0 = g[i] := by rw [List.getD_eq_getElem?_getD, List.getElem?_eq_getElem hil]; rfl
    have e2 : f.getD i 0 = f[i] := by rw [List.getD_eq_getElem?_getD, List.getElem?_eq_getElem hjl]; rfl
    rw [evC_loop, wr_step]
    by_cases hq : wq g f i = true
    · have hq' : (IntKind.i8.wrap (g[i] + f[i]) != 0) = true := by unfold wq at hq; rw [e1, e2] at hq; exact hq
      have hoT : OutS 2 1 H.length (T ++ [some ⟨2, [.int .i64 i], .own⟩]) ws.length (irow ws) v := by
        rcases ho with h | ⟨h1, h2, k, h3, h4⟩
        · exact .inl h
        · exact .inr ⟨h1, h2, k, h3, by rw [List.getElem?_append_left (List.getElem?_eq_some_iff.1 h4).1]; exact h4⟩
      obtain ⟨v', T', happ, ho'⟩ := hoT.step (bytes := 8) (j := H.length + T.length) (m := 1) (cs := [.int .i64 i]) (t := 2) (bm := .own) (cap := .exact 1) (by rw [get_app]; simp) (by omega) rfl (by omega) rfl
      simp (maxSteps := 4000000) (disch := first | omega | (refine _root_.id ?_; simp only [pl_int, pl_bool, pl_str, pl_undef, pl_nil, pl_ptr, plA_c, plA_agg, plA_tup, plV_c, plV_agg, List.all_cons, List.all_nil, Bool.and_true, Bool.and_self, eq_self, vi_int, vi_bool, get_app, get_app0, List.getElem?_cons_zero, List.getElem?_cons_succ, Option.join_some, lst_get, getL, upd_at, upd_ne, Nat.reduceBEq])) only [evC_skip, evC_region, evC_seq, evC_block, ev_t, ev_k, putS_some, ops_nil, evC_condC, cond_bool, ops_cons, next_some, nextD_some, then_norm, out_norm, Option.map_some, evalOp, AV.cells?, readCell, len_app, List.length_cons, List.length_nil, List.append_assoc, List.nil_append, Nat.zero_add, Nat.reduceLeDiff, List.drop_succ_cons, List.take_zero, List.drop_nil, ↓reduceIte, reduceCtorEq, binA, binC, intBin, or_false, or_true, decide_true, and_self, Int.cast_ofNat_Int, eq_self, IntWalk.i64_in, List.append_nil, setAt, evC_drawn, dr_nil, dr_cons, chk_nil, partsA, fillC, upd_at, upd_ne, cast_nonneg, cast_toNat, Nat.mul_one, l71_0, h2, h3, h5, h6, hlt, get_appl hbl, get_appl hcl, hb, hc, grow_get hil, grow_get hjl, hq', hq, happ]
      have e3 : ws ++ (i : Int) :: wr g f (i + 1) n = (ws ++ [(i : Int)]) ++ wr g f (i + 1) n := by simp
      rw [e3]
      refine loop71 hg hf hb hc n (i + 1) (by omega) (ws ++ [(i : Int)]) (by simp; omega) T' v' ?_ _ (by simp only [upd_ne, Nat.reduceBEq, h2]) (by simp only [upd_ne, Nat.reduceBEq, h3]) (by simp only [upd_at, upd_ne, Nat.reduceBEq]) (by simp only [upd_at]; rfl)
      have e4 : irow (ws ++ [(i : Int)]) = irow ws ++ [.int .i64 i] := by simp [irow]
      rw [e4, List.length_append]; exact ho'
    · have hq' : (IntKind.i8.wrap (g[i] + f[i]) != 0) = false := by unfold wq at hq; rw [e1, e2] at hq; simpa using hq
      have hq : wq g f i = false := by simpa using hq
      simp (maxSteps := 4000000) (disch := first | omega | (refine _root_.id ?_; simp only [pl_int, pl_bool, pl_str, pl_undef, pl_nil, pl_ptr, plA_c, plA_agg, plA_tup, plV_c, plV_agg, List.all_cons, List.all_nil, Bool.and_true, Bool.and_self, eq_self, vi_int, vi_bool, get_app, get_app0, List.getElem?_cons_zero, List.getElem?_cons_succ, Option.join_some, lst_get, getL, upd_at, upd_ne, Nat.reduceBEq])) only [evC_skip, evC_region, evC_seq, evC_block, ev_t, ev_k, putS_some, ops_nil, evC_condC, cond_bool, ops_cons, next_some, nextD_some, then_norm, out_norm, Option.map_some, evalOp, readCell, Nat.zero_add, ↓reduceIte, reduceCtorEq, binA, binC, intBin, or_false, or_true, decide_true, and_self, Int.cast_ofNat_Int, eq_self, IntWalk.i64_in, Bool.false_eq_true, evC_drawn, dr_nil, dr_cons, chk_nil, upd_at, upd_ne, cast_nonneg, cast_toNat, Nat.mul_one, l71_0, h2, h3, h6, hlt, get_appl hbl, get_appl hcl, hb, hc, grow_get hil, grow_get hjl, hq', hq, Bool.false_eq_true]
      exact loop71 hg hf hb hc n (i + 1) (by omega) ws (by omega) T v ho _ (by simp only [upd_ne, Nat.reduceBEq, h2]) (by simp only [upd_ne, Nat.reduceBEq, h3]) (by simp only [upd_ne, Nat.reduceBEq, h5]) (by simp only [upd_at]; rfl)
theorem OutS.shift {e : TypeId} {s L n : Nat} {pre T : List (Option Blk)} {cells : List CV} {v : AV} (h : OutS e s (L + pre.length) T n cells v) : OutS e s L (pre ++ T) n cells v := by
  rcases h with h | ⟨h1, h2, k, h3, h4⟩
  · exact .inl h
  · exact .inr ⟨h1, h2, pre.length + k, by rw [h3, Nat.add_assoc], by rw [List.getElem?_append_right (by omega)]; simpa using h4⟩
theorem OutS.more {e : TypeId} {s L n : Nat} {T U : List (Option Blk)} {cells : List CV} {v : AV} (h : OutS e s L T n cells v) : OutS e s L (T ++ U) n cells v := by
  rcases h with h | ⟨h1, h2, k, h3, h4⟩
  · exact .inl h
  · exact .inr ⟨h1, h2, k, h3, by rw [List.getElem?_append_left (List.getElem?_eq_some_iff.1 h4).1]; exact h4⟩
abbrev gb (e : TypeId) (g : List Int) : Option Blk := some ⟨e, grow g, .own⟩
abbrev ws (g f : List Int) : List Int := wr g f 0 16
theorem run71 {g f : List Int} (hg : g.length = 16) (hf : f.length = 16) (H : AHeap) : ∃ T c, ev kk 71 [.agg (grow g), .agg (grow f)] H = some (.c c, H ++ T) ∧ OutS 2 1 H.length T (ws g f).length (irow (ws g f)) (.c c) := by
  obtain ⟨ex, σ', H', e, rfl, T', rfl, ho⟩ := loop71 hg hf (H := H ++ [gb 34 g, gb 34 f]) (b := H.length) (c := H.length + 1) (by rw [get_app0]; rfl) (by rw [get_app]; rfl) 16 0 rfl [] (by simp) [some ⟨2, [], .own⟩] (.c (.slice (some (H.length + 2, 0)) 0 (.exact 0))) (.inl ⟨rfl, rfl, _, rfl⟩)
    (lst [.agg (grow g), .agg (grow f), .c (.ptr (some (H.length, 0))), .c (.ptr (some (H.length + 1, 0))), .c (.slice none 0 (.exact 0)), .c (.slice (some (H.length + 2, 0)) 0 (.exact 0)), .c .undef, .c (.slice (some (H.length + 2, 0)) 0 (.exact 0)), .c (.int .i64 0)]) rfl rfl rfl rfl
  simp only [List.append_assoc, List.cons_append, List.nil_append] at e
  have hv : ∃ c, σ' 5 = .c c := by
    rcases ho with ⟨_, _, q, h⟩ | ⟨_, _, k, h, _⟩
    · exact ⟨_, h⟩
    · exact ⟨_, h⟩
  obtain ⟨c, hv⟩ := hv
  refine ⟨gb 34 g :: gb 34 f :: T', c, ?_, ?_⟩
  · rw [ev_call c71]; unfold k71; rw [evB_eq rfl]
    simp only [evC_ret, evC_region, evC_seq, evC_block, ev_t, ev_k, putS_some, upd_l, ops_nil, ops_cons, next_some, then_norm, out_exit, done_ret, putL, getL, Option.bind_some, Option.map_some, evalOp, AV.cells?, len_app, List.length_cons, List.length_nil, List.append_assoc, List.cons_append, List.nil_append, Nat.zero_add, Nat.reduceAdd, ↓reduceIte, evalRs, evalR, AV.toV0?, mkRes, V0.toAV, lst_get, eq_self, partsA, fillC, finish_no, upd_at, e, hv]
  · rw [hv, List.length_append] at ho
    exact OutS.shift (pre := [gb 34 g, gb 34 f]) ho

/-! Whether grains fit -/
def sm (g f : List Int) (i : Nat) : Int := IntKind.i8.wrap (g.getD i 0 + f.getD i 0)
def fq (g f : List Int) (i : Nat) : Bool := decide (¬ sm g f i < -1 ∧ ¬ 1 < sm g f i)
def fo (g f : List Int) (i n : Nat) : Bool := (List.range' i n).all (fq g f)
theorem fo_step {g f : List Int} {i n : Nat} : fo g f i (n + 1) = (fq g f i && fo g f (i + 1) n) := by unfold fo; rw [List.range'_succ]; rfl
theorem wq_sm {g f : List Int} {i : Nat} : wq g f i = (sm g f i != 0) := rfl
theorem sm_at {g f : List Int} {i : Nat} (hi : i < g.length) (hj : i < f.length) : IntKind.i8.wrap (g[i]'hi + f[i]'hj) = sm g f i := by
  unfold sm; rw [List.getD_eq_getElem?_getD, List.getD_eq_getElem?_getD, List.getElem?_eq_getElem hi, List.getElem?_eq_getElem hj]; rfl
theorem loop110 {g f : List Int} (hg : g.length = 16) (hf : f.length = 16) {H : AHeap} {b c : Nat} {e e' : TypeId} {m m' : BM} (hb : H.get b = some ⟨e, grow g, m⟩) (hc : H.get c = some ⟨e', grow f, m'⟩) : ∀ (n i : Nat) (k : Int) (_ : i + n = 16) (_ : 0 ≤ k ∧ k ≤ i) (σ : Sl) (_ : σ 3 = .c (.ptr (some (b, 0)))) (_ : σ 4 = .c (.ptr (some (c, 0)))) (_ : σ 7 = .c (.int .i64 k)) (_ : σ 8 = .c (.int .i64 i)),
    Post (evC (ev kk) (.loop l110_0) (σ, H)) fun ex σ' H' => ex = (if fo g f i n = true then .exit 0 else .ret) ∧ H' = H ∧ (fo g f i n = true → σ' 7 = .c (.int .i64 (k + (wr g f i n).length))) ∧ (fo g f i n = false → σ' 6 = .c (.bool false)) ∧ σ' 2 = σ 2
  | 0, i, k, hi, hk, σ, h3, h4, h7, h8 => by
    have hge : ¬ ((i : Int) < 16) := by omega
    have e1 : fo g f i 0 = true := rfl
    have e2 : wr g f i 0 = [] := rfl
    rw [evC_loop, e1, e2]
    simp only [evC_exit, evC_region, evC_seq, ev_t, ev_k, putS_some, ops_nil, evC_condC, cond_bool, ops_cons, next_some, then_norm, then_exit, Option.map_some, evalOp, List.length_nil, ↓reduceIte, reduceCtorEq, binA, binC, intBin, or_false, or_true, true_and, decide_false, and_self, Int.cast_ofNat_Int, eq_self, Int.reduceNeg, Bool.true_eq_false, Bool.false_eq_true, Nat.reduceBEq, post_some, upd_at, upd_ne, false_implies, true_implies, l110_0, h7, h8, hge, List.length_nil, Int.add_zero, Bool.true_eq_false]
  | n + 1, i, k, hi, hk, σ, h3, h4, h7, h8 => by
    have hil : i < g.length := by omega
    have hjl : i < f.length := by omega
    have hlt : (i : Int) < 16 := by omega
    have hs := sm_at hil hjl
    have keep : ∀ (y : Option (Ex × St)) (k' : Int), Post y (fun ex σ' H' => ex = (if fo g f (i + 1) n = true then .exit 0 else .ret) ∧ H' = H ∧ (fo g f (i + 1) n = true → σ' 7 = .c (.int .i64 (k' + (wr g f (i + 1) n).length))) ∧ (fo g f (i + 1) n = false → σ' 6 = .c (.bool false)) ∧ σ' 2 = σ 2) → Post y (fun ex σ' H' => ex = (if fo g f (i + 1) n = true then .exit 0 else .ret) ∧ H' = H ∧ (fo g f (i + 1) n = true → σ' 7 = .c (.int .i64 (k' + (wr g f (i + 1) n).length))) ∧ (fo g f (i + 1) n = false → σ' 6 = .c (.bool false)) ∧ σ' 2 = σ 2) := fun _ _ h => h
    rw [evC_loop, fo_step, wr_step, wq_sm]
    by_cases c1 : sm g f i < -1
    · have hq : fq g f i = false := decide_eq_false (fun h => h.1 c1)
      simp (maxSteps := 4000000) (disch := first | omega | (refine _root_.id ?_; simp only [pl_int, pl_bool, pl_str, pl_undef, pl_nil, pl_ptr, plA_c, plA_agg, plA_tup, plV_c, plV_agg, List.all_cons, List.all_nil, Bool.and_true, Bool.and_self, eq_self, vi_int, vi_bool, get_app, get_app0, List.getElem?_cons_zero, List.getElem?_cons_succ, Option.join_some, lst_get, getL, upd_at, upd_ne, Nat.reduceBEq])) only [evC_skip, evC_ret, evC_region, evC_seq, evC_block, ev_t, ev_k, putS_some, ops_nil, ops_consg, guard_bool, evC_condC, cond_bool, ops_cons, next_some, nextD_some, then_norm, then_ret, out_ret, Option.map_some, evalOp, readCell, Nat.zero_add, ↓reduceIte, reduceCtorEq, binA, binC, intBin, or_false, or_true, true_and, decide_true, and_self, Int.cast_ofNat_Int, eq_self, Int.reduceNeg, Bool.not_false, Bool.true_eq_false, Bool.false_eq_true, evC_drawn, dr_nil, dr_cons, chk_nil, post_some, upd_at, upd_ne, cast_nonneg, cast_toNat, Nat.mul_one, false_implies, true_implies, l110_0, h3, h4, h8, hlt, hb, hc, grow_get hil, grow_get hjl, hs, c1, hq, Bool.false_and, Bool.false_eq_true, false_implies]
    · by_cases c2 : 1 < sm g f i
      · have hq : fq g f i = false := decide_eq_false (fun h => h.2 c2)
        simp (maxSteps := 4000000) (disch := first | omega | (refine _root_.id ?_; simp only [pl_int, pl_bool, pl_str, pl_undef, pl_nil, pl_ptr, plA_c, plA_agg, plA_tup, plV_c, plV_agg, List.all_cons, List.all_nil, Bool.and_true, Bool.and_self, eq_self, vi_int, vi_bool, get_app, get_app0, List.getElem?_cons_zero, List.getElem?_cons_succ, Option.join_some, lst_get, getL, upd_at, upd_ne, Nat.reduceBEq])) only [evC_skip, evC_ret, evC_region, evC_seq, evC_block, ev_t, ev_k, putS_some, ops_nil, ops_consg, guard_bool, evC_condC, cond_bool, ops_cons, next_some, nextD_some, then_norm, then_ret, out_ret, Option.map_some, evalOp, readCell, Nat.zero_add, ↓reduceIte, reduceCtorEq, binA, binC, intBin, or_false, or_true, true_and, decide_true, decide_false, and_self, Int.cast_ofNat_Int, eq_self, Int.reduceNeg, Bool.false_eq_true, evC_drawn, dr_nil, dr_cons, chk_nil, post_some, upd_at, upd_ne, cast_nonneg, cast_toNat, Nat.mul_one, false_implies, true_implies, l110_0, h3, h4, h8, hlt, hb, hc, grow_get hil, grow_get hjl, hs, c1, c2, hq, Bool.false_and, Bool.false_eq_true, false_implies]
      · have hq : fq g f i = true := decide_eq_true ⟨c1, c2⟩
        cases hz : (sm g f i != 0)
        · simp (maxSteps := 4000000) (disch := first | omega | (refine _root_.id ?_; simp only [pl_int, pl_bool, pl_str, pl_undef, pl_nil, pl_ptr, plA_c, plA_agg, plA_tup, plV_c, plV_agg, List.all_cons, List.all_nil, Bool.and_true, Bool.and_self, eq_self, vi_int, vi_bool, get_app, get_app0, List.getElem?_cons_zero, List.getElem?_cons_succ, Option.join_some, lst_get, getL, upd_at, upd_ne, Nat.reduceBEq])) only [evC_skip, evC_region, evC_seq, evC_block, ev_t, ev_k, putS_some, ops_nil, ops_consg, guard_bool, evC_condC, cond_bool, ops_cons, next_some, nextD_some, then_norm, out_norm, Option.map_some, evalOp, readCell, Nat.zero_add, ↓reduceIte, reduceCtorEq, binA, binC, intBin, or_false, or_true, decide_true, decide_false, and_self, Int.cast_ofNat_Int, eq_self, IntWalk.i64_in, Int.reduceNeg, Bool.true_and, Bool.false_eq_true, evC_drawn, dr_nil, dr_cons, chk_nil, upd_at, upd_ne, cast_nonneg, cast_toNat, Nat.mul_one, l110_0, h3, h4, h8, hlt, hb, hc, grow_get hil, grow_get hjl, hs, c1, c2, hq, hz, Bool.true_and, Bool.false_eq_true]
          exact Post.mono (loop110 hg hf hb hc n (i + 1) k (by omega) (by omega) _ (by simp only [upd_ne, Nat.reduceBEq, h3]) (by simp only [upd_ne, Nat.reduceBEq, h4]) (by simp only [upd_ne, Nat.reduceBEq, h7]) (by simp only [upd_at]; rfl)) (fun ex σ' H' q => ⟨q.1, q.2.1, q.2.2.1, q.2.2.2.1, q.2.2.2.2.trans (by simp only [upd_ne, Nat.reduceBEq])⟩)
        · have el : k + ((((i : Int) :: wr g f (i + 1) n).length : Nat) : Int) = (k + 1) + ((wr g f (i + 1) n).length : Nat) := by rw [List.length_cons]; omega
          obtain ⟨k0, k1⟩ := id hk
          simp (maxSteps := 4000000) (disch := first | omega | (refine _root_.id ?_; simp only [pl_int, pl_bool, pl_str, pl_undef, pl_nil, pl_ptr, plA_c, plA_agg, plA_tup, plV_c, plV_agg, List.all_cons, List.all_nil, Bool.and_true, Bool.and_self, eq_self, vi_int, vi_bool, get_app, get_app0, List.getElem?_cons_zero, List.getElem?_cons_succ, Option.join_some, lst_get, getL, upd_at, upd_ne, Nat.reduceBEq])) only [evC_skip, evC_region, evC_seq, evC_block, ev_t, ev_k, putS_some, ops_nil, ops_consg, guard_bool, evC_condC, cond_bool, ops_cons, next_some, nextD_some, then_norm, out_norm, Option.map_some, evalOp, readCell, List.length_cons, Nat.zero_add, ↓reduceIte, reduceCtorEq, binA, binC, intBin, or_false, or_true, decide_true, decide_false, and_self, Int.cast_ofNat_Int, eq_self, IntWalk.i64_in, Int.reduceNeg, Bool.true_and, Bool.false_eq_true, evC_drawn, dr_nil, dr_cons, chk_nil, upd_at, upd_ne, cast_nonneg, cast_toNat, Nat.mul_one, l110_0, h3, h4, h7, h8, hlt, hb, hc, grow_get hil, grow_get hjl, hs, c1, c2, hq, hz, Bool.true_and]
          have step := loop110 hg hf hb hc n (i + 1) (k + 1) (by omega) (by omega)
          refine Post.mono (step _ (by simp only [upd_ne, Nat.reduceBEq, h3]) (by simp only [upd_ne, Nat.reduceBEq, h4]) (by simp only [upd_at, upd_ne, Nat.reduceBEq]) (by simp only [upd_at]; rfl)) (fun ex σ' H' q => ⟨q.1, q.2.1, fun h => ?_, q.2.2.2.1, q.2.2.2.2.trans (by simp only [upd_ne, Nat.reduceBEq])⟩)
          rw [q.2.2.1 h]; congr 2; omega
def fgB (g f : List Int) (w : Int) : Bool := fo g f 0 16 && decide (((wr g f 0 16).length : Int) ≤ w)
theorem run110 {g f : List Int} (hg : g.length = 16) (hf : f.length = 16) (w : Int) (H : AHeap) : ev kk 110 [.agg (grow g), .agg (grow f), .c (.int .i64 w)] H = some (.c (.bool (fgB g f w)), H) := by
  obtain ⟨ex, σ', H', e, rfl, rfl, h7, h6, h2⟩ := loop110 hg hf (H := H ++ [gb 34 g, gb 34 f]) (b := H.length) (c := H.length + 1) (by rw [get_app0]; rfl) (by rw [get_app]; rfl) 16 0 0 rfl (by omega) (lst [.agg (grow g), .agg (grow f), .c (.int .i64 w), .c (.ptr (some (H.length, 0))), .c (.ptr (some (H.length + 1, 0))), .c .undef, .c (.bool false), .c (.int .i64 0), .c (.int .i64 0)]) rfl rfl rfl rfl
  have h2 : σ' 2 = .c (.int .i64 w) := h2
  rw [Int.zero_add] at h7
  unfold fgB
  cases hE : fo g f 0 16
  · have h6 := h6 hE
    rw [hE] at e
    simp only [Bool.false_eq_true, if_false] at e
    rw [ev_call c110]; unfold k110; rw [evB_eq rfl]
    simp (maxSteps := 4000000) (disch := first | omega | (refine _root_.id ?_; simp only [pl_int, pl_bool, pl_str, pl_undef, pl_nil, pl_ptr, plA_c, plA_agg, plA_tup, plV_c, plV_agg, List.all_cons, List.all_nil, Bool.and_true, Bool.and_self, eq_self, vi_int, vi_bool, get_app, get_app0, List.getElem?_cons_zero, List.getElem?_cons_succ, Option.join_some, lst_get, getL, upd_at, upd_ne, Nat.reduceBEq])) only [evC_region, evC_seq, evC_block, ev_t, ev_k, putS_some, upd_l, ops_nil, ops_cons, next_some, then_norm, then_ret, out_ret, done_ret, putL, getL, Option.bind_some, Option.map_some, evalOp, AV.cells?, len_app, List.length_cons, List.length_nil, List.append_assoc, List.cons_append, List.nil_append, Nat.zero_add, evalRs, evalR, AV.toV0?, mkRes, V0.toAV, lst_get, eq_self, finish_app, e, h6, Bool.false_and]
  · have h7 := h7 hE
    rw [hE] at e
    simp only [if_true] at e
    rw [ev_call c110]; unfold k110; rw [evB_eq rfl]
    simp (maxSteps := 4000000) (disch := first | omega | (refine _root_.id ?_; simp only [pl_int, pl_bool, pl_str, pl_undef, pl_nil, pl_ptr, plA_c, plA_agg, plA_tup, plV_c, plV_agg, List.all_cons, List.all_nil, Bool.and_true, Bool.and_self, eq_self, vi_int, vi_bool, get_app, get_app0, List.getElem?_cons_zero, List.getElem?_cons_succ, Option.join_some, lst_get, getL, upd_at, upd_ne, Nat.reduceBEq])) only [evC_ret, evC_region, evC_seq, evC_block, ev_t, ev_k, putS_some, upd_l, ops_nil, ops_cons, next_some, then_norm, out_exit, done_ret, putL, getL, Option.bind_some, Option.map_some, evalOp, AV.cells?, len_app, List.length_cons, List.length_nil, List.append_assoc, List.cons_append, List.nil_append, Nat.zero_add, ↓reduceIte, reduceCtorEq, binA, binC, intBin, or_false, or_true, evalRs, evalR, AV.toV0?, mkRes, V0.toAV, lst_get, eq_self, finish_app, Bool.true_and, upd_at, upd_ne, e, h7, h2, Bool.true_and]
theorem loop107 {g f : List Int} (hg : g.length = 16) (hf : f.length = 16) {H : AHeap} {b c : Nat} {e e' : TypeId} {m m' : BM} (hb : H.get b = some ⟨e, grow g, m⟩) (hc : H.get c = some ⟨e', grow f, m'⟩) : ∀ (n i : Nat) (_ : i + n = 16) (σ : Sl) (_ : σ 3 = .c (.ptr (some (b, 0)))) (_ : σ 4 = .c (.ptr (some (c, 0)))) (_ : σ 9 = .c (.int .i64 i)),
    Post (evC (ev kk) (.loop l107_0) (σ, H)) fun ex σ' H' => ex = (if fo g f i n = true then .exit 0 else .ret) ∧ H' = H ∧ (fo g f i n = false → σ' 6 = .c (.bool false)) ∧ σ' 2 = σ 2 ∧ σ' 3 = .c (.ptr (some (b, 0))) ∧ σ' 4 = .c (.ptr (some (c, 0)))
  | 0, i, hi, σ, h3, h4, h9 => by
    have hge : ¬ ((i : Int) < 16) := by omega
    have e1 : fo g f i 0 = true := rfl
    rw [evC_loop, e1]
    simp only [evC_exit, evC_region, evC_seq, ev_t, ev_k, putS_some, ops_nil, evC_condC, cond_bool, ops_cons, next_some, then_norm, then_exit, Option.map_some, evalOp, ↓reduceIte, reduceCtorEq, binA, binC, intBin, or_false, or_true, true_and, decide_false, and_self, eq_self, Int.reduceNeg, Bool.true_eq_false, Bool.false_eq_true, Nat.reduceBEq, post_some, upd_at, upd_ne, false_implies, l107_0, h3, h4, h9, hge, Bool.true_eq_false]
  | n + 1, i, hi, σ, h3, h4, h9 => by
    have hil : i < g.length := by omega
    have hjl : i < f.length := by omega
    have hlt : (i : Int) < 16 := by omega
    have hs := sm_at hil hjl
    rw [evC_loop, fo_step]
    by_cases c1 : sm g f i < -1
    · have hq : fq g f i = false := decide_eq_false (fun h => h.1 c1)
      simp (maxSteps := 4000000) (disch := first | omega | (refine _root_.id ?_; simp only [pl_int, pl_bool, pl_str, pl_undef, pl_nil, pl_ptr, plA_c, plA_agg, plA_tup, plV_c, plV_agg, List.all_cons, List.all_nil, Bool.and_true, Bool.and_self, eq_self, vi_int, vi_bool, get_app, get_app0, List.getElem?_cons_zero, List.getElem?_cons_succ, Option.join_some, lst_get, getL, upd_at, upd_ne, Nat.reduceBEq])) only [evC_skip, evC_ret, evC_region, evC_seq, evC_block, ev_t, ev_k, putS_some, ops_nil, ops_consg, guard_bool, evC_condC, cond_bool, ops_cons, next_some, nextD_some, then_norm, then_ret, out_ret, Option.map_some, evalOp, readCell, Nat.zero_add, ↓reduceIte, reduceCtorEq, binA, binC, intBin, or_false, or_true, decide_true, and_self, Int.cast_ofNat_Int, eq_self, Int.reduceNeg, Bool.not_false, Bool.true_eq_false, Bool.false_eq_true, evC_drawn, dr_nil, dr_cons, chk_nil, post_some, upd_at, upd_ne, cast_nonneg, cast_toNat, Nat.mul_one, true_implies, l107_0, h3, h4, h9, hlt, hb, hc, grow_get hil, grow_get hjl, hs, c1, hq, Bool.false_and, Bool.false_eq_true]
    · by_cases c2 : 1 < sm g f i
      · have hq : fq g f i = false := decide_eq_false (fun h => h.2 c2)
        simp (maxSteps := 4000000) (disch := first | omega | (refine _root_.id ?_; simp only [pl_int, pl_bool, pl_str, pl_undef, pl_nil, pl_ptr, plA_c, plA_agg, plA_tup, plV_c, plV_agg, List.all_cons, List.all_nil, Bool.and_true, Bool.and_self, eq_self, vi_int, vi_bool, get_app, get_app0, List.getElem?_cons_zero, List.getElem?_cons_succ, Option.join_some, lst_get, getL, upd_at, upd_ne, Nat.reduceBEq])) only [evC_skip, evC_ret, evC_region, evC_seq, evC_block, ev_t, ev_k, putS_some, ops_nil, ops_consg, guard_bool, evC_condC, cond_bool, ops_cons, next_some, nextD_some, then_norm, then_ret, out_ret, Option.map_some, evalOp, readCell, Nat.zero_add, ↓reduceIte, reduceCtorEq, binA, binC, intBin, or_false, or_true, decide_true, decide_false, and_self, Int.cast_ofNat_Int, eq_self, Int.reduceNeg, Bool.false_eq_true, evC_drawn, dr_nil, dr_cons, chk_nil, post_some, upd_at, upd_ne, cast_nonneg, cast_toNat, Nat.mul_one, true_implies, l107_0, h3, h4, h9, hlt, hb, hc, grow_get hil, grow_get hjl, hs, c1, c2, hq, Bool.false_and, Bool.false_eq_true]
      · have hq : fq g f i = true := decide_eq_true ⟨c1, c2⟩
        simp (maxSteps := 4000000) (disch := first | omega | (refine _root_.id ?_; simp only [pl_int, pl_bool, pl_str, pl_undef, pl_nil, pl_ptr, plA_c, plA_agg, plA_tup, plV_c, plV_agg, List.all_cons, List.all_nil, Bool.and_true, Bool.and_self, eq_self, vi_int, vi_bool, get_app, get_app0, List.getElem?_cons_zero, List.getElem?_cons_succ, Option.join_some, lst_get, getL, upd_at, upd_ne, Nat.reduceBEq])) only [evC_skip, evC_region, evC_seq, evC_block, ev_t, ev_k, putS_some, ops_nil, ops_consg, guard_bool, evC_condC, cond_bool, ops_cons, next_some, nextD_some, then_norm, out_norm, Option.map_some, evalOp, readCell, Nat.zero_add, ↓reduceIte, reduceCtorEq, binA, binC, intBin, or_false, or_true, decide_true, decide_false, and_self, Int.cast_ofNat_Int, eq_self, IntWalk.i64_in, Int.reduceNeg, Bool.true_and, Bool.false_eq_true, evC_drawn, dr_nil, dr_cons, chk_nil, upd_at, upd_ne, cast_nonneg, cast_toNat, Nat.mul_one, l107_0, h3, h4, h9, hlt, hb, hc, grow_get hil, grow_get hjl, hs, c1, c2, hq, Bool.true_and]
        exact Post.mono (loop107 hg hf hb hc n (i + 1) (by omega) _ (by simp only [upd_ne, Nat.reduceBEq, h3]) (by simp only [upd_ne, Nat.reduceBEq, h4]) (by simp only [upd_at]; rfl)) (fun ex σ' H' q => ⟨q.1, q.2.1, q.2.2.1, q.2.2.2.1.trans (by simp only [upd_ne, Nat.reduceBEq]), q.2.2.2.2⟩)
theorem OutS.isC {e : TypeId} {s L n : Nat} {T : List (Option Blk)} {cells : List CV} {v : AV} (h : OutS e s L T n cells v) : ∃ q cap, v = .c (.slice q n cap) := by
  rcases h with ⟨rfl, _, q, rfl⟩ | ⟨_, _, k, rfl, _⟩
  · exact ⟨_, _, rfl⟩
  · exact ⟨_, _, rfl⟩
theorem run107 {g f : List Int} (hg : g.length = 16) (hf : f.length = 16) (w : Int) (H : AHeap) : ev kk 107 [.agg (grow g), .agg (grow f), .c (.int .i64 w)] H = some (.c (.bool (fgB g f w)), H) := by
  obtain ⟨ex, σ', H', e, rfl, rfl, h6, h2, h3, h4⟩ := loop107 hg hf (H := H ++ [gb 34 g, gb 34 f]) (b := H.length) (c := H.length + 1) (by rw [get_app0]; rfl) (by rw [get_app]; rfl) 16 0 rfl (lst [.agg (grow g), .agg (grow f), .c (.int .i64 w), .c (.ptr (some (H.length, 0))), .c (.ptr (some (H.length + 1, 0))), .c .undef, .c (.bool false), .c .undef, .c .undef, .c (.int .i64 0)]) rfl rfl rfl
  have h2 : σ' 2 = .c (.int .i64 w) := h2
  have hgl : (grow g).length = 16 := by rw [List.length_map]; exact hg
  have hgt : List.take 16 (grow g) = grow g := List.take_of_length_le (by omega)
  have hfl : (grow f).length = 16 := by rw [List.length_map]; exact hf
  have hft : List.take 16 (grow f) = grow f := List.take_of_length_le (by omega)
  obtain ⟨T, cw, e83, ho⟩ := run71 hg hf (H ++ [gb 34 g, gb 34 f])
  obtain ⟨q, cap, hcw⟩ := OutS.isC ho
  injection hcw with hcw
  subst hcw
  unfold fgB
  cases hE : fo g f 0 16
  · have h6 := h6 hE
    rw [hE] at e
    simp only [Bool.false_eq_true, if_false] at e
    rw [ev_call c107]; unfold k107; rw [evB_eq rfl]
    simp (maxSteps := 4000000) (disch := first | omega | (refine _root_.id ?_; simp only [pl_int, pl_bool, pl_str, pl_undef, pl_nil, pl_ptr, plA_c, plA_agg, plA_tup, plV_c, plV_agg, List.all_cons, List.all_nil, Bool.and_true, Bool.and_self, eq_self, vi_int, vi_bool, get_app, get_app0, List.getElem?_cons_zero, List.getElem?_cons_succ, Option.join_some, lst_get, getL, upd_at, upd_ne, Nat.reduceBEq])) only [evC_region, evC_seq, evC_block, ev_t, ev_k, putS_some, upd_l, ops_nil, ops_cons, next_some, then_norm, then_ret, out_ret, done_ret, putL, getL, Option.bind_some, Option.map_some, evalOp, AV.cells?, len_app, List.length_cons, List.length_nil, List.append_assoc, List.cons_append, List.nil_append, Nat.zero_add, evalRs, evalR, AV.toV0?, mkRes, V0.toAV, lst_get, eq_self, finish_app, e, h6, Bool.false_and]
  · rw [hE] at e
    simp only [if_true] at e
    simp only [List.append_assoc, List.cons_append, List.nil_append] at e e83
    rw [ev_call c107]; unfold k107; rw [evB_eq rfl]
    simp (maxSteps := 4000000) (disch := first | omega | (refine _root_.id ?_; simp only [pl_int, pl_bool, pl_str, pl_undef, pl_nil, pl_ptr, plA_c, plA_agg, plA_tup, plV_c, plV_agg, List.all_cons, List.all_nil, Bool.and_true, Bool.and_self, eq_self, vi_int, vi_bool, get_app, get_app0, List.getElem?_cons_zero, List.getElem?_cons_succ, Option.join_some, lst_get, getL, upd_at, upd_ne, Nat.reduceBEq])) only [evC_ret, evC_region, evC_seq, evC_block, ev_t, ev_k, putS_some, upd_l, ops_nil, ops_cons, next_some, then_norm, out_exit, done_ret, putL, getL, Option.bind_some, Option.map_some, evalOp, AV.cells?, readCells, get_app, get_app0, len_app, List.getElem?_cons_zero, List.getElem?_cons_succ, Option.join_some, List.length_cons, List.length_nil, List.append_assoc, List.cons_append, List.nil_append, Nat.zero_add, List.drop_zero, ↓reduceIte, reduceCtorEq, binA, binC, intBin, or_false, or_true, evalRs, evalR, AV.toV0?, mkRes, V0.toAV, lst_get, eq_self, finish_app, Bool.true_and, List.map_cons, List.map_nil, List.append_nil, upd_at, upd_ne, e, h2, h3, h4, hgl, hgt, hfl, hft, e83, Bool.true_and, Nat.le_refl]
/-! Whether halves fit -/
def ftB (s h : Hf) (w : Int) : Bool := eqN s.xs h.xs && fgB s.g h.g w
end Go.Proofs.Ytnblibimbggheaa
