/- What functions of the program answer: part Marks. -/
import Derived.Test.YtnblibimbggheaaMisfit
set_option linter.unusedVariables false
set_option linter.unusedSimpArgs false
set_option linter.unusedSectionVars false
namespace Go.Proofs.Ytnblibimbggheaa
open Go Go.Proofs.Ytnblibimbggheaa.VI
set_option maxHeartbeats 16000000
set_option maxRecDepth 20000
def Nums (H : AHeap) (p : Option (Nat × Nat)) (xs : List Int) : Prop := 0 < xs.length → ∃ id t m, p = some (id, 0) ∧ H.get id = some ⟨t, irow xs, m⟩
theorem Nums.app {H : AHeap} {p : Option (Nat × Nat)} {xs : List Int} (h : Nums H p xs) (t : List (Option Blk)) : Nums (H ++ t) p xs := by
  intro h0
  obtain ⟨id, e, m, h1, h2⟩ := h h0
  exact ⟨id, e, m, h1, by rw [get_appl (get_some_lt h2)]; exact h2⟩
theorem irow_get {xs : List Int} {i : Nat} (hi : i < xs.length) : (irow xs)[i]? = some (.int .i64 (xs[i]'hi)) := by
  rw [List.getElem?_map, List.getElem?_eq_getElem hi]; rfl
/-! What has been laid by appends, as numbers -/
abbrev Lay (K : AHeap) (T : List (Option Blk)) (xs : List Int) (c : CV) : Prop := OutS 2 1 K.length T xs.length (irow xs) (.c c)
theorem Lay.nums {K : AHeap} {T : List (Option Blk)} {xs : List Int} {c : CV} (h : Lay K T xs c) : ∃ p cap, c = .slice p xs.length cap ∧ Nums (K ++ T) p xs := by
  rcases h with ⟨h0, _, q, h⟩ | ⟨h0, _, k, h, hk⟩
  · injection h with h; subst h
    exact ⟨q, _, by rw [h0], fun hh => by omega⟩
  · injection h with h; subst h
    exact ⟨_, _, rfl, fun _ => ⟨_, _, _, rfl, by rw [get_app, hk]; rfl⟩⟩
theorem loop78 {g f : List Int} (hg : g.length = 16) (hf : f.length = 16) {H : AHeap} {b c : Nat} {e e' : TypeId} {m m' : BM} (hb : H.get b = some ⟨e, grow g, m⟩) (hc : H.get c = some ⟨e', grow f, m'⟩) : ∀ (n i : Nat) (_ : i + n = 16) (ws : List Int) (_ : ws.length ≤ i) (T : List (Option Blk)) (v : AV) (_ : OutS 2 1 H.length T ws.length (irow ws) v) (σ : Sl) (_ : σ 2 = .c (.ptr (some (b, 0)))) (_ : σ 3 = .c (.ptr (some (c, 0)))) (_ : σ 5 = v) (_ : σ 6 = .c (.int .i64 i)),
    Post (evC (ev kk) (.loop l78_0) (σ, H ++ T)) fun ex σ' H' => ex = .exit 0 ∧ ∃ T', H' = H ++ T' ∧ OutS 2 1 H.length T' (ws ++ wr g f i n).length (irow (ws ++ wr g f i n)) (σ' 5)
  | 0, i, hi, ws, hw, T, v, ho, σ, h2, h3, h5, h6 => by
    have hge : ¬ ((i : Int) < 16) := by omega
    rw [evC_loop]
    simp only [evC_exit, evC_region, evC_seq, ev_t, ev_k, putS_some, ops_nil, evC_condC, cond_bool, ops_cons, next_some, then_norm, then_exit, Option.map_some, evalOp, ↓reduceIte, reduceCtorEq, binA, binC, intBin, or_false, or_true, true_and, decide_false, eq_self, Bool.false_eq_true, Nat.reduceBEq, post_some, upd_at, upd_ne, l78_0, h5, h6, hge]
    refine ⟨T, rfl, ?_⟩
    have : wr g f i 0 = [] := rfl
    rw [this, List.append_nil]; exact ho
  | n + 1, i, hi, ws, hw, T, v, ho, σ, h2, h3, h5, h6 => by
    have hil : i < g.length := by omega
    have hjl : i < f.length := by omega
    have hlt : (i : Int) < 16 := by omega
    have hbl := get_some_lt hb
    have hcl := get_some_lt hc
    have e1 : g.getD i 0 = g[i] := by rw [List.getD_eq_getElem?_getD, List.getElem?_eq_getElem hil]; rfl
    have e2 : f.getD i 0 = f[i] := by rw [List.getD_eq_getElem?_getD, List.getElem?_eq_getElem hjl]; rfl
    rw [evC_loop, wr_step]
    by_cases hq : wq g f i = true
    · have hq' : (IntKind.i8.wrap (g[i] + f[i]) != 0) = true := by unfold wq at hq; rw [e1, e2] at hq; exact hq
      have hoT : OutS 2 1 H.length (T ++ [some ⟨2, [.int .i64 i], .own⟩]) ws.length (irow ws) v := by
        rcases ho with h | ⟨h1, h2, k, h3, h4⟩
        · exact .inl h
        · exact .inr ⟨h1, h2, k, h3, by rw [List.getElem?_append_left (List.getElem?_eq_some_iff.1 h4).1]; exact h4⟩
      obtain ⟨v', T', happ, ho'⟩ := hoT.step (bytes := 8) (j := H.length + T.length) (m := 1) (cs := [.int .i64 i]) (t := 2) (bm := .own) (cap := .exact 1) (by rw [get_app]; simp) (by omega) rfl (by omega) rfl
      simp (maxSteps := 4000000) (disch := first | omega | (refine _root_.id ?_; simp only [pl_int, pl_bool, pl_str, pl_undef, pl_nil, pl_ptr, plA_c, plA_agg, plA_tup, plV_c, plV_agg, List.all_cons, List.all_nil, Bool.and_true, Bool.and_self, eq_self, vi_int, vi_bool, get_app, get_app0, List.getElem?_cons_zero, List.getElem?_cons_succ, Option.join_some, lst_get, getL, upd_at, upd_ne, Nat.reduceBEq])) only [evC_skip, evC_region, evC_seq, evC_block, ev_t, ev_k, putS_some, ops_nil, evC_condC, cond_bool, ops_cons, next_some, nextD_some, then_norm, out_norm, Option.map_some, evalOp, AV.cells?, readCell, len_app, List.length_cons, List.length_nil, List.append_assoc, List.nil_append, Nat.zero_add, Nat.reduceLeDiff, List.drop_succ_cons, List.take_zero, List.drop_nil, ↓reduceIte, reduceCtorEq, binA, binC, intBin, or_false, or_true, decide_true, and_self, Int.cast_ofNat_Int, eq_self, IntWalk.i64_in, List.append_nil, setAt, evC_drawn, dr_nil, dr_cons, chk_nil, partsA, fillC, upd_at, upd_ne, cast_nonneg, cast_toNat, Nat.mul_one, l78_0, h2, h3, h5, h6, hlt, get_appl hbl, get_appl hcl, hb, hc, grow_get hil, grow_get hjl, hq', hq, happ]
      have e3 : ws ++ (i : Int) :: wr g f (i + 1) n = (ws ++ [(i : Int)]) ++ wr g f (i + 1) n := by simp
      rw [e3]
      refine loop78 hg hf hb hc n (i + 1) (by omega) (ws ++ [(i : Int)]) (by simp; omega) T' v' ?_ _ (by simp only [upd_ne, Nat.reduceBEq, h2]) (by simp only [upd_ne, Nat.reduceBEq, h3]) (by simp only [upd_at, upd_ne, Nat.reduceBEq]) (by simp only [upd_at]; rfl)
      have e4 : irow (ws ++ [(i : Int)]) = irow ws ++ [.int .i64 i] := by simp [irow]
      rw [e4, List.length_append]; exact ho'
    · have hq' : (IntKind.i8.wrap (g[i] + f[i]) != 0) = false := by unfold wq at hq; rw [e1, e2] at hq; simpa using hq
      have hq : wq g f i = false := by simpa using hq
      simp (maxSteps := 4000000) (disch := first | omega | (refine _root_.id ?_; simp only [pl_int, pl_bool, pl_str, pl_undef, pl_nil, pl_ptr, plA_c, plA_agg, plA_tup, plV_c, plV_agg, List.all_cons, List.all_nil, Bool.and_true, Bool.and_self, eq_self, vi_int, vi_bool, get_app, get_app0, List.getElem?_cons_zero, List.getElem?_cons_succ, Option.join_some, lst_get, getL, upd_at, upd_ne, Nat.reduceBEq])) only [evC_skip, evC_region, evC_seq, evC_block, ev_t, ev_k, putS_some, ops_nil, evC_condC, cond_bool, ops_cons, next_some, nextD_some, then_norm, out_norm, Option.map_some, evalOp, readCell, Nat.zero_add, ↓reduceIte, reduceCtorEq, binA, binC, intBin, or_false, or_true, decide_true, and_self, Int.cast_ofNat_Int, eq_self, IntWalk.i64_in, Bool.false_eq_true, evC_drawn, dr_nil, dr_cons, chk_nil, upd_at, upd_ne, cast_nonneg, cast_toNat, Nat.mul_one, l78_0, h2, h3, h6, hlt, get_appl hbl, get_appl hcl, hb, hc, grow_get hil, grow_get hjl, hq', hq, Bool.false_eq_true]
      exact loop78 hg hf hb hc n (i + 1) (by omega) ws (by omega) T v ho _ (by simp only [upd_ne, Nat.reduceBEq, h2]) (by simp only [upd_ne, Nat.reduceBEq, h3]) (by simp only [upd_ne, Nat.reduceBEq, h5]) (by simp only [upd_at]; rfl)
theorem run78 {g f : List Int} (hg : g.length = 16) (hf : f.length = 16) (H : AHeap) : ∃ T c, ev kk 78 [.agg (grow g), .agg (grow f)] H = some (.c c, H ++ T) ∧ OutS 2 1 H.length T (ws g f).length (irow (ws g f)) (.c c) := by
  obtain ⟨ex, σ', H', e, rfl, T', rfl, ho⟩ := loop78 hg hf (H := H ++ [gb 34 g, gb 34 f]) (b := H.length) (c := H.length + 1) (by rw [get_app0]; rfl) (by rw [get_app]; rfl) 16 0 rfl [] (by simp) [some ⟨2, [], .own⟩] (.c (.slice (some (H.length + 2, 0)) 0 (.exact 0))) (.inl ⟨rfl, rfl, _, rfl⟩)
    (lst [.agg (grow g), .agg (grow f), .c (.ptr (some (H.length, 0))), .c (.ptr (some (H.length + 1, 0))), .c (.slice none 0 (.exact 0)), .c (.slice (some (H.length + 2, 0)) 0 (.exact 0)), .c (.int .i64 0), .c (.slice (some (H.length + 2, 0)) 0 (.exact 0))]) rfl rfl rfl rfl
  simp only [List.append_assoc, List.cons_append, List.nil_append] at e
  have hv : ∃ c, σ' 5 = .c c := by
    rcases ho with ⟨_, _, q, h⟩ | ⟨_, _, k, h, _⟩
    · exact ⟨_, h⟩
    · exact ⟨_, h⟩
  obtain ⟨c, hv⟩ := hv
  refine ⟨gb 34 g :: gb 34 f :: T', c, ?_, ?_⟩
  · rw [ev_call c78]; unfold k78; rw [evB_eq rfl]
    simp only [evC_ret, evC_region, evC_seq, evC_block, ev_t, ev_k, putS_some, upd_l, ops_nil, ops_cons, next_some, then_norm, out_exit, done_ret, putL, getL, Option.bind_some, Option.map_some, evalOp, AV.cells?, len_app, List.length_cons, List.length_nil, List.append_assoc, List.cons_append, List.nil_append, Nat.zero_add, Nat.reduceAdd, ↓reduceIte, evalRs, evalR, AV.toV0?, mkRes, V0.toAV, lst_get, eq_self, partsA, fillC, finish_no, upd_at, e, hv]
  · rw [hv, List.length_append] at ho
    exact OutS.shift (pre := [gb 34 g, gb 34 f]) ho
end Go.Proofs.Ytnblibimbggheaa
