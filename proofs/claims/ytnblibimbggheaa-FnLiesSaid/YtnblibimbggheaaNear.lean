/- What functions of the program answer: part Near. -/
import Derived.Test.YtnblibimbggheaaMisfit
set_option linter.unusedVariables false
set_option linter.unusedSimpArgs false
set_option linter.unusedSectionVars false
namespace Go.Proofs.Ytnblibimbggheaa
open Go Go.Proofs.Ytnblibimbggheaa.VI
set_option maxHeartbeats 16000000
set_option maxRecDepth 20000
abbrev mN (xs ys : List Nt) : List Int := mr xs ys 0 (max xs.length ys.length)
theorem run81 {s h : Hf} {H : AHeap} (hs : HfAt H s) (hh : HfAt H h) : ∃ T c, ev kk 81 [.agg (hfr s), .agg (hfr h)] H = some (.c c, H ++ T) ∧ OutS 2 1 H.length T (mN s.xs h.xs).length (irow (mN s.xs h.xs)) (.c c) := by
  have hmx : (if (s.xs.length : Int) < h.xs.length then (h.xs.length : Int) else s.xs.length) = ((max s.xs.length h.xs.length : Nat) : Int) := by split <;> omega
  obtain ⟨ex, σ', H', e, rfl, T', rfl, ho⟩ := loop81_0 (cap := s.cap) (cap' := h.cap) hs.few hh.few (H := H ++ [hfb s, hfb h]) (hs.at_.app _) (hh.at_.app _) _ 0 (Nat.zero_add _) [] (by simp) [some ⟨2, [], .own⟩] (.c (.slice (some (H.length + 2, 0)) 0 (.exact 0))) (.inl ⟨rfl, rfl, _, rfl⟩)
    (lst [.agg (hfr s), .agg (hfr h), .c (.ptr (some (H.length, 0))), .c (.ptr (some (H.length + 1, 0))), .c (.slice none 0 (.exact 0)), .c (.slice (some (H.length + 2, 0)) 0 (.exact 0)), .c (.slice s.p s.xs.length s.cap), .c (.slice h.p h.xs.length h.cap), .c .undef, .c (.slice (some (H.length + 2, 0)) 0 (.exact 0)), .c (.ptr (some (H.length, 1))), .c (.slice s.p s.xs.length s.cap), .c (.ptr (some (H.length + 1, 1))), .c (.slice h.p h.xs.length h.cap), .c (.slice s.p s.xs.length s.cap), .c (.int .i64 s.xs.length), .c (.slice h.p h.xs.length h.cap), .c (.int .i64 h.xs.length), .c (.int .i64 ((max s.xs.length h.xs.length : Nat) : Int)), .c (.int .i64 0)]) rfl rfl rfl rfl rfl
  simp only [List.append_assoc, List.cons_append, List.nil_append] at e ho
  obtain ⟨q, cap, hv⟩ := OutS.isC ho
  refine ⟨hfb s :: hfb h :: T', _, ?_, by rw [← hv]; rw [len_app] at ho; exact OutS.shift (pre := [hfb s, hfb h]) ho⟩
  generalize ((max s.xs.length h.xs.length : Nat) : Int) = mx at *
  rw [ev_call c81]; unfold k81; rw [evB_eq rfl]
  simp (maxSteps := 4000000) (disch := first | omega | (refine _root_.id ?_; simp only [pl_int, pl_bool, pl_str, pl_undef, pl_nil, pl_ptr, plA_c, plA_agg, plA_tup, plV_c, plV_agg, List.all_cons, List.all_nil, Bool.and_true, Bool.and_self, eq_self, vi_int, vi_bool, get_app, get_app0, List.getElem?_cons_zero, List.getElem?_cons_succ, Option.join_some, lst_get, getL, upd_at, upd_ne, Nat.reduceBEq])) only [evC_ret, evC_region, evC_seq, evC_block, ev_t, ev_k, putS_some, upd_l, ops_nil, ops_cons, next_some, nextD_some, then_norm, out_exit, done_ret, putL, getL, Option.bind_some, Option.map_some, evalOp, AV.cells?, readCell, get_app, get_app0, len_app, List.getElem?_cons_zero, List.getElem?_cons_succ, Option.join_some, List.length_cons, List.length_nil, List.append_assoc, List.cons_append, List.nil_append, Nat.zero_add, Nat.reduceAdd, ↓reduceIte, evalRs, evalR, AV.toV0?, mkRes, V0.toAV, lst_get, eq_self, List.map_cons, List.map_nil, evC_drawn, dr_nil, dr_cons, chk_nil, partsA, fillC, finish_no, upd_at, maxL, hmx, e, hv]
/-! The nearest -/
def cnF (s h : Hf) : Int := ((mN s.xs h.xs).length : Int) + ((ws s.g h.g).length : Int)
theorem cnF_b {s h : Hf} (h1 : s.xs.length ≤ 4398046511104) (h2 : h.xs.length ≤ 4398046511104) : 0 ≤ cnF s h ∧ cnF s h ≤ 4398046511120 := by
  have a := mr_len (xs := s.xs) (ys := h.xs) (i := 0) (n := max s.xs.length h.xs.length)
  have b := wr_len (g := s.g) (f := h.g) (i := 0) (n := 16)
  unfold cnF mN ws; omega
def nrG (s : Hf) : List Hf → Nat → Int → Int → Int × Int
  | [], _, r, b => (r, b)
  | h :: hs, i, r, b => if i = 0 ∨ cnF s h < b then nrG s hs (i + 1) i (cnF s h) else nrG s hs (i + 1) r b
theorem nrG_step {s : Hf} {hs : List Hf} {i : Nat} (hi : i < hs.length) {r b : Int} : nrG s (hs.drop i) i r b = if i = 0 ∨ cnF s (hs[i]'hi) < b then nrG s (hs.drop (i + 1)) (i + 1) i (cnF s (hs[i]'hi)) else nrG s (hs.drop (i + 1)) (i + 1) r b := by
  rw [List.drop_eq_getElem_cons hi]; rfl
theorem loop33 {s : Hf} {p : Option (Nat × Nat)} {cap : Cap} {hs : List Hf} (hlen : hs.length ≤ 4398046511104) {j : Nat} {e : TypeId} {m : BM} : ∀ (n i : Nat) (_ : i + n = hs.length) (r b : Int) (_ : 0 ≤ b ∧ b ≤ 4398046511120) (J : AHeap) (_ : HfAt J s) (_ : Hfs J p hs) (_ : ∀ h ∈ hs, HfAt J h) (_ : J.get j = some ⟨e, hfr s, m⟩) (σ : Sl) (_ : σ 2 = .c (.ptr (some (j, 0)))) (_ : σ 8 = .c (.int .i64 r)) (_ : σ 9 = .c (.int .i64 (if i = 0 then -1 else b))) (_ : σ 27 = .c (.slice p hs.length cap)) (_ : σ 28 = .c (.int .i64 hs.length)) (_ : σ 29 = .c (.int .i64 i)),
    Post (evC (ev kk) (.loop l33_0) (σ, J)) fun ex σ' H' => ex = .exit 1 ∧ (∃ T, H' = J ++ T) ∧ (0 < i + n → σ' 8 = .c (.int .i64 (nrG s (hs.drop i) i r b).1) ∧ σ' 9 = .c (.int .i64 (nrG s (hs.drop i) i r b).2))
  | 0, i, hi, r, b, hb', J, hsA, hp, ha, hj, σ, h2, h8, h9, h27, h28, h29 => by
    have hge : ¬ ((i : Int) < hs.length) := by omega
    have e1 : hs.drop i = [] := List.drop_eq_nil_of_le (by omega)
    have e2 : nrG s [] i r b = (r, b) := rfl
    rw [evC_loop, e1, e2]
    simp only [evC_exit, evC_region, evC_seq, ev_t, putS_some, ops_nil, evC_condC, cond_bool, ops_cons, next_some, then_norm, then_exit, Option.map_some, evalOp, Nat.add_zero, ↓reduceIte, reduceCtorEq, binA, binC, intBin, or_false, or_true, true_and, decide_false, eq_self, Int.reduceNeg, Bool.false_eq_true, Nat.reduceBEq, post_some, upd_at, upd_ne, l33_0, h8, h9, h28, h29, hge]
    exact ⟨laid0, fun h0 => by rw [if_neg (by omega)]⟩
  | n + 1, i, hi, r, b, hb', J, hsA, hp, ha, hj, σ, h2, h8, h9, h27, h28, h29 => by
    have hil : i < hs.length := by omega
    have hlt : (i : Int) < hs.length := by omega
    obtain ⟨id, t, bm, rfl, hb⟩ := _root_.id hp (by omega)
    have hle : i * 18 + 18 ≤ (hrows hs).length := by rw [hrowl]; omega
    have cut := hcut hil
    have hm := List.getElem_mem hil
    have hx := ha hs[i] hm
    have hjl := get_some_lt hj
    obtain ⟨T, c, r97, ho⟩ := run81 (hsA.app [hfb hs[i]]) (hx.app [hfb hs[i]])
    obtain ⟨q', cc, hc⟩ := OutS.isC ho
    injection hc with hc; subst hc
    obtain ⟨T2, d, r83, ho2⟩ := run71 s.g16 hs[i].g16 (J ++ hfb hs[i] :: T)
    obtain ⟨q2, cc2, hc2⟩ := OutS.isC ho2
    injection hc2 with hc2; subst hc2
    simp only [List.append_assoc, List.cons_append, List.nil_append] at r97 r83
    have hcn := cnF_b hsA.few hx.few
    have step := fun r b hb => loop33 (cap := cap) (s := s) (j := j) (e := e) (m := m) hlen n (i + 1) (by omega) r b hb (J ++ hfb hs[i] :: (T ++ T2)) (hsA.app _) (hp.app _) (fun h hh => (ha h hh).app _) (by rw [get_appl hjl]; exact hj)
    have sum : ((mN s.xs hs[i].xs).length : Int) + ((ws s.g hs[i].g).length : Int) = cnF s hs[i] := rfl
    have l1 := mr_len (xs := s.xs) (ys := hs[i].xs) (i := 0) (n := max s.xs.length hs[i].xs.length)
    have l2 := wr_len (g := s.g) (f := hs[i].g) (i := 0) (n := 16)
    have l3 := hsA.few
    have l4 := hx.few
    have hi1 : (i + 1 = 0) = False := by simp
    simp only [hi1, if_false] at step
    rw [evC_loop, nrG_step hil]
    generalize hs[i]'hil = x at *
    generalize cnF s x = cn at *
    by_cases h0 : i = 0
    · rw [if_pos h0] at h9
      rw [if_pos (.inl h0)]
      simp (maxSteps := 4000000) (disch := first | omega | (refine _root_.id ?_; simp only [pl_int, pl_bool, pl_str, pl_undef, pl_nil, pl_ptr, plA_c, plA_agg, plA_tup, plV_c, plV_agg, List.all_cons, List.all_nil, Bool.and_true, Bool.and_self, eq_self, vi_int, vi_bool, get_app, get_app0, List.getElem?_cons_zero, List.getElem?_cons_succ, Option.join_some, lst_get, getL, upd_at, upd_ne, Nat.reduceBEq])) only [evC_skip, evC_region, evC_seq, evC_block, ev_t, ev_k, putS_some, putS_none, ops_nil, ops_consg, guard_bool, evC_condC, cond_bool, ops_cons, next_some, nextD_some, then_norm, out_norm, Option.map_some, evalOp, AV.cells?, readCells, writeCells, get_app0, set_app0, List.getElem?_cons_zero, Option.join_some, List.length_cons, List.length_nil, List.nil_append, Nat.zero_add, Nat.reduceAdd, List.drop_zero, List.drop_succ_cons, List.take_zero, List.take_succ_cons, List.drop_nil, ↓reduceIte, reduceCtorEq, binA, binC, intBin, or_false, or_true, Int.reduceLT, decide_true, and_self, eq_self, IntWalk.i64_in, Int.reduceNeg, List.all_cons, Bool.and_true, Bool.not_false, Bool.true_eq_false, List.map_cons, List.map_nil, List.append_nil, setAt, CV.ok, List.set_cons_zero, evC_drawn, dr_nil, dr_cons, chk_nil, chk_cons, re_same, upd_at, upd_ne, cast_nonneg, cast_toNat, l33_0, h2, h9, h27, h28, h29, hlt, get_appl hjl, hj, hb, hle, cut, r97, r83, sum, gl, gt, Nat.le_refl, grow_ok]
      exact Post.mono (step _ _ hcn _ (by simp only [upd_ne, Nat.reduceBEq, h2]) (by simp only [upd_at, upd_ne, Nat.reduceBEq]) (by simp only [upd_at, upd_ne, Nat.reduceBEq]) (by simp only [upd_ne, Nat.reduceBEq, h27]) (by simp only [upd_ne, Nat.reduceBEq, h28]) (by simp only [upd_at]; rfl)) (fun ex σ' H' q => ⟨q.1, laid q.2.1, fun _ => q.2.2 (by omega)⟩)
    · rw [if_neg h0] at h9
      have hz : ¬ b < 0 := by omega
      by_cases hk : cn < b
      · rw [if_pos (.inr hk)]
        simp (maxSteps := 4000000) (disch := first | omega | (refine _root_.id ?_; simp only [pl_int, pl_bool, pl_str, pl_undef, pl_nil, pl_ptr, plA_c, plA_agg, plA_tup, plV_c, plV_agg, List.all_cons, List.all_nil, Bool.and_true, Bool.and_self, eq_self, vi_int, vi_bool, get_app, get_app0, List.getElem?_cons_zero, List.getElem?_cons_succ, Option.join_some, lst_get, getL, upd_at, upd_ne, Nat.reduceBEq])) only [evC_skip, evC_region, evC_seq, evC_block, ev_t, ev_k, putS_some, putS_none, ops_nil, ops_consg, guard_bool, evC_condC, cond_bool, ops_cons, next_some, nextD_some, then_norm, out_norm, Option.map_some, evalOp, AV.cells?, readCells, writeCells, get_app0, set_app0, List.getElem?_cons_zero, Option.join_some, List.length_cons, List.length_nil, List.nil_append, Nat.zero_add, Nat.reduceAdd, List.drop_zero, List.drop_succ_cons, List.take_zero, List.take_succ_cons, List.drop_nil, ↓reduceIte, reduceCtorEq, binA, binC, intBin, or_false, or_true, decide_true, decide_false, and_self, eq_self, IntWalk.i64_in, List.all_cons, Bool.and_true, Bool.false_eq_true, List.map_cons, List.map_nil, List.append_nil, setAt, CV.ok, List.set_cons_zero, evC_drawn, dr_nil, dr_cons, chk_nil, chk_cons, re_same, upd_at, upd_ne, cast_nonneg, cast_toNat, l33_0, h2, h9, h27, h28, h29, hlt, get_appl hjl, hj, hb, hle, cut, r97, r83, sum, gl, gt, Nat.le_refl, hz, hk, grow_ok]
        exact Post.mono (step _ _ hcn _ (by simp only [upd_ne, Nat.reduceBEq, h2]) (by simp only [upd_at, upd_ne, Nat.reduceBEq]) (by simp only [upd_at, upd_ne, Nat.reduceBEq]) (by simp only [upd_ne, Nat.reduceBEq, h27]) (by simp only [upd_ne, Nat.reduceBEq, h28]) (by simp only [upd_at]; rfl)) (fun ex σ' H' q => ⟨q.1, laid q.2.1, fun _ => q.2.2 (by omega)⟩)
      · rw [if_neg (by omega)]
        simp (maxSteps := 4000000) (disch := first | omega | (refine _root_.id ?_; simp only [pl_int, pl_bool, pl_str, pl_undef, pl_nil, pl_ptr, plA_c, plA_agg, plA_tup, plV_c, plV_agg, List.all_cons, List.all_nil, Bool.and_true, Bool.and_self, eq_self, vi_int, vi_bool, get_app, get_app0, List.getElem?_cons_zero, List.getElem?_cons_succ, Option.join_some, lst_get, getL, upd_at, upd_ne, Nat.reduceBEq])) only [evC_skip, evC_region, evC_seq, evC_block, ev_t, ev_k, putS_some, putS_none, ops_nil, ops_consg, guard_bool, evC_condC, cond_bool, ops_cons, next_some, nextD_some, then_norm, out_norm, Option.map_some, evalOp, AV.cells?, readCells, writeCells, get_app0, set_app0, List.getElem?_cons_zero, Option.join_some, List.length_cons, List.length_nil, List.nil_append, Nat.zero_add, Nat.reduceAdd, List.drop_zero, List.drop_succ_cons, List.take_zero, List.take_succ_cons, List.drop_nil, ↓reduceIte, reduceCtorEq, binA, binC, intBin, or_false, or_true, decide_true, decide_false, and_self, eq_self, IntWalk.i64_in, List.all_cons, Bool.and_true, Bool.false_eq_true, List.map_cons, List.map_nil, List.append_nil, setAt, CV.ok, List.set_cons_zero, evC_drawn, dr_nil, dr_cons, chk_nil, chk_cons, re_same, upd_at, upd_ne, cast_nonneg, cast_toNat, l33_0, h2, h9, h27, h28, h29, hlt, get_appl hjl, hj, hb, hle, cut, r97, r83, sum, gl, gt, Nat.le_refl, hz, hk, grow_ok]
        exact Post.mono (step _ _ hb' _ (by simp only [upd_ne, Nat.reduceBEq, h2]) (by simp only [upd_ne, Nat.reduceBEq, h8]) (by simp only [upd_ne, Nat.reduceBEq, h9]) (by simp only [upd_ne, Nat.reduceBEq, h27]) (by simp only [upd_ne, Nat.reduceBEq, h28]) (by simp only [upd_at]; rfl)) (fun ex σ' H' q => ⟨q.1, laid q.2.1, fun _ => q.2.2 (by omega)⟩)
end Go.Proofs.Ytnblibimbggheaa
