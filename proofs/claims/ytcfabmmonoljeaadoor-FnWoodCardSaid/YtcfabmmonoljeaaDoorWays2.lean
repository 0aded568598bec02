/- What functions of the program answer: part Ways2. -/
import Derived.Test.YtcfabmmonoljeaaDoorWays
set_option linter.unusedVariables false
set_option linter.unusedSimpArgs false
set_option linter.unusedSectionVars false
namespace Go.Proofs.YtcfabmmonoljeaaDoor
open Go Go.Proofs.YtcfabmmonoljeaaDoor.VI
set_option maxHeartbeats 16000000
set_option maxRecDepth 20000
theorem rmF_rng {p : Pr} {k : Int} : ∀ {n : Nat} {a x : Int}, x ∈ rmF p k n a → a ≤ x ∧ x < a + n
  | 0, a, x, h => by cases h
  | n + 1, a, x, h => by
    unfold rmF at h
    rcases List.mem_append.1 h with h | h
    · split at h
      · simp at h; omega
      · cases h
    · have := rmF_rng h; omega
theorem loop33_2 {h : Hf} (ok : okF h = true) {G : AHeap} {b : Nat} {e : TypeId} {m : BM} (hh : HfAt G h) (hb : G.get b = some ⟨e, hfr h, m⟩) : ∀ (n : Nat) (k : Int) (_ : k + n = 6) (_ : 0 ≤ k) (acc : List Tm) (_ : acc.length + n ≤ 1000) (J : AHeap) (_ : Pre G J) (v : AV) (_ : ApS 37 4 G J acc.length (trows acc) v) (σ : Sl) (_ : σ 1 = .c (.ptr (some (b, 0)))) (_ : σ 3 = v) (_ : σ 9 = .c (.int .i8 k)),
    Post (evC (ev kk) (.loop l33_2) (σ, J)) fun ex σ' H' => ex = .exit 4 ∧ Pre G H' ∧ ApS 37 4 G H' (acc ++ adF h.pr n k).length (trows (acc ++ adF h.pr n k)) (σ' 3)
  | 0, k, hk, hk0, acc, ha, J, hJ, v, ho, σ, h1, h3, h9 => by
    have hge : ¬ k ≤ 5 := by omega
    have e : adF h.pr 0 k = [] := rfl
    rw [evC_loop, e, List.append_nil]
    simp only [evC_exit, evC_region, evC_seq, ev_t, ev_k, putS_some, ops_nil, evC_condC, cond_bool, ops_cons, next_some, then_norm, then_exit, Option.map_some, evalOp, ↓reduceIte, reduceCtorEq, binA, binC, intBin, or_false, or_true, true_and, decide_false, eq_self, Bool.false_eq_true, Nat.reduceBEq, post_some, upd_at, upd_ne, l33_2, h3, h9, hge]
    exact ⟨hJ, ho⟩
  | n + 1, k, hk, hk0, acc, ha, J, hJ, v, ho, σ, h1, h3, h9 => by
    have hle : k ≤ 5 := by omega
    have few := okP_few ok
    have hbJ := hJ.get hb
    have lb := get_some_lt hbJ
    have hl := hfr_len h
    have htk := hfr_t (h := h)
    obtain ⟨c, J1, e1, p1, o1⟩ := run63 (kd := k) (hh.pre hJ) (by omega) few
    have hJ1 : Pre G J1 := hJ.trans p1
    have step := loop33_2 ok hh hb n (k + 1) (by omega) (by omega)
    have ew : adF h.pr (n + 1) k = ad1 k (rmF h.pr k 201 0) ++ adF h.pr n (k + 1) := rfl
    obtain ⟨q, cp, hv⟩ := ho.isC
    subst hv
    rw [evC_loop, ew]
    have hrng := fun x => rmF_rng (p := h.pr) (k := k) (n := 201) (a := 0) (x := x)
    generalize rmF h.pr k 201 0 = rm at *
    obtain ⟨R, hR⟩ : ∃ R, R = hfr h := ⟨_, rfl⟩
    match rm, o1, hrng with
    | [], o1, _ =>
      have hc : ∃ q', c = .slice q' 0 (.exact 0) := by
        rcases o1 with ⟨_, _, q', h⟩ | ⟨h, _⟩
        · injection h with h; exact ⟨q', h⟩
        · simp at h
      obtain ⟨q', rfl⟩ := hc
      have e0 : ad1 k [] = [] := rfl
      rw [e0, List.nil_append]
      have stepK := step acc (by omega) J1 hJ1 _ (ho.pre p1)
      clear step hJ1 ho
      rw [← hR] at e1 hl htk hbJ
      simp (maxSteps := 4000000) (disch := first | omega | (refine _root_.id ?_; simp only [pl_int, pl_bool, pl_str, pl_undef, pl_nil, pl_ptr, plA_c, plA_agg, plA_tup, plV_c, plV_agg, List.all_cons, List.all_nil, Bool.and_true, Bool.and_self, eq_self, vi_int, vi_bool, get_app, get_app0, List.getElem?_cons_zero, List.getElem?_cons_succ, Option.join_some, lst_get, getL, upd_at, upd_ne, Nat.reduceBEq])) only [evC_skip, evC_region, evC_seq, evC_block, ev_t, ev_k, putS_some, ops_nil, evC_condC, cond_bool, ops_cons, next_some, then_norm, out_norm, Option.map_some, evalOp, readCells, Nat.zero_add, List.drop_zero, ↓reduceIte, reduceCtorEq, binA, binC, intBin, or_false, or_true, decide_true, decide_false, Int.cast_ofNat_Int, eq_self, IntWalk.i64_in, IntWalk.i8_in, Bool.false_eq_true, List.map_cons, List.map_nil, List.append_nil, upd_at, upd_ne, l33_2, h1, h9, hle, hbJ, hl, htk, Nat.le_refl, e1, Int.lt_irrefl]
      exact stepK _ (by simp only [upd_ne, Nat.reduceBEq, h1]) (by simp only [upd_ne, Nat.reduceBEq, h3]) (by simp only [upd_at])
    | a :: rs, o1, hrng =>
      have hc : ∃ id, c = .slice (some (id, 0)) (rs.length + 1) (.toEnd 1) ∧ J1.get id = some ⟨2, irow (a :: rs), .opn⟩ := by
        rcases o1 with ⟨h, _⟩ | ⟨_, _, id, h, _, h2⟩
        · simp at h
        · injection h with h; exact ⟨id, h, h2⟩
      obtain ⟨id, rfl, hid⟩ := hc
      have ha := hrng a (by simp)
      have hw : IntKind.i16.wrap a = a := IntWalk.i16_in _ (by omega)
      have e0 : ad1 k (a :: rs) = [⟨1, k, 0, a⟩] := rfl
      have hpos : (0 : Int) < ((rs.length + 1 : Nat) : Int) := by omega
      rw [e0]
      obtain ⟨v', K, a1, pK, oK, _, _⟩ := ((ho.pre p1).pre (pre_app (t := [some ⟨37, trow ⟨1, k, 0, a⟩, .own⟩]))).step (bytes := 6) (hJ1.app _) (j := J1.length) (t := 37) (cs := trow ⟨1, k, 0, a⟩) (bm := .own) (m := 1) (cap := .exact 1) (by rw [get_app0]; rfl) (by omega) rfl (by omega) rfl
      rw [trows_snoc] at oK
      have hcat : acc ++ (⟨1, k, 0, a⟩ : Tm) :: adF h.pr n (k + 1) = acc ++ [⟨1, k, 0, a⟩] ++ adF h.pr n (k + 1) := by simp
      have stepK := step (acc ++ [⟨1, k, 0, a⟩]) (by simp; omega) K pK v' (by simpa using oK)
      clear step hJ1 ho
      rw [← hR] at e1 hl htk hbJ
      simp (maxSteps := 4000000) (disch := first | omega | (refine _root_.id ?_; simp only [pl_int, pl_bool, pl_str, pl_undef, pl_nil, pl_ptr, plA_c, plA_agg, plA_tup, plV_c, plV_agg, List.all_cons, List.all_nil, Bool.and_true, Bool.and_self, eq_self, vi_int, vi_bool, get_app, get_app0, List.getElem?_cons_zero, List.getElem?_cons_succ, Option.join_some, lst_get, getL, upd_at, upd_ne, Nat.reduceBEq])) only [evC_skip, evC_region, evC_seq, evC_block, ev_t, ev_k, putS_some, ops_nil, evC_condC, cond_bool, ops_cons, next_some, then_norm, out_norm, Option.map_some, evalOp, AV.cells?, readCells, readCell, List.getElem?_cons_zero, List.length_cons, List.length_nil, List.cons_append, List.nil_append, Nat.zero_add, Nat.add_zero, Nat.reduceAdd, Nat.reduceLeDiff, List.drop_zero, List.drop_succ_cons, List.take_zero, List.take_succ_cons, List.drop_nil, ↓reduceIte, reduceCtorEq, binA, binC, intBin, or_false, or_true, Int.reduceLE, Int.reduceToNat, decide_true, and_self, eq_self, IntWalk.i64_in, IntWalk.i8_in, List.map_cons, List.map_nil, List.append_nil, setAt, partsA, fillC, upd_at, upd_ne, Nat.mul_one, l33_2, h1, h3, h9, hle, hbJ, hl, htk, Nat.le_refl, e1, hpos, hid, hw, a1, List.map_cons, List.getElem?_cons_zero]
      exact Post.mono (stepK _ (by simp only [upd_ne, Nat.reduceBEq, h1]) (by simp only [upd_at, upd_ne, Nat.reduceBEq]) (by simp only [upd_at])) (fun ex σ' H' q => ⟨q.1, q.2.1, by rw [hcat]; exact q.2.2⟩)
theorem run33 {h : Hf} {H : AHeap} (hh : HfAt H h) (ok : okF h = true) : ∃ c J, ev kk 33 [.agg (hfr h)] H = some (.c c, J) ∧ Pre H J ∧ ApS 37 4 H J (waysP h.pr).length (trows (waysP h.pr)) (.c c) := by
  have few := okP_few ok
  have hb : AHeap.get (H ++ [hfb h, some ⟨37, [], .own⟩]) H.length = hfb h := by rw [get_app0]; rfl
  have hA := hh.app [hfb h, some ⟨37, [], .own⟩]
  obtain ⟨_, σ', J1, eL, rfl, p1, o1, q1⟩ := loop33_1 ok hA hb h.xs.length 0 (by omega) [] (by simp) (H ++ [hfb h, some ⟨37, [], .own⟩]) .refl (.c (.slice (some (H.length + 1, 0)) 0 (.exact 0))) (.inl ⟨rfl, rfl, _, rfl⟩) (lst [.agg (hfr h), .c (.ptr (some (H.length, 0))), .c (.slice none 0 (.exact 0)), .c (.slice (some (H.length + 1, 0)) 0 (.exact 0)), .c .undef, .c .undef, .c .undef, .c .undef, .c .undef, .c .undef, .c .undef, .c (.slice (some (H.length + 1, 0)) 0 (.exact 0)), .c (.ptr (some (H.length, 1))), .c (.slice h.p h.xs.length h.cap), .c (.int .i64 h.xs.length), .c (.int .i64 0)]) rfl rfl rfl rfl
  rw [List.nil_append] at o1
  have hwl := wiF_len (p := h.pr) (n := h.xs.length) (i := 0)
  obtain ⟨_, σ2, J2, eL2, rfl, p2, o2⟩ := loop33_2 ok hA hb 6 0 (by omega) (by omega) (wiF h.pr h.xs.length 0) (by omega) J1 p1 _ o1 (upd σ' 9 (.c (.int .i8 0))) (by simp only [upd_ne, Nat.reduceBEq, q1]) (by simp only [upd_ne, Nat.reduceBEq]) (by simp only [upd_at])
  rw [show wiF h.pr h.xs.length 0 ++ adF h.pr 6 0 = waysP h.pr from rfl] at o2
  obtain ⟨q, cp, hv⟩ := o2.isC
  rw [hv] at o2
  have pH : Pre H J2 := pre_app.trans p2
  rw [ev_call c33]; unfold k33; rw [evB_eq rfl]
  simp (maxSteps := 4000000) (disch := first | omega | (refine _root_.id ?_; simp only [pl_int, pl_bool, pl_str, pl_undef, pl_nil, pl_ptr, plA_c, plA_agg, plA_tup, plV_c, plV_agg, List.all_cons, List.all_nil, Bool.and_true, Bool.and_self, eq_self, vi_int, vi_bool, get_app, get_app0, List.getElem?_cons_zero, List.getElem?_cons_succ, Option.join_some, lst_get, getL, upd_at, upd_ne, Nat.reduceBEq])) only [evC_ret, evC_region, evC_seq, evC_block, ev_t, ev_k, putS_some, upd_l, ops_nil, ops_cons, next_some, then_norm, out_exit, done_ret, putL, getL, Option.bind_some, Option.map_some, evalOp, AV.cells?, readCell, get_app0, len_app, List.getElem?_cons_zero, List.getElem?_cons_succ, Option.join_some, List.length_cons, List.length_nil, List.append_assoc, List.cons_append, List.nil_append, Nat.zero_add, ↓reduceIte, evalRs, evalR, AV.toV0?, mkRes, V0.toAV, lst_get, eq_self, partsA, fillC, finish_no, upd_at, eL, eL2, hv]
  refine ⟨_, _, rfl, pH, ?_⟩
  rcases o2 with ⟨h1, h2, q', h3⟩ | ⟨h1, h2, id, h3, h4, h5⟩
  · exact .inl ⟨h1, h2, q', h3⟩
  · exact .inr ⟨h1, h2, id, h3, by simp at h4; omega, h5⟩
end Go.Proofs.YtcfabmmonoljeaaDoor
