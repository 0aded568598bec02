/- What functions of the program answer: part Cut. -/
import Derived.Test.YtcfabmmonoljeaaDoorCopies
set_option linter.unusedVariables false
set_option linter.unusedSimpArgs false
set_option linter.unusedSectionVars false
namespace Go.Proofs.YtcfabmmonoljeaaDoor
open Go Go.Proofs.YtcfabmmonoljeaaDoor.VI
set_option maxHeartbeats 16000000
set_option maxRecDepth 20000
/-! A further notch -/
def cutI (a : Int) : List Nt → Nat
  | [] => 0
  | x :: xs => if x.a ≤ a then cutI a xs + 1 else 0
theorem cutI_le {a : Int} : ∀ {xs : List Nt}, cutI a xs ≤ xs.length
  | [] => Nat.le_refl _
  | x :: xs => by unfold cutI; split; simp only [List.length_cons]; exact Nat.succ_le_succ cutI_le; simp
theorem cutI_step {a : Int} {xs : List Nt} {i : Nat} (hi : i < xs.length) : cutI a (xs.drop i) = if (xs[i]'hi).a ≤ a then cutI a (xs.drop (i + 1)) + 1 else 0 := by
  rw [List.drop_eq_getElem_cons hi]; rfl
def cutP (xs : List Nt) (k a : Int) : List Nt := xs.take (cutI a xs) ++ ⟨k, a⟩ :: xs.drop (cutI a xs)
theorem cutP_len {xs : List Nt} {k a : Int} : (cutP xs k a).length = xs.length + 1 := by
  have := cutI_le (a := a) (xs := xs)
  unfold cutP; simp; omega
theorem cutP_mem {xs : List Nt} {k a : Int} {x : Nt} (h : x ∈ cutP xs k a) : x = ⟨k, a⟩ ∨ x ∈ xs := by
  unfold cutP at h
  rcases List.mem_append.1 h with h | h
  · exact .inr (List.mem_of_mem_take h)
  · rcases List.mem_cons.1 h with h | h
    · exact .inl h
    · exact .inr (List.mem_of_mem_drop h)
theorem loop81 {h : Hf} {a : Int} {H : AHeap} (hh : HfAt H h) {b : Nat} {e : TypeId} {m : BM} (hb : H.get b = some ⟨e, hfr h, m⟩) : ∀ (n i : Nat) (_ : i + n = h.xs.length) (σ : Sl) (_ : σ 2 = .c (.int .i64 a)) (_ : σ 3 = .c (.ptr (some (b, 0)))) (_ : σ 8 = .c (.int .i64 i)),
    Post (evC (ev kk) (.loop l81_0) (σ, H)) fun ex σ' H' => ex = .exit 0 ∧ H' = H ∧ σ' 8 = .c (.int .i64 ((i + cutI a (h.xs.drop i) : Nat) : Int)) ∧ σ' 1 = σ 1 ∧ σ' 2 = σ 2 ∧ σ' 3 = σ 3 ∧ σ' 6 = σ 6
  | 0, i, hi, σ, h2, h3, h8 => by
    have hge : ¬ ((i : Int) < h.xs.length) := by omega
    have e : h.xs.drop i = [] := List.drop_eq_nil_of_le (by omega)
    have e2 : cutI a [] = 0 := rfl
    rw [evC_loop, e, e2]
    simp (maxSteps := 4000000) (disch := first | omega | (refine _root_.id ?_; simp only [pl_int, pl_bool, pl_str, pl_undef, pl_nil, pl_ptr, plA_c, plA_agg, plA_tup, plV_c, plV_agg, List.all_cons, List.all_nil, Bool.and_true, Bool.and_self, eq_self, vi_int, vi_bool, get_app, get_app0, List.getElem?_cons_zero, List.getElem?_cons_succ, Option.join_some, lst_get, getL, upd_at, upd_ne, Nat.reduceBEq])) only [evC_exit, evC_region, evC_seq, ev_t, ev_k, putS_some, ops_nil, ops_consg, guard_bool, evC_condC, cond_bool, ops_cons, next_some, then_norm, then_exit, Option.map_some, evalOp, readCell, List.getElem?_cons_zero, List.getElem?_cons_succ, Nat.zero_add, Nat.add_zero, ↓reduceIte, reduceCtorEq, binA, binC, intBin, or_false, or_true, decide_false, and_self, eq_self, Bool.not_true, Bool.false_eq_true, post_some, upd_at, upd_ne, l81_0, h2, h3, h8, hb, hge]
  | n + 1, i, hi, σ, h2, h3, h8 => by
    have hil : i < h.xs.length := by omega
    have hlt : (i : Int) < h.xs.length := by omega
    obtain ⟨id, t, bm, hp, hbl⟩ := hh.at_ (by omega)
    have hg := nr1 hil
    obtain ⟨_, x2, x3⟩ := hh.rng h.xs[i] (List.getElem_mem hil)
    have hfew := hh.few
    rw [evC_loop, cutI_step hil]
    by_cases c : h.xs[i].a ≤ a
    · have step := loop81 (a := a) hh hb n (i + 1) (by omega)
      rw [if_pos c]
      have ea : i + (cutI a (h.xs.drop (i + 1)) + 1) = i + 1 + cutI a (h.xs.drop (i + 1)) := by omega
      rw [ea]
      simp (maxSteps := 4000000) (disch := first | omega | (refine _root_.id ?_; simp only [pl_int, pl_bool, pl_str, pl_undef, pl_nil, pl_ptr, plA_c, plA_agg, plA_tup, plV_c, plV_agg, List.all_cons, List.all_nil, Bool.and_true, Bool.and_self, eq_self, vi_int, vi_bool, get_app, get_app0, List.getElem?_cons_zero, List.getElem?_cons_succ, Option.join_some, lst_get, getL, upd_at, upd_ne, Nat.reduceBEq])) only [evC_skip, evC_region, evC_seq, evC_block, ev_t, ev_k, putS_some, ops_nil, ops_consg, guard_bool, evC_condC, cond_bool, ops_cons, next_some, then_norm, out_norm, Option.map_some, evalOp, readCell, List.getElem?_cons_zero, List.getElem?_cons_succ, Nat.zero_add, ↓reduceIte, reduceCtorEq, binA, binC, intBin, or_false, or_true, decide_true, and_self, eq_self, IntWalk.i64_in, upd_at, upd_ne, cast_nonneg, cast_toNat, l81_0, h2, h3, h8, hb, hp, hbl, hg, hlt, c]
      exact Post.mono (step _ (by simp only [upd_ne, Nat.reduceBEq, h2]) (by simp only [upd_ne, Nat.reduceBEq, h3]) (by simp only [upd_at]; rfl)) (fun ex σ' H' p => ⟨p.1, p.2.1, p.2.2.1, p.2.2.2.1.trans (by simp only [upd_ne, Nat.reduceBEq]), p.2.2.2.2.1.trans (by simp only [upd_ne, Nat.reduceBEq, h2]), p.2.2.2.2.2.1.trans (by simp only [upd_ne, Nat.reduceBEq, h3]), p.2.2.2.2.2.2.trans (by simp only [upd_ne, Nat.reduceBEq])⟩)
    · rw [if_neg c]
      simp (maxSteps := 4000000) (disch := first | omega | (refine _root_.id ?_; simp only [pl_int, pl_bool, pl_str, pl_undef, pl_nil, pl_ptr, plA_c, plA_agg, plA_tup, plV_c, plV_agg, List.all_cons, List.all_nil, Bool.and_true, Bool.and_self, eq_self, vi_int, vi_bool, get_app, get_app0, List.getElem?_cons_zero, List.getElem?_cons_succ, Option.join_some, lst_get, getL, upd_at, upd_ne, Nat.reduceBEq])) only [evC_exit, evC_region, evC_seq, ev_t, putS_some, ops_nil, ops_consg, guard_bool, evC_condC, cond_bool, ops_cons, next_some, then_norm, then_exit, Option.map_some, evalOp, readCell, List.getElem?_cons_zero, List.getElem?_cons_succ, Nat.zero_add, Nat.add_zero, ↓reduceIte, reduceCtorEq, binA, binC, intBin, or_false, or_true, decide_true, decide_false, and_self, eq_self, IntWalk.i64_in, Bool.false_eq_true, post_some, upd_at, upd_ne, cast_nonneg, cast_toNat, l81_0, h2, h3, h8, hb, hp, hbl, hg, hlt, c]
/-- New halves. -/
structure HfNw (H J : AHeap) (y : Hf) : Prop where
  few : y.xs.length ≤ 4398046511104
  rng : ∀ x ∈ y.xs, rngN x
  new : NwN H J y.p y.xs
theorem HfNw.at_ {H J : AHeap} {y : Hf} (h : HfNw H J y) : HfAt J y := ⟨h.few, h.rng, h.new.nts⟩
theorem HfNw.pre {H J K : AHeap} {y : Hf} (h : HfNw H J y) (k : Pre J K) : HfNw H K y := ⟨h.few, h.rng, h.new.pre k⟩
theorem HfNw.base {G H J : AHeap} {y : Hf} (h : HfNw H J y) (k : Pre G H) : HfNw G J y := ⟨h.few, h.rng, h.new.base k⟩
theorem NwN.setb {G J : AHeap} {p : Option (Nat × Nat)} {xs : List Nt} {i : Nat} {b : Option Blk} (h : NwN G J p xs) (hi : i < G.length) : NwN G (J.set i b) p xs := fun h0 => by
  obtain ⟨id, m, h1, h3, h2, h4⟩ := h h0
  exact ⟨id, m, h1, h3, by rw [get_neh (by omega)]; exact h2, h4⟩
theorem HfNw.setb {G J : AHeap} {y : Hf} {i : Nat} {b : Option Blk} (h : HfNw G J y) (hi : i < G.length) : HfNw G (J.set i b) y := ⟨h.few, h.rng, h.new.setb hi⟩
abbrev zrow : List CV := [.bool false, .slice none 0 (.exact 0), .int .i8 0, .int .i8 0, .int .i8 0, .int .i8 0, .int .i8 0, .int .i8 0, .int .i8 0, .int .i8 0, .int .i8 0, .int .i8 0, .int .i8 0, .int .i8 0, .int .i8 0, .int .i8 0, .int .i8 0, .int .i8 0]
abbrev zbl : Option Blk := some ⟨29, zrow, .own⟩
theorem run81 {h : Hf} {kd a : Int} {H : AHeap} (hh : HfAt H h) (hk : 0 ≤ kd ∧ kd ≤ 5) (ha : 0 ≤ a ∧ a ≤ 200) (hfew : h.xs.length ≤ 1048576) : ∃ y J, ev kk 81 [.agg (hfr h), .c (.int .i64 kd), .c (.int .i64 a)] H = some (.tup [.agg (hfr y), .c (.bool (okF y))], J) ∧ Pre H J ∧ y.st = h.st ∧ y.g = h.g ∧ y.xs = cutP h.xs kd a ∧ HfNw H J y := by
  rw [ev_call c81]; unfold k81; rw [evB_eq rfl]
  have hb0 : AHeap.get (H ++ [hfb h, zbl]) H.length = hfb h := by rw [get_app0]; rfl
  obtain ⟨_, σ', _, eL, rfl, rfl, q8, q1, q2, q3, q6⟩ := loop81 (a := a) (hh.app [hfb h, zbl]) hb0 h.xs.length 0 (by omega) (lst [.agg (hfr h), .c (.int .i64 kd), .c (.int .i64 a), .c (.ptr (some (H.length, 0))), .c .undef, .c .undef, .c (.ptr (some (H.length + 1, 0))), .c (.bool false), .c (.int .i64 0)]) rfl rfl rfl
  rw [List.drop_zero, Nat.zero_add] at q8
  have q1 : σ' 1 = .c (.int .i64 kd) := q1
  have q2 : σ' 2 = .c (.int .i64 a) := q2
  have q3 : σ' 3 = .c (.ptr (some (H.length, 0))) := q3
  have q6 : σ' 6 = .c (.ptr (some (H.length + 1, 0))) := q6
  have hb2 : AHeap.get (H ++ [hfb h, zbl]) (H.length + 1) = zbl := by rw [get_app]; rfl
  obtain ⟨c, J1, e1, p1, hcl⟩ := run52 (cap := h.cap) hh.few (hh.at_.app [hfb h, zbl])
  obtain ⟨j, K, e2, p2, hj, hK, keep⟩ := run92 (id := J1.length) (x := ⟨kd, a⟩) (i := cutI a h.xs) (J := J1 ++ [some ⟨91, nrow ⟨kd, a⟩, .own⟩]) (hcl.pre pre_app) (p1.app _) hh.few (by rw [get_app0]; rfl) cutI_le
  have b1 := keep H.length _ ((p1.app _).get hb0) rfl
  have b2 := keep (H.length + 1) _ ((p1.app _).get hb2) rfl
  clear keep
  have hKl : H.length + 2 ≤ K.length := by have := p2.len; simpa using this
  have hj : H.length + 2 ≤ j := by simpa using hj
  have hw : hrow h.st (some (j, 0)) (h.xs.length + 1) (.toEnd 2) h.g = hfr ⟨h.st, some (j, 0), .toEnd 2, cutP h.xs kd a, h.g, h.g16⟩ := by
    simp only [hfr, cutP_len]
  obtain ⟨y, hy⟩ : ∃ y : Hf, y = ⟨h.st, some (j, 0), .toEnd 2, cutP h.xs kd a, h.g, h.g16⟩ := ⟨_, rfl⟩
  rw [← hy] at hw
  have hyx : y.xs = cutP h.xs kd a := by rw [hy]
  have hX : (.bool h.st :: .slice (some (j, 0)) (h.xs.length + 1) (.toEnd 2) :: grow h.g) = hfr y := hw
  have hK1 : AHeap.get (K.set H.length (some ⟨29, hfr y, .own⟩)) j = some ⟨91, nrows (cutP h.xs kd a), .opn⟩ := by rw [get_neh (by omega)]; exact hK
  have hK2 : AHeap.get (K.set H.length (some ⟨29, hfr y, .own⟩)) (H.length + 1) = zbl := by rw [get_neh (by omega)]; exact b2
  have hrg : ∀ x ∈ y.xs, rngN x := by
    rw [hyx]; intro x hx
    rcases cutP_mem hx with rfl | hx
    · unfold rngN; dsimp only; omega
    · exact hh.rng x hx
  have hfy : y.xs.length ≤ 4398046511104 := by rw [hyx, cutP_len]; omega
  have hyA : HfAt (K.set H.length (some ⟨29, hfr y, .own⟩)) y := ⟨hfy, hrg, fun _ => ⟨j, 91, .opn, by rw [hy], by rw [hK1, hyx]⟩⟩
  have e3 := v70 hyA
  have lt1 : H.length < K.length := by omega
  have lt2 : H.length + 1 < (K.set H.length (some ⟨29, hfr y, .own⟩)).length := by rw [List.length_set]; omega
  have hl18 := hfr_len y
  have ht18 : List.take 18 (hfr y) = hfr y := List.take_of_length_le (by omega)
  have hok18 : (hfr y).all CV.ok = true := by rw [← hX]; simp only [List.all_cons, grow_ok]; rfl
  simp (maxSteps := 4000000) (disch := first | omega | (refine _root_.id ?_; simp only [pl_int, pl_bool, pl_str, pl_undef, pl_nil, pl_ptr, plA_c, plA_agg, plA_tup, plV_c, plV_agg, List.all_cons, List.all_nil, Bool.and_true, Bool.and_self, eq_self, vi_int, vi_bool, get_app, get_app0, List.getElem?_cons_zero, List.getElem?_cons_succ, Option.join_some, lst_get, getL, upd_at, upd_ne, Nat.reduceBEq])) only [evC_region, evC_seq, evC_block, ev_t, ev_k, putS_some, upd_l, putS_none, ops_nil, ops_cons, next_some, then_norm, out_exit, putL, getL, Option.map_some, evalOp, AV.cells?, readCells, readCell, writeCells, get_app0, len_app, List.getElem?_cons_zero, List.getElem?_cons_succ, Option.join_some, List.length_cons, List.length_nil, List.append_assoc, List.cons_append, List.nil_append, Nat.zero_add, Nat.reduceAdd, Nat.reduceLeDiff, List.drop_zero, List.drop_succ_cons, List.take_zero, List.take_succ_cons, List.drop_nil, ↓reduceIte, and_self, lst_get, eq_self, IntWalk.i16_in, IntWalk.i8_in, List.all_cons, List.all_nil, Bool.and_true, List.map_cons, List.map_nil, List.append_nil, setAt, CV.ok, evC_drawn, dr_cons, partsA, fillC, upd_at, upd_ne, eL, q8, q1, q2, q3, e1, e2, b1]
  rw [hX]
  obtain ⟨R, hR⟩ : ∃ R, R = hfr y := ⟨_, rfl⟩
  rw [← hR] at e3 hK1 hK2 hl18 ht18 hok18 lt2 hyA ⊢
  simp (maxSteps := 4000000) (disch := first | omega | (refine _root_.id ?_; simp only [pl_int, pl_bool, pl_str, pl_undef, pl_nil, pl_ptr, plA_c, plA_agg, plA_tup, plV_c, plV_agg, List.all_cons, List.all_nil, Bool.and_true, Bool.and_self, eq_self, vi_int, vi_bool, get_app, get_app0, List.getElem?_cons_zero, List.getElem?_cons_succ, Option.join_some, lst_get, getL, upd_at, upd_ne, Nat.reduceBEq])) only [evC_ret, ev_t, ev_k, putS_some, putS_none, ops_nil, ops_cons, next_some, nextD_some, then_norm, done_ret, Option.bind_some, Option.map_some, evalOp, AV.cells?, readCells, writeCells, List.length_cons, List.length_nil, List.nil_append, Nat.zero_add, Nat.reduceAdd, List.drop_zero, List.drop_succ_cons, List.take_zero, List.drop_nil, ↓reduceIte, evalRs, evalR, AV.toV0?, mkRes, V0.toAV, and_self, eq_self, List.map_cons, List.map_nil, List.append_nil, setAt, dr_nil, dr_cons, chk_nil, chk_cons, re_same, finish_no, upd_at, upd_ne, q6, q3, get_set lt1, hl18, ht18, Nat.le_refl, e3, hK2, hok18, get_set lt2, List.drop_nil, List.append_nil]
  have pK : Pre H K := pre_app.trans p2
  refine ⟨y, _, by rw [hR], ((pK.set (Nat.le_refl _)).set (Nat.le_succ _)), by rw [hy], by rw [hy], hyx, hfy, hrg, fun _ => ⟨j, .opn, by rw [hy], by omega, ?_, .inr rfl⟩⟩
  rw [get_neh (by omega), get_neh (by omega), hK, hyx]; rfl
end Go.Proofs.YtcfabmmonoljeaaDoor
