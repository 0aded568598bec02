/- What functions of the program answer: part Lies5. -/
import Derived.Test.YtnblibimbggheaaOppose
import Derived.Test.YtnblibimbggheaaInspect
import Derived.Test.YtnblibimbggheaaMarks
set_option linter.unusedVariables false
set_option linter.unusedSimpArgs false
set_option linter.unusedSectionVars false
namespace Go.Proofs.Ytnblibimbggheaa
open Go Go.Proofs.Ytnblibimbggheaa.VI
set_option maxHeartbeats 16000000
set_option maxRecDepth 20000
abbrev zg16 : List CV := [.int .i8 0, .int .i8 0, .int .i8 0, .int .i8 0, .int .i8 0, .int .i8 0, .int .i8 0, .int .i8 0, .int .i8 0, .int .i8 0, .int .i8 0, .int .i8 0, .int .i8 0, .int .i8 0, .int .i8 0, .int .i8 0]
theorem loop66 {H : AHeap} {z : Option Blk} {g : List Int} (hg : g.length = 16) : ∀ (n i : Nat) (_ : i + n = 16) (U : List (Option Blk)) (σ : Sl) (_ : σ 1 = .c (.ptr (some (H.length, 0)))) (_ : σ 3 = .c (.int .i64 i)),
    Post (evC (ev kk) (.loop l66_0) (σ, H ++ [gb37 (opp (g.take i) ++ g.drop i), z])) fun ex σ' H' => ex = .exit 0 ∧ H' = H ++ [gb37 (opp g), z] ∧ σ' 1 = .c (.ptr (some (H.length, 0))) ∧ σ' 2 = σ 2
  | 0, i, hi, U, σ, h1, h3 => by
    have hge : ¬ ((i : Int) < 16) := by omega
    have e1 : g.take i = g := List.take_of_length_le (by omega)
    have e2 : g.drop i = [] := List.drop_eq_nil_of_le (by omega)
    rw [evC_loop, e1, e2, List.append_nil]
    simp only [evC_exit, evC_region, evC_seq, ev_t, ev_k, putS_some, ops_nil, evC_condC, cond_bool, ops_cons, next_some, then_norm, then_exit, Option.map_some, evalOp, ↓reduceIte, reduceCtorEq, binA, binC, intBin, or_false, or_true, decide_false, and_self, eq_self, Bool.false_eq_true, Nat.reduceBEq, post_some, upd_at, upd_ne, l66_0, h1, h3, hge]
  | n + 1, i, hi, U, σ, h1, h3 => by
    have hlt : (i : Int) < 16 := by omega
    have hil : i < g.length := by omega
    have hlen : (opp (g.take i)).length = i := by rw [opp_len, List.length_take]; omega
    have hd : g.drop i = g[i] :: g.drop (i + 1) := List.drop_eq_getElem_cons hil
    have ht : g.take (i + 1) = g.take i ++ [g[i]] := by rw [List.take_add_one, List.getElem?_eq_getElem hil]; rfl
    have step := loop66 (H := H) (z := z) hg n (i + 1) (by omega) U
    have ho : opp (g.take i ++ [g[i]]) = opp (g.take i) ++ [IntKind.i8.wrap (0 - g[i])] := by unfold opp; rw [List.map_append]; rfl
    rw [ht, ho] at step
    have hil2 : i < (opp (g.take i) ++ g.drop i).length := by rw [List.length_append, hlen, List.length_drop]; omega
    have hget := grow_get hil2
    have e3 : (opp (g.take i) ++ g.drop i)[i] = g[i] := by
      rw [List.getElem_append_right (by omega)]; simp [hlen]
    rw [e3] at hget
    have hset := grow_set (v := IntKind.i8.wrap (0 - g[i])) hil2
    have e4 : (opp (g.take i) ++ g.drop i).set i (IntKind.i8.wrap (0 - g[i])) = opp (g.take i) ++ [IntKind.i8.wrap (0 - g[i])] ++ g.drop (i + 1) := by
      rw [List.set_append, if_neg (by omega), hlen, Nat.sub_self, hd, List.set_cons_zero, List.append_assoc]; rfl
    rw [e4] at hset
    have hle : i + 1 ≤ (grow (opp (g.take i) ++ g.drop i)).length := by rw [List.length_map, List.length_append, hlen, List.length_drop]; omega
    rw [evC_loop]
    generalize opp (g.take i) ++ g.drop i = y at *
    simp (maxSteps := 4000000) (disch := first | omega | (refine _root_.id ?_; simp only [pl_int, pl_bool, pl_str, pl_undef, pl_nil, pl_ptr, plA_c, plA_agg, plA_tup, plV_c, plV_agg, List.all_cons, List.all_nil, Bool.and_true, Bool.and_self, eq_self, vi_int, vi_bool, get_app, get_app0, List.getElem?_cons_zero, List.getElem?_cons_succ, Option.join_some, lst_get, getL, upd_at, upd_ne, Nat.reduceBEq])) only [evC_skip, evC_region, evC_seq, evC_block, ev_t, ev_k, putS_some, putS_none, ops_nil, evC_condC, cond_bool, ops_cons, next_some, then_norm, out_norm, Option.map_some, evalOp, AV.cells?, readCell, writeCells, get_app0, set_app0, List.getElem?_cons_zero, Option.join_some, List.length_cons, List.length_nil, List.append_assoc, List.cons_append, List.nil_append, Nat.zero_add, ↓reduceIte, reduceCtorEq, binA, binC, intBin, or_false, or_true, decide_true, and_self, Int.cast_ofNat_Int, eq_self, IntWalk.i64_in, List.all_cons, List.all_nil, Bool.and_true, setAt, CV.ok, List.set_cons_zero, unA, upd_at, upd_ne, cast_nonneg, cast_toNat, Nat.mul_one, l66_0, h1, h3, hlt, hget, hset, hle]
    simp only [List.append_assoc, List.cons_append, List.nil_append] at step
    exact Post.mono (step _ (by simp only [upd_ne, Nat.reduceBEq, h1]) (by simp only [upd_at]; rfl)) (fun ex σ' H' q => ⟨q.1, q.2.1, q.2.2.1, q.2.2.2.trans (by simp only [upd_ne, Nat.reduceBEq])⟩)
theorem run66 {g : List Int} (hg : g.length = 16) (H : AHeap) : ev kk 66 [.agg (grow g)] H = some (.agg (grow (opp g)), H) := by
  obtain ⟨ex, σ', H', e, rfl, rfl, k1, k2⟩ := loop66 (H := H) (z := some ⟨34, zg16, .own⟩) hg 16 0 rfl [] (lst [.agg (grow g), .c (.ptr (some (H.length, 0))), .c (.ptr (some (H.length + 1, 0))), .c (.int .i64 0)]) rfl rfl
  have e0 : opp (g.take 0) ++ g.drop 0 = g := by simp [opp]
  rw [e0] at e
  have k2 : σ' 2 = .c (.ptr (some (H.length + 1, 0))) := k2
  have hol : (opp g).length = 16 := by rw [opp_len]; exact hg
  have hgl : (grow (opp g)).length = 16 := by rw [List.length_map]; exact hol
  have hgt : List.take 16 (grow (opp g)) = grow (opp g) := List.take_of_length_le (by omega)
  have fp : ∀ T, finish true H (.agg (grow (opp g))) (H ++ T) = some (.agg (grow (opp g)), H) := fun T => finish_app (by simp only [plA_agg, grow_plain])
  rw [ev_call c66]; unfold k66; rw [evB_eq rfl]
  simp (maxSteps := 4000000) (disch := first | omega | (refine _root_.id ?_; simp only [pl_int, pl_bool, pl_str, pl_undef, pl_nil, pl_ptr, plA_c, plA_agg, plA_tup, plV_c, plV_agg, List.all_cons, List.all_nil, Bool.and_true, Bool.and_self, eq_self, vi_int, vi_bool, get_app, get_app0, List.getElem?_cons_zero, List.getElem?_cons_succ, Option.join_some, lst_get, getL, upd_at, upd_ne, Nat.reduceBEq])) only [evC_ret, evC_region, evC_seq, evC_block, ev_t, ev_k, putS_some, upd_l, putS_none, ops_nil, ops_cons, next_some, then_norm, out_exit, done_ret, putL, getL, Option.bind_some, Option.map_some, evalOp, AV.cells?, readCells, writeCells, get_app, get_app0, set_app, len_app, List.getElem?_cons_zero, List.getElem?_cons_succ, Option.join_some, List.length_cons, List.length_nil, List.append_assoc, List.cons_append, List.nil_append, Nat.zero_add, Nat.reduceAdd, List.drop_zero, List.drop_succ_cons, List.take_zero, List.drop_nil, ↓reduceIte, evalRs, evalR, mkRes, V0.toAV, and_self, lst_get, eq_self, List.append_nil, setAt, List.set_cons_zero, List.set_cons_succ, upd_at, upd_ne, e, k1, k2, hgl, hgt, Nat.le_refl, grow_ok, fp]
theorem run23 {g : List Int} (hg : g.length = 16) (hq : g.all gq = true) (H : AHeap) : ev kk 23 [.agg (grow g)] H = some (.tup [.agg (grow (opp g)), .c (.int .i64 0)], H) := by
  have hgl : (grow g).length = 16 := by rw [List.length_map]; exact hg
  have hgt : List.take 16 (grow g) = grow g := List.take_of_length_le (by omega)
  have hol : (opp g).length = 16 := by rw [opp_len]; exact hg
  have hgl' : (grow (opp g)).length = 16 := by rw [List.length_map]; exact hol
  have hgt' : List.take 16 (grow (opp g)) = grow (opp g) := List.take_of_length_le (by omega)
  have fp : ∀ T, finish true H (.tup [.agg (grow (opp g)), .c (.int .i64 0)]) (H ++ T) = some (.tup [.agg (grow (opp g)), .c (.int .i64 0)], H) := fun T => finish_app (by simp only [plA_tup, List.all_cons, List.all_nil, plV_c, plV_agg, pl_int, grow_plain, Bool.and_self])
  rw [ev_call c23]; unfold k23; rw [evB_eq rfl]
  simp (maxSteps := 4000000) (disch := first | omega | (refine _root_.id ?_; simp only [pl_int, pl_bool, pl_str, pl_undef, pl_nil, pl_ptr, plA_c, plA_agg, plA_tup, plV_c, plV_agg, List.all_cons, List.all_nil, Bool.and_true, Bool.and_self, eq_self, vi_int, vi_bool, get_app, get_app0, List.getElem?_cons_zero, List.getElem?_cons_succ, Option.join_some, lst_get, getL, upd_at, upd_ne, Nat.reduceBEq])) only [evC_skip, evC_ret, evC_region, evC_seq, ev_t, ev_k, putS_some, upd_l, putS_none, ops_nil, evC_condC, cond_bool, ops_cons, next_some, then_norm, done_ret, putL, getL, Option.bind_some, Option.map_some, evalOp, AV.cells?, readCells, writeCells, get_app, get_app0, set_app, len_app, List.getElem?_cons_zero, List.getElem?_cons_succ, Option.join_some, List.length_cons, List.length_nil, List.append_assoc, List.cons_append, List.nil_append, Nat.zero_add, Nat.reduceAdd, List.drop_zero, List.drop_succ_cons, List.take_zero, List.drop_nil, ↓reduceIte, evalRs, evalR, AV.toV0?, mkRes, V0.toAV, and_self, lst_get, eq_self, Bool.not_true, Bool.false_eq_true, List.map_cons, List.map_nil, List.append_nil, setAt, List.set_cons_zero, List.set_cons_succ, unA, run65 hg, hq, run66 hg, hgl, hgt, hgl', hgt', Nat.le_refl, grow_ok, fp]

theorem loop79 {p q : Option (Nat × Nat)} {cap cap' : Cap} {xs : List Int} (hlen : xs.length ≤ 4398046511104) {H : AHeap} (hp : Nums H p xs) (hq : Nums H q xs) : ∀ (n i : Nat) (_ : i + n = xs.length) (σ : Sl) (_ : σ 0 = .c (.slice p xs.length cap)) (_ : σ 1 = .c (.slice q xs.length cap')) (_ : σ 12 = .c (.int .i64 xs.length)) (_ : σ 13 = .c (.int .i64 i)),
    Post (evC (ev kk) (.loop l79_0) (σ, H)) fun ex σ' H' => ex = .exit 0 ∧ H' = H
  | 0, i, hi, σ, h0, h1, h12, h13 => by
    have hge : ¬ ((i : Int) < xs.length) := by omega
    rw [evC_loop]
    simp only [evC_exit, evC_region, evC_seq, ev_t, putS_some, ops_nil, evC_condC, cond_bool, ops_cons, next_some, then_norm, then_exit, Option.map_some, evalOp, ↓reduceIte, reduceCtorEq, binA, binC, intBin, or_false, or_true, decide_false, and_self, eq_self, Bool.false_eq_true, post_some, upd_at, l79_0, h12, h13, hge]
  | n + 1, i, hi, σ, h0, h1, h12, h13 => by
    have hil : i < xs.length := by omega
    have hlt : (i : Int) < xs.length := by omega
    obtain ⟨id, t, m, rfl, hb⟩ := hp (by omega)
    obtain ⟨id', t', m', rfl, hb'⟩ := hq (by omega)
    rw [evC_loop]
    simp (maxSteps := 4000000) (disch := first | omega | (refine _root_.id ?_; simp only [pl_int, pl_bool, pl_str, pl_undef, pl_nil, pl_ptr, plA_c, plA_agg, plA_tup, plV_c, plV_agg, List.all_cons, List.all_nil, Bool.and_true, Bool.and_self, eq_self, vi_int, vi_bool, get_app, get_app0, List.getElem?_cons_zero, List.getElem?_cons_succ, Option.join_some, lst_get, getL, upd_at, upd_ne, Nat.reduceBEq])) only [evC_skip, evC_region, evC_seq, evC_block, ev_t, ev_k, putS_some, ops_nil, evC_condC, cond_bool, ops_cons, next_some, nextD_some, then_norm, out_norm, Option.map_some, evalOp, readCell, Nat.zero_add, ↓reduceIte, reduceCtorEq, binA, binC, intBin, or_false, or_true, decide_true, and_self, eq_self, IntWalk.i64_in, Bool.false_eq_true, bne_self_eq_false, evC_drawn, dr_nil, dr_cons, chk_nil, upd_at, upd_ne, cast_nonneg, cast_toNat, Nat.mul_one, l79_0, h0, h1, h12, h13, hlt, hb, hb', irow_get hil]
    exact loop79 (cap := cap) (cap' := cap') hlen hp hq n (i + 1) (by omega) _ (by simp only [upd_ne, Nat.reduceBEq, h0]) (by simp only [upd_ne, Nat.reduceBEq, h1]) (by simp only [upd_ne, Nat.reduceBEq, h12]) (by simp only [upd_at]; rfl)
theorem run79 {p q : Option (Nat × Nat)} {cap cap' : Cap} {xs : List Int} (hlen : xs.length ≤ 4398046511104) {H : AHeap} (hp : Nums H p xs) (hq : Nums H q xs) : ev kk 79 [.c (.slice p xs.length cap), .c (.slice q xs.length cap')] H = some (.c (.bool true), H) := by
  have L : ∀ (σ : Sl), σ 0 = .c (.slice p xs.length cap) → σ 1 = .c (.slice q xs.length cap') → σ 12 = .c (.int .i64 xs.length) → σ 13 = .c (.int .i64 0) → _ := fun σ h0 h1 h2 h3 => loop79 hlen hp hq xs.length 0 (by omega) σ h0 h1 h2 h3
  obtain ⟨_, σ', _, eL, rfl, rfl⟩ := L (lst [.c (.slice p xs.length cap), .c (.slice q xs.length cap'), .c .undef, .c .undef, .c (.bool false), .c .undef, .c (.slice p xs.length cap), .c (.int .i64 xs.length), .c (.slice q xs.length cap'), .c (.int .i64 xs.length), .c (.bool false), .c (.slice p xs.length cap), .c (.int .i64 xs.length), .c (.int .i64 0)]) rfl rfl rfl rfl
  rw [ev_call c79]; unfold k79; rw [evB_eq rfl]
  simp (maxSteps := 4000000) (disch := first | omega | (refine _root_.id ?_; simp only [pl_int, pl_bool, pl_str, pl_undef, pl_nil, pl_ptr, plA_c, plA_agg, plA_tup, plV_c, plV_agg, List.all_cons, List.all_nil, Bool.and_true, Bool.and_self, eq_self, vi_int, vi_bool, get_app, get_app0, List.getElem?_cons_zero, List.getElem?_cons_succ, Option.join_some, lst_get, getL, upd_at, upd_ne, Nat.reduceBEq])) only [evC_skip, evC_ret, evC_region, evC_seq, evC_block, ev_t, ev_k, putS_some, upd_l, ops_nil, evC_condC, cond_bool, ops_cons, next_some, then_norm, out_exit, done_ret, putL, getL, Option.bind_some, Option.map_some, evalOp, ↓reduceIte, reduceCtorEq, binA, binC, intBin, or_false, or_true, evalRs, evalR, AV.toV0?, mkRes, V0.toAV, lst_get, eq_self, finish_id, Bool.false_eq_true, bne_self_eq_false, upd_at, eL, upd_at]
theorem loop80 {p q : Option (Nat × Nat)} {cap cap' : Cap} {xs : List Int} (hlen : xs.length ≤ 4398046511104) {H : AHeap} (hp : Nums H p xs) (hq : Nums H q xs) : ∀ (n i : Nat) (_ : i + n = xs.length) (σ : Sl) (_ : σ 0 = .c (.slice p xs.length cap)) (_ : σ 1 = .c (.slice q xs.length cap')) (_ : σ 5 = .c (.int .i64 i)),
    Post (evC (ev kk) (.loop l80_0) (σ, H)) fun ex σ' H' => ex = .exit 0 ∧ H' = H
  | 0, i, hi, σ, h0, h1, h5 => by
    have hge : ¬ ((i : Int) < xs.length) := by omega
    rw [evC_loop]
    simp only [evC_exit, evC_region, evC_seq, ev_t, putS_some, ops_nil, evC_condC, cond_bool, ops_cons, next_some, then_norm, then_exit, Option.map_some, evalOp, ↓reduceIte, reduceCtorEq, binA, binC, intBin, or_false, or_true, decide_false, and_self, eq_self, Bool.false_eq_true, Nat.reduceBEq, post_some, upd_at, upd_ne, l80_0, h0, h5, hge]
  | n + 1, i, hi, σ, h0, h1, h5 => by
    have hil : i < xs.length := by omega
    have hlt : (i : Int) < xs.length := by omega
    obtain ⟨id, t, m, rfl, hb⟩ := hp (by omega)
    obtain ⟨id', t', m', rfl, hb'⟩ := hq (by omega)
    rw [evC_loop]
    simp (maxSteps := 4000000) (disch := first | omega | (refine _root_.id ?_; simp only [pl_int, pl_bool, pl_str, pl_undef, pl_nil, pl_ptr, plA_c, plA_agg, plA_tup, plV_c, plV_agg, List.all_cons, List.all_nil, Bool.and_true, Bool.and_self, eq_self, vi_int, vi_bool, get_app, get_app0, List.getElem?_cons_zero, List.getElem?_cons_succ, Option.join_some, lst_get, getL, upd_at, upd_ne, Nat.reduceBEq])) only [evC_skip, evC_region, evC_seq, evC_block, ev_t, ev_k, putS_some, ops_nil, evC_condC, cond_bool, ops_cons, next_some, nextD_some, then_norm, out_norm, Option.map_some, evalOp, readCell, Nat.zero_add, ↓reduceIte, reduceCtorEq, binA, binC, intBin, or_false, or_true, decide_true, and_self, eq_self, IntWalk.i64_in, Bool.false_eq_true, bne_self_eq_false, evC_drawn, dr_nil, dr_cons, chk_nil, upd_at, upd_ne, cast_nonneg, cast_toNat, Nat.mul_one, l80_0, h0, h1, h5, hlt, hb, hb', irow_get hil]
    exact loop80 (cap := cap) (cap' := cap') hlen hp hq n (i + 1) (by omega) _ (by simp only [upd_ne, Nat.reduceBEq, h0]) (by simp only [upd_ne, Nat.reduceBEq, h1]) (by simp only [upd_at]; rfl)
theorem run80 {p q : Option (Nat × Nat)} {cap cap' : Cap} {xs : List Int} (hlen : xs.length ≤ 4398046511104) {H : AHeap} (hp : Nums H p xs) (hq : Nums H q xs) : ev kk 80 [.c (.slice p xs.length cap), .c (.slice q xs.length cap')] H = some (.c (.bool true), H) := by
  have L : ∀ (σ : Sl), σ 0 = .c (.slice p xs.length cap) → σ 1 = .c (.slice q xs.length cap') → σ 5 = .c (.int .i64 0) → _ := fun σ h0 h1 h2 => loop80 hlen hp hq xs.length 0 (by omega) σ h0 h1 h2
  obtain ⟨_, σ', _, eL, rfl, rfl⟩ := L (lst [.c (.slice p xs.length cap), .c (.slice q xs.length cap'), .c .undef, .c .undef, .c (.bool false), .c (.int .i64 0), .c (.slice p xs.length cap), .c (.int .i64 xs.length), .c (.slice q xs.length cap'), .c (.int .i64 xs.length), .c (.bool false)]) rfl rfl rfl
  rw [ev_call c80]; unfold k80; rw [evB_eq rfl]
  simp (maxSteps := 4000000) (disch := first | omega | (refine _root_.id ?_; simp only [pl_int, pl_bool, pl_str, pl_undef, pl_nil, pl_ptr, plA_c, plA_agg, plA_tup, plV_c, plV_agg, List.all_cons, List.all_nil, Bool.and_true, Bool.and_self, eq_self, vi_int, vi_bool, get_app, get_app0, List.getElem?_cons_zero, List.getElem?_cons_succ, Option.join_some, lst_get, getL, upd_at, upd_ne, Nat.reduceBEq])) only [evC_skip, evC_ret, evC_region, evC_seq, evC_block, ev_t, ev_k, putS_some, upd_l, ops_nil, evC_condC, cond_bool, ops_cons, next_some, then_norm, out_exit, done_ret, putL, getL, Option.bind_some, Option.map_some, evalOp, ↓reduceIte, reduceCtorEq, binA, binC, intBin, or_false, or_true, evalRs, evalR, AV.toV0?, mkRes, V0.toAV, lst_get, eq_self, finish_id, Bool.false_eq_true, bne_self_eq_false, upd_at, eL, upd_at]
theorem run30 {p q : Option (Nat × Nat)} {cap cap' : Cap} {xs : List Int} {b : Bool} {l s1 s2 : Int} (hlen : xs.length ≤ 4398046511104) {H : AHeap} (hp : Nums H p xs) (hq : Nums H q xs) : ev kk 30 [.agg [.bool b, .int .i8 l, .int .i64 s1, .int .i64 s2, .slice p xs.length cap], .agg [.bool b, .int .i8 l, .int .i64 s1, .int .i64 s2, .slice q xs.length cap']] H = some (.c (.bool true), H) := by
  have e := fun T => run79 (cap := cap) (cap' := cap') hlen (hp.app T) (hq.app T)
  rw [ev_call c30]; unfold k30; rw [evB_eq rfl]
  simp (maxSteps := 4000000) (disch := first | omega | (refine _root_.id ?_; simp only [pl_int, pl_bool, pl_str, pl_undef, pl_nil, pl_ptr, plA_c, plA_agg, plA_tup, plV_c, plV_agg, List.all_cons, List.all_nil, Bool.and_true, Bool.and_self, eq_self, vi_int, vi_bool, get_app, get_app0, List.getElem?_cons_zero, List.getElem?_cons_succ, Option.join_some, lst_get, getL, upd_at, upd_ne, Nat.reduceBEq])) only [evC_ret, evC_region, evC_seq, ev_t, ev_k, putS_some, upd_l, ops_nil, ops_consg, guard_bool, ops_cons, next_some, then_norm, done_ret, putL, getL, Option.bind_some, Option.map_some, evalOp, AV.cells?, readCell, get_app, get_app0, len_app, List.getElem?_cons_zero, List.getElem?_cons_succ, Option.join_some, List.length_cons, List.length_nil, List.append_assoc, List.cons_append, List.nil_append, Nat.zero_add, Nat.add_zero, ↓reduceIte, reduceCtorEq, binA, binC, intBin, or_false, or_true, evalRs, evalR, AV.toV0?, mkRes, V0.toAV, lst_get, eq_self, finish_app, beq_self_eq_true, List.map_cons, List.map_nil, List.append_nil, eqRes, e]
theorem run31 {p q : Option (Nat × Nat)} {cap cap' : Cap} {xs : List Int} {b : Bool} {l s1 s2 : Int} (hlen : xs.length ≤ 4398046511104) {H : AHeap} (hp : Nums H p xs) (hq : Nums H q xs) : ev kk 31 [.agg [.bool b, .int .i8 l, .int .i64 s1, .int .i64 s2, .slice p xs.length cap], .agg [.bool b, .int .i8 l, .int .i64 s1, .int .i64 s2, .slice q xs.length cap']] H = some (.c (.bool true), H) := by
  have e := fun T => run80 (cap := cap) (cap' := cap') hlen (hp.app T) (hq.app T)
  rw [ev_call c31]; unfold k31; rw [evB_eq rfl]
  simp (maxSteps := 4000000) (disch := first | omega | (refine _root_.id ?_; simp only [pl_int, pl_bool, pl_str, pl_undef, pl_nil, pl_ptr, plA_c, plA_agg, plA_tup, plV_c, plV_agg, List.all_cons, List.all_nil, Bool.and_true, Bool.and_self, eq_self, vi_int, vi_bool, get_app, get_app0, List.getElem?_cons_zero, List.getElem?_cons_succ, Option.join_some, lst_get, getL, upd_at, upd_ne, Nat.reduceBEq])) only [evC_ret, evC_region, evC_seq, ev_t, ev_k, putS_some, upd_l, ops_nil, ops_consg, guard_bool, ops_cons, next_some, then_norm, done_ret, putL, getL, Option.bind_some, Option.map_some, evalOp, AV.cells?, readCell, get_app, get_app0, len_app, List.getElem?_cons_zero, List.getElem?_cons_succ, Option.join_some, List.length_cons, List.length_nil, List.append_assoc, List.cons_append, List.nil_append, Nat.zero_add, Nat.add_zero, ↓reduceIte, reduceCtorEq, binA, binC, intBin, or_false, or_true, evalRs, evalR, AV.toV0?, mkRes, V0.toAV, lst_get, eq_self, finish_app, beq_self_eq_true, List.map_cons, List.map_nil, List.append_nil, eqRes, e]
end Go.Proofs.Ytnblibimbggheaa
