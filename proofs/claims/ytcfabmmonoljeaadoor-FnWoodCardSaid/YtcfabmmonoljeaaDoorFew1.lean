/- What functions of the program answer: parts Few1 Small2. -/
import Derived.Test.YtcfabmmonoljeaaDoorLeast
import Derived.Test.YtcfabmmonoljeaaDoorAll
import Derived.Test.YtcfabmmonoljeaaDoorWear
/- What functions of the program answer: part Few1. -/
set_option linter.unusedVariables false
set_option linter.unusedSimpArgs false
set_option linter.unusedSectionVars false
namespace Go.Proofs.YtcfabmmonoljeaaDoor
open Go Go.Proofs.YtcfabmmonoljeaaDoor.VI
set_option maxHeartbeats 16000000
set_option maxRecDepth 20000
/-! Fewest: the plain part -/
theorem taR_1 {p : Pr} (hp : okP p = true) {t : Tm} (h : (tmR p t).2 = 0) : taR p [t] = (((tmR p t).1, 1), 0) := by
  have e : taF p [t] = ((tmR p t).1, 0) := by
    unfold taF; rw [if_pos h]; unfold taF; rfl
  unfold taR
  rw [if_pos hp, if_neg (show ¬ 40 < [t].length by simp), e, if_pos rfl]
  rfl
end Go.Proofs.YtcfabmmonoljeaaDoor

/- What functions of the program answer: part Small2. -/
set_option linter.unusedVariables false
set_option linter.unusedSimpArgs false
set_option linter.unusedSectionVars false
namespace Go.Proofs.YtcfabmmonoljeaaDoor
open Go Go.Proofs.YtcfabmmonoljeaaDoor.VI
set_option maxHeartbeats 16000000
set_option maxRecDepth 20000
theorem wB_get {k : Int} (h : 0 ≤ k ∧ k ≤ 5) : ([.int .i64 1, .int .i64 2, .int .i64 4, .int .i64 6, .int .i64 9, .int .i64 12] : List CV)[k.toNat]? = some (.int .i64 (wdt k)) := by
  rcases five h with rfl | rfl | rfl | rfl | rfl | rfl <;> rfl
abbrev hb3 (st : Bool) (c : CV) (g : List Int) : Option Blk := some ⟨29, .bool st :: c :: grow g, .own⟩
theorem loop31 {G : AHeap} {cs : CV} {l : List Int} {z : Option Blk} {st : Bool} {g : List Int} (hg : g.length = 16) (hc : Bts G cs l) (hl : ∀ x ∈ l, 0 ≤ x ∧ x ≤ 255) : ∀ (n : Nat) (xs : List Nt) (_ : xs.length + n ≤ 5) (t sd pos kind : Int) (_ : 0 ≤ t ∧ t + 4 * n ≤ 900000) (_ : 0 ≤ pos ∧ pos + 24 * n ≤ 150) (_ : 0 ≤ kind ∧ kind ≤ 4) (_ : Row xs pos kind) (U : List (Option Blk)) (c : CV) (_ : OutS 91 2 (G.length + 3) U xs.length (nrows xs) (.c c)) (σ : Sl) (_ : σ 0 = .c (.ptr (some (G.length, 0)))) (_ : σ 3 = .c (.ptr (some (G.length + 2, 0)))) (_ : σ 5 = .c (.int .i64 pos)) (_ : σ 6 = .c (.int .i8 kind)) (_ : σ 7 = .c (.int .i64 n)),
    Post (evC (ev kk) (.loop l31_0) (σ, G ++ sb cs t sd :: z :: hb3 st c g :: U)) fun ex σ' H' => ex = .exit 0 ∧ (∃ t' sd' xs' pos' kind' U' c', xs'.length ≤ 5 ∧ Row xs' pos' kind' ∧ OutS 91 2 (G.length + 3) U' xs'.length (nrows xs') (.c c') ∧ H' = G ++ sb cs t' sd' :: z :: hb3 st c' g :: U') ∧ σ' 2 = σ 2 ∧ σ' 3 = .c (.ptr (some (G.length + 2, 0)))
  | 0, xs, hx, t, sd, pos, kind, ht, hp, hk, hr, U, c, ho, σ, h0, h3, h5, h6, h7 => by
    have hgt : ¬ ((0 : Int) < ((0 : Nat) : Int)) := by omega
    rw [evC_loop]
    simp only [evC_exit, evC_region, evC_seq, ev_t, ev_k, putS_some, ops_nil, evC_condC, cond_bool, ops_cons, next_some, then_norm, then_exit, Option.map_some, evalOp, ↓reduceIte, reduceCtorEq, binA, binC, intBin, or_false, or_true, and_true, true_and, Int.reduceLT, decide_false, and_self, Int.cast_ofNat_Int, eq_self, Bool.false_eq_true, Nat.reduceBEq, post_some, upd_at, upd_ne, l31_0, h3, h7]
    exact ⟨t, sd, xs, pos, kind, U, c, by omega, hr, ho, rfl⟩
  | n + 1, xs, hx, t, sd, pos, kind, ht, hp, hk, hr, U, c, ho, σ, h0, h3, h5, h6, h7 => by
    have hn0 : (0 : Int) < ((n + 1 : Nat) : Int) := by omega
    have hn1 : ((n + 1 : Nat) : Int) - 1 = (n : Int) := by omega
    obtain ⟨q, cap, hc0⟩ := OutS.isC ho
    injection hc0 with hc0; subst hc0
    have hw16 : IntKind.i16.wrap pos = pos := IntWalk.i16_in _ (by omega)
    have hnl : nrow ⟨kind, pos⟩ = [.int .i8 kind, .int .i16 pos] := rfl
    have hbase : (G ++ [sb cs t sd, z, hb3 st (.slice q xs.length cap) g]).length = G.length + 3 := by simp
    have hoU : OutS 91 2 (G ++ [sb cs t sd, z, hb3 st (.slice q xs.length cap) g]).length (U ++ [some ⟨91, nrow ⟨kind, pos⟩, .own⟩]) xs.length (nrows xs) (.c (.slice q xs.length cap)) := by rw [hbase]; exact OutS.more ho
    obtain ⟨v', U', happ, ho'⟩ := hoU.step (bytes := 4) (j := G.length + (U.length + 3)) (m := 1) (cs := nrow ⟨kind, pos⟩) (t := 91) (bm := .own) (cap := .exact 1) (by
      rw [show G.length + (U.length + 3) = (G ++ [sb cs t sd, z, hb3 st (.slice q xs.length cap) g]).length + U.length by rw [hbase]; omega, get_app]; simp) (by omega) rfl (by omega) rfl
    rw [hbase] at ho'
    have hrw : nrows xs ++ nrow ⟨kind, pos⟩ = nrows (xs ++ [⟨kind, pos⟩]) := by simp [nrows]
    have hln : xs.length + 1 = (xs ++ [(⟨kind, pos⟩ : Nt)]).length := by simp
    rw [hrw, hln] at ho'
    obtain ⟨q', cap', rfl⟩ := OutS.isC ho'
    simp only [List.append_assoc, List.cons_append, List.nil_append, hnl] at happ
    have hwb := wdt_b kind
    have hwg := wB_get (k := kind) (by omega)
    have t1 := pkT_b (n := 6) (t := t)
    have b1 := pkV_b hl 6 t sd
    have p1 := fun T => pick (T := T) (n := 6) (t := t) (sd := sd) hc (by omega) (by omega) hl
    generalize pkT 6 t = u1 at *
    generalize pkS l 6 t sd = s1 at *
    generalize pkV l 6 t sd = d1 at *
    have t2 := pkT_b (n := 2) (t := u1)
    have p2 := fun T => run60 (T := T) (n := 2) (t := u1) (sd := s1) hc hl (by omega) (by omega)
    generalize pkT 2 u1 = u2 at *
    generalize pkS l 2 u1 s1 = s2 at *
    have step := fun (kind' : Int) (h2 : kind' ≤ kind) (h3 : 0 ≤ kind') (t' sd' : Int) (h4 : 0 ≤ t' ∧ t' + 4 * n ≤ 900000) W => loop31 (z := z) (st := st) hg hc hl n (xs ++ [⟨kind, pos⟩]) (by simp; omega) t' sd' (pos + (wdt kind + 1 + d1)) kind' h4 (by omega) (by omega) (hr.step (by omega) (by omega) (by omega) h2) (U' ++ W) (.slice q' (xs ++ [(⟨kind, pos⟩ : Nt)]).length cap') (OutS.more ho')
    have hk6 : 0 ≤ kind ∧ kind < 6 := by omega
    rw [evC_loop]
    by_cases k0 : 0 < kind
    · cases hb : (pkV l 2 u1 s1 == 0)
      · rw [hb] at p2
        simp (maxSteps := 4000000) (disch := first | omega | (refine _root_.id ?_; simp only [pl_int, pl_bool, pl_str, pl_undef, pl_nil, pl_ptr, plA_c, plA_agg, plA_tup, plV_c, plV_agg, List.all_cons, List.all_nil, Bool.and_true, Bool.and_self, eq_self, vi_int, vi_bool, get_app, get_app0, List.getElem?_cons_zero, List.getElem?_cons_succ, Option.join_some, lst_get, getL, upd_at, upd_ne, Nat.reduceBEq])) only [evC_skip, evC_region, evC_seq, evC_block, ev_t, ev_k, putS_some, putS_none, ops_nil, ops_consg, guard_bool, evC_condC, cond_bool, ops_cons, next_some, nextD_some, then_norm, out_norm, Option.map_some, evalOp, AV.cells?, readCell, writeCells, get_app, set_app, len_app, List.getElem?_cons_zero, List.getElem?_cons_succ, Option.join_some, List.length_cons, List.length_nil, List.append_assoc, List.cons_append, List.nil_append, Nat.zero_add, Nat.reduceAdd, Nat.reduceLeDiff, List.drop_zero, List.drop_succ_cons, List.take_zero, List.take_succ_cons, List.drop_nil, ↓reduceIte, reduceCtorEq, binA, binC, intBin, or_false, or_true, decide_true, and_self, Int.cast_ofNat_Int, eq_self, IntWalk.i64_in, List.all_cons, List.all_nil, Bool.and_true, Bool.false_eq_true, List.map_cons, List.map_nil, List.append_nil, setAt, CV.ok, List.set_cons_zero, List.set_cons_succ, evC_drawn, dr_nil, dr_cons, chk_nil, chk_cons, re_same, partsA, fillC, len_add, upd_at, upd_ne, Nat.mul_one, l31_0, h0, h3, h5, h6, h7, hn0, hn1, hw16, happ, run62, hwg, p1, p2, k0, hk6, List.getElem?_concat_length]
        exact Post.mono (step (kind) (by omega) (by omega) u2 s2 (by omega) _ _ (by simp only [upd_ne, Nat.reduceBEq, h0]) (by simp only [upd_ne, Nat.reduceBEq, h3]) (by simp only [upd_at, upd_ne, Nat.reduceBEq]) (by simp only [upd_ne, Nat.reduceBEq, h6]) (by simp only [upd_at])) (fun ex σ' H' q => ⟨q.1, q.2.1, q.2.2.1.trans (by simp only [upd_ne, Nat.reduceBEq]), q.2.2.2⟩)
      · rw [hb] at p2
        simp (maxSteps := 4000000) (disch := first | omega | (refine _root_.id ?_; simp only [pl_int, pl_bool, pl_str, pl_undef, pl_nil, pl_ptr, plA_c, plA_agg, plA_tup, plV_c, plV_agg, List.all_cons, List.all_nil, Bool.and_true, Bool.and_self, eq_self, vi_int, vi_bool, get_app, get_app0, List.getElem?_cons_zero, List.getElem?_cons_succ, Option.join_some, lst_get, getL, upd_at, upd_ne, Nat.reduceBEq])) only [evC_skip, evC_region, evC_seq, evC_block, ev_t, ev_k, putS_some, putS_none, ops_nil, ops_consg, guard_bool, evC_condC, cond_bool, ops_cons, next_some, nextD_some, then_norm, out_norm, Option.map_some, evalOp, AV.cells?, readCell, writeCells, get_app, set_app, len_app, List.getElem?_cons_zero, List.getElem?_cons_succ, Option.join_some, List.length_cons, List.length_nil, List.append_assoc, List.cons_append, List.nil_append, Nat.zero_add, Nat.reduceAdd, Nat.reduceLeDiff, List.drop_zero, List.drop_succ_cons, List.take_zero, List.take_succ_cons, List.drop_nil, ↓reduceIte, reduceCtorEq, binA, binC, intBin, or_false, or_true, decide_true, and_self, Int.cast_ofNat_Int, eq_self, IntWalk.i64_in, IntWalk.i8_in, List.all_cons, List.all_nil, Bool.and_true, List.map_cons, List.map_nil, List.append_nil, setAt, CV.ok, List.set_cons_zero, List.set_cons_succ, evC_drawn, dr_nil, dr_cons, chk_nil, chk_cons, re_same, partsA, fillC, len_add, upd_at, upd_ne, Nat.mul_one, l31_0, h0, h3, h5, h6, h7, hn0, hn1, hw16, happ, run62, hwg, p1, p2, k0, hk6, List.getElem?_concat_length]
        exact Post.mono (step (kind - 1) (by omega) (by omega) u2 s2 (by omega) _ _ (by simp only [upd_ne, Nat.reduceBEq, h0]) (by simp only [upd_ne, Nat.reduceBEq, h3]) (by simp only [upd_at, upd_ne, Nat.reduceBEq]) (by simp only [upd_at, upd_ne, Nat.reduceBEq]) (by simp only [upd_at])) (fun ex σ' H' q => ⟨q.1, q.2.1, q.2.2.1.trans (by simp only [upd_ne, Nat.reduceBEq]), q.2.2.2⟩)
    · simp (maxSteps := 4000000) (disch := first | omega | (refine _root_.id ?_; simp only [pl_int, pl_bool, pl_str, pl_undef, pl_nil, pl_ptr, plA_c, plA_agg, plA_tup, plV_c, plV_agg, List.all_cons, List.all_nil, Bool.and_true, Bool.and_self, eq_self, vi_int, vi_bool, get_app, get_app0, List.getElem?_cons_zero, List.getElem?_cons_succ, Option.join_some, lst_get, getL, upd_at, upd_ne, Nat.reduceBEq])) only [evC_skip, evC_region, evC_seq, evC_block, ev_t, ev_k, putS_some, putS_none, ops_nil, ops_consg, guard_bool, evC_condC, cond_bool, ops_cons, next_some, nextD_some, then_norm, out_norm, Option.map_some, evalOp, AV.cells?, readCell, writeCells, get_app, set_app, len_app, List.getElem?_cons_zero, List.getElem?_cons_succ, Option.join_some, List.length_cons, List.length_nil, List.append_assoc, List.cons_append, List.nil_append, Nat.zero_add, Nat.reduceAdd, Nat.reduceLeDiff, List.drop_zero, List.drop_succ_cons, List.take_zero, List.take_succ_cons, List.drop_nil, ↓reduceIte, reduceCtorEq, binA, binC, intBin, or_false, or_true, decide_true, decide_false, and_self, Int.cast_ofNat_Int, eq_self, IntWalk.i64_in, List.all_cons, List.all_nil, Bool.and_true, Bool.not_true, Bool.false_eq_true, List.map_cons, List.map_nil, List.append_nil, setAt, CV.ok, List.set_cons_zero, List.set_cons_succ, evC_drawn, dr_nil, dr_cons, chk_nil, chk_cons, re_same, partsA, fillC, len_add, upd_at, upd_ne, Nat.mul_one, l31_0, h0, h3, h5, h6, h7, hn0, hn1, hw16, happ, run62, hwg, p1, k0, hk6, List.getElem?_concat_length]
      exact Post.mono (step (kind) (by omega) (by omega) u1 s1 (by omega) _ _ (by simp only [upd_ne, Nat.reduceBEq, h0]) (by simp only [upd_ne, Nat.reduceBEq, h3]) (by simp only [upd_at, upd_ne, Nat.reduceBEq]) (by simp only [upd_ne, Nat.reduceBEq, h6]) (by simp only [upd_at])) (fun ex σ' H' q => ⟨q.1, q.2.1, q.2.2.1.trans (by simp only [upd_ne, Nat.reduceBEq]), q.2.2.2⟩)
abbrev zh (b : Bool) : List CV := [.bool b, .slice none 0 (.exact 0), .int .i8 0, .int .i8 0, .int .i8 0, .int .i8 0, .int .i8 0, .int .i8 0, .int .i8 0, .int .i8 0, .int .i8 0, .int .i8 0, .int .i8 0, .int .i8 0, .int .i8 0, .int .i8 0, .int .i8 0, .int .i8 0]
theorem run31 {G : AHeap} {cs : CV} {l : List Int} (hc : Bts G cs l) (hl : ∀ x ∈ l, 0 ≤ x ∧ x ≤ 255) : ∃ (x : Hf) (t sd : Int) (T : List (Option Blk)), x.xs.length ≤ 5 ∧ okF x = true ∧ (∀ G' : AHeap, G'.length = G.length → HfAt (G' ++ sb cs t sd :: T) x) ∧ ev kk 31 [.c (.ptr (some (G.length, 0)))] (G ++ [sb cs 0 0]) = some (.agg (hfr x), G ++ sb cs t sd :: T) := by
  have t0 := pkT_b (n := 2) (t := 0)
  have h0 := fun T => run60 (T := T) (n := 2) (t := 0) (sd := 0) hc hl (by omega) (by omega)
  generalize hst : (pkV l 2 0 0 == 0) = st at *
  generalize pkT 2 0 = u0 at *
  generalize pkS l 2 0 0 = s0 at *
  have t1 := pkT_b (n := 1073741824) (t := u0)
  have h1 := fun T => pick (T := T) (n := 1073741824) (t := u0) (sd := s0) hc (by omega) (by omega) hl
  generalize pkT 1073741824 u0 = u1 at *
  generalize pkV l 1073741824 u0 s0 = v1 at *
  generalize pkS l 1073741824 u0 s0 = s1 at *
  obtain ⟨g, sg, hg, hq, r117⟩ := run61 (IntKind.u32.wrap v1) (G ++ [sb cs u1 s1, some ⟨29, zh false, .own⟩, some ⟨29, zh st, .own⟩])
  have t2 := pkT_b (n := 3) (t := u1)
  have h2 := fun T => pick (T := T) (n := 3) (t := u1) (sd := s1) hc (by omega) (by omega) hl
  have b2 := pkV_b hl 3 u1 s1
  generalize pkT 3 u1 = u2 at *
  generalize pkV l 3 u1 s1 = v2 at *
  generalize pkS l 3 u1 s1 = s2 at *
  have t3 := pkT_b (n := 5) (t := u2)
  have h3 := fun T => pick (T := T) (n := 5) (t := u2) (sd := s2) hc (by omega) (by omega) hl
  have b3 := pkV_b hl 5 u2 s2
  generalize pkT 5 u2 = u3 at *
  generalize pkV l 5 u2 s2 = v3 at *
  generalize pkS l 5 u2 s2 = s3 at *
  have t4 := pkT_b (n := 6) (t := u3)
  have h4 := fun T => pick (T := T) (n := 6) (t := u3) (sd := s3) hc (by omega) (by omega) hl
  have b4 := pkV_b hl 6 u3 s3
  generalize pkT 6 u3 = u4 at *
  generalize pkV l 6 u3 s3 = v4 at *
  generalize pkS l 6 u3 s3 = s4 at *
  have hw8 : IntKind.i8.wrap v3 = v3 := IntWalk.i8_in _ (by omega)
  have hgl : (grow g).length = 16 := by rw [List.length_map]; exact hg
  have hgt : List.take 16 (grow g) = grow g := List.take_of_length_le (by omega)
  obtain ⟨n4, rfl⟩ : ∃ n : Nat, v4 = n := ⟨v4.toNat, by omega⟩
  obtain ⟨ex, σ', H', e, rfl, ⟨t', sd', xs, pos, kind, U, c, hx5, hr, ho, rfl⟩, k2, k3⟩ := loop31 (z := some ⟨29, zh false, .own⟩) (st := st) hg hc hl n4 [] (by simp; omega) u4 s4 v2 v3 (by omega) (by omega) (by omega) ⟨rfl, fun y h => (by simp at h), fun x h => (by simp at h)⟩ [] (.slice none 0 (.exact 0)) (.inl ⟨rfl, rfl, none, rfl⟩)
    (lst [.c (.ptr (some (G.length, 0))), .c .undef, .c (.ptr (some (G.length + 1, 0))), .c (.ptr (some (G.length + 2, 0))), .c (.int .u32 sg), .c (.int .i64 v2), .c (.int .i8 v3), .c (.int .i64 n4), .c (.ptr (some (G.length, 0))), .c (.bool st), .agg (zh st), .c (.ptr (some (G.length, 0))), .c (.int .i64 v1), .c (.int .u32 (IntKind.u32.wrap v1)), .tup [.agg (grow g), .c (.int .u32 sg)], .c (.int .u32 (IntKind.u32.wrap v1)), .tup [.agg (grow g), .c (.int .u32 sg)], .agg (grow g), .c (.int .u32 sg), .c (.ptr (some (G.length + 2, 2))), .c (.ptr (some (G.length, 0))), .c (.int .i64 v2), .c (.ptr (some (G.length, 0))), .c (.int .i64 v3), .c (.int .i8 v3), .c (.ptr (some (G.length, 0))), .c (.int .i64 n4)]) rfl rfl rfl rfl rfl
  have k2 : σ' 2 = .c (.ptr (some (G.length + 1, 0))) := k2
  obtain ⟨q, cap, hcc⟩ := OutS.isC ho
  injection hcc with hcc; subst hcc
  have hat : ∀ G' : AHeap, G'.length = G.length → Nts (G' ++ sb cs t' sd' :: some ⟨29, .bool st :: .slice q xs.length cap :: grow g, .own⟩ :: hb3 st (.slice q xs.length cap) g :: U) q xs := by
    intro G' hG h0
    rcases ho with ⟨h, _⟩ | ⟨_, _, k, h, hk⟩
    · omega
    · injection h with h; injection h with h
      refine ⟨_, 91, .opn, h, ?_⟩
      rw [show G.length + 3 + k = G'.length + (k + 3) by omega, get_app]
      show (U[k]?).join = _
      rw [hk]; rfl
  refine ⟨⟨st, q, cap, xs, g, hg⟩, t', sd', some ⟨29, .bool st :: .slice q xs.length cap :: grow g, .own⟩ :: hb3 st (.slice q xs.length cap) g :: U, hx5, ?_, fun G' hG => ⟨by dsimp only; omega, hr.rng, hat G' hG⟩, ?_⟩
  · show ((decide (xs.length ≤ 60) && ntsG none xs) && g.all gq) = true
    rw [hr.ok, hq]; simp; omega
  · rw [ev_call c31]; unfold k31; rw [evB_eq rfl]
    simp (maxSteps := 4000000) (disch := first | omega | (refine _root_.id ?_; simp only [pl_int, pl_bool, pl_str, pl_undef, pl_nil, pl_ptr, plA_c, plA_agg, plA_tup, plV_c, plV_agg, List.all_cons, List.all_nil, Bool.and_true, Bool.and_self, eq_self, vi_int, vi_bool, get_app, get_app0, List.getElem?_cons_zero, List.getElem?_cons_succ, Option.join_some, lst_get, getL, upd_at, upd_ne, Nat.reduceBEq])) only [evC_ret, evC_region, evC_seq, evC_block, ev_t, ev_k, putS_some, upd_l, putS_none, ops_nil, ops_cons, next_some, then_norm, out_exit, done_ret, putL, getL, Option.bind_some, Option.map_some, evalOp, AV.cells?, readCells, writeCells, get_app, set_app, len_app, List.getElem?_cons_zero, List.getElem?_cons_succ, Option.join_some, List.length_cons, List.length_nil, List.append_assoc, List.cons_append, List.nil_append, Nat.zero_add, Nat.reduceAdd, Nat.reduceLeDiff, List.drop_zero, List.drop_succ_cons, List.take_zero, List.take_succ_cons, List.drop_nil, ↓reduceIte, evalRs, evalR, mkRes, V0.toAV, and_self, lst_get, eq_self, List.all_cons, List.all_nil, Bool.and_true, List.map_cons, List.map_nil, List.append_nil, setAt, CV.ok, List.set_cons_zero, List.set_cons_succ, partsA, fillC, finish_no, upd_at, upd_ne, h0, h1, h2, h3, h4, hw8, r117, hgl, hgt, Nat.le_refl, grow_ok, e, k2, k3]
theorem run7 {H : AHeap} {cs : CV} {l : List Int} (hc : Bts H cs l) (hl : ∀ x ∈ l, 0 ≤ x ∧ x ≤ 255) : ∃ (x : Hf) (T : List (Option Blk)), x.xs.length ≤ 5 ∧ okF x = true ∧ HfAt (H ++ T) x ∧ ev kk 7 [.c cs] H = some (.agg (hfr x), H ++ T) := by
  obtain ⟨x, t, sd, T, h1, h2, h3, h4⟩ := run31 (G := H ++ [some ⟨29, zh false, .own⟩]) (hc.app _) hl
  have r75 := fun T => run32 (H := H ++ T) hc.okc
  simp only [List.append_assoc, List.cons_append, List.nil_append, len_app, List.length_cons, List.length_nil, Nat.zero_add] at h4
  refine ⟨x, hfb x :: sb cs t sd :: T, h1, h2, ?_, ?_⟩
  · have := h3 (H ++ [hfb x]) (by simp)
    rw [List.append_assoc] at this; exact this
  · rw [ev_call c7]; unfold k7; rw [evB_eq rfl]
    simp (maxSteps := 4000000) (disch := first | omega | (refine _root_.id ?_; simp only [pl_int, pl_bool, pl_str, pl_undef, pl_nil, pl_ptr, plA_c, plA_agg, plA_tup, plV_c, plV_agg, List.all_cons, List.all_nil, Bool.and_true, Bool.and_self, eq_self, vi_int, vi_bool, get_app, get_app0, List.getElem?_cons_zero, List.getElem?_cons_succ, Option.join_some, lst_get, getL, upd_at, upd_ne, Nat.reduceBEq])) only [evC_ret, evC_region, evC_seq, ev_t, ev_k, putS_some, upd_l, putS_none, ops_nil, ops_cons, next_some, then_norm, done_ret, putL, getL, Option.bind_some, Option.map_some, evalOp, AV.cells?, readCells, writeCells, get_app0, set_app0, len_app, List.getElem?_cons_zero, Option.join_some, List.length_cons, List.length_nil, List.append_assoc, List.cons_append, List.nil_append, Nat.zero_add, Nat.reduceAdd, List.drop_zero, List.drop_succ_cons, List.take_zero, List.take_succ_cons, List.drop_nil, ↓reduceIte, evalRs, evalR, mkRes, V0.toAV, and_self, lst_get, eq_self, List.all_cons, Bool.and_true, List.map_cons, List.map_nil, List.append_nil, setAt, CV.ok, List.set_cons_zero, finish_no, r75, h4, gl, gt, Nat.le_refl, grow_ok]
end Go.Proofs.YtcfabmmonoljeaaDoor
