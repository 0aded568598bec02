/- What functions of the program answer: part R3. -/
import Derived.Test.YtmockobmiagbcaaDoorR2
set_option linter.unusedVariables false
set_option linter.unusedSimpArgs false
set_option linter.unusedSectionVars false
namespace Go.Proofs.YtmockobmiagbcaaDoor
open Go Go.Proofs.YtmockobmiagbcaaDoor.VI
set_option maxHeartbeats 16000000
set_option maxRecDepth 20000
/-! A text is split -/
theorem ext_str {s : List UInt8} {a b : Nat} : (⟨s.toArray⟩ : ByteArray).extract a b = ⟨((s.take b).drop a).toArray⟩ := by
  apply ByteArray.ext
  rw [ByteArray.data_extract]
  simp [List.extract_eq_take_drop, List.drop_take]
theorem slA {s : List UInt8} {a b : Nat} (h : a ≤ b) (hb : b ≤ s.length) : sliceStrA (.c (.str ⟨s.toArray⟩)) (some (a : Int)) (some (b : Int)) = some (.c (.str ⟨((s.take b).drop a).toArray⟩)) := by
  have e : (0 : Int) ≤ (a : Int) ∧ (a : Int) ≤ (b : Int) ∧ (b : Int) ≤ ((⟨s.toArray⟩ : ByteArray).size : Int) := by rw [bsize]; omega
  show (if (0 : Int) ≤ (a : Int) ∧ (a : Int) ≤ (b : Int) ∧ (b : Int) ≤ ((⟨s.toArray⟩ : ByteArray).size : Int) then some (AV.c (CV.str ((⟨s.toArray⟩ : ByteArray).extract (a : Int).toNat (b : Int).toNat))) else none) = _
  rw [if_pos e, Int.toNat_natCast, Int.toNat_natCast, ext_str]
theorem slN {s : List UInt8} {a : Nat} (h : a ≤ s.length) : sliceStrA (.c (.str ⟨s.toArray⟩)) (some (a : Int)) none = some (.c (.str ⟨(s.drop a).toArray⟩)) := by
  have e : (0 : Int) ≤ (a : Int) ∧ (a : Int) ≤ ((⟨s.toArray⟩ : ByteArray).size : Int) ∧ ((⟨s.toArray⟩ : ByteArray).size : Int) ≤ ((⟨s.toArray⟩ : ByteArray).size : Int) := by rw [bsize]; omega
  show (if (0 : Int) ≤ (a : Int) ∧ (a : Int) ≤ ((⟨s.toArray⟩ : ByteArray).size : Int) ∧ ((⟨s.toArray⟩ : ByteArray).size : Int) ≤ ((⟨s.toArray⟩ : ByteArray).size : Int) then some (AV.c (CV.str ((⟨s.toArray⟩ : ByteArray).extract (a : Int).toNat ((⟨s.toArray⟩ : ByteArray).size : Int).toNat))) else none) = _
  rw [if_pos e, Int.toNat_natCast, Int.toNat_natCast, ext_str, bsize, List.take_length]
/-- The piece ahead of a place. -/
theorem piece_split {sp : UInt8} {s : List UInt8} {bg i : Nat} (hb : bg ≤ i) (hi : i < s.length) (hn : ∀ b ∈ (s.take i).drop bg, b ≠ sp) (h : s[i]'hi = sp) : splitL sp (s.drop bg) = (s.take i).drop bg :: splitL sp (s.drop (i + 1)) := by
  have e : s.drop bg = (s.take i).drop bg ++ sp :: s.drop (i + 1) := by
    have h1 : s = s.take i ++ s.drop i := (List.take_append_drop i s).symm
    have h2 : s.drop i = sp :: s.drop (i + 1) := by rw [List.drop_eq_getElem_cons hi, h]
    have h3 : s.drop bg = (s.take i ++ s.drop i).drop bg := by rw [← h1]
    rw [h3, List.drop_append_of_le_length (by rw [List.length_take]; omega), h2]
  rw [e]
  exact split_app hn
theorem piece_more {sp : UInt8} {s : List UInt8} {bg i : Nat} (hb : bg ≤ i) (hi : i < s.length) (hn : ∀ b ∈ (s.take i).drop bg, b ≠ sp) (h : s[i]'hi ≠ sp) : ∀ b ∈ (s.take (i + 1)).drop bg, b ≠ sp := by
  intro b hb2
  rw [List.take_succ_eq_append_getElem hi, List.drop_append_of_le_length (by rw [List.length_take]; omega)] at hb2
  rcases List.mem_append.1 hb2 with h1 | h1
  · exact hn b h1
  · rw [List.mem_singleton] at h1; rw [h1]; exact h
theorem loop50 {sp : UInt8} {s : List UInt8} (hs : s.length ≤ 1048576) {G : AHeap} : ∀ (n i : Nat) (_ : i + n = s.length) (bg : Nat) (_ : bg ≤ i) (_ : ∀ b ∈ (s.take i).drop bg, b ≠ sp) (acc : List (List UInt8)) (_ : acc.length ≤ i) (J : AHeap) (_ : Pre G J) (v : AV) (_ : ApS 9 1 G J acc.length (strs acc) v) (σ : Sl)
    (_ : σ 0 = .c (.str ⟨s.toArray⟩)) (_ : σ 1 = .c (.int .u8 (sp.toNat : Int))) (_ : σ 5 = v) (_ : σ 6 = .c (.int .i64 bg)) (_ : σ 7 = .c (.int .i64 i)),
    Post (evC (ev kk) (.loop l50_0) (σ, J)) fun ex σ' H' => ex = .exit 0 ∧ ∃ (acc' : List (List UInt8)) (b' : Nat), Pre G H' ∧ ApS 9 1 G H' acc'.length (strs acc') (σ' 5) ∧ acc' ++ [s.drop b'] = acc ++ splitL sp (s.drop bg) ∧ b' ≤ s.length ∧ acc'.length ≤ s.length ∧ σ' 0 = .c (.str ⟨s.toArray⟩) ∧ σ' 6 = .c (.int .i64 b')
  | 0, i, hi, bg, hbg, hn, acc, hac, J, hJ, v, ho, σ, h0, h1, h5, h6, h7 => by
    have hge : ¬ ((i : Int) < (s.length : Int)) := by omega
    have he : s.take i = s := List.take_of_length_le (by omega)
    rw [he] at hn
    rw [evC_loop, split_one hn]
    simp only [evC_skip, evC_exit, evC_ret, evC_region, evC_seq, evC_block, ev_t, ev_k, putS_some, upd_l, putS_none, ops_nil, ops_pick, pick_bool, ops_consg, guard_bool, evC_condC, cond_bool, ops_cons, next_some, next_none, next_ite, nextD_some, nextD_none, nextD_ite, bind_ite, map_ite, then_ite, then_norm, then_ret, then_exit, out_ite, out_norm, out_ret, out_exit, done_ite, done_norm, done_ret, putL, getL, Option.bind_some, Option.map_some, Option.bind_none, Option.map_none, evalOp, AV.cells?, readCells, readCell, writeCells, get_app, get_app0, set_app, set_app0, len_app, List.getElem?_cons_zero, List.getElem?_cons_succ, Option.join_some, List.length_cons, List.length_nil, List.append_assoc, List.cons_append, List.nil_append, Nat.zero_add, Nat.add_zero, Nat.reduceAdd, Nat.reduceLeDiff, Nat.reduceLT, Nat.reduceMul, Nat.reduceSub, List.drop_zero, List.drop_succ_cons, List.take_zero, List.take_succ_cons, List.take_nil, List.drop_nil, if_true, if_false, ite_true, ite_false, ite_self, ↓reduceIte, reduceCtorEq, binA, binC, intBin, or_false, false_or, or_true, true_or, and_true, true_and, Int.reduceLT, Int.reduceLE, Int.reduceToNat, Int.reduceAdd, evalRs, evalR, AV.toV0?, mkRes, V0.toAV, decide_true, decide_false, and_self, Nat.reduceEqDiff, lst_get, Int.cast_ofNat_Int, eq_self, IntWalk.i64_in, IntWalk.i16_in, IntWalk.i32_in, IntWalk.i8_in, IntWalk.u8_in, Int.reduceNeg, finish_app, finish_id, pl_int, pl_bool, pl_str, pl_undef, pl_nil, pl_ptr, plA_c, plA_agg, plA_tup, plV_c, plV_agg, List.all_cons, List.all_nil, Bool.and_true, Bool.true_and, decide_eq_true_eq, decide_eq_false_iff_not, beq_self_eq_true, Bool.not_true, Bool.not_false, Bool.true_eq_false, Bool.false_eq_true, List.map_cons, List.map_nil, List.append_nil, setAt, CV.ok, eqRes, bne_self_eq_false, List.set_cons_zero, List.set_cons_succ, evC_drawn, dr_nil, dr_cons, chk_nil, chk_cons, re_same, unA, Bool.not_eq_true', Bool.not_eq_eq_eq_not, Bool.not_not, Int.zero_add, List.getElem?_nil, partsA, fillC, Int.reduceEq, Int.reduceMul, Int.reduceSub, Int.reduceTDiv, Int.reduceTMod, List.flatten_cons, List.flatten_nil, finish_no, tdiv_pos, tmod_pos, Int.reduceDiv, Int.reduceMod, len_add, vi_int, vi_bool, Int.reduceBNe, Int.reduceBEq, Nat.reduceBEq, Nat.reduceBNe, post_some, post_ite, ite_ex, upd_at, upd_ne, cast_nonneg, cast_toNat, Nat.mul_one, false_implies, true_implies, implies_true, chkg_bool, chk_consg, guard_undef, l50_0, h0, h1, h5, h6, h7, bsize, hge]
    refine ⟨acc, bg, hJ, ho, rfl, by omega, by omega, ?_⟩
    first | rfl | exact ⟨rfl, rfl⟩ | trace_state
  | n + 1, i, hi, bg, hbg, hn, acc, hac, J, hJ, v, ho, σ, h0, h1, h5, h6, h7 => by
    have hil : i < s.length := by omega
    have hlt : (i : Int) < (s.length : Int) := by omega
    have hb := bget hil
    have hps := piece_split hbg hil hn
    have hpm := piece_more hbg hil hn
    obtain ⟨b, hbe⟩ : ∃ b, b = s[i]'hil := ⟨_, rfl⟩
    rw [← hbe] at hb hps hpm
    have hsl := slA (s := s) hbg (show i ≤ s.length by omega)
    obtain ⟨q, cp, hv⟩ := ho.isC
    subst hv
    rw [evC_loop]
    by_cases c1 : (b.toNat : Int) = (sp.toNat : Int)
    · have hb32 : b = sp := byte_is c1
      have hsp := hps hb32
      obtain ⟨P, hP⟩ : ∃ P, P = (s.take i).drop bg := ⟨_, rfl⟩
      rw [← hP] at hsp hsl
      obtain ⟨v', K, a1, pK, oK, _, _⟩ := (ho.pre (pre_app (t := [some ⟨9, [.str ⟨P.toArray⟩], .own⟩]))).step (bytes := 16) (hJ.app _) (j := J.length) (t := 9) (cs := [.str ⟨P.toArray⟩]) (bm := .own) (m := 1) (cap := .exact 1) (by rw [get_app0]; rfl) (by omega) rfl (by omega) rfl
      rw [strs_one] at oK
      have step := loop50 (sp := sp) hs n (i + 1) (by omega) (i + 1) (by omega) (by intro b hb; rw [List.drop_eq_nil_of_le (by rw [List.length_take]; omega)] at hb; cases hb) (acc ++ [P]) (by simp; omega) K pK v' (by simpa using oK)
      have hcat : acc ++ splitL sp (s.drop bg) = acc ++ [P] ++ splitL sp (s.drop (i + 1)) := by rw [hsp]; simp
      simp (maxSteps := 4000000) (disch := first | omega | (refine _root_.id ?_; simp only [pl_int, pl_bool, pl_str, pl_undef, pl_nil, pl_ptr, plA_c, plA_agg, plA_tup, plV_c, plV_agg, List.all_cons, List.all_nil, Bool.and_true, Bool.and_self, eq_self, vi_int, vi_bool, get_app, get_app0, List.getElem?_cons_zero, List.getElem?_cons_succ, Option.join_some, lst_get, getL, upd_at, upd_ne, Nat.reduceBEq])) only [evC_skip, evC_exit, evC_ret, evC_region, evC_seq, evC_block, ev_t, ev_k, putS_some, upd_l, putS_none, ops_nil, ops_pick, pick_bool, ops_consg, guard_bool, evC_condC, cond_bool, ops_cons, next_some, next_none, next_ite, nextD_some, nextD_none, nextD_ite, bind_ite, map_ite, then_ite, then_norm, then_ret, then_exit, out_ite, out_norm, out_ret, out_exit, done_ite, done_norm, done_ret, putL, getL, Option.bind_some, Option.map_some, Option.bind_none, Option.map_none, evalOp, AV.cells?, readCells, readCell, writeCells, get_app, get_app0, set_app, set_app0, len_app, List.getElem?_cons_zero, List.getElem?_cons_succ, Option.join_some, List.length_cons, List.length_nil, List.append_assoc, List.cons_append, List.nil_append, Nat.zero_add, Nat.add_zero, Nat.reduceAdd, Nat.reduceLeDiff, Nat.reduceLT, Nat.reduceMul, Nat.reduceSub, List.drop_zero, List.drop_succ_cons, List.take_zero, List.take_succ_cons, List.take_nil, List.drop_nil, if_true, if_false, ite_true, ite_false, ite_self, ↓reduceIte, reduceCtorEq, binA, binC, intBin, or_false, false_or, or_true, true_or, and_true, true_and, Int.reduceLT, Int.reduceLE, Int.reduceToNat, Int.reduceAdd, evalRs, evalR, AV.toV0?, mkRes, V0.toAV, decide_true, decide_false, and_self, Nat.reduceEqDiff, lst_get, Int.cast_ofNat_Int, eq_self, IntWalk.i64_in, IntWalk.i16_in, IntWalk.i32_in, IntWalk.i8_in, IntWalk.u8_in, Int.reduceNeg, finish_app, finish_id, pl_int, pl_bool, pl_str, pl_undef, pl_nil, pl_ptr, plA_c, plA_agg, plA_tup, plV_c, plV_agg, List.all_cons, List.all_nil, Bool.and_true, Bool.true_and, decide_eq_true_eq, decide_eq_false_iff_not, beq_self_eq_true, Bool.not_true, Bool.not_false, Bool.true_eq_false, Bool.false_eq_true, List.map_cons, List.map_nil, List.append_nil, setAt, CV.ok, eqRes, bne_self_eq_false, List.set_cons_zero, List.set_cons_succ, evC_drawn, dr_nil, dr_cons, chk_nil, chk_cons, re_same, unA, Bool.not_eq_true', Bool.not_eq_eq_eq_not, Bool.not_not, Int.zero_add, List.getElem?_nil, partsA, fillC, Int.reduceEq, Int.reduceMul, Int.reduceSub, Int.reduceTDiv, Int.reduceTMod, List.flatten_cons, List.flatten_nil, finish_no, tdiv_pos, tmod_pos, Int.reduceDiv, Int.reduceMod, len_add, vi_int, vi_bool, Int.reduceBNe, Int.reduceBEq, Nat.reduceBEq, Nat.reduceBNe, post_some, post_ite, ite_ex, upd_at, upd_ne, cast_nonneg, cast_toNat, Nat.mul_one, false_implies, true_implies, implies_true, chkg_bool, chk_consg, guard_undef, l50_0, h0, h1, h5, h6, h7, bsize, hlt, hb, c1, optInt, hsl, a1]
      rw [hcat]
      exact step _ (by simp only [upd_at, upd_ne, Nat.reduceBEq, h0]) (by simp only [upd_at, upd_ne, Nat.reduceBEq, h1]) (by simp only [upd_at, upd_ne, Nat.reduceBEq]) (by simp only [upd_at, upd_ne, Nat.reduceBEq]; rfl) (by simp only [upd_at, upd_ne, Nat.reduceBEq]; rfl)
    · have hne : b ≠ sp := fun e => c1 (by rw [e])
      have c1' : ((b.toNat : Int) == (sp.toNat : Int)) = false := beq_eq_false_iff_ne.2 c1
      have step := loop50 (sp := sp) hs n (i + 1) (by omega) bg (by omega) (hpm hne) acc (by omega) J hJ _ ho
      simp (maxSteps := 4000000) (disch := first | omega | (refine _root_.id ?_; simp only [pl_int, pl_bool, pl_str, pl_undef, pl_nil, pl_ptr, plA_c, plA_agg, plA_tup, plV_c, plV_agg, List.all_cons, List.all_nil, Bool.and_true, Bool.and_self, eq_self, vi_int, vi_bool, get_app, get_app0, List.getElem?_cons_zero, List.getElem?_cons_succ, Option.join_some, lst_get, getL, upd_at, upd_ne, Nat.reduceBEq])) only [evC_skip, evC_exit, evC_ret, evC_region, evC_seq, evC_block, ev_t, ev_k, putS_some, upd_l, putS_none, ops_nil, ops_pick, pick_bool, ops_consg, guard_bool, evC_condC, cond_bool, ops_cons, next_some, next_none, next_ite, nextD_some, nextD_none, nextD_ite, bind_ite, map_ite, then_ite, then_norm, then_ret, then_exit, out_ite, out_norm, out_ret, out_exit, done_ite, done_norm, done_ret, putL, getL, Option.bind_some, Option.map_some, Option.bind_none, Option.map_none, evalOp, AV.cells?, readCells, readCell, writeCells, get_app, get_app0, set_app, set_app0, len_app, List.getElem?_cons_zero, List.getElem?_cons_succ, Option.join_some, List.length_cons, List.length_nil, List.append_assoc, List.cons_append, List.nil_append, Nat.zero_add, Nat.add_zero, Nat.reduceAdd, Nat.reduceLeDiff, Nat.reduceLT, Nat.reduceMul, Nat.reduceSub, List.drop_zero, List.drop_succ_cons, List.take_zero, List.take_succ_cons, List.take_nil, List.drop_nil, if_true, if_false, ite_true, ite_false, ite_self, ↓reduceIte, reduceCtorEq, binA, binC, intBin, or_false, false_or, or_true, true_or, and_true, true_and, Int.reduceLT, Int.reduceLE, Int.reduceToNat, Int.reduceAdd, evalRs, evalR, AV.toV0?, mkRes, V0.toAV, decide_true, decide_false, and_self, Nat.reduceEqDiff, lst_get, Int.cast_ofNat_Int, eq_self, IntWalk.i64_in, IntWalk.i16_in, IntWalk.i32_in, IntWalk.i8_in, IntWalk.u8_in, Int.reduceNeg, finish_app, finish_id, pl_int, pl_bool, pl_str, pl_undef, pl_nil, pl_ptr, plA_c, plA_agg, plA_tup, plV_c, plV_agg, List.all_cons, List.all_nil, Bool.and_true, Bool.true_and, decide_eq_true_eq, decide_eq_false_iff_not, beq_self_eq_true, Bool.not_true, Bool.not_false, Bool.true_eq_false, Bool.false_eq_true, List.map_cons, List.map_nil, List.append_nil, setAt, CV.ok, eqRes, bne_self_eq_false, List.set_cons_zero, List.set_cons_succ, evC_drawn, dr_nil, dr_cons, chk_nil, chk_cons, re_same, unA, Bool.not_eq_true', Bool.not_eq_eq_eq_not, Bool.not_not, Int.zero_add, List.getElem?_nil, partsA, fillC, Int.reduceEq, Int.reduceMul, Int.reduceSub, Int.reduceTDiv, Int.reduceTMod, List.flatten_cons, List.flatten_nil, finish_no, tdiv_pos, tmod_pos, Int.reduceDiv, Int.reduceMod, len_add, vi_int, vi_bool, Int.reduceBNe, Int.reduceBEq, Nat.reduceBEq, Nat.reduceBNe, post_some, post_ite, ite_ex, upd_at, upd_ne, cast_nonneg, cast_toNat, Nat.mul_one, false_implies, true_implies, implies_true, chkg_bool, chk_consg, guard_undef, l50_0, h0, h1, h5, h6, h7, bsize, hlt, hb, c1, c1', optInt]
      exact step _ (by simp only [upd_at, upd_ne, Nat.reduceBEq, h0]) (by simp only [upd_at, upd_ne, Nat.reduceBEq, h1]) (by simp only [upd_at, upd_ne, Nat.reduceBEq, h5]) (by simp only [upd_at, upd_ne, Nat.reduceBEq, h6]) (by simp only [upd_at, upd_ne, Nat.reduceBEq]; rfl)
theorem run50 {sp : UInt8} {s : List UInt8} (hs : s.length ≤ 1048576) (H : AHeap) : ∃ c J, ev kk 50 [.c (.str ⟨s.toArray⟩), .c (.int .u8 (sp.toNat : Int))] H = some (.c c, J) ∧ Pre H J ∧ ApS 9 1 H J (splitL sp s).length (strs (splitL sp s)) (.c c) := by
  have b0 : ∀ b ∈ (s.take 0).drop 0, b ≠ sp := by intro b hb; simp at hb
  obtain ⟨_, σ', J1, eL, rfl, acc, b', p1, o1, hcat, hb', hal, h0, h6⟩ := loop50 (sp := sp) hs (G := H ++ [some ⟨9, [], .own⟩]) s.length 0 (by omega) 0 (by omega) b0 [] (by simp) (H ++ [some ⟨9, [], .own⟩]) .refl (.c (.slice (some (H.length, 0)) 0 (.exact 0))) (.inl ⟨rfl, rfl, _, rfl⟩) (lst [.c (.str ⟨s.toArray⟩), .c (.int .u8 (sp.toNat : Int)), .c .undef, .c .undef, .c (.slice none 0 (.exact 0)), .c (.slice (some (H.length, 0)) 0 (.exact 0)), .c (.int .i64 0), .c (.int .i64 0), .c (.slice (some (H.length, 0)) 0 (.exact 0))]) rfl rfl rfl rfl rfl
  rw [List.drop_zero, List.nil_append] at hcat
  obtain ⟨q, cp, hv⟩ := o1.isC
  rw [hv] at o1
  have pH : Pre H J1 := pre_app.trans p1
  have hsl := slN hb'
  obtain ⟨P, hP⟩ : ∃ P, P = s.drop b' := ⟨_, rfl⟩
  rw [← hP] at hsl hcat
  have oH : ApS 9 1 H J1 acc.length (strs acc) (.c (.slice q acc.length cp)) := by
    rcases o1 with ⟨h1, h2, q', h3⟩ | ⟨h1, h2, id, h3, h4, h5⟩
    · exact .inl ⟨h1, h2, q', h3⟩
    · exact .inr ⟨h1, h2, id, h3, by simp at h4; omega, h5⟩
  obtain ⟨v', K, a1, pK, oK, _, _⟩ := (oH.pre (pre_app (t := [some ⟨9, [.str ⟨P.toArray⟩], .own⟩]))).step (bytes := 16) (pH.app _) (j := J1.length) (t := 9) (cs := [.str ⟨P.toArray⟩]) (bm := .own) (m := 1) (cap := .exact 1) (by rw [get_app0]; rfl) (by omega) rfl (by omega) rfl
  rw [strs_one, hcat] at oK
  obtain ⟨q2, cp2, hv2⟩ := oK.isC
  subst hv2
  have hlen : acc.length + 1 = (splitL sp s).length := by rw [← hcat]; simp
  rw [hlen] at oK a1
  rw [ev_call c50]; unfold k50; rw [evB_eq rfl]
  simp (maxSteps := 4000000) (disch := first | omega | (refine _root_.id ?_; simp only [pl_int, pl_bool, pl_str, pl_undef, pl_nil, pl_ptr, plA_c, plA_agg, plA_tup, plV_c, plV_agg, List.all_cons, List.all_nil, Bool.and_true, Bool.and_self, eq_self, vi_int, vi_bool, get_app, get_app0, List.getElem?_cons_zero, List.getElem?_cons_succ, Option.join_some, lst_get, getL, upd_at, upd_ne, Nat.reduceBEq])) only [evC_skip, evC_exit, evC_ret, evC_region, evC_seq, evC_block, ev_t, ev_k, putS_some, upd_l, putS_none, ops_nil, ops_pick, pick_bool, ops_consg, guard_bool, evC_condC, cond_bool, ops_cons, next_some, next_none, next_ite, nextD_some, nextD_none, nextD_ite, bind_ite, map_ite, then_ite, then_norm, then_ret, then_exit, out_ite, out_norm, out_ret, out_exit, done_ite, done_norm, done_ret, putL, getL, Option.bind_some, Option.map_some, Option.bind_none, Option.map_none, evalOp, AV.cells?, readCells, readCell, writeCells, get_app, get_app0, set_app, set_app0, len_app, List.getElem?_cons_zero, List.getElem?_cons_succ, Option.join_some, List.length_cons, List.length_nil, List.append_assoc, List.cons_append, List.nil_append, Nat.zero_add, Nat.add_zero, Nat.reduceAdd, Nat.reduceLeDiff, Nat.reduceLT, Nat.reduceMul, Nat.reduceSub, List.drop_zero, List.drop_succ_cons, List.take_zero, List.take_succ_cons, List.take_nil, List.drop_nil, if_true, if_false, ite_true, ite_false, ite_self, ↓reduceIte, reduceCtorEq, binA, binC, intBin, or_false, false_or, or_true, true_or, and_true, true_and, Int.reduceLT, Int.reduceLE, Int.reduceToNat, Int.reduceAdd, evalRs, evalR, AV.toV0?, mkRes, V0.toAV, decide_true, decide_false, and_self, Nat.reduceEqDiff, lst_get, Int.cast_ofNat_Int, eq_self, IntWalk.i64_in, IntWalk.i16_in, IntWalk.i32_in, IntWalk.i8_in, IntWalk.u8_in, Int.reduceNeg, finish_app, finish_id, pl_int, pl_bool, pl_str, pl_undef, pl_nil, pl_ptr, plA_c, plA_agg, plA_tup, plV_c, plV_agg, List.all_cons, List.all_nil, Bool.and_true, Bool.true_and, decide_eq_true_eq, decide_eq_false_iff_not, beq_self_eq_true, Bool.not_true, Bool.not_false, Bool.true_eq_false, Bool.false_eq_true, List.map_cons, List.map_nil, List.append_nil, setAt, CV.ok, eqRes, bne_self_eq_false, List.set_cons_zero, List.set_cons_succ, evC_drawn, dr_nil, dr_cons, chk_nil, chk_cons, re_same, unA, Bool.not_eq_true', Bool.not_eq_eq_eq_not, Bool.not_not, Int.zero_add, List.getElem?_nil, partsA, fillC, Int.reduceEq, Int.reduceMul, Int.reduceSub, Int.reduceTDiv, Int.reduceTMod, List.flatten_cons, List.flatten_nil, finish_no, tdiv_pos, tmod_pos, Int.reduceDiv, Int.reduceMod, len_add, vi_int, vi_bool, Int.reduceBNe, Int.reduceBEq, Nat.reduceBEq, Nat.reduceBNe, post_some, post_ite, ite_ex, upd_at, upd_ne, cast_nonneg, cast_toNat, Nat.mul_one, false_implies, true_implies, implies_true, chkg_bool, chk_consg, guard_undef, optInt, eL, hv, h0, h6, hsl, a1]
  exact ⟨_, _, rfl, pK, oK⟩
end Go.Proofs.YtmockobmiagbcaaDoor
