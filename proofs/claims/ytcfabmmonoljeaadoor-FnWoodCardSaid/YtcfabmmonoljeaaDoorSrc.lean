/- What functions of the program answer: part Src. -/
import Derived.Test.YtcfabmmonoljeaaDoorHalf
import Derived.Test.YtcfabmmonoljeaaDoorViE
set_option linter.unusedVariables false
set_option linter.unusedSimpArgs false
set_option linter.unusedSectionVars false
namespace Go.Proofs.YtcfabmmonoljeaaDoor
open Go Go.Proofs.YtcfabmmonoljeaaDoor.VI
set_option maxHeartbeats 16000000
set_option maxRecDepth 20000
/-! Numbers that are drawn from bytes -/
/-- This slice has these bytes. -/
def Bts (H : AHeap) (c : CV) (l : List Int) : Prop := (c = .slice none 0 (.exact 0) ∧ l = []) ∨ ∃ id t, c = .slice (some (id, 0)) l.length .any ∧ (0 < l.length → H.get id = some ⟨t, l.map (.int .u8), .ro⟩)
theorem Bts.app {H : AHeap} {c : CV} {l : List Int} (h : Bts H c l) (t : List (Option Blk)) : Bts (H ++ t) c l := by
  rcases h with h | ⟨id, e, h1, h2⟩
  · exact .inl h
  · exact .inr ⟨id, e, h1, fun h0 => by rw [get_appl (get_some_lt (h2 h0))]; exact h2 h0⟩
def nxB (l : List Int) (t : Int) : Int := if t < l.length then l.getD t.toNat 0 else 0
def nxS (l : List Int) (t sd : Int) : Int := IntKind.u64.wrap (IntKind.u64.wrap (IntKind.u64.wrap (sd * 6364136223846793005) + IntKind.u64.wrap (nxB l t)) + 1442695040888963407)
def nxV (l : List Int) (t sd : Int) : Int := if t + 1 ≤ l.length then nxB l t else IntKind.i64.wrap (vand .u64 (vshr .u64 (nxS l t sd) 40) 255)
theorem vand255 (a : Int) : 0 ≤ vand .u64 a 255 ∧ vand .u64 a 255 ≤ 255 := by
  unfold vand
  have h : ((BitVec.ofInt (IntKind.u64.bits) a &&& BitVec.ofInt (IntKind.u64.bits) 255).toNat) ≤ 255 := by
    rw [BitVec.toNat_and]; exact Nat.le_trans Nat.and_le_right (by decide)
  rw [IntWalk.u64_in _ (by omega)]; omega
theorem nxB_b {l : List Int} (hl : ∀ x ∈ l, 0 ≤ x ∧ x ≤ 255) (t : Int) : 0 ≤ nxB l t ∧ nxB l t ≤ 255 := by
  unfold nxB
  split
  · rw [List.getD_eq_getElem?_getD]
    cases h : l[t.toNat]? with
    | none => simp
    | some x => exact hl x (List.mem_of_getElem? h)
  · omega
theorem nxV_b {l : List Int} (hl : ∀ x ∈ l, 0 ≤ x ∧ x ≤ 255) (t sd : Int) : 0 ≤ nxV l t sd ∧ nxV l t sd ≤ 255 := by
  unfold nxV
  split
  · exact nxB_b hl t
  · have := vand255 (vshr .u64 (nxS l t sd) 40)
    rw [IntWalk.i64_in _ (by omega)]; exact this
theorem Bts.valid {H : AHeap} {c : CV} {l : List Int} (h : Bts H c l) : c.validIn H.length = true := by
  rcases h with ⟨rfl, rfl⟩ | ⟨id, u, rfl, hd⟩
  · unfold CV.validIn; rfl
  · unfold CV.validIn
    by_cases h0 : 0 < l.length
    · have := get_some_lt (hd h0); simp [this]
    · have : l.length = 0 := by omega
      simp [needsAddr, this]
theorem run66 {H : AHeap} {i : Nat} {e : TypeId} {cs : CV} {l : List Int} {t sd : Int} (hg : H.get i = some ⟨e, [cs, .int .i64 t, .int .u64 sd], .own⟩) (hc : Bts H cs l) (ht : 0 ≤ t ∧ t ≤ 1000000) (hl : ∀ x ∈ l, 0 ≤ x ∧ x ≤ 255) :
    ev kk 66 [.c (.ptr (some (i, 0)))] H = some (.c (.int .i64 (nxV l t sd)), H.set i (some ⟨e, [cs, .int .i64 (t + 1), .int .u64 (nxS l t sd)], .own⟩)) := by
  have hv := hc.valid
  have hi : i < H.length := get_some_lt hg
  have hb := nxB_b hl t
  obtain ⟨t0, t1⟩ := ht
  obtain ⟨b0, b1⟩ := hb
  rcases hc with ⟨rfl, rfl⟩ | ⟨id, u, rfl, hd⟩
  · rw [ev_call c66]; unfold k66; rw [evB_eq rfl]
    have h1 : ¬ t < 0 := by omega
    have h2 : ¬ t + 1 ≤ 0 := by omega
    have hB : nxB [] t = 0 := by unfold nxB; simp [h1]
    simp (maxSteps := 4000000) (disch := first | omega | (refine _root_.id ?_; simp only [pl_int, pl_bool, pl_str, pl_undef, pl_nil, pl_ptr, plA_c, plA_agg, plA_tup, plV_c, plV_agg, List.all_cons, List.all_nil, Bool.and_true, Bool.and_self, eq_self, vi_int, vi_bool, get_app, get_app0, List.getElem?_cons_zero, List.getElem?_cons_succ, Option.join_some, lst_get, getL, upd_at, upd_ne, Nat.reduceBEq]; done) | (refine _root_.id ?_; simp only [pl_int, pl_bool, pl_str, pl_undef, pl_nil, pl_ptr, plA_c, plA_agg, plA_tup, plV_c, plV_agg, List.all_cons, List.all_nil, Bool.and_true, Bool.and_self, eq_self, vi_int, vi_bool, get_app, get_app0, List.getElem?_cons_zero, List.getElem?_cons_succ, Option.join_some, lst_get, getL, upd_at, upd_ne, Nat.reduceBEq, *]; done)) only [evC_skip, evC_ret, evC_region, evC_seq, ev_t, ev_k, putS_some, upd_l, putS_none, ops_nil, evC_condC, cond_bool, ops_cons, next_some, nextD_some, then_norm, done_ret, putL, getL, Option.bind_some, Option.map_some, evalOp, AV.cells?, readCell, writeCells, List.getElem?_cons_zero, List.getElem?_cons_succ, List.length_cons, List.length_nil, List.cons_append, List.nil_append, Nat.zero_add, Nat.add_zero, Nat.reduceAdd, Nat.reduceLeDiff, List.drop_zero, List.drop_succ_cons, List.take_zero, List.take_succ_cons, List.drop_nil, ↓reduceIte, reduceCtorEq, binA, binC, intBin, or_false, or_true, Int.reduceLT, evalRs, evalR, AV.toV0?, mkRes, V0.toAV, decide_false, and_self, lst_get, Int.cast_ofNat_Int, eq_self, IntWalk.i64_in, List.all_cons, List.all_nil, Bool.and_true, Bool.false_eq_true, List.append_nil, setAt, CV.ok, evC_drawn, dr_nil, dr_cons, chk_nil, hg, get_set, set_set, h1, h2, nxV, nxS, hB, finish_set0, List.length_nil]
  · by_cases h1 : t < l.length
    · have hd := hd (by omega)
      have h2 : t + 1 ≤ l.length := by omega
      have hx : (l.map (CV.int .u8))[t.toNat]? = some (.int .u8 (nxB l t)) := by
        unfold nxB
        rw [if_pos h1, List.getElem?_map, List.getD_eq_getElem?_getD, List.getElem?_eq_getElem (by omega)]; rfl
      rw [ev_call c66]; unfold k66; rw [evB_eq rfl]
      simp (maxSteps := 4000000) (disch := first | omega | (refine _root_.id ?_; simp only [pl_int, pl_bool, pl_str, pl_undef, pl_nil, pl_ptr, plA_c, plA_agg, plA_tup, plV_c, plV_agg, List.all_cons, List.all_nil, Bool.and_true, Bool.and_self, eq_self, vi_int, vi_bool, get_app, get_app0, List.getElem?_cons_zero, List.getElem?_cons_succ, Option.join_some, lst_get, getL, upd_at, upd_ne, Nat.reduceBEq]; done) | (refine _root_.id ?_; simp only [pl_int, pl_bool, pl_str, pl_undef, pl_nil, pl_ptr, plA_c, plA_agg, plA_tup, plV_c, plV_agg, List.all_cons, List.all_nil, Bool.and_true, Bool.and_self, eq_self, vi_int, vi_bool, get_app, get_app0, List.getElem?_cons_zero, List.getElem?_cons_succ, Option.join_some, lst_get, getL, upd_at, upd_ne, Nat.reduceBEq, *]; done)) only [evC_ret, evC_region, evC_seq, ev_t, ev_k, putS_some, upd_l, putS_none, ops_nil, evC_condC, cond_bool, ops_cons, next_some, nextD_some, then_norm, then_ret, done_ret, putL, getL, Option.bind_some, Option.map_some, evalOp, AV.cells?, readCell, writeCells, List.getElem?_cons_zero, List.getElem?_cons_succ, List.length_cons, List.length_nil, List.cons_append, List.nil_append, Nat.zero_add, Nat.add_zero, Nat.reduceAdd, Nat.reduceLeDiff, List.drop_zero, List.drop_succ_cons, List.take_zero, List.take_succ_cons, List.drop_nil, ↓reduceIte, reduceCtorEq, binA, binC, intBin, or_false, or_true, evalRs, evalR, AV.toV0?, mkRes, V0.toAV, decide_true, and_self, lst_get, eq_self, IntWalk.i64_in, List.all_cons, List.all_nil, Bool.and_true, List.append_nil, setAt, CV.ok, evC_drawn, dr_nil, dr_cons, chk_nil, hg, hd, get_set, set_set, h1, h2, t0, hx, nxV, nxS, finish_set0, Nat.mul_one]
    · have h2 : ¬ t + 1 ≤ l.length := by omega
      have hB : nxB l t = 0 := by unfold nxB; simp [h1]
      rw [ev_call c66]; unfold k66; rw [evB_eq rfl]
      simp (maxSteps := 4000000) (disch := first | omega | (refine _root_.id ?_; simp only [pl_int, pl_bool, pl_str, pl_undef, pl_nil, pl_ptr, plA_c, plA_agg, plA_tup, plV_c, plV_agg, List.all_cons, List.all_nil, Bool.and_true, Bool.and_self, eq_self, vi_int, vi_bool, get_app, get_app0, List.getElem?_cons_zero, List.getElem?_cons_succ, Option.join_some, lst_get, getL, upd_at, upd_ne, Nat.reduceBEq]; done) | (refine _root_.id ?_; simp only [pl_int, pl_bool, pl_str, pl_undef, pl_nil, pl_ptr, plA_c, plA_agg, plA_tup, plV_c, plV_agg, List.all_cons, List.all_nil, Bool.and_true, Bool.and_self, eq_self, vi_int, vi_bool, get_app, get_app0, List.getElem?_cons_zero, List.getElem?_cons_succ, Option.join_some, lst_get, getL, upd_at, upd_ne, Nat.reduceBEq, *]; done)) only [evC_skip, evC_ret, evC_region, evC_seq, ev_t, ev_k, putS_some, upd_l, putS_none, ops_nil, evC_condC, cond_bool, ops_cons, next_some, nextD_some, then_norm, done_ret, putL, getL, Option.bind_some, Option.map_some, evalOp, AV.cells?, readCell, writeCells, List.getElem?_cons_zero, List.getElem?_cons_succ, List.length_cons, List.length_nil, List.cons_append, List.nil_append, Nat.zero_add, Nat.add_zero, Nat.reduceAdd, Nat.reduceLeDiff, List.drop_zero, List.drop_succ_cons, List.take_zero, List.take_succ_cons, List.drop_nil, ↓reduceIte, reduceCtorEq, binA, binC, intBin, or_false, or_true, Int.reduceLT, evalRs, evalR, AV.toV0?, mkRes, V0.toAV, decide_false, and_self, lst_get, eq_self, IntWalk.i64_in, List.all_cons, List.all_nil, Bool.and_true, Bool.false_eq_true, List.append_nil, setAt, CV.ok, evC_drawn, dr_nil, dr_cons, chk_nil, hg, get_set, set_set, h1, h2, nxV, nxS, hB, finish_set0]
theorem bts_inv {H : AHeap} {c : CV} {elems : List (List CV)} (h : Slc H c elems) (he : ∀ p ∈ elems, p.length = 1 ∧ ArgOk H (.int .u8) p) : ∃ l, Bts H c l ∧ ∀ x ∈ l, 0 ≤ x ∧ x ≤ 255 := by
  obtain ⟨xs, rfl, hr⟩ := elems_map (f := fun x => [CV.int .u8 x]) (ok := fun x => 0 ≤ x ∧ x ≤ 255) (fun p hp => by
    obtain ⟨n, rfl, hn⟩ := hp.int_inv
    refine ⟨n, rfl, ?_⟩
    simp [Lit.wf, IntKind.min, IntKind.max, IntKind.bits, IntKind.signed] at hn
    omega) (fun p hp => (he p hp).2)
  have hf : ∀ ys : List Int, (ys.map fun x => [CV.int .u8 x]).flatten = ys.map (CV.int .u8) := by
    intro ys
    induction ys with
    | nil => rfl
    | cons x xs ih => simp only [List.map_cons, List.flatten_cons, ih, List.cons_append, List.nil_append]
  refine ⟨xs, ?_, hr⟩
  rcases h with ⟨rfl, h⟩ | ⟨id, t, rfl, h⟩
  · have : xs = [] := by simpa using h
    subst this
    exact .inl ⟨rfl, rfl⟩
  · refine .inr ⟨id, t, by simp, fun h0 => ?_⟩
    rw [← hf]; exact h (by simpa using h0)
theorem Bts.shape {H : AHeap} {c : CV} {l : List Int} (h : Bts H c l) : ∃ p cap, c = .slice p l.length cap := by
  rcases h with ⟨rfl, rfl⟩ | ⟨id, t, rfl, _⟩
  · exact ⟨_, _, rfl⟩
  · exact ⟨_, _, rfl⟩

abbrev sb (cs : CV) (t sd : Int) : Option Blk := some ⟨109, [cs, .int .i64 t, .int .u64 sd], .own⟩
def pkV (l : List Int) (n t sd : Int) : Int := if n ≤ 1 then 0 else if 200 < n then (nxV l t sd * 256 + nxV l (t + 1) (nxS l t sd)) % n else nxV l t sd % n
def pkT (n t : Int) : Int := if n ≤ 1 then t else if 200 < n then t + 2 else t + 1
def pkS (l : List Int) (n t sd : Int) : Int := if n ≤ 1 then sd else if 200 < n then nxS l (t + 1) (nxS l t sd) else nxS l t sd
theorem pkV_b {l : List Int} (hl : ∀ x ∈ l, 0 ≤ x ∧ x ≤ 255) (n t sd : Int) : 0 ≤ pkV l n t sd ∧ (n ≤ 1 → pkV l n t sd = 0) ∧ (1 < n → pkV l n t sd < n) := by
  unfold pkV
  have h1 := nxV_b hl t sd
  have h2 := nxV_b hl (t + 1) (nxS l t sd)
  by_cases c : n ≤ 1
  · rw [if_pos c]; omega
  · rw [if_neg c]
    by_cases c2 : 200 < n
    · rw [if_pos c2]
      exact ⟨Int.emod_nonneg _ (by omega), fun h => by omega, fun _ => Int.emod_lt_of_pos _ (by omega)⟩
    · rw [if_neg c2]
      exact ⟨Int.emod_nonneg _ (by omega), fun h => by omega, fun _ => Int.emod_lt_of_pos _ (by omega)⟩
theorem pkT_b {n t : Int} : t ≤ pkT n t ∧ pkT n t ≤ t + 2 := by unfold pkT; split; omega; split <;> omega
theorem get_app1 {G : AHeap} {b : Option Blk} {T : List (Option Blk)} : AHeap.get (G ++ b :: T) G.length = b := by
  rw [get_app0]; cases b <;> rfl
theorem set_app1 {G : AHeap} {b c : Option Blk} {T : List (Option Blk)} : (G ++ b :: T).set G.length c = G ++ c :: T := by rw [set_app0]; rfl
theorem next {G : AHeap} {T : List (Option Blk)} {cs : CV} {l : List Int} {t sd : Int} (hc : Bts G cs l) (ht : 0 ≤ t ∧ t ≤ 1000000) (hl : ∀ x ∈ l, 0 ≤ x ∧ x ≤ 255) :
    ev kk 66 [.c (.ptr (some (G.length, 0)))] (G ++ sb cs t sd :: T) = some (.c (.int .i64 (nxV l t sd)), G ++ sb cs (t + 1) (nxS l t sd) :: T) := by
  rw [run66 (i := G.length) (e := 109) (cs := cs) (t := t) (sd := sd) get_app1 (hc.app _) ht hl, set_app1]
theorem pick {G : AHeap} {T : List (Option Blk)} {cs : CV} {l : List Int} {n t sd : Int} (hc : Bts G cs l) (ht : 0 ≤ t ∧ t ≤ 900000) (hn : n ≤ 4294967296) (hl : ∀ x ∈ l, 0 ≤ x ∧ x ≤ 255) :
    ev kk 36 [.c (.ptr (some (G.length, 0))), .c (.int .i64 n)] (G ++ sb cs t sd :: T) = some (.c (.int .i64 (pkV l n t sd)), G ++ sb cs (pkT n t) (pkS l n t sd) :: T) := by
  have hv : cs.validIn (G ++ sb cs t sd :: T).length = true := (hc.app _).valid
  have hs : ∀ t' sd', G ++ sb cs t' sd' :: T = (G ++ sb cs t sd :: T).set G.length (sb cs t' sd') := fun t' sd' => by rw [set_app1]
  have hi : G.length < (G ++ sb cs t sd :: T).length := by simp
  have hg : AHeap.get (G ++ sb cs t sd :: T) G.length = sb cs t sd := get_app1
  have h1 := fun T => next (G := G) (T := T) (t := t) (sd := sd) hc ⟨ht.1, by omega⟩ hl
  have h2 := fun T => next (G := G) (T := T) (t := t + 1) (sd := nxS l t sd) hc ⟨by omega, by omega⟩ hl
  have b1 := nxV_b hl t sd
  have b2 := nxV_b hl (t + 1) (nxS l t sd)
  have hfin : ∀ (v : AV) (t' sd' : Int), v.plain = true → finish true (G ++ sb cs t sd :: T) v (G ++ sb cs t' sd' :: T) = some (v, G ++ sb cs t' sd' :: T) := fun v t' sd' hp => by
    rw [hs t' sd', finish_set0 hp (by simp only [List.all_cons, List.all_nil, hv, vi_int, Bool.and_true])]
  unfold pkV pkT pkS
  by_cases c : n ≤ 1
  · rw [if_pos c, if_pos c, if_pos c]
    rw [ev_call c36]; unfold k36; rw [evB_eq rfl]
    simp (maxSteps := 4000000) (disch := first | omega | (refine _root_.id ?_; simp only [pl_int, pl_bool, pl_str, pl_undef, pl_nil, pl_ptr, plA_c, plA_agg, plA_tup, plV_c, plV_agg, List.all_cons, List.all_nil, Bool.and_true, Bool.and_self, eq_self, vi_int, vi_bool, get_app, get_app0, List.getElem?_cons_zero, List.getElem?_cons_succ, Option.join_some, lst_get, getL, upd_at, upd_ne, Nat.reduceBEq])) only [evC_ret, evC_region, evC_seq, ev_t, ev_k, putS_some, upd_l, ops_nil, evC_condC, cond_bool, ops_cons, next_some, then_norm, then_ret, done_ret, putL, getL, Option.bind_some, Option.map_some, evalOp, ↓reduceIte, reduceCtorEq, binA, binC, intBin, or_false, or_true, evalRs, evalR, AV.toV0?, mkRes, V0.toAV, decide_true, lst_get, eq_self, finish_id, c]
  · rw [if_neg c, if_neg c, if_neg c]
    have cz : ¬ n = 0 := by omega
    by_cases c2 : 200 < n
    · rw [if_pos c2, if_pos c2, if_pos c2]
      have hb := Int.emod_nonneg (nxV l t sd * 256 + nxV l (t + 1) (nxS l t sd)) cz
      have hb2 := Int.emod_lt_of_pos (nxV l t sd * 256 + nxV l (t + 1) (nxS l t sd)) (show 0 < n by omega)
      generalize nxV l t sd = v1 at *
      generalize nxV l (t + 1) (nxS l t sd) = v2 at *
      rw [show t + 2 = t + 1 + 1 from by omega]
      rw [ev_call c36]; unfold k36; rw [evB_eq rfl]
      simp (maxSteps := 4000000) (disch := first | omega | (refine _root_.id ?_; simp only [pl_int, pl_bool, pl_str, pl_undef, pl_nil, pl_ptr, plA_c, plA_agg, plA_tup, plV_c, plV_agg, List.all_cons, List.all_nil, Bool.and_true, Bool.and_self, eq_self, vi_int, vi_bool, get_app, get_app0, List.getElem?_cons_zero, List.getElem?_cons_succ, Option.join_some, lst_get, getL, upd_at, upd_ne, Nat.reduceBEq])) only [evC_skip, evC_ret, evC_region, evC_seq, ev_t, ev_k, putS_some, upd_l, ops_nil, evC_condC, cond_bool, ops_cons, next_some, then_norm, done_ret, putL, getL, Option.bind_some, Option.map_some, evalOp, ↓reduceIte, reduceCtorEq, binA, binC, intBin, or_false, or_true, evalRs, evalR, AV.toV0?, mkRes, V0.toAV, decide_true, decide_false, lst_get, eq_self, IntWalk.i64_in, Bool.false_eq_true, List.map_cons, List.map_nil, List.append_nil, tmod_pos, c, c2, cz, h1, h2, hfin]
    · rw [if_neg c2, if_neg c2, if_neg c2]
      have hb := Int.emod_nonneg (nxV l t sd) cz
      have hb2 := Int.emod_lt_of_pos (nxV l t sd) (show 0 < n by omega)
      generalize nxV l t sd = v1 at *
      rw [ev_call c36]; unfold k36; rw [evB_eq rfl]
      simp (maxSteps := 4000000) (disch := first | omega | (refine _root_.id ?_; simp only [pl_int, pl_bool, pl_str, pl_undef, pl_nil, pl_ptr, plA_c, plA_agg, plA_tup, plV_c, plV_agg, List.all_cons, List.all_nil, Bool.and_true, Bool.and_self, eq_self, vi_int, vi_bool, get_app, get_app0, List.getElem?_cons_zero, List.getElem?_cons_succ, Option.join_some, lst_get, getL, upd_at, upd_ne, Nat.reduceBEq])) only [evC_skip, evC_ret, evC_region, evC_seq, ev_t, ev_k, putS_some, upd_l, ops_nil, evC_condC, cond_bool, ops_cons, next_some, then_norm, done_ret, putL, getL, Option.bind_some, Option.map_some, evalOp, ↓reduceIte, reduceCtorEq, binA, binC, intBin, or_false, or_true, evalRs, evalR, AV.toV0?, mkRes, V0.toAV, decide_false, lst_get, eq_self, Bool.false_eq_true, List.map_cons, List.map_nil, List.append_nil, tmod_pos, c, c2, cz, h1, hfin]
theorem run32 {H : AHeap} {cs : CV} (hk : cs.ok = true) : ev kk 32 [.c cs] H = some (.c (.ptr (some (H.length, 0))), H ++ [sb cs 0 0]) := by
  rw [ev_call c32]; unfold k32; rw [evB_eq rfl]
  simp (maxSteps := 4000000) (disch := first | omega | (refine _root_.id ?_; simp only [pl_int, pl_bool, pl_str, pl_undef, pl_nil, pl_ptr, plA_c, plA_agg, plA_tup, plV_c, plV_agg, List.all_cons, List.all_nil, Bool.and_true, Bool.and_self, eq_self, vi_int, vi_bool, get_app, get_app0, List.getElem?_cons_zero, List.getElem?_cons_succ, Option.join_some, lst_get, getL, upd_at, upd_ne, Nat.reduceBEq]; done) | (refine _root_.id ?_; simp only [pl_int, pl_bool, pl_str, pl_undef, pl_nil, pl_ptr, plA_c, plA_agg, plA_tup, plV_c, plV_agg, List.all_cons, List.all_nil, Bool.and_true, Bool.and_self, eq_self, vi_int, vi_bool, get_app, get_app0, List.getElem?_cons_zero, List.getElem?_cons_succ, Option.join_some, lst_get, getL, upd_at, upd_ne, Nat.reduceBEq, *]; done)) only [evC_ret, evC_region, evC_seq, ev_t, ev_k, putS_some, upd_l, ops_nil, ops_cons, next_some, then_norm, done_ret, putL, getL, Option.bind_some, Option.map_some, evalOp, AV.cells?, List.length_cons, List.length_nil, List.cons_append, List.nil_append, Nat.zero_add, Nat.reduceAdd, Nat.reduceLeDiff, List.drop_zero, List.drop_succ_cons, List.take_zero, ↓reduceIte, evalRs, evalR, AV.toV0?, mkRes, V0.toAV, and_self, lst_get, eq_self, setAt, partsA, fillC, finish_no]
theorem Bts.okc {H : AHeap} {c : CV} {l : List Int} (h : Bts H c l) : c.ok = true := by
  rcases h with ⟨rfl, rfl⟩ | ⟨id, u, rfl, hd⟩ <;> rfl
end Go.Proofs.YtcfabmmonoljeaaDoor
