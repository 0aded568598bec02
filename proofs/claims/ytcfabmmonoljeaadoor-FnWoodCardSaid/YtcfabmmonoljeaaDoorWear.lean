/- What functions of the program answer: parts Wear Small. -/
import Derived.Test.YtcfabmmonoljeaaDoorLies
import Derived.Test.YtcfabmmonoljeaaDoorSrc
/- What functions of the program answer: part Wear. -/
set_option linter.unusedVariables false
set_option linter.unusedSimpArgs false
set_option linter.unusedSectionVars false
namespace Go.Proofs.YtcfabmmonoljeaaDoor
open Go Go.Proofs.YtcfabmmonoljeaaDoor.VI
set_option maxHeartbeats 16000000
set_option maxRecDepth 20000
abbrev gb37 (g : List Int) : Option Blk := some ⟨27, grow g, .own⟩
def nxt (s : Int) : Int := IntKind.u32.wrap (IntKind.u32.wrap (1664525 * s) + 1013904223)
theorem run54 (s : Int) (H : AHeap) : ev kk 54 [.c (.int .u32 s)] H = some (.c (.int .u32 (nxt s)), H) := by
  rw [ev_call c54]; unfold k54; rw [evB_eq rfl]
  simp only [evC_ret, evC_region, evC_seq, ev_t, ev_k, putS_some, upd_l, ops_nil, ops_cons, next_some, then_norm, done_ret, putL, getL, Option.bind_some, Option.map_some, evalOp, ↓reduceIte, reduceCtorEq, binA, binC, intBin, or_false, or_true, evalRs, evalR, AV.toV0?, mkRes, V0.toAV, lst_get, eq_self, finish_id, pl_int, plA_c, nxt]
theorem run53 (s : Int) (H : AHeap) : ev kk 53 [.c (.int .u32 s)] H = some (.c (.int .u32 (nxt s)), H) := by
  rw [ev_call c53]; unfold k53; rw [evB_eq rfl]
  simp only [evC_ret, evC_region, evC_seq, ev_t, ev_k, putS_some, upd_l, ops_nil, ops_cons, next_some, then_norm, done_ret, putL, getL, Option.bind_some, Option.map_some, evalOp, ↓reduceIte, reduceCtorEq, binA, binC, intBin, or_false, or_true, evalRs, evalR, AV.toV0?, mkRes, V0.toAV, lst_get, eq_self, finish_id, pl_int, plA_c, nxt]
theorem grow_set {g : List Int} {i : Nat} {v : Int} (hi : i < g.length) : List.take i (grow g) ++ CV.int .i8 v :: List.drop (i + 1) (grow g) = grow (g.set i v) := by
  induction g generalizing i with
  | nil => simp at hi
  | cons y ys ih =>
    cases i with
    | zero => simp [grow]
    | succ i =>
      have := ih (i := i) (by simpa using hi)
      simp only [grow, List.map_cons, List.take_succ_cons, List.drop_succ_cons, List.cons_append, List.set_cons_succ] at this ⊢
      rw [this]
/-- Sixteen bits of a seed. -/
def rr (s : Int) : Int := vshr .u32 s 16
theorem rr_b (s : Int) : 0 ≤ rr (nxt s) ∧ rr (nxt s) ≤ 65535 := by
  unfold rr vshr nxt
  generalize IntKind.u32.wrap (1664525 * s) + 1013904223 = x
  rw [IntKind.wrap_u32]
  have h1 : 0 ≤ x % 4294967296 ∧ x % 4294967296 < 4294967296 := by omega
  have e : (2 : Int) ^ (Nat.min (Int.toNat 16) IntKind.u32.bits) = 65536 := by decide
  rw [e, Int.fdiv_eq_ediv_of_nonneg _ (by omega)]
  omega
abbrev zg : List CV := [.int .i8 0, .int .i8 0, .int .i8 0, .int .i8 0, .int .i8 0, .int .i8 0, .int .i8 0, .int .i8 0, .int .i8 0, .int .i8 0, .int .i8 0, .int .i8 0, .int .i8 0, .int .i8 0, .int .i8 0, .int .i8 0]
theorem grow_plain {g : List Int} : (grow g).all CV.plain = true := by
  induction g with
  | nil => rfl
  | cons x xs ih => simp only [grow, List.map_cons, List.all_cons, pl_int, Bool.true_and] at ih ⊢; exact ih
end Go.Proofs.YtcfabmmonoljeaaDoor

/- What functions of the program answer: part Small. -/
set_option linter.unusedVariables false
set_option linter.unusedSimpArgs false
set_option linter.unusedSectionVars false
namespace Go.Proofs.YtcfabmmonoljeaaDoor
open Go Go.Proofs.YtcfabmmonoljeaaDoor.VI
set_option maxHeartbeats 16000000
set_option maxRecDepth 20000
/-! Small halves that are drawn -/
section
variable {G : AHeap} {T : List (Option Blk)} {cs : CV} {l : List Int}
theorem fin_sb (hc : Bts G cs l) {t sd t' sd' : Int} {v : AV} (hp : v.plain = true) : finish true (G ++ sb cs t sd :: T) v (G ++ sb cs t' sd' :: T) = some (v, G ++ sb cs t' sd' :: T) := by
  have hv : cs.validIn (G ++ sb cs t sd :: T).length = true := (hc.app _).valid
  have hs : G ++ sb cs t' sd' :: T = (G ++ sb cs t sd :: T).set G.length (sb cs t' sd') := by rw [set_app1]
  rw [hs, finish_set0 hp (by simp only [List.all_cons, List.all_nil, hv, vi_int, Bool.and_true])]
theorem run60 (hc : Bts G cs l) (hl : ∀ x ∈ l, 0 ≤ x ∧ x ≤ 255) {n t sd : Int} (ht : 0 ≤ t ∧ t ≤ 900000) (hn : n ≤ 4294967296) : ev kk 60 [.c (.ptr (some (G.length, 0))), .c (.int .i64 n)] (G ++ sb cs t sd :: T) = some (.c (.bool (pkV l n t sd == 0)), G ++ sb cs (pkT n t) (pkS l n t sd) :: T) := by
  have h := pick (T := T) (sd := sd) hc ht hn hl
  have hf := fun (v : AV) (hp : v.plain = true) => fin_sb (T := T) (t := t) (sd := sd) (t' := pkT n t) (sd' := pkS l n t sd) hc hp
  rw [ev_call c60]; unfold k60; rw [evB_eq rfl]
  simp (maxSteps := 4000000) (disch := first | omega | (refine _root_.id ?_; simp only [pl_int, pl_bool, pl_str, pl_undef, pl_nil, pl_ptr, plA_c, plA_agg, plA_tup, plV_c, plV_agg, List.all_cons, List.all_nil, Bool.and_true, Bool.and_self, eq_self, vi_int, vi_bool, get_app, get_app0, List.getElem?_cons_zero, List.getElem?_cons_succ, Option.join_some, lst_get, getL, upd_at, upd_ne, Nat.reduceBEq])) only [evC_ret, evC_region, evC_seq, ev_t, ev_k, putS_some, upd_l, ops_nil, ops_cons, next_some, then_norm, done_ret, putL, getL, Option.bind_some, Option.map_some, evalOp, ↓reduceIte, reduceCtorEq, binA, binC, intBin, or_false, or_true, evalRs, evalR, AV.toV0?, mkRes, V0.toAV, lst_get, eq_self, List.map_cons, List.map_nil, List.append_nil, h, hf]
end
/-! The grain from a seed -/
theorem nxt_b (s : Int) : 0 ≤ nxt s ∧ nxt s < 4294967296 := by
  unfold nxt; rw [IntKind.wrap_u32]; omega
theorem loop61 {H : AHeap} {z : Option Blk} : ∀ (n i : Nat) (_ : i + n = 16) (g : List Int) (_ : g.length = 16) (_ : g.all gq = true) (s : Int) (σ : Sl) (_ : σ 0 = .c (.int .u32 s)) (_ : σ 4 = .c (.ptr (some (H.length + 1, 0)))) (_ : σ 5 = .c (.int .i64 i)),
    Post (evC (ev kk) (.loop l61_0) (σ, H ++ [z, gb37 g])) fun ex σ' H' => ex = .exit 0 ∧ (∃ g' s', g'.length = 16 ∧ g'.all gq = true ∧ H' = H ++ [z, gb37 g'] ∧ σ' 0 = .c (.int .u32 s')) ∧ σ' 2 = σ 2 ∧ σ' 4 = .c (.ptr (some (H.length + 1, 0)))
  | 0, i, hi, g, hg, hq, s, σ, h0, h4, h5 => by
    have hge : ¬ ((i : Int) < 16) := by omega
    rw [evC_loop]
    simp only [evC_exit, evC_region, evC_seq, ev_t, ev_k, putS_some, ops_nil, evC_condC, cond_bool, ops_cons, next_some, then_norm, then_exit, Option.map_some, evalOp, ↓reduceIte, reduceCtorEq, binA, binC, intBin, or_false, or_true, and_true, true_and, decide_false, and_self, eq_self, Bool.false_eq_true, Nat.reduceBEq, post_some, upd_at, upd_ne, l61_0, h0, h4, h5, hge]
    exact ⟨g, s, hg, hq, rfl, rfl⟩
  | n + 1, i, hi, g, hg, hq, s, σ, h0, h4, h5 => by
    have hlt : (i : Int) < 16 := by omega
    have hil : i < g.length := by omega
    have hnx : IntKind.u32.wrap (IntKind.u32.wrap (1664525 * s) + 1013904223) = nxt s := rfl
    have hb := nxt_b s
    have hle : i + 1 ≤ (grow g).length := by rw [List.length_map]; omega
    have step := fun v hv => loop61 (H := H) (z := z) n (i + 1) (by omega) (g.set i v) (by rw [List.length_set]; exact hg) hv (nxt s)
    have hw : IntKind.i8.wrap (nxt s / 65536 % 7) = nxt s / 65536 % 7 := IntWalk.i8_in _ (by omega)
    have hset := grow_set (v := nxt s / 65536 % 7 - 3) hil
    have hv : (g.set i (nxt s / 65536 % 7 - 3)).all gq = true := by
      rw [List.all_eq_true] at hq ⊢
      intro x hx
      rcases List.mem_or_eq_of_mem_set hx with hx | rfl
      · exact hq x hx
      · unfold gq; simp; omega
    rw [evC_loop]
    generalize nxt s = ns at *
    simp (maxSteps := 4000000) (disch := first | omega | (refine _root_.id ?_; simp only [pl_int, pl_bool, pl_str, pl_undef, pl_nil, pl_ptr, plA_c, plA_agg, plA_tup, plV_c, plV_agg, List.all_cons, List.all_nil, Bool.and_true, Bool.and_self, eq_self, vi_int, vi_bool, get_app, get_app0, List.getElem?_cons_zero, List.getElem?_cons_succ, Option.join_some, lst_get, getL, upd_at, upd_ne, Nat.reduceBEq])) only [evC_skip, evC_region, evC_seq, evC_block, ev_t, ev_k, putS_some, putS_none, ops_nil, evC_condC, cond_bool, ops_cons, next_some, then_norm, out_norm, Option.map_some, evalOp, AV.cells?, writeCells, get_app, set_app, List.getElem?_cons_zero, List.getElem?_cons_succ, Option.join_some, List.length_cons, List.length_nil, List.append_assoc, List.cons_append, List.nil_append, Nat.zero_add, ↓reduceIte, reduceCtorEq, binA, binC, intBin, or_false, or_true, decide_true, and_self, Int.cast_ofNat_Int, eq_self, IntWalk.i64_in, IntWalk.i8_in, List.all_cons, List.all_nil, Bool.and_true, setAt, CV.ok, List.set_cons_zero, List.set_cons_succ, Int.reduceEq, tdiv_pos, tmod_pos, upd_at, upd_ne, cast_nonneg, cast_toNat, Nat.mul_one, l61_0, h0, h4, h5, hlt, hnx, hw, hset, hle, IntWalk.u32_in]
    exact Post.mono (step _ hv _ (by simp only [upd_at, upd_ne, Nat.reduceBEq]) (by simp only [upd_ne, Nat.reduceBEq, h4]) (by simp only [upd_at]; rfl)) (fun ex σ' H' q => ⟨q.1, q.2.1, q.2.2.1.trans (by simp only [upd_ne, Nat.reduceBEq]), q.2.2.2⟩)
theorem run61 (s : Int) (H : AHeap) : ∃ g s', g.length = 16 ∧ g.all gq = true ∧ ev kk 61 [.c (.int .u32 s)] H = some (.tup [.agg (grow g), .c (.int .u32 s')], H) := by
  obtain ⟨ex, σ', H', e, rfl, ⟨g, s', hg, hq, rfl, h0⟩, h2, h4⟩ := loop61 (H := H) (z := some ⟨27, zg, .own⟩) 16 0 rfl (List.replicate 16 0) rfl rfl s (lst [.c (.int .u32 s), .c .undef, .c (.ptr (some (H.length, 0))), .c (.int .u32 0), .c (.ptr (some (H.length + 1, 0))), .c (.int .i64 0), .agg zg]) rfl rfl rfl
  have h2 : σ' 2 = .c (.ptr (some (H.length, 0))) := h2
  have hgl : (grow g).length = 16 := by rw [List.length_map]; exact hg
  have hgt : List.take 16 (grow g) = grow g := List.take_of_length_le (by omega)
  have hz : grow (List.replicate 16 0) = zg := rfl
  rw [show gb37 (List.replicate 16 0) = some ⟨27, zg, .own⟩ from rfl] at e
  refine ⟨g, s', hg, hq, ?_⟩
  have fp : ∀ T, finish true H (.tup [.agg (grow g), .c (.int .u32 s')]) (H ++ T) = some (.tup [.agg (grow g), .c (.int .u32 s')], H) := fun T => finish_app (by simp only [plA_tup, List.all_cons, List.all_nil, plV_c, plV_agg, pl_int, grow_plain, Bool.and_self])
  rw [ev_call c61]; unfold k61; rw [evB_eq rfl]
  simp (maxSteps := 4000000) (disch := first | omega | (refine _root_.id ?_; simp only [pl_int, pl_bool, pl_str, pl_undef, pl_nil, pl_ptr, plA_c, plA_agg, plA_tup, plV_c, plV_agg, List.all_cons, List.all_nil, Bool.and_true, Bool.and_self, eq_self, vi_int, vi_bool, get_app, get_app0, List.getElem?_cons_zero, List.getElem?_cons_succ, Option.join_some, lst_get, getL, upd_at, upd_ne, Nat.reduceBEq])) only [evC_ret, evC_region, evC_seq, evC_block, ev_t, ev_k, putS_some, upd_l, putS_none, ops_nil, ops_cons, next_some, then_norm, out_exit, done_ret, putL, getL, Option.bind_some, Option.map_some, evalOp, AV.cells?, readCells, writeCells, get_app, get_app0, set_app, set_app0, len_app, List.getElem?_cons_zero, List.getElem?_cons_succ, Option.join_some, List.length_cons, List.length_nil, List.append_assoc, List.cons_append, List.nil_append, Nat.zero_add, Nat.reduceAdd, List.drop_zero, List.drop_succ_cons, List.take_zero, List.drop_nil, ↓reduceIte, evalRs, evalR, AV.toV0?, mkRes, V0.toAV, and_self, lst_get, eq_self, List.all_cons, List.all_nil, Bool.and_true, List.append_nil, setAt, CV.ok, List.set_cons_zero, List.set_cons_succ, partsA, fillC, upd_at, upd_ne, e, h0, h2, h4, hgl, hgt, Nat.le_refl, grow_ok, fp]
/-! Notches in a row -/
theorem ntsG_snoc {x : Nt} : ∀ {xs : List Nt} {pv : Option Nt}, ntsG pv xs = true → okN x = true → (∀ y, (xs.getLast? = some y ∨ (xs = [] ∧ pv = some y)) → nxtOk (some y) x = true) → ntsG pv (xs ++ [x]) = true
  | [], pv, _, ho, hn => by
    show (okN x && nxtOk pv x && ntsG (some x) []) = true
    rw [ho]
    cases pv with
    | none => rfl
    | some y => rw [hn y (.inr ⟨rfl, rfl⟩)]; rfl
  | z :: zs, pv, h, ho, hn => by
    have h : (okN z && nxtOk pv z && ntsG (some z) zs) = true := h
    show (okN z && nxtOk pv z && ntsG (some z) (zs ++ [x])) = true
    rw [Bool.and_eq_true] at h ⊢
    refine ⟨h.1, ntsG_snoc h.2 ho (fun y hy => hn y ?_)⟩
    rcases hy with hy | ⟨rfl, hy⟩
    · exact .inl (by rw [List.getLast?_cons]; simp [hy])
    · injection hy with hy; subst hy; exact .inl rfl
/-- What is drawn so far. -/
structure Row (xs : List Nt) (pos kind : Int) : Prop where
  ok : ntsG none xs = true
  last : ∀ y, xs.getLast? = some y → endN y < pos ∧ kind ≤ y.k
  rng : ∀ x ∈ xs, rngN x
theorem Row.step {xs : List Nt} {pos kind pos' kind' : Int} (h : Row xs pos kind) (hp : 0 ≤ pos ∧ pos ≤ 150) (hk : 0 ≤ kind ∧ kind ≤ 5) (h1 : pos + wdt kind < pos') (h2 : kind' ≤ kind) : Row (xs ++ [⟨kind, pos⟩]) pos' kind' := by
  have hw := wdt_b kind
  refine ⟨ntsG_snoc h.ok ?_ (fun y hy => ?_), fun y hy => ?_, fun x hx => ?_⟩
  · unfold okN endN; simp; omega
  · rcases hy with hy | ⟨_, hy⟩
    · have := h.last y hy
      unfold nxtOk; simp; exact this
    · cases hy
  · rw [List.getLast?_append] at hy
    simp at hy; subst hy
    exact ⟨h1, h2⟩
  · rcases List.mem_append.1 hx with hx | hx
    · exact h.rng x hx
    · simp at hx; subst hx; unfold rngN; dsimp only; omega
end Go.Proofs.YtcfabmmonoljeaaDoor
