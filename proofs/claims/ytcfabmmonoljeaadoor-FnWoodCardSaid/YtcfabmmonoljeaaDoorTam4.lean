/- What functions of the program answer: parts Tam4 TmS LawT TmL. -/
import Derived.Test.YtcfabmmonoljeaaDoorTam2
import Derived.Test.YtcfabmmonoljeaaDoorWays3
import Derived.Test.YtcfabmmonoljeaaDoorTam3
/- What functions of the program answer: part Tam4. -/
set_option linter.unusedVariables false
set_option linter.unusedSimpArgs false
set_option linter.unusedSectionVars false
namespace Go.Proofs.YtcfabmmonoljeaaDoor
open Go Go.Proofs.YtcfabmmonoljeaaDoor.VI
set_option maxHeartbeats 16000000
set_option maxRecDepth 20000
/-- A half in some block. -/
def HfO (H : AHeap) (b off : Nat) (h : Hf) : Prop := ∃ bl : Blk, H.get b = some bl ∧ bl.cells[off]? = some (.bool h.st) ∧ bl.cells[off + 1]? = some (.slice h.p h.xs.length h.cap) ∧ (bl.cells.drop (off + 2)).take 16 = grow h.g ∧ off + 2 + 16 ≤ bl.cells.length ∧ off + 18 ≤ bl.cells.length ∧ (bl.cells.drop off).take 18 = hfr h
theorem HfO.pre {H J : AHeap} {b off : Nat} {h : Hf} (q : HfO H b off h) (k : Pre H J) : HfO J b off h := by
  obtain ⟨bl, h1, h2⟩ := q; exact ⟨bl, k.get h1, h2⟩
theorem HfO.app {H : AHeap} {b off : Nat} {h : Hf} (q : HfO H b off h) (T : List (Option Blk)) : HfO (H ++ T) b off h := q.pre pre_app
end Go.Proofs.YtcfabmmonoljeaaDoor

/- What functions of the program answer: part TmS. -/
set_option linter.unusedVariables false
set_option linter.unusedSimpArgs false
set_option linter.unusedSectionVars false
namespace Go.Proofs.YtcfabmmonoljeaaDoor
open Go Go.Proofs.YtcfabmmonoljeaaDoor.VI
set_option maxHeartbeats 16000000
set_option maxRecDepth 20000
/-! Slices of tampers -/
def Tts (H : AHeap) (p : Option (Nat × Nat)) (ts : List Tm) : Prop := 0 < ts.length → ∃ id t m, p = some (id, 0) ∧ H.get id = some ⟨t, trows ts, m⟩
theorem Tts.pre {H J : AHeap} {p : Option (Nat × Nat)} {ts : List Tm} (h : Tts H p ts) (k : Pre H J) : Tts J p ts := fun h0 => by
  obtain ⟨id, t, m, h1, h2⟩ := h h0; exact ⟨id, t, m, h1, k.get h2⟩
theorem trc {ts : List Tm} {i : Nat} (hi : i < ts.length) : (((trows ts).drop (i * 4)).take 4) = trow (ts[i]'hi) := rows_cut trow_len hi
/-! Marks in them -/
def mkT1 (k : Int) : Tm := ⟨IntKind.i8.wrap k, IntKind.i8.wrap (k + 1), IntKind.i16.wrap (k + 1 + 1), IntKind.i16.wrap (k + 1 + 1 + 1)⟩
def mkT (k : Int) (n : Nat) : List Tm := (List.range n).map fun i : Nat => mkT1 (k + 4 * (i : Int))
section
variable {ts : List Tm} {i : Nat} (hi : i < ts.length)
include hi
end
end Go.Proofs.YtcfabmmonoljeaaDoor

/- What functions of the program answer: part LawT. -/
set_option linter.unusedVariables false
set_option linter.unusedSimpArgs false
set_option linter.unusedSectionVars false
namespace Go.Proofs.YtcfabmmonoljeaaDoor
open Go Go.Proofs.YtcfabmmonoljeaaDoor.VI
set_option maxHeartbeats 16000000
set_option maxRecDepth 20000
/-- What may be read still may be, where only the marked row has turned. -/
theorem HfAt.keep {J K : AHeap} {y : Hf} {p : Option (Nat × Nat)} {n : Nat} (h : HfAt J y) (k : ∀ i b, J.get i = some b → (∀ o, 0 < n → p ≠ some (i, o)) → K.get i = some b) (hne : ∀ i o o', 0 < y.xs.length → 0 < n → y.p = some (i, o) → p ≠ some (i, o')) : HfAt K y :=
  ⟨h.few, h.rng, fun h0 => by
    obtain ⟨id, t, m, h1, h2⟩ := h.at_ h0
    exact ⟨id, t, m, h1, k id _ h2 (fun o hn => hne id 0 o h0 hn h1)⟩⟩
end Go.Proofs.YtcfabmmonoljeaaDoor

/- What functions of the program answer: part TmL. -/
set_option linter.unusedVariables false
set_option linter.unusedSimpArgs false
set_option linter.unusedSectionVars false
namespace Go.Proofs.YtcfabmmonoljeaaDoor
open Go Go.Proofs.YtcfabmmonoljeaaDoor.VI
set_option maxHeartbeats 16000000
set_option maxRecDepth 20000
/-! Slices of tampers, as values -/
def TsAt (K : AHeap) (c : CV) (ts : List Tm) : Prop := ∃ p cap, c = .slice p ts.length cap ∧ Tts K p ts
def TsNw (G J : AHeap) (c : CV) (ts : List Tm) : Prop := ∃ p cap, c = .slice p ts.length cap ∧ (0 < ts.length → ∃ id m, p = some (id, 0) ∧ G.length ≤ id ∧ J.get id = some ⟨37, trows ts, m⟩ ∧ (m = .own ∨ m = .opn))
def TsMk (K : AHeap) (c : CV) (n : Nat) (k : Int) : Prop := ∃ p cap, c = .slice p n cap ∧ (0 < n → ∃ id m, p = some (id, 0) ∧ K.get id = some ⟨37, trows (mkT k n), m⟩)
section
variable {G H J K : AHeap} {c c' : CV} {ts : List Tm} {n : Nat} {k : Int}
theorem TsNw.at_ (h : TsNw G J c ts) : TsAt J c ts := by
  obtain ⟨p, cap, h1, h2⟩ := h
  exact ⟨p, cap, h1, fun h0 => by obtain ⟨id, m, h3, _, h4, _⟩ := h2 h0; exact ⟨id, 37, m, h3, h4⟩⟩
theorem TsAt.pre (h : TsAt J c ts) (q : Pre J K) : TsAt K c ts := by
  obtain ⟨p, cap, h1, h2⟩ := h
  exact ⟨p, cap, h1, h2.pre q⟩
theorem TsMk.pre (h : TsMk J c n k) (q : Pre J K) : TsMk K c n k := by
  obtain ⟨p, cap, h1, h2⟩ := h
  exact ⟨p, cap, h1, fun h0 => by obtain ⟨id, m, h3, h4⟩ := h2 h0; exact ⟨id, m, h3, q.get h4⟩⟩
theorem TsNw.of (h : ApS 37 4 G J ts.length (trows ts) (.c c)) : TsNw G J c ts := by
  rcases h with ⟨h1, h2, q, h3⟩ | ⟨h1, h2, id, h3, h4, h5⟩
  · injection h3 with h3
    exact ⟨q, .exact 0, by rw [h3, h1], fun h => by omega⟩
  · injection h3 with h3
    exact ⟨_, _, h3, fun _ => ⟨id, .opn, rfl, h4, h5, .inr rfl⟩⟩
theorem TsNw.nil {p : Option (Nat × Nat)} {cap : Cap} : TsNw G J (.slice p 0 cap) [] := ⟨p, cap, rfl, fun h => by simp at h⟩
theorem TsNw.base (h : TsNw H J c ts) (q : Pre G H) : TsNw G J c ts := by
  obtain ⟨p, cap, h1, h2⟩ := h
  exact ⟨p, cap, h1, fun h0 => by obtain ⟨id, m, h3, h4, h5⟩ := h2 h0; exact ⟨id, m, h3, Nat.le_trans q.len h4, h5⟩⟩
theorem TsNw.turn (h : TsNw G J c ts) (q : ∀ i b, J.get i = some b → G.length ≤ i → K.get i = some b) : TsNw G K c ts := by
  obtain ⟨p, cap, h1, h2⟩ := h
  exact ⟨p, cap, h1, fun h0 => by obtain ⟨id, m, h3, h4, h5, h6⟩ := h2 h0; exact ⟨id, m, h3, h4, q id _ h5 h4, h6⟩⟩
theorem TsNw.pre (h : TsNw G J c ts) (q : Pre J K) : TsNw G K c ts := h.turn fun i b hi _ => q.get hi
end
/-! The ways, with a code -/
def twR (p : Pr) : List Tm × Int := if okP p = true then (waysP p, 0) else ([], 1)
theorem ways_few {p : Pr} (h : p.xs.length ≤ 60) : (waysP p).length ≤ 366 := by
  have h1 := wiF_len (p := p) (n := p.xs.length) (i := 0)
  have h2 := adF_len (p := p) (n := 6) (k := 0)
  unfold waysP; rw [List.length_append]; omega
theorem run9 {h : Hf} {H : AHeap} (hh : HfAt H h) : ∃ c J, ev kk 9 [.agg (hfr h)] H = some (.tup [.c c, .c (.int .i64 (twR h.pr).2)], J) ∧ Pre H J ∧ TsNw H J c (twR h.pr).1 := by
  have hA := hh.app [hfb h]
  have b0 : AHeap.get (H ++ [hfb h]) H.length = hfb h := by rw [get_app0]; rfl
  have r57 := v66 hA b0
  unfold twR
  rw [show okP h.pr = okF h from rfl]
  rw [ev_call c9]; unfold k9; rw [evB_eq rfl]
  cases ok : okF h
  · rw [ok] at r57
    simp (maxSteps := 4000000) (disch := first | omega | (refine _root_.id ?_; simp only [pl_int, pl_bool, pl_str, pl_undef, pl_nil, pl_ptr, plA_c, plA_agg, plA_tup, plV_c, plV_agg, List.all_cons, List.all_nil, Bool.and_true, Bool.and_self, eq_self, vi_int, vi_bool, get_app, get_app0, List.getElem?_cons_zero, List.getElem?_cons_succ, Option.join_some, lst_get, getL, upd_at, upd_ne, Nat.reduceBEq])) only [evC_ret, evC_region, evC_seq, ev_t, ev_k, putS_some, upd_l, ops_nil, evC_condC, cond_bool, ops_cons, next_some, then_norm, then_ret, done_ret, putL, getL, Option.bind_some, Option.map_some, evalOp, AV.cells?, len_app, List.length_cons, List.length_nil, List.append_assoc, List.cons_append, List.nil_append, Nat.zero_add, ↓reduceIte, evalRs, evalR, AV.toV0?, mkRes, V0.toAV, lst_get, eq_self, Bool.not_false, Bool.false_eq_true, List.map_cons, List.map_nil, List.append_nil, unA, partsA, fillC, finish_no, r57]
    exact ⟨_, _, rfl, pre_app, TsNw.nil⟩
  · rw [ok] at r57
    obtain ⟨c, J, e1, p1, o1⟩ := run35 hA ok b0
    rw [if_pos rfl]
    simp (maxSteps := 4000000) (disch := first | omega | (refine _root_.id ?_; simp only [pl_int, pl_bool, pl_str, pl_undef, pl_nil, pl_ptr, plA_c, plA_agg, plA_tup, plV_c, plV_agg, List.all_cons, List.all_nil, Bool.and_true, Bool.and_self, eq_self, vi_int, vi_bool, get_app, get_app0, List.getElem?_cons_zero, List.getElem?_cons_succ, Option.join_some, lst_get, getL, upd_at, upd_ne, Nat.reduceBEq])) only [evC_skip, evC_ret, evC_region, evC_seq, ev_t, ev_k, putS_some, upd_l, ops_nil, evC_condC, cond_bool, ops_cons, next_some, then_norm, done_ret, putL, getL, Option.bind_some, Option.map_some, evalOp, AV.cells?, ↓reduceIte, evalRs, evalR, AV.toV0?, mkRes, V0.toAV, lst_get, Bool.not_true, Bool.false_eq_true, List.map_cons, List.map_nil, List.append_nil, unA, finish_no, r57, e1]
    exact ⟨_, _, rfl, pre_app.trans p1, (TsNw.of o1).base pre_app⟩
theorem run8 {h : Hf} {H : AHeap} (hh : HfAt H h) : ∃ c J, ev kk 8 [.agg (hfr h)] H = some (.tup [.c c, .c (.int .i64 (twR h.pr).2)], J) ∧ Pre H J ∧ TsNw H J c (twR h.pr).1 := by
  have hA := hh.app [hfb h]
  have r59 := v70 hA
  have hl := hfr_len h
  have htk := hfr_t (h := h)
  unfold twR
  rw [show okP h.pr = okF h from rfl]
  rw [ev_call c8]; unfold k8; rw [evB_eq rfl]
  obtain ⟨R, hR⟩ : ∃ R, R = hfr h := ⟨_, rfl⟩
  cases ok : okF h
  · rw [ok] at r59
    simp only [hfb, ← hR] at r59 hl htk ⊢
    simp (maxSteps := 4000000) (disch := first | omega | (refine _root_.id ?_; simp only [pl_int, pl_bool, pl_str, pl_undef, pl_nil, pl_ptr, plA_c, plA_agg, plA_tup, plV_c, plV_agg, List.all_cons, List.all_nil, Bool.and_true, Bool.and_self, eq_self, vi_int, vi_bool, get_app, get_app0, List.getElem?_cons_zero, List.getElem?_cons_succ, Option.join_some, lst_get, getL, upd_at, upd_ne, Nat.reduceBEq])) only [evC_ret, evC_region, evC_seq, ev_t, ev_k, putS_some, upd_l, ops_nil, evC_condC, cond_bool, ops_cons, next_some, then_norm, then_ret, done_ret, putL, getL, Option.bind_some, Option.map_some, evalOp, AV.cells?, readCells, get_app0, List.getElem?_cons_zero, Option.join_some, Nat.zero_add, List.drop_zero, ↓reduceIte, evalRs, evalR, AV.toV0?, mkRes, V0.toAV, lst_get, eq_self, Bool.not_false, Bool.false_eq_true, List.map_cons, List.map_nil, List.append_nil, unA, finish_no, hl, htk, Nat.le_refl, r59]
    exact ⟨_, _, rfl, pre_app, TsNw.nil⟩
  · rw [ok] at r59
    obtain ⟨c, J, e1, p1, o1⟩ := run33 hA ok
    rw [if_pos rfl]
    have o2 := TsNw.of o1
    simp only [hfb, ← hR] at r59 e1 p1 o2 hl htk ⊢
    simp (maxSteps := 4000000) (disch := first | omega | (refine _root_.id ?_; simp only [pl_int, pl_bool, pl_str, pl_undef, pl_nil, pl_ptr, plA_c, plA_agg, plA_tup, plV_c, plV_agg, List.all_cons, List.all_nil, Bool.and_true, Bool.and_self, eq_self, vi_int, vi_bool, get_app, get_app0, List.getElem?_cons_zero, List.getElem?_cons_succ, Option.join_some, lst_get, getL, upd_at, upd_ne, Nat.reduceBEq])) only [evC_skip, evC_ret, evC_region, evC_seq, ev_t, ev_k, putS_some, upd_l, ops_nil, evC_condC, cond_bool, ops_cons, next_some, then_norm, done_ret, putL, getL, Option.bind_some, Option.map_some, evalOp, AV.cells?, readCells, get_app0, List.getElem?_cons_zero, Option.join_some, Nat.zero_add, List.drop_zero, ↓reduceIte, evalRs, evalR, AV.toV0?, mkRes, V0.toAV, lst_get, Bool.not_true, Bool.false_eq_true, List.map_cons, List.map_nil, List.append_nil, unA, finish_no, hl, htk, Nat.le_refl, r59, e1]
    exact ⟨_, _, rfl, pre_app.trans p1, o2.base pre_app⟩
end Go.Proofs.YtcfabmmonoljeaaDoor
