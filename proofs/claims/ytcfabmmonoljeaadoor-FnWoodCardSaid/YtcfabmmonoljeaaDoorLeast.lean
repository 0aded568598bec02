/- What functions of the program answer: parts Least Least2 Least3. -/
import Derived.Test.YtcfabmmonoljeaaDoorWays3
import Derived.Test.YtcfabmmonoljeaaDoorTam4
import Derived.Test.YtcfabmmonoljeaaDoorTam3
import Derived.Test.YtcfabmmonoljeaaDoorChance
/- What functions of the program answer: part Least. -/
set_option linter.unusedVariables false
set_option linter.unusedSimpArgs false
set_option linter.unusedSectionVars false
namespace Go.Proofs.YtcfabmmonoljeaaDoor
open Go Go.Proofs.YtcfabmmonoljeaaDoor.VI
set_option maxHeartbeats 16000000
set_option maxRecDepth 20000
/-! Fewest tampers to an amount: the plain part -/
theorem wth_lt {a b : Int} (h0 : 0 ≤ a) (h : a < b) (h5 : b ≤ 5) : wth a < wth b := by
  unfold wth
  repeat' split
  all_goals omega
theorem sumN_app {xs ys : List Nt} : sumN (xs ++ ys) = sumN xs + sumN ys := by
  induction xs with
  | nil => simp [sumN]
  | cons x xs ih => simp only [List.cons_append, sumN, ih]; omega
theorem sumN_cut {xs : List Nt} {k a : Int} : sumN xs < sumN (cutP xs k a) := by
  unfold cutP
  have h1 : sumN xs = sumN (xs.take (cutI a xs)) + sumN (xs.drop (cutI a xs)) := by rw [← sumN_app, List.take_append_drop]
  have h2 := wth_b k
  rw [sumN_app]
  simp only [sumN]
  omega
theorem sumN_set {xs : List Nt} : ∀ {i : Nat} (hi : i < xs.length) {x : Nt}, sumN (xs.set i x) = sumN xs - wth (xs[i]'hi).k + wth x.k := by
  induction xs with
  | nil => intro i hi; simp at hi
  | cons y ys ih =>
    intro i hi x
    match i with
    | 0 => simp only [List.set_cons_zero, sumN, List.getElem_cons_zero]; omega
    | i + 1 =>
      simp only [List.set_cons_succ, sumN, List.getElem_cons_succ]
      rw [ih (by simpa using hi)]; omega
theorem tm_more {p : Pr} (hp : okP p = true) {t : Tm} (h : (tmR p t).2 = 0) : sumN p.xs < sumN (tmR p t).1.xs := by
  unfold tmR at h ⊢
  by_cases k1 : t.k = 1
  · rw [if_pos k1] at h ⊢
    by_cases i0 : t.ix = 0
    · rw [if_pos i0] at h ⊢
      unfold cnR at h ⊢
      by_cases c1 : (0 ≤ t.to ∧ t.to ≤ 5) ∧ 0 ≤ t.at_ ∧ t.at_ ≤ 200
      · rw [if_pos c1] at h ⊢
        by_cases c2 : okH (cutP p.xs t.to t.at_) p.g = true
        · rw [if_pos c2]; exact sumN_cut
        · rw [if_neg c2] at h; exact absurd h (by decide)
      · rw [if_neg c1] at h; exact absurd h (by decide)
    · rw [if_neg i0] at h; exact absurd h (by decide)
  · rw [if_neg k1] at h ⊢
    by_cases k2 : t.k = 2
    · rw [if_pos k2] at h ⊢
      unfold wiR at h ⊢
      by_cases c1 : t.at_ = 0 ∧ (0 ≤ t.to ∧ t.to ≤ 5) ∧ 0 ≤ t.ix ∧ t.ix < p.xs.length
      · rw [if_pos c1] at h ⊢
        by_cases c2 : t.to ≤ (p.xs.getD t.ix.toNat ⟨0, 0⟩).k
        · rw [if_pos c2] at h; exact absurd h (by decide)
        · rw [if_neg c2] at h ⊢
          by_cases c3 : okH (setN p.xs t.ix.toNat t.to) p.g = true
          · rw [if_pos c3]
            have hi : t.ix.toNat < p.xs.length := by omega
            rw [getD_at hi] at c2
            have hk := (okH_p hp).2.1 _ (List.getElem_mem hi)
            have hk0 : 0 ≤ (p.xs[t.ix.toNat]'hi).k := by
              have := hk; unfold okN at this; simp at this; omega
            have hw := wth_lt hk0 (Int.not_le.1 c2) c1.2.1.2
            show sumN p.xs < sumN (setN p.xs t.ix.toNat t.to)
            unfold setN
            rw [sumN_set hi]
            dsimp only
            omega
          · rw [if_neg c3] at h; exact absurd h (by decide)
      · rw [if_neg c1] at h; exact absurd h (by decide)
    · rw [if_neg k2] at h; exact absurd h (by decide)
end Go.Proofs.YtcfabmmonoljeaaDoor

/- What functions of the program answer: part Least2. -/
set_option linter.unusedVariables false
set_option linter.unusedSimpArgs false
set_option linter.unusedSectionVars false
namespace Go.Proofs.YtcfabmmonoljeaaDoor
open Go Go.Proofs.YtcfabmmonoljeaaDoor.VI
set_option maxHeartbeats 16000000
set_option maxRecDepth 20000
/-! .. and the walk -/
theorem ApS_step2 {e t : TypeId} {size bytes : Nat} {G J : AHeap} {n m j : Nat} {cells cs : List CV} {v : AV} {bm : BM} {cap : Cap} (h : ApS e size G J n cells v) (hp : Pre G J) (hj : J.get j = some ⟨t, cs, bm⟩) (hm : 0 < m) (hlen : cs.length = m * size) (hb : (n + m) * bytes ≤ 70368744177664) (hok : cs.all CV.ok = true) :
    ∃ (v' : AV) (K : AHeap), appendA J e size bytes v (.c (.slice (some (j, 0)) m cap)) = some (v', K) ∧ Pre G K ∧ ApS e size G K (n + m) (cells ++ cs) v' ∧ (∀ k b, J.get k = some b → b.e ≠ e → K.get k = some b) := by
  rcases h with ⟨rfl, rfl, q, rfl⟩ | ⟨h1, h2, id, rfl, h3, h4⟩
  · refine ⟨_, J ++ [some ⟨e, cs, .opn⟩], apnd_new hj hm hlen (by simpa using hb) hok, hp.app _, .inr ⟨by omega, by simpa using hlen, J.length, by rw [Nat.zero_add], hp.len, by rw [get_app0]; rfl⟩, fun k b hk _ => by rw [get_appl (get_some_lt hk)]; exact hk⟩
  · refine ⟨_, J.set id none ++ [some ⟨e, cells ++ cs, .opn⟩], apnd_ext h4 h2 h1 hj hm hlen hb hok, (hp.set h3).app _, .inr ⟨by omega, by rw [List.length_append, h2, hlen, Nat.add_mul], J.length, rfl, hp.len, by rw [get_apps0]; rfl⟩, fun k b hk ho => ?_⟩
    have : k ≠ id := fun e => by rw [e, h4] at hk; injection hk with hk; rw [← hk] at ho; exact ho rfl
    rw [get_appl (by rw [List.length_set]; exact get_some_lt hk), get_neh this]; exact hk
theorem HfNw.to {G J K : AHeap} {y : Hf} (h : HfNw G J y) (q : ∀ i b, J.get i = some b → b.e ≠ 29 → K.get i = some b) : HfNw G K y := ⟨h.few, h.rng, fun h0 => by
  obtain ⟨id, m, h1, h2, h3, h4⟩ := h.new h0
  exact ⟨id, m, h1, h2, q id _ h3 (show (91 : TypeId) ≠ 29 by decide), h4⟩⟩
/-- The halves that the ways lead to. -/
def HsOk (p : Pr) (G J : AHeap) (ys : List Hf) (ts : List Tm) (v : AV) : Prop := ys.map Hf.pr = ts.map (fun t => (tmR p t).1) ∧ (∀ y ∈ ys, HfNw G J y) ∧ ApS 29 18 G J ys.length (hrows ys) v
theorem HsOk.pre {p : Pr} {G J K : AHeap} {ys : List Hf} {ts : List Tm} {v : AV} (h : HsOk p G J ys ts v) (k : Pre J K) : HsOk p G K ys ts v := ⟨h.1, fun y hy => (h.2.1 y hy).pre k, h.2.2.pre k⟩
theorem hrows_snoc {ys : List Hf} {y : Hf} : hrows ys ++ hfr y = hrows (ys ++ [y]) := by simp [hrows]
theorem HsOk.step {p : Pr} {G J : AHeap} {ys : List Hf} {ts : List Tm} {v : AV} {y : Hf} {t : Tm} {j : Nat} {te : TypeId} {bm : BM} {cap : Cap} (h : HsOk p G J ys ts v) (hp : Pre G J) (hj : J.get j = some ⟨te, hfr y, bm⟩) (hy : HfNw G J y) (hyp : y.pr = (tmR p t).1) (few : ys.length ≤ 1000) :
    ∃ (v' : AV) (K : AHeap), appendA J 29 18 48 v (.c (.slice (some (j, 0)) 1 cap)) = some (v', K) ∧ Pre G K ∧ HsOk p G K (ys ++ [y]) (ts ++ [t]) v' := by
  obtain ⟨v', K, a1, pK, oK, sK⟩ := ApS_step2 h.2.2 hp hj (m := 1) (cap := cap) (bytes := 48) (by omega) (by rw [hfr_len]) (by omega) hfr_ok
  rw [hrows_snoc] at oK
  refine ⟨v', K, a1, pK, by simp [h.1, hyp], fun z hz => ?_, by simpa using oK⟩
  rcases List.mem_append.1 hz with hz | hz
  · exact (h.2.1 z hz).to sK
  · rw [List.mem_singleton.1 hz]; exact hy.to sK
theorem TsNw.one {G J : AHeap} {id : Nat} {t : Tm} {cap : Cap} (h : G.length ≤ id) (hb : J.get id = some ⟨37, trow t, .own⟩) : TsNw G J (.slice (some (id, 0)) 1 cap) [t] := ⟨_, _, rfl, fun _ => ⟨id, .own, rfl, h, by rw [hb]; simp [trows], .inl rfl⟩⟩
theorem TsNw.two {G J : AHeap} {id : Nat} {t w : Tm} {cap : Cap} (h : G.length ≤ id) (hb : J.get id = some ⟨37, trow t ++ trow w, .own⟩) : TsNw G J (.slice (some (id, 0)) 2 cap) [t, w] := ⟨_, _, rfl, fun _ => ⟨id, .own, rfl, h, by rw [hb]; simp [trows], .inl rfl⟩⟩
end Go.Proofs.YtcfabmmonoljeaaDoor

/- What functions of the program answer: part Least3. -/
set_option linter.unusedVariables false
set_option linter.unusedSimpArgs false
set_option linter.unusedSectionVars false
namespace Go.Proofs.YtcfabmmonoljeaaDoor
open Go Go.Proofs.YtcfabmmonoljeaaDoor.VI
set_option maxHeartbeats 16000000
set_option maxRecDepth 20000
theorem HsOk.len {p : Pr} {G J : AHeap} {ys : List Hf} {ts : List Tm} {v : AV} (h : HsOk p G J ys ts v) : ys.length = ts.length := by
  have := congrArg List.length h.1; simpa using this
theorem HsOk.pr {p : Pr} {G J : AHeap} {ys : List Hf} {ts : List Tm} {v : AV} (h : HsOk p G J ys ts v) {i : Nat} (hi : i < ys.length) (hi' : i < ts.length) : (ys[i]'hi).pr = (tmR p (ts[i]'hi')).1 := by
  have h1 : (ys.map Hf.pr)[i]'(by simpa using hi) = (ts.map (fun t => (tmR p t).1))[i]'(by simpa using hi') := by simp only [h.1]
  simpa using h1
end Go.Proofs.YtcfabmmonoljeaaDoor
