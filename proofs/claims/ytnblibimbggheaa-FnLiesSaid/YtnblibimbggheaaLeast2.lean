/- What functions of the program answer: part Least2. -/
import Derived.Test.YtnblibimbggheaaLeast
import Derived.Test.YtnblibimbggheaaTmL
set_option linter.unusedVariables false
set_option linter.unusedSimpArgs false
set_option linter.unusedSectionVars false
namespace Go.Proofs.Ytnblibimbggheaa
open Go Go.Proofs.Ytnblibimbggheaa.VI
set_option maxHeartbeats 16000000
set_option maxRecDepth 20000
/-! .. and the walk -/
theorem ApS_step2 {e t : TypeId} {size bytes : Nat} {G J : AHeap} {n m j : Nat} {cells cs : List CV} {v : AV} {bm : BM} {cap : Cap} (h : ApS e size G J n cells v) (hp : Pre G J) (hj : J.get j = some ⟨t, cs, bm⟩) (hm : 0 < m) (hlen : cs.length = m * size) (hb : (n + m) * bytes ≤ 70368744177664) (hok : cs.all CV.ok = true) :
    ∃ (v' : AV) (K : AHeap), appendA J e size bytes v (.c (.slice (some (j, 0)) m cap)) = some (v', K) ∧ Pre G K ∧ ApS e size G K (n + m) (cells ++ cs) v' ∧ (∀ k b, J.get k = some b → b.e ≠ e → K.get k = some b) := by
  rcases h with ⟨rfl, rfl, q, rfl⟩ | ⟨h1, h2, id, rfl, h3, h4⟩
  · refine ⟨_, J ++ [some ⟨e, cs, .opn⟩], apnd_new hj hm hlen (by simpa using hb) hok, hp.app _, .inr ⟨by omega, by simpa using hlen, J.length, by rw [Nat.zero_add], hp.len, by rw [get_app0]; rfl⟩, fun k b hk _ => by rw [get_appl (get_some_lt hk)]; exact hk⟩
  · refine ⟨_, J.set id none ++ [some ⟨e, cells ++ cs, .opn⟩], apnd_ext h4 h2 h1 hj hm hlen hb hok, (hp.set h3).app _, .inr ⟨by omega, by rw [List.length_append, h2, hlen, Nat.add_mul], J.length, rfl, hp.len, by rw [get_apps0]; rfl⟩, fun k b hk ho => ?_⟩
    have : k ≠ id := fun e => by rw [e, h4] at hk; injection hk with hk; rw [← hk] at ho; exact ho rfl
    rw [get_appl (by rw [List.length_set]; exact get_some_lt hk), get_neh this]; exact hk
theorem HfNw.to {G J K : AHeap} {y : Hf} (h : HfNw G J y) (q : ∀ i b, J.get i = some b → b.e ≠ 36 → K.get i = some b) : HfNw G K y := ⟨h.few, h.rng, fun h0 => by
  obtain ⟨id, m, h1, h2, h3, h4⟩ := h.new h0
  exact ⟨id, m, h1, h2, q id _ h3 (show (119 : TypeId) ≠ 36 by decide), h4⟩⟩
/-- The halves that the ways lead to. -/
def HsOk (p : Pr) (G J : AHeap) (ys : List Hf) (ts : List Tm) (v : AV) : Prop := ys.map Hf.pr = ts.map (fun t => (tmR p t).1) ∧ (∀ y ∈ ys, HfNw G J y) ∧ ApS 36 18 G J ys.length (hrows ys) v
theorem HsOk.pre {p : Pr} {G J K : AHeap} {ys : List Hf} {ts : List Tm} {v : AV} (h : HsOk p G J ys ts v) (k : Pre J K) : HsOk p G K ys ts v := ⟨h.1, fun y hy => (h.2.1 y hy).pre k, h.2.2.pre k⟩
theorem hrows_snoc {ys : List Hf} {y : Hf} : hrows ys ++ hfr y = hrows (ys ++ [y]) := by simp [hrows]
theorem HsOk.step {p : Pr} {G J : AHeap} {ys : List Hf} {ts : List Tm} {v : AV} {y : Hf} {t : Tm} {j : Nat} {te : TypeId} {bm : BM} {cap : Cap} (h : HsOk p G J ys ts v) (hp : Pre G J) (hj : J.get j = some ⟨te, hfr y, bm⟩) (hy : HfNw G J y) (hyp : y.pr = (tmR p t).1) (few : ys.length ≤ 1000) :
    ∃ (v' : AV) (K : AHeap), appendA J 36 18 48 v (.c (.slice (some (j, 0)) 1 cap)) = some (v', K) ∧ Pre G K ∧ HsOk p G K (ys ++ [y]) (ts ++ [t]) v' := by
  obtain ⟨v', K, a1, pK, oK, sK⟩ := ApS_step2 h.2.2 hp hj (m := 1) (cap := cap) (bytes := 48) (by omega) (by rw [hfr_len]) (by omega) hfr_ok
  rw [hrows_snoc] at oK
  refine ⟨v', K, a1, pK, by simp [h.1, hyp], fun z hz => ?_, by simpa using oK⟩
  rcases List.mem_append.1 hz with hz | hz
  · exact (h.2.1 z hz).to sK
  · rw [List.mem_singleton.1 hz]; exact hy.to sK
theorem TsNw.one {G J : AHeap} {id : Nat} {t : Tm} {cap : Cap} (h : G.length ≤ id) (hb : J.get id = some ⟨38, trow t, .own⟩) : TsNw G J (.slice (some (id, 0)) 1 cap) [t] := ⟨_, _, rfl, fun _ => ⟨id, .own, rfl, h, by rw [hb]; simp [trows], .inl rfl⟩⟩
theorem TsNw.two {G J : AHeap} {id : Nat} {t w : Tm} {cap : Cap} (h : G.length ≤ id) (hb : J.get id = some ⟨38, trow t ++ trow w, .own⟩) : TsNw G J (.slice (some (id, 0)) 2 cap) [t, w] := ⟨_, _, rfl, fun _ => ⟨id, .own, rfl, h, by rw [hb]; simp [trows], .inl rfl⟩⟩
end Go.Proofs.Ytnblibimbggheaa
