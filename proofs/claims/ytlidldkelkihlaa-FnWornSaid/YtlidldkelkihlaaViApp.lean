/- An interpreter over an abstract heap, and its soundness over the machine: part App. -/
import Derived.Test.YtlidldkelkihlaaViLoop
set_option linter.unusedVariables false
set_option linter.unusedSimpArgs false
set_option linter.unusedSectionVars false
namespace Go.Proofs.Ytlidldkelkihlaa.VI
open Go
/-! ### Appending -/
section
variable {H : AHeap} {e t : TypeId} {size bytes n l i j : Nat} {m : BM} {cap : Cap} {cs xs : List CV} {q : Option (Nat × Nat)}
theorem src_slice (hj : H.get j = some ⟨t, cs, m⟩) (hn : 0 < n) (hlen : cs.length = n * size) : srcCells H size (.c (.slice (some (j, 0)) n cap)) = some (n, cs) := by
  have h1 : ¬ n = 0 := by omega
  have h2 : 0 + n * size ≤ cs.length := by omega
  have h3 : (cs.drop 0).take (n * size) = cs := by rw [List.drop_zero, List.take_of_length_le (by omega)]
  unfold srcCells
  simp only [h1, if_false, readCells, hj, h2, if_true, h3, Option.map_some]
theorem apnd_new (hj : H.get j = some ⟨t, cs, m⟩) (hn : 0 < n) (hlen : cs.length = n * size) (hb : n * bytes ≤ 70368744177664) (hok : cs.all CV.ok = true) : appendA H e size bytes (.c (.slice q 0 (.exact 0))) (.c (.slice (some (j, 0)) n cap)) = some (.c (.slice (some (H.length, 0)) n (.toEnd size)), H ++ [some ⟨e, cs, .opn⟩]) := by
  have h1 : ¬ n = 0 := by omega
  have h4 : (0 + n) * bytes ≤ 70368744177664 := by rw [Nat.zero_add]; exact hb
  have h5 : ¬ (0 + n ≤ 0) := by omega
  unfold appendA
  rw [src_slice hj hn hlen]
  cases q <;> simp only [h1, if_false, h4, hok, and_self, if_true, h5]
theorem apnd_ext (hi : H.get i = some ⟨e, xs, .opn⟩) (hx : xs.length = l * size) (hl : 0 < l) (hj : H.get j = some ⟨t, cs, m⟩) (hn : 0 < n) (hlen : cs.length = n * size) (hb : (l + n) * bytes ≤ 70368744177664) (hok : cs.all CV.ok = true) : appendA H e size bytes (.c (.slice (some (i, 0)) l (.toEnd size))) (.c (.slice (some (j, 0)) n cap)) = some (.c (.slice (some (H.length, 0)) (l + n) (.toEnd size)), H.set i none ++ [some ⟨e, xs ++ cs, .opn⟩]) := by
  have h1 : ¬ n = 0 := by omega
  unfold appendA
  rw [src_slice hj hn hlen]
  simp only [h1, if_false, hb, hok, and_self, if_true, hi, hx, hl]
theorem apnd_zero {x y : CV} {p : Option (Nat × Nat)} : appendA H e size bytes (.c (.slice q l cap)) (.c (.slice p 0 (.exact 0))) = some (.c (.slice q l cap), H) := by
  unfold appendA
  cases p <;> simp [srcCells]
end
/-- What has been appended so far: where it lies. -/
def OutS (e : TypeId) (size : Nat) (L : Nat) (T : List (Option Blk)) (n : Nat) (cells : List CV) (v : AV) : Prop :=
  (n = 0 ∧ cells = [] ∧ ∃ q, v = .c (.slice q 0 (.exact 0))) ∨ (0 < n ∧ cells.length = n * size ∧ ∃ k, v = .c (.slice (some (L + k, 0)) n (.toEnd size)) ∧ T[k]? = some (some ⟨e, cells, .opn⟩))
/-- One step of an append. -/
theorem OutS.step {e : TypeId} {size bytes : Nat} {H : AHeap} {T : List (Option Blk)} {n j m : Nat} {cells cs : List CV} {v : AV} {t : TypeId} {bm : BM} {cap : Cap} (h : OutS e size H.length T n cells v) (hj : AHeap.get (H ++ T) j = some ⟨t, cs, bm⟩) (hm : 0 < m) (hlen : cs.length = m * size) (hb : (n + m) * bytes ≤ 70368744177664) (hok : cs.all CV.ok = true) :
    ∃ (v' : AV) (T' : List (Option Blk)), appendA (H ++ T) e size bytes v (.c (.slice (some (j, 0)) m cap)) = some (v', H ++ T') ∧ OutS e size H.length T' (n + m) (cells ++ cs) v' := by
  rcases h with ⟨rfl, rfl, q, rfl⟩ | ⟨h1, h2, k, rfl, h3⟩
  · refine ⟨_, T ++ [some ⟨e, cs, .opn⟩], ?_, .inr ⟨by omega, by simpa using hlen, T.length, rfl, by simp⟩⟩
    rw [apnd_new hj hm hlen (by simpa using hb) hok, List.append_assoc]
    simp
  · have hk : k < T.length := (List.getElem?_eq_some_iff.1 h3).1
    refine ⟨_, T.set k none ++ [some ⟨e, cells ++ cs, .opn⟩], ?_, .inr ⟨by omega, by rw [List.length_append, h2, hlen, Nat.add_mul], T.length, rfl, by simp⟩⟩
    rw [apnd_ext (by rw [get_app, h3]; rfl) h2 h1 hj hm hlen hb hok, set_app, List.append_assoc]
    simp
end Go.Proofs.Ytlidldkelkihlaa.VI
