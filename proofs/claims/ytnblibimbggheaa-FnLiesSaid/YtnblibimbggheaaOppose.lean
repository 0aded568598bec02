/- What functions of the program answer: part Oppose. -/
import Derived.Test.YtnblibimbggheaaWear
import Derived.Test.YtnblibimbggheaaMarks
set_option linter.unusedVariables false
set_option linter.unusedSimpArgs false
set_option linter.unusedSectionVars false
namespace Go.Proofs.Ytnblibimbggheaa
open Go Go.Proofs.Ytnblibimbggheaa.VI
set_option maxHeartbeats 16000000
set_option maxRecDepth 20000
/-! How far grains are apart -/
def ab (x : Int) : Int := if x < -x then -x else x
theorem gq_b {x : Int} (h : gq x = true) : -3 ≤ x ∧ x ≤ 3 := by
  unfold gq at h; have := of_decide_eq_true h; omega
theorem all_at {g : List Int} (h : g.all gq = true) (i : Nat) : -3 ≤ g.getD i 0 ∧ g.getD i 0 ≤ 3 := by
  rw [List.getD_eq_getElem?_getD]
  cases e : g[i]? with
  | none => simp
  | some x => exact gq_b (List.all_eq_true.1 h x (List.mem_of_getElem? e))
/-! Opposite grains -/
def opp (g : List Int) : List Int := g.map fun x => IntKind.i8.wrap (0 - x)
theorem opp_len {g : List Int} : (opp g).length = g.length := List.length_map ..
theorem opp_at {g : List Int} (hq : g.all gq = true) (i : Nat) : (opp g).getD i 0 = - g.getD i 0 := by
  have := all_at hq i
  rw [List.getD_eq_getElem?_getD] at this ⊢
  rw [List.getD_eq_getElem?_getD]
  unfold opp; rw [List.getElem?_map]
  cases e : g[i]? with
  | none => rfl
  | some x =>
    rw [e] at this
    have h2 : -3 ≤ x ∧ x ≤ 3 := by simpa using this
    show IntKind.i8.wrap (0 - x) = -x
    rw [IntWalk.i8_in _ (by omega)]; omega
theorem opp_ok {g : List Int} (hq : g.all gq = true) : (opp g).all gq = true := by
  rw [List.all_eq_true] at hq ⊢
  intro x hx
  unfold opp at hx
  obtain ⟨y, hy, rfl⟩ := List.mem_map.1 hx
  have := gq_b (hq y hy)
  rw [IntWalk.i8_in _ (by omega)]
  unfold gq; simp; omega
end Go.Proofs.Ytnblibimbggheaa
