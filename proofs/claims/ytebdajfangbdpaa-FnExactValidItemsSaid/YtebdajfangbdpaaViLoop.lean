/- An interpreter over an abstract heap, and its soundness over the machine: part Loop. -/
import Derived.Test.YtebdajfangbdpaaViInv
set_option linter.unusedVariables false
set_option linter.unusedSimpArgs false
set_option linter.unusedSectionVars false
namespace Go.Proofs.Ytebdajfangbdpaa.VI
open Go

/-! ### Loops over slots that are told by what is read of them -/
def Post (x : Option (Ex × St)) (P : Ex → Sl → AHeap → Prop) : Prop := ∃ ex σ H, x = some (ex, σ, H) ∧ P ex σ H
theorem post_some {ex : Ex} {σ : Sl} {H : AHeap} {P : Ex → Sl → AHeap → Prop} : Post (some (ex, σ, H)) P = P ex σ H :=
  propext ⟨fun ⟨_, _, _, e, h⟩ => by cases e; exact h, fun h => ⟨_, _, _, rfl, h⟩⟩
theorem post_ite {c : Prop} [Decidable c] {x y : Option (Ex × St)} {P : Ex → Sl → AHeap → Prop} : Post (if c then x else y) P = if c then Post x P else Post y P := by split <;> rfl
theorem Post.mono {x : Option (Ex × St)} {P Q : Ex → Sl → AHeap → Prop} (h : Post x P) (hq : ∀ ex σ H, P ex σ H → Q ex σ H) : Post x Q := by
  obtain ⟨ex, σ, H, e, p⟩ := h; exact ⟨ex, σ, H, e, hq _ _ _ p⟩
theorem post_fin {call : CallA} {b : KC} {s : St} {ex : Ex} {H' : AHeap} {Q : Sl → Prop} (h : Post (evC call (.loop b) s) fun e σ' h => e = ex ∧ h = H' ∧ Q σ') : evC call (.loop b) s = some (ex, fin call b s, H') ∧ Q (fin call b s) := by
  obtain ⟨e, σ', h', e1, rfl, rfl, q⟩ := h
  exact fin_of ⟨σ', e1, q⟩
/-- What a loop has laid. -/
noncomputable def finT (call : CallA) (b : KC) (s : St) : List (Option Blk) := match evC call (.loop b) s with | some (_, _, H') => H'.drop s.2.length | none => []
theorem post_finT {call : CallA} {b : KC} {σ : Sl} {H : AHeap} {ex : Ex} {Q : Sl → Prop} (h : Post (evC call (.loop b) (σ, H)) fun e σ' h => e = ex ∧ (∃ T, h = H ++ T) ∧ Q σ') : evC call (.loop b) (σ, H) = some (ex, fin call b (σ, H), H ++ finT call b (σ, H)) ∧ Q (fin call b (σ, H)) := by
  obtain ⟨e, σ', h', e1, rfl, ⟨T, rfl⟩, q⟩ := h
  have h1 : fin call b (σ, H) = σ' := by unfold fin; rw [e1]
  have h2 : finT call b (σ, H) = T := by unfold finT; rw [e1]; simp
  rw [h1, h2]; exact ⟨e1, q⟩
theorem laid {x : List (Option Blk)} {H H' : AHeap} (h : ∃ T, H' = (H ++ x) ++ T) : ∃ T, H' = H ++ T := by
  obtain ⟨T, rfl⟩ := h; exact ⟨x ++ T, by rw [List.append_assoc]⟩
theorem laid0 {H : AHeap} : ∃ T, H = H ++ T := ⟨[], by simp⟩
/-- A function that is told by its body's run. -/
theorem done_fin {gc : Bool} {res : List KR} {H : AHeap} {σ : Sl} {H' : AHeap} {ex : Ex} (h : ex = .norm ∨ ex = .ret) : doneB gc res H (some (ex, σ, H')) = (evalRs σ H' res).bind fun vs => finish gc H (mkRes vs) H' := by
  rcases h with rfl | rfl
  · exact done_norm
  · exact done_ret
theorem ite_ex {c : Prop} [Decidable c] {a b : Ex} {s : St} : some ((if c then a else b), s) = if c then some (a, s) else some (b, s) := by split <;> rfl
theorem cast_nonneg {n : Nat} : (0 : Int) ≤ (n : Int) := Int.natCast_nonneg n
theorem cast_toNat {n : Nat} : Int.toNat (n : Int) = n := Int.toNat_natCast n
end Go.Proofs.Ytebdajfangbdpaa.VI
