/- An interpreter over an abstract heap, and its soundness over the machine: part Loop. -/
import Derived.Test.YtebdajfangbdpaaViInv
set_option linter.unusedVariables false
set_option linter.unusedSimpArgs false
set_option linter.unusedSectionVars false
namespace Go.Proofs.Ytebdajfangbdpaa.VI
open Go

/-! ### Loops over slots that are told by what is read of them -/
def Post (x : Option (Ex × St)) (P : Ex → Sl → AHeap → Prop) : Prop := ∃ ex σ H, x = some (ex, σ, H) ∧ P ex σ H
theorem post_some {ex : Ex} {σ : Sl} {H : AHeap} {P : Ex → Sl → AHeap → Prop} : Post (some (ex, σ, H)) P = P ex σ H :=
  propext ⟨fun ⟨_, _, _, e, h⟩ => by cases e; exact h, fun h => ⟨_, _, _, rfl, h⟩⟩
theorem post_ite {c : Prop} [Decidable c] {x y : Option (Ex × St)} {P : Ex → Sl → AHeap → Prop} : Post (if c then x else y) P = if c then Post x P else Post y P := by split <;> rfl
theorem Post.mono {x : Option (Ex × St)} {P Q : Ex → Sl → AHeap → Prop} (h : Post x P) (hq : ∀ ex σ H, P ex σ H → Q ex σ H) : Post x Q := by
  obtain ⟨ex, σ, H, e, p⟩ := h; exact ⟨ex, σ, H, e, hq _ _ _ p⟩
theorem post_fin {call : CallA} {b : KC} {s : St} {ex : Ex} {H' : AHeap} {Q : Sl → Prop} (h : Post (evC call (.loop b) s) fun e σ' h => e = ex ∧ h = H' ∧ Q σ') : evC call (.loop b) s = some (ex, fin call b s, H') ∧ Q (fin call b s) := by
  obtain ⟨e, σ', h', e1, rfl, rfl, q⟩ := h
  exact fin_of ⟨σ', e1, q⟩
/-- What a loop has laid. -/
noncomputable def finT (call : CallA) (b : KC) (s : St) : List (Option Blk) := match evC call (.loop b) s with | some (_, _, H') => H'.drop s.2.length | none => []
theorem post_finT {call : CallA} {b : KC} {σ : Sl} {H : AHeap} {ex : Ex} {Q : Sl → Prop} (h : Post (evC call (.loop b) (σ, H)) fun e σ' h => e = ex ∧ (∃ T, h = H ++ T) ∧ Q σ') : evC call (.loop b) (σ, H) = some (ex, fin call b (σ, H), H ++ finT call b (σ, H)) ∧ Q (fin call b (σ, H)) := by
  obtain ⟨e, σ', h', e1, rfl, ⟨T, rfl⟩, q⟩ := h
  have h1 : fin call b (σ, H) = σ' := by unfold fin; rw [e1]
  have h2 : finT call b (σ, H) = T := by unfold finT; rw [e1]; simp
  rw [h1, h2]; exact ⟨e1, q⟩
theorem laid {x : List (Option Blk)} {H H' : AHeap} (h : ∃ T, H' = (H ++ x) ++ T) : ∃ T, H' = H ++ T := by
  obtain ⟨T, rfl⟩ := h; exact ⟨x ++ T, by rw [List.append_assoc]⟩
theorem laid0 {H : AHeap} : ∃ T, H = H ++ T := ⟨[], by simp⟩
/-- A function that is told by its body's run. -/
theorem done_fin {gc : Bool} {res : List KR} {H : AHeap} {σ : Sl} {H' : AHeap} {ex : Ex} (h : ex = .norm ∨ ex = .ret) : doneB gc res H (some (ex, σ, H')) = (evalRs σ H' res).bind fun vs => finish gc H (mkRes vs) H' := by
  rcases h with rfl | rfl
  · exact done_norm
  · exact done_ret
theorem ite_ex {c : Prop} [Decidable c] {a b : Ex} {s : St} : some ((if c then a else b), s) = if c then some (a, s) else some (b, s) := by split <;> rfl
theorem cast_nonneg {n : Nat} : (0 : Int) ≤ (n : Int) := Int.natCast_nonneg n
theorem cast_toNat {n : Nat} : Int.toNat (n : Int) = n := Int.toNat_natCast n
theorem guard_undef {call : CallA} {j : Nat} {w : Bool} {d : Option Nat} {op : KOp} {r : List KO} {σ : Sl} {H : AHeap} : guardC call (.c .undef) j w d op r σ H = evalOps call r (putS σ d (.c .undef), H) := Eq.trans rfl rfl
/-! What is read again, where it is asked for -/
noncomputable def chkG (call : CallA) (g : AV) (w : Bool) (d : Nat) (op : KOp) (rc : List KO) (σ : Sl) (H : AHeap) (r : List (KO × List KO)) : Option St :=
  match g with
  | .c (.bool b) => if b = w then reC call (evalOp (fun _ _ _ => none) σ H op) (σ d) rc σ H r else chkD call rc (σ, H) r
  | _ => chkD call rc (σ, H) r
theorem chkg_bool {call : CallA} {b w : Bool} {d : Nat} {op : KOp} {rc : List KO} {σ : Sl} {H : AHeap} {r : List (KO × List KO)} : chkG call (.c (.bool b)) w d op rc σ H r = if b = w then reC call (evalOp (fun _ _ _ => none) σ H op) (σ d) rc σ H r else chkD call rc (σ, H) r := Eq.trans rfl rfl
theorem chkD_skip {call : CallA} {o : KO} {rc : List KO} {s : St} {r : List (KO × List KO)} (h : rcOk s o) : chkD call (o :: rc) s r = chkD call rc s r := by
  unfold chkD
  by_cases h2 : ∀ o ∈ rc, rcOk s o
  · rw [if_pos h2, if_pos]
    intro o' ho
    rcases List.mem_cons.1 ho with rfl | ho
    · exact h
    · exact h2 o' ho
  · rw [if_neg h2, if_neg]
    exact fun hh => h2 fun o' ho => hh o' (by simp [ho])
theorem chk_consg {call : CallA} {d j : Nat} {w : Bool} {op : KOp} {rc : List KO} {σ : Sl} {H : AHeap} {r : List (KO × List KO)} : chkD call (⟨some d, op, some (j, w)⟩ :: rc) (σ, H) r = chkG call (σ j) w d op rc σ H r := by
  unfold chkG
  split
  · rename_i b hb
    by_cases h : b = w
    · rw [if_pos h, ← chk_cons]
      have e : rcOk (σ, H) ⟨some d, op, some (j, w)⟩ ↔ rcOk (σ, H) ⟨some d, op, none⟩ := by
        unfold rcOk
        simp only [wantA, hb, h, beq_self_eq_true]
      by_cases h1 : rcOk (σ, H) ⟨some d, op, none⟩
      · rw [chkD_skip h1, chkD_skip (e.2 h1)]
      · unfold chkD
        rw [if_neg (fun hh => h1 (e.1 (hh _ (List.mem_cons_self ..)))), if_neg (fun hh => h1 (hh _ (List.mem_cons_self ..)))]
    · rw [if_neg h]
      apply chkD_skip
      intro hw
      simp only [wantA, hb, beq_iff_eq] at hw
      exact absurd hw h
  · rename_i hn
    apply chkD_skip
    intro hw
    unfold wantA at hw
    dsimp only at hw
    split at hw
    · rename_i b hb; exact absurd hb (hn b)
    · cases hw
end Go.Proofs.Ytebdajfangbdpaa.VI
