/- What functions of the program answer: part LawLies. -/
import Derived.Test.YtnblibimbggheaaRows
import Derived.Test.YtnblibimbggheaaInsB
import Derived.Test.YtnblibimbggheaaLies7
import Derived.WalkKit
import Derived.ProofKit
import Derived.Test.YtnblibimbggheaaViE
set_option linter.unusedVariables false
set_option linter.unusedSimpArgs false
set_option linter.unusedSectionVars false
namespace Go.Proofs.Ytnblibimbggheaa.fnLies
open Go Go.ChangeShapes Go.WideShapes Go.ChangeAt Go.RowKit Go.Proofs.Ytnblibimbggheaa.VI
theorem own : ownKnob Try.prog.godebug = none := by kernel_rfl
theorem laidOut : laidOutB Try.prog = true := by kernel_rfl
theorem tys : tysOf Try.prog 9 [45,45] = some [.sl 1 1 (.int .u8), .sl 1 1 (.int .u8)] := by kernel_rfl
theorem reads : ([45,45].all fun t => Try.prog.readableRec t && decide (t < Try.prog.types.size)) = true := by kernel_rfl
theorem callok : CallOk Try.prog (ev kk) := callok119
set_option maxRecDepth 100000 in
theorem lifted (os : Os) (started : os.Started) (H : Type) (enc : TypeId × Value → H) :
    ReturnsInHanded {} Try.checked os 5 .any (Rows.fnLiesSpec.pre6 enc Try.prog Try.f5 Rows.fnLiesRow.domain false) (Rows.fnLiesSpec.post enc Try.prog Try.f5 false true false false) := by
  refine returnsInHanded_of_change_sized (C := Try.checked) own started (by kernel_rfl) Try.func5
    (ChangeSpec.witness6 (enc := enc) (C := Try.checked) false ⟨#[], #[.slice none 0 0, .slice none 0 0], []⟩ 8 (by kernel_rfl) (by kernel_rfl) (by kernel_rfl) (by kernel_rfl)) ?_
  intro W base args ds gs before hval0 hW hcnd hsz0 _
  have hsz : (DataW.weightsEach Try.prog (Try.f5.params.toList ++ []) (ds ++ gs)).all (· ≤ reachBytes) = true := hsz0
  have hval : ∀ (j : Nat) t v, Try.f5.params[j]? = some t → args[j]? = some v → Value.okWide Try.prog W .any base t v := hval0
  have hW' := hW
  obtain ⟨p, q, hA0, hV, rfl, hfz, hnd⟩ := hW
  have hA : DataW.TrodAll enc Try.prog W 0 (fun _ => true) true Try.f5.params.toList args.toList ds p := hA0
  obtain ⟨rfl, rfl⟩ := trodVars_none hV
  rw [Try.params5] at hA hval hsz
  rw [List.append_nil, List.append_nil] at hsz
  obtain ⟨d0, d1, rfl⟩ := dat2 hA
  refine (law_calls callok tys hA (fun j t v hj hv => hval j t v (by simpa using hj) hv) hsz law5).mono fun e W' ⟨he, bel⟩ => ?_
  subst he
  exact ⟨_, rfl, _, _, _, [], _, [], hW', trodAll_mk1 (shut_bool Try.underlying4 _), backAll laidOut bel reads hA, rfl, bel.frame _, fun h => by cases h⟩
theorem over : Rows.fnLiesRow.holds Try.pinned (OpenSpec.ofChange Rows.fnLiesSpec) :=
  OpenClaim.holds_of_wide 5 Try.f5 rfl rfl rfl rfl rfl rfl rfl ⟨rfl, rfl, rfl, rfl, rfl⟩ rfl rfl rfl rfl rfl (by kernel_rfl) Try.func5 (by kernel_rfl)
    (of_decide_eq_true (by kernel_rfl)) (by unfold Func.isWrapper; first | (rw [if_pos (by decide +kernel)]; kernel_rfl) | (rw [if_neg (by decide +kernel)]; exact ⟨rfl, rfl⟩))
    (fun os started H enc _ => lifted os started H enc)
theorem proved : Rows.FnLiesSaid := over
#print axioms proved
end Go.Proofs.Ytnblibimbggheaa.fnLies
namespace Go.Proofs.Ytnblibimbggheaa
theorem fnLiesHolds : Rows.FnLiesSaid := fnLies.proved
end Go.Proofs.Ytnblibimbggheaa
