/- What functions of the program answer: part LawInterest. -/
import Derived.Test.YtmockobmiagbcaaDoorRows
import Derived.Test.YtmockobmiagbcaaDoorTie
import Derived.Test.YtmockobmiagbcaaDoorCards
import Derived.Test.YtmockobmiagbcaaDoorOk
import Derived.Test.YtmockobmiagbcaaDoorI3
import Derived.WalkKit
import Derived.ProofKit
import Derived.MakeChecks
import Derived.Lay
import Derived.LaidLaws
import Derived.Stop.Joined
import Derived.Stop.LaidErr
import Derived.Lib.LaidTab
import Derived.Shelf.Vars
import Derived.SevenTiedAt
import Derived.Test.YtmockobmiagbcaaDoorViE
/- FnInterest: the law holds for every input; the variables that the row lists read as the program's text lays them. -/
set_option linter.unusedVariables false
set_option linter.unusedSimpArgs false
set_option linter.unusedSectionVars false
namespace Go.Proofs.YtmockobmiagbcaaDoor.fnInterest
open Go Go.ChangeShapes Go.WideShapes Go.ChangeAt Go.RowKit Go.Proofs.YtmockobmiagbcaaDoor.VI
theorem own : ownKnob Tryd.prog.godebug = none := by kernel_rfl
theorem laidOut : laidOutB Tryd.prog = true := by kernel_rfl
theorem tys : tysOf Tryd.prog 9 [22,22] = some [.sl 1 1 (.int .u8), .sl 1 1 (.int .u8)] := by kernel_rfl
theorem reads : ([22,22].all fun t => Tryd.prog.readableRec t && decide (t < Tryd.prog.types.size)) = true := by kernel_rfl
/-- What the row's conditions say of the two variables. -/
theorem known {W : World} (hs : W.ShapedOpen Tryd.prog) (hL : laidMetH Tryd.prog Rows.fnInterestRow.laid W) : GI W.heap.size W := by
  rw [MakeChecks.laidMetH_plain _ _ _ (by kernel_rfl)] at hL
  have h3 : laidMet Tryd.prog (("internal/strconv.uint64pow10", Lib.tabData .u64 (((List.range 20).map fun i => ((10 ^ i : Nat) : Int)))) :: Rows.fnInterestRow.laid.tail.tail.tail) W := Go.laidMet.tail (Go.laidMet.tail hL)
  have ht := Lib.tabIs_of_head (g := 1) (t := 117) (e := 77) (n := 20) (by kernel_rfl) (by kernel_rfl) Tryd.underlying117 Tryd.underlying77 (by kernel_rfl) (by kernel_rfl) h3
  obtain ⟨m, hm⟩ := cell_of_shapedOpen_int (g := 0) (t := 3) (zero := #[.int .i64 0]) (k := .i64) hs (of_decide_eq_true (by kernel_rfl)) (by kernel_rfl) rfl (by kernel_rfl) (by kernel_rfl) Tryd.underlying3
  unfold Lib.TabIs World.var? at ht
  rw [show Tryd.prog.globalNamed "internal/strconv.uint64pow10" = some 1 by kernel_rfl] at ht
  simp only [Option.bind_some] at ht
  split at ht
  · rename_i cs t fr hh
    injection ht with ht
    subst ht
    exact ⟨(Array.getElem?_eq_some_iff.1 hh).1, ⟨m, hm⟩, t, fr, hh⟩
  · cases ht
set_option maxRecDepth 100000 in
theorem wrap {os : Os} {H : Type} {enc : TypeId × Value → H} (own : ownKnob Tryd.checked.prog.godebug = none) (started : os.Started) (noInit : Tryd.checked.prog.inits.idxOf? 3 = none) (hfn : Tryd.checked.prog.funcs[(3 : Nat)]? = some Tryd.f3) {X : World → Array Value → Prop}
    (hX : ∀ (w w' : World) (args : Array Value), w.heap = w'.heap → X w args → X w' args)
    (witness : ∃ (w : World) (tape : Tape) (i : Input), w.os = os ∧ (w.forCall tape i).Shaped Tryd.checked.prog ∧ i.vars = [] ∧ Input.okWide Tryd.checked.prog (w.forCall tape i) .any w.heap.size 3 i ∧
      ((Rows.fnInterestSpec.pre enc Tryd.checked.prog Tryd.f3 Rows.fnInterestRow.domain false (w.forCall tape i).memory i.args ∧ X (w.forCall tape i).memory i.args) ∧ sizedMet enc Tryd.checked.prog Tryd.f3 (OpenSpec.ofChange Rows.fnInterestSpec) false (w.forCall tape i).memory i.args) ∧ ({} : Assume).holds Tryd.checked.prog (lone (Frame.enter Tryd.checked.prog 3 i.args .normal) [] (w.forCall tape i)))
    (contract : ∀ (W : World) (base : Nat) (args : Array Value) (ds gs : List (DataW H)) (before : List MemPlace),
      (∀ (j : Nat) t v, Tryd.f3.params[j]? = some t → args[j]? = some v → Value.okWide Tryd.checked.prog W .any base t v) →
      DataW.Whole enc Tryd.checked.prog Tryd.f3.params.toList Rows.fnInterestSpec.vars false W args.toList ds gs before →
      (DataW.weightsEach Tryd.checked.prog (Tryd.f3.params.toList ++ Rows.fnInterestSpec.plain.varTypes Tryd.checked.prog) (ds ++ gs)).all (· ≤ reachBytes) = true → X W args → W.ShapedOpen Tryd.checked.prog →
      Calls Tryd.checked.prog 3 args W fun e W' => ∃ v, e = .returned v ∧ Rows.fnInterestSpec.post enc Tryd.checked.prog Tryd.f3 false true false false W args v W') :
    ReturnsInHanded {} Tryd.checked os 3 .any (fun w args => (Rows.fnInterestSpec.pre enc Tryd.checked.prog Tryd.f3 Rows.fnInterestRow.domain false w args ∧ X w args) ∧ sizedMet enc Tryd.checked.prog Tryd.f3 (OpenSpec.ofChange Rows.fnInterestSpec) false w args) (Rows.fnInterestSpec.post enc Tryd.checked.prog Tryd.f3 false true false false) := by
  refine returnsInHanded_of_calls own started noInit witness ?_
  intro w tape i _ hsh _ hok hpre _
  obtain ⟨_, _, _, fn', hfn', _, _, _, _, hval⟩ := hok
  have e : fn' = Tryd.f3 := Option.some.inj (hfn'.symm.trans hfn)
  subst e
  obtain ⟨⟨⟨ds, gs, before, hw, _⟩, hx⟩, hz⟩ := hpre
  have hw' := DataW.Whole.of_heap (w' := w.forCall tape i) (by rfl) hw
  refine (contract (w.forCall tape i) w.heap.size i.args ds gs before hval hw' (hz.weights hw) (hX _ _ _ (by rfl) hx) hsh).mono fun e W' ⟨v, he, hp⟩ => ?_
  subst he
  exact ChangeSpec.post_blind hp
set_option maxRecDepth 100000 in
theorem lifted (os : Os) (started : os.Started) (H : Type) (enc : TypeId × Value → H) :
    ReturnsInHanded {} Tryd.checked os 3 .any (fun w args => (Rows.fnInterestSpec.pre enc Tryd.prog Tryd.f3 Rows.fnInterestRow.domain false w args ∧ laidMetH Tryd.prog Rows.fnInterestRow.laid w) ∧ sizedMet enc Tryd.prog Tryd.f3 (OpenSpec.ofChange Rows.fnInterestSpec) false w args) (Rows.fnInterestSpec.post enc Tryd.prog Tryd.f3 false true false false) := by
  refine wrap own started (by kernel_rfl) Tryd.func3 (X := fun w _ => laidMetH Tryd.prog Rows.fnInterestRow.laid w) (fun _ _ _ hh h => h.of_heap hh)
    (ChangeSpec.witness_shaped (enc := enc) (C := Tryd.checked) (os := os) (X := fun w _ => laidMetH Tryd.prog Rows.fnInterestRow.laid w) false (World.laidAll Tryd.prog os Rows.fnInterestRow.laid) #[.slice none 0 0, .slice none 0 0] 8 (World.laidAll_os _ _ _)
      (World.shaped_of_ZipB (by kernel_rfl) (by kernel_rfl)) (by kernel_rfl) (by kernel_rfl) (by kernel_rfl)
      (by rw [MakeChecks.laidMetH_plain _ _ _ (by kernel_rfl)]; exact laidMet_laidAll _ (by kernel_rfl) (by kernel_rfl))) ?_
  intro W base args ds gs before hval0 hW hsz0 hL hs
  have hsz : (DataW.weightsEach Tryd.prog (Tryd.f3.params.toList ++ []) (ds ++ gs)).all (· ≤ reachBytes) = true := hsz0
  have hval : ∀ (j : Nat) t v, Tryd.f3.params[j]? = some t → args[j]? = some v → Value.okWide Tryd.prog W .any base t v := hval0
  have hW' := hW
  obtain ⟨p, q, hA0, hV, rfl, hfz, hnd⟩ := hW
  have hA : DataW.TrodAll enc Tryd.prog W 0 (fun _ => true) true Tryd.f3.params.toList args.toList ds p := hA0
  obtain ⟨rfl, rfl⟩ := trodVars_none hV
  rw [Tryd.params3] at hA hval hsz
  rw [List.append_nil, List.append_nil] at hsz
  obtain ⟨d0, d1, rfl⟩ := dat2 hA
  refine (law_calls callok tys hA (fun j t v hj hv => hval j t v (by simpa using hj) hv) hsz (known hs hL) law3).mono fun e W' ⟨he, bel⟩ => ?_
  subst he
  exact ⟨_, rfl, _, _, _, [], _, [], hW', trodAll_mk1 (shut_bool Tryd.underlying4 _), backAll laidOut bel reads hA, rfl, bel.frame _, fun h => by cases h⟩
theorem over : Rows.fnInterestRow.holds Tryd.pinned (OpenSpec.ofChange Rows.fnInterestSpec) :=
  OpenClaim.holds_of_wide 3 Tryd.f3 rfl rfl rfl rfl rfl rfl rfl ⟨rfl, rfl, rfl, rfl, rfl⟩ rfl rfl rfl rfl rfl (by kernel_rfl) Tryd.func3 (by kernel_rfl)
    (of_decide_eq_true (by kernel_rfl)) (by unfold Func.isWrapper; first | (rw [if_pos (by decide +kernel)]; kernel_rfl) | (rw [if_neg (by decide +kernel)]; exact ⟨rfl, rfl⟩))
    (fun os started H enc _ => lifted os started H enc)
theorem named : Tryd.prog.funcNamed Rows.fnInterestRow.func = some 3 := by kernel_rfl
theorem plainPars : (Tryd.f3.params.toList.all fun t => !(Tryd.prog.wantsStandIn t)) = true := by kernel_rfl
theorem proved : Rows.FnInterestCardSaid :=
  Claim7.holds_tied_plain_at .later [] [.data, .data, .data, .data, .pinned] true (true, "c76a6bf79f5ef7864144c9912c02b6f00b95e978db8e3e07f5694f6c4b9011aa") false
    over (fun _ h => by cases h) (by kernel_rfl) (fun _ h => by cases h) fnInterest_row_tie rfl ⟨rfl, rfl⟩ (by kernel_rfl) rfl
    (fun f fn hf hfn => by
      obtain rfl : f = 3 := (Option.some.inj (named.symm.trans hf)).symm
      obtain rfl : fn = Tryd.f3 := (Option.some.inj (Tryd.func3.symm.trans hfn)).symm
      refine ⟨by kernel_rfl, fun j t ht => ?_⟩
      have h1 := List.all_eq_true.1 plainPars t (by
        obtain ⟨hj, rfl⟩ := Array.getElem?_eq_some_iff.1 ht
        exact Array.mem_toList_iff.2 (Array.getElem_mem hj))
      have h2 : Tryd.prog.wantsStandIn t = false := by simpa using h1
      exact h2)
    (by kernel_rfl)
end Go.Proofs.YtmockobmiagbcaaDoor.fnInterest
namespace Go.Proofs.YtmockobmiagbcaaDoor
theorem fnInterestHolds : Rows.FnInterestCardSaid := fnInterest.proved
#print axioms fnInterestHolds
end Go.Proofs.YtmockobmiagbcaaDoor
