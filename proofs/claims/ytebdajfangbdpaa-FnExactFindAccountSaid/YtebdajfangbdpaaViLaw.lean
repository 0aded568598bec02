/- An interpreter over an abstract heap, and its soundness over the machine: part Law. -/
import Derived.Test.YtebdajfangbdpaaViRow
import Derived.Test.YtebdajfangbdpaaViDrawn7
import Derived.Test.YtebdajfangbdpaaViEv
import Derived.Carry
import Derived.RowKit
set_option linter.unusedVariables false
set_option linter.unusedSimpArgs false
set_option linter.unusedSectionVars false
namespace Go.Proofs.Ytebdajfangbdpaa.VI
open Go Go.RowKit Go.ChangeShapes

theorem ev_sound {P : Program} {K : FuncId → Option KF} (hK : ∀ f kf, K f = some kf → ∃ gc, cFunc P gc f = some kf) (hdr : ∀ call, CallOk P call → ∀ n, DrawnOk P call n) : CallOk P (ev K) := by
  intro f args H r H' h
  obtain ⟨n, hn⟩ := ev_some.1 h
  exact evalF_sound hK hdr n f args H r H' hn

theorem ev_ok {P : Program} (hm : P.follows .mixedOrders = true) {K : FuncId → Option KF} (hK : ∀ f kf, K f = some kf → ∃ gc, cFunc P gc f = some kf) : CallOk P (ev K) :=
  ev_sound hK fun _ hc n => drawn_ok hm hc n
/-! ### Arguments -/
def Ty.agg : Ty → Bool
  | .ar _ _ _ | .st _ => true
  | _ => false
def ArgA (H : AHeap) (ty : Ty) (a : AV) : Prop := ∃ cs, ArgOk H ty cs ∧ (ty.agg = true → a = .agg cs) ∧ (ty.agg = false → ∃ c, cs = [c] ∧ a = .c c)
theorem ArgA.app {H : AHeap} {ty : Ty} {a : AV} (h : ArgA H ty a) (T : List (Option Blk)) : ArgA (H ++ T) ty a := by
  obtain ⟨cs, h1, h2⟩ := h; exact ⟨cs, h1.app T, h2⟩
def ArgsOk (H : AHeap) : List Ty → List AV → Prop
  | [], [] => True
  | t :: ts, a :: as => ArgA H t a ∧ ArgsOk H ts as
  | _, _ => False
theorem ArgsOk.app {H : AHeap} : ∀ {ts : List Ty} {as : List AV}, ArgsOk H ts as → ∀ (T : List (Option Blk)), ArgsOk (H ++ T) ts as
  | [], [], _, _ => trivial
  | t :: ts, a :: as, h, T => ⟨h.1.app T, ArgsOk.app h.2 T⟩
  | [], _ :: _, h, _ => by cases h
  | _ :: _, [], h, _ => by cases h

def tysOf (P : Program) (m : Nat) : List TypeId → Option (List Ty)
  | [] => some []
  | t :: ts => match tyT P m t, tysOf P m ts with
    | some x, some l => some (x :: l)
    | _, _ => none

section
variable {H0 : Type} {enc : TypeId × Value → H0} {P : Program} {W : World}

theorem one_cell {ty : Ty} {H : AHeap} {cs : List CV} (h : ArgOk H ty cs) (ha : ty.agg = false) : ∃ c, cs = [c] := by
  cases h with
  | int _ => exact ⟨_, rfl⟩
  | bool => exact ⟨_, rfl⟩
  | str _ => exact ⟨_, rfl⟩
  | nil => exact ⟨_, rfl⟩
  | sl _ _ _ _ _ => exact ⟨_, rfl⟩
  | ar _ _ _ => simp [Ty.agg] at ha
  | st _ _ => simp [Ty.agg] at ha

theorem agg_of {m : Nat} {ty : Ty} {t : TypeId} {r : Reach} {b0 : Nat} {v : Value} (hty : tyT P m t = some ty) (hok : Value.okWide P W r b0 t v) :
    (ty.agg = true → ∃ cs, v = .agg cs) ∧ (ty.agg = false → v.cells = #[v]) := by
  cases m with
  | zero => simp [tyT] at hty
  | succ m =>
    unfold tyT at hty
    unfold Value.okWide at hok
    split at hty
    · rename_i hu
      simp at hty; subst hty
      rw [hu] at hok
      refine ⟨fun h => by simp [Ty.agg] at h, fun _ => ?_⟩
      cases v <;> first | rfl | (simp [Cell.okWide, Cell.ok, hu] at hok)
    · rename_i k hu
      simp at hty; subst hty
      rw [hu] at hok
      refine ⟨fun h => by simp [Ty.agg] at h, fun _ => ?_⟩
      cases v <;> first | rfl | (simp [Cell.okWide, Cell.ok, hu] at hok)
    · rename_i hu
      simp at hty; subst hty
      rw [hu] at hok
      refine ⟨fun h => by simp [Ty.agg] at h, fun _ => ?_⟩
      cases v <;> first | rfl | (simp [Cell.okWide, Cell.ok, hu] at hok)
    · rename_i e hu
      split at hty
      case h_2 => simp at hty
      split at hty
      case isFalse => simp at hty
      simp at hty; subst hty
      rw [hu] at hok
      refine ⟨fun h => by simp [Ty.agg] at h, fun _ => ?_⟩
      cases v <;> first | rfl | (simp [Cell.okWide, Cell.ok, hu] at hok)
    · rename_i n e hu
      split at hty
      case h_2 => simp at hty
      split at hty
      case isFalse => simp at hty
      simp at hty; subst hty
      rw [hu] at hok
      obtain ⟨cs, h, _⟩ := hok
      exact ⟨fun _ => ⟨cs, h⟩, fun h => by simp [Ty.agg] at h⟩
    · rename_i fs hu
      split at hty
      case h_2 => simp at hty
      split at hty
      case isFalse => simp at hty
      simp at hty; subst hty
      rw [hu] at hok
      obtain ⟨cs, h, _⟩ := hok
      exact ⟨fun _ => ⟨cs, h⟩, fun h => by simp [Ty.agg] at h⟩
    · simp at hty

theorem arg_open {m : Nat} {ty : Ty} {t : TypeId} {v : Value} {d : DataW H0} {ps : List MemPlace} {r : Reach} {b0 : Nat} (hty : tyT P m t = some ty) (ht : DataW.Trod enc P W 0 (fun _ => true) true t v d ps) (hok : Value.okWide P W r b0 t v)
    (hw : ∀ n ∈ d.weights P t, n ≤ reachBytes) {β : Beta} {H : AHeap} (hr : HR W.heap.size β H W) :
    ∃ (β' : Beta) (T : AHeap) (a : AV), Ext β β' ∧ HR W.heap.size β' (H ++ T) W ∧ a.rel β' v ∧ ArgA (H ++ T) ty a := by
  obtain ⟨fuel, hf⟩ := ht
  obtain ⟨β', T, acs, e1, h1, hc, ho⟩ := opens hty hf hw β H hr
  obtain ⟨g1, g2⟩ := agg_of hty hok
  cases hag : ty.agg with
  | true =>
    obtain ⟨cs, rfl⟩ := g1 hag
    refine ⟨β', T, .agg acs, e1, h1, ⟨cs.toList, by simp, hc⟩, acs, ho, fun _ => rfl, fun h => by rw [hag] at h; simp at h⟩
  | false =>
    obtain ⟨c, rfl⟩ := one_cell ho hag
    have := g2 hag
    rw [this] at hc
    obtain ⟨x, xs, h2, h3, _⟩ := hc.cons_inv
    simp at h2
    rw [← h2.1] at h3
    exact ⟨β', T, .c c, e1, h1, h3, [c], ho, fun h => by rw [hag] at h; simp at h, fun _ => ⟨c, rfl, rfl⟩⟩

theorem args_open {m : Nat} {r : Reach} {b0 : Nat} : ∀ {ts : List TypeId} {tys : List Ty} {vs : List Value} {ds : List (DataW H0)} {ps : List MemPlace}, tysOf P m ts = some tys → DataW.TrodAll enc P W 0 (fun _ => true) true ts vs ds ps →
    (∀ (j : Nat) t v, ts[j]? = some t → vs[j]? = some v → Value.okWide P W r b0 t v) → (∀ n ∈ DataW.weightsEach P ts ds, n ≤ reachBytes) → ∀ {β : Beta} {H : AHeap}, HR W.heap.size β H W →
    ∃ (β' : Beta) (T : AHeap) (as : List AV), Ext β β' ∧ HR W.heap.size β' (H ++ T) W ∧ Vals β' as vs ∧ ArgsOk (H ++ T) tys as
  | [], tys, vs, ds, ps, hty, hA, hok, hw, β, H, hr => by
    simp [tysOf] at hty; subst hty
    cases vs <;> cases ds <;> simp [DataW.TrodAll] at hA
    exact ⟨β, [], [], .refl _, by simpa using hr, Vals.nil _, trivial⟩
  | t :: ts, tys, vs, ds, ps, hty, hA, hok, hw, β, H, hr => by
    obtain ⟨v, vs', d, ds', p, q, rfl, rfl, rfl, hA1, hA2⟩ := trodAll_cons hA
    unfold tysOf at hty
    split at hty
    case h_2 => simp at hty
    rename_i ty l h1 h2
    simp at hty; subst hty
    obtain ⟨β1, T1, a, e1, r1, rel1, o1⟩ := arg_open h1 hA1 (hok 0 t v rfl rfl) (fun n hn => hw n (by simp only [DataW.weightsEach, List.mem_append]; exact .inl hn)) hr
    obtain ⟨β2, T2, as, e2, r2, rel2, o2⟩ := args_open h2 hA2 (fun j t' v' hj hv => hok (j + 1) t' v' (by simpa using hj) (by simpa using hv)) (fun n hn => hw n (by simp only [DataW.weightsEach, List.mem_append]; exact .inr hn)) r1
    rw [List.append_assoc] at r2 o2
    refine ⟨β2, T1 ++ T2, a :: as, e1.trans e2, r2, Vals.cons (AV.rel_ext e2 rel1) rel2, ?_, o2⟩
    have := o1.app T2
    rw [List.append_assoc] at this; exact this

theorem backAll (hl : laidOutB P = true) {W' : World} (hb : Below W.heap.size W W') : ∀ {ts : List TypeId} {vs : List Value} {ds : List (DataW H0)} {ps : List MemPlace}, (ts.all fun t => P.readableRec t && decide (t < P.types.size)) = true →
    DataW.TrodAll enc P W 0 (fun _ => true) true ts vs ds ps → DataW.TrodAll enc P W' 0 (fun b => decide (b < W.heap.size)) true ts vs ds ps
  | [], vs, ds, ps, _, hA => by
    cases vs <;> cases ds <;> simp [DataW.TrodAll] at hA ⊢
    exact hA
  | t :: ts, vs, ds, ps, hr, hA => by
    obtain ⟨v, vs', d, ds', p, q, rfl, rfl, rfl, hA1, hA2⟩ := trodAll_cons hA
    simp only [List.all_cons, Bool.and_eq_true, decide_eq_true_eq] at hr
    refine ⟨p, q, Below.trod hl hr.1.1 hr.1.2 hA1 hb ?_, backAll hl hb hr.2 hA2, rfl⟩
    obtain ⟨m, hm⟩ := hA1
    exact DataW.trod_lt m _ _ _ hm

/-- A law that is true of the abstract machine is true. -/
theorem law_calls {call : CallA} (hc : CallOk P call) {m : Nat} {r : Reach} {b0 : Nat} {f : FuncId} {ts : List TypeId} {tys : List Ty} {args : Array Value} {ds : List (DataW H0)} {ps : List MemPlace} (hty : tysOf P m ts = some tys)
    (hA : DataW.TrodAll enc P W 0 (fun _ => true) true ts args.toList ds ps) (hok : ∀ (j : Nat) t v, ts[j]? = some t → args[j]? = some v → Value.okWide P W r b0 t v) (hw : (DataW.weightsEach P ts ds).all (· ≤ reachBytes) = true)
    (law : ∀ (H : AHeap) (as : List AV), ArgsOk H tys as → ∃ H', call f as H = some (.c (.bool true), H')) :
    Calls P f args W (fun e W' => e = .returned (.bool true) ∧ Below W.heap.size W W') := by
  have h0 : HR W.heap.size [] [] W := ⟨rfl, Nat.le_refl _, fun i blk h => by simp at h, fun i j bi bj b oi oj ki kj h => by simp at h⟩
  obtain ⟨β', T, as, _, hr, hv, ho⟩ := args_open hty hA (fun j t v hj hv => hok j t v hj (by simpa using hv)) (fun n hn => by simpa using List.all_eq_true.1 hw n hn) h0
  rw [List.nil_append] at hr ho
  obtain ⟨H', he⟩ := law T as ho
  obtain ⟨fn, _, _, _, hcalls⟩ := hc f as T _ H' he W.heap.size β' W args.toList hr hv
  rw [Array.toArray_toList] at hcalls
  refine hcalls.mono fun e w' ⟨β2, x, h1, h2, h3⟩ => ⟨?_, h3.below⟩
  have : x = .bool true := h2
  rw [h1, this]
end

/-! ### Arguments by their types -/
theorem ArgsOk.cons_inv {H : AHeap} {t : Ty} {ts : List Ty} {as : List AV} (h : ArgsOk H (t :: ts) as) : ∃ a as', as = a :: as' ∧ ArgA H t a ∧ ArgsOk H ts as' := by
  cases as with
  | nil => cases h
  | cons a as => exact ⟨a, as, rfl, h.1, h.2⟩
theorem ArgsOk.nil_inv {H : AHeap} {as : List AV} (h : ArgsOk H [] as) : as = [] := by
  cases as with
  | nil => rfl
  | cons a as => cases h
theorem ArgOk.int_inv {H : AHeap} {k : IntKind} {cs : List CV} (h : ArgOk H (.int k) cs) : ∃ n, cs = [.int k n] ∧ (Lit.int k n).wf = true := by
  cases h with | int h => exact ⟨_, rfl, h⟩
theorem ArgOk.bool_inv {H : AHeap} {cs : List CV} (h : ArgOk H .bool cs) : ∃ b, cs = [.bool b] := by
  cases h with | bool => exact ⟨_, rfl⟩
theorem ArgOk.str_inv {H : AHeap} {cs : List CV} (h : ArgOk H .str cs) : ∃ s : ByteArray, cs = [.str s] ∧ s.size ≤ 140737488351232 := by
  cases h with | str h => exact ⟨_, rfl, h⟩
theorem ArgOk.ar_inv {H : AHeap} {n size : Nat} {e : Ty} {cs : List CV} (h : ArgOk H (.ar n size e) cs) : ∃ parts : List (List CV), cs = parts.flatten ∧ parts.length = n ∧ (∀ p ∈ parts, p.length = size) ∧ ∀ p ∈ parts, ArgOk H e p := by
  cases h with | ar hl hz he => exact ⟨_, rfl, hl, hz, he⟩
theorem ints_of_parts {H : AHeap} {k : IntKind} : ∀ {parts : List (List CV)}, (∀ p ∈ parts, ArgOk H (.int k) p) → ∃ zs : List Int, zs.length = parts.length ∧ parts.flatten = zs.map (CV.int k) ∧ ∀ z ∈ zs, (Lit.int k z).wf = true
  | [], _ => ⟨[], rfl, rfl, fun z h => by cases h⟩
  | p :: ps, h => by
    obtain ⟨n, rfl, hn⟩ := (h p (by simp)).int_inv
    obtain ⟨zs, h1, h2, h3⟩ := ints_of_parts (parts := ps) (fun q hq => h q (by simp [hq]))
    exact ⟨n :: zs, by simp [h1], by simp [h2], fun z hz => by
      rcases List.mem_cons.1 hz with rfl | hz
      · exact hn
      · exact h3 z hz⟩
theorem ArgA.int_inv {H : AHeap} {k : IntKind} {a : AV} (h : ArgA H (.int k) a) : ∃ n, a = .c (.int k n) ∧ (Lit.int k n).wf = true := by
  obtain ⟨cs, h1, _, h2⟩ := h
  obtain ⟨c, rfl, rfl⟩ := h2 rfl
  obtain ⟨n, h3, h4⟩ := h1.int_inv
  simp at h3; subst h3
  exact ⟨n, rfl, h4⟩
theorem ArgA.bool_inv {H : AHeap} {a : AV} (h : ArgA H .bool a) : ∃ b, a = .c (.bool b) := by
  obtain ⟨cs, h1, _, h2⟩ := h
  obtain ⟨c, rfl, rfl⟩ := h2 rfl
  obtain ⟨n, h3⟩ := h1.bool_inv
  simp at h3; subst h3
  exact ⟨n, rfl⟩
theorem ArgA.str_inv {H : AHeap} {a : AV} (h : ArgA H .str a) : ∃ s : ByteArray, a = .c (.str s) ∧ s.size ≤ 140737488351232 := by
  obtain ⟨cs, h1, _, h2⟩ := h
  obtain ⟨c, rfl, rfl⟩ := h2 rfl
  obtain ⟨n, h3, h4⟩ := h1.str_inv
  simp at h3; subst h3
  exact ⟨n, rfl, h4⟩
theorem ArgA.ints_inv {H : AHeap} {n s : Nat} {k : IntKind} {a : AV} (h : ArgA H (.ar n s (.int k)) a) : ∃ zs : List Int, zs.length = n ∧ a = .agg (zs.map (CV.int k)) ∧ ∀ z ∈ zs, (Lit.int k z).wf = true := by
  obtain ⟨cs, h1, h2, _⟩ := h
  obtain ⟨parts, rfl, h3, _, h4⟩ := h1.ar_inv
  obtain ⟨zs, h5, h6, h7⟩ := ints_of_parts h4
  exact ⟨zs, by rw [h5, h3], by rw [h2 rfl, h6], h7⟩

section
variable {H0 : Type} {enc : TypeId × Value → H0} {P : Program} {W : World} {base : Nat} {sp : Nat → Bool} {held : Bool}
theorem dat0 {vs : List Value} {ds : List (DataW H0)} {ps : List MemPlace} (h : DataW.TrodAll enc P W base sp held [] vs ds ps) : ds = [] := by
  cases vs <;> cases ds <;> simp [DataW.TrodAll] at h ⊢
theorem dat1 {t : TypeId} {vs : List Value} {ds : List (DataW H0)} {ps : List MemPlace} (h : DataW.TrodAll enc P W base sp held [t] vs ds ps) : ∃ d, ds = [d] := by
  obtain ⟨_, _, d, _, _, _, _, rfl, _, _, h⟩ := trodAll_cons h
  exact ⟨d, by rw [dat0 h]⟩
theorem dat2 {t u : TypeId} {vs : List Value} {ds : List (DataW H0)} {ps : List MemPlace} (h : DataW.TrodAll enc P W base sp held [t, u] vs ds ps) : ∃ d e, ds = [d, e] := by
  obtain ⟨_, _, d, _, _, _, _, rfl, _, _, h⟩ := trodAll_cons h
  obtain ⟨e, rfl⟩ := dat1 h
  exact ⟨d, e, rfl⟩
theorem dat3 {t u x : TypeId} {vs : List Value} {ds : List (DataW H0)} {ps : List MemPlace} (h : DataW.TrodAll enc P W base sp held [t, u, x] vs ds ps) : ∃ d e f, ds = [d, e, f] := by
  obtain ⟨_, _, d, _, _, _, _, rfl, _, _, h⟩ := trodAll_cons h
  obtain ⟨e, f, rfl⟩ := dat2 h
  exact ⟨d, e, f, rfl⟩
theorem dat4 {t u x y : TypeId} {vs : List Value} {ds : List (DataW H0)} {ps : List MemPlace} (h : DataW.TrodAll enc P W base sp held [t, u, x, y] vs ds ps) : ∃ d e f g, ds = [d, e, f, g] := by
  obtain ⟨_, _, d, _, _, _, _, rfl, _, _, h⟩ := trodAll_cons h
  obtain ⟨e, f, g, rfl⟩ := dat3 h
  exact ⟨d, e, f, g, rfl⟩
end
end Go.Proofs.Ytebdajfangbdpaa.VI
