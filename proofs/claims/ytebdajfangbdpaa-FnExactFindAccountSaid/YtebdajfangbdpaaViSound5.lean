/- An interpreter over an abstract heap, and its soundness over the machine: part Sound5. -/
import Derived.Test.YtebdajfangbdpaaViSound4
set_option linter.unusedVariables false
set_option linter.unusedSimpArgs false
set_option linter.unusedSectionVars false
namespace Go.Proofs.Ytebdajfangbdpaa.VI
open Go Go.RowKit

/-- What a call of the abstract machine says of the machine. -/
def CallOk (P : Program) (call : CallA) : Prop :=
  ∀ (f : FuncId) (args : List AV) (H : AHeap) (r : AV) (H' : AHeap), call f args H = some (r, H') → ∀ (B0 : Nat) (β : Beta) (w : World) (xs : List Value), HR B0 β H w → Vals β args xs →
    ∃ fn, P.funcs[f]? = some fn ∧ (fn.name == "runtime.NumGoroutine") = false ∧ fn.body.isNone = false ∧
      Calls P f xs.toArray w (fun e w' => ∃ β' x, e = .returned x ∧ r.rel β' x ∧ Go_ B0 β H w β' H' w')

theorem wp_of_ok {P : Program} {o : Oper} {a : Act} {B0 : Nat} {β : Beta} {H : AHeap} {w : World} {v : AV} {H' : AHeap} {K : Act → World → Prop} {Q : Exit → Act → World → Prop} (h : OpOk P o a B0 β H w v H')
    (hK : ∀ β' x w', v.rel β' x → Go_ B0 β H w β' H' w' → K (a.put o.dst x) w') : o.wp P a w K Q := by
  obtain ⟨β', x, w', h1, h2, h3⟩ := h
  unfold Oper.wp
  rcases h1 with h1 | ⟨h1, rfl⟩
  · rw [h1]; exact hK β' x w' h2 h3
  · rw [h1]; exact hK β' Go.undef w' h2 h3

section
variable {P : Program} {call : CallA} {B0 : Nat} {β : Beta} {H H' : AHeap} {σ : Sl} {a : Act} {w : World} {v : AV}

theorem res_call (hc : CallOk P call) (hs : SR β σ a) (hr : HR B0 β H w) {o : Oper} {f : Operand} {args : Array Operand} {ats : Array TypeId} (ho : o.op = .call ⟨.value f, args, ats⟩) {f' : Opd} {xs : List Opd} (hf : cOpd f = some f') (hx : cOpds args.toList = some xs)
    {g : FuncId} {caps : List (Nat × Nat)} (hg : f'.ev σ = .c (.fn g caps)) (he : call g (xs.map (Opd.ev σ) ++ caps.map fun p => .c (.ptr (some p))) H = some (v, H')) :
    ∃ f args, (execOp a.eval o).run P w = .ok (.enter f args) w ∧ Calls P f args w (fun e w' => ∃ β' x, e = .returned x ∧ v.rel β' x ∧ Go_ B0 β H w β' H' w') := by
  have rf := cOpd_rel hs hf
  rw [hg] at rf
  obtain ⟨cs, e1, e2, e3⟩ := rf
  have hv := cOpds_rel hs hx
  have hcv : Vals β (caps.map fun p => AV.c (.ptr (some p))) cs := by
    refine ⟨by simp [e2], fun j v hj => ?_⟩
    simp only [List.getElem?_map, Option.map_eq_some_iff] at hj
    obtain ⟨p, hp, rfl⟩ := hj
    obtain ⟨ad, h1, h2⟩ := e3 j p hp
    exact ⟨_, h2, ad, h1, rfl⟩
  obtain ⟨fn, h1, h2, h3, h4⟩ := hc _ _ _ _ _ he B0 β w _ hr (hv.append hcv)
  have hrun : (execOp a.eval o).run P w = .ok (.enter g (args.toList.map a.eval ++ cs).toArray) w := by
    obtain ⟨dst, op, type, pos, after, gd⟩ := o
    simp only at ho; subst ho
    have ha : args.map a.eval = (args.toList.map a.eval).toArray := by rw [← Array.toList_map, Array.toArray_toList]
    simp only [execOp, resolve, e1, Deferred.ofValue, Sem.run_bind, Sem.run_pure, Result.andThen_ok, invoke, callFunc, run_program, h1, h2, h3, Bool.false_eq_true, if_false, ha]
    simp
  exact ⟨_, _, hrun, h4⟩

/-- What an operation does: it yields, or it calls. -/
def OpRes (P : Program) (o : Oper) (a : Act) (B0 : Nat) (β : Beta) (H : AHeap) (w : World) (v : AV) (H' : AHeap) : Prop :=
  OpOk P o a B0 β H w v H' ∨ ∃ f args, (execOp a.eval o).run P w = .ok (.enter f args) w ∧ Calls P f args w (fun e w' => ∃ β' x, e = .returned x ∧ v.rel β' x ∧ Go_ B0 β H w β' H' w')

theorem OpRes.wp {P : Program} {o : Oper} {a : Act} {B0 : Nat} {β : Beta} {H : AHeap} {w : World} {v : AV} {H' : AHeap} {K : Act → World → Prop} {Q : Exit → Act → World → Prop} (h : OpRes P o a B0 β H w v H')
    (hK : ∀ β' x w', v.rel β' x → Go_ B0 β H w β' H' w' → K (a.put o.dst x) w') : o.wp P a w K Q := by
  rcases h with h | ⟨f, args, h1, h2⟩
  · exact wp_of_ok h hK
  · unfold Oper.wp
    rw [h1]
    simp only [Oper.upon]
    refine h2.mono ?_
    rintro e w' ⟨β', x, rfl, h5, h6⟩
    exact hK β' x w' h5 h6

theorem op_res (hc : CallOk P call) (hs : SR β σ a) (hr : HR B0 β H w) {o : Oper} {k : KOp} (h : cOp P o.op = some k) (he : evalOp call σ H k = some (v, H')) : OpRes P o a B0 β H w v H' := by
  obtain ⟨dst, op, type, pos, after, gd⟩ := o
  simp only at h
  cases op
  case move x =>
    simp only [cOp, Option.map_eq_some_iff] at h
    obtain ⟨y, hy, rfl⟩ := h
    simp only [evalOp, Option.some.injEq, Prod.mk.injEq] at he; obtain ⟨rfl, rfl⟩ := he
    exact .inl (ok_move hs hr hy)
  case assign x =>
    simp only [cOp, Option.map_eq_some_iff] at h
    obtain ⟨y, hy, rfl⟩ := h
    simp only [evalOp, Option.some.injEq, Prod.mk.injEq] at he; obtain ⟨rfl, rfl⟩ := he
    exact .inl (ok_assign hs hr hy)
  case pick c x y =>
    simp only [cOp] at h
    split at h
    case h_2 => simp at h
    rename_i c' x' y' h1 h2 h3
    simp at h; subst h
    simp only [evalOp] at he
    split at he
    case h_2 => simp at he
    rename_i t ht
    simp only [Option.some.injEq, Prod.mk.injEq] at he; obtain ⟨rfl, rfl⟩ := he
    exact .inl (ok_pick hs hr h1 h2 h3 ht)
  case alloc e =>
    simp only [cOp, Option.map_eq_some_iff] at h
    obtain ⟨z, hz, rfl⟩ := h
    simp only [evalOp, Option.some.injEq, Prod.mk.injEq] at he; obtain ⟨rfl, rfl⟩ := he
    exact .inl (ok_alloc hr hz)
  case box e x =>
    simp only [cOp, Option.map_eq_some_iff] at h
    obtain ⟨y, hy, rfl⟩ := h
    simp only [evalOp] at he
    split at he
    case h_2 => simp at he
    rename_i cs hcs
    simp only [Option.some.injEq, Prod.mk.injEq] at he; obtain ⟨rfl, rfl⟩ := he
    exact .inl (ok_box hs hr hy hcs)
  case build t parts =>
    simp only [cOp] at h
    split at h
    · rename_i z fs hz hu
      split at h
      case h_2 => simp at h
      rename_i pl hpl
      simp only [Option.map_eq_some_iff] at h
      obtain ⟨qs, hq, rfl⟩ := h
      simp only [evalOp] at he
      split at he
      case h_2 => simp at he
      rename_i l hl
      simp only [Option.map_eq_some_iff] at he
      obtain ⟨cs, hcs, he⟩ := he
      simp only [Prod.mk.injEq] at he; obtain ⟨rfl, rfl⟩ := he
      exact .inl (ok_build hs hr hz hq (.inl ⟨fs, pl, hu, hpl, rfl⟩) hl hcs)
    · rename_i z n e hz hu
      split at h
      case h_2 => simp at h
      rename_i s hss
      simp only [Option.map_eq_some_iff] at h
      obtain ⟨qs, hq, rfl⟩ := h
      simp only [evalOp] at he
      split at he
      case h_2 => simp at he
      rename_i l hl
      simp only [Option.map_eq_some_iff] at he
      obtain ⟨cs, hcs, he⟩ := he
      simp only [Prod.mk.injEq] at he; obtain ⟨rfl, rfl⟩ := he
      exact .inl (ok_build hs hr hz hq (.inr ⟨n, e, s, hu, hss, rfl⟩) hl hcs)
    · simp at h
  case buildSlice t len parts =>
    simp only [cOp] at h
    split at h
    case h_2 => simp at h
    rename_i e hu
    split at h
    case h_2 => simp at h
    rename_i z s hz hss
    split at h
    case isFalse => simp at h
    rename_i hcond
    simp only [Option.map_eq_some_iff] at h
    obtain ⟨qs, hq, rfl⟩ := h
    simp only [evalOp] at he
    split at he
    case h_2 => simp at he
    rename_i l hl
    simp only [Option.map_eq_some_iff] at he
    obtain ⟨cs, hcs, he⟩ := he
    simp only [Prod.mk.injEq] at he; obtain ⟨rfl, rfl⟩ := he
    exact .inl (ok_buildSl hs hr hu hz hss hcond.1 hcond.2 hq hl hcs)
  case load t x =>
    simp only [cOp] at h
    split at h
    · rename_i n y h1 h2 h3
      simp at h; subst h
      simp only [evalOp] at he
      split at he
      case h_2 => simp at he
      rename_i p hp
      simp only [Option.map_eq_some_iff] at he
      obtain ⟨cs, hcs, he⟩ := he
      simp only [Prod.mk.injEq] at he; obtain ⟨rfl, rfl⟩ := he
      exact .inl (ok_loadN hs hr h1 h2 h3 hp hcs)
    · rename_i y h1 h3
      simp at h; subst h
      simp only [evalOp] at he
      split at he
      case h_2 => simp at he
      rename_i p hp
      simp only [Option.map_eq_some_iff] at he
      obtain ⟨c, hcs, he⟩ := he
      simp only [Prod.mk.injEq] at he; obtain ⟨rfl, rfl⟩ := he
      exact .inl (ok_load1 hs hr h1 h3 hp hcs)
    · simp at h
  case store t x y =>
    simp only [cOp] at h
    split at h
    case h_2 => simp at h
    rename_i n x' y' h1 h2 h3
    simp at h; subst h
    simp only [evalOp] at he
    split at he
    case h_2 => simp at he
    rename_i p hp
    split at he
    case h_2 => simp at he
    rename_i cs hcs
    split at he
    case isFalse => simp at he
    rename_i hl
    simp only [Option.map_eq_some_iff] at he
    obtain ⟨H1, hw, he⟩ := he
    simp only [Prod.mk.injEq] at he; obtain ⟨rfl, rfl⟩ := he
    exact .inl (ok_store hs hr h1 h2 h3 hp hcs hl hw)
  case nilCheck x =>
    simp only [cOp, Option.map_eq_some_iff] at h
    obtain ⟨y, hy, rfl⟩ := h
    simp only [evalOp] at he
    split at he
    · rename_i p hp
      simp only [Option.some.injEq, Prod.mk.injEq] at he; obtain ⟨rfl, rfl⟩ := he
      exact .inl (ok_nilchk_ptr hs hr hy hp)
    · rename_i f cs hp
      simp only [Option.some.injEq, Prod.mk.injEq] at he; obtain ⟨rfl, rfl⟩ := he
      exact .inl (ok_nilchk_fn hs hr hy hp)
    · simp at he
  case binOp op t x y yt =>
    simp only [cOp] at h
    split at h
    case h_2 => simp at h
    rename_i x' y' h1 h2
    simp at h; subst h
    simp only [evalOp, Option.map_eq_some_iff] at he
    obtain ⟨u, hu, he⟩ := he
    simp only [Prod.mk.injEq] at he; obtain ⟨rfl, rfl⟩ := he
    exact .inl (ok_bin hs hr h1 h2 hu)
  case unOp op t x =>
    simp only [cOp, Option.map_eq_some_iff] at h
    obtain ⟨y, hy, rfl⟩ := h
    simp only [evalOp, Option.map_eq_some_iff] at he
    obtain ⟨u, hu, he⟩ := he
    simp only [Prod.mk.injEq] at he; obtain ⟨rfl, rfl⟩ := he
    exact .inl (ok_un hs hr hy hu)
  case convert src d x =>
    simp only [cOp] at h
    split at h
    · rename_i k0 k x' h1 h2 h3
      simp at h; subst h
      simp only [evalOp] at he
      split at he
      case h_2 => simp at he
      rename_i k1 n hn
      simp only [Option.some.injEq, Prod.mk.injEq] at he; obtain ⟨rfl, rfl⟩ := he
      exact .inl (ok_conv hs hr h1 h2 h3 hn)
    · rename_i e x' h1 h2 h3
      split at h
      case h_2 => simp at h
      rename_i h4
      simp at h; subst h
      simp only [evalOp] at he
      split at he
      · rename_i l c hp
        simp only [Option.some.injEq, Prod.mk.injEq] at he; obtain ⟨rfl, rfl⟩ := he
        exact .inl (ok_convBS hs hr h1 h2 h4 h3 (.inl ⟨l, c, hp, rfl⟩))
      · rename_i p l c hp
        split at he
        · rename_i hl
          simp only [Option.some.injEq, Prod.mk.injEq] at he; obtain ⟨rfl, rfl⟩ := he
          exact .inl (ok_convBS hs hr h1 h2 h4 h3 (.inr ⟨p, l, c, hp, .inl ⟨hl, rfl⟩⟩))
        · rename_i hl
          split at he
          case h_2 => simp at he
          rename_i cs hcs
          simp only [Option.map_eq_some_iff] at he
          obtain ⟨bs, hbs, he⟩ := he
          simp only [Prod.mk.injEq] at he; obtain ⟨rfl, rfl⟩ := he
          exact .inl (ok_convBS hs hr h1 h2 h4 h3 (.inr ⟨p, l, c, hp, .inr ⟨hl, cs, bs, hcs, hbs, rfl⟩⟩))
      · simp at he
    · simp at h
  case index t x i =>
    simp only [cOp] at h
    split at h
    · rename_i n e x' i' h1 h2 h3
      split at h
      · rename_i s h4 h5
        simp at h; subst h
        simp only [evalOp] at he
        split at he
        case h_2 => simp at he
        rename_i cs k m hp hm
        split at he
        case isFalse => simp at he
        rename_i hb
        simp only [Option.some.injEq, Prod.mk.injEq] at he; obtain ⟨rfl, rfl⟩ := he
        exact .inl (ok_idxN hs hr h1 h4 h5 h2 h3 hp hm ⟨hb.1, hb.2.1⟩)
      · rename_i h4 h5
        simp at h; subst h
        simp only [evalOp] at he
        split at he
        case h_2 => simp at he
        rename_i cs k m hp hm
        split at he
        case isFalse => simp at he
        rename_i hb
        simp only [Option.map_eq_some_iff] at he
        obtain ⟨c, hcs, he⟩ := he
        simp only [Prod.mk.injEq] at he; obtain ⟨rfl, rfl⟩ := he
        exact .inl (ok_idx1 hs hr h1 h4 h5 h2 h3 hp hm hb hcs)
      · simp at h
    · rename_i x' i' h1 h2 h3
      simp at h; subst h
      simp only [evalOp] at he
      split at he
      case h_2 => simp at he
      rename_i s k m hp hm
      split at he
      case isFalse => simp at he
      rename_i hb
      simp only [Option.map_eq_some_iff] at he
      obtain ⟨c, hcs, he⟩ := he
      simp only [Prod.mk.injEq] at he; obtain ⟨rfl, rfl⟩ := he
      exact .inl (ok_idxStr hs hr h1 h2 h3 hp hm hb hcs)
    · simp at h
  case indexAddr t x i =>
    simp only [cOp] at h
    split at h
    · rename_i n e x' i' h1 h2 h3
      simp only [Option.map_eq_some_iff] at h
      obtain ⟨s, hss, rfl⟩ := h
      simp only [evalOp] at he
      split at he
      case h_2 => simp at he
      rename_i p k m hp hm
      split at he
      case isFalse => simp at he
      rename_i hb
      simp only [Option.some.injEq, Prod.mk.injEq] at he; obtain ⟨rfl, rfl⟩ := he
      exact .inl (ok_idxA hs hr h1 hss h2 h3 hp hm hb)
    · rename_i e x' i' h1 h2 h3
      simp only [Option.map_eq_some_iff] at h
      obtain ⟨s, hss, rfl⟩ := h
      simp only [evalOp] at he
      split at he
      case h_2 => simp at he
      rename_i p l c k m hp hm
      split at he
      case isFalse => simp at he
      rename_i hb
      simp only [Option.some.injEq, Prod.mk.injEq] at he; obtain ⟨rfl, rfl⟩ := he
      exact .inl (ok_idxS hs hr h1 hss h2 h3 hp hm hb)
    · simp at h
  case fieldAddr t x f =>
    simp only [cOp] at h
    split at h
    case h_2 => simp at h
    rename_i fs x' h1 h2
    split at h
    case h_2 => simp at h
    rename_i fd h3
    split at h
    case h_2 => simp at h
    rename_i n h4
    simp at h; subst h
    simp only [evalOp] at he
    split at he
    case h_2 => simp at he
    rename_i p hp
    simp only [Option.some.injEq, Prod.mk.injEq] at he; obtain ⟨rfl, rfl⟩ := he
    exact .inl (ok_fldA hs hr h1 h3 h4 h2 hp)
  case field t x f =>
    simp only [cOp] at h
    split at h
    case h_2 => simp at h
    rename_i fs x' h1 h2
    split at h
    case h_2 => simp at h
    rename_i fd h3
    split at h
    · rename_i n h4 h5
      simp at h; subst h
      simp only [evalOp] at he
      split at he
      case h_2 => simp at he
      rename_i cs hp
      split at he
      case isFalse => simp at he
      simp only [Option.some.injEq, Prod.mk.injEq] at he; obtain ⟨rfl, rfl⟩ := he
      exact .inl (ok_fldN hs hr h1 h3 h4 h5 h2 hp)
    · rename_i n h4 h5
      simp at h; subst h
      simp only [evalOp] at he
      split at he
      case h_2 => simp at he
      rename_i cs hp
      simp only [Option.map_eq_some_iff] at he
      obtain ⟨c, hcs, he⟩ := he
      simp only [Prod.mk.injEq] at he; obtain ⟨rfl, rfl⟩ := he
      exact .inl (ok_fld1 hs hr h1 h3 h4 h2 hp hcs)
    · simp at h
  case slice t x lo hi mx =>
    simp only [cOp] at h
    split at h
    · rename_i e x' lo' hi' mx' h1 h2 h3 h4 h5
      simp only [Option.map_eq_some_iff] at h
      obtain ⟨s, hss, rfl⟩ := h
      simp only [evalOp] at he
      split at he
      case h_2 => simp at he
      rename_i l h m hl hh hm
      simp only [Option.map_eq_some_iff] at he
      obtain ⟨u, hu, he⟩ := he
      simp only [Prod.mk.injEq] at he; obtain ⟨rfl, rfl⟩ := he
      exact .inl (ok_sliceS hs hr h1 hss h2 h3 h4 h5 hl hh hm hu)
    · rename_i x' lo' hi' h1 h2 h3 h4 h5
      simp at h; subst h
      have hmx : mx = none := by cases mx <;> simp [cOpt] at h5 ⊢
      subst hmx
      simp only [evalOp] at he
      split at he
      case h_2 => simp at he
      rename_i l h hl hh
      simp only [Option.map_eq_some_iff] at he
      obtain ⟨u, hu, he⟩ := he
      simp only [Prod.mk.injEq] at he; obtain ⟨rfl, rfl⟩ := he
      exact .inl (ok_sliceStr hs hr h1 h2 h3 h4 hl hh hu)
    · simp at h
  case makeSlice t l c =>
    simp only [cOp] at h
    split at h
    case h_2 => simp at h
    rename_i e l' c' h1 h2 h3
    split at h
    case h_2 => simp at h
    rename_i z i h4 h5
    split at h
    case isFalse => simp at h
    rename_i hcond
    simp at h; subst h
    simp only [evalOp] at he
    split at he
    case h_2 => simp at he
    rename_i k1 n k2 m hn hm
    split at he
    case isFalse => simp at he
    rename_i hb
    simp only [Option.some.injEq, Prod.mk.injEq] at he; obtain ⟨rfl, rfl⟩ := he
    exact .inl (ok_mkSl hs hr h1 h2 h3 h4 h5 hcond.1 hcond.2 hn hm hb)
  case makeFunc fn first captured =>
    cases fn <;> simp only [cOp] at h
    case func f =>
      split at h
      case isFalse => simp at h
      rename_i hf
      simp only [Option.map_eq_some_iff] at h
      obtain ⟨caps, hcaps, rfl⟩ := h
      simp only [evalOp, Option.map_eq_some_iff] at he
      obtain ⟨l, hl, he⟩ := he
      simp only [Prod.mk.injEq] at he; obtain ⟨rfl, rfl⟩ := he
      exact .inl (ok_mkFn hs hr hf hcaps hl)
    all_goals simp at h
  case extract t ix =>
    simp only [cOp, Option.map_eq_some_iff] at h
    obtain ⟨y, hy, rfl⟩ := h
    simp only [evalOp] at he
    split at he
    case h_2 => simp at he
    rename_i vs hp
    simp only [Option.map_eq_some_iff] at he
    obtain ⟨u, hu, he⟩ := he
    simp only [Prod.mk.injEq] at he; obtain ⟨rfl, rfl⟩ := he
    exact .inl (ok_ext hs hr hy hp hu)
  case call c =>
    obtain ⟨callee, args, ats⟩ := c
    cases callee
    case value f =>
      simp only [cOp] at h
      split at h
      case h_2 => simp at h
      rename_i f' xs h1 h2
      simp at h; subst h
      simp only [evalOp] at he
      split at he
      case h_2 => simp at he
      rename_i g caps hg
      exact .inr (res_call hc hs hr rfl h1 h2 hg he)
    case invoke r m => simp [cOp] at h
    case builtin b =>
      cases b <;> (try (simp [cOp] at h; done))
      case len =>
        simp only [cOp] at h
        split at h
        case h_2 => simp at h
        rename_i t x h1 h2
        split at h
        · rename_i x' h3 h4
          simp at h; subst h
          simp only [evalOp] at he
          split at he
          · rename_i e _; cases e
          · rename_i s _ hp
            simp only [Option.some.injEq, Prod.mk.injEq] at he; obtain ⟨rfl, rfl⟩ := he
            exact .inl (ok_lenStr hs hr h1 h2 h3 h4 hp)
          · simp at he
        · rename_i e x' h3 h4
          simp at h; subst h
          simp only [evalOp] at he
          split at he
          · rename_i p l c _ hp
            simp only [Option.some.injEq, Prod.mk.injEq] at he; obtain ⟨rfl, rfl⟩ := he
            exact .inl (ok_lenS hs hr h1 h2 h3 h4 hp)
          · rename_i e _; cases e
          · simp at he
        · rename_i n e x' h3 h4
          simp at h; subst h
          simp only [evalOp, Option.some.injEq, Prod.mk.injEq] at he; obtain ⟨rfl, rfl⟩ := he
          exact .inl (ok_lenA hs hr h1 h2 h3 h4)
        · simp at h
      case append =>
        simp only [cOp] at h
        split at h
        case h_2 => simp at h
        rename_i t t2 x y h1 h2 h3
        split at h
        · rename_i e e2 x' y' h4 h5 h6 h7
          split at h
          case h_2 => simp at h
          rename_i z i h8 h9
          split at h
          case isFalse => simp at h
          rename_i hcond
          simp at h; subst h
          simp only [evalOp] at he
          exact .inl (ok_append hs hr h1 h2 h3 h4 (.inr ⟨_, h5⟩) h6 h7 h8 h9 hcond.1 hcond.2.1 hcond.2.2 he)
        · rename_i e x' y' h4 h5 h6 h7
          split at h
          case h_2 => simp at h
          rename_i z i h8 h9
          split at h
          case isFalse => simp at h
          rename_i hcond
          simp at h; subst h
          simp only [evalOp] at he
          exact .inl (ok_append hs hr h1 h2 h3 h4 (.inl h5) h6 h7 h8 h9 hcond.1 hcond.2.1 hcond.2.2 he)
        · simp at h
      case min =>
        simp only [cOp, Option.map_eq_some_iff] at h
        obtain ⟨xs, hxs, rfl⟩ := h
        simp only [evalOp] at he
        split at he
        case h_2 => simp at he
        rename_i k n r hr1
        simp only [Option.map_eq_some_iff] at he
        obtain ⟨m, hm, he⟩ := he
        simp only [Prod.mk.injEq] at he; obtain ⟨rfl, rfl⟩ := he
        exact .inl (ok_min hs hr hxs hr1 hm)
      case max =>
        simp only [cOp, Option.map_eq_some_iff] at h
        obtain ⟨xs, hxs, rfl⟩ := h
        simp only [evalOp] at he
        split at he
        case h_2 => simp at he
        rename_i k n r hr1
        simp only [Option.map_eq_some_iff] at he
        obtain ⟨m, hm, he⟩ := he
        simp only [Prod.mk.injEq] at he; obtain ⟨rfl, rfl⟩ := he
        exact .inl (ok_max hs hr hxs hr1 hm)
  all_goals (simp [cOp] at h; done)
theorem op_sound (hc : CallOk P call) (hs : SR β σ a) (hr : HR B0 β H w) {o : Oper} {k : KOp} (h : cOp P o.op = some k) (he : evalOp call σ H k = some (v, H')) {K : Act → World → Prop} {Q : Exit → Act → World → Prop}
    (hK : ∀ β' x w', v.rel β' x → Go_ B0 β H w β' H' w' → K (a.put o.dst x) w') : o.wp P a w K Q := (op_res hc hs hr h he).wp hK
end

end Go.Proofs.Ytebdajfangbdpaa.VI
