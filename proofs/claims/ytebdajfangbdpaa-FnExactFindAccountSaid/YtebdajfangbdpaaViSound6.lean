/- An interpreter over an abstract heap, and its soundness over the machine: part Sound6. -/
import Derived.Test.YtebdajfangbdpaaViSound5
set_option linter.unusedVariables false
set_option linter.unusedSimpArgs false
set_option linter.unusedSectionVars false
namespace Go.Proofs.Ytebdajfangbdpaa.VI
open Go Go.RowKit

theorem rel_is_bool {β : Beta} {v : AV} {b : Bool} (h : v.rel β (.bool b)) : v = .c (.bool b) := by
  cases v with
  | c v =>
    cases v with
    | bool b' => have : Value.bool b = .bool b' := h; simp at this; rw [this]
    | ptr a => cases a with
      | none => simp [AV.rel, CV.rel] at h
      | some p => obtain ⟨_, _, h⟩ := h; simp at h
    | slice a l c => cases a with
      | none => simp [AV.rel, CV.rel] at h
      | some p => obtain ⟨_, _, _, _, h, _⟩ := h; simp at h
    | fn f c => obtain ⟨_, h, _⟩ := h; simp at h
    | undef => simp [AV.rel, CV.rel, Go.undef] at h
    | _ => simp [AV.rel, CV.rel] at h
  | agg cs => obtain ⟨_, h, _⟩ := h; simp at h
  | tup vs => obtain ⟨_, h, _⟩ := h; simp at h

section
variable {P : Program} {call : CallA} {B0 : Nat} {n : Nat} {ops : Array Oper}

theorem want_eq {β : Beta} {σ : Sl} {a : Act} (hs : SR β σ a) {o : Oper} {k : KO} (h : cOper P n ops o = some k) : Region.wanted o (yielded ops a.tmps) = wantA σ k.g := by
  unfold cOper at h
  split at h
  case isFalse => simp at h
  split at h
  case h_2 => simp at h
  split at h
  · rename_i hg
    simp at h; subst h
    simp [Region.wanted, hg, wantA]
  · rename_i j want hg
    simp only [Option.map_eq_some_iff] at h
    obtain ⟨s, hsl, rfl⟩ := h
    unfold cSlot at hsl
    have hr := hs.at_ s
    by_cases hb : ∃ b, σ s = .c (.bool b)
    · obtain ⟨b, hb⟩ := hb
      rw [hb] at hr
      have hx : a.tmps.getD s Go.undef = .bool b := hr
      have ht : a.tmps[s]? = some (.bool b) := by
        cases ht : a.tmps[s]? with
        | none => rw [Array.getD_eq_getD_getElem?, ht] at hx; simp [Go.undef] at hx
        | some x => rw [Array.getD_eq_getD_getElem?, ht] at hx; simp at hx; rw [hx]
      simp only [Region.wanted, hg, wantA, yielded, hsl, Option.bind_some, ht, hb]
      rw [Bool.eq_iff_iff]; simp
    · have h1 : wantA σ (some (s, want)) = false := by
        unfold wantA
        split
        · rename_i e; cases e
        · rename_i e
          cases e
          split
          · rename_i b hb'; exact absurd ⟨b, hb'⟩ hb
          · rfl
      rw [h1]
      simp only [Region.wanted, hg, yielded, hsl, Option.bind_some]
      cases ht : a.tmps[s]? with
      | none => simp
      | some x =>
        have e : a.tmps.getD s Go.undef = x := by simp [Array.getD_eq_getD_getElem?, ht]
        rw [e] at hr
        cases x with
        | bool b => exact absurd ⟨b, rel_is_bool hr⟩ hb
        | _ => simp

theorem cOper_parts {o : Oper} {k : KO} (h : cOper P n ops o = some k) : k.dst = o.dst ∧ cOp P o.op = some k.op ∧ (∀ d, o.dst = some d → d < n) := by
  unfold cOper at h
  split at h
  case isFalse => simp at h
  rename_i hd
  split at h
  case h_2 => simp at h
  rename_i kop hk
  have hdst : ∀ d, o.dst = some d → d < n := by
    intro d hd'
    rw [hd'] at hd
    simpa [dstOk] using hd
  split at h
  · simp at h; subst h; exact ⟨rfl, hk, hdst⟩
  · simp only [Option.map_eq_some_iff] at h
    obtain ⟨s, _, rfl⟩ := h
    exact ⟨rfl, hk, hdst⟩

theorem put_defers' {a : Act} {d : Option Tmp} {x : Value} : (a.put d x).defers = a.defers := by cases d <;> rfl

theorem ko_sound (hc : CallOk P call) {β : Beta} {σ σ' : Sl} {H H' : AHeap} {a : Act} {w : World} (hs : SR β σ a) (hn : a.tmps.size = n) (hd : a.defers = []) (hr : HR B0 β H w) {i : Nat} {o : Oper} {k : KO} (hi : ops[i]? = some o) (h : cOper P n ops o = some k) (he : evalKO call k (σ, H) = some (σ', H'))
    {K : Act → World → Prop} {Q : Exit → Act → World → Prop} (hK : ∀ β' a' w', SR β' σ' a' → a'.tmps.size = n → a'.defers = [] → Go_ B0 β H w β' H' w' → K a' w') : wpOp P ops Q i K a w := by
  obtain ⟨hdst, hop, hlt⟩ := cOper_parts h
  have hw := want_eq hs h
  unfold evalKO at he
  unfold wpOp
  simp only [hi]
  rw [hw]
  split
  · rename_i hwa
    rw [if_pos hwa] at he
    simp only [Option.map_eq_some_iff] at he
    obtain ⟨⟨v, H1⟩, he, e⟩ := he
    simp only [Prod.mk.injEq] at e
    obtain ⟨rfl, rfl⟩ := e
    refine .inl (op_sound hc hs hr hop he fun β' x w' hv hg => ?_)
    refine hK β' _ w' ?_ (by rw [put_size]; exact hn) (by rw [put_defers']; exact hd) hg
    rw [hdst]
    exact (hs.ext hg.ext).put (fun d e => by rw [hn]; exact hlt d e) hv
  · rename_i hwa
    rw [if_neg hwa] at he
    simp only [Option.some.injEq, Prod.mk.injEq] at he
    obtain ⟨rfl, rfl⟩ := he
    refine hK β _ w ?_ (by rw [put_size]; exact hn) (by rw [put_defers']; exact hd) (.refl hr)
    rw [hdst]
    exact hs.put (fun d e => by rw [hn]; exact hlt d e) rfl

theorem ops_sound (hc : CallOk P call) {Q : Exit → Act → World → Prop} : ∀ (l : List Oper) (i : Nat) (ks : List KO) (β : Beta) (σ σ' : Sl) (H H' : AHeap) (a : Act) (w : World), (∀ j, l[j]? = ops[i + j]?) → cOpers P n ops l = some ks → evalOps call ks (σ, H) = some (σ', H') →
    SR β σ a → a.tmps.size = n → a.defers = [] → HR B0 β H w → (∀ β' a' w', SR β' σ' a' → a'.tmps.size = n → a'.defers = [] → Go_ B0 β H w β' H' w' → Q .normal a' w') → wpOps P ops Q (List.range' i l.length) a w
  | [], i, ks, β, σ, σ', H, H', a, w, _, hk, he, hs, hn, hd, hr, hQ => by
    simp [cOpers] at hk; subst hk
    simp only [evalOps, Option.some.injEq, Prod.mk.injEq] at he
    obtain ⟨rfl, rfl⟩ := he
    simpa [wpOps] using hQ β a w hs hn hd (.refl hr)
  | o :: l, i, ks, β, σ, σ', H, H', a, w, hl, hk, he, hs, hn, hd, hr, hQ => by
    simp only [cOpers] at hk
    split at hk
    case h_2 => simp at hk
    rename_i k ks' h1 h2
    simp at hk; subst hk
    simp only [evalOps, Option.bind_eq_some_iff] at he
    obtain ⟨⟨σ1, H1⟩, he1, he2⟩ := he
    rw [List.length_cons, List.range'_succ, wpOps_cons]
    refine ko_sound hc hs hn hd hr (i := i) (o := o) (by simpa using (hl 0).symm) h1 he1 fun β1 a1 w1 hs1 hn1 hd1 hg1 => ?_
    refine ops_sound hc l (i + 1) ks' β1 σ1 σ' H1 H' a1 w1 (fun j => by have := hl (j + 1); simpa [Nat.add_assoc, Nat.add_comm 1 j] using this) h2 he2 hs1 hn1 hd1 hg1.hr fun β' a' w' h3 h4 h5 h6 => ?_
    exact hQ β' a' w' h3 h4 h5 (hg1.trans h6)

def Ex.toExit : Ex → Exit
  | .norm => .normal
  | .exit id => .exit id
  | .ret => .ret

/-- What is shown of a drawn region. -/
def DrawnOk (P : Program) (call : CallA) (n : Nat) : Prop :=
  ∀ (id : Nat) (ops : Array Oper) (k : KC), cDrawn P n ops = some k → ∀ (fuel : Nat) (B0 : Nat) (β : Beta) (σ : Sl) (H : AHeap) (ex : Ex) (σ' : Sl) (H' : AHeap) (a : Act) (w : World) (Q : Exit → Act → World → Prop),
    evalC call fuel k (σ, H) = some (ex, (σ', H')) → SR β σ a → a.tmps.size = n → a.defers = [] → HR B0 β H w → (∀ β' a' w', SR β' σ' a' → a'.tmps.size = n → a'.defers = [] → Go_ B0 β H w β' H' w' → Q ex.toExit a' w') → (Code.region id ops true).wp P Q a w

theorem code_sound (hc : CallOk P call) (hdr : DrawnOk P call n) (fuel : Nat) : ∀ (c : Code) (k : KC), cCode P n c = some k → ∀ (β : Beta) (σ : Sl) (H : AHeap) (ex : Ex) (σ' : Sl) (H' : AHeap) (a : Act) (w : World) (Q : Exit → Act → World → Prop),
    evalC call fuel k (σ, H) = some (ex, (σ', H')) → SR β σ a → a.tmps.size = n → a.defers = [] → HR B0 β H w → (∀ β' a' w', SR β' σ' a' → a'.tmps.size = n → a'.defers = [] → Go_ B0 β H w β' H' w' → Q ex.toExit a' w') → c.wp P Q a w := by
  intro c
  induction c with
  | skip =>
    intro k hk β σ H ex σ' H' a w Q he hs hn hd hr hQ
    simp [cCode] at hk; subst hk
    simp only [evalC, Option.some.injEq, Prod.mk.injEq] at he
    obtain ⟨rfl, rfl, rfl⟩ := he
    exact wp_skip (hQ β a w hs hn hd (.refl hr))
  | region id ops draw =>
    intro k hk β σ H ex σ' H' a w Q he hs hn hd hr hQ
    cases draw with
    | true =>
      simp only [cCode] at hk
      exact hdr id ops k hk fuel B0 β σ H ex σ' H' a w Q he hs hn hd hr hQ
    | false =>
      simp only [cCode, Option.map_eq_some_iff] at hk
      obtain ⟨ks, hks, rfl⟩ := hk
      simp only [evalC, Option.map_eq_some_iff] at he
      obtain ⟨⟨σ1, H1⟩, he, e⟩ := he
      simp only [Prod.mk.injEq] at e
      obtain ⟨rfl, rfl, rfl⟩ := e
      refine wp_region ?_
      have := ops_sound (n := n) hc (Q := Q) ops.toList 0 ks β σ σ1 H H1 a w (by simp) hks he hs hn hd hr hQ
      rw [List.range_eq_range']
      simpa using this
  | seq x y ihx ihy =>
    intro k hk β σ H ex σ' H' a w Q he hs hn hd hr hQ
    simp only [cCode] at hk
    split at hk
    case h_2 => simp at hk
    rename_i kx ky h1 h2
    simp at hk; subst hk
    simp only [evalC] at he
    refine wp_seq ?_
    cases hx : evalC call fuel kx (σ, H) with
    | none => rw [hx] at he; simp at he
    | some r =>
      obtain ⟨e1, σ1, H1⟩ := r
      rw [hx] at he
      refine ihx kx h1 β σ H e1 σ1 H1 a w _ hx hs hn hd hr fun β1 a1 w1 hs1 hn1 hd1 hg1 => ?_
      cases e1 with
      | norm =>
        simp only at he
        exact ihy ky h2 β1 σ1 H1 ex σ' H' a1 w1 Q he hs1 hn1 hd1 hg1.hr fun β' a' w' h3 h4 h5 h6 => hQ β' a' w' h3 h4 h5 (hg1.trans h6)
      | exit id =>
        simp only [Option.some.injEq, Prod.mk.injEq] at he
        obtain ⟨rfl, rfl, rfl⟩ := he
        exact hQ β1 a1 w1 hs1 hn1 hd1 hg1
      | ret =>
        simp only [Option.some.injEq, Prod.mk.injEq] at he
        obtain ⟨rfl, rfl, rfl⟩ := he
        exact hQ β1 a1 w1 hs1 hn1 hd1 hg1
  | cond x t e iht ihe =>
    intro k hk β σ H ex σ' H' a w Q he hs hn hd hr hQ
    simp only [cCode] at hk
    split at hk
    case h_2 => simp at hk
    rename_i kx kt ke h1 h2 h3
    simp at hk; subst hk
    simp only [evalC] at he
    split at he
    case h_2 => simp at he
    rename_i b hb
    have hxb := cOpd_rel hs h1
    rw [hb] at hxb
    refine wp_cond (t := b) (rel_bool hxb) ?_
    cases b
    · exact ihe ke h3 β σ H ex σ' H' a w Q (by simpa using he) hs hn hd hr hQ
    · exact iht kt h2 β σ H ex σ' H' a w Q (by simpa using he) hs hn hd hr hQ
  | block id c ih =>
    intro k hk β σ H ex σ' H' a w Q he hs hn hd hr hQ
    simp only [cCode, Option.map_eq_some_iff] at hk
    obtain ⟨kc, h1, rfl⟩ := hk
    simp only [evalC] at he
    refine wp_block ?_
    cases hx : evalC call fuel kc (σ, H) with
    | none => rw [hx] at he; simp at he
    | some r =>
      obtain ⟨e1, σ1, H1⟩ := r
      rw [hx] at he
      refine ih kc h1 β σ H e1 σ1 H1 a w _ hx hs hn hd hr fun β1 a1 w1 hs1 hn1 hd1 hg1 => ?_
      cases e1 with
      | norm =>
        simp only [Option.some.injEq, Prod.mk.injEq] at he
        obtain ⟨rfl, rfl, rfl⟩ := he
        exact hQ β1 a1 w1 hs1 hn1 hd1 hg1
      | exit j =>
        simp only at he
        by_cases hj : j = id
        · rw [if_pos hj] at he
          simp only [Option.some.injEq, Prod.mk.injEq] at he
          obtain ⟨rfl, rfl, rfl⟩ := he
          simp only [Ex.toExit, Exit.inBlock, hj, if_true]
          exact hQ β1 a1 w1 hs1 hn1 hd1 hg1
        · rw [if_neg hj] at he
          simp only [Option.some.injEq, Prod.mk.injEq] at he
          obtain ⟨rfl, rfl, rfl⟩ := he
          simp only [Ex.toExit, Exit.inBlock, hj, if_false]
          exact hQ β1 a1 w1 hs1 hn1 hd1 hg1
      | ret =>
        simp only [Option.some.injEq, Prod.mk.injEq] at he
        obtain ⟨rfl, rfl, rfl⟩ := he
        exact hQ β1 a1 w1 hs1 hn1 hd1 hg1
  | loop c ih =>
    intro k hk β σ H ex σ' H' a w Q he hs hn hd hr hQ
    simp only [cCode, Option.map_eq_some_iff] at hk
    obtain ⟨kc, h1, rfl⟩ := hk
    simp only [evalC] at he
    have key : ∀ (m : Nat) (β : Beta) (σ : Sl) (H : AHeap) (a : Act) (w : World), iter (evalC call fuel kc) m (σ, H) = some (ex, (σ', H')) → SR β σ a → a.tmps.size = n → a.defers = [] → HR B0 β H w →
        (∀ β' a' w', SR β' σ' a' → a'.tmps.size = n → a'.defers = [] → Go_ B0 β H w β' H' w' → Q ex.toExit a' w') → Code.rounds P c Q m a w := by
      intro m
      induction m with
      | zero => intro β σ H a w he; simp [iter] at he
      | succ m ihm =>
        intro β σ H a w he hs hn hd hr hQ
        simp only [iter] at he
        rw [rounds_succ]
        cases hx : evalC call fuel kc (σ, H) with
        | none => rw [hx] at he; simp at he
        | some r =>
          obtain ⟨e1, σ1, H1⟩ := r
          rw [hx] at he
          refine ih kc h1 β σ H e1 σ1 H1 a w _ hx hs hn hd hr fun β1 a1 w1 hs1 hn1 hd1 hg1 => ?_
          cases e1 with
          | norm =>
            simp only at he
            exact ihm β1 σ1 H1 a1 w1 he hs1 hn1 hd1 hg1.hr fun β' a' w' h3 h4 h5 h6 => hQ β' a' w' h3 h4 h5 (hg1.trans h6)
          | exit id =>
            simp only [Option.some.injEq, Prod.mk.injEq] at he
            obtain ⟨rfl, rfl, rfl⟩ := he
            exact hQ β1 a1 w1 hs1 hn1 hd1 hg1
          | ret =>
            simp only [Option.some.injEq, Prod.mk.injEq] at he
            obtain ⟨rfl, rfl, rfl⟩ := he
            exact hQ β1 a1 w1 hs1 hn1 hd1 hg1
    exact wp_loop_rounds fuel (key fuel β σ H a w he hs hn hd hr hQ)
  | exit id =>
    intro k hk β σ H ex σ' H' a w Q he hs hn hd hr hQ
    simp [cCode] at hk; subst hk
    simp only [evalC, Option.some.injEq, Prod.mk.injEq] at he
    obtain ⟨rfl, rfl, rfl⟩ := he
    exact wp_exit (hQ β a w hs hn hd (.refl hr))
  | ret =>
    intro k hk β σ H ex σ' H' a w Q he hs hn hd hr hQ
    simp [cCode] at hk; subst hk
    simp only [evalC, Option.some.injEq, Prod.mk.injEq] at he
    obtain ⟨rfl, rfl, rfl⟩ := he
    exact wp_ret (hQ β a w hs hn hd (.refl hr))
  | _ =>
    intro k hk
    simp [cCode] at hk

/-! ### Results -/
theorem res_sound {β : Beta} {σ : Sl} {H : AHeap} {a : Act} {w : World} (hs : SR β σ a) (hr : HR B0 β H w) (F : ResultVar → Sem Value) (hF1 : ∀ t, F (.tmp t) = pure (a.tmps.getD t Go.undef)) (hF2 : ∀ ad t, F (.cell ad t) = do loadVar t (← asAddr (a.tmps.getD ad Go.undef))) : ∀ {rs : List ResultVar} {ks : List KR} {vs : List V0}, cRes P rs = some ks → evalRs σ H ks = some vs →
    ∃ xs : List Value, (rs.mapM F).run P w = .ok xs w ∧ vs.length = xs.length ∧ ∀ (j : Nat) (v : V0), vs[j]? = some v → ∃ y, xs[j]? = some y ∧ v.rel β y
  | [], ks, vs, h1, h2 => by
    simp [cRes] at h1; subst h1
    simp [evalRs] at h2; subst h2
    exact ⟨[], rfl, rfl, fun j v h => by simp at h⟩
  | .tmp t :: rs, ks, vs, h1, h2 => by
    simp only [cRes, Option.map_eq_some_iff] at h1
    obtain ⟨ks', h1, rfl⟩ := h1
    simp only [evalRs] at h2
    split at h2
    case h_2 => simp at h2
    rename_i v l hv hl
    simp at h2; subst h2
    obtain ⟨xs, h3, h4, h5⟩ := res_sound hs hr F hF1 hF2 h1 hl
    refine ⟨a.tmps.getD t Go.undef :: xs, by simp only [List.mapM_cons, hF1, Sem.run_bind, Sem.run_pure, Result.andThen_ok, h3], by simp [h4], fun j u hj => ?_⟩
    cases j with
    | zero =>
      simp at hj; subst hj
      refine ⟨_, rfl, ?_⟩
      have := hs.at_ t
      simp only [evalR] at hv
      cases hσ : σ t with
      | c c => rw [hσ] at hv this; simp [AV.toV0?] at hv; subst hv; exact this
      | agg cs => rw [hσ] at hv this; simp [AV.toV0?] at hv; subst hv; exact this
      | tup vs => rw [hσ] at hv; simp [AV.toV0?] at hv
    | succ j => exact h5 j u (by simpa using hj)
  | .cell t ty :: rs, ks, vs, h1, h2 => by
    simp only [cRes] at h1
    split at h1
    · rename_i n l hg hn hl0
      simp at h1; subst h1
      simp only [evalRs] at h2
      split at h2
      case h_2 => simp at h2
      rename_i v l' hv hl
      simp at h2; subst h2
      obtain ⟨xs, h3, h4, h5⟩ := res_sound hs hr F hF1 hF2 hl0 hl
      simp only [evalR] at hv
      split at hv
      case h_2 => simp at hv
      rename_i p hp
      simp only [Option.map_eq_some_iff] at hv
      obtain ⟨cs, hcs, rfl⟩ := hv
      have ht := hs.at_ t
      rw [hp] at ht
      obtain ⟨ad, ha, e⟩ := rel_ptr ht
      obtain ⟨ys, h6, h7, h8⟩ := hr.loadCells (P := P) hcs ha
      refine ⟨.agg ys.toArray :: xs, by simp only [List.mapM_cons, hF2, e, asAddr, loadVar, Sem.run_bind, Sem.run_pure, Result.andThen_ok, run_isAgg hg, if_true, run_size hn, h7, h3], by simp [h4], fun j u hj => ?_⟩
      cases j with
      | zero => simp at hj; subst hj; exact ⟨_, rfl, ys, rfl, h8⟩
      | succ j => exact h5 j u (by simpa using hj)
    · rename_i l hg hn hl0
      simp at h1; subst h1
      simp only [evalRs] at h2
      split at h2
      case h_2 => simp at h2
      rename_i v l' hv hl
      simp at h2; subst h2
      obtain ⟨xs, h3, h4, h5⟩ := res_sound hs hr F hF1 hF2 hl0 hl
      simp only [evalR] at hv
      split at hv
      case h_2 => simp at hv
      rename_i p hp
      simp only [Option.map_eq_some_iff] at hv
      obtain ⟨c, hc, rfl⟩ := hv
      have ht := hs.at_ t
      rw [hp] at ht
      obtain ⟨ad, ha, e⟩ := rel_ptr ht
      obtain ⟨y, h6, h7⟩ := hr.readCell hc ha
      refine ⟨y :: xs, by simp only [List.mapM_cons, hF2, e, asAddr, loadVar, Sem.run_bind, Sem.run_pure, Result.andThen_ok, run_isAgg hg, Bool.false_eq_true, if_false, run_load, h6, h3], by simp [h4], fun j u hj => ?_⟩
      cases j with
      | zero => simp at hj; subst hj; exact ⟨_, rfl, h7⟩
      | succ j => exact h5 j u (by simpa using hj)
    · simp at h1

theorem mkRes_rel {β : Beta} {vs : List V0} {xs : List Value} (hl : vs.length = xs.length) (h : ∀ (j : Nat) (v : V0), vs[j]? = some v → ∃ y, xs[j]? = some y ∧ v.rel β y) :
    (mkRes vs).rel β (if h : xs.toArray.size = 1 then xs.toArray[0] else .tuple xs.toArray) := by
  match vs, xs, hl, h with
  | [v], [x], _, h =>
    obtain ⟨y, h1, h2⟩ := h 0 v rfl
    simp at h1; subst h1
    simp only [mkRes]
    cases v <;> exact h2
  | [], xs, hl, h =>
    have : xs = [] := by simpa using hl.symm
    subst this
    exact ⟨[], by simp, rfl, h⟩
  | v :: u :: vs, xs, hl, h =>
    have : ¬ xs.toArray.size = 1 := by simp at hl ⊢; omega
    rw [dif_neg this]
    exact ⟨xs, rfl, hl, h⟩

/-! ### Dropping what is new -/
theorem finish_sound {β β' : Beta} {H H1 H' : AHeap} {w w' : World} {gc : Bool} {v v' : AV} {x : Value} (hr : HR B0 β H w) (hg : Go_ B0 β H w β' H1 w') (hv : v.rel β' x) (h : finish gc H v H1 = some (v', H')) : ∃ β'', v'.rel β'' x ∧ Go_ B0 β H w β'' H' w' := by
  unfold finish at h
  split at h
  case isFalse => simp at h; obtain ⟨rfl, rfl⟩ := h; exact ⟨β', hv, hg⟩
  split at h
  case isFalse => simp at h
  rename_i hcond
  simp at h; obtain ⟨rfl, rfl⟩ := h
  obtain ⟨hp, hcond⟩ := hcond
  refine ⟨β, AV.plain_rel hp hv, ?_⟩
  have hle : H.length ≤ H1.length := by rw [← hr.len, ← hg.hr.len]; exact hg.ext.len
  have hget : ∀ (i : Nat) (blk : Blk), (H1.take H.length)[i]? = some (some blk) → i < H.length ∧ H1[i]? = some (some blk) := by
    intro i blk hi
    have hlt : i < H.length := by
      have := (List.getElem?_eq_some_iff.1 hi).1
      simp at this; omega
    rw [List.getElem?_take_of_lt hlt] at hi
    exact ⟨hlt, hi⟩
  -- the cells of what is kept lead to old blocks alone
  have hback : ∀ (i : Nat) (blk : Blk), i < H.length → H1[i]? = some (some blk) → ∀ c ∈ blk.cells, ∀ y, c.rel β' y → c.rel β y := by
    intro i blk hlt hi c hcm y hcy
    rcases hcond i blk hlt hi with hold | hval
    · -- it was there: its ids are told by β
      obtain ⟨j, hj⟩ := List.getElem?_of_mem hcm
      have hex : ∃ y0, c.rel β y0 := by
        rcases hr.blk i blk hold with ⟨_, ⟨b, o, k, _, _, h3⟩⟩ | ⟨_, ⟨b, xs, _, _, _, h4, _⟩⟩
        · obtain ⟨y0, _, h5⟩ := h3 j c hj; exact ⟨y0, h5⟩
        · obtain ⟨y0, _, h5⟩ := h4.2 j c hj; exact ⟨y0, h5⟩
      obtain ⟨y0, h0⟩ := hex
      refine CV.valid_rel hg.ext ?_ hcy
      have hid : ∀ (p : Nat × Nat) (ad : Addr), AddrRel β p ad → p.1 < β.length := fun p ad ⟨b, o, k, h1, _⟩ => (List.getElem?_eq_some_iff.1 h1).1
      cases c with
      | ptr q => cases q with
        | none => rfl
        | some p => obtain ⟨ad, h1, _⟩ := h0; simpa [CV.validIn] using hid p ad h1
      | slice q l cap => cases q with
        | none => rfl
        | some p =>
          obtain ⟨ad, cc, h1, _⟩ := h0
          simp only [CV.validIn, Bool.or_eq_true, Bool.not_eq_true', decide_eq_true_eq]
          cases hna : needsAddr l cap with
          | false => exact .inl rfl
          | true => exact .inr (hid p ad (h1 hna))
      | fn f caps =>
        obtain ⟨cs, _, _, h3⟩ := h0
        simp only [CV.validIn, List.all_eq_true, decide_eq_true_eq]
        intro p hp
        obtain ⟨j', hj'⟩ := List.getElem?_of_mem hp
        obtain ⟨ad, h4, _⟩ := h3 j' p hj'
        exact hid p ad h4
      | _ => rfl
    · refine CV.valid_rel hg.ext ?_ hcy
      rw [hr.len]
      exact List.all_eq_true.1 hval c hcm
  have hβ : ∀ (i : Nat), i < H.length → β'[i]? = β[i]? := fun i hi => hg.ext.get_lt (by rw [hr.len]; exact hi)
  refine ⟨⟨by rw [List.length_take, Nat.min_eq_left hle]; exact hr.len, hg.hr.base, fun i blk hi => ?_, ?_⟩, .refl _, hg.below, hg.fr, ?_⟩
  · obtain ⟨hlt, hi'⟩ := hget i blk hi
    have hb := hback i blk hlt hi'
    rcases hg.hr.blk i blk hi' with ⟨hm, ⟨b, o, k, h1, h2, h3⟩⟩ | ⟨hm, ⟨b, xs, h1, h2, h3, h4, h5⟩⟩
    · refine .inl ⟨hm, ⟨b, o, k, by rw [← hβ i hlt]; exact h1, h2, fun j c hc => ?_⟩⟩
      obtain ⟨y, h4, h5⟩ := h3 j c hc
      exact ⟨y, h4, hb c (List.mem_of_getElem? hc) y h5⟩
    · refine .inr ⟨hm, ⟨b, xs, by rw [← hβ i hlt]; exact h1, h2, h3, ⟨h4.1, fun j c hc => ?_⟩, h5⟩⟩
      obtain ⟨y, h6, h7⟩ := h4.2 j c hc
      exact ⟨y, h6, hb c (List.mem_of_getElem? hc) y h7⟩
  · intro i j bi bj b oi oj ki kj hi hj hmi hmj hbi hbj
    obtain ⟨hli, hi'⟩ := hget i bi hi
    obtain ⟨hlj, hj'⟩ := hget j bj hj
    exact hg.hr.inj i j bi bj b oi oj ki kj hi' hj' hmi hmj (by rw [hβ i hli]; exact hbi) (by rw [hβ j hlj]; exact hbj)
  · rintro b hb ⟨i, blk, o, hi, hm, k, hbk⟩
    obtain ⟨hlt, hi'⟩ := hget i blk hi
    exact hg.sub b hb ⟨i, blk, o, hi', hm, k, by rw [hβ i hlt]; exact hbk⟩

/-! ### Functions -/
theorem body_sound (hc : CallOk P call) (hdr : ∀ n, DrawnOk P call n) {gc : Bool} {f : FuncId} {kf : KF} (hk : cFunc P gc f = some kf) {fuel : Nat} {args : List AV} {H H' : AHeap} {r : AV} (he : evalBody call fuel kf args H = some (r, H')) {β : Beta} {w : World} {xs : List Value} (hr : HR B0 β H w) (hv : Vals β args xs) :
    ∃ fn, P.funcs[f]? = some fn ∧ (fn.name == "runtime.NumGoroutine") = false ∧ fn.body.isNone = false ∧
      Calls P f xs.toArray w (fun e w' => ∃ β' x, e = .returned x ∧ r.rel β' x ∧ Go_ B0 β H w β' H' w') := by
  unfold cFunc at hk
  split at hk
  case h_2 => simp at hk
  rename_i fn hfn
  split at hk
  · simp at hk
  rename_i hname
  split at hk
  case h_2 => simp at hk
  rename_i c hbody
  split at hk
  case h_2 => simp at hk
  rename_i kc kr hkc hkr
  simp at hk; subst hk
  refine ⟨fn, hfn, by simpa using hname, by simp [hbody], ?_⟩
  unfold evalBody at he
  split at he
  case isFalse => simp at he
  rename_i hlen
  simp only at hlen he
  -- the frame at the begin
  have hs0 : SR β (fun i => args.getD i (.c .undef)) { tmps := xs.toArray ++ Array.replicate (fn.ntmps - xs.toArray.size) Go.undef, defers := [] } := by
    refine ⟨fun i => ?_⟩
    simp only [Array.getD_eq_getD_getElem?, List.getD_eq_getElem?_getD]
    by_cases hi : i < args.length
    · obtain ⟨x, h1, h2⟩ := hv.2 i _ (List.getElem?_eq_getElem hi)
      rw [List.getElem?_eq_getElem hi]
      have hx : i < xs.length := (List.getElem?_eq_some_iff.1 h1).1
      rw [Array.getElem?_append_left (by simpa using hx)]
      simp only [List.getElem?_toArray, h1, Option.getD_some]
      exact h2
    · rw [List.getElem?_eq_none (by omega)]
      rw [Array.getElem?_append_right (by simp; rw [← hv.1]; omega)]
      simp only [Option.getD_none, Array.getElem?_replicate]
      split <;> rfl
  have hn0 : ({ tmps := xs.toArray ++ Array.replicate (fn.ntmps - xs.toArray.size) Go.undef, defers := [] } : Act).tmps.size = fn.ntmps := by
    simp; rw [← hv.1]; omega
  have fin : ∀ (ex : Ex) (σ' : Sl) (H1 : AHeap) (vs : List V0), (ex = .norm ∨ ex = .ret) → evalC call fuel kc ((fun i => args.getD i (.c .undef)), H) = some (ex, (σ', H1)) → evalRs σ' H1 kr = some vs → finish gc H (mkRes vs) H1 = some (r, H') →
      Calls P f xs.toArray w (fun e w' => ∃ β' x, e = .returned x ∧ r.rel β' x ∧ Go_ B0 β H w β' H' w') := by
    intro ex σ' H1 vs hex hev hrs hfin
    refine calls_of_wp hfn hbody ?_
    refine code_sound hc (hdr _) fuel c kc hkc β _ H ex σ' H1 _ w _ hev hs0 hn0 rfl hr fun β' a' w' h3 h4 h5 h6 => ?_
    obtain ⟨ys, h7, h8, h9⟩ := res_sound (P := P) h3 h6.hr (fun | .tmp t => pure (a'.tmps.getD t Go.undef) | .cell ad t => do loadVar t (← asAddr (a'.tmps.getD ad Go.undef))) (fun _ => rfl) (fun _ _ => rfl) hkr hrs
    have hres : (results fn a'.tmps).run P w' = .ok (if h : ys.toArray.size = 1 then ys.toArray[0] else .tuple ys.toArray) w' := by
      unfold results
      simp only [Sem.run_bind]
      have := run_mapM_array (P := P) (w := w') _ fn.results ys h7
      erw [this]
      simp only [Result.andThen_ok, Sem.run_pure]
    obtain ⟨β'', h10, h11⟩ := finish_sound hr h6 (mkRes_rel h8 h9) hfin
    rcases hex with rfl | rfl
    · exact ⟨h5, _, hres, β'', _, rfl, h10, h11⟩
    · exact ⟨h5, _, hres, β'', _, rfl, h10, h11⟩
  split at he
  · rename_i σ' H1 hev
    split at he
    case h_2 => simp at he
    rename_i vs hvs
    exact fin .norm σ' H1 vs (.inl rfl) hev hvs he
  · rename_i σ' H1 hev
    split at he
    case h_2 => simp at he
    rename_i vs hvs
    exact fin .ret σ' H1 vs (.inr rfl) hev hvs he
  · simp at he

theorem evalF_sound {K : FuncId → Option KF} (hK : ∀ f kf, K f = some kf → ∃ gc, cFunc P gc f = some kf) (hdr : ∀ call, CallOk P call → ∀ n, DrawnOk P call n) : ∀ fuel, CallOk P (evalF K fuel) := by
  intro fuel
  induction fuel with
  | zero => intro f args H r H' h; simp [evalF] at h
  | succ fuel ih =>
    intro f args H r H' h B0 β w xs hr hv
    simp only [evalF] at h
    split at h
    case h_2 => simp at h
    rename_i kf hkf
    obtain ⟨gc, hgc⟩ := hK f kf hkf
    exact body_sound ih (hdr _ ih) hgc h hr hv
end

end Go.Proofs.Ytebdajfangbdpaa.VI
