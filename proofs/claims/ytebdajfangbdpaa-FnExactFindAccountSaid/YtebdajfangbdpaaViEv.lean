/- An interpreter over an abstract heap, and its soundness over the machine: part Ev. -/
import Derived.Test.YtebdajfangbdpaaViCode
set_option linter.unusedVariables false
set_option linter.unusedSimpArgs false
set_option linter.unusedSectionVars false
namespace Go.Proofs.Ytebdajfangbdpaa.VI
open Go

/-! ### More rounds, more calls: the same answers -/
def LeC (c1 c2 : CallA) : Prop := ∀ f a H r, c1 f a H = some r → c2 f a H = some r
theorem LeC.refl (c : CallA) : LeC c c := fun _ _ _ _ h => h
theorem LeC.trans {a b c : CallA} (h : LeC a b) (k : LeC b c) : LeC a c := fun f x H r e => k f x H r (h f x H r e)

section
variable {c1 c2 : CallA} (hle : LeC c1 c2)
include hle
theorem evalOp_mono {σ : Sl} {H : AHeap} {k : KOp} {r : AV × AHeap} (h : evalOp c1 σ H k = some r) : evalOp c2 σ H k = some r := by
  cases k
  case call f xs =>
    simp only [evalOp] at h ⊢
    split at h
    · exact hle _ _ _ _ h
    · cases h
  all_goals exact h
theorem evalKO_mono {k : KO} {s s' : St} (h : evalKO c1 k s = some s') : evalKO c2 k s = some s' := by
  unfold evalKO at h ⊢
  split
  · rename_i hw
    rw [if_pos hw] at h
    simp only [Option.map_eq_some_iff] at h ⊢
    obtain ⟨r, h1, h2⟩ := h
    exact ⟨r, evalOp_mono hle h1, h2⟩
  · rename_i hw
    rw [if_neg hw] at h
    exact h
theorem evalOps_mono : ∀ {l : List KO} {s s' : St}, evalOps c1 l s = some s' → evalOps c2 l s = some s'
  | [], s, s', h => h
  | o :: l, s, s', h => by
    simp only [evalOps, Option.bind_eq_some_iff] at h ⊢
    obtain ⟨s1, h1, h2⟩ := h
    exact ⟨s1, evalKO_mono hle h1, evalOps_mono h2⟩
theorem evalDrawn_mono : ∀ {l : List (KO × List KO)} {s s' : St}, evalDrawn c1 l s = some s' → evalDrawn c2 l s = some s'
  | [], s, s', h => h
  | x :: l, s, s', h => by
    simp only [evalDrawn, Option.bind_eq_some_iff] at h ⊢
    obtain ⟨s1, h1, h2⟩ := h
    refine ⟨s1, evalOps_mono hle h1, ?_⟩
    split at h2
    · rename_i hr; rw [if_pos hr]; exact evalDrawn_mono h2
    · simp at h2
end

theorem iter_mono {f g : St → Option (Ex × St)} (hfg : ∀ s r, f s = some r → g s = some r) : ∀ {n m : Nat} {s : St} {r : Ex × St}, n ≤ m → iter f n s = some r → iter g m s = some r
  | 0, _, _, _, _, h => by simp [iter] at h
  | n + 1, 0, _, _, hn, _ => by omega
  | n + 1, m + 1, s, r, hn, h => by
    simp only [iter] at h ⊢
    cases hf : f s with
    | none => rw [hf] at h; simp at h
    | some x =>
      rw [hf] at h
      rw [hfg s x hf]
      obtain ⟨e, s'⟩ := x
      cases e with
      | norm => exact iter_mono hfg (by omega) h
      | exit id => exact h
      | ret => exact h

theorem evalC_mono {c1 c2 : CallA} (hle : LeC c1 c2) {n m : Nat} (hn : n ≤ m) : ∀ {k : KC} {s : St} {r : Ex × St}, evalC c1 n k s = some r → evalC c2 m k s = some r := by
  intro k
  induction k with
  | skip => intro s r h; exact h
  | region ops =>
    intro s r h
    simp only [evalC, Option.map_eq_some_iff] at h ⊢
    obtain ⟨s1, h1, h2⟩ := h
    exact ⟨s1, evalOps_mono hle h1, h2⟩
  | drawn steps =>
    intro s r h
    simp only [evalC, Option.map_eq_some_iff] at h ⊢
    obtain ⟨s1, h1, h2⟩ := h
    exact ⟨s1, evalDrawn_mono hle h1, h2⟩
  | seq a b iha ihb =>
    intro s r h
    simp only [evalC] at h ⊢
    cases ha : evalC c1 n a s with
    | none => rw [ha] at h; simp at h
    | some x =>
      rw [ha] at h
      rw [iha ha]
      obtain ⟨e, s'⟩ := x
      cases e with
      | norm => exact ihb h
      | exit id => exact h
      | ret => exact h
  | cond x a b iha ihb =>
    intro s r h
    simp only [evalC] at h ⊢
    split at h
    · rename_i t ht
      cases t
      · exact ihb h
      · exact iha h
    · simp at h
  | block id c ih =>
    intro s r h
    simp only [evalC] at h ⊢
    cases ha : evalC c1 n c s with
    | none => rw [ha] at h; simp at h
    | some x => rw [ha] at h; rw [ih ha]; exact h
  | loop c ih =>
    intro s r h
    simp only [evalC] at h ⊢
    exact iter_mono (fun s r => ih) hn h
  | exit id => intro s r h; exact h
  | ret => intro s r h; exact h

theorem evalBody_mono {c1 c2 : CallA} (hle : LeC c1 c2) {n m : Nat} (hn : n ≤ m) {kf : KF} {args : List AV} {H : AHeap} {r : AV × AHeap} (h : evalBody c1 n kf args H = some r) : evalBody c2 m kf args H = some r := by
  unfold evalBody at h ⊢
  split at h
  case isFalse => simp at h
  rename_i hl
  rw [if_pos hl]
  cases hc : evalC c1 n kf.body (fun i => args.getD i (.c .undef), H) with
  | none => rw [hc] at h; simp at h
  | some x => rw [hc] at h; rw [evalC_mono hle hn hc]; exact h

theorem evalF_mono (K : FuncId → Option KF) : ∀ {n m : Nat}, n ≤ m → LeC (evalF K n) (evalF K m)
  | 0, _, _ => fun f a H r h => by simp [evalF] at h
  | n + 1, 0, hn => by omega
  | n + 1, m + 1, hn => fun f a H r h => by
    simp only [evalF] at h ⊢
    split at h
    · rename_i kf hk
      exact evalBody_mono (evalF_mono K (by omega)) (by omega) h
    · simp at h

/-! ### Without rounds -/
open Classical in
/-- The one value of a sequence that stays where it is told. -/
noncomputable def lim {α : Type} (f : Nat → Option α) : Option α := if h : ∃ r, ∃ n, f n = some r then some h.choose else none
theorem lim_some {α : Type} {f : Nat → Option α} (hm : ∀ n m r, n ≤ m → f n = some r → f m = some r) {r : α} : lim f = some r ↔ ∃ n, f n = some r := by
  constructor
  · intro h
    unfold lim at h
    split at h
    · rename_i hx
      simp at h; subst h
      exact hx.choose_spec
    · simp at h
  · rintro ⟨n, hn⟩
    have hx : ∃ r, ∃ n, f n = some r := ⟨r, n, hn⟩
    unfold lim
    rw [dif_pos hx]
    obtain ⟨m, hm'⟩ := hx.choose_spec
    have e1 := hm n (max n m) r (Nat.le_max_left _ _) hn
    have e2 := hm m (max n m) _ (Nat.le_max_right _ _) hm'
    rw [e1] at e2
    exact e2.symm

noncomputable def evC (call : CallA) (k : KC) (s : St) : Option (Ex × St) := lim fun n => evalC call n k s
noncomputable def ev (K : FuncId → Option KF) : CallA := fun f args H => lim fun n => evalF K n f args H

theorem evC_some {call : CallA} {k : KC} {s : St} {r : Ex × St} : evC call k s = some r ↔ ∃ n, evalC call n k s = some r :=
  lim_some fun n m r hn h => evalC_mono (LeC.refl call) hn h
theorem ev_some {K : FuncId → Option KF} {f : FuncId} {args : List AV} {H : AHeap} {r : AV × AHeap} : ev K f args H = some r ↔ ∃ n, evalF K n f args H = some r :=
  lim_some fun n m r hn h => evalF_mono K hn f args H r h

theorem opt_ext {α : Type} {x y : Option α} (h : ∀ r, x = some r ↔ y = some r) : x = y := by
  cases x with
  | none =>
    cases y with
    | none => rfl
    | some b => exact absurd ((h b).2 rfl) (by simp)
  | some a => exact ((h a).1 rfl).symm

section
variable {call : CallA} {s : St}
theorem evC_skip : evC call .skip s = some (.norm, s) := evC_some.2 ⟨0, rfl⟩
theorem evC_exit {id : Nat} : evC call (.exit id) s = some (.exit id, s) := evC_some.2 ⟨0, rfl⟩
theorem evC_ret : evC call .ret s = some (.ret, s) := evC_some.2 ⟨0, rfl⟩
theorem evC_region {ops : List KO} : evC call (.region ops) s = (evalOps call ops s).map fun s' => (.norm, s') :=
  opt_ext fun r => evC_some.trans ⟨fun ⟨_, h⟩ => h, fun h => ⟨0, h⟩⟩
theorem evC_drawn {steps : List (KO × List KO)} : evC call (.drawn steps) s = (evalDrawn call steps s).map fun s' => (.norm, s') :=
  opt_ext fun r => evC_some.trans ⟨fun ⟨_, h⟩ => h, fun h => ⟨0, h⟩⟩
/-- What follows a piece. -/
def andThen (x : Option (Ex × St)) (f : St → Option (Ex × St)) : Option (Ex × St) :=
  match x with
  | some (.norm, s') => f s'
  | r => r
theorem evC_seq {a b : KC} : evC call (.seq a b) s = andThen (evC call a s) (evC call b) := by
  refine opt_ext fun r => evC_some.trans ⟨?_, ?_⟩
  · rintro ⟨n, h⟩
    simp only [evalC] at h
    cases ha : evalC call n a s with
    | none => rw [ha] at h; simp at h
    | some x =>
      rw [ha] at h
      have e1 := evC_some.2 ⟨n, ha⟩
      rw [e1]
      obtain ⟨e, s'⟩ := x
      cases e with
      | norm => exact evC_some.2 ⟨n, h⟩
      | exit id => exact h
      | ret => exact h
  · intro h
    cases ha : evC call a s with
    | none => rw [ha] at h; simp [andThen] at h
    | some x =>
      rw [ha] at h
      obtain ⟨n, hn⟩ := evC_some.1 ha
      obtain ⟨e, s'⟩ := x
      cases e with
      | norm =>
        obtain ⟨m, hm⟩ := evC_some.1 (show evC call b s' = some r from h)
        refine ⟨max n m, ?_⟩
        simp only [evalC]
        rw [evalC_mono (LeC.refl call) (Nat.le_max_left n m) hn]
        exact evalC_mono (LeC.refl call) (Nat.le_max_right n m) hm
      | exit id => exact ⟨n, by simp only [evalC]; rw [hn]; exact h⟩
      | ret => exact ⟨n, by simp only [evalC]; rw [hn]; exact h⟩
theorem evC_cond {x : Opd} {a b : KC} {t : Bool} (h : x.ev s.1 = .c (.bool t)) : evC call (.cond x a b) s = if t = true then evC call a s else evC call b s := by
  refine opt_ext fun r => evC_some.trans ?_
  simp only [evalC, h]
  cases t
  · simpa using evC_some.symm
  · simpa using evC_some.symm
/-- A block's way out. -/
def outOf (id : Nat) (x : Option (Ex × St)) : Option (Ex × St) :=
  match x with
  | some (.exit j, s') => if j = id then some (.norm, s') else some (.exit j, s')
  | r => r
theorem evC_block {id : Nat} {c : KC} : evC call (.block id c) s = outOf id (evC call c s) := by
  refine opt_ext fun r => evC_some.trans ⟨?_, ?_⟩
  · rintro ⟨n, h⟩
    simp only [evalC] at h
    cases ha : evalC call n c s with
    | none => rw [ha] at h; simp at h
    | some x => rw [ha] at h; rw [evC_some.2 ⟨n, ha⟩]; exact h
  · intro h
    cases ha : evC call c s with
    | none => rw [ha] at h; simp [outOf] at h
    | some x =>
      rw [ha] at h
      obtain ⟨n, hn⟩ := evC_some.1 ha
      exact ⟨n, by simp only [evalC]; rw [hn]; exact h⟩
theorem evC_loop {c : KC} : evC call (.loop c) s = andThen (evC call c s) (evC call (.loop c)) := by
  refine opt_ext fun r => evC_some.trans ⟨?_, ?_⟩
  · rintro ⟨n, h⟩
    cases n with
    | zero => simp [evalC, iter] at h
    | succ n =>
      simp only [evalC, iter] at h
      cases ha : evalC call (n + 1) c s with
      | none => rw [ha] at h; simp at h
      | some x =>
        rw [ha] at h
        rw [evC_some.2 ⟨n + 1, ha⟩]
        obtain ⟨e, s'⟩ := x
        cases e with
        | norm =>
          refine evC_some.2 ⟨n + 1, ?_⟩
          simp only [evalC]
          exact iter_mono (fun s r h => h) (by omega) h
        | exit id => exact h
        | ret => exact h
  · intro h
    cases ha : evC call c s with
    | none => rw [ha] at h; simp [andThen] at h
    | some x =>
      rw [ha] at h
      obtain ⟨n, hn⟩ := evC_some.1 ha
      obtain ⟨e, s'⟩ := x
      cases e with
      | norm =>
        obtain ⟨m, hm⟩ := evC_some.1 (show evC call (.loop c) s' = some r from h)
        refine ⟨max n m + 1, ?_⟩
        simp only [evalC, iter]
        rw [evalC_mono (LeC.refl call) (show n ≤ max n m + 1 by omega) hn]
        simp only [evalC] at hm
        exact iter_mono (fun s r h => evalC_mono (LeC.refl call) (show m ≤ max n m + 1 by omega) h) (show m ≤ max n m by omega) hm
      | exit id =>
        refine ⟨n + 1, ?_⟩
        simp only [evalC, iter]
        rw [evalC_mono (LeC.refl call) (show n ≤ n + 1 by omega) hn]; exact h
      | ret =>
        refine ⟨n + 1, ?_⟩
        simp only [evalC, iter]
        rw [evalC_mono (LeC.refl call) (show n ≤ n + 1 by omega) hn]; exact h
end

/-- A function's body. -/
noncomputable def evB (call : CallA) (kf : KF) (args : List AV) (H : AHeap) : Option (AV × AHeap) :=
  if args.length ≤ kf.np then
    match evC call kf.body (fun i => args.getD i (.c .undef), H) with
    | some (.norm, σ, H') | some (.ret, σ, H') => match evalRs σ H' kf.res with
      | some vs => finish kf.gc H (mkRes vs) H'
      | none => none
    | _ => none
  else none

/-! Only so many rounds are needed -/
theorem evalOps_fin {K : FuncId → Option KF} : ∀ {l : List KO} {s s' : St}, evalOps (ev K) l s = some s' → ∃ n, evalOps (evalF K n) l s = some s'
  | [], s, s', h => ⟨0, h⟩
  | o :: l, s, s', h => by
    simp only [evalOps, Option.bind_eq_some_iff] at h
    obtain ⟨s1, h1, h2⟩ := h
    obtain ⟨n2, h2⟩ := evalOps_fin h2
    have : ∃ n1, evalKO (evalF K n1) o s = some s1 := by
      unfold evalKO at h1 ⊢
      split at h1
      · rename_i hw
        simp only [Option.map_eq_some_iff] at h1
        obtain ⟨r, h3, h4⟩ := h1
        have : ∃ n, evalOp (evalF K n) s.1 s.2 o.op = some r := by
          generalize o.op = k at h3
          cases k
          case call f xs =>
            simp only [evalOp] at h3 ⊢
            split at h3
            · exact ev_some.1 h3
            · simp at h3
          all_goals exact ⟨0, h3⟩
        obtain ⟨n, hn⟩ := this
        exact ⟨n, by rw [if_pos hw, hn]; simp [h4]⟩
      · rename_i hw
        exact ⟨0, by rw [if_neg hw]; exact h1⟩
    obtain ⟨n1, h1⟩ := this
    refine ⟨max n1 n2, ?_⟩
    simp only [evalOps, Option.bind_eq_some_iff]
    exact ⟨s1, evalKO_mono (evalF_mono K (Nat.le_max_left _ _)) h1, evalOps_mono (evalF_mono K (Nat.le_max_right _ _)) h2⟩

theorem evalDrawn_fin {K : FuncId → Option KF} : ∀ {l : List (KO × List KO)} {s s' : St}, evalDrawn (ev K) l s = some s' → ∃ n, evalDrawn (evalF K n) l s = some s'
  | [], s, s', h => ⟨0, h⟩
  | x :: l, s, s', h => by
    simp only [evalDrawn, Option.bind_eq_some_iff] at h
    obtain ⟨s1, h1, h2⟩ := h
    split at h2
    case isFalse => simp at h2
    rename_i hr
    obtain ⟨n1, h1⟩ := evalOps_fin h1
    obtain ⟨n2, h2⟩ := evalDrawn_fin h2
    refine ⟨max n1 n2, ?_⟩
    simp only [evalDrawn, Option.bind_eq_some_iff]
    exact ⟨s1, evalOps_mono (evalF_mono K (Nat.le_max_left _ _)) h1, by rw [if_pos hr]; exact evalDrawn_mono (evalF_mono K (Nat.le_max_right _ _)) h2⟩

theorem evalC_fin {K : FuncId → Option KF} {m : Nat} : ∀ {k : KC} {s : St} {r : Ex × St}, evalC (ev K) m k s = some r → ∃ n, evalC (evalF K n) m k s = some r := by
  intro k
  induction k with
  | skip => intro s r h; exact ⟨0, h⟩
  | region ops =>
    intro s r h
    simp only [evalC, Option.map_eq_some_iff] at h ⊢
    obtain ⟨s1, h1, h2⟩ := h
    obtain ⟨n, hn⟩ := evalOps_fin h1
    exact ⟨n, s1, hn, h2⟩
  | drawn steps =>
    intro s r h
    simp only [evalC, Option.map_eq_some_iff] at h ⊢
    obtain ⟨s1, h1, h2⟩ := h
    obtain ⟨n, hn⟩ := evalDrawn_fin h1
    exact ⟨n, s1, hn, h2⟩
  | seq a b iha ihb =>
    intro s r h
    simp only [evalC] at h
    cases ha : evalC (ev K) m a s with
    | none => rw [ha] at h; simp at h
    | some x =>
      rw [ha] at h
      obtain ⟨n1, h1⟩ := iha ha
      obtain ⟨e, s'⟩ := x
      cases e with
      | norm =>
        obtain ⟨n2, h2⟩ := ihb h
        refine ⟨max n1 n2, ?_⟩
        simp only [evalC]
        rw [evalC_mono (evalF_mono K (Nat.le_max_left n1 n2)) (Nat.le_refl m) h1]
        exact evalC_mono (evalF_mono K (Nat.le_max_right n1 n2)) (Nat.le_refl m) h2
      | exit id => exact ⟨n1, by simp only [evalC]; rw [h1]; exact h⟩
      | ret => exact ⟨n1, by simp only [evalC]; rw [h1]; exact h⟩
  | cond x a b iha ihb =>
    intro s r h
    simp only [evalC] at h ⊢
    split at h
    · rename_i t ht
      cases t
      · exact ihb h
      · exact iha h
    · simp at h
  | block id c ih =>
    intro s r h
    simp only [evalC] at h
    cases ha : evalC (ev K) m c s with
    | none => rw [ha] at h; simp at h
    | some x =>
      rw [ha] at h
      obtain ⟨n, hn⟩ := ih ha
      exact ⟨n, by simp only [evalC]; rw [hn]; exact h⟩
  | loop c ih =>
    intro s r h
    simp only [evalC] at h ⊢
    have : ∀ (q : Nat) (s : St), iter (evalC (ev K) m c) q s = some r → ∃ n, iter (evalC (evalF K n) m c) q s = some r := by
      intro q
      induction q with
      | zero => intro s h; simp [iter] at h
      | succ q ihq =>
        intro s h
        simp only [iter] at h
        cases ha : evalC (ev K) m c s with
        | none => rw [ha] at h; simp at h
        | some x =>
          rw [ha] at h
          obtain ⟨n1, h1⟩ := ih ha
          obtain ⟨e, s'⟩ := x
          cases e with
          | norm =>
            obtain ⟨n2, h2⟩ := ihq s' h
            refine ⟨max n1 n2, ?_⟩
            simp only [iter]
            rw [evalC_mono (evalF_mono K (Nat.le_max_left n1 n2)) (Nat.le_refl m) h1]
            exact iter_mono (fun s r h => evalC_mono (evalF_mono K (Nat.le_max_right n1 n2)) (Nat.le_refl m) h) (Nat.le_refl q) h2
          | exit id => exact ⟨n1, by simp only [iter]; rw [h1]; exact h⟩
          | ret => exact ⟨n1, by simp only [iter]; rw [h1]; exact h⟩
    exact this m s h
  | exit id => intro s r h; exact ⟨0, h⟩
  | ret => intro s r h; exact ⟨0, h⟩

/-- A call is its function's body. -/
theorem ev_call {K : FuncId → Option KF} {f : FuncId} {kf : KF} (hk : K f = some kf) (args : List AV) (H : AHeap) : ev K f args H = evB (ev K) kf args H := by
  refine opt_ext fun r => ev_some.trans ⟨?_, ?_⟩
  · rintro ⟨n, h⟩
    cases n with
    | zero => simp [evalF] at h
    | succ n =>
      simp only [evalF, hk] at h
      have h' := evalBody_mono (c2 := ev K) (fun f a H r h => ev_some.2 ⟨n, h⟩) (Nat.le_refl (n + 1)) h
      unfold evalBody at h'
      unfold evB
      split at h'
      case isFalse => simp at h'
      rename_i hl
      rw [if_pos hl]
      cases hc : evalC (ev K) (n + 1) kf.body (fun i => args.getD i (.c .undef), H) with
      | none => rw [hc] at h'; simp at h'
      | some x => rw [hc] at h'; rw [evC_some.2 ⟨n + 1, hc⟩]; exact h'
  · intro h
    unfold evB at h
    split at h
    case isFalse => simp at h
    rename_i hl
    cases hc : evC (ev K) kf.body (fun i => args.getD i (.c .undef), H) with
    | none => rw [hc] at h; simp at h
    | some x =>
      rw [hc] at h
      obtain ⟨m, hm⟩ := evC_some.1 hc
      obtain ⟨n, hn⟩ := evalC_fin hm
      refine ⟨max n m + 1, ?_⟩
      simp only [evalF, hk]
      unfold evalBody
      rw [if_pos hl, evalC_mono (evalF_mono K (Nat.le_max_left n m)) (show m ≤ max n m + 1 by omega) hn]
      exact h

end Go.Proofs.Ytebdajfangbdpaa.VI
