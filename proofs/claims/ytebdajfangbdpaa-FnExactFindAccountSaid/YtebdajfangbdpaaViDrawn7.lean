/- An interpreter over an abstract heap, and its soundness over the machine: part Drawn7. -/
import Derived.Test.YtebdajfangbdpaaViDrawn6
import Derived.Orders
set_option linter.unusedVariables false
set_option linter.unusedSimpArgs false
set_option linter.unusedSectionVars false
namespace Go.Proofs.Ytebdajfangbdpaa.VI
open Go Go.RowKit

theorem filter_less {α : Type} {p q : α → Bool} (h : ∀ x, q x = true → p x = true) {x0 : α} (h1 : p x0 = true) (h2 : q x0 = false) : ∀ {l : List α}, x0 ∈ l → (l.filter q).length < (l.filter p).length := by
  have le : ∀ l : List α, (l.filter q).length ≤ (l.filter p).length := by
    intro l
    induction l with
    | nil => simp
    | cons x l ih =>
      simp only [List.filter_cons]
      by_cases hq : q x = true
      · rw [if_pos hq, if_pos (h x hq)]; simp; exact ih
      · rw [if_neg hq]; split
        · simp; omega
        · exact ih
  intro l
  induction l with
  | nil => intro h; simp at h
  | cons x l ih =>
    intro hx
    simp only [List.filter_cons]
    rcases List.mem_cons.1 hx with rfl | hx
    · rw [if_pos h1, if_neg (by rw [h2]; simp)]
      have := le l
      simp; omega
    · have := ih hx
      by_cases hq : q x = true
      · rw [if_pos hq, if_pos (h x hq)]; simp; exact this
      · rw [if_neg hq]; split
        · simp; omega
        · exact this

section
variable {P : Program} {call : CallA} {r : Rg} {tr : Nat → St} {val : Nat → AV} {B0 n : Nat} {β0 : Beta} {w0 : World}

def Done (l : Array Bool) (i : Nat) : Prop := l.getD i false = true
theorem done_set {l : Array Bool} {i : Nat} (hi : i < l.size) : Done (l.setIfInBounds i true) = fun j => Done l j ∨ j = i := by
  funext j
  unfold Done
  simp only [Array.getD_eq_getD_getElem?, Array.getElem?_setIfInBounds]
  by_cases h : i = j
  · subst h; simp [hi]
  · have : ¬ j = i := fun e => h e.symm
    simp [h, this]
theorem not_done {l : Array Bool} {i : Nat} (h : l.getD i true = false) : ¬ Done l i := by
  unfold Done
  rw [Array.getD_eq_getD_getElem?] at h ⊢
  cases hl : l[i]? with
  | none => rw [hl] at h; simp at h
  | some b => rw [hl] at h; simp at h; subst h; simp

theorem ready_iff {l : Array Bool} {i : Nat} : i ∈ Region.ready .any r.ops l ↔ i < r.N ∧ l.getD i true = false ∧ ∀ d ∈ r.deps i, Done l d := by
  unfold Region.ready
  simp only [List.mem_filter, List.mem_range, Bool.and_eq_true, Bool.not_eq_true']
  constructor
  · rintro ⟨h1, h2, h3⟩
    refine ⟨h1, h2, fun d hd => ?_⟩
    have ho : r.ops[i]? = some (r.oper i) := by
      unfold Rg.oper; rw [Array.getD_eq_getD_getElem?]
      have : i < r.ops.size := h1
      simp [this]
    rw [ho] at h3
    simp only [Option.map_some, Option.getD_some, Array.all_eq_true'] at h3
    unfold Rg.deps depsO at hd
    simp only [List.mem_map, List.mem_filter] at hd
    obtain ⟨e, ⟨he, hb⟩, rfl⟩ := hd
    have := h3 e (by simpa using he)
    rw [hb] at this
    simpa [Done] using this
  · rintro ⟨h1, h2, h3⟩
    refine ⟨h1, h2, ?_⟩
    have ho : r.ops[i]? = some (r.oper i) := by
      unfold Rg.oper; rw [Array.getD_eq_getD_getElem?]
      have : i < r.ops.size := h1
      simp [this]
    rw [ho]
    simp only [Option.map_some, Option.getD_some, Array.all_eq_true']
    intro e he
    by_cases hb : Region.binds .any e = true
    · have := h3 e.on (by unfold Rg.deps depsO; exact List.mem_map.2 ⟨e, List.mem_filter.2 ⟨by simpa using he, hb⟩, rfl⟩)
      unfold Done at this
      simp [this]
    · simp [hb]

theorem drawn_any (hcall : CallOk P call) (T : Tr call r tr val) (ok : r.Ok) (ha : r.an = ancsOf r.ops.toList) (hko : ∀ i, i < r.N → r.ops[i]? = some (r.oper i) ∧ cOper P n r.ops (r.oper i) = some (r.ko i)) {Q : Exit → Act → World → Prop}
    (hQ : ∀ β' a' w', SR β' (tr r.N).1 a' → a'.tmps.size = n → a'.defers = [] → Go_ B0 β0 (tr 0).2 w0 β' (tr r.N).2 w' → Q .normal a' w') :
    ∀ (fuel : Nat) (l : Array Bool) (m : Nat) (β : Beta) (a : Act) (w : World) (bl : Nat → Nat), l.size = r.N → ((List.range r.N).filter fun i => !l.getD i true).length ≤ fuel → Inv r tr val B0 n β0 w0 (Done l) m β a w bl → wpAny P .any r.ops Q fuel l a w := by
  have hend : ∀ (l : Array Bool) (m : Nat) (β : Beta) (a : Act) (w : World) (bl : Nat → Nat), l.size = r.N → Inv r tr val B0 n β0 w0 (Done l) m β a w bl → Region.ready .any r.ops l = [] → Q .normal a w := by
    intro l m β a w bl hl I hr
    have hall : ∀ p, p < r.N → Done l (r.ix p) := by
      intro p
      induction p using Nat.strongRecOn with
      | _ p ih =>
        intro hp
        cases hb : l.getD (r.ix p) true with
        | true =>
          unfold Done
          have : r.ix p < l.size := by rw [hl]; exact ok.lt p hp
          simp only [Array.getD_eq_getD_getElem?] at hb ⊢
          simp [this] at hb ⊢
          exact hb
        | false =>
          have hmem : r.ix p ∈ Region.ready .any r.ops l := ready_iff.2 ⟨ok.lt p hp, hb, fun d hd => by
            obtain ⟨q, hq, rfl⟩ := ok.deps p hp d hd
            exact ih q hq (by omega)⟩
          rw [hr] at hmem; simp at hmem
    obtain ⟨β1, _, I1⟩ := I.advTo T ok (r.N - m) (by have := I.le; omega) fun q _ hq _ => hall q (by have := I.le; omega)
    have hN : m + (r.N - m) = r.N := by have := I.le; omega
    rw [hN] at I1
    have hpl : pl r tr (Done l) r.N = [] := by
      cases hh : pl r tr (Done l) r.N with
      | nil => rfl
      | cons t ts =>
        obtain ⟨q, hq, hp, _⟩ := mem_pl.1 (show t ∈ pl r tr (Done l) r.N by rw [hh]; simp)
        have := hp.1; omega
    have hsr := I1.sr T ok
    rw [hpl] at hsr
    have hsm : sm r tr (Done l) r.N = (tr r.N).1 := by
      funext t
      unfold sm
      rw [hpl]
      simp only [List.not_mem_nil, if_false]
      split
      · rfl
      · rename_i hno
        rw [T.old ok r.N (Nat.le_refl _)]
        intro q hq hd
        exact hno ⟨q, hq, hall q hq, hd⟩
    rw [hsm] at hsr
    exact hQ β1 a w hsr I1.size I1.defers I1.go
  intro fuel
  induction fuel with
  | zero =>
    intro l m β a w bl hl hc I
    have hr : Region.ready .any r.ops l = [] := by
      cases hh : Region.ready .any r.ops l with
      | nil => rfl
      | cons i is =>
        obtain ⟨h1, h2, _⟩ := ready_iff.1 (show i ∈ Region.ready .any r.ops l by rw [hh]; simp)
        have : i ∈ (List.range r.N).filter fun i => !l.getD i true := List.mem_filter.2 ⟨List.mem_range.2 h1, by rw [h2]; rfl⟩
        have := List.length_pos_of_mem this
        omega
    exact ⟨hr, hend l m β a w bl hl I hr⟩
  | succ fuel ih =>
    intro l m β a w bl hl hc I
    refine ⟨hend l m β a w bl hl I, fun i hi => ?_⟩
    obtain ⟨h1, h2, h3⟩ := ready_iff.1 hi
    obtain ⟨p, hp, rfl⟩ := ok.surj i h1
    refine I.step hcall T ok ha hko hp (not_done h2) h3 fun m' β' a' w' bl' I' => ?_
    refine ih _ m' β' a' w' bl' (by simpa using hl) ?_ (by rw [done_set (by rw [hl]; exact h1)]; exact I')
    have := filter_less (p := fun i => !l.getD i true) (q := fun i => !(l.setIfInBounds (r.ix p) true).getD i true) (x0 := r.ix p) (fun x hx => by
      simp only [Bool.not_eq_true', Array.getD_eq_getD_getElem?, Array.getElem?_setIfInBounds] at hx ⊢
      by_cases e : r.ix p = x
      · subst e
        have : r.ix p < l.size := by rw [hl]; exact h1
        simp [this] at hx
      · rw [if_neg e] at hx; exact hx) (by rw [h2]; rfl) (by
      have : r.ix p < l.size := by rw [hl]; exact h1
      simp [Array.getD_eq_getD_getElem?, this]) (l := List.range r.N) (List.mem_range.2 h1)
    omega
end

theorem cOpers_get {P : Program} {n : Nat} {ops : Array Oper} : ∀ {l : List Oper} {ks : List KO}, cOpers P n ops l = some ks → ks.length = l.length ∧ ∀ (i : Nat) (o : Oper), l[i]? = some o → ∃ k, ks[i]? = some k ∧ cOper P n ops o = some k
  | [], ks, h => by simp [cOpers] at h; subst h; exact ⟨rfl, fun i o h => by simp at h⟩
  | o :: l, ks, h => by
    unfold cOpers at h
    split at h
    case h_2 => simp at h
    rename_i k ks' h1 h2
    simp at h; subst h
    obtain ⟨h3, h4⟩ := cOpers_get h2
    refine ⟨by simp [h3], fun i o' ho => ?_⟩
    cases i with
    | zero => simp at ho; subst ho; exact ⟨k, rfl, h1⟩
    | succ i => simp at ho; simpa using h4 i o' ho

theorem drawn_ok {P : Program} (hm : P.follows .mixedOrders = true) {call : CallA} (hcall : CallOk P call) (n : Nat) : DrawnOk P call n := by
  intro id ops k hk fuel B0 β σ H ex σ' H' a w Q he hs hn hd hr hQ
  unfold cDrawn at hk
  split at hk
  case h_2 => simp at hk
  rename_i ks hks
  simp only at hk
  generalize hrr : (⟨ops, ks, ancsOf ops.toList, Rg.order ⟨ops, ks, ancsOf ops.toList, []⟩ ops.size [] (List.range ops.size)⟩ : Rg) = r at hk
  split at hk
  case isFalse => simp at hk
  rename_i hok
  simp at hk; subst hk
  have e1 : r.ops = ops := by rw [← hrr]
  have e2 : r.ks = ks := by rw [← hrr]
  have ha : r.an = ancsOf r.ops.toList := by rw [← hrr]
  have ok := Rg.ok_of hok
  simp only [evalC, Option.map_eq_some_iff] at he
  obtain ⟨s1, he, e3⟩ := he
  simp only [Prod.mk.injEq] at e3
  obtain ⟨rfl, rfl⟩ := e3
  obtain ⟨tr, val, T, t0, t1⟩ := trace_of he ok.len
  obtain ⟨hl, hg⟩ := cOpers_get hks
  have hko : ∀ i, i < r.N → r.ops[i]? = some (r.oper i) ∧ cOper P n r.ops (r.oper i) = some (r.ko i) := by
    intro i hi
    have ho : r.ops[i]? = some (r.oper i) := by
      unfold Rg.oper; rw [Array.getD_eq_getD_getElem?]
      have : i < r.ops.size := hi
      simp [this]
    refine ⟨ho, ?_⟩
    obtain ⟨k, h1, h2⟩ := hg i (r.oper i) (by rw [e1] at ho; simpa using ho)
    have : r.ko i = k := by
      unfold Rg.ko; rw [List.getD_eq_getElem?_getD, e2, h1]; rfl
    rw [this, e1]; exact h2
  have hw : ({ w with drawn := w.drawn + 1 } : World) = w.drewN 1 := rfl
  refine wp_region_any hm ?_
  rw [hw, ← e1]
  have hinv : Inv r tr val B0 n β (w.drewN 1) (Done (Array.replicate r.ops.size false)) 0 β a (w.drewN 1) (fun _ => 0) := by
    have hno : ∀ i, ¬ Done (Array.replicate r.ops.size false) i := by
      intro i h
      unfold Done at h
      rw [Array.getD_eq_getD_getElem?] at h
      by_cases hi : i < r.ops.size
      · simp [hi] at h
      · simp [hi] at h
    refine ⟨Nat.zero_le _, fun i o _ h => absurd h (hno i), fun q hq => by omega, fun q _ _ h => absurd h (hno _), ?_, ?_, hn, hd, fun q _ h => absurd h (hno _), fun t _ => ?_, fun q _ h => absurd h.2.2.1 (hno _), fun q q' _ _ h => absurd h.2.2.1 (hno _)⟩
    · rw [t0]; exact .refl (hr.drewN 1)
    · exact (hr.drewN 1).base
    · rw [t0]; exact hs.at_ t
  refine drawn_any hcall T ok ha hko (fun β' a' w' h1 h2 h3 h4 => ?_) r.ops.size _ 0 β a (w.drewN 1) _ (by simp [Rg.N]) ?_ hinv
  · rw [t0, t1] at h4
    rw [t1] at h1
    exact hQ β' a' w' h1 h2 h3 ((Go_.drewN hr 1).trans h4)
  · refine Nat.le_trans (List.length_filter_le _ _) ?_
    simp [Rg.N]
end Go.Proofs.Ytebdajfangbdpaa.VI
