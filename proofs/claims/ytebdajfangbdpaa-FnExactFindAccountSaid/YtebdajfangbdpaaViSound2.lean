/- An interpreter over an abstract heap, and its soundness over the machine: part Sound2. -/
import Derived.Test.YtebdajfangbdpaaViSound1
import Derived.DeepKeys
import Derived.Laws.StructEq
set_option linter.unusedVariables false
set_option linter.unusedSimpArgs false
set_option linter.unusedSectionVars false
namespace Go.Proofs.Ytebdajfangbdpaa.VI
open Go Go.RowKit

section
variable {P : Program} {call : CallA} {B0 : Nat} {β : Beta} {H H' : AHeap} {σ : Sl} {a : Act} {w : World} {v : AV} {dst : Option Tmp} {type : TypeId} {pos : String} {after : Array Edge} {g : Option (Nat × Bool)}

/-! ### Arithmetic -/
theorem run_intBin {op : BinOp} {k k' : IntKind} {a b : Int} {c : CV} (hk : (op = .shl ∨ op = .shr) ∨ k = k') (h : intBin op k a b = some c) (t : TypeId) : ∃ x, (binOp op t (.int k a) (.int k' b)).run P w = .ok x w ∧ c.rel β x := by
  cases op
  case shl =>
    simp only [intBin] at h
    split at h
    · simp at h
    · rename_i hb
      simp at h; subst h
      refine ⟨_, ?_, rfl⟩
      simp [binOp, Op.shift, hb, vshl]
  case shr =>
    simp only [intBin] at h
    split at h
    · simp at h
    · rename_i hb
      simp at h; subst h
      refine ⟨_, ?_, rfl⟩
      simp [binOp, Op.shift, hb, vshr]
  case quo =>
    have hk : k = k' := by simpa using hk
    subst hk
    simp only [intBin] at h
    split at h
    · simp at h
    · rename_i hb
      simp at h; subst h
      exact ⟨_, by simp [binOp, Op.intDiv, hb], rfl⟩
  case rem =>
    have hk : k = k' := by simpa using hk
    subst hk
    simp only [intBin] at h
    split at h
    · simp at h
    · rename_i hb
      simp at h; subst h
      exact ⟨_, by simp [binOp, Op.intDiv, hb], rfl⟩
  all_goals
    have hk : k = k' := by simpa using hk
    subst hk
    simp only [intBin, Option.some.injEq] at h
    subst h
    first
      | exact ⟨_, by simp only [binOp, ne_eq, not_true_eq_false, if_false, Op.intArith, Op.intBits, Op.intCmp]; rfl, rfl⟩

theorem run_strBin {op : BinOp} {a b : ByteArray} {c : CV} (h : strBin op a b = some c) (t : TypeId) : ∃ x, (binOp op t (.string a) (.string b)).run P w = .ok x w ∧ c.rel β x := by
  cases op
  case add =>
    simp only [strBin] at h
    split at h
    · rename_i hle
      simp at h; subst h
      refine ⟨_, ?_, rfl⟩
      have : ¬ ((a.size : Int) + b.size > IntKind.i64.max) := by
        have : IntKind.i64.max = 9223372036854775807 := by decide
        omega
      simp [binOp, Op.stringOp]
      omega
    · simp at h
  all_goals simp only [strBin] at h
  all_goals first
    | (cases h; done)
    | (simp only [Option.some.injEq] at h; subst h; exact ⟨_, by simp [binOp, Op.stringOp]; try rfl, rfl⟩)

/-- Equality of one cell. -/
theorem eqC_rel {q : EqK} {x y : CV} {r : Bool} (h : eqC q x y = some r) {u z : Value} (hx : x.rel β u) (hy : y.rel β z) :
    (∃ k a b, q = .int ∧ u = .int k a ∧ z = .int k b ∧ r = (a == b)) ∨ (∃ a b, q = .bool ∧ u = .bool a ∧ z = .bool b ∧ r = (a == b)) ∨ (∃ a b, q = .str ∧ u = .string a ∧ z = .string b ∧ r = (a == b)) := by
  unfold eqC at h
  split at h
  · split at h
    · rename_i hk; subst hk
      simp at h; exact .inl ⟨_, _, _, rfl, hx, hy, h.symm⟩
    · simp at h
  · simp at h; exact .inr (.inl ⟨_, _, rfl, hx, hy, h.symm⟩)
  · simp at h; exact .inr (.inr ⟨_, _, rfl, hx, hy, h.symm⟩)
  · simp at h

theorem eqCells_len {l : List EqK} : ∀ {xs ys : List CV} {r : Bool}, eqCells l xs ys = some r → xs.length = l.length ∧ ys.length = l.length := by
  induction l with
  | nil => intro xs ys r h; cases xs <;> cases ys <;> simp [eqCells] at h ⊢
  | cons q l ih =>
    intro xs ys r h
    cases xs with
    | nil => simp [eqCells] at h
    | cons x xs =>
      cases ys with
      | nil => simp [eqCells] at h
      | cons y ys =>
        simp only [eqCells] at h
        split at h
        · rename_i a b _ hb
          have := ih hb
          simp [this.1, this.2]
        · simp at h
theorem eqCells_append {l m : List EqK} : ∀ {xs ys : List CV} {r : Bool}, eqCells (l ++ m) xs ys = some r →
    ∃ r1 r2, eqCells l (xs.take l.length) (ys.take l.length) = some r1 ∧ eqCells m (xs.drop l.length) (ys.drop l.length) = some r2 ∧ r = (r1 && r2) := by
  induction l with
  | nil => intro xs ys r h; exact ⟨true, r, by simp [eqCells], by simpa using h, by simp⟩
  | cons q l ih =>
    intro xs ys r h
    cases xs with
    | nil => simp [eqCells] at h
    | cons x xs =>
      cases ys with
      | nil => simp [eqCells] at h
      | cons y ys =>
        simp only [List.cons_append, eqCells] at h
        split at h
        · rename_i a b ha hb
          obtain ⟨r1, r2, h1, h2, h3⟩ := ih hb
          simp at h
          exact ⟨a && r1, r2, by simp [eqCells, ha, h1], by simpa using h2, by rw [← h, h3, Bool.and_assoc]⟩
        · simp at h

/-- The model's equality at a depth: what is to be shown of a type. -/
def EqSays (P : Program) (d : Nat) (t : TypeId) (l : List EqK) : Prop :=
  ∀ (β : Beta) (w : World) (xs ys : List CV) (us zs : List Value) (r : Bool), eqCells l xs ys = some r → Cells β xs us → Cells β ys zs →
    (isAggC P t = some true → (Op.equalIn d t (.agg us.toArray) (.agg zs.toArray)).run P w = .ok r w) ∧
    (isAggC P t = some false → ∀ u z, us = [u] → zs = [z] → (Op.equalIn d t u z).run P w = .ok r w)

theorem cells_one_inv {x : CV} {us : List Value} (h : Cells β [x] us) : ∃ u, us = [u] ∧ x.rel β u := by
  obtain ⟨u, us', rfl, h1, h2⟩ := h.cons_inv
  have := h2.nil_inv; subst this
  exact ⟨u, rfl, h1⟩

/-- The equality of a part. -/
theorem part_eq {d : Nat} {t : TypeId} {l : List EqK} (h : EqSays P d t l) {s : Nat} (hs : sizeC P t = some s) {b : Bool} (hb : isAggC P t = some b) (h1 : b = false → s = 1) {xs ys : List CV} {us zs : List Value} (hx : Cells β xs us) (hy : Cells β ys zs) {off : Nat} {r : Bool}
    (he : eqCells l ((xs.drop off).take s) ((ys.drop off).take s) = some r) (hl : l.length = s) :
    ∃ u z, (part t us.toArray off).run P w = .ok u w ∧ (part t zs.toArray off).run P w = .ok z w ∧ (Op.equalIn d t u z).run P w = .ok r w := by
  have hx' := (hx.drop off).take s
  have hy' := (hy.drop off).take s
  have h2 := h β w _ _ _ _ r he hx' hy'
  cases b with
  | true => exact ⟨_, _, run_partN hb hs _ _, run_partN hb hs _ _, h2.1 hb⟩
  | false =>
    have hs1 := h1 rfl
    subst hs1
    have hlen := eqCells_len he
    rw [hl] at hlen
    obtain ⟨x0, hx0⟩ := List.length_eq_one_iff.1 hlen.1
    obtain ⟨y0, hy0⟩ := List.length_eq_one_iff.1 hlen.2
    rw [hx0] at hx'; rw [hy0] at hy'
    obtain ⟨u, hu, _⟩ := cells_one_inv hx'
    obtain ⟨z, hz, _⟩ := cells_one_inv hy'
    have gu : us[off]? = some u := by
      have : (List.take 1 (List.drop off us))[0]? = some u := by rw [hu]; rfl
      simpa using this
    have gz : zs[off]? = some z := by
      have : (List.take 1 (List.drop off zs))[0]? = some z := by rw [hz]; rfl
      simpa using this
    exact ⟨u, z, run_part1 hb gu, run_part1 hb gz, h2.2 hb u z hu hz⟩

theorem eqK_one {d : Nat} {t : TypeId} {l : List EqK} (h : eqK P d t = some l) (hb : isAggC P t = some false) : l.length = 1 := by
  cases d with
  | zero => simp [eqK] at h
  | succ d =>
    unfold eqK at h
    unfold isAggC at hb
    split at h
    · simp at h; subst h; rfl
    · simp at h; subst h; rfl
    · simp at h; subst h; rfl
    · rename_i n e hu; simp [hu] at hb
    · rename_i fs hu; simp [hu] at hb
    · simp at h

theorem eqFs_says {d : Nat} {rec : TypeId → Option (List EqK)} (ih : ∀ t l, rec t = some l → EqSays P d t l ∧ (isAggC P t = some false → l.length = 1)) {xs ys : List CV} {us zs : List Value} (hx : Cells β xs us) (hy : Cells β ys zs) :
    ∀ (fs : List Field) (off : Nat) (l : List EqK) (r : Bool), eqFs P rec off fs = some l → eqCells l (xs.drop off) (ys.drop off) = some r → (Op.eqFields d us.toArray zs.toArray fs).run P w = .ok r w
  | [], off, l, r, h, he => by
    simp [eqFs] at h; subst h
    have := eqCells_len he
    have h1 : xs.drop off = [] := List.length_eq_zero_iff.1 this.1
    have h2 : ys.drop off = [] := List.length_eq_zero_iff.1 this.2
    rw [h1, h2] at he
    simp [eqCells] at he; subst he
    simp [Op.eqFields]
  | f :: fs, off, l, r, h, he => by
    simp only [eqFs] at h
    split at h
    · simp at h
    rename_i hn
    simp only [not_or, Decidable.not_not] at hn
    split at h
    case h_2 => simp at h
    rename_i l1 b s hl1 hb hs
    split at h
    case isFalse => simp at h
    rename_i hls
    simp only [Option.map_eq_some_iff] at h
    obtain ⟨l2, hl2, rfl⟩ := h
    obtain ⟨r1, r2, h1, h2, rfl⟩ := eqCells_append he
    rw [hls] at h1 h2
    obtain ⟨ih1, ih2⟩ := ih _ _ hl1
    obtain ⟨u, z, p1, p2, p3⟩ := part_eq (w := w) ih1 hs hb (fun e => by subst e; rw [← hls]; exact ih2 hb) hx hy h1 hls
    rw [← hn.2] at p1 p2
    have hrest := eqFs_says ih hx hy fs (off + s) l2 r2 hl2 (by simpa [List.drop_drop] using h2)
    simp only [Op.eqFields, ne_eq, hn.1, not_false_eq_true, if_true, Sem.run_bind, p1, p2, p3, Result.andThen_ok]
    cases r1
    · simp
    · simpa using hrest

theorem eqItems_says {d : Nat} {e : TypeId} {l : List EqK} (ih : EqSays P d e l) (ih1 : isAggC P e = some false → l.length = 1) {s : Nat} (hs : sizeC P e = some s) {b : Bool} (hb : isAggC P e = some b) (hl : l.length = s) {xs ys : List CV} {us zs : List Value} (hx : Cells β xs us) (hy : Cells β ys zs) :
    ∀ (n i : Nat) (r : Bool), eqCells (List.replicate n l).flatten (xs.drop (i * s)) (ys.drop (i * s)) = some r → (Op.eqItems d e s us.toArray zs.toArray (List.range' i n)).run P w = .ok r w
  | 0, i, r, he => by
    have := eqCells_len he
    have h1 : xs.drop (i * s) = [] := List.length_eq_zero_iff.1 this.1
    have h2 : ys.drop (i * s) = [] := List.length_eq_zero_iff.1 this.2
    rw [h1, h2] at he
    simp [eqCells] at he; subst he
    simp [Op.eqItems]
  | n + 1, i, r, he => by
    rw [List.replicate_succ, List.flatten_cons] at he
    obtain ⟨r1, r2, h1, h2, rfl⟩ := eqCells_append he
    rw [hl] at h1 h2
    obtain ⟨u, z, p1, p2, p3⟩ := part_eq (w := w) ih hs hb (fun e => by subst e; rw [← hl]; exact ih1 hb) hx hy h1 hl
    have hrest := eqItems_says ih ih1 hs hb hl hx hy n (i + 1) r2 (by
      have e1 : (i + 1) * s = i * s + s := by rw [Nat.add_mul, Nat.one_mul]
      rw [e1]; simpa [List.drop_drop] using h2)
    rw [List.range'_succ]
    simp only [Op.eqItems, Sem.run_bind, p1, p2, p3, Result.andThen_ok]
    cases r1
    · simp
    · simpa using hrest

theorem eqK_says : ∀ (m : Nat) (d : Nat) (t : TypeId) (l : List EqK), eqK P m t = some l → EqSays P (d + m) t l
  | 0, d, t, l, h => by simp [eqK] at h
  | m + 1, d, t, l, h => by
    intro β w xs ys us zs r he hx hy
    have rec_ : ∀ t l, eqK P m t = some l → EqSays P (d + m) t l ∧ (isAggC P t = some false → l.length = 1) := fun t l h => ⟨eqK_says m d t l h, fun hb => eqK_one h hb⟩
    unfold eqK at h
    split at h
    · rename_i hu
      simp at h; subst h
      refine ⟨fun hb => by simp [isAggC, hu] at hb, fun _ u z eu ez => ?_⟩
      subst eu; subst ez
      match xs, ys, he, hx, hy with
      | [x], [y], he, hx, hy =>
        obtain ⟨u', e1, hxu⟩ := cells_one_inv hx
        obtain ⟨z', e2, hyz⟩ := cells_one_inv hy
        simp at e1 e2; subst e1; subst e2
        simp only [eqCells] at he
        split at he
        · rename_i a b ha hb
          simp at hb he; subst hb; simp at he; subst he
          rcases eqC_rel ha hxu hyz with ⟨k, a', b', hq, _⟩ | ⟨a', b', _, rfl, rfl, hr⟩ | ⟨a', b', hq, _⟩
          · cases hq
          · rw [hr]; exact run_equalIn_bool' w (d + m) t a' b' hu
          · cases hq
        · simp at he
      | [], _, he, _, _ => simp [eqCells] at he
      | _ :: _ :: _, [], he, _, _ => simp [eqCells] at he
      | _ :: _ :: _, _ :: _, he, _, _ => simp [eqCells] at he
      | [_], [], he, _, _ => simp [eqCells] at he
      | [_], _ :: _ :: _, he, _, _ => simp [eqCells] at he
    · rename_i k0 hu
      simp at h; subst h
      refine ⟨fun hb => by simp [isAggC, hu] at hb, fun _ u z eu ez => ?_⟩
      subst eu; subst ez
      match xs, ys, he, hx, hy with
      | [x], [y], he, hx, hy =>
        obtain ⟨u', e1, hxu⟩ := cells_one_inv hx
        obtain ⟨z', e2, hyz⟩ := cells_one_inv hy
        simp at e1 e2; subst e1; subst e2
        simp only [eqCells] at he
        split at he
        · rename_i a b ha hb
          simp at hb he; subst hb; simp at he; subst he
          rcases eqC_rel ha hxu hyz with ⟨k, a', b', hq, rfl, rfl, hr⟩ | ⟨a', b', hq, _⟩ | ⟨a', b', hq, _⟩
          · rw [hr]; exact run_equalIn_int w (d + m) t k k0 a' b' hu
          · cases hq
          · cases hq
        · simp at he
      | [], _, he, _, _ => simp [eqCells] at he
      | _ :: _ :: _, [], he, _, _ => simp [eqCells] at he
      | _ :: _ :: _, _ :: _, he, _, _ => simp [eqCells] at he
      | [_], [], he, _, _ => simp [eqCells] at he
      | [_], _ :: _ :: _, he, _, _ => simp [eqCells] at he
    · rename_i hu
      simp at h; subst h
      refine ⟨fun hb => by simp [isAggC, hu] at hb, fun _ u z eu ez => ?_⟩
      subst eu; subst ez
      match xs, ys, he, hx, hy with
      | [x], [y], he, hx, hy =>
        obtain ⟨u', e1, hxu⟩ := cells_one_inv hx
        obtain ⟨z', e2, hyz⟩ := cells_one_inv hy
        simp at e1 e2; subst e1; subst e2
        simp only [eqCells] at he
        split at he
        · rename_i a b ha hb
          simp at hb he; subst hb; simp at he; subst he
          rcases eqC_rel ha hxu hyz with ⟨k, a', b', hq, _⟩ | ⟨a', b', hq, _⟩ | ⟨a', b', _, rfl, rfl, hr⟩
          · cases hq
          · cases hq
          · rw [hr, beq_toListBytes]; exact run_equalIn_string w (d + m) t a' b' hu
        · simp at he
      | [], _, he, _, _ => simp [eqCells] at he
      | _ :: _ :: _, [], he, _, _ => simp [eqCells] at he
      | _ :: _ :: _, _ :: _, he, _, _ => simp [eqCells] at he
      | [_], [], he, _, _ => simp [eqCells] at he
      | [_], _ :: _ :: _, he, _, _ => simp [eqCells] at he
    · rename_i n e hu
      split at h
      case h_2 => simp at h
      rename_i l1 s b hl1 hs hb
      split at h
      case isFalse => simp at h
      rename_i hls
      simp at h; subst h
      refine ⟨fun _ => ?_, fun hb => by simp [isAggC, hu] at hb⟩
      obtain ⟨ih1, ih2⟩ := rec_ e l1 hl1
      have hi : ∃ i, P.info? e = some i ∧ P.cellsOf e = s := by
        unfold sizeC at hs
        cases hi : P.info? e with
        | none => simp [hi] at hs
        | some i => exact ⟨i, rfl, by simp [hi] at hs; simp [Program.cellsOf, hi, hs]⟩
      obtain ⟨i, hi, hcs⟩ := hi
      rw [show d + (m + 1) = (d + m) + 1 from rfl, run_equalIn_array w (d + m) us.toArray zs.toArray hu hi, hcs]
      have := eqItems_says (w := w) ih1 ih2 hs hb hls hx hy n 0 r (by simpa using he)
      rw [List.range_eq_range']
      exact this
    · rename_i fs hu
      split at h
      · simp at h
      rename_i hst
      refine ⟨fun _ => ?_, fun hb => by simp [isAggC, hu] at hb⟩
      have hfs : P.fieldsOf t = fs := by simp [Program.fieldsOf, hu]
      rw [show d + (m + 1) = (d + m) + 1 from rfl, run_equalIn_struct w (d + m) t us.toArray zs.toArray (by rw [hfs]; exact hu) (by simpa using hst), hfs]
      exact eqFs_says rec_ hx hy fs.toList 0 l r h (by simpa using he)
    · simp at h

theorem run_eqRes {op : BinOp} {r : Bool} {c : CV} (h : eqRes op r = some c) : (op = .eql ∧ c = .bool r) ∨ (op = .neq ∧ c = .bool !r) := by
  cases op <;> simp [eqRes] at h
  · exact .inl ⟨rfl, h.symm⟩
  · exact .inr ⟨rfl, h.symm⟩

/-- The guard of an equality between cells that are no interface values: nothing. -/
theorem run_eqGuard_plain {op : BinOp} {t : TypeId} {x y : Operand} {u z : Value} (h1 : u ≠ .nilIface) (h2 : ∀ l, u ≠ .agg l) : (eqGuard op t x y u z).run P w = .ok () w := by
  cases op <;> (try simp [eqGuard]; done)
  all_goals
    cases u
    case nilIface => exact absurd rfl h1
    case agg l => exact absurd rfl (h2 l)
    all_goals simp [eqGuard]

theorem CV.no_iface {c : CV} {x : Value} (h : c.rel β x) : x ≠ .nilIface ∧ ∀ l, x ≠ .agg l := by
  cases c with
  | ptr a => cases a with
    | none => simp [CV.rel] at h; subst h; simp
    | some p => obtain ⟨_, _, h⟩ := h; subst h; simp
  | slice a l cap => cases a with
    | none => simp [CV.rel] at h; obtain ⟨_, h⟩ := h; subst h; simp
    | some p => obtain ⟨_, _, _, _, h, _⟩ := h; subst h; simp
  | fn f caps => obtain ⟨_, h, _⟩ := h; subst h; simp
  | undef => simp [CV.rel] at h; subst h; simp [Go.undef]
  | _ => simp [CV.rel] at h; subst h; simp

theorem run_binOp_eq {op : BinOp} {t : TypeId} {u z : Value} {r : Bool} {c : CV} (hr : eqRes op r = some c) (hu : (∀ k n, u ≠ .int k n) ∧ (∀ s, u ≠ .string s)) (hn : (∀ k n, u ≠ .float k n) ∧ (∀ k n m, u ≠ .complex k n m)) (he : (Op.equal t u z).run P w = .ok r w) :
    (binOp op t u z).run P w = .ok (.bool (match c with | .bool b => b | _ => false)) w ∧ c.rel β (.bool (match c with | .bool b => b | _ => false)) := by
  rcases run_eqRes hr with ⟨rfl, rfl⟩ | ⟨rfl, rfl⟩
  · refine ⟨?_, rfl⟩
    cases u with
    | int k n => exact absurd rfl (hu.1 k n)
    | string s => exact absurd rfl (hu.2 s)
    | float k n => exact absurd rfl (hn.1 k n)
    | complex k n m => exact absurd rfl (hn.2 k n m)
    | _ => simp [binOp, he]
  · refine ⟨?_, rfl⟩
    cases u with
    | int k n => exact absurd rfl (hu.1 k n)
    | string s => exact absurd rfl (hu.2 s)
    | float k n => exact absurd rfl (hn.1 k n)
    | complex k n m => exact absurd rfl (hn.2 k n m)
    | _ => simp [binOp, he]

theorem cBinK_bool {t : TypeId} (h : cBinK P t = .bool) : P.underlying t = some .bool := by
  unfold cBinK at h
  repeat' split at h
  all_goals first | assumption | (cases h; done)
theorem cBinK_slice {t : TypeId} (h : cBinK P t = .slice) : ∃ e, P.underlying t = some (.slice e) := by
  unfold cBinK at h
  repeat' split at h
  all_goals first | exact ⟨_, by assumption⟩ | (cases h; done)
theorem cBinK_ptr {t : TypeId} (h : cBinK P t = .ptr) : ∃ e, P.underlying t = some (.pointer e) := by
  unfold cBinK at h
  repeat' split at h
  all_goals first | exact ⟨_, by assumption⟩ | (cases h; done)
theorem cBinK_agg {t : TypeId} {l : List EqK} (h : cBinK P t = .agg l) : P.eqGuardType P.depth t = false ∧ eqK P 9 t = some l ∧ isAggC P t = some true := by
  unfold cBinK at h
  split at h
  case h_6 n e hu =>
    split at h
    · cases h
    · rename_i hg
      split at h
      · rename_i l' hl'; cases h; exact ⟨by simpa using hg, hl', by simp [isAggC, hu]⟩
      · cases h
  case h_7 fs hu =>
    split at h
    · cases h
    · rename_i hg
      split at h
      · rename_i l' hl'; cases h; exact ⟨by simpa using hg, hl', by simp [isAggC, hu]⟩
      · cases h
  all_goals cases h
theorem equal_slice_l {t e : TypeId} (hu : P.underlying t = some (.slice e)) (b : Option Addr) (l c : Nat) : (Op.equal t (.slice none 0 0) (.slice b l c)).run P w = .ok b.isNone w := by
  have : ∀ d, (Op.equalIn (d + 1) t (.slice none 0 0) (.slice b l c)).run P w = .ok b.isNone w := fun d => by simp [Op.equalIn, run_underlying hu]
  exact this 9999
theorem equal_slice_r {t e : TypeId} (hu : P.underlying t = some (.slice e)) (b : Addr) (l c : Nat) : (Op.equal t (.slice (some b) l c) (.slice none 0 0)).run P w = .ok false w := by
  have : ∀ d, (Op.equalIn (d + 1) t (.slice (some b) l c) (.slice none 0 0)).run P w = .ok false w := fun d => by simp [Op.equalIn, run_underlying hu]
  exact this 9999
theorem equal_ptr_l {t e : TypeId} (hu : P.underlying t = some (.pointer e)) (b : Option Addr) : (Op.equal t (.pointer none) (.pointer b)).run P w = .ok b.isNone w := by
  have : ∀ d, (Op.equalIn (d + 1) t (.pointer none) (.pointer b)).run P w = .ok b.isNone w := fun d => by simp [Op.equalIn, run_underlying hu]
  exact this 9999
theorem equal_ptr_r {t e : TypeId} (hu : P.underlying t = some (.pointer e)) (b : Addr) : (Op.equal t (.pointer (some b)) (.pointer none)).run P w = .ok false w := by
  have : ∀ d, (Op.equalIn (d + 1) t (.pointer (some b)) (.pointer none)).run P w = .ok false w := fun d => by simp [Op.equalIn, run_underlying hu]
  exact this 9999

theorem ok_bin (hs : SR β σ a) (hr : HR B0 β H w) {op : BinOp} {t yt : TypeId} {x y : Operand} {x' y' : Opd} (hx : cOpd x = some x') (hy : cOpd y = some y') (h : binA op (cBinK P t) (x'.ev σ) (y'.ev σ) = some v) :
    OpOk P ⟨dst, .binOp op t x y yt, type, pos, after, g⟩ a B0 β H w v H := by
  have rx := cOpd_rel hs hx
  have ry := cOpd_rel hs hy
  unfold binA at h
  split at h
  · rename_i c d hc hd
    rw [hc] at rx; rw [hd] at ry
    simp only [Option.map_eq_some_iff] at h
    obtain ⟨r, h, rfl⟩ := h
    obtain ⟨n1, n2⟩ := CV.no_iface rx
    have hg : (eqGuard op t x y (a.eval x) (a.eval y)).run P w = .ok () w := run_eqGuard_plain n1 n2
    suffices hb : ∃ z, (binOp op t (a.eval x) (a.eval y)).run P w = .ok z w ∧ r.rel β z by
      obtain ⟨z, hz, hz'⟩ := hb
      exact .same hr (x := z) (by simp [execOp, hg, hz]) hz'
    unfold binC at h
    split at h
    · split at h
      · rename_i k1 n1' k2 n2' hk
        have e1 := rel_int rx; have e2 := rel_int ry
        rw [e1, e2]; exact run_intBin hk h t
      · simp at h
    · have e1 := rel_str rx; have e2 := rel_str ry
      rw [e1, e2]; exact run_strBin h t
    · have e1 := rel_bool rx; have e2 := rel_bool ry
      split at h
      · rename_i hq
        have hu : P.underlying t = some .bool := cBinK_bool hq
        rw [e1, e2]
        have := run_binOp_eq (P := P) (w := w) (β := β) (t := t) h (u := .bool _) (z := .bool _) (by simp) (by simp) (run_equalIn_bool' w 9999 t _ _ hu)
        exact ⟨_, this.1, this.2⟩
      · simp at h
    · split at h
      · rename_i l1 c1 b l2 c2 _ hq
        have hu : ∃ e, P.underlying t = some (.slice e) := by
          exact cBinK_slice hq
        obtain ⟨e, hu⟩ := hu
        obtain ⟨_, e1⟩ := rx
        rw [e1]
        have he : (Op.equal t (.slice none 0 0) (a.eval y)).run P w = .ok b.isNone w := by
          cases b with
          | none => obtain ⟨_, e2⟩ := ry; rw [e2]; exact equal_slice_l hu _ _ _
          | some p => obtain ⟨ad, cc, _, _, e2, _⟩ := ry; rw [e2]; exact equal_slice_l hu _ _ _
        have := run_binOp_eq (P := P) (w := w) (β := β) (t := t) h (u := .slice none 0 0) (z := a.eval y) (by simp) (by simp) he
        exact ⟨_, this.1, this.2⟩
      · simp at h
    · split at h
      · rename_i p l1 c1 l2 c2 _ hq
        have hu : ∃ e, P.underlying t = some (.slice e) := by
          exact cBinK_slice hq
        obtain ⟨e, hu⟩ := hu
        obtain ⟨ad, cc, _, _, e1, _⟩ := rx
        obtain ⟨_, e2⟩ := ry
        rw [e1, e2]
        have := run_binOp_eq (P := P) (w := w) (β := β) (t := t) h (u := .slice (some ad) l1 cc) (z := .slice none 0 0) (by simp) (by simp) (equal_slice_r (w := w) hu ad l1 cc)
        exact ⟨_, this.1, this.2⟩
      · simp at h
    · split at h
      · rename_i b _ hq
        have hu : ∃ e, P.underlying t = some (.pointer e) := by
          exact cBinK_ptr hq
        obtain ⟨e, hu⟩ := hu
        have e1 : a.eval x = .pointer none := rx
        rw [e1]
        have he : (Op.equal t (.pointer none) (a.eval y)).run P w = .ok b.isNone w := by
          cases b with
          | none => have e2 : a.eval y = .pointer none := ry; rw [e2]; exact equal_ptr_l hu _
          | some p => obtain ⟨ad, _, e2⟩ := ry; rw [e2]; exact equal_ptr_l hu _
        have hbo : ∃ z, (binOp op t (.pointer none) (a.eval y)).run P w = .ok z w ∧ r.rel β z := by
          rcases run_eqRes h with ⟨rfl, rfl⟩ | ⟨rfl, rfl⟩
          · exact ⟨.bool b.isNone, by simp [binOp, he], rfl⟩
          · exact ⟨.bool !b.isNone, by simp [binOp, he], rfl⟩
        exact hbo
      · simp at h
    · split at h
      · rename_i p _ hq
        have hu : ∃ e, P.underlying t = some (.pointer e) := by
          exact cBinK_ptr hq
        obtain ⟨e, hu⟩ := hu
        obtain ⟨ad, _, e1⟩ := rx
        have e2 : a.eval y = .pointer none := ry
        rw [e1, e2]
        have he : (Op.equal t (.pointer (some ad)) (.pointer none)).run P w = .ok false w   := equal_ptr_r hu _
        rcases run_eqRes h with ⟨rfl, rfl⟩ | ⟨rfl, rfl⟩
        · exact ⟨.bool false, by simp [binOp, he], rfl⟩
        · exact ⟨.bool !false, by simp [binOp, he], rfl⟩
      · simp at h
    · simp at h
  · rename_i xs ys hc hd
    rw [hc] at rx; rw [hd] at ry
    obtain ⟨us, e1, hu⟩ := rel_agg rx
    obtain ⟨zs, e2, hz⟩ := rel_agg ry
    split at h
    case h_2 => simp at h
    rename_i l hq
    split at h
    case h_2 => simp at h
    rename_i r hr'
    simp only [Option.map_eq_some_iff] at h
    obtain ⟨c, h, rfl⟩ := h
    have hk := cBinK_agg hq
    obtain ⟨hg, hk, hagg⟩ := hk
    have he : (Op.equal t (.agg us.toArray) (.agg zs.toArray)).run P w = .ok r w := ((eqK_says 9 9991 t l hk) β w xs ys us zs r hr' hu hz).1 hagg
    have hgd : (eqGuard op t x y (.agg us.toArray) (.agg zs.toArray)).run P w = .ok () w := by
      cases op <;> simp [eqGuard, hg]
    have := run_binOp_eq (P := P) (w := w) (β := β) (t := t) h (u := .agg us.toArray) (z := .agg zs.toArray) (by simp) (by simp) he
    exact .same hr (by simp [execOp, e1, e2, hgd, this.1]) this.2
  · simp at h

theorem ok_un (hs : SR β σ a) (hr : HR B0 β H w) {op : UnOp} {t : TypeId} {x : Operand} {x' : Opd} (hx : cOpd x = some x') (h : unA op (x'.ev σ) = some v) :
    OpOk P ⟨dst, .unOp op t x, type, pos, after, g⟩ a B0 β H w v H := by
  have rx := cOpd_rel hs hx
  unfold unA at h
  split at h
  · rename_i k n hc
    rw [hc] at rx; have e := rel_int rx
    simp at h; subst h
    exact .same hr (by simp [execOp, e, Op.unary, Op.intArith]) rfl
  · rename_i k n hc
    rw [hc] at rx; have e := rel_int rx
    simp at h; subst h
    exact .same hr (x := .int k (vxor k (if k.signed then -1 else k.max) n)) (by simp only [execOp, e, Op.unary, Op.intBits]; rfl) rfl
  · rename_i b hc
    rw [hc] at rx; have e := rel_bool rx
    simp at h; subst h
    exact .same hr (by simp [execOp, e, Op.unary]) rfl
  · simp at h

theorem ok_conv (hs : SR β σ a) (hr : HR B0 β H w) {src d : TypeId} {k0 k : IntKind} {x : Operand} {x' : Opd} (h1 : P.underlying src = some (.int k0)) (h2 : P.underlying d = some (.int k)) (hx : cOpd x = some x') {k1 : IntKind} {n : Int} (h : x'.ev σ = .c (.int k1 n)) :
    OpOk P ⟨dst, .convert src d x, type, pos, after, g⟩ a B0 β H w (.c (.int k (k.wrap n))) H := by
  have rx := cOpd_rel hs hx
  rw [h] at rx; have e := rel_int rx
  exact .same hr (x := .int k (k.wrap n)) (by simp [execOp, e, convert, run_underlying h1, run_underlying h2, Conv.intToInt]) rfl

end
end Go.Proofs.Ytebdajfangbdpaa.VI
