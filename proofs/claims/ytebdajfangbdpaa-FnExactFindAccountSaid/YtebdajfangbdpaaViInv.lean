/- An interpreter over an abstract heap, and its soundness over the machine: part Inv. -/
import Derived.Test.YtebdajfangbdpaaViLaw
import Derived.Test.YtebdajfangbdpaaViRun
set_option linter.unusedVariables false
set_option linter.unusedSimpArgs false
set_option linter.unusedSectionVars false
namespace Go.Proofs.Ytebdajfangbdpaa.VI
open Go

/-! ### What arguments look like -/
theorem ArgOk.st_cons {H : AHeap} {f : Ty} {fs : List Ty} {cs : List CV} (h : ArgOk H (.st (f :: fs)) cs) : ∃ p cs', cs = p ++ cs' ∧ ArgOk H f p ∧ ArgOk H (.st fs) cs' := by
  cases h with
  | st hl he =>
    rename_i parts
    match parts, hl with
    | p :: ps, hl =>
      refine ⟨p, ps.flatten, rfl, he 0 f p rfl rfl, .st (by simpa using hl) fun j t q ht hq => he (j + 1) t q (by simpa using ht) (by simpa using hq)⟩
theorem ArgOk.st_nil {H : AHeap} {cs : List CV} (h : ArgOk H (.st []) cs) : cs = [] := by
  cases h with
  | st hl he =>
    rename_i parts
    match parts, hl with
    | [], _ => rfl
/-- These slices have such elements, that may be read. -/
def Slc (H : AHeap) (c : CV) (elems : List (List CV)) : Prop :=
  (c = .slice none 0 (.exact 0) ∧ elems = []) ∨ ∃ id t, c = .slice (some (id, 0)) elems.length .any ∧ (0 < elems.length → H.get id = some ⟨t, elems.flatten, .ro⟩)
theorem ArgOk.sl_inv {H : AHeap} {size bytes : Nat} {e : Ty} {cs : List CV} (h : ArgOk H (.sl size bytes e) cs) : ∃ c elems, cs = [c] ∧ Slc H c elems ∧ (∀ p ∈ elems, p.length = size ∧ ArgOk H e p) ∧ elems.length * bytes ≤ 140737488351232 := by
  cases h with
  | nil => exact ⟨_, [], rfl, .inl ⟨rfl, rfl⟩, (fun p hp => by cases hp), by simp⟩
  | sl hb hl hw hz he =>
    rename_i id len t elems
    subst hl
    exact ⟨_, elems, rfl, .inr ⟨id, t, rfl, hb⟩, fun p hp => ⟨hz p hp, he p hp⟩, hw⟩
theorem ArgA.sl_inv {H : AHeap} {size bytes : Nat} {e : Ty} {a : AV} (h : ArgA H (.sl size bytes e) a) : ∃ c elems, a = .c c ∧ Slc H c elems ∧ (∀ p ∈ elems, p.length = size ∧ ArgOk H e p) ∧ elems.length * bytes ≤ 140737488351232 := by
  obtain ⟨cs, h1, _, h2⟩ := h
  obtain ⟨c, rfl, rfl⟩ := h2 rfl
  obtain ⟨c', elems, h3, h4⟩ := h1.sl_inv
  simp at h3; subst h3
  exact ⟨c, elems, rfl, h4⟩
theorem ArgA.agg_inv {H : AHeap} {ty : Ty} {a : AV} (h : ArgA H ty a) (ha : ty.agg = true) : ∃ cs, a = .agg cs ∧ ArgOk H ty cs := by
  obtain ⟨cs, h1, h2, _⟩ := h
  exact ⟨cs, h2 ha, h1⟩
/-- Elements that are told by a list. -/
theorem elems_map {α : Type} {H : AHeap} {e : Ty} {f : α → List CV} {ok : α → Prop} (hf : ∀ p, ArgOk H e p → ∃ x, p = f x ∧ ok x) : ∀ {elems : List (List CV)}, (∀ p ∈ elems, ArgOk H e p) → ∃ xs : List α, elems = xs.map f ∧ ∀ x ∈ xs, ok x
  | [], _ => ⟨[], rfl, fun x hx => by cases hx⟩
  | p :: ps, h => by
    obtain ⟨x, hx, hok⟩ := hf p (h p (by simp))
    obtain ⟨xs, h1, h2⟩ := elems_map hf (elems := ps) (fun q hq => h q (by simp [hq]))
    exact ⟨x :: xs, by simp [hx, h1], fun y hy => by
      rcases List.mem_cons.1 hy with rfl | hy
      · exact hok
      · exact h2 y hy⟩
theorem Slc.app {H : AHeap} {c : CV} {elems : List (List CV)} (h : Slc H c elems) (t : List (Option Blk)) : Slc (H ++ t) c elems := by
  rcases h with h | ⟨id, e, h1, h2⟩
  · exact .inl h
  · exact .inr ⟨id, e, h1, fun h0 => by rw [get_appl (get_some_lt (h2 h0))]; exact h2 h0⟩
/-! ### Rows of cells -/
section
variable {α : Type} {f : α → List CV} {s : Nat}
theorem rows_get (hs : ∀ x, (f x).length = s) : ∀ {xs : List α} {i j : Nat} (hi : i < xs.length) (_ : j < s), ((xs.map f).flatten)[i * s + j]? = (f (xs[i]'hi))[j]?
  | x :: xs, 0, j, _, hj => by simp [List.getElem?_append_left (show j < (f x).length by rw [hs]; exact hj)]
  | x :: xs, i + 1, j, hi, hj => by
    have := rows_get hs (xs := xs) (i := i) (j := j) (by simpa using hi) hj
    simp only [List.map_cons, List.flatten_cons, List.getElem_cons_succ]
    rw [List.getElem?_append_right (by rw [hs, Nat.succ_mul]; omega), hs, ← this]
    congr 1; rw [Nat.succ_mul]; omega
theorem rows_cut (hs : ∀ x, (f x).length = s) : ∀ {xs : List α} {i : Nat} (hi : i < xs.length), (((xs.map f).flatten).drop (i * s)).take s = f (xs[i]'hi)
  | x :: xs, 0, _ => by simp [← hs x]
  | x :: xs, i + 1, hi => by
    have := rows_cut hs (xs := xs) (i := i) (by simpa using hi)
    simp only [List.map_cons, List.flatten_cons, List.getElem_cons_succ]
    rw [← this, Nat.succ_mul, Nat.add_comm, ← List.drop_drop, List.drop_left' (hs x)]
theorem rows_len (hs : ∀ x, (f x).length = s) : ∀ {xs : List α}, ((xs.map f).flatten).length = xs.length * s
  | [] => by simp
  | x :: xs => by simp only [List.map_cons, List.flatten_cons, List.length_append, hs, rows_len hs (xs := xs), List.length_cons]; rw [Nat.succ_mul]; omega
end
end Go.Proofs.Ytebdajfangbdpaa.VI
