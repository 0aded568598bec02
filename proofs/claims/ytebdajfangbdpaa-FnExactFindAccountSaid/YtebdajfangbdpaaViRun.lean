/- An interpreter over an abstract heap, and its soundness over the machine: part Run. -/
import Derived.Test.YtebdajfangbdpaaViEv
import Derived.IntWalk
set_option linter.unusedVariables false
set_option linter.unusedSimpArgs false
set_option linter.unusedSectionVars false
namespace Go.Proofs.Ytebdajfangbdpaa.VI
open Go

/-! ### Slots as a list -/
def putL : List AV → Nat → AV → List AV
  | [], 0, v => [v]
  | [], n + 1, v => .c .undef :: putL [] n v
  | _ :: l, 0, v => v :: l
  | a :: l, n + 1, v => a :: putL l n v
def getL : List AV → Nat → AV
  | [], _ => .c .undef
  | a :: _, 0 => a
  | _ :: l, n + 1 => getL l n
def lst (l : List AV) : Sl := fun i => getL l i
theorem getL_putL : ∀ (l : List AV) (d : Nat) (v : AV) (i : Nat), getL (putL l d v) i = if i = d then v else getL l i
  | [], 0, v, 0 => rfl
  | [], 0, v, i + 1 => by simp [putL, getL]
  | [], d + 1, v, 0 => by simp [putL, getL]
  | [], d + 1, v, i + 1 => by simp [putL, getL, getL_putL [] d v i]
  | a :: l, 0, v, 0 => rfl
  | a :: l, 0, v, i + 1 => by simp [putL, getL]
  | a :: l, d + 1, v, 0 => by simp [putL, getL]
  | a :: l, d + 1, v, i + 1 => by simp [putL, getL, getL_putL l d v i]
theorem upd_lst (l : List AV) (d : Nat) (v : AV) : upd (lst l) d v = lst (putL l d v) := by
  funext i; simp [upd, lst, getL_putL]
theorem getD_getL : ∀ (l : List AV) (i : Nat), l.getD i (.c .undef) = getL l i
  | [], _ => rfl
  | a :: l, 0 => rfl
  | a :: l, i + 1 => by simpa [getL] using getD_getL l i
theorem init_lst (args : List AV) : (fun i => args.getD i (.c .undef)) = lst args := by funext i; exact getD_getL args i

/-! ### Steps -/
section
variable {call : CallA} {σ : Sl} {H : AHeap}
theorem lst_get {l : List AV} {n : Nat} : lst l n = getL l n := rfl
theorem ev_t {n : Nat} : Opd.ev σ (.t n) = σ n := rfl
theorem upd_at {d : Nat} {v : AV} : upd σ d v d = v := by simp [upd]
theorem upd_ne {d i : Nat} {v : AV} (h : (i == d) = false) : upd σ d v i = σ i := by
  have : ¬ i = d := by simpa using h
  simp [upd, this]
theorem ev_k {v : AV} : Opd.ev σ (.k v) = v := rfl
theorem putS_some {d : Nat} {v : AV} : putS σ (some d) v = upd σ d v := rfl
theorem upd_l {l : List AV} {d : Nat} {v : AV} : upd (lst l) d v = lst (putL l d v) := upd_lst l d v
theorem putS_none {v : AV} : putS σ none v = σ := rfl
theorem ops_nil {s : St} : evalOps call [] s = some s := rfl
/-- What is left to be done behind a step. -/
def nextO (call : CallA) (x : Option (AV × AHeap)) (d : Option Nat) (r : List KO) (σ : Sl) : Option St := x.bind fun x => evalOps call r (putS σ d x.1, x.2)
theorem next_some {v : AV} {d : Option Nat} {r : List KO} : nextO call (some (v, H)) d r σ = evalOps call r (putS σ d v, H) := Eq.trans rfl rfl
theorem next_none {d : Option Nat} {r : List KO} : nextO call none d r σ = none := Eq.trans rfl rfl
theorem next_ite {c : Prop} [Decidable c] {x y : Option (AV × AHeap)} {d : Option Nat} {r : List KO} : nextO call (if c then x else y) d r σ = if c then nextO call x d r σ else nextO call y d r σ := by split <;> rfl
theorem ops_cons {d : Option Nat} {op : KOp} {r : List KO} : evalOps call (⟨d, op, none⟩ :: r) (σ, H) = nextO call (evalOp call σ H op) d r σ := by
  simp only [evalOps, evalKO, wantA, nextO]
  cases evalOp call σ H op <;> rfl
/-- A guarded step: told by the slot's value; what is learnt of it is put into the slot. -/
def guardC (call : CallA) (g : AV) (j : Nat) (w : Bool) (d : Option Nat) (op : KOp) (r : List KO) (σ : Sl) (H : AHeap) : Option St :=
  match g with
  | .c (.bool b) => if b = w then nextO call (evalOp call (upd σ j (.c (.bool w))) H op) d r (upd σ j (.c (.bool w))) else evalOps call r (putS (upd σ j (.c (.bool !w))) d (.c .undef), H)
  | _ => evalOps call r (putS σ d (.c .undef), H)
theorem upd_self {j : Nat} {v : AV} (h : σ j = v) : upd σ j v = σ := by
  funext i; unfold upd; split
  · next e => rw [e, h]
  · rfl
theorem ops_consg {d : Option Nat} {op : KOp} {r : List KO} {j : Nat} {w : Bool} : evalOps call (⟨d, op, some (j, w)⟩ :: r) (σ, H) = guardC call (σ j) j w d op r σ H := by
  unfold guardC
  split
  · rename_i b h
    have e : wantA σ (some (j, w)) = (b == w) := by simp only [wantA, h]
    simp only [evalOps, evalKO, e]
    by_cases hb : b = w
    · subst hb; rw [upd_self h]; simp; cases evalOp call σ H op <;> rfl
    · have : (b == w) = false := by simpa using hb
      have e2 : b = !w := by cases b <;> cases w <;> simp_all
      rw [upd_self (v := .c (.bool !w)) (by rw [h, e2]), if_neg hb, this]
      rfl
  · rename_i h
    have e : wantA σ (some (j, w)) = false := by
      unfold wantA
      dsimp only
      split
      · rename_i b hb; exact absurd hb (h b)
      · rfl
    simp only [evalOps, evalKO, e]
    rfl
theorem guard_bool {b : Bool} {j : Nat} {w : Bool} {d : Option Nat} {op : KOp} {r : List KO} : guardC call (.c (.bool b)) j w d op r σ H = if b = w then nextO call (evalOp call (upd σ j (.c (.bool w))) H op) d r (upd σ j (.c (.bool w))) else evalOps call r (putS (upd σ j (.c (.bool !w))) d (.c .undef), H) := rfl
/-- A branch. -/
noncomputable def condC (call : CallA) (v : AV) (a b : KC) (s : St) : Option (Ex × St) :=
  match v with
  | .c (.bool t) => if t = true then evC call a s else evC call b s
  | _ => none
theorem evC_condC {x : Opd} {a b : KC} {s : St} : evC call (.cond x a b) s = condC call (x.ev s.1) a b s := by
  unfold condC
  split
  · rename_i t h; exact evC_cond h
  · rename_i h
    refine opt_ext fun r => ⟨fun hh => ?_, fun hh => by simp at hh⟩
    obtain ⟨n, hn⟩ := evC_some.1 hh
    unfold evalC at hn
    split at hn
    · rename_i t ht; exact absurd ht (h t)
    · simp at hn
theorem cond_bool {t : Bool} {a b : KC} {s : St} : condC call (.c (.bool t)) a b s = if t = true then evC call a s else evC call b s := rfl
/-- A choice between two. -/
def pickC (call : CallA) (v : AV) (d : Option Nat) (a b : AV) (r : List KO) (σ : Sl) (H : AHeap) : Option St :=
  match v with
  | .c (.bool t) => if t = true then evalOps call r (putS σ d a, H) else evalOps call r (putS σ d b, H)
  | _ => none
theorem ops_pick {d : Option Nat} {c a b : Opd} {r : List KO} : evalOps call (⟨d, .pick c a b, none⟩ :: r) (σ, H) = pickC call (c.ev σ) d (a.ev σ) (b.ev σ) r σ H := by
  rw [ops_cons]
  simp only [evalOp, nextO]
  generalize c.ev σ = v
  unfold pickC
  cases v with
  | c v =>
    cases v with
    | bool t => cases t <;> rfl
    | _ => rfl
  | _ => rfl
theorem pick_bool {t : Bool} {d : Option Nat} {a b : AV} {r : List KO} : pickC call (.c (.bool t)) d a b r σ H = if t = true then evalOps call r (putS σ d a, H) else evalOps call r (putS σ d b, H) := rfl
/-! A region that draws its order -/
noncomputable def chkD (call : CallA) (rc : List KO) (s : St) (r : List (KO × List KO)) : Option St :=
  open Classical in if (∀ o ∈ rc, rcOk s o) then evalDrawn call r s else none
theorem dr_nil {s : St} : evalDrawn call [] s = some s := Eq.trans rfl rfl
noncomputable def nextD (call : CallA) (x : Option St) (rc : List KO) (r : List (KO × List KO)) : Option St := x.bind fun s' => chkD call rc s' r
theorem nextD_some {s : St} {rc : List KO} {r : List (KO × List KO)} : nextD call (some s) rc r = chkD call rc s r := Eq.trans rfl rfl
theorem nextD_none {rc : List KO} {r : List (KO × List KO)} : nextD call none rc r = none := Eq.trans rfl rfl
theorem nextD_ite {c : Prop} [Decidable c] {x y : Option St} {rc : List KO} {r : List (KO × List KO)} : nextD call (if c then x else y) rc r = if c then nextD call x rc r else nextD call y rc r := by split <;> rfl
theorem dr_cons {o : KO} {rc : List KO} {r : List (KO × List KO)} {s : St} : evalDrawn call ((o, rc) :: r) s = nextD call (evalOps call [o] s) rc r := Eq.trans rfl rfl
theorem chk_nil {s : St} {r : List (KO × List KO)} : chkD call [] s r = evalDrawn call r s := by unfold chkD; simp
/-- Is it the same again? -/
noncomputable def reC (call : CallA) (x : Option (AV × AHeap)) (v : AV) (rc : List KO) (σ : Sl) (H : AHeap) (r : List (KO × List KO)) : Option St :=
  open Classical in if x = some (v, H) then chkD call rc (σ, H) r else none
theorem re_same {v : AV} {rc : List KO} {r : List (KO × List KO)} : reC call (some (v, H)) v rc σ H r = chkD call rc (σ, H) r := by unfold reC; simp
theorem chk_cons {d : Nat} {op : KOp} {rc : List KO} {r : List (KO × List KO)} : chkD call (⟨some d, op, none⟩ :: rc) (σ, H) r = reC call (evalOp (fun _ _ _ => none) σ H op) (σ d) rc σ H r := by
  unfold chkD reC
  have h : rcOk (σ, H) ⟨some d, op, none⟩ ↔ evalOp (fun _ _ _ => none) σ H op = some (σ d, H) := by
    unfold rcOk
    simp only [wantA, true_implies]
  by_cases h1 : rcOk (σ, H) ⟨some d, op, none⟩
  · rw [if_pos (h.1 h1)]
    unfold chkD
    by_cases h2 : ∀ o ∈ rc, rcOk (σ, H) o
    · rw [if_pos h2, if_pos]
      intro o ho
      rcases List.mem_cons.1 ho with rfl | ho
      · exact h1
      · exact h2 o ho
    · rw [if_neg h2, if_neg]
      exact fun hh => h2 fun o ho => hh o (by simp [ho])
  · rw [if_neg (fun e => h1 (h.2 e)), if_neg]
    exact fun hh => h1 (hh _ (by simp))
theorem bind_ite {α β : Type} {c : Prop} [Decidable c] {x y : Option α} {f : α → Option β} : (if c then x else y).bind f = if c then x.bind f else y.bind f := by split <;> rfl
theorem map_ite {α β : Type} {c : Prop} [Decidable c] {x y : Option α} {f : α → β} : (if c then x else y).map f = if c then x.map f else y.map f := by split <;> rfl
theorem then_ite {c : Prop} [Decidable c] {x y : Option (Ex × St)} {f : St → Option (Ex × St)} : andThen (if c then x else y) f = if c then andThen x f else andThen y f := by split <;> rfl
theorem then_norm {s : St} {f : St → Option (Ex × St)} : andThen (some (.norm, s)) f = f s := rfl
theorem then_ret {s : St} {f : St → Option (Ex × St)} : andThen (some (.ret, s)) f = some (.ret, s) := rfl
theorem then_exit {s : St} {i : Nat} {f : St → Option (Ex × St)} : andThen (some (.exit i, s)) f = some (.exit i, s) := rfl
theorem out_ite {id : Nat} {c : Prop} [Decidable c] {x y : Option (Ex × St)} : outOf id (if c then x else y) = if c then outOf id x else outOf id y := by split <;> rfl
theorem out_norm {id : Nat} {s : St} : outOf id (some (.norm, s)) = some (.norm, s) := rfl
theorem out_ret {id : Nat} {s : St} : outOf id (some (.ret, s)) = some (.ret, s) := rfl
theorem out_exit {id j : Nat} {s : St} : outOf id (some (.exit j, s)) = if j = id then some (.norm, s) else some (.exit j, s) := rfl
/-- The slots behind a loop. -/
noncomputable def fin (call : CallA) (b : KC) (s : St) : Sl := match evC call (.loop b) s with | some (_, σ', _) => σ' | none => s.1
theorem fin_of {b : KC} {s : St} {ex : Ex} {H' : AHeap} {P : Sl → Prop} (h : ∃ σ', evC call (.loop b) s = some (ex, σ', H') ∧ P σ') : evC call (.loop b) s = some (ex, fin call b s, H') ∧ P (fin call b s) := by
  obtain ⟨σ', e, p⟩ := h
  have : fin call b s = σ' := by unfold fin; rw [e]
  rw [this]; exact ⟨e, p⟩
/-- What is left of a function's run: its results. -/
noncomputable def doneB (gc : Bool) (res : List KR) (H : AHeap) (x : Option (Ex × St)) : Option (AV × AHeap) :=
  match x with
  | some (.norm, σ, H') | some (.ret, σ, H') => match evalRs σ H' res with
    | some vs => finish gc H (mkRes vs) H'
    | none => none
  | _ => none
theorem evB_eq {np : Nat} {body : KC} {res : List KR} {gc : Bool} {args : List AV} (h : Nat.ble args.length np = true) : evB call ⟨np, body, res, gc⟩ args H = doneB gc res H (evC call body (lst args, H)) := by
  unfold evB doneB
  rw [if_pos (Nat.le_of_ble_eq_true h), init_lst]
  rfl
section
variable {gc : Bool} {res : List KR}
theorem done_ite {c : Prop} [Decidable c] {x y : Option (Ex × St)} : doneB gc res H (if c then x else y) = if c then doneB gc res H x else doneB gc res H y := by split <;> rfl
theorem done_norm {H' : AHeap} : doneB gc res H (some (.norm, σ, H')) = (evalRs σ H' res).bind fun vs => finish gc H (mkRes vs) H' := by
  simp only [doneB]; cases evalRs σ H' res <;> rfl
theorem done_ret {H' : AHeap} : doneB gc res H (some (.ret, σ, H')) = (evalRs σ H' res).bind fun vs => finish gc H (mkRes vs) H' := by
  simp only [doneB]; cases evalRs σ H' res <;> rfl
end
end

theorem ite_to {α : Type} {c : Prop} [Decidable c] {x y z : α} (h1 : c → x = z) (h2 : ¬c → y = z) : (if c then x else y) = z := by
  split
  · exact h1 ‹_›
  · exact h2 ‹_›
theorem leafT {p : Prop} [Decidable p] {H : AHeap} (h : p) : some (AV.c (.bool true), H) = some (AV.c (.bool (decide p)), H) := by simp [h]
theorem leafF {p : Prop} [Decidable p] {H : AHeap} (h : ¬p) : some (AV.c (.bool false), H) = some (AV.c (.bool (decide p)), H) := by simp [h]

theorem leafD {p q : Prop} [Decidable p] [Decidable q] {H : AHeap} (h : p ↔ q) : some (AV.c (.bool (decide p)), H) = some (AV.c (.bool (decide q)), H) := by simp [h]

theorem tdiv_pos {x y : Int} (h : 0 ≤ x) : x.tdiv y = x / y := Int.tdiv_eq_ediv_of_nonneg h
theorem tmod_pos {x y : Int} (h : 0 ≤ x) : x.tmod y = x % y := Int.tmod_eq_emod_of_nonneg h

/-! ### The heap -/
section
variable {H : AHeap} {t : List (Option Blk)}
theorem len_app : List.length (H ++ t) = H.length + t.length := List.length_append
theorem len_add {k l : Nat} : List.length H + k + l = List.length H + (k + l) := Nat.add_assoc _ _ _
theorem get_app {k : Nat} : AHeap.get (H ++ t) (H.length + k) = (t[k]?).join := by
  unfold AHeap.get; rw [List.getElem?_append_right (by omega)]; simp
theorem get_app0 : AHeap.get (H ++ t) H.length = (t[0]?).join := get_app (k := 0)
theorem get_appl {i : Nat} (h : i < H.length) : AHeap.get (H ++ t) i = H.get i := by
  unfold AHeap.get; rw [List.getElem?_append_left h]
theorem set_app {k : Nat} {b : Option Blk} : (H ++ t).set (H.length + k) b = H ++ t.set k b := by
  rw [List.set_append, if_neg (by omega)]; simp
theorem set_app0 {b : Option Blk} : (H ++ t).set H.length b = H ++ t.set 0 b := set_app (k := 0)
theorem finish_app {v : AV} (hp : v.plain = true) : finish true H v (H ++ t) = some (v, H) := by
  unfold finish
  rw [if_pos rfl, if_pos]
  · simp
  · refine ⟨hp, fun i blk hi h => .inl ?_⟩
    rw [List.getElem?_append_left hi] at h; exact h
theorem finish_no {v : AV} {H' : AHeap} : finish false H v H' = some (v, H') := by unfold finish; simp
section
variable {i : Nat} {x y : Option Blk}
theorem get_set (h : i < H.length) : AHeap.get (H.set i x) i = x := by unfold AHeap.get; simp [h]
theorem get_set_app (h : i < H.length) : AHeap.get (H.set i x ++ t) i = x := by rw [get_appl (by simpa using h), get_set h]
theorem set_set : (H.set i x).set i y = H.set i y := List.set_set ..
theorem set_appl (h : i < H.length) : (H ++ t).set i y = H.set i y ++ t := by rw [List.set_append, if_pos h]
theorem set_set_app (h : i < H.length) : (H.set i x ++ t).set i y = H.set i y ++ t := by rw [set_appl (by simpa using h), set_set]
theorem len_set0 : List.length (H.set i x) = H.length := List.length_set ..
theorem get_apps {k : Nat} : AHeap.get (H.set i x ++ t) (H.length + k) = (t[k]?).join := by
  have := get_app (H := H.set i x) (t := t) (k := k); simpa using this
theorem get_apps0 : AHeap.get (H.set i x ++ t) H.length = (t[0]?).join := get_apps (k := 0)
theorem set_apps {k : Nat} {b : Option Blk} : (H.set i x ++ t).set (H.length + k) b = H.set i x ++ t.set k b := by
  have := set_app (H := H.set i x) (t := t) (k := k) (b := b); rw [len_set0] at this; exact this
theorem set_apps0 {b : Option Blk} : (H.set i x ++ t).set H.length b = H.set i x ++ t.set 0 b := set_apps (k := 0)
theorem len_set : List.length (H.set i x) = H.length := List.length_set ..
theorem finish_set {v : AV} {b : Blk} (hp : v.plain = true) (hb : b.cells.all (CV.validIn H.length) = true) : finish true H v (H.set i (some b) ++ t) = some (v, H.set i (some b)) := by
  unfold finish
  rw [if_pos rfl, if_pos]
  · have : (H.set i (some b) ++ t).take H.length = H.set i (some b) := by
      have h := List.take_left (l₁ := H.set i (some b)) (l₂ := t); rw [List.length_set] at h; exact h
    rw [this]
  · refine ⟨hp, fun j blk hj h => ?_⟩
    rw [List.getElem?_append_left (by simpa using hj)] at h
    by_cases hij : i = j
    · subst hij; rw [List.getElem?_set_self hj] at h; simp at h; subst h; exact .inr hb
    · rw [List.getElem?_set_ne hij] at h; exact .inl h
theorem finish_set0 {v : AV} {b : Blk} (hp : v.plain = true) (hb : b.cells.all (CV.validIn H.length) = true) : finish true H v (H.set i (some b)) = some (v, H.set i (some b)) := by
  have := finish_set (H := H) (i := i) (t := []) hp hb
  simpa using this
theorem vi_int {n : Nat} {k : IntKind} {m : Int} : CV.validIn n (.int k m) = true := by unfold CV.validIn; rfl
theorem vi_bool {n : Nat} {m : Bool} : CV.validIn n (.bool m) = true := by unfold CV.validIn; rfl
end
theorem pl_int {k : IntKind} {n : Int} : CV.plain (.int k n) = true := by unfold CV.plain; rfl
theorem pl_bool {b : Bool} : CV.plain (.bool b) = true := by unfold CV.plain; rfl
theorem pl_str {s : ByteArray} : CV.plain (.str s) = true := by unfold CV.plain; rfl
theorem pl_undef : CV.plain .undef = true := by unfold CV.plain; rfl
theorem pl_nil {l : Nat} {c : Cap} : CV.plain (.slice none l c) = true := by unfold CV.plain; rfl
theorem pl_ptr : CV.plain (.ptr none) = true := by unfold CV.plain; rfl
theorem plA_c {v : CV} : AV.plain (.c v) = v.plain := by unfold AV.plain; rfl
theorem plA_agg {l : List CV} : AV.plain (.agg l) = l.all CV.plain := by unfold AV.plain; rfl
theorem plA_tup {l : List V0} : AV.plain (.tup l) = l.all V0.plain := by unfold AV.plain; rfl
theorem plV_c {v : CV} : V0.plain (.c v) = v.plain := by unfold V0.plain; rfl
theorem plV_agg {l : List CV} : V0.plain (.agg l) = l.all CV.plain := by unfold V0.plain; rfl
theorem finish_id {v : AV} (hp : v.plain = true) : finish true H v H = some (v, H) := by
  have := finish_app (H := H) (t := []) hp
  simpa using this
end
end Go.Proofs.Ytebdajfangbdpaa.VI
