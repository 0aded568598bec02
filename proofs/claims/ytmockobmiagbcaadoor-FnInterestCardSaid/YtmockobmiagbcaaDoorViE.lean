/- An interpreter over an abstract heap, and its soundness over the machine: part E. -/
import Derived.Test.YtmockobmiagbcaaDoorViC
import Derived.IntWalk
import Derived.Test.YtmockobmiagbcaaDoorViA
import Derived.ChangeArms
import Derived.OpenShut
import Derived.ChangeOld
import GoSem.ClaimJoined
import Derived.SizedLaws
import Derived.Test.YtmockobmiagbcaaDoorViD
import Derived.Carry
import Derived.RowKit
set_option linter.unusedVariables false
set_option linter.unusedSimpArgs false
set_option linter.unusedSectionVars false
namespace Go.Proofs.YtmockobmiagbcaaDoor.VI
open Go

/-! ### Slots as a list -/
def putL : List AV → Nat → AV → List AV
  | [], 0, v => [v]
  | [], n + 1, v => .c .undef :: putL [] n v
  | _ :: l, 0, v => v :: l
  | a :: l, n + 1, v => a :: putL l n v
def getL : List AV → Nat → AV
  | [], _ => .c .undef
  | a :: _, 0 => a
  | _ :: l, n + 1 => getL l n
def lst (l : List AV) : Sl := fun i => getL l i
theorem getL_putL : ∀ (l : List AV) (d : Nat) (v : AV) (i : Nat), getL (putL l d v) i = if i = d then v else getL l i
  | [], 0, v, 0 => rfl
  | [], 0, v, i + 1 => by simp [putL, getL]
  | [], d + 1, v, 0 => by simp [putL, getL]
  | [], d + 1, v, i + 1 => by simp [putL, getL, getL_putL [] d v i]
  | a :: l, 0, v, 0 => rfl
  | a :: l, 0, v, i + 1 => by simp [putL, getL]
  | a :: l, d + 1, v, 0 => by simp [putL, getL]
  | a :: l, d + 1, v, i + 1 => by simp [putL, getL, getL_putL l d v i]
theorem upd_lst (l : List AV) (d : Nat) (v : AV) : upd (lst l) d v = lst (putL l d v) := by
  funext i; simp [upd, lst, getL_putL]
theorem getD_getL : ∀ (l : List AV) (i : Nat), l.getD i (.c .undef) = getL l i
  | [], _ => rfl
  | a :: l, 0 => rfl
  | a :: l, i + 1 => by simpa [getL] using getD_getL l i
theorem init_lst (args : List AV) : (fun i => args.getD i (.c .undef)) = lst args := by funext i; exact getD_getL args i

/-! ### Steps -/
section
variable {call : CallA} {σ : Sl} {H : AHeap}
theorem lst_get {l : List AV} {n : Nat} : lst l n = getL l n := rfl
theorem ev_t {n : Nat} : Opd.ev σ (.t n) = σ n := rfl
theorem upd_at {d : Nat} {v : AV} : upd σ d v d = v := by simp [upd]
theorem upd_ne {d i : Nat} {v : AV} (h : (i == d) = false) : upd σ d v i = σ i := by
  have : ¬ i = d := by simpa using h
  simp [upd, this]
theorem ev_k {v : AV} : Opd.ev σ (.k v) = v := rfl
theorem putS_some {d : Nat} {v : AV} : putS σ (some d) v = upd σ d v := rfl
theorem upd_l {l : List AV} {d : Nat} {v : AV} : upd (lst l) d v = lst (putL l d v) := upd_lst l d v
theorem putS_none {v : AV} : putS σ none v = σ := rfl
theorem ops_nil {s : St} : evalOps call [] s = some s := rfl
/-- What is left to be done behind a step. -/
def nextO (call : CallA) (x : Option (AV × AHeap)) (d : Option Nat) (r : List KO) (σ : Sl) : Option St := x.bind fun x => evalOps call r (putS σ d x.1, x.2)
theorem next_some {v : AV} {d : Option Nat} {r : List KO} : nextO call (some (v, H)) d r σ = evalOps call r (putS σ d v, H) := Eq.trans rfl rfl
theorem next_none {d : Option Nat} {r : List KO} : nextO call none d r σ = none := Eq.trans rfl rfl
theorem next_ite {c : Prop} [Decidable c] {x y : Option (AV × AHeap)} {d : Option Nat} {r : List KO} : nextO call (if c then x else y) d r σ = if c then nextO call x d r σ else nextO call y d r σ := by split <;> rfl
theorem ops_cons {d : Option Nat} {op : KOp} {r : List KO} : evalOps call (⟨d, op, none⟩ :: r) (σ, H) = nextO call (evalOp call σ H op) d r σ := by
  simp only [evalOps, evalKO, wantA, nextO]
  cases evalOp call σ H op <;> rfl
/-- A guarded step: told by the slot's value; what is learnt of it is put into the slot. -/
def guardC (call : CallA) (g : AV) (j : Nat) (w : Bool) (d : Option Nat) (op : KOp) (r : List KO) (σ : Sl) (H : AHeap) : Option St :=
  match g with
  | .c (.bool b) => if b = w then nextO call (evalOp call (upd σ j (.c (.bool w))) H op) d r (upd σ j (.c (.bool w))) else evalOps call r (putS (upd σ j (.c (.bool !w))) d (.c .undef), H)
  | _ => evalOps call r (putS σ d (.c .undef), H)
theorem upd_self {j : Nat} {v : AV} (h : σ j = v) : upd σ j v = σ := by
  funext i; unfold upd; split
  · next e => rw [e, h]
  · rfl
theorem ops_consg {d : Option Nat} {op : KOp} {r : List KO} {j : Nat} {w : Bool} : evalOps call (⟨d, op, some (j, w)⟩ :: r) (σ, H) = guardC call (σ j) j w d op r σ H := by
  unfold guardC
  split
  · rename_i b h
    have e : wantA σ (some (j, w)) = (b == w) := by simp only [wantA, h]
    simp only [evalOps, evalKO, e]
    by_cases hb : b = w
    · subst hb; rw [upd_self h]; simp; cases evalOp call σ H op <;> rfl
    · have : (b == w) = false := by simpa using hb
      have e2 : b = !w := by cases b <;> cases w <;> simp_all
      rw [upd_self (v := .c (.bool !w)) (by rw [h, e2]), if_neg hb, this]
      rfl
  · rename_i h
    have e : wantA σ (some (j, w)) = false := by
      unfold wantA
      dsimp only
      split
      · rename_i b hb; exact absurd hb (h b)
      · rfl
    simp only [evalOps, evalKO, e]
    rfl
theorem guard_bool {b : Bool} {j : Nat} {w : Bool} {d : Option Nat} {op : KOp} {r : List KO} : guardC call (.c (.bool b)) j w d op r σ H = if b = w then nextO call (evalOp call (upd σ j (.c (.bool w))) H op) d r (upd σ j (.c (.bool w))) else evalOps call r (putS (upd σ j (.c (.bool !w))) d (.c .undef), H) := rfl
/-- A branch. -/
noncomputable def condC (call : CallA) (v : AV) (a b : KC) (s : St) : Option (Ex × St) :=
  match v with
  | .c (.bool t) => if t = true then evC call a s else evC call b s
  | _ => none
theorem evC_condC {x : Opd} {a b : KC} {s : St} : evC call (.cond x a b) s = condC call (x.ev s.1) a b s := by
  unfold condC
  split
  · rename_i t h; exact evC_cond h
  · rename_i h
    refine opt_ext fun r => ⟨fun hh => ?_, fun hh => by simp at hh⟩
    obtain ⟨n, hn⟩ := evC_some.1 hh
    unfold evalC at hn
    split at hn
    · rename_i t ht; exact absurd ht (h t)
    · simp at hn
theorem cond_bool {t : Bool} {a b : KC} {s : St} : condC call (.c (.bool t)) a b s = if t = true then evC call a s else evC call b s := rfl
/-- A choice between two. -/
def pickC (call : CallA) (v : AV) (d : Option Nat) (a b : AV) (r : List KO) (σ : Sl) (H : AHeap) : Option St :=
  match v with
  | .c (.bool t) => if t = true then evalOps call r (putS σ d a, H) else evalOps call r (putS σ d b, H)
  | _ => none
theorem ops_pick {d : Option Nat} {c a b : Opd} {r : List KO} : evalOps call (⟨d, .pick c a b, none⟩ :: r) (σ, H) = pickC call (c.ev σ) d (a.ev σ) (b.ev σ) r σ H := by
  rw [ops_cons]
  simp only [evalOp, nextO]
  generalize c.ev σ = v
  unfold pickC
  cases v with
  | c v =>
    cases v with
    | bool t => cases t <;> rfl
    | _ => rfl
  | _ => rfl
theorem pick_bool {t : Bool} {d : Option Nat} {a b : AV} {r : List KO} : pickC call (.c (.bool t)) d a b r σ H = if t = true then evalOps call r (putS σ d a, H) else evalOps call r (putS σ d b, H) := rfl
/-! A region that draws its order -/
noncomputable def chkD (call : CallA) (rc : List KO) (s : St) (r : List (KO × List KO)) : Option St :=
  open Classical in if (∀ o ∈ rc, rcOk s o) then evalDrawn call r s else none
theorem dr_nil {s : St} : evalDrawn call [] s = some s := Eq.trans rfl rfl
noncomputable def nextD (call : CallA) (x : Option St) (rc : List KO) (r : List (KO × List KO)) : Option St := x.bind fun s' => chkD call rc s' r
theorem nextD_some {s : St} {rc : List KO} {r : List (KO × List KO)} : nextD call (some s) rc r = chkD call rc s r := Eq.trans rfl rfl
theorem nextD_none {rc : List KO} {r : List (KO × List KO)} : nextD call none rc r = none := Eq.trans rfl rfl
theorem nextD_ite {c : Prop} [Decidable c] {x y : Option St} {rc : List KO} {r : List (KO × List KO)} : nextD call (if c then x else y) rc r = if c then nextD call x rc r else nextD call y rc r := by split <;> rfl
theorem dr_cons {o : KO} {rc : List KO} {r : List (KO × List KO)} {s : St} : evalDrawn call ((o, rc) :: r) s = nextD call (evalOps call [o] s) rc r := Eq.trans rfl rfl
theorem chk_nil {s : St} {r : List (KO × List KO)} : chkD call [] s r = evalDrawn call r s := by unfold chkD; simp
/-- Is it the same again? -/
noncomputable def reC (call : CallA) (x : Option (AV × AHeap)) (v : AV) (rc : List KO) (σ : Sl) (H : AHeap) (r : List (KO × List KO)) : Option St :=
  open Classical in if x = some (v, H) then chkD call rc (σ, H) r else none
theorem re_same {v : AV} {rc : List KO} {r : List (KO × List KO)} : reC call (some (v, H)) v rc σ H r = chkD call rc (σ, H) r := by unfold reC; simp
theorem chk_cons {d : Nat} {op : KOp} {rc : List KO} {r : List (KO × List KO)} : chkD call (⟨some d, op, none⟩ :: rc) (σ, H) r = reC call (evalOp (fun _ _ _ => none) σ H op) (σ d) rc σ H r := by
  unfold chkD reC
  have h : rcOk (σ, H) ⟨some d, op, none⟩ ↔ evalOp (fun _ _ _ => none) σ H op = some (σ d, H) := by
    unfold rcOk
    simp only [wantA, true_implies]
  by_cases h1 : rcOk (σ, H) ⟨some d, op, none⟩
  · rw [if_pos (h.1 h1)]
    unfold chkD
    by_cases h2 : ∀ o ∈ rc, rcOk (σ, H) o
    · rw [if_pos h2, if_pos]
      intro o ho
      rcases List.mem_cons.1 ho with rfl | ho
      · exact h1
      · exact h2 o ho
    · rw [if_neg h2, if_neg]
      exact fun hh => h2 fun o ho => hh o (by simp [ho])
  · rw [if_neg (fun e => h1 (h.2 e)), if_neg]
    exact fun hh => h1 (hh _ (by simp))
theorem bind_ite {α β : Type} {c : Prop} [Decidable c] {x y : Option α} {f : α → Option β} : (if c then x else y).bind f = if c then x.bind f else y.bind f := by split <;> rfl
theorem map_ite {α β : Type} {c : Prop} [Decidable c] {x y : Option α} {f : α → β} : (if c then x else y).map f = if c then x.map f else y.map f := by split <;> rfl
theorem then_ite {c : Prop} [Decidable c] {x y : Option (Ex × St)} {f : St → Option (Ex × St)} : andThen (if c then x else y) f = if c then andThen x f else andThen y f := by split <;> rfl
theorem then_norm {s : St} {f : St → Option (Ex × St)} : andThen (some (.norm, s)) f = f s := rfl
theorem then_ret {s : St} {f : St → Option (Ex × St)} : andThen (some (.ret, s)) f = some (.ret, s) := rfl
theorem then_exit {s : St} {i : Nat} {f : St → Option (Ex × St)} : andThen (some (.exit i, s)) f = some (.exit i, s) := rfl
theorem out_ite {id : Nat} {c : Prop} [Decidable c] {x y : Option (Ex × St)} : outOf id (if c then x else y) = if c then outOf id x else outOf id y := by split <;> rfl
theorem out_norm {id : Nat} {s : St} : outOf id (some (.norm, s)) = some (.norm, s) := rfl
theorem out_ret {id : Nat} {s : St} : outOf id (some (.ret, s)) = some (.ret, s) := rfl
theorem out_exit {id j : Nat} {s : St} : outOf id (some (.exit j, s)) = if j = id then some (.norm, s) else some (.exit j, s) := rfl
/-- The slots behind a loop. -/
noncomputable def fin (call : CallA) (b : KC) (s : St) : Sl := match evC call (.loop b) s with | some (_, σ', _) => σ' | none => s.1
theorem fin_of {b : KC} {s : St} {ex : Ex} {H' : AHeap} {P : Sl → Prop} (h : ∃ σ', evC call (.loop b) s = some (ex, σ', H') ∧ P σ') : evC call (.loop b) s = some (ex, fin call b s, H') ∧ P (fin call b s) := by
  obtain ⟨σ', e, p⟩ := h
  have : fin call b s = σ' := by unfold fin; rw [e]
  rw [this]; exact ⟨e, p⟩
/-- What is left of a function's run: its results. -/
noncomputable def doneB (gc : Bool) (res : List KR) (H : AHeap) (x : Option (Ex × St)) : Option (AV × AHeap) :=
  match x with
  | some (.norm, σ, H') | some (.ret, σ, H') => match evalRs σ H' res with
    | some vs => finish gc H (mkRes vs) H'
    | none => none
  | _ => none
theorem evB_eq {np : Nat} {body : KC} {res : List KR} {gc : Bool} {args : List AV} (h : Nat.ble args.length np = true) : evB call ⟨np, body, res, gc⟩ args H = doneB gc res H (evC call body (lst args, H)) := by
  unfold evB doneB
  rw [if_pos (Nat.le_of_ble_eq_true h), init_lst]
  rfl
section
variable {gc : Bool} {res : List KR}
theorem done_ite {c : Prop} [Decidable c] {x y : Option (Ex × St)} : doneB gc res H (if c then x else y) = if c then doneB gc res H x else doneB gc res H y := by split <;> rfl
theorem done_norm {H' : AHeap} : doneB gc res H (some (.norm, σ, H')) = (evalRs σ H' res).bind fun vs => finish gc H (mkRes vs) H' := by
  simp only [doneB]; cases evalRs σ H' res <;> rfl
theorem done_ret {H' : AHeap} : doneB gc res H (some (.ret, σ, H')) = (evalRs σ H' res).bind fun vs => finish gc H (mkRes vs) H' := by
  simp only [doneB]; cases evalRs σ H' res <;> rfl
end
end

theorem ite_to {α : Type} {c : Prop} [Decidable c] {x y z : α} (h1 : c → x = z) (h2 : ¬c → y = z) : (if c then x else y) = z := by
  split
  · exact h1 ‹_›
  · exact h2 ‹_›
theorem leafT {p : Prop} [Decidable p] {H : AHeap} (h : p) : some (AV.c (.bool true), H) = some (AV.c (.bool (decide p)), H) := by simp [h]
theorem leafF {p : Prop} [Decidable p] {H : AHeap} (h : ¬p) : some (AV.c (.bool false), H) = some (AV.c (.bool (decide p)), H) := by simp [h]

theorem leafD {p q : Prop} [Decidable p] [Decidable q] {H : AHeap} (h : p ↔ q) : some (AV.c (.bool (decide p)), H) = some (AV.c (.bool (decide q)), H) := by simp [h]

theorem tdiv_pos {x y : Int} (h : 0 ≤ x) : x.tdiv y = x / y := Int.tdiv_eq_ediv_of_nonneg h
theorem tmod_pos {x y : Int} (h : 0 ≤ x) : x.tmod y = x % y := Int.tmod_eq_emod_of_nonneg h

/-! ### The heap -/
section
variable {H : AHeap} {t : List (Option Blk)}
theorem len_app : List.length (H ++ t) = H.length + t.length := List.length_append
theorem len_add {k l : Nat} : List.length H + k + l = List.length H + (k + l) := Nat.add_assoc _ _ _
theorem get_app {k : Nat} : AHeap.get (H ++ t) (H.length + k) = (t[k]?).join := by
  unfold AHeap.get; rw [List.getElem?_append_right (by omega)]; simp
theorem get_app0 : AHeap.get (H ++ t) H.length = (t[0]?).join := get_app (k := 0)
theorem get_appl {i : Nat} (h : i < H.length) : AHeap.get (H ++ t) i = H.get i := by
  unfold AHeap.get; rw [List.getElem?_append_left h]
theorem set_app {k : Nat} {b : Option Blk} : (H ++ t).set (H.length + k) b = H ++ t.set k b := by
  rw [List.set_append, if_neg (by omega)]; simp
theorem set_app0 {b : Option Blk} : (H ++ t).set H.length b = H ++ t.set 0 b := set_app (k := 0)
theorem finish_app {v : AV} (hp : v.plain = true) : finish true H v (H ++ t) = some (v, H) := by
  unfold finish
  rw [if_pos rfl, if_pos]
  · simp
  · refine ⟨hp, fun i blk hi h => .inl ?_⟩
    rw [List.getElem?_append_left hi] at h; exact h
theorem finish_no {v : AV} {H' : AHeap} : finish false H v H' = some (v, H') := by unfold finish; simp
section
variable {i : Nat} {x y : Option Blk}
theorem get_set (h : i < H.length) : AHeap.get (H.set i x) i = x := by unfold AHeap.get; simp [h]
theorem get_set_app (h : i < H.length) : AHeap.get (H.set i x ++ t) i = x := by rw [get_appl (by simpa using h), get_set h]
theorem set_set : (H.set i x).set i y = H.set i y := List.set_set ..
theorem set_appl (h : i < H.length) : (H ++ t).set i y = H.set i y ++ t := by rw [List.set_append, if_pos h]
theorem set_set_app (h : i < H.length) : (H.set i x ++ t).set i y = H.set i y ++ t := by rw [set_appl (by simpa using h), set_set]
theorem len_set0 : List.length (H.set i x) = H.length := List.length_set ..
theorem get_apps {k : Nat} : AHeap.get (H.set i x ++ t) (H.length + k) = (t[k]?).join := by
  have := get_app (H := H.set i x) (t := t) (k := k); simpa using this
theorem get_apps0 : AHeap.get (H.set i x ++ t) H.length = (t[0]?).join := get_apps (k := 0)
theorem set_apps {k : Nat} {b : Option Blk} : (H.set i x ++ t).set (H.length + k) b = H.set i x ++ t.set k b := by
  have := set_app (H := H.set i x) (t := t) (k := k) (b := b); rw [len_set0] at this; exact this
theorem set_apps0 {b : Option Blk} : (H.set i x ++ t).set H.length b = H.set i x ++ t.set 0 b := set_apps (k := 0)
theorem len_set : List.length (H.set i x) = H.length := List.length_set ..
theorem finish_set {v : AV} {b : Blk} (hp : v.plain = true) (hb : b.cells.all (CV.validIn H.length) = true) : finish true H v (H.set i (some b) ++ t) = some (v, H.set i (some b)) := by
  unfold finish
  rw [if_pos rfl, if_pos]
  · have : (H.set i (some b) ++ t).take H.length = H.set i (some b) := by
      have h := List.take_left (l₁ := H.set i (some b)) (l₂ := t); rw [List.length_set] at h; exact h
    rw [this]
  · refine ⟨hp, fun j blk hj h => ?_⟩
    rw [List.getElem?_append_left (by simpa using hj)] at h
    by_cases hij : i = j
    · subst hij; rw [List.getElem?_set_self hj] at h; simp at h; subst h; exact .inr hb
    · rw [List.getElem?_set_ne hij] at h; exact .inl h
theorem finish_set0 {v : AV} {b : Blk} (hp : v.plain = true) (hb : b.cells.all (CV.validIn H.length) = true) : finish true H v (H.set i (some b)) = some (v, H.set i (some b)) := by
  have := finish_set (H := H) (i := i) (t := []) hp hb
  simpa using this
theorem vi_int {n : Nat} {k : IntKind} {m : Int} : CV.validIn n (.int k m) = true := by unfold CV.validIn; rfl
theorem vi_bool {n : Nat} {m : Bool} : CV.validIn n (.bool m) = true := by unfold CV.validIn; rfl
end
theorem pl_int {k : IntKind} {n : Int} : CV.plain (.int k n) = true := by unfold CV.plain; rfl
theorem pl_bool {b : Bool} : CV.plain (.bool b) = true := by unfold CV.plain; rfl
theorem pl_str {s : ByteArray} : CV.plain (.str s) = true := by unfold CV.plain; rfl
theorem pl_undef : CV.plain .undef = true := by unfold CV.plain; rfl
theorem pl_nil {l : Nat} {c : Cap} : CV.plain (.slice none l c) = true := by unfold CV.plain; rfl
theorem pl_ptr : CV.plain (.ptr none) = true := by unfold CV.plain; rfl
theorem plA_c {v : CV} : AV.plain (.c v) = v.plain := by unfold AV.plain; rfl
theorem plA_agg {l : List CV} : AV.plain (.agg l) = l.all CV.plain := by unfold AV.plain; rfl
theorem plA_tup {l : List V0} : AV.plain (.tup l) = l.all V0.plain := by unfold AV.plain; rfl
theorem plV_c {v : CV} : V0.plain (.c v) = v.plain := by unfold V0.plain; rfl
theorem plV_agg {l : List CV} : V0.plain (.agg l) = l.all CV.plain := by unfold V0.plain; rfl
theorem finish_id {v : AV} (hp : v.plain = true) : finish true H v H = some (v, H) := by
  have := finish_app (H := H) (t := []) hp
  simpa using this
end
end Go.Proofs.YtmockobmiagbcaaDoor.VI

set_option linter.unusedVariables false
set_option linter.unusedSimpArgs false
set_option linter.unusedSectionVars false
namespace Go.Proofs.YtmockobmiagbcaaDoor.VI
open Go Go.RowKit

/-! ### What arguments are read as -/
inductive Ty where
  | int (k : IntKind) | bool | str
  | sl (size bytes : Nat) (e : Ty)
  | ar (n size : Nat) (e : Ty)
  | st (fs : List Ty)

inductive ArgOk (H : AHeap) : Ty → List CV → Prop where
  | int {k : IntKind} {n : Int} (h : (Lit.int k n).wf = true) : ArgOk H (.int k) [.int k n]
  | bool {b : Bool} : ArgOk H .bool [.bool b]
  | str {s : ByteArray} (h : s.size ≤ reachBytes) : ArgOk H .str [.str s]
  | nil {size bytes : Nat} {e : Ty} : ArgOk H (.sl size bytes e) [.slice none 0 (.exact 0)]
  | sl {size bytes : Nat} {e : Ty} {id len : Nat} {t : TypeId} {elems : List (List CV)} (hb : 0 < len → H.get id = some ⟨t, elems.flatten, .ro⟩) (hl : elems.length = len) (hw : len * bytes ≤ reachBytes)
      (hz : ∀ p ∈ elems, p.length = size) (he : ∀ p ∈ elems, ArgOk H e p) : ArgOk H (.sl size bytes e) [.slice (some (id, 0)) len .any]
  | ar {n size : Nat} {e : Ty} {parts : List (List CV)} (hl : parts.length = n) (hz : ∀ p ∈ parts, p.length = size) (he : ∀ p ∈ parts, ArgOk H e p) : ArgOk H (.ar n size e) parts.flatten
  | st {fs : List Ty} {parts : List (List CV)} (hl : parts.length = fs.length) (he : ∀ (j : Nat) (f : Ty) (p : List CV), fs[j]? = some f → parts[j]? = some p → ArgOk H f p) : ArgOk H (.st fs) parts.flatten

theorem get_some_lt {H : AHeap} {i : Nat} {b : Blk} (h : H.get i = some b) : i < H.length := by
  unfold AHeap.get at h
  rcases Nat.lt_or_ge i H.length with h1 | h1
  · exact h1
  · rw [List.getElem?_eq_none h1] at h; simp at h
theorem ArgOk.app {H : AHeap} {ty : Ty} {cs : List CV} (h : ArgOk H ty cs) (T : List (Option Blk)) : ArgOk (H ++ T) ty cs := by
  induction h with
  | int h => exact .int h
  | bool => exact .bool
  | str h => exact .str h
  | nil => exact .nil
  | sl hb hl hw hz _ ih =>
    rename_i id len t elems _
    have hb' : 0 < len → AHeap.get (H ++ T) id = some ⟨t, elems.flatten, .ro⟩ := by
      intro h0
      have hb := hb h0
      have hlt := get_some_lt hb
      unfold AHeap.get at hb ⊢
      rw [List.getElem?_append_left hlt]; exact hb
    exact .sl hb' hl hw hz ih
  | ar hl hz _ ih => exact .ar hl hz ih
  | st hl _ ih => exact .st hl ih

/-- A type's reading. -/
def tysT (P : Program) (rec : TypeId → Option Ty) : Nat → List Field → Option (List Ty × Nat)
  | off, [] => some ([], off)
  | off, f :: r => if f.offset = off then match rec f.type, tysT P rec (off + P.cellsOf f.type) r with
    | some t, some l => some (t :: l.1, l.2)
    | _, _ => none
    else none
def tyT (P : Program) : Nat → TypeId → Option Ty
  | 0, _ => none
  | d + 1, t => match P.underlying t with
    | some .bool => some .bool
    | some (.int k) => some (.int k)
    | some .string => some .str
    | some (.slice e) => match tyT P d e with
      | some x => if 0 < P.cellsOf e then some (.sl (P.cellsOf e) (P.bytesOf e) x) else none
      | none => none
    | some (.array n e) => match tyT P d e with
      | some x => if P.cellsOf t = n * P.cellsOf e then some (.ar n (P.cellsOf e) x) else none
      | none => none
    | some (.struct fs) => match tysT P (tyT P d) 0 fs.toList with
      | some (l, n) => if P.cellsOf t = n then some (.st l) else none
      | none => none
    | _ => none

/-! ### Blocks that are only read -/
theorem HR.ro {B0 : Nat} {β : Beta} {H : AHeap} {W : World} (h : HR B0 β H W) {b o : Nat} (hb : b < B0) {cells : List CV} {xs : List Value} (hc : Cells β cells xs) {e : TypeId} (hx : ∀ (j : Nat) (x : Value), xs[j]? = some x → W.cell? ⟨b, o + j, none⟩ = some x) (k : Nat) :
    HR B0 (β ++ [(b, o, k)]) (H ++ [some ⟨e, cells, .ro⟩]) W := by
  have he : Ext β (β ++ [(b, o, k)]) := ⟨_, rfl⟩
  have hown : ∀ (i : Nat) (bi : Blk), (H ++ [some ⟨e, cells, .ro⟩])[i]? = some (some bi) → (bi.m = .own ∨ bi.m = .opn) → H[i]? = some (some bi) := by
    intro i bi hi hm
    rcases getElem?_snoc hi with hi | ⟨_, h2⟩
    · exact hi
    · simp at h2; subst h2; simp at hm
  refine ⟨by simp [h.len], h.base, fun i blk hi => ?_, fun i j bi bj b oi oj ki kj hi hj hmi hmj hbi hbj => ?_, h.gi⟩
  · rcases getElem?_snoc hi with hi | ⟨hi2, hblk⟩
    · exact BlkRel.kept he (fun _ _ => rfl) (fun _ _ _ _ _ => rfl) (h.blk i blk hi)
    · simp at hblk; subst hblk; subst hi2
      refine .inl ⟨rfl, ⟨b, o, k, by rw [List.getElem?_append_right (by rw [h.len]; exact Nat.le_refl _), h.len]; simp, hb, fun j c hcj => ?_⟩⟩
      obtain ⟨x, h1, h2⟩ := hc.2 j c hcj
      exact ⟨x, hx j x h1, CV.rel_ext he h2⟩
  · have h1 := hown i bi hi hmi
    have h2 := hown j bj hj hmj
    have l1 : i < β.length := by rw [h.len]; exact (List.getElem?_eq_some_iff.1 h1).1
    have l2 : j < β.length := by rw [h.len]; exact (List.getElem?_eq_some_iff.1 h2).1
    rw [List.getElem?_append_left l1] at hbi
    rw [List.getElem?_append_left l2] at hbj
    exact h.inj i j bi bj b oi oj ki kj h1 h2 hmi hmj hbi hbj

/-! ### Reading what is passed -/
/-- These cells can be told. -/
def Opens (B0 : Nat) (W : World) (ty : Ty) (cs : List Value) : Prop :=
  ∀ (β : Beta) (H : AHeap), HR B0 β H W → ∃ (β' : Beta) (T : AHeap) (acs : List CV), Ext β β' ∧ HR B0 β' (H ++ T) W ∧ Cells β' acs cs ∧ ArgOk (H ++ T) ty acs

theorem opens_list {B0 : Nat} {W : World} : ∀ {l : List (Ty × List Value)}, (∀ x ∈ l, Opens B0 W x.1 x.2) → ∀ {β : Beta} {H : AHeap}, HR B0 β H W →
    ∃ (β' : Beta) (T : AHeap) (parts : List (List CV)), Ext β β' ∧ HR B0 β' (H ++ T) W ∧ parts.length = l.length ∧ ∀ (j : Nat) (x : Ty × List Value) (p : List CV), l[j]? = some x → parts[j]? = some p → Cells β' p x.2 ∧ ArgOk (H ++ T) x.1 p
  | [], _, β, H, h => ⟨β, [], [], .refl _, by simpa using h, rfl, fun j x p hx _ => by simp at hx⟩
  | y :: l, hl, β, H, h => by
    obtain ⟨β1, T1, a1, e1, h1, c1, o1⟩ := hl y (by simp) β H h
    obtain ⟨β2, T2, parts, e2, h2, len2, c2⟩ := opens_list (l := l) (fun x hx => hl x (by simp [hx])) h1
    rw [List.append_assoc] at h2
    refine ⟨β2, T1 ++ T2, a1 :: parts, e1.trans e2, h2, by simp [len2], ?_⟩
    intro j x p hx hp
    cases j with
    | zero =>
      simp at hx hp; subst hx; subst hp
      refine ⟨c1.ext e2, ?_⟩
      have := o1.app T2
      rw [List.append_assoc] at this; exact this
    | succ j =>
      simp at hx hp
      have := c2 j x p hx hp
      rw [List.append_assoc] at this; exact this

theorem cells_flatten {β : Beta} : ∀ {parts : List (List CV)} {vss : List (List Value)}, parts.length = vss.length → (∀ (j : Nat) (p : List CV) (v : List Value), parts[j]? = some p → vss[j]? = some v → Cells β p v) → Cells β parts.flatten vss.flatten
  | [], [], _, _ => Cells.nil β
  | [], _ :: _, h, _ => by simp at h
  | _ :: _, [], h, _ => by simp at h
  | p :: parts, v :: vss, h, hc => by
    simp only [List.flatten_cons]
    exact (hc 0 p v rfl rfl).append (cells_flatten (by simpa using h) fun j p v hp hv => hc (j + 1) p v (by simpa using hp) (by simpa using hv))

theorem chunks {α : Type} (cs : List α) (s : Nat) : ∀ n, ((List.range n).map fun i => (cs.drop (i * s)).take s).flatten = cs.take (n * s)
  | 0 => by simp
  | n + 1 => by
    rw [List.range_succ, List.map_append, List.flatten_append, chunks cs s n]
    simp only [List.map_cons, List.map_nil, List.flatten_cons, List.flatten_nil, List.append_nil]
    rw [Nat.succ_mul, List.take_add]

theorem rflat_len {α : Type} {g : Nat → List α} {s : Nat} : ∀ n, (∀ i, i < n → (g i).length = s) → ((List.range n).map g).flatten.length = n * s
  | 0, _ => by simp
  | n + 1, h => by
    rw [List.range_succ, List.map_append, List.flatten_append, List.length_append, rflat_len n (fun i hi => h i (by omega))]
    simp [h n (by omega), Nat.succ_mul]
theorem rflat_get {α : Type} {g : Nat → List α} {s : Nat} : ∀ n, (∀ i, i < n → (g i).length = s) → ∀ (j : Nat) (x : α), ((List.range n).map g).flatten[j]? = some x → ∃ i k, i < n ∧ k < s ∧ j = i * s + k ∧ (g i)[k]? = some x
  | 0, _, j, x, h => by simp at h
  | n + 1, hg, j, x, h => by
    have hlen := rflat_len n (fun i hi => hg i (by omega))
    rw [List.range_succ, List.map_append, List.flatten_append] at h
    simp only [List.map_cons, List.map_nil, List.flatten_cons, List.flatten_nil, List.append_nil] at h
    by_cases hj : j < n * s
    · rw [List.getElem?_append_left (by rw [hlen]; exact hj)] at h
      obtain ⟨i, k, h1, h2, h3, h4⟩ := rflat_get n (fun i hi => hg i (by omega)) j x h
      exact ⟨i, k, by omega, h2, h3, h4⟩
    · rw [List.getElem?_append_right (by rw [hlen]; omega), hlen] at h
      have hk := (List.getElem?_eq_some_iff.1 h).1
      rw [hg n (by omega)] at hk
      exact ⟨n, j - n * s, by omega, hk, by omega, h⟩

theorem chunksF {P : Program} {rec : TypeId → Option Ty} (cs : List Value) : ∀ {fs : List Field} {off n : Nat} {l : List Ty}, tysT P rec off fs = some (l, n) → off ≤ n ∧ l.length = fs.length ∧ (fs.map fun f => (cs.drop f.offset).take (P.cellsOf f.type)).flatten = (cs.drop off).take (n - off)
  | [], off, n, l, h => by simp [tysT] at h; obtain ⟨rfl, rfl⟩ := h; simp
  | f :: fs, off, n, l, h => by
    unfold tysT at h
    split at h
    case isFalse => simp at h
    rename_i ho
    split at h
    case h_2 => simp at h
    rename_i t l' h1 h2
    simp at h
    obtain ⟨rfl, rfl⟩ := h
    obtain ⟨le, hlen, hfl⟩ := chunksF cs h2
    refine ⟨by omega, by simp [hlen], ?_⟩
    simp only [List.map_cons, List.flatten_cons, hfl]
    rw [ho]
    have : l'.2 - off = P.cellsOf f.type + (l'.2 - (off + P.cellsOf f.type)) := by omega
    rw [this, List.take_add, List.drop_drop]

theorem tysT_get {P : Program} {rec : TypeId → Option Ty} : ∀ {fs : List Field} {off n : Nat} {l : List Ty}, tysT P rec off fs = some (l, n) → ∀ (j : Nat) (f : Field) (t : Ty), fs[j]? = some f → l[j]? = some t → rec f.type = some t
  | [], off, n, l, h, j, f, t, hf, _ => by simp at hf
  | g :: fs, off, n, l, h, j, f, t, hf, ht => by
    unfold tysT at h
    split at h
    case isFalse => simp at h
    split at h
    case h_2 => simp at h
    rename_i t' l' h1 h2
    simp at h
    obtain ⟨rfl, rfl⟩ := h
    cases j with
    | zero => simp at hf ht; subst hf; subst ht; exact h1
    | succ j => simp at hf ht; exact tysT_get h2 j f t hf ht

theorem weightsAll_mem {H : Type} {P : Program} {e : TypeId} : ∀ {l : List (DataW H)} {d : DataW H}, d ∈ l → ∀ n ∈ d.weights P e, n ∈ DataW.weightsAll P e l
  | [], _, h, _, _ => by simp at h
  | x :: l, d, h, n, hn => by
    simp only [DataW.weightsAll, List.mem_append]
    rcases List.mem_cons.1 h with rfl | h
    · exact .inl hn
    · exact .inr (weightsAll_mem h n hn)

theorem cells?_some {w : World} {a : Addr} {n : Nat} {vs : List Value} (h : w.cells? 0 a n = some vs) : vs.length = n ∧ ∀ i, i < n → w.cell? (a.add i) = vs[i]? := by
  unfold World.cells? at h
  rw [if_pos (Nat.zero_le _)] at h
  refine ⟨by simpa using mapM_some_length h, fun i hi => mapM_some_get h i i (by simp [hi])⟩
theorem cell?_lt {w : World} {a : Addr} {x : Value} (h : w.cell? a = some x) : a.block < w.heap.size ∧ a.spot = none := by
  unfold World.cell? at h
  split at h
  · rename_i hb
    refine ⟨(Array.getElem?_eq_some_iff.1 hb).1, ?_⟩
    cases hs : a.spot with
    | none => rfl
    | some z => rw [hs] at h; simp at h
  · simp at h
theorem add_add (a : Addr) (hs : a.spot = none) (n : Nat) : a.add n = ⟨a.block, a.off + n, none⟩ := by
  unfold Addr.add
  split
  · rename_i h; subst h; cases a; simp at hs; simp [hs]
  · rfl

section
variable {H0 : Type} {enc : TypeId × Value → H0} {P : Program} {W : World}

theorem opens {m : Nat} : ∀ {ty : Ty} {t : TypeId} {fuel : Nat} {cs : List Value} {d : DataW H0} {ps : List MemPlace}, tyT P m t = some ty → DataW.trod enc P W 0 (fun _ => true) true fuel t cs = some (d, ps) →
    (∀ n ∈ d.weights P t, n ≤ reachBytes) → Opens W.heap.size W ty cs := by
  induction m with
  | zero => intro ty t fuel cs d ps h; simp [tyT] at h
  | succ m ih =>
    intro ty t fuel cs d ps h ht hw
    have hf : ∃ f, fuel = f + 1 := by
      cases fuel with
      | zero => simp [DataW.trod] at ht
      | succ f => exact ⟨f, rfl⟩
    obtain ⟨f, rfl⟩ := hf
    unfold tyT at h
    split at h
    · -- bool
      rename_i hu
      simp at h; subst h
      unfold DataW.trod at ht
      rw [hu] at ht
      split at ht <;> simp_all
      intro β H hr
      exact ⟨β, [], [.bool _], .refl _, by simpa using hr, Cells.one rfl, .bool⟩
    · -- int
      rename_i k hu
      simp at h; subst h
      unfold DataW.trod at ht
      rw [hu] at ht
      split at ht <;> simp_all
      obtain ⟨⟨rfl, hwf⟩, _⟩ := ht
      intro β H hr
      exact ⟨β, [], [.int _ _], .refl _, by simpa using hr, Cells.one rfl, .int hwf⟩
    · -- string
      rename_i hu
      simp at h; subst h
      unfold DataW.trod at ht
      rw [hu] at ht
      split at ht <;> simp_all
      obtain ⟨_, rfl, rfl⟩ := ht
      intro β H hr
      exact ⟨β, [], [.str _], .refl _, by simpa using hr, Cells.one rfl, .str (by simpa [DataW.weights] using hw)⟩
    · -- slice
      rename_i e hu
      split at h
      case h_2 => simp at h
      rename_i te he
      split at h
      case isFalse => simp at h
      rename_i hpos
      simp at h; subst h
      rcases DataW.trod_slice hu ht with ⟨rfl, hx⟩ | ⟨a, len, cap, elems, rest, n, _, rfl, hx, _, hlc, _, hlen, hel, _, _⟩
      · intro β H hr
        exact ⟨β, [], [.slice none 0 (.exact 0)], .refl _, by simpa using hr, Cells.one ⟨rfl, rfl⟩, .nil⟩
      · obtain ⟨rfl, _⟩ := Prod.mk.inj hx
        -- the elements' cells
        have hex : ∀ i, i < len → ∃ vs x, W.cells? 0 (a.add (i * P.cellsOf e)) (P.cellsOf e) = some vs ∧ DataW.trod enc P W 0 (fun _ => true) true n e vs = some x ∧ elems[i]? = some x := by
          intro i hi
          have h1 := hel i hi
          rw [List.getElem?_eq_getElem (by omega)] at h1
          simp only [Option.bind_eq_some_iff] at h1
          obtain ⟨vs, h2, h3⟩ := h1
          exact ⟨vs, _, h2, h3, List.getElem?_eq_getElem (by omega)⟩
        let cellsAt (i : Nat) : List Value := (W.cells? 0 (a.add (i * P.cellsOf e)) (P.cellsOf e)).getD []
        intro β H hr
        have hall : ∀ x ∈ (List.range len).map (fun i => (te, cellsAt i)), Opens W.heap.size W x.1 x.2 := by
          intro x hx
          simp only [List.mem_map, List.mem_range] at hx
          obtain ⟨i, hi, rfl⟩ := hx
          obtain ⟨vs, y, h1, h2, h3⟩ := hex i hi
          have : cellsAt i = vs := by simp [cellsAt, h1]
          simp only [this]
          refine ih he h2 fun w hw' => hw w ?_
          simp only [DataW.weights, hu, List.mem_cons, List.mem_append]
          refine .inr (.inl (weightsAll_mem (d := y.1) ?_ w hw'))
          exact List.mem_map.2 ⟨y, List.mem_of_getElem? h3, rfl⟩
        obtain ⟨β', T, parts, e1, hr1, hplen, hp⟩ := opens_list hall hr
        have hplen' : parts.length = len := by simpa using hplen
        have hp' : ∀ i p, i < len → parts[i]? = some p → Cells β' p (cellsAt i) ∧ ArgOk (H ++ T) te p := by
          intro i p hi hpi
          exact hp i (te, cellsAt i) p (by simp [hi]) hpi
        have hsz : ∀ i, i < len → (cellsAt i).length = P.cellsOf e := by
          intro i hi
          obtain ⟨vs, y, h1, _, _⟩ := hex i hi
          simp [cellsAt, h1, (cells?_some h1).1]
        have hpsz : ∀ p ∈ parts, p.length = P.cellsOf e := by
          intro p hp0
          obtain ⟨i, hi⟩ := List.getElem?_of_mem hp0
          have hil : i < len := by have := (List.getElem?_eq_some_iff.1 hi).1; omega
          rw [(hp' i p hil hi).1.1]; exact hsz i hil
        -- where it lies
        by_cases h0 : len = 0
        · subst h0
          have hpe : parts = [] := List.length_eq_zero_iff.1 hplen'
          subst hpe
          exact ⟨β', T, [.slice (some (0, 0)) 0 .any], e1, hr1, Cells.one ⟨a, cap, fun h => by simp [needsAddr] at h, fun h => by simp [needsAddr] at h, rfl, Nat.zero_le _, trivial⟩, .sl (t := 0) (elems := []) (fun h => absurd h (by simp)) rfl (by simp) (fun p hp => by simp at hp) (fun p hp => by simp at hp)⟩
        · have hlp : 0 < len := by omega
          obtain ⟨vs0, x0, h1, _, _⟩ := hex 0 hlp
          obtain ⟨hl0, hc0⟩ := cells?_some h1
          have hcell0 := hc0 0 hpos
          rw [List.getElem?_eq_getElem (by omega)] at hcell0
          have hadd0 : (a.add (0 * P.cellsOf e)).add 0 = a := by simp [Addr.add]
          rw [hadd0] at hcell0
          obtain ⟨hblt, hsp⟩ := cell?_lt hcell0
          have hcell : ∀ (j : Nat) (x : Value), ((List.range len).map cellsAt).flatten[j]? = some x → W.cell? ⟨a.block, a.off + j, none⟩ = some x := by
            intro j x hj
            obtain ⟨i, k, hi, hk, rfl, hx⟩ := rflat_get len hsz j x hj
            obtain ⟨vs, y, h1, _, _⟩ := hex i hi
            have e1 : cellsAt i = vs := by simp [cellsAt, h1]
            rw [e1] at hx
            have := (cells?_some h1).2 k hk
            rw [add_add a hsp, add_add _ rfl, hx] at this
            simp only at this
            rw [← Nat.add_assoc]; exact this
          have hcf : Cells β' parts.flatten ((List.range len).map cellsAt).flatten := by
            refine cells_flatten (by simp [hplen']) fun j p v hp0 hv => ?_
            have hj : j < len := by have := (List.getElem?_eq_some_iff.1 hp0).1; omega
            have : v = cellsAt j := by simp [hj] at hv; exact hv.symm
            subst this
            exact (hp' j p hj hp0).1
          refine ⟨β' ++ [(a.block, a.off, 0)], T ++ [some ⟨0, parts.flatten, .ro⟩], _, e1.trans ⟨_, rfl⟩, ?_, Cells.one (c := .slice (some ((H ++ T).length, 0)) len .any) ⟨a, cap, fun _ => ?_, fun _ => hsp, rfl, hlc, trivial⟩, ?_⟩
          · rw [← List.append_assoc]
            exact hr1.ro hblt hcf hcell 0
          · refine ⟨a.block, a.off, 0, ?_, by cases a; simp at hsp; simp [hsp]⟩
            rw [← hr1.len, List.getElem?_append_right (Nat.le_refl _)]
            simp
          · refine .sl (t := 0) (elems := parts) ?_ hplen' ?_ hpsz ?_
            · intro _
              rw [← List.append_assoc]
              unfold AHeap.get
              rw [List.getElem?_append_right (Nat.le_refl _)]
              simp
            · have := hw ((elems.length + rest.length) * P.bytesOf e) (by simp [DataW.weights, hu])
              rw [hlen] at this
              exact Nat.le_trans (Nat.mul_le_mul_right _ (Nat.le_add_right _ _)) this
            · intro p hp0
              obtain ⟨i, hi⟩ := List.getElem?_of_mem hp0
              have hil : i < len := by have := (List.getElem?_eq_some_iff.1 hi).1; omega
              rw [← List.append_assoc]
              exact (hp' i p hil hi).2.app _
    · -- array
      rename_i n e hu
      split at h
      case h_2 => simp at h
      rename_i te he
      split at h
      case isFalse => simp at h
      rename_i hn
      simp at h; subst h
      obtain ⟨xs, f', _, hx, hl, hlx, hi⟩ := DataW.trod_array hu ht
      obtain ⟨rfl, _⟩ := Prod.mk.inj hx
      intro β H hr
      have hall : ∀ x ∈ (List.range n).map (fun i => (te, (cs.drop (i * P.cellsOf e)).take (P.cellsOf e))), Opens W.heap.size W x.1 x.2 := by
        intro x hx
        simp only [List.mem_map, List.mem_range] at hx
        obtain ⟨i, hin, rfl⟩ := hx
        have h1 := hi i hin
        rw [List.getElem?_eq_getElem (by omega)] at h1
        refine ih he h1 fun w hw' => hw w ?_
        simp only [DataW.weights, hu]
        exact weightsAll_mem (List.mem_map.2 ⟨_, List.getElem_mem _, rfl⟩) w hw'
      obtain ⟨β', T, parts, e1, hr1, hplen, hp⟩ := opens_list hall hr
      have hplen' : parts.length = n := by simpa using hplen
      have hp' : ∀ i p, i < n → parts[i]? = some p → Cells β' p ((cs.drop (i * P.cellsOf e)).take (P.cellsOf e)) ∧ ArgOk (H ++ T) te p := by
        intro i p hin hpi
        exact hp i (te, (cs.drop (i * P.cellsOf e)).take (P.cellsOf e)) p (by simp [hin]) hpi
      have hcf : Cells β' parts.flatten cs := by
        have := cells_flatten (β := β') (parts := parts) (vss := (List.range n).map fun i => (cs.drop (i * P.cellsOf e)).take (P.cellsOf e)) (by simp [hplen']) fun j p v hp0 hv => by
          have hj : j < n := by have := (List.getElem?_eq_some_iff.1 hp0).1; omega
          have : v = (cs.drop (j * P.cellsOf e)).take (P.cellsOf e) := by simp [hj] at hv; exact hv.symm
          subst this
          exact (hp' j p hj hp0).1
        rw [chunks, ← hn, ← hl, List.take_length] at this
        exact this
      refine ⟨β', T, _, e1, hr1, hcf, .ar hplen' ?_ ?_⟩
      · intro p hp0
        obtain ⟨i, hi'⟩ := List.getElem?_of_mem hp0
        have hil : i < n := by have := (List.getElem?_eq_some_iff.1 hi').1; omega
        rw [(hp' i p hil hi').1.1, List.length_take, List.length_drop, hl, hn]
        have : i * P.cellsOf e + P.cellsOf e ≤ n * P.cellsOf e := by rw [← Nat.succ_mul]; exact Nat.mul_le_mul_right _ hil
        omega
      · intro p hp0
        obtain ⟨i, hi'⟩ := List.getElem?_of_mem hp0
        have hil : i < n := by have := (List.getElem?_eq_some_iff.1 hi').1; omega
        exact (hp' i p hil hi').2
    · -- struct
      rename_i fs hu
      split at h
      case h_2 => simp at h
      rename_i l n hts
      split at h
      case isFalse => simp at h
      rename_i hn
      simp at h; subst h
      obtain ⟨xs, f', _, hx, hl, hlx, hi⟩ := DataW.trod_struct hu ht
      obtain ⟨rfl, _⟩ := Prod.mk.inj hx
      obtain ⟨_, hlen, hfl⟩ := chunksF cs hts
      intro β H hr
      have hlf : l.length = fs.size := by simpa using hlen
      let L : List (Ty × List Value) := List.zip l (fs.toList.map fun f => (cs.drop f.offset).take (P.cellsOf f.type))
      have hLlen : L.length = l.length := by simp [L, hlf]
      have hLget : ∀ (j : Nat) (x : Ty × List Value), L[j]? = some x → ∃ f, fs[j]? = some f ∧ l[j]? = some x.1 ∧ x.2 = (cs.drop f.offset).take (P.cellsOf f.type) := by
        intro j x hx
        simp only [L, List.getElem?_zip_eq_some, List.getElem?_map, Option.map_eq_some_iff] at hx
        obtain ⟨h1, f, h2, h3⟩ := hx
        exact ⟨f, by simpa using h2, h1, h3.symm⟩
      have hall : ∀ x ∈ L, Opens W.heap.size W x.1 x.2 := by
        intro x hx
        obtain ⟨j, hj⟩ := List.getElem?_of_mem hx
        obtain ⟨f, h1, h2, h3⟩ := hLget j x hj
        have h4 := hi j f h1
        have hjl : j < xs.length := by rw [hlx]; exact (Array.getElem?_eq_some_iff.1 h1).1
        rw [List.getElem?_eq_getElem hjl] at h4
        rw [h3]
        refine ih (tysT_get hts j f x.1 (by simpa using h1) h2) h4 fun w hw' => hw w ?_
        simp only [DataW.weights, hu]
        exact DataW.weights_mem_each (j := j) (t := f.type) (by simp [h1]) (by simp [hjl]) w hw'
      obtain ⟨β', T, parts, e1, hr1, hplen, hp⟩ := opens_list hall hr
      have hplen' : parts.length = l.length := by rw [hplen, hLlen]
      have hcf : Cells β' parts.flatten cs := by
        have := cells_flatten (β := β') (parts := parts) (vss := fs.toList.map fun f => (cs.drop f.offset).take (P.cellsOf f.type)) (by simp [hplen', hlf]) fun j p v hp0 hv => by
          have hj : j < L.length := by have := (List.getElem?_eq_some_iff.1 hp0).1; omega
          obtain ⟨f, h1, h2, h3⟩ := hLget j L[j] (List.getElem?_eq_getElem hj)
          have : v = L[j].2 := by
            rw [h3]
            simp [h1] at hv; exact hv.symm
          subst this
          exact (hp j L[j] p (List.getElem?_eq_getElem hj) hp0).1
        rw [hfl, List.drop_zero, Nat.sub_zero, ← hn, ← hl, List.take_length] at this
        exact this
      refine ⟨β', T, _, e1, hr1, hcf, .st hplen' ?_⟩
      intro j ty p hj hp0
      have hjL : j < L.length := by rw [hLlen]; exact (List.getElem?_eq_some_iff.1 hj).1
      obtain ⟨f, h1, h2, h3⟩ := hLget j L[j] (List.getElem?_eq_getElem hjL)
      have := (hp j L[j] p (List.getElem?_eq_getElem hjL) hp0).2
      rw [h2] at hj
      simp at hj; subst hj
      exact this
    · simp at h
end
end Go.Proofs.YtmockobmiagbcaaDoor.VI

set_option linter.unusedVariables false
set_option linter.unusedSimpArgs false
set_option linter.unusedSectionVars false
namespace Go.Proofs.YtmockobmiagbcaaDoor.VI
open Go Go.RowKit Go.ChangeShapes

theorem ev_sound {P : Program} {K : FuncId → Option KF} (hK : ∀ f kf, K f = some kf → ∃ gc, cFunc P gc f = some kf) (hdr : ∀ call, CallOk P call → ∀ n, DrawnOk P call n) : CallOk P (ev K) := by
  intro f args H r H' h
  obtain ⟨n, hn⟩ := ev_some.1 h
  exact evalF_sound hK hdr n f args H r H' hn

theorem ev_ok {P : Program} (hm : P.follows .mixedOrders = true) {K : FuncId → Option KF} (hK : ∀ f kf, K f = some kf → ∃ gc, cFunc P gc f = some kf) : CallOk P (ev K) :=
  ev_sound hK fun _ hc n => drawn_ok hm hc n
theorem ev_okN {P : Program} (hm : P.follows .mixedOrders = true) {K : FuncId → Option KF} (hK : ∀ f kf, K f = some kf → KfOk P f kf) : CallOk P (ev K) := by
  intro f args H r H' h
  obtain ⟨n, hn⟩ := ev_some.1 h
  exact evalF_soundN hK (fun _ hc n => drawn_ok hm hc n) n f args H r H' hn
/-! ### Arguments -/
def Ty.agg : Ty → Bool
  | .ar _ _ _ | .st _ => true
  | _ => false
def ArgA (H : AHeap) (ty : Ty) (a : AV) : Prop := ∃ cs, ArgOk H ty cs ∧ (ty.agg = true → a = .agg cs) ∧ (ty.agg = false → ∃ c, cs = [c] ∧ a = .c c)
theorem ArgA.app {H : AHeap} {ty : Ty} {a : AV} (h : ArgA H ty a) (T : List (Option Blk)) : ArgA (H ++ T) ty a := by
  obtain ⟨cs, h1, h2⟩ := h; exact ⟨cs, h1.app T, h2⟩
def ArgsOk (H : AHeap) : List Ty → List AV → Prop
  | [], [] => True
  | t :: ts, a :: as => ArgA H t a ∧ ArgsOk H ts as
  | _, _ => False
theorem ArgsOk.app {H : AHeap} : ∀ {ts : List Ty} {as : List AV}, ArgsOk H ts as → ∀ (T : List (Option Blk)), ArgsOk (H ++ T) ts as
  | [], [], _, _ => trivial
  | t :: ts, a :: as, h, T => ⟨h.1.app T, ArgsOk.app h.2 T⟩
  | [], _ :: _, h, _ => by cases h
  | _ :: _, [], h, _ => by cases h

def tysOf (P : Program) (m : Nat) : List TypeId → Option (List Ty)
  | [] => some []
  | t :: ts => match tyT P m t, tysOf P m ts with
    | some x, some l => some (x :: l)
    | _, _ => none

section
variable {H0 : Type} {enc : TypeId × Value → H0} {P : Program} {W : World}

theorem one_cell {ty : Ty} {H : AHeap} {cs : List CV} (h : ArgOk H ty cs) (ha : ty.agg = false) : ∃ c, cs = [c] := by
  cases h with
  | int _ => exact ⟨_, rfl⟩
  | bool => exact ⟨_, rfl⟩
  | str _ => exact ⟨_, rfl⟩
  | nil => exact ⟨_, rfl⟩
  | sl _ _ _ _ _ => exact ⟨_, rfl⟩
  | ar _ _ _ => simp [Ty.agg] at ha
  | st _ _ => simp [Ty.agg] at ha

theorem agg_of {m : Nat} {ty : Ty} {t : TypeId} {r : Reach} {b0 : Nat} {v : Value} (hty : tyT P m t = some ty) (hok : Value.okWide P W r b0 t v) :
    (ty.agg = true → ∃ cs, v = .agg cs) ∧ (ty.agg = false → v.cells = #[v]) := by
  cases m with
  | zero => simp [tyT] at hty
  | succ m =>
    unfold tyT at hty
    unfold Value.okWide at hok
    split at hty
    · rename_i hu
      simp at hty; subst hty
      rw [hu] at hok
      refine ⟨fun h => by simp [Ty.agg] at h, fun _ => ?_⟩
      cases v <;> first | rfl | (simp [Cell.okWide, Cell.ok, hu] at hok)
    · rename_i k hu
      simp at hty; subst hty
      rw [hu] at hok
      refine ⟨fun h => by simp [Ty.agg] at h, fun _ => ?_⟩
      cases v <;> first | rfl | (simp [Cell.okWide, Cell.ok, hu] at hok)
    · rename_i hu
      simp at hty; subst hty
      rw [hu] at hok
      refine ⟨fun h => by simp [Ty.agg] at h, fun _ => ?_⟩
      cases v <;> first | rfl | (simp [Cell.okWide, Cell.ok, hu] at hok)
    · rename_i e hu
      split at hty
      case h_2 => simp at hty
      split at hty
      case isFalse => simp at hty
      simp at hty; subst hty
      rw [hu] at hok
      refine ⟨fun h => by simp [Ty.agg] at h, fun _ => ?_⟩
      cases v <;> first | rfl | (simp [Cell.okWide, Cell.ok, hu] at hok)
    · rename_i n e hu
      split at hty
      case h_2 => simp at hty
      split at hty
      case isFalse => simp at hty
      simp at hty; subst hty
      rw [hu] at hok
      obtain ⟨cs, h, _⟩ := hok
      exact ⟨fun _ => ⟨cs, h⟩, fun h => by simp [Ty.agg] at h⟩
    · rename_i fs hu
      split at hty
      case h_2 => simp at hty
      split at hty
      case isFalse => simp at hty
      simp at hty; subst hty
      rw [hu] at hok
      obtain ⟨cs, h, _⟩ := hok
      exact ⟨fun _ => ⟨cs, h⟩, fun h => by simp [Ty.agg] at h⟩
    · simp at hty

theorem arg_open {m : Nat} {ty : Ty} {t : TypeId} {v : Value} {d : DataW H0} {ps : List MemPlace} {r : Reach} {b0 : Nat} (hty : tyT P m t = some ty) (ht : DataW.Trod enc P W 0 (fun _ => true) true t v d ps) (hok : Value.okWide P W r b0 t v)
    (hw : ∀ n ∈ d.weights P t, n ≤ reachBytes) {β : Beta} {H : AHeap} (hr : HR W.heap.size β H W) :
    ∃ (β' : Beta) (T : AHeap) (a : AV), Ext β β' ∧ HR W.heap.size β' (H ++ T) W ∧ a.rel β' v ∧ ArgA (H ++ T) ty a := by
  obtain ⟨fuel, hf⟩ := ht
  obtain ⟨β', T, acs, e1, h1, hc, ho⟩ := opens hty hf hw β H hr
  obtain ⟨g1, g2⟩ := agg_of hty hok
  cases hag : ty.agg with
  | true =>
    obtain ⟨cs, rfl⟩ := g1 hag
    refine ⟨β', T, .agg acs, e1, h1, ⟨cs.toList, by simp, hc⟩, acs, ho, fun _ => rfl, fun h => by rw [hag] at h; simp at h⟩
  | false =>
    obtain ⟨c, rfl⟩ := one_cell ho hag
    have := g2 hag
    rw [this] at hc
    obtain ⟨x, xs, h2, h3, _⟩ := hc.cons_inv
    simp at h2
    rw [← h2.1] at h3
    exact ⟨β', T, .c c, e1, h1, h3, [c], ho, fun h => by rw [hag] at h; simp at h, fun _ => ⟨c, rfl, rfl⟩⟩

theorem args_open {m : Nat} {r : Reach} {b0 : Nat} : ∀ {ts : List TypeId} {tys : List Ty} {vs : List Value} {ds : List (DataW H0)} {ps : List MemPlace}, tysOf P m ts = some tys → DataW.TrodAll enc P W 0 (fun _ => true) true ts vs ds ps →
    (∀ (j : Nat) t v, ts[j]? = some t → vs[j]? = some v → Value.okWide P W r b0 t v) → (∀ n ∈ DataW.weightsEach P ts ds, n ≤ reachBytes) → ∀ {β : Beta} {H : AHeap}, HR W.heap.size β H W →
    ∃ (β' : Beta) (T : AHeap) (as : List AV), Ext β β' ∧ HR W.heap.size β' (H ++ T) W ∧ Vals β' as vs ∧ ArgsOk (H ++ T) tys as
  | [], tys, vs, ds, ps, hty, hA, hok, hw, β, H, hr => by
    simp [tysOf] at hty; subst hty
    cases vs <;> cases ds <;> simp [DataW.TrodAll] at hA
    exact ⟨β, [], [], .refl _, by simpa using hr, Vals.nil _, trivial⟩
  | t :: ts, tys, vs, ds, ps, hty, hA, hok, hw, β, H, hr => by
    obtain ⟨v, vs', d, ds', p, q, rfl, rfl, rfl, hA1, hA2⟩ := trodAll_cons hA
    unfold tysOf at hty
    split at hty
    case h_2 => simp at hty
    rename_i ty l h1 h2
    simp at hty; subst hty
    obtain ⟨β1, T1, a, e1, r1, rel1, o1⟩ := arg_open h1 hA1 (hok 0 t v rfl rfl) (fun n hn => hw n (by simp only [DataW.weightsEach, List.mem_append]; exact .inl hn)) hr
    obtain ⟨β2, T2, as, e2, r2, rel2, o2⟩ := args_open h2 hA2 (fun j t' v' hj hv => hok (j + 1) t' v' (by simpa using hj) (by simpa using hv)) (fun n hn => hw n (by simp only [DataW.weightsEach, List.mem_append]; exact .inr hn)) r1
    rw [List.append_assoc] at r2 o2
    refine ⟨β2, T1 ++ T2, a :: as, e1.trans e2, r2, Vals.cons (AV.rel_ext e2 rel1) rel2, ?_, o2⟩
    have := o1.app T2
    rw [List.append_assoc] at this; exact this

theorem backAll (hl : laidOutB P = true) {W' : World} (hb : Below W.heap.size W W') : ∀ {ts : List TypeId} {vs : List Value} {ds : List (DataW H0)} {ps : List MemPlace}, (ts.all fun t => P.readableRec t && decide (t < P.types.size)) = true →
    DataW.TrodAll enc P W 0 (fun _ => true) true ts vs ds ps → DataW.TrodAll enc P W' 0 (fun b => decide (b < W.heap.size)) true ts vs ds ps
  | [], vs, ds, ps, _, hA => by
    cases vs <;> cases ds <;> simp [DataW.TrodAll] at hA ⊢
    exact hA
  | t :: ts, vs, ds, ps, hr, hA => by
    obtain ⟨v, vs', d, ds', p, q, rfl, rfl, rfl, hA1, hA2⟩ := trodAll_cons hA
    simp only [List.all_cons, Bool.and_eq_true, decide_eq_true_eq] at hr
    refine ⟨p, q, Below.trod hl hr.1.1 hr.1.2 hA1 hb ?_, backAll hl hb hr.2 hA2, rfl⟩
    obtain ⟨m, hm⟩ := hA1
    exact DataW.trod_lt m _ _ _ hm

/-- A law that is true of the abstract machine is true. -/
theorem law_calls {call : CallA} (hc : CallOk P call) {m : Nat} {r : Reach} {b0 : Nat} {f : FuncId} {ts : List TypeId} {tys : List Ty} {args : Array Value} {ds : List (DataW H0)} {ps : List MemPlace} (hty : tysOf P m ts = some tys)
    (hA : DataW.TrodAll enc P W 0 (fun _ => true) true ts args.toList ds ps) (hok : ∀ (j : Nat) t v, ts[j]? = some t → args[j]? = some v → Value.okWide P W r b0 t v) (hw : (DataW.weightsEach P ts ds).all (· ≤ reachBytes) = true)
    (hgi : GI W.heap.size W) (law : ∀ (H : AHeap) (as : List AV), ArgsOk H tys as → ∃ H', call f as H = some (.c (.bool true), H')) :
    Calls P f args W (fun e W' => e = .returned (.bool true) ∧ Below W.heap.size W W') := by
  have h0 : HR W.heap.size [] [] W := ⟨rfl, Nat.le_refl _, (fun i blk h => by simp at h), (fun i j bi bj b oi oj ki kj h => by simp at h), hgi⟩
  obtain ⟨β', T, as, _, hr, hv, ho⟩ := args_open hty hA (fun j t v hj hv => hok j t v hj (by simpa using hv)) (fun n hn => by simpa using List.all_eq_true.1 hw n hn) h0
  rw [List.nil_append] at hr ho
  obtain ⟨H', he⟩ := law T as ho
  obtain ⟨fn, _, _, _, hcalls⟩ := hc f as T _ H' he W.heap.size β' W args.toList hr hv
  rw [Array.toArray_toList] at hcalls
  refine hcalls.mono fun e w' ⟨β2, x, h1, h2, h3⟩ => ⟨?_, h3.below⟩
  have : x = .bool true := h2
  rw [h1, this]
end

/-! ### Arguments by their types -/
theorem ArgsOk.cons_inv {H : AHeap} {t : Ty} {ts : List Ty} {as : List AV} (h : ArgsOk H (t :: ts) as) : ∃ a as', as = a :: as' ∧ ArgA H t a ∧ ArgsOk H ts as' := by
  cases as with
  | nil => cases h
  | cons a as => exact ⟨a, as, rfl, h.1, h.2⟩
theorem ArgsOk.nil_inv {H : AHeap} {as : List AV} (h : ArgsOk H [] as) : as = [] := by
  cases as with
  | nil => rfl
  | cons a as => cases h
theorem ArgOk.int_inv {H : AHeap} {k : IntKind} {cs : List CV} (h : ArgOk H (.int k) cs) : ∃ n, cs = [.int k n] ∧ (Lit.int k n).wf = true := by
  cases h with | int h => exact ⟨_, rfl, h⟩
theorem ArgOk.bool_inv {H : AHeap} {cs : List CV} (h : ArgOk H .bool cs) : ∃ b, cs = [.bool b] := by
  cases h with | bool => exact ⟨_, rfl⟩
theorem ArgOk.str_inv {H : AHeap} {cs : List CV} (h : ArgOk H .str cs) : ∃ s : ByteArray, cs = [.str s] ∧ s.size ≤ 140737488351232 := by
  cases h with | str h => exact ⟨_, rfl, h⟩
theorem ArgOk.ar_inv {H : AHeap} {n size : Nat} {e : Ty} {cs : List CV} (h : ArgOk H (.ar n size e) cs) : ∃ parts : List (List CV), cs = parts.flatten ∧ parts.length = n ∧ (∀ p ∈ parts, p.length = size) ∧ ∀ p ∈ parts, ArgOk H e p := by
  cases h with | ar hl hz he => exact ⟨_, rfl, hl, hz, he⟩
theorem ints_of_parts {H : AHeap} {k : IntKind} : ∀ {parts : List (List CV)}, (∀ p ∈ parts, ArgOk H (.int k) p) → ∃ zs : List Int, zs.length = parts.length ∧ parts.flatten = zs.map (CV.int k) ∧ ∀ z ∈ zs, (Lit.int k z).wf = true
  | [], _ => ⟨[], rfl, rfl, fun z h => by cases h⟩
  | p :: ps, h => by
    obtain ⟨n, rfl, hn⟩ := (h p (by simp)).int_inv
    obtain ⟨zs, h1, h2, h3⟩ := ints_of_parts (parts := ps) (fun q hq => h q (by simp [hq]))
    exact ⟨n :: zs, by simp [h1], by simp [h2], fun z hz => by
      rcases List.mem_cons.1 hz with rfl | hz
      · exact hn
      · exact h3 z hz⟩
theorem ArgA.int_inv {H : AHeap} {k : IntKind} {a : AV} (h : ArgA H (.int k) a) : ∃ n, a = .c (.int k n) ∧ (Lit.int k n).wf = true := by
  obtain ⟨cs, h1, _, h2⟩ := h
  obtain ⟨c, rfl, rfl⟩ := h2 rfl
  obtain ⟨n, h3, h4⟩ := h1.int_inv
  simp at h3; subst h3
  exact ⟨n, rfl, h4⟩
theorem ArgA.bool_inv {H : AHeap} {a : AV} (h : ArgA H .bool a) : ∃ b, a = .c (.bool b) := by
  obtain ⟨cs, h1, _, h2⟩ := h
  obtain ⟨c, rfl, rfl⟩ := h2 rfl
  obtain ⟨n, h3⟩ := h1.bool_inv
  simp at h3; subst h3
  exact ⟨n, rfl⟩
theorem ArgA.str_inv {H : AHeap} {a : AV} (h : ArgA H .str a) : ∃ s : ByteArray, a = .c (.str s) ∧ s.size ≤ 140737488351232 := by
  obtain ⟨cs, h1, _, h2⟩ := h
  obtain ⟨c, rfl, rfl⟩ := h2 rfl
  obtain ⟨n, h3, h4⟩ := h1.str_inv
  simp at h3; subst h3
  exact ⟨n, rfl, h4⟩
theorem ArgA.ints_inv {H : AHeap} {n s : Nat} {k : IntKind} {a : AV} (h : ArgA H (.ar n s (.int k)) a) : ∃ zs : List Int, zs.length = n ∧ a = .agg (zs.map (CV.int k)) ∧ ∀ z ∈ zs, (Lit.int k z).wf = true := by
  obtain ⟨cs, h1, h2, _⟩ := h
  obtain ⟨parts, rfl, h3, _, h4⟩ := h1.ar_inv
  obtain ⟨zs, h5, h6, h7⟩ := ints_of_parts h4
  exact ⟨zs, by rw [h5, h3], by rw [h2 rfl, h6], h7⟩

section
variable {H0 : Type} {enc : TypeId × Value → H0} {P : Program} {W : World} {base : Nat} {sp : Nat → Bool} {held : Bool}
theorem dat0 {vs : List Value} {ds : List (DataW H0)} {ps : List MemPlace} (h : DataW.TrodAll enc P W base sp held [] vs ds ps) : ds = [] := by
  cases vs <;> cases ds <;> simp [DataW.TrodAll] at h ⊢
theorem dat1 {t : TypeId} {vs : List Value} {ds : List (DataW H0)} {ps : List MemPlace} (h : DataW.TrodAll enc P W base sp held [t] vs ds ps) : ∃ d, ds = [d] := by
  obtain ⟨_, _, d, _, _, _, _, rfl, _, _, h⟩ := trodAll_cons h
  exact ⟨d, by rw [dat0 h]⟩
theorem dat2 {t u : TypeId} {vs : List Value} {ds : List (DataW H0)} {ps : List MemPlace} (h : DataW.TrodAll enc P W base sp held [t, u] vs ds ps) : ∃ d e, ds = [d, e] := by
  obtain ⟨_, _, d, _, _, _, _, rfl, _, _, h⟩ := trodAll_cons h
  obtain ⟨e, rfl⟩ := dat1 h
  exact ⟨d, e, rfl⟩
theorem dat3 {t u x : TypeId} {vs : List Value} {ds : List (DataW H0)} {ps : List MemPlace} (h : DataW.TrodAll enc P W base sp held [t, u, x] vs ds ps) : ∃ d e f, ds = [d, e, f] := by
  obtain ⟨_, _, d, _, _, _, _, rfl, _, _, h⟩ := trodAll_cons h
  obtain ⟨e, f, rfl⟩ := dat2 h
  exact ⟨d, e, f, rfl⟩
theorem dat4 {t u x y : TypeId} {vs : List Value} {ds : List (DataW H0)} {ps : List MemPlace} (h : DataW.TrodAll enc P W base sp held [t, u, x, y] vs ds ps) : ∃ d e f g, ds = [d, e, f, g] := by
  obtain ⟨_, _, d, _, _, _, _, rfl, _, _, h⟩ := trodAll_cons h
  obtain ⟨e, f, g, rfl⟩ := dat3 h
  exact ⟨d, e, f, g, rfl⟩
end
end Go.Proofs.YtmockobmiagbcaaDoor.VI

set_option linter.unusedVariables false
set_option linter.unusedSimpArgs false
set_option linter.unusedSectionVars false
namespace Go.Proofs.YtmockobmiagbcaaDoor.VI
open Go

/-! ### What arguments look like -/
theorem ArgOk.st_cons {H : AHeap} {f : Ty} {fs : List Ty} {cs : List CV} (h : ArgOk H (.st (f :: fs)) cs) : ∃ p cs', cs = p ++ cs' ∧ ArgOk H f p ∧ ArgOk H (.st fs) cs' := by
  cases h with
  | st hl he =>
    rename_i parts
    match parts, hl with
    | p :: ps, hl =>
      refine ⟨p, ps.flatten, rfl, he 0 f p rfl rfl, .st (by simpa using hl) fun j t q ht hq => he (j + 1) t q (by simpa using ht) (by simpa using hq)⟩
theorem ArgOk.st_nil {H : AHeap} {cs : List CV} (h : ArgOk H (.st []) cs) : cs = [] := by
  cases h with
  | st hl he =>
    rename_i parts
    match parts, hl with
    | [], _ => rfl
/-- These slices have such elements, that may be read. -/
def Slc (H : AHeap) (c : CV) (elems : List (List CV)) : Prop :=
  (c = .slice none 0 (.exact 0) ∧ elems = []) ∨ ∃ id t, c = .slice (some (id, 0)) elems.length .any ∧ (0 < elems.length → H.get id = some ⟨t, elems.flatten, .ro⟩)
theorem ArgOk.sl_inv {H : AHeap} {size bytes : Nat} {e : Ty} {cs : List CV} (h : ArgOk H (.sl size bytes e) cs) : ∃ c elems, cs = [c] ∧ Slc H c elems ∧ (∀ p ∈ elems, p.length = size ∧ ArgOk H e p) ∧ elems.length * bytes ≤ 140737488351232 := by
  cases h with
  | nil => exact ⟨_, [], rfl, .inl ⟨rfl, rfl⟩, (fun p hp => by cases hp), by simp⟩
  | sl hb hl hw hz he =>
    rename_i id len t elems
    subst hl
    exact ⟨_, elems, rfl, .inr ⟨id, t, rfl, hb⟩, fun p hp => ⟨hz p hp, he p hp⟩, hw⟩
theorem ArgA.sl_inv {H : AHeap} {size bytes : Nat} {e : Ty} {a : AV} (h : ArgA H (.sl size bytes e) a) : ∃ c elems, a = .c c ∧ Slc H c elems ∧ (∀ p ∈ elems, p.length = size ∧ ArgOk H e p) ∧ elems.length * bytes ≤ 140737488351232 := by
  obtain ⟨cs, h1, _, h2⟩ := h
  obtain ⟨c, rfl, rfl⟩ := h2 rfl
  obtain ⟨c', elems, h3, h4⟩ := h1.sl_inv
  simp at h3; subst h3
  exact ⟨c, elems, rfl, h4⟩
theorem ArgA.agg_inv {H : AHeap} {ty : Ty} {a : AV} (h : ArgA H ty a) (ha : ty.agg = true) : ∃ cs, a = .agg cs ∧ ArgOk H ty cs := by
  obtain ⟨cs, h1, h2, _⟩ := h
  exact ⟨cs, h2 ha, h1⟩
/-- Elements that are told by a list. -/
theorem elems_map {α : Type} {H : AHeap} {e : Ty} {f : α → List CV} {ok : α → Prop} (hf : ∀ p, ArgOk H e p → ∃ x, p = f x ∧ ok x) : ∀ {elems : List (List CV)}, (∀ p ∈ elems, ArgOk H e p) → ∃ xs : List α, elems = xs.map f ∧ ∀ x ∈ xs, ok x
  | [], _ => ⟨[], rfl, fun x hx => by cases hx⟩
  | p :: ps, h => by
    obtain ⟨x, hx, hok⟩ := hf p (h p (by simp))
    obtain ⟨xs, h1, h2⟩ := elems_map hf (elems := ps) (fun q hq => h q (by simp [hq]))
    exact ⟨x :: xs, by simp [hx, h1], fun y hy => by
      rcases List.mem_cons.1 hy with rfl | hy
      · exact hok
      · exact h2 y hy⟩
theorem Slc.app {H : AHeap} {c : CV} {elems : List (List CV)} (h : Slc H c elems) (t : List (Option Blk)) : Slc (H ++ t) c elems := by
  rcases h with h | ⟨id, e, h1, h2⟩
  · exact .inl h
  · exact .inr ⟨id, e, h1, fun h0 => by rw [get_appl (get_some_lt (h2 h0))]; exact h2 h0⟩
/-! ### Rows of cells -/
section
variable {α : Type} {f : α → List CV} {s : Nat}
theorem rows_get (hs : ∀ x, (f x).length = s) : ∀ {xs : List α} {i j : Nat} (hi : i < xs.length) (_ : j < s), ((xs.map f).flatten)[i * s + j]? = (f (xs[i]'hi))[j]?
  | x :: xs, 0, j, _, hj => by simp [List.getElem?_append_left (show j < (f x).length by rw [hs]; exact hj)]
  | x :: xs, i + 1, j, hi, hj => by
    have := rows_get hs (xs := xs) (i := i) (j := j) (by simpa using hi) hj
    simp only [List.map_cons, List.flatten_cons, List.getElem_cons_succ]
    rw [List.getElem?_append_right (by rw [hs, Nat.succ_mul]; omega), hs, ← this]
    congr 1; rw [Nat.succ_mul]; omega
theorem rows_cut (hs : ∀ x, (f x).length = s) : ∀ {xs : List α} {i : Nat} (hi : i < xs.length), (((xs.map f).flatten).drop (i * s)).take s = f (xs[i]'hi)
  | x :: xs, 0, _ => by simp [← hs x]
  | x :: xs, i + 1, hi => by
    have := rows_cut hs (xs := xs) (i := i) (by simpa using hi)
    simp only [List.map_cons, List.flatten_cons, List.getElem_cons_succ]
    rw [← this, Nat.succ_mul, Nat.add_comm, ← List.drop_drop, List.drop_left' (hs x)]
theorem rows_len (hs : ∀ x, (f x).length = s) : ∀ {xs : List α}, ((xs.map f).flatten).length = xs.length * s
  | [] => by simp
  | x :: xs => by simp only [List.map_cons, List.flatten_cons, List.length_append, hs, rows_len hs (xs := xs), List.length_cons]; rw [Nat.succ_mul]; omega
end
end Go.Proofs.YtmockobmiagbcaaDoor.VI

set_option linter.unusedVariables false
set_option linter.unusedSimpArgs false
set_option linter.unusedSectionVars false
namespace Go.Proofs.YtmockobmiagbcaaDoor.VI
open Go

/-! ### Loops over slots that are told by what is read of them -/
def Post (x : Option (Ex × St)) (P : Ex → Sl → AHeap → Prop) : Prop := ∃ ex σ H, x = some (ex, σ, H) ∧ P ex σ H
theorem post_some {ex : Ex} {σ : Sl} {H : AHeap} {P : Ex → Sl → AHeap → Prop} : Post (some (ex, σ, H)) P = P ex σ H :=
  propext ⟨fun ⟨_, _, _, e, h⟩ => by cases e; exact h, fun h => ⟨_, _, _, rfl, h⟩⟩
theorem post_ite {c : Prop} [Decidable c] {x y : Option (Ex × St)} {P : Ex → Sl → AHeap → Prop} : Post (if c then x else y) P = if c then Post x P else Post y P := by split <;> rfl
theorem Post.mono {x : Option (Ex × St)} {P Q : Ex → Sl → AHeap → Prop} (h : Post x P) (hq : ∀ ex σ H, P ex σ H → Q ex σ H) : Post x Q := by
  obtain ⟨ex, σ, H, e, p⟩ := h; exact ⟨ex, σ, H, e, hq _ _ _ p⟩
theorem post_fin {call : CallA} {b : KC} {s : St} {ex : Ex} {H' : AHeap} {Q : Sl → Prop} (h : Post (evC call (.loop b) s) fun e σ' h => e = ex ∧ h = H' ∧ Q σ') : evC call (.loop b) s = some (ex, fin call b s, H') ∧ Q (fin call b s) := by
  obtain ⟨e, σ', h', e1, rfl, rfl, q⟩ := h
  exact fin_of ⟨σ', e1, q⟩
/-- What a loop has laid. -/
noncomputable def finT (call : CallA) (b : KC) (s : St) : List (Option Blk) := match evC call (.loop b) s with | some (_, _, H') => H'.drop s.2.length | none => []
theorem post_finT {call : CallA} {b : KC} {σ : Sl} {H : AHeap} {ex : Ex} {Q : Sl → Prop} (h : Post (evC call (.loop b) (σ, H)) fun e σ' h => e = ex ∧ (∃ T, h = H ++ T) ∧ Q σ') : evC call (.loop b) (σ, H) = some (ex, fin call b (σ, H), H ++ finT call b (σ, H)) ∧ Q (fin call b (σ, H)) := by
  obtain ⟨e, σ', h', e1, rfl, ⟨T, rfl⟩, q⟩ := h
  have h1 : fin call b (σ, H) = σ' := by unfold fin; rw [e1]
  have h2 : finT call b (σ, H) = T := by unfold finT; rw [e1]; simp
  rw [h1, h2]; exact ⟨e1, q⟩
theorem laid {x : List (Option Blk)} {H H' : AHeap} (h : ∃ T, H' = (H ++ x) ++ T) : ∃ T, H' = H ++ T := by
  obtain ⟨T, rfl⟩ := h; exact ⟨x ++ T, by rw [List.append_assoc]⟩
theorem laid0 {H : AHeap} : ∃ T, H = H ++ T := ⟨[], by simp⟩
/-- A function that is told by its body's run. -/
theorem done_fin {gc : Bool} {res : List KR} {H : AHeap} {σ : Sl} {H' : AHeap} {ex : Ex} (h : ex = .norm ∨ ex = .ret) : doneB gc res H (some (ex, σ, H')) = (evalRs σ H' res).bind fun vs => finish gc H (mkRes vs) H' := by
  rcases h with rfl | rfl
  · exact done_norm
  · exact done_ret
theorem ite_ex {c : Prop} [Decidable c] {a b : Ex} {s : St} : some ((if c then a else b), s) = if c then some (a, s) else some (b, s) := by split <;> rfl
theorem cast_nonneg {n : Nat} : (0 : Int) ≤ (n : Int) := Int.natCast_nonneg n
theorem cast_toNat {n : Nat} : Int.toNat (n : Int) = n := Int.toNat_natCast n
theorem guard_undef {call : CallA} {j : Nat} {w : Bool} {d : Option Nat} {op : KOp} {r : List KO} {σ : Sl} {H : AHeap} : guardC call (.c .undef) j w d op r σ H = evalOps call r (putS σ d (.c .undef), H) := Eq.trans rfl rfl
/-! What is read again, where it is asked for -/
noncomputable def chkG (call : CallA) (g : AV) (w : Bool) (d : Nat) (op : KOp) (rc : List KO) (σ : Sl) (H : AHeap) (r : List (KO × List KO)) : Option St :=
  match g with
  | .c (.bool b) => if b = w then reC call (evalOp (fun _ _ _ => none) σ H op) (σ d) rc σ H r else chkD call rc (σ, H) r
  | _ => chkD call rc (σ, H) r
theorem chkg_bool {call : CallA} {b w : Bool} {d : Nat} {op : KOp} {rc : List KO} {σ : Sl} {H : AHeap} {r : List (KO × List KO)} : chkG call (.c (.bool b)) w d op rc σ H r = if b = w then reC call (evalOp (fun _ _ _ => none) σ H op) (σ d) rc σ H r else chkD call rc (σ, H) r := Eq.trans rfl rfl
theorem chkD_skip {call : CallA} {o : KO} {rc : List KO} {s : St} {r : List (KO × List KO)} (h : rcOk s o) : chkD call (o :: rc) s r = chkD call rc s r := by
  unfold chkD
  by_cases h2 : ∀ o ∈ rc, rcOk s o
  · rw [if_pos h2, if_pos]
    intro o' ho
    rcases List.mem_cons.1 ho with rfl | ho
    · exact h
    · exact h2 o' ho
  · rw [if_neg h2, if_neg]
    exact fun hh => h2 fun o' ho => hh o' (by simp [ho])
theorem chk_consg {call : CallA} {d j : Nat} {w : Bool} {op : KOp} {rc : List KO} {σ : Sl} {H : AHeap} {r : List (KO × List KO)} : chkD call (⟨some d, op, some (j, w)⟩ :: rc) (σ, H) r = chkG call (σ j) w d op rc σ H r := by
  unfold chkG
  split
  · rename_i b hb
    by_cases h : b = w
    · rw [if_pos h, ← chk_cons]
      have e : rcOk (σ, H) ⟨some d, op, some (j, w)⟩ ↔ rcOk (σ, H) ⟨some d, op, none⟩ := by
        unfold rcOk
        simp only [wantA, hb, h, beq_self_eq_true]
      by_cases h1 : rcOk (σ, H) ⟨some d, op, none⟩
      · rw [chkD_skip h1, chkD_skip (e.2 h1)]
      · unfold chkD
        rw [if_neg (fun hh => h1 (e.1 (hh _ (List.mem_cons_self ..)))), if_neg (fun hh => h1 (hh _ (List.mem_cons_self ..)))]
    · rw [if_neg h]
      apply chkD_skip
      intro hw
      simp only [wantA, hb, beq_iff_eq] at hw
      exact absurd hw h
  · rename_i hn
    apply chkD_skip
    intro hw
    unfold wantA at hw
    dsimp only at hw
    split at hw
    · rename_i b hb; exact absurd hb (hn b)
    · cases hw
end Go.Proofs.YtmockobmiagbcaaDoor.VI

set_option linter.unusedVariables false
set_option linter.unusedSimpArgs false
set_option linter.unusedSectionVars false
namespace Go.Proofs.YtmockobmiagbcaaDoor.VI
open Go
/-! ### Appending -/
section
variable {H : AHeap} {e t : TypeId} {size bytes n l i j : Nat} {m : BM} {cap : Cap} {cs xs : List CV} {q : Option (Nat × Nat)}
theorem src_slice (hj : H.get j = some ⟨t, cs, m⟩) (hn : 0 < n) (hlen : cs.length = n * size) : srcCells H size (.c (.slice (some (j, 0)) n cap)) = some (n, cs) := by
  have h1 : ¬ n = 0 := by omega
  have h2 : 0 + n * size ≤ cs.length := by omega
  have h3 : (cs.drop 0).take (n * size) = cs := by rw [List.drop_zero, List.take_of_length_le (by omega)]
  unfold srcCells
  simp only [h1, if_false, readCells, hj, h2, if_true, h3, Option.map_some]
theorem apnd_new (hj : H.get j = some ⟨t, cs, m⟩) (hn : 0 < n) (hlen : cs.length = n * size) (hb : n * bytes ≤ 70368744177664) (hok : cs.all CV.ok = true) : appendA H e size bytes (.c (.slice q 0 (.exact 0))) (.c (.slice (some (j, 0)) n cap)) = some (.c (.slice (some (H.length, 0)) n (.toEnd size)), H ++ [some ⟨e, cs, .opn⟩]) := by
  have h1 : ¬ n = 0 := by omega
  have h4 : (0 + n) * bytes ≤ 70368744177664 := by rw [Nat.zero_add]; exact hb
  have h5 : ¬ (0 + n ≤ 0) := by omega
  unfold appendA
  rw [src_slice hj hn hlen]
  cases q <;> simp only [h1, if_false, h4, hok, and_self, if_true, h5]
theorem apnd_ext (hi : H.get i = some ⟨e, xs, .opn⟩) (hx : xs.length = l * size) (hl : 0 < l) (hj : H.get j = some ⟨t, cs, m⟩) (hn : 0 < n) (hlen : cs.length = n * size) (hb : (l + n) * bytes ≤ 70368744177664) (hok : cs.all CV.ok = true) : appendA H e size bytes (.c (.slice (some (i, 0)) l (.toEnd size))) (.c (.slice (some (j, 0)) n cap)) = some (.c (.slice (some (H.length, 0)) (l + n) (.toEnd size)), H.set i none ++ [some ⟨e, xs ++ cs, .opn⟩]) := by
  have h1 : ¬ n = 0 := by omega
  unfold appendA
  rw [src_slice hj hn hlen]
  simp only [h1, if_false, hb, hok, and_self, if_true, hi, hx, hl]
theorem apnd_zero {x y : CV} {p : Option (Nat × Nat)} : appendA H e size bytes (.c (.slice q l cap)) (.c (.slice p 0 (.exact 0))) = some (.c (.slice q l cap), H) := by
  unfold appendA
  cases p <;> simp [srcCells]
end
/-- What has been appended so far: where it lies. -/
def OutS (e : TypeId) (size : Nat) (L : Nat) (T : List (Option Blk)) (n : Nat) (cells : List CV) (v : AV) : Prop :=
  (n = 0 ∧ cells = [] ∧ ∃ q, v = .c (.slice q 0 (.exact 0))) ∨ (0 < n ∧ cells.length = n * size ∧ ∃ k, v = .c (.slice (some (L + k, 0)) n (.toEnd size)) ∧ T[k]? = some (some ⟨e, cells, .opn⟩))
/-- One step of an append. -/
theorem OutS.step {e : TypeId} {size bytes : Nat} {H : AHeap} {T : List (Option Blk)} {n j m : Nat} {cells cs : List CV} {v : AV} {t : TypeId} {bm : BM} {cap : Cap} (h : OutS e size H.length T n cells v) (hj : AHeap.get (H ++ T) j = some ⟨t, cs, bm⟩) (hm : 0 < m) (hlen : cs.length = m * size) (hb : (n + m) * bytes ≤ 70368744177664) (hok : cs.all CV.ok = true) :
    ∃ (v' : AV) (T' : List (Option Blk)), appendA (H ++ T) e size bytes v (.c (.slice (some (j, 0)) m cap)) = some (v', H ++ T') ∧ OutS e size H.length T' (n + m) (cells ++ cs) v' := by
  rcases h with ⟨rfl, rfl, q, rfl⟩ | ⟨h1, h2, k, rfl, h3⟩
  · refine ⟨_, T ++ [some ⟨e, cs, .opn⟩], ?_, .inr ⟨by omega, by simpa using hlen, T.length, rfl, by simp⟩⟩
    rw [apnd_new hj hm hlen (by simpa using hb) hok, List.append_assoc]
    simp
  · have hk : k < T.length := (List.getElem?_eq_some_iff.1 h3).1
    refine ⟨_, T.set k none ++ [some ⟨e, cells ++ cs, .opn⟩], ?_, .inr ⟨by omega, by rw [List.length_append, h2, hlen, Nat.add_mul], T.length, rfl, by simp⟩⟩
    rw [apnd_ext (by rw [get_app, h3]; rfl) h2 h1 hj hm hlen hb hok, set_app, List.append_assoc]
    simp
end Go.Proofs.YtmockobmiagbcaaDoor.VI

set_option linter.unusedVariables false
set_option linter.unusedSimpArgs false
set_option linter.unusedSectionVars false
namespace Go.Proofs.YtmockobmiagbcaaDoor.VI
open Go Go.RowKit

/-! ### Copies between rows -/
theorem run_copy_blk {P : Program} {w : World} {dT sT ty elem e : TypeId} {s b o dLen dCap sLen sCap : Nat} {a : Addr} {xs ys : List Value} (hu : P.underlying dT = some (.slice elem)) (hs : (P.info? elem).map (·.size) = some s) (hb : w.heap[b]? = some (.cells ys.toArray e (0, 0)))
    (hn : xs.length = Nat.min sLen dLen * s) (hsrc : ∀ (j : Nat) (x : Value), xs[j]? = some x → w.cell? (a.add j) = some x) (hle : o + xs.length ≤ ys.length) (h1 : ∀ x ∈ xs, (∀ l, x ≠ .agg l) ∧ (∀ l, x ≠ .tuple l)) :
    (Builtin.copy_ #[dT, sT] ty #[.slice (some ⟨b, o, none⟩) dLen dCap, .slice (some a) sLen sCap]).run P w = .ok (goInt (Nat.min sLen dLen)) (setBlk w b (.cells (setL ys o xs).toArray e (0, 0))) := by
  have hl := run_loadCellsFrom (P := P) (w := w) (a := a) xs 0 #[] (fun j x hj => by simpa using hsrc j x hj)
  have hst := run_storeCells (P := P) (b := b) (off := o) xs 0 ys w hb (by omega) h1
  simp only [Nat.add_zero] at hst
  cases hq : P.info? elem with
  | none => simp [hq] at hs
  | some i =>
    have hi : i.size = s := by simpa [hq] using hs
    simp [Builtin.copy_, run_underlying hu, Builtin.lenOf, Builtin.firstCells, sizeOf, typeInfo, hq, hi, loadCells, ← hn, hl, hst]

theorem setBlk_setBlk {w : World} {b : Nat} {o o' : Obj} : setBlk (setBlk w b o) b o' = setBlk w b o' := by
  unfold setBlk
  congr 1
  apply Array.ext_getElem?
  intro j
  simp only [Array.getElem?_setIfInBounds, Array.size_setIfInBounds]
  split <;> rfl
theorem setBlk_alloc {w : World} {o o' : Obj} : setBlk (w.alloc o) w.heap.size o' = w.alloc o' := by
  unfold setBlk World.alloc
  congr 1
  apply Array.ext_getElem?
  intro j
  rw [Array.getElem?_setIfInBounds]
  split
  · rename_i h; subst h
    rw [if_pos (by simp)]; simp
  · rename_i h
    rw [Array.getElem?_push, Array.getElem?_push]
    split
    · rename_i h2; exact absurd h2.symm h
    · rfl
theorem drewN_setBlk {w : World} {b n : Nat} {o : Obj} : (setBlk w b o).drewN n = setBlk (w.drewN n) b o := rfl
theorem drewN_alloc {w : World} {n : Nat} {o : Obj} : (w.alloc o).drewN n = (w.drewN n).alloc o := rfl
theorem drewN_drewN {w : World} {n m : Nat} : (w.drewN n).drewN m = w.drewN (n + m) := by unfold World.drewN; simp [Nat.add_assoc]

/-! ### An insertion -/
def isOwn : BM → Bool
  | .own => true
  | _ => false
def isOpn : BM → Bool
  | .opn => true
  | _ => false
theorem isOwn_eq {m : BM} (h : isOwn m = true) : m = .own := by cases m <;> first | rfl | cases h
theorem isOpn_eq {m : BM} (h : isOpn m = true) : m = .opn := by cases m <;> first | rfl | cases h
/-- The block that an insertion makes; the elder one is dead. -/
def insA (e : TypeId) (size bytes : Nat) : List AV → AHeap → Option (List V0 × AHeap)
  | [.c (.slice a len cap), .c (.int .i64 k), .c (.slice (some q) m (.exact m'))], H =>
    match H.get q.1, readCells H q (m * size) with
    | some bq, some cs => if isOwn bq.m = true ∧ 0 < m ∧ m' = m ∧ cs.all CV.ok = true ∧ (len + m) * bytes ≤ 70368744177664 then
        match a, cap with
        | none, _ => if k = 0 then some ([.c (.slice (some (H.length, 0)) m (.toEnd size))], H ++ [some ⟨e, cs, .opn⟩]) else none
        | some _, .exact 0 => if len = 0 ∧ k = 0 then some ([.c (.slice (some (H.length, 0)) m (.toEnd size))], H ++ [some ⟨e, cs, .opn⟩]) else none
        | some p, .toEnd sz => match H.get p.1 with
          | some blk => if isOpn blk.m = true ∧ sz = size ∧ 0 < len ∧ p.2 = 0 ∧ blk.cells.length = len * size ∧ blk.e = e ∧ 0 ≤ k ∧ k ≤ len ∧ blk.cells.all CV.ok = true then
              some ([.c (.slice (some (H.length, 0)) (len + m) (.toEnd size))], H.set p.1 none ++ [some ⟨e, blk.cells.take (k.toNat * size) ++ (cs ++ blk.cells.drop (k.toNat * size)), .opn⟩])
            else none
          | none => none
        | _, _ => none
      else none
    | _, _ => none
  | _, _ => none

def CellOk (x : Value) : Prop := (∀ l, x ≠ .agg l) ∧ (∀ l, x ≠ .tuple l)

/-- What a library's insertion does, on the machine: the elements of type e have s cells. -/
structure InsRun (P : Program) (f : FuncId) (e : TypeId) (s bytes : Nat) : Prop where
  fn : ∃ fn, P.funcs[f]? = some fn ∧ (fn.name == "runtime.NumGoroutine") = false ∧ fn.body.isNone = false
  pos : 0 < s
  /-- nothing yet -/
  empty : ∀ (w : World) (base : Option Addr) (vb vo m : Nat) (xs : List Value), 0 < m → m * bytes ≤ 70368744177664 → xs.length = m * s → (∀ (j : Nat) (x : Value), xs[j]? = some x → w.cell? ⟨vb, vo + j, none⟩ = some x) → (∀ x ∈ xs, CellOk x) →
    Calls P f #[.slice base 0 0, .int .i64 0, .slice (some ⟨vb, vo, none⟩) m m] w fun r w' => ∃ n nc rest, m ≤ nc ∧ rest.length = (nc - m) * s ∧ r = .returned (.slice (some ⟨w.heap.size, 0, none⟩) m nc) ∧ w' = (w.drewN n).alloc (.cells (xs ++ rest).toArray e (0, 0))
  /-- there is room -/
  room : ∀ (w : World) (b vb vo len c k m : Nat) (ys xs zs : List Value) (e' : TypeId), 0 < m → 0 < len → k ≤ len → len + m ≤ c → (len + m) * bytes ≤ 70368744177664 → ys.length = c * s → w.heap[b]? = some (.cells ys.toArray e (0, 0)) → vb ≠ b → w.heap[vb]? = some (.cells zs.toArray e' (0, 0)) →
    xs.length = m * s → (∀ (j : Nat) (x : Value), xs[j]? = some x → w.cell? ⟨vb, vo + j, none⟩ = some x) → (∀ x ∈ xs, CellOk x) → (∀ x ∈ ys.take (len * s), CellOk x) →
    Calls P f #[.slice (some ⟨b, 0, none⟩) len c, .int .i64 k, .slice (some ⟨vb, vo, none⟩) m m] w fun r w' => ∃ n rest, r = .returned (.slice (some ⟨b, 0, none⟩) (len + m) c) ∧ (ys.take (k * s) ++ (xs ++ (ys.take (len * s)).drop (k * s)) ++ rest).length = ys.length ∧ w' = setBlk (w.drewN n) b (.cells (ys.take (k * s) ++ (xs ++ (ys.take (len * s)).drop (k * s)) ++ rest).toArray e (0, 0))
  /-- there is no room -/
  grow : ∀ (w : World) (b vb vo len c k m : Nat) (ys xs : List Value), 0 < m → 0 < len → k ≤ len → len ≤ c → c < len + m → (len + m) * bytes ≤ 70368744177664 → ys.length = c * s → w.heap[b]? = some (.cells ys.toArray e (0, 0)) →
    xs.length = m * s → (∀ (j : Nat) (x : Value), xs[j]? = some x → w.cell? ⟨vb, vo + j, none⟩ = some x) → (∀ x ∈ xs, CellOk x) → (∀ x ∈ ys.take (len * s), CellOk x) →
    Calls P f #[.slice (some ⟨b, 0, none⟩) len c, .int .i64 k, .slice (some ⟨vb, vo, none⟩) m m] w fun r w' => ∃ n nc rest, len + m ≤ nc ∧ rest.length = (nc - (len + m)) * s ∧ r = .returned (.slice (some ⟨w.heap.size, 0, none⟩) (len + m) nc) ∧ w' = (w.drewN n).alloc (.cells (ys.take (k * s) ++ (xs ++ (ys.take (len * s)).drop (k * s)) ++ rest).toArray e (0, 0))

theorem app_newN {B0 : Nat} {β : Beta} {H : AHeap} {w : World} (hr : HR B0 β H w) {e : TypeId} {s m nc n : Nat} {cs : List CV} {xs rest : List Value} (hc : Cells β cs xs) (hl : cs.length = m * s) (hnc : m ≤ nc) (hrest : rest.length = (nc - m) * s) :
    ∃ β', (CV.slice (some (H.length, 0)) m (.toEnd s)).rel β' (.slice (some ⟨w.heap.size, 0, none⟩) m nc) ∧ Go_ B0 β H w β' (H ++ [some ⟨e, cs, .opn⟩]) ((w.drewN n).alloc (.cells (xs ++ rest).toArray e (0, 0))) := by
  have hg := (hr.drewN n).alloc e cs (xs ++ rest) .opn (.inr rfl) (by rw [hc.1, List.take_left' rfl]; exact hc) (fun h => by cases h)
  refine ⟨_, ?_, (Go_.drewN hr n).trans hg⟩
  have hlen : (xs ++ rest).length = nc * s := by
    rw [List.length_append, ← hc.1, hl, hrest, ← Nat.add_mul]
    congr 1; omega
  refine ⟨_, _, fun _ => hr.newAddr _, fun _ => rfl, rfl, hnc, ⟨w.heap.size, 0, (xs ++ rest).length, ?_, by rw [hlen]; simp⟩⟩
  have := hr.len
  show (β ++ [(w.heap.size, 0, (xs ++ rest).length)])[H.length]? = _
  rw [List.getElem?_append_right (by omega), this]; simp

theorem cells_ok {β : Beta} {cs : List CV} {xs : List Value} (h : Cells β cs xs) (ho : cs.all CV.ok = true) : ∀ x ∈ xs, CellOk x := by
  intro x hx
  obtain ⟨j, hj, rfl⟩ := List.getElem_of_mem hx
  have hj' : j < cs.length := by rw [h.1]; exact hj
  obtain ⟨y, h1, h2⟩ := h.2 j cs[j] (List.getElem?_eq_getElem hj')
  rw [List.getElem?_eq_getElem hj] at h1; injection h1 with h1; rw [h1]
  exact CV.ok_store (List.all_eq_true.1 ho _ (List.getElem_mem hj')) h2

theorem HR.ownAt {B0 : Nat} {β : Beta} {H : AHeap} {w : World} (h : HR B0 β H w) {i : Nat} {blk : Blk} (hg : H.get i = some blk) (hm : blk.m = .own ∨ blk.m = .opn) :
    ∃ (b : Nat) (xs : List Value), β[i]? = some (b, 0, xs.length) ∧ B0 ≤ b ∧ w.heap[b]? = some (.cells xs.toArray blk.e (0, 0)) ∧ Cells β blk.cells (xs.take blk.cells.length) := by
  rcases h.blk i blk (get_some hg) with ⟨hm', _⟩ | ⟨_, ⟨b, xs, h1, h2, h3, h4, _⟩⟩
  · rw [hm'] at hm; rcases hm with hm | hm <;> cases hm
  · exact ⟨b, xs, h1, h2, h3, h4⟩

/-- Cells that are read, one by one. -/
theorem HR.cellsAt {B0 : Nat} {β : Beta} {H : AHeap} {w : World} (h : HR B0 β H w) {p : Nat × Nat} {n b o : Nat} {cs : List CV} (hc : readCells H p n = some cs) (ha : AddrRel β p ⟨b, o, none⟩) :
    ∃ xs : List Value, Cells β cs xs ∧ xs.length = n ∧ ∀ (j : Nat) (x : Value), xs[j]? = some x → w.cell? ⟨b, o + j, none⟩ = some x := by
  obtain ⟨blk, hg, hle, rfl⟩ := readCells_spec hc
  have hx : ∀ m, m ≤ n → ∃ xs : List Value, xs.length = m ∧ Cells β ((blk.cells.drop p.2).take m) xs ∧ ∀ j (x : Value), xs[j]? = some x → w.cell? ⟨b, o + j, none⟩ = some x := by
    intro m
    induction m with
    | zero => intro _; exact ⟨[], rfl, by simpa using Cells.nil β, fun j x hj => by simp at hj⟩
    | succ m ih =>
      intro hm
      obtain ⟨xs, hl, hcs, hw⟩ := ih (by omega)
      have hlt : p.2 + m < blk.cells.length := by omega
      have ha' := ha.add m
      rw [add_plain] at ha'
      obtain ⟨x, h1, h2⟩ := h.cell (off := p.2 + m) hg (List.getElem?_eq_getElem hlt) ha'
      refine ⟨xs ++ [x], by simp [hl], ?_, fun j y hj => ?_⟩
      · rw [List.take_succ_eq_append_getElem (by simp; omega)]
        refine hcs.append (Cells.one ?_)
        simpa using h2
      · by_cases hjm : j < xs.length
        · rw [List.getElem?_append_left hjm] at hj; exact hw j y hj
        · rw [List.getElem?_append_right (by omega)] at hj
          have : j - xs.length = 0 := by
            rcases Nat.eq_zero_or_pos (j - xs.length) with h0 | h0
            · exact h0
            · rw [List.getElem?_eq_none (by simp only [List.length_singleton]; omega)] at hj; simp at hj
          rw [this] at hj; simp at hj; subst hj
          have : j = m := by omega
          subst this; exact h1
  obtain ⟨xs, hl, hcs, hw⟩ := hx n (Nat.le_refl _)
  exact ⟨xs, hcs, hl, hw⟩

theorem vals3 {β : Beta} {a b c : AV} {xs : List Value} (h : Vals β [a, b, c] xs) : ∃ x y z, xs = [x, y, z] ∧ a.rel β x ∧ b.rel β y ∧ c.rel β z := by
  obtain ⟨hl, hv⟩ := h
  match xs, hl with
  | [x, y, z], _ =>
    obtain ⟨x', h1, h2⟩ := hv 0 a rfl
    obtain ⟨y', h3, h4⟩ := hv 1 b rfl
    obtain ⟨z', h5, h6⟩ := hv 2 c rfl
    simp at h1 h3 h5
    subst h1; subst h3; subst h5
    exact ⟨_, _, _, rfl, h2, h4, h6⟩

theorem nat_ins {P : Program} {f : FuncId} {e : TypeId} {s bytes : Nat} (R : InsRun P f e s bytes) : NatOk P f 3 (insA e s bytes) := by
  intro args H vs H' hlen h B0 β w xs hr hv
  clear hlen
  obtain ⟨fn, f1, f2, f3⟩ := R.fn
  refine ⟨fn, f1, f2, f3, ?_⟩
  unfold insA at h
  split at h
  case h_2 => simp at h
  rename_i a len cap k q m m'
  split at h
  case h_2 => simp at h
  rename_i _ _ bq cs hq hcs
  split at h
  case isFalse => simp at h
  rename_i hcond
  obtain ⟨hbq, hm, rfl, hcok, hbb⟩ := hcond
  have hbq := isOwn_eq hbq
  obtain ⟨x, y, z, rfl, rx, ry, rz⟩ := vals3 hv
  have ry : y = .int .i64 k := ry
  subst ry
  have hn : needsAddr m' (.exact m') = true := by simp [needsAddr, hm]
  obtain ⟨ad, c', ra, rsp, rfl, _, rc⟩ := rz
  have rc : c' = m' := rc
  subst rc
  have ha := ra hn
  have had := ha
  obtain ⟨vb, vo, vk, hvβ, rfl⟩ := had
  obtain ⟨us, hus, hul, huw⟩ := hr.cellsAt hcs ha
  have hcl : cs.length = c' * s := readCells_len hcs
  have huo := cells_ok hus hcok
  split at h
  · -- the nil slice
    rename_i cap0
    split at h
    case isFalse => simp at h
    rename_i hk
    subst hk
    simp at h
    obtain ⟨rfl, rfl⟩ := h
    obtain ⟨rfl, rfl⟩ := rx
    refine (R.empty w none vb _ c' us hm (by simpa using hbb) hul huw huo).mono ?_
    rintro r w' ⟨n, nc, rest, g1, g2, rfl, rfl⟩
    obtain ⟨β', g3, g4⟩ := app_newN (e := e) (n := n) hr hus hcl g1 g2
    exact ⟨β', _, rfl, g3, g4⟩
  · -- an empty one
    rename_i p0 
    split at h
    case isFalse => simp at h
    rename_i hk
    obtain ⟨rfl, rfl⟩ := hk
    simp at h
    obtain ⟨rfl, rfl⟩ := h
    obtain ⟨ax, cx, _, _, rfl, _, hcx⟩ := rx
    have hcx : cx = 0 := hcx
    subst hcx
    refine (R.empty w (some ax) vb _ c' us hm (by simpa using hbb) hul huw huo).mono ?_
    rintro r w' ⟨n, nc, rest, g1, g2, rfl, rfl⟩
    obtain ⟨β', g3, g4⟩ := app_newN (e := e) (n := n) hr hus hcl g1 g2
    exact ⟨β', _, rfl, g3, g4⟩
  · rename_i p sz
    split at h
    case h_2 => simp at h
    rename_i _ blk hp
    split at h
    case isFalse => simp at h
    rename_i hc2
    obtain ⟨hbm, rfl, hlen0, hp2, hbl, rfl, hk0, hk1, hbok⟩ := hc2
    have hbm := isOpn_eq hbm
    simp at h
    obtain ⟨rfl, rfl⟩ := h
    obtain ⟨kn, rfl⟩ : ∃ kn : Nat, k = (kn : Int) := ⟨k.toNat, by omega⟩
    have hkn : kn ≤ len := by omega
    obtain ⟨ax, c, rax, _, rfl, hlc, rcap⟩ := rx
    have hax := rax rfl
    obtain ⟨b, ys, hβ, hB, hh, hys⟩ := hr.ownAt hp (.inr hbm)
    obtain ⟨b1, o1, k1, hβ1, rfl⟩ := hax
    rw [hβ] at hβ1; injection hβ1 with e1; injection e1 with e1 e2; injection e2 with e2 e3
    subst e1; subst e2; subst e3
    obtain ⟨b2, o2, k2, hβ2, hcap⟩ := rcap
    rw [hβ] at hβ2; injection hβ2 with e1; injection e1 with e1 e2; injection e2 with e2 e3
    subst e1; subst e2; subst e3
    rw [hp2] at hcap ⊢
    simp only [Nat.zero_add, Nat.add_zero] at hcap ⊢
    obtain ⟨b', zs, hβ', _, hh', _⟩ := hr.ownAt hq (.inl hbq)
    rw [hvβ] at hβ'; injection hβ' with e1; injection e1 with e1 e2; injection e2 with e2 e3
    subst e1; subst e2; subst e3
    have hne : vb ≠ b := by
      intro e
      subst e
      have := hr.inj q.1 p.1 bq blk vb 0 0 _ _ (get_some hq) (get_some hp) (.inl hbq) (.inr hbm) hvβ hβ
      rw [this] at hq
      rw [hp] at hq; injection hq with hq; subst hq
      rw [hbm] at hbq; cases hbq
    rw [hbl] at hys
    have hyo := cells_ok hys hbok
    have hksl : kn * sz ≤ len * sz := Nat.mul_le_mul_right _ hkn
    have hyl : (ys.take (len * sz)).length = len * sz := by rw [← hys.1, hbl]
    have hlys : len * sz ≤ ys.length := by rw [List.length_take] at hyl; omega
    have hCells : Cells β (blk.cells.take (kn * sz) ++ (cs ++ blk.cells.drop (kn * sz))) (ys.take (kn * sz) ++ (us ++ (ys.take (len * sz)).drop (kn * sz))) := by
      refine Cells.append ?_ (hus.append (hys.drop _))
      have := hys.take (kn * sz)
      rwa [List.take_take, Nat.min_eq_left hksl] at this
    have hCl : (blk.cells.take (kn * sz) ++ (cs ++ blk.cells.drop (kn * sz))).length = (len + c') * sz := by
      simp only [List.length_append, List.length_take, List.length_drop, hbl, hcl, Nat.min_eq_left hksl, Nat.add_mul]
      omega
    by_cases hroom : len + c' ≤ c
    · refine (R.room w b vb (0 + q.2) len c kn c' ys us zs _ hm hlen0 hkn hroom hbb hcap.symm hh hne hh' hul huw huo hyo).mono ?_
      rintro r w' ⟨n, rest, rfl, g1, rfl⟩
      have hg := (hr.drewN n).grow (get_some hp) (.inr hbm) hβ hB hh (ys' := ys.take (kn * sz) ++ (us ++ (ys.take (len * sz)).drop (kn * sz)) ++ rest) (cs := blk.cells.take (kn * sz) ++ (cs ++ blk.cells.drop (kn * sz))) g1 (by
        rw [hCells.1, List.take_left' rfl]; exact hCells)
      refine ⟨_, _, rfl, ?_, (Go_.drewN hr n).trans hg⟩
      have hl : (β ++ [(b, 0, ys.length)])[H.length]? = some (b, 0, ys.length) := by
        rw [List.getElem?_append_right (by rw [hr.len]; exact Nat.le_refl _), hr.len]; simp
      exact ⟨_, c, fun _ => ⟨b, 0, ys.length, hl, by simp⟩, fun _ => rfl, rfl, hroom, ⟨b, 0, ys.length, hl, by simpa using hcap⟩⟩
    · refine (R.grow w b vb (0 + q.2) len c kn c' ys us hm hlen0 hkn hlc (by omega) hbb hcap.symm hh hul huw huo hyo).mono ?_
      rintro r w' ⟨n, nc, rest, g1, g2, rfl, rfl⟩
      have hkill := hr.kill p.1
      obtain ⟨β', g3, g4⟩ := app_newN (e := blk.e) (n := n) hkill.hr hCells hCl g1 g2
      have hHl : (H.set p.1 none).length = H.length := by simp
      rw [hHl] at g3
      exact ⟨β', _, rfl, g3, hkill.trans g4⟩
  · simp at h
end Go.Proofs.YtmockobmiagbcaaDoor.VI

set_option linter.unusedVariables false
set_option linter.unusedSimpArgs false
set_option linter.unusedSectionVars false
namespace Go.Proofs.YtmockobmiagbcaaDoor.VI
open Go Go.RowKit

/-! ### Functions of the library that are told by what they answer: texts -/
theorem HR.side {B0 : Nat} {β : Beta} {H : AHeap} {w w' : World} (h : HR B0 β H w) (hb : Below w.heap.size w w') : Go_ B0 β H w β H w' := by
  have hB := h.base
  have hb0 : Below B0 w w' := ⟨hb.os, hb.tape, hb.output, hb.size, fun k hk => hb.block k (by omega)⟩
  refine ⟨⟨h.len, Nat.le_trans hB hb.size, fun i blk hi => ?_, h.inj, h.gi.kept hb0⟩, .refl _, hb0, fun b hlt _ => hb.block b hlt, fun b _ ho => ho⟩
  exact BlkRel.kept (.refl _) (fun b hlt => hb.block b (by omega)) (fun hbm b o k hbk => hb.block b (h.lt ⟨i, blk, o, hi, hbm, k, hbk⟩)) (h.blk i blk hi)
theorem vals1 {β : Beta} {a : AV} {xs : List Value} (h : Vals β [a] xs) : ∃ x, xs = [x] ∧ a.rel β x := by
  obtain ⟨x, r, rfl, h1, h2⟩ := h.cons_inv
  have := h2.1
  cases r with
  | nil => exact ⟨x, rfl, h1⟩
  | cons y r => simp at this
theorem vals2 {β : Beta} {a b : AV} {xs : List Value} (h : Vals β [a, b] xs) : ∃ x y, xs = [x, y] ∧ a.rel β x ∧ b.rel β y := by
  obtain ⟨x, r, rfl, h1, h2⟩ := h.cons_inv
  obtain ⟨y, rfl, h3⟩ := vals1 h2
  exact ⟨x, y, rfl, h1, h3⟩
structure FnOk (P : Program) (f : FuncId) : Prop where
  fn : ∃ fn, P.funcs[f]? = some fn ∧ (fn.name == "runtime.NumGoroutine") = false ∧ fn.body.isNone = false

/-- The text of a number (from 0 on). -/
def decD (n : Nat) : List UInt8 := if h : n < 10 then [UInt8.ofNat (48 + n)] else decD (n / 10) ++ [UInt8.ofNat (48 + n % 10)]
termination_by n
decreasing_by omega
def decB (n : Int) : ByteArray := ⟨(decD n.toNat).toArray⟩

/-- A number's text, base ten. -/
def fmtA : List AV → AHeap → Option (List V0 × AHeap)
  | [.c (.int .i64 n), .c (.int .i64 b)], H => if b = 10 ∧ 0 ≤ n ∧ n ≤ 9223372036854775807 then some ([.c (.str (decB n))], H) else none
  | _, _ => none
def decA : List AV → AHeap → Option (List V0 × AHeap)
  | [.c (.int .i64 n)], H => if 0 ≤ n ∧ n ≤ 9223372036854775807 then some ([.c (.str (decB n))], H) else none
  | _, _ => none
theorem nat_fmt {P : Program} {f : FuncId} (F : FnOk P f) (h : ∀ (n : Nat) (w : World), n ≤ 9223372036854775807 → (∃ (t : TypeId) (fr : Nat × Nat), w.heap[1]? = some (.cells pow10L.toArray t fr)) → Calls P f #[.int .i64 n, .int .i64 10] w fun e w' => e = .returned (.string (decB n)) ∧ Below w.heap.size w w') : NatOk P f 2 fmtA := by
  intro args H vs H' hlen hφ B0 β w xs hr hv
  clear hlen
  obtain ⟨fn, f1, f2, f3⟩ := F.fn
  refine ⟨fn, f1, f2, f3, ?_⟩
  unfold fmtA at hφ
  split at hφ
  case h_2 => simp at hφ
  rename_i n b
  split at hφ
  case isFalse => simp at hφ
  rename_i hc
  obtain ⟨rfl, h0, h1⟩ := hc
  simp at hφ
  obtain ⟨rfl, rfl⟩ := hφ
  obtain ⟨x, y, rfl, rx, ry⟩ := vals2 hv
  have rx : x = .int .i64 n := rx
  have ry : y = .int .i64 10 := ry
  subst rx; subst ry
  obtain ⟨m, rfl⟩ : ∃ m : Nat, n = m := ⟨n.toNat, by omega⟩
  refine (h m w (by omega) hr.gi.2.2).mono ?_
  rintro e w' ⟨rfl, hb⟩
  exact ⟨β, _, rfl, rfl, hr.side hb⟩
theorem nat_dec {P : Program} {f : FuncId} (F : FnOk P f) (h : ∀ (n : Nat) (w : World), n ≤ 9223372036854775807 → Calls P f #[.int .i64 n] w fun e w' => e = .returned (.string (decB n)) ∧ Below w.heap.size w w') : NatOk P f 1 decA := by
  intro args H vs H' hlen hφ B0 β w xs hr hv
  clear hlen
  obtain ⟨fn, f1, f2, f3⟩ := F.fn
  refine ⟨fn, f1, f2, f3, ?_⟩
  unfold decA at hφ
  split at hφ
  case h_2 => simp at hφ
  rename_i n
  split at hφ
  case isFalse => simp at hφ
  rename_i hc
  obtain ⟨h0, h1⟩ := hc
  simp at hφ
  obtain ⟨rfl, rfl⟩ := hφ
  obtain ⟨x, rfl, rx⟩ := vals1 hv
  have rx : x = .int .i64 n := rx
  subst rx
  obtain ⟨m, rfl⟩ : ∃ m : Nat, n = m := ⟨n.toNat, by omega⟩
  refine (h m w (by omega)).mono ?_
  rintro e w' ⟨rfl, hb⟩
  exact ⟨β, _, rfl, rfl, hr.side hb⟩

/-- Where a byte stands first. -/
def idxL : List UInt8 → List UInt8 → Int
  | [], sub => if sub.isEmpty then 0 else -1
  | b :: l, sub => if sub.isPrefixOf (b :: l) then 0 else if idxL l sub == -1 then -1 else idxL l sub + 1
/-- Where a text stands in another one. -/
def indexA : List AV → AHeap → Option (List V0 × AHeap)
  | [.c (.str s), .c (.str t)], H => if s.size < 4294967281 then some ([.c (.int .i64 (idxL s.data.toList t.data.toList))], H) else none
  | _, _ => none
theorem nat_index {P : Program} {f : FuncId} (F : FnOk P f) (h : ∀ (s t : ByteArray) (m : Int) (w : World), s.size < 4294967281 → w.cell? ⟨0, 0, none⟩ = some (.int .i64 m) → Calls P f #[.string s, .string t] w fun e w' => e = .returned (.int .i64 (idxL s.data.toList t.data.toList)) ∧ w' = w) : NatOk P f 2 indexA := by
  intro args H vs H' hlen hφ B0 β w xs hr hv
  clear hlen
  obtain ⟨fn, f1, f2, f3⟩ := F.fn
  refine ⟨fn, f1, f2, f3, ?_⟩
  unfold indexA at hφ
  split at hφ
  case h_2 => simp at hφ
  rename_i s t
  split at hφ
  case isFalse => simp at hφ
  rename_i hc
  simp at hφ
  obtain ⟨rfl, rfl⟩ := hφ
  obtain ⟨x, y, rfl, rx, ry⟩ := vals2 hv
  have rx : x = .string s := rx
  have ry : y = .string t := ry
  subst rx; subst ry
  obtain ⟨m, hm⟩ := hr.gi.2.1
  refine (h s t m w hc hm).mono ?_
  rintro e w' ⟨rfl, rfl⟩
  exact ⟨β, _, rfl, rfl, .refl hr⟩

/-- The parts of a text between the bytes c. -/
def splitL (c : UInt8) : List UInt8 → List (List UInt8)
  | [] => [[]]
  | b :: l => if b = c then [] :: splitL c l else match splitL c l with
    | [] => [[b]]
    | p :: ps => (b :: p) :: ps
def strsC (c : UInt8) (s : List UInt8) : List CV := (splitL c s).map fun p => .str ⟨p.toArray⟩
/-- The parts of a text between the blanks, in a new block. -/
def splitA (e : TypeId) : List AV → AHeap → Option (List V0 × AHeap)
  | [.c (.str s), .c (.str t)], H => if s.size < 4294967281 ∧ t = ⟨#[32]⟩ then some ([.c (.slice (some (H.length, 0)) (strsC 32 s.data.toList).length (.exact (strsC 32 s.data.toList).length))], H ++ [some ⟨e, strsC 32 s.data.toList, .own⟩]) else none
  | _, _ => none
theorem cells_str {β : Beta} (ps : List (List UInt8)) : Cells β (ps.map fun p => CV.str ⟨p.toArray⟩) (ps.map fun p => Value.string ⟨p.toArray⟩) := by
  refine ⟨by simp, fun j c hc => ?_⟩
  rw [List.getElem?_map] at hc
  obtain ⟨p, hp, rfl⟩ := Option.map_eq_some_iff.1 hc
  exact ⟨_, by rw [List.getElem?_map, hp]; rfl, rfl⟩
theorem nat_split {P : Program} {f : FuncId} {e : TypeId} (F : FnOk P f) (h : ∀ (s : ByteArray) (m : Int) (w : World), s.size < 4294967281 → w.cell? ⟨0, 0, none⟩ = some (.int .i64 m) → Calls P f #[.string s, .string ⟨#[32]⟩] w fun r w' => r = .returned (.slice (some ⟨w.heap.size, 0, none⟩) (splitL 32 s.data.toList).length (splitL 32 s.data.toList).length) ∧ w' = w.alloc (.cells ((splitL 32 s.data.toList).map fun p => Value.string ⟨p.toArray⟩).toArray e)) : NatOk P f 2 (splitA e) := by
  intro args H vs H' hlen hφ B0 β w xs hr hv
  clear hlen
  obtain ⟨fn, f1, f2, f3⟩ := F.fn
  refine ⟨fn, f1, f2, f3, ?_⟩
  unfold splitA at hφ
  split at hφ
  case h_2 => simp at hφ
  rename_i s t
  split at hφ
  case isFalse => simp at hφ
  rename_i hc
  obtain ⟨hs, rfl⟩ := hc
  simp only [Option.some.injEq, Prod.mk.injEq] at hφ
  obtain ⟨rfl, rfl⟩ := hφ
  obtain ⟨x, y, rfl, rx, ry⟩ := vals2 hv
  have rx : x = .string s := rx
  have ry : y = .string ⟨#[32]⟩ := ry
  subst rx; subst ry
  obtain ⟨m, hm⟩ := hr.gi.2.1
  refine (h s m w hs hm).mono ?_
  rintro r w' ⟨rfl, rfl⟩
  have hcl : Cells β (strsC 32 s.data.toList) ((splitL 32 s.data.toList).map fun p => Value.string ⟨p.toArray⟩) := cells_str (β := β) (splitL 32 s.data.toList)
  have hg := hr.alloc e (strsC 32 s.data.toList) _ .own (.inl rfl) (by rw [hcl.1, List.take_of_length_le (Nat.le_refl _)]; exact hcl) (fun _ => hcl.1.symm)
  have hl : (strsC 32 s.data.toList).length = (splitL 32 s.data.toList).length := by simp [strsC]
  rw [hl]
  refine ⟨_, _, rfl, ⟨_, _, fun _ => hr.newAddr _, fun _ => rfl, rfl, Nat.le_refl _, rfl⟩, hg⟩
end Go.Proofs.YtmockobmiagbcaaDoor.VI

set_option linter.unusedVariables false
set_option linter.unusedSimpArgs false
set_option linter.unusedSectionVars false
namespace Go.Proofs.YtmockobmiagbcaaDoor.VI
open Go Go.RowKit

/-! ### More functions of the library that are told by what they answer -/
/-- A text around the first place of another one. -/
def cutL (s t : List UInt8) : List UInt8 × List UInt8 × Bool :=
  if idxL s t = -1 then (s, [], false) else (s.take (idxL s t).toNat, s.drop ((idxL s t).toNat + t.length), true)
def cutA : List AV → AHeap → Option (List V0 × AHeap)
  | [.c (.str s), .c (.str t)], H => if s.size < 4294967281 then some ([.c (.str ⟨(cutL s.data.toList t.data.toList).1.toArray⟩), .c (.str ⟨(cutL s.data.toList t.data.toList).2.1.toArray⟩), .c (.bool (cutL s.data.toList t.data.toList).2.2)], H) else none
  | _, _ => none
theorem nat_cut {P : Program} {f : FuncId} (F : FnOk P f) (h : ∀ (s t : ByteArray) (m : Int) (w : World), s.size < 4294967281 → w.cell? ⟨0, 0, none⟩ = some (.int .i64 m) → Calls P f #[.string s, .string t] w fun e w' => e = .returned (.tuple #[.string ⟨(cutL s.data.toList t.data.toList).1.toArray⟩, .string ⟨(cutL s.data.toList t.data.toList).2.1.toArray⟩, .bool (cutL s.data.toList t.data.toList).2.2]) ∧ ∃ n, w' = w.drewN n) : NatOk P f 2 cutA := by
  intro args H vs H' hlen hφ B0 β w xs hr hv
  clear hlen
  obtain ⟨fn, f1, f2, f3⟩ := F.fn
  refine ⟨fn, f1, f2, f3, ?_⟩
  unfold cutA at hφ
  split at hφ
  case h_2 => simp at hφ
  rename_i s t
  split at hφ
  case isFalse => simp at hφ
  rename_i hc
  simp only [Option.some.injEq, Prod.mk.injEq] at hφ
  obtain ⟨rfl, rfl⟩ := hφ
  obtain ⟨x, y, rfl, rx, ry⟩ := vals2 hv
  have rx : x = .string s := rx
  have ry : y = .string t := ry
  subst rx; subst ry
  obtain ⟨m, hm⟩ := hr.gi.2.1
  refine (h s t m w hc hm).mono ?_
  rintro e w' ⟨rfl, n, rfl⟩
  refine ⟨β, _, rfl, ⟨[_, _, _], rfl, rfl, fun j v hj => ?_⟩, Go_.drewN hr n⟩
  match j with
  | 0 => simp at hj; subst hj; exact ⟨_, rfl, rfl⟩
  | 1 => simp at hj; subst hj; exact ⟨_, rfl, rfl⟩
  | 2 => simp at hj; subst hj; exact ⟨_, rfl, rfl⟩
  | j + 3 => simp at hj
/-- Texts, one behind the other. -/
def joinT (sep : List UInt8) : List (List UInt8) → List UInt8
  | [] => []
  | [p] => p
  | p :: q :: r => p ++ sep ++ joinT sep (q :: r)
def strOf : CV → Option (List UInt8)
  | .str s => some s.data.toList
  | _ => none
def strsOf : List CV → Option (List (List UInt8))
  | [] => some []
  | c :: cs => match strOf c, strsOf cs with
    | some p, some ps => some (p :: ps)
    | _, _ => none
def joinA : List AV → AHeap → Option (List V0 × AHeap)
  | [.c (.slice (some p) n cap), .c (.str t)], H => match readCells H p n with
    | some cs => match strsOf cs with
      | some ps => if 0 < n ∧ n ≤ 140737488355328 ∧ (joinT t.data.toList ps).length ≤ 140737488355328 then some ([.c (.str ⟨(joinT t.data.toList ps).toArray⟩)], H) else none
      | none => none
    | none => none
  | _, _ => none
theorem strsOf_spec : ∀ {cs : List CV} {ps : List (List UInt8)}, strsOf cs = some ps → cs = ps.map fun p => CV.str ⟨p.toArray⟩
  | [], ps, h => by simp [strsOf] at h; subst h; rfl
  | c :: cs, ps, h => by
    unfold strsOf at h
    split at h
    · rename_i p qs h1 h2
      simp only [Option.some.injEq] at h
      subst h
      rw [strsOf_spec h2, List.map_cons]
      congr 1
      unfold strOf at h1
      split at h1
      · rename_i s
        simp only [Option.some.injEq] at h1
        rw [← h1]
      · cases h1
    · cases h
theorem nat_joinS {P : Program} {f : FuncId} (F : FnOk P f) (h : ∀ (bk o c : Nat) (xs : List ByteArray) (t : ByteArray) (w : World), (∀ (j : Nat) x, xs[j]? = some x → w.cell? ⟨bk, o + j, none⟩ = some (.string x)) → bk < w.heap.size → xs.length ≤ 140737488355328 → xs.length ≤ c → (joinT t.data.toList (xs.map (·.data.toList))).length ≤ 140737488355328 →
    Calls P f #[.slice (some ⟨bk, o, none⟩) xs.length c, .string t] w fun e w' => e = .returned (.string ⟨(joinT t.data.toList (xs.map (·.data.toList))).toArray⟩) ∧ Below w.heap.size w w') : NatOk P f 2 joinA := by
  intro args H vs H' hlen hφ B0 β w xs hr hv
  clear hlen
  obtain ⟨fn, f1, f2, f3⟩ := F.fn
  refine ⟨fn, f1, f2, f3, ?_⟩
  unfold joinA at hφ
  split at hφ
  case h_2 => simp at hφ
  rename_i p n cap t
  split at hφ
  case h_2 => simp at hφ
  rename_i cs hcs
  split at hφ
  case h_2 => simp at hφ
  rename_i ps hps
  split at hφ
  case isFalse => simp at hφ
  rename_i hc
  obtain ⟨hn0, hn, hl⟩ := hc
  simp only [Option.some.injEq, Prod.mk.injEq] at hφ
  obtain ⟨rfl, rfl⟩ := hφ
  obtain ⟨x, y, rfl, rx, ry⟩ := vals2 hv
  have ry : y = .string t := ry
  subst ry
  obtain ⟨ad, c, ra, rsp, rfl, hle, _⟩ := rx
  have hnd : needsAddr n cap = true := by cases cap <;> simp [needsAddr, hn0]
  have ha := ra hnd
  obtain ⟨vb, vo, vk, hvβ, rfl⟩ := ha
  obtain ⟨us, hus, hul, huw⟩ := hr.cellsAt hcs (ra hnd)
  have hcps := strsOf_spec hps
  have hcl : cs.length = n := by rw [hus.1, hul]
  have hpl : ps.length = n := by rw [← hcl, hcps, List.length_map]
  have hcell : ∀ (j : Nat) (x : ByteArray), (ps.map fun p => (⟨p.toArray⟩ : ByteArray))[j]? = some x → w.cell? ⟨vb, vo + p.2 + j, none⟩ = some (.string x) := fun j x hj => by
    rw [List.getElem?_map] at hj
    obtain ⟨q, hq, rfl⟩ := Option.map_eq_some_iff.1 hj
    have h1 : cs[j]? = some (.str ⟨q.toArray⟩) := by rw [hcps, List.getElem?_map, hq]; rfl
    obtain ⟨v, h2, h3⟩ := hus.2 j _ h1
    have h3 : v = .string ⟨q.toArray⟩ := h3
    subst h3
    exact huw j _ h2
  have hbk : vb < w.heap.size := by
    have h0 : 0 < ps.length := by omega
    have := hcell 0 ⟨ps[0].toArray⟩ (by rw [List.getElem?_map, List.getElem?_eq_getElem h0]; rfl)
    exact World.block_lt_of_cell? w _ this
  have hmap : (ps.map fun p => (⟨p.toArray⟩ : ByteArray)).map (·.data.toList) = ps := by
    rw [List.map_map]; exact List.map_id'' (fun _ => rfl) ps
  have := h vb (vo + p.2) c (ps.map fun p => (⟨p.toArray⟩ : ByteArray)) t w hcell hbk (by rw [List.length_map]; omega) (by rw [List.length_map]; omega) (by rw [hmap]; exact hl)
  rw [hmap, List.length_map, hpl] at this
  refine this.mono ?_
  rintro e w' ⟨rfl, hb⟩
  exact ⟨β, _, rfl, rfl, hr.side hb⟩
/-- Where a byte stands first in a text. -/
def idxByteA : List AV → AHeap → Option (List V0 × AHeap)
  | [.c (.str s), .c (.int .u8 c)], H => if 0 ≤ c ∧ c < 256 then some ([.c (.int .i64 (idxL s.data.toList [UInt8.ofNat c.toNat]))], H) else none
  | _, _ => none
theorem nat_idxByte {P : Program} {f : FuncId} (F : FnOk P f) (h : ∀ (s : ByteArray) (c : Nat) (w : World), c < 256 → Calls P f #[.string s, .int .u8 c] w fun e w' => e = .returned (.int .i64 (idxL s.data.toList [UInt8.ofNat c])) ∧ w' = w) : NatOk P f 2 idxByteA := by
  intro args H vs H' hlen hφ B0 β w xs hr hv
  clear hlen
  obtain ⟨fn, f1, f2, f3⟩ := F.fn
  refine ⟨fn, f1, f2, f3, ?_⟩
  unfold idxByteA at hφ
  split at hφ
  case h_2 => simp at hφ
  rename_i s c
  split at hφ
  case isFalse => simp at hφ
  rename_i hc
  simp only [Option.some.injEq, Prod.mk.injEq] at hφ
  obtain ⟨rfl, rfl⟩ := hφ
  obtain ⟨x, y, rfl, rx, ry⟩ := vals2 hv
  have rx : x = .string s := rx
  have ry : y = .int .u8 c := ry
  subst rx; subst ry
  obtain ⟨m, rfl⟩ : ∃ m : Nat, c = m := ⟨c.toNat, by omega⟩
  refine (h s m w (by omega)).mono ?_
  rintro e w' ⟨rfl, rfl⟩
  exact ⟨β, _, rfl, rfl, .refl hr⟩
end Go.Proofs.YtmockobmiagbcaaDoor.VI

set_option linter.unusedVariables false
set_option linter.unusedSimpArgs false
set_option linter.unusedSectionVars false
namespace Go.Proofs.YtmockobmiagbcaaDoor.VI
open Go

/-! ### Heaps that begin as another one -/
abbrev Pre (H J : AHeap) : Prop := ∃ T, J = H ++ T
section
variable {H J K : AHeap} {i j : Nat} {b c : Blk} {x y : Option Blk}
theorem Pre.refl : Pre H H := ⟨[], by simp⟩
theorem Pre.trans (h : Pre H J) (k : Pre J K) : Pre H K := by
  obtain ⟨T, rfl⟩ := h; obtain ⟨U, rfl⟩ := k; exact ⟨T ++ U, by rw [List.append_assoc]⟩
theorem Pre.app (h : Pre H J) (t : List (Option Blk)) : Pre H (J ++ t) := h.trans ⟨t, rfl⟩
theorem pre_app {t : List (Option Blk)} : Pre H (H ++ t) := ⟨t, rfl⟩
theorem Pre.len (h : Pre H J) : H.length ≤ J.length := by obtain ⟨T, rfl⟩ := h; simp
theorem Pre.set (h : Pre H J) (hi : H.length ≤ i) : Pre H (J.set i x) := by
  obtain ⟨T, rfl⟩ := h
  rw [List.set_append, if_neg (by omega)]; exact ⟨_, rfl⟩
theorem Pre.get (h : Pre H J) (hg : H.get i = some b) : J.get i = some b := by
  obtain ⟨T, rfl⟩ := h; rw [get_appl (get_some_lt hg)]; exact hg
theorem Pre.lt (h : Pre H J) (hi : i < H.length) : i < J.length := Nat.lt_of_lt_of_le hi h.len
theorem finish_pre {v : AV} (h : Pre H J) (hp : v.plain = true) : finish true H v J = some (v, H) := by
  obtain ⟨T, rfl⟩ := h; exact finish_app hp
theorem get_ne (h : (i == j) = false) : AHeap.get (J.set j x) i = J.get i := by
  have h : ¬ j = i := fun e => by simp [e] at h
  unfold AHeap.get; rw [List.getElem?_set_ne h]
theorem get_neh (h : i ≠ j) : AHeap.get (J.set j x) i = J.get i := by
  unfold AHeap.get; rw [List.getElem?_set_ne (fun e => h e.symm)]
theorem set_comm_ne (h : i ≠ j) : (J.set i x).set j y = (J.set j y).set i x := List.set_comm _ _ h
theorem set_lt (h : i < J.length) : i < (J.set j x).length := by simpa using h
theorem app_lt {t : List (Option Blk)} (h : i < J.length) : i < (J ++ t).length := by simp; omega
end
theorem ev_nat1 {K : FuncId → Option KF} {f : FuncId} {np : Nat} {φ : List AV → AHeap → Option (List V0 × AHeap)} (hk : K f = some (kNat np 1 φ)) {args : List AV} {H H' : AHeap} {v : CV} (ha : args.length = np) (hd : args.all AV.isDef = true) (h : φ args H = some ([.c v], H')) : ev K f args H = some (.c v, H') :=
  ev_nat hk ha hd h rfl
/-- What has been appended so far, in a heap that begins as G. -/
def ApS (e : TypeId) (size : Nat) (G J : AHeap) (n : Nat) (cells : List CV) (v : AV) : Prop :=
  (n = 0 ∧ cells = [] ∧ ∃ q, v = .c (.slice q 0 (.exact 0))) ∨ (0 < n ∧ cells.length = n * size ∧ ∃ id, v = .c (.slice (some (id, 0)) n (.toEnd size)) ∧ G.length ≤ id ∧ J.get id = some ⟨e, cells, .opn⟩)
section
variable {e t : TypeId} {size bytes : Nat} {G J K : AHeap} {n m j : Nat} {cells cs : List CV} {v : AV} {bm : BM} {cap : Cap}
theorem ApS.pre (h : ApS e size G J n cells v) (k : Pre J K) : ApS e size G K n cells v := by
  rcases h with h | ⟨h1, h2, id, h3, h4, h5⟩
  · exact .inl h
  · exact .inr ⟨h1, h2, id, h3, h4, k.get h5⟩
theorem ApS.isC (h : ApS e size G J n cells v) : ∃ q cap, v = .c (.slice q n cap) := by
  rcases h with ⟨rfl, _, q, h⟩ | ⟨_, _, id, h, _⟩
  · exact ⟨_, _, h⟩
  · exact ⟨_, _, h⟩
theorem ApS.step (h : ApS e size G J n cells v) (hp : Pre G J) (hj : J.get j = some ⟨t, cs, bm⟩) (hm : 0 < m) (hlen : cs.length = m * size) (hb : (n + m) * bytes ≤ 70368744177664) (hok : cs.all CV.ok = true) :
    ∃ (v' : AV) (K : AHeap), appendA J e size bytes v (.c (.slice (some (j, 0)) m cap)) = some (v', K) ∧ Pre G K ∧ ApS e size G K (n + m) (cells ++ cs) v' ∧ (∀ k b, J.get k = some b → b.m = .own → K.get k = some b) ∧ J.length < K.length := by
  rcases h with ⟨rfl, rfl, q, rfl⟩ | ⟨h1, h2, id, rfl, h3, h4⟩
  · refine ⟨_, J ++ [some ⟨e, cs, .opn⟩], apnd_new hj hm hlen (by simpa using hb) hok, hp.app _, .inr ⟨by omega, by simpa using hlen, J.length, by rw [Nat.zero_add], hp.len, by rw [get_app0]; rfl⟩, fun k b hk _ => by rw [get_appl (get_some_lt hk)]; exact hk, by simp⟩
  · refine ⟨_, J.set id none ++ [some ⟨e, cells ++ cs, .opn⟩], apnd_ext h4 h2 h1 hj hm hlen hb hok, (hp.set h3).app _, .inr ⟨by omega, by rw [List.length_append, h2, hlen, Nat.add_mul], J.length, rfl, hp.len, by rw [get_apps0]; rfl⟩, fun k b hk ho => ?_, by simp⟩
    have : k ≠ id := fun e => by rw [e, h4] at hk; injection hk with hk; rw [← hk] at ho; cases ho
    rw [get_appl (by rw [List.length_set]; exact get_some_lt hk), get_neh this]; exact hk
end
end Go.Proofs.YtmockobmiagbcaaDoor.VI
