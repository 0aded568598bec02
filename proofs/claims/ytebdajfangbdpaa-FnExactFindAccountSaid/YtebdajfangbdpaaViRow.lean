/- An interpreter over an abstract heap, and its soundness over the machine: part Row. -/
import Derived.Test.YtebdajfangbdpaaViHeap
import Derived.ChangeArms
import Derived.OpenShut
import Derived.ChangeOld
import GoSem.ClaimJoined
import Derived.SizedLaws
set_option linter.unusedVariables false
set_option linter.unusedSimpArgs false
set_option linter.unusedSectionVars false
namespace Go.Proofs.Ytebdajfangbdpaa.VI
open Go Go.RowKit

/-! ### What arguments are read as -/
inductive Ty where
  | int (k : IntKind) | bool | str
  | sl (size bytes : Nat) (e : Ty)
  | ar (n size : Nat) (e : Ty)
  | st (fs : List Ty)

inductive ArgOk (H : AHeap) : Ty → List CV → Prop where
  | int {k : IntKind} {n : Int} (h : (Lit.int k n).wf = true) : ArgOk H (.int k) [.int k n]
  | bool {b : Bool} : ArgOk H .bool [.bool b]
  | str {s : ByteArray} (h : s.size ≤ reachBytes) : ArgOk H .str [.str s]
  | nil {size bytes : Nat} {e : Ty} : ArgOk H (.sl size bytes e) [.slice none 0 (.exact 0)]
  | sl {size bytes : Nat} {e : Ty} {id len : Nat} {t : TypeId} {elems : List (List CV)} (hb : 0 < len → H.get id = some ⟨t, elems.flatten, .ro⟩) (hl : elems.length = len) (hw : len * bytes ≤ reachBytes)
      (hz : ∀ p ∈ elems, p.length = size) (he : ∀ p ∈ elems, ArgOk H e p) : ArgOk H (.sl size bytes e) [.slice (some (id, 0)) len .any]
  | ar {n size : Nat} {e : Ty} {parts : List (List CV)} (hl : parts.length = n) (hz : ∀ p ∈ parts, p.length = size) (he : ∀ p ∈ parts, ArgOk H e p) : ArgOk H (.ar n size e) parts.flatten
  | st {fs : List Ty} {parts : List (List CV)} (hl : parts.length = fs.length) (he : ∀ (j : Nat) (f : Ty) (p : List CV), fs[j]? = some f → parts[j]? = some p → ArgOk H f p) : ArgOk H (.st fs) parts.flatten

theorem get_some_lt {H : AHeap} {i : Nat} {b : Blk} (h : H.get i = some b) : i < H.length := by
  unfold AHeap.get at h
  rcases Nat.lt_or_ge i H.length with h1 | h1
  · exact h1
  · rw [List.getElem?_eq_none h1] at h; simp at h
theorem ArgOk.app {H : AHeap} {ty : Ty} {cs : List CV} (h : ArgOk H ty cs) (T : List (Option Blk)) : ArgOk (H ++ T) ty cs := by
  induction h with
  | int h => exact .int h
  | bool => exact .bool
  | str h => exact .str h
  | nil => exact .nil
  | sl hb hl hw hz _ ih =>
    rename_i id len t elems _
    have hb' : 0 < len → AHeap.get (H ++ T) id = some ⟨t, elems.flatten, .ro⟩ := by
      intro h0
      have hb := hb h0
      have hlt := get_some_lt hb
      unfold AHeap.get at hb ⊢
      rw [List.getElem?_append_left hlt]; exact hb
    exact .sl hb' hl hw hz ih
  | ar hl hz _ ih => exact .ar hl hz ih
  | st hl _ ih => exact .st hl ih

/-- A type's reading. -/
def tysT (P : Program) (rec : TypeId → Option Ty) : Nat → List Field → Option (List Ty × Nat)
  | off, [] => some ([], off)
  | off, f :: r => if f.offset = off then match rec f.type, tysT P rec (off + P.cellsOf f.type) r with
    | some t, some l => some (t :: l.1, l.2)
    | _, _ => none
    else none
def tyT (P : Program) : Nat → TypeId → Option Ty
  | 0, _ => none
  | d + 1, t => match P.underlying t with
    | some .bool => some .bool
    | some (.int k) => some (.int k)
    | some .string => some .str
    | some (.slice e) => match tyT P d e with
      | some x => if 0 < P.cellsOf e then some (.sl (P.cellsOf e) (P.bytesOf e) x) else none
      | none => none
    | some (.array n e) => match tyT P d e with
      | some x => if P.cellsOf t = n * P.cellsOf e then some (.ar n (P.cellsOf e) x) else none
      | none => none
    | some (.struct fs) => match tysT P (tyT P d) 0 fs.toList with
      | some (l, n) => if P.cellsOf t = n then some (.st l) else none
      | none => none
    | _ => none

/-! ### Blocks that are only read -/
theorem HR.ro {B0 : Nat} {β : Beta} {H : AHeap} {W : World} (h : HR B0 β H W) {b o : Nat} (hb : b < B0) {cells : List CV} {xs : List Value} (hc : Cells β cells xs) {e : TypeId} (hx : ∀ (j : Nat) (x : Value), xs[j]? = some x → W.cell? ⟨b, o + j, none⟩ = some x) (k : Nat) :
    HR B0 (β ++ [(b, o, k)]) (H ++ [some ⟨e, cells, .ro⟩]) W := by
  have he : Ext β (β ++ [(b, o, k)]) := ⟨_, rfl⟩
  have hown : ∀ (i : Nat) (bi : Blk), (H ++ [some ⟨e, cells, .ro⟩])[i]? = some (some bi) → (bi.m = .own ∨ bi.m = .opn) → H[i]? = some (some bi) := by
    intro i bi hi hm
    rcases getElem?_snoc hi with hi | ⟨_, h2⟩
    · exact hi
    · simp at h2; subst h2; simp at hm
  refine ⟨by simp [h.len], h.base, fun i blk hi => ?_, fun i j bi bj b oi oj ki kj hi hj hmi hmj hbi hbj => ?_⟩
  · rcases getElem?_snoc hi with hi | ⟨hi2, hblk⟩
    · exact BlkRel.kept he (fun _ _ => rfl) (fun _ _ _ _ _ => rfl) (h.blk i blk hi)
    · simp at hblk; subst hblk; subst hi2
      refine .inl ⟨rfl, ⟨b, o, k, by rw [List.getElem?_append_right (by rw [h.len]; exact Nat.le_refl _), h.len]; simp, hb, fun j c hcj => ?_⟩⟩
      obtain ⟨x, h1, h2⟩ := hc.2 j c hcj
      exact ⟨x, hx j x h1, CV.rel_ext he h2⟩
  · have h1 := hown i bi hi hmi
    have h2 := hown j bj hj hmj
    have l1 : i < β.length := by rw [h.len]; exact (List.getElem?_eq_some_iff.1 h1).1
    have l2 : j < β.length := by rw [h.len]; exact (List.getElem?_eq_some_iff.1 h2).1
    rw [List.getElem?_append_left l1] at hbi
    rw [List.getElem?_append_left l2] at hbj
    exact h.inj i j bi bj b oi oj ki kj h1 h2 hmi hmj hbi hbj

/-! ### Reading what is passed -/
/-- These cells can be told. -/
def Opens (B0 : Nat) (W : World) (ty : Ty) (cs : List Value) : Prop :=
  ∀ (β : Beta) (H : AHeap), HR B0 β H W → ∃ (β' : Beta) (T : AHeap) (acs : List CV), Ext β β' ∧ HR B0 β' (H ++ T) W ∧ Cells β' acs cs ∧ ArgOk (H ++ T) ty acs

theorem opens_list {B0 : Nat} {W : World} : ∀ {l : List (Ty × List Value)}, (∀ x ∈ l, Opens B0 W x.1 x.2) → ∀ {β : Beta} {H : AHeap}, HR B0 β H W →
    ∃ (β' : Beta) (T : AHeap) (parts : List (List CV)), Ext β β' ∧ HR B0 β' (H ++ T) W ∧ parts.length = l.length ∧ ∀ (j : Nat) (x : Ty × List Value) (p : List CV), l[j]? = some x → parts[j]? = some p → Cells β' p x.2 ∧ ArgOk (H ++ T) x.1 p
  | [], _, β, H, h => ⟨β, [], [], .refl _, by simpa using h, rfl, fun j x p hx _ => by simp at hx⟩
  | y :: l, hl, β, H, h => by
    obtain ⟨β1, T1, a1, e1, h1, c1, o1⟩ := hl y (by simp) β H h
    obtain ⟨β2, T2, parts, e2, h2, len2, c2⟩ := opens_list (l := l) (fun x hx => hl x (by simp [hx])) h1
    rw [List.append_assoc] at h2
    refine ⟨β2, T1 ++ T2, a1 :: parts, e1.trans e2, h2, by simp [len2], ?_⟩
    intro j x p hx hp
    cases j with
    | zero =>
      simp at hx hp; subst hx; subst hp
      refine ⟨c1.ext e2, ?_⟩
      have := o1.app T2
      rw [List.append_assoc] at this; exact this
    | succ j =>
      simp at hx hp
      have := c2 j x p hx hp
      rw [List.append_assoc] at this; exact this

theorem cells_flatten {β : Beta} : ∀ {parts : List (List CV)} {vss : List (List Value)}, parts.length = vss.length → (∀ (j : Nat) (p : List CV) (v : List Value), parts[j]? = some p → vss[j]? = some v → Cells β p v) → Cells β parts.flatten vss.flatten
  | [], [], _, _ => Cells.nil β
  | [], _ :: _, h, _ => by simp at h
  | _ :: _, [], h, _ => by simp at h
  | p :: parts, v :: vss, h, hc => by
    simp only [List.flatten_cons]
    exact (hc 0 p v rfl rfl).append (cells_flatten (by simpa using h) fun j p v hp hv => hc (j + 1) p v (by simpa using hp) (by simpa using hv))

theorem chunks {α : Type} (cs : List α) (s : Nat) : ∀ n, ((List.range n).map fun i => (cs.drop (i * s)).take s).flatten = cs.take (n * s)
  | 0 => by simp
  | n + 1 => by
    rw [List.range_succ, List.map_append, List.flatten_append, chunks cs s n]
    simp only [List.map_cons, List.map_nil, List.flatten_cons, List.flatten_nil, List.append_nil]
    rw [Nat.succ_mul, List.take_add]

theorem rflat_len {α : Type} {g : Nat → List α} {s : Nat} : ∀ n, (∀ i, i < n → (g i).length = s) → ((List.range n).map g).flatten.length = n * s
  | 0, _ => by simp
  | n + 1, h => by
    rw [List.range_succ, List.map_append, List.flatten_append, List.length_append, rflat_len n (fun i hi => h i (by omega))]
    simp [h n (by omega), Nat.succ_mul]
theorem rflat_get {α : Type} {g : Nat → List α} {s : Nat} : ∀ n, (∀ i, i < n → (g i).length = s) → ∀ (j : Nat) (x : α), ((List.range n).map g).flatten[j]? = some x → ∃ i k, i < n ∧ k < s ∧ j = i * s + k ∧ (g i)[k]? = some x
  | 0, _, j, x, h => by simp at h
  | n + 1, hg, j, x, h => by
    have hlen := rflat_len n (fun i hi => hg i (by omega))
    rw [List.range_succ, List.map_append, List.flatten_append] at h
    simp only [List.map_cons, List.map_nil, List.flatten_cons, List.flatten_nil, List.append_nil] at h
    by_cases hj : j < n * s
    · rw [List.getElem?_append_left (by rw [hlen]; exact hj)] at h
      obtain ⟨i, k, h1, h2, h3, h4⟩ := rflat_get n (fun i hi => hg i (by omega)) j x h
      exact ⟨i, k, by omega, h2, h3, h4⟩
    · rw [List.getElem?_append_right (by rw [hlen]; omega), hlen] at h
      have hk := (List.getElem?_eq_some_iff.1 h).1
      rw [hg n (by omega)] at hk
      exact ⟨n, j - n * s, by omega, hk, by omega, h⟩

theorem chunksF {P : Program} {rec : TypeId → Option Ty} (cs : List Value) : ∀ {fs : List Field} {off n : Nat} {l : List Ty}, tysT P rec off fs = some (l, n) → off ≤ n ∧ l.length = fs.length ∧ (fs.map fun f => (cs.drop f.offset).take (P.cellsOf f.type)).flatten = (cs.drop off).take (n - off)
  | [], off, n, l, h => by simp [tysT] at h; obtain ⟨rfl, rfl⟩ := h; simp
  | f :: fs, off, n, l, h => by
    unfold tysT at h
    split at h
    case isFalse => simp at h
    rename_i ho
    split at h
    case h_2 => simp at h
    rename_i t l' h1 h2
    simp at h
    obtain ⟨rfl, rfl⟩ := h
    obtain ⟨le, hlen, hfl⟩ := chunksF cs h2
    refine ⟨by omega, by simp [hlen], ?_⟩
    simp only [List.map_cons, List.flatten_cons, hfl]
    rw [ho]
    have : l'.2 - off = P.cellsOf f.type + (l'.2 - (off + P.cellsOf f.type)) := by omega
    rw [this, List.take_add, List.drop_drop]

theorem tysT_get {P : Program} {rec : TypeId → Option Ty} : ∀ {fs : List Field} {off n : Nat} {l : List Ty}, tysT P rec off fs = some (l, n) → ∀ (j : Nat) (f : Field) (t : Ty), fs[j]? = some f → l[j]? = some t → rec f.type = some t
  | [], off, n, l, h, j, f, t, hf, _ => by simp at hf
  | g :: fs, off, n, l, h, j, f, t, hf, ht => by
    unfold tysT at h
    split at h
    case isFalse => simp at h
    split at h
    case h_2 => simp at h
    rename_i t' l' h1 h2
    simp at h
    obtain ⟨rfl, rfl⟩ := h
    cases j with
    | zero => simp at hf ht; subst hf; subst ht; exact h1
    | succ j => simp at hf ht; exact tysT_get h2 j f t hf ht

theorem weightsAll_mem {H : Type} {P : Program} {e : TypeId} : ∀ {l : List (DataW H)} {d : DataW H}, d ∈ l → ∀ n ∈ d.weights P e, n ∈ DataW.weightsAll P e l
  | [], _, h, _, _ => by simp at h
  | x :: l, d, h, n, hn => by
    simp only [DataW.weightsAll, List.mem_append]
    rcases List.mem_cons.1 h with rfl | h
    · exact .inl hn
    · exact .inr (weightsAll_mem h n hn)

theorem cells?_some {w : World} {a : Addr} {n : Nat} {vs : List Value} (h : w.cells? 0 a n = some vs) : vs.length = n ∧ ∀ i, i < n → w.cell? (a.add i) = vs[i]? := by
  unfold World.cells? at h
  rw [if_pos (Nat.zero_le _)] at h
  refine ⟨by simpa using mapM_some_length h, fun i hi => mapM_some_get h i i (by simp [hi])⟩
theorem cell?_lt {w : World} {a : Addr} {x : Value} (h : w.cell? a = some x) : a.block < w.heap.size ∧ a.spot = none := by
  unfold World.cell? at h
  split at h
  · rename_i hb
    refine ⟨(Array.getElem?_eq_some_iff.1 hb).1, ?_⟩
    cases hs : a.spot with
    | none => rfl
    | some z => rw [hs] at h; simp at h
  · simp at h
theorem add_add (a : Addr) (hs : a.spot = none) (n : Nat) : a.add n = ⟨a.block, a.off + n, none⟩ := by
  unfold Addr.add
  split
  · rename_i h; subst h; cases a; simp at hs; simp [hs]
  · rfl

section
variable {H0 : Type} {enc : TypeId × Value → H0} {P : Program} {W : World}

theorem opens {m : Nat} : ∀ {ty : Ty} {t : TypeId} {fuel : Nat} {cs : List Value} {d : DataW H0} {ps : List MemPlace}, tyT P m t = some ty → DataW.trod enc P W 0 (fun _ => true) true fuel t cs = some (d, ps) →
    (∀ n ∈ d.weights P t, n ≤ reachBytes) → Opens W.heap.size W ty cs := by
  induction m with
  | zero => intro ty t fuel cs d ps h; simp [tyT] at h
  | succ m ih =>
    intro ty t fuel cs d ps h ht hw
    have hf : ∃ f, fuel = f + 1 := by
      cases fuel with
      | zero => simp [DataW.trod] at ht
      | succ f => exact ⟨f, rfl⟩
    obtain ⟨f, rfl⟩ := hf
    unfold tyT at h
    split at h
    · -- bool
      rename_i hu
      simp at h; subst h
      unfold DataW.trod at ht
      rw [hu] at ht
      split at ht <;> simp_all
      intro β H hr
      exact ⟨β, [], [.bool _], .refl _, by simpa using hr, Cells.one rfl, .bool⟩
    · -- int
      rename_i k hu
      simp at h; subst h
      unfold DataW.trod at ht
      rw [hu] at ht
      split at ht <;> simp_all
      obtain ⟨⟨rfl, hwf⟩, _⟩ := ht
      intro β H hr
      exact ⟨β, [], [.int _ _], .refl _, by simpa using hr, Cells.one rfl, .int hwf⟩
    · -- string
      rename_i hu
      simp at h; subst h
      unfold DataW.trod at ht
      rw [hu] at ht
      split at ht <;> simp_all
      obtain ⟨_, rfl, rfl⟩ := ht
      intro β H hr
      exact ⟨β, [], [.str _], .refl _, by simpa using hr, Cells.one rfl, .str (by simpa [DataW.weights] using hw)⟩
    · -- slice
      rename_i e hu
      split at h
      case h_2 => simp at h
      rename_i te he
      split at h
      case isFalse => simp at h
      rename_i hpos
      simp at h; subst h
      rcases DataW.trod_slice hu ht with ⟨rfl, hx⟩ | ⟨a, len, cap, elems, rest, n, _, rfl, hx, _, hlc, _, hlen, hel, _, _⟩
      · intro β H hr
        exact ⟨β, [], [.slice none 0 (.exact 0)], .refl _, by simpa using hr, Cells.one ⟨rfl, rfl⟩, .nil⟩
      · obtain ⟨rfl, _⟩ := Prod.mk.inj hx
        -- the elements' cells
        have hex : ∀ i, i < len → ∃ vs x, W.cells? 0 (a.add (i * P.cellsOf e)) (P.cellsOf e) = some vs ∧ DataW.trod enc P W 0 (fun _ => true) true n e vs = some x ∧ elems[i]? = some x := by
          intro i hi
          have h1 := hel i hi
          rw [List.getElem?_eq_getElem (by omega)] at h1
          simp only [Option.bind_eq_some_iff] at h1
          obtain ⟨vs, h2, h3⟩ := h1
          exact ⟨vs, _, h2, h3, List.getElem?_eq_getElem (by omega)⟩
        let cellsAt (i : Nat) : List Value := (W.cells? 0 (a.add (i * P.cellsOf e)) (P.cellsOf e)).getD []
        intro β H hr
        have hall : ∀ x ∈ (List.range len).map (fun i => (te, cellsAt i)), Opens W.heap.size W x.1 x.2 := by
          intro x hx
          simp only [List.mem_map, List.mem_range] at hx
          obtain ⟨i, hi, rfl⟩ := hx
          obtain ⟨vs, y, h1, h2, h3⟩ := hex i hi
          have : cellsAt i = vs := by simp [cellsAt, h1]
          simp only [this]
          refine ih he h2 fun w hw' => hw w ?_
          simp only [DataW.weights, hu, List.mem_cons, List.mem_append]
          refine .inr (.inl (weightsAll_mem (d := y.1) ?_ w hw'))
          exact List.mem_map.2 ⟨y, List.mem_of_getElem? h3, rfl⟩
        obtain ⟨β', T, parts, e1, hr1, hplen, hp⟩ := opens_list hall hr
        have hplen' : parts.length = len := by simpa using hplen
        have hp' : ∀ i p, i < len → parts[i]? = some p → Cells β' p (cellsAt i) ∧ ArgOk (H ++ T) te p := by
          intro i p hi hpi
          exact hp i (te, cellsAt i) p (by simp [hi]) hpi
        have hsz : ∀ i, i < len → (cellsAt i).length = P.cellsOf e := by
          intro i hi
          obtain ⟨vs, y, h1, _, _⟩ := hex i hi
          simp [cellsAt, h1, (cells?_some h1).1]
        have hpsz : ∀ p ∈ parts, p.length = P.cellsOf e := by
          intro p hp0
          obtain ⟨i, hi⟩ := List.getElem?_of_mem hp0
          have hil : i < len := by have := (List.getElem?_eq_some_iff.1 hi).1; omega
          rw [(hp' i p hil hi).1.1]; exact hsz i hil
        -- where it lies
        by_cases h0 : len = 0
        · subst h0
          have hpe : parts = [] := List.length_eq_zero_iff.1 hplen'
          subst hpe
          exact ⟨β', T, [.slice (some (0, 0)) 0 .any], e1, hr1, Cells.one ⟨a, cap, fun h => by simp [needsAddr] at h, fun h => by simp [needsAddr] at h, rfl, Nat.zero_le _, trivial⟩, .sl (t := 0) (elems := []) (fun h => absurd h (by simp)) rfl (by simp) (fun p hp => by simp at hp) (fun p hp => by simp at hp)⟩
        · have hlp : 0 < len := by omega
          obtain ⟨vs0, x0, h1, _, _⟩ := hex 0 hlp
          obtain ⟨hl0, hc0⟩ := cells?_some h1
          have hcell0 := hc0 0 hpos
          rw [List.getElem?_eq_getElem (by omega)] at hcell0
          have hadd0 : (a.add (0 * P.cellsOf e)).add 0 = a := by simp [Addr.add]
          rw [hadd0] at hcell0
          obtain ⟨hblt, hsp⟩ := cell?_lt hcell0
          have hcell : ∀ (j : Nat) (x : Value), ((List.range len).map cellsAt).flatten[j]? = some x → W.cell? ⟨a.block, a.off + j, none⟩ = some x := by
            intro j x hj
            obtain ⟨i, k, hi, hk, rfl, hx⟩ := rflat_get len hsz j x hj
            obtain ⟨vs, y, h1, _, _⟩ := hex i hi
            have e1 : cellsAt i = vs := by simp [cellsAt, h1]
            rw [e1] at hx
            have := (cells?_some h1).2 k hk
            rw [add_add a hsp, add_add _ rfl, hx] at this
            simp only at this
            rw [← Nat.add_assoc]; exact this
          have hcf : Cells β' parts.flatten ((List.range len).map cellsAt).flatten := by
            refine cells_flatten (by simp [hplen']) fun j p v hp0 hv => ?_
            have hj : j < len := by have := (List.getElem?_eq_some_iff.1 hp0).1; omega
            have : v = cellsAt j := by simp [hj] at hv; exact hv.symm
            subst this
            exact (hp' j p hj hp0).1
          refine ⟨β' ++ [(a.block, a.off, 0)], T ++ [some ⟨0, parts.flatten, .ro⟩], _, e1.trans ⟨_, rfl⟩, ?_, Cells.one (c := .slice (some ((H ++ T).length, 0)) len .any) ⟨a, cap, fun _ => ?_, fun _ => hsp, rfl, hlc, trivial⟩, ?_⟩
          · rw [← List.append_assoc]
            exact hr1.ro hblt hcf hcell 0
          · refine ⟨a.block, a.off, 0, ?_, by cases a; simp at hsp; simp [hsp]⟩
            rw [← hr1.len, List.getElem?_append_right (Nat.le_refl _)]
            simp
          · refine .sl (t := 0) (elems := parts) ?_ hplen' ?_ hpsz ?_
            · intro _
              rw [← List.append_assoc]
              unfold AHeap.get
              rw [List.getElem?_append_right (Nat.le_refl _)]
              simp
            · have := hw ((elems.length + rest.length) * P.bytesOf e) (by simp [DataW.weights, hu])
              rw [hlen] at this
              exact Nat.le_trans (Nat.mul_le_mul_right _ (Nat.le_add_right _ _)) this
            · intro p hp0
              obtain ⟨i, hi⟩ := List.getElem?_of_mem hp0
              have hil : i < len := by have := (List.getElem?_eq_some_iff.1 hi).1; omega
              rw [← List.append_assoc]
              exact (hp' i p hil hi).2.app _
    · -- array
      rename_i n e hu
      split at h
      case h_2 => simp at h
      rename_i te he
      split at h
      case isFalse => simp at h
      rename_i hn
      simp at h; subst h
      obtain ⟨xs, f', _, hx, hl, hlx, hi⟩ := DataW.trod_array hu ht
      obtain ⟨rfl, _⟩ := Prod.mk.inj hx
      intro β H hr
      have hall : ∀ x ∈ (List.range n).map (fun i => (te, (cs.drop (i * P.cellsOf e)).take (P.cellsOf e))), Opens W.heap.size W x.1 x.2 := by
        intro x hx
        simp only [List.mem_map, List.mem_range] at hx
        obtain ⟨i, hin, rfl⟩ := hx
        have h1 := hi i hin
        rw [List.getElem?_eq_getElem (by omega)] at h1
        refine ih he h1 fun w hw' => hw w ?_
        simp only [DataW.weights, hu]
        exact weightsAll_mem (List.mem_map.2 ⟨_, List.getElem_mem _, rfl⟩) w hw'
      obtain ⟨β', T, parts, e1, hr1, hplen, hp⟩ := opens_list hall hr
      have hplen' : parts.length = n := by simpa using hplen
      have hp' : ∀ i p, i < n → parts[i]? = some p → Cells β' p ((cs.drop (i * P.cellsOf e)).take (P.cellsOf e)) ∧ ArgOk (H ++ T) te p := by
        intro i p hin hpi
        exact hp i (te, (cs.drop (i * P.cellsOf e)).take (P.cellsOf e)) p (by simp [hin]) hpi
      have hcf : Cells β' parts.flatten cs := by
        have := cells_flatten (β := β') (parts := parts) (vss := (List.range n).map fun i => (cs.drop (i * P.cellsOf e)).take (P.cellsOf e)) (by simp [hplen']) fun j p v hp0 hv => by
          have hj : j < n := by have := (List.getElem?_eq_some_iff.1 hp0).1; omega
          have : v = (cs.drop (j * P.cellsOf e)).take (P.cellsOf e) := by simp [hj] at hv; exact hv.symm
          subst this
          exact (hp' j p hj hp0).1
        rw [chunks, ← hn, ← hl, List.take_length] at this
        exact this
      refine ⟨β', T, _, e1, hr1, hcf, .ar hplen' ?_ ?_⟩
      · intro p hp0
        obtain ⟨i, hi'⟩ := List.getElem?_of_mem hp0
        have hil : i < n := by have := (List.getElem?_eq_some_iff.1 hi').1; omega
        rw [(hp' i p hil hi').1.1, List.length_take, List.length_drop, hl, hn]
        have : i * P.cellsOf e + P.cellsOf e ≤ n * P.cellsOf e := by rw [← Nat.succ_mul]; exact Nat.mul_le_mul_right _ hil
        omega
      · intro p hp0
        obtain ⟨i, hi'⟩ := List.getElem?_of_mem hp0
        have hil : i < n := by have := (List.getElem?_eq_some_iff.1 hi').1; omega
        exact (hp' i p hil hi').2
    · -- struct
      rename_i fs hu
      split at h
      case h_2 => simp at h
      rename_i l n hts
      split at h
      case isFalse => simp at h
      rename_i hn
      simp at h; subst h
      obtain ⟨xs, f', _, hx, hl, hlx, hi⟩ := DataW.trod_struct hu ht
      obtain ⟨rfl, _⟩ := Prod.mk.inj hx
      obtain ⟨_, hlen, hfl⟩ := chunksF cs hts
      intro β H hr
      have hlf : l.length = fs.size := by simpa using hlen
      let L : List (Ty × List Value) := List.zip l (fs.toList.map fun f => (cs.drop f.offset).take (P.cellsOf f.type))
      have hLlen : L.length = l.length := by simp [L, hlf]
      have hLget : ∀ (j : Nat) (x : Ty × List Value), L[j]? = some x → ∃ f, fs[j]? = some f ∧ l[j]? = some x.1 ∧ x.2 = (cs.drop f.offset).take (P.cellsOf f.type) := by
        intro j x hx
        simp only [L, List.getElem?_zip_eq_some, List.getElem?_map, Option.map_eq_some_iff] at hx
        obtain ⟨h1, f, h2, h3⟩ := hx
        exact ⟨f, by simpa using h2, h1, h3.symm⟩
      have hall : ∀ x ∈ L, Opens W.heap.size W x.1 x.2 := by
        intro x hx
        obtain ⟨j, hj⟩ := List.getElem?_of_mem hx
        obtain ⟨f, h1, h2, h3⟩ := hLget j x hj
        have h4 := hi j f h1
        have hjl : j < xs.length := by rw [hlx]; exact (Array.getElem?_eq_some_iff.1 h1).1
        rw [List.getElem?_eq_getElem hjl] at h4
        rw [h3]
        refine ih (tysT_get hts j f x.1 (by simpa using h1) h2) h4 fun w hw' => hw w ?_
        simp only [DataW.weights, hu]
        exact DataW.weights_mem_each (j := j) (t := f.type) (by simp [h1]) (by simp [hjl]) w hw'
      obtain ⟨β', T, parts, e1, hr1, hplen, hp⟩ := opens_list hall hr
      have hplen' : parts.length = l.length := by rw [hplen, hLlen]
      have hcf : Cells β' parts.flatten cs := by
        have := cells_flatten (β := β') (parts := parts) (vss := fs.toList.map fun f => (cs.drop f.offset).take (P.cellsOf f.type)) (by simp [hplen', hlf]) fun j p v hp0 hv => by
          have hj : j < L.length := by have := (List.getElem?_eq_some_iff.1 hp0).1; omega
          obtain ⟨f, h1, h2, h3⟩ := hLget j L[j] (List.getElem?_eq_getElem hj)
          have : v = L[j].2 := by
            rw [h3]
            simp [h1] at hv; exact hv.symm
          subst this
          exact (hp j L[j] p (List.getElem?_eq_getElem hj) hp0).1
        rw [hfl, List.drop_zero, Nat.sub_zero, ← hn, ← hl, List.take_length] at this
        exact this
      refine ⟨β', T, _, e1, hr1, hcf, .st hplen' ?_⟩
      intro j ty p hj hp0
      have hjL : j < L.length := by rw [hLlen]; exact (List.getElem?_eq_some_iff.1 hj).1
      obtain ⟨f, h1, h2, h3⟩ := hLget j L[j] (List.getElem?_eq_getElem hjL)
      have := (hp j L[j] p (List.getElem?_eq_getElem hjL) hp0).2
      rw [h2] at hj
      simp at hj; subst hj
      exact this
    · simp at h
end
end Go.Proofs.Ytebdajfangbdpaa.VI
