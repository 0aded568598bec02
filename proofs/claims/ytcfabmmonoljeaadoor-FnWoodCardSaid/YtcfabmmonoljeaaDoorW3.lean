/- What functions of the program answer: parts W3 Few3. -/
import Derived.Test.YtcfabmmonoljeaaDoorFew2
import Derived.Test.YtcfabmmonoljeaaDoorWood2
import Derived.Test.YtcfabmmonoljeaaDoorCount
import Derived.Test.YtcfabmmonoljeaaDoorChance
import Derived.Test.YtcfabmmonoljeaaDoorR7
import Derived.Test.YtcfabmmonoljeaaDoorTam3
/- What functions of the program answer: part W3. -/
set_option linter.unusedVariables false
set_option linter.unusedSimpArgs false
set_option linter.unusedSectionVars false
namespace Go.Proofs.YtcfabmmonoljeaaDoor
open Go Go.Proofs.YtcfabmmonoljeaaDoor.VI
set_option maxHeartbeats 4000000
set_option maxRecDepth 20000
/-! How many bits -/
theorem u64_rng {x : Int} : 0 ≤ IntKind.u64.wrap x ∧ IntKind.u64.wrap x < 18446744073709551616 := by
  have e : IntKind.u64.wrap x = x % 18446744073709551616 := by simp [IntKind.wrap, IntKind.bits, IntKind.signed]
  rw [e]; omega
theorem setB_rng {w : List Int} (h : ∀ x ∈ w, 0 ≤ x ∧ x < 18446744073709551616) {s : Int} : ∀ x ∈ setB w s, 0 ≤ x ∧ x < 18446744073709551616 := by
  intro x hx
  unfold setB at hx
  rcases List.mem_or_eq_of_mem_set hx with h1 | h1
  · exact h x h1
  · rw [h1]; exact u64_rng
theorem wdN_rng : ∀ (k : Nat) (s : Int) (w : List Int) (_ : ∀ x ∈ w, 0 ≤ x ∧ x < 18446744073709551616), ∀ x ∈ wdN k s w, 0 ≤ x ∧ x < 18446744073709551616
  | 0, _, _, h => h
  | k + 1, s, w, h => wdN_rng k (s + 1) (setB w s) (setB_rng h)
theorem wdL_rng : ∀ (xs : List Nt) (w : List Int) (_ : ∀ x ∈ w, 0 ≤ x ∧ x < 18446744073709551616), ∀ x ∈ wdL xs w, 0 ≤ x ∧ x < 18446744073709551616
  | [], _, h => h
  | x :: xs, w, h => wdL_rng xs _ (wdN_rng _ _ _ h)
theorem wdF_rng {h : Hf} : ∀ x ∈ wdF h, 0 ≤ x ∧ x < 18446744073709551616 := wdL_rng _ _ (by intro x hx; simp at hx; omega)
/-- A bit of a number. -/
def bt (x : Nat) (i : Nat) : Bool := decide (x / 2 ^ i % 2 = 1)
theorem bt_0 {x : Nat} : bt x 0 = decide (x % 2 = 1) := by unfold bt; simp
theorem bt_s {x i : Nat} : bt x (i + 1) = bt (x / 2) i := by
  unfold bt
  rw [Nat.pow_succ, Nat.mul_comm, Nat.div_div_eq_div_mul]
theorem pc_le : ∀ (n x y : Nat), (∀ i, i < n → bt x i = true → bt y i = true) → pcN n x ≤ pcN n y
  | 0, _, _, _ => Nat.le_refl _
  | n + 1, x, y, h => by
    have ih := pc_le n (x / 2) (y / 2) (fun i hi hb => by
      have := h (i + 1) (by omega) (by rw [bt_s]; exact hb)
      rwa [bt_s] at this)
    have h0 := h 0 (by omega)
    rw [bt_0, bt_0] at h0
    simp only [decide_eq_true_eq] at h0
    show x % 2 + pcN n (x / 2) ≤ y % 2 + pcN n (y / 2)
    omega
theorem pc_lt : ∀ (n x y : Nat), (∀ i, i < n → bt x i = true → bt y i = true) → (∃ i, i < n ∧ bt y i = true ∧ bt x i = false) → pcN n x < pcN n y
  | 0, _, _, _, ⟨i, hi, _⟩ => absurd hi (by omega)
  | n + 1, x, y, h, ⟨i, hi, h1, h2⟩ => by
    have hs : ∀ i, i < n → bt (x / 2) i = true → bt (y / 2) i = true := fun i hi hb => by
      have := h (i + 1) (by omega) (by rw [bt_s]; exact hb)
      rwa [bt_s] at this
    have h0 := h 0 (by omega)
    rw [bt_0, bt_0] at h0
    simp only [decide_eq_true_eq] at h0
    show x % 2 + pcN n (x / 2) < y % 2 + pcN n (y / 2)
    cases i with
    | zero =>
      rw [bt_0] at h1 h2
      simp only [decide_eq_true_eq, decide_eq_false_iff_not] at h1 h2
      have := pc_le n _ _ hs
      omega
    | succ i =>
      rw [bt_s] at h1 h2
      have := pc_lt n _ _ hs ⟨i, by omega, h1, h2⟩
      omega
theorem bv_bt {x : Int} (h : 0 ≤ x ∧ x < 18446744073709551616) {i : Nat} (hi : i < 64) : (BitVec.ofInt 64 x).getLsbD i = bt x.toNat i := by
  obtain ⟨n, rfl⟩ : ∃ n : Nat, x = n := ⟨x.toNat, by omega⟩
  rw [BitVec.ofInt_natCast, BitVec.getLsbD_ofNat, Int.toNat_natCast]
  unfold bt
  rw [decide_eq_true hi, Bool.true_and, Nat.testBit_eq_decide_div_mod_eq]
/-- The words as natural numbers. -/
theorem words {h : Hf} : ∃ w : List Nat, w.length = 4 ∧ (∀ x ∈ w, x < 18446744073709551616) ∧ wrow (wdF h) = urow w ∧ ∀ j, j < 256 → tb (wdF h) j = bt (w.getD (j / 64) 0) (j % 64) := by
  have hr := wdF_rng (h := h)
  have hl := wdF_len (h := h)
  generalize wdF h = v at *
  match v, hl with
  | [a, b, c, d], _ =>
    have ha := hr a (by simp)
    have hb := hr b (by simp)
    have hc := hr c (by simp)
    have hd := hr d (by simp)
    refine ⟨[a.toNat, b.toNat, c.toNat, d.toNat], rfl, fun x hx => ?_, ?_, fun j hj => ?_⟩
    · simp at hx; omega
    · simp only [wrow, urow, List.map_cons, List.map_nil]
      rw [Int.toNat_of_nonneg ha.1, Int.toNat_of_nonneg hb.1, Int.toNat_of_nonneg hc.1, Int.toNat_of_nonneg hd.1]
    · unfold tb
      have hm : j % 64 < 64 := Nat.mod_lt _ (by decide)
      have hq : j / 64 = 0 ∨ j / 64 = 1 ∨ j / 64 = 2 ∨ j / 64 = 3 := by omega
      rcases hq with e | e | e | e <;> rw [e]
      · exact bv_bt ha hm
      · exact bv_bt hb hm
      · exact bv_bt hc hm
      · exact bv_bt hd hm
theorem wcn_lt {w v : List Nat} (hw : w.length = 4) (hv : v.length = 4) (h : ∀ j, j < 256 → bt (w.getD (j / 64) 0) (j % 64) = true → bt (v.getD (j / 64) 0) (j % 64) = true) (hx : ∃ j, j < 256 ∧ bt (v.getD (j / 64) 0) (j % 64) = true ∧ bt (w.getD (j / 64) 0) (j % 64) = false) : wcn w < wcn v := by
  match w, v, hw, hv with
  | [a, b, c, d], [e, f, g, k], _, _ =>
    have hs : ∀ (q : Nat) (_ : q < 4) (i : Nat), i < 64 → bt (([a, b, c, d] : List Nat).getD q 0) i = true → bt (([e, f, g, k] : List Nat).getD q 0) i = true := fun q hq i hi hb => by
      have := h (64 * q + i) (by omega)
      rw [show (64 * q + i) / 64 = q by omega, show (64 * q + i) % 64 = i by omega] at this
      exact this hb
    have l0 := pc_le 64 a e (fun i hi hb => hs 0 (by omega) i hi hb)
    have l1 := pc_le 64 b f (fun i hi hb => hs 1 (by omega) i hi hb)
    have l2 := pc_le 64 c g (fun i hi hb => hs 2 (by omega) i hi hb)
    have l3 := pc_le 64 d k (fun i hi hb => hs 3 (by omega) i hi hb)
    obtain ⟨j, hj, h1, h2⟩ := hx
    have hm : j % 64 < 64 := Nat.mod_lt _ (by decide)
    rw [wcn_cons, wcn_cons, wcn_cons, wcn_cons, wcn_cons, wcn_cons, wcn_cons, wcn_cons]
    have hq : j / 64 = 0 ∨ j / 64 = 1 ∨ j / 64 = 2 ∨ j / 64 = 3 := by omega
    rcases hq with q | q | q | q <;> rw [q] at h1 h2
    · have := pc_lt 64 a e (fun i hi hb => hs 0 (by omega) i hi hb) ⟨_, hm, h1, h2⟩; omega
    · have := pc_lt 64 b f (fun i hi hb => hs 1 (by omega) i hi hb) ⟨_, hm, h1, h2⟩; omega
    · have := pc_lt 64 c g (fun i hi hb => hs 2 (by omega) i hi hb) ⟨_, hm, h1, h2⟩; omega
    · have := pc_lt 64 d k (fun i hi hb => hs 3 (by omega) i hi hb) ⟨_, hm, h1, h2⟩; omega
/-- What a tamper does to the wood. -/
theorem wood_more {x y : Hf} (ox : okF x = true) (oy : okF y = true) {t : Tm} (h : (tmR x.pr t).2 = 0) (ey : y.pr = (tmR x.pr t).1) :
    inWl (wdF x) (wdF y) = true ∧ inWl (wdF y) (wdF x) = false := by
  have hp : okP x.pr = true := ox
  obtain ⟨h1, j, hj, h2, h3⟩ := tm_cov hp h
  have exs : y.xs = (tmR x.pr t).1.xs := by rw [← ey]
  rw [← exs] at h1 h2
  constructor
  · exact inWl_iff.2 fun j _ hb => by rw [tb_wdF ox] at hb; rw [tb_wdF oy]; exact h1 j hb
  · cases hc : inWl (wdF y) (wdF x)
    · rfl
    · have := inWl_iff.1 hc j hj (by rw [tb_wdF oy]; exact h2)
      rw [tb_wdF ox] at this
      exact absurd (this.symm.trans h3) (by decide)
theorem count_more {x y : Hf} (ox : okF x = true) (oy : okF y = true) {t : Tm} (h : (tmR x.pr t).2 = 0) (ey : y.pr = (tmR x.pr t).1) {w v : List Nat} (hw : w.length = 4) (hv : v.length = 4) (hx : ∀ j, j < 256 → tb (wdF x) j = bt (w.getD (j / 64) 0) (j % 64)) (hy : ∀ j, j < 256 → tb (wdF y) j = bt (v.getD (j / 64) 0) (j % 64)) : wcn w < wcn v := by
  have hp : okP x.pr = true := ox
  obtain ⟨h1, j, hj, h2, h3⟩ := tm_cov hp h
  have exs : y.xs = (tmR x.pr t).1.xs := by rw [← ey]
  rw [← exs] at h1 h2
  refine wcn_lt hw hv (fun j hj hb => ?_) ⟨j, hj, ?_, ?_⟩
  · rw [← hx j hj, tb_wdF ox] at hb
    rw [← hy j hj, tb_wdF oy]; exact h1 j hb
  · rw [← hy j hj, tb_wdF oy]; exact h2
  · rw [← hx j hj, tb_wdF ox]; exact h3
/-- Such a tamper can be told, and is read from its text. -/
theorem tm_isT {p : Pr} (hp : okP p = true) {t : Tm} (h : (tmR p t).2 = 0) : isT t = true := by
  have hf := (okH_p hp).1
  unfold tmR at h
  unfold isT
  apply decide_eq_true
  by_cases k1 : t.k = 1
  · rw [if_pos k1] at h
    by_cases i0 : t.ix = 0
    · rw [if_pos i0] at h
      unfold cnR at h
      by_cases c : (0 ≤ t.to ∧ t.to ≤ 5) ∧ 0 ≤ t.at_ ∧ t.at_ ≤ 200
      · exact ⟨c.1, .inl ⟨k1, i0, c.2⟩⟩
      · rw [if_neg c] at h; exact absurd h (by decide)
    · rw [if_neg i0] at h; exact absurd h (by decide)
  · rw [if_neg k1] at h
    by_cases k2 : t.k = 2
    · rw [if_pos k2] at h
      unfold wiR at h
      by_cases c : t.at_ = 0 ∧ (0 ≤ t.to ∧ t.to ≤ 5) ∧ 0 ≤ t.ix ∧ t.ix < p.xs.length
      · exact ⟨c.2.1, .inr ⟨k2, c.1, c.2.2.1, by omega⟩⟩
      · rw [if_neg c] at h; exact absurd h (by decide)
    · rw [if_neg k2] at h; exact absurd h (by decide)
theorem letB_no {k : Int} (h : 0 ≤ k ∧ k ≤ 5) : ∀ b ∈ [letB k], b ≠ 32 := by
  rcases five h with e | e | e | e | e | e <;> subst e <;> decide
theorem letW_letB {k : Int} (h : 0 ≤ k ∧ k ≤ 5) : letW [letB k] = k := by
  rcases five h with e | e | e | e | e | e <;> subst e <;> decide
theorem wid_no : ∀ b ∈ WID, b ≠ 32 := by decide
theorem rd_txt {t : Tm} (h : isT t = true) : rdI (txt t) = (t, 0) := by
  rw [rd_eq]
  have hq := h
  unfold isT at hq
  simp only [decide_eq_true_eq] at hq
  obtain ⟨h1, h2⟩ := hq
  obtain ⟨k, to, ix, a⟩ := t
  dsimp only at h1 h2
  rcases h2 with ⟨rfl, rfl, h3, h4⟩ | ⟨rfl, rfl, h3, h4⟩
  · obtain ⟨n, rfl⟩ : ∃ n : Nat, a = n := ⟨a.toNat, by omega⟩
    have e : splitL 32 (txt ⟨1, to, 0, n⟩) = [ADD, [letB to], decD n] := by
      rw [txt_add h, split_app add_no, split_app (letB_no h1), Int.toNat_natCast, split_one (decD_no n)]
    have hS : rdS (txt ⟨1, to, 0, n⟩) = rdN 1 (letW [letB to]) (numR 10 (decD n)) := by unfold rdS; rw [e]; exact if_pos rfl
    rw [hS, letW_letB h1, numR_dec (by omega) (by omega)]
    have hm : mkTg 1 to n = ⟨1, to, 0, n⟩ := by unfold mkTg; rw [if_pos rfl]
    unfold rdN
    rw [if_pos ⟨rfl, by omega⟩, hm, if_pos h]
  · obtain ⟨n, rfl⟩ : ∃ n : Nat, ix = n := ⟨ix.toNat, by omega⟩
    have e : splitL 32 (txt ⟨2, to, n, 0⟩) = [WID, decD n, [letB to]] := by
      rw [txt_wid h, split_app wid_no, Int.toNat_natCast, split_app (decD_no n), split_one (letB_no h1)]
    have hS : rdS (txt ⟨2, to, n, 0⟩) = rdN 2 (letW [letB to]) (numR 10 (decD n)) := by
      unfold rdS; rw [e]
      show (if WID = ADD then _ else if WID = WID then _ else _) = _
      rw [if_neg (by decide), if_pos rfl]
    rw [hS, letW_letB h1, numR_dec (by omega) (by omega)]
    have hm : mkTg 2 to n = ⟨2, to, n, 0⟩ := by unfold mkTg; rw [if_neg (by decide)]
    unfold rdN
    rw [if_pos ⟨rfl, by omega⟩, hm, if_pos h]
theorem txt_len {t : Tm} : (txt t).length ≤ 1048576 := by
  unfold txt
  split
  · rename_i h
    unfold isT at h
    simp only [decide_eq_true_eq] at h
    have d1 := decD_len t.at_.toNat
    have d2 := decD_len t.ix.toNat
    split <;> (simp only [List.length_append, List.length_cons, List.length_nil]; omega)
  · simp
end Go.Proofs.YtcfabmmonoljeaaDoor

/- What functions of the program answer: part Few3. -/
set_option linter.unusedVariables false
set_option linter.unusedSimpArgs false
set_option linter.unusedSectionVars false
namespace Go.Proofs.YtcfabmmonoljeaaDoor
open Go Go.Proofs.YtcfabmmonoljeaaDoor.VI
set_option maxHeartbeats 16000000
set_option maxRecDepth 20000
theorem run6 {H : AHeap} {p : Option (Nat × Nat)} {n : Nat} {c : Cap} : ev kk 6 [.c (.slice p n c)] H = some (.c (.bool (decide ((4096 : Int) < n))), H) := by
  rw [ev_call c6]; unfold k6; rw [evB_eq rfl]
  simp only [evC_ret, evC_region, evC_seq, ev_t, ev_k, putS_some, upd_l, ops_nil, ops_cons, next_some, then_norm, done_ret, putL, getL, Option.bind_some, Option.map_some, evalOp, ↓reduceIte, reduceCtorEq, binA, binC, intBin, or_false, or_true, evalRs, evalR, AV.toV0?, mkRes, V0.toAV, lst_get, eq_self, finish_id, pl_bool, plA_c]
end Go.Proofs.YtcfabmmonoljeaaDoor
