/- What functions of the program answer: part Lies6. -/
import Derived.Test.YtnblibimbggheaaLies5
import Derived.Test.YtnblibimbggheaaWood3
import Derived.Test.YtnblibimbggheaaNearLaw
import Derived.Test.YtnblibimbggheaaFind
import Derived.Test.YtnblibimbggheaaSure
set_option linter.unusedVariables false
set_option linter.unusedSimpArgs false
set_option linter.unusedSectionVars false
namespace Go.Proofs.Ytnblibimbggheaa
open Go Go.Proofs.Ytnblibimbggheaa.VI
set_option maxHeartbeats 1600000
set_option maxRecDepth 20000
/-! A stock, a foil, and one of them tampered with: the plain part -/
theorem okH_g {xs : List Nt} {g g' : List Int} (h : g.all gq = true) (h' : g'.all gq = true) : okH xs g' = okH xs g := by unfold okH; rw [h, h']
theorem tm_twin {st st' : Bool} {xs : List Nt} {g g' : List Int} (h : g.all gq = true) (h' : g'.all gq = true) {t : Tm} (hc : (tmR ⟨st, xs, g⟩ t).2 = 0) : (tmR ⟨st, xs, g⟩ t).1.st = st ∧ (tmR ⟨st, xs, g⟩ t).1.g = g ∧ tmR ⟨st', xs, g'⟩ t = (⟨st', (tmR ⟨st, xs, g⟩ t).1.xs, g'⟩, 0) := by
  unfold tmR at hc ⊢
  by_cases k1 : t.k = 1
  · rw [if_pos k1] at hc ⊢
    rw [if_pos k1]
    by_cases i0 : t.ix = 0
    · rw [if_pos i0] at hc ⊢
      rw [if_pos i0]
      unfold cnR at hc ⊢
      dsimp only at hc ⊢
      by_cases c1 : (0 ≤ t.to ∧ t.to ≤ 5) ∧ 0 ≤ t.at_ ∧ t.at_ ≤ 200
      · rw [if_pos c1] at hc ⊢
        rw [if_pos c1]
        rw [okH_g h h']
        by_cases c2 : okH (cutP xs t.to t.at_) g = true
        · rw [if_pos c2, if_pos c2]; exact ⟨rfl, rfl, rfl⟩
        · rw [if_neg c2] at hc; exact absurd hc (by decide)
      · rw [if_neg c1] at hc; exact absurd hc (by decide)
    · rw [if_neg i0] at hc; exact absurd hc (by decide)
  · rw [if_neg k1] at hc ⊢
    rw [if_neg k1]
    by_cases k2 : t.k = 2
    · rw [if_pos k2] at hc ⊢
      rw [if_pos k2]
      unfold wiR at hc ⊢
      dsimp only at hc ⊢
      by_cases c1 : t.at_ = 0 ∧ (0 ≤ t.to ∧ t.to ≤ 5) ∧ 0 ≤ t.ix ∧ t.ix < xs.length
      · rw [if_pos c1] at hc ⊢
        rw [if_pos c1]
        by_cases c2 : t.to ≤ (xs.getD t.ix.toNat ⟨0, 0⟩).k
        · rw [if_pos c2] at hc; exact absurd hc (by decide)
        · rw [if_neg c2] at hc ⊢
          rw [if_neg c2]
          rw [okH_g h h']
          by_cases c3 : okH (setN xs t.ix.toNat t.to) g = true
          · rw [if_pos c3, if_pos c3]; exact ⟨rfl, rfl, rfl⟩
          · rw [if_neg c3] at hc; exact absurd hc (by decide)
      · rw [if_neg c1] at hc; exact absurd hc (by decide)
    · rw [if_neg k2] at hc; exact absurd hc (by decide)
theorem sm_opp {g : List Int} (hq : g.all gq = true) (i : Nat) : sm g (opp g) i = 0 := by
  have := all_at hq i
  unfold sm
  rw [opp_at hq, IntWalk.i8_in _ (by omega)]; omega
theorem wr_opp {g : List Int} (hq : g.all gq = true) {i n : Nat} : wr g (opp g) i n = [] := by
  unfold wr
  have : (List.range' i n).filter (wq g (opp g)) = [] := List.filter_eq_nil_iff.2 fun j _ => by rw [wq_sm, sm_opp hq]; simp
  rw [this]; rfl
theorem fo_opp {g : List Int} (hq : g.all gq = true) {i n : Nat} : fo g (opp g) i n = true := by
  unfold fo
  exact List.all_eq_true.2 fun j _ => by unfold fq; rw [sm_opp hq]; rfl
theorem eqN_self (xs : List Nt) : eqN xs xs = true := by unfold eqN; exact decide_eq_true rfl
theorem mq_self {xs : List Nt} {i : Nat} (h : i < xs.length) : mq xs xs i = false := by
  unfold mq; rw [List.getElem?_eq_getElem h]; simp
theorem mN_self {xs : List Nt} : mN xs xs = [] := by
  unfold mN mr
  have : (List.range' 0 (max xs.length xs.length)).filter (mq xs xs) = [] := List.filter_eq_nil_iff.2 fun j hj => by
    rw [List.mem_range'_1] at hj
    rw [mq_self (by omega)]; decide
  rw [this]; rfl
theorem mN_ne {xs ys : List Nt} (h : xs ≠ ys) : 0 < (mN xs ys).length := by
  rcases Nat.eq_zero_or_pos (mN xs ys).length with h0 | h0
  · exfalso
    apply h
    unfold mN mr at h0
    rw [List.length_map, List.length_eq_zero_iff, List.filter_eq_nil_iff] at h0
    apply List.ext_getElem?
    intro i
    by_cases hi : i < max xs.length ys.length
    · have hm := h0 i (by rw [List.mem_range'_1]; omega)
      unfold mq at hm
      cases hx : xs[i]? with
      | none => rw [hx] at hm; exact absurd rfl hm
      | some x => cases hy : ys[i]? with
        | none => rw [hx, hy] at hm; exact absurd rfl hm
        | some y =>
          rw [hx, hy] at hm
          simp at hm
          cases x; cases y; simp_all
    · rw [List.getElem?_eq_none (by omega), List.getElem?_eq_none (by omega)]
  · exact h0
structure Fam (s f s2 f2 : Hf) (t : Tm) : Prop where
  os : okF s = true
  of_ : okF f = true
  os2 : okF s2 = true
  of2 : okF f2 = true
  ss : s.st = true
  fs : f.st = false
  ss2 : s2.st = true
  fs2 : f2.st = false
  fx : f.xs = s.xs
  fg : f.g = opp s.g
  sx2 : s2.xs = (tmR s.pr t).1.xs
  fx2 : f2.xs = (tmR s.pr t).1.xs
  ht : (tmR s.pr t).2 = 0
section
variable {s f s2 f2 : Hf} {t : Tm} (q : Fam s f s2 f2 t)
include q
theorem Fam.gs : s.g.all gq = true := (okH_p q.os).2.2
theorem Fam.pc : pcR s [f] = 0 ∧ pcR s2 [f] = 0 ∧ pcR s [f2] = 0 ∧ pcR s [f2, f] = 0 := by
  unfold pcR foil
  simp [q.os, q.of_, q.os2, q.of2, q.ss, q.fs, q.ss2, q.fs2]
theorem Fam.ne : s.xs ≠ (tmR s.pr t).1.xs := fun e => by
  have := tm_more (p := s.pr) q.os q.ht
  rw [← e] at this; exact absurd this (Int.lt_irrefl _)
theorem Fam.li : liR s f = 0 ∧ liR s2 f = 1 ∧ liR s f2 = 2 := by
  refine ⟨by unfold liR; rw [q.fx, eqN_self]; rfl, ?_, ?_⟩
  · exact (li_tm (x := f) (y := s2) q.of_ q.os2 (p := s.pr) q.os q.ht q.fx q.sx2).1
  · exact (li_tm (x := s) (y := f2) q.os q.of2 (p := s.pr) q.os q.ht rfl q.fx2).2
theorem Fam.ft {w : Int} (hw : 0 ≤ w) : ftB s f w = true ∧ ftB s2 f w = false ∧ ftB s f2 w = false := by
  have n := q.ne
  refine ⟨?_, ?_, ?_⟩
  · unfold ftB fgB
    rw [q.fx, eqN_self, q.fg, fo_opp q.gs, wr_opp q.gs]
    simpa using hw
  · unfold ftB
    rw [eqN_df (by rw [q.sx2, q.fx]; exact Ne.symm n), Bool.false_and]
  · unfold ftB
    rw [eqN_df (by rw [q.fx2]; exact n), Bool.false_and]
theorem Fam.cn : cnF s f = 0 ∧ 0 < cnF s f2 := by
  unfold cnF
  refine ⟨?_, ?_⟩
  · rw [q.fx, mN_self, q.fg]
    have : ws s.g (opp s.g) = [] := wr_opp q.gs
    rw [this]; rfl
  · have := mN_ne (xs := s.xs) (ys := f2.xs) (by rw [q.fx2]; exact q.ne)
    omega
theorem Fam.nr : nrR s [f2, f] = .tup [.c (.int .i64 1), .c (.int .i64 0), .c (.int .i64 0)] := by
  obtain ⟨c1, c2⟩ := q.cn
  have e : nrC s [f2, f] = 0 := by unfold nrC; rw [q.pc.2.2.2]; rfl
  have e2 : nrG s [f2, f] 0 0 0 = (1, 0) := by
    unfold nrG; rw [if_pos (.inl rfl)]
    unfold nrG; rw [if_pos (.inr (by rw [c1]; exact c2)), c1]
    rfl
  unfold nrR
  rw [if_pos e, e2]
theorem Fam.fd : fdR s [f2, f] 0 = .tup [.c (.int .i64 1), .c (.int .i64 0)] := by
  obtain ⟨t1, t2, t3⟩ := q.ft (w := 0) (by decide)
  have e : fdC s [f2, f] 0 = 0 := by unfold fdC; rw [q.pc.2.2.2]; rfl
  have e2 : fdG s 0 [f2, f] 0 = some 1 := by
    unfold fdG; rw [t3, if_neg (by decide)]
    unfold fdG; rw [t1, if_pos rfl]
  unfold fdR
  rw [if_pos e, e2]
  rfl
theorem Fam.su : sumN f.xs = sumN s.xs ∧ sumN s.xs < sumN s2.xs ∧ suA s f = sumN s.xs ∧ suA s2 f = sumN s.xs ∧ suA s f2 = sumN s.xs ∧ suC s f = 0 ∧ suC s2 f = 0 ∧ suC s f2 = 0 := by
  obtain ⟨l1, l2, l3⟩ := q.li
  obtain ⟨p1, p2, p3, _⟩ := q.pc
  have hm := tm_more (p := s.pr) q.os q.ht
  refine ⟨by rw [q.fx], by rw [q.sx2]; exact hm, ?_, ?_, ?_, ?_, ?_, ?_⟩
  · unfold suA; rw [if_pos p1, l1]; rfl
  · unfold suA; rw [if_pos p2, l2, ← q.fx]; rfl
  · unfold suA; rw [if_pos p3, l3]; rfl
  · unfold suC; rw [if_pos p1, l1]; rfl
  · unfold suC; rw [if_pos p2, l2]; rfl
  · unfold suC; rw [if_pos p3, l3]; rfl
theorem Fam.wh : whL s f = 0 ∧ whL s2 f = 1 ∧ whL s f2 = 2 := by
  obtain ⟨l1, l2, l3⟩ := q.li
  obtain ⟨p1, p2, p3, _⟩ := q.pc
  unfold whL
  rw [if_pos p1, if_pos p2, if_pos p3]
  exact ⟨l1, l2, l3⟩
theorem Fam.inS2 : inC s2 f 16 = 0 ∧ inV s2 f 16 = [.bool false, .int .i8 1, .int .i64 (sumN s2.xs), .int .i64 (sumN s.xs)] := by
  have e : inC s2 f 16 = 0 := by unfold inC; rw [q.pc.2.1]; rfl
  refine ⟨e, ?_⟩
  unfold inV; rw [if_pos e, (q.ft (w := 16) (by decide)).2.1, q.li.2.1, q.fx]; rfl
end
end Go.Proofs.Ytnblibimbggheaa
