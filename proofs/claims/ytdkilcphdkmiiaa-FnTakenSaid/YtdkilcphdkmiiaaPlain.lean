/- What functions of the program answer: part Plain. -/
import Derived.Test.YtdkilcphdkmiiaaTidy
import Derived.Test.YtdkilcphdkmiiaaCarry
set_option linter.unusedVariables false
set_option linter.unusedSimpArgs false
set_option linter.unusedSectionVars false
namespace Go.Proofs.Ytdkilcphdkmiiaa
open Go Go.Proofs.Ytdkilcphdkmiiaa.VI
set_option maxHeartbeats 8000000
/-- Tidy columns are those of their amount. -/
theorem tidyOf_amt {a b c d e f : Int} (ha : 0 ≤ a ∧ a < 12) (hb : 0 ≤ b ∧ b < 20) (hc : 0 ≤ c ∧ c < 20) (hd : 0 ≤ d ∧ d < 5) (he : 0 ≤ e ∧ e < 10) : tidyOf (amt a b c d e f) = brd a b c d e f := by
  have e5 : amt a b c d e f / 240000 = f := by unfold amt; omega
  have m5 : amt a b c d e f % 240000 = a * 1 + b * 12 + c * 240 + d * 4800 + e * 24000 := by unfold amt; omega
  have e4 : (a * 1 + b * 12 + c * 240 + d * 4800 + e * 24000) / 24000 = e := by omega
  have m4 : (a * 1 + b * 12 + c * 240 + d * 4800 + e * 24000) % 24000 = a * 1 + b * 12 + c * 240 + d * 4800 := by omega
  have e3 : (a * 1 + b * 12 + c * 240 + d * 4800) / 4800 = d := by omega
  have m3 : (a * 1 + b * 12 + c * 240 + d * 4800) % 4800 = a * 1 + b * 12 + c * 240 := by omega
  have e2 : (a * 1 + b * 12 + c * 240) / 240 = c := by omega
  have m2 : (a * 1 + b * 12 + c * 240) % 240 = a * 1 + b * 12 := by omega
  have e1 : (a * 1 + b * 12) / 12 = b := by omega
  have m1 : (a * 1 + b * 12) % 12 = a := by omega
  unfold tidyOf
  rw [m5, m4, m3, m2, m1, e5, e4, e3, e2, e1]
  simp
theorem amt_tidy (a b c d e f : Int) : amt (a % 12) (tb a b % 20) (tc a b c % 20) (td a b c d % 5) (te a b c d e % 10) (tf a b c d e f) = amt a b c d e f := by
  have x1 : tb a b = b + a / 12 := rfl
  have x2 : tc a b c = c + tb a b / 20 := rfl
  have x3 : td a b c d = d + tc a b c / 20 := rfl
  have x4 : te a b c d e = e + td a b c d / 5 := rfl
  have x5 : tf a b c d e f = f + te a b c d e / 10 := rfl
  unfold amt; omega
theorem tidy_tidy {a b c d e f : Int} (ha : 0 ≤ a ∧ a < 12) (hb : 0 ≤ b ∧ b < 20) (hc : 0 ≤ c ∧ c < 20) (hd : 0 ≤ d ∧ d < 5) (he : 0 ≤ e ∧ e < 10) (hf : 0 ≤ f ∧ f ≤ 1000) : tidyR a b c d e f = .tup [.agg (brd a b c d e f), .c (.int .i64 0), .c (.int .i64 0)] := by
  have x1 : tb a b = b := by unfold tb; omega
  have x2 : tc a b c = c := by unfold tc; rw [x1]; omega
  have x3 : td a b c d = d := by unfold td; rw [x2]; omega
  have x4 : te a b c d e = e := by unfold te; rw [x3]; omega
  have x5 : tf a b c d e f = f := by unfold tf; rw [x4]; omega
  have hk : okB a b c d e f := by unfold okB okc; omega
  have hn : tn a b c d e = 0 := by unfold tn; rw [x1, x2, x3, x4]; omega
  have y0 : a % 12 = a := by omega
  have y1 : b % 20 = b := by omega
  have y2 : c % 20 = c := by omega
  have y3 : d % 5 = d := by omega
  have y4 : e % 10 = e := by omega
  unfold tidyR
  rw [if_pos hk, x5, if_pos hf.2, hn]
  unfold tbrd
  rw [x1, x2, x3, x4, x5, y0, y1, y2, y3, y4]
/-- Few counters in a column. -/
def few (a b c d e f : Int) : Prop := (0 ≤ a ∧ a ≤ 39) ∧ (0 ≤ b ∧ b ≤ 39) ∧ (0 ≤ c ∧ c ≤ 39) ∧ (0 ≤ d ∧ d ≤ 39) ∧ (0 ≤ e ∧ e ≤ 39) ∧ (0 ≤ f ∧ f ≤ 39)
theorem few.ok {a b c d e f : Int} (h : few a b c d e f) : okB a b c d e f := by unfold few at h; unfold okB okc; omega
theorem carry_fact {a b c d e f k : Int} (h : few a b c d e f) (hk : 0 ≤ k ∧ k ≤ 4) : ∃ a' b' c' d' e' f' m, carryR a b c d e f k = .tup [.agg (brd a' b' c' d' e' f'), .c (.int .i64 m)] ∧
    ((m = 0 ∧ okB a' b' c' d' e' f' ∧ amt a' b' c' d' e' f' = amt a b c d e f ∧ borrowR a' b' c' d' e' f' k = .tup [.agg (brd a b c d e f), .c (.int .i64 0)]) ∨ m = 4) := by
  have hok := h.ok
  unfold few at h
  unfold carryR
  rw [if_pos hok, if_pos hk]
  rcases kinds5 hk with rfl | rfl | rfl | rfl | rfl
  · by_cases hs : a - 12 < 0
    · exact ⟨0, 0, 0, 0, 0, 0, 4, by simp [carryK, madeIf, hs, code], .inr rfl⟩
    · have hm : okB (a - 12) (b + 1) c d e f := by unfold okB okc; omega
      refine ⟨(a - 12), (b + 1), c, d, e, f, 0, by simp [carryK, madeIf, hs, made, hm], .inl ⟨rfl, hm, by unfold amt; omega, ?_⟩⟩
      have h1 : ¬ (b < 0) := by omega
      have h2 : a - 12 + 12 = a := by omega
      have h3 : b + 1 - 1 = b := by omega
      simp [borrowR, hm, borrowK, madeIf, made, h1, hok]
  · by_cases hs : b - 20 < 0
    · exact ⟨0, 0, 0, 0, 0, 0, 4, by simp [carryK, madeIf, hs, code], .inr rfl⟩
    · have hm : okB a (b - 20) (c + 1) d e f := by unfold okB okc; omega
      refine ⟨a, (b - 20), (c + 1), d, e, f, 0, by simp [carryK, madeIf, hs, made, hm], .inl ⟨rfl, hm, by unfold amt; omega, ?_⟩⟩
      have h1 : ¬ (c < 0) := by omega
      have h2 : b - 20 + 20 = b := by omega
      have h3 : c + 1 - 1 = c := by omega
      simp [borrowR, hm, borrowK, madeIf, made, h1, hok]
  · by_cases hs : c - 20 < 0
    · exact ⟨0, 0, 0, 0, 0, 0, 4, by simp [carryK, madeIf, hs, code], .inr rfl⟩
    · have hm : okB a b (c - 20) (d + 1) e f := by unfold okB okc; omega
      refine ⟨a, b, (c - 20), (d + 1), e, f, 0, by simp [carryK, madeIf, hs, made, hm], .inl ⟨rfl, hm, by unfold amt; omega, ?_⟩⟩
      have h1 : ¬ (d < 0) := by omega
      have h2 : c - 20 + 20 = c := by omega
      have h3 : d + 1 - 1 = d := by omega
      simp [borrowR, hm, borrowK, madeIf, made, h1, hok]
  · by_cases hs : d - 5 < 0
    · exact ⟨0, 0, 0, 0, 0, 0, 4, by simp [carryK, madeIf, hs, code], .inr rfl⟩
    · have hm : okB a b c (d - 5) (e + 1) f := by unfold okB okc; omega
      refine ⟨a, b, c, (d - 5), (e + 1), f, 0, by simp [carryK, madeIf, hs, made, hm], .inl ⟨rfl, hm, by unfold amt; omega, ?_⟩⟩
      have h1 : ¬ (e < 0) := by omega
      have h2 : d - 5 + 5 = d := by omega
      have h3 : e + 1 - 1 = e := by omega
      simp [borrowR, hm, borrowK, madeIf, made, h1, hok]
  · by_cases hs : e - 10 < 0
    · exact ⟨0, 0, 0, 0, 0, 0, 4, by simp [carryK, madeIf, hs, code], .inr rfl⟩
    · have hm : okB a b c d (e - 10) (f + 1) := by unfold okB okc; omega
      refine ⟨a, b, c, d, (e - 10), (f + 1), 0, by simp [carryK, madeIf, hs, made, hm], .inl ⟨rfl, hm, by unfold amt; omega, ?_⟩⟩
      have h1 : ¬ (f < 0) := by omega
      have h2 : e - 10 + 10 = e := by omega
      have h3 : f + 1 - 1 = f := by omega
      simp [borrowR, hm, borrowK, madeIf, made, h1, hok]
theorem borrow_fact {a b c d e f k : Int} (h : few a b c d e f) (hk : 0 ≤ k ∧ k ≤ 4) : ∃ a' b' c' d' e' f' m, borrowR a b c d e f k = .tup [.agg (brd a' b' c' d' e' f'), .c (.int .i64 m)] ∧
    ((m = 0 ∧ okB a' b' c' d' e' f' ∧ amt a' b' c' d' e' f' = amt a b c d e f) ∨ m = 4) := by
  have hok := h.ok
  unfold few at h
  unfold borrowR
  rw [if_pos hok, if_pos hk]
  rcases kinds5 hk with rfl | rfl | rfl | rfl | rfl
  · by_cases hs : b - 1 < 0
    · exact ⟨0, 0, 0, 0, 0, 0, 4, by simp [borrowK, madeIf, hs, code], .inr rfl⟩
    · have hm : okB (a + 12) (b - 1) c d e f := by unfold okB okc; omega
      exact ⟨(a + 12), (b - 1), c, d, e, f, 0, by simp [borrowK, madeIf, hs, made, hm], .inl ⟨rfl, hm, by unfold amt; omega⟩⟩
  · by_cases hs : c - 1 < 0
    · exact ⟨0, 0, 0, 0, 0, 0, 4, by simp [borrowK, madeIf, hs, code], .inr rfl⟩
    · have hm : okB a (b + 20) (c - 1) d e f := by unfold okB okc; omega
      exact ⟨a, (b + 20), (c - 1), d, e, f, 0, by simp [borrowK, madeIf, hs, made, hm], .inl ⟨rfl, hm, by unfold amt; omega⟩⟩
  · by_cases hs : d - 1 < 0
    · exact ⟨0, 0, 0, 0, 0, 0, 4, by simp [borrowK, madeIf, hs, code], .inr rfl⟩
    · have hm : okB a b (c + 20) (d - 1) e f := by unfold okB okc; omega
      exact ⟨a, b, (c + 20), (d - 1), e, f, 0, by simp [borrowK, madeIf, hs, made, hm], .inl ⟨rfl, hm, by unfold amt; omega⟩⟩
  · by_cases hs : e - 1 < 0
    · exact ⟨0, 0, 0, 0, 0, 0, 4, by simp [borrowK, madeIf, hs, code], .inr rfl⟩
    · have hm : okB a b c (d + 5) (e - 1) f := by unfold okB okc; omega
      exact ⟨a, b, c, (d + 5), (e - 1), f, 0, by simp [borrowK, madeIf, hs, made, hm], .inl ⟨rfl, hm, by unfold amt; omega⟩⟩
  · by_cases hs : f - 1 < 0
    · exact ⟨0, 0, 0, 0, 0, 0, 4, by simp [borrowK, madeIf, hs, code], .inr rfl⟩
    · have hm : okB a b c d (e + 10) (f - 1) := by unfold okB okc; omega
      exact ⟨a, b, c, d, (e + 10), (f - 1), 0, by simp [borrowK, madeIf, hs, made, hm], .inl ⟨rfl, hm, by unfold amt; omega⟩⟩
end Go.Proofs.Ytdkilcphdkmiiaa
