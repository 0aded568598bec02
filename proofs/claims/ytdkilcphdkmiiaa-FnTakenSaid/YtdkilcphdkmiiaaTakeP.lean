/- What functions of the program answer: part TakeP. -/
import Derived.Test.YtdkilcphdkmiiaaPlain
set_option linter.unusedVariables false
set_option linter.unusedSimpArgs false
set_option linter.unusedSectionVars false
namespace Go.Proofs.Ytdkilcphdkmiiaa
open Go Go.Proofs.Ytdkilcphdkmiiaa.VI
set_option maxHeartbeats 8000000
/-- Six columns. -/
structure T6 where
  a : Int
  b : Int
  c : Int
  d : Int
  e : Int
  f : Int
abbrev T6.col (s : T6) : List CV := Go.Proofs.Ytdkilcphdkmiiaa.col s.a s.b s.c s.d s.e s.f
abbrev T6.brd (s : T6) : List CV := Go.Proofs.Ytdkilcphdkmiiaa.brd s.a s.b s.c s.d s.e s.f
def bor4 (s : T6) : T6 × Int := (⟨s.a, s.b, s.c, s.d, s.e + 10, s.f - 1⟩, 1)
def bor3 (s : T6) : T6 × Int := if s.e = 0 then (⟨(bor4 s).1.a, (bor4 s).1.b, (bor4 s).1.c, (bor4 s).1.d + 5, (bor4 s).1.e - 1, (bor4 s).1.f⟩, 1 + (bor4 s).2) else (⟨s.a, s.b, s.c, s.d + 5, s.e - 1, s.f⟩, 1)
def bor2 (s : T6) : T6 × Int := if s.d = 0 then (⟨(bor3 s).1.a, (bor3 s).1.b, (bor3 s).1.c + 20, (bor3 s).1.d - 1, (bor3 s).1.e, (bor3 s).1.f⟩, 1 + (bor3 s).2) else (⟨s.a, s.b, s.c + 20, s.d - 1, s.e, s.f⟩, 1)
def bor1 (s : T6) : T6 × Int := if s.c = 0 then (⟨(bor2 s).1.a, (bor2 s).1.b + 20, (bor2 s).1.c - 1, (bor2 s).1.d, (bor2 s).1.e, (bor2 s).1.f⟩, 1 + (bor2 s).2) else (⟨s.a, s.b + 20, s.c - 1, s.d, s.e, s.f⟩, 1)
def bor0 (s : T6) : T6 × Int := if s.b = 0 then (⟨(bor1 s).1.a + 12, (bor1 s).1.b - 1, (bor1 s).1.c, (bor1 s).1.d, (bor1 s).1.e, (bor1 s).1.f⟩, 1 + (bor1 s).2) else (⟨s.a + 12, s.b - 1, s.c, s.d, s.e, s.f⟩, 1)
def pre0 (s t : T6) : T6 × Int := if s.a < t.a then bor0 s else (s, 0)
def st0 (s t : T6) : T6 × Int := (⟨(pre0 s t).1.a - t.a, (pre0 s t).1.b, (pre0 s t).1.c, (pre0 s t).1.d, (pre0 s t).1.e, (pre0 s t).1.f⟩, (pre0 s t).2)
def pre1 (s t : T6) : T6 × Int := if s.b < t.b then bor1 s else (s, 0)
def st1 (s t : T6) : T6 × Int := (⟨(pre1 s t).1.a, (pre1 s t).1.b - t.b, (pre1 s t).1.c, (pre1 s t).1.d, (pre1 s t).1.e, (pre1 s t).1.f⟩, (pre1 s t).2)
def pre2 (s t : T6) : T6 × Int := if s.c < t.c then bor2 s else (s, 0)
def st2 (s t : T6) : T6 × Int := (⟨(pre2 s t).1.a, (pre2 s t).1.b, (pre2 s t).1.c - t.c, (pre2 s t).1.d, (pre2 s t).1.e, (pre2 s t).1.f⟩, (pre2 s t).2)
def pre3 (s t : T6) : T6 × Int := if s.d < t.d then bor3 s else (s, 0)
def st3 (s t : T6) : T6 × Int := (⟨(pre3 s t).1.a, (pre3 s t).1.b, (pre3 s t).1.c, (pre3 s t).1.d - t.d, (pre3 s t).1.e, (pre3 s t).1.f⟩, (pre3 s t).2)
def pre4 (s t : T6) : T6 × Int := if s.e < t.e then bor4 s else (s, 0)
def st4 (s t : T6) : T6 × Int := (⟨(pre4 s t).1.a, (pre4 s t).1.b, (pre4 s t).1.c, (pre4 s t).1.d, (pre4 s t).1.e - t.e, (pre4 s t).1.f⟩, (pre4 s t).2)
def pre5 (s t : T6) : T6 × Int := (s, 0)
def st5 (s t : T6) : T6 × Int := (⟨(pre5 s t).1.a, (pre5 s t).1.b, (pre5 s t).1.c, (pre5 s t).1.d, (pre5 s t).1.e, (pre5 s t).1.f - t.f⟩, (pre5 s t).2)
def Tdy (s : T6) : Prop := (0 ≤ s.a ∧ s.a < 12) ∧ (0 ≤ s.b ∧ s.b < 20) ∧ (0 ≤ s.c ∧ s.c < 20) ∧ (0 ≤ s.d ∧ s.d < 5) ∧ (0 ≤ s.e ∧ s.e < 10) ∧ 0 ≤ s.f ∧ s.f ≤ 1000
abbrev T6.amt (s : T6) : Int := Go.Proofs.Ytdkilcphdkmiiaa.amt s.a s.b s.c s.d s.e s.f
/-- Before the kind 0. -/
def At0 (s t : T6) : Prop := Tdy s ∧ Tdy t ∧ 1 * t.a + 12 * t.b + 240 * t.c + 4800 * t.d + 24000 * t.e + 240000 * t.f ≤ 1 * s.a + 12 * s.b + 240 * s.c + 4800 * s.d + 24000 * s.e + 240000 * s.f
/-- Before the kind 1. -/
def At1 (s t : T6) : Prop := Tdy s ∧ Tdy t ∧ 1 * t.b + 20 * t.c + 400 * t.d + 2000 * t.e + 20000 * t.f ≤ 1 * s.b + 20 * s.c + 400 * s.d + 2000 * s.e + 20000 * s.f
/-- Before the kind 2. -/
def At2 (s t : T6) : Prop := Tdy s ∧ Tdy t ∧ 1 * t.c + 20 * t.d + 100 * t.e + 1000 * t.f ≤ 1 * s.c + 20 * s.d + 100 * s.e + 1000 * s.f
/-- Before the kind 3. -/
def At3 (s t : T6) : Prop := Tdy s ∧ Tdy t ∧ 1 * t.d + 5 * t.e + 50 * t.f ≤ 1 * s.d + 5 * s.e + 50 * s.f
/-- Before the kind 4. -/
def At4 (s t : T6) : Prop := Tdy s ∧ Tdy t ∧ 1 * t.e + 10 * t.f ≤ 1 * s.e + 10 * s.f
/-- Before the kind 5. -/
def At5 (s t : T6) : Prop := Tdy s ∧ Tdy t ∧ 1 * t.f ≤ 1 * s.f
def Nb0 (s : T6) (n : Int) : Prop := 0 ≤ n ∧ ((n ≤ 0) ∨ (n ≤ 1 ∧ s.a = 11) ∨ (n ≤ 2 ∧ s.a = 11 ∧ s.b = 19) ∨ (n ≤ 3 ∧ s.a = 11 ∧ s.b = 19 ∧ s.c = 19) ∨ (n ≤ 4 ∧ s.a = 11 ∧ s.b = 19 ∧ s.c = 19 ∧ s.d = 4) ∨ (n ≤ 5 ∧ s.a = 11 ∧ s.b = 19 ∧ s.c = 19 ∧ s.d = 4 ∧ s.e = 9))
def Nb1 (s : T6) (n : Int) : Prop := 0 ≤ n ∧ ((n ≤ 1) ∨ (n ≤ 2 ∧ s.b = 19) ∨ (n ≤ 3 ∧ s.b = 19 ∧ s.c = 19) ∨ (n ≤ 4 ∧ s.b = 19 ∧ s.c = 19 ∧ s.d = 4) ∨ (n ≤ 5 ∧ s.b = 19 ∧ s.c = 19 ∧ s.d = 4 ∧ s.e = 9))
def Nb2 (s : T6) (n : Int) : Prop := 0 ≤ n ∧ ((n ≤ 2) ∨ (n ≤ 3 ∧ s.c = 19) ∨ (n ≤ 4 ∧ s.c = 19 ∧ s.d = 4) ∨ (n ≤ 5 ∧ s.c = 19 ∧ s.d = 4 ∧ s.e = 9))
def Nb3 (s : T6) (n : Int) : Prop := 0 ≤ n ∧ ((n ≤ 3) ∨ (n ≤ 4 ∧ s.d = 4) ∨ (n ≤ 5 ∧ s.d = 4 ∧ s.e = 9))
def Nb4 (s : T6) (n : Int) : Prop := 0 ≤ n ∧ ((n ≤ 4) ∨ (n ≤ 5 ∧ s.e = 9))
def Nb5 (s : T6) (n : Int) : Prop := 0 ≤ n ∧ (n ≤ 5)
theorem st0_ok {s t : T6} (h : At0 s t) : At1 (st0 s t).1 t ∧ Tdy (st0 s t).1 ∧ (st0 s t).1.amt = s.amt - 1 * t.a := by
  obtain ⟨a, b, c, d, e, f⟩ := s
  obtain ⟨a', b', c', d', e', f'⟩ := t
  simp only [At0, Tdy] at h
  simp only [At1, Tdy, st0, pre0, bor0, bor1, bor2, bor3, bor4, T6.amt, amt]
  repeat' split
  all_goals (first | omega | (simp only at *; omega))
theorem st0_n {s t : T6} {n : Int} (h : At0 s t) (hn : Nb0 s n) : Nb1 (st0 s t).1 (n + (st0 s t).2) := by
  obtain ⟨a, b, c, d, e, f⟩ := s
  obtain ⟨a', b', c', d', e', f'⟩ := t
  simp only [At0, Tdy] at h
  simp only [Nb0] at hn
  simp only [Nb1, st0, pre0, bor0, bor1, bor2, bor3, bor4]
  repeat' split
  all_goals (first | omega | (simp only at *; omega))
theorem st1_ok {s t : T6} (h : At1 s t) : At2 (st1 s t).1 t ∧ Tdy (st1 s t).1 ∧ (st1 s t).1.amt = s.amt - 12 * t.b := by
  obtain ⟨a, b, c, d, e, f⟩ := s
  obtain ⟨a', b', c', d', e', f'⟩ := t
  simp only [At1, Tdy] at h
  simp only [At2, Tdy, st1, pre1, bor1, bor2, bor3, bor4, T6.amt, amt]
  repeat' split
  all_goals (first | omega | (simp only at *; omega))
theorem st1_n {s t : T6} {n : Int} (h : At1 s t) (hn : Nb1 s n) : Nb2 (st1 s t).1 (n + (st1 s t).2) := by
  obtain ⟨a, b, c, d, e, f⟩ := s
  obtain ⟨a', b', c', d', e', f'⟩ := t
  simp only [At1, Tdy] at h
  simp only [Nb1] at hn
  simp only [Nb2, st1, pre1, bor1, bor2, bor3, bor4]
  repeat' split
  all_goals (first | omega | (simp only at *; omega))
theorem st2_ok {s t : T6} (h : At2 s t) : At3 (st2 s t).1 t ∧ Tdy (st2 s t).1 ∧ (st2 s t).1.amt = s.amt - 240 * t.c := by
  obtain ⟨a, b, c, d, e, f⟩ := s
  obtain ⟨a', b', c', d', e', f'⟩ := t
  simp only [At2, Tdy] at h
  simp only [At3, Tdy, st2, pre2, bor2, bor3, bor4, T6.amt, amt]
  repeat' split
  all_goals (first | omega | (simp only at *; omega))
theorem st2_n {s t : T6} {n : Int} (h : At2 s t) (hn : Nb2 s n) : Nb3 (st2 s t).1 (n + (st2 s t).2) := by
  obtain ⟨a, b, c, d, e, f⟩ := s
  obtain ⟨a', b', c', d', e', f'⟩ := t
  simp only [At2, Tdy] at h
  simp only [Nb2] at hn
  simp only [Nb3, st2, pre2, bor2, bor3, bor4]
  repeat' split
  all_goals (first | omega | (simp only at *; omega))
theorem st3_ok {s t : T6} (h : At3 s t) : At4 (st3 s t).1 t ∧ Tdy (st3 s t).1 ∧ (st3 s t).1.amt = s.amt - 4800 * t.d := by
  obtain ⟨a, b, c, d, e, f⟩ := s
  obtain ⟨a', b', c', d', e', f'⟩ := t
  simp only [At3, Tdy] at h
  simp only [At4, Tdy, st3, pre3, bor3, bor4, T6.amt, amt]
  repeat' split
  all_goals (first | omega | (simp only at *; omega))
theorem st3_n {s t : T6} {n : Int} (h : At3 s t) (hn : Nb3 s n) : Nb4 (st3 s t).1 (n + (st3 s t).2) := by
  obtain ⟨a, b, c, d, e, f⟩ := s
  obtain ⟨a', b', c', d', e', f'⟩ := t
  simp only [At3, Tdy] at h
  simp only [Nb3] at hn
  simp only [Nb4, st3, pre3, bor3, bor4]
  repeat' split
  all_goals (first | omega | (simp only at *; omega))
theorem st4_ok {s t : T6} (h : At4 s t) : At5 (st4 s t).1 t ∧ Tdy (st4 s t).1 ∧ (st4 s t).1.amt = s.amt - 24000 * t.e := by
  obtain ⟨a, b, c, d, e, f⟩ := s
  obtain ⟨a', b', c', d', e', f'⟩ := t
  simp only [At4, Tdy] at h
  simp only [At5, Tdy, st4, pre4, bor4, T6.amt, amt]
  repeat' split
  all_goals (first | omega | (simp only at *; omega))
theorem st4_n {s t : T6} {n : Int} (h : At4 s t) (hn : Nb4 s n) : Nb5 (st4 s t).1 (n + (st4 s t).2) := by
  obtain ⟨a, b, c, d, e, f⟩ := s
  obtain ⟨a', b', c', d', e', f'⟩ := t
  simp only [At4, Tdy] at h
  simp only [Nb4] at hn
  simp only [Nb5, st4, pre4, bor4]
  repeat' split
  all_goals (first | omega | (simp only at *; omega))
theorem st5_ok {s t : T6} (h : At5 s t) : Tdy (st5 s t).1 ∧ (st5 s t).1.amt = s.amt - 240000 * t.f := by
  obtain ⟨a, b, c, d, e, f⟩ := s
  obtain ⟨a', b', c', d', e', f'⟩ := t
  simp only [At5, Tdy] at h
  simp only [Tdy, st5, pre5, T6.amt, amt]
  repeat' split
  all_goals (first | omega | (simp only at *; omega))
/-- One board taken from another one, kind by kind. -/
def tk0 (s t : T6) : T6 × Int := st0 s t
def tk1 (s t : T6) : T6 × Int := ((st1 (tk0 s t).1 t).1, (tk0 s t).2 + (st1 (tk0 s t).1 t).2)
def tk2 (s t : T6) : T6 × Int := ((st2 (tk1 s t).1 t).1, (tk1 s t).2 + (st2 (tk1 s t).1 t).2)
def tk3 (s t : T6) : T6 × Int := ((st3 (tk2 s t).1 t).1, (tk2 s t).2 + (st3 (tk2 s t).1 t).2)
def tk4 (s t : T6) : T6 × Int := ((st4 (tk3 s t).1 t).1, (tk3 s t).2 + (st4 (tk3 s t).1 t).2)
def tk5 (s t : T6) : T6 × Int := ((st5 (tk4 s t).1 t).1, (tk4 s t).2 + (st5 (tk4 s t).1 t).2)
theorem tk_ok {s t : T6} (hs : Tdy s) (ht : Tdy t) (h : t.amt ≤ s.amt) : Tdy (tk5 s t).1 ∧ (tk5 s t).1.amt = s.amt - t.amt ∧ 0 ≤ (tk5 s t).2 ∧ (tk5 s t).2 ≤ 5 ∧ At0 s t ∧ At1 (tk0 s t).1 t ∧ At2 (tk1 s t).1 t ∧ At3 (tk2 s t).1 t ∧ At4 (tk3 s t).1 t ∧ At5 (tk4 s t).1 t := by
  have h0 : At0 s t := ⟨hs, ht, by simp only [T6.amt, amt] at h; omega⟩
  obtain ⟨h1, _, x0⟩ := st0_ok h0
  obtain ⟨h2, _, x1⟩ := st1_ok h1
  obtain ⟨h3, _, x2⟩ := st2_ok h2
  obtain ⟨h4, _, x3⟩ := st3_ok h3
  obtain ⟨h5, _, x4⟩ := st4_ok h4
  obtain ⟨h6, x5⟩ := st5_ok h5
  have n0 : Nb0 s 0 := ⟨by omega, .inl (by omega)⟩
  have n1 := st0_n h0 n0
  have n2 := st1_n h1 n1
  have n3 := st2_n h2 n2
  have n4 := st3_n h3 n3
  have n5 := st4_n h4 n4
  have e5 : (st5 (tk4 s t).1 t).2 = 0 := rfl
  have e0 : (tk5 s t).2 = 0 + (st0 s t).2 + (st1 (tk0 s t).1 t).2 + (st2 (tk1 s t).1 t).2 + (st3 (tk2 s t).1 t).2 + (st4 (tk3 s t).1 t).2 := by
    simp only [tk5, tk4, tk3, tk2, tk1, tk0] at e5 ⊢; omega
  refine ⟨h6, ?_, ?_, ?_, h0, h1, h2, h3, h4, h5⟩
  · have : t.amt = 1 * t.a + 12 * t.b + 240 * t.c + 4800 * t.d + 24000 * t.e + 240000 * t.f := by simp only [T6.amt, amt]; omega
    simp only [tk5, tk4, tk3, tk2, tk1, tk0] at *
    omega
  · rw [e0]; exact n5.1
  · rw [e0]; exact n5.2
end Go.Proofs.Ytdkilcphdkmiiaa
