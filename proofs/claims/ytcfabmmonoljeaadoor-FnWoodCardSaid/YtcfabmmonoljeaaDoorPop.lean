/- What functions of the program answer: part Pop. -/
import Derived.Test.YtcfabmmonoljeaaDoorViE
set_option linter.unusedVariables false
set_option linter.unusedSimpArgs false
set_option linter.unusedSectionVars false
namespace Go.Proofs.YtcfabmmonoljeaaDoor
open Go Go.Proofs.YtcfabmmonoljeaaDoor.VI
set_option maxHeartbeats 4000000
set_option maxRecDepth 100000
/-! How many bits are set: plain numbers -/
theorem land256 (x y : Nat) : x &&& y = 256 * (x / 256 &&& y / 256) + (x % 256 &&& y % 256) := by
  have h1 : (x &&& y) / 256 = x / 256 &&& y / 256 := by
    have := Nat.shiftRight_and_distrib (a := x) (b := y) (i := 8)
    rw [Nat.shiftRight_eq_div_pow, Nat.shiftRight_eq_div_pow, Nat.shiftRight_eq_div_pow] at this
    exact this
  have h2 : (x &&& y) % 256 = x % 256 &&& y % 256 := Nat.and_mod_two_pow (n := 8)
  have := Nat.div_add_mod (x &&& y) 256
  omega
theorem land_split {a c m d : Nat} (hc : c < 256) (hd : d < 256) : (c + 256 * a) &&& (d + 256 * m) = (c &&& d) + 256 * (a &&& m) := by
  rw [land256]
  have e1 : (c + 256 * a) / 256 = a := by omega
  have e2 : (d + 256 * m) / 256 = m := by omega
  have e3 : (c + 256 * a) % 256 = c := by omega
  have e4 : (d + 256 * m) % 256 = d := by omega
  rw [e1, e2, e3, e4]; omega
def val : List Nat → Nat
  | [] => 0
  | b :: bs => b + 256 * val bs
def B (bs : List Nat) : Prop := ∀ b ∈ bs, b < 256
theorem val_and {m : Nat} (hm : m < 256) : ∀ {bs : List Nat}, B bs → val bs &&& val (List.replicate bs.length m) = val (bs.map fun b => b &&& m)
  | [], _ => by simp [val]
  | b :: bs, h => by
    have ih := val_and hm (bs := bs) (fun x hx => h x (by simp [hx]))
    have hb := h b (by simp)
    show (b + 256 * val bs) &&& (m + 256 * val (List.replicate bs.length m)) = (b &&& m) + 256 * val (bs.map fun b => b &&& m)
    rw [land_split hb hm, ih]
theorem val_shr {d e m : Nat} (hm : m < 256) (hd : (d = 2 ∧ e = 128) ∨ (d = 4 ∧ e = 64)) (hk : ∀ b < 256, ∀ r < d, (b / d + e * r) &&& m = (b / d) &&& m) : ∀ {bs : List Nat}, B bs → (val bs / d) &&& val (List.replicate bs.length m) = val (bs.map fun b => (b / d) &&& m)
  | [], _ => by
    show (0 / d) &&& 0 = 0
    simp
  | b :: bs, h => by
    have ih := val_shr hm hd hk (bs := bs) (fun x hx => h x (by simp [hx]))
    have hb := h b (by simp)
    show ((b + 256 * val bs) / d) &&& (m + 256 * val (List.replicate bs.length m)) = ((b / d) &&& m) + 256 * val (bs.map fun b => (b / d) &&& m)
    rw [← ih, ← hk b hb (val bs % d) (Nat.mod_lt _ (by omega))]
    have e1 : (b + 256 * val bs) / d = (b / d + e * (val bs % d)) + 256 * (val bs / d) := by
      rcases hd with ⟨rfl, rfl⟩ | ⟨rfl, rfl⟩ <;> omega
    have e2 : b / d + e * (val bs % d) < 256 := by
      rcases hd with ⟨rfl, rfl⟩ | ⟨rfl, rfl⟩ <;> omega
    rw [e1, land_split e2 hm]
theorem val_add {f g : Nat → Nat} : ∀ {bs : List Nat}, val (bs.map f) + val (bs.map g) = val (bs.map fun b => f b + g b)
  | [] => rfl
  | b :: bs => by
    have ih := val_add (f := f) (g := g) (bs := bs)
    show (f b + 256 * val (bs.map f)) + (g b + 256 * val (bs.map g)) = (f b + g b) + 256 * val (bs.map fun b => f b + g b)
    rw [← ih]; omega
def ca1 (b : Nat) : Nat := ((b / 2) &&& 85) + (b &&& 85)
def ca2 (b : Nat) : Nat := ((b / 4) &&& 51) + (b &&& 51)
def ca3 (b : Nat) : Nat := b / 16 + b % 16
theorem step1 {bs : List Nat} (h : B bs) : ((val bs / 2) &&& val (List.replicate bs.length 85)) + (val bs &&& val (List.replicate bs.length 85)) = val (bs.map ca1) := by
  rw [val_shr (d := 2) (e := 128) (by decide) (.inl ⟨rfl, rfl⟩) (by decide +kernel) h, val_and (by decide) h, val_add]; rfl
theorem step2 {bs : List Nat} (h : B bs) : ((val bs / 4) &&& val (List.replicate bs.length 51)) + (val bs &&& val (List.replicate bs.length 51)) = val (bs.map ca2) := by
  rw [val_shr (d := 4) (e := 64) (by decide) (.inr ⟨rfl, rfl⟩) (by decide +kernel) h, val_and (by decide) h, val_add]; rfl
def N (bs : List Nat) : Prop := ∀ b ∈ bs, b / 16 ≤ 4 ∧ b % 16 ≤ 4
theorem val_mod : ∀ {bs : List Nat}, N bs → val bs % 16 ≤ 4
  | [], _ => by show 0 % 16 ≤ 4; omega
  | b :: bs, h => by
    have := (h b (by simp)).2
    show (b + 256 * val bs) % 16 ≤ 4
    omega
theorem land15 {x : Nat} : x &&& 15 = x % 16 := Nat.and_two_pow_sub_one_eq_mod x 4
theorem step3 : ∀ {bs : List Nat}, N bs → (val bs / 16 + val bs) &&& val (List.replicate bs.length 15) = val (bs.map ca3)
  | [], _ => rfl
  | b :: bs, h => by
    have ih := step3 (bs := bs) (fun x hx => h x (by simp [hx]))
    have hb := h b (by simp)
    have hr := val_mod (bs := bs) (fun x hx => h x (by simp [hx]))
    show ((b + 256 * val bs) / 16 + (b + 256 * val bs)) &&& (15 + 256 * val (List.replicate bs.length 15)) = ca3 b + 256 * val (bs.map ca3)
    have e1 : (b + 256 * val bs) / 16 + (b + 256 * val bs) = (b / 16 + b + 16 * (val bs % 16)) + 256 * (val bs / 16 + val bs) := by omega
    rw [e1, land_split (by omega) (by decide), ih, land15]
    unfold ca3; omega
/-- Bits, one after the other. -/
def pcN : Nat → Nat → Nat
  | 0, _ => 0
  | n + 1, x => x % 2 + pcN n (x / 2)
def pc8 (b : Nat) : Nat := pcN 8 b
theorem pc8_c : ∀ b < 256, ca3 (ca2 (ca1 b)) = pc8 b := by decide +kernel
theorem c1_lt : ∀ b < 256, ca1 b < 256 := by decide +kernel
theorem c2_n : ∀ b < 256, ca2 (ca1 b) / 16 ≤ 4 ∧ ca2 (ca1 b) % 16 ≤ 4 := by decide +kernel
theorem pc8_b : ∀ b < 256, pc8 b ≤ 8 := by decide +kernel
theorem pcN_add : ∀ {n k x : Nat}, pcN (n + k) x = pcN n x + pcN k (x / 2 ^ n)
  | 0, k, x => by simp [pcN]
  | n + 1, k, x => by
    have e : n + 1 + k = (n + k) + 1 := by omega
    rw [e]
    show x % 2 + pcN (n + k) (x / 2) = x % 2 + pcN n (x / 2) + pcN k (x / 2 ^ (n + 1))
    rw [pcN_add, Nat.div_div_eq_div_mul, Nat.pow_succ, Nat.mul_comm 2]; omega
theorem pcN_b : ∀ {n x : Nat}, pcN n x ≤ n
  | 0, _ => Nat.le_refl 0
  | n + 1, x => by
    have := pcN_b (n := n) (x := x / 2)
    show x % 2 + pcN n (x / 2) ≤ n + 1
    omega
theorem pcN_mod : ∀ {n x : Nat}, pcN n (x % 2 ^ n) = pcN n x
  | 0, x => rfl
  | n + 1, x => by
    show x % 2 ^ (n + 1) % 2 + pcN n (x % 2 ^ (n + 1) / 2) = x % 2 + pcN n (x / 2)
    have e1 : x % 2 ^ (n + 1) % 2 = x % 2 := Nat.mod_mod_of_dvd _ ⟨2 ^ n, by rw [Nat.pow_succ, Nat.mul_comm]⟩
    have e2 : x % 2 ^ (n + 1) / 2 = x / 2 % 2 ^ n := by
      rw [Nat.pow_succ, Nat.mul_comm, Nat.mod_mul_right_div_self]
    rw [e1, e2, pcN_mod]
def sumL : List Nat → Nat
  | [] => 0
  | b :: bs => b + sumL bs
theorem pcN_val : ∀ {bs : List Nat}, B bs → pcN (8 * bs.length) (val bs) = sumL (bs.map pc8)
  | [], _ => rfl
  | b :: bs, h => by
    have ih := pcN_val (bs := bs) (fun x hx => h x (by simp [hx]))
    have hb := h b (by simp)
    have e : 8 * (b :: bs).length = 8 + 8 * bs.length := by rw [List.length_cons]; omega
    rw [e, pcN_add]
    show pcN 8 (b + 256 * val bs) + pcN (8 * bs.length) ((b + 256 * val bs) / 2 ^ 8) = pc8 b + sumL (bs.map pc8)
    have e1 : (b + 256 * val bs) / 2 ^ 8 = val bs := by omega
    have e2 : pcN 8 (b + 256 * val bs) = pcN 8 b := by
      rw [← pcN_mod (n := 8) (x := b + 256 * val bs)]
      congr 1; omega
    rw [e1, e2, ih]; rfl
def digits : Nat → Nat → List Nat
  | 0, _ => []
  | n + 1, x => x % 256 :: digits n (x / 256)
theorem digits_len : ∀ {n x : Nat}, (digits n x).length = n
  | 0, _ => rfl
  | n + 1, x => by show (digits n (x / 256)).length + 1 = n + 1; rw [digits_len]
theorem digits_B : ∀ {n x : Nat}, B (digits n x)
  | 0, _ => fun b h => by cases h
  | n + 1, x => fun b h => by
    rcases List.mem_cons.1 h with rfl | h
    · omega
    · exact digits_B b h
theorem digits_val : ∀ {n x : Nat}, x < 256 ^ n → val (digits n x) = x
  | 0, x, h => by show 0 = x; simp at h; omega
  | n + 1, x, h => by
    have h2 : x / 256 < 256 ^ n := by rw [Nat.pow_succ] at h; omega
    show x % 256 + 256 * val (digits n (x / 256)) = x
    rw [digits_val h2]; omega
theorem div_of {x lo m X : Nat} (h : x = lo + m * X) (hl : lo < m) : x / m = X := by
  rw [h, Nat.add_mul_div_left _ _ (by omega), Nat.div_eq_of_lt hl, Nat.zero_add]
theorem sum8 {a b c d e f g h : Nat} (ha : a ≤ 8) (hb : b ≤ 8) (hc : c ≤ 8) (hd : d ≤ 8) (he : e ≤ 8) (hf : f ≤ 8) (hg : g ≤ 8) (hh : h ≤ 8) {v p q r : Nat} (hv : v = a + 256 * b + 65536 * c + 16777216 * d + 4294967296 * e + 1099511627776 * f + 281474976710656 * g + 72057594037927936 * h) (hp : p = v + v / 256) (hq : q = p + p / 65536) (hr : r = q + q / 4294967296) : r % 128 = a + b + c + d + e + f + g + h ∧ v < 18446744073709551616 ∧ p < 18446744073709551616 ∧ q < 18446744073709551616 ∧ r < 9223372036854775808 := by
  have e1 : v / 256 = b + 256 * c + 65536 * d + 16777216 * e + 4294967296 * f + 1099511627776 * g + 281474976710656 * h := div_of (lo := a) (by rw [hv]; simp only [Nat.mul_add, ← Nat.mul_assoc, Nat.reduceMul, ← Nat.add_assoc]) (by clear hv hp hq hr; omega)
  rw [e1] at hp
  have e2 : p / 65536 = (c + d) + 256 * (d + e) + 65536 * (e + f) + 16777216 * (f + g) + 4294967296 * (g + h) + 1099511627776 * h := div_of (lo := (a + b) + 256 * (b + c)) (by rw [hp, hv]; simp only [Nat.mul_add, ← Nat.mul_assoc, Nat.reduceMul]; clear e1 hv hp hq hr; omega) (by clear e1 hv hp hq hr; omega)
  rw [e2] at hq
  have e3 : q / 4294967296 = (e + f + (g + h)) + 256 * ((f + g) + h) + 65536 * (g + h) + 16777216 * h := div_of (lo := (a + b + (c + d)) + 256 * ((b + c) + (d + e)) + 65536 * ((c + d) + (e + f)) + 16777216 * ((d + e) + (f + g))) (by rw [hq, hp, hv]; clear e1 e2 hv hp hq hr; omega) (by clear e1 e2 hv hp hq hr; omega)
  rw [e3] at hr
  refine ⟨?_, ?_, ?_, ?_, ?_⟩
  · have : r = (a + b + c + d + e + f + g + h) + 128 * (2 * ((b + c) + (d + e) + ((f + g) + h)) + 512 * ((c + d) + (e + f) + (g + h)) + 131072 * ((d + e) + (f + g) + h) + 33554432 * (e + f + (g + h)) + 8589934592 * (f + g + h) + 2199023255552 * (g + h) + 562949953421312 * h) := by
      rw [hr, hq, hp, hv]; clear e1 e2 e3 hv hp hq hr; omega
    rw [this, Nat.add_mul_mod_self_left, Nat.mod_eq_of_lt (by clear e1 e2 e3 hv hp hq hr this; omega)]
  · clear e1 e2 e3 hp hq hr; omega
  · rw [hp, hv]; clear e1 e2 e3 hp hq hr hv; omega
  · rw [hq, hp, hv]; clear e1 e2 e3 hp hq hr hv; omega
  · rw [hr, hq, hp, hv]; clear e1 e2 e3 hp hq hr hv; omega
theorem val_le {m : Nat} : ∀ {bs : List Nat}, (∀ b ∈ bs, b ≤ m) → val bs ≤ val (List.replicate bs.length m)
  | [], _ => Nat.le_refl 0
  | b :: bs, h => by
    have ih := val_le (bs := bs) (fun x hx => h x (by simp [hx]))
    have hb := h b (by simp)
    show b + 256 * val bs ≤ m + 256 * val (List.replicate bs.length m)
    omega
theorem pop_facts {x : Nat} (hx : x < 18446744073709551616) : ∃ a b c d e f : Nat, a = ((x / 2) &&& 6148914691236517205) + (x &&& 6148914691236517205) ∧ a < 18446744073709551616 ∧ b = ((a / 4) &&& 3689348814741910323) + (a &&& 3689348814741910323) ∧ b < 9223372036854775808 ∧ c = (b / 16 + b) &&& 1085102592571150095 ∧ c < 18446744073709551616 ∧ d = c + c / 256 ∧ d < 18446744073709551616 ∧ e = d + d / 65536 ∧ e < 18446744073709551616 ∧ f = e + e / 4294967296 ∧ f < 9223372036854775808 ∧ f % 128 = pcN 64 x := by
  have hv := digits_val (n := 8) (x := x) (by simpa using hx)
  have hl := digits_len (n := 8) (x := x)
  have hB := digits_B (n := 8) (x := x)
  generalize digits 8 x = bs at *
  have hB1 : B (bs.map ca1) := fun b h => by
    obtain ⟨y, hy, rfl⟩ := List.mem_map.1 h
    exact c1_lt y (hB y hy)
  have hN : N ((bs.map ca1).map ca2) := fun b h => by
    obtain ⟨z, hz, rfl⟩ := List.mem_map.1 h
    obtain ⟨y, hy, rfl⟩ := List.mem_map.1 hz
    exact c2_n y (hB y hy)
  have s1 := step1 hB
  have s2 := step2 hB1
  have s3 := step3 hN
  have l1 : (bs.map ca1).length = 8 := by rw [List.length_map]; exact hl
  have l2 : ((bs.map ca1).map ca2).length = 8 := by rw [List.length_map]; exact l1
  have m1 := val_le (m := 255) (bs := bs.map ca1) (fun b h => by have := hB1 b h; omega)
  have m2 := val_le (m := 68) (bs := (bs.map ca1).map ca2) (fun b h => by have := hN b h; omega)
  have hp := pcN_val hB
  rw [hl, hv] at s1 hp
  rw [l1] at s2 m1
  rw [l2] at s3 m2
  have k1 : val (List.replicate 8 85) = 6148914691236517205 := by decide
  have k2 : val (List.replicate 8 51) = 3689348814741910323 := by decide
  have k3 : val (List.replicate 8 15) = 1085102592571150095 := by decide
  have k4 : val (List.replicate 8 255) = 18446744073709551615 := by decide
  have k5 : val (List.replicate 8 68) = 4919131752989213764 := by decide
  rw [k1] at s1; rw [k2] at s2; rw [k3] at s3; rw [k4] at m1; rw [k5] at m2
  have e3 : ((bs.map ca1).map ca2).map ca3 = bs.map pc8 := by
    rw [List.map_map, List.map_map]
    apply List.map_congr_left
    intro b h; exact pc8_c b (hB b h)
  rw [e3] at s3
  have hw : ∀ w ∈ bs.map pc8, w ≤ 8 := fun w h => by
    obtain ⟨y, hy, rfl⟩ := List.mem_map.1 h
    exact pc8_b y (hB y hy)
  have lw : (bs.map pc8).length = 8 := by rw [List.length_map]; exact hl
  generalize bs.map pc8 = ws at *
  generalize val (List.map ca1 bs) = a at *
  generalize val (List.map ca2 (List.map ca1 bs)) = b at *
  match ws, lw with
  | [w0, w1, w2, w3, w4, w5, w6, w7], _ =>
    have ev : val [w0, w1, w2, w3, w4, w5, w6, w7] = w0 + 256 * w1 + 65536 * w2 + 16777216 * w3 + 4294967296 * w4 + 1099511627776 * w5 + 281474976710656 * w6 + 72057594037927936 * w7 := by
      show w0 + 256 * (w1 + 256 * (w2 + 256 * (w3 + 256 * (w4 + 256 * (w5 + 256 * (w6 + 256 * (w7 + 256 * 0))))))) = _
      clear s1 s2 s3 m1 m2 hp hv; omega
    have q := sum8 (hw w0 (by simp)) (hw w1 (by simp)) (hw w2 (by simp)) (hw w3 (by simp)) (hw w4 (by simp)) (hw w5 (by simp)) (hw w6 (by simp)) (hw w7 (by simp)) ev rfl rfl rfl
    generalize val [w0, w1, w2, w3, w4, w5, w6, w7] = c at *
    obtain ⟨q1, q2, q3, q4, q5⟩ := q
    refine ⟨a, b, c, _, _, _, s1.symm, by clear q1 hp; omega, s2.symm, by clear q1 hp; omega, s3.symm, q2, rfl, q3, rfl, q4, rfl, q5, ?_⟩
    rw [q1, show (64 : Nat) = 8 * 8 from rfl, hp]
    show _ = w0 + (w1 + (w2 + (w3 + (w4 + (w5 + (w6 + (w7 + 0)))))))
    clear q1 q2 q3 q4 q5 s1 s2 s3 m1 m2 hp; omega
end Go.Proofs.YtcfabmmonoljeaaDoor
