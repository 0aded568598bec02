/- What functions of the program answer: parts Nats Ok Dec. -/
import Derived.Test.YtcfabmmonoljeaaDoorChecked
import Derived.Lib.ItoaNum
import Derived.Lib.LaidTab
import Derived.Lib.SplitLaws
import Derived.Test.YtcfabmmonoljeaaDoorShelf
import Derived.Test.YtcfabmmonoljeaaDoorViE
import Derived.Test.YtcfabmmonoljeaaDoorCode
import Derived.WalkKit
import Derived.Lib.Walk
import Derived.Laws.NewBlocks
import Derived.Laws.IdiomStrings
import Derived.Deep.RegionWith
import Derived.Shelf.RegionOpenPlain
/- What functions of the program answer: part Nats. -/
set_option linter.unusedVariables false
set_option linter.unusedSimpArgs false
set_option linter.unusedSectionVars false
namespace Go.Proofs.YtcfabmmonoljeaaDoor
open Go Go.RowKit Go.Sort Go.Proofs.YtcfabmmonoljeaaDoor.VI
theorem below_grow {w : World} {k : Nat} {os : Array Obj} : Below w.heap.size w (grow (w.drewN k) os) := by
  refine ⟨rfl, rfl, rfl, ?_, fun i hi => ?_⟩
  · show w.heap.size ≤ (w.heap ++ os).size
    rw [Array.size_append]; omega
  · show (w.heap ++ os)[i]? = _
    rw [Array.getElem?_append_left hi]
theorem decD_eq (n : Nat) : decD n = Lib.decDigits n := by
  induction n using Nat.strongRecOn with
  | _ n ih =>
    unfold decD
    rw [Lib.decDigits]
    by_cases h : n < 10
    · rw [dif_pos h, dif_pos h]
    · rw [dif_neg h, dif_neg h, ih _ (by omega)]
theorem tab_of {w : World} {t : TypeId} {fr : Nat × Nat} (h : w.heap[1]? = some (.cells pow10L.toArray t fr)) : Lib.TabIs Tryd.prog w "internal/strconv.uint64pow10" .u64 Lib.pow10Tab := by
  unfold Lib.TabIs World.var?
  rw [show Tryd.prog.globalNamed "internal/strconv.uint64pow10" = some 1 by kernel_rfl]
  simp only [Option.bind_some, h]
  rfl
theorem fmt_calls (n : Nat) (w : World) (hn : n ≤ 9223372036854775807) (ht : ∃ (t : TypeId) (fr : Nat × Nat), w.heap[1]? = some (.cells pow10L.toArray t fr)) : Calls Tryd.prog 75 #[.int .i64 n, .int .i64 10] w fun e w' => e = .returned (.string (decB n)) ∧ Below w.heap.size w w' := by
  obtain ⟨t, fr, ht⟩ := ht
  refine (Tryd.strconv_FormatInt_10 n (by omega) (by omega) w (tab_of ht)).mono ?_
  rintro e w' ⟨rfl, k, os, rfl⟩
  refine ⟨?_, below_grow⟩
  have e1 : Lib.itoa (n : Int) = decD n := by
    unfold Lib.itoa
    rw [if_neg (by omega), decD_eq]
    simp
  rw [e1]
  simp [decB]
theorem idxL_eq (s t : List UInt8) : idxL s t = Lib.index s t := by
  induction s with
  | nil => rfl
  | cons b l ih => unfold idxL Lib.index; rw [ih]
theorem index_calls (s t : ByteArray) (m : Int) (w : World) (hs : s.size < 4294967281) (hm : w.cell? ⟨0, 0, none⟩ = some (.int .i64 m)) : Calls Tryd.prog 43 #[.string s, .string t] w fun e w' => e = .returned (.int .i64 (idxL s.data.toList t.data.toList)) ∧ w' = w := by
  rw [idxL_eq]
  exact Tryd.strings_Index s t m w hs hm
theorem splitK_eq (c : UInt8) : ∀ (s : List UInt8), Lib.splitK [c] 0 (s.count c) s = splitL c s
  | [] => rfl
  | b :: l => by
    have ih := splitK_eq c l
    by_cases h : b = c
    · subst h
      rw [List.count_cons_self, splitL, if_pos rfl, ← ih]
      have hix : Lib.index (b :: l) [b] = 0 := by rw [Lib.index]; simp [List.isPrefixOf]
      have e : ∀ n, Lib.splitK [b] 0 (n + 1) (b :: l) = [] :: Lib.splitK [b] 0 n l := fun n => by
        rw [Lib.splitK, hix]
        simp
      exact e _
    · have hp : ([c] : List UInt8).isPrefixOf (b :: l) = false := by simp [List.isPrefixOf, Ne.symm h]
      have hix : Lib.index (b :: l) [c] = if Lib.index l [c] == -1 then -1 else Lib.index l [c] + 1 := by rw [Lib.index, hp]; simp
      rw [List.count_cons_of_ne (by simpa using h), splitL, if_neg h, ← ih]
      cases hk : l.count c with
      | zero => rfl
      | succ k =>
        by_cases hm : Lib.index l [c] = -1
        · unfold Lib.splitK
          rw [hix, hm]
          rfl
        · have hge := Lib.index_ge l [c]
          obtain ⟨j, hj⟩ : ∃ j : Nat, Lib.index l [c] = j := ⟨(Lib.index l [c]).toNat, by omega⟩
          have e1 : ((j : Int) + 1).toNat = j + 1 := by omega
          have e2 : ¬ (((j : Int) + 1 == -1) = true) := by simp only [beq_iff_eq]; omega
          have e3 : ¬ (((j : Int) == -1) = true) := by simp only [beq_iff_eq]; omega
          unfold Lib.splitK
          rw [hix, hj, if_neg e3, if_neg e2, if_neg e3]
          simp [e1]
theorem split_calls (s : ByteArray) (m : Int) (w : World) (hs : s.size < 4294967281) (hm : w.cell? ⟨0, 0, none⟩ = some (.int .i64 m)) : Calls Tryd.prog 41 #[.string s, .string ⟨#[32]⟩] w fun r w' => r = .returned (.slice (some ⟨w.heap.size, 0, none⟩) (splitL 32 s.data.toList).length (splitL 32 s.data.toList).length) ∧ w' = w.alloc (.cells ((splitL 32 s.data.toList).map fun p => Value.string ⟨p.toArray⟩).toArray 9) := by
  have h1 : 1 ≤ (⟨#[32]⟩ : ByteArray).size := by decide
  have hc : Lib.countB s ⟨#[32]⟩ = s.data.toList.count 32 := Lib.count_one 32 s.data.toList
  have hd := Lib.splitB_data ⟨#[32]⟩ 0 (Lib.countB s ⟨#[32]⟩) s
  have hl := Lib.splitB_all ⟨#[32]⟩ h1 0 (Lib.countB s ⟨#[32]⟩) s rfl
  have hk : (Lib.splitB ⟨#[32]⟩ 0 (Lib.countB s ⟨#[32]⟩) s).map (·.data.toList) = splitL 32 s.data.toList := by
    rw [hd, hc]; exact splitK_eq 32 _
  have hn : (splitL 32 s.data.toList).length = Lib.countB s ⟨#[32]⟩ + 1 := by rw [← hk, List.length_map, hl]
  refine (Tryd.strings_Split s ⟨#[32]⟩ m w hs hm h1).mono ?_
  rintro r w' ⟨rfl, rfl⟩
  refine ⟨by rw [hn], ?_⟩
  rw [← hk, List.map_map]
  rfl
theorem fn75 : FnOk Tryd.prog 75 := ⟨⟨_, Tryd.func75, by kernel_rfl, by kernel_rfl⟩⟩
theorem fn43 : FnOk Tryd.prog 43 := ⟨⟨_, Tryd.func43, by kernel_rfl, by kernel_rfl⟩⟩
theorem fn41 : FnOk Tryd.prog 41 := ⟨⟨_, Tryd.func41, by kernel_rfl, by kernel_rfl⟩⟩
theorem fn80 : FnOk Tryd.prog 80 := ⟨⟨_, Tryd.func80, by kernel_rfl, by kernel_rfl⟩⟩
theorem ok75 : NatOk Tryd.prog 75 2 fmtA := nat_fmt fn75 fun n w hn ht => fmt_calls n w hn ht
theorem ok43 : NatOk Tryd.prog 43 2 indexA := nat_index fn43 index_calls
theorem ok41 : NatOk Tryd.prog 41 2 (splitA 9) := nat_split fn41 split_calls
end Go.Proofs.YtcfabmmonoljeaaDoor

/- What functions of the program answer: part Ok. -/
set_option linter.unusedVariables false
set_option linter.unusedSimpArgs false
set_option linter.unusedSectionVars false
namespace Go.Proofs.YtcfabmmonoljeaaDoor
open Go Go.RowKit Go.Proofs.YtcfabmmonoljeaaDoor.VI
theorem callok_of (h80 : NatOk Tryd.prog 80 1 decA) (h92 : NatOk Tryd.prog 92 3 (insA 91 2 4)) : CallOk Tryd.prog (ev kk) := ev_okN (by kernel_rfl) (fun f kf h => by
  unfold kk at h
  split at h
  · rename_i hf; subst hf; injection h with h; subst h
    exact .inr ⟨2, 1, _, rfl, ok41⟩
  split at h
  · rename_i hf; subst hf; injection h with h; subst h
    exact .inr ⟨2, 1, _, rfl, ok43⟩
  split at h
  · rename_i hf; subst hf; injection h with h; subst h
    exact .inr ⟨2, 1, _, rfl, ok75⟩
  split at h
  · rename_i hf; subst hf; injection h with h; subst h
    exact .inr ⟨1, 1, _, rfl, h80⟩
  split at h
  · rename_i hf; subst hf; injection h with h; subst h
    exact .inr ⟨3, 1, _, rfl, h92⟩
  exact .inl ⟨_, h⟩)
end Go.Proofs.YtcfabmmonoljeaaDoor

/- What functions of the program answer: part Dec. -/
set_option linter.unusedVariables false
set_option linter.unusedSimpArgs false
set_option linter.unusedSectionVars false
namespace Go.Proofs.YtcfabmmonoljeaaDoor
open Go Go.RowKit Go.Lib Go.Proofs.YtcfabmmonoljeaaDoor.VI
set_option maxHeartbeats 4000000
set_option maxRecDepth 100000
theorem mixed : Tryd.prog.follows .mixedOrders = true := by kernel_rfl
theorem t22 : Tryd.prog.underlying 22 = some (.slice 5) := by kernel_rfl
theorem t5 : Tryd.prog.underlying 5 = some (.int .u8) := by kernel_rfl
theorem t9 : Tryd.prog.underlying 9 = some .string := by kernel_rfl
theorem dec_len (n : Nat) : (Lib.decDigits n).length ≤ n + 1 := by
  induction n using Nat.strongRecOn with
  | _ n ih =>
    rw [Lib.decDigits]
    by_cases h : n < 10
    · rw [dif_pos h]; simp
    · rw [dif_neg h, List.length_append]
      have := ih (n / 10) (by omega)
      simp only [List.length_cons, List.length_nil]; omega
theorem conv_in {n : Nat} {z : Int} (hz : z = 48 + (n : Int) % 10) {b : Nat} {w : World} {fr : Nat × Nat} (hh : w.heap[b]? = some (.cells #[.int .u8 z] 5 fr)) : (convert 22 9 (.slice (some ⟨b, 0, none⟩) 1 1)).run Tryd.prog w = .ok (.string ⟨#[UInt8.ofNat (48 + n % 10)]⟩) w := by
  have h := run_convert_bytes_back (P := Tryd.prog) w 22 9 5 ⟨b, 0, none⟩ 1 [UInt8.ofNat (48 + n % 10)] t22 t5 t9 (fun j hj => by
    have : j = 0 := by simpa using hj
    subst this
    have e : ((UInt8.ofNat (48 + n % 10)).toNat : Int) = z := by
      rw [hz]
      have : (UInt8.ofNat (48 + n % 10)).toNat = 48 + n % 10 := by simp; omega
      rw [this]; omega
    simp only [List.getElem_cons_zero, e]
    unfold World.cell?
    show (match w.heap[b]? with | some (.cells c _ _) => _ | _ => _) = _
    rw [hh]
    rfl)
  exact h
theorem new_at (w : World) (o : Obj) : (w.alloc o).heap[w.heap.size]? = some o := by
  show (w.heap.push _)[w.heap.size]? = _
  rw [Array.getElem?_push_size]
theorem conv_one {n : Nat} {z : Int} (hz : z = 48 + (n : Int) % 10) (W : World) : (convert 22 9 (.slice (some ⟨W.heap.size, 0, none⟩) 1 1)).run Tryd.prog (W.alloc (.cells #[.int .u8 z] 5)) = .ok (.string ⟨#[UInt8.ofNat (48 + n % 10)]⟩) (W.alloc (.cells #[.int .u8 z] 5)) :=
  conv_in hz (new_at W _)
theorem below_after {w w' : World} {o : Obj} (hb : Below w.drew.heap.size w.drew w') : Below w.heap.size w (w'.alloc o) :=
  Below.alloc (B := w.heap.size) (a := w) (w := w') ⟨hb.os, hb.tape, hb.output, hb.size, hb.block⟩ hb.size _
theorem below_behind {w w' : World} {o : Obj} (hb : Below (w.alloc o).drew.heap.size (w.alloc o).drew w') : Below w.heap.size w w' := by
  have h1 : Below w.heap.size w (w.alloc o) := Below.alloc (.refl _ _) (Nat.le_refl _) _
  exact ⟨hb.os, hb.tape, hb.output, Nat.le_trans h1.size hb.size, fun k hk => (hb.block k (Nat.lt_of_lt_of_le hk h1.size)).trans (h1.block k hk)⟩
theorem dec_calls : ∀ (n : Nat), n ≤ 9223372036854775807 → ∀ w : World, Calls Tryd.prog 80 #[.int .i64 n] w fun e w' => e = .returned (.string ⟨(Lib.decDigits n).toArray⟩) ∧ Below w.heap.size w w' := by
  intro n
  induction n using Nat.strongRecOn with
  | _ n ih =>
    intro hn w
    have mixed := mixed
    have hcv := fun W => conv_one (n := n) rfl W
    have hz : IntKind.u8.wrap (IntKind.i64.wrap (48 + (n : Int).tmod 10)) = 48 + (n : Int) % 10 := by
      rw [Int.tmod_eq_emod_of_nonneg (by omega), IntKind.wrap_i64, IntKind.wrap_u8]; omega
    have hcv2 := fun W => conv_one hz W
    by_cases h : n < 10
    · go_enter Tryd.func80, Tryd.ntmps80
      go_wp2
      go_ret
      refine ⟨?_, Below.alloc (.refl _ _) (Nat.le_refl _) _⟩
      show Ending.returned (Value.string ⟨#[48 + UInt8.ofNat (n % 10)]⟩) = _
      rw [Lib.decDigits, dif_pos h, Nat.mod_eq_of_lt h]
      simp
    · have hc : ∀ w : World, Calls Tryd.prog 80 #[.int .i64 (IntKind.i64.wrap ((n : Int) / 10))] w fun e w' => e = .returned (.string ⟨(Lib.decDigits (n / 10)).toArray⟩) ∧ Below w.heap.size w w' ∧ ∀ (b : Nat), w.heap[b]? = some (.cells #[.int .u8 (48 + (n : Int) % 10)] 5) → (convert 22 9 (.slice (some ⟨b, 0, none⟩) 1 1)).run Tryd.prog w' = .ok (.string ⟨#[UInt8.ofNat (48 + n % 10)]⟩) w' := fun w => by
        rw [show IntKind.i64.wrap ((n : Int) / 10) = ((n / 10 : Nat) : Int) by rw [IntKind.wrap_i64]; omega]
        refine (ih (n / 10) (by omega) (by omega) w).mono ?_
        rintro e w' ⟨he, hb⟩
        exact ⟨he, hb, fun b hW => conv_in rfl ((hb.block b (Array.getElem?_eq_some_iff.1 hW).1).trans hW)⟩
      have hsz : (⟨(Lib.decDigits (n / 10)).toArray⟩ : ByteArray).size + (⟨#[48 + UInt8.ofNat (n % 10)]⟩ : ByteArray).size ≤ 9223372036854775807 := by
        have h1 := dec_len (n / 10)
        show (Lib.decDigits (n / 10)).toArray.size + 1 ≤ _
        rw [List.size_toArray]; omega
      have hcat := fun w => run_string_add_sum (P := Tryd.prog) w _ _ hsz
      have hnew : ∀ o, (w.alloc o).drew.heap[w.heap.size]? = some o := fun o => new_at w o
      have hcv3 := conv_in (n := n) rfl (w := (w.alloc (.cells #[.int .u8 (48 + (n : Int) % 10)] 5)).drew) (hnew _)
      clear ih hsz
      go_enter Tryd.func80, Tryd.ntmps80
      go_wp2
      go_region_with (go_at_call 80; refine (hc _).mono ?_; rintro e w' ⟨rfl, hb, hk⟩; (try (have hk2 := hk _ (hnew _))); clear hk)
      all_goals go_wp2
      all_goals go_ret
      all_goals refine ⟨?_, ?_⟩
      all_goals first
        | exact below_after hb
        | exact below_behind hb
        | (show Ending.returned (Value.string (⟨(Lib.decDigits (n / 10)).toArray⟩ ++ ⟨#[48 + UInt8.ofNat (n % 10)]⟩)) = _
           rw [show Lib.decDigits n = Lib.decDigits (n / 10) ++ [UInt8.ofNat (48 + n % 10)] by rw [Lib.decDigits, dif_neg h]]
           congr 2
           apply ByteArray.ext
           simp [ByteArray.data_append])
end Go.Proofs.YtcfabmmonoljeaaDoor
