/- What functions of the program answer: part Nats. -/
import Derived.Test.YtcfabmmonoljeaaDoorChecked
import Derived.Lib.ItoaNum
import Derived.Lib.LaidTab
import Derived.Lib.SplitLaws
import Derived.Test.YtcfabmmonoljeaaDoorShelf
import Derived.Test.YtcfabmmonoljeaaDoorViE
set_option linter.unusedVariables false
set_option linter.unusedSimpArgs false
set_option linter.unusedSectionVars false
namespace Go.Proofs.YtcfabmmonoljeaaDoor
open Go Go.RowKit Go.Sort Go.Proofs.YtcfabmmonoljeaaDoor.VI
theorem below_grow {w : World} {k : Nat} {os : Array Obj} : Below w.heap.size w (grow (w.drewN k) os) := by
  refine ⟨rfl, rfl, rfl, ?_, fun i hi => ?_⟩
  · show w.heap.size ≤ (w.heap ++ os).size
    rw [Array.size_append]; omega
  · show (w.heap ++ os)[i]? = _
    rw [Array.getElem?_append_left hi]
theorem decD_eq (n : Nat) : decD n = Lib.decDigits n := by
  induction n using Nat.strongRecOn with
  | _ n ih =>
    unfold decD
    rw [Lib.decDigits]
    by_cases h : n < 10
    · rw [dif_pos h, dif_pos h]
    · rw [dif_neg h, dif_neg h, ih _ (by omega)]
theorem tab_of {w : World} {t : TypeId} {fr : Nat × Nat} (h : w.heap[1]? = some (.cells pow10L.toArray t fr)) : Lib.TabIs Tryd.prog w "internal/strconv.uint64pow10" .u64 Lib.pow10Tab := by
  unfold Lib.TabIs World.var?
  rw [show Tryd.prog.globalNamed "internal/strconv.uint64pow10" = some 1 by kernel_rfl]
  simp only [Option.bind_some, h]
  rfl
theorem fmt_calls (n : Nat) (w : World) (hn : n ≤ 9223372036854775807) (ht : ∃ (t : TypeId) (fr : Nat × Nat), w.heap[1]? = some (.cells pow10L.toArray t fr)) : Calls Tryd.prog 75 #[.int .i64 n, .int .i64 10] w fun e w' => e = .returned (.string (decB n)) ∧ Below w.heap.size w w' := by
  obtain ⟨t, fr, ht⟩ := ht
  refine (Tryd.strconv_FormatInt_10 n (by omega) (by omega) w (tab_of ht)).mono ?_
  rintro e w' ⟨rfl, k, os, rfl⟩
  refine ⟨?_, below_grow⟩
  have e1 : Lib.itoa (n : Int) = decD n := by
    unfold Lib.itoa
    rw [if_neg (by omega), decD_eq]
    simp
  rw [e1]
  simp [decB]
theorem idxL_eq (s t : List UInt8) : idxL s t = Lib.index s t := by
  induction s with
  | nil => rfl
  | cons b l ih => unfold idxL Lib.index; rw [ih]
theorem index_calls (s t : ByteArray) (m : Int) (w : World) (hs : s.size < 4294967281) (hm : w.cell? ⟨0, 0, none⟩ = some (.int .i64 m)) : Calls Tryd.prog 43 #[.string s, .string t] w fun e w' => e = .returned (.int .i64 (idxL s.data.toList t.data.toList)) ∧ w' = w := by
  rw [idxL_eq]
  exact Tryd.strings_Index s t m w hs hm
theorem splitK_eq (c : UInt8) : ∀ (s : List UInt8), Lib.splitK [c] 0 (s.count c) s = splitL c s
  | [] => rfl
  | b :: l => by
    have ih := splitK_eq c l
    by_cases h : b = c
    · subst h
      rw [List.count_cons_self, splitL, if_pos rfl, ← ih]
      have hix : Lib.index (b :: l) [b] = 0 := by rw [Lib.index]; simp [List.isPrefixOf]
      have e : ∀ n, Lib.splitK [b] 0 (n + 1) (b :: l) = [] :: Lib.splitK [b] 0 n l := fun n => by
        rw [Lib.splitK, hix]
        simp
      exact e _
    · have hp : ([c] : List UInt8).isPrefixOf (b :: l) = false := by simp [List.isPrefixOf, Ne.symm h]
      have hix : Lib.index (b :: l) [c] = if Lib.index l [c] == -1 then -1 else Lib.index l [c] + 1 := by rw [Lib.index, hp]; simp
      rw [List.count_cons_of_ne (by simpa using h), splitL, if_neg h, ← ih]
      cases hk : l.count c with
      | zero => rfl
      | succ k =>
        by_cases hm : Lib.index l [c] = -1
        · unfold Lib.splitK
          rw [hix, hm]
          rfl
        · have hge := Lib.index_ge l [c]
          obtain ⟨j, hj⟩ : ∃ j : Nat, Lib.index l [c] = j := ⟨(Lib.index l [c]).toNat, by omega⟩
          have e1 : ((j : Int) + 1).toNat = j + 1 := by omega
          have e2 : ¬ (((j : Int) + 1 == -1) = true) := by simp only [beq_iff_eq]; omega
          have e3 : ¬ (((j : Int) == -1) = true) := by simp only [beq_iff_eq]; omega
          unfold Lib.splitK
          rw [hix, hj, if_neg e3, if_neg e2, if_neg e3]
          simp [e1]
theorem split_calls (s : ByteArray) (m : Int) (w : World) (hs : s.size < 4294967281) (hm : w.cell? ⟨0, 0, none⟩ = some (.int .i64 m)) : Calls Tryd.prog 41 #[.string s, .string ⟨#[32]⟩] w fun r w' => r = .returned (.slice (some ⟨w.heap.size, 0, none⟩) (splitL 32 s.data.toList).length (splitL 32 s.data.toList).length) ∧ w' = w.alloc (.cells ((splitL 32 s.data.toList).map fun p => Value.string ⟨p.toArray⟩).toArray 9) := by
  have h1 : 1 ≤ (⟨#[32]⟩ : ByteArray).size := by decide
  have hc : Lib.countB s ⟨#[32]⟩ = s.data.toList.count 32 := Lib.count_one 32 s.data.toList
  have hd := Lib.splitB_data ⟨#[32]⟩ 0 (Lib.countB s ⟨#[32]⟩) s
  have hl := Lib.splitB_all ⟨#[32]⟩ h1 0 (Lib.countB s ⟨#[32]⟩) s rfl
  have hk : (Lib.splitB ⟨#[32]⟩ 0 (Lib.countB s ⟨#[32]⟩) s).map (·.data.toList) = splitL 32 s.data.toList := by
    rw [hd, hc]; exact splitK_eq 32 _
  have hn : (splitL 32 s.data.toList).length = Lib.countB s ⟨#[32]⟩ + 1 := by rw [← hk, List.length_map, hl]
  refine (Tryd.strings_Split s ⟨#[32]⟩ m w hs hm h1).mono ?_
  rintro r w' ⟨rfl, rfl⟩
  refine ⟨by rw [hn], ?_⟩
  rw [← hk, List.map_map]
  rfl
theorem fn75 : FnOk Tryd.prog 75 := ⟨⟨_, Tryd.func75, by kernel_rfl, by kernel_rfl⟩⟩
theorem fn43 : FnOk Tryd.prog 43 := ⟨⟨_, Tryd.func43, by kernel_rfl, by kernel_rfl⟩⟩
theorem fn41 : FnOk Tryd.prog 41 := ⟨⟨_, Tryd.func41, by kernel_rfl, by kernel_rfl⟩⟩
theorem fn80 : FnOk Tryd.prog 80 := ⟨⟨_, Tryd.func80, by kernel_rfl, by kernel_rfl⟩⟩
theorem ok75 : NatOk Tryd.prog 75 2 fmtA := nat_fmt fn75 fun n w hn ht => fmt_calls n w hn ht
theorem ok43 : NatOk Tryd.prog 43 2 indexA := nat_index fn43 index_calls
theorem ok41 : NatOk Tryd.prog 41 2 (splitA 9) := nat_split fn41 split_calls
end Go.Proofs.YtcfabmmonoljeaaDoor
