/- What functions of the program answer: part Nats. -/
import Derived.Test.YtmockobmiagbcaaDoorChecked
import Derived.Lib.ItoaNum
import Derived.Lib.LaidTab
import Derived.Lib.SplitLaws
import Derived.Test.YtmockobmiagbcaaDoorShelf
import Derived.Test.YtmockobmiagbcaaDoorViE
set_option linter.unusedVariables false
set_option linter.unusedSimpArgs false
set_option linter.unusedSectionVars false
namespace Go.Proofs.YtmockobmiagbcaaDoor
open Go Go.RowKit Go.Sort Go.Proofs.YtmockobmiagbcaaDoor.VI
theorem below_grow {w : World} {k : Nat} {os : Array Obj} : Below w.heap.size w (grow (w.drewN k) os) := by
  refine ⟨rfl, rfl, rfl, ?_, fun i hi => ?_⟩
  · show w.heap.size ≤ (w.heap ++ os).size
    rw [Array.size_append]; omega
  · show (w.heap ++ os)[i]? = _
    rw [Array.getElem?_append_left hi]
theorem decD_eq (n : Nat) : decD n = Lib.decDigits n := by
  induction n using Nat.strongRecOn with
  | _ n ih =>
    unfold decD
    rw [Lib.decDigits]
    by_cases h : n < 10
    · rw [dif_pos h, dif_pos h]
    · rw [dif_neg h, dif_neg h, ih _ (by omega)]
theorem tab_of {w : World} {t : TypeId} {fr : Nat × Nat} (h : w.heap[1]? = some (.cells pow10L.toArray t fr)) : Lib.TabIs Tryd.prog w "internal/strconv.uint64pow10" .u64 Lib.pow10Tab := by
  unfold Lib.TabIs World.var?
  rw [show Tryd.prog.globalNamed "internal/strconv.uint64pow10" = some 1 by kernel_rfl]
  simp only [Option.bind_some, h]
  rfl
theorem fmt_calls (n : Nat) (w : World) (hn : n ≤ 9223372036854775807) (ht : ∃ (t : TypeId) (fr : Nat × Nat), w.heap[1]? = some (.cells pow10L.toArray t fr)) : Calls Tryd.prog 62 #[.int .i64 n, .int .i64 10] w fun e w' => e = .returned (.string (decB n)) ∧ Below w.heap.size w w' := by
  obtain ⟨t, fr, ht⟩ := ht
  refine (Tryd.strconv_FormatInt_10 n (by omega) (by omega) w (tab_of ht)).mono ?_
  rintro e w' ⟨rfl, k, os, rfl⟩
  refine ⟨?_, below_grow⟩
  have e1 : Lib.itoa (n : Int) = decD n := by
    unfold Lib.itoa
    rw [if_neg (by omega), decD_eq]
    simp
  rw [e1]
  simp [decB]
theorem idxL_eq (s t : List UInt8) : idxL s t = Lib.index s t := by
  induction s with
  | nil => rfl
  | cons b l ih => unfold idxL Lib.index; rw [ih]
theorem cut_calls (s t : ByteArray) (m : Int) (w : World) (hs : s.size < 4294967281) (hm : w.cell? ⟨0, 0, none⟩ = some (.int .i64 m)) : Calls Tryd.prog 30 #[.string s, .string t] w fun e w' => e = .returned (.tuple #[.string ⟨(cutL s.data.toList t.data.toList).1.toArray⟩, .string ⟨(cutL s.data.toList t.data.toList).2.1.toArray⟩, .bool (cutL s.data.toList t.data.toList).2.2]) ∧ ∃ n, w' = w.drewN n := by
  have e : cutL s.data.toList t.data.toList = Lib.cut s.data.toList t.data.toList := by
    have hge := Lib.index_ge s.data.toList t.data.toList
    unfold cutL Lib.cut
    rw [idxL_eq]
    by_cases h : Lib.index s.data.toList t.data.toList = -1
    · rw [if_pos h, if_neg (by omega)]
    · rw [if_neg h, if_pos (by omega)]
  rw [e]
  exact Tryd.strings_Cut s t m w hs hm
theorem join_eq (t : List UInt8) : ∀ (ps : List (List UInt8)), joinT t ps = Lib.join ps t
  | [] => rfl
  | [p] => by simp [joinT, Lib.join]
  | p :: q :: r => by
    rw [joinT, join_eq t (q :: r)]
    simp [Lib.join, List.intercalate, List.intersperse]
theorem join_calls (bk o c : Nat) (xs : List ByteArray) (t : ByteArray) (w : World) (h1 : ∀ (j : Nat) x, xs[j]? = some x → w.cell? ⟨bk, o + j, none⟩ = some (.string x)) (h2 : bk < w.heap.size) (h3 : xs.length ≤ 140737488355328) (h4 : xs.length ≤ c) (h5 : (joinT t.data.toList (xs.map (·.data.toList))).length ≤ 140737488355328) :
    Calls Tryd.prog 61 #[.slice (some ⟨bk, o, none⟩) xs.length c, .string t] w fun e w' => e = .returned (.string ⟨(joinT t.data.toList (xs.map (·.data.toList))).toArray⟩) ∧ Below w.heap.size w w' := by
  rw [join_eq] at h5 ⊢
  exact Tryd.strings_Join bk o c xs t w h1 h2 h3 h4 h5
theorem splitK_eq (c : UInt8) : ∀ (s : List UInt8), Lib.splitK [c] 0 (s.count c) s = splitL c s
  | [] => rfl
  | b :: l => by
    have ih := splitK_eq c l
    by_cases h : b = c
    · subst h
      rw [List.count_cons_self, splitL, if_pos rfl, ← ih]
      have hix : Lib.index (b :: l) [b] = 0 := by rw [Lib.index]; simp [List.isPrefixOf]
      have e : ∀ n, Lib.splitK [b] 0 (n + 1) (b :: l) = [] :: Lib.splitK [b] 0 n l := fun n => by
        rw [Lib.splitK, hix]
        simp
      exact e _
    · have hp : ([c] : List UInt8).isPrefixOf (b :: l) = false := by simp [List.isPrefixOf, Ne.symm h]
      have hix : Lib.index (b :: l) [c] = if Lib.index l [c] == -1 then -1 else Lib.index l [c] + 1 := by rw [Lib.index, hp]; simp
      rw [List.count_cons_of_ne (by simpa using h), splitL, if_neg h, ← ih]
      cases hk : l.count c with
      | zero => rfl
      | succ k =>
        by_cases hm : Lib.index l [c] = -1
        · unfold Lib.splitK
          rw [hix, hm]
          rfl
        · have hge := Lib.index_ge l [c]
          obtain ⟨j, hj⟩ : ∃ j : Nat, Lib.index l [c] = j := ⟨(Lib.index l [c]).toNat, by omega⟩
          have e1 : ((j : Int) + 1).toNat = j + 1 := by omega
          have e2 : ¬ (((j : Int) + 1 == -1) = true) := by simp only [beq_iff_eq]; omega
          have e3 : ¬ (((j : Int) == -1) = true) := by simp only [beq_iff_eq]; omega
          unfold Lib.splitK
          rw [hix, hj, if_neg e3, if_neg e2, if_neg e3]
          simp [e1]
theorem split_calls (s : ByteArray) (m : Int) (w : World) (hs : s.size < 4294967281) (hm : w.cell? ⟨0, 0, none⟩ = some (.int .i64 m)) : Calls Tryd.prog 58 #[.string s, .string ⟨#[32]⟩] w fun r w' => r = .returned (.slice (some ⟨w.heap.size, 0, none⟩) (splitL 32 s.data.toList).length (splitL 32 s.data.toList).length) ∧ w' = w.alloc (.cells ((splitL 32 s.data.toList).map fun p => Value.string ⟨p.toArray⟩).toArray 9) := by
  have h1 : 1 ≤ (⟨#[32]⟩ : ByteArray).size := by decide
  have hc : Lib.countB s ⟨#[32]⟩ = s.data.toList.count 32 := Lib.count_one 32 s.data.toList
  have hd := Lib.splitB_data ⟨#[32]⟩ 0 (Lib.countB s ⟨#[32]⟩) s
  have hl := Lib.splitB_all ⟨#[32]⟩ h1 0 (Lib.countB s ⟨#[32]⟩) s rfl
  have hk : (Lib.splitB ⟨#[32]⟩ 0 (Lib.countB s ⟨#[32]⟩) s).map (·.data.toList) = splitL 32 s.data.toList := by
    rw [hd, hc]; exact splitK_eq 32 _
  have hn : (splitL 32 s.data.toList).length = Lib.countB s ⟨#[32]⟩ + 1 := by rw [← hk, List.length_map, hl]
  refine (Tryd.strings_Split s ⟨#[32]⟩ m w hs hm h1).mono ?_
  rintro r w' ⟨rfl, rfl⟩
  refine ⟨by rw [hn], ?_⟩
  rw [← hk, List.map_map]
  rfl
theorem idxByte_eq (s : List UInt8) (c : UInt8) : idxL s [c] = Lib.indexByte s c := by
  induction s with
  | nil => rfl
  | cons b l ih =>
    unfold idxL Lib.indexByte
    rw [ih]
    by_cases h : b = c
    · subst h; simp [List.isPrefixOf]
    · have h1 : ([c] : List UInt8).isPrefixOf (b :: l) = false := by simp [List.isPrefixOf, Ne.symm h]
      have h2 : (b == c) = false := beq_eq_false_iff_ne.2 h
      rw [h1, h2]
theorem idxByte_calls (s : ByteArray) (c : Nat) (w : World) (_hc : c < 256) : Calls Tryd.prog 70 #[.string s, .int .u8 c] w fun e w' => e = .returned (.int .i64 (idxL s.data.toList [UInt8.ofNat c])) ∧ w' = w := by
  rw [idxByte_eq]
  exact Tryd.stringslite_IndexByte s c w
theorem fn70 : FnOk Tryd.prog 70 := ⟨⟨_, Tryd.func70, by kernel_rfl, by kernel_rfl⟩⟩
theorem ok70 : NatOk Tryd.prog 70 2 idxByteA := nat_idxByte fn70 idxByte_calls
theorem fn62 : FnOk Tryd.prog 62 := ⟨⟨_, Tryd.func62, by kernel_rfl, by kernel_rfl⟩⟩
theorem fn30 : FnOk Tryd.prog 30 := ⟨⟨_, Tryd.func30, by kernel_rfl, by kernel_rfl⟩⟩
theorem fn58 : FnOk Tryd.prog 58 := ⟨⟨_, Tryd.func58, by kernel_rfl, by kernel_rfl⟩⟩
theorem fn61 : FnOk Tryd.prog 61 := ⟨⟨_, Tryd.func61, by kernel_rfl, by kernel_rfl⟩⟩
theorem fn66 : FnOk Tryd.prog 66 := ⟨⟨_, Tryd.func66, by kernel_rfl, by kernel_rfl⟩⟩
theorem ok62 : NatOk Tryd.prog 62 2 fmtA := nat_fmt fn62 fun n w hn ht => fmt_calls n w hn ht
theorem ok30 : NatOk Tryd.prog 30 2 cutA := nat_cut fn30 cut_calls
theorem ok58 : NatOk Tryd.prog 58 2 (splitA 9) := nat_split fn58 split_calls
theorem ok61 : NatOk Tryd.prog 61 2 joinA := nat_joinS fn61 join_calls
end Go.Proofs.YtmockobmiagbcaaDoor
