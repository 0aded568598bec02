/- What functions of the program answer: part Dec. -/
import Derived.Test.YtmockobmiagbcaaDoorChecked
import Derived.WalkKit
import Derived.Lib.Walk
import Derived.Laws.NewBlocks
import Derived.Laws.IdiomStrings
import Derived.Deep.RegionWith
import Derived.Shelf.RegionOpenPlain
import Derived.Lib.ItoaNum
import Derived.Test.YtmockobmiagbcaaDoorViE
set_option linter.unusedVariables false
set_option linter.unusedSimpArgs false
set_option linter.unusedSectionVars false
namespace Go.Proofs.YtmockobmiagbcaaDoor
open Go Go.RowKit Go.Lib Go.Proofs.YtmockobmiagbcaaDoor.VI
set_option maxHeartbeats 4000000
set_option maxRecDepth 100000
theorem mixed : Tryd.prog.follows .mixedOrders = true := by kernel_rfl
theorem t22 : Tryd.prog.underlying 22 = some (.slice 5) := by kernel_rfl
theorem t5 : Tryd.prog.underlying 5 = some (.int .u8) := by kernel_rfl
theorem t9 : Tryd.prog.underlying 9 = some .string := by kernel_rfl
theorem dec_len (n : Nat) : (Lib.decDigits n).length ≤ n + 1 := by
  induction n using Nat.strongRecOn with
  | _ n ih =>
    rw [Lib.decDigits]
    by_cases h : n < 10
    · rw [dif_pos h]; simp
    · rw [dif_neg h, List.length_append]
      have := ih (n / 10) (by omega)
      simp only [List.length_cons, List.length_nil]; omega
theorem conv_in {n : Nat} {z : Int} (hz : z = 48 + (n : Int) % 10) {b : Nat} {w : World} {fr : Nat × Nat} (hh : w.heap[b]? = some (.cells #[.int .u8 z] 5 fr)) : (convert 22 9 (.slice (some ⟨b, 0, none⟩) 1 1)).run Tryd.prog w = .ok (.string ⟨#[UInt8.ofNat (48 + n % 10)]⟩) w := by
  have h := run_convert_bytes_back (P := Tryd.prog) w 22 9 5 ⟨b, 0, none⟩ 1 [UInt8.ofNat (48 + n % 10)] t22 t5 t9 (fun j hj => by
    have : j = 0 := by simpa using hj
    subst this
    have e : ((UInt8.ofNat (48 + n % 10)).toNat : Int) = z := by
      rw [hz]
      have : (UInt8.ofNat (48 + n % 10)).toNat = 48 + n % 10 := by simp; omega
      rw [this]; omega
    simp only [List.getElem_cons_zero, e]
    unfold World.cell?
    show (match w.heap[b]? with | some (.cells c _ _) => _ | _ => _) = _
    rw [hh]
    rfl)
  exact h
theorem new_at (w : World) (o : Obj) : (w.alloc o).heap[w.heap.size]? = some o := by
  show (w.heap.push _)[w.heap.size]? = _
  rw [Array.getElem?_push_size]
theorem conv_one {n : Nat} {z : Int} (hz : z = 48 + (n : Int) % 10) (W : World) : (convert 22 9 (.slice (some ⟨W.heap.size, 0, none⟩) 1 1)).run Tryd.prog (W.alloc (.cells #[.int .u8 z] 5)) = .ok (.string ⟨#[UInt8.ofNat (48 + n % 10)]⟩) (W.alloc (.cells #[.int .u8 z] 5)) :=
  conv_in hz (new_at W _)
theorem below_after {w w' : World} {o : Obj} (hb : Below w.drew.heap.size w.drew w') : Below w.heap.size w (w'.alloc o) :=
  Below.alloc (B := w.heap.size) (a := w) (w := w') ⟨hb.os, hb.tape, hb.output, hb.size, hb.block⟩ hb.size _
theorem below_behind {w w' : World} {o : Obj} (hb : Below (w.alloc o).drew.heap.size (w.alloc o).drew w') : Below w.heap.size w w' := by
  have h1 : Below w.heap.size w (w.alloc o) := Below.alloc (.refl _ _) (Nat.le_refl _) _
  exact ⟨hb.os, hb.tape, hb.output, Nat.le_trans h1.size hb.size, fun k hk => (hb.block k (Nat.lt_of_lt_of_le hk h1.size)).trans (h1.block k hk)⟩
theorem dec_calls : ∀ (n : Nat), n ≤ 9223372036854775807 → ∀ w : World, Calls Tryd.prog 66 #[.int .i64 n] w fun e w' => e = .returned (.string ⟨(Lib.decDigits n).toArray⟩) ∧ Below w.heap.size w w' := by
  intro n
  induction n using Nat.strongRecOn with
  | _ n ih =>
    intro hn w
    have mixed := mixed
    have hcv := fun W => conv_one (n := n) rfl W
    have hz : IntKind.u8.wrap (IntKind.i64.wrap (48 + (n : Int).tmod 10)) = 48 + (n : Int) % 10 := by
      rw [Int.tmod_eq_emod_of_nonneg (by omega), IntKind.wrap_i64, IntKind.wrap_u8]; omega
    have hcv2 := fun W => conv_one hz W
    by_cases h : n < 10
    · go_enter Tryd.func66, Tryd.ntmps66
      go_wp2
      go_ret
      refine ⟨?_, Below.alloc (.refl _ _) (Nat.le_refl _) _⟩
      show Ending.returned (Value.string ⟨#[48 + UInt8.ofNat (n % 10)]⟩) = _
      rw [Lib.decDigits, dif_pos h, Nat.mod_eq_of_lt h]
      simp
    · have hc : ∀ w : World, Calls Tryd.prog 66 #[.int .i64 (IntKind.i64.wrap ((n : Int) / 10))] w fun e w' => e = .returned (.string ⟨(Lib.decDigits (n / 10)).toArray⟩) ∧ Below w.heap.size w w' ∧ ∀ (b : Nat), w.heap[b]? = some (.cells #[.int .u8 (48 + (n : Int) % 10)] 5) → (convert 22 9 (.slice (some ⟨b, 0, none⟩) 1 1)).run Tryd.prog w' = .ok (.string ⟨#[UInt8.ofNat (48 + n % 10)]⟩) w' := fun w => by
        rw [show IntKind.i64.wrap ((n : Int) / 10) = ((n / 10 : Nat) : Int) by rw [IntKind.wrap_i64]; omega]
        refine (ih (n / 10) (by omega) (by omega) w).mono ?_
        rintro e w' ⟨he, hb⟩
        exact ⟨he, hb, fun b hW => conv_in rfl ((hb.block b (Array.getElem?_eq_some_iff.1 hW).1).trans hW)⟩
      have hsz : (⟨(Lib.decDigits (n / 10)).toArray⟩ : ByteArray).size + (⟨#[48 + UInt8.ofNat (n % 10)]⟩ : ByteArray).size ≤ 9223372036854775807 := by
        have h1 := dec_len (n / 10)
        show (Lib.decDigits (n / 10)).toArray.size + 1 ≤ _
        rw [List.size_toArray]; omega
      have hcat := fun w => run_string_add_sum (P := Tryd.prog) w _ _ hsz
      have hnew : ∀ o, (w.alloc o).drew.heap[w.heap.size]? = some o := fun o => new_at w o
      have hcv3 := conv_in (n := n) rfl (w := (w.alloc (.cells #[.int .u8 (48 + (n : Int) % 10)] 5)).drew) (hnew _)
      clear ih hsz
      go_enter Tryd.func66, Tryd.ntmps66
      go_wp2
      go_region_with (go_at_call 66; refine (hc _).mono ?_; rintro e w' ⟨rfl, hb, hk⟩; (try (have hk2 := hk _ (hnew _))); clear hk)
      all_goals go_wp2
      all_goals go_ret
      all_goals refine ⟨?_, ?_⟩
      all_goals first
        | exact below_after hb
        | exact below_behind hb
        | (show Ending.returned (Value.string (⟨(Lib.decDigits (n / 10)).toArray⟩ ++ ⟨#[48 + UInt8.ofNat (n % 10)]⟩)) = _
           rw [show Lib.decDigits n = Lib.decDigits (n / 10) ++ [UInt8.ofNat (48 + n % 10)] by rw [Lib.decDigits, dif_neg h]]
           congr 2
           apply ByteArray.ext
           simp [ByteArray.data_append])
end Go.Proofs.YtmockobmiagbcaaDoor
