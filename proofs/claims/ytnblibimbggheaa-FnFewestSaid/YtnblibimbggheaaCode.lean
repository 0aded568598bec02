/- What functions of the program answer: part Code. -/
import Derived.Test.YtnblibimbggheaaViE
import Derived.Test.YtnblibimbggheaaViC
import Derived.Test.YtnblibimbggheaaViA
import Derived.Test.YtnblibimbggheaaChecked
import Derived.KernelRfl
set_option linter.unusedVariables false
set_option linter.unusedSimpArgs false
set_option linter.unusedSectionVars false
namespace Go.Proofs.Ytnblibimbggheaa
open Go Go.Proofs.Ytnblibimbggheaa.VI
def k119 : KF := kNat 3 1 (insA 119 2 4)
noncomputable def kk : FuncId → Option KF := fun f => if f = 119 then some k119 else cFunc Try.prog (!([13, 17, 18, 22, 27, 29, 34, 35, 38, 39, 40, 43, 44, 46, 47, 52, 58, 60, 63, 64, 71, 72, 78, 81, 83, 85, 86, 89, 94, 100, 103, 113, 114, 116, 118] : List Nat).contains f) f
/-- loop.example/g01263/laws.FnExactGainOf -/
def k3 : KF := ⟨46, (.seq (.region [⟨(some 2), .box 26 (.t 0), none⟩, ⟨(some 3), .box 29 (.t 1), none⟩, ⟨(some 4), .mov (.k (.c (.bool false))), none⟩])
  (.seq (.region [⟨(some 5), .mov (.k (.c (.int .i64 1048576))), none⟩])
  (.seq (.region [⟨(some 11), .loadN 18 (.t 2), none⟩, ⟨(some 12), .mov (.t 5), none⟩, ⟨(some 13), .call (.k (.c (.fn 11 []))) [(.t 11), (.t 12)], none⟩, ⟨(some 5), .mov (.t 13), none⟩])
  (.seq (.seq (.region [⟨(some 14), .mov (.t 5), none⟩, ⟨(some 15), .bin .lss .int (.t 14) (.k (.c (.int .i64 0))), none⟩])
  (.cond (.t 15) (.seq (.region [⟨(some 4), .mov (.k (.c (.bool true))), none⟩])
  .ret) .skip))
  (.seq (.drawn [(⟨(some 17), .loadN 18 (.t 2), none⟩, []), (⟨(some 19), .loadN 4 (.t 3), none⟩, []), (⟨(some 18), .call (.k (.c (.fn 13 []))) [(.t 17)], none⟩, [⟨(some 19), .loadN 4 (.t 3), none⟩]), (⟨(some 20), .call (.k (.c (.fn 14 []))) [(.t 19)], none⟩, []), (⟨(some 21), .call (.k (.c (.fn 12 []))) [(.t 18), (.t 20)], none⟩, []), (⟨(some 16), .mov (.t 21), none⟩, []), (⟨(some 22), .ext (.t 16) 0, none⟩, []), (⟨(some 23), .ext (.t 16) 1, none⟩, []), (⟨(some 6), .mov (.t 22), none⟩, []), (⟨(some 7), .mov (.t 23), none⟩, [])])
  (.seq (.region [⟨(some 24), .loadN 18 (.t 2), none⟩, ⟨(some 25), .call (.k (.c (.fn 13 []))) [(.t 24)], none⟩, ⟨(some 8), .alloc 36 [(.bool false), (.slice none 0 (.exact 0)), (.int .i8 0), (.int .i8 0), (.int .i8 0), (.int .i8 0), (.int .i8 0), (.int .i8 0), (.int .i8 0), (.int .i8 0), (.int .i8 0), (.int .i8 0), (.int .i8 0), (.int .i8 0), (.int .i8 0), (.int .i8 0), (.int .i8 0), (.int .i8 0)], none⟩, ⟨none, .store 18 (.t 8) (.t 25), none⟩])
  (.seq (.drawn [(⟨(some 27), .loadN 18 (.t 8), none⟩, []), (⟨(some 28), .loadN 4 (.t 3), none⟩, []), (⟨(some 29), .call (.k (.c (.fn 14 []))) [(.t 28)], none⟩, [⟨(some 27), .loadN 18 (.t 8), none⟩]), (⟨(some 30), .call (.k (.c (.fn 15 []))) [(.t 27), (.t 29)], none⟩, []), (⟨(some 26), .mov (.t 30), none⟩, []), (⟨(some 31), .ext (.t 26) 0, none⟩, []), (⟨(some 32), .ext (.t 26) 1, none⟩, []), (⟨(some 9), .mov (.t 31), none⟩, []), (⟨(some 10), .mov (.t 32), none⟩, [])])
  (.seq (.seq (.region [⟨(some 33), .mov (.t 9), none⟩, ⟨(some 34), .mov (.t 6), none⟩, ⟨(some 35), .bin .neq .int (.t 33) (.t 34), none⟩, ⟨(some 36), .mov (.t 35), none⟩, ⟨(some 37), .mov (.t 10), some (36, false)⟩, ⟨(some 38), .mov (.t 7), some (36, false)⟩, ⟨(some 39), .bin .neq .int (.t 37) (.t 38), some (36, false)⟩, ⟨(some 40), .pick (.t 36) (.k (.c (.bool true))) (.t 39), none⟩])
  (.cond (.t 40) (.seq (.region [⟨(some 4), .mov (.k (.c (.bool false))), none⟩])
  .ret) .skip))
  (.seq (.seq (.drawn [(⟨(some 41), .loadN 18 (.t 8), none⟩, []), (⟨(some 42), .loadN 18 (.t 2), none⟩, []), (⟨(some 43), .call (.k (.c (.fn 13 []))) [(.t 42)], none⟩, [⟨(some 41), .loadN 18 (.t 8), none⟩]), (⟨(some 44), .call (.k (.c (.fn 16 []))) [(.t 41), (.t 43)], none⟩, []), (⟨(some 45), .un .not (.t 44), none⟩, [])])
  (.cond (.t 45) (.seq (.region [⟨(some 4), .mov (.k (.c (.bool false))), none⟩])
  .ret) .skip))
  (.seq (.region [⟨(some 4), .mov (.k (.c (.bool true))), none⟩])
  .ret)))))))))), [.tmp 4], true⟩
theorem c3 : kk 3 = some k3 := by kernel_rfl
/-- loop.example/g01263/laws.FnExactTamperHalf -/
def k4 : KF := ⟨104, (.seq (.region [⟨(some 2), .box 26 (.t 0), none⟩, ⟨(some 3), .box 29 (.t 1), none⟩, ⟨(some 4), .mov (.k (.c (.bool false))), none⟩])
  (.seq (.region [⟨(some 5), .mov (.k (.c (.int .i64 1048576))), none⟩])
  (.seq (.region [⟨(some 16), .loadN 18 (.t 2), none⟩, ⟨(some 17), .mov (.t 5), none⟩, ⟨(some 18), .call (.k (.c (.fn 11 []))) [(.t 16), (.t 17)], none⟩, ⟨(some 5), .mov (.t 18), none⟩])
  (.seq (.seq (.region [⟨(some 19), .mov (.t 5), none⟩, ⟨(some 20), .bin .lss .int (.t 19) (.k (.c (.int .i64 0))), none⟩])
  (.cond (.t 20) (.seq (.region [⟨(some 4), .mov (.k (.c (.bool true))), none⟩])
  .ret) .skip))
  (.seq (.drawn [(⟨(some 22), .loadN 18 (.t 2), none⟩, []), (⟨(some 24), .loadN 4 (.t 3), none⟩, []), (⟨(some 23), .call (.k (.c (.fn 13 []))) [(.t 22)], none⟩, [⟨(some 24), .loadN 4 (.t 3), none⟩]), (⟨(some 25), .call (.k (.c (.fn 14 []))) [(.t 24)], none⟩, []), (⟨(some 26), .call (.k (.c (.fn 17 []))) [(.t 23), (.t 25)], none⟩, []), (⟨(some 21), .mov (.t 26), none⟩, []), (⟨(some 27), .ext (.t 21) 0, none⟩, []), (⟨(some 28), .ext (.t 21) 1, none⟩, []), (⟨(some 6), .alloc 36 [(.bool false), (.slice none 0 (.exact 0)), (.int .i8 0), (.int .i8 0), (.int .i8 0), (.int .i8 0), (.int .i8 0), (.int .i8 0), (.int .i8 0), (.int .i8 0), (.int .i8 0), (.int .i8 0), (.int .i8 0), (.int .i8 0), (.int .i8 0), (.int .i8 0), (.int .i8 0), (.int .i8 0)], none⟩, [⟨(some 22), .loadN 18 (.t 2), none⟩, ⟨(some 24), .loadN 4 (.t 3), none⟩]), (⟨none, .store 18 (.t 6) (.t 27), none⟩, []), (⟨(some 7), .mov (.t 28), none⟩, [])])
  (.seq (.region [⟨(some 29), .loadN 18 (.t 2), none⟩, ⟨(some 30), .call (.k (.c (.fn 13 []))) [(.t 29)], none⟩, ⟨(some 8), .alloc 36 [(.bool false), (.slice none 0 (.exact 0)), (.int .i8 0), (.int .i8 0), (.int .i8 0), (.int .i8 0), (.int .i8 0), (.int .i8 0), (.int .i8 0), (.int .i8 0), (.int .i8 0), (.int .i8 0), (.int .i8 0), (.int .i8 0), (.int .i8 0), (.int .i8 0), (.int .i8 0), (.int .i8 0)], none⟩, ⟨none, .store 18 (.t 8) (.t 30), none⟩])
  (.seq (.drawn [(⟨(some 32), .loadN 18 (.t 8), none⟩, []), (⟨(some 33), .loadN 4 (.t 3), none⟩, []), (⟨(some 34), .call (.k (.c (.fn 14 []))) [(.t 33)], none⟩, [⟨(some 32), .loadN 18 (.t 8), none⟩]), (⟨(some 35), .call (.k (.c (.fn 18 []))) [(.t 32), (.t 34)], none⟩, []), (⟨(some 31), .mov (.t 35), none⟩, []), (⟨(some 36), .ext (.t 31) 0, none⟩, []), (⟨(some 37), .ext (.t 31) 1, none⟩, []), (⟨(some 9), .alloc 36 [(.bool false), (.slice none 0 (.exact 0)), (.int .i8 0), (.int .i8 0), (.int .i8 0), (.int .i8 0), (.int .i8 0), (.int .i8 0), (.int .i8 0), (.int .i8 0), (.int .i8 0), (.int .i8 0), (.int .i8 0), (.int .i8 0), (.int .i8 0), (.int .i8 0), (.int .i8 0), (.int .i8 0)], none⟩, [⟨(some 32), .loadN 18 (.t 8), none⟩, ⟨(some 33), .loadN 4 (.t 3), none⟩]), (⟨none, .store 18 (.t 9) (.t 36), none⟩, []), (⟨(some 10), .mov (.t 37), none⟩, [])])
  (.seq (.seq (.region [⟨(some 38), .loadN 18 (.t 9), none⟩, ⟨(some 39), .loadN 18 (.t 6), none⟩, ⟨(some 40), .call (.k (.c (.fn 16 []))) [(.t 38), (.t 39)], none⟩, ⟨(some 41), .un .not (.t 40), none⟩, ⟨(some 42), .mov (.t 41), none⟩, ⟨(some 43), .mov (.t 10), some (42, false)⟩, ⟨(some 44), .mov (.t 7), some (42, false)⟩, ⟨(some 45), .bin .neq .int (.t 43) (.t 44), some (42, false)⟩, ⟨(some 46), .pick (.t 42) (.k (.c (.bool true))) (.t 45), none⟩])
  (.cond (.t 46) (.seq (.region [⟨(some 4), .mov (.k (.c (.bool false))), none⟩])
  .ret) .skip))
  (.seq (.seq (.drawn [(⟨(some 47), .loadN 18 (.t 8), none⟩, []), (⟨(some 48), .loadN 18 (.t 2), none⟩, []), (⟨(some 49), .call (.k (.c (.fn 13 []))) [(.t 48)], none⟩, [⟨(some 47), .loadN 18 (.t 8), none⟩]), (⟨(some 50), .call (.k (.c (.fn 16 []))) [(.t 47), (.t 49)], none⟩, []), (⟨(some 51), .un .not (.t 50), none⟩, [])])
  (.cond (.t 51) (.seq (.region [⟨(some 4), .mov (.k (.c (.bool false))), none⟩])
  .ret) .skip))
  (.seq (.region [⟨(some 11), .mov (.k (.c (.int .i64 1))), none⟩])
  (.seq (.region [⟨(some 52), .loadN 18 (.t 8), none⟩, ⟨(some 53), .mov (.t 11), none⟩, ⟨(some 54), .call (.k (.c (.fn 19 []))) [(.t 52), (.t 53)], none⟩, ⟨(some 11), .mov (.t 54), none⟩])
  (.seq (.seq (.region [⟨(some 55), .mov (.t 11), none⟩, ⟨(some 56), .bin .lss .int (.t 55) (.k (.c (.int .i64 0))), none⟩, ⟨(some 57), .mov (.t 56), none⟩, ⟨(some 58), .loadN 18 (.t 9), some (57, false)⟩, ⟨(some 59), .loadN 18 (.t 6), some (57, false)⟩, ⟨(some 60), .call (.k (.c (.fn 16 []))) [(.t 58), (.t 59)], some (57, false)⟩, ⟨(some 61), .un .not (.t 60), some (57, false)⟩, ⟨(some 62), .pick (.t 57) (.k (.c (.bool true))) (.t 61), none⟩, ⟨(some 63), .mov (.t 62), none⟩, ⟨(some 64), .mov (.t 10), some (63, false)⟩, ⟨(some 65), .mov (.t 7), some (63, false)⟩, ⟨(some 66), .bin .neq .int (.t 64) (.t 65), some (63, false)⟩, ⟨(some 67), .pick (.t 63) (.k (.c (.bool true))) (.t 66), none⟩])
  (.cond (.t 67) (.seq (.region [⟨(some 4), .mov (.k (.c (.bool false))), none⟩])
  .ret) .skip))
  (.seq (.region [⟨(some 12), .mov (.k (.c (.int .i64 1))), none⟩])
  (.seq (.region [⟨(some 68), .loadN 18 (.t 9), none⟩, ⟨(some 69), .mov (.t 12), none⟩, ⟨(some 70), .call (.k (.c (.fn 19 []))) [(.t 68), (.t 69)], none⟩, ⟨(some 12), .mov (.t 70), none⟩])
  (.seq (.region [⟨(some 13), .mov (.k (.c (.int .i64 1))), none⟩])
  (.seq (.region [⟨(some 71), .loadN 18 (.t 9), none⟩, ⟨(some 72), .mov (.t 13), none⟩, ⟨(some 73), .call (.k (.c (.fn 20 []))) [(.t 71), (.t 72)], none⟩, ⟨(some 13), .mov (.t 73), none⟩])
  (.seq (.seq (.region [⟨(some 74), .mov (.t 13), none⟩, ⟨(some 75), .bin .lss .int (.t 74) (.k (.c (.int .i64 0))), none⟩])
  (.cond (.t 75) (.seq (.region [⟨(some 4), .mov (.k (.c (.bool false))), none⟩])
  .ret) .skip))
  (.seq (.seq (.region [⟨(some 76), .mov (.t 13), none⟩, ⟨(some 77), .mov (.t 12), none⟩, ⟨(some 78), .bin .neq .int (.t 76) (.t 77), none⟩])
  (.cond (.t 78) (.seq (.region [⟨(some 4), .mov (.k (.c (.bool false))), none⟩])
  .ret) .skip))
  (.seq (.drawn [(⟨(some 80), .loadN 18 (.t 2), none⟩, []), (⟨(some 82), .loadN 4 (.t 3), none⟩, []), (⟨(some 81), .call (.k (.c (.fn 13 []))) [(.t 80)], none⟩, [⟨(some 82), .loadN 4 (.t 3), none⟩]), (⟨(some 83), .call (.k (.c (.fn 14 []))) [(.t 82)], none⟩, []), (⟨(some 84), .call (.k (.c (.fn 18 []))) [(.t 81), (.t 83)], none⟩, []), (⟨(some 79), .mov (.t 84), none⟩, []), (⟨(some 85), .ext (.t 79) 0, none⟩, []), (⟨(some 86), .ext (.t 79) 1, none⟩, []), (⟨(some 14), .alloc 36 [(.bool false), (.slice none 0 (.exact 0)), (.int .i8 0), (.int .i8 0), (.int .i8 0), (.int .i8 0), (.int .i8 0), (.int .i8 0), (.int .i8 0), (.int .i8 0), (.int .i8 0), (.int .i8 0), (.int .i8 0), (.int .i8 0), (.int .i8 0), (.int .i8 0), (.int .i8 0), (.int .i8 0)], none⟩, [⟨(some 80), .loadN 18 (.t 2), none⟩, ⟨(some 82), .loadN 4 (.t 3), none⟩]), (⟨none, .store 18 (.t 14) (.t 85), none⟩, []), (⟨(some 15), .mov (.t 86), none⟩, [])])
  (.seq (.seq (.region [⟨(some 87), .loadN 18 (.t 14), none⟩, ⟨(some 88), .loadN 18 (.t 6), none⟩, ⟨(some 89), .call (.k (.c (.fn 16 []))) [(.t 87), (.t 88)], none⟩, ⟨(some 90), .un .not (.t 89), none⟩, ⟨(some 91), .mov (.t 90), none⟩, ⟨(some 92), .mov (.t 15), some (91, false)⟩, ⟨(some 93), .mov (.t 7), some (91, false)⟩, ⟨(some 94), .bin .neq .int (.t 92) (.t 93), some (91, false)⟩, ⟨(some 95), .pick (.t 91) (.k (.c (.bool true))) (.t 94), none⟩])
  (.cond (.t 95) (.seq (.region [⟨(some 4), .mov (.k (.c (.bool false))), none⟩])
  .ret) .skip))
  (.seq (.region [⟨(some 13), .mov (.k (.c (.int .i64 1))), none⟩])
  (.seq (.region [⟨(some 96), .loadN 18 (.t 9), none⟩, ⟨(some 97), .mov (.t 13), none⟩, ⟨(some 98), .call (.k (.c (.fn 20 []))) [(.t 96), (.t 97)], none⟩, ⟨(some 13), .mov (.t 98), none⟩])
  (.seq (.seq (.region [⟨(some 99), .mov (.t 13), none⟩, ⟨(some 100), .bin .lss .int (.t 99) (.k (.c (.int .i64 0))), none⟩])
  (.cond (.t 100) (.seq (.region [⟨(some 4), .mov (.k (.c (.bool false))), none⟩])
  .ret) .skip))
  (.seq (.seq (.region [⟨(some 101), .mov (.t 13), none⟩, ⟨(some 102), .mov (.t 12), none⟩, ⟨(some 103), .bin .neq .int (.t 101) (.t 102), none⟩])
  (.cond (.t 103) (.seq (.region [⟨(some 4), .mov (.k (.c (.bool false))), none⟩])
  .ret) .skip))
  (.seq (.region [⟨(some 4), .mov (.k (.c (.bool true))), none⟩])
  .ret))))))))))))))))))))))))), [.tmp 4], true⟩
theorem c4 : kk 4 = some k4 := by kernel_rfl
/-- loop.example/g01263/laws.FnLies -/
def k5 : KF := ⟨298, (.seq (.region [⟨(some 4), .mov (.k (.c (.bool false))), none⟩])
  (.seq (.seq (.region [⟨(some 40), .mov (.t 0), none⟩, ⟨(some 41), .call (.k (.c (.fn 21 []))) [(.t 40)], none⟩, ⟨(some 42), .mov (.t 41), none⟩, ⟨(some 43), .mov (.t 1), some (42, false)⟩, ⟨(some 44), .call (.k (.c (.fn 21 []))) [(.t 43)], some (42, false)⟩, ⟨(some 45), .pick (.t 42) (.k (.c (.bool true))) (.t 44), none⟩])
  (.cond (.t 45) (.seq (.region [⟨(some 4), .mov (.k (.c (.bool true))), none⟩])
  .ret) .skip))
  (.seq (.region [⟨(some 46), .mov (.t 0), none⟩, ⟨(some 47), .call (.k (.c (.fn 22 []))) [(.t 46)], none⟩, ⟨(some 5), .alloc 36 [(.bool false), (.slice none 0 (.exact 0)), (.int .i8 0), (.int .i8 0), (.int .i8 0), (.int .i8 0), (.int .i8 0), (.int .i8 0), (.int .i8 0), (.int .i8 0), (.int .i8 0), (.int .i8 0), (.int .i8 0), (.int .i8 0), (.int .i8 0), (.int .i8 0), (.int .i8 0), (.int .i8 0)], none⟩, ⟨none, .store 18 (.t 5) (.t 47), none⟩])
  (.seq (.region [⟨(some 48), .fldA 0 (.t 5), none⟩, ⟨none, .store 1 (.t 48) (.k (.c (.bool true))), none⟩])
  (.seq (.region [⟨(some 49), .loadN 18 (.t 5), none⟩, ⟨(some 6), .alloc 36 [(.bool false), (.slice none 0 (.exact 0)), (.int .i8 0), (.int .i8 0), (.int .i8 0), (.int .i8 0), (.int .i8 0), (.int .i8 0), (.int .i8 0), (.int .i8 0), (.int .i8 0), (.int .i8 0), (.int .i8 0), (.int .i8 0), (.int .i8 0), (.int .i8 0), (.int .i8 0), (.int .i8 0)], none⟩, ⟨none, .store 18 (.t 6) (.t 49), none⟩])
  (.seq (.region [⟨(some 50), .fldA 0 (.t 6), none⟩, ⟨none, .store 1 (.t 50) (.k (.c (.bool false))), none⟩])
  (.seq (.region [⟨(some 52), .fldA 2 (.t 5), none⟩, ⟨(some 53), .loadN 16 (.t 52), none⟩, ⟨(some 54), .call (.k (.c (.fn 23 []))) [(.t 53)], none⟩, ⟨(some 51), .mov (.t 54), none⟩, ⟨(some 55), .ext (.t 51) 0, none⟩, ⟨(some 56), .ext (.t 51) 1, none⟩, ⟨(some 7), .alloc 34 [(.int .i8 0), (.int .i8 0), (.int .i8 0), (.int .i8 0), (.int .i8 0), (.int .i8 0), (.int .i8 0), (.int .i8 0), (.int .i8 0), (.int .i8 0), (.int .i8 0), (.int .i8 0), (.int .i8 0), (.int .i8 0), (.int .i8 0), (.int .i8 0)], none⟩, ⟨none, .store 16 (.t 7) (.t 55), none⟩, ⟨(some 8), .mov (.t 56), none⟩])
  (.seq (.region [⟨(some 57), .loadN 16 (.t 7), none⟩, ⟨(some 58), .fldA 2 (.t 6), none⟩, ⟨none, .store 16 (.t 58) (.t 57), none⟩])
  (.seq (.region [⟨(some 60), .loadN 18 (.t 5), none⟩, ⟨(some 61), .call (.k (.c (.fn 24 []))) [(.t 60)], none⟩, ⟨(some 59), .mov (.t 61), none⟩, ⟨(some 62), .ext (.t 59) 0, none⟩, ⟨(some 63), .ext (.t 59) 1, none⟩, ⟨(some 9), .mov (.t 62), none⟩, ⟨(some 10), .mov (.t 63), none⟩])
  (.seq (.region [⟨(some 65), .loadN 18 (.t 5), none⟩, ⟨(some 66), .loadN 18 (.t 6), none⟩, ⟨(some 67), .call (.k (.c (.fn 25 []))) [(.t 65), (.t 66)], none⟩, ⟨(some 64), .mov (.t 67), none⟩, ⟨(some 68), .ext (.t 64) 0, none⟩, ⟨(some 69), .ext (.t 64) 1, none⟩, ⟨(some 11), .mov (.t 68), none⟩, ⟨(some 12), .mov (.t 69), none⟩])
  (.seq (.region [⟨(some 71), .loadN 18 (.t 5), none⟩, ⟨(some 72), .loadN 18 (.t 6), none⟩, ⟨(some 73), .call (.k (.c (.fn 26 []))) [(.t 71), (.t 72)], none⟩, ⟨(some 70), .mov (.t 73), none⟩, ⟨(some 74), .ext (.t 70) 0, none⟩, ⟨(some 75), .ext (.t 70) 1, none⟩, ⟨(some 13), .mov (.t 74), none⟩, ⟨(some 14), .mov (.t 75), none⟩])
  (.seq (.region [⟨(some 77), .loadN 18 (.t 5), none⟩, ⟨(some 78), .loadN 18 (.t 6), none⟩, ⟨(some 79), .call (.k (.c (.fn 27 []))) [(.t 77), (.t 78), (.k (.c (.int .i64 0)))], none⟩, ⟨(some 76), .mov (.t 79), none⟩, ⟨(some 80), .ext (.t 76) 0, none⟩, ⟨(some 81), .ext (.t 76) 1, none⟩, ⟨(some 15), .alloc 54 [(.bool false), (.int .i8 0), (.int .i64 0), (.int .i64 0), (.slice none 0 (.exact 0))], none⟩, ⟨none, .store 5 (.t 15) (.t 80), none⟩, ⟨(some 16), .mov (.t 81), none⟩])
  (.seq (.seq (.region [⟨(some 82), .mov (.t 8), none⟩, ⟨(some 83), .bin .neq .int (.t 82) (.k (.c (.int .i64 0))), none⟩, ⟨(some 84), .mov (.t 83), none⟩, ⟨(some 85), .mov (.t 10), some (84, false)⟩, ⟨(some 86), .bin .neq .int (.t 85) (.k (.c (.int .i64 0))), some (84, false)⟩, ⟨(some 87), .pick (.t 84) (.k (.c (.bool true))) (.t 86), none⟩, ⟨(some 88), .mov (.t 87), none⟩, ⟨(some 89), .mov (.t 12), some (88, false)⟩, ⟨(some 90), .bin .neq .int (.t 89) (.k (.c (.int .i64 0))), some (88, false)⟩, ⟨(some 91), .pick (.t 88) (.k (.c (.bool true))) (.t 90), none⟩, ⟨(some 92), .mov (.t 91), none⟩, ⟨(some 93), .mov (.t 11), some (92, false)⟩, ⟨(some 94), .bin .neq .int (.t 93) (.k (.c (.int .i64 0))), some (92, false)⟩, ⟨(some 95), .pick (.t 92) (.k (.c (.bool true))) (.t 94), none⟩, ⟨(some 96), .mov (.t 95), none⟩, ⟨(some 97), .mov (.t 14), some (96, false)⟩, ⟨(some 98), .bin .neq .int (.t 97) (.k (.c (.int .i64 0))), some (96, false)⟩, ⟨(some 99), .pick (.t 96) (.k (.c (.bool true))) (.t 98), none⟩, ⟨(some 100), .mov (.t 99), none⟩, ⟨(some 101), .mov (.t 13), some (100, false)⟩, ⟨(some 102), .mov (.t 9), some (100, false)⟩, ⟨(some 103), .bin .neq .int (.t 101) (.t 102), some (100, false)⟩, ⟨(some 104), .pick (.t 100) (.k (.c (.bool true))) (.t 103), none⟩, ⟨(some 105), .mov (.t 104), none⟩, ⟨(some 106), .mov (.t 16), some (105, false)⟩, ⟨(some 107), .bin .neq .int (.t 106) (.k (.c (.int .i64 0))), some (105, false)⟩, ⟨(some 108), .pick (.t 105) (.k (.c (.bool true))) (.t 107), none⟩, ⟨(some 109), .mov (.t 108), none⟩, ⟨(some 110), .fldA 0 (.t 15), some (109, false)⟩, ⟨(some 111), .load1 (.t 110), some (109, false)⟩, ⟨(some 112), .un .not (.t 111), some (109, false)⟩, ⟨(some 113), .pick (.t 109) (.k (.c (.bool true))) (.t 112), none⟩, ⟨(some 114), .mov (.t 113), none⟩, ⟨(some 115), .fldA 1 (.t 15), some (114, false)⟩, ⟨(some 116), .load1 (.t 115), some (114, false)⟩, ⟨(some 117), .bin .neq .int (.t 116) (.k (.c (.int .i8 0))), some (114, false)⟩, ⟨(some 118), .pick (.t 114) (.k (.c (.bool true))) (.t 117), none⟩, ⟨(some 119), .mov (.t 118), none⟩, ⟨(some 120), .fldA 2 (.t 15), some (119, false)⟩, ⟨(some 121), .load1 (.t 120), some (119, false)⟩, ⟨(some 122), .mov (.t 9), some (119, false)⟩, ⟨(some 123), .bin .neq .int (.t 121) (.t 122), some (119, false)⟩, ⟨(some 124), .pick (.t 119) (.k (.c (.bool true))) (.t 123), none⟩, ⟨(some 125), .mov (.t 124), none⟩, ⟨(some 126), .fldA 3 (.t 15), some (125, false)⟩, ⟨(some 127), .load1 (.t 126), some (125, false)⟩, ⟨(some 128), .mov (.t 9), some (125, false)⟩, ⟨(some 129), .bin .neq .int (.t 127) (.t 128), some (125, false)⟩, ⟨(some 130), .pick (.t 125) (.k (.c (.bool true))) (.t 129), none⟩, ⟨(some 131), .mov (.t 130), none⟩, ⟨(some 132), .fldA 4 (.t 15), some (131, false)⟩, ⟨(some 133), .load1 (.t 132), some (131, false)⟩, ⟨(some 134), .len false (.t 133), some (131, false)⟩, ⟨(some 135), .bin .neq .int (.t 134) (.k (.c (.int .i64 0))), some (131, false)⟩, ⟨(some 136), .pick (.t 131) (.k (.c (.bool true))) (.t 135), none⟩])
  (.cond (.t 136) (.seq (.region [⟨(some 4), .mov (.k (.c (.bool false))), none⟩])
  .ret) .skip))
  (.seq (.region [⟨(some 138), .mov (.t 1), none⟩, ⟨(some 139), .loadN 18 (.t 5), none⟩, ⟨(some 140), .call (.k (.c (.fn 28 []))) [(.t 138), (.t 139)], none⟩, ⟨(some 137), .mov (.t 140), none⟩, ⟨(some 141), .ext (.t 137) 0, none⟩, ⟨(some 142), .ext (.t 137) 1, none⟩, ⟨(some 17), .alloc 38 [(.int .i8 0), (.int .i8 0), (.int .i16 0), (.int .i16 0)], none⟩, ⟨none, .store 4 (.t 17) (.t 141), none⟩, ⟨(some 18), .mov (.t 142), none⟩])
  (.seq (.seq (.region [⟨(some 143), .mov (.t 18), none⟩, ⟨(some 144), .un .not (.t 143), none⟩])
  (.cond (.t 144) (.seq (.region [⟨(some 4), .mov (.k (.c (.bool true))), none⟩])
  .ret) .skip))
  (.seq (.region [⟨(some 146), .loadN 18 (.t 5), none⟩, ⟨(some 147), .loadN 4 (.t 17), none⟩, ⟨(some 148), .call (.k (.c (.fn 17 []))) [(.t 146), (.t 147)], none⟩, ⟨(some 145), .mov (.t 148), none⟩, ⟨(some 149), .ext (.t 145) 0, none⟩, ⟨(some 150), .ext (.t 145) 1, none⟩, ⟨(some 19), .alloc 36 [(.bool false), (.slice none 0 (.exact 0)), (.int .i8 0), (.int .i8 0), (.int .i8 0), (.int .i8 0), (.int .i8 0), (.int .i8 0), (.int .i8 0), (.int .i8 0), (.int .i8 0), (.int .i8 0), (.int .i8 0), (.int .i8 0), (.int .i8 0), (.int .i8 0), (.int .i8 0), (.int .i8 0)], none⟩, ⟨none, .store 18 (.t 19) (.t 149), none⟩, ⟨(some 20), .mov (.t 150), none⟩])
  (.seq (.region [⟨(some 152), .loadN 18 (.t 6), none⟩, ⟨(some 153), .loadN 4 (.t 17), none⟩, ⟨(some 154), .call (.k (.c (.fn 17 []))) [(.t 152), (.t 153)], none⟩, ⟨(some 151), .mov (.t 154), none⟩, ⟨(some 155), .ext (.t 151) 0, none⟩, ⟨(some 156), .ext (.t 151) 1, none⟩, ⟨(some 21), .alloc 36 [(.bool false), (.slice none 0 (.exact 0)), (.int .i8 0), (.int .i8 0), (.int .i8 0), (.int .i8 0), (.int .i8 0), (.int .i8 0), (.int .i8 0), (.int .i8 0), (.int .i8 0), (.int .i8 0), (.int .i8 0), (.int .i8 0), (.int .i8 0), (.int .i8 0), (.int .i8 0), (.int .i8 0)], none⟩, ⟨none, .store 18 (.t 21) (.t 155), none⟩, ⟨(some 22), .mov (.t 156), none⟩])
  (.seq (.region [⟨(some 158), .loadN 18 (.t 19), none⟩, ⟨(some 159), .loadN 18 (.t 6), none⟩, ⟨(some 160), .call (.k (.c (.fn 25 []))) [(.t 158), (.t 159)], none⟩, ⟨(some 157), .mov (.t 160), none⟩, ⟨(some 161), .ext (.t 157) 0, none⟩, ⟨(some 162), .ext (.t 157) 1, none⟩, ⟨(some 23), .mov (.t 161), none⟩, ⟨(some 24), .mov (.t 162), none⟩])
  (.seq (.region [⟨(some 164), .loadN 18 (.t 5), none⟩, ⟨(some 165), .loadN 18 (.t 21), none⟩, ⟨(some 166), .call (.k (.c (.fn 25 []))) [(.t 164), (.t 165)], none⟩, ⟨(some 163), .mov (.t 166), none⟩, ⟨(some 167), .ext (.t 163) 0, none⟩, ⟨(some 168), .ext (.t 163) 1, none⟩, ⟨(some 25), .mov (.t 167), none⟩, ⟨(some 26), .mov (.t 168), none⟩])
  (.seq (.region [⟨(some 170), .loadN 18 (.t 19), none⟩, ⟨(some 171), .loadN 18 (.t 6), none⟩, ⟨(some 172), .call (.k (.c (.fn 26 []))) [(.t 170), (.t 171)], none⟩, ⟨(some 169), .mov (.t 172), none⟩, ⟨(some 173), .ext (.t 169) 0, none⟩, ⟨(some 174), .ext (.t 169) 1, none⟩, ⟨(some 27), .mov (.t 173), none⟩, ⟨(some 28), .mov (.t 174), none⟩])
  (.seq (.region [⟨(some 176), .loadN 18 (.t 5), none⟩, ⟨(some 177), .loadN 18 (.t 21), none⟩, ⟨(some 178), .call (.k (.c (.fn 26 []))) [(.t 176), (.t 177)], none⟩, ⟨(some 175), .mov (.t 178), none⟩, ⟨(some 179), .ext (.t 175) 0, none⟩, ⟨(some 180), .ext (.t 175) 1, none⟩, ⟨(some 29), .mov (.t 179), none⟩, ⟨(some 30), .mov (.t 180), none⟩])
  (.seq (.seq (.region [⟨(some 181), .mov (.t 20), none⟩, ⟨(some 182), .bin .neq .int (.t 181) (.k (.c (.int .i64 0))), none⟩, ⟨(some 183), .mov (.t 182), none⟩, ⟨(some 184), .mov (.t 22), some (183, false)⟩, ⟨(some 185), .bin .neq .int (.t 184) (.k (.c (.int .i64 0))), some (183, false)⟩, ⟨(some 186), .pick (.t 183) (.k (.c (.bool true))) (.t 185), none⟩, ⟨(some 187), .mov (.t 186), none⟩, ⟨(some 188), .mov (.t 24), some (187, false)⟩, ⟨(some 189), .bin .neq .int (.t 188) (.k (.c (.int .i64 0))), some (187, false)⟩, ⟨(some 190), .pick (.t 187) (.k (.c (.bool true))) (.t 189), none⟩, ⟨(some 191), .mov (.t 190), none⟩, ⟨(some 192), .mov (.t 23), some (191, false)⟩, ⟨(some 193), .bin .neq .int (.t 192) (.k (.c (.int .i64 1))), some (191, false)⟩, ⟨(some 194), .pick (.t 191) (.k (.c (.bool true))) (.t 193), none⟩, ⟨(some 195), .mov (.t 194), none⟩, ⟨(some 196), .mov (.t 26), some (195, false)⟩, ⟨(some 197), .bin .neq .int (.t 196) (.k (.c (.int .i64 0))), some (195, false)⟩, ⟨(some 198), .pick (.t 195) (.k (.c (.bool true))) (.t 197), none⟩, ⟨(some 199), .mov (.t 198), none⟩, ⟨(some 200), .mov (.t 25), some (199, false)⟩, ⟨(some 201), .bin .neq .int (.t 200) (.k (.c (.int .i64 2))), some (199, false)⟩, ⟨(some 202), .pick (.t 199) (.k (.c (.bool true))) (.t 201), none⟩, ⟨(some 203), .mov (.t 202), none⟩, ⟨(some 204), .mov (.t 28), some (203, false)⟩, ⟨(some 205), .bin .neq .int (.t 204) (.k (.c (.int .i64 0))), some (203, false)⟩, ⟨(some 206), .pick (.t 203) (.k (.c (.bool true))) (.t 205), none⟩, ⟨(some 207), .mov (.t 206), none⟩, ⟨(some 208), .mov (.t 27), some (207, false)⟩, ⟨(some 209), .mov (.t 9), some (207, false)⟩, ⟨(some 210), .bin .neq .int (.t 208) (.t 209), some (207, false)⟩, ⟨(some 211), .pick (.t 207) (.k (.c (.bool true))) (.t 210), none⟩, ⟨(some 212), .mov (.t 211), none⟩, ⟨(some 213), .mov (.t 30), some (212, false)⟩, ⟨(some 214), .bin .neq .int (.t 213) (.k (.c (.int .i64 0))), some (212, false)⟩, ⟨(some 215), .pick (.t 212) (.k (.c (.bool true))) (.t 214), none⟩, ⟨(some 216), .mov (.t 215), none⟩, ⟨(some 217), .mov (.t 29), some (216, false)⟩, ⟨(some 218), .mov (.t 9), some (216, false)⟩, ⟨(some 219), .bin .neq .int (.t 217) (.t 218), some (216, false)⟩, ⟨(some 220), .pick (.t 216) (.k (.c (.bool true))) (.t 219), none⟩])
  (.cond (.t 220) (.seq (.region [⟨(some 4), .mov (.k (.c (.bool false))), none⟩])
  .ret) .skip))
  (.seq (.region [⟨(some 222), .loadN 18 (.t 19), none⟩, ⟨(some 223), .loadN 18 (.t 6), none⟩, ⟨(some 224), .call (.k (.c (.fn 27 []))) [(.t 222), (.t 223), (.k (.c (.int .i64 16)))], none⟩, ⟨(some 221), .mov (.t 224), none⟩, ⟨(some 225), .ext (.t 221) 0, none⟩, ⟨(some 226), .ext (.t 221) 1, none⟩, ⟨(some 31), .alloc 54 [(.bool false), (.int .i8 0), (.int .i64 0), (.int .i64 0), (.slice none 0 (.exact 0))], none⟩, ⟨none, .store 5 (.t 31) (.t 225), none⟩, ⟨(some 32), .mov (.t 226), none⟩])
  (.seq (.region [⟨(some 228), .loadN 18 (.t 19), none⟩, ⟨(some 229), .loadN 18 (.t 6), none⟩, ⟨(some 230), .call (.k (.c (.fn 29 []))) [(.t 228), (.t 229), (.k (.c (.int .i64 16)))], none⟩, ⟨(some 227), .mov (.t 230), none⟩, ⟨(some 231), .ext (.t 227) 0, none⟩, ⟨(some 232), .ext (.t 227) 1, none⟩, ⟨(some 33), .alloc 54 [(.bool false), (.int .i8 0), (.int .i64 0), (.int .i64 0), (.slice none 0 (.exact 0))], none⟩, ⟨none, .store 5 (.t 33) (.t 231), none⟩, ⟨(some 34), .mov (.t 232), none⟩])
  (.seq (.seq (.region [⟨(some 233), .mov (.t 32), none⟩, ⟨(some 234), .mov (.t 34), none⟩, ⟨(some 235), .bin .neq .int (.t 233) (.t 234), none⟩, ⟨(some 236), .mov (.t 235), none⟩, ⟨(some 237), .mov (.t 32), some (236, false)⟩, ⟨(some 238), .bin .neq .int (.t 237) (.k (.c (.int .i64 0))), some (236, false)⟩, ⟨(some 239), .pick (.t 236) (.k (.c (.bool true))) (.t 238), none⟩, ⟨(some 240), .mov (.t 239), none⟩, ⟨(some 241), .loadN 5 (.t 31), some (240, false)⟩, ⟨(some 242), .loadN 5 (.t 33), some (240, false)⟩, ⟨(some 243), .call (.k (.c (.fn 30 []))) [(.t 241), (.t 242)], some (240, false)⟩, ⟨(some 244), .un .not (.t 243), some (240, false)⟩, ⟨(some 245), .pick (.t 240) (.k (.c (.bool true))) (.t 244), none⟩, ⟨(some 246), .mov (.t 245), none⟩, ⟨(some 247), .loadN 5 (.t 31), some (246, false)⟩, ⟨(some 248), .loadN 5 (.t 33), some (246, false)⟩, ⟨(some 249), .call (.k (.c (.fn 31 []))) [(.t 247), (.t 248)], some (246, false)⟩, ⟨(some 250), .un .not (.t 249), some (246, false)⟩, ⟨(some 251), .pick (.t 246) (.k (.c (.bool true))) (.t 250), none⟩, ⟨(some 252), .mov (.t 251), none⟩, ⟨(some 253), .fldA 0 (.t 33), some (252, false)⟩, ⟨(some 254), .load1 (.t 253), some (252, false)⟩, ⟨(some 255), .pick (.t 252) (.k (.c (.bool true))) (.t 254), none⟩, ⟨(some 256), .mov (.t 255), none⟩, ⟨(some 257), .fldA 2 (.t 33), some (256, false)⟩, ⟨(some 258), .load1 (.t 257), some (256, false)⟩, ⟨(some 259), .fldA 3 (.t 33), some (256, false)⟩, ⟨(some 260), .load1 (.t 259), some (256, false)⟩, ⟨(some 261), .bin .leq .int (.t 258) (.t 260), some (256, false)⟩, ⟨(some 262), .pick (.t 256) (.k (.c (.bool true))) (.t 261), none⟩])
  (.cond (.t 262) (.seq (.region [⟨(some 4), .mov (.k (.c (.bool false))), none⟩])
  .ret) .skip))
  (.seq (.region [⟨(some 264), .loadN 18 (.t 5), none⟩, ⟨(some 265), .loadN 18 (.t 21), none⟩, ⟨(some 266), .loadN 18 (.t 6), none⟩, ⟨(some 267), .buildSl 36 2 [(.bool false), (.slice none 0 (.exact 0)), (.int .i8 0), (.int .i8 0), (.int .i8 0), (.int .i8 0), (.int .i8 0), (.int .i8 0), (.int .i8 0), (.int .i8 0), (.int .i8 0), (.int .i8 0), (.int .i8 0), (.int .i8 0), (.int .i8 0), (.int .i8 0), (.int .i8 0), (.int .i8 0), (.bool false), (.slice none 0 (.exact 0)), (.int .i8 0), (.int .i8 0), (.int .i8 0), (.int .i8 0), (.int .i8 0), (.int .i8 0), (.int .i8 0), (.int .i8 0), (.int .i8 0), (.int .i8 0), (.int .i8 0), (.int .i8 0), (.int .i8 0), (.int .i8 0), (.int .i8 0), (.int .i8 0)] [(0, 18, (.t 265)), (18, 18, (.t 266))], none⟩, ⟨(some 268), .call (.k (.c (.fn 32 []))) [(.t 264), (.t 267), (.k (.c (.int .i64 0)))], none⟩, ⟨(some 263), .mov (.t 268), none⟩, ⟨(some 269), .ext (.t 263) 0, none⟩, ⟨(some 270), .ext (.t 263) 1, none⟩, ⟨(some 35), .mov (.t 269), none⟩, ⟨(some 36), .mov (.t 270), none⟩])
  (.seq (.region [⟨(some 272), .loadN 18 (.t 5), none⟩, ⟨(some 273), .loadN 18 (.t 21), none⟩, ⟨(some 274), .loadN 18 (.t 6), none⟩, ⟨(some 275), .buildSl 36 2 [(.bool false), (.slice none 0 (.exact 0)), (.int .i8 0), (.int .i8 0), (.int .i8 0), (.int .i8 0), (.int .i8 0), (.int .i8 0), (.int .i8 0), (.int .i8 0), (.int .i8 0), (.int .i8 0), (.int .i8 0), (.int .i8 0), (.int .i8 0), (.int .i8 0), (.int .i8 0), (.int .i8 0), (.bool false), (.slice none 0 (.exact 0)), (.int .i8 0), (.int .i8 0), (.int .i8 0), (.int .i8 0), (.int .i8 0), (.int .i8 0), (.int .i8 0), (.int .i8 0), (.int .i8 0), (.int .i8 0), (.int .i8 0), (.int .i8 0), (.int .i8 0), (.int .i8 0), (.int .i8 0), (.int .i8 0)] [(0, 18, (.t 273)), (18, 18, (.t 274))], none⟩, ⟨(some 276), .call (.k (.c (.fn 33 []))) [(.t 272), (.t 275)], none⟩, ⟨(some 271), .mov (.t 276), none⟩, ⟨(some 277), .ext (.t 271) 0, none⟩, ⟨(some 278), .ext (.t 271) 1, none⟩, ⟨(some 279), .ext (.t 271) 2, none⟩, ⟨(some 37), .mov (.t 277), none⟩, ⟨(some 38), .mov (.t 278), none⟩, ⟨(some 39), .mov (.t 279), none⟩])
  (.seq (.region [⟨(some 280), .mov (.t 36), none⟩, ⟨(some 281), .bin .eql .int (.t 280) (.k (.c (.int .i64 0))), none⟩, ⟨(some 282), .mov (.t 281), none⟩, ⟨(some 283), .mov (.t 35), some (282, true)⟩, ⟨(some 284), .bin .eql .int (.t 283) (.k (.c (.int .i64 1))), some (282, true)⟩, ⟨(some 285), .pick (.t 282) (.t 284) (.k (.c (.bool false))), none⟩, ⟨(some 286), .mov (.t 285), none⟩, ⟨(some 287), .mov (.t 39), some (286, true)⟩, ⟨(some 288), .bin .eql .int (.t 287) (.k (.c (.int .i64 0))), some (286, true)⟩, ⟨(some 289), .pick (.t 286) (.t 288) (.k (.c (.bool false))), none⟩, ⟨(some 290), .mov (.t 289), none⟩, ⟨(some 291), .mov (.t 37), some (290, true)⟩, ⟨(some 292), .bin .eql .int (.t 291) (.k (.c (.int .i64 1))), some (290, true)⟩, ⟨(some 293), .pick (.t 290) (.t 292) (.k (.c (.bool false))), none⟩, ⟨(some 294), .mov (.t 293), none⟩, ⟨(some 295), .mov (.t 38), some (294, true)⟩, ⟨(some 296), .bin .eql .int (.t 295) (.k (.c (.int .i64 0))), some (294, true)⟩, ⟨(some 297), .pick (.t 294) (.t 296) (.k (.c (.bool false))), none⟩, ⟨(some 4), .mov (.t 297), none⟩])
  .ret)))))))))))))))))))))))))))), [.tmp 4], true⟩
theorem c5 : kk 5 = some k5 := by kernel_rfl
/-- loop.example/g01263/laws.FnExactLeastTampers -/
def k9 : KF := ⟨106, (.seq (.region [⟨(some 3), .box 26 (.t 0), none⟩, ⟨(some 6), .mov (.k (.c (.bool false))), none⟩])
  (.seq (.region [⟨(some 7), .mov (.k (.c (.int .i64 1048576))), none⟩])
  (.seq (.region [⟨(some 18), .loadN 18 (.t 3), none⟩, ⟨(some 19), .mov (.t 7), none⟩, ⟨(some 20), .call (.k (.c (.fn 11 []))) [(.t 18), (.t 19)], none⟩, ⟨(some 7), .mov (.t 20), none⟩])
  (.seq (.seq (.region [⟨(some 21), .mov (.t 7), none⟩, ⟨(some 22), .bin .lss .int (.t 21) (.k (.c (.int .i64 0))), none⟩])
  (.cond (.t 22) (.seq (.region [⟨(some 6), .mov (.k (.c (.bool true))), none⟩])
  .ret) .skip))
  (.seq (.region [⟨(some 24), .loadN 18 (.t 3), none⟩, ⟨(some 25), .call (.k (.c (.fn 13 []))) [(.t 24)], none⟩, ⟨(some 26), .mov (.t 1), none⟩, ⟨(some 27), .mov (.t 2), none⟩, ⟨(some 28), .call (.k (.c (.fn 46 []))) [(.t 25), (.t 26), (.t 27)], none⟩, ⟨(some 23), .mov (.t 28), none⟩, ⟨(some 29), .ext (.t 23) 0, none⟩, ⟨(some 30), .ext (.t 23) 1, none⟩, ⟨(some 8), .mov (.t 29), none⟩, ⟨(some 9), .mov (.t 30), none⟩])
  (.seq (.region [⟨(some 31), .loadN 18 (.t 3), none⟩, ⟨(some 32), .call (.k (.c (.fn 13 []))) [(.t 31)], none⟩, ⟨(some 10), .alloc 36 [(.bool false), (.slice none 0 (.exact 0)), (.int .i8 0), (.int .i8 0), (.int .i8 0), (.int .i8 0), (.int .i8 0), (.int .i8 0), (.int .i8 0), (.int .i8 0), (.int .i8 0), (.int .i8 0), (.int .i8 0), (.int .i8 0), (.int .i8 0), (.int .i8 0), (.int .i8 0), (.int .i8 0)], none⟩, ⟨none, .store 18 (.t 10) (.t 32), none⟩])
  (.seq (.region [⟨(some 34), .loadN 18 (.t 10), none⟩, ⟨(some 35), .mov (.t 1), none⟩, ⟨(some 36), .mov (.t 2), none⟩, ⟨(some 37), .call (.k (.c (.fn 47 []))) [(.t 34), (.t 35), (.t 36)], none⟩, ⟨(some 33), .mov (.t 37), none⟩, ⟨(some 38), .ext (.t 33) 0, none⟩, ⟨(some 39), .ext (.t 33) 1, none⟩, ⟨(some 11), .mov (.t 38), none⟩, ⟨(some 12), .mov (.t 39), none⟩])
  (.seq (.seq (.region [⟨(some 40), .mov (.t 11), none⟩, ⟨(some 41), .mov (.t 8), none⟩, ⟨(some 42), .call (.k (.c (.fn 41 []))) [(.t 40), (.t 41)], none⟩, ⟨(some 43), .un .not (.t 42), none⟩, ⟨(some 44), .mov (.t 43), none⟩, ⟨(some 45), .mov (.t 12), some (44, false)⟩, ⟨(some 46), .mov (.t 9), some (44, false)⟩, ⟨(some 47), .bin .neq .int (.t 45) (.t 46), some (44, false)⟩, ⟨(some 48), .pick (.t 44) (.k (.c (.bool true))) (.t 47), none⟩])
  (.cond (.t 48) (.seq (.region [⟨(some 6), .mov (.k (.c (.bool false))), none⟩])
  .ret) .skip))
  (.seq (.seq (.drawn [(⟨(some 49), .loadN 18 (.t 10), none⟩, []), (⟨(some 50), .loadN 18 (.t 3), none⟩, []), (⟨(some 51), .call (.k (.c (.fn 13 []))) [(.t 50)], none⟩, [⟨(some 49), .loadN 18 (.t 10), none⟩]), (⟨(some 52), .call (.k (.c (.fn 16 []))) [(.t 49), (.t 51)], none⟩, []), (⟨(some 53), .un .not (.t 52), none⟩, [])])
  (.cond (.t 53) (.seq (.region [⟨(some 6), .mov (.k (.c (.bool false))), none⟩])
  .ret) .skip))
  (.seq (.region [⟨(some 13), .mov (.k (.c (.int .i64 1))), none⟩])
  (.seq (.region [⟨(some 54), .loadN 18 (.t 10), none⟩, ⟨(some 55), .mov (.t 13), none⟩, ⟨(some 56), .call (.k (.c (.fn 19 []))) [(.t 54), (.t 55)], none⟩, ⟨(some 13), .mov (.t 56), none⟩])
  (.seq (.seq (.region [⟨(some 57), .mov (.t 13), none⟩, ⟨(some 58), .bin .lss .int (.t 57) (.k (.c (.int .i64 0))), none⟩, ⟨(some 59), .mov (.t 58), none⟩, ⟨(some 60), .mov (.t 11), some (59, false)⟩, ⟨(some 61), .mov (.t 8), some (59, false)⟩, ⟨(some 62), .call (.k (.c (.fn 41 []))) [(.t 60), (.t 61)], some (59, false)⟩, ⟨(some 63), .un .not (.t 62), some (59, false)⟩, ⟨(some 64), .pick (.t 59) (.k (.c (.bool true))) (.t 63), none⟩, ⟨(some 65), .mov (.t 64), none⟩, ⟨(some 66), .mov (.t 12), some (65, false)⟩, ⟨(some 67), .mov (.t 9), some (65, false)⟩, ⟨(some 68), .bin .neq .int (.t 66) (.t 67), some (65, false)⟩, ⟨(some 69), .pick (.t 65) (.k (.c (.bool true))) (.t 68), none⟩])
  (.cond (.t 69) (.seq (.region [⟨(some 6), .mov (.k (.c (.bool false))), none⟩])
  .ret) .skip))
  (.seq (.region [⟨(some 14), .mov (.k (.c (.int .i64 1))), none⟩])
  (.seq (.region [⟨(some 70), .mov (.t 11), none⟩, ⟨(some 71), .mov (.t 14), none⟩, ⟨(some 72), .call (.k (.c (.fn 42 []))) [(.t 70), (.t 71)], none⟩, ⟨(some 14), .mov (.t 72), none⟩])
  (.seq (.region [⟨(some 15), .mov (.k (.c (.int .i64 1))), none⟩])
  (.seq (.region [⟨(some 73), .mov (.t 11), none⟩, ⟨(some 74), .mov (.t 15), none⟩, ⟨(some 75), .call (.k (.c (.fn 45 []))) [(.t 73), (.t 74)], none⟩, ⟨(some 15), .mov (.t 75), none⟩])
  (.seq (.seq (.region [⟨(some 76), .mov (.t 15), none⟩, ⟨(some 77), .bin .lss .int (.t 76) (.k (.c (.int .i64 0))), none⟩])
  (.cond (.t 77) (.seq (.region [⟨(some 6), .mov (.k (.c (.bool false))), none⟩])
  .ret) .skip))
  (.seq (.seq (.region [⟨(some 78), .mov (.t 15), none⟩, ⟨(some 79), .mov (.t 14), none⟩, ⟨(some 80), .bin .neq .int (.t 78) (.t 79), none⟩])
  (.cond (.t 80) (.seq (.region [⟨(some 6), .mov (.k (.c (.bool false))), none⟩])
  .ret) .skip))
  (.seq (.region [⟨(some 82), .loadN 18 (.t 3), none⟩, ⟨(some 83), .call (.k (.c (.fn 13 []))) [(.t 82)], none⟩, ⟨(some 84), .mov (.t 1), none⟩, ⟨(some 85), .mov (.t 2), none⟩, ⟨(some 86), .call (.k (.c (.fn 47 []))) [(.t 83), (.t 84), (.t 85)], none⟩, ⟨(some 81), .mov (.t 86), none⟩, ⟨(some 87), .ext (.t 81) 0, none⟩, ⟨(some 88), .ext (.t 81) 1, none⟩, ⟨(some 16), .mov (.t 87), none⟩, ⟨(some 17), .mov (.t 88), none⟩])
  (.seq (.seq (.region [⟨(some 89), .mov (.t 16), none⟩, ⟨(some 90), .mov (.t 8), none⟩, ⟨(some 91), .call (.k (.c (.fn 41 []))) [(.t 89), (.t 90)], none⟩, ⟨(some 92), .un .not (.t 91), none⟩, ⟨(some 93), .mov (.t 92), none⟩, ⟨(some 94), .mov (.t 17), some (93, false)⟩, ⟨(some 95), .mov (.t 9), some (93, false)⟩, ⟨(some 96), .bin .neq .int (.t 94) (.t 95), some (93, false)⟩, ⟨(some 97), .pick (.t 93) (.k (.c (.bool true))) (.t 96), none⟩])
  (.cond (.t 97) (.seq (.region [⟨(some 6), .mov (.k (.c (.bool false))), none⟩])
  .ret) .skip))
  (.seq (.region [⟨(some 15), .mov (.k (.c (.int .i64 1))), none⟩])
  (.seq (.region [⟨(some 98), .mov (.t 11), none⟩, ⟨(some 99), .mov (.t 15), none⟩, ⟨(some 100), .call (.k (.c (.fn 45 []))) [(.t 98), (.t 99)], none⟩, ⟨(some 15), .mov (.t 100), none⟩])
  (.seq (.seq (.region [⟨(some 101), .mov (.t 15), none⟩, ⟨(some 102), .bin .lss .int (.t 101) (.k (.c (.int .i64 0))), none⟩])
  (.cond (.t 102) (.seq (.region [⟨(some 6), .mov (.k (.c (.bool false))), none⟩])
  .ret) .skip))
  (.seq (.seq (.region [⟨(some 103), .mov (.t 15), none⟩, ⟨(some 104), .mov (.t 14), none⟩, ⟨(some 105), .bin .neq .int (.t 103) (.t 104), none⟩])
  (.cond (.t 105) (.seq (.region [⟨(some 6), .mov (.k (.c (.bool false))), none⟩])
  .ret) .skip))
  (.seq (.region [⟨(some 6), .mov (.k (.c (.bool true))), none⟩])
  .ret))))))))))))))))))))))))), [.tmp 6], true⟩
theorem c9 : kk 9 = some k9 := by kernel_rfl
/-- loop.example/g01263/laws.FnFewest -/
def l10_0 : KC := (.seq (.seq (.region [⟨(some 59), .mov (.t 12), none⟩, ⟨(some 60), .bin .lss .int (.t 59) (.k (.c (.int .u8 2))), none⟩])
  (.cond (.t 60) .skip (.exit 0)))
  (.seq (.block 1 (.seq (.drawn [(⟨(some 64), .mov (.t 12), none⟩, []), (⟨(some 66), .mov (.t 1), none⟩, []), (⟨(some 68), .loadN 18 (.t 10), none⟩, []), (⟨(some 65), .buildSl 5 1 [(.int .u8 0)] [(0, 1, (.t 64))], none⟩, [⟨(some 68), .loadN 18 (.t 10), none⟩]), (⟨(some 67), .app 5 1 1 (.t 65) (.t 66), none⟩, [⟨(some 68), .loadN 18 (.t 10), none⟩]), (⟨(some 69), .call (.k (.c (.fn 28 []))) [(.t 67), (.t 68)], none⟩, []), (⟨(some 63), .mov (.t 69), none⟩, []), (⟨(some 70), .ext (.t 63) 0, none⟩, []), (⟨(some 71), .ext (.t 63) 1, none⟩, []), (⟨(some 13), .alloc 38 [(.int .i8 0), (.int .i8 0), (.int .i16 0), (.int .i16 0)], none⟩, [⟨(some 68), .loadN 18 (.t 10), none⟩]), (⟨none, .store 4 (.t 13) (.t 70), none⟩, []), (⟨(some 14), .mov (.t 71), none⟩, [])])
  (.seq (.seq (.region [⟨(some 72), .mov (.t 14), none⟩, ⟨(some 73), .un .not (.t 72), none⟩])
  (.cond (.t 73) (.exit 1) .skip))
  (.seq (.region [⟨(some 75), .loadN 18 (.t 10), none⟩, ⟨(some 76), .loadN 4 (.t 13), none⟩, ⟨(some 77), .call (.k (.c (.fn 17 []))) [(.t 75), (.t 76)], none⟩, ⟨(some 74), .mov (.t 77), none⟩, ⟨(some 78), .ext (.t 74) 0, none⟩, ⟨(some 79), .ext (.t 74) 1, none⟩, ⟨(some 15), .alloc 36 [(.bool false), (.slice none 0 (.exact 0)), (.int .i8 0), (.int .i8 0), (.int .i8 0), (.int .i8 0), (.int .i8 0), (.int .i8 0), (.int .i8 0), (.int .i8 0), (.int .i8 0), (.int .i8 0), (.int .i8 0), (.int .i8 0), (.int .i8 0), (.int .i8 0), (.int .i8 0), (.int .i8 0)], none⟩, ⟨none, .store 18 (.t 15) (.t 78), none⟩, ⟨(some 16), .mov (.t 79), none⟩])
  (.seq (.seq (.region [⟨(some 80), .mov (.t 16), none⟩, ⟨(some 81), .bin .neq .int (.t 80) (.k (.c (.int .i64 0))), none⟩])
  (.cond (.t 81) (.seq (.region [⟨(some 4), .mov (.k (.c (.bool false))), none⟩])
  .ret) .skip))
  (.seq (.region [⟨(some 82), .loadN 18 (.t 15), none⟩, ⟨none, .store 18 (.t 10) (.t 82), none⟩])
  (.region [⟨(some 83), .mov (.t 11), none⟩, ⟨(some 84), .bin .add .int (.t 83) (.k (.c (.int .i64 1))), none⟩, ⟨(some 11), .mov (.t 84), none⟩])))))))
  (.region [⟨(some 61), .mov (.t 12), none⟩, ⟨(some 62), .bin .add .int (.t 61) (.k (.c (.int .u8 1))), none⟩, ⟨(some 12), .mov (.t 62), none⟩])))
def k10 : KF := ⟨152, (.seq (.region [⟨(some 4), .mov (.k (.c (.bool false))), none⟩])
  (.seq (.seq (.region [⟨(some 28), .mov (.t 0), none⟩, ⟨(some 29), .call (.k (.c (.fn 21 []))) [(.t 28)], none⟩, ⟨(some 30), .mov (.t 29), none⟩, ⟨(some 31), .mov (.t 1), some (30, false)⟩, ⟨(some 32), .call (.k (.c (.fn 21 []))) [(.t 31)], some (30, false)⟩, ⟨(some 33), .pick (.t 30) (.k (.c (.bool true))) (.t 32), none⟩])
  (.cond (.t 33) (.seq (.region [⟨(some 4), .mov (.k (.c (.bool true))), none⟩])
  .ret) .skip))
  (.seq (.region [⟨(some 34), .mov (.t 0), none⟩, ⟨(some 35), .call (.k (.c (.fn 22 []))) [(.t 34)], none⟩, ⟨(some 5), .alloc 36 [(.bool false), (.slice none 0 (.exact 0)), (.int .i8 0), (.int .i8 0), (.int .i8 0), (.int .i8 0), (.int .i8 0), (.int .i8 0), (.int .i8 0), (.int .i8 0), (.int .i8 0), (.int .i8 0), (.int .i8 0), (.int .i8 0), (.int .i8 0), (.int .i8 0), (.int .i8 0), (.int .i8 0)], none⟩, ⟨none, .store 18 (.t 5) (.t 35), none⟩])
  (.seq (.region [⟨(some 37), .loadN 18 (.t 5), none⟩, ⟨(some 38), .call (.k (.c (.fn 24 []))) [(.t 37)], none⟩, ⟨(some 36), .mov (.t 38), none⟩, ⟨(some 39), .ext (.t 36) 0, none⟩, ⟨(some 40), .ext (.t 36) 1, none⟩, ⟨(some 6), .mov (.t 39), none⟩, ⟨(some 7), .mov (.t 40), none⟩])
  (.seq (.region [⟨(some 42), .loadN 18 (.t 5), none⟩, ⟨(some 43), .mov (.t 6), none⟩, ⟨(some 44), .call (.k (.c (.fn 47 []))) [(.t 42), (.t 43), (.k (.c (.int .i64 2)))], none⟩, ⟨(some 41), .mov (.t 44), none⟩, ⟨(some 45), .ext (.t 41) 0, none⟩, ⟨(some 46), .ext (.t 41) 1, none⟩, ⟨(some 8), .mov (.t 45), none⟩, ⟨(some 9), .mov (.t 46), none⟩])
  (.seq (.seq (.region [⟨(some 47), .mov (.t 7), none⟩, ⟨(some 48), .bin .neq .int (.t 47) (.k (.c (.int .i64 0))), none⟩, ⟨(some 49), .mov (.t 48), none⟩, ⟨(some 50), .mov (.t 9), some (49, false)⟩, ⟨(some 51), .bin .neq .int (.t 50) (.k (.c (.int .i64 0))), some (49, false)⟩, ⟨(some 52), .pick (.t 49) (.k (.c (.bool true))) (.t 51), none⟩, ⟨(some 53), .mov (.t 52), none⟩, ⟨(some 54), .mov (.t 8), some (53, false)⟩, ⟨(some 55), .len false (.t 54), some (53, false)⟩, ⟨(some 56), .bin .neq .int (.t 55) (.k (.c (.int .i64 0))), some (53, false)⟩, ⟨(some 57), .pick (.t 53) (.k (.c (.bool true))) (.t 56), none⟩])
  (.cond (.t 57) (.seq (.region [⟨(some 4), .mov (.k (.c (.bool false))), none⟩])
  .ret) .skip))
  (.seq (.region [⟨(some 58), .loadN 18 (.t 5), none⟩, ⟨(some 10), .alloc 36 [(.bool false), (.slice none 0 (.exact 0)), (.int .i8 0), (.int .i8 0), (.int .i8 0), (.int .i8 0), (.int .i8 0), (.int .i8 0), (.int .i8 0), (.int .i8 0), (.int .i8 0), (.int .i8 0), (.int .i8 0), (.int .i8 0), (.int .i8 0), (.int .i8 0), (.int .i8 0), (.int .i8 0)], none⟩, ⟨none, .store 18 (.t 10) (.t 58), none⟩])
  (.seq (.region [⟨(some 11), .mov (.k (.c (.int .i64 0))), none⟩])
  (.seq (.seq (.region [⟨(some 12), .mov (.k (.c (.int .u8 0))), none⟩])
  (.block 0 (.loop l10_0)))
  (.seq (.region [⟨(some 86), .loadN 18 (.t 10), none⟩, ⟨(some 87), .call (.k (.c (.fn 24 []))) [(.t 86)], none⟩, ⟨(some 85), .mov (.t 87), none⟩, ⟨(some 88), .ext (.t 85) 0, none⟩, ⟨(some 89), .ext (.t 85) 1, none⟩, ⟨(some 17), .mov (.t 88), none⟩, ⟨(some 18), .mov (.t 89), none⟩])
  (.seq (.region [⟨(some 91), .loadN 18 (.t 5), none⟩, ⟨(some 92), .mov (.t 17), none⟩, ⟨(some 93), .call (.k (.c (.fn 47 []))) [(.t 91), (.t 92), (.k (.c (.int .i64 2)))], none⟩, ⟨(some 90), .mov (.t 93), none⟩, ⟨(some 94), .ext (.t 90) 0, none⟩, ⟨(some 95), .ext (.t 90) 1, none⟩, ⟨(some 19), .mov (.t 94), none⟩, ⟨(some 20), .mov (.t 95), none⟩])
  (.seq (.region [⟨(some 97), .loadN 18 (.t 5), none⟩, ⟨(some 98), .mov (.t 17), none⟩, ⟨(some 99), .call (.k (.c (.fn 46 []))) [(.t 97), (.t 98), (.k (.c (.int .i64 2)))], none⟩, ⟨(some 96), .mov (.t 99), none⟩, ⟨(some 100), .ext (.t 96) 0, none⟩, ⟨(some 101), .ext (.t 96) 1, none⟩, ⟨(some 21), .mov (.t 100), none⟩, ⟨(some 22), .mov (.t 101), none⟩])
  (.seq (.seq (.region [⟨(some 102), .mov (.t 18), none⟩, ⟨(some 103), .bin .neq .int (.t 102) (.k (.c (.int .i64 0))), none⟩, ⟨(some 104), .mov (.t 103), none⟩, ⟨(some 105), .mov (.t 20), some (104, false)⟩, ⟨(some 106), .mov (.t 22), some (104, false)⟩, ⟨(some 107), .bin .neq .int (.t 105) (.t 106), some (104, false)⟩, ⟨(some 108), .pick (.t 104) (.k (.c (.bool true))) (.t 107), none⟩, ⟨(some 109), .mov (.t 108), none⟩, ⟨(some 110), .mov (.t 20), some (109, false)⟩, ⟨(some 111), .bin .neq .int (.t 110) (.k (.c (.int .i64 0))), some (109, false)⟩, ⟨(some 112), .pick (.t 109) (.k (.c (.bool true))) (.t 111), none⟩, ⟨(some 113), .mov (.t 112), none⟩, ⟨(some 114), .mov (.t 19), some (113, false)⟩, ⟨(some 115), .mov (.t 21), some (113, false)⟩, ⟨(some 116), .call (.k (.c (.fn 48 []))) [(.t 114), (.t 115)], some (113, false)⟩, ⟨(some 117), .un .not (.t 116), some (113, false)⟩, ⟨(some 118), .pick (.t 113) (.k (.c (.bool true))) (.t 117), none⟩, ⟨(some 119), .mov (.t 118), none⟩, ⟨(some 120), .mov (.t 21), some (119, false)⟩, ⟨(some 121), .len false (.t 120), some (119, false)⟩, ⟨(some 122), .mov (.t 11), some (119, false)⟩, ⟨(some 123), .bin .gtr .int (.t 121) (.t 122), some (119, false)⟩, ⟨(some 124), .pick (.t 119) (.k (.c (.bool true))) (.t 123), none⟩])
  (.cond (.t 124) (.seq (.region [⟨(some 4), .mov (.k (.c (.bool false))), none⟩])
  .ret) .skip))
  (.seq (.region [⟨(some 126), .loadN 18 (.t 5), none⟩, ⟨(some 127), .mov (.t 21), none⟩, ⟨(some 128), .call (.k (.c (.fn 40 []))) [(.t 126), (.t 127)], none⟩, ⟨(some 125), .mov (.t 128), none⟩, ⟨(some 129), .ext (.t 125) 0, none⟩, ⟨(some 130), .ext (.t 125) 1, none⟩, ⟨(some 131), .ext (.t 125) 2, none⟩, ⟨(some 23), .alloc 36 [(.bool false), (.slice none 0 (.exact 0)), (.int .i8 0), (.int .i8 0), (.int .i8 0), (.int .i8 0), (.int .i8 0), (.int .i8 0), (.int .i8 0), (.int .i8 0), (.int .i8 0), (.int .i8 0), (.int .i8 0), (.int .i8 0), (.int .i8 0), (.int .i8 0), (.int .i8 0), (.int .i8 0)], none⟩, ⟨none, .store 18 (.t 23) (.t 129), none⟩, ⟨(some 24), .mov (.t 130), none⟩, ⟨(some 25), .mov (.t 131), none⟩])
  (.seq (.seq (.region [⟨(some 132), .mov (.t 25), none⟩, ⟨(some 133), .bin .neq .int (.t 132) (.k (.c (.int .i64 0))), none⟩, ⟨(some 134), .mov (.t 133), none⟩, ⟨(some 135), .mov (.t 24), some (134, false)⟩, ⟨(some 136), .mov (.t 21), some (134, false)⟩, ⟨(some 137), .len false (.t 136), some (134, false)⟩, ⟨(some 138), .bin .neq .int (.t 135) (.t 137), some (134, false)⟩, ⟨(some 139), .pick (.t 134) (.k (.c (.bool true))) (.t 138), none⟩])
  (.cond (.t 139) (.seq (.region [⟨(some 4), .mov (.k (.c (.bool false))), none⟩])
  .ret) .skip))
  (.seq (.region [⟨(some 141), .loadN 18 (.t 23), none⟩, ⟨(some 142), .call (.k (.c (.fn 49 []))) [(.t 141)], none⟩, ⟨(some 140), .mov (.t 142), none⟩, ⟨(some 143), .ext (.t 140) 0, none⟩, ⟨(some 144), .ext (.t 140) 1, none⟩, ⟨(some 26), .mov (.t 143), none⟩, ⟨(some 27), .mov (.t 144), none⟩])
  (.seq (.region [⟨(some 145), .mov (.t 27), none⟩, ⟨(some 146), .bin .eql .int (.t 145) (.k (.c (.int .i64 0))), none⟩, ⟨(some 147), .mov (.t 146), none⟩, ⟨(some 148), .mov (.t 26), some (147, true)⟩, ⟨(some 149), .mov (.t 17), some (147, true)⟩, ⟨(some 150), .bin .eql .int (.t 148) (.t 149), some (147, true)⟩, ⟨(some 151), .pick (.t 147) (.t 150) (.k (.c (.bool false))), none⟩, ⟨(some 4), .mov (.t 151), none⟩])
  .ret))))))))))))))))), [.tmp 4], true⟩
theorem c10 : kk 10 = some k10 := by kernel_rfl
/-- loop.example/g01263/spec.TamperHalf -/
def k17 : KF := ⟨13, (.seq (.region [⟨(some 2), .box 36 (.t 0), none⟩, ⟨(some 3), .box 38 (.t 1), none⟩, ⟨(some 4), .alloc 36 [(.bool false), (.slice none 0 (.exact 0)), (.int .i8 0), (.int .i8 0), (.int .i8 0), (.int .i8 0), (.int .i8 0), (.int .i8 0), (.int .i8 0), (.int .i8 0), (.int .i8 0), (.int .i8 0), (.int .i8 0), (.int .i8 0), (.int .i8 0), (.int .i8 0), (.int .i8 0), (.int .i8 0)], none⟩, ⟨(some 5), .mov (.k (.c (.int .i64 0))), none⟩])
  (.seq (.seq (.region [⟨(some 6), .call (.k (.c (.fn 57 []))) [(.t 2)], none⟩, ⟨(some 7), .un .not (.t 6), none⟩])
  (.cond (.t 7) (.seq (.region [⟨(some 8), .build [(.bool false), (.slice none 0 (.exact 0)), (.int .i8 0), (.int .i8 0), (.int .i8 0), (.int .i8 0), (.int .i8 0), (.int .i8 0), (.int .i8 0), (.int .i8 0), (.int .i8 0), (.int .i8 0), (.int .i8 0), (.int .i8 0), (.int .i8 0), (.int .i8 0), (.int .i8 0), (.int .i8 0)] [], none⟩, ⟨none, .store 18 (.t 4) (.t 8), none⟩, ⟨(some 5), .mov (.k (.c (.int .i64 1))), none⟩])
  .ret) .skip))
  (.seq (.region [⟨(some 9), .loadN 4 (.t 3), none⟩, ⟨(some 10), .call (.k (.c (.fn 58 []))) [(.t 2), (.t 9)], none⟩, ⟨(some 11), .ext (.t 10) 0, none⟩, ⟨(some 12), .ext (.t 10) 1, none⟩, ⟨none, .store 18 (.t 4) (.t 11), none⟩, ⟨(some 5), .mov (.t 12), none⟩])
  .ret))), [.cellN 4 18, .tmp 5], false⟩
theorem c17 : kk 17 = some k17 := by kernel_rfl
/-- loop.example/g01263/laws.f6big -/
def k21 : KF := ⟨6, (.seq (.region [⟨(some 2), .mov (.k (.c (.bool false))), none⟩])
  (.seq (.region [⟨(some 3), .mov (.t 0), none⟩, ⟨(some 4), .len false (.t 3), none⟩, ⟨(some 5), .bin .gtr .int (.t 4) (.k (.c (.int .i64 4096))), none⟩, ⟨(some 2), .mov (.t 5), none⟩])
  .ret)), [.tmp 2], true⟩
theorem c21 : kk 21 = some k21 := by kernel_rfl
/-- loop.example/g01263/spec.P6Half -/
def k22 : KF := ⟨6, (.seq (.region [⟨(some 2), .alloc 36 [(.bool false), (.slice none 0 (.exact 0)), (.int .i8 0), (.int .i8 0), (.int .i8 0), (.int .i8 0), (.int .i8 0), (.int .i8 0), (.int .i8 0), (.int .i8 0), (.int .i8 0), (.int .i8 0), (.int .i8 0), (.int .i8 0), (.int .i8 0), (.int .i8 0), (.int .i8 0), (.int .i8 0)], none⟩])
  (.seq (.region [⟨(some 3), .mov (.t 0), none⟩, ⟨(some 4), .call (.k (.c (.fn 64 []))) [(.t 3)], none⟩, ⟨(some 5), .call (.k (.c (.fn 63 []))) [(.t 4)], none⟩, ⟨none, .store 18 (.t 2) (.t 5), none⟩])
  .ret)), [.cellN 2 18], false⟩
theorem c22 : kk 22 = some k22 := by kernel_rfl
/-- loop.example/g01263/spec.AmountOf -/
def k24 : KF := ⟨9, (.seq (.region [⟨(some 1), .box 36 (.t 0), none⟩, ⟨(some 2), .mov (.k (.c (.int .i64 0))), none⟩, ⟨(some 3), .mov (.k (.c (.int .i64 0))), none⟩])
  (.seq (.seq (.region [⟨(some 4), .call (.k (.c (.fn 57 []))) [(.t 1)], none⟩, ⟨(some 5), .un .not (.t 4), none⟩])
  (.cond (.t 5) (.seq (.region [⟨(some 2), .mov (.k (.c (.int .i64 0))), none⟩, ⟨(some 3), .mov (.k (.c (.int .i64 1))), none⟩])
  .ret) .skip))
  (.seq (.region [⟨(some 6), .fldA 1 (.t 1), none⟩, ⟨(some 7), .load1 (.t 6), none⟩, ⟨(some 8), .call (.k (.c (.fn 51 []))) [(.t 7)], none⟩, ⟨(some 2), .mov (.t 8), none⟩, ⟨(some 3), .mov (.k (.c (.int .i64 0))), none⟩])
  .ret))), [.tmp 2, .tmp 3], true⟩
theorem c24 : kk 24 = some k24 := by kernel_rfl
/-- loop.example/g01263/spec.P6Way -/
def k28 : KF := ⟨20, (.seq (.region [⟨(some 3), .box 36 (.t 1), none⟩, ⟨(some 4), .alloc 38 [(.int .i8 0), (.int .i8 0), (.int .i16 0), (.int .i16 0)], none⟩, ⟨(some 5), .mov (.k (.c (.bool false))), none⟩])
  (.seq (.region [⟨(some 7), .call (.k (.c (.fn 72 []))) [(.t 3)], none⟩, ⟨(some 6), .mov (.t 7), none⟩])
  (.seq (.seq (.region [⟨(some 8), .mov (.t 6), none⟩, ⟨(some 9), .len false (.t 8), none⟩, ⟨(some 10), .bin .eql .int (.t 9) (.k (.c (.int .i64 0))), none⟩])
  (.cond (.t 10) (.seq (.region [⟨(some 11), .build [(.int .i8 0), (.int .i8 0), (.int .i16 0), (.int .i16 0)] [], none⟩, ⟨none, .store 4 (.t 4) (.t 11), none⟩, ⟨(some 5), .mov (.k (.c (.bool false))), none⟩])
  .ret) .skip))
  (.seq (.region [⟨(some 12), .mov (.t 6), none⟩, ⟨(some 13), .mov (.t 0), none⟩, ⟨(some 14), .call (.k (.c (.fn 64 []))) [(.t 13)], none⟩, ⟨(some 15), .mov (.t 6), none⟩, ⟨(some 16), .len false (.t 15), none⟩, ⟨(some 17), .call (.k (.c (.fn 73 []))) [(.t 14), (.t 16)], none⟩, ⟨(some 18), .idxS 4 (.t 12) (.t 17), none⟩, ⟨(some 19), .loadN 4 (.t 18), none⟩, ⟨none, .store 4 (.t 4) (.t 19), none⟩, ⟨(some 5), .mov (.k (.c (.bool true))), none⟩])
  .ret)))), [.cellN 4 4, .tmp 5], true⟩
theorem c28 : kk 28 = some k28 := by kernel_rfl
/-- loop.example/g01263/impl.TamperAll -/
def l40_0 : KC := (.seq (.region [⟨(some 28), .bin .lss .int (.t 27) (.t 26), none⟩])
  (.seq (.cond (.t 28) .skip (.exit 1))
  (.seq (.block 2 (.seq (.region [⟨(some 29), .idxS 4 (.t 25) (.t 27), none⟩, ⟨(some 30), .loadN 4 (.t 29), none⟩, ⟨(some 8), .alloc 38 [(.int .i8 0), (.int .i8 0), (.int .i16 0), (.int .i16 0)], none⟩, ⟨none, .store 4 (.t 8) (.t 30), none⟩])
  (.seq (.region [⟨(some 32), .loadN 18 (.t 2), none⟩, ⟨(some 33), .loadN 4 (.t 8), none⟩, ⟨(some 34), .call (.k (.c (.fn 60 []))) [(.t 32), (.t 33)], none⟩, ⟨(some 31), .mov (.t 34), none⟩, ⟨(some 35), .ext (.t 31) 0, none⟩, ⟨(some 36), .ext (.t 31) 1, none⟩, ⟨(some 9), .alloc 36 [(.bool false), (.slice none 0 (.exact 0)), (.int .i8 0), (.int .i8 0), (.int .i8 0), (.int .i8 0), (.int .i8 0), (.int .i8 0), (.int .i8 0), (.int .i8 0), (.int .i8 0), (.int .i8 0), (.int .i8 0), (.int .i8 0), (.int .i8 0), (.int .i8 0), (.int .i8 0), (.int .i8 0)], none⟩, ⟨none, .store 18 (.t 9) (.t 35), none⟩, ⟨(some 10), .mov (.t 36), none⟩])
  (.seq (.seq (.region [⟨(some 37), .mov (.t 10), none⟩, ⟨(some 38), .bin .neq .int (.t 37) (.k (.c (.int .i64 0))), none⟩])
  (.cond (.t 38) (.seq (.region [⟨(some 39), .build [(.bool false), (.slice none 0 (.exact 0)), (.int .i8 0), (.int .i8 0), (.int .i8 0), (.int .i8 0), (.int .i8 0), (.int .i8 0), (.int .i8 0), (.int .i8 0), (.int .i8 0), (.int .i8 0), (.int .i8 0), (.int .i8 0), (.int .i8 0), (.int .i8 0), (.int .i8 0), (.int .i8 0)] [], none⟩, ⟨(some 40), .mov (.t 10), none⟩, ⟨none, .store 18 (.t 4) (.t 39), none⟩, ⟨(some 5), .mov (.k (.c (.int .i64 0))), none⟩, ⟨(some 6), .mov (.t 40), none⟩])
  .ret) .skip))
  (.region [⟨(some 41), .loadN 18 (.t 9), none⟩, ⟨none, .store 18 (.t 2) (.t 41), none⟩])))))
  (.region [⟨(some 42), .bin .add .int (.t 27) (.k (.c (.int .i64 1))), none⟩, ⟨(some 27), .mov (.t 42), none⟩]))))
def k40 : KF := ⟨46, (.seq (.region [⟨(some 2), .box 36 (.t 0), none⟩, ⟨(some 4), .alloc 36 [(.bool false), (.slice none 0 (.exact 0)), (.int .i8 0), (.int .i8 0), (.int .i8 0), (.int .i8 0), (.int .i8 0), (.int .i8 0), (.int .i8 0), (.int .i8 0), (.int .i8 0), (.int .i8 0), (.int .i8 0), (.int .i8 0), (.int .i8 0), (.int .i8 0), (.int .i8 0), (.int .i8 0)], none⟩, ⟨(some 5), .mov (.k (.c (.int .i64 0))), none⟩, ⟨(some 6), .mov (.k (.c (.int .i64 0))), none⟩])
  (.seq (.block 0 (.seq (.region [⟨(some 12), .loadN 18 (.t 2), none⟩, ⟨(some 13), .call (.k (.c (.fn 59 []))) [(.t 12)], none⟩, ⟨(some 14), .un .not (.t 13), none⟩, ⟨(some 11), .mov (.t 14), none⟩])
  (.cond (.t 11) (.seq (.region [⟨(some 15), .build [(.bool false), (.slice none 0 (.exact 0)), (.int .i8 0), (.int .i8 0), (.int .i8 0), (.int .i8 0), (.int .i8 0), (.int .i8 0), (.int .i8 0), (.int .i8 0), (.int .i8 0), (.int .i8 0), (.int .i8 0), (.int .i8 0), (.int .i8 0), (.int .i8 0), (.int .i8 0), (.int .i8 0)] [], none⟩, ⟨none, .store 18 (.t 4) (.t 15), none⟩, ⟨(some 5), .mov (.k (.c (.int .i64 0))), none⟩, ⟨(some 6), .mov (.k (.c (.int .i64 1))), none⟩])
  .ret) (.seq (.region [⟨(some 17), .mov (.t 1), none⟩, ⟨(some 18), .len false (.t 17), none⟩, ⟨(some 19), .bin .gtr .int (.t 18) (.k (.c (.int .i64 40))), none⟩, ⟨(some 16), .mov (.t 19), none⟩])
  (.cond (.t 16) (.seq (.region [⟨(some 20), .build [(.bool false), (.slice none 0 (.exact 0)), (.int .i8 0), (.int .i8 0), (.int .i8 0), (.int .i8 0), (.int .i8 0), (.int .i8 0), (.int .i8 0), (.int .i8 0), (.int .i8 0), (.int .i8 0), (.int .i8 0), (.int .i8 0), (.int .i8 0), (.int .i8 0), (.int .i8 0), (.int .i8 0)] [], none⟩, ⟨none, .store 18 (.t 4) (.t 20), none⟩, ⟨(some 5), .mov (.k (.c (.int .i64 0))), none⟩, ⟨(some 6), .mov (.k (.c (.int .i64 2))), none⟩])
  .ret) .skip)))))
  (.seq (.region [⟨(some 21), .fldA 1 (.t 2), none⟩, ⟨(some 22), .load1 (.t 21), none⟩, ⟨(some 23), .call (.k (.c (.fn 86 []))) [(.t 22)], none⟩, ⟨(some 24), .fldA 1 (.t 2), none⟩, ⟨none, .store 1 (.t 24) (.t 23), none⟩])
  (.seq (.seq (.region [⟨(some 25), .mov (.t 1), none⟩, ⟨(some 26), .len false (.t 25), none⟩, ⟨(some 27), .mov (.k (.c (.int .i64 0))), none⟩])
  (.block 1 (.loop l40_0)))
  (.seq (.region [⟨(some 43), .loadN 18 (.t 2), none⟩, ⟨(some 44), .mov (.t 1), none⟩, ⟨(some 45), .len false (.t 44), none⟩, ⟨none, .store 18 (.t 4) (.t 43), none⟩, ⟨(some 5), .mov (.t 45), none⟩, ⟨(some 6), .mov (.k (.c (.int .i64 0))), none⟩])
  .ret))))), [.cellN 4 18, .tmp 5, .tmp 6], false⟩
theorem c40 : kk 40 = some k40 := by kernel_rfl
/-- loop.example/g01263/spec.LeastTampers -/
def l46_0 : KC := (.seq (.seq (.region [⟨(some 41), .mov (.t 10), none⟩, ⟨(some 42), .mov (.t 8), none⟩, ⟨(some 43), .len false (.t 42), none⟩, ⟨(some 44), .bin .lss .int (.t 41) (.t 43), none⟩])
  (.cond (.t 44) .skip (.exit 0)))
  (.seq (.block 1 (.seq (.region [⟨(some 48), .mov (.t 8), none⟩, ⟨(some 49), .mov (.t 10), none⟩, ⟨(some 50), .idxS 4 (.t 48) (.t 49), none⟩, ⟨(some 51), .loadN 4 (.t 50), none⟩, ⟨(some 52), .call (.k (.c (.fn 58 []))) [(.t 3), (.t 51)], none⟩, ⟨(some 47), .mov (.t 52), none⟩, ⟨(some 53), .ext (.t 47) 0, none⟩, ⟨(some 54), .ext (.t 47) 1, none⟩, ⟨(some 11), .alloc 36 [(.bool false), (.slice none 0 (.exact 0)), (.int .i8 0), (.int .i8 0), (.int .i8 0), (.int .i8 0), (.int .i8 0), (.int .i8 0), (.int .i8 0), (.int .i8 0), (.int .i8 0), (.int .i8 0), (.int .i8 0), (.int .i8 0), (.int .i8 0), (.int .i8 0), (.int .i8 0), (.int .i8 0)], none⟩, ⟨none, .store 18 (.t 11) (.t 53), none⟩, ⟨(some 12), .mov (.t 54), none⟩])
  (.seq (.seq (.region [⟨(some 55), .fldA 1 (.t 11), none⟩, ⟨(some 56), .load1 (.t 55), none⟩, ⟨(some 57), .call (.k (.c (.fn 51 []))) [(.t 56)], none⟩, ⟨(some 58), .mov (.t 1), none⟩, ⟨(some 59), .bin .eql .int (.t 57) (.t 58), none⟩])
  (.cond (.t 59) (.seq (.region [⟨(some 60), .mov (.t 8), none⟩, ⟨(some 61), .mov (.t 10), none⟩, ⟨(some 62), .idxS 4 (.t 60) (.t 61), none⟩, ⟨(some 63), .loadN 4 (.t 62), none⟩, ⟨(some 64), .buildSl 38 1 [(.int .i8 0), (.int .i8 0), (.int .i16 0), (.int .i16 0)] [(0, 4, (.t 63))], none⟩, ⟨(some 6), .mov (.t 64), none⟩, ⟨(some 7), .mov (.k (.c (.int .i64 0))), none⟩])
  .ret) .skip))
  (.region [⟨(some 65), .mov (.t 9), none⟩, ⟨(some 66), .loadN 18 (.t 11), none⟩, ⟨(some 67), .buildSl 36 1 [(.bool false), (.slice none 0 (.exact 0)), (.int .i8 0), (.int .i8 0), (.int .i8 0), (.int .i8 0), (.int .i8 0), (.int .i8 0), (.int .i8 0), (.int .i8 0), (.int .i8 0), (.int .i8 0), (.int .i8 0), (.int .i8 0), (.int .i8 0), (.int .i8 0), (.int .i8 0), (.int .i8 0)] [(0, 18, (.t 66))], none⟩, ⟨(some 68), .app 36 18 48 (.t 65) (.t 67), none⟩, ⟨(some 9), .mov (.t 68), none⟩]))))
  (.region [⟨(some 45), .mov (.t 10), none⟩, ⟨(some 46), .bin .add .int (.t 45) (.k (.c (.int .i64 1))), none⟩, ⟨(some 10), .mov (.t 46), none⟩])))
def l46_1 : KC := (.seq (.seq (.region [⟨(some 91), .mov (.t 15), none⟩, ⟨(some 92), .mov (.t 14), none⟩, ⟨(some 93), .len false (.t 92), none⟩, ⟨(some 94), .bin .lss .int (.t 91) (.t 93), none⟩])
  (.cond (.t 94) .skip (.exit 4)))
  (.seq (.block 5 (.seq (.drawn [(⟨(some 98), .mov (.t 9), none⟩, []), (⟨(some 99), .mov (.t 13), none⟩, []), (⟨(some 100), .idxS 18 (.t 98) (.t 99), none⟩, []), (⟨(some 101), .mov (.t 14), none⟩, []), (⟨(some 102), .mov (.t 15), none⟩, []), (⟨(some 103), .idxS 4 (.t 101) (.t 102), none⟩, []), (⟨(some 104), .loadN 4 (.t 103), none⟩, []), (⟨(some 105), .call (.k (.c (.fn 58 []))) [(.t 100), (.t 104)], none⟩, []), (⟨(some 97), .mov (.t 105), none⟩, []), (⟨(some 106), .ext (.t 97) 0, none⟩, []), (⟨(some 107), .ext (.t 97) 1, none⟩, []), (⟨(some 16), .alloc 36 [(.bool false), (.slice none 0 (.exact 0)), (.int .i8 0), (.int .i8 0), (.int .i8 0), (.int .i8 0), (.int .i8 0), (.int .i8 0), (.int .i8 0), (.int .i8 0), (.int .i8 0), (.int .i8 0), (.int .i8 0), (.int .i8 0), (.int .i8 0), (.int .i8 0), (.int .i8 0), (.int .i8 0)], none⟩, [⟨(some 104), .loadN 4 (.t 103), none⟩]), (⟨none, .store 18 (.t 16) (.t 106), none⟩, []), (⟨(some 17), .mov (.t 107), none⟩, [])])
  (.seq (.region [⟨(some 108), .fldA 1 (.t 16), none⟩, ⟨(some 109), .load1 (.t 108), none⟩, ⟨(some 110), .call (.k (.c (.fn 51 []))) [(.t 109)], none⟩, ⟨(some 111), .mov (.t 1), none⟩, ⟨(some 112), .bin .eql .int (.t 110) (.t 111), none⟩])
  (.cond (.t 112) (.seq (.drawn [(⟨(some 113), .mov (.t 8), none⟩, []), (⟨(some 114), .mov (.t 13), none⟩, []), (⟨(some 115), .idxS 4 (.t 113) (.t 114), none⟩, []), (⟨(some 116), .loadN 4 (.t 115), none⟩, []), (⟨(some 117), .mov (.t 14), none⟩, []), (⟨(some 118), .mov (.t 15), none⟩, []), (⟨(some 119), .idxS 4 (.t 117) (.t 118), none⟩, []), (⟨(some 120), .loadN 4 (.t 119), none⟩, []), (⟨(some 121), .buildSl 38 2 [(.int .i8 0), (.int .i8 0), (.int .i16 0), (.int .i16 0), (.int .i8 0), (.int .i8 0), (.int .i16 0), (.int .i16 0)] [(0, 4, (.t 116)), (4, 4, (.t 120))], none⟩, []), (⟨(some 6), .mov (.t 121), none⟩, []), (⟨(some 7), .mov (.k (.c (.int .i64 0))), none⟩, [])])
  .ret) .skip))))
  (.region [⟨(some 95), .mov (.t 15), none⟩, ⟨(some 96), .bin .add .int (.t 95) (.k (.c (.int .i64 1))), none⟩, ⟨(some 15), .mov (.t 96), none⟩])))
def l46_2 : KC := (.seq (.seq (.region [⟨(some 69), .mov (.t 13), none⟩, ⟨(some 70), .mov (.t 8), none⟩, ⟨(some 71), .len false (.t 70), none⟩, ⟨(some 72), .bin .lss .int (.t 69) (.t 71), none⟩, ⟨(some 73), .mov (.t 72), none⟩, ⟨(some 74), .mov (.t 2), some (73, true)⟩, ⟨(some 75), .bin .eql .int (.t 74) (.k (.c (.int .i64 2))), some (73, true)⟩, ⟨(some 76), .pick (.t 73) (.t 75) (.k (.c (.bool false))), none⟩])
  (.cond (.t 76) .skip (.exit 2)))
  (.seq (.block 3 (.seq (.seq (.region [⟨(some 79), .mov (.t 9), none⟩, ⟨(some 80), .mov (.t 13), none⟩, ⟨(some 81), .idxS 18 (.t 79) (.t 80), none⟩, ⟨(some 82), .fldA 1 (.t 81), none⟩, ⟨(some 83), .load1 (.t 82), none⟩, ⟨(some 84), .call (.k (.c (.fn 51 []))) [(.t 83)], none⟩, ⟨(some 85), .mov (.t 1), none⟩, ⟨(some 86), .bin .gtr .int (.t 84) (.t 85), none⟩])
  (.cond (.t 86) (.exit 3) .skip))
  (.seq (.region [⟨(some 87), .mov (.t 9), none⟩, ⟨(some 88), .mov (.t 13), none⟩, ⟨(some 89), .idxS 18 (.t 87) (.t 88), none⟩, ⟨(some 90), .call (.k (.c (.fn 72 []))) [(.t 89)], none⟩, ⟨(some 14), .mov (.t 90), none⟩])
  (.seq (.region [⟨(some 15), .mov (.k (.c (.int .i64 0))), none⟩])
  (.block 4 (.loop l46_1))))))
  (.region [⟨(some 77), .mov (.t 13), none⟩, ⟨(some 78), .bin .add .int (.t 77) (.k (.c (.int .i64 1))), none⟩, ⟨(some 13), .mov (.t 78), none⟩])))
def k46 : KF := ⟨123, (.seq (.region [⟨(some 3), .box 36 (.t 0), none⟩, ⟨(some 6), .mov (.k (.c (.slice none 0 (.exact 0)))), none⟩, ⟨(some 7), .mov (.k (.c (.int .i64 0))), none⟩])
  (.seq (.seq (.region [⟨(some 18), .call (.k (.c (.fn 57 []))) [(.t 3)], none⟩, ⟨(some 19), .un .not (.t 18), none⟩])
  (.cond (.t 19) (.seq (.region [⟨(some 20), .buildSl 38 0 [] [], none⟩, ⟨(some 6), .mov (.t 20), none⟩, ⟨(some 7), .mov (.k (.c (.int .i64 1))), none⟩])
  .ret) .skip))
  (.seq (.seq (.region [⟨(some 21), .mov (.t 2), none⟩, ⟨(some 22), .call (.k (.c (.fn 75 []))) [(.t 21), (.k (.c (.int .i64 0))), (.k (.c (.int .i64 2)))], none⟩, ⟨(some 23), .un .not (.t 22), none⟩, ⟨(some 24), .mov (.t 23), none⟩, ⟨(some 25), .mov (.t 1), some (24, false)⟩, ⟨(some 26), .call (.k (.c (.fn 87 []))) [(.t 25)], some (24, false)⟩, ⟨(some 27), .un .not (.t 26), some (24, false)⟩, ⟨(some 28), .pick (.t 24) (.k (.c (.bool true))) (.t 27), none⟩])
  (.cond (.t 28) (.seq (.region [⟨(some 29), .buildSl 38 0 [] [], none⟩, ⟨(some 6), .mov (.t 29), none⟩, ⟨(some 7), .mov (.k (.c (.int .i64 2))), none⟩])
  .ret) .skip))
  (.seq (.seq (.region [⟨(some 30), .fldA 1 (.t 3), none⟩, ⟨(some 31), .load1 (.t 30), none⟩, ⟨(some 32), .call (.k (.c (.fn 51 []))) [(.t 31)], none⟩, ⟨(some 33), .mov (.t 1), none⟩, ⟨(some 34), .bin .eql .int (.t 32) (.t 33), none⟩])
  (.cond (.t 34) (.seq (.region [⟨(some 35), .buildSl 38 0 [] [], none⟩, ⟨(some 6), .mov (.t 35), none⟩, ⟨(some 7), .mov (.k (.c (.int .i64 0))), none⟩])
  .ret) .skip))
  (.seq (.seq (.region [⟨(some 36), .mov (.t 2), none⟩, ⟨(some 37), .bin .eql .int (.t 36) (.k (.c (.int .i64 0))), none⟩])
  (.cond (.t 37) (.seq (.region [⟨(some 38), .buildSl 38 0 [] [], none⟩, ⟨(some 6), .mov (.t 38), none⟩, ⟨(some 7), .mov (.k (.c (.int .i64 6))), none⟩])
  .ret) .skip))
  (.seq (.region [⟨(some 39), .call (.k (.c (.fn 72 []))) [(.t 3)], none⟩, ⟨(some 8), .mov (.t 39), none⟩])
  (.seq (.region [⟨(some 40), .buildSl 36 0 [] [], none⟩, ⟨(some 9), .mov (.t 40), none⟩])
  (.seq (.seq (.region [⟨(some 10), .mov (.k (.c (.int .i64 0))), none⟩])
  (.block 0 (.loop l46_0)))
  (.seq (.seq (.region [⟨(some 13), .mov (.k (.c (.int .i64 0))), none⟩])
  (.block 2 (.loop l46_2)))
  (.seq (.region [⟨(some 122), .buildSl 38 0 [] [], none⟩, ⟨(some 6), .mov (.t 122), none⟩, ⟨(some 7), .mov (.k (.c (.int .i64 6))), none⟩])
  .ret)))))))))), [.tmp 6, .tmp 7], false⟩
theorem c46 : kk 46 = some k46 := by kernel_rfl
/-- loop.example/g01263/impl.LeastTampers -/
def l47_0 : KC := (.seq (.region [⟨(some 50), .bin .lss .int (.t 49) (.t 48), none⟩])
  (.seq (.cond (.t 50) .skip (.exit 1))
  (.seq (.block 2 (.seq (.region [⟨(some 51), .idxS 4 (.t 47) (.t 49), none⟩, ⟨(some 52), .loadN 4 (.t 51), none⟩, ⟨(some 11), .alloc 38 [(.int .i8 0), (.int .i8 0), (.int .i16 0), (.int .i16 0)], none⟩, ⟨none, .store 4 (.t 11) (.t 52), none⟩])
  (.seq (.region [⟨(some 54), .loadN 18 (.t 3), none⟩, ⟨(some 55), .loadN 4 (.t 11), none⟩, ⟨(some 56), .call (.k (.c (.fn 60 []))) [(.t 54), (.t 55)], none⟩, ⟨(some 53), .mov (.t 56), none⟩, ⟨(some 57), .ext (.t 53) 0, none⟩, ⟨(some 58), .ext (.t 53) 1, none⟩, ⟨(some 12), .alloc 36 [(.bool false), (.slice none 0 (.exact 0)), (.int .i8 0), (.int .i8 0), (.int .i8 0), (.int .i8 0), (.int .i8 0), (.int .i8 0), (.int .i8 0), (.int .i8 0), (.int .i8 0), (.int .i8 0), (.int .i8 0), (.int .i8 0), (.int .i8 0), (.int .i8 0), (.int .i8 0), (.int .i8 0)], none⟩, ⟨none, .store 18 (.t 12) (.t 57), none⟩, ⟨(some 13), .mov (.t 58), none⟩])
  (.seq (.seq (.region [⟨(some 59), .loadN 18 (.t 12), none⟩, ⟨(some 60), .call (.k (.c (.fn 54 []))) [(.t 59)], none⟩, ⟨(some 61), .mov (.t 1), none⟩, ⟨(some 62), .bin .eql .int (.t 60) (.t 61), none⟩])
  (.cond (.t 62) (.seq (.region [⟨(some 63), .loadN 4 (.t 11), none⟩, ⟨(some 64), .buildSl 38 1 [(.int .i8 0), (.int .i8 0), (.int .i16 0), (.int .i16 0)] [(0, 4, (.t 63))], none⟩, ⟨(some 6), .mov (.t 64), none⟩, ⟨(some 7), .mov (.k (.c (.int .i64 0))), none⟩])
  .ret) .skip))
  (.region [⟨(some 65), .mov (.t 9), none⟩, ⟨(some 66), .loadN 18 (.t 12), none⟩, ⟨(some 67), .buildSl 36 1 [(.bool false), (.slice none 0 (.exact 0)), (.int .i8 0), (.int .i8 0), (.int .i8 0), (.int .i8 0), (.int .i8 0), (.int .i8 0), (.int .i8 0), (.int .i8 0), (.int .i8 0), (.int .i8 0), (.int .i8 0), (.int .i8 0), (.int .i8 0), (.int .i8 0), (.int .i8 0), (.int .i8 0)] [(0, 18, (.t 66))], none⟩, ⟨(some 68), .app 36 18 48 (.t 65) (.t 67), none⟩, ⟨(some 9), .mov (.t 68), none⟩])))))
  (.region [⟨(some 69), .bin .add .int (.t 49) (.k (.c (.int .i64 1))), none⟩, ⟨(some 49), .mov (.t 69), none⟩]))))
def l47_1 : KC := (.seq (.region [⟨(some 83), .bin .lss .int (.t 82) (.t 81), none⟩])
  (.seq (.cond (.t 83) .skip (.exit 5))
  (.seq (.block 6 (.seq (.region [⟨(some 84), .idxS 4 (.t 80) (.t 82), none⟩, ⟨(some 85), .loadN 4 (.t 84), none⟩, ⟨(some 17), .alloc 38 [(.int .i8 0), (.int .i8 0), (.int .i16 0), (.int .i16 0)], none⟩, ⟨none, .store 4 (.t 17) (.t 85), none⟩])
  (.seq (.region [⟨(some 87), .loadN 18 (.t 15), none⟩, ⟨(some 88), .loadN 4 (.t 17), none⟩, ⟨(some 89), .call (.k (.c (.fn 60 []))) [(.t 87), (.t 88)], none⟩, ⟨(some 86), .mov (.t 89), none⟩, ⟨(some 90), .ext (.t 86) 0, none⟩, ⟨(some 91), .ext (.t 86) 1, none⟩, ⟨(some 18), .alloc 36 [(.bool false), (.slice none 0 (.exact 0)), (.int .i8 0), (.int .i8 0), (.int .i8 0), (.int .i8 0), (.int .i8 0), (.int .i8 0), (.int .i8 0), (.int .i8 0), (.int .i8 0), (.int .i8 0), (.int .i8 0), (.int .i8 0), (.int .i8 0), (.int .i8 0), (.int .i8 0), (.int .i8 0)], none⟩, ⟨none, .store 18 (.t 18) (.t 90), none⟩, ⟨(some 19), .mov (.t 91), none⟩])
  (.seq (.region [⟨(some 92), .loadN 18 (.t 18), none⟩, ⟨(some 93), .call (.k (.c (.fn 54 []))) [(.t 92)], none⟩, ⟨(some 94), .mov (.t 1), none⟩, ⟨(some 95), .bin .eql .int (.t 93) (.t 94), none⟩])
  (.cond (.t 95) (.seq (.drawn [(⟨(some 96), .mov (.t 8), none⟩, []), (⟨(some 97), .mov (.t 14), none⟩, []), (⟨(some 98), .idxS 4 (.t 96) (.t 97), none⟩, []), (⟨(some 99), .loadN 4 (.t 98), none⟩, []), (⟨(some 100), .loadN 4 (.t 17), none⟩, []), (⟨(some 101), .buildSl 38 2 [(.int .i8 0), (.int .i8 0), (.int .i16 0), (.int .i16 0), (.int .i8 0), (.int .i8 0), (.int .i16 0), (.int .i16 0)] [(0, 4, (.t 99)), (4, 4, (.t 100))], none⟩, []), (⟨(some 6), .mov (.t 101), none⟩, []), (⟨(some 7), .mov (.k (.c (.int .i64 0))), none⟩, [])])
  .ret) .skip)))))
  (.region [⟨(some 102), .bin .add .int (.t 82) (.k (.c (.int .i64 1))), none⟩, ⟨(some 82), .mov (.t 102), none⟩]))))
def l47_2 : KC := (.seq (.region [⟨(some 75), .bin .lss .int (.t 74) (.t 73), none⟩])
  (.seq (.cond (.t 75) .skip (.exit 3))
  (.seq (.block 4 (.seq (.region [⟨(some 76), .mov (.t 74), none⟩, ⟨(some 77), .idxS 18 (.t 72) (.t 74), none⟩, ⟨(some 78), .loadN 18 (.t 77), none⟩, ⟨(some 15), .alloc 36 [(.bool false), (.slice none 0 (.exact 0)), (.int .i8 0), (.int .i8 0), (.int .i8 0), (.int .i8 0), (.int .i8 0), (.int .i8 0), (.int .i8 0), (.int .i8 0), (.int .i8 0), (.int .i8 0), (.int .i8 0), (.int .i8 0), (.int .i8 0), (.int .i8 0), (.int .i8 0), (.int .i8 0)], none⟩, ⟨(some 14), .mov (.t 76), none⟩, ⟨none, .store 18 (.t 15) (.t 78), none⟩])
  (.seq (.region [⟨(some 79), .loadN 18 (.t 15), none⟩, ⟨(some 80), .call (.k (.c (.fn 83 []))) [(.t 79)], none⟩, ⟨(some 81), .len false (.t 80), none⟩, ⟨(some 82), .mov (.k (.c (.int .i64 0))), none⟩])
  (.block 5 (.loop l47_1)))))
  (.region [⟨(some 103), .bin .add .int (.t 74) (.k (.c (.int .i64 1))), none⟩, ⟨(some 74), .mov (.t 103), none⟩]))))
def k47 : KF := ⟨104, (.seq (.region [⟨(some 3), .box 36 (.t 0), none⟩, ⟨(some 6), .mov (.k (.c (.slice none 0 (.exact 0)))), none⟩, ⟨(some 7), .mov (.k (.c (.int .i64 0))), none⟩])
  (.seq (.block 0 (.seq (.region [⟨(some 21), .loadN 18 (.t 3), none⟩, ⟨(some 22), .call (.k (.c (.fn 59 []))) [(.t 21)], none⟩, ⟨(some 23), .un .not (.t 22), none⟩, ⟨(some 20), .mov (.t 23), none⟩])
  (.cond (.t 20) (.seq (.region [⟨(some 6), .mov (.k (.c (.slice none 0 (.exact 0)))), none⟩, ⟨(some 7), .mov (.k (.c (.int .i64 1))), none⟩])
  .ret) (.seq (.region [⟨(some 25), .mov (.t 2), none⟩, ⟨(some 26), .bin .lss .int (.t 25) (.k (.c (.int .i64 0))), none⟩, ⟨(some 27), .mov (.t 26), none⟩, ⟨(some 28), .mov (.t 2), some (27, false)⟩, ⟨(some 29), .bin .gtr .int (.t 28) (.k (.c (.int .i64 2))), some (27, false)⟩, ⟨(some 30), .pick (.t 27) (.k (.c (.bool true))) (.t 29), none⟩, ⟨(some 31), .mov (.t 30), none⟩, ⟨(some 32), .mov (.t 1), some (31, false)⟩, ⟨(some 33), .call (.k (.c (.fn 88 []))) [(.t 32)], some (31, false)⟩, ⟨(some 34), .un .not (.t 33), some (31, false)⟩, ⟨(some 35), .pick (.t 31) (.k (.c (.bool true))) (.t 34), none⟩, ⟨(some 24), .mov (.t 35), none⟩])
  (.cond (.t 24) (.seq (.region [⟨(some 6), .mov (.k (.c (.slice none 0 (.exact 0)))), none⟩, ⟨(some 7), .mov (.k (.c (.int .i64 2))), none⟩])
  .ret) (.seq (.region [⟨(some 37), .loadN 18 (.t 3), none⟩, ⟨(some 38), .call (.k (.c (.fn 54 []))) [(.t 37)], none⟩, ⟨(some 39), .mov (.t 1), none⟩, ⟨(some 40), .bin .eql .int (.t 38) (.t 39), none⟩, ⟨(some 36), .mov (.t 40), none⟩])
  (.cond (.t 36) (.seq (.region [⟨(some 6), .mov (.k (.c (.slice none 0 (.exact 0)))), none⟩, ⟨(some 7), .mov (.k (.c (.int .i64 0))), none⟩])
  .ret) (.seq (.region [⟨(some 42), .mov (.t 2), none⟩, ⟨(some 43), .bin .eql .int (.t 42) (.k (.c (.int .i64 0))), none⟩, ⟨(some 41), .mov (.t 43), none⟩])
  (.cond (.t 41) (.seq (.region [⟨(some 6), .mov (.k (.c (.slice none 0 (.exact 0)))), none⟩, ⟨(some 7), .mov (.k (.c (.int .i64 6))), none⟩])
  .ret) .skip)))))))))
  (.seq (.region [⟨(some 44), .loadN 18 (.t 3), none⟩, ⟨(some 45), .call (.k (.c (.fn 83 []))) [(.t 44)], none⟩, ⟨(some 8), .mov (.t 45), none⟩])
  (.seq (.region [⟨(some 46), .buildSl 36 0 [] [], none⟩, ⟨(some 9), .mov (.t 46), none⟩])
  (.seq (.seq (.region [⟨(some 47), .mov (.t 8), none⟩, ⟨(some 48), .len false (.t 47), none⟩, ⟨(some 49), .mov (.k (.c (.int .i64 0))), none⟩])
  (.block 1 (.loop l47_0)))
  (.seq (.seq (.region [⟨(some 70), .mov (.t 2), none⟩, ⟨(some 71), .bin .eql .int (.t 70) (.k (.c (.int .i64 1))), none⟩])
  (.cond (.t 71) (.seq (.region [⟨(some 6), .mov (.k (.c (.slice none 0 (.exact 0)))), none⟩, ⟨(some 7), .mov (.k (.c (.int .i64 6))), none⟩])
  .ret) .skip))
  (.seq (.seq (.region [⟨(some 72), .mov (.t 9), none⟩, ⟨(some 73), .len false (.t 72), none⟩, ⟨(some 74), .mov (.k (.c (.int .i64 0))), none⟩])
  (.block 3 (.loop l47_2)))
  (.seq (.region [⟨(some 6), .mov (.k (.c (.slice none 0 (.exact 0)))), none⟩, ⟨(some 7), .mov (.k (.c (.int .i64 6))), none⟩])
  .ret)))))))), [.tmp 6, .tmp 7], false⟩
theorem c47 : kk 47 = some k47 := by kernel_rfl
/-- loop.example/g01263/spec.SameTampers -/
def l48_0 : KC := (.seq (.seq (.region [⟨(some 11), .mov (.t 5), none⟩, ⟨(some 12), .mov (.t 0), none⟩, ⟨(some 13), .len false (.t 12), none⟩, ⟨(some 14), .bin .lss .int (.t 11) (.t 13), none⟩])
  (.cond (.t 14) .skip (.exit 0)))
  (.seq (.block 1 (.seq (.drawn [(⟨(some 17), .mov (.t 0), none⟩, []), (⟨(some 18), .mov (.t 5), none⟩, []), (⟨(some 19), .idxS 4 (.t 17) (.t 18), none⟩, []), (⟨(some 20), .loadN 4 (.t 19), none⟩, []), (⟨(some 21), .mov (.t 1), none⟩, []), (⟨(some 22), .mov (.t 5), none⟩, []), (⟨(some 23), .idxS 4 (.t 21) (.t 22), none⟩, []), (⟨(some 24), .loadN 4 (.t 23), none⟩, []), (⟨(some 25), .bin .neq (.agg [.int, .int, .int, .int]) (.t 20) (.t 24), none⟩, [])])
  (.cond (.t 25) (.seq (.region [⟨(some 4), .mov (.k (.c (.bool false))), none⟩])
  .ret) .skip)))
  (.region [⟨(some 15), .mov (.t 5), none⟩, ⟨(some 16), .bin .add .int (.t 15) (.k (.c (.int .i64 1))), none⟩, ⟨(some 5), .mov (.t 16), none⟩])))
def k48 : KF := ⟨26, (.seq (.region [⟨(some 4), .mov (.k (.c (.bool false))), none⟩])
  (.seq (.seq (.region [⟨(some 6), .mov (.t 0), none⟩, ⟨(some 7), .len false (.t 6), none⟩, ⟨(some 8), .mov (.t 1), none⟩, ⟨(some 9), .len false (.t 8), none⟩, ⟨(some 10), .bin .neq .int (.t 7) (.t 9), none⟩])
  (.cond (.t 10) (.seq (.region [⟨(some 4), .mov (.k (.c (.bool false))), none⟩])
  .ret) .skip))
  (.seq (.seq (.region [⟨(some 5), .mov (.k (.c (.int .i64 0))), none⟩])
  (.block 0 (.loop l48_0)))
  (.seq (.region [⟨(some 4), .mov (.k (.c (.bool true))), none⟩])
  .ret)))), [.tmp 4], true⟩
theorem c48 : kk 48 = some k48 := by kernel_rfl
/-- loop.example/g01263/impl.AmountOf -/
def k49 : KF := ⟨9, (.seq (.region [⟨(some 1), .box 36 (.t 0), none⟩, ⟨(some 2), .mov (.k (.c (.int .i64 0))), none⟩, ⟨(some 3), .mov (.k (.c (.int .i64 0))), none⟩])
  (.seq (.seq (.region [⟨(some 4), .loadN 18 (.t 1), none⟩, ⟨(some 5), .call (.k (.c (.fn 59 []))) [(.t 4)], none⟩, ⟨(some 6), .un .not (.t 5), none⟩])
  (.cond (.t 6) (.seq (.region [⟨(some 2), .mov (.k (.c (.int .i64 0))), none⟩, ⟨(some 3), .mov (.k (.c (.int .i64 1))), none⟩])
  .ret) .skip))
  (.seq (.region [⟨(some 7), .loadN 18 (.t 1), none⟩, ⟨(some 8), .call (.k (.c (.fn 54 []))) [(.t 7)], none⟩, ⟨(some 2), .mov (.t 8), none⟩, ⟨(some 3), .mov (.k (.c (.int .i64 0))), none⟩])
  .ret))), [.tmp 2, .tmp 3], true⟩
theorem c49 : kk 49 = some k49 := by kernel_rfl
/-- loop.example/g01263/spec.l01Sum -/
def l51_0 : KC := (.seq (.seq (.region [⟨(some 5), .mov (.t 4), none⟩, ⟨(some 6), .mov (.t 0), none⟩, ⟨(some 7), .len false (.t 6), none⟩, ⟨(some 8), .bin .lss .int (.t 5) (.t 7), none⟩])
  (.cond (.t 8) .skip (.exit 0)))
  (.seq (.block 1 (.drawn [(⟨(some 11), .mov (.t 3), none⟩, []), (⟨(some 13), .mov (.t 0), none⟩, []), (⟨(some 14), .mov (.t 4), none⟩, []), (⟨(some 15), .idxS 2 (.t 13) (.t 14), none⟩, []), (⟨(some 16), .fldA 0 (.t 15), none⟩, []), (⟨(some 17), .load1 (.t 16), none⟩, []), (⟨(some 12), .call (.k (.c (.fn 89 []))) [], none⟩, [⟨(some 17), .load1 (.t 16), none⟩]), (⟨(some 18), .idxS 1 (.t 12) (.t 17), none⟩, []), (⟨(some 19), .load1 (.t 18), none⟩, []), (⟨(some 20), .bin .add .int (.t 11) (.t 19), none⟩, []), (⟨(some 3), .mov (.t 20), none⟩, [])]))
  (.region [⟨(some 9), .mov (.t 4), none⟩, ⟨(some 10), .bin .add .int (.t 9) (.k (.c (.int .i64 1))), none⟩, ⟨(some 4), .mov (.t 10), none⟩])))
def k51 : KF := ⟨22, (.seq (.region [⟨(some 2), .mov (.k (.c (.int .i64 0))), none⟩])
  (.seq (.region [⟨(some 3), .mov (.k (.c (.int .i64 0))), none⟩])
  (.seq (.seq (.region [⟨(some 4), .mov (.k (.c (.int .i64 0))), none⟩])
  (.block 0 (.loop l51_0)))
  (.seq (.region [⟨(some 21), .mov (.t 3), none⟩, ⟨(some 2), .mov (.t 21), none⟩])
  .ret)))), [.tmp 2], true⟩
theorem c51 : kk 51 = some k51 := by kernel_rfl
/-- loop.example/g01263/impl.amountOf -/
def l54_0 : KC := (.seq (.region [⟨(some 10), .bin .lss .int (.t 9) (.t 8), none⟩])
  (.seq (.cond (.t 10) .skip (.exit 0))
  (.seq (.block 1 (.seq (.region [⟨(some 11), .idxS 2 (.t 7) (.t 9), none⟩, ⟨(some 12), .loadN 2 (.t 11), none⟩, ⟨(some 5), .alloc 119 [(.int .i8 0), (.int .i16 0)], none⟩, ⟨none, .store 2 (.t 5) (.t 12), none⟩])
  (.region [⟨(some 13), .mov (.t 3), none⟩, ⟨(some 14), .fldA 0 (.t 5), none⟩, ⟨(some 15), .load1 (.t 14), none⟩, ⟨(some 16), .conv .i64 (.t 15), none⟩, ⟨(some 17), .call (.k (.c (.fn 91 []))) [(.t 16)], none⟩, ⟨(some 18), .bin .add .int (.t 13) (.t 17), none⟩, ⟨(some 3), .mov (.t 18), none⟩])))
  (.region [⟨(some 19), .bin .add .int (.t 9) (.k (.c (.int .i64 1))), none⟩, ⟨(some 9), .mov (.t 19), none⟩]))))
def k54 : KF := ⟨21, (.seq (.region [⟨(some 1), .box 36 (.t 0), none⟩, ⟨(some 2), .mov (.k (.c (.int .i64 0))), none⟩])
  (.seq (.region [⟨(some 3), .mov (.k (.c (.int .i64 0))), none⟩])
  (.seq (.seq (.region [⟨(some 6), .fldA 1 (.t 1), none⟩, ⟨(some 7), .load1 (.t 6), none⟩, ⟨(some 8), .len false (.t 7), none⟩, ⟨(some 9), .mov (.k (.c (.int .i64 0))), none⟩])
  (.block 0 (.loop l54_0)))
  (.seq (.region [⟨(some 20), .mov (.t 3), none⟩, ⟨(some 2), .mov (.t 20), none⟩])
  .ret)))), [.tmp 2], true⟩
theorem c54 : kk 54 = some k54 := by kernel_rfl
/-- loop.example/g01263/spec.l01Ok -/
def k57 : KF := ⟨15, (.seq (.region [⟨(some 2), .mov (.k (.c (.bool false))), none⟩])
  (.seq (.region [⟨(some 3), .mov (.t 0), none⟩, ⟨(some 4), .nilchk (.t 3), none⟩, ⟨(some 5), .fldA 1 (.t 4), none⟩, ⟨(some 6), .load1 (.t 5), none⟩, ⟨(some 7), .call (.k (.c (.fn 93 []))) [(.t 6)], none⟩, ⟨(some 8), .mov (.t 7), none⟩, ⟨(some 9), .mov (.t 0), some (8, true)⟩, ⟨(some 10), .nilchk (.t 9), some (8, true)⟩, ⟨(some 11), .fldA 2 (.t 10), some (8, true)⟩, ⟨(some 12), .loadN 16 (.t 11), some (8, true)⟩, ⟨(some 13), .call (.k (.c (.fn 65 []))) [(.t 12)], some (8, true)⟩, ⟨(some 14), .pick (.t 8) (.t 13) (.k (.c (.bool false))), none⟩, ⟨(some 2), .mov (.t 14), none⟩])
  .ret)), [.tmp 2], true⟩
theorem c57 : kk 57 = some k57 := by kernel_rfl
/-- loop.example/g01263/spec.l04Tamper -/
def k58 : KF := ⟨79, (.seq (.region [⟨(some 3), .box 38 (.t 1), none⟩, ⟨(some 4), .alloc 36 [(.bool false), (.slice none 0 (.exact 0)), (.int .i8 0), (.int .i8 0), (.int .i8 0), (.int .i8 0), (.int .i8 0), (.int .i8 0), (.int .i8 0), (.int .i8 0), (.int .i8 0), (.int .i8 0), (.int .i8 0), (.int .i8 0), (.int .i8 0), (.int .i8 0), (.int .i8 0), (.int .i8 0)], none⟩, ⟨(some 5), .mov (.k (.c (.int .i64 0))), none⟩])
  (.seq (.seq (.region [⟨(some 7), .fldA 0 (.t 3), none⟩, ⟨(some 8), .load1 (.t 7), none⟩])
  (.block 0 (.seq (.region [⟨(some 10), .bin .eql .int (.t 8) (.k (.c (.int .i8 1))), none⟩, ⟨(some 9), .mov (.t 10), none⟩])
  (.cond (.t 9) (.seq (.seq (.region [⟨(some 11), .fldA 2 (.t 3), none⟩, ⟨(some 12), .load1 (.t 11), none⟩, ⟨(some 13), .bin .neq .int (.t 12) (.k (.c (.int .i16 0))), none⟩])
  (.cond (.t 13) (.seq (.region [⟨(some 14), .build [(.bool false), (.slice none 0 (.exact 0)), (.int .i8 0), (.int .i8 0), (.int .i8 0), (.int .i8 0), (.int .i8 0), (.int .i8 0), (.int .i8 0), (.int .i8 0), (.int .i8 0), (.int .i8 0), (.int .i8 0), (.int .i8 0), (.int .i8 0), (.int .i8 0), (.int .i8 0), (.int .i8 0)] [], none⟩, ⟨none, .store 18 (.t 4) (.t 14), none⟩, ⟨(some 5), .mov (.k (.c (.int .i64 2))), none⟩])
  .ret) .skip))
  (.seq (.drawn [(⟨(some 15), .mov (.t 0), none⟩, []), (⟨(some 16), .nilchk (.t 15), none⟩, []), (⟨(some 17), .loadN 18 (.t 16), none⟩, []), (⟨(some 18), .fldA 1 (.t 3), none⟩, []), (⟨(some 19), .load1 (.t 18), none⟩, []), (⟨(some 20), .conv .i64 (.t 19), none⟩, []), (⟨(some 21), .fldA 3 (.t 3), none⟩, []), (⟨(some 22), .load1 (.t 21), none⟩, []), (⟨(some 23), .conv .i64 (.t 22), none⟩, []), (⟨(some 24), .call (.k (.c (.fn 94 []))) [(.t 17), (.t 20), (.t 23)], none⟩, []), (⟨(some 25), .ext (.t 24) 0, none⟩, []), (⟨(some 26), .ext (.t 24) 1, none⟩, []), (⟨none, .store 18 (.t 4) (.t 25), none⟩, []), (⟨(some 5), .mov (.t 26), none⟩, [])])
  .ret)) (.seq (.region [⟨(some 28), .bin .eql .int (.t 8) (.k (.c (.int .i8 2))), none⟩, ⟨(some 27), .mov (.t 28), none⟩])
  (.cond (.t 27) (.seq (.seq (.drawn [(⟨(some 29), .fldA 3 (.t 3), none⟩, []), (⟨(some 30), .load1 (.t 29), none⟩, []), (⟨(some 31), .bin .neq .int (.t 30) (.k (.c (.int .i16 0))), none⟩, []), (⟨(some 32), .mov (.t 31), none⟩, []), (⟨(some 33), .fldA 1 (.t 3), some (32, false)⟩, []), (⟨(some 34), .load1 (.t 33), some (32, false)⟩, []), (⟨(some 35), .conv .i64 (.t 34), some (32, false)⟩, []), (⟨(some 36), .call (.k (.c (.fn 95 []))) [(.t 35)], some (32, false)⟩, []), (⟨(some 37), .un .not (.t 36), some (32, false)⟩, []), (⟨(some 38), .pick (.t 32) (.k (.c (.bool true))) (.t 37), none⟩, []), (⟨(some 39), .mov (.t 38), none⟩, []), (⟨(some 40), .fldA 2 (.t 3), some (39, false)⟩, []), (⟨(some 41), .load1 (.t 40), some (39, false)⟩, []), (⟨(some 42), .conv .i64 (.t 41), some (39, false)⟩, []), (⟨(some 43), .mov (.t 0), some (39, false)⟩, []), (⟨(some 44), .nilchk (.t 43), some (39, false)⟩, []), (⟨(some 45), .fldA 1 (.t 44), some (39, false)⟩, []), (⟨(some 46), .load1 (.t 45), some (39, false)⟩, []), (⟨(some 47), .len false (.t 46), some (39, false)⟩, []), (⟨(some 48), .bin .sub .int (.t 47) (.k (.c (.int .i64 1))), some (39, false)⟩, []), (⟨(some 49), .call (.k (.c (.fn 75 []))) [(.t 42), (.k (.c (.int .i64 0))), (.t 48)], some (39, false)⟩, []), (⟨(some 50), .un .not (.t 49), some (39, false)⟩, []), (⟨(some 51), .pick (.t 39) (.k (.c (.bool true))) (.t 50), none⟩, [])])
  (.cond (.t 51) (.seq (.region [⟨(some 52), .build [(.bool false), (.slice none 0 (.exact 0)), (.int .i8 0), (.int .i8 0), (.int .i8 0), (.int .i8 0), (.int .i8 0), (.int .i8 0), (.int .i8 0), (.int .i8 0), (.int .i8 0), (.int .i8 0), (.int .i8 0), (.int .i8 0), (.int .i8 0), (.int .i8 0), (.int .i8 0), (.int .i8 0)] [], none⟩, ⟨none, .store 18 (.t 4) (.t 52), none⟩, ⟨(some 5), .mov (.k (.c (.int .i64 2))), none⟩])
  .ret) .skip))
  (.seq (.region [⟨(some 53), .mov (.t 0), none⟩, ⟨(some 54), .call (.k (.c (.fn 85 []))) [(.t 53)], none⟩, ⟨(some 6), .alloc 36 [(.bool false), (.slice none 0 (.exact 0)), (.int .i8 0), (.int .i8 0), (.int .i8 0), (.int .i8 0), (.int .i8 0), (.int .i8 0), (.int .i8 0), (.int .i8 0), (.int .i8 0), (.int .i8 0), (.int .i8 0), (.int .i8 0), (.int .i8 0), (.int .i8 0), (.int .i8 0), (.int .i8 0)], none⟩, ⟨none, .store 18 (.t 6) (.t 54), none⟩])
  (.seq (.seq (.drawn [(⟨(some 55), .fldA 1 (.t 3), none⟩, []), (⟨(some 56), .load1 (.t 55), none⟩, []), (⟨(some 57), .fldA 1 (.t 6), none⟩, []), (⟨(some 58), .load1 (.t 57), none⟩, []), (⟨(some 59), .fldA 2 (.t 3), none⟩, []), (⟨(some 60), .load1 (.t 59), none⟩, []), (⟨(some 61), .idxS 2 (.t 58) (.t 60), none⟩, []), (⟨(some 62), .fldA 0 (.t 61), none⟩, []), (⟨(some 63), .load1 (.t 62), none⟩, []), (⟨(some 64), .bin .leq .int (.t 56) (.t 63), none⟩, [])])
  (.cond (.t 64) (.seq (.region [⟨(some 65), .build [(.bool false), (.slice none 0 (.exact 0)), (.int .i8 0), (.int .i8 0), (.int .i8 0), (.int .i8 0), (.int .i8 0), (.int .i8 0), (.int .i8 0), (.int .i8 0), (.int .i8 0), (.int .i8 0), (.int .i8 0), (.int .i8 0), (.int .i8 0), (.int .i8 0), (.int .i8 0), (.int .i8 0)] [], none⟩, ⟨none, .store 18 (.t 4) (.t 65), none⟩, ⟨(some 5), .mov (.k (.c (.int .i64 4))), none⟩])
  .ret) .skip))
  (.seq (.region [⟨(some 66), .fldA 1 (.t 6), none⟩, ⟨(some 67), .load1 (.t 66), none⟩, ⟨(some 68), .fldA 2 (.t 3), none⟩, ⟨(some 69), .load1 (.t 68), none⟩, ⟨(some 70), .fldA 1 (.t 3), none⟩, ⟨(some 71), .load1 (.t 70), none⟩, ⟨(some 72), .idxS 2 (.t 67) (.t 69), none⟩, ⟨(some 73), .fldA 0 (.t 72), none⟩, ⟨none, .store 1 (.t 73) (.t 71), none⟩])
  (.seq (.seq (.region [⟨(some 74), .call (.k (.c (.fn 57 []))) [(.t 6)], none⟩, ⟨(some 75), .un .not (.t 74), none⟩])
  (.cond (.t 75) (.seq (.region [⟨(some 76), .build [(.bool false), (.slice none 0 (.exact 0)), (.int .i8 0), (.int .i8 0), (.int .i8 0), (.int .i8 0), (.int .i8 0), (.int .i8 0), (.int .i8 0), (.int .i8 0), (.int .i8 0), (.int .i8 0), (.int .i8 0), (.int .i8 0), (.int .i8 0), (.int .i8 0), (.int .i8 0), (.int .i8 0)] [], none⟩, ⟨none, .store 18 (.t 4) (.t 76), none⟩, ⟨(some 5), .mov (.k (.c (.int .i64 4))), none⟩])
  .ret) .skip))
  (.seq (.region [⟨(some 77), .loadN 18 (.t 6), none⟩, ⟨none, .store 18 (.t 4) (.t 77), none⟩, ⟨(some 5), .mov (.k (.c (.int .i64 0))), none⟩])
  .ret)))))) .skip))))))
  (.seq (.region [⟨(some 78), .build [(.bool false), (.slice none 0 (.exact 0)), (.int .i8 0), (.int .i8 0), (.int .i8 0), (.int .i8 0), (.int .i8 0), (.int .i8 0), (.int .i8 0), (.int .i8 0), (.int .i8 0), (.int .i8 0), (.int .i8 0), (.int .i8 0), (.int .i8 0), (.int .i8 0), (.int .i8 0), (.int .i8 0)] [], none⟩, ⟨none, .store 18 (.t 4) (.t 78), none⟩, ⟨(some 5), .mov (.k (.c (.int .i64 2))), none⟩])
  .ret))), [.cellN 4 18, .tmp 5], false⟩
theorem c58 : kk 58 = some k58 := by kernel_rfl
/-- loop.example/g01263/impl.ValidHalf -/
def l59_0 : KC := (.seq (.region [⟨(some 19), .bin .lss .int (.t 18) (.t 17), none⟩])
  (.seq (.cond (.t 19) .skip (.exit 0))
  (.seq (.block 1 (.seq (.region [⟨(some 20), .mov (.t 18), none⟩, ⟨(some 21), .idxS 2 (.t 16) (.t 18), none⟩, ⟨(some 22), .loadN 2 (.t 21), none⟩, ⟨(some 4), .alloc 119 [(.int .i8 0), (.int .i16 0)], none⟩, ⟨(some 3), .mov (.t 20), none⟩, ⟨none, .store 2 (.t 4) (.t 22), none⟩])
  (.seq (.seq (.region [⟨(some 23), .fldA 0 (.t 4), none⟩, ⟨(some 24), .load1 (.t 23), none⟩, ⟨(some 25), .conv .i64 (.t 24), none⟩, ⟨(some 26), .call (.k (.c (.fn 97 []))) [(.t 25)], none⟩, ⟨(some 27), .un .not (.t 26), none⟩, ⟨(some 28), .mov (.t 27), none⟩, ⟨(some 29), .fldA 1 (.t 4), some (28, false)⟩, ⟨(some 30), .load1 (.t 29), some (28, false)⟩, ⟨(some 31), .bin .lss .int (.t 30) (.k (.c (.int .i16 0))), some (28, false)⟩, ⟨(some 32), .pick (.t 28) (.k (.c (.bool true))) (.t 31), none⟩, ⟨(some 33), .mov (.t 32), none⟩, ⟨(some 34), .loadN 2 (.t 4), some (33, false)⟩, ⟨(some 35), .call (.k (.c (.fn 98 []))) [(.t 34)], some (33, false)⟩, ⟨(some 36), .bin .gtr .int (.t 35) (.k (.c (.int .i64 200))), some (33, false)⟩, ⟨(some 37), .pick (.t 33) (.k (.c (.bool true))) (.t 36), none⟩])
  (.cond (.t 37) (.seq (.region [⟨(some 2), .mov (.k (.c (.bool false))), none⟩])
  .ret) .skip))
  (.seq (.drawn [(⟨(some 38), .mov (.t 3), none⟩, []), (⟨(some 39), .bin .gtr .int (.t 38) (.k (.c (.int .i64 0))), none⟩, []), (⟨(some 40), .mov (.t 39), none⟩, []), (⟨(some 41), .fldA 1 (.t 4), some (40, true)⟩, []), (⟨(some 42), .load1 (.t 41), some (40, true)⟩, []), (⟨(some 43), .conv .i64 (.t 42), some (40, true)⟩, []), (⟨(some 44), .fldA 1 (.t 1), some (40, true)⟩, []), (⟨(some 45), .load1 (.t 44), some (40, true)⟩, []), (⟨(some 46), .mov (.t 3), some (40, true)⟩, []), (⟨(some 47), .bin .sub .int (.t 46) (.k (.c (.int .i64 1))), some (40, true)⟩, []), (⟨(some 48), .idxS 2 (.t 45) (.t 47), some (40, true)⟩, []), (⟨(some 49), .loadN 2 (.t 48), some (40, true)⟩, []), (⟨(some 50), .call (.k (.c (.fn 98 []))) [(.t 49)], some (40, true)⟩, [⟨(some 42), .load1 (.t 41), some (40, true)⟩]), (⟨(some 51), .bin .leq .int (.t 43) (.t 50), some (40, true)⟩, []), (⟨(some 52), .mov (.t 51), some (40, true)⟩, []), (⟨(some 53), .fldA 0 (.t 4), some (52, false)⟩, []), (⟨(some 54), .load1 (.t 53), some (52, false)⟩, []), (⟨(some 55), .fldA 1 (.t 1), some (52, false)⟩, []), (⟨(some 56), .load1 (.t 55), some (52, false)⟩, []), (⟨(some 57), .mov (.t 3), some (52, false)⟩, []), (⟨(some 58), .bin .sub .int (.t 57) (.k (.c (.int .i64 1))), some (52, false)⟩, []), (⟨(some 59), .idxS 2 (.t 56) (.t 58), some (52, false)⟩, []), (⟨(some 60), .fldA 0 (.t 59), some (52, false)⟩, []), (⟨(some 61), .load1 (.t 60), some (52, false)⟩, []), (⟨(some 62), .bin .gtr .int (.t 54) (.t 61), some (52, false)⟩, []), (⟨(some 63), .pick (.t 52) (.k (.c (.bool true))) (.t 62), some (40, true)⟩, []), (⟨(some 64), .pick (.t 40) (.t 63) (.k (.c (.bool false))), none⟩, [])])
  (.cond (.t 64) (.seq (.region [⟨(some 2), .mov (.k (.c (.bool false))), none⟩])
  .ret) .skip)))))
  (.region [⟨(some 65), .bin .add .int (.t 18) (.k (.c (.int .i64 1))), none⟩, ⟨(some 18), .mov (.t 65), none⟩]))))
def k59 : KF := ⟨66, (.seq (.region [⟨(some 1), .box 36 (.t 0), none⟩, ⟨(some 2), .mov (.k (.c (.bool false))), none⟩])
  (.seq (.seq (.region [⟨(some 5), .fldA 1 (.t 1), none⟩, ⟨(some 6), .load1 (.t 5), none⟩, ⟨(some 7), .len false (.t 6), none⟩, ⟨(some 8), .bin .gtr .int (.t 7) (.k (.c (.int .i64 60))), none⟩, ⟨(some 9), .mov (.t 8), none⟩, ⟨(some 10), .fldA 2 (.t 1), some (9, false)⟩, ⟨(some 11), .loadN 16 (.t 10), some (9, false)⟩, ⟨(some 12), .call (.k (.c (.fn 96 []))) [(.t 11)], some (9, false)⟩, ⟨(some 13), .un .not (.t 12), some (9, false)⟩, ⟨(some 14), .pick (.t 9) (.k (.c (.bool true))) (.t 13), none⟩])
  (.cond (.t 14) (.seq (.region [⟨(some 2), .mov (.k (.c (.bool false))), none⟩])
  .ret) .skip))
  (.seq (.seq (.region [⟨(some 15), .fldA 1 (.t 1), none⟩, ⟨(some 16), .load1 (.t 15), none⟩, ⟨(some 17), .len false (.t 16), none⟩, ⟨(some 18), .mov (.k (.c (.int .i64 0))), none⟩])
  (.block 0 (.loop l59_0)))
  (.seq (.region [⟨(some 2), .mov (.k (.c (.bool true))), none⟩])
  .ret)))), [.tmp 2], true⟩
theorem c59 : kk 59 = some k59 := by kernel_rfl
/-- loop.example/g01263/impl.tamper -/
def k60 : KF := ⟨65, (.seq (.region [⟨(some 2), .box 36 (.t 0), none⟩, ⟨(some 3), .box 38 (.t 1), none⟩, ⟨(some 4), .alloc 36 [(.bool false), (.slice none 0 (.exact 0)), (.int .i8 0), (.int .i8 0), (.int .i8 0), (.int .i8 0), (.int .i8 0), (.int .i8 0), (.int .i8 0), (.int .i8 0), (.int .i8 0), (.int .i8 0), (.int .i8 0), (.int .i8 0), (.int .i8 0), (.int .i8 0), (.int .i8 0), (.int .i8 0)], none⟩, ⟨(some 5), .mov (.k (.c (.int .i64 0))), none⟩])
  (.seq (.seq (.region [⟨(some 7), .loadN 4 (.t 3), none⟩, ⟨(some 8), .call (.k (.c (.fn 99 []))) [(.t 7)], none⟩, ⟨(some 9), .un .not (.t 8), none⟩, ⟨(some 10), .mov (.t 9), none⟩, ⟨(some 11), .fldA 0 (.t 3), some (10, false)⟩, ⟨(some 12), .load1 (.t 11), some (10, false)⟩, ⟨(some 13), .bin .eql .int (.t 12) (.k (.c (.int .i8 2))), some (10, false)⟩, ⟨(some 14), .mov (.t 13), some (10, false)⟩, ⟨(some 15), .fldA 2 (.t 3), some (14, true)⟩, ⟨(some 16), .load1 (.t 15), some (14, true)⟩, ⟨(some 17), .conv .i64 (.t 16), some (14, true)⟩, ⟨(some 18), .fldA 1 (.t 2), some (14, true)⟩, ⟨(some 19), .load1 (.t 18), some (14, true)⟩, ⟨(some 20), .len false (.t 19), some (14, true)⟩, ⟨(some 21), .bin .geq .int (.t 17) (.t 20), some (14, true)⟩, ⟨(some 22), .pick (.t 14) (.t 21) (.k (.c (.bool false))), some (10, false)⟩, ⟨(some 23), .pick (.t 10) (.k (.c (.bool true))) (.t 22), none⟩])
  (.cond (.t 23) (.seq (.region [⟨(some 24), .build [(.bool false), (.slice none 0 (.exact 0)), (.int .i8 0), (.int .i8 0), (.int .i8 0), (.int .i8 0), (.int .i8 0), (.int .i8 0), (.int .i8 0), (.int .i8 0), (.int .i8 0), (.int .i8 0), (.int .i8 0), (.int .i8 0), (.int .i8 0), (.int .i8 0), (.int .i8 0), (.int .i8 0)] [], none⟩, ⟨none, .store 18 (.t 4) (.t 24), none⟩, ⟨(some 5), .mov (.k (.c (.int .i64 2))), none⟩])
  .ret) .skip))
  (.seq (.seq (.region [⟨(some 25), .fldA 0 (.t 3), none⟩, ⟨(some 26), .load1 (.t 25), none⟩, ⟨(some 27), .bin .eql .int (.t 26) (.k (.c (.int .i8 1))), none⟩])
  (.cond (.t 27) (.seq (.region [⟨(some 28), .loadN 18 (.t 2), none⟩, ⟨(some 29), .fldA 1 (.t 3), none⟩, ⟨(some 30), .load1 (.t 29), none⟩, ⟨(some 31), .conv .i64 (.t 30), none⟩, ⟨(some 32), .fldA 3 (.t 3), none⟩, ⟨(some 33), .load1 (.t 32), none⟩, ⟨(some 34), .conv .i64 (.t 33), none⟩, ⟨(some 35), .call (.k (.c (.fn 100 []))) [(.t 28), (.t 31), (.t 34)], none⟩, ⟨(some 36), .ext (.t 35) 0, none⟩, ⟨(some 37), .ext (.t 35) 1, none⟩, ⟨none, .store 18 (.t 4) (.t 36), none⟩, ⟨(some 5), .mov (.t 37), none⟩])
  .ret) .skip))
  (.seq (.region [⟨(some 38), .fldA 1 (.t 2), none⟩, ⟨(some 39), .load1 (.t 38), none⟩, ⟨(some 40), .call (.k (.c (.fn 86 []))) [(.t 39)], none⟩, ⟨(some 41), .fldA 1 (.t 2), none⟩, ⟨none, .store 1 (.t 41) (.t 40), none⟩])
  (.seq (.region [⟨(some 42), .fldA 1 (.t 2), none⟩, ⟨(some 43), .load1 (.t 42), none⟩, ⟨(some 44), .fldA 2 (.t 3), none⟩, ⟨(some 45), .load1 (.t 44), none⟩, ⟨(some 46), .idxS 2 (.t 43) (.t 45), none⟩, ⟨(some 6), .mov (.t 46), none⟩])
  (.seq (.seq (.drawn [(⟨(some 47), .fldA 1 (.t 3), none⟩, []), (⟨(some 48), .load1 (.t 47), none⟩, []), (⟨(some 49), .mov (.t 6), none⟩, []), (⟨(some 50), .nilchk (.t 49), none⟩, []), (⟨(some 51), .fldA 0 (.t 50), none⟩, []), (⟨(some 52), .load1 (.t 51), none⟩, []), (⟨(some 53), .bin .leq .int (.t 48) (.t 52), none⟩, [])])
  (.cond (.t 53) (.seq (.region [⟨(some 54), .build [(.bool false), (.slice none 0 (.exact 0)), (.int .i8 0), (.int .i8 0), (.int .i8 0), (.int .i8 0), (.int .i8 0), (.int .i8 0), (.int .i8 0), (.int .i8 0), (.int .i8 0), (.int .i8 0), (.int .i8 0), (.int .i8 0), (.int .i8 0), (.int .i8 0), (.int .i8 0), (.int .i8 0)] [], none⟩, ⟨none, .store 18 (.t 4) (.t 54), none⟩, ⟨(some 5), .mov (.k (.c (.int .i64 4))), none⟩])
  .ret) .skip))
  (.seq (.region [⟨(some 55), .mov (.t 6), none⟩, ⟨(some 56), .fldA 1 (.t 3), none⟩, ⟨(some 57), .load1 (.t 56), none⟩, ⟨(some 58), .nilchk (.t 55), none⟩, ⟨(some 59), .fldA 0 (.t 58), none⟩, ⟨none, .store 1 (.t 59) (.t 57), none⟩])
  (.seq (.seq (.region [⟨(some 60), .loadN 18 (.t 2), none⟩, ⟨(some 61), .call (.k (.c (.fn 59 []))) [(.t 60)], none⟩, ⟨(some 62), .un .not (.t 61), none⟩])
  (.cond (.t 62) (.seq (.region [⟨(some 63), .build [(.bool false), (.slice none 0 (.exact 0)), (.int .i8 0), (.int .i8 0), (.int .i8 0), (.int .i8 0), (.int .i8 0), (.int .i8 0), (.int .i8 0), (.int .i8 0), (.int .i8 0), (.int .i8 0), (.int .i8 0), (.int .i8 0), (.int .i8 0), (.int .i8 0), (.int .i8 0), (.int .i8 0)] [], none⟩, ⟨none, .store 18 (.t 4) (.t 63), none⟩, ⟨(some 5), .mov (.k (.c (.int .i64 4))), none⟩])
  .ret) .skip))
  (.seq (.region [⟨(some 64), .loadN 18 (.t 2), none⟩, ⟨none, .store 18 (.t 4) (.t 64), none⟩, ⟨(some 5), .mov (.k (.c (.int .i64 0))), none⟩])
  .ret))))))))), [.cellN 4 18, .tmp 5], false⟩
theorem c60 : kk 60 = some k60 := by kernel_rfl
/-- loop.example/g01263/spec.l04Small -/
def l63_0 : KC := (.seq (.seq (.region [⟨(some 27), .mov (.t 7), none⟩, ⟨(some 28), .bin .gtr .int (.t 27) (.k (.c (.int .i64 0))), none⟩])
  (.cond (.t 28) .skip (.exit 0)))
  (.seq (.block 1 (.seq (.region [⟨(some 31), .fldA 1 (.t 3), none⟩, ⟨(some 32), .load1 (.t 31), none⟩, ⟨(some 33), .mov (.t 6), none⟩, ⟨(some 34), .mov (.t 5), none⟩, ⟨(some 35), .conv .i16 (.t 34), none⟩, ⟨(some 36), .build [(.int .i8 0), (.int .i16 0)] [(0, 1, (.t 33)), (1, 1, (.t 35))], none⟩, ⟨(some 37), .buildSl 119 1 [(.int .i8 0), (.int .i16 0)] [(0, 2, (.t 36))], none⟩, ⟨(some 38), .app 119 2 4 (.t 32) (.t 37), none⟩, ⟨(some 39), .fldA 1 (.t 3), none⟩, ⟨none, .store 1 (.t 39) (.t 38), none⟩])
  (.seq (.drawn [(⟨(some 40), .mov (.t 5), none⟩, []), (⟨(some 42), .mov (.t 6), none⟩, []), (⟨(some 46), .mov (.t 0), none⟩, []), (⟨(some 41), .call (.k (.c (.fn 103 []))) [], none⟩, []), (⟨(some 43), .idxS 1 (.t 41) (.t 42), none⟩, []), (⟨(some 44), .load1 (.t 43), none⟩, []), (⟨(some 45), .bin .add .int (.t 44) (.k (.c (.int .i64 1))), none⟩, []), (⟨(some 47), .call (.k (.c (.fn 73 []))) [(.t 46), (.k (.c (.int .i64 6)))], none⟩, [⟨(some 44), .load1 (.t 43), none⟩]), (⟨(some 48), .bin .add .int (.t 45) (.t 47), none⟩, []), (⟨(some 49), .bin .add .int (.t 40) (.t 48), none⟩, []), (⟨(some 5), .mov (.t 49), none⟩, [])])
  (.seq (.region [⟨(some 50), .mov (.t 6), none⟩, ⟨(some 51), .bin .gtr .int (.t 50) (.k (.c (.int .i8 0))), none⟩, ⟨(some 52), .mov (.t 51), none⟩, ⟨(some 53), .mov (.t 0), some (52, true)⟩, ⟨(some 54), .call (.k (.c (.fn 101 []))) [(.t 53), (.k (.c (.int .i64 2)))], some (52, true)⟩, ⟨(some 55), .pick (.t 52) (.t 54) (.k (.c (.bool false))), none⟩])
  (.cond (.t 55) (.region [⟨(some 56), .mov (.t 6), none⟩, ⟨(some 57), .bin .sub .int (.t 56) (.k (.c (.int .i8 1))), none⟩, ⟨(some 6), .mov (.t 57), none⟩]) .skip)))))
  (.region [⟨(some 29), .mov (.t 7), none⟩, ⟨(some 30), .bin .sub .int (.t 29) (.k (.c (.int .i64 1))), none⟩, ⟨(some 7), .mov (.t 30), none⟩])))
def k63 : KF := ⟨59, (.seq (.region [⟨(some 2), .alloc 36 [(.bool false), (.slice none 0 (.exact 0)), (.int .i8 0), (.int .i8 0), (.int .i8 0), (.int .i8 0), (.int .i8 0), (.int .i8 0), (.int .i8 0), (.int .i8 0), (.int .i8 0), (.int .i8 0), (.int .i8 0), (.int .i8 0), (.int .i8 0), (.int .i8 0), (.int .i8 0), (.int .i8 0)], none⟩])
  (.seq (.region [⟨(some 8), .mov (.t 0), none⟩, ⟨(some 9), .call (.k (.c (.fn 101 []))) [(.t 8), (.k (.c (.int .i64 2)))], none⟩, ⟨(some 10), .build [(.bool false), (.slice none 0 (.exact 0)), (.int .i8 0), (.int .i8 0), (.int .i8 0), (.int .i8 0), (.int .i8 0), (.int .i8 0), (.int .i8 0), (.int .i8 0), (.int .i8 0), (.int .i8 0), (.int .i8 0), (.int .i8 0), (.int .i8 0), (.int .i8 0), (.int .i8 0), (.int .i8 0)] [(0, 1, (.t 9))], none⟩, ⟨(some 3), .alloc 36 [(.bool false), (.slice none 0 (.exact 0)), (.int .i8 0), (.int .i8 0), (.int .i8 0), (.int .i8 0), (.int .i8 0), (.int .i8 0), (.int .i8 0), (.int .i8 0), (.int .i8 0), (.int .i8 0), (.int .i8 0), (.int .i8 0), (.int .i8 0), (.int .i8 0), (.int .i8 0), (.int .i8 0)], none⟩, ⟨none, .store 18 (.t 3) (.t 10), none⟩])
  (.seq (.region [⟨(some 11), .mov (.t 0), none⟩, ⟨(some 12), .call (.k (.c (.fn 73 []))) [(.t 11), (.k (.c (.int .i64 1073741824)))], none⟩, ⟨(some 13), .conv .u32 (.t 12), none⟩, ⟨(some 4), .mov (.t 13), none⟩])
  (.seq (.region [⟨(some 15), .mov (.t 4), none⟩, ⟨(some 16), .call (.k (.c (.fn 102 []))) [(.t 15)], none⟩, ⟨(some 14), .mov (.t 16), none⟩, ⟨(some 17), .ext (.t 14) 0, none⟩, ⟨(some 18), .ext (.t 14) 1, none⟩, ⟨(some 19), .fldA 2 (.t 3), none⟩, ⟨none, .store 16 (.t 19) (.t 17), none⟩, ⟨(some 4), .mov (.t 18), none⟩])
  (.seq (.region [⟨(some 20), .mov (.t 0), none⟩, ⟨(some 21), .call (.k (.c (.fn 73 []))) [(.t 20), (.k (.c (.int .i64 3)))], none⟩, ⟨(some 5), .mov (.t 21), none⟩])
  (.seq (.region [⟨(some 22), .mov (.t 0), none⟩, ⟨(some 23), .call (.k (.c (.fn 73 []))) [(.t 22), (.k (.c (.int .i64 5)))], none⟩, ⟨(some 24), .conv .i8 (.t 23), none⟩, ⟨(some 6), .mov (.t 24), none⟩])
  (.seq (.seq (.region [⟨(some 25), .mov (.t 0), none⟩, ⟨(some 26), .call (.k (.c (.fn 73 []))) [(.t 25), (.k (.c (.int .i64 6)))], none⟩, ⟨(some 7), .mov (.t 26), none⟩])
  (.block 0 (.loop l63_0)))
  (.seq (.region [⟨(some 58), .loadN 18 (.t 3), none⟩, ⟨none, .store 18 (.t 2) (.t 58), none⟩])
  .ret)))))))), [.cellN 2 18], false⟩
theorem c63 : kk 63 = some k63 := by kernel_rfl
/-- loop.example/g01263/spec.l00From -/
def k64 : KF := ⟨6, (.seq (.region [⟨(some 2), .mov (.k (.c (.ptr none))), none⟩])
  (.seq (.region [⟨(some 3), .mov (.t 0), none⟩, ⟨(some 4), .build [(.slice none 0 (.exact 0)), (.int .i64 0), (.int .u64 0)] [(0, 1, (.t 3))], none⟩, ⟨(some 5), .box 133 (.t 4), none⟩, ⟨(some 2), .mov (.t 5), none⟩])
  .ret)), [.tmp 2], false⟩
theorem c64 : kk 64 = some k64 := by kernel_rfl
/-- loop.example/g01263/spec.l01Grain -/
def l65_0 : KC := (.seq (.seq (.region [⟨(some 4), .mov (.t 3), none⟩, ⟨(some 5), .bin .lss .int (.t 4) (.k (.c (.int .i64 16))), none⟩])
  (.cond (.t 5) .skip (.exit 0)))
  (.seq (.block 1 (.seq (.region [⟨(some 8), .mov (.t 3), none⟩, ⟨(some 9), .idxA 16 1 (.t 1) (.t 8), none⟩, ⟨(some 10), .load1 (.t 9), none⟩, ⟨(some 11), .bin .lss .int (.t 10) (.k (.c (.int .i8 (-3)))), none⟩, ⟨(some 12), .mov (.t 11), none⟩, ⟨(some 13), .mov (.t 3), some (12, false)⟩, ⟨(some 14), .idxA 16 1 (.t 1) (.t 13), some (12, false)⟩, ⟨(some 15), .load1 (.t 14), some (12, false)⟩, ⟨(some 16), .bin .gtr .int (.t 15) (.k (.c (.int .i8 3))), some (12, false)⟩, ⟨(some 17), .pick (.t 12) (.k (.c (.bool true))) (.t 16), none⟩])
  (.cond (.t 17) (.seq (.region [⟨(some 2), .mov (.k (.c (.bool false))), none⟩])
  .ret) .skip)))
  (.region [⟨(some 6), .mov (.t 3), none⟩, ⟨(some 7), .bin .add .int (.t 6) (.k (.c (.int .i64 1))), none⟩, ⟨(some 3), .mov (.t 7), none⟩])))
def k65 : KF := ⟨18, (.seq (.region [⟨(some 1), .box 34 (.t 0), none⟩, ⟨(some 2), .mov (.k (.c (.bool false))), none⟩])
  (.seq (.seq (.region [⟨(some 3), .mov (.k (.c (.int .i64 0))), none⟩])
  (.block 0 (.loop l65_0)))
  (.seq (.region [⟨(some 2), .mov (.k (.c (.bool true))), none⟩])
  .ret))), [.tmp 2], true⟩
theorem c65 : kk 65 = some k65 := by kernel_rfl
/-- loop.example/g01263/spec.l04Ways -/
def l72_0 : KC := (.seq (.seq (.region [⟨(some 24), .mov (.t 5), none⟩, ⟨(some 25), .bin .leq .int (.t 24) (.k (.c (.int .i8 5))), none⟩])
  (.cond (.t 25) .skip (.exit 2)))
  (.seq (.block 3 (.seq (.region [⟨(some 28), .mov (.t 5), none⟩, ⟨(some 29), .mov (.t 4), none⟩, ⟨(some 30), .conv .i16 (.t 29), none⟩, ⟨(some 31), .build [(.int .i8 0), (.int .i8 0), (.int .i16 0), (.int .i16 0)] [(0, 1, (.k (.c (.int .i8 2)))), (1, 1, (.t 28)), (2, 1, (.t 30))], none⟩, ⟨(some 6), .alloc 38 [(.int .i8 0), (.int .i8 0), (.int .i16 0), (.int .i16 0)], none⟩, ⟨none, .store 4 (.t 6) (.t 31), none⟩])
  (.seq (.region [⟨(some 33), .mov (.t 0), none⟩, ⟨(some 34), .loadN 4 (.t 6), none⟩, ⟨(some 35), .call (.k (.c (.fn 58 []))) [(.t 33), (.t 34)], none⟩, ⟨(some 32), .mov (.t 35), none⟩, ⟨(some 36), .ext (.t 32) 0, none⟩, ⟨(some 37), .ext (.t 32) 1, none⟩, ⟨(some 7), .alloc 36 [(.bool false), (.slice none 0 (.exact 0)), (.int .i8 0), (.int .i8 0), (.int .i8 0), (.int .i8 0), (.int .i8 0), (.int .i8 0), (.int .i8 0), (.int .i8 0), (.int .i8 0), (.int .i8 0), (.int .i8 0), (.int .i8 0), (.int .i8 0), (.int .i8 0), (.int .i8 0), (.int .i8 0)], none⟩, ⟨none, .store 18 (.t 7) (.t 36), none⟩, ⟨(some 8), .mov (.t 37), none⟩])
  (.seq (.region [⟨(some 38), .mov (.t 8), none⟩, ⟨(some 39), .bin .eql .int (.t 38) (.k (.c (.int .i64 0))), none⟩])
  (.cond (.t 39) (.region [⟨(some 40), .mov (.t 3), none⟩, ⟨(some 41), .loadN 4 (.t 6), none⟩, ⟨(some 42), .buildSl 38 1 [(.int .i8 0), (.int .i8 0), (.int .i16 0), (.int .i16 0)] [(0, 4, (.t 41))], none⟩, ⟨(some 43), .app 38 4 6 (.t 40) (.t 42), none⟩, ⟨(some 3), .mov (.t 43), none⟩]) .skip)))))
  (.region [⟨(some 26), .mov (.t 5), none⟩, ⟨(some 27), .bin .add .int (.t 26) (.k (.c (.int .i8 1))), none⟩, ⟨(some 5), .mov (.t 27), none⟩])))
def l72_1 : KC := (.seq (.seq (.region [⟨(some 15), .mov (.t 4), none⟩, ⟨(some 16), .mov (.t 0), none⟩, ⟨(some 17), .nilchk (.t 16), none⟩, ⟨(some 18), .fldA 1 (.t 17), none⟩, ⟨(some 19), .load1 (.t 18), none⟩, ⟨(some 20), .len false (.t 19), none⟩, ⟨(some 21), .bin .lss .int (.t 15) (.t 20), none⟩])
  (.cond (.t 21) .skip (.exit 0)))
  (.seq (.block 1 (.seq (.region [⟨(some 5), .mov (.k (.c (.int .i8 0))), none⟩])
  (.block 2 (.loop l72_0))))
  (.region [⟨(some 22), .mov (.t 4), none⟩, ⟨(some 23), .bin .add .int (.t 22) (.k (.c (.int .i64 1))), none⟩, ⟨(some 4), .mov (.t 23), none⟩])))
def l72_2 : KC := (.seq (.seq (.region [⟨(some 48), .mov (.t 10), none⟩, ⟨(some 49), .bin .leq .int (.t 48) (.k (.c (.int .i64 200))), none⟩])
  (.cond (.t 49) .skip (.exit 6)))
  (.seq (.block 7 (.seq (.region [⟨(some 52), .mov (.t 9), none⟩, ⟨(some 53), .mov (.t 10), none⟩, ⟨(some 54), .conv .i16 (.t 53), none⟩, ⟨(some 55), .build [(.int .i8 0), (.int .i8 0), (.int .i16 0), (.int .i16 0)] [(0, 1, (.k (.c (.int .i8 1)))), (1, 1, (.t 52)), (3, 1, (.t 54))], none⟩, ⟨(some 11), .alloc 38 [(.int .i8 0), (.int .i8 0), (.int .i16 0), (.int .i16 0)], none⟩, ⟨none, .store 4 (.t 11) (.t 55), none⟩])
  (.seq (.region [⟨(some 57), .mov (.t 0), none⟩, ⟨(some 58), .loadN 4 (.t 11), none⟩, ⟨(some 59), .call (.k (.c (.fn 58 []))) [(.t 57), (.t 58)], none⟩, ⟨(some 56), .mov (.t 59), none⟩, ⟨(some 60), .ext (.t 56) 0, none⟩, ⟨(some 61), .ext (.t 56) 1, none⟩, ⟨(some 12), .alloc 36 [(.bool false), (.slice none 0 (.exact 0)), (.int .i8 0), (.int .i8 0), (.int .i8 0), (.int .i8 0), (.int .i8 0), (.int .i8 0), (.int .i8 0), (.int .i8 0), (.int .i8 0), (.int .i8 0), (.int .i8 0), (.int .i8 0), (.int .i8 0), (.int .i8 0), (.int .i8 0), (.int .i8 0)], none⟩, ⟨none, .store 18 (.t 12) (.t 60), none⟩, ⟨(some 13), .mov (.t 61), none⟩])
  (.seq (.region [⟨(some 62), .mov (.t 13), none⟩, ⟨(some 63), .bin .eql .int (.t 62) (.k (.c (.int .i64 0))), none⟩])
  (.cond (.t 63) (.seq (.region [⟨(some 64), .mov (.t 3), none⟩, ⟨(some 65), .loadN 4 (.t 11), none⟩, ⟨(some 66), .buildSl 38 1 [(.int .i8 0), (.int .i8 0), (.int .i16 0), (.int .i16 0)] [(0, 4, (.t 65))], none⟩, ⟨(some 67), .app 38 4 6 (.t 64) (.t 66), none⟩, ⟨(some 3), .mov (.t 67), none⟩])
  (.exit 6)) .skip)))))
  (.region [⟨(some 50), .mov (.t 10), none⟩, ⟨(some 51), .bin .add .int (.t 50) (.k (.c (.int .i64 1))), none⟩, ⟨(some 10), .mov (.t 51), none⟩])))
def l72_3 : KC := (.seq (.seq (.region [⟨(some 44), .mov (.t 9), none⟩, ⟨(some 45), .bin .leq .int (.t 44) (.k (.c (.int .i8 5))), none⟩])
  (.cond (.t 45) .skip (.exit 4)))
  (.seq (.block 5 (.seq (.region [⟨(some 10), .mov (.k (.c (.int .i64 0))), none⟩])
  (.block 6 (.loop l72_2))))
  (.region [⟨(some 46), .mov (.t 9), none⟩, ⟨(some 47), .bin .add .int (.t 46) (.k (.c (.int .i8 1))), none⟩, ⟨(some 9), .mov (.t 47), none⟩])))
def k72 : KF := ⟨69, (.seq (.region [⟨(some 2), .mov (.k (.c (.slice none 0 (.exact 0)))), none⟩])
  (.seq (.region [⟨(some 14), .buildSl 38 0 [] [], none⟩, ⟨(some 3), .mov (.t 14), none⟩])
  (.seq (.seq (.region [⟨(some 4), .mov (.k (.c (.int .i64 0))), none⟩])
  (.block 0 (.loop l72_1)))
  (.seq (.seq (.region [⟨(some 9), .mov (.k (.c (.int .i8 0))), none⟩])
  (.block 4 (.loop l72_3)))
  (.seq (.region [⟨(some 68), .mov (.t 3), none⟩, ⟨(some 2), .mov (.t 68), none⟩])
  .ret))))), [.tmp 2], false⟩
theorem c72 : kk 72 = some k72 := by kernel_rfl
/-- (*loop.example/g01263/spec.l00Src).pick -/
def k73 : KF := ⟨20, (.seq (.region [⟨(some 4), .mov (.k (.c (.int .i64 0))), none⟩])
  (.seq (.seq (.region [⟨(some 6), .mov (.t 1), none⟩, ⟨(some 7), .bin .leq .int (.t 6) (.k (.c (.int .i64 1))), none⟩])
  (.cond (.t 7) (.seq (.region [⟨(some 4), .mov (.k (.c (.int .i64 0))), none⟩])
  .ret) .skip))
  (.seq (.region [⟨(some 8), .mov (.t 0), none⟩, ⟨(some 9), .call (.k (.c (.fn 108 []))) [(.t 8)], none⟩, ⟨(some 5), .mov (.t 9), none⟩])
  (.seq (.seq (.region [⟨(some 10), .mov (.t 1), none⟩, ⟨(some 11), .bin .gtr .int (.t 10) (.k (.c (.int .i64 200))), none⟩])
  (.cond (.t 11) (.region [⟨(some 12), .mov (.t 5), none⟩, ⟨(some 13), .bin .mul .int (.t 12) (.k (.c (.int .i64 256))), none⟩, ⟨(some 14), .mov (.t 0), none⟩, ⟨(some 15), .call (.k (.c (.fn 108 []))) [(.t 14)], none⟩, ⟨(some 16), .bin .add .int (.t 13) (.t 15), none⟩, ⟨(some 5), .mov (.t 16), none⟩]) .skip))
  (.seq (.region [⟨(some 17), .mov (.t 5), none⟩, ⟨(some 18), .mov (.t 1), none⟩, ⟨(some 19), .bin .rem .int (.t 17) (.t 18), none⟩, ⟨(some 4), .mov (.t 19), none⟩])
  .ret))))), [.tmp 4], true⟩
theorem c73 : kk 73 = some k73 := by kernel_rfl
/-- loop.example/g01263/spec.l00In -/
def k75 : KF := ⟨15, (.seq (.region [⟨(some 6), .mov (.k (.c (.bool false))), none⟩])
  (.seq (.region [⟨(some 7), .mov (.t 0), none⟩, ⟨(some 8), .mov (.t 1), none⟩, ⟨(some 9), .bin .geq .int (.t 7) (.t 8), none⟩, ⟨(some 10), .mov (.t 9), none⟩, ⟨(some 11), .mov (.t 0), some (10, true)⟩, ⟨(some 12), .mov (.t 2), some (10, true)⟩, ⟨(some 13), .bin .leq .int (.t 11) (.t 12), some (10, true)⟩, ⟨(some 14), .pick (.t 10) (.t 13) (.k (.c (.bool false))), none⟩, ⟨(some 6), .mov (.t 14), none⟩])
  .ret)), [.tmp 6], true⟩
theorem c75 : kk 75 = some k75 := by kernel_rfl
/-- loop.example/g01263/impl.tampers -/
def l83_0 : KC := (.seq (.seq (.region [⟨(some 18), .mov (.t 5), none⟩, ⟨(some 19), .bin .leq .int (.t 18) (.k (.c (.int .i8 5))), none⟩])
  (.cond (.t 19) .skip (.exit 2)))
  (.seq (.block 3 (.seq (.region [⟨(some 22), .mov (.t 5), none⟩, ⟨(some 23), .mov (.t 4), none⟩, ⟨(some 24), .conv .i16 (.t 23), none⟩, ⟨(some 25), .build [(.int .i8 0), (.int .i8 0), (.int .i16 0), (.int .i16 0)] [(0, 1, (.k (.c (.int .i8 2)))), (1, 1, (.t 22)), (2, 1, (.t 24))], none⟩, ⟨(some 6), .alloc 38 [(.int .i8 0), (.int .i8 0), (.int .i16 0), (.int .i16 0)], none⟩, ⟨none, .store 4 (.t 6) (.t 25), none⟩])
  (.seq (.region [⟨(some 27), .loadN 18 (.t 1), none⟩, ⟨(some 28), .loadN 4 (.t 6), none⟩, ⟨(some 29), .call (.k (.c (.fn 60 []))) [(.t 27), (.t 28)], none⟩, ⟨(some 26), .mov (.t 29), none⟩, ⟨(some 30), .ext (.t 26) 0, none⟩, ⟨(some 31), .ext (.t 26) 1, none⟩, ⟨(some 7), .alloc 36 [(.bool false), (.slice none 0 (.exact 0)), (.int .i8 0), (.int .i8 0), (.int .i8 0), (.int .i8 0), (.int .i8 0), (.int .i8 0), (.int .i8 0), (.int .i8 0), (.int .i8 0), (.int .i8 0), (.int .i8 0), (.int .i8 0), (.int .i8 0), (.int .i8 0), (.int .i8 0), (.int .i8 0)], none⟩, ⟨none, .store 18 (.t 7) (.t 30), none⟩, ⟨(some 8), .mov (.t 31), none⟩])
  (.seq (.region [⟨(some 32), .mov (.t 8), none⟩, ⟨(some 33), .bin .eql .int (.t 32) (.k (.c (.int .i64 0))), none⟩])
  (.cond (.t 33) (.region [⟨(some 34), .mov (.t 3), none⟩, ⟨(some 35), .loadN 4 (.t 6), none⟩, ⟨(some 36), .buildSl 38 1 [(.int .i8 0), (.int .i8 0), (.int .i16 0), (.int .i16 0)] [(0, 4, (.t 35))], none⟩, ⟨(some 37), .app 38 4 6 (.t 34) (.t 36), none⟩, ⟨(some 3), .mov (.t 37), none⟩]) .skip)))))
  (.region [⟨(some 20), .mov (.t 5), none⟩, ⟨(some 21), .bin .add .int (.t 20) (.k (.c (.int .i8 1))), none⟩, ⟨(some 5), .mov (.t 21), none⟩])))
def l83_1 : KC := (.seq (.region [⟨(some 16), .bin .lss .int (.t 15) (.t 14), none⟩])
  (.seq (.cond (.t 16) .skip (.exit 0))
  (.seq (.block 1 (.seq (.region [⟨(some 17), .mov (.t 15), none⟩, ⟨(some 4), .mov (.t 17), none⟩])
  (.seq (.region [⟨(some 5), .mov (.k (.c (.int .i8 0))), none⟩])
  (.block 2 (.loop l83_0)))))
  (.region [⟨(some 38), .bin .add .int (.t 15) (.k (.c (.int .i64 1))), none⟩, ⟨(some 15), .mov (.t 38), none⟩]))))
def l83_2 : KC := (.seq (.seq (.region [⟨(some 39), .mov (.t 9), none⟩, ⟨(some 40), .bin .leq .int (.t 39) (.k (.c (.int .i8 5))), none⟩])
  (.cond (.t 40) .skip (.exit 4)))
  (.seq (.block 5 (.seq (.region [⟨(some 43), .loadN 18 (.t 1), none⟩, ⟨(some 44), .mov (.t 9), none⟩, ⟨(some 45), .conv .i64 (.t 44), none⟩, ⟨(some 46), .call (.k (.c (.fn 113 []))) [(.t 43), (.t 45)], none⟩, ⟨(some 10), .mov (.t 46), none⟩])
  (.seq (.region [⟨(some 47), .mov (.t 10), none⟩, ⟨(some 48), .len false (.t 47), none⟩, ⟨(some 49), .bin .gtr .int (.t 48) (.k (.c (.int .i64 0))), none⟩])
  (.cond (.t 49) (.region [⟨(some 50), .mov (.t 3), none⟩, ⟨(some 51), .mov (.t 9), none⟩, ⟨(some 52), .mov (.t 10), none⟩, ⟨(some 53), .idxS 1 (.t 52) (.k (.c (.int .i64 0))), none⟩, ⟨(some 54), .load1 (.t 53), none⟩, ⟨(some 55), .conv .i16 (.t 54), none⟩, ⟨(some 56), .build [(.int .i8 0), (.int .i8 0), (.int .i16 0), (.int .i16 0)] [(0, 1, (.k (.c (.int .i8 1)))), (1, 1, (.t 51)), (3, 1, (.t 55))], none⟩, ⟨(some 57), .buildSl 38 1 [(.int .i8 0), (.int .i8 0), (.int .i16 0), (.int .i16 0)] [(0, 4, (.t 56))], none⟩, ⟨(some 58), .app 38 4 6 (.t 50) (.t 57), none⟩, ⟨(some 3), .mov (.t 58), none⟩]) .skip))))
  (.region [⟨(some 41), .mov (.t 9), none⟩, ⟨(some 42), .bin .add .int (.t 41) (.k (.c (.int .i8 1))), none⟩, ⟨(some 9), .mov (.t 42), none⟩])))
def k83 : KF := ⟨60, (.seq (.region [⟨(some 1), .box 36 (.t 0), none⟩, ⟨(some 2), .mov (.k (.c (.slice none 0 (.exact 0)))), none⟩])
  (.seq (.region [⟨(some 11), .buildSl 38 0 [] [], none⟩, ⟨(some 3), .mov (.t 11), none⟩])
  (.seq (.seq (.region [⟨(some 12), .fldA 1 (.t 1), none⟩, ⟨(some 13), .load1 (.t 12), none⟩, ⟨(some 14), .len false (.t 13), none⟩, ⟨(some 15), .mov (.k (.c (.int .i64 0))), none⟩])
  (.block 0 (.loop l83_1)))
  (.seq (.seq (.region [⟨(some 9), .mov (.k (.c (.int .i8 0))), none⟩])
  (.block 4 (.loop l83_2)))
  (.seq (.region [⟨(some 59), .mov (.t 3), none⟩, ⟨(some 2), .mov (.t 59), none⟩])
  .ret))))), [.tmp 2], false⟩
theorem c83 : kk 83 = some k83 := by kernel_rfl
/-- loop.example/g01263/spec.l04Copy -/
def k85 : KF := ⟨17, (.seq (.region [⟨(some 2), .alloc 36 [(.bool false), (.slice none 0 (.exact 0)), (.int .i8 0), (.int .i8 0), (.int .i8 0), (.int .i8 0), (.int .i8 0), (.int .i8 0), (.int .i8 0), (.int .i8 0), (.int .i8 0), (.int .i8 0), (.int .i8 0), (.int .i8 0), (.int .i8 0), (.int .i8 0), (.int .i8 0), (.int .i8 0)], none⟩])
  (.seq (.drawn [(⟨(some 3), .mov (.t 0), none⟩, []), (⟨(some 4), .nilchk (.t 3), none⟩, []), (⟨(some 5), .fldA 0 (.t 4), none⟩, []), (⟨(some 6), .load1 (.t 5), none⟩, []), (⟨(some 7), .mov (.t 0), none⟩, []), (⟨(some 8), .nilchk (.t 7), none⟩, []), (⟨(some 9), .fldA 1 (.t 8), none⟩, []), (⟨(some 10), .load1 (.t 9), none⟩, []), (⟨(some 12), .mov (.t 0), none⟩, []), (⟨(some 13), .nilchk (.t 12), none⟩, []), (⟨(some 14), .fldA 2 (.t 13), none⟩, []), (⟨(some 15), .loadN 16 (.t 14), none⟩, []), (⟨(some 11), .call (.k (.c (.fn 114 []))) [(.t 10)], none⟩, [⟨(some 6), .load1 (.t 5), none⟩, ⟨(some 15), .loadN 16 (.t 14), none⟩]), (⟨(some 16), .build [(.bool false), (.slice none 0 (.exact 0)), (.int .i8 0), (.int .i8 0), (.int .i8 0), (.int .i8 0), (.int .i8 0), (.int .i8 0), (.int .i8 0), (.int .i8 0), (.int .i8 0), (.int .i8 0), (.int .i8 0), (.int .i8 0), (.int .i8 0), (.int .i8 0), (.int .i8 0), (.int .i8 0)] [(0, 1, (.t 6)), (1, 1, (.t 11)), (2, 16, (.t 15))], none⟩, []), (⟨none, .store 18 (.t 2) (.t 16), none⟩, [])])
  .ret)), [.cellN 2 18], false⟩
theorem c85 : kk 85 = some k85 := by kernel_rfl
/-- slices.Clone[[]loop.example/g01263/impl.Notch,loop.example/g01263/impl.Notch] -/
def k86 : KF := ⟨8, (.seq (.region [⟨(some 2), .mov (.k (.c (.slice none 0 (.exact 0)))), none⟩])
  (.seq (.seq (.region [⟨(some 3), .mov (.t 0), none⟩, ⟨(some 4), .bin .eql .slice (.t 3) (.k (.c (.slice none 0 (.exact 0)))), none⟩])
  (.cond (.t 4) (.seq (.region [⟨(some 2), .mov (.k (.c (.slice none 0 (.exact 0)))), none⟩])
  .ret) .skip))
  (.seq (.region [⟨(some 5), .buildSl 119 0 [] [], none⟩, ⟨(some 6), .mov (.t 0), none⟩, ⟨(some 7), .app 119 2 4 (.t 5) (.t 6), none⟩, ⟨(some 2), .mov (.t 7), none⟩])
  .ret))), [.tmp 2], false⟩
theorem c86 : kk 86 = some k86 := by kernel_rfl
/-- loop.example/g01263/spec.l01Amount -/
def k87 : KF := ⟨5, (.seq (.region [⟨(some 2), .mov (.k (.c (.bool false))), none⟩])
  (.seq (.region [⟨(some 3), .mov (.t 0), none⟩, ⟨(some 4), .call (.k (.c (.fn 75 []))) [(.t 3), (.k (.c (.int .i64 0))), (.k (.c (.int .i64 100000000)))], none⟩, ⟨(some 2), .mov (.t 4), none⟩])
  .ret)), [.tmp 2], true⟩
theorem c87 : kk 87 = some k87 := by kernel_rfl
/-- loop.example/g01263/impl.isAmount -/
def k88 : KF := ⟨9, (.seq (.region [⟨(some 2), .mov (.k (.c (.bool false))), none⟩])
  (.seq (.region [⟨(some 3), .mov (.t 0), none⟩, ⟨(some 4), .bin .geq .int (.t 3) (.k (.c (.int .i64 0))), none⟩, ⟨(some 5), .mov (.t 4), none⟩, ⟨(some 6), .mov (.t 0), some (5, true)⟩, ⟨(some 7), .bin .leq .int (.t 6) (.k (.c (.int .i64 100000000))), some (5, true)⟩, ⟨(some 8), .pick (.t 5) (.t 7) (.k (.c (.bool false))), none⟩, ⟨(some 2), .mov (.t 8), none⟩])
  .ret)), [.tmp 2], true⟩
theorem c88 : kk 88 = some k88 := by kernel_rfl
/-- loop.example/g01263/spec.l01Worths -/
def k89 : KF := ⟨2, (.seq (.region [⟨(some 0), .mov (.k (.c (.slice none 0 (.exact 0)))), none⟩])
  (.seq (.region [⟨(some 1), .buildSl 2 6 [(.int .i64 0), (.int .i64 0), (.int .i64 0), (.int .i64 0), (.int .i64 0), (.int .i64 0)] [(0, 1, (.k (.c (.int .i64 1)))), (1, 1, (.k (.c (.int .i64 12)))), (2, 1, (.k (.c (.int .i64 240)))), (3, 1, (.k (.c (.int .i64 4800)))), (4, 1, (.k (.c (.int .i64 24000)))), (5, 1, (.k (.c (.int .i64 240000))))], none⟩, ⟨(some 0), .mov (.t 1), none⟩])
  .ret)), [.tmp 0], false⟩
theorem c89 : kk 89 = some k89 := by kernel_rfl
/-- loop.example/g01263/impl.worth -/
def k91 : KF := ⟨7, (.seq (.region [⟨(some 2), .mov (.k (.c (.int .i64 0))), none⟩])
  (.seq (.region [⟨(some 3), .buildSl 2 6 [(.int .i64 0), (.int .i64 0), (.int .i64 0), (.int .i64 0), (.int .i64 0), (.int .i64 0)] [(0, 1, (.k (.c (.int .i64 1)))), (1, 1, (.k (.c (.int .i64 12)))), (2, 1, (.k (.c (.int .i64 240)))), (3, 1, (.k (.c (.int .i64 4800)))), (4, 1, (.k (.c (.int .i64 24000)))), (5, 1, (.k (.c (.int .i64 240000))))], none⟩, ⟨(some 4), .mov (.t 0), none⟩, ⟨(some 5), .idxS 1 (.t 3) (.t 4), none⟩, ⟨(some 6), .load1 (.t 5), none⟩, ⟨(some 2), .mov (.t 6), none⟩])
  .ret)), [.tmp 2], true⟩
theorem c91 : kk 91 = some k91 := by kernel_rfl
/-- loop.example/g01263/spec.l01Notches -/
def l93_0 : KC := (.seq (.seq (.region [⟨(some 8), .mov (.t 3), none⟩, ⟨(some 9), .mov (.t 0), none⟩, ⟨(some 10), .len false (.t 9), none⟩, ⟨(some 11), .bin .lss .int (.t 8) (.t 10), none⟩])
  (.cond (.t 11) .skip (.exit 0)))
  (.seq (.block 1 (.seq (.region [⟨(some 14), .mov (.t 0), none⟩, ⟨(some 15), .mov (.t 3), none⟩, ⟨(some 16), .idxS 2 (.t 14) (.t 15), none⟩, ⟨(some 17), .loadN 2 (.t 16), none⟩, ⟨(some 4), .alloc 119 [(.int .i8 0), (.int .i16 0)], none⟩, ⟨none, .store 2 (.t 4) (.t 17), none⟩])
  (.seq (.seq (.region [⟨(some 18), .fldA 0 (.t 4), none⟩, ⟨(some 19), .load1 (.t 18), none⟩, ⟨(some 20), .conv .i64 (.t 19), none⟩, ⟨(some 21), .call (.k (.c (.fn 95 []))) [(.t 20)], none⟩, ⟨(some 22), .un .not (.t 21), none⟩, ⟨(some 23), .mov (.t 22), none⟩, ⟨(some 24), .fldA 1 (.t 4), some (23, false)⟩, ⟨(some 25), .load1 (.t 24), some (23, false)⟩, ⟨(some 26), .bin .lss .int (.t 25) (.k (.c (.int .i16 0))), some (23, false)⟩, ⟨(some 27), .pick (.t 23) (.k (.c (.bool true))) (.t 26), none⟩, ⟨(some 28), .mov (.t 27), none⟩, ⟨(some 29), .loadN 2 (.t 4), some (28, false)⟩, ⟨(some 30), .call (.k (.c (.fn 115 []))) [(.t 29)], some (28, false)⟩, ⟨(some 31), .bin .gtr .int (.t 30) (.k (.c (.int .i64 200))), some (28, false)⟩, ⟨(some 32), .pick (.t 28) (.k (.c (.bool true))) (.t 31), none⟩])
  (.cond (.t 32) (.seq (.region [⟨(some 2), .mov (.k (.c (.bool false))), none⟩])
  .ret) .skip))
  (.seq (.drawn [(⟨(some 33), .mov (.t 3), none⟩, []), (⟨(some 34), .bin .gtr .int (.t 33) (.k (.c (.int .i64 0))), none⟩, []), (⟨(some 35), .mov (.t 34), none⟩, []), (⟨(some 36), .fldA 0 (.t 4), some (35, true)⟩, []), (⟨(some 37), .load1 (.t 36), some (35, true)⟩, []), (⟨(some 38), .mov (.t 0), some (35, true)⟩, []), (⟨(some 39), .mov (.t 3), some (35, true)⟩, []), (⟨(some 40), .bin .sub .int (.t 39) (.k (.c (.int .i64 1))), some (35, true)⟩, []), (⟨(some 41), .idxS 2 (.t 38) (.t 40), some (35, true)⟩, []), (⟨(some 42), .fldA 0 (.t 41), some (35, true)⟩, []), (⟨(some 43), .load1 (.t 42), some (35, true)⟩, []), (⟨(some 44), .bin .gtr .int (.t 37) (.t 43), some (35, true)⟩, []), (⟨(some 45), .mov (.t 44), some (35, true)⟩, []), (⟨(some 46), .fldA 1 (.t 4), some (45, false)⟩, []), (⟨(some 47), .load1 (.t 46), some (45, false)⟩, []), (⟨(some 48), .conv .i64 (.t 47), some (45, false)⟩, []), (⟨(some 49), .mov (.t 0), some (45, false)⟩, []), (⟨(some 50), .mov (.t 3), some (45, false)⟩, []), (⟨(some 51), .bin .sub .int (.t 50) (.k (.c (.int .i64 1))), some (45, false)⟩, []), (⟨(some 52), .idxS 2 (.t 49) (.t 51), some (45, false)⟩, []), (⟨(some 53), .loadN 2 (.t 52), some (45, false)⟩, []), (⟨(some 54), .call (.k (.c (.fn 115 []))) [(.t 53)], some (45, false)⟩, [⟨(some 47), .load1 (.t 46), some (45, false)⟩]), (⟨(some 55), .bin .leq .int (.t 48) (.t 54), some (45, false)⟩, []), (⟨(some 56), .pick (.t 45) (.k (.c (.bool true))) (.t 55), some (35, true)⟩, []), (⟨(some 57), .pick (.t 35) (.t 56) (.k (.c (.bool false))), none⟩, [])])
  (.cond (.t 57) (.seq (.region [⟨(some 2), .mov (.k (.c (.bool false))), none⟩])
  .ret) .skip)))))
  (.region [⟨(some 12), .mov (.t 3), none⟩, ⟨(some 13), .bin .add .int (.t 12) (.k (.c (.int .i64 1))), none⟩, ⟨(some 3), .mov (.t 13), none⟩])))
def k93 : KF := ⟨58, (.seq (.region [⟨(some 2), .mov (.k (.c (.bool false))), none⟩])
  (.seq (.seq (.region [⟨(some 5), .mov (.t 0), none⟩, ⟨(some 6), .len false (.t 5), none⟩, ⟨(some 7), .bin .gtr .int (.t 6) (.k (.c (.int .i64 60))), none⟩])
  (.cond (.t 7) (.seq (.region [⟨(some 2), .mov (.k (.c (.bool false))), none⟩])
  .ret) .skip))
  (.seq (.seq (.region [⟨(some 3), .mov (.k (.c (.int .i64 0))), none⟩])
  (.block 0 (.loop l93_0)))
  (.seq (.region [⟨(some 2), .mov (.k (.c (.bool true))), none⟩])
  .ret)))), [.tmp 2], true⟩
theorem c93 : kk 93 = some k93 := by kernel_rfl
/-- loop.example/g01263/spec.CutNotch -/
def k94 : KF := ⟨35, (.seq (.region [⟨(some 3), .box 36 (.t 0), none⟩, ⟨(some 6), .alloc 36 [(.bool false), (.slice none 0 (.exact 0)), (.int .i8 0), (.int .i8 0), (.int .i8 0), (.int .i8 0), (.int .i8 0), (.int .i8 0), (.int .i8 0), (.int .i8 0), (.int .i8 0), (.int .i8 0), (.int .i8 0), (.int .i8 0), (.int .i8 0), (.int .i8 0), (.int .i8 0), (.int .i8 0)], none⟩, ⟨(some 7), .mov (.k (.c (.int .i64 0))), none⟩])
  (.seq (.seq (.region [⟨(some 9), .call (.k (.c (.fn 57 []))) [(.t 3)], none⟩, ⟨(some 10), .un .not (.t 9), none⟩])
  (.cond (.t 10) (.seq (.region [⟨(some 11), .build [(.bool false), (.slice none 0 (.exact 0)), (.int .i8 0), (.int .i8 0), (.int .i8 0), (.int .i8 0), (.int .i8 0), (.int .i8 0), (.int .i8 0), (.int .i8 0), (.int .i8 0), (.int .i8 0), (.int .i8 0), (.int .i8 0), (.int .i8 0), (.int .i8 0), (.int .i8 0), (.int .i8 0)] [], none⟩, ⟨none, .store 18 (.t 6) (.t 11), none⟩, ⟨(some 7), .mov (.k (.c (.int .i64 1))), none⟩])
  .ret) .skip))
  (.seq (.seq (.region [⟨(some 12), .mov (.t 1), none⟩, ⟨(some 13), .call (.k (.c (.fn 95 []))) [(.t 12)], none⟩, ⟨(some 14), .un .not (.t 13), none⟩, ⟨(some 15), .mov (.t 14), none⟩, ⟨(some 16), .mov (.t 2), some (15, false)⟩, ⟨(some 17), .call (.k (.c (.fn 75 []))) [(.t 16), (.k (.c (.int .i64 0))), (.k (.c (.int .i64 200)))], some (15, false)⟩, ⟨(some 18), .un .not (.t 17), some (15, false)⟩, ⟨(some 19), .pick (.t 15) (.k (.c (.bool true))) (.t 18), none⟩])
  (.cond (.t 19) (.seq (.region [⟨(some 20), .build [(.bool false), (.slice none 0 (.exact 0)), (.int .i8 0), (.int .i8 0), (.int .i8 0), (.int .i8 0), (.int .i8 0), (.int .i8 0), (.int .i8 0), (.int .i8 0), (.int .i8 0), (.int .i8 0), (.int .i8 0), (.int .i8 0), (.int .i8 0), (.int .i8 0), (.int .i8 0), (.int .i8 0)] [], none⟩, ⟨none, .store 18 (.t 6) (.t 20), none⟩, ⟨(some 7), .mov (.k (.c (.int .i64 2))), none⟩])
  .ret) .skip))
  (.seq (.drawn [(⟨(some 21), .fldA 0 (.t 3), none⟩, []), (⟨(some 22), .load1 (.t 21), none⟩, []), (⟨(some 23), .fldA 1 (.t 3), none⟩, []), (⟨(some 24), .load1 (.t 23), none⟩, []), (⟨(some 25), .mov (.t 1), none⟩, []), (⟨(some 26), .mov (.t 2), none⟩, []), (⟨(some 28), .fldA 2 (.t 3), none⟩, []), (⟨(some 29), .loadN 16 (.t 28), none⟩, []), (⟨(some 27), .call (.k (.c (.fn 116 []))) [(.t 24), (.t 25), (.t 26)], none⟩, [⟨(some 22), .load1 (.t 21), none⟩, ⟨(some 29), .loadN 16 (.t 28), none⟩]), (⟨(some 30), .build [(.bool false), (.slice none 0 (.exact 0)), (.int .i8 0), (.int .i8 0), (.int .i8 0), (.int .i8 0), (.int .i8 0), (.int .i8 0), (.int .i8 0), (.int .i8 0), (.int .i8 0), (.int .i8 0), (.int .i8 0), (.int .i8 0), (.int .i8 0), (.int .i8 0), (.int .i8 0), (.int .i8 0)] [(0, 1, (.t 22)), (1, 1, (.t 27)), (2, 16, (.t 29))], none⟩, []), (⟨(some 8), .alloc 36 [(.bool false), (.slice none 0 (.exact 0)), (.int .i8 0), (.int .i8 0), (.int .i8 0), (.int .i8 0), (.int .i8 0), (.int .i8 0), (.int .i8 0), (.int .i8 0), (.int .i8 0), (.int .i8 0), (.int .i8 0), (.int .i8 0), (.int .i8 0), (.int .i8 0), (.int .i8 0), (.int .i8 0)], none⟩, [⟨(some 22), .load1 (.t 21), none⟩, ⟨(some 24), .load1 (.t 23), none⟩, ⟨(some 29), .loadN 16 (.t 28), none⟩]), (⟨none, .store 18 (.t 8) (.t 30), none⟩, [])])
  (.seq (.seq (.region [⟨(some 31), .call (.k (.c (.fn 57 []))) [(.t 8)], none⟩, ⟨(some 32), .un .not (.t 31), none⟩])
  (.cond (.t 32) (.seq (.region [⟨(some 33), .build [(.bool false), (.slice none 0 (.exact 0)), (.int .i8 0), (.int .i8 0), (.int .i8 0), (.int .i8 0), (.int .i8 0), (.int .i8 0), (.int .i8 0), (.int .i8 0), (.int .i8 0), (.int .i8 0), (.int .i8 0), (.int .i8 0), (.int .i8 0), (.int .i8 0), (.int .i8 0), (.int .i8 0)] [], none⟩, ⟨none, .store 18 (.t 6) (.t 33), none⟩, ⟨(some 7), .mov (.k (.c (.int .i64 4))), none⟩])
  .ret) .skip))
  (.seq (.region [⟨(some 34), .loadN 18 (.t 8), none⟩, ⟨none, .store 18 (.t 6) (.t 34), none⟩, ⟨(some 7), .mov (.k (.c (.int .i64 0))), none⟩])
  .ret)))))), [.cellN 6 18, .tmp 7], false⟩
theorem c94 : kk 94 = some k94 := by kernel_rfl
/-- loop.example/g01263/spec.l01Kind -/
def k95 : KF := ⟨5, (.seq (.region [⟨(some 2), .mov (.k (.c (.bool false))), none⟩])
  (.seq (.region [⟨(some 3), .mov (.t 0), none⟩, ⟨(some 4), .call (.k (.c (.fn 75 []))) [(.t 3), (.k (.c (.int .i64 0))), (.k (.c (.int .i64 5)))], none⟩, ⟨(some 2), .mov (.t 4), none⟩])
  .ret)), [.tmp 2], true⟩
theorem c95 : kk 95 = some k95 := by kernel_rfl
/-- loop.example/g01263/impl.ValidGrain -/
def l96_0 : KC := (.seq (.region [⟨(some 7), .bin .lss .int (.t 6) (.k (.c (.int .i64 16))), none⟩])
  (.seq (.cond (.t 7) .skip (.exit 0))
  (.seq (.block 1 (.seq (.region [⟨(some 8), .idx1 16 (.t 5) (.t 6), none⟩, ⟨(some 4), .mov (.t 8), none⟩])
  (.seq (.region [⟨(some 9), .mov (.t 4), none⟩, ⟨(some 10), .bin .lss .int (.t 9) (.k (.c (.int .i8 (-3)))), none⟩, ⟨(some 11), .mov (.t 10), none⟩, ⟨(some 12), .mov (.t 4), some (11, false)⟩, ⟨(some 13), .bin .gtr .int (.t 12) (.k (.c (.int .i8 3))), some (11, false)⟩, ⟨(some 14), .pick (.t 11) (.k (.c (.bool true))) (.t 13), none⟩])
  (.cond (.t 14) (.seq (.region [⟨(some 2), .mov (.k (.c (.bool false))), none⟩])
  .ret) .skip))))
  (.region [⟨(some 15), .bin .add .int (.t 6) (.k (.c (.int .i64 1))), none⟩, ⟨(some 6), .mov (.t 15), none⟩]))))
def k96 : KF := ⟨16, (.seq (.region [⟨(some 1), .box 34 (.t 0), none⟩, ⟨(some 2), .mov (.k (.c (.bool false))), none⟩])
  (.seq (.seq (.region [⟨(some 5), .loadN 16 (.t 1), none⟩, ⟨(some 6), .mov (.k (.c (.int .i64 0))), none⟩])
  (.block 0 (.loop l96_0)))
  (.seq (.region [⟨(some 2), .mov (.k (.c (.bool true))), none⟩])
  .ret))), [.tmp 2], true⟩
theorem c96 : kk 96 = some k96 := by kernel_rfl
/-- loop.example/g01263/impl.isKind -/
def k97 : KF := ⟨9, (.seq (.region [⟨(some 2), .mov (.k (.c (.bool false))), none⟩])
  (.seq (.region [⟨(some 3), .mov (.t 0), none⟩, ⟨(some 4), .bin .geq .int (.t 3) (.k (.c (.int .i64 0))), none⟩, ⟨(some 5), .mov (.t 4), none⟩, ⟨(some 6), .mov (.t 0), some (5, true)⟩, ⟨(some 7), .bin .leq .int (.t 6) (.k (.c (.int .i64 5))), some (5, true)⟩, ⟨(some 8), .pick (.t 5) (.t 7) (.k (.c (.bool false))), none⟩, ⟨(some 2), .mov (.t 8), none⟩])
  .ret)), [.tmp 2], true⟩
theorem c97 : kk 97 = some k97 := by kernel_rfl
/-- (loop.example/g01263/impl.Notch).end -/
def k98 : KF := ⟨11, (.seq (.region [⟨(some 1), .box 119 (.t 0), none⟩, ⟨(some 2), .mov (.k (.c (.int .i64 0))), none⟩])
  (.seq (.drawn [(⟨(some 3), .fldA 1 (.t 1), none⟩, []), (⟨(some 4), .load1 (.t 3), none⟩, []), (⟨(some 5), .conv .i64 (.t 4), none⟩, []), (⟨(some 6), .fldA 0 (.t 1), none⟩, []), (⟨(some 7), .load1 (.t 6), none⟩, []), (⟨(some 8), .conv .i64 (.t 7), none⟩, []), (⟨(some 9), .call (.k (.c (.fn 117 []))) [(.t 8)], none⟩, [⟨(some 4), .load1 (.t 3), none⟩]), (⟨(some 10), .bin .add .int (.t 5) (.t 9), none⟩, []), (⟨(some 2), .mov (.t 10), none⟩, [])])
  .ret)), [.tmp 2], true⟩
theorem c98 : kk 98 = some k98 := by kernel_rfl
/-- loop.example/g01263/impl.isTamper -/
def k99 : KF := ⟨40, (.seq (.region [⟨(some 1), .box 38 (.t 0), none⟩, ⟨(some 2), .mov (.k (.c (.bool false))), none⟩])
  (.seq (.seq (.region [⟨(some 3), .fldA 1 (.t 1), none⟩, ⟨(some 4), .load1 (.t 3), none⟩, ⟨(some 5), .conv .i64 (.t 4), none⟩, ⟨(some 6), .call (.k (.c (.fn 97 []))) [(.t 5)], none⟩, ⟨(some 7), .un .not (.t 6), none⟩])
  (.cond (.t 7) (.seq (.region [⟨(some 2), .mov (.k (.c (.bool false))), none⟩])
  .ret) .skip))
  (.seq (.seq (.region [⟨(some 8), .fldA 0 (.t 1), none⟩, ⟨(some 9), .load1 (.t 8), none⟩])
  (.block 0 (.seq (.region [⟨(some 11), .bin .eql .int (.t 9) (.k (.c (.int .i8 1))), none⟩, ⟨(some 10), .mov (.t 11), none⟩])
  (.cond (.t 10) (.seq (.region [⟨(some 12), .fldA 2 (.t 1), none⟩, ⟨(some 13), .load1 (.t 12), none⟩, ⟨(some 14), .bin .eql .int (.t 13) (.k (.c (.int .i16 0))), none⟩, ⟨(some 15), .mov (.t 14), none⟩, ⟨(some 16), .fldA 3 (.t 1), some (15, true)⟩, ⟨(some 17), .load1 (.t 16), some (15, true)⟩, ⟨(some 18), .bin .geq .int (.t 17) (.k (.c (.int .i16 0))), some (15, true)⟩, ⟨(some 19), .pick (.t 15) (.t 18) (.k (.c (.bool false))), none⟩, ⟨(some 20), .mov (.t 19), none⟩, ⟨(some 21), .fldA 3 (.t 1), some (20, true)⟩, ⟨(some 22), .load1 (.t 21), some (20, true)⟩, ⟨(some 23), .bin .leq .int (.t 22) (.k (.c (.int .i16 200))), some (20, true)⟩, ⟨(some 24), .pick (.t 20) (.t 23) (.k (.c (.bool false))), none⟩, ⟨(some 2), .mov (.t 24), none⟩])
  .ret) (.seq (.region [⟨(some 26), .bin .eql .int (.t 9) (.k (.c (.int .i8 2))), none⟩, ⟨(some 25), .mov (.t 26), none⟩])
  (.cond (.t 25) (.seq (.region [⟨(some 27), .fldA 3 (.t 1), none⟩, ⟨(some 28), .load1 (.t 27), none⟩, ⟨(some 29), .bin .eql .int (.t 28) (.k (.c (.int .i16 0))), none⟩, ⟨(some 30), .mov (.t 29), none⟩, ⟨(some 31), .fldA 2 (.t 1), some (30, true)⟩, ⟨(some 32), .load1 (.t 31), some (30, true)⟩, ⟨(some 33), .bin .geq .int (.t 32) (.k (.c (.int .i16 0))), some (30, true)⟩, ⟨(some 34), .pick (.t 30) (.t 33) (.k (.c (.bool false))), none⟩, ⟨(some 35), .mov (.t 34), none⟩, ⟨(some 36), .fldA 2 (.t 1), some (35, true)⟩, ⟨(some 37), .load1 (.t 36), some (35, true)⟩, ⟨(some 38), .bin .lss .int (.t 37) (.k (.c (.int .i16 60))), some (35, true)⟩, ⟨(some 39), .pick (.t 35) (.t 38) (.k (.c (.bool false))), none⟩, ⟨(some 2), .mov (.t 39), none⟩])
  .ret) .skip))))))
  (.seq (.region [⟨(some 2), .mov (.k (.c (.bool false))), none⟩])
  .ret)))), [.tmp 2], true⟩
theorem c99 : kk 99 = some k99 := by kernel_rfl
/-- loop.example/g01263/impl.CutNotch -/
def k100 : KF := ⟨39, (.seq (.region [⟨(some 3), .box 36 (.t 0), none⟩, ⟨(some 6), .alloc 36 [(.bool false), (.slice none 0 (.exact 0)), (.int .i8 0), (.int .i8 0), (.int .i8 0), (.int .i8 0), (.int .i8 0), (.int .i8 0), (.int .i8 0), (.int .i8 0), (.int .i8 0), (.int .i8 0), (.int .i8 0), (.int .i8 0), (.int .i8 0), (.int .i8 0), (.int .i8 0), (.int .i8 0)], none⟩, ⟨(some 7), .mov (.k (.c (.int .i64 0))), none⟩])
  (.seq (.block 0 (.seq (.region [⟨(some 11), .loadN 18 (.t 3), none⟩, ⟨(some 12), .call (.k (.c (.fn 59 []))) [(.t 11)], none⟩, ⟨(some 13), .un .not (.t 12), none⟩, ⟨(some 10), .mov (.t 13), none⟩])
  (.cond (.t 10) (.seq (.region [⟨(some 14), .build [(.bool false), (.slice none 0 (.exact 0)), (.int .i8 0), (.int .i8 0), (.int .i8 0), (.int .i8 0), (.int .i8 0), (.int .i8 0), (.int .i8 0), (.int .i8 0), (.int .i8 0), (.int .i8 0), (.int .i8 0), (.int .i8 0), (.int .i8 0), (.int .i8 0), (.int .i8 0), (.int .i8 0)] [], none⟩, ⟨none, .store 18 (.t 6) (.t 14), none⟩, ⟨(some 7), .mov (.k (.c (.int .i64 1))), none⟩])
  .ret) (.seq (.region [⟨(some 16), .mov (.t 1), none⟩, ⟨(some 17), .call (.k (.c (.fn 97 []))) [(.t 16)], none⟩, ⟨(some 18), .un .not (.t 17), none⟩, ⟨(some 19), .mov (.t 18), none⟩, ⟨(some 20), .mov (.t 2), some (19, false)⟩, ⟨(some 21), .bin .lss .int (.t 20) (.k (.c (.int .i64 0))), some (19, false)⟩, ⟨(some 22), .pick (.t 19) (.k (.c (.bool true))) (.t 21), none⟩, ⟨(some 23), .mov (.t 22), none⟩, ⟨(some 24), .mov (.t 2), some (23, false)⟩, ⟨(some 25), .bin .gtr .int (.t 24) (.k (.c (.int .i64 200))), some (23, false)⟩, ⟨(some 26), .pick (.t 23) (.k (.c (.bool true))) (.t 25), none⟩, ⟨(some 15), .mov (.t 26), none⟩])
  (.cond (.t 15) (.seq (.region [⟨(some 27), .build [(.bool false), (.slice none 0 (.exact 0)), (.int .i8 0), (.int .i8 0), (.int .i8 0), (.int .i8 0), (.int .i8 0), (.int .i8 0), (.int .i8 0), (.int .i8 0), (.int .i8 0), (.int .i8 0), (.int .i8 0), (.int .i8 0), (.int .i8 0), (.int .i8 0), (.int .i8 0), (.int .i8 0)] [], none⟩, ⟨none, .store 18 (.t 6) (.t 27), none⟩, ⟨(some 7), .mov (.k (.c (.int .i64 2))), none⟩])
  .ret) .skip)))))
  (.seq (.region [⟨(some 29), .loadN 18 (.t 3), none⟩, ⟨(some 30), .mov (.t 1), none⟩, ⟨(some 31), .mov (.t 2), none⟩, ⟨(some 32), .call (.k (.c (.fn 118 []))) [(.t 29), (.t 30), (.t 31)], none⟩, ⟨(some 28), .mov (.t 32), none⟩, ⟨(some 33), .ext (.t 28) 0, none⟩, ⟨(some 34), .ext (.t 28) 1, none⟩, ⟨(some 8), .alloc 36 [(.bool false), (.slice none 0 (.exact 0)), (.int .i8 0), (.int .i8 0), (.int .i8 0), (.int .i8 0), (.int .i8 0), (.int .i8 0), (.int .i8 0), (.int .i8 0), (.int .i8 0), (.int .i8 0), (.int .i8 0), (.int .i8 0), (.int .i8 0), (.int .i8 0), (.int .i8 0), (.int .i8 0)], none⟩, ⟨none, .store 18 (.t 8) (.t 33), none⟩, ⟨(some 9), .mov (.t 34), none⟩])
  (.seq (.seq (.region [⟨(some 35), .mov (.t 9), none⟩, ⟨(some 36), .un .not (.t 35), none⟩])
  (.cond (.t 36) (.seq (.region [⟨(some 37), .build [(.bool false), (.slice none 0 (.exact 0)), (.int .i8 0), (.int .i8 0), (.int .i8 0), (.int .i8 0), (.int .i8 0), (.int .i8 0), (.int .i8 0), (.int .i8 0), (.int .i8 0), (.int .i8 0), (.int .i8 0), (.int .i8 0), (.int .i8 0), (.int .i8 0), (.int .i8 0), (.int .i8 0)] [], none⟩, ⟨none, .store 18 (.t 6) (.t 37), none⟩, ⟨(some 7), .mov (.k (.c (.int .i64 4))), none⟩])
  .ret) .skip))
  (.seq (.region [⟨(some 38), .loadN 18 (.t 8), none⟩, ⟨none, .store 18 (.t 6) (.t 38), none⟩, ⟨(some 7), .mov (.k (.c (.int .i64 0))), none⟩])
  .ret))))), [.cellN 6 18, .tmp 7], false⟩
theorem c100 : kk 100 = some k100 := by kernel_rfl
/-- (*loop.example/g01263/spec.l00Src).one -/
def k101 : KF := ⟨9, (.seq (.region [⟨(some 4), .mov (.k (.c (.bool false))), none⟩])
  (.seq (.region [⟨(some 5), .mov (.t 0), none⟩, ⟨(some 6), .mov (.t 1), none⟩, ⟨(some 7), .call (.k (.c (.fn 73 []))) [(.t 5), (.t 6)], none⟩, ⟨(some 8), .bin .eql .int (.t 7) (.k (.c (.int .i64 0))), none⟩, ⟨(some 4), .mov (.t 8), none⟩])
  .ret)), [.tmp 4], true⟩
theorem c101 : kk 101 = some k101 := by kernel_rfl
/-- loop.example/g01263/spec.GrainFrom -/
def l102_0 : KC := (.seq (.seq (.region [⟨(some 7), .mov (.t 5), none⟩, ⟨(some 8), .bin .lss .int (.t 7) (.k (.c (.int .i64 16))), none⟩])
  (.cond (.t 8) .skip (.exit 0)))
  (.seq (.block 1 (.seq (.region [⟨(some 11), .mov (.t 0), none⟩, ⟨(some 12), .bin .mul .int (.k (.c (.int .u32 1664525))) (.t 11), none⟩, ⟨(some 13), .bin .add .int (.t 12) (.k (.c (.int .u32 1013904223))), none⟩, ⟨(some 0), .mov (.t 13), none⟩])
  (.region [⟨(some 14), .mov (.t 5), none⟩, ⟨(some 15), .mov (.t 0), none⟩, ⟨(some 16), .bin .quo .int (.t 15) (.k (.c (.int .u32 65536))), none⟩, ⟨(some 17), .bin .rem .int (.t 16) (.k (.c (.int .u32 7))), none⟩, ⟨(some 18), .conv .i8 (.t 17), none⟩, ⟨(some 19), .bin .sub .int (.t 18) (.k (.c (.int .i8 3))), none⟩, ⟨(some 20), .idxA 16 1 (.t 4) (.t 14), none⟩, ⟨none, .store 1 (.t 20) (.t 19), none⟩])))
  (.region [⟨(some 9), .mov (.t 5), none⟩, ⟨(some 10), .bin .add .int (.t 9) (.k (.c (.int .i64 1))), none⟩, ⟨(some 5), .mov (.t 10), none⟩])))
def k102 : KF := ⟨23, (.seq (.region [⟨(some 2), .alloc 34 [(.int .i8 0), (.int .i8 0), (.int .i8 0), (.int .i8 0), (.int .i8 0), (.int .i8 0), (.int .i8 0), (.int .i8 0), (.int .i8 0), (.int .i8 0), (.int .i8 0), (.int .i8 0), (.int .i8 0), (.int .i8 0), (.int .i8 0), (.int .i8 0)], none⟩, ⟨(some 3), .mov (.k (.c (.int .u32 0))), none⟩])
  (.seq (.region [⟨(some 6), .build [(.int .i8 0), (.int .i8 0), (.int .i8 0), (.int .i8 0), (.int .i8 0), (.int .i8 0), (.int .i8 0), (.int .i8 0), (.int .i8 0), (.int .i8 0), (.int .i8 0), (.int .i8 0), (.int .i8 0), (.int .i8 0), (.int .i8 0), (.int .i8 0)] [], none⟩, ⟨(some 4), .alloc 34 [(.int .i8 0), (.int .i8 0), (.int .i8 0), (.int .i8 0), (.int .i8 0), (.int .i8 0), (.int .i8 0), (.int .i8 0), (.int .i8 0), (.int .i8 0), (.int .i8 0), (.int .i8 0), (.int .i8 0), (.int .i8 0), (.int .i8 0), (.int .i8 0)], none⟩, ⟨none, .store 16 (.t 4) (.t 6), none⟩])
  (.seq (.seq (.region [⟨(some 5), .mov (.k (.c (.int .i64 0))), none⟩])
  (.block 0 (.loop l102_0)))
  (.seq (.region [⟨(some 21), .loadN 16 (.t 4), none⟩, ⟨(some 22), .mov (.t 0), none⟩, ⟨none, .store 16 (.t 2) (.t 21), none⟩, ⟨(some 3), .mov (.t 22), none⟩])
  .ret)))), [.cellN 2 16, .tmp 3], true⟩
theorem c102 : kk 102 = some k102 := by kernel_rfl
/-- loop.example/g01263/spec.l01Widths -/
def k103 : KF := ⟨2, (.seq (.region [⟨(some 0), .mov (.k (.c (.slice none 0 (.exact 0)))), none⟩])
  (.seq (.region [⟨(some 1), .buildSl 2 6 [(.int .i64 0), (.int .i64 0), (.int .i64 0), (.int .i64 0), (.int .i64 0), (.int .i64 0)] [(0, 1, (.k (.c (.int .i64 1)))), (1, 1, (.k (.c (.int .i64 2)))), (2, 1, (.k (.c (.int .i64 4)))), (3, 1, (.k (.c (.int .i64 6)))), (4, 1, (.k (.c (.int .i64 9)))), (5, 1, (.k (.c (.int .i64 12))))], none⟩, ⟨(some 0), .mov (.t 1), none⟩])
  .ret)), [.tmp 0], false⟩
theorem c103 : kk 103 = some k103 := by kernel_rfl
/-- (*loop.example/g01263/spec.l00Src).next -/
def k108 : KF := ⟨62, (.seq (.region [⟨(some 2), .mov (.k (.c (.int .i64 0))), none⟩])
  (.seq (.region [⟨(some 3), .mov (.k (.c (.int .i64 0))), none⟩])
  (.seq (.seq (.drawn [(⟨(some 4), .mov (.t 0), none⟩, []), (⟨(some 5), .nilchk (.t 4), none⟩, []), (⟨(some 6), .fldA 1 (.t 5), none⟩, []), (⟨(some 7), .load1 (.t 6), none⟩, []), (⟨(some 8), .mov (.t 0), none⟩, []), (⟨(some 9), .nilchk (.t 8), none⟩, []), (⟨(some 10), .fldA 0 (.t 9), none⟩, []), (⟨(some 11), .load1 (.t 10), none⟩, []), (⟨(some 12), .len false (.t 11), none⟩, []), (⟨(some 13), .bin .lss .int (.t 7) (.t 12), none⟩, [])])
  (.cond (.t 13) (.drawn [(⟨(some 14), .mov (.t 0), none⟩, []), (⟨(some 15), .nilchk (.t 14), none⟩, []), (⟨(some 16), .fldA 0 (.t 15), none⟩, []), (⟨(some 17), .load1 (.t 16), none⟩, []), (⟨(some 18), .mov (.t 0), none⟩, []), (⟨(some 19), .nilchk (.t 18), none⟩, []), (⟨(some 20), .fldA 1 (.t 19), none⟩, []), (⟨(some 21), .load1 (.t 20), none⟩, []), (⟨(some 22), .idxS 1 (.t 17) (.t 21), none⟩, []), (⟨(some 23), .load1 (.t 22), none⟩, []), (⟨(some 24), .conv .i64 (.t 23), none⟩, []), (⟨(some 3), .mov (.t 24), none⟩, [])]) .skip))
  (.seq (.region [⟨(some 25), .mov (.t 0), none⟩, ⟨(some 26), .nilchk (.t 25), none⟩, ⟨(some 27), .fldA 1 (.t 26), none⟩, ⟨(some 28), .load1 (.t 27), none⟩, ⟨(some 29), .bin .add .int (.t 28) (.k (.c (.int .i64 1))), none⟩, ⟨(some 30), .nilchk (.t 25), none⟩, ⟨(some 31), .fldA 1 (.t 30), none⟩, ⟨none, .store 1 (.t 31) (.t 29), none⟩])
  (.seq (.region [⟨(some 32), .mov (.t 0), none⟩, ⟨(some 33), .mov (.t 0), none⟩, ⟨(some 34), .nilchk (.t 33), none⟩, ⟨(some 35), .fldA 2 (.t 34), none⟩, ⟨(some 36), .load1 (.t 35), none⟩, ⟨(some 37), .bin .mul .int (.t 36) (.k (.c (.int .u64 6364136223846793005))), none⟩, ⟨(some 38), .mov (.t 3), none⟩, ⟨(some 39), .conv .u64 (.t 38), none⟩, ⟨(some 40), .bin .add .int (.t 37) (.t 39), none⟩, ⟨(some 41), .bin .add .int (.t 40) (.k (.c (.int .u64 1442695040888963407))), none⟩, ⟨(some 42), .nilchk (.t 32), none⟩, ⟨(some 43), .fldA 2 (.t 42), none⟩, ⟨none, .store 1 (.t 43) (.t 41), none⟩])
  (.seq (.seq (.drawn [(⟨(some 44), .mov (.t 0), none⟩, []), (⟨(some 45), .nilchk (.t 44), none⟩, []), (⟨(some 46), .fldA 1 (.t 45), none⟩, []), (⟨(some 47), .load1 (.t 46), none⟩, []), (⟨(some 48), .mov (.t 0), none⟩, []), (⟨(some 49), .nilchk (.t 48), none⟩, []), (⟨(some 50), .fldA 0 (.t 49), none⟩, []), (⟨(some 51), .load1 (.t 50), none⟩, []), (⟨(some 52), .len false (.t 51), none⟩, []), (⟨(some 53), .bin .leq .int (.t 47) (.t 52), none⟩, [])])
  (.cond (.t 53) (.seq (.region [⟨(some 54), .mov (.t 3), none⟩, ⟨(some 2), .mov (.t 54), none⟩])
  .ret) .skip))
  (.seq (.region [⟨(some 55), .mov (.t 0), none⟩, ⟨(some 56), .nilchk (.t 55), none⟩, ⟨(some 57), .fldA 2 (.t 56), none⟩, ⟨(some 58), .load1 (.t 57), none⟩, ⟨(some 59), .bin .shr .int (.t 58) (.k (.c (.int .u64 40))), none⟩, ⟨(some 60), .bin .and .int (.t 59) (.k (.c (.int .u64 255))), none⟩, ⟨(some 61), .conv .i64 (.t 60), none⟩, ⟨(some 2), .mov (.t 61), none⟩])
  .ret))))))), [.tmp 2], true⟩
theorem c108 : kk 108 = some k108 := by kernel_rfl
/-- loop.example/g01263/impl.room -/
def l113_0 : KC := (.seq (.region [⟨(some 11), .bin .lss .int (.t 10) (.k (.c (.int .i64 201))), none⟩])
  (.seq (.cond (.t 11) .skip (.exit 0))
  (.seq (.block 1 (.seq (.region [⟨(some 12), .mov (.t 10), none⟩, ⟨(some 6), .mov (.t 12), none⟩])
  (.seq (.region [⟨(some 14), .loadN 18 (.t 2), none⟩, ⟨(some 15), .mov (.t 1), none⟩, ⟨(some 16), .mov (.t 6), none⟩, ⟨(some 17), .call (.k (.c (.fn 118 []))) [(.t 14), (.t 15), (.t 16)], none⟩, ⟨(some 13), .mov (.t 17), none⟩, ⟨(some 18), .ext (.t 13) 0, none⟩, ⟨(some 19), .ext (.t 13) 1, none⟩, ⟨(some 7), .alloc 36 [(.bool false), (.slice none 0 (.exact 0)), (.int .i8 0), (.int .i8 0), (.int .i8 0), (.int .i8 0), (.int .i8 0), (.int .i8 0), (.int .i8 0), (.int .i8 0), (.int .i8 0), (.int .i8 0), (.int .i8 0), (.int .i8 0), (.int .i8 0), (.int .i8 0), (.int .i8 0), (.int .i8 0)], none⟩, ⟨none, .store 18 (.t 7) (.t 18), none⟩, ⟨(some 8), .mov (.t 19), none⟩])
  (.seq (.region [⟨(some 20), .mov (.t 8), none⟩])
  (.cond (.t 20) (.region [⟨(some 21), .mov (.t 5), none⟩, ⟨(some 22), .mov (.t 6), none⟩, ⟨(some 23), .buildSl 2 1 [(.int .i64 0)] [(0, 1, (.t 22))], none⟩, ⟨(some 24), .app 2 1 8 (.t 21) (.t 23), none⟩, ⟨(some 5), .mov (.t 24), none⟩]) .skip)))))
  (.region [⟨(some 25), .bin .add .int (.t 10) (.k (.c (.int .i64 1))), none⟩, ⟨(some 10), .mov (.t 25), none⟩]))))
def k113 : KF := ⟨27, (.seq (.region [⟨(some 2), .box 36 (.t 0), none⟩, ⟨(some 4), .mov (.k (.c (.slice none 0 (.exact 0)))), none⟩])
  (.seq (.region [⟨(some 9), .buildSl 2 0 [] [], none⟩, ⟨(some 5), .mov (.t 9), none⟩])
  (.seq (.seq (.region [⟨(some 10), .mov (.k (.c (.int .i64 0))), none⟩])
  (.block 0 (.loop l113_0)))
  (.seq (.region [⟨(some 26), .mov (.t 5), none⟩, ⟨(some 4), .mov (.t 26), none⟩])
  .ret)))), [.tmp 4], false⟩
theorem c113 : kk 113 = some k113 := by kernel_rfl
/-- loop.example/g01263/spec.l01Copy -/
def k114 : KF := ⟨6, (.seq (.region [⟨(some 2), .mov (.k (.c (.slice none 0 (.exact 0)))), none⟩])
  (.seq (.region [⟨(some 3), .buildSl 119 0 [] [], none⟩, ⟨(some 4), .mov (.t 0), none⟩, ⟨(some 5), .app 119 2 4 (.t 3) (.t 4), none⟩, ⟨(some 2), .mov (.t 5), none⟩])
  .ret)), [.tmp 2], false⟩
theorem c114 : kk 114 = some k114 := by kernel_rfl
/-- loop.example/g01263/spec.l01Ends -/
def k115 : KF := ⟨12, (.seq (.region [⟨(some 1), .box 119 (.t 0), none⟩, ⟨(some 2), .mov (.k (.c (.int .i64 0))), none⟩])
  (.seq (.drawn [(⟨(some 3), .fldA 1 (.t 1), none⟩, []), (⟨(some 4), .load1 (.t 3), none⟩, []), (⟨(some 5), .conv .i64 (.t 4), none⟩, []), (⟨(some 7), .fldA 0 (.t 1), none⟩, []), (⟨(some 8), .load1 (.t 7), none⟩, []), (⟨(some 6), .call (.k (.c (.fn 103 []))) [], none⟩, [⟨(some 4), .load1 (.t 3), none⟩, ⟨(some 8), .load1 (.t 7), none⟩]), (⟨(some 9), .idxS 1 (.t 6) (.t 8), none⟩, []), (⟨(some 10), .load1 (.t 9), none⟩, []), (⟨(some 11), .bin .add .int (.t 5) (.t 10), none⟩, []), (⟨(some 2), .mov (.t 11), none⟩, [])])
  .ret)), [.tmp 2], true⟩
theorem c115 : kk 115 = some k115 := by kernel_rfl
/-- loop.example/g01263/spec.l01Cut -/
def l116_0 : KC := (.seq (.seq (.region [⟨(some 17), .mov (.t 10), none⟩, ⟨(some 18), .mov (.t 0), none⟩, ⟨(some 19), .len false (.t 18), none⟩, ⟨(some 20), .bin .lss .int (.t 17) (.t 19), none⟩])
  (.cond (.t 20) .skip (.exit 0)))
  (.seq (.block 1 (.seq (.seq (.drawn [(⟨(some 23), .mov (.t 9), none⟩, []), (⟨(some 24), .un .not (.t 23), none⟩, []), (⟨(some 25), .mov (.t 24), none⟩, []), (⟨(some 26), .mov (.t 0), some (25, true)⟩, []), (⟨(some 27), .mov (.t 10), some (25, true)⟩, []), (⟨(some 28), .idxS 2 (.t 26) (.t 27), some (25, true)⟩, []), (⟨(some 29), .fldA 1 (.t 28), some (25, true)⟩, []), (⟨(some 30), .load1 (.t 29), some (25, true)⟩, []), (⟨(some 31), .fldA 1 (.t 8), some (25, true)⟩, []), (⟨(some 32), .load1 (.t 31), some (25, true)⟩, []), (⟨(some 33), .bin .gtr .int (.t 30) (.t 32), some (25, true)⟩, []), (⟨(some 34), .pick (.t 25) (.t 33) (.k (.c (.bool false))), none⟩, [])])
  (.cond (.t 34) (.seq (.region [⟨(some 35), .mov (.t 7), none⟩, ⟨(some 36), .loadN 2 (.t 8), none⟩, ⟨(some 37), .buildSl 119 1 [(.int .i8 0), (.int .i16 0)] [(0, 2, (.t 36))], none⟩, ⟨(some 38), .app 119 2 4 (.t 35) (.t 37), none⟩, ⟨(some 7), .mov (.t 38), none⟩])
  (.region [⟨(some 9), .mov (.k (.c (.bool true))), none⟩])) .skip))
  (.region [⟨(some 39), .mov (.t 7), none⟩, ⟨(some 40), .mov (.t 0), none⟩, ⟨(some 41), .mov (.t 10), none⟩, ⟨(some 42), .idxS 2 (.t 40) (.t 41), none⟩, ⟨(some 43), .loadN 2 (.t 42), none⟩, ⟨(some 44), .buildSl 119 1 [(.int .i8 0), (.int .i16 0)] [(0, 2, (.t 43))], none⟩, ⟨(some 45), .app 119 2 4 (.t 39) (.t 44), none⟩, ⟨(some 7), .mov (.t 45), none⟩])))
  (.region [⟨(some 21), .mov (.t 10), none⟩, ⟨(some 22), .bin .add .int (.t 21) (.k (.c (.int .i64 1))), none⟩, ⟨(some 10), .mov (.t 22), none⟩])))
def k116 : KF := ⟨53, (.seq (.region [⟨(some 6), .mov (.k (.c (.slice none 0 (.exact 0)))), none⟩])
  (.seq (.region [⟨(some 11), .buildSl 119 0 [] [], none⟩, ⟨(some 7), .mov (.t 11), none⟩])
  (.seq (.region [⟨(some 12), .mov (.t 1), none⟩, ⟨(some 13), .conv .i8 (.t 12), none⟩, ⟨(some 14), .mov (.t 2), none⟩, ⟨(some 15), .conv .i16 (.t 14), none⟩, ⟨(some 16), .build [(.int .i8 0), (.int .i16 0)] [(0, 1, (.t 13)), (1, 1, (.t 15))], none⟩, ⟨(some 8), .alloc 119 [(.int .i8 0), (.int .i16 0)], none⟩, ⟨none, .store 2 (.t 8) (.t 16), none⟩])
  (.seq (.region [⟨(some 9), .mov (.k (.c (.bool false))), none⟩])
  (.seq (.seq (.region [⟨(some 10), .mov (.k (.c (.int .i64 0))), none⟩])
  (.block 0 (.loop l116_0)))
  (.seq (.seq (.region [⟨(some 46), .mov (.t 9), none⟩, ⟨(some 47), .un .not (.t 46), none⟩])
  (.cond (.t 47) (.region [⟨(some 48), .mov (.t 7), none⟩, ⟨(some 49), .loadN 2 (.t 8), none⟩, ⟨(some 50), .buildSl 119 1 [(.int .i8 0), (.int .i16 0)] [(0, 2, (.t 49))], none⟩, ⟨(some 51), .app 119 2 4 (.t 48) (.t 50), none⟩, ⟨(some 7), .mov (.t 51), none⟩]) .skip))
  (.seq (.region [⟨(some 52), .mov (.t 7), none⟩, ⟨(some 6), .mov (.t 52), none⟩])
  .ret))))))), [.tmp 6], false⟩
theorem c116 : kk 116 = some k116 := by kernel_rfl
/-- loop.example/g01263/impl.width -/
def k117 : KF := ⟨7, (.seq (.region [⟨(some 2), .mov (.k (.c (.int .i64 0))), none⟩])
  (.seq (.region [⟨(some 3), .buildSl 2 6 [(.int .i64 0), (.int .i64 0), (.int .i64 0), (.int .i64 0), (.int .i64 0), (.int .i64 0)] [(0, 1, (.k (.c (.int .i64 1)))), (1, 1, (.k (.c (.int .i64 2)))), (2, 1, (.k (.c (.int .i64 4)))), (3, 1, (.k (.c (.int .i64 6)))), (4, 1, (.k (.c (.int .i64 9)))), (5, 1, (.k (.c (.int .i64 12))))], none⟩, ⟨(some 4), .mov (.t 0), none⟩, ⟨(some 5), .idxS 1 (.t 3) (.t 4), none⟩, ⟨(some 6), .load1 (.t 5), none⟩, ⟨(some 2), .mov (.t 6), none⟩])
  .ret)), [.tmp 2], true⟩
theorem c117 : kk 117 = some k117 := by kernel_rfl
/-- loop.example/g01263/impl.cut -/
def l118_0 : KC := (.seq (.seq (.region [⟨(some 9), .mov (.t 8), none⟩, ⟨(some 10), .fldA 1 (.t 3), none⟩, ⟨(some 11), .load1 (.t 10), none⟩, ⟨(some 12), .len false (.t 11), none⟩, ⟨(some 13), .bin .lss .int (.t 9) (.t 12), none⟩, ⟨(some 14), .mov (.t 13), none⟩, ⟨(some 15), .fldA 1 (.t 3), some (14, true)⟩, ⟨(some 16), .load1 (.t 15), some (14, true)⟩, ⟨(some 17), .mov (.t 8), some (14, true)⟩, ⟨(some 18), .idxS 2 (.t 16) (.t 17), some (14, true)⟩, ⟨(some 19), .fldA 1 (.t 18), some (14, true)⟩, ⟨(some 20), .load1 (.t 19), some (14, true)⟩, ⟨(some 21), .conv .i64 (.t 20), some (14, true)⟩, ⟨(some 22), .mov (.t 2), some (14, true)⟩, ⟨(some 23), .bin .leq .int (.t 21) (.t 22), some (14, true)⟩, ⟨(some 24), .pick (.t 14) (.t 23) (.k (.c (.bool false))), none⟩])
  (.cond (.t 24) .skip (.exit 0)))
  (.block 1 (.region [⟨(some 25), .mov (.t 8), none⟩, ⟨(some 26), .bin .add .int (.t 25) (.k (.c (.int .i64 1))), none⟩, ⟨(some 8), .mov (.t 26), none⟩])))
def k118 : KF := ⟨42, (.seq (.region [⟨(some 3), .box 36 (.t 0), none⟩, ⟨(some 6), .alloc 36 [(.bool false), (.slice none 0 (.exact 0)), (.int .i8 0), (.int .i8 0), (.int .i8 0), (.int .i8 0), (.int .i8 0), (.int .i8 0), (.int .i8 0), (.int .i8 0), (.int .i8 0), (.int .i8 0), (.int .i8 0), (.int .i8 0), (.int .i8 0), (.int .i8 0), (.int .i8 0), (.int .i8 0)], none⟩, ⟨(some 7), .mov (.k (.c (.bool false))), none⟩])
  (.seq (.region [⟨(some 8), .mov (.k (.c (.int .i64 0))), none⟩])
  (.seq (.block 0 (.loop l118_0))
  (.seq (.region [⟨(some 27), .fldA 1 (.t 3), none⟩, ⟨(some 28), .load1 (.t 27), none⟩, ⟨(some 29), .call (.k (.c (.fn 86 []))) [(.t 28)], none⟩, ⟨(some 30), .mov (.t 8), none⟩, ⟨(some 31), .mov (.t 1), none⟩, ⟨(some 32), .conv .i8 (.t 31), none⟩, ⟨(some 33), .mov (.t 2), none⟩, ⟨(some 34), .conv .i16 (.t 33), none⟩, ⟨(some 35), .build [(.int .i8 0), (.int .i16 0)] [(0, 1, (.t 32)), (1, 1, (.t 34))], none⟩, ⟨(some 36), .buildSl 119 1 [(.int .i8 0), (.int .i16 0)] [(0, 2, (.t 35))], none⟩, ⟨(some 37), .call (.k (.c (.fn 119 []))) [(.t 29), (.t 30), (.t 36)], none⟩, ⟨(some 38), .fldA 1 (.t 3), none⟩, ⟨none, .store 1 (.t 38) (.t 37), none⟩])
  (.seq (.drawn [(⟨(some 39), .loadN 18 (.t 3), none⟩, []), (⟨(some 40), .loadN 18 (.t 3), none⟩, []), (⟨(some 41), .call (.k (.c (.fn 59 []))) [(.t 40)], none⟩, [⟨(some 39), .loadN 18 (.t 3), none⟩]), (⟨none, .store 18 (.t 6) (.t 39), none⟩, []), (⟨(some 7), .mov (.t 41), none⟩, [])])
  .ret))))), [.cellN 6 18, .tmp 7], false⟩
theorem c118 : kk 118 = some k118 := by kernel_rfl
/-- slices.Insert[[]loop.example/g01263/impl.Notch,loop.example/g01263/impl.Notch] -/
theorem c119 : kk 119 = some k119 := by kernel_rfl
end Go.Proofs.Ytnblibimbggheaa
