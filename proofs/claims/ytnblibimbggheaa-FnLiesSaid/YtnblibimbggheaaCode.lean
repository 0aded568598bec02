/- What functions of the program answer: part Code. -/
import Derived.Test.YtnblibimbggheaaViE
import Derived.Test.YtnblibimbggheaaViC
import Derived.Test.YtnblibimbggheaaViA
import Derived.Test.YtnblibimbggheaaChecked
import Derived.KernelRfl
set_option linter.unusedVariables false
set_option linter.unusedSimpArgs false
set_option linter.unusedSectionVars false
namespace Go.Proofs.Ytnblibimbggheaa
open Go Go.Proofs.Ytnblibimbggheaa.VI
def k119 : KF := kNat 3 1 (insA 119 2 4)
noncomputable def kk : FuncId → Option KF := fun f => if f = 119 then some k119 else cFunc Try.prog (!([13, 17, 18, 22, 27, 29, 34, 35, 38, 39, 40, 43, 44, 46, 47, 52, 58, 60, 63, 64, 71, 72, 78, 81, 83, 85, 86, 89, 94, 100, 103, 113, 114, 116, 118] : List Nat).contains f) f
/-- loop.example/g01263/laws.FnExactGainOf -/
def k3 : KF := ⟨46, (.seq (.region [⟨(some 2), .box 26 (.t 0), none⟩, ⟨(some 3), .box 29 (.t 1), none⟩, ⟨(some 4), .mov (.k (.c (.bool false))), none⟩])
  (.seq (.region [⟨(some 5), .mov (.k (.c (.int .i64 1048576))), none⟩])
  (.seq (.region [⟨(some 11), .loadN 18 (.t 2), none⟩, ⟨(some 12), .mov (.t 5), none⟩, ⟨(some 13), .call (.k (.c (.fn 11 []))) [(.t 11), (.t 12)], none⟩, ⟨(some 5), .mov (.t 13), none⟩])
  (.seq (.seq (.region [⟨(some 14), .mov (.t 5), none⟩, ⟨(some 15), .bin .lss .int (.t 14) (.k (.c (.int .i64 0))), none⟩])
  (.cond (.t 15) (.seq (.region [⟨(some 4), .mov (.k (.c (.bool true))), none⟩])
  .ret) .skip))
  (.seq (.drawn [(⟨(some 17), .loadN 18 (.t 2), none⟩, []), (⟨(some 19), .loadN 4 (.t 3), none⟩, []), (⟨(some 18), .call (.k (.c (.fn 13 []))) [(.t 17)], none⟩, [⟨(some 19), .loadN 4 (.t 3), none⟩]), (⟨(some 20), .call (.k (.c (.fn 14 []))) [(.t 19)], none⟩, []), (⟨(some 21), .call (.k (.c (.fn 12 []))) [(.t 18), (.t 20)], none⟩, []), (⟨(some 16), .mov (.t 21), none⟩, []), (⟨(some 22), .ext (.t 16) 0, none⟩, []), (⟨(some 23), .ext (.t 16) 1, none⟩, []), (⟨(some 6), .mov (.t 22), none⟩, []), (⟨(some 7), .mov (.t 23), none⟩, [])])
  (.seq (.region [⟨(some 24), .loadN 18 (.t 2), none⟩, ⟨(some 25), .call (.k (.c (.fn 13 []))) [(.t 24)], none⟩, ⟨(some 8), .alloc 36 [(.bool false), (.slice none 0 (.exact 0)), (.int .i8 0), (.int .i8 0), (.int .i8 0), (.int .i8 0), (.int .i8 0), (.int .i8 0), (.int .i8 0), (.int .i8 0), (.int .i8 0), (.int .i8 0), (.int .i8 0), (.int .i8 0), (.int .i8 0), (.int .i8 0), (.int .i8 0), (.int .i8 0)], none⟩, ⟨none, .store 18 (.t 8) (.t 25), none⟩])
  (.seq (.drawn [(⟨(some 27), .loadN 18 (.t 8), none⟩, []), (⟨(some 28), .loadN 4 (.t 3), none⟩, []), (⟨(some 29), .call (.k (.c (.fn 14 []))) [(.t 28)], none⟩, [⟨(some 27), .loadN 18 (.t 8), none⟩]), (⟨(some 30), .call (.k (.c (.fn 15 []))) [(.t 27), (.t 29)], none⟩, []), (⟨(some 26), .mov (.t 30), none⟩, []), (⟨(some 31), .ext (.t 26) 0, none⟩, []), (⟨(some 32), .ext (.t 26) 1, none⟩, []), (⟨(some 9), .mov (.t 31), none⟩, []), (⟨(some 10), .mov (.t 32), none⟩, [])])
  (.seq (.seq (.region [⟨(some 33), .mov (.t 9), none⟩, ⟨(some 34), .mov (.t 6), none⟩, ⟨(some 35), .bin .neq .int (.t 33) (.t 34), none⟩, ⟨(some 36), .mov (.t 35), none⟩, ⟨(some 37), .mov (.t 10), some (36, false)⟩, ⟨(some 38), .mov (.t 7), some (36, false)⟩, ⟨(some 39), .bin .neq .int (.t 37) (.t 38), some (36, false)⟩, ⟨(some 40), .pick (.t 36) (.k (.c (.bool true))) (.t 39), none⟩])
  (.cond (.t 40) (.seq (.region [⟨(some 4), .mov (.k (.c (.bool false))), none⟩])
  .ret) .skip))
  (.seq (.seq (.drawn [(⟨(some 41), .loadN 18 (.t 8), none⟩, []), (⟨(some 42), .loadN 18 (.t 2), none⟩, []), (⟨(some 43), .call (.k (.c (.fn 13 []))) [(.t 42)], none⟩, [⟨(some 41), .loadN 18 (.t 8), none⟩]), (⟨(some 44), .call (.k (.c (.fn 16 []))) [(.t 41), (.t 43)], none⟩, []), (⟨(some 45), .un .not (.t 44), none⟩, [])])
  (.cond (.t 45) (.seq (.region [⟨(some 4), .mov (.k (.c (.bool false))), none⟩])
  .ret) .skip))
  (.seq (.region [⟨(some 4), .mov (.k (.c (.bool true))), none⟩])
  .ret)))))))))), [.tmp 4], true⟩
theorem c3 : kk 3 = some k3 := by kernel_rfl
/-- loop.example/g01263/laws.FnExactTamperHalf -/
def k4 : KF := ⟨104, (.seq (.region [⟨(some 2), .box 26 (.t 0), none⟩, ⟨(some 3), .box 29 (.t 1), none⟩, ⟨(some 4), .mov (.k (.c (.bool false))), none⟩])
  (.seq (.region [⟨(some 5), .mov (.k (.c (.int .i64 1048576))), none⟩])
  (.seq (.region [⟨(some 16), .loadN 18 (.t 2), none⟩, ⟨(some 17), .mov (.t 5), none⟩, ⟨(some 18), .call (.k (.c (.fn 11 []))) [(.t 16), (.t 17)], none⟩, ⟨(some 5), .mov (.t 18), none⟩])
  (.seq (.seq (.region [⟨(some 19), .mov (.t 5), none⟩, ⟨(some 20), .bin .lss .int (.t 19) (.k (.c (.int .i64 0))), none⟩])
  (.cond (.t 20) (.seq (.region [⟨(some 4), .mov (.k (.c (.bool true))), none⟩])
  .ret) .skip))
  (.seq (.drawn [(⟨(some 22), .loadN 18 (.t 2), none⟩, []), (⟨(some 24), .loadN 4 (.t 3), none⟩, []), (⟨(some 23), .call (.k (.c (.fn 13 []))) [(.t 22)], none⟩, [⟨(some 24), .loadN 4 (.t 3), none⟩]), (⟨(some 25), .call (.k (.c (.fn 14 []))) [(.t 24)], none⟩, []), (⟨(some 26), .call (.k (.c (.fn 17 []))) [(.t 23), (.t 25)], none⟩, []), (⟨(some 21), .mov (.t 26), none⟩, []), (⟨(some 27), .ext (.t 21) 0, none⟩, []), (⟨(some 28), .ext (.t 21) 1, none⟩, []), (⟨(some 6), .alloc 36 [(.bool false), (.slice none 0 (.exact 0)), (.int .i8 0), (.int .i8 0), (.int .i8 0), (.int .i8 0), (.int .i8 0), (.int .i8 0), (.int .i8 0), (.int .i8 0), (.int .i8 0), (.int .i8 0), (.int .i8 0), (.int .i8 0), (.int .i8 0), (.int .i8 0), (.int .i8 0), (.int .i8 0)], none⟩, [⟨(some 22), .loadN 18 (.t 2), none⟩, ⟨(some 24), .loadN 4 (.t 3), none⟩]), (⟨none, .store 18 (.t 6) (.t 27), none⟩, []), (⟨(some 7), .mov (.t 28), none⟩, [])])
  (.seq (.region [⟨(some 29), .loadN 18 (.t 2), none⟩, ⟨(some 30), .call (.k (.c (.fn 13 []))) [(.t 29)], none⟩, ⟨(some 8), .alloc 36 [(.bool false), (.slice none 0 (.exact 0)), (.int .i8 0), (.int .i8 0), (.int .i8 0), (.int .i8 0), (.int .i8 0), (.int .i8 0), (.int .i8 0), (.int .i8 0), (.int .i8 0), (.int .i8 0), (.int .i8 0), (.int .i8 0), (.int .i8 0), (.int .i8 0), (.int .i8 0), (.int .i8 0)], none⟩, ⟨none, .store 18 (.t 8) (.t 30), none⟩])
  (.seq (.drawn [(⟨(some 32), .loadN 18 (.t 8), none⟩, []), (⟨(some 33), .loadN 4 (.t 3), none⟩, []), (⟨(some 34), .call (.k (.c (.fn 14 []))) [(.t 33)], none⟩, [⟨(some 32), .loadN 18 (.t 8), none⟩]), (⟨(some 35), .call (.k (.c (.fn 18 []))) [(.t 32), (.t 34)], none⟩, []), (⟨(some 31), .mov (.t 35), none⟩, []), (⟨(some 36), .ext (.t 31) 0, none⟩, []), (⟨(some 37), .ext (.t 31) 1, none⟩, []), (⟨(some 9), .alloc 36 [(.bool false), (.slice none 0 (.exact 0)), (.int .i8 0), (.int .i8 0), (.int .i8 0), (.int .i8 0), (.int .i8 0), (.int .i8 0), (.int .i8 0), (.int .i8 0), (.int .i8 0), (.int .i8 0), (.int .i8 0), (.int .i8 0), (.int .i8 0), (.int .i8 0), (.int .i8 0), (.int .i8 0)], none⟩, [⟨(some 32), .loadN 18 (.t 8), none⟩, ⟨(some 33), .loadN 4 (.t 3), none⟩]), (⟨none, .store 18 (.t 9) (.t 36), none⟩, []), (⟨(some 10), .mov (.t 37), none⟩, [])])
  (.seq (.seq (.region [⟨(some 38), .loadN 18 (.t 9), none⟩, ⟨(some 39), .loadN 18 (.t 6), none⟩, ⟨(some 40), .call (.k (.c (.fn 16 []))) [(.t 38), (.t 39)], none⟩, ⟨(some 41), .un .not (.t 40), none⟩, ⟨(some 42), .mov (.t 41), none⟩, ⟨(some 43), .mov (.t 10), some (42, false)⟩, ⟨(some 44), .mov (.t 7), some (42, false)⟩, ⟨(some 45), .bin .neq .int (.t 43) (.t 44), some (42, false)⟩, ⟨(some 46), .pick (.t 42) (.k (.c (.bool true))) (.t 45), none⟩])
  (.cond (.t 46) (.seq (.region [⟨(some 4), .mov (.k (.c (.bool false))), none⟩])
  .ret) .skip))
  (.seq (.seq (.drawn [(⟨(some 47), .loadN 18 (.t 8), none⟩, []), (⟨(some 48), .loadN 18 (.t 2), none⟩, []), (⟨(some 49), .call (.k (.c (.fn 13 []))) [(.t 48)], none⟩, [⟨(some 47), .loadN 18 (.t 8), none⟩]), (⟨(some 50), .call (.k (.c (.fn 16 []))) [(.t 47), (.t 49)], none⟩, []), (⟨(some 51), .un .not (.t 50), none⟩, [])])
  (.cond (.t 51) (.seq (.region [⟨(some 4), .mov (.k (.c (.bool false))), none⟩])
  .ret) .skip))
  (.seq (.region [⟨(some 11), .mov (.k (.c (.int .i64 1))), none⟩])
  (.seq (.region [⟨(some 52), .loadN 18 (.t 8), none⟩, ⟨(some 53), .mov (.t 11), none⟩, ⟨(some 54), .call (.k (.c (.fn 19 []))) [(.t 52), (.t 53)], none⟩, ⟨(some 11), .mov (.t 54), none⟩])
  (.seq (.seq (.region [⟨(some 55), .mov (.t 11), none⟩, ⟨(some 56), .bin .lss .int (.t 55) (.k (.c (.int .i64 0))), none⟩, ⟨(some 57), .mov (.t 56), none⟩, ⟨(some 58), .loadN 18 (.t 9), some (57, false)⟩, ⟨(some 59), .loadN 18 (.t 6), some (57, false)⟩, ⟨(some 60), .call (.k (.c (.fn 16 []))) [(.t 58), (.t 59)], some (57, false)⟩, ⟨(some 61), .un .not (.t 60), some (57, false)⟩, ⟨(some 62), .pick (.t 57) (.k (.c (.bool true))) (.t 61), none⟩, ⟨(some 63), .mov (.t 62), none⟩, ⟨(some 64), .mov (.t 10), some (63, false)⟩, ⟨(some 65), .mov (.t 7), some (63, false)⟩, ⟨(some 66), .bin .neq .int (.t 64) (.t 65), some (63, false)⟩, ⟨(some 67), .pick (.t 63) (.k (.c (.bool true))) (.t 66), none⟩])
  (.cond (.t 67) (.seq (.region [⟨(some 4), .mov (.k (.c (.bool false))), none⟩])
  .ret) .skip))
  (.seq (.region [⟨(some 12), .mov (.k (.c (.int .i64 1))), none⟩])
  (.seq (.region [⟨(some 68), .loadN 18 (.t 9), none⟩, ⟨(some 69), .mov (.t 12), none⟩, ⟨(some 70), .call (.k (.c (.fn 19 []))) [(.t 68), (.t 69)], none⟩, ⟨(some 12), .mov (.t 70), none⟩])
  (.seq (.region [⟨(some 13), .mov (.k (.c (.int .i64 1))), none⟩])
  (.seq (.region [⟨(some 71), .loadN 18 (.t 9), none⟩, ⟨(some 72), .mov (.t 13), none⟩, ⟨(some 73), .call (.k (.c (.fn 20 []))) [(.t 71), (.t 72)], none⟩, ⟨(some 13), .mov (.t 73), none⟩])
  (.seq (.seq (.region [⟨(some 74), .mov (.t 13), none⟩, ⟨(some 75), .bin .lss .int (.t 74) (.k (.c (.int .i64 0))), none⟩])
  (.cond (.t 75) (.seq (.region [⟨(some 4), .mov (.k (.c (.bool false))), none⟩])
  .ret) .skip))
  (.seq (.seq (.region [⟨(some 76), .mov (.t 13), none⟩, ⟨(some 77), .mov (.t 12), none⟩, ⟨(some 78), .bin .neq .int (.t 76) (.t 77), none⟩])
  (.cond (.t 78) (.seq (.region [⟨(some 4), .mov (.k (.c (.bool false))), none⟩])
  .ret) .skip))
  (.seq (.drawn [(⟨(some 80), .loadN 18 (.t 2), none⟩, []), (⟨(some 82), .loadN 4 (.t 3), none⟩, []), (⟨(some 81), .call (.k (.c (.fn 13 []))) [(.t 80)], none⟩, [⟨(some 82), .loadN 4 (.t 3), none⟩]), (⟨(some 83), .call (.k (.c (.fn 14 []))) [(.t 82)], none⟩, []), (⟨(some 84), .call (.k (.c (.fn 18 []))) [(.t 81), (.t 83)], none⟩, []), (⟨(some 79), .mov (.t 84), none⟩, []), (⟨(some 85), .ext (.t 79) 0, none⟩, []), (⟨(some 86), .ext (.t 79) 1, none⟩, []), (⟨(some 14), .alloc 36 [(.bool false), (.slice none 0 (.exact 0)), (.int .i8 0), (.int .i8 0), (.int .i8 0), (.int .i8 0), (.int .i8 0), (.int .i8 0), (.int .i8 0), (.int .i8 0), (.int .i8 0), (.int .i8 0), (.int .i8 0), (.int .i8 0), (.int .i8 0), (.int .i8 0), (.int .i8 0), (.int .i8 0)], none⟩, [⟨(some 80), .loadN 18 (.t 2), none⟩, ⟨(some 82), .loadN 4 (.t 3), none⟩]), (⟨none, .store 18 (.t 14) (.t 85), none⟩, []), (⟨(some 15), .mov (.t 86), none⟩, [])])
  (.seq (.seq (.region [⟨(some 87), .loadN 18 (.t 14), none⟩, ⟨(some 88), .loadN 18 (.t 6), none⟩, ⟨(some 89), .call (.k (.c (.fn 16 []))) [(.t 87), (.t 88)], none⟩, ⟨(some 90), .un .not (.t 89), none⟩, ⟨(some 91), .mov (.t 90), none⟩, ⟨(some 92), .mov (.t 15), some (91, false)⟩, ⟨(some 93), .mov (.t 7), some (91, false)⟩, ⟨(some 94), .bin .neq .int (.t 92) (.t 93), some (91, false)⟩, ⟨(some 95), .pick (.t 91) (.k (.c (.bool true))) (.t 94), none⟩])
  (.cond (.t 95) (.seq (.region [⟨(some 4), .mov (.k (.c (.bool false))), none⟩])
  .ret) .skip))
  (.seq (.region [⟨(some 13), .mov (.k (.c (.int .i64 1))), none⟩])
  (.seq (.region [⟨(some 96), .loadN 18 (.t 9), none⟩, ⟨(some 97), .mov (.t 13), none⟩, ⟨(some 98), .call (.k (.c (.fn 20 []))) [(.t 96), (.t 97)], none⟩, ⟨(some 13), .mov (.t 98), none⟩])
  (.seq (.seq (.region [⟨(some 99), .mov (.t 13), none⟩, ⟨(some 100), .bin .lss .int (.t 99) (.k (.c (.int .i64 0))), none⟩])
  (.cond (.t 100) (.seq (.region [⟨(some 4), .mov (.k (.c (.bool false))), none⟩])
  .ret) .skip))
  (.seq (.seq (.region [⟨(some 101), .mov (.t 13), none⟩, ⟨(some 102), .mov (.t 12), none⟩, ⟨(some 103), .bin .neq .int (.t 101) (.t 102), none⟩])
  (.cond (.t 103) (.seq (.region [⟨(some 4), .mov (.k (.c (.bool false))), none⟩])
  .ret) .skip))
  (.seq (.region [⟨(some 4), .mov (.k (.c (.bool true))), none⟩])
  .ret))))))))))))))))))))))))), [.tmp 4], true⟩
theorem c4 : kk 4 = some k4 := by kernel_rfl
/-- loop.example/g01263/laws.FnLies -/
def k5 : KF := ⟨298, (.seq (.region [⟨(some 4), .mov (.k (.c (.bool false))), none⟩])
  (.seq (.seq (.region [⟨(some 40), .mov (.t 0), none⟩, ⟨(some 41), .call (.k (.c (.fn 21 []))) [(.t 40)], none⟩, ⟨(some 42), .mov (.t 41), none⟩, ⟨(some 43), .mov (.t 1), some (42, false)⟩, ⟨(some 44), .call (.k (.c (.fn 21 []))) [(.t 43)], some (42, false)⟩, ⟨(some 45), .pick (.t 42) (.k (.c (.bool true))) (.t 44), none⟩])
  (.cond (.t 45) (.seq (.region [⟨(some 4), .mov (.k (.c (.bool true))), none⟩])
  .ret) .skip))
  (.seq (.region [⟨(some 46), .mov (.t 0), none⟩, ⟨(some 47), .call (.k (.c (.fn 22 []))) [(.t 46)], none⟩, ⟨(some 5), .alloc 36 [(.bool false), (.slice none 0 (.exact 0)), (.int .i8 0), (.int .i8 0), (.int .i8 0), (.int .i8 0), (.int .i8 0), (.int .i8 0), (.int .i8 0), (.int .i8 0), (.int .i8 0), (.int .i8 0), (.int .i8 0), (.int .i8 0), (.int .i8 0), (.int .i8 0), (.int .i8 0), (.int .i8 0)], none⟩, ⟨none, .store 18 (.t 5) (.t 47), none⟩])
  (.seq (.region [⟨(some 48), .fldA 0 (.t 5), none⟩, ⟨none, .store 1 (.t 48) (.k (.c (.bool true))), none⟩])
  (.seq (.region [⟨(some 49), .loadN 18 (.t 5), none⟩, ⟨(some 6), .alloc 36 [(.bool false), (.slice none 0 (.exact 0)), (.int .i8 0), (.int .i8 0), (.int .i8 0), (.int .i8 0), (.int .i8 0), (.int .i8 0), (.int .i8 0), (.int .i8 0), (.int .i8 0), (.int .i8 0), (.int .i8 0), (.int .i8 0), (.int .i8 0), (.int .i8 0), (.int .i8 0), (.int .i8 0)], none⟩, ⟨none, .store 18 (.t 6) (.t 49), none⟩])
  (.seq (.region [⟨(some 50), .fldA 0 (.t 6), none⟩, ⟨none, .store 1 (.t 50) (.k (.c (.bool false))), none⟩])
  (.seq (.region [⟨(some 52), .fldA 2 (.t 5), none⟩, ⟨(some 53), .loadN 16 (.t 52), none⟩, ⟨(some 54), .call (.k (.c (.fn 23 []))) [(.t 53)], none⟩, ⟨(some 51), .mov (.t 54), none⟩, ⟨(some 55), .ext (.t 51) 0, none⟩, ⟨(some 56), .ext (.t 51) 1, none⟩, ⟨(some 7), .alloc 34 [(.int .i8 0), (.int .i8 0), (.int .i8 0), (.int .i8 0), (.int .i8 0), (.int .i8 0), (.int .i8 0), (.int .i8 0), (.int .i8 0), (.int .i8 0), (.int .i8 0), (.int .i8 0), (.int .i8 0), (.int .i8 0), (.int .i8 0), (.int .i8 0)], none⟩, ⟨none, .store 16 (.t 7) (.t 55), none⟩, ⟨(some 8), .mov (.t 56), none⟩])
  (.seq (.region [⟨(some 57), .loadN 16 (.t 7), none⟩, ⟨(some 58), .fldA 2 (.t 6), none⟩, ⟨none, .store 16 (.t 58) (.t 57), none⟩])
  (.seq (.region [⟨(some 60), .loadN 18 (.t 5), none⟩, ⟨(some 61), .call (.k (.c (.fn 24 []))) [(.t 60)], none⟩, ⟨(some 59), .mov (.t 61), none⟩, ⟨(some 62), .ext (.t 59) 0, none⟩, ⟨(some 63), .ext (.t 59) 1, none⟩, ⟨(some 9), .mov (.t 62), none⟩, ⟨(some 10), .mov (.t 63), none⟩])
  (.seq (.region [⟨(some 65), .loadN 18 (.t 5), none⟩, ⟨(some 66), .loadN 18 (.t 6), none⟩, ⟨(some 67), .call (.k (.c (.fn 25 []))) [(.t 65), (.t 66)], none⟩, ⟨(some 64), .mov (.t 67), none⟩, ⟨(some 68), .ext (.t 64) 0, none⟩, ⟨(some 69), .ext (.t 64) 1, none⟩, ⟨(some 11), .mov (.t 68), none⟩, ⟨(some 12), .mov (.t 69), none⟩])
  (.seq (.region [⟨(some 71), .loadN 18 (.t 5), none⟩, ⟨(some 72), .loadN 18 (.t 6), none⟩, ⟨(some 73), .call (.k (.c (.fn 26 []))) [(.t 71), (.t 72)], none⟩, ⟨(some 70), .mov (.t 73), none⟩, ⟨(some 74), .ext (.t 70) 0, none⟩, ⟨(some 75), .ext (.t 70) 1, none⟩, ⟨(some 13), .mov (.t 74), none⟩, ⟨(some 14), .mov (.t 75), none⟩])
  (.seq (.region [⟨(some 77), .loadN 18 (.t 5), none⟩, ⟨(some 78), .loadN 18 (.t 6), none⟩, ⟨(some 79), .call (.k (.c (.fn 27 []))) [(.t 77), (.t 78), (.k (.c (.int .i64 0)))], none⟩, ⟨(some 76), .mov (.t 79), none⟩, ⟨(some 80), .ext (.t 76) 0, none⟩, ⟨(some 81), .ext (.t 76) 1, none⟩, ⟨(some 15), .alloc 54 [(.bool false), (.int .i8 0), (.int .i64 0), (.int .i64 0), (.slice none 0 (.exact 0))], none⟩, ⟨none, .store 5 (.t 15) (.t 80), none⟩, ⟨(some 16), .mov (.t 81), none⟩])
  (.seq (.seq (.region [⟨(some 82), .mov (.t 8), none⟩, ⟨(some 83), .bin .neq .int (.t 82) (.k (.c (.int .i64 0))), none⟩, ⟨(some 84), .mov (.t 83), none⟩, ⟨(some 85), .mov (.t 10), some (84, false)⟩, ⟨(some 86), .bin .neq .int (.t 85) (.k (.c (.int .i64 0))), some (84, false)⟩, ⟨(some 87), .pick (.t 84) (.k (.c (.bool true))) (.t 86), none⟩, ⟨(some 88), .mov (.t 87), none⟩, ⟨(some 89), .mov (.t 12), some (88, false)⟩, ⟨(some 90), .bin .neq .int (.t 89) (.k (.c (.int .i64 0))), some (88, false)⟩, ⟨(some 91), .pick (.t 88) (.k (.c (.bool true))) (.t 90), none⟩, ⟨(some 92), .mov (.t 91), none⟩, ⟨(some 93), .mov (.t 11), some (92, false)⟩, ⟨(some 94), .bin .neq .int (.t 93) (.k (.c (.int .i64 0))), some (92, false)⟩, ⟨(some 95), .pick (.t 92) (.k (.c (.bool true))) (.t 94), none⟩, ⟨(some 96), .mov (.t 95), none⟩, ⟨(some 97), .mov (.t 14), some (96, false)⟩, ⟨(some 98), .bin .neq .int (.t 97) (.k (.c (.int .i64 0))), some (96, false)⟩, ⟨(some 99), .pick (.t 96) (.k (.c (.bool true))) (.t 98), none⟩, ⟨(some 100), .mov (.t 99), none⟩, ⟨(some 101), .mov (.t 13), some (100, false)⟩, ⟨(some 102), .mov (.t 9), some (100, false)⟩, ⟨(some 103), .bin .neq .int (.t 101) (.t 102), some (100, false)⟩, ⟨(some 104), .pick (.t 100) (.k (.c (.bool true))) (.t 103), none⟩, ⟨(some 105), .mov (.t 104), none⟩, ⟨(some 106), .mov (.t 16), some (105, false)⟩, ⟨(some 107), .bin .neq .int (.t 106) (.k (.c (.int .i64 0))), some (105, false)⟩, ⟨(some 108), .pick (.t 105) (.k (.c (.bool true))) (.t 107), none⟩, ⟨(some 109), .mov (.t 108), none⟩, ⟨(some 110), .fldA 0 (.t 15), some (109, false)⟩, ⟨(some 111), .load1 (.t 110), some (109, false)⟩, ⟨(some 112), .un .not (.t 111), some (109, false)⟩, ⟨(some 113), .pick (.t 109) (.k (.c (.bool true))) (.t 112), none⟩, ⟨(some 114), .mov (.t 113), none⟩, ⟨(some 115), .fldA 1 (.t 15), some (114, false)⟩, ⟨(some 116), .load1 (.t 115), some (114, false)⟩, ⟨(some 117), .bin .neq .int (.t 116) (.k (.c (.int .i8 0))), some (114, false)⟩, ⟨(some 118), .pick (.t 114) (.k (.c (.bool true))) (.t 117), none⟩, ⟨(some 119), .mov (.t 118), none⟩, ⟨(some 120), .fldA 2 (.t 15), some (119, false)⟩, ⟨(some 121), .load1 (.t 120), some (119, false)⟩, ⟨(some 122), .mov (.t 9), some (119, false)⟩, ⟨(some 123), .bin .neq .int (.t 121) (.t 122), some (119, false)⟩, ⟨(some 124), .pick (.t 119) (.k (.c (.bool true))) (.t 123), none⟩, ⟨(some 125), .mov (.t 124), none⟩, ⟨(some 126), .fldA 3 (.t 15), some (125, false)⟩, ⟨(some 127), .load1 (.t 126), some (125, false)⟩, ⟨(some 128), .mov (.t 9), some (125, false)⟩, ⟨(some 129), .bin .neq .int (.t 127) (.t 128), some (125, false)⟩, ⟨(some 130), .pick (.t 125) (.k (.c (.bool true))) (.t 129), none⟩, ⟨(some 131), .mov (.t 130), none⟩, ⟨(some 132), .fldA 4 (.t 15), some (131, false)⟩, ⟨(some 133), .load1 (.t 132), some (131, false)⟩, ⟨(some 134), .len false (.t 133), some (131, false)⟩, ⟨(some 135), .bin .neq .int (.t 134) (.k (.c (.int .i64 0))), some (131, false)⟩, ⟨(some 136), .pick (.t 131) (.k (.c (.bool true))) (.t 135), none⟩])
  (.cond (.t 136) (.seq (.region [⟨(some 4), .mov (.k (.c (.bool false))), none⟩])
  .ret) .skip))
  (.seq (.region [⟨(some 138), .mov (.t 1), none⟩, ⟨(some 139), .loadN 18 (.t 5), none⟩, ⟨(some 140), .call (.k (.c (.fn 28 []))) [(.t 138), (.t 139)], none⟩, ⟨(some 137), .mov (.t 140), none⟩, ⟨(some 141), .ext (.t 137) 0, none⟩, ⟨(some 142), .ext (.t 137) 1, none⟩, ⟨(some 17), .alloc 38 [(.int .i8 0), (.int .i8 0), (.int .i16 0), (.int .i16 0)], none⟩, ⟨none, .store 4 (.t 17) (.t 141), none⟩, ⟨(some 18), .mov (.t 142), none⟩])
  (.seq (.seq (.region [⟨(some 143), .mov (.t 18), none⟩, ⟨(some 144), .un .not (.t 143), none⟩])
  (.cond (.t 144) (.seq (.region [⟨(some 4), .mov (.k (.c (.bool true))), none⟩])
  .ret) .skip))
  (.seq (.region [⟨(some 146), .loadN 18 (.t 5), none⟩, ⟨(some 147), .loadN 4 (.t 17), none⟩, ⟨(some 148), .call (.k (.c (.fn 17 []))) [(.t 146), (.t 147)], none⟩, ⟨(some 145), .mov (.t 148), none⟩, ⟨(some 149), .ext (.t 145) 0, none⟩, ⟨(some 150), .ext (.t 145) 1, none⟩, ⟨(some 19), .alloc 36 [(.bool false), (.slice none 0 (.exact 0)), (.int .i8 0), (.int .i8 0), (.int .i8 0), (.int .i8 0), (.int .i8 0), (.int .i8 0), (.int .i8 0), (.int .i8 0), (.int .i8 0), (.int .i8 0), (.int .i8 0), (.int .i8 0), (.int .i8 0), (.int .i8 0), (.int .i8 0), (.int .i8 0)], none⟩, ⟨none, .store 18 (.t 19) (.t 149), none⟩, ⟨(some 20), .mov (.t 150), none⟩])
  (.seq (.region [⟨(some 152), .loadN 18 (.t 6), none⟩, ⟨(some 153), .loadN 4 (.t 17), none⟩, ⟨(some 154), .call (.k (.c (.fn 17 []))) [(.t 152), (.t 153)], none⟩, ⟨(some 151), .mov (.t 154), none⟩, ⟨(some 155), .ext (.t 151) 0, none⟩, ⟨(some 156), .ext (.t 151) 1, none⟩, ⟨(some 21), .alloc 36 [(.bool false), (.slice none 0 (.exact 0)), (.int .i8 0), (.int .i8 0), (.int .i8 0), (.int .i8 0), (.int .i8 0), (.int .i8 0), (.int .i8 0), (.int .i8 0), (.int .i8 0), (.int .i8 0), (.int .i8 0), (.int .i8 0), (.int .i8 0), (.int .i8 0), (.int .i8 0), (.int .i8 0)], none⟩, ⟨none, .store 18 (.t 21) (.t 155), none⟩, ⟨(some 22), .mov (.t 156), none⟩])
  (.seq (.region [⟨(some 158), .loadN 18 (.t 19), none⟩, ⟨(some 159), .loadN 18 (.t 6), none⟩, ⟨(some 160), .call (.k (.c (.fn 25 []))) [(.t 158), (.t 159)], none⟩, ⟨(some 157), .mov (.t 160), none⟩, ⟨(some 161), .ext (.t 157) 0, none⟩, ⟨(some 162), .ext (.t 157) 1, none⟩, ⟨(some 23), .mov (.t 161), none⟩, ⟨(some 24), .mov (.t 162), none⟩])
  (.seq (.region [⟨(some 164), .loadN 18 (.t 5), none⟩, ⟨(some 165), .loadN 18 (.t 21), none⟩, ⟨(some 166), .call (.k (.c (.fn 25 []))) [(.t 164), (.t 165)], none⟩, ⟨(some 163), .mov (.t 166), none⟩, ⟨(some 167), .ext (.t 163) 0, none⟩, ⟨(some 168), .ext (.t 163) 1, none⟩, ⟨(some 25), .mov (.t 167), none⟩, ⟨(some 26), .mov (.t 168), none⟩])
  (.seq (.region [⟨(some 170), .loadN 18 (.t 19), none⟩, ⟨(some 171), .loadN 18 (.t 6), none⟩, ⟨(some 172), .call (.k (.c (.fn 26 []))) [(.t 170), (.t 171)], none⟩, ⟨(some 169), .mov (.t 172), none⟩, ⟨(some 173), .ext (.t 169) 0, none⟩, ⟨(some 174), .ext (.t 169) 1, none⟩, ⟨(some 27), .mov (.t 173), none⟩, ⟨(some 28), .mov (.t 174), none⟩])
  (.seq (.region [⟨(some 176), .loadN 18 (.t 5), none⟩, ⟨(some 177), .loadN 18 (.t 21), none⟩, ⟨(some 178), .call (.k (.c (.fn 26 []))) [(.t 176), (.t 177)], none⟩, ⟨(some 175), .mov (.t 178), none⟩, ⟨(some 179), .ext (.t 175) 0, none⟩, ⟨(some 180), .ext (.t 175) 1, none⟩, ⟨(some 29), .mov (.t 179), none⟩, ⟨(some 30), .mov (.t 180), none⟩])
  (.seq (.seq (.region [⟨(some 181), .mov (.t 20), none⟩, ⟨(some 182), .bin .neq .int (.t 181) (.k (.c (.int .i64 0))), none⟩, ⟨(some 183), .mov (.t 182), none⟩, ⟨(some 184), .mov (.t 22), some (183, false)⟩, ⟨(some 185), .bin .neq .int (.t 184) (.k (.c (.int .i64 0))), some (183, false)⟩, ⟨(some 186), .pick (.t 183) (.k (.c (.bool true))) (.t 185), none⟩, ⟨(some 187), .mov (.t 186), none⟩, ⟨(some 188), .mov (.t 24), some (187, false)⟩, ⟨(some 189), .bin .neq .int (.t 188) (.k (.c (.int .i64 0))), some (187, false)⟩, ⟨(some 190), .pick (.t 187) (.k (.c (.bool true))) (.t 189), none⟩, ⟨(some 191), .mov (.t 190), none⟩, ⟨(some 192), .mov (.t 23), some (191, false)⟩, ⟨(some 193), .bin .neq .int (.t 192) (.k (.c (.int .i64 1))), some (191, false)⟩, ⟨(some 194), .pick (.t 191) (.k (.c (.bool true))) (.t 193), none⟩, ⟨(some 195), .mov (.t 194), none⟩, ⟨(some 196), .mov (.t 26), some (195, false)⟩, ⟨(some 197), .bin .neq .int (.t 196) (.k (.c (.int .i64 0))), some (195, false)⟩, ⟨(some 198), .pick (.t 195) (.k (.c (.bool true))) (.t 197), none⟩, ⟨(some 199), .mov (.t 198), none⟩, ⟨(some 200), .mov (.t 25), some (199, false)⟩, ⟨(some 201), .bin .neq .int (.t 200) (.k (.c (.int .i64 2))), some (199, false)⟩, ⟨(some 202), .pick (.t 199) (.k (.c (.bool true))) (.t 201), none⟩, ⟨(some 203), .mov (.t 202), none⟩, ⟨(some 204), .mov (.t 28), some (203, false)⟩, ⟨(some 205), .bin .neq .int (.t 204) (.k (.c (.int .i64 0))), some (203, false)⟩, ⟨(some 206), .pick (.t 203) (.k (.c (.bool true))) (.t 205), none⟩, ⟨(some 207), .mov (.t 206), none⟩, ⟨(some 208), .mov (.t 27), some (207, false)⟩, ⟨(some 209), .mov (.t 9), some (207, false)⟩, ⟨(some 210), .bin .neq .int (.t 208) (.t 209), some (207, false)⟩, ⟨(some 211), .pick (.t 207) (.k (.c (.bool true))) (.t 210), none⟩, ⟨(some 212), .mov (.t 211), none⟩, ⟨(some 213), .mov (.t 30), some (212, false)⟩, ⟨(some 214), .bin .neq .int (.t 213) (.k (.c (.int .i64 0))), some (212, false)⟩, ⟨(some 215), .pick (.t 212) (.k (.c (.bool true))) (.t 214), none⟩, ⟨(some 216), .mov (.t 215), none⟩, ⟨(some 217), .mov (.t 29), some (216, false)⟩, ⟨(some 218), .mov (.t 9), some (216, false)⟩, ⟨(some 219), .bin .neq .int (.t 217) (.t 218), some (216, false)⟩, ⟨(some 220), .pick (.t 216) (.k (.c (.bool true))) (.t 219), none⟩])
  (.cond (.t 220) (.seq (.region [⟨(some 4), .mov (.k (.c (.bool false))), none⟩])
  .ret) .skip))
  (.seq (.region [⟨(some 222), .loadN 18 (.t 19), none⟩, ⟨(some 223), .loadN 18 (.t 6), none⟩, ⟨(some 224), .call (.k (.c (.fn 27 []))) [(.t 222), (.t 223), (.k (.c (.int .i64 16)))], none⟩, ⟨(some 221), .mov (.t 224), none⟩, ⟨(some 225), .ext (.t 221) 0, none⟩, ⟨(some 226), .ext (.t 221) 1, none⟩, ⟨(some 31), .alloc 54 [(.bool false), (.int .i8 0), (.int .i64 0), (.int .i64 0), (.slice none 0 (.exact 0))], none⟩, ⟨none, .store 5 (.t 31) (.t 225), none⟩, ⟨(some 32), .mov (.t 226), none⟩])
  (.seq (.region [⟨(some 228), .loadN 18 (.t 19), none⟩, ⟨(some 229), .loadN 18 (.t 6), none⟩, ⟨(some 230), .call (.k (.c (.fn 29 []))) [(.t 228), (.t 229), (.k (.c (.int .i64 16)))], none⟩, ⟨(some 227), .mov (.t 230), none⟩, ⟨(some 231), .ext (.t 227) 0, none⟩, ⟨(some 232), .ext (.t 227) 1, none⟩, ⟨(some 33), .alloc 54 [(.bool false), (.int .i8 0), (.int .i64 0), (.int .i64 0), (.slice none 0 (.exact 0))], none⟩, ⟨none, .store 5 (.t 33) (.t 231), none⟩, ⟨(some 34), .mov (.t 232), none⟩])
  (.seq (.seq (.region [⟨(some 233), .mov (.t 32), none⟩, ⟨(some 234), .mov (.t 34), none⟩, ⟨(some 235), .bin .neq .int (.t 233) (.t 234), none⟩, ⟨(some 236), .mov (.t 235), none⟩, ⟨(some 237), .mov (.t 32), some (236, false)⟩, ⟨(some 238), .bin .neq .int (.t 237) (.k (.c (.int .i64 0))), some (236, false)⟩, ⟨(some 239), .pick (.t 236) (.k (.c (.bool true))) (.t 238), none⟩, ⟨(some 240), .mov (.t 239), none⟩, ⟨(some 241), .loadN 5 (.t 31), some (240, false)⟩, ⟨(some 242), .loadN 5 (.t 33), some (240, false)⟩, ⟨(some 243), .call (.k (.c (.fn 30 []))) [(.t 241), (.t 242)], some (240, false)⟩, ⟨(some 244), .un .not (.t 243), some (240, false)⟩, ⟨(some 245), .pick (.t 240) (.k (.c (.bool true))) (.t 244), none⟩, ⟨(some 246), .mov (.t 245), none⟩, ⟨(some 247), .loadN 5 (.t 31), some (246, false)⟩, ⟨(some 248), .loadN 5 (.t 33), some (246, false)⟩, ⟨(some 249), .call (.k (.c (.fn 31 []))) [(.t 247), (.t 248)], some (246, false)⟩, ⟨(some 250), .un .not (.t 249), some (246, false)⟩, ⟨(some 251), .pick (.t 246) (.k (.c (.bool true))) (.t 250), none⟩, ⟨(some 252), .mov (.t 251), none⟩, ⟨(some 253), .fldA 0 (.t 33), some (252, false)⟩, ⟨(some 254), .load1 (.t 253), some (252, false)⟩, ⟨(some 255), .pick (.t 252) (.k (.c (.bool true))) (.t 254), none⟩, ⟨(some 256), .mov (.t 255), none⟩, ⟨(some 257), .fldA 2 (.t 33), some (256, false)⟩, ⟨(some 258), .load1 (.t 257), some (256, false)⟩, ⟨(some 259), .fldA 3 (.t 33), some (256, false)⟩, ⟨(some 260), .load1 (.t 259), some (256, false)⟩, ⟨(some 261), .bin .leq .int (.t 258) (.t 260), some (256, false)⟩, ⟨(some 262), .pick (.t 256) (.k (.c (.bool true))) (.t 261), none⟩])
  (.cond (.t 262) (.seq (.region [⟨(some 4), .mov (.k (.c (.bool false))), none⟩])
  .ret) .skip))
  (.seq (.region [⟨(some 264), .loadN 18 (.t 5), none⟩, ⟨(some 265), .loadN 18 (.t 21), none⟩, ⟨(some 266), .loadN 18 (.t 6), none⟩, ⟨(some 267), .buildSl 36 2 [(.bool false), (.slice none 0 (.exact 0)), (.int .i8 0), (.int .i8 0), (.int .i8 0), (.int .i8 0), (.int .i8 0), (.int .i8 0), (.int .i8 0), (.int .i8 0), (.int .i8 0), (.int .i8 0), (.int .i8 0), (.int .i8 0), (.int .i8 0), (.int .i8 0), (.int .i8 0), (.int .i8 0), (.bool false), (.slice none 0 (.exact 0)), (.int .i8 0), (.int .i8 0), (.int .i8 0), (.int .i8 0), (.int .i8 0), (.int .i8 0), (.int .i8 0), (.int .i8 0), (.int .i8 0), (.int .i8 0), (.int .i8 0), (.int .i8 0), (.int .i8 0), (.int .i8 0), (.int .i8 0), (.int .i8 0)] [(0, 18, (.t 265)), (18, 18, (.t 266))], none⟩, ⟨(some 268), .call (.k (.c (.fn 32 []))) [(.t 264), (.t 267), (.k (.c (.int .i64 0)))], none⟩, ⟨(some 263), .mov (.t 268), none⟩, ⟨(some 269), .ext (.t 263) 0, none⟩, ⟨(some 270), .ext (.t 263) 1, none⟩, ⟨(some 35), .mov (.t 269), none⟩, ⟨(some 36), .mov (.t 270), none⟩])
  (.seq (.region [⟨(some 272), .loadN 18 (.t 5), none⟩, ⟨(some 273), .loadN 18 (.t 21), none⟩, ⟨(some 274), .loadN 18 (.t 6), none⟩, ⟨(some 275), .buildSl 36 2 [(.bool false), (.slice none 0 (.exact 0)), (.int .i8 0), (.int .i8 0), (.int .i8 0), (.int .i8 0), (.int .i8 0), (.int .i8 0), (.int .i8 0), (.int .i8 0), (.int .i8 0), (.int .i8 0), (.int .i8 0), (.int .i8 0), (.int .i8 0), (.int .i8 0), (.int .i8 0), (.int .i8 0), (.bool false), (.slice none 0 (.exact 0)), (.int .i8 0), (.int .i8 0), (.int .i8 0), (.int .i8 0), (.int .i8 0), (.int .i8 0), (.int .i8 0), (.int .i8 0), (.int .i8 0), (.int .i8 0), (.int .i8 0), (.int .i8 0), (.int .i8 0), (.int .i8 0), (.int .i8 0), (.int .i8 0)] [(0, 18, (.t 273)), (18, 18, (.t 274))], none⟩, ⟨(some 276), .call (.k (.c (.fn 33 []))) [(.t 272), (.t 275)], none⟩, ⟨(some 271), .mov (.t 276), none⟩, ⟨(some 277), .ext (.t 271) 0, none⟩, ⟨(some 278), .ext (.t 271) 1, none⟩, ⟨(some 279), .ext (.t 271) 2, none⟩, ⟨(some 37), .mov (.t 277), none⟩, ⟨(some 38), .mov (.t 278), none⟩, ⟨(some 39), .mov (.t 279), none⟩])
  (.seq (.region [⟨(some 280), .mov (.t 36), none⟩, ⟨(some 281), .bin .eql .int (.t 280) (.k (.c (.int .i64 0))), none⟩, ⟨(some 282), .mov (.t 281), none⟩, ⟨(some 283), .mov (.t 35), some (282, true)⟩, ⟨(some 284), .bin .eql .int (.t 283) (.k (.c (.int .i64 1))), some (282, true)⟩, ⟨(some 285), .pick (.t 282) (.t 284) (.k (.c (.bool false))), none⟩, ⟨(some 286), .mov (.t 285), none⟩, ⟨(some 287), .mov (.t 39), some (286, true)⟩, ⟨(some 288), .bin .eql .int (.t 287) (.k (.c (.int .i64 0))), some (286, true)⟩, ⟨(some 289), .pick (.t 286) (.t 288) (.k (.c (.bool false))), none⟩, ⟨(some 290), .mov (.t 289), none⟩, ⟨(some 291), .mov (.t 37), some (290, true)⟩, ⟨(some 292), .bin .eql .int (.t 291) (.k (.c (.int .i64 1))), some (290, true)⟩, ⟨(some 293), .pick (.t 290) (.t 292) (.k (.c (.bool false))), none⟩, ⟨(some 294), .mov (.t 293), none⟩, ⟨(some 295), .mov (.t 38), some (294, true)⟩, ⟨(some 296), .bin .eql .int (.t 295) (.k (.c (.int .i64 0))), some (294, true)⟩, ⟨(some 297), .pick (.t 294) (.t 296) (.k (.c (.bool false))), none⟩, ⟨(some 4), .mov (.t 297), none⟩])
  .ret)))))))))))))))))))))))))))), [.tmp 4], true⟩
theorem c5 : kk 5 = some k5 := by kernel_rfl
/-- loop.example/g01263/spec.TamperHalf -/
def k17 : KF := ⟨13, (.seq (.region [⟨(some 2), .box 36 (.t 0), none⟩, ⟨(some 3), .box 38 (.t 1), none⟩, ⟨(some 4), .alloc 36 [(.bool false), (.slice none 0 (.exact 0)), (.int .i8 0), (.int .i8 0), (.int .i8 0), (.int .i8 0), (.int .i8 0), (.int .i8 0), (.int .i8 0), (.int .i8 0), (.int .i8 0), (.int .i8 0), (.int .i8 0), (.int .i8 0), (.int .i8 0), (.int .i8 0), (.int .i8 0), (.int .i8 0)], none⟩, ⟨(some 5), .mov (.k (.c (.int .i64 0))), none⟩])
  (.seq (.seq (.region [⟨(some 6), .call (.k (.c (.fn 57 []))) [(.t 2)], none⟩, ⟨(some 7), .un .not (.t 6), none⟩])
  (.cond (.t 7) (.seq (.region [⟨(some 8), .build [(.bool false), (.slice none 0 (.exact 0)), (.int .i8 0), (.int .i8 0), (.int .i8 0), (.int .i8 0), (.int .i8 0), (.int .i8 0), (.int .i8 0), (.int .i8 0), (.int .i8 0), (.int .i8 0), (.int .i8 0), (.int .i8 0), (.int .i8 0), (.int .i8 0), (.int .i8 0), (.int .i8 0)] [], none⟩, ⟨none, .store 18 (.t 4) (.t 8), none⟩, ⟨(some 5), .mov (.k (.c (.int .i64 1))), none⟩])
  .ret) .skip))
  (.seq (.region [⟨(some 9), .loadN 4 (.t 3), none⟩, ⟨(some 10), .call (.k (.c (.fn 58 []))) [(.t 2), (.t 9)], none⟩, ⟨(some 11), .ext (.t 10) 0, none⟩, ⟨(some 12), .ext (.t 10) 1, none⟩, ⟨none, .store 18 (.t 4) (.t 11), none⟩, ⟨(some 5), .mov (.t 12), none⟩])
  .ret))), [.cellN 4 18, .tmp 5], false⟩
theorem c17 : kk 17 = some k17 := by kernel_rfl
/-- loop.example/g01263/laws.f6big -/
def k21 : KF := ⟨6, (.seq (.region [⟨(some 2), .mov (.k (.c (.bool false))), none⟩])
  (.seq (.region [⟨(some 3), .mov (.t 0), none⟩, ⟨(some 4), .len false (.t 3), none⟩, ⟨(some 5), .bin .gtr .int (.t 4) (.k (.c (.int .i64 4096))), none⟩, ⟨(some 2), .mov (.t 5), none⟩])
  .ret)), [.tmp 2], true⟩
theorem c21 : kk 21 = some k21 := by kernel_rfl
/-- loop.example/g01263/spec.P6Half -/
def k22 : KF := ⟨6, (.seq (.region [⟨(some 2), .alloc 36 [(.bool false), (.slice none 0 (.exact 0)), (.int .i8 0), (.int .i8 0), (.int .i8 0), (.int .i8 0), (.int .i8 0), (.int .i8 0), (.int .i8 0), (.int .i8 0), (.int .i8 0), (.int .i8 0), (.int .i8 0), (.int .i8 0), (.int .i8 0), (.int .i8 0), (.int .i8 0), (.int .i8 0)], none⟩])
  (.seq (.region [⟨(some 3), .mov (.t 0), none⟩, ⟨(some 4), .call (.k (.c (.fn 64 []))) [(.t 3)], none⟩, ⟨(some 5), .call (.k (.c (.fn 63 []))) [(.t 4)], none⟩, ⟨none, .store 18 (.t 2) (.t 5), none⟩])
  .ret)), [.cellN 2 18], false⟩
theorem c22 : kk 22 = some k22 := by kernel_rfl
/-- loop.example/g01263/spec.OppositeGrain -/
def k23 : KF := ⟨10, (.seq (.region [⟨(some 1), .box 34 (.t 0), none⟩, ⟨(some 2), .alloc 34 [(.int .i8 0), (.int .i8 0), (.int .i8 0), (.int .i8 0), (.int .i8 0), (.int .i8 0), (.int .i8 0), (.int .i8 0), (.int .i8 0), (.int .i8 0), (.int .i8 0), (.int .i8 0), (.int .i8 0), (.int .i8 0), (.int .i8 0), (.int .i8 0)], none⟩, ⟨(some 3), .mov (.k (.c (.int .i64 0))), none⟩])
  (.seq (.seq (.region [⟨(some 4), .loadN 16 (.t 1), none⟩, ⟨(some 5), .call (.k (.c (.fn 65 []))) [(.t 4)], none⟩, ⟨(some 6), .un .not (.t 5), none⟩])
  (.cond (.t 6) (.seq (.region [⟨(some 7), .build [(.int .i8 0), (.int .i8 0), (.int .i8 0), (.int .i8 0), (.int .i8 0), (.int .i8 0), (.int .i8 0), (.int .i8 0), (.int .i8 0), (.int .i8 0), (.int .i8 0), (.int .i8 0), (.int .i8 0), (.int .i8 0), (.int .i8 0), (.int .i8 0)] [], none⟩, ⟨none, .store 16 (.t 2) (.t 7), none⟩, ⟨(some 3), .mov (.k (.c (.int .i64 1))), none⟩])
  .ret) .skip))
  (.seq (.region [⟨(some 8), .loadN 16 (.t 1), none⟩, ⟨(some 9), .call (.k (.c (.fn 66 []))) [(.t 8)], none⟩, ⟨none, .store 16 (.t 2) (.t 9), none⟩, ⟨(some 3), .mov (.k (.c (.int .i64 0))), none⟩])
  .ret))), [.cellN 2 16, .tmp 3], true⟩
theorem c23 : kk 23 = some k23 := by kernel_rfl
/-- loop.example/g01263/spec.AmountOf -/
def k24 : KF := ⟨9, (.seq (.region [⟨(some 1), .box 36 (.t 0), none⟩, ⟨(some 2), .mov (.k (.c (.int .i64 0))), none⟩, ⟨(some 3), .mov (.k (.c (.int .i64 0))), none⟩])
  (.seq (.seq (.region [⟨(some 4), .call (.k (.c (.fn 57 []))) [(.t 1)], none⟩, ⟨(some 5), .un .not (.t 4), none⟩])
  (.cond (.t 5) (.seq (.region [⟨(some 2), .mov (.k (.c (.int .i64 0))), none⟩, ⟨(some 3), .mov (.k (.c (.int .i64 1))), none⟩])
  .ret) .skip))
  (.seq (.region [⟨(some 6), .fldA 1 (.t 1), none⟩, ⟨(some 7), .load1 (.t 6), none⟩, ⟨(some 8), .call (.k (.c (.fn 51 []))) [(.t 7)], none⟩, ⟨(some 2), .mov (.t 8), none⟩, ⟨(some 3), .mov (.k (.c (.int .i64 0))), none⟩])
  .ret))), [.tmp 2, .tmp 3], true⟩
theorem c24 : kk 24 = some k24 := by kernel_rfl
/-- loop.example/g01263/impl.WhoLies -/
def k25 : KF := ⟨17, (.seq (.region [⟨(some 2), .box 36 (.t 0), none⟩, ⟨(some 3), .box 36 (.t 1), none⟩, ⟨(some 4), .mov (.k (.c (.int .i64 0))), none⟩, ⟨(some 5), .mov (.k (.c (.int .i64 0))), none⟩])
  (.seq (.seq (.region [⟨(some 7), .loadN 18 (.t 2), none⟩, ⟨(some 8), .loadN 18 (.t 3), none⟩, ⟨(some 9), .buildSl 36 1 [(.bool false), (.slice none 0 (.exact 0)), (.int .i8 0), (.int .i8 0), (.int .i8 0), (.int .i8 0), (.int .i8 0), (.int .i8 0), (.int .i8 0), (.int .i8 0), (.int .i8 0), (.int .i8 0), (.int .i8 0), (.int .i8 0), (.int .i8 0), (.int .i8 0), (.int .i8 0), (.int .i8 0)] [(0, 18, (.t 8))], none⟩, ⟨(some 10), .call (.k (.c (.fn 67 []))) [(.t 7), (.t 9)], none⟩, ⟨(some 6), .mov (.t 10), none⟩])
  (.seq (.region [⟨(some 11), .mov (.t 6), none⟩, ⟨(some 12), .bin .neq .int (.t 11) (.k (.c (.int .i64 0))), none⟩])
  (.cond (.t 12) (.seq (.region [⟨(some 13), .mov (.t 6), none⟩, ⟨(some 4), .mov (.k (.c (.int .i64 0))), none⟩, ⟨(some 5), .mov (.t 13), none⟩])
  .ret) .skip)))
  (.seq (.region [⟨(some 14), .loadN 18 (.t 2), none⟩, ⟨(some 15), .loadN 18 (.t 3), none⟩, ⟨(some 16), .call (.k (.c (.fn 68 []))) [(.t 14), (.t 15)], none⟩, ⟨(some 4), .mov (.t 16), none⟩, ⟨(some 5), .mov (.k (.c (.int .i64 0))), none⟩])
  .ret))), [.tmp 4, .tmp 5], true⟩
theorem c25 : kk 25 = some k25 := by kernel_rfl
/-- loop.example/g01263/impl.SureAmount -/
def k26 : KF := ⟨28, (.seq (.region [⟨(some 2), .box 36 (.t 0), none⟩, ⟨(some 3), .box 36 (.t 1), none⟩, ⟨(some 4), .mov (.k (.c (.int .i64 0))), none⟩, ⟨(some 5), .mov (.k (.c (.int .i64 0))), none⟩])
  (.seq (.region [⟨(some 9), .loadN 18 (.t 2), none⟩, ⟨(some 10), .loadN 18 (.t 3), none⟩, ⟨(some 11), .call (.k (.c (.fn 25 []))) [(.t 9), (.t 10)], none⟩, ⟨(some 8), .mov (.t 11), none⟩, ⟨(some 12), .ext (.t 8) 0, none⟩, ⟨(some 13), .ext (.t 8) 1, none⟩, ⟨(some 6), .mov (.t 12), none⟩, ⟨(some 7), .mov (.t 13), none⟩])
  (.seq (.block 0 (.seq (.region [⟨(some 15), .mov (.t 7), none⟩, ⟨(some 16), .bin .neq .int (.t 15) (.k (.c (.int .i64 0))), none⟩, ⟨(some 14), .mov (.t 16), none⟩])
  (.cond (.t 14) (.seq (.region [⟨(some 17), .mov (.t 7), none⟩, ⟨(some 4), .mov (.k (.c (.int .i64 0))), none⟩, ⟨(some 5), .mov (.t 17), none⟩])
  .ret) (.seq (.region [⟨(some 19), .mov (.t 6), none⟩, ⟨(some 20), .bin .eql .int (.t 19) (.k (.c (.int .i64 3))), none⟩, ⟨(some 18), .mov (.t 20), none⟩])
  (.cond (.t 18) (.seq (.region [⟨(some 4), .mov (.k (.c (.int .i64 0))), none⟩, ⟨(some 5), .mov (.k (.c (.int .i64 8))), none⟩])
  .ret) (.seq (.region [⟨(some 22), .mov (.t 6), none⟩, ⟨(some 23), .bin .eql .int (.t 22) (.k (.c (.int .i64 1))), none⟩, ⟨(some 21), .mov (.t 23), none⟩])
  (.cond (.t 21) (.seq (.region [⟨(some 24), .loadN 18 (.t 3), none⟩, ⟨(some 25), .call (.k (.c (.fn 54 []))) [(.t 24)], none⟩, ⟨(some 4), .mov (.t 25), none⟩, ⟨(some 5), .mov (.k (.c (.int .i64 0))), none⟩])
  .ret) .skip)))))))
  (.seq (.region [⟨(some 26), .loadN 18 (.t 2), none⟩, ⟨(some 27), .call (.k (.c (.fn 54 []))) [(.t 26)], none⟩, ⟨(some 4), .mov (.t 27), none⟩, ⟨(some 5), .mov (.k (.c (.int .i64 0))), none⟩])
  .ret)))), [.tmp 4, .tmp 5], true⟩
theorem c26 : kk 26 = some k26 := by kernel_rfl
/-- loop.example/g01263/impl.Inspect -/
def k27 : KF := ⟨39, (.seq (.region [⟨(some 3), .box 36 (.t 0), none⟩, ⟨(some 4), .box 36 (.t 1), none⟩, ⟨(some 6), .alloc 54 [(.bool false), (.int .i8 0), (.int .i64 0), (.int .i64 0), (.slice none 0 (.exact 0))], none⟩, ⟨(some 7), .mov (.k (.c (.int .i64 0))), none⟩])
  (.seq (.seq (.region [⟨(some 9), .loadN 18 (.t 3), none⟩, ⟨(some 10), .loadN 18 (.t 4), none⟩, ⟨(some 11), .buildSl 36 1 [(.bool false), (.slice none 0 (.exact 0)), (.int .i8 0), (.int .i8 0), (.int .i8 0), (.int .i8 0), (.int .i8 0), (.int .i8 0), (.int .i8 0), (.int .i8 0), (.int .i8 0), (.int .i8 0), (.int .i8 0), (.int .i8 0), (.int .i8 0), (.int .i8 0), (.int .i8 0), (.int .i8 0)] [(0, 18, (.t 10))], none⟩, ⟨(some 12), .call (.k (.c (.fn 67 []))) [(.t 9), (.t 11)], none⟩, ⟨(some 8), .mov (.t 12), none⟩])
  (.seq (.region [⟨(some 13), .mov (.t 8), none⟩, ⟨(some 14), .bin .neq .int (.t 13) (.k (.c (.int .i64 0))), none⟩])
  (.cond (.t 14) (.seq (.region [⟨(some 15), .build [(.bool false), (.int .i8 0), (.int .i64 0), (.int .i64 0), (.slice none 0 (.exact 0))] [], none⟩, ⟨(some 16), .mov (.t 8), none⟩, ⟨none, .store 5 (.t 6) (.t 15), none⟩, ⟨(some 7), .mov (.t 16), none⟩])
  .ret) .skip)))
  (.seq (.seq (.region [⟨(some 17), .mov (.t 2), none⟩, ⟨(some 18), .call (.k (.c (.fn 69 []))) [(.t 17)], none⟩, ⟨(some 19), .un .not (.t 18), none⟩])
  (.cond (.t 19) (.seq (.region [⟨(some 20), .build [(.bool false), (.int .i8 0), (.int .i64 0), (.int .i64 0), (.slice none 0 (.exact 0))] [], none⟩, ⟨none, .store 5 (.t 6) (.t 20), none⟩, ⟨(some 7), .mov (.k (.c (.int .i64 2))), none⟩])
  .ret) .skip))
  (.seq (.drawn [(⟨(some 21), .loadN 18 (.t 3), none⟩, []), (⟨(some 22), .loadN 18 (.t 4), none⟩, []), (⟨(some 23), .mov (.t 2), none⟩, []), (⟨(some 25), .loadN 18 (.t 3), none⟩, []), (⟨(some 26), .loadN 18 (.t 4), none⟩, []), (⟨(some 29), .loadN 18 (.t 3), none⟩, []), (⟨(some 31), .loadN 18 (.t 4), none⟩, []), (⟨(some 33), .fldA 2 (.t 3), none⟩, []), (⟨(some 34), .loadN 16 (.t 33), none⟩, []), (⟨(some 35), .fldA 2 (.t 4), none⟩, []), (⟨(some 36), .loadN 16 (.t 35), none⟩, []), (⟨(some 24), .call (.k (.c (.fn 70 []))) [(.t 21), (.t 22), (.t 23)], none⟩, [⟨(some 25), .loadN 18 (.t 3), none⟩, ⟨(some 26), .loadN 18 (.t 4), none⟩, ⟨(some 29), .loadN 18 (.t 3), none⟩, ⟨(some 31), .loadN 18 (.t 4), none⟩, ⟨(some 34), .loadN 16 (.t 33), none⟩, ⟨(some 36), .loadN 16 (.t 35), none⟩]), (⟨(some 27), .call (.k (.c (.fn 68 []))) [(.t 25), (.t 26)], none⟩, [⟨(some 29), .loadN 18 (.t 3), none⟩, ⟨(some 31), .loadN 18 (.t 4), none⟩, ⟨(some 34), .loadN 16 (.t 33), none⟩, ⟨(some 36), .loadN 16 (.t 35), none⟩]), (⟨(some 28), .conv .i8 (.t 27), none⟩, []), (⟨(some 30), .call (.k (.c (.fn 54 []))) [(.t 29)], none⟩, [⟨(some 31), .loadN 18 (.t 4), none⟩, ⟨(some 34), .loadN 16 (.t 33), none⟩, ⟨(some 36), .loadN 16 (.t 35), none⟩]), (⟨(some 32), .call (.k (.c (.fn 54 []))) [(.t 31)], none⟩, [⟨(some 34), .loadN 16 (.t 33), none⟩, ⟨(some 36), .loadN 16 (.t 35), none⟩]), (⟨(some 37), .call (.k (.c (.fn 71 []))) [(.t 34), (.t 36)], none⟩, []), (⟨(some 38), .build [(.bool false), (.int .i8 0), (.int .i64 0), (.int .i64 0), (.slice none 0 (.exact 0))] [(0, 1, (.t 24)), (1, 1, (.t 28)), (2, 1, (.t 30)), (3, 1, (.t 32)), (4, 1, (.t 37))], none⟩, []), (⟨none, .store 5 (.t 6) (.t 38), none⟩, []), (⟨(some 7), .mov (.k (.c (.int .i64 0))), none⟩, [])])
  .ret)))), [.cellN 6 5, .tmp 7], false⟩
theorem c27 : kk 27 = some k27 := by kernel_rfl
/-- loop.example/g01263/spec.P6Way -/
def k28 : KF := ⟨20, (.seq (.region [⟨(some 3), .box 36 (.t 1), none⟩, ⟨(some 4), .alloc 38 [(.int .i8 0), (.int .i8 0), (.int .i16 0), (.int .i16 0)], none⟩, ⟨(some 5), .mov (.k (.c (.bool false))), none⟩])
  (.seq (.region [⟨(some 7), .call (.k (.c (.fn 72 []))) [(.t 3)], none⟩, ⟨(some 6), .mov (.t 7), none⟩])
  (.seq (.seq (.region [⟨(some 8), .mov (.t 6), none⟩, ⟨(some 9), .len false (.t 8), none⟩, ⟨(some 10), .bin .eql .int (.t 9) (.k (.c (.int .i64 0))), none⟩])
  (.cond (.t 10) (.seq (.region [⟨(some 11), .build [(.int .i8 0), (.int .i8 0), (.int .i16 0), (.int .i16 0)] [], none⟩, ⟨none, .store 4 (.t 4) (.t 11), none⟩, ⟨(some 5), .mov (.k (.c (.bool false))), none⟩])
  .ret) .skip))
  (.seq (.region [⟨(some 12), .mov (.t 6), none⟩, ⟨(some 13), .mov (.t 0), none⟩, ⟨(some 14), .call (.k (.c (.fn 64 []))) [(.t 13)], none⟩, ⟨(some 15), .mov (.t 6), none⟩, ⟨(some 16), .len false (.t 15), none⟩, ⟨(some 17), .call (.k (.c (.fn 73 []))) [(.t 14), (.t 16)], none⟩, ⟨(some 18), .idxS 4 (.t 12) (.t 17), none⟩, ⟨(some 19), .loadN 4 (.t 18), none⟩, ⟨none, .store 4 (.t 4) (.t 19), none⟩, ⟨(some 5), .mov (.k (.c (.bool true))), none⟩])
  .ret)))), [.cellN 4 4, .tmp 5], true⟩
theorem c28 : kk 28 = some k28 := by kernel_rfl
/-- loop.example/g01263/spec.Inspect -/
def k29 : KF := ⟨37, (.seq (.region [⟨(some 3), .box 36 (.t 0), none⟩, ⟨(some 4), .box 36 (.t 1), none⟩, ⟨(some 6), .alloc 54 [(.bool false), (.int .i8 0), (.int .i64 0), (.int .i64 0), (.slice none 0 (.exact 0))], none⟩, ⟨(some 7), .mov (.k (.c (.int .i64 0))), none⟩])
  (.seq (.region [⟨(some 9), .call (.k (.c (.fn 74 []))) [(.t 3), (.t 4)], none⟩, ⟨(some 8), .mov (.t 9), none⟩])
  (.seq (.seq (.region [⟨(some 10), .mov (.t 8), none⟩, ⟨(some 11), .bin .eql .int (.t 10) (.k (.c (.int .i64 0))), none⟩, ⟨(some 12), .mov (.t 11), none⟩, ⟨(some 13), .mov (.t 2), some (12, true)⟩, ⟨(some 14), .call (.k (.c (.fn 75 []))) [(.t 13), (.k (.c (.int .i64 0))), (.k (.c (.int .i64 16)))], some (12, true)⟩, ⟨(some 15), .un .not (.t 14), some (12, true)⟩, ⟨(some 16), .pick (.t 12) (.t 15) (.k (.c (.bool false))), none⟩])
  (.cond (.t 16) (.region [⟨(some 8), .mov (.k (.c (.int .i64 2))), none⟩]) .skip))
  (.seq (.seq (.region [⟨(some 17), .mov (.t 8), none⟩, ⟨(some 18), .bin .neq .int (.t 17) (.k (.c (.int .i64 0))), none⟩])
  (.cond (.t 18) (.seq (.region [⟨(some 19), .build [(.bool false), (.int .i8 0), (.int .i64 0), (.int .i64 0), (.slice none 0 (.exact 0))] [], none⟩, ⟨(some 20), .mov (.t 8), none⟩, ⟨none, .store 5 (.t 6) (.t 19), none⟩, ⟨(some 7), .mov (.t 20), none⟩])
  .ret) .skip))
  (.seq (.drawn [(⟨(some 21), .mov (.t 2), none⟩, []), (⟨(some 25), .fldA 1 (.t 3), none⟩, []), (⟨(some 26), .load1 (.t 25), none⟩, []), (⟨(some 28), .fldA 1 (.t 4), none⟩, []), (⟨(some 29), .load1 (.t 28), none⟩, []), (⟨(some 31), .fldA 2 (.t 3), none⟩, []), (⟨(some 32), .loadN 16 (.t 31), none⟩, []), (⟨(some 33), .fldA 2 (.t 4), none⟩, []), (⟨(some 34), .loadN 16 (.t 33), none⟩, []), (⟨(some 22), .call (.k (.c (.fn 76 []))) [(.t 3), (.t 4), (.t 21)], none⟩, [⟨(some 26), .load1 (.t 25), none⟩, ⟨(some 29), .load1 (.t 28), none⟩, ⟨(some 32), .loadN 16 (.t 31), none⟩, ⟨(some 34), .loadN 16 (.t 33), none⟩]), (⟨(some 23), .call (.k (.c (.fn 77 []))) [(.t 3), (.t 4)], none⟩, [⟨(some 26), .load1 (.t 25), none⟩, ⟨(some 29), .load1 (.t 28), none⟩, ⟨(some 32), .loadN 16 (.t 31), none⟩, ⟨(some 34), .loadN 16 (.t 33), none⟩]), (⟨(some 24), .conv .i8 (.t 23), none⟩, []), (⟨(some 27), .call (.k (.c (.fn 51 []))) [(.t 26)], none⟩, [⟨(some 29), .load1 (.t 28), none⟩, ⟨(some 32), .loadN 16 (.t 31), none⟩, ⟨(some 34), .loadN 16 (.t 33), none⟩]), (⟨(some 30), .call (.k (.c (.fn 51 []))) [(.t 29)], none⟩, [⟨(some 32), .loadN 16 (.t 31), none⟩, ⟨(some 34), .loadN 16 (.t 33), none⟩]), (⟨(some 35), .call (.k (.c (.fn 78 []))) [(.t 32), (.t 34)], none⟩, []), (⟨(some 36), .build [(.bool false), (.int .i8 0), (.int .i64 0), (.int .i64 0), (.slice none 0 (.exact 0))] [(0, 1, (.t 22)), (1, 1, (.t 24)), (2, 1, (.t 27)), (3, 1, (.t 30)), (4, 1, (.t 35))], none⟩, []), (⟨none, .store 5 (.t 6) (.t 36), none⟩, []), (⟨(some 7), .mov (.k (.c (.int .i64 0))), none⟩, [])])
  .ret))))), [.cellN 6 5, .tmp 7], false⟩
theorem c29 : kk 29 = some k29 := by kernel_rfl
/-- loop.example/g01263/impl.SameVerdict -/
def k30 : KF := ⟨38, (.seq (.region [⟨(some 2), .box 54 (.t 0), none⟩, ⟨(some 3), .box 54 (.t 1), none⟩, ⟨(some 4), .mov (.k (.c (.bool false))), none⟩])
  (.seq (.region [⟨(some 5), .fldA 0 (.t 2), none⟩, ⟨(some 6), .load1 (.t 5), none⟩, ⟨(some 7), .fldA 0 (.t 3), none⟩, ⟨(some 8), .load1 (.t 7), none⟩, ⟨(some 9), .bin .eql .bool (.t 6) (.t 8), none⟩, ⟨(some 10), .mov (.t 9), none⟩, ⟨(some 11), .fldA 1 (.t 2), some (10, true)⟩, ⟨(some 12), .load1 (.t 11), some (10, true)⟩, ⟨(some 13), .fldA 1 (.t 3), some (10, true)⟩, ⟨(some 14), .load1 (.t 13), some (10, true)⟩, ⟨(some 15), .bin .eql .int (.t 12) (.t 14), some (10, true)⟩, ⟨(some 16), .pick (.t 10) (.t 15) (.k (.c (.bool false))), none⟩, ⟨(some 17), .mov (.t 16), none⟩, ⟨(some 18), .fldA 2 (.t 2), some (17, true)⟩, ⟨(some 19), .load1 (.t 18), some (17, true)⟩, ⟨(some 20), .fldA 2 (.t 3), some (17, true)⟩, ⟨(some 21), .load1 (.t 20), some (17, true)⟩, ⟨(some 22), .bin .eql .int (.t 19) (.t 21), some (17, true)⟩, ⟨(some 23), .pick (.t 17) (.t 22) (.k (.c (.bool false))), none⟩, ⟨(some 24), .mov (.t 23), none⟩, ⟨(some 25), .fldA 3 (.t 2), some (24, true)⟩, ⟨(some 26), .load1 (.t 25), some (24, true)⟩, ⟨(some 27), .fldA 3 (.t 3), some (24, true)⟩, ⟨(some 28), .load1 (.t 27), some (24, true)⟩, ⟨(some 29), .bin .eql .int (.t 26) (.t 28), some (24, true)⟩, ⟨(some 30), .pick (.t 24) (.t 29) (.k (.c (.bool false))), none⟩, ⟨(some 31), .mov (.t 30), none⟩, ⟨(some 32), .fldA 4 (.t 2), some (31, true)⟩, ⟨(some 33), .load1 (.t 32), some (31, true)⟩, ⟨(some 34), .fldA 4 (.t 3), some (31, true)⟩, ⟨(some 35), .load1 (.t 34), some (31, true)⟩, ⟨(some 36), .call (.k (.c (.fn 79 []))) [(.t 33), (.t 35)], some (31, true)⟩, ⟨(some 37), .pick (.t 31) (.t 36) (.k (.c (.bool false))), none⟩, ⟨(some 4), .mov (.t 37), none⟩])
  .ret)), [.tmp 4], true⟩
theorem c30 : kk 30 = some k30 := by kernel_rfl
/-- loop.example/g01263/spec.SameVerdict -/
def k31 : KF := ⟨38, (.seq (.region [⟨(some 2), .box 54 (.t 0), none⟩, ⟨(some 3), .box 54 (.t 1), none⟩, ⟨(some 4), .mov (.k (.c (.bool false))), none⟩])
  (.seq (.region [⟨(some 5), .fldA 0 (.t 2), none⟩, ⟨(some 6), .load1 (.t 5), none⟩, ⟨(some 7), .fldA 0 (.t 3), none⟩, ⟨(some 8), .load1 (.t 7), none⟩, ⟨(some 9), .bin .eql .bool (.t 6) (.t 8), none⟩, ⟨(some 10), .mov (.t 9), none⟩, ⟨(some 11), .fldA 1 (.t 2), some (10, true)⟩, ⟨(some 12), .load1 (.t 11), some (10, true)⟩, ⟨(some 13), .fldA 1 (.t 3), some (10, true)⟩, ⟨(some 14), .load1 (.t 13), some (10, true)⟩, ⟨(some 15), .bin .eql .int (.t 12) (.t 14), some (10, true)⟩, ⟨(some 16), .pick (.t 10) (.t 15) (.k (.c (.bool false))), none⟩, ⟨(some 17), .mov (.t 16), none⟩, ⟨(some 18), .fldA 2 (.t 2), some (17, true)⟩, ⟨(some 19), .load1 (.t 18), some (17, true)⟩, ⟨(some 20), .fldA 2 (.t 3), some (17, true)⟩, ⟨(some 21), .load1 (.t 20), some (17, true)⟩, ⟨(some 22), .bin .eql .int (.t 19) (.t 21), some (17, true)⟩, ⟨(some 23), .pick (.t 17) (.t 22) (.k (.c (.bool false))), none⟩, ⟨(some 24), .mov (.t 23), none⟩, ⟨(some 25), .fldA 3 (.t 2), some (24, true)⟩, ⟨(some 26), .load1 (.t 25), some (24, true)⟩, ⟨(some 27), .fldA 3 (.t 3), some (24, true)⟩, ⟨(some 28), .load1 (.t 27), some (24, true)⟩, ⟨(some 29), .bin .eql .int (.t 26) (.t 28), some (24, true)⟩, ⟨(some 30), .pick (.t 24) (.t 29) (.k (.c (.bool false))), none⟩, ⟨(some 31), .mov (.t 30), none⟩, ⟨(some 32), .fldA 4 (.t 2), some (31, true)⟩, ⟨(some 33), .load1 (.t 32), some (31, true)⟩, ⟨(some 34), .fldA 4 (.t 3), some (31, true)⟩, ⟨(some 35), .load1 (.t 34), some (31, true)⟩, ⟨(some 36), .call (.k (.c (.fn 80 []))) [(.t 33), (.t 35)], some (31, true)⟩, ⟨(some 37), .pick (.t 31) (.t 36) (.k (.c (.bool false))), none⟩, ⟨(some 4), .mov (.t 37), none⟩])
  .ret)), [.tmp 4], true⟩
theorem c31 : kk 31 = some k31 := by kernel_rfl
/-- loop.example/g01263/impl.FindFoil -/
def l32_0 : KC := (.seq (.region [⟨(some 28), .bin .lss .int (.t 27) (.t 26), none⟩])
  (.seq (.cond (.t 28) .skip (.exit 0))
  (.seq (.block 1 (.seq (.region [⟨(some 29), .mov (.t 27), none⟩, ⟨(some 30), .idxS 18 (.t 25) (.t 27), none⟩, ⟨(some 31), .loadN 18 (.t 30), none⟩, ⟨(some 10), .alloc 36 [(.bool false), (.slice none 0 (.exact 0)), (.int .i8 0), (.int .i8 0), (.int .i8 0), (.int .i8 0), (.int .i8 0), (.int .i8 0), (.int .i8 0), (.int .i8 0), (.int .i8 0), (.int .i8 0), (.int .i8 0), (.int .i8 0), (.int .i8 0), (.int .i8 0), (.int .i8 0), (.int .i8 0)], none⟩, ⟨(some 9), .mov (.t 29), none⟩, ⟨none, .store 18 (.t 10) (.t 31), none⟩])
  (.seq (.region [⟨(some 32), .loadN 18 (.t 3), none⟩, ⟨(some 33), .loadN 18 (.t 10), none⟩, ⟨(some 34), .mov (.t 2), none⟩, ⟨(some 35), .call (.k (.c (.fn 70 []))) [(.t 32), (.t 33), (.t 34)], none⟩])
  (.cond (.t 35) (.seq (.region [⟨(some 36), .mov (.t 9), none⟩, ⟨(some 6), .mov (.t 36), none⟩, ⟨(some 7), .mov (.k (.c (.int .i64 0))), none⟩])
  .ret) .skip))))
  (.region [⟨(some 37), .bin .add .int (.t 27) (.k (.c (.int .i64 1))), none⟩, ⟨(some 27), .mov (.t 37), none⟩]))))
def k32 : KF := ⟨38, (.seq (.region [⟨(some 3), .box 36 (.t 0), none⟩, ⟨(some 6), .mov (.k (.c (.int .i64 0))), none⟩, ⟨(some 7), .mov (.k (.c (.int .i64 0))), none⟩])
  (.seq (.seq (.region [⟨(some 11), .loadN 18 (.t 3), none⟩, ⟨(some 12), .mov (.t 1), none⟩, ⟨(some 13), .call (.k (.c (.fn 67 []))) [(.t 11), (.t 12)], none⟩, ⟨(some 8), .mov (.t 13), none⟩])
  (.seq (.region [⟨(some 14), .mov (.t 8), none⟩, ⟨(some 15), .bin .neq .int (.t 14) (.k (.c (.int .i64 0))), none⟩])
  (.cond (.t 15) (.seq (.region [⟨(some 16), .mov (.t 8), none⟩, ⟨(some 6), .mov (.k (.c (.int .i64 0))), none⟩, ⟨(some 7), .mov (.t 16), none⟩])
  .ret) .skip)))
  (.seq (.seq (.region [⟨(some 17), .mov (.t 1), none⟩, ⟨(some 18), .len false (.t 17), none⟩, ⟨(some 19), .bin .gtr .int (.t 18) (.k (.c (.int .i64 40))), none⟩, ⟨(some 20), .mov (.t 19), none⟩, ⟨(some 21), .mov (.t 2), some (20, false)⟩, ⟨(some 22), .call (.k (.c (.fn 69 []))) [(.t 21)], some (20, false)⟩, ⟨(some 23), .un .not (.t 22), some (20, false)⟩, ⟨(some 24), .pick (.t 20) (.k (.c (.bool true))) (.t 23), none⟩])
  (.cond (.t 24) (.seq (.region [⟨(some 6), .mov (.k (.c (.int .i64 0))), none⟩, ⟨(some 7), .mov (.k (.c (.int .i64 2))), none⟩])
  .ret) .skip))
  (.seq (.seq (.region [⟨(some 25), .mov (.t 1), none⟩, ⟨(some 26), .len false (.t 25), none⟩, ⟨(some 27), .mov (.k (.c (.int .i64 0))), none⟩])
  (.block 0 (.loop l32_0)))
  (.seq (.region [⟨(some 6), .mov (.k (.c (.int .i64 0))), none⟩, ⟨(some 7), .mov (.k (.c (.int .i64 6))), none⟩])
  .ret))))), [.tmp 6, .tmp 7], true⟩
theorem c32 : kk 32 = some k32 := by kernel_rfl
/-- loop.example/g01263/impl.NearestFoil -/
def l33_0 : KC := (.seq (.region [⟨(some 30), .bin .lss .int (.t 29) (.t 28), none⟩])
  (.seq (.cond (.t 30) .skip (.exit 1))
  (.seq (.block 2 (.seq (.region [⟨(some 31), .mov (.t 29), none⟩, ⟨(some 32), .idxS 18 (.t 27) (.t 29), none⟩, ⟨(some 33), .loadN 18 (.t 32), none⟩, ⟨(some 11), .alloc 36 [(.bool false), (.slice none 0 (.exact 0)), (.int .i8 0), (.int .i8 0), (.int .i8 0), (.int .i8 0), (.int .i8 0), (.int .i8 0), (.int .i8 0), (.int .i8 0), (.int .i8 0), (.int .i8 0), (.int .i8 0), (.int .i8 0), (.int .i8 0), (.int .i8 0), (.int .i8 0), (.int .i8 0)], none⟩, ⟨(some 10), .mov (.t 31), none⟩, ⟨none, .store 18 (.t 11) (.t 33), none⟩])
  (.seq (.drawn [(⟨(some 34), .loadN 18 (.t 2), none⟩, []), (⟨(some 35), .loadN 18 (.t 11), none⟩, []), (⟨(some 38), .fldA 2 (.t 2), none⟩, []), (⟨(some 39), .loadN 16 (.t 38), none⟩, []), (⟨(some 40), .fldA 2 (.t 11), none⟩, []), (⟨(some 41), .loadN 16 (.t 40), none⟩, []), (⟨(some 36), .call (.k (.c (.fn 81 []))) [(.t 34), (.t 35)], none⟩, [⟨(some 39), .loadN 16 (.t 38), none⟩, ⟨(some 41), .loadN 16 (.t 40), none⟩]), (⟨(some 37), .len false (.t 36), none⟩, []), (⟨(some 42), .call (.k (.c (.fn 71 []))) [(.t 39), (.t 41)], none⟩, []), (⟨(some 43), .len false (.t 42), none⟩, []), (⟨(some 44), .bin .add .int (.t 37) (.t 43), none⟩, []), (⟨(some 12), .mov (.t 44), none⟩, [])])
  (.seq (.region [⟨(some 45), .mov (.t 9), none⟩, ⟨(some 46), .bin .lss .int (.t 45) (.k (.c (.int .i64 0))), none⟩, ⟨(some 47), .mov (.t 46), none⟩, ⟨(some 48), .mov (.t 12), some (47, false)⟩, ⟨(some 49), .mov (.t 9), some (47, false)⟩, ⟨(some 50), .bin .lss .int (.t 48) (.t 49), some (47, false)⟩, ⟨(some 51), .pick (.t 47) (.k (.c (.bool true))) (.t 50), none⟩])
  (.cond (.t 51) (.seq (.region [⟨(some 52), .mov (.t 10), none⟩, ⟨(some 8), .mov (.t 52), none⟩])
  (.region [⟨(some 53), .mov (.t 12), none⟩, ⟨(some 9), .mov (.t 53), none⟩])) .skip)))))
  (.region [⟨(some 54), .bin .add .int (.t 29) (.k (.c (.int .i64 1))), none⟩, ⟨(some 29), .mov (.t 54), none⟩]))))
def k33 : KF := ⟨57, (.seq (.region [⟨(some 2), .box 36 (.t 0), none⟩, ⟨(some 4), .mov (.k (.c (.int .i64 0))), none⟩, ⟨(some 5), .mov (.k (.c (.int .i64 0))), none⟩, ⟨(some 6), .mov (.k (.c (.int .i64 0))), none⟩])
  (.seq (.seq (.region [⟨(some 13), .loadN 18 (.t 2), none⟩, ⟨(some 14), .mov (.t 1), none⟩, ⟨(some 15), .call (.k (.c (.fn 67 []))) [(.t 13), (.t 14)], none⟩, ⟨(some 7), .mov (.t 15), none⟩])
  (.seq (.region [⟨(some 16), .mov (.t 7), none⟩, ⟨(some 17), .bin .neq .int (.t 16) (.k (.c (.int .i64 0))), none⟩])
  (.cond (.t 17) (.seq (.region [⟨(some 18), .mov (.t 7), none⟩, ⟨(some 4), .mov (.k (.c (.int .i64 0))), none⟩, ⟨(some 5), .mov (.k (.c (.int .i64 0))), none⟩, ⟨(some 6), .mov (.t 18), none⟩])
  .ret) .skip)))
  (.seq (.block 0 (.seq (.region [⟨(some 20), .mov (.t 1), none⟩, ⟨(some 21), .len false (.t 20), none⟩, ⟨(some 22), .bin .gtr .int (.t 21) (.k (.c (.int .i64 40))), none⟩, ⟨(some 19), .mov (.t 22), none⟩])
  (.cond (.t 19) (.seq (.region [⟨(some 4), .mov (.k (.c (.int .i64 0))), none⟩, ⟨(some 5), .mov (.k (.c (.int .i64 0))), none⟩, ⟨(some 6), .mov (.k (.c (.int .i64 2))), none⟩])
  .ret) (.seq (.region [⟨(some 24), .mov (.t 1), none⟩, ⟨(some 25), .len false (.t 24), none⟩, ⟨(some 26), .bin .eql .int (.t 25) (.k (.c (.int .i64 0))), none⟩, ⟨(some 23), .mov (.t 26), none⟩])
  (.cond (.t 23) (.seq (.region [⟨(some 4), .mov (.k (.c (.int .i64 0))), none⟩, ⟨(some 5), .mov (.k (.c (.int .i64 0))), none⟩, ⟨(some 6), .mov (.k (.c (.int .i64 6))), none⟩])
  .ret) .skip)))))
  (.seq (.region [⟨(some 8), .mov (.k (.c (.int .i64 0))), none⟩, ⟨(some 9), .mov (.k (.c (.int .i64 (-1)))), none⟩])
  (.seq (.seq (.region [⟨(some 27), .mov (.t 1), none⟩, ⟨(some 28), .len false (.t 27), none⟩, ⟨(some 29), .mov (.k (.c (.int .i64 0))), none⟩])
  (.block 1 (.loop l33_0)))
  (.seq (.region [⟨(some 55), .mov (.t 8), none⟩, ⟨(some 56), .mov (.t 9), none⟩, ⟨(some 4), .mov (.t 55), none⟩, ⟨(some 5), .mov (.t 56), none⟩, ⟨(some 6), .mov (.k (.c (.int .i64 0))), none⟩])
  .ret)))))), [.tmp 4, .tmp 5, .tmp 6], true⟩
theorem c33 : kk 33 = some k33 := by kernel_rfl
/-- loop.example/g01263/spec.l01Sum -/
def l51_0 : KC := (.seq (.seq (.region [⟨(some 5), .mov (.t 4), none⟩, ⟨(some 6), .mov (.t 0), none⟩, ⟨(some 7), .len false (.t 6), none⟩, ⟨(some 8), .bin .lss .int (.t 5) (.t 7), none⟩])
  (.cond (.t 8) .skip (.exit 0)))
  (.seq (.block 1 (.drawn [(⟨(some 11), .mov (.t 3), none⟩, []), (⟨(some 13), .mov (.t 0), none⟩, []), (⟨(some 14), .mov (.t 4), none⟩, []), (⟨(some 15), .idxS 2 (.t 13) (.t 14), none⟩, []), (⟨(some 16), .fldA 0 (.t 15), none⟩, []), (⟨(some 17), .load1 (.t 16), none⟩, []), (⟨(some 12), .call (.k (.c (.fn 89 []))) [], none⟩, [⟨(some 17), .load1 (.t 16), none⟩]), (⟨(some 18), .idxS 1 (.t 12) (.t 17), none⟩, []), (⟨(some 19), .load1 (.t 18), none⟩, []), (⟨(some 20), .bin .add .int (.t 11) (.t 19), none⟩, []), (⟨(some 3), .mov (.t 20), none⟩, [])]))
  (.region [⟨(some 9), .mov (.t 4), none⟩, ⟨(some 10), .bin .add .int (.t 9) (.k (.c (.int .i64 1))), none⟩, ⟨(some 4), .mov (.t 10), none⟩])))
def k51 : KF := ⟨22, (.seq (.region [⟨(some 2), .mov (.k (.c (.int .i64 0))), none⟩])
  (.seq (.region [⟨(some 3), .mov (.k (.c (.int .i64 0))), none⟩])
  (.seq (.seq (.region [⟨(some 4), .mov (.k (.c (.int .i64 0))), none⟩])
  (.block 0 (.loop l51_0)))
  (.seq (.region [⟨(some 21), .mov (.t 3), none⟩, ⟨(some 2), .mov (.t 21), none⟩])
  .ret)))), [.tmp 2], true⟩
theorem c51 : kk 51 = some k51 := by kernel_rfl
/-- loop.example/g01263/impl.amountOf -/
def l54_0 : KC := (.seq (.region [⟨(some 10), .bin .lss .int (.t 9) (.t 8), none⟩])
  (.seq (.cond (.t 10) .skip (.exit 0))
  (.seq (.block 1 (.seq (.region [⟨(some 11), .idxS 2 (.t 7) (.t 9), none⟩, ⟨(some 12), .loadN 2 (.t 11), none⟩, ⟨(some 5), .alloc 119 [(.int .i8 0), (.int .i16 0)], none⟩, ⟨none, .store 2 (.t 5) (.t 12), none⟩])
  (.region [⟨(some 13), .mov (.t 3), none⟩, ⟨(some 14), .fldA 0 (.t 5), none⟩, ⟨(some 15), .load1 (.t 14), none⟩, ⟨(some 16), .conv .i64 (.t 15), none⟩, ⟨(some 17), .call (.k (.c (.fn 91 []))) [(.t 16)], none⟩, ⟨(some 18), .bin .add .int (.t 13) (.t 17), none⟩, ⟨(some 3), .mov (.t 18), none⟩])))
  (.region [⟨(some 19), .bin .add .int (.t 9) (.k (.c (.int .i64 1))), none⟩, ⟨(some 9), .mov (.t 19), none⟩]))))
def k54 : KF := ⟨21, (.seq (.region [⟨(some 1), .box 36 (.t 0), none⟩, ⟨(some 2), .mov (.k (.c (.int .i64 0))), none⟩])
  (.seq (.region [⟨(some 3), .mov (.k (.c (.int .i64 0))), none⟩])
  (.seq (.seq (.region [⟨(some 6), .fldA 1 (.t 1), none⟩, ⟨(some 7), .load1 (.t 6), none⟩, ⟨(some 8), .len false (.t 7), none⟩, ⟨(some 9), .mov (.k (.c (.int .i64 0))), none⟩])
  (.block 0 (.loop l54_0)))
  (.seq (.region [⟨(some 20), .mov (.t 3), none⟩, ⟨(some 2), .mov (.t 20), none⟩])
  .ret)))), [.tmp 2], true⟩
theorem c54 : kk 54 = some k54 := by kernel_rfl
/-- loop.example/g01263/spec.l01Ok -/
def k57 : KF := ⟨15, (.seq (.region [⟨(some 2), .mov (.k (.c (.bool false))), none⟩])
  (.seq (.region [⟨(some 3), .mov (.t 0), none⟩, ⟨(some 4), .nilchk (.t 3), none⟩, ⟨(some 5), .fldA 1 (.t 4), none⟩, ⟨(some 6), .load1 (.t 5), none⟩, ⟨(some 7), .call (.k (.c (.fn 93 []))) [(.t 6)], none⟩, ⟨(some 8), .mov (.t 7), none⟩, ⟨(some 9), .mov (.t 0), some (8, true)⟩, ⟨(some 10), .nilchk (.t 9), some (8, true)⟩, ⟨(some 11), .fldA 2 (.t 10), some (8, true)⟩, ⟨(some 12), .loadN 16 (.t 11), some (8, true)⟩, ⟨(some 13), .call (.k (.c (.fn 65 []))) [(.t 12)], some (8, true)⟩, ⟨(some 14), .pick (.t 8) (.t 13) (.k (.c (.bool false))), none⟩, ⟨(some 2), .mov (.t 14), none⟩])
  .ret)), [.tmp 2], true⟩
theorem c57 : kk 57 = some k57 := by kernel_rfl
/-- loop.example/g01263/spec.l04Tamper -/
def k58 : KF := ⟨79, (.seq (.region [⟨(some 3), .box 38 (.t 1), none⟩, ⟨(some 4), .alloc 36 [(.bool false), (.slice none 0 (.exact 0)), (.int .i8 0), (.int .i8 0), (.int .i8 0), (.int .i8 0), (.int .i8 0), (.int .i8 0), (.int .i8 0), (.int .i8 0), (.int .i8 0), (.int .i8 0), (.int .i8 0), (.int .i8 0), (.int .i8 0), (.int .i8 0), (.int .i8 0), (.int .i8 0)], none⟩, ⟨(some 5), .mov (.k (.c (.int .i64 0))), none⟩])
  (.seq (.seq (.region [⟨(some 7), .fldA 0 (.t 3), none⟩, ⟨(some 8), .load1 (.t 7), none⟩])
  (.block 0 (.seq (.region [⟨(some 10), .bin .eql .int (.t 8) (.k (.c (.int .i8 1))), none⟩, ⟨(some 9), .mov (.t 10), none⟩])
  (.cond (.t 9) (.seq (.seq (.region [⟨(some 11), .fldA 2 (.t 3), none⟩, ⟨(some 12), .load1 (.t 11), none⟩, ⟨(some 13), .bin .neq .int (.t 12) (.k (.c (.int .i16 0))), none⟩])
  (.cond (.t 13) (.seq (.region [⟨(some 14), .build [(.bool false), (.slice none 0 (.exact 0)), (.int .i8 0), (.int .i8 0), (.int .i8 0), (.int .i8 0), (.int .i8 0), (.int .i8 0), (.int .i8 0), (.int .i8 0), (.int .i8 0), (.int .i8 0), (.int .i8 0), (.int .i8 0), (.int .i8 0), (.int .i8 0), (.int .i8 0), (.int .i8 0)] [], none⟩, ⟨none, .store 18 (.t 4) (.t 14), none⟩, ⟨(some 5), .mov (.k (.c (.int .i64 2))), none⟩])
  .ret) .skip))
  (.seq (.drawn [(⟨(some 15), .mov (.t 0), none⟩, []), (⟨(some 16), .nilchk (.t 15), none⟩, []), (⟨(some 17), .loadN 18 (.t 16), none⟩, []), (⟨(some 18), .fldA 1 (.t 3), none⟩, []), (⟨(some 19), .load1 (.t 18), none⟩, []), (⟨(some 20), .conv .i64 (.t 19), none⟩, []), (⟨(some 21), .fldA 3 (.t 3), none⟩, []), (⟨(some 22), .load1 (.t 21), none⟩, []), (⟨(some 23), .conv .i64 (.t 22), none⟩, []), (⟨(some 24), .call (.k (.c (.fn 94 []))) [(.t 17), (.t 20), (.t 23)], none⟩, []), (⟨(some 25), .ext (.t 24) 0, none⟩, []), (⟨(some 26), .ext (.t 24) 1, none⟩, []), (⟨none, .store 18 (.t 4) (.t 25), none⟩, []), (⟨(some 5), .mov (.t 26), none⟩, [])])
  .ret)) (.seq (.region [⟨(some 28), .bin .eql .int (.t 8) (.k (.c (.int .i8 2))), none⟩, ⟨(some 27), .mov (.t 28), none⟩])
  (.cond (.t 27) (.seq (.seq (.drawn [(⟨(some 29), .fldA 3 (.t 3), none⟩, []), (⟨(some 30), .load1 (.t 29), none⟩, []), (⟨(some 31), .bin .neq .int (.t 30) (.k (.c (.int .i16 0))), none⟩, []), (⟨(some 32), .mov (.t 31), none⟩, []), (⟨(some 33), .fldA 1 (.t 3), some (32, false)⟩, []), (⟨(some 34), .load1 (.t 33), some (32, false)⟩, []), (⟨(some 35), .conv .i64 (.t 34), some (32, false)⟩, []), (⟨(some 36), .call (.k (.c (.fn 95 []))) [(.t 35)], some (32, false)⟩, []), (⟨(some 37), .un .not (.t 36), some (32, false)⟩, []), (⟨(some 38), .pick (.t 32) (.k (.c (.bool true))) (.t 37), none⟩, []), (⟨(some 39), .mov (.t 38), none⟩, []), (⟨(some 40), .fldA 2 (.t 3), some (39, false)⟩, []), (⟨(some 41), .load1 (.t 40), some (39, false)⟩, []), (⟨(some 42), .conv .i64 (.t 41), some (39, false)⟩, []), (⟨(some 43), .mov (.t 0), some (39, false)⟩, []), (⟨(some 44), .nilchk (.t 43), some (39, false)⟩, []), (⟨(some 45), .fldA 1 (.t 44), some (39, false)⟩, []), (⟨(some 46), .load1 (.t 45), some (39, false)⟩, []), (⟨(some 47), .len false (.t 46), some (39, false)⟩, []), (⟨(some 48), .bin .sub .int (.t 47) (.k (.c (.int .i64 1))), some (39, false)⟩, []), (⟨(some 49), .call (.k (.c (.fn 75 []))) [(.t 42), (.k (.c (.int .i64 0))), (.t 48)], some (39, false)⟩, []), (⟨(some 50), .un .not (.t 49), some (39, false)⟩, []), (⟨(some 51), .pick (.t 39) (.k (.c (.bool true))) (.t 50), none⟩, [])])
  (.cond (.t 51) (.seq (.region [⟨(some 52), .build [(.bool false), (.slice none 0 (.exact 0)), (.int .i8 0), (.int .i8 0), (.int .i8 0), (.int .i8 0), (.int .i8 0), (.int .i8 0), (.int .i8 0), (.int .i8 0), (.int .i8 0), (.int .i8 0), (.int .i8 0), (.int .i8 0), (.int .i8 0), (.int .i8 0), (.int .i8 0), (.int .i8 0)] [], none⟩, ⟨none, .store 18 (.t 4) (.t 52), none⟩, ⟨(some 5), .mov (.k (.c (.int .i64 2))), none⟩])
  .ret) .skip))
  (.seq (.region [⟨(some 53), .mov (.t 0), none⟩, ⟨(some 54), .call (.k (.c (.fn 85 []))) [(.t 53)], none⟩, ⟨(some 6), .alloc 36 [(.bool false), (.slice none 0 (.exact 0)), (.int .i8 0), (.int .i8 0), (.int .i8 0), (.int .i8 0), (.int .i8 0), (.int .i8 0), (.int .i8 0), (.int .i8 0), (.int .i8 0), (.int .i8 0), (.int .i8 0), (.int .i8 0), (.int .i8 0), (.int .i8 0), (.int .i8 0), (.int .i8 0)], none⟩, ⟨none, .store 18 (.t 6) (.t 54), none⟩])
  (.seq (.seq (.drawn [(⟨(some 55), .fldA 1 (.t 3), none⟩, []), (⟨(some 56), .load1 (.t 55), none⟩, []), (⟨(some 57), .fldA 1 (.t 6), none⟩, []), (⟨(some 58), .load1 (.t 57), none⟩, []), (⟨(some 59), .fldA 2 (.t 3), none⟩, []), (⟨(some 60), .load1 (.t 59), none⟩, []), (⟨(some 61), .idxS 2 (.t 58) (.t 60), none⟩, []), (⟨(some 62), .fldA 0 (.t 61), none⟩, []), (⟨(some 63), .load1 (.t 62), none⟩, []), (⟨(some 64), .bin .leq .int (.t 56) (.t 63), none⟩, [])])
  (.cond (.t 64) (.seq (.region [⟨(some 65), .build [(.bool false), (.slice none 0 (.exact 0)), (.int .i8 0), (.int .i8 0), (.int .i8 0), (.int .i8 0), (.int .i8 0), (.int .i8 0), (.int .i8 0), (.int .i8 0), (.int .i8 0), (.int .i8 0), (.int .i8 0), (.int .i8 0), (.int .i8 0), (.int .i8 0), (.int .i8 0), (.int .i8 0)] [], none⟩, ⟨none, .store 18 (.t 4) (.t 65), none⟩, ⟨(some 5), .mov (.k (.c (.int .i64 4))), none⟩])
  .ret) .skip))
  (.seq (.region [⟨(some 66), .fldA 1 (.t 6), none⟩, ⟨(some 67), .load1 (.t 66), none⟩, ⟨(some 68), .fldA 2 (.t 3), none⟩, ⟨(some 69), .load1 (.t 68), none⟩, ⟨(some 70), .fldA 1 (.t 3), none⟩, ⟨(some 71), .load1 (.t 70), none⟩, ⟨(some 72), .idxS 2 (.t 67) (.t 69), none⟩, ⟨(some 73), .fldA 0 (.t 72), none⟩, ⟨none, .store 1 (.t 73) (.t 71), none⟩])
  (.seq (.seq (.region [⟨(some 74), .call (.k (.c (.fn 57 []))) [(.t 6)], none⟩, ⟨(some 75), .un .not (.t 74), none⟩])
  (.cond (.t 75) (.seq (.region [⟨(some 76), .build [(.bool false), (.slice none 0 (.exact 0)), (.int .i8 0), (.int .i8 0), (.int .i8 0), (.int .i8 0), (.int .i8 0), (.int .i8 0), (.int .i8 0), (.int .i8 0), (.int .i8 0), (.int .i8 0), (.int .i8 0), (.int .i8 0), (.int .i8 0), (.int .i8 0), (.int .i8 0), (.int .i8 0)] [], none⟩, ⟨none, .store 18 (.t 4) (.t 76), none⟩, ⟨(some 5), .mov (.k (.c (.int .i64 4))), none⟩])
  .ret) .skip))
  (.seq (.region [⟨(some 77), .loadN 18 (.t 6), none⟩, ⟨none, .store 18 (.t 4) (.t 77), none⟩, ⟨(some 5), .mov (.k (.c (.int .i64 0))), none⟩])
  .ret)))))) .skip))))))
  (.seq (.region [⟨(some 78), .build [(.bool false), (.slice none 0 (.exact 0)), (.int .i8 0), (.int .i8 0), (.int .i8 0), (.int .i8 0), (.int .i8 0), (.int .i8 0), (.int .i8 0), (.int .i8 0), (.int .i8 0), (.int .i8 0), (.int .i8 0), (.int .i8 0), (.int .i8 0), (.int .i8 0), (.int .i8 0), (.int .i8 0)] [], none⟩, ⟨none, .store 18 (.t 4) (.t 78), none⟩, ⟨(some 5), .mov (.k (.c (.int .i64 2))), none⟩])
  .ret))), [.cellN 4 18, .tmp 5], false⟩
theorem c58 : kk 58 = some k58 := by kernel_rfl
/-- loop.example/g01263/impl.ValidHalf -/
def l59_0 : KC := (.seq (.region [⟨(some 19), .bin .lss .int (.t 18) (.t 17), none⟩])
  (.seq (.cond (.t 19) .skip (.exit 0))
  (.seq (.block 1 (.seq (.region [⟨(some 20), .mov (.t 18), none⟩, ⟨(some 21), .idxS 2 (.t 16) (.t 18), none⟩, ⟨(some 22), .loadN 2 (.t 21), none⟩, ⟨(some 4), .alloc 119 [(.int .i8 0), (.int .i16 0)], none⟩, ⟨(some 3), .mov (.t 20), none⟩, ⟨none, .store 2 (.t 4) (.t 22), none⟩])
  (.seq (.seq (.region [⟨(some 23), .fldA 0 (.t 4), none⟩, ⟨(some 24), .load1 (.t 23), none⟩, ⟨(some 25), .conv .i64 (.t 24), none⟩, ⟨(some 26), .call (.k (.c (.fn 97 []))) [(.t 25)], none⟩, ⟨(some 27), .un .not (.t 26), none⟩, ⟨(some 28), .mov (.t 27), none⟩, ⟨(some 29), .fldA 1 (.t 4), some (28, false)⟩, ⟨(some 30), .load1 (.t 29), some (28, false)⟩, ⟨(some 31), .bin .lss .int (.t 30) (.k (.c (.int .i16 0))), some (28, false)⟩, ⟨(some 32), .pick (.t 28) (.k (.c (.bool true))) (.t 31), none⟩, ⟨(some 33), .mov (.t 32), none⟩, ⟨(some 34), .loadN 2 (.t 4), some (33, false)⟩, ⟨(some 35), .call (.k (.c (.fn 98 []))) [(.t 34)], some (33, false)⟩, ⟨(some 36), .bin .gtr .int (.t 35) (.k (.c (.int .i64 200))), some (33, false)⟩, ⟨(some 37), .pick (.t 33) (.k (.c (.bool true))) (.t 36), none⟩])
  (.cond (.t 37) (.seq (.region [⟨(some 2), .mov (.k (.c (.bool false))), none⟩])
  .ret) .skip))
  (.seq (.drawn [(⟨(some 38), .mov (.t 3), none⟩, []), (⟨(some 39), .bin .gtr .int (.t 38) (.k (.c (.int .i64 0))), none⟩, []), (⟨(some 40), .mov (.t 39), none⟩, []), (⟨(some 41), .fldA 1 (.t 4), some (40, true)⟩, []), (⟨(some 42), .load1 (.t 41), some (40, true)⟩, []), (⟨(some 43), .conv .i64 (.t 42), some (40, true)⟩, []), (⟨(some 44), .fldA 1 (.t 1), some (40, true)⟩, []), (⟨(some 45), .load1 (.t 44), some (40, true)⟩, []), (⟨(some 46), .mov (.t 3), some (40, true)⟩, []), (⟨(some 47), .bin .sub .int (.t 46) (.k (.c (.int .i64 1))), some (40, true)⟩, []), (⟨(some 48), .idxS 2 (.t 45) (.t 47), some (40, true)⟩, []), (⟨(some 49), .loadN 2 (.t 48), some (40, true)⟩, []), (⟨(some 50), .call (.k (.c (.fn 98 []))) [(.t 49)], some (40, true)⟩, [⟨(some 42), .load1 (.t 41), some (40, true)⟩]), (⟨(some 51), .bin .leq .int (.t 43) (.t 50), some (40, true)⟩, []), (⟨(some 52), .mov (.t 51), some (40, true)⟩, []), (⟨(some 53), .fldA 0 (.t 4), some (52, false)⟩, []), (⟨(some 54), .load1 (.t 53), some (52, false)⟩, []), (⟨(some 55), .fldA 1 (.t 1), some (52, false)⟩, []), (⟨(some 56), .load1 (.t 55), some (52, false)⟩, []), (⟨(some 57), .mov (.t 3), some (52, false)⟩, []), (⟨(some 58), .bin .sub .int (.t 57) (.k (.c (.int .i64 1))), some (52, false)⟩, []), (⟨(some 59), .idxS 2 (.t 56) (.t 58), some (52, false)⟩, []), (⟨(some 60), .fldA 0 (.t 59), some (52, false)⟩, []), (⟨(some 61), .load1 (.t 60), some (52, false)⟩, []), (⟨(some 62), .bin .gtr .int (.t 54) (.t 61), some (52, false)⟩, []), (⟨(some 63), .pick (.t 52) (.k (.c (.bool true))) (.t 62), some (40, true)⟩, []), (⟨(some 64), .pick (.t 40) (.t 63) (.k (.c (.bool false))), none⟩, [])])
  (.cond (.t 64) (.seq (.region [⟨(some 2), .mov (.k (.c (.bool false))), none⟩])
  .ret) .skip)))))
  (.region [⟨(some 65), .bin .add .int (.t 18) (.k (.c (.int .i64 1))), none⟩, ⟨(some 18), .mov (.t 65), none⟩]))))
def k59 : KF := ⟨66, (.seq (.region [⟨(some 1), .box 36 (.t 0), none⟩, ⟨(some 2), .mov (.k (.c (.bool false))), none⟩])
  (.seq (.seq (.region [⟨(some 5), .fldA 1 (.t 1), none⟩, ⟨(some 6), .load1 (.t 5), none⟩, ⟨(some 7), .len false (.t 6), none⟩, ⟨(some 8), .bin .gtr .int (.t 7) (.k (.c (.int .i64 60))), none⟩, ⟨(some 9), .mov (.t 8), none⟩, ⟨(some 10), .fldA 2 (.t 1), some (9, false)⟩, ⟨(some 11), .loadN 16 (.t 10), some (9, false)⟩, ⟨(some 12), .call (.k (.c (.fn 96 []))) [(.t 11)], some (9, false)⟩, ⟨(some 13), .un .not (.t 12), some (9, false)⟩, ⟨(some 14), .pick (.t 9) (.k (.c (.bool true))) (.t 13), none⟩])
  (.cond (.t 14) (.seq (.region [⟨(some 2), .mov (.k (.c (.bool false))), none⟩])
  .ret) .skip))
  (.seq (.seq (.region [⟨(some 15), .fldA 1 (.t 1), none⟩, ⟨(some 16), .load1 (.t 15), none⟩, ⟨(some 17), .len false (.t 16), none⟩, ⟨(some 18), .mov (.k (.c (.int .i64 0))), none⟩])
  (.block 0 (.loop l59_0)))
  (.seq (.region [⟨(some 2), .mov (.k (.c (.bool true))), none⟩])
  .ret)))), [.tmp 2], true⟩
theorem c59 : kk 59 = some k59 := by kernel_rfl
/-- loop.example/g01263/spec.l04Small -/
def l63_0 : KC := (.seq (.seq (.region [⟨(some 27), .mov (.t 7), none⟩, ⟨(some 28), .bin .gtr .int (.t 27) (.k (.c (.int .i64 0))), none⟩])
  (.cond (.t 28) .skip (.exit 0)))
  (.seq (.block 1 (.seq (.region [⟨(some 31), .fldA 1 (.t 3), none⟩, ⟨(some 32), .load1 (.t 31), none⟩, ⟨(some 33), .mov (.t 6), none⟩, ⟨(some 34), .mov (.t 5), none⟩, ⟨(some 35), .conv .i16 (.t 34), none⟩, ⟨(some 36), .build [(.int .i8 0), (.int .i16 0)] [(0, 1, (.t 33)), (1, 1, (.t 35))], none⟩, ⟨(some 37), .buildSl 119 1 [(.int .i8 0), (.int .i16 0)] [(0, 2, (.t 36))], none⟩, ⟨(some 38), .app 119 2 4 (.t 32) (.t 37), none⟩, ⟨(some 39), .fldA 1 (.t 3), none⟩, ⟨none, .store 1 (.t 39) (.t 38), none⟩])
  (.seq (.drawn [(⟨(some 40), .mov (.t 5), none⟩, []), (⟨(some 42), .mov (.t 6), none⟩, []), (⟨(some 46), .mov (.t 0), none⟩, []), (⟨(some 41), .call (.k (.c (.fn 103 []))) [], none⟩, []), (⟨(some 43), .idxS 1 (.t 41) (.t 42), none⟩, []), (⟨(some 44), .load1 (.t 43), none⟩, []), (⟨(some 45), .bin .add .int (.t 44) (.k (.c (.int .i64 1))), none⟩, []), (⟨(some 47), .call (.k (.c (.fn 73 []))) [(.t 46), (.k (.c (.int .i64 6)))], none⟩, [⟨(some 44), .load1 (.t 43), none⟩]), (⟨(some 48), .bin .add .int (.t 45) (.t 47), none⟩, []), (⟨(some 49), .bin .add .int (.t 40) (.t 48), none⟩, []), (⟨(some 5), .mov (.t 49), none⟩, [])])
  (.seq (.region [⟨(some 50), .mov (.t 6), none⟩, ⟨(some 51), .bin .gtr .int (.t 50) (.k (.c (.int .i8 0))), none⟩, ⟨(some 52), .mov (.t 51), none⟩, ⟨(some 53), .mov (.t 0), some (52, true)⟩, ⟨(some 54), .call (.k (.c (.fn 101 []))) [(.t 53), (.k (.c (.int .i64 2)))], some (52, true)⟩, ⟨(some 55), .pick (.t 52) (.t 54) (.k (.c (.bool false))), none⟩])
  (.cond (.t 55) (.region [⟨(some 56), .mov (.t 6), none⟩, ⟨(some 57), .bin .sub .int (.t 56) (.k (.c (.int .i8 1))), none⟩, ⟨(some 6), .mov (.t 57), none⟩]) .skip)))))
  (.region [⟨(some 29), .mov (.t 7), none⟩, ⟨(some 30), .bin .sub .int (.t 29) (.k (.c (.int .i64 1))), none⟩, ⟨(some 7), .mov (.t 30), none⟩])))
def k63 : KF := ⟨59, (.seq (.region [⟨(some 2), .alloc 36 [(.bool false), (.slice none 0 (.exact 0)), (.int .i8 0), (.int .i8 0), (.int .i8 0), (.int .i8 0), (.int .i8 0), (.int .i8 0), (.int .i8 0), (.int .i8 0), (.int .i8 0), (.int .i8 0), (.int .i8 0), (.int .i8 0), (.int .i8 0), (.int .i8 0), (.int .i8 0), (.int .i8 0)], none⟩])
  (.seq (.region [⟨(some 8), .mov (.t 0), none⟩, ⟨(some 9), .call (.k (.c (.fn 101 []))) [(.t 8), (.k (.c (.int .i64 2)))], none⟩, ⟨(some 10), .build [(.bool false), (.slice none 0 (.exact 0)), (.int .i8 0), (.int .i8 0), (.int .i8 0), (.int .i8 0), (.int .i8 0), (.int .i8 0), (.int .i8 0), (.int .i8 0), (.int .i8 0), (.int .i8 0), (.int .i8 0), (.int .i8 0), (.int .i8 0), (.int .i8 0), (.int .i8 0), (.int .i8 0)] [(0, 1, (.t 9))], none⟩, ⟨(some 3), .alloc 36 [(.bool false), (.slice none 0 (.exact 0)), (.int .i8 0), (.int .i8 0), (.int .i8 0), (.int .i8 0), (.int .i8 0), (.int .i8 0), (.int .i8 0), (.int .i8 0), (.int .i8 0), (.int .i8 0), (.int .i8 0), (.int .i8 0), (.int .i8 0), (.int .i8 0), (.int .i8 0), (.int .i8 0)], none⟩, ⟨none, .store 18 (.t 3) (.t 10), none⟩])
  (.seq (.region [⟨(some 11), .mov (.t 0), none⟩, ⟨(some 12), .call (.k (.c (.fn 73 []))) [(.t 11), (.k (.c (.int .i64 1073741824)))], none⟩, ⟨(some 13), .conv .u32 (.t 12), none⟩, ⟨(some 4), .mov (.t 13), none⟩])
  (.seq (.region [⟨(some 15), .mov (.t 4), none⟩, ⟨(some 16), .call (.k (.c (.fn 102 []))) [(.t 15)], none⟩, ⟨(some 14), .mov (.t 16), none⟩, ⟨(some 17), .ext (.t 14) 0, none⟩, ⟨(some 18), .ext (.t 14) 1, none⟩, ⟨(some 19), .fldA 2 (.t 3), none⟩, ⟨none, .store 16 (.t 19) (.t 17), none⟩, ⟨(some 4), .mov (.t 18), none⟩])
  (.seq (.region [⟨(some 20), .mov (.t 0), none⟩, ⟨(some 21), .call (.k (.c (.fn 73 []))) [(.t 20), (.k (.c (.int .i64 3)))], none⟩, ⟨(some 5), .mov (.t 21), none⟩])
  (.seq (.region [⟨(some 22), .mov (.t 0), none⟩, ⟨(some 23), .call (.k (.c (.fn 73 []))) [(.t 22), (.k (.c (.int .i64 5)))], none⟩, ⟨(some 24), .conv .i8 (.t 23), none⟩, ⟨(some 6), .mov (.t 24), none⟩])
  (.seq (.seq (.region [⟨(some 25), .mov (.t 0), none⟩, ⟨(some 26), .call (.k (.c (.fn 73 []))) [(.t 25), (.k (.c (.int .i64 6)))], none⟩, ⟨(some 7), .mov (.t 26), none⟩])
  (.block 0 (.loop l63_0)))
  (.seq (.region [⟨(some 58), .loadN 18 (.t 3), none⟩, ⟨none, .store 18 (.t 2) (.t 58), none⟩])
  .ret)))))))), [.cellN 2 18], false⟩
theorem c63 : kk 63 = some k63 := by kernel_rfl
/-- loop.example/g01263/spec.l00From -/
def k64 : KF := ⟨6, (.seq (.region [⟨(some 2), .mov (.k (.c (.ptr none))), none⟩])
  (.seq (.region [⟨(some 3), .mov (.t 0), none⟩, ⟨(some 4), .build [(.slice none 0 (.exact 0)), (.int .i64 0), (.int .u64 0)] [(0, 1, (.t 3))], none⟩, ⟨(some 5), .box 133 (.t 4), none⟩, ⟨(some 2), .mov (.t 5), none⟩])
  .ret)), [.tmp 2], false⟩
theorem c64 : kk 64 = some k64 := by kernel_rfl
/-- loop.example/g01263/spec.l01Grain -/
def l65_0 : KC := (.seq (.seq (.region [⟨(some 4), .mov (.t 3), none⟩, ⟨(some 5), .bin .lss .int (.t 4) (.k (.c (.int .i64 16))), none⟩])
  (.cond (.t 5) .skip (.exit 0)))
  (.seq (.block 1 (.seq (.region [⟨(some 8), .mov (.t 3), none⟩, ⟨(some 9), .idxA 16 1 (.t 1) (.t 8), none⟩, ⟨(some 10), .load1 (.t 9), none⟩, ⟨(some 11), .bin .lss .int (.t 10) (.k (.c (.int .i8 (-3)))), none⟩, ⟨(some 12), .mov (.t 11), none⟩, ⟨(some 13), .mov (.t 3), some (12, false)⟩, ⟨(some 14), .idxA 16 1 (.t 1) (.t 13), some (12, false)⟩, ⟨(some 15), .load1 (.t 14), some (12, false)⟩, ⟨(some 16), .bin .gtr .int (.t 15) (.k (.c (.int .i8 3))), some (12, false)⟩, ⟨(some 17), .pick (.t 12) (.k (.c (.bool true))) (.t 16), none⟩])
  (.cond (.t 17) (.seq (.region [⟨(some 2), .mov (.k (.c (.bool false))), none⟩])
  .ret) .skip)))
  (.region [⟨(some 6), .mov (.t 3), none⟩, ⟨(some 7), .bin .add .int (.t 6) (.k (.c (.int .i64 1))), none⟩, ⟨(some 3), .mov (.t 7), none⟩])))
def k65 : KF := ⟨18, (.seq (.region [⟨(some 1), .box 34 (.t 0), none⟩, ⟨(some 2), .mov (.k (.c (.bool false))), none⟩])
  (.seq (.seq (.region [⟨(some 3), .mov (.k (.c (.int .i64 0))), none⟩])
  (.block 0 (.loop l65_0)))
  (.seq (.region [⟨(some 2), .mov (.k (.c (.bool true))), none⟩])
  .ret))), [.tmp 2], true⟩
theorem c65 : kk 65 = some k65 := by kernel_rfl
/-- loop.example/g01263/spec.l01Opposite -/
def l66_0 : KC := (.seq (.seq (.region [⟨(some 4), .mov (.t 3), none⟩, ⟨(some 5), .bin .lss .int (.t 4) (.k (.c (.int .i64 16))), none⟩])
  (.cond (.t 5) .skip (.exit 0)))
  (.seq (.block 1 (.region [⟨(some 8), .mov (.t 3), none⟩, ⟨(some 9), .mov (.t 3), none⟩, ⟨(some 10), .idxA 16 1 (.t 1) (.t 9), none⟩, ⟨(some 11), .load1 (.t 10), none⟩, ⟨(some 12), .un .neg (.t 11), none⟩, ⟨(some 13), .idxA 16 1 (.t 1) (.t 8), none⟩, ⟨none, .store 1 (.t 13) (.t 12), none⟩]))
  (.region [⟨(some 6), .mov (.t 3), none⟩, ⟨(some 7), .bin .add .int (.t 6) (.k (.c (.int .i64 1))), none⟩, ⟨(some 3), .mov (.t 7), none⟩])))
def k66 : KF := ⟨15, (.seq (.region [⟨(some 1), .box 34 (.t 0), none⟩, ⟨(some 2), .alloc 34 [(.int .i8 0), (.int .i8 0), (.int .i8 0), (.int .i8 0), (.int .i8 0), (.int .i8 0), (.int .i8 0), (.int .i8 0), (.int .i8 0), (.int .i8 0), (.int .i8 0), (.int .i8 0), (.int .i8 0), (.int .i8 0), (.int .i8 0), (.int .i8 0)], none⟩])
  (.seq (.seq (.region [⟨(some 3), .mov (.k (.c (.int .i64 0))), none⟩])
  (.block 0 (.loop l66_0)))
  (.seq (.region [⟨(some 14), .loadN 16 (.t 1), none⟩, ⟨none, .store 16 (.t 2) (.t 14), none⟩])
  .ret))), [.cellN 2 16], true⟩
theorem c66 : kk 66 = some k66 := by kernel_rfl
/-- loop.example/g01263/impl.pairCode -/
def l67_0 : KC := (.seq (.region [⟨(some 15), .bin .lss .int (.t 14) (.t 13), none⟩])
  (.seq (.cond (.t 15) .skip (.exit 0))
  (.seq (.block 1 (.seq (.region [⟨(some 16), .idxS 18 (.t 12) (.t 14), none⟩, ⟨(some 17), .loadN 18 (.t 16), none⟩, ⟨(some 6), .alloc 36 [(.bool false), (.slice none 0 (.exact 0)), (.int .i8 0), (.int .i8 0), (.int .i8 0), (.int .i8 0), (.int .i8 0), (.int .i8 0), (.int .i8 0), (.int .i8 0), (.int .i8 0), (.int .i8 0), (.int .i8 0), (.int .i8 0), (.int .i8 0), (.int .i8 0), (.int .i8 0), (.int .i8 0)], none⟩, ⟨none, .store 18 (.t 6) (.t 17), none⟩])
  (.seq (.region [⟨(some 18), .loadN 18 (.t 6), none⟩, ⟨(some 19), .call (.k (.c (.fn 59 []))) [(.t 18)], none⟩, ⟨(some 20), .un .not (.t 19), none⟩])
  (.cond (.t 20) (.seq (.region [⟨(some 4), .mov (.k (.c (.int .i64 1))), none⟩])
  .ret) .skip))))
  (.region [⟨(some 21), .bin .add .int (.t 14) (.k (.c (.int .i64 1))), none⟩, ⟨(some 14), .mov (.t 21), none⟩]))))
def l67_1 : KC := (.seq (.region [⟨(some 28), .bin .lss .int (.t 27) (.t 26), none⟩])
  (.seq (.cond (.t 28) .skip (.exit 2))
  (.seq (.block 3 (.seq (.region [⟨(some 29), .idxS 18 (.t 25) (.t 27), none⟩, ⟨(some 30), .loadN 18 (.t 29), none⟩, ⟨(some 8), .alloc 36 [(.bool false), (.slice none 0 (.exact 0)), (.int .i8 0), (.int .i8 0), (.int .i8 0), (.int .i8 0), (.int .i8 0), (.int .i8 0), (.int .i8 0), (.int .i8 0), (.int .i8 0), (.int .i8 0), (.int .i8 0), (.int .i8 0), (.int .i8 0), (.int .i8 0), (.int .i8 0), (.int .i8 0)], none⟩, ⟨none, .store 18 (.t 8) (.t 30), none⟩])
  (.seq (.region [⟨(some 31), .fldA 0 (.t 8), none⟩, ⟨(some 32), .load1 (.t 31), none⟩])
  (.cond (.t 32) (.seq (.region [⟨(some 4), .mov (.k (.c (.int .i64 4))), none⟩])
  .ret) .skip))))
  (.region [⟨(some 33), .bin .add .int (.t 27) (.k (.c (.int .i64 1))), none⟩, ⟨(some 27), .mov (.t 33), none⟩]))))
def k67 : KF := ⟨34, (.seq (.region [⟨(some 2), .box 36 (.t 0), none⟩, ⟨(some 4), .mov (.k (.c (.int .i64 0))), none⟩])
  (.seq (.seq (.region [⟨(some 9), .loadN 18 (.t 2), none⟩, ⟨(some 10), .call (.k (.c (.fn 59 []))) [(.t 9)], none⟩, ⟨(some 11), .un .not (.t 10), none⟩])
  (.cond (.t 11) (.seq (.region [⟨(some 4), .mov (.k (.c (.int .i64 1))), none⟩])
  .ret) .skip))
  (.seq (.seq (.region [⟨(some 12), .mov (.t 1), none⟩, ⟨(some 13), .len false (.t 12), none⟩, ⟨(some 14), .mov (.k (.c (.int .i64 0))), none⟩])
  (.block 0 (.loop l67_0)))
  (.seq (.seq (.region [⟨(some 22), .fldA 0 (.t 2), none⟩, ⟨(some 23), .load1 (.t 22), none⟩, ⟨(some 24), .un .not (.t 23), none⟩])
  (.cond (.t 24) (.seq (.region [⟨(some 4), .mov (.k (.c (.int .i64 4))), none⟩])
  .ret) .skip))
  (.seq (.seq (.region [⟨(some 25), .mov (.t 1), none⟩, ⟨(some 26), .len false (.t 25), none⟩, ⟨(some 27), .mov (.k (.c (.int .i64 0))), none⟩])
  (.block 2 (.loop l67_1)))
  (.seq (.region [⟨(some 4), .mov (.k (.c (.int .i64 0))), none⟩])
  .ret)))))), [.tmp 4], true⟩
theorem c67 : kk 67 = some k67 := by kernel_rfl
/-- loop.example/g01263/impl.lies -/
def k68 : KF := ⟨25, (.seq (.region [⟨(some 2), .box 36 (.t 0), none⟩, ⟨(some 3), .box 36 (.t 1), none⟩, ⟨(some 4), .mov (.k (.c (.int .i64 0))), none⟩])
  (.seq (.drawn [(⟨(some 7), .loadN 18 (.t 2), none⟩, []), (⟨(some 9), .loadN 18 (.t 3), none⟩, []), (⟨(some 8), .call (.k (.c (.fn 104 []))) [(.t 7)], none⟩, [⟨(some 9), .loadN 18 (.t 3), none⟩]), (⟨(some 10), .call (.k (.c (.fn 104 []))) [(.t 9)], none⟩, []), (⟨(some 5), .alloc 135 [(.int .u64 0), (.int .u64 0), (.int .u64 0), (.int .u64 0)], none⟩, [⟨(some 7), .loadN 18 (.t 2), none⟩, ⟨(some 9), .loadN 18 (.t 3), none⟩]), (⟨(some 6), .alloc 135 [(.int .u64 0), (.int .u64 0), (.int .u64 0), (.int .u64 0)], none⟩, [⟨(some 7), .loadN 18 (.t 2), none⟩, ⟨(some 9), .loadN 18 (.t 3), none⟩]), (⟨none, .store 4 (.t 5) (.t 8), none⟩, []), (⟨none, .store 4 (.t 6) (.t 10), none⟩, [])])
  (.seq (.block 0 (.seq (.region [⟨(some 12), .fldA 1 (.t 2), none⟩, ⟨(some 13), .load1 (.t 12), none⟩, ⟨(some 14), .fldA 1 (.t 3), none⟩, ⟨(some 15), .load1 (.t 14), none⟩, ⟨(some 16), .call (.k (.c (.fn 105 []))) [(.t 13), (.t 15)], none⟩, ⟨(some 11), .mov (.t 16), none⟩])
  (.cond (.t 11) (.seq (.region [⟨(some 4), .mov (.k (.c (.int .i64 0))), none⟩])
  .ret) (.seq (.region [⟨(some 18), .loadN 4 (.t 6), none⟩, ⟨(some 19), .loadN 4 (.t 5), none⟩, ⟨(some 20), .call (.k (.c (.fn 106 []))) [(.t 18), (.t 19)], none⟩, ⟨(some 17), .mov (.t 20), none⟩])
  (.cond (.t 17) (.seq (.region [⟨(some 4), .mov (.k (.c (.int .i64 1))), none⟩])
  .ret) (.seq (.region [⟨(some 22), .loadN 4 (.t 5), none⟩, ⟨(some 23), .loadN 4 (.t 6), none⟩, ⟨(some 24), .call (.k (.c (.fn 106 []))) [(.t 22), (.t 23)], none⟩, ⟨(some 21), .mov (.t 24), none⟩])
  (.cond (.t 21) (.seq (.region [⟨(some 4), .mov (.k (.c (.int .i64 2))), none⟩])
  .ret) .skip)))))))
  (.seq (.region [⟨(some 4), .mov (.k (.c (.int .i64 3))), none⟩])
  .ret)))), [.tmp 4], true⟩
theorem c68 : kk 68 = some k68 := by kernel_rfl
/-- loop.example/g01263/impl.isWear -/
def k69 : KF := ⟨9, (.seq (.region [⟨(some 2), .mov (.k (.c (.bool false))), none⟩])
  (.seq (.region [⟨(some 3), .mov (.t 0), none⟩, ⟨(some 4), .bin .geq .int (.t 3) (.k (.c (.int .i64 0))), none⟩, ⟨(some 5), .mov (.t 4), none⟩, ⟨(some 6), .mov (.t 0), some (5, true)⟩, ⟨(some 7), .bin .leq .int (.t 6) (.k (.c (.int .i64 16))), some (5, true)⟩, ⟨(some 8), .pick (.t 5) (.t 7) (.k (.c (.bool false))), none⟩, ⟨(some 2), .mov (.t 8), none⟩])
  .ret)), [.tmp 2], true⟩
theorem c69 : kk 69 = some k69 := by kernel_rfl
/-- loop.example/g01263/impl.fits -/
def k70 : KF := ⟨20, (.seq (.region [⟨(some 3), .box 36 (.t 0), none⟩, ⟨(some 4), .box 36 (.t 1), none⟩, ⟨(some 6), .mov (.k (.c (.bool false))), none⟩])
  (.seq (.region [⟨(some 7), .fldA 1 (.t 3), none⟩, ⟨(some 8), .load1 (.t 7), none⟩, ⟨(some 9), .fldA 1 (.t 4), none⟩, ⟨(some 10), .load1 (.t 9), none⟩, ⟨(some 11), .call (.k (.c (.fn 105 []))) [(.t 8), (.t 10)], none⟩, ⟨(some 12), .mov (.t 11), none⟩, ⟨(some 13), .fldA 2 (.t 3), some (12, true)⟩, ⟨(some 14), .loadN 16 (.t 13), some (12, true)⟩, ⟨(some 15), .fldA 2 (.t 4), some (12, true)⟩, ⟨(some 16), .loadN 16 (.t 15), some (12, true)⟩, ⟨(some 17), .mov (.t 2), some (12, true)⟩, ⟨(some 18), .call (.k (.c (.fn 107 []))) [(.t 14), (.t 16), (.t 17)], some (12, true)⟩, ⟨(some 19), .pick (.t 12) (.t 18) (.k (.c (.bool false))), none⟩, ⟨(some 6), .mov (.t 19), none⟩])
  .ret)), [.tmp 6], true⟩
theorem c70 : kk 70 = some k70 := by kernel_rfl
/-- loop.example/g01263/impl.worn -/
def l71_0 : KC := (.seq (.region [⟨(some 9), .bin .lss .int (.t 8) (.k (.c (.int .i64 16))), none⟩])
  (.seq (.cond (.t 9) .skip (.exit 0))
  (.seq (.block 1 (.seq (.region [⟨(some 10), .mov (.t 8), none⟩, ⟨(some 6), .mov (.t 10), none⟩])
  (.seq (.drawn [(⟨(some 11), .mov (.t 6), none⟩, []), (⟨(some 12), .idxA 16 1 (.t 2) (.t 11), none⟩, []), (⟨(some 13), .load1 (.t 12), none⟩, []), (⟨(some 14), .mov (.t 6), none⟩, []), (⟨(some 15), .idxA 16 1 (.t 3) (.t 14), none⟩, []), (⟨(some 16), .load1 (.t 15), none⟩, []), (⟨(some 17), .bin .add .int (.t 13) (.t 16), none⟩, []), (⟨(some 18), .bin .neq .int (.t 17) (.k (.c (.int .i8 0))), none⟩, [])])
  (.cond (.t 18) (.region [⟨(some 19), .mov (.t 5), none⟩, ⟨(some 20), .mov (.t 6), none⟩, ⟨(some 21), .buildSl 2 1 [(.int .i64 0)] [(0, 1, (.t 20))], none⟩, ⟨(some 22), .app 2 1 8 (.t 19) (.t 21), none⟩, ⟨(some 5), .mov (.t 22), none⟩]) .skip))))
  (.region [⟨(some 23), .bin .add .int (.t 8) (.k (.c (.int .i64 1))), none⟩, ⟨(some 8), .mov (.t 23), none⟩]))))
def k71 : KF := ⟨25, (.seq (.region [⟨(some 2), .box 34 (.t 0), none⟩, ⟨(some 3), .box 34 (.t 1), none⟩, ⟨(some 4), .mov (.k (.c (.slice none 0 (.exact 0)))), none⟩])
  (.seq (.region [⟨(some 7), .buildSl 2 0 [] [], none⟩, ⟨(some 5), .mov (.t 7), none⟩])
  (.seq (.seq (.region [⟨(some 8), .mov (.k (.c (.int .i64 0))), none⟩])
  (.block 0 (.loop l71_0)))
  (.seq (.region [⟨(some 24), .mov (.t 5), none⟩, ⟨(some 4), .mov (.t 24), none⟩])
  .ret)))), [.tmp 4], false⟩
theorem c71 : kk 71 = some k71 := by kernel_rfl
/-- loop.example/g01263/spec.l04Ways -/
def l72_0 : KC := (.seq (.seq (.region [⟨(some 24), .mov (.t 5), none⟩, ⟨(some 25), .bin .leq .int (.t 24) (.k (.c (.int .i8 5))), none⟩])
  (.cond (.t 25) .skip (.exit 2)))
  (.seq (.block 3 (.seq (.region [⟨(some 28), .mov (.t 5), none⟩, ⟨(some 29), .mov (.t 4), none⟩, ⟨(some 30), .conv .i16 (.t 29), none⟩, ⟨(some 31), .build [(.int .i8 0), (.int .i8 0), (.int .i16 0), (.int .i16 0)] [(0, 1, (.k (.c (.int .i8 2)))), (1, 1, (.t 28)), (2, 1, (.t 30))], none⟩, ⟨(some 6), .alloc 38 [(.int .i8 0), (.int .i8 0), (.int .i16 0), (.int .i16 0)], none⟩, ⟨none, .store 4 (.t 6) (.t 31), none⟩])
  (.seq (.region [⟨(some 33), .mov (.t 0), none⟩, ⟨(some 34), .loadN 4 (.t 6), none⟩, ⟨(some 35), .call (.k (.c (.fn 58 []))) [(.t 33), (.t 34)], none⟩, ⟨(some 32), .mov (.t 35), none⟩, ⟨(some 36), .ext (.t 32) 0, none⟩, ⟨(some 37), .ext (.t 32) 1, none⟩, ⟨(some 7), .alloc 36 [(.bool false), (.slice none 0 (.exact 0)), (.int .i8 0), (.int .i8 0), (.int .i8 0), (.int .i8 0), (.int .i8 0), (.int .i8 0), (.int .i8 0), (.int .i8 0), (.int .i8 0), (.int .i8 0), (.int .i8 0), (.int .i8 0), (.int .i8 0), (.int .i8 0), (.int .i8 0), (.int .i8 0)], none⟩, ⟨none, .store 18 (.t 7) (.t 36), none⟩, ⟨(some 8), .mov (.t 37), none⟩])
  (.seq (.region [⟨(some 38), .mov (.t 8), none⟩, ⟨(some 39), .bin .eql .int (.t 38) (.k (.c (.int .i64 0))), none⟩])
  (.cond (.t 39) (.region [⟨(some 40), .mov (.t 3), none⟩, ⟨(some 41), .loadN 4 (.t 6), none⟩, ⟨(some 42), .buildSl 38 1 [(.int .i8 0), (.int .i8 0), (.int .i16 0), (.int .i16 0)] [(0, 4, (.t 41))], none⟩, ⟨(some 43), .app 38 4 6 (.t 40) (.t 42), none⟩, ⟨(some 3), .mov (.t 43), none⟩]) .skip)))))
  (.region [⟨(some 26), .mov (.t 5), none⟩, ⟨(some 27), .bin .add .int (.t 26) (.k (.c (.int .i8 1))), none⟩, ⟨(some 5), .mov (.t 27), none⟩])))
def l72_1 : KC := (.seq (.seq (.region [⟨(some 15), .mov (.t 4), none⟩, ⟨(some 16), .mov (.t 0), none⟩, ⟨(some 17), .nilchk (.t 16), none⟩, ⟨(some 18), .fldA 1 (.t 17), none⟩, ⟨(some 19), .load1 (.t 18), none⟩, ⟨(some 20), .len false (.t 19), none⟩, ⟨(some 21), .bin .lss .int (.t 15) (.t 20), none⟩])
  (.cond (.t 21) .skip (.exit 0)))
  (.seq (.block 1 (.seq (.region [⟨(some 5), .mov (.k (.c (.int .i8 0))), none⟩])
  (.block 2 (.loop l72_0))))
  (.region [⟨(some 22), .mov (.t 4), none⟩, ⟨(some 23), .bin .add .int (.t 22) (.k (.c (.int .i64 1))), none⟩, ⟨(some 4), .mov (.t 23), none⟩])))
def l72_2 : KC := (.seq (.seq (.region [⟨(some 48), .mov (.t 10), none⟩, ⟨(some 49), .bin .leq .int (.t 48) (.k (.c (.int .i64 200))), none⟩])
  (.cond (.t 49) .skip (.exit 6)))
  (.seq (.block 7 (.seq (.region [⟨(some 52), .mov (.t 9), none⟩, ⟨(some 53), .mov (.t 10), none⟩, ⟨(some 54), .conv .i16 (.t 53), none⟩, ⟨(some 55), .build [(.int .i8 0), (.int .i8 0), (.int .i16 0), (.int .i16 0)] [(0, 1, (.k (.c (.int .i8 1)))), (1, 1, (.t 52)), (3, 1, (.t 54))], none⟩, ⟨(some 11), .alloc 38 [(.int .i8 0), (.int .i8 0), (.int .i16 0), (.int .i16 0)], none⟩, ⟨none, .store 4 (.t 11) (.t 55), none⟩])
  (.seq (.region [⟨(some 57), .mov (.t 0), none⟩, ⟨(some 58), .loadN 4 (.t 11), none⟩, ⟨(some 59), .call (.k (.c (.fn 58 []))) [(.t 57), (.t 58)], none⟩, ⟨(some 56), .mov (.t 59), none⟩, ⟨(some 60), .ext (.t 56) 0, none⟩, ⟨(some 61), .ext (.t 56) 1, none⟩, ⟨(some 12), .alloc 36 [(.bool false), (.slice none 0 (.exact 0)), (.int .i8 0), (.int .i8 0), (.int .i8 0), (.int .i8 0), (.int .i8 0), (.int .i8 0), (.int .i8 0), (.int .i8 0), (.int .i8 0), (.int .i8 0), (.int .i8 0), (.int .i8 0), (.int .i8 0), (.int .i8 0), (.int .i8 0), (.int .i8 0)], none⟩, ⟨none, .store 18 (.t 12) (.t 60), none⟩, ⟨(some 13), .mov (.t 61), none⟩])
  (.seq (.region [⟨(some 62), .mov (.t 13), none⟩, ⟨(some 63), .bin .eql .int (.t 62) (.k (.c (.int .i64 0))), none⟩])
  (.cond (.t 63) (.seq (.region [⟨(some 64), .mov (.t 3), none⟩, ⟨(some 65), .loadN 4 (.t 11), none⟩, ⟨(some 66), .buildSl 38 1 [(.int .i8 0), (.int .i8 0), (.int .i16 0), (.int .i16 0)] [(0, 4, (.t 65))], none⟩, ⟨(some 67), .app 38 4 6 (.t 64) (.t 66), none⟩, ⟨(some 3), .mov (.t 67), none⟩])
  (.exit 6)) .skip)))))
  (.region [⟨(some 50), .mov (.t 10), none⟩, ⟨(some 51), .bin .add .int (.t 50) (.k (.c (.int .i64 1))), none⟩, ⟨(some 10), .mov (.t 51), none⟩])))
def l72_3 : KC := (.seq (.seq (.region [⟨(some 44), .mov (.t 9), none⟩, ⟨(some 45), .bin .leq .int (.t 44) (.k (.c (.int .i8 5))), none⟩])
  (.cond (.t 45) .skip (.exit 4)))
  (.seq (.block 5 (.seq (.region [⟨(some 10), .mov (.k (.c (.int .i64 0))), none⟩])
  (.block 6 (.loop l72_2))))
  (.region [⟨(some 46), .mov (.t 9), none⟩, ⟨(some 47), .bin .add .int (.t 46) (.k (.c (.int .i8 1))), none⟩, ⟨(some 9), .mov (.t 47), none⟩])))
def k72 : KF := ⟨69, (.seq (.region [⟨(some 2), .mov (.k (.c (.slice none 0 (.exact 0)))), none⟩])
  (.seq (.region [⟨(some 14), .buildSl 38 0 [] [], none⟩, ⟨(some 3), .mov (.t 14), none⟩])
  (.seq (.seq (.region [⟨(some 4), .mov (.k (.c (.int .i64 0))), none⟩])
  (.block 0 (.loop l72_1)))
  (.seq (.seq (.region [⟨(some 9), .mov (.k (.c (.int .i8 0))), none⟩])
  (.block 4 (.loop l72_3)))
  (.seq (.region [⟨(some 68), .mov (.t 3), none⟩, ⟨(some 2), .mov (.t 68), none⟩])
  .ret))))), [.tmp 2], false⟩
theorem c72 : kk 72 = some k72 := by kernel_rfl
/-- (*loop.example/g01263/spec.l00Src).pick -/
def k73 : KF := ⟨20, (.seq (.region [⟨(some 4), .mov (.k (.c (.int .i64 0))), none⟩])
  (.seq (.seq (.region [⟨(some 6), .mov (.t 1), none⟩, ⟨(some 7), .bin .leq .int (.t 6) (.k (.c (.int .i64 1))), none⟩])
  (.cond (.t 7) (.seq (.region [⟨(some 4), .mov (.k (.c (.int .i64 0))), none⟩])
  .ret) .skip))
  (.seq (.region [⟨(some 8), .mov (.t 0), none⟩, ⟨(some 9), .call (.k (.c (.fn 108 []))) [(.t 8)], none⟩, ⟨(some 5), .mov (.t 9), none⟩])
  (.seq (.seq (.region [⟨(some 10), .mov (.t 1), none⟩, ⟨(some 11), .bin .gtr .int (.t 10) (.k (.c (.int .i64 200))), none⟩])
  (.cond (.t 11) (.region [⟨(some 12), .mov (.t 5), none⟩, ⟨(some 13), .bin .mul .int (.t 12) (.k (.c (.int .i64 256))), none⟩, ⟨(some 14), .mov (.t 0), none⟩, ⟨(some 15), .call (.k (.c (.fn 108 []))) [(.t 14)], none⟩, ⟨(some 16), .bin .add .int (.t 13) (.t 15), none⟩, ⟨(some 5), .mov (.t 16), none⟩]) .skip))
  (.seq (.region [⟨(some 17), .mov (.t 5), none⟩, ⟨(some 18), .mov (.t 1), none⟩, ⟨(some 19), .bin .rem .int (.t 17) (.t 18), none⟩, ⟨(some 4), .mov (.t 19), none⟩])
  .ret))))), [.tmp 4], true⟩
theorem c73 : kk 73 = some k73 := by kernel_rfl
/-- loop.example/g01263/spec.l04Pair -/
def k74 : KF := ⟨24, (.seq (.region [⟨(some 4), .mov (.k (.c (.int .i64 0))), none⟩])
  (.seq (.seq (.region [⟨(some 5), .mov (.t 0), none⟩, ⟨(some 6), .call (.k (.c (.fn 57 []))) [(.t 5)], none⟩, ⟨(some 7), .un .not (.t 6), none⟩, ⟨(some 8), .mov (.t 7), none⟩, ⟨(some 9), .mov (.t 1), some (8, false)⟩, ⟨(some 10), .call (.k (.c (.fn 57 []))) [(.t 9)], some (8, false)⟩, ⟨(some 11), .un .not (.t 10), some (8, false)⟩, ⟨(some 12), .pick (.t 8) (.k (.c (.bool true))) (.t 11), none⟩])
  (.cond (.t 12) (.seq (.region [⟨(some 4), .mov (.k (.c (.int .i64 1))), none⟩])
  .ret) .skip))
  (.seq (.seq (.region [⟨(some 13), .mov (.t 0), none⟩, ⟨(some 14), .nilchk (.t 13), none⟩, ⟨(some 15), .fldA 0 (.t 14), none⟩, ⟨(some 16), .load1 (.t 15), none⟩, ⟨(some 17), .un .not (.t 16), none⟩, ⟨(some 18), .mov (.t 17), none⟩, ⟨(some 19), .mov (.t 1), some (18, false)⟩, ⟨(some 20), .nilchk (.t 19), some (18, false)⟩, ⟨(some 21), .fldA 0 (.t 20), some (18, false)⟩, ⟨(some 22), .load1 (.t 21), some (18, false)⟩, ⟨(some 23), .pick (.t 18) (.k (.c (.bool true))) (.t 22), none⟩])
  (.cond (.t 23) (.seq (.region [⟨(some 4), .mov (.k (.c (.int .i64 4))), none⟩])
  .ret) .skip))
  (.seq (.region [⟨(some 4), .mov (.k (.c (.int .i64 0))), none⟩])
  .ret)))), [.tmp 4], true⟩
theorem c74 : kk 74 = some k74 := by kernel_rfl
/-- loop.example/g01263/spec.l00In -/
def k75 : KF := ⟨15, (.seq (.region [⟨(some 6), .mov (.k (.c (.bool false))), none⟩])
  (.seq (.region [⟨(some 7), .mov (.t 0), none⟩, ⟨(some 8), .mov (.t 1), none⟩, ⟨(some 9), .bin .geq .int (.t 7) (.t 8), none⟩, ⟨(some 10), .mov (.t 9), none⟩, ⟨(some 11), .mov (.t 0), some (10, true)⟩, ⟨(some 12), .mov (.t 2), some (10, true)⟩, ⟨(some 13), .bin .leq .int (.t 11) (.t 12), some (10, true)⟩, ⟨(some 14), .pick (.t 10) (.t 13) (.k (.c (.bool false))), none⟩, ⟨(some 6), .mov (.t 14), none⟩])
  .ret)), [.tmp 6], true⟩
theorem c75 : kk 75 = some k75 := by kernel_rfl
/-- loop.example/g01263/spec.l04Fits -/
def k76 : KF := ⟨28, (.seq (.region [⟨(some 6), .mov (.k (.c (.bool false))), none⟩])
  (.seq (.drawn [(⟨(some 7), .mov (.t 0), none⟩, []), (⟨(some 8), .nilchk (.t 7), none⟩, []), (⟨(some 9), .fldA 1 (.t 8), none⟩, []), (⟨(some 10), .load1 (.t 9), none⟩, []), (⟨(some 11), .mov (.t 1), none⟩, []), (⟨(some 12), .nilchk (.t 11), none⟩, []), (⟨(some 13), .fldA 1 (.t 12), none⟩, []), (⟨(some 14), .load1 (.t 13), none⟩, []), (⟨(some 15), .call (.k (.c (.fn 109 []))) [(.t 10), (.t 14)], none⟩, []), (⟨(some 16), .mov (.t 15), none⟩, []), (⟨(some 17), .mov (.t 0), some (16, true)⟩, []), (⟨(some 18), .nilchk (.t 17), some (16, true)⟩, []), (⟨(some 19), .fldA 2 (.t 18), some (16, true)⟩, []), (⟨(some 20), .loadN 16 (.t 19), some (16, true)⟩, []), (⟨(some 21), .mov (.t 1), some (16, true)⟩, []), (⟨(some 22), .nilchk (.t 21), some (16, true)⟩, []), (⟨(some 23), .fldA 2 (.t 22), some (16, true)⟩, []), (⟨(some 24), .loadN 16 (.t 23), some (16, true)⟩, []), (⟨(some 25), .mov (.t 2), some (16, true)⟩, []), (⟨(some 26), .call (.k (.c (.fn 110 []))) [(.t 20), (.t 24), (.t 25)], some (16, true)⟩, []), (⟨(some 27), .pick (.t 16) (.t 26) (.k (.c (.bool false))), none⟩, []), (⟨(some 6), .mov (.t 27), none⟩, [])])
  .ret)), [.tmp 6], true⟩
theorem c76 : kk 76 = some k76 := by kernel_rfl
/-- loop.example/g01263/spec.l04Lies -/
def k77 : KF := ⟨28, (.seq (.region [⟨(some 4), .mov (.k (.c (.int .i64 0))), none⟩])
  (.seq (.seq (.drawn [(⟨(some 7), .mov (.t 0), none⟩, []), (⟨(some 8), .nilchk (.t 7), none⟩, []), (⟨(some 9), .fldA 1 (.t 8), none⟩, []), (⟨(some 10), .load1 (.t 9), none⟩, []), (⟨(some 11), .mov (.t 1), none⟩, []), (⟨(some 12), .nilchk (.t 11), none⟩, []), (⟨(some 13), .fldA 1 (.t 12), none⟩, []), (⟨(some 14), .load1 (.t 13), none⟩, []), (⟨(some 15), .call (.k (.c (.fn 109 []))) [(.t 10), (.t 14)], none⟩, [])])
  (.cond (.t 15) (.seq (.region [⟨(some 4), .mov (.k (.c (.int .i64 0))), none⟩])
  .ret) .skip))
  (.seq (.region [⟨(some 16), .mov (.t 0), none⟩, ⟨(some 17), .call (.k (.c (.fn 111 []))) [(.t 16)], none⟩, ⟨(some 5), .alloc 135 [(.int .u64 0), (.int .u64 0), (.int .u64 0), (.int .u64 0)], none⟩, ⟨none, .store 4 (.t 5) (.t 17), none⟩])
  (.seq (.region [⟨(some 18), .mov (.t 1), none⟩, ⟨(some 19), .call (.k (.c (.fn 111 []))) [(.t 18)], none⟩, ⟨(some 6), .alloc 135 [(.int .u64 0), (.int .u64 0), (.int .u64 0), (.int .u64 0)], none⟩, ⟨none, .store 4 (.t 6) (.t 19), none⟩])
  (.seq (.block 0 (.seq (.region [⟨(some 21), .loadN 4 (.t 6), none⟩, ⟨(some 22), .loadN 4 (.t 5), none⟩, ⟨(some 23), .call (.k (.c (.fn 112 []))) [(.t 21), (.t 22)], none⟩, ⟨(some 20), .mov (.t 23), none⟩])
  (.cond (.t 20) (.seq (.region [⟨(some 4), .mov (.k (.c (.int .i64 1))), none⟩])
  .ret) (.seq (.region [⟨(some 25), .loadN 4 (.t 5), none⟩, ⟨(some 26), .loadN 4 (.t 6), none⟩, ⟨(some 27), .call (.k (.c (.fn 112 []))) [(.t 25), (.t 26)], none⟩, ⟨(some 24), .mov (.t 27), none⟩])
  (.cond (.t 24) (.seq (.region [⟨(some 4), .mov (.k (.c (.int .i64 2))), none⟩])
  .ret) .skip)))))
  (.seq (.region [⟨(some 4), .mov (.k (.c (.int .i64 3))), none⟩])
  .ret)))))), [.tmp 4], true⟩
theorem c77 : kk 77 = some k77 := by kernel_rfl
/-- loop.example/g01263/spec.l04Worn -/
def l78_0 : KC := (.seq (.seq (.region [⟨(some 8), .mov (.t 6), none⟩, ⟨(some 9), .bin .lss .int (.t 8) (.k (.c (.int .i64 16))), none⟩])
  (.cond (.t 9) .skip (.exit 0)))
  (.seq (.block 1 (.seq (.drawn [(⟨(some 12), .mov (.t 6), none⟩, []), (⟨(some 13), .idxA 16 1 (.t 2) (.t 12), none⟩, []), (⟨(some 14), .load1 (.t 13), none⟩, []), (⟨(some 15), .mov (.t 6), none⟩, []), (⟨(some 16), .idxA 16 1 (.t 3) (.t 15), none⟩, []), (⟨(some 17), .load1 (.t 16), none⟩, []), (⟨(some 18), .bin .add .int (.t 14) (.t 17), none⟩, []), (⟨(some 19), .bin .neq .int (.t 18) (.k (.c (.int .i8 0))), none⟩, [])])
  (.cond (.t 19) (.region [⟨(some 20), .mov (.t 5), none⟩, ⟨(some 21), .mov (.t 6), none⟩, ⟨(some 22), .buildSl 2 1 [(.int .i64 0)] [(0, 1, (.t 21))], none⟩, ⟨(some 23), .app 2 1 8 (.t 20) (.t 22), none⟩, ⟨(some 5), .mov (.t 23), none⟩]) .skip)))
  (.region [⟨(some 10), .mov (.t 6), none⟩, ⟨(some 11), .bin .add .int (.t 10) (.k (.c (.int .i64 1))), none⟩, ⟨(some 6), .mov (.t 11), none⟩])))
def k78 : KF := ⟨25, (.seq (.region [⟨(some 2), .box 34 (.t 0), none⟩, ⟨(some 3), .box 34 (.t 1), none⟩, ⟨(some 4), .mov (.k (.c (.slice none 0 (.exact 0)))), none⟩])
  (.seq (.region [⟨(some 7), .buildSl 2 0 [] [], none⟩, ⟨(some 5), .mov (.t 7), none⟩])
  (.seq (.seq (.region [⟨(some 6), .mov (.k (.c (.int .i64 0))), none⟩])
  (.block 0 (.loop l78_0)))
  (.seq (.region [⟨(some 24), .mov (.t 5), none⟩, ⟨(some 4), .mov (.t 24), none⟩])
  .ret)))), [.tmp 4], false⟩
theorem c78 : kk 78 = some k78 := by kernel_rfl
/-- slices.Equal[[]int64,int64] -/
def l79_0 : KC := (.seq (.region [⟨(some 14), .bin .lss .int (.t 13) (.t 12), none⟩])
  (.seq (.cond (.t 14) .skip (.exit 0))
  (.seq (.block 1 (.seq (.region [⟨(some 15), .mov (.t 13), none⟩, ⟨(some 5), .mov (.t 15), none⟩])
  (.seq (.drawn [(⟨(some 16), .mov (.t 0), none⟩, []), (⟨(some 17), .mov (.t 5), none⟩, []), (⟨(some 18), .idxS 1 (.t 16) (.t 17), none⟩, []), (⟨(some 19), .load1 (.t 18), none⟩, []), (⟨(some 20), .mov (.t 1), none⟩, []), (⟨(some 21), .mov (.t 5), none⟩, []), (⟨(some 22), .idxS 1 (.t 20) (.t 21), none⟩, []), (⟨(some 23), .load1 (.t 22), none⟩, []), (⟨(some 24), .bin .neq .int (.t 19) (.t 23), none⟩, [])])
  (.cond (.t 24) (.seq (.region [⟨(some 4), .mov (.k (.c (.bool false))), none⟩])
  .ret) .skip))))
  (.region [⟨(some 25), .bin .add .int (.t 13) (.k (.c (.int .i64 1))), none⟩, ⟨(some 13), .mov (.t 25), none⟩]))))
def k79 : KF := ⟨26, (.seq (.region [⟨(some 4), .mov (.k (.c (.bool false))), none⟩])
  (.seq (.seq (.region [⟨(some 6), .mov (.t 0), none⟩, ⟨(some 7), .len false (.t 6), none⟩, ⟨(some 8), .mov (.t 1), none⟩, ⟨(some 9), .len false (.t 8), none⟩, ⟨(some 10), .bin .neq .int (.t 7) (.t 9), none⟩])
  (.cond (.t 10) (.seq (.region [⟨(some 4), .mov (.k (.c (.bool false))), none⟩])
  .ret) .skip))
  (.seq (.seq (.region [⟨(some 11), .mov (.t 0), none⟩, ⟨(some 12), .len false (.t 11), none⟩, ⟨(some 13), .mov (.k (.c (.int .i64 0))), none⟩])
  (.block 0 (.loop l79_0)))
  (.seq (.region [⟨(some 4), .mov (.k (.c (.bool true))), none⟩])
  .ret)))), [.tmp 4], true⟩
theorem c79 : kk 79 = some k79 := by kernel_rfl
/-- loop.example/g01263/spec.l00Same -/
def l80_0 : KC := (.seq (.seq (.region [⟨(some 11), .mov (.t 5), none⟩, ⟨(some 12), .mov (.t 0), none⟩, ⟨(some 13), .len false (.t 12), none⟩, ⟨(some 14), .bin .lss .int (.t 11) (.t 13), none⟩])
  (.cond (.t 14) .skip (.exit 0)))
  (.seq (.block 1 (.seq (.drawn [(⟨(some 17), .mov (.t 0), none⟩, []), (⟨(some 18), .mov (.t 5), none⟩, []), (⟨(some 19), .idxS 1 (.t 17) (.t 18), none⟩, []), (⟨(some 20), .load1 (.t 19), none⟩, []), (⟨(some 21), .mov (.t 1), none⟩, []), (⟨(some 22), .mov (.t 5), none⟩, []), (⟨(some 23), .idxS 1 (.t 21) (.t 22), none⟩, []), (⟨(some 24), .load1 (.t 23), none⟩, []), (⟨(some 25), .bin .neq .int (.t 20) (.t 24), none⟩, [])])
  (.cond (.t 25) (.seq (.region [⟨(some 4), .mov (.k (.c (.bool false))), none⟩])
  .ret) .skip)))
  (.region [⟨(some 15), .mov (.t 5), none⟩, ⟨(some 16), .bin .add .int (.t 15) (.k (.c (.int .i64 1))), none⟩, ⟨(some 5), .mov (.t 16), none⟩])))
def k80 : KF := ⟨26, (.seq (.region [⟨(some 4), .mov (.k (.c (.bool false))), none⟩])
  (.seq (.seq (.region [⟨(some 6), .mov (.t 0), none⟩, ⟨(some 7), .len false (.t 6), none⟩, ⟨(some 8), .mov (.t 1), none⟩, ⟨(some 9), .len false (.t 8), none⟩, ⟨(some 10), .bin .neq .int (.t 7) (.t 9), none⟩])
  (.cond (.t 10) (.seq (.region [⟨(some 4), .mov (.k (.c (.bool false))), none⟩])
  .ret) .skip))
  (.seq (.seq (.region [⟨(some 5), .mov (.k (.c (.int .i64 0))), none⟩])
  (.block 0 (.loop l80_0)))
  (.seq (.region [⟨(some 4), .mov (.k (.c (.bool true))), none⟩])
  .ret)))), [.tmp 4], true⟩
theorem c80 : kk 80 = some k80 := by kernel_rfl
/-- loop.example/g01263/impl.misfits -/
def l81_0 : KC := (.seq (.region [⟨(some 20), .bin .lss .int (.t 19) (.t 18), none⟩])
  (.seq (.cond (.t 20) .skip (.exit 0))
  (.seq (.block 1 (.seq (.region [⟨(some 21), .mov (.t 19), none⟩, ⟨(some 8), .mov (.t 21), none⟩])
  (.seq (.drawn [(⟨(some 22), .mov (.t 8), none⟩, []), (⟨(some 23), .mov (.t 6), none⟩, []), (⟨(some 24), .len false (.t 23), none⟩, []), (⟨(some 25), .bin .geq .int (.t 22) (.t 24), none⟩, []), (⟨(some 26), .mov (.t 25), none⟩, []), (⟨(some 27), .mov (.t 8), some (26, false)⟩, []), (⟨(some 28), .mov (.t 7), some (26, false)⟩, []), (⟨(some 29), .len false (.t 28), some (26, false)⟩, []), (⟨(some 30), .bin .geq .int (.t 27) (.t 29), some (26, false)⟩, []), (⟨(some 31), .pick (.t 26) (.k (.c (.bool true))) (.t 30), none⟩, []), (⟨(some 32), .mov (.t 31), none⟩, []), (⟨(some 33), .mov (.t 6), some (32, false)⟩, []), (⟨(some 34), .mov (.t 8), some (32, false)⟩, []), (⟨(some 35), .idxS 2 (.t 33) (.t 34), some (32, false)⟩, []), (⟨(some 36), .loadN 2 (.t 35), some (32, false)⟩, []), (⟨(some 37), .mov (.t 7), some (32, false)⟩, []), (⟨(some 38), .mov (.t 8), some (32, false)⟩, []), (⟨(some 39), .idxS 2 (.t 37) (.t 38), some (32, false)⟩, []), (⟨(some 40), .loadN 2 (.t 39), some (32, false)⟩, []), (⟨(some 41), .bin .neq (.agg [.int, .int]) (.t 36) (.t 40), some (32, false)⟩, []), (⟨(some 42), .pick (.t 32) (.k (.c (.bool true))) (.t 41), none⟩, [])])
  (.cond (.t 42) (.region [⟨(some 43), .mov (.t 5), none⟩, ⟨(some 44), .mov (.t 8), none⟩, ⟨(some 45), .buildSl 2 1 [(.int .i64 0)] [(0, 1, (.t 44))], none⟩, ⟨(some 46), .app 2 1 8 (.t 43) (.t 45), none⟩, ⟨(some 5), .mov (.t 46), none⟩]) .skip))))
  (.region [⟨(some 47), .bin .add .int (.t 19) (.k (.c (.int .i64 1))), none⟩, ⟨(some 19), .mov (.t 47), none⟩]))))
def k81 : KF := ⟨49, (.seq (.region [⟨(some 2), .box 36 (.t 0), none⟩, ⟨(some 3), .box 36 (.t 1), none⟩, ⟨(some 4), .mov (.k (.c (.slice none 0 (.exact 0)))), none⟩])
  (.seq (.region [⟨(some 9), .buildSl 2 0 [] [], none⟩, ⟨(some 5), .mov (.t 9), none⟩])
  (.seq (.drawn [(⟨(some 10), .fldA 1 (.t 2), none⟩, []), (⟨(some 11), .load1 (.t 10), none⟩, []), (⟨(some 12), .fldA 1 (.t 3), none⟩, []), (⟨(some 13), .load1 (.t 12), none⟩, []), (⟨(some 6), .mov (.t 11), none⟩, []), (⟨(some 7), .mov (.t 13), none⟩, [])])
  (.seq (.seq (.region [⟨(some 14), .mov (.t 6), none⟩, ⟨(some 15), .len false (.t 14), none⟩, ⟨(some 16), .mov (.t 7), none⟩, ⟨(some 17), .len false (.t 16), none⟩, ⟨(some 18), .max [(.t 15), (.t 17)], none⟩, ⟨(some 19), .mov (.k (.c (.int .i64 0))), none⟩])
  (.block 0 (.loop l81_0)))
  (.seq (.region [⟨(some 48), .mov (.t 5), none⟩, ⟨(some 4), .mov (.t 48), none⟩])
  .ret))))), [.tmp 4], false⟩
theorem c81 : kk 81 = some k81 := by kernel_rfl
/-- loop.example/g01263/spec.l04Copy -/
def k85 : KF := ⟨17, (.seq (.region [⟨(some 2), .alloc 36 [(.bool false), (.slice none 0 (.exact 0)), (.int .i8 0), (.int .i8 0), (.int .i8 0), (.int .i8 0), (.int .i8 0), (.int .i8 0), (.int .i8 0), (.int .i8 0), (.int .i8 0), (.int .i8 0), (.int .i8 0), (.int .i8 0), (.int .i8 0), (.int .i8 0), (.int .i8 0), (.int .i8 0)], none⟩])
  (.seq (.drawn [(⟨(some 3), .mov (.t 0), none⟩, []), (⟨(some 4), .nilchk (.t 3), none⟩, []), (⟨(some 5), .fldA 0 (.t 4), none⟩, []), (⟨(some 6), .load1 (.t 5), none⟩, []), (⟨(some 7), .mov (.t 0), none⟩, []), (⟨(some 8), .nilchk (.t 7), none⟩, []), (⟨(some 9), .fldA 1 (.t 8), none⟩, []), (⟨(some 10), .load1 (.t 9), none⟩, []), (⟨(some 12), .mov (.t 0), none⟩, []), (⟨(some 13), .nilchk (.t 12), none⟩, []), (⟨(some 14), .fldA 2 (.t 13), none⟩, []), (⟨(some 15), .loadN 16 (.t 14), none⟩, []), (⟨(some 11), .call (.k (.c (.fn 114 []))) [(.t 10)], none⟩, [⟨(some 6), .load1 (.t 5), none⟩, ⟨(some 15), .loadN 16 (.t 14), none⟩]), (⟨(some 16), .build [(.bool false), (.slice none 0 (.exact 0)), (.int .i8 0), (.int .i8 0), (.int .i8 0), (.int .i8 0), (.int .i8 0), (.int .i8 0), (.int .i8 0), (.int .i8 0), (.int .i8 0), (.int .i8 0), (.int .i8 0), (.int .i8 0), (.int .i8 0), (.int .i8 0), (.int .i8 0), (.int .i8 0)] [(0, 1, (.t 6)), (1, 1, (.t 11)), (2, 16, (.t 15))], none⟩, []), (⟨none, .store 18 (.t 2) (.t 16), none⟩, [])])
  .ret)), [.cellN 2 18], false⟩
theorem c85 : kk 85 = some k85 := by kernel_rfl
/-- loop.example/g01263/spec.l01Worths -/
def k89 : KF := ⟨2, (.seq (.region [⟨(some 0), .mov (.k (.c (.slice none 0 (.exact 0)))), none⟩])
  (.seq (.region [⟨(some 1), .buildSl 2 6 [(.int .i64 0), (.int .i64 0), (.int .i64 0), (.int .i64 0), (.int .i64 0), (.int .i64 0)] [(0, 1, (.k (.c (.int .i64 1)))), (1, 1, (.k (.c (.int .i64 12)))), (2, 1, (.k (.c (.int .i64 240)))), (3, 1, (.k (.c (.int .i64 4800)))), (4, 1, (.k (.c (.int .i64 24000)))), (5, 1, (.k (.c (.int .i64 240000))))], none⟩, ⟨(some 0), .mov (.t 1), none⟩])
  .ret)), [.tmp 0], false⟩
theorem c89 : kk 89 = some k89 := by kernel_rfl
/-- loop.example/g01263/impl.worth -/
def k91 : KF := ⟨7, (.seq (.region [⟨(some 2), .mov (.k (.c (.int .i64 0))), none⟩])
  (.seq (.region [⟨(some 3), .buildSl 2 6 [(.int .i64 0), (.int .i64 0), (.int .i64 0), (.int .i64 0), (.int .i64 0), (.int .i64 0)] [(0, 1, (.k (.c (.int .i64 1)))), (1, 1, (.k (.c (.int .i64 12)))), (2, 1, (.k (.c (.int .i64 240)))), (3, 1, (.k (.c (.int .i64 4800)))), (4, 1, (.k (.c (.int .i64 24000)))), (5, 1, (.k (.c (.int .i64 240000))))], none⟩, ⟨(some 4), .mov (.t 0), none⟩, ⟨(some 5), .idxS 1 (.t 3) (.t 4), none⟩, ⟨(some 6), .load1 (.t 5), none⟩, ⟨(some 2), .mov (.t 6), none⟩])
  .ret)), [.tmp 2], true⟩
theorem c91 : kk 91 = some k91 := by kernel_rfl
/-- loop.example/g01263/spec.l01Notches -/
def l93_0 : KC := (.seq (.seq (.region [⟨(some 8), .mov (.t 3), none⟩, ⟨(some 9), .mov (.t 0), none⟩, ⟨(some 10), .len false (.t 9), none⟩, ⟨(some 11), .bin .lss .int (.t 8) (.t 10), none⟩])
  (.cond (.t 11) .skip (.exit 0)))
  (.seq (.block 1 (.seq (.region [⟨(some 14), .mov (.t 0), none⟩, ⟨(some 15), .mov (.t 3), none⟩, ⟨(some 16), .idxS 2 (.t 14) (.t 15), none⟩, ⟨(some 17), .loadN 2 (.t 16), none⟩, ⟨(some 4), .alloc 119 [(.int .i8 0), (.int .i16 0)], none⟩, ⟨none, .store 2 (.t 4) (.t 17), none⟩])
  (.seq (.seq (.region [⟨(some 18), .fldA 0 (.t 4), none⟩, ⟨(some 19), .load1 (.t 18), none⟩, ⟨(some 20), .conv .i64 (.t 19), none⟩, ⟨(some 21), .call (.k (.c (.fn 95 []))) [(.t 20)], none⟩, ⟨(some 22), .un .not (.t 21), none⟩, ⟨(some 23), .mov (.t 22), none⟩, ⟨(some 24), .fldA 1 (.t 4), some (23, false)⟩, ⟨(some 25), .load1 (.t 24), some (23, false)⟩, ⟨(some 26), .bin .lss .int (.t 25) (.k (.c (.int .i16 0))), some (23, false)⟩, ⟨(some 27), .pick (.t 23) (.k (.c (.bool true))) (.t 26), none⟩, ⟨(some 28), .mov (.t 27), none⟩, ⟨(some 29), .loadN 2 (.t 4), some (28, false)⟩, ⟨(some 30), .call (.k (.c (.fn 115 []))) [(.t 29)], some (28, false)⟩, ⟨(some 31), .bin .gtr .int (.t 30) (.k (.c (.int .i64 200))), some (28, false)⟩, ⟨(some 32), .pick (.t 28) (.k (.c (.bool true))) (.t 31), none⟩])
  (.cond (.t 32) (.seq (.region [⟨(some 2), .mov (.k (.c (.bool false))), none⟩])
  .ret) .skip))
  (.seq (.drawn [(⟨(some 33), .mov (.t 3), none⟩, []), (⟨(some 34), .bin .gtr .int (.t 33) (.k (.c (.int .i64 0))), none⟩, []), (⟨(some 35), .mov (.t 34), none⟩, []), (⟨(some 36), .fldA 0 (.t 4), some (35, true)⟩, []), (⟨(some 37), .load1 (.t 36), some (35, true)⟩, []), (⟨(some 38), .mov (.t 0), some (35, true)⟩, []), (⟨(some 39), .mov (.t 3), some (35, true)⟩, []), (⟨(some 40), .bin .sub .int (.t 39) (.k (.c (.int .i64 1))), some (35, true)⟩, []), (⟨(some 41), .idxS 2 (.t 38) (.t 40), some (35, true)⟩, []), (⟨(some 42), .fldA 0 (.t 41), some (35, true)⟩, []), (⟨(some 43), .load1 (.t 42), some (35, true)⟩, []), (⟨(some 44), .bin .gtr .int (.t 37) (.t 43), some (35, true)⟩, []), (⟨(some 45), .mov (.t 44), some (35, true)⟩, []), (⟨(some 46), .fldA 1 (.t 4), some (45, false)⟩, []), (⟨(some 47), .load1 (.t 46), some (45, false)⟩, []), (⟨(some 48), .conv .i64 (.t 47), some (45, false)⟩, []), (⟨(some 49), .mov (.t 0), some (45, false)⟩, []), (⟨(some 50), .mov (.t 3), some (45, false)⟩, []), (⟨(some 51), .bin .sub .int (.t 50) (.k (.c (.int .i64 1))), some (45, false)⟩, []), (⟨(some 52), .idxS 2 (.t 49) (.t 51), some (45, false)⟩, []), (⟨(some 53), .loadN 2 (.t 52), some (45, false)⟩, []), (⟨(some 54), .call (.k (.c (.fn 115 []))) [(.t 53)], some (45, false)⟩, [⟨(some 47), .load1 (.t 46), some (45, false)⟩]), (⟨(some 55), .bin .leq .int (.t 48) (.t 54), some (45, false)⟩, []), (⟨(some 56), .pick (.t 45) (.k (.c (.bool true))) (.t 55), some (35, true)⟩, []), (⟨(some 57), .pick (.t 35) (.t 56) (.k (.c (.bool false))), none⟩, [])])
  (.cond (.t 57) (.seq (.region [⟨(some 2), .mov (.k (.c (.bool false))), none⟩])
  .ret) .skip)))))
  (.region [⟨(some 12), .mov (.t 3), none⟩, ⟨(some 13), .bin .add .int (.t 12) (.k (.c (.int .i64 1))), none⟩, ⟨(some 3), .mov (.t 13), none⟩])))
def k93 : KF := ⟨58, (.seq (.region [⟨(some 2), .mov (.k (.c (.bool false))), none⟩])
  (.seq (.seq (.region [⟨(some 5), .mov (.t 0), none⟩, ⟨(some 6), .len false (.t 5), none⟩, ⟨(some 7), .bin .gtr .int (.t 6) (.k (.c (.int .i64 60))), none⟩])
  (.cond (.t 7) (.seq (.region [⟨(some 2), .mov (.k (.c (.bool false))), none⟩])
  .ret) .skip))
  (.seq (.seq (.region [⟨(some 3), .mov (.k (.c (.int .i64 0))), none⟩])
  (.block 0 (.loop l93_0)))
  (.seq (.region [⟨(some 2), .mov (.k (.c (.bool true))), none⟩])
  .ret)))), [.tmp 2], true⟩
theorem c93 : kk 93 = some k93 := by kernel_rfl
/-- loop.example/g01263/spec.CutNotch -/
def k94 : KF := ⟨35, (.seq (.region [⟨(some 3), .box 36 (.t 0), none⟩, ⟨(some 6), .alloc 36 [(.bool false), (.slice none 0 (.exact 0)), (.int .i8 0), (.int .i8 0), (.int .i8 0), (.int .i8 0), (.int .i8 0), (.int .i8 0), (.int .i8 0), (.int .i8 0), (.int .i8 0), (.int .i8 0), (.int .i8 0), (.int .i8 0), (.int .i8 0), (.int .i8 0), (.int .i8 0), (.int .i8 0)], none⟩, ⟨(some 7), .mov (.k (.c (.int .i64 0))), none⟩])
  (.seq (.seq (.region [⟨(some 9), .call (.k (.c (.fn 57 []))) [(.t 3)], none⟩, ⟨(some 10), .un .not (.t 9), none⟩])
  (.cond (.t 10) (.seq (.region [⟨(some 11), .build [(.bool false), (.slice none 0 (.exact 0)), (.int .i8 0), (.int .i8 0), (.int .i8 0), (.int .i8 0), (.int .i8 0), (.int .i8 0), (.int .i8 0), (.int .i8 0), (.int .i8 0), (.int .i8 0), (.int .i8 0), (.int .i8 0), (.int .i8 0), (.int .i8 0), (.int .i8 0), (.int .i8 0)] [], none⟩, ⟨none, .store 18 (.t 6) (.t 11), none⟩, ⟨(some 7), .mov (.k (.c (.int .i64 1))), none⟩])
  .ret) .skip))
  (.seq (.seq (.region [⟨(some 12), .mov (.t 1), none⟩, ⟨(some 13), .call (.k (.c (.fn 95 []))) [(.t 12)], none⟩, ⟨(some 14), .un .not (.t 13), none⟩, ⟨(some 15), .mov (.t 14), none⟩, ⟨(some 16), .mov (.t 2), some (15, false)⟩, ⟨(some 17), .call (.k (.c (.fn 75 []))) [(.t 16), (.k (.c (.int .i64 0))), (.k (.c (.int .i64 200)))], some (15, false)⟩, ⟨(some 18), .un .not (.t 17), some (15, false)⟩, ⟨(some 19), .pick (.t 15) (.k (.c (.bool true))) (.t 18), none⟩])
  (.cond (.t 19) (.seq (.region [⟨(some 20), .build [(.bool false), (.slice none 0 (.exact 0)), (.int .i8 0), (.int .i8 0), (.int .i8 0), (.int .i8 0), (.int .i8 0), (.int .i8 0), (.int .i8 0), (.int .i8 0), (.int .i8 0), (.int .i8 0), (.int .i8 0), (.int .i8 0), (.int .i8 0), (.int .i8 0), (.int .i8 0), (.int .i8 0)] [], none⟩, ⟨none, .store 18 (.t 6) (.t 20), none⟩, ⟨(some 7), .mov (.k (.c (.int .i64 2))), none⟩])
  .ret) .skip))
  (.seq (.drawn [(⟨(some 21), .fldA 0 (.t 3), none⟩, []), (⟨(some 22), .load1 (.t 21), none⟩, []), (⟨(some 23), .fldA 1 (.t 3), none⟩, []), (⟨(some 24), .load1 (.t 23), none⟩, []), (⟨(some 25), .mov (.t 1), none⟩, []), (⟨(some 26), .mov (.t 2), none⟩, []), (⟨(some 28), .fldA 2 (.t 3), none⟩, []), (⟨(some 29), .loadN 16 (.t 28), none⟩, []), (⟨(some 27), .call (.k (.c (.fn 116 []))) [(.t 24), (.t 25), (.t 26)], none⟩, [⟨(some 22), .load1 (.t 21), none⟩, ⟨(some 29), .loadN 16 (.t 28), none⟩]), (⟨(some 30), .build [(.bool false), (.slice none 0 (.exact 0)), (.int .i8 0), (.int .i8 0), (.int .i8 0), (.int .i8 0), (.int .i8 0), (.int .i8 0), (.int .i8 0), (.int .i8 0), (.int .i8 0), (.int .i8 0), (.int .i8 0), (.int .i8 0), (.int .i8 0), (.int .i8 0), (.int .i8 0), (.int .i8 0)] [(0, 1, (.t 22)), (1, 1, (.t 27)), (2, 16, (.t 29))], none⟩, []), (⟨(some 8), .alloc 36 [(.bool false), (.slice none 0 (.exact 0)), (.int .i8 0), (.int .i8 0), (.int .i8 0), (.int .i8 0), (.int .i8 0), (.int .i8 0), (.int .i8 0), (.int .i8 0), (.int .i8 0), (.int .i8 0), (.int .i8 0), (.int .i8 0), (.int .i8 0), (.int .i8 0), (.int .i8 0), (.int .i8 0)], none⟩, [⟨(some 22), .load1 (.t 21), none⟩, ⟨(some 24), .load1 (.t 23), none⟩, ⟨(some 29), .loadN 16 (.t 28), none⟩]), (⟨none, .store 18 (.t 8) (.t 30), none⟩, [])])
  (.seq (.seq (.region [⟨(some 31), .call (.k (.c (.fn 57 []))) [(.t 8)], none⟩, ⟨(some 32), .un .not (.t 31), none⟩])
  (.cond (.t 32) (.seq (.region [⟨(some 33), .build [(.bool false), (.slice none 0 (.exact 0)), (.int .i8 0), (.int .i8 0), (.int .i8 0), (.int .i8 0), (.int .i8 0), (.int .i8 0), (.int .i8 0), (.int .i8 0), (.int .i8 0), (.int .i8 0), (.int .i8 0), (.int .i8 0), (.int .i8 0), (.int .i8 0), (.int .i8 0), (.int .i8 0)] [], none⟩, ⟨none, .store 18 (.t 6) (.t 33), none⟩, ⟨(some 7), .mov (.k (.c (.int .i64 4))), none⟩])
  .ret) .skip))
  (.seq (.region [⟨(some 34), .loadN 18 (.t 8), none⟩, ⟨none, .store 18 (.t 6) (.t 34), none⟩, ⟨(some 7), .mov (.k (.c (.int .i64 0))), none⟩])
  .ret)))))), [.cellN 6 18, .tmp 7], false⟩
theorem c94 : kk 94 = some k94 := by kernel_rfl
/-- loop.example/g01263/spec.l01Kind -/
def k95 : KF := ⟨5, (.seq (.region [⟨(some 2), .mov (.k (.c (.bool false))), none⟩])
  (.seq (.region [⟨(some 3), .mov (.t 0), none⟩, ⟨(some 4), .call (.k (.c (.fn 75 []))) [(.t 3), (.k (.c (.int .i64 0))), (.k (.c (.int .i64 5)))], none⟩, ⟨(some 2), .mov (.t 4), none⟩])
  .ret)), [.tmp 2], true⟩
theorem c95 : kk 95 = some k95 := by kernel_rfl
/-- loop.example/g01263/impl.ValidGrain -/
def l96_0 : KC := (.seq (.region [⟨(some 7), .bin .lss .int (.t 6) (.k (.c (.int .i64 16))), none⟩])
  (.seq (.cond (.t 7) .skip (.exit 0))
  (.seq (.block 1 (.seq (.region [⟨(some 8), .idx1 16 (.t 5) (.t 6), none⟩, ⟨(some 4), .mov (.t 8), none⟩])
  (.seq (.region [⟨(some 9), .mov (.t 4), none⟩, ⟨(some 10), .bin .lss .int (.t 9) (.k (.c (.int .i8 (-3)))), none⟩, ⟨(some 11), .mov (.t 10), none⟩, ⟨(some 12), .mov (.t 4), some (11, false)⟩, ⟨(some 13), .bin .gtr .int (.t 12) (.k (.c (.int .i8 3))), some (11, false)⟩, ⟨(some 14), .pick (.t 11) (.k (.c (.bool true))) (.t 13), none⟩])
  (.cond (.t 14) (.seq (.region [⟨(some 2), .mov (.k (.c (.bool false))), none⟩])
  .ret) .skip))))
  (.region [⟨(some 15), .bin .add .int (.t 6) (.k (.c (.int .i64 1))), none⟩, ⟨(some 6), .mov (.t 15), none⟩]))))
def k96 : KF := ⟨16, (.seq (.region [⟨(some 1), .box 34 (.t 0), none⟩, ⟨(some 2), .mov (.k (.c (.bool false))), none⟩])
  (.seq (.seq (.region [⟨(some 5), .loadN 16 (.t 1), none⟩, ⟨(some 6), .mov (.k (.c (.int .i64 0))), none⟩])
  (.block 0 (.loop l96_0)))
  (.seq (.region [⟨(some 2), .mov (.k (.c (.bool true))), none⟩])
  .ret))), [.tmp 2], true⟩
theorem c96 : kk 96 = some k96 := by kernel_rfl
/-- loop.example/g01263/impl.isKind -/
def k97 : KF := ⟨9, (.seq (.region [⟨(some 2), .mov (.k (.c (.bool false))), none⟩])
  (.seq (.region [⟨(some 3), .mov (.t 0), none⟩, ⟨(some 4), .bin .geq .int (.t 3) (.k (.c (.int .i64 0))), none⟩, ⟨(some 5), .mov (.t 4), none⟩, ⟨(some 6), .mov (.t 0), some (5, true)⟩, ⟨(some 7), .bin .leq .int (.t 6) (.k (.c (.int .i64 5))), some (5, true)⟩, ⟨(some 8), .pick (.t 5) (.t 7) (.k (.c (.bool false))), none⟩, ⟨(some 2), .mov (.t 8), none⟩])
  .ret)), [.tmp 2], true⟩
theorem c97 : kk 97 = some k97 := by kernel_rfl
/-- (loop.example/g01263/impl.Notch).end -/
def k98 : KF := ⟨11, (.seq (.region [⟨(some 1), .box 119 (.t 0), none⟩, ⟨(some 2), .mov (.k (.c (.int .i64 0))), none⟩])
  (.seq (.drawn [(⟨(some 3), .fldA 1 (.t 1), none⟩, []), (⟨(some 4), .load1 (.t 3), none⟩, []), (⟨(some 5), .conv .i64 (.t 4), none⟩, []), (⟨(some 6), .fldA 0 (.t 1), none⟩, []), (⟨(some 7), .load1 (.t 6), none⟩, []), (⟨(some 8), .conv .i64 (.t 7), none⟩, []), (⟨(some 9), .call (.k (.c (.fn 117 []))) [(.t 8)], none⟩, [⟨(some 4), .load1 (.t 3), none⟩]), (⟨(some 10), .bin .add .int (.t 5) (.t 9), none⟩, []), (⟨(some 2), .mov (.t 10), none⟩, [])])
  .ret)), [.tmp 2], true⟩
theorem c98 : kk 98 = some k98 := by kernel_rfl
/-- (*loop.example/g01263/spec.l00Src).one -/
def k101 : KF := ⟨9, (.seq (.region [⟨(some 4), .mov (.k (.c (.bool false))), none⟩])
  (.seq (.region [⟨(some 5), .mov (.t 0), none⟩, ⟨(some 6), .mov (.t 1), none⟩, ⟨(some 7), .call (.k (.c (.fn 73 []))) [(.t 5), (.t 6)], none⟩, ⟨(some 8), .bin .eql .int (.t 7) (.k (.c (.int .i64 0))), none⟩, ⟨(some 4), .mov (.t 8), none⟩])
  .ret)), [.tmp 4], true⟩
theorem c101 : kk 101 = some k101 := by kernel_rfl
/-- loop.example/g01263/spec.GrainFrom -/
def l102_0 : KC := (.seq (.seq (.region [⟨(some 7), .mov (.t 5), none⟩, ⟨(some 8), .bin .lss .int (.t 7) (.k (.c (.int .i64 16))), none⟩])
  (.cond (.t 8) .skip (.exit 0)))
  (.seq (.block 1 (.seq (.region [⟨(some 11), .mov (.t 0), none⟩, ⟨(some 12), .bin .mul .int (.k (.c (.int .u32 1664525))) (.t 11), none⟩, ⟨(some 13), .bin .add .int (.t 12) (.k (.c (.int .u32 1013904223))), none⟩, ⟨(some 0), .mov (.t 13), none⟩])
  (.region [⟨(some 14), .mov (.t 5), none⟩, ⟨(some 15), .mov (.t 0), none⟩, ⟨(some 16), .bin .quo .int (.t 15) (.k (.c (.int .u32 65536))), none⟩, ⟨(some 17), .bin .rem .int (.t 16) (.k (.c (.int .u32 7))), none⟩, ⟨(some 18), .conv .i8 (.t 17), none⟩, ⟨(some 19), .bin .sub .int (.t 18) (.k (.c (.int .i8 3))), none⟩, ⟨(some 20), .idxA 16 1 (.t 4) (.t 14), none⟩, ⟨none, .store 1 (.t 20) (.t 19), none⟩])))
  (.region [⟨(some 9), .mov (.t 5), none⟩, ⟨(some 10), .bin .add .int (.t 9) (.k (.c (.int .i64 1))), none⟩, ⟨(some 5), .mov (.t 10), none⟩])))
def k102 : KF := ⟨23, (.seq (.region [⟨(some 2), .alloc 34 [(.int .i8 0), (.int .i8 0), (.int .i8 0), (.int .i8 0), (.int .i8 0), (.int .i8 0), (.int .i8 0), (.int .i8 0), (.int .i8 0), (.int .i8 0), (.int .i8 0), (.int .i8 0), (.int .i8 0), (.int .i8 0), (.int .i8 0), (.int .i8 0)], none⟩, ⟨(some 3), .mov (.k (.c (.int .u32 0))), none⟩])
  (.seq (.region [⟨(some 6), .build [(.int .i8 0), (.int .i8 0), (.int .i8 0), (.int .i8 0), (.int .i8 0), (.int .i8 0), (.int .i8 0), (.int .i8 0), (.int .i8 0), (.int .i8 0), (.int .i8 0), (.int .i8 0), (.int .i8 0), (.int .i8 0), (.int .i8 0), (.int .i8 0)] [], none⟩, ⟨(some 4), .alloc 34 [(.int .i8 0), (.int .i8 0), (.int .i8 0), (.int .i8 0), (.int .i8 0), (.int .i8 0), (.int .i8 0), (.int .i8 0), (.int .i8 0), (.int .i8 0), (.int .i8 0), (.int .i8 0), (.int .i8 0), (.int .i8 0), (.int .i8 0), (.int .i8 0)], none⟩, ⟨none, .store 16 (.t 4) (.t 6), none⟩])
  (.seq (.seq (.region [⟨(some 5), .mov (.k (.c (.int .i64 0))), none⟩])
  (.block 0 (.loop l102_0)))
  (.seq (.region [⟨(some 21), .loadN 16 (.t 4), none⟩, ⟨(some 22), .mov (.t 0), none⟩, ⟨none, .store 16 (.t 2) (.t 21), none⟩, ⟨(some 3), .mov (.t 22), none⟩])
  .ret)))), [.cellN 2 16, .tmp 3], true⟩
theorem c102 : kk 102 = some k102 := by kernel_rfl
/-- loop.example/g01263/spec.l01Widths -/
def k103 : KF := ⟨2, (.seq (.region [⟨(some 0), .mov (.k (.c (.slice none 0 (.exact 0)))), none⟩])
  (.seq (.region [⟨(some 1), .buildSl 2 6 [(.int .i64 0), (.int .i64 0), (.int .i64 0), (.int .i64 0), (.int .i64 0), (.int .i64 0)] [(0, 1, (.k (.c (.int .i64 1)))), (1, 1, (.k (.c (.int .i64 2)))), (2, 1, (.k (.c (.int .i64 4)))), (3, 1, (.k (.c (.int .i64 6)))), (4, 1, (.k (.c (.int .i64 9)))), (5, 1, (.k (.c (.int .i64 12))))], none⟩, ⟨(some 0), .mov (.t 1), none⟩])
  .ret)), [.tmp 0], false⟩
theorem c103 : kk 103 = some k103 := by kernel_rfl
/-- loop.example/g01263/impl.wood -/
def l104_0 : KC := (.seq (.seq (.region [⟨(some 18), .mov (.t 6), none⟩, ⟨(some 19), .loadN 2 (.t 5), none⟩, ⟨(some 20), .call (.k (.c (.fn 98 []))) [(.t 19)], none⟩, ⟨(some 21), .bin .lss .int (.t 18) (.t 20), none⟩])
  (.cond (.t 21) .skip (.exit 2)))
  (.seq (.block 3 (.drawn [(⟨(some 24), .mov (.t 6), none⟩, []), (⟨(some 25), .bin .quo .int (.t 24) (.k (.c (.int .i64 64))), none⟩, []), (⟨(some 26), .idxA 4 1 (.t 3) (.t 25), none⟩, []), (⟨(some 27), .load1 (.t 26), none⟩, []), (⟨(some 28), .mov (.t 6), none⟩, []), (⟨(some 29), .bin .rem .int (.t 28) (.k (.c (.int .i64 64))), none⟩, []), (⟨(some 30), .bin .shl .int (.k (.c (.int .u64 1))) (.t 29), none⟩, []), (⟨(some 31), .bin .or .int (.t 27) (.t 30), none⟩, []), (⟨(some 32), .idxA 4 1 (.t 3) (.t 25), none⟩, []), (⟨none, .store 1 (.t 32) (.t 31), none⟩, [])]))
  (.region [⟨(some 22), .mov (.t 6), none⟩, ⟨(some 23), .bin .add .int (.t 22) (.k (.c (.int .i64 1))), none⟩, ⟨(some 6), .mov (.t 23), none⟩])))
def l104_1 : KC := (.seq (.region [⟨(some 12), .bin .lss .int (.t 11) (.t 10), none⟩])
  (.seq (.cond (.t 12) .skip (.exit 0))
  (.seq (.block 1 (.seq (.region [⟨(some 13), .idxS 2 (.t 9) (.t 11), none⟩, ⟨(some 14), .loadN 2 (.t 13), none⟩, ⟨(some 5), .alloc 119 [(.int .i8 0), (.int .i16 0)], none⟩, ⟨none, .store 2 (.t 5) (.t 14), none⟩])
  (.seq (.region [⟨(some 15), .fldA 1 (.t 5), none⟩, ⟨(some 16), .load1 (.t 15), none⟩, ⟨(some 17), .conv .i64 (.t 16), none⟩, ⟨(some 6), .mov (.t 17), none⟩])
  (.block 2 (.loop l104_0)))))
  (.region [⟨(some 33), .bin .add .int (.t 11) (.k (.c (.int .i64 1))), none⟩, ⟨(some 11), .mov (.t 33), none⟩]))))
def k104 : KF := ⟨35, (.seq (.region [⟨(some 1), .box 36 (.t 0), none⟩, ⟨(some 2), .alloc 135 [(.int .u64 0), (.int .u64 0), (.int .u64 0), (.int .u64 0)], none⟩])
  (.seq (.region [⟨(some 7), .build [(.int .u64 0), (.int .u64 0), (.int .u64 0), (.int .u64 0)] [], none⟩, ⟨(some 3), .alloc 135 [(.int .u64 0), (.int .u64 0), (.int .u64 0), (.int .u64 0)], none⟩, ⟨none, .store 4 (.t 3) (.t 7), none⟩])
  (.seq (.seq (.region [⟨(some 8), .fldA 1 (.t 1), none⟩, ⟨(some 9), .load1 (.t 8), none⟩, ⟨(some 10), .len false (.t 9), none⟩, ⟨(some 11), .mov (.k (.c (.int .i64 0))), none⟩])
  (.block 0 (.loop l104_1)))
  (.seq (.region [⟨(some 34), .loadN 4 (.t 3), none⟩, ⟨none, .store 4 (.t 2) (.t 34), none⟩])
  .ret)))), [.cellN 2 4], true⟩
theorem c104 : kk 104 = some k104 := by kernel_rfl
/-- slices.Equal[[]loop.example/g01263/impl.Notch,loop.example/g01263/impl.Notch] -/
def l105_0 : KC := (.seq (.region [⟨(some 14), .bin .lss .int (.t 13) (.t 12), none⟩])
  (.seq (.cond (.t 14) .skip (.exit 0))
  (.seq (.block 1 (.seq (.region [⟨(some 15), .mov (.t 13), none⟩, ⟨(some 5), .mov (.t 15), none⟩])
  (.seq (.drawn [(⟨(some 16), .mov (.t 0), none⟩, []), (⟨(some 17), .mov (.t 5), none⟩, []), (⟨(some 18), .idxS 2 (.t 16) (.t 17), none⟩, []), (⟨(some 19), .loadN 2 (.t 18), none⟩, []), (⟨(some 20), .mov (.t 1), none⟩, []), (⟨(some 21), .mov (.t 5), none⟩, []), (⟨(some 22), .idxS 2 (.t 20) (.t 21), none⟩, []), (⟨(some 23), .loadN 2 (.t 22), none⟩, []), (⟨(some 24), .bin .neq (.agg [.int, .int]) (.t 19) (.t 23), none⟩, [])])
  (.cond (.t 24) (.seq (.region [⟨(some 4), .mov (.k (.c (.bool false))), none⟩])
  .ret) .skip))))
  (.region [⟨(some 25), .bin .add .int (.t 13) (.k (.c (.int .i64 1))), none⟩, ⟨(some 13), .mov (.t 25), none⟩]))))
def k105 : KF := ⟨26, (.seq (.region [⟨(some 4), .mov (.k (.c (.bool false))), none⟩])
  (.seq (.seq (.region [⟨(some 6), .mov (.t 0), none⟩, ⟨(some 7), .len false (.t 6), none⟩, ⟨(some 8), .mov (.t 1), none⟩, ⟨(some 9), .len false (.t 8), none⟩, ⟨(some 10), .bin .neq .int (.t 7) (.t 9), none⟩])
  (.cond (.t 10) (.seq (.region [⟨(some 4), .mov (.k (.c (.bool false))), none⟩])
  .ret) .skip))
  (.seq (.seq (.region [⟨(some 11), .mov (.t 0), none⟩, ⟨(some 12), .len false (.t 11), none⟩, ⟨(some 13), .mov (.k (.c (.int .i64 0))), none⟩])
  (.block 0 (.loop l105_0)))
  (.seq (.region [⟨(some 4), .mov (.k (.c (.bool true))), none⟩])
  .ret)))), [.tmp 4], true⟩
theorem c105 : kk 105 = some k105 := by kernel_rfl
/-- loop.example/g01263/impl.IsInWood -/
def l106_0 : KC := (.seq (.region [⟨(some 7), .bin .lss .int (.t 6) (.k (.c (.int .i64 4))), none⟩])
  (.seq (.cond (.t 7) .skip (.exit 0))
  (.seq (.block 1 (.seq (.region [⟨(some 8), .mov (.t 6), none⟩, ⟨(some 5), .mov (.t 8), none⟩])
  (.seq (.drawn [(⟨(some 9), .mov (.t 5), none⟩, []), (⟨(some 10), .idxA 4 1 (.t 2) (.t 9), none⟩, []), (⟨(some 11), .load1 (.t 10), none⟩, []), (⟨(some 12), .mov (.t 5), none⟩, []), (⟨(some 13), .idxA 4 1 (.t 3) (.t 12), none⟩, []), (⟨(some 14), .load1 (.t 13), none⟩, []), (⟨(some 15), .bin .andNot .int (.t 11) (.t 14), none⟩, []), (⟨(some 16), .bin .neq .int (.t 15) (.k (.c (.int .u64 0))), none⟩, [])])
  (.cond (.t 16) (.seq (.region [⟨(some 4), .mov (.k (.c (.bool false))), none⟩])
  .ret) .skip))))
  (.region [⟨(some 17), .bin .add .int (.t 6) (.k (.c (.int .i64 1))), none⟩, ⟨(some 6), .mov (.t 17), none⟩]))))
def k106 : KF := ⟨18, (.seq (.region [⟨(some 2), .box 135 (.t 0), none⟩, ⟨(some 3), .box 135 (.t 1), none⟩, ⟨(some 4), .mov (.k (.c (.bool false))), none⟩])
  (.seq (.seq (.region [⟨(some 6), .mov (.k (.c (.int .i64 0))), none⟩])
  (.block 0 (.loop l106_0)))
  (.seq (.region [⟨(some 4), .mov (.k (.c (.bool true))), none⟩])
  .ret))), [.tmp 4], true⟩
theorem c106 : kk 106 = some k106 := by kernel_rfl
/-- loop.example/g01263/impl.fitsGrain -/
def l107_0 : KC := (.seq (.region [⟨(some 10), .bin .lss .int (.t 9) (.k (.c (.int .i64 16))), none⟩])
  (.seq (.cond (.t 10) .skip (.exit 0))
  (.seq (.block 1 (.seq (.region [⟨(some 11), .mov (.t 9), none⟩, ⟨(some 7), .mov (.t 11), none⟩])
  (.seq (.drawn [(⟨(some 12), .mov (.t 7), none⟩, []), (⟨(some 13), .idxA 16 1 (.t 3) (.t 12), none⟩, []), (⟨(some 14), .load1 (.t 13), none⟩, []), (⟨(some 15), .mov (.t 7), none⟩, []), (⟨(some 16), .idxA 16 1 (.t 4) (.t 15), none⟩, []), (⟨(some 17), .load1 (.t 16), none⟩, []), (⟨(some 18), .bin .add .int (.t 14) (.t 17), none⟩, []), (⟨(some 8), .mov (.t 18), none⟩, [])])
  (.seq (.region [⟨(some 19), .mov (.t 8), none⟩, ⟨(some 20), .bin .lss .int (.t 19) (.k (.c (.int .i8 (-1)))), none⟩, ⟨(some 21), .mov (.t 20), none⟩, ⟨(some 22), .mov (.t 8), some (21, false)⟩, ⟨(some 23), .bin .gtr .int (.t 22) (.k (.c (.int .i8 1))), some (21, false)⟩, ⟨(some 24), .pick (.t 21) (.k (.c (.bool true))) (.t 23), none⟩])
  (.cond (.t 24) (.seq (.region [⟨(some 6), .mov (.k (.c (.bool false))), none⟩])
  .ret) .skip)))))
  (.region [⟨(some 25), .bin .add .int (.t 9) (.k (.c (.int .i64 1))), none⟩, ⟨(some 9), .mov (.t 25), none⟩]))))
def k107 : KF := ⟨32, (.seq (.region [⟨(some 3), .box 34 (.t 0), none⟩, ⟨(some 4), .box 34 (.t 1), none⟩, ⟨(some 6), .mov (.k (.c (.bool false))), none⟩])
  (.seq (.seq (.region [⟨(some 9), .mov (.k (.c (.int .i64 0))), none⟩])
  (.block 0 (.loop l107_0)))
  (.seq (.region [⟨(some 26), .loadN 16 (.t 3), none⟩, ⟨(some 27), .loadN 16 (.t 4), none⟩, ⟨(some 28), .call (.k (.c (.fn 71 []))) [(.t 26), (.t 27)], none⟩, ⟨(some 29), .len false (.t 28), none⟩, ⟨(some 30), .mov (.t 2), none⟩, ⟨(some 31), .bin .leq .int (.t 29) (.t 30), none⟩, ⟨(some 6), .mov (.t 31), none⟩])
  .ret))), [.tmp 6], true⟩
theorem c107 : kk 107 = some k107 := by kernel_rfl
/-- (*loop.example/g01263/spec.l00Src).next -/
def k108 : KF := ⟨62, (.seq (.region [⟨(some 2), .mov (.k (.c (.int .i64 0))), none⟩])
  (.seq (.region [⟨(some 3), .mov (.k (.c (.int .i64 0))), none⟩])
  (.seq (.seq (.drawn [(⟨(some 4), .mov (.t 0), none⟩, []), (⟨(some 5), .nilchk (.t 4), none⟩, []), (⟨(some 6), .fldA 1 (.t 5), none⟩, []), (⟨(some 7), .load1 (.t 6), none⟩, []), (⟨(some 8), .mov (.t 0), none⟩, []), (⟨(some 9), .nilchk (.t 8), none⟩, []), (⟨(some 10), .fldA 0 (.t 9), none⟩, []), (⟨(some 11), .load1 (.t 10), none⟩, []), (⟨(some 12), .len false (.t 11), none⟩, []), (⟨(some 13), .bin .lss .int (.t 7) (.t 12), none⟩, [])])
  (.cond (.t 13) (.drawn [(⟨(some 14), .mov (.t 0), none⟩, []), (⟨(some 15), .nilchk (.t 14), none⟩, []), (⟨(some 16), .fldA 0 (.t 15), none⟩, []), (⟨(some 17), .load1 (.t 16), none⟩, []), (⟨(some 18), .mov (.t 0), none⟩, []), (⟨(some 19), .nilchk (.t 18), none⟩, []), (⟨(some 20), .fldA 1 (.t 19), none⟩, []), (⟨(some 21), .load1 (.t 20), none⟩, []), (⟨(some 22), .idxS 1 (.t 17) (.t 21), none⟩, []), (⟨(some 23), .load1 (.t 22), none⟩, []), (⟨(some 24), .conv .i64 (.t 23), none⟩, []), (⟨(some 3), .mov (.t 24), none⟩, [])]) .skip))
  (.seq (.region [⟨(some 25), .mov (.t 0), none⟩, ⟨(some 26), .nilchk (.t 25), none⟩, ⟨(some 27), .fldA 1 (.t 26), none⟩, ⟨(some 28), .load1 (.t 27), none⟩, ⟨(some 29), .bin .add .int (.t 28) (.k (.c (.int .i64 1))), none⟩, ⟨(some 30), .nilchk (.t 25), none⟩, ⟨(some 31), .fldA 1 (.t 30), none⟩, ⟨none, .store 1 (.t 31) (.t 29), none⟩])
  (.seq (.region [⟨(some 32), .mov (.t 0), none⟩, ⟨(some 33), .mov (.t 0), none⟩, ⟨(some 34), .nilchk (.t 33), none⟩, ⟨(some 35), .fldA 2 (.t 34), none⟩, ⟨(some 36), .load1 (.t 35), none⟩, ⟨(some 37), .bin .mul .int (.t 36) (.k (.c (.int .u64 6364136223846793005))), none⟩, ⟨(some 38), .mov (.t 3), none⟩, ⟨(some 39), .conv .u64 (.t 38), none⟩, ⟨(some 40), .bin .add .int (.t 37) (.t 39), none⟩, ⟨(some 41), .bin .add .int (.t 40) (.k (.c (.int .u64 1442695040888963407))), none⟩, ⟨(some 42), .nilchk (.t 32), none⟩, ⟨(some 43), .fldA 2 (.t 42), none⟩, ⟨none, .store 1 (.t 43) (.t 41), none⟩])
  (.seq (.seq (.drawn [(⟨(some 44), .mov (.t 0), none⟩, []), (⟨(some 45), .nilchk (.t 44), none⟩, []), (⟨(some 46), .fldA 1 (.t 45), none⟩, []), (⟨(some 47), .load1 (.t 46), none⟩, []), (⟨(some 48), .mov (.t 0), none⟩, []), (⟨(some 49), .nilchk (.t 48), none⟩, []), (⟨(some 50), .fldA 0 (.t 49), none⟩, []), (⟨(some 51), .load1 (.t 50), none⟩, []), (⟨(some 52), .len false (.t 51), none⟩, []), (⟨(some 53), .bin .leq .int (.t 47) (.t 52), none⟩, [])])
  (.cond (.t 53) (.seq (.region [⟨(some 54), .mov (.t 3), none⟩, ⟨(some 2), .mov (.t 54), none⟩])
  .ret) .skip))
  (.seq (.region [⟨(some 55), .mov (.t 0), none⟩, ⟨(some 56), .nilchk (.t 55), none⟩, ⟨(some 57), .fldA 2 (.t 56), none⟩, ⟨(some 58), .load1 (.t 57), none⟩, ⟨(some 59), .bin .shr .int (.t 58) (.k (.c (.int .u64 40))), none⟩, ⟨(some 60), .bin .and .int (.t 59) (.k (.c (.int .u64 255))), none⟩, ⟨(some 61), .conv .i64 (.t 60), none⟩, ⟨(some 2), .mov (.t 61), none⟩])
  .ret))))))), [.tmp 2], true⟩
theorem c108 : kk 108 = some k108 := by kernel_rfl
/-- loop.example/g01263/spec.l01SameNotches -/
def l109_0 : KC := (.seq (.seq (.region [⟨(some 11), .mov (.t 5), none⟩, ⟨(some 12), .mov (.t 0), none⟩, ⟨(some 13), .len false (.t 12), none⟩, ⟨(some 14), .bin .lss .int (.t 11) (.t 13), none⟩])
  (.cond (.t 14) .skip (.exit 0)))
  (.seq (.block 1 (.seq (.drawn [(⟨(some 17), .mov (.t 0), none⟩, []), (⟨(some 18), .mov (.t 5), none⟩, []), (⟨(some 19), .idxS 2 (.t 17) (.t 18), none⟩, []), (⟨(some 20), .loadN 2 (.t 19), none⟩, []), (⟨(some 21), .mov (.t 1), none⟩, []), (⟨(some 22), .mov (.t 5), none⟩, []), (⟨(some 23), .idxS 2 (.t 21) (.t 22), none⟩, []), (⟨(some 24), .loadN 2 (.t 23), none⟩, []), (⟨(some 25), .bin .neq (.agg [.int, .int]) (.t 20) (.t 24), none⟩, [])])
  (.cond (.t 25) (.seq (.region [⟨(some 4), .mov (.k (.c (.bool false))), none⟩])
  .ret) .skip)))
  (.region [⟨(some 15), .mov (.t 5), none⟩, ⟨(some 16), .bin .add .int (.t 15) (.k (.c (.int .i64 1))), none⟩, ⟨(some 5), .mov (.t 16), none⟩])))
def k109 : KF := ⟨26, (.seq (.region [⟨(some 4), .mov (.k (.c (.bool false))), none⟩])
  (.seq (.seq (.region [⟨(some 6), .mov (.t 0), none⟩, ⟨(some 7), .len false (.t 6), none⟩, ⟨(some 8), .mov (.t 1), none⟩, ⟨(some 9), .len false (.t 8), none⟩, ⟨(some 10), .bin .neq .int (.t 7) (.t 9), none⟩])
  (.cond (.t 10) (.seq (.region [⟨(some 4), .mov (.k (.c (.bool false))), none⟩])
  .ret) .skip))
  (.seq (.seq (.region [⟨(some 5), .mov (.k (.c (.int .i64 0))), none⟩])
  (.block 0 (.loop l109_0)))
  (.seq (.region [⟨(some 4), .mov (.k (.c (.bool true))), none⟩])
  .ret)))), [.tmp 4], true⟩
theorem c109 : kk 109 = some k109 := by kernel_rfl
/-- loop.example/g01263/spec.l01FitsGrain -/
def l110_0 : KC := (.seq (.seq (.region [⟨(some 10), .mov (.t 8), none⟩, ⟨(some 11), .bin .lss .int (.t 10) (.k (.c (.int .i64 16))), none⟩])
  (.cond (.t 11) .skip (.exit 0)))
  (.seq (.block 1 (.seq (.drawn [(⟨(some 14), .mov (.t 8), none⟩, []), (⟨(some 15), .idxA 16 1 (.t 3) (.t 14), none⟩, []), (⟨(some 16), .load1 (.t 15), none⟩, []), (⟨(some 17), .mov (.t 8), none⟩, []), (⟨(some 18), .idxA 16 1 (.t 4) (.t 17), none⟩, []), (⟨(some 19), .load1 (.t 18), none⟩, []), (⟨(some 20), .bin .add .int (.t 16) (.t 19), none⟩, []), (⟨(some 9), .mov (.t 20), none⟩, [])])
  (.seq (.seq (.region [⟨(some 21), .mov (.t 9), none⟩, ⟨(some 22), .bin .lss .int (.t 21) (.k (.c (.int .i8 (-1)))), none⟩, ⟨(some 23), .mov (.t 22), none⟩, ⟨(some 24), .mov (.t 9), some (23, false)⟩, ⟨(some 25), .bin .gtr .int (.t 24) (.k (.c (.int .i8 1))), some (23, false)⟩, ⟨(some 26), .pick (.t 23) (.k (.c (.bool true))) (.t 25), none⟩])
  (.cond (.t 26) (.seq (.region [⟨(some 6), .mov (.k (.c (.bool false))), none⟩])
  .ret) .skip))
  (.seq (.region [⟨(some 27), .mov (.t 9), none⟩, ⟨(some 28), .bin .neq .int (.t 27) (.k (.c (.int .i8 0))), none⟩])
  (.cond (.t 28) (.region [⟨(some 29), .mov (.t 7), none⟩, ⟨(some 30), .bin .add .int (.t 29) (.k (.c (.int .i64 1))), none⟩, ⟨(some 7), .mov (.t 30), none⟩]) .skip)))))
  (.region [⟨(some 12), .mov (.t 8), none⟩, ⟨(some 13), .bin .add .int (.t 12) (.k (.c (.int .i64 1))), none⟩, ⟨(some 8), .mov (.t 13), none⟩])))
def k110 : KF := ⟨34, (.seq (.region [⟨(some 3), .box 34 (.t 0), none⟩, ⟨(some 4), .box 34 (.t 1), none⟩, ⟨(some 6), .mov (.k (.c (.bool false))), none⟩])
  (.seq (.region [⟨(some 7), .mov (.k (.c (.int .i64 0))), none⟩])
  (.seq (.seq (.region [⟨(some 8), .mov (.k (.c (.int .i64 0))), none⟩])
  (.block 0 (.loop l110_0)))
  (.seq (.region [⟨(some 31), .mov (.t 7), none⟩, ⟨(some 32), .mov (.t 2), none⟩, ⟨(some 33), .bin .leq .int (.t 31) (.t 32), none⟩, ⟨(some 6), .mov (.t 33), none⟩])
  .ret)))), [.tmp 6], true⟩
theorem c110 : kk 110 = some k110 := by kernel_rfl
/-- loop.example/g01263/spec.l04Wood -/
def l111_0 : KC := (.seq (.seq (.region [⟨(some 25), .mov (.t 5), none⟩, ⟨(some 26), .mov (.t 0), none⟩, ⟨(some 27), .nilchk (.t 26), none⟩, ⟨(some 28), .fldA 1 (.t 27), none⟩, ⟨(some 29), .load1 (.t 28), none⟩, ⟨(some 30), .mov (.t 4), none⟩, ⟨(some 31), .idxS 2 (.t 29) (.t 30), none⟩, ⟨(some 32), .loadN 2 (.t 31), none⟩, ⟨(some 33), .call (.k (.c (.fn 115 []))) [(.t 32)], none⟩, ⟨(some 34), .bin .lss .int (.t 25) (.t 33), none⟩])
  (.cond (.t 34) .skip (.exit 2)))
  (.seq (.block 3 (.region [⟨(some 37), .mov (.t 5), none⟩, ⟨(some 38), .bin .quo .int (.t 37) (.k (.c (.int .i64 64))), none⟩, ⟨(some 39), .idxA 4 1 (.t 3) (.t 38), none⟩, ⟨(some 40), .load1 (.t 39), none⟩, ⟨(some 41), .mov (.t 5), none⟩, ⟨(some 42), .bin .rem .int (.t 41) (.k (.c (.int .i64 64))), none⟩, ⟨(some 43), .conv .u64 (.t 42), none⟩, ⟨(some 44), .bin .shl .int (.k (.c (.int .u64 1))) (.t 43), none⟩, ⟨(some 45), .bin .or .int (.t 40) (.t 44), none⟩, ⟨(some 46), .idxA 4 1 (.t 3) (.t 38), none⟩, ⟨none, .store 1 (.t 46) (.t 45), none⟩]))
  (.region [⟨(some 35), .mov (.t 5), none⟩, ⟨(some 36), .bin .add .int (.t 35) (.k (.c (.int .i64 1))), none⟩, ⟨(some 5), .mov (.t 36), none⟩])))
def l111_1 : KC := (.seq (.seq (.region [⟨(some 7), .mov (.t 4), none⟩, ⟨(some 8), .mov (.t 0), none⟩, ⟨(some 9), .nilchk (.t 8), none⟩, ⟨(some 10), .fldA 1 (.t 9), none⟩, ⟨(some 11), .load1 (.t 10), none⟩, ⟨(some 12), .len false (.t 11), none⟩, ⟨(some 13), .bin .lss .int (.t 7) (.t 12), none⟩])
  (.cond (.t 13) .skip (.exit 0)))
  (.seq (.block 1 (.seq (.region [⟨(some 16), .mov (.t 0), none⟩, ⟨(some 17), .nilchk (.t 16), none⟩, ⟨(some 18), .fldA 1 (.t 17), none⟩, ⟨(some 19), .load1 (.t 18), none⟩, ⟨(some 20), .mov (.t 4), none⟩, ⟨(some 21), .idxS 2 (.t 19) (.t 20), none⟩, ⟨(some 22), .fldA 1 (.t 21), none⟩, ⟨(some 23), .load1 (.t 22), none⟩, ⟨(some 24), .conv .i64 (.t 23), none⟩, ⟨(some 5), .mov (.t 24), none⟩])
  (.block 2 (.loop l111_0))))
  (.region [⟨(some 14), .mov (.t 4), none⟩, ⟨(some 15), .bin .add .int (.t 14) (.k (.c (.int .i64 1))), none⟩, ⟨(some 4), .mov (.t 15), none⟩])))
def k111 : KF := ⟨48, (.seq (.region [⟨(some 2), .alloc 135 [(.int .u64 0), (.int .u64 0), (.int .u64 0), (.int .u64 0)], none⟩])
  (.seq (.region [⟨(some 6), .build [(.int .u64 0), (.int .u64 0), (.int .u64 0), (.int .u64 0)] [], none⟩, ⟨(some 3), .alloc 135 [(.int .u64 0), (.int .u64 0), (.int .u64 0), (.int .u64 0)], none⟩, ⟨none, .store 4 (.t 3) (.t 6), none⟩])
  (.seq (.seq (.region [⟨(some 4), .mov (.k (.c (.int .i64 0))), none⟩])
  (.block 0 (.loop l111_1)))
  (.seq (.region [⟨(some 47), .loadN 4 (.t 3), none⟩, ⟨none, .store 4 (.t 2) (.t 47), none⟩])
  .ret)))), [.cellN 2 4], true⟩
theorem c111 : kk 111 = some k111 := by kernel_rfl
/-- loop.example/g01263/spec.IsInWood -/
def l112_0 : KC := (.seq (.seq (.region [⟨(some 6), .mov (.t 5), none⟩, ⟨(some 7), .bin .lss .int (.t 6) (.k (.c (.int .i64 4))), none⟩])
  (.cond (.t 7) .skip (.exit 0)))
  (.seq (.block 1 (.seq (.drawn [(⟨(some 10), .mov (.t 5), none⟩, []), (⟨(some 11), .idxA 4 1 (.t 2) (.t 10), none⟩, []), (⟨(some 12), .load1 (.t 11), none⟩, []), (⟨(some 13), .mov (.t 5), none⟩, []), (⟨(some 14), .idxA 4 1 (.t 3) (.t 13), none⟩, []), (⟨(some 15), .load1 (.t 14), none⟩, []), (⟨(some 16), .bin .andNot .int (.t 12) (.t 15), none⟩, []), (⟨(some 17), .bin .neq .int (.t 16) (.k (.c (.int .u64 0))), none⟩, [])])
  (.cond (.t 17) (.seq (.region [⟨(some 4), .mov (.k (.c (.bool false))), none⟩])
  .ret) .skip)))
  (.region [⟨(some 8), .mov (.t 5), none⟩, ⟨(some 9), .bin .add .int (.t 8) (.k (.c (.int .i64 1))), none⟩, ⟨(some 5), .mov (.t 9), none⟩])))
def k112 : KF := ⟨18, (.seq (.region [⟨(some 2), .box 135 (.t 0), none⟩, ⟨(some 3), .box 135 (.t 1), none⟩, ⟨(some 4), .mov (.k (.c (.bool false))), none⟩])
  (.seq (.seq (.region [⟨(some 5), .mov (.k (.c (.int .i64 0))), none⟩])
  (.block 0 (.loop l112_0)))
  (.seq (.region [⟨(some 4), .mov (.k (.c (.bool true))), none⟩])
  .ret))), [.tmp 4], true⟩
theorem c112 : kk 112 = some k112 := by kernel_rfl
/-- loop.example/g01263/spec.l01Copy -/
def k114 : KF := ⟨6, (.seq (.region [⟨(some 2), .mov (.k (.c (.slice none 0 (.exact 0)))), none⟩])
  (.seq (.region [⟨(some 3), .buildSl 119 0 [] [], none⟩, ⟨(some 4), .mov (.t 0), none⟩, ⟨(some 5), .app 119 2 4 (.t 3) (.t 4), none⟩, ⟨(some 2), .mov (.t 5), none⟩])
  .ret)), [.tmp 2], false⟩
theorem c114 : kk 114 = some k114 := by kernel_rfl
/-- loop.example/g01263/spec.l01Ends -/
def k115 : KF := ⟨12, (.seq (.region [⟨(some 1), .box 119 (.t 0), none⟩, ⟨(some 2), .mov (.k (.c (.int .i64 0))), none⟩])
  (.seq (.drawn [(⟨(some 3), .fldA 1 (.t 1), none⟩, []), (⟨(some 4), .load1 (.t 3), none⟩, []), (⟨(some 5), .conv .i64 (.t 4), none⟩, []), (⟨(some 7), .fldA 0 (.t 1), none⟩, []), (⟨(some 8), .load1 (.t 7), none⟩, []), (⟨(some 6), .call (.k (.c (.fn 103 []))) [], none⟩, [⟨(some 4), .load1 (.t 3), none⟩, ⟨(some 8), .load1 (.t 7), none⟩]), (⟨(some 9), .idxS 1 (.t 6) (.t 8), none⟩, []), (⟨(some 10), .load1 (.t 9), none⟩, []), (⟨(some 11), .bin .add .int (.t 5) (.t 10), none⟩, []), (⟨(some 2), .mov (.t 11), none⟩, [])])
  .ret)), [.tmp 2], true⟩
theorem c115 : kk 115 = some k115 := by kernel_rfl
/-- loop.example/g01263/spec.l01Cut -/
def l116_0 : KC := (.seq (.seq (.region [⟨(some 17), .mov (.t 10), none⟩, ⟨(some 18), .mov (.t 0), none⟩, ⟨(some 19), .len false (.t 18), none⟩, ⟨(some 20), .bin .lss .int (.t 17) (.t 19), none⟩])
  (.cond (.t 20) .skip (.exit 0)))
  (.seq (.block 1 (.seq (.seq (.drawn [(⟨(some 23), .mov (.t 9), none⟩, []), (⟨(some 24), .un .not (.t 23), none⟩, []), (⟨(some 25), .mov (.t 24), none⟩, []), (⟨(some 26), .mov (.t 0), some (25, true)⟩, []), (⟨(some 27), .mov (.t 10), some (25, true)⟩, []), (⟨(some 28), .idxS 2 (.t 26) (.t 27), some (25, true)⟩, []), (⟨(some 29), .fldA 1 (.t 28), some (25, true)⟩, []), (⟨(some 30), .load1 (.t 29), some (25, true)⟩, []), (⟨(some 31), .fldA 1 (.t 8), some (25, true)⟩, []), (⟨(some 32), .load1 (.t 31), some (25, true)⟩, []), (⟨(some 33), .bin .gtr .int (.t 30) (.t 32), some (25, true)⟩, []), (⟨(some 34), .pick (.t 25) (.t 33) (.k (.c (.bool false))), none⟩, [])])
  (.cond (.t 34) (.seq (.region [⟨(some 35), .mov (.t 7), none⟩, ⟨(some 36), .loadN 2 (.t 8), none⟩, ⟨(some 37), .buildSl 119 1 [(.int .i8 0), (.int .i16 0)] [(0, 2, (.t 36))], none⟩, ⟨(some 38), .app 119 2 4 (.t 35) (.t 37), none⟩, ⟨(some 7), .mov (.t 38), none⟩])
  (.region [⟨(some 9), .mov (.k (.c (.bool true))), none⟩])) .skip))
  (.region [⟨(some 39), .mov (.t 7), none⟩, ⟨(some 40), .mov (.t 0), none⟩, ⟨(some 41), .mov (.t 10), none⟩, ⟨(some 42), .idxS 2 (.t 40) (.t 41), none⟩, ⟨(some 43), .loadN 2 (.t 42), none⟩, ⟨(some 44), .buildSl 119 1 [(.int .i8 0), (.int .i16 0)] [(0, 2, (.t 43))], none⟩, ⟨(some 45), .app 119 2 4 (.t 39) (.t 44), none⟩, ⟨(some 7), .mov (.t 45), none⟩])))
  (.region [⟨(some 21), .mov (.t 10), none⟩, ⟨(some 22), .bin .add .int (.t 21) (.k (.c (.int .i64 1))), none⟩, ⟨(some 10), .mov (.t 22), none⟩])))
def k116 : KF := ⟨53, (.seq (.region [⟨(some 6), .mov (.k (.c (.slice none 0 (.exact 0)))), none⟩])
  (.seq (.region [⟨(some 11), .buildSl 119 0 [] [], none⟩, ⟨(some 7), .mov (.t 11), none⟩])
  (.seq (.region [⟨(some 12), .mov (.t 1), none⟩, ⟨(some 13), .conv .i8 (.t 12), none⟩, ⟨(some 14), .mov (.t 2), none⟩, ⟨(some 15), .conv .i16 (.t 14), none⟩, ⟨(some 16), .build [(.int .i8 0), (.int .i16 0)] [(0, 1, (.t 13)), (1, 1, (.t 15))], none⟩, ⟨(some 8), .alloc 119 [(.int .i8 0), (.int .i16 0)], none⟩, ⟨none, .store 2 (.t 8) (.t 16), none⟩])
  (.seq (.region [⟨(some 9), .mov (.k (.c (.bool false))), none⟩])
  (.seq (.seq (.region [⟨(some 10), .mov (.k (.c (.int .i64 0))), none⟩])
  (.block 0 (.loop l116_0)))
  (.seq (.seq (.region [⟨(some 46), .mov (.t 9), none⟩, ⟨(some 47), .un .not (.t 46), none⟩])
  (.cond (.t 47) (.region [⟨(some 48), .mov (.t 7), none⟩, ⟨(some 49), .loadN 2 (.t 8), none⟩, ⟨(some 50), .buildSl 119 1 [(.int .i8 0), (.int .i16 0)] [(0, 2, (.t 49))], none⟩, ⟨(some 51), .app 119 2 4 (.t 48) (.t 50), none⟩, ⟨(some 7), .mov (.t 51), none⟩]) .skip))
  (.seq (.region [⟨(some 52), .mov (.t 7), none⟩, ⟨(some 6), .mov (.t 52), none⟩])
  .ret))))))), [.tmp 6], false⟩
theorem c116 : kk 116 = some k116 := by kernel_rfl
/-- loop.example/g01263/impl.width -/
def k117 : KF := ⟨7, (.seq (.region [⟨(some 2), .mov (.k (.c (.int .i64 0))), none⟩])
  (.seq (.region [⟨(some 3), .buildSl 2 6 [(.int .i64 0), (.int .i64 0), (.int .i64 0), (.int .i64 0), (.int .i64 0), (.int .i64 0)] [(0, 1, (.k (.c (.int .i64 1)))), (1, 1, (.k (.c (.int .i64 2)))), (2, 1, (.k (.c (.int .i64 4)))), (3, 1, (.k (.c (.int .i64 6)))), (4, 1, (.k (.c (.int .i64 9)))), (5, 1, (.k (.c (.int .i64 12))))], none⟩, ⟨(some 4), .mov (.t 0), none⟩, ⟨(some 5), .idxS 1 (.t 3) (.t 4), none⟩, ⟨(some 6), .load1 (.t 5), none⟩, ⟨(some 2), .mov (.t 6), none⟩])
  .ret)), [.tmp 2], true⟩
theorem c117 : kk 117 = some k117 := by kernel_rfl
end Go.Proofs.Ytnblibimbggheaa
