/- What functions of the program answer: part Code. -/
import Derived.Test.YtoeppnjgpblikaaViEv
import Derived.Test.YtoeppnjgpblikaaViComp
import Derived.Test.YtoeppnjgpblikaaChecked
import Derived.KernelRfl
set_option linter.unusedVariables false
set_option linter.unusedSimpArgs false
set_option linter.unusedSectionVars false
namespace Go.Proofs.Ytoeppnjgpblikaa
open Go Go.Proofs.Ytoeppnjgpblikaa.VI
noncomputable def kk : FuncId → Option KF := fun f => cFunc Try.prog (!([20, 22, 28, 36, 41, 52, 61, 62, 65, 74, 78, 79, 90, 91, 102, 109] : List Nat).contains f) f
/-- loop.example/g01263/laws.FnExactIsInWood -/
def k3 : KF := ⟨20, (.seq (.region [⟨(some 2), .box 23 (.t 0), none⟩, ⟨(some 3), .box 23 (.t 1), none⟩, ⟨(some 4), .mov (.k (.c (.bool false))), none⟩])
  (.seq (.drawn [(⟨(some 7), .loadN 4 (.t 2), none⟩, []), (⟨(some 9), .loadN 4 (.t 3), none⟩, []), (⟨(some 8), .call (.k (.c (.fn 16 []))) [(.t 7)], none⟩, [⟨(some 9), .loadN 4 (.t 3), none⟩]), (⟨(some 10), .call (.k (.c (.fn 16 []))) [(.t 9)], none⟩, []), (⟨(some 11), .call (.k (.c (.fn 15 []))) [(.t 8), (.t 10)], none⟩, []), (⟨(some 5), .mov (.t 11), none⟩, [])])
  (.seq (.drawn [(⟨(some 12), .loadN 4 (.t 2), none⟩, []), (⟨(some 14), .loadN 4 (.t 3), none⟩, []), (⟨(some 13), .call (.k (.c (.fn 16 []))) [(.t 12)], none⟩, [⟨(some 14), .loadN 4 (.t 3), none⟩]), (⟨(some 15), .call (.k (.c (.fn 16 []))) [(.t 14)], none⟩, []), (⟨(some 16), .call (.k (.c (.fn 17 []))) [(.t 13), (.t 15)], none⟩, []), (⟨(some 6), .mov (.t 16), none⟩, [])])
  (.seq (.seq (.region [⟨(some 17), .mov (.t 6), none⟩, ⟨(some 18), .mov (.t 5), none⟩, ⟨(some 19), .bin .neq .bool (.t 17) (.t 18), none⟩])
  (.cond (.t 19) (.seq (.region [⟨(some 4), .mov (.k (.c (.bool false))), none⟩])
  .ret) .skip))
  (.seq (.region [⟨(some 4), .mov (.k (.c (.bool true))), none⟩])
  .ret))))), [.tmp 4], true⟩
theorem c3 : kk 3 = some k3 := by kernel_rfl
/-- loop.example/g01263/laws.FnExactCountWood -/
def k4 : KF := ⟨14, (.seq (.region [⟨(some 1), .box 23 (.t 0), none⟩, ⟨(some 2), .mov (.k (.c (.bool false))), none⟩])
  (.seq (.region [⟨(some 5), .loadN 4 (.t 1), none⟩, ⟨(some 6), .call (.k (.c (.fn 16 []))) [(.t 5)], none⟩, ⟨(some 7), .call (.k (.c (.fn 18 []))) [(.t 6)], none⟩, ⟨(some 3), .mov (.t 7), none⟩])
  (.seq (.region [⟨(some 8), .loadN 4 (.t 1), none⟩, ⟨(some 9), .call (.k (.c (.fn 16 []))) [(.t 8)], none⟩, ⟨(some 10), .call (.k (.c (.fn 19 []))) [(.t 9)], none⟩, ⟨(some 4), .mov (.t 10), none⟩])
  (.seq (.seq (.region [⟨(some 11), .mov (.t 4), none⟩, ⟨(some 12), .mov (.t 3), none⟩, ⟨(some 13), .bin .neq .int (.t 11) (.t 12), none⟩])
  (.cond (.t 13) (.seq (.region [⟨(some 2), .mov (.k (.c (.bool false))), none⟩])
  .ret) .skip))
  (.seq (.region [⟨(some 2), .mov (.k (.c (.bool true))), none⟩])
  .ret))))), [.tmp 2], true⟩
theorem c4 : kk 4 = some k4 := by kernel_rfl
/-- loop.example/g01263/laws.FnExactWornPlaces -/
def k5 : KF := ⟨74, (.seq (.region [⟨(some 2), .box 31 (.t 0), none⟩, ⟨(some 3), .box 31 (.t 1), none⟩, ⟨(some 4), .mov (.k (.c (.bool false))), none⟩])
  (.seq (.drawn [(⟨(some 14), .loadN 16 (.t 2), none⟩, []), (⟨(some 16), .loadN 16 (.t 3), none⟩, []), (⟨(some 15), .call (.k (.c (.fn 21 []))) [(.t 14)], none⟩, [⟨(some 16), .loadN 16 (.t 3), none⟩]), (⟨(some 17), .call (.k (.c (.fn 21 []))) [(.t 16)], none⟩, []), (⟨(some 18), .call (.k (.c (.fn 20 []))) [(.t 15), (.t 17)], none⟩, []), (⟨(some 13), .mov (.t 18), none⟩, []), (⟨(some 19), .ext (.t 13) 0, none⟩, []), (⟨(some 20), .ext (.t 13) 1, none⟩, []), (⟨(some 5), .mov (.t 19), none⟩, []), (⟨(some 6), .mov (.t 20), none⟩, [])])
  (.seq (.drawn [(⟨(some 22), .loadN 16 (.t 2), none⟩, []), (⟨(some 24), .loadN 16 (.t 3), none⟩, []), (⟨(some 23), .call (.k (.c (.fn 21 []))) [(.t 22)], none⟩, [⟨(some 24), .loadN 16 (.t 3), none⟩]), (⟨(some 25), .call (.k (.c (.fn 21 []))) [(.t 24)], none⟩, []), (⟨(some 26), .call (.k (.c (.fn 22 []))) [(.t 23), (.t 25)], none⟩, []), (⟨(some 21), .mov (.t 26), none⟩, []), (⟨(some 27), .ext (.t 21) 0, none⟩, []), (⟨(some 28), .ext (.t 21) 1, none⟩, []), (⟨(some 7), .mov (.t 27), none⟩, []), (⟨(some 8), .mov (.t 28), none⟩, [])])
  (.seq (.seq (.region [⟨(some 29), .mov (.t 7), none⟩, ⟨(some 30), .mov (.t 5), none⟩, ⟨(some 31), .call (.k (.c (.fn 23 []))) [(.t 29), (.t 30)], none⟩, ⟨(some 32), .un .not (.t 31), none⟩, ⟨(some 33), .mov (.t 32), none⟩, ⟨(some 34), .mov (.t 8), some (33, false)⟩, ⟨(some 35), .mov (.t 6), some (33, false)⟩, ⟨(some 36), .bin .neq .int (.t 34) (.t 35), some (33, false)⟩, ⟨(some 37), .pick (.t 33) (.k (.c (.bool true))) (.t 36), none⟩])
  (.cond (.t 37) (.seq (.region [⟨(some 4), .mov (.k (.c (.bool false))), none⟩])
  .ret) .skip))
  (.seq (.region [⟨(some 9), .mov (.k (.c (.int .i64 1))), none⟩])
  (.seq (.region [⟨(some 38), .mov (.t 7), none⟩, ⟨(some 39), .mov (.t 9), none⟩, ⟨(some 40), .call (.k (.c (.fn 24 []))) [(.t 38), (.t 39)], none⟩, ⟨(some 9), .mov (.t 40), none⟩])
  (.seq (.region [⟨(some 10), .mov (.k (.c (.int .i64 1))), none⟩])
  (.seq (.region [⟨(some 41), .mov (.t 7), none⟩, ⟨(some 42), .mov (.t 10), none⟩, ⟨(some 43), .call (.k (.c (.fn 25 []))) [(.t 41), (.t 42)], none⟩, ⟨(some 10), .mov (.t 43), none⟩])
  (.seq (.seq (.region [⟨(some 44), .mov (.t 10), none⟩, ⟨(some 45), .bin .lss .int (.t 44) (.k (.c (.int .i64 0))), none⟩])
  (.cond (.t 45) (.seq (.region [⟨(some 4), .mov (.k (.c (.bool false))), none⟩])
  .ret) .skip))
  (.seq (.seq (.region [⟨(some 46), .mov (.t 10), none⟩, ⟨(some 47), .mov (.t 9), none⟩, ⟨(some 48), .bin .neq .int (.t 46) (.t 47), none⟩])
  (.cond (.t 48) (.seq (.region [⟨(some 4), .mov (.k (.c (.bool false))), none⟩])
  .ret) .skip))
  (.seq (.drawn [(⟨(some 50), .loadN 16 (.t 2), none⟩, []), (⟨(some 52), .loadN 16 (.t 3), none⟩, []), (⟨(some 51), .call (.k (.c (.fn 21 []))) [(.t 50)], none⟩, [⟨(some 52), .loadN 16 (.t 3), none⟩]), (⟨(some 53), .call (.k (.c (.fn 21 []))) [(.t 52)], none⟩, []), (⟨(some 54), .call (.k (.c (.fn 22 []))) [(.t 51), (.t 53)], none⟩, []), (⟨(some 49), .mov (.t 54), none⟩, []), (⟨(some 55), .ext (.t 49) 0, none⟩, []), (⟨(some 56), .ext (.t 49) 1, none⟩, []), (⟨(some 11), .mov (.t 55), none⟩, []), (⟨(some 12), .mov (.t 56), none⟩, [])])
  (.seq (.seq (.region [⟨(some 57), .mov (.t 11), none⟩, ⟨(some 58), .mov (.t 5), none⟩, ⟨(some 59), .call (.k (.c (.fn 23 []))) [(.t 57), (.t 58)], none⟩, ⟨(some 60), .un .not (.t 59), none⟩, ⟨(some 61), .mov (.t 60), none⟩, ⟨(some 62), .mov (.t 12), some (61, false)⟩, ⟨(some 63), .mov (.t 6), some (61, false)⟩, ⟨(some 64), .bin .neq .int (.t 62) (.t 63), some (61, false)⟩, ⟨(some 65), .pick (.t 61) (.k (.c (.bool true))) (.t 64), none⟩])
  (.cond (.t 65) (.seq (.region [⟨(some 4), .mov (.k (.c (.bool false))), none⟩])
  .ret) .skip))
  (.seq (.region [⟨(some 10), .mov (.k (.c (.int .i64 1))), none⟩])
  (.seq (.region [⟨(some 66), .mov (.t 7), none⟩, ⟨(some 67), .mov (.t 10), none⟩, ⟨(some 68), .call (.k (.c (.fn 25 []))) [(.t 66), (.t 67)], none⟩, ⟨(some 10), .mov (.t 68), none⟩])
  (.seq (.seq (.region [⟨(some 69), .mov (.t 10), none⟩, ⟨(some 70), .bin .lss .int (.t 69) (.k (.c (.int .i64 0))), none⟩])
  (.cond (.t 70) (.seq (.region [⟨(some 4), .mov (.k (.c (.bool false))), none⟩])
  .ret) .skip))
  (.seq (.seq (.region [⟨(some 71), .mov (.t 10), none⟩, ⟨(some 72), .mov (.t 9), none⟩, ⟨(some 73), .bin .neq .int (.t 71) (.t 72), none⟩])
  (.cond (.t 73) (.seq (.region [⟨(some 4), .mov (.k (.c (.bool false))), none⟩])
  .ret) .skip))
  (.seq (.region [⟨(some 4), .mov (.k (.c (.bool true))), none⟩])
  .ret))))))))))))))))), [.tmp 4], true⟩
theorem c5 : kk 5 = some k5 := by kernel_rfl
/-- loop.example/g01263/laws.FnExactSameVerdict -/
def k6 : KF := ⟨45, (.seq (.region [⟨(some 2), .box 41 (.t 0), none⟩, ⟨(some 3), .box 41 (.t 1), none⟩, ⟨(some 4), .mov (.k (.c (.bool false))), none⟩])
  (.seq (.region [⟨(some 5), .mov (.k (.c (.int .i64 1048576))), none⟩])
  (.seq (.region [⟨(some 10), .loadN 5 (.t 2), none⟩, ⟨(some 11), .mov (.t 5), none⟩, ⟨(some 12), .call (.k (.c (.fn 26 []))) [(.t 10), (.t 11)], none⟩, ⟨(some 5), .mov (.t 12), none⟩])
  (.seq (.seq (.region [⟨(some 13), .mov (.t 5), none⟩, ⟨(some 14), .bin .lss .int (.t 13) (.k (.c (.int .i64 0))), none⟩])
  (.cond (.t 14) (.seq (.region [⟨(some 4), .mov (.k (.c (.bool true))), none⟩])
  .ret) .skip))
  (.seq (.region [⟨(some 15), .loadN 5 (.t 3), none⟩, ⟨(some 16), .mov (.t 5), none⟩, ⟨(some 17), .call (.k (.c (.fn 26 []))) [(.t 15), (.t 16)], none⟩, ⟨(some 5), .mov (.t 17), none⟩])
  (.seq (.seq (.region [⟨(some 18), .mov (.t 5), none⟩, ⟨(some 19), .bin .lss .int (.t 18) (.k (.c (.int .i64 0))), none⟩])
  (.cond (.t 19) (.seq (.region [⟨(some 4), .mov (.k (.c (.bool true))), none⟩])
  .ret) .skip))
  (.seq (.drawn [(⟨(some 20), .loadN 5 (.t 2), none⟩, []), (⟨(some 22), .loadN 5 (.t 3), none⟩, []), (⟨(some 21), .call (.k (.c (.fn 28 []))) [(.t 20)], none⟩, [⟨(some 22), .loadN 5 (.t 3), none⟩]), (⟨(some 23), .call (.k (.c (.fn 28 []))) [(.t 22)], none⟩, []), (⟨(some 24), .call (.k (.c (.fn 27 []))) [(.t 21), (.t 23)], none⟩, []), (⟨(some 6), .mov (.t 24), none⟩, [])])
  (.seq (.region [⟨(some 25), .loadN 5 (.t 2), none⟩, ⟨(some 26), .call (.k (.c (.fn 28 []))) [(.t 25)], none⟩, ⟨(some 7), .alloc 44 [(.bool false), (.int .i8 0), (.int .i64 0), (.int .i64 0), (.slice none 0 (.exact 0))], none⟩, ⟨none, .store 5 (.t 7) (.t 26), none⟩])
  (.seq (.region [⟨(some 27), .loadN 5 (.t 3), none⟩, ⟨(some 28), .call (.k (.c (.fn 28 []))) [(.t 27)], none⟩, ⟨(some 8), .alloc 44 [(.bool false), (.int .i8 0), (.int .i64 0), (.int .i64 0), (.slice none 0 (.exact 0))], none⟩, ⟨none, .store 5 (.t 8) (.t 28), none⟩])
  (.seq (.region [⟨(some 29), .loadN 5 (.t 7), none⟩, ⟨(some 30), .loadN 5 (.t 8), none⟩, ⟨(some 31), .call (.k (.c (.fn 29 []))) [(.t 29), (.t 30)], none⟩, ⟨(some 9), .mov (.t 31), none⟩])
  (.seq (.seq (.region [⟨(some 32), .mov (.t 9), none⟩, ⟨(some 33), .mov (.t 6), none⟩, ⟨(some 34), .bin .neq .bool (.t 32) (.t 33), none⟩])
  (.cond (.t 34) (.seq (.region [⟨(some 4), .mov (.k (.c (.bool false))), none⟩])
  .ret) .skip))
  (.seq (.seq (.drawn [(⟨(some 35), .loadN 5 (.t 7), none⟩, []), (⟨(some 36), .loadN 5 (.t 2), none⟩, []), (⟨(some 37), .call (.k (.c (.fn 28 []))) [(.t 36)], none⟩, [⟨(some 35), .loadN 5 (.t 7), none⟩]), (⟨(some 38), .call (.k (.c (.fn 30 []))) [(.t 35), (.t 37)], none⟩, []), (⟨(some 39), .un .not (.t 38), none⟩, [])])
  (.cond (.t 39) (.seq (.region [⟨(some 4), .mov (.k (.c (.bool false))), none⟩])
  .ret) .skip))
  (.seq (.seq (.drawn [(⟨(some 40), .loadN 5 (.t 8), none⟩, []), (⟨(some 41), .loadN 5 (.t 3), none⟩, []), (⟨(some 42), .call (.k (.c (.fn 28 []))) [(.t 41)], none⟩, [⟨(some 40), .loadN 5 (.t 8), none⟩]), (⟨(some 43), .call (.k (.c (.fn 30 []))) [(.t 40), (.t 42)], none⟩, []), (⟨(some 44), .un .not (.t 43), none⟩, [])])
  (.cond (.t 44) (.seq (.region [⟨(some 4), .mov (.k (.c (.bool false))), none⟩])
  .ret) .skip))
  (.seq (.region [⟨(some 4), .mov (.k (.c (.bool true))), none⟩])
  .ret)))))))))))))), [.tmp 4], true⟩
theorem c6 : kk 6 = some k6 := by kernel_rfl
/-- loop.example/g01263/laws.FnExactChanceWear -/
def k7 : KF := ⟨45, (.seq (.region [⟨(some 3), .box 31 (.t 0), none⟩, ⟨(some 6), .mov (.k (.c (.bool false))), none⟩])
  (.seq (.region [⟨(some 14), .loadN 16 (.t 3), none⟩, ⟨(some 15), .call (.k (.c (.fn 21 []))) [(.t 14)], none⟩, ⟨(some 16), .mov (.t 1), none⟩, ⟨(some 17), .mov (.t 2), none⟩, ⟨(some 18), .call (.k (.c (.fn 31 []))) [(.t 15), (.t 16), (.t 17)], none⟩, ⟨(some 13), .mov (.t 18), none⟩, ⟨(some 19), .ext (.t 13) 0, none⟩, ⟨(some 20), .ext (.t 13) 1, none⟩, ⟨(some 21), .ext (.t 13) 2, none⟩, ⟨(some 7), .alloc 35 [(.int .i8 0), (.int .i8 0), (.int .i8 0), (.int .i8 0), (.int .i8 0), (.int .i8 0), (.int .i8 0), (.int .i8 0), (.int .i8 0), (.int .i8 0), (.int .i8 0), (.int .i8 0), (.int .i8 0), (.int .i8 0), (.int .i8 0), (.int .i8 0)], none⟩, ⟨none, .store 16 (.t 7) (.t 19), none⟩, ⟨(some 8), .mov (.t 20), none⟩, ⟨(some 9), .mov (.t 21), none⟩])
  (.seq (.region [⟨(some 23), .loadN 16 (.t 3), none⟩, ⟨(some 24), .call (.k (.c (.fn 21 []))) [(.t 23)], none⟩, ⟨(some 25), .mov (.t 1), none⟩, ⟨(some 26), .mov (.t 2), none⟩, ⟨(some 27), .call (.k (.c (.fn 32 []))) [(.t 24), (.t 25), (.t 26)], none⟩, ⟨(some 22), .mov (.t 27), none⟩, ⟨(some 28), .ext (.t 22) 0, none⟩, ⟨(some 29), .ext (.t 22) 1, none⟩, ⟨(some 30), .ext (.t 22) 2, none⟩, ⟨(some 10), .alloc 35 [(.int .i8 0), (.int .i8 0), (.int .i8 0), (.int .i8 0), (.int .i8 0), (.int .i8 0), (.int .i8 0), (.int .i8 0), (.int .i8 0), (.int .i8 0), (.int .i8 0), (.int .i8 0), (.int .i8 0), (.int .i8 0), (.int .i8 0), (.int .i8 0)], none⟩, ⟨none, .store 16 (.t 10) (.t 28), none⟩, ⟨(some 11), .mov (.t 29), none⟩, ⟨(some 12), .mov (.t 30), none⟩])
  (.seq (.seq (.region [⟨(some 31), .loadN 16 (.t 10), none⟩, ⟨(some 32), .loadN 16 (.t 7), none⟩, ⟨(some 33), .call (.k (.c (.fn 33 []))) [(.t 31), (.t 32)], none⟩, ⟨(some 34), .un .not (.t 33), none⟩, ⟨(some 35), .mov (.t 34), none⟩, ⟨(some 36), .mov (.t 11), some (35, false)⟩, ⟨(some 37), .mov (.t 8), some (35, false)⟩, ⟨(some 38), .bin .neq .int (.t 36) (.t 37), some (35, false)⟩, ⟨(some 39), .pick (.t 35) (.k (.c (.bool true))) (.t 38), none⟩, ⟨(some 40), .mov (.t 39), none⟩, ⟨(some 41), .mov (.t 12), some (40, false)⟩, ⟨(some 42), .mov (.t 9), some (40, false)⟩, ⟨(some 43), .bin .neq .int (.t 41) (.t 42), some (40, false)⟩, ⟨(some 44), .pick (.t 40) (.k (.c (.bool true))) (.t 43), none⟩])
  (.cond (.t 44) (.seq (.region [⟨(some 6), .mov (.k (.c (.bool false))), none⟩])
  .ret) .skip))
  (.seq (.region [⟨(some 6), .mov (.k (.c (.bool true))), none⟩])
  .ret))))), [.tmp 6], true⟩
theorem c7 : kk 7 = some k7 := by kernel_rfl
/-- loop.example/g01263/laws.FnExactWoodOf -/
def k8 : KF := ⟨41, (.seq (.region [⟨(some 1), .box 54 (.t 0), none⟩, ⟨(some 2), .mov (.k (.c (.bool false))), none⟩])
  (.seq (.region [⟨(some 3), .mov (.k (.c (.int .i64 1048576))), none⟩])
  (.seq (.region [⟨(some 9), .loadN 18 (.t 1), none⟩, ⟨(some 10), .mov (.t 3), none⟩, ⟨(some 11), .call (.k (.c (.fn 34 []))) [(.t 9), (.t 10)], none⟩, ⟨(some 3), .mov (.t 11), none⟩])
  (.seq (.seq (.region [⟨(some 12), .mov (.t 3), none⟩, ⟨(some 13), .bin .lss .int (.t 12) (.k (.c (.int .i64 0))), none⟩])
  (.cond (.t 13) (.seq (.region [⟨(some 2), .mov (.k (.c (.bool true))), none⟩])
  .ret) .skip))
  (.seq (.region [⟨(some 15), .loadN 18 (.t 1), none⟩, ⟨(some 16), .call (.k (.c (.fn 36 []))) [(.t 15)], none⟩, ⟨(some 17), .call (.k (.c (.fn 35 []))) [(.t 16)], none⟩, ⟨(some 14), .mov (.t 17), none⟩, ⟨(some 18), .ext (.t 14) 0, none⟩, ⟨(some 19), .ext (.t 14) 1, none⟩, ⟨(some 4), .alloc 25 [(.int .u64 0), (.int .u64 0), (.int .u64 0), (.int .u64 0)], none⟩, ⟨none, .store 4 (.t 4) (.t 18), none⟩, ⟨(some 5), .mov (.t 19), none⟩])
  (.seq (.region [⟨(some 20), .loadN 18 (.t 1), none⟩, ⟨(some 21), .call (.k (.c (.fn 36 []))) [(.t 20)], none⟩, ⟨(some 6), .alloc 60 [(.bool false), (.slice none 0 (.exact 0)), (.int .i8 0), (.int .i8 0), (.int .i8 0), (.int .i8 0), (.int .i8 0), (.int .i8 0), (.int .i8 0), (.int .i8 0), (.int .i8 0), (.int .i8 0), (.int .i8 0), (.int .i8 0), (.int .i8 0), (.int .i8 0), (.int .i8 0), (.int .i8 0)], none⟩, ⟨none, .store 18 (.t 6) (.t 21), none⟩])
  (.seq (.region [⟨(some 23), .loadN 18 (.t 6), none⟩, ⟨(some 24), .call (.k (.c (.fn 37 []))) [(.t 23)], none⟩, ⟨(some 22), .mov (.t 24), none⟩, ⟨(some 25), .ext (.t 22) 0, none⟩, ⟨(some 26), .ext (.t 22) 1, none⟩, ⟨(some 7), .alloc 25 [(.int .u64 0), (.int .u64 0), (.int .u64 0), (.int .u64 0)], none⟩, ⟨none, .store 4 (.t 7) (.t 25), none⟩, ⟨(some 8), .mov (.t 26), none⟩])
  (.seq (.seq (.region [⟨(some 27), .loadN 4 (.t 7), none⟩, ⟨(some 28), .loadN 4 (.t 4), none⟩, ⟨(some 29), .call (.k (.c (.fn 38 []))) [(.t 27), (.t 28)], none⟩, ⟨(some 30), .un .not (.t 29), none⟩, ⟨(some 31), .mov (.t 30), none⟩, ⟨(some 32), .mov (.t 8), some (31, false)⟩, ⟨(some 33), .mov (.t 5), some (31, false)⟩, ⟨(some 34), .bin .neq .int (.t 32) (.t 33), some (31, false)⟩, ⟨(some 35), .pick (.t 31) (.k (.c (.bool true))) (.t 34), none⟩])
  (.cond (.t 35) (.seq (.region [⟨(some 2), .mov (.k (.c (.bool false))), none⟩])
  .ret) .skip))
  (.seq (.seq (.drawn [(⟨(some 36), .loadN 18 (.t 6), none⟩, []), (⟨(some 37), .loadN 18 (.t 1), none⟩, []), (⟨(some 38), .call (.k (.c (.fn 36 []))) [(.t 37)], none⟩, [⟨(some 36), .loadN 18 (.t 6), none⟩]), (⟨(some 39), .call (.k (.c (.fn 39 []))) [(.t 36), (.t 38)], none⟩, []), (⟨(some 40), .un .not (.t 39), none⟩, [])])
  (.cond (.t 40) (.seq (.region [⟨(some 2), .mov (.k (.c (.bool false))), none⟩])
  .ret) .skip))
  (.seq (.region [⟨(some 2), .mov (.k (.c (.bool true))), none⟩])
  .ret)))))))))), [.tmp 2], true⟩
theorem c8 : kk 8 = some k8 := by kernel_rfl
/-- loop.example/g01263/laws.FnWorn -/
def l9_0 : KC := (.seq (.seq (.region [⟨(some 83), .mov (.t 16), none⟩, ⟨(some 84), .bin .lss .int (.t 83) (.k (.c (.int .i64 16))), none⟩])
  (.cond (.t 84) .skip (.exit 0)))
  (.seq (.block 1 (.seq (.drawn [(⟨(some 87), .mov (.t 16), none⟩, []), (⟨(some 88), .idxA 16 1 (.t 10) (.t 87), none⟩, []), (⟨(some 89), .load1 (.t 88), none⟩, []), (⟨(some 90), .conv .i64 (.t 89), none⟩, []), (⟨(some 91), .mov (.t 16), none⟩, []), (⟨(some 92), .fldA 2 (.t 5), none⟩, []), (⟨(some 93), .idxA 16 1 (.t 92) (.t 91), none⟩, []), (⟨(some 94), .load1 (.t 93), none⟩, []), (⟨(some 95), .conv .i64 (.t 94), none⟩, []), (⟨(some 96), .bin .sub .int (.t 90) (.t 95), none⟩, []), (⟨(some 17), .mov (.t 96), none⟩, [])])
  (.region [⟨(some 97), .mov (.t 15), none⟩, ⟨(some 98), .mov (.t 17), none⟩, ⟨(some 99), .mov (.t 17), none⟩, ⟨(some 100), .un .neg (.t 99), none⟩, ⟨(some 101), .max [(.t 98), (.t 100)], none⟩, ⟨(some 102), .bin .add .int (.t 97) (.t 101), none⟩, ⟨(some 15), .mov (.t 102), none⟩])))
  (.region [⟨(some 85), .mov (.t 16), none⟩, ⟨(some 86), .bin .add .int (.t 85) (.k (.c (.int .i64 1))), none⟩, ⟨(some 16), .mov (.t 86), none⟩])))
def l9_1 : KC := (.seq (.seq (.region [⟨(some 143), .mov (.t 24), none⟩, ⟨(some 144), .mov (.t 20), none⟩, ⟨(some 145), .len false (.t 144), none⟩, ⟨(some 146), .bin .lss .int (.t 143) (.t 145), none⟩])
  (.cond (.t 146) .skip (.exit 4)))
  (.seq (.block 5 (.region [⟨(some 149), .mov (.t 23), none⟩, ⟨(some 150), .mov (.t 149), none⟩, ⟨(some 151), .mov (.t 20), some (150, false)⟩, ⟨(some 152), .mov (.t 24), some (150, false)⟩, ⟨(some 153), .idxS 1 (.t 151) (.t 152), some (150, false)⟩, ⟨(some 154), .load1 (.t 153), some (150, false)⟩, ⟨(some 155), .mov (.t 22), some (150, false)⟩, ⟨(some 156), .bin .eql .int (.t 154) (.t 155), some (150, false)⟩, ⟨(some 157), .pick (.t 150) (.k (.c (.bool true))) (.t 156), none⟩, ⟨(some 23), .mov (.t 157), none⟩]))
  (.region [⟨(some 147), .mov (.t 24), none⟩, ⟨(some 148), .bin .add .int (.t 147) (.k (.c (.int .i64 1))), none⟩, ⟨(some 24), .mov (.t 148), none⟩])))
def l9_2 : KC := (.seq (.seq (.region [⟨(some 139), .mov (.t 22), none⟩, ⟨(some 140), .bin .lss .int (.t 139) (.k (.c (.int .i64 16))), none⟩])
  (.cond (.t 140) .skip (.exit 2)))
  (.seq (.block 3 (.seq (.region [⟨(some 23), .mov (.k (.c (.bool false))), none⟩])
  (.seq (.seq (.region [⟨(some 24), .mov (.k (.c (.int .i64 0))), none⟩])
  (.block 4 (.loop l9_1)))
  (.seq (.drawn [(⟨(some 158), .mov (.t 23), none⟩, []), (⟨(some 159), .mov (.t 22), none⟩, []), (⟨(some 160), .idxA 16 1 (.t 10) (.t 159), none⟩, []), (⟨(some 161), .load1 (.t 160), none⟩, []), (⟨(some 162), .mov (.t 22), none⟩, []), (⟨(some 163), .fldA 2 (.t 5), none⟩, []), (⟨(some 164), .idxA 16 1 (.t 163) (.t 162), none⟩, []), (⟨(some 165), .load1 (.t 164), none⟩, []), (⟨(some 166), .bin .neq .int (.t 161) (.t 165), none⟩, []), (⟨(some 167), .bin .neq .bool (.t 158) (.t 166), none⟩, [])])
  (.cond (.t 167) (.seq (.region [⟨(some 4), .mov (.k (.c (.bool false))), none⟩])
  .ret) .skip)))))
  (.region [⟨(some 141), .mov (.t 22), none⟩, ⟨(some 142), .bin .add .int (.t 141) (.k (.c (.int .i64 1))), none⟩, ⟨(some 22), .mov (.t 142), none⟩])))
def k9 : KF := ⟨168, (.seq (.region [⟨(some 4), .mov (.k (.c (.bool false))), none⟩])
  (.seq (.seq (.region [⟨(some 25), .mov (.t 0), none⟩, ⟨(some 26), .call (.k (.c (.fn 40 []))) [(.t 25)], none⟩, ⟨(some 27), .mov (.t 26), none⟩, ⟨(some 28), .mov (.t 1), some (27, false)⟩, ⟨(some 29), .call (.k (.c (.fn 40 []))) [(.t 28)], some (27, false)⟩, ⟨(some 30), .pick (.t 27) (.k (.c (.bool true))) (.t 29), none⟩])
  (.cond (.t 30) (.seq (.region [⟨(some 4), .mov (.k (.c (.bool true))), none⟩])
  .ret) .skip))
  (.seq (.region [⟨(some 31), .mov (.t 0), none⟩, ⟨(some 32), .call (.k (.c (.fn 41 []))) [(.t 31)], none⟩, ⟨(some 5), .alloc 60 [(.bool false), (.slice none 0 (.exact 0)), (.int .i8 0), (.int .i8 0), (.int .i8 0), (.int .i8 0), (.int .i8 0), (.int .i8 0), (.int .i8 0), (.int .i8 0), (.int .i8 0), (.int .i8 0), (.int .i8 0), (.int .i8 0), (.int .i8 0), (.int .i8 0), (.int .i8 0), (.int .i8 0)], none⟩, ⟨none, .store 18 (.t 5) (.t 32), none⟩])
  (.seq (.region [⟨(some 33), .mov (.t 1), none⟩, ⟨(some 34), .call (.k (.c (.fn 42 []))) [(.t 33), (.k (.c (.int .i64 30)))], none⟩, ⟨(some 6), .mov (.t 34), none⟩])
  (.seq (.region [⟨(some 36), .fldA 2 (.t 5), none⟩, ⟨(some 37), .loadN 16 (.t 36), none⟩, ⟨(some 38), .mov (.t 6), none⟩, ⟨(some 39), .call (.k (.c (.fn 32 []))) [(.t 37), (.k (.c (.int .u32 11))), (.t 38)], none⟩, ⟨(some 35), .mov (.t 39), none⟩, ⟨(some 40), .ext (.t 35) 0, none⟩, ⟨(some 41), .ext (.t 35) 1, none⟩, ⟨(some 42), .ext (.t 35) 2, none⟩, ⟨(some 7), .alloc 35 [(.int .i8 0), (.int .i8 0), (.int .i8 0), (.int .i8 0), (.int .i8 0), (.int .i8 0), (.int .i8 0), (.int .i8 0), (.int .i8 0), (.int .i8 0), (.int .i8 0), (.int .i8 0), (.int .i8 0), (.int .i8 0), (.int .i8 0), (.int .i8 0)], none⟩, ⟨none, .store 16 (.t 7) (.t 40), none⟩, ⟨(some 8), .mov (.t 41), none⟩, ⟨(some 9), .mov (.t 42), none⟩])
  (.seq (.region [⟨(some 44), .fldA 2 (.t 5), none⟩, ⟨(some 45), .loadN 16 (.t 44), none⟩, ⟨(some 46), .mov (.t 6), none⟩, ⟨(some 47), .call (.k (.c (.fn 31 []))) [(.t 45), (.k (.c (.int .u32 11))), (.t 46)], none⟩, ⟨(some 43), .mov (.t 47), none⟩, ⟨(some 48), .ext (.t 43) 0, none⟩, ⟨(some 49), .ext (.t 43) 1, none⟩, ⟨(some 50), .ext (.t 43) 2, none⟩, ⟨(some 10), .alloc 35 [(.int .i8 0), (.int .i8 0), (.int .i8 0), (.int .i8 0), (.int .i8 0), (.int .i8 0), (.int .i8 0), (.int .i8 0), (.int .i8 0), (.int .i8 0), (.int .i8 0), (.int .i8 0), (.int .i8 0), (.int .i8 0), (.int .i8 0), (.int .i8 0)], none⟩, ⟨none, .store 16 (.t 10) (.t 48), none⟩, ⟨(some 11), .mov (.t 49), none⟩, ⟨(some 12), .mov (.t 50), none⟩])
  (.seq (.region [⟨(some 52), .fldA 2 (.t 5), none⟩, ⟨(some 53), .loadN 16 (.t 52), none⟩, ⟨(some 54), .call (.k (.c (.fn 43 []))) [(.t 53)], none⟩, ⟨(some 51), .mov (.t 54), none⟩, ⟨(some 55), .ext (.t 51) 0, none⟩, ⟨(some 56), .ext (.t 51) 1, none⟩, ⟨(some 13), .alloc 35 [(.int .i8 0), (.int .i8 0), (.int .i8 0), (.int .i8 0), (.int .i8 0), (.int .i8 0), (.int .i8 0), (.int .i8 0), (.int .i8 0), (.int .i8 0), (.int .i8 0), (.int .i8 0), (.int .i8 0), (.int .i8 0), (.int .i8 0), (.int .i8 0)], none⟩, ⟨none, .store 16 (.t 13) (.t 55), none⟩, ⟨(some 14), .mov (.t 56), none⟩])
  (.seq (.seq (.region [⟨(some 57), .mov (.t 9), none⟩, ⟨(some 58), .mov (.t 12), none⟩, ⟨(some 59), .bin .neq .int (.t 57) (.t 58), none⟩, ⟨(some 60), .mov (.t 59), none⟩, ⟨(some 61), .mov (.t 9), some (60, false)⟩, ⟨(some 62), .bin .neq .int (.t 61) (.k (.c (.int .i64 0))), some (60, false)⟩, ⟨(some 63), .pick (.t 60) (.k (.c (.bool true))) (.t 62), none⟩, ⟨(some 64), .mov (.t 63), none⟩, ⟨(some 65), .loadN 16 (.t 7), some (64, false)⟩, ⟨(some 66), .loadN 16 (.t 10), some (64, false)⟩, ⟨(some 67), .bin .neq (.agg [.int, .int, .int, .int, .int, .int, .int, .int, .int, .int, .int, .int, .int, .int, .int, .int]) (.t 65) (.t 66), some (64, false)⟩, ⟨(some 68), .pick (.t 64) (.k (.c (.bool true))) (.t 67), none⟩, ⟨(some 69), .mov (.t 68), none⟩, ⟨(some 70), .mov (.t 8), some (69, false)⟩, ⟨(some 71), .mov (.t 11), some (69, false)⟩, ⟨(some 72), .bin .neq .int (.t 70) (.t 71), some (69, false)⟩, ⟨(some 73), .pick (.t 69) (.k (.c (.bool true))) (.t 72), none⟩, ⟨(some 74), .mov (.t 73), none⟩, ⟨(some 75), .mov (.t 14), some (74, false)⟩, ⟨(some 76), .bin .neq .int (.t 75) (.k (.c (.int .i64 0))), some (74, false)⟩, ⟨(some 77), .pick (.t 74) (.k (.c (.bool true))) (.t 76), none⟩, ⟨(some 78), .mov (.t 77), none⟩, ⟨(some 79), .loadN 16 (.t 10), some (78, false)⟩, ⟨(some 80), .call (.k (.c (.fn 44 []))) [(.t 79)], some (78, false)⟩, ⟨(some 81), .un .not (.t 80), some (78, false)⟩, ⟨(some 82), .pick (.t 78) (.k (.c (.bool true))) (.t 81), none⟩])
  (.cond (.t 82) (.seq (.region [⟨(some 4), .mov (.k (.c (.bool false))), none⟩])
  .ret) .skip))
  (.seq (.region [⟨(some 15), .mov (.k (.c (.int .i64 0))), none⟩])
  (.seq (.seq (.region [⟨(some 16), .mov (.k (.c (.int .i64 0))), none⟩])
  (.block 0 (.loop l9_0)))
  (.seq (.region [⟨(some 104), .loadN 16 (.t 10), none⟩, ⟨(some 105), .loadN 16 (.t 13), none⟩, ⟨(some 106), .call (.k (.c (.fn 22 []))) [(.t 104), (.t 105)], none⟩, ⟨(some 103), .mov (.t 106), none⟩, ⟨(some 107), .ext (.t 103) 0, none⟩, ⟨(some 108), .ext (.t 103) 1, none⟩, ⟨(some 18), .mov (.t 107), none⟩, ⟨(some 19), .mov (.t 108), none⟩])
  (.seq (.region [⟨(some 110), .loadN 16 (.t 10), none⟩, ⟨(some 111), .loadN 16 (.t 13), none⟩, ⟨(some 112), .call (.k (.c (.fn 20 []))) [(.t 110), (.t 111)], none⟩, ⟨(some 109), .mov (.t 112), none⟩, ⟨(some 113), .ext (.t 109) 0, none⟩, ⟨(some 114), .ext (.t 109) 1, none⟩, ⟨(some 20), .mov (.t 113), none⟩, ⟨(some 21), .mov (.t 114), none⟩])
  (.seq (.seq (.region [⟨(some 115), .mov (.t 15), none⟩, ⟨(some 116), .mov (.t 6), none⟩, ⟨(some 117), .bin .gtr .int (.t 115) (.t 116), none⟩, ⟨(some 118), .mov (.t 117), none⟩, ⟨(some 119), .mov (.t 19), some (118, false)⟩, ⟨(some 120), .mov (.t 21), some (118, false)⟩, ⟨(some 121), .bin .neq .int (.t 119) (.t 120), some (118, false)⟩, ⟨(some 122), .pick (.t 118) (.k (.c (.bool true))) (.t 121), none⟩, ⟨(some 123), .mov (.t 122), none⟩, ⟨(some 124), .mov (.t 19), some (123, false)⟩, ⟨(some 125), .bin .neq .int (.t 124) (.k (.c (.int .i64 0))), some (123, false)⟩, ⟨(some 126), .pick (.t 123) (.k (.c (.bool true))) (.t 125), none⟩, ⟨(some 127), .mov (.t 126), none⟩, ⟨(some 128), .mov (.t 18), some (127, false)⟩, ⟨(some 129), .mov (.t 20), some (127, false)⟩, ⟨(some 130), .call (.k (.c (.fn 45 []))) [(.t 128), (.t 129)], some (127, false)⟩, ⟨(some 131), .un .not (.t 130), some (127, false)⟩, ⟨(some 132), .pick (.t 127) (.k (.c (.bool true))) (.t 131), none⟩, ⟨(some 133), .mov (.t 132), none⟩, ⟨(some 134), .mov (.t 20), some (133, false)⟩, ⟨(some 135), .len false (.t 134), some (133, false)⟩, ⟨(some 136), .mov (.t 15), some (133, false)⟩, ⟨(some 137), .bin .gtr .int (.t 135) (.t 136), some (133, false)⟩, ⟨(some 138), .pick (.t 133) (.k (.c (.bool true))) (.t 137), none⟩])
  (.cond (.t 138) (.seq (.region [⟨(some 4), .mov (.k (.c (.bool false))), none⟩])
  .ret) .skip))
  (.seq (.seq (.region [⟨(some 22), .mov (.k (.c (.int .i64 0))), none⟩])
  (.block 2 (.loop l9_2)))
  (.seq (.region [⟨(some 4), .mov (.k (.c (.bool true))), none⟩])
  .ret))))))))))))))), [.tmp 4], true⟩
theorem c9 : kk 9 = some k9 := by kernel_rfl
/-- loop.example/g01263/laws.FnExactCouldBecome -/
def k10 : KF := ⟨58, (.seq (.region [⟨(some 2), .box 54 (.t 0), none⟩, ⟨(some 3), .box 54 (.t 1), none⟩, ⟨(some 4), .mov (.k (.c (.bool false))), none⟩])
  (.seq (.region [⟨(some 5), .mov (.k (.c (.int .i64 1048576))), none⟩])
  (.seq (.region [⟨(some 12), .loadN 18 (.t 2), none⟩, ⟨(some 13), .mov (.t 5), none⟩, ⟨(some 14), .call (.k (.c (.fn 34 []))) [(.t 12), (.t 13)], none⟩, ⟨(some 5), .mov (.t 14), none⟩])
  (.seq (.seq (.region [⟨(some 15), .mov (.t 5), none⟩, ⟨(some 16), .bin .lss .int (.t 15) (.k (.c (.int .i64 0))), none⟩])
  (.cond (.t 16) (.seq (.region [⟨(some 4), .mov (.k (.c (.bool true))), none⟩])
  .ret) .skip))
  (.seq (.region [⟨(some 17), .loadN 18 (.t 3), none⟩, ⟨(some 18), .mov (.t 5), none⟩, ⟨(some 19), .call (.k (.c (.fn 34 []))) [(.t 17), (.t 18)], none⟩, ⟨(some 5), .mov (.t 19), none⟩])
  (.seq (.seq (.region [⟨(some 20), .mov (.t 5), none⟩, ⟨(some 21), .bin .lss .int (.t 20) (.k (.c (.int .i64 0))), none⟩])
  (.cond (.t 21) (.seq (.region [⟨(some 4), .mov (.k (.c (.bool true))), none⟩])
  .ret) .skip))
  (.seq (.drawn [(⟨(some 23), .loadN 18 (.t 2), none⟩, []), (⟨(some 25), .loadN 18 (.t 3), none⟩, []), (⟨(some 24), .call (.k (.c (.fn 36 []))) [(.t 23)], none⟩, [⟨(some 25), .loadN 18 (.t 3), none⟩]), (⟨(some 26), .call (.k (.c (.fn 36 []))) [(.t 25)], none⟩, []), (⟨(some 27), .call (.k (.c (.fn 46 []))) [(.t 24), (.t 26)], none⟩, []), (⟨(some 22), .mov (.t 27), none⟩, []), (⟨(some 28), .ext (.t 22) 0, none⟩, []), (⟨(some 29), .ext (.t 22) 1, none⟩, []), (⟨(some 6), .mov (.t 28), none⟩, []), (⟨(some 7), .mov (.t 29), none⟩, [])])
  (.seq (.region [⟨(some 30), .loadN 18 (.t 2), none⟩, ⟨(some 31), .call (.k (.c (.fn 36 []))) [(.t 30)], none⟩, ⟨(some 8), .alloc 60 [(.bool false), (.slice none 0 (.exact 0)), (.int .i8 0), (.int .i8 0), (.int .i8 0), (.int .i8 0), (.int .i8 0), (.int .i8 0), (.int .i8 0), (.int .i8 0), (.int .i8 0), (.int .i8 0), (.int .i8 0), (.int .i8 0), (.int .i8 0), (.int .i8 0), (.int .i8 0), (.int .i8 0)], none⟩, ⟨none, .store 18 (.t 8) (.t 31), none⟩])
  (.seq (.region [⟨(some 32), .loadN 18 (.t 3), none⟩, ⟨(some 33), .call (.k (.c (.fn 36 []))) [(.t 32)], none⟩, ⟨(some 9), .alloc 60 [(.bool false), (.slice none 0 (.exact 0)), (.int .i8 0), (.int .i8 0), (.int .i8 0), (.int .i8 0), (.int .i8 0), (.int .i8 0), (.int .i8 0), (.int .i8 0), (.int .i8 0), (.int .i8 0), (.int .i8 0), (.int .i8 0), (.int .i8 0), (.int .i8 0), (.int .i8 0), (.int .i8 0)], none⟩, ⟨none, .store 18 (.t 9) (.t 33), none⟩])
  (.seq (.region [⟨(some 35), .loadN 18 (.t 8), none⟩, ⟨(some 36), .loadN 18 (.t 9), none⟩, ⟨(some 37), .call (.k (.c (.fn 47 []))) [(.t 35), (.t 36)], none⟩, ⟨(some 34), .mov (.t 37), none⟩, ⟨(some 38), .ext (.t 34) 0, none⟩, ⟨(some 39), .ext (.t 34) 1, none⟩, ⟨(some 10), .mov (.t 38), none⟩, ⟨(some 11), .mov (.t 39), none⟩])
  (.seq (.seq (.region [⟨(some 40), .mov (.t 10), none⟩, ⟨(some 41), .mov (.t 6), none⟩, ⟨(some 42), .bin .neq .bool (.t 40) (.t 41), none⟩, ⟨(some 43), .mov (.t 42), none⟩, ⟨(some 44), .mov (.t 11), some (43, false)⟩, ⟨(some 45), .mov (.t 7), some (43, false)⟩, ⟨(some 46), .bin .neq .int (.t 44) (.t 45), some (43, false)⟩, ⟨(some 47), .pick (.t 43) (.k (.c (.bool true))) (.t 46), none⟩])
  (.cond (.t 47) (.seq (.region [⟨(some 4), .mov (.k (.c (.bool false))), none⟩])
  .ret) .skip))
  (.seq (.seq (.drawn [(⟨(some 48), .loadN 18 (.t 8), none⟩, []), (⟨(some 49), .loadN 18 (.t 2), none⟩, []), (⟨(some 50), .call (.k (.c (.fn 36 []))) [(.t 49)], none⟩, [⟨(some 48), .loadN 18 (.t 8), none⟩]), (⟨(some 51), .call (.k (.c (.fn 39 []))) [(.t 48), (.t 50)], none⟩, []), (⟨(some 52), .un .not (.t 51), none⟩, [])])
  (.cond (.t 52) (.seq (.region [⟨(some 4), .mov (.k (.c (.bool false))), none⟩])
  .ret) .skip))
  (.seq (.seq (.drawn [(⟨(some 53), .loadN 18 (.t 9), none⟩, []), (⟨(some 54), .loadN 18 (.t 3), none⟩, []), (⟨(some 55), .call (.k (.c (.fn 36 []))) [(.t 54)], none⟩, [⟨(some 53), .loadN 18 (.t 9), none⟩]), (⟨(some 56), .call (.k (.c (.fn 39 []))) [(.t 53), (.t 55)], none⟩, []), (⟨(some 57), .un .not (.t 56), none⟩, [])])
  (.cond (.t 57) (.seq (.region [⟨(some 4), .mov (.k (.c (.bool false))), none⟩])
  .ret) .skip))
  (.seq (.region [⟨(some 4), .mov (.k (.c (.bool true))), none⟩])
  .ret)))))))))))))), [.tmp 4], true⟩
theorem c10 : kk 10 = some k10 := by kernel_rfl
/-- loop.example/g01263/laws.FnExactWhoLies -/
def k11 : KF := ⟨58, (.seq (.region [⟨(some 2), .box 54 (.t 0), none⟩, ⟨(some 3), .box 54 (.t 1), none⟩, ⟨(some 4), .mov (.k (.c (.bool false))), none⟩])
  (.seq (.region [⟨(some 5), .mov (.k (.c (.int .i64 1048576))), none⟩])
  (.seq (.region [⟨(some 12), .loadN 18 (.t 2), none⟩, ⟨(some 13), .mov (.t 5), none⟩, ⟨(some 14), .call (.k (.c (.fn 34 []))) [(.t 12), (.t 13)], none⟩, ⟨(some 5), .mov (.t 14), none⟩])
  (.seq (.seq (.region [⟨(some 15), .mov (.t 5), none⟩, ⟨(some 16), .bin .lss .int (.t 15) (.k (.c (.int .i64 0))), none⟩])
  (.cond (.t 16) (.seq (.region [⟨(some 4), .mov (.k (.c (.bool true))), none⟩])
  .ret) .skip))
  (.seq (.region [⟨(some 17), .loadN 18 (.t 3), none⟩, ⟨(some 18), .mov (.t 5), none⟩, ⟨(some 19), .call (.k (.c (.fn 34 []))) [(.t 17), (.t 18)], none⟩, ⟨(some 5), .mov (.t 19), none⟩])
  (.seq (.seq (.region [⟨(some 20), .mov (.t 5), none⟩, ⟨(some 21), .bin .lss .int (.t 20) (.k (.c (.int .i64 0))), none⟩])
  (.cond (.t 21) (.seq (.region [⟨(some 4), .mov (.k (.c (.bool true))), none⟩])
  .ret) .skip))
  (.seq (.drawn [(⟨(some 23), .loadN 18 (.t 2), none⟩, []), (⟨(some 25), .loadN 18 (.t 3), none⟩, []), (⟨(some 24), .call (.k (.c (.fn 36 []))) [(.t 23)], none⟩, [⟨(some 25), .loadN 18 (.t 3), none⟩]), (⟨(some 26), .call (.k (.c (.fn 36 []))) [(.t 25)], none⟩, []), (⟨(some 27), .call (.k (.c (.fn 48 []))) [(.t 24), (.t 26)], none⟩, []), (⟨(some 22), .mov (.t 27), none⟩, []), (⟨(some 28), .ext (.t 22) 0, none⟩, []), (⟨(some 29), .ext (.t 22) 1, none⟩, []), (⟨(some 6), .mov (.t 28), none⟩, []), (⟨(some 7), .mov (.t 29), none⟩, [])])
  (.seq (.region [⟨(some 30), .loadN 18 (.t 2), none⟩, ⟨(some 31), .call (.k (.c (.fn 36 []))) [(.t 30)], none⟩, ⟨(some 8), .alloc 60 [(.bool false), (.slice none 0 (.exact 0)), (.int .i8 0), (.int .i8 0), (.int .i8 0), (.int .i8 0), (.int .i8 0), (.int .i8 0), (.int .i8 0), (.int .i8 0), (.int .i8 0), (.int .i8 0), (.int .i8 0), (.int .i8 0), (.int .i8 0), (.int .i8 0), (.int .i8 0), (.int .i8 0)], none⟩, ⟨none, .store 18 (.t 8) (.t 31), none⟩])
  (.seq (.region [⟨(some 32), .loadN 18 (.t 3), none⟩, ⟨(some 33), .call (.k (.c (.fn 36 []))) [(.t 32)], none⟩, ⟨(some 9), .alloc 60 [(.bool false), (.slice none 0 (.exact 0)), (.int .i8 0), (.int .i8 0), (.int .i8 0), (.int .i8 0), (.int .i8 0), (.int .i8 0), (.int .i8 0), (.int .i8 0), (.int .i8 0), (.int .i8 0), (.int .i8 0), (.int .i8 0), (.int .i8 0), (.int .i8 0), (.int .i8 0), (.int .i8 0)], none⟩, ⟨none, .store 18 (.t 9) (.t 33), none⟩])
  (.seq (.region [⟨(some 35), .loadN 18 (.t 8), none⟩, ⟨(some 36), .loadN 18 (.t 9), none⟩, ⟨(some 37), .call (.k (.c (.fn 49 []))) [(.t 35), (.t 36)], none⟩, ⟨(some 34), .mov (.t 37), none⟩, ⟨(some 38), .ext (.t 34) 0, none⟩, ⟨(some 39), .ext (.t 34) 1, none⟩, ⟨(some 10), .mov (.t 38), none⟩, ⟨(some 11), .mov (.t 39), none⟩])
  (.seq (.seq (.region [⟨(some 40), .mov (.t 10), none⟩, ⟨(some 41), .mov (.t 6), none⟩, ⟨(some 42), .bin .neq .int (.t 40) (.t 41), none⟩, ⟨(some 43), .mov (.t 42), none⟩, ⟨(some 44), .mov (.t 11), some (43, false)⟩, ⟨(some 45), .mov (.t 7), some (43, false)⟩, ⟨(some 46), .bin .neq .int (.t 44) (.t 45), some (43, false)⟩, ⟨(some 47), .pick (.t 43) (.k (.c (.bool true))) (.t 46), none⟩])
  (.cond (.t 47) (.seq (.region [⟨(some 4), .mov (.k (.c (.bool false))), none⟩])
  .ret) .skip))
  (.seq (.seq (.drawn [(⟨(some 48), .loadN 18 (.t 8), none⟩, []), (⟨(some 49), .loadN 18 (.t 2), none⟩, []), (⟨(some 50), .call (.k (.c (.fn 36 []))) [(.t 49)], none⟩, [⟨(some 48), .loadN 18 (.t 8), none⟩]), (⟨(some 51), .call (.k (.c (.fn 39 []))) [(.t 48), (.t 50)], none⟩, []), (⟨(some 52), .un .not (.t 51), none⟩, [])])
  (.cond (.t 52) (.seq (.region [⟨(some 4), .mov (.k (.c (.bool false))), none⟩])
  .ret) .skip))
  (.seq (.seq (.drawn [(⟨(some 53), .loadN 18 (.t 9), none⟩, []), (⟨(some 54), .loadN 18 (.t 3), none⟩, []), (⟨(some 55), .call (.k (.c (.fn 36 []))) [(.t 54)], none⟩, [⟨(some 53), .loadN 18 (.t 9), none⟩]), (⟨(some 56), .call (.k (.c (.fn 39 []))) [(.t 53), (.t 55)], none⟩, []), (⟨(some 57), .un .not (.t 56), none⟩, [])])
  (.cond (.t 57) (.seq (.region [⟨(some 4), .mov (.k (.c (.bool false))), none⟩])
  .ret) .skip))
  (.seq (.region [⟨(some 4), .mov (.k (.c (.bool true))), none⟩])
  .ret)))))))))))))), [.tmp 4], true⟩
theorem c11 : kk 11 = some k11 := by kernel_rfl
/-- loop.example/g01263/laws.FnExactFindFoil -/
def k12 : KF := ⟨62, (.seq (.region [⟨(some 3), .box 54 (.t 0), none⟩, ⟨(some 6), .mov (.k (.c (.bool false))), none⟩])
  (.seq (.region [⟨(some 7), .mov (.k (.c (.int .i64 1048576))), none⟩])
  (.seq (.region [⟨(some 14), .loadN 18 (.t 3), none⟩, ⟨(some 15), .mov (.t 7), none⟩, ⟨(some 16), .call (.k (.c (.fn 34 []))) [(.t 14), (.t 15)], none⟩, ⟨(some 7), .mov (.t 16), none⟩])
  (.seq (.seq (.region [⟨(some 17), .mov (.t 7), none⟩, ⟨(some 18), .bin .lss .int (.t 17) (.k (.c (.int .i64 0))), none⟩])
  (.cond (.t 18) (.seq (.region [⟨(some 6), .mov (.k (.c (.bool true))), none⟩])
  .ret) .skip))
  (.seq (.region [⟨(some 19), .mov (.t 1), none⟩, ⟨(some 20), .mov (.t 7), none⟩, ⟨(some 21), .call (.k (.c (.fn 50 []))) [(.t 19), (.t 20)], none⟩, ⟨(some 7), .mov (.t 21), none⟩])
  (.seq (.seq (.region [⟨(some 22), .mov (.t 7), none⟩, ⟨(some 23), .bin .lss .int (.t 22) (.k (.c (.int .i64 0))), none⟩])
  (.cond (.t 23) (.seq (.region [⟨(some 6), .mov (.k (.c (.bool true))), none⟩])
  .ret) .skip))
  (.seq (.region [⟨(some 25), .loadN 18 (.t 3), none⟩, ⟨(some 26), .call (.k (.c (.fn 36 []))) [(.t 25)], none⟩, ⟨(some 27), .mov (.t 1), none⟩, ⟨(some 28), .call (.k (.c (.fn 52 []))) [(.t 27)], none⟩, ⟨(some 29), .mov (.t 2), none⟩, ⟨(some 30), .call (.k (.c (.fn 51 []))) [(.t 26), (.t 28), (.t 29)], none⟩, ⟨(some 24), .mov (.t 30), none⟩, ⟨(some 31), .ext (.t 24) 0, none⟩, ⟨(some 32), .ext (.t 24) 1, none⟩, ⟨(some 8), .mov (.t 31), none⟩, ⟨(some 9), .mov (.t 32), none⟩])
  (.seq (.region [⟨(some 33), .loadN 18 (.t 3), none⟩, ⟨(some 34), .call (.k (.c (.fn 36 []))) [(.t 33)], none⟩, ⟨(some 10), .alloc 60 [(.bool false), (.slice none 0 (.exact 0)), (.int .i8 0), (.int .i8 0), (.int .i8 0), (.int .i8 0), (.int .i8 0), (.int .i8 0), (.int .i8 0), (.int .i8 0), (.int .i8 0), (.int .i8 0), (.int .i8 0), (.int .i8 0), (.int .i8 0), (.int .i8 0), (.int .i8 0), (.int .i8 0)], none⟩, ⟨none, .store 18 (.t 10) (.t 34), none⟩])
  (.seq (.region [⟨(some 35), .mov (.t 1), none⟩, ⟨(some 36), .call (.k (.c (.fn 52 []))) [(.t 35)], none⟩, ⟨(some 11), .mov (.t 36), none⟩])
  (.seq (.region [⟨(some 38), .loadN 18 (.t 10), none⟩, ⟨(some 39), .mov (.t 11), none⟩, ⟨(some 40), .mov (.t 2), none⟩, ⟨(some 41), .call (.k (.c (.fn 53 []))) [(.t 38), (.t 39), (.t 40)], none⟩, ⟨(some 37), .mov (.t 41), none⟩, ⟨(some 42), .ext (.t 37) 0, none⟩, ⟨(some 43), .ext (.t 37) 1, none⟩, ⟨(some 12), .mov (.t 42), none⟩, ⟨(some 13), .mov (.t 43), none⟩])
  (.seq (.seq (.region [⟨(some 44), .mov (.t 12), none⟩, ⟨(some 45), .mov (.t 8), none⟩, ⟨(some 46), .bin .neq .int (.t 44) (.t 45), none⟩, ⟨(some 47), .mov (.t 46), none⟩, ⟨(some 48), .mov (.t 13), some (47, false)⟩, ⟨(some 49), .mov (.t 9), some (47, false)⟩, ⟨(some 50), .bin .neq .int (.t 48) (.t 49), some (47, false)⟩, ⟨(some 51), .pick (.t 47) (.k (.c (.bool true))) (.t 50), none⟩])
  (.cond (.t 51) (.seq (.region [⟨(some 6), .mov (.k (.c (.bool false))), none⟩])
  .ret) .skip))
  (.seq (.seq (.drawn [(⟨(some 52), .loadN 18 (.t 10), none⟩, []), (⟨(some 53), .loadN 18 (.t 3), none⟩, []), (⟨(some 54), .call (.k (.c (.fn 36 []))) [(.t 53)], none⟩, [⟨(some 52), .loadN 18 (.t 10), none⟩]), (⟨(some 55), .call (.k (.c (.fn 39 []))) [(.t 52), (.t 54)], none⟩, []), (⟨(some 56), .un .not (.t 55), none⟩, [])])
  (.cond (.t 56) (.seq (.region [⟨(some 6), .mov (.k (.c (.bool false))), none⟩])
  .ret) .skip))
  (.seq (.seq (.region [⟨(some 57), .mov (.t 11), none⟩, ⟨(some 58), .mov (.t 1), none⟩, ⟨(some 59), .call (.k (.c (.fn 52 []))) [(.t 58)], none⟩, ⟨(some 60), .call (.k (.c (.fn 54 []))) [(.t 57), (.t 59)], none⟩, ⟨(some 61), .un .not (.t 60), none⟩])
  (.cond (.t 61) (.seq (.region [⟨(some 6), .mov (.k (.c (.bool false))), none⟩])
  .ret) .skip))
  (.seq (.region [⟨(some 6), .mov (.k (.c (.bool true))), none⟩])
  .ret)))))))))))))), [.tmp 6], true⟩
theorem c12 : kk 12 = some k12 := by kernel_rfl
/-- loop.example/g01263/laws.FnExactNearestFoil -/
def k13 : KF := ⟨67, (.seq (.region [⟨(some 2), .box 54 (.t 0), none⟩, ⟨(some 4), .mov (.k (.c (.bool false))), none⟩])
  (.seq (.region [⟨(some 5), .mov (.k (.c (.int .i64 1048576))), none⟩])
  (.seq (.region [⟨(some 14), .loadN 18 (.t 2), none⟩, ⟨(some 15), .mov (.t 5), none⟩, ⟨(some 16), .call (.k (.c (.fn 34 []))) [(.t 14), (.t 15)], none⟩, ⟨(some 5), .mov (.t 16), none⟩])
  (.seq (.seq (.region [⟨(some 17), .mov (.t 5), none⟩, ⟨(some 18), .bin .lss .int (.t 17) (.k (.c (.int .i64 0))), none⟩])
  (.cond (.t 18) (.seq (.region [⟨(some 4), .mov (.k (.c (.bool true))), none⟩])
  .ret) .skip))
  (.seq (.region [⟨(some 19), .mov (.t 1), none⟩, ⟨(some 20), .mov (.t 5), none⟩, ⟨(some 21), .call (.k (.c (.fn 50 []))) [(.t 19), (.t 20)], none⟩, ⟨(some 5), .mov (.t 21), none⟩])
  (.seq (.seq (.region [⟨(some 22), .mov (.t 5), none⟩, ⟨(some 23), .bin .lss .int (.t 22) (.k (.c (.int .i64 0))), none⟩])
  (.cond (.t 23) (.seq (.region [⟨(some 4), .mov (.k (.c (.bool true))), none⟩])
  .ret) .skip))
  (.seq (.region [⟨(some 25), .loadN 18 (.t 2), none⟩, ⟨(some 26), .call (.k (.c (.fn 36 []))) [(.t 25)], none⟩, ⟨(some 27), .mov (.t 1), none⟩, ⟨(some 28), .call (.k (.c (.fn 52 []))) [(.t 27)], none⟩, ⟨(some 29), .call (.k (.c (.fn 55 []))) [(.t 26), (.t 28)], none⟩, ⟨(some 24), .mov (.t 29), none⟩, ⟨(some 30), .ext (.t 24) 0, none⟩, ⟨(some 31), .ext (.t 24) 1, none⟩, ⟨(some 32), .ext (.t 24) 2, none⟩, ⟨(some 6), .mov (.t 30), none⟩, ⟨(some 7), .mov (.t 31), none⟩, ⟨(some 8), .mov (.t 32), none⟩])
  (.seq (.region [⟨(some 33), .loadN 18 (.t 2), none⟩, ⟨(some 34), .call (.k (.c (.fn 36 []))) [(.t 33)], none⟩, ⟨(some 9), .alloc 60 [(.bool false), (.slice none 0 (.exact 0)), (.int .i8 0), (.int .i8 0), (.int .i8 0), (.int .i8 0), (.int .i8 0), (.int .i8 0), (.int .i8 0), (.int .i8 0), (.int .i8 0), (.int .i8 0), (.int .i8 0), (.int .i8 0), (.int .i8 0), (.int .i8 0), (.int .i8 0), (.int .i8 0)], none⟩, ⟨none, .store 18 (.t 9) (.t 34), none⟩])
  (.seq (.region [⟨(some 35), .mov (.t 1), none⟩, ⟨(some 36), .call (.k (.c (.fn 52 []))) [(.t 35)], none⟩, ⟨(some 10), .mov (.t 36), none⟩])
  (.seq (.region [⟨(some 38), .loadN 18 (.t 9), none⟩, ⟨(some 39), .mov (.t 10), none⟩, ⟨(some 40), .call (.k (.c (.fn 56 []))) [(.t 38), (.t 39)], none⟩, ⟨(some 37), .mov (.t 40), none⟩, ⟨(some 41), .ext (.t 37) 0, none⟩, ⟨(some 42), .ext (.t 37) 1, none⟩, ⟨(some 43), .ext (.t 37) 2, none⟩, ⟨(some 11), .mov (.t 41), none⟩, ⟨(some 12), .mov (.t 42), none⟩, ⟨(some 13), .mov (.t 43), none⟩])
  (.seq (.seq (.region [⟨(some 44), .mov (.t 11), none⟩, ⟨(some 45), .mov (.t 6), none⟩, ⟨(some 46), .bin .neq .int (.t 44) (.t 45), none⟩, ⟨(some 47), .mov (.t 46), none⟩, ⟨(some 48), .mov (.t 12), some (47, false)⟩, ⟨(some 49), .mov (.t 7), some (47, false)⟩, ⟨(some 50), .bin .neq .int (.t 48) (.t 49), some (47, false)⟩, ⟨(some 51), .pick (.t 47) (.k (.c (.bool true))) (.t 50), none⟩, ⟨(some 52), .mov (.t 51), none⟩, ⟨(some 53), .mov (.t 13), some (52, false)⟩, ⟨(some 54), .mov (.t 8), some (52, false)⟩, ⟨(some 55), .bin .neq .int (.t 53) (.t 54), some (52, false)⟩, ⟨(some 56), .pick (.t 52) (.k (.c (.bool true))) (.t 55), none⟩])
  (.cond (.t 56) (.seq (.region [⟨(some 4), .mov (.k (.c (.bool false))), none⟩])
  .ret) .skip))
  (.seq (.seq (.drawn [(⟨(some 57), .loadN 18 (.t 9), none⟩, []), (⟨(some 58), .loadN 18 (.t 2), none⟩, []), (⟨(some 59), .call (.k (.c (.fn 36 []))) [(.t 58)], none⟩, [⟨(some 57), .loadN 18 (.t 9), none⟩]), (⟨(some 60), .call (.k (.c (.fn 39 []))) [(.t 57), (.t 59)], none⟩, []), (⟨(some 61), .un .not (.t 60), none⟩, [])])
  (.cond (.t 61) (.seq (.region [⟨(some 4), .mov (.k (.c (.bool false))), none⟩])
  .ret) .skip))
  (.seq (.seq (.region [⟨(some 62), .mov (.t 10), none⟩, ⟨(some 63), .mov (.t 1), none⟩, ⟨(some 64), .call (.k (.c (.fn 52 []))) [(.t 63)], none⟩, ⟨(some 65), .call (.k (.c (.fn 54 []))) [(.t 62), (.t 64)], none⟩, ⟨(some 66), .un .not (.t 65), none⟩])
  (.cond (.t 66) (.seq (.region [⟨(some 4), .mov (.k (.c (.bool false))), none⟩])
  .ret) .skip))
  (.seq (.region [⟨(some 4), .mov (.k (.c (.bool true))), none⟩])
  .ret)))))))))))))), [.tmp 4], true⟩
theorem c13 : kk 13 = some k13 := by kernel_rfl
/-- loop.example/g01263/laws.FnExactSureAmount -/
def k14 : KF := ⟨58, (.seq (.region [⟨(some 2), .box 54 (.t 0), none⟩, ⟨(some 3), .box 54 (.t 1), none⟩, ⟨(some 4), .mov (.k (.c (.bool false))), none⟩])
  (.seq (.region [⟨(some 5), .mov (.k (.c (.int .i64 1048576))), none⟩])
  (.seq (.region [⟨(some 12), .loadN 18 (.t 2), none⟩, ⟨(some 13), .mov (.t 5), none⟩, ⟨(some 14), .call (.k (.c (.fn 34 []))) [(.t 12), (.t 13)], none⟩, ⟨(some 5), .mov (.t 14), none⟩])
  (.seq (.seq (.region [⟨(some 15), .mov (.t 5), none⟩, ⟨(some 16), .bin .lss .int (.t 15) (.k (.c (.int .i64 0))), none⟩])
  (.cond (.t 16) (.seq (.region [⟨(some 4), .mov (.k (.c (.bool true))), none⟩])
  .ret) .skip))
  (.seq (.region [⟨(some 17), .loadN 18 (.t 3), none⟩, ⟨(some 18), .mov (.t 5), none⟩, ⟨(some 19), .call (.k (.c (.fn 34 []))) [(.t 17), (.t 18)], none⟩, ⟨(some 5), .mov (.t 19), none⟩])
  (.seq (.seq (.region [⟨(some 20), .mov (.t 5), none⟩, ⟨(some 21), .bin .lss .int (.t 20) (.k (.c (.int .i64 0))), none⟩])
  (.cond (.t 21) (.seq (.region [⟨(some 4), .mov (.k (.c (.bool true))), none⟩])
  .ret) .skip))
  (.seq (.drawn [(⟨(some 23), .loadN 18 (.t 2), none⟩, []), (⟨(some 25), .loadN 18 (.t 3), none⟩, []), (⟨(some 24), .call (.k (.c (.fn 36 []))) [(.t 23)], none⟩, [⟨(some 25), .loadN 18 (.t 3), none⟩]), (⟨(some 26), .call (.k (.c (.fn 36 []))) [(.t 25)], none⟩, []), (⟨(some 27), .call (.k (.c (.fn 57 []))) [(.t 24), (.t 26)], none⟩, []), (⟨(some 22), .mov (.t 27), none⟩, []), (⟨(some 28), .ext (.t 22) 0, none⟩, []), (⟨(some 29), .ext (.t 22) 1, none⟩, []), (⟨(some 6), .mov (.t 28), none⟩, []), (⟨(some 7), .mov (.t 29), none⟩, [])])
  (.seq (.region [⟨(some 30), .loadN 18 (.t 2), none⟩, ⟨(some 31), .call (.k (.c (.fn 36 []))) [(.t 30)], none⟩, ⟨(some 8), .alloc 60 [(.bool false), (.slice none 0 (.exact 0)), (.int .i8 0), (.int .i8 0), (.int .i8 0), (.int .i8 0), (.int .i8 0), (.int .i8 0), (.int .i8 0), (.int .i8 0), (.int .i8 0), (.int .i8 0), (.int .i8 0), (.int .i8 0), (.int .i8 0), (.int .i8 0), (.int .i8 0), (.int .i8 0)], none⟩, ⟨none, .store 18 (.t 8) (.t 31), none⟩])
  (.seq (.region [⟨(some 32), .loadN 18 (.t 3), none⟩, ⟨(some 33), .call (.k (.c (.fn 36 []))) [(.t 32)], none⟩, ⟨(some 9), .alloc 60 [(.bool false), (.slice none 0 (.exact 0)), (.int .i8 0), (.int .i8 0), (.int .i8 0), (.int .i8 0), (.int .i8 0), (.int .i8 0), (.int .i8 0), (.int .i8 0), (.int .i8 0), (.int .i8 0), (.int .i8 0), (.int .i8 0), (.int .i8 0), (.int .i8 0), (.int .i8 0), (.int .i8 0)], none⟩, ⟨none, .store 18 (.t 9) (.t 33), none⟩])
  (.seq (.region [⟨(some 35), .loadN 18 (.t 8), none⟩, ⟨(some 36), .loadN 18 (.t 9), none⟩, ⟨(some 37), .call (.k (.c (.fn 58 []))) [(.t 35), (.t 36)], none⟩, ⟨(some 34), .mov (.t 37), none⟩, ⟨(some 38), .ext (.t 34) 0, none⟩, ⟨(some 39), .ext (.t 34) 1, none⟩, ⟨(some 10), .mov (.t 38), none⟩, ⟨(some 11), .mov (.t 39), none⟩])
  (.seq (.seq (.region [⟨(some 40), .mov (.t 10), none⟩, ⟨(some 41), .mov (.t 6), none⟩, ⟨(some 42), .bin .neq .int (.t 40) (.t 41), none⟩, ⟨(some 43), .mov (.t 42), none⟩, ⟨(some 44), .mov (.t 11), some (43, false)⟩, ⟨(some 45), .mov (.t 7), some (43, false)⟩, ⟨(some 46), .bin .neq .int (.t 44) (.t 45), some (43, false)⟩, ⟨(some 47), .pick (.t 43) (.k (.c (.bool true))) (.t 46), none⟩])
  (.cond (.t 47) (.seq (.region [⟨(some 4), .mov (.k (.c (.bool false))), none⟩])
  .ret) .skip))
  (.seq (.seq (.drawn [(⟨(some 48), .loadN 18 (.t 8), none⟩, []), (⟨(some 49), .loadN 18 (.t 2), none⟩, []), (⟨(some 50), .call (.k (.c (.fn 36 []))) [(.t 49)], none⟩, [⟨(some 48), .loadN 18 (.t 8), none⟩]), (⟨(some 51), .call (.k (.c (.fn 39 []))) [(.t 48), (.t 50)], none⟩, []), (⟨(some 52), .un .not (.t 51), none⟩, [])])
  (.cond (.t 52) (.seq (.region [⟨(some 4), .mov (.k (.c (.bool false))), none⟩])
  .ret) .skip))
  (.seq (.seq (.drawn [(⟨(some 53), .loadN 18 (.t 9), none⟩, []), (⟨(some 54), .loadN 18 (.t 3), none⟩, []), (⟨(some 55), .call (.k (.c (.fn 36 []))) [(.t 54)], none⟩, [⟨(some 53), .loadN 18 (.t 9), none⟩]), (⟨(some 56), .call (.k (.c (.fn 39 []))) [(.t 53), (.t 55)], none⟩, []), (⟨(some 57), .un .not (.t 56), none⟩, [])])
  (.cond (.t 57) (.seq (.region [⟨(some 4), .mov (.k (.c (.bool false))), none⟩])
  .ret) .skip))
  (.seq (.region [⟨(some 4), .mov (.k (.c (.bool true))), none⟩])
  .ret)))))))))))))), [.tmp 4], true⟩
theorem c14 : kk 14 = some k14 := by kernel_rfl
/-- loop.example/g01263/spec.IsInWood -/
def l15_0 : KC := (.seq (.seq (.region [⟨(some 6), .mov (.t 5), none⟩, ⟨(some 7), .bin .lss .int (.t 6) (.k (.c (.int .i64 4))), none⟩])
  (.cond (.t 7) .skip (.exit 0)))
  (.seq (.block 1 (.seq (.drawn [(⟨(some 10), .mov (.t 5), none⟩, []), (⟨(some 11), .idxA 4 1 (.t 2) (.t 10), none⟩, []), (⟨(some 12), .load1 (.t 11), none⟩, []), (⟨(some 13), .mov (.t 5), none⟩, []), (⟨(some 14), .idxA 4 1 (.t 3) (.t 13), none⟩, []), (⟨(some 15), .load1 (.t 14), none⟩, []), (⟨(some 16), .bin .andNot .int (.t 12) (.t 15), none⟩, []), (⟨(some 17), .bin .neq .int (.t 16) (.k (.c (.int .u64 0))), none⟩, [])])
  (.cond (.t 17) (.seq (.region [⟨(some 4), .mov (.k (.c (.bool false))), none⟩])
  .ret) .skip)))
  (.region [⟨(some 8), .mov (.t 5), none⟩, ⟨(some 9), .bin .add .int (.t 8) (.k (.c (.int .i64 1))), none⟩, ⟨(some 5), .mov (.t 9), none⟩])))
def k15 : KF := ⟨18, (.seq (.region [⟨(some 2), .box 25 (.t 0), none⟩, ⟨(some 3), .box 25 (.t 1), none⟩, ⟨(some 4), .mov (.k (.c (.bool false))), none⟩])
  (.seq (.seq (.region [⟨(some 5), .mov (.k (.c (.int .i64 0))), none⟩])
  (.block 0 (.loop l15_0)))
  (.seq (.region [⟨(some 4), .mov (.k (.c (.bool true))), none⟩])
  .ret))), [.tmp 4], true⟩
theorem c15 : kk 15 = some k15 := by kernel_rfl
/-- loop.example/g01263/laws.toWood -/
def l16_0 : KC := (.seq (.seq (.region [⟨(some 5), .mov (.t 4), none⟩, ⟨(some 6), .bin .lss .int (.t 5) (.k (.c (.int .i64 4))), none⟩])
  (.cond (.t 6) .skip (.exit 0)))
  (.seq (.block 1 (.region [⟨(some 9), .mov (.t 4), none⟩, ⟨(some 10), .mov (.t 4), none⟩, ⟨(some 11), .idxA 4 1 (.t 1) (.t 10), none⟩, ⟨(some 12), .load1 (.t 11), none⟩, ⟨(some 13), .idxA 4 1 (.t 3) (.t 9), none⟩, ⟨none, .store 1 (.t 13) (.t 12), none⟩]))
  (.region [⟨(some 7), .mov (.t 4), none⟩, ⟨(some 8), .bin .add .int (.t 7) (.k (.c (.int .i64 1))), none⟩, ⟨(some 4), .mov (.t 8), none⟩])))
def k16 : KF := ⟨15, (.seq (.region [⟨(some 1), .box 23 (.t 0), none⟩, ⟨(some 2), .alloc 25 [(.int .u64 0), (.int .u64 0), (.int .u64 0), (.int .u64 0)], none⟩])
  (.seq (.region [⟨(some 3), .alloc 25 [(.int .u64 0), (.int .u64 0), (.int .u64 0), (.int .u64 0)], none⟩])
  (.seq (.seq (.region [⟨(some 4), .mov (.k (.c (.int .i64 0))), none⟩])
  (.block 0 (.loop l16_0)))
  (.seq (.region [⟨(some 14), .loadN 4 (.t 3), none⟩, ⟨none, .store 4 (.t 2) (.t 14), none⟩])
  .ret)))), [.cellN 2 4], true⟩
theorem c16 : kk 16 = some k16 := by kernel_rfl
/-- loop.example/g01263/impl.IsInWood -/
def l17_0 : KC := (.seq (.region [⟨(some 7), .bin .lss .int (.t 6) (.k (.c (.int .i64 4))), none⟩])
  (.seq (.cond (.t 7) .skip (.exit 0))
  (.seq (.block 1 (.seq (.region [⟨(some 8), .mov (.t 6), none⟩, ⟨(some 5), .mov (.t 8), none⟩])
  (.seq (.drawn [(⟨(some 9), .mov (.t 5), none⟩, []), (⟨(some 10), .idxA 4 1 (.t 2) (.t 9), none⟩, []), (⟨(some 11), .load1 (.t 10), none⟩, []), (⟨(some 12), .mov (.t 5), none⟩, []), (⟨(some 13), .idxA 4 1 (.t 3) (.t 12), none⟩, []), (⟨(some 14), .load1 (.t 13), none⟩, []), (⟨(some 15), .bin .andNot .int (.t 11) (.t 14), none⟩, []), (⟨(some 16), .bin .neq .int (.t 15) (.k (.c (.int .u64 0))), none⟩, [])])
  (.cond (.t 16) (.seq (.region [⟨(some 4), .mov (.k (.c (.bool false))), none⟩])
  .ret) .skip))))
  (.region [⟨(some 17), .bin .add .int (.t 6) (.k (.c (.int .i64 1))), none⟩, ⟨(some 6), .mov (.t 17), none⟩]))))
def k17 : KF := ⟨18, (.seq (.region [⟨(some 2), .box 25 (.t 0), none⟩, ⟨(some 3), .box 25 (.t 1), none⟩, ⟨(some 4), .mov (.k (.c (.bool false))), none⟩])
  (.seq (.seq (.region [⟨(some 6), .mov (.k (.c (.int .i64 0))), none⟩])
  (.block 0 (.loop l17_0)))
  (.seq (.region [⟨(some 4), .mov (.k (.c (.bool true))), none⟩])
  .ret))), [.tmp 4], true⟩
theorem c17 : kk 17 = some k17 := by kernel_rfl
/-- loop.example/g01263/spec.CountWood -/
def l18_0 : KC := (.seq (.seq (.region [⟨(some 13), .mov (.t 5), none⟩, ⟨(some 14), .bin .neq .int (.t 13) (.k (.c (.int .u64 0))), none⟩])
  (.cond (.t 14) .skip (.exit 2)))
  (.seq (.block 3 (.region [⟨(some 17), .mov (.t 3), none⟩, ⟨(some 18), .mov (.t 5), none⟩, ⟨(some 19), .bin .and .int (.t 18) (.k (.c (.int .u64 1))), none⟩, ⟨(some 20), .conv .i64 (.t 19), none⟩, ⟨(some 21), .bin .add .int (.t 17) (.t 20), none⟩, ⟨(some 3), .mov (.t 21), none⟩]))
  (.region [⟨(some 15), .mov (.t 5), none⟩, ⟨(some 16), .bin .shr .int (.t 15) (.k (.c (.int .u64 1))), none⟩, ⟨(some 5), .mov (.t 16), none⟩])))
def l18_1 : KC := (.seq (.seq (.region [⟨(some 6), .mov (.t 4), none⟩, ⟨(some 7), .bin .lss .int (.t 6) (.k (.c (.int .i64 4))), none⟩])
  (.cond (.t 7) .skip (.exit 0)))
  (.seq (.block 1 (.seq (.region [⟨(some 10), .mov (.t 4), none⟩, ⟨(some 11), .idxA 4 1 (.t 1) (.t 10), none⟩, ⟨(some 12), .load1 (.t 11), none⟩, ⟨(some 5), .mov (.t 12), none⟩])
  (.block 2 (.loop l18_0))))
  (.region [⟨(some 8), .mov (.t 4), none⟩, ⟨(some 9), .bin .add .int (.t 8) (.k (.c (.int .i64 1))), none⟩, ⟨(some 4), .mov (.t 9), none⟩])))
def k18 : KF := ⟨23, (.seq (.region [⟨(some 1), .box 25 (.t 0), none⟩, ⟨(some 2), .mov (.k (.c (.int .i64 0))), none⟩])
  (.seq (.region [⟨(some 3), .mov (.k (.c (.int .i64 0))), none⟩])
  (.seq (.seq (.region [⟨(some 4), .mov (.k (.c (.int .i64 0))), none⟩])
  (.block 0 (.loop l18_1)))
  (.seq (.region [⟨(some 22), .mov (.t 3), none⟩, ⟨(some 2), .mov (.t 22), none⟩])
  .ret)))), [.tmp 2], true⟩
theorem c18 : kk 18 = some k18 := by kernel_rfl
/-- loop.example/g01263/impl.CountWood -/
def l19_0 : KC := (.seq (.region [⟨(some 8), .bin .lss .int (.t 7) (.k (.c (.int .i64 4))), none⟩])
  (.seq (.cond (.t 8) .skip (.exit 0))
  (.seq (.block 1 (.seq (.region [⟨(some 9), .idx1 4 (.t 6) (.t 7), none⟩, ⟨(some 5), .mov (.t 9), none⟩])
  (.region [⟨(some 10), .mov (.t 3), none⟩, ⟨(some 11), .mov (.t 5), none⟩, ⟨(some 12), .call (.k (.c (.fn 59 []))) [(.t 11)], none⟩, ⟨(some 13), .bin .add .int (.t 10) (.t 12), none⟩, ⟨(some 3), .mov (.t 13), none⟩])))
  (.region [⟨(some 14), .bin .add .int (.t 7) (.k (.c (.int .i64 1))), none⟩, ⟨(some 7), .mov (.t 14), none⟩]))))
def k19 : KF := ⟨16, (.seq (.region [⟨(some 1), .box 25 (.t 0), none⟩, ⟨(some 2), .mov (.k (.c (.int .i64 0))), none⟩])
  (.seq (.region [⟨(some 3), .mov (.k (.c (.int .i64 0))), none⟩])
  (.seq (.seq (.region [⟨(some 6), .loadN 4 (.t 1), none⟩, ⟨(some 7), .mov (.k (.c (.int .i64 0))), none⟩])
  (.block 0 (.loop l19_0)))
  (.seq (.region [⟨(some 15), .mov (.t 3), none⟩, ⟨(some 2), .mov (.t 15), none⟩])
  .ret)))), [.tmp 2], true⟩
theorem c19 : kk 19 = some k19 := by kernel_rfl
/-- loop.example/g01263/spec.WornPlaces -/
def k20 : KF := ⟨18, (.seq (.region [⟨(some 2), .box 35 (.t 0), none⟩, ⟨(some 3), .box 35 (.t 1), none⟩, ⟨(some 4), .mov (.k (.c (.slice none 0 (.exact 0)))), none⟩, ⟨(some 5), .mov (.k (.c (.int .i64 0))), none⟩])
  (.seq (.seq (.region [⟨(some 6), .loadN 16 (.t 2), none⟩, ⟨(some 7), .call (.k (.c (.fn 60 []))) [(.t 6)], none⟩, ⟨(some 8), .un .not (.t 7), none⟩, ⟨(some 9), .mov (.t 8), none⟩, ⟨(some 10), .loadN 16 (.t 3), some (9, false)⟩, ⟨(some 11), .call (.k (.c (.fn 60 []))) [(.t 10)], some (9, false)⟩, ⟨(some 12), .un .not (.t 11), some (9, false)⟩, ⟨(some 13), .pick (.t 9) (.k (.c (.bool true))) (.t 12), none⟩])
  (.cond (.t 13) (.seq (.region [⟨(some 14), .buildSl 2 0 [] [], none⟩, ⟨(some 4), .mov (.t 14), none⟩, ⟨(some 5), .mov (.k (.c (.int .i64 1))), none⟩])
  .ret) .skip))
  (.seq (.region [⟨(some 15), .loadN 16 (.t 2), none⟩, ⟨(some 16), .loadN 16 (.t 3), none⟩, ⟨(some 17), .call (.k (.c (.fn 61 []))) [(.t 15), (.t 16)], none⟩, ⟨(some 4), .mov (.t 17), none⟩, ⟨(some 5), .mov (.k (.c (.int .i64 0))), none⟩])
  .ret))), [.tmp 4, .tmp 5], false⟩
theorem c20 : kk 20 = some k20 := by kernel_rfl
/-- loop.example/g01263/laws.toGrain -/
def l21_0 : KC := (.seq (.seq (.region [⟨(some 5), .mov (.t 4), none⟩, ⟨(some 6), .bin .lss .int (.t 5) (.k (.c (.int .i64 16))), none⟩])
  (.cond (.t 6) .skip (.exit 0)))
  (.seq (.block 1 (.region [⟨(some 9), .mov (.t 4), none⟩, ⟨(some 10), .mov (.t 4), none⟩, ⟨(some 11), .idxA 16 1 (.t 1) (.t 10), none⟩, ⟨(some 12), .load1 (.t 11), none⟩, ⟨(some 13), .idxA 16 1 (.t 3) (.t 9), none⟩, ⟨none, .store 1 (.t 13) (.t 12), none⟩]))
  (.region [⟨(some 7), .mov (.t 4), none⟩, ⟨(some 8), .bin .add .int (.t 7) (.k (.c (.int .i64 1))), none⟩, ⟨(some 4), .mov (.t 8), none⟩])))
def k21 : KF := ⟨15, (.seq (.region [⟨(some 1), .box 31 (.t 0), none⟩, ⟨(some 2), .alloc 35 [(.int .i8 0), (.int .i8 0), (.int .i8 0), (.int .i8 0), (.int .i8 0), (.int .i8 0), (.int .i8 0), (.int .i8 0), (.int .i8 0), (.int .i8 0), (.int .i8 0), (.int .i8 0), (.int .i8 0), (.int .i8 0), (.int .i8 0), (.int .i8 0)], none⟩])
  (.seq (.region [⟨(some 3), .alloc 35 [(.int .i8 0), (.int .i8 0), (.int .i8 0), (.int .i8 0), (.int .i8 0), (.int .i8 0), (.int .i8 0), (.int .i8 0), (.int .i8 0), (.int .i8 0), (.int .i8 0), (.int .i8 0), (.int .i8 0), (.int .i8 0), (.int .i8 0), (.int .i8 0)], none⟩])
  (.seq (.seq (.region [⟨(some 4), .mov (.k (.c (.int .i64 0))), none⟩])
  (.block 0 (.loop l21_0)))
  (.seq (.region [⟨(some 14), .loadN 16 (.t 3), none⟩, ⟨none, .store 16 (.t 2) (.t 14), none⟩])
  .ret)))), [.cellN 2 16], true⟩
theorem c21 : kk 21 = some k21 := by kernel_rfl
/-- loop.example/g01263/impl.WornPlaces -/
def k22 : KF := ⟨17, (.seq (.region [⟨(some 2), .box 35 (.t 0), none⟩, ⟨(some 3), .box 35 (.t 1), none⟩, ⟨(some 4), .mov (.k (.c (.slice none 0 (.exact 0)))), none⟩, ⟨(some 5), .mov (.k (.c (.int .i64 0))), none⟩])
  (.seq (.seq (.region [⟨(some 6), .loadN 16 (.t 2), none⟩, ⟨(some 7), .call (.k (.c (.fn 44 []))) [(.t 6)], none⟩, ⟨(some 8), .un .not (.t 7), none⟩, ⟨(some 9), .mov (.t 8), none⟩, ⟨(some 10), .loadN 16 (.t 3), some (9, false)⟩, ⟨(some 11), .call (.k (.c (.fn 44 []))) [(.t 10)], some (9, false)⟩, ⟨(some 12), .un .not (.t 11), some (9, false)⟩, ⟨(some 13), .pick (.t 9) (.k (.c (.bool true))) (.t 12), none⟩])
  (.cond (.t 13) (.seq (.region [⟨(some 4), .mov (.k (.c (.slice none 0 (.exact 0)))), none⟩, ⟨(some 5), .mov (.k (.c (.int .i64 1))), none⟩])
  .ret) .skip))
  (.seq (.region [⟨(some 14), .loadN 16 (.t 2), none⟩, ⟨(some 15), .loadN 16 (.t 3), none⟩, ⟨(some 16), .call (.k (.c (.fn 62 []))) [(.t 14), (.t 15)], none⟩, ⟨(some 4), .mov (.t 16), none⟩, ⟨(some 5), .mov (.k (.c (.int .i64 0))), none⟩])
  .ret))), [.tmp 4, .tmp 5], false⟩
theorem c22 : kk 22 = some k22 := by kernel_rfl
/-- loop.example/g01263/laws.eqInt64S -/
def l23_0 : KC := (.seq (.seq (.region [⟨(some 11), .mov (.t 5), none⟩, ⟨(some 12), .mov (.t 0), none⟩, ⟨(some 13), .len false (.t 12), none⟩, ⟨(some 14), .bin .lss .int (.t 11) (.t 13), none⟩])
  (.cond (.t 14) .skip (.exit 0)))
  (.seq (.block 1 (.seq (.drawn [(⟨(some 17), .mov (.t 0), none⟩, []), (⟨(some 18), .mov (.t 5), none⟩, []), (⟨(some 19), .idxS 1 (.t 17) (.t 18), none⟩, []), (⟨(some 20), .load1 (.t 19), none⟩, []), (⟨(some 21), .mov (.t 1), none⟩, []), (⟨(some 22), .mov (.t 5), none⟩, []), (⟨(some 23), .idxS 1 (.t 21) (.t 22), none⟩, []), (⟨(some 24), .load1 (.t 23), none⟩, []), (⟨(some 25), .bin .neq .int (.t 20) (.t 24), none⟩, [])])
  (.cond (.t 25) (.seq (.region [⟨(some 4), .mov (.k (.c (.bool false))), none⟩])
  .ret) .skip)))
  (.region [⟨(some 15), .mov (.t 5), none⟩, ⟨(some 16), .bin .add .int (.t 15) (.k (.c (.int .i64 1))), none⟩, ⟨(some 5), .mov (.t 16), none⟩])))
def k23 : KF := ⟨26, (.seq (.region [⟨(some 4), .mov (.k (.c (.bool false))), none⟩])
  (.seq (.seq (.region [⟨(some 6), .mov (.t 0), none⟩, ⟨(some 7), .len false (.t 6), none⟩, ⟨(some 8), .mov (.t 1), none⟩, ⟨(some 9), .len false (.t 8), none⟩, ⟨(some 10), .bin .neq .int (.t 7) (.t 9), none⟩])
  (.cond (.t 10) (.seq (.region [⟨(some 4), .mov (.k (.c (.bool false))), none⟩])
  .ret) .skip))
  (.seq (.seq (.region [⟨(some 5), .mov (.k (.c (.int .i64 0))), none⟩])
  (.block 0 (.loop l23_0)))
  (.seq (.region [⟨(some 4), .mov (.k (.c (.bool true))), none⟩])
  .ret)))), [.tmp 4], true⟩
theorem c23 : kk 23 = some k23 := by kernel_rfl
/-- loop.example/g01263/laws.markInt64S -/
def l24_0 : KC := (.seq (.seq (.region [⟨(some 6), .mov (.t 5), none⟩, ⟨(some 7), .mov (.t 0), none⟩, ⟨(some 8), .len false (.t 7), none⟩, ⟨(some 9), .bin .lss .int (.t 6) (.t 8), none⟩])
  (.cond (.t 9) .skip (.exit 0)))
  (.seq (.block 1 (.seq (.region [⟨(some 12), .mov (.t 0), none⟩, ⟨(some 13), .mov (.t 5), none⟩, ⟨(some 14), .mov (.t 1), none⟩, ⟨(some 15), .idxS 1 (.t 12) (.t 13), none⟩, ⟨none, .store 1 (.t 15) (.t 14), none⟩])
  (.region [⟨(some 16), .mov (.t 1), none⟩, ⟨(some 17), .bin .add .int (.t 16) (.k (.c (.int .i64 1))), none⟩, ⟨(some 1), .mov (.t 17), none⟩])))
  (.region [⟨(some 10), .mov (.t 5), none⟩, ⟨(some 11), .bin .add .int (.t 10) (.k (.c (.int .i64 1))), none⟩, ⟨(some 5), .mov (.t 11), none⟩])))
def k24 : KF := ⟨19, (.seq (.region [⟨(some 4), .mov (.k (.c (.int .i64 0))), none⟩])
  (.seq (.seq (.region [⟨(some 5), .mov (.k (.c (.int .i64 0))), none⟩])
  (.block 0 (.loop l24_0)))
  (.seq (.region [⟨(some 18), .mov (.t 1), none⟩, ⟨(some 4), .mov (.t 18), none⟩])
  .ret))), [.tmp 4], true⟩
theorem c24 : kk 24 = some k24 := by kernel_rfl
/-- loop.example/g01263/laws.heldInt64S -/
def l25_0 : KC := (.seq (.seq (.region [⟨(some 6), .mov (.t 5), none⟩, ⟨(some 7), .mov (.t 0), none⟩, ⟨(some 8), .len false (.t 7), none⟩, ⟨(some 9), .bin .lss .int (.t 6) (.t 8), none⟩])
  (.cond (.t 9) .skip (.exit 0)))
  (.seq (.block 1 (.seq (.seq (.region [⟨(some 12), .mov (.t 0), none⟩, ⟨(some 13), .mov (.t 5), none⟩, ⟨(some 14), .idxS 1 (.t 12) (.t 13), none⟩, ⟨(some 15), .load1 (.t 14), none⟩, ⟨(some 16), .mov (.t 1), none⟩, ⟨(some 17), .bin .neq .int (.t 15) (.t 16), none⟩])
  (.cond (.t 17) (.seq (.region [⟨(some 4), .mov (.k (.c (.int .i64 (-1)))), none⟩])
  .ret) .skip))
  (.region [⟨(some 18), .mov (.t 1), none⟩, ⟨(some 19), .bin .add .int (.t 18) (.k (.c (.int .i64 1))), none⟩, ⟨(some 1), .mov (.t 19), none⟩])))
  (.region [⟨(some 10), .mov (.t 5), none⟩, ⟨(some 11), .bin .add .int (.t 10) (.k (.c (.int .i64 1))), none⟩, ⟨(some 5), .mov (.t 11), none⟩])))
def k25 : KF := ⟨21, (.seq (.region [⟨(some 4), .mov (.k (.c (.int .i64 0))), none⟩])
  (.seq (.seq (.region [⟨(some 5), .mov (.k (.c (.int .i64 0))), none⟩])
  (.block 0 (.loop l25_0)))
  (.seq (.region [⟨(some 20), .mov (.t 1), none⟩, ⟨(some 4), .mov (.t 20), none⟩])
  .ret))), [.tmp 4], true⟩
theorem c25 : kk 25 = some k25 := by kernel_rfl
/-- loop.example/g01263/laws.szVerdict -/
def k26 : KF := ⟨12, (.seq (.region [⟨(some 2), .box 41 (.t 0), none⟩, ⟨(some 4), .mov (.k (.c (.int .i64 0))), none⟩])
  (.seq (.region [⟨(some 5), .fldA 4 (.t 2), none⟩, ⟨(some 6), .load1 (.t 5), none⟩, ⟨(some 7), .mov (.t 1), none⟩, ⟨(some 8), .call (.k (.c (.fn 63 []))) [(.t 6), (.t 7)], none⟩, ⟨(some 1), .mov (.t 8), none⟩])
  (.seq (.seq (.region [⟨(some 9), .mov (.t 1), none⟩, ⟨(some 10), .bin .lss .int (.t 9) (.k (.c (.int .i64 0))), none⟩])
  (.cond (.t 10) (.seq (.region [⟨(some 4), .mov (.k (.c (.int .i64 (-1)))), none⟩])
  .ret) .skip))
  (.seq (.region [⟨(some 11), .mov (.t 1), none⟩, ⟨(some 4), .mov (.t 11), none⟩])
  .ret)))), [.tmp 4], true⟩
theorem c26 : kk 26 = some k26 := by kernel_rfl
/-- loop.example/g01263/spec.SameVerdict -/
def k27 : KF := ⟨38, (.seq (.region [⟨(some 2), .box 44 (.t 0), none⟩, ⟨(some 3), .box 44 (.t 1), none⟩, ⟨(some 4), .mov (.k (.c (.bool false))), none⟩])
  (.seq (.region [⟨(some 5), .fldA 0 (.t 2), none⟩, ⟨(some 6), .load1 (.t 5), none⟩, ⟨(some 7), .fldA 0 (.t 3), none⟩, ⟨(some 8), .load1 (.t 7), none⟩, ⟨(some 9), .bin .eql .bool (.t 6) (.t 8), none⟩, ⟨(some 10), .mov (.t 9), none⟩, ⟨(some 11), .fldA 1 (.t 2), some (10, true)⟩, ⟨(some 12), .load1 (.t 11), some (10, true)⟩, ⟨(some 13), .fldA 1 (.t 3), some (10, true)⟩, ⟨(some 14), .load1 (.t 13), some (10, true)⟩, ⟨(some 15), .bin .eql .int (.t 12) (.t 14), some (10, true)⟩, ⟨(some 16), .pick (.t 10) (.t 15) (.k (.c (.bool false))), none⟩, ⟨(some 17), .mov (.t 16), none⟩, ⟨(some 18), .fldA 2 (.t 2), some (17, true)⟩, ⟨(some 19), .load1 (.t 18), some (17, true)⟩, ⟨(some 20), .fldA 2 (.t 3), some (17, true)⟩, ⟨(some 21), .load1 (.t 20), some (17, true)⟩, ⟨(some 22), .bin .eql .int (.t 19) (.t 21), some (17, true)⟩, ⟨(some 23), .pick (.t 17) (.t 22) (.k (.c (.bool false))), none⟩, ⟨(some 24), .mov (.t 23), none⟩, ⟨(some 25), .fldA 3 (.t 2), some (24, true)⟩, ⟨(some 26), .load1 (.t 25), some (24, true)⟩, ⟨(some 27), .fldA 3 (.t 3), some (24, true)⟩, ⟨(some 28), .load1 (.t 27), some (24, true)⟩, ⟨(some 29), .bin .eql .int (.t 26) (.t 28), some (24, true)⟩, ⟨(some 30), .pick (.t 24) (.t 29) (.k (.c (.bool false))), none⟩, ⟨(some 31), .mov (.t 30), none⟩, ⟨(some 32), .fldA 4 (.t 2), some (31, true)⟩, ⟨(some 33), .load1 (.t 32), some (31, true)⟩, ⟨(some 34), .fldA 4 (.t 3), some (31, true)⟩, ⟨(some 35), .load1 (.t 34), some (31, true)⟩, ⟨(some 36), .call (.k (.c (.fn 64 []))) [(.t 33), (.t 35)], some (31, true)⟩, ⟨(some 37), .pick (.t 31) (.t 36) (.k (.c (.bool false))), none⟩, ⟨(some 4), .mov (.t 37), none⟩])
  .ret)), [.tmp 4], true⟩
theorem c27 : kk 27 = some k27 := by kernel_rfl
/-- loop.example/g01263/laws.toVerdict -/
def k28 : KF := ⟨21, (.seq (.region [⟨(some 1), .box 41 (.t 0), none⟩, ⟨(some 2), .alloc 44 [(.bool false), (.int .i8 0), (.int .i64 0), (.int .i64 0), (.slice none 0 (.exact 0))], none⟩])
  (.seq (.region [⟨(some 3), .alloc 44 [(.bool false), (.int .i8 0), (.int .i64 0), (.int .i64 0), (.slice none 0 (.exact 0))], none⟩])
  (.seq (.region [⟨(some 4), .fldA 0 (.t 1), none⟩, ⟨(some 5), .load1 (.t 4), none⟩, ⟨(some 6), .fldA 0 (.t 3), none⟩, ⟨none, .store 1 (.t 6) (.t 5), none⟩])
  (.seq (.region [⟨(some 7), .fldA 1 (.t 1), none⟩, ⟨(some 8), .load1 (.t 7), none⟩, ⟨(some 9), .fldA 1 (.t 3), none⟩, ⟨none, .store 1 (.t 9) (.t 8), none⟩])
  (.seq (.region [⟨(some 10), .fldA 2 (.t 1), none⟩, ⟨(some 11), .load1 (.t 10), none⟩, ⟨(some 12), .fldA 2 (.t 3), none⟩, ⟨none, .store 1 (.t 12) (.t 11), none⟩])
  (.seq (.region [⟨(some 13), .fldA 3 (.t 1), none⟩, ⟨(some 14), .load1 (.t 13), none⟩, ⟨(some 15), .fldA 3 (.t 3), none⟩, ⟨none, .store 1 (.t 15) (.t 14), none⟩])
  (.seq (.region [⟨(some 16), .fldA 4 (.t 1), none⟩, ⟨(some 17), .load1 (.t 16), none⟩, ⟨(some 18), .call (.k (.c (.fn 65 []))) [(.t 17)], none⟩, ⟨(some 19), .fldA 4 (.t 3), none⟩, ⟨none, .store 1 (.t 19) (.t 18), none⟩])
  (.seq (.region [⟨(some 20), .loadN 5 (.t 3), none⟩, ⟨none, .store 5 (.t 2) (.t 20), none⟩])
  .ret)))))))), [.cellN 2 5], false⟩
theorem c28 : kk 28 = some k28 := by kernel_rfl
/-- loop.example/g01263/impl.SameVerdict -/
def k29 : KF := ⟨38, (.seq (.region [⟨(some 2), .box 44 (.t 0), none⟩, ⟨(some 3), .box 44 (.t 1), none⟩, ⟨(some 4), .mov (.k (.c (.bool false))), none⟩])
  (.seq (.region [⟨(some 5), .fldA 0 (.t 2), none⟩, ⟨(some 6), .load1 (.t 5), none⟩, ⟨(some 7), .fldA 0 (.t 3), none⟩, ⟨(some 8), .load1 (.t 7), none⟩, ⟨(some 9), .bin .eql .bool (.t 6) (.t 8), none⟩, ⟨(some 10), .mov (.t 9), none⟩, ⟨(some 11), .fldA 1 (.t 2), some (10, true)⟩, ⟨(some 12), .load1 (.t 11), some (10, true)⟩, ⟨(some 13), .fldA 1 (.t 3), some (10, true)⟩, ⟨(some 14), .load1 (.t 13), some (10, true)⟩, ⟨(some 15), .bin .eql .int (.t 12) (.t 14), some (10, true)⟩, ⟨(some 16), .pick (.t 10) (.t 15) (.k (.c (.bool false))), none⟩, ⟨(some 17), .mov (.t 16), none⟩, ⟨(some 18), .fldA 2 (.t 2), some (17, true)⟩, ⟨(some 19), .load1 (.t 18), some (17, true)⟩, ⟨(some 20), .fldA 2 (.t 3), some (17, true)⟩, ⟨(some 21), .load1 (.t 20), some (17, true)⟩, ⟨(some 22), .bin .eql .int (.t 19) (.t 21), some (17, true)⟩, ⟨(some 23), .pick (.t 17) (.t 22) (.k (.c (.bool false))), none⟩, ⟨(some 24), .mov (.t 23), none⟩, ⟨(some 25), .fldA 3 (.t 2), some (24, true)⟩, ⟨(some 26), .load1 (.t 25), some (24, true)⟩, ⟨(some 27), .fldA 3 (.t 3), some (24, true)⟩, ⟨(some 28), .load1 (.t 27), some (24, true)⟩, ⟨(some 29), .bin .eql .int (.t 26) (.t 28), some (24, true)⟩, ⟨(some 30), .pick (.t 24) (.t 29) (.k (.c (.bool false))), none⟩, ⟨(some 31), .mov (.t 30), none⟩, ⟨(some 32), .fldA 4 (.t 2), some (31, true)⟩, ⟨(some 33), .load1 (.t 32), some (31, true)⟩, ⟨(some 34), .fldA 4 (.t 3), some (31, true)⟩, ⟨(some 35), .load1 (.t 34), some (31, true)⟩, ⟨(some 36), .call (.k (.c (.fn 66 []))) [(.t 33), (.t 35)], some (31, true)⟩, ⟨(some 37), .pick (.t 31) (.t 36) (.k (.c (.bool false))), none⟩, ⟨(some 4), .mov (.t 37), none⟩])
  .ret)), [.tmp 4], true⟩
theorem c29 : kk 29 = some k29 := by kernel_rfl
/-- loop.example/g01263/laws.eqVerdict -/
def k30 : KF := ⟨31, (.seq (.region [⟨(some 2), .box 44 (.t 0), none⟩, ⟨(some 3), .box 44 (.t 1), none⟩, ⟨(some 4), .mov (.k (.c (.bool false))), none⟩])
  (.seq (.seq (.region [⟨(some 5), .fldA 0 (.t 2), none⟩, ⟨(some 6), .load1 (.t 5), none⟩, ⟨(some 7), .fldA 0 (.t 3), none⟩, ⟨(some 8), .load1 (.t 7), none⟩, ⟨(some 9), .bin .neq .bool (.t 6) (.t 8), none⟩])
  (.cond (.t 9) (.seq (.region [⟨(some 4), .mov (.k (.c (.bool false))), none⟩])
  .ret) .skip))
  (.seq (.seq (.region [⟨(some 10), .fldA 1 (.t 2), none⟩, ⟨(some 11), .load1 (.t 10), none⟩, ⟨(some 12), .fldA 1 (.t 3), none⟩, ⟨(some 13), .load1 (.t 12), none⟩, ⟨(some 14), .bin .neq .int (.t 11) (.t 13), none⟩])
  (.cond (.t 14) (.seq (.region [⟨(some 4), .mov (.k (.c (.bool false))), none⟩])
  .ret) .skip))
  (.seq (.seq (.region [⟨(some 15), .fldA 2 (.t 2), none⟩, ⟨(some 16), .load1 (.t 15), none⟩, ⟨(some 17), .fldA 2 (.t 3), none⟩, ⟨(some 18), .load1 (.t 17), none⟩, ⟨(some 19), .bin .neq .int (.t 16) (.t 18), none⟩])
  (.cond (.t 19) (.seq (.region [⟨(some 4), .mov (.k (.c (.bool false))), none⟩])
  .ret) .skip))
  (.seq (.seq (.region [⟨(some 20), .fldA 3 (.t 2), none⟩, ⟨(some 21), .load1 (.t 20), none⟩, ⟨(some 22), .fldA 3 (.t 3), none⟩, ⟨(some 23), .load1 (.t 22), none⟩, ⟨(some 24), .bin .neq .int (.t 21) (.t 23), none⟩])
  (.cond (.t 24) (.seq (.region [⟨(some 4), .mov (.k (.c (.bool false))), none⟩])
  .ret) .skip))
  (.seq (.seq (.region [⟨(some 25), .fldA 4 (.t 2), none⟩, ⟨(some 26), .load1 (.t 25), none⟩, ⟨(some 27), .fldA 4 (.t 3), none⟩, ⟨(some 28), .load1 (.t 27), none⟩, ⟨(some 29), .call (.k (.c (.fn 23 []))) [(.t 26), (.t 28)], none⟩, ⟨(some 30), .un .not (.t 29), none⟩])
  (.cond (.t 30) (.seq (.region [⟨(some 4), .mov (.k (.c (.bool false))), none⟩])
  .ret) .skip))
  (.seq (.region [⟨(some 4), .mov (.k (.c (.bool true))), none⟩])
  .ret))))))), [.tmp 4], true⟩
theorem c30 : kk 30 = some k30 := by kernel_rfl
/-- loop.example/g01263/spec.ChanceWear -/
def l31_0 : KC := (.seq (.seq (.region [⟨(some 21), .mov (.t 9), none⟩, ⟨(some 22), .mov (.t 2), none⟩, ⟨(some 23), .bin .lss .int (.t 21) (.t 22), none⟩])
  (.cond (.t 23) .skip (.exit 0)))
  (.seq (.block 1 (.seq (.region [⟨(some 26), .mov (.t 1), none⟩, ⟨(some 27), .call (.k (.c (.fn 68 []))) [(.t 26)], none⟩, ⟨(some 1), .mov (.t 27), none⟩])
  (.seq (.region [⟨(some 28), .mov (.t 1), none⟩, ⟨(some 29), .bin .shr .int (.t 28) (.k (.c (.int .u64 16))), none⟩, ⟨(some 30), .conv .i64 (.t 29), none⟩, ⟨(some 10), .mov (.t 30), none⟩])
  (.seq (.region [⟨(some 11), .mov (.k (.c (.int .i8 1))), none⟩])
  (.seq (.seq (.region [⟨(some 31), .mov (.t 10), none⟩, ⟨(some 32), .bin .quo .int (.t 31) (.k (.c (.int .i64 16))), none⟩, ⟨(some 33), .bin .rem .int (.t 32) (.k (.c (.int .i64 2))), none⟩, ⟨(some 34), .bin .eql .int (.t 33) (.k (.c (.int .i64 1))), none⟩])
  (.cond (.t 34) (.region [⟨(some 11), .mov (.k (.c (.int .i8 (-1)))), none⟩]) .skip))
  (.seq (.region [⟨(some 35), .loadN 16 (.t 3), none⟩, ⟨(some 12), .alloc 35 [(.int .i8 0), (.int .i8 0), (.int .i8 0), (.int .i8 0), (.int .i8 0), (.int .i8 0), (.int .i8 0), (.int .i8 0), (.int .i8 0), (.int .i8 0), (.int .i8 0), (.int .i8 0), (.int .i8 0), (.int .i8 0), (.int .i8 0), (.int .i8 0)], none⟩, ⟨none, .store 16 (.t 12) (.t 35), none⟩])
  (.seq (.region [⟨(some 36), .mov (.t 10), none⟩, ⟨(some 37), .bin .rem .int (.t 36) (.k (.c (.int .i64 16))), none⟩, ⟨(some 38), .idxA 16 1 (.t 12) (.t 37), none⟩, ⟨(some 39), .load1 (.t 38), none⟩, ⟨(some 40), .mov (.t 11), none⟩, ⟨(some 41), .bin .add .int (.t 39) (.t 40), none⟩, ⟨(some 42), .idxA 16 1 (.t 12) (.t 37), none⟩, ⟨none, .store 1 (.t 42) (.t 41), none⟩])
  (.seq (.region [⟨(some 43), .loadN 16 (.t 12), none⟩, ⟨(some 44), .call (.k (.c (.fn 60 []))) [(.t 43)], none⟩])
  (.cond (.t 44) (.region [⟨(some 45), .loadN 16 (.t 12), none⟩, ⟨none, .store 16 (.t 3) (.t 45), none⟩]) .skip)))))))))
  (.region [⟨(some 24), .mov (.t 9), none⟩, ⟨(some 25), .bin .add .int (.t 24) (.k (.c (.int .i64 1))), none⟩, ⟨(some 9), .mov (.t 25), none⟩])))
def k31 : KF := ⟨48, (.seq (.region [⟨(some 3), .box 35 (.t 0), none⟩, ⟨(some 6), .alloc 35 [(.int .i8 0), (.int .i8 0), (.int .i8 0), (.int .i8 0), (.int .i8 0), (.int .i8 0), (.int .i8 0), (.int .i8 0), (.int .i8 0), (.int .i8 0), (.int .i8 0), (.int .i8 0), (.int .i8 0), (.int .i8 0), (.int .i8 0), (.int .i8 0)], none⟩, ⟨(some 7), .mov (.k (.c (.int .u32 0))), none⟩, ⟨(some 8), .mov (.k (.c (.int .i64 0))), none⟩])
  (.seq (.seq (.region [⟨(some 13), .loadN 16 (.t 3), none⟩, ⟨(some 14), .call (.k (.c (.fn 60 []))) [(.t 13)], none⟩, ⟨(some 15), .un .not (.t 14), none⟩])
  (.cond (.t 15) (.seq (.region [⟨(some 16), .build [(.int .i8 0), (.int .i8 0), (.int .i8 0), (.int .i8 0), (.int .i8 0), (.int .i8 0), (.int .i8 0), (.int .i8 0), (.int .i8 0), (.int .i8 0), (.int .i8 0), (.int .i8 0), (.int .i8 0), (.int .i8 0), (.int .i8 0), (.int .i8 0)] [], none⟩, ⟨none, .store 16 (.t 6) (.t 16), none⟩, ⟨(some 7), .mov (.k (.c (.int .u32 0))), none⟩, ⟨(some 8), .mov (.k (.c (.int .i64 1))), none⟩])
  .ret) .skip))
  (.seq (.seq (.region [⟨(some 17), .mov (.t 2), none⟩, ⟨(some 18), .call (.k (.c (.fn 67 []))) [(.t 17), (.k (.c (.int .i64 0))), (.k (.c (.int .i64 200)))], none⟩, ⟨(some 19), .un .not (.t 18), none⟩])
  (.cond (.t 19) (.seq (.region [⟨(some 20), .build [(.int .i8 0), (.int .i8 0), (.int .i8 0), (.int .i8 0), (.int .i8 0), (.int .i8 0), (.int .i8 0), (.int .i8 0), (.int .i8 0), (.int .i8 0), (.int .i8 0), (.int .i8 0), (.int .i8 0), (.int .i8 0), (.int .i8 0), (.int .i8 0)] [], none⟩, ⟨none, .store 16 (.t 6) (.t 20), none⟩, ⟨(some 7), .mov (.k (.c (.int .u32 0))), none⟩, ⟨(some 8), .mov (.k (.c (.int .i64 2))), none⟩])
  .ret) .skip))
  (.seq (.seq (.region [⟨(some 9), .mov (.k (.c (.int .i64 0))), none⟩])
  (.block 0 (.loop l31_0)))
  (.seq (.region [⟨(some 46), .loadN 16 (.t 3), none⟩, ⟨(some 47), .mov (.t 1), none⟩, ⟨none, .store 16 (.t 6) (.t 46), none⟩, ⟨(some 7), .mov (.t 47), none⟩, ⟨(some 8), .mov (.k (.c (.int .i64 0))), none⟩])
  .ret))))), [.cellN 6 16, .tmp 7, .tmp 8], true⟩
theorem c31 : kk 31 = some k31 := by kernel_rfl
/-- loop.example/g01263/impl.ChanceWear -/
def l32_0 : KC := (.seq (.region [⟨(some 28), .bin .lss .int (.t 27) (.t 26), none⟩])
  (.seq (.cond (.t 28) .skip (.exit 1))
  (.seq (.block 2 (.seq (.region [⟨(some 29), .mov (.t 1), none⟩, ⟨(some 30), .call (.k (.c (.fn 69 []))) [(.t 29)], none⟩, ⟨(some 1), .mov (.t 30), none⟩])
  (.seq (.region [⟨(some 31), .mov (.t 1), none⟩, ⟨(some 32), .bin .shr .int (.t 31) (.k (.c (.int .u64 16))), none⟩, ⟨(some 9), .mov (.t 32), none⟩])
  (.seq (.region [⟨(some 10), .mov (.k (.c (.int .i64 1))), none⟩])
  (.seq (.seq (.region [⟨(some 33), .mov (.t 9), none⟩, ⟨(some 34), .bin .quo .int (.t 33) (.k (.c (.int .u32 16))), none⟩, ⟨(some 35), .bin .rem .int (.t 34) (.k (.c (.int .u32 2))), none⟩, ⟨(some 36), .bin .eql .int (.t 35) (.k (.c (.int .u32 1))), none⟩])
  (.cond (.t 36) (.region [⟨(some 10), .mov (.k (.c (.int .i64 (-1)))), none⟩]) .skip))
  (.seq (.region [⟨(some 38), .loadN 16 (.t 3), none⟩, ⟨(some 39), .mov (.t 9), none⟩, ⟨(some 40), .bin .rem .int (.t 39) (.k (.c (.int .u32 16))), none⟩, ⟨(some 41), .conv .i64 (.t 40), none⟩, ⟨(some 42), .mov (.t 10), none⟩, ⟨(some 43), .call (.k (.c (.fn 70 []))) [(.t 38), (.t 41), (.t 42)], none⟩, ⟨(some 37), .mov (.t 43), none⟩, ⟨(some 44), .ext (.t 37) 0, none⟩, ⟨(some 45), .ext (.t 37) 1, none⟩, ⟨(some 11), .alloc 35 [(.int .i8 0), (.int .i8 0), (.int .i8 0), (.int .i8 0), (.int .i8 0), (.int .i8 0), (.int .i8 0), (.int .i8 0), (.int .i8 0), (.int .i8 0), (.int .i8 0), (.int .i8 0), (.int .i8 0), (.int .i8 0), (.int .i8 0), (.int .i8 0)], none⟩, ⟨none, .store 16 (.t 11) (.t 44), none⟩, ⟨(some 12), .mov (.t 45), none⟩])
  (.seq (.region [⟨(some 46), .mov (.t 12), none⟩, ⟨(some 47), .bin .eql .int (.t 46) (.k (.c (.int .i64 0))), none⟩])
  (.cond (.t 47) (.region [⟨(some 48), .loadN 16 (.t 11), none⟩, ⟨none, .store 16 (.t 3) (.t 48), none⟩]) .skip))))))))
  (.region [⟨(some 49), .bin .add .int (.t 27) (.k (.c (.int .i64 1))), none⟩, ⟨(some 27), .mov (.t 49), none⟩]))))
def k32 : KF := ⟨52, (.seq (.region [⟨(some 3), .box 35 (.t 0), none⟩, ⟨(some 6), .alloc 35 [(.int .i8 0), (.int .i8 0), (.int .i8 0), (.int .i8 0), (.int .i8 0), (.int .i8 0), (.int .i8 0), (.int .i8 0), (.int .i8 0), (.int .i8 0), (.int .i8 0), (.int .i8 0), (.int .i8 0), (.int .i8 0), (.int .i8 0), (.int .i8 0)], none⟩, ⟨(some 7), .mov (.k (.c (.int .u32 0))), none⟩, ⟨(some 8), .mov (.k (.c (.int .i64 0))), none⟩])
  (.seq (.block 0 (.seq (.region [⟨(some 14), .loadN 16 (.t 3), none⟩, ⟨(some 15), .call (.k (.c (.fn 44 []))) [(.t 14)], none⟩, ⟨(some 16), .un .not (.t 15), none⟩, ⟨(some 13), .mov (.t 16), none⟩])
  (.cond (.t 13) (.seq (.region [⟨(some 17), .build [(.int .i8 0), (.int .i8 0), (.int .i8 0), (.int .i8 0), (.int .i8 0), (.int .i8 0), (.int .i8 0), (.int .i8 0), (.int .i8 0), (.int .i8 0), (.int .i8 0), (.int .i8 0), (.int .i8 0), (.int .i8 0), (.int .i8 0), (.int .i8 0)] [], none⟩, ⟨none, .store 16 (.t 6) (.t 17), none⟩, ⟨(some 7), .mov (.k (.c (.int .u32 0))), none⟩, ⟨(some 8), .mov (.k (.c (.int .i64 1))), none⟩])
  .ret) (.seq (.region [⟨(some 19), .mov (.t 2), none⟩, ⟨(some 20), .bin .lss .int (.t 19) (.k (.c (.int .i64 0))), none⟩, ⟨(some 21), .mov (.t 20), none⟩, ⟨(some 22), .mov (.t 2), some (21, false)⟩, ⟨(some 23), .bin .gtr .int (.t 22) (.k (.c (.int .i64 200))), some (21, false)⟩, ⟨(some 24), .pick (.t 21) (.k (.c (.bool true))) (.t 23), none⟩, ⟨(some 18), .mov (.t 24), none⟩])
  (.cond (.t 18) (.seq (.region [⟨(some 25), .build [(.int .i8 0), (.int .i8 0), (.int .i8 0), (.int .i8 0), (.int .i8 0), (.int .i8 0), (.int .i8 0), (.int .i8 0), (.int .i8 0), (.int .i8 0), (.int .i8 0), (.int .i8 0), (.int .i8 0), (.int .i8 0), (.int .i8 0), (.int .i8 0)] [], none⟩, ⟨none, .store 16 (.t 6) (.t 25), none⟩, ⟨(some 7), .mov (.k (.c (.int .u32 0))), none⟩, ⟨(some 8), .mov (.k (.c (.int .i64 2))), none⟩])
  .ret) .skip)))))
  (.seq (.seq (.region [⟨(some 26), .mov (.t 2), none⟩, ⟨(some 27), .mov (.k (.c (.int .i64 0))), none⟩])
  (.block 1 (.loop l32_0)))
  (.seq (.region [⟨(some 50), .loadN 16 (.t 3), none⟩, ⟨(some 51), .mov (.t 1), none⟩, ⟨none, .store 16 (.t 6) (.t 50), none⟩, ⟨(some 7), .mov (.t 51), none⟩, ⟨(some 8), .mov (.k (.c (.int .i64 0))), none⟩])
  .ret)))), [.cellN 6 16, .tmp 7, .tmp 8], true⟩
theorem c32 : kk 32 = some k32 := by kernel_rfl
/-- loop.example/g01263/laws.eqGrain -/
def l33_0 : KC := (.seq (.seq (.region [⟨(some 6), .mov (.t 5), none⟩, ⟨(some 7), .bin .lss .int (.t 6) (.k (.c (.int .i64 16))), none⟩])
  (.cond (.t 7) .skip (.exit 0)))
  (.seq (.block 1 (.seq (.drawn [(⟨(some 10), .mov (.t 5), none⟩, []), (⟨(some 11), .idxA 16 1 (.t 2) (.t 10), none⟩, []), (⟨(some 12), .load1 (.t 11), none⟩, []), (⟨(some 13), .mov (.t 5), none⟩, []), (⟨(some 14), .idxA 16 1 (.t 3) (.t 13), none⟩, []), (⟨(some 15), .load1 (.t 14), none⟩, []), (⟨(some 16), .bin .neq .int (.t 12) (.t 15), none⟩, [])])
  (.cond (.t 16) (.seq (.region [⟨(some 4), .mov (.k (.c (.bool false))), none⟩])
  .ret) .skip)))
  (.region [⟨(some 8), .mov (.t 5), none⟩, ⟨(some 9), .bin .add .int (.t 8) (.k (.c (.int .i64 1))), none⟩, ⟨(some 5), .mov (.t 9), none⟩])))
def k33 : KF := ⟨17, (.seq (.region [⟨(some 2), .box 35 (.t 0), none⟩, ⟨(some 3), .box 35 (.t 1), none⟩, ⟨(some 4), .mov (.k (.c (.bool false))), none⟩])
  (.seq (.seq (.region [⟨(some 5), .mov (.k (.c (.int .i64 0))), none⟩])
  (.block 0 (.loop l33_0)))
  (.seq (.region [⟨(some 4), .mov (.k (.c (.bool true))), none⟩])
  .ret))), [.tmp 4], true⟩
theorem c33 : kk 33 = some k33 := by kernel_rfl
/-- loop.example/g01263/laws.szHalf -/
def k34 : KF := ⟨12, (.seq (.region [⟨(some 2), .box 54 (.t 0), none⟩, ⟨(some 4), .mov (.k (.c (.int .i64 0))), none⟩])
  (.seq (.region [⟨(some 5), .fldA 1 (.t 2), none⟩, ⟨(some 6), .load1 (.t 5), none⟩, ⟨(some 7), .mov (.t 1), none⟩, ⟨(some 8), .call (.k (.c (.fn 71 []))) [(.t 6), (.t 7)], none⟩, ⟨(some 1), .mov (.t 8), none⟩])
  (.seq (.seq (.region [⟨(some 9), .mov (.t 1), none⟩, ⟨(some 10), .bin .lss .int (.t 9) (.k (.c (.int .i64 0))), none⟩])
  (.cond (.t 10) (.seq (.region [⟨(some 4), .mov (.k (.c (.int .i64 (-1)))), none⟩])
  .ret) .skip))
  (.seq (.region [⟨(some 11), .mov (.t 1), none⟩, ⟨(some 4), .mov (.t 11), none⟩])
  .ret)))), [.tmp 4], true⟩
theorem c34 : kk 34 = some k34 := by kernel_rfl
/-- loop.example/g01263/spec.WoodOf -/
def k35 : KF := ⟨8, (.seq (.region [⟨(some 1), .box 60 (.t 0), none⟩, ⟨(some 2), .alloc 25 [(.int .u64 0), (.int .u64 0), (.int .u64 0), (.int .u64 0)], none⟩, ⟨(some 3), .mov (.k (.c (.int .i64 0))), none⟩])
  (.seq (.seq (.region [⟨(some 4), .call (.k (.c (.fn 72 []))) [(.t 1)], none⟩, ⟨(some 5), .un .not (.t 4), none⟩])
  (.cond (.t 5) (.seq (.region [⟨(some 6), .build [(.int .u64 0), (.int .u64 0), (.int .u64 0), (.int .u64 0)] [], none⟩, ⟨none, .store 4 (.t 2) (.t 6), none⟩, ⟨(some 3), .mov (.k (.c (.int .i64 1))), none⟩])
  .ret) .skip))
  (.seq (.region [⟨(some 7), .call (.k (.c (.fn 73 []))) [(.t 1)], none⟩, ⟨none, .store 4 (.t 2) (.t 7), none⟩, ⟨(some 3), .mov (.k (.c (.int .i64 0))), none⟩])
  .ret))), [.cellN 2 4, .tmp 3], true⟩
theorem c35 : kk 35 = some k35 := by kernel_rfl
/-- loop.example/g01263/laws.toHalf -/
def k36 : KF := ⟨16, (.seq (.region [⟨(some 1), .box 54 (.t 0), none⟩, ⟨(some 2), .alloc 60 [(.bool false), (.slice none 0 (.exact 0)), (.int .i8 0), (.int .i8 0), (.int .i8 0), (.int .i8 0), (.int .i8 0), (.int .i8 0), (.int .i8 0), (.int .i8 0), (.int .i8 0), (.int .i8 0), (.int .i8 0), (.int .i8 0), (.int .i8 0), (.int .i8 0), (.int .i8 0), (.int .i8 0)], none⟩])
  (.seq (.region [⟨(some 3), .alloc 60 [(.bool false), (.slice none 0 (.exact 0)), (.int .i8 0), (.int .i8 0), (.int .i8 0), (.int .i8 0), (.int .i8 0), (.int .i8 0), (.int .i8 0), (.int .i8 0), (.int .i8 0), (.int .i8 0), (.int .i8 0), (.int .i8 0), (.int .i8 0), (.int .i8 0), (.int .i8 0), (.int .i8 0)], none⟩])
  (.seq (.region [⟨(some 4), .fldA 0 (.t 1), none⟩, ⟨(some 5), .load1 (.t 4), none⟩, ⟨(some 6), .fldA 0 (.t 3), none⟩, ⟨none, .store 1 (.t 6) (.t 5), none⟩])
  (.seq (.region [⟨(some 7), .fldA 1 (.t 1), none⟩, ⟨(some 8), .load1 (.t 7), none⟩, ⟨(some 9), .call (.k (.c (.fn 74 []))) [(.t 8)], none⟩, ⟨(some 10), .fldA 1 (.t 3), none⟩, ⟨none, .store 1 (.t 10) (.t 9), none⟩])
  (.seq (.region [⟨(some 11), .fldA 2 (.t 1), none⟩, ⟨(some 12), .loadN 16 (.t 11), none⟩, ⟨(some 13), .call (.k (.c (.fn 21 []))) [(.t 12)], none⟩, ⟨(some 14), .fldA 2 (.t 3), none⟩, ⟨none, .store 16 (.t 14) (.t 13), none⟩])
  (.seq (.region [⟨(some 15), .loadN 18 (.t 3), none⟩, ⟨none, .store 18 (.t 2) (.t 15), none⟩])
  .ret)))))), [.cellN 2 18], false⟩
theorem c36 : kk 36 = some k36 := by kernel_rfl
/-- loop.example/g01263/impl.WoodOf -/
def k37 : KF := ⟨10, (.seq (.region [⟨(some 1), .box 60 (.t 0), none⟩, ⟨(some 2), .alloc 25 [(.int .u64 0), (.int .u64 0), (.int .u64 0), (.int .u64 0)], none⟩, ⟨(some 3), .mov (.k (.c (.int .i64 0))), none⟩])
  (.seq (.seq (.region [⟨(some 4), .loadN 18 (.t 1), none⟩, ⟨(some 5), .call (.k (.c (.fn 75 []))) [(.t 4)], none⟩, ⟨(some 6), .un .not (.t 5), none⟩])
  (.cond (.t 6) (.seq (.region [⟨(some 7), .build [(.int .u64 0), (.int .u64 0), (.int .u64 0), (.int .u64 0)] [], none⟩, ⟨none, .store 4 (.t 2) (.t 7), none⟩, ⟨(some 3), .mov (.k (.c (.int .i64 1))), none⟩])
  .ret) .skip))
  (.seq (.region [⟨(some 8), .loadN 18 (.t 1), none⟩, ⟨(some 9), .call (.k (.c (.fn 76 []))) [(.t 8)], none⟩, ⟨none, .store 4 (.t 2) (.t 9), none⟩, ⟨(some 3), .mov (.k (.c (.int .i64 0))), none⟩])
  .ret))), [.cellN 2 4, .tmp 3], true⟩
theorem c37 : kk 37 = some k37 := by kernel_rfl
/-- loop.example/g01263/laws.eqWood -/
def l38_0 : KC := (.seq (.seq (.region [⟨(some 6), .mov (.t 5), none⟩, ⟨(some 7), .bin .lss .int (.t 6) (.k (.c (.int .i64 4))), none⟩])
  (.cond (.t 7) .skip (.exit 0)))
  (.seq (.block 1 (.seq (.drawn [(⟨(some 10), .mov (.t 5), none⟩, []), (⟨(some 11), .idxA 4 1 (.t 2) (.t 10), none⟩, []), (⟨(some 12), .load1 (.t 11), none⟩, []), (⟨(some 13), .mov (.t 5), none⟩, []), (⟨(some 14), .idxA 4 1 (.t 3) (.t 13), none⟩, []), (⟨(some 15), .load1 (.t 14), none⟩, []), (⟨(some 16), .bin .neq .int (.t 12) (.t 15), none⟩, [])])
  (.cond (.t 16) (.seq (.region [⟨(some 4), .mov (.k (.c (.bool false))), none⟩])
  .ret) .skip)))
  (.region [⟨(some 8), .mov (.t 5), none⟩, ⟨(some 9), .bin .add .int (.t 8) (.k (.c (.int .i64 1))), none⟩, ⟨(some 5), .mov (.t 9), none⟩])))
def k38 : KF := ⟨17, (.seq (.region [⟨(some 2), .box 25 (.t 0), none⟩, ⟨(some 3), .box 25 (.t 1), none⟩, ⟨(some 4), .mov (.k (.c (.bool false))), none⟩])
  (.seq (.seq (.region [⟨(some 5), .mov (.k (.c (.int .i64 0))), none⟩])
  (.block 0 (.loop l38_0)))
  (.seq (.region [⟨(some 4), .mov (.k (.c (.bool true))), none⟩])
  .ret))), [.tmp 4], true⟩
theorem c38 : kk 38 = some k38 := by kernel_rfl
/-- loop.example/g01263/laws.eqHalf -/
def k39 : KF := ⟨22, (.seq (.region [⟨(some 2), .box 60 (.t 0), none⟩, ⟨(some 3), .box 60 (.t 1), none⟩, ⟨(some 4), .mov (.k (.c (.bool false))), none⟩])
  (.seq (.seq (.region [⟨(some 5), .fldA 0 (.t 2), none⟩, ⟨(some 6), .load1 (.t 5), none⟩, ⟨(some 7), .fldA 0 (.t 3), none⟩, ⟨(some 8), .load1 (.t 7), none⟩, ⟨(some 9), .bin .neq .bool (.t 6) (.t 8), none⟩])
  (.cond (.t 9) (.seq (.region [⟨(some 4), .mov (.k (.c (.bool false))), none⟩])
  .ret) .skip))
  (.seq (.seq (.region [⟨(some 10), .fldA 1 (.t 2), none⟩, ⟨(some 11), .load1 (.t 10), none⟩, ⟨(some 12), .fldA 1 (.t 3), none⟩, ⟨(some 13), .load1 (.t 12), none⟩, ⟨(some 14), .call (.k (.c (.fn 77 []))) [(.t 11), (.t 13)], none⟩, ⟨(some 15), .un .not (.t 14), none⟩])
  (.cond (.t 15) (.seq (.region [⟨(some 4), .mov (.k (.c (.bool false))), none⟩])
  .ret) .skip))
  (.seq (.seq (.region [⟨(some 16), .fldA 2 (.t 2), none⟩, ⟨(some 17), .loadN 16 (.t 16), none⟩, ⟨(some 18), .fldA 2 (.t 3), none⟩, ⟨(some 19), .loadN 16 (.t 18), none⟩, ⟨(some 20), .call (.k (.c (.fn 33 []))) [(.t 17), (.t 19)], none⟩, ⟨(some 21), .un .not (.t 20), none⟩])
  (.cond (.t 21) (.seq (.region [⟨(some 4), .mov (.k (.c (.bool false))), none⟩])
  .ret) .skip))
  (.seq (.region [⟨(some 4), .mov (.k (.c (.bool true))), none⟩])
  .ret))))), [.tmp 4], true⟩
theorem c39 : kk 39 = some k39 := by kernel_rfl
/-- loop.example/g01263/laws.f6big -/
def k40 : KF := ⟨6, (.seq (.region [⟨(some 2), .mov (.k (.c (.bool false))), none⟩])
  (.seq (.region [⟨(some 3), .mov (.t 0), none⟩, ⟨(some 4), .len false (.t 3), none⟩, ⟨(some 5), .bin .gtr .int (.t 4) (.k (.c (.int .i64 4096))), none⟩, ⟨(some 2), .mov (.t 5), none⟩])
  .ret)), [.tmp 2], true⟩
theorem c40 : kk 40 = some k40 := by kernel_rfl
/-- loop.example/g01263/spec.P6Half -/
def k41 : KF := ⟨6, (.seq (.region [⟨(some 2), .alloc 60 [(.bool false), (.slice none 0 (.exact 0)), (.int .i8 0), (.int .i8 0), (.int .i8 0), (.int .i8 0), (.int .i8 0), (.int .i8 0), (.int .i8 0), (.int .i8 0), (.int .i8 0), (.int .i8 0), (.int .i8 0), (.int .i8 0), (.int .i8 0), (.int .i8 0), (.int .i8 0), (.int .i8 0)], none⟩])
  (.seq (.region [⟨(some 3), .mov (.t 0), none⟩, ⟨(some 4), .call (.k (.c (.fn 79 []))) [(.t 3)], none⟩, ⟨(some 5), .call (.k (.c (.fn 78 []))) [(.t 4)], none⟩, ⟨none, .store 18 (.t 2) (.t 5), none⟩])
  .ret)), [.cellN 2 18], false⟩
theorem c41 : kk 41 = some k41 := by kernel_rfl
/-- loop.example/g01263/spec.P6Pick -/
def k42 : KF := ⟨9, (.seq (.region [⟨(some 4), .mov (.k (.c (.int .i64 0))), none⟩])
  (.seq (.region [⟨(some 5), .mov (.t 0), none⟩, ⟨(some 6), .call (.k (.c (.fn 79 []))) [(.t 5)], none⟩, ⟨(some 7), .mov (.t 1), none⟩, ⟨(some 8), .call (.k (.c (.fn 80 []))) [(.t 6), (.t 7)], none⟩, ⟨(some 4), .mov (.t 8), none⟩])
  .ret)), [.tmp 4], true⟩
theorem c42 : kk 42 = some k42 := by kernel_rfl
/-- loop.example/g01263/impl.OppositeGrain -/
def k43 : KF := ⟨10, (.seq (.region [⟨(some 1), .box 35 (.t 0), none⟩, ⟨(some 2), .alloc 35 [(.int .i8 0), (.int .i8 0), (.int .i8 0), (.int .i8 0), (.int .i8 0), (.int .i8 0), (.int .i8 0), (.int .i8 0), (.int .i8 0), (.int .i8 0), (.int .i8 0), (.int .i8 0), (.int .i8 0), (.int .i8 0), (.int .i8 0), (.int .i8 0)], none⟩, ⟨(some 3), .mov (.k (.c (.int .i64 0))), none⟩])
  (.seq (.seq (.region [⟨(some 4), .loadN 16 (.t 1), none⟩, ⟨(some 5), .call (.k (.c (.fn 44 []))) [(.t 4)], none⟩, ⟨(some 6), .un .not (.t 5), none⟩])
  (.cond (.t 6) (.seq (.region [⟨(some 7), .build [(.int .i8 0), (.int .i8 0), (.int .i8 0), (.int .i8 0), (.int .i8 0), (.int .i8 0), (.int .i8 0), (.int .i8 0), (.int .i8 0), (.int .i8 0), (.int .i8 0), (.int .i8 0), (.int .i8 0), (.int .i8 0), (.int .i8 0), (.int .i8 0)] [], none⟩, ⟨none, .store 16 (.t 2) (.t 7), none⟩, ⟨(some 3), .mov (.k (.c (.int .i64 1))), none⟩])
  .ret) .skip))
  (.seq (.region [⟨(some 8), .loadN 16 (.t 1), none⟩, ⟨(some 9), .call (.k (.c (.fn 81 []))) [(.t 8)], none⟩, ⟨none, .store 16 (.t 2) (.t 9), none⟩, ⟨(some 3), .mov (.k (.c (.int .i64 0))), none⟩])
  .ret))), [.cellN 2 16, .tmp 3], true⟩
theorem c43 : kk 43 = some k43 := by kernel_rfl
/-- loop.example/g01263/impl.ValidGrain -/
def l44_0 : KC := (.seq (.region [⟨(some 7), .bin .lss .int (.t 6) (.k (.c (.int .i64 16))), none⟩])
  (.seq (.cond (.t 7) .skip (.exit 0))
  (.seq (.block 1 (.seq (.region [⟨(some 8), .idx1 16 (.t 5) (.t 6), none⟩, ⟨(some 4), .mov (.t 8), none⟩])
  (.seq (.region [⟨(some 9), .mov (.t 4), none⟩, ⟨(some 10), .bin .lss .int (.t 9) (.k (.c (.int .i8 (-3)))), none⟩, ⟨(some 11), .mov (.t 10), none⟩, ⟨(some 12), .mov (.t 4), some (11, false)⟩, ⟨(some 13), .bin .gtr .int (.t 12) (.k (.c (.int .i8 3))), some (11, false)⟩, ⟨(some 14), .pick (.t 11) (.k (.c (.bool true))) (.t 13), none⟩])
  (.cond (.t 14) (.seq (.region [⟨(some 2), .mov (.k (.c (.bool false))), none⟩])
  .ret) .skip))))
  (.region [⟨(some 15), .bin .add .int (.t 6) (.k (.c (.int .i64 1))), none⟩, ⟨(some 6), .mov (.t 15), none⟩]))))
def k44 : KF := ⟨16, (.seq (.region [⟨(some 1), .box 35 (.t 0), none⟩, ⟨(some 2), .mov (.k (.c (.bool false))), none⟩])
  (.seq (.seq (.region [⟨(some 5), .loadN 16 (.t 1), none⟩, ⟨(some 6), .mov (.k (.c (.int .i64 0))), none⟩])
  (.block 0 (.loop l44_0)))
  (.seq (.region [⟨(some 2), .mov (.k (.c (.bool true))), none⟩])
  .ret))), [.tmp 2], true⟩
theorem c44 : kk 44 = some k44 := by kernel_rfl
/-- loop.example/g01263/spec.SameNumbers -/
def k45 : KF := ⟨8, (.seq (.region [⟨(some 4), .mov (.k (.c (.bool false))), none⟩])
  (.seq (.region [⟨(some 5), .mov (.t 0), none⟩, ⟨(some 6), .mov (.t 1), none⟩, ⟨(some 7), .call (.k (.c (.fn 64 []))) [(.t 5), (.t 6)], none⟩, ⟨(some 4), .mov (.t 7), none⟩])
  .ret)), [.tmp 4], true⟩
theorem c45 : kk 45 = some k45 := by kernel_rfl
/-- loop.example/g01263/spec.CouldBecome -/
def k46 : KF := ⟨22, (.seq (.region [⟨(some 2), .box 60 (.t 0), none⟩, ⟨(some 3), .box 60 (.t 1), none⟩, ⟨(some 4), .mov (.k (.c (.bool false))), none⟩, ⟨(some 5), .mov (.k (.c (.int .i64 0))), none⟩])
  (.seq (.seq (.region [⟨(some 6), .call (.k (.c (.fn 72 []))) [(.t 2)], none⟩, ⟨(some 7), .un .not (.t 6), none⟩, ⟨(some 8), .mov (.t 7), none⟩, ⟨(some 9), .call (.k (.c (.fn 72 []))) [(.t 3)], some (8, false)⟩, ⟨(some 10), .un .not (.t 9), some (8, false)⟩, ⟨(some 11), .pick (.t 8) (.k (.c (.bool true))) (.t 10), none⟩])
  (.cond (.t 11) (.seq (.region [⟨(some 4), .mov (.k (.c (.bool false))), none⟩, ⟨(some 5), .mov (.k (.c (.int .i64 1))), none⟩])
  .ret) .skip))
  (.seq (.region [⟨(some 12), .fldA 0 (.t 2), none⟩, ⟨(some 13), .load1 (.t 12), none⟩, ⟨(some 14), .fldA 0 (.t 3), none⟩, ⟨(some 15), .load1 (.t 14), none⟩, ⟨(some 16), .bin .eql .bool (.t 13) (.t 15), none⟩, ⟨(some 17), .mov (.t 16), none⟩, ⟨(some 18), .call (.k (.c (.fn 73 []))) [(.t 2)], some (17, true)⟩, ⟨(some 19), .call (.k (.c (.fn 73 []))) [(.t 3)], some (17, true)⟩, ⟨(some 20), .call (.k (.c (.fn 15 []))) [(.t 18), (.t 19)], some (17, true)⟩, ⟨(some 21), .pick (.t 17) (.t 20) (.k (.c (.bool false))), none⟩, ⟨(some 4), .mov (.t 21), none⟩, ⟨(some 5), .mov (.k (.c (.int .i64 0))), none⟩])
  .ret))), [.tmp 4, .tmp 5], true⟩
theorem c46 : kk 46 = some k46 := by kernel_rfl
/-- loop.example/g01263/impl.CouldBecome -/
def k47 : KF := ⟨26, (.seq (.region [⟨(some 2), .box 60 (.t 0), none⟩, ⟨(some 3), .box 60 (.t 1), none⟩, ⟨(some 4), .mov (.k (.c (.bool false))), none⟩, ⟨(some 5), .mov (.k (.c (.int .i64 0))), none⟩])
  (.seq (.seq (.region [⟨(some 6), .loadN 18 (.t 2), none⟩, ⟨(some 7), .call (.k (.c (.fn 75 []))) [(.t 6)], none⟩, ⟨(some 8), .un .not (.t 7), none⟩, ⟨(some 9), .mov (.t 8), none⟩, ⟨(some 10), .loadN 18 (.t 3), some (9, false)⟩, ⟨(some 11), .call (.k (.c (.fn 75 []))) [(.t 10)], some (9, false)⟩, ⟨(some 12), .un .not (.t 11), some (9, false)⟩, ⟨(some 13), .pick (.t 9) (.k (.c (.bool true))) (.t 12), none⟩])
  (.cond (.t 13) (.seq (.region [⟨(some 4), .mov (.k (.c (.bool false))), none⟩, ⟨(some 5), .mov (.k (.c (.int .i64 1))), none⟩])
  .ret) .skip))
  (.seq (.drawn [(⟨(some 14), .fldA 0 (.t 2), none⟩, []), (⟨(some 15), .load1 (.t 14), none⟩, []), (⟨(some 16), .fldA 0 (.t 3), none⟩, []), (⟨(some 17), .load1 (.t 16), none⟩, []), (⟨(some 18), .bin .eql .bool (.t 15) (.t 17), none⟩, []), (⟨(some 19), .mov (.t 18), none⟩, []), (⟨(some 20), .loadN 18 (.t 2), some (19, true)⟩, []), (⟨(some 22), .loadN 18 (.t 3), some (19, true)⟩, []), (⟨(some 21), .call (.k (.c (.fn 76 []))) [(.t 20)], some (19, true)⟩, [⟨(some 22), .loadN 18 (.t 3), some (19, true)⟩]), (⟨(some 23), .call (.k (.c (.fn 76 []))) [(.t 22)], some (19, true)⟩, []), (⟨(some 24), .call (.k (.c (.fn 17 []))) [(.t 21), (.t 23)], some (19, true)⟩, []), (⟨(some 25), .pick (.t 19) (.t 24) (.k (.c (.bool false))), none⟩, []), (⟨(some 4), .mov (.t 25), none⟩, []), (⟨(some 5), .mov (.k (.c (.int .i64 0))), none⟩, [])])
  .ret))), [.tmp 4, .tmp 5], true⟩
theorem c47 : kk 47 = some k47 := by kernel_rfl
/-- loop.example/g01263/spec.WhoLies -/
def k48 : KF := ⟨12, (.seq (.region [⟨(some 2), .box 60 (.t 0), none⟩, ⟨(some 3), .box 60 (.t 1), none⟩, ⟨(some 4), .mov (.k (.c (.int .i64 0))), none⟩, ⟨(some 5), .mov (.k (.c (.int .i64 0))), none⟩])
  (.seq (.seq (.region [⟨(some 7), .call (.k (.c (.fn 82 []))) [(.t 2), (.t 3)], none⟩, ⟨(some 6), .mov (.t 7), none⟩])
  (.seq (.region [⟨(some 8), .mov (.t 6), none⟩, ⟨(some 9), .bin .neq .int (.t 8) (.k (.c (.int .i64 0))), none⟩])
  (.cond (.t 9) (.seq (.region [⟨(some 10), .mov (.t 6), none⟩, ⟨(some 4), .mov (.k (.c (.int .i64 0))), none⟩, ⟨(some 5), .mov (.t 10), none⟩])
  .ret) .skip)))
  (.seq (.region [⟨(some 11), .call (.k (.c (.fn 83 []))) [(.t 2), (.t 3)], none⟩, ⟨(some 4), .mov (.t 11), none⟩, ⟨(some 5), .mov (.k (.c (.int .i64 0))), none⟩])
  .ret))), [.tmp 4, .tmp 5], true⟩
theorem c48 : kk 48 = some k48 := by kernel_rfl
/-- loop.example/g01263/impl.WhoLies -/
def k49 : KF := ⟨17, (.seq (.region [⟨(some 2), .box 60 (.t 0), none⟩, ⟨(some 3), .box 60 (.t 1), none⟩, ⟨(some 4), .mov (.k (.c (.int .i64 0))), none⟩, ⟨(some 5), .mov (.k (.c (.int .i64 0))), none⟩])
  (.seq (.seq (.region [⟨(some 7), .loadN 18 (.t 2), none⟩, ⟨(some 8), .loadN 18 (.t 3), none⟩, ⟨(some 9), .buildSl 60 1 [(.bool false), (.slice none 0 (.exact 0)), (.int .i8 0), (.int .i8 0), (.int .i8 0), (.int .i8 0), (.int .i8 0), (.int .i8 0), (.int .i8 0), (.int .i8 0), (.int .i8 0), (.int .i8 0), (.int .i8 0), (.int .i8 0), (.int .i8 0), (.int .i8 0), (.int .i8 0), (.int .i8 0)] [(0, 18, (.t 8))], none⟩, ⟨(some 10), .call (.k (.c (.fn 84 []))) [(.t 7), (.t 9)], none⟩, ⟨(some 6), .mov (.t 10), none⟩])
  (.seq (.region [⟨(some 11), .mov (.t 6), none⟩, ⟨(some 12), .bin .neq .int (.t 11) (.k (.c (.int .i64 0))), none⟩])
  (.cond (.t 12) (.seq (.region [⟨(some 13), .mov (.t 6), none⟩, ⟨(some 4), .mov (.k (.c (.int .i64 0))), none⟩, ⟨(some 5), .mov (.t 13), none⟩])
  .ret) .skip)))
  (.seq (.region [⟨(some 14), .loadN 18 (.t 2), none⟩, ⟨(some 15), .loadN 18 (.t 3), none⟩, ⟨(some 16), .call (.k (.c (.fn 85 []))) [(.t 14), (.t 15)], none⟩, ⟨(some 4), .mov (.t 16), none⟩, ⟨(some 5), .mov (.k (.c (.int .i64 0))), none⟩])
  .ret))), [.tmp 4, .tmp 5], true⟩
theorem c49 : kk 49 = some k49 := by kernel_rfl
/-- loop.example/g01263/laws.szHalfS -/
def l50_0 : KC := (.seq (.seq (.region [⟨(some 12), .mov (.t 5), none⟩, ⟨(some 13), .mov (.t 0), none⟩, ⟨(some 14), .len false (.t 13), none⟩, ⟨(some 15), .bin .lss .int (.t 12) (.t 14), none⟩])
  (.cond (.t 15) .skip (.exit 0)))
  (.seq (.block 1 (.seq (.region [⟨(some 18), .mov (.t 0), none⟩, ⟨(some 19), .mov (.t 5), none⟩, ⟨(some 20), .idxS 18 (.t 18) (.t 19), none⟩, ⟨(some 21), .loadN 18 (.t 20), none⟩, ⟨(some 22), .mov (.t 1), none⟩, ⟨(some 23), .call (.k (.c (.fn 34 []))) [(.t 21), (.t 22)], none⟩, ⟨(some 1), .mov (.t 23), none⟩])
  (.seq (.region [⟨(some 24), .mov (.t 1), none⟩, ⟨(some 25), .bin .lss .int (.t 24) (.k (.c (.int .i64 0))), none⟩])
  (.cond (.t 25) (.seq (.region [⟨(some 4), .mov (.k (.c (.int .i64 (-1)))), none⟩])
  .ret) .skip))))
  (.region [⟨(some 16), .mov (.t 5), none⟩, ⟨(some 17), .bin .add .int (.t 16) (.k (.c (.int .i64 1))), none⟩, ⟨(some 5), .mov (.t 17), none⟩])))
def k50 : KF := ⟨27, (.seq (.region [⟨(some 4), .mov (.k (.c (.int .i64 0))), none⟩])
  (.seq (.region [⟨(some 6), .mov (.t 1), none⟩, ⟨(some 7), .mov (.t 0), none⟩, ⟨(some 8), .len false (.t 7), none⟩, ⟨(some 9), .bin .sub .int (.t 6) (.t 8), none⟩, ⟨(some 1), .mov (.t 9), none⟩])
  (.seq (.seq (.region [⟨(some 10), .mov (.t 1), none⟩, ⟨(some 11), .bin .lss .int (.t 10) (.k (.c (.int .i64 0))), none⟩])
  (.cond (.t 11) (.seq (.region [⟨(some 4), .mov (.k (.c (.int .i64 (-1)))), none⟩])
  .ret) .skip))
  (.seq (.seq (.region [⟨(some 5), .mov (.k (.c (.int .i64 0))), none⟩])
  (.block 0 (.loop l50_0)))
  (.seq (.region [⟨(some 26), .mov (.t 1), none⟩, ⟨(some 4), .mov (.t 26), none⟩])
  .ret))))), [.tmp 4], true⟩
theorem c50 : kk 50 = some k50 := by kernel_rfl
/-- loop.example/g01263/spec.FindFoil -/
def l51_0 : KC := (.seq (.seq (.region [⟨(some 22), .mov (.t 9), none⟩, ⟨(some 23), .mov (.t 1), none⟩, ⟨(some 24), .len false (.t 23), none⟩, ⟨(some 25), .bin .lss .int (.t 22) (.t 24), none⟩])
  (.cond (.t 25) .skip (.exit 0)))
  (.seq (.block 1 (.seq (.region [⟨(some 28), .mov (.t 1), none⟩, ⟨(some 29), .mov (.t 9), none⟩, ⟨(some 30), .idxS 18 (.t 28) (.t 29), none⟩, ⟨(some 31), .mov (.t 2), none⟩, ⟨(some 32), .call (.k (.c (.fn 87 []))) [(.t 3), (.t 30), (.t 31)], none⟩])
  (.cond (.t 32) (.seq (.region [⟨(some 33), .mov (.t 9), none⟩, ⟨(some 6), .mov (.t 33), none⟩, ⟨(some 7), .mov (.k (.c (.int .i64 0))), none⟩])
  .ret) .skip)))
  (.region [⟨(some 26), .mov (.t 9), none⟩, ⟨(some 27), .bin .add .int (.t 26) (.k (.c (.int .i64 1))), none⟩, ⟨(some 9), .mov (.t 27), none⟩])))
def k51 : KF := ⟨34, (.seq (.region [⟨(some 3), .box 60 (.t 0), none⟩, ⟨(some 6), .mov (.k (.c (.int .i64 0))), none⟩, ⟨(some 7), .mov (.k (.c (.int .i64 0))), none⟩])
  (.seq (.region [⟨(some 10), .mov (.t 1), none⟩, ⟨(some 11), .call (.k (.c (.fn 86 []))) [(.t 3), (.t 10)], none⟩, ⟨(some 8), .mov (.t 11), none⟩])
  (.seq (.seq (.region [⟨(some 12), .mov (.t 8), none⟩, ⟨(some 13), .bin .eql .int (.t 12) (.k (.c (.int .i64 0))), none⟩, ⟨(some 14), .mov (.t 13), none⟩, ⟨(some 15), .mov (.t 2), some (14, true)⟩, ⟨(some 16), .call (.k (.c (.fn 67 []))) [(.t 15), (.k (.c (.int .i64 0))), (.k (.c (.int .i64 16)))], some (14, true)⟩, ⟨(some 17), .un .not (.t 16), some (14, true)⟩, ⟨(some 18), .pick (.t 14) (.t 17) (.k (.c (.bool false))), none⟩])
  (.cond (.t 18) (.region [⟨(some 8), .mov (.k (.c (.int .i64 2))), none⟩]) .skip))
  (.seq (.seq (.region [⟨(some 19), .mov (.t 8), none⟩, ⟨(some 20), .bin .neq .int (.t 19) (.k (.c (.int .i64 0))), none⟩])
  (.cond (.t 20) (.seq (.region [⟨(some 21), .mov (.t 8), none⟩, ⟨(some 6), .mov (.k (.c (.int .i64 0))), none⟩, ⟨(some 7), .mov (.t 21), none⟩])
  .ret) .skip))
  (.seq (.seq (.region [⟨(some 9), .mov (.k (.c (.int .i64 0))), none⟩])
  (.block 0 (.loop l51_0)))
  (.seq (.region [⟨(some 6), .mov (.k (.c (.int .i64 0))), none⟩, ⟨(some 7), .mov (.k (.c (.int .i64 6))), none⟩])
  .ret)))))), [.tmp 6, .tmp 7], true⟩
theorem c51 : kk 51 = some k51 := by kernel_rfl
/-- loop.example/g01263/laws.toHalfS -/
def l52_0 : KC := (.seq (.seq (.region [⟨(some 8), .mov (.t 4), none⟩, ⟨(some 9), .mov (.t 0), none⟩, ⟨(some 10), .len false (.t 9), none⟩, ⟨(some 11), .bin .lss .int (.t 8) (.t 10), none⟩])
  (.cond (.t 11) .skip (.exit 0)))
  (.seq (.block 1 (.region [⟨(some 14), .mov (.t 3), none⟩, ⟨(some 15), .mov (.t 4), none⟩, ⟨(some 16), .mov (.t 0), none⟩, ⟨(some 17), .mov (.t 4), none⟩, ⟨(some 18), .idxS 18 (.t 16) (.t 17), none⟩, ⟨(some 19), .loadN 18 (.t 18), none⟩, ⟨(some 20), .call (.k (.c (.fn 36 []))) [(.t 19)], none⟩, ⟨(some 21), .idxS 18 (.t 14) (.t 15), none⟩, ⟨none, .store 18 (.t 21) (.t 20), none⟩]))
  (.region [⟨(some 12), .mov (.t 4), none⟩, ⟨(some 13), .bin .add .int (.t 12) (.k (.c (.int .i64 1))), none⟩, ⟨(some 4), .mov (.t 13), none⟩])))
def k52 : KF := ⟨23, (.seq (.region [⟨(some 2), .mov (.k (.c (.slice none 0 (.exact 0)))), none⟩])
  (.seq (.region [⟨(some 5), .mov (.t 0), none⟩, ⟨(some 6), .len false (.t 5), none⟩, ⟨(some 7), .mkSl 60 [(.bool false), (.slice none 0 (.exact 0)), (.int .i8 0), (.int .i8 0), (.int .i8 0), (.int .i8 0), (.int .i8 0), (.int .i8 0), (.int .i8 0), (.int .i8 0), (.int .i8 0), (.int .i8 0), (.int .i8 0), (.int .i8 0), (.int .i8 0), (.int .i8 0), (.int .i8 0), (.int .i8 0)] 48 (.t 6) (.t 6), none⟩, ⟨(some 3), .mov (.t 7), none⟩])
  (.seq (.seq (.region [⟨(some 4), .mov (.k (.c (.int .i64 0))), none⟩])
  (.block 0 (.loop l52_0)))
  (.seq (.region [⟨(some 22), .mov (.t 3), none⟩, ⟨(some 2), .mov (.t 22), none⟩])
  .ret)))), [.tmp 2], false⟩
theorem c52 : kk 52 = some k52 := by kernel_rfl
/-- loop.example/g01263/impl.FindFoil -/
def l53_0 : KC := (.seq (.region [⟨(some 28), .bin .lss .int (.t 27) (.t 26), none⟩])
  (.seq (.cond (.t 28) .skip (.exit 0))
  (.seq (.block 1 (.seq (.region [⟨(some 29), .mov (.t 27), none⟩, ⟨(some 30), .idxS 18 (.t 25) (.t 27), none⟩, ⟨(some 31), .loadN 18 (.t 30), none⟩, ⟨(some 10), .alloc 60 [(.bool false), (.slice none 0 (.exact 0)), (.int .i8 0), (.int .i8 0), (.int .i8 0), (.int .i8 0), (.int .i8 0), (.int .i8 0), (.int .i8 0), (.int .i8 0), (.int .i8 0), (.int .i8 0), (.int .i8 0), (.int .i8 0), (.int .i8 0), (.int .i8 0), (.int .i8 0), (.int .i8 0)], none⟩, ⟨(some 9), .mov (.t 29), none⟩, ⟨none, .store 18 (.t 10) (.t 31), none⟩])
  (.seq (.region [⟨(some 32), .loadN 18 (.t 3), none⟩, ⟨(some 33), .loadN 18 (.t 10), none⟩, ⟨(some 34), .mov (.t 2), none⟩, ⟨(some 35), .call (.k (.c (.fn 89 []))) [(.t 32), (.t 33), (.t 34)], none⟩])
  (.cond (.t 35) (.seq (.region [⟨(some 36), .mov (.t 9), none⟩, ⟨(some 6), .mov (.t 36), none⟩, ⟨(some 7), .mov (.k (.c (.int .i64 0))), none⟩])
  .ret) .skip))))
  (.region [⟨(some 37), .bin .add .int (.t 27) (.k (.c (.int .i64 1))), none⟩, ⟨(some 27), .mov (.t 37), none⟩]))))
def k53 : KF := ⟨38, (.seq (.region [⟨(some 3), .box 60 (.t 0), none⟩, ⟨(some 6), .mov (.k (.c (.int .i64 0))), none⟩, ⟨(some 7), .mov (.k (.c (.int .i64 0))), none⟩])
  (.seq (.seq (.region [⟨(some 11), .loadN 18 (.t 3), none⟩, ⟨(some 12), .mov (.t 1), none⟩, ⟨(some 13), .call (.k (.c (.fn 84 []))) [(.t 11), (.t 12)], none⟩, ⟨(some 8), .mov (.t 13), none⟩])
  (.seq (.region [⟨(some 14), .mov (.t 8), none⟩, ⟨(some 15), .bin .neq .int (.t 14) (.k (.c (.int .i64 0))), none⟩])
  (.cond (.t 15) (.seq (.region [⟨(some 16), .mov (.t 8), none⟩, ⟨(some 6), .mov (.k (.c (.int .i64 0))), none⟩, ⟨(some 7), .mov (.t 16), none⟩])
  .ret) .skip)))
  (.seq (.seq (.region [⟨(some 17), .mov (.t 1), none⟩, ⟨(some 18), .len false (.t 17), none⟩, ⟨(some 19), .bin .gtr .int (.t 18) (.k (.c (.int .i64 40))), none⟩, ⟨(some 20), .mov (.t 19), none⟩, ⟨(some 21), .mov (.t 2), some (20, false)⟩, ⟨(some 22), .call (.k (.c (.fn 88 []))) [(.t 21)], some (20, false)⟩, ⟨(some 23), .un .not (.t 22), some (20, false)⟩, ⟨(some 24), .pick (.t 20) (.k (.c (.bool true))) (.t 23), none⟩])
  (.cond (.t 24) (.seq (.region [⟨(some 6), .mov (.k (.c (.int .i64 0))), none⟩, ⟨(some 7), .mov (.k (.c (.int .i64 2))), none⟩])
  .ret) .skip))
  (.seq (.seq (.region [⟨(some 25), .mov (.t 1), none⟩, ⟨(some 26), .len false (.t 25), none⟩, ⟨(some 27), .mov (.k (.c (.int .i64 0))), none⟩])
  (.block 0 (.loop l53_0)))
  (.seq (.region [⟨(some 6), .mov (.k (.c (.int .i64 0))), none⟩, ⟨(some 7), .mov (.k (.c (.int .i64 6))), none⟩])
  .ret))))), [.tmp 6, .tmp 7], true⟩
theorem c53 : kk 53 = some k53 := by kernel_rfl
/-- loop.example/g01263/laws.eqHalfS -/
def l54_0 : KC := (.seq (.seq (.region [⟨(some 11), .mov (.t 5), none⟩, ⟨(some 12), .mov (.t 0), none⟩, ⟨(some 13), .len false (.t 12), none⟩, ⟨(some 14), .bin .lss .int (.t 11) (.t 13), none⟩])
  (.cond (.t 14) .skip (.exit 0)))
  (.seq (.block 1 (.seq (.drawn [(⟨(some 17), .mov (.t 0), none⟩, []), (⟨(some 18), .mov (.t 5), none⟩, []), (⟨(some 19), .idxS 18 (.t 17) (.t 18), none⟩, []), (⟨(some 20), .loadN 18 (.t 19), none⟩, []), (⟨(some 21), .mov (.t 1), none⟩, []), (⟨(some 22), .mov (.t 5), none⟩, []), (⟨(some 23), .idxS 18 (.t 21) (.t 22), none⟩, []), (⟨(some 24), .loadN 18 (.t 23), none⟩, []), (⟨(some 25), .call (.k (.c (.fn 39 []))) [(.t 20), (.t 24)], none⟩, []), (⟨(some 26), .un .not (.t 25), none⟩, [])])
  (.cond (.t 26) (.seq (.region [⟨(some 4), .mov (.k (.c (.bool false))), none⟩])
  .ret) .skip)))
  (.region [⟨(some 15), .mov (.t 5), none⟩, ⟨(some 16), .bin .add .int (.t 15) (.k (.c (.int .i64 1))), none⟩, ⟨(some 5), .mov (.t 16), none⟩])))
def k54 : KF := ⟨27, (.seq (.region [⟨(some 4), .mov (.k (.c (.bool false))), none⟩])
  (.seq (.seq (.region [⟨(some 6), .mov (.t 0), none⟩, ⟨(some 7), .len false (.t 6), none⟩, ⟨(some 8), .mov (.t 1), none⟩, ⟨(some 9), .len false (.t 8), none⟩, ⟨(some 10), .bin .neq .int (.t 7) (.t 9), none⟩])
  (.cond (.t 10) (.seq (.region [⟨(some 4), .mov (.k (.c (.bool false))), none⟩])
  .ret) .skip))
  (.seq (.seq (.region [⟨(some 5), .mov (.k (.c (.int .i64 0))), none⟩])
  (.block 0 (.loop l54_0)))
  (.seq (.region [⟨(some 4), .mov (.k (.c (.bool true))), none⟩])
  .ret)))), [.tmp 4], true⟩
theorem c54 : kk 54 = some k54 := by kernel_rfl
/-- loop.example/g01263/spec.NearestFoil -/
def l55_0 : KC := (.seq (.seq (.region [⟨(some 23), .mov (.t 10), none⟩, ⟨(some 24), .mov (.t 1), none⟩, ⟨(some 25), .len false (.t 24), none⟩, ⟨(some 26), .bin .lss .int (.t 23) (.t 25), none⟩])
  (.cond (.t 26) .skip (.exit 0)))
  (.seq (.block 1 (.seq (.drawn [(⟨(some 30), .loadN 18 (.t 2), none⟩, []), (⟨(some 31), .mov (.t 1), none⟩, []), (⟨(some 32), .mov (.t 10), none⟩, []), (⟨(some 33), .idxS 18 (.t 31) (.t 32), none⟩, []), (⟨(some 34), .loadN 18 (.t 33), none⟩, []), (⟨(some 35), .call (.k (.c (.fn 90 []))) [(.t 30), (.t 34)], none⟩, []), (⟨(some 29), .mov (.t 35), none⟩, []), (⟨(some 36), .ext (.t 29) 0, none⟩, []), (⟨(some 37), .ext (.t 29) 1, none⟩, []), (⟨(some 38), .ext (.t 29) 2, none⟩, []), (⟨(some 11), .mov (.t 36), none⟩, []), (⟨(some 12), .mov (.t 37), none⟩, []), (⟨(some 13), .mov (.t 38), none⟩, [])])
  (.seq (.region [⟨(some 39), .mov (.t 11), none⟩, ⟨(some 40), .len false (.t 39), none⟩, ⟨(some 41), .mov (.t 12), none⟩, ⟨(some 42), .len false (.t 41), none⟩, ⟨(some 43), .bin .add .int (.t 40) (.t 42), none⟩, ⟨(some 14), .mov (.t 43), none⟩])
  (.seq (.region [⟨(some 44), .mov (.t 10), none⟩, ⟨(some 45), .bin .eql .int (.t 44) (.k (.c (.int .i64 0))), none⟩, ⟨(some 46), .mov (.t 45), none⟩, ⟨(some 47), .mov (.t 14), some (46, false)⟩, ⟨(some 48), .mov (.t 9), some (46, false)⟩, ⟨(some 49), .bin .lss .int (.t 47) (.t 48), some (46, false)⟩, ⟨(some 50), .pick (.t 46) (.k (.c (.bool true))) (.t 49), none⟩])
  (.cond (.t 50) (.seq (.region [⟨(some 51), .mov (.t 10), none⟩, ⟨(some 8), .mov (.t 51), none⟩])
  (.region [⟨(some 52), .mov (.t 14), none⟩, ⟨(some 9), .mov (.t 52), none⟩])) .skip)))))
  (.region [⟨(some 27), .mov (.t 10), none⟩, ⟨(some 28), .bin .add .int (.t 27) (.k (.c (.int .i64 1))), none⟩, ⟨(some 10), .mov (.t 28), none⟩])))
def k55 : KF := ⟨55, (.seq (.region [⟨(some 2), .box 60 (.t 0), none⟩, ⟨(some 4), .mov (.k (.c (.int .i64 0))), none⟩, ⟨(some 5), .mov (.k (.c (.int .i64 0))), none⟩, ⟨(some 6), .mov (.k (.c (.int .i64 0))), none⟩])
  (.seq (.seq (.region [⟨(some 15), .mov (.t 1), none⟩, ⟨(some 16), .call (.k (.c (.fn 86 []))) [(.t 2), (.t 15)], none⟩, ⟨(some 7), .mov (.t 16), none⟩])
  (.seq (.region [⟨(some 17), .mov (.t 7), none⟩, ⟨(some 18), .bin .neq .int (.t 17) (.k (.c (.int .i64 0))), none⟩])
  (.cond (.t 18) (.seq (.region [⟨(some 19), .mov (.t 7), none⟩, ⟨(some 4), .mov (.k (.c (.int .i64 0))), none⟩, ⟨(some 5), .mov (.k (.c (.int .i64 0))), none⟩, ⟨(some 6), .mov (.t 19), none⟩])
  .ret) .skip)))
  (.seq (.seq (.region [⟨(some 20), .mov (.t 1), none⟩, ⟨(some 21), .len false (.t 20), none⟩, ⟨(some 22), .bin .eql .int (.t 21) (.k (.c (.int .i64 0))), none⟩])
  (.cond (.t 22) (.seq (.region [⟨(some 4), .mov (.k (.c (.int .i64 0))), none⟩, ⟨(some 5), .mov (.k (.c (.int .i64 0))), none⟩, ⟨(some 6), .mov (.k (.c (.int .i64 6))), none⟩])
  .ret) .skip))
  (.seq (.region [⟨(some 8), .mov (.k (.c (.int .i64 0))), none⟩])
  (.seq (.region [⟨(some 9), .mov (.k (.c (.int .i64 0))), none⟩])
  (.seq (.seq (.region [⟨(some 10), .mov (.k (.c (.int .i64 0))), none⟩])
  (.block 0 (.loop l55_0)))
  (.seq (.region [⟨(some 53), .mov (.t 8), none⟩, ⟨(some 54), .mov (.t 9), none⟩, ⟨(some 4), .mov (.t 53), none⟩, ⟨(some 5), .mov (.t 54), none⟩, ⟨(some 6), .mov (.k (.c (.int .i64 0))), none⟩])
  .ret))))))), [.tmp 4, .tmp 5, .tmp 6], true⟩
theorem c55 : kk 55 = some k55 := by kernel_rfl
/-- loop.example/g01263/impl.NearestFoil -/
def l56_0 : KC := (.seq (.region [⟨(some 30), .bin .lss .int (.t 29) (.t 28), none⟩])
  (.seq (.cond (.t 30) .skip (.exit 1))
  (.seq (.block 2 (.seq (.region [⟨(some 31), .mov (.t 29), none⟩, ⟨(some 32), .idxS 18 (.t 27) (.t 29), none⟩, ⟨(some 33), .loadN 18 (.t 32), none⟩, ⟨(some 11), .alloc 60 [(.bool false), (.slice none 0 (.exact 0)), (.int .i8 0), (.int .i8 0), (.int .i8 0), (.int .i8 0), (.int .i8 0), (.int .i8 0), (.int .i8 0), (.int .i8 0), (.int .i8 0), (.int .i8 0), (.int .i8 0), (.int .i8 0), (.int .i8 0), (.int .i8 0), (.int .i8 0), (.int .i8 0)], none⟩, ⟨(some 10), .mov (.t 31), none⟩, ⟨none, .store 18 (.t 11) (.t 33), none⟩])
  (.seq (.drawn [(⟨(some 34), .loadN 18 (.t 2), none⟩, []), (⟨(some 35), .loadN 18 (.t 11), none⟩, []), (⟨(some 38), .fldA 2 (.t 2), none⟩, []), (⟨(some 39), .loadN 16 (.t 38), none⟩, []), (⟨(some 40), .fldA 2 (.t 11), none⟩, []), (⟨(some 41), .loadN 16 (.t 40), none⟩, []), (⟨(some 36), .call (.k (.c (.fn 91 []))) [(.t 34), (.t 35)], none⟩, [⟨(some 39), .loadN 16 (.t 38), none⟩, ⟨(some 41), .loadN 16 (.t 40), none⟩]), (⟨(some 37), .len false (.t 36), none⟩, []), (⟨(some 42), .call (.k (.c (.fn 62 []))) [(.t 39), (.t 41)], none⟩, []), (⟨(some 43), .len false (.t 42), none⟩, []), (⟨(some 44), .bin .add .int (.t 37) (.t 43), none⟩, []), (⟨(some 12), .mov (.t 44), none⟩, [])])
  (.seq (.region [⟨(some 45), .mov (.t 9), none⟩, ⟨(some 46), .bin .lss .int (.t 45) (.k (.c (.int .i64 0))), none⟩, ⟨(some 47), .mov (.t 46), none⟩, ⟨(some 48), .mov (.t 12), some (47, false)⟩, ⟨(some 49), .mov (.t 9), some (47, false)⟩, ⟨(some 50), .bin .lss .int (.t 48) (.t 49), some (47, false)⟩, ⟨(some 51), .pick (.t 47) (.k (.c (.bool true))) (.t 50), none⟩])
  (.cond (.t 51) (.seq (.region [⟨(some 52), .mov (.t 10), none⟩, ⟨(some 8), .mov (.t 52), none⟩])
  (.region [⟨(some 53), .mov (.t 12), none⟩, ⟨(some 9), .mov (.t 53), none⟩])) .skip)))))
  (.region [⟨(some 54), .bin .add .int (.t 29) (.k (.c (.int .i64 1))), none⟩, ⟨(some 29), .mov (.t 54), none⟩]))))
def k56 : KF := ⟨57, (.seq (.region [⟨(some 2), .box 60 (.t 0), none⟩, ⟨(some 4), .mov (.k (.c (.int .i64 0))), none⟩, ⟨(some 5), .mov (.k (.c (.int .i64 0))), none⟩, ⟨(some 6), .mov (.k (.c (.int .i64 0))), none⟩])
  (.seq (.seq (.region [⟨(some 13), .loadN 18 (.t 2), none⟩, ⟨(some 14), .mov (.t 1), none⟩, ⟨(some 15), .call (.k (.c (.fn 84 []))) [(.t 13), (.t 14)], none⟩, ⟨(some 7), .mov (.t 15), none⟩])
  (.seq (.region [⟨(some 16), .mov (.t 7), none⟩, ⟨(some 17), .bin .neq .int (.t 16) (.k (.c (.int .i64 0))), none⟩])
  (.cond (.t 17) (.seq (.region [⟨(some 18), .mov (.t 7), none⟩, ⟨(some 4), .mov (.k (.c (.int .i64 0))), none⟩, ⟨(some 5), .mov (.k (.c (.int .i64 0))), none⟩, ⟨(some 6), .mov (.t 18), none⟩])
  .ret) .skip)))
  (.seq (.block 0 (.seq (.region [⟨(some 20), .mov (.t 1), none⟩, ⟨(some 21), .len false (.t 20), none⟩, ⟨(some 22), .bin .gtr .int (.t 21) (.k (.c (.int .i64 40))), none⟩, ⟨(some 19), .mov (.t 22), none⟩])
  (.cond (.t 19) (.seq (.region [⟨(some 4), .mov (.k (.c (.int .i64 0))), none⟩, ⟨(some 5), .mov (.k (.c (.int .i64 0))), none⟩, ⟨(some 6), .mov (.k (.c (.int .i64 2))), none⟩])
  .ret) (.seq (.region [⟨(some 24), .mov (.t 1), none⟩, ⟨(some 25), .len false (.t 24), none⟩, ⟨(some 26), .bin .eql .int (.t 25) (.k (.c (.int .i64 0))), none⟩, ⟨(some 23), .mov (.t 26), none⟩])
  (.cond (.t 23) (.seq (.region [⟨(some 4), .mov (.k (.c (.int .i64 0))), none⟩, ⟨(some 5), .mov (.k (.c (.int .i64 0))), none⟩, ⟨(some 6), .mov (.k (.c (.int .i64 6))), none⟩])
  .ret) .skip)))))
  (.seq (.region [⟨(some 8), .mov (.k (.c (.int .i64 0))), none⟩, ⟨(some 9), .mov (.k (.c (.int .i64 (-1)))), none⟩])
  (.seq (.seq (.region [⟨(some 27), .mov (.t 1), none⟩, ⟨(some 28), .len false (.t 27), none⟩, ⟨(some 29), .mov (.k (.c (.int .i64 0))), none⟩])
  (.block 1 (.loop l56_0)))
  (.seq (.region [⟨(some 55), .mov (.t 8), none⟩, ⟨(some 56), .mov (.t 9), none⟩, ⟨(some 4), .mov (.t 55), none⟩, ⟨(some 5), .mov (.t 56), none⟩, ⟨(some 6), .mov (.k (.c (.int .i64 0))), none⟩])
  .ret)))))), [.tmp 4, .tmp 5, .tmp 6], true⟩
theorem c56 : kk 56 = some k56 := by kernel_rfl
/-- loop.example/g01263/spec.SureAmount -/
def k57 : KF := ⟨28, (.seq (.region [⟨(some 2), .box 60 (.t 0), none⟩, ⟨(some 3), .box 60 (.t 1), none⟩, ⟨(some 4), .mov (.k (.c (.int .i64 0))), none⟩, ⟨(some 5), .mov (.k (.c (.int .i64 0))), none⟩])
  (.seq (.region [⟨(some 9), .loadN 18 (.t 2), none⟩, ⟨(some 10), .loadN 18 (.t 3), none⟩, ⟨(some 11), .call (.k (.c (.fn 48 []))) [(.t 9), (.t 10)], none⟩, ⟨(some 8), .mov (.t 11), none⟩, ⟨(some 12), .ext (.t 8) 0, none⟩, ⟨(some 13), .ext (.t 8) 1, none⟩, ⟨(some 6), .mov (.t 12), none⟩, ⟨(some 7), .mov (.t 13), none⟩])
  (.seq (.seq (.region [⟨(some 14), .mov (.t 7), none⟩, ⟨(some 15), .bin .neq .int (.t 14) (.k (.c (.int .i64 0))), none⟩])
  (.cond (.t 15) (.seq (.region [⟨(some 16), .mov (.t 7), none⟩, ⟨(some 4), .mov (.k (.c (.int .i64 0))), none⟩, ⟨(some 5), .mov (.t 16), none⟩])
  .ret) .skip))
  (.seq (.seq (.region [⟨(some 17), .mov (.t 6), none⟩])
  (.block 0 (.seq (.region [⟨(some 19), .bin .eql .int (.t 17) (.k (.c (.int .i64 3))), none⟩, ⟨(some 18), .mov (.t 19), none⟩])
  (.cond (.t 18) (.seq (.region [⟨(some 4), .mov (.k (.c (.int .i64 0))), none⟩, ⟨(some 5), .mov (.k (.c (.int .i64 8))), none⟩])
  .ret) (.seq (.region [⟨(some 21), .bin .eql .int (.t 17) (.k (.c (.int .i64 1))), none⟩, ⟨(some 20), .mov (.t 21), none⟩])
  (.cond (.t 20) (.seq (.region [⟨(some 22), .fldA 1 (.t 3), none⟩, ⟨(some 23), .load1 (.t 22), none⟩, ⟨(some 24), .call (.k (.c (.fn 92 []))) [(.t 23)], none⟩, ⟨(some 4), .mov (.t 24), none⟩, ⟨(some 5), .mov (.k (.c (.int .i64 0))), none⟩])
  .ret) .skip))))))
  (.seq (.region [⟨(some 25), .fldA 1 (.t 2), none⟩, ⟨(some 26), .load1 (.t 25), none⟩, ⟨(some 27), .call (.k (.c (.fn 92 []))) [(.t 26)], none⟩, ⟨(some 4), .mov (.t 27), none⟩, ⟨(some 5), .mov (.k (.c (.int .i64 0))), none⟩])
  .ret))))), [.tmp 4, .tmp 5], true⟩
theorem c57 : kk 57 = some k57 := by kernel_rfl
/-- loop.example/g01263/impl.SureAmount -/
def k58 : KF := ⟨28, (.seq (.region [⟨(some 2), .box 60 (.t 0), none⟩, ⟨(some 3), .box 60 (.t 1), none⟩, ⟨(some 4), .mov (.k (.c (.int .i64 0))), none⟩, ⟨(some 5), .mov (.k (.c (.int .i64 0))), none⟩])
  (.seq (.region [⟨(some 9), .loadN 18 (.t 2), none⟩, ⟨(some 10), .loadN 18 (.t 3), none⟩, ⟨(some 11), .call (.k (.c (.fn 49 []))) [(.t 9), (.t 10)], none⟩, ⟨(some 8), .mov (.t 11), none⟩, ⟨(some 12), .ext (.t 8) 0, none⟩, ⟨(some 13), .ext (.t 8) 1, none⟩, ⟨(some 6), .mov (.t 12), none⟩, ⟨(some 7), .mov (.t 13), none⟩])
  (.seq (.block 0 (.seq (.region [⟨(some 15), .mov (.t 7), none⟩, ⟨(some 16), .bin .neq .int (.t 15) (.k (.c (.int .i64 0))), none⟩, ⟨(some 14), .mov (.t 16), none⟩])
  (.cond (.t 14) (.seq (.region [⟨(some 17), .mov (.t 7), none⟩, ⟨(some 4), .mov (.k (.c (.int .i64 0))), none⟩, ⟨(some 5), .mov (.t 17), none⟩])
  .ret) (.seq (.region [⟨(some 19), .mov (.t 6), none⟩, ⟨(some 20), .bin .eql .int (.t 19) (.k (.c (.int .i64 3))), none⟩, ⟨(some 18), .mov (.t 20), none⟩])
  (.cond (.t 18) (.seq (.region [⟨(some 4), .mov (.k (.c (.int .i64 0))), none⟩, ⟨(some 5), .mov (.k (.c (.int .i64 8))), none⟩])
  .ret) (.seq (.region [⟨(some 22), .mov (.t 6), none⟩, ⟨(some 23), .bin .eql .int (.t 22) (.k (.c (.int .i64 1))), none⟩, ⟨(some 21), .mov (.t 23), none⟩])
  (.cond (.t 21) (.seq (.region [⟨(some 24), .loadN 18 (.t 3), none⟩, ⟨(some 25), .call (.k (.c (.fn 93 []))) [(.t 24)], none⟩, ⟨(some 4), .mov (.t 25), none⟩, ⟨(some 5), .mov (.k (.c (.int .i64 0))), none⟩])
  .ret) .skip)))))))
  (.seq (.region [⟨(some 26), .loadN 18 (.t 2), none⟩, ⟨(some 27), .call (.k (.c (.fn 93 []))) [(.t 26)], none⟩, ⟨(some 4), .mov (.t 27), none⟩, ⟨(some 5), .mov (.k (.c (.int .i64 0))), none⟩])
  .ret)))), [.tmp 4, .tmp 5], true⟩
theorem c58 : kk 58 = some k58 := by kernel_rfl
/-- math/bits.OnesCount64 -/
def k59 : KF := ⟨35, (.seq (.region [⟨(some 2), .mov (.k (.c (.int .i64 0))), none⟩])
  (.seq (.region [⟨(some 3), .mov (.t 0), none⟩, ⟨(some 4), .bin .shr .int (.t 3) (.k (.c (.int .u64 1))), none⟩, ⟨(some 5), .bin .and .int (.t 4) (.k (.c (.int .u64 6148914691236517205))), none⟩, ⟨(some 6), .mov (.t 0), none⟩, ⟨(some 7), .bin .and .int (.t 6) (.k (.c (.int .u64 6148914691236517205))), none⟩, ⟨(some 8), .bin .add .int (.t 5) (.t 7), none⟩, ⟨(some 0), .mov (.t 8), none⟩])
  (.seq (.region [⟨(some 9), .mov (.t 0), none⟩, ⟨(some 10), .bin .shr .int (.t 9) (.k (.c (.int .u64 2))), none⟩, ⟨(some 11), .bin .and .int (.t 10) (.k (.c (.int .u64 3689348814741910323))), none⟩, ⟨(some 12), .mov (.t 0), none⟩, ⟨(some 13), .bin .and .int (.t 12) (.k (.c (.int .u64 3689348814741910323))), none⟩, ⟨(some 14), .bin .add .int (.t 11) (.t 13), none⟩, ⟨(some 0), .mov (.t 14), none⟩])
  (.seq (.region [⟨(some 15), .mov (.t 0), none⟩, ⟨(some 16), .bin .shr .int (.t 15) (.k (.c (.int .u64 4))), none⟩, ⟨(some 17), .mov (.t 0), none⟩, ⟨(some 18), .bin .add .int (.t 16) (.t 17), none⟩, ⟨(some 19), .bin .and .int (.t 18) (.k (.c (.int .u64 1085102592571150095))), none⟩, ⟨(some 0), .mov (.t 19), none⟩])
  (.seq (.region [⟨(some 20), .mov (.t 0), none⟩, ⟨(some 21), .mov (.t 0), none⟩, ⟨(some 22), .bin .shr .int (.t 21) (.k (.c (.int .u64 8))), none⟩, ⟨(some 23), .bin .add .int (.t 20) (.t 22), none⟩, ⟨(some 0), .mov (.t 23), none⟩])
  (.seq (.region [⟨(some 24), .mov (.t 0), none⟩, ⟨(some 25), .mov (.t 0), none⟩, ⟨(some 26), .bin .shr .int (.t 25) (.k (.c (.int .u64 16))), none⟩, ⟨(some 27), .bin .add .int (.t 24) (.t 26), none⟩, ⟨(some 0), .mov (.t 27), none⟩])
  (.seq (.region [⟨(some 28), .mov (.t 0), none⟩, ⟨(some 29), .mov (.t 0), none⟩, ⟨(some 30), .bin .shr .int (.t 29) (.k (.c (.int .u64 32))), none⟩, ⟨(some 31), .bin .add .int (.t 28) (.t 30), none⟩, ⟨(some 0), .mov (.t 31), none⟩])
  (.seq (.region [⟨(some 32), .mov (.t 0), none⟩, ⟨(some 33), .conv .i64 (.t 32), none⟩, ⟨(some 34), .bin .and .int (.t 33) (.k (.c (.int .i64 127))), none⟩, ⟨(some 2), .mov (.t 34), none⟩])
  .ret)))))))), [.tmp 2], true⟩
theorem c59 : kk 59 = some k59 := by kernel_rfl
/-- loop.example/g01263/spec.l01Grain -/
def l60_0 : KC := (.seq (.seq (.region [⟨(some 4), .mov (.t 3), none⟩, ⟨(some 5), .bin .lss .int (.t 4) (.k (.c (.int .i64 16))), none⟩])
  (.cond (.t 5) .skip (.exit 0)))
  (.seq (.block 1 (.seq (.region [⟨(some 8), .mov (.t 3), none⟩, ⟨(some 9), .idxA 16 1 (.t 1) (.t 8), none⟩, ⟨(some 10), .load1 (.t 9), none⟩, ⟨(some 11), .bin .lss .int (.t 10) (.k (.c (.int .i8 (-3)))), none⟩, ⟨(some 12), .mov (.t 11), none⟩, ⟨(some 13), .mov (.t 3), some (12, false)⟩, ⟨(some 14), .idxA 16 1 (.t 1) (.t 13), some (12, false)⟩, ⟨(some 15), .load1 (.t 14), some (12, false)⟩, ⟨(some 16), .bin .gtr .int (.t 15) (.k (.c (.int .i8 3))), some (12, false)⟩, ⟨(some 17), .pick (.t 12) (.k (.c (.bool true))) (.t 16), none⟩])
  (.cond (.t 17) (.seq (.region [⟨(some 2), .mov (.k (.c (.bool false))), none⟩])
  .ret) .skip)))
  (.region [⟨(some 6), .mov (.t 3), none⟩, ⟨(some 7), .bin .add .int (.t 6) (.k (.c (.int .i64 1))), none⟩, ⟨(some 3), .mov (.t 7), none⟩])))
def k60 : KF := ⟨18, (.seq (.region [⟨(some 1), .box 35 (.t 0), none⟩, ⟨(some 2), .mov (.k (.c (.bool false))), none⟩])
  (.seq (.seq (.region [⟨(some 3), .mov (.k (.c (.int .i64 0))), none⟩])
  (.block 0 (.loop l60_0)))
  (.seq (.region [⟨(some 2), .mov (.k (.c (.bool true))), none⟩])
  .ret))), [.tmp 2], true⟩
theorem c60 : kk 60 = some k60 := by kernel_rfl
/-- loop.example/g01263/spec.l04Worn -/
def l61_0 : KC := (.seq (.seq (.region [⟨(some 8), .mov (.t 6), none⟩, ⟨(some 9), .bin .lss .int (.t 8) (.k (.c (.int .i64 16))), none⟩])
  (.cond (.t 9) .skip (.exit 0)))
  (.seq (.block 1 (.seq (.drawn [(⟨(some 12), .mov (.t 6), none⟩, []), (⟨(some 13), .idxA 16 1 (.t 2) (.t 12), none⟩, []), (⟨(some 14), .load1 (.t 13), none⟩, []), (⟨(some 15), .mov (.t 6), none⟩, []), (⟨(some 16), .idxA 16 1 (.t 3) (.t 15), none⟩, []), (⟨(some 17), .load1 (.t 16), none⟩, []), (⟨(some 18), .bin .add .int (.t 14) (.t 17), none⟩, []), (⟨(some 19), .bin .neq .int (.t 18) (.k (.c (.int .i8 0))), none⟩, [])])
  (.cond (.t 19) (.region [⟨(some 20), .mov (.t 5), none⟩, ⟨(some 21), .mov (.t 6), none⟩, ⟨(some 22), .buildSl 2 1 [(.int .i64 0)] [(0, 1, (.t 21))], none⟩, ⟨(some 23), .app 2 1 8 (.t 20) (.t 22), none⟩, ⟨(some 5), .mov (.t 23), none⟩]) .skip)))
  (.region [⟨(some 10), .mov (.t 6), none⟩, ⟨(some 11), .bin .add .int (.t 10) (.k (.c (.int .i64 1))), none⟩, ⟨(some 6), .mov (.t 11), none⟩])))
def k61 : KF := ⟨25, (.seq (.region [⟨(some 2), .box 35 (.t 0), none⟩, ⟨(some 3), .box 35 (.t 1), none⟩, ⟨(some 4), .mov (.k (.c (.slice none 0 (.exact 0)))), none⟩])
  (.seq (.region [⟨(some 7), .buildSl 2 0 [] [], none⟩, ⟨(some 5), .mov (.t 7), none⟩])
  (.seq (.seq (.region [⟨(some 6), .mov (.k (.c (.int .i64 0))), none⟩])
  (.block 0 (.loop l61_0)))
  (.seq (.region [⟨(some 24), .mov (.t 5), none⟩, ⟨(some 4), .mov (.t 24), none⟩])
  .ret)))), [.tmp 4], false⟩
theorem c61 : kk 61 = some k61 := by kernel_rfl
/-- loop.example/g01263/impl.worn -/
def l62_0 : KC := (.seq (.region [⟨(some 9), .bin .lss .int (.t 8) (.k (.c (.int .i64 16))), none⟩])
  (.seq (.cond (.t 9) .skip (.exit 0))
  (.seq (.block 1 (.seq (.region [⟨(some 10), .mov (.t 8), none⟩, ⟨(some 6), .mov (.t 10), none⟩])
  (.seq (.drawn [(⟨(some 11), .mov (.t 6), none⟩, []), (⟨(some 12), .idxA 16 1 (.t 2) (.t 11), none⟩, []), (⟨(some 13), .load1 (.t 12), none⟩, []), (⟨(some 14), .mov (.t 6), none⟩, []), (⟨(some 15), .idxA 16 1 (.t 3) (.t 14), none⟩, []), (⟨(some 16), .load1 (.t 15), none⟩, []), (⟨(some 17), .bin .add .int (.t 13) (.t 16), none⟩, []), (⟨(some 18), .bin .neq .int (.t 17) (.k (.c (.int .i8 0))), none⟩, [])])
  (.cond (.t 18) (.region [⟨(some 19), .mov (.t 5), none⟩, ⟨(some 20), .mov (.t 6), none⟩, ⟨(some 21), .buildSl 2 1 [(.int .i64 0)] [(0, 1, (.t 20))], none⟩, ⟨(some 22), .app 2 1 8 (.t 19) (.t 21), none⟩, ⟨(some 5), .mov (.t 22), none⟩]) .skip))))
  (.region [⟨(some 23), .bin .add .int (.t 8) (.k (.c (.int .i64 1))), none⟩, ⟨(some 8), .mov (.t 23), none⟩]))))
def k62 : KF := ⟨25, (.seq (.region [⟨(some 2), .box 35 (.t 0), none⟩, ⟨(some 3), .box 35 (.t 1), none⟩, ⟨(some 4), .mov (.k (.c (.slice none 0 (.exact 0)))), none⟩])
  (.seq (.region [⟨(some 7), .buildSl 2 0 [] [], none⟩, ⟨(some 5), .mov (.t 7), none⟩])
  (.seq (.seq (.region [⟨(some 8), .mov (.k (.c (.int .i64 0))), none⟩])
  (.block 0 (.loop l62_0)))
  (.seq (.region [⟨(some 24), .mov (.t 5), none⟩, ⟨(some 4), .mov (.t 24), none⟩])
  .ret)))), [.tmp 4], false⟩
theorem c62 : kk 62 = some k62 := by kernel_rfl
/-- loop.example/g01263/laws.szInt64S -/
def k63 : KF := ⟨12, (.seq (.region [⟨(some 4), .mov (.k (.c (.int .i64 0))), none⟩])
  (.seq (.region [⟨(some 5), .mov (.t 1), none⟩, ⟨(some 6), .mov (.t 0), none⟩, ⟨(some 7), .len false (.t 6), none⟩, ⟨(some 8), .bin .sub .int (.t 5) (.t 7), none⟩, ⟨(some 1), .mov (.t 8), none⟩])
  (.seq (.seq (.region [⟨(some 9), .mov (.t 1), none⟩, ⟨(some 10), .bin .lss .int (.t 9) (.k (.c (.int .i64 0))), none⟩])
  (.cond (.t 10) (.seq (.region [⟨(some 4), .mov (.k (.c (.int .i64 (-1)))), none⟩])
  .ret) .skip))
  (.seq (.region [⟨(some 11), .mov (.t 1), none⟩, ⟨(some 4), .mov (.t 11), none⟩])
  .ret)))), [.tmp 4], true⟩
theorem c63 : kk 63 = some k63 := by kernel_rfl
/-- loop.example/g01263/spec.l00Same -/
def l64_0 : KC := (.seq (.seq (.region [⟨(some 11), .mov (.t 5), none⟩, ⟨(some 12), .mov (.t 0), none⟩, ⟨(some 13), .len false (.t 12), none⟩, ⟨(some 14), .bin .lss .int (.t 11) (.t 13), none⟩])
  (.cond (.t 14) .skip (.exit 0)))
  (.seq (.block 1 (.seq (.drawn [(⟨(some 17), .mov (.t 0), none⟩, []), (⟨(some 18), .mov (.t 5), none⟩, []), (⟨(some 19), .idxS 1 (.t 17) (.t 18), none⟩, []), (⟨(some 20), .load1 (.t 19), none⟩, []), (⟨(some 21), .mov (.t 1), none⟩, []), (⟨(some 22), .mov (.t 5), none⟩, []), (⟨(some 23), .idxS 1 (.t 21) (.t 22), none⟩, []), (⟨(some 24), .load1 (.t 23), none⟩, []), (⟨(some 25), .bin .neq .int (.t 20) (.t 24), none⟩, [])])
  (.cond (.t 25) (.seq (.region [⟨(some 4), .mov (.k (.c (.bool false))), none⟩])
  .ret) .skip)))
  (.region [⟨(some 15), .mov (.t 5), none⟩, ⟨(some 16), .bin .add .int (.t 15) (.k (.c (.int .i64 1))), none⟩, ⟨(some 5), .mov (.t 16), none⟩])))
def k64 : KF := ⟨26, (.seq (.region [⟨(some 4), .mov (.k (.c (.bool false))), none⟩])
  (.seq (.seq (.region [⟨(some 6), .mov (.t 0), none⟩, ⟨(some 7), .len false (.t 6), none⟩, ⟨(some 8), .mov (.t 1), none⟩, ⟨(some 9), .len false (.t 8), none⟩, ⟨(some 10), .bin .neq .int (.t 7) (.t 9), none⟩])
  (.cond (.t 10) (.seq (.region [⟨(some 4), .mov (.k (.c (.bool false))), none⟩])
  .ret) .skip))
  (.seq (.seq (.region [⟨(some 5), .mov (.k (.c (.int .i64 0))), none⟩])
  (.block 0 (.loop l64_0)))
  (.seq (.region [⟨(some 4), .mov (.k (.c (.bool true))), none⟩])
  .ret)))), [.tmp 4], true⟩
theorem c64 : kk 64 = some k64 := by kernel_rfl
/-- loop.example/g01263/laws.toInt64S -/
def l65_0 : KC := (.seq (.seq (.region [⟨(some 8), .mov (.t 4), none⟩, ⟨(some 9), .mov (.t 0), none⟩, ⟨(some 10), .len false (.t 9), none⟩, ⟨(some 11), .bin .lss .int (.t 8) (.t 10), none⟩])
  (.cond (.t 11) .skip (.exit 0)))
  (.seq (.block 1 (.region [⟨(some 14), .mov (.t 3), none⟩, ⟨(some 15), .mov (.t 4), none⟩, ⟨(some 16), .mov (.t 0), none⟩, ⟨(some 17), .mov (.t 4), none⟩, ⟨(some 18), .idxS 1 (.t 16) (.t 17), none⟩, ⟨(some 19), .load1 (.t 18), none⟩, ⟨(some 20), .idxS 1 (.t 14) (.t 15), none⟩, ⟨none, .store 1 (.t 20) (.t 19), none⟩]))
  (.region [⟨(some 12), .mov (.t 4), none⟩, ⟨(some 13), .bin .add .int (.t 12) (.k (.c (.int .i64 1))), none⟩, ⟨(some 4), .mov (.t 13), none⟩])))
def k65 : KF := ⟨22, (.seq (.region [⟨(some 2), .mov (.k (.c (.slice none 0 (.exact 0)))), none⟩])
  (.seq (.region [⟨(some 5), .mov (.t 0), none⟩, ⟨(some 6), .len false (.t 5), none⟩, ⟨(some 7), .mkSl 2 [(.int .i64 0)] 8 (.t 6) (.t 6), none⟩, ⟨(some 3), .mov (.t 7), none⟩])
  (.seq (.seq (.region [⟨(some 4), .mov (.k (.c (.int .i64 0))), none⟩])
  (.block 0 (.loop l65_0)))
  (.seq (.region [⟨(some 21), .mov (.t 3), none⟩, ⟨(some 2), .mov (.t 21), none⟩])
  .ret)))), [.tmp 2], false⟩
theorem c65 : kk 65 = some k65 := by kernel_rfl
/-- slices.Equal[[]int64,int64] -/
def l66_0 : KC := (.seq (.region [⟨(some 14), .bin .lss .int (.t 13) (.t 12), none⟩])
  (.seq (.cond (.t 14) .skip (.exit 0))
  (.seq (.block 1 (.seq (.region [⟨(some 15), .mov (.t 13), none⟩, ⟨(some 5), .mov (.t 15), none⟩])
  (.seq (.drawn [(⟨(some 16), .mov (.t 0), none⟩, []), (⟨(some 17), .mov (.t 5), none⟩, []), (⟨(some 18), .idxS 1 (.t 16) (.t 17), none⟩, []), (⟨(some 19), .load1 (.t 18), none⟩, []), (⟨(some 20), .mov (.t 1), none⟩, []), (⟨(some 21), .mov (.t 5), none⟩, []), (⟨(some 22), .idxS 1 (.t 20) (.t 21), none⟩, []), (⟨(some 23), .load1 (.t 22), none⟩, []), (⟨(some 24), .bin .neq .int (.t 19) (.t 23), none⟩, [])])
  (.cond (.t 24) (.seq (.region [⟨(some 4), .mov (.k (.c (.bool false))), none⟩])
  .ret) .skip))))
  (.region [⟨(some 25), .bin .add .int (.t 13) (.k (.c (.int .i64 1))), none⟩, ⟨(some 13), .mov (.t 25), none⟩]))))
def k66 : KF := ⟨26, (.seq (.region [⟨(some 4), .mov (.k (.c (.bool false))), none⟩])
  (.seq (.seq (.region [⟨(some 6), .mov (.t 0), none⟩, ⟨(some 7), .len false (.t 6), none⟩, ⟨(some 8), .mov (.t 1), none⟩, ⟨(some 9), .len false (.t 8), none⟩, ⟨(some 10), .bin .neq .int (.t 7) (.t 9), none⟩])
  (.cond (.t 10) (.seq (.region [⟨(some 4), .mov (.k (.c (.bool false))), none⟩])
  .ret) .skip))
  (.seq (.seq (.region [⟨(some 11), .mov (.t 0), none⟩, ⟨(some 12), .len false (.t 11), none⟩, ⟨(some 13), .mov (.k (.c (.int .i64 0))), none⟩])
  (.block 0 (.loop l66_0)))
  (.seq (.region [⟨(some 4), .mov (.k (.c (.bool true))), none⟩])
  .ret)))), [.tmp 4], true⟩
theorem c66 : kk 66 = some k66 := by kernel_rfl
/-- loop.example/g01263/spec.l00In -/
def k67 : KF := ⟨15, (.seq (.region [⟨(some 6), .mov (.k (.c (.bool false))), none⟩])
  (.seq (.region [⟨(some 7), .mov (.t 0), none⟩, ⟨(some 8), .mov (.t 1), none⟩, ⟨(some 9), .bin .geq .int (.t 7) (.t 8), none⟩, ⟨(some 10), .mov (.t 9), none⟩, ⟨(some 11), .mov (.t 0), some (10, true)⟩, ⟨(some 12), .mov (.t 2), some (10, true)⟩, ⟨(some 13), .bin .leq .int (.t 11) (.t 12), some (10, true)⟩, ⟨(some 14), .pick (.t 10) (.t 13) (.k (.c (.bool false))), none⟩, ⟨(some 6), .mov (.t 14), none⟩])
  .ret)), [.tmp 6], true⟩
theorem c67 : kk 67 = some k67 := by kernel_rfl
/-- loop.example/g01263/spec.l04Next -/
def k68 : KF := ⟨6, (.seq (.region [⟨(some 2), .mov (.k (.c (.int .u32 0))), none⟩])
  (.seq (.region [⟨(some 3), .mov (.t 0), none⟩, ⟨(some 4), .bin .mul .int (.k (.c (.int .u32 1664525))) (.t 3), none⟩, ⟨(some 5), .bin .add .int (.t 4) (.k (.c (.int .u32 1013904223))), none⟩, ⟨(some 2), .mov (.t 5), none⟩])
  .ret)), [.tmp 2], true⟩
theorem c68 : kk 68 = some k68 := by kernel_rfl
/-- loop.example/g01263/impl.nextSeed -/
def k69 : KF := ⟨6, (.seq (.region [⟨(some 2), .mov (.k (.c (.int .u32 0))), none⟩])
  (.seq (.region [⟨(some 3), .mov (.t 0), none⟩, ⟨(some 4), .bin .mul .int (.k (.c (.int .u32 1664525))) (.t 3), none⟩, ⟨(some 5), .bin .add .int (.t 4) (.k (.c (.int .u32 1013904223))), none⟩, ⟨(some 2), .mov (.t 5), none⟩])
  .ret)), [.tmp 2], true⟩
theorem c69 : kk 69 = some k69 := by kernel_rfl
/-- loop.example/g01263/impl.WearGrain -/
def k70 : KF := ⟨41, (.seq (.region [⟨(some 3), .box 35 (.t 0), none⟩, ⟨(some 6), .alloc 35 [(.int .i8 0), (.int .i8 0), (.int .i8 0), (.int .i8 0), (.int .i8 0), (.int .i8 0), (.int .i8 0), (.int .i8 0), (.int .i8 0), (.int .i8 0), (.int .i8 0), (.int .i8 0), (.int .i8 0), (.int .i8 0), (.int .i8 0), (.int .i8 0)], none⟩, ⟨(some 7), .mov (.k (.c (.int .i64 0))), none⟩])
  (.seq (.block 0 (.seq (.region [⟨(some 9), .loadN 16 (.t 3), none⟩, ⟨(some 10), .call (.k (.c (.fn 44 []))) [(.t 9)], none⟩, ⟨(some 11), .un .not (.t 10), none⟩, ⟨(some 8), .mov (.t 11), none⟩])
  (.cond (.t 8) (.seq (.region [⟨(some 12), .build [(.int .i8 0), (.int .i8 0), (.int .i8 0), (.int .i8 0), (.int .i8 0), (.int .i8 0), (.int .i8 0), (.int .i8 0), (.int .i8 0), (.int .i8 0), (.int .i8 0), (.int .i8 0), (.int .i8 0), (.int .i8 0), (.int .i8 0), (.int .i8 0)] [], none⟩, ⟨none, .store 16 (.t 6) (.t 12), none⟩, ⟨(some 7), .mov (.k (.c (.int .i64 1))), none⟩])
  .ret) (.seq (.region [⟨(some 14), .mov (.t 1), none⟩, ⟨(some 15), .bin .lss .int (.t 14) (.k (.c (.int .i64 0))), none⟩, ⟨(some 16), .mov (.t 15), none⟩, ⟨(some 17), .mov (.t 1), some (16, false)⟩, ⟨(some 18), .bin .geq .int (.t 17) (.k (.c (.int .i64 16))), some (16, false)⟩, ⟨(some 19), .pick (.t 16) (.k (.c (.bool true))) (.t 18), none⟩, ⟨(some 20), .mov (.t 19), none⟩, ⟨(some 21), .mov (.t 2), some (20, false)⟩, ⟨(some 22), .bin .neq .int (.t 21) (.k (.c (.int .i64 (-1)))), some (20, false)⟩, ⟨(some 23), .mov (.t 22), some (20, false)⟩, ⟨(some 24), .mov (.t 2), some (23, true)⟩, ⟨(some 25), .bin .neq .int (.t 24) (.k (.c (.int .i64 1))), some (23, true)⟩, ⟨(some 26), .pick (.t 23) (.t 25) (.k (.c (.bool false))), some (20, false)⟩, ⟨(some 27), .pick (.t 20) (.k (.c (.bool true))) (.t 26), none⟩, ⟨(some 13), .mov (.t 27), none⟩])
  (.cond (.t 13) (.seq (.region [⟨(some 28), .build [(.int .i8 0), (.int .i8 0), (.int .i8 0), (.int .i8 0), (.int .i8 0), (.int .i8 0), (.int .i8 0), (.int .i8 0), (.int .i8 0), (.int .i8 0), (.int .i8 0), (.int .i8 0), (.int .i8 0), (.int .i8 0), (.int .i8 0), (.int .i8 0)] [], none⟩, ⟨none, .store 16 (.t 6) (.t 28), none⟩, ⟨(some 7), .mov (.k (.c (.int .i64 2))), none⟩])
  .ret) .skip)))))
  (.seq (.region [⟨(some 29), .mov (.t 1), none⟩, ⟨(some 30), .idxA 16 1 (.t 3) (.t 29), none⟩, ⟨(some 31), .load1 (.t 30), none⟩, ⟨(some 32), .mov (.t 2), none⟩, ⟨(some 33), .conv .i8 (.t 32), none⟩, ⟨(some 34), .bin .add .int (.t 31) (.t 33), none⟩, ⟨(some 35), .idxA 16 1 (.t 3) (.t 29), none⟩, ⟨none, .store 1 (.t 35) (.t 34), none⟩])
  (.seq (.seq (.region [⟨(some 36), .loadN 16 (.t 3), none⟩, ⟨(some 37), .call (.k (.c (.fn 44 []))) [(.t 36)], none⟩, ⟨(some 38), .un .not (.t 37), none⟩])
  (.cond (.t 38) (.seq (.region [⟨(some 39), .build [(.int .i8 0), (.int .i8 0), (.int .i8 0), (.int .i8 0), (.int .i8 0), (.int .i8 0), (.int .i8 0), (.int .i8 0), (.int .i8 0), (.int .i8 0), (.int .i8 0), (.int .i8 0), (.int .i8 0), (.int .i8 0), (.int .i8 0), (.int .i8 0)] [], none⟩, ⟨none, .store 16 (.t 6) (.t 39), none⟩, ⟨(some 7), .mov (.k (.c (.int .i64 4))), none⟩])
  .ret) .skip))
  (.seq (.region [⟨(some 40), .loadN 16 (.t 3), none⟩, ⟨none, .store 16 (.t 6) (.t 40), none⟩, ⟨(some 7), .mov (.k (.c (.int .i64 0))), none⟩])
  .ret))))), [.cellN 6 16, .tmp 7], true⟩
theorem c70 : kk 70 = some k70 := by kernel_rfl
/-- loop.example/g01263/laws.szNotchS -/
def k71 : KF := ⟨12, (.seq (.region [⟨(some 4), .mov (.k (.c (.int .i64 0))), none⟩])
  (.seq (.region [⟨(some 5), .mov (.t 1), none⟩, ⟨(some 6), .mov (.t 0), none⟩, ⟨(some 7), .len false (.t 6), none⟩, ⟨(some 8), .bin .sub .int (.t 5) (.t 7), none⟩, ⟨(some 1), .mov (.t 8), none⟩])
  (.seq (.seq (.region [⟨(some 9), .mov (.t 1), none⟩, ⟨(some 10), .bin .lss .int (.t 9) (.k (.c (.int .i64 0))), none⟩])
  (.cond (.t 10) (.seq (.region [⟨(some 4), .mov (.k (.c (.int .i64 (-1)))), none⟩])
  .ret) .skip))
  (.seq (.region [⟨(some 11), .mov (.t 1), none⟩, ⟨(some 4), .mov (.t 11), none⟩])
  .ret)))), [.tmp 4], true⟩
theorem c71 : kk 71 = some k71 := by kernel_rfl
/-- loop.example/g01263/spec.l01Ok -/
def k72 : KF := ⟨15, (.seq (.region [⟨(some 2), .mov (.k (.c (.bool false))), none⟩])
  (.seq (.region [⟨(some 3), .mov (.t 0), none⟩, ⟨(some 4), .nilchk (.t 3), none⟩, ⟨(some 5), .fldA 1 (.t 4), none⟩, ⟨(some 6), .load1 (.t 5), none⟩, ⟨(some 7), .call (.k (.c (.fn 94 []))) [(.t 6)], none⟩, ⟨(some 8), .mov (.t 7), none⟩, ⟨(some 9), .mov (.t 0), some (8, true)⟩, ⟨(some 10), .nilchk (.t 9), some (8, true)⟩, ⟨(some 11), .fldA 2 (.t 10), some (8, true)⟩, ⟨(some 12), .loadN 16 (.t 11), some (8, true)⟩, ⟨(some 13), .call (.k (.c (.fn 60 []))) [(.t 12)], some (8, true)⟩, ⟨(some 14), .pick (.t 8) (.t 13) (.k (.c (.bool false))), none⟩, ⟨(some 2), .mov (.t 14), none⟩])
  .ret)), [.tmp 2], true⟩
theorem c72 : kk 72 = some k72 := by kernel_rfl
/-- loop.example/g01263/spec.l04Wood -/
def l73_0 : KC := (.seq (.seq (.region [⟨(some 25), .mov (.t 5), none⟩, ⟨(some 26), .mov (.t 0), none⟩, ⟨(some 27), .nilchk (.t 26), none⟩, ⟨(some 28), .fldA 1 (.t 27), none⟩, ⟨(some 29), .load1 (.t 28), none⟩, ⟨(some 30), .mov (.t 4), none⟩, ⟨(some 31), .idxS 2 (.t 29) (.t 30), none⟩, ⟨(some 32), .loadN 2 (.t 31), none⟩, ⟨(some 33), .call (.k (.c (.fn 95 []))) [(.t 32)], none⟩, ⟨(some 34), .bin .lss .int (.t 25) (.t 33), none⟩])
  (.cond (.t 34) .skip (.exit 2)))
  (.seq (.block 3 (.region [⟨(some 37), .mov (.t 5), none⟩, ⟨(some 38), .bin .quo .int (.t 37) (.k (.c (.int .i64 64))), none⟩, ⟨(some 39), .idxA 4 1 (.t 3) (.t 38), none⟩, ⟨(some 40), .load1 (.t 39), none⟩, ⟨(some 41), .mov (.t 5), none⟩, ⟨(some 42), .bin .rem .int (.t 41) (.k (.c (.int .i64 64))), none⟩, ⟨(some 43), .conv .u64 (.t 42), none⟩, ⟨(some 44), .bin .shl .int (.k (.c (.int .u64 1))) (.t 43), none⟩, ⟨(some 45), .bin .or .int (.t 40) (.t 44), none⟩, ⟨(some 46), .idxA 4 1 (.t 3) (.t 38), none⟩, ⟨none, .store 1 (.t 46) (.t 45), none⟩]))
  (.region [⟨(some 35), .mov (.t 5), none⟩, ⟨(some 36), .bin .add .int (.t 35) (.k (.c (.int .i64 1))), none⟩, ⟨(some 5), .mov (.t 36), none⟩])))
def l73_1 : KC := (.seq (.seq (.region [⟨(some 7), .mov (.t 4), none⟩, ⟨(some 8), .mov (.t 0), none⟩, ⟨(some 9), .nilchk (.t 8), none⟩, ⟨(some 10), .fldA 1 (.t 9), none⟩, ⟨(some 11), .load1 (.t 10), none⟩, ⟨(some 12), .len false (.t 11), none⟩, ⟨(some 13), .bin .lss .int (.t 7) (.t 12), none⟩])
  (.cond (.t 13) .skip (.exit 0)))
  (.seq (.block 1 (.seq (.region [⟨(some 16), .mov (.t 0), none⟩, ⟨(some 17), .nilchk (.t 16), none⟩, ⟨(some 18), .fldA 1 (.t 17), none⟩, ⟨(some 19), .load1 (.t 18), none⟩, ⟨(some 20), .mov (.t 4), none⟩, ⟨(some 21), .idxS 2 (.t 19) (.t 20), none⟩, ⟨(some 22), .fldA 1 (.t 21), none⟩, ⟨(some 23), .load1 (.t 22), none⟩, ⟨(some 24), .conv .i64 (.t 23), none⟩, ⟨(some 5), .mov (.t 24), none⟩])
  (.block 2 (.loop l73_0))))
  (.region [⟨(some 14), .mov (.t 4), none⟩, ⟨(some 15), .bin .add .int (.t 14) (.k (.c (.int .i64 1))), none⟩, ⟨(some 4), .mov (.t 15), none⟩])))
def k73 : KF := ⟨48, (.seq (.region [⟨(some 2), .alloc 25 [(.int .u64 0), (.int .u64 0), (.int .u64 0), (.int .u64 0)], none⟩])
  (.seq (.region [⟨(some 6), .build [(.int .u64 0), (.int .u64 0), (.int .u64 0), (.int .u64 0)] [], none⟩, ⟨(some 3), .alloc 25 [(.int .u64 0), (.int .u64 0), (.int .u64 0), (.int .u64 0)], none⟩, ⟨none, .store 4 (.t 3) (.t 6), none⟩])
  (.seq (.seq (.region [⟨(some 4), .mov (.k (.c (.int .i64 0))), none⟩])
  (.block 0 (.loop l73_1)))
  (.seq (.region [⟨(some 47), .loadN 4 (.t 3), none⟩, ⟨none, .store 4 (.t 2) (.t 47), none⟩])
  .ret)))), [.cellN 2 4], true⟩
theorem c73 : kk 73 = some k73 := by kernel_rfl
/-- loop.example/g01263/laws.toNotchS -/
def l74_0 : KC := (.seq (.seq (.region [⟨(some 8), .mov (.t 4), none⟩, ⟨(some 9), .mov (.t 0), none⟩, ⟨(some 10), .len false (.t 9), none⟩, ⟨(some 11), .bin .lss .int (.t 8) (.t 10), none⟩])
  (.cond (.t 11) .skip (.exit 0)))
  (.seq (.block 1 (.region [⟨(some 14), .mov (.t 3), none⟩, ⟨(some 15), .mov (.t 4), none⟩, ⟨(some 16), .mov (.t 0), none⟩, ⟨(some 17), .mov (.t 4), none⟩, ⟨(some 18), .idxS 2 (.t 16) (.t 17), none⟩, ⟨(some 19), .loadN 2 (.t 18), none⟩, ⟨(some 20), .call (.k (.c (.fn 96 []))) [(.t 19)], none⟩, ⟨(some 21), .idxS 2 (.t 14) (.t 15), none⟩, ⟨none, .store 2 (.t 21) (.t 20), none⟩]))
  (.region [⟨(some 12), .mov (.t 4), none⟩, ⟨(some 13), .bin .add .int (.t 12) (.k (.c (.int .i64 1))), none⟩, ⟨(some 4), .mov (.t 13), none⟩])))
def k74 : KF := ⟨23, (.seq (.region [⟨(some 2), .mov (.k (.c (.slice none 0 (.exact 0)))), none⟩])
  (.seq (.region [⟨(some 5), .mov (.t 0), none⟩, ⟨(some 6), .len false (.t 5), none⟩, ⟨(some 7), .mkSl 122 [(.int .i8 0), (.int .i16 0)] 4 (.t 6) (.t 6), none⟩, ⟨(some 3), .mov (.t 7), none⟩])
  (.seq (.seq (.region [⟨(some 4), .mov (.k (.c (.int .i64 0))), none⟩])
  (.block 0 (.loop l74_0)))
  (.seq (.region [⟨(some 22), .mov (.t 3), none⟩, ⟨(some 2), .mov (.t 22), none⟩])
  .ret)))), [.tmp 2], false⟩
theorem c74 : kk 74 = some k74 := by kernel_rfl
/-- loop.example/g01263/impl.ValidHalf -/
def l75_0 : KC := (.seq (.region [⟨(some 19), .bin .lss .int (.t 18) (.t 17), none⟩])
  (.seq (.cond (.t 19) .skip (.exit 0))
  (.seq (.block 1 (.seq (.region [⟨(some 20), .mov (.t 18), none⟩, ⟨(some 21), .idxS 2 (.t 16) (.t 18), none⟩, ⟨(some 22), .loadN 2 (.t 21), none⟩, ⟨(some 4), .alloc 122 [(.int .i8 0), (.int .i16 0)], none⟩, ⟨(some 3), .mov (.t 20), none⟩, ⟨none, .store 2 (.t 4) (.t 22), none⟩])
  (.seq (.seq (.region [⟨(some 23), .fldA 0 (.t 4), none⟩, ⟨(some 24), .load1 (.t 23), none⟩, ⟨(some 25), .conv .i64 (.t 24), none⟩, ⟨(some 26), .call (.k (.c (.fn 97 []))) [(.t 25)], none⟩, ⟨(some 27), .un .not (.t 26), none⟩, ⟨(some 28), .mov (.t 27), none⟩, ⟨(some 29), .fldA 1 (.t 4), some (28, false)⟩, ⟨(some 30), .load1 (.t 29), some (28, false)⟩, ⟨(some 31), .bin .lss .int (.t 30) (.k (.c (.int .i16 0))), some (28, false)⟩, ⟨(some 32), .pick (.t 28) (.k (.c (.bool true))) (.t 31), none⟩, ⟨(some 33), .mov (.t 32), none⟩, ⟨(some 34), .loadN 2 (.t 4), some (33, false)⟩, ⟨(some 35), .call (.k (.c (.fn 98 []))) [(.t 34)], some (33, false)⟩, ⟨(some 36), .bin .gtr .int (.t 35) (.k (.c (.int .i64 200))), some (33, false)⟩, ⟨(some 37), .pick (.t 33) (.k (.c (.bool true))) (.t 36), none⟩])
  (.cond (.t 37) (.seq (.region [⟨(some 2), .mov (.k (.c (.bool false))), none⟩])
  .ret) .skip))
  (.seq (.drawn [(⟨(some 38), .mov (.t 3), none⟩, []), (⟨(some 39), .bin .gtr .int (.t 38) (.k (.c (.int .i64 0))), none⟩, []), (⟨(some 40), .mov (.t 39), none⟩, []), (⟨(some 41), .fldA 1 (.t 4), some (40, true)⟩, []), (⟨(some 42), .load1 (.t 41), some (40, true)⟩, []), (⟨(some 43), .conv .i64 (.t 42), some (40, true)⟩, []), (⟨(some 44), .fldA 1 (.t 1), some (40, true)⟩, []), (⟨(some 45), .load1 (.t 44), some (40, true)⟩, []), (⟨(some 46), .mov (.t 3), some (40, true)⟩, []), (⟨(some 47), .bin .sub .int (.t 46) (.k (.c (.int .i64 1))), some (40, true)⟩, []), (⟨(some 48), .idxS 2 (.t 45) (.t 47), some (40, true)⟩, []), (⟨(some 49), .loadN 2 (.t 48), some (40, true)⟩, []), (⟨(some 50), .call (.k (.c (.fn 98 []))) [(.t 49)], some (40, true)⟩, [⟨(some 42), .load1 (.t 41), some (40, true)⟩]), (⟨(some 51), .bin .leq .int (.t 43) (.t 50), some (40, true)⟩, []), (⟨(some 52), .mov (.t 51), some (40, true)⟩, []), (⟨(some 53), .fldA 0 (.t 4), some (52, false)⟩, []), (⟨(some 54), .load1 (.t 53), some (52, false)⟩, []), (⟨(some 55), .fldA 1 (.t 1), some (52, false)⟩, []), (⟨(some 56), .load1 (.t 55), some (52, false)⟩, []), (⟨(some 57), .mov (.t 3), some (52, false)⟩, []), (⟨(some 58), .bin .sub .int (.t 57) (.k (.c (.int .i64 1))), some (52, false)⟩, []), (⟨(some 59), .idxS 2 (.t 56) (.t 58), some (52, false)⟩, []), (⟨(some 60), .fldA 0 (.t 59), some (52, false)⟩, []), (⟨(some 61), .load1 (.t 60), some (52, false)⟩, []), (⟨(some 62), .bin .gtr .int (.t 54) (.t 61), some (52, false)⟩, []), (⟨(some 63), .pick (.t 52) (.k (.c (.bool true))) (.t 62), some (40, true)⟩, []), (⟨(some 64), .pick (.t 40) (.t 63) (.k (.c (.bool false))), none⟩, [])])
  (.cond (.t 64) (.seq (.region [⟨(some 2), .mov (.k (.c (.bool false))), none⟩])
  .ret) .skip)))))
  (.region [⟨(some 65), .bin .add .int (.t 18) (.k (.c (.int .i64 1))), none⟩, ⟨(some 18), .mov (.t 65), none⟩]))))
def k75 : KF := ⟨66, (.seq (.region [⟨(some 1), .box 60 (.t 0), none⟩, ⟨(some 2), .mov (.k (.c (.bool false))), none⟩])
  (.seq (.seq (.region [⟨(some 5), .fldA 1 (.t 1), none⟩, ⟨(some 6), .load1 (.t 5), none⟩, ⟨(some 7), .len false (.t 6), none⟩, ⟨(some 8), .bin .gtr .int (.t 7) (.k (.c (.int .i64 60))), none⟩, ⟨(some 9), .mov (.t 8), none⟩, ⟨(some 10), .fldA 2 (.t 1), some (9, false)⟩, ⟨(some 11), .loadN 16 (.t 10), some (9, false)⟩, ⟨(some 12), .call (.k (.c (.fn 44 []))) [(.t 11)], some (9, false)⟩, ⟨(some 13), .un .not (.t 12), some (9, false)⟩, ⟨(some 14), .pick (.t 9) (.k (.c (.bool true))) (.t 13), none⟩])
  (.cond (.t 14) (.seq (.region [⟨(some 2), .mov (.k (.c (.bool false))), none⟩])
  .ret) .skip))
  (.seq (.seq (.region [⟨(some 15), .fldA 1 (.t 1), none⟩, ⟨(some 16), .load1 (.t 15), none⟩, ⟨(some 17), .len false (.t 16), none⟩, ⟨(some 18), .mov (.k (.c (.int .i64 0))), none⟩])
  (.block 0 (.loop l75_0)))
  (.seq (.region [⟨(some 2), .mov (.k (.c (.bool true))), none⟩])
  .ret)))), [.tmp 2], true⟩
theorem c75 : kk 75 = some k75 := by kernel_rfl
/-- loop.example/g01263/impl.wood -/
def l76_0 : KC := (.seq (.seq (.region [⟨(some 18), .mov (.t 6), none⟩, ⟨(some 19), .loadN 2 (.t 5), none⟩, ⟨(some 20), .call (.k (.c (.fn 98 []))) [(.t 19)], none⟩, ⟨(some 21), .bin .lss .int (.t 18) (.t 20), none⟩])
  (.cond (.t 21) .skip (.exit 2)))
  (.seq (.block 3 (.drawn [(⟨(some 24), .mov (.t 6), none⟩, []), (⟨(some 25), .bin .quo .int (.t 24) (.k (.c (.int .i64 64))), none⟩, []), (⟨(some 26), .idxA 4 1 (.t 3) (.t 25), none⟩, []), (⟨(some 27), .load1 (.t 26), none⟩, []), (⟨(some 28), .mov (.t 6), none⟩, []), (⟨(some 29), .bin .rem .int (.t 28) (.k (.c (.int .i64 64))), none⟩, []), (⟨(some 30), .bin .shl .int (.k (.c (.int .u64 1))) (.t 29), none⟩, []), (⟨(some 31), .bin .or .int (.t 27) (.t 30), none⟩, []), (⟨(some 32), .idxA 4 1 (.t 3) (.t 25), none⟩, []), (⟨none, .store 1 (.t 32) (.t 31), none⟩, [])]))
  (.region [⟨(some 22), .mov (.t 6), none⟩, ⟨(some 23), .bin .add .int (.t 22) (.k (.c (.int .i64 1))), none⟩, ⟨(some 6), .mov (.t 23), none⟩])))
def l76_1 : KC := (.seq (.region [⟨(some 12), .bin .lss .int (.t 11) (.t 10), none⟩])
  (.seq (.cond (.t 12) .skip (.exit 0))
  (.seq (.block 1 (.seq (.region [⟨(some 13), .idxS 2 (.t 9) (.t 11), none⟩, ⟨(some 14), .loadN 2 (.t 13), none⟩, ⟨(some 5), .alloc 122 [(.int .i8 0), (.int .i16 0)], none⟩, ⟨none, .store 2 (.t 5) (.t 14), none⟩])
  (.seq (.region [⟨(some 15), .fldA 1 (.t 5), none⟩, ⟨(some 16), .load1 (.t 15), none⟩, ⟨(some 17), .conv .i64 (.t 16), none⟩, ⟨(some 6), .mov (.t 17), none⟩])
  (.block 2 (.loop l76_0)))))
  (.region [⟨(some 33), .bin .add .int (.t 11) (.k (.c (.int .i64 1))), none⟩, ⟨(some 11), .mov (.t 33), none⟩]))))
def k76 : KF := ⟨35, (.seq (.region [⟨(some 1), .box 60 (.t 0), none⟩, ⟨(some 2), .alloc 25 [(.int .u64 0), (.int .u64 0), (.int .u64 0), (.int .u64 0)], none⟩])
  (.seq (.region [⟨(some 7), .build [(.int .u64 0), (.int .u64 0), (.int .u64 0), (.int .u64 0)] [], none⟩, ⟨(some 3), .alloc 25 [(.int .u64 0), (.int .u64 0), (.int .u64 0), (.int .u64 0)], none⟩, ⟨none, .store 4 (.t 3) (.t 7), none⟩])
  (.seq (.seq (.region [⟨(some 8), .fldA 1 (.t 1), none⟩, ⟨(some 9), .load1 (.t 8), none⟩, ⟨(some 10), .len false (.t 9), none⟩, ⟨(some 11), .mov (.k (.c (.int .i64 0))), none⟩])
  (.block 0 (.loop l76_1)))
  (.seq (.region [⟨(some 34), .loadN 4 (.t 3), none⟩, ⟨none, .store 4 (.t 2) (.t 34), none⟩])
  .ret)))), [.cellN 2 4], true⟩
theorem c76 : kk 76 = some k76 := by kernel_rfl
/-- loop.example/g01263/laws.eqNotchS -/
def l77_0 : KC := (.seq (.seq (.region [⟨(some 11), .mov (.t 5), none⟩, ⟨(some 12), .mov (.t 0), none⟩, ⟨(some 13), .len false (.t 12), none⟩, ⟨(some 14), .bin .lss .int (.t 11) (.t 13), none⟩])
  (.cond (.t 14) .skip (.exit 0)))
  (.seq (.block 1 (.seq (.drawn [(⟨(some 17), .mov (.t 0), none⟩, []), (⟨(some 18), .mov (.t 5), none⟩, []), (⟨(some 19), .idxS 2 (.t 17) (.t 18), none⟩, []), (⟨(some 20), .loadN 2 (.t 19), none⟩, []), (⟨(some 21), .mov (.t 1), none⟩, []), (⟨(some 22), .mov (.t 5), none⟩, []), (⟨(some 23), .idxS 2 (.t 21) (.t 22), none⟩, []), (⟨(some 24), .loadN 2 (.t 23), none⟩, []), (⟨(some 25), .call (.k (.c (.fn 99 []))) [(.t 20), (.t 24)], none⟩, []), (⟨(some 26), .un .not (.t 25), none⟩, [])])
  (.cond (.t 26) (.seq (.region [⟨(some 4), .mov (.k (.c (.bool false))), none⟩])
  .ret) .skip)))
  (.region [⟨(some 15), .mov (.t 5), none⟩, ⟨(some 16), .bin .add .int (.t 15) (.k (.c (.int .i64 1))), none⟩, ⟨(some 5), .mov (.t 16), none⟩])))
def k77 : KF := ⟨27, (.seq (.region [⟨(some 4), .mov (.k (.c (.bool false))), none⟩])
  (.seq (.seq (.region [⟨(some 6), .mov (.t 0), none⟩, ⟨(some 7), .len false (.t 6), none⟩, ⟨(some 8), .mov (.t 1), none⟩, ⟨(some 9), .len false (.t 8), none⟩, ⟨(some 10), .bin .neq .int (.t 7) (.t 9), none⟩])
  (.cond (.t 10) (.seq (.region [⟨(some 4), .mov (.k (.c (.bool false))), none⟩])
  .ret) .skip))
  (.seq (.seq (.region [⟨(some 5), .mov (.k (.c (.int .i64 0))), none⟩])
  (.block 0 (.loop l77_0)))
  (.seq (.region [⟨(some 4), .mov (.k (.c (.bool true))), none⟩])
  .ret)))), [.tmp 4], true⟩
theorem c77 : kk 77 = some k77 := by kernel_rfl
/-- loop.example/g01263/spec.l04Small -/
def l78_0 : KC := (.seq (.seq (.region [⟨(some 27), .mov (.t 7), none⟩, ⟨(some 28), .bin .gtr .int (.t 27) (.k (.c (.int .i64 0))), none⟩])
  (.cond (.t 28) .skip (.exit 0)))
  (.seq (.block 1 (.seq (.region [⟨(some 31), .fldA 1 (.t 3), none⟩, ⟨(some 32), .load1 (.t 31), none⟩, ⟨(some 33), .mov (.t 6), none⟩, ⟨(some 34), .mov (.t 5), none⟩, ⟨(some 35), .conv .i16 (.t 34), none⟩, ⟨(some 36), .build [(.int .i8 0), (.int .i16 0)] [(0, 1, (.t 33)), (1, 1, (.t 35))], none⟩, ⟨(some 37), .buildSl 122 1 [(.int .i8 0), (.int .i16 0)] [(0, 2, (.t 36))], none⟩, ⟨(some 38), .app 122 2 4 (.t 32) (.t 37), none⟩, ⟨(some 39), .fldA 1 (.t 3), none⟩, ⟨none, .store 1 (.t 39) (.t 38), none⟩])
  (.seq (.drawn [(⟨(some 40), .mov (.t 5), none⟩, []), (⟨(some 42), .mov (.t 6), none⟩, []), (⟨(some 46), .mov (.t 0), none⟩, []), (⟨(some 41), .call (.k (.c (.fn 102 []))) [], none⟩, []), (⟨(some 43), .idxS 1 (.t 41) (.t 42), none⟩, []), (⟨(some 44), .load1 (.t 43), none⟩, []), (⟨(some 45), .bin .add .int (.t 44) (.k (.c (.int .i64 1))), none⟩, []), (⟨(some 47), .call (.k (.c (.fn 80 []))) [(.t 46), (.k (.c (.int .i64 6)))], none⟩, [⟨(some 44), .load1 (.t 43), none⟩]), (⟨(some 48), .bin .add .int (.t 45) (.t 47), none⟩, []), (⟨(some 49), .bin .add .int (.t 40) (.t 48), none⟩, []), (⟨(some 5), .mov (.t 49), none⟩, [])])
  (.seq (.region [⟨(some 50), .mov (.t 6), none⟩, ⟨(some 51), .bin .gtr .int (.t 50) (.k (.c (.int .i8 0))), none⟩, ⟨(some 52), .mov (.t 51), none⟩, ⟨(some 53), .mov (.t 0), some (52, true)⟩, ⟨(some 54), .call (.k (.c (.fn 100 []))) [(.t 53), (.k (.c (.int .i64 2)))], some (52, true)⟩, ⟨(some 55), .pick (.t 52) (.t 54) (.k (.c (.bool false))), none⟩])
  (.cond (.t 55) (.region [⟨(some 56), .mov (.t 6), none⟩, ⟨(some 57), .bin .sub .int (.t 56) (.k (.c (.int .i8 1))), none⟩, ⟨(some 6), .mov (.t 57), none⟩]) .skip)))))
  (.region [⟨(some 29), .mov (.t 7), none⟩, ⟨(some 30), .bin .sub .int (.t 29) (.k (.c (.int .i64 1))), none⟩, ⟨(some 7), .mov (.t 30), none⟩])))
def k78 : KF := ⟨59, (.seq (.region [⟨(some 2), .alloc 60 [(.bool false), (.slice none 0 (.exact 0)), (.int .i8 0), (.int .i8 0), (.int .i8 0), (.int .i8 0), (.int .i8 0), (.int .i8 0), (.int .i8 0), (.int .i8 0), (.int .i8 0), (.int .i8 0), (.int .i8 0), (.int .i8 0), (.int .i8 0), (.int .i8 0), (.int .i8 0), (.int .i8 0)], none⟩])
  (.seq (.region [⟨(some 8), .mov (.t 0), none⟩, ⟨(some 9), .call (.k (.c (.fn 100 []))) [(.t 8), (.k (.c (.int .i64 2)))], none⟩, ⟨(some 10), .build [(.bool false), (.slice none 0 (.exact 0)), (.int .i8 0), (.int .i8 0), (.int .i8 0), (.int .i8 0), (.int .i8 0), (.int .i8 0), (.int .i8 0), (.int .i8 0), (.int .i8 0), (.int .i8 0), (.int .i8 0), (.int .i8 0), (.int .i8 0), (.int .i8 0), (.int .i8 0), (.int .i8 0)] [(0, 1, (.t 9))], none⟩, ⟨(some 3), .alloc 60 [(.bool false), (.slice none 0 (.exact 0)), (.int .i8 0), (.int .i8 0), (.int .i8 0), (.int .i8 0), (.int .i8 0), (.int .i8 0), (.int .i8 0), (.int .i8 0), (.int .i8 0), (.int .i8 0), (.int .i8 0), (.int .i8 0), (.int .i8 0), (.int .i8 0), (.int .i8 0), (.int .i8 0)], none⟩, ⟨none, .store 18 (.t 3) (.t 10), none⟩])
  (.seq (.region [⟨(some 11), .mov (.t 0), none⟩, ⟨(some 12), .call (.k (.c (.fn 80 []))) [(.t 11), (.k (.c (.int .i64 1073741824)))], none⟩, ⟨(some 13), .conv .u32 (.t 12), none⟩, ⟨(some 4), .mov (.t 13), none⟩])
  (.seq (.region [⟨(some 15), .mov (.t 4), none⟩, ⟨(some 16), .call (.k (.c (.fn 101 []))) [(.t 15)], none⟩, ⟨(some 14), .mov (.t 16), none⟩, ⟨(some 17), .ext (.t 14) 0, none⟩, ⟨(some 18), .ext (.t 14) 1, none⟩, ⟨(some 19), .fldA 2 (.t 3), none⟩, ⟨none, .store 16 (.t 19) (.t 17), none⟩, ⟨(some 4), .mov (.t 18), none⟩])
  (.seq (.region [⟨(some 20), .mov (.t 0), none⟩, ⟨(some 21), .call (.k (.c (.fn 80 []))) [(.t 20), (.k (.c (.int .i64 3)))], none⟩, ⟨(some 5), .mov (.t 21), none⟩])
  (.seq (.region [⟨(some 22), .mov (.t 0), none⟩, ⟨(some 23), .call (.k (.c (.fn 80 []))) [(.t 22), (.k (.c (.int .i64 5)))], none⟩, ⟨(some 24), .conv .i8 (.t 23), none⟩, ⟨(some 6), .mov (.t 24), none⟩])
  (.seq (.seq (.region [⟨(some 25), .mov (.t 0), none⟩, ⟨(some 26), .call (.k (.c (.fn 80 []))) [(.t 25), (.k (.c (.int .i64 6)))], none⟩, ⟨(some 7), .mov (.t 26), none⟩])
  (.block 0 (.loop l78_0)))
  (.seq (.region [⟨(some 58), .loadN 18 (.t 3), none⟩, ⟨none, .store 18 (.t 2) (.t 58), none⟩])
  .ret)))))))), [.cellN 2 18], false⟩
theorem c78 : kk 78 = some k78 := by kernel_rfl
/-- loop.example/g01263/spec.l00From -/
def k79 : KF := ⟨6, (.seq (.region [⟨(some 2), .mov (.k (.c (.ptr none))), none⟩])
  (.seq (.region [⟨(some 3), .mov (.t 0), none⟩, ⟨(some 4), .build [(.slice none 0 (.exact 0)), (.int .i64 0), (.int .u64 0)] [(0, 1, (.t 3))], none⟩, ⟨(some 5), .box 132 (.t 4), none⟩, ⟨(some 2), .mov (.t 5), none⟩])
  .ret)), [.tmp 2], false⟩
theorem c79 : kk 79 = some k79 := by kernel_rfl
/-- (*loop.example/g01263/spec.l00Src).pick -/
def k80 : KF := ⟨20, (.seq (.region [⟨(some 4), .mov (.k (.c (.int .i64 0))), none⟩])
  (.seq (.seq (.region [⟨(some 6), .mov (.t 1), none⟩, ⟨(some 7), .bin .leq .int (.t 6) (.k (.c (.int .i64 1))), none⟩])
  (.cond (.t 7) (.seq (.region [⟨(some 4), .mov (.k (.c (.int .i64 0))), none⟩])
  .ret) .skip))
  (.seq (.region [⟨(some 8), .mov (.t 0), none⟩, ⟨(some 9), .call (.k (.c (.fn 103 []))) [(.t 8)], none⟩, ⟨(some 5), .mov (.t 9), none⟩])
  (.seq (.seq (.region [⟨(some 10), .mov (.t 1), none⟩, ⟨(some 11), .bin .gtr .int (.t 10) (.k (.c (.int .i64 200))), none⟩])
  (.cond (.t 11) (.region [⟨(some 12), .mov (.t 5), none⟩, ⟨(some 13), .bin .mul .int (.t 12) (.k (.c (.int .i64 256))), none⟩, ⟨(some 14), .mov (.t 0), none⟩, ⟨(some 15), .call (.k (.c (.fn 103 []))) [(.t 14)], none⟩, ⟨(some 16), .bin .add .int (.t 13) (.t 15), none⟩, ⟨(some 5), .mov (.t 16), none⟩]) .skip))
  (.seq (.region [⟨(some 17), .mov (.t 5), none⟩, ⟨(some 18), .mov (.t 1), none⟩, ⟨(some 19), .bin .rem .int (.t 17) (.t 18), none⟩, ⟨(some 4), .mov (.t 19), none⟩])
  .ret))))), [.tmp 4], true⟩
theorem c80 : kk 80 = some k80 := by kernel_rfl
/-- loop.example/g01263/impl.opposite -/
def l81_0 : KC := (.seq (.region [⟨(some 5), .bin .lss .int (.t 4) (.k (.c (.int .i64 16))), none⟩])
  (.seq (.cond (.t 5) .skip (.exit 0))
  (.seq (.block 1 (.seq (.region [⟨(some 6), .mov (.t 4), none⟩, ⟨(some 3), .mov (.t 6), none⟩])
  (.region [⟨(some 7), .mov (.t 3), none⟩, ⟨(some 8), .mov (.t 3), none⟩, ⟨(some 9), .idxA 16 1 (.t 1) (.t 8), none⟩, ⟨(some 10), .load1 (.t 9), none⟩, ⟨(some 11), .un .neg (.t 10), none⟩, ⟨(some 12), .idxA 16 1 (.t 1) (.t 7), none⟩, ⟨none, .store 1 (.t 12) (.t 11), none⟩])))
  (.region [⟨(some 13), .bin .add .int (.t 4) (.k (.c (.int .i64 1))), none⟩, ⟨(some 4), .mov (.t 13), none⟩]))))
def k81 : KF := ⟨15, (.seq (.region [⟨(some 1), .box 35 (.t 0), none⟩, ⟨(some 2), .alloc 35 [(.int .i8 0), (.int .i8 0), (.int .i8 0), (.int .i8 0), (.int .i8 0), (.int .i8 0), (.int .i8 0), (.int .i8 0), (.int .i8 0), (.int .i8 0), (.int .i8 0), (.int .i8 0), (.int .i8 0), (.int .i8 0), (.int .i8 0), (.int .i8 0)], none⟩])
  (.seq (.seq (.region [⟨(some 4), .mov (.k (.c (.int .i64 0))), none⟩])
  (.block 0 (.loop l81_0)))
  (.seq (.region [⟨(some 14), .loadN 16 (.t 1), none⟩, ⟨none, .store 16 (.t 2) (.t 14), none⟩])
  .ret))), [.cellN 2 16], true⟩
theorem c81 : kk 81 = some k81 := by kernel_rfl
/-- loop.example/g01263/spec.l04Pair -/
def k82 : KF := ⟨24, (.seq (.region [⟨(some 4), .mov (.k (.c (.int .i64 0))), none⟩])
  (.seq (.seq (.region [⟨(some 5), .mov (.t 0), none⟩, ⟨(some 6), .call (.k (.c (.fn 72 []))) [(.t 5)], none⟩, ⟨(some 7), .un .not (.t 6), none⟩, ⟨(some 8), .mov (.t 7), none⟩, ⟨(some 9), .mov (.t 1), some (8, false)⟩, ⟨(some 10), .call (.k (.c (.fn 72 []))) [(.t 9)], some (8, false)⟩, ⟨(some 11), .un .not (.t 10), some (8, false)⟩, ⟨(some 12), .pick (.t 8) (.k (.c (.bool true))) (.t 11), none⟩])
  (.cond (.t 12) (.seq (.region [⟨(some 4), .mov (.k (.c (.int .i64 1))), none⟩])
  .ret) .skip))
  (.seq (.seq (.region [⟨(some 13), .mov (.t 0), none⟩, ⟨(some 14), .nilchk (.t 13), none⟩, ⟨(some 15), .fldA 0 (.t 14), none⟩, ⟨(some 16), .load1 (.t 15), none⟩, ⟨(some 17), .un .not (.t 16), none⟩, ⟨(some 18), .mov (.t 17), none⟩, ⟨(some 19), .mov (.t 1), some (18, false)⟩, ⟨(some 20), .nilchk (.t 19), some (18, false)⟩, ⟨(some 21), .fldA 0 (.t 20), some (18, false)⟩, ⟨(some 22), .load1 (.t 21), some (18, false)⟩, ⟨(some 23), .pick (.t 18) (.k (.c (.bool true))) (.t 22), none⟩])
  (.cond (.t 23) (.seq (.region [⟨(some 4), .mov (.k (.c (.int .i64 4))), none⟩])
  .ret) .skip))
  (.seq (.region [⟨(some 4), .mov (.k (.c (.int .i64 0))), none⟩])
  .ret)))), [.tmp 4], true⟩
theorem c82 : kk 82 = some k82 := by kernel_rfl
/-- loop.example/g01263/spec.l04Lies -/
def k83 : KF := ⟨28, (.seq (.region [⟨(some 4), .mov (.k (.c (.int .i64 0))), none⟩])
  (.seq (.seq (.drawn [(⟨(some 7), .mov (.t 0), none⟩, []), (⟨(some 8), .nilchk (.t 7), none⟩, []), (⟨(some 9), .fldA 1 (.t 8), none⟩, []), (⟨(some 10), .load1 (.t 9), none⟩, []), (⟨(some 11), .mov (.t 1), none⟩, []), (⟨(some 12), .nilchk (.t 11), none⟩, []), (⟨(some 13), .fldA 1 (.t 12), none⟩, []), (⟨(some 14), .load1 (.t 13), none⟩, []), (⟨(some 15), .call (.k (.c (.fn 104 []))) [(.t 10), (.t 14)], none⟩, [])])
  (.cond (.t 15) (.seq (.region [⟨(some 4), .mov (.k (.c (.int .i64 0))), none⟩])
  .ret) .skip))
  (.seq (.region [⟨(some 16), .mov (.t 0), none⟩, ⟨(some 17), .call (.k (.c (.fn 73 []))) [(.t 16)], none⟩, ⟨(some 5), .alloc 25 [(.int .u64 0), (.int .u64 0), (.int .u64 0), (.int .u64 0)], none⟩, ⟨none, .store 4 (.t 5) (.t 17), none⟩])
  (.seq (.region [⟨(some 18), .mov (.t 1), none⟩, ⟨(some 19), .call (.k (.c (.fn 73 []))) [(.t 18)], none⟩, ⟨(some 6), .alloc 25 [(.int .u64 0), (.int .u64 0), (.int .u64 0), (.int .u64 0)], none⟩, ⟨none, .store 4 (.t 6) (.t 19), none⟩])
  (.seq (.block 0 (.seq (.region [⟨(some 21), .loadN 4 (.t 6), none⟩, ⟨(some 22), .loadN 4 (.t 5), none⟩, ⟨(some 23), .call (.k (.c (.fn 15 []))) [(.t 21), (.t 22)], none⟩, ⟨(some 20), .mov (.t 23), none⟩])
  (.cond (.t 20) (.seq (.region [⟨(some 4), .mov (.k (.c (.int .i64 1))), none⟩])
  .ret) (.seq (.region [⟨(some 25), .loadN 4 (.t 5), none⟩, ⟨(some 26), .loadN 4 (.t 6), none⟩, ⟨(some 27), .call (.k (.c (.fn 15 []))) [(.t 25), (.t 26)], none⟩, ⟨(some 24), .mov (.t 27), none⟩])
  (.cond (.t 24) (.seq (.region [⟨(some 4), .mov (.k (.c (.int .i64 2))), none⟩])
  .ret) .skip)))))
  (.seq (.region [⟨(some 4), .mov (.k (.c (.int .i64 3))), none⟩])
  .ret)))))), [.tmp 4], true⟩
theorem c83 : kk 83 = some k83 := by kernel_rfl
/-- loop.example/g01263/impl.pairCode -/
def l84_0 : KC := (.seq (.region [⟨(some 15), .bin .lss .int (.t 14) (.t 13), none⟩])
  (.seq (.cond (.t 15) .skip (.exit 0))
  (.seq (.block 1 (.seq (.region [⟨(some 16), .idxS 18 (.t 12) (.t 14), none⟩, ⟨(some 17), .loadN 18 (.t 16), none⟩, ⟨(some 6), .alloc 60 [(.bool false), (.slice none 0 (.exact 0)), (.int .i8 0), (.int .i8 0), (.int .i8 0), (.int .i8 0), (.int .i8 0), (.int .i8 0), (.int .i8 0), (.int .i8 0), (.int .i8 0), (.int .i8 0), (.int .i8 0), (.int .i8 0), (.int .i8 0), (.int .i8 0), (.int .i8 0), (.int .i8 0)], none⟩, ⟨none, .store 18 (.t 6) (.t 17), none⟩])
  (.seq (.region [⟨(some 18), .loadN 18 (.t 6), none⟩, ⟨(some 19), .call (.k (.c (.fn 75 []))) [(.t 18)], none⟩, ⟨(some 20), .un .not (.t 19), none⟩])
  (.cond (.t 20) (.seq (.region [⟨(some 4), .mov (.k (.c (.int .i64 1))), none⟩])
  .ret) .skip))))
  (.region [⟨(some 21), .bin .add .int (.t 14) (.k (.c (.int .i64 1))), none⟩, ⟨(some 14), .mov (.t 21), none⟩]))))
def l84_1 : KC := (.seq (.region [⟨(some 28), .bin .lss .int (.t 27) (.t 26), none⟩])
  (.seq (.cond (.t 28) .skip (.exit 2))
  (.seq (.block 3 (.seq (.region [⟨(some 29), .idxS 18 (.t 25) (.t 27), none⟩, ⟨(some 30), .loadN 18 (.t 29), none⟩, ⟨(some 8), .alloc 60 [(.bool false), (.slice none 0 (.exact 0)), (.int .i8 0), (.int .i8 0), (.int .i8 0), (.int .i8 0), (.int .i8 0), (.int .i8 0), (.int .i8 0), (.int .i8 0), (.int .i8 0), (.int .i8 0), (.int .i8 0), (.int .i8 0), (.int .i8 0), (.int .i8 0), (.int .i8 0), (.int .i8 0)], none⟩, ⟨none, .store 18 (.t 8) (.t 30), none⟩])
  (.seq (.region [⟨(some 31), .fldA 0 (.t 8), none⟩, ⟨(some 32), .load1 (.t 31), none⟩])
  (.cond (.t 32) (.seq (.region [⟨(some 4), .mov (.k (.c (.int .i64 4))), none⟩])
  .ret) .skip))))
  (.region [⟨(some 33), .bin .add .int (.t 27) (.k (.c (.int .i64 1))), none⟩, ⟨(some 27), .mov (.t 33), none⟩]))))
def k84 : KF := ⟨34, (.seq (.region [⟨(some 2), .box 60 (.t 0), none⟩, ⟨(some 4), .mov (.k (.c (.int .i64 0))), none⟩])
  (.seq (.seq (.region [⟨(some 9), .loadN 18 (.t 2), none⟩, ⟨(some 10), .call (.k (.c (.fn 75 []))) [(.t 9)], none⟩, ⟨(some 11), .un .not (.t 10), none⟩])
  (.cond (.t 11) (.seq (.region [⟨(some 4), .mov (.k (.c (.int .i64 1))), none⟩])
  .ret) .skip))
  (.seq (.seq (.region [⟨(some 12), .mov (.t 1), none⟩, ⟨(some 13), .len false (.t 12), none⟩, ⟨(some 14), .mov (.k (.c (.int .i64 0))), none⟩])
  (.block 0 (.loop l84_0)))
  (.seq (.seq (.region [⟨(some 22), .fldA 0 (.t 2), none⟩, ⟨(some 23), .load1 (.t 22), none⟩, ⟨(some 24), .un .not (.t 23), none⟩])
  (.cond (.t 24) (.seq (.region [⟨(some 4), .mov (.k (.c (.int .i64 4))), none⟩])
  .ret) .skip))
  (.seq (.seq (.region [⟨(some 25), .mov (.t 1), none⟩, ⟨(some 26), .len false (.t 25), none⟩, ⟨(some 27), .mov (.k (.c (.int .i64 0))), none⟩])
  (.block 2 (.loop l84_1)))
  (.seq (.region [⟨(some 4), .mov (.k (.c (.int .i64 0))), none⟩])
  .ret)))))), [.tmp 4], true⟩
theorem c84 : kk 84 = some k84 := by kernel_rfl
/-- loop.example/g01263/impl.lies -/
def k85 : KF := ⟨25, (.seq (.region [⟨(some 2), .box 60 (.t 0), none⟩, ⟨(some 3), .box 60 (.t 1), none⟩, ⟨(some 4), .mov (.k (.c (.int .i64 0))), none⟩])
  (.seq (.drawn [(⟨(some 7), .loadN 18 (.t 2), none⟩, []), (⟨(some 9), .loadN 18 (.t 3), none⟩, []), (⟨(some 8), .call (.k (.c (.fn 76 []))) [(.t 7)], none⟩, [⟨(some 9), .loadN 18 (.t 3), none⟩]), (⟨(some 10), .call (.k (.c (.fn 76 []))) [(.t 9)], none⟩, []), (⟨(some 5), .alloc 25 [(.int .u64 0), (.int .u64 0), (.int .u64 0), (.int .u64 0)], none⟩, [⟨(some 7), .loadN 18 (.t 2), none⟩, ⟨(some 9), .loadN 18 (.t 3), none⟩]), (⟨(some 6), .alloc 25 [(.int .u64 0), (.int .u64 0), (.int .u64 0), (.int .u64 0)], none⟩, [⟨(some 7), .loadN 18 (.t 2), none⟩, ⟨(some 9), .loadN 18 (.t 3), none⟩]), (⟨none, .store 4 (.t 5) (.t 8), none⟩, []), (⟨none, .store 4 (.t 6) (.t 10), none⟩, [])])
  (.seq (.block 0 (.seq (.region [⟨(some 12), .fldA 1 (.t 2), none⟩, ⟨(some 13), .load1 (.t 12), none⟩, ⟨(some 14), .fldA 1 (.t 3), none⟩, ⟨(some 15), .load1 (.t 14), none⟩, ⟨(some 16), .call (.k (.c (.fn 105 []))) [(.t 13), (.t 15)], none⟩, ⟨(some 11), .mov (.t 16), none⟩])
  (.cond (.t 11) (.seq (.region [⟨(some 4), .mov (.k (.c (.int .i64 0))), none⟩])
  .ret) (.seq (.region [⟨(some 18), .loadN 4 (.t 6), none⟩, ⟨(some 19), .loadN 4 (.t 5), none⟩, ⟨(some 20), .call (.k (.c (.fn 17 []))) [(.t 18), (.t 19)], none⟩, ⟨(some 17), .mov (.t 20), none⟩])
  (.cond (.t 17) (.seq (.region [⟨(some 4), .mov (.k (.c (.int .i64 1))), none⟩])
  .ret) (.seq (.region [⟨(some 22), .loadN 4 (.t 5), none⟩, ⟨(some 23), .loadN 4 (.t 6), none⟩, ⟨(some 24), .call (.k (.c (.fn 17 []))) [(.t 22), (.t 23)], none⟩, ⟨(some 21), .mov (.t 24), none⟩])
  (.cond (.t 21) (.seq (.region [⟨(some 4), .mov (.k (.c (.int .i64 2))), none⟩])
  .ret) .skip)))))))
  (.seq (.region [⟨(some 4), .mov (.k (.c (.int .i64 3))), none⟩])
  .ret)))), [.tmp 4], true⟩
theorem c85 : kk 85 = some k85 := by kernel_rfl
/-- loop.example/g01263/spec.l04Foils -/
def l86_0 : KC := (.seq (.seq (.region [⟨(some 10), .mov (.t 6), none⟩, ⟨(some 11), .mov (.t 1), none⟩, ⟨(some 12), .len false (.t 11), none⟩, ⟨(some 13), .bin .lss .int (.t 10) (.t 12), none⟩, ⟨(some 14), .mov (.t 13), none⟩, ⟨(some 15), .mov (.t 5), some (14, true)⟩, ⟨(some 16), .pick (.t 14) (.t 15) (.k (.c (.bool false))), none⟩])
  (.cond (.t 16) .skip (.exit 0)))
  (.seq (.block 1 (.region [⟨(some 19), .mov (.t 1), none⟩, ⟨(some 20), .mov (.t 6), none⟩, ⟨(some 21), .idxS 18 (.t 19) (.t 20), none⟩, ⟨(some 22), .call (.k (.c (.fn 72 []))) [(.t 21)], none⟩, ⟨(some 5), .mov (.t 22), none⟩]))
  (.region [⟨(some 17), .mov (.t 6), none⟩, ⟨(some 18), .bin .add .int (.t 17) (.k (.c (.int .i64 1))), none⟩, ⟨(some 6), .mov (.t 18), none⟩])))
def l86_1 : KC := (.seq (.seq (.region [⟨(some 29), .mov (.t 7), none⟩, ⟨(some 30), .mov (.t 1), none⟩, ⟨(some 31), .len false (.t 30), none⟩, ⟨(some 32), .bin .lss .int (.t 29) (.t 31), none⟩, ⟨(some 33), .mov (.t 32), none⟩, ⟨(some 34), .mov (.t 5), some (33, true)⟩, ⟨(some 35), .pick (.t 33) (.t 34) (.k (.c (.bool false))), none⟩])
  (.cond (.t 35) .skip (.exit 2)))
  (.seq (.block 3 (.region [⟨(some 38), .mov (.t 1), none⟩, ⟨(some 39), .mov (.t 7), none⟩, ⟨(some 40), .idxS 18 (.t 38) (.t 39), none⟩, ⟨(some 41), .fldA 0 (.t 40), none⟩, ⟨(some 42), .load1 (.t 41), none⟩, ⟨(some 43), .un .not (.t 42), none⟩, ⟨(some 5), .mov (.t 43), none⟩]))
  (.region [⟨(some 36), .mov (.t 7), none⟩, ⟨(some 37), .bin .add .int (.t 36) (.k (.c (.int .i64 1))), none⟩, ⟨(some 7), .mov (.t 37), none⟩])))
def k86 : KF := ⟨49, (.seq (.region [⟨(some 4), .mov (.k (.c (.int .i64 0))), none⟩])
  (.seq (.region [⟨(some 8), .mov (.t 0), none⟩, ⟨(some 9), .call (.k (.c (.fn 72 []))) [(.t 8)], none⟩, ⟨(some 5), .mov (.t 9), none⟩])
  (.seq (.seq (.region [⟨(some 6), .mov (.k (.c (.int .i64 0))), none⟩])
  (.block 0 (.loop l86_0)))
  (.seq (.seq (.region [⟨(some 23), .mov (.t 5), none⟩, ⟨(some 24), .un .not (.t 23), none⟩])
  (.cond (.t 24) (.seq (.region [⟨(some 4), .mov (.k (.c (.int .i64 1))), none⟩])
  .ret) .skip))
  (.seq (.region [⟨(some 25), .mov (.t 0), none⟩, ⟨(some 26), .nilchk (.t 25), none⟩, ⟨(some 27), .fldA 0 (.t 26), none⟩, ⟨(some 28), .load1 (.t 27), none⟩, ⟨(some 5), .mov (.t 28), none⟩])
  (.seq (.seq (.region [⟨(some 7), .mov (.k (.c (.int .i64 0))), none⟩])
  (.block 2 (.loop l86_1)))
  (.seq (.seq (.region [⟨(some 44), .mov (.t 5), none⟩, ⟨(some 45), .un .not (.t 44), none⟩])
  (.cond (.t 45) (.seq (.region [⟨(some 4), .mov (.k (.c (.int .i64 4))), none⟩])
  .ret) .skip))
  (.seq (.seq (.region [⟨(some 46), .mov (.t 1), none⟩, ⟨(some 47), .len false (.t 46), none⟩, ⟨(some 48), .bin .gtr .int (.t 47) (.k (.c (.int .i64 40))), none⟩])
  (.cond (.t 48) (.seq (.region [⟨(some 4), .mov (.k (.c (.int .i64 2))), none⟩])
  .ret) .skip))
  (.seq (.region [⟨(some 4), .mov (.k (.c (.int .i64 0))), none⟩])
  .ret))))))))), [.tmp 4], true⟩
theorem c86 : kk 86 = some k86 := by kernel_rfl
/-- loop.example/g01263/spec.l04Fits -/
def k87 : KF := ⟨28, (.seq (.region [⟨(some 6), .mov (.k (.c (.bool false))), none⟩])
  (.seq (.drawn [(⟨(some 7), .mov (.t 0), none⟩, []), (⟨(some 8), .nilchk (.t 7), none⟩, []), (⟨(some 9), .fldA 1 (.t 8), none⟩, []), (⟨(some 10), .load1 (.t 9), none⟩, []), (⟨(some 11), .mov (.t 1), none⟩, []), (⟨(some 12), .nilchk (.t 11), none⟩, []), (⟨(some 13), .fldA 1 (.t 12), none⟩, []), (⟨(some 14), .load1 (.t 13), none⟩, []), (⟨(some 15), .call (.k (.c (.fn 104 []))) [(.t 10), (.t 14)], none⟩, []), (⟨(some 16), .mov (.t 15), none⟩, []), (⟨(some 17), .mov (.t 0), some (16, true)⟩, []), (⟨(some 18), .nilchk (.t 17), some (16, true)⟩, []), (⟨(some 19), .fldA 2 (.t 18), some (16, true)⟩, []), (⟨(some 20), .loadN 16 (.t 19), some (16, true)⟩, []), (⟨(some 21), .mov (.t 1), some (16, true)⟩, []), (⟨(some 22), .nilchk (.t 21), some (16, true)⟩, []), (⟨(some 23), .fldA 2 (.t 22), some (16, true)⟩, []), (⟨(some 24), .loadN 16 (.t 23), some (16, true)⟩, []), (⟨(some 25), .mov (.t 2), some (16, true)⟩, []), (⟨(some 26), .call (.k (.c (.fn 106 []))) [(.t 20), (.t 24), (.t 25)], some (16, true)⟩, []), (⟨(some 27), .pick (.t 16) (.t 26) (.k (.c (.bool false))), none⟩, []), (⟨(some 6), .mov (.t 27), none⟩, [])])
  .ret)), [.tmp 6], true⟩
theorem c87 : kk 87 = some k87 := by kernel_rfl
/-- loop.example/g01263/impl.isWear -/
def k88 : KF := ⟨9, (.seq (.region [⟨(some 2), .mov (.k (.c (.bool false))), none⟩])
  (.seq (.region [⟨(some 3), .mov (.t 0), none⟩, ⟨(some 4), .bin .geq .int (.t 3) (.k (.c (.int .i64 0))), none⟩, ⟨(some 5), .mov (.t 4), none⟩, ⟨(some 6), .mov (.t 0), some (5, true)⟩, ⟨(some 7), .bin .leq .int (.t 6) (.k (.c (.int .i64 16))), some (5, true)⟩, ⟨(some 8), .pick (.t 5) (.t 7) (.k (.c (.bool false))), none⟩, ⟨(some 2), .mov (.t 8), none⟩])
  .ret)), [.tmp 2], true⟩
theorem c88 : kk 88 = some k88 := by kernel_rfl
/-- loop.example/g01263/impl.fits -/
def k89 : KF := ⟨20, (.seq (.region [⟨(some 3), .box 60 (.t 0), none⟩, ⟨(some 4), .box 60 (.t 1), none⟩, ⟨(some 6), .mov (.k (.c (.bool false))), none⟩])
  (.seq (.region [⟨(some 7), .fldA 1 (.t 3), none⟩, ⟨(some 8), .load1 (.t 7), none⟩, ⟨(some 9), .fldA 1 (.t 4), none⟩, ⟨(some 10), .load1 (.t 9), none⟩, ⟨(some 11), .call (.k (.c (.fn 105 []))) [(.t 8), (.t 10)], none⟩, ⟨(some 12), .mov (.t 11), none⟩, ⟨(some 13), .fldA 2 (.t 3), some (12, true)⟩, ⟨(some 14), .loadN 16 (.t 13), some (12, true)⟩, ⟨(some 15), .fldA 2 (.t 4), some (12, true)⟩, ⟨(some 16), .loadN 16 (.t 15), some (12, true)⟩, ⟨(some 17), .mov (.t 2), some (12, true)⟩, ⟨(some 18), .call (.k (.c (.fn 107 []))) [(.t 14), (.t 16), (.t 17)], some (12, true)⟩, ⟨(some 19), .pick (.t 12) (.t 18) (.k (.c (.bool false))), none⟩, ⟨(some 6), .mov (.t 19), none⟩])
  .ret)), [.tmp 6], true⟩
theorem c89 : kk 89 = some k89 := by kernel_rfl
/-- loop.example/g01263/spec.MisfitsOf -/
def l90_0 : KC := (.seq (.seq (.region [⟨(some 25), .mov (.t 11), none⟩, ⟨(some 26), .mov (.t 9), none⟩, ⟨(some 27), .len false (.t 26), none⟩, ⟨(some 28), .bin .lss .int (.t 25) (.t 27), none⟩, ⟨(some 29), .mov (.t 28), none⟩, ⟨(some 30), .mov (.t 11), some (29, false)⟩, ⟨(some 31), .mov (.t 10), some (29, false)⟩, ⟨(some 32), .len false (.t 31), some (29, false)⟩, ⟨(some 33), .bin .lss .int (.t 30) (.t 32), some (29, false)⟩, ⟨(some 34), .pick (.t 29) (.k (.c (.bool true))) (.t 33), none⟩])
  (.cond (.t 34) .skip (.exit 0)))
  (.seq (.block 1 (.seq (.drawn [(⟨(some 37), .mov (.t 11), none⟩, []), (⟨(some 38), .mov (.t 9), none⟩, []), (⟨(some 39), .len false (.t 38), none⟩, []), (⟨(some 40), .bin .geq .int (.t 37) (.t 39), none⟩, []), (⟨(some 41), .mov (.t 40), none⟩, []), (⟨(some 42), .mov (.t 11), some (41, false)⟩, []), (⟨(some 43), .mov (.t 10), some (41, false)⟩, []), (⟨(some 44), .len false (.t 43), some (41, false)⟩, []), (⟨(some 45), .bin .geq .int (.t 42) (.t 44), some (41, false)⟩, []), (⟨(some 46), .pick (.t 41) (.k (.c (.bool true))) (.t 45), none⟩, []), (⟨(some 47), .mov (.t 46), none⟩, []), (⟨(some 48), .mov (.t 9), some (47, false)⟩, []), (⟨(some 49), .mov (.t 11), some (47, false)⟩, []), (⟨(some 50), .idxS 2 (.t 48) (.t 49), some (47, false)⟩, []), (⟨(some 51), .loadN 2 (.t 50), some (47, false)⟩, []), (⟨(some 52), .mov (.t 10), some (47, false)⟩, []), (⟨(some 53), .mov (.t 11), some (47, false)⟩, []), (⟨(some 54), .idxS 2 (.t 52) (.t 53), some (47, false)⟩, []), (⟨(some 55), .loadN 2 (.t 54), some (47, false)⟩, []), (⟨(some 56), .bin .neq (.agg [.int, .int]) (.t 51) (.t 55), some (47, false)⟩, []), (⟨(some 57), .pick (.t 47) (.k (.c (.bool true))) (.t 56), none⟩, [])])
  (.cond (.t 57) (.region [⟨(some 58), .mov (.t 8), none⟩, ⟨(some 59), .mov (.t 11), none⟩, ⟨(some 60), .buildSl 2 1 [(.int .i64 0)] [(0, 1, (.t 59))], none⟩, ⟨(some 61), .app 2 1 8 (.t 58) (.t 60), none⟩, ⟨(some 8), .mov (.t 61), none⟩]) .skip)))
  (.region [⟨(some 35), .mov (.t 11), none⟩, ⟨(some 36), .bin .add .int (.t 35) (.k (.c (.int .i64 1))), none⟩, ⟨(some 11), .mov (.t 36), none⟩])))
def l90_1 : KC := (.seq (.seq (.region [⟨(some 63), .mov (.t 13), none⟩, ⟨(some 64), .bin .lss .int (.t 63) (.k (.c (.int .i64 16))), none⟩])
  (.cond (.t 64) .skip (.exit 2)))
  (.seq (.block 3 (.seq (.drawn [(⟨(some 67), .mov (.t 13), none⟩, []), (⟨(some 68), .fldA 2 (.t 2), none⟩, []), (⟨(some 69), .idxA 16 1 (.t 68) (.t 67), none⟩, []), (⟨(some 70), .load1 (.t 69), none⟩, []), (⟨(some 71), .mov (.t 13), none⟩, []), (⟨(some 72), .fldA 2 (.t 3), none⟩, []), (⟨(some 73), .idxA 16 1 (.t 72) (.t 71), none⟩, []), (⟨(some 74), .load1 (.t 73), none⟩, []), (⟨(some 75), .bin .add .int (.t 70) (.t 74), none⟩, []), (⟨(some 76), .bin .neq .int (.t 75) (.k (.c (.int .i8 0))), none⟩, [])])
  (.cond (.t 76) (.region [⟨(some 77), .mov (.t 12), none⟩, ⟨(some 78), .mov (.t 13), none⟩, ⟨(some 79), .buildSl 2 1 [(.int .i64 0)] [(0, 1, (.t 78))], none⟩, ⟨(some 80), .app 2 1 8 (.t 77) (.t 79), none⟩, ⟨(some 12), .mov (.t 80), none⟩]) .skip)))
  (.region [⟨(some 65), .mov (.t 13), none⟩, ⟨(some 66), .bin .add .int (.t 65) (.k (.c (.int .i64 1))), none⟩, ⟨(some 13), .mov (.t 66), none⟩])))
def k90 : KF := ⟨83, (.seq (.region [⟨(some 2), .box 60 (.t 0), none⟩, ⟨(some 3), .box 60 (.t 1), none⟩, ⟨(some 4), .mov (.k (.c (.slice none 0 (.exact 0)))), none⟩, ⟨(some 5), .mov (.k (.c (.slice none 0 (.exact 0)))), none⟩, ⟨(some 6), .mov (.k (.c (.int .i64 0))), none⟩])
  (.seq (.seq (.region [⟨(some 14), .call (.k (.c (.fn 108 []))) [(.t 2), (.t 3), (.k (.c (.int .i64 0)))], none⟩, ⟨(some 7), .mov (.t 14), none⟩])
  (.seq (.region [⟨(some 15), .mov (.t 7), none⟩, ⟨(some 16), .bin .neq .int (.t 15) (.k (.c (.int .i64 0))), none⟩])
  (.cond (.t 16) (.seq (.region [⟨(some 17), .buildSl 2 0 [] [], none⟩, ⟨(some 18), .buildSl 2 0 [] [], none⟩, ⟨(some 19), .mov (.t 7), none⟩, ⟨(some 4), .mov (.t 17), none⟩, ⟨(some 5), .mov (.t 18), none⟩, ⟨(some 6), .mov (.t 19), none⟩])
  .ret) .skip)))
  (.seq (.region [⟨(some 20), .buildSl 2 0 [] [], none⟩, ⟨(some 8), .mov (.t 20), none⟩])
  (.seq (.region [⟨(some 21), .fldA 1 (.t 2), none⟩, ⟨(some 22), .load1 (.t 21), none⟩, ⟨(some 9), .mov (.t 22), none⟩])
  (.seq (.region [⟨(some 23), .fldA 1 (.t 3), none⟩, ⟨(some 24), .load1 (.t 23), none⟩, ⟨(some 10), .mov (.t 24), none⟩])
  (.seq (.seq (.region [⟨(some 11), .mov (.k (.c (.int .i64 0))), none⟩])
  (.block 0 (.loop l90_0)))
  (.seq (.region [⟨(some 62), .buildSl 2 0 [] [], none⟩, ⟨(some 12), .mov (.t 62), none⟩])
  (.seq (.seq (.region [⟨(some 13), .mov (.k (.c (.int .i64 0))), none⟩])
  (.block 2 (.loop l90_1)))
  (.seq (.region [⟨(some 81), .mov (.t 8), none⟩, ⟨(some 82), .mov (.t 12), none⟩, ⟨(some 4), .mov (.t 81), none⟩, ⟨(some 5), .mov (.t 82), none⟩, ⟨(some 6), .mov (.k (.c (.int .i64 0))), none⟩])
  .ret))))))))), [.tmp 4, .tmp 5, .tmp 6], false⟩
theorem c90 : kk 90 = some k90 := by kernel_rfl
/-- loop.example/g01263/impl.misfits -/
def l91_0 : KC := (.seq (.region [⟨(some 20), .bin .lss .int (.t 19) (.t 18), none⟩])
  (.seq (.cond (.t 20) .skip (.exit 0))
  (.seq (.block 1 (.seq (.region [⟨(some 21), .mov (.t 19), none⟩, ⟨(some 8), .mov (.t 21), none⟩])
  (.seq (.drawn [(⟨(some 22), .mov (.t 8), none⟩, []), (⟨(some 23), .mov (.t 6), none⟩, []), (⟨(some 24), .len false (.t 23), none⟩, []), (⟨(some 25), .bin .geq .int (.t 22) (.t 24), none⟩, []), (⟨(some 26), .mov (.t 25), none⟩, []), (⟨(some 27), .mov (.t 8), some (26, false)⟩, []), (⟨(some 28), .mov (.t 7), some (26, false)⟩, []), (⟨(some 29), .len false (.t 28), some (26, false)⟩, []), (⟨(some 30), .bin .geq .int (.t 27) (.t 29), some (26, false)⟩, []), (⟨(some 31), .pick (.t 26) (.k (.c (.bool true))) (.t 30), none⟩, []), (⟨(some 32), .mov (.t 31), none⟩, []), (⟨(some 33), .mov (.t 6), some (32, false)⟩, []), (⟨(some 34), .mov (.t 8), some (32, false)⟩, []), (⟨(some 35), .idxS 2 (.t 33) (.t 34), some (32, false)⟩, []), (⟨(some 36), .loadN 2 (.t 35), some (32, false)⟩, []), (⟨(some 37), .mov (.t 7), some (32, false)⟩, []), (⟨(some 38), .mov (.t 8), some (32, false)⟩, []), (⟨(some 39), .idxS 2 (.t 37) (.t 38), some (32, false)⟩, []), (⟨(some 40), .loadN 2 (.t 39), some (32, false)⟩, []), (⟨(some 41), .bin .neq (.agg [.int, .int]) (.t 36) (.t 40), some (32, false)⟩, []), (⟨(some 42), .pick (.t 32) (.k (.c (.bool true))) (.t 41), none⟩, [])])
  (.cond (.t 42) (.region [⟨(some 43), .mov (.t 5), none⟩, ⟨(some 44), .mov (.t 8), none⟩, ⟨(some 45), .buildSl 2 1 [(.int .i64 0)] [(0, 1, (.t 44))], none⟩, ⟨(some 46), .app 2 1 8 (.t 43) (.t 45), none⟩, ⟨(some 5), .mov (.t 46), none⟩]) .skip))))
  (.region [⟨(some 47), .bin .add .int (.t 19) (.k (.c (.int .i64 1))), none⟩, ⟨(some 19), .mov (.t 47), none⟩]))))
def k91 : KF := ⟨49, (.seq (.region [⟨(some 2), .box 60 (.t 0), none⟩, ⟨(some 3), .box 60 (.t 1), none⟩, ⟨(some 4), .mov (.k (.c (.slice none 0 (.exact 0)))), none⟩])
  (.seq (.region [⟨(some 9), .buildSl 2 0 [] [], none⟩, ⟨(some 5), .mov (.t 9), none⟩])
  (.seq (.drawn [(⟨(some 10), .fldA 1 (.t 2), none⟩, []), (⟨(some 11), .load1 (.t 10), none⟩, []), (⟨(some 12), .fldA 1 (.t 3), none⟩, []), (⟨(some 13), .load1 (.t 12), none⟩, []), (⟨(some 6), .mov (.t 11), none⟩, []), (⟨(some 7), .mov (.t 13), none⟩, [])])
  (.seq (.seq (.region [⟨(some 14), .mov (.t 6), none⟩, ⟨(some 15), .len false (.t 14), none⟩, ⟨(some 16), .mov (.t 7), none⟩, ⟨(some 17), .len false (.t 16), none⟩, ⟨(some 18), .max [(.t 15), (.t 17)], none⟩, ⟨(some 19), .mov (.k (.c (.int .i64 0))), none⟩])
  (.block 0 (.loop l91_0)))
  (.seq (.region [⟨(some 48), .mov (.t 5), none⟩, ⟨(some 4), .mov (.t 48), none⟩])
  .ret))))), [.tmp 4], false⟩
theorem c91 : kk 91 = some k91 := by kernel_rfl
/-- loop.example/g01263/spec.l01Sum -/
def l92_0 : KC := (.seq (.seq (.region [⟨(some 5), .mov (.t 4), none⟩, ⟨(some 6), .mov (.t 0), none⟩, ⟨(some 7), .len false (.t 6), none⟩, ⟨(some 8), .bin .lss .int (.t 5) (.t 7), none⟩])
  (.cond (.t 8) .skip (.exit 0)))
  (.seq (.block 1 (.drawn [(⟨(some 11), .mov (.t 3), none⟩, []), (⟨(some 13), .mov (.t 0), none⟩, []), (⟨(some 14), .mov (.t 4), none⟩, []), (⟨(some 15), .idxS 2 (.t 13) (.t 14), none⟩, []), (⟨(some 16), .fldA 0 (.t 15), none⟩, []), (⟨(some 17), .load1 (.t 16), none⟩, []), (⟨(some 12), .call (.k (.c (.fn 109 []))) [], none⟩, [⟨(some 17), .load1 (.t 16), none⟩]), (⟨(some 18), .idxS 1 (.t 12) (.t 17), none⟩, []), (⟨(some 19), .load1 (.t 18), none⟩, []), (⟨(some 20), .bin .add .int (.t 11) (.t 19), none⟩, []), (⟨(some 3), .mov (.t 20), none⟩, [])]))
  (.region [⟨(some 9), .mov (.t 4), none⟩, ⟨(some 10), .bin .add .int (.t 9) (.k (.c (.int .i64 1))), none⟩, ⟨(some 4), .mov (.t 10), none⟩])))
def k92 : KF := ⟨22, (.seq (.region [⟨(some 2), .mov (.k (.c (.int .i64 0))), none⟩])
  (.seq (.region [⟨(some 3), .mov (.k (.c (.int .i64 0))), none⟩])
  (.seq (.seq (.region [⟨(some 4), .mov (.k (.c (.int .i64 0))), none⟩])
  (.block 0 (.loop l92_0)))
  (.seq (.region [⟨(some 21), .mov (.t 3), none⟩, ⟨(some 2), .mov (.t 21), none⟩])
  .ret)))), [.tmp 2], true⟩
theorem c92 : kk 92 = some k92 := by kernel_rfl
/-- loop.example/g01263/impl.amountOf -/
def l93_0 : KC := (.seq (.region [⟨(some 10), .bin .lss .int (.t 9) (.t 8), none⟩])
  (.seq (.cond (.t 10) .skip (.exit 0))
  (.seq (.block 1 (.seq (.region [⟨(some 11), .idxS 2 (.t 7) (.t 9), none⟩, ⟨(some 12), .loadN 2 (.t 11), none⟩, ⟨(some 5), .alloc 122 [(.int .i8 0), (.int .i16 0)], none⟩, ⟨none, .store 2 (.t 5) (.t 12), none⟩])
  (.region [⟨(some 13), .mov (.t 3), none⟩, ⟨(some 14), .fldA 0 (.t 5), none⟩, ⟨(some 15), .load1 (.t 14), none⟩, ⟨(some 16), .conv .i64 (.t 15), none⟩, ⟨(some 17), .call (.k (.c (.fn 110 []))) [(.t 16)], none⟩, ⟨(some 18), .bin .add .int (.t 13) (.t 17), none⟩, ⟨(some 3), .mov (.t 18), none⟩])))
  (.region [⟨(some 19), .bin .add .int (.t 9) (.k (.c (.int .i64 1))), none⟩, ⟨(some 9), .mov (.t 19), none⟩]))))
def k93 : KF := ⟨21, (.seq (.region [⟨(some 1), .box 60 (.t 0), none⟩, ⟨(some 2), .mov (.k (.c (.int .i64 0))), none⟩])
  (.seq (.region [⟨(some 3), .mov (.k (.c (.int .i64 0))), none⟩])
  (.seq (.seq (.region [⟨(some 6), .fldA 1 (.t 1), none⟩, ⟨(some 7), .load1 (.t 6), none⟩, ⟨(some 8), .len false (.t 7), none⟩, ⟨(some 9), .mov (.k (.c (.int .i64 0))), none⟩])
  (.block 0 (.loop l93_0)))
  (.seq (.region [⟨(some 20), .mov (.t 3), none⟩, ⟨(some 2), .mov (.t 20), none⟩])
  .ret)))), [.tmp 2], true⟩
theorem c93 : kk 93 = some k93 := by kernel_rfl
/-- loop.example/g01263/spec.l01Notches -/
def l94_0 : KC := (.seq (.seq (.region [⟨(some 8), .mov (.t 3), none⟩, ⟨(some 9), .mov (.t 0), none⟩, ⟨(some 10), .len false (.t 9), none⟩, ⟨(some 11), .bin .lss .int (.t 8) (.t 10), none⟩])
  (.cond (.t 11) .skip (.exit 0)))
  (.seq (.block 1 (.seq (.region [⟨(some 14), .mov (.t 0), none⟩, ⟨(some 15), .mov (.t 3), none⟩, ⟨(some 16), .idxS 2 (.t 14) (.t 15), none⟩, ⟨(some 17), .loadN 2 (.t 16), none⟩, ⟨(some 4), .alloc 122 [(.int .i8 0), (.int .i16 0)], none⟩, ⟨none, .store 2 (.t 4) (.t 17), none⟩])
  (.seq (.seq (.region [⟨(some 18), .fldA 0 (.t 4), none⟩, ⟨(some 19), .load1 (.t 18), none⟩, ⟨(some 20), .conv .i64 (.t 19), none⟩, ⟨(some 21), .call (.k (.c (.fn 111 []))) [(.t 20)], none⟩, ⟨(some 22), .un .not (.t 21), none⟩, ⟨(some 23), .mov (.t 22), none⟩, ⟨(some 24), .fldA 1 (.t 4), some (23, false)⟩, ⟨(some 25), .load1 (.t 24), some (23, false)⟩, ⟨(some 26), .bin .lss .int (.t 25) (.k (.c (.int .i16 0))), some (23, false)⟩, ⟨(some 27), .pick (.t 23) (.k (.c (.bool true))) (.t 26), none⟩, ⟨(some 28), .mov (.t 27), none⟩, ⟨(some 29), .loadN 2 (.t 4), some (28, false)⟩, ⟨(some 30), .call (.k (.c (.fn 95 []))) [(.t 29)], some (28, false)⟩, ⟨(some 31), .bin .gtr .int (.t 30) (.k (.c (.int .i64 200))), some (28, false)⟩, ⟨(some 32), .pick (.t 28) (.k (.c (.bool true))) (.t 31), none⟩])
  (.cond (.t 32) (.seq (.region [⟨(some 2), .mov (.k (.c (.bool false))), none⟩])
  .ret) .skip))
  (.seq (.drawn [(⟨(some 33), .mov (.t 3), none⟩, []), (⟨(some 34), .bin .gtr .int (.t 33) (.k (.c (.int .i64 0))), none⟩, []), (⟨(some 35), .mov (.t 34), none⟩, []), (⟨(some 36), .fldA 0 (.t 4), some (35, true)⟩, []), (⟨(some 37), .load1 (.t 36), some (35, true)⟩, []), (⟨(some 38), .mov (.t 0), some (35, true)⟩, []), (⟨(some 39), .mov (.t 3), some (35, true)⟩, []), (⟨(some 40), .bin .sub .int (.t 39) (.k (.c (.int .i64 1))), some (35, true)⟩, []), (⟨(some 41), .idxS 2 (.t 38) (.t 40), some (35, true)⟩, []), (⟨(some 42), .fldA 0 (.t 41), some (35, true)⟩, []), (⟨(some 43), .load1 (.t 42), some (35, true)⟩, []), (⟨(some 44), .bin .gtr .int (.t 37) (.t 43), some (35, true)⟩, []), (⟨(some 45), .mov (.t 44), some (35, true)⟩, []), (⟨(some 46), .fldA 1 (.t 4), some (45, false)⟩, []), (⟨(some 47), .load1 (.t 46), some (45, false)⟩, []), (⟨(some 48), .conv .i64 (.t 47), some (45, false)⟩, []), (⟨(some 49), .mov (.t 0), some (45, false)⟩, []), (⟨(some 50), .mov (.t 3), some (45, false)⟩, []), (⟨(some 51), .bin .sub .int (.t 50) (.k (.c (.int .i64 1))), some (45, false)⟩, []), (⟨(some 52), .idxS 2 (.t 49) (.t 51), some (45, false)⟩, []), (⟨(some 53), .loadN 2 (.t 52), some (45, false)⟩, []), (⟨(some 54), .call (.k (.c (.fn 95 []))) [(.t 53)], some (45, false)⟩, [⟨(some 47), .load1 (.t 46), some (45, false)⟩]), (⟨(some 55), .bin .leq .int (.t 48) (.t 54), some (45, false)⟩, []), (⟨(some 56), .pick (.t 45) (.k (.c (.bool true))) (.t 55), some (35, true)⟩, []), (⟨(some 57), .pick (.t 35) (.t 56) (.k (.c (.bool false))), none⟩, [])])
  (.cond (.t 57) (.seq (.region [⟨(some 2), .mov (.k (.c (.bool false))), none⟩])
  .ret) .skip)))))
  (.region [⟨(some 12), .mov (.t 3), none⟩, ⟨(some 13), .bin .add .int (.t 12) (.k (.c (.int .i64 1))), none⟩, ⟨(some 3), .mov (.t 13), none⟩])))
def k94 : KF := ⟨58, (.seq (.region [⟨(some 2), .mov (.k (.c (.bool false))), none⟩])
  (.seq (.seq (.region [⟨(some 5), .mov (.t 0), none⟩, ⟨(some 6), .len false (.t 5), none⟩, ⟨(some 7), .bin .gtr .int (.t 6) (.k (.c (.int .i64 60))), none⟩])
  (.cond (.t 7) (.seq (.region [⟨(some 2), .mov (.k (.c (.bool false))), none⟩])
  .ret) .skip))
  (.seq (.seq (.region [⟨(some 3), .mov (.k (.c (.int .i64 0))), none⟩])
  (.block 0 (.loop l94_0)))
  (.seq (.region [⟨(some 2), .mov (.k (.c (.bool true))), none⟩])
  .ret)))), [.tmp 2], true⟩
theorem c94 : kk 94 = some k94 := by kernel_rfl
/-- loop.example/g01263/spec.l01Ends -/
def k95 : KF := ⟨12, (.seq (.region [⟨(some 1), .box 122 (.t 0), none⟩, ⟨(some 2), .mov (.k (.c (.int .i64 0))), none⟩])
  (.seq (.drawn [(⟨(some 3), .fldA 1 (.t 1), none⟩, []), (⟨(some 4), .load1 (.t 3), none⟩, []), (⟨(some 5), .conv .i64 (.t 4), none⟩, []), (⟨(some 7), .fldA 0 (.t 1), none⟩, []), (⟨(some 8), .load1 (.t 7), none⟩, []), (⟨(some 6), .call (.k (.c (.fn 102 []))) [], none⟩, [⟨(some 4), .load1 (.t 3), none⟩, ⟨(some 8), .load1 (.t 7), none⟩]), (⟨(some 9), .idxS 1 (.t 6) (.t 8), none⟩, []), (⟨(some 10), .load1 (.t 9), none⟩, []), (⟨(some 11), .bin .add .int (.t 5) (.t 10), none⟩, []), (⟨(some 2), .mov (.t 11), none⟩, [])])
  .ret)), [.tmp 2], true⟩
theorem c95 : kk 95 = some k95 := by kernel_rfl
/-- loop.example/g01263/laws.toNotch -/
def k96 : KF := ⟨11, (.seq (.region [⟨(some 1), .box 125 (.t 0), none⟩, ⟨(some 2), .alloc 122 [(.int .i8 0), (.int .i16 0)], none⟩])
  (.seq (.region [⟨(some 3), .alloc 122 [(.int .i8 0), (.int .i16 0)], none⟩])
  (.seq (.region [⟨(some 4), .fldA 0 (.t 1), none⟩, ⟨(some 5), .load1 (.t 4), none⟩, ⟨(some 6), .fldA 0 (.t 3), none⟩, ⟨none, .store 1 (.t 6) (.t 5), none⟩])
  (.seq (.region [⟨(some 7), .fldA 1 (.t 1), none⟩, ⟨(some 8), .load1 (.t 7), none⟩, ⟨(some 9), .fldA 1 (.t 3), none⟩, ⟨none, .store 1 (.t 9) (.t 8), none⟩])
  (.seq (.region [⟨(some 10), .loadN 2 (.t 3), none⟩, ⟨none, .store 2 (.t 2) (.t 10), none⟩])
  .ret))))), [.cellN 2 2], true⟩
theorem c96 : kk 96 = some k96 := by kernel_rfl
/-- loop.example/g01263/impl.isKind -/
def k97 : KF := ⟨9, (.seq (.region [⟨(some 2), .mov (.k (.c (.bool false))), none⟩])
  (.seq (.region [⟨(some 3), .mov (.t 0), none⟩, ⟨(some 4), .bin .geq .int (.t 3) (.k (.c (.int .i64 0))), none⟩, ⟨(some 5), .mov (.t 4), none⟩, ⟨(some 6), .mov (.t 0), some (5, true)⟩, ⟨(some 7), .bin .leq .int (.t 6) (.k (.c (.int .i64 5))), some (5, true)⟩, ⟨(some 8), .pick (.t 5) (.t 7) (.k (.c (.bool false))), none⟩, ⟨(some 2), .mov (.t 8), none⟩])
  .ret)), [.tmp 2], true⟩
theorem c97 : kk 97 = some k97 := by kernel_rfl
/-- (loop.example/g01263/impl.Notch).end -/
def k98 : KF := ⟨11, (.seq (.region [⟨(some 1), .box 122 (.t 0), none⟩, ⟨(some 2), .mov (.k (.c (.int .i64 0))), none⟩])
  (.seq (.drawn [(⟨(some 3), .fldA 1 (.t 1), none⟩, []), (⟨(some 4), .load1 (.t 3), none⟩, []), (⟨(some 5), .conv .i64 (.t 4), none⟩, []), (⟨(some 6), .fldA 0 (.t 1), none⟩, []), (⟨(some 7), .load1 (.t 6), none⟩, []), (⟨(some 8), .conv .i64 (.t 7), none⟩, []), (⟨(some 9), .call (.k (.c (.fn 112 []))) [(.t 8)], none⟩, [⟨(some 4), .load1 (.t 3), none⟩]), (⟨(some 10), .bin .add .int (.t 5) (.t 9), none⟩, []), (⟨(some 2), .mov (.t 10), none⟩, [])])
  .ret)), [.tmp 2], true⟩
theorem c98 : kk 98 = some k98 := by kernel_rfl
/-- loop.example/g01263/laws.eqNotch -/
def k99 : KF := ⟨15, (.seq (.region [⟨(some 2), .box 122 (.t 0), none⟩, ⟨(some 3), .box 122 (.t 1), none⟩, ⟨(some 4), .mov (.k (.c (.bool false))), none⟩])
  (.seq (.seq (.region [⟨(some 5), .fldA 0 (.t 2), none⟩, ⟨(some 6), .load1 (.t 5), none⟩, ⟨(some 7), .fldA 0 (.t 3), none⟩, ⟨(some 8), .load1 (.t 7), none⟩, ⟨(some 9), .bin .neq .int (.t 6) (.t 8), none⟩])
  (.cond (.t 9) (.seq (.region [⟨(some 4), .mov (.k (.c (.bool false))), none⟩])
  .ret) .skip))
  (.seq (.seq (.region [⟨(some 10), .fldA 1 (.t 2), none⟩, ⟨(some 11), .load1 (.t 10), none⟩, ⟨(some 12), .fldA 1 (.t 3), none⟩, ⟨(some 13), .load1 (.t 12), none⟩, ⟨(some 14), .bin .neq .int (.t 11) (.t 13), none⟩])
  (.cond (.t 14) (.seq (.region [⟨(some 4), .mov (.k (.c (.bool false))), none⟩])
  .ret) .skip))
  (.seq (.region [⟨(some 4), .mov (.k (.c (.bool true))), none⟩])
  .ret)))), [.tmp 4], true⟩
theorem c99 : kk 99 = some k99 := by kernel_rfl
/-- (*loop.example/g01263/spec.l00Src).one -/
def k100 : KF := ⟨9, (.seq (.region [⟨(some 4), .mov (.k (.c (.bool false))), none⟩])
  (.seq (.region [⟨(some 5), .mov (.t 0), none⟩, ⟨(some 6), .mov (.t 1), none⟩, ⟨(some 7), .call (.k (.c (.fn 80 []))) [(.t 5), (.t 6)], none⟩, ⟨(some 8), .bin .eql .int (.t 7) (.k (.c (.int .i64 0))), none⟩, ⟨(some 4), .mov (.t 8), none⟩])
  .ret)), [.tmp 4], true⟩
theorem c100 : kk 100 = some k100 := by kernel_rfl
/-- loop.example/g01263/spec.GrainFrom -/
def l101_0 : KC := (.seq (.seq (.region [⟨(some 7), .mov (.t 5), none⟩, ⟨(some 8), .bin .lss .int (.t 7) (.k (.c (.int .i64 16))), none⟩])
  (.cond (.t 8) .skip (.exit 0)))
  (.seq (.block 1 (.seq (.region [⟨(some 11), .mov (.t 0), none⟩, ⟨(some 12), .bin .mul .int (.k (.c (.int .u32 1664525))) (.t 11), none⟩, ⟨(some 13), .bin .add .int (.t 12) (.k (.c (.int .u32 1013904223))), none⟩, ⟨(some 0), .mov (.t 13), none⟩])
  (.region [⟨(some 14), .mov (.t 5), none⟩, ⟨(some 15), .mov (.t 0), none⟩, ⟨(some 16), .bin .quo .int (.t 15) (.k (.c (.int .u32 65536))), none⟩, ⟨(some 17), .bin .rem .int (.t 16) (.k (.c (.int .u32 7))), none⟩, ⟨(some 18), .conv .i8 (.t 17), none⟩, ⟨(some 19), .bin .sub .int (.t 18) (.k (.c (.int .i8 3))), none⟩, ⟨(some 20), .idxA 16 1 (.t 4) (.t 14), none⟩, ⟨none, .store 1 (.t 20) (.t 19), none⟩])))
  (.region [⟨(some 9), .mov (.t 5), none⟩, ⟨(some 10), .bin .add .int (.t 9) (.k (.c (.int .i64 1))), none⟩, ⟨(some 5), .mov (.t 10), none⟩])))
def k101 : KF := ⟨23, (.seq (.region [⟨(some 2), .alloc 35 [(.int .i8 0), (.int .i8 0), (.int .i8 0), (.int .i8 0), (.int .i8 0), (.int .i8 0), (.int .i8 0), (.int .i8 0), (.int .i8 0), (.int .i8 0), (.int .i8 0), (.int .i8 0), (.int .i8 0), (.int .i8 0), (.int .i8 0), (.int .i8 0)], none⟩, ⟨(some 3), .mov (.k (.c (.int .u32 0))), none⟩])
  (.seq (.region [⟨(some 6), .build [(.int .i8 0), (.int .i8 0), (.int .i8 0), (.int .i8 0), (.int .i8 0), (.int .i8 0), (.int .i8 0), (.int .i8 0), (.int .i8 0), (.int .i8 0), (.int .i8 0), (.int .i8 0), (.int .i8 0), (.int .i8 0), (.int .i8 0), (.int .i8 0)] [], none⟩, ⟨(some 4), .alloc 35 [(.int .i8 0), (.int .i8 0), (.int .i8 0), (.int .i8 0), (.int .i8 0), (.int .i8 0), (.int .i8 0), (.int .i8 0), (.int .i8 0), (.int .i8 0), (.int .i8 0), (.int .i8 0), (.int .i8 0), (.int .i8 0), (.int .i8 0), (.int .i8 0)], none⟩, ⟨none, .store 16 (.t 4) (.t 6), none⟩])
  (.seq (.seq (.region [⟨(some 5), .mov (.k (.c (.int .i64 0))), none⟩])
  (.block 0 (.loop l101_0)))
  (.seq (.region [⟨(some 21), .loadN 16 (.t 4), none⟩, ⟨(some 22), .mov (.t 0), none⟩, ⟨none, .store 16 (.t 2) (.t 21), none⟩, ⟨(some 3), .mov (.t 22), none⟩])
  .ret)))), [.cellN 2 16, .tmp 3], true⟩
theorem c101 : kk 101 = some k101 := by kernel_rfl
/-- loop.example/g01263/spec.l01Widths -/
def k102 : KF := ⟨2, (.seq (.region [⟨(some 0), .mov (.k (.c (.slice none 0 (.exact 0)))), none⟩])
  (.seq (.region [⟨(some 1), .buildSl 2 6 [(.int .i64 0), (.int .i64 0), (.int .i64 0), (.int .i64 0), (.int .i64 0), (.int .i64 0)] [(0, 1, (.k (.c (.int .i64 1)))), (1, 1, (.k (.c (.int .i64 2)))), (2, 1, (.k (.c (.int .i64 4)))), (3, 1, (.k (.c (.int .i64 6)))), (4, 1, (.k (.c (.int .i64 9)))), (5, 1, (.k (.c (.int .i64 12))))], none⟩, ⟨(some 0), .mov (.t 1), none⟩])
  .ret)), [.tmp 0], false⟩
theorem c102 : kk 102 = some k102 := by kernel_rfl
/-- (*loop.example/g01263/spec.l00Src).next -/
def k103 : KF := ⟨62, (.seq (.region [⟨(some 2), .mov (.k (.c (.int .i64 0))), none⟩])
  (.seq (.region [⟨(some 3), .mov (.k (.c (.int .i64 0))), none⟩])
  (.seq (.seq (.drawn [(⟨(some 4), .mov (.t 0), none⟩, []), (⟨(some 5), .nilchk (.t 4), none⟩, []), (⟨(some 6), .fldA 1 (.t 5), none⟩, []), (⟨(some 7), .load1 (.t 6), none⟩, []), (⟨(some 8), .mov (.t 0), none⟩, []), (⟨(some 9), .nilchk (.t 8), none⟩, []), (⟨(some 10), .fldA 0 (.t 9), none⟩, []), (⟨(some 11), .load1 (.t 10), none⟩, []), (⟨(some 12), .len false (.t 11), none⟩, []), (⟨(some 13), .bin .lss .int (.t 7) (.t 12), none⟩, [])])
  (.cond (.t 13) (.drawn [(⟨(some 14), .mov (.t 0), none⟩, []), (⟨(some 15), .nilchk (.t 14), none⟩, []), (⟨(some 16), .fldA 0 (.t 15), none⟩, []), (⟨(some 17), .load1 (.t 16), none⟩, []), (⟨(some 18), .mov (.t 0), none⟩, []), (⟨(some 19), .nilchk (.t 18), none⟩, []), (⟨(some 20), .fldA 1 (.t 19), none⟩, []), (⟨(some 21), .load1 (.t 20), none⟩, []), (⟨(some 22), .idxS 1 (.t 17) (.t 21), none⟩, []), (⟨(some 23), .load1 (.t 22), none⟩, []), (⟨(some 24), .conv .i64 (.t 23), none⟩, []), (⟨(some 3), .mov (.t 24), none⟩, [])]) .skip))
  (.seq (.region [⟨(some 25), .mov (.t 0), none⟩, ⟨(some 26), .nilchk (.t 25), none⟩, ⟨(some 27), .fldA 1 (.t 26), none⟩, ⟨(some 28), .load1 (.t 27), none⟩, ⟨(some 29), .bin .add .int (.t 28) (.k (.c (.int .i64 1))), none⟩, ⟨(some 30), .nilchk (.t 25), none⟩, ⟨(some 31), .fldA 1 (.t 30), none⟩, ⟨none, .store 1 (.t 31) (.t 29), none⟩])
  (.seq (.region [⟨(some 32), .mov (.t 0), none⟩, ⟨(some 33), .mov (.t 0), none⟩, ⟨(some 34), .nilchk (.t 33), none⟩, ⟨(some 35), .fldA 2 (.t 34), none⟩, ⟨(some 36), .load1 (.t 35), none⟩, ⟨(some 37), .bin .mul .int (.t 36) (.k (.c (.int .u64 6364136223846793005))), none⟩, ⟨(some 38), .mov (.t 3), none⟩, ⟨(some 39), .conv .u64 (.t 38), none⟩, ⟨(some 40), .bin .add .int (.t 37) (.t 39), none⟩, ⟨(some 41), .bin .add .int (.t 40) (.k (.c (.int .u64 1442695040888963407))), none⟩, ⟨(some 42), .nilchk (.t 32), none⟩, ⟨(some 43), .fldA 2 (.t 42), none⟩, ⟨none, .store 1 (.t 43) (.t 41), none⟩])
  (.seq (.seq (.drawn [(⟨(some 44), .mov (.t 0), none⟩, []), (⟨(some 45), .nilchk (.t 44), none⟩, []), (⟨(some 46), .fldA 1 (.t 45), none⟩, []), (⟨(some 47), .load1 (.t 46), none⟩, []), (⟨(some 48), .mov (.t 0), none⟩, []), (⟨(some 49), .nilchk (.t 48), none⟩, []), (⟨(some 50), .fldA 0 (.t 49), none⟩, []), (⟨(some 51), .load1 (.t 50), none⟩, []), (⟨(some 52), .len false (.t 51), none⟩, []), (⟨(some 53), .bin .leq .int (.t 47) (.t 52), none⟩, [])])
  (.cond (.t 53) (.seq (.region [⟨(some 54), .mov (.t 3), none⟩, ⟨(some 2), .mov (.t 54), none⟩])
  .ret) .skip))
  (.seq (.region [⟨(some 55), .mov (.t 0), none⟩, ⟨(some 56), .nilchk (.t 55), none⟩, ⟨(some 57), .fldA 2 (.t 56), none⟩, ⟨(some 58), .load1 (.t 57), none⟩, ⟨(some 59), .bin .shr .int (.t 58) (.k (.c (.int .u64 40))), none⟩, ⟨(some 60), .bin .and .int (.t 59) (.k (.c (.int .u64 255))), none⟩, ⟨(some 61), .conv .i64 (.t 60), none⟩, ⟨(some 2), .mov (.t 61), none⟩])
  .ret))))))), [.tmp 2], true⟩
theorem c103 : kk 103 = some k103 := by kernel_rfl
/-- loop.example/g01263/spec.l01SameNotches -/
def l104_0 : KC := (.seq (.seq (.region [⟨(some 11), .mov (.t 5), none⟩, ⟨(some 12), .mov (.t 0), none⟩, ⟨(some 13), .len false (.t 12), none⟩, ⟨(some 14), .bin .lss .int (.t 11) (.t 13), none⟩])
  (.cond (.t 14) .skip (.exit 0)))
  (.seq (.block 1 (.seq (.drawn [(⟨(some 17), .mov (.t 0), none⟩, []), (⟨(some 18), .mov (.t 5), none⟩, []), (⟨(some 19), .idxS 2 (.t 17) (.t 18), none⟩, []), (⟨(some 20), .loadN 2 (.t 19), none⟩, []), (⟨(some 21), .mov (.t 1), none⟩, []), (⟨(some 22), .mov (.t 5), none⟩, []), (⟨(some 23), .idxS 2 (.t 21) (.t 22), none⟩, []), (⟨(some 24), .loadN 2 (.t 23), none⟩, []), (⟨(some 25), .bin .neq (.agg [.int, .int]) (.t 20) (.t 24), none⟩, [])])
  (.cond (.t 25) (.seq (.region [⟨(some 4), .mov (.k (.c (.bool false))), none⟩])
  .ret) .skip)))
  (.region [⟨(some 15), .mov (.t 5), none⟩, ⟨(some 16), .bin .add .int (.t 15) (.k (.c (.int .i64 1))), none⟩, ⟨(some 5), .mov (.t 16), none⟩])))
def k104 : KF := ⟨26, (.seq (.region [⟨(some 4), .mov (.k (.c (.bool false))), none⟩])
  (.seq (.seq (.region [⟨(some 6), .mov (.t 0), none⟩, ⟨(some 7), .len false (.t 6), none⟩, ⟨(some 8), .mov (.t 1), none⟩, ⟨(some 9), .len false (.t 8), none⟩, ⟨(some 10), .bin .neq .int (.t 7) (.t 9), none⟩])
  (.cond (.t 10) (.seq (.region [⟨(some 4), .mov (.k (.c (.bool false))), none⟩])
  .ret) .skip))
  (.seq (.seq (.region [⟨(some 5), .mov (.k (.c (.int .i64 0))), none⟩])
  (.block 0 (.loop l104_0)))
  (.seq (.region [⟨(some 4), .mov (.k (.c (.bool true))), none⟩])
  .ret)))), [.tmp 4], true⟩
theorem c104 : kk 104 = some k104 := by kernel_rfl
/-- slices.Equal[[]loop.example/g01263/impl.Notch,loop.example/g01263/impl.Notch] -/
def l105_0 : KC := (.seq (.region [⟨(some 14), .bin .lss .int (.t 13) (.t 12), none⟩])
  (.seq (.cond (.t 14) .skip (.exit 0))
  (.seq (.block 1 (.seq (.region [⟨(some 15), .mov (.t 13), none⟩, ⟨(some 5), .mov (.t 15), none⟩])
  (.seq (.drawn [(⟨(some 16), .mov (.t 0), none⟩, []), (⟨(some 17), .mov (.t 5), none⟩, []), (⟨(some 18), .idxS 2 (.t 16) (.t 17), none⟩, []), (⟨(some 19), .loadN 2 (.t 18), none⟩, []), (⟨(some 20), .mov (.t 1), none⟩, []), (⟨(some 21), .mov (.t 5), none⟩, []), (⟨(some 22), .idxS 2 (.t 20) (.t 21), none⟩, []), (⟨(some 23), .loadN 2 (.t 22), none⟩, []), (⟨(some 24), .bin .neq (.agg [.int, .int]) (.t 19) (.t 23), none⟩, [])])
  (.cond (.t 24) (.seq (.region [⟨(some 4), .mov (.k (.c (.bool false))), none⟩])
  .ret) .skip))))
  (.region [⟨(some 25), .bin .add .int (.t 13) (.k (.c (.int .i64 1))), none⟩, ⟨(some 13), .mov (.t 25), none⟩]))))
def k105 : KF := ⟨26, (.seq (.region [⟨(some 4), .mov (.k (.c (.bool false))), none⟩])
  (.seq (.seq (.region [⟨(some 6), .mov (.t 0), none⟩, ⟨(some 7), .len false (.t 6), none⟩, ⟨(some 8), .mov (.t 1), none⟩, ⟨(some 9), .len false (.t 8), none⟩, ⟨(some 10), .bin .neq .int (.t 7) (.t 9), none⟩])
  (.cond (.t 10) (.seq (.region [⟨(some 4), .mov (.k (.c (.bool false))), none⟩])
  .ret) .skip))
  (.seq (.seq (.region [⟨(some 11), .mov (.t 0), none⟩, ⟨(some 12), .len false (.t 11), none⟩, ⟨(some 13), .mov (.k (.c (.int .i64 0))), none⟩])
  (.block 0 (.loop l105_0)))
  (.seq (.region [⟨(some 4), .mov (.k (.c (.bool true))), none⟩])
  .ret)))), [.tmp 4], true⟩
theorem c105 : kk 105 = some k105 := by kernel_rfl
/-- loop.example/g01263/spec.l01FitsGrain -/
def l106_0 : KC := (.seq (.seq (.region [⟨(some 10), .mov (.t 8), none⟩, ⟨(some 11), .bin .lss .int (.t 10) (.k (.c (.int .i64 16))), none⟩])
  (.cond (.t 11) .skip (.exit 0)))
  (.seq (.block 1 (.seq (.drawn [(⟨(some 14), .mov (.t 8), none⟩, []), (⟨(some 15), .idxA 16 1 (.t 3) (.t 14), none⟩, []), (⟨(some 16), .load1 (.t 15), none⟩, []), (⟨(some 17), .mov (.t 8), none⟩, []), (⟨(some 18), .idxA 16 1 (.t 4) (.t 17), none⟩, []), (⟨(some 19), .load1 (.t 18), none⟩, []), (⟨(some 20), .bin .add .int (.t 16) (.t 19), none⟩, []), (⟨(some 9), .mov (.t 20), none⟩, [])])
  (.seq (.seq (.region [⟨(some 21), .mov (.t 9), none⟩, ⟨(some 22), .bin .lss .int (.t 21) (.k (.c (.int .i8 (-1)))), none⟩, ⟨(some 23), .mov (.t 22), none⟩, ⟨(some 24), .mov (.t 9), some (23, false)⟩, ⟨(some 25), .bin .gtr .int (.t 24) (.k (.c (.int .i8 1))), some (23, false)⟩, ⟨(some 26), .pick (.t 23) (.k (.c (.bool true))) (.t 25), none⟩])
  (.cond (.t 26) (.seq (.region [⟨(some 6), .mov (.k (.c (.bool false))), none⟩])
  .ret) .skip))
  (.seq (.region [⟨(some 27), .mov (.t 9), none⟩, ⟨(some 28), .bin .neq .int (.t 27) (.k (.c (.int .i8 0))), none⟩])
  (.cond (.t 28) (.region [⟨(some 29), .mov (.t 7), none⟩, ⟨(some 30), .bin .add .int (.t 29) (.k (.c (.int .i64 1))), none⟩, ⟨(some 7), .mov (.t 30), none⟩]) .skip)))))
  (.region [⟨(some 12), .mov (.t 8), none⟩, ⟨(some 13), .bin .add .int (.t 12) (.k (.c (.int .i64 1))), none⟩, ⟨(some 8), .mov (.t 13), none⟩])))
def k106 : KF := ⟨34, (.seq (.region [⟨(some 3), .box 35 (.t 0), none⟩, ⟨(some 4), .box 35 (.t 1), none⟩, ⟨(some 6), .mov (.k (.c (.bool false))), none⟩])
  (.seq (.region [⟨(some 7), .mov (.k (.c (.int .i64 0))), none⟩])
  (.seq (.seq (.region [⟨(some 8), .mov (.k (.c (.int .i64 0))), none⟩])
  (.block 0 (.loop l106_0)))
  (.seq (.region [⟨(some 31), .mov (.t 7), none⟩, ⟨(some 32), .mov (.t 2), none⟩, ⟨(some 33), .bin .leq .int (.t 31) (.t 32), none⟩, ⟨(some 6), .mov (.t 33), none⟩])
  .ret)))), [.tmp 6], true⟩
theorem c106 : kk 106 = some k106 := by kernel_rfl
/-- loop.example/g01263/impl.fitsGrain -/
def l107_0 : KC := (.seq (.region [⟨(some 10), .bin .lss .int (.t 9) (.k (.c (.int .i64 16))), none⟩])
  (.seq (.cond (.t 10) .skip (.exit 0))
  (.seq (.block 1 (.seq (.region [⟨(some 11), .mov (.t 9), none⟩, ⟨(some 7), .mov (.t 11), none⟩])
  (.seq (.drawn [(⟨(some 12), .mov (.t 7), none⟩, []), (⟨(some 13), .idxA 16 1 (.t 3) (.t 12), none⟩, []), (⟨(some 14), .load1 (.t 13), none⟩, []), (⟨(some 15), .mov (.t 7), none⟩, []), (⟨(some 16), .idxA 16 1 (.t 4) (.t 15), none⟩, []), (⟨(some 17), .load1 (.t 16), none⟩, []), (⟨(some 18), .bin .add .int (.t 14) (.t 17), none⟩, []), (⟨(some 8), .mov (.t 18), none⟩, [])])
  (.seq (.region [⟨(some 19), .mov (.t 8), none⟩, ⟨(some 20), .bin .lss .int (.t 19) (.k (.c (.int .i8 (-1)))), none⟩, ⟨(some 21), .mov (.t 20), none⟩, ⟨(some 22), .mov (.t 8), some (21, false)⟩, ⟨(some 23), .bin .gtr .int (.t 22) (.k (.c (.int .i8 1))), some (21, false)⟩, ⟨(some 24), .pick (.t 21) (.k (.c (.bool true))) (.t 23), none⟩])
  (.cond (.t 24) (.seq (.region [⟨(some 6), .mov (.k (.c (.bool false))), none⟩])
  .ret) .skip)))))
  (.region [⟨(some 25), .bin .add .int (.t 9) (.k (.c (.int .i64 1))), none⟩, ⟨(some 9), .mov (.t 25), none⟩]))))
def k107 : KF := ⟨32, (.seq (.region [⟨(some 3), .box 35 (.t 0), none⟩, ⟨(some 4), .box 35 (.t 1), none⟩, ⟨(some 6), .mov (.k (.c (.bool false))), none⟩])
  (.seq (.seq (.region [⟨(some 9), .mov (.k (.c (.int .i64 0))), none⟩])
  (.block 0 (.loop l107_0)))
  (.seq (.region [⟨(some 26), .loadN 16 (.t 3), none⟩, ⟨(some 27), .loadN 16 (.t 4), none⟩, ⟨(some 28), .call (.k (.c (.fn 62 []))) [(.t 26), (.t 27)], none⟩, ⟨(some 29), .len false (.t 28), none⟩, ⟨(some 30), .mov (.t 2), none⟩, ⟨(some 31), .bin .leq .int (.t 29) (.t 30), none⟩, ⟨(some 6), .mov (.t 31), none⟩])
  .ret))), [.tmp 6], true⟩
theorem c107 : kk 107 = some k107 := by kernel_rfl
/-- loop.example/g01263/spec.l01Pair -/
def k108 : KF := ⟨29, (.seq (.region [⟨(some 6), .mov (.k (.c (.int .i64 0))), none⟩])
  (.seq (.seq (.region [⟨(some 7), .mov (.t 0), none⟩, ⟨(some 8), .call (.k (.c (.fn 72 []))) [(.t 7)], none⟩, ⟨(some 9), .un .not (.t 8), none⟩, ⟨(some 10), .mov (.t 9), none⟩, ⟨(some 11), .mov (.t 1), some (10, false)⟩, ⟨(some 12), .call (.k (.c (.fn 72 []))) [(.t 11)], some (10, false)⟩, ⟨(some 13), .un .not (.t 12), some (10, false)⟩, ⟨(some 14), .pick (.t 10) (.k (.c (.bool true))) (.t 13), none⟩])
  (.cond (.t 14) (.seq (.region [⟨(some 6), .mov (.k (.c (.int .i64 1))), none⟩])
  .ret) .skip))
  (.seq (.seq (.region [⟨(some 15), .mov (.t 2), none⟩, ⟨(some 16), .call (.k (.c (.fn 67 []))) [(.t 15), (.k (.c (.int .i64 0))), (.k (.c (.int .i64 16)))], none⟩, ⟨(some 17), .un .not (.t 16), none⟩])
  (.cond (.t 17) (.seq (.region [⟨(some 6), .mov (.k (.c (.int .i64 2))), none⟩])
  .ret) .skip))
  (.seq (.seq (.region [⟨(some 18), .mov (.t 0), none⟩, ⟨(some 19), .nilchk (.t 18), none⟩, ⟨(some 20), .fldA 0 (.t 19), none⟩, ⟨(some 21), .load1 (.t 20), none⟩, ⟨(some 22), .un .not (.t 21), none⟩, ⟨(some 23), .mov (.t 22), none⟩, ⟨(some 24), .mov (.t 1), some (23, false)⟩, ⟨(some 25), .nilchk (.t 24), some (23, false)⟩, ⟨(some 26), .fldA 0 (.t 25), some (23, false)⟩, ⟨(some 27), .load1 (.t 26), some (23, false)⟩, ⟨(some 28), .pick (.t 23) (.k (.c (.bool true))) (.t 27), none⟩])
  (.cond (.t 28) (.seq (.region [⟨(some 6), .mov (.k (.c (.int .i64 4))), none⟩])
  .ret) .skip))
  (.seq (.region [⟨(some 6), .mov (.k (.c (.int .i64 0))), none⟩])
  .ret))))), [.tmp 6], true⟩
theorem c108 : kk 108 = some k108 := by kernel_rfl
/-- loop.example/g01263/spec.l01Worths -/
def k109 : KF := ⟨2, (.seq (.region [⟨(some 0), .mov (.k (.c (.slice none 0 (.exact 0)))), none⟩])
  (.seq (.region [⟨(some 1), .buildSl 2 6 [(.int .i64 0), (.int .i64 0), (.int .i64 0), (.int .i64 0), (.int .i64 0), (.int .i64 0)] [(0, 1, (.k (.c (.int .i64 1)))), (1, 1, (.k (.c (.int .i64 12)))), (2, 1, (.k (.c (.int .i64 240)))), (3, 1, (.k (.c (.int .i64 4800)))), (4, 1, (.k (.c (.int .i64 24000)))), (5, 1, (.k (.c (.int .i64 240000))))], none⟩, ⟨(some 0), .mov (.t 1), none⟩])
  .ret)), [.tmp 0], false⟩
theorem c109 : kk 109 = some k109 := by kernel_rfl
/-- loop.example/g01263/impl.worth -/
def k110 : KF := ⟨7, (.seq (.region [⟨(some 2), .mov (.k (.c (.int .i64 0))), none⟩])
  (.seq (.region [⟨(some 3), .buildSl 2 6 [(.int .i64 0), (.int .i64 0), (.int .i64 0), (.int .i64 0), (.int .i64 0), (.int .i64 0)] [(0, 1, (.k (.c (.int .i64 1)))), (1, 1, (.k (.c (.int .i64 12)))), (2, 1, (.k (.c (.int .i64 240)))), (3, 1, (.k (.c (.int .i64 4800)))), (4, 1, (.k (.c (.int .i64 24000)))), (5, 1, (.k (.c (.int .i64 240000))))], none⟩, ⟨(some 4), .mov (.t 0), none⟩, ⟨(some 5), .idxS 1 (.t 3) (.t 4), none⟩, ⟨(some 6), .load1 (.t 5), none⟩, ⟨(some 2), .mov (.t 6), none⟩])
  .ret)), [.tmp 2], true⟩
theorem c110 : kk 110 = some k110 := by kernel_rfl
/-- loop.example/g01263/spec.l01Kind -/
def k111 : KF := ⟨5, (.seq (.region [⟨(some 2), .mov (.k (.c (.bool false))), none⟩])
  (.seq (.region [⟨(some 3), .mov (.t 0), none⟩, ⟨(some 4), .call (.k (.c (.fn 67 []))) [(.t 3), (.k (.c (.int .i64 0))), (.k (.c (.int .i64 5)))], none⟩, ⟨(some 2), .mov (.t 4), none⟩])
  .ret)), [.tmp 2], true⟩
theorem c111 : kk 111 = some k111 := by kernel_rfl
/-- loop.example/g01263/impl.width -/
def k112 : KF := ⟨7, (.seq (.region [⟨(some 2), .mov (.k (.c (.int .i64 0))), none⟩])
  (.seq (.region [⟨(some 3), .buildSl 2 6 [(.int .i64 0), (.int .i64 0), (.int .i64 0), (.int .i64 0), (.int .i64 0), (.int .i64 0)] [(0, 1, (.k (.c (.int .i64 1)))), (1, 1, (.k (.c (.int .i64 2)))), (2, 1, (.k (.c (.int .i64 4)))), (3, 1, (.k (.c (.int .i64 6)))), (4, 1, (.k (.c (.int .i64 9)))), (5, 1, (.k (.c (.int .i64 12))))], none⟩, ⟨(some 4), .mov (.t 0), none⟩, ⟨(some 5), .idxS 1 (.t 3) (.t 4), none⟩, ⟨(some 6), .load1 (.t 5), none⟩, ⟨(some 2), .mov (.t 6), none⟩])
  .ret)), [.tmp 2], true⟩
theorem c112 : kk 112 = some k112 := by kernel_rfl
end Go.Proofs.Ytoeppnjgpblikaa
