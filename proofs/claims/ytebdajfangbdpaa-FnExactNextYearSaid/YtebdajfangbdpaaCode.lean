/- What functions of the program answer: part Code. -/
import Derived.Test.YtebdajfangbdpaaViEv
import Derived.Test.YtebdajfangbdpaaViComp
import Derived.Test.YtebdajfangbdpaaChecked
import Derived.KernelRfl
set_option linter.unusedVariables false
set_option linter.unusedSimpArgs false
set_option linter.unusedSectionVars false
namespace Go.Proofs.Ytebdajfangbdpaa
open Go Go.Proofs.Ytebdajfangbdpaa.VI
noncomputable def kk : FuncId → Option KF := fun f => cFunc Try.prog (!([14, 21, 26, 27, 31, 33, 34, 35, 38, 51, 52, 60] : List Nat).contains f) f
/-- loop.example/g01263/laws.FnExactValidItems -/
def k3 : KF := ⟨27, (.seq (.region [⟨(some 2), .mov (.k (.c (.bool false))), none⟩])
  (.seq (.region [⟨(some 3), .mov (.k (.c (.int .i64 1048576))), none⟩])
  (.seq (.region [⟨(some 7), .mov (.t 0), none⟩, ⟨(some 8), .mov (.t 3), none⟩, ⟨(some 9), .call (.k (.c (.fn 12 []))) [(.t 7), (.t 8)], none⟩, ⟨(some 3), .mov (.t 9), none⟩])
  (.seq (.seq (.region [⟨(some 10), .mov (.t 3), none⟩, ⟨(some 11), .bin .lss .int (.t 10) (.k (.c (.int .i64 0))), none⟩])
  (.cond (.t 11) (.seq (.region [⟨(some 2), .mov (.k (.c (.bool true))), none⟩])
  .ret) .skip))
  (.seq (.region [⟨(some 12), .mov (.t 0), none⟩, ⟨(some 13), .call (.k (.c (.fn 14 []))) [(.t 12)], none⟩, ⟨(some 14), .call (.k (.c (.fn 13 []))) [(.t 13)], none⟩, ⟨(some 4), .mov (.t 14), none⟩])
  (.seq (.region [⟨(some 15), .mov (.t 0), none⟩, ⟨(some 16), .call (.k (.c (.fn 14 []))) [(.t 15)], none⟩, ⟨(some 5), .mov (.t 16), none⟩])
  (.seq (.region [⟨(some 17), .mov (.t 5), none⟩, ⟨(some 18), .call (.k (.c (.fn 15 []))) [(.t 17)], none⟩, ⟨(some 6), .mov (.t 18), none⟩])
  (.seq (.seq (.region [⟨(some 19), .mov (.t 6), none⟩, ⟨(some 20), .mov (.t 4), none⟩, ⟨(some 21), .bin .neq .bool (.t 19) (.t 20), none⟩])
  (.cond (.t 21) (.seq (.region [⟨(some 2), .mov (.k (.c (.bool false))), none⟩])
  .ret) .skip))
  (.seq (.seq (.region [⟨(some 22), .mov (.t 5), none⟩, ⟨(some 23), .mov (.t 0), none⟩, ⟨(some 24), .call (.k (.c (.fn 14 []))) [(.t 23)], none⟩, ⟨(some 25), .call (.k (.c (.fn 16 []))) [(.t 22), (.t 24)], none⟩, ⟨(some 26), .un .not (.t 25), none⟩])
  (.cond (.t 26) (.seq (.region [⟨(some 2), .mov (.k (.c (.bool false))), none⟩])
  .ret) .skip))
  (.seq (.region [⟨(some 2), .mov (.k (.c (.bool true))), none⟩])
  .ret)))))))))), [.tmp 2], true⟩
theorem c3 : kk 3 = some k3 := by kernel_rfl
/-- loop.example/g01263/laws.FnExactBalanceOf -/
def k4 : KF := ⟨40, (.seq (.region [⟨(some 2), .mov (.k (.c (.bool false))), none⟩])
  (.seq (.region [⟨(some 3), .mov (.k (.c (.int .i64 1048576))), none⟩])
  (.seq (.region [⟨(some 9), .mov (.t 0), none⟩, ⟨(some 10), .mov (.t 3), none⟩, ⟨(some 11), .call (.k (.c (.fn 12 []))) [(.t 9), (.t 10)], none⟩, ⟨(some 3), .mov (.t 11), none⟩])
  (.seq (.seq (.region [⟨(some 12), .mov (.t 3), none⟩, ⟨(some 13), .bin .lss .int (.t 12) (.k (.c (.int .i64 0))), none⟩])
  (.cond (.t 13) (.seq (.region [⟨(some 2), .mov (.k (.c (.bool true))), none⟩])
  .ret) .skip))
  (.seq (.region [⟨(some 15), .mov (.t 0), none⟩, ⟨(some 16), .call (.k (.c (.fn 14 []))) [(.t 15)], none⟩, ⟨(some 17), .call (.k (.c (.fn 17 []))) [(.t 16)], none⟩, ⟨(some 14), .mov (.t 17), none⟩, ⟨(some 18), .ext (.t 14) 0, none⟩, ⟨(some 19), .ext (.t 14) 1, none⟩, ⟨(some 4), .mov (.t 18), none⟩, ⟨(some 5), .mov (.t 19), none⟩])
  (.seq (.region [⟨(some 20), .mov (.t 0), none⟩, ⟨(some 21), .call (.k (.c (.fn 14 []))) [(.t 20)], none⟩, ⟨(some 6), .mov (.t 21), none⟩])
  (.seq (.region [⟨(some 23), .mov (.t 6), none⟩, ⟨(some 24), .call (.k (.c (.fn 18 []))) [(.t 23)], none⟩, ⟨(some 22), .mov (.t 24), none⟩, ⟨(some 25), .ext (.t 22) 0, none⟩, ⟨(some 26), .ext (.t 22) 1, none⟩, ⟨(some 7), .mov (.t 25), none⟩, ⟨(some 8), .mov (.t 26), none⟩])
  (.seq (.seq (.region [⟨(some 27), .mov (.t 7), none⟩, ⟨(some 28), .mov (.t 4), none⟩, ⟨(some 29), .bin .neq .int (.t 27) (.t 28), none⟩, ⟨(some 30), .mov (.t 29), none⟩, ⟨(some 31), .mov (.t 8), some (30, false)⟩, ⟨(some 32), .mov (.t 5), some (30, false)⟩, ⟨(some 33), .bin .neq .int (.t 31) (.t 32), some (30, false)⟩, ⟨(some 34), .pick (.t 30) (.k (.c (.bool true))) (.t 33), none⟩])
  (.cond (.t 34) (.seq (.region [⟨(some 2), .mov (.k (.c (.bool false))), none⟩])
  .ret) .skip))
  (.seq (.seq (.region [⟨(some 35), .mov (.t 6), none⟩, ⟨(some 36), .mov (.t 0), none⟩, ⟨(some 37), .call (.k (.c (.fn 14 []))) [(.t 36)], none⟩, ⟨(some 38), .call (.k (.c (.fn 16 []))) [(.t 35), (.t 37)], none⟩, ⟨(some 39), .un .not (.t 38), none⟩])
  (.cond (.t 39) (.seq (.region [⟨(some 2), .mov (.k (.c (.bool false))), none⟩])
  .ret) .skip))
  (.seq (.region [⟨(some 2), .mov (.k (.c (.bool true))), none⟩])
  .ret)))))))))), [.tmp 2], true⟩
theorem c4 : kk 4 = some k4 := by kernel_rfl
/-- loop.example/g01263/laws.FnExactCheckAccount -/
def k5 : KF := ⟨27, (.seq (.region [⟨(some 1), .box 32 (.t 0), none⟩, ⟨(some 2), .mov (.k (.c (.bool false))), none⟩])
  (.seq (.region [⟨(some 3), .mov (.k (.c (.int .i64 1048576))), none⟩])
  (.seq (.region [⟨(some 7), .loadN 3 (.t 1), none⟩, ⟨(some 8), .mov (.t 3), none⟩, ⟨(some 9), .call (.k (.c (.fn 19 []))) [(.t 7), (.t 8)], none⟩, ⟨(some 3), .mov (.t 9), none⟩])
  (.seq (.seq (.region [⟨(some 10), .mov (.t 3), none⟩, ⟨(some 11), .bin .lss .int (.t 10) (.k (.c (.int .i64 0))), none⟩])
  (.cond (.t 11) (.seq (.region [⟨(some 2), .mov (.k (.c (.bool true))), none⟩])
  .ret) .skip))
  (.seq (.region [⟨(some 12), .loadN 3 (.t 1), none⟩, ⟨(some 13), .call (.k (.c (.fn 21 []))) [(.t 12)], none⟩, ⟨(some 14), .call (.k (.c (.fn 20 []))) [(.t 13)], none⟩, ⟨(some 4), .mov (.t 14), none⟩])
  (.seq (.region [⟨(some 15), .loadN 3 (.t 1), none⟩, ⟨(some 16), .call (.k (.c (.fn 21 []))) [(.t 15)], none⟩, ⟨(some 5), .alloc 36 [(.str ⟨#[]⟩), (.slice none 0 (.exact 0)), (.int .i64 0)], none⟩, ⟨none, .store 3 (.t 5) (.t 16), none⟩])
  (.seq (.region [⟨(some 17), .loadN 3 (.t 5), none⟩, ⟨(some 18), .call (.k (.c (.fn 22 []))) [(.t 17)], none⟩, ⟨(some 6), .mov (.t 18), none⟩])
  (.seq (.seq (.region [⟨(some 19), .mov (.t 6), none⟩, ⟨(some 20), .mov (.t 4), none⟩, ⟨(some 21), .bin .neq .bool (.t 19) (.t 20), none⟩])
  (.cond (.t 21) (.seq (.region [⟨(some 2), .mov (.k (.c (.bool false))), none⟩])
  .ret) .skip))
  (.seq (.seq (.drawn [(⟨(some 22), .loadN 3 (.t 5), none⟩, []), (⟨(some 23), .loadN 3 (.t 1), none⟩, []), (⟨(some 24), .call (.k (.c (.fn 21 []))) [(.t 23)], none⟩, [⟨(some 22), .loadN 3 (.t 5), none⟩]), (⟨(some 25), .call (.k (.c (.fn 23 []))) [(.t 22), (.t 24)], none⟩, []), (⟨(some 26), .un .not (.t 25), none⟩, [])])
  (.cond (.t 26) (.seq (.region [⟨(some 2), .mov (.k (.c (.bool false))), none⟩])
  .ret) .skip))
  (.seq (.region [⟨(some 2), .mov (.k (.c (.bool true))), none⟩])
  .ret)))))))))), [.tmp 2], true⟩
theorem c5 : kk 5 = some k5 := by kernel_rfl
/-- loop.example/g01263/laws.FnExactIsQuit -/
def k6 : KF := ⟨40, (.seq (.region [⟨(some 1), .box 32 (.t 0), none⟩, ⟨(some 2), .mov (.k (.c (.bool false))), none⟩])
  (.seq (.region [⟨(some 3), .mov (.k (.c (.int .i64 1048576))), none⟩])
  (.seq (.region [⟨(some 9), .loadN 3 (.t 1), none⟩, ⟨(some 10), .mov (.t 3), none⟩, ⟨(some 11), .call (.k (.c (.fn 19 []))) [(.t 9), (.t 10)], none⟩, ⟨(some 3), .mov (.t 11), none⟩])
  (.seq (.seq (.region [⟨(some 12), .mov (.t 3), none⟩, ⟨(some 13), .bin .lss .int (.t 12) (.k (.c (.int .i64 0))), none⟩])
  (.cond (.t 13) (.seq (.region [⟨(some 2), .mov (.k (.c (.bool true))), none⟩])
  .ret) .skip))
  (.seq (.region [⟨(some 15), .loadN 3 (.t 1), none⟩, ⟨(some 16), .call (.k (.c (.fn 21 []))) [(.t 15)], none⟩, ⟨(some 17), .call (.k (.c (.fn 24 []))) [(.t 16)], none⟩, ⟨(some 14), .mov (.t 17), none⟩, ⟨(some 18), .ext (.t 14) 0, none⟩, ⟨(some 19), .ext (.t 14) 1, none⟩, ⟨(some 4), .mov (.t 18), none⟩, ⟨(some 5), .mov (.t 19), none⟩])
  (.seq (.region [⟨(some 20), .loadN 3 (.t 1), none⟩, ⟨(some 21), .call (.k (.c (.fn 21 []))) [(.t 20)], none⟩, ⟨(some 6), .alloc 36 [(.str ⟨#[]⟩), (.slice none 0 (.exact 0)), (.int .i64 0)], none⟩, ⟨none, .store 3 (.t 6) (.t 21), none⟩])
  (.seq (.region [⟨(some 23), .loadN 3 (.t 6), none⟩, ⟨(some 24), .call (.k (.c (.fn 25 []))) [(.t 23)], none⟩, ⟨(some 22), .mov (.t 24), none⟩, ⟨(some 25), .ext (.t 22) 0, none⟩, ⟨(some 26), .ext (.t 22) 1, none⟩, ⟨(some 7), .mov (.t 25), none⟩, ⟨(some 8), .mov (.t 26), none⟩])
  (.seq (.seq (.region [⟨(some 27), .mov (.t 7), none⟩, ⟨(some 28), .mov (.t 4), none⟩, ⟨(some 29), .bin .neq .bool (.t 27) (.t 28), none⟩, ⟨(some 30), .mov (.t 29), none⟩, ⟨(some 31), .mov (.t 8), some (30, false)⟩, ⟨(some 32), .mov (.t 5), some (30, false)⟩, ⟨(some 33), .bin .neq .int (.t 31) (.t 32), some (30, false)⟩, ⟨(some 34), .pick (.t 30) (.k (.c (.bool true))) (.t 33), none⟩])
  (.cond (.t 34) (.seq (.region [⟨(some 2), .mov (.k (.c (.bool false))), none⟩])
  .ret) .skip))
  (.seq (.seq (.drawn [(⟨(some 35), .loadN 3 (.t 6), none⟩, []), (⟨(some 36), .loadN 3 (.t 1), none⟩, []), (⟨(some 37), .call (.k (.c (.fn 21 []))) [(.t 36)], none⟩, [⟨(some 35), .loadN 3 (.t 6), none⟩]), (⟨(some 38), .call (.k (.c (.fn 23 []))) [(.t 35), (.t 37)], none⟩, []), (⟨(some 39), .un .not (.t 38), none⟩, [])])
  (.cond (.t 39) (.seq (.region [⟨(some 2), .mov (.k (.c (.bool false))), none⟩])
  .ret) .skip))
  (.seq (.region [⟨(some 2), .mov (.k (.c (.bool true))), none⟩])
  .ret)))))))))), [.tmp 2], true⟩
theorem c6 : kk 6 = some k6 := by kernel_rfl
/-- loop.example/g01263/laws.FnExactMakeAccount -/
def k7 : KF := ⟨104, (.seq (.region [⟨(some 4), .mov (.k (.c (.bool false))), none⟩])
  (.seq (.seq (.region [⟨(some 16), .mov (.t 0), none⟩, ⟨(some 17), .len true (.t 16), none⟩, ⟨(some 18), .bin .gtr .int (.t 17) (.k (.c (.int .i64 1048576))), none⟩])
  (.cond (.t 18) (.seq (.region [⟨(some 4), .mov (.k (.c (.bool true))), none⟩])
  .ret) .skip))
  (.seq (.region [⟨(some 5), .mov (.k (.c (.int .i64 1048576))), none⟩])
  (.seq (.region [⟨(some 19), .mov (.t 1), none⟩, ⟨(some 20), .mov (.t 5), none⟩, ⟨(some 21), .call (.k (.c (.fn 12 []))) [(.t 19), (.t 20)], none⟩, ⟨(some 5), .mov (.t 21), none⟩])
  (.seq (.seq (.region [⟨(some 22), .mov (.t 5), none⟩, ⟨(some 23), .bin .lss .int (.t 22) (.k (.c (.int .i64 0))), none⟩])
  (.cond (.t 23) (.seq (.region [⟨(some 4), .mov (.k (.c (.bool true))), none⟩])
  .ret) .skip))
  (.seq (.region [⟨(some 25), .mov (.t 0), none⟩, ⟨(some 26), .mov (.t 1), none⟩, ⟨(some 27), .call (.k (.c (.fn 14 []))) [(.t 26)], none⟩, ⟨(some 28), .call (.k (.c (.fn 26 []))) [(.t 25), (.t 27)], none⟩, ⟨(some 24), .mov (.t 28), none⟩, ⟨(some 29), .ext (.t 24) 0, none⟩, ⟨(some 30), .ext (.t 24) 1, none⟩, ⟨(some 6), .alloc 36 [(.str ⟨#[]⟩), (.slice none 0 (.exact 0)), (.int .i64 0)], none⟩, ⟨none, .store 3 (.t 6) (.t 29), none⟩, ⟨(some 7), .mov (.t 30), none⟩])
  (.seq (.region [⟨(some 31), .mov (.t 1), none⟩, ⟨(some 32), .call (.k (.c (.fn 14 []))) [(.t 31)], none⟩, ⟨(some 8), .mov (.t 32), none⟩])
  (.seq (.region [⟨(some 34), .mov (.t 0), none⟩, ⟨(some 35), .mov (.t 8), none⟩, ⟨(some 36), .call (.k (.c (.fn 27 []))) [(.t 34), (.t 35)], none⟩, ⟨(some 33), .mov (.t 36), none⟩, ⟨(some 37), .ext (.t 33) 0, none⟩, ⟨(some 38), .ext (.t 33) 1, none⟩, ⟨(some 9), .alloc 36 [(.str ⟨#[]⟩), (.slice none 0 (.exact 0)), (.int .i64 0)], none⟩, ⟨none, .store 3 (.t 9) (.t 37), none⟩, ⟨(some 10), .mov (.t 38), none⟩])
  (.seq (.seq (.region [⟨(some 39), .loadN 3 (.t 9), none⟩, ⟨(some 40), .loadN 3 (.t 6), none⟩, ⟨(some 41), .call (.k (.c (.fn 23 []))) [(.t 39), (.t 40)], none⟩, ⟨(some 42), .un .not (.t 41), none⟩, ⟨(some 43), .mov (.t 42), none⟩, ⟨(some 44), .mov (.t 10), some (43, false)⟩, ⟨(some 45), .mov (.t 7), some (43, false)⟩, ⟨(some 46), .bin .neq .int (.t 44) (.t 45), some (43, false)⟩, ⟨(some 47), .pick (.t 43) (.k (.c (.bool true))) (.t 46), none⟩])
  (.cond (.t 47) (.seq (.region [⟨(some 4), .mov (.k (.c (.bool false))), none⟩])
  .ret) .skip))
  (.seq (.seq (.region [⟨(some 48), .mov (.t 8), none⟩, ⟨(some 49), .mov (.t 1), none⟩, ⟨(some 50), .call (.k (.c (.fn 14 []))) [(.t 49)], none⟩, ⟨(some 51), .call (.k (.c (.fn 16 []))) [(.t 48), (.t 50)], none⟩, ⟨(some 52), .un .not (.t 51), none⟩])
  (.cond (.t 52) (.seq (.region [⟨(some 4), .mov (.k (.c (.bool false))), none⟩])
  .ret) .skip))
  (.seq (.region [⟨(some 11), .mov (.k (.c (.int .i64 1))), none⟩])
  (.seq (.region [⟨(some 53), .mov (.t 8), none⟩, ⟨(some 54), .mov (.t 11), none⟩, ⟨(some 55), .call (.k (.c (.fn 28 []))) [(.t 53), (.t 54)], none⟩, ⟨(some 11), .mov (.t 55), none⟩])
  (.seq (.seq (.region [⟨(some 56), .mov (.t 11), none⟩, ⟨(some 57), .bin .lss .int (.t 56) (.k (.c (.int .i64 0))), none⟩, ⟨(some 58), .mov (.t 57), none⟩, ⟨(some 59), .loadN 3 (.t 9), some (58, false)⟩, ⟨(some 60), .loadN 3 (.t 6), some (58, false)⟩, ⟨(some 61), .call (.k (.c (.fn 23 []))) [(.t 59), (.t 60)], some (58, false)⟩, ⟨(some 62), .un .not (.t 61), some (58, false)⟩, ⟨(some 63), .pick (.t 58) (.k (.c (.bool true))) (.t 62), none⟩, ⟨(some 64), .mov (.t 63), none⟩, ⟨(some 65), .mov (.t 10), some (64, false)⟩, ⟨(some 66), .mov (.t 7), some (64, false)⟩, ⟨(some 67), .bin .neq .int (.t 65) (.t 66), some (64, false)⟩, ⟨(some 68), .pick (.t 64) (.k (.c (.bool true))) (.t 67), none⟩])
  (.cond (.t 68) (.seq (.region [⟨(some 4), .mov (.k (.c (.bool false))), none⟩])
  .ret) .skip))
  (.seq (.region [⟨(some 12), .mov (.k (.c (.int .i64 1))), none⟩])
  (.seq (.region [⟨(some 69), .loadN 3 (.t 9), none⟩, ⟨(some 70), .mov (.t 12), none⟩, ⟨(some 71), .call (.k (.c (.fn 29 []))) [(.t 69), (.t 70)], none⟩, ⟨(some 12), .mov (.t 71), none⟩])
  (.seq (.region [⟨(some 13), .mov (.k (.c (.int .i64 1))), none⟩])
  (.seq (.region [⟨(some 72), .loadN 3 (.t 9), none⟩, ⟨(some 73), .mov (.t 13), none⟩, ⟨(some 74), .call (.k (.c (.fn 30 []))) [(.t 72), (.t 73)], none⟩, ⟨(some 13), .mov (.t 74), none⟩])
  (.seq (.seq (.region [⟨(some 75), .mov (.t 13), none⟩, ⟨(some 76), .bin .lss .int (.t 75) (.k (.c (.int .i64 0))), none⟩])
  (.cond (.t 76) (.seq (.region [⟨(some 4), .mov (.k (.c (.bool false))), none⟩])
  .ret) .skip))
  (.seq (.seq (.region [⟨(some 77), .mov (.t 13), none⟩, ⟨(some 78), .mov (.t 12), none⟩, ⟨(some 79), .bin .neq .int (.t 77) (.t 78), none⟩])
  (.cond (.t 79) (.seq (.region [⟨(some 4), .mov (.k (.c (.bool false))), none⟩])
  .ret) .skip))
  (.seq (.region [⟨(some 81), .mov (.t 0), none⟩, ⟨(some 82), .mov (.t 1), none⟩, ⟨(some 83), .call (.k (.c (.fn 14 []))) [(.t 82)], none⟩, ⟨(some 84), .call (.k (.c (.fn 27 []))) [(.t 81), (.t 83)], none⟩, ⟨(some 80), .mov (.t 84), none⟩, ⟨(some 85), .ext (.t 80) 0, none⟩, ⟨(some 86), .ext (.t 80) 1, none⟩, ⟨(some 14), .alloc 36 [(.str ⟨#[]⟩), (.slice none 0 (.exact 0)), (.int .i64 0)], none⟩, ⟨none, .store 3 (.t 14) (.t 85), none⟩, ⟨(some 15), .mov (.t 86), none⟩])
  (.seq (.seq (.region [⟨(some 87), .loadN 3 (.t 14), none⟩, ⟨(some 88), .loadN 3 (.t 6), none⟩, ⟨(some 89), .call (.k (.c (.fn 23 []))) [(.t 87), (.t 88)], none⟩, ⟨(some 90), .un .not (.t 89), none⟩, ⟨(some 91), .mov (.t 90), none⟩, ⟨(some 92), .mov (.t 15), some (91, false)⟩, ⟨(some 93), .mov (.t 7), some (91, false)⟩, ⟨(some 94), .bin .neq .int (.t 92) (.t 93), some (91, false)⟩, ⟨(some 95), .pick (.t 91) (.k (.c (.bool true))) (.t 94), none⟩])
  (.cond (.t 95) (.seq (.region [⟨(some 4), .mov (.k (.c (.bool false))), none⟩])
  .ret) .skip))
  (.seq (.region [⟨(some 13), .mov (.k (.c (.int .i64 1))), none⟩])
  (.seq (.region [⟨(some 96), .loadN 3 (.t 9), none⟩, ⟨(some 97), .mov (.t 13), none⟩, ⟨(some 98), .call (.k (.c (.fn 30 []))) [(.t 96), (.t 97)], none⟩, ⟨(some 13), .mov (.t 98), none⟩])
  (.seq (.seq (.region [⟨(some 99), .mov (.t 13), none⟩, ⟨(some 100), .bin .lss .int (.t 99) (.k (.c (.int .i64 0))), none⟩])
  (.cond (.t 100) (.seq (.region [⟨(some 4), .mov (.k (.c (.bool false))), none⟩])
  .ret) .skip))
  (.seq (.seq (.region [⟨(some 101), .mov (.t 13), none⟩, ⟨(some 102), .mov (.t 12), none⟩, ⟨(some 103), .bin .neq .int (.t 101) (.t 102), none⟩])
  (.cond (.t 103) (.seq (.region [⟨(some 4), .mov (.k (.c (.bool false))), none⟩])
  .ret) .skip))
  (.seq (.region [⟨(some 4), .mov (.k (.c (.bool true))), none⟩])
  .ret)))))))))))))))))))))))))), [.tmp 4], true⟩
theorem c7 : kk 7 = some k7 := by kernel_rfl
/-- loop.example/g01263/laws.FnExactAddItem -/
def k8 : KF := ⟨104, (.seq (.region [⟨(some 2), .box 32 (.t 0), none⟩, ⟨(some 3), .box 49 (.t 1), none⟩, ⟨(some 4), .mov (.k (.c (.bool false))), none⟩])
  (.seq (.region [⟨(some 5), .mov (.k (.c (.int .i64 1048576))), none⟩])
  (.seq (.region [⟨(some 16), .loadN 3 (.t 2), none⟩, ⟨(some 17), .mov (.t 5), none⟩, ⟨(some 18), .call (.k (.c (.fn 19 []))) [(.t 16), (.t 17)], none⟩, ⟨(some 5), .mov (.t 18), none⟩])
  (.seq (.seq (.region [⟨(some 19), .mov (.t 5), none⟩, ⟨(some 20), .bin .lss .int (.t 19) (.k (.c (.int .i64 0))), none⟩])
  (.cond (.t 20) (.seq (.region [⟨(some 4), .mov (.k (.c (.bool true))), none⟩])
  .ret) .skip))
  (.seq (.drawn [(⟨(some 22), .loadN 3 (.t 2), none⟩, []), (⟨(some 24), .loadN 2 (.t 3), none⟩, []), (⟨(some 23), .call (.k (.c (.fn 21 []))) [(.t 22)], none⟩, [⟨(some 24), .loadN 2 (.t 3), none⟩]), (⟨(some 25), .call (.k (.c (.fn 32 []))) [(.t 24)], none⟩, []), (⟨(some 26), .call (.k (.c (.fn 31 []))) [(.t 23), (.t 25)], none⟩, []), (⟨(some 21), .mov (.t 26), none⟩, []), (⟨(some 27), .ext (.t 21) 0, none⟩, []), (⟨(some 28), .ext (.t 21) 1, none⟩, []), (⟨(some 6), .alloc 36 [(.str ⟨#[]⟩), (.slice none 0 (.exact 0)), (.int .i64 0)], none⟩, [⟨(some 22), .loadN 3 (.t 2), none⟩, ⟨(some 24), .loadN 2 (.t 3), none⟩]), (⟨none, .store 3 (.t 6) (.t 27), none⟩, []), (⟨(some 7), .mov (.t 28), none⟩, [])])
  (.seq (.region [⟨(some 29), .loadN 3 (.t 2), none⟩, ⟨(some 30), .call (.k (.c (.fn 21 []))) [(.t 29)], none⟩, ⟨(some 8), .alloc 36 [(.str ⟨#[]⟩), (.slice none 0 (.exact 0)), (.int .i64 0)], none⟩, ⟨none, .store 3 (.t 8) (.t 30), none⟩])
  (.seq (.drawn [(⟨(some 32), .loadN 3 (.t 8), none⟩, []), (⟨(some 33), .loadN 2 (.t 3), none⟩, []), (⟨(some 34), .call (.k (.c (.fn 32 []))) [(.t 33)], none⟩, [⟨(some 32), .loadN 3 (.t 8), none⟩]), (⟨(some 35), .call (.k (.c (.fn 33 []))) [(.t 32), (.t 34)], none⟩, []), (⟨(some 31), .mov (.t 35), none⟩, []), (⟨(some 36), .ext (.t 31) 0, none⟩, []), (⟨(some 37), .ext (.t 31) 1, none⟩, []), (⟨(some 9), .alloc 36 [(.str ⟨#[]⟩), (.slice none 0 (.exact 0)), (.int .i64 0)], none⟩, [⟨(some 32), .loadN 3 (.t 8), none⟩, ⟨(some 33), .loadN 2 (.t 3), none⟩]), (⟨none, .store 3 (.t 9) (.t 36), none⟩, []), (⟨(some 10), .mov (.t 37), none⟩, [])])
  (.seq (.seq (.region [⟨(some 38), .loadN 3 (.t 9), none⟩, ⟨(some 39), .loadN 3 (.t 6), none⟩, ⟨(some 40), .call (.k (.c (.fn 23 []))) [(.t 38), (.t 39)], none⟩, ⟨(some 41), .un .not (.t 40), none⟩, ⟨(some 42), .mov (.t 41), none⟩, ⟨(some 43), .mov (.t 10), some (42, false)⟩, ⟨(some 44), .mov (.t 7), some (42, false)⟩, ⟨(some 45), .bin .neq .int (.t 43) (.t 44), some (42, false)⟩, ⟨(some 46), .pick (.t 42) (.k (.c (.bool true))) (.t 45), none⟩])
  (.cond (.t 46) (.seq (.region [⟨(some 4), .mov (.k (.c (.bool false))), none⟩])
  .ret) .skip))
  (.seq (.seq (.drawn [(⟨(some 47), .loadN 3 (.t 8), none⟩, []), (⟨(some 48), .loadN 3 (.t 2), none⟩, []), (⟨(some 49), .call (.k (.c (.fn 21 []))) [(.t 48)], none⟩, [⟨(some 47), .loadN 3 (.t 8), none⟩]), (⟨(some 50), .call (.k (.c (.fn 23 []))) [(.t 47), (.t 49)], none⟩, []), (⟨(some 51), .un .not (.t 50), none⟩, [])])
  (.cond (.t 51) (.seq (.region [⟨(some 4), .mov (.k (.c (.bool false))), none⟩])
  .ret) .skip))
  (.seq (.region [⟨(some 11), .mov (.k (.c (.int .i64 1))), none⟩])
  (.seq (.region [⟨(some 52), .loadN 3 (.t 8), none⟩, ⟨(some 53), .mov (.t 11), none⟩, ⟨(some 54), .call (.k (.c (.fn 29 []))) [(.t 52), (.t 53)], none⟩, ⟨(some 11), .mov (.t 54), none⟩])
  (.seq (.seq (.region [⟨(some 55), .mov (.t 11), none⟩, ⟨(some 56), .bin .lss .int (.t 55) (.k (.c (.int .i64 0))), none⟩, ⟨(some 57), .mov (.t 56), none⟩, ⟨(some 58), .loadN 3 (.t 9), some (57, false)⟩, ⟨(some 59), .loadN 3 (.t 6), some (57, false)⟩, ⟨(some 60), .call (.k (.c (.fn 23 []))) [(.t 58), (.t 59)], some (57, false)⟩, ⟨(some 61), .un .not (.t 60), some (57, false)⟩, ⟨(some 62), .pick (.t 57) (.k (.c (.bool true))) (.t 61), none⟩, ⟨(some 63), .mov (.t 62), none⟩, ⟨(some 64), .mov (.t 10), some (63, false)⟩, ⟨(some 65), .mov (.t 7), some (63, false)⟩, ⟨(some 66), .bin .neq .int (.t 64) (.t 65), some (63, false)⟩, ⟨(some 67), .pick (.t 63) (.k (.c (.bool true))) (.t 66), none⟩])
  (.cond (.t 67) (.seq (.region [⟨(some 4), .mov (.k (.c (.bool false))), none⟩])
  .ret) .skip))
  (.seq (.region [⟨(some 12), .mov (.k (.c (.int .i64 1))), none⟩])
  (.seq (.region [⟨(some 68), .loadN 3 (.t 9), none⟩, ⟨(some 69), .mov (.t 12), none⟩, ⟨(some 70), .call (.k (.c (.fn 29 []))) [(.t 68), (.t 69)], none⟩, ⟨(some 12), .mov (.t 70), none⟩])
  (.seq (.region [⟨(some 13), .mov (.k (.c (.int .i64 1))), none⟩])
  (.seq (.region [⟨(some 71), .loadN 3 (.t 9), none⟩, ⟨(some 72), .mov (.t 13), none⟩, ⟨(some 73), .call (.k (.c (.fn 30 []))) [(.t 71), (.t 72)], none⟩, ⟨(some 13), .mov (.t 73), none⟩])
  (.seq (.seq (.region [⟨(some 74), .mov (.t 13), none⟩, ⟨(some 75), .bin .lss .int (.t 74) (.k (.c (.int .i64 0))), none⟩])
  (.cond (.t 75) (.seq (.region [⟨(some 4), .mov (.k (.c (.bool false))), none⟩])
  .ret) .skip))
  (.seq (.seq (.region [⟨(some 76), .mov (.t 13), none⟩, ⟨(some 77), .mov (.t 12), none⟩, ⟨(some 78), .bin .neq .int (.t 76) (.t 77), none⟩])
  (.cond (.t 78) (.seq (.region [⟨(some 4), .mov (.k (.c (.bool false))), none⟩])
  .ret) .skip))
  (.seq (.drawn [(⟨(some 80), .loadN 3 (.t 2), none⟩, []), (⟨(some 82), .loadN 2 (.t 3), none⟩, []), (⟨(some 81), .call (.k (.c (.fn 21 []))) [(.t 80)], none⟩, [⟨(some 82), .loadN 2 (.t 3), none⟩]), (⟨(some 83), .call (.k (.c (.fn 32 []))) [(.t 82)], none⟩, []), (⟨(some 84), .call (.k (.c (.fn 33 []))) [(.t 81), (.t 83)], none⟩, []), (⟨(some 79), .mov (.t 84), none⟩, []), (⟨(some 85), .ext (.t 79) 0, none⟩, []), (⟨(some 86), .ext (.t 79) 1, none⟩, []), (⟨(some 14), .alloc 36 [(.str ⟨#[]⟩), (.slice none 0 (.exact 0)), (.int .i64 0)], none⟩, [⟨(some 80), .loadN 3 (.t 2), none⟩, ⟨(some 82), .loadN 2 (.t 3), none⟩]), (⟨none, .store 3 (.t 14) (.t 85), none⟩, []), (⟨(some 15), .mov (.t 86), none⟩, [])])
  (.seq (.seq (.region [⟨(some 87), .loadN 3 (.t 14), none⟩, ⟨(some 88), .loadN 3 (.t 6), none⟩, ⟨(some 89), .call (.k (.c (.fn 23 []))) [(.t 87), (.t 88)], none⟩, ⟨(some 90), .un .not (.t 89), none⟩, ⟨(some 91), .mov (.t 90), none⟩, ⟨(some 92), .mov (.t 15), some (91, false)⟩, ⟨(some 93), .mov (.t 7), some (91, false)⟩, ⟨(some 94), .bin .neq .int (.t 92) (.t 93), some (91, false)⟩, ⟨(some 95), .pick (.t 91) (.k (.c (.bool true))) (.t 94), none⟩])
  (.cond (.t 95) (.seq (.region [⟨(some 4), .mov (.k (.c (.bool false))), none⟩])
  .ret) .skip))
  (.seq (.region [⟨(some 13), .mov (.k (.c (.int .i64 1))), none⟩])
  (.seq (.region [⟨(some 96), .loadN 3 (.t 9), none⟩, ⟨(some 97), .mov (.t 13), none⟩, ⟨(some 98), .call (.k (.c (.fn 30 []))) [(.t 96), (.t 97)], none⟩, ⟨(some 13), .mov (.t 98), none⟩])
  (.seq (.seq (.region [⟨(some 99), .mov (.t 13), none⟩, ⟨(some 100), .bin .lss .int (.t 99) (.k (.c (.int .i64 0))), none⟩])
  (.cond (.t 100) (.seq (.region [⟨(some 4), .mov (.k (.c (.bool false))), none⟩])
  .ret) .skip))
  (.seq (.seq (.region [⟨(some 101), .mov (.t 13), none⟩, ⟨(some 102), .mov (.t 12), none⟩, ⟨(some 103), .bin .neq .int (.t 101) (.t 102), none⟩])
  (.cond (.t 103) (.seq (.region [⟨(some 4), .mov (.k (.c (.bool false))), none⟩])
  .ret) .skip))
  (.seq (.region [⟨(some 4), .mov (.k (.c (.bool true))), none⟩])
  .ret))))))))))))))))))))))))), [.tmp 4], true⟩
theorem c8 : kk 8 = some k8 := by kernel_rfl
/-- loop.example/g01263/laws.FnExactNextYear -/
def k9 : KF := ⟨101, (.seq (.region [⟨(some 2), .box 32 (.t 0), none⟩, ⟨(some 4), .mov (.k (.c (.bool false))), none⟩])
  (.seq (.region [⟨(some 5), .mov (.k (.c (.int .i64 1048576))), none⟩])
  (.seq (.region [⟨(some 16), .loadN 3 (.t 2), none⟩, ⟨(some 17), .mov (.t 5), none⟩, ⟨(some 18), .call (.k (.c (.fn 19 []))) [(.t 16), (.t 17)], none⟩, ⟨(some 5), .mov (.t 18), none⟩])
  (.seq (.seq (.region [⟨(some 19), .mov (.t 5), none⟩, ⟨(some 20), .bin .lss .int (.t 19) (.k (.c (.int .i64 0))), none⟩])
  (.cond (.t 20) (.seq (.region [⟨(some 4), .mov (.k (.c (.bool true))), none⟩])
  .ret) .skip))
  (.seq (.region [⟨(some 22), .loadN 3 (.t 2), none⟩, ⟨(some 23), .call (.k (.c (.fn 21 []))) [(.t 22)], none⟩, ⟨(some 24), .mov (.t 1), none⟩, ⟨(some 25), .call (.k (.c (.fn 34 []))) [(.t 23), (.t 24)], none⟩, ⟨(some 21), .mov (.t 25), none⟩, ⟨(some 26), .ext (.t 21) 0, none⟩, ⟨(some 27), .ext (.t 21) 1, none⟩, ⟨(some 6), .alloc 36 [(.str ⟨#[]⟩), (.slice none 0 (.exact 0)), (.int .i64 0)], none⟩, ⟨none, .store 3 (.t 6) (.t 26), none⟩, ⟨(some 7), .mov (.t 27), none⟩])
  (.seq (.region [⟨(some 28), .loadN 3 (.t 2), none⟩, ⟨(some 29), .call (.k (.c (.fn 21 []))) [(.t 28)], none⟩, ⟨(some 8), .alloc 36 [(.str ⟨#[]⟩), (.slice none 0 (.exact 0)), (.int .i64 0)], none⟩, ⟨none, .store 3 (.t 8) (.t 29), none⟩])
  (.seq (.region [⟨(some 31), .loadN 3 (.t 8), none⟩, ⟨(some 32), .mov (.t 1), none⟩, ⟨(some 33), .call (.k (.c (.fn 35 []))) [(.t 31), (.t 32)], none⟩, ⟨(some 30), .mov (.t 33), none⟩, ⟨(some 34), .ext (.t 30) 0, none⟩, ⟨(some 35), .ext (.t 30) 1, none⟩, ⟨(some 9), .alloc 36 [(.str ⟨#[]⟩), (.slice none 0 (.exact 0)), (.int .i64 0)], none⟩, ⟨none, .store 3 (.t 9) (.t 34), none⟩, ⟨(some 10), .mov (.t 35), none⟩])
  (.seq (.seq (.region [⟨(some 36), .loadN 3 (.t 9), none⟩, ⟨(some 37), .loadN 3 (.t 6), none⟩, ⟨(some 38), .call (.k (.c (.fn 23 []))) [(.t 36), (.t 37)], none⟩, ⟨(some 39), .un .not (.t 38), none⟩, ⟨(some 40), .mov (.t 39), none⟩, ⟨(some 41), .mov (.t 10), some (40, false)⟩, ⟨(some 42), .mov (.t 7), some (40, false)⟩, ⟨(some 43), .bin .neq .int (.t 41) (.t 42), some (40, false)⟩, ⟨(some 44), .pick (.t 40) (.k (.c (.bool true))) (.t 43), none⟩])
  (.cond (.t 44) (.seq (.region [⟨(some 4), .mov (.k (.c (.bool false))), none⟩])
  .ret) .skip))
  (.seq (.seq (.drawn [(⟨(some 45), .loadN 3 (.t 8), none⟩, []), (⟨(some 46), .loadN 3 (.t 2), none⟩, []), (⟨(some 47), .call (.k (.c (.fn 21 []))) [(.t 46)], none⟩, [⟨(some 45), .loadN 3 (.t 8), none⟩]), (⟨(some 48), .call (.k (.c (.fn 23 []))) [(.t 45), (.t 47)], none⟩, []), (⟨(some 49), .un .not (.t 48), none⟩, [])])
  (.cond (.t 49) (.seq (.region [⟨(some 4), .mov (.k (.c (.bool false))), none⟩])
  .ret) .skip))
  (.seq (.region [⟨(some 11), .mov (.k (.c (.int .i64 1))), none⟩])
  (.seq (.region [⟨(some 50), .loadN 3 (.t 8), none⟩, ⟨(some 51), .mov (.t 11), none⟩, ⟨(some 52), .call (.k (.c (.fn 29 []))) [(.t 50), (.t 51)], none⟩, ⟨(some 11), .mov (.t 52), none⟩])
  (.seq (.seq (.region [⟨(some 53), .mov (.t 11), none⟩, ⟨(some 54), .bin .lss .int (.t 53) (.k (.c (.int .i64 0))), none⟩, ⟨(some 55), .mov (.t 54), none⟩, ⟨(some 56), .loadN 3 (.t 9), some (55, false)⟩, ⟨(some 57), .loadN 3 (.t 6), some (55, false)⟩, ⟨(some 58), .call (.k (.c (.fn 23 []))) [(.t 56), (.t 57)], some (55, false)⟩, ⟨(some 59), .un .not (.t 58), some (55, false)⟩, ⟨(some 60), .pick (.t 55) (.k (.c (.bool true))) (.t 59), none⟩, ⟨(some 61), .mov (.t 60), none⟩, ⟨(some 62), .mov (.t 10), some (61, false)⟩, ⟨(some 63), .mov (.t 7), some (61, false)⟩, ⟨(some 64), .bin .neq .int (.t 62) (.t 63), some (61, false)⟩, ⟨(some 65), .pick (.t 61) (.k (.c (.bool true))) (.t 64), none⟩])
  (.cond (.t 65) (.seq (.region [⟨(some 4), .mov (.k (.c (.bool false))), none⟩])
  .ret) .skip))
  (.seq (.region [⟨(some 12), .mov (.k (.c (.int .i64 1))), none⟩])
  (.seq (.region [⟨(some 66), .loadN 3 (.t 9), none⟩, ⟨(some 67), .mov (.t 12), none⟩, ⟨(some 68), .call (.k (.c (.fn 29 []))) [(.t 66), (.t 67)], none⟩, ⟨(some 12), .mov (.t 68), none⟩])
  (.seq (.region [⟨(some 13), .mov (.k (.c (.int .i64 1))), none⟩])
  (.seq (.region [⟨(some 69), .loadN 3 (.t 9), none⟩, ⟨(some 70), .mov (.t 13), none⟩, ⟨(some 71), .call (.k (.c (.fn 30 []))) [(.t 69), (.t 70)], none⟩, ⟨(some 13), .mov (.t 71), none⟩])
  (.seq (.seq (.region [⟨(some 72), .mov (.t 13), none⟩, ⟨(some 73), .bin .lss .int (.t 72) (.k (.c (.int .i64 0))), none⟩])
  (.cond (.t 73) (.seq (.region [⟨(some 4), .mov (.k (.c (.bool false))), none⟩])
  .ret) .skip))
  (.seq (.seq (.region [⟨(some 74), .mov (.t 13), none⟩, ⟨(some 75), .mov (.t 12), none⟩, ⟨(some 76), .bin .neq .int (.t 74) (.t 75), none⟩])
  (.cond (.t 76) (.seq (.region [⟨(some 4), .mov (.k (.c (.bool false))), none⟩])
  .ret) .skip))
  (.seq (.region [⟨(some 78), .loadN 3 (.t 2), none⟩, ⟨(some 79), .call (.k (.c (.fn 21 []))) [(.t 78)], none⟩, ⟨(some 80), .mov (.t 1), none⟩, ⟨(some 81), .call (.k (.c (.fn 35 []))) [(.t 79), (.t 80)], none⟩, ⟨(some 77), .mov (.t 81), none⟩, ⟨(some 82), .ext (.t 77) 0, none⟩, ⟨(some 83), .ext (.t 77) 1, none⟩, ⟨(some 14), .alloc 36 [(.str ⟨#[]⟩), (.slice none 0 (.exact 0)), (.int .i64 0)], none⟩, ⟨none, .store 3 (.t 14) (.t 82), none⟩, ⟨(some 15), .mov (.t 83), none⟩])
  (.seq (.seq (.region [⟨(some 84), .loadN 3 (.t 14), none⟩, ⟨(some 85), .loadN 3 (.t 6), none⟩, ⟨(some 86), .call (.k (.c (.fn 23 []))) [(.t 84), (.t 85)], none⟩, ⟨(some 87), .un .not (.t 86), none⟩, ⟨(some 88), .mov (.t 87), none⟩, ⟨(some 89), .mov (.t 15), some (88, false)⟩, ⟨(some 90), .mov (.t 7), some (88, false)⟩, ⟨(some 91), .bin .neq .int (.t 89) (.t 90), some (88, false)⟩, ⟨(some 92), .pick (.t 88) (.k (.c (.bool true))) (.t 91), none⟩])
  (.cond (.t 92) (.seq (.region [⟨(some 4), .mov (.k (.c (.bool false))), none⟩])
  .ret) .skip))
  (.seq (.region [⟨(some 13), .mov (.k (.c (.int .i64 1))), none⟩])
  (.seq (.region [⟨(some 93), .loadN 3 (.t 9), none⟩, ⟨(some 94), .mov (.t 13), none⟩, ⟨(some 95), .call (.k (.c (.fn 30 []))) [(.t 93), (.t 94)], none⟩, ⟨(some 13), .mov (.t 95), none⟩])
  (.seq (.seq (.region [⟨(some 96), .mov (.t 13), none⟩, ⟨(some 97), .bin .lss .int (.t 96) (.k (.c (.int .i64 0))), none⟩])
  (.cond (.t 97) (.seq (.region [⟨(some 4), .mov (.k (.c (.bool false))), none⟩])
  .ret) .skip))
  (.seq (.seq (.region [⟨(some 98), .mov (.t 13), none⟩, ⟨(some 99), .mov (.t 12), none⟩, ⟨(some 100), .bin .neq .int (.t 98) (.t 99), none⟩])
  (.cond (.t 100) (.seq (.region [⟨(some 4), .mov (.k (.c (.bool false))), none⟩])
  .ret) .skip))
  (.seq (.region [⟨(some 4), .mov (.k (.c (.bool true))), none⟩])
  .ret))))))))))))))))))))))))), [.tmp 4], true⟩
theorem c9 : kk 9 = some k9 := by kernel_rfl
/-- loop.example/g01263/laws.FnExactFirstFault -/
def k10 : KF := ⟨40, (.seq (.region [⟨(some 1), .box 58 (.t 0), none⟩, ⟨(some 2), .mov (.k (.c (.bool false))), none⟩])
  (.seq (.region [⟨(some 3), .mov (.k (.c (.int .i64 1048576))), none⟩])
  (.seq (.region [⟨(some 9), .loadN 2 (.t 1), none⟩, ⟨(some 10), .mov (.t 3), none⟩, ⟨(some 11), .call (.k (.c (.fn 36 []))) [(.t 9), (.t 10)], none⟩, ⟨(some 3), .mov (.t 11), none⟩])
  (.seq (.seq (.region [⟨(some 12), .mov (.t 3), none⟩, ⟨(some 13), .bin .lss .int (.t 12) (.k (.c (.int .i64 0))), none⟩])
  (.cond (.t 13) (.seq (.region [⟨(some 2), .mov (.k (.c (.bool true))), none⟩])
  .ret) .skip))
  (.seq (.region [⟨(some 15), .loadN 2 (.t 1), none⟩, ⟨(some 16), .call (.k (.c (.fn 38 []))) [(.t 15)], none⟩, ⟨(some 17), .call (.k (.c (.fn 37 []))) [(.t 16)], none⟩, ⟨(some 14), .mov (.t 17), none⟩, ⟨(some 18), .ext (.t 14) 0, none⟩, ⟨(some 19), .ext (.t 14) 1, none⟩, ⟨(some 4), .mov (.t 18), none⟩, ⟨(some 5), .mov (.t 19), none⟩])
  (.seq (.region [⟨(some 20), .loadN 2 (.t 1), none⟩, ⟨(some 21), .call (.k (.c (.fn 38 []))) [(.t 20)], none⟩, ⟨(some 6), .alloc 63 [(.slice none 0 (.exact 0)), (.int .i64 0)], none⟩, ⟨none, .store 2 (.t 6) (.t 21), none⟩])
  (.seq (.region [⟨(some 23), .loadN 2 (.t 6), none⟩, ⟨(some 24), .call (.k (.c (.fn 39 []))) [(.t 23)], none⟩, ⟨(some 22), .mov (.t 24), none⟩, ⟨(some 25), .ext (.t 22) 0, none⟩, ⟨(some 26), .ext (.t 22) 1, none⟩, ⟨(some 7), .mov (.t 25), none⟩, ⟨(some 8), .mov (.t 26), none⟩])
  (.seq (.seq (.region [⟨(some 27), .mov (.t 7), none⟩, ⟨(some 28), .mov (.t 4), none⟩, ⟨(some 29), .bin .neq .int (.t 27) (.t 28), none⟩, ⟨(some 30), .mov (.t 29), none⟩, ⟨(some 31), .mov (.t 8), some (30, false)⟩, ⟨(some 32), .mov (.t 5), some (30, false)⟩, ⟨(some 33), .bin .neq .int (.t 31) (.t 32), some (30, false)⟩, ⟨(some 34), .pick (.t 30) (.k (.c (.bool true))) (.t 33), none⟩])
  (.cond (.t 34) (.seq (.region [⟨(some 2), .mov (.k (.c (.bool false))), none⟩])
  .ret) .skip))
  (.seq (.seq (.drawn [(⟨(some 35), .loadN 2 (.t 6), none⟩, []), (⟨(some 36), .loadN 2 (.t 1), none⟩, []), (⟨(some 37), .call (.k (.c (.fn 38 []))) [(.t 36)], none⟩, [⟨(some 35), .loadN 2 (.t 6), none⟩]), (⟨(some 38), .call (.k (.c (.fn 40 []))) [(.t 35), (.t 37)], none⟩, []), (⟨(some 39), .un .not (.t 38), none⟩, [])])
  (.cond (.t 39) (.seq (.region [⟨(some 2), .mov (.k (.c (.bool false))), none⟩])
  .ret) .skip))
  (.seq (.region [⟨(some 2), .mov (.k (.c (.bool true))), none⟩])
  .ret)))))))))), [.tmp 2], true⟩
theorem c10 : kk 10 = some k10 := by kernel_rfl
/-- loop.example/g01263/laws.FnExactFindAccount -/
def k11 : KF := ⟨47, (.seq (.region [⟨(some 2), .box 58 (.t 0), none⟩, ⟨(some 4), .mov (.k (.c (.bool false))), none⟩])
  (.seq (.seq (.region [⟨(some 11), .mov (.t 1), none⟩, ⟨(some 12), .len true (.t 11), none⟩, ⟨(some 13), .bin .gtr .int (.t 12) (.k (.c (.int .i64 1048576))), none⟩])
  (.cond (.t 13) (.seq (.region [⟨(some 4), .mov (.k (.c (.bool true))), none⟩])
  .ret) .skip))
  (.seq (.region [⟨(some 5), .mov (.k (.c (.int .i64 1048576))), none⟩])
  (.seq (.region [⟨(some 14), .loadN 2 (.t 2), none⟩, ⟨(some 15), .mov (.t 5), none⟩, ⟨(some 16), .call (.k (.c (.fn 36 []))) [(.t 14), (.t 15)], none⟩, ⟨(some 5), .mov (.t 16), none⟩])
  (.seq (.seq (.region [⟨(some 17), .mov (.t 5), none⟩, ⟨(some 18), .bin .lss .int (.t 17) (.k (.c (.int .i64 0))), none⟩])
  (.cond (.t 18) (.seq (.region [⟨(some 4), .mov (.k (.c (.bool true))), none⟩])
  .ret) .skip))
  (.seq (.region [⟨(some 20), .loadN 2 (.t 2), none⟩, ⟨(some 21), .call (.k (.c (.fn 38 []))) [(.t 20)], none⟩, ⟨(some 22), .mov (.t 1), none⟩, ⟨(some 23), .call (.k (.c (.fn 41 []))) [(.t 21), (.t 22)], none⟩, ⟨(some 19), .mov (.t 23), none⟩, ⟨(some 24), .ext (.t 19) 0, none⟩, ⟨(some 25), .ext (.t 19) 1, none⟩, ⟨(some 6), .mov (.t 24), none⟩, ⟨(some 7), .mov (.t 25), none⟩])
  (.seq (.region [⟨(some 26), .loadN 2 (.t 2), none⟩, ⟨(some 27), .call (.k (.c (.fn 38 []))) [(.t 26)], none⟩, ⟨(some 8), .alloc 63 [(.slice none 0 (.exact 0)), (.int .i64 0)], none⟩, ⟨none, .store 2 (.t 8) (.t 27), none⟩])
  (.seq (.region [⟨(some 29), .loadN 2 (.t 8), none⟩, ⟨(some 30), .mov (.t 1), none⟩, ⟨(some 31), .call (.k (.c (.fn 42 []))) [(.t 29), (.t 30)], none⟩, ⟨(some 28), .mov (.t 31), none⟩, ⟨(some 32), .ext (.t 28) 0, none⟩, ⟨(some 33), .ext (.t 28) 1, none⟩, ⟨(some 9), .mov (.t 32), none⟩, ⟨(some 10), .mov (.t 33), none⟩])
  (.seq (.seq (.region [⟨(some 34), .mov (.t 9), none⟩, ⟨(some 35), .mov (.t 6), none⟩, ⟨(some 36), .bin .neq .int (.t 34) (.t 35), none⟩, ⟨(some 37), .mov (.t 36), none⟩, ⟨(some 38), .mov (.t 10), some (37, false)⟩, ⟨(some 39), .mov (.t 7), some (37, false)⟩, ⟨(some 40), .bin .neq .int (.t 38) (.t 39), some (37, false)⟩, ⟨(some 41), .pick (.t 37) (.k (.c (.bool true))) (.t 40), none⟩])
  (.cond (.t 41) (.seq (.region [⟨(some 4), .mov (.k (.c (.bool false))), none⟩])
  .ret) .skip))
  (.seq (.seq (.drawn [(⟨(some 42), .loadN 2 (.t 8), none⟩, []), (⟨(some 43), .loadN 2 (.t 2), none⟩, []), (⟨(some 44), .call (.k (.c (.fn 38 []))) [(.t 43)], none⟩, [⟨(some 42), .loadN 2 (.t 8), none⟩]), (⟨(some 45), .call (.k (.c (.fn 40 []))) [(.t 42), (.t 44)], none⟩, []), (⟨(some 46), .un .not (.t 45), none⟩, [])])
  (.cond (.t 46) (.seq (.region [⟨(some 4), .mov (.k (.c (.bool false))), none⟩])
  .ret) .skip))
  (.seq (.region [⟨(some 4), .mov (.k (.c (.bool true))), none⟩])
  .ret))))))))))), [.tmp 4], true⟩
theorem c11 : kk 11 = some k11 := by kernel_rfl
/-- loop.example/g01263/laws.szItemS -/
def k12 : KF := ⟨12, (.seq (.region [⟨(some 4), .mov (.k (.c (.int .i64 0))), none⟩])
  (.seq (.region [⟨(some 5), .mov (.t 1), none⟩, ⟨(some 6), .mov (.t 0), none⟩, ⟨(some 7), .len false (.t 6), none⟩, ⟨(some 8), .bin .sub .int (.t 5) (.t 7), none⟩, ⟨(some 1), .mov (.t 8), none⟩])
  (.seq (.seq (.region [⟨(some 9), .mov (.t 1), none⟩, ⟨(some 10), .bin .lss .int (.t 9) (.k (.c (.int .i64 0))), none⟩])
  (.cond (.t 10) (.seq (.region [⟨(some 4), .mov (.k (.c (.int .i64 (-1)))), none⟩])
  .ret) .skip))
  (.seq (.region [⟨(some 11), .mov (.t 1), none⟩, ⟨(some 4), .mov (.t 11), none⟩])
  .ret)))), [.tmp 4], true⟩
theorem c12 : kk 12 = some k12 := by kernel_rfl
/-- loop.example/g01263/spec.ValidItems -/
def k13 : KF := ⟨5, (.seq (.region [⟨(some 2), .mov (.k (.c (.bool false))), none⟩])
  (.seq (.region [⟨(some 3), .mov (.t 0), none⟩, ⟨(some 4), .call (.k (.c (.fn 43 []))) [(.t 3)], none⟩, ⟨(some 2), .mov (.t 4), none⟩])
  .ret)), [.tmp 2], true⟩
theorem c13 : kk 13 = some k13 := by kernel_rfl
/-- loop.example/g01263/laws.toItemS -/
def l14_0 : KC := (.seq (.seq (.region [⟨(some 8), .mov (.t 4), none⟩, ⟨(some 9), .mov (.t 0), none⟩, ⟨(some 10), .len false (.t 9), none⟩, ⟨(some 11), .bin .lss .int (.t 8) (.t 10), none⟩])
  (.cond (.t 11) .skip (.exit 0)))
  (.seq (.block 1 (.region [⟨(some 14), .mov (.t 3), none⟩, ⟨(some 15), .mov (.t 4), none⟩, ⟨(some 16), .mov (.t 0), none⟩, ⟨(some 17), .mov (.t 4), none⟩, ⟨(some 18), .idxS 2 (.t 16) (.t 17), none⟩, ⟨(some 19), .loadN 2 (.t 18), none⟩, ⟨(some 20), .call (.k (.c (.fn 32 []))) [(.t 19)], none⟩, ⟨(some 21), .idxS 2 (.t 14) (.t 15), none⟩, ⟨none, .store 2 (.t 21) (.t 20), none⟩]))
  (.region [⟨(some 12), .mov (.t 4), none⟩, ⟨(some 13), .bin .add .int (.t 12) (.k (.c (.int .i64 1))), none⟩, ⟨(some 4), .mov (.t 13), none⟩])))
def k14 : KF := ⟨23, (.seq (.region [⟨(some 2), .mov (.k (.c (.slice none 0 (.exact 0)))), none⟩])
  (.seq (.region [⟨(some 5), .mov (.t 0), none⟩, ⟨(some 6), .len false (.t 5), none⟩, ⟨(some 7), .mkSl 51 [(.int .i8 0), (.int .i64 0)] 16 (.t 6) (.t 6), none⟩, ⟨(some 3), .mov (.t 7), none⟩])
  (.seq (.seq (.region [⟨(some 4), .mov (.k (.c (.int .i64 0))), none⟩])
  (.block 0 (.loop l14_0)))
  (.seq (.region [⟨(some 22), .mov (.t 3), none⟩, ⟨(some 2), .mov (.t 22), none⟩])
  .ret)))), [.tmp 2], false⟩
theorem c14 : kk 14 = some k14 := by kernel_rfl
/-- loop.example/g01263/impl.ValidItems -/
def l15_0 : KC := (.seq (.region [⟨(some 8), .bin .lss .int (.t 7) (.t 6), none⟩])
  (.seq (.cond (.t 8) .skip (.exit 0))
  (.seq (.block 1 (.seq (.region [⟨(some 9), .idxS 2 (.t 5) (.t 7), none⟩, ⟨(some 10), .loadN 2 (.t 9), none⟩, ⟨(some 4), .alloc 51 [(.int .i8 0), (.int .i64 0)], none⟩, ⟨none, .store 2 (.t 4) (.t 10), none⟩])
  (.seq (.region [⟨(some 11), .loadN 2 (.t 4), none⟩, ⟨(some 12), .call (.k (.c (.fn 44 []))) [(.t 11)], none⟩, ⟨(some 13), .un .not (.t 12), none⟩])
  (.cond (.t 13) (.seq (.region [⟨(some 2), .mov (.k (.c (.bool false))), none⟩])
  .ret) .skip))))
  (.region [⟨(some 14), .bin .add .int (.t 7) (.k (.c (.int .i64 1))), none⟩, ⟨(some 7), .mov (.t 14), none⟩]))))
def k15 : KF := ⟨18, (.seq (.region [⟨(some 2), .mov (.k (.c (.bool false))), none⟩])
  (.seq (.seq (.region [⟨(some 5), .mov (.t 0), none⟩, ⟨(some 6), .len false (.t 5), none⟩, ⟨(some 7), .mov (.k (.c (.int .i64 0))), none⟩])
  (.block 0 (.loop l15_0)))
  (.seq (.region [⟨(some 15), .mov (.t 0), none⟩, ⟨(some 16), .len false (.t 15), none⟩, ⟨(some 17), .bin .leq .int (.t 16) (.k (.c (.int .i64 40))), none⟩, ⟨(some 2), .mov (.t 17), none⟩])
  .ret))), [.tmp 2], true⟩
theorem c15 : kk 15 = some k15 := by kernel_rfl
/-- loop.example/g01263/laws.eqItemS -/
def l16_0 : KC := (.seq (.seq (.region [⟨(some 11), .mov (.t 5), none⟩, ⟨(some 12), .mov (.t 0), none⟩, ⟨(some 13), .len false (.t 12), none⟩, ⟨(some 14), .bin .lss .int (.t 11) (.t 13), none⟩])
  (.cond (.t 14) .skip (.exit 0)))
  (.seq (.block 1 (.seq (.drawn [(⟨(some 17), .mov (.t 0), none⟩, []), (⟨(some 18), .mov (.t 5), none⟩, []), (⟨(some 19), .idxS 2 (.t 17) (.t 18), none⟩, []), (⟨(some 20), .loadN 2 (.t 19), none⟩, []), (⟨(some 21), .mov (.t 1), none⟩, []), (⟨(some 22), .mov (.t 5), none⟩, []), (⟨(some 23), .idxS 2 (.t 21) (.t 22), none⟩, []), (⟨(some 24), .loadN 2 (.t 23), none⟩, []), (⟨(some 25), .call (.k (.c (.fn 45 []))) [(.t 20), (.t 24)], none⟩, []), (⟨(some 26), .un .not (.t 25), none⟩, [])])
  (.cond (.t 26) (.seq (.region [⟨(some 4), .mov (.k (.c (.bool false))), none⟩])
  .ret) .skip)))
  (.region [⟨(some 15), .mov (.t 5), none⟩, ⟨(some 16), .bin .add .int (.t 15) (.k (.c (.int .i64 1))), none⟩, ⟨(some 5), .mov (.t 16), none⟩])))
def k16 : KF := ⟨27, (.seq (.region [⟨(some 4), .mov (.k (.c (.bool false))), none⟩])
  (.seq (.seq (.region [⟨(some 6), .mov (.t 0), none⟩, ⟨(some 7), .len false (.t 6), none⟩, ⟨(some 8), .mov (.t 1), none⟩, ⟨(some 9), .len false (.t 8), none⟩, ⟨(some 10), .bin .neq .int (.t 7) (.t 9), none⟩])
  (.cond (.t 10) (.seq (.region [⟨(some 4), .mov (.k (.c (.bool false))), none⟩])
  .ret) .skip))
  (.seq (.seq (.region [⟨(some 5), .mov (.k (.c (.int .i64 0))), none⟩])
  (.block 0 (.loop l16_0)))
  (.seq (.region [⟨(some 4), .mov (.k (.c (.bool true))), none⟩])
  .ret)))), [.tmp 4], true⟩
theorem c16 : kk 16 = some k16 := by kernel_rfl
/-- loop.example/g01263/spec.BalanceOf -/
def k17 : KF := ⟨9, (.seq (.region [⟨(some 2), .mov (.k (.c (.int .i64 0))), none⟩, ⟨(some 3), .mov (.k (.c (.int .i64 0))), none⟩])
  (.seq (.seq (.region [⟨(some 4), .mov (.t 0), none⟩, ⟨(some 5), .call (.k (.c (.fn 43 []))) [(.t 4)], none⟩, ⟨(some 6), .un .not (.t 5), none⟩])
  (.cond (.t 6) (.seq (.region [⟨(some 2), .mov (.k (.c (.int .i64 0))), none⟩, ⟨(some 3), .mov (.k (.c (.int .i64 1))), none⟩])
  .ret) .skip))
  (.seq (.region [⟨(some 7), .mov (.t 0), none⟩, ⟨(some 8), .call (.k (.c (.fn 46 []))) [(.t 7)], none⟩, ⟨(some 2), .mov (.t 8), none⟩, ⟨(some 3), .mov (.k (.c (.int .i64 0))), none⟩])
  .ret))), [.tmp 2, .tmp 3], true⟩
theorem c17 : kk 17 = some k17 := by kernel_rfl
/-- loop.example/g01263/impl.BalanceOf -/
def k18 : KF := ⟨9, (.seq (.region [⟨(some 2), .mov (.k (.c (.int .i64 0))), none⟩, ⟨(some 3), .mov (.k (.c (.int .i64 0))), none⟩])
  (.seq (.seq (.region [⟨(some 4), .mov (.t 0), none⟩, ⟨(some 5), .call (.k (.c (.fn 15 []))) [(.t 4)], none⟩, ⟨(some 6), .un .not (.t 5), none⟩])
  (.cond (.t 6) (.seq (.region [⟨(some 2), .mov (.k (.c (.int .i64 0))), none⟩, ⟨(some 3), .mov (.k (.c (.int .i64 1))), none⟩])
  .ret) .skip))
  (.seq (.region [⟨(some 7), .mov (.t 0), none⟩, ⟨(some 8), .call (.k (.c (.fn 47 []))) [(.t 7)], none⟩, ⟨(some 2), .mov (.t 8), none⟩, ⟨(some 3), .mov (.k (.c (.int .i64 0))), none⟩])
  .ret))), [.tmp 2, .tmp 3], true⟩
theorem c18 : kk 18 = some k18 := by kernel_rfl
/-- loop.example/g01263/laws.szAccount -/
def k19 : KF := ⟨19, (.seq (.region [⟨(some 2), .box 32 (.t 0), none⟩, ⟨(some 4), .mov (.k (.c (.int .i64 0))), none⟩])
  (.seq (.region [⟨(some 5), .mov (.t 1), none⟩, ⟨(some 6), .fldA 0 (.t 2), none⟩, ⟨(some 7), .load1 (.t 6), none⟩, ⟨(some 8), .len true (.t 7), none⟩, ⟨(some 9), .bin .sub .int (.t 5) (.t 8), none⟩, ⟨(some 1), .mov (.t 9), none⟩])
  (.seq (.seq (.region [⟨(some 10), .mov (.t 1), none⟩, ⟨(some 11), .bin .lss .int (.t 10) (.k (.c (.int .i64 0))), none⟩])
  (.cond (.t 11) (.seq (.region [⟨(some 4), .mov (.k (.c (.int .i64 (-1)))), none⟩])
  .ret) .skip))
  (.seq (.region [⟨(some 12), .fldA 1 (.t 2), none⟩, ⟨(some 13), .load1 (.t 12), none⟩, ⟨(some 14), .mov (.t 1), none⟩, ⟨(some 15), .call (.k (.c (.fn 12 []))) [(.t 13), (.t 14)], none⟩, ⟨(some 1), .mov (.t 15), none⟩])
  (.seq (.seq (.region [⟨(some 16), .mov (.t 1), none⟩, ⟨(some 17), .bin .lss .int (.t 16) (.k (.c (.int .i64 0))), none⟩])
  (.cond (.t 17) (.seq (.region [⟨(some 4), .mov (.k (.c (.int .i64 (-1)))), none⟩])
  .ret) .skip))
  (.seq (.region [⟨(some 18), .mov (.t 1), none⟩, ⟨(some 4), .mov (.t 18), none⟩])
  .ret)))))), [.tmp 4], true⟩
theorem c19 : kk 19 = some k19 := by kernel_rfl
/-- loop.example/g01263/spec.CheckAccount -/
def k20 : KF := ⟨4, (.seq (.region [⟨(some 1), .box 36 (.t 0), none⟩, ⟨(some 2), .mov (.k (.c (.bool false))), none⟩])
  (.seq (.region [⟨(some 3), .call (.k (.c (.fn 48 []))) [(.t 1)], none⟩, ⟨(some 2), .mov (.t 3), none⟩])
  .ret)), [.tmp 2], true⟩
theorem c20 : kk 20 = some k20 := by kernel_rfl
/-- loop.example/g01263/laws.toAccount -/
def k21 : KF := ⟨15, (.seq (.region [⟨(some 1), .box 32 (.t 0), none⟩, ⟨(some 2), .alloc 36 [(.str ⟨#[]⟩), (.slice none 0 (.exact 0)), (.int .i64 0)], none⟩])
  (.seq (.region [⟨(some 3), .alloc 36 [(.str ⟨#[]⟩), (.slice none 0 (.exact 0)), (.int .i64 0)], none⟩])
  (.seq (.region [⟨(some 4), .fldA 0 (.t 1), none⟩, ⟨(some 5), .load1 (.t 4), none⟩, ⟨(some 6), .fldA 0 (.t 3), none⟩, ⟨none, .store 1 (.t 6) (.t 5), none⟩])
  (.seq (.region [⟨(some 7), .fldA 1 (.t 1), none⟩, ⟨(some 8), .load1 (.t 7), none⟩, ⟨(some 9), .call (.k (.c (.fn 14 []))) [(.t 8)], none⟩, ⟨(some 10), .fldA 1 (.t 3), none⟩, ⟨none, .store 1 (.t 10) (.t 9), none⟩])
  (.seq (.region [⟨(some 11), .fldA 2 (.t 1), none⟩, ⟨(some 12), .load1 (.t 11), none⟩, ⟨(some 13), .fldA 2 (.t 3), none⟩, ⟨none, .store 1 (.t 13) (.t 12), none⟩])
  (.seq (.region [⟨(some 14), .loadN 3 (.t 3), none⟩, ⟨none, .store 3 (.t 2) (.t 14), none⟩])
  .ret)))))), [.cellN 2 3], false⟩
theorem c21 : kk 21 = some k21 := by kernel_rfl
/-- loop.example/g01263/impl.CheckAccount -/
def k22 : KF := ⟨19, (.seq (.region [⟨(some 1), .box 36 (.t 0), none⟩, ⟨(some 2), .mov (.k (.c (.bool false))), none⟩])
  (.seq (.drawn [(⟨(some 3), .fldA 0 (.t 1), none⟩, []), (⟨(some 4), .load1 (.t 3), none⟩, []), (⟨(some 5), .call (.k (.c (.fn 49 []))) [(.t 4), (.k (.c (.int .i64 16)))], none⟩, []), (⟨(some 6), .mov (.t 5), none⟩, []), (⟨(some 7), .fldA 1 (.t 1), some (6, true)⟩, []), (⟨(some 8), .load1 (.t 7), some (6, true)⟩, []), (⟨(some 9), .call (.k (.c (.fn 15 []))) [(.t 8)], some (6, true)⟩, []), (⟨(some 10), .pick (.t 6) (.t 9) (.k (.c (.bool false))), none⟩, []), (⟨(some 11), .mov (.t 10), none⟩, []), (⟨(some 12), .fldA 2 (.t 1), some (11, true)⟩, []), (⟨(some 13), .load1 (.t 12), some (11, true)⟩, []), (⟨(some 14), .fldA 1 (.t 1), some (11, true)⟩, []), (⟨(some 15), .load1 (.t 14), some (11, true)⟩, []), (⟨(some 16), .call (.k (.c (.fn 47 []))) [(.t 15)], some (11, true)⟩, [⟨(some 13), .load1 (.t 12), some (11, true)⟩]), (⟨(some 17), .bin .eql .int (.t 13) (.t 16), some (11, true)⟩, []), (⟨(some 18), .pick (.t 11) (.t 17) (.k (.c (.bool false))), none⟩, []), (⟨(some 2), .mov (.t 18), none⟩, [])])
  .ret)), [.tmp 2], true⟩
theorem c22 : kk 22 = some k22 := by kernel_rfl
/-- loop.example/g01263/laws.eqAccount -/
def k23 : KF := ⟨21, (.seq (.region [⟨(some 2), .box 36 (.t 0), none⟩, ⟨(some 3), .box 36 (.t 1), none⟩, ⟨(some 4), .mov (.k (.c (.bool false))), none⟩])
  (.seq (.seq (.region [⟨(some 5), .fldA 0 (.t 2), none⟩, ⟨(some 6), .load1 (.t 5), none⟩, ⟨(some 7), .fldA 0 (.t 3), none⟩, ⟨(some 8), .load1 (.t 7), none⟩, ⟨(some 9), .bin .neq .str (.t 6) (.t 8), none⟩])
  (.cond (.t 9) (.seq (.region [⟨(some 4), .mov (.k (.c (.bool false))), none⟩])
  .ret) .skip))
  (.seq (.seq (.region [⟨(some 10), .fldA 1 (.t 2), none⟩, ⟨(some 11), .load1 (.t 10), none⟩, ⟨(some 12), .fldA 1 (.t 3), none⟩, ⟨(some 13), .load1 (.t 12), none⟩, ⟨(some 14), .call (.k (.c (.fn 16 []))) [(.t 11), (.t 13)], none⟩, ⟨(some 15), .un .not (.t 14), none⟩])
  (.cond (.t 15) (.seq (.region [⟨(some 4), .mov (.k (.c (.bool false))), none⟩])
  .ret) .skip))
  (.seq (.seq (.region [⟨(some 16), .fldA 2 (.t 2), none⟩, ⟨(some 17), .load1 (.t 16), none⟩, ⟨(some 18), .fldA 2 (.t 3), none⟩, ⟨(some 19), .load1 (.t 18), none⟩, ⟨(some 20), .bin .neq .int (.t 17) (.t 19), none⟩])
  (.cond (.t 20) (.seq (.region [⟨(some 4), .mov (.k (.c (.bool false))), none⟩])
  .ret) .skip))
  (.seq (.region [⟨(some 4), .mov (.k (.c (.bool true))), none⟩])
  .ret))))), [.tmp 4], true⟩
theorem c23 : kk 23 = some k23 := by kernel_rfl
/-- loop.example/g01263/spec.IsQuit -/
def k24 : KF := ⟨9, (.seq (.region [⟨(some 1), .box 36 (.t 0), none⟩, ⟨(some 2), .mov (.k (.c (.bool false))), none⟩, ⟨(some 3), .mov (.k (.c (.int .i64 0))), none⟩])
  (.seq (.seq (.region [⟨(some 4), .call (.k (.c (.fn 48 []))) [(.t 1)], none⟩, ⟨(some 5), .un .not (.t 4), none⟩])
  (.cond (.t 5) (.seq (.region [⟨(some 2), .mov (.k (.c (.bool false))), none⟩, ⟨(some 3), .mov (.k (.c (.int .i64 1))), none⟩])
  .ret) .skip))
  (.seq (.region [⟨(some 6), .fldA 2 (.t 1), none⟩, ⟨(some 7), .load1 (.t 6), none⟩, ⟨(some 8), .bin .eql .int (.t 7) (.k (.c (.int .i64 0))), none⟩, ⟨(some 2), .mov (.t 8), none⟩, ⟨(some 3), .mov (.k (.c (.int .i64 0))), none⟩])
  .ret))), [.tmp 2, .tmp 3], true⟩
theorem c24 : kk 24 = some k24 := by kernel_rfl
/-- loop.example/g01263/impl.IsQuit -/
def k25 : KF := ⟨10, (.seq (.region [⟨(some 1), .box 36 (.t 0), none⟩, ⟨(some 2), .mov (.k (.c (.bool false))), none⟩, ⟨(some 3), .mov (.k (.c (.int .i64 0))), none⟩])
  (.seq (.seq (.region [⟨(some 4), .loadN 3 (.t 1), none⟩, ⟨(some 5), .call (.k (.c (.fn 22 []))) [(.t 4)], none⟩, ⟨(some 6), .un .not (.t 5), none⟩])
  (.cond (.t 6) (.seq (.region [⟨(some 2), .mov (.k (.c (.bool false))), none⟩, ⟨(some 3), .mov (.k (.c (.int .i64 1))), none⟩])
  .ret) .skip))
  (.seq (.region [⟨(some 7), .fldA 2 (.t 1), none⟩, ⟨(some 8), .load1 (.t 7), none⟩, ⟨(some 9), .bin .eql .int (.t 8) (.k (.c (.int .i64 0))), none⟩, ⟨(some 2), .mov (.t 9), none⟩, ⟨(some 3), .mov (.k (.c (.int .i64 0))), none⟩])
  .ret))), [.tmp 2, .tmp 3], true⟩
theorem c25 : kk 25 = some k25 := by kernel_rfl
/-- loop.example/g01263/spec.MakeAccount -/
def k26 : KF := ⟨17, (.seq (.region [⟨(some 4), .alloc 36 [(.str ⟨#[]⟩), (.slice none 0 (.exact 0)), (.int .i64 0)], none⟩, ⟨(some 5), .mov (.k (.c (.int .i64 0))), none⟩])
  (.seq (.seq (.region [⟨(some 6), .mov (.t 1), none⟩, ⟨(some 7), .call (.k (.c (.fn 43 []))) [(.t 6)], none⟩, ⟨(some 8), .un .not (.t 7), none⟩])
  (.cond (.t 8) (.seq (.region [⟨(some 9), .build [(.str ⟨#[]⟩), (.slice none 0 (.exact 0)), (.int .i64 0)] [], none⟩, ⟨none, .store 3 (.t 4) (.t 9), none⟩, ⟨(some 5), .mov (.k (.c (.int .i64 1))), none⟩])
  .ret) .skip))
  (.seq (.seq (.region [⟨(some 10), .mov (.t 0), none⟩, ⟨(some 11), .call (.k (.c (.fn 50 []))) [(.t 10)], none⟩, ⟨(some 12), .un .not (.t 11), none⟩])
  (.cond (.t 12) (.seq (.region [⟨(some 13), .build [(.str ⟨#[]⟩), (.slice none 0 (.exact 0)), (.int .i64 0)] [], none⟩, ⟨none, .store 3 (.t 4) (.t 13), none⟩, ⟨(some 5), .mov (.k (.c (.int .i64 2))), none⟩])
  .ret) .skip))
  (.seq (.region [⟨(some 14), .mov (.t 0), none⟩, ⟨(some 15), .mov (.t 1), none⟩, ⟨(some 16), .call (.k (.c (.fn 51 []))) [(.t 14), (.t 15)], none⟩, ⟨none, .store 3 (.t 4) (.t 16), none⟩, ⟨(some 5), .mov (.k (.c (.int .i64 0))), none⟩])
  .ret)))), [.cellN 4 3, .tmp 5], false⟩
theorem c26 : kk 26 = some k26 := by kernel_rfl
/-- loop.example/g01263/impl.MakeAccount -/
def k27 : KF := ⟨22, (.seq (.region [⟨(some 4), .alloc 36 [(.str ⟨#[]⟩), (.slice none 0 (.exact 0)), (.int .i64 0)], none⟩, ⟨(some 5), .mov (.k (.c (.int .i64 0))), none⟩])
  (.seq (.block 0 (.seq (.region [⟨(some 7), .mov (.t 1), none⟩, ⟨(some 8), .call (.k (.c (.fn 15 []))) [(.t 7)], none⟩, ⟨(some 9), .un .not (.t 8), none⟩, ⟨(some 6), .mov (.t 9), none⟩])
  (.cond (.t 6) (.seq (.region [⟨(some 10), .build [(.str ⟨#[]⟩), (.slice none 0 (.exact 0)), (.int .i64 0)] [], none⟩, ⟨none, .store 3 (.t 4) (.t 10), none⟩, ⟨(some 5), .mov (.k (.c (.int .i64 1))), none⟩])
  .ret) (.seq (.region [⟨(some 12), .mov (.t 0), none⟩, ⟨(some 13), .call (.k (.c (.fn 49 []))) [(.t 12), (.k (.c (.int .i64 16)))], none⟩, ⟨(some 14), .un .not (.t 13), none⟩, ⟨(some 11), .mov (.t 14), none⟩])
  (.cond (.t 11) (.seq (.region [⟨(some 15), .build [(.str ⟨#[]⟩), (.slice none 0 (.exact 0)), (.int .i64 0)] [], none⟩, ⟨none, .store 3 (.t 4) (.t 15), none⟩, ⟨(some 5), .mov (.k (.c (.int .i64 2))), none⟩])
  .ret) .skip)))))
  (.seq (.region [⟨(some 16), .mov (.t 0), none⟩, ⟨(some 17), .mov (.t 1), none⟩, ⟨(some 18), .call (.k (.c (.fn 52 []))) [(.t 17)], none⟩, ⟨(some 19), .mov (.t 1), none⟩, ⟨(some 20), .call (.k (.c (.fn 47 []))) [(.t 19)], none⟩, ⟨(some 21), .build [(.str ⟨#[]⟩), (.slice none 0 (.exact 0)), (.int .i64 0)] [(0, 1, (.t 16)), (1, 1, (.t 18)), (2, 1, (.t 20))], none⟩, ⟨none, .store 3 (.t 4) (.t 21), none⟩, ⟨(some 5), .mov (.k (.c (.int .i64 0))), none⟩])
  .ret))), [.cellN 4 3, .tmp 5], false⟩
theorem c27 : kk 27 = some k27 := by kernel_rfl
/-- loop.example/g01263/laws.markItemS -/
def l28_0 : KC := (.seq (.seq (.region [⟨(some 6), .mov (.t 5), none⟩, ⟨(some 7), .mov (.t 0), none⟩, ⟨(some 8), .len false (.t 7), none⟩, ⟨(some 9), .bin .lss .int (.t 6) (.t 8), none⟩])
  (.cond (.t 9) .skip (.exit 0)))
  (.seq (.block 1 (.seq (.region [⟨(some 12), .mov (.t 0), none⟩, ⟨(some 13), .mov (.t 5), none⟩, ⟨(some 14), .mov (.t 1), none⟩, ⟨(some 15), .conv .i8 (.t 14), none⟩, ⟨(some 16), .idxS 2 (.t 12) (.t 13), none⟩, ⟨(some 17), .fldA 0 (.t 16), none⟩, ⟨none, .store 1 (.t 17) (.t 15), none⟩])
  (.seq (.region [⟨(some 18), .mov (.t 1), none⟩, ⟨(some 19), .bin .add .int (.t 18) (.k (.c (.int .i64 1))), none⟩, ⟨(some 1), .mov (.t 19), none⟩])
  (.seq (.region [⟨(some 20), .mov (.t 0), none⟩, ⟨(some 21), .mov (.t 5), none⟩, ⟨(some 22), .mov (.t 1), none⟩, ⟨(some 23), .idxS 2 (.t 20) (.t 21), none⟩, ⟨(some 24), .fldA 1 (.t 23), none⟩, ⟨none, .store 1 (.t 24) (.t 22), none⟩])
  (.region [⟨(some 25), .mov (.t 1), none⟩, ⟨(some 26), .bin .add .int (.t 25) (.k (.c (.int .i64 1))), none⟩, ⟨(some 1), .mov (.t 26), none⟩])))))
  (.region [⟨(some 10), .mov (.t 5), none⟩, ⟨(some 11), .bin .add .int (.t 10) (.k (.c (.int .i64 1))), none⟩, ⟨(some 5), .mov (.t 11), none⟩])))
def k28 : KF := ⟨28, (.seq (.region [⟨(some 4), .mov (.k (.c (.int .i64 0))), none⟩])
  (.seq (.seq (.region [⟨(some 5), .mov (.k (.c (.int .i64 0))), none⟩])
  (.block 0 (.loop l28_0)))
  (.seq (.region [⟨(some 27), .mov (.t 1), none⟩, ⟨(some 4), .mov (.t 27), none⟩])
  .ret))), [.tmp 4], true⟩
theorem c28 : kk 28 = some k28 := by kernel_rfl
/-- loop.example/g01263/laws.markAccount -/
def k29 : KF := ⟨10, (.seq (.region [⟨(some 2), .box 36 (.t 0), none⟩, ⟨(some 4), .mov (.k (.c (.int .i64 0))), none⟩])
  (.seq (.region [⟨(some 5), .fldA 1 (.t 2), none⟩, ⟨(some 6), .load1 (.t 5), none⟩, ⟨(some 7), .mov (.t 1), none⟩, ⟨(some 8), .call (.k (.c (.fn 28 []))) [(.t 6), (.t 7)], none⟩, ⟨(some 1), .mov (.t 8), none⟩])
  (.seq (.region [⟨(some 9), .mov (.t 1), none⟩, ⟨(some 4), .mov (.t 9), none⟩])
  .ret))), [.tmp 4], true⟩
theorem c29 : kk 29 = some k29 := by kernel_rfl
/-- loop.example/g01263/laws.heldAccount -/
def k30 : KF := ⟨12, (.seq (.region [⟨(some 2), .box 36 (.t 0), none⟩, ⟨(some 4), .mov (.k (.c (.int .i64 0))), none⟩])
  (.seq (.region [⟨(some 5), .fldA 1 (.t 2), none⟩, ⟨(some 6), .load1 (.t 5), none⟩, ⟨(some 7), .mov (.t 1), none⟩, ⟨(some 8), .call (.k (.c (.fn 53 []))) [(.t 6), (.t 7)], none⟩, ⟨(some 1), .mov (.t 8), none⟩])
  (.seq (.seq (.region [⟨(some 9), .mov (.t 1), none⟩, ⟨(some 10), .bin .lss .int (.t 9) (.k (.c (.int .i64 0))), none⟩])
  (.cond (.t 10) (.seq (.region [⟨(some 4), .mov (.k (.c (.int .i64 (-1)))), none⟩])
  .ret) .skip))
  (.seq (.region [⟨(some 11), .mov (.t 1), none⟩, ⟨(some 4), .mov (.t 11), none⟩])
  .ret)))), [.tmp 4], true⟩
theorem c30 : kk 30 = some k30 := by kernel_rfl
/-- loop.example/g01263/spec.AddItem -/
def k31 : KF := ⟨27, (.seq (.region [⟨(some 2), .box 36 (.t 0), none⟩, ⟨(some 3), .box 51 (.t 1), none⟩, ⟨(some 4), .alloc 36 [(.str ⟨#[]⟩), (.slice none 0 (.exact 0)), (.int .i64 0)], none⟩, ⟨(some 5), .mov (.k (.c (.int .i64 0))), none⟩])
  (.seq (.seq (.region [⟨(some 6), .call (.k (.c (.fn 48 []))) [(.t 2)], none⟩, ⟨(some 7), .un .not (.t 6), none⟩])
  (.cond (.t 7) (.seq (.region [⟨(some 8), .build [(.str ⟨#[]⟩), (.slice none 0 (.exact 0)), (.int .i64 0)] [], none⟩, ⟨none, .store 3 (.t 4) (.t 8), none⟩, ⟨(some 5), .mov (.k (.c (.int .i64 1))), none⟩])
  .ret) .skip))
  (.seq (.seq (.region [⟨(some 9), .call (.k (.c (.fn 54 []))) [(.t 3)], none⟩, ⟨(some 10), .un .not (.t 9), none⟩])
  (.cond (.t 10) (.seq (.region [⟨(some 11), .build [(.str ⟨#[]⟩), (.slice none 0 (.exact 0)), (.int .i64 0)] [], none⟩, ⟨none, .store 3 (.t 4) (.t 11), none⟩, ⟨(some 5), .mov (.k (.c (.int .i64 2))), none⟩])
  .ret) .skip))
  (.seq (.seq (.region [⟨(some 12), .fldA 1 (.t 2), none⟩, ⟨(some 13), .load1 (.t 12), none⟩, ⟨(some 14), .len false (.t 13), none⟩, ⟨(some 15), .bin .eql .int (.t 14) (.k (.c (.int .i64 40))), none⟩])
  (.cond (.t 15) (.seq (.region [⟨(some 16), .build [(.str ⟨#[]⟩), (.slice none 0 (.exact 0)), (.int .i64 0)] [], none⟩, ⟨none, .store 3 (.t 4) (.t 16), none⟩, ⟨(some 5), .mov (.k (.c (.int .i64 3))), none⟩])
  .ret) .skip))
  (.seq (.drawn [(⟨(some 17), .fldA 0 (.t 2), none⟩, []), (⟨(some 18), .load1 (.t 17), none⟩, []), (⟨(some 20), .fldA 1 (.t 2), none⟩, []), (⟨(some 21), .load1 (.t 20), none⟩, []), (⟨(some 23), .loadN 2 (.t 3), none⟩, []), (⟨(some 19), .buildSl 51 0 [] [], none⟩, [⟨(some 18), .load1 (.t 17), none⟩, ⟨(some 21), .load1 (.t 20), none⟩, ⟨(some 23), .loadN 2 (.t 3), none⟩]), (⟨(some 22), .app 51 2 16 (.t 19) (.t 21), none⟩, [⟨(some 18), .load1 (.t 17), none⟩, ⟨(some 23), .loadN 2 (.t 3), none⟩]), (⟨(some 24), .buildSl 51 1 [(.int .i8 0), (.int .i64 0)] [(0, 2, (.t 23))], none⟩, [⟨(some 18), .load1 (.t 17), none⟩, ⟨(some 21), .load1 (.t 20), none⟩]), (⟨(some 25), .app 51 2 16 (.t 22) (.t 24), none⟩, [⟨(some 18), .load1 (.t 17), none⟩]), (⟨(some 26), .call (.k (.c (.fn 51 []))) [(.t 18), (.t 25)], none⟩, []), (⟨none, .store 3 (.t 4) (.t 26), none⟩, []), (⟨(some 5), .mov (.k (.c (.int .i64 0))), none⟩, [])])
  .ret))))), [.cellN 4 3, .tmp 5], false⟩
theorem c31 : kk 31 = some k31 := by kernel_rfl
/-- loop.example/g01263/laws.toItem -/
def k32 : KF := ⟨11, (.seq (.region [⟨(some 1), .box 49 (.t 0), none⟩, ⟨(some 2), .alloc 51 [(.int .i8 0), (.int .i64 0)], none⟩])
  (.seq (.region [⟨(some 3), .alloc 51 [(.int .i8 0), (.int .i64 0)], none⟩])
  (.seq (.region [⟨(some 4), .fldA 0 (.t 1), none⟩, ⟨(some 5), .load1 (.t 4), none⟩, ⟨(some 6), .fldA 0 (.t 3), none⟩, ⟨none, .store 1 (.t 6) (.t 5), none⟩])
  (.seq (.region [⟨(some 7), .fldA 1 (.t 1), none⟩, ⟨(some 8), .load1 (.t 7), none⟩, ⟨(some 9), .fldA 1 (.t 3), none⟩, ⟨none, .store 1 (.t 9) (.t 8), none⟩])
  (.seq (.region [⟨(some 10), .loadN 2 (.t 3), none⟩, ⟨none, .store 2 (.t 2) (.t 10), none⟩])
  .ret))))), [.cellN 2 2], true⟩
theorem c32 : kk 32 = some k32 := by kernel_rfl
/-- loop.example/g01263/impl.AddItem -/
def k33 : KF := ⟨33, (.seq (.region [⟨(some 2), .box 36 (.t 0), none⟩, ⟨(some 3), .box 51 (.t 1), none⟩, ⟨(some 4), .alloc 36 [(.str ⟨#[]⟩), (.slice none 0 (.exact 0)), (.int .i64 0)], none⟩, ⟨(some 5), .mov (.k (.c (.int .i64 0))), none⟩])
  (.seq (.block 0 (.seq (.region [⟨(some 7), .loadN 3 (.t 2), none⟩, ⟨(some 8), .call (.k (.c (.fn 22 []))) [(.t 7)], none⟩, ⟨(some 9), .un .not (.t 8), none⟩, ⟨(some 6), .mov (.t 9), none⟩])
  (.cond (.t 6) (.seq (.region [⟨(some 10), .build [(.str ⟨#[]⟩), (.slice none 0 (.exact 0)), (.int .i64 0)] [], none⟩, ⟨none, .store 3 (.t 4) (.t 10), none⟩, ⟨(some 5), .mov (.k (.c (.int .i64 1))), none⟩])
  .ret) (.seq (.region [⟨(some 12), .loadN 2 (.t 3), none⟩, ⟨(some 13), .call (.k (.c (.fn 44 []))) [(.t 12)], none⟩, ⟨(some 14), .un .not (.t 13), none⟩, ⟨(some 11), .mov (.t 14), none⟩])
  (.cond (.t 11) (.seq (.region [⟨(some 15), .build [(.str ⟨#[]⟩), (.slice none 0 (.exact 0)), (.int .i64 0)] [], none⟩, ⟨none, .store 3 (.t 4) (.t 15), none⟩, ⟨(some 5), .mov (.k (.c (.int .i64 2))), none⟩])
  .ret) (.seq (.region [⟨(some 17), .fldA 1 (.t 2), none⟩, ⟨(some 18), .load1 (.t 17), none⟩, ⟨(some 19), .len false (.t 18), none⟩, ⟨(some 20), .bin .eql .int (.t 19) (.k (.c (.int .i64 40))), none⟩, ⟨(some 16), .mov (.t 20), none⟩])
  (.cond (.t 16) (.seq (.region [⟨(some 21), .build [(.str ⟨#[]⟩), (.slice none 0 (.exact 0)), (.int .i64 0)] [], none⟩, ⟨none, .store 3 (.t 4) (.t 21), none⟩, ⟨(some 5), .mov (.k (.c (.int .i64 3))), none⟩])
  .ret) .skip)))))))
  (.seq (.drawn [(⟨(some 22), .fldA 0 (.t 2), none⟩, []), (⟨(some 23), .load1 (.t 22), none⟩, []), (⟨(some 24), .fldA 1 (.t 2), none⟩, []), (⟨(some 25), .load1 (.t 24), none⟩, []), (⟨(some 27), .loadN 2 (.t 3), none⟩, []), (⟨(some 26), .call (.k (.c (.fn 52 []))) [(.t 25)], none⟩, [⟨(some 23), .load1 (.t 22), none⟩, ⟨(some 27), .loadN 2 (.t 3), none⟩]), (⟨(some 28), .buildSl 51 1 [(.int .i8 0), (.int .i64 0)] [(0, 2, (.t 27))], none⟩, [⟨(some 23), .load1 (.t 22), none⟩, ⟨(some 25), .load1 (.t 24), none⟩]), (⟨(some 29), .app 51 2 16 (.t 26) (.t 28), none⟩, [⟨(some 23), .load1 (.t 22), none⟩]), (⟨(some 30), .call (.k (.c (.fn 27 []))) [(.t 23), (.t 29)], none⟩, []), (⟨(some 31), .ext (.t 30) 0, none⟩, []), (⟨(some 32), .ext (.t 30) 1, none⟩, []), (⟨none, .store 3 (.t 4) (.t 31), none⟩, []), (⟨(some 5), .mov (.t 32), none⟩, [])])
  .ret))), [.cellN 4 3, .tmp 5], false⟩
theorem c33 : kk 33 = some k33 := by kernel_rfl
/-- loop.example/g01263/spec.NextYear -/
def k34 : KF := ⟨49, (.seq (.region [⟨(some 2), .box 36 (.t 0), none⟩, ⟨(some 4), .alloc 36 [(.str ⟨#[]⟩), (.slice none 0 (.exact 0)), (.int .i64 0)], none⟩, ⟨(some 5), .mov (.k (.c (.int .i64 0))), none⟩])
  (.seq (.seq (.region [⟨(some 7), .call (.k (.c (.fn 48 []))) [(.t 2)], none⟩, ⟨(some 8), .un .not (.t 7), none⟩])
  (.cond (.t 8) (.seq (.region [⟨(some 9), .build [(.str ⟨#[]⟩), (.slice none 0 (.exact 0)), (.int .i64 0)] [], none⟩, ⟨none, .store 3 (.t 4) (.t 9), none⟩, ⟨(some 5), .mov (.k (.c (.int .i64 1))), none⟩])
  .ret) .skip))
  (.seq (.seq (.region [⟨(some 10), .mov (.t 1), none⟩, ⟨(some 11), .call (.k (.c (.fn 55 []))) [(.t 10)], none⟩, ⟨(some 12), .un .not (.t 11), none⟩])
  (.cond (.t 12) (.seq (.region [⟨(some 13), .build [(.str ⟨#[]⟩), (.slice none 0 (.exact 0)), (.int .i64 0)] [], none⟩, ⟨none, .store 3 (.t 4) (.t 13), none⟩, ⟨(some 5), .mov (.k (.c (.int .i64 2))), none⟩])
  .ret) .skip))
  (.seq (.region [⟨(some 14), .buildSl 51 0 [] [], none⟩, ⟨(some 6), .mov (.t 14), none⟩])
  (.seq (.seq (.region [⟨(some 15), .mov (.t 1), none⟩, ⟨(some 16), .bin .neq .int (.t 15) (.k (.c (.int .i64 0))), none⟩])
  (.cond (.t 16) (.region [⟨(some 17), .mov (.t 6), none⟩, ⟨(some 18), .mov (.t 1), none⟩, ⟨(some 19), .build [(.int .i8 0), (.int .i64 0)] [(0, 1, (.k (.c (.int .i8 0)))), (1, 1, (.t 18))], none⟩, ⟨(some 20), .buildSl 51 1 [(.int .i8 0), (.int .i64 0)] [(0, 2, (.t 19))], none⟩, ⟨(some 21), .app 51 2 16 (.t 17) (.t 20), none⟩, ⟨(some 6), .mov (.t 21), none⟩]) .skip))
  (.seq (.seq (.region [⟨(some 22), .fldA 2 (.t 2), none⟩, ⟨(some 23), .load1 (.t 22), none⟩, ⟨(some 24), .bin .gtr .int (.t 23) (.k (.c (.int .i64 0))), none⟩])
  (.cond (.t 24) (.region [⟨(some 25), .mov (.t 6), none⟩, ⟨(some 26), .fldA 2 (.t 2), none⟩, ⟨(some 27), .load1 (.t 26), none⟩, ⟨(some 28), .build [(.int .i8 0), (.int .i64 0)] [(0, 1, (.k (.c (.int .i8 1)))), (1, 1, (.t 27))], none⟩, ⟨(some 29), .buildSl 51 1 [(.int .i8 0), (.int .i64 0)] [(0, 2, (.t 28))], none⟩, ⟨(some 30), .app 51 2 16 (.t 25) (.t 29), none⟩, ⟨(some 6), .mov (.t 30), none⟩]) .skip))
  (.seq (.seq (.region [⟨(some 31), .fldA 2 (.t 2), none⟩, ⟨(some 32), .load1 (.t 31), none⟩, ⟨(some 33), .bin .lss .int (.t 32) (.k (.c (.int .i64 0))), none⟩])
  (.cond (.t 33) (.region [⟨(some 34), .mov (.t 6), none⟩, ⟨(some 35), .fldA 2 (.t 2), none⟩, ⟨(some 36), .load1 (.t 35), none⟩, ⟨(some 37), .un .neg (.t 36), none⟩, ⟨(some 38), .build [(.int .i8 0), (.int .i64 0)] [(0, 1, (.k (.c (.int .i8 2)))), (1, 1, (.t 37))], none⟩, ⟨(some 39), .buildSl 51 1 [(.int .i8 0), (.int .i64 0)] [(0, 2, (.t 38))], none⟩, ⟨(some 40), .app 51 2 16 (.t 34) (.t 39), none⟩, ⟨(some 6), .mov (.t 40), none⟩]) .skip))
  (.seq (.seq (.region [⟨(some 41), .mov (.t 6), none⟩, ⟨(some 42), .call (.k (.c (.fn 43 []))) [(.t 41)], none⟩, ⟨(some 43), .un .not (.t 42), none⟩])
  (.cond (.t 43) (.seq (.region [⟨(some 44), .build [(.str ⟨#[]⟩), (.slice none 0 (.exact 0)), (.int .i64 0)] [], none⟩, ⟨none, .store 3 (.t 4) (.t 44), none⟩, ⟨(some 5), .mov (.k (.c (.int .i64 3))), none⟩])
  .ret) .skip))
  (.seq (.region [⟨(some 45), .fldA 0 (.t 2), none⟩, ⟨(some 46), .load1 (.t 45), none⟩, ⟨(some 47), .mov (.t 6), none⟩, ⟨(some 48), .call (.k (.c (.fn 51 []))) [(.t 46), (.t 47)], none⟩, ⟨none, .store 3 (.t 4) (.t 48), none⟩, ⟨(some 5), .mov (.k (.c (.int .i64 0))), none⟩])
  .ret))))))))), [.cellN 4 3, .tmp 5], false⟩
theorem c34 : kk 34 = some k34 := by kernel_rfl
/-- loop.example/g01263/impl.NextYear -/
def k35 : KF := ⟨59, (.seq (.region [⟨(some 2), .box 36 (.t 0), none⟩, ⟨(some 4), .alloc 36 [(.str ⟨#[]⟩), (.slice none 0 (.exact 0)), (.int .i64 0)], none⟩, ⟨(some 5), .mov (.k (.c (.int .i64 0))), none⟩])
  (.seq (.block 0 (.seq (.region [⟨(some 8), .loadN 3 (.t 2), none⟩, ⟨(some 9), .call (.k (.c (.fn 22 []))) [(.t 8)], none⟩, ⟨(some 10), .un .not (.t 9), none⟩, ⟨(some 7), .mov (.t 10), none⟩])
  (.cond (.t 7) (.seq (.region [⟨(some 11), .build [(.str ⟨#[]⟩), (.slice none 0 (.exact 0)), (.int .i64 0)] [], none⟩, ⟨none, .store 3 (.t 4) (.t 11), none⟩, ⟨(some 5), .mov (.k (.c (.int .i64 1))), none⟩])
  .ret) (.seq (.region [⟨(some 13), .mov (.t 1), none⟩, ⟨(some 14), .call (.k (.c (.fn 56 []))) [(.t 13)], none⟩, ⟨(some 15), .un .not (.t 14), none⟩, ⟨(some 12), .mov (.t 15), none⟩])
  (.cond (.t 12) (.seq (.region [⟨(some 16), .build [(.str ⟨#[]⟩), (.slice none 0 (.exact 0)), (.int .i64 0)] [], none⟩, ⟨none, .store 3 (.t 4) (.t 16), none⟩, ⟨(some 5), .mov (.k (.c (.int .i64 2))), none⟩])
  .ret) (.seq (.region [⟨(some 18), .fldA 2 (.t 2), none⟩, ⟨(some 19), .load1 (.t 18), none⟩, ⟨(some 20), .call (.k (.c (.fn 57 []))) [(.t 19)], none⟩, ⟨(some 21), .call (.k (.c (.fn 56 []))) [(.t 20)], none⟩, ⟨(some 22), .un .not (.t 21), none⟩, ⟨(some 17), .mov (.t 22), none⟩])
  (.cond (.t 17) (.seq (.region [⟨(some 23), .build [(.str ⟨#[]⟩), (.slice none 0 (.exact 0)), (.int .i64 0)] [], none⟩, ⟨none, .store 3 (.t 4) (.t 23), none⟩, ⟨(some 5), .mov (.k (.c (.int .i64 3))), none⟩])
  .ret) .skip)))))))
  (.seq (.region [⟨(some 24), .buildSl 51 0 [] [], none⟩, ⟨(some 6), .mov (.t 24), none⟩])
  (.seq (.seq (.region [⟨(some 25), .mov (.t 1), none⟩, ⟨(some 26), .bin .gtr .int (.t 25) (.k (.c (.int .i64 0))), none⟩])
  (.cond (.t 26) (.region [⟨(some 27), .mov (.t 6), none⟩, ⟨(some 28), .mov (.t 1), none⟩, ⟨(some 29), .build [(.int .i8 0), (.int .i64 0)] [(0, 1, (.k (.c (.int .i8 0)))), (1, 1, (.t 28))], none⟩, ⟨(some 30), .buildSl 51 1 [(.int .i8 0), (.int .i64 0)] [(0, 2, (.t 29))], none⟩, ⟨(some 31), .app 51 2 16 (.t 27) (.t 30), none⟩, ⟨(some 6), .mov (.t 31), none⟩]) .skip))
  (.seq (.block 1 (.seq (.region [⟨(some 33), .fldA 2 (.t 2), none⟩, ⟨(some 34), .load1 (.t 33), none⟩, ⟨(some 35), .bin .gtr .int (.t 34) (.k (.c (.int .i64 0))), none⟩, ⟨(some 32), .mov (.t 35), none⟩])
  (.cond (.t 32) (.region [⟨(some 36), .mov (.t 6), none⟩, ⟨(some 37), .fldA 2 (.t 2), none⟩, ⟨(some 38), .load1 (.t 37), none⟩, ⟨(some 39), .build [(.int .i8 0), (.int .i64 0)] [(0, 1, (.k (.c (.int .i8 1)))), (1, 1, (.t 38))], none⟩, ⟨(some 40), .buildSl 51 1 [(.int .i8 0), (.int .i64 0)] [(0, 2, (.t 39))], none⟩, ⟨(some 41), .app 51 2 16 (.t 36) (.t 40), none⟩, ⟨(some 6), .mov (.t 41), none⟩]) (.seq (.region [⟨(some 43), .fldA 2 (.t 2), none⟩, ⟨(some 44), .load1 (.t 43), none⟩, ⟨(some 45), .bin .lss .int (.t 44) (.k (.c (.int .i64 0))), none⟩, ⟨(some 42), .mov (.t 45), none⟩])
  (.cond (.t 42) (.region [⟨(some 46), .mov (.t 6), none⟩, ⟨(some 47), .fldA 2 (.t 2), none⟩, ⟨(some 48), .load1 (.t 47), none⟩, ⟨(some 49), .un .neg (.t 48), none⟩, ⟨(some 50), .build [(.int .i8 0), (.int .i64 0)] [(0, 1, (.k (.c (.int .i8 2)))), (1, 1, (.t 49))], none⟩, ⟨(some 51), .buildSl 51 1 [(.int .i8 0), (.int .i64 0)] [(0, 2, (.t 50))], none⟩, ⟨(some 52), .app 51 2 16 (.t 46) (.t 51), none⟩, ⟨(some 6), .mov (.t 52), none⟩]) .skip)))))
  (.seq (.region [⟨(some 53), .fldA 0 (.t 2), none⟩, ⟨(some 54), .load1 (.t 53), none⟩, ⟨(some 55), .mov (.t 6), none⟩, ⟨(some 56), .call (.k (.c (.fn 27 []))) [(.t 54), (.t 55)], none⟩, ⟨(some 57), .ext (.t 56) 0, none⟩, ⟨(some 58), .ext (.t 56) 1, none⟩, ⟨none, .store 3 (.t 4) (.t 57), none⟩, ⟨(some 5), .mov (.t 58), none⟩])
  .ret)))))), [.cellN 4 3, .tmp 5], false⟩
theorem c35 : kk 35 = some k35 := by kernel_rfl
/-- loop.example/g01263/laws.szRoll -/
def k36 : KF := ⟨12, (.seq (.region [⟨(some 2), .box 58 (.t 0), none⟩, ⟨(some 4), .mov (.k (.c (.int .i64 0))), none⟩])
  (.seq (.region [⟨(some 5), .fldA 0 (.t 2), none⟩, ⟨(some 6), .load1 (.t 5), none⟩, ⟨(some 7), .mov (.t 1), none⟩, ⟨(some 8), .call (.k (.c (.fn 58 []))) [(.t 6), (.t 7)], none⟩, ⟨(some 1), .mov (.t 8), none⟩])
  (.seq (.seq (.region [⟨(some 9), .mov (.t 1), none⟩, ⟨(some 10), .bin .lss .int (.t 9) (.k (.c (.int .i64 0))), none⟩])
  (.cond (.t 10) (.seq (.region [⟨(some 4), .mov (.k (.c (.int .i64 (-1)))), none⟩])
  .ret) .skip))
  (.seq (.region [⟨(some 11), .mov (.t 1), none⟩, ⟨(some 4), .mov (.t 11), none⟩])
  .ret)))), [.tmp 4], true⟩
theorem c36 : kk 36 = some k36 := by kernel_rfl
/-- loop.example/g01263/spec.FirstFault -/
def k37 : KF := ⟨13, (.seq (.region [⟨(some 1), .box 63 (.t 0), none⟩, ⟨(some 2), .mov (.k (.c (.int .i64 0))), none⟩, ⟨(some 3), .mov (.k (.c (.int .i64 0))), none⟩])
  (.seq (.seq (.region [⟨(some 5), .fldA 0 (.t 1), none⟩, ⟨(some 6), .load1 (.t 5), none⟩, ⟨(some 7), .len false (.t 6), none⟩, ⟨(some 8), .bin .gtr .int (.t 7) (.k (.c (.int .i64 20))), none⟩])
  (.cond (.t 8) (.seq (.region [⟨(some 2), .mov (.k (.c (.int .i64 0))), none⟩, ⟨(some 3), .mov (.k (.c (.int .i64 3))), none⟩])
  .ret) .skip))
  (.seq (.region [⟨(some 9), .call (.k (.c (.fn 59 []))) [(.t 1)], none⟩, ⟨(some 4), .mov (.t 9), none⟩])
  (.seq (.seq (.region [⟨(some 10), .mov (.t 4), none⟩, ⟨(some 11), .bin .lss .int (.t 10) (.k (.c (.int .i64 0))), none⟩])
  (.cond (.t 11) (.seq (.region [⟨(some 2), .mov (.k (.c (.int .i64 0))), none⟩, ⟨(some 3), .mov (.k (.c (.int .i64 6))), none⟩])
  .ret) .skip))
  (.seq (.region [⟨(some 12), .mov (.t 4), none⟩, ⟨(some 2), .mov (.t 12), none⟩, ⟨(some 3), .mov (.k (.c (.int .i64 0))), none⟩])
  .ret))))), [.tmp 2, .tmp 3], true⟩
theorem c37 : kk 37 = some k37 := by kernel_rfl
/-- loop.example/g01263/laws.toRoll -/
def k38 : KF := ⟨12, (.seq (.region [⟨(some 1), .box 58 (.t 0), none⟩, ⟨(some 2), .alloc 63 [(.slice none 0 (.exact 0)), (.int .i64 0)], none⟩])
  (.seq (.region [⟨(some 3), .alloc 63 [(.slice none 0 (.exact 0)), (.int .i64 0)], none⟩])
  (.seq (.region [⟨(some 4), .fldA 0 (.t 1), none⟩, ⟨(some 5), .load1 (.t 4), none⟩, ⟨(some 6), .call (.k (.c (.fn 60 []))) [(.t 5)], none⟩, ⟨(some 7), .fldA 0 (.t 3), none⟩, ⟨none, .store 1 (.t 7) (.t 6), none⟩])
  (.seq (.region [⟨(some 8), .fldA 1 (.t 1), none⟩, ⟨(some 9), .load1 (.t 8), none⟩, ⟨(some 10), .fldA 1 (.t 3), none⟩, ⟨none, .store 1 (.t 10) (.t 9), none⟩])
  (.seq (.region [⟨(some 11), .loadN 2 (.t 3), none⟩, ⟨none, .store 2 (.t 2) (.t 11), none⟩])
  .ret))))), [.cellN 2 2], false⟩
theorem c38 : kk 38 = some k38 := by kernel_rfl
/-- loop.example/g01263/impl.FirstFault -/
def l39_0 : KC := (.seq (.region [⟨(some 14), .bin .lss .int (.t 13) (.t 12), none⟩])
  (.seq (.cond (.t 14) .skip (.exit 0))
  (.seq (.block 1 (.seq (.region [⟨(some 15), .mov (.t 13), none⟩, ⟨(some 16), .idxS 3 (.t 11) (.t 13), none⟩, ⟨(some 17), .loadN 3 (.t 16), none⟩, ⟨(some 5), .alloc 36 [(.str ⟨#[]⟩), (.slice none 0 (.exact 0)), (.int .i64 0)], none⟩, ⟨(some 4), .mov (.t 15), none⟩, ⟨none, .store 3 (.t 5) (.t 17), none⟩])
  (.seq (.drawn [(⟨(some 18), .loadN 3 (.t 5), none⟩, []), (⟨(some 19), .call (.k (.c (.fn 22 []))) [(.t 18)], none⟩, []), (⟨(some 20), .un .not (.t 19), none⟩, []), (⟨(some 21), .mov (.t 20), none⟩, []), (⟨(some 22), .fldA 0 (.t 1), some (21, false)⟩, []), (⟨(some 23), .load1 (.t 22), some (21, false)⟩, []), (⟨(some 24), .mov (.t 4), some (21, false)⟩, []), (⟨(some 25), .sliceS 3 (.t 23) none (some (.t 24)) none, some (21, false)⟩, []), (⟨(some 26), .fldA 0 (.t 5), some (21, false)⟩, []), (⟨(some 27), .load1 (.t 26), some (21, false)⟩, []), (⟨(some 28), .call (.k (.c (.fn 61 []))) [(.t 25), (.t 27)], some (21, false)⟩, []), (⟨(some 29), .pick (.t 21) (.k (.c (.bool true))) (.t 28), none⟩, [])])
  (.cond (.t 29) (.seq (.region [⟨(some 30), .mov (.t 4), none⟩, ⟨(some 2), .mov (.t 30), none⟩, ⟨(some 3), .mov (.k (.c (.int .i64 0))), none⟩])
  .ret) .skip))))
  (.region [⟨(some 31), .bin .add .int (.t 13) (.k (.c (.int .i64 1))), none⟩, ⟨(some 13), .mov (.t 31), none⟩]))))
def k39 : KF := ⟨41, (.seq (.region [⟨(some 1), .box 63 (.t 0), none⟩, ⟨(some 2), .mov (.k (.c (.int .i64 0))), none⟩, ⟨(some 3), .mov (.k (.c (.int .i64 0))), none⟩])
  (.seq (.seq (.region [⟨(some 6), .fldA 0 (.t 1), none⟩, ⟨(some 7), .load1 (.t 6), none⟩, ⟨(some 8), .len false (.t 7), none⟩, ⟨(some 9), .bin .gtr .int (.t 8) (.k (.c (.int .i64 20))), none⟩])
  (.cond (.t 9) (.seq (.region [⟨(some 2), .mov (.k (.c (.int .i64 0))), none⟩, ⟨(some 3), .mov (.k (.c (.int .i64 3))), none⟩])
  .ret) .skip))
  (.seq (.seq (.region [⟨(some 10), .fldA 0 (.t 1), none⟩, ⟨(some 11), .load1 (.t 10), none⟩, ⟨(some 12), .len false (.t 11), none⟩, ⟨(some 13), .mov (.k (.c (.int .i64 0))), none⟩])
  (.block 0 (.loop l39_0)))
  (.seq (.seq (.drawn [(⟨(some 32), .fldA 1 (.t 1), none⟩, []), (⟨(some 33), .load1 (.t 32), none⟩, []), (⟨(some 34), .fldA 0 (.t 1), none⟩, []), (⟨(some 35), .load1 (.t 34), none⟩, []), (⟨(some 36), .call (.k (.c (.fn 62 []))) [(.t 35)], none⟩, [⟨(some 33), .load1 (.t 32), none⟩]), (⟨(some 37), .bin .neq .int (.t 33) (.t 36), none⟩, [])])
  (.cond (.t 37) (.seq (.region [⟨(some 38), .fldA 0 (.t 1), none⟩, ⟨(some 39), .load1 (.t 38), none⟩, ⟨(some 40), .len false (.t 39), none⟩, ⟨(some 2), .mov (.t 40), none⟩, ⟨(some 3), .mov (.k (.c (.int .i64 0))), none⟩])
  .ret) .skip))
  (.seq (.region [⟨(some 2), .mov (.k (.c (.int .i64 0))), none⟩, ⟨(some 3), .mov (.k (.c (.int .i64 6))), none⟩])
  .ret))))), [.tmp 2, .tmp 3], true⟩
theorem c39 : kk 39 = some k39 := by kernel_rfl
/-- loop.example/g01263/laws.eqRoll -/
def k40 : KF := ⟨16, (.seq (.region [⟨(some 2), .box 63 (.t 0), none⟩, ⟨(some 3), .box 63 (.t 1), none⟩, ⟨(some 4), .mov (.k (.c (.bool false))), none⟩])
  (.seq (.seq (.region [⟨(some 5), .fldA 0 (.t 2), none⟩, ⟨(some 6), .load1 (.t 5), none⟩, ⟨(some 7), .fldA 0 (.t 3), none⟩, ⟨(some 8), .load1 (.t 7), none⟩, ⟨(some 9), .call (.k (.c (.fn 63 []))) [(.t 6), (.t 8)], none⟩, ⟨(some 10), .un .not (.t 9), none⟩])
  (.cond (.t 10) (.seq (.region [⟨(some 4), .mov (.k (.c (.bool false))), none⟩])
  .ret) .skip))
  (.seq (.seq (.region [⟨(some 11), .fldA 1 (.t 2), none⟩, ⟨(some 12), .load1 (.t 11), none⟩, ⟨(some 13), .fldA 1 (.t 3), none⟩, ⟨(some 14), .load1 (.t 13), none⟩, ⟨(some 15), .bin .neq .int (.t 12) (.t 14), none⟩])
  (.cond (.t 15) (.seq (.region [⟨(some 4), .mov (.k (.c (.bool false))), none⟩])
  .ret) .skip))
  (.seq (.region [⟨(some 4), .mov (.k (.c (.bool true))), none⟩])
  .ret)))), [.tmp 4], true⟩
theorem c40 : kk 40 = some k40 := by kernel_rfl
/-- loop.example/g01263/spec.FindAccount -/
def l41_0 : KC := (.seq (.seq (.region [⟨(some 9), .mov (.t 6), none⟩, ⟨(some 10), .fldA 0 (.t 2), none⟩, ⟨(some 11), .load1 (.t 10), none⟩, ⟨(some 12), .len false (.t 11), none⟩, ⟨(some 13), .bin .lss .int (.t 9) (.t 12), none⟩])
  (.cond (.t 13) .skip (.exit 0)))
  (.seq (.block 1 (.seq (.region [⟨(some 16), .fldA 0 (.t 2), none⟩, ⟨(some 17), .load1 (.t 16), none⟩, ⟨(some 18), .mov (.t 6), none⟩, ⟨(some 19), .idxS 3 (.t 17) (.t 18), none⟩, ⟨(some 20), .fldA 0 (.t 19), none⟩, ⟨(some 21), .load1 (.t 20), none⟩, ⟨(some 22), .mov (.t 1), none⟩, ⟨(some 23), .bin .eql .str (.t 21) (.t 22), none⟩])
  (.cond (.t 23) (.seq (.region [⟨(some 24), .mov (.t 6), none⟩, ⟨(some 4), .mov (.t 24), none⟩, ⟨(some 5), .mov (.k (.c (.int .i64 0))), none⟩])
  .ret) .skip)))
  (.region [⟨(some 14), .mov (.t 6), none⟩, ⟨(some 15), .bin .add .int (.t 14) (.k (.c (.int .i64 1))), none⟩, ⟨(some 6), .mov (.t 15), none⟩])))
def k41 : KF := ⟨25, (.seq (.region [⟨(some 2), .box 63 (.t 0), none⟩, ⟨(some 4), .mov (.k (.c (.int .i64 0))), none⟩, ⟨(some 5), .mov (.k (.c (.int .i64 0))), none⟩])
  (.seq (.seq (.region [⟨(some 7), .call (.k (.c (.fn 64 []))) [(.t 2)], none⟩, ⟨(some 8), .un .not (.t 7), none⟩])
  (.cond (.t 8) (.seq (.region [⟨(some 4), .mov (.k (.c (.int .i64 0))), none⟩, ⟨(some 5), .mov (.k (.c (.int .i64 1))), none⟩])
  .ret) .skip))
  (.seq (.seq (.region [⟨(some 6), .mov (.k (.c (.int .i64 0))), none⟩])
  (.block 0 (.loop l41_0)))
  (.seq (.region [⟨(some 4), .mov (.k (.c (.int .i64 0))), none⟩, ⟨(some 5), .mov (.k (.c (.int .i64 6))), none⟩])
  .ret)))), [.tmp 4, .tmp 5], true⟩
theorem c41 : kk 41 = some k41 := by kernel_rfl
/-- loop.example/g01263/impl.FindAccount -/
def k42 : KF := ⟨17, (.seq (.region [⟨(some 2), .box 63 (.t 0), none⟩, ⟨(some 3), .box 9 (.t 1), none⟩, ⟨(some 4), .mov (.k (.c (.int .i64 0))), none⟩, ⟨(some 5), .mov (.k (.c (.int .i64 0))), none⟩])
  (.seq (.seq (.region [⟨(some 7), .loadN 2 (.t 2), none⟩, ⟨(some 8), .call (.k (.c (.fn 65 []))) [(.t 7)], none⟩, ⟨(some 9), .un .not (.t 8), none⟩])
  (.cond (.t 9) (.seq (.region [⟨(some 4), .mov (.k (.c (.int .i64 0))), none⟩, ⟨(some 5), .mov (.k (.c (.int .i64 1))), none⟩])
  .ret) .skip))
  (.seq (.region [⟨(some 10), .fldA 0 (.t 2), none⟩, ⟨(some 11), .load1 (.t 10), none⟩, ⟨(some 12), .mkFn 67 [(.t 3)], none⟩, ⟨(some 13), .call (.k (.c (.fn 66 []))) [(.t 11), (.t 12)], none⟩, ⟨(some 6), .mov (.t 13), none⟩])
  (.seq (.seq (.region [⟨(some 14), .mov (.t 6), none⟩, ⟨(some 15), .bin .lss .int (.t 14) (.k (.c (.int .i64 0))), none⟩])
  (.cond (.t 15) (.seq (.region [⟨(some 4), .mov (.k (.c (.int .i64 0))), none⟩, ⟨(some 5), .mov (.k (.c (.int .i64 6))), none⟩])
  .ret) .skip))
  (.seq (.region [⟨(some 16), .mov (.t 6), none⟩, ⟨(some 4), .mov (.t 16), none⟩, ⟨(some 5), .mov (.k (.c (.int .i64 0))), none⟩])
  .ret))))), [.tmp 4, .tmp 5], true⟩
theorem c42 : kk 42 = some k42 := by kernel_rfl
/-- loop.example/g01263/spec.l05Items -/
def l43_0 : KC := (.seq (.seq (.region [⟨(some 7), .mov (.t 3), none⟩, ⟨(some 8), .mov (.t 0), none⟩, ⟨(some 9), .len false (.t 8), none⟩, ⟨(some 10), .bin .lss .int (.t 7) (.t 9), none⟩])
  (.cond (.t 10) .skip (.exit 0)))
  (.seq (.block 1 (.seq (.region [⟨(some 13), .mov (.t 0), none⟩, ⟨(some 14), .mov (.t 3), none⟩, ⟨(some 15), .idxS 2 (.t 13) (.t 14), none⟩, ⟨(some 16), .call (.k (.c (.fn 54 []))) [(.t 15)], none⟩, ⟨(some 17), .un .not (.t 16), none⟩])
  (.cond (.t 17) (.seq (.region [⟨(some 2), .mov (.k (.c (.bool false))), none⟩])
  .ret) .skip)))
  (.region [⟨(some 11), .mov (.t 3), none⟩, ⟨(some 12), .bin .add .int (.t 11) (.k (.c (.int .i64 1))), none⟩, ⟨(some 3), .mov (.t 12), none⟩])))
def k43 : KF := ⟨18, (.seq (.region [⟨(some 2), .mov (.k (.c (.bool false))), none⟩])
  (.seq (.seq (.region [⟨(some 4), .mov (.t 0), none⟩, ⟨(some 5), .len false (.t 4), none⟩, ⟨(some 6), .bin .gtr .int (.t 5) (.k (.c (.int .i64 40))), none⟩])
  (.cond (.t 6) (.seq (.region [⟨(some 2), .mov (.k (.c (.bool false))), none⟩])
  .ret) .skip))
  (.seq (.seq (.region [⟨(some 3), .mov (.k (.c (.int .i64 0))), none⟩])
  (.block 0 (.loop l43_0)))
  (.seq (.region [⟨(some 2), .mov (.k (.c (.bool true))), none⟩])
  .ret)))), [.tmp 2], true⟩
theorem c43 : kk 43 = some k43 := by kernel_rfl
/-- loop.example/g01263/impl.validItem -/
def k44 : KF := ⟨16, (.seq (.region [⟨(some 1), .box 51 (.t 0), none⟩, ⟨(some 2), .mov (.k (.c (.bool false))), none⟩])
  (.seq (.region [⟨(some 3), .fldA 0 (.t 1), none⟩, ⟨(some 4), .load1 (.t 3), none⟩, ⟨(some 5), .bin .geq .int (.t 4) (.k (.c (.int .i8 0))), none⟩, ⟨(some 6), .mov (.t 5), none⟩, ⟨(some 7), .fldA 0 (.t 1), some (6, true)⟩, ⟨(some 8), .load1 (.t 7), some (6, true)⟩, ⟨(some 9), .bin .leq .int (.t 8) (.k (.c (.int .i8 3))), some (6, true)⟩, ⟨(some 10), .pick (.t 6) (.t 9) (.k (.c (.bool false))), none⟩, ⟨(some 11), .mov (.t 10), none⟩, ⟨(some 12), .fldA 1 (.t 1), some (11, true)⟩, ⟨(some 13), .load1 (.t 12), some (11, true)⟩, ⟨(some 14), .call (.k (.c (.fn 56 []))) [(.t 13)], some (11, true)⟩, ⟨(some 15), .pick (.t 11) (.t 14) (.k (.c (.bool false))), none⟩, ⟨(some 2), .mov (.t 15), none⟩])
  .ret)), [.tmp 2], true⟩
theorem c44 : kk 44 = some k44 := by kernel_rfl
/-- loop.example/g01263/laws.eqItem -/
def k45 : KF := ⟨15, (.seq (.region [⟨(some 2), .box 51 (.t 0), none⟩, ⟨(some 3), .box 51 (.t 1), none⟩, ⟨(some 4), .mov (.k (.c (.bool false))), none⟩])
  (.seq (.seq (.region [⟨(some 5), .fldA 0 (.t 2), none⟩, ⟨(some 6), .load1 (.t 5), none⟩, ⟨(some 7), .fldA 0 (.t 3), none⟩, ⟨(some 8), .load1 (.t 7), none⟩, ⟨(some 9), .bin .neq .int (.t 6) (.t 8), none⟩])
  (.cond (.t 9) (.seq (.region [⟨(some 4), .mov (.k (.c (.bool false))), none⟩])
  .ret) .skip))
  (.seq (.seq (.region [⟨(some 10), .fldA 1 (.t 2), none⟩, ⟨(some 11), .load1 (.t 10), none⟩, ⟨(some 12), .fldA 1 (.t 3), none⟩, ⟨(some 13), .load1 (.t 12), none⟩, ⟨(some 14), .bin .neq .int (.t 11) (.t 13), none⟩])
  (.cond (.t 14) (.seq (.region [⟨(some 4), .mov (.k (.c (.bool false))), none⟩])
  .ret) .skip))
  (.seq (.region [⟨(some 4), .mov (.k (.c (.bool true))), none⟩])
  .ret)))), [.tmp 4], true⟩
theorem c45 : kk 45 = some k45 := by kernel_rfl
/-- loop.example/g01263/spec.l05Balance -/
def l46_0 : KC := (.seq (.seq (.region [⟨(some 5), .mov (.t 4), none⟩, ⟨(some 6), .mov (.t 0), none⟩, ⟨(some 7), .len false (.t 6), none⟩, ⟨(some 8), .bin .lss .int (.t 5) (.t 7), none⟩])
  (.cond (.t 8) .skip (.exit 0)))
  (.seq (.block 1 (.seq (.region [⟨(some 11), .mov (.t 0), none⟩, ⟨(some 12), .mov (.t 4), none⟩, ⟨(some 13), .idxS 2 (.t 11) (.t 12), none⟩, ⟨(some 14), .fldA 0 (.t 13), none⟩, ⟨(some 15), .load1 (.t 14), none⟩, ⟨(some 16), .bin .eql .int (.t 15) (.k (.c (.int .i8 0))), none⟩, ⟨(some 17), .mov (.t 16), none⟩, ⟨(some 18), .mov (.t 0), some (17, false)⟩, ⟨(some 19), .mov (.t 4), some (17, false)⟩, ⟨(some 20), .idxS 2 (.t 18) (.t 19), some (17, false)⟩, ⟨(some 21), .fldA 0 (.t 20), some (17, false)⟩, ⟨(some 22), .load1 (.t 21), some (17, false)⟩, ⟨(some 23), .bin .eql .int (.t 22) (.k (.c (.int .i8 1))), some (17, false)⟩, ⟨(some 24), .pick (.t 17) (.k (.c (.bool true))) (.t 23), none⟩])
  (.cond (.t 24) (.region [⟨(some 25), .mov (.t 3), none⟩, ⟨(some 26), .mov (.t 0), none⟩, ⟨(some 27), .mov (.t 4), none⟩, ⟨(some 28), .idxS 2 (.t 26) (.t 27), none⟩, ⟨(some 29), .fldA 1 (.t 28), none⟩, ⟨(some 30), .load1 (.t 29), none⟩, ⟨(some 31), .bin .add .int (.t 25) (.t 30), none⟩, ⟨(some 3), .mov (.t 31), none⟩]) (.region [⟨(some 32), .mov (.t 3), none⟩, ⟨(some 33), .mov (.t 0), none⟩, ⟨(some 34), .mov (.t 4), none⟩, ⟨(some 35), .idxS 2 (.t 33) (.t 34), none⟩, ⟨(some 36), .fldA 1 (.t 35), none⟩, ⟨(some 37), .load1 (.t 36), none⟩, ⟨(some 38), .bin .sub .int (.t 32) (.t 37), none⟩, ⟨(some 3), .mov (.t 38), none⟩]))))
  (.region [⟨(some 9), .mov (.t 4), none⟩, ⟨(some 10), .bin .add .int (.t 9) (.k (.c (.int .i64 1))), none⟩, ⟨(some 4), .mov (.t 10), none⟩])))
def k46 : KF := ⟨40, (.seq (.region [⟨(some 2), .mov (.k (.c (.int .i64 0))), none⟩])
  (.seq (.region [⟨(some 3), .mov (.k (.c (.int .i64 0))), none⟩])
  (.seq (.seq (.region [⟨(some 4), .mov (.k (.c (.int .i64 0))), none⟩])
  (.block 0 (.loop l46_0)))
  (.seq (.region [⟨(some 39), .mov (.t 3), none⟩, ⟨(some 2), .mov (.t 39), none⟩])
  .ret)))), [.tmp 2], true⟩
theorem c46 : kk 46 = some k46 := by kernel_rfl
/-- loop.example/g01263/impl.balance -/
def l47_0 : KC := (.seq (.region [⟨(some 9), .bin .lss .int (.t 8) (.t 7), none⟩])
  (.seq (.cond (.t 9) .skip (.exit 0))
  (.seq (.block 1 (.seq (.region [⟨(some 10), .idxS 2 (.t 6) (.t 8), none⟩, ⟨(some 11), .loadN 2 (.t 10), none⟩, ⟨(some 5), .alloc 51 [(.int .i8 0), (.int .i64 0)], none⟩, ⟨none, .store 2 (.t 5) (.t 11), none⟩])
  (.seq (.region [⟨(some 12), .fldA 0 (.t 5), none⟩, ⟨(some 13), .load1 (.t 12), none⟩, ⟨(some 14), .bin .eql .int (.t 13) (.k (.c (.int .i8 0))), none⟩, ⟨(some 15), .mov (.t 14), none⟩, ⟨(some 16), .fldA 0 (.t 5), some (15, false)⟩, ⟨(some 17), .load1 (.t 16), some (15, false)⟩, ⟨(some 18), .bin .eql .int (.t 17) (.k (.c (.int .i8 1))), some (15, false)⟩, ⟨(some 19), .pick (.t 15) (.k (.c (.bool true))) (.t 18), none⟩])
  (.cond (.t 19) (.region [⟨(some 20), .mov (.t 3), none⟩, ⟨(some 21), .fldA 1 (.t 5), none⟩, ⟨(some 22), .load1 (.t 21), none⟩, ⟨(some 23), .bin .add .int (.t 20) (.t 22), none⟩, ⟨(some 3), .mov (.t 23), none⟩]) (.region [⟨(some 24), .mov (.t 3), none⟩, ⟨(some 25), .fldA 1 (.t 5), none⟩, ⟨(some 26), .load1 (.t 25), none⟩, ⟨(some 27), .bin .sub .int (.t 24) (.t 26), none⟩, ⟨(some 3), .mov (.t 27), none⟩])))))
  (.region [⟨(some 28), .bin .add .int (.t 8) (.k (.c (.int .i64 1))), none⟩, ⟨(some 8), .mov (.t 28), none⟩]))))
def k47 : KF := ⟨30, (.seq (.region [⟨(some 2), .mov (.k (.c (.int .i64 0))), none⟩])
  (.seq (.region [⟨(some 3), .mov (.k (.c (.int .i64 0))), none⟩])
  (.seq (.seq (.region [⟨(some 6), .mov (.t 0), none⟩, ⟨(some 7), .len false (.t 6), none⟩, ⟨(some 8), .mov (.k (.c (.int .i64 0))), none⟩])
  (.block 0 (.loop l47_0)))
  (.seq (.region [⟨(some 29), .mov (.t 3), none⟩, ⟨(some 2), .mov (.t 29), none⟩])
  .ret)))), [.tmp 2], true⟩
theorem c47 : kk 47 = some k47 := by kernel_rfl
/-- loop.example/g01263/spec.l05Right -/
def k48 : KF := ⟨27, (.seq (.region [⟨(some 2), .mov (.k (.c (.bool false))), none⟩])
  (.seq (.drawn [(⟨(some 3), .mov (.t 0), none⟩, []), (⟨(some 4), .nilchk (.t 3), none⟩, []), (⟨(some 5), .fldA 0 (.t 4), none⟩, []), (⟨(some 6), .load1 (.t 5), none⟩, []), (⟨(some 7), .call (.k (.c (.fn 50 []))) [(.t 6)], none⟩, []), (⟨(some 8), .mov (.t 7), none⟩, []), (⟨(some 9), .mov (.t 0), some (8, true)⟩, []), (⟨(some 10), .nilchk (.t 9), some (8, true)⟩, []), (⟨(some 11), .fldA 1 (.t 10), some (8, true)⟩, []), (⟨(some 12), .load1 (.t 11), some (8, true)⟩, []), (⟨(some 13), .call (.k (.c (.fn 43 []))) [(.t 12)], some (8, true)⟩, []), (⟨(some 14), .pick (.t 8) (.t 13) (.k (.c (.bool false))), none⟩, []), (⟨(some 15), .mov (.t 14), none⟩, []), (⟨(some 16), .mov (.t 0), some (15, true)⟩, []), (⟨(some 17), .nilchk (.t 16), some (15, true)⟩, []), (⟨(some 18), .fldA 2 (.t 17), some (15, true)⟩, []), (⟨(some 19), .load1 (.t 18), some (15, true)⟩, []), (⟨(some 20), .mov (.t 0), some (15, true)⟩, []), (⟨(some 21), .nilchk (.t 20), some (15, true)⟩, []), (⟨(some 22), .fldA 1 (.t 21), some (15, true)⟩, []), (⟨(some 23), .load1 (.t 22), some (15, true)⟩, []), (⟨(some 24), .call (.k (.c (.fn 46 []))) [(.t 23)], some (15, true)⟩, [⟨(some 19), .load1 (.t 18), some (15, true)⟩]), (⟨(some 25), .bin .eql .int (.t 19) (.t 24), some (15, true)⟩, []), (⟨(some 26), .pick (.t 15) (.t 25) (.k (.c (.bool false))), none⟩, []), (⟨(some 2), .mov (.t 26), none⟩, [])])
  .ret)), [.tmp 2], true⟩
theorem c48 : kk 48 = some k48 := by kernel_rfl
/-- loop.example/g01263/impl.isLetters -/
def l49_0 : KC := (.seq (.region [⟨(some 9), .bin .lss .int (.t 8) (.t 7), none⟩])
  (.seq (.cond (.t 9) .skip (.exit 0))
  (.seq (.block 1 (.seq (.region [⟨(some 10), .mov (.t 8), none⟩, ⟨(some 5), .mov (.t 10), none⟩])
  (.seq (.region [⟨(some 11), .mov (.t 0), none⟩, ⟨(some 12), .mov (.t 5), none⟩, ⟨(some 13), .idxStr (.t 11) (.t 12), none⟩, ⟨(some 14), .bin .lss .int (.t 13) (.k (.c (.int .u8 97))), none⟩, ⟨(some 15), .mov (.t 14), none⟩, ⟨(some 16), .mov (.t 0), some (15, false)⟩, ⟨(some 17), .mov (.t 5), some (15, false)⟩, ⟨(some 18), .idxStr (.t 16) (.t 17), some (15, false)⟩, ⟨(some 19), .bin .gtr .int (.t 18) (.k (.c (.int .u8 122))), some (15, false)⟩, ⟨(some 20), .pick (.t 15) (.k (.c (.bool true))) (.t 19), none⟩])
  (.cond (.t 20) (.seq (.region [⟨(some 4), .mov (.k (.c (.bool false))), none⟩])
  .ret) .skip))))
  (.region [⟨(some 21), .bin .add .int (.t 8) (.k (.c (.int .i64 1))), none⟩, ⟨(some 8), .mov (.t 21), none⟩]))))
def k49 : KF := ⟨31, (.seq (.region [⟨(some 4), .mov (.k (.c (.bool false))), none⟩])
  (.seq (.seq (.region [⟨(some 6), .mov (.t 0), none⟩, ⟨(some 7), .len true (.t 6), none⟩, ⟨(some 8), .mov (.k (.c (.int .i64 0))), none⟩])
  (.block 0 (.loop l49_0)))
  (.seq (.region [⟨(some 22), .mov (.t 0), none⟩, ⟨(some 23), .len true (.t 22), none⟩, ⟨(some 24), .bin .geq .int (.t 23) (.k (.c (.int .i64 1))), none⟩, ⟨(some 25), .mov (.t 24), none⟩, ⟨(some 26), .mov (.t 0), some (25, true)⟩, ⟨(some 27), .len true (.t 26), some (25, true)⟩, ⟨(some 28), .mov (.t 1), some (25, true)⟩, ⟨(some 29), .bin .leq .int (.t 27) (.t 28), some (25, true)⟩, ⟨(some 30), .pick (.t 25) (.t 29) (.k (.c (.bool false))), none⟩, ⟨(some 4), .mov (.t 30), none⟩])
  .ret))), [.tmp 4], true⟩
theorem c49 : kk 49 = some k49 := by kernel_rfl
/-- loop.example/g01263/spec.l05Title -/
def l50_0 : KC := (.seq (.seq (.region [⟨(some 4), .mov (.t 3), none⟩, ⟨(some 5), .mov (.t 0), none⟩, ⟨(some 6), .len true (.t 5), none⟩, ⟨(some 7), .bin .lss .int (.t 4) (.t 6), none⟩])
  (.cond (.t 7) .skip (.exit 0)))
  (.seq (.block 1 (.seq (.region [⟨(some 10), .mov (.t 0), none⟩, ⟨(some 11), .mov (.t 3), none⟩, ⟨(some 12), .idxStr (.t 10) (.t 11), none⟩, ⟨(some 13), .bin .lss .int (.t 12) (.k (.c (.int .u8 97))), none⟩, ⟨(some 14), .mov (.t 13), none⟩, ⟨(some 15), .mov (.t 0), some (14, false)⟩, ⟨(some 16), .mov (.t 3), some (14, false)⟩, ⟨(some 17), .idxStr (.t 15) (.t 16), some (14, false)⟩, ⟨(some 18), .bin .gtr .int (.t 17) (.k (.c (.int .u8 122))), some (14, false)⟩, ⟨(some 19), .pick (.t 14) (.k (.c (.bool true))) (.t 18), none⟩])
  (.cond (.t 19) (.seq (.region [⟨(some 2), .mov (.k (.c (.bool false))), none⟩])
  .ret) .skip)))
  (.region [⟨(some 8), .mov (.t 3), none⟩, ⟨(some 9), .bin .add .int (.t 8) (.k (.c (.int .i64 1))), none⟩, ⟨(some 3), .mov (.t 9), none⟩])))
def k50 : KF := ⟨23, (.seq (.region [⟨(some 2), .mov (.k (.c (.bool false))), none⟩])
  (.seq (.seq (.region [⟨(some 3), .mov (.k (.c (.int .i64 0))), none⟩])
  (.block 0 (.loop l50_0)))
  (.seq (.region [⟨(some 20), .mov (.t 0), none⟩, ⟨(some 21), .len true (.t 20), none⟩, ⟨(some 22), .call (.k (.c (.fn 68 []))) [(.t 21), (.k (.c (.int .i64 1))), (.k (.c (.int .i64 16)))], none⟩, ⟨(some 2), .mov (.t 22), none⟩])
  .ret))), [.tmp 2], true⟩
theorem c50 : kk 50 = some k50 := by kernel_rfl
/-- loop.example/g01263/spec.l05Account -/
def k51 : KF := ⟨12, (.seq (.region [⟨(some 4), .alloc 36 [(.str ⟨#[]⟩), (.slice none 0 (.exact 0)), (.int .i64 0)], none⟩])
  (.seq (.region [⟨(some 5), .mov (.t 0), none⟩, ⟨(some 6), .buildSl 51 0 [] [], none⟩, ⟨(some 7), .mov (.t 1), none⟩, ⟨(some 8), .app 51 2 16 (.t 6) (.t 7), none⟩, ⟨(some 9), .mov (.t 1), none⟩, ⟨(some 10), .call (.k (.c (.fn 46 []))) [(.t 9)], none⟩, ⟨(some 11), .build [(.str ⟨#[]⟩), (.slice none 0 (.exact 0)), (.int .i64 0)] [(0, 1, (.t 5)), (1, 1, (.t 8)), (2, 1, (.t 10))], none⟩, ⟨none, .store 3 (.t 4) (.t 11), none⟩])
  .ret)), [.cellN 4 3], false⟩
theorem c51 : kk 51 = some k51 := by kernel_rfl
/-- slices.Clone[[]loop.example/g01263/impl.Item,loop.example/g01263/impl.Item] -/
def k52 : KF := ⟨8, (.seq (.region [⟨(some 2), .mov (.k (.c (.slice none 0 (.exact 0)))), none⟩])
  (.seq (.seq (.region [⟨(some 3), .mov (.t 0), none⟩, ⟨(some 4), .bin .eql .slice (.t 3) (.k (.c (.slice none 0 (.exact 0)))), none⟩])
  (.cond (.t 4) (.seq (.region [⟨(some 2), .mov (.k (.c (.slice none 0 (.exact 0)))), none⟩])
  .ret) .skip))
  (.seq (.region [⟨(some 5), .buildSl 51 0 [] [], none⟩, ⟨(some 6), .mov (.t 0), none⟩, ⟨(some 7), .app 51 2 16 (.t 5) (.t 6), none⟩, ⟨(some 2), .mov (.t 7), none⟩])
  .ret))), [.tmp 2], false⟩
theorem c52 : kk 52 = some k52 := by kernel_rfl
/-- loop.example/g01263/laws.heldItemS -/
def l53_0 : KC := (.seq (.seq (.region [⟨(some 6), .mov (.t 5), none⟩, ⟨(some 7), .mov (.t 0), none⟩, ⟨(some 8), .len false (.t 7), none⟩, ⟨(some 9), .bin .lss .int (.t 6) (.t 8), none⟩])
  (.cond (.t 9) .skip (.exit 0)))
  (.seq (.block 1 (.seq (.seq (.region [⟨(some 12), .mov (.t 0), none⟩, ⟨(some 13), .mov (.t 5), none⟩, ⟨(some 14), .idxS 2 (.t 12) (.t 13), none⟩, ⟨(some 15), .fldA 0 (.t 14), none⟩, ⟨(some 16), .load1 (.t 15), none⟩, ⟨(some 17), .mov (.t 1), none⟩, ⟨(some 18), .conv .i8 (.t 17), none⟩, ⟨(some 19), .bin .neq .int (.t 16) (.t 18), none⟩])
  (.cond (.t 19) (.seq (.region [⟨(some 4), .mov (.k (.c (.int .i64 (-1)))), none⟩])
  .ret) .skip))
  (.seq (.region [⟨(some 20), .mov (.t 1), none⟩, ⟨(some 21), .bin .add .int (.t 20) (.k (.c (.int .i64 1))), none⟩, ⟨(some 1), .mov (.t 21), none⟩])
  (.seq (.seq (.region [⟨(some 22), .mov (.t 0), none⟩, ⟨(some 23), .mov (.t 5), none⟩, ⟨(some 24), .idxS 2 (.t 22) (.t 23), none⟩, ⟨(some 25), .fldA 1 (.t 24), none⟩, ⟨(some 26), .load1 (.t 25), none⟩, ⟨(some 27), .mov (.t 1), none⟩, ⟨(some 28), .bin .neq .int (.t 26) (.t 27), none⟩])
  (.cond (.t 28) (.seq (.region [⟨(some 4), .mov (.k (.c (.int .i64 (-1)))), none⟩])
  .ret) .skip))
  (.region [⟨(some 29), .mov (.t 1), none⟩, ⟨(some 30), .bin .add .int (.t 29) (.k (.c (.int .i64 1))), none⟩, ⟨(some 1), .mov (.t 30), none⟩])))))
  (.region [⟨(some 10), .mov (.t 5), none⟩, ⟨(some 11), .bin .add .int (.t 10) (.k (.c (.int .i64 1))), none⟩, ⟨(some 5), .mov (.t 11), none⟩])))
def k53 : KF := ⟨32, (.seq (.region [⟨(some 4), .mov (.k (.c (.int .i64 0))), none⟩])
  (.seq (.seq (.region [⟨(some 5), .mov (.k (.c (.int .i64 0))), none⟩])
  (.block 0 (.loop l53_0)))
  (.seq (.region [⟨(some 31), .mov (.t 1), none⟩, ⟨(some 4), .mov (.t 31), none⟩])
  .ret))), [.tmp 4], true⟩
theorem c53 : kk 53 = some k53 := by kernel_rfl
/-- loop.example/g01263/spec.l05Item -/
def k54 : KF := ⟨16, (.seq (.region [⟨(some 2), .mov (.k (.c (.bool false))), none⟩])
  (.seq (.region [⟨(some 3), .mov (.t 0), none⟩, ⟨(some 4), .nilchk (.t 3), none⟩, ⟨(some 5), .fldA 0 (.t 4), none⟩, ⟨(some 6), .load1 (.t 5), none⟩, ⟨(some 7), .conv .i64 (.t 6), none⟩, ⟨(some 8), .call (.k (.c (.fn 68 []))) [(.t 7), (.k (.c (.int .i64 0))), (.k (.c (.int .i64 3)))], none⟩, ⟨(some 9), .mov (.t 8), none⟩, ⟨(some 10), .mov (.t 0), some (9, true)⟩, ⟨(some 11), .nilchk (.t 10), some (9, true)⟩, ⟨(some 12), .fldA 1 (.t 11), some (9, true)⟩, ⟨(some 13), .load1 (.t 12), some (9, true)⟩, ⟨(some 14), .call (.k (.c (.fn 55 []))) [(.t 13)], some (9, true)⟩, ⟨(some 15), .pick (.t 9) (.t 14) (.k (.c (.bool false))), none⟩, ⟨(some 2), .mov (.t 15), none⟩])
  .ret)), [.tmp 2], true⟩
theorem c54 : kk 54 = some k54 := by kernel_rfl
/-- loop.example/g01263/spec.l01Amount -/
def k55 : KF := ⟨5, (.seq (.region [⟨(some 2), .mov (.k (.c (.bool false))), none⟩])
  (.seq (.region [⟨(some 3), .mov (.t 0), none⟩, ⟨(some 4), .call (.k (.c (.fn 68 []))) [(.t 3), (.k (.c (.int .i64 0))), (.k (.c (.int .i64 100000000)))], none⟩, ⟨(some 2), .mov (.t 4), none⟩])
  .ret)), [.tmp 2], true⟩
theorem c55 : kk 55 = some k55 := by kernel_rfl
/-- loop.example/g01263/impl.isAmount -/
def k56 : KF := ⟨9, (.seq (.region [⟨(some 2), .mov (.k (.c (.bool false))), none⟩])
  (.seq (.region [⟨(some 3), .mov (.t 0), none⟩, ⟨(some 4), .bin .geq .int (.t 3) (.k (.c (.int .i64 0))), none⟩, ⟨(some 5), .mov (.t 4), none⟩, ⟨(some 6), .mov (.t 0), some (5, true)⟩, ⟨(some 7), .bin .leq .int (.t 6) (.k (.c (.int .i64 100000000))), some (5, true)⟩, ⟨(some 8), .pick (.t 5) (.t 7) (.k (.c (.bool false))), none⟩, ⟨(some 2), .mov (.t 8), none⟩])
  .ret)), [.tmp 2], true⟩
theorem c56 : kk 56 = some k56 := by kernel_rfl
/-- loop.example/g01263/impl.size -/
def k57 : KF := ⟨7, (.seq (.region [⟨(some 2), .mov (.k (.c (.int .i64 0))), none⟩])
  (.seq (.region [⟨(some 3), .mov (.t 0), none⟩, ⟨(some 4), .mov (.t 0), none⟩, ⟨(some 5), .un .neg (.t 4), none⟩, ⟨(some 6), .max [(.t 3), (.t 5)], none⟩, ⟨(some 2), .mov (.t 6), none⟩])
  .ret)), [.tmp 2], true⟩
theorem c57 : kk 57 = some k57 := by kernel_rfl
/-- loop.example/g01263/laws.szAccountS -/
def l58_0 : KC := (.seq (.seq (.region [⟨(some 12), .mov (.t 5), none⟩, ⟨(some 13), .mov (.t 0), none⟩, ⟨(some 14), .len false (.t 13), none⟩, ⟨(some 15), .bin .lss .int (.t 12) (.t 14), none⟩])
  (.cond (.t 15) .skip (.exit 0)))
  (.seq (.block 1 (.seq (.region [⟨(some 18), .mov (.t 0), none⟩, ⟨(some 19), .mov (.t 5), none⟩, ⟨(some 20), .idxS 3 (.t 18) (.t 19), none⟩, ⟨(some 21), .loadN 3 (.t 20), none⟩, ⟨(some 22), .mov (.t 1), none⟩, ⟨(some 23), .call (.k (.c (.fn 19 []))) [(.t 21), (.t 22)], none⟩, ⟨(some 1), .mov (.t 23), none⟩])
  (.seq (.region [⟨(some 24), .mov (.t 1), none⟩, ⟨(some 25), .bin .lss .int (.t 24) (.k (.c (.int .i64 0))), none⟩])
  (.cond (.t 25) (.seq (.region [⟨(some 4), .mov (.k (.c (.int .i64 (-1)))), none⟩])
  .ret) .skip))))
  (.region [⟨(some 16), .mov (.t 5), none⟩, ⟨(some 17), .bin .add .int (.t 16) (.k (.c (.int .i64 1))), none⟩, ⟨(some 5), .mov (.t 17), none⟩])))
def k58 : KF := ⟨27, (.seq (.region [⟨(some 4), .mov (.k (.c (.int .i64 0))), none⟩])
  (.seq (.region [⟨(some 6), .mov (.t 1), none⟩, ⟨(some 7), .mov (.t 0), none⟩, ⟨(some 8), .len false (.t 7), none⟩, ⟨(some 9), .bin .sub .int (.t 6) (.t 8), none⟩, ⟨(some 1), .mov (.t 9), none⟩])
  (.seq (.seq (.region [⟨(some 10), .mov (.t 1), none⟩, ⟨(some 11), .bin .lss .int (.t 10) (.k (.c (.int .i64 0))), none⟩])
  (.cond (.t 11) (.seq (.region [⟨(some 4), .mov (.k (.c (.int .i64 (-1)))), none⟩])
  .ret) .skip))
  (.seq (.seq (.region [⟨(some 5), .mov (.k (.c (.int .i64 0))), none⟩])
  (.block 0 (.loop l58_0)))
  (.seq (.region [⟨(some 26), .mov (.t 1), none⟩, ⟨(some 4), .mov (.t 26), none⟩])
  .ret))))), [.tmp 4], true⟩
theorem c58 : kk 58 = some k58 := by kernel_rfl
/-- loop.example/g01263/spec.l05Fault -/
def l59_0 : KC := (.seq (.seq (.region [⟨(some 4), .mov (.t 3), none⟩, ⟨(some 5), .mov (.t 0), none⟩, ⟨(some 6), .nilchk (.t 5), none⟩, ⟨(some 7), .fldA 0 (.t 6), none⟩, ⟨(some 8), .load1 (.t 7), none⟩, ⟨(some 9), .len false (.t 8), none⟩, ⟨(some 10), .bin .lss .int (.t 4) (.t 9), none⟩])
  (.cond (.t 10) .skip (.exit 0)))
  (.seq (.block 1 (.seq (.region [⟨(some 13), .mov (.t 0), none⟩, ⟨(some 14), .nilchk (.t 13), none⟩, ⟨(some 15), .fldA 0 (.t 14), none⟩, ⟨(some 16), .load1 (.t 15), none⟩, ⟨(some 17), .mov (.t 3), none⟩, ⟨(some 18), .idxS 3 (.t 16) (.t 17), none⟩, ⟨(some 19), .call (.k (.c (.fn 48 []))) [(.t 18)], none⟩, ⟨(some 20), .un .not (.t 19), none⟩, ⟨(some 21), .mov (.t 20), none⟩, ⟨(some 22), .mov (.t 0), some (21, false)⟩, ⟨(some 23), .nilchk (.t 22), some (21, false)⟩, ⟨(some 24), .fldA 0 (.t 23), some (21, false)⟩, ⟨(some 25), .load1 (.t 24), some (21, false)⟩, ⟨(some 26), .mov (.t 3), some (21, false)⟩, ⟨(some 27), .call (.k (.c (.fn 69 []))) [(.t 25), (.t 26)], some (21, false)⟩, ⟨(some 28), .pick (.t 21) (.k (.c (.bool true))) (.t 27), none⟩])
  (.cond (.t 28) (.seq (.region [⟨(some 29), .mov (.t 3), none⟩, ⟨(some 2), .mov (.t 29), none⟩])
  .ret) .skip)))
  (.region [⟨(some 11), .mov (.t 3), none⟩, ⟨(some 12), .bin .add .int (.t 11) (.k (.c (.int .i64 1))), none⟩, ⟨(some 3), .mov (.t 12), none⟩])))
def k59 : KF := ⟨45, (.seq (.region [⟨(some 2), .mov (.k (.c (.int .i64 0))), none⟩])
  (.seq (.seq (.region [⟨(some 3), .mov (.k (.c (.int .i64 0))), none⟩])
  (.block 0 (.loop l59_0)))
  (.seq (.seq (.drawn [(⟨(some 30), .mov (.t 0), none⟩, []), (⟨(some 31), .nilchk (.t 30), none⟩, []), (⟨(some 32), .fldA 1 (.t 31), none⟩, []), (⟨(some 33), .load1 (.t 32), none⟩, []), (⟨(some 34), .mov (.t 0), none⟩, []), (⟨(some 35), .nilchk (.t 34), none⟩, []), (⟨(some 36), .fldA 0 (.t 35), none⟩, []), (⟨(some 37), .load1 (.t 36), none⟩, []), (⟨(some 38), .call (.k (.c (.fn 70 []))) [(.t 37)], none⟩, [⟨(some 33), .load1 (.t 32), none⟩]), (⟨(some 39), .bin .neq .int (.t 33) (.t 38), none⟩, [])])
  (.cond (.t 39) (.seq (.region [⟨(some 40), .mov (.t 0), none⟩, ⟨(some 41), .nilchk (.t 40), none⟩, ⟨(some 42), .fldA 0 (.t 41), none⟩, ⟨(some 43), .load1 (.t 42), none⟩, ⟨(some 44), .len false (.t 43), none⟩, ⟨(some 2), .mov (.t 44), none⟩])
  .ret) .skip))
  (.seq (.region [⟨(some 2), .mov (.k (.c (.int .i64 (-1)))), none⟩])
  .ret)))), [.tmp 2], true⟩
theorem c59 : kk 59 = some k59 := by kernel_rfl
/-- loop.example/g01263/laws.toAccountS -/
def l60_0 : KC := (.seq (.seq (.region [⟨(some 8), .mov (.t 4), none⟩, ⟨(some 9), .mov (.t 0), none⟩, ⟨(some 10), .len false (.t 9), none⟩, ⟨(some 11), .bin .lss .int (.t 8) (.t 10), none⟩])
  (.cond (.t 11) .skip (.exit 0)))
  (.seq (.block 1 (.region [⟨(some 14), .mov (.t 3), none⟩, ⟨(some 15), .mov (.t 4), none⟩, ⟨(some 16), .mov (.t 0), none⟩, ⟨(some 17), .mov (.t 4), none⟩, ⟨(some 18), .idxS 3 (.t 16) (.t 17), none⟩, ⟨(some 19), .loadN 3 (.t 18), none⟩, ⟨(some 20), .call (.k (.c (.fn 21 []))) [(.t 19)], none⟩, ⟨(some 21), .idxS 3 (.t 14) (.t 15), none⟩, ⟨none, .store 3 (.t 21) (.t 20), none⟩]))
  (.region [⟨(some 12), .mov (.t 4), none⟩, ⟨(some 13), .bin .add .int (.t 12) (.k (.c (.int .i64 1))), none⟩, ⟨(some 4), .mov (.t 13), none⟩])))
def k60 : KF := ⟨23, (.seq (.region [⟨(some 2), .mov (.k (.c (.slice none 0 (.exact 0)))), none⟩])
  (.seq (.region [⟨(some 5), .mov (.t 0), none⟩, ⟨(some 6), .len false (.t 5), none⟩, ⟨(some 7), .mkSl 36 [(.str ⟨#[]⟩), (.slice none 0 (.exact 0)), (.int .i64 0)] 48 (.t 6) (.t 6), none⟩, ⟨(some 3), .mov (.t 7), none⟩])
  (.seq (.seq (.region [⟨(some 4), .mov (.k (.c (.int .i64 0))), none⟩])
  (.block 0 (.loop l60_0)))
  (.seq (.region [⟨(some 22), .mov (.t 3), none⟩, ⟨(some 2), .mov (.t 22), none⟩])
  .ret)))), [.tmp 2], false⟩
theorem c60 : kk 60 = some k60 := by kernel_rfl
/-- loop.example/g01263/impl.hasTitle -/
def k61 : KF := ⟨8, (.seq (.region [⟨(some 3), .box 9 (.t 1), none⟩, ⟨(some 4), .mov (.k (.c (.bool false))), none⟩])
  (.seq (.region [⟨(some 5), .mov (.t 0), none⟩, ⟨(some 6), .mkFn 72 [(.t 3)], none⟩, ⟨(some 7), .call (.k (.c (.fn 71 []))) [(.t 5), (.t 6)], none⟩, ⟨(some 4), .mov (.t 7), none⟩])
  .ret)), [.tmp 4], true⟩
theorem c61 : kk 61 = some k61 := by kernel_rfl
/-- loop.example/g01263/impl.owed -/
def l62_0 : KC := (.seq (.region [⟨(some 9), .bin .lss .int (.t 8) (.t 7), none⟩])
  (.seq (.cond (.t 9) .skip (.exit 0))
  (.seq (.block 1 (.seq (.region [⟨(some 10), .idxS 3 (.t 6) (.t 8), none⟩, ⟨(some 11), .loadN 3 (.t 10), none⟩, ⟨(some 5), .alloc 36 [(.str ⟨#[]⟩), (.slice none 0 (.exact 0)), (.int .i64 0)], none⟩, ⟨none, .store 3 (.t 5) (.t 11), none⟩])
  (.region [⟨(some 12), .mov (.t 3), none⟩, ⟨(some 13), .fldA 2 (.t 5), none⟩, ⟨(some 14), .load1 (.t 13), none⟩, ⟨(some 15), .max [(.t 14), (.k (.c (.int .i64 0)))], none⟩, ⟨(some 16), .bin .add .int (.t 12) (.t 15), none⟩, ⟨(some 3), .mov (.t 16), none⟩])))
  (.region [⟨(some 17), .bin .add .int (.t 8) (.k (.c (.int .i64 1))), none⟩, ⟨(some 8), .mov (.t 17), none⟩]))))
def k62 : KF := ⟨19, (.seq (.region [⟨(some 2), .mov (.k (.c (.int .i64 0))), none⟩])
  (.seq (.region [⟨(some 3), .mov (.k (.c (.int .i64 0))), none⟩])
  (.seq (.seq (.region [⟨(some 6), .mov (.t 0), none⟩, ⟨(some 7), .len false (.t 6), none⟩, ⟨(some 8), .mov (.k (.c (.int .i64 0))), none⟩])
  (.block 0 (.loop l62_0)))
  (.seq (.region [⟨(some 18), .mov (.t 3), none⟩, ⟨(some 2), .mov (.t 18), none⟩])
  .ret)))), [.tmp 2], true⟩
theorem c62 : kk 62 = some k62 := by kernel_rfl
/-- loop.example/g01263/laws.eqAccountS -/
def l63_0 : KC := (.seq (.seq (.region [⟨(some 11), .mov (.t 5), none⟩, ⟨(some 12), .mov (.t 0), none⟩, ⟨(some 13), .len false (.t 12), none⟩, ⟨(some 14), .bin .lss .int (.t 11) (.t 13), none⟩])
  (.cond (.t 14) .skip (.exit 0)))
  (.seq (.block 1 (.seq (.drawn [(⟨(some 17), .mov (.t 0), none⟩, []), (⟨(some 18), .mov (.t 5), none⟩, []), (⟨(some 19), .idxS 3 (.t 17) (.t 18), none⟩, []), (⟨(some 20), .loadN 3 (.t 19), none⟩, []), (⟨(some 21), .mov (.t 1), none⟩, []), (⟨(some 22), .mov (.t 5), none⟩, []), (⟨(some 23), .idxS 3 (.t 21) (.t 22), none⟩, []), (⟨(some 24), .loadN 3 (.t 23), none⟩, []), (⟨(some 25), .call (.k (.c (.fn 23 []))) [(.t 20), (.t 24)], none⟩, []), (⟨(some 26), .un .not (.t 25), none⟩, [])])
  (.cond (.t 26) (.seq (.region [⟨(some 4), .mov (.k (.c (.bool false))), none⟩])
  .ret) .skip)))
  (.region [⟨(some 15), .mov (.t 5), none⟩, ⟨(some 16), .bin .add .int (.t 15) (.k (.c (.int .i64 1))), none⟩, ⟨(some 5), .mov (.t 16), none⟩])))
def k63 : KF := ⟨27, (.seq (.region [⟨(some 4), .mov (.k (.c (.bool false))), none⟩])
  (.seq (.seq (.region [⟨(some 6), .mov (.t 0), none⟩, ⟨(some 7), .len false (.t 6), none⟩, ⟨(some 8), .mov (.t 1), none⟩, ⟨(some 9), .len false (.t 8), none⟩, ⟨(some 10), .bin .neq .int (.t 7) (.t 9), none⟩])
  (.cond (.t 10) (.seq (.region [⟨(some 4), .mov (.k (.c (.bool false))), none⟩])
  .ret) .skip))
  (.seq (.seq (.region [⟨(some 5), .mov (.k (.c (.int .i64 0))), none⟩])
  (.block 0 (.loop l63_0)))
  (.seq (.region [⟨(some 4), .mov (.k (.c (.bool true))), none⟩])
  .ret)))), [.tmp 4], true⟩
theorem c63 : kk 63 = some k63 := by kernel_rfl
/-- loop.example/g01263/spec.l05Roll -/
def k64 : KF := ⟨14, (.seq (.region [⟨(some 2), .mov (.k (.c (.bool false))), none⟩])
  (.seq (.region [⟨(some 3), .mov (.t 0), none⟩, ⟨(some 4), .nilchk (.t 3), none⟩, ⟨(some 5), .fldA 0 (.t 4), none⟩, ⟨(some 6), .load1 (.t 5), none⟩, ⟨(some 7), .len false (.t 6), none⟩, ⟨(some 8), .bin .leq .int (.t 7) (.k (.c (.int .i64 20))), none⟩, ⟨(some 9), .mov (.t 8), none⟩, ⟨(some 10), .mov (.t 0), some (9, true)⟩, ⟨(some 11), .call (.k (.c (.fn 59 []))) [(.t 10)], some (9, true)⟩, ⟨(some 12), .bin .lss .int (.t 11) (.k (.c (.int .i64 0))), some (9, true)⟩, ⟨(some 13), .pick (.t 9) (.t 12) (.k (.c (.bool false))), none⟩, ⟨(some 2), .mov (.t 13), none⟩])
  .ret)), [.tmp 2], true⟩
theorem c64 : kk 64 = some k64 := by kernel_rfl
/-- loop.example/g01263/impl.validRoll -/
def k65 : KF := ⟨12, (.seq (.region [⟨(some 1), .box 63 (.t 0), none⟩, ⟨(some 2), .mov (.k (.c (.bool false))), none⟩])
  (.seq (.region [⟨(some 6), .loadN 2 (.t 1), none⟩, ⟨(some 7), .call (.k (.c (.fn 39 []))) [(.t 6)], none⟩, ⟨(some 5), .mov (.t 7), none⟩, ⟨(some 8), .ext (.t 5) 0, none⟩, ⟨(some 9), .ext (.t 5) 1, none⟩, ⟨(some 3), .mov (.t 8), none⟩, ⟨(some 4), .mov (.t 9), none⟩])
  (.seq (.region [⟨(some 10), .mov (.t 4), none⟩, ⟨(some 11), .bin .eql .int (.t 10) (.k (.c (.int .i64 6))), none⟩, ⟨(some 2), .mov (.t 11), none⟩])
  .ret))), [.tmp 2], true⟩
theorem c65 : kk 65 = some k65 := by kernel_rfl
/-- slices.IndexFunc[[]loop.example/g01263/impl.Account,loop.example/g01263/impl.Account] -/
def l66_0 : KC := (.seq (.region [⟨(some 9), .bin .lss .int (.t 8) (.t 7), none⟩])
  (.seq (.cond (.t 9) .skip (.exit 0))
  (.seq (.block 1 (.seq (.region [⟨(some 10), .mov (.t 8), none⟩, ⟨(some 5), .mov (.t 10), none⟩])
  (.seq (.region [⟨(some 11), .mov (.t 1), none⟩, ⟨(some 12), .mov (.t 0), none⟩, ⟨(some 13), .mov (.t 5), none⟩, ⟨(some 14), .idxS 3 (.t 12) (.t 13), none⟩, ⟨(some 15), .loadN 3 (.t 14), none⟩, ⟨(some 16), .call (.t 11) [(.t 15)], none⟩])
  (.cond (.t 16) (.seq (.region [⟨(some 17), .mov (.t 5), none⟩, ⟨(some 4), .mov (.t 17), none⟩])
  .ret) .skip))))
  (.region [⟨(some 18), .bin .add .int (.t 8) (.k (.c (.int .i64 1))), none⟩, ⟨(some 8), .mov (.t 18), none⟩]))))
def k66 : KF := ⟨19, (.seq (.region [⟨(some 4), .mov (.k (.c (.int .i64 0))), none⟩])
  (.seq (.seq (.region [⟨(some 6), .mov (.t 0), none⟩, ⟨(some 7), .len false (.t 6), none⟩, ⟨(some 8), .mov (.k (.c (.int .i64 0))), none⟩])
  (.block 0 (.loop l66_0)))
  (.seq (.region [⟨(some 4), .mov (.k (.c (.int .i64 (-1)))), none⟩])
  .ret))), [.tmp 4], true⟩
theorem c66 : kk 66 = some k66 := by kernel_rfl
/-- loop.example/g01263/impl.FindAccount$1 -/
def k67 : KF := ⟨8, (.seq (.region [⟨(some 2), .box 36 (.t 0), none⟩, ⟨(some 3), .mov (.k (.c (.bool false))), none⟩])
  (.seq (.region [⟨(some 4), .fldA 0 (.t 2), none⟩, ⟨(some 5), .load1 (.t 4), none⟩, ⟨(some 6), .load1 (.t 1), none⟩, ⟨(some 7), .bin .eql .str (.t 5) (.t 6), none⟩, ⟨(some 3), .mov (.t 7), none⟩])
  .ret)), [.tmp 3], true⟩
theorem c67 : kk 67 = some k67 := by kernel_rfl
/-- loop.example/g01263/spec.l00In -/
def k68 : KF := ⟨15, (.seq (.region [⟨(some 6), .mov (.k (.c (.bool false))), none⟩])
  (.seq (.region [⟨(some 7), .mov (.t 0), none⟩, ⟨(some 8), .mov (.t 1), none⟩, ⟨(some 9), .bin .geq .int (.t 7) (.t 8), none⟩, ⟨(some 10), .mov (.t 9), none⟩, ⟨(some 11), .mov (.t 0), some (10, true)⟩, ⟨(some 12), .mov (.t 2), some (10, true)⟩, ⟨(some 13), .bin .leq .int (.t 11) (.t 12), some (10, true)⟩, ⟨(some 14), .pick (.t 10) (.t 13) (.k (.c (.bool false))), none⟩, ⟨(some 6), .mov (.t 14), none⟩])
  .ret)), [.tmp 6], true⟩
theorem c68 : kk 68 = some k68 := by kernel_rfl
/-- loop.example/g01263/spec.l05Twin -/
def l69_0 : KC := (.seq (.seq (.region [⟨(some 6), .mov (.t 5), none⟩, ⟨(some 7), .mov (.t 1), none⟩, ⟨(some 8), .bin .lss .int (.t 6) (.t 7), none⟩])
  (.cond (.t 8) .skip (.exit 0)))
  (.seq (.block 1 (.seq (.drawn [(⟨(some 11), .mov (.t 0), none⟩, []), (⟨(some 12), .mov (.t 5), none⟩, []), (⟨(some 13), .idxS 3 (.t 11) (.t 12), none⟩, []), (⟨(some 14), .fldA 0 (.t 13), none⟩, []), (⟨(some 15), .load1 (.t 14), none⟩, []), (⟨(some 16), .mov (.t 0), none⟩, []), (⟨(some 17), .mov (.t 1), none⟩, []), (⟨(some 18), .idxS 3 (.t 16) (.t 17), none⟩, []), (⟨(some 19), .fldA 0 (.t 18), none⟩, []), (⟨(some 20), .load1 (.t 19), none⟩, []), (⟨(some 21), .bin .eql .str (.t 15) (.t 20), none⟩, [])])
  (.cond (.t 21) (.seq (.region [⟨(some 4), .mov (.k (.c (.bool true))), none⟩])
  .ret) .skip)))
  (.region [⟨(some 9), .mov (.t 5), none⟩, ⟨(some 10), .bin .add .int (.t 9) (.k (.c (.int .i64 1))), none⟩, ⟨(some 5), .mov (.t 10), none⟩])))
def k69 : KF := ⟨22, (.seq (.region [⟨(some 4), .mov (.k (.c (.bool false))), none⟩])
  (.seq (.seq (.region [⟨(some 5), .mov (.k (.c (.int .i64 0))), none⟩])
  (.block 0 (.loop l69_0)))
  (.seq (.region [⟨(some 4), .mov (.k (.c (.bool false))), none⟩])
  .ret))), [.tmp 4], true⟩
theorem c69 : kk 69 = some k69 := by kernel_rfl
/-- loop.example/g01263/spec.l05Owed -/
def l70_0 : KC := (.seq (.seq (.region [⟨(some 5), .mov (.t 4), none⟩, ⟨(some 6), .mov (.t 0), none⟩, ⟨(some 7), .len false (.t 6), none⟩, ⟨(some 8), .bin .lss .int (.t 5) (.t 7), none⟩])
  (.cond (.t 8) .skip (.exit 0)))
  (.seq (.block 1 (.region [⟨(some 11), .mov (.t 3), none⟩, ⟨(some 12), .mov (.t 0), none⟩, ⟨(some 13), .mov (.t 4), none⟩, ⟨(some 14), .idxS 3 (.t 12) (.t 13), none⟩, ⟨(some 15), .fldA 2 (.t 14), none⟩, ⟨(some 16), .load1 (.t 15), none⟩, ⟨(some 17), .call (.k (.c (.fn 73 []))) [(.t 16), (.k (.c (.int .i64 0)))], none⟩, ⟨(some 18), .bin .add .int (.t 11) (.t 17), none⟩, ⟨(some 3), .mov (.t 18), none⟩]))
  (.region [⟨(some 9), .mov (.t 4), none⟩, ⟨(some 10), .bin .add .int (.t 9) (.k (.c (.int .i64 1))), none⟩, ⟨(some 4), .mov (.t 10), none⟩])))
def k70 : KF := ⟨20, (.seq (.region [⟨(some 2), .mov (.k (.c (.int .i64 0))), none⟩])
  (.seq (.region [⟨(some 3), .mov (.k (.c (.int .i64 0))), none⟩])
  (.seq (.seq (.region [⟨(some 4), .mov (.k (.c (.int .i64 0))), none⟩])
  (.block 0 (.loop l70_0)))
  (.seq (.region [⟨(some 19), .mov (.t 3), none⟩, ⟨(some 2), .mov (.t 19), none⟩])
  .ret)))), [.tmp 2], true⟩
theorem c70 : kk 70 = some k70 := by kernel_rfl
/-- slices.ContainsFunc[[]loop.example/g01263/impl.Account,loop.example/g01263/impl.Account] -/
def k71 : KF := ⟨9, (.seq (.region [⟨(some 4), .mov (.k (.c (.bool false))), none⟩])
  (.seq (.region [⟨(some 5), .mov (.t 0), none⟩, ⟨(some 6), .mov (.t 1), none⟩, ⟨(some 7), .call (.k (.c (.fn 66 []))) [(.t 5), (.t 6)], none⟩, ⟨(some 8), .bin .geq .int (.t 7) (.k (.c (.int .i64 0))), none⟩, ⟨(some 4), .mov (.t 8), none⟩])
  .ret)), [.tmp 4], true⟩
theorem c71 : kk 71 = some k71 := by kernel_rfl
/-- loop.example/g01263/impl.hasTitle$1 -/
def k72 : KF := ⟨8, (.seq (.region [⟨(some 2), .box 36 (.t 0), none⟩, ⟨(some 3), .mov (.k (.c (.bool false))), none⟩])
  (.seq (.region [⟨(some 4), .fldA 0 (.t 2), none⟩, ⟨(some 5), .load1 (.t 4), none⟩, ⟨(some 6), .load1 (.t 1), none⟩, ⟨(some 7), .bin .eql .str (.t 5) (.t 6), none⟩, ⟨(some 3), .mov (.t 7), none⟩])
  .ret)), [.tmp 3], true⟩
theorem c72 : kk 72 = some k72 := by kernel_rfl
/-- loop.example/g01263/spec.l00Max -/
def k73 : KF := ⟨10, (.seq (.region [⟨(some 4), .mov (.k (.c (.int .i64 0))), none⟩])
  (.seq (.seq (.region [⟨(some 5), .mov (.t 0), none⟩, ⟨(some 6), .mov (.t 1), none⟩, ⟨(some 7), .bin .gtr .int (.t 5) (.t 6), none⟩])
  (.cond (.t 7) (.seq (.region [⟨(some 8), .mov (.t 0), none⟩, ⟨(some 4), .mov (.t 8), none⟩])
  .ret) .skip))
  (.seq (.region [⟨(some 9), .mov (.t 1), none⟩, ⟨(some 4), .mov (.t 9), none⟩])
  .ret))), [.tmp 4], true⟩
theorem c73 : kk 73 = some k73 := by kernel_rfl
end Go.Proofs.Ytebdajfangbdpaa
