/- What functions of the program answer: part Code. -/
import Derived.Test.YtjpfeofaghnkdaaViEv
import Derived.Test.YtjpfeofaghnkdaaViComp
import Derived.Test.YtjpfeofaghnkdaaChecked
import Derived.KernelRfl
set_option linter.unusedVariables false
set_option linter.unusedSimpArgs false
set_option linter.unusedSectionVars false
namespace Go.Proofs.Ytjpfeofaghnkdaa
open Go Go.Proofs.Ytjpfeofaghnkdaa.VI
noncomputable def kk : FuncId → Option KF := fun f => cFunc Try.prog (!([32, 33, 39, 44, 47, 48, 51, 70, 71, 76, 82, 85, 94] : List Nat).contains f) f
/-- loop.example/g01263/laws.FnExactWorthBefore -/
def k3 : KF := ⟨35, (.seq (.region [⟨(some 4), .box 23 (.t 1), none⟩, ⟨(some 6), .mov (.k (.c (.bool false))), none⟩])
  (.seq (.region [⟨(some 12), .mov (.t 0), none⟩, ⟨(some 13), .loadN 2 (.t 4), none⟩, ⟨(some 14), .call (.k (.c (.fn 15 []))) [(.t 13)], none⟩, ⟨(some 15), .mov (.t 2), none⟩, ⟨(some 16), .call (.k (.c (.fn 14 []))) [(.t 12), (.t 14), (.t 15)], none⟩, ⟨(some 11), .mov (.t 16), none⟩, ⟨(some 17), .ext (.t 11) 0, none⟩, ⟨(some 18), .ext (.t 11) 1, none⟩, ⟨(some 7), .mov (.t 17), none⟩, ⟨(some 8), .mov (.t 18), none⟩])
  (.seq (.region [⟨(some 20), .mov (.t 0), none⟩, ⟨(some 21), .loadN 2 (.t 4), none⟩, ⟨(some 22), .call (.k (.c (.fn 15 []))) [(.t 21)], none⟩, ⟨(some 23), .mov (.t 2), none⟩, ⟨(some 24), .call (.k (.c (.fn 16 []))) [(.t 20), (.t 22), (.t 23)], none⟩, ⟨(some 19), .mov (.t 24), none⟩, ⟨(some 25), .ext (.t 19) 0, none⟩, ⟨(some 26), .ext (.t 19) 1, none⟩, ⟨(some 9), .mov (.t 25), none⟩, ⟨(some 10), .mov (.t 26), none⟩])
  (.seq (.seq (.region [⟨(some 27), .mov (.t 9), none⟩, ⟨(some 28), .mov (.t 7), none⟩, ⟨(some 29), .bin .neq .int (.t 27) (.t 28), none⟩, ⟨(some 30), .mov (.t 29), none⟩, ⟨(some 31), .mov (.t 10), some (30, false)⟩, ⟨(some 32), .mov (.t 8), some (30, false)⟩, ⟨(some 33), .bin .neq .int (.t 31) (.t 32), some (30, false)⟩, ⟨(some 34), .pick (.t 30) (.k (.c (.bool true))) (.t 33), none⟩])
  (.cond (.t 34) (.seq (.region [⟨(some 6), .mov (.k (.c (.bool false))), none⟩])
  .ret) .skip))
  (.seq (.region [⟨(some 6), .mov (.k (.c (.bool true))), none⟩])
  .ret))))), [.tmp 6], true⟩
theorem c3 : kk 3 = some k3 := by kernel_rfl
/-- loop.example/g01263/laws.FnExactDiscountOf -/
def k4 : KF := ⟨35, (.seq (.region [⟨(some 4), .box 23 (.t 1), none⟩, ⟨(some 6), .mov (.k (.c (.bool false))), none⟩])
  (.seq (.region [⟨(some 12), .mov (.t 0), none⟩, ⟨(some 13), .loadN 2 (.t 4), none⟩, ⟨(some 14), .call (.k (.c (.fn 15 []))) [(.t 13)], none⟩, ⟨(some 15), .mov (.t 2), none⟩, ⟨(some 16), .call (.k (.c (.fn 17 []))) [(.t 12), (.t 14), (.t 15)], none⟩, ⟨(some 11), .mov (.t 16), none⟩, ⟨(some 17), .ext (.t 11) 0, none⟩, ⟨(some 18), .ext (.t 11) 1, none⟩, ⟨(some 7), .mov (.t 17), none⟩, ⟨(some 8), .mov (.t 18), none⟩])
  (.seq (.region [⟨(some 20), .mov (.t 0), none⟩, ⟨(some 21), .loadN 2 (.t 4), none⟩, ⟨(some 22), .call (.k (.c (.fn 15 []))) [(.t 21)], none⟩, ⟨(some 23), .mov (.t 2), none⟩, ⟨(some 24), .call (.k (.c (.fn 18 []))) [(.t 20), (.t 22), (.t 23)], none⟩, ⟨(some 19), .mov (.t 24), none⟩, ⟨(some 25), .ext (.t 19) 0, none⟩, ⟨(some 26), .ext (.t 19) 1, none⟩, ⟨(some 9), .mov (.t 25), none⟩, ⟨(some 10), .mov (.t 26), none⟩])
  (.seq (.seq (.region [⟨(some 27), .mov (.t 9), none⟩, ⟨(some 28), .mov (.t 7), none⟩, ⟨(some 29), .bin .neq .int (.t 27) (.t 28), none⟩, ⟨(some 30), .mov (.t 29), none⟩, ⟨(some 31), .mov (.t 10), some (30, false)⟩, ⟨(some 32), .mov (.t 8), some (30, false)⟩, ⟨(some 33), .bin .neq .int (.t 31) (.t 32), some (30, false)⟩, ⟨(some 34), .pick (.t 30) (.k (.c (.bool true))) (.t 33), none⟩])
  (.cond (.t 34) (.seq (.region [⟨(some 6), .mov (.k (.c (.bool false))), none⟩])
  .ret) .skip))
  (.seq (.region [⟨(some 6), .mov (.k (.c (.bool true))), none⟩])
  .ret))))), [.tmp 6], true⟩
theorem c4 : kk 4 = some k4 := by kernel_rfl
/-- loop.example/g01263/laws.FnExactGrownAmount -/
def k5 : KF := ⟨39, (.seq (.region [⟨(some 5), .box 23 (.t 1), none⟩, ⟨(some 8), .mov (.k (.c (.bool false))), none⟩])
  (.seq (.region [⟨(some 14), .mov (.t 0), none⟩, ⟨(some 15), .loadN 2 (.t 5), none⟩, ⟨(some 16), .call (.k (.c (.fn 15 []))) [(.t 15)], none⟩, ⟨(some 17), .mov (.t 2), none⟩, ⟨(some 18), .mov (.t 3), none⟩, ⟨(some 19), .call (.k (.c (.fn 19 []))) [(.t 14), (.t 16), (.t 17), (.t 18)], none⟩, ⟨(some 13), .mov (.t 19), none⟩, ⟨(some 20), .ext (.t 13) 0, none⟩, ⟨(some 21), .ext (.t 13) 1, none⟩, ⟨(some 9), .mov (.t 20), none⟩, ⟨(some 10), .mov (.t 21), none⟩])
  (.seq (.region [⟨(some 23), .mov (.t 0), none⟩, ⟨(some 24), .loadN 2 (.t 5), none⟩, ⟨(some 25), .call (.k (.c (.fn 15 []))) [(.t 24)], none⟩, ⟨(some 26), .mov (.t 2), none⟩, ⟨(some 27), .mov (.t 3), none⟩, ⟨(some 28), .call (.k (.c (.fn 20 []))) [(.t 23), (.t 25), (.t 26), (.t 27)], none⟩, ⟨(some 22), .mov (.t 28), none⟩, ⟨(some 29), .ext (.t 22) 0, none⟩, ⟨(some 30), .ext (.t 22) 1, none⟩, ⟨(some 11), .mov (.t 29), none⟩, ⟨(some 12), .mov (.t 30), none⟩])
  (.seq (.seq (.region [⟨(some 31), .mov (.t 11), none⟩, ⟨(some 32), .mov (.t 9), none⟩, ⟨(some 33), .bin .neq .int (.t 31) (.t 32), none⟩, ⟨(some 34), .mov (.t 33), none⟩, ⟨(some 35), .mov (.t 12), some (34, false)⟩, ⟨(some 36), .mov (.t 10), some (34, false)⟩, ⟨(some 37), .bin .neq .int (.t 35) (.t 36), some (34, false)⟩, ⟨(some 38), .pick (.t 34) (.k (.c (.bool true))) (.t 37), none⟩])
  (.cond (.t 38) (.seq (.region [⟨(some 8), .mov (.k (.c (.bool false))), none⟩])
  .ret) .skip))
  (.seq (.region [⟨(some 8), .mov (.k (.c (.bool true))), none⟩])
  .ret))))), [.tmp 8], true⟩
theorem c5 : kk 5 = some k5 := by kernel_rfl
/-- loop.example/g01263/laws.FnExactDayDouble -/
def k6 : KF := ⟨35, (.seq (.region [⟨(some 4), .box 23 (.t 1), none⟩, ⟨(some 6), .mov (.k (.c (.bool false))), none⟩])
  (.seq (.region [⟨(some 12), .mov (.t 0), none⟩, ⟨(some 13), .loadN 2 (.t 4), none⟩, ⟨(some 14), .call (.k (.c (.fn 15 []))) [(.t 13)], none⟩, ⟨(some 15), .mov (.t 2), none⟩, ⟨(some 16), .call (.k (.c (.fn 21 []))) [(.t 12), (.t 14), (.t 15)], none⟩, ⟨(some 11), .mov (.t 16), none⟩, ⟨(some 17), .ext (.t 11) 0, none⟩, ⟨(some 18), .ext (.t 11) 1, none⟩, ⟨(some 7), .mov (.t 17), none⟩, ⟨(some 8), .mov (.t 18), none⟩])
  (.seq (.region [⟨(some 20), .mov (.t 0), none⟩, ⟨(some 21), .loadN 2 (.t 4), none⟩, ⟨(some 22), .call (.k (.c (.fn 15 []))) [(.t 21)], none⟩, ⟨(some 23), .mov (.t 2), none⟩, ⟨(some 24), .call (.k (.c (.fn 22 []))) [(.t 20), (.t 22), (.t 23)], none⟩, ⟨(some 19), .mov (.t 24), none⟩, ⟨(some 25), .ext (.t 19) 0, none⟩, ⟨(some 26), .ext (.t 19) 1, none⟩, ⟨(some 9), .mov (.t 25), none⟩, ⟨(some 10), .mov (.t 26), none⟩])
  (.seq (.seq (.region [⟨(some 27), .mov (.t 9), none⟩, ⟨(some 28), .mov (.t 7), none⟩, ⟨(some 29), .bin .neq .int (.t 27) (.t 28), none⟩, ⟨(some 30), .mov (.t 29), none⟩, ⟨(some 31), .mov (.t 10), some (30, false)⟩, ⟨(some 32), .mov (.t 8), some (30, false)⟩, ⟨(some 33), .bin .neq .int (.t 31) (.t 32), some (30, false)⟩, ⟨(some 34), .pick (.t 30) (.k (.c (.bool true))) (.t 33), none⟩])
  (.cond (.t 34) (.seq (.region [⟨(some 6), .mov (.k (.c (.bool false))), none⟩])
  .ret) .skip))
  (.seq (.region [⟨(some 6), .mov (.k (.c (.bool true))), none⟩])
  .ret))))), [.tmp 6], true⟩
theorem c6 : kk 6 = some k6 := by kernel_rfl
/-- loop.example/g01263/laws.FnExactEvenPay -/
def k7 : KF := ⟨35, (.seq (.region [⟨(some 3), .box 32 (.t 0), none⟩, ⟨(some 6), .mov (.k (.c (.bool false))), none⟩])
  (.seq (.region [⟨(some 12), .loadN 5 (.t 3), none⟩, ⟨(some 13), .call (.k (.c (.fn 24 []))) [(.t 12)], none⟩, ⟨(some 14), .mov (.t 1), none⟩, ⟨(some 15), .mov (.t 2), none⟩, ⟨(some 16), .call (.k (.c (.fn 23 []))) [(.t 13), (.t 14), (.t 15)], none⟩, ⟨(some 11), .mov (.t 16), none⟩, ⟨(some 17), .ext (.t 11) 0, none⟩, ⟨(some 18), .ext (.t 11) 1, none⟩, ⟨(some 7), .mov (.t 17), none⟩, ⟨(some 8), .mov (.t 18), none⟩])
  (.seq (.region [⟨(some 20), .loadN 5 (.t 3), none⟩, ⟨(some 21), .call (.k (.c (.fn 24 []))) [(.t 20)], none⟩, ⟨(some 22), .mov (.t 1), none⟩, ⟨(some 23), .mov (.t 2), none⟩, ⟨(some 24), .call (.k (.c (.fn 25 []))) [(.t 21), (.t 22), (.t 23)], none⟩, ⟨(some 19), .mov (.t 24), none⟩, ⟨(some 25), .ext (.t 19) 0, none⟩, ⟨(some 26), .ext (.t 19) 1, none⟩, ⟨(some 9), .mov (.t 25), none⟩, ⟨(some 10), .mov (.t 26), none⟩])
  (.seq (.seq (.region [⟨(some 27), .mov (.t 9), none⟩, ⟨(some 28), .mov (.t 7), none⟩, ⟨(some 29), .bin .neq .int (.t 27) (.t 28), none⟩, ⟨(some 30), .mov (.t 29), none⟩, ⟨(some 31), .mov (.t 10), some (30, false)⟩, ⟨(some 32), .mov (.t 8), some (30, false)⟩, ⟨(some 33), .bin .neq .int (.t 31) (.t 32), some (30, false)⟩, ⟨(some 34), .pick (.t 30) (.k (.c (.bool true))) (.t 33), none⟩])
  (.cond (.t 34) (.seq (.region [⟨(some 6), .mov (.k (.c (.bool false))), none⟩])
  .ret) .skip))
  (.seq (.region [⟨(some 6), .mov (.k (.c (.bool true))), none⟩])
  .ret))))), [.tmp 6], true⟩
theorem c7 : kk 7 = some k7 := by kernel_rfl
/-- loop.example/g01263/laws.FnWorth -/
def k8 : KF := ⟨195, (.seq (.region [⟨(some 4), .mov (.k (.c (.bool false))), none⟩])
  (.seq (.seq (.region [⟨(some 27), .mov (.t 0), none⟩, ⟨(some 28), .call (.k (.c (.fn 26 []))) [(.t 27)], none⟩, ⟨(some 29), .mov (.t 28), none⟩, ⟨(some 30), .mov (.t 1), some (29, false)⟩, ⟨(some 31), .call (.k (.c (.fn 26 []))) [(.t 30)], some (29, false)⟩, ⟨(some 32), .pick (.t 29) (.k (.c (.bool true))) (.t 31), none⟩])
  (.cond (.t 32) (.seq (.region [⟨(some 4), .mov (.k (.c (.bool true))), none⟩])
  .ret) .skip))
  (.seq (.region [⟨(some 33), .mov (.t 0), none⟩, ⟨(some 34), .call (.k (.c (.fn 27 []))) [(.t 33), (.k (.c (.int .i64 60000)))], none⟩, ⟨(some 5), .mov (.t 34), none⟩])
  (.seq (.region [⟨(some 35), .mov (.t 1), none⟩, ⟨(some 36), .call (.k (.c (.fn 28 []))) [(.t 35)], none⟩, ⟨(some 6), .alloc 26 [(.int .i64 0), (.int .i64 0)], none⟩, ⟨none, .store 2 (.t 6) (.t 36), none⟩])
  (.seq (.region [⟨(some 37), .mov (.t 1), none⟩, ⟨(some 38), .call (.k (.c (.fn 27 []))) [(.t 37), (.k (.c (.int .i64 3000)))], none⟩, ⟨(some 7), .mov (.t 38), none⟩])
  (.seq (.region [⟨(some 40), .mov (.t 5), none⟩, ⟨(some 41), .loadN 2 (.t 6), none⟩, ⟨(some 42), .mov (.t 7), none⟩, ⟨(some 43), .call (.k (.c (.fn 16 []))) [(.t 40), (.t 41), (.t 42)], none⟩, ⟨(some 39), .mov (.t 43), none⟩, ⟨(some 44), .ext (.t 39) 0, none⟩, ⟨(some 45), .ext (.t 39) 1, none⟩, ⟨(some 8), .mov (.t 44), none⟩, ⟨(some 9), .mov (.t 45), none⟩])
  (.seq (.region [⟨(some 47), .mov (.t 5), none⟩, ⟨(some 48), .loadN 2 (.t 6), none⟩, ⟨(some 49), .mov (.t 7), none⟩, ⟨(some 50), .call (.k (.c (.fn 14 []))) [(.t 47), (.t 48), (.t 49)], none⟩, ⟨(some 46), .mov (.t 50), none⟩, ⟨(some 51), .ext (.t 46) 0, none⟩, ⟨(some 52), .ext (.t 46) 1, none⟩, ⟨(some 10), .mov (.t 51), none⟩, ⟨(some 11), .mov (.t 52), none⟩])
  (.seq (.region [⟨(some 54), .mov (.t 5), none⟩, ⟨(some 55), .loadN 2 (.t 6), none⟩, ⟨(some 56), .mov (.t 7), none⟩, ⟨(some 57), .call (.k (.c (.fn 18 []))) [(.t 54), (.t 55), (.t 56)], none⟩, ⟨(some 53), .mov (.t 57), none⟩, ⟨(some 58), .ext (.t 53) 0, none⟩, ⟨(some 59), .ext (.t 53) 1, none⟩, ⟨(some 12), .mov (.t 58), none⟩, ⟨(some 13), .mov (.t 59), none⟩])
  (.seq (.region [⟨(some 61), .mov (.t 10), none⟩, ⟨(some 62), .loadN 2 (.t 6), none⟩, ⟨(some 63), .mov (.t 7), none⟩, ⟨(some 64), .call (.k (.c (.fn 20 []))) [(.t 61), (.t 62), (.t 63), (.k (.c (.int .i64 0)))], none⟩, ⟨(some 60), .mov (.t 64), none⟩, ⟨(some 65), .ext (.t 60) 0, none⟩, ⟨(some 66), .ext (.t 60) 1, none⟩, ⟨(some 14), .mov (.t 65), none⟩, ⟨(some 15), .mov (.t 66), none⟩])
  (.seq (.region [⟨(some 68), .mov (.t 10), none⟩, ⟨(some 69), .bin .add .int (.t 68) (.k (.c (.int .i64 1))), none⟩, ⟨(some 70), .loadN 2 (.t 6), none⟩, ⟨(some 71), .mov (.t 7), none⟩, ⟨(some 72), .call (.k (.c (.fn 20 []))) [(.t 69), (.t 70), (.t 71), (.k (.c (.int .i64 0)))], none⟩, ⟨(some 67), .mov (.t 72), none⟩, ⟨(some 73), .ext (.t 67) 0, none⟩, ⟨(some 74), .ext (.t 67) 1, none⟩, ⟨(some 16), .mov (.t 73), none⟩, ⟨(some 17), .mov (.t 74), none⟩])
  (.seq (.seq (.region [⟨(some 75), .mov (.t 9), none⟩, ⟨(some 76), .mov (.t 11), none⟩, ⟨(some 77), .bin .neq .int (.t 75) (.t 76), none⟩, ⟨(some 78), .mov (.t 77), none⟩, ⟨(some 79), .mov (.t 9), some (78, false)⟩, ⟨(some 80), .bin .neq .int (.t 79) (.k (.c (.int .i64 0))), some (78, false)⟩, ⟨(some 81), .pick (.t 78) (.k (.c (.bool true))) (.t 80), none⟩, ⟨(some 82), .mov (.t 81), none⟩, ⟨(some 83), .mov (.t 8), some (82, false)⟩, ⟨(some 84), .mov (.t 10), some (82, false)⟩, ⟨(some 85), .bin .neq .int (.t 83) (.t 84), some (82, false)⟩, ⟨(some 86), .pick (.t 82) (.k (.c (.bool true))) (.t 85), none⟩, ⟨(some 87), .mov (.t 86), none⟩, ⟨(some 88), .mov (.t 13), some (87, false)⟩, ⟨(some 89), .bin .neq .int (.t 88) (.k (.c (.int .i64 0))), some (87, false)⟩, ⟨(some 90), .pick (.t 87) (.k (.c (.bool true))) (.t 89), none⟩, ⟨(some 91), .mov (.t 90), none⟩, ⟨(some 92), .mov (.t 12), some (91, false)⟩, ⟨(some 93), .mov (.t 5), some (91, false)⟩, ⟨(some 94), .mov (.t 10), some (91, false)⟩, ⟨(some 95), .bin .sub .int (.t 93) (.t 94), some (91, false)⟩, ⟨(some 96), .bin .neq .int (.t 92) (.t 95), some (91, false)⟩, ⟨(some 97), .pick (.t 91) (.k (.c (.bool true))) (.t 96), none⟩, ⟨(some 98), .mov (.t 97), none⟩, ⟨(some 99), .mov (.t 15), some (98, false)⟩, ⟨(some 100), .bin .neq .int (.t 99) (.k (.c (.int .i64 0))), some (98, false)⟩, ⟨(some 101), .pick (.t 98) (.k (.c (.bool true))) (.t 100), none⟩, ⟨(some 102), .mov (.t 101), none⟩, ⟨(some 103), .mov (.t 14), some (102, false)⟩, ⟨(some 104), .mov (.t 5), some (102, false)⟩, ⟨(some 105), .bin .gtr .int (.t 103) (.t 104), some (102, false)⟩, ⟨(some 106), .pick (.t 102) (.k (.c (.bool true))) (.t 105), none⟩, ⟨(some 107), .mov (.t 106), none⟩, ⟨(some 108), .mov (.t 17), some (107, false)⟩, ⟨(some 109), .bin .neq .int (.t 108) (.k (.c (.int .i64 0))), some (107, false)⟩, ⟨(some 110), .pick (.t 107) (.k (.c (.bool true))) (.t 109), none⟩, ⟨(some 111), .mov (.t 110), none⟩, ⟨(some 112), .mov (.t 16), some (111, false)⟩, ⟨(some 113), .mov (.t 5), some (111, false)⟩, ⟨(some 114), .bin .leq .int (.t 112) (.t 113), some (111, false)⟩, ⟨(some 115), .pick (.t 111) (.k (.c (.bool true))) (.t 114), none⟩])
  (.cond (.t 115) (.seq (.region [⟨(some 4), .mov (.k (.c (.bool false))), none⟩])
  .ret) .skip))
  (.seq (.region [⟨(some 116), .mov (.t 5), none⟩, ⟨(some 117), .mov (.t 0), none⟩, ⟨(some 118), .mov (.t 5), none⟩, ⟨(some 119), .bin .quo .int (.t 118) (.k (.c (.int .i64 3))), none⟩, ⟨(some 120), .bin .add .int (.t 119) (.k (.c (.int .i64 1))), none⟩, ⟨(some 121), .call (.k (.c (.fn 27 []))) [(.t 117), (.t 120)], none⟩, ⟨(some 122), .bin .add .int (.t 116) (.t 121), none⟩, ⟨(some 18), .mov (.t 122), none⟩])
  (.seq (.region [⟨(some 124), .mov (.t 5), none⟩, ⟨(some 125), .mov (.t 18), none⟩, ⟨(some 126), .mov (.t 7), none⟩, ⟨(some 127), .call (.k (.c (.fn 29 []))) [(.t 124), (.t 125), (.t 126)], none⟩, ⟨(some 123), .mov (.t 127), none⟩, ⟨(some 128), .ext (.t 123) 0, none⟩, ⟨(some 129), .ext (.t 123) 1, none⟩, ⟨(some 19), .alloc 26 [(.int .i64 0), (.int .i64 0)], none⟩, ⟨none, .store 2 (.t 19) (.t 128), none⟩, ⟨(some 20), .mov (.t 129), none⟩])
  (.seq (.region [⟨(some 131), .mov (.t 5), none⟩, ⟨(some 132), .mov (.t 18), none⟩, ⟨(some 133), .mov (.t 7), none⟩, ⟨(some 134), .call (.k (.c (.fn 30 []))) [(.t 131), (.t 132), (.t 133)], none⟩, ⟨(some 130), .mov (.t 134), none⟩, ⟨(some 135), .ext (.t 130) 0, none⟩, ⟨(some 136), .ext (.t 130) 1, none⟩, ⟨(some 21), .alloc 26 [(.int .i64 0), (.int .i64 0)], none⟩, ⟨none, .store 2 (.t 21) (.t 135), none⟩, ⟨(some 22), .mov (.t 136), none⟩])
  (.seq (.seq (.region [⟨(some 137), .mov (.t 20), none⟩, ⟨(some 138), .mov (.t 22), none⟩, ⟨(some 139), .bin .neq .int (.t 137) (.t 138), none⟩, ⟨(some 140), .mov (.t 139), none⟩, ⟨(some 141), .loadN 2 (.t 19), some (140, false)⟩, ⟨(some 142), .loadN 2 (.t 21), some (140, false)⟩, ⟨(some 143), .bin .neq (.agg [.int, .int]) (.t 141) (.t 142), some (140, false)⟩, ⟨(some 144), .pick (.t 140) (.k (.c (.bool true))) (.t 143), none⟩])
  (.cond (.t 144) (.seq (.region [⟨(some 4), .mov (.k (.c (.bool false))), none⟩])
  .ret) .skip))
  (.seq (.seq (.region [⟨(some 145), .mov (.t 20), none⟩, ⟨(some 146), .bin .neq .int (.t 145) (.k (.c (.int .i64 0))), none⟩])
  (.cond (.t 146) (.seq (.region [⟨(some 147), .mov (.t 20), none⟩, ⟨(some 148), .bin .eql .int (.t 147) (.k (.c (.int .i64 6))), none⟩, ⟨(some 4), .mov (.t 148), none⟩])
  .ret) .skip))
  (.seq (.region [⟨(some 150), .mov (.t 5), none⟩, ⟨(some 151), .loadN 2 (.t 21), none⟩, ⟨(some 152), .mov (.t 7), none⟩, ⟨(some 153), .call (.k (.c (.fn 31 []))) [(.t 150), (.t 151), (.t 152)], none⟩, ⟨(some 149), .mov (.t 153), none⟩, ⟨(some 154), .ext (.t 149) 0, none⟩, ⟨(some 155), .ext (.t 149) 1, none⟩, ⟨(some 23), .mov (.t 154), none⟩, ⟨(some 24), .mov (.t 155), none⟩])
  (.seq (.seq (.region [⟨(some 156), .mov (.t 24), none⟩, ⟨(some 157), .bin .neq .int (.t 156) (.k (.c (.int .i64 0))), none⟩, ⟨(some 158), .mov (.t 157), none⟩, ⟨(some 159), .mov (.t 5), some (158, false)⟩, ⟨(some 160), .mov (.t 23), some (158, false)⟩, ⟨(some 161), .bin .add .int (.t 159) (.t 160), some (158, false)⟩, ⟨(some 162), .mov (.t 18), some (158, false)⟩, ⟨(some 163), .bin .lss .int (.t 161) (.t 162), some (158, false)⟩, ⟨(some 164), .pick (.t 158) (.k (.c (.bool true))) (.t 163), none⟩, ⟨(some 165), .mov (.t 164), none⟩, ⟨(some 166), .fldA 1 (.t 21), some (165, false)⟩, ⟨(some 167), .load1 (.t 166), some (165, false)⟩, ⟨(some 168), .bin .neq .int (.t 167) (.k (.c (.int .i64 1000))), some (165, false)⟩, ⟨(some 169), .pick (.t 165) (.k (.c (.bool true))) (.t 168), none⟩])
  (.cond (.t 169) (.seq (.region [⟨(some 4), .mov (.k (.c (.bool false))), none⟩])
  .ret) .skip))
  (.seq (.seq (.region [⟨(some 170), .fldA 0 (.t 21), none⟩, ⟨(some 171), .load1 (.t 170), none⟩, ⟨(some 172), .bin .eql .int (.t 171) (.k (.c (.int .i64 0))), none⟩])
  (.cond (.t 172) (.seq (.region [⟨(some 173), .mov (.t 18), none⟩, ⟨(some 174), .mov (.t 5), none⟩, ⟨(some 175), .bin .eql .int (.t 173) (.t 174), none⟩, ⟨(some 4), .mov (.t 175), none⟩])
  .ret) .skip))
  (.seq (.region [⟨(some 177), .mov (.t 5), none⟩, ⟨(some 178), .fldA 0 (.t 21), none⟩, ⟨(some 179), .load1 (.t 178), none⟩, ⟨(some 180), .bin .sub .int (.t 179) (.k (.c (.int .i64 1))), none⟩, ⟨(some 181), .build [(.int .i64 0), (.int .i64 0)] [(0, 1, (.t 180)), (1, 1, (.k (.c (.int .i64 1000))))], none⟩, ⟨(some 182), .mov (.t 7), none⟩, ⟨(some 183), .call (.k (.c (.fn 31 []))) [(.t 177), (.t 181), (.t 182)], none⟩, ⟨(some 176), .mov (.t 183), none⟩, ⟨(some 184), .ext (.t 176) 0, none⟩, ⟨(some 185), .ext (.t 176) 1, none⟩, ⟨(some 25), .mov (.t 184), none⟩, ⟨(some 26), .mov (.t 185), none⟩])
  (.seq (.region [⟨(some 186), .mov (.t 26), none⟩, ⟨(some 187), .bin .eql .int (.t 186) (.k (.c (.int .i64 0))), none⟩, ⟨(some 188), .mov (.t 187), none⟩, ⟨(some 189), .mov (.t 5), some (188, true)⟩, ⟨(some 190), .mov (.t 25), some (188, true)⟩, ⟨(some 191), .bin .add .int (.t 189) (.t 190), some (188, true)⟩, ⟨(some 192), .mov (.t 18), some (188, true)⟩, ⟨(some 193), .bin .lss .int (.t 191) (.t 192), some (188, true)⟩, ⟨(some 194), .pick (.t 188) (.t 193) (.k (.c (.bool false))), none⟩, ⟨(some 4), .mov (.t 194), none⟩])
  .ret))))))))))))))))))))), [.tmp 4], true⟩
/-- loop.example/g01263/laws.FnTerms -/
def l13_0 : KC := (.seq (.seq (.region [⟨(some 81), .mov (.t 12), none⟩, ⟨(some 82), .mov (.t 9), none⟩, ⟨(some 83), .len false (.t 82), none⟩, ⟨(some 84), .bin .lss .int (.t 81) (.t 83), none⟩])
  (.cond (.t 84) .skip (.exit 0)))
  (.seq (.block 1 (.seq (.drawn [(⟨(some 87), .mov (.t 11), none⟩, []), (⟨(some 88), .mov (.t 9), none⟩, []), (⟨(some 89), .mov (.t 12), none⟩, []), (⟨(some 90), .idxS 4 (.t 88) (.t 89), none⟩, []), (⟨(some 91), .fldA 1 (.t 90), none⟩, []), (⟨(some 92), .load1 (.t 91), none⟩, []), (⟨(some 93), .mov (.t 9), none⟩, []), (⟨(some 94), .mov (.t 12), none⟩, []), (⟨(some 95), .idxS 4 (.t 93) (.t 94), none⟩, []), (⟨(some 96), .fldA 2 (.t 95), none⟩, []), (⟨(some 97), .load1 (.t 96), none⟩, []), (⟨(some 98), .bin .sub .int (.t 92) (.t 97), none⟩, []), (⟨(some 99), .bin .add .int (.t 87) (.t 98), none⟩, []), (⟨(some 11), .mov (.t 99), none⟩, [])])
  (.seq (.drawn [(⟨(some 100), .mov (.t 9), none⟩, []), (⟨(some 101), .mov (.t 12), none⟩, []), (⟨(some 102), .idxS 4 (.t 100) (.t 101), none⟩, []), (⟨(some 103), .fldA 0 (.t 102), none⟩, []), (⟨(some 104), .load1 (.t 103), none⟩, []), (⟨(some 105), .mov (.t 6), none⟩, []), (⟨(some 106), .mov (.t 12), none⟩, []), (⟨(some 107), .idxS 2 (.t 105) (.t 106), none⟩, []), (⟨(some 108), .fldA 0 (.t 107), none⟩, []), (⟨(some 109), .load1 (.t 108), none⟩, []), (⟨(some 110), .bin .neq .int (.t 104) (.t 109), none⟩, []), (⟨(some 111), .mov (.t 110), none⟩, []), (⟨(some 112), .mov (.t 9), some (111, false)⟩, []), (⟨(some 113), .mov (.t 12), some (111, false)⟩, []), (⟨(some 114), .idxS 4 (.t 112) (.t 113), some (111, false)⟩, []), (⟨(some 115), .fldA 2 (.t 114), some (111, false)⟩, []), (⟨(some 116), .load1 (.t 115), some (111, false)⟩, []), (⟨(some 117), .mov (.t 6), some (111, false)⟩, []), (⟨(some 118), .mov (.t 12), some (111, false)⟩, []), (⟨(some 119), .idxS 2 (.t 117) (.t 118), some (111, false)⟩, []), (⟨(some 120), .fldA 1 (.t 119), some (111, false)⟩, []), (⟨(some 121), .load1 (.t 120), some (111, false)⟩, []), (⟨(some 122), .bin .neq .int (.t 116) (.t 121), some (111, false)⟩, []), (⟨(some 123), .pick (.t 111) (.k (.c (.bool true))) (.t 122), none⟩, []), (⟨(some 124), .mov (.t 123), none⟩, []), (⟨(some 125), .mov (.t 9), some (124, false)⟩, []), (⟨(some 126), .mov (.t 12), some (124, false)⟩, []), (⟨(some 127), .idxS 4 (.t 125) (.t 126), some (124, false)⟩, []), (⟨(some 128), .fldA 3 (.t 127), some (124, false)⟩, []), (⟨(some 129), .load1 (.t 128), some (124, false)⟩, []), (⟨(some 130), .mov (.t 11), some (124, false)⟩, []), (⟨(some 131), .bin .neq .int (.t 129) (.t 130), some (124, false)⟩, []), (⟨(some 132), .pick (.t 124) (.k (.c (.bool true))) (.t 131), none⟩, []), (⟨(some 133), .mov (.t 132), none⟩, []), (⟨(some 134), .mov (.t 9), some (133, false)⟩, []), (⟨(some 135), .mov (.t 12), some (133, false)⟩, []), (⟨(some 136), .idxS 4 (.t 134) (.t 135), some (133, false)⟩, []), (⟨(some 137), .fldA 1 (.t 136), some (133, false)⟩, []), (⟨(some 138), .load1 (.t 137), some (133, false)⟩, []), (⟨(some 139), .bin .lss .int (.t 138) (.k (.c (.int .i64 0))), some (133, false)⟩, []), (⟨(some 140), .pick (.t 133) (.k (.c (.bool true))) (.t 139), none⟩, [])])
  (.cond (.t 140) (.seq (.region [⟨(some 4), .mov (.k (.c (.bool false))), none⟩])
  .ret) .skip))))
  (.region [⟨(some 85), .mov (.t 12), none⟩, ⟨(some 86), .bin .add .int (.t 85) (.k (.c (.int .i64 1))), none⟩, ⟨(some 12), .mov (.t 86), none⟩])))
def l13_1 : KC := (.seq (.seq (.region [⟨(some 243), .mov (.t 26), none⟩, ⟨(some 244), .bin .add .int (.t 243) (.k (.c (.int .i64 1))), none⟩, ⟨(some 245), .mov (.t 21), none⟩, ⟨(some 246), .len false (.t 245), none⟩, ⟨(some 247), .bin .lss .int (.t 244) (.t 246), none⟩])
  (.cond (.t 247) .skip (.exit 2)))
  (.seq (.block 3 (.seq (.region [⟨(some 250), .mov (.t 21), none⟩, ⟨(some 251), .mov (.t 26), none⟩, ⟨(some 252), .idxS 4 (.t 250) (.t 251), none⟩, ⟨(some 253), .fldA 2 (.t 252), none⟩, ⟨(some 254), .load1 (.t 253), none⟩, ⟨(some 255), .mov (.t 18), none⟩, ⟨(some 256), .bin .neq .int (.t 254) (.t 255), none⟩, ⟨(some 257), .mov (.t 256), none⟩, ⟨(some 258), .mov (.t 21), some (257, false)⟩, ⟨(some 259), .mov (.t 26), some (257, false)⟩, ⟨(some 260), .idxS 4 (.t 258) (.t 259), some (257, false)⟩, ⟨(some 261), .fldA 3 (.t 260), some (257, false)⟩, ⟨(some 262), .load1 (.t 261), some (257, false)⟩, ⟨(some 263), .bin .leq .int (.t 262) (.k (.c (.int .i64 0))), some (257, false)⟩, ⟨(some 264), .pick (.t 257) (.k (.c (.bool true))) (.t 263), none⟩])
  (.cond (.t 264) (.seq (.region [⟨(some 4), .mov (.k (.c (.bool false))), none⟩])
  .ret) .skip)))
  (.region [⟨(some 248), .mov (.t 26), none⟩, ⟨(some 249), .bin .add .int (.t 248) (.k (.c (.int .i64 1))), none⟩, ⟨(some 26), .mov (.t 249), none⟩])))
def k13 : KF := ⟨329, (.seq (.region [⟨(some 4), .mov (.k (.c (.bool false))), none⟩])
  (.seq (.seq (.region [⟨(some 36), .mov (.t 0), none⟩, ⟨(some 37), .call (.k (.c (.fn 26 []))) [(.t 36)], none⟩, ⟨(some 38), .mov (.t 37), none⟩, ⟨(some 39), .mov (.t 1), some (38, false)⟩, ⟨(some 40), .call (.k (.c (.fn 26 []))) [(.t 39)], some (38, false)⟩, ⟨(some 41), .pick (.t 38) (.k (.c (.bool true))) (.t 40), none⟩])
  (.cond (.t 41) (.seq (.region [⟨(some 4), .mov (.k (.c (.bool true))), none⟩])
  .ret) .skip))
  (.seq (.region [⟨(some 42), .mov (.t 0), none⟩, ⟨(some 43), .call (.k (.c (.fn 50 []))) [(.t 42)], none⟩, ⟨(some 5), .alloc 35 [(.int .i64 0), (.int .i64 0), (.int .i64 0), (.int .i64 0), (.int .i64 0)], none⟩, ⟨none, .store 5 (.t 5) (.t 43), none⟩])
  (.seq (.region [⟨(some 44), .mov (.t 1), none⟩, ⟨(some 45), .loadN 5 (.t 5), none⟩, ⟨(some 46), .call (.k (.c (.fn 51 []))) [(.t 44), (.t 45)], none⟩, ⟨(some 6), .mov (.t 46), none⟩])
  (.seq (.region [⟨(some 48), .loadN 5 (.t 5), none⟩, ⟨(some 49), .mov (.t 6), none⟩, ⟨(some 50), .call (.k (.c (.fn 48 []))) [(.t 48), (.t 49)], none⟩, ⟨(some 47), .mov (.t 50), none⟩, ⟨(some 51), .ext (.t 47) 0, none⟩, ⟨(some 52), .ext (.t 47) 1, none⟩, ⟨(some 7), .mov (.t 51), none⟩, ⟨(some 8), .mov (.t 52), none⟩])
  (.seq (.region [⟨(some 54), .loadN 5 (.t 5), none⟩, ⟨(some 55), .mov (.t 6), none⟩, ⟨(some 56), .call (.k (.c (.fn 47 []))) [(.t 54), (.t 55)], none⟩, ⟨(some 53), .mov (.t 56), none⟩, ⟨(some 57), .ext (.t 53) 0, none⟩, ⟨(some 58), .ext (.t 53) 1, none⟩, ⟨(some 9), .mov (.t 57), none⟩, ⟨(some 10), .mov (.t 58), none⟩])
  (.seq (.seq (.region [⟨(some 59), .mov (.t 8), none⟩, ⟨(some 60), .mov (.t 10), none⟩, ⟨(some 61), .bin .neq .int (.t 59) (.t 60), none⟩, ⟨(some 62), .mov (.t 61), none⟩, ⟨(some 63), .mov (.t 8), some (62, false)⟩, ⟨(some 64), .bin .neq .int (.t 63) (.k (.c (.int .i64 0))), some (62, false)⟩, ⟨(some 65), .pick (.t 62) (.k (.c (.bool true))) (.t 64), none⟩, ⟨(some 66), .mov (.t 65), none⟩, ⟨(some 67), .mov (.t 7), some (66, false)⟩, ⟨(some 68), .mov (.t 9), some (66, false)⟩, ⟨(some 69), .call (.k (.c (.fn 52 []))) [(.t 67), (.t 68)], some (66, false)⟩, ⟨(some 70), .un .not (.t 69), some (66, false)⟩, ⟨(some 71), .pick (.t 66) (.k (.c (.bool true))) (.t 70), none⟩, ⟨(some 72), .mov (.t 71), none⟩, ⟨(some 73), .mov (.t 9), some (72, false)⟩, ⟨(some 74), .len false (.t 73), some (72, false)⟩, ⟨(some 75), .mov (.t 6), some (72, false)⟩, ⟨(some 76), .len false (.t 75), some (72, false)⟩, ⟨(some 77), .bin .neq .int (.t 74) (.t 76), some (72, false)⟩, ⟨(some 78), .pick (.t 72) (.k (.c (.bool true))) (.t 77), none⟩])
  (.cond (.t 78) (.seq (.region [⟨(some 4), .mov (.k (.c (.bool false))), none⟩])
  .ret) .skip))
  (.seq (.region [⟨(some 79), .fldA 0 (.t 5), none⟩, ⟨(some 80), .load1 (.t 79), none⟩, ⟨(some 11), .mov (.t 80), none⟩])
  (.seq (.seq (.region [⟨(some 12), .mov (.k (.c (.int .i64 0))), none⟩])
  (.block 0 (.loop l13_0)))
  (.seq (.region [⟨(some 141), .fldA 1 (.t 5), none⟩, ⟨(some 142), .load1 (.t 141), none⟩, ⟨(some 13), .mov (.t 142), none⟩])
  (.seq (.seq (.region [⟨(some 143), .mov (.t 6), none⟩, ⟨(some 144), .len false (.t 143), none⟩, ⟨(some 145), .bin .gtr .int (.t 144) (.k (.c (.int .i64 0))), none⟩])
  (.cond (.t 145) (.region [⟨(some 146), .mov (.t 6), none⟩, ⟨(some 147), .mov (.t 6), none⟩, ⟨(some 148), .len false (.t 147), none⟩, ⟨(some 149), .bin .sub .int (.t 148) (.k (.c (.int .i64 1))), none⟩, ⟨(some 150), .idxS 2 (.t 146) (.t 149), none⟩, ⟨(some 151), .fldA 0 (.t 150), none⟩, ⟨(some 152), .load1 (.t 151), none⟩, ⟨(some 13), .mov (.t 152), none⟩]) .skip))
  (.seq (.region [⟨(some 154), .loadN 5 (.t 5), none⟩, ⟨(some 155), .mov (.t 6), none⟩, ⟨(some 156), .mov (.t 13), none⟩, ⟨(some 157), .call (.k (.c (.fn 45 []))) [(.t 154), (.t 155), (.t 156)], none⟩, ⟨(some 153), .mov (.t 157), none⟩, ⟨(some 158), .ext (.t 153) 0, none⟩, ⟨(some 159), .ext (.t 153) 1, none⟩, ⟨(some 14), .mov (.t 158), none⟩, ⟨(some 15), .mov (.t 159), none⟩])
  (.seq (.region [⟨(some 161), .loadN 5 (.t 5), none⟩, ⟨(some 162), .mov (.t 6), none⟩, ⟨(some 163), .mov (.t 13), none⟩, ⟨(some 164), .bin .add .int (.t 163) (.k (.c (.int .i64 200))), none⟩, ⟨(some 165), .call (.k (.c (.fn 45 []))) [(.t 161), (.t 162), (.t 164)], none⟩, ⟨(some 160), .mov (.t 165), none⟩, ⟨(some 166), .ext (.t 160) 0, none⟩, ⟨(some 167), .ext (.t 160) 1, none⟩, ⟨(some 16), .mov (.t 166), none⟩, ⟨(some 17), .mov (.t 167), none⟩])
  (.seq (.seq (.region [⟨(some 168), .mov (.t 15), none⟩, ⟨(some 169), .bin .neq .int (.t 168) (.k (.c (.int .i64 0))), none⟩, ⟨(some 170), .mov (.t 169), none⟩, ⟨(some 171), .mov (.t 14), some (170, false)⟩, ⟨(some 172), .mov (.t 11), some (170, false)⟩, ⟨(some 173), .bin .neq .int (.t 171) (.t 172), some (170, false)⟩, ⟨(some 174), .pick (.t 170) (.k (.c (.bool true))) (.t 173), none⟩, ⟨(some 175), .mov (.t 174), none⟩, ⟨(some 176), .mov (.t 17), some (175, false)⟩, ⟨(some 177), .bin .neq .int (.t 176) (.k (.c (.int .i64 0))), some (175, false)⟩, ⟨(some 178), .pick (.t 175) (.k (.c (.bool true))) (.t 177), none⟩, ⟨(some 179), .mov (.t 178), none⟩, ⟨(some 180), .mov (.t 16), some (179, false)⟩, ⟨(some 181), .mov (.t 11), some (179, false)⟩, ⟨(some 182), .bin .lss .int (.t 180) (.t 181), some (179, false)⟩, ⟨(some 183), .pick (.t 179) (.k (.c (.bool true))) (.t 182), none⟩])
  (.cond (.t 183) (.seq (.region [⟨(some 4), .mov (.k (.c (.bool false))), none⟩])
  .ret) .skip))
  (.seq (.drawn [(⟨(some 184), .fldA 0 (.t 5), none⟩, []), (⟨(some 185), .load1 (.t 184), none⟩, []), (⟨(some 186), .mov (.t 1), none⟩, []), (⟨(some 187), .call (.k (.c (.fn 27 []))) [(.t 186), (.k (.c (.int .i64 20)))], none⟩, [⟨(some 185), .load1 (.t 184), none⟩]), (⟨(some 188), .bin .add .int (.k (.c (.int .i64 1))) (.t 187), none⟩, []), (⟨(some 189), .bin .quo .int (.t 185) (.t 188), none⟩, []), (⟨(some 190), .bin .add .int (.t 189) (.k (.c (.int .i64 1))), none⟩, []), (⟨(some 18), .mov (.t 190), none⟩, [])])
  (.seq (.region [⟨(some 192), .loadN 5 (.t 5), none⟩, ⟨(some 193), .mov (.t 18), none⟩, ⟨(some 194), .call (.k (.c (.fn 33 []))) [(.t 192), (.t 193), (.k (.c (.int .i64 90)))], none⟩, ⟨(some 191), .mov (.t 194), none⟩, ⟨(some 195), .ext (.t 191) 0, none⟩, ⟨(some 196), .ext (.t 191) 1, none⟩, ⟨(some 19), .mov (.t 195), none⟩, ⟨(some 20), .mov (.t 196), none⟩])
  (.seq (.region [⟨(some 198), .loadN 5 (.t 5), none⟩, ⟨(some 199), .mov (.t 18), none⟩, ⟨(some 200), .call (.k (.c (.fn 32 []))) [(.t 198), (.t 199), (.k (.c (.int .i64 90)))], none⟩, ⟨(some 197), .mov (.t 200), none⟩, ⟨(some 201), .ext (.t 197) 0, none⟩, ⟨(some 202), .ext (.t 197) 1, none⟩, ⟨(some 21), .mov (.t 201), none⟩, ⟨(some 22), .mov (.t 202), none⟩])
  (.seq (.seq (.region [⟨(some 203), .mov (.t 20), none⟩, ⟨(some 204), .mov (.t 22), none⟩, ⟨(some 205), .bin .neq .int (.t 203) (.t 204), none⟩, ⟨(some 206), .mov (.t 205), none⟩, ⟨(some 207), .mov (.t 19), some (206, false)⟩, ⟨(some 208), .mov (.t 21), some (206, false)⟩, ⟨(some 209), .call (.k (.c (.fn 52 []))) [(.t 207), (.t 208)], some (206, false)⟩, ⟨(some 210), .un .not (.t 209), some (206, false)⟩, ⟨(some 211), .pick (.t 206) (.k (.c (.bool true))) (.t 210), none⟩])
  (.cond (.t 211) (.seq (.region [⟨(some 4), .mov (.k (.c (.bool false))), none⟩])
  .ret) .skip))
  (.seq (.seq (.region [⟨(some 212), .mov (.t 20), none⟩, ⟨(some 213), .bin .eql .int (.t 212) (.k (.c (.int .i64 0))), none⟩])
  (.cond (.t 213) (.seq (.region [⟨(some 215), .mov (.t 21), none⟩, ⟨(some 216), .call (.k (.c (.fn 53 []))) [(.t 215)], none⟩, ⟨(some 214), .mov (.t 216), none⟩, ⟨(some 217), .ext (.t 214) 0, none⟩, ⟨(some 218), .ext (.t 214) 1, none⟩, ⟨(some 219), .ext (.t 214) 2, none⟩, ⟨(some 23), .mov (.t 217), none⟩, ⟨(some 24), .mov (.t 218), none⟩, ⟨(some 25), .mov (.t 219), none⟩])
  (.seq (.seq (.region [⟨(some 220), .mov (.t 25), none⟩, ⟨(some 221), .bin .eql .int (.t 220) (.k (.c (.int .i64 0))), none⟩, ⟨(some 222), .mov (.t 221), none⟩, ⟨(some 223), .mov (.t 24), some (222, true)⟩, ⟨(some 224), .fldA 0 (.t 5), some (222, true)⟩, ⟨(some 225), .load1 (.t 224), some (222, true)⟩, ⟨(some 226), .mov (.t 23), some (222, true)⟩, ⟨(some 227), .bin .add .int (.t 225) (.t 226), some (222, true)⟩, ⟨(some 228), .bin .neq .int (.t 223) (.t 227), some (222, true)⟩, ⟨(some 229), .pick (.t 222) (.t 228) (.k (.c (.bool false))), none⟩])
  (.cond (.t 229) (.seq (.region [⟨(some 4), .mov (.k (.c (.bool false))), none⟩])
  .ret) .skip))
  (.seq (.seq (.region [⟨(some 230), .mov (.t 21), none⟩, ⟨(some 231), .len false (.t 230), none⟩, ⟨(some 232), .bin .gtr .int (.t 231) (.k (.c (.int .i64 0))), none⟩, ⟨(some 233), .mov (.t 232), none⟩, ⟨(some 234), .mov (.t 21), some (233, true)⟩, ⟨(some 235), .mov (.t 21), some (233, true)⟩, ⟨(some 236), .len false (.t 235), some (233, true)⟩, ⟨(some 237), .bin .sub .int (.t 236) (.k (.c (.int .i64 1))), some (233, true)⟩, ⟨(some 238), .idxS 4 (.t 234) (.t 237), some (233, true)⟩, ⟨(some 239), .fldA 3 (.t 238), some (233, true)⟩, ⟨(some 240), .load1 (.t 239), some (233, true)⟩, ⟨(some 241), .bin .neq .int (.t 240) (.k (.c (.int .i64 0))), some (233, true)⟩, ⟨(some 242), .pick (.t 233) (.t 241) (.k (.c (.bool false))), none⟩])
  (.cond (.t 242) (.seq (.region [⟨(some 4), .mov (.k (.c (.bool false))), none⟩])
  .ret) .skip))
  (.seq (.region [⟨(some 26), .mov (.k (.c (.int .i64 0))), none⟩])
  (.block 2 (.loop l13_1)))))) (.seq (.region [⟨(some 265), .mov (.t 20), none⟩, ⟨(some 266), .bin .neq .int (.t 265) (.k (.c (.int .i64 7))), none⟩, ⟨(some 267), .mov (.t 266), none⟩, ⟨(some 268), .mov (.t 20), some (267, true)⟩, ⟨(some 269), .bin .neq .int (.t 268) (.k (.c (.int .i64 3))), some (267, true)⟩, ⟨(some 270), .pick (.t 267) (.t 269) (.k (.c (.bool false))), none⟩])
  (.cond (.t 270) (.seq (.region [⟨(some 4), .mov (.k (.c (.bool false))), none⟩])
  .ret) .skip))))
  (.seq (.region [⟨(some 271), .mov (.t 1), none⟩, ⟨(some 272), .call (.k (.c (.fn 27 []))) [(.t 271), (.k (.c (.int .i64 24)))], none⟩, ⟨(some 273), .bin .add .int (.k (.c (.int .i64 1))) (.t 272), none⟩, ⟨(some 27), .mov (.t 273), none⟩])
  (.seq (.region [⟨(some 275), .loadN 5 (.t 5), none⟩, ⟨(some 276), .mov (.t 27), none⟩, ⟨(some 277), .call (.k (.c (.fn 25 []))) [(.t 275), (.t 276), (.k (.c (.int .i64 90)))], none⟩, ⟨(some 274), .mov (.t 277), none⟩, ⟨(some 278), .ext (.t 274) 0, none⟩, ⟨(some 279), .ext (.t 274) 1, none⟩, ⟨(some 28), .mov (.t 278), none⟩, ⟨(some 29), .mov (.t 279), none⟩])
  (.seq (.region [⟨(some 281), .loadN 5 (.t 5), none⟩, ⟨(some 282), .mov (.t 27), none⟩, ⟨(some 283), .call (.k (.c (.fn 23 []))) [(.t 281), (.t 282), (.k (.c (.int .i64 90)))], none⟩, ⟨(some 280), .mov (.t 283), none⟩, ⟨(some 284), .ext (.t 280) 0, none⟩, ⟨(some 285), .ext (.t 280) 1, none⟩, ⟨(some 30), .mov (.t 284), none⟩, ⟨(some 31), .mov (.t 285), none⟩])
  (.seq (.seq (.region [⟨(some 286), .mov (.t 29), none⟩, ⟨(some 287), .mov (.t 31), none⟩, ⟨(some 288), .bin .neq .int (.t 286) (.t 287), none⟩, ⟨(some 289), .mov (.t 288), none⟩, ⟨(some 290), .mov (.t 29), some (289, false)⟩, ⟨(some 291), .bin .neq .int (.t 290) (.k (.c (.int .i64 0))), some (289, false)⟩, ⟨(some 292), .pick (.t 289) (.k (.c (.bool true))) (.t 291), none⟩, ⟨(some 293), .mov (.t 292), none⟩, ⟨(some 294), .mov (.t 28), some (293, false)⟩, ⟨(some 295), .mov (.t 30), some (293, false)⟩, ⟨(some 296), .bin .neq .int (.t 294) (.t 295), some (293, false)⟩, ⟨(some 297), .pick (.t 293) (.k (.c (.bool true))) (.t 296), none⟩])
  (.cond (.t 297) (.seq (.region [⟨(some 4), .mov (.k (.c (.bool false))), none⟩])
  .ret) .skip))
  (.seq (.region [⟨(some 299), .loadN 5 (.t 5), none⟩, ⟨(some 300), .mov (.t 30), none⟩, ⟨(some 301), .call (.k (.c (.fn 33 []))) [(.t 299), (.t 300), (.k (.c (.int .i64 90)))], none⟩, ⟨(some 298), .mov (.t 301), none⟩, ⟨(some 302), .ext (.t 298) 0, none⟩, ⟨(some 303), .ext (.t 298) 1, none⟩, ⟨(some 32), .mov (.t 302), none⟩, ⟨(some 33), .mov (.t 303), none⟩])
  (.seq (.seq (.region [⟨(some 304), .mov (.t 33), none⟩, ⟨(some 305), .bin .neq .int (.t 304) (.k (.c (.int .i64 0))), none⟩, ⟨(some 306), .mov (.t 305), none⟩, ⟨(some 307), .mov (.t 32), some (306, false)⟩, ⟨(some 308), .len false (.t 307), some (306, false)⟩, ⟨(some 309), .mov (.t 27), some (306, false)⟩, ⟨(some 310), .bin .gtr .int (.t 308) (.t 309), some (306, false)⟩, ⟨(some 311), .pick (.t 306) (.k (.c (.bool true))) (.t 310), none⟩])
  (.cond (.t 311) (.seq (.region [⟨(some 4), .mov (.k (.c (.bool false))), none⟩])
  .ret) .skip))
  (.seq (.seq (.region [⟨(some 312), .mov (.t 30), none⟩, ⟨(some 313), .bin .eql .int (.t 312) (.k (.c (.int .i64 1))), none⟩])
  (.cond (.t 313) (.seq (.region [⟨(some 4), .mov (.k (.c (.bool true))), none⟩])
  .ret) .skip))
  (.seq (.region [⟨(some 315), .loadN 5 (.t 5), none⟩, ⟨(some 316), .mov (.t 30), none⟩, ⟨(some 317), .bin .sub .int (.t 316) (.k (.c (.int .i64 1))), none⟩, ⟨(some 318), .call (.k (.c (.fn 33 []))) [(.t 315), (.t 317), (.k (.c (.int .i64 90)))], none⟩, ⟨(some 314), .mov (.t 318), none⟩, ⟨(some 319), .ext (.t 314) 0, none⟩, ⟨(some 320), .ext (.t 314) 1, none⟩, ⟨(some 34), .mov (.t 319), none⟩, ⟨(some 35), .mov (.t 320), none⟩])
  (.seq (.region [⟨(some 321), .mov (.t 35), none⟩, ⟨(some 322), .bin .neq .int (.t 321) (.k (.c (.int .i64 0))), none⟩, ⟨(some 323), .mov (.t 322), none⟩, ⟨(some 324), .mov (.t 34), some (323, false)⟩, ⟨(some 325), .len false (.t 324), some (323, false)⟩, ⟨(some 326), .mov (.t 27), some (323, false)⟩, ⟨(some 327), .bin .gtr .int (.t 325) (.t 326), some (323, false)⟩, ⟨(some 328), .pick (.t 323) (.k (.c (.bool true))) (.t 327), none⟩, ⟨(some 4), .mov (.t 328), none⟩])
  .ret)))))))))))))))))))))))))))), [.tmp 4], true⟩
theorem c13 : kk 13 = some k13 := by kernel_rfl
/-- loop.example/g01263/spec.EvenPay -/
def l23_0 : KC := (.seq (.seq (.region [⟨(some 26), .mov (.t 8), none⟩, ⟨(some 27), .mov (.t 9), none⟩, ⟨(some 28), .bin .lss .int (.t 26) (.t 27), none⟩])
  (.cond (.t 28) .skip (.exit 0)))
  (.block 1 (.seq (.region [⟨(some 29), .mov (.t 8), none⟩, ⟨(some 30), .mov (.t 9), none⟩, ⟨(some 31), .bin .add .int (.t 29) (.t 30), none⟩, ⟨(some 32), .bin .quo .int (.t 31) (.k (.c (.int .i64 2))), none⟩, ⟨(some 10), .mov (.t 32), none⟩])
  (.seq (.region [⟨(some 33), .mov (.t 10), none⟩, ⟨(some 34), .mov (.t 1), none⟩, ⟨(some 35), .mov (.t 2), none⟩, ⟨(some 36), .call (.k (.c (.fn 66 []))) [(.t 3), (.t 33), (.t 34), (.t 35)], none⟩])
  (.cond (.t 36) (.region [⟨(some 37), .mov (.t 10), none⟩, ⟨(some 9), .mov (.t 37), none⟩]) (.region [⟨(some 38), .mov (.t 10), none⟩, ⟨(some 39), .bin .add .int (.t 38) (.k (.c (.int .i64 1))), none⟩, ⟨(some 8), .mov (.t 39), none⟩]))))))
def k23 : KF := ⟨41, (.seq (.region [⟨(some 3), .box 35 (.t 0), none⟩, ⟨(some 6), .mov (.k (.c (.int .i64 0))), none⟩, ⟨(some 7), .mov (.k (.c (.int .i64 0))), none⟩])
  (.seq (.seq (.region [⟨(some 11), .call (.k (.c (.fn 64 []))) [(.t 3)], none⟩, ⟨(some 12), .un .not (.t 11), none⟩])
  (.cond (.t 12) (.seq (.region [⟨(some 6), .mov (.k (.c (.int .i64 0))), none⟩, ⟨(some 7), .mov (.k (.c (.int .i64 1))), none⟩])
  .ret) .skip))
  (.seq (.seq (.region [⟨(some 13), .mov (.t 1), none⟩, ⟨(some 14), .call (.k (.c (.fn 65 []))) [(.t 13), (.k (.c (.int .i64 1))), (.k (.c (.int .i64 400)))], none⟩, ⟨(some 15), .un .not (.t 14), none⟩, ⟨(some 16), .mov (.t 15), none⟩, ⟨(some 17), .mov (.t 2), some (16, false)⟩, ⟨(some 18), .call (.k (.c (.fn 65 []))) [(.t 17), (.k (.c (.int .i64 1))), (.k (.c (.int .i64 40000)))], some (16, false)⟩, ⟨(some 19), .un .not (.t 18), some (16, false)⟩, ⟨(some 20), .pick (.t 16) (.k (.c (.bool true))) (.t 19), none⟩])
  (.cond (.t 20) (.seq (.region [⟨(some 6), .mov (.k (.c (.int .i64 0))), none⟩, ⟨(some 7), .mov (.k (.c (.int .i64 2))), none⟩])
  .ret) .skip))
  (.seq (.region [⟨(some 8), .mov (.k (.c (.int .i64 1))), none⟩])
  (.seq (.region [⟨(some 9), .mov (.k (.c (.int .i64 100000000))), none⟩])
  (.seq (.seq (.region [⟨(some 21), .mov (.t 9), none⟩, ⟨(some 22), .mov (.t 1), none⟩, ⟨(some 23), .mov (.t 2), none⟩, ⟨(some 24), .call (.k (.c (.fn 66 []))) [(.t 3), (.t 21), (.t 22), (.t 23)], none⟩, ⟨(some 25), .un .not (.t 24), none⟩])
  (.cond (.t 25) (.seq (.region [⟨(some 6), .mov (.k (.c (.int .i64 0))), none⟩, ⟨(some 7), .mov (.k (.c (.int .i64 6))), none⟩])
  .ret) .skip))
  (.seq (.block 0 (.loop l23_0))
  (.seq (.region [⟨(some 40), .mov (.t 8), none⟩, ⟨(some 6), .mov (.t 40), none⟩, ⟨(some 7), .mov (.k (.c (.int .i64 0))), none⟩])
  .ret)))))))), [.tmp 6, .tmp 7], true⟩
theorem c23 : kk 23 = some k23 := by kernel_rfl
/-- loop.example/g01263/impl.EvenPay -/
def k25 : KF := ⟨35, (.seq (.region [⟨(some 3), .box 35 (.t 0), none⟩, ⟨(some 4), .box 2 (.t 1), none⟩, ⟨(some 5), .box 2 (.t 2), none⟩, ⟨(some 6), .mov (.k (.c (.int .i64 0))), none⟩, ⟨(some 7), .mov (.k (.c (.int .i64 0))), none⟩])
  (.seq (.block 0 (.seq (.region [⟨(some 10), .loadN 5 (.t 3), none⟩, ⟨(some 11), .call (.k (.c (.fn 67 []))) [(.t 10)], none⟩, ⟨(some 12), .un .not (.t 11), none⟩, ⟨(some 9), .mov (.t 12), none⟩])
  (.cond (.t 9) (.seq (.region [⟨(some 6), .mov (.k (.c (.int .i64 0))), none⟩, ⟨(some 7), .mov (.k (.c (.int .i64 1))), none⟩])
  .ret) (.seq (.region [⟨(some 14), .load1 (.t 4), none⟩, ⟨(some 15), .bin .lss .int (.t 14) (.k (.c (.int .i64 1))), none⟩, ⟨(some 16), .mov (.t 15), none⟩, ⟨(some 17), .load1 (.t 4), some (16, false)⟩, ⟨(some 18), .bin .gtr .int (.t 17) (.k (.c (.int .i64 400))), some (16, false)⟩, ⟨(some 19), .pick (.t 16) (.k (.c (.bool true))) (.t 18), none⟩, ⟨(some 20), .mov (.t 19), none⟩, ⟨(some 21), .load1 (.t 5), some (20, false)⟩, ⟨(some 22), .call (.k (.c (.fn 68 []))) [(.t 21)], some (20, false)⟩, ⟨(some 23), .un .not (.t 22), some (20, false)⟩, ⟨(some 24), .pick (.t 20) (.k (.c (.bool true))) (.t 23), none⟩, ⟨(some 25), .mov (.t 24), none⟩, ⟨(some 26), .load1 (.t 5), some (25, false)⟩, ⟨(some 27), .bin .eql .int (.t 26) (.k (.c (.int .i64 0))), some (25, false)⟩, ⟨(some 28), .pick (.t 25) (.k (.c (.bool true))) (.t 27), none⟩, ⟨(some 13), .mov (.t 28), none⟩])
  (.cond (.t 13) (.seq (.region [⟨(some 6), .mov (.k (.c (.int .i64 0))), none⟩, ⟨(some 7), .mov (.k (.c (.int .i64 2))), none⟩])
  .ret) .skip)))))
  (.seq (.region [⟨(some 29), .mkFn 69 [(.t 3), (.t 5), (.t 4)], none⟩, ⟨(some 30), .call (.k (.c (.fn 57 []))) [(.k (.c (.int .i64 100000000))), (.t 29)], none⟩, ⟨(some 31), .bin .add .int (.t 30) (.k (.c (.int .i64 1))), none⟩, ⟨(some 8), .mov (.t 31), none⟩])
  (.seq (.seq (.region [⟨(some 32), .mov (.t 8), none⟩, ⟨(some 33), .bin .gtr .int (.t 32) (.k (.c (.int .i64 100000000))), none⟩])
  (.cond (.t 33) (.seq (.region [⟨(some 6), .mov (.k (.c (.int .i64 0))), none⟩, ⟨(some 7), .mov (.k (.c (.int .i64 6))), none⟩])
  .ret) .skip))
  (.seq (.region [⟨(some 34), .mov (.t 8), none⟩, ⟨(some 6), .mov (.t 34), none⟩, ⟨(some 7), .mov (.k (.c (.int .i64 0))), none⟩])
  .ret))))), [.tmp 6, .tmp 7], true⟩
theorem c25 : kk 25 = some k25 := by kernel_rfl
/-- loop.example/g01263/laws.f6big -/
def k26 : KF := ⟨6, (.seq (.region [⟨(some 2), .mov (.k (.c (.bool false))), none⟩])
  (.seq (.region [⟨(some 3), .mov (.t 0), none⟩, ⟨(some 4), .len false (.t 3), none⟩, ⟨(some 5), .bin .gtr .int (.t 4) (.k (.c (.int .i64 4096))), none⟩, ⟨(some 2), .mov (.t 5), none⟩])
  .ret)), [.tmp 2], true⟩
theorem c26 : kk 26 = some k26 := by kernel_rfl
/-- loop.example/g01263/spec.P6Pick -/
def k27 : KF := ⟨9, (.seq (.region [⟨(some 4), .mov (.k (.c (.int .i64 0))), none⟩])
  (.seq (.region [⟨(some 5), .mov (.t 0), none⟩, ⟨(some 6), .call (.k (.c (.fn 71 []))) [(.t 5)], none⟩, ⟨(some 7), .mov (.t 1), none⟩, ⟨(some 8), .call (.k (.c (.fn 72 []))) [(.t 6), (.t 7)], none⟩, ⟨(some 4), .mov (.t 8), none⟩])
  .ret)), [.tmp 4], true⟩
theorem c27 : kk 27 = some k27 := by kernel_rfl
/-- loop.example/g01263/spec.TermsFor -/
def k32 : KF := ⟨25, (.seq (.region [⟨(some 3), .box 35 (.t 0), none⟩, ⟨(some 6), .mov (.k (.c (.slice none 0 (.exact 0)))), none⟩, ⟨(some 7), .mov (.k (.c (.int .i64 0))), none⟩])
  (.seq (.seq (.region [⟨(some 8), .call (.k (.c (.fn 64 []))) [(.t 3)], none⟩, ⟨(some 9), .un .not (.t 8), none⟩])
  (.cond (.t 9) (.seq (.region [⟨(some 10), .buildSl 71 0 [] [], none⟩, ⟨(some 6), .mov (.t 10), none⟩, ⟨(some 7), .mov (.k (.c (.int .i64 1))), none⟩])
  .ret) .skip))
  (.seq (.seq (.region [⟨(some 11), .mov (.t 1), none⟩, ⟨(some 12), .call (.k (.c (.fn 65 []))) [(.t 11), (.k (.c (.int .i64 1))), (.k (.c (.int .i64 100000000)))], none⟩, ⟨(some 13), .un .not (.t 12), none⟩, ⟨(some 14), .mov (.t 13), none⟩, ⟨(some 15), .mov (.t 2), some (14, false)⟩, ⟨(some 16), .call (.k (.c (.fn 65 []))) [(.t 15), (.k (.c (.int .i64 1))), (.k (.c (.int .i64 40000)))], some (14, false)⟩, ⟨(some 17), .un .not (.t 16), some (14, false)⟩, ⟨(some 18), .pick (.t 14) (.k (.c (.bool true))) (.t 17), none⟩])
  (.cond (.t 18) (.seq (.region [⟨(some 19), .buildSl 71 0 [] [], none⟩, ⟨(some 6), .mov (.t 19), none⟩, ⟨(some 7), .mov (.k (.c (.int .i64 2))), none⟩])
  .ret) .skip))
  (.seq (.region [⟨(some 20), .mov (.t 1), none⟩, ⟨(some 21), .mov (.t 2), none⟩, ⟨(some 22), .call (.k (.c (.fn 76 []))) [(.t 3), (.t 20), (.t 21)], none⟩, ⟨(some 23), .ext (.t 22) 0, none⟩, ⟨(some 24), .ext (.t 22) 1, none⟩, ⟨(some 6), .mov (.t 23), none⟩, ⟨(some 7), .mov (.t 24), none⟩])
  .ret)))), [.tmp 6, .tmp 7], false⟩
theorem c32 : kk 32 = some k32 := by kernel_rfl
/-- loop.example/g01263/impl.TermsFor -/
def k33 : KF := ⟨35, (.seq (.region [⟨(some 3), .box 35 (.t 0), none⟩, ⟨(some 6), .mov (.k (.c (.slice none 0 (.exact 0)))), none⟩, ⟨(some 7), .mov (.k (.c (.int .i64 0))), none⟩])
  (.seq (.block 0 (.seq (.region [⟨(some 9), .loadN 5 (.t 3), none⟩, ⟨(some 10), .call (.k (.c (.fn 67 []))) [(.t 9)], none⟩, ⟨(some 11), .un .not (.t 10), none⟩, ⟨(some 8), .mov (.t 11), none⟩])
  (.cond (.t 8) (.seq (.region [⟨(some 6), .mov (.k (.c (.slice none 0 (.exact 0)))), none⟩, ⟨(some 7), .mov (.k (.c (.int .i64 1))), none⟩])
  .ret) (.seq (.region [⟨(some 13), .mov (.t 1), none⟩, ⟨(some 14), .call (.k (.c (.fn 77 []))) [(.t 13)], none⟩, ⟨(some 15), .un .not (.t 14), none⟩, ⟨(some 16), .mov (.t 15), none⟩, ⟨(some 17), .mov (.t 1), some (16, false)⟩, ⟨(some 18), .bin .eql .int (.t 17) (.k (.c (.int .i64 0))), some (16, false)⟩, ⟨(some 19), .pick (.t 16) (.k (.c (.bool true))) (.t 18), none⟩, ⟨(some 20), .mov (.t 19), none⟩, ⟨(some 21), .mov (.t 2), some (20, false)⟩, ⟨(some 22), .call (.k (.c (.fn 68 []))) [(.t 21)], some (20, false)⟩, ⟨(some 23), .un .not (.t 22), some (20, false)⟩, ⟨(some 24), .pick (.t 20) (.k (.c (.bool true))) (.t 23), none⟩, ⟨(some 25), .mov (.t 24), none⟩, ⟨(some 26), .mov (.t 2), some (25, false)⟩, ⟨(some 27), .bin .eql .int (.t 26) (.k (.c (.int .i64 0))), some (25, false)⟩, ⟨(some 28), .pick (.t 25) (.k (.c (.bool true))) (.t 27), none⟩, ⟨(some 12), .mov (.t 28), none⟩])
  (.cond (.t 12) (.seq (.region [⟨(some 6), .mov (.k (.c (.slice none 0 (.exact 0)))), none⟩, ⟨(some 7), .mov (.k (.c (.int .i64 2))), none⟩])
  .ret) .skip)))))
  (.seq (.region [⟨(some 29), .loadN 5 (.t 3), none⟩, ⟨(some 30), .mov (.t 1), none⟩, ⟨(some 31), .mov (.t 2), none⟩, ⟨(some 32), .call (.k (.c (.fn 70 []))) [(.t 29), (.t 30), (.t 31)], none⟩, ⟨(some 33), .ext (.t 32) 0, none⟩, ⟨(some 34), .ext (.t 32) 1, none⟩, ⟨(some 6), .mov (.t 33), none⟩, ⟨(some 7), .mov (.t 34), none⟩])
  .ret))), [.tmp 6, .tmp 7], false⟩
theorem c33 : kk 33 = some k33 := by kernel_rfl
/-- loop.example/g01263/impl.LeftAfter -/
def k45 : KF := ⟨37, (.seq (.region [⟨(some 3), .box 35 (.t 0), none⟩, ⟨(some 6), .mov (.k (.c (.int .i64 0))), none⟩, ⟨(some 7), .mov (.k (.c (.int .i64 0))), none⟩])
  (.seq (.region [⟨(some 12), .loadN 5 (.t 3), none⟩, ⟨(some 13), .mov (.t 1), none⟩, ⟨(some 14), .call (.k (.c (.fn 85 []))) [(.t 12), (.t 13)], none⟩, ⟨(some 11), .mov (.t 14), none⟩, ⟨(some 15), .ext (.t 11) 0, none⟩, ⟨(some 16), .ext (.t 11) 1, none⟩, ⟨(some 17), .ext (.t 11) 2, none⟩, ⟨(some 8), .alloc 104 [(.int .i64 0), (.int .i64 0), (.int .i64 0)], none⟩, ⟨none, .store 3 (.t 8) (.t 15), none⟩, ⟨(some 9), .mov (.t 16), none⟩, ⟨(some 10), .mov (.t 17), none⟩])
  (.seq (.seq (.region [⟨(some 18), .mov (.t 10), none⟩, ⟨(some 19), .bin .neq .int (.t 18) (.k (.c (.int .i64 0))), none⟩])
  (.cond (.t 19) (.seq (.region [⟨(some 20), .mov (.t 10), none⟩, ⟨(some 6), .mov (.k (.c (.int .i64 0))), none⟩, ⟨(some 7), .mov (.t 20), none⟩])
  .ret) .skip))
  (.seq (.seq (.region [⟨(some 21), .mov (.t 2), none⟩, ⟨(some 22), .fldA 2 (.t 8), none⟩, ⟨(some 23), .load1 (.t 22), none⟩, ⟨(some 24), .bin .lss .int (.t 21) (.t 23), none⟩, ⟨(some 25), .mov (.t 24), none⟩, ⟨(some 26), .mov (.t 2), some (25, false)⟩, ⟨(some 27), .bin .gtr .int (.t 26) (.k (.c (.int .i64 40000))), some (25, false)⟩, ⟨(some 28), .pick (.t 25) (.k (.c (.bool true))) (.t 27), none⟩])
  (.cond (.t 28) (.seq (.region [⟨(some 6), .mov (.k (.c (.int .i64 0))), none⟩, ⟨(some 7), .mov (.k (.c (.int .i64 2))), none⟩])
  .ret) .skip))
  (.seq (.region [⟨(some 29), .fldA 2 (.t 3), none⟩, ⟨(some 30), .loadN 2 (.t 29), none⟩, ⟨(some 31), .mov (.t 2), none⟩, ⟨(some 32), .call (.k (.c (.fn 86 []))) [(.t 8), (.t 30), (.t 31)], none⟩])
  (.seq (.region [⟨(some 33), .call (.k (.c (.fn 87 []))) [(.t 8)], none⟩, ⟨(some 34), .call (.k (.c (.fn 62 []))) [(.t 33)], none⟩, ⟨(some 35), .ext (.t 34) 0, none⟩, ⟨(some 36), .ext (.t 34) 1, none⟩, ⟨(some 6), .mov (.t 35), none⟩, ⟨(some 7), .mov (.t 36), none⟩])
  .ret)))))), [.tmp 6, .tmp 7], true⟩
theorem c45 : kk 45 = some k45 := by kernel_rfl
/-- loop.example/g01263/spec.PayLoan -/
def k47 : KF := ⟨24, (.seq (.region [⟨(some 2), .box 35 (.t 0), none⟩, ⟨(some 4), .mov (.k (.c (.slice none 0 (.exact 0)))), none⟩, ⟨(some 5), .mov (.k (.c (.int .i64 0))), none⟩])
  (.seq (.seq (.region [⟨(some 10), .mov (.t 1), none⟩, ⟨(some 11), .call (.k (.c (.fn 81 []))) [(.t 2), (.t 10)], none⟩, ⟨(some 6), .mov (.t 11), none⟩])
  (.seq (.region [⟨(some 12), .mov (.t 6), none⟩, ⟨(some 13), .bin .neq .int (.t 12) (.k (.c (.int .i64 0))), none⟩])
  (.cond (.t 13) (.seq (.region [⟨(some 14), .buildSl 71 0 [] [], none⟩, ⟨(some 15), .mov (.t 6), none⟩, ⟨(some 4), .mov (.t 14), none⟩, ⟨(some 5), .mov (.t 15), none⟩])
  .ret) .skip)))
  (.seq (.region [⟨(some 17), .mov (.t 1), none⟩, ⟨(some 18), .call (.k (.c (.fn 82 []))) [(.t 2), (.t 17)], none⟩, ⟨(some 16), .mov (.t 18), none⟩, ⟨(some 19), .ext (.t 16) 0, none⟩, ⟨(some 20), .ext (.t 16) 1, none⟩, ⟨(some 21), .ext (.t 16) 2, none⟩, ⟨(some 7), .mov (.t 19), none⟩, ⟨(some 8), .mov (.t 20), none⟩, ⟨(some 9), .mov (.t 21), none⟩])
  (.seq (.region [⟨(some 22), .mov (.t 7), none⟩, ⟨(some 23), .mov (.t 9), none⟩, ⟨(some 4), .mov (.t 22), none⟩, ⟨(some 5), .mov (.t 23), none⟩])
  .ret)))), [.tmp 4, .tmp 5], false⟩
theorem c47 : kk 47 = some k47 := by kernel_rfl
/-- loop.example/g01263/impl.PayLoan -/
def k48 : KF := ⟨18, (.seq (.region [⟨(some 2), .box 35 (.t 0), none⟩, ⟨(some 4), .mov (.k (.c (.slice none 0 (.exact 0)))), none⟩, ⟨(some 5), .mov (.k (.c (.int .i64 0))), none⟩])
  (.seq (.region [⟨(some 10), .loadN 5 (.t 2), none⟩, ⟨(some 11), .mov (.t 1), none⟩, ⟨(some 12), .call (.k (.c (.fn 85 []))) [(.t 10), (.t 11)], none⟩, ⟨(some 9), .mov (.t 12), none⟩, ⟨(some 13), .ext (.t 9) 0, none⟩, ⟨(some 14), .ext (.t 9) 1, none⟩, ⟨(some 15), .ext (.t 9) 2, none⟩, ⟨(some 6), .alloc 104 [(.int .i64 0), (.int .i64 0), (.int .i64 0)], none⟩, ⟨none, .store 3 (.t 6) (.t 13), none⟩, ⟨(some 7), .mov (.t 14), none⟩, ⟨(some 8), .mov (.t 15), none⟩])
  (.seq (.region [⟨(some 16), .mov (.t 7), none⟩, ⟨(some 17), .mov (.t 8), none⟩, ⟨(some 4), .mov (.t 16), none⟩, ⟨(some 5), .mov (.t 17), none⟩])
  .ret))), [.tmp 4, .tmp 5], false⟩
theorem c48 : kk 48 = some k48 := by kernel_rfl
/-- loop.example/g01263/spec.P6Loan -/
def k50 : KF := ⟨6, (.seq (.region [⟨(some 2), .alloc 35 [(.int .i64 0), (.int .i64 0), (.int .i64 0), (.int .i64 0), (.int .i64 0)], none⟩])
  (.seq (.region [⟨(some 3), .mov (.t 0), none⟩, ⟨(some 4), .call (.k (.c (.fn 71 []))) [(.t 3)], none⟩, ⟨(some 5), .call (.k (.c (.fn 89 []))) [(.t 4)], none⟩, ⟨none, .store 5 (.t 2) (.t 5), none⟩])
  .ret)), [.cellN 2 5], true⟩
theorem c50 : kk 50 = some k50 := by kernel_rfl
/-- loop.example/g01263/spec.P6Parts -/
def l51_0 : KC := (.seq (.seq (.region [⟨(some 16), .mov (.t 8), none⟩, ⟨(some 17), .bin .gtr .int (.t 16) (.k (.c (.int .i64 0))), none⟩])
  (.cond (.t 17) .skip (.exit 0)))
  (.seq (.block 1 (.seq (.region [⟨(some 20), .mov (.t 7), none⟩, ⟨(some 21), .mov (.t 5), none⟩, ⟨(some 22), .call (.k (.c (.fn 72 []))) [(.t 21), (.k (.c (.int .i64 200)))], none⟩, ⟨(some 23), .bin .add .int (.k (.c (.int .i64 1))) (.t 22), none⟩, ⟨(some 24), .bin .add .int (.t 20) (.t 23), none⟩, ⟨(some 7), .mov (.t 24), none⟩])
  (.region [⟨(some 25), .mov (.t 6), none⟩, ⟨(some 26), .mov (.t 7), none⟩, ⟨(some 27), .mov (.t 5), none⟩, ⟨(some 28), .fldA 0 (.t 3), none⟩, ⟨(some 29), .load1 (.t 28), none⟩, ⟨(some 30), .bin .quo .int (.t 29) (.k (.c (.int .i64 6))), none⟩, ⟨(some 31), .bin .add .int (.t 30) (.k (.c (.int .i64 1))), none⟩, ⟨(some 32), .call (.k (.c (.fn 72 []))) [(.t 27), (.t 31)], none⟩, ⟨(some 33), .build [(.int .i64 0), (.int .i64 0)] [(0, 1, (.t 26)), (1, 1, (.t 32))], none⟩, ⟨(some 34), .buildSl 73 1 [(.int .i64 0), (.int .i64 0)] [(0, 2, (.t 33))], none⟩, ⟨(some 35), .app 73 2 16 (.t 25) (.t 34), none⟩, ⟨(some 6), .mov (.t 35), none⟩])))
  (.region [⟨(some 18), .mov (.t 8), none⟩, ⟨(some 19), .bin .sub .int (.t 18) (.k (.c (.int .i64 1))), none⟩, ⟨(some 8), .mov (.t 19), none⟩])))
def k51 : KF := ⟨37, (.seq (.region [⟨(some 3), .box 35 (.t 1), none⟩, ⟨(some 4), .mov (.k (.c (.slice none 0 (.exact 0)))), none⟩])
  (.seq (.region [⟨(some 9), .mov (.t 0), none⟩, ⟨(some 10), .call (.k (.c (.fn 71 []))) [(.t 9)], none⟩, ⟨(some 5), .mov (.t 10), none⟩])
  (.seq (.region [⟨(some 11), .buildSl 73 0 [] [], none⟩, ⟨(some 6), .mov (.t 11), none⟩])
  (.seq (.region [⟨(some 12), .fldA 1 (.t 3), none⟩, ⟨(some 13), .load1 (.t 12), none⟩, ⟨(some 7), .mov (.t 13), none⟩])
  (.seq (.seq (.region [⟨(some 14), .mov (.t 5), none⟩, ⟨(some 15), .call (.k (.c (.fn 72 []))) [(.t 14), (.k (.c (.int .i64 6)))], none⟩, ⟨(some 8), .mov (.t 15), none⟩])
  (.block 0 (.loop l51_0)))
  (.seq (.region [⟨(some 36), .mov (.t 6), none⟩, ⟨(some 4), .mov (.t 36), none⟩])
  .ret)))))), [.tmp 4], false⟩
theorem c51 : kk 51 = some k51 := by kernel_rfl
/-- loop.example/g01263/spec.SameTerms -/
def l52_0 : KC := (.seq (.seq (.region [⟨(some 11), .mov (.t 5), none⟩, ⟨(some 12), .mov (.t 0), none⟩, ⟨(some 13), .len false (.t 12), none⟩, ⟨(some 14), .bin .lss .int (.t 11) (.t 13), none⟩])
  (.cond (.t 14) .skip (.exit 0)))
  (.seq (.block 1 (.seq (.drawn [(⟨(some 17), .mov (.t 0), none⟩, []), (⟨(some 18), .mov (.t 5), none⟩, []), (⟨(some 19), .idxS 4 (.t 17) (.t 18), none⟩, []), (⟨(some 20), .loadN 4 (.t 19), none⟩, []), (⟨(some 21), .mov (.t 1), none⟩, []), (⟨(some 22), .mov (.t 5), none⟩, []), (⟨(some 23), .idxS 4 (.t 21) (.t 22), none⟩, []), (⟨(some 24), .loadN 4 (.t 23), none⟩, []), (⟨(some 25), .bin .neq (.agg [.int, .int, .int, .int]) (.t 20) (.t 24), none⟩, [])])
  (.cond (.t 25) (.seq (.region [⟨(some 4), .mov (.k (.c (.bool false))), none⟩])
  .ret) .skip)))
  (.region [⟨(some 15), .mov (.t 5), none⟩, ⟨(some 16), .bin .add .int (.t 15) (.k (.c (.int .i64 1))), none⟩, ⟨(some 5), .mov (.t 16), none⟩])))
def k52 : KF := ⟨26, (.seq (.region [⟨(some 4), .mov (.k (.c (.bool false))), none⟩])
  (.seq (.seq (.region [⟨(some 6), .mov (.t 0), none⟩, ⟨(some 7), .len false (.t 6), none⟩, ⟨(some 8), .mov (.t 1), none⟩, ⟨(some 9), .len false (.t 8), none⟩, ⟨(some 10), .bin .neq .int (.t 7) (.t 9), none⟩])
  (.cond (.t 10) (.seq (.region [⟨(some 4), .mov (.k (.c (.bool false))), none⟩])
  .ret) .skip))
  (.seq (.seq (.region [⟨(some 5), .mov (.k (.c (.int .i64 0))), none⟩])
  (.block 0 (.loop l52_0)))
  (.seq (.region [⟨(some 4), .mov (.k (.c (.bool true))), none⟩])
  .ret)))), [.tmp 4], true⟩
theorem c52 : kk 52 = some k52 := by kernel_rfl
/-- loop.example/g01263/impl.TotalOf -/
def l53_0 : KC := (.seq (.region [⟨(some 15), .bin .lss .int (.t 14) (.t 13), none⟩])
  (.seq (.cond (.t 15) .skip (.exit 0))
  (.seq (.block 1 (.seq (.region [⟨(some 16), .idxS 4 (.t 12) (.t 14), none⟩, ⟨(some 17), .loadN 4 (.t 16), none⟩, ⟨(some 8), .alloc 71 [(.int .i64 0), (.int .i64 0), (.int .i64 0), (.int .i64 0)], none⟩, ⟨none, .store 4 (.t 8) (.t 17), none⟩])
  (.seq (.seq (.region [⟨(some 18), .fldA 0 (.t 8), none⟩, ⟨(some 19), .load1 (.t 18), none⟩, ⟨(some 20), .call (.k (.c (.fn 77 []))) [(.t 19)], none⟩, ⟨(some 21), .un .not (.t 20), none⟩, ⟨(some 22), .mov (.t 21), none⟩, ⟨(some 23), .fldA 1 (.t 8), some (22, false)⟩, ⟨(some 24), .load1 (.t 23), some (22, false)⟩, ⟨(some 25), .call (.k (.c (.fn 77 []))) [(.t 24)], some (22, false)⟩, ⟨(some 26), .un .not (.t 25), some (22, false)⟩, ⟨(some 27), .pick (.t 22) (.k (.c (.bool true))) (.t 26), none⟩, ⟨(some 28), .mov (.t 27), none⟩, ⟨(some 29), .fldA 2 (.t 8), some (28, false)⟩, ⟨(some 30), .load1 (.t 29), some (28, false)⟩, ⟨(some 31), .call (.k (.c (.fn 77 []))) [(.t 30)], some (28, false)⟩, ⟨(some 32), .un .not (.t 31), some (28, false)⟩, ⟨(some 33), .pick (.t 28) (.k (.c (.bool true))) (.t 32), none⟩, ⟨(some 34), .mov (.t 33), none⟩, ⟨(some 35), .fldA 3 (.t 8), some (34, false)⟩, ⟨(some 36), .load1 (.t 35), some (34, false)⟩, ⟨(some 37), .call (.k (.c (.fn 77 []))) [(.t 36)], some (34, false)⟩, ⟨(some 38), .un .not (.t 37), some (34, false)⟩, ⟨(some 39), .pick (.t 34) (.k (.c (.bool true))) (.t 38), none⟩])
  (.cond (.t 39) (.seq (.region [⟨(some 2), .mov (.k (.c (.int .i64 0))), none⟩, ⟨(some 3), .mov (.k (.c (.int .i64 0))), none⟩, ⟨(some 4), .mov (.k (.c (.int .i64 2))), none⟩])
  .ret) .skip))
  (.seq (.region [⟨(some 40), .mov (.t 5), none⟩, ⟨(some 41), .fldA 1 (.t 8), none⟩, ⟨(some 42), .load1 (.t 41), none⟩, ⟨(some 43), .bin .add .int (.t 40) (.t 42), none⟩, ⟨(some 5), .mov (.t 43), none⟩])
  (.region [⟨(some 44), .mov (.t 6), none⟩, ⟨(some 45), .fldA 2 (.t 8), none⟩, ⟨(some 46), .load1 (.t 45), none⟩, ⟨(some 47), .bin .add .int (.t 44) (.t 46), none⟩, ⟨(some 6), .mov (.t 47), none⟩])))))
  (.region [⟨(some 48), .bin .add .int (.t 14) (.k (.c (.int .i64 1))), none⟩, ⟨(some 14), .mov (.t 48), none⟩]))))
def k53 : KF := ⟨57, (.seq (.region [⟨(some 2), .mov (.k (.c (.int .i64 0))), none⟩, ⟨(some 3), .mov (.k (.c (.int .i64 0))), none⟩, ⟨(some 4), .mov (.k (.c (.int .i64 0))), none⟩])
  (.seq (.seq (.region [⟨(some 9), .mov (.t 0), none⟩, ⟨(some 10), .len false (.t 9), none⟩, ⟨(some 11), .bin .gtr .int (.t 10) (.k (.c (.int .i64 400))), none⟩])
  (.cond (.t 11) (.seq (.region [⟨(some 2), .mov (.k (.c (.int .i64 0))), none⟩, ⟨(some 3), .mov (.k (.c (.int .i64 0))), none⟩, ⟨(some 4), .mov (.k (.c (.int .i64 2))), none⟩])
  .ret) .skip))
  (.seq (.region [⟨(some 5), .mov (.k (.c (.int .i64 0))), none⟩, ⟨(some 6), .mov (.k (.c (.int .i64 0))), none⟩])
  (.seq (.seq (.region [⟨(some 12), .mov (.t 0), none⟩, ⟨(some 13), .len false (.t 12), none⟩, ⟨(some 14), .mov (.k (.c (.int .i64 0))), none⟩])
  (.block 0 (.loop l53_0)))
  (.seq (.seq (.region [⟨(some 49), .mov (.t 5), none⟩, ⟨(some 50), .bin .gtr .int (.t 49) (.k (.c (.int .i64 100000000))), none⟩, ⟨(some 51), .mov (.t 50), none⟩, ⟨(some 52), .mov (.t 6), some (51, false)⟩, ⟨(some 53), .bin .gtr .int (.t 52) (.k (.c (.int .i64 100000000))), some (51, false)⟩, ⟨(some 54), .pick (.t 51) (.k (.c (.bool true))) (.t 53), none⟩])
  (.cond (.t 54) (.seq (.region [⟨(some 2), .mov (.k (.c (.int .i64 0))), none⟩, ⟨(some 3), .mov (.k (.c (.int .i64 0))), none⟩, ⟨(some 4), .mov (.k (.c (.int .i64 3))), none⟩])
  .ret) .skip))
  (.seq (.region [⟨(some 55), .mov (.t 5), none⟩, ⟨(some 56), .mov (.t 6), none⟩, ⟨(some 2), .mov (.t 55), none⟩, ⟨(some 3), .mov (.t 56), none⟩, ⟨(some 4), .mov (.k (.c (.int .i64 0))), none⟩])
  .ret)))))), [.tmp 2, .tmp 3, .tmp 4], true⟩
theorem c53 : kk 53 = some k53 := by kernel_rfl
/-- sort.Search -/
def l57_0 : KC := (.seq (.seq (.region [⟨(some 9), .mov (.t 5), none⟩, ⟨(some 10), .mov (.t 6), none⟩, ⟨(some 11), .bin .lss .int (.t 9) (.t 10), none⟩])
  (.cond (.t 11) .skip (.exit 0)))
  (.block 1 (.seq (.region [⟨(some 12), .mov (.t 5), none⟩, ⟨(some 13), .mov (.t 6), none⟩, ⟨(some 14), .bin .add .int (.t 12) (.t 13), none⟩, ⟨(some 15), .conv .u64 (.t 14), none⟩, ⟨(some 16), .bin .shr .int (.t 15) (.k (.c (.int .u64 1))), none⟩, ⟨(some 17), .conv .i64 (.t 16), none⟩, ⟨(some 7), .mov (.t 17), none⟩])
  (.seq (.region [⟨(some 18), .mov (.t 1), none⟩, ⟨(some 19), .mov (.t 7), none⟩, ⟨(some 20), .call (.t 18) [(.t 19)], none⟩, ⟨(some 21), .un .not (.t 20), none⟩])
  (.cond (.t 21) (.region [⟨(some 22), .mov (.t 7), none⟩, ⟨(some 23), .bin .add .int (.t 22) (.k (.c (.int .i64 1))), none⟩, ⟨(some 5), .mov (.t 23), none⟩]) (.region [⟨(some 24), .mov (.t 7), none⟩, ⟨(some 6), .mov (.t 24), none⟩]))))))
def k57 : KF := ⟨26, (.seq (.region [⟨(some 4), .mov (.k (.c (.int .i64 0))), none⟩])
  (.seq (.region [⟨(some 8), .mov (.t 0), none⟩, ⟨(some 5), .mov (.k (.c (.int .i64 0))), none⟩, ⟨(some 6), .mov (.t 8), none⟩])
  (.seq (.block 0 (.loop l57_0))
  (.seq (.region [⟨(some 25), .mov (.t 5), none⟩, ⟨(some 4), .mov (.t 25), none⟩])
  .ret)))), [.tmp 4], true⟩
theorem c57 : kk 57 = some k57 := by kernel_rfl
/-- loop.example/g01263/impl.interest -/
def k59 : KF := ⟨17, (.seq (.region [⟨(some 4), .box 26 (.t 1), none⟩, ⟨(some 6), .mov (.k (.c (.int .i64 0))), none⟩])
  (.seq (.region [⟨(some 7), .mov (.t 0), none⟩, ⟨(some 8), .fldA 0 (.t 4), none⟩, ⟨(some 9), .load1 (.t 8), none⟩, ⟨(some 10), .bin .mul .int (.t 7) (.t 9), none⟩, ⟨(some 11), .mov (.t 2), none⟩, ⟨(some 12), .bin .mul .int (.t 10) (.t 11), none⟩, ⟨(some 13), .fldA 1 (.t 4), none⟩, ⟨(some 14), .load1 (.t 13), none⟩, ⟨(some 15), .bin .mul .int (.t 14) (.k (.c (.int .i64 365))), none⟩, ⟨(some 16), .bin .quo .int (.t 12) (.t 15), none⟩, ⟨(some 6), .mov (.t 16), none⟩])
  .ret)), [.tmp 6], true⟩
theorem c59 : kk 59 = some k59 := by kernel_rfl
/-- loop.example/g01263/spec.l03Day -/
def k60 : KF := ⟨5, (.seq (.region [⟨(some 2), .mov (.k (.c (.bool false))), none⟩])
  (.seq (.region [⟨(some 3), .mov (.t 0), none⟩, ⟨(some 4), .call (.k (.c (.fn 65 []))) [(.t 3), (.k (.c (.int .i64 0))), (.k (.c (.int .i64 40000)))], none⟩, ⟨(some 2), .mov (.t 4), none⟩])
  .ret)), [.tmp 2], true⟩
theorem c60 : kk 60 = some k60 := by kernel_rfl
/-- loop.example/g01263/impl.limited -/
def k62 : KF := ⟨7, (.seq (.region [⟨(some 2), .mov (.k (.c (.int .i64 0))), none⟩, ⟨(some 3), .mov (.k (.c (.int .i64 0))), none⟩])
  (.seq (.seq (.region [⟨(some 4), .mov (.t 0), none⟩, ⟨(some 5), .bin .gtr .int (.t 4) (.k (.c (.int .i64 100000000))), none⟩])
  (.cond (.t 5) (.seq (.region [⟨(some 2), .mov (.k (.c (.int .i64 0))), none⟩, ⟨(some 3), .mov (.k (.c (.int .i64 3))), none⟩])
  .ret) .skip))
  (.seq (.region [⟨(some 6), .mov (.t 0), none⟩, ⟨(some 2), .mov (.t 6), none⟩, ⟨(some 3), .mov (.k (.c (.int .i64 0))), none⟩])
  .ret))), [.tmp 2, .tmp 3], true⟩
theorem c62 : kk 62 = some k62 := by kernel_rfl
/-- loop.example/g01263/spec.l03Ok -/
def k64 : KF := ⟨29, (.seq (.region [⟨(some 2), .mov (.k (.c (.bool false))), none⟩])
  (.seq (.region [⟨(some 3), .mov (.t 0), none⟩, ⟨(some 4), .nilchk (.t 3), none⟩, ⟨(some 5), .fldA 0 (.t 4), none⟩, ⟨(some 6), .load1 (.t 5), none⟩, ⟨(some 7), .call (.k (.c (.fn 73 []))) [(.t 6)], none⟩, ⟨(some 8), .mov (.t 7), none⟩, ⟨(some 9), .mov (.t 0), some (8, true)⟩, ⟨(some 10), .nilchk (.t 9), some (8, true)⟩, ⟨(some 11), .fldA 1 (.t 10), some (8, true)⟩, ⟨(some 12), .load1 (.t 11), some (8, true)⟩, ⟨(some 13), .call (.k (.c (.fn 60 []))) [(.t 12)], some (8, true)⟩, ⟨(some 14), .pick (.t 8) (.t 13) (.k (.c (.bool false))), none⟩, ⟨(some 15), .mov (.t 14), none⟩, ⟨(some 16), .mov (.t 0), some (15, true)⟩, ⟨(some 17), .nilchk (.t 16), some (15, true)⟩, ⟨(some 18), .fldA 2 (.t 17), some (15, true)⟩, ⟨(some 19), .loadN 2 (.t 18), some (15, true)⟩, ⟨(some 20), .call (.k (.c (.fn 90 []))) [(.t 19)], some (15, true)⟩, ⟨(some 21), .pick (.t 15) (.t 20) (.k (.c (.bool false))), none⟩, ⟨(some 22), .mov (.t 21), none⟩, ⟨(some 23), .mov (.t 0), some (22, true)⟩, ⟨(some 24), .nilchk (.t 23), some (22, true)⟩, ⟨(some 25), .fldA 4 (.t 24), some (22, true)⟩, ⟨(some 26), .load1 (.t 25), some (22, true)⟩, ⟨(some 27), .call (.k (.c (.fn 60 []))) [(.t 26)], some (22, true)⟩, ⟨(some 28), .pick (.t 22) (.t 27) (.k (.c (.bool false))), none⟩, ⟨(some 2), .mov (.t 28), none⟩])
  .ret)), [.tmp 2], true⟩
theorem c64 : kk 64 = some k64 := by kernel_rfl
/-- loop.example/g01263/spec.l00In -/
def k65 : KF := ⟨15, (.seq (.region [⟨(some 6), .mov (.k (.c (.bool false))), none⟩])
  (.seq (.region [⟨(some 7), .mov (.t 0), none⟩, ⟨(some 8), .mov (.t 1), none⟩, ⟨(some 9), .bin .geq .int (.t 7) (.t 8), none⟩, ⟨(some 10), .mov (.t 9), none⟩, ⟨(some 11), .mov (.t 0), some (10, true)⟩, ⟨(some 12), .mov (.t 2), some (10, true)⟩, ⟨(some 13), .bin .leq .int (.t 11) (.t 12), some (10, true)⟩, ⟨(some 14), .pick (.t 10) (.t 13) (.k (.c (.bool false))), none⟩, ⟨(some 6), .mov (.t 14), none⟩])
  .ret)), [.tmp 6], true⟩
theorem c65 : kk 65 = some k65 := by kernel_rfl
/-- loop.example/g01263/spec.l03Enough -/
def k66 : KF := ⟨26, (.seq (.region [⟨(some 8), .mov (.k (.c (.bool false))), none⟩])
  (.seq (.region [⟨(some 12), .mov (.t 0), none⟩, ⟨(some 13), .mov (.t 1), none⟩, ⟨(some 14), .mov (.t 3), none⟩, ⟨(some 15), .call (.k (.c (.fn 76 []))) [(.t 12), (.t 13), (.t 14)], none⟩, ⟨(some 11), .mov (.t 15), none⟩, ⟨(some 16), .ext (.t 11) 0, none⟩, ⟨(some 17), .ext (.t 11) 1, none⟩, ⟨(some 9), .mov (.t 16), none⟩, ⟨(some 10), .mov (.t 17), none⟩])
  (.seq (.region [⟨(some 18), .mov (.t 10), none⟩, ⟨(some 19), .bin .eql .int (.t 18) (.k (.c (.int .i64 0))), none⟩, ⟨(some 20), .mov (.t 19), none⟩, ⟨(some 21), .mov (.t 9), some (20, true)⟩, ⟨(some 22), .len false (.t 21), some (20, true)⟩, ⟨(some 23), .mov (.t 2), some (20, true)⟩, ⟨(some 24), .bin .leq .int (.t 22) (.t 23), some (20, true)⟩, ⟨(some 25), .pick (.t 20) (.t 24) (.k (.c (.bool false))), none⟩, ⟨(some 8), .mov (.t 25), none⟩])
  .ret))), [.tmp 8], true⟩
theorem c66 : kk 66 = some k66 := by kernel_rfl
/-- loop.example/g01263/impl.ValidLoan -/
def k67 : KF := ⟨21, (.seq (.region [⟨(some 1), .box 35 (.t 0), none⟩, ⟨(some 2), .mov (.k (.c (.bool false))), none⟩])
  (.seq (.region [⟨(some 3), .fldA 0 (.t 1), none⟩, ⟨(some 4), .load1 (.t 3), none⟩, ⟨(some 5), .call (.k (.c (.fn 77 []))) [(.t 4)], none⟩, ⟨(some 6), .mov (.t 5), none⟩, ⟨(some 7), .fldA 1 (.t 1), some (6, true)⟩, ⟨(some 8), .load1 (.t 7), some (6, true)⟩, ⟨(some 9), .call (.k (.c (.fn 68 []))) [(.t 8)], some (6, true)⟩, ⟨(some 10), .pick (.t 6) (.t 9) (.k (.c (.bool false))), none⟩, ⟨(some 11), .mov (.t 10), none⟩, ⟨(some 12), .fldA 2 (.t 1), some (11, true)⟩, ⟨(some 13), .loadN 2 (.t 12), some (11, true)⟩, ⟨(some 14), .call (.k (.c (.fn 91 []))) [(.t 13)], some (11, true)⟩, ⟨(some 15), .pick (.t 11) (.t 14) (.k (.c (.bool false))), none⟩, ⟨(some 16), .mov (.t 15), none⟩, ⟨(some 17), .fldA 4 (.t 1), some (16, true)⟩, ⟨(some 18), .load1 (.t 17), some (16, true)⟩, ⟨(some 19), .call (.k (.c (.fn 68 []))) [(.t 18)], some (16, true)⟩, ⟨(some 20), .pick (.t 16) (.t 19) (.k (.c (.bool false))), none⟩, ⟨(some 2), .mov (.t 20), none⟩])
  .ret)), [.tmp 2], true⟩
theorem c67 : kk 67 = some k67 := by kernel_rfl
/-- loop.example/g01263/impl.isDay -/
def k68 : KF := ⟨9, (.seq (.region [⟨(some 2), .mov (.k (.c (.bool false))), none⟩])
  (.seq (.region [⟨(some 3), .mov (.t 0), none⟩, ⟨(some 4), .bin .geq .int (.t 3) (.k (.c (.int .i64 0))), none⟩, ⟨(some 5), .mov (.t 4), none⟩, ⟨(some 6), .mov (.t 0), some (5, true)⟩, ⟨(some 7), .bin .leq .int (.t 6) (.k (.c (.int .i64 40000))), some (5, true)⟩, ⟨(some 8), .pick (.t 5) (.t 7) (.k (.c (.bool false))), none⟩, ⟨(some 2), .mov (.t 8), none⟩])
  .ret)), [.tmp 2], true⟩
theorem c68 : kk 68 = some k68 := by kernel_rfl
/-- loop.example/g01263/impl.EvenPay$1 -/
def k69 : KF := ⟨24, (.seq (.region [⟨(some 5), .mov (.k (.c (.bool false))), none⟩])
  (.seq (.region [⟨(some 9), .loadN 5 (.t 1), none⟩, ⟨(some 10), .mov (.t 0), none⟩, ⟨(some 11), .bin .add .int (.t 10) (.k (.c (.int .i64 1))), none⟩, ⟨(some 12), .load1 (.t 2), none⟩, ⟨(some 13), .call (.k (.c (.fn 70 []))) [(.t 9), (.t 11), (.t 12)], none⟩, ⟨(some 8), .mov (.t 13), none⟩, ⟨(some 14), .ext (.t 8) 0, none⟩, ⟨(some 15), .ext (.t 8) 1, none⟩, ⟨(some 6), .mov (.t 14), none⟩, ⟨(some 7), .mov (.t 15), none⟩])
  (.seq (.region [⟨(some 16), .mov (.t 7), none⟩, ⟨(some 17), .bin .eql .int (.t 16) (.k (.c (.int .i64 0))), none⟩, ⟨(some 18), .mov (.t 17), none⟩, ⟨(some 19), .mov (.t 6), some (18, true)⟩, ⟨(some 20), .len false (.t 19), some (18, true)⟩, ⟨(some 21), .load1 (.t 3), some (18, true)⟩, ⟨(some 22), .bin .leq .int (.t 20) (.t 21), some (18, true)⟩, ⟨(some 23), .pick (.t 18) (.t 22) (.k (.c (.bool false))), none⟩, ⟨(some 5), .mov (.t 23), none⟩])
  .ret))), [.tmp 5], true⟩
theorem c69 : kk 69 = some k69 := by kernel_rfl
/-- loop.example/g01263/impl.terms -/
def l70_0 : KC := (.seq (.seq (.region [⟨(some 19), .call (.k (.c (.fn 87 []))) [(.t 8)], none⟩, ⟨(some 20), .bin .gtr .int (.t 19) (.k (.c (.int .i64 0))), none⟩])
  (.cond (.t 20) .skip (.exit 0)))
  (.block 1 (.seq (.region [⟨(some 21), .fldA 2 (.t 8), none⟩, ⟨(some 22), .load1 (.t 21), none⟩, ⟨(some 23), .mov (.t 2), none⟩, ⟨(some 24), .bin .add .int (.t 22) (.t 23), none⟩, ⟨(some 10), .mov (.t 24), none⟩])
  (.seq (.seq (.region [⟨(some 25), .mov (.t 9), none⟩, ⟨(some 26), .len false (.t 25), none⟩, ⟨(some 27), .bin .eql .int (.t 26) (.k (.c (.int .i64 400))), none⟩, ⟨(some 28), .mov (.t 27), none⟩, ⟨(some 29), .mov (.t 10), some (28, false)⟩, ⟨(some 30), .bin .gtr .int (.t 29) (.k (.c (.int .i64 40000))), some (28, false)⟩, ⟨(some 31), .pick (.t 28) (.k (.c (.bool true))) (.t 30), none⟩])
  (.cond (.t 31) (.seq (.region [⟨(some 6), .mov (.k (.c (.slice none 0 (.exact 0)))), none⟩, ⟨(some 7), .mov (.k (.c (.int .i64 7))), none⟩])
  .ret) .skip))
  (.seq (.region [⟨(some 32), .fldA 2 (.t 3), none⟩, ⟨(some 33), .loadN 2 (.t 32), none⟩, ⟨(some 34), .mov (.t 10), none⟩, ⟨(some 35), .call (.k (.c (.fn 86 []))) [(.t 8), (.t 33), (.t 34)], none⟩, ⟨(some 11), .mov (.t 35), none⟩])
  (.seq (.seq (.region [⟨(some 36), .call (.k (.c (.fn 87 []))) [(.t 8)], none⟩, ⟨(some 37), .bin .gtr .int (.t 36) (.k (.c (.int .i64 100000000))), none⟩])
  (.cond (.t 37) (.seq (.region [⟨(some 6), .mov (.k (.c (.slice none 0 (.exact 0)))), none⟩, ⟨(some 7), .mov (.k (.c (.int .i64 3))), none⟩])
  .ret) .skip))
  (.seq (.region [⟨(some 38), .mov (.t 1), none⟩, ⟨(some 39), .call (.k (.c (.fn 87 []))) [(.t 8)], none⟩, ⟨(some 40), .min [(.t 38), (.t 39)], none⟩, ⟨(some 12), .mov (.t 40), none⟩])
  (.seq (.region [⟨(some 41), .mov (.t 12), none⟩, ⟨(some 42), .call (.k (.c (.fn 92 []))) [(.t 8), (.t 41)], none⟩])
  (.region [⟨(some 43), .mov (.t 9), none⟩, ⟨(some 44), .mov (.t 10), none⟩, ⟨(some 45), .mov (.t 11), none⟩, ⟨(some 46), .mov (.t 12), none⟩, ⟨(some 47), .call (.k (.c (.fn 87 []))) [(.t 8)], none⟩, ⟨(some 48), .build [(.int .i64 0), (.int .i64 0), (.int .i64 0), (.int .i64 0)] [(0, 1, (.t 44)), (1, 1, (.t 45)), (2, 1, (.t 46)), (3, 1, (.t 47))], none⟩, ⟨(some 49), .buildSl 71 1 [(.int .i64 0), (.int .i64 0), (.int .i64 0), (.int .i64 0)] [(0, 4, (.t 48))], none⟩, ⟨(some 50), .app 71 4 32 (.t 43) (.t 49), none⟩, ⟨(some 9), .mov (.t 50), none⟩])))))))))
def k70 : KF := ⟨52, (.seq (.region [⟨(some 3), .box 35 (.t 0), none⟩, ⟨(some 6), .mov (.k (.c (.slice none 0 (.exact 0)))), none⟩, ⟨(some 7), .mov (.k (.c (.int .i64 0))), none⟩])
  (.seq (.region [⟨(some 13), .fldA 0 (.t 3), none⟩, ⟨(some 14), .load1 (.t 13), none⟩, ⟨(some 15), .fldA 1 (.t 3), none⟩, ⟨(some 16), .load1 (.t 15), none⟩, ⟨(some 17), .build [(.int .i64 0), (.int .i64 0), (.int .i64 0)] [(0, 1, (.t 14)), (2, 1, (.t 16))], none⟩, ⟨(some 8), .alloc 104 [(.int .i64 0), (.int .i64 0), (.int .i64 0)], none⟩, ⟨none, .store 3 (.t 8) (.t 17), none⟩])
  (.seq (.region [⟨(some 18), .buildSl 71 0 [] [], none⟩, ⟨(some 9), .mov (.t 18), none⟩])
  (.seq (.block 0 (.loop l70_0))
  (.seq (.region [⟨(some 51), .mov (.t 9), none⟩, ⟨(some 6), .mov (.t 51), none⟩, ⟨(some 7), .mov (.k (.c (.int .i64 0))), none⟩])
  .ret))))), [.tmp 6, .tmp 7], false⟩
theorem c70 : kk 70 = some k70 := by kernel_rfl
/-- loop.example/g01263/spec.l00From -/
def k71 : KF := ⟨6, (.seq (.region [⟨(some 2), .mov (.k (.c (.ptr none))), none⟩])
  (.seq (.region [⟨(some 3), .mov (.t 0), none⟩, ⟨(some 4), .build [(.slice none 0 (.exact 0)), (.int .i64 0), (.int .u64 0)] [(0, 1, (.t 3))], none⟩, ⟨(some 5), .box 116 (.t 4), none⟩, ⟨(some 2), .mov (.t 5), none⟩])
  .ret)), [.tmp 2], false⟩
theorem c71 : kk 71 = some k71 := by kernel_rfl
/-- (*loop.example/g01263/spec.l00Src).pick -/
def k72 : KF := ⟨20, (.seq (.region [⟨(some 4), .mov (.k (.c (.int .i64 0))), none⟩])
  (.seq (.seq (.region [⟨(some 6), .mov (.t 1), none⟩, ⟨(some 7), .bin .leq .int (.t 6) (.k (.c (.int .i64 1))), none⟩])
  (.cond (.t 7) (.seq (.region [⟨(some 4), .mov (.k (.c (.int .i64 0))), none⟩])
  .ret) .skip))
  (.seq (.region [⟨(some 8), .mov (.t 0), none⟩, ⟨(some 9), .call (.k (.c (.fn 93 []))) [(.t 8)], none⟩, ⟨(some 5), .mov (.t 9), none⟩])
  (.seq (.seq (.region [⟨(some 10), .mov (.t 1), none⟩, ⟨(some 11), .bin .gtr .int (.t 10) (.k (.c (.int .i64 200))), none⟩])
  (.cond (.t 11) (.region [⟨(some 12), .mov (.t 5), none⟩, ⟨(some 13), .bin .mul .int (.t 12) (.k (.c (.int .i64 256))), none⟩, ⟨(some 14), .mov (.t 0), none⟩, ⟨(some 15), .call (.k (.c (.fn 93 []))) [(.t 14)], none⟩, ⟨(some 16), .bin .add .int (.t 13) (.t 15), none⟩, ⟨(some 5), .mov (.t 16), none⟩]) .skip))
  (.seq (.region [⟨(some 17), .mov (.t 5), none⟩, ⟨(some 18), .mov (.t 1), none⟩, ⟨(some 19), .bin .rem .int (.t 17) (.t 18), none⟩, ⟨(some 4), .mov (.t 19), none⟩])
  .ret))))), [.tmp 4], true⟩
theorem c72 : kk 72 = some k72 := by kernel_rfl
/-- loop.example/g01263/spec.l03Amount -/
def k73 : KF := ⟨5, (.seq (.region [⟨(some 2), .mov (.k (.c (.bool false))), none⟩])
  (.seq (.region [⟨(some 3), .mov (.t 0), none⟩, ⟨(some 4), .call (.k (.c (.fn 65 []))) [(.t 3), (.k (.c (.int .i64 0))), (.k (.c (.int .i64 100000000)))], none⟩, ⟨(some 2), .mov (.t 4), none⟩])
  .ret)), [.tmp 2], true⟩
theorem c73 : kk 73 = some k73 := by kernel_rfl
/-- loop.example/g01263/spec.l03Interest -/
def k74 : KF := ⟨17, (.seq (.region [⟨(some 4), .box 26 (.t 1), none⟩, ⟨(some 6), .mov (.k (.c (.int .i64 0))), none⟩])
  (.seq (.region [⟨(some 7), .mov (.t 0), none⟩, ⟨(some 8), .fldA 0 (.t 4), none⟩, ⟨(some 9), .load1 (.t 8), none⟩, ⟨(some 10), .bin .mul .int (.t 7) (.t 9), none⟩, ⟨(some 11), .mov (.t 2), none⟩, ⟨(some 12), .bin .mul .int (.t 10) (.t 11), none⟩, ⟨(some 13), .fldA 1 (.t 4), none⟩, ⟨(some 14), .load1 (.t 13), none⟩, ⟨(some 15), .bin .mul .int (.t 14) (.k (.c (.int .i64 365))), none⟩, ⟨(some 16), .bin .quo .int (.t 12) (.t 15), none⟩, ⟨(some 6), .mov (.t 16), none⟩])
  .ret)), [.tmp 6], true⟩
theorem c74 : kk 74 = some k74 := by kernel_rfl
/-- loop.example/g01263/spec.l03Terms -/
def l76_0 : KC := (.seq (.seq (.drawn [(⟨(some 16), .mov (.t 8), none⟩, []), (⟨(some 17), .nilchk (.t 16), none⟩, []), (⟨(some 18), .fldA 3 (.t 17), none⟩, []), (⟨(some 19), .load1 (.t 18), none⟩, []), (⟨(some 20), .mov (.t 8), none⟩, []), (⟨(some 21), .nilchk (.t 20), none⟩, []), (⟨(some 22), .fldA 4 (.t 21), none⟩, []), (⟨(some 23), .load1 (.t 22), none⟩, []), (⟨(some 24), .bin .add .int (.t 19) (.t 23), none⟩, []), (⟨(some 25), .bin .gtr .int (.t 24) (.k (.c (.int .i64 0))), none⟩, [])])
  (.cond (.t 25) .skip (.exit 0)))
  (.block 1 (.seq (.region [⟨(some 26), .mov (.t 8), none⟩, ⟨(some 27), .nilchk (.t 26), none⟩, ⟨(some 28), .fldA 2 (.t 27), none⟩, ⟨(some 29), .load1 (.t 28), none⟩, ⟨(some 30), .mov (.t 2), none⟩, ⟨(some 31), .bin .add .int (.t 29) (.t 30), none⟩, ⟨(some 10), .mov (.t 31), none⟩])
  (.seq (.seq (.region [⟨(some 32), .mov (.t 9), none⟩, ⟨(some 33), .len false (.t 32), none⟩, ⟨(some 34), .bin .eql .int (.t 33) (.k (.c (.int .i64 400))), none⟩, ⟨(some 35), .mov (.t 34), none⟩, ⟨(some 36), .mov (.t 10), some (35, false)⟩, ⟨(some 37), .bin .gtr .int (.t 36) (.k (.c (.int .i64 40000))), some (35, false)⟩, ⟨(some 38), .pick (.t 35) (.k (.c (.bool true))) (.t 37), none⟩])
  (.cond (.t 38) (.seq (.region [⟨(some 39), .buildSl 71 0 [] [], none⟩, ⟨(some 6), .mov (.t 39), none⟩, ⟨(some 7), .mov (.k (.c (.int .i64 7))), none⟩])
  .ret) .skip))
  (.seq (.region [⟨(some 40), .mov (.t 8), none⟩, ⟨(some 41), .mov (.t 10), none⟩, ⟨(some 42), .call (.k (.c (.fn 83 []))) [(.t 40), (.t 41)], none⟩, ⟨(some 11), .mov (.t 42), none⟩])
  (.seq (.seq (.drawn [(⟨(some 43), .mov (.t 8), none⟩, []), (⟨(some 44), .nilchk (.t 43), none⟩, []), (⟨(some 45), .fldA 3 (.t 44), none⟩, []), (⟨(some 46), .load1 (.t 45), none⟩, []), (⟨(some 47), .mov (.t 8), none⟩, []), (⟨(some 48), .nilchk (.t 47), none⟩, []), (⟨(some 49), .fldA 4 (.t 48), none⟩, []), (⟨(some 50), .load1 (.t 49), none⟩, []), (⟨(some 51), .bin .add .int (.t 46) (.t 50), none⟩, []), (⟨(some 52), .bin .gtr .int (.t 51) (.k (.c (.int .i64 100000000))), none⟩, [])])
  (.cond (.t 52) (.seq (.region [⟨(some 53), .buildSl 71 0 [] [], none⟩, ⟨(some 6), .mov (.t 53), none⟩, ⟨(some 7), .mov (.k (.c (.int .i64 3))), none⟩])
  .ret) .skip))
  (.seq (.drawn [(⟨(some 54), .mov (.t 1), none⟩, []), (⟨(some 55), .mov (.t 8), none⟩, []), (⟨(some 56), .nilchk (.t 55), none⟩, []), (⟨(some 57), .fldA 3 (.t 56), none⟩, []), (⟨(some 58), .load1 (.t 57), none⟩, []), (⟨(some 59), .mov (.t 8), none⟩, []), (⟨(some 60), .nilchk (.t 59), none⟩, []), (⟨(some 61), .fldA 4 (.t 60), none⟩, []), (⟨(some 62), .load1 (.t 61), none⟩, []), (⟨(some 63), .bin .add .int (.t 58) (.t 62), none⟩, []), (⟨(some 64), .call (.k (.c (.fn 95 []))) [(.t 54), (.t 63)], none⟩, []), (⟨(some 12), .mov (.t 64), none⟩, [])])
  (.seq (.region [⟨(some 65), .mov (.t 8), none⟩, ⟨(some 66), .mov (.t 12), none⟩, ⟨(some 67), .call (.k (.c (.fn 96 []))) [(.t 65), (.t 66)], none⟩])
  (.drawn [(⟨(some 68), .mov (.t 9), none⟩, []), (⟨(some 69), .mov (.t 10), none⟩, []), (⟨(some 70), .mov (.t 11), none⟩, []), (⟨(some 71), .mov (.t 12), none⟩, []), (⟨(some 72), .mov (.t 8), none⟩, []), (⟨(some 73), .nilchk (.t 72), none⟩, []), (⟨(some 74), .fldA 3 (.t 73), none⟩, []), (⟨(some 75), .load1 (.t 74), none⟩, []), (⟨(some 76), .mov (.t 8), none⟩, []), (⟨(some 77), .nilchk (.t 76), none⟩, []), (⟨(some 78), .fldA 4 (.t 77), none⟩, []), (⟨(some 79), .load1 (.t 78), none⟩, []), (⟨(some 80), .bin .add .int (.t 75) (.t 79), none⟩, []), (⟨(some 81), .build [(.int .i64 0), (.int .i64 0), (.int .i64 0), (.int .i64 0)] [(0, 1, (.t 69)), (1, 1, (.t 70)), (2, 1, (.t 71)), (3, 1, (.t 80))], none⟩, []), (⟨(some 82), .buildSl 71 1 [(.int .i64 0), (.int .i64 0), (.int .i64 0), (.int .i64 0)] [(0, 4, (.t 81))], none⟩, []), (⟨(some 83), .app 71 4 32 (.t 68) (.t 82), none⟩, []), (⟨(some 9), .mov (.t 83), none⟩, [])])))))))))
def k76 : KF := ⟨85, (.seq (.region [⟨(some 6), .mov (.k (.c (.slice none 0 (.exact 0)))), none⟩, ⟨(some 7), .mov (.k (.c (.int .i64 0))), none⟩])
  (.seq (.region [⟨(some 13), .mov (.t 0), none⟩, ⟨(some 14), .call (.k (.c (.fn 94 []))) [(.t 13)], none⟩, ⟨(some 8), .mov (.t 14), none⟩])
  (.seq (.region [⟨(some 15), .buildSl 71 0 [] [], none⟩, ⟨(some 9), .mov (.t 15), none⟩])
  (.seq (.block 0 (.loop l76_0))
  (.seq (.region [⟨(some 84), .mov (.t 9), none⟩, ⟨(some 6), .mov (.t 84), none⟩, ⟨(some 7), .mov (.k (.c (.int .i64 0))), none⟩])
  .ret))))), [.tmp 6, .tmp 7], false⟩
theorem c76 : kk 76 = some k76 := by kernel_rfl
/-- loop.example/g01263/impl.isAmount -/
def k77 : KF := ⟨9, (.seq (.region [⟨(some 2), .mov (.k (.c (.bool false))), none⟩])
  (.seq (.region [⟨(some 3), .mov (.t 0), none⟩, ⟨(some 4), .bin .geq .int (.t 3) (.k (.c (.int .i64 0))), none⟩, ⟨(some 5), .mov (.t 4), none⟩, ⟨(some 6), .mov (.t 0), some (5, true)⟩, ⟨(some 7), .bin .leq .int (.t 6) (.k (.c (.int .i64 100000000))), some (5, true)⟩, ⟨(some 8), .pick (.t 5) (.t 7) (.k (.c (.bool false))), none⟩, ⟨(some 2), .mov (.t 8), none⟩])
  .ret)), [.tmp 2], true⟩
theorem c77 : kk 77 = some k77 := by kernel_rfl
/-- loop.example/g01263/spec.l03Paid -/
def k81 : KF := ⟨12, (.seq (.region [⟨(some 4), .mov (.k (.c (.int .i64 0))), none⟩])
  (.seq (.seq (.region [⟨(some 5), .mov (.t 0), none⟩, ⟨(some 6), .call (.k (.c (.fn 64 []))) [(.t 5)], none⟩, ⟨(some 7), .un .not (.t 6), none⟩])
  (.cond (.t 7) (.seq (.region [⟨(some 4), .mov (.k (.c (.int .i64 1))), none⟩])
  .ret) .skip))
  (.seq (.seq (.region [⟨(some 8), .mov (.t 0), none⟩, ⟨(some 9), .mov (.t 1), none⟩, ⟨(some 10), .call (.k (.c (.fn 98 []))) [(.t 8), (.t 9)], none⟩, ⟨(some 11), .un .not (.t 10), none⟩])
  (.cond (.t 11) (.seq (.region [⟨(some 4), .mov (.k (.c (.int .i64 2))), none⟩])
  .ret) .skip))
  (.seq (.region [⟨(some 4), .mov (.k (.c (.int .i64 0))), none⟩])
  .ret)))), [.tmp 4], true⟩
theorem c81 : kk 81 = some k81 := by kernel_rfl
/-- loop.example/g01263/spec.l03Pay -/
def l82_0 : KC := (.seq (.seq (.region [⟨(some 14), .mov (.t 9), none⟩, ⟨(some 15), .mov (.t 1), none⟩, ⟨(some 16), .len false (.t 15), none⟩, ⟨(some 17), .bin .lss .int (.t 14) (.t 16), none⟩])
  (.cond (.t 17) .skip (.exit 0)))
  (.seq (.block 1 (.seq (.region [⟨(some 20), .mov (.t 7), none⟩, ⟨(some 21), .mov (.t 1), none⟩, ⟨(some 22), .mov (.t 9), none⟩, ⟨(some 23), .idxS 2 (.t 21) (.t 22), none⟩, ⟨(some 24), .fldA 0 (.t 23), none⟩, ⟨(some 25), .load1 (.t 24), none⟩, ⟨(some 26), .call (.k (.c (.fn 83 []))) [(.t 20), (.t 25)], none⟩, ⟨(some 10), .mov (.t 26), none⟩])
  (.seq (.seq (.drawn [(⟨(some 27), .mov (.t 7), none⟩, []), (⟨(some 28), .nilchk (.t 27), none⟩, []), (⟨(some 29), .fldA 3 (.t 28), none⟩, []), (⟨(some 30), .load1 (.t 29), none⟩, []), (⟨(some 31), .mov (.t 7), none⟩, []), (⟨(some 32), .nilchk (.t 31), none⟩, []), (⟨(some 33), .fldA 4 (.t 32), none⟩, []), (⟨(some 34), .load1 (.t 33), none⟩, []), (⟨(some 35), .bin .add .int (.t 30) (.t 34), none⟩, []), (⟨(some 36), .bin .gtr .int (.t 35) (.k (.c (.int .i64 100000000))), none⟩, [])])
  (.cond (.t 36) (.seq (.region [⟨(some 37), .buildSl 71 0 [] [], none⟩, ⟨(some 38), .mov (.t 7), none⟩, ⟨(some 4), .mov (.t 37), none⟩, ⟨(some 5), .mov (.t 38), none⟩, ⟨(some 6), .mov (.k (.c (.int .i64 3))), none⟩])
  .ret) .skip))
  (.seq (.seq (.drawn [(⟨(some 39), .mov (.t 1), none⟩, []), (⟨(some 40), .mov (.t 9), none⟩, []), (⟨(some 41), .idxS 2 (.t 39) (.t 40), none⟩, []), (⟨(some 42), .fldA 1 (.t 41), none⟩, []), (⟨(some 43), .load1 (.t 42), none⟩, []), (⟨(some 44), .mov (.t 7), none⟩, []), (⟨(some 45), .nilchk (.t 44), none⟩, []), (⟨(some 46), .fldA 3 (.t 45), none⟩, []), (⟨(some 47), .load1 (.t 46), none⟩, []), (⟨(some 48), .mov (.t 7), none⟩, []), (⟨(some 49), .nilchk (.t 48), none⟩, []), (⟨(some 50), .fldA 4 (.t 49), none⟩, []), (⟨(some 51), .load1 (.t 50), none⟩, []), (⟨(some 52), .bin .add .int (.t 47) (.t 51), none⟩, []), (⟨(some 53), .bin .gtr .int (.t 43) (.t 52), none⟩, [])])
  (.cond (.t 53) (.seq (.region [⟨(some 54), .buildSl 71 0 [] [], none⟩, ⟨(some 55), .mov (.t 7), none⟩, ⟨(some 4), .mov (.t 54), none⟩, ⟨(some 5), .mov (.t 55), none⟩, ⟨(some 6), .mov (.k (.c (.int .i64 4))), none⟩])
  .ret) .skip))
  (.seq (.region [⟨(some 56), .mov (.t 7), none⟩, ⟨(some 57), .mov (.t 1), none⟩, ⟨(some 58), .mov (.t 9), none⟩, ⟨(some 59), .idxS 2 (.t 57) (.t 58), none⟩, ⟨(some 60), .fldA 1 (.t 59), none⟩, ⟨(some 61), .load1 (.t 60), none⟩, ⟨(some 62), .call (.k (.c (.fn 96 []))) [(.t 56), (.t 61)], none⟩])
  (.drawn [(⟨(some 63), .mov (.t 8), none⟩, []), (⟨(some 64), .mov (.t 1), none⟩, []), (⟨(some 65), .mov (.t 9), none⟩, []), (⟨(some 66), .idxS 2 (.t 64) (.t 65), none⟩, []), (⟨(some 67), .fldA 0 (.t 66), none⟩, []), (⟨(some 68), .load1 (.t 67), none⟩, []), (⟨(some 69), .mov (.t 10), none⟩, []), (⟨(some 70), .mov (.t 1), none⟩, []), (⟨(some 71), .mov (.t 9), none⟩, []), (⟨(some 72), .idxS 2 (.t 70) (.t 71), none⟩, []), (⟨(some 73), .fldA 1 (.t 72), none⟩, []), (⟨(some 74), .load1 (.t 73), none⟩, []), (⟨(some 75), .mov (.t 7), none⟩, []), (⟨(some 76), .nilchk (.t 75), none⟩, []), (⟨(some 77), .fldA 3 (.t 76), none⟩, []), (⟨(some 78), .load1 (.t 77), none⟩, []), (⟨(some 79), .mov (.t 7), none⟩, []), (⟨(some 80), .nilchk (.t 79), none⟩, []), (⟨(some 81), .fldA 4 (.t 80), none⟩, []), (⟨(some 82), .load1 (.t 81), none⟩, []), (⟨(some 83), .bin .add .int (.t 78) (.t 82), none⟩, []), (⟨(some 84), .build [(.int .i64 0), (.int .i64 0), (.int .i64 0), (.int .i64 0)] [(0, 1, (.t 68)), (1, 1, (.t 69)), (2, 1, (.t 74)), (3, 1, (.t 83))], none⟩, []), (⟨(some 85), .buildSl 71 1 [(.int .i64 0), (.int .i64 0), (.int .i64 0), (.int .i64 0)] [(0, 4, (.t 84))], none⟩, []), (⟨(some 86), .app 71 4 32 (.t 63) (.t 85), none⟩, []), (⟨(some 8), .mov (.t 86), none⟩, [])]))))))
  (.region [⟨(some 18), .mov (.t 9), none⟩, ⟨(some 19), .bin .add .int (.t 18) (.k (.c (.int .i64 1))), none⟩, ⟨(some 9), .mov (.t 19), none⟩])))
def k82 : KF := ⟨89, (.seq (.region [⟨(some 4), .mov (.k (.c (.slice none 0 (.exact 0)))), none⟩, ⟨(some 5), .mov (.k (.c (.ptr none))), none⟩, ⟨(some 6), .mov (.k (.c (.int .i64 0))), none⟩])
  (.seq (.region [⟨(some 11), .mov (.t 0), none⟩, ⟨(some 12), .call (.k (.c (.fn 94 []))) [(.t 11)], none⟩, ⟨(some 7), .mov (.t 12), none⟩])
  (.seq (.region [⟨(some 13), .buildSl 71 0 [] [], none⟩, ⟨(some 8), .mov (.t 13), none⟩])
  (.seq (.seq (.region [⟨(some 9), .mov (.k (.c (.int .i64 0))), none⟩])
  (.block 0 (.loop l82_0)))
  (.seq (.region [⟨(some 87), .mov (.t 8), none⟩, ⟨(some 88), .mov (.t 7), none⟩, ⟨(some 4), .mov (.t 87), none⟩, ⟨(some 5), .mov (.t 88), none⟩, ⟨(some 6), .mov (.k (.c (.int .i64 0))), none⟩])
  .ret))))), [.tmp 4, .tmp 5, .tmp 6], false⟩
theorem c82 : kk 82 = some k82 := by kernel_rfl
/-- (*loop.example/g01263/spec.l03State).grow -/
def k83 : KF := ⟨34, (.seq (.region [⟨(some 4), .mov (.k (.c (.int .i64 0))), none⟩])
  (.seq (.drawn [(⟨(some 6), .mov (.t 0), none⟩, []), (⟨(some 7), .nilchk (.t 6), none⟩, []), (⟨(some 8), .fldA 3 (.t 7), none⟩, []), (⟨(some 9), .load1 (.t 8), none⟩, []), (⟨(some 10), .mov (.t 0), none⟩, []), (⟨(some 11), .nilchk (.t 10), none⟩, []), (⟨(some 12), .fldA 0 (.t 11), none⟩, []), (⟨(some 13), .loadN 2 (.t 12), none⟩, []), (⟨(some 14), .mov (.t 1), none⟩, []), (⟨(some 15), .mov (.t 0), none⟩, []), (⟨(some 16), .nilchk (.t 15), none⟩, []), (⟨(some 17), .fldA 2 (.t 16), none⟩, []), (⟨(some 18), .load1 (.t 17), none⟩, []), (⟨(some 19), .bin .sub .int (.t 14) (.t 18), none⟩, []), (⟨(some 20), .call (.k (.c (.fn 74 []))) [(.t 9), (.t 13), (.t 19)], none⟩, []), (⟨(some 5), .mov (.t 20), none⟩, [])])
  (.seq (.region [⟨(some 21), .mov (.t 0), none⟩, ⟨(some 22), .nilchk (.t 21), none⟩, ⟨(some 23), .fldA 4 (.t 22), none⟩, ⟨(some 24), .load1 (.t 23), none⟩, ⟨(some 25), .mov (.t 5), none⟩, ⟨(some 26), .bin .add .int (.t 24) (.t 25), none⟩, ⟨(some 27), .nilchk (.t 21), none⟩, ⟨(some 28), .fldA 4 (.t 27), none⟩, ⟨none, .store 1 (.t 28) (.t 26), none⟩])
  (.seq (.region [⟨(some 29), .mov (.t 0), none⟩, ⟨(some 30), .mov (.t 1), none⟩, ⟨(some 31), .nilchk (.t 29), none⟩, ⟨(some 32), .fldA 2 (.t 31), none⟩, ⟨none, .store 1 (.t 32) (.t 30), none⟩])
  (.seq (.region [⟨(some 33), .mov (.t 5), none⟩, ⟨(some 4), .mov (.t 33), none⟩])
  .ret))))), [.tmp 4], true⟩
theorem c83 : kk 83 = some k83 := by kernel_rfl
/-- loop.example/g01263/impl.paid -/
def l85_0 : KC := (.seq (.region [⟨(some 30), .bin .lss .int (.t 29) (.t 28), none⟩])
  (.seq (.cond (.t 30) .skip (.exit 0))
  (.seq (.block 1 (.seq (.region [⟨(some 31), .mov (.t 29), none⟩, ⟨(some 32), .idxS 2 (.t 27) (.t 29), none⟩, ⟨(some 33), .loadN 2 (.t 32), none⟩, ⟨(some 9), .alloc 73 [(.int .i64 0), (.int .i64 0)], none⟩, ⟨(some 8), .mov (.t 31), none⟩, ⟨none, .store 2 (.t 9) (.t 33), none⟩])
  (.seq (.drawn [(⟨(some 34), .fldA 1 (.t 9), none⟩, []), (⟨(some 35), .load1 (.t 34), none⟩, []), (⟨(some 36), .call (.k (.c (.fn 77 []))) [(.t 35)], none⟩, []), (⟨(some 37), .un .not (.t 36), none⟩, []), (⟨(some 38), .mov (.t 37), none⟩, []), (⟨(some 39), .fldA 0 (.t 9), some (38, false)⟩, []), (⟨(some 40), .load1 (.t 39), some (38, false)⟩, []), (⟨(some 41), .fldA 1 (.t 2), some (38, false)⟩, []), (⟨(some 42), .load1 (.t 41), some (38, false)⟩, []), (⟨(some 43), .bin .lss .int (.t 40) (.t 42), some (38, false)⟩, []), (⟨(some 44), .pick (.t 38) (.k (.c (.bool true))) (.t 43), none⟩, []), (⟨(some 45), .mov (.t 44), none⟩, []), (⟨(some 46), .fldA 0 (.t 9), some (45, false)⟩, []), (⟨(some 47), .load1 (.t 46), some (45, false)⟩, []), (⟨(some 48), .bin .gtr .int (.t 47) (.k (.c (.int .i64 40000))), some (45, false)⟩, []), (⟨(some 49), .pick (.t 45) (.k (.c (.bool true))) (.t 48), none⟩, []), (⟨(some 50), .mov (.t 49), none⟩, []), (⟨(some 51), .mov (.t 8), some (50, false)⟩, []), (⟨(some 52), .bin .gtr .int (.t 51) (.k (.c (.int .i64 0))), some (50, false)⟩, []), (⟨(some 53), .mov (.t 52), some (50, false)⟩, []), (⟨(some 54), .fldA 0 (.t 9), some (53, true)⟩, []), (⟨(some 55), .load1 (.t 54), some (53, true)⟩, []), (⟨(some 56), .mov (.t 1), some (53, true)⟩, []), (⟨(some 57), .mov (.t 8), some (53, true)⟩, []), (⟨(some 58), .bin .sub .int (.t 57) (.k (.c (.int .i64 1))), some (53, true)⟩, []), (⟨(some 59), .idxS 2 (.t 56) (.t 58), some (53, true)⟩, []), (⟨(some 60), .fldA 0 (.t 59), some (53, true)⟩, []), (⟨(some 61), .load1 (.t 60), some (53, true)⟩, []), (⟨(some 62), .bin .leq .int (.t 55) (.t 61), some (53, true)⟩, []), (⟨(some 63), .pick (.t 53) (.t 62) (.k (.c (.bool false))), some (50, false)⟩, []), (⟨(some 64), .pick (.t 50) (.k (.c (.bool true))) (.t 63), none⟩, [])])
  (.cond (.t 64) (.seq (.region [⟨(some 65), .loadN 3 (.t 7), none⟩, ⟨none, .store 3 (.t 4) (.t 65), none⟩, ⟨(some 5), .mov (.k (.c (.slice none 0 (.exact 0)))), none⟩, ⟨(some 6), .mov (.k (.c (.int .i64 2))), none⟩])
  .ret) .skip))))
  (.region [⟨(some 66), .bin .add .int (.t 29) (.k (.c (.int .i64 1))), none⟩, ⟨(some 29), .mov (.t 66), none⟩]))))
def l85_1 : KC := (.seq (.region [⟨(some 71), .bin .lss .int (.t 70) (.t 69), none⟩])
  (.seq (.cond (.t 71) .skip (.exit 2))
  (.seq (.block 3 (.seq (.region [⟨(some 72), .idxS 2 (.t 68) (.t 70), none⟩, ⟨(some 73), .loadN 2 (.t 72), none⟩, ⟨(some 12), .alloc 73 [(.int .i64 0), (.int .i64 0)], none⟩, ⟨none, .store 2 (.t 12) (.t 73), none⟩])
  (.seq (.region [⟨(some 74), .fldA 2 (.t 2), none⟩, ⟨(some 75), .loadN 2 (.t 74), none⟩, ⟨(some 76), .fldA 0 (.t 12), none⟩, ⟨(some 77), .load1 (.t 76), none⟩, ⟨(some 78), .call (.k (.c (.fn 86 []))) [(.t 7), (.t 75), (.t 77)], none⟩, ⟨(some 13), .mov (.t 78), none⟩])
  (.seq (.seq (.region [⟨(some 79), .call (.k (.c (.fn 87 []))) [(.t 7)], none⟩, ⟨(some 80), .bin .gtr .int (.t 79) (.k (.c (.int .i64 100000000))), none⟩])
  (.cond (.t 80) (.seq (.region [⟨(some 81), .loadN 3 (.t 7), none⟩, ⟨none, .store 3 (.t 4) (.t 81), none⟩, ⟨(some 5), .mov (.k (.c (.slice none 0 (.exact 0)))), none⟩, ⟨(some 6), .mov (.k (.c (.int .i64 3))), none⟩])
  .ret) .skip))
  (.seq (.seq (.drawn [(⟨(some 82), .fldA 1 (.t 12), none⟩, []), (⟨(some 83), .load1 (.t 82), none⟩, []), (⟨(some 84), .call (.k (.c (.fn 87 []))) [(.t 7)], none⟩, [⟨(some 83), .load1 (.t 82), none⟩]), (⟨(some 85), .bin .gtr .int (.t 83) (.t 84), none⟩, [])])
  (.cond (.t 85) (.seq (.region [⟨(some 86), .loadN 3 (.t 7), none⟩, ⟨none, .store 3 (.t 4) (.t 86), none⟩, ⟨(some 5), .mov (.k (.c (.slice none 0 (.exact 0)))), none⟩, ⟨(some 6), .mov (.k (.c (.int .i64 4))), none⟩])
  .ret) .skip))
  (.seq (.region [⟨(some 87), .fldA 1 (.t 12), none⟩, ⟨(some 88), .load1 (.t 87), none⟩, ⟨(some 89), .call (.k (.c (.fn 92 []))) [(.t 7), (.t 88)], none⟩])
  (.drawn [(⟨(some 90), .mov (.t 10), none⟩, []), (⟨(some 91), .fldA 0 (.t 12), none⟩, []), (⟨(some 92), .load1 (.t 91), none⟩, []), (⟨(some 93), .mov (.t 13), none⟩, []), (⟨(some 94), .fldA 1 (.t 12), none⟩, []), (⟨(some 95), .load1 (.t 94), none⟩, []), (⟨(some 96), .call (.k (.c (.fn 87 []))) [(.t 7)], none⟩, [⟨(some 92), .load1 (.t 91), none⟩, ⟨(some 95), .load1 (.t 94), none⟩]), (⟨(some 97), .build [(.int .i64 0), (.int .i64 0), (.int .i64 0), (.int .i64 0)] [(0, 1, (.t 92)), (1, 1, (.t 93)), (2, 1, (.t 95)), (3, 1, (.t 96))], none⟩, []), (⟨(some 98), .buildSl 71 1 [(.int .i64 0), (.int .i64 0), (.int .i64 0), (.int .i64 0)] [(0, 4, (.t 97))], none⟩, []), (⟨(some 99), .app 71 4 32 (.t 90) (.t 98), none⟩, []), (⟨(some 10), .mov (.t 99), none⟩, [])])))))))
  (.region [⟨(some 100), .bin .add .int (.t 70) (.k (.c (.int .i64 1))), none⟩, ⟨(some 70), .mov (.t 100), none⟩]))))
def k85 : KF := ⟨103, (.seq (.region [⟨(some 2), .box 35 (.t 0), none⟩, ⟨(some 4), .alloc 104 [(.int .i64 0), (.int .i64 0), (.int .i64 0)], none⟩, ⟨(some 5), .mov (.k (.c (.slice none 0 (.exact 0)))), none⟩, ⟨(some 6), .mov (.k (.c (.int .i64 0))), none⟩])
  (.seq (.region [⟨(some 14), .fldA 0 (.t 2), none⟩, ⟨(some 15), .load1 (.t 14), none⟩, ⟨(some 16), .fldA 1 (.t 2), none⟩, ⟨(some 17), .load1 (.t 16), none⟩, ⟨(some 18), .build [(.int .i64 0), (.int .i64 0), (.int .i64 0)] [(0, 1, (.t 15)), (2, 1, (.t 17))], none⟩, ⟨(some 7), .alloc 104 [(.int .i64 0), (.int .i64 0), (.int .i64 0)], none⟩, ⟨none, .store 3 (.t 7) (.t 18), none⟩])
  (.seq (.seq (.region [⟨(some 19), .loadN 5 (.t 2), none⟩, ⟨(some 20), .call (.k (.c (.fn 67 []))) [(.t 19)], none⟩, ⟨(some 21), .un .not (.t 20), none⟩])
  (.cond (.t 21) (.seq (.region [⟨(some 22), .loadN 3 (.t 7), none⟩, ⟨none, .store 3 (.t 4) (.t 22), none⟩, ⟨(some 5), .mov (.k (.c (.slice none 0 (.exact 0)))), none⟩, ⟨(some 6), .mov (.k (.c (.int .i64 1))), none⟩])
  .ret) .skip))
  (.seq (.seq (.region [⟨(some 23), .mov (.t 1), none⟩, ⟨(some 24), .len false (.t 23), none⟩, ⟨(some 25), .bin .gtr .int (.t 24) (.k (.c (.int .i64 60))), none⟩])
  (.cond (.t 25) (.seq (.region [⟨(some 26), .loadN 3 (.t 7), none⟩, ⟨none, .store 3 (.t 4) (.t 26), none⟩, ⟨(some 5), .mov (.k (.c (.slice none 0 (.exact 0)))), none⟩, ⟨(some 6), .mov (.k (.c (.int .i64 2))), none⟩])
  .ret) .skip))
  (.seq (.seq (.region [⟨(some 27), .mov (.t 1), none⟩, ⟨(some 28), .len false (.t 27), none⟩, ⟨(some 29), .mov (.k (.c (.int .i64 0))), none⟩])
  (.block 0 (.loop l85_0)))
  (.seq (.region [⟨(some 67), .buildSl 71 0 [] [], none⟩, ⟨(some 10), .mov (.t 67), none⟩])
  (.seq (.seq (.region [⟨(some 68), .mov (.t 1), none⟩, ⟨(some 69), .len false (.t 68), none⟩, ⟨(some 70), .mov (.k (.c (.int .i64 0))), none⟩])
  (.block 2 (.loop l85_1)))
  (.seq (.region [⟨(some 101), .loadN 3 (.t 7), none⟩, ⟨(some 102), .mov (.t 10), none⟩, ⟨none, .store 3 (.t 4) (.t 101), none⟩, ⟨(some 5), .mov (.t 102), none⟩, ⟨(some 6), .mov (.k (.c (.int .i64 0))), none⟩])
  .ret)))))))), [.cellN 4 3, .tmp 5, .tmp 6], false⟩
theorem c85 : kk 85 = some k85 := by kernel_rfl
/-- (*loop.example/g01263/impl.state).wait -/
def k86 : KF := ⟨33, (.seq (.region [⟨(some 4), .box 26 (.t 1), none⟩, ⟨(some 6), .mov (.k (.c (.int .i64 0))), none⟩])
  (.seq (.drawn [(⟨(some 8), .mov (.t 0), none⟩, []), (⟨(some 9), .nilchk (.t 8), none⟩, []), (⟨(some 10), .fldA 0 (.t 9), none⟩, []), (⟨(some 11), .load1 (.t 10), none⟩, []), (⟨(some 12), .loadN 2 (.t 4), none⟩, []), (⟨(some 13), .mov (.t 2), none⟩, []), (⟨(some 14), .mov (.t 0), none⟩, []), (⟨(some 15), .nilchk (.t 14), none⟩, []), (⟨(some 16), .fldA 2 (.t 15), none⟩, []), (⟨(some 17), .load1 (.t 16), none⟩, []), (⟨(some 18), .bin .sub .int (.t 13) (.t 17), none⟩, []), (⟨(some 19), .call (.k (.c (.fn 59 []))) [(.t 11), (.t 12), (.t 18)], none⟩, []), (⟨(some 7), .mov (.t 19), none⟩, [])])
  (.seq (.region [⟨(some 20), .mov (.t 0), none⟩, ⟨(some 21), .nilchk (.t 20), none⟩, ⟨(some 22), .fldA 1 (.t 21), none⟩, ⟨(some 23), .load1 (.t 22), none⟩, ⟨(some 24), .mov (.t 7), none⟩, ⟨(some 25), .bin .add .int (.t 23) (.t 24), none⟩, ⟨(some 26), .nilchk (.t 20), none⟩, ⟨(some 27), .fldA 1 (.t 26), none⟩, ⟨none, .store 1 (.t 27) (.t 25), none⟩])
  (.seq (.region [⟨(some 28), .mov (.t 0), none⟩, ⟨(some 29), .mov (.t 2), none⟩, ⟨(some 30), .nilchk (.t 28), none⟩, ⟨(some 31), .fldA 2 (.t 30), none⟩, ⟨none, .store 1 (.t 31) (.t 29), none⟩])
  (.seq (.region [⟨(some 32), .mov (.t 7), none⟩, ⟨(some 6), .mov (.t 32), none⟩])
  .ret))))), [.tmp 6], true⟩
theorem c86 : kk 86 = some k86 := by kernel_rfl
/-- (*loop.example/g01263/impl.state).all -/
def k87 : KF := ⟨12, (.seq (.region [⟨(some 2), .mov (.k (.c (.int .i64 0))), none⟩])
  (.seq (.drawn [(⟨(some 3), .mov (.t 0), none⟩, []), (⟨(some 4), .nilchk (.t 3), none⟩, []), (⟨(some 5), .fldA 0 (.t 4), none⟩, []), (⟨(some 6), .load1 (.t 5), none⟩, []), (⟨(some 7), .mov (.t 0), none⟩, []), (⟨(some 8), .nilchk (.t 7), none⟩, []), (⟨(some 9), .fldA 1 (.t 8), none⟩, []), (⟨(some 10), .load1 (.t 9), none⟩, []), (⟨(some 11), .bin .add .int (.t 6) (.t 10), none⟩, []), (⟨(some 2), .mov (.t 11), none⟩, [])])
  .ret)), [.tmp 2], true⟩
theorem c87 : kk 87 = some k87 := by kernel_rfl
/-- loop.example/g01263/spec.l03Drawn -/
def k89 : KF := ⟨21, (.seq (.region [⟨(some 2), .alloc 35 [(.int .i64 0), (.int .i64 0), (.int .i64 0), (.int .i64 0), (.int .i64 0)], none⟩])
  (.seq (.region [⟨(some 4), .mov (.t 0), none⟩, ⟨(some 5), .call (.k (.c (.fn 72 []))) [(.t 4), (.k (.c (.int .i64 60000)))], none⟩, ⟨(some 6), .mov (.t 0), none⟩, ⟨(some 7), .call (.k (.c (.fn 72 []))) [(.t 6), (.k (.c (.int .i64 1000)))], none⟩, ⟨(some 8), .build [(.int .i64 0), (.int .i64 0), (.int .i64 0), (.int .i64 0), (.int .i64 0)] [(0, 1, (.t 5)), (1, 1, (.t 7))], none⟩, ⟨(some 3), .alloc 35 [(.int .i64 0), (.int .i64 0), (.int .i64 0), (.int .i64 0), (.int .i64 0)], none⟩, ⟨none, .store 5 (.t 3) (.t 8), none⟩])
  (.seq (.region [⟨(some 9), .mov (.t 0), none⟩, ⟨(some 10), .call (.k (.c (.fn 72 []))) [(.t 9), (.k (.c (.int .i64 30)))], none⟩, ⟨(some 11), .mov (.t 0), none⟩, ⟨(some 12), .call (.k (.c (.fn 72 []))) [(.t 11), (.k (.c (.int .i64 170)))], none⟩, ⟨(some 13), .bin .add .int (.k (.c (.int .i64 30))) (.t 12), none⟩, ⟨(some 14), .build [(.int .i64 0), (.int .i64 0)] [(0, 1, (.t 10)), (1, 1, (.t 13))], none⟩, ⟨(some 15), .fldA 2 (.t 3), none⟩, ⟨none, .store 2 (.t 15) (.t 14), none⟩])
  (.seq (.region [⟨(some 16), .mov (.t 0), none⟩, ⟨(some 17), .buildSl 2 5 [(.int .i64 0), (.int .i64 0), (.int .i64 0), (.int .i64 0), (.int .i64 0)] [(0, 1, (.k (.c (.int .i64 0)))), (1, 1, (.k (.c (.int .i64 30)))), (2, 1, (.k (.c (.int .i64 90)))), (3, 1, (.k (.c (.int .i64 365)))), (4, 1, (.k (.c (.int .i64 1))))], none⟩, ⟨(some 18), .call (.k (.c (.fn 99 []))) [(.t 16), (.t 17)], none⟩, ⟨(some 19), .fldA 4 (.t 3), none⟩, ⟨none, .store 1 (.t 19) (.t 18), none⟩])
  (.seq (.region [⟨(some 20), .loadN 5 (.t 3), none⟩, ⟨none, .store 5 (.t 2) (.t 20), none⟩])
  .ret))))), [.cellN 2 5], true⟩
theorem c89 : kk 89 = some k89 := by kernel_rfl
/-- loop.example/g01263/spec.l03Rate -/
def k90 : KF := ⟨13, (.seq (.region [⟨(some 1), .box 26 (.t 0), none⟩, ⟨(some 2), .mov (.k (.c (.bool false))), none⟩])
  (.seq (.region [⟨(some 3), .fldA 1 (.t 1), none⟩, ⟨(some 4), .load1 (.t 3), none⟩, ⟨(some 5), .call (.k (.c (.fn 65 []))) [(.t 4), (.k (.c (.int .i64 1))), (.k (.c (.int .i64 10000)))], none⟩, ⟨(some 6), .mov (.t 5), none⟩, ⟨(some 7), .fldA 0 (.t 1), some (6, true)⟩, ⟨(some 8), .load1 (.t 7), some (6, true)⟩, ⟨(some 9), .fldA 1 (.t 1), some (6, true)⟩, ⟨(some 10), .load1 (.t 9), some (6, true)⟩, ⟨(some 11), .call (.k (.c (.fn 65 []))) [(.t 8), (.k (.c (.int .i64 0))), (.t 10)], some (6, true)⟩, ⟨(some 12), .pick (.t 6) (.t 11) (.k (.c (.bool false))), none⟩, ⟨(some 2), .mov (.t 12), none⟩])
  .ret)), [.tmp 2], true⟩
theorem c90 : kk 90 = some k90 := by kernel_rfl
/-- loop.example/g01263/impl.ValidRate -/
def k91 : KF := ⟨23, (.seq (.region [⟨(some 1), .box 26 (.t 0), none⟩, ⟨(some 2), .mov (.k (.c (.bool false))), none⟩])
  (.seq (.region [⟨(some 3), .fldA 1 (.t 1), none⟩, ⟨(some 4), .load1 (.t 3), none⟩, ⟨(some 5), .bin .geq .int (.t 4) (.k (.c (.int .i64 1))), none⟩, ⟨(some 6), .mov (.t 5), none⟩, ⟨(some 7), .fldA 1 (.t 1), some (6, true)⟩, ⟨(some 8), .load1 (.t 7), some (6, true)⟩, ⟨(some 9), .bin .leq .int (.t 8) (.k (.c (.int .i64 10000))), some (6, true)⟩, ⟨(some 10), .pick (.t 6) (.t 9) (.k (.c (.bool false))), none⟩, ⟨(some 11), .mov (.t 10), none⟩, ⟨(some 12), .fldA 0 (.t 1), some (11, true)⟩, ⟨(some 13), .load1 (.t 12), some (11, true)⟩, ⟨(some 14), .bin .geq .int (.t 13) (.k (.c (.int .i64 0))), some (11, true)⟩, ⟨(some 15), .pick (.t 11) (.t 14) (.k (.c (.bool false))), none⟩, ⟨(some 16), .mov (.t 15), none⟩, ⟨(some 17), .fldA 0 (.t 1), some (16, true)⟩, ⟨(some 18), .load1 (.t 17), some (16, true)⟩, ⟨(some 19), .fldA 1 (.t 1), some (16, true)⟩, ⟨(some 20), .load1 (.t 19), some (16, true)⟩, ⟨(some 21), .bin .leq .int (.t 18) (.t 20), some (16, true)⟩, ⟨(some 22), .pick (.t 16) (.t 21) (.k (.c (.bool false))), none⟩, ⟨(some 2), .mov (.t 22), none⟩])
  .ret)), [.tmp 2], true⟩
theorem c91 : kk 91 = some k91 := by kernel_rfl
/-- (*loop.example/g01263/impl.state).pay -/
def k92 : KF := ⟨29, (.seq (.region [⟨(some 5), .mov (.t 1), none⟩, ⟨(some 6), .mov (.t 0), none⟩, ⟨(some 7), .nilchk (.t 6), none⟩, ⟨(some 8), .fldA 1 (.t 7), none⟩, ⟨(some 9), .load1 (.t 8), none⟩, ⟨(some 10), .min [(.t 5), (.t 9)], none⟩, ⟨(some 4), .mov (.t 10), none⟩])
  (.seq (.region [⟨(some 11), .mov (.t 0), none⟩, ⟨(some 12), .nilchk (.t 11), none⟩, ⟨(some 13), .fldA 1 (.t 12), none⟩, ⟨(some 14), .load1 (.t 13), none⟩, ⟨(some 15), .mov (.t 4), none⟩, ⟨(some 16), .bin .sub .int (.t 14) (.t 15), none⟩, ⟨(some 17), .nilchk (.t 11), none⟩, ⟨(some 18), .fldA 1 (.t 17), none⟩, ⟨none, .store 1 (.t 18) (.t 16), none⟩])
  (.region [⟨(some 19), .mov (.t 0), none⟩, ⟨(some 20), .nilchk (.t 19), none⟩, ⟨(some 21), .fldA 0 (.t 20), none⟩, ⟨(some 22), .load1 (.t 21), none⟩, ⟨(some 23), .mov (.t 1), none⟩, ⟨(some 24), .mov (.t 4), none⟩, ⟨(some 25), .bin .sub .int (.t 23) (.t 24), none⟩, ⟨(some 26), .bin .sub .int (.t 22) (.t 25), none⟩, ⟨(some 27), .nilchk (.t 19), none⟩, ⟨(some 28), .fldA 0 (.t 27), none⟩, ⟨none, .store 1 (.t 28) (.t 26), none⟩]))), [], true⟩
theorem c92 : kk 92 = some k92 := by kernel_rfl
/-- (*loop.example/g01263/spec.l00Src).next -/
def k93 : KF := ⟨62, (.seq (.region [⟨(some 2), .mov (.k (.c (.int .i64 0))), none⟩])
  (.seq (.region [⟨(some 3), .mov (.k (.c (.int .i64 0))), none⟩])
  (.seq (.seq (.drawn [(⟨(some 4), .mov (.t 0), none⟩, []), (⟨(some 5), .nilchk (.t 4), none⟩, []), (⟨(some 6), .fldA 1 (.t 5), none⟩, []), (⟨(some 7), .load1 (.t 6), none⟩, []), (⟨(some 8), .mov (.t 0), none⟩, []), (⟨(some 9), .nilchk (.t 8), none⟩, []), (⟨(some 10), .fldA 0 (.t 9), none⟩, []), (⟨(some 11), .load1 (.t 10), none⟩, []), (⟨(some 12), .len false (.t 11), none⟩, []), (⟨(some 13), .bin .lss .int (.t 7) (.t 12), none⟩, [])])
  (.cond (.t 13) (.drawn [(⟨(some 14), .mov (.t 0), none⟩, []), (⟨(some 15), .nilchk (.t 14), none⟩, []), (⟨(some 16), .fldA 0 (.t 15), none⟩, []), (⟨(some 17), .load1 (.t 16), none⟩, []), (⟨(some 18), .mov (.t 0), none⟩, []), (⟨(some 19), .nilchk (.t 18), none⟩, []), (⟨(some 20), .fldA 1 (.t 19), none⟩, []), (⟨(some 21), .load1 (.t 20), none⟩, []), (⟨(some 22), .idxS 1 (.t 17) (.t 21), none⟩, []), (⟨(some 23), .load1 (.t 22), none⟩, []), (⟨(some 24), .conv .i64 (.t 23), none⟩, []), (⟨(some 3), .mov (.t 24), none⟩, [])]) .skip))
  (.seq (.region [⟨(some 25), .mov (.t 0), none⟩, ⟨(some 26), .nilchk (.t 25), none⟩, ⟨(some 27), .fldA 1 (.t 26), none⟩, ⟨(some 28), .load1 (.t 27), none⟩, ⟨(some 29), .bin .add .int (.t 28) (.k (.c (.int .i64 1))), none⟩, ⟨(some 30), .nilchk (.t 25), none⟩, ⟨(some 31), .fldA 1 (.t 30), none⟩, ⟨none, .store 1 (.t 31) (.t 29), none⟩])
  (.seq (.region [⟨(some 32), .mov (.t 0), none⟩, ⟨(some 33), .mov (.t 0), none⟩, ⟨(some 34), .nilchk (.t 33), none⟩, ⟨(some 35), .fldA 2 (.t 34), none⟩, ⟨(some 36), .load1 (.t 35), none⟩, ⟨(some 37), .bin .mul .int (.t 36) (.k (.c (.int .u64 6364136223846793005))), none⟩, ⟨(some 38), .mov (.t 3), none⟩, ⟨(some 39), .conv .u64 (.t 38), none⟩, ⟨(some 40), .bin .add .int (.t 37) (.t 39), none⟩, ⟨(some 41), .bin .add .int (.t 40) (.k (.c (.int .u64 1442695040888963407))), none⟩, ⟨(some 42), .nilchk (.t 32), none⟩, ⟨(some 43), .fldA 2 (.t 42), none⟩, ⟨none, .store 1 (.t 43) (.t 41), none⟩])
  (.seq (.seq (.drawn [(⟨(some 44), .mov (.t 0), none⟩, []), (⟨(some 45), .nilchk (.t 44), none⟩, []), (⟨(some 46), .fldA 1 (.t 45), none⟩, []), (⟨(some 47), .load1 (.t 46), none⟩, []), (⟨(some 48), .mov (.t 0), none⟩, []), (⟨(some 49), .nilchk (.t 48), none⟩, []), (⟨(some 50), .fldA 0 (.t 49), none⟩, []), (⟨(some 51), .load1 (.t 50), none⟩, []), (⟨(some 52), .len false (.t 51), none⟩, []), (⟨(some 53), .bin .leq .int (.t 47) (.t 52), none⟩, [])])
  (.cond (.t 53) (.seq (.region [⟨(some 54), .mov (.t 3), none⟩, ⟨(some 2), .mov (.t 54), none⟩])
  .ret) .skip))
  (.seq (.region [⟨(some 55), .mov (.t 0), none⟩, ⟨(some 56), .nilchk (.t 55), none⟩, ⟨(some 57), .fldA 2 (.t 56), none⟩, ⟨(some 58), .load1 (.t 57), none⟩, ⟨(some 59), .bin .shr .int (.t 58) (.k (.c (.int .u64 40))), none⟩, ⟨(some 60), .bin .and .int (.t 59) (.k (.c (.int .u64 255))), none⟩, ⟨(some 61), .conv .i64 (.t 60), none⟩, ⟨(some 2), .mov (.t 61), none⟩])
  .ret))))))), [.tmp 2], true⟩
theorem c93 : kk 93 = some k93 := by kernel_rfl
/-- loop.example/g01263/spec.l03Begin -/
def k94 : KF := ⟨17, (.seq (.region [⟨(some 2), .mov (.k (.c (.ptr none))), none⟩])
  (.seq (.drawn [(⟨(some 3), .mov (.t 0), none⟩, []), (⟨(some 4), .nilchk (.t 3), none⟩, []), (⟨(some 5), .fldA 2 (.t 4), none⟩, []), (⟨(some 6), .loadN 2 (.t 5), none⟩, []), (⟨(some 7), .mov (.t 0), none⟩, []), (⟨(some 8), .nilchk (.t 7), none⟩, []), (⟨(some 9), .fldA 1 (.t 8), none⟩, []), (⟨(some 10), .load1 (.t 9), none⟩, []), (⟨(some 11), .mov (.t 0), none⟩, []), (⟨(some 12), .nilchk (.t 11), none⟩, []), (⟨(some 13), .fldA 0 (.t 12), none⟩, []), (⟨(some 14), .load1 (.t 13), none⟩, []), (⟨(some 15), .build [(.int .i64 0), (.int .i64 0), (.int .i64 0), (.int .i64 0), (.int .i64 0)] [(0, 2, (.t 6)), (2, 1, (.t 10)), (3, 1, (.t 14))], none⟩, []), (⟨(some 16), .box 100 (.t 15), none⟩, []), (⟨(some 2), .mov (.t 16), none⟩, [])])
  .ret)), [.tmp 2], false⟩
theorem c94 : kk 94 = some k94 := by kernel_rfl
/-- loop.example/g01263/spec.l00Min -/
def k95 : KF := ⟨10, (.seq (.region [⟨(some 4), .mov (.k (.c (.int .i64 0))), none⟩])
  (.seq (.seq (.region [⟨(some 5), .mov (.t 0), none⟩, ⟨(some 6), .mov (.t 1), none⟩, ⟨(some 7), .bin .lss .int (.t 5) (.t 6), none⟩])
  (.cond (.t 7) (.seq (.region [⟨(some 8), .mov (.t 0), none⟩, ⟨(some 4), .mov (.t 8), none⟩])
  .ret) .skip))
  (.seq (.region [⟨(some 9), .mov (.t 1), none⟩, ⟨(some 4), .mov (.t 9), none⟩])
  .ret))), [.tmp 4], true⟩
theorem c95 : kk 95 = some k95 := by kernel_rfl
/-- (*loop.example/g01263/spec.l03State).pay -/
def k96 : KF := ⟨29, (.seq (.region [⟨(some 5), .mov (.t 1), none⟩, ⟨(some 6), .mov (.t 0), none⟩, ⟨(some 7), .nilchk (.t 6), none⟩, ⟨(some 8), .fldA 4 (.t 7), none⟩, ⟨(some 9), .load1 (.t 8), none⟩, ⟨(some 10), .call (.k (.c (.fn 95 []))) [(.t 5), (.t 9)], none⟩, ⟨(some 4), .mov (.t 10), none⟩])
  (.seq (.region [⟨(some 11), .mov (.t 0), none⟩, ⟨(some 12), .nilchk (.t 11), none⟩, ⟨(some 13), .fldA 4 (.t 12), none⟩, ⟨(some 14), .load1 (.t 13), none⟩, ⟨(some 15), .mov (.t 4), none⟩, ⟨(some 16), .bin .sub .int (.t 14) (.t 15), none⟩, ⟨(some 17), .nilchk (.t 11), none⟩, ⟨(some 18), .fldA 4 (.t 17), none⟩, ⟨none, .store 1 (.t 18) (.t 16), none⟩])
  (.region [⟨(some 19), .mov (.t 0), none⟩, ⟨(some 20), .nilchk (.t 19), none⟩, ⟨(some 21), .fldA 3 (.t 20), none⟩, ⟨(some 22), .load1 (.t 21), none⟩, ⟨(some 23), .mov (.t 1), none⟩, ⟨(some 24), .mov (.t 4), none⟩, ⟨(some 25), .bin .sub .int (.t 23) (.t 24), none⟩, ⟨(some 26), .bin .sub .int (.t 22) (.t 25), none⟩, ⟨(some 27), .nilchk (.t 19), none⟩, ⟨(some 28), .fldA 3 (.t 27), none⟩, ⟨none, .store 1 (.t 28) (.t 26), none⟩]))), [], true⟩
theorem c96 : kk 96 = some k96 := by kernel_rfl
/-- loop.example/g01263/spec.l03Parts -/
def l98_0 : KC := (.seq (.seq (.region [⟨(some 14), .mov (.t 6), none⟩, ⟨(some 15), .mov (.t 1), none⟩, ⟨(some 16), .len false (.t 15), none⟩, ⟨(some 17), .bin .lss .int (.t 14) (.t 16), none⟩])
  (.cond (.t 17) .skip (.exit 0)))
  (.seq (.block 1 (.seq (.seq (.region [⟨(some 20), .mov (.t 1), none⟩, ⟨(some 21), .mov (.t 6), none⟩, ⟨(some 22), .idxS 2 (.t 20) (.t 21), none⟩, ⟨(some 23), .fldA 1 (.t 22), none⟩, ⟨(some 24), .load1 (.t 23), none⟩, ⟨(some 25), .call (.k (.c (.fn 73 []))) [(.t 24)], none⟩, ⟨(some 26), .un .not (.t 25), none⟩, ⟨(some 27), .mov (.t 26), none⟩, ⟨(some 28), .mov (.t 1), some (27, false)⟩, ⟨(some 29), .mov (.t 6), some (27, false)⟩, ⟨(some 30), .idxS 2 (.t 28) (.t 29), some (27, false)⟩, ⟨(some 31), .fldA 0 (.t 30), some (27, false)⟩, ⟨(some 32), .load1 (.t 31), some (27, false)⟩, ⟨(some 33), .mov (.t 5), some (27, false)⟩, ⟨(some 34), .call (.k (.c (.fn 65 []))) [(.t 32), (.t 33), (.k (.c (.int .i64 40000)))], some (27, false)⟩, ⟨(some 35), .un .not (.t 34), some (27, false)⟩, ⟨(some 36), .pick (.t 27) (.k (.c (.bool true))) (.t 35), none⟩])
  (.cond (.t 36) (.seq (.region [⟨(some 4), .mov (.k (.c (.bool false))), none⟩])
  .ret) .skip))
  (.region [⟨(some 37), .mov (.t 1), none⟩, ⟨(some 38), .mov (.t 6), none⟩, ⟨(some 39), .idxS 2 (.t 37) (.t 38), none⟩, ⟨(some 40), .fldA 0 (.t 39), none⟩, ⟨(some 41), .load1 (.t 40), none⟩, ⟨(some 42), .bin .add .int (.t 41) (.k (.c (.int .i64 1))), none⟩, ⟨(some 5), .mov (.t 42), none⟩])))
  (.region [⟨(some 18), .mov (.t 6), none⟩, ⟨(some 19), .bin .add .int (.t 18) (.k (.c (.int .i64 1))), none⟩, ⟨(some 6), .mov (.t 19), none⟩])))
def k98 : KF := ⟨43, (.seq (.region [⟨(some 4), .mov (.k (.c (.bool false))), none⟩])
  (.seq (.seq (.region [⟨(some 7), .mov (.t 1), none⟩, ⟨(some 8), .len false (.t 7), none⟩, ⟨(some 9), .bin .gtr .int (.t 8) (.k (.c (.int .i64 60))), none⟩])
  (.cond (.t 9) (.seq (.region [⟨(some 4), .mov (.k (.c (.bool false))), none⟩])
  .ret) .skip))
  (.seq (.region [⟨(some 10), .mov (.t 0), none⟩, ⟨(some 11), .nilchk (.t 10), none⟩, ⟨(some 12), .fldA 1 (.t 11), none⟩, ⟨(some 13), .load1 (.t 12), none⟩, ⟨(some 5), .mov (.t 13), none⟩])
  (.seq (.seq (.region [⟨(some 6), .mov (.k (.c (.int .i64 0))), none⟩])
  (.block 0 (.loop l98_0)))
  (.seq (.region [⟨(some 4), .mov (.k (.c (.bool true))), none⟩])
  .ret))))), [.tmp 4], true⟩
theorem c98 : kk 98 = some k98 := by kernel_rfl
/-- (*loop.example/g01263/spec.l00Src).among -/
def k99 : KF := ⟨12, (.seq (.region [⟨(some 4), .mov (.k (.c (.int .i64 0))), none⟩])
  (.seq (.region [⟨(some 5), .mov (.t 1), none⟩, ⟨(some 6), .mov (.t 0), none⟩, ⟨(some 7), .mov (.t 1), none⟩, ⟨(some 8), .len false (.t 7), none⟩, ⟨(some 9), .call (.k (.c (.fn 72 []))) [(.t 6), (.t 8)], none⟩, ⟨(some 10), .idxS 1 (.t 5) (.t 9), none⟩, ⟨(some 11), .load1 (.t 10), none⟩, ⟨(some 4), .mov (.t 11), none⟩])
  .ret)), [.tmp 4], true⟩
theorem c99 : kk 99 = some k99 := by kernel_rfl
end Go.Proofs.Ytjpfeofaghnkdaa
