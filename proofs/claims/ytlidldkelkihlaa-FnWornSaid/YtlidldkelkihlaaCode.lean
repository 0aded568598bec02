/- What functions of the program answer: part Code. -/
import Derived.Test.YtlidldkelkihlaaViEv
import Derived.Test.YtlidldkelkihlaaViComp
import Derived.Test.YtlidldkelkihlaaChecked
import Derived.KernelRfl
set_option linter.unusedVariables false
set_option linter.unusedSimpArgs false
set_option linter.unusedSectionVars false
namespace Go.Proofs.Ytlidldkelkihlaa
open Go Go.Proofs.Ytlidldkelkihlaa.VI
noncomputable def kk : FuncId → Option KF := fun f => cFunc Try.prog (!([20, 25, 31, 32, 40, 47, 48, 56, 57, 68, 74, 75, 83, 84, 96, 97, 104, 105, 108, 118, 125, 127, 129, 131, 132, 134, 135, 136] : List Nat).contains f) f
/-- loop.example/g01263/laws.FnExactCountWood -/
def k3 : KF := ⟨14, (.seq (.region [⟨(some 1), .box 23 (.t 0), none⟩, ⟨(some 2), .mov (.k (.c (.bool false))), none⟩])
  (.seq (.region [⟨(some 5), .loadN 4 (.t 1), none⟩, ⟨(some 6), .call (.k (.c (.fn 16 []))) [(.t 5)], none⟩, ⟨(some 7), .call (.k (.c (.fn 15 []))) [(.t 6)], none⟩, ⟨(some 3), .mov (.t 7), none⟩])
  (.seq (.region [⟨(some 8), .loadN 4 (.t 1), none⟩, ⟨(some 9), .call (.k (.c (.fn 16 []))) [(.t 8)], none⟩, ⟨(some 10), .call (.k (.c (.fn 17 []))) [(.t 9)], none⟩, ⟨(some 4), .mov (.t 10), none⟩])
  (.seq (.seq (.region [⟨(some 11), .mov (.t 4), none⟩, ⟨(some 12), .mov (.t 3), none⟩, ⟨(some 13), .bin .neq .int (.t 11) (.t 12), none⟩])
  (.cond (.t 13) (.seq (.region [⟨(some 2), .mov (.k (.c (.bool false))), none⟩])
  .ret) .skip))
  (.seq (.region [⟨(some 2), .mov (.k (.c (.bool true))), none⟩])
  .ret))))), [.tmp 2], true⟩
/-- loop.example/g01263/laws.FnWorn -/
def l5_0 : KC := (.seq (.seq (.region [⟨(some 83), .mov (.t 16), none⟩, ⟨(some 84), .bin .lss .int (.t 83) (.k (.c (.int .i64 16))), none⟩])
  (.cond (.t 84) .skip (.exit 0)))
  (.seq (.block 1 (.seq (.drawn [(⟨(some 87), .mov (.t 16), none⟩, []), (⟨(some 88), .idxA 16 1 (.t 10) (.t 87), none⟩, []), (⟨(some 89), .load1 (.t 88), none⟩, []), (⟨(some 90), .conv .i64 (.t 89), none⟩, []), (⟨(some 91), .mov (.t 16), none⟩, []), (⟨(some 92), .fldA 2 (.t 5), none⟩, []), (⟨(some 93), .idxA 16 1 (.t 92) (.t 91), none⟩, []), (⟨(some 94), .load1 (.t 93), none⟩, []), (⟨(some 95), .conv .i64 (.t 94), none⟩, []), (⟨(some 96), .bin .sub .int (.t 90) (.t 95), none⟩, []), (⟨(some 17), .mov (.t 96), none⟩, [])])
  (.region [⟨(some 97), .mov (.t 15), none⟩, ⟨(some 98), .mov (.t 17), none⟩, ⟨(some 99), .mov (.t 17), none⟩, ⟨(some 100), .un .neg (.t 99), none⟩, ⟨(some 101), .max [(.t 98), (.t 100)], none⟩, ⟨(some 102), .bin .add .int (.t 97) (.t 101), none⟩, ⟨(some 15), .mov (.t 102), none⟩])))
  (.region [⟨(some 85), .mov (.t 16), none⟩, ⟨(some 86), .bin .add .int (.t 85) (.k (.c (.int .i64 1))), none⟩, ⟨(some 16), .mov (.t 86), none⟩])))
def l5_1 : KC := (.seq (.seq (.region [⟨(some 143), .mov (.t 24), none⟩, ⟨(some 144), .mov (.t 20), none⟩, ⟨(some 145), .len false (.t 144), none⟩, ⟨(some 146), .bin .lss .int (.t 143) (.t 145), none⟩])
  (.cond (.t 146) .skip (.exit 4)))
  (.seq (.block 5 (.region [⟨(some 149), .mov (.t 23), none⟩, ⟨(some 150), .mov (.t 149), none⟩, ⟨(some 151), .mov (.t 20), some (150, false)⟩, ⟨(some 152), .mov (.t 24), some (150, false)⟩, ⟨(some 153), .idxS 1 (.t 151) (.t 152), some (150, false)⟩, ⟨(some 154), .load1 (.t 153), some (150, false)⟩, ⟨(some 155), .mov (.t 22), some (150, false)⟩, ⟨(some 156), .bin .eql .int (.t 154) (.t 155), some (150, false)⟩, ⟨(some 157), .pick (.t 150) (.k (.c (.bool true))) (.t 156), none⟩, ⟨(some 23), .mov (.t 157), none⟩]))
  (.region [⟨(some 147), .mov (.t 24), none⟩, ⟨(some 148), .bin .add .int (.t 147) (.k (.c (.int .i64 1))), none⟩, ⟨(some 24), .mov (.t 148), none⟩])))
def l5_2 : KC := (.seq (.seq (.region [⟨(some 139), .mov (.t 22), none⟩, ⟨(some 140), .bin .lss .int (.t 139) (.k (.c (.int .i64 16))), none⟩])
  (.cond (.t 140) .skip (.exit 2)))
  (.seq (.block 3 (.seq (.region [⟨(some 23), .mov (.k (.c (.bool false))), none⟩])
  (.seq (.seq (.region [⟨(some 24), .mov (.k (.c (.int .i64 0))), none⟩])
  (.block 4 (.loop l5_1)))
  (.seq (.drawn [(⟨(some 158), .mov (.t 23), none⟩, []), (⟨(some 159), .mov (.t 22), none⟩, []), (⟨(some 160), .idxA 16 1 (.t 10) (.t 159), none⟩, []), (⟨(some 161), .load1 (.t 160), none⟩, []), (⟨(some 162), .mov (.t 22), none⟩, []), (⟨(some 163), .fldA 2 (.t 5), none⟩, []), (⟨(some 164), .idxA 16 1 (.t 163) (.t 162), none⟩, []), (⟨(some 165), .load1 (.t 164), none⟩, []), (⟨(some 166), .bin .neq .int (.t 161) (.t 165), none⟩, []), (⟨(some 167), .bin .neq .bool (.t 158) (.t 166), none⟩, [])])
  (.cond (.t 167) (.seq (.region [⟨(some 4), .mov (.k (.c (.bool false))), none⟩])
  .ret) .skip)))))
  (.region [⟨(some 141), .mov (.t 22), none⟩, ⟨(some 142), .bin .add .int (.t 141) (.k (.c (.int .i64 1))), none⟩, ⟨(some 22), .mov (.t 142), none⟩])))
def k5 : KF := ⟨168, (.seq (.region [⟨(some 4), .mov (.k (.c (.bool false))), none⟩])
  (.seq (.seq (.region [⟨(some 25), .mov (.t 0), none⟩, ⟨(some 26), .call (.k (.c (.fn 24 []))) [(.t 25)], none⟩, ⟨(some 27), .mov (.t 26), none⟩, ⟨(some 28), .mov (.t 1), some (27, false)⟩, ⟨(some 29), .call (.k (.c (.fn 24 []))) [(.t 28)], some (27, false)⟩, ⟨(some 30), .pick (.t 27) (.k (.c (.bool true))) (.t 29), none⟩])
  (.cond (.t 30) (.seq (.region [⟨(some 4), .mov (.k (.c (.bool true))), none⟩])
  .ret) .skip))
  (.seq (.region [⟨(some 31), .mov (.t 0), none⟩, ⟨(some 32), .call (.k (.c (.fn 25 []))) [(.t 31)], none⟩, ⟨(some 5), .alloc 39 [(.bool false), (.slice none 0 (.exact 0)), (.int .i8 0), (.int .i8 0), (.int .i8 0), (.int .i8 0), (.int .i8 0), (.int .i8 0), (.int .i8 0), (.int .i8 0), (.int .i8 0), (.int .i8 0), (.int .i8 0), (.int .i8 0), (.int .i8 0), (.int .i8 0), (.int .i8 0), (.int .i8 0)], none⟩, ⟨none, .store 18 (.t 5) (.t 32), none⟩])
  (.seq (.region [⟨(some 33), .mov (.t 1), none⟩, ⟨(some 34), .call (.k (.c (.fn 26 []))) [(.t 33), (.k (.c (.int .i64 30)))], none⟩, ⟨(some 6), .mov (.t 34), none⟩])
  (.seq (.region [⟨(some 36), .fldA 2 (.t 5), none⟩, ⟨(some 37), .loadN 16 (.t 36), none⟩, ⟨(some 38), .mov (.t 6), none⟩, ⟨(some 39), .call (.k (.c (.fn 27 []))) [(.t 37), (.k (.c (.int .u32 11))), (.t 38)], none⟩, ⟨(some 35), .mov (.t 39), none⟩, ⟨(some 40), .ext (.t 35) 0, none⟩, ⟨(some 41), .ext (.t 35) 1, none⟩, ⟨(some 42), .ext (.t 35) 2, none⟩, ⟨(some 7), .alloc 37 [(.int .i8 0), (.int .i8 0), (.int .i8 0), (.int .i8 0), (.int .i8 0), (.int .i8 0), (.int .i8 0), (.int .i8 0), (.int .i8 0), (.int .i8 0), (.int .i8 0), (.int .i8 0), (.int .i8 0), (.int .i8 0), (.int .i8 0), (.int .i8 0)], none⟩, ⟨none, .store 16 (.t 7) (.t 40), none⟩, ⟨(some 8), .mov (.t 41), none⟩, ⟨(some 9), .mov (.t 42), none⟩])
  (.seq (.region [⟨(some 44), .fldA 2 (.t 5), none⟩, ⟨(some 45), .loadN 16 (.t 44), none⟩, ⟨(some 46), .mov (.t 6), none⟩, ⟨(some 47), .call (.k (.c (.fn 28 []))) [(.t 45), (.k (.c (.int .u32 11))), (.t 46)], none⟩, ⟨(some 43), .mov (.t 47), none⟩, ⟨(some 48), .ext (.t 43) 0, none⟩, ⟨(some 49), .ext (.t 43) 1, none⟩, ⟨(some 50), .ext (.t 43) 2, none⟩, ⟨(some 10), .alloc 37 [(.int .i8 0), (.int .i8 0), (.int .i8 0), (.int .i8 0), (.int .i8 0), (.int .i8 0), (.int .i8 0), (.int .i8 0), (.int .i8 0), (.int .i8 0), (.int .i8 0), (.int .i8 0), (.int .i8 0), (.int .i8 0), (.int .i8 0), (.int .i8 0)], none⟩, ⟨none, .store 16 (.t 10) (.t 48), none⟩, ⟨(some 11), .mov (.t 49), none⟩, ⟨(some 12), .mov (.t 50), none⟩])
  (.seq (.region [⟨(some 52), .fldA 2 (.t 5), none⟩, ⟨(some 53), .loadN 16 (.t 52), none⟩, ⟨(some 54), .call (.k (.c (.fn 29 []))) [(.t 53)], none⟩, ⟨(some 51), .mov (.t 54), none⟩, ⟨(some 55), .ext (.t 51) 0, none⟩, ⟨(some 56), .ext (.t 51) 1, none⟩, ⟨(some 13), .alloc 37 [(.int .i8 0), (.int .i8 0), (.int .i8 0), (.int .i8 0), (.int .i8 0), (.int .i8 0), (.int .i8 0), (.int .i8 0), (.int .i8 0), (.int .i8 0), (.int .i8 0), (.int .i8 0), (.int .i8 0), (.int .i8 0), (.int .i8 0), (.int .i8 0)], none⟩, ⟨none, .store 16 (.t 13) (.t 55), none⟩, ⟨(some 14), .mov (.t 56), none⟩])
  (.seq (.seq (.region [⟨(some 57), .mov (.t 9), none⟩, ⟨(some 58), .mov (.t 12), none⟩, ⟨(some 59), .bin .neq .int (.t 57) (.t 58), none⟩, ⟨(some 60), .mov (.t 59), none⟩, ⟨(some 61), .mov (.t 9), some (60, false)⟩, ⟨(some 62), .bin .neq .int (.t 61) (.k (.c (.int .i64 0))), some (60, false)⟩, ⟨(some 63), .pick (.t 60) (.k (.c (.bool true))) (.t 62), none⟩, ⟨(some 64), .mov (.t 63), none⟩, ⟨(some 65), .loadN 16 (.t 7), some (64, false)⟩, ⟨(some 66), .loadN 16 (.t 10), some (64, false)⟩, ⟨(some 67), .bin .neq (.agg [.int, .int, .int, .int, .int, .int, .int, .int, .int, .int, .int, .int, .int, .int, .int, .int]) (.t 65) (.t 66), some (64, false)⟩, ⟨(some 68), .pick (.t 64) (.k (.c (.bool true))) (.t 67), none⟩, ⟨(some 69), .mov (.t 68), none⟩, ⟨(some 70), .mov (.t 8), some (69, false)⟩, ⟨(some 71), .mov (.t 11), some (69, false)⟩, ⟨(some 72), .bin .neq .int (.t 70) (.t 71), some (69, false)⟩, ⟨(some 73), .pick (.t 69) (.k (.c (.bool true))) (.t 72), none⟩, ⟨(some 74), .mov (.t 73), none⟩, ⟨(some 75), .mov (.t 14), some (74, false)⟩, ⟨(some 76), .bin .neq .int (.t 75) (.k (.c (.int .i64 0))), some (74, false)⟩, ⟨(some 77), .pick (.t 74) (.k (.c (.bool true))) (.t 76), none⟩, ⟨(some 78), .mov (.t 77), none⟩, ⟨(some 79), .loadN 16 (.t 10), some (78, false)⟩, ⟨(some 80), .call (.k (.c (.fn 30 []))) [(.t 79)], some (78, false)⟩, ⟨(some 81), .un .not (.t 80), some (78, false)⟩, ⟨(some 82), .pick (.t 78) (.k (.c (.bool true))) (.t 81), none⟩])
  (.cond (.t 82) (.seq (.region [⟨(some 4), .mov (.k (.c (.bool false))), none⟩])
  .ret) .skip))
  (.seq (.region [⟨(some 15), .mov (.k (.c (.int .i64 0))), none⟩])
  (.seq (.seq (.region [⟨(some 16), .mov (.k (.c (.int .i64 0))), none⟩])
  (.block 0 (.loop l5_0)))
  (.seq (.region [⟨(some 104), .loadN 16 (.t 10), none⟩, ⟨(some 105), .loadN 16 (.t 13), none⟩, ⟨(some 106), .call (.k (.c (.fn 31 []))) [(.t 104), (.t 105)], none⟩, ⟨(some 103), .mov (.t 106), none⟩, ⟨(some 107), .ext (.t 103) 0, none⟩, ⟨(some 108), .ext (.t 103) 1, none⟩, ⟨(some 18), .mov (.t 107), none⟩, ⟨(some 19), .mov (.t 108), none⟩])
  (.seq (.region [⟨(some 110), .loadN 16 (.t 10), none⟩, ⟨(some 111), .loadN 16 (.t 13), none⟩, ⟨(some 112), .call (.k (.c (.fn 32 []))) [(.t 110), (.t 111)], none⟩, ⟨(some 109), .mov (.t 112), none⟩, ⟨(some 113), .ext (.t 109) 0, none⟩, ⟨(some 114), .ext (.t 109) 1, none⟩, ⟨(some 20), .mov (.t 113), none⟩, ⟨(some 21), .mov (.t 114), none⟩])
  (.seq (.seq (.region [⟨(some 115), .mov (.t 15), none⟩, ⟨(some 116), .mov (.t 6), none⟩, ⟨(some 117), .bin .gtr .int (.t 115) (.t 116), none⟩, ⟨(some 118), .mov (.t 117), none⟩, ⟨(some 119), .mov (.t 19), some (118, false)⟩, ⟨(some 120), .mov (.t 21), some (118, false)⟩, ⟨(some 121), .bin .neq .int (.t 119) (.t 120), some (118, false)⟩, ⟨(some 122), .pick (.t 118) (.k (.c (.bool true))) (.t 121), none⟩, ⟨(some 123), .mov (.t 122), none⟩, ⟨(some 124), .mov (.t 19), some (123, false)⟩, ⟨(some 125), .bin .neq .int (.t 124) (.k (.c (.int .i64 0))), some (123, false)⟩, ⟨(some 126), .pick (.t 123) (.k (.c (.bool true))) (.t 125), none⟩, ⟨(some 127), .mov (.t 126), none⟩, ⟨(some 128), .mov (.t 18), some (127, false)⟩, ⟨(some 129), .mov (.t 20), some (127, false)⟩, ⟨(some 130), .call (.k (.c (.fn 33 []))) [(.t 128), (.t 129)], some (127, false)⟩, ⟨(some 131), .un .not (.t 130), some (127, false)⟩, ⟨(some 132), .pick (.t 127) (.k (.c (.bool true))) (.t 131), none⟩, ⟨(some 133), .mov (.t 132), none⟩, ⟨(some 134), .mov (.t 20), some (133, false)⟩, ⟨(some 135), .len false (.t 134), some (133, false)⟩, ⟨(some 136), .mov (.t 15), some (133, false)⟩, ⟨(some 137), .bin .gtr .int (.t 135) (.t 136), some (133, false)⟩, ⟨(some 138), .pick (.t 133) (.k (.c (.bool true))) (.t 137), none⟩])
  (.cond (.t 138) (.seq (.region [⟨(some 4), .mov (.k (.c (.bool false))), none⟩])
  .ret) .skip))
  (.seq (.seq (.region [⟨(some 22), .mov (.k (.c (.int .i64 0))), none⟩])
  (.block 2 (.loop l5_2)))
  (.seq (.region [⟨(some 4), .mov (.k (.c (.bool true))), none⟩])
  .ret))))))))))))))), [.tmp 4], true⟩
theorem c5 : kk 5 = some k5 := by kernel_rfl
/-- loop.example/g01263/laws.FnExactSureAmount -/
def k10 : KF := ⟨58, (.seq (.region [⟨(some 2), .box 32 (.t 0), none⟩, ⟨(some 3), .box 32 (.t 1), none⟩, ⟨(some 4), .mov (.k (.c (.bool false))), none⟩])
  (.seq (.region [⟨(some 5), .mov (.k (.c (.int .i64 1048576))), none⟩])
  (.seq (.region [⟨(some 12), .loadN 18 (.t 2), none⟩, ⟨(some 13), .mov (.t 5), none⟩, ⟨(some 14), .call (.k (.c (.fn 18 []))) [(.t 12), (.t 13)], none⟩, ⟨(some 5), .mov (.t 14), none⟩])
  (.seq (.seq (.region [⟨(some 15), .mov (.t 5), none⟩, ⟨(some 16), .bin .lss .int (.t 15) (.k (.c (.int .i64 0))), none⟩])
  (.cond (.t 16) (.seq (.region [⟨(some 4), .mov (.k (.c (.bool true))), none⟩])
  .ret) .skip))
  (.seq (.region [⟨(some 17), .loadN 18 (.t 3), none⟩, ⟨(some 18), .mov (.t 5), none⟩, ⟨(some 19), .call (.k (.c (.fn 18 []))) [(.t 17), (.t 18)], none⟩, ⟨(some 5), .mov (.t 19), none⟩])
  (.seq (.seq (.region [⟨(some 20), .mov (.t 5), none⟩, ⟨(some 21), .bin .lss .int (.t 20) (.k (.c (.int .i64 0))), none⟩])
  (.cond (.t 21) (.seq (.region [⟨(some 4), .mov (.k (.c (.bool true))), none⟩])
  .ret) .skip))
  (.seq (.drawn [(⟨(some 23), .loadN 18 (.t 2), none⟩, []), (⟨(some 25), .loadN 18 (.t 3), none⟩, []), (⟨(some 24), .call (.k (.c (.fn 20 []))) [(.t 23)], none⟩, [⟨(some 25), .loadN 18 (.t 3), none⟩]), (⟨(some 26), .call (.k (.c (.fn 20 []))) [(.t 25)], none⟩, []), (⟨(some 27), .call (.k (.c (.fn 45 []))) [(.t 24), (.t 26)], none⟩, []), (⟨(some 22), .mov (.t 27), none⟩, []), (⟨(some 28), .ext (.t 22) 0, none⟩, []), (⟨(some 29), .ext (.t 22) 1, none⟩, []), (⟨(some 6), .mov (.t 28), none⟩, []), (⟨(some 7), .mov (.t 29), none⟩, [])])
  (.seq (.region [⟨(some 30), .loadN 18 (.t 2), none⟩, ⟨(some 31), .call (.k (.c (.fn 20 []))) [(.t 30)], none⟩, ⟨(some 8), .alloc 39 [(.bool false), (.slice none 0 (.exact 0)), (.int .i8 0), (.int .i8 0), (.int .i8 0), (.int .i8 0), (.int .i8 0), (.int .i8 0), (.int .i8 0), (.int .i8 0), (.int .i8 0), (.int .i8 0), (.int .i8 0), (.int .i8 0), (.int .i8 0), (.int .i8 0), (.int .i8 0), (.int .i8 0)], none⟩, ⟨none, .store 18 (.t 8) (.t 31), none⟩])
  (.seq (.region [⟨(some 32), .loadN 18 (.t 3), none⟩, ⟨(some 33), .call (.k (.c (.fn 20 []))) [(.t 32)], none⟩, ⟨(some 9), .alloc 39 [(.bool false), (.slice none 0 (.exact 0)), (.int .i8 0), (.int .i8 0), (.int .i8 0), (.int .i8 0), (.int .i8 0), (.int .i8 0), (.int .i8 0), (.int .i8 0), (.int .i8 0), (.int .i8 0), (.int .i8 0), (.int .i8 0), (.int .i8 0), (.int .i8 0), (.int .i8 0), (.int .i8 0)], none⟩, ⟨none, .store 18 (.t 9) (.t 33), none⟩])
  (.seq (.region [⟨(some 35), .loadN 18 (.t 8), none⟩, ⟨(some 36), .loadN 18 (.t 9), none⟩, ⟨(some 37), .call (.k (.c (.fn 46 []))) [(.t 35), (.t 36)], none⟩, ⟨(some 34), .mov (.t 37), none⟩, ⟨(some 38), .ext (.t 34) 0, none⟩, ⟨(some 39), .ext (.t 34) 1, none⟩, ⟨(some 10), .mov (.t 38), none⟩, ⟨(some 11), .mov (.t 39), none⟩])
  (.seq (.seq (.region [⟨(some 40), .mov (.t 10), none⟩, ⟨(some 41), .mov (.t 6), none⟩, ⟨(some 42), .bin .neq .int (.t 40) (.t 41), none⟩, ⟨(some 43), .mov (.t 42), none⟩, ⟨(some 44), .mov (.t 11), some (43, false)⟩, ⟨(some 45), .mov (.t 7), some (43, false)⟩, ⟨(some 46), .bin .neq .int (.t 44) (.t 45), some (43, false)⟩, ⟨(some 47), .pick (.t 43) (.k (.c (.bool true))) (.t 46), none⟩])
  (.cond (.t 47) (.seq (.region [⟨(some 4), .mov (.k (.c (.bool false))), none⟩])
  .ret) .skip))
  (.seq (.seq (.drawn [(⟨(some 48), .loadN 18 (.t 8), none⟩, []), (⟨(some 49), .loadN 18 (.t 2), none⟩, []), (⟨(some 50), .call (.k (.c (.fn 20 []))) [(.t 49)], none⟩, [⟨(some 48), .loadN 18 (.t 8), none⟩]), (⟨(some 51), .call (.k (.c (.fn 23 []))) [(.t 48), (.t 50)], none⟩, []), (⟨(some 52), .un .not (.t 51), none⟩, [])])
  (.cond (.t 52) (.seq (.region [⟨(some 4), .mov (.k (.c (.bool false))), none⟩])
  .ret) .skip))
  (.seq (.seq (.drawn [(⟨(some 53), .loadN 18 (.t 9), none⟩, []), (⟨(some 54), .loadN 18 (.t 3), none⟩, []), (⟨(some 55), .call (.k (.c (.fn 20 []))) [(.t 54)], none⟩, [⟨(some 53), .loadN 18 (.t 9), none⟩]), (⟨(some 56), .call (.k (.c (.fn 23 []))) [(.t 53), (.t 55)], none⟩, []), (⟨(some 57), .un .not (.t 56), none⟩, [])])
  (.cond (.t 57) (.seq (.region [⟨(some 4), .mov (.k (.c (.bool false))), none⟩])
  .ret) .skip))
  (.seq (.region [⟨(some 4), .mov (.k (.c (.bool true))), none⟩])
  .ret)))))))))))))), [.tmp 4], true⟩
/-- loop.example/g01263/spec.CountWood -/
def l15_0 : KC := (.seq (.seq (.region [⟨(some 13), .mov (.t 5), none⟩, ⟨(some 14), .bin .neq .int (.t 13) (.k (.c (.int .u64 0))), none⟩])
  (.cond (.t 14) .skip (.exit 2)))
  (.seq (.block 3 (.region [⟨(some 17), .mov (.t 3), none⟩, ⟨(some 18), .mov (.t 5), none⟩, ⟨(some 19), .bin .and .int (.t 18) (.k (.c (.int .u64 1))), none⟩, ⟨(some 20), .conv .i64 (.t 19), none⟩, ⟨(some 21), .bin .add .int (.t 17) (.t 20), none⟩, ⟨(some 3), .mov (.t 21), none⟩]))
  (.region [⟨(some 15), .mov (.t 5), none⟩, ⟨(some 16), .bin .shr .int (.t 15) (.k (.c (.int .u64 1))), none⟩, ⟨(some 5), .mov (.t 16), none⟩])))
def l15_1 : KC := (.seq (.seq (.region [⟨(some 6), .mov (.t 4), none⟩, ⟨(some 7), .bin .lss .int (.t 6) (.k (.c (.int .i64 4))), none⟩])
  (.cond (.t 7) .skip (.exit 0)))
  (.seq (.block 1 (.seq (.region [⟨(some 10), .mov (.t 4), none⟩, ⟨(some 11), .idxA 4 1 (.t 1) (.t 10), none⟩, ⟨(some 12), .load1 (.t 11), none⟩, ⟨(some 5), .mov (.t 12), none⟩])
  (.block 2 (.loop l15_0))))
  (.region [⟨(some 8), .mov (.t 4), none⟩, ⟨(some 9), .bin .add .int (.t 8) (.k (.c (.int .i64 1))), none⟩, ⟨(some 4), .mov (.t 9), none⟩])))
def k15 : KF := ⟨23, (.seq (.region [⟨(some 1), .box 25 (.t 0), none⟩, ⟨(some 2), .mov (.k (.c (.int .i64 0))), none⟩])
  (.seq (.region [⟨(some 3), .mov (.k (.c (.int .i64 0))), none⟩])
  (.seq (.seq (.region [⟨(some 4), .mov (.k (.c (.int .i64 0))), none⟩])
  (.block 0 (.loop l15_1)))
  (.seq (.region [⟨(some 22), .mov (.t 3), none⟩, ⟨(some 2), .mov (.t 22), none⟩])
  .ret)))), [.tmp 2], true⟩
/-- loop.example/g01263/laws.toWood -/
def l16_0 : KC := (.seq (.seq (.region [⟨(some 5), .mov (.t 4), none⟩, ⟨(some 6), .bin .lss .int (.t 5) (.k (.c (.int .i64 4))), none⟩])
  (.cond (.t 6) .skip (.exit 0)))
  (.seq (.block 1 (.region [⟨(some 9), .mov (.t 4), none⟩, ⟨(some 10), .mov (.t 4), none⟩, ⟨(some 11), .idxA 4 1 (.t 1) (.t 10), none⟩, ⟨(some 12), .load1 (.t 11), none⟩, ⟨(some 13), .idxA 4 1 (.t 3) (.t 9), none⟩, ⟨none, .store 1 (.t 13) (.t 12), none⟩]))
  (.region [⟨(some 7), .mov (.t 4), none⟩, ⟨(some 8), .bin .add .int (.t 7) (.k (.c (.int .i64 1))), none⟩, ⟨(some 4), .mov (.t 8), none⟩])))
def k16 : KF := ⟨15, (.seq (.region [⟨(some 1), .box 23 (.t 0), none⟩, ⟨(some 2), .alloc 25 [(.int .u64 0), (.int .u64 0), (.int .u64 0), (.int .u64 0)], none⟩])
  (.seq (.region [⟨(some 3), .alloc 25 [(.int .u64 0), (.int .u64 0), (.int .u64 0), (.int .u64 0)], none⟩])
  (.seq (.seq (.region [⟨(some 4), .mov (.k (.c (.int .i64 0))), none⟩])
  (.block 0 (.loop l16_0)))
  (.seq (.region [⟨(some 14), .loadN 4 (.t 3), none⟩, ⟨none, .store 4 (.t 2) (.t 14), none⟩])
  .ret)))), [.cellN 2 4], true⟩
/-- loop.example/g01263/laws.toHalf -/
def k20 : KF := ⟨16, (.seq (.region [⟨(some 1), .box 32 (.t 0), none⟩, ⟨(some 2), .alloc 39 [(.bool false), (.slice none 0 (.exact 0)), (.int .i8 0), (.int .i8 0), (.int .i8 0), (.int .i8 0), (.int .i8 0), (.int .i8 0), (.int .i8 0), (.int .i8 0), (.int .i8 0), (.int .i8 0), (.int .i8 0), (.int .i8 0), (.int .i8 0), (.int .i8 0), (.int .i8 0), (.int .i8 0)], none⟩])
  (.seq (.region [⟨(some 3), .alloc 39 [(.bool false), (.slice none 0 (.exact 0)), (.int .i8 0), (.int .i8 0), (.int .i8 0), (.int .i8 0), (.int .i8 0), (.int .i8 0), (.int .i8 0), (.int .i8 0), (.int .i8 0), (.int .i8 0), (.int .i8 0), (.int .i8 0), (.int .i8 0), (.int .i8 0), (.int .i8 0), (.int .i8 0)], none⟩])
  (.seq (.region [⟨(some 4), .fldA 0 (.t 1), none⟩, ⟨(some 5), .load1 (.t 4), none⟩, ⟨(some 6), .fldA 0 (.t 3), none⟩, ⟨none, .store 1 (.t 6) (.t 5), none⟩])
  (.seq (.region [⟨(some 7), .fldA 1 (.t 1), none⟩, ⟨(some 8), .load1 (.t 7), none⟩, ⟨(some 9), .call (.k (.c (.fn 68 []))) [(.t 8)], none⟩, ⟨(some 10), .fldA 1 (.t 3), none⟩, ⟨none, .store 1 (.t 10) (.t 9), none⟩])
  (.seq (.region [⟨(some 11), .fldA 2 (.t 1), none⟩, ⟨(some 12), .loadN 16 (.t 11), none⟩, ⟨(some 13), .call (.k (.c (.fn 69 []))) [(.t 12)], none⟩, ⟨(some 14), .fldA 2 (.t 3), none⟩, ⟨none, .store 16 (.t 14) (.t 13), none⟩])
  (.seq (.region [⟨(some 15), .loadN 18 (.t 3), none⟩, ⟨none, .store 18 (.t 2) (.t 15), none⟩])
  .ret)))))), [.cellN 2 18], false⟩
/-- loop.example/g01263/laws.eqWood -/
def l22_0 : KC := (.seq (.seq (.region [⟨(some 6), .mov (.t 5), none⟩, ⟨(some 7), .bin .lss .int (.t 6) (.k (.c (.int .i64 4))), none⟩])
  (.cond (.t 7) .skip (.exit 0)))
  (.seq (.block 1 (.seq (.drawn [(⟨(some 10), .mov (.t 5), none⟩, []), (⟨(some 11), .idxA 4 1 (.t 2) (.t 10), none⟩, []), (⟨(some 12), .load1 (.t 11), none⟩, []), (⟨(some 13), .mov (.t 5), none⟩, []), (⟨(some 14), .idxA 4 1 (.t 3) (.t 13), none⟩, []), (⟨(some 15), .load1 (.t 14), none⟩, []), (⟨(some 16), .bin .neq .int (.t 12) (.t 15), none⟩, [])])
  (.cond (.t 16) (.seq (.region [⟨(some 4), .mov (.k (.c (.bool false))), none⟩])
  .ret) .skip)))
  (.region [⟨(some 8), .mov (.t 5), none⟩, ⟨(some 9), .bin .add .int (.t 8) (.k (.c (.int .i64 1))), none⟩, ⟨(some 5), .mov (.t 9), none⟩])))
def k22 : KF := ⟨17, (.seq (.region [⟨(some 2), .box 25 (.t 0), none⟩, ⟨(some 3), .box 25 (.t 1), none⟩, ⟨(some 4), .mov (.k (.c (.bool false))), none⟩])
  (.seq (.seq (.region [⟨(some 5), .mov (.k (.c (.int .i64 0))), none⟩])
  (.block 0 (.loop l22_0)))
  (.seq (.region [⟨(some 4), .mov (.k (.c (.bool true))), none⟩])
  .ret))), [.tmp 4], true⟩
/-- loop.example/g01263/laws.eqHalf -/
def k23 : KF := ⟨22, (.seq (.region [⟨(some 2), .box 39 (.t 0), none⟩, ⟨(some 3), .box 39 (.t 1), none⟩, ⟨(some 4), .mov (.k (.c (.bool false))), none⟩])
  (.seq (.seq (.region [⟨(some 5), .fldA 0 (.t 2), none⟩, ⟨(some 6), .load1 (.t 5), none⟩, ⟨(some 7), .fldA 0 (.t 3), none⟩, ⟨(some 8), .load1 (.t 7), none⟩, ⟨(some 9), .bin .neq .bool (.t 6) (.t 8), none⟩])
  (.cond (.t 9) (.seq (.region [⟨(some 4), .mov (.k (.c (.bool false))), none⟩])
  .ret) .skip))
  (.seq (.seq (.region [⟨(some 10), .fldA 1 (.t 2), none⟩, ⟨(some 11), .load1 (.t 10), none⟩, ⟨(some 12), .fldA 1 (.t 3), none⟩, ⟨(some 13), .load1 (.t 12), none⟩, ⟨(some 14), .call (.k (.c (.fn 72 []))) [(.t 11), (.t 13)], none⟩, ⟨(some 15), .un .not (.t 14), none⟩])
  (.cond (.t 15) (.seq (.region [⟨(some 4), .mov (.k (.c (.bool false))), none⟩])
  .ret) .skip))
  (.seq (.seq (.region [⟨(some 16), .fldA 2 (.t 2), none⟩, ⟨(some 17), .loadN 16 (.t 16), none⟩, ⟨(some 18), .fldA 2 (.t 3), none⟩, ⟨(some 19), .loadN 16 (.t 18), none⟩, ⟨(some 20), .call (.k (.c (.fn 73 []))) [(.t 17), (.t 19)], none⟩, ⟨(some 21), .un .not (.t 20), none⟩])
  (.cond (.t 21) (.seq (.region [⟨(some 4), .mov (.k (.c (.bool false))), none⟩])
  .ret) .skip))
  (.seq (.region [⟨(some 4), .mov (.k (.c (.bool true))), none⟩])
  .ret))))), [.tmp 4], true⟩
/-- loop.example/g01263/laws.f6big -/
def k24 : KF := ⟨6, (.seq (.region [⟨(some 2), .mov (.k (.c (.bool false))), none⟩])
  (.seq (.region [⟨(some 3), .mov (.t 0), none⟩, ⟨(some 4), .len false (.t 3), none⟩, ⟨(some 5), .bin .gtr .int (.t 4) (.k (.c (.int .i64 4096))), none⟩, ⟨(some 2), .mov (.t 5), none⟩])
  .ret)), [.tmp 2], true⟩
theorem c24 : kk 24 = some k24 := by kernel_rfl
/-- loop.example/g01263/spec.P6Half -/
def k25 : KF := ⟨6, (.seq (.region [⟨(some 2), .alloc 39 [(.bool false), (.slice none 0 (.exact 0)), (.int .i8 0), (.int .i8 0), (.int .i8 0), (.int .i8 0), (.int .i8 0), (.int .i8 0), (.int .i8 0), (.int .i8 0), (.int .i8 0), (.int .i8 0), (.int .i8 0), (.int .i8 0), (.int .i8 0), (.int .i8 0), (.int .i8 0), (.int .i8 0)], none⟩])
  (.seq (.region [⟨(some 3), .mov (.t 0), none⟩, ⟨(some 4), .call (.k (.c (.fn 75 []))) [(.t 3)], none⟩, ⟨(some 5), .call (.k (.c (.fn 74 []))) [(.t 4)], none⟩, ⟨none, .store 18 (.t 2) (.t 5), none⟩])
  .ret)), [.cellN 2 18], false⟩
theorem c25 : kk 25 = some k25 := by kernel_rfl
/-- loop.example/g01263/spec.P6Pick -/
def k26 : KF := ⟨9, (.seq (.region [⟨(some 4), .mov (.k (.c (.int .i64 0))), none⟩])
  (.seq (.region [⟨(some 5), .mov (.t 0), none⟩, ⟨(some 6), .call (.k (.c (.fn 75 []))) [(.t 5)], none⟩, ⟨(some 7), .mov (.t 1), none⟩, ⟨(some 8), .call (.k (.c (.fn 76 []))) [(.t 6), (.t 7)], none⟩, ⟨(some 4), .mov (.t 8), none⟩])
  .ret)), [.tmp 4], true⟩
theorem c26 : kk 26 = some k26 := by kernel_rfl
/-- loop.example/g01263/impl.ChanceWear -/
def l27_0 : KC := (.seq (.region [⟨(some 28), .bin .lss .int (.t 27) (.t 26), none⟩])
  (.seq (.cond (.t 28) .skip (.exit 1))
  (.seq (.block 2 (.seq (.region [⟨(some 29), .mov (.t 1), none⟩, ⟨(some 30), .call (.k (.c (.fn 77 []))) [(.t 29)], none⟩, ⟨(some 1), .mov (.t 30), none⟩])
  (.seq (.region [⟨(some 31), .mov (.t 1), none⟩, ⟨(some 32), .bin .shr .int (.t 31) (.k (.c (.int .u64 16))), none⟩, ⟨(some 9), .mov (.t 32), none⟩])
  (.seq (.region [⟨(some 10), .mov (.k (.c (.int .i64 1))), none⟩])
  (.seq (.seq (.region [⟨(some 33), .mov (.t 9), none⟩, ⟨(some 34), .bin .quo .int (.t 33) (.k (.c (.int .u32 16))), none⟩, ⟨(some 35), .bin .rem .int (.t 34) (.k (.c (.int .u32 2))), none⟩, ⟨(some 36), .bin .eql .int (.t 35) (.k (.c (.int .u32 1))), none⟩])
  (.cond (.t 36) (.region [⟨(some 10), .mov (.k (.c (.int .i64 (-1)))), none⟩]) .skip))
  (.seq (.region [⟨(some 38), .loadN 16 (.t 3), none⟩, ⟨(some 39), .mov (.t 9), none⟩, ⟨(some 40), .bin .rem .int (.t 39) (.k (.c (.int .u32 16))), none⟩, ⟨(some 41), .conv .i64 (.t 40), none⟩, ⟨(some 42), .mov (.t 10), none⟩, ⟨(some 43), .call (.k (.c (.fn 78 []))) [(.t 38), (.t 41), (.t 42)], none⟩, ⟨(some 37), .mov (.t 43), none⟩, ⟨(some 44), .ext (.t 37) 0, none⟩, ⟨(some 45), .ext (.t 37) 1, none⟩, ⟨(some 11), .alloc 37 [(.int .i8 0), (.int .i8 0), (.int .i8 0), (.int .i8 0), (.int .i8 0), (.int .i8 0), (.int .i8 0), (.int .i8 0), (.int .i8 0), (.int .i8 0), (.int .i8 0), (.int .i8 0), (.int .i8 0), (.int .i8 0), (.int .i8 0), (.int .i8 0)], none⟩, ⟨none, .store 16 (.t 11) (.t 44), none⟩, ⟨(some 12), .mov (.t 45), none⟩])
  (.seq (.region [⟨(some 46), .mov (.t 12), none⟩, ⟨(some 47), .bin .eql .int (.t 46) (.k (.c (.int .i64 0))), none⟩])
  (.cond (.t 47) (.region [⟨(some 48), .loadN 16 (.t 11), none⟩, ⟨none, .store 16 (.t 3) (.t 48), none⟩]) .skip))))))))
  (.region [⟨(some 49), .bin .add .int (.t 27) (.k (.c (.int .i64 1))), none⟩, ⟨(some 27), .mov (.t 49), none⟩]))))
def k27 : KF := ⟨52, (.seq (.region [⟨(some 3), .box 37 (.t 0), none⟩, ⟨(some 6), .alloc 37 [(.int .i8 0), (.int .i8 0), (.int .i8 0), (.int .i8 0), (.int .i8 0), (.int .i8 0), (.int .i8 0), (.int .i8 0), (.int .i8 0), (.int .i8 0), (.int .i8 0), (.int .i8 0), (.int .i8 0), (.int .i8 0), (.int .i8 0), (.int .i8 0)], none⟩, ⟨(some 7), .mov (.k (.c (.int .u32 0))), none⟩, ⟨(some 8), .mov (.k (.c (.int .i64 0))), none⟩])
  (.seq (.block 0 (.seq (.region [⟨(some 14), .loadN 16 (.t 3), none⟩, ⟨(some 15), .call (.k (.c (.fn 30 []))) [(.t 14)], none⟩, ⟨(some 16), .un .not (.t 15), none⟩, ⟨(some 13), .mov (.t 16), none⟩])
  (.cond (.t 13) (.seq (.region [⟨(some 17), .build [(.int .i8 0), (.int .i8 0), (.int .i8 0), (.int .i8 0), (.int .i8 0), (.int .i8 0), (.int .i8 0), (.int .i8 0), (.int .i8 0), (.int .i8 0), (.int .i8 0), (.int .i8 0), (.int .i8 0), (.int .i8 0), (.int .i8 0), (.int .i8 0)] [], none⟩, ⟨none, .store 16 (.t 6) (.t 17), none⟩, ⟨(some 7), .mov (.k (.c (.int .u32 0))), none⟩, ⟨(some 8), .mov (.k (.c (.int .i64 1))), none⟩])
  .ret) (.seq (.region [⟨(some 19), .mov (.t 2), none⟩, ⟨(some 20), .bin .lss .int (.t 19) (.k (.c (.int .i64 0))), none⟩, ⟨(some 21), .mov (.t 20), none⟩, ⟨(some 22), .mov (.t 2), some (21, false)⟩, ⟨(some 23), .bin .gtr .int (.t 22) (.k (.c (.int .i64 200))), some (21, false)⟩, ⟨(some 24), .pick (.t 21) (.k (.c (.bool true))) (.t 23), none⟩, ⟨(some 18), .mov (.t 24), none⟩])
  (.cond (.t 18) (.seq (.region [⟨(some 25), .build [(.int .i8 0), (.int .i8 0), (.int .i8 0), (.int .i8 0), (.int .i8 0), (.int .i8 0), (.int .i8 0), (.int .i8 0), (.int .i8 0), (.int .i8 0), (.int .i8 0), (.int .i8 0), (.int .i8 0), (.int .i8 0), (.int .i8 0), (.int .i8 0)] [], none⟩, ⟨none, .store 16 (.t 6) (.t 25), none⟩, ⟨(some 7), .mov (.k (.c (.int .u32 0))), none⟩, ⟨(some 8), .mov (.k (.c (.int .i64 2))), none⟩])
  .ret) .skip)))))
  (.seq (.seq (.region [⟨(some 26), .mov (.t 2), none⟩, ⟨(some 27), .mov (.k (.c (.int .i64 0))), none⟩])
  (.block 1 (.loop l27_0)))
  (.seq (.region [⟨(some 50), .loadN 16 (.t 3), none⟩, ⟨(some 51), .mov (.t 1), none⟩, ⟨none, .store 16 (.t 6) (.t 50), none⟩, ⟨(some 7), .mov (.t 51), none⟩, ⟨(some 8), .mov (.k (.c (.int .i64 0))), none⟩])
  .ret)))), [.cellN 6 16, .tmp 7, .tmp 8], true⟩
theorem c27 : kk 27 = some k27 := by kernel_rfl
/-- loop.example/g01263/spec.ChanceWear -/
def l28_0 : KC := (.seq (.seq (.region [⟨(some 21), .mov (.t 9), none⟩, ⟨(some 22), .mov (.t 2), none⟩, ⟨(some 23), .bin .lss .int (.t 21) (.t 22), none⟩])
  (.cond (.t 23) .skip (.exit 0)))
  (.seq (.block 1 (.seq (.region [⟨(some 26), .mov (.t 1), none⟩, ⟨(some 27), .call (.k (.c (.fn 81 []))) [(.t 26)], none⟩, ⟨(some 1), .mov (.t 27), none⟩])
  (.seq (.region [⟨(some 28), .mov (.t 1), none⟩, ⟨(some 29), .bin .shr .int (.t 28) (.k (.c (.int .u64 16))), none⟩, ⟨(some 30), .conv .i64 (.t 29), none⟩, ⟨(some 10), .mov (.t 30), none⟩])
  (.seq (.region [⟨(some 11), .mov (.k (.c (.int .i8 1))), none⟩])
  (.seq (.seq (.region [⟨(some 31), .mov (.t 10), none⟩, ⟨(some 32), .bin .quo .int (.t 31) (.k (.c (.int .i64 16))), none⟩, ⟨(some 33), .bin .rem .int (.t 32) (.k (.c (.int .i64 2))), none⟩, ⟨(some 34), .bin .eql .int (.t 33) (.k (.c (.int .i64 1))), none⟩])
  (.cond (.t 34) (.region [⟨(some 11), .mov (.k (.c (.int .i8 (-1)))), none⟩]) .skip))
  (.seq (.region [⟨(some 35), .loadN 16 (.t 3), none⟩, ⟨(some 12), .alloc 37 [(.int .i8 0), (.int .i8 0), (.int .i8 0), (.int .i8 0), (.int .i8 0), (.int .i8 0), (.int .i8 0), (.int .i8 0), (.int .i8 0), (.int .i8 0), (.int .i8 0), (.int .i8 0), (.int .i8 0), (.int .i8 0), (.int .i8 0), (.int .i8 0)], none⟩, ⟨none, .store 16 (.t 12) (.t 35), none⟩])
  (.seq (.region [⟨(some 36), .mov (.t 10), none⟩, ⟨(some 37), .bin .rem .int (.t 36) (.k (.c (.int .i64 16))), none⟩, ⟨(some 38), .idxA 16 1 (.t 12) (.t 37), none⟩, ⟨(some 39), .load1 (.t 38), none⟩, ⟨(some 40), .mov (.t 11), none⟩, ⟨(some 41), .bin .add .int (.t 39) (.t 40), none⟩, ⟨(some 42), .idxA 16 1 (.t 12) (.t 37), none⟩, ⟨none, .store 1 (.t 42) (.t 41), none⟩])
  (.seq (.region [⟨(some 43), .loadN 16 (.t 12), none⟩, ⟨(some 44), .call (.k (.c (.fn 79 []))) [(.t 43)], none⟩])
  (.cond (.t 44) (.region [⟨(some 45), .loadN 16 (.t 12), none⟩, ⟨none, .store 16 (.t 3) (.t 45), none⟩]) .skip)))))))))
  (.region [⟨(some 24), .mov (.t 9), none⟩, ⟨(some 25), .bin .add .int (.t 24) (.k (.c (.int .i64 1))), none⟩, ⟨(some 9), .mov (.t 25), none⟩])))
def k28 : KF := ⟨48, (.seq (.region [⟨(some 3), .box 37 (.t 0), none⟩, ⟨(some 6), .alloc 37 [(.int .i8 0), (.int .i8 0), (.int .i8 0), (.int .i8 0), (.int .i8 0), (.int .i8 0), (.int .i8 0), (.int .i8 0), (.int .i8 0), (.int .i8 0), (.int .i8 0), (.int .i8 0), (.int .i8 0), (.int .i8 0), (.int .i8 0), (.int .i8 0)], none⟩, ⟨(some 7), .mov (.k (.c (.int .u32 0))), none⟩, ⟨(some 8), .mov (.k (.c (.int .i64 0))), none⟩])
  (.seq (.seq (.region [⟨(some 13), .loadN 16 (.t 3), none⟩, ⟨(some 14), .call (.k (.c (.fn 79 []))) [(.t 13)], none⟩, ⟨(some 15), .un .not (.t 14), none⟩])
  (.cond (.t 15) (.seq (.region [⟨(some 16), .build [(.int .i8 0), (.int .i8 0), (.int .i8 0), (.int .i8 0), (.int .i8 0), (.int .i8 0), (.int .i8 0), (.int .i8 0), (.int .i8 0), (.int .i8 0), (.int .i8 0), (.int .i8 0), (.int .i8 0), (.int .i8 0), (.int .i8 0), (.int .i8 0)] [], none⟩, ⟨none, .store 16 (.t 6) (.t 16), none⟩, ⟨(some 7), .mov (.k (.c (.int .u32 0))), none⟩, ⟨(some 8), .mov (.k (.c (.int .i64 1))), none⟩])
  .ret) .skip))
  (.seq (.seq (.region [⟨(some 17), .mov (.t 2), none⟩, ⟨(some 18), .call (.k (.c (.fn 80 []))) [(.t 17), (.k (.c (.int .i64 0))), (.k (.c (.int .i64 200)))], none⟩, ⟨(some 19), .un .not (.t 18), none⟩])
  (.cond (.t 19) (.seq (.region [⟨(some 20), .build [(.int .i8 0), (.int .i8 0), (.int .i8 0), (.int .i8 0), (.int .i8 0), (.int .i8 0), (.int .i8 0), (.int .i8 0), (.int .i8 0), (.int .i8 0), (.int .i8 0), (.int .i8 0), (.int .i8 0), (.int .i8 0), (.int .i8 0), (.int .i8 0)] [], none⟩, ⟨none, .store 16 (.t 6) (.t 20), none⟩, ⟨(some 7), .mov (.k (.c (.int .u32 0))), none⟩, ⟨(some 8), .mov (.k (.c (.int .i64 2))), none⟩])
  .ret) .skip))
  (.seq (.seq (.region [⟨(some 9), .mov (.k (.c (.int .i64 0))), none⟩])
  (.block 0 (.loop l28_0)))
  (.seq (.region [⟨(some 46), .loadN 16 (.t 3), none⟩, ⟨(some 47), .mov (.t 1), none⟩, ⟨none, .store 16 (.t 6) (.t 46), none⟩, ⟨(some 7), .mov (.t 47), none⟩, ⟨(some 8), .mov (.k (.c (.int .i64 0))), none⟩])
  .ret))))), [.cellN 6 16, .tmp 7, .tmp 8], true⟩
theorem c28 : kk 28 = some k28 := by kernel_rfl
/-- loop.example/g01263/impl.OppositeGrain -/
def k29 : KF := ⟨10, (.seq (.region [⟨(some 1), .box 37 (.t 0), none⟩, ⟨(some 2), .alloc 37 [(.int .i8 0), (.int .i8 0), (.int .i8 0), (.int .i8 0), (.int .i8 0), (.int .i8 0), (.int .i8 0), (.int .i8 0), (.int .i8 0), (.int .i8 0), (.int .i8 0), (.int .i8 0), (.int .i8 0), (.int .i8 0), (.int .i8 0), (.int .i8 0)], none⟩, ⟨(some 3), .mov (.k (.c (.int .i64 0))), none⟩])
  (.seq (.seq (.region [⟨(some 4), .loadN 16 (.t 1), none⟩, ⟨(some 5), .call (.k (.c (.fn 30 []))) [(.t 4)], none⟩, ⟨(some 6), .un .not (.t 5), none⟩])
  (.cond (.t 6) (.seq (.region [⟨(some 7), .build [(.int .i8 0), (.int .i8 0), (.int .i8 0), (.int .i8 0), (.int .i8 0), (.int .i8 0), (.int .i8 0), (.int .i8 0), (.int .i8 0), (.int .i8 0), (.int .i8 0), (.int .i8 0), (.int .i8 0), (.int .i8 0), (.int .i8 0), (.int .i8 0)] [], none⟩, ⟨none, .store 16 (.t 2) (.t 7), none⟩, ⟨(some 3), .mov (.k (.c (.int .i64 1))), none⟩])
  .ret) .skip))
  (.seq (.region [⟨(some 8), .loadN 16 (.t 1), none⟩, ⟨(some 9), .call (.k (.c (.fn 82 []))) [(.t 8)], none⟩, ⟨none, .store 16 (.t 2) (.t 9), none⟩, ⟨(some 3), .mov (.k (.c (.int .i64 0))), none⟩])
  .ret))), [.cellN 2 16, .tmp 3], true⟩
theorem c29 : kk 29 = some k29 := by kernel_rfl
/-- loop.example/g01263/impl.ValidGrain -/
def l30_0 : KC := (.seq (.region [⟨(some 7), .bin .lss .int (.t 6) (.k (.c (.int .i64 16))), none⟩])
  (.seq (.cond (.t 7) .skip (.exit 0))
  (.seq (.block 1 (.seq (.region [⟨(some 8), .idx1 16 (.t 5) (.t 6), none⟩, ⟨(some 4), .mov (.t 8), none⟩])
  (.seq (.region [⟨(some 9), .mov (.t 4), none⟩, ⟨(some 10), .bin .lss .int (.t 9) (.k (.c (.int .i8 (-3)))), none⟩, ⟨(some 11), .mov (.t 10), none⟩, ⟨(some 12), .mov (.t 4), some (11, false)⟩, ⟨(some 13), .bin .gtr .int (.t 12) (.k (.c (.int .i8 3))), some (11, false)⟩, ⟨(some 14), .pick (.t 11) (.k (.c (.bool true))) (.t 13), none⟩])
  (.cond (.t 14) (.seq (.region [⟨(some 2), .mov (.k (.c (.bool false))), none⟩])
  .ret) .skip))))
  (.region [⟨(some 15), .bin .add .int (.t 6) (.k (.c (.int .i64 1))), none⟩, ⟨(some 6), .mov (.t 15), none⟩]))))
def k30 : KF := ⟨16, (.seq (.region [⟨(some 1), .box 37 (.t 0), none⟩, ⟨(some 2), .mov (.k (.c (.bool false))), none⟩])
  (.seq (.seq (.region [⟨(some 5), .loadN 16 (.t 1), none⟩, ⟨(some 6), .mov (.k (.c (.int .i64 0))), none⟩])
  (.block 0 (.loop l30_0)))
  (.seq (.region [⟨(some 2), .mov (.k (.c (.bool true))), none⟩])
  .ret))), [.tmp 2], true⟩
theorem c30 : kk 30 = some k30 := by kernel_rfl
/-- loop.example/g01263/impl.WornPlaces -/
def k31 : KF := ⟨17, (.seq (.region [⟨(some 2), .box 37 (.t 0), none⟩, ⟨(some 3), .box 37 (.t 1), none⟩, ⟨(some 4), .mov (.k (.c (.slice none 0 (.exact 0)))), none⟩, ⟨(some 5), .mov (.k (.c (.int .i64 0))), none⟩])
  (.seq (.seq (.region [⟨(some 6), .loadN 16 (.t 2), none⟩, ⟨(some 7), .call (.k (.c (.fn 30 []))) [(.t 6)], none⟩, ⟨(some 8), .un .not (.t 7), none⟩, ⟨(some 9), .mov (.t 8), none⟩, ⟨(some 10), .loadN 16 (.t 3), some (9, false)⟩, ⟨(some 11), .call (.k (.c (.fn 30 []))) [(.t 10)], some (9, false)⟩, ⟨(some 12), .un .not (.t 11), some (9, false)⟩, ⟨(some 13), .pick (.t 9) (.k (.c (.bool true))) (.t 12), none⟩])
  (.cond (.t 13) (.seq (.region [⟨(some 4), .mov (.k (.c (.slice none 0 (.exact 0)))), none⟩, ⟨(some 5), .mov (.k (.c (.int .i64 1))), none⟩])
  .ret) .skip))
  (.seq (.region [⟨(some 14), .loadN 16 (.t 2), none⟩, ⟨(some 15), .loadN 16 (.t 3), none⟩, ⟨(some 16), .call (.k (.c (.fn 83 []))) [(.t 14), (.t 15)], none⟩, ⟨(some 4), .mov (.t 16), none⟩, ⟨(some 5), .mov (.k (.c (.int .i64 0))), none⟩])
  .ret))), [.tmp 4, .tmp 5], false⟩
theorem c31 : kk 31 = some k31 := by kernel_rfl
/-- loop.example/g01263/spec.WornPlaces -/
def k32 : KF := ⟨18, (.seq (.region [⟨(some 2), .box 37 (.t 0), none⟩, ⟨(some 3), .box 37 (.t 1), none⟩, ⟨(some 4), .mov (.k (.c (.slice none 0 (.exact 0)))), none⟩, ⟨(some 5), .mov (.k (.c (.int .i64 0))), none⟩])
  (.seq (.seq (.region [⟨(some 6), .loadN 16 (.t 2), none⟩, ⟨(some 7), .call (.k (.c (.fn 79 []))) [(.t 6)], none⟩, ⟨(some 8), .un .not (.t 7), none⟩, ⟨(some 9), .mov (.t 8), none⟩, ⟨(some 10), .loadN 16 (.t 3), some (9, false)⟩, ⟨(some 11), .call (.k (.c (.fn 79 []))) [(.t 10)], some (9, false)⟩, ⟨(some 12), .un .not (.t 11), some (9, false)⟩, ⟨(some 13), .pick (.t 9) (.k (.c (.bool true))) (.t 12), none⟩])
  (.cond (.t 13) (.seq (.region [⟨(some 14), .buildSl 2 0 [] [], none⟩, ⟨(some 4), .mov (.t 14), none⟩, ⟨(some 5), .mov (.k (.c (.int .i64 1))), none⟩])
  .ret) .skip))
  (.seq (.region [⟨(some 15), .loadN 16 (.t 2), none⟩, ⟨(some 16), .loadN 16 (.t 3), none⟩, ⟨(some 17), .call (.k (.c (.fn 84 []))) [(.t 15), (.t 16)], none⟩, ⟨(some 4), .mov (.t 17), none⟩, ⟨(some 5), .mov (.k (.c (.int .i64 0))), none⟩])
  .ret))), [.tmp 4, .tmp 5], false⟩
theorem c32 : kk 32 = some k32 := by kernel_rfl
/-- loop.example/g01263/spec.SameNumbers -/
def k33 : KF := ⟨8, (.seq (.region [⟨(some 4), .mov (.k (.c (.bool false))), none⟩])
  (.seq (.region [⟨(some 5), .mov (.t 0), none⟩, ⟨(some 6), .mov (.t 1), none⟩, ⟨(some 7), .call (.k (.c (.fn 85 []))) [(.t 5), (.t 6)], none⟩, ⟨(some 4), .mov (.t 7), none⟩])
  .ret)), [.tmp 4], true⟩
theorem c33 : kk 33 = some k33 := by kernel_rfl
/-- loop.example/g01263/spec.l04Small -/
def l74_0 : KC := (.seq (.seq (.region [⟨(some 27), .mov (.t 7), none⟩, ⟨(some 28), .bin .gtr .int (.t 27) (.k (.c (.int .i64 0))), none⟩])
  (.cond (.t 28) .skip (.exit 0)))
  (.seq (.block 1 (.seq (.region [⟨(some 31), .fldA 1 (.t 3), none⟩, ⟨(some 32), .load1 (.t 31), none⟩, ⟨(some 33), .mov (.t 6), none⟩, ⟨(some 34), .mov (.t 5), none⟩, ⟨(some 35), .conv .i16 (.t 34), none⟩, ⟨(some 36), .build [(.int .i8 0), (.int .i16 0)] [(0, 1, (.t 33)), (1, 1, (.t 35))], none⟩, ⟨(some 37), .buildSl 134 1 [(.int .i8 0), (.int .i16 0)] [(0, 2, (.t 36))], none⟩, ⟨(some 38), .app 134 2 4 (.t 32) (.t 37), none⟩, ⟨(some 39), .fldA 1 (.t 3), none⟩, ⟨none, .store 1 (.t 39) (.t 38), none⟩])
  (.seq (.drawn [(⟨(some 40), .mov (.t 5), none⟩, []), (⟨(some 42), .mov (.t 6), none⟩, []), (⟨(some 46), .mov (.t 0), none⟩, []), (⟨(some 41), .call (.k (.c (.fn 118 []))) [], none⟩, []), (⟨(some 43), .idxS 1 (.t 41) (.t 42), none⟩, []), (⟨(some 44), .load1 (.t 43), none⟩, []), (⟨(some 45), .bin .add .int (.t 44) (.k (.c (.int .i64 1))), none⟩, []), (⟨(some 47), .call (.k (.c (.fn 76 []))) [(.t 46), (.k (.c (.int .i64 6)))], none⟩, [⟨(some 44), .load1 (.t 43), none⟩]), (⟨(some 48), .bin .add .int (.t 45) (.t 47), none⟩, []), (⟨(some 49), .bin .add .int (.t 40) (.t 48), none⟩, []), (⟨(some 5), .mov (.t 49), none⟩, [])])
  (.seq (.region [⟨(some 50), .mov (.t 6), none⟩, ⟨(some 51), .bin .gtr .int (.t 50) (.k (.c (.int .i8 0))), none⟩, ⟨(some 52), .mov (.t 51), none⟩, ⟨(some 53), .mov (.t 0), some (52, true)⟩, ⟨(some 54), .call (.k (.c (.fn 116 []))) [(.t 53), (.k (.c (.int .i64 2)))], some (52, true)⟩, ⟨(some 55), .pick (.t 52) (.t 54) (.k (.c (.bool false))), none⟩])
  (.cond (.t 55) (.region [⟨(some 56), .mov (.t 6), none⟩, ⟨(some 57), .bin .sub .int (.t 56) (.k (.c (.int .i8 1))), none⟩, ⟨(some 6), .mov (.t 57), none⟩]) .skip)))))
  (.region [⟨(some 29), .mov (.t 7), none⟩, ⟨(some 30), .bin .sub .int (.t 29) (.k (.c (.int .i64 1))), none⟩, ⟨(some 7), .mov (.t 30), none⟩])))
def k74 : KF := ⟨59, (.seq (.region [⟨(some 2), .alloc 39 [(.bool false), (.slice none 0 (.exact 0)), (.int .i8 0), (.int .i8 0), (.int .i8 0), (.int .i8 0), (.int .i8 0), (.int .i8 0), (.int .i8 0), (.int .i8 0), (.int .i8 0), (.int .i8 0), (.int .i8 0), (.int .i8 0), (.int .i8 0), (.int .i8 0), (.int .i8 0), (.int .i8 0)], none⟩])
  (.seq (.region [⟨(some 8), .mov (.t 0), none⟩, ⟨(some 9), .call (.k (.c (.fn 116 []))) [(.t 8), (.k (.c (.int .i64 2)))], none⟩, ⟨(some 10), .build [(.bool false), (.slice none 0 (.exact 0)), (.int .i8 0), (.int .i8 0), (.int .i8 0), (.int .i8 0), (.int .i8 0), (.int .i8 0), (.int .i8 0), (.int .i8 0), (.int .i8 0), (.int .i8 0), (.int .i8 0), (.int .i8 0), (.int .i8 0), (.int .i8 0), (.int .i8 0), (.int .i8 0)] [(0, 1, (.t 9))], none⟩, ⟨(some 3), .alloc 39 [(.bool false), (.slice none 0 (.exact 0)), (.int .i8 0), (.int .i8 0), (.int .i8 0), (.int .i8 0), (.int .i8 0), (.int .i8 0), (.int .i8 0), (.int .i8 0), (.int .i8 0), (.int .i8 0), (.int .i8 0), (.int .i8 0), (.int .i8 0), (.int .i8 0), (.int .i8 0), (.int .i8 0)], none⟩, ⟨none, .store 18 (.t 3) (.t 10), none⟩])
  (.seq (.region [⟨(some 11), .mov (.t 0), none⟩, ⟨(some 12), .call (.k (.c (.fn 76 []))) [(.t 11), (.k (.c (.int .i64 1073741824)))], none⟩, ⟨(some 13), .conv .u32 (.t 12), none⟩, ⟨(some 4), .mov (.t 13), none⟩])
  (.seq (.region [⟨(some 15), .mov (.t 4), none⟩, ⟨(some 16), .call (.k (.c (.fn 117 []))) [(.t 15)], none⟩, ⟨(some 14), .mov (.t 16), none⟩, ⟨(some 17), .ext (.t 14) 0, none⟩, ⟨(some 18), .ext (.t 14) 1, none⟩, ⟨(some 19), .fldA 2 (.t 3), none⟩, ⟨none, .store 16 (.t 19) (.t 17), none⟩, ⟨(some 4), .mov (.t 18), none⟩])
  (.seq (.region [⟨(some 20), .mov (.t 0), none⟩, ⟨(some 21), .call (.k (.c (.fn 76 []))) [(.t 20), (.k (.c (.int .i64 3)))], none⟩, ⟨(some 5), .mov (.t 21), none⟩])
  (.seq (.region [⟨(some 22), .mov (.t 0), none⟩, ⟨(some 23), .call (.k (.c (.fn 76 []))) [(.t 22), (.k (.c (.int .i64 5)))], none⟩, ⟨(some 24), .conv .i8 (.t 23), none⟩, ⟨(some 6), .mov (.t 24), none⟩])
  (.seq (.seq (.region [⟨(some 25), .mov (.t 0), none⟩, ⟨(some 26), .call (.k (.c (.fn 76 []))) [(.t 25), (.k (.c (.int .i64 6)))], none⟩, ⟨(some 7), .mov (.t 26), none⟩])
  (.block 0 (.loop l74_0)))
  (.seq (.region [⟨(some 58), .loadN 18 (.t 3), none⟩, ⟨none, .store 18 (.t 2) (.t 58), none⟩])
  .ret)))))))), [.cellN 2 18], false⟩
theorem c74 : kk 74 = some k74 := by kernel_rfl
/-- loop.example/g01263/spec.l00From -/
def k75 : KF := ⟨6, (.seq (.region [⟨(some 2), .mov (.k (.c (.ptr none))), none⟩])
  (.seq (.region [⟨(some 3), .mov (.t 0), none⟩, ⟨(some 4), .build [(.slice none 0 (.exact 0)), (.int .i64 0), (.int .u64 0)] [(0, 1, (.t 3))], none⟩, ⟨(some 5), .box 144 (.t 4), none⟩, ⟨(some 2), .mov (.t 5), none⟩])
  .ret)), [.tmp 2], false⟩
theorem c75 : kk 75 = some k75 := by kernel_rfl
/-- (*loop.example/g01263/spec.l00Src).pick -/
def k76 : KF := ⟨20, (.seq (.region [⟨(some 4), .mov (.k (.c (.int .i64 0))), none⟩])
  (.seq (.seq (.region [⟨(some 6), .mov (.t 1), none⟩, ⟨(some 7), .bin .leq .int (.t 6) (.k (.c (.int .i64 1))), none⟩])
  (.cond (.t 7) (.seq (.region [⟨(some 4), .mov (.k (.c (.int .i64 0))), none⟩])
  .ret) .skip))
  (.seq (.region [⟨(some 8), .mov (.t 0), none⟩, ⟨(some 9), .call (.k (.c (.fn 119 []))) [(.t 8)], none⟩, ⟨(some 5), .mov (.t 9), none⟩])
  (.seq (.seq (.region [⟨(some 10), .mov (.t 1), none⟩, ⟨(some 11), .bin .gtr .int (.t 10) (.k (.c (.int .i64 200))), none⟩])
  (.cond (.t 11) (.region [⟨(some 12), .mov (.t 5), none⟩, ⟨(some 13), .bin .mul .int (.t 12) (.k (.c (.int .i64 256))), none⟩, ⟨(some 14), .mov (.t 0), none⟩, ⟨(some 15), .call (.k (.c (.fn 119 []))) [(.t 14)], none⟩, ⟨(some 16), .bin .add .int (.t 13) (.t 15), none⟩, ⟨(some 5), .mov (.t 16), none⟩]) .skip))
  (.seq (.region [⟨(some 17), .mov (.t 5), none⟩, ⟨(some 18), .mov (.t 1), none⟩, ⟨(some 19), .bin .rem .int (.t 17) (.t 18), none⟩, ⟨(some 4), .mov (.t 19), none⟩])
  .ret))))), [.tmp 4], true⟩
theorem c76 : kk 76 = some k76 := by kernel_rfl
/-- loop.example/g01263/impl.nextSeed -/
def k77 : KF := ⟨6, (.seq (.region [⟨(some 2), .mov (.k (.c (.int .u32 0))), none⟩])
  (.seq (.region [⟨(some 3), .mov (.t 0), none⟩, ⟨(some 4), .bin .mul .int (.k (.c (.int .u32 1664525))) (.t 3), none⟩, ⟨(some 5), .bin .add .int (.t 4) (.k (.c (.int .u32 1013904223))), none⟩, ⟨(some 2), .mov (.t 5), none⟩])
  .ret)), [.tmp 2], true⟩
theorem c77 : kk 77 = some k77 := by kernel_rfl
/-- loop.example/g01263/impl.WearGrain -/
def k78 : KF := ⟨41, (.seq (.region [⟨(some 3), .box 37 (.t 0), none⟩, ⟨(some 6), .alloc 37 [(.int .i8 0), (.int .i8 0), (.int .i8 0), (.int .i8 0), (.int .i8 0), (.int .i8 0), (.int .i8 0), (.int .i8 0), (.int .i8 0), (.int .i8 0), (.int .i8 0), (.int .i8 0), (.int .i8 0), (.int .i8 0), (.int .i8 0), (.int .i8 0)], none⟩, ⟨(some 7), .mov (.k (.c (.int .i64 0))), none⟩])
  (.seq (.block 0 (.seq (.region [⟨(some 9), .loadN 16 (.t 3), none⟩, ⟨(some 10), .call (.k (.c (.fn 30 []))) [(.t 9)], none⟩, ⟨(some 11), .un .not (.t 10), none⟩, ⟨(some 8), .mov (.t 11), none⟩])
  (.cond (.t 8) (.seq (.region [⟨(some 12), .build [(.int .i8 0), (.int .i8 0), (.int .i8 0), (.int .i8 0), (.int .i8 0), (.int .i8 0), (.int .i8 0), (.int .i8 0), (.int .i8 0), (.int .i8 0), (.int .i8 0), (.int .i8 0), (.int .i8 0), (.int .i8 0), (.int .i8 0), (.int .i8 0)] [], none⟩, ⟨none, .store 16 (.t 6) (.t 12), none⟩, ⟨(some 7), .mov (.k (.c (.int .i64 1))), none⟩])
  .ret) (.seq (.region [⟨(some 14), .mov (.t 1), none⟩, ⟨(some 15), .bin .lss .int (.t 14) (.k (.c (.int .i64 0))), none⟩, ⟨(some 16), .mov (.t 15), none⟩, ⟨(some 17), .mov (.t 1), some (16, false)⟩, ⟨(some 18), .bin .geq .int (.t 17) (.k (.c (.int .i64 16))), some (16, false)⟩, ⟨(some 19), .pick (.t 16) (.k (.c (.bool true))) (.t 18), none⟩, ⟨(some 20), .mov (.t 19), none⟩, ⟨(some 21), .mov (.t 2), some (20, false)⟩, ⟨(some 22), .bin .neq .int (.t 21) (.k (.c (.int .i64 (-1)))), some (20, false)⟩, ⟨(some 23), .mov (.t 22), some (20, false)⟩, ⟨(some 24), .mov (.t 2), some (23, true)⟩, ⟨(some 25), .bin .neq .int (.t 24) (.k (.c (.int .i64 1))), some (23, true)⟩, ⟨(some 26), .pick (.t 23) (.t 25) (.k (.c (.bool false))), some (20, false)⟩, ⟨(some 27), .pick (.t 20) (.k (.c (.bool true))) (.t 26), none⟩, ⟨(some 13), .mov (.t 27), none⟩])
  (.cond (.t 13) (.seq (.region [⟨(some 28), .build [(.int .i8 0), (.int .i8 0), (.int .i8 0), (.int .i8 0), (.int .i8 0), (.int .i8 0), (.int .i8 0), (.int .i8 0), (.int .i8 0), (.int .i8 0), (.int .i8 0), (.int .i8 0), (.int .i8 0), (.int .i8 0), (.int .i8 0), (.int .i8 0)] [], none⟩, ⟨none, .store 16 (.t 6) (.t 28), none⟩, ⟨(some 7), .mov (.k (.c (.int .i64 2))), none⟩])
  .ret) .skip)))))
  (.seq (.region [⟨(some 29), .mov (.t 1), none⟩, ⟨(some 30), .idxA 16 1 (.t 3) (.t 29), none⟩, ⟨(some 31), .load1 (.t 30), none⟩, ⟨(some 32), .mov (.t 2), none⟩, ⟨(some 33), .conv .i8 (.t 32), none⟩, ⟨(some 34), .bin .add .int (.t 31) (.t 33), none⟩, ⟨(some 35), .idxA 16 1 (.t 3) (.t 29), none⟩, ⟨none, .store 1 (.t 35) (.t 34), none⟩])
  (.seq (.seq (.region [⟨(some 36), .loadN 16 (.t 3), none⟩, ⟨(some 37), .call (.k (.c (.fn 30 []))) [(.t 36)], none⟩, ⟨(some 38), .un .not (.t 37), none⟩])
  (.cond (.t 38) (.seq (.region [⟨(some 39), .build [(.int .i8 0), (.int .i8 0), (.int .i8 0), (.int .i8 0), (.int .i8 0), (.int .i8 0), (.int .i8 0), (.int .i8 0), (.int .i8 0), (.int .i8 0), (.int .i8 0), (.int .i8 0), (.int .i8 0), (.int .i8 0), (.int .i8 0), (.int .i8 0)] [], none⟩, ⟨none, .store 16 (.t 6) (.t 39), none⟩, ⟨(some 7), .mov (.k (.c (.int .i64 4))), none⟩])
  .ret) .skip))
  (.seq (.region [⟨(some 40), .loadN 16 (.t 3), none⟩, ⟨none, .store 16 (.t 6) (.t 40), none⟩, ⟨(some 7), .mov (.k (.c (.int .i64 0))), none⟩])
  .ret))))), [.cellN 6 16, .tmp 7], true⟩
theorem c78 : kk 78 = some k78 := by kernel_rfl
/-- loop.example/g01263/spec.l01Grain -/
def l79_0 : KC := (.seq (.seq (.region [⟨(some 4), .mov (.t 3), none⟩, ⟨(some 5), .bin .lss .int (.t 4) (.k (.c (.int .i64 16))), none⟩])
  (.cond (.t 5) .skip (.exit 0)))
  (.seq (.block 1 (.seq (.region [⟨(some 8), .mov (.t 3), none⟩, ⟨(some 9), .idxA 16 1 (.t 1) (.t 8), none⟩, ⟨(some 10), .load1 (.t 9), none⟩, ⟨(some 11), .bin .lss .int (.t 10) (.k (.c (.int .i8 (-3)))), none⟩, ⟨(some 12), .mov (.t 11), none⟩, ⟨(some 13), .mov (.t 3), some (12, false)⟩, ⟨(some 14), .idxA 16 1 (.t 1) (.t 13), some (12, false)⟩, ⟨(some 15), .load1 (.t 14), some (12, false)⟩, ⟨(some 16), .bin .gtr .int (.t 15) (.k (.c (.int .i8 3))), some (12, false)⟩, ⟨(some 17), .pick (.t 12) (.k (.c (.bool true))) (.t 16), none⟩])
  (.cond (.t 17) (.seq (.region [⟨(some 2), .mov (.k (.c (.bool false))), none⟩])
  .ret) .skip)))
  (.region [⟨(some 6), .mov (.t 3), none⟩, ⟨(some 7), .bin .add .int (.t 6) (.k (.c (.int .i64 1))), none⟩, ⟨(some 3), .mov (.t 7), none⟩])))
def k79 : KF := ⟨18, (.seq (.region [⟨(some 1), .box 37 (.t 0), none⟩, ⟨(some 2), .mov (.k (.c (.bool false))), none⟩])
  (.seq (.seq (.region [⟨(some 3), .mov (.k (.c (.int .i64 0))), none⟩])
  (.block 0 (.loop l79_0)))
  (.seq (.region [⟨(some 2), .mov (.k (.c (.bool true))), none⟩])
  .ret))), [.tmp 2], true⟩
theorem c79 : kk 79 = some k79 := by kernel_rfl
/-- loop.example/g01263/spec.l00In -/
def k80 : KF := ⟨15, (.seq (.region [⟨(some 6), .mov (.k (.c (.bool false))), none⟩])
  (.seq (.region [⟨(some 7), .mov (.t 0), none⟩, ⟨(some 8), .mov (.t 1), none⟩, ⟨(some 9), .bin .geq .int (.t 7) (.t 8), none⟩, ⟨(some 10), .mov (.t 9), none⟩, ⟨(some 11), .mov (.t 0), some (10, true)⟩, ⟨(some 12), .mov (.t 2), some (10, true)⟩, ⟨(some 13), .bin .leq .int (.t 11) (.t 12), some (10, true)⟩, ⟨(some 14), .pick (.t 10) (.t 13) (.k (.c (.bool false))), none⟩, ⟨(some 6), .mov (.t 14), none⟩])
  .ret)), [.tmp 6], true⟩
theorem c80 : kk 80 = some k80 := by kernel_rfl
/-- loop.example/g01263/spec.l04Next -/
def k81 : KF := ⟨6, (.seq (.region [⟨(some 2), .mov (.k (.c (.int .u32 0))), none⟩])
  (.seq (.region [⟨(some 3), .mov (.t 0), none⟩, ⟨(some 4), .bin .mul .int (.k (.c (.int .u32 1664525))) (.t 3), none⟩, ⟨(some 5), .bin .add .int (.t 4) (.k (.c (.int .u32 1013904223))), none⟩, ⟨(some 2), .mov (.t 5), none⟩])
  .ret)), [.tmp 2], true⟩
theorem c81 : kk 81 = some k81 := by kernel_rfl
/-- loop.example/g01263/impl.opposite -/
def l82_0 : KC := (.seq (.region [⟨(some 5), .bin .lss .int (.t 4) (.k (.c (.int .i64 16))), none⟩])
  (.seq (.cond (.t 5) .skip (.exit 0))
  (.seq (.block 1 (.seq (.region [⟨(some 6), .mov (.t 4), none⟩, ⟨(some 3), .mov (.t 6), none⟩])
  (.region [⟨(some 7), .mov (.t 3), none⟩, ⟨(some 8), .mov (.t 3), none⟩, ⟨(some 9), .idxA 16 1 (.t 1) (.t 8), none⟩, ⟨(some 10), .load1 (.t 9), none⟩, ⟨(some 11), .un .neg (.t 10), none⟩, ⟨(some 12), .idxA 16 1 (.t 1) (.t 7), none⟩, ⟨none, .store 1 (.t 12) (.t 11), none⟩])))
  (.region [⟨(some 13), .bin .add .int (.t 4) (.k (.c (.int .i64 1))), none⟩, ⟨(some 4), .mov (.t 13), none⟩]))))
def k82 : KF := ⟨15, (.seq (.region [⟨(some 1), .box 37 (.t 0), none⟩, ⟨(some 2), .alloc 37 [(.int .i8 0), (.int .i8 0), (.int .i8 0), (.int .i8 0), (.int .i8 0), (.int .i8 0), (.int .i8 0), (.int .i8 0), (.int .i8 0), (.int .i8 0), (.int .i8 0), (.int .i8 0), (.int .i8 0), (.int .i8 0), (.int .i8 0), (.int .i8 0)], none⟩])
  (.seq (.seq (.region [⟨(some 4), .mov (.k (.c (.int .i64 0))), none⟩])
  (.block 0 (.loop l82_0)))
  (.seq (.region [⟨(some 14), .loadN 16 (.t 1), none⟩, ⟨none, .store 16 (.t 2) (.t 14), none⟩])
  .ret))), [.cellN 2 16], true⟩
theorem c82 : kk 82 = some k82 := by kernel_rfl
/-- loop.example/g01263/impl.worn -/
def l83_0 : KC := (.seq (.region [⟨(some 9), .bin .lss .int (.t 8) (.k (.c (.int .i64 16))), none⟩])
  (.seq (.cond (.t 9) .skip (.exit 0))
  (.seq (.block 1 (.seq (.region [⟨(some 10), .mov (.t 8), none⟩, ⟨(some 6), .mov (.t 10), none⟩])
  (.seq (.drawn [(⟨(some 11), .mov (.t 6), none⟩, []), (⟨(some 12), .idxA 16 1 (.t 2) (.t 11), none⟩, []), (⟨(some 13), .load1 (.t 12), none⟩, []), (⟨(some 14), .mov (.t 6), none⟩, []), (⟨(some 15), .idxA 16 1 (.t 3) (.t 14), none⟩, []), (⟨(some 16), .load1 (.t 15), none⟩, []), (⟨(some 17), .bin .add .int (.t 13) (.t 16), none⟩, []), (⟨(some 18), .bin .neq .int (.t 17) (.k (.c (.int .i8 0))), none⟩, [])])
  (.cond (.t 18) (.region [⟨(some 19), .mov (.t 5), none⟩, ⟨(some 20), .mov (.t 6), none⟩, ⟨(some 21), .buildSl 2 1 [(.int .i64 0)] [(0, 1, (.t 20))], none⟩, ⟨(some 22), .app 2 1 8 (.t 19) (.t 21), none⟩, ⟨(some 5), .mov (.t 22), none⟩]) .skip))))
  (.region [⟨(some 23), .bin .add .int (.t 8) (.k (.c (.int .i64 1))), none⟩, ⟨(some 8), .mov (.t 23), none⟩]))))
def k83 : KF := ⟨25, (.seq (.region [⟨(some 2), .box 37 (.t 0), none⟩, ⟨(some 3), .box 37 (.t 1), none⟩, ⟨(some 4), .mov (.k (.c (.slice none 0 (.exact 0)))), none⟩])
  (.seq (.region [⟨(some 7), .buildSl 2 0 [] [], none⟩, ⟨(some 5), .mov (.t 7), none⟩])
  (.seq (.seq (.region [⟨(some 8), .mov (.k (.c (.int .i64 0))), none⟩])
  (.block 0 (.loop l83_0)))
  (.seq (.region [⟨(some 24), .mov (.t 5), none⟩, ⟨(some 4), .mov (.t 24), none⟩])
  .ret)))), [.tmp 4], false⟩
theorem c83 : kk 83 = some k83 := by kernel_rfl
/-- loop.example/g01263/spec.l04Worn -/
def l84_0 : KC := (.seq (.seq (.region [⟨(some 8), .mov (.t 6), none⟩, ⟨(some 9), .bin .lss .int (.t 8) (.k (.c (.int .i64 16))), none⟩])
  (.cond (.t 9) .skip (.exit 0)))
  (.seq (.block 1 (.seq (.drawn [(⟨(some 12), .mov (.t 6), none⟩, []), (⟨(some 13), .idxA 16 1 (.t 2) (.t 12), none⟩, []), (⟨(some 14), .load1 (.t 13), none⟩, []), (⟨(some 15), .mov (.t 6), none⟩, []), (⟨(some 16), .idxA 16 1 (.t 3) (.t 15), none⟩, []), (⟨(some 17), .load1 (.t 16), none⟩, []), (⟨(some 18), .bin .add .int (.t 14) (.t 17), none⟩, []), (⟨(some 19), .bin .neq .int (.t 18) (.k (.c (.int .i8 0))), none⟩, [])])
  (.cond (.t 19) (.region [⟨(some 20), .mov (.t 5), none⟩, ⟨(some 21), .mov (.t 6), none⟩, ⟨(some 22), .buildSl 2 1 [(.int .i64 0)] [(0, 1, (.t 21))], none⟩, ⟨(some 23), .app 2 1 8 (.t 20) (.t 22), none⟩, ⟨(some 5), .mov (.t 23), none⟩]) .skip)))
  (.region [⟨(some 10), .mov (.t 6), none⟩, ⟨(some 11), .bin .add .int (.t 10) (.k (.c (.int .i64 1))), none⟩, ⟨(some 6), .mov (.t 11), none⟩])))
def k84 : KF := ⟨25, (.seq (.region [⟨(some 2), .box 37 (.t 0), none⟩, ⟨(some 3), .box 37 (.t 1), none⟩, ⟨(some 4), .mov (.k (.c (.slice none 0 (.exact 0)))), none⟩])
  (.seq (.region [⟨(some 7), .buildSl 2 0 [] [], none⟩, ⟨(some 5), .mov (.t 7), none⟩])
  (.seq (.seq (.region [⟨(some 6), .mov (.k (.c (.int .i64 0))), none⟩])
  (.block 0 (.loop l84_0)))
  (.seq (.region [⟨(some 24), .mov (.t 5), none⟩, ⟨(some 4), .mov (.t 24), none⟩])
  .ret)))), [.tmp 4], false⟩
theorem c84 : kk 84 = some k84 := by kernel_rfl
/-- loop.example/g01263/spec.l00Same -/
def l85_0 : KC := (.seq (.seq (.region [⟨(some 11), .mov (.t 5), none⟩, ⟨(some 12), .mov (.t 0), none⟩, ⟨(some 13), .len false (.t 12), none⟩, ⟨(some 14), .bin .lss .int (.t 11) (.t 13), none⟩])
  (.cond (.t 14) .skip (.exit 0)))
  (.seq (.block 1 (.seq (.drawn [(⟨(some 17), .mov (.t 0), none⟩, []), (⟨(some 18), .mov (.t 5), none⟩, []), (⟨(some 19), .idxS 1 (.t 17) (.t 18), none⟩, []), (⟨(some 20), .load1 (.t 19), none⟩, []), (⟨(some 21), .mov (.t 1), none⟩, []), (⟨(some 22), .mov (.t 5), none⟩, []), (⟨(some 23), .idxS 1 (.t 21) (.t 22), none⟩, []), (⟨(some 24), .load1 (.t 23), none⟩, []), (⟨(some 25), .bin .neq .int (.t 20) (.t 24), none⟩, [])])
  (.cond (.t 25) (.seq (.region [⟨(some 4), .mov (.k (.c (.bool false))), none⟩])
  .ret) .skip)))
  (.region [⟨(some 15), .mov (.t 5), none⟩, ⟨(some 16), .bin .add .int (.t 15) (.k (.c (.int .i64 1))), none⟩, ⟨(some 5), .mov (.t 16), none⟩])))
def k85 : KF := ⟨26, (.seq (.region [⟨(some 4), .mov (.k (.c (.bool false))), none⟩])
  (.seq (.seq (.region [⟨(some 6), .mov (.t 0), none⟩, ⟨(some 7), .len false (.t 6), none⟩, ⟨(some 8), .mov (.t 1), none⟩, ⟨(some 9), .len false (.t 8), none⟩, ⟨(some 10), .bin .neq .int (.t 7) (.t 9), none⟩])
  (.cond (.t 10) (.seq (.region [⟨(some 4), .mov (.k (.c (.bool false))), none⟩])
  .ret) .skip))
  (.seq (.seq (.region [⟨(some 5), .mov (.k (.c (.int .i64 0))), none⟩])
  (.block 0 (.loop l85_0)))
  (.seq (.region [⟨(some 4), .mov (.k (.c (.bool true))), none⟩])
  .ret)))), [.tmp 4], true⟩
theorem c85 : kk 85 = some k85 := by kernel_rfl
/-- (*loop.example/g01263/spec.l00Src).one -/
def k116 : KF := ⟨9, (.seq (.region [⟨(some 4), .mov (.k (.c (.bool false))), none⟩])
  (.seq (.region [⟨(some 5), .mov (.t 0), none⟩, ⟨(some 6), .mov (.t 1), none⟩, ⟨(some 7), .call (.k (.c (.fn 76 []))) [(.t 5), (.t 6)], none⟩, ⟨(some 8), .bin .eql .int (.t 7) (.k (.c (.int .i64 0))), none⟩, ⟨(some 4), .mov (.t 8), none⟩])
  .ret)), [.tmp 4], true⟩
theorem c116 : kk 116 = some k116 := by kernel_rfl
/-- loop.example/g01263/spec.GrainFrom -/
def l117_0 : KC := (.seq (.seq (.region [⟨(some 7), .mov (.t 5), none⟩, ⟨(some 8), .bin .lss .int (.t 7) (.k (.c (.int .i64 16))), none⟩])
  (.cond (.t 8) .skip (.exit 0)))
  (.seq (.block 1 (.seq (.region [⟨(some 11), .mov (.t 0), none⟩, ⟨(some 12), .bin .mul .int (.k (.c (.int .u32 1664525))) (.t 11), none⟩, ⟨(some 13), .bin .add .int (.t 12) (.k (.c (.int .u32 1013904223))), none⟩, ⟨(some 0), .mov (.t 13), none⟩])
  (.region [⟨(some 14), .mov (.t 5), none⟩, ⟨(some 15), .mov (.t 0), none⟩, ⟨(some 16), .bin .quo .int (.t 15) (.k (.c (.int .u32 65536))), none⟩, ⟨(some 17), .bin .rem .int (.t 16) (.k (.c (.int .u32 7))), none⟩, ⟨(some 18), .conv .i8 (.t 17), none⟩, ⟨(some 19), .bin .sub .int (.t 18) (.k (.c (.int .i8 3))), none⟩, ⟨(some 20), .idxA 16 1 (.t 4) (.t 14), none⟩, ⟨none, .store 1 (.t 20) (.t 19), none⟩])))
  (.region [⟨(some 9), .mov (.t 5), none⟩, ⟨(some 10), .bin .add .int (.t 9) (.k (.c (.int .i64 1))), none⟩, ⟨(some 5), .mov (.t 10), none⟩])))
def k117 : KF := ⟨23, (.seq (.region [⟨(some 2), .alloc 37 [(.int .i8 0), (.int .i8 0), (.int .i8 0), (.int .i8 0), (.int .i8 0), (.int .i8 0), (.int .i8 0), (.int .i8 0), (.int .i8 0), (.int .i8 0), (.int .i8 0), (.int .i8 0), (.int .i8 0), (.int .i8 0), (.int .i8 0), (.int .i8 0)], none⟩, ⟨(some 3), .mov (.k (.c (.int .u32 0))), none⟩])
  (.seq (.region [⟨(some 6), .build [(.int .i8 0), (.int .i8 0), (.int .i8 0), (.int .i8 0), (.int .i8 0), (.int .i8 0), (.int .i8 0), (.int .i8 0), (.int .i8 0), (.int .i8 0), (.int .i8 0), (.int .i8 0), (.int .i8 0), (.int .i8 0), (.int .i8 0), (.int .i8 0)] [], none⟩, ⟨(some 4), .alloc 37 [(.int .i8 0), (.int .i8 0), (.int .i8 0), (.int .i8 0), (.int .i8 0), (.int .i8 0), (.int .i8 0), (.int .i8 0), (.int .i8 0), (.int .i8 0), (.int .i8 0), (.int .i8 0), (.int .i8 0), (.int .i8 0), (.int .i8 0), (.int .i8 0)], none⟩, ⟨none, .store 16 (.t 4) (.t 6), none⟩])
  (.seq (.seq (.region [⟨(some 5), .mov (.k (.c (.int .i64 0))), none⟩])
  (.block 0 (.loop l117_0)))
  (.seq (.region [⟨(some 21), .loadN 16 (.t 4), none⟩, ⟨(some 22), .mov (.t 0), none⟩, ⟨none, .store 16 (.t 2) (.t 21), none⟩, ⟨(some 3), .mov (.t 22), none⟩])
  .ret)))), [.cellN 2 16, .tmp 3], true⟩
theorem c117 : kk 117 = some k117 := by kernel_rfl
/-- loop.example/g01263/spec.l01Widths -/
def k118 : KF := ⟨2, (.seq (.region [⟨(some 0), .mov (.k (.c (.slice none 0 (.exact 0)))), none⟩])
  (.seq (.region [⟨(some 1), .buildSl 2 6 [(.int .i64 0), (.int .i64 0), (.int .i64 0), (.int .i64 0), (.int .i64 0), (.int .i64 0)] [(0, 1, (.k (.c (.int .i64 1)))), (1, 1, (.k (.c (.int .i64 2)))), (2, 1, (.k (.c (.int .i64 4)))), (3, 1, (.k (.c (.int .i64 6)))), (4, 1, (.k (.c (.int .i64 9)))), (5, 1, (.k (.c (.int .i64 12))))], none⟩, ⟨(some 0), .mov (.t 1), none⟩])
  .ret)), [.tmp 0], false⟩
theorem c118 : kk 118 = some k118 := by kernel_rfl
/-- (*loop.example/g01263/spec.l00Src).next -/
def k119 : KF := ⟨62, (.seq (.region [⟨(some 2), .mov (.k (.c (.int .i64 0))), none⟩])
  (.seq (.region [⟨(some 3), .mov (.k (.c (.int .i64 0))), none⟩])
  (.seq (.seq (.drawn [(⟨(some 4), .mov (.t 0), none⟩, []), (⟨(some 5), .nilchk (.t 4), none⟩, []), (⟨(some 6), .fldA 1 (.t 5), none⟩, []), (⟨(some 7), .load1 (.t 6), none⟩, []), (⟨(some 8), .mov (.t 0), none⟩, []), (⟨(some 9), .nilchk (.t 8), none⟩, []), (⟨(some 10), .fldA 0 (.t 9), none⟩, []), (⟨(some 11), .load1 (.t 10), none⟩, []), (⟨(some 12), .len false (.t 11), none⟩, []), (⟨(some 13), .bin .lss .int (.t 7) (.t 12), none⟩, [])])
  (.cond (.t 13) (.drawn [(⟨(some 14), .mov (.t 0), none⟩, []), (⟨(some 15), .nilchk (.t 14), none⟩, []), (⟨(some 16), .fldA 0 (.t 15), none⟩, []), (⟨(some 17), .load1 (.t 16), none⟩, []), (⟨(some 18), .mov (.t 0), none⟩, []), (⟨(some 19), .nilchk (.t 18), none⟩, []), (⟨(some 20), .fldA 1 (.t 19), none⟩, []), (⟨(some 21), .load1 (.t 20), none⟩, []), (⟨(some 22), .idxS 1 (.t 17) (.t 21), none⟩, []), (⟨(some 23), .load1 (.t 22), none⟩, []), (⟨(some 24), .conv .i64 (.t 23), none⟩, []), (⟨(some 3), .mov (.t 24), none⟩, [])]) .skip))
  (.seq (.region [⟨(some 25), .mov (.t 0), none⟩, ⟨(some 26), .nilchk (.t 25), none⟩, ⟨(some 27), .fldA 1 (.t 26), none⟩, ⟨(some 28), .load1 (.t 27), none⟩, ⟨(some 29), .bin .add .int (.t 28) (.k (.c (.int .i64 1))), none⟩, ⟨(some 30), .nilchk (.t 25), none⟩, ⟨(some 31), .fldA 1 (.t 30), none⟩, ⟨none, .store 1 (.t 31) (.t 29), none⟩])
  (.seq (.region [⟨(some 32), .mov (.t 0), none⟩, ⟨(some 33), .mov (.t 0), none⟩, ⟨(some 34), .nilchk (.t 33), none⟩, ⟨(some 35), .fldA 2 (.t 34), none⟩, ⟨(some 36), .load1 (.t 35), none⟩, ⟨(some 37), .bin .mul .int (.t 36) (.k (.c (.int .u64 6364136223846793005))), none⟩, ⟨(some 38), .mov (.t 3), none⟩, ⟨(some 39), .conv .u64 (.t 38), none⟩, ⟨(some 40), .bin .add .int (.t 37) (.t 39), none⟩, ⟨(some 41), .bin .add .int (.t 40) (.k (.c (.int .u64 1442695040888963407))), none⟩, ⟨(some 42), .nilchk (.t 32), none⟩, ⟨(some 43), .fldA 2 (.t 42), none⟩, ⟨none, .store 1 (.t 43) (.t 41), none⟩])
  (.seq (.seq (.drawn [(⟨(some 44), .mov (.t 0), none⟩, []), (⟨(some 45), .nilchk (.t 44), none⟩, []), (⟨(some 46), .fldA 1 (.t 45), none⟩, []), (⟨(some 47), .load1 (.t 46), none⟩, []), (⟨(some 48), .mov (.t 0), none⟩, []), (⟨(some 49), .nilchk (.t 48), none⟩, []), (⟨(some 50), .fldA 0 (.t 49), none⟩, []), (⟨(some 51), .load1 (.t 50), none⟩, []), (⟨(some 52), .len false (.t 51), none⟩, []), (⟨(some 53), .bin .leq .int (.t 47) (.t 52), none⟩, [])])
  (.cond (.t 53) (.seq (.region [⟨(some 54), .mov (.t 3), none⟩, ⟨(some 2), .mov (.t 54), none⟩])
  .ret) .skip))
  (.seq (.region [⟨(some 55), .mov (.t 0), none⟩, ⟨(some 56), .nilchk (.t 55), none⟩, ⟨(some 57), .fldA 2 (.t 56), none⟩, ⟨(some 58), .load1 (.t 57), none⟩, ⟨(some 59), .bin .shr .int (.t 58) (.k (.c (.int .u64 40))), none⟩, ⟨(some 60), .bin .and .int (.t 59) (.k (.c (.int .u64 255))), none⟩, ⟨(some 61), .conv .i64 (.t 60), none⟩, ⟨(some 2), .mov (.t 61), none⟩])
  .ret))))))), [.tmp 2], true⟩
theorem c119 : kk 119 = some k119 := by kernel_rfl
end Go.Proofs.Ytlidldkelkihlaa
