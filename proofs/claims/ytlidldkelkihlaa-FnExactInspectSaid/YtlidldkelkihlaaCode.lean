/- What functions of the program answer: part Code. -/
import Derived.Test.YtlidldkelkihlaaViEv
import Derived.Test.YtlidldkelkihlaaViComp
import Derived.Test.YtlidldkelkihlaaChecked
import Derived.KernelRfl
set_option linter.unusedVariables false
set_option linter.unusedSimpArgs false
set_option linter.unusedSectionVars false
namespace Go.Proofs.Ytlidldkelkihlaa
open Go Go.Proofs.Ytlidldkelkihlaa.VI
noncomputable def kk : FuncId → Option KF := fun f => cFunc Try.prog (!([20, 25, 31, 32, 40, 47, 48, 56, 57, 68, 74, 75, 83, 84, 96, 97, 104, 105, 108, 118, 125, 127, 129, 131, 132, 134, 135, 136] : List Nat).contains f) f
/-- loop.example/g01263/laws.FnExactCountWood -/
def k3 : KF := ⟨14, (.seq (.region [⟨(some 1), .box 23 (.t 0), none⟩, ⟨(some 2), .mov (.k (.c (.bool false))), none⟩])
  (.seq (.region [⟨(some 5), .loadN 4 (.t 1), none⟩, ⟨(some 6), .call (.k (.c (.fn 16 []))) [(.t 5)], none⟩, ⟨(some 7), .call (.k (.c (.fn 15 []))) [(.t 6)], none⟩, ⟨(some 3), .mov (.t 7), none⟩])
  (.seq (.region [⟨(some 8), .loadN 4 (.t 1), none⟩, ⟨(some 9), .call (.k (.c (.fn 16 []))) [(.t 8)], none⟩, ⟨(some 10), .call (.k (.c (.fn 17 []))) [(.t 9)], none⟩, ⟨(some 4), .mov (.t 10), none⟩])
  (.seq (.seq (.region [⟨(some 11), .mov (.t 4), none⟩, ⟨(some 12), .mov (.t 3), none⟩, ⟨(some 13), .bin .neq .int (.t 11) (.t 12), none⟩])
  (.cond (.t 13) (.seq (.region [⟨(some 2), .mov (.k (.c (.bool false))), none⟩])
  .ret) .skip))
  (.seq (.region [⟨(some 2), .mov (.k (.c (.bool true))), none⟩])
  .ret))))), [.tmp 2], true⟩
theorem c3 : kk 3 = some k3 := by kernel_rfl
/-- loop.example/g01263/laws.FnExactWoodOf -/
def k4 : KF := ⟨41, (.seq (.region [⟨(some 1), .box 32 (.t 0), none⟩, ⟨(some 2), .mov (.k (.c (.bool false))), none⟩])
  (.seq (.region [⟨(some 3), .mov (.k (.c (.int .i64 1048576))), none⟩])
  (.seq (.region [⟨(some 9), .loadN 18 (.t 1), none⟩, ⟨(some 10), .mov (.t 3), none⟩, ⟨(some 11), .call (.k (.c (.fn 18 []))) [(.t 9), (.t 10)], none⟩, ⟨(some 3), .mov (.t 11), none⟩])
  (.seq (.seq (.region [⟨(some 12), .mov (.t 3), none⟩, ⟨(some 13), .bin .lss .int (.t 12) (.k (.c (.int .i64 0))), none⟩])
  (.cond (.t 13) (.seq (.region [⟨(some 2), .mov (.k (.c (.bool true))), none⟩])
  .ret) .skip))
  (.seq (.region [⟨(some 15), .loadN 18 (.t 1), none⟩, ⟨(some 16), .call (.k (.c (.fn 20 []))) [(.t 15)], none⟩, ⟨(some 17), .call (.k (.c (.fn 19 []))) [(.t 16)], none⟩, ⟨(some 14), .mov (.t 17), none⟩, ⟨(some 18), .ext (.t 14) 0, none⟩, ⟨(some 19), .ext (.t 14) 1, none⟩, ⟨(some 4), .alloc 25 [(.int .u64 0), (.int .u64 0), (.int .u64 0), (.int .u64 0)], none⟩, ⟨none, .store 4 (.t 4) (.t 18), none⟩, ⟨(some 5), .mov (.t 19), none⟩])
  (.seq (.region [⟨(some 20), .loadN 18 (.t 1), none⟩, ⟨(some 21), .call (.k (.c (.fn 20 []))) [(.t 20)], none⟩, ⟨(some 6), .alloc 39 [(.bool false), (.slice none 0 (.exact 0)), (.int .i8 0), (.int .i8 0), (.int .i8 0), (.int .i8 0), (.int .i8 0), (.int .i8 0), (.int .i8 0), (.int .i8 0), (.int .i8 0), (.int .i8 0), (.int .i8 0), (.int .i8 0), (.int .i8 0), (.int .i8 0), (.int .i8 0), (.int .i8 0)], none⟩, ⟨none, .store 18 (.t 6) (.t 21), none⟩])
  (.seq (.region [⟨(some 23), .loadN 18 (.t 6), none⟩, ⟨(some 24), .call (.k (.c (.fn 21 []))) [(.t 23)], none⟩, ⟨(some 22), .mov (.t 24), none⟩, ⟨(some 25), .ext (.t 22) 0, none⟩, ⟨(some 26), .ext (.t 22) 1, none⟩, ⟨(some 7), .alloc 25 [(.int .u64 0), (.int .u64 0), (.int .u64 0), (.int .u64 0)], none⟩, ⟨none, .store 4 (.t 7) (.t 25), none⟩, ⟨(some 8), .mov (.t 26), none⟩])
  (.seq (.seq (.region [⟨(some 27), .loadN 4 (.t 7), none⟩, ⟨(some 28), .loadN 4 (.t 4), none⟩, ⟨(some 29), .call (.k (.c (.fn 22 []))) [(.t 27), (.t 28)], none⟩, ⟨(some 30), .un .not (.t 29), none⟩, ⟨(some 31), .mov (.t 30), none⟩, ⟨(some 32), .mov (.t 8), some (31, false)⟩, ⟨(some 33), .mov (.t 5), some (31, false)⟩, ⟨(some 34), .bin .neq .int (.t 32) (.t 33), some (31, false)⟩, ⟨(some 35), .pick (.t 31) (.k (.c (.bool true))) (.t 34), none⟩])
  (.cond (.t 35) (.seq (.region [⟨(some 2), .mov (.k (.c (.bool false))), none⟩])
  .ret) .skip))
  (.seq (.seq (.drawn [(⟨(some 36), .loadN 18 (.t 6), none⟩, []), (⟨(some 37), .loadN 18 (.t 1), none⟩, []), (⟨(some 38), .call (.k (.c (.fn 20 []))) [(.t 37)], none⟩, [⟨(some 36), .loadN 18 (.t 6), none⟩]), (⟨(some 39), .call (.k (.c (.fn 23 []))) [(.t 36), (.t 38)], none⟩, []), (⟨(some 40), .un .not (.t 39), none⟩, [])])
  (.cond (.t 40) (.seq (.region [⟨(some 2), .mov (.k (.c (.bool false))), none⟩])
  .ret) .skip))
  (.seq (.region [⟨(some 2), .mov (.k (.c (.bool true))), none⟩])
  .ret)))))))))), [.tmp 2], true⟩
theorem c4 : kk 4 = some k4 := by kernel_rfl
/-- loop.example/g01263/laws.FnWorn -/
def l5_0 : KC := (.seq (.seq (.region [⟨(some 83), .mov (.t 16), none⟩, ⟨(some 84), .bin .lss .int (.t 83) (.k (.c (.int .i64 16))), none⟩])
  (.cond (.t 84) .skip (.exit 0)))
  (.seq (.block 1 (.seq (.drawn [(⟨(some 87), .mov (.t 16), none⟩, []), (⟨(some 88), .idxA 16 1 (.t 10) (.t 87), none⟩, []), (⟨(some 89), .load1 (.t 88), none⟩, []), (⟨(some 90), .conv .i64 (.t 89), none⟩, []), (⟨(some 91), .mov (.t 16), none⟩, []), (⟨(some 92), .fldA 2 (.t 5), none⟩, []), (⟨(some 93), .idxA 16 1 (.t 92) (.t 91), none⟩, []), (⟨(some 94), .load1 (.t 93), none⟩, []), (⟨(some 95), .conv .i64 (.t 94), none⟩, []), (⟨(some 96), .bin .sub .int (.t 90) (.t 95), none⟩, []), (⟨(some 17), .mov (.t 96), none⟩, [])])
  (.region [⟨(some 97), .mov (.t 15), none⟩, ⟨(some 98), .mov (.t 17), none⟩, ⟨(some 99), .mov (.t 17), none⟩, ⟨(some 100), .un .neg (.t 99), none⟩, ⟨(some 101), .max [(.t 98), (.t 100)], none⟩, ⟨(some 102), .bin .add .int (.t 97) (.t 101), none⟩, ⟨(some 15), .mov (.t 102), none⟩])))
  (.region [⟨(some 85), .mov (.t 16), none⟩, ⟨(some 86), .bin .add .int (.t 85) (.k (.c (.int .i64 1))), none⟩, ⟨(some 16), .mov (.t 86), none⟩])))
def l5_1 : KC := (.seq (.seq (.region [⟨(some 143), .mov (.t 24), none⟩, ⟨(some 144), .mov (.t 20), none⟩, ⟨(some 145), .len false (.t 144), none⟩, ⟨(some 146), .bin .lss .int (.t 143) (.t 145), none⟩])
  (.cond (.t 146) .skip (.exit 4)))
  (.seq (.block 5 (.region [⟨(some 149), .mov (.t 23), none⟩, ⟨(some 150), .mov (.t 149), none⟩, ⟨(some 151), .mov (.t 20), some (150, false)⟩, ⟨(some 152), .mov (.t 24), some (150, false)⟩, ⟨(some 153), .idxS 1 (.t 151) (.t 152), some (150, false)⟩, ⟨(some 154), .load1 (.t 153), some (150, false)⟩, ⟨(some 155), .mov (.t 22), some (150, false)⟩, ⟨(some 156), .bin .eql .int (.t 154) (.t 155), some (150, false)⟩, ⟨(some 157), .pick (.t 150) (.k (.c (.bool true))) (.t 156), none⟩, ⟨(some 23), .mov (.t 157), none⟩]))
  (.region [⟨(some 147), .mov (.t 24), none⟩, ⟨(some 148), .bin .add .int (.t 147) (.k (.c (.int .i64 1))), none⟩, ⟨(some 24), .mov (.t 148), none⟩])))
def l5_2 : KC := (.seq (.seq (.region [⟨(some 139), .mov (.t 22), none⟩, ⟨(some 140), .bin .lss .int (.t 139) (.k (.c (.int .i64 16))), none⟩])
  (.cond (.t 140) .skip (.exit 2)))
  (.seq (.block 3 (.seq (.region [⟨(some 23), .mov (.k (.c (.bool false))), none⟩])
  (.seq (.seq (.region [⟨(some 24), .mov (.k (.c (.int .i64 0))), none⟩])
  (.block 4 (.loop l5_1)))
  (.seq (.drawn [(⟨(some 158), .mov (.t 23), none⟩, []), (⟨(some 159), .mov (.t 22), none⟩, []), (⟨(some 160), .idxA 16 1 (.t 10) (.t 159), none⟩, []), (⟨(some 161), .load1 (.t 160), none⟩, []), (⟨(some 162), .mov (.t 22), none⟩, []), (⟨(some 163), .fldA 2 (.t 5), none⟩, []), (⟨(some 164), .idxA 16 1 (.t 163) (.t 162), none⟩, []), (⟨(some 165), .load1 (.t 164), none⟩, []), (⟨(some 166), .bin .neq .int (.t 161) (.t 165), none⟩, []), (⟨(some 167), .bin .neq .bool (.t 158) (.t 166), none⟩, [])])
  (.cond (.t 167) (.seq (.region [⟨(some 4), .mov (.k (.c (.bool false))), none⟩])
  .ret) .skip)))))
  (.region [⟨(some 141), .mov (.t 22), none⟩, ⟨(some 142), .bin .add .int (.t 141) (.k (.c (.int .i64 1))), none⟩, ⟨(some 22), .mov (.t 142), none⟩])))
def k5 : KF := ⟨168, (.seq (.region [⟨(some 4), .mov (.k (.c (.bool false))), none⟩])
  (.seq (.seq (.region [⟨(some 25), .mov (.t 0), none⟩, ⟨(some 26), .call (.k (.c (.fn 24 []))) [(.t 25)], none⟩, ⟨(some 27), .mov (.t 26), none⟩, ⟨(some 28), .mov (.t 1), some (27, false)⟩, ⟨(some 29), .call (.k (.c (.fn 24 []))) [(.t 28)], some (27, false)⟩, ⟨(some 30), .pick (.t 27) (.k (.c (.bool true))) (.t 29), none⟩])
  (.cond (.t 30) (.seq (.region [⟨(some 4), .mov (.k (.c (.bool true))), none⟩])
  .ret) .skip))
  (.seq (.region [⟨(some 31), .mov (.t 0), none⟩, ⟨(some 32), .call (.k (.c (.fn 25 []))) [(.t 31)], none⟩, ⟨(some 5), .alloc 39 [(.bool false), (.slice none 0 (.exact 0)), (.int .i8 0), (.int .i8 0), (.int .i8 0), (.int .i8 0), (.int .i8 0), (.int .i8 0), (.int .i8 0), (.int .i8 0), (.int .i8 0), (.int .i8 0), (.int .i8 0), (.int .i8 0), (.int .i8 0), (.int .i8 0), (.int .i8 0), (.int .i8 0)], none⟩, ⟨none, .store 18 (.t 5) (.t 32), none⟩])
  (.seq (.region [⟨(some 33), .mov (.t 1), none⟩, ⟨(some 34), .call (.k (.c (.fn 26 []))) [(.t 33), (.k (.c (.int .i64 30)))], none⟩, ⟨(some 6), .mov (.t 34), none⟩])
  (.seq (.region [⟨(some 36), .fldA 2 (.t 5), none⟩, ⟨(some 37), .loadN 16 (.t 36), none⟩, ⟨(some 38), .mov (.t 6), none⟩, ⟨(some 39), .call (.k (.c (.fn 27 []))) [(.t 37), (.k (.c (.int .u32 11))), (.t 38)], none⟩, ⟨(some 35), .mov (.t 39), none⟩, ⟨(some 40), .ext (.t 35) 0, none⟩, ⟨(some 41), .ext (.t 35) 1, none⟩, ⟨(some 42), .ext (.t 35) 2, none⟩, ⟨(some 7), .alloc 37 [(.int .i8 0), (.int .i8 0), (.int .i8 0), (.int .i8 0), (.int .i8 0), (.int .i8 0), (.int .i8 0), (.int .i8 0), (.int .i8 0), (.int .i8 0), (.int .i8 0), (.int .i8 0), (.int .i8 0), (.int .i8 0), (.int .i8 0), (.int .i8 0)], none⟩, ⟨none, .store 16 (.t 7) (.t 40), none⟩, ⟨(some 8), .mov (.t 41), none⟩, ⟨(some 9), .mov (.t 42), none⟩])
  (.seq (.region [⟨(some 44), .fldA 2 (.t 5), none⟩, ⟨(some 45), .loadN 16 (.t 44), none⟩, ⟨(some 46), .mov (.t 6), none⟩, ⟨(some 47), .call (.k (.c (.fn 28 []))) [(.t 45), (.k (.c (.int .u32 11))), (.t 46)], none⟩, ⟨(some 43), .mov (.t 47), none⟩, ⟨(some 48), .ext (.t 43) 0, none⟩, ⟨(some 49), .ext (.t 43) 1, none⟩, ⟨(some 50), .ext (.t 43) 2, none⟩, ⟨(some 10), .alloc 37 [(.int .i8 0), (.int .i8 0), (.int .i8 0), (.int .i8 0), (.int .i8 0), (.int .i8 0), (.int .i8 0), (.int .i8 0), (.int .i8 0), (.int .i8 0), (.int .i8 0), (.int .i8 0), (.int .i8 0), (.int .i8 0), (.int .i8 0), (.int .i8 0)], none⟩, ⟨none, .store 16 (.t 10) (.t 48), none⟩, ⟨(some 11), .mov (.t 49), none⟩, ⟨(some 12), .mov (.t 50), none⟩])
  (.seq (.region [⟨(some 52), .fldA 2 (.t 5), none⟩, ⟨(some 53), .loadN 16 (.t 52), none⟩, ⟨(some 54), .call (.k (.c (.fn 29 []))) [(.t 53)], none⟩, ⟨(some 51), .mov (.t 54), none⟩, ⟨(some 55), .ext (.t 51) 0, none⟩, ⟨(some 56), .ext (.t 51) 1, none⟩, ⟨(some 13), .alloc 37 [(.int .i8 0), (.int .i8 0), (.int .i8 0), (.int .i8 0), (.int .i8 0), (.int .i8 0), (.int .i8 0), (.int .i8 0), (.int .i8 0), (.int .i8 0), (.int .i8 0), (.int .i8 0), (.int .i8 0), (.int .i8 0), (.int .i8 0), (.int .i8 0)], none⟩, ⟨none, .store 16 (.t 13) (.t 55), none⟩, ⟨(some 14), .mov (.t 56), none⟩])
  (.seq (.seq (.region [⟨(some 57), .mov (.t 9), none⟩, ⟨(some 58), .mov (.t 12), none⟩, ⟨(some 59), .bin .neq .int (.t 57) (.t 58), none⟩, ⟨(some 60), .mov (.t 59), none⟩, ⟨(some 61), .mov (.t 9), some (60, false)⟩, ⟨(some 62), .bin .neq .int (.t 61) (.k (.c (.int .i64 0))), some (60, false)⟩, ⟨(some 63), .pick (.t 60) (.k (.c (.bool true))) (.t 62), none⟩, ⟨(some 64), .mov (.t 63), none⟩, ⟨(some 65), .loadN 16 (.t 7), some (64, false)⟩, ⟨(some 66), .loadN 16 (.t 10), some (64, false)⟩, ⟨(some 67), .bin .neq (.agg [.int, .int, .int, .int, .int, .int, .int, .int, .int, .int, .int, .int, .int, .int, .int, .int]) (.t 65) (.t 66), some (64, false)⟩, ⟨(some 68), .pick (.t 64) (.k (.c (.bool true))) (.t 67), none⟩, ⟨(some 69), .mov (.t 68), none⟩, ⟨(some 70), .mov (.t 8), some (69, false)⟩, ⟨(some 71), .mov (.t 11), some (69, false)⟩, ⟨(some 72), .bin .neq .int (.t 70) (.t 71), some (69, false)⟩, ⟨(some 73), .pick (.t 69) (.k (.c (.bool true))) (.t 72), none⟩, ⟨(some 74), .mov (.t 73), none⟩, ⟨(some 75), .mov (.t 14), some (74, false)⟩, ⟨(some 76), .bin .neq .int (.t 75) (.k (.c (.int .i64 0))), some (74, false)⟩, ⟨(some 77), .pick (.t 74) (.k (.c (.bool true))) (.t 76), none⟩, ⟨(some 78), .mov (.t 77), none⟩, ⟨(some 79), .loadN 16 (.t 10), some (78, false)⟩, ⟨(some 80), .call (.k (.c (.fn 30 []))) [(.t 79)], some (78, false)⟩, ⟨(some 81), .un .not (.t 80), some (78, false)⟩, ⟨(some 82), .pick (.t 78) (.k (.c (.bool true))) (.t 81), none⟩])
  (.cond (.t 82) (.seq (.region [⟨(some 4), .mov (.k (.c (.bool false))), none⟩])
  .ret) .skip))
  (.seq (.region [⟨(some 15), .mov (.k (.c (.int .i64 0))), none⟩])
  (.seq (.seq (.region [⟨(some 16), .mov (.k (.c (.int .i64 0))), none⟩])
  (.block 0 (.loop l5_0)))
  (.seq (.region [⟨(some 104), .loadN 16 (.t 10), none⟩, ⟨(some 105), .loadN 16 (.t 13), none⟩, ⟨(some 106), .call (.k (.c (.fn 31 []))) [(.t 104), (.t 105)], none⟩, ⟨(some 103), .mov (.t 106), none⟩, ⟨(some 107), .ext (.t 103) 0, none⟩, ⟨(some 108), .ext (.t 103) 1, none⟩, ⟨(some 18), .mov (.t 107), none⟩, ⟨(some 19), .mov (.t 108), none⟩])
  (.seq (.region [⟨(some 110), .loadN 16 (.t 10), none⟩, ⟨(some 111), .loadN 16 (.t 13), none⟩, ⟨(some 112), .call (.k (.c (.fn 32 []))) [(.t 110), (.t 111)], none⟩, ⟨(some 109), .mov (.t 112), none⟩, ⟨(some 113), .ext (.t 109) 0, none⟩, ⟨(some 114), .ext (.t 109) 1, none⟩, ⟨(some 20), .mov (.t 113), none⟩, ⟨(some 21), .mov (.t 114), none⟩])
  (.seq (.seq (.region [⟨(some 115), .mov (.t 15), none⟩, ⟨(some 116), .mov (.t 6), none⟩, ⟨(some 117), .bin .gtr .int (.t 115) (.t 116), none⟩, ⟨(some 118), .mov (.t 117), none⟩, ⟨(some 119), .mov (.t 19), some (118, false)⟩, ⟨(some 120), .mov (.t 21), some (118, false)⟩, ⟨(some 121), .bin .neq .int (.t 119) (.t 120), some (118, false)⟩, ⟨(some 122), .pick (.t 118) (.k (.c (.bool true))) (.t 121), none⟩, ⟨(some 123), .mov (.t 122), none⟩, ⟨(some 124), .mov (.t 19), some (123, false)⟩, ⟨(some 125), .bin .neq .int (.t 124) (.k (.c (.int .i64 0))), some (123, false)⟩, ⟨(some 126), .pick (.t 123) (.k (.c (.bool true))) (.t 125), none⟩, ⟨(some 127), .mov (.t 126), none⟩, ⟨(some 128), .mov (.t 18), some (127, false)⟩, ⟨(some 129), .mov (.t 20), some (127, false)⟩, ⟨(some 130), .call (.k (.c (.fn 33 []))) [(.t 128), (.t 129)], some (127, false)⟩, ⟨(some 131), .un .not (.t 130), some (127, false)⟩, ⟨(some 132), .pick (.t 127) (.k (.c (.bool true))) (.t 131), none⟩, ⟨(some 133), .mov (.t 132), none⟩, ⟨(some 134), .mov (.t 20), some (133, false)⟩, ⟨(some 135), .len false (.t 134), some (133, false)⟩, ⟨(some 136), .mov (.t 15), some (133, false)⟩, ⟨(some 137), .bin .gtr .int (.t 135) (.t 136), some (133, false)⟩, ⟨(some 138), .pick (.t 133) (.k (.c (.bool true))) (.t 137), none⟩])
  (.cond (.t 138) (.seq (.region [⟨(some 4), .mov (.k (.c (.bool false))), none⟩])
  .ret) .skip))
  (.seq (.seq (.region [⟨(some 22), .mov (.k (.c (.int .i64 0))), none⟩])
  (.block 2 (.loop l5_2)))
  (.seq (.region [⟨(some 4), .mov (.k (.c (.bool true))), none⟩])
  .ret))))))))))))))), [.tmp 4], true⟩
theorem c5 : kk 5 = some k5 := by kernel_rfl
/-- loop.example/g01263/laws.FnExactInspect -/
def k11 : KF := ⟨124, (.seq (.region [⟨(some 3), .box 32 (.t 0), none⟩, ⟨(some 4), .box 32 (.t 1), none⟩, ⟨(some 6), .mov (.k (.c (.bool false))), none⟩])
  (.seq (.region [⟨(some 7), .mov (.k (.c (.int .i64 1048576))), none⟩])
  (.seq (.region [⟨(some 19), .loadN 18 (.t 3), none⟩, ⟨(some 20), .mov (.t 7), none⟩, ⟨(some 21), .call (.k (.c (.fn 18 []))) [(.t 19), (.t 20)], none⟩, ⟨(some 7), .mov (.t 21), none⟩])
  (.seq (.seq (.region [⟨(some 22), .mov (.t 7), none⟩, ⟨(some 23), .bin .lss .int (.t 22) (.k (.c (.int .i64 0))), none⟩])
  (.cond (.t 23) (.seq (.region [⟨(some 6), .mov (.k (.c (.bool true))), none⟩])
  .ret) .skip))
  (.seq (.region [⟨(some 24), .loadN 18 (.t 4), none⟩, ⟨(some 25), .mov (.t 7), none⟩, ⟨(some 26), .call (.k (.c (.fn 18 []))) [(.t 24), (.t 25)], none⟩, ⟨(some 7), .mov (.t 26), none⟩])
  (.seq (.seq (.region [⟨(some 27), .mov (.t 7), none⟩, ⟨(some 28), .bin .lss .int (.t 27) (.k (.c (.int .i64 0))), none⟩])
  (.cond (.t 28) (.seq (.region [⟨(some 6), .mov (.k (.c (.bool true))), none⟩])
  .ret) .skip))
  (.seq (.drawn [(⟨(some 30), .loadN 18 (.t 3), none⟩, []), (⟨(some 32), .loadN 18 (.t 4), none⟩, []), (⟨(some 34), .mov (.t 2), none⟩, []), (⟨(some 31), .call (.k (.c (.fn 20 []))) [(.t 30)], none⟩, [⟨(some 32), .loadN 18 (.t 4), none⟩]), (⟨(some 33), .call (.k (.c (.fn 20 []))) [(.t 32)], none⟩, []), (⟨(some 35), .call (.k (.c (.fn 47 []))) [(.t 31), (.t 33), (.t 34)], none⟩, []), (⟨(some 29), .mov (.t 35), none⟩, []), (⟨(some 36), .ext (.t 29) 0, none⟩, []), (⟨(some 37), .ext (.t 29) 1, none⟩, []), (⟨(some 8), .alloc 75 [(.bool false), (.int .i8 0), (.int .i64 0), (.int .i64 0), (.slice none 0 (.exact 0))], none⟩, [⟨(some 30), .loadN 18 (.t 3), none⟩, ⟨(some 32), .loadN 18 (.t 4), none⟩]), (⟨none, .store 5 (.t 8) (.t 36), none⟩, []), (⟨(some 9), .mov (.t 37), none⟩, [])])
  (.seq (.region [⟨(some 38), .loadN 18 (.t 3), none⟩, ⟨(some 39), .call (.k (.c (.fn 20 []))) [(.t 38)], none⟩, ⟨(some 10), .alloc 39 [(.bool false), (.slice none 0 (.exact 0)), (.int .i8 0), (.int .i8 0), (.int .i8 0), (.int .i8 0), (.int .i8 0), (.int .i8 0), (.int .i8 0), (.int .i8 0), (.int .i8 0), (.int .i8 0), (.int .i8 0), (.int .i8 0), (.int .i8 0), (.int .i8 0), (.int .i8 0), (.int .i8 0)], none⟩, ⟨none, .store 18 (.t 10) (.t 39), none⟩])
  (.seq (.region [⟨(some 40), .loadN 18 (.t 4), none⟩, ⟨(some 41), .call (.k (.c (.fn 20 []))) [(.t 40)], none⟩, ⟨(some 11), .alloc 39 [(.bool false), (.slice none 0 (.exact 0)), (.int .i8 0), (.int .i8 0), (.int .i8 0), (.int .i8 0), (.int .i8 0), (.int .i8 0), (.int .i8 0), (.int .i8 0), (.int .i8 0), (.int .i8 0), (.int .i8 0), (.int .i8 0), (.int .i8 0), (.int .i8 0), (.int .i8 0), (.int .i8 0)], none⟩, ⟨none, .store 18 (.t 11) (.t 41), none⟩])
  (.seq (.region [⟨(some 43), .loadN 18 (.t 10), none⟩, ⟨(some 44), .loadN 18 (.t 11), none⟩, ⟨(some 45), .mov (.t 2), none⟩, ⟨(some 46), .call (.k (.c (.fn 48 []))) [(.t 43), (.t 44), (.t 45)], none⟩, ⟨(some 42), .mov (.t 46), none⟩, ⟨(some 47), .ext (.t 42) 0, none⟩, ⟨(some 48), .ext (.t 42) 1, none⟩, ⟨(some 12), .alloc 75 [(.bool false), (.int .i8 0), (.int .i64 0), (.int .i64 0), (.slice none 0 (.exact 0))], none⟩, ⟨none, .store 5 (.t 12) (.t 47), none⟩, ⟨(some 13), .mov (.t 48), none⟩])
  (.seq (.seq (.region [⟨(some 49), .loadN 5 (.t 12), none⟩, ⟨(some 50), .loadN 5 (.t 8), none⟩, ⟨(some 51), .call (.k (.c (.fn 49 []))) [(.t 49), (.t 50)], none⟩, ⟨(some 52), .un .not (.t 51), none⟩, ⟨(some 53), .mov (.t 52), none⟩, ⟨(some 54), .mov (.t 13), some (53, false)⟩, ⟨(some 55), .mov (.t 9), some (53, false)⟩, ⟨(some 56), .bin .neq .int (.t 54) (.t 55), some (53, false)⟩, ⟨(some 57), .pick (.t 53) (.k (.c (.bool true))) (.t 56), none⟩])
  (.cond (.t 57) (.seq (.region [⟨(some 6), .mov (.k (.c (.bool false))), none⟩])
  .ret) .skip))
  (.seq (.seq (.drawn [(⟨(some 58), .loadN 18 (.t 10), none⟩, []), (⟨(some 59), .loadN 18 (.t 3), none⟩, []), (⟨(some 60), .call (.k (.c (.fn 20 []))) [(.t 59)], none⟩, [⟨(some 58), .loadN 18 (.t 10), none⟩]), (⟨(some 61), .call (.k (.c (.fn 23 []))) [(.t 58), (.t 60)], none⟩, []), (⟨(some 62), .un .not (.t 61), none⟩, [])])
  (.cond (.t 62) (.seq (.region [⟨(some 6), .mov (.k (.c (.bool false))), none⟩])
  .ret) .skip))
  (.seq (.seq (.drawn [(⟨(some 63), .loadN 18 (.t 11), none⟩, []), (⟨(some 64), .loadN 18 (.t 4), none⟩, []), (⟨(some 65), .call (.k (.c (.fn 20 []))) [(.t 64)], none⟩, [⟨(some 63), .loadN 18 (.t 11), none⟩]), (⟨(some 66), .call (.k (.c (.fn 23 []))) [(.t 63), (.t 65)], none⟩, []), (⟨(some 67), .un .not (.t 66), none⟩, [])])
  (.cond (.t 67) (.seq (.region [⟨(some 6), .mov (.k (.c (.bool false))), none⟩])
  .ret) .skip))
  (.seq (.region [⟨(some 14), .mov (.k (.c (.int .i64 1))), none⟩])
  (.seq (.region [⟨(some 68), .loadN 18 (.t 10), none⟩, ⟨(some 69), .mov (.t 14), none⟩, ⟨(some 70), .call (.k (.c (.fn 50 []))) [(.t 68), (.t 69)], none⟩, ⟨(some 14), .mov (.t 70), none⟩])
  (.seq (.region [⟨(some 71), .loadN 18 (.t 11), none⟩, ⟨(some 72), .mov (.t 14), none⟩, ⟨(some 73), .call (.k (.c (.fn 50 []))) [(.t 71), (.t 72)], none⟩, ⟨(some 14), .mov (.t 73), none⟩])
  (.seq (.seq (.region [⟨(some 74), .mov (.t 14), none⟩, ⟨(some 75), .bin .lss .int (.t 74) (.k (.c (.int .i64 0))), none⟩, ⟨(some 76), .mov (.t 75), none⟩, ⟨(some 77), .loadN 5 (.t 12), some (76, false)⟩, ⟨(some 78), .loadN 5 (.t 8), some (76, false)⟩, ⟨(some 79), .call (.k (.c (.fn 49 []))) [(.t 77), (.t 78)], some (76, false)⟩, ⟨(some 80), .un .not (.t 79), some (76, false)⟩, ⟨(some 81), .pick (.t 76) (.k (.c (.bool true))) (.t 80), none⟩, ⟨(some 82), .mov (.t 81), none⟩, ⟨(some 83), .mov (.t 13), some (82, false)⟩, ⟨(some 84), .mov (.t 9), some (82, false)⟩, ⟨(some 85), .bin .neq .int (.t 83) (.t 84), some (82, false)⟩, ⟨(some 86), .pick (.t 82) (.k (.c (.bool true))) (.t 85), none⟩])
  (.cond (.t 86) (.seq (.region [⟨(some 6), .mov (.k (.c (.bool false))), none⟩])
  .ret) .skip))
  (.seq (.region [⟨(some 15), .mov (.k (.c (.int .i64 1))), none⟩])
  (.seq (.region [⟨(some 87), .loadN 5 (.t 12), none⟩, ⟨(some 88), .mov (.t 15), none⟩, ⟨(some 89), .call (.k (.c (.fn 51 []))) [(.t 87), (.t 88)], none⟩, ⟨(some 15), .mov (.t 89), none⟩])
  (.seq (.region [⟨(some 16), .mov (.k (.c (.int .i64 1))), none⟩])
  (.seq (.region [⟨(some 90), .loadN 5 (.t 12), none⟩, ⟨(some 91), .mov (.t 16), none⟩, ⟨(some 92), .call (.k (.c (.fn 52 []))) [(.t 90), (.t 91)], none⟩, ⟨(some 16), .mov (.t 92), none⟩])
  (.seq (.seq (.region [⟨(some 93), .mov (.t 16), none⟩, ⟨(some 94), .bin .lss .int (.t 93) (.k (.c (.int .i64 0))), none⟩])
  (.cond (.t 94) (.seq (.region [⟨(some 6), .mov (.k (.c (.bool false))), none⟩])
  .ret) .skip))
  (.seq (.seq (.region [⟨(some 95), .mov (.t 16), none⟩, ⟨(some 96), .mov (.t 15), none⟩, ⟨(some 97), .bin .neq .int (.t 95) (.t 96), none⟩])
  (.cond (.t 97) (.seq (.region [⟨(some 6), .mov (.k (.c (.bool false))), none⟩])
  .ret) .skip))
  (.seq (.drawn [(⟨(some 99), .loadN 18 (.t 3), none⟩, []), (⟨(some 101), .loadN 18 (.t 4), none⟩, []), (⟨(some 103), .mov (.t 2), none⟩, []), (⟨(some 100), .call (.k (.c (.fn 20 []))) [(.t 99)], none⟩, [⟨(some 101), .loadN 18 (.t 4), none⟩]), (⟨(some 102), .call (.k (.c (.fn 20 []))) [(.t 101)], none⟩, []), (⟨(some 104), .call (.k (.c (.fn 48 []))) [(.t 100), (.t 102), (.t 103)], none⟩, []), (⟨(some 98), .mov (.t 104), none⟩, []), (⟨(some 105), .ext (.t 98) 0, none⟩, []), (⟨(some 106), .ext (.t 98) 1, none⟩, []), (⟨(some 17), .alloc 75 [(.bool false), (.int .i8 0), (.int .i64 0), (.int .i64 0), (.slice none 0 (.exact 0))], none⟩, [⟨(some 99), .loadN 18 (.t 3), none⟩, ⟨(some 101), .loadN 18 (.t 4), none⟩]), (⟨none, .store 5 (.t 17) (.t 105), none⟩, []), (⟨(some 18), .mov (.t 106), none⟩, [])])
  (.seq (.seq (.region [⟨(some 107), .loadN 5 (.t 17), none⟩, ⟨(some 108), .loadN 5 (.t 8), none⟩, ⟨(some 109), .call (.k (.c (.fn 49 []))) [(.t 107), (.t 108)], none⟩, ⟨(some 110), .un .not (.t 109), none⟩, ⟨(some 111), .mov (.t 110), none⟩, ⟨(some 112), .mov (.t 18), some (111, false)⟩, ⟨(some 113), .mov (.t 9), some (111, false)⟩, ⟨(some 114), .bin .neq .int (.t 112) (.t 113), some (111, false)⟩, ⟨(some 115), .pick (.t 111) (.k (.c (.bool true))) (.t 114), none⟩])
  (.cond (.t 115) (.seq (.region [⟨(some 6), .mov (.k (.c (.bool false))), none⟩])
  .ret) .skip))
  (.seq (.region [⟨(some 16), .mov (.k (.c (.int .i64 1))), none⟩])
  (.seq (.region [⟨(some 116), .loadN 5 (.t 12), none⟩, ⟨(some 117), .mov (.t 16), none⟩, ⟨(some 118), .call (.k (.c (.fn 52 []))) [(.t 116), (.t 117)], none⟩, ⟨(some 16), .mov (.t 118), none⟩])
  (.seq (.seq (.region [⟨(some 119), .mov (.t 16), none⟩, ⟨(some 120), .bin .lss .int (.t 119) (.k (.c (.int .i64 0))), none⟩])
  (.cond (.t 120) (.seq (.region [⟨(some 6), .mov (.k (.c (.bool false))), none⟩])
  .ret) .skip))
  (.seq (.seq (.region [⟨(some 121), .mov (.t 16), none⟩, ⟨(some 122), .mov (.t 15), none⟩, ⟨(some 123), .bin .neq .int (.t 121) (.t 122), none⟩])
  (.cond (.t 123) (.seq (.region [⟨(some 6), .mov (.k (.c (.bool false))), none⟩])
  .ret) .skip))
  (.seq (.region [⟨(some 6), .mov (.k (.c (.bool true))), none⟩])
  .ret)))))))))))))))))))))))))))))), [.tmp 6], true⟩
theorem c11 : kk 11 = some k11 := by kernel_rfl
/-- loop.example/g01263/laws.szHalf -/
def k18 : KF := ⟨12, (.seq (.region [⟨(some 2), .box 32 (.t 0), none⟩, ⟨(some 4), .mov (.k (.c (.int .i64 0))), none⟩])
  (.seq (.region [⟨(some 5), .fldA 1 (.t 2), none⟩, ⟨(some 6), .load1 (.t 5), none⟩, ⟨(some 7), .mov (.t 1), none⟩, ⟨(some 8), .call (.k (.c (.fn 65 []))) [(.t 6), (.t 7)], none⟩, ⟨(some 1), .mov (.t 8), none⟩])
  (.seq (.seq (.region [⟨(some 9), .mov (.t 1), none⟩, ⟨(some 10), .bin .lss .int (.t 9) (.k (.c (.int .i64 0))), none⟩])
  (.cond (.t 10) (.seq (.region [⟨(some 4), .mov (.k (.c (.int .i64 (-1)))), none⟩])
  .ret) .skip))
  (.seq (.region [⟨(some 11), .mov (.t 1), none⟩, ⟨(some 4), .mov (.t 11), none⟩])
  .ret)))), [.tmp 4], true⟩
theorem c18 : kk 18 = some k18 := by kernel_rfl
/-- loop.example/g01263/laws.toHalf -/
def k20 : KF := ⟨16, (.seq (.region [⟨(some 1), .box 32 (.t 0), none⟩, ⟨(some 2), .alloc 39 [(.bool false), (.slice none 0 (.exact 0)), (.int .i8 0), (.int .i8 0), (.int .i8 0), (.int .i8 0), (.int .i8 0), (.int .i8 0), (.int .i8 0), (.int .i8 0), (.int .i8 0), (.int .i8 0), (.int .i8 0), (.int .i8 0), (.int .i8 0), (.int .i8 0), (.int .i8 0), (.int .i8 0)], none⟩])
  (.seq (.region [⟨(some 3), .alloc 39 [(.bool false), (.slice none 0 (.exact 0)), (.int .i8 0), (.int .i8 0), (.int .i8 0), (.int .i8 0), (.int .i8 0), (.int .i8 0), (.int .i8 0), (.int .i8 0), (.int .i8 0), (.int .i8 0), (.int .i8 0), (.int .i8 0), (.int .i8 0), (.int .i8 0), (.int .i8 0), (.int .i8 0)], none⟩])
  (.seq (.region [⟨(some 4), .fldA 0 (.t 1), none⟩, ⟨(some 5), .load1 (.t 4), none⟩, ⟨(some 6), .fldA 0 (.t 3), none⟩, ⟨none, .store 1 (.t 6) (.t 5), none⟩])
  (.seq (.region [⟨(some 7), .fldA 1 (.t 1), none⟩, ⟨(some 8), .load1 (.t 7), none⟩, ⟨(some 9), .call (.k (.c (.fn 68 []))) [(.t 8)], none⟩, ⟨(some 10), .fldA 1 (.t 3), none⟩, ⟨none, .store 1 (.t 10) (.t 9), none⟩])
  (.seq (.region [⟨(some 11), .fldA 2 (.t 1), none⟩, ⟨(some 12), .loadN 16 (.t 11), none⟩, ⟨(some 13), .call (.k (.c (.fn 69 []))) [(.t 12)], none⟩, ⟨(some 14), .fldA 2 (.t 3), none⟩, ⟨none, .store 16 (.t 14) (.t 13), none⟩])
  (.seq (.region [⟨(some 15), .loadN 18 (.t 3), none⟩, ⟨none, .store 18 (.t 2) (.t 15), none⟩])
  .ret)))))), [.cellN 2 18], false⟩
theorem c20 : kk 20 = some k20 := by kernel_rfl
/-- loop.example/g01263/laws.eqHalf -/
def k23 : KF := ⟨22, (.seq (.region [⟨(some 2), .box 39 (.t 0), none⟩, ⟨(some 3), .box 39 (.t 1), none⟩, ⟨(some 4), .mov (.k (.c (.bool false))), none⟩])
  (.seq (.seq (.region [⟨(some 5), .fldA 0 (.t 2), none⟩, ⟨(some 6), .load1 (.t 5), none⟩, ⟨(some 7), .fldA 0 (.t 3), none⟩, ⟨(some 8), .load1 (.t 7), none⟩, ⟨(some 9), .bin .neq .bool (.t 6) (.t 8), none⟩])
  (.cond (.t 9) (.seq (.region [⟨(some 4), .mov (.k (.c (.bool false))), none⟩])
  .ret) .skip))
  (.seq (.seq (.region [⟨(some 10), .fldA 1 (.t 2), none⟩, ⟨(some 11), .load1 (.t 10), none⟩, ⟨(some 12), .fldA 1 (.t 3), none⟩, ⟨(some 13), .load1 (.t 12), none⟩, ⟨(some 14), .call (.k (.c (.fn 72 []))) [(.t 11), (.t 13)], none⟩, ⟨(some 15), .un .not (.t 14), none⟩])
  (.cond (.t 15) (.seq (.region [⟨(some 4), .mov (.k (.c (.bool false))), none⟩])
  .ret) .skip))
  (.seq (.seq (.region [⟨(some 16), .fldA 2 (.t 2), none⟩, ⟨(some 17), .loadN 16 (.t 16), none⟩, ⟨(some 18), .fldA 2 (.t 3), none⟩, ⟨(some 19), .loadN 16 (.t 18), none⟩, ⟨(some 20), .call (.k (.c (.fn 73 []))) [(.t 17), (.t 19)], none⟩, ⟨(some 21), .un .not (.t 20), none⟩])
  (.cond (.t 21) (.seq (.region [⟨(some 4), .mov (.k (.c (.bool false))), none⟩])
  .ret) .skip))
  (.seq (.region [⟨(some 4), .mov (.k (.c (.bool true))), none⟩])
  .ret))))), [.tmp 4], true⟩
theorem c23 : kk 23 = some k23 := by kernel_rfl
/-- loop.example/g01263/impl.ValidGrain -/
def l30_0 : KC := (.seq (.region [⟨(some 7), .bin .lss .int (.t 6) (.k (.c (.int .i64 16))), none⟩])
  (.seq (.cond (.t 7) .skip (.exit 0))
  (.seq (.block 1 (.seq (.region [⟨(some 8), .idx1 16 (.t 5) (.t 6), none⟩, ⟨(some 4), .mov (.t 8), none⟩])
  (.seq (.region [⟨(some 9), .mov (.t 4), none⟩, ⟨(some 10), .bin .lss .int (.t 9) (.k (.c (.int .i8 (-3)))), none⟩, ⟨(some 11), .mov (.t 10), none⟩, ⟨(some 12), .mov (.t 4), some (11, false)⟩, ⟨(some 13), .bin .gtr .int (.t 12) (.k (.c (.int .i8 3))), some (11, false)⟩, ⟨(some 14), .pick (.t 11) (.k (.c (.bool true))) (.t 13), none⟩])
  (.cond (.t 14) (.seq (.region [⟨(some 2), .mov (.k (.c (.bool false))), none⟩])
  .ret) .skip))))
  (.region [⟨(some 15), .bin .add .int (.t 6) (.k (.c (.int .i64 1))), none⟩, ⟨(some 6), .mov (.t 15), none⟩]))))
def k30 : KF := ⟨16, (.seq (.region [⟨(some 1), .box 37 (.t 0), none⟩, ⟨(some 2), .mov (.k (.c (.bool false))), none⟩])
  (.seq (.seq (.region [⟨(some 5), .loadN 16 (.t 1), none⟩, ⟨(some 6), .mov (.k (.c (.int .i64 0))), none⟩])
  (.block 0 (.loop l30_0)))
  (.seq (.region [⟨(some 2), .mov (.k (.c (.bool true))), none⟩])
  .ret))), [.tmp 2], true⟩
theorem c30 : kk 30 = some k30 := by kernel_rfl
/-- loop.example/g01263/spec.Inspect -/
def k47 : KF := ⟨37, (.seq (.region [⟨(some 3), .box 39 (.t 0), none⟩, ⟨(some 4), .box 39 (.t 1), none⟩, ⟨(some 6), .alloc 75 [(.bool false), (.int .i8 0), (.int .i64 0), (.int .i64 0), (.slice none 0 (.exact 0))], none⟩, ⟨(some 7), .mov (.k (.c (.int .i64 0))), none⟩])
  (.seq (.region [⟨(some 9), .call (.k (.c (.fn 88 []))) [(.t 3), (.t 4)], none⟩, ⟨(some 8), .mov (.t 9), none⟩])
  (.seq (.seq (.region [⟨(some 10), .mov (.t 8), none⟩, ⟨(some 11), .bin .eql .int (.t 10) (.k (.c (.int .i64 0))), none⟩, ⟨(some 12), .mov (.t 11), none⟩, ⟨(some 13), .mov (.t 2), some (12, true)⟩, ⟨(some 14), .call (.k (.c (.fn 80 []))) [(.t 13), (.k (.c (.int .i64 0))), (.k (.c (.int .i64 16)))], some (12, true)⟩, ⟨(some 15), .un .not (.t 14), some (12, true)⟩, ⟨(some 16), .pick (.t 12) (.t 15) (.k (.c (.bool false))), none⟩])
  (.cond (.t 16) (.region [⟨(some 8), .mov (.k (.c (.int .i64 2))), none⟩]) .skip))
  (.seq (.seq (.region [⟨(some 17), .mov (.t 8), none⟩, ⟨(some 18), .bin .neq .int (.t 17) (.k (.c (.int .i64 0))), none⟩])
  (.cond (.t 18) (.seq (.region [⟨(some 19), .build [(.bool false), (.int .i8 0), (.int .i64 0), (.int .i64 0), (.slice none 0 (.exact 0))] [], none⟩, ⟨(some 20), .mov (.t 8), none⟩, ⟨none, .store 5 (.t 6) (.t 19), none⟩, ⟨(some 7), .mov (.t 20), none⟩])
  .ret) .skip))
  (.seq (.drawn [(⟨(some 21), .mov (.t 2), none⟩, []), (⟨(some 25), .fldA 1 (.t 3), none⟩, []), (⟨(some 26), .load1 (.t 25), none⟩, []), (⟨(some 28), .fldA 1 (.t 4), none⟩, []), (⟨(some 29), .load1 (.t 28), none⟩, []), (⟨(some 31), .fldA 2 (.t 3), none⟩, []), (⟨(some 32), .loadN 16 (.t 31), none⟩, []), (⟨(some 33), .fldA 2 (.t 4), none⟩, []), (⟨(some 34), .loadN 16 (.t 33), none⟩, []), (⟨(some 22), .call (.k (.c (.fn 93 []))) [(.t 3), (.t 4), (.t 21)], none⟩, [⟨(some 26), .load1 (.t 25), none⟩, ⟨(some 29), .load1 (.t 28), none⟩, ⟨(some 32), .loadN 16 (.t 31), none⟩, ⟨(some 34), .loadN 16 (.t 33), none⟩]), (⟨(some 23), .call (.k (.c (.fn 89 []))) [(.t 3), (.t 4)], none⟩, [⟨(some 26), .load1 (.t 25), none⟩, ⟨(some 29), .load1 (.t 28), none⟩, ⟨(some 32), .loadN 16 (.t 31), none⟩, ⟨(some 34), .loadN 16 (.t 33), none⟩]), (⟨(some 24), .conv .i8 (.t 23), none⟩, []), (⟨(some 27), .call (.k (.c (.fn 98 []))) [(.t 26)], none⟩, [⟨(some 29), .load1 (.t 28), none⟩, ⟨(some 32), .loadN 16 (.t 31), none⟩, ⟨(some 34), .loadN 16 (.t 33), none⟩]), (⟨(some 30), .call (.k (.c (.fn 98 []))) [(.t 29)], none⟩, [⟨(some 32), .loadN 16 (.t 31), none⟩, ⟨(some 34), .loadN 16 (.t 33), none⟩]), (⟨(some 35), .call (.k (.c (.fn 84 []))) [(.t 32), (.t 34)], none⟩, []), (⟨(some 36), .build [(.bool false), (.int .i8 0), (.int .i64 0), (.int .i64 0), (.slice none 0 (.exact 0))] [(0, 1, (.t 22)), (1, 1, (.t 24)), (2, 1, (.t 27)), (3, 1, (.t 30)), (4, 1, (.t 35))], none⟩, []), (⟨none, .store 5 (.t 6) (.t 36), none⟩, []), (⟨(some 7), .mov (.k (.c (.int .i64 0))), none⟩, [])])
  .ret))))), [.cellN 6 5, .tmp 7], false⟩
theorem c47 : kk 47 = some k47 := by kernel_rfl
/-- loop.example/g01263/impl.Inspect -/
def k48 : KF := ⟨39, (.seq (.region [⟨(some 3), .box 39 (.t 0), none⟩, ⟨(some 4), .box 39 (.t 1), none⟩, ⟨(some 6), .alloc 75 [(.bool false), (.int .i8 0), (.int .i64 0), (.int .i64 0), (.slice none 0 (.exact 0))], none⟩, ⟨(some 7), .mov (.k (.c (.int .i64 0))), none⟩])
  (.seq (.seq (.region [⟨(some 9), .loadN 18 (.t 3), none⟩, ⟨(some 10), .loadN 18 (.t 4), none⟩, ⟨(some 11), .buildSl 39 1 [(.bool false), (.slice none 0 (.exact 0)), (.int .i8 0), (.int .i8 0), (.int .i8 0), (.int .i8 0), (.int .i8 0), (.int .i8 0), (.int .i8 0), (.int .i8 0), (.int .i8 0), (.int .i8 0), (.int .i8 0), (.int .i8 0), (.int .i8 0), (.int .i8 0), (.int .i8 0), (.int .i8 0)] [(0, 18, (.t 10))], none⟩, ⟨(some 12), .call (.k (.c (.fn 90 []))) [(.t 9), (.t 11)], none⟩, ⟨(some 8), .mov (.t 12), none⟩])
  (.seq (.region [⟨(some 13), .mov (.t 8), none⟩, ⟨(some 14), .bin .neq .int (.t 13) (.k (.c (.int .i64 0))), none⟩])
  (.cond (.t 14) (.seq (.region [⟨(some 15), .build [(.bool false), (.int .i8 0), (.int .i64 0), (.int .i64 0), (.slice none 0 (.exact 0))] [], none⟩, ⟨(some 16), .mov (.t 8), none⟩, ⟨none, .store 5 (.t 6) (.t 15), none⟩, ⟨(some 7), .mov (.t 16), none⟩])
  .ret) .skip)))
  (.seq (.seq (.region [⟨(some 17), .mov (.t 2), none⟩, ⟨(some 18), .call (.k (.c (.fn 94 []))) [(.t 17)], none⟩, ⟨(some 19), .un .not (.t 18), none⟩])
  (.cond (.t 19) (.seq (.region [⟨(some 20), .build [(.bool false), (.int .i8 0), (.int .i64 0), (.int .i64 0), (.slice none 0 (.exact 0))] [], none⟩, ⟨none, .store 5 (.t 6) (.t 20), none⟩, ⟨(some 7), .mov (.k (.c (.int .i64 2))), none⟩])
  .ret) .skip))
  (.seq (.drawn [(⟨(some 21), .loadN 18 (.t 3), none⟩, []), (⟨(some 22), .loadN 18 (.t 4), none⟩, []), (⟨(some 23), .mov (.t 2), none⟩, []), (⟨(some 25), .loadN 18 (.t 3), none⟩, []), (⟨(some 26), .loadN 18 (.t 4), none⟩, []), (⟨(some 29), .loadN 18 (.t 3), none⟩, []), (⟨(some 31), .loadN 18 (.t 4), none⟩, []), (⟨(some 33), .fldA 2 (.t 3), none⟩, []), (⟨(some 34), .loadN 16 (.t 33), none⟩, []), (⟨(some 35), .fldA 2 (.t 4), none⟩, []), (⟨(some 36), .loadN 16 (.t 35), none⟩, []), (⟨(some 24), .call (.k (.c (.fn 95 []))) [(.t 21), (.t 22), (.t 23)], none⟩, [⟨(some 25), .loadN 18 (.t 3), none⟩, ⟨(some 26), .loadN 18 (.t 4), none⟩, ⟨(some 29), .loadN 18 (.t 3), none⟩, ⟨(some 31), .loadN 18 (.t 4), none⟩, ⟨(some 34), .loadN 16 (.t 33), none⟩, ⟨(some 36), .loadN 16 (.t 35), none⟩]), (⟨(some 27), .call (.k (.c (.fn 91 []))) [(.t 25), (.t 26)], none⟩, [⟨(some 29), .loadN 18 (.t 3), none⟩, ⟨(some 31), .loadN 18 (.t 4), none⟩, ⟨(some 34), .loadN 16 (.t 33), none⟩, ⟨(some 36), .loadN 16 (.t 35), none⟩]), (⟨(some 28), .conv .i8 (.t 27), none⟩, []), (⟨(some 30), .call (.k (.c (.fn 99 []))) [(.t 29)], none⟩, [⟨(some 31), .loadN 18 (.t 4), none⟩, ⟨(some 34), .loadN 16 (.t 33), none⟩, ⟨(some 36), .loadN 16 (.t 35), none⟩]), (⟨(some 32), .call (.k (.c (.fn 99 []))) [(.t 31)], none⟩, [⟨(some 34), .loadN 16 (.t 33), none⟩, ⟨(some 36), .loadN 16 (.t 35), none⟩]), (⟨(some 37), .call (.k (.c (.fn 83 []))) [(.t 34), (.t 36)], none⟩, []), (⟨(some 38), .build [(.bool false), (.int .i8 0), (.int .i64 0), (.int .i64 0), (.slice none 0 (.exact 0))] [(0, 1, (.t 24)), (1, 1, (.t 28)), (2, 1, (.t 30)), (3, 1, (.t 32)), (4, 1, (.t 37))], none⟩, []), (⟨none, .store 5 (.t 6) (.t 38), none⟩, []), (⟨(some 7), .mov (.k (.c (.int .i64 0))), none⟩, [])])
  .ret)))), [.cellN 6 5, .tmp 7], false⟩
theorem c48 : kk 48 = some k48 := by kernel_rfl
/-- loop.example/g01263/laws.eqVerdict -/
def k49 : KF := ⟨31, (.seq (.region [⟨(some 2), .box 75 (.t 0), none⟩, ⟨(some 3), .box 75 (.t 1), none⟩, ⟨(some 4), .mov (.k (.c (.bool false))), none⟩])
  (.seq (.seq (.region [⟨(some 5), .fldA 0 (.t 2), none⟩, ⟨(some 6), .load1 (.t 5), none⟩, ⟨(some 7), .fldA 0 (.t 3), none⟩, ⟨(some 8), .load1 (.t 7), none⟩, ⟨(some 9), .bin .neq .bool (.t 6) (.t 8), none⟩])
  (.cond (.t 9) (.seq (.region [⟨(some 4), .mov (.k (.c (.bool false))), none⟩])
  .ret) .skip))
  (.seq (.seq (.region [⟨(some 10), .fldA 1 (.t 2), none⟩, ⟨(some 11), .load1 (.t 10), none⟩, ⟨(some 12), .fldA 1 (.t 3), none⟩, ⟨(some 13), .load1 (.t 12), none⟩, ⟨(some 14), .bin .neq .int (.t 11) (.t 13), none⟩])
  (.cond (.t 14) (.seq (.region [⟨(some 4), .mov (.k (.c (.bool false))), none⟩])
  .ret) .skip))
  (.seq (.seq (.region [⟨(some 15), .fldA 2 (.t 2), none⟩, ⟨(some 16), .load1 (.t 15), none⟩, ⟨(some 17), .fldA 2 (.t 3), none⟩, ⟨(some 18), .load1 (.t 17), none⟩, ⟨(some 19), .bin .neq .int (.t 16) (.t 18), none⟩])
  (.cond (.t 19) (.seq (.region [⟨(some 4), .mov (.k (.c (.bool false))), none⟩])
  .ret) .skip))
  (.seq (.seq (.region [⟨(some 20), .fldA 3 (.t 2), none⟩, ⟨(some 21), .load1 (.t 20), none⟩, ⟨(some 22), .fldA 3 (.t 3), none⟩, ⟨(some 23), .load1 (.t 22), none⟩, ⟨(some 24), .bin .neq .int (.t 21) (.t 23), none⟩])
  (.cond (.t 24) (.seq (.region [⟨(some 4), .mov (.k (.c (.bool false))), none⟩])
  .ret) .skip))
  (.seq (.seq (.region [⟨(some 25), .fldA 4 (.t 2), none⟩, ⟨(some 26), .load1 (.t 25), none⟩, ⟨(some 27), .fldA 4 (.t 3), none⟩, ⟨(some 28), .load1 (.t 27), none⟩, ⟨(some 29), .call (.k (.c (.fn 100 []))) [(.t 26), (.t 28)], none⟩, ⟨(some 30), .un .not (.t 29), none⟩])
  (.cond (.t 30) (.seq (.region [⟨(some 4), .mov (.k (.c (.bool false))), none⟩])
  .ret) .skip))
  (.seq (.region [⟨(some 4), .mov (.k (.c (.bool true))), none⟩])
  .ret))))))), [.tmp 4], true⟩
theorem c49 : kk 49 = some k49 := by kernel_rfl
/-- loop.example/g01263/laws.markHalf -/
def k50 : KF := ⟨10, (.seq (.region [⟨(some 2), .box 39 (.t 0), none⟩, ⟨(some 4), .mov (.k (.c (.int .i64 0))), none⟩])
  (.seq (.region [⟨(some 5), .fldA 1 (.t 2), none⟩, ⟨(some 6), .load1 (.t 5), none⟩, ⟨(some 7), .mov (.t 1), none⟩, ⟨(some 8), .call (.k (.c (.fn 101 []))) [(.t 6), (.t 7)], none⟩, ⟨(some 1), .mov (.t 8), none⟩])
  (.seq (.region [⟨(some 9), .mov (.t 1), none⟩, ⟨(some 4), .mov (.t 9), none⟩])
  .ret))), [.tmp 4], true⟩
theorem c50 : kk 50 = some k50 := by kernel_rfl
/-- loop.example/g01263/laws.markVerdict -/
def k51 : KF := ⟨10, (.seq (.region [⟨(some 2), .box 75 (.t 0), none⟩, ⟨(some 4), .mov (.k (.c (.int .i64 0))), none⟩])
  (.seq (.region [⟨(some 5), .fldA 4 (.t 2), none⟩, ⟨(some 6), .load1 (.t 5), none⟩, ⟨(some 7), .mov (.t 1), none⟩, ⟨(some 8), .call (.k (.c (.fn 102 []))) [(.t 6), (.t 7)], none⟩, ⟨(some 1), .mov (.t 8), none⟩])
  (.seq (.region [⟨(some 9), .mov (.t 1), none⟩, ⟨(some 4), .mov (.t 9), none⟩])
  .ret))), [.tmp 4], true⟩
theorem c51 : kk 51 = some k51 := by kernel_rfl
/-- loop.example/g01263/laws.heldVerdict -/
def k52 : KF := ⟨12, (.seq (.region [⟨(some 2), .box 75 (.t 0), none⟩, ⟨(some 4), .mov (.k (.c (.int .i64 0))), none⟩])
  (.seq (.region [⟨(some 5), .fldA 4 (.t 2), none⟩, ⟨(some 6), .load1 (.t 5), none⟩, ⟨(some 7), .mov (.t 1), none⟩, ⟨(some 8), .call (.k (.c (.fn 103 []))) [(.t 6), (.t 7)], none⟩, ⟨(some 1), .mov (.t 8), none⟩])
  (.seq (.seq (.region [⟨(some 9), .mov (.t 1), none⟩, ⟨(some 10), .bin .lss .int (.t 9) (.k (.c (.int .i64 0))), none⟩])
  (.cond (.t 10) (.seq (.region [⟨(some 4), .mov (.k (.c (.int .i64 (-1)))), none⟩])
  .ret) .skip))
  (.seq (.region [⟨(some 11), .mov (.t 1), none⟩, ⟨(some 4), .mov (.t 11), none⟩])
  .ret)))), [.tmp 4], true⟩
theorem c52 : kk 52 = some k52 := by kernel_rfl
/-- loop.example/g01263/laws.szNotchS -/
def k65 : KF := ⟨12, (.seq (.region [⟨(some 4), .mov (.k (.c (.int .i64 0))), none⟩])
  (.seq (.region [⟨(some 5), .mov (.t 1), none⟩, ⟨(some 6), .mov (.t 0), none⟩, ⟨(some 7), .len false (.t 6), none⟩, ⟨(some 8), .bin .sub .int (.t 5) (.t 7), none⟩, ⟨(some 1), .mov (.t 8), none⟩])
  (.seq (.seq (.region [⟨(some 9), .mov (.t 1), none⟩, ⟨(some 10), .bin .lss .int (.t 9) (.k (.c (.int .i64 0))), none⟩])
  (.cond (.t 10) (.seq (.region [⟨(some 4), .mov (.k (.c (.int .i64 (-1)))), none⟩])
  .ret) .skip))
  (.seq (.region [⟨(some 11), .mov (.t 1), none⟩, ⟨(some 4), .mov (.t 11), none⟩])
  .ret)))), [.tmp 4], true⟩
theorem c65 : kk 65 = some k65 := by kernel_rfl
/-- loop.example/g01263/spec.l01Ok -/
def k66 : KF := ⟨15, (.seq (.region [⟨(some 2), .mov (.k (.c (.bool false))), none⟩])
  (.seq (.region [⟨(some 3), .mov (.t 0), none⟩, ⟨(some 4), .nilchk (.t 3), none⟩, ⟨(some 5), .fldA 1 (.t 4), none⟩, ⟨(some 6), .load1 (.t 5), none⟩, ⟨(some 7), .call (.k (.c (.fn 110 []))) [(.t 6)], none⟩, ⟨(some 8), .mov (.t 7), none⟩, ⟨(some 9), .mov (.t 0), some (8, true)⟩, ⟨(some 10), .nilchk (.t 9), some (8, true)⟩, ⟨(some 11), .fldA 2 (.t 10), some (8, true)⟩, ⟨(some 12), .loadN 16 (.t 11), some (8, true)⟩, ⟨(some 13), .call (.k (.c (.fn 79 []))) [(.t 12)], some (8, true)⟩, ⟨(some 14), .pick (.t 8) (.t 13) (.k (.c (.bool false))), none⟩, ⟨(some 2), .mov (.t 14), none⟩])
  .ret)), [.tmp 2], true⟩
theorem c66 : kk 66 = some k66 := by kernel_rfl
/-- loop.example/g01263/spec.l04Wood -/
def l67_0 : KC := (.seq (.seq (.region [⟨(some 25), .mov (.t 5), none⟩, ⟨(some 26), .mov (.t 0), none⟩, ⟨(some 27), .nilchk (.t 26), none⟩, ⟨(some 28), .fldA 1 (.t 27), none⟩, ⟨(some 29), .load1 (.t 28), none⟩, ⟨(some 30), .mov (.t 4), none⟩, ⟨(some 31), .idxS 2 (.t 29) (.t 30), none⟩, ⟨(some 32), .loadN 2 (.t 31), none⟩, ⟨(some 33), .call (.k (.c (.fn 111 []))) [(.t 32)], none⟩, ⟨(some 34), .bin .lss .int (.t 25) (.t 33), none⟩])
  (.cond (.t 34) .skip (.exit 2)))
  (.seq (.block 3 (.region [⟨(some 37), .mov (.t 5), none⟩, ⟨(some 38), .bin .quo .int (.t 37) (.k (.c (.int .i64 64))), none⟩, ⟨(some 39), .idxA 4 1 (.t 3) (.t 38), none⟩, ⟨(some 40), .load1 (.t 39), none⟩, ⟨(some 41), .mov (.t 5), none⟩, ⟨(some 42), .bin .rem .int (.t 41) (.k (.c (.int .i64 64))), none⟩, ⟨(some 43), .conv .u64 (.t 42), none⟩, ⟨(some 44), .bin .shl .int (.k (.c (.int .u64 1))) (.t 43), none⟩, ⟨(some 45), .bin .or .int (.t 40) (.t 44), none⟩, ⟨(some 46), .idxA 4 1 (.t 3) (.t 38), none⟩, ⟨none, .store 1 (.t 46) (.t 45), none⟩]))
  (.region [⟨(some 35), .mov (.t 5), none⟩, ⟨(some 36), .bin .add .int (.t 35) (.k (.c (.int .i64 1))), none⟩, ⟨(some 5), .mov (.t 36), none⟩])))
def l67_1 : KC := (.seq (.seq (.region [⟨(some 7), .mov (.t 4), none⟩, ⟨(some 8), .mov (.t 0), none⟩, ⟨(some 9), .nilchk (.t 8), none⟩, ⟨(some 10), .fldA 1 (.t 9), none⟩, ⟨(some 11), .load1 (.t 10), none⟩, ⟨(some 12), .len false (.t 11), none⟩, ⟨(some 13), .bin .lss .int (.t 7) (.t 12), none⟩])
  (.cond (.t 13) .skip (.exit 0)))
  (.seq (.block 1 (.seq (.region [⟨(some 16), .mov (.t 0), none⟩, ⟨(some 17), .nilchk (.t 16), none⟩, ⟨(some 18), .fldA 1 (.t 17), none⟩, ⟨(some 19), .load1 (.t 18), none⟩, ⟨(some 20), .mov (.t 4), none⟩, ⟨(some 21), .idxS 2 (.t 19) (.t 20), none⟩, ⟨(some 22), .fldA 1 (.t 21), none⟩, ⟨(some 23), .load1 (.t 22), none⟩, ⟨(some 24), .conv .i64 (.t 23), none⟩, ⟨(some 5), .mov (.t 24), none⟩])
  (.block 2 (.loop l67_0))))
  (.region [⟨(some 14), .mov (.t 4), none⟩, ⟨(some 15), .bin .add .int (.t 14) (.k (.c (.int .i64 1))), none⟩, ⟨(some 4), .mov (.t 15), none⟩])))
def k67 : KF := ⟨48, (.seq (.region [⟨(some 2), .alloc 25 [(.int .u64 0), (.int .u64 0), (.int .u64 0), (.int .u64 0)], none⟩])
  (.seq (.region [⟨(some 6), .build [(.int .u64 0), (.int .u64 0), (.int .u64 0), (.int .u64 0)] [], none⟩, ⟨(some 3), .alloc 25 [(.int .u64 0), (.int .u64 0), (.int .u64 0), (.int .u64 0)], none⟩, ⟨none, .store 4 (.t 3) (.t 6), none⟩])
  (.seq (.seq (.region [⟨(some 4), .mov (.k (.c (.int .i64 0))), none⟩])
  (.block 0 (.loop l67_1)))
  (.seq (.region [⟨(some 47), .loadN 4 (.t 3), none⟩, ⟨none, .store 4 (.t 2) (.t 47), none⟩])
  .ret)))), [.cellN 2 4], true⟩
theorem c67 : kk 67 = some k67 := by kernel_rfl
/-- loop.example/g01263/laws.toNotchS -/
def l68_0 : KC := (.seq (.seq (.region [⟨(some 8), .mov (.t 4), none⟩, ⟨(some 9), .mov (.t 0), none⟩, ⟨(some 10), .len false (.t 9), none⟩, ⟨(some 11), .bin .lss .int (.t 8) (.t 10), none⟩])
  (.cond (.t 11) .skip (.exit 0)))
  (.seq (.block 1 (.region [⟨(some 14), .mov (.t 3), none⟩, ⟨(some 15), .mov (.t 4), none⟩, ⟨(some 16), .mov (.t 0), none⟩, ⟨(some 17), .mov (.t 4), none⟩, ⟨(some 18), .idxS 2 (.t 16) (.t 17), none⟩, ⟨(some 19), .loadN 2 (.t 18), none⟩, ⟨(some 20), .call (.k (.c (.fn 112 []))) [(.t 19)], none⟩, ⟨(some 21), .idxS 2 (.t 14) (.t 15), none⟩, ⟨none, .store 2 (.t 21) (.t 20), none⟩]))
  (.region [⟨(some 12), .mov (.t 4), none⟩, ⟨(some 13), .bin .add .int (.t 12) (.k (.c (.int .i64 1))), none⟩, ⟨(some 4), .mov (.t 13), none⟩])))
def k68 : KF := ⟨23, (.seq (.region [⟨(some 2), .mov (.k (.c (.slice none 0 (.exact 0)))), none⟩])
  (.seq (.region [⟨(some 5), .mov (.t 0), none⟩, ⟨(some 6), .len false (.t 5), none⟩, ⟨(some 7), .mkSl 134 [(.int .i8 0), (.int .i16 0)] 4 (.t 6) (.t 6), none⟩, ⟨(some 3), .mov (.t 7), none⟩])
  (.seq (.seq (.region [⟨(some 4), .mov (.k (.c (.int .i64 0))), none⟩])
  (.block 0 (.loop l68_0)))
  (.seq (.region [⟨(some 22), .mov (.t 3), none⟩, ⟨(some 2), .mov (.t 22), none⟩])
  .ret)))), [.tmp 2], false⟩
theorem c68 : kk 68 = some k68 := by kernel_rfl
/-- loop.example/g01263/laws.toGrain -/
def l69_0 : KC := (.seq (.seq (.region [⟨(some 5), .mov (.t 4), none⟩, ⟨(some 6), .bin .lss .int (.t 5) (.k (.c (.int .i64 16))), none⟩])
  (.cond (.t 6) .skip (.exit 0)))
  (.seq (.block 1 (.region [⟨(some 9), .mov (.t 4), none⟩, ⟨(some 10), .mov (.t 4), none⟩, ⟨(some 11), .idxA 16 1 (.t 1) (.t 10), none⟩, ⟨(some 12), .load1 (.t 11), none⟩, ⟨(some 13), .idxA 16 1 (.t 3) (.t 9), none⟩, ⟨none, .store 1 (.t 13) (.t 12), none⟩]))
  (.region [⟨(some 7), .mov (.t 4), none⟩, ⟨(some 8), .bin .add .int (.t 7) (.k (.c (.int .i64 1))), none⟩, ⟨(some 4), .mov (.t 8), none⟩])))
def k69 : KF := ⟨15, (.seq (.region [⟨(some 1), .box 30 (.t 0), none⟩, ⟨(some 2), .alloc 37 [(.int .i8 0), (.int .i8 0), (.int .i8 0), (.int .i8 0), (.int .i8 0), (.int .i8 0), (.int .i8 0), (.int .i8 0), (.int .i8 0), (.int .i8 0), (.int .i8 0), (.int .i8 0), (.int .i8 0), (.int .i8 0), (.int .i8 0), (.int .i8 0)], none⟩])
  (.seq (.region [⟨(some 3), .alloc 37 [(.int .i8 0), (.int .i8 0), (.int .i8 0), (.int .i8 0), (.int .i8 0), (.int .i8 0), (.int .i8 0), (.int .i8 0), (.int .i8 0), (.int .i8 0), (.int .i8 0), (.int .i8 0), (.int .i8 0), (.int .i8 0), (.int .i8 0), (.int .i8 0)], none⟩])
  (.seq (.seq (.region [⟨(some 4), .mov (.k (.c (.int .i64 0))), none⟩])
  (.block 0 (.loop l69_0)))
  (.seq (.region [⟨(some 14), .loadN 16 (.t 3), none⟩, ⟨none, .store 16 (.t 2) (.t 14), none⟩])
  .ret)))), [.cellN 2 16], true⟩
theorem c69 : kk 69 = some k69 := by kernel_rfl
/-- loop.example/g01263/impl.ValidHalf -/
def l70_0 : KC := (.seq (.region [⟨(some 19), .bin .lss .int (.t 18) (.t 17), none⟩])
  (.seq (.cond (.t 19) .skip (.exit 0))
  (.seq (.block 1 (.seq (.region [⟨(some 20), .mov (.t 18), none⟩, ⟨(some 21), .idxS 2 (.t 16) (.t 18), none⟩, ⟨(some 22), .loadN 2 (.t 21), none⟩, ⟨(some 4), .alloc 134 [(.int .i8 0), (.int .i16 0)], none⟩, ⟨(some 3), .mov (.t 20), none⟩, ⟨none, .store 2 (.t 4) (.t 22), none⟩])
  (.seq (.seq (.region [⟨(some 23), .fldA 0 (.t 4), none⟩, ⟨(some 24), .load1 (.t 23), none⟩, ⟨(some 25), .conv .i64 (.t 24), none⟩, ⟨(some 26), .call (.k (.c (.fn 113 []))) [(.t 25)], none⟩, ⟨(some 27), .un .not (.t 26), none⟩, ⟨(some 28), .mov (.t 27), none⟩, ⟨(some 29), .fldA 1 (.t 4), some (28, false)⟩, ⟨(some 30), .load1 (.t 29), some (28, false)⟩, ⟨(some 31), .bin .lss .int (.t 30) (.k (.c (.int .i16 0))), some (28, false)⟩, ⟨(some 32), .pick (.t 28) (.k (.c (.bool true))) (.t 31), none⟩, ⟨(some 33), .mov (.t 32), none⟩, ⟨(some 34), .loadN 2 (.t 4), some (33, false)⟩, ⟨(some 35), .call (.k (.c (.fn 114 []))) [(.t 34)], some (33, false)⟩, ⟨(some 36), .bin .gtr .int (.t 35) (.k (.c (.int .i64 200))), some (33, false)⟩, ⟨(some 37), .pick (.t 33) (.k (.c (.bool true))) (.t 36), none⟩])
  (.cond (.t 37) (.seq (.region [⟨(some 2), .mov (.k (.c (.bool false))), none⟩])
  .ret) .skip))
  (.seq (.drawn [(⟨(some 38), .mov (.t 3), none⟩, []), (⟨(some 39), .bin .gtr .int (.t 38) (.k (.c (.int .i64 0))), none⟩, []), (⟨(some 40), .mov (.t 39), none⟩, []), (⟨(some 41), .fldA 1 (.t 4), some (40, true)⟩, []), (⟨(some 42), .load1 (.t 41), some (40, true)⟩, []), (⟨(some 43), .conv .i64 (.t 42), some (40, true)⟩, []), (⟨(some 44), .fldA 1 (.t 1), some (40, true)⟩, []), (⟨(some 45), .load1 (.t 44), some (40, true)⟩, []), (⟨(some 46), .mov (.t 3), some (40, true)⟩, []), (⟨(some 47), .bin .sub .int (.t 46) (.k (.c (.int .i64 1))), some (40, true)⟩, []), (⟨(some 48), .idxS 2 (.t 45) (.t 47), some (40, true)⟩, []), (⟨(some 49), .loadN 2 (.t 48), some (40, true)⟩, []), (⟨(some 50), .call (.k (.c (.fn 114 []))) [(.t 49)], some (40, true)⟩, [⟨(some 42), .load1 (.t 41), some (40, true)⟩]), (⟨(some 51), .bin .leq .int (.t 43) (.t 50), some (40, true)⟩, []), (⟨(some 52), .mov (.t 51), some (40, true)⟩, []), (⟨(some 53), .fldA 0 (.t 4), some (52, false)⟩, []), (⟨(some 54), .load1 (.t 53), some (52, false)⟩, []), (⟨(some 55), .fldA 1 (.t 1), some (52, false)⟩, []), (⟨(some 56), .load1 (.t 55), some (52, false)⟩, []), (⟨(some 57), .mov (.t 3), some (52, false)⟩, []), (⟨(some 58), .bin .sub .int (.t 57) (.k (.c (.int .i64 1))), some (52, false)⟩, []), (⟨(some 59), .idxS 2 (.t 56) (.t 58), some (52, false)⟩, []), (⟨(some 60), .fldA 0 (.t 59), some (52, false)⟩, []), (⟨(some 61), .load1 (.t 60), some (52, false)⟩, []), (⟨(some 62), .bin .gtr .int (.t 54) (.t 61), some (52, false)⟩, []), (⟨(some 63), .pick (.t 52) (.k (.c (.bool true))) (.t 62), some (40, true)⟩, []), (⟨(some 64), .pick (.t 40) (.t 63) (.k (.c (.bool false))), none⟩, [])])
  (.cond (.t 64) (.seq (.region [⟨(some 2), .mov (.k (.c (.bool false))), none⟩])
  .ret) .skip)))))
  (.region [⟨(some 65), .bin .add .int (.t 18) (.k (.c (.int .i64 1))), none⟩, ⟨(some 18), .mov (.t 65), none⟩]))))
def k70 : KF := ⟨66, (.seq (.region [⟨(some 1), .box 39 (.t 0), none⟩, ⟨(some 2), .mov (.k (.c (.bool false))), none⟩])
  (.seq (.seq (.region [⟨(some 5), .fldA 1 (.t 1), none⟩, ⟨(some 6), .load1 (.t 5), none⟩, ⟨(some 7), .len false (.t 6), none⟩, ⟨(some 8), .bin .gtr .int (.t 7) (.k (.c (.int .i64 60))), none⟩, ⟨(some 9), .mov (.t 8), none⟩, ⟨(some 10), .fldA 2 (.t 1), some (9, false)⟩, ⟨(some 11), .loadN 16 (.t 10), some (9, false)⟩, ⟨(some 12), .call (.k (.c (.fn 30 []))) [(.t 11)], some (9, false)⟩, ⟨(some 13), .un .not (.t 12), some (9, false)⟩, ⟨(some 14), .pick (.t 9) (.k (.c (.bool true))) (.t 13), none⟩])
  (.cond (.t 14) (.seq (.region [⟨(some 2), .mov (.k (.c (.bool false))), none⟩])
  .ret) .skip))
  (.seq (.seq (.region [⟨(some 15), .fldA 1 (.t 1), none⟩, ⟨(some 16), .load1 (.t 15), none⟩, ⟨(some 17), .len false (.t 16), none⟩, ⟨(some 18), .mov (.k (.c (.int .i64 0))), none⟩])
  (.block 0 (.loop l70_0)))
  (.seq (.region [⟨(some 2), .mov (.k (.c (.bool true))), none⟩])
  .ret)))), [.tmp 2], true⟩
theorem c70 : kk 70 = some k70 := by kernel_rfl
/-- loop.example/g01263/impl.wood -/
def l71_0 : KC := (.seq (.seq (.region [⟨(some 18), .mov (.t 6), none⟩, ⟨(some 19), .loadN 2 (.t 5), none⟩, ⟨(some 20), .call (.k (.c (.fn 114 []))) [(.t 19)], none⟩, ⟨(some 21), .bin .lss .int (.t 18) (.t 20), none⟩])
  (.cond (.t 21) .skip (.exit 2)))
  (.seq (.block 3 (.drawn [(⟨(some 24), .mov (.t 6), none⟩, []), (⟨(some 25), .bin .quo .int (.t 24) (.k (.c (.int .i64 64))), none⟩, []), (⟨(some 26), .idxA 4 1 (.t 3) (.t 25), none⟩, []), (⟨(some 27), .load1 (.t 26), none⟩, []), (⟨(some 28), .mov (.t 6), none⟩, []), (⟨(some 29), .bin .rem .int (.t 28) (.k (.c (.int .i64 64))), none⟩, []), (⟨(some 30), .bin .shl .int (.k (.c (.int .u64 1))) (.t 29), none⟩, []), (⟨(some 31), .bin .or .int (.t 27) (.t 30), none⟩, []), (⟨(some 32), .idxA 4 1 (.t 3) (.t 25), none⟩, []), (⟨none, .store 1 (.t 32) (.t 31), none⟩, [])]))
  (.region [⟨(some 22), .mov (.t 6), none⟩, ⟨(some 23), .bin .add .int (.t 22) (.k (.c (.int .i64 1))), none⟩, ⟨(some 6), .mov (.t 23), none⟩])))
def l71_1 : KC := (.seq (.region [⟨(some 12), .bin .lss .int (.t 11) (.t 10), none⟩])
  (.seq (.cond (.t 12) .skip (.exit 0))
  (.seq (.block 1 (.seq (.region [⟨(some 13), .idxS 2 (.t 9) (.t 11), none⟩, ⟨(some 14), .loadN 2 (.t 13), none⟩, ⟨(some 5), .alloc 134 [(.int .i8 0), (.int .i16 0)], none⟩, ⟨none, .store 2 (.t 5) (.t 14), none⟩])
  (.seq (.region [⟨(some 15), .fldA 1 (.t 5), none⟩, ⟨(some 16), .load1 (.t 15), none⟩, ⟨(some 17), .conv .i64 (.t 16), none⟩, ⟨(some 6), .mov (.t 17), none⟩])
  (.block 2 (.loop l71_0)))))
  (.region [⟨(some 33), .bin .add .int (.t 11) (.k (.c (.int .i64 1))), none⟩, ⟨(some 11), .mov (.t 33), none⟩]))))
def k71 : KF := ⟨35, (.seq (.region [⟨(some 1), .box 39 (.t 0), none⟩, ⟨(some 2), .alloc 25 [(.int .u64 0), (.int .u64 0), (.int .u64 0), (.int .u64 0)], none⟩])
  (.seq (.region [⟨(some 7), .build [(.int .u64 0), (.int .u64 0), (.int .u64 0), (.int .u64 0)] [], none⟩, ⟨(some 3), .alloc 25 [(.int .u64 0), (.int .u64 0), (.int .u64 0), (.int .u64 0)], none⟩, ⟨none, .store 4 (.t 3) (.t 7), none⟩])
  (.seq (.seq (.region [⟨(some 8), .fldA 1 (.t 1), none⟩, ⟨(some 9), .load1 (.t 8), none⟩, ⟨(some 10), .len false (.t 9), none⟩, ⟨(some 11), .mov (.k (.c (.int .i64 0))), none⟩])
  (.block 0 (.loop l71_1)))
  (.seq (.region [⟨(some 34), .loadN 4 (.t 3), none⟩, ⟨none, .store 4 (.t 2) (.t 34), none⟩])
  .ret)))), [.cellN 2 4], true⟩
theorem c71 : kk 71 = some k71 := by kernel_rfl
/-- loop.example/g01263/laws.eqNotchS -/
def l72_0 : KC := (.seq (.seq (.region [⟨(some 11), .mov (.t 5), none⟩, ⟨(some 12), .mov (.t 0), none⟩, ⟨(some 13), .len false (.t 12), none⟩, ⟨(some 14), .bin .lss .int (.t 11) (.t 13), none⟩])
  (.cond (.t 14) .skip (.exit 0)))
  (.seq (.block 1 (.seq (.drawn [(⟨(some 17), .mov (.t 0), none⟩, []), (⟨(some 18), .mov (.t 5), none⟩, []), (⟨(some 19), .idxS 2 (.t 17) (.t 18), none⟩, []), (⟨(some 20), .loadN 2 (.t 19), none⟩, []), (⟨(some 21), .mov (.t 1), none⟩, []), (⟨(some 22), .mov (.t 5), none⟩, []), (⟨(some 23), .idxS 2 (.t 21) (.t 22), none⟩, []), (⟨(some 24), .loadN 2 (.t 23), none⟩, []), (⟨(some 25), .call (.k (.c (.fn 115 []))) [(.t 20), (.t 24)], none⟩, []), (⟨(some 26), .un .not (.t 25), none⟩, [])])
  (.cond (.t 26) (.seq (.region [⟨(some 4), .mov (.k (.c (.bool false))), none⟩])
  .ret) .skip)))
  (.region [⟨(some 15), .mov (.t 5), none⟩, ⟨(some 16), .bin .add .int (.t 15) (.k (.c (.int .i64 1))), none⟩, ⟨(some 5), .mov (.t 16), none⟩])))
def k72 : KF := ⟨27, (.seq (.region [⟨(some 4), .mov (.k (.c (.bool false))), none⟩])
  (.seq (.seq (.region [⟨(some 6), .mov (.t 0), none⟩, ⟨(some 7), .len false (.t 6), none⟩, ⟨(some 8), .mov (.t 1), none⟩, ⟨(some 9), .len false (.t 8), none⟩, ⟨(some 10), .bin .neq .int (.t 7) (.t 9), none⟩])
  (.cond (.t 10) (.seq (.region [⟨(some 4), .mov (.k (.c (.bool false))), none⟩])
  .ret) .skip))
  (.seq (.seq (.region [⟨(some 5), .mov (.k (.c (.int .i64 0))), none⟩])
  (.block 0 (.loop l72_0)))
  (.seq (.region [⟨(some 4), .mov (.k (.c (.bool true))), none⟩])
  .ret)))), [.tmp 4], true⟩
theorem c72 : kk 72 = some k72 := by kernel_rfl
/-- loop.example/g01263/laws.eqGrain -/
def l73_0 : KC := (.seq (.seq (.region [⟨(some 6), .mov (.t 5), none⟩, ⟨(some 7), .bin .lss .int (.t 6) (.k (.c (.int .i64 16))), none⟩])
  (.cond (.t 7) .skip (.exit 0)))
  (.seq (.block 1 (.seq (.drawn [(⟨(some 10), .mov (.t 5), none⟩, []), (⟨(some 11), .idxA 16 1 (.t 2) (.t 10), none⟩, []), (⟨(some 12), .load1 (.t 11), none⟩, []), (⟨(some 13), .mov (.t 5), none⟩, []), (⟨(some 14), .idxA 16 1 (.t 3) (.t 13), none⟩, []), (⟨(some 15), .load1 (.t 14), none⟩, []), (⟨(some 16), .bin .neq .int (.t 12) (.t 15), none⟩, [])])
  (.cond (.t 16) (.seq (.region [⟨(some 4), .mov (.k (.c (.bool false))), none⟩])
  .ret) .skip)))
  (.region [⟨(some 8), .mov (.t 5), none⟩, ⟨(some 9), .bin .add .int (.t 8) (.k (.c (.int .i64 1))), none⟩, ⟨(some 5), .mov (.t 9), none⟩])))
def k73 : KF := ⟨17, (.seq (.region [⟨(some 2), .box 37 (.t 0), none⟩, ⟨(some 3), .box 37 (.t 1), none⟩, ⟨(some 4), .mov (.k (.c (.bool false))), none⟩])
  (.seq (.seq (.region [⟨(some 5), .mov (.k (.c (.int .i64 0))), none⟩])
  (.block 0 (.loop l73_0)))
  (.seq (.region [⟨(some 4), .mov (.k (.c (.bool true))), none⟩])
  .ret))), [.tmp 4], true⟩
theorem c73 : kk 73 = some k73 := by kernel_rfl
/-- loop.example/g01263/spec.l01Grain -/
def l79_0 : KC := (.seq (.seq (.region [⟨(some 4), .mov (.t 3), none⟩, ⟨(some 5), .bin .lss .int (.t 4) (.k (.c (.int .i64 16))), none⟩])
  (.cond (.t 5) .skip (.exit 0)))
  (.seq (.block 1 (.seq (.region [⟨(some 8), .mov (.t 3), none⟩, ⟨(some 9), .idxA 16 1 (.t 1) (.t 8), none⟩, ⟨(some 10), .load1 (.t 9), none⟩, ⟨(some 11), .bin .lss .int (.t 10) (.k (.c (.int .i8 (-3)))), none⟩, ⟨(some 12), .mov (.t 11), none⟩, ⟨(some 13), .mov (.t 3), some (12, false)⟩, ⟨(some 14), .idxA 16 1 (.t 1) (.t 13), some (12, false)⟩, ⟨(some 15), .load1 (.t 14), some (12, false)⟩, ⟨(some 16), .bin .gtr .int (.t 15) (.k (.c (.int .i8 3))), some (12, false)⟩, ⟨(some 17), .pick (.t 12) (.k (.c (.bool true))) (.t 16), none⟩])
  (.cond (.t 17) (.seq (.region [⟨(some 2), .mov (.k (.c (.bool false))), none⟩])
  .ret) .skip)))
  (.region [⟨(some 6), .mov (.t 3), none⟩, ⟨(some 7), .bin .add .int (.t 6) (.k (.c (.int .i64 1))), none⟩, ⟨(some 3), .mov (.t 7), none⟩])))
def k79 : KF := ⟨18, (.seq (.region [⟨(some 1), .box 37 (.t 0), none⟩, ⟨(some 2), .mov (.k (.c (.bool false))), none⟩])
  (.seq (.seq (.region [⟨(some 3), .mov (.k (.c (.int .i64 0))), none⟩])
  (.block 0 (.loop l79_0)))
  (.seq (.region [⟨(some 2), .mov (.k (.c (.bool true))), none⟩])
  .ret))), [.tmp 2], true⟩
theorem c79 : kk 79 = some k79 := by kernel_rfl
/-- loop.example/g01263/spec.l00In -/
def k80 : KF := ⟨15, (.seq (.region [⟨(some 6), .mov (.k (.c (.bool false))), none⟩])
  (.seq (.region [⟨(some 7), .mov (.t 0), none⟩, ⟨(some 8), .mov (.t 1), none⟩, ⟨(some 9), .bin .geq .int (.t 7) (.t 8), none⟩, ⟨(some 10), .mov (.t 9), none⟩, ⟨(some 11), .mov (.t 0), some (10, true)⟩, ⟨(some 12), .mov (.t 2), some (10, true)⟩, ⟨(some 13), .bin .leq .int (.t 11) (.t 12), some (10, true)⟩, ⟨(some 14), .pick (.t 10) (.t 13) (.k (.c (.bool false))), none⟩, ⟨(some 6), .mov (.t 14), none⟩])
  .ret)), [.tmp 6], true⟩
theorem c80 : kk 80 = some k80 := by kernel_rfl
/-- loop.example/g01263/impl.worn -/
def l83_0 : KC := (.seq (.region [⟨(some 9), .bin .lss .int (.t 8) (.k (.c (.int .i64 16))), none⟩])
  (.seq (.cond (.t 9) .skip (.exit 0))
  (.seq (.block 1 (.seq (.region [⟨(some 10), .mov (.t 8), none⟩, ⟨(some 6), .mov (.t 10), none⟩])
  (.seq (.drawn [(⟨(some 11), .mov (.t 6), none⟩, []), (⟨(some 12), .idxA 16 1 (.t 2) (.t 11), none⟩, []), (⟨(some 13), .load1 (.t 12), none⟩, []), (⟨(some 14), .mov (.t 6), none⟩, []), (⟨(some 15), .idxA 16 1 (.t 3) (.t 14), none⟩, []), (⟨(some 16), .load1 (.t 15), none⟩, []), (⟨(some 17), .bin .add .int (.t 13) (.t 16), none⟩, []), (⟨(some 18), .bin .neq .int (.t 17) (.k (.c (.int .i8 0))), none⟩, [])])
  (.cond (.t 18) (.region [⟨(some 19), .mov (.t 5), none⟩, ⟨(some 20), .mov (.t 6), none⟩, ⟨(some 21), .buildSl 2 1 [(.int .i64 0)] [(0, 1, (.t 20))], none⟩, ⟨(some 22), .app 2 1 8 (.t 19) (.t 21), none⟩, ⟨(some 5), .mov (.t 22), none⟩]) .skip))))
  (.region [⟨(some 23), .bin .add .int (.t 8) (.k (.c (.int .i64 1))), none⟩, ⟨(some 8), .mov (.t 23), none⟩]))))
def k83 : KF := ⟨25, (.seq (.region [⟨(some 2), .box 37 (.t 0), none⟩, ⟨(some 3), .box 37 (.t 1), none⟩, ⟨(some 4), .mov (.k (.c (.slice none 0 (.exact 0)))), none⟩])
  (.seq (.region [⟨(some 7), .buildSl 2 0 [] [], none⟩, ⟨(some 5), .mov (.t 7), none⟩])
  (.seq (.seq (.region [⟨(some 8), .mov (.k (.c (.int .i64 0))), none⟩])
  (.block 0 (.loop l83_0)))
  (.seq (.region [⟨(some 24), .mov (.t 5), none⟩, ⟨(some 4), .mov (.t 24), none⟩])
  .ret)))), [.tmp 4], false⟩
theorem c83 : kk 83 = some k83 := by kernel_rfl
/-- loop.example/g01263/spec.l04Worn -/
def l84_0 : KC := (.seq (.seq (.region [⟨(some 8), .mov (.t 6), none⟩, ⟨(some 9), .bin .lss .int (.t 8) (.k (.c (.int .i64 16))), none⟩])
  (.cond (.t 9) .skip (.exit 0)))
  (.seq (.block 1 (.seq (.drawn [(⟨(some 12), .mov (.t 6), none⟩, []), (⟨(some 13), .idxA 16 1 (.t 2) (.t 12), none⟩, []), (⟨(some 14), .load1 (.t 13), none⟩, []), (⟨(some 15), .mov (.t 6), none⟩, []), (⟨(some 16), .idxA 16 1 (.t 3) (.t 15), none⟩, []), (⟨(some 17), .load1 (.t 16), none⟩, []), (⟨(some 18), .bin .add .int (.t 14) (.t 17), none⟩, []), (⟨(some 19), .bin .neq .int (.t 18) (.k (.c (.int .i8 0))), none⟩, [])])
  (.cond (.t 19) (.region [⟨(some 20), .mov (.t 5), none⟩, ⟨(some 21), .mov (.t 6), none⟩, ⟨(some 22), .buildSl 2 1 [(.int .i64 0)] [(0, 1, (.t 21))], none⟩, ⟨(some 23), .app 2 1 8 (.t 20) (.t 22), none⟩, ⟨(some 5), .mov (.t 23), none⟩]) .skip)))
  (.region [⟨(some 10), .mov (.t 6), none⟩, ⟨(some 11), .bin .add .int (.t 10) (.k (.c (.int .i64 1))), none⟩, ⟨(some 6), .mov (.t 11), none⟩])))
def k84 : KF := ⟨25, (.seq (.region [⟨(some 2), .box 37 (.t 0), none⟩, ⟨(some 3), .box 37 (.t 1), none⟩, ⟨(some 4), .mov (.k (.c (.slice none 0 (.exact 0)))), none⟩])
  (.seq (.region [⟨(some 7), .buildSl 2 0 [] [], none⟩, ⟨(some 5), .mov (.t 7), none⟩])
  (.seq (.seq (.region [⟨(some 6), .mov (.k (.c (.int .i64 0))), none⟩])
  (.block 0 (.loop l84_0)))
  (.seq (.region [⟨(some 24), .mov (.t 5), none⟩, ⟨(some 4), .mov (.t 24), none⟩])
  .ret)))), [.tmp 4], false⟩
theorem c84 : kk 84 = some k84 := by kernel_rfl
/-- loop.example/g01263/spec.IsInWood -/
def l86_0 : KC := (.seq (.seq (.region [⟨(some 6), .mov (.t 5), none⟩, ⟨(some 7), .bin .lss .int (.t 6) (.k (.c (.int .i64 4))), none⟩])
  (.cond (.t 7) .skip (.exit 0)))
  (.seq (.block 1 (.seq (.drawn [(⟨(some 10), .mov (.t 5), none⟩, []), (⟨(some 11), .idxA 4 1 (.t 2) (.t 10), none⟩, []), (⟨(some 12), .load1 (.t 11), none⟩, []), (⟨(some 13), .mov (.t 5), none⟩, []), (⟨(some 14), .idxA 4 1 (.t 3) (.t 13), none⟩, []), (⟨(some 15), .load1 (.t 14), none⟩, []), (⟨(some 16), .bin .andNot .int (.t 12) (.t 15), none⟩, []), (⟨(some 17), .bin .neq .int (.t 16) (.k (.c (.int .u64 0))), none⟩, [])])
  (.cond (.t 17) (.seq (.region [⟨(some 4), .mov (.k (.c (.bool false))), none⟩])
  .ret) .skip)))
  (.region [⟨(some 8), .mov (.t 5), none⟩, ⟨(some 9), .bin .add .int (.t 8) (.k (.c (.int .i64 1))), none⟩, ⟨(some 5), .mov (.t 9), none⟩])))
def k86 : KF := ⟨18, (.seq (.region [⟨(some 2), .box 25 (.t 0), none⟩, ⟨(some 3), .box 25 (.t 1), none⟩, ⟨(some 4), .mov (.k (.c (.bool false))), none⟩])
  (.seq (.seq (.region [⟨(some 5), .mov (.k (.c (.int .i64 0))), none⟩])
  (.block 0 (.loop l86_0)))
  (.seq (.region [⟨(some 4), .mov (.k (.c (.bool true))), none⟩])
  .ret))), [.tmp 4], true⟩
theorem c86 : kk 86 = some k86 := by kernel_rfl
/-- loop.example/g01263/impl.IsInWood -/
def l87_0 : KC := (.seq (.region [⟨(some 7), .bin .lss .int (.t 6) (.k (.c (.int .i64 4))), none⟩])
  (.seq (.cond (.t 7) .skip (.exit 0))
  (.seq (.block 1 (.seq (.region [⟨(some 8), .mov (.t 6), none⟩, ⟨(some 5), .mov (.t 8), none⟩])
  (.seq (.drawn [(⟨(some 9), .mov (.t 5), none⟩, []), (⟨(some 10), .idxA 4 1 (.t 2) (.t 9), none⟩, []), (⟨(some 11), .load1 (.t 10), none⟩, []), (⟨(some 12), .mov (.t 5), none⟩, []), (⟨(some 13), .idxA 4 1 (.t 3) (.t 12), none⟩, []), (⟨(some 14), .load1 (.t 13), none⟩, []), (⟨(some 15), .bin .andNot .int (.t 11) (.t 14), none⟩, []), (⟨(some 16), .bin .neq .int (.t 15) (.k (.c (.int .u64 0))), none⟩, [])])
  (.cond (.t 16) (.seq (.region [⟨(some 4), .mov (.k (.c (.bool false))), none⟩])
  .ret) .skip))))
  (.region [⟨(some 17), .bin .add .int (.t 6) (.k (.c (.int .i64 1))), none⟩, ⟨(some 6), .mov (.t 17), none⟩]))))
def k87 : KF := ⟨18, (.seq (.region [⟨(some 2), .box 25 (.t 0), none⟩, ⟨(some 3), .box 25 (.t 1), none⟩, ⟨(some 4), .mov (.k (.c (.bool false))), none⟩])
  (.seq (.seq (.region [⟨(some 6), .mov (.k (.c (.int .i64 0))), none⟩])
  (.block 0 (.loop l87_0)))
  (.seq (.region [⟨(some 4), .mov (.k (.c (.bool true))), none⟩])
  .ret))), [.tmp 4], true⟩
theorem c87 : kk 87 = some k87 := by kernel_rfl
/-- loop.example/g01263/spec.l04Pair -/
def k88 : KF := ⟨24, (.seq (.region [⟨(some 4), .mov (.k (.c (.int .i64 0))), none⟩])
  (.seq (.seq (.region [⟨(some 5), .mov (.t 0), none⟩, ⟨(some 6), .call (.k (.c (.fn 66 []))) [(.t 5)], none⟩, ⟨(some 7), .un .not (.t 6), none⟩, ⟨(some 8), .mov (.t 7), none⟩, ⟨(some 9), .mov (.t 1), some (8, false)⟩, ⟨(some 10), .call (.k (.c (.fn 66 []))) [(.t 9)], some (8, false)⟩, ⟨(some 11), .un .not (.t 10), some (8, false)⟩, ⟨(some 12), .pick (.t 8) (.k (.c (.bool true))) (.t 11), none⟩])
  (.cond (.t 12) (.seq (.region [⟨(some 4), .mov (.k (.c (.int .i64 1))), none⟩])
  .ret) .skip))
  (.seq (.seq (.region [⟨(some 13), .mov (.t 0), none⟩, ⟨(some 14), .nilchk (.t 13), none⟩, ⟨(some 15), .fldA 0 (.t 14), none⟩, ⟨(some 16), .load1 (.t 15), none⟩, ⟨(some 17), .un .not (.t 16), none⟩, ⟨(some 18), .mov (.t 17), none⟩, ⟨(some 19), .mov (.t 1), some (18, false)⟩, ⟨(some 20), .nilchk (.t 19), some (18, false)⟩, ⟨(some 21), .fldA 0 (.t 20), some (18, false)⟩, ⟨(some 22), .load1 (.t 21), some (18, false)⟩, ⟨(some 23), .pick (.t 18) (.k (.c (.bool true))) (.t 22), none⟩])
  (.cond (.t 23) (.seq (.region [⟨(some 4), .mov (.k (.c (.int .i64 4))), none⟩])
  .ret) .skip))
  (.seq (.region [⟨(some 4), .mov (.k (.c (.int .i64 0))), none⟩])
  .ret)))), [.tmp 4], true⟩
theorem c88 : kk 88 = some k88 := by kernel_rfl
/-- loop.example/g01263/spec.l04Lies -/
def k89 : KF := ⟨28, (.seq (.region [⟨(some 4), .mov (.k (.c (.int .i64 0))), none⟩])
  (.seq (.seq (.drawn [(⟨(some 7), .mov (.t 0), none⟩, []), (⟨(some 8), .nilchk (.t 7), none⟩, []), (⟨(some 9), .fldA 1 (.t 8), none⟩, []), (⟨(some 10), .load1 (.t 9), none⟩, []), (⟨(some 11), .mov (.t 1), none⟩, []), (⟨(some 12), .nilchk (.t 11), none⟩, []), (⟨(some 13), .fldA 1 (.t 12), none⟩, []), (⟨(some 14), .load1 (.t 13), none⟩, []), (⟨(some 15), .call (.k (.c (.fn 120 []))) [(.t 10), (.t 14)], none⟩, [])])
  (.cond (.t 15) (.seq (.region [⟨(some 4), .mov (.k (.c (.int .i64 0))), none⟩])
  .ret) .skip))
  (.seq (.region [⟨(some 16), .mov (.t 0), none⟩, ⟨(some 17), .call (.k (.c (.fn 67 []))) [(.t 16)], none⟩, ⟨(some 5), .alloc 25 [(.int .u64 0), (.int .u64 0), (.int .u64 0), (.int .u64 0)], none⟩, ⟨none, .store 4 (.t 5) (.t 17), none⟩])
  (.seq (.region [⟨(some 18), .mov (.t 1), none⟩, ⟨(some 19), .call (.k (.c (.fn 67 []))) [(.t 18)], none⟩, ⟨(some 6), .alloc 25 [(.int .u64 0), (.int .u64 0), (.int .u64 0), (.int .u64 0)], none⟩, ⟨none, .store 4 (.t 6) (.t 19), none⟩])
  (.seq (.block 0 (.seq (.region [⟨(some 21), .loadN 4 (.t 6), none⟩, ⟨(some 22), .loadN 4 (.t 5), none⟩, ⟨(some 23), .call (.k (.c (.fn 86 []))) [(.t 21), (.t 22)], none⟩, ⟨(some 20), .mov (.t 23), none⟩])
  (.cond (.t 20) (.seq (.region [⟨(some 4), .mov (.k (.c (.int .i64 1))), none⟩])
  .ret) (.seq (.region [⟨(some 25), .loadN 4 (.t 5), none⟩, ⟨(some 26), .loadN 4 (.t 6), none⟩, ⟨(some 27), .call (.k (.c (.fn 86 []))) [(.t 25), (.t 26)], none⟩, ⟨(some 24), .mov (.t 27), none⟩])
  (.cond (.t 24) (.seq (.region [⟨(some 4), .mov (.k (.c (.int .i64 2))), none⟩])
  .ret) .skip)))))
  (.seq (.region [⟨(some 4), .mov (.k (.c (.int .i64 3))), none⟩])
  .ret)))))), [.tmp 4], true⟩
theorem c89 : kk 89 = some k89 := by kernel_rfl
/-- loop.example/g01263/impl.pairCode -/
def l90_0 : KC := (.seq (.region [⟨(some 15), .bin .lss .int (.t 14) (.t 13), none⟩])
  (.seq (.cond (.t 15) .skip (.exit 0))
  (.seq (.block 1 (.seq (.region [⟨(some 16), .idxS 18 (.t 12) (.t 14), none⟩, ⟨(some 17), .loadN 18 (.t 16), none⟩, ⟨(some 6), .alloc 39 [(.bool false), (.slice none 0 (.exact 0)), (.int .i8 0), (.int .i8 0), (.int .i8 0), (.int .i8 0), (.int .i8 0), (.int .i8 0), (.int .i8 0), (.int .i8 0), (.int .i8 0), (.int .i8 0), (.int .i8 0), (.int .i8 0), (.int .i8 0), (.int .i8 0), (.int .i8 0), (.int .i8 0)], none⟩, ⟨none, .store 18 (.t 6) (.t 17), none⟩])
  (.seq (.region [⟨(some 18), .loadN 18 (.t 6), none⟩, ⟨(some 19), .call (.k (.c (.fn 70 []))) [(.t 18)], none⟩, ⟨(some 20), .un .not (.t 19), none⟩])
  (.cond (.t 20) (.seq (.region [⟨(some 4), .mov (.k (.c (.int .i64 1))), none⟩])
  .ret) .skip))))
  (.region [⟨(some 21), .bin .add .int (.t 14) (.k (.c (.int .i64 1))), none⟩, ⟨(some 14), .mov (.t 21), none⟩]))))
def l90_1 : KC := (.seq (.region [⟨(some 28), .bin .lss .int (.t 27) (.t 26), none⟩])
  (.seq (.cond (.t 28) .skip (.exit 2))
  (.seq (.block 3 (.seq (.region [⟨(some 29), .idxS 18 (.t 25) (.t 27), none⟩, ⟨(some 30), .loadN 18 (.t 29), none⟩, ⟨(some 8), .alloc 39 [(.bool false), (.slice none 0 (.exact 0)), (.int .i8 0), (.int .i8 0), (.int .i8 0), (.int .i8 0), (.int .i8 0), (.int .i8 0), (.int .i8 0), (.int .i8 0), (.int .i8 0), (.int .i8 0), (.int .i8 0), (.int .i8 0), (.int .i8 0), (.int .i8 0), (.int .i8 0), (.int .i8 0)], none⟩, ⟨none, .store 18 (.t 8) (.t 30), none⟩])
  (.seq (.region [⟨(some 31), .fldA 0 (.t 8), none⟩, ⟨(some 32), .load1 (.t 31), none⟩])
  (.cond (.t 32) (.seq (.region [⟨(some 4), .mov (.k (.c (.int .i64 4))), none⟩])
  .ret) .skip))))
  (.region [⟨(some 33), .bin .add .int (.t 27) (.k (.c (.int .i64 1))), none⟩, ⟨(some 27), .mov (.t 33), none⟩]))))
def k90 : KF := ⟨34, (.seq (.region [⟨(some 2), .box 39 (.t 0), none⟩, ⟨(some 4), .mov (.k (.c (.int .i64 0))), none⟩])
  (.seq (.seq (.region [⟨(some 9), .loadN 18 (.t 2), none⟩, ⟨(some 10), .call (.k (.c (.fn 70 []))) [(.t 9)], none⟩, ⟨(some 11), .un .not (.t 10), none⟩])
  (.cond (.t 11) (.seq (.region [⟨(some 4), .mov (.k (.c (.int .i64 1))), none⟩])
  .ret) .skip))
  (.seq (.seq (.region [⟨(some 12), .mov (.t 1), none⟩, ⟨(some 13), .len false (.t 12), none⟩, ⟨(some 14), .mov (.k (.c (.int .i64 0))), none⟩])
  (.block 0 (.loop l90_0)))
  (.seq (.seq (.region [⟨(some 22), .fldA 0 (.t 2), none⟩, ⟨(some 23), .load1 (.t 22), none⟩, ⟨(some 24), .un .not (.t 23), none⟩])
  (.cond (.t 24) (.seq (.region [⟨(some 4), .mov (.k (.c (.int .i64 4))), none⟩])
  .ret) .skip))
  (.seq (.seq (.region [⟨(some 25), .mov (.t 1), none⟩, ⟨(some 26), .len false (.t 25), none⟩, ⟨(some 27), .mov (.k (.c (.int .i64 0))), none⟩])
  (.block 2 (.loop l90_1)))
  (.seq (.region [⟨(some 4), .mov (.k (.c (.int .i64 0))), none⟩])
  .ret)))))), [.tmp 4], true⟩
theorem c90 : kk 90 = some k90 := by kernel_rfl
/-- loop.example/g01263/impl.lies -/
def k91 : KF := ⟨25, (.seq (.region [⟨(some 2), .box 39 (.t 0), none⟩, ⟨(some 3), .box 39 (.t 1), none⟩, ⟨(some 4), .mov (.k (.c (.int .i64 0))), none⟩])
  (.seq (.drawn [(⟨(some 7), .loadN 18 (.t 2), none⟩, []), (⟨(some 9), .loadN 18 (.t 3), none⟩, []), (⟨(some 8), .call (.k (.c (.fn 71 []))) [(.t 7)], none⟩, [⟨(some 9), .loadN 18 (.t 3), none⟩]), (⟨(some 10), .call (.k (.c (.fn 71 []))) [(.t 9)], none⟩, []), (⟨(some 5), .alloc 25 [(.int .u64 0), (.int .u64 0), (.int .u64 0), (.int .u64 0)], none⟩, [⟨(some 7), .loadN 18 (.t 2), none⟩, ⟨(some 9), .loadN 18 (.t 3), none⟩]), (⟨(some 6), .alloc 25 [(.int .u64 0), (.int .u64 0), (.int .u64 0), (.int .u64 0)], none⟩, [⟨(some 7), .loadN 18 (.t 2), none⟩, ⟨(some 9), .loadN 18 (.t 3), none⟩]), (⟨none, .store 4 (.t 5) (.t 8), none⟩, []), (⟨none, .store 4 (.t 6) (.t 10), none⟩, [])])
  (.seq (.block 0 (.seq (.region [⟨(some 12), .fldA 1 (.t 2), none⟩, ⟨(some 13), .load1 (.t 12), none⟩, ⟨(some 14), .fldA 1 (.t 3), none⟩, ⟨(some 15), .load1 (.t 14), none⟩, ⟨(some 16), .call (.k (.c (.fn 121 []))) [(.t 13), (.t 15)], none⟩, ⟨(some 11), .mov (.t 16), none⟩])
  (.cond (.t 11) (.seq (.region [⟨(some 4), .mov (.k (.c (.int .i64 0))), none⟩])
  .ret) (.seq (.region [⟨(some 18), .loadN 4 (.t 6), none⟩, ⟨(some 19), .loadN 4 (.t 5), none⟩, ⟨(some 20), .call (.k (.c (.fn 87 []))) [(.t 18), (.t 19)], none⟩, ⟨(some 17), .mov (.t 20), none⟩])
  (.cond (.t 17) (.seq (.region [⟨(some 4), .mov (.k (.c (.int .i64 1))), none⟩])
  .ret) (.seq (.region [⟨(some 22), .loadN 4 (.t 5), none⟩, ⟨(some 23), .loadN 4 (.t 6), none⟩, ⟨(some 24), .call (.k (.c (.fn 87 []))) [(.t 22), (.t 23)], none⟩, ⟨(some 21), .mov (.t 24), none⟩])
  (.cond (.t 21) (.seq (.region [⟨(some 4), .mov (.k (.c (.int .i64 2))), none⟩])
  .ret) .skip)))))))
  (.seq (.region [⟨(some 4), .mov (.k (.c (.int .i64 3))), none⟩])
  .ret)))), [.tmp 4], true⟩
theorem c91 : kk 91 = some k91 := by kernel_rfl
/-- loop.example/g01263/spec.l04Fits -/
def k93 : KF := ⟨28, (.seq (.region [⟨(some 6), .mov (.k (.c (.bool false))), none⟩])
  (.seq (.drawn [(⟨(some 7), .mov (.t 0), none⟩, []), (⟨(some 8), .nilchk (.t 7), none⟩, []), (⟨(some 9), .fldA 1 (.t 8), none⟩, []), (⟨(some 10), .load1 (.t 9), none⟩, []), (⟨(some 11), .mov (.t 1), none⟩, []), (⟨(some 12), .nilchk (.t 11), none⟩, []), (⟨(some 13), .fldA 1 (.t 12), none⟩, []), (⟨(some 14), .load1 (.t 13), none⟩, []), (⟨(some 15), .call (.k (.c (.fn 120 []))) [(.t 10), (.t 14)], none⟩, []), (⟨(some 16), .mov (.t 15), none⟩, []), (⟨(some 17), .mov (.t 0), some (16, true)⟩, []), (⟨(some 18), .nilchk (.t 17), some (16, true)⟩, []), (⟨(some 19), .fldA 2 (.t 18), some (16, true)⟩, []), (⟨(some 20), .loadN 16 (.t 19), some (16, true)⟩, []), (⟨(some 21), .mov (.t 1), some (16, true)⟩, []), (⟨(some 22), .nilchk (.t 21), some (16, true)⟩, []), (⟨(some 23), .fldA 2 (.t 22), some (16, true)⟩, []), (⟨(some 24), .loadN 16 (.t 23), some (16, true)⟩, []), (⟨(some 25), .mov (.t 2), some (16, true)⟩, []), (⟨(some 26), .call (.k (.c (.fn 122 []))) [(.t 20), (.t 24), (.t 25)], some (16, true)⟩, []), (⟨(some 27), .pick (.t 16) (.t 26) (.k (.c (.bool false))), none⟩, []), (⟨(some 6), .mov (.t 27), none⟩, [])])
  .ret)), [.tmp 6], true⟩
theorem c93 : kk 93 = some k93 := by kernel_rfl
/-- loop.example/g01263/impl.isWear -/
def k94 : KF := ⟨9, (.seq (.region [⟨(some 2), .mov (.k (.c (.bool false))), none⟩])
  (.seq (.region [⟨(some 3), .mov (.t 0), none⟩, ⟨(some 4), .bin .geq .int (.t 3) (.k (.c (.int .i64 0))), none⟩, ⟨(some 5), .mov (.t 4), none⟩, ⟨(some 6), .mov (.t 0), some (5, true)⟩, ⟨(some 7), .bin .leq .int (.t 6) (.k (.c (.int .i64 16))), some (5, true)⟩, ⟨(some 8), .pick (.t 5) (.t 7) (.k (.c (.bool false))), none⟩, ⟨(some 2), .mov (.t 8), none⟩])
  .ret)), [.tmp 2], true⟩
theorem c94 : kk 94 = some k94 := by kernel_rfl
/-- loop.example/g01263/impl.fits -/
def k95 : KF := ⟨20, (.seq (.region [⟨(some 3), .box 39 (.t 0), none⟩, ⟨(some 4), .box 39 (.t 1), none⟩, ⟨(some 6), .mov (.k (.c (.bool false))), none⟩])
  (.seq (.region [⟨(some 7), .fldA 1 (.t 3), none⟩, ⟨(some 8), .load1 (.t 7), none⟩, ⟨(some 9), .fldA 1 (.t 4), none⟩, ⟨(some 10), .load1 (.t 9), none⟩, ⟨(some 11), .call (.k (.c (.fn 121 []))) [(.t 8), (.t 10)], none⟩, ⟨(some 12), .mov (.t 11), none⟩, ⟨(some 13), .fldA 2 (.t 3), some (12, true)⟩, ⟨(some 14), .loadN 16 (.t 13), some (12, true)⟩, ⟨(some 15), .fldA 2 (.t 4), some (12, true)⟩, ⟨(some 16), .loadN 16 (.t 15), some (12, true)⟩, ⟨(some 17), .mov (.t 2), some (12, true)⟩, ⟨(some 18), .call (.k (.c (.fn 123 []))) [(.t 14), (.t 16), (.t 17)], some (12, true)⟩, ⟨(some 19), .pick (.t 12) (.t 18) (.k (.c (.bool false))), none⟩, ⟨(some 6), .mov (.t 19), none⟩])
  .ret)), [.tmp 6], true⟩
theorem c95 : kk 95 = some k95 := by kernel_rfl
/-- loop.example/g01263/spec.l01Sum -/
def l98_0 : KC := (.seq (.seq (.region [⟨(some 5), .mov (.t 4), none⟩, ⟨(some 6), .mov (.t 0), none⟩, ⟨(some 7), .len false (.t 6), none⟩, ⟨(some 8), .bin .lss .int (.t 5) (.t 7), none⟩])
  (.cond (.t 8) .skip (.exit 0)))
  (.seq (.block 1 (.drawn [(⟨(some 11), .mov (.t 3), none⟩, []), (⟨(some 13), .mov (.t 0), none⟩, []), (⟨(some 14), .mov (.t 4), none⟩, []), (⟨(some 15), .idxS 2 (.t 13) (.t 14), none⟩, []), (⟨(some 16), .fldA 0 (.t 15), none⟩, []), (⟨(some 17), .load1 (.t 16), none⟩, []), (⟨(some 12), .call (.k (.c (.fn 125 []))) [], none⟩, [⟨(some 17), .load1 (.t 16), none⟩]), (⟨(some 18), .idxS 1 (.t 12) (.t 17), none⟩, []), (⟨(some 19), .load1 (.t 18), none⟩, []), (⟨(some 20), .bin .add .int (.t 11) (.t 19), none⟩, []), (⟨(some 3), .mov (.t 20), none⟩, [])]))
  (.region [⟨(some 9), .mov (.t 4), none⟩, ⟨(some 10), .bin .add .int (.t 9) (.k (.c (.int .i64 1))), none⟩, ⟨(some 4), .mov (.t 10), none⟩])))
def k98 : KF := ⟨22, (.seq (.region [⟨(some 2), .mov (.k (.c (.int .i64 0))), none⟩])
  (.seq (.region [⟨(some 3), .mov (.k (.c (.int .i64 0))), none⟩])
  (.seq (.seq (.region [⟨(some 4), .mov (.k (.c (.int .i64 0))), none⟩])
  (.block 0 (.loop l98_0)))
  (.seq (.region [⟨(some 21), .mov (.t 3), none⟩, ⟨(some 2), .mov (.t 21), none⟩])
  .ret)))), [.tmp 2], true⟩
theorem c98 : kk 98 = some k98 := by kernel_rfl
/-- loop.example/g01263/impl.amountOf -/
def l99_0 : KC := (.seq (.region [⟨(some 10), .bin .lss .int (.t 9) (.t 8), none⟩])
  (.seq (.cond (.t 10) .skip (.exit 0))
  (.seq (.block 1 (.seq (.region [⟨(some 11), .idxS 2 (.t 7) (.t 9), none⟩, ⟨(some 12), .loadN 2 (.t 11), none⟩, ⟨(some 5), .alloc 134 [(.int .i8 0), (.int .i16 0)], none⟩, ⟨none, .store 2 (.t 5) (.t 12), none⟩])
  (.region [⟨(some 13), .mov (.t 3), none⟩, ⟨(some 14), .fldA 0 (.t 5), none⟩, ⟨(some 15), .load1 (.t 14), none⟩, ⟨(some 16), .conv .i64 (.t 15), none⟩, ⟨(some 17), .call (.k (.c (.fn 126 []))) [(.t 16)], none⟩, ⟨(some 18), .bin .add .int (.t 13) (.t 17), none⟩, ⟨(some 3), .mov (.t 18), none⟩])))
  (.region [⟨(some 19), .bin .add .int (.t 9) (.k (.c (.int .i64 1))), none⟩, ⟨(some 9), .mov (.t 19), none⟩]))))
def k99 : KF := ⟨21, (.seq (.region [⟨(some 1), .box 39 (.t 0), none⟩, ⟨(some 2), .mov (.k (.c (.int .i64 0))), none⟩])
  (.seq (.region [⟨(some 3), .mov (.k (.c (.int .i64 0))), none⟩])
  (.seq (.seq (.region [⟨(some 6), .fldA 1 (.t 1), none⟩, ⟨(some 7), .load1 (.t 6), none⟩, ⟨(some 8), .len false (.t 7), none⟩, ⟨(some 9), .mov (.k (.c (.int .i64 0))), none⟩])
  (.block 0 (.loop l99_0)))
  (.seq (.region [⟨(some 20), .mov (.t 3), none⟩, ⟨(some 2), .mov (.t 20), none⟩])
  .ret)))), [.tmp 2], true⟩
theorem c99 : kk 99 = some k99 := by kernel_rfl
/-- loop.example/g01263/laws.eqInt64S -/
def l100_0 : KC := (.seq (.seq (.region [⟨(some 11), .mov (.t 5), none⟩, ⟨(some 12), .mov (.t 0), none⟩, ⟨(some 13), .len false (.t 12), none⟩, ⟨(some 14), .bin .lss .int (.t 11) (.t 13), none⟩])
  (.cond (.t 14) .skip (.exit 0)))
  (.seq (.block 1 (.seq (.drawn [(⟨(some 17), .mov (.t 0), none⟩, []), (⟨(some 18), .mov (.t 5), none⟩, []), (⟨(some 19), .idxS 1 (.t 17) (.t 18), none⟩, []), (⟨(some 20), .load1 (.t 19), none⟩, []), (⟨(some 21), .mov (.t 1), none⟩, []), (⟨(some 22), .mov (.t 5), none⟩, []), (⟨(some 23), .idxS 1 (.t 21) (.t 22), none⟩, []), (⟨(some 24), .load1 (.t 23), none⟩, []), (⟨(some 25), .bin .neq .int (.t 20) (.t 24), none⟩, [])])
  (.cond (.t 25) (.seq (.region [⟨(some 4), .mov (.k (.c (.bool false))), none⟩])
  .ret) .skip)))
  (.region [⟨(some 15), .mov (.t 5), none⟩, ⟨(some 16), .bin .add .int (.t 15) (.k (.c (.int .i64 1))), none⟩, ⟨(some 5), .mov (.t 16), none⟩])))
def k100 : KF := ⟨26, (.seq (.region [⟨(some 4), .mov (.k (.c (.bool false))), none⟩])
  (.seq (.seq (.region [⟨(some 6), .mov (.t 0), none⟩, ⟨(some 7), .len false (.t 6), none⟩, ⟨(some 8), .mov (.t 1), none⟩, ⟨(some 9), .len false (.t 8), none⟩, ⟨(some 10), .bin .neq .int (.t 7) (.t 9), none⟩])
  (.cond (.t 10) (.seq (.region [⟨(some 4), .mov (.k (.c (.bool false))), none⟩])
  .ret) .skip))
  (.seq (.seq (.region [⟨(some 5), .mov (.k (.c (.int .i64 0))), none⟩])
  (.block 0 (.loop l100_0)))
  (.seq (.region [⟨(some 4), .mov (.k (.c (.bool true))), none⟩])
  .ret)))), [.tmp 4], true⟩
theorem c100 : kk 100 = some k100 := by kernel_rfl
/-- loop.example/g01263/laws.markNotchS -/
def l101_0 : KC := (.seq (.seq (.region [⟨(some 6), .mov (.t 5), none⟩, ⟨(some 7), .mov (.t 0), none⟩, ⟨(some 8), .len false (.t 7), none⟩, ⟨(some 9), .bin .lss .int (.t 6) (.t 8), none⟩])
  (.cond (.t 9) .skip (.exit 0)))
  (.seq (.block 1 (.seq (.region [⟨(some 12), .mov (.t 0), none⟩, ⟨(some 13), .mov (.t 5), none⟩, ⟨(some 14), .mov (.t 1), none⟩, ⟨(some 15), .conv .i8 (.t 14), none⟩, ⟨(some 16), .idxS 2 (.t 12) (.t 13), none⟩, ⟨(some 17), .fldA 0 (.t 16), none⟩, ⟨none, .store 1 (.t 17) (.t 15), none⟩])
  (.seq (.region [⟨(some 18), .mov (.t 1), none⟩, ⟨(some 19), .bin .add .int (.t 18) (.k (.c (.int .i64 1))), none⟩, ⟨(some 1), .mov (.t 19), none⟩])
  (.seq (.region [⟨(some 20), .mov (.t 0), none⟩, ⟨(some 21), .mov (.t 5), none⟩, ⟨(some 22), .mov (.t 1), none⟩, ⟨(some 23), .conv .i16 (.t 22), none⟩, ⟨(some 24), .idxS 2 (.t 20) (.t 21), none⟩, ⟨(some 25), .fldA 1 (.t 24), none⟩, ⟨none, .store 1 (.t 25) (.t 23), none⟩])
  (.region [⟨(some 26), .mov (.t 1), none⟩, ⟨(some 27), .bin .add .int (.t 26) (.k (.c (.int .i64 1))), none⟩, ⟨(some 1), .mov (.t 27), none⟩])))))
  (.region [⟨(some 10), .mov (.t 5), none⟩, ⟨(some 11), .bin .add .int (.t 10) (.k (.c (.int .i64 1))), none⟩, ⟨(some 5), .mov (.t 11), none⟩])))
def k101 : KF := ⟨29, (.seq (.region [⟨(some 4), .mov (.k (.c (.int .i64 0))), none⟩])
  (.seq (.seq (.region [⟨(some 5), .mov (.k (.c (.int .i64 0))), none⟩])
  (.block 0 (.loop l101_0)))
  (.seq (.region [⟨(some 28), .mov (.t 1), none⟩, ⟨(some 4), .mov (.t 28), none⟩])
  .ret))), [.tmp 4], true⟩
theorem c101 : kk 101 = some k101 := by kernel_rfl
/-- loop.example/g01263/laws.markInt64S -/
def l102_0 : KC := (.seq (.seq (.region [⟨(some 6), .mov (.t 5), none⟩, ⟨(some 7), .mov (.t 0), none⟩, ⟨(some 8), .len false (.t 7), none⟩, ⟨(some 9), .bin .lss .int (.t 6) (.t 8), none⟩])
  (.cond (.t 9) .skip (.exit 0)))
  (.seq (.block 1 (.seq (.region [⟨(some 12), .mov (.t 0), none⟩, ⟨(some 13), .mov (.t 5), none⟩, ⟨(some 14), .mov (.t 1), none⟩, ⟨(some 15), .idxS 1 (.t 12) (.t 13), none⟩, ⟨none, .store 1 (.t 15) (.t 14), none⟩])
  (.region [⟨(some 16), .mov (.t 1), none⟩, ⟨(some 17), .bin .add .int (.t 16) (.k (.c (.int .i64 1))), none⟩, ⟨(some 1), .mov (.t 17), none⟩])))
  (.region [⟨(some 10), .mov (.t 5), none⟩, ⟨(some 11), .bin .add .int (.t 10) (.k (.c (.int .i64 1))), none⟩, ⟨(some 5), .mov (.t 11), none⟩])))
def k102 : KF := ⟨19, (.seq (.region [⟨(some 4), .mov (.k (.c (.int .i64 0))), none⟩])
  (.seq (.seq (.region [⟨(some 5), .mov (.k (.c (.int .i64 0))), none⟩])
  (.block 0 (.loop l102_0)))
  (.seq (.region [⟨(some 18), .mov (.t 1), none⟩, ⟨(some 4), .mov (.t 18), none⟩])
  .ret))), [.tmp 4], true⟩
theorem c102 : kk 102 = some k102 := by kernel_rfl
/-- loop.example/g01263/laws.heldInt64S -/
def l103_0 : KC := (.seq (.seq (.region [⟨(some 6), .mov (.t 5), none⟩, ⟨(some 7), .mov (.t 0), none⟩, ⟨(some 8), .len false (.t 7), none⟩, ⟨(some 9), .bin .lss .int (.t 6) (.t 8), none⟩])
  (.cond (.t 9) .skip (.exit 0)))
  (.seq (.block 1 (.seq (.seq (.region [⟨(some 12), .mov (.t 0), none⟩, ⟨(some 13), .mov (.t 5), none⟩, ⟨(some 14), .idxS 1 (.t 12) (.t 13), none⟩, ⟨(some 15), .load1 (.t 14), none⟩, ⟨(some 16), .mov (.t 1), none⟩, ⟨(some 17), .bin .neq .int (.t 15) (.t 16), none⟩])
  (.cond (.t 17) (.seq (.region [⟨(some 4), .mov (.k (.c (.int .i64 (-1)))), none⟩])
  .ret) .skip))
  (.region [⟨(some 18), .mov (.t 1), none⟩, ⟨(some 19), .bin .add .int (.t 18) (.k (.c (.int .i64 1))), none⟩, ⟨(some 1), .mov (.t 19), none⟩])))
  (.region [⟨(some 10), .mov (.t 5), none⟩, ⟨(some 11), .bin .add .int (.t 10) (.k (.c (.int .i64 1))), none⟩, ⟨(some 5), .mov (.t 11), none⟩])))
def k103 : KF := ⟨21, (.seq (.region [⟨(some 4), .mov (.k (.c (.int .i64 0))), none⟩])
  (.seq (.seq (.region [⟨(some 5), .mov (.k (.c (.int .i64 0))), none⟩])
  (.block 0 (.loop l103_0)))
  (.seq (.region [⟨(some 20), .mov (.t 1), none⟩, ⟨(some 4), .mov (.t 20), none⟩])
  .ret))), [.tmp 4], true⟩
theorem c103 : kk 103 = some k103 := by kernel_rfl
/-- loop.example/g01263/spec.l01Notches -/
def l110_0 : KC := (.seq (.seq (.region [⟨(some 8), .mov (.t 3), none⟩, ⟨(some 9), .mov (.t 0), none⟩, ⟨(some 10), .len false (.t 9), none⟩, ⟨(some 11), .bin .lss .int (.t 8) (.t 10), none⟩])
  (.cond (.t 11) .skip (.exit 0)))
  (.seq (.block 1 (.seq (.region [⟨(some 14), .mov (.t 0), none⟩, ⟨(some 15), .mov (.t 3), none⟩, ⟨(some 16), .idxS 2 (.t 14) (.t 15), none⟩, ⟨(some 17), .loadN 2 (.t 16), none⟩, ⟨(some 4), .alloc 134 [(.int .i8 0), (.int .i16 0)], none⟩, ⟨none, .store 2 (.t 4) (.t 17), none⟩])
  (.seq (.seq (.region [⟨(some 18), .fldA 0 (.t 4), none⟩, ⟨(some 19), .load1 (.t 18), none⟩, ⟨(some 20), .conv .i64 (.t 19), none⟩, ⟨(some 21), .call (.k (.c (.fn 128 []))) [(.t 20)], none⟩, ⟨(some 22), .un .not (.t 21), none⟩, ⟨(some 23), .mov (.t 22), none⟩, ⟨(some 24), .fldA 1 (.t 4), some (23, false)⟩, ⟨(some 25), .load1 (.t 24), some (23, false)⟩, ⟨(some 26), .bin .lss .int (.t 25) (.k (.c (.int .i16 0))), some (23, false)⟩, ⟨(some 27), .pick (.t 23) (.k (.c (.bool true))) (.t 26), none⟩, ⟨(some 28), .mov (.t 27), none⟩, ⟨(some 29), .loadN 2 (.t 4), some (28, false)⟩, ⟨(some 30), .call (.k (.c (.fn 111 []))) [(.t 29)], some (28, false)⟩, ⟨(some 31), .bin .gtr .int (.t 30) (.k (.c (.int .i64 200))), some (28, false)⟩, ⟨(some 32), .pick (.t 28) (.k (.c (.bool true))) (.t 31), none⟩])
  (.cond (.t 32) (.seq (.region [⟨(some 2), .mov (.k (.c (.bool false))), none⟩])
  .ret) .skip))
  (.seq (.drawn [(⟨(some 33), .mov (.t 3), none⟩, []), (⟨(some 34), .bin .gtr .int (.t 33) (.k (.c (.int .i64 0))), none⟩, []), (⟨(some 35), .mov (.t 34), none⟩, []), (⟨(some 36), .fldA 0 (.t 4), some (35, true)⟩, []), (⟨(some 37), .load1 (.t 36), some (35, true)⟩, []), (⟨(some 38), .mov (.t 0), some (35, true)⟩, []), (⟨(some 39), .mov (.t 3), some (35, true)⟩, []), (⟨(some 40), .bin .sub .int (.t 39) (.k (.c (.int .i64 1))), some (35, true)⟩, []), (⟨(some 41), .idxS 2 (.t 38) (.t 40), some (35, true)⟩, []), (⟨(some 42), .fldA 0 (.t 41), some (35, true)⟩, []), (⟨(some 43), .load1 (.t 42), some (35, true)⟩, []), (⟨(some 44), .bin .gtr .int (.t 37) (.t 43), some (35, true)⟩, []), (⟨(some 45), .mov (.t 44), some (35, true)⟩, []), (⟨(some 46), .fldA 1 (.t 4), some (45, false)⟩, []), (⟨(some 47), .load1 (.t 46), some (45, false)⟩, []), (⟨(some 48), .conv .i64 (.t 47), some (45, false)⟩, []), (⟨(some 49), .mov (.t 0), some (45, false)⟩, []), (⟨(some 50), .mov (.t 3), some (45, false)⟩, []), (⟨(some 51), .bin .sub .int (.t 50) (.k (.c (.int .i64 1))), some (45, false)⟩, []), (⟨(some 52), .idxS 2 (.t 49) (.t 51), some (45, false)⟩, []), (⟨(some 53), .loadN 2 (.t 52), some (45, false)⟩, []), (⟨(some 54), .call (.k (.c (.fn 111 []))) [(.t 53)], some (45, false)⟩, [⟨(some 47), .load1 (.t 46), some (45, false)⟩]), (⟨(some 55), .bin .leq .int (.t 48) (.t 54), some (45, false)⟩, []), (⟨(some 56), .pick (.t 45) (.k (.c (.bool true))) (.t 55), some (35, true)⟩, []), (⟨(some 57), .pick (.t 35) (.t 56) (.k (.c (.bool false))), none⟩, [])])
  (.cond (.t 57) (.seq (.region [⟨(some 2), .mov (.k (.c (.bool false))), none⟩])
  .ret) .skip)))))
  (.region [⟨(some 12), .mov (.t 3), none⟩, ⟨(some 13), .bin .add .int (.t 12) (.k (.c (.int .i64 1))), none⟩, ⟨(some 3), .mov (.t 13), none⟩])))
def k110 : KF := ⟨58, (.seq (.region [⟨(some 2), .mov (.k (.c (.bool false))), none⟩])
  (.seq (.seq (.region [⟨(some 5), .mov (.t 0), none⟩, ⟨(some 6), .len false (.t 5), none⟩, ⟨(some 7), .bin .gtr .int (.t 6) (.k (.c (.int .i64 60))), none⟩])
  (.cond (.t 7) (.seq (.region [⟨(some 2), .mov (.k (.c (.bool false))), none⟩])
  .ret) .skip))
  (.seq (.seq (.region [⟨(some 3), .mov (.k (.c (.int .i64 0))), none⟩])
  (.block 0 (.loop l110_0)))
  (.seq (.region [⟨(some 2), .mov (.k (.c (.bool true))), none⟩])
  .ret)))), [.tmp 2], true⟩
theorem c110 : kk 110 = some k110 := by kernel_rfl
/-- loop.example/g01263/spec.l01Ends -/
def k111 : KF := ⟨12, (.seq (.region [⟨(some 1), .box 134 (.t 0), none⟩, ⟨(some 2), .mov (.k (.c (.int .i64 0))), none⟩])
  (.seq (.drawn [(⟨(some 3), .fldA 1 (.t 1), none⟩, []), (⟨(some 4), .load1 (.t 3), none⟩, []), (⟨(some 5), .conv .i64 (.t 4), none⟩, []), (⟨(some 7), .fldA 0 (.t 1), none⟩, []), (⟨(some 8), .load1 (.t 7), none⟩, []), (⟨(some 6), .call (.k (.c (.fn 118 []))) [], none⟩, [⟨(some 4), .load1 (.t 3), none⟩, ⟨(some 8), .load1 (.t 7), none⟩]), (⟨(some 9), .idxS 1 (.t 6) (.t 8), none⟩, []), (⟨(some 10), .load1 (.t 9), none⟩, []), (⟨(some 11), .bin .add .int (.t 5) (.t 10), none⟩, []), (⟨(some 2), .mov (.t 11), none⟩, [])])
  .ret)), [.tmp 2], true⟩
theorem c111 : kk 111 = some k111 := by kernel_rfl
/-- loop.example/g01263/laws.toNotch -/
def k112 : KF := ⟨11, (.seq (.region [⟨(some 1), .box 137 (.t 0), none⟩, ⟨(some 2), .alloc 134 [(.int .i8 0), (.int .i16 0)], none⟩])
  (.seq (.region [⟨(some 3), .alloc 134 [(.int .i8 0), (.int .i16 0)], none⟩])
  (.seq (.region [⟨(some 4), .fldA 0 (.t 1), none⟩, ⟨(some 5), .load1 (.t 4), none⟩, ⟨(some 6), .fldA 0 (.t 3), none⟩, ⟨none, .store 1 (.t 6) (.t 5), none⟩])
  (.seq (.region [⟨(some 7), .fldA 1 (.t 1), none⟩, ⟨(some 8), .load1 (.t 7), none⟩, ⟨(some 9), .fldA 1 (.t 3), none⟩, ⟨none, .store 1 (.t 9) (.t 8), none⟩])
  (.seq (.region [⟨(some 10), .loadN 2 (.t 3), none⟩, ⟨none, .store 2 (.t 2) (.t 10), none⟩])
  .ret))))), [.cellN 2 2], true⟩
theorem c112 : kk 112 = some k112 := by kernel_rfl
/-- loop.example/g01263/impl.isKind -/
def k113 : KF := ⟨9, (.seq (.region [⟨(some 2), .mov (.k (.c (.bool false))), none⟩])
  (.seq (.region [⟨(some 3), .mov (.t 0), none⟩, ⟨(some 4), .bin .geq .int (.t 3) (.k (.c (.int .i64 0))), none⟩, ⟨(some 5), .mov (.t 4), none⟩, ⟨(some 6), .mov (.t 0), some (5, true)⟩, ⟨(some 7), .bin .leq .int (.t 6) (.k (.c (.int .i64 5))), some (5, true)⟩, ⟨(some 8), .pick (.t 5) (.t 7) (.k (.c (.bool false))), none⟩, ⟨(some 2), .mov (.t 8), none⟩])
  .ret)), [.tmp 2], true⟩
theorem c113 : kk 113 = some k113 := by kernel_rfl
/-- (loop.example/g01263/impl.Notch).end -/
def k114 : KF := ⟨11, (.seq (.region [⟨(some 1), .box 134 (.t 0), none⟩, ⟨(some 2), .mov (.k (.c (.int .i64 0))), none⟩])
  (.seq (.drawn [(⟨(some 3), .fldA 1 (.t 1), none⟩, []), (⟨(some 4), .load1 (.t 3), none⟩, []), (⟨(some 5), .conv .i64 (.t 4), none⟩, []), (⟨(some 6), .fldA 0 (.t 1), none⟩, []), (⟨(some 7), .load1 (.t 6), none⟩, []), (⟨(some 8), .conv .i64 (.t 7), none⟩, []), (⟨(some 9), .call (.k (.c (.fn 133 []))) [(.t 8)], none⟩, [⟨(some 4), .load1 (.t 3), none⟩]), (⟨(some 10), .bin .add .int (.t 5) (.t 9), none⟩, []), (⟨(some 2), .mov (.t 10), none⟩, [])])
  .ret)), [.tmp 2], true⟩
theorem c114 : kk 114 = some k114 := by kernel_rfl
/-- loop.example/g01263/laws.eqNotch -/
def k115 : KF := ⟨15, (.seq (.region [⟨(some 2), .box 134 (.t 0), none⟩, ⟨(some 3), .box 134 (.t 1), none⟩, ⟨(some 4), .mov (.k (.c (.bool false))), none⟩])
  (.seq (.seq (.region [⟨(some 5), .fldA 0 (.t 2), none⟩, ⟨(some 6), .load1 (.t 5), none⟩, ⟨(some 7), .fldA 0 (.t 3), none⟩, ⟨(some 8), .load1 (.t 7), none⟩, ⟨(some 9), .bin .neq .int (.t 6) (.t 8), none⟩])
  (.cond (.t 9) (.seq (.region [⟨(some 4), .mov (.k (.c (.bool false))), none⟩])
  .ret) .skip))
  (.seq (.seq (.region [⟨(some 10), .fldA 1 (.t 2), none⟩, ⟨(some 11), .load1 (.t 10), none⟩, ⟨(some 12), .fldA 1 (.t 3), none⟩, ⟨(some 13), .load1 (.t 12), none⟩, ⟨(some 14), .bin .neq .int (.t 11) (.t 13), none⟩])
  (.cond (.t 14) (.seq (.region [⟨(some 4), .mov (.k (.c (.bool false))), none⟩])
  .ret) .skip))
  (.seq (.region [⟨(some 4), .mov (.k (.c (.bool true))), none⟩])
  .ret)))), [.tmp 4], true⟩
theorem c115 : kk 115 = some k115 := by kernel_rfl
/-- loop.example/g01263/spec.l01Widths -/
def k118 : KF := ⟨2, (.seq (.region [⟨(some 0), .mov (.k (.c (.slice none 0 (.exact 0)))), none⟩])
  (.seq (.region [⟨(some 1), .buildSl 2 6 [(.int .i64 0), (.int .i64 0), (.int .i64 0), (.int .i64 0), (.int .i64 0), (.int .i64 0)] [(0, 1, (.k (.c (.int .i64 1)))), (1, 1, (.k (.c (.int .i64 2)))), (2, 1, (.k (.c (.int .i64 4)))), (3, 1, (.k (.c (.int .i64 6)))), (4, 1, (.k (.c (.int .i64 9)))), (5, 1, (.k (.c (.int .i64 12))))], none⟩, ⟨(some 0), .mov (.t 1), none⟩])
  .ret)), [.tmp 0], false⟩
theorem c118 : kk 118 = some k118 := by kernel_rfl
/-- loop.example/g01263/spec.l01SameNotches -/
def l120_0 : KC := (.seq (.seq (.region [⟨(some 11), .mov (.t 5), none⟩, ⟨(some 12), .mov (.t 0), none⟩, ⟨(some 13), .len false (.t 12), none⟩, ⟨(some 14), .bin .lss .int (.t 11) (.t 13), none⟩])
  (.cond (.t 14) .skip (.exit 0)))
  (.seq (.block 1 (.seq (.drawn [(⟨(some 17), .mov (.t 0), none⟩, []), (⟨(some 18), .mov (.t 5), none⟩, []), (⟨(some 19), .idxS 2 (.t 17) (.t 18), none⟩, []), (⟨(some 20), .loadN 2 (.t 19), none⟩, []), (⟨(some 21), .mov (.t 1), none⟩, []), (⟨(some 22), .mov (.t 5), none⟩, []), (⟨(some 23), .idxS 2 (.t 21) (.t 22), none⟩, []), (⟨(some 24), .loadN 2 (.t 23), none⟩, []), (⟨(some 25), .bin .neq (.agg [.int, .int]) (.t 20) (.t 24), none⟩, [])])
  (.cond (.t 25) (.seq (.region [⟨(some 4), .mov (.k (.c (.bool false))), none⟩])
  .ret) .skip)))
  (.region [⟨(some 15), .mov (.t 5), none⟩, ⟨(some 16), .bin .add .int (.t 15) (.k (.c (.int .i64 1))), none⟩, ⟨(some 5), .mov (.t 16), none⟩])))
def k120 : KF := ⟨26, (.seq (.region [⟨(some 4), .mov (.k (.c (.bool false))), none⟩])
  (.seq (.seq (.region [⟨(some 6), .mov (.t 0), none⟩, ⟨(some 7), .len false (.t 6), none⟩, ⟨(some 8), .mov (.t 1), none⟩, ⟨(some 9), .len false (.t 8), none⟩, ⟨(some 10), .bin .neq .int (.t 7) (.t 9), none⟩])
  (.cond (.t 10) (.seq (.region [⟨(some 4), .mov (.k (.c (.bool false))), none⟩])
  .ret) .skip))
  (.seq (.seq (.region [⟨(some 5), .mov (.k (.c (.int .i64 0))), none⟩])
  (.block 0 (.loop l120_0)))
  (.seq (.region [⟨(some 4), .mov (.k (.c (.bool true))), none⟩])
  .ret)))), [.tmp 4], true⟩
theorem c120 : kk 120 = some k120 := by kernel_rfl
/-- slices.Equal[[]loop.example/g01263/impl.Notch,loop.example/g01263/impl.Notch] -/
def l121_0 : KC := (.seq (.region [⟨(some 14), .bin .lss .int (.t 13) (.t 12), none⟩])
  (.seq (.cond (.t 14) .skip (.exit 0))
  (.seq (.block 1 (.seq (.region [⟨(some 15), .mov (.t 13), none⟩, ⟨(some 5), .mov (.t 15), none⟩])
  (.seq (.drawn [(⟨(some 16), .mov (.t 0), none⟩, []), (⟨(some 17), .mov (.t 5), none⟩, []), (⟨(some 18), .idxS 2 (.t 16) (.t 17), none⟩, []), (⟨(some 19), .loadN 2 (.t 18), none⟩, []), (⟨(some 20), .mov (.t 1), none⟩, []), (⟨(some 21), .mov (.t 5), none⟩, []), (⟨(some 22), .idxS 2 (.t 20) (.t 21), none⟩, []), (⟨(some 23), .loadN 2 (.t 22), none⟩, []), (⟨(some 24), .bin .neq (.agg [.int, .int]) (.t 19) (.t 23), none⟩, [])])
  (.cond (.t 24) (.seq (.region [⟨(some 4), .mov (.k (.c (.bool false))), none⟩])
  .ret) .skip))))
  (.region [⟨(some 25), .bin .add .int (.t 13) (.k (.c (.int .i64 1))), none⟩, ⟨(some 13), .mov (.t 25), none⟩]))))
def k121 : KF := ⟨26, (.seq (.region [⟨(some 4), .mov (.k (.c (.bool false))), none⟩])
  (.seq (.seq (.region [⟨(some 6), .mov (.t 0), none⟩, ⟨(some 7), .len false (.t 6), none⟩, ⟨(some 8), .mov (.t 1), none⟩, ⟨(some 9), .len false (.t 8), none⟩, ⟨(some 10), .bin .neq .int (.t 7) (.t 9), none⟩])
  (.cond (.t 10) (.seq (.region [⟨(some 4), .mov (.k (.c (.bool false))), none⟩])
  .ret) .skip))
  (.seq (.seq (.region [⟨(some 11), .mov (.t 0), none⟩, ⟨(some 12), .len false (.t 11), none⟩, ⟨(some 13), .mov (.k (.c (.int .i64 0))), none⟩])
  (.block 0 (.loop l121_0)))
  (.seq (.region [⟨(some 4), .mov (.k (.c (.bool true))), none⟩])
  .ret)))), [.tmp 4], true⟩
theorem c121 : kk 121 = some k121 := by kernel_rfl
/-- loop.example/g01263/spec.l01FitsGrain -/
def l122_0 : KC := (.seq (.seq (.region [⟨(some 10), .mov (.t 8), none⟩, ⟨(some 11), .bin .lss .int (.t 10) (.k (.c (.int .i64 16))), none⟩])
  (.cond (.t 11) .skip (.exit 0)))
  (.seq (.block 1 (.seq (.drawn [(⟨(some 14), .mov (.t 8), none⟩, []), (⟨(some 15), .idxA 16 1 (.t 3) (.t 14), none⟩, []), (⟨(some 16), .load1 (.t 15), none⟩, []), (⟨(some 17), .mov (.t 8), none⟩, []), (⟨(some 18), .idxA 16 1 (.t 4) (.t 17), none⟩, []), (⟨(some 19), .load1 (.t 18), none⟩, []), (⟨(some 20), .bin .add .int (.t 16) (.t 19), none⟩, []), (⟨(some 9), .mov (.t 20), none⟩, [])])
  (.seq (.seq (.region [⟨(some 21), .mov (.t 9), none⟩, ⟨(some 22), .bin .lss .int (.t 21) (.k (.c (.int .i8 (-1)))), none⟩, ⟨(some 23), .mov (.t 22), none⟩, ⟨(some 24), .mov (.t 9), some (23, false)⟩, ⟨(some 25), .bin .gtr .int (.t 24) (.k (.c (.int .i8 1))), some (23, false)⟩, ⟨(some 26), .pick (.t 23) (.k (.c (.bool true))) (.t 25), none⟩])
  (.cond (.t 26) (.seq (.region [⟨(some 6), .mov (.k (.c (.bool false))), none⟩])
  .ret) .skip))
  (.seq (.region [⟨(some 27), .mov (.t 9), none⟩, ⟨(some 28), .bin .neq .int (.t 27) (.k (.c (.int .i8 0))), none⟩])
  (.cond (.t 28) (.region [⟨(some 29), .mov (.t 7), none⟩, ⟨(some 30), .bin .add .int (.t 29) (.k (.c (.int .i64 1))), none⟩, ⟨(some 7), .mov (.t 30), none⟩]) .skip)))))
  (.region [⟨(some 12), .mov (.t 8), none⟩, ⟨(some 13), .bin .add .int (.t 12) (.k (.c (.int .i64 1))), none⟩, ⟨(some 8), .mov (.t 13), none⟩])))
def k122 : KF := ⟨34, (.seq (.region [⟨(some 3), .box 37 (.t 0), none⟩, ⟨(some 4), .box 37 (.t 1), none⟩, ⟨(some 6), .mov (.k (.c (.bool false))), none⟩])
  (.seq (.region [⟨(some 7), .mov (.k (.c (.int .i64 0))), none⟩])
  (.seq (.seq (.region [⟨(some 8), .mov (.k (.c (.int .i64 0))), none⟩])
  (.block 0 (.loop l122_0)))
  (.seq (.region [⟨(some 31), .mov (.t 7), none⟩, ⟨(some 32), .mov (.t 2), none⟩, ⟨(some 33), .bin .leq .int (.t 31) (.t 32), none⟩, ⟨(some 6), .mov (.t 33), none⟩])
  .ret)))), [.tmp 6], true⟩
theorem c122 : kk 122 = some k122 := by kernel_rfl
/-- loop.example/g01263/impl.fitsGrain -/
def l123_0 : KC := (.seq (.region [⟨(some 10), .bin .lss .int (.t 9) (.k (.c (.int .i64 16))), none⟩])
  (.seq (.cond (.t 10) .skip (.exit 0))
  (.seq (.block 1 (.seq (.region [⟨(some 11), .mov (.t 9), none⟩, ⟨(some 7), .mov (.t 11), none⟩])
  (.seq (.drawn [(⟨(some 12), .mov (.t 7), none⟩, []), (⟨(some 13), .idxA 16 1 (.t 3) (.t 12), none⟩, []), (⟨(some 14), .load1 (.t 13), none⟩, []), (⟨(some 15), .mov (.t 7), none⟩, []), (⟨(some 16), .idxA 16 1 (.t 4) (.t 15), none⟩, []), (⟨(some 17), .load1 (.t 16), none⟩, []), (⟨(some 18), .bin .add .int (.t 14) (.t 17), none⟩, []), (⟨(some 8), .mov (.t 18), none⟩, [])])
  (.seq (.region [⟨(some 19), .mov (.t 8), none⟩, ⟨(some 20), .bin .lss .int (.t 19) (.k (.c (.int .i8 (-1)))), none⟩, ⟨(some 21), .mov (.t 20), none⟩, ⟨(some 22), .mov (.t 8), some (21, false)⟩, ⟨(some 23), .bin .gtr .int (.t 22) (.k (.c (.int .i8 1))), some (21, false)⟩, ⟨(some 24), .pick (.t 21) (.k (.c (.bool true))) (.t 23), none⟩])
  (.cond (.t 24) (.seq (.region [⟨(some 6), .mov (.k (.c (.bool false))), none⟩])
  .ret) .skip)))))
  (.region [⟨(some 25), .bin .add .int (.t 9) (.k (.c (.int .i64 1))), none⟩, ⟨(some 9), .mov (.t 25), none⟩]))))
def k123 : KF := ⟨32, (.seq (.region [⟨(some 3), .box 37 (.t 0), none⟩, ⟨(some 4), .box 37 (.t 1), none⟩, ⟨(some 6), .mov (.k (.c (.bool false))), none⟩])
  (.seq (.seq (.region [⟨(some 9), .mov (.k (.c (.int .i64 0))), none⟩])
  (.block 0 (.loop l123_0)))
  (.seq (.region [⟨(some 26), .loadN 16 (.t 3), none⟩, ⟨(some 27), .loadN 16 (.t 4), none⟩, ⟨(some 28), .call (.k (.c (.fn 83 []))) [(.t 26), (.t 27)], none⟩, ⟨(some 29), .len false (.t 28), none⟩, ⟨(some 30), .mov (.t 2), none⟩, ⟨(some 31), .bin .leq .int (.t 29) (.t 30), none⟩, ⟨(some 6), .mov (.t 31), none⟩])
  .ret))), [.tmp 6], true⟩
theorem c123 : kk 123 = some k123 := by kernel_rfl
/-- loop.example/g01263/spec.l01Worths -/
def k125 : KF := ⟨2, (.seq (.region [⟨(some 0), .mov (.k (.c (.slice none 0 (.exact 0)))), none⟩])
  (.seq (.region [⟨(some 1), .buildSl 2 6 [(.int .i64 0), (.int .i64 0), (.int .i64 0), (.int .i64 0), (.int .i64 0), (.int .i64 0)] [(0, 1, (.k (.c (.int .i64 1)))), (1, 1, (.k (.c (.int .i64 12)))), (2, 1, (.k (.c (.int .i64 240)))), (3, 1, (.k (.c (.int .i64 4800)))), (4, 1, (.k (.c (.int .i64 24000)))), (5, 1, (.k (.c (.int .i64 240000))))], none⟩, ⟨(some 0), .mov (.t 1), none⟩])
  .ret)), [.tmp 0], false⟩
theorem c125 : kk 125 = some k125 := by kernel_rfl
/-- loop.example/g01263/impl.worth -/
def k126 : KF := ⟨7, (.seq (.region [⟨(some 2), .mov (.k (.c (.int .i64 0))), none⟩])
  (.seq (.region [⟨(some 3), .buildSl 2 6 [(.int .i64 0), (.int .i64 0), (.int .i64 0), (.int .i64 0), (.int .i64 0), (.int .i64 0)] [(0, 1, (.k (.c (.int .i64 1)))), (1, 1, (.k (.c (.int .i64 12)))), (2, 1, (.k (.c (.int .i64 240)))), (3, 1, (.k (.c (.int .i64 4800)))), (4, 1, (.k (.c (.int .i64 24000)))), (5, 1, (.k (.c (.int .i64 240000))))], none⟩, ⟨(some 4), .mov (.t 0), none⟩, ⟨(some 5), .idxS 1 (.t 3) (.t 4), none⟩, ⟨(some 6), .load1 (.t 5), none⟩, ⟨(some 2), .mov (.t 6), none⟩])
  .ret)), [.tmp 2], true⟩
theorem c126 : kk 126 = some k126 := by kernel_rfl
/-- loop.example/g01263/spec.l01Kind -/
def k128 : KF := ⟨5, (.seq (.region [⟨(some 2), .mov (.k (.c (.bool false))), none⟩])
  (.seq (.region [⟨(some 3), .mov (.t 0), none⟩, ⟨(some 4), .call (.k (.c (.fn 80 []))) [(.t 3), (.k (.c (.int .i64 0))), (.k (.c (.int .i64 5)))], none⟩, ⟨(some 2), .mov (.t 4), none⟩])
  .ret)), [.tmp 2], true⟩
theorem c128 : kk 128 = some k128 := by kernel_rfl
/-- loop.example/g01263/impl.width -/
def k133 : KF := ⟨7, (.seq (.region [⟨(some 2), .mov (.k (.c (.int .i64 0))), none⟩])
  (.seq (.region [⟨(some 3), .buildSl 2 6 [(.int .i64 0), (.int .i64 0), (.int .i64 0), (.int .i64 0), (.int .i64 0), (.int .i64 0)] [(0, 1, (.k (.c (.int .i64 1)))), (1, 1, (.k (.c (.int .i64 2)))), (2, 1, (.k (.c (.int .i64 4)))), (3, 1, (.k (.c (.int .i64 6)))), (4, 1, (.k (.c (.int .i64 9)))), (5, 1, (.k (.c (.int .i64 12))))], none⟩, ⟨(some 4), .mov (.t 0), none⟩, ⟨(some 5), .idxS 1 (.t 3) (.t 4), none⟩, ⟨(some 6), .load1 (.t 5), none⟩, ⟨(some 2), .mov (.t 6), none⟩])
  .ret)), [.tmp 2], true⟩
theorem c133 : kk 133 = some k133 := by kernel_rfl
end Go.Proofs.Ytlidldkelkihlaa
