/- What functions of the program answer: part Code. -/
import Derived.Test.YtlidldkelkihlaaViEv
import Derived.Test.YtlidldkelkihlaaViComp
import Derived.Test.YtlidldkelkihlaaChecked
import Derived.KernelRfl
set_option linter.unusedVariables false
set_option linter.unusedSimpArgs false
set_option linter.unusedSectionVars false
namespace Go.Proofs.Ytlidldkelkihlaa
open Go Go.Proofs.Ytlidldkelkihlaa.VI
noncomputable def kk : FuncId → Option KF := fun f => cFunc Try.prog (!([20, 25, 31, 32, 40, 47, 48, 56, 57, 68, 74, 75, 83, 84, 96, 97, 104, 105, 108, 118, 125, 127, 129, 131, 132, 134, 135, 136] : List Nat).contains f) f
/-- loop.example/g01263/laws.FnExactCountWood -/
def k3 : KF := ⟨14, (.seq (.region [⟨(some 1), .box 23 (.t 0), none⟩, ⟨(some 2), .mov (.k (.c (.bool false))), none⟩])
  (.seq (.region [⟨(some 5), .loadN 4 (.t 1), none⟩, ⟨(some 6), .call (.k (.c (.fn 16 []))) [(.t 5)], none⟩, ⟨(some 7), .call (.k (.c (.fn 15 []))) [(.t 6)], none⟩, ⟨(some 3), .mov (.t 7), none⟩])
  (.seq (.region [⟨(some 8), .loadN 4 (.t 1), none⟩, ⟨(some 9), .call (.k (.c (.fn 16 []))) [(.t 8)], none⟩, ⟨(some 10), .call (.k (.c (.fn 17 []))) [(.t 9)], none⟩, ⟨(some 4), .mov (.t 10), none⟩])
  (.seq (.seq (.region [⟨(some 11), .mov (.t 4), none⟩, ⟨(some 12), .mov (.t 3), none⟩, ⟨(some 13), .bin .neq .int (.t 11) (.t 12), none⟩])
  (.cond (.t 13) (.seq (.region [⟨(some 2), .mov (.k (.c (.bool false))), none⟩])
  .ret) .skip))
  (.seq (.region [⟨(some 2), .mov (.k (.c (.bool true))), none⟩])
  .ret))))), [.tmp 2], true⟩
theorem c3 : kk 3 = some k3 := by kernel_rfl
/-- loop.example/g01263/laws.FnExactWoodOf -/
def k4 : KF := ⟨41, (.seq (.region [⟨(some 1), .box 32 (.t 0), none⟩, ⟨(some 2), .mov (.k (.c (.bool false))), none⟩])
  (.seq (.region [⟨(some 3), .mov (.k (.c (.int .i64 1048576))), none⟩])
  (.seq (.region [⟨(some 9), .loadN 18 (.t 1), none⟩, ⟨(some 10), .mov (.t 3), none⟩, ⟨(some 11), .call (.k (.c (.fn 18 []))) [(.t 9), (.t 10)], none⟩, ⟨(some 3), .mov (.t 11), none⟩])
  (.seq (.seq (.region [⟨(some 12), .mov (.t 3), none⟩, ⟨(some 13), .bin .lss .int (.t 12) (.k (.c (.int .i64 0))), none⟩])
  (.cond (.t 13) (.seq (.region [⟨(some 2), .mov (.k (.c (.bool true))), none⟩])
  .ret) .skip))
  (.seq (.region [⟨(some 15), .loadN 18 (.t 1), none⟩, ⟨(some 16), .call (.k (.c (.fn 20 []))) [(.t 15)], none⟩, ⟨(some 17), .call (.k (.c (.fn 19 []))) [(.t 16)], none⟩, ⟨(some 14), .mov (.t 17), none⟩, ⟨(some 18), .ext (.t 14) 0, none⟩, ⟨(some 19), .ext (.t 14) 1, none⟩, ⟨(some 4), .alloc 25 [(.int .u64 0), (.int .u64 0), (.int .u64 0), (.int .u64 0)], none⟩, ⟨none, .store 4 (.t 4) (.t 18), none⟩, ⟨(some 5), .mov (.t 19), none⟩])
  (.seq (.region [⟨(some 20), .loadN 18 (.t 1), none⟩, ⟨(some 21), .call (.k (.c (.fn 20 []))) [(.t 20)], none⟩, ⟨(some 6), .alloc 39 [(.bool false), (.slice none 0 (.exact 0)), (.int .i8 0), (.int .i8 0), (.int .i8 0), (.int .i8 0), (.int .i8 0), (.int .i8 0), (.int .i8 0), (.int .i8 0), (.int .i8 0), (.int .i8 0), (.int .i8 0), (.int .i8 0), (.int .i8 0), (.int .i8 0), (.int .i8 0), (.int .i8 0)], none⟩, ⟨none, .store 18 (.t 6) (.t 21), none⟩])
  (.seq (.region [⟨(some 23), .loadN 18 (.t 6), none⟩, ⟨(some 24), .call (.k (.c (.fn 21 []))) [(.t 23)], none⟩, ⟨(some 22), .mov (.t 24), none⟩, ⟨(some 25), .ext (.t 22) 0, none⟩, ⟨(some 26), .ext (.t 22) 1, none⟩, ⟨(some 7), .alloc 25 [(.int .u64 0), (.int .u64 0), (.int .u64 0), (.int .u64 0)], none⟩, ⟨none, .store 4 (.t 7) (.t 25), none⟩, ⟨(some 8), .mov (.t 26), none⟩])
  (.seq (.seq (.region [⟨(some 27), .loadN 4 (.t 7), none⟩, ⟨(some 28), .loadN 4 (.t 4), none⟩, ⟨(some 29), .call (.k (.c (.fn 22 []))) [(.t 27), (.t 28)], none⟩, ⟨(some 30), .un .not (.t 29), none⟩, ⟨(some 31), .mov (.t 30), none⟩, ⟨(some 32), .mov (.t 8), some (31, false)⟩, ⟨(some 33), .mov (.t 5), some (31, false)⟩, ⟨(some 34), .bin .neq .int (.t 32) (.t 33), some (31, false)⟩, ⟨(some 35), .pick (.t 31) (.k (.c (.bool true))) (.t 34), none⟩])
  (.cond (.t 35) (.seq (.region [⟨(some 2), .mov (.k (.c (.bool false))), none⟩])
  .ret) .skip))
  (.seq (.seq (.drawn [(⟨(some 36), .loadN 18 (.t 6), none⟩, []), (⟨(some 37), .loadN 18 (.t 1), none⟩, []), (⟨(some 38), .call (.k (.c (.fn 20 []))) [(.t 37)], none⟩, [⟨(some 36), .loadN 18 (.t 6), none⟩]), (⟨(some 39), .call (.k (.c (.fn 23 []))) [(.t 36), (.t 38)], none⟩, []), (⟨(some 40), .un .not (.t 39), none⟩, [])])
  (.cond (.t 40) (.seq (.region [⟨(some 2), .mov (.k (.c (.bool false))), none⟩])
  .ret) .skip))
  (.seq (.region [⟨(some 2), .mov (.k (.c (.bool true))), none⟩])
  .ret)))))))))), [.tmp 2], true⟩
theorem c4 : kk 4 = some k4 := by kernel_rfl
/-- loop.example/g01263/laws.FnWorn -/
def l5_0 : KC := (.seq (.seq (.region [⟨(some 83), .mov (.t 16), none⟩, ⟨(some 84), .bin .lss .int (.t 83) (.k (.c (.int .i64 16))), none⟩])
  (.cond (.t 84) .skip (.exit 0)))
  (.seq (.block 1 (.seq (.drawn [(⟨(some 87), .mov (.t 16), none⟩, []), (⟨(some 88), .idxA 16 1 (.t 10) (.t 87), none⟩, []), (⟨(some 89), .load1 (.t 88), none⟩, []), (⟨(some 90), .conv .i64 (.t 89), none⟩, []), (⟨(some 91), .mov (.t 16), none⟩, []), (⟨(some 92), .fldA 2 (.t 5), none⟩, []), (⟨(some 93), .idxA 16 1 (.t 92) (.t 91), none⟩, []), (⟨(some 94), .load1 (.t 93), none⟩, []), (⟨(some 95), .conv .i64 (.t 94), none⟩, []), (⟨(some 96), .bin .sub .int (.t 90) (.t 95), none⟩, []), (⟨(some 17), .mov (.t 96), none⟩, [])])
  (.region [⟨(some 97), .mov (.t 15), none⟩, ⟨(some 98), .mov (.t 17), none⟩, ⟨(some 99), .mov (.t 17), none⟩, ⟨(some 100), .un .neg (.t 99), none⟩, ⟨(some 101), .max [(.t 98), (.t 100)], none⟩, ⟨(some 102), .bin .add .int (.t 97) (.t 101), none⟩, ⟨(some 15), .mov (.t 102), none⟩])))
  (.region [⟨(some 85), .mov (.t 16), none⟩, ⟨(some 86), .bin .add .int (.t 85) (.k (.c (.int .i64 1))), none⟩, ⟨(some 16), .mov (.t 86), none⟩])))
def l5_1 : KC := (.seq (.seq (.region [⟨(some 143), .mov (.t 24), none⟩, ⟨(some 144), .mov (.t 20), none⟩, ⟨(some 145), .len false (.t 144), none⟩, ⟨(some 146), .bin .lss .int (.t 143) (.t 145), none⟩])
  (.cond (.t 146) .skip (.exit 4)))
  (.seq (.block 5 (.region [⟨(some 149), .mov (.t 23), none⟩, ⟨(some 150), .mov (.t 149), none⟩, ⟨(some 151), .mov (.t 20), some (150, false)⟩, ⟨(some 152), .mov (.t 24), some (150, false)⟩, ⟨(some 153), .idxS 1 (.t 151) (.t 152), some (150, false)⟩, ⟨(some 154), .load1 (.t 153), some (150, false)⟩, ⟨(some 155), .mov (.t 22), some (150, false)⟩, ⟨(some 156), .bin .eql .int (.t 154) (.t 155), some (150, false)⟩, ⟨(some 157), .pick (.t 150) (.k (.c (.bool true))) (.t 156), none⟩, ⟨(some 23), .mov (.t 157), none⟩]))
  (.region [⟨(some 147), .mov (.t 24), none⟩, ⟨(some 148), .bin .add .int (.t 147) (.k (.c (.int .i64 1))), none⟩, ⟨(some 24), .mov (.t 148), none⟩])))
def l5_2 : KC := (.seq (.seq (.region [⟨(some 139), .mov (.t 22), none⟩, ⟨(some 140), .bin .lss .int (.t 139) (.k (.c (.int .i64 16))), none⟩])
  (.cond (.t 140) .skip (.exit 2)))
  (.seq (.block 3 (.seq (.region [⟨(some 23), .mov (.k (.c (.bool false))), none⟩])
  (.seq (.seq (.region [⟨(some 24), .mov (.k (.c (.int .i64 0))), none⟩])
  (.block 4 (.loop l5_1)))
  (.seq (.drawn [(⟨(some 158), .mov (.t 23), none⟩, []), (⟨(some 159), .mov (.t 22), none⟩, []), (⟨(some 160), .idxA 16 1 (.t 10) (.t 159), none⟩, []), (⟨(some 161), .load1 (.t 160), none⟩, []), (⟨(some 162), .mov (.t 22), none⟩, []), (⟨(some 163), .fldA 2 (.t 5), none⟩, []), (⟨(some 164), .idxA 16 1 (.t 163) (.t 162), none⟩, []), (⟨(some 165), .load1 (.t 164), none⟩, []), (⟨(some 166), .bin .neq .int (.t 161) (.t 165), none⟩, []), (⟨(some 167), .bin .neq .bool (.t 158) (.t 166), none⟩, [])])
  (.cond (.t 167) (.seq (.region [⟨(some 4), .mov (.k (.c (.bool false))), none⟩])
  .ret) .skip)))))
  (.region [⟨(some 141), .mov (.t 22), none⟩, ⟨(some 142), .bin .add .int (.t 141) (.k (.c (.int .i64 1))), none⟩, ⟨(some 22), .mov (.t 142), none⟩])))
def k5 : KF := ⟨168, (.seq (.region [⟨(some 4), .mov (.k (.c (.bool false))), none⟩])
  (.seq (.seq (.region [⟨(some 25), .mov (.t 0), none⟩, ⟨(some 26), .call (.k (.c (.fn 24 []))) [(.t 25)], none⟩, ⟨(some 27), .mov (.t 26), none⟩, ⟨(some 28), .mov (.t 1), some (27, false)⟩, ⟨(some 29), .call (.k (.c (.fn 24 []))) [(.t 28)], some (27, false)⟩, ⟨(some 30), .pick (.t 27) (.k (.c (.bool true))) (.t 29), none⟩])
  (.cond (.t 30) (.seq (.region [⟨(some 4), .mov (.k (.c (.bool true))), none⟩])
  .ret) .skip))
  (.seq (.region [⟨(some 31), .mov (.t 0), none⟩, ⟨(some 32), .call (.k (.c (.fn 25 []))) [(.t 31)], none⟩, ⟨(some 5), .alloc 39 [(.bool false), (.slice none 0 (.exact 0)), (.int .i8 0), (.int .i8 0), (.int .i8 0), (.int .i8 0), (.int .i8 0), (.int .i8 0), (.int .i8 0), (.int .i8 0), (.int .i8 0), (.int .i8 0), (.int .i8 0), (.int .i8 0), (.int .i8 0), (.int .i8 0), (.int .i8 0), (.int .i8 0)], none⟩, ⟨none, .store 18 (.t 5) (.t 32), none⟩])
  (.seq (.region [⟨(some 33), .mov (.t 1), none⟩, ⟨(some 34), .call (.k (.c (.fn 26 []))) [(.t 33), (.k (.c (.int .i64 30)))], none⟩, ⟨(some 6), .mov (.t 34), none⟩])
  (.seq (.region [⟨(some 36), .fldA 2 (.t 5), none⟩, ⟨(some 37), .loadN 16 (.t 36), none⟩, ⟨(some 38), .mov (.t 6), none⟩, ⟨(some 39), .call (.k (.c (.fn 27 []))) [(.t 37), (.k (.c (.int .u32 11))), (.t 38)], none⟩, ⟨(some 35), .mov (.t 39), none⟩, ⟨(some 40), .ext (.t 35) 0, none⟩, ⟨(some 41), .ext (.t 35) 1, none⟩, ⟨(some 42), .ext (.t 35) 2, none⟩, ⟨(some 7), .alloc 37 [(.int .i8 0), (.int .i8 0), (.int .i8 0), (.int .i8 0), (.int .i8 0), (.int .i8 0), (.int .i8 0), (.int .i8 0), (.int .i8 0), (.int .i8 0), (.int .i8 0), (.int .i8 0), (.int .i8 0), (.int .i8 0), (.int .i8 0), (.int .i8 0)], none⟩, ⟨none, .store 16 (.t 7) (.t 40), none⟩, ⟨(some 8), .mov (.t 41), none⟩, ⟨(some 9), .mov (.t 42), none⟩])
  (.seq (.region [⟨(some 44), .fldA 2 (.t 5), none⟩, ⟨(some 45), .loadN 16 (.t 44), none⟩, ⟨(some 46), .mov (.t 6), none⟩, ⟨(some 47), .call (.k (.c (.fn 28 []))) [(.t 45), (.k (.c (.int .u32 11))), (.t 46)], none⟩, ⟨(some 43), .mov (.t 47), none⟩, ⟨(some 48), .ext (.t 43) 0, none⟩, ⟨(some 49), .ext (.t 43) 1, none⟩, ⟨(some 50), .ext (.t 43) 2, none⟩, ⟨(some 10), .alloc 37 [(.int .i8 0), (.int .i8 0), (.int .i8 0), (.int .i8 0), (.int .i8 0), (.int .i8 0), (.int .i8 0), (.int .i8 0), (.int .i8 0), (.int .i8 0), (.int .i8 0), (.int .i8 0), (.int .i8 0), (.int .i8 0), (.int .i8 0), (.int .i8 0)], none⟩, ⟨none, .store 16 (.t 10) (.t 48), none⟩, ⟨(some 11), .mov (.t 49), none⟩, ⟨(some 12), .mov (.t 50), none⟩])
  (.seq (.region [⟨(some 52), .fldA 2 (.t 5), none⟩, ⟨(some 53), .loadN 16 (.t 52), none⟩, ⟨(some 54), .call (.k (.c (.fn 29 []))) [(.t 53)], none⟩, ⟨(some 51), .mov (.t 54), none⟩, ⟨(some 55), .ext (.t 51) 0, none⟩, ⟨(some 56), .ext (.t 51) 1, none⟩, ⟨(some 13), .alloc 37 [(.int .i8 0), (.int .i8 0), (.int .i8 0), (.int .i8 0), (.int .i8 0), (.int .i8 0), (.int .i8 0), (.int .i8 0), (.int .i8 0), (.int .i8 0), (.int .i8 0), (.int .i8 0), (.int .i8 0), (.int .i8 0), (.int .i8 0), (.int .i8 0)], none⟩, ⟨none, .store 16 (.t 13) (.t 55), none⟩, ⟨(some 14), .mov (.t 56), none⟩])
  (.seq (.seq (.region [⟨(some 57), .mov (.t 9), none⟩, ⟨(some 58), .mov (.t 12), none⟩, ⟨(some 59), .bin .neq .int (.t 57) (.t 58), none⟩, ⟨(some 60), .mov (.t 59), none⟩, ⟨(some 61), .mov (.t 9), some (60, false)⟩, ⟨(some 62), .bin .neq .int (.t 61) (.k (.c (.int .i64 0))), some (60, false)⟩, ⟨(some 63), .pick (.t 60) (.k (.c (.bool true))) (.t 62), none⟩, ⟨(some 64), .mov (.t 63), none⟩, ⟨(some 65), .loadN 16 (.t 7), some (64, false)⟩, ⟨(some 66), .loadN 16 (.t 10), some (64, false)⟩, ⟨(some 67), .bin .neq (.agg [.int, .int, .int, .int, .int, .int, .int, .int, .int, .int, .int, .int, .int, .int, .int, .int]) (.t 65) (.t 66), some (64, false)⟩, ⟨(some 68), .pick (.t 64) (.k (.c (.bool true))) (.t 67), none⟩, ⟨(some 69), .mov (.t 68), none⟩, ⟨(some 70), .mov (.t 8), some (69, false)⟩, ⟨(some 71), .mov (.t 11), some (69, false)⟩, ⟨(some 72), .bin .neq .int (.t 70) (.t 71), some (69, false)⟩, ⟨(some 73), .pick (.t 69) (.k (.c (.bool true))) (.t 72), none⟩, ⟨(some 74), .mov (.t 73), none⟩, ⟨(some 75), .mov (.t 14), some (74, false)⟩, ⟨(some 76), .bin .neq .int (.t 75) (.k (.c (.int .i64 0))), some (74, false)⟩, ⟨(some 77), .pick (.t 74) (.k (.c (.bool true))) (.t 76), none⟩, ⟨(some 78), .mov (.t 77), none⟩, ⟨(some 79), .loadN 16 (.t 10), some (78, false)⟩, ⟨(some 80), .call (.k (.c (.fn 30 []))) [(.t 79)], some (78, false)⟩, ⟨(some 81), .un .not (.t 80), some (78, false)⟩, ⟨(some 82), .pick (.t 78) (.k (.c (.bool true))) (.t 81), none⟩])
  (.cond (.t 82) (.seq (.region [⟨(some 4), .mov (.k (.c (.bool false))), none⟩])
  .ret) .skip))
  (.seq (.region [⟨(some 15), .mov (.k (.c (.int .i64 0))), none⟩])
  (.seq (.seq (.region [⟨(some 16), .mov (.k (.c (.int .i64 0))), none⟩])
  (.block 0 (.loop l5_0)))
  (.seq (.region [⟨(some 104), .loadN 16 (.t 10), none⟩, ⟨(some 105), .loadN 16 (.t 13), none⟩, ⟨(some 106), .call (.k (.c (.fn 31 []))) [(.t 104), (.t 105)], none⟩, ⟨(some 103), .mov (.t 106), none⟩, ⟨(some 107), .ext (.t 103) 0, none⟩, ⟨(some 108), .ext (.t 103) 1, none⟩, ⟨(some 18), .mov (.t 107), none⟩, ⟨(some 19), .mov (.t 108), none⟩])
  (.seq (.region [⟨(some 110), .loadN 16 (.t 10), none⟩, ⟨(some 111), .loadN 16 (.t 13), none⟩, ⟨(some 112), .call (.k (.c (.fn 32 []))) [(.t 110), (.t 111)], none⟩, ⟨(some 109), .mov (.t 112), none⟩, ⟨(some 113), .ext (.t 109) 0, none⟩, ⟨(some 114), .ext (.t 109) 1, none⟩, ⟨(some 20), .mov (.t 113), none⟩, ⟨(some 21), .mov (.t 114), none⟩])
  (.seq (.seq (.region [⟨(some 115), .mov (.t 15), none⟩, ⟨(some 116), .mov (.t 6), none⟩, ⟨(some 117), .bin .gtr .int (.t 115) (.t 116), none⟩, ⟨(some 118), .mov (.t 117), none⟩, ⟨(some 119), .mov (.t 19), some (118, false)⟩, ⟨(some 120), .mov (.t 21), some (118, false)⟩, ⟨(some 121), .bin .neq .int (.t 119) (.t 120), some (118, false)⟩, ⟨(some 122), .pick (.t 118) (.k (.c (.bool true))) (.t 121), none⟩, ⟨(some 123), .mov (.t 122), none⟩, ⟨(some 124), .mov (.t 19), some (123, false)⟩, ⟨(some 125), .bin .neq .int (.t 124) (.k (.c (.int .i64 0))), some (123, false)⟩, ⟨(some 126), .pick (.t 123) (.k (.c (.bool true))) (.t 125), none⟩, ⟨(some 127), .mov (.t 126), none⟩, ⟨(some 128), .mov (.t 18), some (127, false)⟩, ⟨(some 129), .mov (.t 20), some (127, false)⟩, ⟨(some 130), .call (.k (.c (.fn 33 []))) [(.t 128), (.t 129)], some (127, false)⟩, ⟨(some 131), .un .not (.t 130), some (127, false)⟩, ⟨(some 132), .pick (.t 127) (.k (.c (.bool true))) (.t 131), none⟩, ⟨(some 133), .mov (.t 132), none⟩, ⟨(some 134), .mov (.t 20), some (133, false)⟩, ⟨(some 135), .len false (.t 134), some (133, false)⟩, ⟨(some 136), .mov (.t 15), some (133, false)⟩, ⟨(some 137), .bin .gtr .int (.t 135) (.t 136), some (133, false)⟩, ⟨(some 138), .pick (.t 133) (.k (.c (.bool true))) (.t 137), none⟩])
  (.cond (.t 138) (.seq (.region [⟨(some 4), .mov (.k (.c (.bool false))), none⟩])
  .ret) .skip))
  (.seq (.seq (.region [⟨(some 22), .mov (.k (.c (.int .i64 0))), none⟩])
  (.block 2 (.loop l5_2)))
  (.seq (.region [⟨(some 4), .mov (.k (.c (.bool true))), none⟩])
  .ret))))))))))))))), [.tmp 4], true⟩
theorem c5 : kk 5 = some k5 := by kernel_rfl
/-- loop.example/g01263/laws.FnExactWhoLies -/
def k7 : KF := ⟨58, (.seq (.region [⟨(some 2), .box 32 (.t 0), none⟩, ⟨(some 3), .box 32 (.t 1), none⟩, ⟨(some 4), .mov (.k (.c (.bool false))), none⟩])
  (.seq (.region [⟨(some 5), .mov (.k (.c (.int .i64 1048576))), none⟩])
  (.seq (.region [⟨(some 12), .loadN 18 (.t 2), none⟩, ⟨(some 13), .mov (.t 5), none⟩, ⟨(some 14), .call (.k (.c (.fn 18 []))) [(.t 12), (.t 13)], none⟩, ⟨(some 5), .mov (.t 14), none⟩])
  (.seq (.seq (.region [⟨(some 15), .mov (.t 5), none⟩, ⟨(some 16), .bin .lss .int (.t 15) (.k (.c (.int .i64 0))), none⟩])
  (.cond (.t 16) (.seq (.region [⟨(some 4), .mov (.k (.c (.bool true))), none⟩])
  .ret) .skip))
  (.seq (.region [⟨(some 17), .loadN 18 (.t 3), none⟩, ⟨(some 18), .mov (.t 5), none⟩, ⟨(some 19), .call (.k (.c (.fn 18 []))) [(.t 17), (.t 18)], none⟩, ⟨(some 5), .mov (.t 19), none⟩])
  (.seq (.seq (.region [⟨(some 20), .mov (.t 5), none⟩, ⟨(some 21), .bin .lss .int (.t 20) (.k (.c (.int .i64 0))), none⟩])
  (.cond (.t 21) (.seq (.region [⟨(some 4), .mov (.k (.c (.bool true))), none⟩])
  .ret) .skip))
  (.seq (.drawn [(⟨(some 23), .loadN 18 (.t 2), none⟩, []), (⟨(some 25), .loadN 18 (.t 3), none⟩, []), (⟨(some 24), .call (.k (.c (.fn 20 []))) [(.t 23)], none⟩, [⟨(some 25), .loadN 18 (.t 3), none⟩]), (⟨(some 26), .call (.k (.c (.fn 20 []))) [(.t 25)], none⟩, []), (⟨(some 27), .call (.k (.c (.fn 36 []))) [(.t 24), (.t 26)], none⟩, []), (⟨(some 22), .mov (.t 27), none⟩, []), (⟨(some 28), .ext (.t 22) 0, none⟩, []), (⟨(some 29), .ext (.t 22) 1, none⟩, []), (⟨(some 6), .mov (.t 28), none⟩, []), (⟨(some 7), .mov (.t 29), none⟩, [])])
  (.seq (.region [⟨(some 30), .loadN 18 (.t 2), none⟩, ⟨(some 31), .call (.k (.c (.fn 20 []))) [(.t 30)], none⟩, ⟨(some 8), .alloc 39 [(.bool false), (.slice none 0 (.exact 0)), (.int .i8 0), (.int .i8 0), (.int .i8 0), (.int .i8 0), (.int .i8 0), (.int .i8 0), (.int .i8 0), (.int .i8 0), (.int .i8 0), (.int .i8 0), (.int .i8 0), (.int .i8 0), (.int .i8 0), (.int .i8 0), (.int .i8 0), (.int .i8 0)], none⟩, ⟨none, .store 18 (.t 8) (.t 31), none⟩])
  (.seq (.region [⟨(some 32), .loadN 18 (.t 3), none⟩, ⟨(some 33), .call (.k (.c (.fn 20 []))) [(.t 32)], none⟩, ⟨(some 9), .alloc 39 [(.bool false), (.slice none 0 (.exact 0)), (.int .i8 0), (.int .i8 0), (.int .i8 0), (.int .i8 0), (.int .i8 0), (.int .i8 0), (.int .i8 0), (.int .i8 0), (.int .i8 0), (.int .i8 0), (.int .i8 0), (.int .i8 0), (.int .i8 0), (.int .i8 0), (.int .i8 0), (.int .i8 0)], none⟩, ⟨none, .store 18 (.t 9) (.t 33), none⟩])
  (.seq (.region [⟨(some 35), .loadN 18 (.t 8), none⟩, ⟨(some 36), .loadN 18 (.t 9), none⟩, ⟨(some 37), .call (.k (.c (.fn 37 []))) [(.t 35), (.t 36)], none⟩, ⟨(some 34), .mov (.t 37), none⟩, ⟨(some 38), .ext (.t 34) 0, none⟩, ⟨(some 39), .ext (.t 34) 1, none⟩, ⟨(some 10), .mov (.t 38), none⟩, ⟨(some 11), .mov (.t 39), none⟩])
  (.seq (.seq (.region [⟨(some 40), .mov (.t 10), none⟩, ⟨(some 41), .mov (.t 6), none⟩, ⟨(some 42), .bin .neq .int (.t 40) (.t 41), none⟩, ⟨(some 43), .mov (.t 42), none⟩, ⟨(some 44), .mov (.t 11), some (43, false)⟩, ⟨(some 45), .mov (.t 7), some (43, false)⟩, ⟨(some 46), .bin .neq .int (.t 44) (.t 45), some (43, false)⟩, ⟨(some 47), .pick (.t 43) (.k (.c (.bool true))) (.t 46), none⟩])
  (.cond (.t 47) (.seq (.region [⟨(some 4), .mov (.k (.c (.bool false))), none⟩])
  .ret) .skip))
  (.seq (.seq (.drawn [(⟨(some 48), .loadN 18 (.t 8), none⟩, []), (⟨(some 49), .loadN 18 (.t 2), none⟩, []), (⟨(some 50), .call (.k (.c (.fn 20 []))) [(.t 49)], none⟩, [⟨(some 48), .loadN 18 (.t 8), none⟩]), (⟨(some 51), .call (.k (.c (.fn 23 []))) [(.t 48), (.t 50)], none⟩, []), (⟨(some 52), .un .not (.t 51), none⟩, [])])
  (.cond (.t 52) (.seq (.region [⟨(some 4), .mov (.k (.c (.bool false))), none⟩])
  .ret) .skip))
  (.seq (.seq (.drawn [(⟨(some 53), .loadN 18 (.t 9), none⟩, []), (⟨(some 54), .loadN 18 (.t 3), none⟩, []), (⟨(some 55), .call (.k (.c (.fn 20 []))) [(.t 54)], none⟩, [⟨(some 53), .loadN 18 (.t 9), none⟩]), (⟨(some 56), .call (.k (.c (.fn 23 []))) [(.t 53), (.t 55)], none⟩, []), (⟨(some 57), .un .not (.t 56), none⟩, [])])
  (.cond (.t 57) (.seq (.region [⟨(some 4), .mov (.k (.c (.bool false))), none⟩])
  .ret) .skip))
  (.seq (.region [⟨(some 4), .mov (.k (.c (.bool true))), none⟩])
  .ret)))))))))))))), [.tmp 4], true⟩
/-- loop.example/g01263/laws.FnExactFindFoil -/
def k8 : KF := ⟨62, (.seq (.region [⟨(some 3), .box 32 (.t 0), none⟩, ⟨(some 6), .mov (.k (.c (.bool false))), none⟩])
  (.seq (.region [⟨(some 7), .mov (.k (.c (.int .i64 1048576))), none⟩])
  (.seq (.region [⟨(some 14), .loadN 18 (.t 3), none⟩, ⟨(some 15), .mov (.t 7), none⟩, ⟨(some 16), .call (.k (.c (.fn 18 []))) [(.t 14), (.t 15)], none⟩, ⟨(some 7), .mov (.t 16), none⟩])
  (.seq (.seq (.region [⟨(some 17), .mov (.t 7), none⟩, ⟨(some 18), .bin .lss .int (.t 17) (.k (.c (.int .i64 0))), none⟩])
  (.cond (.t 18) (.seq (.region [⟨(some 6), .mov (.k (.c (.bool true))), none⟩])
  .ret) .skip))
  (.seq (.region [⟨(some 19), .mov (.t 1), none⟩, ⟨(some 20), .mov (.t 7), none⟩, ⟨(some 21), .call (.k (.c (.fn 38 []))) [(.t 19), (.t 20)], none⟩, ⟨(some 7), .mov (.t 21), none⟩])
  (.seq (.seq (.region [⟨(some 22), .mov (.t 7), none⟩, ⟨(some 23), .bin .lss .int (.t 22) (.k (.c (.int .i64 0))), none⟩])
  (.cond (.t 23) (.seq (.region [⟨(some 6), .mov (.k (.c (.bool true))), none⟩])
  .ret) .skip))
  (.seq (.region [⟨(some 25), .loadN 18 (.t 3), none⟩, ⟨(some 26), .call (.k (.c (.fn 20 []))) [(.t 25)], none⟩, ⟨(some 27), .mov (.t 1), none⟩, ⟨(some 28), .call (.k (.c (.fn 40 []))) [(.t 27)], none⟩, ⟨(some 29), .mov (.t 2), none⟩, ⟨(some 30), .call (.k (.c (.fn 39 []))) [(.t 26), (.t 28), (.t 29)], none⟩, ⟨(some 24), .mov (.t 30), none⟩, ⟨(some 31), .ext (.t 24) 0, none⟩, ⟨(some 32), .ext (.t 24) 1, none⟩, ⟨(some 8), .mov (.t 31), none⟩, ⟨(some 9), .mov (.t 32), none⟩])
  (.seq (.region [⟨(some 33), .loadN 18 (.t 3), none⟩, ⟨(some 34), .call (.k (.c (.fn 20 []))) [(.t 33)], none⟩, ⟨(some 10), .alloc 39 [(.bool false), (.slice none 0 (.exact 0)), (.int .i8 0), (.int .i8 0), (.int .i8 0), (.int .i8 0), (.int .i8 0), (.int .i8 0), (.int .i8 0), (.int .i8 0), (.int .i8 0), (.int .i8 0), (.int .i8 0), (.int .i8 0), (.int .i8 0), (.int .i8 0), (.int .i8 0), (.int .i8 0)], none⟩, ⟨none, .store 18 (.t 10) (.t 34), none⟩])
  (.seq (.region [⟨(some 35), .mov (.t 1), none⟩, ⟨(some 36), .call (.k (.c (.fn 40 []))) [(.t 35)], none⟩, ⟨(some 11), .mov (.t 36), none⟩])
  (.seq (.region [⟨(some 38), .loadN 18 (.t 10), none⟩, ⟨(some 39), .mov (.t 11), none⟩, ⟨(some 40), .mov (.t 2), none⟩, ⟨(some 41), .call (.k (.c (.fn 41 []))) [(.t 38), (.t 39), (.t 40)], none⟩, ⟨(some 37), .mov (.t 41), none⟩, ⟨(some 42), .ext (.t 37) 0, none⟩, ⟨(some 43), .ext (.t 37) 1, none⟩, ⟨(some 12), .mov (.t 42), none⟩, ⟨(some 13), .mov (.t 43), none⟩])
  (.seq (.seq (.region [⟨(some 44), .mov (.t 12), none⟩, ⟨(some 45), .mov (.t 8), none⟩, ⟨(some 46), .bin .neq .int (.t 44) (.t 45), none⟩, ⟨(some 47), .mov (.t 46), none⟩, ⟨(some 48), .mov (.t 13), some (47, false)⟩, ⟨(some 49), .mov (.t 9), some (47, false)⟩, ⟨(some 50), .bin .neq .int (.t 48) (.t 49), some (47, false)⟩, ⟨(some 51), .pick (.t 47) (.k (.c (.bool true))) (.t 50), none⟩])
  (.cond (.t 51) (.seq (.region [⟨(some 6), .mov (.k (.c (.bool false))), none⟩])
  .ret) .skip))
  (.seq (.seq (.drawn [(⟨(some 52), .loadN 18 (.t 10), none⟩, []), (⟨(some 53), .loadN 18 (.t 3), none⟩, []), (⟨(some 54), .call (.k (.c (.fn 20 []))) [(.t 53)], none⟩, [⟨(some 52), .loadN 18 (.t 10), none⟩]), (⟨(some 55), .call (.k (.c (.fn 23 []))) [(.t 52), (.t 54)], none⟩, []), (⟨(some 56), .un .not (.t 55), none⟩, [])])
  (.cond (.t 56) (.seq (.region [⟨(some 6), .mov (.k (.c (.bool false))), none⟩])
  .ret) .skip))
  (.seq (.seq (.region [⟨(some 57), .mov (.t 11), none⟩, ⟨(some 58), .mov (.t 1), none⟩, ⟨(some 59), .call (.k (.c (.fn 40 []))) [(.t 58)], none⟩, ⟨(some 60), .call (.k (.c (.fn 42 []))) [(.t 57), (.t 59)], none⟩, ⟨(some 61), .un .not (.t 60), none⟩])
  (.cond (.t 61) (.seq (.region [⟨(some 6), .mov (.k (.c (.bool false))), none⟩])
  .ret) .skip))
  (.seq (.region [⟨(some 6), .mov (.k (.c (.bool true))), none⟩])
  .ret)))))))))))))), [.tmp 6], true⟩
/-- loop.example/g01263/laws.FnExactNearestFoil -/
def k9 : KF := ⟨67, (.seq (.region [⟨(some 2), .box 32 (.t 0), none⟩, ⟨(some 4), .mov (.k (.c (.bool false))), none⟩])
  (.seq (.region [⟨(some 5), .mov (.k (.c (.int .i64 1048576))), none⟩])
  (.seq (.region [⟨(some 14), .loadN 18 (.t 2), none⟩, ⟨(some 15), .mov (.t 5), none⟩, ⟨(some 16), .call (.k (.c (.fn 18 []))) [(.t 14), (.t 15)], none⟩, ⟨(some 5), .mov (.t 16), none⟩])
  (.seq (.seq (.region [⟨(some 17), .mov (.t 5), none⟩, ⟨(some 18), .bin .lss .int (.t 17) (.k (.c (.int .i64 0))), none⟩])
  (.cond (.t 18) (.seq (.region [⟨(some 4), .mov (.k (.c (.bool true))), none⟩])
  .ret) .skip))
  (.seq (.region [⟨(some 19), .mov (.t 1), none⟩, ⟨(some 20), .mov (.t 5), none⟩, ⟨(some 21), .call (.k (.c (.fn 38 []))) [(.t 19), (.t 20)], none⟩, ⟨(some 5), .mov (.t 21), none⟩])
  (.seq (.seq (.region [⟨(some 22), .mov (.t 5), none⟩, ⟨(some 23), .bin .lss .int (.t 22) (.k (.c (.int .i64 0))), none⟩])
  (.cond (.t 23) (.seq (.region [⟨(some 4), .mov (.k (.c (.bool true))), none⟩])
  .ret) .skip))
  (.seq (.region [⟨(some 25), .loadN 18 (.t 2), none⟩, ⟨(some 26), .call (.k (.c (.fn 20 []))) [(.t 25)], none⟩, ⟨(some 27), .mov (.t 1), none⟩, ⟨(some 28), .call (.k (.c (.fn 40 []))) [(.t 27)], none⟩, ⟨(some 29), .call (.k (.c (.fn 43 []))) [(.t 26), (.t 28)], none⟩, ⟨(some 24), .mov (.t 29), none⟩, ⟨(some 30), .ext (.t 24) 0, none⟩, ⟨(some 31), .ext (.t 24) 1, none⟩, ⟨(some 32), .ext (.t 24) 2, none⟩, ⟨(some 6), .mov (.t 30), none⟩, ⟨(some 7), .mov (.t 31), none⟩, ⟨(some 8), .mov (.t 32), none⟩])
  (.seq (.region [⟨(some 33), .loadN 18 (.t 2), none⟩, ⟨(some 34), .call (.k (.c (.fn 20 []))) [(.t 33)], none⟩, ⟨(some 9), .alloc 39 [(.bool false), (.slice none 0 (.exact 0)), (.int .i8 0), (.int .i8 0), (.int .i8 0), (.int .i8 0), (.int .i8 0), (.int .i8 0), (.int .i8 0), (.int .i8 0), (.int .i8 0), (.int .i8 0), (.int .i8 0), (.int .i8 0), (.int .i8 0), (.int .i8 0), (.int .i8 0), (.int .i8 0)], none⟩, ⟨none, .store 18 (.t 9) (.t 34), none⟩])
  (.seq (.region [⟨(some 35), .mov (.t 1), none⟩, ⟨(some 36), .call (.k (.c (.fn 40 []))) [(.t 35)], none⟩, ⟨(some 10), .mov (.t 36), none⟩])
  (.seq (.region [⟨(some 38), .loadN 18 (.t 9), none⟩, ⟨(some 39), .mov (.t 10), none⟩, ⟨(some 40), .call (.k (.c (.fn 44 []))) [(.t 38), (.t 39)], none⟩, ⟨(some 37), .mov (.t 40), none⟩, ⟨(some 41), .ext (.t 37) 0, none⟩, ⟨(some 42), .ext (.t 37) 1, none⟩, ⟨(some 43), .ext (.t 37) 2, none⟩, ⟨(some 11), .mov (.t 41), none⟩, ⟨(some 12), .mov (.t 42), none⟩, ⟨(some 13), .mov (.t 43), none⟩])
  (.seq (.seq (.region [⟨(some 44), .mov (.t 11), none⟩, ⟨(some 45), .mov (.t 6), none⟩, ⟨(some 46), .bin .neq .int (.t 44) (.t 45), none⟩, ⟨(some 47), .mov (.t 46), none⟩, ⟨(some 48), .mov (.t 12), some (47, false)⟩, ⟨(some 49), .mov (.t 7), some (47, false)⟩, ⟨(some 50), .bin .neq .int (.t 48) (.t 49), some (47, false)⟩, ⟨(some 51), .pick (.t 47) (.k (.c (.bool true))) (.t 50), none⟩, ⟨(some 52), .mov (.t 51), none⟩, ⟨(some 53), .mov (.t 13), some (52, false)⟩, ⟨(some 54), .mov (.t 8), some (52, false)⟩, ⟨(some 55), .bin .neq .int (.t 53) (.t 54), some (52, false)⟩, ⟨(some 56), .pick (.t 52) (.k (.c (.bool true))) (.t 55), none⟩])
  (.cond (.t 56) (.seq (.region [⟨(some 4), .mov (.k (.c (.bool false))), none⟩])
  .ret) .skip))
  (.seq (.seq (.drawn [(⟨(some 57), .loadN 18 (.t 9), none⟩, []), (⟨(some 58), .loadN 18 (.t 2), none⟩, []), (⟨(some 59), .call (.k (.c (.fn 20 []))) [(.t 58)], none⟩, [⟨(some 57), .loadN 18 (.t 9), none⟩]), (⟨(some 60), .call (.k (.c (.fn 23 []))) [(.t 57), (.t 59)], none⟩, []), (⟨(some 61), .un .not (.t 60), none⟩, [])])
  (.cond (.t 61) (.seq (.region [⟨(some 4), .mov (.k (.c (.bool false))), none⟩])
  .ret) .skip))
  (.seq (.seq (.region [⟨(some 62), .mov (.t 10), none⟩, ⟨(some 63), .mov (.t 1), none⟩, ⟨(some 64), .call (.k (.c (.fn 40 []))) [(.t 63)], none⟩, ⟨(some 65), .call (.k (.c (.fn 42 []))) [(.t 62), (.t 64)], none⟩, ⟨(some 66), .un .not (.t 65), none⟩])
  (.cond (.t 66) (.seq (.region [⟨(some 4), .mov (.k (.c (.bool false))), none⟩])
  .ret) .skip))
  (.seq (.region [⟨(some 4), .mov (.k (.c (.bool true))), none⟩])
  .ret)))))))))))))), [.tmp 4], true⟩
theorem c9 : kk 9 = some k9 := by kernel_rfl
/-- loop.example/g01263/laws.szHalf -/
def k18 : KF := ⟨12, (.seq (.region [⟨(some 2), .box 32 (.t 0), none⟩, ⟨(some 4), .mov (.k (.c (.int .i64 0))), none⟩])
  (.seq (.region [⟨(some 5), .fldA 1 (.t 2), none⟩, ⟨(some 6), .load1 (.t 5), none⟩, ⟨(some 7), .mov (.t 1), none⟩, ⟨(some 8), .call (.k (.c (.fn 65 []))) [(.t 6), (.t 7)], none⟩, ⟨(some 1), .mov (.t 8), none⟩])
  (.seq (.seq (.region [⟨(some 9), .mov (.t 1), none⟩, ⟨(some 10), .bin .lss .int (.t 9) (.k (.c (.int .i64 0))), none⟩])
  (.cond (.t 10) (.seq (.region [⟨(some 4), .mov (.k (.c (.int .i64 (-1)))), none⟩])
  .ret) .skip))
  (.seq (.region [⟨(some 11), .mov (.t 1), none⟩, ⟨(some 4), .mov (.t 11), none⟩])
  .ret)))), [.tmp 4], true⟩
theorem c18 : kk 18 = some k18 := by kernel_rfl
/-- loop.example/g01263/laws.toHalf -/
def k20 : KF := ⟨16, (.seq (.region [⟨(some 1), .box 32 (.t 0), none⟩, ⟨(some 2), .alloc 39 [(.bool false), (.slice none 0 (.exact 0)), (.int .i8 0), (.int .i8 0), (.int .i8 0), (.int .i8 0), (.int .i8 0), (.int .i8 0), (.int .i8 0), (.int .i8 0), (.int .i8 0), (.int .i8 0), (.int .i8 0), (.int .i8 0), (.int .i8 0), (.int .i8 0), (.int .i8 0), (.int .i8 0)], none⟩])
  (.seq (.region [⟨(some 3), .alloc 39 [(.bool false), (.slice none 0 (.exact 0)), (.int .i8 0), (.int .i8 0), (.int .i8 0), (.int .i8 0), (.int .i8 0), (.int .i8 0), (.int .i8 0), (.int .i8 0), (.int .i8 0), (.int .i8 0), (.int .i8 0), (.int .i8 0), (.int .i8 0), (.int .i8 0), (.int .i8 0), (.int .i8 0)], none⟩])
  (.seq (.region [⟨(some 4), .fldA 0 (.t 1), none⟩, ⟨(some 5), .load1 (.t 4), none⟩, ⟨(some 6), .fldA 0 (.t 3), none⟩, ⟨none, .store 1 (.t 6) (.t 5), none⟩])
  (.seq (.region [⟨(some 7), .fldA 1 (.t 1), none⟩, ⟨(some 8), .load1 (.t 7), none⟩, ⟨(some 9), .call (.k (.c (.fn 68 []))) [(.t 8)], none⟩, ⟨(some 10), .fldA 1 (.t 3), none⟩, ⟨none, .store 1 (.t 10) (.t 9), none⟩])
  (.seq (.region [⟨(some 11), .fldA 2 (.t 1), none⟩, ⟨(some 12), .loadN 16 (.t 11), none⟩, ⟨(some 13), .call (.k (.c (.fn 69 []))) [(.t 12)], none⟩, ⟨(some 14), .fldA 2 (.t 3), none⟩, ⟨none, .store 16 (.t 14) (.t 13), none⟩])
  (.seq (.region [⟨(some 15), .loadN 18 (.t 3), none⟩, ⟨none, .store 18 (.t 2) (.t 15), none⟩])
  .ret)))))), [.cellN 2 18], false⟩
theorem c20 : kk 20 = some k20 := by kernel_rfl
/-- loop.example/g01263/laws.eqHalf -/
def k23 : KF := ⟨22, (.seq (.region [⟨(some 2), .box 39 (.t 0), none⟩, ⟨(some 3), .box 39 (.t 1), none⟩, ⟨(some 4), .mov (.k (.c (.bool false))), none⟩])
  (.seq (.seq (.region [⟨(some 5), .fldA 0 (.t 2), none⟩, ⟨(some 6), .load1 (.t 5), none⟩, ⟨(some 7), .fldA 0 (.t 3), none⟩, ⟨(some 8), .load1 (.t 7), none⟩, ⟨(some 9), .bin .neq .bool (.t 6) (.t 8), none⟩])
  (.cond (.t 9) (.seq (.region [⟨(some 4), .mov (.k (.c (.bool false))), none⟩])
  .ret) .skip))
  (.seq (.seq (.region [⟨(some 10), .fldA 1 (.t 2), none⟩, ⟨(some 11), .load1 (.t 10), none⟩, ⟨(some 12), .fldA 1 (.t 3), none⟩, ⟨(some 13), .load1 (.t 12), none⟩, ⟨(some 14), .call (.k (.c (.fn 72 []))) [(.t 11), (.t 13)], none⟩, ⟨(some 15), .un .not (.t 14), none⟩])
  (.cond (.t 15) (.seq (.region [⟨(some 4), .mov (.k (.c (.bool false))), none⟩])
  .ret) .skip))
  (.seq (.seq (.region [⟨(some 16), .fldA 2 (.t 2), none⟩, ⟨(some 17), .loadN 16 (.t 16), none⟩, ⟨(some 18), .fldA 2 (.t 3), none⟩, ⟨(some 19), .loadN 16 (.t 18), none⟩, ⟨(some 20), .call (.k (.c (.fn 73 []))) [(.t 17), (.t 19)], none⟩, ⟨(some 21), .un .not (.t 20), none⟩])
  (.cond (.t 21) (.seq (.region [⟨(some 4), .mov (.k (.c (.bool false))), none⟩])
  .ret) .skip))
  (.seq (.region [⟨(some 4), .mov (.k (.c (.bool true))), none⟩])
  .ret))))), [.tmp 4], true⟩
theorem c23 : kk 23 = some k23 := by kernel_rfl
/-- loop.example/g01263/impl.ValidGrain -/
def l30_0 : KC := (.seq (.region [⟨(some 7), .bin .lss .int (.t 6) (.k (.c (.int .i64 16))), none⟩])
  (.seq (.cond (.t 7) .skip (.exit 0))
  (.seq (.block 1 (.seq (.region [⟨(some 8), .idx1 16 (.t 5) (.t 6), none⟩, ⟨(some 4), .mov (.t 8), none⟩])
  (.seq (.region [⟨(some 9), .mov (.t 4), none⟩, ⟨(some 10), .bin .lss .int (.t 9) (.k (.c (.int .i8 (-3)))), none⟩, ⟨(some 11), .mov (.t 10), none⟩, ⟨(some 12), .mov (.t 4), some (11, false)⟩, ⟨(some 13), .bin .gtr .int (.t 12) (.k (.c (.int .i8 3))), some (11, false)⟩, ⟨(some 14), .pick (.t 11) (.k (.c (.bool true))) (.t 13), none⟩])
  (.cond (.t 14) (.seq (.region [⟨(some 2), .mov (.k (.c (.bool false))), none⟩])
  .ret) .skip))))
  (.region [⟨(some 15), .bin .add .int (.t 6) (.k (.c (.int .i64 1))), none⟩, ⟨(some 6), .mov (.t 15), none⟩]))))
def k30 : KF := ⟨16, (.seq (.region [⟨(some 1), .box 37 (.t 0), none⟩, ⟨(some 2), .mov (.k (.c (.bool false))), none⟩])
  (.seq (.seq (.region [⟨(some 5), .loadN 16 (.t 1), none⟩, ⟨(some 6), .mov (.k (.c (.int .i64 0))), none⟩])
  (.block 0 (.loop l30_0)))
  (.seq (.region [⟨(some 2), .mov (.k (.c (.bool true))), none⟩])
  .ret))), [.tmp 2], true⟩
theorem c30 : kk 30 = some k30 := by kernel_rfl
/-- loop.example/g01263/laws.szHalfS -/
def l38_0 : KC := (.seq (.seq (.region [⟨(some 12), .mov (.t 5), none⟩, ⟨(some 13), .mov (.t 0), none⟩, ⟨(some 14), .len false (.t 13), none⟩, ⟨(some 15), .bin .lss .int (.t 12) (.t 14), none⟩])
  (.cond (.t 15) .skip (.exit 0)))
  (.seq (.block 1 (.seq (.region [⟨(some 18), .mov (.t 0), none⟩, ⟨(some 19), .mov (.t 5), none⟩, ⟨(some 20), .idxS 18 (.t 18) (.t 19), none⟩, ⟨(some 21), .loadN 18 (.t 20), none⟩, ⟨(some 22), .mov (.t 1), none⟩, ⟨(some 23), .call (.k (.c (.fn 18 []))) [(.t 21), (.t 22)], none⟩, ⟨(some 1), .mov (.t 23), none⟩])
  (.seq (.region [⟨(some 24), .mov (.t 1), none⟩, ⟨(some 25), .bin .lss .int (.t 24) (.k (.c (.int .i64 0))), none⟩])
  (.cond (.t 25) (.seq (.region [⟨(some 4), .mov (.k (.c (.int .i64 (-1)))), none⟩])
  .ret) .skip))))
  (.region [⟨(some 16), .mov (.t 5), none⟩, ⟨(some 17), .bin .add .int (.t 16) (.k (.c (.int .i64 1))), none⟩, ⟨(some 5), .mov (.t 17), none⟩])))
def k38 : KF := ⟨27, (.seq (.region [⟨(some 4), .mov (.k (.c (.int .i64 0))), none⟩])
  (.seq (.region [⟨(some 6), .mov (.t 1), none⟩, ⟨(some 7), .mov (.t 0), none⟩, ⟨(some 8), .len false (.t 7), none⟩, ⟨(some 9), .bin .sub .int (.t 6) (.t 8), none⟩, ⟨(some 1), .mov (.t 9), none⟩])
  (.seq (.seq (.region [⟨(some 10), .mov (.t 1), none⟩, ⟨(some 11), .bin .lss .int (.t 10) (.k (.c (.int .i64 0))), none⟩])
  (.cond (.t 11) (.seq (.region [⟨(some 4), .mov (.k (.c (.int .i64 (-1)))), none⟩])
  .ret) .skip))
  (.seq (.seq (.region [⟨(some 5), .mov (.k (.c (.int .i64 0))), none⟩])
  (.block 0 (.loop l38_0)))
  (.seq (.region [⟨(some 26), .mov (.t 1), none⟩, ⟨(some 4), .mov (.t 26), none⟩])
  .ret))))), [.tmp 4], true⟩
theorem c38 : kk 38 = some k38 := by kernel_rfl
/-- loop.example/g01263/laws.toHalfS -/
def l40_0 : KC := (.seq (.seq (.region [⟨(some 8), .mov (.t 4), none⟩, ⟨(some 9), .mov (.t 0), none⟩, ⟨(some 10), .len false (.t 9), none⟩, ⟨(some 11), .bin .lss .int (.t 8) (.t 10), none⟩])
  (.cond (.t 11) .skip (.exit 0)))
  (.seq (.block 1 (.region [⟨(some 14), .mov (.t 3), none⟩, ⟨(some 15), .mov (.t 4), none⟩, ⟨(some 16), .mov (.t 0), none⟩, ⟨(some 17), .mov (.t 4), none⟩, ⟨(some 18), .idxS 18 (.t 16) (.t 17), none⟩, ⟨(some 19), .loadN 18 (.t 18), none⟩, ⟨(some 20), .call (.k (.c (.fn 20 []))) [(.t 19)], none⟩, ⟨(some 21), .idxS 18 (.t 14) (.t 15), none⟩, ⟨none, .store 18 (.t 21) (.t 20), none⟩]))
  (.region [⟨(some 12), .mov (.t 4), none⟩, ⟨(some 13), .bin .add .int (.t 12) (.k (.c (.int .i64 1))), none⟩, ⟨(some 4), .mov (.t 13), none⟩])))
def k40 : KF := ⟨23, (.seq (.region [⟨(some 2), .mov (.k (.c (.slice none 0 (.exact 0)))), none⟩])
  (.seq (.region [⟨(some 5), .mov (.t 0), none⟩, ⟨(some 6), .len false (.t 5), none⟩, ⟨(some 7), .mkSl 39 [(.bool false), (.slice none 0 (.exact 0)), (.int .i8 0), (.int .i8 0), (.int .i8 0), (.int .i8 0), (.int .i8 0), (.int .i8 0), (.int .i8 0), (.int .i8 0), (.int .i8 0), (.int .i8 0), (.int .i8 0), (.int .i8 0), (.int .i8 0), (.int .i8 0), (.int .i8 0), (.int .i8 0)] 48 (.t 6) (.t 6), none⟩, ⟨(some 3), .mov (.t 7), none⟩])
  (.seq (.seq (.region [⟨(some 4), .mov (.k (.c (.int .i64 0))), none⟩])
  (.block 0 (.loop l40_0)))
  (.seq (.region [⟨(some 22), .mov (.t 3), none⟩, ⟨(some 2), .mov (.t 22), none⟩])
  .ret)))), [.tmp 2], false⟩
theorem c40 : kk 40 = some k40 := by kernel_rfl
/-- loop.example/g01263/laws.eqHalfS -/
def l42_0 : KC := (.seq (.seq (.region [⟨(some 11), .mov (.t 5), none⟩, ⟨(some 12), .mov (.t 0), none⟩, ⟨(some 13), .len false (.t 12), none⟩, ⟨(some 14), .bin .lss .int (.t 11) (.t 13), none⟩])
  (.cond (.t 14) .skip (.exit 0)))
  (.seq (.block 1 (.seq (.drawn [(⟨(some 17), .mov (.t 0), none⟩, []), (⟨(some 18), .mov (.t 5), none⟩, []), (⟨(some 19), .idxS 18 (.t 17) (.t 18), none⟩, []), (⟨(some 20), .loadN 18 (.t 19), none⟩, []), (⟨(some 21), .mov (.t 1), none⟩, []), (⟨(some 22), .mov (.t 5), none⟩, []), (⟨(some 23), .idxS 18 (.t 21) (.t 22), none⟩, []), (⟨(some 24), .loadN 18 (.t 23), none⟩, []), (⟨(some 25), .call (.k (.c (.fn 23 []))) [(.t 20), (.t 24)], none⟩, []), (⟨(some 26), .un .not (.t 25), none⟩, [])])
  (.cond (.t 26) (.seq (.region [⟨(some 4), .mov (.k (.c (.bool false))), none⟩])
  .ret) .skip)))
  (.region [⟨(some 15), .mov (.t 5), none⟩, ⟨(some 16), .bin .add .int (.t 15) (.k (.c (.int .i64 1))), none⟩, ⟨(some 5), .mov (.t 16), none⟩])))
def k42 : KF := ⟨27, (.seq (.region [⟨(some 4), .mov (.k (.c (.bool false))), none⟩])
  (.seq (.seq (.region [⟨(some 6), .mov (.t 0), none⟩, ⟨(some 7), .len false (.t 6), none⟩, ⟨(some 8), .mov (.t 1), none⟩, ⟨(some 9), .len false (.t 8), none⟩, ⟨(some 10), .bin .neq .int (.t 7) (.t 9), none⟩])
  (.cond (.t 10) (.seq (.region [⟨(some 4), .mov (.k (.c (.bool false))), none⟩])
  .ret) .skip))
  (.seq (.seq (.region [⟨(some 5), .mov (.k (.c (.int .i64 0))), none⟩])
  (.block 0 (.loop l42_0)))
  (.seq (.region [⟨(some 4), .mov (.k (.c (.bool true))), none⟩])
  .ret)))), [.tmp 4], true⟩
theorem c42 : kk 42 = some k42 := by kernel_rfl
/-- loop.example/g01263/spec.NearestFoil -/
def l43_0 : KC := (.seq (.seq (.region [⟨(some 23), .mov (.t 10), none⟩, ⟨(some 24), .mov (.t 1), none⟩, ⟨(some 25), .len false (.t 24), none⟩, ⟨(some 26), .bin .lss .int (.t 23) (.t 25), none⟩])
  (.cond (.t 26) .skip (.exit 0)))
  (.seq (.block 1 (.seq (.drawn [(⟨(some 30), .loadN 18 (.t 2), none⟩, []), (⟨(some 31), .mov (.t 1), none⟩, []), (⟨(some 32), .mov (.t 10), none⟩, []), (⟨(some 33), .idxS 18 (.t 31) (.t 32), none⟩, []), (⟨(some 34), .loadN 18 (.t 33), none⟩, []), (⟨(some 35), .call (.k (.c (.fn 96 []))) [(.t 30), (.t 34)], none⟩, []), (⟨(some 29), .mov (.t 35), none⟩, []), (⟨(some 36), .ext (.t 29) 0, none⟩, []), (⟨(some 37), .ext (.t 29) 1, none⟩, []), (⟨(some 38), .ext (.t 29) 2, none⟩, []), (⟨(some 11), .mov (.t 36), none⟩, []), (⟨(some 12), .mov (.t 37), none⟩, []), (⟨(some 13), .mov (.t 38), none⟩, [])])
  (.seq (.region [⟨(some 39), .mov (.t 11), none⟩, ⟨(some 40), .len false (.t 39), none⟩, ⟨(some 41), .mov (.t 12), none⟩, ⟨(some 42), .len false (.t 41), none⟩, ⟨(some 43), .bin .add .int (.t 40) (.t 42), none⟩, ⟨(some 14), .mov (.t 43), none⟩])
  (.seq (.region [⟨(some 44), .mov (.t 10), none⟩, ⟨(some 45), .bin .eql .int (.t 44) (.k (.c (.int .i64 0))), none⟩, ⟨(some 46), .mov (.t 45), none⟩, ⟨(some 47), .mov (.t 14), some (46, false)⟩, ⟨(some 48), .mov (.t 9), some (46, false)⟩, ⟨(some 49), .bin .lss .int (.t 47) (.t 48), some (46, false)⟩, ⟨(some 50), .pick (.t 46) (.k (.c (.bool true))) (.t 49), none⟩])
  (.cond (.t 50) (.seq (.region [⟨(some 51), .mov (.t 10), none⟩, ⟨(some 8), .mov (.t 51), none⟩])
  (.region [⟨(some 52), .mov (.t 14), none⟩, ⟨(some 9), .mov (.t 52), none⟩])) .skip)))))
  (.region [⟨(some 27), .mov (.t 10), none⟩, ⟨(some 28), .bin .add .int (.t 27) (.k (.c (.int .i64 1))), none⟩, ⟨(some 10), .mov (.t 28), none⟩])))
def k43 : KF := ⟨55, (.seq (.region [⟨(some 2), .box 39 (.t 0), none⟩, ⟨(some 4), .mov (.k (.c (.int .i64 0))), none⟩, ⟨(some 5), .mov (.k (.c (.int .i64 0))), none⟩, ⟨(some 6), .mov (.k (.c (.int .i64 0))), none⟩])
  (.seq (.seq (.region [⟨(some 15), .mov (.t 1), none⟩, ⟨(some 16), .call (.k (.c (.fn 92 []))) [(.t 2), (.t 15)], none⟩, ⟨(some 7), .mov (.t 16), none⟩])
  (.seq (.region [⟨(some 17), .mov (.t 7), none⟩, ⟨(some 18), .bin .neq .int (.t 17) (.k (.c (.int .i64 0))), none⟩])
  (.cond (.t 18) (.seq (.region [⟨(some 19), .mov (.t 7), none⟩, ⟨(some 4), .mov (.k (.c (.int .i64 0))), none⟩, ⟨(some 5), .mov (.k (.c (.int .i64 0))), none⟩, ⟨(some 6), .mov (.t 19), none⟩])
  .ret) .skip)))
  (.seq (.seq (.region [⟨(some 20), .mov (.t 1), none⟩, ⟨(some 21), .len false (.t 20), none⟩, ⟨(some 22), .bin .eql .int (.t 21) (.k (.c (.int .i64 0))), none⟩])
  (.cond (.t 22) (.seq (.region [⟨(some 4), .mov (.k (.c (.int .i64 0))), none⟩, ⟨(some 5), .mov (.k (.c (.int .i64 0))), none⟩, ⟨(some 6), .mov (.k (.c (.int .i64 6))), none⟩])
  .ret) .skip))
  (.seq (.region [⟨(some 8), .mov (.k (.c (.int .i64 0))), none⟩])
  (.seq (.region [⟨(some 9), .mov (.k (.c (.int .i64 0))), none⟩])
  (.seq (.seq (.region [⟨(some 10), .mov (.k (.c (.int .i64 0))), none⟩])
  (.block 0 (.loop l43_0)))
  (.seq (.region [⟨(some 53), .mov (.t 8), none⟩, ⟨(some 54), .mov (.t 9), none⟩, ⟨(some 4), .mov (.t 53), none⟩, ⟨(some 5), .mov (.t 54), none⟩, ⟨(some 6), .mov (.k (.c (.int .i64 0))), none⟩])
  .ret))))))), [.tmp 4, .tmp 5, .tmp 6], true⟩
theorem c43 : kk 43 = some k43 := by kernel_rfl
/-- loop.example/g01263/impl.NearestFoil -/
def l44_0 : KC := (.seq (.region [⟨(some 30), .bin .lss .int (.t 29) (.t 28), none⟩])
  (.seq (.cond (.t 30) .skip (.exit 1))
  (.seq (.block 2 (.seq (.region [⟨(some 31), .mov (.t 29), none⟩, ⟨(some 32), .idxS 18 (.t 27) (.t 29), none⟩, ⟨(some 33), .loadN 18 (.t 32), none⟩, ⟨(some 11), .alloc 39 [(.bool false), (.slice none 0 (.exact 0)), (.int .i8 0), (.int .i8 0), (.int .i8 0), (.int .i8 0), (.int .i8 0), (.int .i8 0), (.int .i8 0), (.int .i8 0), (.int .i8 0), (.int .i8 0), (.int .i8 0), (.int .i8 0), (.int .i8 0), (.int .i8 0), (.int .i8 0), (.int .i8 0)], none⟩, ⟨(some 10), .mov (.t 31), none⟩, ⟨none, .store 18 (.t 11) (.t 33), none⟩])
  (.seq (.drawn [(⟨(some 34), .loadN 18 (.t 2), none⟩, []), (⟨(some 35), .loadN 18 (.t 11), none⟩, []), (⟨(some 38), .fldA 2 (.t 2), none⟩, []), (⟨(some 39), .loadN 16 (.t 38), none⟩, []), (⟨(some 40), .fldA 2 (.t 11), none⟩, []), (⟨(some 41), .loadN 16 (.t 40), none⟩, []), (⟨(some 36), .call (.k (.c (.fn 97 []))) [(.t 34), (.t 35)], none⟩, [⟨(some 39), .loadN 16 (.t 38), none⟩, ⟨(some 41), .loadN 16 (.t 40), none⟩]), (⟨(some 37), .len false (.t 36), none⟩, []), (⟨(some 42), .call (.k (.c (.fn 83 []))) [(.t 39), (.t 41)], none⟩, []), (⟨(some 43), .len false (.t 42), none⟩, []), (⟨(some 44), .bin .add .int (.t 37) (.t 43), none⟩, []), (⟨(some 12), .mov (.t 44), none⟩, [])])
  (.seq (.region [⟨(some 45), .mov (.t 9), none⟩, ⟨(some 46), .bin .lss .int (.t 45) (.k (.c (.int .i64 0))), none⟩, ⟨(some 47), .mov (.t 46), none⟩, ⟨(some 48), .mov (.t 12), some (47, false)⟩, ⟨(some 49), .mov (.t 9), some (47, false)⟩, ⟨(some 50), .bin .lss .int (.t 48) (.t 49), some (47, false)⟩, ⟨(some 51), .pick (.t 47) (.k (.c (.bool true))) (.t 50), none⟩])
  (.cond (.t 51) (.seq (.region [⟨(some 52), .mov (.t 10), none⟩, ⟨(some 8), .mov (.t 52), none⟩])
  (.region [⟨(some 53), .mov (.t 12), none⟩, ⟨(some 9), .mov (.t 53), none⟩])) .skip)))))
  (.region [⟨(some 54), .bin .add .int (.t 29) (.k (.c (.int .i64 1))), none⟩, ⟨(some 29), .mov (.t 54), none⟩]))))
def k44 : KF := ⟨57, (.seq (.region [⟨(some 2), .box 39 (.t 0), none⟩, ⟨(some 4), .mov (.k (.c (.int .i64 0))), none⟩, ⟨(some 5), .mov (.k (.c (.int .i64 0))), none⟩, ⟨(some 6), .mov (.k (.c (.int .i64 0))), none⟩])
  (.seq (.seq (.region [⟨(some 13), .loadN 18 (.t 2), none⟩, ⟨(some 14), .mov (.t 1), none⟩, ⟨(some 15), .call (.k (.c (.fn 90 []))) [(.t 13), (.t 14)], none⟩, ⟨(some 7), .mov (.t 15), none⟩])
  (.seq (.region [⟨(some 16), .mov (.t 7), none⟩, ⟨(some 17), .bin .neq .int (.t 16) (.k (.c (.int .i64 0))), none⟩])
  (.cond (.t 17) (.seq (.region [⟨(some 18), .mov (.t 7), none⟩, ⟨(some 4), .mov (.k (.c (.int .i64 0))), none⟩, ⟨(some 5), .mov (.k (.c (.int .i64 0))), none⟩, ⟨(some 6), .mov (.t 18), none⟩])
  .ret) .skip)))
  (.seq (.block 0 (.seq (.region [⟨(some 20), .mov (.t 1), none⟩, ⟨(some 21), .len false (.t 20), none⟩, ⟨(some 22), .bin .gtr .int (.t 21) (.k (.c (.int .i64 40))), none⟩, ⟨(some 19), .mov (.t 22), none⟩])
  (.cond (.t 19) (.seq (.region [⟨(some 4), .mov (.k (.c (.int .i64 0))), none⟩, ⟨(some 5), .mov (.k (.c (.int .i64 0))), none⟩, ⟨(some 6), .mov (.k (.c (.int .i64 2))), none⟩])
  .ret) (.seq (.region [⟨(some 24), .mov (.t 1), none⟩, ⟨(some 25), .len false (.t 24), none⟩, ⟨(some 26), .bin .eql .int (.t 25) (.k (.c (.int .i64 0))), none⟩, ⟨(some 23), .mov (.t 26), none⟩])
  (.cond (.t 23) (.seq (.region [⟨(some 4), .mov (.k (.c (.int .i64 0))), none⟩, ⟨(some 5), .mov (.k (.c (.int .i64 0))), none⟩, ⟨(some 6), .mov (.k (.c (.int .i64 6))), none⟩])
  .ret) .skip)))))
  (.seq (.region [⟨(some 8), .mov (.k (.c (.int .i64 0))), none⟩, ⟨(some 9), .mov (.k (.c (.int .i64 (-1)))), none⟩])
  (.seq (.seq (.region [⟨(some 27), .mov (.t 1), none⟩, ⟨(some 28), .len false (.t 27), none⟩, ⟨(some 29), .mov (.k (.c (.int .i64 0))), none⟩])
  (.block 1 (.loop l44_0)))
  (.seq (.region [⟨(some 55), .mov (.t 8), none⟩, ⟨(some 56), .mov (.t 9), none⟩, ⟨(some 4), .mov (.t 55), none⟩, ⟨(some 5), .mov (.t 56), none⟩, ⟨(some 6), .mov (.k (.c (.int .i64 0))), none⟩])
  .ret)))))), [.tmp 4, .tmp 5, .tmp 6], true⟩
theorem c44 : kk 44 = some k44 := by kernel_rfl
/-- loop.example/g01263/laws.szNotchS -/
def k65 : KF := ⟨12, (.seq (.region [⟨(some 4), .mov (.k (.c (.int .i64 0))), none⟩])
  (.seq (.region [⟨(some 5), .mov (.t 1), none⟩, ⟨(some 6), .mov (.t 0), none⟩, ⟨(some 7), .len false (.t 6), none⟩, ⟨(some 8), .bin .sub .int (.t 5) (.t 7), none⟩, ⟨(some 1), .mov (.t 8), none⟩])
  (.seq (.seq (.region [⟨(some 9), .mov (.t 1), none⟩, ⟨(some 10), .bin .lss .int (.t 9) (.k (.c (.int .i64 0))), none⟩])
  (.cond (.t 10) (.seq (.region [⟨(some 4), .mov (.k (.c (.int .i64 (-1)))), none⟩])
  .ret) .skip))
  (.seq (.region [⟨(some 11), .mov (.t 1), none⟩, ⟨(some 4), .mov (.t 11), none⟩])
  .ret)))), [.tmp 4], true⟩
theorem c65 : kk 65 = some k65 := by kernel_rfl
/-- loop.example/g01263/spec.l01Ok -/
def k66 : KF := ⟨15, (.seq (.region [⟨(some 2), .mov (.k (.c (.bool false))), none⟩])
  (.seq (.region [⟨(some 3), .mov (.t 0), none⟩, ⟨(some 4), .nilchk (.t 3), none⟩, ⟨(some 5), .fldA 1 (.t 4), none⟩, ⟨(some 6), .load1 (.t 5), none⟩, ⟨(some 7), .call (.k (.c (.fn 110 []))) [(.t 6)], none⟩, ⟨(some 8), .mov (.t 7), none⟩, ⟨(some 9), .mov (.t 0), some (8, true)⟩, ⟨(some 10), .nilchk (.t 9), some (8, true)⟩, ⟨(some 11), .fldA 2 (.t 10), some (8, true)⟩, ⟨(some 12), .loadN 16 (.t 11), some (8, true)⟩, ⟨(some 13), .call (.k (.c (.fn 79 []))) [(.t 12)], some (8, true)⟩, ⟨(some 14), .pick (.t 8) (.t 13) (.k (.c (.bool false))), none⟩, ⟨(some 2), .mov (.t 14), none⟩])
  .ret)), [.tmp 2], true⟩
theorem c66 : kk 66 = some k66 := by kernel_rfl
/-- loop.example/g01263/laws.toNotchS -/
def l68_0 : KC := (.seq (.seq (.region [⟨(some 8), .mov (.t 4), none⟩, ⟨(some 9), .mov (.t 0), none⟩, ⟨(some 10), .len false (.t 9), none⟩, ⟨(some 11), .bin .lss .int (.t 8) (.t 10), none⟩])
  (.cond (.t 11) .skip (.exit 0)))
  (.seq (.block 1 (.region [⟨(some 14), .mov (.t 3), none⟩, ⟨(some 15), .mov (.t 4), none⟩, ⟨(some 16), .mov (.t 0), none⟩, ⟨(some 17), .mov (.t 4), none⟩, ⟨(some 18), .idxS 2 (.t 16) (.t 17), none⟩, ⟨(some 19), .loadN 2 (.t 18), none⟩, ⟨(some 20), .call (.k (.c (.fn 112 []))) [(.t 19)], none⟩, ⟨(some 21), .idxS 2 (.t 14) (.t 15), none⟩, ⟨none, .store 2 (.t 21) (.t 20), none⟩]))
  (.region [⟨(some 12), .mov (.t 4), none⟩, ⟨(some 13), .bin .add .int (.t 12) (.k (.c (.int .i64 1))), none⟩, ⟨(some 4), .mov (.t 13), none⟩])))
def k68 : KF := ⟨23, (.seq (.region [⟨(some 2), .mov (.k (.c (.slice none 0 (.exact 0)))), none⟩])
  (.seq (.region [⟨(some 5), .mov (.t 0), none⟩, ⟨(some 6), .len false (.t 5), none⟩, ⟨(some 7), .mkSl 134 [(.int .i8 0), (.int .i16 0)] 4 (.t 6) (.t 6), none⟩, ⟨(some 3), .mov (.t 7), none⟩])
  (.seq (.seq (.region [⟨(some 4), .mov (.k (.c (.int .i64 0))), none⟩])
  (.block 0 (.loop l68_0)))
  (.seq (.region [⟨(some 22), .mov (.t 3), none⟩, ⟨(some 2), .mov (.t 22), none⟩])
  .ret)))), [.tmp 2], false⟩
theorem c68 : kk 68 = some k68 := by kernel_rfl
/-- loop.example/g01263/laws.toGrain -/
def l69_0 : KC := (.seq (.seq (.region [⟨(some 5), .mov (.t 4), none⟩, ⟨(some 6), .bin .lss .int (.t 5) (.k (.c (.int .i64 16))), none⟩])
  (.cond (.t 6) .skip (.exit 0)))
  (.seq (.block 1 (.region [⟨(some 9), .mov (.t 4), none⟩, ⟨(some 10), .mov (.t 4), none⟩, ⟨(some 11), .idxA 16 1 (.t 1) (.t 10), none⟩, ⟨(some 12), .load1 (.t 11), none⟩, ⟨(some 13), .idxA 16 1 (.t 3) (.t 9), none⟩, ⟨none, .store 1 (.t 13) (.t 12), none⟩]))
  (.region [⟨(some 7), .mov (.t 4), none⟩, ⟨(some 8), .bin .add .int (.t 7) (.k (.c (.int .i64 1))), none⟩, ⟨(some 4), .mov (.t 8), none⟩])))
def k69 : KF := ⟨15, (.seq (.region [⟨(some 1), .box 30 (.t 0), none⟩, ⟨(some 2), .alloc 37 [(.int .i8 0), (.int .i8 0), (.int .i8 0), (.int .i8 0), (.int .i8 0), (.int .i8 0), (.int .i8 0), (.int .i8 0), (.int .i8 0), (.int .i8 0), (.int .i8 0), (.int .i8 0), (.int .i8 0), (.int .i8 0), (.int .i8 0), (.int .i8 0)], none⟩])
  (.seq (.region [⟨(some 3), .alloc 37 [(.int .i8 0), (.int .i8 0), (.int .i8 0), (.int .i8 0), (.int .i8 0), (.int .i8 0), (.int .i8 0), (.int .i8 0), (.int .i8 0), (.int .i8 0), (.int .i8 0), (.int .i8 0), (.int .i8 0), (.int .i8 0), (.int .i8 0), (.int .i8 0)], none⟩])
  (.seq (.seq (.region [⟨(some 4), .mov (.k (.c (.int .i64 0))), none⟩])
  (.block 0 (.loop l69_0)))
  (.seq (.region [⟨(some 14), .loadN 16 (.t 3), none⟩, ⟨none, .store 16 (.t 2) (.t 14), none⟩])
  .ret)))), [.cellN 2 16], true⟩
theorem c69 : kk 69 = some k69 := by kernel_rfl
/-- loop.example/g01263/impl.ValidHalf -/
def l70_0 : KC := (.seq (.region [⟨(some 19), .bin .lss .int (.t 18) (.t 17), none⟩])
  (.seq (.cond (.t 19) .skip (.exit 0))
  (.seq (.block 1 (.seq (.region [⟨(some 20), .mov (.t 18), none⟩, ⟨(some 21), .idxS 2 (.t 16) (.t 18), none⟩, ⟨(some 22), .loadN 2 (.t 21), none⟩, ⟨(some 4), .alloc 134 [(.int .i8 0), (.int .i16 0)], none⟩, ⟨(some 3), .mov (.t 20), none⟩, ⟨none, .store 2 (.t 4) (.t 22), none⟩])
  (.seq (.seq (.region [⟨(some 23), .fldA 0 (.t 4), none⟩, ⟨(some 24), .load1 (.t 23), none⟩, ⟨(some 25), .conv .i64 (.t 24), none⟩, ⟨(some 26), .call (.k (.c (.fn 113 []))) [(.t 25)], none⟩, ⟨(some 27), .un .not (.t 26), none⟩, ⟨(some 28), .mov (.t 27), none⟩, ⟨(some 29), .fldA 1 (.t 4), some (28, false)⟩, ⟨(some 30), .load1 (.t 29), some (28, false)⟩, ⟨(some 31), .bin .lss .int (.t 30) (.k (.c (.int .i16 0))), some (28, false)⟩, ⟨(some 32), .pick (.t 28) (.k (.c (.bool true))) (.t 31), none⟩, ⟨(some 33), .mov (.t 32), none⟩, ⟨(some 34), .loadN 2 (.t 4), some (33, false)⟩, ⟨(some 35), .call (.k (.c (.fn 114 []))) [(.t 34)], some (33, false)⟩, ⟨(some 36), .bin .gtr .int (.t 35) (.k (.c (.int .i64 200))), some (33, false)⟩, ⟨(some 37), .pick (.t 33) (.k (.c (.bool true))) (.t 36), none⟩])
  (.cond (.t 37) (.seq (.region [⟨(some 2), .mov (.k (.c (.bool false))), none⟩])
  .ret) .skip))
  (.seq (.drawn [(⟨(some 38), .mov (.t 3), none⟩, []), (⟨(some 39), .bin .gtr .int (.t 38) (.k (.c (.int .i64 0))), none⟩, []), (⟨(some 40), .mov (.t 39), none⟩, []), (⟨(some 41), .fldA 1 (.t 4), some (40, true)⟩, []), (⟨(some 42), .load1 (.t 41), some (40, true)⟩, []), (⟨(some 43), .conv .i64 (.t 42), some (40, true)⟩, []), (⟨(some 44), .fldA 1 (.t 1), some (40, true)⟩, []), (⟨(some 45), .load1 (.t 44), some (40, true)⟩, []), (⟨(some 46), .mov (.t 3), some (40, true)⟩, []), (⟨(some 47), .bin .sub .int (.t 46) (.k (.c (.int .i64 1))), some (40, true)⟩, []), (⟨(some 48), .idxS 2 (.t 45) (.t 47), some (40, true)⟩, []), (⟨(some 49), .loadN 2 (.t 48), some (40, true)⟩, []), (⟨(some 50), .call (.k (.c (.fn 114 []))) [(.t 49)], some (40, true)⟩, [⟨(some 42), .load1 (.t 41), some (40, true)⟩]), (⟨(some 51), .bin .leq .int (.t 43) (.t 50), some (40, true)⟩, []), (⟨(some 52), .mov (.t 51), some (40, true)⟩, []), (⟨(some 53), .fldA 0 (.t 4), some (52, false)⟩, []), (⟨(some 54), .load1 (.t 53), some (52, false)⟩, []), (⟨(some 55), .fldA 1 (.t 1), some (52, false)⟩, []), (⟨(some 56), .load1 (.t 55), some (52, false)⟩, []), (⟨(some 57), .mov (.t 3), some (52, false)⟩, []), (⟨(some 58), .bin .sub .int (.t 57) (.k (.c (.int .i64 1))), some (52, false)⟩, []), (⟨(some 59), .idxS 2 (.t 56) (.t 58), some (52, false)⟩, []), (⟨(some 60), .fldA 0 (.t 59), some (52, false)⟩, []), (⟨(some 61), .load1 (.t 60), some (52, false)⟩, []), (⟨(some 62), .bin .gtr .int (.t 54) (.t 61), some (52, false)⟩, []), (⟨(some 63), .pick (.t 52) (.k (.c (.bool true))) (.t 62), some (40, true)⟩, []), (⟨(some 64), .pick (.t 40) (.t 63) (.k (.c (.bool false))), none⟩, [])])
  (.cond (.t 64) (.seq (.region [⟨(some 2), .mov (.k (.c (.bool false))), none⟩])
  .ret) .skip)))))
  (.region [⟨(some 65), .bin .add .int (.t 18) (.k (.c (.int .i64 1))), none⟩, ⟨(some 18), .mov (.t 65), none⟩]))))
def k70 : KF := ⟨66, (.seq (.region [⟨(some 1), .box 39 (.t 0), none⟩, ⟨(some 2), .mov (.k (.c (.bool false))), none⟩])
  (.seq (.seq (.region [⟨(some 5), .fldA 1 (.t 1), none⟩, ⟨(some 6), .load1 (.t 5), none⟩, ⟨(some 7), .len false (.t 6), none⟩, ⟨(some 8), .bin .gtr .int (.t 7) (.k (.c (.int .i64 60))), none⟩, ⟨(some 9), .mov (.t 8), none⟩, ⟨(some 10), .fldA 2 (.t 1), some (9, false)⟩, ⟨(some 11), .loadN 16 (.t 10), some (9, false)⟩, ⟨(some 12), .call (.k (.c (.fn 30 []))) [(.t 11)], some (9, false)⟩, ⟨(some 13), .un .not (.t 12), some (9, false)⟩, ⟨(some 14), .pick (.t 9) (.k (.c (.bool true))) (.t 13), none⟩])
  (.cond (.t 14) (.seq (.region [⟨(some 2), .mov (.k (.c (.bool false))), none⟩])
  .ret) .skip))
  (.seq (.seq (.region [⟨(some 15), .fldA 1 (.t 1), none⟩, ⟨(some 16), .load1 (.t 15), none⟩, ⟨(some 17), .len false (.t 16), none⟩, ⟨(some 18), .mov (.k (.c (.int .i64 0))), none⟩])
  (.block 0 (.loop l70_0)))
  (.seq (.region [⟨(some 2), .mov (.k (.c (.bool true))), none⟩])
  .ret)))), [.tmp 2], true⟩
theorem c70 : kk 70 = some k70 := by kernel_rfl
/-- loop.example/g01263/laws.eqNotchS -/
def l72_0 : KC := (.seq (.seq (.region [⟨(some 11), .mov (.t 5), none⟩, ⟨(some 12), .mov (.t 0), none⟩, ⟨(some 13), .len false (.t 12), none⟩, ⟨(some 14), .bin .lss .int (.t 11) (.t 13), none⟩])
  (.cond (.t 14) .skip (.exit 0)))
  (.seq (.block 1 (.seq (.drawn [(⟨(some 17), .mov (.t 0), none⟩, []), (⟨(some 18), .mov (.t 5), none⟩, []), (⟨(some 19), .idxS 2 (.t 17) (.t 18), none⟩, []), (⟨(some 20), .loadN 2 (.t 19), none⟩, []), (⟨(some 21), .mov (.t 1), none⟩, []), (⟨(some 22), .mov (.t 5), none⟩, []), (⟨(some 23), .idxS 2 (.t 21) (.t 22), none⟩, []), (⟨(some 24), .loadN 2 (.t 23), none⟩, []), (⟨(some 25), .call (.k (.c (.fn 115 []))) [(.t 20), (.t 24)], none⟩, []), (⟨(some 26), .un .not (.t 25), none⟩, [])])
  (.cond (.t 26) (.seq (.region [⟨(some 4), .mov (.k (.c (.bool false))), none⟩])
  .ret) .skip)))
  (.region [⟨(some 15), .mov (.t 5), none⟩, ⟨(some 16), .bin .add .int (.t 15) (.k (.c (.int .i64 1))), none⟩, ⟨(some 5), .mov (.t 16), none⟩])))
def k72 : KF := ⟨27, (.seq (.region [⟨(some 4), .mov (.k (.c (.bool false))), none⟩])
  (.seq (.seq (.region [⟨(some 6), .mov (.t 0), none⟩, ⟨(some 7), .len false (.t 6), none⟩, ⟨(some 8), .mov (.t 1), none⟩, ⟨(some 9), .len false (.t 8), none⟩, ⟨(some 10), .bin .neq .int (.t 7) (.t 9), none⟩])
  (.cond (.t 10) (.seq (.region [⟨(some 4), .mov (.k (.c (.bool false))), none⟩])
  .ret) .skip))
  (.seq (.seq (.region [⟨(some 5), .mov (.k (.c (.int .i64 0))), none⟩])
  (.block 0 (.loop l72_0)))
  (.seq (.region [⟨(some 4), .mov (.k (.c (.bool true))), none⟩])
  .ret)))), [.tmp 4], true⟩
theorem c72 : kk 72 = some k72 := by kernel_rfl
/-- loop.example/g01263/laws.eqGrain -/
def l73_0 : KC := (.seq (.seq (.region [⟨(some 6), .mov (.t 5), none⟩, ⟨(some 7), .bin .lss .int (.t 6) (.k (.c (.int .i64 16))), none⟩])
  (.cond (.t 7) .skip (.exit 0)))
  (.seq (.block 1 (.seq (.drawn [(⟨(some 10), .mov (.t 5), none⟩, []), (⟨(some 11), .idxA 16 1 (.t 2) (.t 10), none⟩, []), (⟨(some 12), .load1 (.t 11), none⟩, []), (⟨(some 13), .mov (.t 5), none⟩, []), (⟨(some 14), .idxA 16 1 (.t 3) (.t 13), none⟩, []), (⟨(some 15), .load1 (.t 14), none⟩, []), (⟨(some 16), .bin .neq .int (.t 12) (.t 15), none⟩, [])])
  (.cond (.t 16) (.seq (.region [⟨(some 4), .mov (.k (.c (.bool false))), none⟩])
  .ret) .skip)))
  (.region [⟨(some 8), .mov (.t 5), none⟩, ⟨(some 9), .bin .add .int (.t 8) (.k (.c (.int .i64 1))), none⟩, ⟨(some 5), .mov (.t 9), none⟩])))
def k73 : KF := ⟨17, (.seq (.region [⟨(some 2), .box 37 (.t 0), none⟩, ⟨(some 3), .box 37 (.t 1), none⟩, ⟨(some 4), .mov (.k (.c (.bool false))), none⟩])
  (.seq (.seq (.region [⟨(some 5), .mov (.k (.c (.int .i64 0))), none⟩])
  (.block 0 (.loop l73_0)))
  (.seq (.region [⟨(some 4), .mov (.k (.c (.bool true))), none⟩])
  .ret))), [.tmp 4], true⟩
theorem c73 : kk 73 = some k73 := by kernel_rfl
/-- loop.example/g01263/spec.l01Grain -/
def l79_0 : KC := (.seq (.seq (.region [⟨(some 4), .mov (.t 3), none⟩, ⟨(some 5), .bin .lss .int (.t 4) (.k (.c (.int .i64 16))), none⟩])
  (.cond (.t 5) .skip (.exit 0)))
  (.seq (.block 1 (.seq (.region [⟨(some 8), .mov (.t 3), none⟩, ⟨(some 9), .idxA 16 1 (.t 1) (.t 8), none⟩, ⟨(some 10), .load1 (.t 9), none⟩, ⟨(some 11), .bin .lss .int (.t 10) (.k (.c (.int .i8 (-3)))), none⟩, ⟨(some 12), .mov (.t 11), none⟩, ⟨(some 13), .mov (.t 3), some (12, false)⟩, ⟨(some 14), .idxA 16 1 (.t 1) (.t 13), some (12, false)⟩, ⟨(some 15), .load1 (.t 14), some (12, false)⟩, ⟨(some 16), .bin .gtr .int (.t 15) (.k (.c (.int .i8 3))), some (12, false)⟩, ⟨(some 17), .pick (.t 12) (.k (.c (.bool true))) (.t 16), none⟩])
  (.cond (.t 17) (.seq (.region [⟨(some 2), .mov (.k (.c (.bool false))), none⟩])
  .ret) .skip)))
  (.region [⟨(some 6), .mov (.t 3), none⟩, ⟨(some 7), .bin .add .int (.t 6) (.k (.c (.int .i64 1))), none⟩, ⟨(some 3), .mov (.t 7), none⟩])))
def k79 : KF := ⟨18, (.seq (.region [⟨(some 1), .box 37 (.t 0), none⟩, ⟨(some 2), .mov (.k (.c (.bool false))), none⟩])
  (.seq (.seq (.region [⟨(some 3), .mov (.k (.c (.int .i64 0))), none⟩])
  (.block 0 (.loop l79_0)))
  (.seq (.region [⟨(some 2), .mov (.k (.c (.bool true))), none⟩])
  .ret))), [.tmp 2], true⟩
theorem c79 : kk 79 = some k79 := by kernel_rfl
/-- loop.example/g01263/spec.l00In -/
def k80 : KF := ⟨15, (.seq (.region [⟨(some 6), .mov (.k (.c (.bool false))), none⟩])
  (.seq (.region [⟨(some 7), .mov (.t 0), none⟩, ⟨(some 8), .mov (.t 1), none⟩, ⟨(some 9), .bin .geq .int (.t 7) (.t 8), none⟩, ⟨(some 10), .mov (.t 9), none⟩, ⟨(some 11), .mov (.t 0), some (10, true)⟩, ⟨(some 12), .mov (.t 2), some (10, true)⟩, ⟨(some 13), .bin .leq .int (.t 11) (.t 12), some (10, true)⟩, ⟨(some 14), .pick (.t 10) (.t 13) (.k (.c (.bool false))), none⟩, ⟨(some 6), .mov (.t 14), none⟩])
  .ret)), [.tmp 6], true⟩
theorem c80 : kk 80 = some k80 := by kernel_rfl
/-- loop.example/g01263/impl.worn -/
def l83_0 : KC := (.seq (.region [⟨(some 9), .bin .lss .int (.t 8) (.k (.c (.int .i64 16))), none⟩])
  (.seq (.cond (.t 9) .skip (.exit 0))
  (.seq (.block 1 (.seq (.region [⟨(some 10), .mov (.t 8), none⟩, ⟨(some 6), .mov (.t 10), none⟩])
  (.seq (.drawn [(⟨(some 11), .mov (.t 6), none⟩, []), (⟨(some 12), .idxA 16 1 (.t 2) (.t 11), none⟩, []), (⟨(some 13), .load1 (.t 12), none⟩, []), (⟨(some 14), .mov (.t 6), none⟩, []), (⟨(some 15), .idxA 16 1 (.t 3) (.t 14), none⟩, []), (⟨(some 16), .load1 (.t 15), none⟩, []), (⟨(some 17), .bin .add .int (.t 13) (.t 16), none⟩, []), (⟨(some 18), .bin .neq .int (.t 17) (.k (.c (.int .i8 0))), none⟩, [])])
  (.cond (.t 18) (.region [⟨(some 19), .mov (.t 5), none⟩, ⟨(some 20), .mov (.t 6), none⟩, ⟨(some 21), .buildSl 2 1 [(.int .i64 0)] [(0, 1, (.t 20))], none⟩, ⟨(some 22), .app 2 1 8 (.t 19) (.t 21), none⟩, ⟨(some 5), .mov (.t 22), none⟩]) .skip))))
  (.region [⟨(some 23), .bin .add .int (.t 8) (.k (.c (.int .i64 1))), none⟩, ⟨(some 8), .mov (.t 23), none⟩]))))
def k83 : KF := ⟨25, (.seq (.region [⟨(some 2), .box 37 (.t 0), none⟩, ⟨(some 3), .box 37 (.t 1), none⟩, ⟨(some 4), .mov (.k (.c (.slice none 0 (.exact 0)))), none⟩])
  (.seq (.region [⟨(some 7), .buildSl 2 0 [] [], none⟩, ⟨(some 5), .mov (.t 7), none⟩])
  (.seq (.seq (.region [⟨(some 8), .mov (.k (.c (.int .i64 0))), none⟩])
  (.block 0 (.loop l83_0)))
  (.seq (.region [⟨(some 24), .mov (.t 5), none⟩, ⟨(some 4), .mov (.t 24), none⟩])
  .ret)))), [.tmp 4], false⟩
theorem c83 : kk 83 = some k83 := by kernel_rfl
/-- loop.example/g01263/impl.pairCode -/
def l90_0 : KC := (.seq (.region [⟨(some 15), .bin .lss .int (.t 14) (.t 13), none⟩])
  (.seq (.cond (.t 15) .skip (.exit 0))
  (.seq (.block 1 (.seq (.region [⟨(some 16), .idxS 18 (.t 12) (.t 14), none⟩, ⟨(some 17), .loadN 18 (.t 16), none⟩, ⟨(some 6), .alloc 39 [(.bool false), (.slice none 0 (.exact 0)), (.int .i8 0), (.int .i8 0), (.int .i8 0), (.int .i8 0), (.int .i8 0), (.int .i8 0), (.int .i8 0), (.int .i8 0), (.int .i8 0), (.int .i8 0), (.int .i8 0), (.int .i8 0), (.int .i8 0), (.int .i8 0), (.int .i8 0), (.int .i8 0)], none⟩, ⟨none, .store 18 (.t 6) (.t 17), none⟩])
  (.seq (.region [⟨(some 18), .loadN 18 (.t 6), none⟩, ⟨(some 19), .call (.k (.c (.fn 70 []))) [(.t 18)], none⟩, ⟨(some 20), .un .not (.t 19), none⟩])
  (.cond (.t 20) (.seq (.region [⟨(some 4), .mov (.k (.c (.int .i64 1))), none⟩])
  .ret) .skip))))
  (.region [⟨(some 21), .bin .add .int (.t 14) (.k (.c (.int .i64 1))), none⟩, ⟨(some 14), .mov (.t 21), none⟩]))))
def l90_1 : KC := (.seq (.region [⟨(some 28), .bin .lss .int (.t 27) (.t 26), none⟩])
  (.seq (.cond (.t 28) .skip (.exit 2))
  (.seq (.block 3 (.seq (.region [⟨(some 29), .idxS 18 (.t 25) (.t 27), none⟩, ⟨(some 30), .loadN 18 (.t 29), none⟩, ⟨(some 8), .alloc 39 [(.bool false), (.slice none 0 (.exact 0)), (.int .i8 0), (.int .i8 0), (.int .i8 0), (.int .i8 0), (.int .i8 0), (.int .i8 0), (.int .i8 0), (.int .i8 0), (.int .i8 0), (.int .i8 0), (.int .i8 0), (.int .i8 0), (.int .i8 0), (.int .i8 0), (.int .i8 0), (.int .i8 0)], none⟩, ⟨none, .store 18 (.t 8) (.t 30), none⟩])
  (.seq (.region [⟨(some 31), .fldA 0 (.t 8), none⟩, ⟨(some 32), .load1 (.t 31), none⟩])
  (.cond (.t 32) (.seq (.region [⟨(some 4), .mov (.k (.c (.int .i64 4))), none⟩])
  .ret) .skip))))
  (.region [⟨(some 33), .bin .add .int (.t 27) (.k (.c (.int .i64 1))), none⟩, ⟨(some 27), .mov (.t 33), none⟩]))))
def k90 : KF := ⟨34, (.seq (.region [⟨(some 2), .box 39 (.t 0), none⟩, ⟨(some 4), .mov (.k (.c (.int .i64 0))), none⟩])
  (.seq (.seq (.region [⟨(some 9), .loadN 18 (.t 2), none⟩, ⟨(some 10), .call (.k (.c (.fn 70 []))) [(.t 9)], none⟩, ⟨(some 11), .un .not (.t 10), none⟩])
  (.cond (.t 11) (.seq (.region [⟨(some 4), .mov (.k (.c (.int .i64 1))), none⟩])
  .ret) .skip))
  (.seq (.seq (.region [⟨(some 12), .mov (.t 1), none⟩, ⟨(some 13), .len false (.t 12), none⟩, ⟨(some 14), .mov (.k (.c (.int .i64 0))), none⟩])
  (.block 0 (.loop l90_0)))
  (.seq (.seq (.region [⟨(some 22), .fldA 0 (.t 2), none⟩, ⟨(some 23), .load1 (.t 22), none⟩, ⟨(some 24), .un .not (.t 23), none⟩])
  (.cond (.t 24) (.seq (.region [⟨(some 4), .mov (.k (.c (.int .i64 4))), none⟩])
  .ret) .skip))
  (.seq (.seq (.region [⟨(some 25), .mov (.t 1), none⟩, ⟨(some 26), .len false (.t 25), none⟩, ⟨(some 27), .mov (.k (.c (.int .i64 0))), none⟩])
  (.block 2 (.loop l90_1)))
  (.seq (.region [⟨(some 4), .mov (.k (.c (.int .i64 0))), none⟩])
  .ret)))))), [.tmp 4], true⟩
theorem c90 : kk 90 = some k90 := by kernel_rfl
/-- loop.example/g01263/spec.l04Foils -/
def l92_0 : KC := (.seq (.seq (.region [⟨(some 10), .mov (.t 6), none⟩, ⟨(some 11), .mov (.t 1), none⟩, ⟨(some 12), .len false (.t 11), none⟩, ⟨(some 13), .bin .lss .int (.t 10) (.t 12), none⟩, ⟨(some 14), .mov (.t 13), none⟩, ⟨(some 15), .mov (.t 5), some (14, true)⟩, ⟨(some 16), .pick (.t 14) (.t 15) (.k (.c (.bool false))), none⟩])
  (.cond (.t 16) .skip (.exit 0)))
  (.seq (.block 1 (.region [⟨(some 19), .mov (.t 1), none⟩, ⟨(some 20), .mov (.t 6), none⟩, ⟨(some 21), .idxS 18 (.t 19) (.t 20), none⟩, ⟨(some 22), .call (.k (.c (.fn 66 []))) [(.t 21)], none⟩, ⟨(some 5), .mov (.t 22), none⟩]))
  (.region [⟨(some 17), .mov (.t 6), none⟩, ⟨(some 18), .bin .add .int (.t 17) (.k (.c (.int .i64 1))), none⟩, ⟨(some 6), .mov (.t 18), none⟩])))
def l92_1 : KC := (.seq (.seq (.region [⟨(some 29), .mov (.t 7), none⟩, ⟨(some 30), .mov (.t 1), none⟩, ⟨(some 31), .len false (.t 30), none⟩, ⟨(some 32), .bin .lss .int (.t 29) (.t 31), none⟩, ⟨(some 33), .mov (.t 32), none⟩, ⟨(some 34), .mov (.t 5), some (33, true)⟩, ⟨(some 35), .pick (.t 33) (.t 34) (.k (.c (.bool false))), none⟩])
  (.cond (.t 35) .skip (.exit 2)))
  (.seq (.block 3 (.region [⟨(some 38), .mov (.t 1), none⟩, ⟨(some 39), .mov (.t 7), none⟩, ⟨(some 40), .idxS 18 (.t 38) (.t 39), none⟩, ⟨(some 41), .fldA 0 (.t 40), none⟩, ⟨(some 42), .load1 (.t 41), none⟩, ⟨(some 43), .un .not (.t 42), none⟩, ⟨(some 5), .mov (.t 43), none⟩]))
  (.region [⟨(some 36), .mov (.t 7), none⟩, ⟨(some 37), .bin .add .int (.t 36) (.k (.c (.int .i64 1))), none⟩, ⟨(some 7), .mov (.t 37), none⟩])))
def k92 : KF := ⟨49, (.seq (.region [⟨(some 4), .mov (.k (.c (.int .i64 0))), none⟩])
  (.seq (.region [⟨(some 8), .mov (.t 0), none⟩, ⟨(some 9), .call (.k (.c (.fn 66 []))) [(.t 8)], none⟩, ⟨(some 5), .mov (.t 9), none⟩])
  (.seq (.seq (.region [⟨(some 6), .mov (.k (.c (.int .i64 0))), none⟩])
  (.block 0 (.loop l92_0)))
  (.seq (.seq (.region [⟨(some 23), .mov (.t 5), none⟩, ⟨(some 24), .un .not (.t 23), none⟩])
  (.cond (.t 24) (.seq (.region [⟨(some 4), .mov (.k (.c (.int .i64 1))), none⟩])
  .ret) .skip))
  (.seq (.region [⟨(some 25), .mov (.t 0), none⟩, ⟨(some 26), .nilchk (.t 25), none⟩, ⟨(some 27), .fldA 0 (.t 26), none⟩, ⟨(some 28), .load1 (.t 27), none⟩, ⟨(some 5), .mov (.t 28), none⟩])
  (.seq (.seq (.region [⟨(some 7), .mov (.k (.c (.int .i64 0))), none⟩])
  (.block 2 (.loop l92_1)))
  (.seq (.seq (.region [⟨(some 44), .mov (.t 5), none⟩, ⟨(some 45), .un .not (.t 44), none⟩])
  (.cond (.t 45) (.seq (.region [⟨(some 4), .mov (.k (.c (.int .i64 4))), none⟩])
  .ret) .skip))
  (.seq (.seq (.region [⟨(some 46), .mov (.t 1), none⟩, ⟨(some 47), .len false (.t 46), none⟩, ⟨(some 48), .bin .gtr .int (.t 47) (.k (.c (.int .i64 40))), none⟩])
  (.cond (.t 48) (.seq (.region [⟨(some 4), .mov (.k (.c (.int .i64 2))), none⟩])
  .ret) .skip))
  (.seq (.region [⟨(some 4), .mov (.k (.c (.int .i64 0))), none⟩])
  .ret))))))))), [.tmp 4], true⟩
theorem c92 : kk 92 = some k92 := by kernel_rfl
/-- loop.example/g01263/spec.MisfitsOf -/
def l96_0 : KC := (.seq (.seq (.region [⟨(some 25), .mov (.t 11), none⟩, ⟨(some 26), .mov (.t 9), none⟩, ⟨(some 27), .len false (.t 26), none⟩, ⟨(some 28), .bin .lss .int (.t 25) (.t 27), none⟩, ⟨(some 29), .mov (.t 28), none⟩, ⟨(some 30), .mov (.t 11), some (29, false)⟩, ⟨(some 31), .mov (.t 10), some (29, false)⟩, ⟨(some 32), .len false (.t 31), some (29, false)⟩, ⟨(some 33), .bin .lss .int (.t 30) (.t 32), some (29, false)⟩, ⟨(some 34), .pick (.t 29) (.k (.c (.bool true))) (.t 33), none⟩])
  (.cond (.t 34) .skip (.exit 0)))
  (.seq (.block 1 (.seq (.drawn [(⟨(some 37), .mov (.t 11), none⟩, []), (⟨(some 38), .mov (.t 9), none⟩, []), (⟨(some 39), .len false (.t 38), none⟩, []), (⟨(some 40), .bin .geq .int (.t 37) (.t 39), none⟩, []), (⟨(some 41), .mov (.t 40), none⟩, []), (⟨(some 42), .mov (.t 11), some (41, false)⟩, []), (⟨(some 43), .mov (.t 10), some (41, false)⟩, []), (⟨(some 44), .len false (.t 43), some (41, false)⟩, []), (⟨(some 45), .bin .geq .int (.t 42) (.t 44), some (41, false)⟩, []), (⟨(some 46), .pick (.t 41) (.k (.c (.bool true))) (.t 45), none⟩, []), (⟨(some 47), .mov (.t 46), none⟩, []), (⟨(some 48), .mov (.t 9), some (47, false)⟩, []), (⟨(some 49), .mov (.t 11), some (47, false)⟩, []), (⟨(some 50), .idxS 2 (.t 48) (.t 49), some (47, false)⟩, []), (⟨(some 51), .loadN 2 (.t 50), some (47, false)⟩, []), (⟨(some 52), .mov (.t 10), some (47, false)⟩, []), (⟨(some 53), .mov (.t 11), some (47, false)⟩, []), (⟨(some 54), .idxS 2 (.t 52) (.t 53), some (47, false)⟩, []), (⟨(some 55), .loadN 2 (.t 54), some (47, false)⟩, []), (⟨(some 56), .bin .neq (.agg [.int, .int]) (.t 51) (.t 55), some (47, false)⟩, []), (⟨(some 57), .pick (.t 47) (.k (.c (.bool true))) (.t 56), none⟩, [])])
  (.cond (.t 57) (.region [⟨(some 58), .mov (.t 8), none⟩, ⟨(some 59), .mov (.t 11), none⟩, ⟨(some 60), .buildSl 2 1 [(.int .i64 0)] [(0, 1, (.t 59))], none⟩, ⟨(some 61), .app 2 1 8 (.t 58) (.t 60), none⟩, ⟨(some 8), .mov (.t 61), none⟩]) .skip)))
  (.region [⟨(some 35), .mov (.t 11), none⟩, ⟨(some 36), .bin .add .int (.t 35) (.k (.c (.int .i64 1))), none⟩, ⟨(some 11), .mov (.t 36), none⟩])))
def l96_1 : KC := (.seq (.seq (.region [⟨(some 63), .mov (.t 13), none⟩, ⟨(some 64), .bin .lss .int (.t 63) (.k (.c (.int .i64 16))), none⟩])
  (.cond (.t 64) .skip (.exit 2)))
  (.seq (.block 3 (.seq (.drawn [(⟨(some 67), .mov (.t 13), none⟩, []), (⟨(some 68), .fldA 2 (.t 2), none⟩, []), (⟨(some 69), .idxA 16 1 (.t 68) (.t 67), none⟩, []), (⟨(some 70), .load1 (.t 69), none⟩, []), (⟨(some 71), .mov (.t 13), none⟩, []), (⟨(some 72), .fldA 2 (.t 3), none⟩, []), (⟨(some 73), .idxA 16 1 (.t 72) (.t 71), none⟩, []), (⟨(some 74), .load1 (.t 73), none⟩, []), (⟨(some 75), .bin .add .int (.t 70) (.t 74), none⟩, []), (⟨(some 76), .bin .neq .int (.t 75) (.k (.c (.int .i8 0))), none⟩, [])])
  (.cond (.t 76) (.region [⟨(some 77), .mov (.t 12), none⟩, ⟨(some 78), .mov (.t 13), none⟩, ⟨(some 79), .buildSl 2 1 [(.int .i64 0)] [(0, 1, (.t 78))], none⟩, ⟨(some 80), .app 2 1 8 (.t 77) (.t 79), none⟩, ⟨(some 12), .mov (.t 80), none⟩]) .skip)))
  (.region [⟨(some 65), .mov (.t 13), none⟩, ⟨(some 66), .bin .add .int (.t 65) (.k (.c (.int .i64 1))), none⟩, ⟨(some 13), .mov (.t 66), none⟩])))
def k96 : KF := ⟨83, (.seq (.region [⟨(some 2), .box 39 (.t 0), none⟩, ⟨(some 3), .box 39 (.t 1), none⟩, ⟨(some 4), .mov (.k (.c (.slice none 0 (.exact 0)))), none⟩, ⟨(some 5), .mov (.k (.c (.slice none 0 (.exact 0)))), none⟩, ⟨(some 6), .mov (.k (.c (.int .i64 0))), none⟩])
  (.seq (.seq (.region [⟨(some 14), .call (.k (.c (.fn 124 []))) [(.t 2), (.t 3), (.k (.c (.int .i64 0)))], none⟩, ⟨(some 7), .mov (.t 14), none⟩])
  (.seq (.region [⟨(some 15), .mov (.t 7), none⟩, ⟨(some 16), .bin .neq .int (.t 15) (.k (.c (.int .i64 0))), none⟩])
  (.cond (.t 16) (.seq (.region [⟨(some 17), .buildSl 2 0 [] [], none⟩, ⟨(some 18), .buildSl 2 0 [] [], none⟩, ⟨(some 19), .mov (.t 7), none⟩, ⟨(some 4), .mov (.t 17), none⟩, ⟨(some 5), .mov (.t 18), none⟩, ⟨(some 6), .mov (.t 19), none⟩])
  .ret) .skip)))
  (.seq (.region [⟨(some 20), .buildSl 2 0 [] [], none⟩, ⟨(some 8), .mov (.t 20), none⟩])
  (.seq (.region [⟨(some 21), .fldA 1 (.t 2), none⟩, ⟨(some 22), .load1 (.t 21), none⟩, ⟨(some 9), .mov (.t 22), none⟩])
  (.seq (.region [⟨(some 23), .fldA 1 (.t 3), none⟩, ⟨(some 24), .load1 (.t 23), none⟩, ⟨(some 10), .mov (.t 24), none⟩])
  (.seq (.seq (.region [⟨(some 11), .mov (.k (.c (.int .i64 0))), none⟩])
  (.block 0 (.loop l96_0)))
  (.seq (.region [⟨(some 62), .buildSl 2 0 [] [], none⟩, ⟨(some 12), .mov (.t 62), none⟩])
  (.seq (.seq (.region [⟨(some 13), .mov (.k (.c (.int .i64 0))), none⟩])
  (.block 2 (.loop l96_1)))
  (.seq (.region [⟨(some 81), .mov (.t 8), none⟩, ⟨(some 82), .mov (.t 12), none⟩, ⟨(some 4), .mov (.t 81), none⟩, ⟨(some 5), .mov (.t 82), none⟩, ⟨(some 6), .mov (.k (.c (.int .i64 0))), none⟩])
  .ret))))))))), [.tmp 4, .tmp 5, .tmp 6], false⟩
theorem c96 : kk 96 = some k96 := by kernel_rfl
/-- loop.example/g01263/impl.misfits -/
def l97_0 : KC := (.seq (.region [⟨(some 20), .bin .lss .int (.t 19) (.t 18), none⟩])
  (.seq (.cond (.t 20) .skip (.exit 0))
  (.seq (.block 1 (.seq (.region [⟨(some 21), .mov (.t 19), none⟩, ⟨(some 8), .mov (.t 21), none⟩])
  (.seq (.drawn [(⟨(some 22), .mov (.t 8), none⟩, []), (⟨(some 23), .mov (.t 6), none⟩, []), (⟨(some 24), .len false (.t 23), none⟩, []), (⟨(some 25), .bin .geq .int (.t 22) (.t 24), none⟩, []), (⟨(some 26), .mov (.t 25), none⟩, []), (⟨(some 27), .mov (.t 8), some (26, false)⟩, []), (⟨(some 28), .mov (.t 7), some (26, false)⟩, []), (⟨(some 29), .len false (.t 28), some (26, false)⟩, []), (⟨(some 30), .bin .geq .int (.t 27) (.t 29), some (26, false)⟩, []), (⟨(some 31), .pick (.t 26) (.k (.c (.bool true))) (.t 30), none⟩, []), (⟨(some 32), .mov (.t 31), none⟩, []), (⟨(some 33), .mov (.t 6), some (32, false)⟩, []), (⟨(some 34), .mov (.t 8), some (32, false)⟩, []), (⟨(some 35), .idxS 2 (.t 33) (.t 34), some (32, false)⟩, []), (⟨(some 36), .loadN 2 (.t 35), some (32, false)⟩, []), (⟨(some 37), .mov (.t 7), some (32, false)⟩, []), (⟨(some 38), .mov (.t 8), some (32, false)⟩, []), (⟨(some 39), .idxS 2 (.t 37) (.t 38), some (32, false)⟩, []), (⟨(some 40), .loadN 2 (.t 39), some (32, false)⟩, []), (⟨(some 41), .bin .neq (.agg [.int, .int]) (.t 36) (.t 40), some (32, false)⟩, []), (⟨(some 42), .pick (.t 32) (.k (.c (.bool true))) (.t 41), none⟩, [])])
  (.cond (.t 42) (.region [⟨(some 43), .mov (.t 5), none⟩, ⟨(some 44), .mov (.t 8), none⟩, ⟨(some 45), .buildSl 2 1 [(.int .i64 0)] [(0, 1, (.t 44))], none⟩, ⟨(some 46), .app 2 1 8 (.t 43) (.t 45), none⟩, ⟨(some 5), .mov (.t 46), none⟩]) .skip))))
  (.region [⟨(some 47), .bin .add .int (.t 19) (.k (.c (.int .i64 1))), none⟩, ⟨(some 19), .mov (.t 47), none⟩]))))
def k97 : KF := ⟨49, (.seq (.region [⟨(some 2), .box 39 (.t 0), none⟩, ⟨(some 3), .box 39 (.t 1), none⟩, ⟨(some 4), .mov (.k (.c (.slice none 0 (.exact 0)))), none⟩])
  (.seq (.region [⟨(some 9), .buildSl 2 0 [] [], none⟩, ⟨(some 5), .mov (.t 9), none⟩])
  (.seq (.drawn [(⟨(some 10), .fldA 1 (.t 2), none⟩, []), (⟨(some 11), .load1 (.t 10), none⟩, []), (⟨(some 12), .fldA 1 (.t 3), none⟩, []), (⟨(some 13), .load1 (.t 12), none⟩, []), (⟨(some 6), .mov (.t 11), none⟩, []), (⟨(some 7), .mov (.t 13), none⟩, [])])
  (.seq (.seq (.region [⟨(some 14), .mov (.t 6), none⟩, ⟨(some 15), .len false (.t 14), none⟩, ⟨(some 16), .mov (.t 7), none⟩, ⟨(some 17), .len false (.t 16), none⟩, ⟨(some 18), .max [(.t 15), (.t 17)], none⟩, ⟨(some 19), .mov (.k (.c (.int .i64 0))), none⟩])
  (.block 0 (.loop l97_0)))
  (.seq (.region [⟨(some 48), .mov (.t 5), none⟩, ⟨(some 4), .mov (.t 48), none⟩])
  .ret))))), [.tmp 4], false⟩
theorem c97 : kk 97 = some k97 := by kernel_rfl
/-- loop.example/g01263/spec.l01Notches -/
def l110_0 : KC := (.seq (.seq (.region [⟨(some 8), .mov (.t 3), none⟩, ⟨(some 9), .mov (.t 0), none⟩, ⟨(some 10), .len false (.t 9), none⟩, ⟨(some 11), .bin .lss .int (.t 8) (.t 10), none⟩])
  (.cond (.t 11) .skip (.exit 0)))
  (.seq (.block 1 (.seq (.region [⟨(some 14), .mov (.t 0), none⟩, ⟨(some 15), .mov (.t 3), none⟩, ⟨(some 16), .idxS 2 (.t 14) (.t 15), none⟩, ⟨(some 17), .loadN 2 (.t 16), none⟩, ⟨(some 4), .alloc 134 [(.int .i8 0), (.int .i16 0)], none⟩, ⟨none, .store 2 (.t 4) (.t 17), none⟩])
  (.seq (.seq (.region [⟨(some 18), .fldA 0 (.t 4), none⟩, ⟨(some 19), .load1 (.t 18), none⟩, ⟨(some 20), .conv .i64 (.t 19), none⟩, ⟨(some 21), .call (.k (.c (.fn 128 []))) [(.t 20)], none⟩, ⟨(some 22), .un .not (.t 21), none⟩, ⟨(some 23), .mov (.t 22), none⟩, ⟨(some 24), .fldA 1 (.t 4), some (23, false)⟩, ⟨(some 25), .load1 (.t 24), some (23, false)⟩, ⟨(some 26), .bin .lss .int (.t 25) (.k (.c (.int .i16 0))), some (23, false)⟩, ⟨(some 27), .pick (.t 23) (.k (.c (.bool true))) (.t 26), none⟩, ⟨(some 28), .mov (.t 27), none⟩, ⟨(some 29), .loadN 2 (.t 4), some (28, false)⟩, ⟨(some 30), .call (.k (.c (.fn 111 []))) [(.t 29)], some (28, false)⟩, ⟨(some 31), .bin .gtr .int (.t 30) (.k (.c (.int .i64 200))), some (28, false)⟩, ⟨(some 32), .pick (.t 28) (.k (.c (.bool true))) (.t 31), none⟩])
  (.cond (.t 32) (.seq (.region [⟨(some 2), .mov (.k (.c (.bool false))), none⟩])
  .ret) .skip))
  (.seq (.drawn [(⟨(some 33), .mov (.t 3), none⟩, []), (⟨(some 34), .bin .gtr .int (.t 33) (.k (.c (.int .i64 0))), none⟩, []), (⟨(some 35), .mov (.t 34), none⟩, []), (⟨(some 36), .fldA 0 (.t 4), some (35, true)⟩, []), (⟨(some 37), .load1 (.t 36), some (35, true)⟩, []), (⟨(some 38), .mov (.t 0), some (35, true)⟩, []), (⟨(some 39), .mov (.t 3), some (35, true)⟩, []), (⟨(some 40), .bin .sub .int (.t 39) (.k (.c (.int .i64 1))), some (35, true)⟩, []), (⟨(some 41), .idxS 2 (.t 38) (.t 40), some (35, true)⟩, []), (⟨(some 42), .fldA 0 (.t 41), some (35, true)⟩, []), (⟨(some 43), .load1 (.t 42), some (35, true)⟩, []), (⟨(some 44), .bin .gtr .int (.t 37) (.t 43), some (35, true)⟩, []), (⟨(some 45), .mov (.t 44), some (35, true)⟩, []), (⟨(some 46), .fldA 1 (.t 4), some (45, false)⟩, []), (⟨(some 47), .load1 (.t 46), some (45, false)⟩, []), (⟨(some 48), .conv .i64 (.t 47), some (45, false)⟩, []), (⟨(some 49), .mov (.t 0), some (45, false)⟩, []), (⟨(some 50), .mov (.t 3), some (45, false)⟩, []), (⟨(some 51), .bin .sub .int (.t 50) (.k (.c (.int .i64 1))), some (45, false)⟩, []), (⟨(some 52), .idxS 2 (.t 49) (.t 51), some (45, false)⟩, []), (⟨(some 53), .loadN 2 (.t 52), some (45, false)⟩, []), (⟨(some 54), .call (.k (.c (.fn 111 []))) [(.t 53)], some (45, false)⟩, [⟨(some 47), .load1 (.t 46), some (45, false)⟩]), (⟨(some 55), .bin .leq .int (.t 48) (.t 54), some (45, false)⟩, []), (⟨(some 56), .pick (.t 45) (.k (.c (.bool true))) (.t 55), some (35, true)⟩, []), (⟨(some 57), .pick (.t 35) (.t 56) (.k (.c (.bool false))), none⟩, [])])
  (.cond (.t 57) (.seq (.region [⟨(some 2), .mov (.k (.c (.bool false))), none⟩])
  .ret) .skip)))))
  (.region [⟨(some 12), .mov (.t 3), none⟩, ⟨(some 13), .bin .add .int (.t 12) (.k (.c (.int .i64 1))), none⟩, ⟨(some 3), .mov (.t 13), none⟩])))
def k110 : KF := ⟨58, (.seq (.region [⟨(some 2), .mov (.k (.c (.bool false))), none⟩])
  (.seq (.seq (.region [⟨(some 5), .mov (.t 0), none⟩, ⟨(some 6), .len false (.t 5), none⟩, ⟨(some 7), .bin .gtr .int (.t 6) (.k (.c (.int .i64 60))), none⟩])
  (.cond (.t 7) (.seq (.region [⟨(some 2), .mov (.k (.c (.bool false))), none⟩])
  .ret) .skip))
  (.seq (.seq (.region [⟨(some 3), .mov (.k (.c (.int .i64 0))), none⟩])
  (.block 0 (.loop l110_0)))
  (.seq (.region [⟨(some 2), .mov (.k (.c (.bool true))), none⟩])
  .ret)))), [.tmp 2], true⟩
theorem c110 : kk 110 = some k110 := by kernel_rfl
/-- loop.example/g01263/spec.l01Ends -/
def k111 : KF := ⟨12, (.seq (.region [⟨(some 1), .box 134 (.t 0), none⟩, ⟨(some 2), .mov (.k (.c (.int .i64 0))), none⟩])
  (.seq (.drawn [(⟨(some 3), .fldA 1 (.t 1), none⟩, []), (⟨(some 4), .load1 (.t 3), none⟩, []), (⟨(some 5), .conv .i64 (.t 4), none⟩, []), (⟨(some 7), .fldA 0 (.t 1), none⟩, []), (⟨(some 8), .load1 (.t 7), none⟩, []), (⟨(some 6), .call (.k (.c (.fn 118 []))) [], none⟩, [⟨(some 4), .load1 (.t 3), none⟩, ⟨(some 8), .load1 (.t 7), none⟩]), (⟨(some 9), .idxS 1 (.t 6) (.t 8), none⟩, []), (⟨(some 10), .load1 (.t 9), none⟩, []), (⟨(some 11), .bin .add .int (.t 5) (.t 10), none⟩, []), (⟨(some 2), .mov (.t 11), none⟩, [])])
  .ret)), [.tmp 2], true⟩
theorem c111 : kk 111 = some k111 := by kernel_rfl
/-- loop.example/g01263/laws.toNotch -/
def k112 : KF := ⟨11, (.seq (.region [⟨(some 1), .box 137 (.t 0), none⟩, ⟨(some 2), .alloc 134 [(.int .i8 0), (.int .i16 0)], none⟩])
  (.seq (.region [⟨(some 3), .alloc 134 [(.int .i8 0), (.int .i16 0)], none⟩])
  (.seq (.region [⟨(some 4), .fldA 0 (.t 1), none⟩, ⟨(some 5), .load1 (.t 4), none⟩, ⟨(some 6), .fldA 0 (.t 3), none⟩, ⟨none, .store 1 (.t 6) (.t 5), none⟩])
  (.seq (.region [⟨(some 7), .fldA 1 (.t 1), none⟩, ⟨(some 8), .load1 (.t 7), none⟩, ⟨(some 9), .fldA 1 (.t 3), none⟩, ⟨none, .store 1 (.t 9) (.t 8), none⟩])
  (.seq (.region [⟨(some 10), .loadN 2 (.t 3), none⟩, ⟨none, .store 2 (.t 2) (.t 10), none⟩])
  .ret))))), [.cellN 2 2], true⟩
theorem c112 : kk 112 = some k112 := by kernel_rfl
/-- loop.example/g01263/impl.isKind -/
def k113 : KF := ⟨9, (.seq (.region [⟨(some 2), .mov (.k (.c (.bool false))), none⟩])
  (.seq (.region [⟨(some 3), .mov (.t 0), none⟩, ⟨(some 4), .bin .geq .int (.t 3) (.k (.c (.int .i64 0))), none⟩, ⟨(some 5), .mov (.t 4), none⟩, ⟨(some 6), .mov (.t 0), some (5, true)⟩, ⟨(some 7), .bin .leq .int (.t 6) (.k (.c (.int .i64 5))), some (5, true)⟩, ⟨(some 8), .pick (.t 5) (.t 7) (.k (.c (.bool false))), none⟩, ⟨(some 2), .mov (.t 8), none⟩])
  .ret)), [.tmp 2], true⟩
theorem c113 : kk 113 = some k113 := by kernel_rfl
/-- (loop.example/g01263/impl.Notch).end -/
def k114 : KF := ⟨11, (.seq (.region [⟨(some 1), .box 134 (.t 0), none⟩, ⟨(some 2), .mov (.k (.c (.int .i64 0))), none⟩])
  (.seq (.drawn [(⟨(some 3), .fldA 1 (.t 1), none⟩, []), (⟨(some 4), .load1 (.t 3), none⟩, []), (⟨(some 5), .conv .i64 (.t 4), none⟩, []), (⟨(some 6), .fldA 0 (.t 1), none⟩, []), (⟨(some 7), .load1 (.t 6), none⟩, []), (⟨(some 8), .conv .i64 (.t 7), none⟩, []), (⟨(some 9), .call (.k (.c (.fn 133 []))) [(.t 8)], none⟩, [⟨(some 4), .load1 (.t 3), none⟩]), (⟨(some 10), .bin .add .int (.t 5) (.t 9), none⟩, []), (⟨(some 2), .mov (.t 10), none⟩, [])])
  .ret)), [.tmp 2], true⟩
theorem c114 : kk 114 = some k114 := by kernel_rfl
/-- loop.example/g01263/laws.eqNotch -/
def k115 : KF := ⟨15, (.seq (.region [⟨(some 2), .box 134 (.t 0), none⟩, ⟨(some 3), .box 134 (.t 1), none⟩, ⟨(some 4), .mov (.k (.c (.bool false))), none⟩])
  (.seq (.seq (.region [⟨(some 5), .fldA 0 (.t 2), none⟩, ⟨(some 6), .load1 (.t 5), none⟩, ⟨(some 7), .fldA 0 (.t 3), none⟩, ⟨(some 8), .load1 (.t 7), none⟩, ⟨(some 9), .bin .neq .int (.t 6) (.t 8), none⟩])
  (.cond (.t 9) (.seq (.region [⟨(some 4), .mov (.k (.c (.bool false))), none⟩])
  .ret) .skip))
  (.seq (.seq (.region [⟨(some 10), .fldA 1 (.t 2), none⟩, ⟨(some 11), .load1 (.t 10), none⟩, ⟨(some 12), .fldA 1 (.t 3), none⟩, ⟨(some 13), .load1 (.t 12), none⟩, ⟨(some 14), .bin .neq .int (.t 11) (.t 13), none⟩])
  (.cond (.t 14) (.seq (.region [⟨(some 4), .mov (.k (.c (.bool false))), none⟩])
  .ret) .skip))
  (.seq (.region [⟨(some 4), .mov (.k (.c (.bool true))), none⟩])
  .ret)))), [.tmp 4], true⟩
theorem c115 : kk 115 = some k115 := by kernel_rfl
/-- loop.example/g01263/spec.l01Widths -/
def k118 : KF := ⟨2, (.seq (.region [⟨(some 0), .mov (.k (.c (.slice none 0 (.exact 0)))), none⟩])
  (.seq (.region [⟨(some 1), .buildSl 2 6 [(.int .i64 0), (.int .i64 0), (.int .i64 0), (.int .i64 0), (.int .i64 0), (.int .i64 0)] [(0, 1, (.k (.c (.int .i64 1)))), (1, 1, (.k (.c (.int .i64 2)))), (2, 1, (.k (.c (.int .i64 4)))), (3, 1, (.k (.c (.int .i64 6)))), (4, 1, (.k (.c (.int .i64 9)))), (5, 1, (.k (.c (.int .i64 12))))], none⟩, ⟨(some 0), .mov (.t 1), none⟩])
  .ret)), [.tmp 0], false⟩
theorem c118 : kk 118 = some k118 := by kernel_rfl
/-- loop.example/g01263/spec.l01Pair -/
def k124 : KF := ⟨29, (.seq (.region [⟨(some 6), .mov (.k (.c (.int .i64 0))), none⟩])
  (.seq (.seq (.region [⟨(some 7), .mov (.t 0), none⟩, ⟨(some 8), .call (.k (.c (.fn 66 []))) [(.t 7)], none⟩, ⟨(some 9), .un .not (.t 8), none⟩, ⟨(some 10), .mov (.t 9), none⟩, ⟨(some 11), .mov (.t 1), some (10, false)⟩, ⟨(some 12), .call (.k (.c (.fn 66 []))) [(.t 11)], some (10, false)⟩, ⟨(some 13), .un .not (.t 12), some (10, false)⟩, ⟨(some 14), .pick (.t 10) (.k (.c (.bool true))) (.t 13), none⟩])
  (.cond (.t 14) (.seq (.region [⟨(some 6), .mov (.k (.c (.int .i64 1))), none⟩])
  .ret) .skip))
  (.seq (.seq (.region [⟨(some 15), .mov (.t 2), none⟩, ⟨(some 16), .call (.k (.c (.fn 80 []))) [(.t 15), (.k (.c (.int .i64 0))), (.k (.c (.int .i64 16)))], none⟩, ⟨(some 17), .un .not (.t 16), none⟩])
  (.cond (.t 17) (.seq (.region [⟨(some 6), .mov (.k (.c (.int .i64 2))), none⟩])
  .ret) .skip))
  (.seq (.seq (.region [⟨(some 18), .mov (.t 0), none⟩, ⟨(some 19), .nilchk (.t 18), none⟩, ⟨(some 20), .fldA 0 (.t 19), none⟩, ⟨(some 21), .load1 (.t 20), none⟩, ⟨(some 22), .un .not (.t 21), none⟩, ⟨(some 23), .mov (.t 22), none⟩, ⟨(some 24), .mov (.t 1), some (23, false)⟩, ⟨(some 25), .nilchk (.t 24), some (23, false)⟩, ⟨(some 26), .fldA 0 (.t 25), some (23, false)⟩, ⟨(some 27), .load1 (.t 26), some (23, false)⟩, ⟨(some 28), .pick (.t 23) (.k (.c (.bool true))) (.t 27), none⟩])
  (.cond (.t 28) (.seq (.region [⟨(some 6), .mov (.k (.c (.int .i64 4))), none⟩])
  .ret) .skip))
  (.seq (.region [⟨(some 6), .mov (.k (.c (.int .i64 0))), none⟩])
  .ret))))), [.tmp 6], true⟩
theorem c124 : kk 124 = some k124 := by kernel_rfl
/-- loop.example/g01263/spec.l01Kind -/
def k128 : KF := ⟨5, (.seq (.region [⟨(some 2), .mov (.k (.c (.bool false))), none⟩])
  (.seq (.region [⟨(some 3), .mov (.t 0), none⟩, ⟨(some 4), .call (.k (.c (.fn 80 []))) [(.t 3), (.k (.c (.int .i64 0))), (.k (.c (.int .i64 5)))], none⟩, ⟨(some 2), .mov (.t 4), none⟩])
  .ret)), [.tmp 2], true⟩
theorem c128 : kk 128 = some k128 := by kernel_rfl
/-- loop.example/g01263/impl.width -/
def k133 : KF := ⟨7, (.seq (.region [⟨(some 2), .mov (.k (.c (.int .i64 0))), none⟩])
  (.seq (.region [⟨(some 3), .buildSl 2 6 [(.int .i64 0), (.int .i64 0), (.int .i64 0), (.int .i64 0), (.int .i64 0), (.int .i64 0)] [(0, 1, (.k (.c (.int .i64 1)))), (1, 1, (.k (.c (.int .i64 2)))), (2, 1, (.k (.c (.int .i64 4)))), (3, 1, (.k (.c (.int .i64 6)))), (4, 1, (.k (.c (.int .i64 9)))), (5, 1, (.k (.c (.int .i64 12))))], none⟩, ⟨(some 4), .mov (.t 0), none⟩, ⟨(some 5), .idxS 1 (.t 3) (.t 4), none⟩, ⟨(some 6), .load1 (.t 5), none⟩, ⟨(some 2), .mov (.t 6), none⟩])
  .ret)), [.tmp 2], true⟩
theorem c133 : kk 133 = some k133 := by kernel_rfl
end Go.Proofs.Ytlidldkelkihlaa
