/- What functions of the program answer: part Code. -/
import Derived.Test.YtlidldkelkihlaaViEv
import Derived.Test.YtlidldkelkihlaaViComp
import Derived.Test.YtlidldkelkihlaaChecked
import Derived.KernelRfl
set_option linter.unusedVariables false
set_option linter.unusedSimpArgs false
set_option linter.unusedSectionVars false
namespace Go.Proofs.Ytlidldkelkihlaa
open Go Go.Proofs.Ytlidldkelkihlaa.VI
noncomputable def kk : FuncId → Option KF := fun f => cFunc Try.prog (!([20, 25, 31, 32, 40, 47, 48, 56, 57, 68, 74, 75, 83, 84, 96, 97, 104, 105, 108, 118, 125, 127, 129, 131, 132, 134, 135, 136] : List Nat).contains f) f
/-- loop.example/g01263/laws.FnExactCountWood -/
def k3 : KF := ⟨14, (.seq (.region [⟨(some 1), .box 23 (.t 0), none⟩, ⟨(some 2), .mov (.k (.c (.bool false))), none⟩])
  (.seq (.region [⟨(some 5), .loadN 4 (.t 1), none⟩, ⟨(some 6), .call (.k (.c (.fn 16 []))) [(.t 5)], none⟩, ⟨(some 7), .call (.k (.c (.fn 15 []))) [(.t 6)], none⟩, ⟨(some 3), .mov (.t 7), none⟩])
  (.seq (.region [⟨(some 8), .loadN 4 (.t 1), none⟩, ⟨(some 9), .call (.k (.c (.fn 16 []))) [(.t 8)], none⟩, ⟨(some 10), .call (.k (.c (.fn 17 []))) [(.t 9)], none⟩, ⟨(some 4), .mov (.t 10), none⟩])
  (.seq (.seq (.region [⟨(some 11), .mov (.t 4), none⟩, ⟨(some 12), .mov (.t 3), none⟩, ⟨(some 13), .bin .neq .int (.t 11) (.t 12), none⟩])
  (.cond (.t 13) (.seq (.region [⟨(some 2), .mov (.k (.c (.bool false))), none⟩])
  .ret) .skip))
  (.seq (.region [⟨(some 2), .mov (.k (.c (.bool true))), none⟩])
  .ret))))), [.tmp 2], true⟩
theorem c3 : kk 3 = some k3 := by kernel_rfl
/-- loop.example/g01263/laws.FnExactWoodOf -/
def k4 : KF := ⟨41, (.seq (.region [⟨(some 1), .box 32 (.t 0), none⟩, ⟨(some 2), .mov (.k (.c (.bool false))), none⟩])
  (.seq (.region [⟨(some 3), .mov (.k (.c (.int .i64 1048576))), none⟩])
  (.seq (.region [⟨(some 9), .loadN 18 (.t 1), none⟩, ⟨(some 10), .mov (.t 3), none⟩, ⟨(some 11), .call (.k (.c (.fn 18 []))) [(.t 9), (.t 10)], none⟩, ⟨(some 3), .mov (.t 11), none⟩])
  (.seq (.seq (.region [⟨(some 12), .mov (.t 3), none⟩, ⟨(some 13), .bin .lss .int (.t 12) (.k (.c (.int .i64 0))), none⟩])
  (.cond (.t 13) (.seq (.region [⟨(some 2), .mov (.k (.c (.bool true))), none⟩])
  .ret) .skip))
  (.seq (.region [⟨(some 15), .loadN 18 (.t 1), none⟩, ⟨(some 16), .call (.k (.c (.fn 20 []))) [(.t 15)], none⟩, ⟨(some 17), .call (.k (.c (.fn 19 []))) [(.t 16)], none⟩, ⟨(some 14), .mov (.t 17), none⟩, ⟨(some 18), .ext (.t 14) 0, none⟩, ⟨(some 19), .ext (.t 14) 1, none⟩, ⟨(some 4), .alloc 25 [(.int .u64 0), (.int .u64 0), (.int .u64 0), (.int .u64 0)], none⟩, ⟨none, .store 4 (.t 4) (.t 18), none⟩, ⟨(some 5), .mov (.t 19), none⟩])
  (.seq (.region [⟨(some 20), .loadN 18 (.t 1), none⟩, ⟨(some 21), .call (.k (.c (.fn 20 []))) [(.t 20)], none⟩, ⟨(some 6), .alloc 39 [(.bool false), (.slice none 0 (.exact 0)), (.int .i8 0), (.int .i8 0), (.int .i8 0), (.int .i8 0), (.int .i8 0), (.int .i8 0), (.int .i8 0), (.int .i8 0), (.int .i8 0), (.int .i8 0), (.int .i8 0), (.int .i8 0), (.int .i8 0), (.int .i8 0), (.int .i8 0), (.int .i8 0)], none⟩, ⟨none, .store 18 (.t 6) (.t 21), none⟩])
  (.seq (.region [⟨(some 23), .loadN 18 (.t 6), none⟩, ⟨(some 24), .call (.k (.c (.fn 21 []))) [(.t 23)], none⟩, ⟨(some 22), .mov (.t 24), none⟩, ⟨(some 25), .ext (.t 22) 0, none⟩, ⟨(some 26), .ext (.t 22) 1, none⟩, ⟨(some 7), .alloc 25 [(.int .u64 0), (.int .u64 0), (.int .u64 0), (.int .u64 0)], none⟩, ⟨none, .store 4 (.t 7) (.t 25), none⟩, ⟨(some 8), .mov (.t 26), none⟩])
  (.seq (.seq (.region [⟨(some 27), .loadN 4 (.t 7), none⟩, ⟨(some 28), .loadN 4 (.t 4), none⟩, ⟨(some 29), .call (.k (.c (.fn 22 []))) [(.t 27), (.t 28)], none⟩, ⟨(some 30), .un .not (.t 29), none⟩, ⟨(some 31), .mov (.t 30), none⟩, ⟨(some 32), .mov (.t 8), some (31, false)⟩, ⟨(some 33), .mov (.t 5), some (31, false)⟩, ⟨(some 34), .bin .neq .int (.t 32) (.t 33), some (31, false)⟩, ⟨(some 35), .pick (.t 31) (.k (.c (.bool true))) (.t 34), none⟩])
  (.cond (.t 35) (.seq (.region [⟨(some 2), .mov (.k (.c (.bool false))), none⟩])
  .ret) .skip))
  (.seq (.seq (.drawn [(⟨(some 36), .loadN 18 (.t 6), none⟩, []), (⟨(some 37), .loadN 18 (.t 1), none⟩, []), (⟨(some 38), .call (.k (.c (.fn 20 []))) [(.t 37)], none⟩, [⟨(some 36), .loadN 18 (.t 6), none⟩]), (⟨(some 39), .call (.k (.c (.fn 23 []))) [(.t 36), (.t 38)], none⟩, []), (⟨(some 40), .un .not (.t 39), none⟩, [])])
  (.cond (.t 40) (.seq (.region [⟨(some 2), .mov (.k (.c (.bool false))), none⟩])
  .ret) .skip))
  (.seq (.region [⟨(some 2), .mov (.k (.c (.bool true))), none⟩])
  .ret)))))))))), [.tmp 2], true⟩
/-- loop.example/g01263/laws.FnWorn -/
def l5_0 : KC := (.seq (.seq (.region [⟨(some 83), .mov (.t 16), none⟩, ⟨(some 84), .bin .lss .int (.t 83) (.k (.c (.int .i64 16))), none⟩])
  (.cond (.t 84) .skip (.exit 0)))
  (.seq (.block 1 (.seq (.drawn [(⟨(some 87), .mov (.t 16), none⟩, []), (⟨(some 88), .idxA 16 1 (.t 10) (.t 87), none⟩, []), (⟨(some 89), .load1 (.t 88), none⟩, []), (⟨(some 90), .conv .i64 (.t 89), none⟩, []), (⟨(some 91), .mov (.t 16), none⟩, []), (⟨(some 92), .fldA 2 (.t 5), none⟩, []), (⟨(some 93), .idxA 16 1 (.t 92) (.t 91), none⟩, []), (⟨(some 94), .load1 (.t 93), none⟩, []), (⟨(some 95), .conv .i64 (.t 94), none⟩, []), (⟨(some 96), .bin .sub .int (.t 90) (.t 95), none⟩, []), (⟨(some 17), .mov (.t 96), none⟩, [])])
  (.region [⟨(some 97), .mov (.t 15), none⟩, ⟨(some 98), .mov (.t 17), none⟩, ⟨(some 99), .mov (.t 17), none⟩, ⟨(some 100), .un .neg (.t 99), none⟩, ⟨(some 101), .max [(.t 98), (.t 100)], none⟩, ⟨(some 102), .bin .add .int (.t 97) (.t 101), none⟩, ⟨(some 15), .mov (.t 102), none⟩])))
  (.region [⟨(some 85), .mov (.t 16), none⟩, ⟨(some 86), .bin .add .int (.t 85) (.k (.c (.int .i64 1))), none⟩, ⟨(some 16), .mov (.t 86), none⟩])))
def l5_1 : KC := (.seq (.seq (.region [⟨(some 143), .mov (.t 24), none⟩, ⟨(some 144), .mov (.t 20), none⟩, ⟨(some 145), .len false (.t 144), none⟩, ⟨(some 146), .bin .lss .int (.t 143) (.t 145), none⟩])
  (.cond (.t 146) .skip (.exit 4)))
  (.seq (.block 5 (.region [⟨(some 149), .mov (.t 23), none⟩, ⟨(some 150), .mov (.t 149), none⟩, ⟨(some 151), .mov (.t 20), some (150, false)⟩, ⟨(some 152), .mov (.t 24), some (150, false)⟩, ⟨(some 153), .idxS 1 (.t 151) (.t 152), some (150, false)⟩, ⟨(some 154), .load1 (.t 153), some (150, false)⟩, ⟨(some 155), .mov (.t 22), some (150, false)⟩, ⟨(some 156), .bin .eql .int (.t 154) (.t 155), some (150, false)⟩, ⟨(some 157), .pick (.t 150) (.k (.c (.bool true))) (.t 156), none⟩, ⟨(some 23), .mov (.t 157), none⟩]))
  (.region [⟨(some 147), .mov (.t 24), none⟩, ⟨(some 148), .bin .add .int (.t 147) (.k (.c (.int .i64 1))), none⟩, ⟨(some 24), .mov (.t 148), none⟩])))
def l5_2 : KC := (.seq (.seq (.region [⟨(some 139), .mov (.t 22), none⟩, ⟨(some 140), .bin .lss .int (.t 139) (.k (.c (.int .i64 16))), none⟩])
  (.cond (.t 140) .skip (.exit 2)))
  (.seq (.block 3 (.seq (.region [⟨(some 23), .mov (.k (.c (.bool false))), none⟩])
  (.seq (.seq (.region [⟨(some 24), .mov (.k (.c (.int .i64 0))), none⟩])
  (.block 4 (.loop l5_1)))
  (.seq (.drawn [(⟨(some 158), .mov (.t 23), none⟩, []), (⟨(some 159), .mov (.t 22), none⟩, []), (⟨(some 160), .idxA 16 1 (.t 10) (.t 159), none⟩, []), (⟨(some 161), .load1 (.t 160), none⟩, []), (⟨(some 162), .mov (.t 22), none⟩, []), (⟨(some 163), .fldA 2 (.t 5), none⟩, []), (⟨(some 164), .idxA 16 1 (.t 163) (.t 162), none⟩, []), (⟨(some 165), .load1 (.t 164), none⟩, []), (⟨(some 166), .bin .neq .int (.t 161) (.t 165), none⟩, []), (⟨(some 167), .bin .neq .bool (.t 158) (.t 166), none⟩, [])])
  (.cond (.t 167) (.seq (.region [⟨(some 4), .mov (.k (.c (.bool false))), none⟩])
  .ret) .skip)))))
  (.region [⟨(some 141), .mov (.t 22), none⟩, ⟨(some 142), .bin .add .int (.t 141) (.k (.c (.int .i64 1))), none⟩, ⟨(some 22), .mov (.t 142), none⟩])))
def k5 : KF := ⟨168, (.seq (.region [⟨(some 4), .mov (.k (.c (.bool false))), none⟩])
  (.seq (.seq (.region [⟨(some 25), .mov (.t 0), none⟩, ⟨(some 26), .call (.k (.c (.fn 24 []))) [(.t 25)], none⟩, ⟨(some 27), .mov (.t 26), none⟩, ⟨(some 28), .mov (.t 1), some (27, false)⟩, ⟨(some 29), .call (.k (.c (.fn 24 []))) [(.t 28)], some (27, false)⟩, ⟨(some 30), .pick (.t 27) (.k (.c (.bool true))) (.t 29), none⟩])
  (.cond (.t 30) (.seq (.region [⟨(some 4), .mov (.k (.c (.bool true))), none⟩])
  .ret) .skip))
  (.seq (.region [⟨(some 31), .mov (.t 0), none⟩, ⟨(some 32), .call (.k (.c (.fn 25 []))) [(.t 31)], none⟩, ⟨(some 5), .alloc 39 [(.bool false), (.slice none 0 (.exact 0)), (.int .i8 0), (.int .i8 0), (.int .i8 0), (.int .i8 0), (.int .i8 0), (.int .i8 0), (.int .i8 0), (.int .i8 0), (.int .i8 0), (.int .i8 0), (.int .i8 0), (.int .i8 0), (.int .i8 0), (.int .i8 0), (.int .i8 0), (.int .i8 0)], none⟩, ⟨none, .store 18 (.t 5) (.t 32), none⟩])
  (.seq (.region [⟨(some 33), .mov (.t 1), none⟩, ⟨(some 34), .call (.k (.c (.fn 26 []))) [(.t 33), (.k (.c (.int .i64 30)))], none⟩, ⟨(some 6), .mov (.t 34), none⟩])
  (.seq (.region [⟨(some 36), .fldA 2 (.t 5), none⟩, ⟨(some 37), .loadN 16 (.t 36), none⟩, ⟨(some 38), .mov (.t 6), none⟩, ⟨(some 39), .call (.k (.c (.fn 27 []))) [(.t 37), (.k (.c (.int .u32 11))), (.t 38)], none⟩, ⟨(some 35), .mov (.t 39), none⟩, ⟨(some 40), .ext (.t 35) 0, none⟩, ⟨(some 41), .ext (.t 35) 1, none⟩, ⟨(some 42), .ext (.t 35) 2, none⟩, ⟨(some 7), .alloc 37 [(.int .i8 0), (.int .i8 0), (.int .i8 0), (.int .i8 0), (.int .i8 0), (.int .i8 0), (.int .i8 0), (.int .i8 0), (.int .i8 0), (.int .i8 0), (.int .i8 0), (.int .i8 0), (.int .i8 0), (.int .i8 0), (.int .i8 0), (.int .i8 0)], none⟩, ⟨none, .store 16 (.t 7) (.t 40), none⟩, ⟨(some 8), .mov (.t 41), none⟩, ⟨(some 9), .mov (.t 42), none⟩])
  (.seq (.region [⟨(some 44), .fldA 2 (.t 5), none⟩, ⟨(some 45), .loadN 16 (.t 44), none⟩, ⟨(some 46), .mov (.t 6), none⟩, ⟨(some 47), .call (.k (.c (.fn 28 []))) [(.t 45), (.k (.c (.int .u32 11))), (.t 46)], none⟩, ⟨(some 43), .mov (.t 47), none⟩, ⟨(some 48), .ext (.t 43) 0, none⟩, ⟨(some 49), .ext (.t 43) 1, none⟩, ⟨(some 50), .ext (.t 43) 2, none⟩, ⟨(some 10), .alloc 37 [(.int .i8 0), (.int .i8 0), (.int .i8 0), (.int .i8 0), (.int .i8 0), (.int .i8 0), (.int .i8 0), (.int .i8 0), (.int .i8 0), (.int .i8 0), (.int .i8 0), (.int .i8 0), (.int .i8 0), (.int .i8 0), (.int .i8 0), (.int .i8 0)], none⟩, ⟨none, .store 16 (.t 10) (.t 48), none⟩, ⟨(some 11), .mov (.t 49), none⟩, ⟨(some 12), .mov (.t 50), none⟩])
  (.seq (.region [⟨(some 52), .fldA 2 (.t 5), none⟩, ⟨(some 53), .loadN 16 (.t 52), none⟩, ⟨(some 54), .call (.k (.c (.fn 29 []))) [(.t 53)], none⟩, ⟨(some 51), .mov (.t 54), none⟩, ⟨(some 55), .ext (.t 51) 0, none⟩, ⟨(some 56), .ext (.t 51) 1, none⟩, ⟨(some 13), .alloc 37 [(.int .i8 0), (.int .i8 0), (.int .i8 0), (.int .i8 0), (.int .i8 0), (.int .i8 0), (.int .i8 0), (.int .i8 0), (.int .i8 0), (.int .i8 0), (.int .i8 0), (.int .i8 0), (.int .i8 0), (.int .i8 0), (.int .i8 0), (.int .i8 0)], none⟩, ⟨none, .store 16 (.t 13) (.t 55), none⟩, ⟨(some 14), .mov (.t 56), none⟩])
  (.seq (.seq (.region [⟨(some 57), .mov (.t 9), none⟩, ⟨(some 58), .mov (.t 12), none⟩, ⟨(some 59), .bin .neq .int (.t 57) (.t 58), none⟩, ⟨(some 60), .mov (.t 59), none⟩, ⟨(some 61), .mov (.t 9), some (60, false)⟩, ⟨(some 62), .bin .neq .int (.t 61) (.k (.c (.int .i64 0))), some (60, false)⟩, ⟨(some 63), .pick (.t 60) (.k (.c (.bool true))) (.t 62), none⟩, ⟨(some 64), .mov (.t 63), none⟩, ⟨(some 65), .loadN 16 (.t 7), some (64, false)⟩, ⟨(some 66), .loadN 16 (.t 10), some (64, false)⟩, ⟨(some 67), .bin .neq (.agg [.int, .int, .int, .int, .int, .int, .int, .int, .int, .int, .int, .int, .int, .int, .int, .int]) (.t 65) (.t 66), some (64, false)⟩, ⟨(some 68), .pick (.t 64) (.k (.c (.bool true))) (.t 67), none⟩, ⟨(some 69), .mov (.t 68), none⟩, ⟨(some 70), .mov (.t 8), some (69, false)⟩, ⟨(some 71), .mov (.t 11), some (69, false)⟩, ⟨(some 72), .bin .neq .int (.t 70) (.t 71), some (69, false)⟩, ⟨(some 73), .pick (.t 69) (.k (.c (.bool true))) (.t 72), none⟩, ⟨(some 74), .mov (.t 73), none⟩, ⟨(some 75), .mov (.t 14), some (74, false)⟩, ⟨(some 76), .bin .neq .int (.t 75) (.k (.c (.int .i64 0))), some (74, false)⟩, ⟨(some 77), .pick (.t 74) (.k (.c (.bool true))) (.t 76), none⟩, ⟨(some 78), .mov (.t 77), none⟩, ⟨(some 79), .loadN 16 (.t 10), some (78, false)⟩, ⟨(some 80), .call (.k (.c (.fn 30 []))) [(.t 79)], some (78, false)⟩, ⟨(some 81), .un .not (.t 80), some (78, false)⟩, ⟨(some 82), .pick (.t 78) (.k (.c (.bool true))) (.t 81), none⟩])
  (.cond (.t 82) (.seq (.region [⟨(some 4), .mov (.k (.c (.bool false))), none⟩])
  .ret) .skip))
  (.seq (.region [⟨(some 15), .mov (.k (.c (.int .i64 0))), none⟩])
  (.seq (.seq (.region [⟨(some 16), .mov (.k (.c (.int .i64 0))), none⟩])
  (.block 0 (.loop l5_0)))
  (.seq (.region [⟨(some 104), .loadN 16 (.t 10), none⟩, ⟨(some 105), .loadN 16 (.t 13), none⟩, ⟨(some 106), .call (.k (.c (.fn 31 []))) [(.t 104), (.t 105)], none⟩, ⟨(some 103), .mov (.t 106), none⟩, ⟨(some 107), .ext (.t 103) 0, none⟩, ⟨(some 108), .ext (.t 103) 1, none⟩, ⟨(some 18), .mov (.t 107), none⟩, ⟨(some 19), .mov (.t 108), none⟩])
  (.seq (.region [⟨(some 110), .loadN 16 (.t 10), none⟩, ⟨(some 111), .loadN 16 (.t 13), none⟩, ⟨(some 112), .call (.k (.c (.fn 32 []))) [(.t 110), (.t 111)], none⟩, ⟨(some 109), .mov (.t 112), none⟩, ⟨(some 113), .ext (.t 109) 0, none⟩, ⟨(some 114), .ext (.t 109) 1, none⟩, ⟨(some 20), .mov (.t 113), none⟩, ⟨(some 21), .mov (.t 114), none⟩])
  (.seq (.seq (.region [⟨(some 115), .mov (.t 15), none⟩, ⟨(some 116), .mov (.t 6), none⟩, ⟨(some 117), .bin .gtr .int (.t 115) (.t 116), none⟩, ⟨(some 118), .mov (.t 117), none⟩, ⟨(some 119), .mov (.t 19), some (118, false)⟩, ⟨(some 120), .mov (.t 21), some (118, false)⟩, ⟨(some 121), .bin .neq .int (.t 119) (.t 120), some (118, false)⟩, ⟨(some 122), .pick (.t 118) (.k (.c (.bool true))) (.t 121), none⟩, ⟨(some 123), .mov (.t 122), none⟩, ⟨(some 124), .mov (.t 19), some (123, false)⟩, ⟨(some 125), .bin .neq .int (.t 124) (.k (.c (.int .i64 0))), some (123, false)⟩, ⟨(some 126), .pick (.t 123) (.k (.c (.bool true))) (.t 125), none⟩, ⟨(some 127), .mov (.t 126), none⟩, ⟨(some 128), .mov (.t 18), some (127, false)⟩, ⟨(some 129), .mov (.t 20), some (127, false)⟩, ⟨(some 130), .call (.k (.c (.fn 33 []))) [(.t 128), (.t 129)], some (127, false)⟩, ⟨(some 131), .un .not (.t 130), some (127, false)⟩, ⟨(some 132), .pick (.t 127) (.k (.c (.bool true))) (.t 131), none⟩, ⟨(some 133), .mov (.t 132), none⟩, ⟨(some 134), .mov (.t 20), some (133, false)⟩, ⟨(some 135), .len false (.t 134), some (133, false)⟩, ⟨(some 136), .mov (.t 15), some (133, false)⟩, ⟨(some 137), .bin .gtr .int (.t 135) (.t 136), some (133, false)⟩, ⟨(some 138), .pick (.t 133) (.k (.c (.bool true))) (.t 137), none⟩])
  (.cond (.t 138) (.seq (.region [⟨(some 4), .mov (.k (.c (.bool false))), none⟩])
  .ret) .skip))
  (.seq (.seq (.region [⟨(some 22), .mov (.k (.c (.int .i64 0))), none⟩])
  (.block 2 (.loop l5_2)))
  (.seq (.region [⟨(some 4), .mov (.k (.c (.bool true))), none⟩])
  .ret))))))))))))))), [.tmp 4], true⟩
/-- loop.example/g01263/spec.CountWood -/
def l15_0 : KC := (.seq (.seq (.region [⟨(some 13), .mov (.t 5), none⟩, ⟨(some 14), .bin .neq .int (.t 13) (.k (.c (.int .u64 0))), none⟩])
  (.cond (.t 14) .skip (.exit 2)))
  (.seq (.block 3 (.region [⟨(some 17), .mov (.t 3), none⟩, ⟨(some 18), .mov (.t 5), none⟩, ⟨(some 19), .bin .and .int (.t 18) (.k (.c (.int .u64 1))), none⟩, ⟨(some 20), .conv .i64 (.t 19), none⟩, ⟨(some 21), .bin .add .int (.t 17) (.t 20), none⟩, ⟨(some 3), .mov (.t 21), none⟩]))
  (.region [⟨(some 15), .mov (.t 5), none⟩, ⟨(some 16), .bin .shr .int (.t 15) (.k (.c (.int .u64 1))), none⟩, ⟨(some 5), .mov (.t 16), none⟩])))
def l15_1 : KC := (.seq (.seq (.region [⟨(some 6), .mov (.t 4), none⟩, ⟨(some 7), .bin .lss .int (.t 6) (.k (.c (.int .i64 4))), none⟩])
  (.cond (.t 7) .skip (.exit 0)))
  (.seq (.block 1 (.seq (.region [⟨(some 10), .mov (.t 4), none⟩, ⟨(some 11), .idxA 4 1 (.t 1) (.t 10), none⟩, ⟨(some 12), .load1 (.t 11), none⟩, ⟨(some 5), .mov (.t 12), none⟩])
  (.block 2 (.loop l15_0))))
  (.region [⟨(some 8), .mov (.t 4), none⟩, ⟨(some 9), .bin .add .int (.t 8) (.k (.c (.int .i64 1))), none⟩, ⟨(some 4), .mov (.t 9), none⟩])))
def k15 : KF := ⟨23, (.seq (.region [⟨(some 1), .box 25 (.t 0), none⟩, ⟨(some 2), .mov (.k (.c (.int .i64 0))), none⟩])
  (.seq (.region [⟨(some 3), .mov (.k (.c (.int .i64 0))), none⟩])
  (.seq (.seq (.region [⟨(some 4), .mov (.k (.c (.int .i64 0))), none⟩])
  (.block 0 (.loop l15_1)))
  (.seq (.region [⟨(some 22), .mov (.t 3), none⟩, ⟨(some 2), .mov (.t 22), none⟩])
  .ret)))), [.tmp 2], true⟩
theorem c15 : kk 15 = some k15 := by kernel_rfl
/-- loop.example/g01263/laws.toWood -/
def l16_0 : KC := (.seq (.seq (.region [⟨(some 5), .mov (.t 4), none⟩, ⟨(some 6), .bin .lss .int (.t 5) (.k (.c (.int .i64 4))), none⟩])
  (.cond (.t 6) .skip (.exit 0)))
  (.seq (.block 1 (.region [⟨(some 9), .mov (.t 4), none⟩, ⟨(some 10), .mov (.t 4), none⟩, ⟨(some 11), .idxA 4 1 (.t 1) (.t 10), none⟩, ⟨(some 12), .load1 (.t 11), none⟩, ⟨(some 13), .idxA 4 1 (.t 3) (.t 9), none⟩, ⟨none, .store 1 (.t 13) (.t 12), none⟩]))
  (.region [⟨(some 7), .mov (.t 4), none⟩, ⟨(some 8), .bin .add .int (.t 7) (.k (.c (.int .i64 1))), none⟩, ⟨(some 4), .mov (.t 8), none⟩])))
def k16 : KF := ⟨15, (.seq (.region [⟨(some 1), .box 23 (.t 0), none⟩, ⟨(some 2), .alloc 25 [(.int .u64 0), (.int .u64 0), (.int .u64 0), (.int .u64 0)], none⟩])
  (.seq (.region [⟨(some 3), .alloc 25 [(.int .u64 0), (.int .u64 0), (.int .u64 0), (.int .u64 0)], none⟩])
  (.seq (.seq (.region [⟨(some 4), .mov (.k (.c (.int .i64 0))), none⟩])
  (.block 0 (.loop l16_0)))
  (.seq (.region [⟨(some 14), .loadN 4 (.t 3), none⟩, ⟨none, .store 4 (.t 2) (.t 14), none⟩])
  .ret)))), [.cellN 2 4], true⟩
theorem c16 : kk 16 = some k16 := by kernel_rfl
/-- loop.example/g01263/impl.CountWood -/
def l17_0 : KC := (.seq (.region [⟨(some 8), .bin .lss .int (.t 7) (.k (.c (.int .i64 4))), none⟩])
  (.seq (.cond (.t 8) .skip (.exit 0))
  (.seq (.block 1 (.seq (.region [⟨(some 9), .idx1 4 (.t 6) (.t 7), none⟩, ⟨(some 5), .mov (.t 9), none⟩])
  (.region [⟨(some 10), .mov (.t 3), none⟩, ⟨(some 11), .mov (.t 5), none⟩, ⟨(some 12), .call (.k (.c (.fn 64 []))) [(.t 11)], none⟩, ⟨(some 13), .bin .add .int (.t 10) (.t 12), none⟩, ⟨(some 3), .mov (.t 13), none⟩])))
  (.region [⟨(some 14), .bin .add .int (.t 7) (.k (.c (.int .i64 1))), none⟩, ⟨(some 7), .mov (.t 14), none⟩]))))
def k17 : KF := ⟨16, (.seq (.region [⟨(some 1), .box 25 (.t 0), none⟩, ⟨(some 2), .mov (.k (.c (.int .i64 0))), none⟩])
  (.seq (.region [⟨(some 3), .mov (.k (.c (.int .i64 0))), none⟩])
  (.seq (.seq (.region [⟨(some 6), .loadN 4 (.t 1), none⟩, ⟨(some 7), .mov (.k (.c (.int .i64 0))), none⟩])
  (.block 0 (.loop l17_0)))
  (.seq (.region [⟨(some 15), .mov (.t 3), none⟩, ⟨(some 2), .mov (.t 15), none⟩])
  .ret)))), [.tmp 2], true⟩
theorem c17 : kk 17 = some k17 := by kernel_rfl
/-- math/bits.OnesCount64 -/
def k64 : KF := ⟨35, (.seq (.region [⟨(some 2), .mov (.k (.c (.int .i64 0))), none⟩])
  (.seq (.region [⟨(some 3), .mov (.t 0), none⟩, ⟨(some 4), .bin .shr .int (.t 3) (.k (.c (.int .u64 1))), none⟩, ⟨(some 5), .bin .and .int (.t 4) (.k (.c (.int .u64 6148914691236517205))), none⟩, ⟨(some 6), .mov (.t 0), none⟩, ⟨(some 7), .bin .and .int (.t 6) (.k (.c (.int .u64 6148914691236517205))), none⟩, ⟨(some 8), .bin .add .int (.t 5) (.t 7), none⟩, ⟨(some 0), .mov (.t 8), none⟩])
  (.seq (.region [⟨(some 9), .mov (.t 0), none⟩, ⟨(some 10), .bin .shr .int (.t 9) (.k (.c (.int .u64 2))), none⟩, ⟨(some 11), .bin .and .int (.t 10) (.k (.c (.int .u64 3689348814741910323))), none⟩, ⟨(some 12), .mov (.t 0), none⟩, ⟨(some 13), .bin .and .int (.t 12) (.k (.c (.int .u64 3689348814741910323))), none⟩, ⟨(some 14), .bin .add .int (.t 11) (.t 13), none⟩, ⟨(some 0), .mov (.t 14), none⟩])
  (.seq (.region [⟨(some 15), .mov (.t 0), none⟩, ⟨(some 16), .bin .shr .int (.t 15) (.k (.c (.int .u64 4))), none⟩, ⟨(some 17), .mov (.t 0), none⟩, ⟨(some 18), .bin .add .int (.t 16) (.t 17), none⟩, ⟨(some 19), .bin .and .int (.t 18) (.k (.c (.int .u64 1085102592571150095))), none⟩, ⟨(some 0), .mov (.t 19), none⟩])
  (.seq (.region [⟨(some 20), .mov (.t 0), none⟩, ⟨(some 21), .mov (.t 0), none⟩, ⟨(some 22), .bin .shr .int (.t 21) (.k (.c (.int .u64 8))), none⟩, ⟨(some 23), .bin .add .int (.t 20) (.t 22), none⟩, ⟨(some 0), .mov (.t 23), none⟩])
  (.seq (.region [⟨(some 24), .mov (.t 0), none⟩, ⟨(some 25), .mov (.t 0), none⟩, ⟨(some 26), .bin .shr .int (.t 25) (.k (.c (.int .u64 16))), none⟩, ⟨(some 27), .bin .add .int (.t 24) (.t 26), none⟩, ⟨(some 0), .mov (.t 27), none⟩])
  (.seq (.region [⟨(some 28), .mov (.t 0), none⟩, ⟨(some 29), .mov (.t 0), none⟩, ⟨(some 30), .bin .shr .int (.t 29) (.k (.c (.int .u64 32))), none⟩, ⟨(some 31), .bin .add .int (.t 28) (.t 30), none⟩, ⟨(some 0), .mov (.t 31), none⟩])
  (.seq (.region [⟨(some 32), .mov (.t 0), none⟩, ⟨(some 33), .conv .i64 (.t 32), none⟩, ⟨(some 34), .bin .and .int (.t 33) (.k (.c (.int .i64 127))), none⟩, ⟨(some 2), .mov (.t 34), none⟩])
  .ret)))))))), [.tmp 2], true⟩
theorem c64 : kk 64 = some k64 := by kernel_rfl
end Go.Proofs.Ytlidldkelkihlaa
